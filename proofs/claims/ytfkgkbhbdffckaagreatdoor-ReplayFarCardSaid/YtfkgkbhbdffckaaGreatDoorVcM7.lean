/-
  Part 7.
-/
import Derived.Test.YtfkgkbhbdffckaaGreatDoorVcM6
set_option linter.all false
set_option maxHeartbeats 8000000
set_option maxRecDepth 100000
namespace Go.Proofs.YtfkgkbhbdffckaaGreatDoor
open Go.Fw
section
variable {m:DSy} {t:DTh} {i:Int} {x:TStmt} {p:TProg}
theorem actD_l:(actD m t i x).1.l=m.l:=by
 unfold actD casD ownD_; repeat' split
 all_goals rfl
theorem actD_room:(actD m t i x).1.room=m.room:=by
 unfold actD casD ownD_; repeat' split
 all_goals rfl
theorem actD_p:(actD m t i x).1.p=m.p:=by
 unfold actD casD ownD_; repeat' split
 all_goals rfl
theorem actD_pile:(actD m t i x).2.1.pile=t.pile:=by
 unfold actD setD putD; repeat' split
 all_goals rfl
theorem actD_names:(actD m t i x).2.1.names=t.names:=by
 unfold actD setD putD; repeat' split
 all_goals rfl
theorem putL_lenD {room:Int} {l:List TEntry} {y:TEntry}:(putL room l y).length<=l.length\/((putL room l y).length:Int)<=room:=by
 unfold putL; split
 ·rename_i h; right; simp; omega
 left; exact Nat.le_refl _
theorem actD_ok {φ:TStmt->Prop} (h:DTOk φ t) (hr:m.room<=16):DTOk φ (actD m t i x).2.1:=by
 have h1:=h.p; have h2:=h.rl; have h3:=h.nb; have h4:=h.bl; have h5:=h.cl
 have key:∀ y,DTOk φ (putD m t y):=λ y=>by
  have h6:=putL_lenD (room:=m.room) (l:=t.buf) (y:=y)
  exact ⟨h1,h2,h3,by show (putL m.room t.buf y).length<=1000; omega,h5⟩
 unfold actD; repeat' split
 all_goals first
  | exact h
  | exact h.set _ _
  | exact key _
theorem actD_mem (h:MOk m.mem):MOk (actD m t i x).1.mem/\(actD m t i x).1.mem.of=m.mem.of/\(actD m t i x).1.mem.firsts=m.mem.firsts:=by
 unfold actD casD ownD_; repeat' split
 all_goals first
  | exact ⟨h,rfl,rfl⟩
  | exact ⟨writeM_ok h,writeM_of _ _ _,writeM_firsts _ _ _⟩
theorem actD_MB {n:Nat} (h:MB m.mem n):MB (actD m t i x).1.mem (n+1):=by
 unfold actD casD ownD_; repeat' split
 all_goals first
  | exact h.mono (Nat.le_succ n)
  | exact h.write
theorem actD_ow:(actD m t i x).1.owners.length=m.owners.length:=by
 unfold actD casD ownD_; repeat' split
 all_goals first
  | rfl
  | exact List.length_set
theorem popD_ok {φ:TStmt->Prop} (h:DTOk φ t):DTOk φ {t with pile:=popD t.pile}:=by
 refine h.pile h.p.pop ?_
 match hp:t.pile with
 | []=>exact Nat.le_refl _
 | (.nil,_)::q=>show costP q<=_; rw [costP_cons]; omega
 | (.cons y a b r,e)::q=>have:=pop_lt (p:=(.cons y a b r,e)::q) rfl; omega
theorem goD_rest {cs ls:List ByteArray} (h:DOk cs ls t):DRest (goD t):=λ hf=>goFD_st _ (goD_spec h).1 h hf
theorem doneDT_ok (hm:DSOk m) (ht:t∈m.l):DOk (cellNs m.p) (lockNs m.p) (doneDT m t i x)/\DRest (doneDT m t i x)/\(doneDT m t i x).names=t.names:=by
 have h1:DTOk (StD (cellNs m.p) (lockNs m.p) t.names) { (actD m t i x).2.1 with pile:=popD (actD m t i x).2.1.pile}:=popD_ok (actD_ok (hm.th t ht) hm.rm.2)
 have h2:DOk (cellNs m.p) (lockNs m.p) { (actD m t i x).2.1 with pile:=popD (actD m t i x).2.1.pile}:=by
  show DTOk (StD _ _ (actD m t i x).2.1.names) _
  rw [actD_names]; exact h1
 exact ⟨(goD_spec h2).2.1,goD_rest h2,(goD_spec h2).2.2.trans actD_names⟩
theorem mem_setD {β:Type} {l:List β} {k:Nat} {a y:β} (h:y∈l.set k a):y=a\/y∈l:=(List.mem_or_eq_of_mem_set h).symm
theorem stepD_ok (hm:DSOk m):DSOk (stepD m i).1/\(stepD m i).1.p=m.p/\(∀ n,MB m.mem n->MB (stepD m i).1.mem (n+1))/\(stepD m i).1.l.length=m.l.length:=by
 unfold stepD
 split
 ·exact ⟨hm,rfl,λ n h=>h.mono (Nat.le_succ n),rfl⟩
 rename_i t ht
 have htm:=List.mem_of_getElem? ht
 split
 ·exact ⟨⟨hm.mem,hm.th,hm.tl,hm.ow,hm.rm,hm.st,hm.pz⟩,rfl,λ n h=>h.mono (Nat.le_succ n),rfl⟩
 split
 ·exact ⟨hm,rfl,λ n h=>h.mono (Nat.le_succ n),rfl⟩
 rename_i x _ _ _
 split
 ·exact ⟨⟨hm.mem,hm.th,hm.tl,hm.ow,hm.rm,hm.st,hm.pz⟩,rfl,λ n h=>h.mono (Nat.le_succ n),rfl⟩
 obtain ⟨d1,d2,_⟩:=doneDT_ok (i:=i) (x:=x) hm htm
 have hp:=actD_p (m:=m) (t:=t) (i:=i) (x:=x)
 refine ⟨⟨(actD_mem hm.mem).1,λ y hy=>?_,by show (m.l.set _ _).length<=_; rw [List.length_set]; exact hm.tl,?_,by show 1<=(actD m t i x).1.room/\_; rw [actD_room]; exact hm.rm,λ y hy=>?_,?_⟩,hp,λ n h=>actD_MB h,List.length_set⟩
 ·show DOk (cellNs (actD m t i x).1.p) (lockNs (actD m t i x).1.p) y
  rw [hp]
  rcases mem_setD hy with rfl | hy
  ·exact d1
  exact hm.th y hy
 ·show (actD m t i x).1.owners.length=(lockNs (actD m t i x).1.p).length
  rw [actD_ow,hp]; exact hm.ow
 ·rcases mem_setD hy with rfl | hy
  ·exact d2
  exact hm.st y hy
 show PZ (actD m t i x).1.p; rw [hp]; exact hm.pz
theorem takeL_lenD {l:List TEntry} {i:Int}:(takeL l i).length<=l.length:=by
 unfold takeL; split
 ·exact List.length_eraseIdx_le ..
 exact Nat.le_refl _
theorem outD_ok {q:TPick} (hm:DSOk m) (ht:m.l[q.t.toNat]? = some t):DSOk (outD m t q)/\(∀ n,MB m.mem n->MB (outD m t q).mem (n+1)):=by
 have htm:=List.mem_of_getElem? ht
 have h1:=hm.th t htm
 refine ⟨⟨(outMem_ok hm.mem).1,λ y hy=>?_,by show (m.l.set _ _).length<=_; rw [List.length_set]; exact hm.tl,hm.ow,hm.rm,λ y hy=>?_,hm.pz⟩,λ n h=>h.outMem⟩
 ·rcases mem_setD hy with rfl | hy
  ·have:=takeL_lenD (l:=t.buf) (i:=q.i)
   exact ⟨h1.p,h1.rl,h1.nb,by show (takeL t.buf q.i).length<=1000; have:=h1.bl; omega,h1.cl⟩
  exact hm.th y hy
 rcases mem_setD hy with rfl | hy
 ·exact hm.st t htm
 exact hm.st y hy
structure CkD (p:TProg):Prop where
 f:PF p
 big:bigM p=false
 w:∀ t∈thsM p,wildL t.body=false
 tw:twiceB (declsM p)=false
 u:∀ t∈thsM p,∀ x∈t.body,stmtB p t.regs x=false
theorem ck_spec (h:checkE p=0):CkD p:=by
 unfold checkE at h
 split at h
 ·cases h
 rename_i h1
 split at h
 ·cases h
 rename_i h2
 split at h
 ·cases h
 rename_i h3
 split at h
 ·cases h
 rename_i h4
 split at h
 ·cases h
 rename_i h5
 split at h
 ·cases h
 rename_i h6
 simp only [Bool.not_eq_true,List.any_eq_false] at h2 h3 h4 h6
 exact ⟨rightP_spec (by simpa using h1),h2,λ t ht=>by simpa using h3 t ht,h4,λ t ht x hx=>by simpa using h6 t ht x hx⟩
theorem ok_els:∀ (b:Bk) (n:Int),b.ok n=true->∀ x∈b.flat,x.els<=0\/x.kind=11
 | .nil,_,_,_,h=>by cases h
 | .cons y a b r,n,h,x,hx=>by
  unfold Bk.ok at h
  simp only [Bool.and_eq_true] at h
  obtain ⟨⟨⟨h1,h2⟩,h3⟩,h4⟩:=h
  unfold Bk.flat at hx
  rcases List.mem_cons.1 hx with rfl | hx
  ·unfold Bk.okX at h1; have:=of_decide_eq_true h1; omega
  ·rcases List.mem_append.1 hx with hx | hx
   ·exact ok_els a _ h2 x hx
   ·rcases List.mem_append.1 hx with hx | hx
    ·exact ok_els b _ h3 x hx
    ·exact ok_els r _ h4 x hx
theorem rightE_len {l:List TNode} (h:rightE l=true):l.length<=40:=by
 unfold rightE at h
 grind
theorem stD_of (hc:CkD p) {t:TThread} (ht:t∈thsM p) {x:TStmt} (hx:x∈t.body) (hf:fitsM x=true) (he:x.els<=0\/x.kind=11):StD (cellNs p) (lockNs p) t.regs x:=by
 have hu:=hc.u t ht x hx
 have hq:=fits_q hf
 have hff:=fits_spec hf
 unfold stmtB at hu
 simp only [Bool.or_eq_false_iff,Bool.and_eq_false_iff,decide_eq_false_iff_not,Decidable.not_not] at hu
 obtain ⟨⟨⟨⟨⟨u1,u2⟩,u3⟩,u4⟩,_⟩,_⟩:=hu
 have hel:x.e.length<=1000:=by
  rcases hff.e with h | h
  ·have:=rightE_len h.2; omega
  ·rw [h.2]; decide
 have hfl:x.f.length<=1000:=by
  rcases hff.f with h | h
  ·have:=rightE_len h.2; omega
  ·rw [h.2]; decide
 refine ⟨hff.kind,⟨hel,hfl⟩,λ h=>by have:=hq.2 h; omega,λ h=>by omega,λ h=>?_,λ h=>by omega,λ h=>by omega⟩
 rcases u1 with u1 | u1
 ·exfalso
  have hr:=hff.reg
  rcases hr with ⟨_,h2⟩ | ⟨h1,_⟩
  ·rw [u1,name_nil] at h2; cases h2
  have hk:=hff.kind
  rcases h with h | h | h <;> rw [h] at h1 <;> exact absurd h1 (by decide)
 omega
theorem cost_wild:∀ (b:Bk) (n:Int),1<=n->n<=64->wildB b n=false->(∀ x∈b.flat,x.kind=12->1<=x.n)->n.toNat * costB b<=128 * b.len
 | .nil,n,_,_,_,_=>by simp [costB]
 | .cons y a b r,n,h1,h2,hw,hq=>by
  rw [wildB_cons] at hw
  simp only [Bool.or_eq_false_iff,decide_eq_false_iff_not] at hw
  obtain ⟨⟨w1,w2,w3⟩,w4⟩:=hw
  have qa:∀ x∈a.flat,x.kind=12->1<=x.n:=λ x hx=>hq x (by unfold Bk.flat; simp [hx])
  have qb:∀ x∈b.flat,x.kind=12->1<=x.n:=λ x hx=>hq x (by unfold Bk.flat; simp [hx])
  have qr:∀ x∈r.flat,x.kind=12->1<=x.n:=λ x hx=>hq x (by unfold Bk.flat; simp [hx])
  have ir:=cost_wild r n h1 h2 w4 qr
  rw [costB_cons]
  unfold Bk.len
  obtain ⟨k,rfl⟩:=Int.eq_ofNat_of_zero_le (show 0<=n by omega)
  rw [Int.toNat_natCast] at ir |-
  by_cases hk:y.kind=12
  ·rw [if_pos hk]
   have hy:=hq y (by unfold Bk.flat; exact List.mem_cons_self ..) hk
   unfold wildN at w1 w2
   rw [if_pos hk] at w1 w2
   obtain ⟨j,hj⟩:=Int.eq_ofNat_of_zero_le (show 0<=y.n by omega)
   rw [hj] at w1 w2 hy
   rw [hj,Int.toNat_natCast]
   have hkj:(1:Int)<=(k:Int) * (j:Int):=by
    have:=Int.mul_le_mul (a:=1) (b:=1) (c:=(k:Int)) (d:=(j:Int)) h1 hy (by omega) (by omega)
    omega
   have ia:=cost_wild a _ hkj (by omega) w2 qa
   rw [show ((k:Int) * (j:Int)).toNat=k * j from by rw [<- Int.natCast_mul]; exact Int.toNat_natCast _] at ia
   have hkj2:k * j<=64:=by
    have:((k * j:Nat):Int)<=64:=by rw [Int.natCast_mul]; omega
    omega
   have e:k * (j * (costB a+1)+costB r+1)=k * j * costB a+k * j+k * costB r+k:=by
    rw [Nat.mul_add,Nat.mul_add,Nat.mul_one,<- Nat.mul_assoc,Nat.mul_add,Nat.mul_one]
   rw [e]; omega
  ·rw [if_neg hk]
   unfold wildN at w2 w3
   rw [if_neg hk] at w2 w3
   have ia:=cost_wild a k h1 h2 w2 qa
   have ib:=cost_wild b k h1 h2 w3 qb
   rw [Int.toNat_natCast] at ia ib
   have e:k * (costB a+costB b+costB r+1)=k * costB a+k * costB b+k * costB r+k:=by
    rw [Nat.mul_add,Nat.mul_add,Nat.mul_add,Nat.mul_one]
   rw [e]; omega
theorem bkD_flat {b:Bk} (h:b.str):bkD b.flat=b:=by unfold bkD; rw [bkOf_flat h]; rfl
theorem thD0_ok (hc:CkD p) {t:TThread} (ht:t∈thsM p):DOk (cellNs p) (lockNs p) (thD0 t):=by
 obtain ⟨_,h2,_⟩:=hc.f.ths ht
 obtain ⟨h3,h4,b,h5,h6,h7,_⟩:=rightS_spec h2
 have hb:bkD t.body=b:=by rw [h5]; exact bkD_flat h6
 have hall:allB (StD (cellNs p) (lockNs p) t.regs) b:=(allB_flat b).2 λ x hx=>by
  rw [<- h5] at hx
  exact stD_of hc ht hx (h4 x hx) (ok_els b 0 h7 x (by rw [<- h5]; exact hx))
 have hp0:POk (StD (cellNs p) (lockNs p) t.regs) []:=⟨λ _ h=>(by cases h),λ _ h=>(by cases h),λ _ h=>(by cases h)⟩
 have hw:=hc.w t ht
 rw [h5,wildL_flat h6] at hw
 have hcost:=cost_wild b 1 (by omega) (by omega) hw λ x hx hk=>(((fits_q (h4 x (by rw [h5]; exact hx))).2 hk).1)
 have hbl:b.len<=40:=by rw [<- Bk.flat_len,<- h5]; exact h3
 have hreg:t.regs.length<=4:=by
  have hbg:=hc.big
  unfold bigM at hbg
  simp only [Bool.or_eq_false_iff,List.any_eq_false] at hbg
  have:=hbg.1.2 t ht
  simp at this; omega
 refine ⟨?_,by simp [thD0],by show t.regs.length<=1000; omega,by simp [thD0],?_⟩
 ·show POk _ (pushD (bkD t.body) false [])
  rw [hb]; exact hp0.push h6 hall
 show costP (pushD (bkD t.body) false [])<=10000
 rw [hb,costP_push]
 have:costB b<=5120:=by
  have e:(1:Int).toNat * costB b=costB b:=Nat.one_mul _
  omega
 simp only [costP,List.map_nil,List.sum_nil]; omega
theorem th0_none:DOk (cellNs p) (lockNs p) (thD0 ⟨⟨#[]⟩,[],[],0⟩):=by
 refine ⟨⟨λ _ h=>(by cases h),λ _ h=>(by cases h),λ _ h=>(by cases h)⟩,rfl,(by decide:(0:Nat)<=1000),(by decide:(0:Nat)<=1000),(by decide:(0:Nat)<=10000)⟩
theorem beginD_ok {l:List TThread} (hm:MOk m.mem) (hr:1<=m.room/\m.room<=16) (hz:PZ m.p) (hl:l.length<=1000) (h:∀ t∈l,DOk (cellNs m.p) (lockNs m.p) (thD0 t)):DSOk (beginD m l):=by
 refine ⟨hm,λ t ht=>?_,by show (l.map thD).length<=1000; rw [List.length_map]; exact hl,by show (List.replicate _ _).length=_; rw [List.length_replicate]; rfl,hr,λ t ht=>?_,hz⟩
 ·obtain ⟨u,hu,rfl⟩:=List.mem_map.1 ht
  exact (goD_spec (h u hu)).2.1
 obtain ⟨u,hu,rfl⟩:=List.mem_map.1 ht
 exact goD_rest (h u hu)
theorem recD_ok (hc:CkD m.p):(recD m).length<=1/\∀ t∈recD m,DOk (cellNs m.p) (lockNs m.p) (thD0 t):=by
 unfold recD
 split
 ·exact ⟨Nat.le_refl _,λ t ht=>by rw [List.mem_singleton.1 ht]; exact th0_none⟩
 exact ⟨hc.f.one,λ t ht=>thD0_ok hc (List.mem_append_right _ ht)⟩
theorem picksDTo_mem {k:Nat} {x:TPick} (h:x∈picksDTo m k):∃ i t,i<k/\m.l[i]? = some t/\x∈picksDT m i t:=by
 unfold picksDTo at h
 rw [List.mem_flatMap] at h
 obtain ⟨i,hi,hx⟩:=h
 cases ht:m.l[i]? with
 | none=>rw [ht] at hx; cases hx
 | some t=>rw [ht] at hx; exact ⟨i,t,List.mem_range.1 hi,ht,hx⟩
theorem picksDT_in {i:Nat} {t:DTh} {x:TPick} (h:x∈picksDT m i t):x.t=i/\x.cut=[]/\((x.kind=1/\canD m t=true/\x.i=0)\/(x.kind=2/\x.i∈cansL t.buf)):=by
 unfold picksDT at h
 rw [List.mem_append] at h
 rcases h with h | h
 ·split at h
  ·rename_i hc; simp at h; subst h; exact ⟨rfl,rfl,.inl ⟨rfl,hc,rfl⟩⟩
  cases h
 rw [List.mem_map] at h; obtain ⟨k,hk,rfl⟩:=h; exact ⟨rfl,rfl,.inr ⟨rfl,hk⟩⟩
theorem anyD {q:TPick} (h:(picksD m).any (sameP q)=true):m.fault=0/\0<=q.t/\q.cut.length=0/\∃ t,m.l[q.t.toNat]? = some t/\((q.kind=1/\canD m t=true)\/(q.kind=2/\q.i∈cansL t.buf)):=by
 rw [List.any_eq_true] at h
 obtain ⟨x,hx,hs⟩:=h
 unfold picksD at hx
 split at hx
 ·cases hx
 rename_i hf
 obtain ⟨i,t,_,ht,hx2⟩:=picksDTo_mem hx
 obtain ⟨h1,_,h2⟩:=picksDT_in hx2
 unfold sameP at hs
 simp only [Bool.and_eq_true,decide_eq_true_eq] at hs
 have e:q.t=(i:Int):=by omega
 refine ⟨by omega,by omega,hs.2,t,by rw [e]; exact ht,?_⟩
 rcases h2 with ⟨a,b,_⟩ | ⟨a,b⟩
 ·exact .inl ⟨by omega,b⟩
 exact .inr ⟨by omega,by rw [<- hs.1.2]; exact b⟩
theorem canD_top (h:canD m t=true):∃ x a b,topD t.pile=some (x,a,b):=by
 unfold canD at h
 split at h
 ·cases h
 rename_i x a b hx; exact ⟨x,a,b,hx⟩
theorem doD_ok {q:TPick} (hm:DSOk m) (hc:CkD m.p):DSOk (doD m q).1/\(doD m q).1.p=m.p/\(∀ n,MB m.mem n->MB (doD m q).1.mem (n+1)):=by
 unfold doD
 cases hi:crashPD m q with
 | some img=>
  have hi2:imageM m.mem q.cut=some img:=by unfold crashPD at hi; split at hi; exact hi; cases hi
  obtain ⟨r1,r2⟩:=recD_ok hc
  refine ⟨beginD_ok (crashM_ok hm.mem hi2) hm.rm hm.pz (by omega) r2,rfl,λ n h k=>?_⟩
  show ([]:List TWrite).length<=_
  exact Nat.zero_le _
 | none=>
  dsimp only
  split
  ·split
   ·split
    ·rename_i t ht
     obtain ⟨h1,h2⟩:=outD_ok hm ht
     exact ⟨h1,rfl,h2⟩
    ·exact ⟨hm,rfl,λ n h=>h.mono (Nat.le_succ n)⟩
   ·obtain ⟨h1,h2,h3,_⟩:=stepD_ok (i:=q.t) hm
    exact ⟨h1,h2,h3⟩
  ·exact ⟨hm,rfl,λ n h=>h.mono (Nat.le_succ n)⟩
theorem ofD_at {i:Nat} (h:i<(cellNs p).length):(ofD p)[i]? = some (lineM p i):=by unfold ofD; rw [List.getElem?_map,List.getElem?_range h]; rfl
theorem cell_len (p:TProg):(cellNs p).length=(allC p).length:=by unfold cellNs; rw [List.length_map]
theorem big20 (hc:CkD p):(allC p).length<=20:=by
 have hb:=hc.big
 unfold bigM at hb
 simp only [Bool.or_eq_false_iff,List.any_eq_false,decide_eq_false_iff_not,decide_eq_true_eq] at hb
 obtain ⟨⟨h1,_⟩,⟨⟨⟨⟨h2,h3⟩,_⟩,_⟩,_⟩,_⟩:=hb
 have h4:∀ ls:List (List TCell),(∀ l∈ls,¬ 4<(l.length:Int))->ls.flatten.length<=4 * ls.length:=by
  intro ls
  induction ls with
  | nil=>intro _; simp
  | cons l r ih=>
   intro h
   have a:=h l (List.mem_cons_self ..)
   have b:=ih λ l hl=>h l (List.mem_cons_of_mem _ hl)
   simp only [List.flatten_cons,List.length_append,List.length_cons]; omega
 have h5:=h4 p.lines h1
 unfold allC; rw [List.length_append]; omega
theorem ofD_ln (hc:CkD p) {k:Nat} {n:Int} (hk:(k:Int)<staysM p) (hn:(ofD p)[k]? = some n):(n=wantM (ofD p) k\/(0<k/\n=wantM (ofD p) k - 1))/\0<=n/\n<=k:=by
 have hst:=stays_le p
 have hcl:=cell_len p
 have hne:∀ l∈p.lines,l≠[]:=λ l hl=>(hc.f.lines l hl).1
 have e1:∀ j:Nat,(j:Int)<staysM p->(ofD p)[j]? = some (lineF p.lines 0 j):=λ j hj=>by rw [ofD_at (by omega),lineM_in (by omega)]
 rw [e1 k hk] at hn; cases hn
 have hle:∀ j:Nat,lineF p.lines 0 j<=j:=by
  intro j
  induction j with
  | zero=>
   cases hl:p.lines with
   | nil=>unfold lineF; omega
   | cons l r=>
    have:=List.length_pos_iff.2 (hne l (by rw [hl]; exact List.mem_cons_self ..))
    unfold lineF; rw [if_pos (by omega)]; omega
  | succ j ih=>
   have:=(lineG_b p.lines 0 (j:Int) (by omega) hne).2.2
   have e:((j+1:Nat):Int)=(j:Int)+1:=by omega
   rw [e]; omega
 refine ⟨?_,(lineG_b p.lines 0 (k:Int) (by omega) hne).1,hle k⟩
 cases k with
 | zero=>
  left
  have:=hle 0
  have:=(lineG_b p.lines 0 ((0:Nat):Int) (by omega) hne).1
  show _=0
  omega
 | succ k=>
  have h3:=(lineG_b p.lines 0 (k:Int) (by omega) hne).2.2
  have e:((k+1:Nat):Int)=(k:Int)+1:=by omega
  have ew:wantM (ofD p) (k+1)=lineF p.lines 0 (k:Int)+1:=by
   unfold wantM; rw [if_neg (by omega),Nat.add_sub_cancel,List.getD_eq_getElem?_getD,e1 k (by omega)]; rfl
  rw [ew,e]
  rcases h3 with h3 | h3
  ·exact .inr ⟨by omega,by omega⟩
  ·exact .inl h3
theorem newD_mem (hc:CkD p):MOk (newM (ofD p) (staysM p) (firstsM p)):=by
 have hst:=stays_le p
 have hcl:=cell_len p
 have h20:=big20 hc
 have hne:∀ l∈p.lines,l≠[]:=λ l hl=>(hc.f.lines l hl).1
 have hol:(ofD p).length=(allC p).length:=by unfold ofD; rw [List.length_map,List.length_range,hcl]
 have hfl:(firstsM p).length=(allC p).length:=by unfold firstsM; rw [List.length_map]
 have hl:((ofD p).take (staysM p).toNat).length=(staysM p).toNat:=by rw [List.length_take]; omega
 have e1:∀ j:Nat,(j:Int)<staysM p->(ofD p)[j]? = some (lineF p.lines 0 j):=λ j hj=>by rw [ofD_at (by omega),lineM_in (by omega)]
 have hlm:0<(staysM p).toNat->linesM ((ofD p).take (staysM p).toNat)=lineF p.lines 0 ((staysM p).toNat - 1:Nat)+1:=λ h0=>by
  rw [linesM_take h0 (by omega),List.getD_eq_getElem?_getD,e1 _ (by omega)]; rfl
 refine ⟨?_,?_,rfl,?_,λ n hn=>?_,?_,λ k x hx=>by cases hx⟩
 ·show ((ofD p).take (staysM p).toNat).length<=(firstsM p).length; omega
 ·show (firstsM p).length<=20; omega
 ·show ((firstsM p).take (staysM p).toNat).length=((ofD p).take (staysM p).toNat).length; rw [hl,List.length_take]; omega
 ·obtain ⟨i,hi⟩:=List.mem_iff_getElem?.1 (show n∈(ofD p).take (staysM p).toNat from hn)
  have hlt:=(List.getElem?_eq_some_iff.1 hi).1
  rw [hl] at hlt
  rw [List.getElem?_take,if_pos hlt,e1 i (by omega)] at hi
  cases hi
  show 0<=_/\_<linesM ((ofD p).take (staysM p).toNat)
  rw [hlm (by omega)]
  have h3:=lineG_b p.lines 0 (i:Int) (by omega) hne
  have h4:=h3.2.1 (((staysM p).toNat - 1:Nat):Int) (by omega)
  exact ⟨h3.1,by omega⟩
 show linesM ((ofD p).take (staysM p).toNat)<=20
 by_cases h0:(staysM p).toNat=0
 ·rw [h0,List.take_zero]; decide
 rw [hlm (by omega)]
 have:=(ofD_ln hc (k:=(staysM p).toNat - 1) (by omega) (e1 _ (by omega))).2.2
 omega
theorem newD_ok (hz:PZ p) (hc:CkD p) {room:Int} (hr:1<=room/\room<=16):DSOk (newD p room):=by
 refine beginD_ok (m:=newD0 p room) (newD_mem hc) hr hz (by have:=hz.threads; show p.threads.length<=_; omega) λ t ht=>thD0_ok hc (List.mem_append_left _ ht)
end
theorem C36 (K:World->Prop) (p:Nat) (m:DSy) (i:Int) (t:DTh) (F:Nat->Prop) (w:World) (hF:(dsyB K p m).p w F) (hK:∀ w',Chg F w w'->K w') (hmk:DSOk m) (hmb:MB m.mem 1000000) (h0:0<=i) (ht:m.l[i.toNat]? = some t) (htop:t.fault=0->∃ x a b,topD t.pile=some (x,a,b)) :
   CR 36 [.pointer (some ⟨p,0,none⟩),.int .i64 i] w (λ v w'=>v=Flat.val (stepD m i).2/\Mut F (dsyB K p (stepD m i).1) w w'):=by
 have hs:=St.begin hF;have htm:=List.mem_of_getElem? ht;have hok:=hmk.th t htm;have hlt:=(List.getElem?_eq_some_iff.1 ht).1;have hpl:=pile_le hok.p;have hcl:=hok.cl;have hbl:=hok.bl;have hnb:=hok.nb;have hrl:=hok.rl;have how:=hmk.ow;have hlkl:(lockNs m.p).length<=500:=by unfold lockNs; rw [List.length_map]; exact hmk.pz.locks
 have hcll:(cellNs m.p).length<=250500:=cellNs_len hmk.pz.toPS;refine S36_ok _ _ _ _ ?_;unfold S36;refine eop_allocA hs zero42 (λ b4 _ hs=>?_);have hs:=(hs.enc (cs':=Flat.enc (⟨0,0,0,0,0⟩:TEvent)) rfl).p1;obtain ⟨a,hu,hs⟩:=dsyB.open hs;have hplen:=hs.p4.rowsPLen;refine pop_nil (pop_field fld81_6 ?_);refine qop_blk ty79 hs.hb rfl ?_;obtain ⟨e,he⟩:∃ e,a.ps[i.toNat]? = some e:=⟨_,List.getElem?_eq_getElem (by omega)⟩;refine pop_idx sl79 (hs.p3).rd' h0 he (λ q hq=>qop_at ty94 hq ?_);have hs:=dFocus hs.p4 he ht;obtain ⟨bp,nv,rg,pl,es,hk,hs⟩:=dthX.open hs;refine pop_nil (pop_field fld97_4 ?_);refine qop_blk ty3 hs.hb rfl (pop_neq ?_);refine cond_d (λ c=>?_) (λ c=>?_)
 ·have hse:stepD m i=({m with fault:=t.fault,faulty:=i},⟨16,i,t.fault,0,0⟩):=by unfold stepD; rw [ht]; dsimp only; rw [if_pos c]
  refine pop_nil (pop_field fld97_4 ?_);refine qop_blk ty3 hs.hb rfl ?_;have hs:=dthX.shut (Φ:=λ _=>True) (t:=t) hk hs.p4.p4.p4.p4.p4;have hs:=St.unfocus (H:=dthR K m.room) (x:=t) hs.p1.p1 (by omega) hplen he;rw [set_self_get ht] at hs;have hs:=dsyB.shut (m:=m) hu hs.p4.p4.p4.p4;refine callMut2 pl79 hs (H':=λ _=>dsyB K p {m with fault:=t.fault,faulty:=i}) (Φ:=λ v _=>v=Flat.val (⟨16,i,t.fault,0,0⟩:TEvent)) (λ F2 hF2 hfr=>?_) ?_
  ·exact C79 K p m i t.fault F2 _ hF2
  rintro _ _ rfl hs;refine uop_blkV (x:=(⟨16,i,t.fault,0,0⟩:TEvent)) hs.p1 ty42 rfl rfl (λ _ hs=>qop_at ty42 hs.At ?_);rw [hse];exact ⟨rfl,hs.drop.mut⟩
 have hf0:t.fault=0:=by omega
 refine callF pl80 (C80 K e.b t bp nv rg pl es _ _ hs.hb hs.p3.rd' hs.p4.frz.1 (λ _ e=>hK _ (hs.chg.then e)) hok.p (by omega)) ?_;rintro v _ ⟨hex,hv⟩;have hs:=hs.ext hex
 rcases hv with ⟨hno,_⟩ | ⟨x,xa,xb,xv,av,bv,ra,rb,htp,rfl,hxv,_⟩
 ·obtain ⟨_,_,_,h⟩:=htop hf0;rw [hno] at h; cases h
 obtain ⟨ge,gf,rfl,_,_⟩:=dr_stmt (hxv _ (hK _ hs.chg))
 have hxE:∀ w,K w->RdL (λ _=>True) w (Flat.val ge) x.e/\RdL (λ _=>True) w (Flat.val gf) x.f:=λ w hw=>by
  obtain ⟨_,_,h4,h5,h6⟩:=dr_stmt (hxv w hw);cases h4
  exact ⟨h5,h6⟩
 obtain ⟨⟨hk1,hk2⟩,hv1,hv2⟩:=hmk.st t htm hf0 _ _ _ htp;obtain ⟨hx,_,_,_,_,_,_,_,r,en,p',hpe,sr,ar⟩:=hok.top htp;have hst:(Bk.cons x xa xb r).str:=hok.p.st _ (by rw [hpe]; exact List.mem_cons_self ..);have hxe:=hx.e;have ht1:{t with fault:=if (valD t x.e).2=true then t.fault else 2}=t:=by rw [hv1]; rfl
 refine pop_ext rfl (pop_ext rfl ?_);refine pop_ext rfl (pop_ext rfl ?_);have hs:=dthX.shut (Φ:=λ _=>True) (t:=t) hk hs.p4.p4.p4.p4.p4;refine eop_allocA hs zero24 (λ b6 _ hs=>uop_blkV (x:=(⟨x.kind,x.reg,x.name,ge,gf,x.n,x.body,x.els,x.at_⟩:TStmtV)) hs ty24 rfl rfl (λ _ hs=>?_));have hs:=hs.drew;refine pop_nil (pop_field fld81_1 ?_);refine qop_blk ty32 hs.p3.hb rfl (pop_field fld24_2 ?_);refine qop_blk (v:=.string x.name) ty9 hs.hb rfl (pop_nil ?_);refine pop_field fld81_2 (qop_blk ty32 hs.p3.hb rfl ?_);refine pop_field fld24_2 (qop_blk (v:=.string x.name) ty9 hs.hb rfl ?_);refine callP pl81 hs (C81 _ (cellNs m.p) x.name _ (hu.cs _ (hK _ hs.chg)) (by omega)) (λ _ he2 hs=>?_)
 refine ⟨run_loadOne ty32 (hs.p3.hb.cell rfl),?_⟩;refine ⟨run_loadOne ty9 (hs.hb.cell rfl),?_⟩;refine callP pl81 hs (C81 _ (lockNs m.p) x.name _ (hu.ks _ (hK _ hs.chg)) (by omega)) (λ _ he2 hs=>pop_nil ?_);refine pop_field fld81_0 (qop_sub (a.pv) ty40 hs.p3.hb rfl ?_);refine callP pl26 hs (C26 m.p a.pv _ _ (hu.pr _ (hK _ hs.chg)) hmk.pz) (λ _ he2 hs=>eop_allocA hs zero42 (λ b13 _ hs=>?_));have hs:=dsyX.shut (m:=m) (⟨hu,he,hplen,by omega⟩) ((((((hs.enc (cs':=Flat.enc (⟨0,0,0,0,0⟩:TEvent)) rfl).p3).p7).p7).p7).p7);obtain ⟨c,hc⟩:∃ c,c=cellD m x:=⟨_,rfl⟩;obtain ⟨lk,hlk⟩:∃ lk,lk=lockD m x:=⟨_,rfl⟩;obtain ⟨ln,hln⟩:∃ ln,ln=lineD m x:=⟨_,rfl⟩;have hs:=hs.p3.p4.p4.p4
 have hbad0:stepD m i=(if x.kind=10/\m.owners.getD (lockD m x).toNat 0≠i then ({m with fault:=3,faulty:=i},⟨16,i,3,0,0⟩) else ({ (actD m t i x).1 with l:=m.l.set i.toNat (doneDT m t i x)},{ (actD m t i x).2.2 with t:=i})):=by unfold stepD; rw [ht]; dsimp only; rw [if_neg (by omega),htp]
 refine ⟨λ w'=>¬ (x.kind=10/\m.owners.getD (lockD m x).toNat 0≠i)/\St w F [blk b13 (Flat.enc ((actD m t i x).2.2)),blk b6 (Flat.enc (⟨x.kind,x.reg,x.name,ge,gf,x.n,x.body,x.els,x.at_⟩:TStmtV)),blk b4 (Flat.enc (⟨0,0,0,0,0⟩:TEvent)),dthB K e.b m.room (actD m t i x).2.1,dsyX K p (actD m t i x).1 i.toNat e] w',?_,?_⟩
 ·refine pop_field fld24_0 (qop_blk (v:=.int .i64 x.kind) ty3 hs.p1.hb rfl ?_);refine pop_eql (cond_d (λ k2=>?_) (λ k2=>?_))
  ·have hA:(actD m t i x)=(m,setD t x.reg (loadND m t (cellD m x)),loadED m t x):=by unfold actD; rw [if_pos k2]
   have hnb10:¬ (x.kind=10/\m.owners.getD (lockD m x).toNat 0≠i):=by omega
   refine qop_at ty24 hs.p1.At ?_;have hs:=St.join hs.p4.p4;refine callMut2 pl82 hs (H':=λ _=>sep (dthB K e.b m.room (setD t x.reg (loadND m t (cellD m x)))) (dsyX K p m i.toNat e)) (Φ:=λ v _=>v=Flat.val (loadED m t x)) (λ F2 hF2 hfr=>?_) ?_
   ·exact C82 K p m i.toNat e t x ⟨x.kind,x.reg,x.name,ge,gf,x.n,x.body,x.els,x.at_⟩ F2 (cellD m x) _ hF2 (λ w' hc=>hK w' (hfr w' hc).chg) hok hmk.mem hxv (hx.rg (by omega))
   rintro _ _ rfl hs;have hs:=hs.split;refine uop_blkV (x:=(loadED m t x:TEvent)) hs.p2 ty42 rfl rfl (λ _ hs=>?_);have hs:=hs.p2.p2.p4.p4.p4;rw [hA];exact ⟨hnb10,hs⟩
  refine pop_eql (cond_d (λ k3=>?_) (λ k3=>?_))
  ·have hA:(actD m t i x)=(m,putD m t ⟨3,lineD m x,cellD m x,(valD t x.e).1⟩,⟨3,0,cellD m x,(valD t x.e).1,0⟩):=by unfold actD; rw [if_neg k2,if_pos k3]
   have hnb10:¬ (x.kind=10/\m.owners.getD (lockD m x).toNat 0≠i):=by omega
   refine pop_field fld24_3 (qop_blk (v:=Flat.val ge) ty22 hs.p1.hb rfl ?_);have hs:=hs.p3;refine callMut2 pl83 hs (H':=λ _=>dthB K e.b m.room t) (Φ:=λ v _=>v = .tuple #[.int .i64 (valD t x.e).1,.bool (valD t x.e).2]) (λ F2 hF2 hfr=>?_) ?_
   ·have:=C83 K _ e.b m.room t F2 _ x.e _ hF2 (λ w' hc=>hK w' (hfr w' hc).chg) (hxE _ (hK _ hs.chg)).1 (by omega) (by omega);rw [ht1] at this; exact this
   rintro _ _ rfl hs;refine pop_ext rfl (pop_ext rfl ?_);obtain ⟨bp,nv,rg,pl,es,hk,hs⟩:=dthX.open hs;refine pop_nil (pop_field fld97_0 ?_);refine qop_blk ty74 hs.hb rfl (pop (bld152_0_1_2_3 3 (lineD m x) (cellD m x) (valD t x.e).1) ?_);have hs:=hs.p1;refine callMut2 pl84 hs (H':=λ _=>bufO bp m.room (putL m.room t.buf (⟨3,lineD m x,cellD m x,(valD t x.e).1⟩:TEntry))) (Φ:=λ _ _=>True) (λ F2 hF2 hfr=>?_) ?_
   ·exact (C84 bp m.room t.buf (⟨3,lineD m x,cellD m x,(valD t x.e).1⟩:TEntry) F2 _ hF2 (by omega)).mono λ _ _ r=>r.mono λ _ _ h=>⟨trivial,h.2⟩
   rintro _ _ _ hs;refine pop (bld42_0_2_3 3 (cellD m x) (valD t x.e).1) ?_;have hs:=dthX.shut (Φ:=λ _=>True) (t:=putD m t (⟨3,lineD m x,cellD m x,(valD t x.e).1⟩:TEntry)) hk hs.p4.p4.p4.p3.p4;refine uop_blkV (x:=(⟨3,0,cellD m x,(valD t x.e).1,0⟩:TEvent)) hs.p1 ty42 rfl rfl (λ w14' hs=>?_);have hs:=hs.p4.p2.p4.p4.p4;rw [hA];exact ⟨hnb10,hs⟩
  refine pop_eql (cond_d (λ k5=>?_) (λ k5=>?_))
  ·have hA:(actD m t i x)=(m,putD m t ⟨5,lineD m x,0,0⟩,⟨4,0,lineD m x,0,0⟩):=by unfold actD; rw [if_neg k2,if_neg k3,if_pos k5]
   have hnb10:¬ (x.kind=10/\m.owners.getD (lockD m x).toNat 0≠i):=by omega
   have hs:=hs.p3;obtain ⟨bp,nv,rg,pl,es,hk,hs⟩:=dthX.open hs;refine pop_nil (pop_field fld97_0 ?_);refine qop_blk ty74 hs.hb rfl (pop (bld152_0_1 5 (lineD m x)) ?_);have hs:=hs.p1;refine callMut2 pl84 hs (H':=λ _=>bufO bp m.room (putL m.room t.buf (⟨5,lineD m x,0,0⟩:TEntry))) (Φ:=λ _ _=>True) (λ F2 hF2 hfr=>?_) ?_
   ·exact (C84 bp m.room t.buf (⟨5,lineD m x,0,0⟩:TEntry) F2 _ hF2 (by omega)).mono λ _ _ r=>r.mono λ _ _ h=>⟨trivial,h.2⟩
   rintro _ _ _ hs;refine pop (bld42_0_2 4 (lineD m x)) ?_;have hs:=dthX.shut (Φ:=λ _=>True) (t:=putD m t (⟨5,lineD m x,0,0⟩:TEntry)) hk hs.p4.p4.p4.p3.p4;refine uop_blkV (x:=(⟨4,0,lineD m x,0,0⟩:TEvent)) hs.p1 ty42 rfl rfl (λ w16' hs=>?_);have hs:=hs.p4.p2.p4.p4.p4;rw [hA];exact ⟨hnb10,hs⟩
  refine pop_eql (cond_d (λ k6=>?_) (λ k6=>?_))
  ·have hA:(actD m t i x)=(m,putD m t ⟨6,lineD m x,0,0⟩,⟨5,0,lineD m x,0,0⟩):=by unfold actD; rw [if_neg k2,if_neg k3,if_neg k5,if_pos k6]
   have hnb10:¬ (x.kind=10/\m.owners.getD (lockD m x).toNat 0≠i):=by omega
   have hs:=hs.p3;obtain ⟨bp,nv,rg,pl,es,hk,hs⟩:=dthX.open hs;refine pop_nil (pop_field fld97_0 ?_);refine qop_blk ty74 hs.hb rfl (pop (bld152_0_1 6 (lineD m x)) ?_);have hs:=hs.p1;refine callMut2 pl84 hs (H':=λ _=>bufO bp m.room (putL m.room t.buf (⟨6,lineD m x,0,0⟩:TEntry))) (Φ:=λ _ _=>True) (λ F2 hF2 hfr=>?_) ?_
   ·exact (C84 bp m.room t.buf (⟨6,lineD m x,0,0⟩:TEntry) F2 _ hF2 (by omega)).mono λ _ _ r=>r.mono λ _ _ h=>⟨trivial,h.2⟩
   rintro _ _ _ hs;refine pop (bld42_0_2 5 (lineD m x)) ?_;have hs:=dthX.shut (Φ:=λ _=>True) (t:=putD m t (⟨6,lineD m x,0,0⟩:TEntry)) hk hs.p4.p4.p4.p3.p4;refine uop_blkV (x:=(⟨5,0,lineD m x,0,0⟩:TEvent)) hs.p1 ty42 rfl rfl (λ w18' hs=>?_);have hs:=hs.p4.p2.p4.p4.p4;rw [hA];exact ⟨hnb10,hs⟩
  refine pop_eql (cond_d (λ k7=>?_) (λ k7=>?_))
  ·have hA:(actD m t i x)=(m,putD m t ⟨7,0,0,0⟩,⟨6,0,0,0,0⟩):=by unfold actD; rw [if_neg k2,if_neg k3,if_neg k5,if_neg k6,if_pos k7]
   have hnb10:¬ (x.kind=10/\m.owners.getD (lockD m x).toNat 0≠i):=by omega
   have hs:=hs.p3;obtain ⟨bp,nv,rg,pl,es,hk,hs⟩:=dthX.open hs;refine pop_nil (pop_field fld97_0 ?_);refine qop_blk ty74 hs.hb rfl (pop (bld152_0 7) ?_);have hs:=hs.p1;refine callMut2 pl84 hs (H':=λ _=>bufO bp m.room (putL m.room t.buf (⟨7,0,0,0⟩:TEntry))) (Φ:=λ _ _=>True) (λ F2 hF2 hfr=>?_) ?_
   ·exact (C84 bp m.room t.buf (⟨7,0,0,0⟩:TEntry) F2 _ hF2 (by omega)).mono λ _ _ r=>r.mono λ _ _ h=>⟨trivial,h.2⟩
   rintro _ _ _ hs;refine pop (bld42_0 6) ?_;have hs:=dthX.shut (Φ:=λ _=>True) (t:=putD m t (⟨7,0,0,0⟩:TEntry)) hk hs.p4.p4.p4.p3.p4;refine uop_blkV (x:=(⟨6,0,0,0,0⟩:TEvent)) hs.p1 ty42 rfl rfl (λ w20' hs=>?_);have hs:=hs.p4.p2.p4.p4.p4;rw [hA];exact ⟨hnb10,hs⟩
  refine pop_eql (cond_d (λ k8=>?_) (λ k8=>?_))
  ·have hA:(actD m t i x)=(m,t,⟨7,0,0,0,0⟩):=by unfold actD; rw [if_neg k2,if_neg k3,if_neg k5,if_neg k6,if_neg k7,if_pos k8]
   have hnb10:¬ (x.kind=10/\m.owners.getD (lockD m x).toNat 0≠i):=by omega
   refine pop (bld42_0 7) (uop_blkV (x:=(⟨7,0,0,0,0⟩:TEvent)) hs ty42 rfl rfl (λ _ hs=>?_));have hs:=hs.p4.p4.p4.p4.p4;rw [hA];exact ⟨hnb10,hs⟩
  refine pop_eql (cond_d (λ k4=>?_) (λ k4=>?_))
  ·have hA:(actD m t i x)=(casD m t x,setD t x.reg (readV m.mem (cellD m x)),casED m t x):=by unfold actD; rw [if_neg k2,if_neg k3,if_neg k5,if_neg k6,if_neg k7,if_neg k8,if_pos k4]
   have hnb10:¬ (x.kind=10/\m.owners.getD (lockD m x).toNat 0≠i):=by omega
   refine qop_at ty24 hs.p1.At ?_;have hs:=St.join hs.p4.p4;refine callMut2 pl85 hs (H':=λ _=>sep (dthB K e.b m.room (setD t x.reg (readV m.mem (cellD m x)))) (dsyX K p (casD m t x) i.toNat e)) (Φ:=λ v _=>v=Flat.val (casED m t x)) (λ F2 hF2 hfr=>?_) ?_
   ·exact C85 K p m i.toNat e t x ⟨x.kind,x.reg,x.name,ge,gf,x.n,x.body,x.els,x.at_⟩ F2 _ hF2 (λ w' hc=>hK w' (hfr w' hc).chg) hok hmk.mem hxv (hx.rg (by omega)) hmb hxe hv1 hv2
   rintro _ _ rfl hs;have hs:=hs.split;refine uop_blkV (x:=(casED m t x:TEvent)) hs.p2 ty42 rfl rfl (λ _ hs=>?_);have hs:=hs.p2.p2.p4.p4.p4;rw [hA];exact ⟨hnb10,hs⟩
  have hlk0:x.kind=9\/x.kind=10:=by omega
  obtain ⟨j,hj,hj2,_⟩:=place_at (place_mem.1 (hx.lk hlk0));have hjl:=(List.getElem?_eq_some_iff.1 hj2).1;have hjk:lockD m x=(j:Int):=hj;refine pop_eql (cond_d (λ k9=>?_) (λ k9=>?_))
  ·have hA:(actD m t i x)=(ownD_ m x i,t,⟨10,0,lockD m x,0,0⟩):=by unfold actD; rw [if_neg k2,if_neg k3,if_neg k5,if_neg k6,if_neg k7,if_neg k8,if_neg k4,if_pos k9]
   have hnb10:¬ (x.kind=10/\m.owners.getD (lockD m x).toNat 0≠i):=by omega
   have hs:=hs.p4;obtain ⟨a,hX,hs⟩:=dsyX.open hs;refine pop_nil (pop_field fld81_5 ?_);refine qop_blk ty45 hs.hb rfl (pop_own hs.p2 sl45 (show 0<=lockD m x by omega) (show lockD m x<_ by omega) (λ _ h_161=>?_));refine uop_own (i:Int) hs.p2 ty3 h_161 (by omega) (λ _ hs=>pop (bld42_0_2 10 (lockD m x)) ?_);have hs:=dsyX.shut (m:=ownD_ m x i) (⟨⟨hX.1.pr,hX.1.cs,hX.1.ks,hX.1.mem,hX.1.rc⟩,hX.2⟩) hs.p4.p4.p2.p4.p4;refine uop_blkV (x:=(⟨10,0,lockD m x,0,0⟩:TEvent)) hs.p1 ty42 rfl rfl (λ _ hs=>?_);have hs:=hs.p1.p4.p4.p4.p4;rw [hA];exact ⟨hnb10,hs⟩
  have hA:(actD m t i x)=(ownD_ m x (-1),t,⟨11,0,lockD m x,0,0⟩):=by unfold actD; rw [if_neg k2,if_neg k3,if_neg k5,if_neg k6,if_neg k7,if_neg k8,if_neg k4,if_neg k9]
  have hs:=hs.p4;obtain ⟨a,hX,hs⟩:=dsyX.open hs;have hwl:=(hs.p2).rd';obtain ⟨ov,hov⟩:∃ ov,m.owners[(lockD m x).toNat]? = some ov:=⟨_,List.getElem?_eq_getElem (by omega)⟩;have hgd:m.owners.getD (lockD m x).toNat 0=ov:=by rw [List.getD_eq_getElem?_getD,hov]; rfl
  refine pop_nil (pop_field fld81_5 ?_);refine qop_blk ty45 hs.hb rfl (pop_idx sl45 hwl (show 0<=lockD m x by omega) hov (λ q69 h69=>?_));refine qop_at ty3 h69 (pop_neq ?_);refine cond_d (λ c72=>?_) (λ c72=>?_)
  ·have hs:=hs.p4;have hs:=dUnfocus ((dsyX.shut (m:=m) (hX) hs.p4.p4.p4.p4).p4);rw [set_self_get ht] at hs;refine callMut2 pl79 hs (H':=λ _=>dsyB K p {m with fault:=3,faulty:=i}) (Φ:=λ v _=>v=Flat.val (⟨16,i,3,0,0⟩:TEvent)) (λ F2 hF2 hfr=>?_) ?_
   ·exact C79 K p m i 3 F2 _ hF2
   rintro _ _ rfl hs;refine uop_blkV (x:=(⟨16,i,3,0,0⟩:TEvent)) hs.p3 ty42 rfl rfl (λ _ hs=>qop_at ty42 hs.At ?_);have hs:=hs.drop.p1.drop.p1.drop;rw [hbad0,if_pos ⟨by omega,by rw [hgd]; exact c72⟩];exact ⟨rfl,hs.mut⟩
  refine pop_nil (pop_field fld81_5 ?_);refine qop_blk ty45 hs.hb rfl (pop_own hs.p2 sl45 (show 0<=lockD m x by omega) (show lockD m x<_ by omega) (λ _ h_81=>?_));refine uop_own (-1:Int) hs.p2 ty3 h_81 (by omega) (λ _ hs=>pop (bld42_0_2 11 (lockD m x)) ?_);have hs:=dsyX.shut (m:=ownD_ m x (-1)) (⟨⟨hX.1.pr,hX.1.cs,hX.1.ks,hX.1.mem,hX.1.rc⟩,hX.2⟩) hs.p4.p4.p2.p4.p4;refine uop_blkV (x:=(⟨11,0,lockD m x,0,0⟩:TEvent)) hs.p1 ty42 rfl rfl (λ _ hs=>?_);have hs:=hs.p1.p4.p4.p4.p4;rw [hA];exact ⟨by rw [hgd]; exact λ h=>c72 h.2,hs⟩
 rintro _ ⟨hgood,hs⟩ _;have hpe2:(actD m t i x).2.1.pile=(.cons x xa xb r,en)::p':=by rw [actD_pile]; exact hpe
 have hroom:=actD_room (m:=m) (t:=t) (i:=i) (x:=x);have hok2:DTOk (StD (cellNs m.p) (lockNs m.p) t.names) (actD m t i x).2.1:=actD_ok hok hmk.rm.2
 have hok3:DOk (cellNs m.p) (lockNs m.p) { (actD m t i x).2.1 with pile:=popD (actD m t i x).2.1.pile}:=by
  show DTOk (StD _ _ (actD m t i x).2.1.names) _;rw [actD_names]; exact popD_ok hok2
 refine pop_field fld42_1 (uop_blk hs ty3 (leb rfl) rfl (λ _ hs=>?_));have hs:=(hs.enc (cs':=Flat.enc ({ (actD m t i x).2.2 with t:=i}:TEvent)) rfl).p3;refine callMut2 pl86 hs (H':=λ _=>dthB K e.b m.room { (actD m t i x).2.1 with pile:=popD (actD m t i x).2.1.pile}) (Φ:=λ _ _=>True) (λ F2 hF2 hfr=>?_) ?_
 ·exact (C86 K _ e.b m.room (actD m t i x).2.1 F2 x xa xb r en p' _ hF2 (λ w' hc=>hK w' (hfr w' hc).chg) hpe2 hst (by rw [actD_pile]; omega)).mono λ _ _ r=>r.mono λ _ _ h=>⟨trivial,h.2⟩
 rintro _ _ _ hs;refine callMut2 pl73 hs (H':=λ _=>dthB K e.b m.room (doneDT m t i x)) (Φ:=λ _ _=>True) (λ F2 hF2 hfr=>?_) ?_
 ·exact (C73 K e.b m.room { (actD m t i x).2.1 with pile:=popD (actD m t i x).2.1.pile} (doneDT m t i x) _ _ _ F2 _ hF2 (λ w' hc=>hK w' (hfr w' hc).chg) hok3 (goD_spec hok3).1).mono λ _ _ r=>r.mono λ _ _ h=>⟨trivial,h.2⟩
 rintro _ _ _ hs;refine qop_at (x:=({ (actD m t i x).2.2 with t:=i}:TEvent)) ty42 hs.p1.At (uop_blkV (x:=({ (actD m t i x).2.2 with t:=i}:TEvent)) hs.p3 ty42 rfl rfl (λ _ hs=>?_));refine qop_at ty42 hs.At ?_;have hs:=hs.drop.p1.drop.p1.drop.p1.p1;rw [<- hroom] at hs;have hs:=dUnfocus hs;rw [actD_l] at hs;rw [hbad0,if_neg hgood];exact ⟨rfl,hs.mut⟩
theorem C35 (K:World->Prop) (p:Nat) (m:DSy) (q:TPick) (gc:SV) (t:DTh) (F:Nat->Prop) (w:World) (hF:(dsyB K p m).p w F) (hK:∀ w',Chg F w w'->K w') (hmk:DSOk m) (hmb:MB m.mem 1000000) (h0:0<=q.t) (ht:m.l[q.t.toNat]? = some t) :
   CR 35 [.pointer (some ⟨p,0,none⟩),Flat.val (⟨q.kind,q.t,q.i,gc⟩:TPickV)] w (λ v w'=>v=Flat.val (outE q.t (takeX t.buf q.i))/\Mut F (dsyB K p (outD m t q)) w w'):=by
 have hs:=St.begin hF;have htm:=List.mem_of_getElem? ht;have hok:=hmk.th t htm;have hlt:=(List.getElem?_eq_some_iff.1 ht).1;have hbl:=hok.bl;refine S35_ok _ _ _ _ ?_;unfold S35;refine eop_boxV (x:=(⟨q.kind,q.t,q.i,gc⟩:TPickV)) hs (λ b3 _ hs=>eop_allocA hs zero42 (λ b4 _ hs=>?_));have hs:=(hs.enc (cs':=Flat.enc (⟨0,0,0,0,0⟩:TEvent)) rfl).p2;obtain ⟨a,hu,hs⟩:=dsyB.open hs;have hplen:=hs.p4.rowsPLen;obtain ⟨e,he⟩:∃ e,a.ps[q.t.toNat]? = some e:=⟨_,List.getElem?_eq_getElem (by omega)⟩;refine ⟨λ x5 w'=>∃ b5,x5 = .pointer (some ⟨b5,0,none⟩)/\St w F [blk b5 (Flat.enc (takeX t.buf q.i)),blk b4 (Flat.enc (⟨0,0,0,0,0⟩:TEvent)),blk b3 (Flat.enc (⟨q.kind,q.t,q.i,gc⟩:TPickV)),dthB K e.b m.room ({t with buf:=takeL t.buf q.i}),dsyX K p m q.t.toNat e] w',?_,?_⟩
 ·have hs:=hs.drew;refine pop_nil (pop_field fld81_6 ?_);refine qop_blk ty79 hs.hb rfl (pop_field fld47_1 ?_);refine qop_blk (v:=.int .i64 q.t) ty3 hs.p6.hb rfl (pop_own hs.p3 sl79 h0 (by have:=hplen; omega) (λ q14 h14=>?_));refine qop_own hs.p3 ty94 h14 he ?_;have hs:=dFocus hs.p4 he ht;obtain ⟨bp,nv,rg,pl,es,hk,hs⟩:=dthX.open hs;refine pop_nil (pop_field fld97_0 (qop_blk ty74 hs.hb rfl (pop_field fld47_2 (qop_blk (v:=.int .i64 q.i) ty3 hs.p11.hb rfl ⟨?_,?_,trivial⟩))))
  ·have hs:=hs.p1;refine callMut2 pl76 hs (H':=λ _=>bufO bp m.room (takeL t.buf q.i)) (Φ:=λ v _=>v = .tuple #[Flat.val (takeX t.buf q.i),.int .i64 (takeE t.buf q.i)]) (λ F2 hF2 hfr=>?_) ?_
   ·exact C76 bp m.room t.buf q.i F2 _ hF2 (by omega)
   rintro _ _ rfl hs;refine pop_ext rfl (pop_ext rfl ?_);refine eop_allocA hs zero152 (λ b5 _ hs=>?_);refine ⟨run_loadOne ty79 (hs.p7.hb.cell rfl),?_⟩;refine ⟨run_loadOne ty3 (hs.p12.hb.cell (v:=.int .i64 q.t) rfl),?_⟩;refine ⟨run_own hs.p10 ty94 h14 he,?_⟩;refine ⟨run_loadOne ty74 (hs.p2.hb.cell rfl),?_⟩;refine ⟨run_loadOne ty3 (hs.p12.hb.cell (v:=.int .i64 q.i) rfl),?_⟩;exact uop_blkV (x:=(takeX t.buf q.i)) hs ty152 rfl rfl (λ _ hs=>have hs:=dthX.shut (Φ:=λ _=>True) (t:={t with buf:=takeL t.buf q.i}) hk hs.p5.p5.p5.p4.p5;have hs:=dsyX.shut (m:=m) ⟨hu,he,hplen,by omega⟩ hs.p2.p6.p6.p6.p6;have hs:=hs.p1.p4.p4.p4;⟨b5,rfl,hs⟩)
  refine eop_allocA hs zero152 (λ b5 _ hs=>?_);refine ⟨run_loadOne ty79 (hs.p7.hb.cell rfl),?_⟩;refine ⟨run_loadOne ty3 (hs.p12.hb.cell (v:=.int .i64 q.t) rfl),?_⟩;refine ⟨run_own hs.p10 ty94 h14 he,?_⟩;refine ⟨run_loadOne ty74 (hs.p1.hb.cell rfl),?_⟩;refine ⟨run_loadOne ty3 (hs.p12.hb.cell (v:=.int .i64 q.i) rfl),?_⟩;have hs:=hs.p2;refine callMut2 pl76 hs (H':=λ _=>bufO bp m.room (takeL t.buf q.i)) (Φ:=λ v _=>v = .tuple #[Flat.val (takeX t.buf q.i),.int .i64 (takeE t.buf q.i)]) (λ F2 hF2 hfr=>?_) ?_
  ·exact C76 bp m.room t.buf q.i F2 _ hF2 (by omega)
  rintro _ _ rfl hs;exact pop_ext rfl (pop_ext rfl (uop_blkV (x:=(takeX t.buf q.i)) hs.p1 ty152 rfl rfl (λ _ hs=>have hs:=dthX.shut (Φ:=λ _=>True) (t:={t with buf:=takeL t.buf q.i}) hk hs.p5.p5.p5.p4.p5;have hs:=dsyX.shut (m:=m) ⟨hu,he,hplen,by omega⟩ hs.p2.p6.p6.p6.p6;have hs:=hs.p1.p4.p4.p4;⟨b5,rfl,hs⟩)))
 rintro _ _ ⟨b5,rfl,hs⟩ _;refine pop_field fld152_0 (qop_blk (v:=.int .i64 (takeX t.buf q.i).kind) ty3 hs.hb rfl ?_);refine pop_eql (cond_d (λ c=>?_) (λ c=>?_))
 ·have hs:=hs.p4;obtain ⟨a,hX,hs⟩:=dsyX.open hs;have hs:=hs.drew;refine pop_nil (pop_field fld81_4 ?_);refine qop_blk ty78 hs.hb rfl (pop_field fld152_2 ?_);refine qop_blk (v:=.int .i64 (takeX t.buf q.i).cell) ty3 hs.p5.hb rfl (pop_field fld152_3 ?_);refine qop_blk (v:=.int .i64 (takeX t.buf q.i).n) ty3 hs.p5.hb rfl ?_;have hs:=hs.p1;refine callMut2 pl77 hs (H':=λ _=>memB a.q a.ov a.fv (writeM m.mem (takeX t.buf q.i).cell (takeX t.buf q.i).n)) (Φ:=λ _ _=>True) (λ F2 hF2 hfr=>?_) ?_
  ·exact (C77 a.q a.ov a.fv m.mem F2 _ _ _ hF2 (λ w' hc=>hX.1.mem _ (hK w' (hfr w' hc).chg)) hmk.mem hmb).mono λ _ _ r=>r.mono λ _ _ h=>⟨trivial,h.2⟩
  rintro _ _ _ hs;refine pop_field fld47_1 (qop_blk (v:=.int .i64 q.t) ty3 hs.p7.hb rfl ?_);refine pop_field fld152_2 (qop_blk (v:=.int .i64 (takeX t.buf q.i).cell) ty3 hs.p5.hb rfl ?_);refine pop_field fld152_3 (qop_blk (v:=.int .i64 (takeX t.buf q.i).n) ty3 hs.p5.hb rfl ?_);refine pop (bld42_0_1_2_3 12 q.t (takeX t.buf q.i).cell (takeX t.buf q.i).n) (uop_blkV (x:=(⟨12,q.t,(takeX t.buf q.i).cell,(takeX t.buf q.i).n,0⟩:TEvent)) hs.p6 ty42 rfl rfl (λ _ hs=>?_));refine qop_at ty42 hs.At ?_;have hom:outMem m.mem (takeX t.buf q.i)=writeM m.mem (takeX t.buf q.i).cell (takeX t.buf q.i).n:=by unfold outMem; rw [if_pos c]
  have hoe:outE q.t (takeX t.buf q.i)=⟨12,q.t,(takeX t.buf q.i).cell,(takeX t.buf q.i).n,0⟩:=by unfold outE; rw [if_pos c]
  have hs:=dsyX.shut (m:={m with mem:=writeM m.mem (takeX t.buf q.i).cell (takeX t.buf q.i).n}) ⟨⟨hX.1.pr,hX.1.cs,hX.1.ks,λ w hw=>(hX.1.mem w hw).write,hX.1.rc⟩,hX.2⟩ hs.drop.p6.drop.p5.drop.p4.p4.p4.p3.p4;have hs:=dUnfocus (m:={m with mem:=writeM m.mem (takeX t.buf q.i).cell (takeX t.buf q.i).n}) (tp:=e) (t:={t with buf:=takeL t.buf q.i}) hs.p1;have hod:outD m t q={ {m with mem:=writeM m.mem (takeX t.buf q.i).cell (takeX t.buf q.i).n} with l:=m.l.set q.t.toNat ({t with buf:=takeL t.buf q.i})}:=by unfold outD; rw [hom]
  rw [hod,hoe];exact ⟨rfl,hs.mut⟩
 refine pop_eql (cond_d (λ c2=>?_) (λ c2=>?_))
 ·refine pop_field fld47_1 (qop_blk (v:=.int .i64 q.t) ty3 hs.p2.hb rfl ?_);refine pop (bld42_0_1 14 q.t) (uop_blkV (x:=(⟨14,q.t,0,0,0⟩:TEvent)) hs.p1 ty42 rfl rfl (λ _ hs=>?_));refine qop_at ty42 hs.At ?_;have hs:=hs.p4;obtain ⟨a,hX,hs⟩:=dsyX.open hs;have hom:outMem m.mem (takeX t.buf q.i)=m.mem:=by unfold outMem; rw [if_neg c,if_pos c2]
  have hoe:outE q.t (takeX t.buf q.i)=⟨14,q.t,0,0,0⟩:=by unfold outE; rw [if_neg c,if_pos c2]
  have hs:=dsyX.shut (m:={m with mem:=m.mem}) hX (((hs.p5.drop.p6.drop.p5.drop.p4.p4.p4).p4).p4);have hs:=dUnfocus (m:={m with mem:=m.mem}) (tp:=e) (t:={t with buf:=takeL t.buf q.i}) hs.p1;have hod:outD m t q={ {m with mem:=m.mem} with l:=m.l.set q.t.toNat ({t with buf:=takeL t.buf q.i})}:=by unfold outD; rw [hom]
  rw [hod,hoe];exact ⟨rfl,hs.mut⟩
 have hs:=hs.p4;obtain ⟨a,hX,hs⟩:=dsyX.open hs;have hs:=hs.drew;refine pop_nil (pop_field fld81_4 ?_);refine qop_blk ty78 hs.hb rfl (pop_field fld152_1 ?_);refine qop_blk (v:=.int .i64 (takeX t.buf q.i).line) ty3 hs.p5.hb rfl ?_;have hs:=hs.p1;refine callMut2 pl78 hs (H':=λ _=>memB a.q a.ov a.fv (outM m.mem (takeX t.buf q.i).line)) (Φ:=λ _ _=>True) (λ F2 hF2 hfr=>?_) ?_
 ·exact (C78 a.q a.ov a.fv m.mem F2 _ _ hF2 (λ w' hc=>hX.1.mem _ (hK w' (hfr w' hc).chg)) hmk.mem hmb).mono λ _ _ r=>r.mono λ _ _ h=>⟨trivial,h.2⟩
 rintro _ _ _ hs;refine pop_field fld47_1 (qop_blk (v:=.int .i64 q.t) ty3 hs.p7.hb rfl ?_);refine pop_field fld152_1 (qop_blk (v:=.int .i64 (takeX t.buf q.i).line) ty3 hs.p5.hb rfl ?_);refine pop (bld42_0_1_2 13 q.t (takeX t.buf q.i).line) (uop_blkV (x:=(⟨13,q.t,(takeX t.buf q.i).line,0,0⟩:TEvent)) hs.p6 ty42 rfl rfl (λ _ hs=>?_));refine qop_at ty42 hs.At ?_;have hom:outMem m.mem (takeX t.buf q.i)=outM m.mem (takeX t.buf q.i).line:=by unfold outMem; rw [if_neg c,if_neg c2]
 have hoe:outE q.t (takeX t.buf q.i)=⟨13,q.t,(takeX t.buf q.i).line,0,0⟩:=by unfold outE; rw [if_neg c,if_neg c2]
 have hs:=dsyX.shut (m:={m with mem:=outM m.mem (takeX t.buf q.i).line}) ⟨⟨hX.1.pr,hX.1.cs,hX.1.ks,λ w hw=>(hX.1.mem w hw).out,hX.1.rc⟩,hX.2⟩ hs.drop.p6.drop.p5.drop.p4.p4.p4.p3.p4;have hs:=dUnfocus (m:={m with mem:=outM m.mem (takeX t.buf q.i).line}) (tp:=e) (t:={t with buf:=takeL t.buf q.i}) hs.p1;have hod:outD m t q={ {m with mem:=outM m.mem (takeX t.buf q.i).line} with l:=m.l.set q.t.toNat ({t with buf:=takeL t.buf q.i})}:=by unfold outD; rw [hom]
 rw [hod,hoe];exact ⟨rfl,hs.mut⟩
theorem C30 (K:World->Prop) (p:Nat) (m:DSy) (ths:List TThread) (lv:Value) (tvs:List TThreadV) (F:Nat->Prop) (w:World) (hF:(dsyB K p m).p w F) (hK:∀ w',Chg F w w'->K w') (hrm:1<=m.room/\m.room<=16) (hlk:(lockNs m.p).length<=1000) (hl:∀ w',Chg F w w'->RdL (λ _=>True) w' lv tvs) (htv:ThsK K tvs ths)
   (hok:∀ t∈ths,DOk (cellNs m.p) (lockNs m.p) (thD0 t)/\t.body=(bkD t.body).flat) (hn:ths.length<=1000) :
   CR 30 [.pointer (some ⟨p,0,none⟩),lv] w (λ v w'=>v = .tuple #[]/\Mut F (dsyB K p (beginD m ths)) w w'):=by
 have hs:=St.begin hF;have htl:=htv.1;refine S30_ok _ _ _ _ ?_;unfold S30;obtain ⟨a,hu,hs⟩:=dsyB.open hs;have hplen:=hs.p4.rowsPLen;refine pop_nil (pop_field fld81_6 ?_);refine uop_blk hs ty79 (leb rfl) rfl (λ _ hs=>pop_nil ?_);refine pop_field fld81_5 (uop_blk hs ty45 (leb rfl) rfl (λ _ hs=>?_));refine pop_nil (pop_field fld81_2 ?_);refine qop_blk ty32 hs.hb rfl (pop_len sl32 (hu.ks _ (hK _ hs.chg)) ?_);have hs:=(((hs.p2.drop.p2.drop.p2.drop.ownNil (α:=Int)).p2).p1).p2;refine ⟨λ mm x w'=>∃ (k:Nat) (ov:Value),x = .int .i64 (k:Int)/\mm=(lockNs m.p).length - k/\k<=(lockNs m.p).length/\St w F [blk p (dcells {a with ow:=ov,ll:=.slice none 0 0} m),ownL ov (List.replicate k (-1:Int)),memB a.q a.ov a.fv m.mem] w',⟨_,0,_,rfl,rfl,Nat.zero_le _,hs⟩,?_⟩
 rintro mm _ _ ⟨k,ov,rfl,rfl,hk1,hs⟩ _;refine pop_lss (cond_d (λ c=>?_) (λ c=>?_))
 ·refine pop_nil (pop_field fld81_5 ?_);refine qop_blk ty45 hs.hb rfl (eop_build (([-1]:List Int)) hs sl45 rfl rfl (leb rfl) (λ s27 _ hs=>?_));have hr28:=(hs).rd';exact eop_append hs.p2 sl45 hr28 (by rw [List.length_replicate,List.length_singleton]; omega) (by decide) (λ s28 _ hs=>have hs:=hs.p1.drop;pop_nil (pop_field fld81_5 (uop_blk hs.p1 ty45 (leb rfl) ((hs).rd'.one) (λ _ hs=>pop_add (by omega) ⟨_,by omega,k+1,s28,rfl,rfl,by omega,by rw [List.replicate_succ']; exact hs⟩))))
 refine pop_len sl35 (hl _ hs.chg) ?_;rw [show k=(lockNs m.p).length from by omega] at hs;have hs:=((((((hs.rowsPNil (H:=dthR K m.room)).ownNil (α:=Ptr)).p4).p4).p3).p3).p4;refine ⟨λ mm x w'=>∃ (j:Nat) (llv:Value) (ps:List Ptr),x = .int .i64 (j:Int)/\mm=tvs.length - j/\j<=tvs.length/\St w F [blk p (dcells {a with ow:=ov,ll:=llv} m),ownL llv ps,rowsP (dthR K m.room) ps ((ths.take j).map thD),ownL ov (List.replicate (lockNs m.p).length (-1:Int)),memB a.q a.ov a.fv m.mem] w',⟨_,0,_,_,rfl,rfl,Nat.zero_le _,hs⟩,?_⟩;rintro mm _ _ ⟨j,llv,ps,rfl,rfl,hj1,hs⟩ _;refine pop_lss (cond_d (λ c2=>?_) (λ c2=>?_));rotate_left
 ·rw [List.take_of_length_le (by omega)] at hs;have hs:=hs.p2.p2.p3.p4.p4;exact ⟨rfl,(dsyB.shut (m:=beginD m ths) (a:={a with ow:=ov,ll:=llv,ps:=ps}) ⟨hu.pr,hu.cs,hu.ks,hu.mem,hu.rc⟩ hs).mut⟩
 obtain ⟨tv,htv1⟩:∃ tv,tvs[((j:Nat):Int).toNat]? = some tv:=⟨_,List.getElem?_eq_getElem (by omega)⟩;obtain ⟨t,ht⟩:∃ t,ths[j]? = some t:=⟨_,List.getElem?_eq_getElem (by omega)⟩;obtain ⟨gr,gb,rows,rfl,hgr,hgb⟩:=htv.2 j _ _ htv1 ht;obtain ⟨hok0,hbk⟩:=hok t (List.mem_of_getElem? ht);have hrl:t.regs.length<=1000:=hok0.nb;refine pop_idx sl35 (hl _ hs.chg) (by omega) htv1 (λ q36 h36=>qop_at ty34 h36 ?_);refine eop_allocA hs zero34 (λ b5 _ hs=>uop_blkV (x:=(⟨t.name,gr,gb,t.at_⟩:TThreadV)) hs ty34 rfl rfl (λ _ hs=>?_));refine pop_nil (pop_field fld81_3 ?_);refine qop_blk ty3 hs.p1.hb rfl (callF pl23 (C23 m.room _) ?_);rintro v43 _ hh;obtain ⟨_,_,b43,rfl,hnew⟩:=hh.resolve_left (λ _=>by omega)
 have hs:=hs.made hnew;refine pop_ext rfl (pop_ext rfl ?_);have hs:=hs.drew;refine pop_field fld34_1 (qop_blk (v:=Flat.val gr) ty32 hs.p1.hb rfl ?_);refine pop_field fld34_1 (qop_blk (v:=Flat.val gr) ty32 hs.p1.hb rfl ?_);refine pop_len sl32 (hgr _ (hK _ hs.chg)) (eop_make (0:Int) hs sl45 zero3 (by omega) (by omega) (by decide) (λ s52 _ hs=>?_));rw [Int.toNat_natCast] at hs;refine ⟨run_loadOne ty32 (hs.p2.hb.cell (v:=Flat.val gr) rfl),?_⟩;obtain ⟨sv52,rfl⟩:=(hs).isSV;refine pop (bld97_0_1_2 (some ⟨b43,0,none⟩) gr.a gr.n gr.cap sv52.a sv52.n sv52.cap) (eop_boxA hs (λ b54 _ hs=>?_));have hs:=(hs.ownNil (α:=TPartV)).frzNil (Φ:=λ w=>PRd K w [] []/\True) (λ _=>⟨trivial,trivial⟩)
 have hs:=dthX.shut (Φ:=λ _=>True) (t:=(⟨t.regs,List.replicate t.regs.length 0,[],0,[]⟩:DTh)) (es:=[]) hgr hs.p1.p3.p4.p4;refine pop_field fld34_2 (qop_blk (v:=Flat.val gb) ty27 hs.p1.hb rfl ?_);refine callMut2 pl72 hs (H':=λ _=>dthB K b54 m.room (thD0 t)) (Φ:=λ _ _=>True) (λ F2 hF2 hfr=>?_) ?_
 ·exact (C72 K _ b54 m.room ⟨t.regs,List.replicate t.regs.length 0,[],0,[]⟩ F2 gb rows (bkD t.body) false _ hF2 (λ w' hc=>hK w' (hfr w' hc).chg) (λ w _=>by rw [<- hbk]; exact hgb w) (show (0:Nat)<=100000 by decide)).mono λ _ _ r=>r.mono λ _ _ h=>⟨trivial,h.2⟩
 rintro _ _ _ hs;refine callMut2 pl73 hs (H':=λ _=>dthB K b54 m.room (thD t)) (Φ:=λ _ _=>True) (λ F2 hF2 hfr=>?_) ?_
 ·exact (C73 K b54 m.room (thD0 t) (thD t) _ _ _ F2 _ hF2 (λ w' hc=>hK w' (hfr w' hc).chg) hok0 (goD_spec hok0).1).mono λ _ _ r=>r.mono λ _ _ h=>⟨trivial,h.2⟩
 rintro _ _ _ hs;refine pop_nil (pop_field fld81_6 ?_);have hpl:=(hs.p4).rowsPLen;rw [List.length_map,List.length_take] at hpl;refine qop_blk ty79 hs.p2.hb rfl (eop_build ([(⟨b54⟩:Ptr)]) hs sl79 rfl rfl (leb rfl) (λ s67 _ hs=>?_));have hr68:=(hs).rd';exact eop_append hs.p4 sl79 hr68 (by simp; omega) (by decide) (λ s68 _ hs=>have hs:=(hs.p1).drop;pop_nil (pop_field fld81_6 (uop_blk hs.p3 ty79 (leb rfl) ((hs).rd'.one) (λ _ hs=>have hs:=(((St.rowsPAdd (H:=dthR K m.room) (p:=⟨b54⟩) (x:=thD t) (hs.p3.drop.p2.p3)).p4).p4).p2;have hs:=hs.p4.p4;pop_add (by omega) ⟨_,by omega,j+1,s68,ps++[⟨b54⟩],rfl,rfl,by omega,by rw [<- map_snoc (k:=j) ht]; exact hs⟩))))
theorem ThK.mono {K K2:World->Prop} {tv:TThreadV} {t:TThread} (h:ThK K tv t) (hk:∀ w,K2 w->K w):ThK K2 tv t:=by
 obtain ⟨gr,gb,rows,e,h1,h2⟩:=h
 exact ⟨gr,gb,rows,e,λ w hw=>h1 w (hk w hw),λ w=>⟨λ w' hw=>(h2 w).1 w' (hk w' hw),λ hw=>(h2 w).2 (hk w hw)⟩⟩
theorem ThsK.mono {K K2:World->Prop} {tvs:List TThreadV} {ths:List TThread} (h:ThsK K tvs ths) (hk:∀ w,K2 w->K w):ThsK K2 tvs ths:=⟨h.1,λ j tv t h1 h2=>(h.2 j tv t h1 h2).mono hk⟩
theorem body_bk {p:TProg} (hc:CkD p) {t:TThread} (ht:t∈thsM p):t.body=(bkD t.body).flat:=by
 obtain ⟨_,h2,_⟩:=hc.f.ths ht
 obtain ⟨_,_,b,h5,h6,_⟩:=rightS_spec h2
 rw [h5,bkD_flat h6]
def ThsAt (K:World->Prop) (lv:SV) (ths:List TThread):Prop:=∃ tvs,(∀ w,K w->RdL (λ _=>True) w (Flat.val lv) tvs)/\ThsK K tvs ths
structure PrK (K:World->Prop) (pv:TProgV) (p:TProg):Prop where
 pr:∀ w,K w->Deep.dr w pv p
 th:ThsAt K pv.threads p.threads
 rc:ThsAt K pv.recover p.recover
def crD (m:DSy) (q:TPick):DSy:=match crashPD m q with | some img=>{m with mem:=crashM m.mem img} | none=>m
def CrashFD (m:Mem) (cut:List Int) (v:Value) (m2:Mem):Prop:=(imageM m cut=none/\m2=m/\v = .int .i64 1)\/∃ img,imageM m cut=some img/\m2=crashM m img/\v = .int .i64 0
theorem crash_mutD {m:Mem} {cut:List Int} {v:Value} {p:Nat} {ov fv:Value} {F:Nat->Prop} {w w':World}
  (h:(imageM m cut=none/\v = .int .i64 1/\Mut F (memB p ov fv m) w w')\/∃ img,imageM m cut=some img/\v = .int .i64 0/\Mut F (memB p ov fv (crashM m img)) w w') :
  True/\Mut F (exH λ m2=>fact (CrashFD m cut v m2) (memB p ov fv m2)) w w':=by
 refine ⟨trivial,?_⟩
 rcases h with ⟨h1,h2,F',h3,h4,h5⟩ | ⟨img,h1,h2,F',h3,h4,h5⟩
 ·exact ⟨F',⟨m,.inl ⟨h1,rfl,h2⟩,h3⟩,h4,h5⟩
 exact ⟨F',⟨crashM m img,.inr ⟨img,h1,rfl,h2⟩,h3⟩,h4,h5⟩
theorem zth_K (K:World->Prop):ThsK K [(⟨⟨#[]⟩,⟨none,0,0⟩,⟨none,0,0⟩,0⟩:TThreadV)] [⟨⟨#[]⟩,[],[],0⟩]:=by
 refine ⟨rfl,λ j tv t h1 h2=>?_⟩
 cases j with
 | zero=>
  cases h1; cases h2
  exact ⟨⟨none,0,0⟩,⟨none,0,0⟩,[],rfl,λ w _=>RdL.nil _ w,λ w=>⟨λ _ _=>drs.nil,λ _=>RdL.nil _ w⟩⟩
 | succ j=>simp at h1
theorem pl34:PL 34:=plE Tryz.func34
theorem C6 (K:World->Prop) (p:TProg) (pv:TProgV) (room:Int) (w:World) (hw:∀ w',Ext w w'->K w') (hp:PrK K pv p) (hz:PZ p):CR 6 [Flat.val pv,.int .i64 room] w (λ v w'=>(checkE p≠0/\v = .tuple #[.pointer none,.int .i64 (checkE p)]/\Ext w w')\/(checkE p=0/\(room<1\/16<room)/\v = .tuple #[.pointer none,.int .i64 1]/\Ext w w')\/
  (checkE p=0/\(1<=room/\room<=16)/\∃ (b:Nat) (X:World->Prop),v = .tuple #[.pointer (some ⟨b,0,none⟩),.int .i64 0]/\New (sep (dsyB (λ w=>K w/\X w) b (newD p room)) (frz X)) w w')):=by
 have hs:=St.start w;refine S6_ok _ _ _ _ ?_;unfold S6;refine eop_boxV (x:=pv) hs (λ bp w1 hs=>qop_at ty40 hs.At ?_);refine callF pl22 (C22 p pv _ (hp.pr _ (hw _ hs.chg)) hz) ?_;rintro _ _ ⟨aa,rfl,he⟩;have hs:=hs.ext he;refine pop_ext rfl (pop_ext rfl ?_);refine pop_neq (cond_d (λ c=>?_) (λ c=>?_))
 ·exact .inl ⟨c,rfl,hs.drop.chg⟩
 have hce:checkE p=0:=by omega
 have hck:=ck_spec hce;have h20:=big20 hck;have hcl:=cell_len p;refine callF pl23 (C23 room _) ?_;rintro v3 _ hh
 rcases hh with ⟨hrb,rfl,he⟩ | ⟨hr1,hr2,b3,rfl,hnew⟩
 ·have hs:=hs.ext he;exact pop_ext rfl (pop_ext rfl (pop_neq (cond_yb (by decide) (.inr (.inl ⟨hce,hrb,rfl,hs.drop.chg⟩)))))
 have hs:=(hs.made hnew).drop;refine pop_ext rfl (pop_ext rfl ?_);refine pop_neq (cond_nb (by decide) ?_);have hs:=hs.drew;refine qop_at ty40 hs.At (qop_at ty40 hs.At ?_);refine qop_at ty40 hs.At (callN pl24 hs (C24 p pv _ (hp.pr _ (hw _ hs.chg)) hz) (λ x31 _ hnew hs=>?_));refine ⟨run_at ty40 hs.p1.At,?_⟩;refine ⟨run_at ty40 hs.p1.At,?_⟩;refine callN pl25 hs (C25 p pv _ (hp.pr _ (hw _ hs.chg)) hz) (λ x33 _ hnew hs=>?_);refine ⟨run_at ty40 hs.p2.At,?_⟩;obtain ⟨svk,rfl⟩:=(hs).isSV;obtain ⟨svc,rfl⟩:=(hs.p1).isSV;refine pop (bld81_0_1_2_3 _ _ _ _ _ _ _ _ _ _ _ _ _ _ _ _ _ _ _ _ _ _ _ _ _) (eop_boxA hs (λ b36 w6 hs=>?_));refine pop_nil (pop_field fld81_1 ?_);refine qop_blk ty32 hs.hb rfl (pop_len sl32 (hs.p2).rd' ?_)
 have hs:=hs.ownNil (α:=Int);have hcs:St w none1 [ownL (.slice none 0 0) ([]:List Int),blk b36 (dcells ⟨pv,svc,svk,0,.slice none 0 0,.slice none 0 0,.slice none 0 0,.slice none 0 0,[]⟩ (newD0 p room) |>.set 9 (.pointer none)),ownL (Flat.val svk) (lockNs p),ownL (Flat.val svc) (cellNs p),blk bp (Flat.enc pv)] w6:=hs;refine ⟨λ mm o y w1=>∃ k:Nat,y = .int .i64 (k:Int)/\mm=(cellNs p).length - k/\k<=(cellNs p).length/\St w none1 [ownL o ((ofD p).take k),blk b36 (dcells ⟨pv,svc,svk,0,.slice none 0 0,.slice none 0 0,.slice none 0 0,.slice none 0 0,[]⟩ (newD0 p room) |>.set 9 (.pointer none)),ownL (Flat.val svk) (lockNs p),ownL (Flat.val svc) (cellNs p),blk bp (Flat.enc pv)] w1,⟨_,0,rfl,rfl,Nat.zero_le _,hcs⟩,?_⟩
 rintro mm o _ _ ⟨k,rfl,rfl,hk,hs⟩ _;have hol:(ofD p).length=(cellNs p).length:=by unfold ofD; rw [List.length_map,List.length_range]
 refine pop_lss (cond_d (λ c1=>?_) (λ c1=>?_))
 ·refine qop_at ty40 hs.p4.At (callP pl26 hs (C26 p pv (k:Int) _ (hp.pr _ (hw _ hs.chg)) hz) (λ _ he hs=>?_));refine eop_build (([lineM p (k:Int)]:List Int)) hs sl45 rfl rfl (leb rfl) (λ s49 _ hs=>?_);have hr49:=(hs).rd';exact eop_append hs.p1 sl45 hr49 (by rw [List.length_take,List.length_singleton]; omega) (by decide) (λ _ _ hs=>pop_add (by omega) ⟨_,by omega,k+1,rfl,rfl,by omega,by rw [<- take_snoc (ofD_at (p:=p) (i:=k) (by omega))]; exact hs.p1.drop⟩)
 rw [List.take_of_length_le (by omega)] at hs;have hs:=hs.drew;refine qop_at ty40 hs.p4.At (qop_at ty40 hs.p4.At ?_);refine callP pl28 hs (C28 p pv _ (hp.pr _ (hw _ hs.chg)) hz) (λ _ he hs=>?_);refine ⟨run_at ty40 hs.p4.At,?_⟩;refine callN pl29 hs (C29 p pv _ (hp.pr _ (hw _ hs.chg)) hz) (λ x58 _ hnew hs=>?_);have hst:=stays_le p;have hfl:(firstsM p).length=(allC p).length:=by unfold firstsM; rw [List.length_map]
 refine callF pl27 (C27 (ofD p) (firstsM p) (staysM p) _ _ _ (hs.p1).rd' (hs).rd' (by omega) (by omega) (by omega) (λ k n h1 h2=>?_)) ?_
 ·have h3:=ofD_ln hck h1 h2;have h4:=(List.getElem?_eq_some_iff.1 h2).1;exact ⟨h3.1,by omega,by omega⟩
 rintro v59 _ ⟨q,ov,fv,rfl,hnew⟩;have hs:=((hs.made hnew).split).p1.split;refine pop_ext rfl (pop_ext rfl ?_);refine pop_nil (pop_field fld81_4 ?_);refine uop_blk hs.p5 ty78 (leb rfl) rfl (λ w14 hs=>pop_field fld40_3 ?_);refine qop_blk (v:=Flat.val pv.threads) ty35 hs.p8.hb rfl ?_;have hs:=((((((((((hs.p8.drop.p5.drop.p4.drop.p3).freeze).p2).freeze).frzAnd).p3).freeze).frzAnd).p3).freeze).frzAnd;obtain ⟨FF,hs,hX⟩:=hs.toAgr;have hs:=hs.rowsPNil (H:=dthR (λ w=>K w/\Agr FF w14 w) room);have hs:=(hs.ownNil (α:=Ptr)).ownNil (α:=Int)
 have hs:St w none1 (blk b36 (dcells ⟨pv,svc,svk,q,Flat.val ov,Flat.val fv,.slice none 0 0,.slice none 0 0,[]⟩ (newD0 p room))::memB q (Flat.val ov) (Flat.val fv) (newM (ofD p) (staysM p) (firstsM p))::ownL (.slice none 0 0) ([]:List Int)::ownL (.slice none 0 0) ([]:List Ptr)::rowsP (dthR (λ w=>K w/\Agr FF w14 w) room) [] []::frz (Agr FF w14)::[]) w14:=by
  have h1:=(hs.p5).p5;exact h1
 obtain ⟨tvs,ht1,ht2⟩:=hp.th;obtain ⟨tvr,hr3,hr4⟩:=hp.rc;have hs:=dsyB.shut (K:=(λ w=>K w/\Agr FF w14 w)) (m:=newD0 p room) ⟨λ w' h=>hp.pr w' h.1,λ w' h=>?_,λ w' h=>?_,λ w' h=>⟨?_,?_⟩,⟨tvr,λ w' h=>hr3 w' h.1,hr4.mono λ _ h=>h.1⟩⟩ hs;rotate_left
 ·have:=hX w' h.2; first | exact this.1 | exact this.2 | exact this.2.1 | exact this.2.2 | exact this.2.2.1 | exact this.2.2.2
 ·have:=hX w' h.2; first | exact this.1 | exact this.2 | exact this.2.1 | exact this.2.2 | exact this.2.2.1 | exact this.2.2.2
 ·have:=hX w' h.2; first | exact this.1 | exact this.2 | exact this.2.1 | exact this.2.2 | exact this.2.2.1 | exact this.2.2.2
 ·have:=hX w' h.2; first | exact this.1 | exact this.2 | exact this.2.1 | exact this.2.2 | exact this.2.2.1 | exact this.2.2.2
 refine callMut2 pl30 hs (H':=λ _=>dsyB (λ w=>K w/\Agr FF w14 w) b36 (newD p room)) (Φ:=λ _ _=>True) (λ F2 hF2 hfr=>?_) ?_
 ·exact (C30 (λ w=>K w/\Agr FF w14 w) b36 (newD0 p room) p.threads _ tvs F2 _ hF2 (λ w' hc=>⟨hw _ (hfr w' hc).chg,(hfr w' hc).frz⟩) ⟨hr1,hr2⟩ (by have:=hz.locks; show (lockNs p).length<=_; unfold lockNs; rw [List.length_map]; omega) (λ w' hc=>ht1 w' (hw _ (hfr w' hc).chg)) (ht2.mono λ _ h=>h.1)
   (λ _ ht=>⟨thD0_ok hck (List.mem_append_left _ ht),body_bk hck (List.mem_append_left _ ht)⟩) (by have:=hz.threads; omega)).mono λ _ _ r=>r.mono λ _ _ h=>⟨trivial,h.2⟩
 rintro _ _ _ hs;exact .inr (.inr ⟨hce,⟨hr1,hr2⟩,b36,Agr FF w14,rfl,(St.join hs).fresh⟩)
theorem C7 (K:World->Prop) (p:Nat) (m:DSy) (q:TPick) (gc:SV) (F:Nat->Prop) (w:World) (hF:(dsyB K p m).p w F) (hK:∀ w',Chg F w w'->K w') (hmk:DSOk m) (hck:CkD m.p) (hmb:MB m.mem 1000000) (hcb:0<=m.crashes/\m.crashes<=1000000) (hcut:∀ w',Chg F w w'->RdL (λ _=>True) w' (Flat.val gc) q.cut) (hql:q.cut.length<=1000) :
   CR 7 [.pointer (some ⟨p,0,none⟩),Flat.val (⟨q.kind,q.t,q.i,gc⟩:TPickV)] w (λ v w'=>v = .tuple #[Flat.val (doD m q).2.1,.int .i64 (doD m q).2.2]/\Mut F (dsyB K p (doD m q).1) w w'):=by
 have hs:=St.begin hF;refine S7_ok _ _ _ _ ?_;unfold S7;refine eop_boxV (x:=(⟨q.kind,q.t,q.i,gc⟩:TPickV)) hs (λ b3 w1 hs=>eop_allocA hs zero42 (λ b4 _ hs=>?_));have hs:=hs.enc (cs':=Flat.enc (⟨0,0,0,0,0⟩:TEvent)) rfl;refine ⟨λ jv w'=>jv = .bool (crashPD m q).isSome/\St w F [dsyB K p (crD m q),blk b4 (Flat.enc (⟨0,0,0,0,0⟩:TEvent)),blk b3 (Flat.enc (⟨q.kind,q.t,q.i,gc⟩:TPickV))] w',?_,?_⟩
 ·have hs:=hs.drew
  have hno:∀ w',crashPD m q=none->St w F [dsyB K p m,blk b4 (Flat.enc (⟨0,0,0,0,0⟩:TEvent)),blk b3 (Flat.enc (⟨q.kind,q.t,q.i,gc⟩:TPickV))] w'->(Value.bool false = .bool (crashPD m q).isSome/\St w F [dsyB K p (crD m q),blk b4 (Flat.enc (⟨0,0,0,0,0⟩:TEvent)),blk b3 (Flat.enc (⟨q.kind,q.t,q.i,gc⟩:TPickV))] w'):=λ w' h1 h2=>by
   have e:crD m q=m:=by unfold crD; rw [h1]
   rw [h1,e]; exact ⟨rfl,h2⟩
  have hpd:crashPD m q=(if q.kind=3/\q.t=0/\q.i=0/\m.fault=0 then imageM m.mem q.cut else none):=rfl;refine pop_field fld47_0 (qop_blk (v:=.int .i64 q.kind) ty3 hs.p1.hb rfl ?_);refine pop_eql (cond_d (λ c1=>?_) (λ _=>hno _ (by rw [hpd,if_neg (by omega)]) (hs.p2)));refine pop_field fld47_1 (qop_blk (v:=.int .i64 q.t) ty3 hs.p1.hb rfl ?_);refine pop_eql (cond_d (λ c2=>?_) (λ _=>hno _ (by rw [hpd,if_neg (by omega)]) (hs.p2)));refine pop_field fld47_2 (qop_blk (v:=.int .i64 q.i) ty3 hs.p1.hb rfl ?_);refine pop_eql (cond_d (λ c3=>?_) (λ _=>hno _ (by rw [hpd,if_neg (by omega)]) (hs.p2)));have hs:=hs.p2;obtain ⟨a,hu,hs⟩:=dsyB.open hs;have hplen:=hs.p4.rowsPLen
  refine pop_nil (pop_field fld81_8 ?_);refine qop_blk ty3 hs.hb rfl (pop_eql ?_);refine cond_d (λ c4=>?_) (λ _=>hno _ (by rw [hpd,if_neg (by omega)]) (dsyB.shut hu hs));have hpi:crashPD m q=imageM m.mem q.cut:=by rw [hpd,if_pos ⟨c1,c2,c3,c4⟩]
  refine pop_nil (pop_field fld81_4 ?_);refine qop_blk ty78 hs.hb rfl (pop_field fld47_3 ?_);refine qop_blk (v:=Flat.val (gc:SV)) ty45 hs.p6.hb rfl ?_;have hs:=hs.p1;refine callMut2 pl31 hs (H':=λ v=>exH λ m2=>fact (CrashFD m.mem q.cut v m2) (memB a.q a.ov a.fv m2)) (Φ:=λ _ _=>True) (λ F2 hF2 hfr=>?_) ?_
  ·exact (C31 a.q a.ov a.fv m.mem F2 q.cut _ _ hF2 (λ w' hc=>hu.mem _ (hK w' (hfr w' hc).chg)) hmk.mem hmb (λ w' hc=>hcut w' (hfr w' hc).chg) hql).mono λ _ _ r=>r.mono λ _ _ h=>crash_mutD h
  rintro v34 _ _ hs9;obtain ⟨m2c,hs8⟩:=hs9.openEx
  clear hs9
  obtain ⟨hcf,hs7⟩:=hs8.openF
  clear hs8
  rcases hcf with ⟨him,rfl,rfl⟩ | ⟨img,him,rfl,rfl⟩
  ·have hs:=hs7;exact pop_eql (have hs:=hs.p4.p4.p4.p3.p4;hno _ (hpi.trans him) (dsyB.shut hu hs))
  have hs:=hs7;refine pop_eql ?_;have hcr:=hpi.trans him;have e:crD m q={m with mem:=crashM m.mem img}:=by unfold crD; rw [hcr]
  rw [hcr,e];have hs:=hs.p4.p4.p4.p3.p4;exact ⟨rfl,dsyB.shut (m:={m with mem:=crashM m.mem img}) ⟨hu.pr,hu.cs,hu.ks,hu.mem,hu.rc⟩ hs⟩
 rintro _ _ ⟨rfl,hs⟩ _;refine cond_b (λ c=>?_) (λ c=>?_)
 ·obtain ⟨img,hcr⟩:=Option.isSome_iff_exists.1 c;have e:crD m q={m with mem:=crashM m.mem img}:=by unfold crD; rw [hcr]
  have hdo:doD m q=(beginD (crashSD m img) (recD m),⟨15,0,0,numTo q.cut q.cut.length,0⟩,0):=by unfold doD; rw [hcr]
  rw [e] at hs;rw [hdo];obtain ⟨a,hu,hs⟩:=dsyB.open hs;have hplen:=hs.p4.rowsPLen;refine pop_nil (pop_field fld81_7 ?_);refine qop_blk ty3 hs.hb rfl (pop_add (show -9223372036854775808<=m.crashes+1/\m.crashes+1<=9223372036854775807 by omega) ?_);refine pop_nil (pop_field fld81_7 ?_);refine uop_blk hs ty3 (leb rfl) rfl (λ _ hs=>?_);obtain ⟨tvr,hr3,hr4⟩:=id hu.rc;have hrl:=hr4.1;refine pop_nil (pop_field fld81_0 ?_);refine pop_field fld40_4 (qop_blk ty35 hs.hb rfl ?_);have hs:=(dsyB.shut (m:=crashSD m img) ⟨hu.pr,hu.cs,hu.ks,hu.mem,hu.rc⟩ hs.p4.p4.p4.p4.p4).p2;have hs:=hs.p2.p2;refine ⟨λ jv w'=>∃ tvs,ThsK K tvs (recD m)/\St w F [frz (λ w=>K w->RdL (λ _=>True) w jv tvs),dsyB K p (crashSD m img),blk b4 (Flat.enc (⟨0,0,0,0,0⟩:TEvent)),blk b3 (Flat.enc (⟨q.kind,q.t,q.i,gc⟩:TPickV))] w',?_,?_⟩
  ·refine pop_len sl35 (hr3 _ (hK _ hs.chg)) (pop_eql (cond_d (λ c2=>?_) (λ c2=>?_)))
   ·refine pop (v:=Flat.val (⟨⟨#[]⟩,⟨none,0,0⟩,⟨none,0,0⟩,0⟩:TThreadV)) (by kernel_rfl) (eop_build (([⟨⟨#[]⟩,⟨none,0,0⟩,⟨none,0,0⟩,0⟩]:List TThreadV)) hs sl35 rfl rfl (leb rfl) (λ s54 _ hs=>?_));refine ⟨_,?_,(hs.freeze).frzMono (Ψ:=λ w=>K w->RdL (λ _=>True) w s54 [(⟨⟨#[]⟩,⟨none,0,0⟩,⟨none,0,0⟩,0⟩:TThreadV)]) λ _ h _=>h⟩;have hrd:recD m=[⟨⟨#[]⟩,[],[],0⟩]:=by unfold recD; rw [if_pos (by have:tvr.length=m.p.recover.length:=hrl; omega)]
    rw [hrd]; exact zth_K K
   have hrd:recD m=m.p.recover:=by unfold recD; rw [if_neg (by have:tvr.length=m.p.recover.length:=hrl; omega)]
   exact ⟨tvr,by rw [hrd]; exact hr4,hs.frzNil λ w h=>hr3 w h⟩
  rintro rv _ ⟨tvs,htv,hs⟩ _;obtain ⟨hrc1,hrc2⟩:=recD_ok hck;refine callMut2 pl30 hs.p1 (H':=λ _=>dsyB K p (beginD (crashSD m img) (recD m))) (Φ:=λ _ _=>True) (λ F2 hF2 hfr=>?_) ?_
  ·refine (C30 K p (crashSD m img) (recD m) _ tvs F2 _ hF2 (λ w' hc=>hK w' (hfr w' hc).chg) hmk.rm (by have:=hmk.pz.locks; show (lockNs m.p).length<=_; unfold lockNs; rw [List.length_map]; omega) (λ w' hc=>(hfr w' hc).frz (hK w' (hfr w' hc).chg)) htv (λ t ht=>⟨hrc2 t ht,?_⟩) (by omega)).mono λ _ _ r=>r.mono λ _ _ h=>⟨trivial,h.2⟩;unfold recD at ht
   split at ht
   ·rw [List.mem_singleton.1 ht]; rfl
   exact body_bk hck (List.mem_append_right _ ht)
  rintro _ _ _ hs;exact pop_field fld47_3 (qop_blk (v:=Flat.val (gc:SV)) ty45 hs.p3.hb rfl (callP pl32 hs (C32 _ q.cut _ (hcut _ hs.chg) (by omega)) (λ _ _ hs=>pop (bld42_0_3 15 (numTo q.cut q.cut.length)) (uop_blkV (x:=(⟨15,0,0,numTo q.cut q.cut.length,0⟩:TEvent)) hs.p2 ty42 rfl rfl (λ _ hs=>qop_at ty42 hs.At ⟨rfl,((hs.p3.drop.drop).p1.drop).mut⟩)))))
 have hcr:crashPD m q=none:=by
  cases h:crashPD m q with
  | none=>rfl
  | some img=>rw [h] at c; cases c
 have e:crD m q=m:=by unfold crD; rw [hcr]
 have hdo:doD m q=(if (picksD m).any (sameP q)=true then (if q.kind=2 then (match m.l[q.t.toNat]? with | some t=>((outD m t q,outE q.t (takeX t.buf q.i),0):DSy × TEvent × Int) | none=>(m,⟨0,0,0,0,0⟩,13)) else ((stepD m q.t).1,(stepD m q.t).2,0)) else (m,⟨0,0,0,0,0⟩,13)):=by unfold doD; rw [hcr]; rfl
 rw [e] at hs;refine callN pl13 hs (C13 K p m _ hs.has (λ _ e=>hK _ (hs.chg.then e)) hmk) (λ x64 _ hnew hs=>?_);have hpk:=hs.p3.At
 have hfn:FnOnD Tryz.prog _ (.func (.func 33) [].toArray [.pointer (some ⟨b3,0,none⟩)].toArray) (λ _:TPick=>True) (sameP q):=
  ⟨33,[],_,rfl,pl33,λ sx y w1 e1 hd2 _=>C33 y q sx b3 (⟨q.kind,q.t,q.i,gc⟩:TPickV) w1 hd2 (hpk.ext e1) ⟨gc,rfl,DL.unflat (hcut _ (hs.chg.then e1))⟩⟩
 refine callP pl34 hs (C34 _ _ _ (λ _=>True) _ _ (hs).dl hfn (λ _ _=>trivial) (by have:=picksD_len hmk; omega)) (λ _ he hs=>?_);have hs:=hs.drop;refine pop_not (cond_b (λ c2=>?_) (λ c2=>?_))
 ·rw [hdo,if_neg (by simpa using c2)];exact pop (bld42_) (uop_blkV (x:=(⟨0,0,0,0,0⟩:TEvent)) hs.p1 ty42 rfl rfl (λ _ hs=>qop_at ty42 hs.At ⟨rfl,(hs.drop.p1.drop).mut⟩))
 have hany:(picksD m).any (sameP q)=true:=by simpa using c2
 obtain ⟨hf0,h0,_,t,ht,hkd⟩:=anyD hany;rw [hdo,if_pos hany];refine pop_field fld47_0 (qop_blk (v:=.int .i64 q.kind) ty3 hs.p2.hb rfl ?_);refine pop_eql (cond_d (λ c3=>?_) (λ c3=>?_))
 ·rw [if_pos c3,ht];refine qop_at ty47 hs.p2.At (callMut2 pl35 hs (H':=λ _=>dsyB K p (outD m t q)) (Φ:=λ v _=>v=Flat.val (outE q.t (takeX t.buf q.i))) (λ F2 hF2 hfr=>?_) ?_)
  ·exact C35 K p m q gc t F2 _ hF2 (λ w' hc=>hK w' (hfr w' hc).chg) hmk hmb h0 ht
  rintro _ _ rfl hs;exact uop_blkV (x:=outE q.t (takeX t.buf q.i)) hs.p1 ty42 rfl rfl (λ _ hs=>qop_at ty42 hs.At ⟨rfl,(hs.drop.p1.drop).mut⟩)
 rw [if_neg c3]
 have hcan:canD m t=true:=by
  rcases hkd with h | h
  ·exact h.2
  ·exact absurd h.1 c3
 refine pop_field fld47_1 (qop_blk (v:=.int .i64 q.t) ty3 hs.p2.hb rfl ?_);refine callMut2 pl36 hs (H':=λ _=>dsyB K p (stepD m q.t).1) (Φ:=λ v _=>v=Flat.val (stepD m q.t).2) (λ F2 hF2 hfr=>?_) ?_
 ·exact C36 K p m q.t t F2 _ hF2 (λ w' hc=>hK w' (hfr w' hc).chg) hmk hmb h0 ht (λ _=>canD_top hcan)
 rintro _ _ rfl hs;exact uop_blkV (x:=(stepD m q.t).2) hs.p1 ty42 rfl rfl (λ _ hs=>qop_at ty42 hs.At ⟨rfl,(hs.drop.p1.drop).mut⟩)
theorem C88 (sv:Value) (ps:List Ptr) (g0:Nat) (first cap:List Value) (g:Nat->Bool) (w:World) (hL:RdL (λ _=>True) w sv ps) (hpl:Plain Tryz.prog g0) (hcall:∀ (i:Nat) (s:Ptr) (w1:World),ps[i]? = some s->Ext w w1->Calls Tryz.prog g0 (first++[Flat.val s]++cap).toArray w1 (Ret λ v w2=>v = .bool (g i)/\Ext w1 w2)) (hn:ps.length<=1073741824):CR 88 [sv,(.func (.func g0) first.toArray cap.toArray)] w (λ v w'=>v = .int .i64 (idxF g (List.range ps.length))/\Ext w w'):=by
 have hs:=St.start w;refine S88_ok _ _ _ _ ?_;unfold S88;refine pop_len sl79 (hL.ext hs.chg) ?_;refine ⟨λ mm y w1=>∃ k:Nat,y = .int .i64 (k:Int)/\mm=ps.length - k/\k<=ps.length/\(∀ y∈(List.range ps.length).take k,g y=false)/\St w none1 [] w1,⟨_,0,rfl,rfl,Nat.zero_le _,by simp,hs⟩,?_⟩;rintro mm _ w1 ⟨k,rfl,rfl,hk,hno,hs⟩ _;refine pop_lss (cond_d (λ c1=>?_) (λ _=>⟨congrArg (Value.int .i64) (idxF_none (by rw [List.take_of_length_le (by rw [List.length_range]; omega)] at hno; exact hno)).symm,hs.chg⟩));obtain ⟨e,he⟩:∃ e,ps[((k:Nat):Int).toNat]? = some e:=⟨_,List.getElem?_eq_getElem (by omega)⟩;refine pop_idx sl79 (hL.ext hs.chg) (by omega) he (λ q hq=>qop_at ty94 hq ?_)
 refine callV hpl (hcall k e w1 he hs.chg) ?_;rintro _ w2 ⟨rfl,h2⟩;have hs:=hs.ext h2;exact cond_b (λ c2=>⟨congrArg (Value.int .i64) (idxF_at hno (List.getElem?_range (by omega)) c2).symm,hs.chg⟩) (λ c2=>pop_add (by omega) ⟨_,by omega,k+1,rfl,rfl,by omega,take_all hno (List.getElem?_range (by omega)) c2,hs⟩)
theorem C39 (sv:Value) (ps:List Ptr) (g0:Nat) (first cap:List Value) (g:Nat->Bool) (w:World) (hL:RdL (λ _=>True) w sv ps) (hpl:Plain Tryz.prog g0) (hcall:∀ (i:Nat) (s:Ptr) (w1:World),ps[i]? = some s->Ext w w1->Calls Tryz.prog g0 (first++[Flat.val s]++cap).toArray w1 (Ret λ v w2=>v = .bool (g i)/\Ext w1 w2)) (hn:ps.length<=1073741824):CR 39 [sv,(.func (.func g0) first.toArray cap.toArray)] w (λ v w'=>v = .bool ((List.range ps.length).any g)/\Ext w w'):=by
 have hs:=St.start w;refine S39_ok _ _ _ _ ?_;unfold S39;exact callP pl88 hs (C88 _ ps g0 first cap g _ (hL.ext hs.chg) hpl (λ i s w1 h e=>hcall i s w1 h (hs.chg.then e)) hn) (λ _ _ hs=>pop_geq ⟨vb (idxF_any _ _),hs.chg⟩)
theorem C37 (K Φ:World->Prop) (p:Nat) (room:Int) (t:DTh) (w:World) (hh:Has (dthX K Φ p room t) w) (hpk:K w) (hbl:t.buf.length<=1000):CR 37 [.pointer (some ⟨p,0,none⟩)] w (λ v w'=>v = .bool (!doneTD t)/\Ext w w'):=by
 obtain ⟨bp,nv,rg,pl,es,hk,hblk,hB,hrg,hpl,hprd,_⟩:=dthX.rd hh;have ct3:=hblk.cell (o:=3) rfl;have hln:=hprd.len;have hpe:=peV_len es;have hs:=St.start w;refine S37_ok _ _ _ ?_;unfold S37;refine ⟨λ jv w'=>jv = .bool (!doneTD t)/\Ext w w',?_,?_⟩
 ·exact pop_nil (pop_field fld97_3 (qop_cell ty95 (ct3.ext hs.chg) (pop_len sl95 (hpl.ext hs.chg) (pop_gtr (cond_d (λ _=>⟨vb (by unfold doneTD; rw [decide_eq_false (show ¬ t.pile.length=0 from by omega)]; rfl),hs.chg⟩) (λ _=>callP pl38 hs (C38 K Φ p room t _ (hh.ext hs.chg) hbl) (λ _ _ hs=>pop_not ⟨vb (by unfold doneTD; rw [decide_eq_true (show t.pile.length=0 from by omega),Bool.true_and]),hs.chg⟩)))))))
 rintro _ _ h _;exact h
theorem C8 (K:World->Prop) (p:Nat) (m:DSy) (w:World) (hm:Has (dsyB K p m) w) (hw:∀ w',Ext w w'->K w') (hmk:DSOk m):CR 8 [.pointer (some ⟨p,0,none⟩)] w (λ v w'=>v=Flat.val (statusD m)/\Ext w w'):=by
 obtain ⟨a,hr⟩:=dsyB.rd hm (hw _ (Ext.refl _));have cm11:=hr.b.cell (o:=11) rfl;have cm12:=hr.b.cell (o:=12) rfl;have cm13:=hr.b.cell (o:=13) rfl;have cm14:=hr.b.cell (o:=14) rfl;have hlen:=hr.len;have htl:=hmk.tl;have hs:=St.start w;refine S8_ok _ _ _ ?_;unfold S8;refine eop_allocA hs zero49 (λ b2 w1 hs=>?_);have hs:=(hs.enc (cs':=Flat.enc (⟨0,0,0,false,false⟩:TStatus)) rfl).drew;refine pop_nil (pop_field fld81_7 ?_);refine qop_cell ty3 (cm12.ext hs.chg) (pop_nil ?_);refine pop_field fld81_8 (qop_cell ty3 (cm13.ext hs.chg) ?_);refine pop_nil (pop_field fld81_9 ?_);refine qop_cell ty3 (cm14.ext hs.chg) (pop (bld49_0_1_2 m.crashes m.fault m.faulty) ?_);refine eop_allocA hs zero49 (λ b4 _ hs=>?_)
 refine ⟨run_loadOne ty3 (cm12.ext hs.chg),?_⟩;refine ⟨run_loadOne ty3 (cm13.ext hs.chg),?_⟩;refine ⟨run_loadOne ty3 (cm14.ext hs.chg),?_⟩;refine uop_blkV (x:=(⟨m.crashes,m.fault,m.faulty,false,false⟩:TStatus)) hs ty49 rfl rfl (λ _ hs=>?_);refine ⟨λ w'=>St w none1 [blk b4 (Flat.enc (⟨m.crashes,m.fault,m.faulty,doneD m,false⟩:TStatus)),blk b2 (Flat.enc (⟨0,0,0,false,false⟩:TStatus))] w',?_,?_⟩
 ·refine pop_nil (pop_field fld81_8 (qop_cell ty3 (cm13.ext hs.chg) (pop_eql (cond_d (λ c1=>?_) (λ c1=>?_)))))
  ·refine pop_nil (pop_field fld81_6 ?_);refine qop_cell ty79 (cm11.ext hs.chg) ?_
   refine callP pl39 hs (C39 _ a.ps 37 [] [] (λ i=>match m.l[i]? with | some t=>!doneTD t | none=>false) _ (hr.ll.ext hs.chg) pl37 (λ i s w1 h e=>by
    obtain ⟨t,ht⟩:∃ t,m.l[i]? = some t:=⟨_,List.getElem?_eq_getElem (by have:=(List.getElem?_eq_some_iff.1 h).1; omega)⟩;rw [ht];exact C37 K _ s.b m.room t w1 ((hr.th i s t h ht).ext (hs.chg.then e)) (hw _ (hs.chg.then e)) (hmk.th t (List.mem_of_getElem? ht)).bl) (by omega)) (λ _ he hs=>?_)
   refine pop_not (pop_field fld49_3 ?_);refine uop_blk hs ty4 (leb rfl) rfl (λ w5 hs=>?_);have hdm:doneD m = !((List.range a.ps.length).any (λ i=>match m.l[i]? with | some t=>!doneTD t | none=>false)):=by unfold doneD; rw [decide_eq_true c1,hr.len]; rfl
   rw [hdm];exact hs
  refine pop_field fld49_3 (uop_blk hs ty4 (leb rfl) rfl (λ w5 hs=>?_));have hdm:doneD m=false:=by unfold doneD; rw [decide_eq_false c1]; rfl
  rw [hdm];exact hs
 intro _ hs _
 have hend:∀ (b:Bool) (w':World),stuckD m=b->St w none1 [blk b4 (Flat.enc (⟨m.crashes,m.fault,m.faulty,doneD m,b⟩:TStatus)),blk b2 (Flat.enc (⟨0,0,0,false,false⟩:TStatus))] w'->St w none1 [blk b4 (Flat.enc (statusD m)),blk b2 (Flat.enc (⟨0,0,0,false,false⟩:TStatus))] w':=λ b w' h1 h2=>by
  subst h1; exact h2
 refine ⟨λ w'=>St w none1 [blk b4 (Flat.enc (statusD m)),blk b2 (Flat.enc (⟨0,0,0,false,false⟩:TStatus))] w',?_,?_⟩
 ·refine pop_nil (pop_field fld81_8 ?_);refine qop_cell ty3 (cm13.ext hs.chg) (pop_eql ?_);refine cond_d (λ c1=>?_) (λ c1=>?_);rotate_left
  ·exact pop_field fld49_4 (uop_blk hs ty4 (leb rfl) rfl (λ _ hs=>hend false _ (by unfold stuckD; rw [decide_eq_false c1]; rfl) hs))
  refine pop_field fld49_3 (qop_blk (v:=.bool (doneD m)) ty4 hs.hb rfl ?_);refine pop_not (cond_b (λ c2=>?_) (λ c2=>?_));rotate_left
  ·exact pop_field fld49_4 (uop_blk hs ty4 (leb rfl) rfl (λ _ hs=>hend false _ (by unfold stuckD; rw [show doneD m=true from by simpa using c2]; simp) hs))
  refine callN pl13 hs (C13 K p m _ (hm.ext hs.chg) (λ _ e=>hw _ (hs.chg.then e)) hmk) (λ x45 w7 hnew hs=>?_);obtain ⟨xs45,hrx45,hxl45⟩:=(hs).dl;refine pop_len sl55 hrx45 ?_;rw [show xs45.length=(picksD m).length from hxl45.1];exact pop_eql (have hs:=hs.drop;pop_field fld49_4 (uop_blk hs ty4 (leb rfl) rfl (λ _ hs=>hend (decide (((picksD m).length:Int)=0)) _ (by unfold stuckD; rw [decide_eq_true c1,show doneD m=false from by simpa using c2]; rfl) hs)))
 intro _ hs _;exact qop_at (x:=statusD m) ty49 hs.At (uop_blkV (x:=statusD m) hs.p1 ty49 rfl rfl (λ _ hs=>qop_at ty49 hs.At ⟨rfl,hs.drop.drop.chg⟩))
theorem actD_cr (m:DSy) (t:DTh) (i:Int) (x:TStmt):(actD m t i x).1.crashes=m.crashes:=by
 unfold actD
 repeat' split
 all_goals first | rfl | (unfold casD; split <;> rfl)
theorem stepD_cr (m:DSy) (i:Int):(stepD m i).1.crashes=m.crashes:=by
 unfold stepD
 repeat' split
 all_goals first | rfl | exact actD_cr _ _ _ _
theorem doD_cr (m:DSy) (q:TPick):m.crashes<=(doD m q).1.crashes/\(doD m q).1.crashes<=m.crashes+1:=by
 unfold doD
 split
 ·show m.crashes<=m.crashes+1/\m.crashes+1<=m.crashes+1; omega
 split
 ·split
  ·split <;> (show m.crashes<=m.crashes/\m.crashes<=m.crashes+1) <;> omega
  show m.crashes<=(stepD m q.t).1.crashes/\(stepD m q.t).1.crashes<=_; rw [stepD_cr]; omega
 show m.crashes<=m.crashes/\m.crashes<=m.crashes+1; omega
structure GoOk (p:TProg) (n:Nat) (m:DSy):Prop where
 ok:DSOk m
 pr:m.p=p
 mb:MB m.mem n
 cr:0<=m.crashes/\m.crashes<=n
theorem GoOk.step {p:TProg} {n:Nat} {m:DSy} {q:TPick} (h:GoOk p n m) (hc:CkD p):GoOk p (n+1) (doD m q).1:=by
 obtain ⟨h1,h2,h3⟩:=doD_ok (q:=q) h.ok (h.pr▸hc)
 have h4:=doD_cr m q
 have h5:=h.cr
 exact ⟨h1,h2.trans h.pr,h3 _ h.mb,by omega,by omega⟩
theorem GoOk.new {p:TProg} {room:Int} (hz:PZ p) (hc:CkD p) (hr:1<=room/\room<=16):GoOk p 0 (newD p room):=
 ⟨newD_ok hz hc hr,rfl,λ k=>Nat.le_of_eq rfl,Int.le_refl 0,Int.le_refl 0⟩
theorem casD_fi (m:DSy) (t:DTh) (x:TStmt):(casD m t x).mem.firsts=m.mem.firsts:=by
 unfold casD; split
 ·exact writeM_firsts _ _ _
 rfl
theorem actD_fi (m:DSy) (t:DTh) (i:Int) (x:TStmt):(actD m t i x).1.mem.firsts=m.mem.firsts:=by
 unfold actD
 repeat' split
 all_goals first | rfl | exact casD_fi _ _ _
theorem stepD_fi (m:DSy) (i:Int):(stepD m i).1.mem.firsts=m.mem.firsts:=by
 unfold stepD
 repeat' split
 all_goals first | rfl | exact actD_fi _ _ _ _
theorem doD_fi {m:DSy} (hm:DSOk m) (q:TPick):(doD m q).1.mem.firsts=m.mem.firsts:=by
 unfold doD
 split
 ·rfl
 split
 ·split
  ·split
   ·exact (outMem_ok hm.mem).2.2
   rfl
  exact stepD_fi _ _
 rfl
def goR (c:Int):DSy->List TEvent->List TPick->DSy × List TEvent × Int
 | m,o,[]=>(m,o,0)
 | m,o,q::r=>if q.kind=3/\c<=m.crashes then (m,o,14) else if (doD m q).2.2≠0 then ((doD m q).1,o,(doD m q).2.2) else goR c (doD m q).1 (o++[(doD m q).2.1]) r
def startE (p:TProg) (room c:Int):Int:=if checkE p≠0 then checkE p else if room<1\/16<room then 1 else if c<0\/8<c then 1 else 0
def runD (p:TProg) (room c:Int) (l:List TPick):List TEvent × Int:=if startE p room c≠0 then ([],startE p room c) else ((goR c (newD p room) [] l).2.1,(goR c (newD p room) [] l).2.2)
theorem goR_spec (c:Int):∀ (l:List TPick) (m:DSy) (o:List TEvent),∃ k,k<=l.length/\(goR c m o l).2.1.length=o.length+k/\(goR c m o (l.take k)).2.2=0/\(goR c m o (l.take k)).2.1.length=o.length+k/\
  (k<l.length->(goR c m o l).2.2≠0/\goR c m o (l.take (k+1))=goR c m o l)/\(k=l.length->(goR c m o l).2.2=0)
 | [],m,o=>⟨0,Nat.le_refl _,rfl,rfl,rfl,λ h=>absurd h (Nat.lt_irrefl 0),λ _=>rfl⟩
 | q::r,m,o=>by
  by_cases h1:q.kind=3/\c<=m.crashes
  ·refine ⟨0,Nat.zero_le _,?_,rfl,rfl,λ _=>?_,λ h=>by simp at h⟩
   ·unfold goR; rw [if_pos h1]; rfl
   ·refine ⟨by unfold goR; rw [if_pos h1]; exact (by decide:(14:Int)≠0),?_⟩
    rw [List.take_succ_cons,goR,if_pos h1,goR,if_pos h1]
  by_cases h2:(doD m q).2.2≠0
  ·refine ⟨0,Nat.zero_le _,?_,rfl,rfl,λ _=>?_,λ h=>by simp at h⟩
   ·unfold goR; rw [if_neg h1,if_pos h2]; rfl
   ·refine ⟨by unfold goR; rw [if_neg h1,if_pos h2]; exact h2,?_⟩
    rw [List.take_succ_cons,goR,if_neg h1,if_pos h2,goR,if_neg h1,if_pos h2]
  obtain ⟨k,k1,k2,k3,k4,k5,k6⟩:=goR_spec c r (doD m q).1 (o++[(doD m q).2.1])
  have e:∀ s,goR c m o (q::s)=goR c (doD m q).1 (o++[(doD m q).2.1]) s:=λ s=>by rw [goR,if_neg h1,if_neg h2]
  rw [List.length_append,List.length_singleton] at k2 k4
  refine ⟨k+1,by rw [List.length_cons]; omega,by rw [e]; omega,by rw [List.take_succ_cons,e]; exact k3,by rw [List.take_succ_cons,e]; omega,λ h=>?_,λ h=>?_⟩
  ·rw [List.length_cons] at h
   rw [List.take_succ_cons,e,e]
   exact k5 (by omega)
  ·rw [List.length_cons] at h
   rw [e]; exact k6 (by omega)
def farD (p:TProg) (room c:Int) (l:List TPick):Nat:=(runD p room c l).1.length
theorem runD_bad {p:TProg} {room c:Int} {l:List TPick} (h:startE p room c≠0):runD p room c l=([],startE p room c):=by unfold runD; rw [if_pos h]
theorem runD_nil {p:TProg} {room c:Int}:(runD p room c []).2=startE p room c:=by
 unfold runD; split
 ·rfl
 rename_i h; exact (Decidable.not_not.1 h).symm
theorem far_spec {p:TProg} {room c:Int} (h:startE p room c=0) (l:List TPick):farD p room c l<=l.length/\(runD p room c (l.take (farD p room c l))).2=0/\(runD p room c (l.take (farD p room c l))).1.length=farD p room c l/\
  (farD p room c l<l.length->(runD p room c l).2≠0/\runD p room c (l.take (farD p room c l+1))=runD p room c l):=by
 have e:∀ l,runD p room c l=((goR c (newD p room) [] l).2.1,(goR c (newD p room) [] l).2.2):=λ l=>by unfold runD; rw [if_neg (by rw [h]; decide)]
 obtain ⟨k,k1,k2,k3,k4,k5,_⟩:=goR_spec c l (newD p room) []
 have hk:farD p room c l=k:=by unfold farD; rw [e]; simpa using k2
 rw [hk]
 refine ⟨k1,by rw [e]; exact k3,by rw [e]; simpa using k4,λ hl=>?_⟩
 obtain ⟨h1,h2⟩:=k5 hl
 refine ⟨by rw [e]; exact h1,by rw [e,e,h2]⟩
theorem tpv_inj (x y:TPickV) (h:Flat.enc x=Flat.enc y):x=y:=by
 obtain ⟨a,b,c,⟨d,n,k⟩⟩:=x
 obtain ⟨a2,b2,c2,⟨d2,n2,k2⟩⟩:=y
 simp [Flat.enc,Flat.val] at h
 simp [h]
theorem tsv_inj (x y:TStmtV) (h:Flat.enc x=Flat.enc y):x=y:=by
 obtain ⟨a,b,c,⟨d,n,k⟩,⟨d1,n1,k1⟩,e,f,g,i⟩:=x
 obtain ⟨a2,b2,c2,⟨d2,n2,k2⟩,⟨d3,n3,k3⟩,e2,f2,g2,i2⟩:=y
 simp [Flat.enc,Flat.val] at h
 simp [h]
theorem ttv_inj (x y:TThreadV) (h:Flat.enc x=Flat.enc y):x=y:=by
 obtain ⟨a,⟨d,n,k⟩,⟨d1,n1,k1⟩,e⟩:=x
 obtain ⟨a2,⟨d2,n2,k2⟩,⟨d3,n3,k3⟩,e2⟩:=y
 simp [Flat.enc,Flat.val] at h
 simp [h]
theorem ThsAt.of {FF:Nat->Prop} {w:World} {lv:SV} {ths:List TThread} (h:∀ w',Agr FF w w'->DL w' (Flat.val lv) ths):ThsAt (Agr FF w) lv ths:=by
 obtain ⟨tvs,hl,ht⟩:=Agr.fix ttv_inj h
 refine ⟨tvs,λ w' hw=>(ht w' hw).1,hl,λ j tv t h1 h2=>?_⟩
 have hd:∀ w',Agr FF w w'->Deep.dr w' tv t:=λ w' hw=>(ht w' hw).2.2 j tv t h1 h2
 obtain ⟨gr,gb,rfl,_,_⟩:=hd w (Agr.refl _ _)
 have hd2:∀ w',Agr FF w w'->DL w' (Flat.val gr) t.regs/\DL w' (Flat.val gb) t.body:=λ w' hw=>by
  obtain ⟨gr2,gb2,e,h4,h5⟩:=hd w' hw
  cases e
  exact ⟨h4,h5⟩
 obtain ⟨rows,_,hr⟩:=Agr.fix tsv_inj λ w' hw=>(hd2 w' hw).2
 exact ⟨gr,gb,rows,rfl,λ w' hw=>DL.flat (hd2 w' hw).1,λ w'=>⟨λ w2 hw=>(hr w2 hw).2,λ hw=>(hr w' hw).1⟩⟩
theorem PrK.of {FF:Nat->Prop} {w:World} {pv:TProgV} {p:TProg} (h:∀ w',Agr FF w w'->Deep.dr w' pv p):PrK (Agr FF w) pv p:=by
 obtain ⟨g0,g1,g2,g3,g4,g5,rfl,_⟩:=h w (Agr.refl _ _)
 have hd:∀ w',Agr FF w w'->DL w' (Flat.val g3) p.threads/\DL w' (Flat.val g4) p.recover:=λ w' hw=>by
  obtain ⟨a0,a1,a2,a3,a4,a5,e,_,_,_,h4,h5,_⟩:=h w' hw
  cases e
  exact ⟨h4,h5⟩
 exact ⟨h,ThsAt.of λ w' hw=>(hd w' hw).1,ThsAt.of λ w' hw=>(hd w' hw).2⟩
def PkK (K:World->Prop) (lv:Value) (l:List TPick):Prop:=∃ ts:List TPickV,∀ w,K w->RdL (λ _=>True) w lv ts/\drs ts l w
theorem PkK.of {FF:Nat->Prop} {w:World} {lv:Value} {l:List TPick} (h:∀ w',Agr FF w w'->DL w' lv l):PkK (Agr FF w) lv l:=by
 obtain ⟨ts,_,ht⟩:=Agr.fix tpv_inj h
 exact ⟨ts,ht⟩
theorem PkK.nil (K:World->Prop):PkK K (.slice none 0 0) []:=⟨[],λ w _=>⟨RdL.nil _ _,drs.nil⟩⟩
theorem GoOk.mono {p:TProg} {a b:Nat} {m:DSy} (h:GoOk p a m) (hab:a<=b):GoOk p b m:=⟨h.ok,h.pr,h.mb.mono hab,by have:=h.cr; omega⟩
def cut18P (q:TPick):TPick:={q with cut:=q.cut.take 25}
def cut18 (l:List TPick):List TPick:=(l.take 40).map cut18P
theorem cut18_ok (l:List TPick):(cut18 l).length<=40/\∀ q∈cut18 l,q.cut.length<=25:=by
 unfold cut18
 refine ⟨by rw [List.length_map,List.length_take]; omega,λ q hq=>?_⟩
 obtain ⟨x,_,rfl⟩:=List.mem_map.1 hq
 show (x.cut.take 25).length<=25
 rw [List.length_take]; omega
variable (w:World) (K:Value->World->Prop)
def S19 (p0 room1 crashes2 l3:Value):Prop:=
 Eop Tryz.prog (Instr.box 40 p0) w λ p4 a=>aL 66 a λ b c=>lA 40 p4 c λ d=>cF 56 [d,room1,crashes2,l3] c λ e f=>xT e 0 λ g=>xT e 1 λ h=>xT e 2 λ j=>bB .neq 29 j (i 0) λ k=>
 cV k (Pop Tryz.prog (Instr.build 66 [].toArray) λ l=>lN 67 h λ n=>sA 66 b l f λ o=>lA 66 b o λ r=>K (.tuple #[r,(.slice none 0 0),j,n]) o) (lA 40 p4 f λ p=>cF 57 [p,g] f λ q s=>
 sA 66 b q s λ t=>lA 66 b t λ r_1=>K (.tuple #[r_1,h,(i 0),(i 0)]) t)
theorem S19_ok (p0 room1 crashes2 l3:Value) (h:S19 w K p0 room1 crashes2 l3):CR 19 [p0,room1,crashes2,l3] w K:=
 okG 34 (λ _=>.nil) 3840 [.cell 8 66,.tmp 9,.tmp 10,.tmp 11] Tryz.func19 h
def S20 (p0 room1 crashes2 l3:Value):Prop:=
 Eop Tryz.prog (Instr.box 40 p0) w λ p4 a=>lA 40 p4 a λ b=>cF 56 [b,room1,crashes2,l3] a λ c d=>xT c 0 λ _=>xT c 1 λ e=>xT c 2 λ _=>lN 67 e λ f=>K f d
theorem S20_ok (p0 room1 crashes2 l3:Value) (h:S20 w K p0 room1 crashes2 l3):CR 20 [p0,room1,crashes2,l3] w K:=
 okG 23 (λ _=>.nil) 256 [.tmp 8] Tryz.func20 h
def S56 (p0 room1 crashes2 l3:Value):Prop:=
 Eop Tryz.prog (Instr.box 40 p0) w λ p4 a=>lA 40 p4 a λ b=>cF 6 [b,room1] a λ c d=>xT c 0 λ e=>xT c 1 λ f=>bB .neq 29 f (i 0) λ g=>cV g (K (.tuple #[(.pointer none),(.slice none 0 0),f]) d) (
 Join1 (λ K1=>bB .lss 3 crashes2 (i 0) λ h=>cV h (K1 tt d) (bB .gtr 3 crashes2 (i 8) λ j=>K1 j d)) (λ k l=>∀ _:Env,
 cV k (K (.tuple #[(.pointer none),(.slice none 0 0),(i 1)]) l) (lN 55 l3 λ n=>Loop2 (λ K2 out13 o p=>∀ _:Env,
 bA .lss 3 o n λ q=>cV q (iA 55 l3 o λ r=>lA 47 r p λ s=>aL 47 p λ t u=>sA 47 t s u λ v=>Join1 (λ K3=>fA 47 t 0 λ x=>lA 3 x v λ y=>bB .eql 3 y (i 3) λ z=>
 cV z (cF 8 [e] v λ aa ab=>Pop Tryz.prog (Instr.field 49 aa 0) λ ac=>bA .geq 3 ac crashes2 λ ad=>K3 ad ab) (K3 ff v)) (λ ae af=>∀ _:Env,
 cV ae (K (.tuple #[e,out13,(i 14)]) af) (lA 47 t af λ ag=>cF 7 [e,ag] af λ ah ai=>xT ah 0 λ aj=>xT ah 1 λ ak=>aL 42 ai λ v16 al=>sA 42 v16 aj al λ am=>bB .neq 29 ak (i 0) λ an=>
 cV an (K (.tuple #[e,out13,ak]) am) (lA 42 v16 am λ ao=>bS 67 1 [(0,ao)] am λ ap aq=>aP 67 out13 ap aq λ ar asx=>bB .add 3 o (i 1) λ au=>K2 ar au asx)))) (K (.tuple #[e,out13,(i 0)]) p))
 (λ K2=>K2 (.slice none 0 0) (i 0) l))))
theorem S56_ok (p0 room1 crashes2 l3:Value) (h:S56 w K p0 room1 crashes2 l3):CR 56 [p0,room1,crashes2,l3] w K:=
 okG 69 (λ _=>.nil) 1792 [.tmp 8,.tmp 9,.tmp 10] Tryz.func56 h
def S57 (p0 s1:Value):Prop:=
 Eop Tryz.prog (Instr.box 40 p0) w λ p2 a=>aL 66 a λ b c=>cF 8 [s1] c λ d e=>aL 49 e λ f g=>sA 49 f d g λ h=>Join1 (λ K1=>fA 49 f 0 λ j=>lA 3 j (drew h) λ k=>
 lA 40 p2 (drew h) λ l=>((cF 16 [s1] (drew h) λ n o=>kA 3 j k o (kA 40 p2 l o (((cF 28 [l] o λ p q=>kA 3 j k q (Pop Tryz.prog (Instr.sliceAt 45 n none (some p) none) λ s=>
 Pop Tryz.prog (Instr.build 66 [(2,k),(3,s)].toArray) λ t=>aL 66 q λ e6 u=>kA 3 j k u (kA 40 p2 l u (sA 66 e6 t u λ v=>K1 e6 v))))
 /\((aL 66 o λ e6_1 x=>kA 3 j k x (kA 40 p2 l x (cF 28 [l] x λ y z=>kA 3 j k z (Pop Tryz.prog (Instr.sliceAt 45 n none (some y) none) λ aa=>Pop Tryz.prog (Instr.build 66 [(2,k),(3,aa)].toArray) λ ab=>
 sA 66 e6_1 ab z λ ac=>K1 e6_1 ac))))
 /\
 True)))))
 /\((aL 66 (drew h) λ e6_2 ad=>kA 3 j k ad (kA 40 p2 l ad (cF 16 [s1] ad λ ae af=>kA 3 j k af (kA 40 p2 l af (cF 28 [l] af λ ag ah=>kA 3 j k ah (Pop Tryz.prog (Instr.sliceAt 45 ae none (some ag) none) λ ai=>
 Pop Tryz.prog (Instr.build 66 [(2,k),(3,ai)].toArray) λ aj=>sA 66 e6_2 aj ah λ ak=>K1 e6_2 ak))))))
 /\
 True))) (λ e6_3 al=>∀ _:Env,
 cF 44 [s1] al λ am an=>cF 110 [am,ff] an λ ao ap=>Join0 (λ K2=>fA 49 f 1 λ aq=>lA 3 aq ap λ ar=>bB .neq 3 ar (i 0) λ asx=>cV asx (fA 49 f 1 λ au=>lA 3 au (drew ap) λ av=>
 fA 66 e6_3 0 λ aw=>sA 3 aw (i 3) (drew ap) λ ax=>kA 3 au av ax (fA 66 e6_3 1 λ ay=>sA 3 ay av ax λ az=>K2 az)) (fA 49 f 4 λ a0=>lA 4 a0 ap λ a1=>cV a1 (fA 66 e6_3 0 λ a2=>
 sA 3 a2 (i 4) ap λ a3=>K2 a3) (Join1 (λ K3=>fA 49 f 3 λ a4=>lA 4 a4 ap λ a5=>cV a5 (bB .geq 3 ao (i 0) λ a6=>K3 a6 ap) (K3 ff ap)) (λ a7 a8=>∀ _:Env,
 cV a7 (fA 66 e6_3 0 λ a9=>sA 3 a9 (i 2) a8 λ ba=>fA 66 e6_3 1 λ bb=>sA 3 bb ao ba λ bc=>K2 bc) (fA 49 f 3 λ bd=>lA 4 bd a8 λ be=>cV be (fA 66 e6_3 0 λ bf=>sA 3 bf (i 1) a8 λ bg=>
 K2 bg) (K2 a8)))))) (λ bh=>∀ _:Env,
 lA 66 e6_3 bh λ bi=>sA 66 b bi bh λ bj=>lA 66 b bj λ r=>K r bj))
def P57:Plans:=λ i=>match i with
 | 2=>(.op 0 [] (.op 1 [] (.op 2 [] (.op 4 [] (.alt 3 [1,4] (.alt 5 [1] (.of [(6,[]),(7,[]),(8,[1,4]),(9,[])]) (.alt 8 [1,4] (.of [(5,[1]),(6,[]),(7,[]),(9,[])]) .stop)) (.alt 8 [1,4] (.of [(3,[1,4]),(5,[1]),(6,[]),(7,[]),(9,[])]) .stop))))))
 | 5=>(.of [(0,[]),(1,[]),(2,[]),(3,[1]),(4,[]),(5,[])])
 | _=>.nil
theorem S57_ok (p0 s1:Value) (h:S57 w K p0 s1):CR 57 [p0,s1] w K:=
 okG 48 P57 16 [.cell 4 66] Tryz.func57 h
def S18 (l0:Value):Prop:=
 bS 55 0 [] w λ a b=>Loop2 (λ K1 out3 i4 c=>∀ _:Env,
 Join1 (λ K2=>lN 55 l0 λ d=>bA .lss 3 i4 d λ e=>cV e (bB .lss 3 i4 (i 40) λ f=>K2 f c) (K2 ff c)) (λ g h=>∀ _:Env,
 cV g (iA 55 l0 i4 λ j=>lA 47 j h λ k=>aL 47 h λ p5 l=>sA 47 p5 k l λ n=>iA 55 l0 i4 λ o=>fA 47 o 3 λ p=>lA 45 p (drew n) λ q=>iA 55 l0 i4 λ r=>fA 47 r 3 λ s=>
 lA 45 s (drew n) λ t=>lN 45 t λ u=>Pop Tryz.prog (Builtin.min_ #[3,3] 3 [u,(i 25)].toArray) λ v=>Pop Tryz.prog (Instr.sliceAt 45 q none (some v) none) λ x=>bS 45 0 [] (drew n) λ y z=>
 kA 45 p q z (kA 45 s t z (aP 45 y x z λ aa ab=>fA 47 p5 3 λ ac=>sA 45 ac aa ab λ ad=>lA 47 p5 ad λ ae=>bS 55 1 [(0,ae)] ad λ af ag=>aP 55 out3 af ag λ ah ai=>bB .add 3 i4 (i 1) λ aj=>
 K1 ah aj ai))) (K out3 h))) (λ K1=>K1 a (i 0) b)
def P18:Plans:=λ i=>match i with
 | 6=>(.of [(1,[]),(2,[]),(3,[]),(4,[]),(5,[]),(6,[]),(7,[]),(8,[]),(9,[]),(10,[]),(11,[]),(12,[]),(13,[]),(0,[5,10]),(14,[]),(15,[]),(16,[])])
 | _=>.nil
theorem S18_ok (l0:Value) (h:S18 w K l0):CR 18 [l0] w K:=
 okG 42 P18 4 [.tmp 2] Tryz.func18 h
def S110 (s0 v1:Value):Prop:=
 lN 106 s0 λ a=>Loop1 (λ K1 b c=>∀ _:Env,
 bA .lss 3 b a λ d=>cV d (iA 106 s0 b λ e=>lA 4 e c λ f=>bA .eql 4 v1 f λ g=>cV g (K b c) (bB .add 3 b (i 1) λ h=>K1 h c)) (K (i (-1)) c)) (λ K1=>K1 (i 0) w)
theorem S110_ok (s0 v1:Value) (h:S110 w K s0 v1):CR 110 [s0,v1] w K:=
 okG 19 (λ _=>.nil) 16 [.tmp 4] Tryz.func110 h
theorem pl19:PL 19:=plE Tryz.func19
theorem pl20:PL 20:=plE Tryz.func20
theorem pl56:PL 56:=plE Tryz.func56
theorem pl57:PL 57:=plE Tryz.func57
theorem pl18:PL 18:=plE Tryz.func18
theorem pl110:PL 110:=plE Tryz.func110
end Go.Proofs.YtfkgkbhbdffckaaGreatDoor
namespace Go.Proofs.YtfkgkbhbdffckaaGreatDoor
open Go.Fw
theorem bld66_:pr Tryz.prog (Instr.build 66 [].toArray)=some (.agg [.int .i64 0,.int .i64 0,.int .i64 0,.slice none 0 0].toArray):=by kernel_rfl
theorem bld66_2_3 (a2:Int) (a3:Option Addr) (n3 c3:Nat):pr Tryz.prog (Instr.build 66 [(2,.int .i64 a2),(3,.slice a3 n3 c3)].toArray)=some (.agg [.int .i64 0,.int .i64 0,.int .i64 a2,.slice a3 n3 c3].toArray):=by kernel_rfl
theorem C16 (K:World->Prop) (p:Nat) (m:DSy) (w:World) (hm:Has (dsyB K p m) w) (hw:∀ w',Ext w w'->K w') (hmk:DSOk m):CR 16 [.pointer (some ⟨p,0,none⟩)] w (λ v w'=>New (ownL v m.mem.l) w w'):=by
 obtain ⟨a,hr⟩:=dsyB.rd hm (hw _ (Ext.refl _));have cm9:=hr.b.cell (o:=9) rfl;have hs:=St.start w;refine S16_ok _ _ _ ?_;unfold S16;exact pop_nil (pop_field fld81_4 (qop_cell ty78 (cm9.ext hs.chg) (callN pl55 hs (C55 a.q m.mem _ (hr.mem.ext hs.chg) hmk.mem) (λ _ _ _ hs=>hs.fresh))))
theorem C110 (sv:Value) (xs:List Bool) (b:Bool) (w:World) (hL:RdL (λ _=>True) w sv xs) (hn:xs.length<=1073741824):CR 110 [sv,.bool b] w (λ v w'=>(∃ k:Int,v = .int .i64 k)/\Ext w w'):=by
 have hs:=St.start w;refine S110_ok _ _ _ _ ?_;unfold S110;refine pop_len sl106 (hL.ext hs.chg) ?_;refine ⟨λ mm y w1=>∃ k:Nat,y = .int .i64 (k:Int)/\mm=xs.length - k/\k<=xs.length/\St w none1 [] w1,⟨_,0,rfl,rfl,Nat.zero_le _,hs⟩,?_⟩;rintro mm _ w1 ⟨k,rfl,rfl,hk,hs⟩ _;refine pop_lss (cond_d (λ c1=>?_) (λ _=>⟨⟨_,rfl⟩,hs.chg⟩));obtain ⟨e,he⟩:∃ e,xs[((k:Nat):Int).toNat]? = some e:=⟨_,List.getElem?_eq_getElem (by omega)⟩;exact pop_idx sl106 (hL.ext hs.chg) (by omega) he (λ _ hq=>qop_at ty4 hq (pop_beql und4 (cond_b (λ _=>⟨⟨_,rfl⟩,hs.chg⟩) (λ _=>pop_add (by omega) ⟨_,by omega,k+1,rfl,rfl,by omega,hs⟩))))
theorem C44 (K:World->Prop) (p:Nat) (m:DSy) (w:World) (hm:Has (dsyB K p m) w) (hw:∀ w',Ext w w'->K w') (hmk:DSOk m) (hfi:m.mem.firsts=firstsM m.p):CR 44 [.pointer (some ⟨p,0,none⟩)] w (λ v w'=>∃ bs:List Bool,bs.length<=1000/\New (ownL v bs) w w'):=by
 obtain ⟨a,hr⟩:=dsyB.rd hm (hw _ (Ext.refl _));have cm6:=hr.b.cell (o:=6) rfl;have cm5:=hr.b.cell (o:=5) rfl;have hst:=stays_le m.p;have hml:m.mem.l.length=(allC m.p).length:=by rw [hmk.mem.ll,hfi]; unfold firstsM; rw [List.length_map]
 have hcl:(cellNs m.p).length=(allC m.p).length:=by unfold cellNs; rw [List.length_map]
 have hal:(allC m.p).length<=20:=by have:=hmk.mem.fl; have:=hmk.mem.ll; omega
 have hcb:=hmk.pz.claims;have hcz:=hmk.pz.zc;obtain ⟨g0,g1,g2,g3,g4,g5,hpv,_,_,_,_,_,hdl⟩:=hr.uk.pr _ (hw _ (Ext.refl _));rw [hpv] at cm5;obtain ⟨cts,hr0,hd0⟩:=hdl.open;have hn0:=hd0.1;have hs:=St.start w;refine S44_ok _ _ _ ?_;unfold S44;refine pop_nil (pop_field fld81_0 ?_);refine qop_sub a.pv ty40 (Blk.ext hr.b hs.chg) rfl (callP pl28 hs (C28 m.p a.pv _ (hr.uk.pr _ (hw _ hs.chg)) hmk.pz) (λ _ he hs=>?_));refine pop_nil (pop_field fld81_0 ?_);refine pop_field fld40_5 (qop_cell ty38 (cm5.ext hs.chg) ?_);refine pop_len sl38 (hr0.ext hs.chg) ?_;refine ⟨λ mm o y w'=>∃ (k:Nat) (bs:List Bool),y = .int .i64 (k:Int)/\mm=cts.length - k/\k<=cts.length/\bs.length=k/\St w none1 [ownL o bs] w',⟨_,0,[],rfl,rfl,Nat.zero_le _,rfl,hs.ownNil⟩,?_⟩
 rintro mm o _ _ ⟨k,bs,rfl,rfl,hk,hb,hs⟩ _;refine pop_lss (cond_d (λ c1=>?_) (λ c1=>?_));rotate_left
 ·exact ⟨bs,by omega,hs.fresh⟩
 obtain ⟨ct,hct⟩:∃ ct,cts[((k:Nat):Int).toNat]? = some ct:=⟨_,List.getElem?_eq_getElem (by omega)⟩;obtain ⟨cl,hcl2⟩:∃ cl,m.p.claims[((k:Nat):Int).toNat]? = some cl:=⟨_,List.getElem?_eq_getElem (by omega)⟩;obtain ⟨ge,rfl,hge⟩:=hd0.2 _ ct cl hct hcl2;have hcle:=(hcz cl (List.mem_of_getElem? hcl2)).1;refine ⟨λ jv w'=>∃ bs2:List Bool,bs2.length=k+1/\St w none1 [ownL jv bs2] w',?_,?_⟩
 ·refine pop_idx sl38 (hr0.ext hs.chg) (by omega) hct (λ q hq=>qop_at ty112 hq ?_);refine eop_allocA hs zero112 (λ b6 _ hs=>uop_blkV (x:=(⟨ge,cl.at_⟩:TClaimV)) hs ty112 rfl rfl (λ _ hs=>?_));have hs:=hs.drew;refine pop_field fld112_0 (qop_blk (v:=Flat.val (ge:SV)) ty22 hs.hb rfl ?_);refine pop_nil (pop_field fld81_1 ?_);refine qop_cell ty32 (cm6.ext hs.chg) (pop_cutHi' sl32 (hr.uk.cs _ (hw _ hs.chg)) (by omega) (by omega) (λ s32 h32=>?_));refine callN pl16 hs (C16 K p m _ (hm.ext hs.chg) (λ _ e=>hw _ (hs.chg.then e)) hmk) (λ x34 _ hnew hs=>?_);refine ⟨run_loadOne ty22 (hs.p1.hb.cell rfl),?_⟩;refine ⟨run_loadOne ty32 (cm6.ext hs.chg),?_⟩;refine pop_cutHi sl45 (hs).rd' (by omega) (by omega) (λ s36 h36=>callP pl99 hs (C99 _ _ _ cl.e _ _ _ (DL.flat (hge.ext hs.chg)) (h32 _ (hr.uk.cs _ (hw _ hs.chg))) h36 hcle (by rw [List.length_take]; omega)) (λ _ he hs=>pop_ext rfl (pop_ext rfl (pop_eql (cond_d (λ c2=>?_) (λ c2=>?_))))))
  ·refine pop_neq (eop_build (([decide ((valN ((cellNs m.p).take (staysM m.p).toNat) (m.mem.l.take (staysM m.p).toNat) cl.e).1≠0)]):List Bool) hs sl106 rfl rfl (leb rfl) (λ s47 w7 hs=>?_));have hr47:=(hs).rd';exact eop_append hs.p3 sl106 hr47 (by rw [List.length_singleton]; omega) (by decide) (λ _ _ hs=>⟨_,by rw [List.length_append,List.length_singleton,hb],((hs.p1.drop).p1.drop).p1.drop⟩)
  refine eop_build ([false]:List Bool) hs sl106 rfl rfl (leb rfl) (λ s47 w7 hs=>?_);have hr47:=(hs).rd';exact eop_append hs.p3 sl106 hr47 (by rw [List.length_singleton]; omega) (by decide) (λ _ _ hs=>⟨_,by rw [List.length_append,List.length_singleton,hb],((hs.p1.drop).p1.drop).p1.drop⟩)
 rintro o2 _ ⟨bs2,hb2,hs⟩ _;exact pop_add (by omega) ⟨_,by omega,k+1,bs2,rfl,rfl,by omega,hb2,hs⟩
theorem C57 (K:World->Prop) (p:Nat) (m:DSy) (pv:TProgV) (w:World) (hm:Has (dsyB K p m) w) (hw:∀ w',Ext w w'->K w') (hmk:DSOk m) (hfi:m.mem.firsts=firstsM m.p) (hp:Deep.dr w pv m.p):CR 57 [Flat.val pv,.pointer (some ⟨p,0,none⟩)] w (λ v w'=>(∃ e:TPickV,v=Flat.val e)/\Ext w w'):=by
 have hst:=stays_le m.p;have hml:m.mem.l.length=(allC m.p).length:=by rw [hmk.mem.ll,hfi]; unfold firstsM; rw [List.length_map]
 have hs:=St.start w;refine S57_ok _ _ _ _ ?_;unfold S57;refine eop_boxV (x:=pv) hs (λ b2 _ hs=>eop_allocA hs zero66 (λ b4 _ hs=>?_));have hs:=hs.enc (cs':=Flat.enc (⟨0,0,0,⟨none,0,0⟩⟩:TPickV)) rfl;refine callP pl8 hs (C8 K p m _ (hm.ext hs.chg) (λ _ e=>hw _ (hs.chg.then e)) hmk) (λ _ he hs=>eop_allocA hs zero49 (λ b5 _ hs=>?_));refine uop_blkV (x:=statusD m) hs ty49 rfl rfl (λ _ hs=>?_);have hs:=hs.drew;refine ⟨λ jv w'=>∃ (b6:Nat) (e:TPickV),jv = .pointer (some ⟨b6,0,none⟩)/\St w none1 [blk b6 (Flat.enc e),blk b5 (Flat.enc (statusD m)),blk b4 (Flat.enc (⟨0,0,0,⟨none,0,0⟩⟩:TPickV)),blk b2 (Flat.enc pv)] w',?_,?_⟩
 ·refine pop_field fld49_0 (qop_blk (v:=.int .i64 m.crashes) ty3 hs.hb rfl (qop_at ty40 hs.p2.At ⟨callN pl16 hs (C16 K p m _ (hm.ext hs.chg) (λ _ e=>hw _ (hs.chg.then e)) hmk) (λ x13 w6 hnew hs=>⟨run_loadOne ty3 (hs.p1.hb.cell rfl),⟨run_at ty40 hs.p3.At,⟨?_,?_,trivial⟩⟩⟩),?_,trivial⟩))
  ·refine callP pl28 hs (C28 m.p pv _ (Deep.ext hp hs.chg) hmk.pz) (λ w7 he hs=>?_);refine ⟨run_loadOne ty3 (hs.p1.hb.cell rfl),?_⟩;refine pop_cutHi sl45 (hs).rd' (by omega) (by omega) (λ s16 h16=>?_);obtain ⟨sv,rfl⟩:=h16.isSV;refine pop (bld66_2_3 m.crashes _ _ _) (eop_allocA hs zero66 (λ b6 w8 hs=>?_));refine ⟨run_loadOne ty3 (hs.p2.hb.cell rfl),?_⟩;refine ⟨run_at ty40 hs.p4.At,?_⟩;exact uop_blkV (x:=(⟨0,0,m.crashes,sv⟩:TPickV)) hs ty66 rfl rfl (λ _ hs=>⟨b6,_,rfl,hs.p1.drop⟩)
  ·refine eop_allocA hs zero66 (λ b6 w8 hs=>?_);refine ⟨run_loadOne ty3 (hs.p2.hb.cell rfl),?_⟩;refine ⟨run_at ty40 hs.p4.At,?_⟩;refine callP pl28 hs (C28 m.p pv _ (Deep.ext hp hs.chg) hmk.pz) (λ w7 he hs=>?_);refine ⟨run_loadOne ty3 (hs.p2.hb.cell rfl),?_⟩;refine pop_cutHi sl45 (hs.p1).rd' (by omega) (by omega) (λ s16 h16=>?_);obtain ⟨sv,rfl⟩:=h16.isSV;exact pop (bld66_2_3 m.crashes _ _ _) (uop_blkV (x:=(⟨0,0,m.crashes,sv⟩:TPickV)) hs ty66 rfl rfl (λ _ hs=>⟨b6,_,rfl,hs.p1.drop⟩))
  refine eop_allocA hs zero66 (λ b6 w8 hs=>?_);refine ⟨run_loadOne ty3 (hs.p1.hb.cell rfl),?_⟩;refine ⟨run_at ty40 hs.p3.At,?_⟩;refine callN pl16 hs (C16 K p m _ (hm.ext hs.chg) (λ _ e=>hw _ (hs.chg.then e)) hmk) (λ x13 w6 hnew hs=>?_);refine ⟨run_loadOne ty3 (hs.p2.hb.cell rfl),?_⟩;refine ⟨run_at ty40 hs.p4.At,?_⟩;refine callP pl28 hs (C28 m.p pv _ (Deep.ext hp hs.chg) hmk.pz) (λ w7 he hs=>?_);refine ⟨run_loadOne ty3 (hs.p2.hb.cell rfl),?_⟩;refine pop_cutHi sl45 (hs).rd' (by omega) (by omega) (λ s16 h16=>?_);obtain ⟨sv,rfl⟩:=h16.isSV;exact pop (bld66_2_3 m.crashes _ _ _) (uop_blkV (x:=(⟨0,0,m.crashes,sv⟩:TPickV)) hs.p1 ty66 rfl rfl (λ _ hs=>⟨b6,_,rfl,hs.p1.drop⟩))
 rintro _ _ ⟨b6,e,rfl,hs⟩ _;refine callF pl44 (C44 K p m _ (hm.ext hs.chg) (λ _ e=>hw _ (hs.chg.then e)) hmk hfi) ?_;rintro x19 _ ⟨bs,hbl,hnew⟩;have hs:=hs.made hnew;refine callF pl110 (C110 _ bs false _ (hs).rd' (by omega)) ?_;rintro _ w19 ⟨⟨k20,rfl⟩,he⟩;have hs:=(hs.ext he).drop;refine ⟨λ w'=>∃ e:TPickV,St w none1 [blk b6 (Flat.enc e),blk b5 (Flat.enc (statusD m)),blk b4 (Flat.enc (⟨0,0,0,⟨none,0,0⟩⟩:TPickV)),blk b2 (Flat.enc pv)] w',?_,?_⟩
 ·refine pop_field fld49_1 (qop_blk (v:=.int .i64 m.fault) ty3 hs.p1.hb rfl ?_);refine pop_neq (cond_d (λ c1=>?_) (λ c1=>?_))
  ·have hs:=hs.drew;refine pop_field fld49_1 (qop_blk (v:=.int .i64 m.fault) ty3 hs.p1.hb rfl ?_);refine pop_field fld66_0 (uop_blk hs ty3 (leb rfl) rfl (λ w20 hs=>?_));refine ⟨run_loadOne ty3 (hs.p1.hb.cell rfl),?_⟩;exact pop_field fld66_1 (uop_blk hs ty3 (leb rfl) rfl (λ _ hs=>⟨⟨3,m.fault,e.i,e.cut⟩,hs⟩))
  refine pop_field fld49_4 (qop_blk (v:=.bool (stuckD m)) ty4 hs.p1.hb rfl ?_);refine cond_b (λ c2=>?_) (λ c2=>?_)
  ·exact pop_field fld66_0 (uop_blk hs ty3 (leb rfl) rfl (λ _ hs=>⟨⟨4,e.t,e.i,e.cut⟩,hs⟩))
  refine ⟨λ jv w'=>(∃ b:Bool,jv = .bool b)/\w'=w19,?_,?_⟩
  ·exact pop_field fld49_3 (qop_blk (v:=.bool (doneD m)) ty4 hs.p1.hb rfl (cond_b (λ _=>pop_geq ⟨⟨_,rfl⟩,rfl⟩) (λ _=>⟨⟨false,rfl⟩,rfl⟩)))
  rintro _ _ ⟨⟨b,rfl⟩,rfl⟩ _;refine cond_b (λ c3=>?_) (λ c3=>?_)
  ·exact pop_field fld66_0 (uop_blk hs ty3 (leb rfl) rfl (λ _ hs=>pop_field fld66_1 (uop_blk hs ty3 (leb rfl) rfl (λ _ hs=>⟨⟨2,k20,e.i,e.cut⟩,hs⟩))))
  exact pop_field fld49_3 (qop_blk (v:=.bool (doneD m)) ty4 hs.p1.hb rfl (cond_b (λ _=>pop_field fld66_0 (uop_blk hs ty3 (leb rfl) rfl (λ _ hs=>⟨⟨1,e.t,e.i,e.cut⟩,hs⟩))) (λ _=>⟨e,hs⟩)))
 rintro _ ⟨e2,hs⟩ _;exact qop_at (x:=e2) ty66 hs.At (uop_blkV (x:=e2) hs.p2 ty66 rfl rfl (λ _ hs=>qop_at (x:=e2) ty66 hs.At ⟨⟨e2,rfl⟩,hs.drop.drop.drop.drop.chg⟩))
theorem fldSt (s:TStatus):pr Tryz.prog (Instr.field 49 (Flat.val s) 0)=some (.int .i64 s.crashes):=by
 obtain ⟨a,b,c,d,e⟩:=s
 kernel_rfl
theorem C56 (K:World->Prop) (p:TProg) (pv:TProgV) (room c:Int) (lv:Value) (l:List TPick) (w:World) (hw:∀ w',Ext w w'->K w') (hp:PrK K pv p) (hz:PZ p) (hl:PkK K lv l) (hll:l.length<=1000) (hcu:∀ q∈l,q.cut.length<=1000) :
  CR 56 [Flat.val pv,.int .i64 room,.int .i64 c,lv] w (λ v w'=>(startE p room c≠0/\v = .tuple #[.pointer none,.slice none 0 0,.int .i64 (startE p room c)]/\Ext w w')\/
  (startE p room c=0/\∃ (b:Nat) (X:World->Prop) (ov:Value),v = .tuple #[.pointer (some ⟨b,0,none⟩),ov,.int .i64 (goR c (newD p room) [] l).2.2]/\GoOk p 1000 (goR c (newD p room) [] l).1/\(goR c (newD p room) [] l).1.mem.firsts=firstsM p/\New (sep (dsyB (λ w=>K w/\X w) b (goR c (newD p room) [] l).1) (sep (ownL ov (goR c (newD p room) [] l).2.1) (frz X))) w w')):=by
 have hs:=St.start w;refine S56_ok _ _ _ _ _ _ ?_;unfold S56;refine eop_boxV (x:=pv) hs (λ b4 _ hs=>qop_at ty40 hs.At ?_);refine callF pl6 (C6 K p pv room _ (λ _ e=>hw _ (hs.chg.then e)) hp hz) ?_;rintro v21 w2 (⟨h1,rfl,he⟩ | ⟨h0,h1,rfl,he⟩ | ⟨h0,hr,b,X,rfl,hnew⟩)
 ·have hs:=hs.ext he;refine pop_ext rfl (pop_ext rfl ?_);refine pop_neq (cond_d (λ _=>?_) (λ h=>absurd h1 h));have e:startE p room c=checkE p:=by unfold startE; rw [if_pos h1]
  rw [e];exact .inl ⟨h1,rfl,hs.drop.chg⟩
 ·have hs:=hs.ext he;refine pop_ext rfl (pop_ext rfl ?_);refine pop_neq (cond_d (λ _=>?_) (λ h=>absurd (by decide:(1:Int)≠0) h));have e:startE p room c=1:=by unfold startE; rw [if_neg (by rw [h0]; decide),if_pos h1]
  rw [e];exact .inl ⟨by decide,rfl,hs.drop.chg⟩
 have hck:=ck_spec h0;have hs:=(hs.made hnew).split;refine pop_ext rfl (pop_ext rfl ?_);refine pop_neq (cond_d (λ h=>absurd rfl h) (λ _=>?_));refine ⟨λ jv w'=>jv = .bool (decide (c<0\/8<c))/\w'=w2,?_,?_⟩
 ·exact pop_lss (cond_d (λ h=>⟨vb (decide_eq_true (.inl h)).symm,rfl⟩) (λ _=>pop_gtr ⟨vb (decide_eq_decide.2 (by omega)),rfl⟩))
 rintro _ _ ⟨rfl,rfl⟩ _;refine cond_d (λ h2=>?_) (λ h2=>?_)
 ·have e:startE p room c=1:=by unfold startE; rw [if_neg (by rw [h0]; decide),if_neg (by omega),if_pos h2]
  rw [e];exact .inl ⟨by decide,rfl,hs.drop.drop.drop.chg⟩
 have hse:startE p room c=0:=by unfold startE; rw [if_neg (by rw [h0]; decide),if_neg (by omega),if_neg h2]
 obtain ⟨ts,hts⟩:=hl;have hn:ts.length=l.length:=(hts _ (hw _ hs.chg)).2.1
 have hfin:∀ (k:Nat) (m:DSy) (ov:Value) (out:List TEvent) (f:Int) (w':World),k<=l.length->GoOk p k m->m.mem.firsts=firstsM p->(goR c (newD p room) [] l)=(m,out,f)->St w none1 [ownL ov out,dsyB (λ w=>K w/\X w) b m,frz X,blk b4 (Flat.enc pv)] w'->
   (startE p room c≠0/\Value.tuple #[.pointer (some ⟨b,0,none⟩),ov,.int .i64 f] = .tuple #[.pointer none,.slice none 0 0,.int .i64 (startE p room c)]/\Ext w w')\/
   (startE p room c=0/\∃ (b':Nat) (X:World->Prop) (ov':Value),Value.tuple #[.pointer (some ⟨b,0,none⟩),ov,.int .i64 f] = .tuple #[.pointer (some ⟨b',0,none⟩),ov',.int .i64 (goR c (newD p room) [] l).2.2]/\GoOk p 1000 (goR c (newD p room) [] l).1/\(goR c (newD p room) [] l).1.mem.firsts=firstsM p/\New (sep (dsyB (λ w=>K w/\X w) b' (goR c (newD p room) [] l).1) (sep (ownL ov' (goR c (newD p room) [] l).2.1) (frz X))) w w'):=by
  intro k m ov out f w' hk hg hf he hs;rw [he];have hs:=St.join (hs.p3.drop).p2.p1;exact .inr ⟨hse,b,X,ov,rfl,hg.mono (by omega),hf,(St.join hs.p1).fresh⟩
 refine pop_len sl55 (hts _ (hw _ hs.chg)).1 ?_
 refine ⟨λ mm o y w'=>∃ (k:Nat) (m:DSy) (out:List TEvent),y = .int .i64 (k:Int)/\mm=ts.length - k/\k<=l.length/\out.length<=k/\GoOk p k m/\m.mem.firsts=firstsM p/\(goR c (newD p room) [] l)=goR c m out (l.drop k)/\St w none1 [ownL o out,dsyB (λ w=>K w/\X w) b m,frz X,blk b4 (Flat.enc pv)] w',
  ⟨_,0,newD p room,[],rfl,rfl,Nat.zero_le _,Nat.le_refl _,GoOk.new hz hck hr,rfl,rfl,hs.ownNil⟩,?_⟩
 rintro mm ov _ w4 ⟨k,m,out,rfl,rfl,hk,ho,hg,hfi,hgo,hs⟩ _;refine pop_lss (cond_d (λ c1=>?_) (λ c1=>?_));rotate_left
 ·rw [List.drop_of_length_le (by omega)] at hgo;exact hfin k m ov out 0 w4 hk hg hfi hgo hs
 obtain ⟨q,hq⟩:∃ q,l[k]? = some q:=⟨_,List.getElem?_eq_getElem (by omega)⟩;obtain ⟨tq,htq⟩:∃ tq,ts[((k:Nat):Int).toNat]? = some tq:=⟨_,List.getElem?_eq_getElem (by omega)⟩;have hqd:∀ w',K w'->Deep.dr w' tq q:=λ w' h=>(hts w' h).2.2 k tq q htq hq;obtain ⟨gc,rfl,_⟩:=hqd _ (hw _ hs.chg)
 have hgc:∀ w',K w'->RdL (λ _=>True) w' (Flat.val gc) q.cut:=λ w' h=>by
  obtain ⟨gc2,e,h3⟩:=hqd w' h;cases e
  exact DL.flat h3
 have hqc:=hcu q (List.mem_of_getElem? hq)
 have hdr:l.drop k=q::l.drop (k+1):=by
  obtain ⟨h1,h2⟩:=List.getElem?_eq_some_iff.1 hq;rw [List.drop_eq_getElem_cons h1,h2]
 rw [hdr] at hgo;have hmb:=hg.mb.mono (b:=1000000) (by omega);have hcr:=hg.cr;refine pop_idx sl55 (hts _ (hw _ hs.chg)).1 (by omega) htq (λ q37 h37=>qop_at ty47 h37 ?_);refine eop_allocA hs zero47 (λ b15 _ hs=>uop_blkV (x:=(⟨q.kind,q.t,q.i,gc⟩:TPickV)) hs ty47 rfl rfl (λ _ hs=>?_));refine ⟨λ jv w'=>jv = .bool (decide (q.kind=3/\c<=m.crashes))/\St w none1 [blk b15 (Flat.enc (⟨q.kind,q.t,q.i,gc⟩:TPickV)),ownL ov out,dsyB (λ w=>K w/\X w) b m,frz X,blk b4 (Flat.enc pv)] w',?_,?_⟩
 ·exact pop_field fld47_0 (qop_blk (v:=.int .i64 q.kind) ty3 hs.hb rfl (pop_eql (cond_d (λ c2=>callP pl8 hs (C8 (λ w=>K w/\X w) b m _ (hs.p2).has (λ _ e=>⟨hw _ (hs.chg.then e),(hs.ext e).p3.frz⟩) hg.ok) (λ _ _ hs=>pop (fldSt (statusD m)) (pop_geq ⟨vb (decide_eq_decide.2 ⟨λ h=>⟨c2,h⟩,λ h=>h.2⟩),hs⟩))) (λ c2=>⟨vb (decide_eq_false (λ h=>c2 h.1)).symm,hs⟩))))
 rintro _ w8 ⟨rfl,hs⟩ _;refine cond_d (λ c2=>?_) (λ c2=>?_)
 ·rw [goR,if_pos c2] at hgo;exact hfin k m ov out 14 w8 hk hg hfi hgo hs.drop
 rw [goR,if_neg c2] at hgo;refine qop_at (x:=(⟨q.kind,q.t,q.i,gc⟩:TPickV)) ty47 hs.At (callMut2 pl7 hs.p2 (H':=λ _=>dsyB (λ w=>K w/\X w) b (doD m q).1) (Φ:=λ v _=>v = .tuple #[Flat.val (doD m q).2.1,.int .i64 (doD m q).2.2]) (λ F2 hF2 hfr=>?_) ?_)
 ·exact C7 (λ w=>K w/\X w) b m q gc F2 _ hF2 (λ w' hc=>⟨hw _ (hfr w' hc).chg,(hfr w' hc).p2.frz⟩) hg.ok (hg.pr▸hck) hmb (by omega) (λ w' hc=>hgc _ (hw _ (hfr w' hc).chg)) hqc
 rintro _ _ rfl hs;refine pop_ext rfl (pop_ext rfl ?_);refine eop_allocA hs zero42 (λ b16 _ hs=>uop_blkV (x:=(doD m q).2.1) hs ty42 rfl rfl (λ w11 hs=>?_));refine pop_neq ?_;have hg2:=hg.step (q:=q) hck;have hfi2:=(doD_fi hg.ok q).trans hfi;refine cond_d (λ c3=>?_) (λ c3=>?_)
 ·rw [if_pos c3] at hgo;exact hfin (k+1) _ ov out _ w11 (by omega) hg2 hfi2 hgo (hs.drop.p1.drop).p1
 rw [if_neg c3] at hgo;refine qop_at (x:=(doD m q).2.1) ty42 hs.At (eop_build [(doD m q).2.1] hs sl67 rfl rfl (leb rfl) (λ s64 _ hs=>?_));have hr64:=(hs).rd';refine eop_append hs.p4 sl67 hr64 (by rw [List.length_singleton]; omega) (by decide) (λ s65 _ hs=>pop_add (by omega) ?_);refine ⟨ts.length - (k+1),by omega,k+1,_,out++[(doD m q).2.1],rfl,rfl,by omega,by rw [List.length_append,List.length_singleton]; omega,hg2,hfi2,hgo,?_⟩;exact ((hs.p1.drop).p1.drop).p2.drop
theorem C19 (K:World->Prop) (p:TProg) (pv:TProgV) (room c:Int) (lv:Value) (l:List TPick) (w:World) (hw:∀ w',Ext w w'->K w') (hp:PrK K pv p) (hz:PZ p) (hl:PkK K lv l) (hll:l.length<=1000) (hcu:∀ q∈l,q.cut.length<=1000) :
  CR 19 [Flat.val pv,.int .i64 room,.int .i64 c,lv] w (λ v w'=>∃ (e:TPickV) (ov:Value),v = .tuple #[Flat.val e,ov,.int .i64 (runD p room c l).2,.int .i64 (if (runD p room c l).2≠0 then (farD p room c l:Int) else 0)]/\New (ownL ov (if (runD p room c l).2≠0 then [] else (runD p room c l).1)) w w'):=by
 have hs:=St.start w;refine S19_ok _ _ _ _ _ _ ?_;unfold S19;refine eop_boxV (x:=pv) hs (λ b4 _ hs=>eop_allocA hs zero66 (λ b8 _ hs=>?_));have hs:=hs.enc (cs':=Flat.enc (⟨0,0,0,⟨none,0,0⟩⟩:TPickV)) rfl;refine qop_at ty40 hs.p1.At (callF pl56 (C56 K p pv room c lv l _ (λ _ e=>hw _ (hs.chg.then e)) hp hz hl hll hcu) ?_);rintro v20 w3 (⟨h1,rfl,he⟩ | ⟨h1,b,X,ov,rfl,hg,hfi,hnew⟩)
 ·have hs:=hs.ext he;refine pop_ext rfl (pop_ext rfl ?_);refine pop_ext rfl (pop_neq ?_);refine cond_d (λ _=>?_) (λ h=>absurd h1 h);refine pop (bld66_) (pop_len sl67 (RdL.nil (α:=TEvent) (λ _=>True) w) ?_);refine uop_blkV (x:=(⟨0,0,0,⟨none,0,0⟩⟩:TPickV)) hs ty66 rfl rfl (λ w4 hs=>qop_at (x:=(⟨0,0,0,⟨none,0,0⟩⟩:TPickV)) ty66 hs.At ?_);have e:=runD_bad (l:=l) h1;unfold farD;rw [e,if_pos h1,if_pos h1];exact ⟨_,_,rfl,(hs.drop.drop.ownNil (α:=TEvent)).fresh⟩
 have e:runD p room c l=((goR c (newD p room) [] l).2.1,(goR c (newD p room) [] l).2.2):=by unfold runD; rw [if_neg (by rw [h1]; decide)]
 have hs:=(((hs.made hnew).split).p1.split);refine pop_ext rfl (pop_ext rfl ?_);refine pop_ext rfl (pop_neq ?_);refine cond_d (λ h2=>?_) (λ h2=>?_)
 ·refine pop (bld66_) (pop_len sl67 (hs).rd' ?_);refine uop_blkV (x:=(⟨0,0,0,⟨none,0,0⟩⟩:TPickV)) hs.p3 ty66 rfl rfl (λ w4 hs=>qop_at (x:=(⟨0,0,0,⟨none,0,0⟩⟩:TPickV)) ty66 hs.At ?_);unfold farD;rw [e,if_pos h2,if_pos h2];exact ⟨_,_,rfl,(hs.drop.drop.drop.drop.drop.ownNil (α:=TEvent)).fresh⟩
 refine qop_at ty40 hs.p4.At (callF pl57 (C57 (λ w=>K w/\X w) b (goR c (newD p room) [] l).1 pv _ (hs.p2).has (λ _ e=>⟨hw _ (hs.chg.then e),(hs.ext e).p1.frz⟩) hg.ok (hfi.trans (by rw [hg.pr])) (by rw [hg.pr]; exact hp.pr _ (hw _ hs.chg))) ?_);rintro _ _ ⟨⟨e2,rfl⟩,he⟩;have hs:=hs.ext he;refine uop_blkV (x:=e2) hs.p3 ty66 rfl rfl (λ _ hs=>qop_at (x:=e2) ty66 hs.At ?_);rw [e,if_neg h2,if_neg h2];have h3:(goR c (newD p room) [] l).2.2=0:=Decidable.not_not.1 h2;rw [h3];exact ⟨e2,ov,rfl,((((hs.drop).p1.drop).p1.drop).p1.drop).fresh⟩
theorem C20 (K:World->Prop) (p:TProg) (pv:TProgV) (room c:Int) (lv:Value) (l:List TPick) (w:World) (hw:∀ w',Ext w w'->K w') (hp:PrK K pv p) (hz:PZ p) (hl:PkK K lv l) (hll:l.length<=1000) (hcu:∀ q∈l,q.cut.length<=1000) :
  CR 20 [Flat.val pv,.int .i64 room,.int .i64 c,lv] w (λ v w'=>v = .int .i64 (farD p room c l:Int)/\Ext w w'):=by
 have hs:=St.start w;refine S20_ok _ _ _ _ _ _ ?_;unfold S20;refine eop_boxV (x:=pv) hs (λ b4 _ hs=>qop_at ty40 hs.At ?_);refine callF pl56 (C56 K p pv room c lv l _ (λ _ e=>hw _ (hs.chg.then e)) hp hz hl hll hcu) ?_;rintro v20 w3 (⟨h1,rfl,he⟩ | ⟨h1,b,X,ov,rfl,hg,hfi,hnew⟩)
 ·have hs:=hs.ext he;refine pop_ext rfl (pop_ext rfl ?_);refine pop_ext rfl (pop_len sl67 (RdL.nil (α:=TEvent) (λ _=>True) w) ?_);unfold farD;rw [runD_bad h1];exact ⟨rfl,hs.drop.chg⟩
 have e:runD p room c l=((goR c (newD p room) [] l).2.1,(goR c (newD p room) [] l).2.2):=by unfold runD; rw [if_neg (by rw [h1]; decide)]
 have hs:=(((hs.made hnew).split).p1.split);refine pop_ext rfl (pop_ext rfl ?_);refine pop_ext rfl (pop_len sl67 (hs).rd' ?_);unfold farD;rw [e];exact ⟨rfl,hs.drop.drop.drop.drop.chg⟩
variable (w:World) (K:Value->World->Prop)
def S5 (p0 crashes1 l2:Value):Prop:=
 Eop Tryz.prog (Instr.box 40 p0) w λ p3 a=>lA 40 p3 a λ b=>cF 10 [b] a λ c d=>sA 40 p3 c d λ e=>cF 18 [l2] e λ f g=>bB .and 3 crashes1 (i 7) λ h=>lA 40 p3 g λ j=>
 cF 19 [j,(i 2),h,(.slice none 0 0)] g λ k l=>xT k 0 λ n=>xT k 1 λ _=>xT k 2 λ o=>xT k 3 λ _=>aL 66 l λ p q=>sA 66 p n q λ r=>lA 40 p3 r λ s=>cF 20 [s,(i 2),h,f] r λ t u=>
 bB .neq 29 o (i 0) λ v=>cV v (Join1 (λ K1=>bB .eql 3 t (i 0) λ x=>cV x (cF 21 [] u λ y z=>K1 y z) (K1 ff u)) (λ aa ab=>∀ _:Env,
 K aa ab)) (Join1 (λ K2=>bB .lss 3 t (i 0) λ ac=>cV ac (K2 tt u) (lN 55 f λ ad=>bA .gtr 3 t ad λ ae=>K2 ae u)) (λ af ag=>∀ _:Env,
 cV af (K ff ag) (Join2 (λ K3=>lA 40 p3 (drew ag) λ ah=>Pop Tryz.prog (Instr.sliceAt 55 f none (some t) none) λ ai=>((cF 19 [ah,(i 2),h,ai] (drew ag) λ aj ak=>xT aj 0 λ al=>
 xT aj 1 λ am=>xT aj 2 λ an=>xT aj 3 λ _=>aL 66 ak λ ao ap=>kA 40 p3 ah ap (sA 66 ao al ap λ aq=>K3 am an aq))
 /\((aL 66 (drew ag) λ ar asx=>kA 40 p3 ah asx (cF 19 [ah,(i 2),h,ai] asx λ au av=>xT au 0 λ aw=>xT au 1 λ ax=>xT au 2 λ ay=>xT au 3 λ _=>sA 66 ar aw av λ az=>
 K3 ax ay az))
 /\
 True))) (λ v14 f15 a0=>∀ _:Env,
 Join1 (λ K4=>bB .neq 29 f15 (i 0) λ a1=>cV a1 (K4 tt a0) (lN 67 v14 λ a2=>bA .neq 3 a2 t λ a3=>K4 a3 a0)) (λ a4 a5=>∀ _:Env,
 cV a4 (K ff a5) (lN 55 f λ a6=>bA .eql 3 t a6 λ a7=>cV a7 (cF 21 [] a5 λ a8 a9=>K a8 a9) (Join2 (λ K5=>lA 40 p3 (drew a5) λ ba=>bB .add 3 t (i 1) λ bb=>Pop Tryz.prog (Instr.sliceAt 55 f none (some bb) none) λ bc=>
 ((cF 19 [ba,(i 2),h,bc] (drew a5) λ bd be=>xT bd 0 λ bf=>xT bd 1 λ _=>xT bd 2 λ bg=>xT bd 3 λ bh=>aL 66 be λ bi bj=>kA 40 p3 ba bj (sA 66 bi bf bj λ bk=>K5 bg bh bk))
 /\((aL 66 (drew a5) λ bl bm=>kA 40 p3 ba bm (cF 19 [ba,(i 2),h,bc] bm λ bn bo=>xT bn 0 λ bp=>xT bn 1 λ _=>xT bn 2 λ bq=>xT bn 3 λ br=>sA 66 bl bp bo λ bs=>
 K5 bq br bs))
 /\
 True))) (λ g19 at20 bt=>∀ _:Env,
 lA 40 p3 bt λ bu=>cF 19 [bu,(i 2),h,f] bt λ bv bw=>xT bv 0 λ bx=>xT bv 1 λ _=>xT bv 2 λ bz=>xT bv 3 λ b0=>aL 66 bw λ b1 b2=>sA 66 b1 bx b2 λ b3=>Join1 (λ K6=>
 bB .neq 29 g19 (i 0) λ b4=>cV b4 (bA .eql 3 at20 t λ b5=>cV b5 (bA .eql 29 bz g19 λ b6=>cV b6 (bA .eql 3 b0 t λ b7=>cV b7 (cF 21 [] b3 λ b8 b9=>K6 b8 b9) (K6 ff b3)) (
 K6 ff b3)) (K6 ff b3)) (K6 ff b3)) (λ ca cb=>∀ _:Env,
 K ca cb)))))))))
def P5:Plans:=λ i=>match i with
 | 10=>(.op 0 [] (.op 1 [] (.op 2 [] (.op 3 [] (.op 4 [] (.alt 5 [] (.of [(6,[]),(7,[]),(8,[]),(9,[]),(10,[]),(11,[0]),(12,[]),(13,[]),(14,[]),(15,[])]) (.alt 11 [0] (.of [(5,[]),(6,[]),(7,[]),(8,[]),(9,[]),(10,[]),(12,[]),(13,[]),(14,[]),(15,[])]) .stop)))))))
 | 15=>(.op 0 [] (.op 1 [] (.op 2 [] (.op 3 [] (.op 4 [] (.op 5 [] (.alt 6 [] (.of [(7,[]),(8,[]),(9,[]),(10,[]),(11,[]),(12,[0]),(13,[]),(14,[]),(15,[]),(16,[])]) (.alt 12 [0] (.of [(6,[]),(7,[]),(8,[]),(9,[]),(10,[]),(11,[]),(13,[]),(14,[]),(15,[]),(16,[])]) .stop))))))))
 | _=>.nil
theorem S5_ok (p0 crashes1 l2:Value) (h:S5 w K p0 crashes1 l2):CR 5 [p0,crashes1,l2] w K:=
 okG 123 P5 64 [.tmp 6] Tryz.func5 h
end Go.Proofs.YtfkgkbhbdffckaaGreatDoor
namespace Go.Fw
noncomputable section
abbrev Ov:=Nat->V->Hp->Nat->OR
def evFo (P:Program) (L:List Nat) (ov:Ov) (fs:Nat->FSx) (f:Nat):Cal:=
 Nat.rec (motive:=λ _=>Cal) (λ _ _ _ _=>.no)
  (λ _ ih c args h n=>c.onFY .no (λ g caps=>Bool.rec (motive:=λ _=>OR) (enter P ih (fs g) (appV args caps) h n) (ov g (appV args caps) h n) (memB g L)) (λ l=>round P ih l args h n)) f
end
section
variable {P:Program} {Fr:Fram} {ρ:Rn} {h h':Hp} {w:World} {v:V} {n n':Nat}
def OvOk (P:Program) (L:List Nat) (ov:Ov):Prop:=∀ (g:Nat) (args:V) (h:Hp) (n:Nat) (v:V) (h':Hp) (n':Nat),memB g L=true->ov g args h n = .ok v h' n'->
 ∀ (Fr:Fram) (ρ:Rn) (w:World) (xs:List Value),RLs ρ args xs->RH P Fr ρ h w->Plain P g/\Calls P g xs.toArray w (Ret (Pst P Fr ρ v h'))
theorem evFo_sound (hm:P.follows .mixedOrders=true) {L M:List Nat} {ov:Ov} {pls:Nat->Nat->PT} (hov:OvOk P M ov) (hall:List.all L (okF P pls)=true):∀ f,CalOk P (evFo P M ov (onlyF L (prepF P pls)) f):=by
 intro f
 induction f with
 | zero=>intro c args h n v h' n' hh; cases hh
 | succ f ih=>
  intro c args h n v h' n' hh Fr ρ w x xs hx hA hR
  have hh:c.onFY .no (λ g caps=>Bool.rec (motive:=λ _=>OR) (enter P (evFo P M ov (onlyF L (prepF P pls)) f) (onlyF L (prepF P pls) g) (appV args caps) h n) (ov g (appV args caps) h n) (memB g M)) (λ l=>round P (evFo P M ov (onlyF L (prepF P pls)) f) l args h n) = .ok v h' n':=hh
  rcases V.onFY_inv c .no (λ g caps=>Bool.rec (motive:=λ _=>OR) (enter P (evFo P M ov (onlyF L (prepF P pls)) f) (onlyF L (prepF P pls) g) (appV args caps) h n) (ov g (appV args caps) h n) (memB g M)) (λ l=>round P (evFo P M ov (onlyF L (prepF P pls)) f) l args h n) with h0 | ⟨g,caps,h0,h1⟩ | ⟨l,h0,h1⟩
  ·rw [h0] at hh; cases hh
  ·rw [h1] at hh
   rw [h0] at hx
   obtain ⟨ys,hys,hx⟩:=hx
   cases ho:memB g M with
   | true=>
    rw [ho] at hh
    obtain ⟨p1,p2⟩:=hov g _ h n v h' n' ho hh Fr ρ w _ (RLs.app hA hys) hR
    exact ⟨.inl ⟨g,#[],ys.toArray,hx,p1,by simpa using p2⟩⟩
   | false=>
   rw [ho] at hh
   cases hmem:memB g L with
   | false=>unfold onlyF at hh; rw [hmem] at hh; cases hh
   | true=>
    have hok:=List.all_eq_true.1 hall g (memB_iff.1 hmem)
    have he:onlyF L (prepF P pls) g=prepF P pls g:=by unfold onlyF; rw [hmem]; rfl
    have hh:enter P (evFo P M ov (onlyF L (prepF P pls)) f) (onlyF L (prepF P pls) g) (appV args caps) h n = .ok v h' n':=hh
    rw [he] at hh
    obtain ⟨p1,p2⟩:=enter_sound hm ih hok hh (RLs.app hA hys) hR
    exact ⟨.inl ⟨g,#[],ys.toArray,hx,p1,by simpa using p2⟩⟩
  ·rw [h1] at hh
   rw [h0] at hx
   obtain ⟨q,hq,hx⟩:=hx
   exact ⟨.inr ⟨q.k,hx,round_sound hm ih hh hq hA hR⟩⟩
theorem ext_heap {w':World} {r:Nat} {o:Obj} (e:Ext w w') (hr:w.heap[r]? = some o):w'.heap[r]? = some o:=(e.blk r (Array.getElem?_eq_some_iff.1 hr).1 λ h=>h).trans hr
theorem RH.extW {w':World} (hR:RH P Fr ρ h w) (e:Ext w w'):RH P Fr ρ h w':=
 ⟨hR.fresh,λ b hb=>let ⟨q,o,h1,h2,h3⟩:=hR.lv b hb; ⟨q,o,h1,ext_heap e h2,h3⟩,hR.sep,λ r o hr=>ext_heap e (hR.keep r o hr),hR.off,hR.st.trans ⟨e.os,e.tape,e.output⟩⟩
end
section
variable {P:Program} {Fr:Fram} {ρ:Rn} {h h':Hp} {w:World} {v:V} {n n':Nat}
structure Ent where
 n:Nat
 m:Nat
 x:Int
 b:Nat
def Ent.si (p:Ent):SI:=(strOf p.n p.m,p.x)
def Ent.en (p:Ent):MapEntry:=⟨.string (strOf p.n p.m),.int .i64 p.x,p.b⟩
def entC (b:Nat) (o:Option (List Ent)):V->V->Option (List Ent)
 | .s n m,.i .i64 x=>o.map (⟨n,m,x,b⟩ :: ·)
 | _,_=>none
theorem entC_ok {b:Nat} {o:Option (List Ent)} {k u:V} {ps:List Ent} (hh:entC b o k u=some ps):∃ n m x ps',k = .s n m/\u = .i .i64 x/\o=some ps'/\ps=⟨n,m,x,b⟩::ps':=by
 unfold entC at hh
 split at hh
 ·obtain ⟨ps',h5,rfl⟩:=Option.map_eq_some_iff.1 hh
  exact ⟨_,_,_,ps',rfl,rfl,h5,rfl⟩
 cases hh
noncomputable def entL (l:ML):Option (List Ent):=ML.rec (motive:=λ _=>Option (List Ent)) (some []) (λ k v b _ ih=>entC b ih k v) l
noncomputable def toML:List Ent->ML
 | []=>.nil
 | p::r=>.cons (.s p.n p.m) (.i .i64 p.x) 0 (toML r)
theorem toML_s:∀ l:List Ent,RMs (toML l) (l.map Ent.si)
 | []=>rfl
 | p::r=>⟨p.n,p.m,p.x,_,rfl,rfl,rfl,toML_s r⟩
theorem entL_ok:∀ {l:ML} {es:List MapEntry} {ps:List Ent},RM ρ l es->entL l=some ps->es=ps.map Ent.en:=by
 intro l
 induction l with
 | nil=>intro es ps hm hh; obtain rfl:es=[]:=hm; cases hh; rfl
 | cons k u b r ih=>
  intro es ps hm hh
  obtain ⟨e,es',rfl,h1,h2,h3,h4⟩:=hm
  obtain ⟨n,m,x,ps',rfl,rfl,h5,rfl⟩:=entC_ok (show entC b (entL r) k u=some ps from hh)
  obtain rfl:=ih h4 h5
  cases e
  have h1:_=_:=h1
  have h2:_=_:=h2
  dsimp only at h1 h2 h3
  subst h1 h2 h3; rfl
noncomputable def stampB (c:Nat):List Ent->Bool
 | []=>true
 | p::r=>Nat.blt p.b c && (r.all (λ q=>!Nat.beq p.b q.b && !eqS p.n p.m q.n q.m) && stampB c r)
theorem stamp_ok {c:Nat}:∀ {l:List Ent},stampB c l=true->(∀ p∈l,p.b<c)/\(l.map Ent.b).Nodup/\(l.map λ p=>Value.string (strOf p.n p.m)).Nodup
 | [],_=>⟨by simp,by simp,by simp⟩
 | p::r,hh=>by
  unfold stampB at hh
  simp only [Bool.and_eq_true,List.all_eq_true,Bool.not_eq_true'] at hh
  obtain ⟨h1,h2,h3⟩:=hh
  obtain ⟨g1,g2,g3⟩:=stamp_ok h3
  refine ⟨λ q hq=>?_,?_,?_⟩
  ·rcases List.mem_cons.1 hq with rfl | hq
   ·exact blt_lt h1
   ·exact g1 q hq
  ·rw [List.map_cons,List.nodup_cons]
   refine ⟨λ hm=>?_,g2⟩
   obtain ⟨q,hq,e⟩:=List.mem_map.1 hm
   have:=(h2 q hq).1
   rw [e,Nat.beq_refl] at this; cases this
  ·rw [List.map_cons,List.nodup_cons]
   refine ⟨λ hm=>?_,g3⟩
   obtain ⟨q,hq,e⟩:=List.mem_map.1 hm
   have:=(h2 q hq).2
   rw [eqS_dec] at this
   injection e with e
   exact of_decide_eq_false this e.symm
theorem RH.mapP {b c:Nat} {l:ML} {ps:List Ent} (hR:RH P Fr ρ h w) (hb:getH h b = .m c l) (hc:c<4294967296) (hl:entL l=some ps) (hs:stampB c ps=true):∃ q,ρ b=some q/\MapP w q.k (ps.map Ent.si):=by
 obtain ⟨q,es,h1,h2,h3⟩:=hR.map hb hc
 obtain rfl:=entL_ok h3 hl
 obtain ⟨g1,g2,g3⟩:=stamp_ok hs
 refine ⟨q,h1,_,_,h2,⟨?_,?_,?_⟩,?_⟩
 ·intro x hx
  obtain ⟨p,hp,rfl⟩:=List.mem_map.1 (show x∈ps.map Ent.en by simpa using hx)
  exact g1 p hp
 ·have:((ps.map Ent.en).map (·.born)).Nodup:=by rw [List.map_map]; exact g2
  simpa using this
 ·have:((ps.map Ent.en).map (·.key)).Nodup:=by rw [List.map_map]; exact g3
  simpa using this
 simp only [List.map_map]
 exact List.Perm.refl _
noncomputable def rowN (t:Tr V) (o l:Nat):Option (List (Nat × Nat)):=Nat.rec (motive:=λ _=>Option (List (Nat × Nat))) (some []) (λ i ih=>match getV t (o+i) with | .s n m=>ih.map (·++[(n,m)]) | _=>none) l
theorem rowN_ok {t:Tr V} {o:Nat}:∀ {l:Nat} {ns:List (Nat × Nat)},rowN t o l=some ns->ns.length=l/\∀ i p,ns[i]? = some p->getV t (o+i) = .s p.1 p.2
 | 0,ns,hh=>by cases hh; exact ⟨rfl,by simp⟩
 | l+1,ns,hh=>by
  have hh:(match getV t (o+l) with | .s n m=>(rowN t o l).map (·++[(n,m)]) | _=>none)=some ns:=hh
  split at hh
  ·rename_i n m hg
   obtain ⟨ns',h5,rfl⟩:=Option.map_eq_some_iff.1 hh
   obtain ⟨g1,g2⟩:=rowN_ok h5
   refine ⟨by simp [g1],λ i p hi=>?_⟩
   rw [List.getElem?_append] at hi
   split at hi
   ·exact g2 i p hi
   ·rename_i hlt
    have:i=l:=by
     have:=(List.getElem?_eq_some_iff.1 hi).1
     simp at this; omega
    subst this
    rw [g1] at hi; simp at hi
    rw [<- hi]; exact hg
  ·cases hh
end
end Go.Fw
namespace Go.Proofs.YtfkgkbhbdffckaaGreatDoor
open Go.Fw
noncomputable section
def rowB (B:HB) (o l:Nat):Option (List (Nat × Nat)):=match B with
 | .c n _ t=>bif Nat.ble (o+l) n then rowN t o l else none
 | _=>none
def rowE (h:Hp):V->Option (List (Nat × Nat))
 | .ns=>some []
 | .sl b o l _=>rowB (getH h b) o l
 | .sx b o l _=>rowB (getH h b) o l
 | _=>none
def isSl:V->Bool
 | .ns=>true
 | .sl _ _ _ _=>true
 | .sx _ _ _ _=>true
 | .se=>true
 | _=>false
def strP (p:Nat × Nat):ByteArray:=strOf p.1 p.2
theorem flat_str:∀ xs:List ByteArray,flat xs=xs.map Value.string
 | []=>rfl
 | x::r=>by have:=flat_str r; simp only [flat,List.flatMap_cons,List.map_cons] at this |-; rw [this]; rfl
section
variable {P:Program} {Fr:Fram} {ρ:Rn} {h h':Hp} {w:World} {v:V} {n n':Nat}
theorem isSl_ok {B:V} {y:Value} (hB:isSl B=true) (hy:RV ρ B y):∃ s:SV,y=Flat.val s:=by
 cases B <;> first | cases hB | skip
 case ns=>exact ⟨⟨none,0,0⟩,hy⟩
 case sl b o l d=>obtain ⟨q,_,_,rfl⟩:=hy; exact ⟨⟨_,_,_⟩,rfl⟩
 case sx b o l d=>obtain ⟨q,_,_,rfl⟩:=hy; exact ⟨⟨_,_,_⟩,rfl⟩
 case se=>obtain ⟨a,c,rfl⟩:=hy; exact ⟨⟨_,_,_⟩,rfl⟩
theorem rowB_ok {b o l cap:Nat} {ns:List (Nat × Nat)} {q:Pl} (hR:RH P Fr ρ h w) (hq:ρ b=some q) (hl:l<=cap) (hh:rowB (getH h b) o l=some ns):RdL (λ _=>True) w (.slice (some ⟨q.k,q.b+o,none⟩) l cap) (ns.map strP):=by
 cases hg:getH h b <;> rw [hg] at hh <;> try (cases hh; done)
 rename_i n es t
 have hh:(bif Nat.ble (o+l) n then rowN t o l else none)=some ns:=hh
 cases hb:Nat.ble (o+l) n <;> rw [hb] at hh
 ·cases hh
 have hb:=ble_le hb
 obtain ⟨g1,g2⟩:=rowN_ok (show rowN t o l=some ns from hh)
 obtain ⟨q2,ob,e1,e2,e3⟩:=hR.lv b (by rw [hg]; trivial)
 rw [hq] at e1; cases e1
 rw [hg] at e3
 obtain ⟨cs,ty,fz,rfl,_,_,_,_,_,k7⟩:=e3
 refine ⟨_,cap,by rw [List.length_map,g1],by rw [List.length_map,g1]; exact hl,.inr ⟨q.k,q.b+o,rfl,λ _=>trivial,λ j c hc=>?_⟩⟩
 rw [flat_str,List.getElem?_map,List.getElem?_map] at hc
 cases hp:ns[j]? with
 | none=>rw [hp] at hc; cases hc
 | some p=>
  rw [hp] at hc; cases hc
  have hj:j<l:=by have:=(List.getElem?_eq_some_iff.1 hp).1; omega
  obtain ⟨x,k1,k2,_⟩:=k7 (o+j) (by omega)
  rw [g2 j p hp] at k2
  obtain rfl:x = .string (strOf p.1 p.2):=k2
  show w.cell? ⟨q.k,q.b+o+j,none⟩=some _
  rw [show q.b+o+j=q.b+(o+j) from by omega]
  simp [World.cell?,e2,k1]
  rfl
theorem rowE_ok {R:V} {y:Value} {ns:List (Nat × Nat)} (hR:RH P Fr ρ h w) (hy:RV ρ R y) (hh:rowE h R=some ns):∃ s:SV,y=Flat.val s/\RdL (λ _=>True) w (Flat.val s) (ns.map strP):=by
 cases R <;> first | cases hh | skip
 case ns=>obtain rfl:y=_:=hy; exact ⟨⟨none,0,0⟩,rfl,RdL.nil _ _⟩
 case sl b o l d=>obtain ⟨q,h1,h2,rfl⟩:=hy; exact ⟨⟨_,_,_⟩,rfl,rowB_ok hR h1 (show l<=q.c - d by omega) hh⟩
 case sx b o l c=>obtain ⟨q,h1,h2,rfl⟩:=hy; exact ⟨⟨_,_,_⟩,rfl,rowB_ok hR h1 h2 hh⟩
end
def regsE:List Ent->List (Nat × Nat)->Option (List Ent)
 | g,[]=>some g
 | g,p::r=>bif g.all (λ q=>!Go.Fw.eqS q.n q.m p.1 p.2) then regsE (g++[⟨p.1,p.2,5,0⟩]) r else none
theorem lookS_ne {k:ByteArray}:∀ {l:List SI},(∀ p∈l,p.2≠0)->(∃ p∈l,p.1=k)->lookS l k≠0
 | [],_,⟨_,h,_⟩=>by cases h
 | q::r,hz,⟨p,hp,e⟩=>by
  unfold lookS
  by_cases h:q.1=k
  ·rw [if_pos h]; exact hz q List.mem_cons_self
  ·rw [if_neg h]
   rcases List.mem_cons.1 hp with rfl | hp
   ·exact absurd e h
   ·exact lookS_ne (λ p hp=>hz p (List.mem_cons_of_mem _ hp)) ⟨p,hp,e⟩
theorem regsE_ok:∀ (ns:List (Nat × Nat)) (g:List Ent),(∀ p∈g,p.x≠0)->rgsG (g.map Ent.si) (ns.map strP)=(regsE g ns).map (·.map Ent.si)
 | [],g,_=>rfl
 | p::r,g,hz=>by
  have hz':∀ q∈g.map Ent.si,q.2≠0:=λ q hq=>by obtain ⟨x,hx,rfl⟩:=List.mem_map.1 hq; exact hz x hx
  rw [List.map_cons,rgsG,regsE]
  cases ha:g.all (λ q=>!Go.Fw.eqS q.n q.m p.1 p.2) with
  | true=>
   rw [List.all_eq_true] at ha
   have:lookS (g.map Ent.si) (strP p)=0:=lookS_none λ q hq=>by
    obtain ⟨x,hx,rfl⟩:=List.mem_map.1 hq
    have:=ha x hx
    rw [eqS_dec] at this
    have this:¬ strOf x.n x.m=strOf p.1 p.2:=by simpa using this
    exact this
   rw [if_pos this]
   have h2:=regsE_ok r (g++[⟨p.1,p.2,5,0⟩]) (λ q hq=>by
    rcases List.mem_append.1 hq with h | h
    ·exact hz q h
    ·rw [List.mem_singleton.1 h]; exact (by decide:(5:Int)≠0))
   rw [List.map_append] at h2
   exact h2
  | false=>
   rw [List.all_eq_false] at ha
   obtain ⟨x,hx,hx2⟩:=ha
   rw [eqS_dec] at hx2
   have hx2:strOf x.n x.m=strOf p.1 p.2:=by simpa using hx2
   rw [if_neg (show ¬ lookS (g.map Ent.si) (strP p)=0 from lookS_ne hz' ⟨x.si,List.mem_map.2 ⟨x,hx,rfl⟩,hx2⟩)]
   rfl
def preR:V->Option (Nat × Nat × V × V × Int × Nat)
 | .c (.a (.c (.s a b) (.c R (.c B (.c (.i .i64 z) .e))))) (.c (.m r) .e)=>some (a,b,R,B,z,r)
 | _=>none
theorem preR_ok {args:V} {a b:Nat} {R B:V} {z:Int} {r:Nat} (hh:preR args=some (a,b,R,B,z,r)):args = .c (.a (.c (.s a b) (.c R (.c B (.c (.i .i64 z) .e))))) (.c (.m r) .e):=by
 unfold preR at hh
 split at hh
 ·cases hh; rfl
 cases hh
def mapE:HB->Option (Nat × ML)
 | .m c l=>some (c,l)
 | _=>none
def outR (h:Hp) (n:Nat):Option (List Ent)->OR
 | none=>.ok (.t (.c .nm (.c (.b true) .e))) h n
 | some g=>.ok (.t (.c (.m n) (.c (.b false) .e))) (putH h (.m 4294967296 (toML g)) n) (Nat.succ n)
def ovR (_:Nat) (args:V) (h:Hp) (n:Nat):OR:=
 match preR args with
 | none=>.no
 | some (_,_,R,B,_,r)=>match mapE (getH h r),rowE h R with
  | some (c,l),some ns=>match entL l with
   | some ps=>bif Nat.blt c 4294967296 && (stampB c ps && (ps.all (λ p=>!decide (p.x=0)) && (isSl B && (Nat.ble ns.length 1073741824 && isZ (getH h n))))) then outR h n (regsE (ps.filter λ p=>decide (¬ p.x=4)) ns) else .no
   | none=>.no
  | _,_=>.no
theorem ovR_ok:OvOk Tryz.prog [67] ovR:=by
 intro g args h n v h' n' hg hh Fr ρ w xs hA hR
 obtain rfl:g=67:=by have:=memB_iff.1 hg; simpa using this
 refine ⟨pl67,?_⟩
 unfold ovR at hh
 split at hh
 ·cases hh
 rename_i a b R B z r hpre
 obtain rfl:=preR_ok hpre
 split at hh
 ·rename_i c l ns hmap hrow
  split at hh
  ·rename_i ps hent
   have hm:getH h r = .m c l:=by cases hq:getH h r <;> rw [hq] at hmap <;> cases hmap; rfl
   generalize hk:(Nat.blt c 4294967296 && (stampB c ps && (ps.all (λ p=>!decide (p.x=0)) && (isSl B && (Nat.ble ns.length 1073741824 && isZ (getH h n))))))=kk at hh
   cases kk with
   | false=>cases hh
   | true=>
   have hh:outR h n (regsE (ps.filter λ p=>decide (¬ p.x=4)) ns) = .ok v h' n':=hh
   simp only [Bool.and_eq_true] at hk
   obtain ⟨k1,k2,k3,k4,k5,k6⟩:=hk
   obtain ⟨z1,zs1,rfl,hz1,z2,zs2,rfl,hz2,rfl⟩:=hA
   obtain ⟨ys,hys,_,rfl⟩:=hz1
   obtain ⟨y1,ys1,rfl,hy1,y2,ys2,rfl,hy2,y3,ys3,rfl,hy3,y4,ys4,rfl,hy4,rfl⟩:=hys
   obtain rfl:y1=_:=hy1
   obtain rfl:y4=_:=hy4
   obtain ⟨s2,rfl,hrd⟩:=rowE_ok hR hy2 hrow
   obtain ⟨s3,rfl⟩:=isSl_ok k4 hy3
   obtain ⟨q,hq,rfl⟩:=hz2
   obtain ⟨q',hq',hmp⟩:=hR.mapP hm (blt_lt k1) hent k2
   rw [hq] at hq'; cases hq'
   have hx0:∀ p∈ps,p.x≠0:=λ p hp=>by have:=List.all_eq_true.1 k3 p hp; simpa using this
   refine (C67 (⟨strOf a b,s2,s3,z⟩:TThreadV) (ns.map strP) q.k (ps.map Ent.si) w hrd hmp (λ p hp=>by obtain ⟨x,hx,rfl⟩:=List.mem_map.1 hp; exact hx0 x hx) (by rw [List.length_map]; exact ble_le k5)).mono λ e w' ⟨y,hy,hr⟩=>⟨y,hy,?_⟩
   have hreg:rgsM (ps.map Ent.si) (ns.map strP)=(regsE (ps.filter λ p=>decide (¬ p.x=4)) ns).map (·.map Ent.si):=by
    unfold rgsM
    rw [List.filter_map]
    exact regsE_ok ns _ λ p hp=>hx0 p (List.mem_filter.1 hp).1
   rw [hreg] at hr
   generalize regsE (ps.filter λ p=>decide (¬ p.x=4)) ns=res at hh hr
   cases res with
   | none=>
    obtain ⟨rfl,rfl,_⟩:=ok_inj hh
    rcases hr with ⟨_,rfl,he⟩ | ⟨g,b,h0,_⟩
    ·exact ⟨ρ,Le.refl _,hR.extW he,[.map none,.bool true],⟨_,_,rfl,rfl,_,_,rfl,rfl,rfl⟩,rfl⟩
    ·cases h0
   | some g0=>
    obtain ⟨rfl,rfl,_⟩:=ok_inj hh
    rcases hr with ⟨h0,_⟩ | ⟨g,b,h0,rfl,F,⟨hmp2,hF⟩,hnew,he⟩
    ·cases h0
    cases h0
    have hlt:w.heap.size<=b:=hnew b ((hF b).2 rfl)
    obtain ⟨es,ck,g1,g2,g3⟩:=hmp2
    have hn:=isZ_ok k6
    refine ⟨_,ext_le (q:=⟨b,0,0,0⟩) (hR.fresh n hn),?_,[.map (some b),.bool false],⟨_,_,rfl,⟨_,ext_at _ _ _,rfl⟩,_,_,rfl,rfl,rfl⟩,rfl⟩
    refine hR.add hn (λ b' q' h1 h2=>?_) ?_ (λ r o' _ hr=>ext_heap he hr) g1 (.inr ⟨rfl,g0.map Ent.si,toML_s g0,es,ck,rfl,g2,g3⟩) (hst:=⟨he.os,he.tape,he.output⟩)
    ·obtain ⟨q2,o2,e1,e2,_⟩:=hR.lv b' h1
     rw [h2] at e1; cases e1
     have:=(Array.getElem?_eq_some_iff.1 e2).1
     show q'.k≠b
     omega
    ·show Fr.f b=none
     cases hFr:Fr.f b with
     | none=>rfl
     | some o'=>
      have:=(Array.getElem?_eq_some_iff.1 (hR.keep _ _ hFr)).1
      omega
  cases hh
 cases hh
end
def pls:Nat->Nat->PT
 | 6,7=>(.of [(0,[]),(1,[]),(3,[]),(5,[]),(2,[0,3]),(4,[0]),(6,[]),(7,[]),(8,[])])
 | 6,14=>(.of [(0,[]),(1,[]),(2,[]),(4,[]),(3,[4]),(5,[]),(6,[]),(7,[]),(8,[]),(9,[]),(10,[]),(11,[]),(12,[])])
 | 8,2=>(.of [(0,[]),(1,[]),(2,[]),(3,[]),(4,[]),(5,[]),(6,[]),(7,[]),(8,[]),(9,[]),(10,[]),(11,[]),(12,[]),(13,[3,7,11]),(14,[])])
 | 22,20=>(.of [(0,[]),(1,[]),(2,[1]),(3,[])])
 | 22,29=>(.of [(0,[]),(1,[]),(2,[1]),(3,[])])
 | 22,38=>(.of [(0,[]),(1,[]),(2,[1]),(3,[])])
 | 30,9=>(.of [(0,[]),(1,[]),(2,[]),(3,[]),(4,[]),(5,[]),(6,[2]),(7,[]),(8,[]),(9,[])])
 | 35,1=>(.op 0 [] (.op 1 [] (.op 2 [] (.op 3 [] (.op 4 [] (.op 5 [] (.op 6 [] (.op 7 [] (.op 8 [] (.op 9 [] (.op 10 [] (.op 11 [] (.op 12 [] (.alt 13 [] (.of [(14,[]),(15,[]),(16,[]),(17,[3,5,7,10,12]),(18,[]),(19,[])]) (.alt 17 [3,5,7,10,12] (.of [(13,[]),(14,[]),(15,[]),(16,[]),(18,[]),(19,[])]) .stop)))))))))))))))
 | 36,5=>(.of [(0,[]),(1,[]),(2,[]),(3,[]),(4,[]),(5,[]),(7,[]),(8,[]),(9,[]),(10,[]),(11,[]),(12,[]),(6,[10,12]),(13,[]),(14,[]),(15,[])])
 | 40,6=>(.of [(0,[]),(1,[]),(2,[]),(3,[1]),(4,[1]),(5,[]),(6,[]),(7,[])])
 | 40,8=>(.of [(0,[]),(1,[]),(2,[]),(3,[1]),(4,[]),(5,[]),(6,[])])
 | 40,10=>(.of [(0,[]),(1,[]),(2,[]),(3,[1]),(4,[]),(5,[]),(6,[])])
 | 40,13=>(.of [(0,[]),(1,[]),(2,[]),(3,[]),(4,[]),(5,[]),(6,[]),(7,[]),(8,[1]),(9,[1]),(10,[]),(11,[]),(12,[])])
 | 40,15=>(.of [(0,[]),(1,[]),(2,[]),(3,[]),(4,[]),(5,[]),(6,[]),(7,[]),(8,[]),(9,[]),(10,[]),(11,[]),(12,[]),(13,[1]),(14,[1]),(15,[]),(16,[]),(17,[])])
 | 40,17=>(.of [(0,[]),(1,[]),(2,[]),(3,[]),(4,[]),(5,[]),(6,[]),(7,[]),(8,[]),(9,[]),(10,[]),(11,[]),(12,[1]),(13,[1]),(14,[]),(15,[]),(16,[])])
 | 40,21=>(.of [(0,[]),(1,[]),(2,[]),(3,[]),(4,[]),(5,[]),(6,[]),(7,[]),(8,[]),(9,[4,8]),(10,[]),(11,[])])
 | 44,6=>(.of [(0,[]),(1,[]),(2,[]),(3,[]),(4,[]),(5,[]),(6,[]),(7,[]),(8,[]),(10,[]),(9,[1,5]),(11,[]),(12,[]),(13,[]),(14,[]),(15,[]),(16,[]),(17,[])])
 | 53,8=>(.of [(0,[]),(1,[]),(2,[]),(3,[]),(4,[]),(5,[]),(6,[]),(7,[]),(8,[]),(9,[]),(10,[]),(11,[]),(12,[]),(13,[]),(14,[7]),(15,[]),(16,[]),(17,[]),(18,[]),(19,[])])
 | 57,2=>(.op 0 [] (.op 1 [] (.op 2 [] (.op 4 [] (.alt 3 [1,4] (.alt 5 [1] (.of [(6,[]),(7,[]),(8,[1,4]),(9,[])]) (.alt 8 [1,4] (.of [(5,[1]),(6,[]),(7,[]),(9,[])]) .stop)) (.alt 8 [1,4] (.of [(3,[1,4]),(5,[1]),(6,[]),(7,[]),(9,[])]) .stop))))))
 | 57,5=>(.of [(0,[]),(1,[]),(2,[]),(3,[1]),(4,[]),(5,[])])
 | 73,8=>(.of [(0,[]),(1,[]),(2,[]),(3,[]),(4,[]),(5,[]),(6,[]),(7,[]),(8,[]),(9,[]),(11,[]),(10,[3]),(12,[]),(13,[])])
 | 77,6=>(.of [(0,[]),(1,[]),(2,[]),(3,[]),(4,[]),(5,[]),(6,[]),(7,[]),(8,[]),(9,[]),(10,[]),(11,[]),(12,[]),(13,[]),(14,[3,8,10]),(15,[3]),(16,[])])
 | 82,6=>(.of [(0,[]),(1,[]),(2,[]),(3,[]),(4,[]),(5,[]),(6,[]),(7,[]),(8,[]),(9,[]),(11,[]),(10,[3]),(12,[]),(13,[])])
 | 84,5=>(.of [(0,[]),(1,[]),(2,[]),(3,[]),(4,[]),(5,[]),(6,[4]),(7,[]),(8,[]),(9,[]),(10,[])])
 | 85,4=>(.of [(0,[]),(1,[]),(2,[]),(3,[]),(4,[]),(5,[]),(6,[]),(7,[]),(8,[]),(9,[]),(11,[]),(10,[3]),(12,[]),(13,[])])
 | 93,8=>(.of [(0,[]),(1,[]),(2,[]),(3,[]),(4,[]),(5,[]),(6,[]),(7,[1]),(8,[]),(9,[]),(10,[])])
 | 154,19=>(.of [(0,[]),(1,[]),(2,[]),(3,[1]),(4,[]),(5,[]),(6,[]),(7,[]),(8,[]),(9,[])])
 | 154,9=>(.of [(0,[]),(1,[]),(2,[]),(4,[]),(3,[1]),(5,[]),(6,[]),(7,[]),(8,[]),(9,[]),(10,[])])
 | 181,4=>(.of [(0,[]),(1,[]),(2,[]),(3,[]),(4,[]),(5,[]),(6,[]),(7,[]),(8,[]),(9,[3,7]),(10,[])])
 | 181,12=>(.of [(0,[]),(1,[]),(2,[]),(3,[]),(4,[]),(5,[]),(6,[4]),(7,[]),(8,[]),(9,[]),(10,[])])
 | 183,9=>(.of [(0,[]),(1,[]),(2,[]),(3,[]),(5,[]),(4,[2]),(6,[]),(7,[]),(8,[2]),(9,[])])
 | 188,8=>(.of [(0,[]),(1,[]),(2,[]),(3,[]),(4,[]),(5,[]),(6,[]),(7,[]),(8,[]),(9,[]),(10,[]),(11,[4,9]),(12,[])])
 | 201,9=>(.of [(0,[]),(1,[]),(2,[]),(3,[]),(4,[]),(6,[]),(7,[]),(5,[7]),(8,[]),(9,[]),(10,[]),(11,[]),(12,[]),(13,[]),(15,[]),(16,[]),(14,[16]),(17,[]),(18,[]),(19,[]),(20,[]),(21,[]),(22,[]),(24,[]),(25,[]),(23,[25]),(26,[]),(27,[]),(28,[]),(29,[]),(30,[]),(31,[]),(33,[]),(34,[]),(32,[34]),(35,[]),(36,[]),(37,[]),(38,[])])
 | 202,15=>(.of [(0,[]),(1,[]),(2,[]),(3,[]),(4,[]),(5,[]),(6,[]),(7,[]),(8,[]),(9,[]),(11,[]),(12,[]),(13,[]),(14,[]),(15,[]),(16,[]),(17,[]),(18,[]),(19,[]),(10,[15]),(20,[]),(21,[]),(22,[])])
 | 211,27=>(.of [(0,[]),(1,[]),(2,[]),(3,[]),(4,[]),(5,[]),(6,[]),(7,[]),(8,[]),(9,[]),(10,[]),(12,[]),(13,[]),(11,[]),(14,[]),(15,[])])
 | 211,29=>(.of [(0,[]),(1,[]),(2,[]),(3,[]),(4,[]),(5,[]),(6,[]),(7,[]),(8,[]),(9,[]),(10,[]),(12,[]),(13,[]),(11,[]),(14,[]),(15,[])])
 | _,_=>.nil
def fsL:List Nat:=[6,7,8,13,16,19,20,21,22,23,24,25,26,27,28,29,30,31,32,33,34,35,36,37,38,39,40,44,53,54,55,56,57,58,59,60,61,62,63,64,65,66,67,68,69,70,71,72,73,74,75,76,77,78,79,80,81,82,83,84,85,86,87,88,89,90,91,92,93,94,95,99,100,106,108,109,110,111,112,113,114,115,116,117,118,119,120,121,122,123,124,125,126,127,128,129,130,131,132,133,134,135,136,137,138,139,140,141,142,143,144,145,146,147,148,149,150,151,153,154,155,156,157,158,159,160,161,162,163,164,165,166,167,168,169,170,171,172,173,174,175,176,177,178,179,180,181,182,183,184,185,186,187,188,189,190,191,192,193,194,195,196,197,198,199,200,201,202,203,204,205,206,207,208,209,210,211,212,213,214,215,216,217,218,219,220,221,222,223,224,225,226,227,228,229,230,231,232,233,234,235,236,237,238,239,240,241,242,243,244,245,246,247,248,249,250,251,252,253,254,255,257,259,260,261,263]
noncomputable def bd:Code:=(Tryz.f21.body).getD .skip
def sqT:Nat->Code->Code
 | 0,c=>c
 | k+1,.seq _ b=>sqT k b
 | _,c=>c
def sqH:Code->Code
 | .seq a _=>a
 | c=>c
noncomputable def calF:Cal:=evFo Tryz.prog [67] ovR (onlyF fsL (prepF Tryz.prog pls)) 200
theorem okFs:List.all fsL (okF Tryz.prog pls)=true:=by kernel_rfl
theorem calOk:CalOk Tryz.prog calF:=evFo_sound mixed ovR_ok okFs 200
noncomputable def e0:En:=(setPsV (slsN 0 186) .e en0)
def b0:List HB:=[]
noncomputable def e1:En:=setPsV (slsN 0 186) (.c (.b false) (.c (.t .e) (.c (.t .e) (.c (.t .e) (.c (.t .e) (.c (.t .e) (.c (.t .e) (.c (.t .e) (.c (.t .e) (.c (.t .e) (.c (.t .e) (.c (.t .e) (.c (.t .e) (.c (.t .e) (.c (.t .e) (.c (.t .e) (.c (.t .e) (.c (.t .e) (.c (.t .e) (.c (.t .e) (.c (.t .e) (.c (.t .e) (.c (.t .e) (.c (.t .e) (.c (.t .e) (.c (.t .e) (.c (.t .e) (.c (.t .e) (.c (.t .e) (.c (.t .e) (.c (.t .e) (.c (.t .e) (.c (.t .e) (.c (.t .e) (.c (.t .e) (.c (.t .e) (.c (.t .e) (.c (.t .e) (.c (.t .e) (.c (.t .e) (.c (.t .e) (.c (.t .e) (.c (.t .e) (.c (.t .e) (.c (.t .e) (.c (.t .e) (.c (.t .e) (.c (.t .e) (.c (.t .e) (.c (.t .e) (.c (.t .e) (.c (.t .e) (.c (.t .e) (.c (.t .e) (.c (.t .e) (.c (.t .e) (.c (.t .e) (.c (.t .e) (.c (.t .e) (.c (.t .e) (.c (.t .e) (.c (.t .e) (.c (.t .e) (.c (.t .e) (.c (.t .e) (.c (.t .e) (.c (.t .e) (.c (.t .e) (.c (.t .e) (.c (.t .e) (.c (.t .e) (.c (.t .e) (.c (.t .e) (.c (.t .e) (.c (.t .e) (.c (.t .e) (.c (.t .e) (.c (.t .e) (.c (.t .e) (.c (.t .e) (.c (.t .e) (.c (.t .e) (.c (.t .e) (.c (.t .e) (.c (.t .e) (.c (.t .e) (.c (.t .e) (.c (.t .e) (.c (.t .e) (.c (.t .e) (.c (.t .e) (.c (.t .e) (.c (.t .e) (.c (.t .e) (.c (.t .e) (.c (.t .e) (.c (.t .e) (.c (.t .e) (.c (.t .e) (.c (.t .e) (.c (.t .e) (.c (.t .e) (.c (.t .e) (.c (.t .e) (.c (.t .e) (.c (.t .e) (.c (.t .e) (.c (.t .e) (.c (.t .e) (.c (.t .e) (.c (.t .e) (.c (.t .e) (.c (.t .e) (.c (.t .e) (.c (.t .e) (.c (.t .e) (.c (.t .e) (.c (.t .e) (.c (.t .e) (.c (.t .e) (.c (.t .e) (.c (.t .e) (.c (.t .e) (.c (.t .e) (.c (.t .e) (.c (.t .e) (.c (.t .e) (.c (.t .e) (.c (.t .e) (.c (.t .e) (.c (.t .e) (.c (.t .e) (.c (.t .e) (.c (.t .e) (.c (.t .e) (.c (.t .e) (.c (.t .e) (.c (.t .e) (.c (.t .e) (.c (.t .e) (.c (.t .e) (.c (.t .e) (.c (.t .e) (.c (.t .e) (.c (.t .e) (.c (.t .e) (.c (.t .e) (.c (.t .e) (.c (.t .e) (.c (.t .e) (.c (.t .e) (.c (.t .e) (.c (.t .e) (.c (.t .e) (.c (.t .e) (.c (.t .e) (.c (.t .e) (.c (.t .e) (.c (.t .e) (.c (.t .e) (.c (.t .e) (.c (.t .e) (.c (.t .e) (.c (.t .e) (.c (.t .e) (.c (.t .e) (.c (.t .e) (.c (.t .e) (.c (.t .e) (.c (.t .e) (.c (.t .e) (.c (.t .e) (.c (.t .e) (.c (.t .e) (.c (.t .e) (.c (.t .e) (.c (.t .e) (.c (.t .e) (.c (.t .e) (.c (.t .e) (.c (.t .e) (.c (.t .e) (.c (.t .e) (.c (.t .e) (.c (.t .e) (.c (.t .e) .e)))))))))))))))))))))))))))))))))))))))))))))))))))))))))))))))))))))))))))))))))))))))))))))))))))))))))))))))))))))))))))))))))))))))))))))))))))))))))))))))))))))))))))))))))))))))))) en0
def b1:List HB:=[]
noncomputable def e2:En:=setPsV (slsN 0 186) (.c (.b false) (.c (.p 0 0) (.c (.i .i64 0) (.c (.i .i64 0) (.c (.t .e) (.c (.t .e) (.c (.t .e) (.c (.t .e) (.c (.t .e) (.c (.t .e) (.c (.t .e) (.c (.t .e) (.c (.t .e) (.c (.t .e) (.c (.t .e) (.c (.t .e) (.c (.t .e) (.c (.t .e) (.c (.t .e) (.c (.t .e) (.c (.t .e) (.c (.t .e) (.c (.t .e) (.c (.t .e) (.c (.t .e) (.c (.t .e) (.c (.t .e) (.c (.t .e) (.c (.t .e) (.c (.t .e) (.c (.t .e) (.c (.t (.c (.a (.c (.sl 1 0 1 0) (.c .ns (.c .ns (.c (.sl 3 0 1 0) (.c (.sl 7 0 1 0) (.c (.sl 8 0 1 0) .e))))))) (.c (.i .i64 0) (.c (.i .i64 0) .e)))) (.c (.t (.c (.a (.c (.sl 1 0 1 0) (.c .ns (.c .ns (.c (.sl 3 0 1 0) (.c (.sl 7 0 1 0) (.c (.sl 8 0 1 0) .e))))))) (.c (.i .i64 0) (.c (.i .i64 0) .e)))) (.c (.a (.c (.sl 1 0 1 0) (.c .ns (.c .ns (.c (.sl 3 0 1 0) (.c (.sl 7 0 1 0) (.c (.sl 8 0 1 0) .e))))))) (.c (.i .i64 0) (.c (.i .i64 0) (.c (.t .e) (.c (.t .e) (.c (.t .e) (.c (.t .e) (.c (.t .e) (.c (.t .e) (.c (.t .e) (.c (.t .e) (.c (.t .e) (.c (.t .e) (.c (.t .e) (.c (.t .e) (.c (.t .e) (.c (.t .e) (.c (.t .e) (.c (.t .e) (.c (.t .e) (.c (.t .e) (.c (.t .e) (.c (.t .e) (.c (.t .e) (.c (.t .e) (.c (.t .e) (.c (.t .e) (.c (.t .e) (.c (.t .e) (.c (.t .e) (.c (.t .e) (.c (.t .e) (.c (.t .e) (.c (.t .e) (.c (.t .e) (.c (.t .e) (.c (.t .e) (.c (.t .e) (.c (.t .e) (.c (.t .e) (.c (.t .e) (.c (.t .e) (.c (.t .e) (.c (.t .e) (.c (.t .e) (.c (.t .e) (.c (.t .e) (.c (.t .e) (.c (.t .e) (.c (.t .e) (.c (.t .e) (.c (.t .e) (.c (.t .e) (.c (.t .e) (.c (.t .e) (.c (.t .e) (.c (.t .e) (.c (.t .e) (.c (.t .e) (.c (.t .e) (.c (.t .e) (.c (.t .e) (.c (.t .e) (.c (.t .e) (.c (.t .e) (.c (.t .e) (.c (.t .e) (.c (.t .e) (.c (.t .e) (.c (.t .e) (.c (.t .e) (.c (.t .e) (.c (.t .e) (.c (.t .e) (.c (.t .e) (.c (.t .e) (.c (.t .e) (.c (.t .e) (.c (.t .e) (.c (.t .e) (.c (.t .e) (.c (.t .e) (.c (.t .e) (.c (.t .e) (.c (.t .e) (.c (.t .e) (.c (.t .e) (.c (.t .e) (.c (.t .e) (.c (.t .e) (.c (.t .e) (.c (.t .e) (.c (.t .e) (.c (.t .e) (.c (.t .e) (.c (.t .e) (.c (.t .e) (.c (.t .e) (.c (.t .e) (.c (.t .e) (.c (.t .e) (.c (.t .e) (.c (.t .e) (.c (.t .e) (.c (.t .e) (.c (.t .e) (.c (.t .e) (.c (.t .e) (.c (.t .e) (.c (.t .e) (.c (.t .e) (.c (.t .e) (.c (.t .e) (.c (.t .e) (.c (.t .e) (.c (.t .e) (.c (.t .e) (.c (.t .e) (.c (.t .e) (.c (.t .e) (.c (.t .e) (.c (.t .e) (.c (.t .e) (.c (.t .e) (.c (.t .e) (.c (.t .e) (.c (.t .e) (.c (.t .e) (.c (.t .e) (.c (.t .e) (.c (.t .e) (.c (.t .e) (.c (.t .e) (.c (.t .e) (.c (.t .e) (.c (.t .e) (.c (.t .e) (.c (.t .e) (.c (.t .e) (.c (.t .e) (.c (.t .e) (.c (.t .e) (.c (.t .e) (.c (.t .e) (.c (.t .e) (.c (.t .e) (.c (.t .e) (.c (.t .e) (.c (.t .e) (.c (.t .e) (.c (.t .e) (.c (.t .e) (.c (.t .e) .e)))))))))))))))))))))))))))))))))))))))))))))))))))))))))))))))))))))))))))))))))))))))))))))))))))))))))))))))))))))))))))))))))))))))))))))))))))))))))))))))))))))))))))))))))))))))))) en0
def b2:List HB:=[.c 6 0 (.nd (.nd (.nd .lf (.sl 3 0 1 0) .lf) .ns (.nd .lf (.sl 8 0 1 0) .lf)) (.sl 1 0 1 0) (.nd (.nd .lf (.sl 7 0 1 0) .lf) .ns .lf)),.c 1 1 (.nd .lf (.sl 2 0 1 0) .lf),.c 3 3 (.nd (.nd .lf (.i .i64 0) .lf) (.s 3099926670213828619271589403502206676893004507318960275153526225497719906538123811415399222594469012578366095183961685682486415173643763513742388493302625 1) (.nd .lf (.i .i64 5) .lf)),.c 4 4 (.nd (.nd (.nd .lf (.i .i64 15) .lf) .ns .lf) (.s 2564199241936942166852410086155896397569261877308092255463768090419374012560256812133177784526602833944992665562744010968682668148 1) (.nd .lf (.sl 4 0 2 0) .lf)),.c 18 9 (.nd (.nd (.nd (.nd (.nd .lf (.i .i64 0) .lf) (.i .i64 0) .lf) (.sx 5 0 1 1) (.nd .lf (.s 0 0) .lf)) (.s 0 0) (.nd (.nd (.nd .lf (.i .i64 32) .lf) (.i .i64 14) .lf) (.i .i64 0) (.nd .lf .ns .lf))) (.i .i64 3) (.nd (.nd (.nd (.nd .lf (.i .i64 0) .lf) (.i .i64 19) .lf) .ns (.nd .lf (.sx 6 0 1 1) .lf)) (.s 2121055899653409031660998577571376376964577474357173184636298261109241303318814258255635726233961580273761 1) (.nd (.nd .lf (.s 0 0) .lf) (.i .i64 0) (.nd .lf (.i .i64 0) .lf)))),.c 4 4 (.nd (.nd (.nd .lf (.i .i64 29) .lf) (.i .i64 1) .lf) (.i .i64 1) (.nd .lf (.s 0 0) .lf)),.c 4 4 (.nd (.nd (.nd .lf (.i .i64 38) .lf) (.i .i64 0) .lf) (.i .i64 1) (.nd .lf (.s 0 0) .lf)),.c 4 4 (.nd (.nd (.nd .lf (.i .i64 43) .lf) .ns .lf) (.s 0 0) (.nd .lf .ns .lf)),.c 2 2 (.nd (.nd .lf (.i .i64 55) .lf) (.sl 9 0 3 0) .lf),.c 12 4 (.nd (.nd (.nd (.nd .lf (.i .i64 62) .lf) (.i .i64 64) (.nd .lf (.i .i64 67) .lf)) (.i .i64 0) (.nd (.nd .lf (.i .i64 0) .lf) (.i .i64 0) .lf)) (.i .i64 10) (.nd (.nd (.nd .lf (.i .i64 1) .lf) (.i .i64 2) .lf) (.s 0 0) (.nd (.nd .lf (.s 0 0) .lf) (.s 16659938650431585 1) .lf)))]
noncomputable def e3:En:=setPsV (slsN 0 186) (.c (.b false) (.c (.p 0 0) (.c (.i .i64 0) (.c (.i .i64 0) (.c (.p 10 0) (.c (.p 11 0) (.c (.t .e) (.c (.t .e) (.c (.t .e) (.c (.t .e) (.c (.t .e) (.c (.t .e) (.c (.t .e) (.c (.t .e) (.c (.t .e) (.c (.t .e) (.c (.t .e) (.c (.t .e) (.c (.t .e) (.c (.t .e) (.c (.t .e) (.c (.t .e) (.c (.t .e) (.c (.t .e) (.c (.t .e) (.c (.t .e) (.c (.t .e) (.c (.t .e) (.c (.t .e) (.c (.t .e) (.c (.t .e) (.c (.t (.c (.a (.c (.sl 1 0 1 0) (.c .ns (.c .ns (.c (.sl 3 0 1 0) (.c (.sl 7 0 1 0) (.c (.sl 8 0 1 0) .e))))))) (.c (.i .i64 0) (.c (.i .i64 0) .e)))) (.c (.t (.c (.a (.c (.sl 1 0 1 0) (.c .ns (.c .ns (.c (.sl 3 0 1 0) (.c (.sl 7 0 1 0) (.c (.sl 8 0 1 0) .e))))))) (.c (.i .i64 0) (.c (.i .i64 0) .e)))) (.c (.a (.c (.sl 1 0 1 0) (.c .ns (.c .ns (.c (.sl 3 0 1 0) (.c (.sl 7 0 1 0) (.c (.sl 8 0 1 0) .e))))))) (.c (.i .i64 0) (.c (.i .i64 0) (.c (.a (.c (.i .i64 1) (.c (.i .i64 0) (.c (.i .i64 0) (.c .ns .e))))) (.c (.a (.c (.i .i64 2) (.c (.i .i64 0) (.c (.i .i64 0) (.c .ns .e))))) (.c (.t .e) (.c (.t .e) (.c (.t .e) (.c (.t .e) (.c (.t .e) (.c (.t .e) (.c (.t .e) (.c (.t .e) (.c (.t .e) (.c (.t .e) (.c (.t .e) (.c (.t .e) (.c (.t .e) (.c (.t .e) (.c (.t .e) (.c (.t .e) (.c (.t .e) (.c (.t .e) (.c (.t .e) (.c (.t .e) (.c (.t .e) (.c (.t .e) (.c (.t .e) (.c (.t .e) (.c (.t .e) (.c (.t .e) (.c (.t .e) (.c (.t .e) (.c (.t .e) (.c (.t .e) (.c (.t .e) (.c (.t .e) (.c (.t .e) (.c (.t .e) (.c (.t .e) (.c (.t .e) (.c (.t .e) (.c (.t .e) (.c (.t .e) (.c (.t .e) (.c (.t .e) (.c (.t .e) (.c (.t .e) (.c (.t .e) (.c (.t .e) (.c (.t .e) (.c (.t .e) (.c (.t .e) (.c (.t .e) (.c (.t .e) (.c (.t .e) (.c (.t .e) (.c (.t .e) (.c (.t .e) (.c (.t .e) (.c (.t .e) (.c (.t .e) (.c (.t .e) (.c (.t .e) (.c (.t .e) (.c (.t .e) (.c (.t .e) (.c (.t .e) (.c (.t .e) (.c (.t .e) (.c (.t .e) (.c (.t .e) (.c (.t .e) (.c (.t .e) (.c (.t .e) (.c (.t .e) (.c (.t .e) (.c (.t .e) (.c (.t .e) (.c (.t .e) (.c (.t .e) (.c (.t .e) (.c (.t .e) (.c (.t .e) (.c (.t .e) (.c (.t .e) (.c (.t .e) (.c (.t .e) (.c (.t .e) (.c (.t .e) (.c (.t .e) (.c (.t .e) (.c (.t .e) (.c (.t .e) (.c (.t .e) (.c (.t .e) (.c (.t .e) (.c (.t .e) (.c (.t .e) (.c (.t .e) (.c (.t .e) (.c (.t .e) (.c (.t .e) (.c (.t .e) (.c (.t .e) (.c (.t .e) (.c (.t .e) (.c (.t .e) (.c (.t .e) (.c (.t .e) (.c (.t .e) (.c (.t .e) (.c (.t .e) (.c (.t .e) (.c (.t .e) (.c (.t .e) (.c (.t .e) (.c (.t .e) (.c (.t .e) (.c (.t .e) (.c (.t .e) (.c (.t .e) (.c (.t .e) (.c (.t .e) (.c (.t .e) (.c (.t .e) (.c (.t .e) (.c (.t .e) (.c (.t .e) (.c (.t .e) (.c (.t .e) (.c (.t .e) (.c (.t .e) (.c (.t .e) (.c (.t .e) (.c (.t .e) (.c (.t .e) (.c (.t .e) (.c (.t .e) (.c (.t .e) (.c (.t .e) (.c (.t .e) (.c (.t .e) (.c (.t .e) (.c (.t .e) (.c (.t .e) (.c (.t .e) (.c (.t .e) (.c (.t .e) (.c (.t .e) (.c (.t .e) (.c (.t .e) (.c (.t .e) .e)))))))))))))))))))))))))))))))))))))))))))))))))))))))))))))))))))))))))))))))))))))))))))))))))))))))))))))))))))))))))))))))))))))))))))))))))))))))))))))))))))))))))))))))))))))))))) en0
def b3:List HB:=[.c 6 0 (.nd (.nd (.nd .lf (.sl 3 0 1 0) .lf) .ns (.nd .lf (.sl 8 0 1 0) .lf)) (.sl 1 0 1 0) (.nd (.nd .lf (.sl 7 0 1 0) .lf) .ns .lf)),.c 1 1 (.nd .lf (.sl 2 0 1 0) .lf),.c 3 3 (.nd (.nd .lf (.i .i64 0) .lf) (.s 3099926670213828619271589403502206676893004507318960275153526225497719906538123811415399222594469012578366095183961685682486415173643763513742388493302625 1) (.nd .lf (.i .i64 5) .lf)),.c 4 4 (.nd (.nd (.nd .lf (.i .i64 15) .lf) .ns .lf) (.s 2564199241936942166852410086155896397569261877308092255463768090419374012560256812133177784526602833944992665562744010968682668148 1) (.nd .lf (.sl 4 0 2 0) .lf)),.c 18 9 (.nd (.nd (.nd (.nd (.nd .lf (.i .i64 0) .lf) (.i .i64 0) .lf) (.sx 5 0 1 1) (.nd .lf (.s 0 0) .lf)) (.s 0 0) (.nd (.nd (.nd .lf (.i .i64 32) .lf) (.i .i64 14) .lf) (.i .i64 0) (.nd .lf .ns .lf))) (.i .i64 3) (.nd (.nd (.nd (.nd .lf (.i .i64 0) .lf) (.i .i64 19) .lf) .ns (.nd .lf (.sx 6 0 1 1) .lf)) (.s 2121055899653409031660998577571376376964577474357173184636298261109241303318814258255635726233961580273761 1) (.nd (.nd .lf (.s 0 0) .lf) (.i .i64 0) (.nd .lf (.i .i64 0) .lf)))),.c 4 4 (.nd (.nd (.nd .lf (.i .i64 29) .lf) (.i .i64 1) .lf) (.i .i64 1) (.nd .lf (.s 0 0) .lf)),.c 4 4 (.nd (.nd (.nd .lf (.i .i64 38) .lf) (.i .i64 0) .lf) (.i .i64 1) (.nd .lf (.s 0 0) .lf)),.c 4 4 (.nd (.nd (.nd .lf (.i .i64 43) .lf) .ns .lf) (.s 0 0) (.nd .lf .ns .lf)),.c 2 2 (.nd (.nd .lf (.i .i64 55) .lf) (.sl 9 0 3 0) .lf),.c 12 4 (.nd (.nd (.nd (.nd .lf (.i .i64 62) .lf) (.i .i64 64) (.nd .lf (.i .i64 67) .lf)) (.i .i64 0) (.nd (.nd .lf (.i .i64 0) .lf) (.i .i64 0) .lf)) (.i .i64 10) (.nd (.nd (.nd .lf (.i .i64 1) .lf) (.i .i64 2) .lf) (.s 0 0) (.nd (.nd .lf (.s 0 0) .lf) (.s 16659938650431585 1) .lf))),.c 4 0 (.nd (.nd (.nd .lf .ns .lf) (.i .i64 0) .lf) (.i .i64 1) (.nd .lf (.i .i64 0) .lf)),.c 4 0 (.nd (.nd (.nd .lf .ns .lf) (.i .i64 0) .lf) (.i .i64 2) (.nd .lf (.i .i64 0) .lf))]
theorem fxs3:GoS Tryz.prog Tryz.f21 (sqT 3 bd) e3 (mkH b3 0):=GoS.last (n:=12) (pl:=pls 21) mixed calOk (by kernel_rfl) rfl (by kernel_rfl)
theorem fxc2:sqT 2 bd = .seq (sqH (sqT 2 bd)) (sqT 3 bd):=by kernel_rfl
theorem fxr2:nxB (evC (prepC Tryz.prog Tryz.f21.ntmps (pls 21) (sqH (sqT 2 bd))) Tryz.prog calF e2 (mkH b2 0) 10 .nil) (subB 1152921504606846997 [0,1,2,3,4,5,6,7,8,9,10,11] e3 b3)=true:=by kernel_rfl
theorem fxs2:GoS Tryz.prog Tryz.f21 (sqT 2 bd) e2 (mkH b2 0):=by
 rw [fxc2]
 exact GoS.part mixed calOk (by kernel_rfl) fxr2 fxs3
theorem fxc1:sqT 1 bd = .seq (sqH (sqT 1 bd)) (sqT 2 bd):=by kernel_rfl
theorem fxr1:nxB (evC (prepC Tryz.prog Tryz.f21.ntmps (pls 21) (sqH (sqT 1 bd))) Tryz.prog calF e1 (mkH b1 0) 0 .nil) (subB 1152921504606846997 [800,90,88,509,507,120,325,514,799,756] e2 b2)=true:=by kernel_rfl
theorem fxs1:GoS Tryz.prog Tryz.f21 (sqT 1 bd) e1 (mkH b1 0):=by
 rw [fxc1]
 exact GoS.part mixed calOk (by kernel_rfl) fxr1 fxs2
theorem fxc0:sqT 0 bd = .seq (sqH (sqT 0 bd)) (sqT 1 bd):=by kernel_rfl
theorem fxr0:nxB (evC (prepC Tryz.prog Tryz.f21.ntmps (pls 21) (sqH (sqT 0 bd))) Tryz.prog calF e0 .lf 0 .nil) (subB 1152921504606846997 [] e1 b1)=true:=by kernel_rfl
theorem fxs0:GoS Tryz.prog Tryz.f21 (sqT 0 bd) e0 .lf:=by
 rw [fxc0]
 exact GoS.part mixed calOk (by kernel_rfl) fxr0 fxs1
theorem fxBody:Tryz.f21.body=some bd:=by kernel_rfl
theorem pl21:PL 21:=plE Tryz.func21
theorem C21 (w:World):CR 21 [] w (λ v w'=>v = .bool true/\Ext w w'):=GoS.run Tryz.func21 fxBody fxs0 w
theorem cut25 (xs:List Int):([]:List Int)++xs.take (min (xs.length:Int) 25).toNat=xs.take 25:=by
 rw [List.nil_append]
 rcases Int.le_total (xs.length:Int) 25 with h | h
 ·rw [Int.min_eq_left h,Int.toNat_natCast,List.take_of_length_le (Nat.le_refl _),List.take_of_length_le (by omega)]
 rw [Int.min_eq_right h]; rfl
theorem C18 (lv:Value) (l:List TPick) (w:World) (hL:DL w lv l):CR 18 [lv] w (λ v w'=>New (frz (λ w=>DL w v (cut18 l))) w w'):=by
 obtain ⟨ts,hR,hD⟩:=hL.open;have hn:ts.length=l.length:=hD.1;have hs:=St.start w;refine S18_ok _ _ _ ?_;unfold S18;refine eop_buildD0 (α:=TPick) hs sl55 (λ s6 _ hs=>?_);refine ⟨λ mm o y w'=>∃ k:Nat,y = .int .i64 (k:Int)/\mm=40 - k/\k<=40/\k<=l.length/\St w none1 [ownD o ((l.take k).map cut18P)] w',⟨_,0,rfl,rfl,Nat.zero_le _,Nat.zero_le _,hs⟩,?_⟩;rintro mm o _ w2 ⟨k,rfl,rfl,hk,hk2,hs⟩ _;have hml:((l.take k).map cut18P).length=k:=by rw [List.length_map,List.length_take]; omega
 refine ⟨λ jv w'=>jv = .bool (decide (k<l.length/\k<40))/\w'=w2,?_,?_⟩
 ·exact pop_len sl55 (hR.ext hs.chg) (pop_lss (cond_d (λ _=>pop_lss ⟨vb (decide_eq_decide.2 (by omega)),rfl⟩) (λ _=>⟨vb (decide_eq_false (by omega)).symm,rfl⟩)))
 rintro _ _ ⟨rfl,rfl⟩ _;refine cond_d (λ c2=>?_) (λ c2=>?_);rotate_left
 ·rw [take_min (xs:=l) (k:=k) (m:=40) (by omega) (by omega) c2] at hs;exact hs.dFreeze.fresh
 obtain ⟨q,hq⟩:∃ q,l[k]? = some q:=⟨_,List.getElem?_eq_getElem (by omega)⟩;obtain ⟨tq,htq⟩:∃ tq,ts[((k:Nat):Int).toNat]? = some tq:=⟨_,List.getElem?_eq_getElem (by omega)⟩;obtain ⟨gc,rfl,hgc⟩:=hD.2 k tq q htq hq;have hc:=DL.flat hgc;refine pop_idx sl55 hR (by omega) htq (λ q19 h19=>qop_at ty47 (h19.ext hs.chg) ?_);refine eop_allocA hs zero47 (λ b5 _ hs=>uop_blkV (x:=(⟨q.kind,q.t,q.i,gc⟩:TPickV)) hs ty47 rfl rfl (λ _ hs=>?_));have hs:=hs.drew;refine pop_idx sl55 hR (by omega) htq (λ q24 h24=>pop_atf gc fld47_3 h24 rfl rfl (λ q25 h25=>?_));refine qop_at ty45 (h25.ext hs.chg) (pop_idx sl55 hR (by omega) htq (λ q29 h29=>?_));refine pop_atf gc fld47_3 h29 rfl rfl (λ q30 h30=>qop_at ty45 (h30.ext hs.chg) ?_)
 refine pop_len sl45 (hc.ext hs.chg) (pop_min ?_);refine pop_cutHi' sl45 hc (by omega) (by omega) (λ s34 h34=>eop_build ([]:List Int) hs sl45 rfl rfl (leb rfl) (λ s21 _ hs=>?_));refine ⟨run_at ty45 (h25.ext hs.chg),?_⟩;refine ⟨run_at ty45 (h30.ext hs.chg),?_⟩;refine eop_append hs sl45 (h34 _ (hc.ext hs.chg)) (by rw [List.length_take]; simp; omega) (by decide) (λ s35 _ hs=>?_);rw [cut25] at hs;obtain ⟨sv35,rfl⟩:=(hs).isSV;exact pop_field fld47_3 (uop_blk hs.p1 ty45 (leb rfl) rfl (λ _ hs=>have hs:=hs.enc (cs':=Flat.enc (⟨q.kind,q.t,q.i,sv35⟩:TPickV)) rfl;qop_at (x:=(⟨q.kind,q.t,q.i,sv35⟩:TPickV)) ty47 hs.At (have hs:=(hs.p1.freeze).frzMono (Ψ:=λ w=>Deep.dr w (⟨q.kind,q.t,q.i,sv35⟩:TPickV) (cut18P q)) (λ _ h=>⟨sv35,rfl,DL.unflat h⟩);eop_buildD1 (x:=cut18P q) (s:=(⟨q.kind,q.t,q.i,sv35⟩:TPickV)) hs sl55 (by decide) (λ _ _ hs=>eop_appendD hs.p2 sl55 (by rw [hml,List.length_singleton]; omega) (by decide) (λ _ _ hs=>pop_add (by omega) ⟨_,by omega,k+1,rfl,rfl,by omega,by omega,by rw [<- map_snoc (k:=k) hq]; exact (hs.p1).drop⟩)))))
theorem C5 (p:TProg) (pv:TProgV) (crashes:Int) (lv:Value) (l:List TPick) (w:World) (hp:Deep.dr w pv p) (hL:DL w lv l):CR 5 [Flat.val pv,.int .i64 crashes,lv] w (λ v w'=>v = .bool true/\Ext w w'):=by
 have hs:=St.start w;refine S5_ok _ _ _ _ _ ?_;unfold S5;refine eop_boxV (x:=pv) hs (λ b3 _ hs=>qop_at ty40 hs.At ?_);refine callF pl10 (C10 p pv _ (Deep.ext hp hs.chg)) ?_;rintro _ _ ⟨qv,rfl,hnew⟩;have hs:=hs.made hnew;refine uop_blkV (x:=qv) hs.p1 ty40 rfl rfl (λ _ hs=>callF pl18 (C18 lv l _ (hL.ext hs.chg)) ?_);rintro sv w4 hnew;have hs:=((hs.made hnew).p2).frzAnd;obtain ⟨FF,hs,hX⟩:=hs.toAgr;have hp':PrK (Agr FF w4) qv (cut5 p):=PrK.of λ w' h=>(hX w' h).1;obtain ⟨ts,hts⟩:PkK (Agr FF w4) sv (cut18 l):=PkK.of λ w' h=>(hX w' h).2;have hn:ts.length=(cut18 l).length:=(hts _ hs.frz).2.1;obtain ⟨hl1,hl2⟩:=cut18_ok l;have hl3:∀ q∈(cut18 l),q.cut.length<=1000:=λ q hq=>Nat.le_trans (hl2 q hq) (by decide)
 have htk:∀ k,(((cut18 l)).take k).length<=1000/\∀ q∈((cut18 l)).take k,q.cut.length<=1000:=λ _=>⟨by rw [List.length_take]; omega,λ q hq=>hl3 q (List.mem_of_mem_take hq)⟩;refine pop_and (by decide) (by decide) ?_;obtain ⟨c,ec⟩:∃ c,c=andI crashes 7:=⟨_,rfl⟩;rw [<- ec];refine qop_at ty40 hs.p1.At (callF pl19 (C19 (Agr FF w4) (cut5 p) qv 2 c (.slice none 0 0) [] _ (λ _ e=>(hs.ext e).frz) hp' (cut5_sz p) (PkK.nil _) (Nat.zero_le _) (λ _ h=>by cases h)) ?_);rintro _ _ ⟨e1,ov1,rfl,hnew⟩;have hs:=(hs.made hnew).drop;refine pop_ext rfl (pop_ext rfl ?_);refine pop_ext rfl (pop_ext rfl ?_);refine eop_allocA hs zero66 (λ b8 _ hs=>uop_blkV (x:=e1) hs ty66 rfl rfl (λ _ hs=>?_))
 have hs:=hs.drop;refine qop_at ty40 hs.p1.At (callP pl20 hs (C20 (Agr FF w4) (cut5 p) qv 2 c sv (cut18 l) _ (λ _ e=>(hs.ext e).frz) hp' (cut5_sz p) ⟨ts,hts⟩ (by omega) hl3) (λ w8 he hs=>?_));rw [runD_nil];refine pop_neq (cond_d (λ c1=>?_) (λ c1=>?_))
 ·refine ⟨λ jv w'=>jv = .bool true/\Ext w w',?_,?_⟩
  ·have e0:farD (cut5 p) 2 c (cut18 l)=0:=by unfold farD; rw [runD_bad c1]; rfl
   rw [e0];exact pop_eql (cond_d (λ _=>callP pl21 hs (C21 _) (λ _ _ hs=>⟨rfl,hs.chg⟩)) (λ h=>absurd rfl h))
  rintro _ _ h dd1;exact h
 have hse:=Decidable.not_not.1 c1;obtain ⟨f1,f2,f3,f4⟩:=far_spec hse (cut18 l);obtain ⟨k,ek⟩:∃ k,k=farD (cut5 p) 2 c (cut18 l):=⟨_,rfl⟩;rw [<- ek] at f1 f2 f3 f4 |-;refine ⟨λ jv w'=>jv = .bool false/\w'=w8,?_,?_⟩
 ·exact pop_lss (cond_d (λ h=>absurd h (by omega)) (λ _=>pop_len sl55 (hts _ hs.frz).1 (pop_gtr ⟨vb (decide_eq_false (by omega)),rfl⟩)))
 rintro _ _ ⟨rfl,rfl⟩ dd1;refine cond_f ?_;refine ⟨λ j1 j2 w'=>j2 = .int .i64 0/\∃ out:List TEvent,out.length=k/\St w none1 [ownL j1 out,frz (Agr FF w4),blk b3 (Flat.enc qv)] w',?_,?_⟩
 ·have hs:=hs.drew;refine qop_at ty40 hs.p1.At (pop_cutHi' sl55 (hts _ hs.frz).1 (by omega) (by omega) (λ s63 h63=>?_));have hpk:PkK (Agr FF w4) s63 (((cut18 l)).take k):=⟨ts.take k,λ w h=>⟨h63 w (hts w h).1,(hts w h).2.take k⟩⟩;refine ⟨?_,?_,trivial⟩
  ·refine callF pl19 (C19 (Agr FF w4) (cut5 p) qv 2 c s63 (((cut18 l)).take k) _ (λ _ e=>(hs.ext e).frz) hp' (cut5_sz p) hpk (htk k).1 (htk k).2) ?_;rintro _ w12 ⟨e1,ov,rfl,hnew⟩;have hs:=hs.made hnew;refine pop_ext rfl (pop_ext rfl ?_);refine pop_ext rfl (pop_ext rfl ?_);refine eop_allocA hs zero66 (λ b13 w13 hs=>?_);refine ⟨run_at ty40 hs.p3.At,?_⟩;refine uop_blkV (x:=e1) hs ty66 rfl rfl (λ w14 hs=>?_);have hs:=hs.drop;rw [if_neg (λ h=>h f2)] at hs; exact ⟨congrArg (Value.int .i64) f2,_,f3,hs⟩
  refine eop_allocA hs zero66 (λ b13 w15 hs=>?_);refine ⟨run_at ty40 hs.p2.At,?_⟩;refine callF pl19 (C19 (Agr FF w4) (cut5 p) qv 2 c s63 (((cut18 l)).take k) _ (λ _ e=>(hs.ext e).p1.frz) hp' (cut5_sz p) hpk (htk k).1 (htk k).2) ?_;rintro _ w16 ⟨e1,ov,rfl,hnew⟩;have hs:=hs.made hnew;refine pop_ext rfl (pop_ext rfl ?_);refine pop_ext rfl (pop_ext rfl ?_);refine uop_blkV (x:=e1) hs.p1 ty66 rfl rfl (λ w17 hs=>?_);have hs:=hs.drop;rw [if_neg (λ h=>h f2)] at hs; exact ⟨congrArg (Value.int .i64) f2,_,f3,hs⟩
 rintro v14 _ w18 ⟨rfl,out,hout,hs⟩ _;refine ⟨λ jv w'=>jv = .bool false/\w'=w18,?_,?_⟩
 ·exact pop_neq (cond_d (λ h=>absurd rfl h) (λ _=>pop_len sl67 (hs).rd' (pop_neq ⟨vb (decide_eq_false (λ h=>h (by omega))),rfl⟩)))
 rintro _ _ ⟨rfl,rfl⟩ _;refine cond_f ?_;have hs:=hs.drop;refine pop_len sl55 (hts _ hs.frz).1 (pop_eql ?_);refine cond_d (λ c2=>?_) (λ c2=>?_)
 ·exact callP pl21 hs (C21 _) (λ _ _ hs=>⟨rfl,hs.chg⟩)
 obtain ⟨g1,g2⟩:=f4 (by omega);have eat:farD (cut5 p) 2 c (((cut18 l)).take (k+1))=k:=by unfold farD; rw [g2,ek]; rfl
 refine ⟨λ j1 j2 w'=>j1 = .int .i64 (runD (cut5 p) 2 c (cut18 l)).2/\j2 = .int .i64 (k:Int)/\St w none1 [frz (Agr FF w4),blk b3 (Flat.enc qv)] w',?_,?_⟩
 ·have hs:=hs.drew;refine qop_at ty40 hs.p1.At (pop_add (by omega) ?_);refine pop_cutHi' sl55 (hts _ hs.frz).1 (by omega) (by omega) (λ s88 h88=>?_);have hpk:PkK (Agr FF w4) s88 (((cut18 l)).take (k+1)):=⟨ts.take (k+1),λ w h=>⟨h88 w (hts w h).1,(hts w h).2.take (k+1)⟩⟩;refine ⟨?_,?_,trivial⟩
  ·refine callF pl19 (C19 (Agr FF w4) (cut5 p) qv 2 c s88 (((cut18 l)).take (k+1)) _ (λ _ e=>(hs.ext e).frz) hp' (cut5_sz p) hpk (htk (k+1)).1 (htk (k+1)).2) ?_;rintro _ w12 ⟨e1,ov,rfl,hnew⟩;have hs:=hs.made hnew;refine pop_ext rfl (pop_ext rfl ?_);refine pop_ext rfl (pop_ext rfl ?_);refine eop_allocA hs zero66 (λ b13 w13 hs=>?_);refine ⟨run_at ty40 hs.p3.At,?_⟩;refine uop_blkV (x:=e1) hs ty66 rfl rfl (λ w14 hs=>?_);have hs:=hs.drop;rw [g2,eat,if_pos g1]; exact ⟨rfl,rfl,hs.drop⟩
  refine eop_allocA hs zero66 (λ b13 w15 hs=>?_);refine ⟨run_at ty40 hs.p2.At,?_⟩;refine callF pl19 (C19 (Agr FF w4) (cut5 p) qv 2 c s88 (((cut18 l)).take (k+1)) _ (λ _ e=>(hs.ext e).p1.frz) hp' (cut5_sz p) hpk (htk (k+1)).1 (htk (k+1)).2) ?_;rintro _ w16 ⟨e1,ov,rfl,hnew⟩;have hs:=hs.made hnew;refine pop_ext rfl (pop_ext rfl ?_);refine pop_ext rfl (pop_ext rfl ?_);refine uop_blkV (x:=e1) hs.p1 ty66 rfl rfl (λ w17 hs=>?_);have hs:=hs.drop;rw [g2,eat,if_pos g1]; exact ⟨rfl,rfl,hs.drop⟩
 rintro _ _ _ ⟨rfl,rfl,hs⟩ _;refine qop_at ty40 hs.p1.At (callF pl19 (C19 (Agr FF w4) (cut5 p) qv 2 c sv (cut18 l) _ (λ _ e=>(hs.ext e).frz) hp' (cut5_sz p) ⟨ts,hts⟩ (by omega) hl3) ?_);rintro _ _ ⟨e1,ov,rfl,hnew⟩;have hs:=(hs.made hnew).drop;refine pop_ext rfl (pop_ext rfl ?_);refine pop_ext rfl (pop_ext rfl ?_);refine eop_allocA hs zero66 (λ b21 _ hs=>uop_blkV (x:=e1) hs ty66 rfl rfl (λ _ hs=>?_));have hs:=hs.drop;rw [if_pos g1,<- ek];refine ⟨λ jv w'=>jv = .bool true/\Ext w w',?_,?_⟩
 ·exact pop_neq (cond_d (λ _=>pop_eql (cond_d (λ _=>pop_eql (cond_d (λ _=>pop_eql (cond_d (λ _=>callP pl21 hs (C21 _) (λ _ _ hs=>⟨rfl,hs.chg⟩)) (λ h=>absurd rfl h))) (λ h=>absurd rfl h))) (λ h=>absurd rfl h))) (λ h=>absurd g1 h))
 rintro _ _ h _;exact h
theorem own:ownKnob Tryz.prog.godebug=none:=by kernel_rfl
theorem rd9:RdD Tryz.prog 9 ByteArray (λ y=>y.size<=maxLen):=RdT.deep (rd_str Tryz.underlying9 (by kernel_rfl)) λ _ _=>rfl
theorem rd3:RdD Tryz.prog 3 Int i64ok:=RdT.deep (rd_int Tryz.underlying3 (by kernel_rfl)) λ _ _=>rfl
theorem rd142:RdD Tryz.prog 142 TCell TCellOk:=λ w=>⟨by kernel_rfl,λ enc base held fuel cs x h=>by
 obtain ⟨hl,n,hp⟩:=trod_parts Tryz.underlying142 h
 obtain ⟨y0,h0⟩:=hp 0 _ rfl
 obtain ⟨y1,h1⟩:=hp 1 _ rfl
 obtain ⟨y2,h2⟩:=hp 2 _ rfl
 obtain ⟨s0,e0,a0,d0,k0⟩:=(rd9 w).rd enc base held n _ _ h0
 obtain ⟨s1,e1,a1,d1,k1⟩:=(rd3 w).rd enc base held n _ _ h1
 obtain ⟨s2,e2,a2,d2,k2⟩:=(rd3 w).rd enc base held n _ _ h2
 obtain rfl:s0=a0:=d0
 obtain rfl:s1=a1:=d1
 obtain rfl:s2=a2:=d2
 have p0:=part_step (s:=1) e0
 have p1:=part_step (s:=1) e1
 have p2:=part_step (s:=1) e2
 have hz:cs.drop 3=[]:=List.drop_eq_nil_iff.2 (by rw [hl]; exact Nat.le_of_eq (by kernel_rfl))
 refine ⟨(⟨s0,s1,s2⟩:TCell),?_,(⟨s0,s1,s2⟩:TCell),rfl,k0,k1,k2⟩
 have e:cs=cs.drop 0:=rfl
 rw [e]
 refine p0.trans ?_
 refine ((congrArg _ p1)).trans ?_
 refine ((congrArg _ (congrArg _ p2))).trans ?_
 exact (congrArg _ (congrArg _ (congrArg _ hz)))⟩
theorem rd37:RdD Tryz.prog 37 (List TCell) (λ ys:(List TCell)=>∀ y∈ys,TCellOk y):=RdD.slice Tryz.underlying37 (by kernel_rfl) rd142
theorem rd36:RdD Tryz.prog 36 (List (List TCell)) (λ ys:(List (List TCell))=>∀ y∈ys,(λ ys:(List TCell)=>∀ y∈ys,TCellOk y) y):=RdD.slice Tryz.underlying36 (by kernel_rfl) rd37
theorem rd32:RdD Tryz.prog 32 (List ByteArray) (λ ys:(List ByteArray)=>∀ y∈ys,(λ y:ByteArray=>y.size<=maxLen) y):=RdD.slice Tryz.underlying32 (by kernel_rfl) rd9
theorem rd26:RdD Tryz.prog 26 TNode TNodeOk:=λ w=>⟨by kernel_rfl,λ enc base held fuel cs x h=>by
 obtain ⟨hl,n,hp⟩:=trod_parts Tryz.underlying26 h
 obtain ⟨y0,h0⟩:=hp 0 _ rfl
 obtain ⟨y1,h1⟩:=hp 1 _ rfl
 obtain ⟨y2,h2⟩:=hp 2 _ rfl
 obtain ⟨y3,h3⟩:=hp 3 _ rfl
 obtain ⟨s0,e0,a0,d0,k0⟩:=(rd3 w).rd enc base held n _ _ h0
 obtain ⟨s1,e1,a1,d1,k1⟩:=(rd3 w).rd enc base held n _ _ h1
 obtain ⟨s2,e2,a2,d2,k2⟩:=(rd9 w).rd enc base held n _ _ h2
 obtain ⟨s3,e3,a3,d3,k3⟩:=(rd3 w).rd enc base held n _ _ h3
 obtain rfl:s0=a0:=d0
 obtain rfl:s1=a1:=d1
 obtain rfl:s2=a2:=d2
 obtain rfl:s3=a3:=d3
 have p0:=part_step (s:=1) e0
 have p1:=part_step (s:=1) e1
 have p2:=part_step (s:=1) e2
 have p3:=part_step (s:=1) e3
 have hz:cs.drop 4=[]:=List.drop_eq_nil_iff.2 (by rw [hl]; exact Nat.le_of_eq (by kernel_rfl))
 refine ⟨(⟨s0,s1,s2,s3⟩:TNode),?_,(⟨s0,s1,s2,s3⟩:TNode),rfl,k0,k1,k2,k3⟩
 have e:cs=cs.drop 0:=rfl
 rw [e]
 refine p0.trans ?_
 refine ((congrArg _ p1)).trans ?_
 refine ((congrArg _ (congrArg _ p2))).trans ?_
 refine ((congrArg _ (congrArg _ (congrArg _ p3)))).trans ?_
 exact (congrArg _ (congrArg _ (congrArg _ (congrArg _ hz))))⟩
theorem rd22:RdD Tryz.prog 22 (List TNode) (λ ys:(List TNode)=>∀ y∈ys,TNodeOk y):=RdD.slice Tryz.underlying22 (by kernel_rfl) rd26
theorem rd24:RdD Tryz.prog 24 TStmt TStmtOk:=λ w=>⟨by kernel_rfl,λ enc base held fuel cs x h=>by
 obtain ⟨hl,n,hp⟩:=trod_parts Tryz.underlying24 h
 obtain ⟨y0,h0⟩:=hp 0 _ rfl
 obtain ⟨y1,h1⟩:=hp 1 _ rfl
 obtain ⟨y2,h2⟩:=hp 2 _ rfl
 obtain ⟨y3,h3⟩:=hp 3 _ rfl
 obtain ⟨y4,h4⟩:=hp 4 _ rfl
 obtain ⟨y5,h5⟩:=hp 5 _ rfl
 obtain ⟨y6,h6⟩:=hp 6 _ rfl
 obtain ⟨y7,h7⟩:=hp 7 _ rfl
 obtain ⟨y8,h8⟩:=hp 8 _ rfl
 obtain ⟨s0,e0,a0,d0,k0⟩:=(rd3 w).rd enc base held n _ _ h0
 obtain ⟨s1,e1,a1,d1,k1⟩:=(rd9 w).rd enc base held n _ _ h1
 obtain ⟨s2,e2,a2,d2,k2⟩:=(rd9 w).rd enc base held n _ _ h2
 obtain ⟨s3,e3,a3,d3,k3⟩:=(rd22 w).rd enc base held n _ _ h3
 obtain ⟨s4,e4,a4,d4,k4⟩:=(rd22 w).rd enc base held n _ _ h4
 obtain ⟨s5,e5,a5,d5,k5⟩:=(rd3 w).rd enc base held n _ _ h5
 obtain ⟨s6,e6,a6,d6,k6⟩:=(rd3 w).rd enc base held n _ _ h6
 obtain ⟨s7,e7,a7,d7,k7⟩:=(rd3 w).rd enc base held n _ _ h7
 obtain ⟨s8,e8,a8,d8,k8⟩:=(rd3 w).rd enc base held n _ _ h8
 obtain rfl:s0=a0:=d0
 obtain rfl:s1=a1:=d1
 obtain rfl:s2=a2:=d2
 obtain rfl:s5=a5:=d5
 obtain rfl:s6=a6:=d6
 obtain rfl:s7=a7:=d7
 obtain rfl:s8=a8:=d8
 have p0:=part_step (s:=1) e0
 have p1:=part_step (s:=1) e1
 have p2:=part_step (s:=1) e2
 have p3:=part_step (s:=1) e3
 have p4:=part_step (s:=1) e4
 have p5:=part_step (s:=1) e5
 have p6:=part_step (s:=1) e6
 have p7:=part_step (s:=1) e7
 have p8:=part_step (s:=1) e8
 have hz:cs.drop 9=[]:=List.drop_eq_nil_iff.2 (by rw [hl]; exact Nat.le_of_eq (by kernel_rfl))
 refine ⟨(⟨s0,s1,s2,s3,s4,s5,s6,s7,s8⟩:TStmtV),?_,(⟨s0,s1,s2,a3,a4,s5,s6,s7,s8⟩:TStmt),⟨s3,s4,rfl,d3,d4⟩,k0,k1,k2,k3,k4,k5,k6,k7,k8⟩
 have e:cs=cs.drop 0:=rfl
 rw [e]
 refine p0.trans ?_
 refine ((congrArg _ p1)).trans ?_
 refine ((congrArg _ (congrArg _ p2))).trans ?_
 refine ((congrArg _ (congrArg _ (congrArg _ p3)))).trans ?_
 refine ((congrArg _ (congrArg _ (congrArg _ (congrArg _ p4))))).trans ?_
 refine ((congrArg _ (congrArg _ (congrArg _ (congrArg _ (congrArg _ p5)))))).trans ?_
 refine ((congrArg _ (congrArg _ (congrArg _ (congrArg _ (congrArg _ (congrArg _ p6))))))).trans ?_
 refine ((congrArg _ (congrArg _ (congrArg _ (congrArg _ (congrArg _ (congrArg _ (congrArg _ p7)))))))).trans ?_
 refine ((congrArg _ (congrArg _ (congrArg _ (congrArg _ (congrArg _ (congrArg _ (congrArg _ (congrArg _ p8))))))))).trans ?_
 exact (congrArg _ (congrArg _ (congrArg _ (congrArg _ (congrArg _ (congrArg _ (congrArg _ (congrArg _ (congrArg _ hz)))))))))⟩
theorem rd27:RdD Tryz.prog 27 (List TStmt) (λ ys:(List TStmt)=>∀ y∈ys,TStmtOk y):=RdD.slice Tryz.underlying27 (by kernel_rfl) rd24
theorem rd34:RdD Tryz.prog 34 TThread TThreadOk:=λ w=>⟨by kernel_rfl,λ enc base held fuel cs x h=>by
 obtain ⟨hl,n,hp⟩:=trod_parts Tryz.underlying34 h
 obtain ⟨y0,h0⟩:=hp 0 _ rfl
 obtain ⟨y1,h1⟩:=hp 1 _ rfl
 obtain ⟨y2,h2⟩:=hp 2 _ rfl
 obtain ⟨y3,h3⟩:=hp 3 _ rfl
 obtain ⟨s0,e0,a0,d0,k0⟩:=(rd9 w).rd enc base held n _ _ h0
 obtain ⟨s1,e1,a1,d1,k1⟩:=(rd32 w).rd enc base held n _ _ h1
 obtain ⟨s2,e2,a2,d2,k2⟩:=(rd27 w).rd enc base held n _ _ h2
 obtain ⟨s3,e3,a3,d3,k3⟩:=(rd3 w).rd enc base held n _ _ h3
 obtain rfl:s0=a0:=d0
 obtain rfl:s3=a3:=d3
 have p0:=part_step (s:=1) e0
 have p1:=part_step (s:=1) e1
 have p2:=part_step (s:=1) e2
 have p3:=part_step (s:=1) e3
 have hz:cs.drop 4=[]:=List.drop_eq_nil_iff.2 (by rw [hl]; exact Nat.le_of_eq (by kernel_rfl))
 refine ⟨(⟨s0,s1,s2,s3⟩:TThreadV),?_,(⟨s0,a1,a2,s3⟩:TThread),⟨s1,s2,rfl,d1,d2⟩,k0,k1,k2,k3⟩
 have e:cs=cs.drop 0:=rfl
 rw [e]
 refine p0.trans ?_
 refine ((congrArg _ p1)).trans ?_
 refine ((congrArg _ (congrArg _ p2))).trans ?_
 refine ((congrArg _ (congrArg _ (congrArg _ p3)))).trans ?_
 exact (congrArg _ (congrArg _ (congrArg _ (congrArg _ hz))))⟩
theorem rd35:RdD Tryz.prog 35 (List TThread) (λ ys:(List TThread)=>∀ y∈ys,TThreadOk y):=RdD.slice Tryz.underlying35 (by kernel_rfl) rd34
theorem rd112:RdD Tryz.prog 112 TClaim TClaimOk:=λ w=>⟨by kernel_rfl,λ enc base held fuel cs x h=>by
 obtain ⟨hl,n,hp⟩:=trod_parts Tryz.underlying112 h
 obtain ⟨y0,h0⟩:=hp 0 _ rfl
 obtain ⟨y1,h1⟩:=hp 1 _ rfl
 obtain ⟨s0,e0,a0,d0,k0⟩:=(rd22 w).rd enc base held n _ _ h0
 obtain ⟨s1,e1,a1,d1,k1⟩:=(rd3 w).rd enc base held n _ _ h1
 obtain rfl:s1=a1:=d1
 have p0:=part_step (s:=1) e0
 have p1:=part_step (s:=1) e1
 have hz:cs.drop 2=[]:=List.drop_eq_nil_iff.2 (by rw [hl]; exact Nat.le_of_eq (by kernel_rfl))
 refine ⟨(⟨s0,s1⟩:TClaimV),?_,(⟨a0,s1⟩:TClaim),⟨s0,rfl,d0⟩,k0,k1⟩
 have e:cs=cs.drop 0:=rfl
 rw [e]
 refine p0.trans ?_
 refine ((congrArg _ p1)).trans ?_
 exact (congrArg _ (congrArg _ hz))⟩
theorem rd38:RdD Tryz.prog 38 (List TClaim) (λ ys:(List TClaim)=>∀ y∈ys,TClaimOk y):=RdD.slice Tryz.underlying38 (by kernel_rfl) rd112
theorem rd40:RdD Tryz.prog 40 TProg TProgOk:=λ w=>⟨by kernel_rfl,λ enc base held fuel cs x h=>by
 obtain ⟨hl,n,hp⟩:=trod_parts Tryz.underlying40 h
 obtain ⟨y0,h0⟩:=hp 0 _ rfl
 obtain ⟨y1,h1⟩:=hp 1 _ rfl
 obtain ⟨y2,h2⟩:=hp 2 _ rfl
 obtain ⟨y3,h3⟩:=hp 3 _ rfl
 obtain ⟨y4,h4⟩:=hp 4 _ rfl
 obtain ⟨y5,h5⟩:=hp 5 _ rfl
 obtain ⟨s0,e0,a0,d0,k0⟩:=(rd36 w).rd enc base held n _ _ h0
 obtain ⟨s1,e1,a1,d1,k1⟩:=(rd37 w).rd enc base held n _ _ h1
 obtain ⟨s2,e2,a2,d2,k2⟩:=(rd37 w).rd enc base held n _ _ h2
 obtain ⟨s3,e3,a3,d3,k3⟩:=(rd35 w).rd enc base held n _ _ h3
 obtain ⟨s4,e4,a4,d4,k4⟩:=(rd35 w).rd enc base held n _ _ h4
 obtain ⟨s5,e5,a5,d5,k5⟩:=(rd38 w).rd enc base held n _ _ h5
 have p0:=part_step (s:=1) e0
 have p1:=part_step (s:=1) e1
 have p2:=part_step (s:=1) e2
 have p3:=part_step (s:=1) e3
 have p4:=part_step (s:=1) e4
 have p5:=part_step (s:=1) e5
 have hz:cs.drop 6=[]:=List.drop_eq_nil_iff.2 (by rw [hl]; exact Nat.le_of_eq (by kernel_rfl))
 refine ⟨(⟨s0,s1,s2,s3,s4,s5⟩:TProgV),?_,(⟨a0,a1,a2,a3,a4,a5⟩:TProg),⟨s0,s1,s2,s3,s4,s5,rfl,d0,d1,d2,d3,d4,d5⟩,k0,k1,k2,k3,k4,k5⟩
 have e:cs=cs.drop 0:=rfl
 rw [e]
 refine p0.trans ?_
 refine ((congrArg _ p1)).trans ?_
 refine ((congrArg _ (congrArg _ p2))).trans ?_
 refine ((congrArg _ (congrArg _ (congrArg _ p3)))).trans ?_
 refine ((congrArg _ (congrArg _ (congrArg _ (congrArg _ p4))))).trans ?_
 refine ((congrArg _ (congrArg _ (congrArg _ (congrArg _ (congrArg _ p5)))))).trans ?_
 exact (congrArg _ (congrArg _ (congrArg _ (congrArg _ (congrArg _ (congrArg _ hz))))))⟩
theorem rd45:RdD Tryz.prog 45 (List Int) (λ ys:(List Int)=>∀ y∈ys,i64ok y):=RdD.slice Tryz.underlying45 (by kernel_rfl) rd3
theorem rd47:RdD Tryz.prog 47 TPick TPickOk:=λ w=>⟨by kernel_rfl,λ enc base held fuel cs x h=>by
 obtain ⟨hl,n,hp⟩:=trod_parts Tryz.underlying47 h
 obtain ⟨y0,h0⟩:=hp 0 _ rfl
 obtain ⟨y1,h1⟩:=hp 1 _ rfl
 obtain ⟨y2,h2⟩:=hp 2 _ rfl
 obtain ⟨y3,h3⟩:=hp 3 _ rfl
 obtain ⟨s0,e0,a0,d0,k0⟩:=(rd3 w).rd enc base held n _ _ h0
 obtain ⟨s1,e1,a1,d1,k1⟩:=(rd3 w).rd enc base held n _ _ h1
 obtain ⟨s2,e2,a2,d2,k2⟩:=(rd3 w).rd enc base held n _ _ h2
 obtain ⟨s3,e3,a3,d3,k3⟩:=(rd45 w).rd enc base held n _ _ h3
 obtain rfl:s0=a0:=d0
 obtain rfl:s1=a1:=d1
 obtain rfl:s2=a2:=d2
 have p0:=part_step (s:=1) e0
 have p1:=part_step (s:=1) e1
 have p2:=part_step (s:=1) e2
 have p3:=part_step (s:=1) e3
 have hz:cs.drop 4=[]:=List.drop_eq_nil_iff.2 (by rw [hl]; exact Nat.le_of_eq (by kernel_rfl))
 refine ⟨(⟨s0,s1,s2,s3⟩:TPickV),?_,(⟨s0,s1,s2,a3⟩:TPick),⟨s3,rfl,d3⟩,k0,k1,k2,k3⟩
 have e:cs=cs.drop 0:=rfl
 rw [e]
 refine p0.trans ?_
 refine ((congrArg _ p1)).trans ?_
 refine ((congrArg _ (congrArg _ p2))).trans ?_
 refine ((congrArg _ (congrArg _ (congrArg _ p3)))).trans ?_
 exact (congrArg _ (congrArg _ (congrArg _ (congrArg _ hz))))⟩
end Go.Proofs.YtfkgkbhbdffckaaGreatDoor
