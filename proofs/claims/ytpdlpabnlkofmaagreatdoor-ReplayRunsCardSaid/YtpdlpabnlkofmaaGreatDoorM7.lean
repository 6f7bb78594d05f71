/-
  Part 7.
-/
import Derived.Test.YtpdlpabnlkofmaaGreatDoorM6
set_option maxHeartbeats 8000000
set_option linter.all false
set_option maxRecDepth 100000
namespace Go.Proofs.YtpdlpabnlkofmaaGreatDoor
open Go.Fw
theorem AV.ext{w w':World}{p:Nat}{m:Mem}(h:AV w p m)(e:Ext w w'):AV w' p m:=by
 obtain⟨ov,fv,lv,kv,wv,ws,h1,h2,h3,h4,h5,h6,h7⟩:=h.ex
 exact⟨ov,fv,lv,kv,wv,ws,h1,h2.of_eq (e.bY _ h2.lt (λ x=>x)),h3.ext e,h4.ext e,h5.ext e,h6.ext e,h7.ext e⟩
theorem Nb{w:World}{p:Nat}{m:Mem}{ov fv lv kv wv:Value}{ws:List mN}(h1:pf ws m)(h2:ng w p [ov,fv,lv,kv,wv])(h3:dC (λ _=>True) w ov m.of)(h4:dC (λ _=>True) w fv m.dV)
  (h5:dC (λ _=>True) w lv m.l) (h6:dC (λ _=>True) w kv m.kept) (h7:dC (λ _=>True) w wv ws):AV w p m:=⟨ov,fv,lv,kv,wv,ws,h1,h2,h3,h4,h5,h6,h7⟩
section
variable {ws:List mN}{m:Mem}{x:mN}{L:Nat}
theorem rB(hp:pf ws m)(hk:vV m)(hx:x∈ws):0<=x.line/\x.line<fP m.of/\0<=x.cell/\x.cell<m.of.length:=by
 obtain⟨h0,h1⟩:=hp.2 x hx
 have h2:=hk.ofr _ (List.mem_of_getElem? h1)
 grind
theorem HF(f:mN->Bool):∀l:List mN,l.length=(l.filter f).length+(l.filter λ x=>!f x).length
 | []=>rfl
 | x::l=>by
  have ih:=HF f l
  grind
theorem Nc(N:Nat):∀(L:Nat) (ws:List mN),(∀x∈ws,0<=x.line/\x.line<L)->(∀n:Int,(ws.filter λ x=>decide (x.line=n)).length<=N)->ws.length<=L*N
 | 0,ws,h,_=>by
  cases ws with
  | nil=>simp
  | cons x r=>have:=h x (List.mem_cons_self ..);omega
 | L+1,ws,h,hN=>by
  have ih:=Nc N L (ws.filter λ x=>!decide (x.line=(L:Int))) (λ x hx=>by
   grind) (λ n=>by
   refine Nat.le_trans ?_ (hN n)
   have e:∀p q:mN->Bool,(ws.filter q).filter p=(ws.filter p).filter q:=λ p q=>by
    rw[List.filter_filter,List.filter_filter]
    grind
   grind)
  have e:=HF (λ x=>decide (x.line=(L:Int))) ws
  have:=hN L
  grind
theorem AW{N:Nat}(hp:pf ws m)(hk:vV m)(hb:MB m N):ws.length<=20*N:=by
 have h1:=Nc N (fP m.of).toNat ws (λ x hx=>by have:=rB hp hk hx;omega) λ n=>by
  have:=hb n
  rw[hp.1,List.length_map]at this
  exact this
 have:=hk.lb
 exact Nat.le_trans h1 (Nat.mul_le_mul_right _ (by omega))
def zo(ws:List mN)(L:Nat):List Int:=(List.range L).map fun (i:Nat)=>(((ws.filter λ x=>decide (x.line=(i:Int))).length:Nat):Int)
theorem xk:(zo ws L).length=L:=by simp[zo]
theorem ZE(L:Nat):List.replicate L (0:Int)=zo [] L:=by
 unfold zo
 simp[List.map_const']
theorem Dj{i:Nat}(h:i<L):(zo ws L)[i]?=some (((ws.filter λ x=>decide (x.line=(i:Int))).length:Nat):Int):=by
 unfold zo;rw[List.getElem?_map,List.getElem?_range h];rfl
theorem akj{i:Nat}{e:Int}(h:(zo ws L)[i]?=some e):0<=e/\e<=ws.length:=by
 have hi:i<L:=by have:=(List.getElem?_eq_some_iff.1 h).1;rwa [xk]at this
 rw[Dj hi]at h
 grind
theorem Um{k:Nat}{e:Int}(hx:ws[k]?=some x)(h0:0<=x.line)(h1:x.line<L)(he:(zo (ws.take k) L)[x.line.toNat]?=some e) :
  (zo (ws.take k) L).set x.line.toNat (e+1)=zo (ws.take (k+1)) L:=by
 have ht:ws.take (k+1)=ws.take k++[x]:=by rw[List.take_add_one,hx];rfl
 apply List.ext_getElem?
 intro i
 by_cases hi:i<L
 ·rw[Dj hi,ht,List.filter_append,List.length_append]
  by_cases hix:i=x.line.toNat
  ·subst hix
   rw[List.getElem?_set_self (by rw[xk];exact hi)]
   rw[Dj hi]at he
   have e1:([x].filter λ x=>decide (x.line=((x.line.toNat:Nat):Int)))=[x]:=by
    have:((x.line.toNat:Nat):Int)=x.line:=by omega
    simp[List.filter,this]
   have:((x.line.toNat:Nat):Int)=x.line:=by omega
   simp only[this]at he |-
   simp only[Option.some.injEq]at he
   simp[List.filter,he]
  rw[List.getElem?_set_ne (Ne.symm hix),Dj hi]
  have:¬ x.line=(i:Int):=by omega
  simp[List.filter,this]
 rw[List.getElem?_eq_none (by rw[List.length_set,xk];omega),List.getElem?_eq_none (by rw[xk];omega)]
def yz(m:Mem):List Int:=(psM m).map fun (k:Nat)=>(k:Int)
theorem ZF(hp:pf ws m):zo ws (fP m.of).toNat=yz m:=by
 unfold zo yz psM EZ
 rw[List.map_map]
 refine List.map_congr_left λ i _=>?_
 simp[hp.1]
theorem Un:(yz m).length=(fP m.of).toNat:=by unfold yz;rw[List.length_map,adl]
end
section
variable {ws:List mN}{m:Mem}{x:mN}
theorem Qd{cell n ln:Int}{l:List Int}(hp:pf ws m)(h0:0<=cell)(h1:m.of[cell.toNat]?=some ln) :
  pf (ws++[⟨ln,cell,n⟩]) {m with l:=l,fF:=px m.fF ln (m.fF ln++[⟨cell,n⟩])}:=by
 refine⟨λ k=>?_,λ x hx=>?_⟩
 ·show px m.fF ln (m.fF ln++[⟨cell,n⟩]) k=_
  rw[List.filter_append,List.map_append,<- hp.1]
  unfold px
  grind
 rcases List.mem_append.1 hx with h|h
 ·exact hp.2 x h
 grind
def nW(line:Int)(ws:List mN):List j4:=(ws.filter λ x=>decide (x.line=line)).map λ x=>⟨x.cell,x.n⟩
def CK(line:Int)(ws:List mN):List mN:=ws.filter λ x=>!decide (x.line=line)
theorem ZG{k:Nat}{line:Int}(h:ws[k]?=some x)(hl:x.line=line):nW line (ws.take (k+1))=nW line (ws.take k)++[⟨x.cell,x.n⟩]:=by
 unfold nW;rw[List.take_add_one,h,Option.toList_some,List.filter_append,List.map_append];grind
theorem aea{k:Nat}{line:Int}(h:ws[k]?=some x)(hl:¬ x.line=line):nW line (ws.take (k+1))=nW line (ws.take k):=by
 unfold nW;rw[List.take_add_one,h,Option.toList_some,List.filter_append,List.map_append];grind
theorem ZH{k:Nat}{line:Int}(h:ws[k]?=some x)(hl:x.line=line):CK line (ws.take (k+1))=CK line (ws.take k):=by
 unfold CK;rw[List.take_add_one,h,Option.toList_some,List.filter_append];grind
theorem aeb{k:Nat}{line:Int}(h:ws[k]?=some x)(hl:¬ x.line=line):CK line (ws.take (k+1))=CK line (ws.take k)++[x]:=by
 unfold CK;rw[List.take_add_one,h,Option.toList_some,List.filter_append];grind
theorem ZI{k:Nat}{line:Int}:(CK line (ws.take k)).length<=ws.length:=Nat.le_trans (List.length_filter_le ..) (by grind)
theorem ZJ{line:Int}{kp:List Int}(hp:pf ws m):pf (CK line ws) {m with kept:=kp,fF:=px m.fF line []}:=by
 refine⟨λ k=>?_,λ x hx=>hp.2 x (List.mem_filter.1 hx).1⟩
 show px m.fF line [] k=_
 unfold px CK
 rw[List.filter_filter]
 by_cases hk:k=line
 ·simp_all
 rw[if_neg hk,hp.1]
 grind
theorem HG(hp:pf ws m)(line:Int):nW line ws=m.fF line:=(hp.1 line).symm
end
theorem akk{k:List Int}{a:List j4}:(nG k a).length=k.length:=wU a k
theorem C77(p:Nat)(m:Mem)(w:World)(hm:AV w p m)(hk:vV m):CR 77 [(.pointer (some ⟨p,0,none⟩))] w (λ v w'=>v=.int .i64 (fP m.of)/\Ext w w'):=by
 have L9:=hm;obtain⟨ov,fv,lv,kv,wv,ws,jQ,rA,hmo,hmf,B8,ZK,hmw⟩:=hm.ex;have q0:=rA.cell (o:=0) rfl;have q1:=rA.cell (o:=1) rfl;have q2:=rA.cell (o:=2) rfl;have q3:=rA.cell (o:=3) rfl;have q4:=rA.cell (o:=4) rfl;have Ma:=hk.fl;have JG:=hk.L8;have Cy:=hk.ll;have FJ:=hk.kl;have Nw:=hk.lb;have FY:=rz hk;have hs:=St.start w;refine oY Tryz.func77 (pl:=P77) ?_;refine aD (aA uf (bM eg (q0.ext hs.aF) (aI cM (hmo.ext hs.aF) (aH (aC (λ _=>⟨congrArg (Value.int .i64) (by unfold fP;rw[if_pos (by omega)]),hs.aF⟩) (λ fL=>aD (aA uf (have hs:=hs.drew;bM eg (q0.ext hs.aF) (aD (aA uf (bM eg (q0.ext hs.aF) (aI cM (hmo.ext hs.aF) (fe (by omega) ?_)))))))))))))
 obtain⟨lV,jK⟩:=gx (m.of) (i:=((((m.of).length:Int)-1)).toNat) (by omega);refine aO cM hmo (by omega) jK (λ _ mi=>aE bL (mi.ext hs.aF) ?_);have awx:=hk.ofr _ (List.mem_of_getElem? jK);exact aK (by omega) ⟨congrArg (Value.int .i64) (by unfold fP;rw[if_neg (by omega),List.getD_eq_getElem?_getD,show m.of.length-1=((m.of.length:Int)-1).toNat from by omega,jK];rfl),hs.aF⟩
theorem C17(p:Nat)(m:Mem)(w:World)(hm:AV w p m)(hk:vV m)(hb:MB m 1000000):CR 17 [(.pointer (some ⟨p,0,none⟩))] w (λ v w'=>lL (bG v (yz m)) w w'):=by
 have L9:=hm;obtain⟨ov,fv,lv,kv,wv,ws,jQ,rA,hmo,hmf,B8,ZK,hmw⟩:=hm.ex;have q0:=rA.cell (o:=0) rfl;have q1:=rA.cell (o:=1) rfl;have q2:=rA.cell (o:=2) rfl;have q3:=rA.cell (o:=3) rfl;have q4:=rA.cell (o:=4) rfl;have Ma:=hk.fl;have JG:=hk.L8;have Cy:=hk.ll;have FJ:=hk.kl;have Nw:=hk.lb;have FY:=rz hk;have hwl:=AW jQ hk hb;have hs:=St.start w;refine eS Tryz.func17 ?_;refine aT alS hs (C77 _ m _ (L9.ext hs.aF) hk) (λ w1 he hs=>we (0:Int) hs cM ud (by omega) (by omega) (by decide) (λ aja _ hs=>?_));refine⟨λ mm x w1=>∃k:Nat,x=.int .i64 (k:Int)/\mm=ws.length-k/\k<=ws.length/\St w aY [bG aja (zo (ws.take k) (fP m.of).toNat)] w1,⟨_,0,rfl,rfl,Nat.zero_le _,by rw[ZE]at hs;exact hs⟩,?_⟩
 rintro mm _ _ ⟨k,rfl,rfl,hkw,hs⟩ _;refine aD (aA kx (bM sX (q4.ext hs.aF) (aI sY (hmw.ext hs.aF) (aQ (aC (λ ji=>?_) (λ ji=>?_))))))
 ·refine aD (aA kx (bM sX (q4.ext hs.aF) ?_));obtain⟨qh,kI⟩:=gx (ws) (i:=((k:Int)).toNat) (by omega);refine aO sY hmw (by omega) kI (λ _ qi=>bW (qh).line wh qi rfl rfl (λ _ Ah=>aE bL (Ah.ext hs.aF) ?_));have oZ:=rB jQ hk (List.mem_of_getElem? kI);have Ew:(zo (ws.take k) (fP m.of).toNat).length=(fP m.of).toNat:=xk;obtain⟨qL,fZ⟩:=gx ((zo (ws.take k) (fP m.of).toNat)) (i:=((qh).line).toNat) (by omega);refine dM hs cM (by omega) (by omega) (λ _ mj=>gD hs bL mj fZ ?_);have hcb:=akj fZ;have GV:(ws.take k).length<=ws.length:=by rw[List.length_take];omega
  refine aK (by omega) (dM hs cM (by omega) (by omega) (λ _ qO=>jm _ hs bL qO (by omega) (λ _ hs=>aK (by omega) ?_)));exact⟨_,by omega,k+1,rfl,rfl,by omega,by rw[<- Um (k:=k) kI oZ.1 (by omega) fZ];exact hs⟩
 ·rw[List.take_of_length_le (by omega),ZF jQ]at hs;exact hs.fresh
theorem C166(p:Nat)(m:Mem)(F:Nat->Prop)(cell n:Int)(w:World)(hF:(gi p m).p w F)(hk:vV m)(hb:MB m 1000000):CR 166 [(.pointer (some ⟨p,0,none⟩)),.int .i64 cell,.int .i64 n] w (λ v w'=>v=.int .i64 (if F3 m cell=true then 0 else 1)/\mL F (gi p (fh m cell n)) w w'):=by
 have hs:=St.begin hF;obtain⟨ov,fv,lv,kv,wv,ws,jQ,hs⟩:=gi.open hs;have Ma:=hk.fl;have JG:=hk.L8;have Cy:=hk.ll;have FJ:=hk.kl;have Nw:=hk.lb;have FY:=rz hk;have hwl:=AW jQ hk hb;refine oY Tryz.func166 (pl:=atJ) ?_;refine⟨λ jv w'=>jv=.bool (decide (cell<0\/m.l.length<=cell))/\w=w',aQ (aC (λ _=>⟨JX (by omega),rfl⟩) (λ _=>aD (aA rH (aB eg hs.hb rfl (aI cM (hs.p3).dX (cS ⟨xS (by omega),rfl⟩)))))),?_⟩;rintro _ _ ⟨rfl,hw⟩ _;subst hw;refine aC (λ jY=>?_) (λ jY=>?_)
 ·have hs:=hs.p5.p5.p5.p5.p5.p5;have sR:F3 m cell=false:=by unfold F3;rw[decide_eq_false_iff_not];omega
  unfold fh;rw[sR];exact⟨rfl,(gi.shut jQ hs).mut⟩
 have sR:F3 m cell=true:=by unfold F3;rw[decide_eq_true_eq];omega
 refine aD (aA rH (aB eg hs.hb rfl ?_));obtain⟨iG,mh⟩:=gx (m.l) (i:=(cell).toNat) (by omega);refine dM hs.p3 cM (by omega) (by omega) (λ _ Ah=>jm _ hs.p3 bL Ah (by omega) (λ _ hs=>⟨λ w'=>St w F [gi p (fh m cell n)] w',aD (aA uf (aB eg hs.p1.hb rfl (aI cM (hs.p2).dX (aQ (aC (λ lT=>?_) (λ lT=>?_)))))),?_⟩))
 ·refine aD (aA kx (have hs:=hs.drew;aB sX hs.p1.hb rfl (aD (aA uf (aB eg hs.p1.hb rfl ?_)))));obtain⟨Hn,vn⟩:=gx (m.of) (i:=(cell).toNat) (by omega);refine dM hs.p2 cM (by omega) (by omega) (λ _ YW=>gD hs.p2 bL YW vn (pop (Ik _ _ _) (aX ([(⟨Hn,cell,n⟩:mN)]) hs sY rfl rfl (dI rfl) (λ apS _ hs=>?_))));refine⟨aG sX (hs.p2.hb.cell rfl),?_⟩;have Pc:=(hs).dX;refine bI hs.p6 sY Pc (by simp;omega) (by decide) (λ apT _ hs=>have hs:=hs.p1.drop;aD (aA kx (aS hs.p2 sX (dI rfl) ((hs).dX.one) (λ _ hs=>?_))))
  have hs:=hs.p5.p2.p3.p5.p5.p5.p4.p5.p5.p5.p5.p5;have hwm:fh m cell n={m with l:=m.l.set cell.toNat n,fF:=px m.fF Hn (m.fF Hn++[⟨cell,n⟩])}:=by unfold fh;rw[if_pos sR,if_pos (by omega),List.getD_eq_getElem?_getD,vn];rfl
  rw[hwm];exact gi.shut (m:={m with l:=_,fF:=_}) (Qd jQ (by omega) vn) hs
 ·have hs:=hs.p5.p5.p2.p5.p5.p5;have hwm:fh m cell n={m with l:=m.l.set cell.toNat n}:=by unfold fh;rw[if_pos sR,if_neg (by omega)]
  rw[hwm];exact gi.shut (m:={m with l:=_}) jQ hs
 intro _ hs _;exact⟨by rw[sR];rfl,hs.mut⟩
theorem C167(p:Nat)(m:Mem)(F:Nat->Prop)(line:Int)(w:World)(hF:(gi p m).p w F)(hk:vV m)(hb:MB m 1000000):CR 167 [(.pointer (some ⟨p,0,none⟩)),.int .i64 line] w (λ v w'=>v=.int .i64 (if EW m line=true then 0 else 1)/\mL F (gi p (nV m line)) w w'):=by
 have hs:=St.begin hF;obtain⟨ov,fv,lv,kv,wv,ws,jQ,hs⟩:=gi.open hs;have Ma:=hk.fl;have JG:=hk.L8;have Cy:=hk.ll;have FJ:=hk.kl;have Nw:=hk.lb;have FY:=rz hk;have hwl:=AW jQ hk hb;refine oY Tryz.func167 (pl:=atK) ?_;refine⟨λ jv w'=>jv=.bool (decide (line<0\/fP m.of<=line))/\St w F [bY p [ov,fv,lv,kv,wv],bG ov m.of,bG fv m.dV,bG lv m.l,bG kv m.kept,bG wv ws] w',aQ (aC (λ _=>⟨vb (by first|exact(decide_eq_true (by omega)).symm|exact decide_eq_decide.2 (by omega)),hs⟩) (λ _=>aT alS hs (C77 _ m _ (Nb jQ hs.hb hs.p1.dX hs.p2.dX hs.p3.dX hs.p4.dX hs.p5.dX) hk) (λ _ _ hs=>cS ⟨vb (by first|exact(decide_eq_true (by omega)).symm|exact decide_eq_decide.2 (by omega)),hs⟩))),?_⟩
 rintro _ _ ⟨rfl,hs⟩ _;refine aC (λ jI=>?_) (λ jI=>?_)
 ·have hs:=hs.p5.p5.p5.p5.p5.p5;have sR:EW m line=false:=by unfold EW;rw[decide_eq_false_iff_not];omega
  unfold nV;rw[sR];exact⟨rfl,(gi.shut jQ hs).mut⟩
 refine aX (([]:List mN)) hs sY rfl rfl (dI rfl) (λ s_x15 _ hs=>?_);have hs:=hs.p6.p6.p6.p6.p6.p6.p6;refine⟨λ mm o x w1=>∃k:Nat,x=.int .i64 (k:Int)/\mm=ws.length-k/\k<=ws.length/\St w F [bG o (CK line (ws.take k)),bY p [ov,fv,lv,kv,wv],bG ov m.of,bG fv m.dV,bG lv m.l,bG kv (nG m.kept (nW line (ws.take k))),bG wv ws] w1,⟨_,0,rfl,rfl,Nat.zero_le _,hs⟩,?_⟩;rintro mm l5 _ _ ⟨k,rfl,rfl,hkw,hs⟩ _;refine aD (aA kx (aB sX hs.p1.hb rfl (aI sY (hs.p6).dX (aQ (aC (λ iF=>⟨λ o w'=>St w F [bG o (CK line (ws.take (k+1))),bY p [ov,fv,lv,kv,wv],bG ov m.of,bG fv m.dV,bG lv m.l,bG kv (nG m.kept (nW line (ws.take (k+1)))),bG wv ws] w',?_,?_⟩) (λ iF=>?_))))))
 ·refine aD (aA kx (aB sX hs.p1.hb rfl ?_));obtain⟨qL,fZ⟩:=gx (ws) (i:=((k:Int)).toNat) (by omega);refine dM hs.p6 sY (by omega) (by omega) (λ _ mj=>mf wh mj (λ _ uz=>nz (qL).line hs.p6 bL uz fZ rfl (aH (aC (λ lz=>?_) (λ lz=>?_)))))
  ·refine aD (aA zT (have hs:=hs.drew;aB eg hs.p1.hb rfl (aD (aA kx (aB sX hs.p1.hb rfl (dM hs.p6 sY (by omega) (by omega) (λ _ wS=>mf Km wS (λ _ KT=>nz (qL).cell hs.p6 bL KT fZ rfl (aD (aA kx (aB sX hs.p1.hb rfl (dM hs.p6 sY (by omega) (by omega) (λ _ Xj=>?_)))))))))))));refine mf Kn Xj (λ _ aq4=>nz (qL).n hs.p6 bL aq4 fZ rfl ?_);have oZ:=rB jQ hk (List.mem_of_getElem? fZ);have Tg:(nG m.kept (nW line (ws.take k))).length=m.kept.length:=akk;obtain⟨Wa,Od⟩:=gx ((nG m.kept (nW line (ws.take k)))) (i:=((qL).cell).toNat) (by omega)
   refine dM hs.p5 cM (by omega) (by omega) (λ _ Ai=>jm _ hs.p5 bL Ai (by omega) (λ _ hs=>?_));have hs:=hs.p6.p1.p6.p6.p6.p6.p6;rw[ZH (k:=k) fZ lz,ZG (k:=k) fZ lz,BL];exact hs
  refine aD (aA kx (aB sX hs.p1.hb rfl (dM hs.p6 sY (by omega) (by omega) (λ _ LI=>gD hs.p6 Vz LI fZ (aX ([qL]) hs sY rfl rfl (dI rfl) (λ aqI _ hs=>?_))))));have U5:(CK line (ws.take k)).length<=ws.length:=ZI;have akl:=(hs).dX;refine bI hs.p1 sY akl (by simp;omega) (by decide) (λ aqJ _ hs=>?_);have hs:=hs.p1.drop.p6.p6.p6.p6.p6.p6.p6;rw[aeb (k:=k) fZ lz,aea (k:=k) fZ lz];exact hs
 ·rintro l5_1 _ hs _;exact aK (by omega) (have hs:=hs.p6.p6.p6.p6.p6.p6.p6;⟨_,by omega,k+1,rfl,rfl,by omega,hs⟩)
 refine aD (aA kx (aS hs.p1 sX (dI rfl) ((hs).dX.one) (λ _ hs=>?_)));have hs:=(hs.p6.drop.p1.p5.p5.p5.p5).p5;have sR:EW m line=true:=by unfold EW;rw[decide_eq_true_eq];omega
 have Pd:nV m line={m with kept:=nG m.kept (m.fF line),fF:=px m.fF line []}:=by unfold nV;rw[if_pos sR]
 rw[List.take_of_length_le (by omega),HG jQ]at hs;rw[Pd,sR];exact⟨rfl,(gi.shut (m:={m with kept:=_,fF:=_}) (ZJ jQ) hs).mut⟩
section
variable {ws:List mN}{m:Mem}{x:mN}{cut:List Int}
def qU(m:Mem)(us:List mN):Mem:={m with fF:=λ i=>nW i us}
theorem Uo(hp:pf ws m):qU m ws=m:=by
 unfold qU
 have:(λ i=>nW i ws)=m.fF:=funext λ i=>HG hp i
 rw[this]
theorem HH{j:Nat}{v:Int}:∀(us:List j4) (k:List Int),(∀u∈us,u.cell.toNat≠j)->nG (k.set j v) us=(nG k us).set j v
 | [],k,_=>rfl
 | u::us,k,h=>by
  show nG ((k.set j v).set u.cell.toNat u.n) us=(nG (k.set u.cell.toNat u.n) us).set j v
  rw[List.set_comm _ _ (h u (List.mem_cons_self ..)).symm,HH us _ λ w hw=>h w (List.mem_cons_of_mem _ hw)]
theorem HI(i:Int)(us:List mN)(x:mN):nW i (us++[x])=if x.line=i then nW i us++[⟨x.cell,x.n⟩]else nW i us:=by
 unfold nW;grind
theorem Nd{us:List mN}(hu:∀y∈us,0<=y.cell/\m.of[y.cell.toNat]?=some y.line)(hx:0<=x.cell/\m.of[x.cell.toNat]?=some x.line)(h0:0<=x.line)(K:Nat) :
  pF (qU m (us++[x])) cut K=if x.line<K/\((nW x.line us).length:Int)<cut.getD x.line.toNat 0 then(pF (qU m us) cut K).set x.cell.toNat x.n else pF (qU m us) cut K:=by
 induction K with
 | zero=>rw[if_neg (by omega)];rfl
 | succ K ih=>
  rw[uI,uI,ih]
  show nG _ ((nW (K:Int) (us++[x])).take _)=if _ then(nG _ ((nW (K:Int) us).take _)).set _ _ else nG _ ((nW (K:Int) us).take _)
  rw[HI]
  by_cases hK:x.line=(K:Int)
  ·have hKn:x.line.toNat=K:=by omega
   rw[if_pos hK,if_neg (by omega),<- hKn,show((x.line.toNat:Nat):Int)=x.line from by omega]
   by_cases hc:((nW x.line us).length:Int)<cut.getD x.line.toNat 0
   ·rw[if_pos ⟨by omega,hc⟩,List.take_of_length_le (by grind),BL,List.take_of_length_le (by omega)]
   grind
  ·rw[if_neg hK]
   by_cases hc:x.line<(K:Int)/\((nW x.line us).length:Int)<cut.getD x.line.toNat 0
   ·rw[if_pos hc,if_pos ⟨by omega,hc.2⟩,HH]
    intro u hu2 he
    obtain⟨y,hy,rfl⟩:=List.mem_map.1 (List.mem_of_mem_take hu2)
    grind
   grind
def oW(us:List mN)(cut:List Int):List Int:=(List.range cut.length).map fun (i:Nat)=>max 0 (cut.getD i 0-((nW i us).length:Int))
theorem uP{us:List mN}:(oW us cut).length=cut.length:=by simp[oW]
theorem AX{us:List mN}{i:Nat}(h:i<cut.length):(oW us cut)[i]?=some (max 0 (cut.getD i 0-((nW i us).length:Int))):=by
 grind[oW,nW]
theorem Up(h:∀(i:Nat) (c:Int),cut[i]?=some c->0<=c):cut=oW [] cut:=by
 apply List.ext_getElem?
 intro i
 by_cases hi:i<cut.length
 ·rw[AX hi,List.getElem?_eq_getElem hi]
  grind[nW]
 grind[oW]
theorem Jy{us:List mN}{l e:Int}(h0:0<=l)(he:(oW us cut)[l.toNat]?=some e):l.toNat<cut.length/\e=max 0 (cut.getD l.toNat 0-((nW l us).length:Int)):=by
 have hl:l.toNat<cut.length:=by have:=(List.getElem?_eq_some_iff.1 he).1;rwa [uP]at this
 rw[AX hl,show((l.toNat:Nat):Int)=l from by omega]at he
 grind
theorem Fu{us:List mN}(h0:0<=x.line)(hl:x.line.toNat<cut.length):oW (us++[x]) cut=(oW us cut).set x.line.toNat (max 0 (cut.getD x.line.toNat 0-((nW x.line us).length:Int)-1)):=by
 apply List.ext_getElem?
 intro i
 by_cases hi:i<cut.length
 ·rw[AX hi,HI]
  by_cases hix:i=x.line.toNat
  ·subst hix
   rw[List.getElem?_set_self (by rw[uP];exact hi),if_pos (by omega),List.length_append,List.length_singleton,show((x.line.toNat:Nat):Int)=x.line from by omega]
   congr 1;omega
  rw[List.getElem?_set_ne (Ne.symm hix),AX hi,if_neg (by omega)]
 rw[List.getElem?_eq_none (by rw[uP];omega),List.getElem?_eq_none (by rw[List.length_set,uP];omega)]
theorem Fv{α:Type}{l:List α}{k:Nat}{y:α}(h:l[k]?=some y):l.take (k+1)=l.take k++[y]:=by rw[List.take_add_one,h];rfl
theorem SA{k:Nat}{e:Int}(hp:pf ws m)(hk:vV m)(hL:(cut.length:Int)=fP m.of)(h:ws[k]?=some x)(he:(oW (ws.take k) cut)[x.line.toNat]?=some e)(h1:0<e) :
  (oW (ws.take k) cut).set x.line.toNat (e-1)=oW (ws.take (k+1)) cut/\(pF (qU m (ws.take k)) cut cut.length).set x.cell.toNat x.n=pF (qU m (ws.take (k+1))) cut cut.length:=by
 have hx:=List.mem_of_getElem? h
 have hl:=rB hp hk hx
 obtain⟨h2,h3⟩:=Jy hl.1 he
 rw[Fv h,Fu hl.1 h2,Nd (λ y hy=>hp.2 y (List.mem_of_mem_take hy)) (hp.2 x hx) hl.1,if_pos ⟨by omega,by omega⟩]
 grind
theorem SB{k:Nat}{e:Int}(hp:pf ws m)(hk:vV m)(h:ws[k]?=some x)(he:(oW (ws.take k) cut)[x.line.toNat]?=some e)(h1:¬ 0<e) :
  oW (ws.take k) cut=oW (ws.take (k+1)) cut/\pF (qU m (ws.take k)) cut cut.length=pF (qU m (ws.take (k+1))) cut cut.length:=by
 have hx:=List.mem_of_getElem? h
 have hl:=rB hp hk hx
 have he0:=he
 obtain⟨h2,h3⟩:=Jy hl.1 he
 rw[Fv h,Fu hl.1 h2,Nd (λ y hy=>hp.2 y (List.mem_of_mem_take hy)) (hp.2 x hx) hl.1,if_neg (by omega)]
 refine⟨?_,rfl⟩
 rw[show max 0 (cut.getD x.line.toNat 0-((nW x.line (ws.take k)).length:Int)-1)=e from by omega]
 apply List.ext_getElem?
 grind
theorem ZL{k:Nat}{e:Int}(he:(yz m)[k]?=some e):e=(m.fF k).length:=by
 unfold yz psM at he
 rw[List.getElem?_map]at he
 have hk:k<(fP m.of).toNat:=by
  cases h:(EZ m (fP m.of).toNat)[k]? with
  | none=>grind
  | some y=>have:=(List.getElem?_eq_some_iff.1 h).1;unfold EZ at this;grind
 rw[Ym hk]at he
 grind
theorem Uq(m:Mem)(cut:List Int):m.kept=pF (qU m []) cut cut.length:=by
 have:∀K,pF (qU m []) cut K=m.kept:=λ K=>by
  induction K with
  | zero=>rfl
  | succ K ih=>rw[uI,ih];simp[qU,nW,nG]
 grind
theorem Qe(kW:List Int):pf [] (my m kW):=⟨λ _=>rfl,λ x h=>by cases h⟩
end
theorem C92(p:Nat)(m:Mem)(cut:List Int)(cv:Value)(w:World)(hm:AV w p m)(hk:vV m)(hb:MB m 1000000)(hC:dC (λ _=>True) w cv cut)(Yn:cut.length<=1000):CR 92 [(.pointer (some ⟨p,0,none⟩)),cv] w (λ v w'=>(fw m cut=none/\v=.tuple #[.slice none 0 0,.int .i64 1]/\Ext w w')\/∃kW o,fw m cut=some kW/\v=.tuple #[o,.int .i64 0]/\lL (bG o kW) w w'):=by
 have L9:=hm;obtain⟨ov,fv,lv,kv,wv,ws,jQ,rA,hmo,hmf,B8,ZK,hmw⟩:=hm.ex;have q0:=rA.cell (o:=0) rfl;have q1:=rA.cell (o:=1) rfl;have q2:=rA.cell (o:=2) rfl;have q3:=rA.cell (o:=3) rfl;have q4:=rA.cell (o:=4) rfl;have Ma:=hk.fl;have JG:=hk.L8;have Cy:=hk.ll;have FJ:=hk.kl;have Nw:=hk.lb;have FY:=rz hk;have hwl:=AW jQ hk hb;have hpil:=Un (m:=m);have hs:=St.start w;refine agY _ _ _ _ ?_;unfold S92;refine ek atm hs (C17 _ m _ (L9.ext hs.aF) hk hb) (λ x13 w1 cO hs=>aI cM (hC.ext hs.aF) (aI cM (hs).dX (bV (aC (λ _=>.inl ⟨Mc (by omega),rfl,hs.aF⟩) (λ lB=>?_)))))
 refine⟨λ mm x w1=>∃k:Nat,x=.int .i64 (k:Int)/\mm=cut.length-k/\k<=cut.length/\(∀(i:Nat) (c:Int),i<k->cut[i]?=some c->0<=c/\c<=(m.fF i).length)/\St w aY [bG x13 (yz m)] w1,⟨_,0,rfl,rfl,Nat.zero_le _,λ _ _ h=>absurd h (by omega),hs⟩,?_⟩;rintro mm _ _ ⟨k,rfl,rfl,vD,ki,hs⟩ _;refine aI cM (hs).dX (aQ (aC (λ iF=>?_) (λ iF=>?_)))
 ·obtain⟨RT,wT⟩:=gx cut (i:=((k:Int)).toNat) (by omega);refine⟨λ jv w'=>jv=.bool (decide (RT<0\/((m.fF k).length:Int)<RT))/\St w aY [bG x13 (yz m)] w',aO cM hC (by omega) wT (λ _ ux=>have hs:=hs.drew;aE bL (ux.ext hs.aF) (aQ (aC (λ _=>⟨vb (by first|exact(decide_eq_true (by omega)).symm|exact decide_eq_decide.2 (by omega)),hs⟩) (λ afZ=>?_)))),?_⟩
  ·refine aO cM hC (by omega) wT (λ _ qO=>aE bL (qO.ext hs.aF) ?_);obtain⟨e_x37,ZM⟩:=gx ((yz m)) (i:=((k:Int)).toNat) (by omega);refine dM hs cM (by omega) (by omega) (λ _ Ap=>gD hs bL Ap ZM (cP ?_));have A0:=ZL (k:=k) ZM;exact⟨vb (by first|exact(decide_eq_true (by omega)).symm|exact decide_eq_decide.2 (by omega)),hs⟩
  rintro _ _ ⟨rfl,hs⟩ _;refine aC (λ _=>.inl ⟨Mb (k:=k) wT (by omega),rfl,hs.aF⟩) (λ wC=>aK (by omega) ?_);refine⟨_,by omega,k+1,rfl,rfl,by omega,λ i c hi hc=>?_,hs⟩
  by_cases e:i=k
  ·subst e;obtain rfl:=Option.some.inj (hc.symm.trans wT);omega
  exact ki i c (by omega) hc
 have ZN:(cut.length:Int)=fP m.of:=by omega
 refine⟨λ a b w'=>St w aY [bG a cut,bG b m.kept] w',aD (aA zT (have hs:=hs.drew;bM eg (q3.ext hs.aF) ⟨aX (([]:List Int)) hs cM rfl rfl (dI rfl) (λ aqH _ hs=>⟨aG eg (q3.ext hs.aF),⟨?_,⟨?_,?_⟩⟩⟩),⟨?_,?_⟩⟩)),?_⟩
 ·have akm:=(hC.ext hs.aF);refine bI hs cM akm (by simp<;>omega) (by decide) (λ afY _ hs=>?_);refine⟨aG eg (q3.ext hs.aF),?_⟩;refine aX (([]:List Int)) hs cM rfl rfl (dI rfl) (λ s_x44 _ hs=>?_);refine⟨aG eg (q3.ext hs.aF),?_⟩;have PR:=(ZK.ext hs.aF);exact bI hs cM PR (by simp<;>omega) (by decide) (λ _ _ hs=>have hs:=(hs.p2.drop).p1;hs)
 ·refine aX (([]:List Int)) hs cM rfl rfl (dI rfl) (λ asQ _ hs=>?_);refine⟨aG eg (q3.ext hs.aF),?_⟩;have ZO:=(hC.ext hs.aF);refine bI hs.p1 cM ZO (by simp<;>omega) (by decide) (λ asR _ hs=>?_);refine⟨aG eg (q3.ext hs.aF),?_⟩;have ZP:=(ZK.ext hs.aF);exact bI hs.p1 cM ZP (by simp<;>omega) (by decide) (λ _ _ hs=>have hs:=(hs.p2.drop).p1;hs)
 ·trivial
 ·refine aX (([]:List Int)) hs cM rfl rfl (dI rfl) (λ asS _ hs=>?_);refine⟨aG eg (q3.ext hs.aF),?_⟩;refine aX (([]:List Int)) hs cM rfl rfl (dI rfl) (λ asT _ hs=>?_);refine⟨aG eg (q3.ext hs.aF),?_⟩;have ZQ:=(hC.ext hs.aF);refine bI hs cM ZQ (by simp<;>omega) (by decide) (λ asU _ hs=>?_);refine⟨aG eg (q3.ext hs.aF),?_⟩;have ZR:=(ZK.ext hs.aF);exact bI hs.p1 cM ZR (by simp<;>omega) (by decide) (λ _ _ hs=>have hs:=(hs.p2.drop).p1;hs)
 ·trivial
 rintro Gn Vg _ hs _;have hs:=hs.p1.p1;refine⟨λ mm x w1=>∃j:Nat,x=.int .i64 (j:Int)/\mm=ws.length-j/\j<=ws.length/\St w aY [bG Gn (oW (ws.take j) cut),bG Vg (pF (qU m (ws.take j)) cut cut.length)] w1,⟨_,0,rfl,rfl,Nat.zero_le _,by rw[Up (λ i c hc=>(ki i c (by have:=(List.getElem?_eq_some_iff.1 hc).1;omega) hc).1),Uq m cut]at hs;simpa using hs⟩,?_⟩;rintro mm _ _ ⟨j,rfl,rfl,hj,hs⟩ _;refine aD (aA kx (bM sX (q4.ext hs.aF) (aI sY (hmw.ext hs.aF) (aQ (aC (λ afS=>⟨λ w'=>St w aY [bG Gn (oW (ws.take (j+1)) cut),bG Vg (pF (qU m (ws.take (j+1))) cut cut.length)] w',?_,?_⟩) (λ afS=>?_))))))
 ·refine aD (aA kx (bM sX (q4.ext hs.aF) ?_));obtain⟨r9,tK⟩:=gx (ws) (i:=((j:Int)).toNat) (by omega);refine aO sY hmw (by omega) tK (λ _ Ej=>aE Vz (Ej.ext hs.aF) (aM hs abB (λ b_w11 _ hs=>aJ (x:=r9) hs Vz rfl rfl (λ _ hs=>aA wh (aB (v:=.int .i64 ((r9).line)) bL hs.hb rfl ?_)))));have oZ:=rB jQ hk (List.mem_of_getElem? tK);have hlw:(oW (ws.take j) cut).length=cut.length:=uP;obtain⟨e_x69,zp⟩:=gx ((oW (ws.take j) cut)) (i:=((r9).line).toNat) (by omega);refine dM hs.p1 cM (by omega) (by omega) (λ _ LC=>gD hs.p1 bL LC zp ?_)
  have hlb2:=(Jy oZ.1 zp).2
  have hcg:cut.getD (r9).line.toNat 0<=1000000:=by
   have hl9:(r9).line.toNat<cut.length:=by omega
   rw[List.getD_eq_getElem?_getD,List.getElem?_eq_getElem hl9];have h1:=ki _ _ (by omega) (List.getElem?_eq_getElem hl9);have h2:=hb (((r9).line.toNat:Nat):Int);simp only[Option.getD_some];omega
  refine cP (aC (λ GL=>?_) (λ GL=>?_))
  ·refine aA wh (have hs:=hs.drew;aB (v:=.int .i64 ((r9).line)) bL hs.hb rfl (aA wh (aB (v:=.int .i64 ((r9).line)) bL hs.hb rfl (dM hs.p1 cM (by omega) (by omega) (λ _ MH=>gD hs.p1 bL MH zp (fe (by omega) (dM hs.p1 cM (by omega) (by omega) (λ _ aq5=>jm _ hs.p1 bL aq5 (by omega) (λ _ hs=>aA Km (aB (v:=.int .i64 ((r9).cell)) bL hs.p1.hb rfl (aA Kn (aB (v:=.int .i64 ((r9).n)) bL hs.p1.hb rfl ?_))))))))))));have hil:(pF (qU m (ws.take j)) cut cut.length).length=m.kept.length:=oP _ _ _;obtain⟨e_x87,axV⟩:=gx ((pF (qU m (ws.take j)) cut cut.length)) (i:=((r9).cell).toNat) (by omega)
   refine dM hs.p2 cM (by omega) (by omega) (λ _ aq6=>jm _ hs.p2 bL aq6 (by omega) (λ _ hs=>?_));have hs:=(hs.p2.drop).p1;rw[<- (SA (k:=j) jQ hk ZN tK zp GL).1,<- (SA (k:=j) jQ hk ZN tK zp GL).2];exact hs
  have hs:=(hs.drop.p1).p1;rw[<- (SB (k:=j) jQ hk tK zp GL).1,<- (SB (k:=j) jQ hk tK zp GL).2];exact hs
 ·rintro _ hs _;exact aK (by omega) (have hs:=hs.p1.p1;⟨_,by omega,j+1,rfl,rfl,by omega,hs⟩)
 have hs:=(hs).drop;rw[List.take_of_length_le (by omega),Uo jQ]at hs;exact .inr ⟨_,_,G9 ZN (λ i c _ hc=>ki i c (by omega) hc),rfl,hs.fresh⟩
theorem C93(p:Nat)(m:Mem)(F:Nat->Prop)(cut:List Int)(cv:Value)(w:World)(hF:(gi p m).p w F)(hk:vV m)(hb:MB m 1000000)(hC:∀w',gq F w w'->dC (λ _=>True) w' cv cut)(Yn:cut.length<=1000):CR 93 [(.pointer (some ⟨p,0,none⟩)),cv] w (λ v w'=>(fw m cut=none/\v=.int .i64 1/\mL F (gi p m) w w')\/∃kW,fw m cut=some kW/\v=.int .i64 0/\mL F (gi p (my m kW)) w w'):=by
 have hs:=St.begin hF;obtain⟨ov,fv,lv,kv,wv,ws,jQ,hs⟩:=gi.open hs;have Ma:=hk.fl;have JG:=hk.L8;have Cy:=hk.ll;have FJ:=hk.kl;have Nw:=hk.lb;have FY:=rz hk;refine oY Tryz.func93 (pl:=P93) ?_;refine dN alT (C92 _ m cut _ _ (Nb jQ hs.hb hs.p1.dX hs.p2.dX hs.p3.dX hs.p4.dX hs.p5.dX) hk hb (hC _ hs.aF) (by omega)) ?_;rintro v_x11 _ akn
 rcases akn with⟨nX,rfl,he⟩|⟨AY,o_x11,nX,rfl,cO⟩
 ·have hs:=hs.ext he;exact aN rfl (aN rfl (bV (lQ (by decide) (have hs:=hs.p5.p5.p5.p5.p5.p5;.inl ⟨nX,rfl,(gi.shut jQ hs).mut⟩))))
 have hs:=hs.made cO;refine aN rfl (aN rfl (bV (fE (by decide) (aX (([]:List Int)) hs cM rfl rfl (dI rfl) (λ s_x17 _ hs=>?_)))));have nQ:=(hs.p1).dX;refine bI hs cM nQ (by have hil:AY.length=m.of.length:=(by unfold fw at nX;split at nX<;>simp at nX;rw[<- nX,oP];exact FJ);simp;omega) (by decide) (λ W3 _ hs=>aD (aA Vy (have hs:=hs.drew;aB eg hs.p2.hb rfl (aD (aA uf (aB eg hs.p2.hb rfl (aI cM (hs.p3).dX (yM cM (hs.p4).dX (by omega) (by omega) (λ s_x30 ako=>?_)))))))));have akp:=(ako _ (hs.p4).dX);refine bI hs cM akp (by have hil:AY.length=m.of.length:=(by unfold fw at nX;split at nX<;>simp at nX;rw[<- nX,oP];exact FJ);simp;omega) (by decide) (λ af1 _ hs=>aD (aA rH (aS hs.p2 eg (dI rfl) ((hs).dX.one) (λ _ hs=>aD (aA zT (aS hs eg (dI rfl) ((hs.p2).dX.one) (λ _ hs=>aD (aA kx (aS hs sX (dI rfl) (rfl) (λ _ hs=>?_))))))))))
 have hs:=(((((((((((hs.eJ (α:=mN)).p6).drop).p6).drop).p6).drop).p3).p3).p5).p5).p5;have hil:AY.length=m.of.length:=by unfold fw at nX;split at nX<;>simp at nX;rw[<- nX,oP];exact FJ
 rw[show((m.of.length:Int)).toNat=AY.length from by omega,List.nil_append]at hs;exact .inr ⟨_,nX,rfl,(gi.shut (m:=my m AY) (Qe _) hs).mut⟩
structure DoK(K:World->Prop)(d:o0)(q:Dq):Prop where
 x:∀w,K w->Deep.dr w d.x q.1
 a:∃ra,∀w,qR K d.body ra q.2.1.flat w
 b:∃rb,∀w,qR K d.eo rb q.2.2.1.flat w
 e:d.in_=q.2.2.2
def kR(K:World->Prop)(ds:List o0)(qs:List Dq):Prop:=ds.length=qs.length/\∀(j:Nat) (d:o0) (q:Dq),ds[j]?=some d->qs[j]?=some q->DoK K d q
section
variable {K K2:World->Prop}{ds es:List o0}{qs rs:List Dq}{d:o0}{q:Dq}
theorem kR.nil:kR K [] []:=⟨rfl,λ j d q h=>by cases h⟩
theorem kR.cons(h:DoK K d q)(hs:kR K ds qs):kR K (d::ds) (q::qs):=by
 refine⟨by simp[hs.1],λ j e r h1 h2=>?_⟩
 cases j with
 | zero=>cases h1;cases h2;exact h
 | succ j=>exact hs.2 j e r h1 h2
theorem kR.head(h:kR K ds (q::qs)):∃d es,ds=d::es/\DoK K d q/\kR K es qs:=by
 cases ds with
 | nil=>have:=h.1;grind
 | cons d es=>exact⟨d,es,rfl,h.2 0 d q rfl rfl,by have:=h.1;grind,λ j e r h1 h2=>h.2 (j+1) e r h1 h2⟩
theorem kR.append(h:kR K ds qs)(hs:kR K es rs):kR K (ds++es) (qs++rs):=by
 refine⟨by simp[h.1,hs.1],λ j d q h1 h2=>?_⟩
 have hl:=h.1
 by_cases hj:j<ds.length
 ·rw[List.getElem?_append_left hj]at h1
  rw[List.getElem?_append_left (by omega)]at h2
  exact h.2 j d q h1 h2
 rw[List.getElem?_append_right (by omega)]at h1 h2
 rw[<- hl]at h2
 exact hs.2 _ d q h1 h2
theorem kR.drop(h:kR K ds qs)(k:Nat):kR K (ds.drop k) (qs.drop k):=by
 refine⟨by simp[h.1],λ j d q h1 h2=>?_⟩
 rw[List.getElem?_drop]at h1 h2
 exact h.2 _ d q h1 h2
end
@[reducible] def xP(lv:Value)(nv:SV)(rg:Value)(bp:Nat)(f:Int):List Value:=[lv,Flat.val nv,rg,.pointer (some ⟨bp,0,none⟩),.int .i64 f]
def lZ(K:World->Prop)(p:Nat)(room:Int)(t:jP):HP:=qd λ bp:Nat=>qd λ nv:SV=>qd λ rg=>qd λ lv=>qd λ ds:List o0=>fact ((∀w,K w->dC (λ _=>True) w (Flat.val nv) t.names)/\kR K ds (vM t.cD)/\Fj t.cD)
 (sep (bY p (xP lv nv rg bp t.fault)) (sep (ja bp room t.buf) (sep (bG rg t.dL) (fk λ w=>dC (λ _=>True) w lv ds))))
abbrev RTK(K:World->Prop)(nv:SV)(ds:List o0)(t:jP):Prop:=(∀w,K w->dC (λ _=>True) w (Flat.val nv) t.names)/\kR K ds (vM t.cD)/\Fj t.cD
section
variable {w w0:World}{A:Nat->Prop}{R:List HP}{p:Nat}{K:World->Prop}{room:Int}{t:jP}
theorem Qf{H1 H2 H3 H4:HP}(hs:St w0 A (sep H1 (sep H2 (sep H3 H4))::R) w):St w0 A (H1::H2::H3::H4::R) w:=by
 have h1:=hs.split
 have h2:=h1.p1.split
 have h3:=h2.p1.split
 exact h3.p2.p3
theorem Qg{H1 H2 H3 H4:HP}(hs:St w0 A (H1::H2::H3::H4::R) w):St w0 A (sep H1 (sep H2 (sep H3 H4))::R) w:=by
 have h3:=St.join (hs.p3.p3)
 have h2:=St.join h3.p2
 exact St.join h2.p1
theorem lZ.open(hs:St w0 A (lZ K p room t::R) w):∃bp nv rg lv ds,RTK K nv ds t/\
  St w0 A (bY p (xP lv nv rg bp t.fault)::ja bp room t.buf::bG rg t.dL::fk (λ w=>dC (λ _=>True) w lv ds)::R) w:=by
 obtain⟨bp,hs⟩:=hs.er;obtain⟨nv,hs⟩:=hs.er;obtain⟨rg,hs⟩:=hs.er;obtain⟨lv,hs⟩:=hs.er;obtain⟨ds,hs⟩:=hs.er;obtain⟨hk,hs⟩:=hs.me
 exact⟨bp,nv,rg,lv,ds,hk,Qf hs⟩
theorem lZ.shut{bp:Nat}{nv:SV}{rg lv:Value}{ds:List o0}(hk:RTK K nv ds t)
  (hs:St w0 A (bY p (xP lv nv rg bp t.fault)::ja bp room t.buf::bG rg t.dL::fk (λ w=>dC (λ _=>True) w lv ds)::R) w):St w0 A (lZ K p room t::R) w:=
 St.et bp (St.et nv (St.et rg (St.et lv (St.et ds (St.oc hk (Qg hs))))))
theorem lZ.rd(h:Has (lZ K p room t) w):∃bp nv rg lv ds,RTK K nv ds t/\ng w p (xP lv nv rg bp t.fault)/\tN w bp room t.buf/\dC (λ _=>True) w rg t.dL/\dC (λ _=>True) w lv ds:=by
 obtain⟨F,hs⟩:=h.st
 obtain⟨bp,nv,rg,lv,ds,hk,hs⟩:=lZ.open hs
 exact⟨bp,nv,rg,lv,ds,hk,hs.hb,C6 hs.p1,hs.p2.dX,hs.p3.fk⟩
end
structure RA where
 pv:bO
 q:Nat
 ow:Value
 ll:Value
 ps:List Ptr
@[reducible] def oX(a:RA)(s:gW):List Value:=[Flat.val a.pv.lines,Flat.val a.pv.iI,Flat.val a.pv.eG,Flat.val a.pv.threads,Flat.val a.pv.recover,Flat.val a.pv.dP,.int .i64 s.room,.int .i64 s.bZ,.pointer (some ⟨a.q,0,none⟩),a.ow,a.ll,.int .i64 s.fault,.int .i64 s.iS]
structure RSK(K:World->Prop)(a:RA)(s:gW):Prop where
 pr:∀w,K w->Deep.dr w a.pv s.p
 rc:∃vl,(∀w,K w->dC (λ _=>True) w (Flat.val a.pv.recover) vl)/\CF K vl s.p.recover
abbrev Nf(K:World->Prop)(room:Int)(s:Ptr)(t:jP):HP:=lZ K s.b room t
def qA(K:World->Prop)(p:Nat)(m:gW):HP:=qd λ a:RA=>fact (RSK K a m) (sep (bY p (oX a m)) (sep (gi a.q m.mem) (sep (bG a.ow m.eP) (sep (bG a.ll a.ps) (gS (Nf K m.room) a.ps m.l)))))
section
variable {w w' w0:World}{A:Nat->Prop}{R:List HP}{p:Nat}{K:World->Prop}{m:gW}{a:RA}{i:Nat}{tp:Ptr}{t:jP}
theorem qA.open(hs:St w0 A (qA K p m::R) w):∃a,RSK K a m/\St w0 A (bY p (oX a m)::gi a.q m.mem::bG a.ow m.eP::bG a.ll a.ps::gS (Nf K m.room) a.ps m.l::R) w:=by
 obtain⟨a,hs⟩:=hs.er;obtain⟨hu,hs⟩:=hs.me;exact⟨a,hu,so hs⟩
theorem qA.shut(hu:RSK K a m)(hs:St w0 A (bY p (oX a m)::gi a.q m.mem::bG a.ow m.eP::bG a.ll a.ps::gS (Nf K m.room) a.ps m.l::R) w):St w0 A (qA K p m::R) w:=
 St.et a (St.oc hu (sq hs))
structure axX(K:World->Prop)(w:World)(p:Nat)(m:gW)(a:RA):Prop where
 uk:RSK K a m
 b:ng w p (oX a m)
 mem:AV w a.q m.mem
 ow:dC (λ _=>True) w a.ow m.eP
 ll:dC (λ _=>True) w a.ll a.ps
 th:∀(i:Nat) (s:Ptr) (t:jP),a.ps[i]?=some s->m.l[i]?=some t->Has (lZ K s.b m.room t) w
 len:a.ps.length=m.l.length
theorem qA.rd(h:Has (qA K p m) w):∃a,axX K w p m a:=by
 obtain⟨F,hs⟩:=h.st
 obtain⟨a,hu,hs⟩:=qA.open hs
 exact⟨a,hu,hs.hb,Fp (St.has hs.p1),hs.p2.dX,hs.p3.dX,λ i s t h1 h2=>hs.p4.ahh h1 h2 (Φ:=λ w=>Has (lZ K s.b m.room t) w) λ h=>⟨_,h⟩,hs.p4.iP⟩
end
variable (w:World) (K:Value->World->Prop)
def S221(l0 i1 BU HJ:Value):Prop:=
 iA 82 l0 i1 λ a=>lA 164 a w λ b=>aL 164 w λ c d=>sA 164 c b d λ e=>fA 164 c 0 λ f=>lA 3 f e λ g=>bB .eql 3 g (i 1) λ h=>cV h (fA 164 c 1 λ j=>lA 3 j e λ k=>
 K (.tuple #[k,(i 0)]) e) (fA 164 c 0 λ l=>lA 3 l e λ n=>bB .eql 3 n (i 2) λ o=>cV o (fA 164 c 2 λ p=>lA 9 p e λ q=>cF 123 [BU,q] e λ r s=>iA 41 HJ r λ t=>
 lA 3 t s λ u=>K (.tuple #[u,(i 0)]) s) (bB .add 3 i1 (i 1) λ v=>cF 221 [l0,v,BU,HJ] e λ x y=>xT x 0 λ z=>xT x 1 λ aa=>bB .neq 31 aa (i 0) λ ab=>cV ab (
 K (.tuple #[(i 0),aa]) y) (fA 164 c 0 λ ac=>lA 3 ac y λ ad=>cF 273 [ad] y λ ae af=>bB .eql 3 ae (i 1) λ ag=>cV ag (fA 164 c 0 λ ah=>lA 3 ah af λ ai=>cF 274 [ai,z] af λ aj ak=>
 xT aj 0 λ al=>xT aj 1 λ am=>K (.tuple #[al,am]) ak) (bB .add 3 i1 (i 1) λ an=>cF 251 [l0,an] af λ ao ap=>cF 221 [l0,ao,BU,HJ] ap λ aq ar=>xT aq 0 λ asx=>
 xT aq 1 λ au=>bB .neq 31 au (i 0) λ av=>cV av (K (.tuple #[(i 0),au]) ar) (fA 164 c 0 λ aw=>lA 3 aw ar λ ax=>cF 275 [ax,z,asx] ar λ ay az=>xT ay 0 λ a0=>xT ay 1 λ a1=>
 K (.tuple #[a0,a1]) az)))))
theorem aee(l0 i1 BU HJ:Value)(h:S221 w K l0 i1 BU HJ):CR 221 [l0,i1,BU,HJ] w K:=
 qz 77 (λ _=>.nil) 768 [.tmp 8,.tmp 9] Tryz.func221 h
theorem agy:PL 146:=dF Tryz.func146
theorem ZS:PL 221:=dF Tryz.func221
end Go.Proofs.YtpdlpabnlkofmaaGreatDoor
namespace Go.Proofs.YtpdlpabnlkofmaaGreatDoor
open Go.Fw
theorem Ex.SC{t:Ex}(h:t.wf)(hk:kids t.root.op=0):t=.leaf t.root:=by
 have:=Ex.oL h
 cases t with
 | leaf x=>rfl
 | un x a=>rw[hk]at this;cases this
 | bin x a b=>rw[hk]at this;cases this
theorem Ex.agz{t:Ex}(h:t.wf)(hk:kids t.root.op=1):∃a,t=.un t.root a:=by
 have:=Ex.oL h
 cases t with
 | leaf x=>rw[hk]at this;cases this
 | un x a=>exact⟨a,rfl⟩
 | bin x a b=>rw[hk]at this;cases this
theorem Ex.ZT{t:Ex}(h:t.wf)(hk:kids t.root.op=2):∃a b,t=.bin t.root a b:=by
 have:=Ex.oL h
 cases t with
 | leaf x=>rw[hk]at this;cases this
 | un x a=>rw[hk]at this;cases this
 | bin x a b=>exact⟨a,b,rfl⟩
theorem aks{k:Int}(h:kids k=1):FW k=0:=by
 unfold kids at h;grind[FW]
theorem A5.Ng{xs:List bX}{i:Int}{t:Ex}(h:A5 xs i t){y:bX}(hy:y∈t.flat):y∈xs:=by
 obtain⟨_,_,r,h⟩:=h
 exact List.mem_of_mem_drop (show y∈xs.drop i.toNat by grind)
theorem C221(lv nv uv:Value)(xs:List bX)(ns:List ByteArray)(nums:List Int)(i:Int)(t:Ex)(N:Nat)(w:World)(hL:dC (λ _=>True) w lv xs)(hN:dC (λ _=>True) w nv ns)(hU:dC (λ _=>True) w uv nums)(hn:xs.length<=1048576)(A3:ns.length<=1048576)(hle:ns.length=nums.length)(ki:xV nums)(ZU:∀y∈xs,y.op=2->0<=cU ns y.name)(hio:∀y∈xs,eR y.n)(hT:A5 xs i t)(hNt:t.size<N) :
   CR 221 [lv,.int .i64 i,nv,uv] w (λ v w'=>v=.tuple #[.int .i64 (t.val ns nums).1,.int .i64 (t.val ns nums).2]/\Ext w w'):=by
 obtain⟨e,he⟩:∃e,e=t.root:=⟨_,rfl⟩;have hxe:xs[i.toNat]?=some e:=by rw[he];exact hT.root.1
 have hem:=List.mem_of_getElem? hxe;have hri:=hT.root.2;have hie:=hT.end;have Of:=Ex.oL hT.2.1;rw[<- he]at Of;have Wm:=tH e.op;have hi0:=hT.1;have hwf:=hT.2.1;have hs:=St.start w;refine aee _ _ _ _ _ _ ?_;unfold S221;refine aO gN (hL.ext hs.aF) (by omega) hxe (λ q hq=>aE rK hq (aM hs xw (λ b _ hs=>aJ (x:=e) hs rK rfl rfl (λ _ hs=>aA eU (aB bL hs.hb rfl (aH (aC (λ c1=>?_) (λ c1=>?_))))))))
 ·refine aA je (aB bL hs.hb rfl ?_);have ht:=Ex.SC hwf (by rw[<- he,c1];rfl);rw[ht,<- he];refine⟨?_,hs.drop.aF⟩;show _=Value.tuple #[.int .i64 (if e.op=2 then _ else e.n),.int .i64 0];rw[if_neg (by omega)]
 refine aA eU (aB bL hs.hb rfl (aH (aC (λ c2=>?_) (λ c2=>?_))))
 ·refine aA fY (aB gj hs.hb rfl (aT rD hs (C123 _ ns _ _ (hN.ext hs.aF) A3) (λ _ LQ hs=>?_)));obtain⟨j,hj,BA,_⟩:=lF (dH.1 (ZU e hem c2));have Dt:=(List.getElem?_eq_some_iff.1 BA).1;obtain⟨u,hu⟩:=gx nums (i:=(cU ns e.name).toNat) (by omega);refine aO cM (hU.ext hs.aF) (by omega) hu (λ q2 JH=>aE bL JH ?_);have ht:=Ex.SC hwf (by rw[<- he,c2];rfl);rw[ht,<- he];refine⟨?_,hs.drop.aF⟩;show _=Value.tuple #[.int .i64 (if e.op=2 then nums.getD (cU ns e.name).toNat 0 else e.n),.int .i64 0];rw[if_pos c2,List.getD_eq_getElem?_getD,hu];rfl
 have hk0:kids e.op=1\/kids e.op=2:=by
  have:kids e.op≠0:=λ h=>by unfold kids at h;split at h;omega;split at h;omega;split at h;omega;omega
  omega
 obtain⟨a,ha⟩:=gx t.eA (i:=0) (by omega);have hka:=Ex.tI hwf (List.mem_of_getElem? ha);have hAa:=hT.kid ha;have UE:=hAa.end;rw[show i+1+((qf t.eA 0:Nat):Int)=i+1 by simp[qf]]at hAa UE;refine aK (by omega) (aT ZS hs (C221 lv nv uv xs ns nums _ a (N-1) _ (hL.ext hs.aF) (hN.ext hs.aF) (hU.ext hs.aF) hn A3 hle ki ZU hio hAa (by omega)) (λ _ LQ hs=>aN rfl (aN rfl (bV (aC (λ c3=>?_) (λ c3=>?_))))))
 ·refine⟨?_,hs.drop.aF⟩
  rcases hk0 with h|h
  ·obtain⟨a2,ht⟩:=Ex.agz hwf (by rw[<- he];exact h);rw[ht]at ha |-;cases ha
   rw[Ex.Fh,if_neg c3]
  obtain⟨a2,b2,ht⟩:=Ex.ZT hwf (by rw[<- he];exact h);rw[ht]at ha |-;cases ha
  rw[Ex.AT,if_neg c3]
 have hao:=Ex.Qb (ns:=ns) ki a (λ y hy=>hio y (hAa.Ng hy));refine aA eU (aB bL hs.hb rfl (aT J5 hs (C273 _ _) (λ _ LQ hs=>aH (aC (λ c4=>?_) (λ c4=>?_)))))
 ·refine aA eU (aB bL hs.hb rfl (aT amr hs (C274 _ _ _) (λ _ LQ hs=>aN rfl (aN rfl ?_))));refine⟨?_,hs.drop.aF⟩;obtain⟨a2,ht⟩:=Ex.agz hwf (by rw[<- he];exact c4);rw[ht]at ha |-;cases ha
  rw[Ex.Fh,if_pos (Decidable.not_not.1 c3),<- he,aks c4]
 have vD:kids e.op=2:=by omega
 refine aK (by omega) (aT J3 hs (C251 _ _ _ (xs.length+1) _ (hL.ext hs.aF) (by omega) (by omega) (by omega)) (λ _ LQ hs=>?_));rw[UE.1];obtain⟨b',hb⟩:∃b,t.eA[1]?=some b:=⟨_,List.getElem?_eq_getElem (by omega)⟩;have hkb':=Ex.tI hwf (List.mem_of_getElem? hb);have hAb:=hT.kid hb;rw[uw ha,show i+1+((qf t.eA 0+a.size:Nat):Int)=i+1+(a.size:Int)by simp[qf]]at hAb;refine aT ZS hs (C221 lv nv uv xs ns nums _ b' (N-1) _ (hL.ext hs.aF) (hN.ext hs.aF) (hU.ext hs.aF) hn A3 hle ki ZU hio hAb (by omega)) (λ _ LQ hs=>aN rfl (aN rfl ?_));obtain⟨a2,b2,ht⟩:=Ex.ZT hwf (by rw[<- he];exact vD);rw[ht]at ha hb |-
 cases ha;cases hb
 rw[Ex.AT,if_pos (Decidable.not_not.1 c3),<- he];refine bV (aC (λ c5=>?_) (λ c5=>?_))
 ·refine⟨?_,hs.drop.aF⟩;rw[if_neg c5]
 have hbo:=Ex.Qb (ns:=ns) ki b' (λ y hy=>hio y (hAb.Ng hy));refine aA eU (aB bL hs.hb rfl (aT ams hs (C275 _ _ _ _ hao hbo) (λ _ LQ hs=>aN rfl (aN rfl ?_))));refine⟨?_,hs.drop.aF⟩;rw[if_pos (Decidable.not_not.1 c5)]
termination_by N
decreasing_by all_goals omega
theorem C146(lv nv uv:Value)(xs:List bX)(ns:List ByteArray)(nums:List Int)(w:World)(hL:dC (λ _=>True) w lv xs)(hN:dC (λ _=>True) w nv ns)(hU:dC (λ _=>True) w uv nums)(hn:xs.length<=1048576)(A3:ns.length<=1048576)(Rd:∀x∈xs,x.name.size<=1048576)(ki:xV nums) :
  CR 146 [lv,nv,uv] w (λ v w'=>v=.tuple #[.int .i64 (pA ns nums xs).1,.int .i64 (pA ns nums xs).2]/\Ext w w'):=by
 have hs:=St.start w;refine eS Tryz.func146 ?_;refine aI ik hN (aI cM hU (bV (aC (λ c1=>?_) (λ c1=>?_))))
 ·have hv:pA ns nums xs=(0,1):=by unfold pA;rw[if_neg (by omega)]
  rw[hv];exact⟨rfl,hs.aF⟩
 refine dN amc (C220 _ _ xs ns _ hL hN hn A3 Rd) ?_;rintro _ _ ⟨s,rfl,cO⟩;have hs:=(hs.made cO).drop;refine aN rfl (aN rfl (bV (aC (λ c2=>?_) (λ c2=>?_))))
 ·have hv:pA ns nums xs=(0,kH ns xs):=by unfold pA;rw[if_pos (by omega),if_neg c2]
  rw[hv];exact⟨rfl,hs.aF⟩
 have hme:kH ns xs=0:=Decidable.not_not.1 c2;obtain⟨t,hT,hv,ZU,hio⟩:=Ui (nums:=nums) hme (by omega);refine aT ZS hs (C221 lv nv uv xs ns nums _ t (t.size+1) _ (hL.ext hs.aF) (hN.ext hs.aF) (hU.ext hs.aF) hn A3 (by omega) ki ZU hio hT (by omega)) (λ _ he hs=>aN rfl (aN rfl ?_));rw[hv];exact⟨rfl,hs.aF⟩
theorem Bk.axY{L:List bN}{k:Nat}{x:bN}{a c r:Bk}(h:L.drop k=(Bk.cons x a c r).flat)(hs:(Bk.cons x a c r).str){i j e:Int}(hi:i=k+1)(hj:j=k+1+x.body)(he:e=k+1+x.body+x.eo) :
  L[k]?=some x/\(L.take j.toNat).drop i.toNat=a.flat/\(L.take e.toNat).drop j.toNat=c.flat/\L.drop e.toNat=r.flat/\e.toNat<=L.length:=by
 obtain⟨g1,g2,_⟩:=hs
 have la:=a.cY
 have lc:=c.cY
 have h1:L.drop (k+1)=a.flat++(c.flat++r.flat):=by rw[<- List.drop_drop,h];rfl
 have h2:L.drop (k+1+a.flat.length)=c.flat++r.flat:=by rw[<- List.drop_drop,h1,List.drop_left]
 have h3:L.drop (k+1+a.flat.length+c.flat.length)=r.flat:=by rw[<- List.drop_drop,h2,List.drop_left]
 have hl:=congrArg List.length h
 have hf:(Bk.cons x a c r).flat.length=1+(a.flat.length+(c.flat.length+r.flat.length)):=by simp[Bk.flat];omega
 rw[hf,List.length_drop]at hl
 have ei:i.toNat=k+1:=by omega
 have ej:j.toNat=k+1+a.flat.length:=by omega
 have ee:e.toNat=k+1+a.flat.length+c.flat.length:=by omega
 refine⟨?_,?_,?_,by grind,by omega⟩
 ·have:(L.drop k)[0]?=some x:=by rw[h];rfl
  grind
 ·rw[List.drop_take,ei,ej,h1,show k+1+a.flat.length-(k+1)=a.flat.length by omega,List.take_left]
 rw[List.drop_take,ej,ee,h2,show k+1+a.flat.length+c.flat.length-(k+1+a.flat.length)=c.flat.length by omega,List.take_left]
theorem C128(K:World->Prop)(sv:SV)(rows:List aZ)(b:Bk)(w:World)(hw:∀w',Ext w w'->K w')(hb:b.str)(UF:∀w,qR K sv rows b.flat w)(GH:b.flat.length<=100000) :
   CR 128 [Flat.val sv] w (λ v w'=>∃ds,kR K ds (Di false b)/\lL (bG v ds) w w'):=by
 have hs:=St.start w;refine ad0 _ _ _ ?_;unfold S128;have Ct:∀w',K w'->dC (λ _=>True) w' (Flat.val sv) rows:=λ w' h=>(UF w').2 h;have yu:∀w',K w'->jh rows b.flat w':=λ w' h=>(UF w').1 w' h;have F4:rows.length=b.flat.length:=(yu _ (hw _ (Ext.refl _))).1;refine aX (([]:List o0)) hs nq rfl rfl (dI rfl) (λ s8 w1 hs=>?_);refine⟨λ mm o y w'=>∃(k:Nat) (ds:List o0) (qs:List Dq) (r:Bk),y=.int .i64 (k:Int)/\mm=b.flat.length-k/\r.str/\b.flat.drop k=r.flat/\Di false b=qs++Di false r/\kR K ds qs/\ds.length<=k/\k<=b.flat.length/\St w aY [bG o ds] w',⟨_,0,[],[],b,rfl,rfl,hb,rfl,rfl,kR.nil,Nat.le_refl _,Nat.zero_le _,hs⟩,?_⟩
 rintro mm o _ _ ⟨k,ds,qs,r,rfl,rfl,hr,O0,FR,ZV,JF,hk,hs⟩ _;refine aI fo (Ct _ (hw _ hs.aF)) (aQ (aC (λ c=>?_) (λ c=>?_)));rotate_left
 ·have h0:r.flat.length=0:=by rw[<- O0,List.length_drop];omega
  have hrn:r=.nil:=by
   cases r with
   | nil=>rfl
   | cons _ _ _ _=>simp[Bk.flat]at h0
  subst hrn;exact⟨ds,by rw[FR];show kR K ds (qs++[]);rw[List.append_nil];exact ZV,hs.fresh⟩
 obtain⟨x,a,c',r',rfl⟩:=Bk.C1 (t:=r) (by rw[<- O0,List.length_drop];omega);obtain⟨g1,g2,g3,g4,sa,sc,sr⟩:=id hr;obtain⟨e1,e2,e3,e4,e5⟩:=Bk.axY O0 hr (i:=(k:Int)+1) (j:=(k:Int)+1+x.body) (e:=(k:Int)+1+x.body+x.eo) rfl rfl rfl;obtain⟨t0,TN⟩:∃t0,rows[k]?=some t0:=⟨_,List.getElem?_eq_getElem (by have:=(List.getElem?_eq_some_iff.1 e1).1;omega)⟩;have hxd:∀w',K w'->Deep.dr w' t0 x:=λ w' h=>(yu w' h).2 k t0 x TN e1;obtain⟨ge,gf,rfl,_,_⟩:=iV (hxd _ (hw _ hs.aF));refine aO fo (Ct _ (hw _ hs.aF)) (by omega) (by rw[Int.toNat_natCast];exact TN) (λ q hq=>aE eI hq (aM hs jq (λ b5 _ hs=>aJ (x:=(⟨x.kind,x.eC,x.name,ge,gf,x.n,x.body,x.eo,x.at_⟩:aZ)) hs eI rfl rfl (λ _ hs=>aK (by omega) (aA iO (aB (v:=.int .i64 x.body) bL hs.hb rfl (aK (by omega) (aA iw (aB (v:=.int .i64 x.eo) bL hs.hb rfl (aK (by omega) (have hs:=hs.drew;aE (x:=(⟨x.kind,x.eC,x.name,ge,gf,x.n,x.body,x.eo,x.at_⟩:aZ)) eI hs.At (aK (by omega) ?_))))))))))))
 refine od fo (Ct _ (hw _ hs.aF)) (by omega) (by omega) (by omega) (λ s32 h32=>?_);obtain⟨v32,rfl⟩:=(h32 _ (Ct _ (hw _ hs.aF))).fC;refine od fo (Ct _ (hw _ hs.aF)) (by omega) (by omega) (by omega) (λ s36 h36=>?_);obtain⟨v36,rfl⟩:=(h36 _ (Ct _ (hw _ hs.aF))).fC;refine pop (Jv x.kind x.eC x.name ge.a ge.n ge.cap gf.a gf.n gf.cap x.n x.body x.eo x.at_ v32.a v32.n v32.cap v36.a v36.n v36.cap) (aX (([⟨(⟨x.kind,x.eC,x.name,ge,gf,x.n,x.body,x.eo,x.at_⟩:aZ),v32,v36,false⟩]:List o0)) hs nq rfl rfl (dI rfl) (λ s38 _ hs=>?_));have axZ:=(hs).dX;refine bI hs.p2 nq axZ (by rw[List.length_singleton];omega) (by decide) (λ s39 _ hs=>⟨_,?_,((k:Int)+1+x.body+x.eo).toNat,ds++[⟨(⟨x.kind,x.eC,x.name,ge,gf,x.n,x.body,x.eo,x.at_⟩:aZ),v32,v36,false⟩],qs++[(x,a,c',false)],r',congrArg (Value.int .i64) (by omega),rfl,sr,e4,by rw[FR];simp[Di],ZV.append (kR.cons ⟨hxd,⟨_,λ w1=>⟨λ w' h=>?_,λ h=>h32 w1 (Ct w1 h)⟩⟩,⟨_,λ w1=>⟨λ w' h=>?_,λ h=>h36 w1 (Ct w1 h)⟩⟩,rfl⟩ kR.nil),?_,e5,((hs.p1.drop).p1.drop)⟩)
 ·omega
 ·have:=jh.cut (i:=((k:Int)+1).toNat) (j:=((k:Int)+1+x.body).toNat) (yu w' h);rw[e2]at this;exact this
 ·have:=jh.cut (i:=((k:Int)+1+x.body).toNat) (j:=((k:Int)+1+x.body+x.eo).toNat) (yu w' h);rw[e3]at this;exact this
 rw[List.length_append,List.length_singleton];omega
theorem C203(p:Nat)(t:jP)(Qh:Value)(nv:SV)(rg:Value)(bp:Nat)(lv:Value)(xs:List bX)(w:World)(su:ng w p (xP Qh nv rg bp t.fault))(Rd:dC (λ _=>True) w (Flat.val nv) t.names)(CG:dC (λ _=>True) w rg t.dL)(hL:dC (λ _=>True) w lv xs)
  (hn:xs.length<=1048576) (A3:t.names.length<=1048576) (hnz:∀x∈xs,x.name.size<=1000) (ki:xV t.dL):CR 203 [.pointer (some ⟨p,0,none⟩),lv] w (λ v w'=>v=.tuple #[.int .i64 (eF t xs).1,.bool (eF t xs).2]/\Ext w w'):=by
 have ct1:=su.cell (o:=1) rfl;have ct2:=su.cell (o:=2) rfl;have hs:=St.start w;refine oY Tryz.func203 (pl:=axL) ?_;refine aI gN hL (aH (aC (λ c=>?_) (λ c=>?_)))
 ·have hv:eF t xs=(0,true):=by unfold eF;rw[if_pos (by omega)]
  rw[hv];exact⟨rfl,hs.aF⟩
 have hv:eF t xs=((pA t.names t.dL xs).1,decide ((pA t.names t.dL xs).2=0)):=by unfold eF;rw[if_neg (by omega)]
 have hs:=hs.drew;refine aD (aA Ko (bM iZ (ct1.ext hs.aF) (aD (aA Kp (bM eg (ct2.ext hs.aF) (aT agy hs (C146 _ _ _ xs t.names t.dL _ (hL.ext hs.aF) (Rd.ext hs.aF) (CG.ext hs.aF) hn A3 (λ x h=>Nat.le_trans (hnz x h) (by decide)) ki) (λ _ he hs=>aN rfl (aN rfl (aH ?_)))))))));rw[hv];exact⟨rfl,hs.aF⟩
theorem C204(K:World->Prop)(p:Nat)(room:Int)(t:jP)(F:Nat->Prop)(s:ByteArray)(n:Int)(w:World)(hF:(lZ K p room t).p w F)(hK:∀w',gq F w w'->K w')(CG:0<=cU t.names s)(F4:t.dL.length=t.names.length)(YA:t.names.length<=1000) :
   CR 204 [.pointer (some ⟨p,0,none⟩),.string s,.int .i64 n] w (λ v w'=>v=.tuple #[]/\mL F (lZ K p room (oR t s n)) w w'):=by
 obtain⟨j,hj,BA,_⟩:=lF (dH.1 CG);have Dt:=(List.getElem?_eq_some_iff.1 BA).1;have hs:=St.begin hF;refine eS Tryz.func204 ?_;obtain⟨bp,nv,rg,Qh,ds,hk,hs⟩:=lZ.open hs;exact aD (aA Ko (aB iZ hs.hb rfl (aT rD hs (C123 _ t.names s _ (hk.1 _ (hK _ hs.aF)) (by omega)) (λ _ _ hs=>aD (aA Kp (aB eg hs.hb rfl (dM hs.p2 cM (by omega) (by omega) (λ _ h=>jm (n:Int) hs.p2 bL h (by omega) (λ _ hs=>have hs:=lZ.shut (t:=oR t s n) hk hs.p3.p1.p3.p3;⟨rfl,hs.mut⟩)))))))))
theorem C171(K:World->Prop)(p:Nat)(room:Int)(t:jP)(F:Nat->Prop)(lv:Value)(es:List o0)(qs rest:List Dq)(q0:Dq)(p2:PD)(w:World)(hF:(lZ K p room t).p w F)(hK:∀w',gq F w w'->K w')(hL:∀w',gq F w w'->dC (λ _=>True) w' lv es)(UD:kR K es qs)(sS:vM t.cD=q0::rest)(hp2:vM p2=qs++rest)(LQ:Fj p2)(KB:es.length<=100000)(F4:rest.length<=100000) :
   CR 171 [.pointer (some ⟨p,0,none⟩),lv] w (λ v w'=>v=.tuple #[]/\mL F (lZ K p room {t with cD:=p2}) w w'):=by
 have hs:=St.begin hF;refine eS Tryz.func171 ?_;obtain⟨bp,nv,rg,Qh,ds,hk,hs⟩:=lZ.open hs;have vD:=hk.2.1;rw[sS]at vD;obtain⟨d0,pJ,rfl,_,hds⟩:=vD.head;have JF:=hds.1;refine aX (([]:List o0)) hs nq rfl rfl (dI rfl) (λ s5 _ hs=>bI hs nq (hL _ hs.aF) (by simp;omega) (by decide) (λ s7 _ hs=>aD (aA ky (aB ug hs.p1.hb rfl (Bi nq (hs.p4).fk (by omega) (by rw[List.length_cons];omega) (λ s13 h13=>bI hs nq h13 (by simp;omega) (by decide) (λ s14 _ hs=>aD (aA ky (aS hs.p1 ug (dI rfl) ((hs).dX.one) (λ _ hs=>?_))))))))));have hs:=(((hs.p4.drop.p1.freeze).p3).p3).p3
 have e:([]++es++(d0::pJ).drop (1:Int).toNat)=es++pJ:=rfl;rw[e]at hs;have hk3:RTK K nv (es++pJ) {t with cD:=p2}:=⟨hk.1,by rw[hp2];exact UD.append hds,LQ⟩;exact⟨rfl,(lZ.shut (t:={t with cD:=p2}) hk3 hs).mut⟩
theorem BV{b:Bk}{n:Nat}(h:b.len<=n):∀{e:Bool},(Di e b).length<=n:=by
 intro e
 have:∀(b:Bk) (e:Bool),(Di e b).length<=b.len:=by
  intro b
  induction b with
  | nil=>intro e;exact Nat.zero_le _
  | cons x a c r _ _ ih=>intro e;have:=ih false;simp only[Di,List.length_cons,Bk.len];omega
 grind
theorem C129(K:World->Prop)(p:Nat)(room:Int)(t tR:jP)(n:Nat)(cs ls:List ByteArray)(F:Nat->Prop)(w:World)(hF:(lZ K p room t).p w F)(hK:∀w',gq F w w'->K w')(ki:xI cs ls t)(hto:A7 t)(hg:sO n t=some tR) :
   CR 129 [.pointer (some ⟨p,0,none⟩)] w (λ v w'=>v=.tuple #[]/\mL F (lZ K p room tR) w w'):=by
 have hs:=St.begin hF;refine ad1 _ _ _ ?_;unfold S129;refine⟨λ mm w'=>∃t1:jP,sO mm t1=some tR/\xI cs ls t1/\A7 t1/\St w F [lZ K p room t1] w',⟨n,t,hg,ki,hto,hs⟩,?_⟩;rintro mm w1 ⟨t1,A6,wX,akt,hs⟩ _;obtain⟨k,rfl⟩:=Hf A6;have Ew:=wX.cl;have YA:=wX.nb;have F4:=wX.rl;have hfc:=Fk t1.cD;obtain⟨bp,nv,rg,Qh,ds,hk,hs⟩:=lZ.open hs;have JF:=hk.2.1.1;refine aD (aA ky (aB ug hs.hb rfl (aI nq (hs.p3).fk (cP (aC (λ c0=>?_) (λ c0=>?_))))));rotate_left
 ·have eD:oQ t1.cD=none:=by
   cases h:oQ t1.cD with
   | none=>rfl
   | some q=>obtain⟨x,a,b⟩:=q;obtain⟨e,h2⟩:=AU h;rw[h2,List.length_cons]at JF;omega
  rw[oS A6 (Yt eD)];exact⟨rfl,(lZ.shut hk hs).mut⟩
 obtain⟨x,a,b,BM⟩:∃x a b,oQ t1.cD=some (x,a,b):=by
  cases h:oQ t1.cD with
  | none=>have h2:=Hd wX.p h;have h3:(vM t1.cD).length=0:=(by rw[h2];rfl);omega
  | some q=>exact⟨q.1,q.2.1,q.2.2,rfl⟩
 obtain⟨en,sS⟩:=AU BM;have Qi:(vM (gn t1.cD)).length<=100000:=by rw[sS,List.length_cons]at hfc;omega
 have vD:=hk.2.1;rw[sS]at vD;obtain⟨d0,pJ,rfl,yu,hds⟩:=vD.head;have hKn:K w1:=hK _ hs.aF;obtain⟨dx,db,de,dn⟩:=d0;obtain⟨ge,gf,rfl,_,_⟩:=iV (yu.x _ hKn);have zB:∀w,K w->Deep.dr w (⟨x.kind,x.eC,x.name,ge,gf,x.n,x.body,x.eo,x.at_⟩:aZ) x:=yu.x
 have Pj:∀w,K w->dC (λ _=>True) w (Flat.val ge) x.e/\dC (λ _=>True) w (Flat.val gf) x.f:=λ w hw=>by
  obtain⟨_,_,h4,h5,h6⟩:=iV (zB w hw);cases h4
  exact⟨h5,h6⟩
 obtain⟨ra,hda⟩:=yu.a;obtain⟨rb,Tf⟩:=yu.b;obtain⟨hx,sa,sb,aa,ab,JE,hb2,Tg,r,e,p',A0,sr,ar⟩:=wX.top BM;have iL:(Bk.cons x a b r).str:=wX.p.st _ (by rw[A0];exact List.mem_cons_self ..);have GH:b.len<=40:=iL.2.2.2.1;have hxe:=hx.e;have hxn:=hx.nm;refine aD (aA ky (aB ug hs.hb rfl (aO nq (hs.p3).fk (by omega) rfl (λ q hq=>aE Ks hq (aM hs QW (λ b2 _ hs=>aJ (x:=(⟨⟨x.kind,x.eC,x.name,ge,gf,x.n,x.body,x.eo,x.at_⟩,db,de,dn⟩:o0)) hs Ks rfl rfl (λ _ hs=>aA oF (aA iN (aB (v:=Flat.val ge) jo hs.hb rfl (aT Na hs (C203 p t1 Qh nv rg bp _ x.e _ hs.p1.hb (hk.1 _ (hK _ hs.aF)) (hs.p3).dX (Pj _ (hK _ hs.aF)).1 (by omega) (by omega) hxn.1 akt.r) (λ _ he hs=>aN rfl (aN rfl ?_))))))))))))
 refine aA oF (aA jU (aB (v:=Flat.val gf) jo hs.hb rfl (aT Na hs (C203 p t1 Qh nv rg bp _ x.f _ hs.p1.hb (hk.1 _ (hK _ hs.aF)) (hs.p3).dX (Pj _ (hK _ hs.aF)).2 (by omega) (by omega) hxn.2 akt.r) (λ w5 he hs=>aN rfl (aN rfl ?_)))));refine⟨λ jv w'=>jv=.bool (!((eF t1 x.e).2&&(eF t1 x.f).2))/\w'=w5,?_,?_⟩
 ·exact bQ (aW (λ c=>⟨vb (by rw[Bool.not_eq_true']at c;rw[c];rfl),rfl⟩) (λ c=>bQ ⟨vb (by rw[Bool.not_eq_false']at c;rw[c];rfl),rfl⟩))
 rintro _ w6 ⟨rfl,rfl⟩ _;refine aW (λ c1=>?_) (λ c1=>?_)
 ·refine aD (aA wi (aS hs.p1 bL (dI rfl) rfl (λ w7 hs=>?_)))
  have SX:qt t1=({t1 with fault:=2},false):=by
   cases h1:(eF t1 x.e).2 with
   | false=>exact Yu BM h1
   | true=>exact Yv BM (by rw[h1]at c1;simpa using c1)
  rw[oS A6 SX];have hs:=(hs.p1).drop;exact⟨rfl,(lZ.shut (t:={t1 with fault:=2}) hk hs).mut⟩
 have Tx:(eF t1 x.e).2=true/\(eF t1 x.f).2=true:=by simpa using c1
 have hgk:=Yw BM Tx.1 Tx.2
 have vI:∀(t2:jP) (w':World),qq t1 x a b (eF t1 x.e).1=(t2,true)->St w F [lZ K p room t2,bY b2 (Flat.enc (⟨⟨x.kind,x.eC,x.name,ge,gf,x.n,x.body,x.eo,x.at_⟩,db,de,dn⟩:o0))] w'->∃m',m'<k+1/\∃t1:jP,sO m' t1=some tR/\xI cs ls t1/\A7 t1/\St w F [lZ K p room t1] w':=λ t2 w' h3 h4=>by
  have h5:=hgk.trans h3;obtain⟨h6,h7,_⟩:=C8 wX;have h8:=akt.goS;rw[h5]at h6 h7 h8;exact⟨k,Nat.lt_succ_self k,t2,RW A6 h5,h6,h8,(h4.p1).drop⟩
 have CE:=hk.2.2.pop;refine aA oF (aA dJ (aB (v:=.int .i64 x.kind) bL hs.hb rfl (aH (aC (λ k1=>?_) (λ k1=>?_)))))
 ·refine aA oF (aA iv (aB (v:=.string x.eC) gj hs.hb rfl (have hs:=lZ.shut (t:=t1) hk hs.p4.p4.p4.p4;bD agu hs (H':=λ _=>lZ K p room (oR t1 x.eC (eF t1 x.e).1)) (Φ:=λ _ _=>True) (λ F2 dY dW=>?_) ?_)))
  ·exact(C204 K p room t1 F2 x.eC _ _ dY (λ w' hc=>hK w' (dW w' hc).aF) (hx.rg (.inl k1)) F4 YA).mono λ _ _ r=>r.mono λ _ _ h=>⟨trivial,h.2⟩
  rintro _ w8 _ hs;refine bD HE hs (H':=λ _=>lZ K p room {oR t1 x.eC (eF t1 x.e).1 with cD:=(gn t1.cD)}) (Φ:=λ _ _=>True) (λ F2 dY dW=>?_) ?_
  ·exact(C171 K p room (oR t1 x.eC (eF t1 x.e).1) F2 (.slice none 0 0) [] [] _ _ (gn t1.cD) _ dY (λ w' hc=>hK w' (dW w' hc).aF) (λ _ _=>dC.nil _ _) kR.nil sS rfl CE (Nat.zero_le _) Qi).mono λ _ _ r=>r.mono λ _ _ h=>⟨trivial,h.2⟩
  rintro _ w9 _ hs;exact vI _ _ (Ys k1) hs
 refine aH (aC (λ k2=>?_) (λ k2=>?_))
 ·refine bV (aC (λ c=>?_) (λ c=>?_))
  ·refine aA Ku (aB (v:=Flat.val db) jF hs.hb rfl (have hs:=lZ.shut (t:=t1) hk hs.p4.p4.p4.p4;dN M9 (C128 K db _ a _ (λ _ e=>hK _ (hs.aF.then e)) sa hda (by have:=Bk.cY a;omega)) ?_));rintro s20 w8 ⟨ZW,ZX,cO⟩;have hs:=hs.made cO;have ax2:ZW.length<=40:=by have:=ZX.1;have:=BV (b:=a) (n:=40) (by omega) (e:=false);omega
   have hs:=hs.p1;refine bD HE hs (H':=λ _=>lZ K p room {t1 with cD:=(jl a false (gn t1.cD))}) (Φ:=λ _ _=>True) (λ F2 dY dW=>?_) ?_
   ·exact(C171 K p room (t1) F2 s20 ZW (Di false a) _ _ (jl a false (gn t1.cD)) _ dY (λ w' hc=>hK w' (dW w' hc).aF) (λ w' hc=>(dW w' hc).dX) ZX sS uO CE.push (by omega) Qi).mono λ _ _ r=>r.mono λ _ _ h=>⟨trivial,h.2⟩
   rintro _ w9 _ hs;exact vI _ _ (by rw[I4 k2,if_neg c]) (hs.p1).drop
  refine aA VH (aB (v:=Flat.val de) jF hs.hb rfl (have hs:=lZ.shut (t:=t1) hk hs.p4.p4.p4.p4;dN M9 (C128 K de _ b _ (λ _ e=>hK _ (hs.aF.then e)) sb Tf (by have:=Bk.cY b;omega)) ?_));rintro s20 w8 ⟨ZW,ZX,cO⟩;have hs:=hs.made cO;have ax2:ZW.length<=40:=by have:=ZX.1;have:=BV (b:=b) (n:=40) (by omega) (e:=false);omega
  have hs:=hs.p1;refine bD HE hs (H':=λ _=>lZ K p room {t1 with cD:=(jl b false (gn t1.cD))}) (Φ:=λ _ _=>True) (λ F2 dY dW=>?_) ?_
  ·exact(C171 K p room (t1) F2 s20 ZW (Di false b) _ _ (jl b false (gn t1.cD)) _ dY (λ w' hc=>hK w' (dW w' hc).aF) (λ w' hc=>(dW w' hc).dX) ZX sS uO CE.push (by omega) Qi).mono λ _ _ r=>r.mono λ _ _ h=>⟨trivial,h.2⟩
  rintro _ w9 _ hs;exact vI _ _ (by rw[I4 k2,if_pos (Decidable.not_not.1 c)]) (hs.p1).drop
 refine aH (aC (λ k3=>?_) (λ k3=>?_))
 ·have hxn0:=hx.n k3
  have Yi:b=.nil:=by
   have h1:b.len=0:=by have:=hx.el (by omega);omega
   cases b with
   | nil=>rfl
   | cons _ _ _ _=>simp[Bk.len]at h1
  refine aX (([]:List o0)) hs nq rfl rfl (dI rfl) (λ s76 _ hs=>?_);refine⟨λ lv7 w'=>∃(es7:List o0) (qs7:List Dq),kR K es7 qs7/\es7.length<=41/\vM (mz x a t1.cD)=qs7++vM (gn t1.cD)/\St w F [bG lv7 es7,bY b2 (Flat.enc (⟨⟨x.kind,x.eC,x.name,ge,gf,x.n,x.body,x.eo,x.at_⟩,db,de,dn⟩:o0)),bY p (xP Qh nv rg bp t1.fault),ja bp room t1.buf,bG rg t1.dL,fk (λ w=>dC (λ _=>True) w Qh ((⟨⟨x.kind,x.eC,x.name,ge,gf,x.n,x.body,x.eo,x.at_⟩,db,de,dn⟩:o0)::pJ))] w',?_,?_⟩
  ·refine aA oF (aA jG (aB (v:=.int .i64 x.n) bL hs.p1.hb rfl (cP (aC (λ c=>?_) (λ c=>?_)))));rotate_left
   ·exact⟨[],[],kR.nil,Nat.zero_le _,by unfold mz;rw[if_pos (by omega)];rfl,hs⟩
   refine aE (x:=(⟨⟨x.kind,x.eC,x.name,ge,gf,x.n,x.body,x.eo,x.at_⟩,db,de,dn⟩:o0)) Ks hs.p1.At (aM hs QW (λ b8 w15 hs=>aJ (x:=(⟨⟨x.kind,x.eC,x.name,ge,gf,x.n,x.body,x.eo,x.at_⟩,db,de,dn⟩:o0)) hs Ks rfl rfl (λ w16 hs=>aA oF (aA jG (aB (v:=.int .i64 x.n) bL hs.p2.hb rfl (fe (by omega) (aA oF (aA jG (aS hs bL (dI rfl) rfl (λ _ hs=>aA Kv (aS hs zQ (dI rfl) rfl (λ _ hs=>have hs:=hs.enc (cs':=Flat.enc (⟨⟨x.kind,x.eC,x.name,ge,gf,x.n-1,x.body,x.eo,x.at_⟩,db,de,true⟩:o0)) rfl;aA Ku ?_))))))))))))
   refine aB (v:=Flat.val db) jF hs.p2.hb rfl (dN M9 (C128 K db _ a _ (λ _ e=>hK _ (hs.aF.then e)) sa hda (by have:=Bk.cY a;omega)) ?_);rintro s92 _ ⟨ax4,ara,cO⟩;have hs:=hs.made cO;have s92l:ax4.length<=40:=by have:=ara.1;have:=BV (b:=a) (n:=40) (by omega) (e:=false);omega
   have ax5:=(hs).dX;refine bI hs.p2 nq ax5 (by simp;omega) (by decide) (λ s93 _ hs=>aE (x:=(⟨⟨x.kind,x.eC,x.name,ge,gf,x.n-1,x.body,x.eo,x.at_⟩,db,de,true⟩:o0)) Ks hs.p2.At (aX (([(⟨⟨x.kind,x.eC,x.name,ge,gf,x.n-1,x.body,x.eo,x.at_⟩,db,de,true⟩:o0)]:List o0)) hs nq rfl rfl (dI rfl) (λ s96 _ hs=>?_)));have ax6:=(hs).dX;refine bI hs.p1 nq ax6 (by simp;omega) (by decide) (λ s97 _ hs=>have hs:=(((hs.p1.drop.p1).drop).p1).drop;⟨_,Di false a++[({x with n:=x.n-1},a,.nil,true)],(kR.append (kR.append kR.nil ara) (kR.cons (d:=(⟨⟨x.kind,x.eC,x.name,ge,gf,x.n-1,x.body,x.eo,x.at_⟩,db,de,true⟩:o0)) (q:=({x with n:=x.n-1},a,.nil,true)) ⟨λ w hw=>?_,⟨ra,hda⟩,⟨rb,by rw[<- Yi];exact Tf⟩,rfl⟩ kR.nil)),by simp;omega,?_,hs⟩)
   ·obtain⟨_,_,h4,h5,h6⟩:=zB w hw;cases h4
    exact⟨ge,gf,rfl,h5,h6⟩
   rw[Uj (by omega)];simp
  rintro lv7 _ ⟨es7,qs7,h71,h72,h73,hs⟩ _;have hs:=((lZ.shut (t:=t1) hk hs.p5.p5.p5.p5).p1).p1;refine bD HE hs (H':=λ _=>lZ K p room {t1 with cD:=(mz x a t1.cD)}) (Φ:=λ _ _=>True) (λ F2 dY dW=>?_) ?_
  ·exact(C171 K p room (t1) F2 lv7 es7 qs7 _ _ (mz x a t1.cD) _ dY (λ w' hc=>hK w' (dW w' hc).aF) (λ w' hc=>(dW w' hc).dX) h71 sS h73 hk.2.2.round (by omega) Qi).mono λ _ _ r=>r.mono λ _ _ h=>⟨trivial,h.2⟩
  rintro _ _ _ hs;exact vI _ _ (RY k3) (hs.p1).drop
 refine aH (aC (λ k4=>?_) (λ k4=>?_))
 ·obtain⟨D,hD⟩:∃D,D=(⟨⟨x.kind,x.eC,x.name,ge,gf,x.n,x.body,x.eo,x.at_⟩,db,de,dn⟩:o0)::pJ:=⟨_,rfl⟩;have hDK:kR K D (vM t1.cD):=by rw[hD];exact hk.2.1
  have hDl:D.length=(vM t1.cD).length:=hDK.1;rw[<- hD]at hs;refine⟨λ mm y w'=>∃j:Nat,y=.int .i64 (j:Int)/\mm=D.length-j/\j<=D.length/\(∀(i:Nat) (q:Dq),i<j->(vM t1.cD)[i]?=some q->q.2.2.2=false)/\w'=w6,⟨_,0,rfl,rfl,Nat.zero_le _,λ _ _ h=>absurd h (Nat.not_lt_zero _),rfl⟩,?_⟩;rintro mm _ w7 ⟨j,rfl,rfl,hj,hjn,rfl⟩ _;refine⟨λ jv w'=>jv=.bool (match D[j]? with|some d=>!d.in_|none=>false)/\w'=w7,?_,?_⟩
  ·refine aD (aA ky (aB ug hs.p1.hb rfl (aI nq (hs.p4).fk (aQ (aC (λ c=>?_) (λ c=>⟨vb (by rw[List.getElem?_eq_none (by omega)]),rfl⟩))))));obtain⟨d,hd⟩:=gx D (i:=((j:Nat):Int).toNat) (by omega);refine aD (aA ky (aB ug hs.p1.hb rfl (aO nq (hs.p4).fk (by omega) hd (λ q hq=>bW d.in_ Kv hq rfl rfl (λ q2 JH=>aE zQ JH (bQ ?_))))));rw[Int.toNat_natCast]at hd;exact⟨vb (by rw[hd]),rfl⟩
  rintro _ w8 ⟨rfl,rfl⟩ _;refine aW (λ c=>?_) (λ c=>?_)
  ·have Dt:j<D.length:=by
    rcases Nat.lt_or_ge j D.length with h|h
    ·exact h
    ·rw[List.getElem?_eq_none h]at c;cases c
   refine aK (by omega) ?_;refine⟨_,by omega,j+1,rfl,rfl,by omega,λ i q hi hq=>?_,rfl⟩
   by_cases e:i=j
   ·subst e;rw[List.getElem?_eq_getElem Dt]at c;have:=(hDK.2 i _ q (List.getElem?_eq_getElem Dt) hq).e;rw[<- this];simpa using c
   exact hjn i q (by omega) hq
  have hdi:tW (vM t1.cD)=(vM t1.cD).drop (j+1):=HD _ j hjn (λ q hq=>by
   have Dt:j<D.length:=by have:=(List.getElem?_eq_some_iff.1 hq).1;omega
   rw[List.getElem?_eq_getElem Dt]at c;have:=(hDK.2 j _ q (List.getElem?_eq_getElem Dt) hq).e;rw[<- this];simpa using c) (by omega)
  have hs:=hs.drew;refine aD (aA ky (aB ug hs.p1.hb rfl (aK (by omega) (aD (aA ky (aB ug hs.p1.hb rfl (aI nq (hs.p4).fk (qY (yM nq (hs.p4).fk (by omega) (by omega) (λ ax7 arb=>?_))))))))));have arc:=arb _ (hs.p4).fk;refine aD (aA ky (aS hs.p1 ug (dI rfl) arc.one (λ _ hs=>?_)));have hs:=hs.p4.dU (Ψ:=λ w=>dC (λ _=>True) w ax7 (D.drop (min ((j:Int)+1) (D.length:Int)).toNat)) (λ w h=>arb w h)
  have ed:D.drop (min ((j:Int)+1) (D.length:Int)).toNat=D.drop (j+1):=by
   rcases Nat.lt_or_ge j D.length with h|h
   ·congr 1;omega
   ·rw[List.drop_eq_nil_of_le (by omega),List.drop_eq_nil_of_le (by omega)]
  rw[ed]at hs;have hk9:RTK K nv (D.drop (j+1)) {t1 with cD:=kc t1.cD}:=⟨hk.1,by show kR K _ (vM (kc t1.cD));rw[HC hk.2.2,hdi];exact hDK.drop _,hk.2.2.leave⟩;have hs:=((lZ.shut (t:={t1 with cD:=kc t1.cD}) hk9 hs.p4.p4.p3).p1).p1;exact vI _ _ (RZ k4) hs
 refine aH (aC (λ k5=>?_) (λ k5=>?_))
 ·refine aH (aC (λ c=>?_) (λ c=>?_))
  ·refine aD (aA wi (aS hs.p1 bL (dI rfl) rfl (λ w15 hs=>?_)));have hs:=lZ.shut (t:={t1 with fault:=1}) hk hs.p4.p4.p4.p3;rw[oS A6 (hgk.trans (Mg k5 c))];have hs:=hs.p1.p1;exact⟨rfl,((hs.p1).drop).mut⟩
  have hs:=hs.p4;have hs:=((lZ.shut (t:=t1) hk hs.p4.p4.p4).p1).p1;refine bD HE hs (H':=λ _=>lZ K p room {t1 with cD:=(gn t1.cD)}) (Φ:=λ _ _=>True) (λ F2 dY dW=>?_) ?_
  ·exact(C171 K p room (t1) F2 (.slice none 0 0) [] [] _ _ (gn t1.cD) _ dY (λ w' hc=>hK w' (dW w' hc).aF) (λ _ _=>dC.nil _ _) kR.nil sS rfl CE (Nat.zero_le _) Qi).mono λ _ _ r=>r.mono λ _ _ h=>⟨trivial,h.2⟩
  rintro _ w16 _ hs;exact vI _ _ (Mh k5 c) hs
 rw[oS A6 (hgk.trans (R0 k1 k2 k3 k4 k5))];have hs:=((lZ.shut (t:=t1) hk hs.p4.p4.p4.p4).p1).p1;exact⟨rfl,((hs.p1).drop).mut⟩
theorem C80(K:World->Prop)(p:Nat)(m:gW)(q:Nat)(t:jP)(w:World)(hm:Has (qA K p m) w)(hw:∀w',Ext w w'->K w')(iy:ou m)(hh:Has (lZ K q m.room t) w)(BN:t∈m.l):CR 80 [.pointer (some ⟨p,0,none⟩),.pointer (some ⟨q,0,none⟩)] w (λ v w'=>v=.bool (sw m t)/\Ext w w'):=by
 obtain⟨a,hr⟩:=qA.rd hm;have cm6:=hr.b.cell (o:=6) rfl;have cm9:=hr.b.cell (o:=9) rfl;have ki:=iy.th t BN;have GH:=ki.bl;have ai3:(cL m.p).length<=500:=by unfold cL;rw[List.length_map];exact iy.pz.eG
 obtain⟨bp,nv,rg,lv,ds,hk,su,hB,CG,hlr⟩:=lZ.rd hh;obtain⟨bsv,B6,uG,hBL⟩:=hB;have ct0:=su.cell (o:=0) rfl;have ct3:=su.cell (o:=3) rfl;have ct4:=su.cell (o:=4) rfl;have JF:=hk.2.1.1;have hs:=St.start w;refine oY Tryz.func80 (pl:=P80) ?_;refine aD (aA ky (bM ug (ct0.ext hs.aF) (aI nq (hlr.ext hs.aF) (aH (aC (λ c0=>?_) (λ c0=>?_))))))
 ·have eD:oQ t.cD=none:=by
   cases h:oQ t.cD with
   | none=>rfl
   | some q=>obtain⟨x,a,b⟩:=q;obtain⟨e,h2⟩:=AU h;rw[h2,List.length_cons]at JF;omega
  exact⟨vb (by unfold sw;rw[eD]),hs.aF⟩
 obtain⟨x,xa,xb,BM⟩:∃x a b,oQ t.cD=some (x,a,b):=by
  cases h:oQ t.cD with
  | none=>have h2:=Hd ki.p h;have h3:(vM t.cD).length=0:=(by rw[h2];rfl);omega
  | some q=>exact⟨q.1,q.2.1,q.2.2,rfl⟩
 obtain⟨en,sS⟩:=AU BM;have vD:=hk.2.1;rw[sS]at vD;obtain⟨d0,pJ,rfl,yu,hds⟩:=vD.head;obtain⟨dx,db,de,dn⟩:=d0;obtain⟨ge,gf,rfl,_,_⟩:=iV (yu.x _ (hw _ hs.aF));have hx:=(ki.top BM).1;have tS:sw m t=(if t.fault≠0\/x.kind=2 then true else if x.kind=3\/x.kind=5\/x.kind=6\/x.kind=7 then !decide (m.room<=t.buf.length)else if x.kind=9/\m.eP.getD (cU (cL m.p) x.name).toNat 0≠-1 then false else decide (t.buf.length=0)):=by unfold sw;rw[BM]
 refine aD (aA ky (bM ug (ct0.ext hs.aF) (aO nq (hlr.ext hs.aF) (by omega) rfl (λ q1 h1=>KA (⟨x.kind,x.eC,x.name,ge,gf,x.n,x.body,x.eo,x.at_⟩:aZ) oF h1 rfl (λ q2 h2=>aE eI h2 (aM hs jq (λ b5 _ hs=>aJ (x:=(⟨x.kind,x.eC,x.name,ge,gf,x.n,x.body,x.eo,x.at_⟩:aZ)) hs eI rfl rfl (λ w2 hs=>?_))))))));refine⟨λ jv w'=>jv=.bool (decide (t.fault≠0\/x.kind=2))/\w'=w2,?_,?_⟩
 ·exact aD (aA wi (bM bL (ct4.ext hs.aF) (bV (aC (λ _=>⟨vb (decide_eq_true (by omega)).symm,rfl⟩) (λ _=>aA dJ (aB (v:=.int .i64 x.kind) bL hs.hb rfl (aH ⟨vb (decide_eq_decide.2 (by omega)),rfl⟩)))))))
 rintro _ w4 ⟨rfl,rfl⟩ _;refine aC (λ c1=>?_) (λ c1=>?_)
 ·exact⟨vb (by rw[tS,if_pos c1]),hs.drop.aF⟩
 rw[if_neg c1]at tS;refine⟨λ jv w'=>jv=.bool (decide (x.kind=3\/x.kind=5\/x.kind=6\/x.kind=7))/\w'=w4,?_,?_⟩
 ·refine aA dJ (aB (v:=.int .i64 x.kind) bL hs.hb rfl ?_);exact aH (aC (λ _=>⟨vb (decide_eq_true (by omega)).symm,rfl⟩) (λ _=>aA dJ (aB (v:=.int .i64 x.kind) bL hs.hb rfl (aH (aC (λ _=>⟨vb (decide_eq_true (by omega)).symm,rfl⟩) (λ _=>aA dJ (aB (v:=.int .i64 x.kind) bL hs.hb rfl (aH (aC (λ _=>⟨vb (decide_eq_true (by omega)).symm,rfl⟩) (λ _=>aA dJ (aB (v:=.int .i64 x.kind) bL hs.hb rfl (aH ⟨vb (decide_eq_decide.2 (by omega)),rfl⟩))))))))))))
 rintro _ _ ⟨rfl,rfl⟩ _;refine aC (λ c2=>?_) (λ c2=>?_)
 ·have hs:=hs.drew;refine aD (aA nt (bM yh (ct3.ext hs.aF) (aD (aA gP (bM iE (uG.ext hs.aF) (aI fO (hBL.ext hs.aF) (aD (aA QR (bM bL (cm6.ext hs.aF) (aQ ?_))))))))));refine⟨vb ?_,hs.drop.aF⟩;rw[tS,if_pos c2,<- decide_not];exact decide_eq_decide.2 (by omega)
 rw[if_neg c2]at tS;refine⟨λ jv w'=>jv=.bool (sw m t)/\Ext w w',?_,?_⟩;rotate_left
 ·rintro _ _ h _;exact h
 have hs:=hs.drew;refine aD (aA nt (bM yh (ct3.ext hs.aF) (aD (aA gP (bM iE (uG.ext hs.aF) (aI fO (hBL.ext hs.aF) (aH (aC (λ c3=>?_) (λ c3=>?_)))))))));rotate_left
 ·refine⟨vb ?_,hs.drop.aF⟩;rw[tS];split
  ·rfl
  exact(decide_eq_false (by omega)).symm
 refine aA dJ (aB (v:=.int .i64 x.kind) bL hs.hb rfl (bV (aC (λ c4=>?_) (λ c4=>?_))))
 ·exact⟨vb (by rw[tS,if_neg (λ h=>c4 h.1),decide_eq_true (by omega)]),hs.drop.aF⟩
 have hk9:x.kind=9:=Decidable.not_not.1 c4;obtain⟨j,hj,BA,_⟩:=lF (dH.1 (hx.lk (.inl hk9)));have Dt:=(List.getElem?_eq_some_iff.1 BA).1;have how:=iy.ow;refine aD (aA uY (bM eg (cm9.ext hs.aF) (aD (aA oB (qZ (a.pv) ep (ng.ext hr.b hs.aF) rfl (aA fU (aB (v:=.string x.name) gj hs.hb rfl (ek QC hs (C125 m.p a.pv _ (hr.uk.pr _ (hw _ hs.aF)) iy.pz) (λ x82 _ cO hs=>?_)))))))));refine⟨aG eg (cm9.ext hs.aF),?_⟩;refine⟨aG gj (hs.p1.hb.cell (v:=.string x.name) rfl),?_⟩;refine aT rD hs (C123 _ (cL m.p) x.name _ (hs).dX (by omega)) (λ _ he hs=>?_)
 refine⟨aG eg (cm9.ext hs.aF),?_⟩;obtain⟨ov,YM⟩:=gx m.eP (i:=(cU (cL m.p) x.name).toNat) (by omega);refine aO cM (hr.ow.ext hs.aF) (by omega) YM (λ q71 h71=>aE bL h71 (aH ?_));refine⟨vb ?_,hs.drop.drop.aF⟩;rw[tS,List.getD_eq_getElem?_getD,YM];show _=if x.kind=9/\ov≠-1 then false else decide (t.buf.length=0)
 by_cases e:ov = -1
 ·rw[if_neg (λ h=>h.2 e),decide_eq_true e,decide_eq_true (by omega)]
 rw[if_pos ⟨hk9,e⟩,decide_eq_false e]
theorem C22(K:World->Prop)(p:Nat)(m:gW)(w:World)(hm:Has (qA K p m) w)(hw:∀w',Ext w w'->K w')(iy:ou m):CR 22 [.pointer (some ⟨p,0,none⟩)] w (λ v w'=>lL (fV v (gJ m)) w w'):=by
 obtain⟨a,hr⟩:=qA.rd hm;have F6:=hr.b.cell (o:=10) rfl;have E5:=hr.b.cell (o:=11) rfl;have hlen:=hr.len;have Nv:=iy.tl;have hs:=St.start w;refine eS Tryz.func22 ?_;refine te (α:=cA) hs lY (λ s7 w1 hs=>?_);refine⟨λ mm o y w1=>∃k:Nat,y=.int .i64 (k:Int)/\mm=a.ps.length-k/\k<=a.ps.length/\(m.fault≠0->k=0)/\St w aY [fV o (gX m k)] w1,⟨_,0,rfl,rfl,Nat.zero_le _,λ _=>rfl,hs⟩,?_⟩;rintro mm o _ w2 ⟨k,rfl,rfl,Qz,hkf,hs⟩ _;refine⟨λ jv w'=>jv=.bool (decide (k<a.ps.length/\m.fault=0))/\w'=w2,?_,?_⟩
 ·exact aD (aA oC (bM DF (F6.ext hs.aF) (aI FU (hr.ll.ext hs.aF) (aQ (aC (λ _=>aD (aA xr (bM bL (E5.ext hs.aF) (aH ⟨vb (decide_eq_decide.2 (by omega)),rfl⟩)))) (λ _=>⟨vb (decide_eq_false (by omega)).symm,rfl⟩))))))
 rintro _ _ ⟨rfl,rfl⟩ _;refine aC (λ c1=>?_) (λ c1=>?_);rotate_left
 ·have hpm:gJ m=gX m k:=by
   unfold gJ
   by_cases hf:m.fault=0
   ·rw[if_neg (by omega),show k=m.l.length from by omega]
   ·rw[if_pos hf,hkf hf];rfl
  rw[hpm];exact hs.fresh
 obtain⟨c2,c3⟩:=c1;obtain⟨t,ht⟩:=gx m.l (i:=k) (by omega);obtain⟨e,he⟩:=gx a.ps (i:=((k:Nat):Int).toNat) (by omega);have BN:=List.mem_of_getElem? ht;have UI:=hr.th k e t (by rw[<- Int.toNat_natCast k];exact he) ht;have GH:=(iy.th t BN).bl;have oZ:=rj iy k;have ax8:k*1001<=1001000:=Nat.mul_le_mul_right 1001 (show k<=1000 by omega);obtain⟨bp,nv,rg,lv,ds,hk,su,hB,CG,hlr⟩:=lZ.rd UI;have ct3:=su.cell (o:=3) rfl;refine⟨λ o w'=>St w aY [fV o (gX m k++(if sw m t=true then [(⟨1,k,0,[]⟩:cA)]else []))] w',?_,?_⟩
 ·refine aD (aA oC (bM DF (F6.ext hs.aF) (aO FU (hr.ll.ext hs.aF) (by omega) he (λ q hq=>aE Gz hq (aT axO hs (C80 K p m e.b t _ (hm.ext hs.aF) (λ _ e=>hw _ (hs.aF.then e)) iy (UI.ext hs.aF) BN) (λ _ LQ hs=>aW (λ c4=>?_) (λ c4=>?_)))))))
  ·refine pop (Hg 1 (k:Int)) (have hs:=hs.fT (Φ:=λ w=>Deep.dr w (⟨1,(k:Int),0,cH⟩:bF) (⟨1,(k:Int),0,[]⟩:cA)) (λ w=>⟨cH,rfl,DL.nil w⟩);gw (x:=(⟨1,(k:Int),0,[]⟩:cA)) (s:=(⟨1,(k:Int),0,cH⟩:bF)) hs lY (by decide) (λ s45 _ hs=>gy hs.p1 lY (by simp;omega) (by decide) (λ s46 _ hs=>?_)));rw[c4,if_pos rfl];exact hs
  rw[c4,if_neg (by decide),List.append_nil];exact hs
 rintro o2 _ hs _;refine aD (aA oC (bM DF (F6.ext hs.aF) (aO FU (hr.ll.ext hs.aF) (by omega) he (λ q hq=>aE Gz hq (aD (aA nt (bM yh (ct3.ext hs.aF) (ek atv hs (C81 bp _ _ _ (hB.ext hs.aF) (by omega)) (λ x48 _ cO hs=>?_)))))))));have Ew:=zh t.buf;refine⟨λ mm o y w1=>∃j:Nat,y=.int .i64 (j:Int)/\mm=(pa t.buf).length-j/\j<=(pa t.buf).length/\St w aY [fV o (gX m k++(if sw m t=true then [(⟨1,k,0,[]⟩:cA)]else [])++((pa t.buf).take j).map λ i=>(⟨2,k,i,[]⟩:cA)),bG x48 (pa t.buf)] w1,⟨_,0,rfl,rfl,Nat.zero_le _,by rw[List.take_zero,List.map_nil,List.append_nil];exact hs.p1⟩,?_⟩
 rintro mm o3 _ _ ⟨j,rfl,rfl,hj,hs⟩ _;refine aI cM (hs.p1).dX (aQ (aC (λ c5=>?_) (λ c5=>?_)))
 ·obtain⟨y,hy⟩:=gx (pa t.buf) (i:=((j:Nat):Int).toNat) (by omega);exact aO cM (hs.p1).dX (by omega) hy (λ _ hq=>aE bL hq (pop (Cm 2 (k:Int) y) (have hs:=hs.fT (Φ:=λ w=>Deep.dr w (⟨2,(k:Int),y,cH⟩:bF) (⟨2,(k:Int),y,[]⟩:cA)) (λ w=>⟨cH,rfl,DL.nil w⟩);gw (x:=(⟨2,(k:Int),y,[]⟩:cA)) (s:=(⟨2,(k:Int),y,cH⟩:bF)) hs lY (by decide) (λ _ _ hs=>gy hs.p1 lY (by simp only[List.length_append,List.length_map,List.length_take,List.length_singleton];split<;>simp<;>omega) (by decide) (λ _ _ hs=>aK (by omega) ⟨_,by omega,j+1,rfl,rfl,by omega,by rw[<- fW (k:=j) hy,<- List.append_assoc];exact hs⟩)))))
 rw[List.take_of_length_le (by omega)]at hs;refine aK (by omega) ?_;refine⟨_,by omega,k+1,rfl,rfl,by omega,λ h=>absurd c3 h,?_⟩;rw[tP ht];unfold ri;rw[<- List.append_assoc];exact(hs.p1).drop
theorem C168(K:World->Prop)(p:Nat)(m:gW)(i kind:Int)(F:Nat->Prop)(w:World)(hF:(qA K p m).p w F):CR 168 [.pointer (some ⟨p,0,none⟩),.int .i64 i,.int .i64 kind] w (λ v w'=>v=Flat.val (⟨16,i,kind,0,0⟩:bU)/\mL F (qA K p {m with fault:=kind,iS:=i}) w w'):=by
 have hs:=St.begin hF;refine eS Tryz.func168 ?_;obtain⟨a,hu,hs⟩:=qA.open hs;exact aM hs m7 (λ _ _ hs=>have hs:=hs.enc (cs':=Flat.enc (⟨0,0,0,0,0⟩:bU)) rfl;aD (aA xr (aS hs.p1 bL (dI rfl) rfl (λ _ hs=>aD (aA QS (aS hs bL (dI rfl) rfl (λ _ hs=>pop (tn 16 i kind) (aJ (x:=(⟨16,i,kind,0,0⟩:bU)) hs.p1 fb rfl rfl (λ _ hs=>aE fb hs.At ⟨rfl,(qA.shut (m:={m with fault:=kind,iS:=i}) ⟨hu.pr,hu.rc⟩ hs.drop).mut⟩)))))))))
def Cp(K:World->Prop)(p:Nat)(m:gW)(i:Nat)(tp:Ptr):HP:=qd λ a:RA=>fact (RSK K a m/\a.ps[i]?=some tp/\a.ps.length=m.l.length/\i<m.l.length) (sep (bY p (oX a m)) (sep (gi a.q m.mem) (sep (bG a.ow m.eP) (sep (bG a.ll a.ps) (nB (Nf K m.room) a.ps m.l i)))))
section
variable {w w' w0:World}{A:Nat->Prop}{R:List HP}{p:Nat}{K:World->Prop}{m:gW}{a:RA}{i:Nat}{tp:Ptr}{t:jP}
theorem Cp.open(hs:St w0 A (Cp K p m i tp::R) w):∃a,(RSK K a m/\a.ps[i]?=some tp/\a.ps.length=m.l.length/\i<m.l.length)/\St w0 A (bY p (oX a m)::gi a.q m.mem::bG a.ow m.eP::bG a.ll a.ps::nB (Nf K m.room) a.ps m.l i::R) w:=by
 obtain⟨a,hs⟩:=hs.er;obtain⟨hu,hs⟩:=hs.me;exact⟨a,hu,so hs⟩
theorem Cp.shut(hu:RSK K a m/\a.ps[i]?=some tp/\a.ps.length=m.l.length/\i<m.l.length)(hs:St w0 A (bY p (oX a m)::gi a.q m.mem::bG a.ow m.eP::bG a.ll a.ps::nB (Nf K m.room) a.ps m.l i::R) w):St w0 A (Cp K p m i tp::R) w:=
 St.et a (St.oc hu (sq hs))
theorem ZY{ps:List Ptr}(hs:St w0 A (gS (Nf K m.room) ps m.l::R) w)(hp:ps[i]?=some tp)(ht:m.l[i]?=some t):St w0 A (lZ K tp.b m.room t::nB (Nf K m.room) ps m.l i::R) w:=hs.focus hp ht
theorem xl(hs:St w0 A (lZ K tp.b m.room t::Cp K p m i tp::R) w):St w0 A (qA K p {m with l:=m.l.set i t}::R) w:=by
 obtain⟨a,⟨hu,hp,hl,hi⟩,hs⟩:=Cp.open hs.p1
 have h1:St w0 A (Nf K m.room tp t::nB (Nf K m.room) a.ps m.l i::_) w:=(hs.p4).p5
 have h2:=h1.CV hi hl hp
 have h3:=h2.p4.p4.p4.p4
 exact qA.shut (m:={m with l:=m.l.set i t}) ⟨hu.pr,hu.rc⟩ h3
end
section
variable {m:gW}{t:jP}{i:Int}{x:bN}
theorem ZZ(h:x.kind=2):dT m t i x=(m,oR t x.eC (gY m t (dK m x)),xc m t x):=by unfold dT;grind
theorem Z0(h:x.kind=3):dT m t i x=(m,pH m t ⟨3,ft m x,dK m x,(eF t x.e).1⟩,⟨3,0,dK m x,(eF t x.e).1,0⟩):=by unfold dT;grind
theorem Z1(h:x.kind=5):dT m t i x=(m,pH m t ⟨5,ft m x,0,0⟩,⟨4,0,ft m x,0,0⟩):=by grind[dT,pH,ft]
theorem Z2(h:x.kind=6):dT m t i x=(m,pH m t ⟨6,ft m x,0,0⟩,⟨5,0,ft m x,0,0⟩):=by grind[dT,pH,ft]
theorem Z3(h:x.kind=7):dT m t i x=(m,pH m t ⟨7,0,0,0⟩,⟨6,0,0,0,0⟩):=by grind[dT,pH]
theorem aku(h:x.kind=8):dT m t i x=(m,t,⟨7,0,0,0,0⟩):=by grind[dT]
theorem akv(h:x.kind=4):dT m t i x=(rk m t x,oR t x.eC (jy m.mem (dK m x)),tu m t x):=by unfold dT;grind
theorem akw(h:x.kind=9):dT m t i x=(pb m x i,t,⟨10,0,fy m x,0,0⟩):=by grind[dT,pb,fy]
theorem aef(h:x.kind=10):dT m t i x=(pb m x (-1),t,⟨11,0,fy m x,0,0⟩):=by grind[dT,pb,fy]
theorem Z4{a b:Bk}(h:sw m t=true)(hf:t.fault=0)(ht:oQ t.cD=some (x,a,b))(hk:x.kind=4):t.buf=[]:=by
 unfold sw at h
 grind
theorem Z5{mm:Mem}{c e:Int}(h0:0<=c)(h:mm.l[c.toNat]?=some e):jy mm c=e:=by
 have:=(List.getElem?_eq_some_iff.1 h).1
 unfold jy
 rw[if_pos (by unfold F3;rw[decide_eq_true_eq];omega),List.getD_eq_getElem?_getD,h];rfl
end
theorem C170(K:World->Prop)(sv:Value)(m:gW)(i:Int)(tp:Ptr)(t:jP)(x:bN)(xv:aZ)(F:Nat->Prop)(w:World)(hF:(lZ K tp.b m.room t).p w F)(hK:∀w',gq F w w'->K w')(ki:xI (cT m.p) (cL m.p) t)(hto:A7 t)(zB:∀w,K w->Deep.dr w xv x)(hx:TL (cT m.p) (cL m.p) t.names x)(hkd:x.kind=3\/x.kind=5\/x.kind=6\/x.kind=7) :
   CR 170 [sv,.pointer (some ⟨tp.b,0,none⟩),Flat.val xv,.int .i64 (dK m x),.int .i64 (ft m x)] w (λ v w'=>v=Flat.val (dT m t i x).2.2/\mL F (lZ K tp.b m.room (dT m t i x).2.1) w w'):=by
 have hs:=St.begin hF;obtain⟨ge,gf,rfl,_,_⟩:=iV (zB _ (hK _ hs.aF))
 have Pj:∀w,K w->dC (λ _=>True) w (Flat.val ge) x.e/\dC (λ _=>True) w (Flat.val gf) x.f:=λ w hw=>by
  obtain⟨_,_,h4,h5,h6⟩:=iV (zB w hw);cases h4
  exact⟨h5,h6⟩
 have hxe:=hx.e;have hxn:=hx.nm;have YA:=ki.nb;have F4:=ki.rl;have GH:=ki.bl;refine eS Tryz.func170 ?_;refine cI (x:=(⟨x.kind,x.eC,x.name,ge,gf,x.n,x.body,x.eo,x.at_⟩:aZ)) hs (λ b7 _ hs=>aM hs m7 (λ b10 _ hs=>?_));have hs:=(hs.enc (cs':=Flat.enc (⟨0,0,0,0,0⟩:bU)) rfl).p2;obtain⟨bp,nv,rg,Qh,ds,hk,hs⟩:=lZ.open hs;refine aA iN (aB (v:=Flat.val ge) jo hs.p5.hb rfl (aT Na hs (C203 tp.b t Qh nv rg bp _ x.e _ hs.hb (hk.1 _ (hK _ hs.aF)) (hs.p2).dX (Pj _ (hK _ hs.aF)).1 (by omega) (by omega) hxn.1 hto.r) (λ _ he hs=>aN rfl (aN rfl (aA dJ (aB (v:=.int .i64 x.kind) bL hs.p5.hb rfl (aH (aC (λ k3=>?_) (λ k3=>?_)))))))))
 ·refine aD (aA nt (aB yh hs.hb rfl (pop (wY 3 (ft m x) (dK m x) (eF t x.e).1) (have hs:=hs.p1;bD QJ hs (H':=λ _=>ja bp m.room (sg m.room t.buf (⟨3,ft m x,dK m x,(eF t x.e).1⟩:bH))) (Φ:=λ _ _=>True) (λ F2 dY dW=>?_) ?_))))
  ·exact(C230 bp m.room t.buf (⟨3,ft m x,dK m x,(eF t x.e).1⟩:bH) F2 _ dY (by omega)).mono λ _ _ r=>r.mono λ _ _ h=>⟨trivial,h.2⟩
  rintro _ _ _ hs;refine pop (mB 3 (dK m x) (eF t x.e).1) (aJ (x:=(⟨3,0,dK m x,(eF t x.e).1,0⟩:bU)) hs.p4 fb rfl rfl (λ w30' hs=>aE (x:=(⟨3,0,dK m x,(eF t x.e).1,0⟩:bU)) fb hs.At ?_));have hs:=lZ.shut (t:=pH m t (⟨3,ft m x,dK m x,(eF t x.e).1⟩:bH)) hk hs.drop.p4.drop.p3.p3.p2.p3;rw[Z0 k3];exact⟨rfl,hs.mut⟩
 refine aH (aC (λ k5=>?_) (λ k5=>?_))
 ·refine aD (aA nt (aB yh hs.hb rfl (pop (vk 5 (ft m x)) (have hs:=hs.p1;bD QJ hs (H':=λ _=>ja bp m.room (sg m.room t.buf (⟨5,ft m x,0,0⟩:bH))) (Φ:=λ _ _=>True) (λ F2 dY dW=>?_) ?_))))
  ·exact(C230 bp m.room t.buf (⟨5,ft m x,0,0⟩:bH) F2 _ dY (by omega)).mono λ _ _ r=>r.mono λ _ _ h=>⟨trivial,h.2⟩
  rintro _ _ _ hs;refine pop (om 4 (ft m x)) (aJ (x:=(⟨4,0,ft m x,0,0⟩:bU)) hs.p4 fb rfl rfl (λ w50' hs=>aE (x:=(⟨4,0,ft m x,0,0⟩:bU)) fb hs.At ?_));have hs:=lZ.shut (t:=pH m t (⟨5,ft m x,0,0⟩:bH)) hk hs.drop.p4.drop.p3.p3.p2.p3;rw[Z1 k5];exact⟨rfl,hs.mut⟩
 refine aH (aC (λ k6=>?_) (λ k6=>?_))
 ·refine aD (aA nt (aB yh hs.hb rfl (pop (vk 6 (ft m x)) (have hs:=hs.p1;bD QJ hs (H':=λ _=>ja bp m.room (sg m.room t.buf (⟨6,ft m x,0,0⟩:bH))) (Φ:=λ _ _=>True) (λ F2 dY dW=>?_) ?_))))
  ·exact(C230 bp m.room t.buf (⟨6,ft m x,0,0⟩:bH) F2 _ dY (by omega)).mono λ _ _ r=>r.mono λ _ _ h=>⟨trivial,h.2⟩
  rintro _ _ _ hs;refine pop (om 5 (ft m x)) (aJ (x:=(⟨5,0,ft m x,0,0⟩:bU)) hs.p4 fb rfl rfl (λ w60' hs=>aE (x:=(⟨5,0,ft m x,0,0⟩:bU)) fb hs.At ?_));have hs:=lZ.shut (t:=pH m t (⟨6,ft m x,0,0⟩:bH)) hk hs.drop.p4.drop.p3.p3.p2.p3;rw[Z2 k6];exact⟨rfl,hs.mut⟩
 refine aD (aA nt (aB yh hs.hb rfl (pop (z6 7) (have hs:=hs.p1;bD QJ hs (H':=λ _=>ja bp m.room (sg m.room t.buf (⟨7,0,0,0⟩:bH))) (Φ:=λ _ _=>True) (λ F2 dY dW=>?_) ?_))))
 ·exact(C230 bp m.room t.buf (⟨7,0,0,0⟩:bH) F2 _ dY (by omega)).mono λ _ _ r=>r.mono λ _ _ h=>⟨trivial,h.2⟩
 rintro _ _ _ hs;refine pop (I8 6) (aJ (x:=(⟨6,0,0,0,0⟩:bU)) hs.p4 fb rfl rfl (λ w70' hs=>aE (x:=(⟨6,0,0,0,0⟩:bU)) fb hs.At ?_));have hs:=lZ.shut (t:=pH m t (⟨7,0,0,0⟩:bH)) hk hs.drop.p4.drop.p3.p3.p2.p3;rw[Z3 (by omega)];exact⟨rfl,hs.mut⟩
theorem C169(K:World->Prop)(p:Nat)(m:gW)(i:Int)(n:Nat)(tp:Ptr)(t:jP)(x:bN)(xv:aZ)(F:Nat->Prop)(w:World)(hF:(sep (lZ K tp.b m.room t) (Cp K p m n tp)).p w F)(hK:∀w',gq F w w'->K w')(ki:xI (cT m.p) (cL m.p) t)(hto:A7 t)(zB:∀w,K w->Deep.dr w xv x)(hx:TL (cT m.p) (cL m.p) t.names x)(hmm:vV m.mem)(rA:MB m.mem 1000000)(hkd:x.kind=2\/x.kind=4)(hb4:x.kind=4->t.buf=[])(Ew:0<=dK m x/\dK m x<m.mem.l.length) :
   CR 169 [.pointer (some ⟨p,0,none⟩),.pointer (some ⟨tp.b,0,none⟩),Flat.val xv,.int .i64 (dK m x)] w (λ v w'=>v=Flat.val (dT m t i x).2.2/\mL F (sep (lZ K tp.b m.room (dT m t i x).2.1) (Cp K p (dT m t i x).1 n tp)) w w'):=by
 have hs:=(St.begin hF).split;obtain⟨ge,gf,rfl,_,_⟩:=iV (zB _ (hK _ hs.aF))
 have Pj:∀w,K w->dC (λ _=>True) w (Flat.val ge) x.e/\dC (λ _=>True) w (Flat.val gf) x.f:=λ w hw=>by
  obtain⟨_,_,h4,h5,h6⟩:=iV (zB w hw);cases h4
  exact⟨h5,h6⟩
 have hxe:=hx.e;have hxn:=hx.nm;have YA:=ki.nb;have F4:=ki.rl;have GH:=ki.bl;have CG:=hx.rg (by omega);obtain⟨c,hc⟩:∃c,c=dK m x:=⟨_,rfl⟩;refine ad2 _ _ _ _ _ _ ?_;unfold S169;refine cI (x:=(⟨x.kind,x.eC,x.name,ge,gf,x.n,x.body,x.eo,x.at_⟩:aZ)) hs (λ b6 _ hs=>aM hs m7 (λ b8 _ hs=>?_));have hs:=(hs.enc (cs':=Flat.enc (⟨0,0,0,0,0⟩:bU)) rfl).p2;obtain⟨bp,nv,rg,Qh,ds,hk,hs⟩:=lZ.open hs;refine aA iN (aB (v:=Flat.val ge) jo hs.p5.hb rfl (aT Na hs (C203 tp.b t Qh nv rg bp _ x.e _ hs.hb (hk.1 _ (hK _ hs.aF)) (hs.p2).dX (Pj _ (hK _ hs.aF)).1 (by omega) (by omega) hxn.1 hto.r) (λ _ he hs=>aN rfl (aN rfl (aA jU (aB (v:=Flat.val gf) jo hs.p5.hb rfl (aT Na hs (C203 tp.b t Qh nv rg bp _ x.f _ hs.hb (hk.1 _ (hK _ hs.aF)) (hs.p2).dX (Pj _ (hK _ hs.aF)).2 (by omega) (by omega) hxn.2 hto.r) (λ _ he hs=>aN rfl (aN rfl (aD (aA nt (aB yh hs.hb rfl ?_))))))))))))
 refine aT amh hs (C229 bp (dK m x) m.room t.buf _ (C6 hs.p1) (by omega)) (λ w5 he hs=>aN rfl (aN rfl ?_));have hs:=hs.p6;obtain⟨a,hX,hs⟩:=Cp.open hs;refine⟨λ jv w'=>jv=.int .i64 (gY m t (dK m x))/\w'=w5,?_,?_⟩
 ·refine bQ (aW (λ c1=>?_) (λ c1=>?_));rotate_left
  ·have h1:(kV t.buf (dK m x)).isSome=true:=by simpa using c1
   exact⟨congrArg (Value.int .i64) (by unfold gY;rw[if_pos h1]),rfl⟩
  have h1:(kV t.buf (dK m x)).isSome=false:=by simpa using c1
  refine aD (aA sT (aB pR hs.hb rfl ?_));obtain⟨ov,fv,lv,kv,wv,ws,jQ,sF,hmo,hmf,B8,are,hmw⟩:=(Fp (hs.p1).has).ex;refine aD (aA rH (bM eg (sF.cell (o:=2) rfl) ?_));obtain⟨e,he⟩:=gx m.mem.l (i:=(dK m x).toNat) (by omega);exact aO cM B8 Ew.1 he (λ _ hq=>aE bL hq ⟨congrArg (Value.int .i64) (by unfold gY;rw[if_neg (by rw[h1];decide),Z5 Ew.1 he]),rfl⟩)
 rintro _ _ ⟨rfl,rfl⟩ _;refine aA iv (aB (v:=.string x.eC) gj hs.p10.hb rfl (have hs:=lZ.shut (t:=t) hk hs.p8.p8.p8.p8;bD agu hs (H':=λ _=>lZ K tp.b m.room (oR t x.eC (gY m t (dK m x)))) (Φ:=λ _ _=>True) (λ F2 dY dW=>?_) ?_))
 ·exact(C204 K tp.b m.room t F2 x.eC _ _ dY (λ w' hc=>hK w' (dW w' hc).aF) CG F4 YA).mono λ _ _ r=>r.mono λ _ _ h=>⟨trivial,h.2⟩
 rintro _ _ _ hs;refine aA dJ (aB (v:=.int .i64 x.kind) bL hs.p7.hb rfl (aH (aC (λ k2=>?_) (λ k2=>?_))))
 ·have hle:xc m t x=⟨if (kV t.buf (dK m x)).isSome=true then 2 else 1,0,dK m x,gY m t (dK m x),0⟩:=rfl;refine aW (λ c1=>?_) (λ c1=>?_)
  ·refine pop (mB 2 (dK m x) (gY m t (dK m x))) (aJ (x:=(⟨2,0,dK m x,gY m t (dK m x),0⟩:bU)) hs.p6 fb rfl rfl (λ w8 hs=>aE (x:=(⟨2,0,dK m x,gY m t (dK m x),0⟩:bU)) fb hs.At ?_));have hs:=(Cp.shut (m:=m) (hX) hs.drop.p6.drop.p5.p5.p5.p5.p5).p1;rw[ZZ k2];show Flat.val _=Flat.val (xc m t x)/\_;rw[hle,if_pos c1];exact⟨rfl,(St.join hs).mut⟩
  refine pop (mB 1 (dK m x) (gY m t (dK m x))) (aJ (x:=(⟨1,0,dK m x,gY m t (dK m x),0⟩:bU)) hs.p6 fb rfl rfl (λ w8 hs=>aE (x:=(⟨1,0,dK m x,gY m t (dK m x),0⟩:bU)) fb hs.At ?_));have hs:=(Cp.shut (m:=m) (hX) hs.drop.p6.drop.p5.p5.p5.p5.p5).p1;rw[ZZ k2];show Flat.val _=Flat.val (xc m t x)/\_;rw[hle,if_neg (by rw[c1];decide)];exact⟨rfl,(St.join hs).mut⟩
 have k4:x.kind=4:=by omega
 have hld:gY m t (dK m x)=jy m.mem (dK m x):=by unfold gY;rw[hb4 k4];rfl
 rw[hld]at hs |-;rw[akv k4];refine bV (aC (λ c1=>?_) (λ c1=>?_))
 ·have hcm:rk m t x=m:=by unfold rk;rw[if_neg c1]
  have ze:tu m t x=⟨9,0,dK m x,jy m.mem (dK m x),0⟩:=by unfold tu;rw[if_neg c1]
  refine pop (mB 9 (dK m x) (jy m.mem (dK m x))) (aJ (x:=(⟨9,0,dK m x,jy m.mem (dK m x),0⟩:bU)) hs.p6 fb rfl rfl (λ w8 hs=>aE (x:=(⟨9,0,dK m x,jy m.mem (dK m x),0⟩:bU)) fb hs.At ?_));have hs:=(Cp.shut (m:=m) (hX) hs.drop.p6.drop.p5.p5.p5.p5.p5).p1;rw[hcm,ze];exact⟨rfl,(St.join hs).mut⟩
 have hcm:rk m t x={m with mem:=fh m.mem (dK m x) (eF t x.f).1}:=by unfold rk;rw[if_pos (by simpa using c1)]
 have ze:tu m t x=⟨8,0,dK m x,jy m.mem (dK m x),(eF t x.f).1⟩:=by unfold tu;rw[if_pos (by simpa using c1)]
 refine aD (aA sT (aB pR hs.p1.hb rfl (have hs:=hs.p2;bD aeX hs (H':=λ _=>gi a.q (fh m.mem (dK m x) (eF t x.f).1)) (Φ:=λ _ _=>True) (λ F2 dY dW=>?_) ?_)))
 ·exact(C166 a.q m.mem F2 (dK m x) _ _ dY hmm rA).mono λ _ _ r=>r.mono λ _ _ h=>⟨trivial,h.2⟩
 rintro _ _ _ hs;refine pop (yx 8 (dK m x) (jy m.mem (dK m x)) (eF t x.f).1) (aJ (x:=(⟨8,0,dK m x,jy m.mem (dK m x),(eF t x.f).1⟩:bU)) hs.p6 fb rfl rfl (λ _ hs=>aE (x:=(⟨8,0,dK m x,jy m.mem (dK m x),(eF t x.f).1⟩:bU)) fb hs.At ?_));have hs:=Cp.shut (m:={m with mem:=fh m.mem (dK m x) (eF t x.f).1}) (⟨⟨hX.1.pr,hX.1.rc⟩,hX.2⟩) hs.drop.p6.drop.p5.p5.p5.p3.p5;have hs:=hs.p1;rw[hcm,ze];exact⟨rfl,(St.join hs).mut⟩
theorem C95(K:World->Prop)(p:Nat)(m:gW)(q:cA)(i k:Int)(hqt:q.t=i)(hqi:q.i=k)(t:jP)(F:Nat->Prop)(w:World)(hF:(qA K p m).p w F)(iy:ou m)(rA:MB m.mem 1000000)(h0:0<=i)(ht:m.l[i.toNat]?=some t) :
   CR 95 [.pointer (some ⟨p,0,none⟩),.int .i64 i,.int .i64 k] w (λ v w'=>v=Flat.val (sN i (dB t.buf k))/\mL F (qA K p (sP m t q)) w w'):=by
 subst hqt hqi;have hs:=St.begin hF;have BN:=List.mem_of_getElem? ht;have ki:=iy.th t BN;have nH:=(List.getElem?_eq_some_iff.1 ht).1;have GH:=ki.bl;refine oY Tryz.func95 (pl:=P95) ?_;refine aM hs m7 (λ b6 _ hs=>?_);have hs:=(hs.enc (cs':=Flat.enc (⟨0,0,0,0,0⟩:bU)) rfl).p1;obtain⟨a,hu,hs⟩:=qA.open hs;have pg:=hs.p4.iP;obtain⟨e,he⟩:=gx a.ps (i:=q.t.toNat) (by omega);refine aD (aA oC (aB DF hs.hb rfl (aO FU (hs.p3).dX h0 he (λ q0 hq=>aE Gz hq ?_))));have hs:=ZY hs.p4 he ht;obtain⟨bp,nv,rg,Qh,ds,hk,hs⟩:=lZ.open hs;refine aD (aA nt (aB yh hs.hb rfl (have hs:=hs.p1;bD al7 hs (H':=λ _=>ja bp m.room (jL t.buf q.i)) (Φ:=λ v _=>v=.tuple #[Flat.val (dB t.buf q.i),.int .i64 (wR t.buf q.i)]) (λ F2 dY dW=>?_) ?_)))
 ·exact C165 bp m.room t.buf q.i F2 _ dY (by omega)
 rintro _ _ rfl hs;refine aN rfl (aN rfl (aM hs qX (λ b7 _ hs=>aJ (x:=(dB t.buf q.i)) hs ic rfl rfl (λ _ hs=>have hs:=(((((lZ.shut (t:={t with buf:=jL t.buf q.i}) hk hs.p4.p4.p3.p4).p2).p6).p6).p6).p6;have hs:=hs.p5.p7.p7;aA gv (aB (v:=.int .i64 (dB t.buf q.i).kind) bL hs.hb rfl (aH (aC (λ c=>?_) (λ c=>?_))))))))
 ·have hs:=hs.drew;refine aD (aA sT (aB pR hs.p3.hb rfl (aA mc (aB (v:=.int .i64 (dB t.buf q.i).cell) bL hs.hb rfl (aA oG (aB (v:=.int .i64 (dB t.buf q.i).n) bL hs.hb rfl (have hs:=hs.p4;bD aeX hs (H':=λ _=>gi a.q (fh m.mem (dB t.buf q.i).cell (dB t.buf q.i).n)) (Φ:=λ _ _=>True) (λ F2 dY dW=>?_) ?_)))))))
  ·exact(C166 a.q m.mem F2 _ _ _ dY iy.mem rA).mono λ _ _ r=>r.mono λ _ _ h=>⟨trivial,h.2⟩
  rintro _ _ _ hs;refine aA mc (aB (v:=.int .i64 (dB t.buf q.i).cell) bL hs.p1.hb rfl (aA oG (aB (v:=.int .i64 (dB t.buf q.i).n) bL hs.p1.hb rfl (pop (yw 12 q.t (dB t.buf q.i).cell (dB t.buf q.i).n) (aJ (x:=(⟨12,q.t,(dB t.buf q.i).cell,(dB t.buf q.i).n,0⟩:bU)) hs.p2 fb rfl rfl (λ _ hs=>aE (x:=(⟨12,q.t,(dB t.buf q.i).cell,(dB t.buf q.i).n,0⟩:bU)) fb hs.At ?_))))));have hs:=hs.drop.p1.drop;have Pd:jM m.mem (dB t.buf q.i)=fh m.mem (dB t.buf q.i).cell (dB t.buf q.i).n:=by unfold jM;rw[if_pos c]
  have Z6:sN q.t (dB t.buf q.i)=⟨12,q.t,(dB t.buf q.i).cell,(dB t.buf q.i).n,0⟩:=by unfold sN;rw[if_pos c]
  have hs:=Cp.shut (m:={m with mem:=fh m.mem (dB t.buf q.i).cell (dB t.buf q.i).n}) (i:=q.t.toNat) (tp:=e) ⟨⟨hu.pr,hu.rc⟩,he,pg,by show q.t.toNat<m.l.length;omega⟩ hs.p5.p5.p5.p3.p5;have hs:=xl (m:={m with mem:=fh m.mem (dB t.buf q.i).cell (dB t.buf q.i).n}) (tp:=e) (t:={t with buf:=jL t.buf q.i}) hs.p1;have JP:sP m t q={ {m with mem:=fh m.mem (dB t.buf q.i).cell (dB t.buf q.i).n}with l:=m.l.set q.t.toNat ({t with buf:=jL t.buf q.i})}:=by unfold sP;rw[Pd]
  rw[JP,Z6];exact⟨rfl,hs.mut⟩
 refine aA gv (aB (v:=.int .i64 (dB t.buf q.i).kind) bL hs.hb rfl (aH (aC (λ c2=>?_) (λ c2=>?_))))
 ·refine pop (Hh 14 q.t) (aJ (x:=(⟨14,q.t,0,0,0⟩:bU)) hs.p1 fb rfl rfl (λ _ hs=>aE (x:=(⟨14,q.t,0,0,0⟩:bU)) fb hs.At ?_));have hs:=hs.drop.drop;have Pd:jM m.mem (dB t.buf q.i)=m.mem:=by unfold jM;rw[if_neg c,if_pos c2]
  have Z6:sN q.t (dB t.buf q.i)=⟨14,q.t,0,0,0⟩:=by unfold sN;rw[if_neg c,if_pos c2]
  have hs:=Cp.shut (m:={m with mem:=m.mem}) (i:=q.t.toNat) (tp:=e) ⟨⟨hu.pr,hu.rc⟩,he,pg,by show q.t.toNat<m.l.length;omega⟩ hs.p5.p5.p5.p5.p5;have hs:=xl (m:={m with mem:=m.mem}) (tp:=e) (t:={t with buf:=jL t.buf q.i}) hs.p1;have JP:sP m t q={ {m with mem:=m.mem}with l:=m.l.set q.t.toNat ({t with buf:=jL t.buf q.i})}:=by unfold sP;rw[Pd]
  rw[JP,Z6];exact⟨rfl,hs.mut⟩
 have hs:=hs.drew;refine aD (aA sT (aB pR hs.p3.hb rfl (aA gQ (aB (v:=.int .i64 (dB t.buf q.i).line) bL hs.hb rfl (have hs:=hs.p4;bD al8 hs (H':=λ _=>gi a.q (nV m.mem (dB t.buf q.i).line)) (Φ:=λ _ _=>True) (λ F2 dY dW=>?_) ?_)))))
 ·exact(C167 a.q m.mem F2 _ _ dY iy.mem rA).mono λ _ _ r=>r.mono λ _ _ h=>⟨trivial,h.2⟩
 rintro _ _ _ hs;refine aA gQ (aB (v:=.int .i64 (dB t.buf q.i).line) bL hs.p1.hb rfl (pop (tn 13 q.t (dB t.buf q.i).line) (aJ (x:=(⟨13,q.t,(dB t.buf q.i).line,0,0⟩:bU)) hs.p2 fb rfl rfl (λ _ hs=>aE (x:=(⟨13,q.t,(dB t.buf q.i).line,0,0⟩:bU)) fb hs.At ?_))));have hs:=hs.drop.p1.drop;have Pd:jM m.mem (dB t.buf q.i)=nV m.mem (dB t.buf q.i).line:=by unfold jM;rw[if_neg c,if_neg c2]
 have Z6:sN q.t (dB t.buf q.i)=⟨13,q.t,(dB t.buf q.i).line,0,0⟩:=by unfold sN;rw[if_neg c,if_neg c2]
 have hs:=Cp.shut (m:={m with mem:=nV m.mem (dB t.buf q.i).line}) (i:=q.t.toNat) (tp:=e) ⟨⟨hu.pr,hu.rc⟩,he,pg,by show q.t.toNat<m.l.length;omega⟩ hs.p5.p5.p5.p3.p5;have hs:=xl (m:={m with mem:=nV m.mem (dB t.buf q.i).line}) (tp:=e) (t:={t with buf:=jL t.buf q.i}) hs.p1;have JP:sP m t q={ {m with mem:=nV m.mem (dB t.buf q.i).line}with l:=m.l.set q.t.toNat ({t with buf:=jL t.buf q.i})}:=by unfold sP;rw[Pd]
 rw[JP,Z6];exact⟨rfl,hs.mut⟩
theorem arf:PL 60:=dF Tryz.func60
theorem C96(K:World->Prop)(p:Nat)(m:gW)(i:Int)(t:jP)(F:Nat->Prop)(w:World)(hF:(qA K p m).p w F)(hK:∀w',gq F w w'->K w')(iy:ou m)(hvo:Ju m)(rA:MB m.mem 1000000)(h0:0<=i)(ht:m.l[i.toNat]?=some t)(tS:sw m t=true)(Fx:m.mem.dV=eX m.p) :
   CR 96 [.pointer (some ⟨p,0,none⟩),.int .i64 i] w (λ v w'=>v=Flat.val (ie m i).2/\mL F (qA K p (ie m i).1) w w'):=by
 have hs:=St.begin hF;have BN:=List.mem_of_getElem? ht;have ki:=iy.th t BN;have hto:=hvo.th t BN;have nH:=(List.getElem?_eq_some_iff.1 ht).1;have YA:=ki.nb;have how:=iy.ow;have ai3:(cL m.p).length<=500:=by unfold cL;rw[List.length_map];exact iy.pz.eG
 have ax9:(cT m.p).length<=250500:=mu iy.pz.toPS;have B8:m.mem.l.length=(cT m.p).length:=by rw[iy.mem.ll,Fx];unfold eX cT;rw[List.length_map,List.length_map]
 have aqP:=ki.cl;have hfc:=Fk t.cD;refine aj8 _ _ _ _ ?_;unfold S96;refine aM hs m7 (λ b4 _ hs=>?_);have hs:=(hs.enc (cs':=Flat.enc (⟨0,0,0,0,0⟩:bU)) rfl).p1;obtain⟨a,hu,hs⟩:=qA.open hs;have pg:=hs.p4.iP;refine aD (aA oC (aB DF hs.hb rfl ?_));obtain⟨e,he⟩:=gx a.ps (i:=i.toNat) (by omega);refine aO FU (hs.p3).dX h0 he (λ q hq=>aE Gz hq ?_);have hs:=ZY hs.p4 he ht;obtain⟨bp,nv,rg,Qh,ds,hk,hs⟩:=lZ.open hs;have JF:=hk.2.1.1;refine aD (aA wi (aB bL hs.hb rfl (bV (aC (λ c=>?_) (λ c=>?_)))))
 ·have Ur:ie m i=({m with fault:=t.fault,iS:=i},⟨16,i,t.fault,0,0⟩):=by unfold ie;rw[ht];dsimp only;rw[if_pos c]
  refine aD (aA wi (aB bL hs.hb rfl ?_));have hs:=St.CV (H:=Nf K m.room) (x:=t) (((lZ.shut (t:=t) hk hs.p3.p3.p3.p3).p1).p1) (by omega) pg he;rw[mM ht]at hs;have hs:=qA.shut (m:=m) hu hs.p4.p4.p4.p4;refine bD agw hs (H':=λ _=>qA K p {m with fault:=t.fault,iS:=i}) (Φ:=λ v _=>v=Flat.val (⟨16,i,t.fault,0,0⟩:bU)) (λ F2 dY dW=>?_) ?_
  ·exact C168 K p m i t.fault F2 _ dY
  rintro _ _ rfl hs;refine aJ (x:=(⟨16,i,t.fault,0,0⟩:bU)) hs.p1 fb rfl rfl (λ _ hs=>aE (x:=(⟨16,i,t.fault,0,0⟩:bU)) fb hs.At ?_);rw[Ur];exact⟨rfl,hs.drop.mut⟩
 have hf0:t.fault=0:=by omega
 obtain⟨x,xa,xb,BM⟩:=M5 tS;obtain⟨en,sS⟩:=AU BM;have Qi:(vM (gn t.cD)).length<=100000:=by rw[sS,List.length_cons]at hfc;omega
 have vD:=hk.2.1;rw[sS]at vD;obtain⟨d0,pJ,rfl,yu,hds⟩:=vD.head;obtain⟨dx,db,de,dn⟩:=d0;obtain⟨ge,gf,rfl,_,_⟩:=iV (yu.x _ (hK _ hs.aF));have zB:∀w,K w->Deep.dr w (⟨x.kind,x.eC,x.name,ge,gf,x.n,x.body,x.eo,x.at_⟩:aZ) x:=yu.x;obtain⟨⟨Qz,hk3⟩,hv1,hv2⟩:=iy.st t BN hf0 _ _ _ BM;obtain⟨hx,_,_,_,_,_,_,_,r,en',p',A0,sr,ar⟩:=ki.top BM;refine aD (aA ky (aB ug hs.hb rfl (aO nq (hs.p3).fk (by omega) rfl (λ q1 h1=>KA (⟨x.kind,x.eC,x.name,ge,gf,x.n,x.body,x.eo,x.at_⟩:aZ) oF h1 rfl (λ q2 h2=>aE eI h2 (pop (I7) (have hs:=lZ.shut (t:=t) hk hs.p3.p3.p3.p3;aM hs jq (λ b6 _ hs=>aM hs m7 (λ b7 _ hs=>aJ (x:=(⟨x.kind,x.eC,x.name,ge,gf,x.n,x.body,x.eo,x.at_⟩:aZ)) hs.p1 eI rfl rfl (λ _ hs=>aJ (x:=(⟨0,0,0,0,0⟩:bU)) hs.p1 fb rfl rfl (λ _ hs=>have hs:=hs.drew;aD (aA oB ?_))))))))))))
 refine qZ (a.pv) ep hs.p4.hb rfl (aA fU (aB (v:=.string x.name) gj hs.p1.hb rfl (aD (aA oB (qZ (a.pv) ep hs.p4.hb rfl (aA fU (aB (v:=.string x.name) gj hs.p1.hb rfl (ek J0 hs (C124 m.p a.pv _ (hu.pr _ (hK _ hs.aF)) iy.pz) (λ x41 _ cO hs=>?_)))))))));refine⟨aG gj (hs.p2.hb.cell (v:=.string x.name) rfl),?_⟩;refine⟨lR (a.pv) ep hs.p5.hb rfl,?_⟩;refine⟨aG gj (hs.p2.hb.cell (v:=.string x.name) rfl),?_⟩;refine aT rD hs (C123 _ (cT m.p) x.name _ (hs).dX (by omega)) (λ _ LQ hs=>?_);refine⟨lR (a.pv) ep hs.p5.hb rfl,?_⟩;refine⟨aG gj (hs.p2.hb.cell (v:=.string x.name) rfl),?_⟩
 refine ek QC hs (C125 m.p a.pv _ (hu.pr _ (hK _ hs.aF)) iy.pz) (λ x49 _ cO hs=>?_);refine⟨aG gj (hs.p3.hb.cell (v:=.string x.name) rfl),?_⟩;refine aT rD hs (C123 _ (cL m.p) x.name _ (hs).dX (by omega)) (λ w11 LQ hs=>?_);have hs:=Cp.shut (m:=m) (i:=i.toNat) (tp:=e) ⟨hu,he,pg,by omega⟩ hs.drop.drop.p3.p7.p7.p7.p7;have hs:=hs.p3.p4.p4.p4;have Nh:ie m i=(if x.kind=10/\m.eP.getD (fy m x).toNat 0≠i then({m with fault:=3,iS:=i},⟨16,i,3,0,0⟩)else({ (dT m t i x).1 with l:=m.l.set i.toNat (tQ m t i x)},{ (dT m t i x).2.2 with t:=i})):=by unfold ie;rw[ht];dsimp only;rw[if_neg (by omega),BM]
 refine⟨λ w'=>¬ (x.kind=10/\m.eP.getD (fy m x).toNat 0≠i)/\St w F [bY b7 (Flat.enc ((dT m t i x).2.2)),bY b6 (Flat.enc (⟨x.kind,x.eC,x.name,ge,gf,x.n,x.body,x.eo,x.at_⟩:aZ)),bY b4 (Flat.enc (⟨0,0,0,0,0⟩:bU)),lZ K e.b m.room (dT m t i x).2.1,Cp K p (dT m t i x).1 i.toNat e] w',?_,?_⟩
 ·refine aA dJ (aB (v:=.int .i64 x.kind) bL hs.p1.hb rfl ?_);refine⟨λ jv w'=>jv=.bool (decide (x.kind=2\/x.kind=4))/\w'=w11,?_,?_⟩
  ·exact aH (aC (λ c=>⟨vb (by rw[decide_eq_true c,decide_eq_true (Or.inl c)]),rfl⟩) (λ _=>aH ⟨vb (decide_eq_decide.2 (by omega)),rfl⟩))
  rintro _ _ ⟨rfl,rfl⟩ sK;refine aC (λ k24=>?_) (λ k24=>?_)
  ·have mG:¬ (x.kind=10/\m.eP.getD (fy m x).toNat 0≠i):=by omega
   obtain⟨jc,hjc,aya,_⟩:=lF (dH.1 (hx.cl (by omega)));have hjcl:=(List.getElem?_eq_some_iff.1 aya).1;have hcc:dK m x=(jc:Int):=hjc;refine aE (x:=(⟨x.kind,x.eC,x.name,ge,gf,x.n,x.body,x.eo,x.at_⟩:aZ)) eI hs.p1.At (have hs:=St.join hs.p4.p4;bD aq0 hs (H':=λ _=>sep (lZ K e.b m.room (dT m t i x).2.1) (Cp K p (dT m t i x).1 i.toNat e)) (Φ:=λ v _=>v=Flat.val (dT m t i x).2.2) (λ F2 dY dW=>?_) ?_)
   ·exact C169 K p m i i.toNat e t x (⟨x.kind,x.eC,x.name,ge,gf,x.n,x.body,x.eo,x.at_⟩:aZ) F2 _ dY (λ w' hc=>hK w' (dW w' hc).aF) ki hto zB hx iy.mem rA k24 (λ h=>Z4 tS hf0 BM h) (by omega)
   rintro _ _ rfl hs;have hs:=hs.split;exact aJ (x:=((dT m t i x).2.2:bU)) hs.p2 fb rfl rfl (λ _ hs=>have hs:=hs.p2.p2.p4.p4.p4;⟨mG,hs⟩)
  refine aH (aC (λ k8=>?_) (λ k8=>?_))
  ·have mG:¬ (x.kind=10/\m.eP.getD (fy m x).toNat 0≠i):=by omega
   refine aA abz (aS hs bL (dI rfl) rfl (λ _ hs=>?_));have hs:=(((((hs.enc (cs':=Flat.enc (⟨7,0,0,0,0⟩:bU)) rfl).p4).p4).p4).p4).p4;rw[aku k8];exact⟨mG,hs⟩
  refine aH (aC (λ k9=>?_) (λ k9=>?_))
  ·have mG:¬ (x.kind=10/\m.eP.getD (fy m x).toNat 0≠i):=by omega
   have Z7:x.kind=9\/x.kind=10:=by omega
   obtain⟨j,hj,BA,_⟩:=lF (dH.1 (hx.lk Z7));have Dt:=(List.getElem?_eq_some_iff.1 BA).1;have hjk:fy m x=(j:Int):=hj;have hs:=hs.p4;obtain⟨a,hX,hs⟩:=Cp.open hs;refine aD (aA uY (aB eg hs.hb rfl (dM hs.p2 cM (show 0<=fy m x by omega) (show fy m x<_ by omega) (λ _ ayb=>jm (i:Int) hs.p2 bL ayb (by omega) (λ _ hs=>pop (om 10 (fy m x)) (have hs:=Cp.shut (m:=pb m x i) (⟨⟨hX.1.pr,hX.1.rc⟩,hX.2⟩) hs.p4.p4.p2.p4.p4;aJ (x:=(⟨10,0,fy m x,0,0⟩:bU)) hs.p1 fb rfl rfl (λ _ hs=>?_)))))));have hs:=hs.p1.p4.p4.p4.p4;rw[akw k9];exact⟨mG,hs⟩
  refine aH (aC (λ k10=>?_) (λ k10=>?_))
  ·have Z7:x.kind=9\/x.kind=10:=by omega
   obtain⟨j,hj,BA,_⟩:=lF (dH.1 (hx.lk Z7));have Dt:=(List.getElem?_eq_some_iff.1 BA).1;have hjk:fy m x=(j:Int):=hj;have hs:=hs.p4;obtain⟨a,hX,hs⟩:=Cp.open hs;have hwl:=(hs.p2).dX;obtain⟨ov,YM⟩:=gx m.eP (i:=(fy m x).toNat) (by omega);have hgd:m.eP.getD (fy m x).toNat 0=ov:=by rw[List.getD_eq_getElem?_getD,YM];rfl
   refine aD (aA uY (aB eg hs.hb rfl (aO cM hwl (show 0<=fy m x by omega) YM (λ q69 h69=>aE bL h69 (bV (aC (λ c72=>?_) (λ c72=>?_)))))))
   ·have hs:=hs.p4;have hs:=xl ((Cp.shut (m:=m) (hX) hs.p4.p4.p4.p4).p4);rw[mM ht]at hs;refine bD agw hs (H':=λ _=>qA K p {m with fault:=3,iS:=i}) (Φ:=λ v _=>v=Flat.val (⟨16,i,3,0,0⟩:bU)) (λ F2 dY dW=>?_) ?_
    ·exact C168 K p m i 3 F2 _ dY
    rintro _ _ rfl hs;refine aJ (x:=(⟨16,i,3,0,0⟩:bU)) hs.p3 fb rfl rfl (λ _ hs=>aE (x:=(⟨16,i,3,0,0⟩:bU)) fb hs.At ?_);have hs:=hs.drop.p1.drop.p1.drop;rw[Nh,if_pos ⟨k10,by rw[hgd];exact c72⟩];exact⟨rfl,hs.mut⟩
   refine aD (aA uY (aB eg hs.hb rfl (dM hs.p2 cM (show 0<=fy m x by omega) (show fy m x<_ by omega) (λ _ aky=>jm (-1:Int) hs.p2 bL aky (by omega) (λ _ hs=>pop (om 11 (fy m x)) (have hs:=Cp.shut (m:=pb m x (-1)) (⟨⟨hX.1.pr,hX.1.rc⟩,hX.2⟩) hs.p4.p4.p2.p4.p4;aJ (x:=(⟨11,0,fy m x,0,0⟩:bU)) hs.p1 fb rfl rfl (λ _ hs=>?_)))))));have hs:=hs.p1.p4.p4.p4.p4;rw[aef k10];exact⟨by rw[hgd];exactλ h=>c72 h.2,hs⟩
  have mG:¬ (x.kind=10/\m.eP.getD (fy m x).toNat 0≠i):=by omega
  have hs:=hs.drew;refine aE (x:=(⟨x.kind,x.eC,x.name,ge,gf,x.n,x.body,x.eo,x.at_⟩:aZ)) eI hs.p1.At ?_;have hs:=hs.p4;obtain⟨a,hX,hs⟩:=Cp.open hs;refine aD (aA oB (qZ (a.pv) ep hs.hb rfl (aT arf hs (C60 m.p a.pv (dK m x) _ (hX.1.pr _ (hK _ hs.aF)) iy.pz) (λ _ LQ hs=>?_))));refine⟨eZ (x:=(⟨x.kind,x.eC,x.name,ge,gf,x.n,x.body,x.eo,x.at_⟩:aZ)) eI hs.p6.At,?_⟩;have hs:=(Cp.shut (m:=m) (hX) hs.p4.p4.p4.p4.p4).p4
  have ha1:(dT m t i x).1=m:=by
   rcases(show x.kind=3\/x.kind=5\/x.kind=6\/x.kind=7 by omega)with h|h|h|h
   ·rw[Z0 h]
   ·rw[Z1 h]
   ·rw[Z2 h]
   ·rw[Z3 h]
  refine bD aqZ hs (H':=λ _=>lZ K e.b m.room (dT m t i x).2.1) (Φ:=λ v _=>v=Flat.val (dT m t i x).2.2) (λ F2 dY dW=>?_) ?_
  ·exact C170 K _ m i e t x (⟨x.kind,x.eC,x.name,ge,gf,x.n,x.body,x.eo,x.at_⟩:aZ) F2 _ dY (λ w' hc=>hK w' (dW w' hc).aF) ki hto zB hx (by omega)
  rintro _ _ rfl hs;refine aJ (x:=((dT m t i x).2.2:bU)) hs.p2 fb rfl rfl (λ _ hs=>?_);have hs:=hs.p2.p2.p4.p4.p4;rw[ha1];exact⟨mG,hs⟩
 rintro _ ⟨Z8,hs⟩ sK;have yf:=BS (m:=m) (t:=t) (i:=i) (x:=x);have akz:sn (TL (cT m.p) (cL m.p) t.names) (dT m t i x).2.1:=Jm ki iy.rm.2
 have Z9:xI (cT m.p) (cL m.p) { (dT m t i x).2.1 with cD:=gn (dT m t i x).2.1.cD}:=by
  show sn (TL _ _ (dT m t i x).2.1.names) _;rw[vt];exact Jn akz
 have ari:=(ZB (i:=i) (x:=x) hvo.mem hto).1;have aye:A7 { (dT m t i x).2.1 with cD:=gn (dT m t i x).2.1.cD}:=⟨ari.r,ari.b⟩;have hap:=BT (m:=m) (t:=t) (i:=i) (x:=x);refine aA QT (aS hs bL (dI rfl) rfl (λ _ hs=>have hs:=(hs.enc (cs':=Flat.enc ({ (dT m t i x).2.2 with t:=i}:bU)) rfl).p3;bD HE hs (H':=λ _=>lZ K e.b m.room { (dT m t i x).2.1 with cD:=gn (dT m t i x).2.1.cD}) (Φ:=λ _ _=>True) (λ F2 dY dW=>?_) ?_))
 ·exact(C171 K e.b m.room (dT m t i x).2.1 F2 (.slice none 0 0) [] [] (vM (gn t.cD)) _ (gn (dT m t i x).2.1.cD) _ dY (λ w' hc=>hK w' (dW w' hc).aF) (λ _ _=>dC.nil _ _) kR.nil (by rw[hap];exact sS) (by rw[hap];rfl) (by rw[hap];exact hk.2.2.pop) (Nat.zero_le _) Qi).mono λ _ _ r=>r.mono λ _ _ h=>⟨trivial,h.2⟩
 rintro _ _ _ hs;refine bD agv hs (H':=λ _=>lZ K e.b m.room (tQ m t i x)) (Φ:=λ _ _=>True) (λ F2 dY dW=>?_) ?_
 ·exact(C129 K e.b m.room { (dT m t i x).2.1 with cD:=gn (dT m t i x).2.1.cD} (tQ m t i x) _ _ _ F2 _ dY (λ w' hc=>hK w' (dW w' hc).aF) Z9 aye (qu Z9).1).mono λ _ _ r=>r.mono λ _ _ h=>⟨trivial,h.2⟩
 rintro _ _ _ hs;refine aE (x:=({ (dT m t i x).2.2 with t:=i}:bU)) fb hs.p1.At (aJ (x:=({ (dT m t i x).2.2 with t:=i}:bU)) hs.p3 fb rfl rfl (λ _ hs=>aE (x:=({ (dT m t i x).2.2 with t:=i}:bU)) fb hs.At ?_));have hs:=hs.drop.p1.drop.p1.drop.p1.p1;rw[<- yf]at hs;have hs:=xl hs;rw[Zr]at hs;rw[Nh,if_neg Z8];exact⟨rfl,hs.mut⟩
theorem C91(K:World->Prop)(p:Nat)(m:gW)(i:Int)(t:jP)(F:Nat->Prop)(w:World)(hF:(gI K p m).p w F)(hK:∀w',gq F w w'->K w')(iy:ou m)(rA:MB m.mem 1000000)(h0:0<=i)(ht:m.l[i.toNat]?=some t)(ayf:t.fault=0->∃x a b,oQ t.cD=some (x,a,b)) :
   CR 91 [.pointer (some ⟨p,0,none⟩),.int .i64 i] w (λ v w'=>v=Flat.val (ie m i).2/\mL F (gI K p (ie m i).1) w w'):=by
 have hs:=St.begin hF;have BN:=List.mem_of_getElem? ht;have ki:=iy.th t BN;have nH:=(List.getElem?_eq_some_iff.1 ht).1;have oZ:=C7 ki.p;have Ew:=ki.cl;have GH:=ki.bl;have YA:=ki.nb;have F4:=ki.rl;have how:=iy.ow;have ai3:(cL m.p).length<=500:=by unfold cL;rw[List.length_map];exact iy.pz.eG
 have ax9:(cT m.p).length<=250500:=mu iy.pz.toPS;refine aiV _ _ _ _ ?_;unfold S91;refine aM hs m7 (λ b4 _ hs=>?_);have hs:=(hs.enc (cs':=Flat.enc (⟨0,0,0,0,0⟩:bU)) rfl).p1;obtain⟨a,hu,hs⟩:=gI.open hs;have pg:=hs.p4.iP;refine aD (aA u5 (aB Ie hs.hb rfl ?_));obtain⟨e,he⟩:=gx a.ps (i:=i.toNat) (by omega);refine aO Kk (hs.p3).dX h0 he (λ q hq=>aE GA hq ?_);have hs:=YK hs.p4 he ht;obtain⟨bp,nv,rg,pl,es,hk,hs⟩:=eL.open hs;refine aD (aA wj (aB bL hs.hb rfl (bV (aC (λ c=>?_) (λ c=>?_)))))
 ·have Ur:ie m i=({m with fault:=t.fault,iS:=i},⟨16,i,t.fault,0,0⟩):=by unfold ie;rw[ht];dsimp only;rw[if_pos c]
  refine aD (aA wj (aB bL hs.hb rfl ?_));have hs:=eL.shut (Φ:=λ _=>True) (t:=t) hk hs.p4.p4.p4.p4.p4;have hs:=St.CV (H:=xZ K m.room) (x:=t) hs.p1.p1 (by omega) pg he;rw[mM ht]at hs;have hs:=gI.shut (m:=m) hu hs.p4.p4.p4.p4;refine bD agn hs (H':=λ _=>gI K p {m with fault:=t.fault,iS:=i}) (Φ:=λ v _=>v=Flat.val (⟨16,i,t.fault,0,0⟩:bU)) (λ F2 dY dW=>?_) ?_
  ·exact C158 K p m i t.fault F2 _ dY
  rintro _ _ rfl hs;refine aJ (x:=(⟨16,i,t.fault,0,0⟩:bU)) hs.p1 fb rfl rfl (λ _ hs=>aE fb hs.At ?_);rw[Ur];exact⟨rfl,hs.drop.mut⟩
 have hf0:t.fault=0:=by omega
 refine dN Yy (C137 K e.b t bp nv rg pl es _ _ hs.hb hs.p3.dX hs.p4.fk.1 (λ _ e=>hK _ (hs.aF.then e)) ki.p (by omega)) ?_;rintro v _ ⟨hex,hv⟩;have hs:=hs.ext hex
 rcases hv with⟨eD,_⟩|⟨x,xa,xb,xv,av,bv,ra,rb,BM,rfl,zB,_⟩
 ·obtain⟨_,_,_,h⟩:=ayf hf0;rw[eD]at h;cases h
 obtain⟨ge,gf,rfl,_,_⟩:=iV (zB _ (hK _ hs.aF))
 have Pj:∀w,K w->dC (λ _=>True) w (Flat.val ge) x.e/\dC (λ _=>True) w (Flat.val gf) x.f:=λ w hw=>by
  obtain⟨_,_,h4,h5,h6⟩:=iV (zB w hw);cases h4
  exact⟨h5,h6⟩
 obtain⟨⟨Qz,vD⟩,hv1,hv2⟩:=iy.st t BN hf0 _ _ _ BM;obtain⟨hx,_,_,_,_,_,_,_,r,en,p',A0,sr,ar⟩:=ki.top BM;have iL:(Bk.cons x xa xb r).str:=ki.p.st _ (by rw[A0];exact List.mem_cons_self ..);have hxe:=hx.e;have ht1:{t with fault:=if (eF t x.e).2=true then t.fault else 2}=t:=by rw[hv1];rfl
 refine aN rfl (aN rfl (aN rfl (aN rfl (have hs:=eL.shut (Φ:=λ _=>True) (t:=t) hk hs.p4.p4.p4.p4.p4;aM hs jq (λ b6 _ hs=>aJ (x:=(⟨x.kind,x.eC,x.name,ge,gf,x.n,x.body,x.eo,x.at_⟩:aZ)) hs eI rfl rfl (λ _ hs=>have hs:=hs.drew;aD (aA Ig (aB iZ hs.p3.hb rfl (aA fU (aB (v:=.string x.name) gj hs.hb rfl (aD (aA Ih ?_))))))))))));refine aB iZ hs.p3.hb rfl (aA fU (aB (v:=.string x.name) gj hs.hb rfl (aT GU hs (C159 _ (cT m.p) x.name _ (hu.cs _ (hK _ hs.aF)) (by omega)) (λ _ LQ hs=>?_))));refine⟨aG iZ (hs.p3.hb.cell rfl),?_⟩
 refine⟨aG gj (hs.hb.cell rfl),?_⟩;refine aT GU hs (C159 _ (cL m.p) x.name _ (hu.ks _ (hK _ hs.aF)) (by omega)) (λ _ LQ hs=>aD (aA CT (qZ (a.pv) ep hs.p3.hb rfl (aT apj hs (C52 m.p a.pv _ _ (hu.pr _ (hK _ hs.aF)) iy.pz) (λ _ LQ hs=>aM hs m7 (λ b13 _ hs=>?_))))));have hs:=mP.shut (m:=m) (⟨hu,he,pg,by omega⟩) ((((((hs.enc (cs':=Flat.enc (⟨0,0,0,0,0⟩:bU)) rfl).p3).p7).p7).p7).p7);obtain⟨c,hc⟩:∃c,c=dK m x:=⟨_,rfl⟩;obtain⟨lk,hlk⟩:∃lk,lk=fy m x:=⟨_,rfl⟩;obtain⟨ln,FY⟩:∃ln,ln=ft m x:=⟨_,rfl⟩;have hs:=hs.p3.p4.p4.p4;have Nh:ie m i=(if x.kind=10/\m.eP.getD (fy m x).toNat 0≠i then({m with fault:=3,iS:=i},⟨16,i,3,0,0⟩)else({ (dT m t i x).1 with l:=m.l.set i.toNat (tQ m t i x)},{ (dT m t i x).2.2 with t:=i})):=by unfold ie;rw[ht];dsimp only;rw[if_neg (by omega),BM]
 refine⟨λ w'=>¬ (x.kind=10/\m.eP.getD (fy m x).toNat 0≠i)/\St w F [bY b13 (Flat.enc ((dT m t i x).2.2)),bY b6 (Flat.enc (⟨x.kind,x.eC,x.name,ge,gf,x.n,x.body,x.eo,x.at_⟩:aZ)),bY b4 (Flat.enc (⟨0,0,0,0,0⟩:bU)),rh K e.b m.room (dT m t i x).2.1,mP K p (dT m t i x).1 i.toNat e] w',?_,?_⟩
 ·refine aA dJ (aB (v:=.int .i64 x.kind) bL hs.p1.hb rfl (aH (aC (λ k2=>?_) (λ k2=>?_))))
  ·have hA:(dT m t i x)=(m,oR t x.eC (gY m t (dK m x)),xc m t x):=by unfold dT;rw[if_pos k2]
   have mG:¬ (x.kind=10/\m.eP.getD (fy m x).toNat 0≠i):=by omega
   refine aE eI hs.p1.At (have hs:=St.join hs.p4.p4;bD aqb hs (H':=λ _=>sep (rh K e.b m.room (oR t x.eC (gY m t (dK m x)))) (mP K p m i.toNat e)) (Φ:=λ v _=>v=Flat.val (xc m t x)) (λ F2 dY dW=>?_) ?_)
   ·exact C160 K p m i.toNat e t x ⟨x.kind,x.eC,x.name,ge,gf,x.n,x.body,x.eo,x.at_⟩ F2 (dK m x) _ dY (λ w' hc=>hK w' (dW w' hc).aF) ki iy.mem zB (hx.rg (by omega))
   rintro _ _ rfl hs;have hs:=hs.split;refine aJ (x:=(xc m t x:bU)) hs.p2 fb rfl rfl (λ _ hs=>?_);have hs:=hs.p2.p2.p4.p4.p4;rw[hA];exact⟨mG,hs⟩
  refine aH (aC (λ k3=>?_) (λ k3=>?_))
  ·have hA:(dT m t i x)=(m,pH m t ⟨3,ft m x,dK m x,(eF t x.e).1⟩,⟨3,0,dK m x,(eF t x.e).1,0⟩):=by unfold dT;rw[if_neg k2,if_pos k3]
   have mG:¬ (x.kind=10/\m.eP.getD (fy m x).toNat 0≠i):=by omega
   refine aA iN (aB (v:=Flat.val ge) jo hs.p1.hb rfl (have hs:=hs.p3;bD Mk hs (H':=λ _=>rh K e.b m.room t) (Φ:=λ v _=>v=.tuple #[.int .i64 (eF t x.e).1,.bool (eF t x.e).2]) (λ F2 dY dW=>?_) ?_))
   ·have:=C161 K _ e.b m.room t F2 _ x.e _ dY (λ w' hc=>hK w' (dW w' hc).aF) (Pj _ (hK _ hs.aF)).1 (by omega) (by omega);rw[ht1]at this;exact this
   rintro _ _ rfl hs;refine aN rfl (aN rfl ?_);obtain⟨bp,nv,rg,pl,es,hk,hs⟩:=eL.open hs;refine aD (aA oD (aB zR hs.hb rfl (pop (wY 3 (ft m x) (dK m x) (eF t x.e).1) (have hs:=hs.p1;bD QF hs (H':=λ _=>ja bp m.room (sg m.room t.buf (⟨3,ft m x,dK m x,(eF t x.e).1⟩:bH))) (Φ:=λ _ _=>True) (λ F2 dY dW=>?_) ?_))))
   ·exact(C162 bp m.room t.buf (⟨3,ft m x,dK m x,(eF t x.e).1⟩:bH) F2 _ dY (by omega)).mono λ _ _ r=>r.mono λ _ _ h=>⟨trivial,h.2⟩
   rintro _ _ _ hs;refine pop (mB 3 (dK m x) (eF t x.e).1) (have hs:=eL.shut (Φ:=λ _=>True) (t:=pH m t (⟨3,ft m x,dK m x,(eF t x.e).1⟩:bH)) hk hs.p4.p4.p4.p3.p4;aJ (x:=(⟨3,0,dK m x,(eF t x.e).1,0⟩:bU)) hs.p1 fb rfl rfl (λ w14' hs=>?_));have hs:=hs.p4.p2.p4.p4.p4;rw[hA];exact⟨mG,hs⟩
  refine aH (aC (λ k5=>?_) (λ k5=>?_))
  ·have hA:(dT m t i x)=(m,pH m t ⟨5,ft m x,0,0⟩,⟨4,0,ft m x,0,0⟩):=by unfold dT;rw[if_neg k2,if_neg k3,if_pos k5]
   have mG:¬ (x.kind=10/\m.eP.getD (fy m x).toNat 0≠i):=by omega
   have hs:=hs.p3;obtain⟨bp,nv,rg,pl,es,hk,hs⟩:=eL.open hs;refine aD (aA oD (aB zR hs.hb rfl (pop (vk 5 (ft m x)) (have hs:=hs.p1;bD QF hs (H':=λ _=>ja bp m.room (sg m.room t.buf (⟨5,ft m x,0,0⟩:bH))) (Φ:=λ _ _=>True) (λ F2 dY dW=>?_) ?_))))
   ·exact(C162 bp m.room t.buf (⟨5,ft m x,0,0⟩:bH) F2 _ dY (by omega)).mono λ _ _ r=>r.mono λ _ _ h=>⟨trivial,h.2⟩
   rintro _ _ _ hs;refine pop (om 4 (ft m x)) (have hs:=eL.shut (Φ:=λ _=>True) (t:=pH m t (⟨5,ft m x,0,0⟩:bH)) hk hs.p4.p4.p4.p3.p4;aJ (x:=(⟨4,0,ft m x,0,0⟩:bU)) hs.p1 fb rfl rfl (λ w16' hs=>?_));have hs:=hs.p4.p2.p4.p4.p4;rw[hA];exact⟨mG,hs⟩
  refine aH (aC (λ k6=>?_) (λ k6=>?_))
  ·have hA:(dT m t i x)=(m,pH m t ⟨6,ft m x,0,0⟩,⟨5,0,ft m x,0,0⟩):=by unfold dT;rw[if_neg k2,if_neg k3,if_neg k5,if_pos k6]
   have mG:¬ (x.kind=10/\m.eP.getD (fy m x).toNat 0≠i):=by omega
   have hs:=hs.p3;obtain⟨bp,nv,rg,pl,es,hk,hs⟩:=eL.open hs;refine aD (aA oD (aB zR hs.hb rfl (pop (vk 6 (ft m x)) (have hs:=hs.p1;bD QF hs (H':=λ _=>ja bp m.room (sg m.room t.buf (⟨6,ft m x,0,0⟩:bH))) (Φ:=λ _ _=>True) (λ F2 dY dW=>?_) ?_))))
   ·exact(C162 bp m.room t.buf (⟨6,ft m x,0,0⟩:bH) F2 _ dY (by omega)).mono λ _ _ r=>r.mono λ _ _ h=>⟨trivial,h.2⟩
   rintro _ _ _ hs;refine pop (om 5 (ft m x)) (have hs:=eL.shut (Φ:=λ _=>True) (t:=pH m t (⟨6,ft m x,0,0⟩:bH)) hk hs.p4.p4.p4.p3.p4;aJ (x:=(⟨5,0,ft m x,0,0⟩:bU)) hs.p1 fb rfl rfl (λ w18' hs=>?_));have hs:=hs.p4.p2.p4.p4.p4;rw[hA];exact⟨mG,hs⟩
  refine aH (aC (λ k7=>?_) (λ k7=>?_))
  ·have hA:(dT m t i x)=(m,pH m t ⟨7,0,0,0⟩,⟨6,0,0,0,0⟩):=by unfold dT;rw[if_neg k2,if_neg k3,if_neg k5,if_neg k6,if_pos k7]
   have mG:¬ (x.kind=10/\m.eP.getD (fy m x).toNat 0≠i):=by omega
   have hs:=hs.p3;obtain⟨bp,nv,rg,pl,es,hk,hs⟩:=eL.open hs;refine aD (aA oD (aB zR hs.hb rfl (pop (z6 7) (have hs:=hs.p1;bD QF hs (H':=λ _=>ja bp m.room (sg m.room t.buf (⟨7,0,0,0⟩:bH))) (Φ:=λ _ _=>True) (λ F2 dY dW=>?_) ?_))))
   ·exact(C162 bp m.room t.buf (⟨7,0,0,0⟩:bH) F2 _ dY (by omega)).mono λ _ _ r=>r.mono λ _ _ h=>⟨trivial,h.2⟩
   rintro _ _ _ hs;refine pop (I8 6) (have hs:=eL.shut (Φ:=λ _=>True) (t:=pH m t (⟨7,0,0,0⟩:bH)) hk hs.p4.p4.p4.p3.p4;aJ (x:=(⟨6,0,0,0,0⟩:bU)) hs.p1 fb rfl rfl (λ w20' hs=>?_));have hs:=hs.p4.p2.p4.p4.p4;rw[hA];exact⟨mG,hs⟩
  refine aH (aC (λ k8=>?_) (λ k8=>?_))
  ·have hA:(dT m t i x)=(m,t,⟨7,0,0,0,0⟩):=by unfold dT;rw[if_neg k2,if_neg k3,if_neg k5,if_neg k6,if_neg k7,if_pos k8]
   have mG:¬ (x.kind=10/\m.eP.getD (fy m x).toNat 0≠i):=by omega
   refine pop (I8 7) (aJ (x:=(⟨7,0,0,0,0⟩:bU)) hs fb rfl rfl (λ _ hs=>?_));have hs:=hs.p4.p4.p4.p4.p4;rw[hA];exact⟨mG,hs⟩
  refine aH (aC (λ k4=>?_) (λ k4=>?_))
  ·have hA:(dT m t i x)=(rk m t x,oR t x.eC (jy m.mem (dK m x)),tu m t x):=by unfold dT;rw[if_neg k2,if_neg k3,if_neg k5,if_neg k6,if_neg k7,if_neg k8,if_pos k4]
   have mG:¬ (x.kind=10/\m.eP.getD (fy m x).toNat 0≠i):=by omega
   refine aE eI hs.p1.At (have hs:=St.join hs.p4.p4;bD aqc hs (H':=λ _=>sep (rh K e.b m.room (oR t x.eC (jy m.mem (dK m x)))) (mP K p (rk m t x) i.toNat e)) (Φ:=λ v _=>v=Flat.val (tu m t x)) (λ F2 dY dW=>?_) ?_)
   ·exact C163 K p m i.toNat e t x ⟨x.kind,x.eC,x.name,ge,gf,x.n,x.body,x.eo,x.at_⟩ F2 _ dY (λ w' hc=>hK w' (dW w' hc).aF) ki iy.mem zB (hx.rg (by omega)) rA hxe hv1 hv2
   rintro _ _ rfl hs;have hs:=hs.split;refine aJ (x:=(tu m t x:bU)) hs.p2 fb rfl rfl (λ _ hs=>?_);have hs:=hs.p2.p2.p4.p4.p4;rw[hA];exact⟨mG,hs⟩
  have Z7:x.kind=9\/x.kind=10:=by omega
  obtain⟨j,hj,BA,_⟩:=lF (dH.1 (hx.lk Z7));have Dt:=(List.getElem?_eq_some_iff.1 BA).1;have hjk:fy m x=(j:Int):=hj;refine aH (aC (λ k9=>?_) (λ k9=>?_))
  ·have hA:(dT m t i x)=(pb m x i,t,⟨10,0,fy m x,0,0⟩):=by unfold dT;rw[if_neg k2,if_neg k3,if_neg k5,if_neg k6,if_neg k7,if_neg k8,if_neg k4,if_pos k9]
   have mG:¬ (x.kind=10/\m.eP.getD (fy m x).toNat 0≠i):=by omega
   have hs:=hs.p4;obtain⟨a,hX,hs⟩:=mP.open hs;refine aD (aA u0 (aB eg hs.hb rfl (dM hs.p2 cM (show 0<=fy m x by omega) (show fy m x<_ by omega) (λ _ arj=>jm (i:Int) hs.p2 bL arj (by omega) (λ _ hs=>pop (om 10 (fy m x)) (have hs:=mP.shut (m:=pb m x i) (⟨⟨hX.1.pr,hX.1.cs,hX.1.ks,hX.1.mem,hX.1.rc⟩,hX.2⟩) hs.p4.p4.p2.p4.p4;aJ (x:=(⟨10,0,fy m x,0,0⟩:bU)) hs.p1 fb rfl rfl (λ _ hs=>?_)))))));have hs:=hs.p1.p4.p4.p4.p4;rw[hA];exact⟨mG,hs⟩
  have hA:(dT m t i x)=(pb m x (-1),t,⟨11,0,fy m x,0,0⟩):=by unfold dT;rw[if_neg k2,if_neg k3,if_neg k5,if_neg k6,if_neg k7,if_neg k8,if_neg k4,if_neg k9]
  have hs:=hs.p4;obtain⟨a,hX,hs⟩:=mP.open hs;have hwl:=(hs.p2).dX;obtain⟨ov,YM⟩:=gx m.eP (i:=(fy m x).toNat) (by omega);have hgd:m.eP.getD (fy m x).toNat 0=ov:=by rw[List.getD_eq_getElem?_getD,YM];rfl
  refine aD (aA u0 (aB eg hs.hb rfl (aO cM hwl (show 0<=fy m x by omega) YM (λ q69 h69=>aE bL h69 (bV (aC (λ c72=>?_) (λ c72=>?_)))))))
  ·have hs:=hs.p4;have hs:=wZ ((mP.shut (m:=m) (hX) hs.p4.p4.p4.p4).p4);rw[mM ht]at hs;refine bD agn hs (H':=λ _=>gI K p {m with fault:=3,iS:=i}) (Φ:=λ v _=>v=Flat.val (⟨16,i,3,0,0⟩:bU)) (λ F2 dY dW=>?_) ?_
   ·exact C158 K p m i 3 F2 _ dY
   rintro _ _ rfl hs;refine aJ (x:=(⟨16,i,3,0,0⟩:bU)) hs.p3 fb rfl rfl (λ _ hs=>aE fb hs.At ?_);have hs:=hs.drop.p1.drop.p1.drop;rw[Nh,if_pos ⟨by omega,by rw[hgd];exact c72⟩];exact⟨rfl,hs.mut⟩
  refine aD (aA u0 (aB eg hs.hb rfl (dM hs.p2 cM (show 0<=fy m x by omega) (show fy m x<_ by omega) (λ _ aky=>jm (-1:Int) hs.p2 bL aky (by omega) (λ _ hs=>pop (om 11 (fy m x)) (have hs:=mP.shut (m:=pb m x (-1)) (⟨⟨hX.1.pr,hX.1.cs,hX.1.ks,hX.1.mem,hX.1.rc⟩,hX.2⟩) hs.p4.p4.p2.p4.p4;aJ (x:=(⟨11,0,fy m x,0,0⟩:bU)) hs.p1 fb rfl rfl (λ _ hs=>?_)))))));have hs:=hs.p1.p4.p4.p4.p4;rw[hA];exact⟨by rw[hgd];exactλ h=>c72 h.2,hs⟩
 rintro _ ⟨Z8,hs⟩ _;have ayg:(dT m t i x).2.1.cD=(.cons x xa xb r,en)::p':=by rw[BT];exact A0
 have yf:=BS (m:=m) (t:=t) (i:=i) (x:=x);have akz:sn (TL (cT m.p) (cL m.p) t.names) (dT m t i x).2.1:=Jm ki iy.rm.2
 have Z9:xI (cT m.p) (cL m.p) { (dT m t i x).2.1 with cD:=gn (dT m t i x).2.1.cD}:=by
  show sn (TL _ _ (dT m t i x).2.1.names) _;rw[vt];exact Jn akz
 refine aA QT (aS hs bL (dI rfl) rfl (λ _ hs=>have hs:=(hs.enc (cs':=Flat.enc ({ (dT m t i x).2.2 with t:=i}:bU)) rfl).p3;bD Mj hs (H':=λ _=>rh K e.b m.room { (dT m t i x).2.1 with cD:=gn (dT m t i x).2.1.cD}) (Φ:=λ _ _=>True) (λ F2 dY dW=>?_) ?_))
 ·exact(C164 K _ e.b m.room (dT m t i x).2.1 F2 x xa xb r en p' _ dY (λ w' hc=>hK w' (dW w' hc).aF) ayg iL (by rw[BT];omega)).mono λ _ _ r=>r.mono λ _ _ h=>⟨trivial,h.2⟩
 rintro _ _ _ hs;refine bD agi hs (H':=λ _=>rh K e.b m.room (tQ m t i x)) (Φ:=λ _ _=>True) (λ F2 dY dW=>?_) ?_
 ·exact(C117 K e.b m.room { (dT m t i x).2.1 with cD:=gn (dT m t i x).2.1.cD} (tQ m t i x) _ _ _ F2 _ dY (λ w' hc=>hK w' (dW w' hc).aF) Z9 (qu Z9).1).mono λ _ _ r=>r.mono λ _ _ h=>⟨trivial,h.2⟩
 rintro _ _ _ hs;refine aE (x:=({ (dT m t i x).2.2 with t:=i}:bU)) fb hs.p1.At (aJ (x:=({ (dT m t i x).2.2 with t:=i}:bU)) hs.p3 fb rfl rfl (λ _ hs=>aE fb hs.At ?_));have hs:=hs.drop.p1.drop.p1.drop.p1.p1;rw[<- yf]at hs;have hs:=wZ hs;rw[Zr]at hs;rw[Nh,if_neg Z8];exact⟨rfl,hs.mut⟩
theorem C90(K:World->Prop)(p:Nat)(m:gW)(q:cA)(gc:SV)(t:jP)(F:Nat->Prop)(w:World)(hF:(gI K p m).p w F)(hK:∀w',gq F w w'->K w')(iy:ou m)(rA:MB m.mem 1000000)(h0:0<=q.t)(ht:m.l[q.t.toNat]?=some t) :
   CR 90 [.pointer (some ⟨p,0,none⟩),Flat.val (⟨q.kind,q.t,q.i,gc⟩:bF)] w (λ v w'=>v=Flat.val (sN q.t (dB t.buf q.i))/\mL F (gI K p (sP m t q)) w w'):=by
 have hs:=St.begin hF;have BN:=List.mem_of_getElem? ht;have ki:=iy.th t BN;have nH:=(List.getElem?_eq_some_iff.1 ht).1;have GH:=ki.bl;refine oY Tryz.func90 (pl:=P90) ?_;refine cI (x:=(⟨q.kind,q.t,q.i,gc⟩:bF)) hs (λ b3 _ hs=>aM hs m7 (λ b4 _ hs=>?_));have hs:=(hs.enc (cs':=Flat.enc (⟨0,0,0,0,0⟩:bU)) rfl).p2;obtain⟨a,hu,hs⟩:=gI.open hs;have pg:=hs.p4.iP;obtain⟨e,he⟩:=gx a.ps (i:=q.t.toNat) (by omega);refine⟨λ x5 w'=>∃b5,x5=.pointer (some ⟨b5,0,none⟩)/\St w F [bY b5 (Flat.enc (dB t.buf q.i)),bY b4 (Flat.enc (⟨0,0,0,0,0⟩:bU)),bY b3 (Flat.enc (⟨q.kind,q.t,q.i,gc⟩:bF)),rh K e.b m.room ({t with buf:=jL t.buf q.i}),mP K p m q.t.toNat e] w',?_,?_⟩
 ·have hs:=hs.drew;refine aD (aA u5 (aB Ie hs.hb rfl (aA mK (aB (v:=.int .i64 q.t) bL hs.p6.hb rfl (dM hs.p3 Kk h0 (by have:=pg;omega) (λ q14 Wp=>gD hs.p3 GA Wp he ?_))))));have hs:=YK hs.p4 he ht;obtain⟨bp,nv,rg,pl,es,hk,hs⟩:=eL.open hs;refine aD (aA oD (aB zR hs.hb rfl (aA sU (aB (v:=.int .i64 q.i) bL hs.p11.hb rfl ⟨?_,?_,trivial⟩))))
  ·have hs:=hs.p1;refine bD aeV hs (H':=λ _=>ja bp m.room (jL t.buf q.i)) (Φ:=λ v _=>v=.tuple #[Flat.val (dB t.buf q.i),.int .i64 (wR t.buf q.i)]) (λ F2 dY dW=>?_) ?_
   ·exact C155 bp m.room t.buf q.i F2 _ dY (by omega)
   rintro _ _ rfl hs;refine aN rfl (aN rfl (aM hs qX (λ b5 _ hs=>?_)));refine⟨aG Ie (hs.p7.hb.cell rfl),?_⟩;refine⟨aG bL (hs.p12.hb.cell (v:=.int .i64 q.t) rfl),?_⟩;refine⟨Q1 hs.p10 GA Wp he,?_⟩;refine⟨aG zR (hs.p2.hb.cell rfl),?_⟩;refine⟨aG bL (hs.p12.hb.cell (v:=.int .i64 q.i) rfl),?_⟩;exact aJ (x:=(dB t.buf q.i)) hs ic rfl rfl (λ _ hs=>have hs:=eL.shut (Φ:=λ _=>True) (t:={t with buf:=jL t.buf q.i}) hk hs.p5.p5.p5.p4.p5;have hs:=mP.shut (m:=m) ⟨hu,he,pg,by omega⟩ hs.p2.p6.p6.p6.p6;have hs:=hs.p1.p4.p4.p4;⟨b5,rfl,hs⟩)
  refine aM hs qX (λ b5 _ hs=>?_);refine⟨aG Ie (hs.p7.hb.cell rfl),?_⟩;refine⟨aG bL (hs.p12.hb.cell (v:=.int .i64 q.t) rfl),?_⟩;refine⟨Q1 hs.p10 GA Wp he,?_⟩;refine⟨aG zR (hs.p1.hb.cell rfl),?_⟩;refine⟨aG bL (hs.p12.hb.cell (v:=.int .i64 q.i) rfl),?_⟩;have hs:=hs.p2;refine bD aeV hs (H':=λ _=>ja bp m.room (jL t.buf q.i)) (Φ:=λ v _=>v=.tuple #[Flat.val (dB t.buf q.i),.int .i64 (wR t.buf q.i)]) (λ F2 dY dW=>?_) ?_
  ·exact C155 bp m.room t.buf q.i F2 _ dY (by omega)
  rintro _ _ rfl hs;exact aN rfl (aN rfl (aJ (x:=(dB t.buf q.i)) hs.p1 ic rfl rfl (λ _ hs=>have hs:=eL.shut (Φ:=λ _=>True) (t:={t with buf:=jL t.buf q.i}) hk hs.p5.p5.p5.p4.p5;have hs:=mP.shut (m:=m) ⟨hu,he,pg,by omega⟩ hs.p2.p6.p6.p6.p6;have hs:=hs.p1.p4.p4.p4;⟨b5,rfl,hs⟩)))
 rintro _ _ ⟨b5,rfl,hs⟩ _;refine aA gv (aB (v:=.int .i64 (dB t.buf q.i).kind) bL hs.hb rfl (aH (aC (λ c=>?_) (λ c=>?_))))
 ·have hs:=hs.p4;obtain⟨a,hX,hs⟩:=mP.open hs;have hs:=hs.drew;refine aD (aA sW (aB Kj hs.hb rfl (aA mc (aB (v:=.int .i64 (dB t.buf q.i).cell) bL hs.p5.hb rfl (aA oG (aB (v:=.int .i64 (dB t.buf q.i).n) bL hs.p5.hb rfl (have hs:=hs.p1;bD aeW hs (H':=λ _=>iB a.q a.ov a.fv (fh m.mem (dB t.buf q.i).cell (dB t.buf q.i).n)) (Φ:=λ _ _=>True) (λ F2 dY dW=>?_) ?_)))))))
  ·exact(C156 a.q a.ov a.fv m.mem F2 _ _ _ dY (λ w' hc=>hX.1.mem _ (hK w' (dW w' hc).aF)) iy.mem rA).mono λ _ _ r=>r.mono λ _ _ h=>⟨trivial,h.2⟩
  rintro _ _ _ hs;refine aA mK (aB (v:=.int .i64 q.t) bL hs.p7.hb rfl (aA mc (aB (v:=.int .i64 (dB t.buf q.i).cell) bL hs.p5.hb rfl (aA oG (aB (v:=.int .i64 (dB t.buf q.i).n) bL hs.p5.hb rfl (pop (yw 12 q.t (dB t.buf q.i).cell (dB t.buf q.i).n) (aJ (x:=(⟨12,q.t,(dB t.buf q.i).cell,(dB t.buf q.i).n,0⟩:bU)) hs.p6 fb rfl rfl (λ _ hs=>aE fb hs.At ?_))))))));have Pd:jM m.mem (dB t.buf q.i)=fh m.mem (dB t.buf q.i).cell (dB t.buf q.i).n:=by unfold jM;rw[if_pos c]
  have Z6:sN q.t (dB t.buf q.i)=⟨12,q.t,(dB t.buf q.i).cell,(dB t.buf q.i).n,0⟩:=by unfold sN;rw[if_pos c]
  have hs:=mP.shut (m:={m with mem:=fh m.mem (dB t.buf q.i).cell (dB t.buf q.i).n}) ⟨⟨hX.1.pr,hX.1.cs,hX.1.ks,λ w hw=>(hX.1.mem w hw).write,hX.1.rc⟩,hX.2⟩ hs.drop.p6.drop.p5.drop.p4.p4.p4.p3.p4;have hs:=wZ (m:={m with mem:=fh m.mem (dB t.buf q.i).cell (dB t.buf q.i).n}) (tp:=e) (t:={t with buf:=jL t.buf q.i}) hs.p1;have JP:sP m t q={ {m with mem:=fh m.mem (dB t.buf q.i).cell (dB t.buf q.i).n}with l:=m.l.set q.t.toNat ({t with buf:=jL t.buf q.i})}:=by unfold sP;rw[Pd]
  rw[JP,Z6];exact⟨rfl,hs.mut⟩
 refine aH (aC (λ c2=>?_) (λ c2=>?_))
 ·refine aA mK (aB (v:=.int .i64 q.t) bL hs.p2.hb rfl (pop (Hh 14 q.t) (aJ (x:=(⟨14,q.t,0,0,0⟩:bU)) hs.p1 fb rfl rfl (λ _ hs=>aE fb hs.At ?_))));have hs:=hs.p4;obtain⟨a,hX,hs⟩:=mP.open hs;have Pd:jM m.mem (dB t.buf q.i)=m.mem:=by unfold jM;rw[if_neg c,if_pos c2]
  have Z6:sN q.t (dB t.buf q.i)=⟨14,q.t,0,0,0⟩:=by unfold sN;rw[if_neg c,if_pos c2]
  have hs:=mP.shut (m:={m with mem:=m.mem}) hX (((hs.p5.drop.p6.drop.p5.drop.p4.p4.p4).p4).p4);have hs:=wZ (m:={m with mem:=m.mem}) (tp:=e) (t:={t with buf:=jL t.buf q.i}) hs.p1;have JP:sP m t q={ {m with mem:=m.mem}with l:=m.l.set q.t.toNat ({t with buf:=jL t.buf q.i})}:=by unfold sP;rw[Pd]
  rw[JP,Z6];exact⟨rfl,hs.mut⟩
 have hs:=hs.p4;obtain⟨a,hX,hs⟩:=mP.open hs;have hs:=hs.drew;refine aD (aA sW (aB Kj hs.hb rfl (aA gQ (aB (v:=.int .i64 (dB t.buf q.i).line) bL hs.p5.hb rfl (have hs:=hs.p1;bD al6 hs (H':=λ _=>iB a.q a.ov a.fv (nV m.mem (dB t.buf q.i).line)) (Φ:=λ _ _=>True) (λ F2 dY dW=>?_) ?_)))))
 ·exact(C157 a.q a.ov a.fv m.mem F2 _ _ dY (λ w' hc=>hX.1.mem _ (hK w' (dW w' hc).aF)) iy.mem rA).mono λ _ _ r=>r.mono λ _ _ h=>⟨trivial,h.2⟩
 rintro _ _ _ hs;refine aA mK (aB (v:=.int .i64 q.t) bL hs.p7.hb rfl (aA gQ (aB (v:=.int .i64 (dB t.buf q.i).line) bL hs.p5.hb rfl (pop (tn 13 q.t (dB t.buf q.i).line) (aJ (x:=(⟨13,q.t,(dB t.buf q.i).line,0,0⟩:bU)) hs.p6 fb rfl rfl (λ _ hs=>aE fb hs.At ?_))))));have Pd:jM m.mem (dB t.buf q.i)=nV m.mem (dB t.buf q.i).line:=by unfold jM;rw[if_neg c,if_neg c2]
 have Z6:sN q.t (dB t.buf q.i)=⟨13,q.t,(dB t.buf q.i).line,0,0⟩:=by unfold sN;rw[if_neg c,if_neg c2]
 have hs:=mP.shut (m:={m with mem:=nV m.mem (dB t.buf q.i).line}) ⟨⟨hX.1.pr,hX.1.cs,hX.1.ks,λ w hw=>(hX.1.mem w hw).out,hX.1.rc⟩,hX.2⟩ hs.drop.p6.drop.p5.drop.p4.p4.p4.p3.p4;have hs:=wZ (m:={m with mem:=nV m.mem (dB t.buf q.i).line}) (tp:=e) (t:={t with buf:=jL t.buf q.i}) hs.p1;have JP:sP m t q={ {m with mem:=nV m.mem (dB t.buf q.i).line}with l:=m.l.set q.t.toNat ({t with buf:=jL t.buf q.i})}:=by unfold sP;rw[Pd]
 rw[JP,Z6];exact⟨rfl,hs.mut⟩
theorem C56(K:World->Prop)(p:Nat)(m:gW)(qE:List cN)(lv:Value)(vl:List cE)(F:Nat->Prop)(w:World)(hF:(gI K p m).p w F)(hK:∀w',gq F w w'->K w')(hrm:1<=m.room/\m.room<=16)(hlk:(cL m.p).length<=1000)(hl:∀w',gq F w w'->dC (λ _=>True) w' lv vl)(htv:CF K vl qE)
   (ki:∀t∈qE,xI (cT m.p) (cL m.p) (vS t)/\t.body=(Hj t.body).flat) (hn:qE.length<=1000) :
   CR 56 [.pointer (some ⟨p,0,none⟩),lv] w (λ v w'=>v=.tuple #[]/\mL F (gI K p (qG m qE)) w w'):=by
 have hs:=St.begin hF;have Nv:=htv.1;refine oY Tryz.func56 (pl:=P56) ?_;obtain⟨a,hu,hs⟩:=gI.open hs;have pg:=hs.p4.iP;refine aD (aA u5 (aS hs Ie (dI rfl) rfl (λ _ hs=>aD (aA u0 (aS hs eg (dI rfl) rfl (λ _ hs=>aD (aA Ih (aB iZ hs.hb rfl (aI ik (hu.ks _ (hK _ hs.aF)) ?_)))))))));have hs:=(((hs.p2.drop.p2.drop.p2.drop.eJ (α:=Int)).p2).p1).p2;refine⟨λ mm x w'=>∃(k:Nat) (ov:Value),x=.int .i64 (k:Int)/\mm=(cL m.p).length-k/\k<=(cL m.p).length/\St w F [bY p (qF {a with ow:=ov,ll:=.slice none 0 0} m),bG ov (List.replicate k (-1:Int)),iB a.q a.ov a.fv m.mem] w',⟨_,0,_,rfl,rfl,Nat.zero_le _,hs⟩,?_⟩
 rintro mm _ _ ⟨k,ov,rfl,rfl,Qz,hs⟩ _;refine aQ (aC (λ c=>?_) (λ c=>?_))
 ·refine aD (aA u0 (aB eg hs.hb rfl (aX (([-1]:List Int)) hs cM rfl rfl (dI rfl) (λ s27 _ hs=>?_))));have akB:=(hs).dX;exact bI hs.p2 cM akB (by rw[List.length_replicate,List.length_singleton];omega) (by decide) (λ s28 _ hs=>have hs:=hs.p1.drop;aD (aA u0 (aS hs.p1 eg (dI rfl) ((hs).dX.one) (λ _ hs=>aK (by omega) ⟨_,by omega,k+1,s28,rfl,rfl,by omega,by rw[List.replicate_succ'];exact hs⟩))))
 refine aI fq (hl _ hs.aF) ?_;rw[show k=(cL m.p).length from by omega]at hs;have hs:=((((((hs.Ac (H:=xZ K m.room)).eJ (α:=Ptr)).p4).p4).p3).p3).p4;refine⟨λ mm x w'=>∃(j:Nat) (llv:Value) (ps:List Ptr),x=.int .i64 (j:Int)/\mm=vl.length-j/\j<=vl.length/\St w F [bY p (qF {a with ow:=ov,ll:=llv} m),bG llv ps,gS (xZ K m.room) ps ((qE.take j).map TQ),bG ov (List.replicate (cL m.p).length (-1:Int)),iB a.q a.ov a.fv m.mem] w',⟨_,0,_,_,rfl,rfl,Nat.zero_le _,hs⟩,?_⟩;rintro mm _ _ ⟨j,llv,ps,rfl,rfl,hj1,hs⟩ _;refine aQ (aC (λ c2=>?_) (λ c2=>?_));rotate_left
 ·rw[List.take_of_length_le (by omega)]at hs;have hs:=hs.p2.p2.p3.p4.p4;exact⟨rfl,(gI.shut (m:=qG m qE) (a:={a with ow:=ov,ll:=llv,ps:=ps}) ⟨hu.pr,hu.cs,hu.ks,hu.mem,hu.rc⟩ hs).mut⟩
 obtain⟨tv,Qj⟩:=gx vl (i:=((j:Nat):Int).toNat) (by omega);obtain⟨t,ht⟩:=gx qE (i:=j) (by omega);obtain⟨gr,gb,rows,rfl,hgr,hgb⟩:=htv.2 j _ _ Qj ht;obtain⟨Ni,hbk⟩:=ki t (List.mem_of_getElem? ht);have F4:t.dL.length<=1000:=Ni.nb;refine aO fq (hl _ hs.aF) (by omega) Qj (λ q36 h36=>aE mQ h36 (aM hs sZ (λ b5 _ hs=>aJ (x:=(⟨t.name,gr,gb,t.at_⟩:cE)) hs mQ rfl rfl (λ _ hs=>aD (aA abA (aB bL hs.p1.hb rfl (dN alQ (C49 m.room _) ?_)))))));rintro v43 _ hh;obtain⟨_,_,b43,rfl,cO⟩:=hh.resolve_left (λ _=>by omega);have hs:=hs.made cO;refine aN rfl (aN rfl (have hs:=hs.drew;aA fN (aB (v:=Flat.val gr) iZ hs.p1.hb rfl (aA fN (aB (v:=Flat.val gr) iZ hs.p1.hb rfl (aI ik (hgr _ (hK _ hs.aF)) (we (0:Int) hs cM ud (by omega) (by omega) (by decide) (λ s52 _ hs=>?_))))))))
 rw[Int.toNat_natCast]at hs;refine⟨aG iZ (hs.p2.hb.cell (v:=Flat.val gr) rfl),?_⟩;obtain⟨Fy,rfl⟩:=(hs).fC;refine pop (Ja (some ⟨b43,0,none⟩) gr.a gr.n gr.cap Fy.a Fy.n Fy.cap) (nk hs (λ Nj _ hs=>have hs:=(hs.eJ (α:=wW)).fT (Φ:=λ w=>Da K w [] []/\True) (λ _=>⟨trivial,trivial⟩);have hs:=eL.shut (Φ:=λ _=>True) (t:=(⟨t.dL,List.replicate t.dL.length 0,[],0,[]⟩:jP)) (es:=[]) hgr hs.p1.p3.p4.p4;aA lj (aB (v:=Flat.val gb) jF hs.p1.hb rfl (bD Mi hs (H':=λ _=>rh K Nj m.room (vS t)) (Φ:=λ _ _=>True) (λ F2 dY dW=>?_) ?_))))
 ·exact(C116 K _ Nj m.room ⟨t.dL,List.replicate t.dL.length 0,[],0,[]⟩ F2 gb rows (Hj t.body) false _ dY (λ w' hc=>hK w' (dW w' hc).aF) (λ w _=>by rw[<- hbk];exact hgb w) (show(0:Nat)<=100000 by decide)).mono λ _ _ r=>r.mono λ _ _ h=>⟨trivial,h.2⟩
 rintro _ _ _ hs;refine bD agi hs (H':=λ _=>rh K Nj m.room (TQ t)) (Φ:=λ _ _=>True) (λ F2 dY dW=>?_) ?_
 ·exact(C117 K Nj m.room (vS t) (TQ t) _ _ _ F2 _ dY (λ w' hc=>hK w' (dW w' hc).aF) Ni (qu Ni).1).mono λ _ _ r=>r.mono λ _ _ h=>⟨trivial,h.2⟩
 rintro _ _ _ hs;refine aD (aA u5 ?_);have oZ:=(hs.p4).iP;rw[List.length_map,List.length_take]at oZ;refine aB Ie hs.p2.hb rfl (aX ([(⟨Nj⟩:Ptr)]) hs Kk rfl rfl (dI rfl) (λ s67 _ hs=>?_));have aab:=(hs).dX;exact bI hs.p4 Kk aab (by simp;omega) (by decide) (λ s68 _ hs=>have hs:=(hs.p1).drop;aD (aA u5 (aS hs.p3 Ie (dI rfl) ((hs).dX.one) (λ _ hs=>have hs:=(((St.DX (H:=xZ K m.room) (p:=⟨Nj⟩) (x:=TQ t) (hs.p3.drop.p2.p3)).p4).p4).p2;have hs:=hs.p4.p4;aK (by omega) ⟨_,by omega,j+1,s68,ps++[⟨Nj⟩],rfl,rfl,by omega,by rw[<- fW (k:=j) ht];exact hs⟩))))
theorem ThK.mono{K K2:World->Prop}{tv:cE}{t:cN}(h:ThK K tv t)(hk:∀w,K2 w->K w):ThK K2 tv t:=by
 obtain⟨gr,gb,rows,e,h1,h2⟩:=h
 exact⟨gr,gb,rows,e,λ w hw=>h1 w (hk w hw),λ w=>⟨λ w' hw=>(h2 w).1 w' (hk w' hw),λ hw=>(h2 w).2 (hk w hw)⟩⟩
theorem CF.mono{K K2:World->Prop}{vl:List cE}{qE:List cN}(h:CF K vl qE)(hk:∀w,K2 w->K w):CF K2 vl qE:=⟨h.1,λ j tv t h1 h2=>(h.2 j tv t h1 h2).mono hk⟩
theorem Dk{p:cG}(hc:Ga p){t:cN}(ht:t∈gd p):t.body=(Hj t.body).flat:=by
 obtain⟨_,h2,_⟩:=hc.f.qE ht
 obtain⟨_,_,b,h5,h6,_⟩:=kU h2
 rw[h5,M4 h6]
def AZ(K:World->Prop)(lv:SV)(qE:List cN):Prop:=∃vl,(∀w,K w->dC (λ _=>True) w (Flat.val lv) vl)/\CF K vl qE
structure Nk(K:World->Prop)(pv:bO)(p:cG):Prop where
 pr:∀w,K w->Deep.dr w pv p
 th:AZ K pv.threads p.threads
 rc:AZ K pv.recover p.recover
def crD(m:gW)(q:cA):gW:=match iK m q with|some kW=>{m with mem:=my m.mem kW}|none=>m
def Dl(m:Mem)(cut:List Int)(v:Value)(m2:Mem):Prop:=(fw m cut=none/\m2=m/\v=.int .i64 1)\/∃kW,fw m cut=some kW/\m2=my m kW/\v=.int .i64 0
theorem Qk{m:Mem}{cut:List Int}{v:Value}{p:Nat}{ov fv:Value}{F:Nat->Prop}{w w':World}
  (h:(fw m cut=none/\v=.int .i64 1/\mL F (iB p ov fv m) w w')\/∃kW,fw m cut=some kW/\v=.int .i64 0/\mL F (iB p ov fv (my m kW)) w w') :
  True/\mL F (qd λ m2=>fact (Dl m cut v m2) (iB p ov fv m2)) w w':=by
 refine⟨trivial,?_⟩
 rcases h with⟨h1,h2,F',h3,h4,h5⟩|⟨kW,h1,h2,F',h3,h4,h5⟩
 ·exact⟨F',⟨m,.inl ⟨h1,rfl,h2⟩,h3⟩,h4,h5⟩
 exact⟨F',⟨my m kW,.inr ⟨kW,h1,rfl,h2⟩,h3⟩,h4,h5⟩
theorem agC(K:World->Prop):CF K [(⟨⟨#[]⟩,cH,cH,0⟩:cE)] [⟨⟨#[]⟩,[],[],0⟩]:=by
 refine⟨rfl,λ j tv t h1 h2=>?_⟩
 cases j with
 | zero=>
  cases h1;cases h2
  exact⟨cH,cH,[],rfl,λ w _=>dC.nil _ w,λ w=>⟨λ _ _=>jh.nil,λ _=>dC.nil _ w⟩⟩
 | succ j=>simp at h1
theorem ayi:PL 89:=dF Tryz.func89
theorem C12(K:World->Prop)(p:cG)(pv:bO)(room:Int)(w:World)(hw:∀w',Ext w w'->K w')(hp:Nk K pv p)(hz:PZ p):CR 12 [Flat.val pv,.int .i64 room] w (λ v w'=>(fj p≠0/\v=.tuple #[.pointer none,.int .i64 (fj p)]/\Ext w w')\/(fj p=0/\(room<1\/16<room)/\v=.tuple #[.pointer none,.int .i64 1]/\Ext w w')\/
  (fj p=0/\(1<=room/\room<=16)/\∃(b:Nat) (X:World->Prop),v=.tuple #[.pointer (some ⟨b,0,none⟩),.int .i64 0]/\lL (sep (gI (λ w=>K w/\X w) b (iT p room)) (fk X)) w w')):=by
 have hs:=St.start w;refine aiZ _ _ _ _ ?_;unfold S12;refine cI (x:=pv) hs (λ bp w1 hs=>aE ep hs.At (dN awm (C48 p pv _ (hp.pr _ (hw _ hs.aF)) hz) ?_));rintro _ _ ⟨aa,rfl,he⟩;have hs:=hs.ext he;refine aN rfl (aN rfl (bV (aC (λ c=>?_) (λ c=>?_))))
 ·exact .inl ⟨c,rfl,hs.drop.aF⟩
 have ze:fj p=0:=by omega
 have BW:=xO ze;have Ma:=Zv BW;have Ew:=AS p;refine dN alQ (C49 room _) ?_;rintro v3 _ hh
 rcases hh with⟨hrb,rfl,he⟩|⟨FQ,FI,b3,rfl,cO⟩
 ·have hs:=hs.ext he;exact aN rfl (aN rfl (bV (lQ (by decide) (.inr (.inl ⟨ze,hrb,rfl,hs.drop.aF⟩)))))
 have hs:=(hs.made cO).drop;refine aN rfl (aN rfl (bV (fE (by decide) (have hs:=hs.drew;aE ep hs.At (aE ep hs.At (aE ep hs.At (ek av0 hs (C50 p pv _ (hp.pr _ (hw _ hs.aF)) hz) (λ x31 _ cO hs=>?_))))))));refine⟨eZ ep hs.p1.At,?_⟩;refine⟨eZ ep hs.p1.At,?_⟩;refine ek av1 hs (C51 p pv _ (hp.pr _ (hw _ hs.aF)) hz) (λ x33 _ cO hs=>?_);refine⟨eZ ep hs.p2.At,?_⟩;obtain⟨svk,rfl⟩:=(hs).fC;obtain⟨svc,rfl⟩:=(hs.p1).fC;refine pop (F5 _ _ _ _ _ _ _ _ _ _ _ _ _ _ _ _ _ _ _ _ _ _ _ _ _) (nk hs (λ b36 w6 hs=>aD (aA Ig (aB iZ hs.hb rfl (aI ik (hs.p2).dX ?_)))))
 have hs:=hs.eJ (α:=Int);have hcs:St w aY [bG (.slice none 0 0) ([]:List Int),bY b36 (qF ⟨pv,svc,svk,0,.slice none 0 0,.slice none 0 0,.slice none 0 0,.slice none 0 0,[]⟩ (xd p room) |>.set 9 (.pointer none)),bG (Flat.val svk) (cL p),bG (Flat.val svc) (cT p),bY bp (Flat.enc pv)] w6:=hs;refine⟨λ mm o y w1=>∃k:Nat,y=.int .i64 (k:Int)/\mm=(cT p).length-k/\k<=(cT p).length/\St w aY [bG o ((AJ p).take k),bY b36 (qF ⟨pv,svc,svk,0,.slice none 0 0,.slice none 0 0,.slice none 0 0,.slice none 0 0,[]⟩ (xd p room) |>.set 9 (.pointer none)),bG (Flat.val svk) (cL p),bG (Flat.val svc) (cT p),bY bp (Flat.enc pv)] w1,⟨_,0,rfl,rfl,Nat.zero_le _,hcs⟩,?_⟩
 rintro mm o _ _ ⟨k,rfl,rfl,hk,hs⟩ _;have JG:(AJ p).length=(cT p).length:=by unfold AJ;rw[List.length_map,List.length_range]
 refine aQ (aC (λ c1=>?_) (λ c1=>?_))
 ·refine aE ep hs.p4.At (aT apj hs (C52 p pv (k:Int) _ (hp.pr _ (hw _ hs.aF)) hz) (λ _ he hs=>aX (([o9 p (k:Int)]:List Int)) hs cM rfl rfl (dI rfl) (λ s49 _ hs=>?_)));have akC:=(hs).dX;exact bI hs.p1 cM akC (by rw[List.length_take,List.length_singleton];omega) (by decide) (λ _ _ hs=>aK (by omega) ⟨_,by omega,k+1,rfl,rfl,by omega,by rw[<- gz (Jr (p:=p) (i:=k) (by omega))];exact hs.p1.drop⟩)
 rw[List.take_of_length_le (by omega)]at hs;have hs:=hs.drew;refine aE ep hs.p4.At (aE ep hs.p4.At (aT XO hs (C54 p pv _ (hp.pr _ (hw _ hs.aF)) hz) (λ _ he hs=>?_)));refine⟨eZ ep hs.p4.At,?_⟩;refine ek av2 hs (C55 p pv _ (hp.pr _ (hw _ hs.aF)) hz) (λ x58 _ cO hs=>?_);have iL:=qy p;have sS:(eX p).length=(g9 p).length:=by unfold eX;rw[List.length_map]
 refine dN awZ (C53 (AJ p) (eX p) (eu p) _ _ _ (hs.p1).dX (hs).dX (by omega) (by omega) (by omega) (λ k n h1 h2=>?_)) ?_
 ·have h3:=PY BW h1 h2;have h4:=(List.getElem?_eq_some_iff.1 h2).1;exact⟨h3.1,by omega,by omega⟩
 rintro v59 _ ⟨q,ov,fv,rfl,cO⟩;have hs:=((hs.made cO).split).p1.split;refine aN rfl (aN rfl (aD (aA sW (aS hs.p5 Kj (dI rfl) rfl (λ RJ hs=>aA kj (aB (v:=Flat.val pv.threads) ij hs.p8.hb rfl ?_))))));have hs:=((((((((((hs.p8.drop.p5.drop.p4.drop.p3).freeze).p2).freeze).gR).p3).freeze).gR).p3).freeze).gR;obtain⟨FF,hs,hX⟩:=hs.Yq;have hs:=hs.Ac (H:=xZ (λ w=>K w/\re FF RJ w) room);have hs:=(hs.eJ (α:=Ptr)).eJ (α:=Int)
 have hs:St w aY (bY b36 (qF ⟨pv,svc,svk,q,Flat.val ov,Flat.val fv,.slice none 0 0,.slice none 0 0,[]⟩ (xd p room))::iB q (Flat.val ov) (Flat.val fv) (I3 (AJ p) (eu p) (eX p))::bG (.slice none 0 0) ([]:List Int)::bG (.slice none 0 0) ([]:List Ptr)::gS (xZ (λ w=>K w/\re FF RJ w) room) [] []::fk (re FF RJ)::[]) RJ:=by
  have h1:=(hs.p5).p5;exact h1
 obtain⟨vl,ht1,ht2⟩:=hp.th;obtain⟨UR,Pw,hr4⟩:=hp.rc;have hs:=gI.shut (K:=(λ w=>K w/\re FF RJ w)) (m:=xd p room) ⟨λ w' h=>hp.pr w' h.1,λ w' h=>?_,λ w' h=>?_,λ w' h=>⟨?_,?_⟩,⟨UR,λ w' h=>Pw w' h.1,hr4.mono λ _ h=>h.1⟩⟩ hs;rotate_left
 ·have:=hX w' h.2;first|exact this.1|exact this.2|exact this.2.1|exact this.2.2|exact this.2.2.1|exact this.2.2.2
 ·have:=hX w' h.2;first|exact this.1|exact this.2|exact this.2.1|exact this.2.2|exact this.2.2.1|exact this.2.2.2
 ·have:=hX w' h.2;first|exact this.1|exact this.2|exact this.2.1|exact this.2.2|exact this.2.2.1|exact this.2.2.2
 ·have:=hX w' h.2;first|exact this.1|exact this.2|exact this.2.1|exact this.2.2|exact this.2.2.1|exact this.2.2.2
 refine bD aqd hs (H':=λ _=>gI (λ w=>K w/\re FF RJ w) b36 (iT p room)) (Φ:=λ _ _=>True) (λ F2 dY dW=>?_) ?_
 ·exact(C56 (λ w=>K w/\re FF RJ w) b36 (xd p room) p.threads _ vl F2 _ dY (λ w' hc=>⟨hw _ (dW w' hc).aF,(dW w' hc).fk⟩) ⟨FQ,FI⟩ (by have:=hz.eG;show(cL p).length<=_;unfold cL;rw[List.length_map];omega) (λ w' hc=>ht1 w' (hw _ (dW w' hc).aF)) (ht2.mono λ _ h=>h.1)
   (λ _ ht=>⟨Dh BW (List.mem_append_left _ ht),Dk BW (List.mem_append_left _ ht)⟩) (by have:=hz.threads;omega)).mono λ _ _ r=>r.mono λ _ _ h=>⟨trivial,h.2⟩
 rintro _ _ _ hs;exact .inr (.inr ⟨ze,⟨FQ,FI⟩,b36,re FF RJ,rfl,(St.join hs).fresh⟩)
theorem C24(K:World->Prop)(p:Nat)(m:gW)(q:cA)(gc:SV)(F:Nat->Prop)(w:World)(hF:(gI K p m).p w F)(hK:∀w',gq F w w'->K w')(iy:ou m)(BW:Ga m.p)(rA:MB m.mem 1000000)(hcb:0<=m.bZ/\m.bZ<=1000000)(Nl:∀w',gq F w w'->dC (λ _=>True) w' (Flat.val gc) q.cut)(hql:q.cut.length<=1000) :
   CR 24 [.pointer (some ⟨p,0,none⟩),Flat.val (⟨q.kind,q.t,q.i,gc⟩:bF)] w (λ v w'=>v=.tuple #[Flat.val (qw m q).2.1,.int .i64 (qw m q).2.2]/\mL F (gI K p (qw m q).1) w w'):=by
 have hs:=St.begin hF;refine oY Tryz.func24 (pl:=P24) ?_;refine cI (x:=(⟨q.kind,q.t,q.i,gc⟩:bF)) hs (λ b3 w1 hs=>aM hs m7 (λ b4 _ hs=>?_));have hs:=hs.enc (cs':=Flat.enc (⟨0,0,0,0,0⟩:bU)) rfl;refine⟨λ jv w'=>jv=.bool (iK m q).isSome/\St w F [gI K p (crD m q),bY b4 (Flat.enc (⟨0,0,0,0,0⟩:bU)),bY b3 (Flat.enc (⟨q.kind,q.t,q.i,gc⟩:bF))] w',?_,?_⟩
 ·have hs:=hs.drew
  have eD:∀w',iK m q=none->St w F [gI K p m,bY b4 (Flat.enc (⟨0,0,0,0,0⟩:bU)),bY b3 (Flat.enc (⟨q.kind,q.t,q.i,gc⟩:bF))] w'->(Value.bool false=.bool (iK m q).isSome/\St w F [gI K p (crD m q),bY b4 (Flat.enc (⟨0,0,0,0,0⟩:bU)),bY b3 (Flat.enc (⟨q.kind,q.t,q.i,gc⟩:bF))] w'):=λ w' h1 h2=>by
   have e:crD m q=m:=by unfold crD;rw[h1]
   rw[h1,e];exact⟨rfl,h2⟩
  have UM:iK m q=(if q.kind=3/\q.t=0/\q.i=0/\m.fault=0 then fw m.mem q.cut else none):=rfl;refine aA pL (aB (v:=.int .i64 q.kind) bL hs.p1.hb rfl (aH (aC (λ c1=>?_) (λ _=>eD _ (by rw[UM,if_neg (by omega)]) (hs.p2)))));refine aA mK (aB (v:=.int .i64 q.t) bL hs.p1.hb rfl (aH (aC (λ c2=>?_) (λ _=>eD _ (by rw[UM,if_neg (by omega)]) (hs.p2)))));refine aA sU (aB (v:=.int .i64 q.i) bL hs.p1.hb rfl (aH (aC (λ c3=>?_) (λ _=>eD _ (by rw[UM,if_neg (by omega)]) (hs.p2)))));have hs:=hs.p2;obtain⟨a,hu,hs⟩:=gI.open hs;have pg:=hs.p4.iP;refine aD (aA xt (aB bL hs.hb rfl (aH (aC (λ c4=>?_) (λ _=>eD _ (by rw[UM,if_neg (by omega)]) (gI.shut hu hs))))))
  have hpi:iK m q=fw m.mem q.cut:=by rw[UM,if_pos ⟨c1,c2,c3,c4⟩]
  refine aD (aA sW (aB Kj hs.hb rfl (aA pM (aB (v:=Flat.val (gc:SV)) eg hs.p6.hb rfl (have hs:=hs.p1;bD atw hs (H':=λ v=>qd λ m2=>fact (Dl m.mem q.cut v m2) (iB a.q a.ov a.fv m2)) (Φ:=λ _ _=>True) (λ F2 dY dW=>?_) ?_)))))
  ·exact(C86 a.q a.ov a.fv m.mem F2 q.cut _ _ dY (λ w' hc=>hu.mem _ (hK w' (dW w' hc).aF)) iy.mem rA (λ w' hc=>Nl w' (dW w' hc).aF) hql).mono λ _ _ r=>r.mono λ _ _ h=>Qk h
  rintro v34 _ _ wQ;obtain⟨m2c,yy⟩:=wQ.er
  clear wQ
  obtain⟨hcf,Df⟩:=yy.me
  clear yy
  rcases hcf with⟨him,rfl,rfl⟩|⟨kW,him,rfl,rfl⟩
  ·have hs:=Df;exact aH (have hs:=hs.p4.p4.p4.p3.p4;eD _ (hpi.trans him) (gI.shut hu hs))
  have hs:=Df;refine aH ?_;have z8:=hpi.trans him;have e:crD m q={m with mem:=my m.mem kW}:=by unfold crD;rw[z8]
  rw[z8,e];have hs:=hs.p4.p4.p4.p3.p4;exact⟨rfl,gI.shut (m:={m with mem:=my m.mem kW}) ⟨hu.pr,hu.cs,hu.ks,hu.mem,hu.rc⟩ hs⟩
 rintro _ _ ⟨rfl,hs⟩ _;refine aW (λ c=>?_) (λ c=>?_)
 ·obtain⟨kW,z8⟩:=Option.isSome_iff_exists.1 c;have e:crD m q={m with mem:=my m.mem kW}:=by unfold crD;rw[z8]
  have ZV:qw m q=(qG (oT m kW) (uJ m),⟨15,0,0,qp q.cut q.cut.length,0⟩,0):=by unfold qw;rw[z8]
  rw[e]at hs;rw[ZV];obtain⟨a,hu,hs⟩:=gI.open hs;have pg:=hs.p4.iP;refine aD (aA Ii (aB bL hs.hb rfl (aK (show -9223372036854775808<=m.bZ+1/\m.bZ+1<=9223372036854775807 by omega) (aD (aA Ii (aS hs bL (dI rfl) rfl (λ _ hs=>?_)))))));obtain⟨UR,Pw,hr4⟩:=id hu.rc;have F4:=hr4.1;refine aD (aA CT (aA oA (aB ij hs.hb rfl ?_)));have hs:=(gI.shut (m:=oT m kW) ⟨hu.pr,hu.cs,hu.ks,hu.mem,hu.rc⟩ hs.p4.p4.p4.p4.p4).p2;have hs:=hs.p2.p2;refine⟨λ jv w'=>∃vl,CF K vl (uJ m)/\St w F [fk (λ w=>K w->dC (λ _=>True) w jv vl),gI K p (oT m kW),bY b4 (Flat.enc (⟨0,0,0,0,0⟩:bU)),bY b3 (Flat.enc (⟨q.kind,q.t,q.i,gc⟩:bF))] w',?_,?_⟩
  ·refine aI fq (Pw _ (hK _ hs.aF)) (aH (aC (λ c2=>?_) (λ c2=>?_)))
   ·refine pop (v:=Flat.val (⟨⟨#[]⟩,cH,cH,0⟩:cE)) (by kernel_rfl) (aX (([⟨⟨#[]⟩,cH,cH,0⟩]:List cE)) hs fq rfl rfl (dI rfl) (λ s54 _ hs=>?_));refine⟨_,?_,(hs.freeze).dU (Ψ:=λ w=>K w->dC (λ _=>True) w s54 [(⟨⟨#[]⟩,cH,cH,0⟩:cE)]) λ _ h _=>h⟩;have UB:uJ m=[⟨⟨#[]⟩,[],[],0⟩]:=by unfold uJ;rw[if_pos (by have:UR.length=m.p.recover.length:=F4;omega)]
    rw[UB];exact agC K
   have UB:uJ m=m.p.recover:=by unfold uJ;rw[if_neg (by have:UR.length=m.p.recover.length:=F4;omega)]
   exact⟨UR,by rw[UB];exact hr4,hs.fT λ w h=>Pw w h⟩
  rintro rv _ ⟨vl,htv,hs⟩ _;obtain⟨ayl,akD⟩:=Jp BW;refine bD aqd hs.p1 (H':=λ _=>gI K p (qG (oT m kW) (uJ m))) (Φ:=λ _ _=>True) (λ F2 dY dW=>?_) ?_
  ·refine(C56 K p (oT m kW) (uJ m) _ vl F2 _ dY (λ w' hc=>hK w' (dW w' hc).aF) iy.rm (by have:=iy.pz.eG;show(cL m.p).length<=_;unfold cL;rw[List.length_map];omega) (λ w' hc=>(dW w' hc).fk (hK w' (dW w' hc).aF)) htv (λ t ht=>⟨akD t ht,?_⟩) (by omega)).mono λ _ _ r=>r.mono λ _ _ h=>⟨trivial,h.2⟩;unfold uJ at ht
   split at ht
   ·rw[List.mem_singleton.1 ht];rfl
   exact Dk BW (List.mem_append_right _ ht)
  rintro _ _ _ hs;exact aA pM (aB (v:=Flat.val (gc:SV)) eg hs.p3.hb rfl (aT awW hs (C87 _ q.cut _ (Nl _ hs.aF) (by omega)) (λ _ _ hs=>pop (Hi 15 (qp q.cut q.cut.length)) (aJ (x:=(⟨15,0,0,qp q.cut q.cut.length,0⟩:bU)) hs.p2 fb rfl rfl (λ _ hs=>aE fb hs.At ⟨rfl,((hs.p3.drop.drop).p1.drop).mut⟩)))))
 have z8:iK m q=none:=by
  cases h:iK m q with
  | none=>rfl
  | some kW=>rw[h]at c;cases c
 have e:crD m q=m:=by unfold crD;rw[z8]
 have ZV:qw m q=(if (gJ m).any (mV q)=true then(if q.kind=2 then(match m.l[q.t.toNat]? with|some t=>((sP m t q,sN q.t (dB t.buf q.i),0):gW×bU×Int)|none=>(m,⟨0,0,0,0,0⟩,13))else((ie m q.t).1,(ie m q.t).2,0))else(m,⟨0,0,0,0,0⟩,13)):=by unfold qw;rw[z8];rfl
 rw[e]at hs;refine ek aqa hs (C67 K p m _ hs.has (λ _ e=>hK _ (hs.aF.then e)) iy) (λ x64 _ cO hs=>?_);have O3:=hs.p3.At
 have hfn:tf Tryz.prog _ (.func (.func 88) [].toArray [.pointer (some ⟨b3,0,none⟩)].toArray) (λ _:cA=>True) (mV q):=
  ⟨88,[],_,rfl,awT,λ sx y w1 e1 hd2 _=>C88 y q sx b3 (⟨q.kind,q.t,q.i,gc⟩:bF) w1 hd2 (O3.ext e1) ⟨gc,rfl,DL.j3 (Nl _ (hs.aF.then e1))⟩⟩
 refine aT ayi hs (C89 _ _ _ (λ _=>True) _ _ (hs).dl hfn (λ _ _=>trivial) (by have:=E4 iy;omega)) (λ _ he hs=>have hs:=hs.drop;bQ (aW (λ c2=>?_) (λ c2=>?_)))
 ·rw[ZV,if_neg (by simpa using c2)];exact pop (I7) (aJ (x:=(⟨0,0,0,0,0⟩:bU)) hs.p1 fb rfl rfl (λ _ hs=>aE fb hs.At ⟨rfl,(hs.drop.p1.drop).mut⟩))
 have vW:(gJ m).any (mV q)=true:=by simpa using c2
 obtain⟨hf0,h0,_,t,ht,hkd⟩:=aj4 vW;rw[ZV,if_pos vW];refine aA pL (aB (v:=.int .i64 q.kind) bL hs.p2.hb rfl (aH (aC (λ c3=>?_) (λ c3=>?_))))
 ·rw[if_pos c3,ht];refine aE qC hs.p2.At (bD awR hs (H':=λ _=>gI K p (sP m t q)) (Φ:=λ v _=>v=Flat.val (sN q.t (dB t.buf q.i))) (λ F2 dY dW=>?_) ?_)
  ·exact C90 K p m q gc t F2 _ dY (λ w' hc=>hK w' (dW w' hc).aF) iy rA h0 ht
  rintro _ _ rfl hs;exact aJ (x:=sN q.t (dB t.buf q.i)) hs.p1 fb rfl rfl (λ _ hs=>aE fb hs.At ⟨rfl,(hs.drop.p1.drop).mut⟩)
 rw[if_neg c3]
 have tS:sw m t=true:=by
  rcases hkd with h|h
  ·exact h.2
  ·exact absurd h.1 c3
 refine aA mK (aB (v:=.int .i64 q.t) bL hs.p2.hb rfl (bD awQ hs (H':=λ _=>gI K p (ie m q.t).1) (Φ:=λ v _=>v=Flat.val (ie m q.t).2) (λ F2 dY dW=>?_) ?_))
 ·exact C91 K p m q.t t F2 _ dY (λ w' hc=>hK w' (dW w' hc).aF) iy rA h0 ht (λ _=>M5 tS)
 rintro _ _ rfl hs;exact aJ (x:=(ie m q.t).2) hs.p1 fb rfl rfl (λ _ hs=>aE fb hs.At ⟨rfl,(hs.drop.p1.drop).mut⟩)
theorem C64(K:World->Prop)(p:Nat)(m:gW)(qE:List cN)(lv:Value)(vl:List cE)(F:Nat->Prop)(w:World)(hF:(qA K p m).p w F)(hK:∀w',gq F w w'->K w')(hrm:1<=m.room/\m.room<=16)(hlk:(cL m.p).length<=1000)(hl:∀w',gq F w w'->dC (λ _=>True) w' lv vl)(htv:CF K vl qE)
   (ki:∀t∈qE,xI (cT m.p) (cL m.p) (vS t)/\t.body=(Hj t.body).flat) (hbz:∀t∈qE,t.body.length<=100000) (hn:qE.length<=1000) :
   CR 64 [.pointer (some ⟨p,0,none⟩),lv] w (λ v w'=>v=.tuple #[]/\mL F (qA K p (qG m qE)) w w'):=by
 have hs:=St.begin hF;have Nv:=htv.1;refine aka _ _ _ _ ?_;unfold S64;obtain⟨a,hu,hs⟩:=qA.open hs;have pg:=hs.p4.iP
 have hlr:∀w,K w->dC (λ _=>True) w (Flat.val a.pv.eG) m.p.eG:=λ w hw=>by
  obtain⟨g0,g1,g2,g3,g4,g5,e,_,_,h2,_⟩:=hu.pr w hw;rw[e];exact DL.flat h2
 have Cy:(cL m.p).length=m.p.eG.length:=by unfold cL;rw[List.length_map]
 refine aD (aA oC (aS hs DF (dI rfl) rfl (λ _ hs=>aD (aA uY (aS hs eg (dI rfl) rfl (λ _ hs=>?_))))));have hs:=(((hs.p2.drop.p2.drop.p2.drop.eJ (α:=Int)).p2).p1).p2;refine⟨λ mm x w'=>∃(k:Nat) (ov:Value),x=.int .i64 (k:Int)/\mm=(cL m.p).length-k/\k<=(cL m.p).length/\St w F [bY p (oX {a with ow:=ov,ll:=.slice none 0 0} m),bG ov (List.replicate k (-1:Int)),gi a.q m.mem] w',⟨_,0,_,rfl,rfl,Nat.zero_le _,hs⟩,?_⟩;rintro mm _ _ ⟨k,ov,rfl,rfl,Qz,hs⟩ _;refine aD (aA oB (aA nI (aB jC hs.hb rfl (aI g8 (hlr _ (hK _ hs.aF)) (aQ (aC (λ c=>?_) (λ c=>?_)))))))
 ·refine aD (aA uY (aB eg hs.hb rfl (aX (([-1]:List Int)) hs cM rfl rfl (dI rfl) (λ s27 _ hs=>?_))));have akB:=(hs).dX;exact bI hs.p2 cM akB (by rw[List.length_replicate,List.length_singleton];omega) (by decide) (λ s28 _ hs=>have hs:=hs.p1.drop;aD (aA uY (aS hs.p1 eg (dI rfl) ((hs).dX.one) (λ _ hs=>aK (by omega) ⟨_,by omega,k+1,s28,rfl,rfl,by omega,by rw[List.replicate_succ'];exact hs⟩))))
 rw[show k=(cL m.p).length from by omega]at hs;have hs:=((((((hs.Ac (H:=Nf K m.room)).eJ (α:=Ptr)).p4).p4).p3).p3).p4;refine⟨λ mm x w'=>∃(j:Nat) (llv:Value) (ps:List Ptr),x=.int .i64 (j:Int)/\mm=vl.length-j/\j<=vl.length/\St w F [bY p (oX {a with ow:=ov,ll:=llv} m),bG llv ps,gS (Nf K m.room) ps ((qE.take j).map TQ),bG ov (List.replicate (cL m.p).length (-1:Int)),gi a.q m.mem] w',⟨_,0,_,_,rfl,rfl,Nat.zero_le _,hs⟩,?_⟩;rintro mm _ _ ⟨j,llv,ps,rfl,rfl,hj1,hs⟩ _;refine aI fq (hl _ hs.aF) (aQ (aC (λ c2=>?_) (λ c2=>?_)));rotate_left
 ·rw[List.take_of_length_le (by omega)]at hs;have hs:=hs.p2.p2.p3.p4.p4;exact⟨rfl,(qA.shut (m:=qG m qE) (a:={a with ow:=ov,ll:=llv,ps:=ps}) ⟨hu.pr,hu.rc⟩ hs).mut⟩
 obtain⟨tv,Qj⟩:=gx vl (i:=((j:Nat):Int).toNat) (by omega);obtain⟨t,ht⟩:=gx qE (i:=j) (by omega);obtain⟨gr,gb,rows,rfl,hgr,hgb⟩:=htv.2 j _ _ Qj ht;obtain⟨Ni,hbk⟩:=ki t (List.mem_of_getElem? ht);have F4:t.dL.length<=1000:=Ni.nb;have hpo:=Ni.p
 have arn:(Hj t.body).str:=by
  have h2:E1 (TL (cT m.p) (cL m.p) t.dL) (jl (Hj t.body) false []):=hpo;cases hb:Hj t.body with
  | nil=>trivial
  | cons x c d r=>rw[hb]at h2;exact h2.st _ (List.mem_cons_self ..)
 have aro:(Hj t.body).flat.length<=100000:=by rw[<- hbk];exact hbz t (List.mem_of_getElem? ht)
 refine⟨_,?_,λ _ h=>h⟩;refine aD (aA QR (aB bL hs.hb rfl (dN alR (C58 m.room _) ?_)));rintro v43 _ hh;obtain⟨_,_,b43,rfl,cO⟩:=hh.resolve_left (λ _=>by omega);have hs:=hs.made cO;refine aN rfl (aN rfl ?_);refine⟨λ t8 w'=>∃tb,t8=.pointer (some ⟨tb,0,none⟩)/\St w F [lZ K tb m.room (vS t),bY p (oX {a with ow:=ov,ll:=llv} m),bG llv ps,gS (Nf K m.room) ps ((qE.take j).map TQ),bG ov (List.replicate (cL m.p).length (-1:Int)),gi a.q m.mem] w',?_,?_⟩
 ·refine Fo (Wd:=λ w'=>gq F w w') fq hl hs.aF (by omega) Qj (λ q50 h50=>Fq gb lj h50 hs.aF rfl rfl (λ q51 h51=>have hs:=hs.drew;aE (x:=gb) jF (h51 _ hs.aF) (Fo (Wd:=λ w'=>gq F w w') fq hl hs.aF (by omega) Qj (λ q56 h56=>Fq gr fN h56 hs.aF rfl rfl (λ q57 h57=>aE (x:=gr) iZ (h57 _ hs.aF) (Fo (Wd:=λ w'=>gq F w w') fq hl hs.aF (by omega) Qj (λ q61 h61=>Fq gr fN h61 hs.aF rfl rfl (λ q62 h62=>aE (x:=gr) iZ (h62 _ hs.aF) (aI ik (hgr _ (hK _ hs.aF)) ⟨?_,?_,trivial⟩)))))))))
  ·refine dN M9 (C128 K gb rows (Hj t.body) _ (λ _ e=>hK _ (hs.aF.then e)) arn (λ w=>by rw[<- hbk];exact hgb w) aro) ?_;rintro s53 w9 ⟨ds,hds,cO⟩;have hs:=hs.made cO;refine⟨eZ (x:=gr) iZ (h57 _ hs.aF),?_⟩;refine⟨eZ (x:=gr) iZ (h62 _ hs.aF),?_⟩;refine we (0:Int) hs cM ud (by omega) (by omega) (by decide) (λ s52 w11 hs=>?_);rw[Int.toNat_natCast]at hs;refine⟨eZ (x:=gb) jF (h51 _ hs.aF),?_⟩;refine⟨eZ (x:=gr) iZ (h57 _ hs.aF),?_⟩;obtain⟨Fy,rfl⟩:=(hs).fC;obtain⟨Ql,rfl⟩:=(hs.p1).fC;refine pop (xj Ql.a Ql.n Ql.cap gr.a gr.n gr.cap Fy.a Fy.n Fy.cap (some ⟨b43,0,none⟩)) (nk hs (λ Nj w12 hs=>?_))
   have hs:=hs.p2.freeze.p2.p3.p3;have hrk:RTK K gr ds (vS t):=⟨hgr,by show kR K ds (vM (jl (Hj t.body) false []));rw[uO];show kR K ds (Di false (Hj t.body)++[]);rw[List.append_nil];exact hds,Fj.push (λ _ h=>by cases h)⟩;exact⟨Nj,rfl,lZ.shut (t:=vS t) hrk hs⟩
  refine we (0:Int) hs cM ud (by omega) (by omega) (by decide) (λ s52 w11 hs=>?_);rw[Int.toNat_natCast]at hs;refine⟨eZ (x:=gb) jF (h51 _ hs.aF),?_⟩;refine⟨eZ (x:=gr) iZ (h57 _ hs.aF),?_⟩;refine dN M9 (C128 K gb rows (Hj t.body) _ (λ _ e=>hK _ (hs.aF.then e)) arn (λ w=>by rw[<- hbk];exact hgb w) aro) ?_;rintro s53 w9 ⟨ds,hds,cO⟩;have hs:=hs.made cO;refine⟨eZ (x:=gr) iZ (h57 _ hs.aF),?_⟩;refine⟨eZ (x:=gr) iZ (h62 _ hs.aF),?_⟩;obtain⟨Fy,rfl⟩:=(hs.p1).fC;obtain⟨Ql,rfl⟩:=(hs).fC;refine pop (xj Ql.a Ql.n Ql.cap gr.a gr.n gr.cap Fy.a Fy.n Fy.cap (some ⟨b43,0,none⟩)) (nk hs (λ Nj w12 hs=>?_))
  have hs:=hs.p1.freeze.p2.p3.p3;have hrk:RTK K gr ds (vS t):=⟨hgr,by show kR K ds (vM (jl (Hj t.body) false []));rw[uO];show kR K ds (Di false (Hj t.body)++[]);rw[List.append_nil];exact hds,Fj.push (λ _ h=>by cases h)⟩;exact⟨Nj,rfl,lZ.shut (t:=vS t) hrk hs⟩
 rintro _ _ ⟨Nj,rfl,hs⟩ _;have ayo:A7 (vS t):=⟨λ _ hv=>by rw[(List.mem_replicate.1 hv).2];exact iq,λ _ hy=>by cases hy⟩;refine bD agv hs (H':=λ _=>lZ K Nj m.room (TQ t)) (Φ:=λ _ _=>True) (λ F2 dY dW=>?_) ?_
 ·exact(C129 K Nj m.room (vS t) (TQ t) _ _ _ F2 _ dY (λ w' hc=>hK w' (dW w' hc).aF) Ni ayo (qu Ni).1).mono λ _ _ r=>r.mono λ _ _ h=>⟨trivial,h.2⟩
 rintro _ _ _ hs;refine aD (aA oC ?_);have oZ:=(hs.p3).iP;rw[List.length_map,List.length_take]at oZ;refine aB DF hs.p1.hb rfl (aX ([(⟨Nj⟩:Ptr)]) hs FU rfl rfl (dI rfl) (λ s67 _ hs=>?_));have aab:=(hs).dX;refine bI hs.p3 FU aab (by simp;omega) (by decide) (λ s68 _ hs=>have hs:=(hs.p1).drop;aD (aA oC (aS hs.p2 DF (dI rfl) ((hs).dX.one) (λ _ hs=>?_))));have hs:=(((((St.DX (H:=Nf K m.room) (p:=⟨Nj⟩) (x:=TQ t) hs.p2.p3).p4).p4).p2).p4).p4;intro _;exact aK (by omega) ⟨_,by omega,j+1,s68,ps++[⟨Nj⟩],rfl,rfl,by omega,by rw[<- fW (k:=j) ht];exact hs⟩
theorem Us{l:List Int}{k:Nat}{c:Int}(h:l[k]?=some c):qp l (k+1)=A1 (A1 (10000*qp l k)+c):=by rw[E0 h,Int.mul_comm]
theorem C94(cv:Value)(cut:List Int)(w:World)(hC:dC (λ _=>True) w cv cut)(Yn:cut.length<=1000000):CR 94 [cv] w (λ v w'=>v=.int .i64 (qp cut cut.length)/\Ext w w'):=by
 have hs:=St.start w;refine agZ _ _ _ ?_;unfold S94;refine⟨λ mm n x w1=>∃k:Nat,n=.int .i64 (qp cut k)/\x=.int .i64 (k:Int)/\mm=cut.length-k/\k<=cut.length/\St w aY [] w1,⟨_,0,rfl,rfl,rfl,Nat.zero_le _,hs⟩,?_⟩;rintro mm _ _ w1 ⟨k,rfl,rfl,rfl,hk,hs⟩ _;refine aI cM (hC.ext hs.aF) (aQ (aC (λ fL=>?_) (λ _=>⟨by rw[show cut.length=k from by omega],hs.aF⟩)));refine wx ?_;obtain⟨D4,qD⟩:=gx (cut) (i:=((k:Int)).toNat) (by omega);exact aO cM hC (by omega) qD (λ _ ur=>aE bL (ur.ext hs.aF) (uo (aK (by omega) ⟨_,by omega,k+1,by rw[Us (k:=k) qD],rfl,rfl,by omega,hs⟩)))
theorem Nm{p:cG}(hc:Ga p){t:cN}(ht:t∈gd p):t.body.length<=40:=by
 obtain⟨_,h2,_⟩:=hc.f.qE ht
 exact(kU h2).1
theorem Qm{m:Mem}{cut:List Int}{v:Value}{p:Nat}{F:Nat->Prop}{w w':World}
  (h:(fw m cut=none/\v=.int .i64 1/\mL F (gi p m) w w')\/∃kW,fw m cut=some kW/\v=.int .i64 0/\mL F (gi p (my m kW)) w w') :
  True/\mL F (qd λ m2=>fact (Dl m cut v m2) (gi p m2)) w w':=by
 refine⟨trivial,?_⟩
 rcases h with⟨h1,h2,F',h3,h4,h5⟩|⟨kW,h1,h2,F',h3,h4,h5⟩
 ·exact⟨F',⟨m,.inl ⟨h1,rfl,h2⟩,h3⟩,h4,h5⟩
 exact⟨F',⟨my m kW,.inr ⟨kW,h1,rfl,h2⟩,h3⟩,h4,h5⟩
theorem aeh{m:gW}{q:cA}(h:q.kind=3):(gJ m).any (mV q)=false:=by
 cases ha:(gJ m).any (mV q)with
 | false=>rfl
 | true=>obtain⟨_,_,_,t,_,h2⟩:=aj4 ha;omega
theorem aac{m:gW}{q:cA}(h:iK m q=none)(ha:(gJ m).any (mV q)=false):qw m q=(m,⟨0,0,0,0,0⟩,13):=by
 grind[qw]
theorem aad{K:World->Prop}{m:gW}{UR:List cE}(hc:Ga m.p)(hr:CF K UR m.p.recover):CF K ((UR++[(⟨⟨#[]⟩,cH,cH,0⟩:cE)]).take 1) (uJ m):=by
 have h1:=hc.f.one
 have hl:=hr.1
 unfold uJ
 split
 ·have h0:m.p.recover=[]:=List.length_eq_zero_iff.1 (by assumption)
  rw[h0]at hl
  have:UR=[]:=List.length_eq_zero_iff.1 hl
  subst this
  exact agC _
 grind
theorem ayp:PL 63:=dF Tryz.func63
theorem C13(K:World->Prop)(p:cG)(pv:bO)(room:Int)(w:World)(hw:∀w',Ext w w'->K w')(hp:Nk K pv p)(hz:PZ p):CR 13 [Flat.val pv,.int .i64 room] w (λ v w'=>(fj p≠0/\v=.tuple #[.pointer none,.int .i64 (fj p)]/\Ext w w')\/(fj p=0/\(room<1\/16<room)/\v=.tuple #[.pointer none,.int .i64 1]/\Ext w w')\/
  (fj p=0/\(1<=room/\room<=16)/\∃b:Nat,v=.tuple #[.pointer (some ⟨b,0,none⟩),.int .i64 0]/\lL (qA K b (iT p room)) w w')):=by
 have hs:=St.start w;refine aj7 _ _ _ _ ?_;unfold S13;refine cI (x:=pv) hs (λ bp w1 hs=>aE ep hs.At (dN atn (C57 p pv _ (hp.pr _ (hw _ hs.aF)) hz) ?_));rintro _ _ ⟨aa,rfl,he⟩;have hs:=hs.ext he;refine aN rfl (aN rfl (bV (aC (λ c=>?_) (λ c=>?_))))
 ·exact .inl ⟨c,rfl,hs.drop.aF⟩
 have ze:fj p=0:=by omega
 have BW:=xO ze;have Ma:=Zv BW;have Ew:=AS p;refine dN alR (C58 room _) ?_;rintro v3 _ hh
 rcases hh with⟨hrb,rfl,he⟩|⟨FQ,FI,b3,rfl,cO⟩
 ·have hs:=hs.ext he;exact aN rfl (aN rfl (bV (lQ (by decide) (.inr (.inl ⟨ze,hrb,rfl,hs.drop.aF⟩)))))
 have hs:=(hs.made cO).drop;refine aN rfl (aN rfl (bV (fE (by decide) (aX (([]:List Int)) hs cM rfl rfl (dI rfl) (λ s31 _ hs=>?_)))));refine⟨λ mm o y w1=>∃k:Nat,y=.int .i64 (k:Int)/\mm=(g9 p).length-k/\k<=(g9 p).length/\St w aY [bG o ((AJ p).take k),bY bp (Flat.enc pv)] w1,⟨_,0,rfl,rfl,Nat.zero_le _,hs⟩,?_⟩;rintro mm o _ _ ⟨k,rfl,rfl,hk,hs⟩ _;have JG:(AJ p).length=(cT p).length:=by unfold AJ;rw[List.length_map,List.length_range]
 refine aE ep hs.p1.At (ek SU hs (C59 p pv _ (hp.pr _ (hw _ hs.aF)) hz.toPS) (λ x34 _ cO hs=>aI g8 (hs).dX (have hs:=hs.drop;aQ (aC (λ c1=>?_) (λ c1=>?_)))))
 ·refine aE ep hs.p1.At (aT arf hs (C60 p pv (k:Int) _ (hp.pr _ (hw _ hs.aF)) hz) (λ _ he hs=>aX (([o9 p (k:Int)]:List Int)) hs cM rfl rfl (dI rfl) (λ s49 _ hs=>?_)));have akC:=(hs).dX;exact bI hs.p1 cM akC (by rw[List.length_take,List.length_singleton];omega) (by decide) (λ _ _ hs=>aK (by omega) ⟨_,by omega,k+1,rfl,rfl,by omega,by rw[<- gz (Jr (p:=p) (i:=k) (by omega))];exact hs.p1.drop⟩)
 rw[List.take_of_length_le (by omega)]at hs;have hs:=hs.drew;refine aE ep hs.p1.At (aE ep hs.p1.At (aT HX hs (C62 p pv _ (hp.pr _ (hw _ hs.aF)) hz) (λ _ he hs=>?_)));refine⟨eZ ep hs.p1.At,?_⟩;refine ek ayp hs (C63 p pv _ (hp.pr _ (hw _ hs.aF)) hz) (λ x58 _ cO hs=>?_);have iL:=qy p;have sS:(eX p).length=(g9 p).length:=by unfold eX;rw[List.length_map]
 refine dN ato (C61 (AJ p) (eX p) (eu p) _ _ _ (hs.p1).dX (hs).dX (by omega) (by omega) (by omega) (λ k n h1 h2=>?_)) ?_
 ·have h3:=PY BW h1 h2;have h4:=(List.getElem?_eq_some_iff.1 h2).1;exact⟨h3.1,by omega,by omega⟩
 rintro v59 _ ⟨q,rfl,cO⟩;have hs:=((hs.made cO).p1.drop).p1.drop;refine aN rfl (aN rfl (aE (x:=pv) ep hs.p1.At (pop (M8 _ _ _ _ _ _ _ _ _ _ _ _ _ _ _ _ _ _ _ _) (nk hs (λ b58 RJ hs=>aA kj (aB (v:=Flat.val pv.threads) ij hs.p2.hb rfl ?_))))));have hs:=((hs.p2.drop.Ac (H:=Nf K room)).eJ (α:=Ptr)).eJ (α:=Int)
 have hs:St w aY (bY b58 (oX ⟨pv,q,.slice none 0 0,.slice none 0 0,[]⟩ (xd p room))::gi q (I3 (AJ p) (eu p) (eX p))::bG (.slice none 0 0) ([]:List Int)::bG (.slice none 0 0) ([]:List Ptr)::gS (Nf K room) [] []::[]) RJ:=by
  have h1:=(hs.p4).p4
  first|exact h1|exact(hs.p3).p4|exact((hs.p4).p4)
 obtain⟨vl,ht1,ht2⟩:=hp.th;obtain⟨UR,Pw,hr4⟩:=hp.rc;have hs:=qA.shut (K:=K) (m:=xd p room) ⟨hp.pr,⟨UR,Pw,hr4⟩⟩ hs;refine bD aq1 hs (H':=λ _=>qA K b58 (iT p room)) (Φ:=λ _ _=>True) (λ F2 dY dW=>?_) ?_
 ·exact(C64 K b58 (xd p room) p.threads _ vl F2 _ dY (λ w' hc=>hw _ (dW w' hc).aF) ⟨FQ,FI⟩ (by have:=hz.eG;show(cL p).length<=_;unfold cL;rw[List.length_map];omega) (λ w' hc=>ht1 w' (hw _ (dW w' hc).aF)) ht2
   (λ _ ht=>⟨Dh BW (List.mem_append_left _ ht),Dk BW (List.mem_append_left _ ht)⟩) (λ _ ht=>Nat.le_trans (Nm BW (List.mem_append_left _ ht)) (by decide)) (by have:=hz.threads;omega)).mono λ _ _ r=>r.mono λ _ _ h=>⟨trivial,h.2⟩
 rintro _ _ _ hs;exact .inr (.inr ⟨ze,⟨FQ,FI⟩,b58,rfl,hs.fresh⟩)
theorem C25(K:World->Prop)(p:Nat)(m:gW)(q:cA)(gc:SV)(F:Nat->Prop)(w:World)(hF:(qA K p m).p w F)(hK:∀w',gq F w w'->K w')(iy:ou m)(hvo:Ju m)(BW:Ga m.p)(rA:MB m.mem 1000000)(hcb:0<=m.bZ/\m.bZ<=1000000)(Fx:m.mem.dV=eX m.p)(hKx:∀w1,gq F w w1->∀w2,Ext w1 w2->K w2)(Nl:∀w',gq F w w'->dC (λ _=>True) w' (Flat.val gc) q.cut)(hql:q.cut.length<=1000) :
   CR 25 [.pointer (some ⟨p,0,none⟩),Flat.val (⟨q.kind,q.t,q.i,gc⟩:bF)] w (λ v w'=>v=.tuple #[Flat.val (qw m q).2.1,.int .i64 (qw m q).2.2]/\mL F (qA K p (qw m q).1) w w'):=by
 have hs:=St.begin hF;refine oY Tryz.func25 (pl:=P25) ?_;refine cI (x:=(⟨q.kind,q.t,q.i,gc⟩:bF)) hs (λ b3 w1 hs=>aM hs m7 (λ b4 w2 hs=>?_));have hs:=hs.enc (cs':=Flat.enc (⟨0,0,0,0,0⟩:bU)) rfl;have UM:iK m q=(if q.kind=3/\q.t=0/\q.i=0/\m.fault=0 then fw m.mem q.cut else none):=rfl;refine aA pL (aB (v:=.int .i64 q.kind) bL hs.p1.hb rfl (aH (aC (λ c1=>?_) (λ c1=>?_))))
 ·have hs:=hs.drew;have hs:=hs.p2;obtain⟨a,hu,hs⟩:=qA.open hs;have pg:=hs.p4.iP;refine aD (aA sT (aB pR hs.hb rfl (aA pM (aB (v:=Flat.val (gc:SV)) eg hs.p6.hb rfl (dN alT ((C92 a.q m.mem q.cut _ _ (Fp (hs.p1).has) iy.mem rA (Nl _ hs.aF) hql).mono (R':=tX λ v w'=>∃(o:Value) (e:Int),v=.tuple #[o,.int .i64 e]/\(e=0↔(fw m.mem q.cut).isSome=true)/\Ext (drew w2) w') λ _ _ r=>r.mono λ v w' h=>?_) ?_)))))
  ·rcases h with⟨h1,rfl,h3⟩|⟨kW,o,h1,rfl,h3⟩
   ·exact⟨_,_,rfl,by rw[h1];decide,h3⟩
   obtain⟨_,_,_,h4⟩:=h3;exact⟨_,_,rfl,by rw[h1];exact⟨λ _=>rfl,λ _=>rfl⟩,h4⟩
  rintro _ w3 ⟨o21,e23,rfl,hee,he⟩;have hs:=hs.ext he;refine aN rfl (aN rfl ?_);refine⟨λ jv w'=>jv=.bool (!(iK m q).isSome)/\w'=w3,?_,?_⟩
  ·have eD:¬ (q.t=0/\q.i=0/\m.fault=0/\e23=0)->(iK m q).isSome=false:=λ h=>by
    rw[UM];split
    ·rename_i h2
     cases hi:(fw m.mem q.cut).isSome with
     | false=>rfl
     | true=>exact absurd ⟨h2.2.1,h2.2.2.1,h2.2.2.2,hee.2 hi⟩ h
    ·rfl
   refine aA mK (aB (v:=.int .i64 q.t) bL hs.p6.hb rfl (bV (aC (λ c2=>⟨vb (by rw[eD (by omega)];rfl),rfl⟩) (λ c2=>aA sU (aB (v:=.int .i64 q.i) bL hs.p6.hb rfl (bV (aC (λ c3=>⟨vb (by rw[eD (by omega)];rfl),rfl⟩) (λ c3=>bV (aC (λ c4=>⟨vb (by rw[eD (by omega)];rfl),rfl⟩) (λ c4=>aD (aA xr (aB bL hs.hb rfl ?_))))))))))));refine bV ?_;refine⟨vb ?_,rfl⟩
   by_cases hf:m.fault=0
   ·rw[UM,if_pos ⟨c1,by omega,by omega,hf⟩,hee.1 (by omega),decide_eq_false (by omega)];rfl
   rw[eD (by omega),decide_eq_true hf];rfl
  rintro _ w4 ⟨rfl,rfl⟩ sK;refine aW (λ c=>?_) (λ c=>?_)
  ·have z8:iK m q=none:=by
    cases h:iK m q with
    | none=>rfl
    | some kW=>rw[h]at c;cases c
   rw[aac z8 (aeh c1)];exact pop (I7) (aJ (x:=(⟨0,0,0,0,0⟩:bU)) hs.p5 fb rfl rfl (λ w5 hs=>aE (x:=(⟨0,0,0,0,0⟩:bU)) fb hs.At (have hs:=hs.drop.p5.drop.p4.p4.p4.p4.p4;⟨rfl,(qA.shut hu hs).mut⟩)))
  obtain⟨kW,z8⟩:∃kW,iK m q=some kW:=Option.isSome_iff_exists.1 (by simpa using c);have UJ:fw m.mem q.cut=some kW:=by rw[UM]at z8;split at z8;exact z8;cases z8
  have ZV:qw m q=(qG (oT m kW) (uJ m),⟨15,0,0,qp q.cut q.cut.length,0⟩,0):=by unfold qw;rw[z8]
  rw[ZV];have hs:=hs.drew;refine aD (aA sT (aB pR hs.hb rfl (aA pM (aB (v:=Flat.val (gc:SV)) eg hs.p6.hb rfl (have hs:=hs.p1;bD atx hs (H':=λ v=>qd λ m2=>fact (Dl m.mem q.cut v m2) (gi a.q m2)) (Φ:=λ _ _=>True) (λ F2 dY dW=>?_) ?_)))))
  ·exact(C93 a.q m.mem F2 q.cut _ _ dY iy.mem rA (λ w' hc=>Nl w' (dW w' hc).aF) hql).mono λ _ _ r=>r.mono λ _ _ h=>Qm h
  rintro v34 w6 _ wQ;obtain⟨m2c,yy⟩:=wQ.er
  clear wQ
  obtain⟨hcf,hs⟩:=yy.me
  clear yy
  obtain⟨him,_⟩|⟨ayq,him,rfl,rfl⟩:=hcf
  ·rw[UJ]at him;cases him
  obtain rfl:kW=ayq:=Option.some.inj (UJ.symm.trans him);refine aD (aA CP (aB bL hs.p1.hb rfl (aK (show -9223372036854775808<=m.bZ+1/\m.bZ+1<=9223372036854775807 by omega) (aD (aA CP (aS hs.p1 bL (dI rfl) rfl (λ w7 hs=>?_)))))));obtain⟨UR,Pw,hr4⟩:=id hu.rc;have F4:=hr4.1;have FQ:m.p.recover.length<=1:=BW.f.one;refine aX (([]:List cE)) hs fq rfl rfl (dI rfl) (λ s59 w8 hs=>aD (aA oB (aA oA (aB ij hs.p1.hb rfl (bI hs fq (Pw _ (hK _ hs.aF)) (by simp;omega) (by decide) (λ s65 w9 hs=>pop (v:=Flat.val (⟨⟨#[]⟩,cH,cH,0⟩:cE)) (by kernel_rfl) (aX (([⟨⟨#[]⟩,cH,cH,0⟩]:List cE)) hs fq rfl rfl (dI rfl) (λ s68 w10 hs=>?_))))))))
  have aab:=(hs).dX;refine bI hs.p1 fq aab (by simp;omega) (by decide) (λ s69 w11 hs=>?_);have hs:=(hs.p1).drop;rw[List.nil_append]at hs;refine jH fq (hs).dX (by omega) (by simp;omega) (λ s72 h72=>?_);have hs:=((qA.shut (m:=oT m kW) ⟨hu.pr,hu.rc⟩ hs.p5.p5.p5.p5.p5).p1).p1;obtain⟨ayl,akD⟩:=Jp BW;refine bD aq1 hs (H':=λ _=>qA K p (qG (oT m kW) (uJ m))) (Φ:=λ _ _=>True) (λ F2 dY dW=>?_) ?_
  ·refine(C64 K p (oT m kW) (uJ m) _ _ F2 _ dY (λ w' hc=>hK w' (dW w' hc).aF) iy.rm (by have:=iy.pz.eG;show(cL m.p).length<=_;unfold cL;rw[List.length_map];omega) (λ w' hc=>h72 w' (dW w' hc).dX) (aad BW hr4) (λ t ht=>⟨akD t ht,?_⟩) (λ t ht=>?_) (by omega)).mono λ _ _ r=>r.mono λ _ _ h=>⟨trivial,h.2⟩
   ·unfold uJ at ht
    split at ht
    ·rw[List.mem_singleton.1 ht];rfl
    exact Dk BW (List.mem_append_right _ ht)
   unfold uJ at ht
   split at ht
   ·rw[List.mem_singleton.1 ht];exact Nat.zero_le _
   exact Nat.le_trans (Nm BW (List.mem_append_right _ ht)) (by decide)
  rintro _ w12 _ hs;exact aA pM (aB (v:=Flat.val (gc:SV)) eg hs.p3.hb rfl (aT aty hs (C94 _ q.cut _ (Nl _ hs.aF) (by omega)) (λ w13 he hs=>pop (Hi 15 (qp q.cut q.cut.length)) (aJ (x:=(⟨15,0,0,qp q.cut q.cut.length,0⟩:bU)) hs.p2 fb rfl rfl (λ RJ hs=>aE (x:=(⟨15,0,0,qp q.cut q.cut.length,0⟩:bU)) fb hs.At (have hs:=hs.drop.p2.drop.p1.drop;⟨rfl,hs.mut⟩))))))
 have z8:iK m q=none:=by rw[UM,if_neg (λ h=>c1 h.1)]
 have hs:=hs.p1.p1.p2;refine ek aqY hs (C22 K p m _ (hs).has (λ w' e=>hKx _ hs.aF _ e) iy) (λ x79 w15 cO hs=>?_);obtain⟨ss,hs⟩:=hs.Q3;have UF:=hs.p1.fk.1;have oZ:=E4 iy;have hs:=hs.p1.p1.p4.p4.p4;refine⟨λ mm y w'=>∃k:Nat,y=.int .i64 (k:Int)/\mm=ss.length-k/\k<=ss.length/\(∀(j:Nat) (x:cA),j<k->(gJ m)[j]?=some x->mV q x=false)/\St w F [qA K p m,bY b4 (Flat.enc (⟨0,0,0,0,0⟩:bU)),bY b3 (Flat.enc (⟨q.kind,q.t,q.i,gc⟩:bF)),bG x79 ss,fk (jh ss (gJ m))] w',⟨_,0,rfl,rfl,Nat.zero_le _,λ j x h=>absurd h (Nat.not_lt_zero _),hs⟩,?_⟩;rintro mm _ w16 ⟨k,rfl,rfl,hk,eD,hs⟩ vz
 refine aI lY (hs.p3).dX (aQ (aC (λ c2=>?_) (λ c2=>?_)));rotate_left
 ·have vW:(gJ m).any (mV q)=false:=by
   rw[List.any_eq_false];intro x hx;obtain⟨j,hj⟩:=List.mem_iff_getElem?.1 hx;have:=(List.getElem?_eq_some_iff.1 hj).1;rw[eD j x (by omega) hj];decide
  rw[aac z8 vW];exact pop (I7) (aJ (x:=(⟨0,0,0,0,0⟩:bU)) hs.p1 fb rfl rfl (λ w22 hs=>aE (x:=(⟨0,0,0,0,0⟩:bU)) fb hs.At (have hs:=(((hs.drop).p1.drop).p1.drop).p1.drop;⟨rfl,hs.mut⟩)))
 obtain⟨s,XP⟩:=gx ss (i:=((k:Nat):Int).toNat) (by omega);obtain⟨x,hxk⟩:=gx (gJ m) (i:=k) (by omega);obtain⟨gx,rfl,_⟩:=hs.p4.fk.2 k s x (by rw[<- Int.toNat_natCast k];exact XP) hxk;refine⟨λ jv w'=>jv=.bool (mV q x)/\St w F [qA K p m,bY b4 (Flat.enc (⟨0,0,0,0,0⟩:bU)),bY b3 (Flat.enc (⟨q.kind,q.t,q.i,gc⟩:bF)),bG x79 ss,fk (jh ss (gJ m))] w',?_,?_⟩
 ·have FR:mV q x=(decide (x.kind=q.kind)&&decide (x.t=q.t)&&decide (x.i=q.i)&&decide (q.cut.length=0)):=by unfold mV;first|rfl|(simp only[eq_comm])
  have hs:=hs.drew;refine aO lY (hs.p3).dX (by omega) XP (λ q0 h0=>bW x.kind pL h0 rfl rfl (λ r0 g0=>aE (x:=x.kind) bL g0 (aA pL (aB (v:=.int .i64 q.kind) bL hs.p2.hb rfl (aH (aC (λ c3=>?_) (λ c3=>⟨vb (by rw[FR,decide_eq_false c3];simp),hs⟩)))))));refine aO lY (hs.p3).dX (by omega) XP (λ q1 h1=>bW x.t mK h1 rfl rfl (λ r1 g1=>aE (x:=x.t) bL g1 (aA mK (aB (v:=.int .i64 q.t) bL hs.p2.hb rfl ?_))));exact aH (aC (λ c4=>aO lY (hs.p3).dX (by omega) XP (λ q2 h2=>bW x.i sU h2 rfl rfl (λ r2 g2=>aE (x:=x.i) bL g2 (aA sU (aB (v:=.int .i64 q.i) bL hs.p2.hb rfl (aH (aC (λ c5=>aA pM (aB (v:=Flat.val (gc:SV)) eg hs.p2.hb rfl (aI cM (Nl _ hs.aF) (aH ⟨vb (by rw[FR,decide_eq_true c3,decide_eq_true c4,decide_eq_true c5];exact decide_eq_decide.2 (by omega)),hs⟩)))) (λ c5=>⟨vb (by rw[FR,decide_eq_false c5];simp),hs⟩)))))))) (λ c4=>⟨vb (by rw[FR,decide_eq_false c4];simp),hs⟩))
 rintro _ w17 ⟨rfl,hs⟩ xB;refine aW (λ c3=>?_) (λ c3=>?_);rotate_left
 ·refine aK (by omega) ?_;refine⟨_,by omega,k+1,rfl,rfl,by omega,λ j x' hj hx'=>?_,hs⟩
  by_cases e:j=k
  ·subst e;rw[hxk]at hx';cases hx';exact c3
  exact eD j x' (by omega) hx'
 have vW:(gJ m).any (mV q)=true:=List.any_eq_true.2 ⟨x,List.mem_of_getElem? hxk,c3⟩;obtain⟨hf0,h0,_,t,ht,hkd⟩:=aj4 vW;have ZV:qw m q=(if (gJ m).any (mV q)=true then(if q.kind=2 then(match m.l[q.t.toNat]? with|some t=>((sP m t q,sN q.t (dB t.buf q.i),0):gW×bU×Int)|none=>(m,⟨0,0,0,0,0⟩,13))else((ie m q.t).1,(ie m q.t).2,0))else(m,⟨0,0,0,0,0⟩,13)):=by unfold qw;rw[z8];rfl
 rw[ZV,if_pos vW];refine aA pL (aB (v:=.int .i64 q.kind) bL hs.p2.hb rfl (aH (aC (λ c4=>?_) (λ c4=>?_))))
 ·rw[if_pos c4,ht];refine aA mK (aB (v:=.int .i64 q.t) bL hs.p2.hb rfl (aA sU (aB (v:=.int .i64 q.i) bL hs.p2.hb rfl (bD axQ hs (H':=λ _=>qA K p (sP m t q)) (Φ:=λ v _=>v=Flat.val (sN q.t (dB t.buf q.i))) (λ F2 dY dW=>?_) ?_))))
  ·exact C95 K p m q q.t q.i rfl rfl t F2 _ dY iy rA h0 ht
  rintro _ w18 rfl hs;exact aJ (x:=sN q.t (dB t.buf q.i)) hs.p1 fb rfl rfl (λ w19 hs=>aE (x:=sN q.t (dB t.buf q.i)) fb hs.At (have hs:=(((hs.drop).p1.drop).p1.drop).p1.drop;⟨rfl,hs.mut⟩))
 rw[if_neg c4]
 have tS:sw m t=true:=by
  rcases hkd with h|h
  ·exact h.2
  ·exact absurd h.1 c4
 refine aA mK (aB (v:=.int .i64 q.t) bL hs.p2.hb rfl (bD axP hs (H':=λ _=>qA K p (ie m q.t).1) (Φ:=λ v _=>v=Flat.val (ie m q.t).2) (λ F2 dY dW=>?_) ?_))
 ·exact C96 K p m q.t t F2 _ dY (λ w' hc=>hK w' (dW w' hc).aF) iy hvo rA h0 ht tS Fx
 rintro _ w20 rfl hs;exact aJ (x:=(ie m q.t).2) hs.p1 fb rfl rfl (λ w21 hs=>aE (x:=(ie m q.t).2) fb hs.At (have hs:=(((hs.drop).p1.drop).p1.drop).p1.drop;⟨rfl,hs.mut⟩))
theorem C217(sv:Value)(ps:List Ptr)(g0:Nat)(first cap:List Value)(g:Nat->Bool)(w:World)(hL:dC (λ _=>True) w sv ps)(oZ:Plain Tryz.prog g0)(jT:∀(i:Nat) (s:Ptr) (w1:World),ps[i]?=some s->Ext w w1->Calls Tryz.prog g0 (first++[Flat.val s]++cap).toArray w1 (tX λ v w2=>v=.bool (g i)/\Ext w1 w2))(hn:ps.length<=1073741824):CR 217 [sv,(.func (.func g0) first.toArray cap.toArray)] w (λ v w'=>v=.int .i64 (rT g (List.range ps.length))/\Ext w w'):=by
 have hs:=St.start w;refine eS Tryz.func217 ?_;refine aI Kk (hL.ext hs.aF) ?_;refine⟨λ mm y w1=>∃k:Nat,y=.int .i64 (k:Int)/\mm=ps.length-k/\k<=ps.length/\(∀y∈(List.range ps.length).take k,g y=false)/\St w aY [] w1,⟨_,0,rfl,rfl,Nat.zero_le _,by simp,hs⟩,?_⟩;rintro mm _ w1 ⟨k,rfl,rfl,hk,eD,hs⟩ _;refine aQ (aC (λ c1=>?_) (λ _=>⟨congrArg (Value.int .i64) (iU (by rw[List.take_of_length_le (by rw[List.length_range];omega)]at eD;exact eD)).symm,hs.aF⟩));obtain⟨e,he⟩:=gx ps (i:=((k:Nat):Int).toNat) (by omega);refine aO Kk (hL.ext hs.aF) (by omega) he (λ q hq=>aE GA hq (gK oZ (jT k e w1 he hs.aF) ?_))
 rintro _ w2 ⟨rfl,h2⟩;have hs:=hs.ext h2;exact aW (λ c2=>⟨congrArg (Value.int .i64) (lS eD (List.getElem?_range (by omega)) c2).symm,hs.aF⟩) (λ c2=>aK (by omega) ⟨_,by omega,k+1,rfl,rfl,by omega,dR eD (List.getElem?_range (by omega)) c2,hs⟩)
theorem C142(sv:Value)(ps:List Ptr)(g0:Nat)(first cap:List Value)(g:Nat->Bool)(w:World)(hL:dC (λ _=>True) w sv ps)(oZ:Plain Tryz.prog g0)(jT:∀(i:Nat) (s:Ptr) (w1:World),ps[i]?=some s->Ext w w1->Calls Tryz.prog g0 (first++[Flat.val s]++cap).toArray w1 (tX λ v w2=>v=.bool (g i)/\Ext w1 w2))(hn:ps.length<=1073741824):CR 142 [sv,(.func (.func g0) first.toArray cap.toArray)] w (λ v w'=>v=.bool ((List.range ps.length).any g)/\Ext w w'):=by
 have hs:=St.start w;refine eS Tryz.func142 ?_;exact aT aqh hs (C217 _ ps g0 first cap g _ (hL.ext hs.aF) oZ (λ i s w1 h e=>jT i s w1 h (hs.aF.then e)) hn) (λ _ _ hs=>cS ⟨vb (kF _ _),hs.aF⟩)
theorem C140(K Φ:World->Prop)(p:Nat)(room:Int)(t:jP)(w:World)(hh:Has (eL K Φ p room t) w)(O3:K w)(GH:t.buf.length<=1000):CR 140 [.pointer (some ⟨p,0,none⟩)] w (λ v w'=>v=.bool (!mC t)/\Ext w w'):=by
 obtain⟨bp,nv,rg,pl,es,hk,su,hB,CG,oZ,I6,_⟩:=eL.rd hh;have ct3:=su.cell (o:=3) rfl;have FY:=I6.len;have A0:=rf es;have hs:=St.start w;refine eS Tryz.func140 ?_;refine⟨λ jv w'=>jv=.bool (!mC t)/\Ext w w',?_,?_⟩
 ·exact aD (aA jE (bM rI (ct3.ext hs.aF) (aI uh (oZ.ext hs.aF) (cP (aC (λ _=>⟨vb (by unfold mC;rw[decide_eq_false (show ¬ t.cD.length=0 from by omega)];rfl),hs.aF⟩) (λ _=>aT agj hs (C141 K Φ p room t _ (hh.ext hs.aF) GH) (λ _ _ hs=>bQ ⟨vb (by unfold mC;rw[decide_eq_true (show t.cD.length=0 from by omega),Bool.true_and]),hs.aF⟩)))))))
 rintro _ _ h _;exact h
theorem C68(K:World->Prop)(p:Nat)(m:gW)(w:World)(hm:Has (gI K p m) w)(hw:∀w',Ext w w'->K w')(iy:ou m):CR 68 [.pointer (some ⟨p,0,none⟩)] w (λ v w'=>v=Flat.val (iW m)/\Ext w w'):=by
 obtain⟨a,hr⟩:=gI.rd hm (hw _ (Ext.refl _));have E5:=hr.b.cell (o:=11) rfl;have aae:=hr.b.cell (o:=12) rfl;have TR:=hr.b.cell (o:=13) rfl;have arq:=hr.b.cell (o:=14) rfl;have hlen:=hr.len;have Nv:=iy.tl;have hs:=St.start w;refine oY Tryz.func68 (pl:=P68) ?_;refine aM hs xu (λ b2 w1 hs=>have hs:=(hs.enc (cs':=Flat.enc (⟨0,0,0,false,false⟩:gT)) rfl).drew;aD (aA Ii (bM bL (aae.ext hs.aF) (aD (aA xt (bM bL (TR.ext hs.aF) (aD (aA QU (bM bL (arq.ext hs.aF) (pop (I9 m.bZ m.fault m.iS) (aM hs xu (λ b4 _ hs=>?_))))))))))))
 refine⟨aG bL (aae.ext hs.aF),?_⟩;refine⟨aG bL (TR.ext hs.aF),?_⟩;refine⟨aG bL (arq.ext hs.aF),?_⟩;refine aJ (x:=(⟨m.bZ,m.fault,m.iS,false,false⟩:gT)) hs yi rfl rfl (λ _ hs=>?_);refine⟨λ w'=>St w aY [bY b4 (Flat.enc (⟨m.bZ,m.fault,m.iS,kX m,false⟩:gT)),bY b2 (Flat.enc (⟨0,0,0,false,false⟩:gT))] w',?_,?_⟩
 ·refine aD (aA xt (bM bL (TR.ext hs.aF) (aH (aC (λ c1=>?_) (λ c1=>?_)))))
  ·refine aD (aA u5 (bM Ie (E5.ext hs.aF) ?_))
   refine aT aqg hs (C142 _ a.ps 140 [] [] (λ i=>match m.l[i]? with|some t=>!mC t|none=>false) _ (hr.ll.ext hs.aF) aqf (λ i s w1 h e=>by
    obtain⟨t,ht⟩:∃t,m.l[i]?=some t:=⟨_,List.getElem?_eq_getElem (by have:=(List.getElem?_eq_some_iff.1 h).1;omega)⟩;rw[ht];exact C140 K _ s.b m.room t w1 ((hr.th i s t h ht).ext (hs.aF.then e)) (hw _ (hs.aF.then e)) (iy.th t (List.mem_of_getElem? ht)).bl) (by omega)) (λ _ he hs=>?_)
   refine bQ (aA pS (aS hs zQ (dI rfl) rfl (λ w5 hs=>?_)));have hdm:kX m = !((List.range a.ps.length).any (λ i=>match m.l[i]? with|some t=>!mC t|none=>false)):=by unfold kX;rw[decide_eq_true c1,hr.len];rfl
   rw[hdm];exact hs
  refine aA pS (aS hs zQ (dI rfl) rfl (λ w5 hs=>?_));have hdm:kX m=false:=by unfold kX;rw[decide_eq_false c1];rfl
  rw[hdm];exact hs
 intro _ hs _
 have vm:∀(b:Bool) (w':World),mD m=b->St w aY [bY b4 (Flat.enc (⟨m.bZ,m.fault,m.iS,kX m,b⟩:gT)),bY b2 (Flat.enc (⟨0,0,0,false,false⟩:gT))] w'->St w aY [bY b4 (Flat.enc (iW m)),bY b2 (Flat.enc (⟨0,0,0,false,false⟩:gT))] w':=λ b w' h1 h2=>by
  subst h1;exact h2
 refine⟨λ w'=>St w aY [bY b4 (Flat.enc (iW m)),bY b2 (Flat.enc (⟨0,0,0,false,false⟩:gT))] w',?_,?_⟩
 ·refine aD (aA xt (bM bL (TR.ext hs.aF) (aH (aC (λ c1=>?_) (λ c1=>?_)))));rotate_left
  ·exact aA pU (aS hs zQ (dI rfl) rfl (λ _ hs=>vm false _ (by unfold mD;rw[decide_eq_false c1];rfl) hs))
  refine aA pS (aB (v:=.bool (kX m)) zQ hs.hb rfl (bQ (aW (λ c2=>?_) (λ c2=>?_))));rotate_left
  ·exact aA pU (aS hs zQ (dI rfl) rfl (λ _ hs=>vm false _ (by unfold mD;rw[show kX m=true from by simpa using c2];simp) hs))
  refine ek aqa hs (C67 K p m _ (hm.ext hs.aF) (λ _ e=>hw _ (hs.aF.then e)) iy) (λ x45 w7 cO hs=>?_);obtain⟨akE,aaf,aag⟩:=(hs).dl;refine aI lY aaf ?_;rw[show akE.length=(gJ m).length from aag.1];exact aH (have hs:=hs.drop;aA pU (aS hs zQ (dI rfl) rfl (λ _ hs=>vm (decide (((gJ m).length:Int)=0)) _ (by unfold mD;rw[decide_eq_true c1,show kX m=false from by simpa using c2];rfl) hs)))
 intro _ hs _;exact aE (x:=iW m) yi hs.At (aJ (x:=iW m) hs.p1 yi rfl rfl (λ _ hs=>aE yi hs.At ⟨rfl,hs.drop.drop.aF⟩))
theorem akF{φ:bN->Prop}{p:PD}(h:E1 φ p):(vM p).length=0↔p.length=0:=by
 constructor
 ·intro h0
  rcases adY (p:=p)with h1|⟨q,hq,h2⟩
  ·omega
  exact absurd h2 (h.ne q hq)
 simp_all[Dq,vM]
theorem Ut(g:Nat->Bool)(k:Nat):(List.range (k+1)).any g=((List.range k).any g||g k):=by grind
theorem C74(K:World->Prop)(p:Nat)(m:gW)(w:World)(hm:Has (qA K p m) w)(hw:∀w',Ext w w'->K w')(iy:ou m):CR 74 [.pointer (some ⟨p,0,none⟩)] w (λ v w'=>v=Flat.val (iW m)/\Ext w w'):=by
 obtain⟨a,hr⟩:=qA.rd hm;have cm7:=hr.b.cell (o:=7) rfl;have F6:=hr.b.cell (o:=10) rfl;have E5:=hr.b.cell (o:=11) rfl;have aae:=hr.b.cell (o:=12) rfl;have hlen:=hr.len;have Nv:=iy.tl;have hs:=St.start w;refine oY Tryz.func74 (pl:=P74) ?_;refine aM hs xu (λ b2 _ hs=>have hs:=(hs.enc (cs':=Flat.enc (⟨0,0,0,false,false⟩:gT)) rfl).drew;aD (aA CP (bM bL (cm7.ext hs.aF) (aD (aA xr (bM bL (E5.ext hs.aF) (aD (aA QS (bM bL (aae.ext hs.aF) (aD (aA xr (bM bL (E5.ext hs.aF) ?_))))))))))));refine aH (pop (Fm m.bZ m.fault m.iS (decide (m.fault=0))) (aM hs xu (λ b3 _ hs=>?_)))
 refine⟨aG bL (cm7.ext hs.aF),?_⟩;refine⟨aG bL (E5.ext hs.aF),?_⟩;refine⟨aG bL (aae.ext hs.aF),?_⟩;refine⟨aG bL (E5.ext hs.aF),?_⟩;refine aJ (x:=(⟨m.bZ,m.fault,m.iS,decide (m.fault=0),false⟩:gT)) hs yi rfl rfl (λ _ hs=>?_);refine⟨λ mm y w'=>∃k:Nat,y=.int .i64 (k:Int)/\mm=a.ps.length-k/\k<=a.ps.length/\St w aY [bY b3 (Flat.enc (⟨m.bZ,m.fault,m.iS,(decide (m.fault=0)&&!(List.range k).any (λ i=>match m.l[i]? with|some t=>!mC t|none=>false)),false⟩:gT)),bY b2 (Flat.enc (⟨0,0,0,false,false⟩:gT))] w',⟨_,0,rfl,rfl,Nat.zero_le _,by rw[show(decide (m.fault=0)&&!(List.range 0).any (λ i=>match m.l[i]? with|some t=>!mC t|none=>false))=decide (m.fault=0)by simp];exact hs⟩,?_⟩
 rintro mm _ w4 ⟨k,rfl,rfl,hk,hs⟩ _;refine aD (aA oC (bM DF (F6.ext hs.aF) (aI FU (hr.ll.ext hs.aF) (aQ (aC (λ c1=>?_) (λ c1=>?_))))))
 ·obtain⟨t,ht⟩:=gx m.l (i:=k) (by omega);obtain⟨e,he⟩:=gx a.ps (i:=((k:Nat):Int).toNat) (by omega);have UI:=hr.th k e t (by rw[<- Int.toNat_natCast k];exact he) ht;have ki:=iy.th t (List.mem_of_getElem? ht);obtain⟨bp,nv,rg,lv,ds,vD,su,hB,CG,hlr⟩:=lZ.rd UI;obtain⟨bsv,B6,uG,hBL⟩:=hB;have ct0:=su.cell (o:=0) rfl;have ct3:=su.cell (o:=3) rfl;have JF:=vD.2.1.1;have FL:=akF ki.p;have vW:(List.range (k+1)).any (λ i=>match m.l[i]? with|some t=>!mC t|none=>false)=((List.range k).any (λ i=>match m.l[i]? with|some t=>!mC t|none=>false)||!mC t):=(Ut _ k).trans (by rw[ht]);refine⟨λ w'=>St w aY [bY b3 (Flat.enc (⟨m.bZ,m.fault,m.iS,(decide (m.fault=0)&&!(List.range (k+1)).any (λ i=>match m.l[i]? with|some t=>!mC t|none=>false)),false⟩:gT)),bY b2 (Flat.enc (⟨0,0,0,false,false⟩:gT))] w',?_,?_⟩
  rotate_left
  ·intro w9 hs _;exact aK (by omega) ⟨_,by omega,k+1,rfl,rfl,by omega,hs⟩
  refine⟨λ jv w'=>jv=.bool (!mC t)/\w'=w4,?_,?_⟩
  ·refine aD (aA oC (bM DF (F6.ext hs.aF) (aO FU (hr.ll.ext hs.aF) (by omega) he (λ q hq=>aE Gz hq (aD (aA ky (bM ug (ct0.ext hs.aF) (aI nq (hlr.ext hs.aF) (cP (aC (λ _=>⟨vb (by unfold mC;rw[decide_eq_false (show ¬ t.cD.length=0 from by omega)];rfl),rfl⟩) (λ c2=>aD (aA oC ?_))))))))))));refine bM DF (F6.ext hs.aF) (aO FU (hr.ll.ext hs.aF) (by omega) he (λ q hq=>aE Gz hq (aD (aA nt (bM yh (ct3.ext hs.aF) (aD (aA gP (bM iE (uG.ext hs.aF) (aI fO (hBL.ext hs.aF) (cP ?_))))))))))
   refine⟨vb ?_,rfl⟩;unfold mC;rw[decide_eq_true (show t.cD.length=0 from by omega),Bool.true_and,<- decide_not];exact decide_eq_decide.2 (by omega)
  rintro _ _ ⟨rfl,rfl⟩ vz;refine aW (λ c3=>?_) (λ c3=>?_)
  ·refine aA pS (aS hs zQ (dI rfl) rfl (λ _ hs=>?_));rw[vW,c3,Bool.or_true,Bool.not_true,Bool.and_false];exact hs
  rw[vW,c3,Bool.or_false];exact hs
 have hdm:(decide (m.fault=0)&&!(List.range k).any (λ i=>match m.l[i]? with|some t=>!mC t|none=>false))=kX m:=by unfold kX;rw[show k=m.l.length from by omega];rfl
 rw[hdm]at hs
 have vm:∀(b:Bool) (w':World),mD m=b->St w aY [bY b3 (Flat.enc (⟨m.bZ,m.fault,m.iS,kX m,b⟩:gT)),bY b2 (Flat.enc (⟨0,0,0,false,false⟩:gT))] w'->St w aY [bY b3 (Flat.enc (iW m)),bY b2 (Flat.enc (⟨0,0,0,false,false⟩:gT))] w':=λ b w' h1 h2=>by
  subst h1;exact h2
 refine⟨λ w'=>St w aY [bY b3 (Flat.enc (iW m)),bY b2 (Flat.enc (⟨0,0,0,false,false⟩:gT))] w',?_,?_⟩
 ·refine aD (aA xr (bM bL (E5.ext hs.aF) (aH (aC (λ c2=>?_) (λ c2=>?_)))));rotate_left
  ·exact aA pU (aS hs zQ (dI rfl) rfl (λ _ hs=>vm false _ (by unfold mD;rw[decide_eq_false c2];rfl) hs))
  refine aA pS (aB (v:=.bool (kX m)) zQ hs.hb rfl (bQ (aW (λ c3=>?_) (λ c3=>?_))));rotate_left
  ·exact aA pU (aS hs zQ (dI rfl) rfl (λ _ hs=>vm false _ (by unfold mD;rw[show kX m=true from by simpa using c3];simp) hs))
  refine ek aqY hs (C22 K p m _ (hm.ext hs.aF) (λ _ e=>hw _ (hs.aF.then e)) iy) (λ x45 w7 cO hs=>?_);obtain⟨akE,aaf,aag⟩:=(hs).dl;refine aI lY aaf ?_;rw[show akE.length=(gJ m).length from aag.1];exact aH (have hs:=hs.drop;aA pU (aS hs zQ (dI rfl) rfl (λ _ hs=>vm (decide (((gJ m).length:Int)=0)) _ (by unfold mD;rw[decide_eq_true c2,show kX m=false from by simpa using c3];rfl) hs)))
 intro w9 hs vz;exact aE (x:=iW m) yi hs.At (aJ (x:=iW m) hs.p1 yi rfl rfl (λ _ hs=>aE (x:=iW m) yi hs.At ⟨rfl,hs.drop.drop.aF⟩))
theorem C75(K:World->Prop)(p:Nat)(m:gW)(w:World)(hm:Has (qA K p m) w)(hw:∀w',Ext w w'->K w')(iy:ou m)(hvo:Ju m)(Fx:m.mem.dV=eX m.p):CR 75 [.pointer (some ⟨p,0,none⟩)] w (λ v w'=>lL (bG v (eY m)) w w'):=by
 obtain⟨a,hr⟩:=qA.rd hm;have cm5:=hr.b.cell (o:=5) rfl;have Gb:=hr.b.cell (o:=8) rfl;have iL:=qy m.p;have ayr:m.mem.l.length=(g9 m.p).length:=by rw[iy.mem.ll,Fx];unfold eX;grind
 have Ew:(cT m.p).length=(g9 m.p).length:=by unfold cT;grind
 have Tg:(g9 m.p).length<=20:=by have:=iy.mem.fl;have:=iy.mem.ll;omega
 have hcb:=iy.pz.dP;have hcz:=iy.pz.zc;obtain⟨g0,g1,g2,g3,g4,g5,hpv,_,_,_,_,_,JF⟩:=hr.uk.pr _ (hw _ (Ext.refl _));rw[hpv]at cm5;obtain⟨cts,Ct,yu⟩:=JF.open;have UH:=yu.1;obtain⟨ov,fv,lv,kv,wv,ws,jQ,sF,hmo,hmf,B8,are,hmw⟩:=hr.mem.ex;have hs:=St.start w;refine aj9 _ _ _ ?_;unfold S75;refine aX (([]:List Bool)) hs ue rfl rfl (dI rfl) (λ s8 _ hs=>aD (aA oB (qZ a.pv ep (ng.ext hr.b hs.aF) rfl (aT HX hs (C62 m.p a.pv _ (hr.uk.pr _ (hw _ hs.aF)) iy.pz) (λ _ he hs=>?_)))));refine⟨λ mm o y w'=>∃k:Nat,y=.int .i64 (k:Int)/\mm=cts.length-k/\k<=cts.length/\St w aY [bG o ((m.p.dP.take k).map (oU m))] w',⟨_,0,rfl,rfl,Nat.zero_le _,hs⟩,?_⟩
 rintro mm o _ _ ⟨k,rfl,rfl,hk,hs⟩ _;refine aD (aA oB (aA jn (bM qB (cm5.ext hs.aF) (aI sJ (Ct.ext hs.aF) (aQ (aC (λ c1=>?_) (λ c1=>?_)))))));rotate_left
 ·rw[List.take_of_length_le (by omega)]at hs;exact hs.fresh
 obtain⟨ct,hct⟩:=gx cts (i:=((k:Nat):Int).toNat) (by omega);obtain⟨cl,Jz⟩:=gx m.p.dP (i:=((k:Nat):Int).toNat) (by omega);obtain⟨ge,rfl,SX⟩:=yu.2 _ ct cl hct Jz;obtain⟨akI,ayu⟩:=hcz cl (List.mem_of_getElem? Jz);refine⟨λ jv w'=>St w aY [bG jv ((m.p.dP.take (k+1)).map (oU m))] w',?_,?_⟩;rotate_left
 ·rintro o2 _ hs _;exact aK (by omega) ⟨_,by omega,k+1,rfl,rfl,by omega,hs⟩
 have hs:=hs.drew;refine aD (aA oB (aA jn (bM qB (cm5.ext hs.aF) (aO sJ Ct (by omega) hct (λ q hq=>bW ge uZ hq rfl rfl (λ q2 JH=>aE jo (JH.ext hs.aF) (aD (aA oB (qZ a.pv ep (ng.ext hr.b hs.aF) rfl (aD (aA sT (bM pR (Gb.ext hs.aF) ?_))))))))))));refine aD (aA rH (bM eg ((sF.cell (o:=2) rfl).ext hs.aF) (lK cM B8 (by omega) (by omega) (λ s49 h49=>ek J0 hs (C124 m.p a.pv _ (hr.uk.pr _ (hw _ hs.aF)) iy.pz) (λ x38 _ cO hs=>?_)))));refine⟨aG qB (cm5.ext hs.aF),?_⟩;refine⟨eZ jo (JH.ext hs.aF),?_⟩
 refine⟨aG pR (Gb.ext hs.aF),?_⟩;refine⟨aG eg ((sF.cell (o:=2) rfl).ext hs.aF),?_⟩;refine lK ik (hs).dX (by omega) (by omega) (λ s40 h40=>aT agy hs (C146 _ _ _ cl.e (gg m.p) (m.mem.l.take (eu m.p).toNat) _ (DL.flat (SX.ext hs.aF)) h40 (h49.ext hs.aF) akI (by unfold gg;rw[List.length_take];omega) ayu (hvo.mem.l.take _)) (λ _ he hs=>aN rfl (aN rfl (aH ?_))));have hcv:oU m cl=(decide ((pA (gg m.p) (m.mem.l.take (eu m.p).toNat) cl.e).2=0)&&decide ((pA (gg m.p) (m.mem.l.take (eu m.p).toNat) cl.e).1≠0)):=rfl;refine aC (λ c2=>?_) (λ c2=>?_)
 ·refine bV (aX (([oU m cl]):List Bool) hs ue rfl (by rw[hcv,decide_eq_true c2,Bool.true_and];rfl) (dI rfl) (λ s47 w7 hs=>?_));have Qn:=(hs).dX;refine bI hs.p2 ue Qn (by rw[List.length_map,List.length_take,List.length_singleton];omega) (by decide) (λ s48 w8 hs=>?_);rw[<- fW (k:=k) Jz];exact(hs.p1.drop).p1.drop
 refine aX (([oU m cl]):List Bool) hs ue rfl (by rw[hcv,decide_eq_false c2,Bool.false_and];rfl) (dI rfl) (λ s47 w7 hs=>?_);have Qn:=(hs).dX;refine bI hs.p2 ue Qn (by rw[List.length_map,List.length_take,List.length_singleton];omega) (by decide) (λ s48 w8 hs=>?_);rw[<- fW (k:=k) Jz];exact(hs.p1.drop).p1.drop
variable (w:World) (K:Value->World->Prop)
def ayx:dD:=λ i=>match i with
 | 2=>(.op 0 [] (.op 1 [] (.op 2 [] (.op 4 [] (.alt 3 [1,4] (.alt 5 [1] (.of [(6,[]),(7,[]),(8,[1,4]),(9,[])]) (.alt 8 [1,4] (.of [(5,[1]),(6,[]),(7,[]),(9,[])]) .stop)) (.alt 8 [1,4] (.of [(3,[1,4]),(5,[1]),(6,[]),(7,[]),(9,[])]) .stop))))))
 | 5=>(.of [(0,[]),(1,[]),(2,[]),(3,[1]),(4,[]),(5,[])])
 | _=>.nil
theorem Qo:PL 40:=dF Tryz.func40
theorem aru:PL 42:=dF Tryz.func42
theorem agE:PL 101:=dF Tryz.func101
theorem arv:PL 102:=dF Tryz.func102
theorem arw:PL 172:=dF Tryz.func172
end Go.Proofs.YtpdlpabnlkofmaaGreatDoor
namespace Go.Proofs.YtpdlpabnlkofmaaGreatDoor
open Go.Fw
theorem zq:pr Tryz.prog (Instr.build 63 [].toArray)=some (.agg [.int .i64 0,.int .i64 0,.int .i64 0,.slice none 0 0].toArray):=by kernel_rfl
theorem kN(a2:Int)(a3:Option Addr)(n3 c3:Nat):pr Tryz.prog (Instr.build 63 [(2,.int .i64 a2),(3,.slice a3 n3 c3)].toArray)=some (.agg [.int .i64 0,.int .i64 0,.int .i64 a2,.slice a3 n3 c3].toArray):=by kernel_rfl
end Go.Proofs.YtpdlpabnlkofmaaGreatDoor
