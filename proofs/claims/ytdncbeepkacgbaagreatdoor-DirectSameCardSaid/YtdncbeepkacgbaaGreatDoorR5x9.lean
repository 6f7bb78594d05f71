/-
  Part 9.
-/
import Derived.Test.YtdncbeepkacgbaaGreatDoorR5x8
set_option maxHeartbeats 8000000
set_option linter.all false
set_option maxRecDepth 100000
open Go.Fw.Flat renaming val->jj,enc->jl
open ByteArray renaming mk->jY
open List renaming mem_of_getElem?->ml,length_map->oi,drop_eq_nil_iff->B7
open Go.Instr renaming build->mZ
open Go.Fw.Deep renaming dr->n4,ext->B4
open Nat renaming zero_le->ob,le_trans->xL,le_of_eq->zU
namespace Go.Proofs.YtdncbeepkacgbaaGreatDoor
open Go.Fw
variable (w:World) (K:Value->iD)
def S19:Prop:=
 cF 44 [(Go.Value.string (jY (#[108,105,110,101,32,97,59,32,116,104,114,101,97,100,32,116,32,123,32,114,101,103,32,114,59,32,108,111,111,112,32,50,32,123,32,105,102,32,114,32,123,32,98,114,101,97,107,59,32,125,32,115,116,111,114,101,32,97,32,61,32,49,59,32,114,32,61,32,49,59,32,125,32,108,111,97,100,32,114,32,61,32,97,59,32,99,104,101,99,107,32,114,32,61,61,32,48,59,32,125,32,97,108,119,97,121,115,32,97,32,61,61,32,49,59])))] w λa b=>
 xT a 0 λc=>xT a 1 λ_=>xT a 2 λ_=>aL 36 b λp1 d=>sA 36 p1 c d λe=>lA 36 p1 e λf=>cF 17 [f,(i 2)] e λg h=>xT g 0 λj=>xT g 1 λk=>eK hZ (mZ 36 [].toArray) λl=>
 cF 17 [l,(i 2)] h λn o=>xT n 0 λ_=>xT n 1 λp=>lA 36 p1 o λq=>cF 17 [q,(i 0)] o λr s=>xT r 0 λ_=>xT r 1 λt=>eW (λK1=>bB .eql 39 j (.pointer none) λu=>
 cV u (K1 tt s) (bB .neq 40 k (i 0) λv=>K1 v s)) (λx y=>∀_:Env,
 cV x (K ff y) (eK hZ (mZ 67 [(0,(i 1))].toArray) λz=>eK hZ (mZ 67 [(0,(i 2))].toArray) λaa=>aL 67 y λI ab=>aL 67 ab λG ac=>
 sA 67 I z ac λad=>sA 67 G aa ad λae=>cF 60 [j,(i 0)] ae λY ag=>xT Y 0 λah=>xT Y 1 λai=>lA 67 I ag λaj=>cF 37 [j,aj] ag λZ al=>xT Z 0 λam=>
 xT Z 1 λan=>aL 72 al λO ao=>sA 72 O am ao λap=>cF 22 [j] ap λaq ar=>cF 61 [j] ar λasx au=>lA 67 G au λav=>cF 37 [j,av] au λaw ax=>xT aw 0 λay=>
 xT aw 1 λ_=>aL 72 ax λJ az=>sA 72 J ay az λa0=>lA 67 I a0 λa1=>cF 37 [j,a1] a0 λa2 a3=>xT a2 0 λa4=>xT a2 1 λ_=>aL 72 a3 λU a5=>sA 72 U a4 a5 λa6=>
 lA 67 I a6 λa7=>cF 37 [j,a7] a6 λa8 a9=>xT a8 0 λba=>xT a8 1 λ_=>aL 72 a9 λM bb=>sA 72 M ba bb λbc=>cF 21 [j] bc λbd V=>aL 56 V λbf bg=>
 sA 56 bf bd bg λbh=>cF 60 [j,(i 1)] bh λbi W=>xT bi 0 λ_=>xT bi 1 λbk=>bB .eql 39 asx (.pointer none) λbl=>cV bl (K ff W) (lA 67 I W λbm=>cF 37 [asx,bm] W λbn bo=>
 xT bn 0 λbp=>xT bn 1 λ_=>aL 72 bo λV bq=>sA 72 V bp bq λE=>eW (λK2=>bB .eql 40 p (i 2) λbs=>cV bs (bB .eql 40 t (i 1) λbt=>cV bt (bB .eql 3 ah (i 51) λbu=>
 cV bu (cV ai (lA 72 O E λbv=>eK hZ (mZ 72 [(0,(i 3)),(3,(i 1))].toArray) λbw=>bA .eql 72 bv bw λbx=>cV bx (bB .eql 40 an (i 0) λbz=>cV bz (lA 67 I E λb0=>
 lA 67 G E λb1=>bS 58 2 [(0,b0),(1,b1)] E λb2 b3=>cF 23 [aq,b2] b3 λb4 B=>cV b4 (lA 72 J B λb6=>eK hZ (mZ 72 [(0,(i 12)),(3,(i 1))].toArray) λb7=>
 bA .eql 72 b6 b7 λb8=>cV b8 (lA 72 U B λb9=>eK hZ (mZ 72 [(0,(i 1)),(3,(i 1))].toArray) λca=>bA .eql 72 b9 ca λcb=>cV cb (lA 72 M B λcc=>
 eK hZ (mZ 72 [(0,(i 16)),(2,(i 1))].toArray) λcd=>bA .eql 72 cc cd λce=>cV ce (lA 56 bf B λcf=>eK hZ (mZ 56 [(1,(i 1))].toArray) λcg=>
 bA .eql 56 cf cg λch=>cV ch (eK hZ (Op.unary .not bk) λci=>cV ci (lA 72 V B λcj=>eK hZ (mZ 72 [(0,(i 2)),(3,(i 1))].toArray) λck=>bA .eql 72 cj ck λcl=>
 cV cl (cF 32 [j] B λcm cn=>bS 64 1 [(0,tt)] cn λco cp=>cF 31 [cm,co] cp λcq cr=>cV cq (cF 27 [j] cr λcs ct=>bS 22 1 [(0,(i 1))] ct λcu cv=>cF 26 [cs,cu] cv λcw cx=>
 cV cw (cF 29 [j] cx λcy cz=>bS 22 1 [(0,(i 0))] cz λc0 c1=>cF 26 [cy,c0] c1 λc2 c3=>cV c2 (cF 34 [j] c3 λc4 c5=>lN 58 c4 λc6=>bB .eql 3 c6 (i 0) λc7=>K2 c7 c5) (
 K2 ff c3)) (K2 ff cx)) (K2 ff cr)) (K2 ff B)) (K2 ff B)) (K2 ff B)) (K2 ff B)) (K2 ff B)) (K2 ff B)) (K2 ff B)) (K2 ff E)) (K2 ff E)) (K2 ff E)) (K2 ff E)) (K2 ff E)) (
 K2 ff E)) (λc8 c9=>∀_:Env,
 K c8 c9))))
theorem apQ(h:S19 w K):CR 19 [] w K:=
 qG 187 (λ_=>.nil) 1 [.tmp 0] Tryz.func19 h
theorem axB:PL 19:=dT Tryz.func19
end Go.Proofs.YtdncbeepkacgbaaGreatDoor
namespace Go.Proofs.YtdncbeepkacgbaaGreatDoor
open Go.Fw
def ajq(a1:Int):pr hZ (mZ 56 [(1,iE a1)].toArray)=some (.agg [iE 0,iE a1,iE 0,.bool false,.bool false].toArray):=by kernel_rfl
def afv:xI hZ 56=some [0,0,0,1,1]:=by kernel_rfl
def Mo:xI hZ 72=some [0,0,0,0,0]:=by kernel_rfl
theorem Vc{m:j4}{x:cC}(h:x∈gE m):x.cut=[]:=by
 unfold gE at h
 split at h
 .cases h
 obtain⟨i,t,_,_,h3⟩:=D6 h
 exact(JO h3).2.1
def XV:ByteArray:=⟨#[108,105,110,101,32,97,59,32,116,104,114,101,97,100,32,116,32,123,32,114,101,103,32,114,59,32,108,111,111,112,32,50,32,123,32,105,102,32,114,32,123,32,98,114,101,97,107,59,32,125,32,115,116,111,114,101,32,97,32,61,32,49,59,32,114,32,61,32,49,59,32,125,32,108,111,97,100,32,114,32,61,32,97,59,32,99,104,101,99,107,32,114,32,61,61,32,48,59,32,125,32,97,108,119,97,121,115,32,97,32,61,61,32,49,59]⟩
def uK:bQ:=((yk XV).getD (D0,0,0)).1
def Vd:yk XV=some (uK,0,0):=by decide +kernel
def ZR:∀l e a,yK XV=some (l,e,a)->jE l:=ajp (by decide +kernel)
theorem afw:sS uK=uK:=by decide +kernel
def OB:PZ uK:=by rw[<- afw];exact Ni _
def fq0:j4:=RA uK 2
def J5:j4:=(mQ fq0 (⟨1,0,0,[]⟩:cC)).1
def fq2:j4:=(mQ J5 (⟨2,0,0,[]⟩:cC)).1
def fq3:j4:=(mQ fq2 (⟨1,0,0,[]⟩:cC)).1
def Mp:j4:=(mQ fq3 (⟨1,0,0,[]⟩:cC)).1
def axC:(fW uK=0/\fW D0=2/\sS D0=D0)/\atD fq0 0=(51,true)/\(mQ fq0 (⟨1,0,0,[]⟩:cC)).2=((⟨3,0,0,1,0⟩:bZ),0)/\gE J5=[(⟨1,0,0,[]⟩:cC),(⟨2,0,0,[]⟩:cC)]/\(mQ J5 (⟨2,0,0,[]⟩:cC)).2.1=(⟨12,0,0,1,0⟩:bZ)/\(mQ fq2 (⟨1,0,0,[]⟩:cC)).2.1=(⟨1,0,0,1,0⟩:bZ)/\(mQ fq3 (⟨1,0,0,[]⟩:cC)).2.1=(⟨16,0,1,0,0⟩:bZ)/\(mQ J5 (⟨1,0,0,[]⟩:cC)).2.1=(⟨2,0,0,1,0⟩:bZ):=by decide +kernel
def axD:jq Mp=⟨0,1,0,false,false⟩/\(atD Mp 1).2=false/\vr Mp=[true]/\Mp.mem.l=[1]/\Mp.mem.kept=[0]/\jO Mp=[]/\(eN (Ca Mp.mem)).length<=1000/\Mp.mem.dD=gK Mp.p:=by decide +kernel
def C19(w:World):CR 19 [] w (λv w'=>v=.bool true/\Ext w w'):=by
 obtain⟨⟨r1,r2,r3⟩,r4,r5,r6,r7,r8,r9,r10⟩:=axC;obtain⟨a1,a2,a3,a4,a5,a6,a7,a8⟩:=axD;have B:=St.start w;refine apQ _ _ ?_;unfold S19;refine eC azi (C44 XV (uK,0,0) _ er Vd ZR) ?_;rintro _ _ ⟨pv,rfl,V⟩;have B:=B.made V;refine aN rfl (aN rfl (aN rfl (aJ B xJ λb1 _ B=>aH (x:=pv) B gO rfl rfl λw2 B=>?_)));have B:=B.p1;obtain⟨FF,B,hX⟩:=B.Rl;have hp:PrK (kp FF w2) pv uK:=PrK.of hX;have U:=Oc r1;have M:Fv uK 0 fq0:=Fv.new OB U er;have O:Fv uK 1 J5:=M.step U;have Gw:Fv uK 2 fq2:=O.step U
 have OH:Fv uK 3 fq3:=Gw.step U;have I:Fv uK 4 Mp:=OH.step U;refine aE (x:=pv) gO B.p1.At (eC aiz (C17 (kp FF w2) uK pv 2 _ (λ_ e=>(B.ext e).ep) hp OB) ?_);rintro _ _ hh;obtain⟨_,_,b,X,rfl,V⟩:=(hh.resolve_left λh=>h.1 r1).resolve_left (λh=>by have:=h.2.1;omega);have B:=(B.made V).split;refine aN rfl (aN rfl (pop (v:=jj (⟨bO,bO,bO,bO,bO,bO⟩:bT)) (by kernel_rfl) (eC aiz (C17 (kp FF w2) D0 (⟨bO,bO,bO,bO,bO,bO⟩:bT) 2 _ (λ_ e=>((B.ext e).p2).ep) (PrK.of λw _=>⟨_,_,_,_,_,_,rfl,DL.nil w,DL.nil w,DL.nil w,DL.nil w,DL.nil w,DL.nil w⟩) (by rw[<- r3];exact Ni _)) ?_)))
 rintro _ _ hh
 rcases hh with⟨_,rfl,W⟩|⟨h,_⟩|⟨h,_⟩
 rotate_left
 .rw[r2]at h;cases h
 .rw[r2]at h;cases h
 have B:=B.ext W;refine aN rfl (aN rfl (aE (x:=pv) gO B.p3.At (eC aiz (C17 (kp FF w2) uK pv 0 _ (λ_ e=>((B.ext e).p2).ep) hp OB) ?_)));rintro _ w5 hh
 rcases hh with⟨h,_⟩|⟨_,_,rfl,W⟩|⟨_,h,_⟩
 .exact absurd r1 h
 rotate_left
 .exact absurd h.1 er
 have B:=B.ext W;refine aN rfl (aN rfl ?_);refine⟨λjv w'=>jv=.bool false/\w'=w5,?_,?_⟩
 .exact CA aaS (gu rfl (cN ⟨rfl,rfl⟩))
 rintro _ _ ⟨rfl,rfl⟩ sQ;refine eX (pop (XU 1) (pop (XU 2) (aJ B EG λb4 _ B=>aJ B EG λb5 _ B=>aH (x:=(⟨1,0,0,bO⟩:cY)) B.p1 oc rfl rfl λ_ B=>aH (x:=(⟨2,0,0,bO⟩:cY)) B.p1 oc rfl rfl λ_ B=>?_)));have B:=B.p3.p4;obtain⟨E,eKF⟩:∃E:iD,E=λw=>kp FF w2 w/\X w:=⟨_,rfl⟩;have B:=B.fu;rw[<- eKF]at B;refine aY av3 B (C60 E b fq0 0 _ B.p3.has (λ_ e=>(B.ext e).ep) M.ok) (λ_ W B=>aN rfl (aN rfl (aE (x:=(⟨1,0,0,bO⟩:cY)) oc B.p2.At (aT YZ B.p3 (H':=λ_=>gd E b J5) (Φ:=λv _=>v=.tuple #[jj (mQ fq0 (⟨1,0,0,[]⟩:cC)).2.1,iE (mQ fq0 (⟨1,0,0,[]⟩:cC)).2.2]) (λY ZS dQ=>?_) ?_))))
 .exact C37 E b fq0 (⟨1,0,0,[]⟩:cC) bO Y _ ZS (λw' Z=>(dQ w' Z).ep) M.ok (by rw[M.pr];exact U) (M.mb.mono er) (by have:=M.cr;omega) (λ_ _=>dP.nil _ _) er
 rintro _ _ rfl B;refine aN rfl (aN rfl (aJ B jQ λe1 _ B=>aH (x:=(mQ fq0 (⟨1,0,0,[]⟩:cC)).2.1) B ey rfl rfl λ_ B=>cW aix B (C22 E b J5 _ B.p1.has (λ_ e=>((B.ext e).p2).ep) O.ok) λx69 Gx V B=>?_));have B:=B.p2;obtain⟨G,ewc⟩:∃G,G=Gx:=⟨_,rfl⟩;rw[<- ewc]at B |-;obtain⟨J,B⟩:=gd.share B;have B:=B.p1.p4.fu;refine eC aEw (C61 (λw'=>E w'/\kp J G w') b J5 _ B.p1.has (λ_ e=>(B.ext e).ep) O.ok (O.mb.mono er)) ?_;rintro _ _ ⟨bc,rfl,V⟩;have B:=FB.ZP ((B.made V).p2);refine aE (x:=(⟨2,0,0,bO⟩:cY)) oc B.p5.At (aT YZ B (H':=λ_=>gd (λw'=>E w'/\kp J G w') b fq2) (Φ:=λv _=>v=.tuple #[jj (mQ J5 (⟨2,0,0,[]⟩:cC)).2.1,iE (mQ J5 (⟨2,0,0,[]⟩:cC)).2.2]) (λY ZS dQ=>?_) ?_)
 .exact C37 (λw'=>E w'/\kp J G w') b J5 (⟨2,0,0,[]⟩:cC) bO Y _ ZS (λw' Z=>((dQ w' Z).p1).ep) O.ok (by rw[O.pr];exact U) (O.mb.mono er) (by have:=O.cr;omega) (λ_ _=>dP.nil _ _) er
 rintro _ _ rfl B;refine aN rfl (aN rfl (aJ B jQ λe2 _ B=>aH (x:=(mQ J5 (⟨2,0,0,[]⟩:cC)).2.1) B ey rfl rfl λ_ B=>aE (x:=(⟨1,0,0,bO⟩:cY)) oc B.p7.At (aT YZ B.p1 (H':=λ_=>gd (λw'=>E w'/\kp J G w') b fq3) (Φ:=λv _=>v=.tuple #[jj (mQ fq2 (⟨1,0,0,[]⟩:cC)).2.1,iE (mQ fq2 (⟨1,0,0,[]⟩:cC)).2.2]) (λY ZS dQ=>?_) ?_)))
 .exact C37 (λw'=>E w'/\kp J G w') b fq2 (⟨1,0,0,[]⟩:cC) bO Y _ ZS (λw' Z=>((dQ w' Z).p2).ep) Gw.ok (by rw[Gw.pr];exact U) (Gw.mb.mono er) (by have:=Gw.cr;omega) (λ_ _=>dP.nil _ _) er
 rintro _ _ rfl B;refine aN rfl (aN rfl (aJ B jQ λe3 _ B=>aH (x:=(mQ fq2 (⟨1,0,0,[]⟩:cC)).2.1) B ey rfl rfl λ_ B=>aE (x:=(⟨1,0,0,bO⟩:cY)) oc B.p8.At (aT YZ B.p1 (H':=λ_=>gd (λw'=>E w'/\kp J G w') b Mp) (Φ:=λv _=>v=.tuple #[jj (mQ fq3 (⟨1,0,0,[]⟩:cC)).2.1,iE (mQ fq3 (⟨1,0,0,[]⟩:cC)).2.2]) (λY ZS dQ=>?_) ?_)))
 .exact C37 (λw'=>E w'/\kp J G w') b fq3 (⟨1,0,0,[]⟩:cC) bO Y _ ZS (λw' Z=>((dQ w' Z).p3).ep) OH.ok (by rw[OH.pr];exact U) (OH.mb.mono er) (by have:=OH.cr;omega) (λ_ _=>dP.nil _ _) er
 rintro _ _ rfl B;refine aN rfl (aN rfl (aJ B jQ λe4 _ B=>aH (x:=(mQ fq3 (⟨1,0,0,[]⟩:cC)).2.1) B ey rfl rfl λ_ B=>aY aoc B (C21 (λw'=>E w'/\kp J G w') b Mp _ B.p1.has (λ_ e=>((B.ext e).p5).ep) I.ok) λ_ W B=>aJ B EF λbs _ B=>aH (x:=jq Mp) B EE rfl rfl λ_ B=>aY av3 B (C60 (λw'=>E w'/\kp J G w') b Mp 1 _ B.p2.has (λ_ e=>((B.ext e).p6).ep) I.ok) λ_ W B=>aN rfl (aN rfl (CA aaS (gu rfl (aE (x:=(⟨1,0,0,bO⟩:cY)) oc B.za.At ?_))))));refine aT YZ B.p5 (H':=λ_=>gd (λw'=>E w'/\kp J G w') bc (mQ J5 (⟨1,0,0,[]⟩:cC)).1) (Φ:=λv _=>v=.tuple #[jj (mQ J5 (⟨1,0,0,[]⟩:cC)).2.1,iE (mQ J5 (⟨1,0,0,[]⟩:cC)).2.2]) (λY ZS dQ=>?_) ?_
 .exact C37 (λw'=>E w'/\kp J G w') bc J5 (⟨1,0,0,[]⟩:cC) bO Y _ ZS (λw' Z=>((dQ w' Z).p5).ep) O.ok (by rw[O.pr];exact U) (O.mb.mono er) (by have:=O.cr;omega) (λ_ _=>dP.nil _ _) er
 rintro _ _ rfl B;refine aN rfl (aN rfl (aJ B jQ λe5 _ B=>aH (x:=(mQ J5 (⟨1,0,0,[]⟩:cC)).2.1) B ey rfl rfl λ_ B=>?_));refine⟨λjv w'=>jv=.bool true/\Ext w w',?_,?_⟩;rotate_left
 .rintro _ _ h sQ;exact h
 refine aI (aC (λ_=>?_) λh=>absurd rfl h);refine aI (aC (λ_=>?_) λh=>absurd rfl h);refine aI (aC (λ_=>?_) λh=>absurd (by rw[r4]) h);refine u5 (by rw[r4]) (aE (x:=(mQ fq0 (⟨1,0,0,[]⟩:cC)).2.1) ey B.p9.At (pop (te 3 1) (nS Mo rfl rfl (ZQ (mQ fq0 (⟨1,0,0,[]⟩:cC)).2.1 (⟨3,0,0,1,0⟩:bZ)) (aC (λ_=>?_) λh=>absurd (by rw[r5]) h))));refine aI (aC (λ_=>?_) λh=>absurd (by rw[r5]) h);refine aE (x:=(⟨1,0,0,bO⟩:cY)) oc B.p11.At (aE (x:=(⟨2,0,0,bO⟩:cY)) oc B.za.At (bV ([(⟨1,0,0,bO⟩:cY),(⟨2,0,0,bO⟩:cY)]:List cY) B nd rfl rfl (ei rfl) λxl _ B=>aY amf B (C23 x69 xl (gE J5) [(⟨1,0,0,[]⟩:cC),(⟨2,0,0,[]⟩:cC)] _ B.p9.dl (DL.of B.fc (al1 (pk0 _ 1 0 0) (al1 (pk0 _ 2 0 0) jx.nil))) (by rw[r6];decide) λ_ hq=>by rw[Vc hq];exact ob _) λ_ W B=>aC (λ_=>?_) λh=>absurd r6 h))
 have B:=B.drop;refine aE (x:=(mQ J5 (⟨2,0,0,[]⟩:cC)).2.1) ey B.p6.At (pop (te 12 1) (nS Mo rfl rfl (ZQ (mQ J5 (⟨2,0,0,[]⟩:cC)).2.1 (⟨12,0,0,1,0⟩:bZ)) (aC (λ_=>?_) λh=>absurd r7 h)));refine aE (x:=(mQ fq2 (⟨1,0,0,[]⟩:cC)).2.1) ey B.p5.At (pop (te 1 1) (nS Mo rfl rfl (ZQ (mQ fq2 (⟨1,0,0,[]⟩:cC)).2.1 (⟨1,0,0,1,0⟩:bZ)) (aC (λ_=>?_) λh=>absurd r8 h)));refine aE (x:=(mQ fq3 (⟨1,0,0,[]⟩:cC)).2.1) ey B.p3.At (pop (pg 16 1) (nS Mo rfl rfl (ZQ (mQ fq3 (⟨1,0,0,[]⟩:cC)).2.1 (⟨16,0,1,0,0⟩:bZ)) (aC (λ_=>?_) λh=>absurd r9 h)))
 refine aE (x:=jq Mp) EE B.p2.At (pop (ajq 1) (nS afv rfl rfl (apP (jq Mp) ⟨0,1,0,false,false⟩) (aC (λ_=>?_) λh=>absurd a1 h)));refine bJ (u5 (by rw[a2];rfl) (aE (x:=(mQ J5 (⟨1,0,0,[]⟩:cC)).2.1) ey B.At (pop (te 2 1) (nS Mo rfl rfl (ZQ (mQ J5 (⟨1,0,0,[]⟩:cC)).2.1 (⟨2,0,0,1,0⟩:bZ)) (aC (λ_=>?_) λh=>absurd r10 h)))));refine cW av2 B (C32 (λw'=>E w'/\kp J G w') b Mp _ B.p4.has (λ_ e=>((B.ext e).p7).ep) I.ok a8) (λk1 _ V B=>bV ([true]:List Bool) B CF rfl rfl (ei rfl) λzk1 _ B=>aY aqL B (C31 k1 zk1 _ [true] _ B.p1.fc B.fc (by rw[a3];decide)) λ_ W B=>aC (λ_=>?_) λh=>absurd a3 h)
 have B:=B.drop.drop;refine cW aiy B (C27 (λw'=>E w'/\kp J G w') b Mp _ B.p4.has (λ_ e=>((B.ext e).p7).ep) I.ok) (λk2 _ V B=>bV ([1]:List Int) B dZ rfl rfl (ei rfl) λzk2 _ B=>aY X7 B (C26 k2 zk2 _ [1] _ B.p1.fc B.fc (by rw[a4];decide)) λ_ W B=>aC (λ_=>?_) λh=>absurd a4 h);have B:=B.drop.drop;refine cW av1 B (C29 (λw'=>E w'/\kp J G w') b Mp _ B.p4.has (λ_ e=>((B.ext e).p7).ep) I.ok) (λk3 _ V B=>bV ([0]:List Int) B dZ rfl rfl (ei rfl) λzk3 _ B=>aY X7 B (C26 k3 zk3 _ [0] _ B.p1.fc B.fc (by rw[a5];decide)) λ_ W B=>aC (λ_=>?_) λh=>absurd a5 h)
 have B:=B.drop.drop;refine cW avX B (C34 (λw'=>E w'/\kp J G w') b Mp _ B.p4.has (λ_ e=>((B.ext e).p7).ep) I.ok (I.mb.mono er) cU) (λx183 _ V B=>?_);rw[a6]at B;obtain⟨ts,B⟩:=B.wI;have J4:=B.MX;refine aK nd B.fc ?_;rw[J4];exact aI ⟨rfl,B.aG⟩
variable (w:World) (K:Value->iD)
def S5(p0 BC A4:Value):Prop:=
 se hZ (Instr.box 36 p0) w λp3 a=>lA 36 p3 a λb=>cF 16 [b] a λc d=>sA 36 p3 c d λe=>bB .and 3 BC (i 3) λf=>bC .add 3 (i 1) f λg=>lA 36 p3 e λh=>
 cF 17 [h,g] e λj k=>xT j 0 λl=>xT j 1 λn=>lA 36 p3 k λo=>cF 18 [o] k λp q=>xT p 0 λr=>xT p 1 λs=>aL 49 q λW t=>sA 49 W r t λu=>eW (λK1=>
 bB .neq 40 n (i 0) λv=>cV v (K1 tt u) (bB .neq 40 s (i 0) λx=>cV x (K1 tt u) (bB .eql 39 l (.pointer none) λy=>K1 y u))) (λz aa=>∀_:Env,
 cV z (eW (λK2=>bA .eql 40 n s λab=>cV ab (cF 19 [] aa λac ad=>K2 ac ad) (K2 ff aa)) (λae af=>∀_:Env,
 K ae af)) (lA 49 W aa λag=>cF 20 [ag,g] aa λah ai=>xT ah 0 λE=>xT ah 1 λak=>eW (λK3=>bB .eql 52 E (.pointer none) λal=>cV al (K3 tt ai) (bB .neq 40 ak (i 0) λam=>
 K3 am ai)) (λan ao=>∀_:Env,
 cV an (K ff ao) (lE (λK4 B ap=>∀_:Env,
 eW (λK5=>lN 37 A4 λaq=>bA .lss 3 B aq λar=>cV ar (bB .lss 3 B (i 60) λasx=>K5 asx ap) (K5 ff ap)) (λau av=>∀_:Env,
 cV au (yp (λK6=>cF 21 [l] av λaw ax=>aL 56 ax λay az=>sA 56 ay aw az λa0=>cF 22 [l] a0 λa1 a2=>bS 58 0 [] a2 λa3 a4=>eW (λM=>cF 24 [E] (drew a4) λa5 a6=>
 cF 23 [a1,a5] a6 λa7 I=>eK hZ (Op.unary .not a7) λa9=>cV a9 (M tt I) (lA 56 ay I λba=>cF 25 [E] I λbb bc=>kA 56 ay ba bc (bA .neq 56 ba bb λbd=>
 cV bd (M tt bc) (cF 27 [l] bc λbe bf=>cF 28 [E] bf λbg bh=>cF 26 [be,bg] bh λbi bj=>eK hZ (Op.unary .not bi) λbk=>cV bk (M tt bj) (cF 29 [l] bj λbl bm=>
 cF 30 [E] bm λbn bo=>cF 26 [bl,bn] bo λbp bq=>eK hZ (Op.unary .not bp) λbr=>cV br (M tt bq) (cF 32 [l] bq λbs bt=>cF 33 [E] bt λbu bv=>cF 31 [bs,bu] bv λbw bx=>
 eK hZ (Op.unary .not bw) λbz=>M bz bx)))))) (λb0 b1=>∀_:Env,
 cV b0 (K ff b1) (eW (λK8=>eW (λK9=>iA 37 A4 B λb2=>fA 69 b2 0 λb3=>lA 3 b3 b1 λb4=>bB .eql 3 b4 (i 1) λb5=>cV b5 (fA 56 ay 0 λb6=>lA 3 b6 b1 λb7=>
 bB .lss 3 b7 (i 2) λb8=>K9 b8 b1) (K9 ff b1)) (λb9 ca=>∀_:Env,
 cV b9 (cF 34 [l] ca λcb cc=>cF 35 [E] cc λcd ce=>cF 23 [cb,cd] ce λcf cg=>eK hZ (Op.unary .not cf) λch=>cV ch (K ff cg) (K8 cb cg)) (K8 a3 ca))) (λV ci=>∀_:Env,
 eW (λO=>iA 37 A4 B λcj=>lA 69 cj (drew ci) λck=>fA 56 ay 0 λcl=>lA 3 cl (drew ci) λcm=>((cF 36 [ck,a1,V,cm] (drew ci) λcn co=>aL 67 co λZ cp=>
 kA 69 cj ck cp (kA 3 cl cm cp (sA 67 Z cn cp λcq=>O Z cq)))
 /\((aL 67 (drew ci) λal3 cr=>kA 69 cj ck cr (kA 3 cl cm cr (cF 36 [ck,a1,V,cm] cr λcs ct=>sA 67 al3 cs ct λcu=>O al3 cu)))
 /\
 True))) (λY cv=>∀_:Env,
 lA 67 Y cv λcw=>cF 37 [l,cw] cv λcx cy=>xT cx 0 λcz=>xT cx 1 λc0=>aL 72 cy λU c1=>sA 72 U cz c1 λc2=>lA 67 Y c2 λc3=>cF 38 [E,c3] c2 λc4 c5=>
 xT c4 0 λc6=>xT c4 1 λc7=>aL 72 c5 λI c8=>sA 72 I c6 c8 λc9=>eW (λJ=>lA 72 U c9 λda=>lA 72 I c9 λdb=>bA .neq 72 da db λdc=>cV dc (J tt c9) (
 bA .neq 40 c0 c7 λdd=>J dd c9)) (λde df=>∀_:Env,
 cV de (K ff df) (K6 df))))))) (λdg=>∀_:Env,
 bB .add 3 B (i 1) λdh=>K4 dh dg)) (eW (λG=>cF 21 [l] av λdi dj=>cF 25 [E] dj λdk dl=>bA .eql 56 di dk λdm=>cV dm (cF 27 [l] dl λdn dp=>cF 28 [E] dp λdq dr=>
 cF 26 [dn,dq] dr λds dt=>cV ds (cF 19 [] dt λdu dv=>G du dv) (G ff dt)) (G ff dl)) (λdw dx=>∀_:Env,
 K dw dx)))) λK4=>K4 (i 0) ao))))
def P5:dM:=λi=>match i with
 | 15=>(.of [(0,[]),(1,[]),(2,[]),(3,[]),(4,[]),(5,[]),(6,[]),(7,[]),(8,[6]),(9,[]),(10,[]),(11,[]),(12,[]),(14,[]),(13,[]),(15,[]),(16,[]),(17,[]),(18,[]),(19,[]),(20,[]),(22,[]),(21,[]),(23,[]),(24,[]),(25,[]),(26,[]),(27,[]),(28,[]),(30,[]),(29,[]),(31,[]),(32,[]),(33,[]),(34,[])])
 | 21=>(.op 0 [] (.op 1 [] (.op 2 [] (.op 3 [] (.op 4 [] (.op 5 [] (.op 6 [] (.op 7 [] (.alt 8 [] (.of [(9,[3,7]),(10,[])]) (.alt 9 [3,7] (.of [(8,[]),(10,[])]) .stop))))))))))
 | _=>.nil
theorem axE(p0 E B:Value)(h:S5 w K p0 E B):CR 5 [p0,E,B] w K:=
 qG 179 P5 64 [.tmp 6] Tryz.func5 h
end Go.Proofs.YtdncbeepkacgbaaGreatDoor
namespace Go.Proofs.YtdncbeepkacgbaaGreatDoor
open Go.Fw
def aEz:PL 20:=dT Tryz.func20
def axF:PL 36:=dT Tryz.func36
def aEA:PL 30:=dT Tryz.func30
def aEB:PL 35:=dT Tryz.func35
theorem J1{m:j4}{q:cC}(h:q∈gE m):q.cut=[]:=by
 unfold gE at h
 split at h
 .cases h
 unfold jw at h
 obtain⟨i,_,hi⟩:=List.mem_flatMap.1 h
 split at hi
 .unfold rj at hi
  grind
 cases hi
def Ef{d:j4}(h:(eN (Ca d.mem)).length<=1000000000):(jO d).length<=1000000000:=by
 unfold jO
 split
 .simp
 rw[oi]
 have h1:(yH d.mem).length<=(eN (Ca d.mem)).length:=by
  have:=Jc (ug d.mem) (eN (Ca d.mem)) ([],[])
  simpa[yH,Rb]using this
 omega
theorem Sl(f:List Int->List Int):∀(l:List (List Int)) (s:List (List Int)×List (List Int)) (c:List Int),c∈(l.foldl (λs c=>if f c∈s.2 then s else(s.1++[c],s.2++[f c])) s).1->c∈s.1\/c∈l
 | [],s,c,h=>.inl h
 | d::l,s,c,h=>by
  rw[List.foldl_cons]at h
  rcases Sl f l _ c h with h1|h1
  .grind
  grind
def J2{m:j4}{q:cC}(h:q∈jO m)(B:ju m.mem.of<=6):q.cut.length<=6:=by
 unfold jO at h
 split at h
 .cases h
 obtain⟨c,hc,rfl⟩:=List.mem_map.1 h
 have h1:c∈eN (Ca m.mem):=by
  rcases Sl (ug m.mem) (eN (Ca m.mem)) ([],[]) c hc with h2|h2
  .cases h2
  .exact h2
 have h2:=rR h1
 have h3:=Dw m.mem
 grind
def C5(p:bQ)(pv:bT)(n:Int)(lv:Value)(l:List PI)(w:World)(hp:n4 w pv p)(hL:DL w lv l):CR 5 [jj pv,iE n,lv] w (λv w'=>v=.bool true/\Ext w w'):=by
 obtain⟨ats,hRa,hDa⟩:=hL.open;have hna:ats.length=l.length:=hDa.1;have B:=St.start w;refine axE _ _ _ _ _ ?_;unfold S5;refine cP (x:=pv) B (λb0 _ B=>aE gO B.At (eC azf (C16 p pv _ (B4 hp B.aG)) ?_));rintro _ _ ⟨qv,rfl,M⟩;have B:=B.made M;refine aH (x:=qv) B.p1 gO rfl rfl (λw3 B=>?_);have B:=B.p1;obtain⟨G,ewk⟩:∃G,G=w3:=⟨_,rfl⟩;rw[<- ewk]at B |-;obtain⟨I,B,hX⟩:=B.Rl;have hp1:PrK (kp I G) qv (sS p):=PrK.of hX;have hz:=Ni p;have ha:=BM n (b:=3) er er;refine VJ er er (aR cU (aE gO B.p1.At (eC aiz (C17 (kp I G) (sS p) qv (1+xH n 3) _ (λ_ e=>(B.ext e).ep) hp1 hz) ?_)))
 rintro _ w4 (⟨h1,rfl,he⟩|⟨_,h1,_⟩|⟨AP,_,b1,O,rfl,M⟩)
 .have B:=B.ext he;refine aN rfl (aN rfl (aE gO B.p1.At (eC axo (C18 (sS p) qv _ (hX _ B.ep) hz) ?_)));rintro _ w5 ⟨uv,rfl,M⟩;have B:=B.made M;refine aN rfl (aN rfl (aJ B BO λb9 w6 B=>aH (x:=uv) B zj rfl rfl λw7 B=>?_));refine⟨λJ w'=>J=.bool true/\w'=w7,?_,?_⟩
  .exact cN (aC (λ_=>⟨rfl,rfl⟩) λh=>absurd h1 h)
  rintro _ w8 ⟨rfl,rfl⟩ sQ;refine jb ?_;refine⟨λJ w'=>J=.bool true/\Ext w w',?_,?_⟩
  .exact aI (aC (λ_=>aY axB B (C19 _) λ_ _ B=>⟨rfl,B.aG⟩) λh=>absurd rfl h)
  rintro _ _ h yP;exact h
 .omega
 have B:=(B.made M).split;refine aN rfl (aN rfl (aE gO B.p3.At (eC axo (C18 (sS p) qv _ (hX _ B.p2.ep) hz) ?_)));rintro _ w5 ⟨uv,rfl,M⟩;have B:=B.made M;have oh:=Oc AP;have Va:=Qy AP;have kx:=rn Va;have B:=B.cS (Ψ:=λw=>n4 w uv (eM (sS p))) (λ_ h=>by rw[ez AP]at h;exact h);refine aN rfl (aN rfl ?_);rw[AP];refine aJ B BO (λb9 w6 B=>aH (x:=uv) B zj rfl rfl λw7 B=>?_);refine⟨λJ w'=>J=.bool false/\w'=w7,?_,?_⟩
 .exact cN (aC (λh=>absurd rfl h) λ_=>cN (aC (λh=>absurd rfl h) λ_=>CA aaS ⟨rfl,rfl⟩))
 rintro _ w8 ⟨rfl,rfl⟩ sQ;refine eX (aE (x:=uv) zj B.At ?_);obtain⟨N0,kC,OJ,htw⟩:=R7 Va;refine eC aEz (aDS (eM (sS p)) uv (1+xH n 3) N0 kC B.p1.ep kx.2 kx.1 (aeU (uC kx.1) kx.2 OJ) cU cU) ?_;rintro _ w9 ⟨K2,b2,rfl,M⟩;have B:=(B.made M).split;refine aN rfl (aN rfl ?_);refine⟨λJ w'=>J=.bool false/\w'=w9,?_,?_⟩
 .exact CA asb (gu rfl (cN ⟨rfl,rfl⟩))
 rintro _ w10 ⟨rfl,rfl⟩ yP;refine eX ?_;have aED:GH (sS p) 0 (mO (m6 (eM (sS p)) (1+xH n 3)) kC) (RA (sS p) (1+xH n 3)):=GH.new hz oh Va OJ htw cU;have B:=B.p2.drop.p2.drop.p5.p2.p5.p5.p4.p5;refine⟨λmm y w'=>∃(k:Nat) (m:jU) (d:j4),y=iE (k:Int)/\mm=60-k/\k<=60/\GH (sS p) k m d/\St w bE [gd (λw=>kp I G w/\O w) b1 d,fZ K2 b2 m,ep O,ep (kp I G),ep K2,bU b0 (jl qv)] w',⟨60,0,_,_,rfl,rfl,ob _,aED,B⟩,?_⟩;rintro mm _ Z3 ⟨k,m,d,rfl,rfl,hk,E,B⟩ _;have U:=E.go;have hfi:d.mem.dD=gK d.p:=by rw[<- E.mem,E.pm.pm.gm.dD,E.pm.pm.u,U.pr];rfl
 have Sw:=U.ok.mem.ll;have J3:=U.ok.mem.fl;have Sp:=U.ok.mem.kl;have V9:=U.ok.mem.WI;have mM:=Jw U.ok;have wH:=U.cr
 have apg:(vr d).length<=1000000:=by
  rw[<- E.cB];show(m.u.cB.map _).length<=_;rw[oi];have:=E.pm.pm.gm.uz.cB;omega
 refine⟨λJ w'=>J=.bool (decide (k<l.length/\k<60))/\w'=Z3,?_,?_⟩
 .exact aK amt (hRa.ext B.aG) (aV (aC (λ_=>aV ⟨vb (gv.2 cU),rfl⟩) λ_=>⟨vb (gk cU).symm,rfl⟩))
 rintro _ _ ⟨rfl,rfl⟩ _;refine aC (λc1=>?_) (λc1=>?_);rotate_left
 .refine⟨λJ w'=>J=.bool true/\Ext w w',?_,λ_ _ h _=>h⟩;refine aY aoc B (C21 (λw=>kp I G w/\O w) b1 d _ B.has (λ_ e=>⟨(B.ext e).p3.ep,(B.ext e).p2.ep⟩) U.ok) (λ_ he B=>aY aqK B (awZ E.pm B.p1.has B.p4.ep λ_ e=>St.Av B.p4 e) λ_ he B=>?_);rw[E.status];refine nS afv rfl rfl (apP (jq d) (jq d)) (aC (λ_=>?_) λh=>absurd rfl h);refine cW aiy B (C27 (λw=>kp I G w/\O w) b1 d _ B.has (λ_ e=>⟨(B.ext e).p3.ep,(B.ext e).p2.ep⟩) U.ok) (λaEE _ M B=>cW amg B (aw0 E.pm B.p2.has B.p5.ep λ_ e=>St.Av B.p5 e) λaEF _ M B=>?_)
  rw[E.mem]at B;exact aY X7 B (C26 aEE aEF d.mem.l d.mem.l _ B.p1.fc B.fc cU) (λ_ _ B=>aC (λ_=>aY axB B (C19 _) λ_ _ B=>⟨rfl,B.aG⟩) λh=>absurd rfl h)
 obtain⟨a,Gn⟩:=gx l (i:=k) cU;obtain⟨av,hav⟩:=gx ats (i:=((k:Nat):Int).toNat) cU;have Z7:=hDa.2 k av a hav Gn;obtain⟨gp,rfl,hgp⟩:=id Z7;have qy:=U.mb.mono (b:=1000000) cU;have axG:=E.lines;refine⟨λw'=>∃(m2:jU) (d2:j4),GH (sS p) (k+1) m2 d2/\St w bE [gd (λw=>kp I G w/\O w) b1 d2,fZ K2 b2 m2,ep O,ep (kp I G),ep K2,bU b0 (jl qv)] w',?_,?_⟩;rotate_left
 .rintro w15 ⟨m2,d2,hh2,B⟩ _;exact aR cU ⟨60-(k+1),cU,k+1,m2,d2,rfl,rfl,cU,hh2,B⟩
 refine aY aoc B (C21 (λw=>kp I G w/\O w) b1 d _ B.has (λ_ e=>⟨(B.ext e).p3.ep,(B.ext e).p2.ep⟩) U.ok) (λw15 he B=>aJ B EF λb15 _ B=>aH (x:=jq d) B EE rfl rfl λ_ B=>cW aix B (C22 (λw=>kp I G w/\O w) b1 d _ B.p1.has (λ_ e=>⟨(B.ext e).p4.ep,(B.ext e).p3.ep⟩) U.ok) λY _ M B=>zF (α:=cC) B nd λx81 _ B=>?_);refine⟨λJ w'=>J=.bool false/\St w bE [fe x81 ([]:List cC),fe Y (gE d),bU b15 (jl (jq d)),gd (λw=>kp I G w/\O w) b1 d,fZ K2 b2 m,ep O,ep (kp I G),ep K2,bU b0 (jl qv)] w',?_,?_⟩
 .have B:=B.drew;refine cW SU B (aDN E.pm B.p4.has B.p7.ep λ_ e=>St.Av B.p7 e) (λx84 _ M B=>?_);rw[E.axg]at B;refine aY amf B (C23 Y x84 (gE d) (gE d) _ B.p2.dl B.dl cU λ_ hq=>by rw[J1 hq];exact ob _) (λ_ he B=>bJ (gu et (have B:=B.drop;aE (x:=jq d) EE B.p2.At (aY aqK B (awZ E.pm B.p4.has B.p7.ep λ_ e=>St.Av B.p7 e) λ_ he B=>?_))));refine⟨fJ EE B.p2.At,?_⟩;rw[E.status];refine KV afv rfl rfl (apP (jq d) (jq d)) (aC (λh=>absurd rfl h) λ_=>cW aiy B (C27 (λw=>kp I G w/\O w) b1 d _ B.p3.has (λ_ e=>⟨(B.ext e).p6.ep,(B.ext e).p5.ep⟩) U.ok) λx95 _ M B=>cW amg B (aw0 E.pm B.p5.has B.p8.ep λ_ e=>St.Av B.p8 e) λx97 _ M B=>?_)
  rw[E.mem]at B;refine aY X7 B (C26 x95 x97 d.mem.l d.mem.l _ B.p1.fc B.fc cU) (λ_ he B=>bJ (gu et (have B:=B.drop.drop;cW av1 B (C29 (λw=>kp I G w/\O w) b1 d _ B.p3.has (λ_ e=>⟨(B.ext e).p6.ep,(B.ext e).p5.ep⟩) U.ok) λaEJ _ M B=>cW aEA B (aDO E.pm B.p5.has B.p8.ep λ_ e=>St.Av B.p8 e) λaEK _ M B=>?_)));rw[E.mem]at B;refine aY X7 B (C26 aEJ aEK d.mem.kept d.mem.kept _ B.p1.fc B.fc cU) (λ_ he B=>bJ (gu et (have B:=B.drop.drop;cW av2 B (C32 (λw=>kp I G w/\O w) b1 d _ B.p3.has (λ_ e=>⟨(B.ext e).p6.ep,(B.ext e).p5.ep⟩) U.ok hfi) λaEL _ M B=>cW azg B (aDQ E.pm B.p5.has B.p8.ep λ_ e=>St.Av B.p8 e) λaEM _ M B=>?_)))
  rw[E.cB]at B;exact aY aqL B (C31 aEL aEM (vr d) (vr d) _ B.p1.fc B.fc cU) (λ_ _ B=>bJ (have B:=B.drop.drop;⟨vb et,B⟩))
 rintro _ w32 ⟨rfl,B⟩ _;refine eX ?_;refine⟨λJ w'=>∃c:List cC,(c=[]\/c=jO d)/\St w bE [fe J c,fe Y (gE d),bU b15 (jl (jq d)),gd (λw=>kp I G w/\O w) b1 d,fZ K2 b2 m,ep O,ep (kp I G),ep K2,bU b0 (jl qv)] w',?_,?_⟩
 .refine⟨λJ w'=>(∃b,J=.bool b)/\w'=w32,?_,?_⟩
  .exact aW amt hRa cU hav (λ_ h73=>cL a.kind MN h73 rfl rfl λ_ h74=>aE bL (h74.ext B.aG) (aI (aC (λ_=>aA VL (aB (v:=iE d.bX) bL B.p2.hb rfl (aV ⟨⟨_,rfl⟩,rfl⟩))) λ_=>⟨⟨false,rfl⟩,rfl⟩)))
  rintro _ _ ⟨⟨b,rfl⟩,rfl⟩ dd6;refine aX (λc3=>?_) (λ_=>⟨[],.inl rfl,B⟩);refine cW avX B (C34 (λw=>kp I G w/\O w) b1 d _ B.p3.has (λ_ e=>⟨(B.ext e).p6.ep,(B.ext e).p5.ep⟩) U.ok qy (E.ajh cU)) (λaEN _ M B=>cW aEB B (aDP E.pm cU (by rw[E.mem];exact E.ajh cU) B.p5.has B.p8.ep λ_ e=>St.Av B.p8 e) λaEO _ M B=>?_);rw[E.bX]at B;exact aY amf B (C23 aEN aEO (jO d) (jO d) _ B.p1.dl B.dl (xL (Ef (E.ajh cU)) er) λ_ hq=>xL (J2 hq axG) er) (λ_ _ B=>bJ (gu et (have B:=B.drop.p1.drop;⟨_,.inr rfl,B⟩)))
 rintro c17 _ ⟨c,hc,B⟩ dd6
 have F9:c.length<=1000000000:=by
  rcases hc with rfl|rfl
  .exact ob _
  .exact Ef (E.ajh cU)
 obtain⟨tc,B⟩:=B.wI;have B:=B.freeze;obtain⟨tl,B⟩:=B.p2.wI;have B:=B.freeze;refine⟨λJ w'=>∃(V:Nat) (sh:cY),J=.pointer (some ⟨V,0,none⟩)/\awR (⟨a.kind,a.n,gp⟩:Br) a tl (gE d) tc c d.bX sh/\St w bE [bU V (jl sh),ep (λw=>dP (λ_=>True) w Y tl),ep (λw=>jx tl (gE d) w),ep (λw=>dP (λ_=>True) w c17 tc),ep (λw=>jx tc c w),bU b15 (jl (jq d)),gd (λw=>kp I G w/\O w) b1 d,fZ K2 b2 m,ep O,ep (kp I G),ep K2,bU b0 (jl qv)] w',?_,?_⟩
 .have B:=B.drew;refine aW amt hRa cU hav (λq107 apR=>aE amv (apR.ext B.aG) (aA VL (aB (v:=iE d.bX) bL B.p4.hb rfl ⟨?_,?_,trivial⟩)))
  .refine eC axF (C36 a (⟨a.kind,a.n,gp⟩:Br) Y c17 tl (gE d) tc c d.bX _ (B4 Z7 B.aG) B.ep B.p1.ep B.p2.ep B.p3.ep cU cU) ?_;rintro _ _ ⟨sh,rfl,he,afy⟩;have B:=B.ext he;refine aJ B EG (λV _ B=>?_);refine⟨fJ amv (apR.ext B.aG),?_⟩;refine⟨aF bL (B.p5.hb.cell rfl),?_⟩;exact aH (x:=sh) B oc rfl rfl (λ_ B=>⟨V,sh,rfl,afy,B⟩)
  refine aJ B EG (λV _ B=>?_);refine⟨fJ amv (apR.ext B.aG),?_⟩;refine⟨aF bL (B.p5.hb.cell rfl),?_⟩;refine eC axF (C36 a (⟨a.kind,a.n,gp⟩:Br) Y c17 tl (gE d) tc c d.bX _ (B4 Z7 B.aG) B.p1.ep B.p2.ep B.p3.ep B.p4.ep cU cU) ?_;rintro _ _ ⟨sh,rfl,he,afy⟩;have B:=B.ext he;exact aH (x:=sh) B oc rfl rfl (λ_ B=>⟨V,sh,rfl,afy,B⟩)
 rintro _ _ ⟨V,sh,rfl,afy,B⟩ _;obtain⟨q,eq⟩:∃q,q=KB a (gE d) c d.bX:=⟨_,rfl⟩
 have hsh:∃Z:SV,sh=⟨q.kind,q.t,q.i,Z⟩/\q.cut.length<=1000/\∀w',gZ bE w w'->jx tl (gE d) w'->jx tc c w'->dP (λ_=>True) w' (jj Z) q.cut:=by
  rcases afy with⟨_,e,Z,rfl,hr⟩|⟨j,h1,h2⟩|⟨j,h1,h2⟩|⟨rfl,e⟩
  .rw[<- eq]at e;obtain⟨g2,rfl,Gw⟩:=hgp;refine⟨Z,by rw[e],by rw[e];show(a.p.cut.take 22).length<=1000;rw[List.length_take];omega,λw' W _ _=>?_⟩;rw[e];exact hr _ ((DL.flat Gw).ext W)
  .rw[<- eq]at h2;obtain⟨Z,rfl,_⟩:=B.p2.ep.2 j sh q h1 h2;refine⟨Z,rfl,by rw[J1 (ml h2)];exact ob _,λw' _ h3 _=>?_⟩;obtain⟨g2,e2,h4⟩:=h3.2 j _ q h1 h2;cases e2
   exact DL.flat h4
  .rw[<- eq]at h2;obtain⟨Z,rfl,_⟩:=B.p4.ep.2 j sh q h1 h2;refine⟨Z,rfl,?_,λw' _ _ h3=>?_⟩
   .rcases hc with rfl|rfl
    .cases h2
    .exact xL (J2 (ml h2) axG) er
   obtain⟨g2,e2,h4⟩:=h3.2 j _ q h1 h2;cases e2
   exact DL.flat h4
  .rw[<- eq]at e;rw[e];exact⟨bO,rfl,ob _,λ_ _ _ _=>dP.nil _ _⟩
 obtain⟨Z,rfl,hql,vZ⟩:=hsh;obtain⟨N,m2,ZL,hh2⟩:=E.step q;refine aE (x:=(⟨q.kind,q.t,q.i,Z⟩:cY)) oc B.At (aT YZ B.p6 (H':=λ_=>gd (λw=>kp I G w/\O w) b1 (mQ d q).1) (Φ:=λv _=>v=.tuple #[jj (mQ d q).2.1,iE (mQ d q).2.2]) (λFQ ZS dQ=>?_) ?_)
 .exact C37 (λw=>kp I G w/\O w) b1 d q Z FQ _ ZS (λw' W=>⟨(dQ w' W).p8.ep,(dQ w' W).p7.ep⟩) U.ok (U.pr▸oh) qy cU (λw' W=>vZ w' (dQ w' W).aG (dQ w' W).p2.ep (dQ w' W).p4.ep) hql
 rintro _ _ rfl B;refine aN rfl (aN rfl (aJ B jQ λb19 _ B=>aH (x:=(mQ d q).2.1) B ey rfl rfl λ_ B=>aE (x:=(⟨q.kind,q.t,q.i,Z⟩:cY)) oc B.p2.At (aT azh B.p8 (H':=λ_=>fZ K2 b2 m2) (Φ:=λv _=>v=.tuple #[jj (mQ d q).2.1,iE (mQ d q).2.2]) (λFQ ZS dQ=>?_) ?_)))
 .exact aDR E.pm cU ZL hql ZS (λw' W=>(dQ w' W).za.ep) (λw' W=>vZ w' (dQ w' W).aG (dQ w' W).p4.ep (dQ w' W).p6.ep)
 rintro _ _ rfl B;refine aN rfl (aN rfl (aJ B jQ λb21 _ B=>aH (x:=(mQ d q).2.1) B ey rfl rfl λw50 B=>?_));refine⟨λJ w'=>J=.bool false/\w'=w50,?_,?_⟩
 .exact aE (x:=(mQ d q).2.1) ey B.p2.At (aE (x:=(mQ d q).2.1) ey B.At (KV Mo rfl rfl (ZQ (mQ d q).2.1 (mQ d q).2.1) (aC (λh=>absurd rfl h) λ_=>cN ⟨vb (gk λh=>h rfl),rfl⟩)))
 rintro _ _ ⟨rfl,rfl⟩ _;exact eX (have B:=B.drop.p1.drop.p2.drop.p4.drop.p4.drop.p2.drop.p2.drop.p2.drop.p5.p5.p5.p5.p4.p5;⟨m2,(mQ d q).1,hh2,B⟩)
def own:ownKnob Tryz.prog.godebug=none:=by kernel_rfl
def rd9:Bq hZ 9 ByteArray (λy=>y.size<=maxLen):=RdT.deep (amz Tryz.underlying9 (by kernel_rfl)) λ_ _=>rfl
def OM:Bq hZ 3 Int mV:=RdT.deep (amy Tryz.underlying3 (by kernel_rfl)) λ_ _=>rfl
def axH:Bq hZ 175 cG AJ:=λw=>⟨by kernel_rfl,λenc base held fuel cs x h=>by
 obtain⟨V,n,G⟩:=ny Tryz.underlying175 h
 obtain⟨y0,U⟩:=G 0 _ rfl
 obtain⟨y1,h1⟩:=G 1 _ rfl
 obtain⟨y2,h2⟩:=G 2 _ rfl
 obtain⟨E,e0,a0,M,O⟩:=(rd9 w).rd enc base held n _ _ U
 obtain⟨I,e1,a1,Y,W⟩:=(OM w).rd enc base held n _ _ h1
 obtain⟨B,Z,a2,d2,J⟩:=(OM w).rd enc base held n _ _ h2
 obtain rfl:E=a0:=M
 obtain rfl:I=a1:=Y
 obtain rfl:B=a2:=d2
 have p0:=eA (s:=1) e0
 have p1:=eA (s:=1) e1
 have p2:=eA (s:=1) Z
 have hz:cs.drop 3=[]:=B7.2 (by rw[V];exact zU (by kernel_rfl))
 refine⟨(⟨E,I,B⟩:cG),?_,(⟨E,I,B⟩:cG),rfl,O,W,J⟩
 have e:cs=cs.drop 0:=rfl
 rw[e]
 refine p0.trans ?_
 refine(gD _ p1).trans ?_
 refine(gD _ (gD _ p2)).trans ?_
 exact(gD _ (gD _ (gD _ hz)))⟩
def apS:Bq hZ 32 (List cG) (λys:(List cG)=>∀y∈ys,AJ y):=Bq.slice Tryz.underlying32 (by kernel_rfl) axH
def aEP:Bq hZ 31 (List (List cG)) (λys:(List (List cG))=>∀y∈ys,(λys:(List cG)=>∀y∈ys,AJ y) y):=Bq.slice Tryz.underlying31 (by kernel_rfl) apS
def aEQ:Bq hZ 86 (List ByteArray) (λys:(List ByteArray)=>∀y∈ys,(λy:ByteArray=>y.size<=maxLen) y):=Bq.slice Tryz.underlying86 (by kernel_rfl) rd9
def axI:Bq hZ 183 bY CY:=λw=>⟨by kernel_rfl,λenc base held fuel cs x h=>by
 obtain⟨Z,n,B⟩:=ny Tryz.underlying183 h
 obtain⟨y0,W⟩:=B 0 _ rfl
 obtain⟨y1,h1⟩:=B 1 _ rfl
 obtain⟨y2,h2⟩:=B 2 _ rfl
 obtain⟨y3,h3⟩:=B 3 _ rfl
 obtain⟨G,e0,a0,U,V⟩:=(OM w).rd enc base held n _ _ W
 obtain⟨J,e1,a1,d1,k1⟩:=(OM w).rd enc base held n _ _ h1
 obtain⟨E,e2,a2,d2,M⟩:=(rd9 w).rd enc base held n _ _ h2
 obtain⟨I,O,a3,d3,Y⟩:=(OM w).rd enc base held n _ _ h3
 obtain rfl:G=a0:=U
 obtain rfl:J=a1:=d1
 obtain rfl:E=a2:=d2
 obtain rfl:I=a3:=d3
 have p0:=eA (s:=1) e0
 have p1:=eA (s:=1) e1
 have p2:=eA (s:=1) e2
 have p3:=eA (s:=1) O
 have hz:cs.drop 4=[]:=B7.2 (by rw[Z];exact zU (by kernel_rfl))
 refine⟨(⟨G,J,E,I⟩:bY),?_,(⟨G,J,E,I⟩:bY),rfl,V,k1,M,Y⟩
 have e:cs=cs.drop 0:=rfl
 rw[e]
 refine p0.trans ?_
 refine(gD _ p1).trans ?_
 refine(gD _ (gD _ p2)).trans ?_
 refine(gD _ (gD _ (gD _ p3))).trans ?_
 exact(gD _ (gD _ (gD _ (gD _ hz))))⟩
def apT:Bq hZ 92 (List bY) (λys:(List bY)=>∀y∈ys,CY y):=Bq.slice Tryz.underlying92 (by kernel_rfl) axI
def axJ:Bq hZ 220 bD MY:=λw=>⟨by kernel_rfl,λenc base held fuel cs x h=>by
 obtain⟨hl,n,B⟩:=ny Tryz.underlying220 h
 obtain⟨y0,h0⟩:=B 0 _ rfl
 obtain⟨y1,h1⟩:=B 1 _ rfl
 obtain⟨y2,h2⟩:=B 2 _ rfl
 obtain⟨y3,h3⟩:=B 3 _ rfl
 obtain⟨y4,h4⟩:=B 4 _ rfl
 obtain⟨y5,h5⟩:=B 5 _ rfl
 obtain⟨y6,h6⟩:=B 6 _ rfl
 obtain⟨y7,h7⟩:=B 7 _ rfl
 obtain⟨y8,Y⟩:=B 8 _ rfl
 obtain⟨M,e0,a0,d0,k0⟩:=(OM w).rd enc base held n _ _ h0
 obtain⟨U,e1,a1,d1,k1⟩:=(rd9 w).rd enc base held n _ _ h1
 obtain⟨J,e2,a2,d2,Z⟩:=(rd9 w).rd enc base held n _ _ h2
 obtain⟨V,e3,a3,d3,k3⟩:=(apT w).rd enc base held n _ _ h3
 obtain⟨W,e4,a4,d4,k4⟩:=(apT w).rd enc base held n _ _ h4
 obtain⟨O,e5,a5,d5,k5⟩:=(OM w).rd enc base held n _ _ h5
 obtain⟨E,e6,a6,d6,k6⟩:=(OM w).rd enc base held n _ _ h6
 obtain⟨I,e7,a7,d7,k7⟩:=(OM w).rd enc base held n _ _ h7
 obtain⟨G,e8,a8,d8,k8⟩:=(OM w).rd enc base held n _ _ Y
 obtain rfl:M=a0:=d0
 obtain rfl:U=a1:=d1
 obtain rfl:J=a2:=d2
 obtain rfl:O=a5:=d5
 obtain rfl:E=a6:=d6
 obtain rfl:I=a7:=d7
 obtain rfl:G=a8:=d8
 have p0:=eA (s:=1) e0
 have p1:=eA (s:=1) e1
 have p2:=eA (s:=1) e2
 have p3:=eA (s:=1) e3
 have p4:=eA (s:=1) e4
 have p5:=eA (s:=1) e5
 have p6:=eA (s:=1) e6
 have p7:=eA (s:=1) e7
 have p8:=eA (s:=1) e8
 have hz:cs.drop 9=[]:=B7.2 (by rw[hl];exact zU (by kernel_rfl))
 refine⟨(⟨M,U,J,V,W,O,E,I,G⟩:bF),?_,(⟨M,U,J,a3,a4,O,E,I,G⟩:bD),⟨V,W,rfl,d3,d4⟩,k0,k1,Z,k3,k4,k5,k6,k7,k8⟩
 have e:cs=cs.drop 0:=rfl
 rw[e]
 refine p0.trans ?_
 refine(gD _ p1).trans ?_
 refine(gD _ (gD _ p2)).trans ?_
 refine(gD _ (gD _ (gD _ p3))).trans ?_
 refine(gD _ (gD _ (gD _ (gD _ p4)))).trans ?_
 refine(gD _ (gD _ (gD _ (gD _ (gD _ p5))))).trans ?_
 refine(gD _ (gD _ (gD _ (gD _ (gD _ (gD _ p6)))))).trans ?_
 refine(gD _ (gD _ (gD _ (gD _ (gD _ (gD _ (gD _ p7))))))).trans ?_
 refine(gD _ (gD _ (gD _ (gD _ (gD _ (gD _ (gD _ (gD _ p8)))))))).trans ?_
 exact(gD _ (gD _ (gD _ (gD _ (gD _ (gD _ (gD _ (gD _ (gD _ hz)))))))))⟩
def axK:Bq hZ 112 (List bD) (λys:(List bD)=>∀y∈ys,MY y):=Bq.slice Tryz.underlying112 (by kernel_rfl) axJ
def axL:Bq hZ 114 cE AK:=λw=>⟨by kernel_rfl,λenc base held fuel cs x h=>by
 obtain⟨Z,n,B⟩:=ny Tryz.underlying114 h
 obtain⟨y0,W⟩:=B 0 _ rfl
 obtain⟨y1,h1⟩:=B 1 _ rfl
 obtain⟨y2,h2⟩:=B 2 _ rfl
 obtain⟨y3,h3⟩:=B 3 _ rfl
 obtain⟨E,e0,a0,U,V⟩:=(rd9 w).rd enc base held n _ _ W
 obtain⟨J,e1,a1,d1,k1⟩:=(aEQ w).rd enc base held n _ _ h1
 obtain⟨I,e2,a2,d2,M⟩:=(axK w).rd enc base held n _ _ h2
 obtain⟨G,O,a3,d3,Y⟩:=(OM w).rd enc base held n _ _ h3
 obtain rfl:E=a0:=U
 obtain rfl:G=a3:=d3
 have p0:=eA (s:=1) e0
 have p1:=eA (s:=1) e1
 have p2:=eA (s:=1) e2
 have p3:=eA (s:=1) O
 have hz:cs.drop 4=[]:=B7.2 (by rw[Z];exact zU (by kernel_rfl))
 refine⟨(⟨E,J,I,G⟩:cI),?_,(⟨E,a1,a2,G⟩:cE),⟨J,I,rfl,d1,d2⟩,V,k1,M,Y⟩
 have e:cs=cs.drop 0:=rfl
 rw[e]
 refine p0.trans ?_
 refine(gD _ p1).trans ?_
 refine(gD _ (gD _ p2)).trans ?_
 refine(gD _ (gD _ (gD _ p3))).trans ?_
 exact(gD _ (gD _ (gD _ (gD _ hz))))⟩
def axM:Bq hZ 33 (List cE) (λys:(List cE)=>∀y∈ys,AK y):=Bq.slice Tryz.underlying33 (by kernel_rfl) axL
def aER:Bq hZ 95 iF Ib:=λw=>⟨by kernel_rfl,λenc base held fuel cs x h=>by
 obtain⟨O,n,G⟩:=ny Tryz.underlying95 h
 obtain⟨Z,M⟩:=G 0 _ rfl
 obtain⟨Y,h1⟩:=G 1 _ rfl
 obtain⟨E,e0,a0,I,J⟩:=(apT w).rd enc base held n _ _ M
 obtain⟨B,e1,a1,V,U⟩:=(OM w).rd enc base held n _ _ h1
 obtain rfl:B=a1:=V
 have p0:=eA (s:=1) e0
 have p1:=eA (s:=1) e1
 have W:cs.drop 2=[]:=B7.2 (by rw[O];exact zU (by kernel_rfl))
 refine⟨(⟨E,B⟩:jy),?_,(⟨a0,B⟩:iF),⟨E,rfl,I⟩,J,U⟩
 have e:cs=cs.drop 0:=rfl
 rw[e]
 refine p0.trans ?_
 refine(gD _ p1).trans ?_
 exact(gD _ (gD _ W))⟩
def aES:Bq hZ 34 (List iF) (λys:(List iF)=>∀y∈ys,Ib y):=Bq.slice Tryz.underlying34 (by kernel_rfl) aER
def rd36:Bq hZ 36 bQ ag1:=λw=>⟨by kernel_rfl,λenc base held fuel cs x h=>by
 obtain⟨hl,n,B⟩:=ny Tryz.underlying36 h
 obtain⟨y0,h0⟩:=B 0 _ rfl
 obtain⟨y1,h1⟩:=B 1 _ rfl
 obtain⟨y2,h2⟩:=B 2 _ rfl
 obtain⟨y3,h3⟩:=B 3 _ rfl
 obtain⟨y4,h4⟩:=B 4 _ rfl
 obtain⟨y5,h5⟩:=B 5 _ rfl
 obtain⟨I,e0,a0,d0,k0⟩:=(aEP w).rd enc base held n _ _ h0
 obtain⟨O,e1,a1,d1,k1⟩:=(apS w).rd enc base held n _ _ h1
 obtain⟨G,e2,a2,d2,V⟩:=(apS w).rd enc base held n _ _ h2
 obtain⟨J,Y,a3,d3,k3⟩:=(axM w).rd enc base held n _ _ h3
 obtain⟨E,Z,a4,d4,k4⟩:=(axM w).rd enc base held n _ _ h4
 obtain⟨M,e5,a5,W,U⟩:=(aES w).rd enc base held n _ _ h5
 have p0:=eA (s:=1) e0
 have p1:=eA (s:=1) e1
 have p2:=eA (s:=1) e2
 have p3:=eA (s:=1) Y
 have p4:=eA (s:=1) Z
 have p5:=eA (s:=1) e5
 have hz:cs.drop 6=[]:=B7.2 (by rw[hl];exact zU (by kernel_rfl))
 refine⟨(⟨I,O,G,J,E,M⟩:bT),?_,(⟨a0,a1,a2,a3,a4,a5⟩:bQ),⟨I,O,G,J,E,M,rfl,d0,d1,d2,d3,d4,W⟩,k0,k1,V,k3,k4,U⟩
 have e:cs=cs.drop 0:=rfl
 rw[e]
 refine p0.trans ?_
 refine(gD _ p1).trans ?_
 refine(gD _ (gD _ p2)).trans ?_
 refine(gD _ (gD _ (gD _ p3))).trans ?_
 refine(gD _ (gD _ (gD _ (gD _ p4)))).trans ?_
 refine(gD _ (gD _ (gD _ (gD _ (gD _ p5))))).trans ?_
 exact(gD _ (gD _ (gD _ (gD _ (gD _ (gD _ hz))))))⟩
def aET:Bq hZ 22 (List Int) (λys:(List Int)=>∀y∈ys,mV y):=Bq.slice Tryz.underlying22 (by kernel_rfl) OM
def aEU:Bq hZ 67 cC VW:=λw=>⟨by kernel_rfl,λenc base held fuel cs x h=>by
 obtain⟨Z,n,B⟩:=ny Tryz.underlying67 h
 obtain⟨y0,W⟩:=B 0 _ rfl
 obtain⟨y1,h1⟩:=B 1 _ rfl
 obtain⟨y2,h2⟩:=B 2 _ rfl
 obtain⟨y3,h3⟩:=B 3 _ rfl
 obtain⟨G,e0,a0,U,V⟩:=(OM w).rd enc base held n _ _ W
 obtain⟨I,e1,a1,d1,k1⟩:=(OM w).rd enc base held n _ _ h1
 obtain⟨E,e2,a2,d2,M⟩:=(OM w).rd enc base held n _ _ h2
 obtain⟨J,O,a3,d3,Y⟩:=(aET w).rd enc base held n _ _ h3
 obtain rfl:G=a0:=U
 obtain rfl:I=a1:=d1
 obtain rfl:E=a2:=d2
 have p0:=eA (s:=1) e0
 have p1:=eA (s:=1) e1
 have p2:=eA (s:=1) e2
 have p3:=eA (s:=1) O
 have hz:cs.drop 4=[]:=B7.2 (by rw[Z];exact zU (by kernel_rfl))
 refine⟨(⟨G,I,E,J⟩:cY),?_,(⟨G,I,E,a3⟩:cC),⟨J,rfl,d3⟩,V,k1,M,Y⟩
 have e:cs=cs.drop 0:=rfl
 rw[e]
 refine p0.trans ?_
 refine(gD _ p1).trans ?_
 refine(gD _ (gD _ p2)).trans ?_
 refine(gD _ (gD _ (gD _ p3))).trans ?_
 exact(gD _ (gD _ (gD _ (gD _ hz))))⟩
def rd69:Bq hZ 69 PI amC:=λw=>⟨by kernel_rfl,λenc base held fuel cs x h=>by
 obtain⟨V,n,E⟩:=ny Tryz.underlying69 h
 obtain⟨y0,U⟩:=E 0 _ rfl
 obtain⟨y1,h1⟩:=E 1 _ rfl
 obtain⟨y2,h2⟩:=E 2 _ rfl
 obtain⟨B,e0,a0,M,O⟩:=(OM w).rd enc base held n _ _ U
 obtain⟨G,e1,a1,Y,W⟩:=(OM w).rd enc base held n _ _ h1
 obtain⟨I,Z,a2,d2,J⟩:=(aEU w).rd enc base held n _ _ h2
 obtain rfl:B=a0:=M
 obtain rfl:G=a1:=Y
 have p0:=eA (s:=1) e0
 have p1:=eA (s:=1) e1
 have p2:=eA (s:=4) Z
 have hz:cs.drop 6=[]:=B7.2 (by rw[V];exact zU (by kernel_rfl))
 refine⟨(⟨B,G,I⟩:Br),?_,(⟨B,G,a2⟩:PI),⟨I,rfl,d2⟩,O,W,J⟩
 have e:cs=cs.drop 0:=rfl
 rw[e]
 refine p0.trans ?_
 refine(gD _ p1).trans ?_
 refine(gD _ (gD _ p2)).trans ?_
 exact(gD _ (gD _ (gD _ hz)))⟩
end Go.Proofs.YtdncbeepkacgbaaGreatDoor
