/-
  Part 6.
-/
import Derived.Test.YtnjcingfdhjfkaaGreatR6x5
set_option maxHeartbeats 8000000
set_option linter.all false
set_option maxRecDepth 100000
open Go.Fw.Flat renaming val->j6,enc->kp,len->yE,pos->aaT
open ByteArray renaming mk->k9
open List renaming mem_of_getElem?->ld,getElem?_eq_some_iff->l0,take_of_length_le->mE,getElem?_eq_getElem->nT,getD_eq_getElem?_getD->oi,length_take->oj,getElem?_eq_none->o3,replicate->qU,range->rv,take_add_one->xp,mem_cons->zZ,any_eq_true->z6,foldl_append->LA,not_mem_nil->abq
open Bool renaming and_eq_true->oG
open Nat renaming zero_le->o6,le_refl->r4,lt_or_ge->W4,mul_pos->adh
open Go.Fw.Deep renaming dr->py
open Option renaming some->qa,toList_some->K0
open Go.Value renaming int->qs,func->Ao,slice->HJ
open Prod renaming fst->ada,snd->adg
namespace Go.Proofs.YtnjcingfdhjfkaaGreat
open Go.Fw
def oO(m:Mem)(c:Int):Int:=if KC m c=true then m.l.getD c.toNat 0 else 0
def zH(m:gQ)(t:fR)(x:bF):Int:=if (lU t.buf x.b).isSome=true then(lU t.buf x.b).getD 0 else oO m.mem x.b
def loadT(m:gQ)(t:fR)(x:bF):fR:={t with aJ:=t.aJ.set x.a.toNat (zH m t x)}
def JZ(m:gQ)(t:fR)(x:bF):bU:=⟨if (lU t.buf x.b).isSome=true then 2 else 1,0,x.b,zH m t x,0⟩
def oP(m:gQ)(t:fR)(x:bF):aX:=if x.kind=3 then⟨3,m.u.lines.getD x.b.toNat 0,x.b,t.e⟩else⟨x.kind,x.b,0,0⟩
def uy(m:gQ)(t:fR)(x:bF):fR:={t with buf:=qb m.room t.buf (oP m t x)}
def v7(k:Int):Int:=if k=3 then 3 else if k=5 then 4 else if k=6 then 5 else if k=7 then 6 else 0
def zI(m:gQ)(t:fR)(x:bF):bU:=⟨v7 x.kind,0,x.b,(oP m t x).n,0⟩
def casT(m:gQ)(t:fR)(x:bF):fR:={t with aJ:=t.aJ.set x.a.toNat (oO m.mem x.b)}
def AX(m:gQ)(t:fR)(x:bF):gQ:=if oO m.mem x.b=t.e then {m with mem:=gF m.mem x.b t.f}else m
def N8(m:gQ)(t:fR)(x:bF):bU:=if oO m.mem x.b=t.e then⟨8,0,x.b,oO m.mem x.b,t.f⟩else⟨9,0,x.b,oO m.mem x.b,0⟩
def Cm(m:gQ)(i:Int)(x:bF):gQ:={m with locks:=m.locks.set x.b.toNat i}
def sr(m:gQ)(i:Int)(x:bF):gQ:=if m.locks.getD x.b.toNat 0=i then {m with locks:=m.locks.set x.b.toNat (-1)}else {m with fault:=3,iP:=i}
def Cn(m:gQ)(i:Int)(x:bF):bU:=if m.locks.getD x.b.toNat 0=i then⟨11,0,x.b,0,0⟩else⟨16,0,3,0,0⟩
def dJ(m:gQ)(t:fR)(i:Int)(x:bF):gQ×fR×bU:=
 if x.kind=2 then(m,loadT m t x,JZ m t x)
 else if x.kind=4 then(AX m t x,casT m t x,N8 m t x)
 else if x.kind=8 then(m,t,⟨7,0,0,0,0⟩)
 else if x.kind=9 then(Cm m i x,t,⟨10,0,x.b,0,0⟩)
 else if x.kind=10 then(sr m i x,t,Cn m i x)
 else(m,uy m t x,zI m t x)
def al6(p:Nat)(m:Mem)(c:Int)(w:World)(B:zf w p m)(E:ux m):CR 195 [.pointer (some ⟨p,0,none⟩),jK c] w (λv w'=>v=.tuple #[jK (oO m c),jK (if KC m c=true then 0 else 1)]/\Ext w w'):=C195 p m c w B E
def Mj(m:Mem)(c n:Int):(gF m c n).of=m.of:=by unfold gF;grind
def Co(m:Mem)(c n:Int):(gF m c n).cO=m.cO:=by unfold gF;grind
def aiN(m:Mem)(c:Int):(sR m c).of=m.of:=by unfold sR;grind
def Ru(m:Mem)(c:Int):(sR m c).cO=m.cO:=by unfold sR;grind
def yj.write{ov fv:Value}{m:Mem}{w:World}{c n:Int}(h:yj ov fv m w):yj ov fv (gF m c n) w:=by grind[yj,gF]
theorem yj.out{ov fv:Value}{m:Mem}{w:World}{c:Int}(h:yj ov fv m w):yj ov fv (sR m c) w:=by grind[yj,sR]
def C130(K:jj)(p:Nat)(m:gQ)(n:Nat)(tp:Ptr)(t:fR)(i:Int)(x:bF)(W gf:SV)(F:Nat->Prop)(w:World)(hF:(sep (fO K tp.b m.room t) (m7 K p m n tp)).p w F)(hK:∀w',js F w w'->K w')(zV:t.buf.length<=1000)(OP:ux m.mem)(ni:MB m.mem 1000000)(hxa:0<=x.a/\x.a<t.aJ.length):CR 130 [(.pointer (some ⟨p,0,none⟩)),(.pointer (some ⟨tp.b,0,none⟩)),jK i,j6 (⟨x.kind,x.a,x.b,W,gf,x.to⟩:bN)] w (λv w'=>v=j6 (JZ m t x)/\pk F (sep (fO K tp.b m.room (loadT m t x)) (m7 K p m n tp)) w w'):=by
 have B:=(St.begin hF).split;obtain⟨bp,gl,rg,cn,mI,B⟩:=fO.open B;obtain⟨a,E,B⟩:=m7.open B.p4;refine af4 _ _ _ _ _ _ ?_;unfold S130;refine cU (x:=(⟨x.kind,x.a,x.b,W,gf,x.to⟩:bN)) B (λDZ _ B=>aR B kV λFg _ B=>aD (aA pL (have B:=B.drew;aB vm B.p7.hb rfl (aA dS (aB (v:=jK x.b) aV B.p1.hb rfl (aZ atP B (C194 bp x.b m.room t.buf _ (Hg B.p8) cW) λ_ he B=>bD rfl (bD rfl ?_)))))));refine⟨_,?_,λ_ _ _ h=>h⟩;refine bV (aW (λI=>?_) λI=>?_)
 .refine aD (aA l8 (have B:=B.drew;aB wF B.p2.hb rfl (aA dS (aB (v:=jK x.b) aV B.p1.hb rfl (aZ aku B (al6 a.q m.mem x.b _ (N4 B.p3 (E.1.mem _ (hK _ B.aE))) OP) λ_ he B=>bD rfl (bD rfl ?_))))));intro qk;refine aD (aA tC (have B:=B.drew;aB cZ B.p7.hb rfl (aA gr (aB (v:=jK x.a) aV B.p1.hb rfl ?_))));obtain⟨M,N2⟩:=gx t.aJ (i:=x.a.toNat) cW;refine cH B.p9 cE cW cW (λU O=>gY _ B.p9 aV O cW λw6 B=>aA dS (aB (v:=jK x.b) aV B.p2.hb rfl (pop (tJ _ _ _) (aO (x:=(⟨1,0,x.b,(oO m.mem x.b),0⟩:bU)) B.p1 eV rfl rfl λw7 B=>aF eV B.At ?_))))
  have J:zH m t x=(oO m.mem x.b):=by unfold zH;rw[fU (by simpa using I)]
  have V:(if (lU t.buf x.b).isSome=true then(2:Int)else 1)=1:=by rw[fU (by simpa using I)]
  have B:=fO.shut (room:=m.room) (t:=(⟨t.code,t.at_,(t.aJ.set x.a.toNat (oO m.mem x.b)),t.counts,t.fault,t.e,t.f,t.buf⟩:fR)) mI B.uU.p2.uU.uU;have B:=((m7.shut (m:=m) (⟨⟨E.1.ln,E.1.cl,E.1.rc,E.1.mem⟩,E.2⟩) B.p7.p7.p7.p7.p7).p2).drop;have B:=B.p2.drop.p1;refine⟨?_,?_⟩
  .unfold JZ;rw[J,V]
  rw[show loadT m t x=(⟨t.code,t.at_,(t.aJ.set x.a.toNat (oO m.mem x.b)),t.counts,t.fault,t.e,t.f,t.buf⟩:fR)from by unfold loadT;rw[J]];exact(St.join B).mut
 intro qk;refine aD (aA tC (have B:=B.drew;aB cZ B.p7.hb rfl (aA gr (aB (v:=jK x.a) aV B.p1.hb rfl ?_))));obtain⟨M,N2⟩:=gx t.aJ (i:=x.a.toNat) cW;refine cH B.p9 cE cW cW (λU O=>gY _ B.p9 aV O cW λw6 B=>aA dS (aB (v:=jK x.b) aV B.p2.hb rfl (pop (tJ _ _ _) (aO (x:=(⟨2,0,x.b,((lU t.buf x.b).getD 0),0⟩:bU)) B.p1 eV rfl rfl λw7 B=>aF eV B.At ?_))));have J:zH m t x=((lU t.buf x.b).getD 0):=by unfold zH;rw[fV (by simpa using I)]
 have V:(if (lU t.buf x.b).isSome=true then(2:Int)else 1)=2:=by rw[fV (by simpa using I)]
 have B:=fO.shut (room:=m.room) (t:=(⟨t.code,t.at_,(t.aJ.set x.a.toNat ((lU t.buf x.b).getD 0)),t.counts,t.fault,t.e,t.f,t.buf⟩:fR)) mI B.uU.p2.uU.uU;have B:=((m7.shut (m:=m) (⟨⟨E.1.ln,E.1.cl,E.1.rc,E.1.mem⟩,E.2⟩) B.p7.p7.p7.p7.p7).p2).drop;have B:=B.p2.drop.p1;refine⟨?_,?_⟩
 .unfold JZ;rw[J,V]
 rw[show loadT m t x=(⟨t.code,t.at_,(t.aJ.set x.a.toNat ((lU t.buf x.b).getD 0)),t.counts,t.fault,t.e,t.f,t.buf⟩:fR)from by unfold loadT;rw[J]];exact(St.join B).mut
def C132(K:jj)(p:Nat)(m:gQ)(n:Nat)(tp:Ptr)(t:fR)(i:Int)(x:bF)(W gf:SV)(F:Nat->Prop)(w:World)(hF:(sep (fO K tp.b m.room t) (m7 K p m n tp)).p w F)(V:∀w',js F w w'->K w')(zV:t.buf.length<=1000)(U:ux m.mem)(ni:MB m.mem 1000000)(hxa:0<=x.a/\x.a<t.aJ.length):CR 132 [(.pointer (some ⟨p,0,none⟩)),(.pointer (some ⟨tp.b,0,none⟩)),jK i,j6 (⟨x.kind,x.a,x.b,W,gf,x.to⟩:bN)] w (λv w'=>v=j6 (N8 m t x)/\pk F (sep (fO K tp.b m.room (casT m t x)) (m7 K p (AX m t x) n tp)) w w'):=by
 have B:=(St.begin hF).split;obtain⟨bp,gl,rg,cn,mI,B⟩:=fO.open B;obtain⟨a,E,B⟩:=m7.open B.p4;refine uT Tryz.func132 (pl:=aCv) ?_;refine cU (x:=(⟨x.kind,x.a,x.b,W,gf,x.to⟩:bN)) B (λDZ _ B=>aR B kV λFg _ B=>aD (aA l8 (have B:=B.drew;aB wF B.p2.hb rfl (aA dS (aB (v:=jK x.b) aV B.p1.hb rfl (aZ aku B (al6 a.q m.mem x.b _ (N4 B.p3 (E.1.mem _ (V _ B.aE))) U) λ_ he B=>bD rfl (bD rfl (aD (aA tC (have B:=B.drew;aB cZ B.p7.hb rfl ?_))))))))));refine aA gr (aB (v:=jK x.a) aV B.p1.hb rfl ?_)
 obtain⟨jA,jX⟩:=gx t.aJ (i:=x.a.toNat) cW;refine cH B.p9 cE cW cW (λ_ si=>gY _ B.p9 aV si cW λ_ B=>aD (aA xK (aB aV B.p8.hb rfl (bQ (aC (λM=>?_) λM=>?_)))))
 .refine aA dS (aB (v:=jK x.b) aV B.p2.hb rfl (pop (tJ _ _ _) (aO (x:=(⟨9,0,x.b,(oO m.mem x.b),0⟩:bU)) B.p1 eV rfl rfl λ_ B=>aF eV B.At ?_)));have O:AX m t x=m:=by unfold AX;rw[fU M]
  have I:N8 m t x=⟨9,0,x.b,oO m.mem x.b,0⟩:=by unfold N8;rw[fU M]
  have B:=fO.shut (room:=m.room) (t:=(⟨t.code,t.at_,(t.aJ.set x.a.toNat (oO m.mem x.b)),t.counts,t.fault,t.e,t.f,t.buf⟩:fR)) mI B.uU.p2.uU.uU;have B:=m7.shut (m:=m) (⟨⟨E.1.ln,E.1.cl,E.1.rc,λw J=>by first|exact E.1.mem w J|exact(E.1.mem w J).write⟩,E.2⟩) B.p7.p7.p7.p7.p7;have B:=B.p2.drop.p2.drop.p1;refine⟨?_,?_⟩
  .rw[I];try rfl
  rw[O];exact(St.join B).mut
 refine aD (aA l8 (have B:=B.drew;aB wF B.p3.hb rfl (aA dS (aB (v:=jK x.b) aV B.p2.hb rfl (aD (aA HX (aB aV B.p8.hb rfl (bI aaw B.p4 (H':=λ_=>iw a.q a.ov a.fv (gF m.mem x.b t.f)) (Φ:=λ_ _=>True) (λF2 fz eO=>?_) ?_))))))))
 .exact(C128 a.q a.ov a.fv m.mem F2 x.b _ _ fz (λw' hc=>E.1.mem _ (V w' (eO w' hc).aE)) U ni).mono λ_ _ r=>r.mono λ_ _ h=>⟨trivial,h.2⟩
 rintro _ _ _ B;refine aA dS (have B:=B.drew;aB (v:=jK x.b) aV B.p3.hb rfl (aD (aA HX (aB aV B.p8.hb rfl (pop (KN _ _ _ _) (aO (x:=(⟨8,0,x.b,(oO m.mem x.b),t.f⟩:bU)) B.p2 eV rfl rfl λ_ B=>aF eV B.At ?_))))));have O:AX m t x={m with mem:=gF m.mem x.b t.f}:=by unfold AX;rw[fV (by simpa using M)]
 have I:N8 m t x=⟨8,0,x.b,oO m.mem x.b,t.f⟩:=by unfold N8;rw[fV (by simpa using M)]
 have B:=fO.shut (room:=m.room) (t:=(⟨t.code,t.at_,(t.aJ.set x.a.toNat (oO m.mem x.b)),t.counts,t.fault,t.e,t.f,t.buf⟩:fR)) mI B.uU.p3.uU.uU;have B:=m7.shut (m:={m with mem:=gF m.mem x.b t.f}) (⟨⟨E.1.ln,E.1.cl,E.1.rc,λw J=>by first|exact E.1.mem w J|exact(E.1.mem w J).write⟩,E.2⟩) B.p7.p7.p7.p5.p7;have B:=B.p2.drop.p2.drop.p1;refine⟨?_,?_⟩
 .rw[I];try rfl
 rw[O];exact(St.join B).mut
def C133(K:jj)(p:Nat)(m:gQ)(n:Nat)(tp:Ptr)(t:fR)(i:Int)(x:bF)(I J:SV)(F:Nat->Prop)(w:World)(O:(sep (fO K tp.b m.room t) (m7 K p m n tp)).p w F)(hK:∀w',js F w w'->K w')(W:t.buf.length<=1000)(V:ux m.mem)(ni:MB m.mem 1000000):CR 133 [(.pointer (some ⟨p,0,none⟩)),(.pointer (some ⟨tp.b,0,none⟩)),jK i,j6 (⟨x.kind,x.a,x.b,I,J,x.to⟩:bN)] w (λv w'=>v=j6 (⟨7,0,0,0,0⟩:bU)/\pk F (sep (fO K tp.b m.room t) (m7 K p m n tp)) w w'):=by
 have B:=(St.begin O).split;obtain⟨bp,gl,rg,cn,M,B⟩:=fO.open B;obtain⟨a,E,B⟩:=m7.open B.p4;refine lx Tryz.func133 ?_;refine cU (x:=(⟨x.kind,x.a,x.b,I,J,x.to⟩:bN)) B (λU _ B=>aR B kV λFg _ B=>pop (ag9 _) (aO (x:=(⟨7,0,0,0,0⟩:bU)) B eV rfl rfl λ_ B=>aF eV B.At (have B:=fO.shut (room:=m.room) (t:=(⟨t.code,t.at_,t.aJ,t.counts,t.fault,t.e,t.f,t.buf⟩:fR)) M B.uU.uU.uU.uU;have B:=((m7.shut (m:=m) (⟨⟨E.1.ln,E.1.cl,E.1.rc,E.1.mem⟩,E.2⟩) B.p7.p7.p7.p7.p7).p2).drop;have B:=B.p2.drop.p1;⟨?_,?_⟩)))
 .rfl
 skip;exact(St.join B).mut
def C134(K:jj)(p:Nat)(m:gQ)(n:Nat)(tp:Ptr)(t:fR)(i:Int)(x:bF)(I J:SV)(F:Nat->Prop)(w:World)(V:(sep (fO K tp.b m.room t) (m7 K p m n tp)).p w F)(hK:∀w',js F w w'->K w')(zV:t.buf.length<=1000)(OP:ux m.mem)(ni:MB m.mem 1000000)(M:0<=x.b/\x.b<m.locks.length):CR 134 [(.pointer (some ⟨p,0,none⟩)),(.pointer (some ⟨tp.b,0,none⟩)),jK i,j6 (⟨x.kind,x.a,x.b,I,J,x.to⟩:bN)] w (λv w'=>v=j6 (⟨10,0,x.b,0,0⟩:bU)/\pk F (sep (fO K tp.b m.room t) (m7 K p (Cm m i x) n tp)) w w'):=by
 have B:=(St.begin V).split;obtain⟨bp,gl,rg,cn,U,B⟩:=fO.open B;obtain⟨a,E,B⟩:=m7.open B.p4;refine uT Tryz.func134 (pl:=aCw) ?_;refine cU (x:=(⟨x.kind,x.a,x.b,I,J,x.to⟩:bN)) B (λW _ B=>aR B kV λFg _ B=>aD (aA ri (have B:=B.drew;aB cZ B.p2.hb rfl (aA dS (aB (v:=jK x.b) aV B.p1.hb rfl ?_)))));obtain⟨Cc,kW⟩:=gx m.locks (i:=x.b.toNat) cW;refine cH B.p4 cE cW cW (λ_ O=>gY _ B.p4 aV O cW λ_ B=>aA dS (aB (v:=jK x.b) aV B.p2.hb rfl (pop (E8 _ _) (aO (x:=(⟨10,0,x.b,0,0⟩:bU)) B.p1 eV rfl rfl λ_ B=>aF eV B.At (have B:=fO.shut (room:=m.room) (t:=(⟨t.code,t.at_,t.aJ,t.counts,t.fault,t.e,t.f,t.buf⟩:fR)) U B.uU.uU.uU.uU;have B:=m7.shut (m:=(Cm m i x)) (⟨⟨E.1.ln,E.1.cl,E.1.rc,E.1.mem⟩,E.2⟩) B.p7.p7.p4.p7.p7;have B:=B.p2.drop.p2.drop.p1;⟨?_,?_⟩)))))
 .rfl
 skip;exact(St.join B).mut
def C135(K:jj)(p:Nat)(m:gQ)(n:Nat)(tp:Ptr)(t:fR)(i:Int)(x:bF)(W gf:SV)(F:Nat->Prop)(w:World)(hF:(sep (fO K tp.b m.room t) (m7 K p m n tp)).p w F)(hK:∀w',js F w w'->K w')(zV:t.buf.length<=1000)(OP:ux m.mem)(ni:MB m.mem 1000000)(hxb:0<=x.b/\x.b<m.locks.length):CR 135 [(.pointer (some ⟨p,0,none⟩)),(.pointer (some ⟨tp.b,0,none⟩)),jK i,j6 (⟨x.kind,x.a,x.b,W,gf,x.to⟩:bN)] w (λv w'=>v=j6 (Cn m i x)/\pk F (sep (fO K tp.b m.room t) (m7 K p (sr m i x) n tp)) w w'):=by
 have B:=(St.begin hF).split;obtain⟨bp,gl,rg,cn,mI,B⟩:=fO.open B;obtain⟨a,I,B⟩:=m7.open B.p4;refine uT Tryz.func135 (pl:=aCx) ?_;refine cU (x:=(⟨x.kind,x.a,x.b,W,gf,x.to⟩:bN)) B (λDZ _ B=>aR B kV λFg _ B=>aD (aA ri (have B:=B.drew;aB cZ B.p2.hb rfl (aA dS (aB (v:=jK x.b) aV B.p1.hb rfl ?_)))));obtain⟨V,U⟩:=gx m.locks (i:=x.b.toNat) cW;refine cH B.p4 cE cW cW (λ_ pS=>eK B.p4 aV pS U (bQ (aC (λM=>?_) λM=>?_)))
 .refine aD (aA rj (aS B.p2 aV (dV rfl) (rfl) λ_ B=>aD (aA HW (aS B aV (dV rfl) (rfl) λ_ B=>pop (E8 _ _) (aO (x:=(⟨16,0,3,0,0⟩:bU)) B.p1 eV rfl rfl λ_ B=>aF eV B.At ?_)))));have E:m.locks.getD x.b.toNat 0=V:=by rw[oi,U];rfl
  have J:sr m i x={m with fault:=3,iP:=i}:=by unfold sr;rw[E,fU M]
  have O:Cn m i x=⟨16,0,3,0,0⟩:=by unfold Cn;rw[E,fU M]
  have B:=fO.shut (room:=m.room) (t:=(⟨t.code,t.at_,t.aJ,t.counts,t.fault,t.e,t.f,t.buf⟩:fR)) mI B.uU.uU.uU.uU;have B:=m7.shut (m:={m with fault:=3,iP:=i}) (⟨⟨I.1.ln,I.1.cl,I.1.rc,I.1.mem⟩,I.2⟩) B.p7.p7.p7.p7.p6;have B:=B.p2.drop.p2.drop.p1;refine⟨?_,?_⟩
  .rw[O];try rfl
  rw[J];exact(St.join B).mut
 refine aD (aA ri (have B:=B.drew;aB cZ B.p2.hb rfl (aA dS (aB (v:=jK x.b) aV B.p1.hb rfl (cH B.p4 cE cW cW λ_ vH=>gY _ B.p4 aV vH cW λ_ B=>aA dS (aB (v:=jK x.b) aV B.p2.hb rfl (pop (E8 _ _) (aO (x:=(⟨11,0,x.b,0,0⟩:bU)) B.p1 eV rfl rfl λ_ B=>aF eV B.At ?_))))))));have E:m.locks.getD x.b.toNat 0=V:=by rw[oi,U];rfl
 have J:sr m i x={m with locks:=m.locks.set x.b.toNat (-1)}:=by unfold sr;rw[E,fV (by simpa using M)]
 have O:Cn m i x=⟨11,0,x.b,0,0⟩:=by unfold Cn;rw[E,fV (by simpa using M)]
 have B:=fO.shut (room:=m.room) (t:=(⟨t.code,t.at_,t.aJ,t.counts,t.fault,t.e,t.f,t.buf⟩:fR)) mI B.uU.uU.uU.uU;have B:=m7.shut (m:={m with locks:=m.locks.set x.b.toNat (-1)}) (⟨⟨I.1.ln,I.1.cl,I.1.rc,I.1.mem⟩,I.2⟩) B.p7.p7.p4.p7.p7;have B:=B.p2.drop.p2.drop.p1;refine⟨?_,?_⟩
 .rw[O];try rfl
 rw[J];exact(St.join B).mut
def C131(K:jj)(p:Nat)(m:gQ)(n:Nat)(tp:Ptr)(t:fR)(i:Int)(x:bF)(ge gf:SV)(F:Nat->Prop)(w:World)(hF:(sep (fO K tp.b m.room t) (m7 K p m n tp)).p w F)(hK:∀w',js F w w'->K w')(zV:t.buf.length<=1000)(OP:ux m.mem)(ni:MB m.mem 1000000)(U:x.kind=3\/x.kind=5\/x.kind=6\/x.kind=7)(Vs:x.kind=3->0<=x.b/\x.b<m.u.lines.length):CR 131 [(.pointer (some ⟨p,0,none⟩)),(.pointer (some ⟨tp.b,0,none⟩)),jK i,j6 (⟨x.kind,x.a,x.b,ge,gf,x.to⟩:bN)] w (λv w'=>v=j6 (zI m t x)/\pk F (sep (fO K tp.b m.room (uy m t x)) (m7 K p m n tp)) w w'):=by
 have B:=(St.begin hF).split;obtain⟨V,gl,rg,cn,mI,B⟩:=fO.open B;obtain⟨a,E,B⟩:=m7.open B.p4;refine af5 _ _ _ _ _ _ ?_;unfold S131;refine cU (x:=(⟨x.kind,x.a,x.b,ge,gf,x.to⟩:bN)) B (λDZ _ B=>aR B kV λFg _ B=>AT B λab4 _ B=>j1 B Tryz.underlying272 sD dO λ_ B=>j1 B Tryz.underlying272 sD dO λ_ B=>j1 B Tryz.underlying272 sD dO λ_ B=>j1 B Tryz.underlying272 sD dO λ_ B=>aA eA (aB (v:=jK x.kind) aV B.p2.hb rfl (aA dS (aB (v:=jK x.b) aV B.p2.hb rfl (pop (CC _ _) (aR B tf λb_y10 _ B=>?_))))))
 refine aO (x:=(⟨x.kind,x.b,0,0⟩:aX)) B iI rfl rfl (λ_ B=>?_);refine⟨_,?_,λ_ h=>h⟩;refine aA eA (aB (v:=jK x.kind) aV B.p3.hb rfl (aH (aC (λO=>?_) λO=>?_)))
 .have hxb:=Vs O;refine aD (aA xI (aA iD (have B:=B.drew;aB cZ B.p4.hb rfl (aA dS (aB (v:=jK x.b) aV B.p3.hb rfl ?_)))));obtain⟨M,jX⟩:=gx m.u.lines (i:=x.b.toNat) cW;refine aQ cE (E.1.ln _ (hK _ B.aE)) cW jX (λ_ si=>aF aV si (aA dS (aB (v:=jK x.b) aV B.p3.hb rfl (aD (aA xK (aB aV B.p9.hb rfl (aA ix (aS B aV (dV rfl) (rfl) λ_ B=>?_))))))));have B:=B.enc (cs':=kp ({ (⟨x.kind,x.b,0,0⟩:aX)with line:=M}:aX)) rfl;refine⟨aG aV (B.p3.hb.cell rfl),?_⟩
  refine⟨aG aV (B.p9.hb.cell rfl),?_⟩;refine aA ma (aS B aV (dV rfl) (rfl) λ_ B=>?_);have B:=B.enc (cs':=kp ({ ({ (⟨x.kind,x.b,0,0⟩:aX)with line:=M}:aX)with cell:=x.b}:aX)) rfl;refine⟨aG aV (B.p9.hb.cell rfl),?_⟩;refine aA mc (aS B aV (dV rfl) (rfl) λ_ B=>?_);have B:=B.enc (cs':=kp ({ ({ ({ (⟨x.kind,x.b,0,0⟩:aX)with line:=M}:aX)with cell:=x.b}:aX)with n:=t.e}:aX)) rfl;intro qk;refine aD (aA pL (have B:=B.drew;aB vm B.p9.hb rfl ?_));have I:oP m t x=({ ({ ({ (⟨x.kind,x.b,0,0⟩:aX)with line:=M}:aX)with cell:=x.b}:aX)with n:=t.e}:aX):=by unfold oP;rw[fV O,oi,jX,<- O];rfl
  refine aF iI B.At (bI akv B.uU (H':=λ_=>kC V m.room (qb m.room t.buf (oP m t x))) (Φ:=λ_ _=>True) (λF2 fz eO=>?_) ?_)
  .rw[I];exact(C196 V m.room t.buf ({ ({ ({ (⟨x.kind,x.b,0,0⟩:aX)with line:=M}:aX)with cell:=x.b}:aX)with n:=t.e}:aX) F2 _ fz cW).mono λ_ _ r=>r.mono λ_ _ h=>⟨trivial,h.2⟩
  rintro _ ON _ B;refine aA eA (aB (v:=jK x.kind) aV B.p4.hb rfl ?_)
  have W:(Go.Fw.look [3,5,6,7] [qs .i64 3,jK 4,jK 5,jK 6] x.kind).getD (jK 0)=jK (v7 x.kind):=by
   have J:=U
   rcases J with h|h|h|h<;>rw[h]<;>rfl
  refine⟨_,sP B.p2.Eg Tryz.underlying272 sD xH,?_⟩;rw[show(Go.Fw.look ([]++[3]++[5]++[6]++[7]) ([]++[qs .i64 3]++[qs .i64 4]++[qs .i64 5]++[qs .i64 6]) x.kind).getD (jK 0)=jK (v7 x.kind)from W];refine aA dS (aB (v:=jK x.b) aV B.p4.hb rfl (aA mc (aB (v:=jK (({ ({ ({ (⟨x.kind,x.b,0,0⟩:aX)with line:=M}:aX)with cell:=x.b}:aX)with n:=t.e}:aX).n)) aV B.p1.hb rfl (pop (tJ _ _ _) (aO (x:=(⟨(v7 x.kind),0,x.b,({ ({ ({ (⟨x.kind,x.b,0,0⟩:aX)with line:=M}:aX)with cell:=x.b}:aX)with n:=t.e}:aX).n,0⟩:bU)) B.p3 eV rfl rfl λw15 B=>aF eV B.At (have B:=fO.shut (room:=m.room) (t:=(⟨t.code,t.at_,t.aJ,t.counts,t.fault,t.e,t.f,(qb m.room t.buf (oP m t x))⟩:fR)) mI B.p12.p12.p3.p12;have B:=((m7.shut (m:=m) (⟨⟨E.1.ln,E.1.cl,E.1.rc,E.1.mem⟩,E.2⟩) B.p9.p9.p9.p9.p9).p2).drop;have B:=B.p2.drop.p2.drop.p2.drop.p1;⟨?_,?_⟩))))))
  .unfold zI;rw[I]
  rw[show uy m t x=(⟨t.code,t.at_,t.aJ,t.counts,t.fault,t.e,t.f,(qb m.room t.buf (oP m t x))⟩:fR)from rfl];exact(St.join B).mut
 intro qk;refine aD (aA pL (have B:=B.drew;aB vm B.p9.hb rfl ?_));have I:oP m t x=(⟨x.kind,x.b,0,0⟩:aX):=by unfold oP;rw[fU O]
 refine aF iI B.At (bI akv B.uU (H':=λ_=>kC V m.room (qb m.room t.buf (oP m t x))) (Φ:=λ_ _=>True) (λF2 fz eO=>?_) ?_)
 .rw[I];exact(C196 V m.room t.buf (⟨x.kind,x.b,0,0⟩:aX) F2 _ fz cW).mono λ_ _ r=>r.mono λ_ _ h=>⟨trivial,h.2⟩
 rintro _ ON _ B;refine aA eA (aB (v:=jK x.kind) aV B.p4.hb rfl ?_)
 have W:(Go.Fw.look [3,5,6,7] [qs .i64 3,jK 4,jK 5,jK 6] x.kind).getD (jK 0)=jK (v7 x.kind):=by
  have J:=U
  rcases J with h|h|h|h<;>rw[h]<;>rfl
 refine⟨_,sP B.p2.Eg Tryz.underlying272 sD xH,?_⟩;rw[show(Go.Fw.look ([]++[3]++[5]++[6]++[7]) ([]++[qs .i64 3]++[qs .i64 4]++[qs .i64 5]++[qs .i64 6]) x.kind).getD (jK 0)=jK (v7 x.kind)from W];refine aA dS (aB (v:=jK x.b) aV B.p4.hb rfl (aA mc (aB (v:=jK ((⟨x.kind,x.b,0,0⟩:aX).n)) aV B.p1.hb rfl (pop (tJ _ _ _) (aO (x:=(⟨(v7 x.kind),0,x.b,(⟨x.kind,x.b,0,0⟩:aX).n,0⟩:bU)) B.p3 eV rfl rfl λw15 B=>aF eV B.At (have B:=fO.shut (room:=m.room) (t:=(⟨t.code,t.at_,t.aJ,t.counts,t.fault,t.e,t.f,(qb m.room t.buf (oP m t x))⟩:fR)) mI B.p12.p12.p3.p12;have B:=((m7.shut (m:=m) (⟨⟨E.1.ln,E.1.cl,E.1.rc,E.1.mem⟩,E.2⟩) B.p9.p9.p9.p9.p9).p2).drop;have B:=B.p2.drop.p2.drop.p2.drop.p1;⟨?_,?_⟩))))))
 .unfold zI;rw[I]
 rw[show uy m t x=(⟨t.code,t.at_,t.aJ,t.counts,t.fault,t.e,t.f,(qb m.room t.buf (oP m t x))⟩:fR)from rfl];exact(St.join B).mut
def ir(m:Mem)(x:aX):Mem:=if x.kind=3 then gF m x.cell x.n else if x.kind=7 then m else sR m x.line
def oQ(t:Int)(x:aX):bU:=if x.kind=3 then⟨12,t,x.cell,x.n,0⟩else if x.kind=7 then⟨14,t,0,0,0⟩else⟨13,t,x.line,0,0⟩
def lf(m:gQ)(t:fR)(p:dY):gQ:={m with mem:=ir m.mem (dK t.buf p.i),l:=m.l.set p.t.toNat {t with buf:=kR t.buf p.i}}
section
variable {m:gQ}{t:fR}{i:Int}{x:bF}
theorem BL:(dJ m t i x).1.room=m.room:=by
 unfold dJ AX Cm sr;repeat' split
 all_goals rfl
theorem J0:(dJ m t i x).1.l=m.l:=by
 unfold dJ AX Cm sr;repeat' split
 all_goals rfl
theorem Ue:(dJ m t i x).1.u=m.u:=by
 unfold dJ AX Cm sr;repeat' split
 all_goals rfl
theorem Eu:(dJ m t i x).2.1.at_=t.at_:=by
 unfold dJ loadT casT uy;repeat' split
 all_goals rfl
theorem u9:(dJ m t i x).2.1.code=t.code:=by
 unfold dJ loadT casT uy;repeat' split
 all_goals rfl
theorem ads{room:Int}{l:List aX}{y:aX}:(qb room l y).length<=l.length\/((qb room l y).length:Int)<=room:=by
 grind[qb]
theorem N9(h:JR t)(B:m.room<=16):JR (dJ m t i x).2.1:=by
 have h1:=h.rg;have h2:=h.cn;have h3:=h.Sv;have h4:=h.bl
 have h5:=ads (room:=m.room) (l:=t.buf) (y:=oP m t x)
 unfold dJ loadT casT uy
 repeat' split
 all_goals first
  | exact h
  | exact⟨h.code,by simpa using h1,h2,h3,h4⟩
  | exact⟨h.code,h1,h2,h3,by dsimp only;omega⟩
end
def nM(N:Nat)(m:gQ)(i:Int):Option (gQ×bU):=match m.l[i.toNat]? with
 | none=>none
 | some t=>if t.fault≠0 then some ({m with fault:=t.fault,iP:=i},⟨16,i,t.fault,0,0⟩)else match gP t with
  | none=>none
  | some x=>if (dJ m t i x).1.fault=0 then
    (sB N { (dJ m t i x).2.1 with at_:=(dJ m t i x).2.1.at_+1}).map λB=>({ (dJ m t i x).1 with l:=(dJ m t i x).1.l.set i.toNat B},{ (dJ m t i x).2.2 with t:=i})
   else some ({ (dJ m t i x).1 with l:=(dJ m t i x).1.l.set i.toNat (dJ m t i x).2.1},{ (dJ m t i x).2.2 with t:=i})
theorem zo{N:Nat}{m B:gQ}{i:Int}{t:fR}{ev:bU}(h:nM N m i=some (B,ev))(ht:m.l[i.toNat]?=some t)(E:t.fault≠0):B={m with fault:=t.fault,iP:=i}/\ev=⟨16,i,t.fault,0,0⟩:=by
 unfold nM at h;rw[ht]at h;dsimp only at h;rw[fV E]at h
 have:=qa.inj h
 exact⟨(hM ada this).symm,(hM adg this).symm⟩
theorem zp{N:Nat}{m B:gQ}{i:Int}{t:fR}{ev:bU}(h:nM N m i=some (B,ev))(ht:m.l[i.toNat]?=some t)(E:¬ t.fault≠0):∃x,gP t=some x:=by
 unfold nM at h;rw[ht]at h;dsimp only at h;rw[fU E]at h
 cases hn:gP t with
 | none=>rw[hn]at h;cases h
 | some x=>exact⟨x,rfl⟩
theorem zq{N:Nat}{m E:gQ}{i:Int}{t:fR}{x:bF}{ev:bU}(h:nM N m i=some (E,ev))(ht:m.l[i.toNat]?=some t)(M:¬ t.fault≠0)(J:gP t=some x)(I:(dJ m t i x).1.fault=0) :
  ∃B,sB N { (dJ m t i x).2.1 with at_:=(dJ m t i x).2.1.at_+1}=some B/\E={ (dJ m t i x).1 with l:=(dJ m t i x).1.l.set i.toNat B}/\ev={ (dJ m t i x).2.2 with t:=i}:=by
 unfold nM at h;rw[ht]at h;dsimp only at h;rw[fU M,J]at h;dsimp only at h;rw[fV I]at h
 cases hg:sB N { (dJ m t i x).2.1 with at_:=(dJ m t i x).2.1.at_+1}with
 | none=>rw[hg]at h;cases h
 | some B=>
  rw[hg]at h
  have:=qa.inj h
  exact⟨B,rfl,(hM ada this).symm,(hM adg this).symm⟩
theorem zs{N:Nat}{m B:gQ}{i:Int}{t:fR}{x:bF}{ev:bU}(h:nM N m i=some (B,ev))(ht:m.l[i.toNat]?=some t)(J:¬ t.fault≠0)(I:gP t=some x)(E:¬ (dJ m t i x).1.fault=0) :
  B={ (dJ m t i x).1 with l:=(dJ m t i x).1.l.set i.toNat (dJ m t i x).2.1}/\ev={ (dJ m t i x).2.2 with t:=i}:=by
 unfold nM at h;rw[ht]at h;dsimp only at h;rw[fU J,I]at h;dsimp only at h;rw[fU E]at h
 have:=qa.inj h
 exact⟨(hM ada this).symm,(hM adg this).symm⟩
def adt:List Int:=[]++[2]++[3]++[5]++[6]++[7]++[4]++[8]++[9]++[10]
def Uf(g:Nat):Value:=.func (.func g) #[] #[]
def adu:List Value:=[]++[Uf 130]++[Uf 131]++[Uf 131]++[Uf 131]++[Uf 131]++[Uf 132]++[Uf 133]++[Uf 134]++[Uf 135]
def adv(K:jj)(p:Nat)(m:gQ)(n:Nat)(tp:Ptr)(t:fR)(i:Int)(x:bF)(I J:SV)(hk:2<=x.kind/\x.kind<=10)(O:t.buf.length<=1000)(M:ux m.mem)(U:MB m.mem 1000000)
  (V:x.kind=2\/x.kind=4->0<=x.a/\x.a<t.aJ.length) (W:x.kind=9\/x.kind=10->0<=x.b/\x.b<m.locks.length) (Vs:x.kind=3->0<=x.b/\x.b<m.u.lines.length) :
  ∃g,Go.Fw.look adt adu x.kind=some (Uf g)/\Plain ji g/\∀(F:Nat->Prop) (w:World),(sep (fO K tp.b m.room t) (m7 K p m n tp)).p w F->(∀w',js F w w'->K w')->
   Calls ji g [.pointer (some ⟨p,0,none⟩),.pointer (some ⟨tp.b,0,none⟩),jK i,j6 (⟨x.kind,x.a,x.b,I,J,x.to⟩:bN)].toArray w
    (qZ λv w'=>v=j6 (dJ m t i x).2.2/\pk F (sep (fO K tp.b (dJ m t i x).1.room (dJ m t i x).2.1) (m7 K p (dJ m t i x).1 n tp)) w w'):=by
 have hr:=BL (m:=m) (t:=t) (i:=i) (x:=x)
 rw[hr]
 obtain h|h|h|h|h|h|h|h|h:x.kind=2\/x.kind=3\/x.kind=4\/x.kind=5\/x.kind=6\/x.kind=7\/x.kind=8\/x.kind=9\/x.kind=10:=cW
 .exact⟨130,by rw[h];rfl,ati,λF w E B=>by
   have e:dJ m t i x=(m,loadT m t x,JZ m t x):=by unfold dJ;rw[fV h]
   rw[e];exact C130 K p m n tp t i x I J F w E B O M U (V (.inl h))⟩
 .exact⟨131,by rw[h];rfl,Vx,λF w E B=>by
   have e:dJ m t i x=(m,uy m t x,zI m t x):=by unfold dJ;simp[h]
   rw[e];exact C131 K p m n tp t i x I J F w E B O M U (.inl h) Vs⟩
 .exact⟨132,by rw[h];rfl,atj,λF w E B=>by
   have e:dJ m t i x=(AX m t x,casT m t x,N8 m t x):=by unfold dJ;simp[h]
   rw[e];exact C132 K p m n tp t i x I J F w E B O M U (V (.inr h))⟩
 .exact⟨131,by rw[h];rfl,Vx,λF w E B=>by
   have e:dJ m t i x=(m,uy m t x,zI m t x):=by unfold dJ;simp[h]
   rw[e];exact C131 K p m n tp t i x I J F w E B O M U (.inr (.inl h)) Vs⟩
 .exact⟨131,by rw[h];rfl,Vx,λF w E B=>by
   have e:dJ m t i x=(m,uy m t x,zI m t x):=by unfold dJ;simp[h]
   rw[e];exact C131 K p m n tp t i x I J F w E B O M U (.inr (.inr (.inl h))) Vs⟩
 .exact⟨131,by rw[h];rfl,Vx,λF w E B=>by
   have e:dJ m t i x=(m,uy m t x,zI m t x):=by unfold dJ;simp[h]
   rw[e];exact C131 K p m n tp t i x I J F w E B O M U (.inr (.inr (.inr h))) Vs⟩
 .exact⟨133,by rw[h];rfl,atk,λF w E B=>by
   have e:dJ m t i x=(m,t,⟨7,0,0,0,0⟩):=by unfold dJ;simp[h]
   rw[e];exact C133 K p m n tp t i x I J F w E B O M U⟩
 .exact⟨134,by rw[h];rfl,atl,λF w E B=>by
   have e:dJ m t i x=(Cm m i x,t,⟨10,0,x.b,0,0⟩):=by unfold dJ;simp[h]
   rw[e];exact C134 K p m n tp t i x I J F w E B O M U (W (.inl h))⟩
 exact⟨135,by rw[h];rfl,atm,λF w E B=>by
  have e:dJ m t i x=(sr m i x,t,Cn m i x):=by unfold dJ;simp[h]
  rw[e];exact C135 K p m n tp t i x I J F w E B O M U (W (.inr h))⟩
theorem adw{k:Int}{g:Nat}{z:Value}(h:Go.Fw.look adt adu k=some (Uf g)):(Go.Fw.look ([]++[2]++[3]++[5]++[6]++[7]++[4]++[8]++[9]++[10]) ([]++[Ao (.func 130) #[] #[]]++[Ao (.func 131) #[] #[]]++[Ao (.func 131) #[] #[]]++[Ao (.func 131) #[] #[]]++[Ao (.func 131) #[] #[]]++[Ao (.func 132) #[] #[]]++[Ao (.func 133) #[] #[]]++[Ao (.func 134) #[] #[]]++[Ao (.func 135) #[] #[]]) k).getD z=Uf g:=by
 have h2:Go.Fw.look ([]++[2]++[3]++[5]++[6]++[7]++[4]++[8]++[9]++[10]) ([]++[Ao (.func 130) #[] #[]]++[Ao (.func 131) #[] #[]]++[Ao (.func 131) #[] #[]]++[Ao (.func 131) #[] #[]]++[Ao (.func 131) #[] #[]]++[Ao (.func 132) #[] #[]]++[Ao (.func 133) #[] #[]]++[Ao (.func 134) #[] #[]]++[Ao (.func 135) #[] #[]]) k=some (Uf g):=h
 rw[h2];rfl
def C62(K:jj)(p:Nat)(m:gQ)(q:dY)(qv:dN)(t:fR)(F:Nat->Prop)(w:World)(hF:(fN K p m).p w F)(hK:∀w',js F w w'->K w')(iS:nL m)(ni:MB m.mem 1000000)(hq:py w qv q)(h0:0<=q.t)(ht:m.l[q.t.toNat]?=some t):CR 62 [(.pointer (some ⟨p,0,none⟩)),j6 qv] w (λv w'=>v=j6 (oQ q.t (dK t.buf q.i))/\pk F (fN K p (lf m t q)) w w'):=by
 have B:=St.begin hF;obtain⟨a,E,B⟩:=fN.open B;have lu:=B.p4.jy;obtain⟨WY,rfl,aiK⟩:=hq;have zV:=(iS.th t (ld ht)).bl;have pF:=(l0.1 ht).1;refine am6 _ _ _ _ ?_;unfold S62;refine cU B (λwu _ B=>aR B kV λxZ _ B=>?_);refine⟨_,?_,λ_ _ h=>h⟩;refine aD (aA lE (have B:=B.drew;aB tB B.p2.hb rfl (aA jw (aB (v:=jK q.t) aV B.p1.hb rfl ?_))));obtain⟨jm,cP⟩:=gx a.ps (i:=q.t.toNat) cW;refine cH B.p5 ui cW cW (λ_ kr=>eK B.p5 Dy kr cP ?_)
 have B:=ado B.p6 cP ht;obtain⟨bp,gl,rg,cn,mI,B⟩:=fO.open B;refine aD (aA pL (aB vm B.hb rfl (aA rh (aB (v:=jK q.i) aV B.p6.hb rfl ⟨?_,⟨?_,?_⟩⟩))))
 .refine bI akd B.p1 (H':=λ_=>kC bp m.room (kR t.buf q.i)) (Φ:=λv _=>v=.tuple #[j6 (dK t.buf q.i),jK (AS t.buf q.i)]) (λV O eO=>?_) ?_
  .exact C127 bp m.room t.buf q.i V _ O cW
  rintro _ _ rfl B;refine bD rfl (bD rfl (aR B tf λpq _ B=>?_));refine⟨aG tB (B.p8.hb.cell rfl),?_⟩;refine⟨aG aV (B.p7.hb.cell rfl),?_⟩;refine⟨VX B.p11 Dy kr cP,?_⟩;refine⟨aG vm (B.p2.hb.cell rfl),?_⟩;refine⟨aG aV (B.p7.hb.cell rfl),?_⟩;refine aO (x:=(dK t.buf q.i)) B iI rfl rfl (λ_ B=>?_);intro qk;refine aA iJ (aB (v:=jK ((dK t.buf q.i).kind)) aV B.hb rfl (aH (aC (λM=>?_) λM=>aH (aC (λW=>?_) λW=>?_))))
  .refine aD (aA l8 (have B:=B.drew;aB wF B.p8.hb rfl (aA ma (aB (v:=jK ((dK t.buf q.i).cell)) aV B.hb rfl (aA mc (aB (v:=jK ((dK t.buf q.i).n)) aV B.hb rfl (bI aaw B.p9 (H':=λ_=>iw a.q a.ov a.fv (gF m.mem (dK t.buf q.i).cell (dK t.buf q.i).n)) (Φ:=λ_ _=>True) (λV O eO=>?_) ?_)))))))
   .exact(C128 a.q a.ov a.fv m.mem V _ _ _ O (λw' hc=>E.mem _ (hK w' (eO w' hc).aE)) iS.mem ni).mono λ_ _ r=>r.mono λ_ _ h=>⟨trivial,h.2⟩
   rintro _ ZQ _ B;refine aA jw (aB (v:=jK q.t) aV B.p8.hb rfl (aA ma (aB (v:=jK ((dK t.buf q.i).cell)) aV B.p1.hb rfl (aA mc (aB (v:=jK ((dK t.buf q.i).n)) aV B.p1.hb rfl (pop (xe _ _ _ _) (aO (x:=(⟨12,q.t,(dK t.buf q.i).cell,(dK t.buf q.i).n,0⟩:bU)) B.p7 eV rfl rfl λw11 B=>aF eV B.At ?_)))))));have B:=(fO.shut (room:=m.room) (t:={t with buf:=kR t.buf q.i}) mI B.p6.p6.p5.p6).p4;have B:=St.nY (H:=tY K m.room) (x:={t with buf:=kR t.buf q.i}) B.p1 (by have:=(l0.1 ht).1;omega) lu cP
   have J:ir m.mem (dK t.buf q.i)=gF m.mem (dK t.buf q.i).cell (dK t.buf q.i).n:=by unfold ir;rw[fV M]
   have U:oQ q.t (dK t.buf q.i)=⟨12,q.t,(dK t.buf q.i).cell,(dK t.buf q.i).n,0⟩:=by unfold oQ;rw[fV M]
   have B:=(show St w F (cI p (mz a (lf m t q))::iw a.q a.ov a.fv (lf m t q).mem::_) _ from by unfold lf;rw[J];exact B.p7.p7.p4.p7);have B:=fN.shut (m:=lf m t q) ⟨E.ln,E.cl,E.rc,λw I=>by show yj _ _ (ir m.mem _) w;rw[J];first|exact E.mem w I|exact(E.mem w I).write|exact(E.mem w I).out⟩ B;have B:=B.p1.drop.p1.drop.p1.drop;refine⟨?_,B.mut⟩;rw[U]
  .refine aA jw (aB (v:=jK q.t) aV B.p7.hb rfl (pop (Br _ _) (aO (x:=(⟨14,q.t,0,0,0⟩:bU)) B.p6 eV rfl rfl λw12 B=>aF eV B.At ?_)));have B:=(fO.shut (room:=m.room) (t:={t with buf:=kR t.buf q.i}) mI B.p5.p5.p4.p5).p3;have B:=St.nY (H:=tY K m.room) (x:={t with buf:=kR t.buf q.i}) B.p1 (by have:=(l0.1 ht).1;omega) lu cP;have J:ir m.mem (dK t.buf q.i)=m.mem:=by unfold ir;rw[fU M,fV W]
   have U:oQ q.t (dK t.buf q.i)=⟨14,q.t,0,0,0⟩:=by unfold oQ;rw[fU M,fV W]
   have B:=(show St w F (cI p (mz a (lf m t q))::iw a.q a.ov a.fv (lf m t q).mem::_) _ from by unfold lf;rw[J];exact B.p7.p7.p7.p7);have B:=fN.shut (m:=lf m t q) ⟨E.ln,E.cl,E.rc,λw I=>by show yj _ _ (ir m.mem _) w;rw[J];first|exact E.mem w I|exact(E.mem w I).write|exact(E.mem w I).out⟩ B;have B:=B.p1.drop.p1.drop.p1.drop;refine⟨?_,B.mut⟩;rw[U]
  refine aD (aA l8 (have B:=B.drew;aB wF B.p8.hb rfl (aA ix (aB (v:=jK ((dK t.buf q.i).line)) aV B.hb rfl (bI ake B.p9 (H':=λ_=>iw a.q a.ov a.fv (sR m.mem (dK t.buf q.i).line)) (Φ:=λ_ _=>True) (λV O eO=>?_) ?_)))))
  .exact(C129 a.q a.ov a.fv m.mem V _ _ O (λw' hc=>E.mem _ (hK w' (eO w' hc).aE)) iS.mem ni).mono λ_ _ r=>r.mono λ_ _ h=>⟨trivial,h.2⟩
  rintro _ w13 _ B;refine aA jw (aB (v:=jK q.t) aV B.p8.hb rfl (aA ix (aB (v:=jK ((dK t.buf q.i).line)) aV B.p1.hb rfl (pop (qL _ _ _) (aO (x:=(⟨13,q.t,(dK t.buf q.i).line,0,0⟩:bU)) B.p7 eV rfl rfl λON B=>aF eV B.At ?_)))));have B:=(fO.shut (room:=m.room) (t:={t with buf:=kR t.buf q.i}) mI B.p6.p6.p5.p6).p4;have B:=St.nY (H:=tY K m.room) (x:={t with buf:=kR t.buf q.i}) B.p1 (by have:=(l0.1 ht).1;omega) lu cP;have J:ir m.mem (dK t.buf q.i)=sR m.mem (dK t.buf q.i).line:=by unfold ir;rw[fU M,fU W]
  have U:oQ q.t (dK t.buf q.i)=⟨13,q.t,(dK t.buf q.i).line,0,0⟩:=by unfold oQ;rw[fU M,fU W]
  have B:=(show St w F (cI p (mz a (lf m t q))::iw a.q a.ov a.fv (lf m t q).mem::_) _ from by unfold lf;rw[J];exact B.p7.p7.p4.p7);have B:=fN.shut (m:=lf m t q) ⟨E.ln,E.cl,E.rc,λw I=>by show yj _ _ (ir m.mem _) w;rw[J];first|exact E.mem w I|exact(E.mem w I).write|exact(E.mem w I).out⟩ B;have B:=B.p1.drop.p1.drop.p1.drop;refine⟨?_,B.mut⟩;rw[U]
 .refine aR B tf (λaF4 _ B=>?_);refine⟨aG tB (B.p8.hb.cell rfl),?_⟩;refine⟨aG aV (B.p7.hb.cell rfl),?_⟩;refine⟨VX B.p11 Dy kr cP,?_⟩;refine⟨aG vm (B.p1.hb.cell rfl),?_⟩;refine⟨aG aV (B.p7.hb.cell rfl),?_⟩;refine bI akd B.p2 (H':=λ_=>kC bp m.room (kR t.buf q.i)) (Φ:=λv _=>v=.tuple #[j6 (dK t.buf q.i),jK (AS t.buf q.i)]) (λV O eO=>?_) ?_
  .exact C127 bp m.room t.buf q.i V _ O cW
  rintro _ _ rfl B;refine bD rfl (bD rfl (aO (x:=(dK t.buf q.i)) B.p1 iI rfl rfl λ_ B=>?_));intro qk;refine aA iJ (aB (v:=jK ((dK t.buf q.i).kind)) aV B.hb rfl (aH (aC (λM=>?_) λM=>aH (aC (λW=>?_) λW=>?_))))
  .refine aD (aA l8 (have B:=B.drew;aB wF B.p8.hb rfl (aA ma (aB (v:=jK ((dK t.buf q.i).cell)) aV B.hb rfl (aA mc (aB (v:=jK ((dK t.buf q.i).n)) aV B.hb rfl (bI aaw B.p9 (H':=λ_=>iw a.q a.ov a.fv (gF m.mem (dK t.buf q.i).cell (dK t.buf q.i).n)) (Φ:=λ_ _=>True) (λV O eO=>?_) ?_)))))))
   .exact(C128 a.q a.ov a.fv m.mem V _ _ _ O (λw' hc=>E.mem _ (hK w' (eO w' hc).aE)) iS.mem ni).mono λ_ _ r=>r.mono λ_ _ h=>⟨trivial,h.2⟩
   rintro _ ZQ _ B;refine aA jw (aB (v:=jK q.t) aV B.p8.hb rfl (aA ma (aB (v:=jK ((dK t.buf q.i).cell)) aV B.p1.hb rfl (aA mc (aB (v:=jK ((dK t.buf q.i).n)) aV B.p1.hb rfl (pop (xe _ _ _ _) (aO (x:=(⟨12,q.t,(dK t.buf q.i).cell,(dK t.buf q.i).n,0⟩:bU)) B.p7 eV rfl rfl λw11 B=>aF eV B.At ?_)))))));have B:=(fO.shut (room:=m.room) (t:={t with buf:=kR t.buf q.i}) mI B.p6.p6.p5.p6).p4;have B:=St.nY (H:=tY K m.room) (x:={t with buf:=kR t.buf q.i}) B.p1 (by have:=(l0.1 ht).1;omega) lu cP
   have J:ir m.mem (dK t.buf q.i)=gF m.mem (dK t.buf q.i).cell (dK t.buf q.i).n:=by unfold ir;rw[fV M]
   have U:oQ q.t (dK t.buf q.i)=⟨12,q.t,(dK t.buf q.i).cell,(dK t.buf q.i).n,0⟩:=by unfold oQ;rw[fV M]
   have B:=(show St w F (cI p (mz a (lf m t q))::iw a.q a.ov a.fv (lf m t q).mem::_) _ from by unfold lf;rw[J];exact B.p7.p7.p4.p7);have B:=fN.shut (m:=lf m t q) ⟨E.ln,E.cl,E.rc,λw I=>by show yj _ _ (ir m.mem _) w;rw[J];first|exact E.mem w I|exact(E.mem w I).write|exact(E.mem w I).out⟩ B;have B:=B.p1.drop.p1.drop.p1.drop;refine⟨?_,B.mut⟩;rw[U]
  .refine aA jw (aB (v:=jK q.t) aV B.p7.hb rfl (pop (Br _ _) (aO (x:=(⟨14,q.t,0,0,0⟩:bU)) B.p6 eV rfl rfl λw12 B=>aF eV B.At ?_)));have B:=(fO.shut (room:=m.room) (t:={t with buf:=kR t.buf q.i}) mI B.p5.p5.p4.p5).p3;have B:=St.nY (H:=tY K m.room) (x:={t with buf:=kR t.buf q.i}) B.p1 (by have:=(l0.1 ht).1;omega) lu cP;have J:ir m.mem (dK t.buf q.i)=m.mem:=by unfold ir;rw[fU M,fV W]
   have U:oQ q.t (dK t.buf q.i)=⟨14,q.t,0,0,0⟩:=by unfold oQ;rw[fU M,fV W]
   have B:=(show St w F (cI p (mz a (lf m t q))::iw a.q a.ov a.fv (lf m t q).mem::_) _ from by unfold lf;rw[J];exact B.p7.p7.p7.p7);have B:=fN.shut (m:=lf m t q) ⟨E.ln,E.cl,E.rc,λw I=>by show yj _ _ (ir m.mem _) w;rw[J];first|exact E.mem w I|exact(E.mem w I).write|exact(E.mem w I).out⟩ B;have B:=B.p1.drop.p1.drop.p1.drop;refine⟨?_,B.mut⟩;rw[U]
  refine aD (aA l8 (have B:=B.drew;aB wF B.p8.hb rfl (aA ix (aB (v:=jK ((dK t.buf q.i).line)) aV B.hb rfl (bI ake B.p9 (H':=λ_=>iw a.q a.ov a.fv (sR m.mem (dK t.buf q.i).line)) (Φ:=λ_ _=>True) (λV O eO=>?_) ?_)))))
  .exact(C129 a.q a.ov a.fv m.mem V _ _ O (λw' hc=>E.mem _ (hK w' (eO w' hc).aE)) iS.mem ni).mono λ_ _ r=>r.mono λ_ _ h=>⟨trivial,h.2⟩
  rintro _ w13 _ B;refine aA jw (aB (v:=jK q.t) aV B.p8.hb rfl (aA ix (aB (v:=jK ((dK t.buf q.i).line)) aV B.p1.hb rfl (pop (qL _ _ _) (aO (x:=(⟨13,q.t,(dK t.buf q.i).line,0,0⟩:bU)) B.p7 eV rfl rfl λON B=>aF eV B.At ?_)))));have B:=(fO.shut (room:=m.room) (t:={t with buf:=kR t.buf q.i}) mI B.p6.p6.p5.p6).p4;have B:=St.nY (H:=tY K m.room) (x:={t with buf:=kR t.buf q.i}) B.p1 (by have:=(l0.1 ht).1;omega) lu cP;have J:ir m.mem (dK t.buf q.i)=sR m.mem (dK t.buf q.i).line:=by unfold ir;rw[fU M,fU W]
  have U:oQ q.t (dK t.buf q.i)=⟨13,q.t,(dK t.buf q.i).line,0,0⟩:=by unfold oQ;rw[fU M,fU W]
  have B:=(show St w F (cI p (mz a (lf m t q))::iw a.q a.ov a.fv (lf m t q).mem::_) _ from by unfold lf;rw[J];exact B.p7.p7.p4.p7);have B:=fN.shut (m:=lf m t q) ⟨E.ln,E.cl,E.rc,λw I=>by show yj _ _ (ir m.mem _) w;rw[J];first|exact E.mem w I|exact(E.mem w I).write|exact(E.mem w I).out⟩ B;have B:=B.p1.drop.p1.drop.p1.drop;refine⟨?_,B.mut⟩;rw[U]
 trivial
def C63(K:jj)(p:Nat)(m:gQ)(N:Nat)(i:Int)(t:fR)(m2:gQ)(ev:bU)(F:Nat->Prop)(w:World)(hF:(fN K p m).p w F)(W:∀w',js F w w'->K w')(E:nL m)(ni:MB m.mem 1000000)(h0:0<=i)(ht:m.l[i.toNat]?=some t)(qe:nM N m i=some (m2,ev)):CR 63 [(.pointer (some ⟨p,0,none⟩)),jK i] w (λv w'=>v=j6 ev/\pk F (fN K p m2) w w'):=by
 have B:=St.begin hF;obtain⟨a,O,B⟩:=fN.open B;have lu:=B.p4.jy;have V:=ld ht;have M:=E.th t V;have pF:=(l0.1 ht).1;refine am7 _ _ _ _ ?_;unfold S63;refine aR B kV (λxZ _ B=>aD (aA lE (aB tB B.p1.hb rfl ?_)));obtain⟨J,jl⟩:=gx a.ps (i:=(i).toNat) cW;refine cH B.p4 ui cW cW (λ_ pS=>eK B.p4 Dy pS jl ?_);have B:=ado B.p5 jl ht;obtain⟨bp,gl,rg,cn,mI,B⟩:=fO.open B;refine aD (aA xJ (aB aV B.hb rfl (bQ (aC (λU=>?_) λU=>?_))))
 .refine aD (aA xJ (aB aV B.hb rfl (aD (aA rj (aS B.p6 aV (dV rfl) (rfl) λ_ B=>aD (aA HW (aS B aV (dV rfl) (rfl) λ_ B=>aD (aA xJ (aB aV B.p1.hb rfl (pop (qL _ _ _) ?_))))))))));refine aO (x:=(⟨16,i,t.fault,0,0⟩:bU)) B.p6 eV rfl rfl (λ_ B=>aF eV B.At ?_);have B:=St.nY (H:=tY K m.room) (x:=t) (((fO.shut (room:=m.room) (t:=t) mI B.p5.p5.p5.p5).p3).p1) (by have:=(l0.1 ht).1;omega) lu jl;rw[o0 ht]at B;have B:=fN.shut (m:={m with fault:=t.fault,iP:=i}) ⟨O.ln,O.cl,O.rc,O.mem⟩ B.p5.p5.p5.p5
  have B:=B.p1.drop;obtain⟨rfl,rfl⟩:=zo qe ht U;exact⟨rfl,B.mut⟩
 have B:=fO.shut (room:=m.room) (t:=t) mI B.p3.p3.p3.p3;obtain⟨x,I⟩:=zp qe ht U;refine eR afO (C65 K J.b m.room t _ B.has (W _ B.aE) M) ?_;rintro v41 _ hh;obtain⟨x2,xv,aF5,hxv,rfl,he⟩:=hh.resolve_left (λh=>by rw[I]at h;cases h.1);obtain rfl:x=x2:=qa.inj (I.symm.trans aF5);have B:=B.ext he;have Le:=o9 I;obtain⟨ge,gf,rfl,_,_⟩:=hxv _ (W _ B.aE);have hkd:=E.st t V x I cW;refine bD rfl (bD rfl (aR B j7 λLa _ B=>have B:=B.enc (cs':=kp (⟨0,0,0,bL,bL,0⟩:bN)) rfl;aO (x:=(⟨x.kind,x.a,x.b,ge,gf,x.to⟩:bN)) B gN rfl rfl λ_ B=>AT B λb_x44 _ B=>j1 B Tryz.underlying211 sD dO λ_ B=>j1 B Tryz.underlying211 sD dO λ_ B=>j1 B Tryz.underlying211 sD dO λ_ B=>j1 B Tryz.underlying211 sD dO λ_ B=>j1 B Tryz.underlying211 sD dO λ_ B=>j1 B Tryz.underlying211 sD dO λ_ B=>j1 B Tryz.underlying211 sD dO λ_ B=>j1 B Tryz.underlying211 sD dO λ_ B=>?_))
 refine j1 B Tryz.underlying211 sD dO (λ_ B=>aA eA (aB (v:=jK x.kind) aV B.p1.hb rfl ?_));have hrl:=M.rg;have Ln:=E.lk;obtain⟨g,axM,uf,oo⟩:=adv K p m i.toNat J t i x ge gf hkd M.bl E.mem ni (λh=>by have:=E.al2 t V x Le.1 h;omega) (λh=>by have:=E.lkb t V x Le.1 h;omega) (E.lnb t V x Le.1);refine⟨_,sP B.Eg Tryz.underlying211 sD ag4,?_⟩;rw[adw axM];refine aF gN B.p1.At (have B:=m7.shut (m:=m) (⟨O,jl,lu,cW⟩) B.p3.p8.p8.p8.p8;have B:=St.join B.p3;adf (first:=[]) (cap:=[]) uf B (H':=λ_=>sep (fO K J.b (dJ m t i x).1.room (dJ m t i x).2.1) (m7 K p (dJ m t i x).1 i.toNat J)) (Φ:=λv _=>v=j6 (dJ m t i x).2.2) (λF2 fz eO=>?_) ?_)
 .exact oo F2 _ fz (λw' hc=>W w' (eO w' hc).aE)
 rintro _ _ rfl B;refine aR B kV (λb_e9 _ B=>aO (x:=(dJ m t i x).2.2) B eV rfl rfl λ_ B=>aA agV (aS B aV (dV rfl) (rfl) λ_ B=>?_));have B:=B.enc (cs':=kp ({ (dJ m t i x).2.2 with t:=i}:bU)) rfl;refine⟨_,?_,λ_ h=>h⟩;refine aD ?_;have B:=B.p1.split.p1;obtain⟨a2,hx,B⟩:=m7.open B;refine aA rj (aB aV B.hb rfl (aH (aC (λmC=>?_) λmC=>?_)))
 .have B:=m7.shut (m:=(dJ m t i x).1) hx B.p4.p4.p4.p4.p4;obtain⟨t2,hg,rfl,rfl⟩:=zq qe ht U I mC;have vG:(dJ m t i x).2.1.at_=t.at_:=Eu;have GG:=M.code.len;have aFW:=M.Sv;have B:=B.p1;obtain⟨bp,gl,rg,cn,mI,B⟩:=fO.open B;refine aD (aA mP (aB aV B.hb rfl (aN cW (aD (aA mP (aS B aV (dV rfl) (rfl) λ_ B=>?_))))));have B:=fO.shut (room:=(dJ m t i x).1.room) (t:=(⟨(dJ m t i x).2.1.code,((dJ m t i x).2.1.at_+1),(dJ m t i x).2.1.aJ,(dJ m t i x).2.1.counts,(dJ m t i x).2.1.fault,(dJ m t i x).2.1.e,(dJ m t i x).2.1.f,(dJ m t i x).2.1.buf⟩:fR)) mI B.p3.p3.p3.p3
  have m6:=N9 (m:=m) (t:=t) (i:=i) (x:=x) M E.rm.2;have Ug:JR { (dJ m t i x).2.1 with at_:=(dJ m t i x).2.1.at_+1}:=⟨m6.code,m6.rg,m6.cn,by dsimp only;omega,m6.bl⟩;refine bI aj9 B (H':=λ_=>fO K J.b (dJ m t i x).1.room t2) (Φ:=λ_ _=>True) (λF2 fz eO=>?_) ?_
  .exact(C122 K J.b (dJ m t i x).1.room { (dJ m t i x).2.1 with at_:=(dJ m t i x).2.1.at_+1} t2 N F2 _ fz (λw' hc=>W w' (eO w' hc).aE) Ug hg).mono λ_ _ r=>r.mono λ_ _ h=>⟨trivial,h.2⟩
  rintro _ _ _ B;intro qk;exact aF eV B.p2.At (aO (x:=({ (dJ m t i x).2.2 with t:=i}:bU)) B.p5 eV rfl rfl λ_ B=>aF eV B.At (have B:=((((((((Ro B.p2.p2).p1).drop).p1).drop).p1).drop).p1).drop;⟨rfl,B.mut⟩))
 intro qk;refine aF eV B.p6.At (aO (x:=({ (dJ m t i x).2.2 with t:=i}:bU)) B.p9 eV rfl rfl λw25 B=>aF eV B.At ?_);have B:=((((Ro ((m7.shut (m:=(dJ m t i x).1) hx B.p5.p5.p5.p5.p5).p2)).p1).drop).p1).drop;have B:=B.p1.drop.p1.drop;obtain⟨rfl,rfl⟩:=zs qe ht U I mC;exact⟨rfl,B.mut⟩
end Go.Proofs.YtnjcingfdhjfkaaGreat
namespace Go.Fw
def Dc(F:Nat->Prop)(w0 w':World):Prop:=∀b,F b->w'.heap[b]?=w0.heap[b]?
section
variable {α σ:Type}[Flat σ] [D:Deep α σ] {w w0:World}{A F:Nat->Prop}{L:List HP}{v:Value}{xs:List α}{ts us:List σ}
theorem St.al9{Φ:jj}(B:St w0 A (Fw.fB Φ::L) w):∃F,St w0 A (Fw.fB (Dc F w)::L) w/\∀w',Dc F w w'->Φ w':=by
 obtain⟨U,F,I,E,V,O,M,J⟩:=B.xa
 exact⟨F,⟨B.aE,U,F,I,⟨λw' h=>h,E.2⟩,V,O,M,J⟩,λw' h=>E.1 w' h⟩
theorem Dc.refl(F:Nat->Prop)(w:World):Dc F w w:=λ_ _=>rfl
theorem Rw(B:∀x y:σ,kp x=kp y->x=y):∀{ts us:List σ},ts.length=us.length->flat ts=flat us->ts=us
 | [],[],_,_=>rfl
 | t::ts,u::us,hl,h=>by
  rw[ly,ly]at h
  have:=List.append_inj h (by rw[yE,yE])
  rw[B _ _ this.1,Rw B eS this.2]
 | [],_::_,hl,_=>by simp at hl
 | _::_,[],hl,_=>by simp at hl
theorem eN.func{S V:Nat->Prop}(B:∀x y:σ,kp x=kp y->x=y)(h:eN S w v ts)(W:eN V w v us):ts=us:=by
 obtain⟨a,cap,rfl,hc,h3⟩:=h
 obtain⟨a',Nf,U,hc',I⟩:=W
 simp only[HJ.injEq]at U
 obtain⟨rfl,O,rfl⟩:=U
 refine Rw B O (List.ext_getElem? λj=>?_)
 have F3:(flat ts).length=(flat us).length:=by rw[dU,dU,O]
 by_cases hj:j<(flat ts).length
 .have J:j<(flat us).length:=cW
  rcases h3 with⟨rfl,_⟩|⟨b,o,rfl,_,h5⟩
  .grind
  rcases I with⟨rfl,_⟩|⟨b',o',M,_,E⟩
  .grind
  simp only[qa.injEq,Addr.mk.injEq,and_true]at M
  obtain⟨rfl,rfl⟩:=M
  have c1:=h5 j _ (nT hj)
  have c2:=E j _ (nT J)
  unfold Cell at c1 c2
  grind
 grind
theorem Dc.rd(h:∀w',Dc F w w'->DL w' v xs)(M:eN (λ_=>True) w v ts)(hn:ts.length=xs.length):∀w',Dc F w w'->eN (λ_=>True) w' v ts:=by
 intro w' W
 have hr0:=M
 obtain⟨a,cap,rfl,hc,h3⟩:=M
 rcases h3 with⟨h3,h4⟩|⟨b,o,rfl,h4,h5⟩
 .grind[eN]
 cases ts with
 | nil=>exact⟨_,cap,rfl,hc,.inr ⟨b,o,rfl,λh=>absurd rfl h,λj c E=>by simp[pG]at E⟩⟩
 | cons t ts=>
  by_cases hF:F b
  .exact⟨_,cap,rfl,hc,.inr ⟨b,o,rfl,λ_=>trivial,λj c E=>(h5 j c E).of_eq (W b hF)⟩⟩
  .exfalso
   have h6:DL (ChangeMaps.setBlock w b (.map #[] 0)) (.slice (some ⟨b,o,none⟩) (t::ts).length cap) xs:=h _ λb' U=>by
    simp only[ChangeMaps.setBlock];grind
   obtain⟨us,⟨a',Nf,O,_,V⟩,hul,_⟩:=h6
   simp only[HJ.injEq]at O
   obtain⟨rfl,J,rfl⟩:=O
   have GB:0<(flat us).length:=by rw[dU,<- J];exact adh eU (aaT (α:=σ))
   rcases V with⟨rfl,_⟩|⟨b',o',I,_,h8⟩
   .simp at J
   .simp only[qa.injEq,Addr.mk.injEq,and_true]at I
    obtain⟨rfl,rfl⟩:=I
    have B:=h8 0 _ (nT GB)
    have hb:=(h5 0 _ (nT (by rw[dU];exact adh eU (aaT (α:=σ))))).lt
    unfold Cell World.cell? at B
    dsimp only at B
    rw[oN _ hb]at B
    simp at B
theorem Dc.fix(B:∀x y:σ,kp x=kp y->x=y)(h:∀w',Dc F w w'->DL w' v xs):∃ts:List σ,ts.length=xs.length/\∀w',Dc F w w'->eN (λ_=>True) w' v ts/\jF ts xs w':=by
 obtain⟨ts,J,hd⟩:=(h w (Dc.refl F w)).open
 refine⟨ts,hd.1,λw' I=>?_⟩
 have h1:=Dc.rd h J hd.1 w' I
 obtain⟨us,E,M⟩:=(h w' I).open
 rw[eN.func B h1 E]at *
 grind
end
section
variable {P:Program}{T:Nat}{cx cy:Bool}{a b:Int}{K:Value->Prop}
theorem adx(h:0<=a-b/\a-b<=255)(k:K (.int .u8 (a-b))):eM P (lR .sub T cx cy (.int .u8 a) (.int .u8 b)) K:=
 ⟨_,(show pr P (lR .sub T cx cy (.int .u8 a) (.int .u8 b))=some (.int .u8 (a-b))from by
  show some (qs .u8 (IntKind.u8.wrap (a-b)))=_
  have:IntKind.u8.wrap (a-b)=a-b:=by
   unfold IntKind.wrap;simp[IntKind.bits,IntKind.signed];omega
  rw[this]),k⟩
theorem YM{src B:TypeId}(h1:P.underlying src=some (.int .u8))(h2:P.underlying B=some (.int .i64))(h:0<=a/\a<=255)(k:K (jK a)):eM P (convert src B (.int .u8 a)) K:=by
 refine⟨_,?_,k⟩
 unfold convert
 simp only[cX,dC h1,dC h2,Option.bind_some]
 show some (qs .i64 (IntKind.i64.wrap a))=_
 rw[IntWalk.i64_in _ cW]
end
end Go.Fw
namespace Go.Proofs.YtnjcingfdhjfkaaGreat
open Go.Fw
def oR(c:gp):fR:=⟨c,0,qU c.aJ.toNat 0,qU c.counts.toNat 0,0,0,0,[]⟩
def sU(N:Nat)(cs:List gp)(ts:List fR):Prop:=ts.length=cs.length/\∀(j:Nat) (c:gp) (t:fR),cs[j]?=some c->ts[j]?=some t->sB N (oR c)=some t
def Hh{c:gp}(h:AW c):JR (oR c):=⟨h,by have:=h.rb;simp[oR];omega,by have:=h.cb;simp[oR];omega,by simp[oR],by simp[oR]⟩
def aiP(K:jj)(E:List bY)(cs:List gp):Prop:=E.length=cs.length/\∀(j:Nat) (cv:bY) (c:gp),E[j]?=some cv->cs[j]?=some c->∃B:SV,cv=⟨c.aJ,c.counts,B⟩/\vY K (j6 B) c.l
def J1(x y:bY)(h:kp x=kp y):x=y:=by
 obtain⟨a,b,⟨c,d,e⟩⟩:=x;obtain⟨B,J,⟨I,M,E⟩⟩:=y;simp[kp]at h;simp[h]
def Rx(x y:bN)(h:kp x=kp y):x=y:=by
 obtain⟨a,b,c,⟨d,e,f⟩,⟨g,i,j⟩,k⟩:=x;obtain⟨O,b',W,⟨E,V,B⟩,⟨I,M,J⟩,U⟩:=y;simp[kp]at h;simp[h]
def Ev{F:Nat->Prop}{B:World}{E:Value}{l:List bF}(h:∀w',Dc F B w'->DL w' E l):vY (Dc F B) E l:=by
 obtain⟨ts,_,h2⟩:=Dc.fix Rx h;exact⟨ts,h2⟩
def jh(u:iz)(room:Int):gQ:=⟨u,room,N7 u.lines u.stays u.cO,[],[],0,0,0⟩
def j3(m:gQ)(ts:List fR):gQ:={m with locks:=qU m.u.locks.toNat (-1),l:=ts}
def ady{w w0:World}{A:Nat->Prop}{L:List HP}{p q:Nat}{u:iz}{room:Int}{sh:dH}{ov fv:SV}
  (hs:St w0 A (cI p (mz ⟨sh.lines,sh.cO,sh.threads,sh.recover.l,sh.cD,q,j6 ov,j6 fv,.slice none 0 0,.slice none 0 0,[]⟩ (jh u room)) ::
   iw q (j6 ov) (j6 fv) (N7 u.lines u.stays u.cO)::bE (j6 ov) (u.lines.take u.stays.toNat)::bE (j6 fv) u.cO::fB (λw=>py w sh u)::L) w) :
  ∃(K:jj) (J:List bY),St w0 A (fN K p (jh u room)::fB K::L) w/\(∀w,K w->eN (λ_=>True) w (j6 sh.threads) J)/\aiP K J u.threads:=by
 have h1:=hs.p2.freeze
 have h2:=h1.p3.freeze.p1.gU
 have h3:=h2.p3.p1.gU
 obtain⟨F,h4,h5⟩:=h3.al9
 have hd:∀w',Dc F w w'->py w' sh u:=λw' h=>by have:=h5 w' h;first|exact this.1|exact this.2|exact this.1.1|exact this.2.2
 have O:∀w',Dc F w w'->eN (λ_=>True) w' (j6 ov) (u.lines.take u.stays.toNat):=λw' h=>by have:=h5 w' h;first|exact this.1.1|exact this.1.2|exact this.2.1|exact this.2.2
 have U:∀w',Dc F w w'->eN (λ_=>True) w' (j6 fv) u.cO:=λw' h=>by have:=h5 w' h;first|exact this.1.1|exact this.1.2|exact this.2.1|exact this.2.2
 have hth:∀w',Dc F w w'->DL w' (j6 sh.threads) u.threads:=λw' h=>by obtain⟨_,_,_,_,_,e,I,V,M,E,B⟩:=hd w' h;rw[e];exact M
 obtain⟨J,GG,GH⟩:=Dc.fix J1 hth
 refine⟨Dc F w,J,?_,λw' h=>(GH w' h).1,GG,λj cv c h1 h2=>?_⟩
 .have h6:St w0 A (iU (tY (Dc F w) room) [] []::_) w:=h4.new (Ext.refl w) (F:=aY) (λ_ h=>h) λ_ h=>h.elim
  have h7:=((h6.gA (α:=Ptr)).gA (α:=Int))
  refine fN.shut (a:=⟨sh.lines,sh.cO,sh.threads,sh.recover.l,sh.cD,q,j6 ov,j6 fv,.slice none 0 0,.slice none 0 0,[]⟩) (m:=jh u room) ⟨λw' h=>?_,λw' h=>?_,Ev λw' h=>?_,λw' h=>⟨O w' h,U w' h⟩⟩ h7.p5.p5
  .obtain⟨_,_,_,_,_,e,I,V,M,E,B⟩:=hd w' h;rw[e];exact DL.flat I
  .obtain⟨_,_,_,_,_,e,I,V,M,E,B⟩:=hd w' h;rw[e];exact B
  obtain⟨_,_,_,_,_,e,I,V,M,E,B⟩:=hd w' h;rw[e]
  obtain⟨g,e2,q6⟩:=E;rw[e2];exact q6
 have W:∀w',Dc F w w'->py w' cv c:=λw' h=>(GH w' h).2.2 j cv c h1 h2
 obtain⟨gl,e,_⟩:=W w (Dc.refl F w)
 subst e
 exact⟨gl,rfl,Ev λw' h=>by obtain⟨gl',e,h6⟩:=W w' h;cases e;exact h6⟩
structure Mk(N:Nat)(u:iz)(mv:List fR):Prop where
 b:sU N u.threads mv
 co:∀c∈u.threads,AW c
 len:u.lines.length=u.cO.length
 l20:u.lines.length<=20
 st:0<=u.stays/\u.stays<=u.lines.length
 ln:∀(k:Nat) (n:Int),(k:Int)<u.stays->u.lines[k]?=some n->(n=kQ u.lines k\/(0<k/\n=kQ u.lines k-1))/\-10<=n/\n<=100
 lk:0<=u.locks/\u.locks<=1000
def C55(K:jj)(p:Nat)(m:gQ)(N:Nat)(M:List gp)(mv:List fR)(lv:Value)(U:List bY)(F:Nat->Prop)(w:World)(hF:(fN K p m).p w F)(hK:∀w',js F w w'->K w')(hrm:1<=m.room/\m.room<=16)(Ln:0<=m.u.locks/\m.u.locks<=1000)(hl:∀w',js F w w'->eN (λ_=>True) w' lv U)(GH:aiP K U M)(apX:∀c∈M,AW c)(hb:sU N M mv)(hn:M.length<=1000):CR 55 [(.pointer (some ⟨p,0,none⟩)),lv] w (λv w'=>v=.tuple #[]/\pk F (fN K p (j3 m mv)) w w'):=by
 have B:=St.begin hF;obtain⟨a,W,B⟩:=fN.open B;have lu:=B.p4.jy;have aF6:=GH.1;refine uT Tryz.func55 (pl:=P55) ?_;refine aD (aA lE (aS B tB (dV rfl) (rfl) λ_ B=>aD (aA ri (aS B cZ (dV rfl) (rfl) λ_ B=>aD (aA xI (aA uF (aB aV B.hb rfl ?_)))))));have B:=(((B.p3.drop.p3.drop.p2.drop.gA (α:=Int)).p2).p1).p2;refine⟨λV x w'=>∃(k:Nat) (ES:Value),x=jK (k:Int)/\V=m.u.locks.toNat-k/\k<=m.u.locks.toNat/\St w F [cI p (mz {a with lk:=ES,ll:=.slice none 0 0} m),bE ES (qU k (-1:Int)),iw a.q a.ov a.fv m.mem] w',⟨_,0,_,rfl,rfl,o6 _,B⟩,?_⟩
 rintro V _ _ ⟨k,ES,rfl,rfl,Z5,B⟩ _;refine aK (aC (λiM=>?_) λiM=>?_)
 .refine aD (aA ri (aB cZ B.hb rfl (bJ ([-1]:List Int) B cE rfl rfl (dV rfl) λQi _ B=>?_)));have xl:=B.fu;exact bW B.p2 cE xl (by rw[List.length_replicate,List.length_singleton];omega) dO (λaxN _ B=>have B:=B.p1.drop;aD (aA ri (aS B.p1 cZ (dV rfl) B.fu.one λ_ B=>aN cW (have B:=B.p2.p2.p2;⟨_,cW,k+1,axN,rfl,rfl,cW,by rw[List.replicate_succ'];exact B⟩))))
 refine aI wq (hl _ B.aE) ?_;have B:=B.p1;rw[show k=m.u.locks.toNat from cW]at B;have B:=((((((B.Ir (H:=tY K m.room)).gA (α:=Ptr)).p4).p3).p3).p3).p4;refine⟨λV x w'=>∃(j:Nat) (I:Value) (ps:List Ptr),x=jK (j:Int)/\V=U.length-j/\j<=U.length/\St w F [cI p (mz {a with lk:=ES,ll:=I} m),bE I ps,iU (tY K m.room) ps (mv.take j),bE ES (qU m.u.locks.toNat (-1:Int)),iw a.q a.ov a.fv m.mem] w',⟨_,0,_,_,rfl,rfl,o6 _,B⟩,?_⟩;rintro V _ _ ⟨j,I,ps,rfl,rfl,hj1,B⟩ _;refine aK (aC (λlj=>?_) λlj=>?_)
 .refine⟨_,?_,λ_ h=>h⟩;obtain⟨alQ,JD⟩:=gx U (i:=(j:Int).toNat) cW;refine aQ wq (hl _ B.aE) cW JD (λ_ ya=>?_);obtain⟨c,hc⟩:∃c,M[j]?=some c:=⟨_,nT (by have:=GH.1;omega)⟩;obtain⟨t1,J⟩:∃t,mv[j]?=some t:=⟨_,nT (by have:=GH.1;have:=hb.1;omega)⟩;have hg:=hb.2 j c t1 hc J;obtain⟨gl,E5,O⟩:=GH.2 j _ _ JD hc;subst E5;have Ua:=apX c (ld hc);have Mi:=Ua.rb;have hcb:=Ua.cb;refine aF og ya (aR B Nk λao2 _ B=>have B:=B.enc (cs':=kp (⟨0,0,bL⟩:bY)) rfl;aO (x:=(⟨c.aJ,c.counts,gl⟩:bY)) B og rfl rfl λ_ B=>aD (aA aaH (aB aV B.p1.hb rfl (eR as0 (C52 m.room _) ?_))))
  rintro v43 _ hh;obtain⟨_,_,b52,rfl,cJ⟩:=hh.resolve_left (λ_=>cW);have B:=B.made cJ;refine bD rfl (bD rfl ⟨λt8 w'=>∃E,t8=.pointer (some ⟨E,0,none⟩)/\St w F [fO K E m.room (oR c),cI ao2 (kp (⟨c.aJ,c.counts,gl⟩:bY)),cI p (mz {a with lk:=ES,ll:=I} m),bE I ps,iU (tY K m.room) ps (mv.take j),bE ES (qU m.u.locks.toNat (-1:Int)),iw a.q a.ov a.fv m.mem] w',have B:=B.drew;aF og B.p1.At (aA nq (aB (v:=jK c.aJ) aV B.p1.hb rfl (aA wE (aB (v:=jK c.counts) aV B.p1.hb rfl ⟨?_,⟨?_,?_⟩⟩)))),?_⟩)
  .refine pI (0:Int) B cE xH cW cW dO (λWp _ B=>?_);refine⟨eG og B.p2.At,?_⟩;refine⟨aG aV (B.p2.hb.cell rfl),?_⟩;refine pI (0:Int) B cE xH cW cW dO (λs_x53 _ B=>?_);refine⟨eG og B.p3.At,?_⟩;refine⟨aG aV (B.p3.hb.cell rfl),?_⟩;obtain⟨aF7,rfl⟩:=B.p1.gE;obtain⟨Uh,rfl⟩:=B.gE;exact pop (Ak _ _ _ _ _ _ _ _ _ _ _ _) (lC B λ_ _ B=>have B:=B.p9.p9.p9.p9.p9.p9.p7.p8.p9.p9;⟨_,rfl,fO.shut (t:=oR c) O B⟩)
  .refine pI (0:Int) B cE xH cW cW dO (λaAu _ B=>?_);refine⟨eG og B.p2.At,?_⟩;refine⟨aG aV (B.p2.hb.cell rfl),?_⟩;refine pI (0:Int) B cE xH cW cW dO (λaiQ _ B=>?_);refine⟨eG og B.p3.At,?_⟩;refine⟨aG aV (B.p3.hb.cell rfl),?_⟩;obtain⟨axO,rfl⟩:=B.gE;obtain⟨axP,rfl⟩:=B.p1.gE;exact pop (Ak _ _ _ _ _ _ _ _ _ _ _ _) (lC B λ_ _ B=>have B:=B.p9.p9.p9.p9.p9.p9.p8.p8.p9.p9;⟨_,rfl,fO.shut (t:=oR c) O B⟩)
  .trivial
  rintro _ _ ⟨E,rfl,B⟩ _;refine bI aj9 B (H':=λ_=>fO K E m.room t1) (Φ:=λ_ _=>True) (λF2 fz eO=>?_) ?_
  .exact(C122 K E m.room (oR c) t1 N F2 _ fz (λw' hc=>hK w' (eO w' hc).aE) (Hh Ua) hg).mono λ_ _ r=>r.mono λ_ _ h=>⟨trivial,h.2⟩
  rintro _ _ _ B;refine aD (aA lE ?_);have uf:=B.p4.jy;refine aB tB B.p2.hb rfl (bJ ([(⟨E⟩:Ptr)]) B ui rfl rfl (dV rfl) λadA _ B=>?_);have Ui:=B.fu;refine bW B.p4 ui Ui (by rw[oj]at uf;simp;omega) dO (λadB _ B=>have B:=B.p1.drop;aD (aA lE (aS B.p3 tB (dV rfl) B.fu.one λ_ B=>?_)));intro _;exact aN cW (have B:=(((((St.DG (H:=tY K m.room) (p:=⟨E⟩) (x:=t1) B.p2.p4).p3).drop).p4).p4).p2;have B:=B.p4.p4;⟨_,cW,j+1,adB,ps++[⟨E⟩],rfl,rfl,cW,by rw[<- ja (k:=j) J];exact B⟩)
 have B:=B.p2.p2.p3.p4.p4;rw[mE (by have:=hb.1;omega)]at B;exact⟨rfl,(fN.shut (m:=j3 m mv) (a:={a with lk:=ES,ll:=I,ps:=ps}) ⟨W.ln,W.cl,W.rc,W.mem⟩ B).mut⟩
def ig(m:gQ)(q:dY):Option (List Int):=if q.kind=3/\q.t=0/\q.i=0/\m.fault=0 then gW m.mem q.cut else none
def v8(m:gQ)(nx:List Int):gQ:={m with mem:=rU m.mem nx,cS:=m.cS+1}
def ET(N:Nat)(m:gQ)(q:dY):Option (gQ×bU×Int):=match ig m q with
 | some nx=>(sB N (oR m.u.recover)).map λt=>(j3 (v8 m nx) [t],⟨15,0,0,wR q.cut q.cut.length,0⟩,0)
 | none=>if (cT m).any (jo q)=true then
   (if q.kind=2 then(m.l[q.t.toNat]?).map λt=>(lf m t q,oQ q.t (dK t.buf q.i),0)else(nM N m q.t).map λr=>(r.1,r.2,0))
  else some (m,⟨0,0,0,0,0⟩,13)
section
variable {N:Nat}{m m2:gQ}{q:dY}{ev:bU}{e:Int}{nx:List Int}
theorem sV(h:ET N m q=some (m2,ev,e))(hc:ig m q=some nx):∃t,sB N (oR m.u.recover)=some t/\m2=j3 (v8 m nx) [t]/\ev=⟨15,0,0,wR q.cut q.cut.length,0⟩/\e=0:=by
 unfold ET at h;rw[hc]at h;dsimp only at h
 cases hg:sB N (oR m.u.recover)with
 | none=>rw[hg]at h;cases h
 | some t=>rw[hg]at h;cases h;exact⟨t,rfl,rfl,rfl,rfl⟩
theorem pa(h:ET N m q=some (m2,ev,e))(hc:ig m q=none)(B:¬ (cT m).any (jo q)=true):m2=m/\ev=⟨0,0,0,0,0⟩/\e=13:=by
 unfold ET at h;rw[hc]at h;dsimp only at h;rw[fU B]at h
 cases h;exact⟨rfl,rfl,rfl⟩
theorem rW{t:fR}(h:ET N m q=some (m2,ev,e))(hc:ig m q=none)(B:(cT m).any (jo q)=true)(E:q.kind=2)(ht:m.l[q.t.toNat]?=some t):m2=lf m t q/\ev=oQ q.t (dK t.buf q.i)/\e=0:=by
 unfold ET at h;rw[hc]at h;dsimp only at h;rw[fV B,fV E,ht]at h
 cases h;exact⟨rfl,rfl,rfl⟩
theorem oS(h:ET N m q=some (m2,ev,e))(hc:ig m q=none)(B:(cT m).any (jo q)=true)(E:¬ q.kind=2):nM N m q.t=some (m2,ev)/\e=0:=by
 unfold ET at h;rw[hc]at h;dsimp only at h;rw[fV B,fU E]at h
 cases hs:nM N m q.t with
 | none=>rw[hs]at h;cases h
 | some r=>rw[hs]at h;cases h;exact⟨rfl,rfl⟩
theorem wS{k:Nat}{x:dY}(h:x∈kf m k):∃i t,i<k/\m.l[i]?=some t/\x∈sS m i t:=by
 unfold kf at h
 rw[List.mem_flatMap]at h
 obtain⟨i,E,B⟩:=h
 cases ht:m.l[i]? with
 | none=>rw[ht]at B;cases B
 | some t=>rw[ht]at B;exact⟨i,t,List.mem_range.1 E,ht,B⟩
theorem Ry{i:Nat}{t:fR}{x:dY}(h:x∈sS m i t):x.t=i:=by
 unfold sS at h
 rw[List.mem_append]at h
 rcases h with h|h
 .split at h
  .simp at h;rw[h]
  cases h
 rw[List.mem_map]at h;obtain⟨_,_,rfl⟩:=h;rfl
theorem tZ(h:(cT m).any (jo q)=true):0<=q.t/\∃t,m.l[q.t.toNat]?=some t:=by
 rw[z6]at h
 obtain⟨x,B,E⟩:=h
 unfold cT at B
 split at B
 .cases B
 obtain⟨i,t,_,ht,I⟩:=wS B
 have h1:=Ry I
 unfold jo at E
 simp only[oG,decide_eq_true_eq]at E
 have:q.t=(i:Int):=cW
 rw[this];exact⟨cW,t,ht⟩
theorem qC(h:nL m):(cT m).length<=1001000:=by
 unfold cT;split
 .simp
 exact Nat.le_trans (tU h _) (Nat.mul_le_mul_right 1001 h.tl)
end
def adC(m:Mem)(cut:List Int)(v:Value)(m2:Mem):Prop:=(gW m cut=none/\m2=m/\v=jK 1)\/∃nx,gW m cut=some nx/\m2=rU m nx/\v=jK 0
def YN{m:Mem}{cut:List Int}{v:Value}{p:Nat}{ov fv:Value}{F:Nat->Prop}{w w':World}
  (h:(gW m cut=none/\v=jK 1/\pk F (iw p ov fv m) w w')\/∃nx,gW m cut=some nx/\v=jK 0/\pk F (iw p ov fv (rU m nx)) w w') :
  True/\pk F (uI λm2=>fact (adC m cut v m2) (iw p ov fv m2)) w w':=by
 refine⟨trivial,?_⟩
 rcases h with⟨h1,h2,B,h3,h4,h5⟩|⟨nx,h1,h2,B,h3,h4,h5⟩
 .exact⟨B,⟨m,.inl ⟨h1,rfl,h2⟩,h3⟩,h4,h5⟩
 exact⟨B,⟨rU m nx,.inr ⟨nx,h1,rfl,h2⟩,h3⟩,h4,h5⟩
def C15(u:iz)(uv:dH)(room:Int)(N:Nat)(mv:List fR)(w:World)(hu:py w uv u)(hz:UZ u)(hn:iY u=true->Mk N u mv):CR 15 [j6 uv,jK room] w (λv w'=>(iY u=false/\v=.tuple #[.pointer none,jK 8]/\Ext w w')\/(iY u=true/\(room<1\/16<room)/\v=.tuple #[.pointer none,jK 1]/\Ext w w')\/(iY u=true/\1<=room/\room<=16/\∃K p,v=.tuple #[.pointer (some ⟨p,0,none⟩),jK 0]/\mr (sep (fN K p (j3 (jh u room) mv)) (fB K)) w w')):=by
 obtain⟨fP,fx,dR,oJ,dX,rfl,V,U,gz,iq,iB⟩:=hu;obtain⟨O,rfl,fZ⟩:=iq;have B:=St.start w;refine lx Tryz.func15 ?_;refine cU B (λaF8 _ B=>aF tW B.At (aZ aBL B (C51 u _ _ ⟨fP,fx,dR,(⟨u.recover.aJ,u.recover.counts,O⟩:bY),dX,rfl,(V.ext B.aE),(U.ext B.aE),(gz.ext B.aE),⟨O,rfl,(fZ.ext B.aE)⟩,(iB.ext B.aE)⟩ hz) λ_ he B=>bV (aW (λM=>.inl ⟨by simpa using M,rfl,B.drop.aE⟩) λM=>?_)))
 have E:=hn (by simpa using M);refine eR as0 (C52 room _) ?_;rintro v_x14 _ apY
 rcases apY with⟨Mi,rfl,he⟩|⟨I,Lx,b52,rfl,J⟩
 .have B:=B.ext he;exact bD rfl (bD rfl (bQ (il dO (.inr (.inl ⟨by simpa using M,Mi,rfl,B.drop.aE⟩)))))
 have B:=B.made J;refine bD rfl (bD rfl (bQ (fI dO (aF tW B.p1.At (eR aBM (C53 u _ _ ⟨fP,fx,dR,(⟨u.recover.aJ,u.recover.counts,O⟩:bY),dX,rfl,(V.ext B.aE),(U.ext B.aE),(gz.ext B.aE),⟨O,rfl,(fZ.ext B.aE)⟩,(iB.ext B.aE)⟩ hz) ?_)))));rintro _ _ ⟨aF9,rfl,J⟩;have B:=B.made J;refine pop (SW _ _ _ _ _ _ _ _ _ _ _ _ _ _ _ _ _ _ _ _) (lC B λF9 _ B=>aA iD (aB cZ B.p3.hb rfl ?_));have W:=DL.flat V;refine aA kU (aB (v:=jK u.stays) aV B.p3.hb rfl (aA td (aB cZ B.p3.hb rfl ?_)))
 have axR:=DL.flat U;refine eR aBN (C54 u.lines u.cO u.stays _ _ _ (W.ext B.aE) (axR.ext B.aE) E.len E.l20 E.st E.ln) ?_;rintro v33 _ ⟨q,ov,fv,rfl,J⟩;have B:=((B.made J).split).p1.split;refine bD rfl (bD rfl (aD (aA l8 (aS B.p3 wF (dV rfl) (rfl) λ_ B=>aD (aA xI (aA oZ (aB BW B.hb rfl ?_)))))));obtain⟨s1,s2,s3,s4,s5,hsh,q1,q2,q3,q4,q5⟩:=B.p4.fB;obtain⟨g4,hs4,_⟩:=q4;subst hs4;subst hsh;have B:=B.p4.p2.p4.p4.p4;obtain⟨K,yr,B,aGa,aGb⟩:=ady (room:=room) (sh:=(⟨s1,u.stays,s2,u.locks,s3,⟨u.recover.aJ,u.recover.counts,g4⟩,s5⟩:dH)) B
 refine bI as1 B (H':=λ_=>fN K F9 (j3 (jh u room) mv)) (Φ:=λ_ _=>True) (λF2 fz eO=>?_) ?_
 .exact(C55 K F9 (jh u room) N u.threads mv _ yr F2 _ fz (λw' hc=>(eO w' hc).fB) ⟨I,Lx⟩ E.lk (λw' hc=>aGa w' (eO w' hc).fB) aGb E.co E.b hz.threads).mono λ_ _ r=>r.mono λ_ _ h=>⟨trivial,h.2⟩
 rintro _ _ _ B;have B:=B.p2.drop.p2.drop.p1.p1;exact .inr (.inr ⟨by simpa using M,I,Lx,K,F9,rfl,(St.join B).fresh⟩)
def C17(K:jj)(p:Nat)(m:gQ)(N:Nat)(q:dY)(gc:SV)(m2:gQ)(ev:bU)(e:Int)(F:Nat->Prop)(w:World)(hF:(fN K p m).p w F)(O:∀w',js F w w'->K w')(M:nL m)(ni:MB m.mem 1000000)(hcb:0<=m.cS/\m.cS<=1000000)(apZ:AW m.u.recover)(Ln:0<=m.u.locks/\m.u.locks<=1000)(xu:∀w',js F w w'->eN (λ_=>True) w' (j6 gc) q.cut)(hql:q.cut.length<=1000)(hd:ET N m q=some (m2,ev,e)):CR 17 [(.pointer (some ⟨p,0,none⟩)),j6 (⟨q.kind,q.t,q.i,gc⟩:dN)] w (λv w'=>v=.tuple #[j6 ev,jK e]/\pk F (fN K p m2) w w'):=by
 have B:=St.begin hF;obtain⟨a,hu,B⟩:=fN.open B;have lu:=B.p4.jy;refine amK _ _ _ _ ?_;unfold S17;refine cU (x:=(⟨q.kind,q.t,q.i,gc⟩:dN)) B (λwu w1 B=>aR B kV λxZ w2 B=>?_);refine⟨_,?_,λ_ _ h=>h⟩;refine aA nV (have B:=B.drew;aB (v:=jK q.kind) aV B.p1.hb rfl (aH (aC (λkG=>?_) λkG=>?_)))
 .refine aA jw (aB (v:=jK q.t) aV B.p1.hb rfl (aH (aC (λlq=>?_) λlq=>?_)))
  .refine aA rh (aB (v:=jK q.i) aV B.p1.hb rfl (aH (aC (λg9=>?_) λg9=>?_)))
   .refine aD (aA rj (aB aV B.p2.hb rfl (aH (aC (λfX=>?_) λfX=>?_))))
    .refine aD (aA l8 (aB wF B.p2.hb rfl (aA qh (aB (v:=j6 (gc:SV)) cZ B.p1.hb rfl (bI aBQ B.p3 (H':=λv=>uI λm2=>fact (adC m.mem q.cut v m2) (iw a.q a.ov a.fv m2)) (Φ:=λ_ _=>True) (λJ I E=>?_) ?_)))))
     .exact(C58 a.q a.ov a.fv m.mem J q.cut _ _ I (λw' hc=>hu.mem _ (O w' (E w' hc).aE)) M.mem ni (λw' hc=>xu w' (E w' hc).aE) hql).mono λ_ _ r=>r.mono λ_ _ h=>YN h
     rintro v34 _ _ Ew;obtain⟨m2c,Ey⟩:=Ew.fH
     clear Ew
     obtain⟨hcf,Hi⟩:=Ey.pd
     clear Ey
     rcases hcf with⟨him,rfl,rfl⟩|⟨nx,him,rfl,rfl⟩
     .have B:=Hi;have U:ig m q=none:=by unfold ig;rw[fV ⟨kG,lq,g9,fX⟩];exact him
      refine aH ?_;intro qk;refine fI dO (have B:=fN.shut (m:=m) hu B.p6.p6.p6.p3.p6;dF MZ B (C16 K p m _ B.has (O _ B.aE) (λ_ e=>O _ (B.aE.then e)) M) λx58 ZQ cJ B=>?_);have hpk:=B.p3.At;have PX:rz ji _ (.func (.func 60) [].toArray [.pointer (some ⟨wu,0,none⟩)].toArray) (λ_:dY=>True) (jo q):=
 ⟨60,[],_,rfl,aal,λsx y w1 e1 WZ _=>C60 y q sx wu (⟨q.kind,q.t,q.i,gc⟩:dN) w1 WZ (hpk.ext e1) ⟨gc,rfl,DL.gB (xu _ (B.aE.then e1))⟩⟩
      refine aZ aam B (C61 _ _ _ (λ_=>True) _ _ B.dl PX (λ_ _=>trivial) (by have:=qC M;omega)) (λw11 he B=>bV (aW (λV=>?_) λV=>?_))
      .refine pop Aj (aO (x:=(⟨0,0,0,0,0⟩:bU)) B.p2 eV rfl rfl λw12 B=>aF eV B.At ?_);have B:=B.drop.drop.p1.drop;obtain⟨rfl,rfl,rfl⟩:=pa hd U (by simpa using V);exact⟨rfl,B.mut⟩
      .have W:(cT m).any (jo q)=true:=by simpa using V
       obtain⟨h0,t,ht⟩:=tZ W;refine aA nV (aB (v:=jK q.kind) aV B.p3.hb rfl (aH (aC (λpU=>?_) λpU=>?_)))
       .refine aF ot B.p3.At ?_;obtain⟨rfl,rfl,rfl⟩:=rW hd U W pU ht;have B:=B.p1;refine bI aan B (H':=λ_=>fN K p (lf m t q)) (Φ:=λv _=>v=j6 (oQ q.t (dK t.buf q.i))) (λJ I E=>?_) ?_
        .exact C62 K p m q (⟨q.kind,q.t,q.i,gc⟩:dN) t J _ I (λw' hc=>O w' (E w' hc).aE) M ni ⟨gc,rfl,DL.gB (xu _ B.aE)⟩ h0 ht
        rintro _ w13 rfl B;refine aO (x:=(oQ q.t (dK t.buf q.i))) B.p2 eV rfl rfl (λON B=>aF eV B.At ?_);have B:=B.drop.p1.drop.p1.drop;exact⟨rfl,B.mut⟩
       .refine aA jw (aB (v:=jK q.t) aV B.p3.hb rfl ?_);obtain⟨qe,rfl⟩:=oS hd U W pU;have B:=B.p1;refine bI aao B (H':=λ_=>fN K p m2) (Φ:=λv _=>v=j6 ev) (λJ I E=>?_) ?_
        .exact C63 K p m N q.t t m2 ev J _ I (λw' hc=>O w' (E w' hc).aE) M ni h0 ht qe
        rintro _ w15 rfl B;refine aO (x:=ev) B.p2 eV rfl rfl (λUj B=>aF eV B.At ?_);have B:=B.drop.p1.drop.p1.drop;exact⟨rfl,B.mut⟩
     .have B:=Hi;have U:ig m q=some nx:=by unfold ig;rw[fV ⟨kG,lq,g9,fX⟩];exact him
      refine aH ?_;intro qk;refine il dO (aD (aA HV (aB aV B.p3.hb rfl (aN cW (aD (aA HV (aS B.p3 aV (dV rfl) (rfl) λ_ B=>aD (aA xI (aA yK (uJ (⟨m.u.recover.aJ,m.u.recover.counts,a.ZT⟩:bY) og B.hb rfl (bJ ([(⟨m.u.recover.aJ,m.u.recover.counts,a.ZT⟩:bY)]) B wq rfl rfl (dV rfl) λWp _ B=>?_)))))))))));have B:=fN.shut (m:=(v8 m nx)) ⟨hu.ln,hu.cl,hu.rc,hu.mem⟩ B.p7.p7.p7.p5.p5;obtain⟨t2,hg,rfl,rfl,rfl⟩:=sV hd U;have B:=B.p1.p1;refine bI as1 B (H':=λ_=>fN K p (j3 (v8 m nx) [t2])) (Φ:=λ_ _=>True) (λJ I E=>?_) ?_
      .exact(C55 K p (v8 m nx) N [m.u.recover] [t2] _ [(⟨m.u.recover.aJ,m.u.recover.counts,a.ZT⟩:bY)] J _ I (λw' hc=>O w' (E w' hc).aE) M.rm Ln (λw' hc=>(E w' hc).fu) ⟨rfl,λj _ _ h1 h2=>by cases j with|zero=>(simp at h1 h2;subst h1 h2;exact⟨a.ZT,rfl,hu.rc⟩)|succ j=>simp at h1⟩ (by simpa using apZ) ⟨rfl,λj _ _ h1 h2=>by cases j with|zero=>(simp at h1 h2;subst h1 h2;exact hg)|succ j=>simp at h1⟩ eU).mono λ_ _ r=>r.mono λ_ _ h=>⟨trivial,h.2⟩
      rintro _ _ _ B;refine aA qh (aB (v:=j6 (gc:SV)) cZ B.p3.hb rfl (aZ aBR B (C59 _ q.cut _ (xu _ B.aE) cW) λ_ he B=>pop (uX _ _) (aO (x:=(⟨15,0,0,(wR q.cut q.cut.length),0⟩:bU)) B.p2 eV rfl rfl λ_ B=>aF eV B.At ?_)));have B:=B.drop.p1.drop.p1.drop;exact⟨rfl,B.mut⟩
    .have U:ig m q=none:=by unfold ig;rw[fU (by exactλh=>fX h.2.2.2)]
     intro qk;refine fM (have B:=fN.shut (m:=m) hu B.p6.p6.p6.p6.p6;dF MZ B (C16 K p m _ B.has (O _ B.aE) (λ_ e=>O _ (B.aE.then e)) M) λx58 ZQ cJ B=>?_);have hpk:=B.p3.At;have PX:rz ji _ (.func (.func 60) [].toArray [.pointer (some ⟨wu,0,none⟩)].toArray) (λ_:dY=>True) (jo q):=
 ⟨60,[],_,rfl,aal,λsx y w1 e1 WZ _=>C60 y q sx wu (⟨q.kind,q.t,q.i,gc⟩:dN) w1 WZ (hpk.ext e1) ⟨gc,rfl,DL.gB (xu _ (B.aE.then e1))⟩⟩
     refine aZ aam B (C61 _ _ _ (λ_=>True) _ _ B.dl PX (λ_ _=>trivial) (by have:=qC M;omega)) (λw11 he B=>bV (aW (λV=>?_) λV=>?_))
     .refine pop Aj (aO (x:=(⟨0,0,0,0,0⟩:bU)) B.p2 eV rfl rfl λw12 B=>aF eV B.At ?_);have B:=B.drop.drop.p1.drop;obtain⟨rfl,rfl,rfl⟩:=pa hd U (by simpa using V);exact⟨rfl,B.mut⟩
     .have W:(cT m).any (jo q)=true:=by simpa using V
      obtain⟨h0,t,ht⟩:=tZ W;refine aA nV (aB (v:=jK q.kind) aV B.p3.hb rfl (aH (aC (λpU=>?_) λpU=>?_)))
      .refine aF ot B.p3.At ?_;obtain⟨rfl,rfl,rfl⟩:=rW hd U W pU ht;have B:=B.p1;refine bI aan B (H':=λ_=>fN K p (lf m t q)) (Φ:=λv _=>v=j6 (oQ q.t (dK t.buf q.i))) (λJ I E=>?_) ?_
       .exact C62 K p m q (⟨q.kind,q.t,q.i,gc⟩:dN) t J _ I (λw' hc=>O w' (E w' hc).aE) M ni ⟨gc,rfl,DL.gB (xu _ B.aE)⟩ h0 ht
       rintro _ w13 rfl B;refine aO (x:=(oQ q.t (dK t.buf q.i))) B.p2 eV rfl rfl (λON B=>aF eV B.At ?_);have B:=B.drop.p1.drop.p1.drop;exact⟨rfl,B.mut⟩
      .refine aA jw (aB (v:=jK q.t) aV B.p3.hb rfl ?_);obtain⟨qe,rfl⟩:=oS hd U W pU;have B:=B.p1;refine bI aao B (H':=λ_=>fN K p m2) (Φ:=λv _=>v=j6 ev) (λJ I E=>?_) ?_
       .exact C63 K p m N q.t t m2 ev J _ I (λw' hc=>O w' (E w' hc).aE) M ni h0 ht qe
       rintro _ w15 rfl B;refine aO (x:=ev) B.p2 eV rfl rfl (λUj B=>aF eV B.At ?_);have B:=B.drop.p1.drop.p1.drop;exact⟨rfl,B.mut⟩
   .have U:ig m q=none:=by unfold ig;rw[fU (by exactλh=>g9 h.2.2.1)]
    intro qk;refine fM (have B:=fN.shut (m:=m) hu B.p6.p6.p6.p6.p6;dF MZ B (C16 K p m _ B.has (O _ B.aE) (λ_ e=>O _ (B.aE.then e)) M) λx58 ZQ cJ B=>?_);have hpk:=B.p3.At;have PX:rz ji _ (.func (.func 60) [].toArray [.pointer (some ⟨wu,0,none⟩)].toArray) (λ_:dY=>True) (jo q):=
 ⟨60,[],_,rfl,aal,λsx y w1 e1 WZ _=>C60 y q sx wu (⟨q.kind,q.t,q.i,gc⟩:dN) w1 WZ (hpk.ext e1) ⟨gc,rfl,DL.gB (xu _ (B.aE.then e1))⟩⟩
    refine aZ aam B (C61 _ _ _ (λ_=>True) _ _ B.dl PX (λ_ _=>trivial) (by have:=qC M;omega)) (λw11 he B=>bV (aW (λV=>?_) λV=>?_))
    .refine pop Aj (aO (x:=(⟨0,0,0,0,0⟩:bU)) B.p2 eV rfl rfl λw12 B=>aF eV B.At ?_);have B:=B.drop.drop.p1.drop;obtain⟨rfl,rfl,rfl⟩:=pa hd U (by simpa using V);exact⟨rfl,B.mut⟩
    .have W:(cT m).any (jo q)=true:=by simpa using V
     obtain⟨h0,t,ht⟩:=tZ W;refine aA nV (aB (v:=jK q.kind) aV B.p3.hb rfl (aH (aC (λpU=>?_) λpU=>?_)))
     .refine aF ot B.p3.At ?_;obtain⟨rfl,rfl,rfl⟩:=rW hd U W pU ht;have B:=B.p1;refine bI aan B (H':=λ_=>fN K p (lf m t q)) (Φ:=λv _=>v=j6 (oQ q.t (dK t.buf q.i))) (λJ I E=>?_) ?_
      .exact C62 K p m q (⟨q.kind,q.t,q.i,gc⟩:dN) t J _ I (λw' hc=>O w' (E w' hc).aE) M ni ⟨gc,rfl,DL.gB (xu _ B.aE)⟩ h0 ht
      rintro _ w13 rfl B;refine aO (x:=(oQ q.t (dK t.buf q.i))) B.p2 eV rfl rfl (λON B=>aF eV B.At ?_);have B:=B.drop.p1.drop.p1.drop;exact⟨rfl,B.mut⟩
     .refine aA jw (aB (v:=jK q.t) aV B.p3.hb rfl ?_);obtain⟨qe,rfl⟩:=oS hd U W pU;have B:=B.p1;refine bI aao B (H':=λ_=>fN K p m2) (Φ:=λv _=>v=j6 ev) (λJ I E=>?_) ?_
      .exact C63 K p m N q.t t m2 ev J _ I (λw' hc=>O w' (E w' hc).aE) M ni h0 ht qe
      rintro _ w15 rfl B;refine aO (x:=ev) B.p2 eV rfl rfl (λUj B=>aF eV B.At ?_);have B:=B.drop.p1.drop.p1.drop;exact⟨rfl,B.mut⟩
  .have U:ig m q=none:=by unfold ig;rw[fU (by exactλh=>lq h.2.1)]
   intro qk;refine fM (have B:=fN.shut (m:=m) hu B.p6.p6.p6.p6.p6;dF MZ B (C16 K p m _ B.has (O _ B.aE) (λ_ e=>O _ (B.aE.then e)) M) λx58 ZQ cJ B=>?_);have hpk:=B.p3.At;have PX:rz ji _ (.func (.func 60) [].toArray [.pointer (some ⟨wu,0,none⟩)].toArray) (λ_:dY=>True) (jo q):=
 ⟨60,[],_,rfl,aal,λsx y w1 e1 WZ _=>C60 y q sx wu (⟨q.kind,q.t,q.i,gc⟩:dN) w1 WZ (hpk.ext e1) ⟨gc,rfl,DL.gB (xu _ (B.aE.then e1))⟩⟩
   refine aZ aam B (C61 _ _ _ (λ_=>True) _ _ B.dl PX (λ_ _=>trivial) (by have:=qC M;omega)) (λw11 he B=>bV (aW (λV=>?_) λV=>?_))
   .refine pop Aj (aO (x:=(⟨0,0,0,0,0⟩:bU)) B.p2 eV rfl rfl λw12 B=>aF eV B.At ?_);have B:=B.drop.drop.p1.drop;obtain⟨rfl,rfl,rfl⟩:=pa hd U (by simpa using V);exact⟨rfl,B.mut⟩
   .have W:(cT m).any (jo q)=true:=by simpa using V
    obtain⟨h0,t,ht⟩:=tZ W;refine aA nV (aB (v:=jK q.kind) aV B.p3.hb rfl (aH (aC (λpU=>?_) λpU=>?_)))
    .refine aF ot B.p3.At ?_;obtain⟨rfl,rfl,rfl⟩:=rW hd U W pU ht;have B:=B.p1;refine bI aan B (H':=λ_=>fN K p (lf m t q)) (Φ:=λv _=>v=j6 (oQ q.t (dK t.buf q.i))) (λJ I E=>?_) ?_
     .exact C62 K p m q (⟨q.kind,q.t,q.i,gc⟩:dN) t J _ I (λw' hc=>O w' (E w' hc).aE) M ni ⟨gc,rfl,DL.gB (xu _ B.aE)⟩ h0 ht
     rintro _ w13 rfl B;refine aO (x:=(oQ q.t (dK t.buf q.i))) B.p2 eV rfl rfl (λON B=>aF eV B.At ?_);have B:=B.drop.p1.drop.p1.drop;exact⟨rfl,B.mut⟩
    .refine aA jw (aB (v:=jK q.t) aV B.p3.hb rfl ?_);obtain⟨qe,rfl⟩:=oS hd U W pU;have B:=B.p1;refine bI aao B (H':=λ_=>fN K p m2) (Φ:=λv _=>v=j6 ev) (λJ I E=>?_) ?_
     .exact C63 K p m N q.t t m2 ev J _ I (λw' hc=>O w' (E w' hc).aE) M ni h0 ht qe
     rintro _ w15 rfl B;refine aO (x:=ev) B.p2 eV rfl rfl (λUj B=>aF eV B.At ?_);have B:=B.drop.p1.drop.p1.drop;exact⟨rfl,B.mut⟩
 .have U:ig m q=none:=by unfold ig;rw[fU (by exactλh=>kG h.1)]
  intro qk;refine fM (have B:=fN.shut (m:=m) hu B.p6.p6.p6.p6.p6;dF MZ B (C16 K p m _ B.has (O _ B.aE) (λ_ e=>O _ (B.aE.then e)) M) λx58 ZQ cJ B=>?_);have hpk:=B.p3.At;have PX:rz ji _ (.func (.func 60) [].toArray [.pointer (some ⟨wu,0,none⟩)].toArray) (λ_:dY=>True) (jo q):=
 ⟨60,[],_,rfl,aal,λsx y w1 e1 WZ _=>C60 y q sx wu (⟨q.kind,q.t,q.i,gc⟩:dN) w1 WZ (hpk.ext e1) ⟨gc,rfl,DL.gB (xu _ (B.aE.then e1))⟩⟩
  refine aZ aam B (C61 _ _ _ (λ_=>True) _ _ B.dl PX (λ_ _=>trivial) (by have:=qC M;omega)) (λw11 he B=>bV (aW (λV=>?_) λV=>?_))
  .refine pop Aj (aO (x:=(⟨0,0,0,0,0⟩:bU)) B.p2 eV rfl rfl λw12 B=>aF eV B.At ?_);have B:=B.drop.drop.p1.drop;obtain⟨rfl,rfl,rfl⟩:=pa hd U (by simpa using V);exact⟨rfl,B.mut⟩
  .have W:(cT m).any (jo q)=true:=by simpa using V
   obtain⟨h0,t,ht⟩:=tZ W;refine aA nV (aB (v:=jK q.kind) aV B.p3.hb rfl (aH (aC (λpU=>?_) λpU=>?_)))
   .refine aF ot B.p3.At ?_;obtain⟨rfl,rfl,rfl⟩:=rW hd U W pU ht;have B:=B.p1;refine bI aan B (H':=λ_=>fN K p (lf m t q)) (Φ:=λv _=>v=j6 (oQ q.t (dK t.buf q.i))) (λJ I E=>?_) ?_
    .exact C62 K p m q (⟨q.kind,q.t,q.i,gc⟩:dN) t J _ I (λw' hc=>O w' (E w' hc).aE) M ni ⟨gc,rfl,DL.gB (xu _ B.aE)⟩ h0 ht
    rintro _ w13 rfl B;refine aO (x:=(oQ q.t (dK t.buf q.i))) B.p2 eV rfl rfl (λON B=>aF eV B.At ?_);have B:=B.drop.p1.drop.p1.drop;exact⟨rfl,B.mut⟩
   .refine aA jw (aB (v:=jK q.t) aV B.p3.hb rfl ?_);obtain⟨qe,rfl⟩:=oS hd U W pU;have B:=B.p1;refine bI aao B (H':=λ_=>fN K p m2) (Φ:=λv _=>v=j6 ev) (λJ I E=>?_) ?_
    .exact C63 K p m N q.t t m2 ev J _ I (λw' hc=>O w' (E w' hc).aE) M ni h0 ht qe
    rintro _ w15 rfl B;refine aO (x:=ev) B.p2 eV rfl rfl (λUj B=>aF eV B.At ?_);have B:=B.drop.p1.drop.p1.drop;exact⟨rfl,B.mut⟩
def uA(t:fR):Bool:=(gP t).isNone&&decide (t.buf.length=0)
def qf(m:gQ):Bool:=decide (m.fault=0)&&!(rv m.l.length).any λi=>match m.l[i]? with|some t=>!uA t|none=>false
def sW(m:gQ):Bool:=decide (m.fault=0)&&(!qf m&&decide (((cT m).length:Int)=0))
def ny(m:gQ):gk:=⟨m.cS,m.fault,m.iP,qf m,sW m⟩
def sX(m:gQ)(l:List nQ):Bool:=decide ((runM l (m.mem.l.take m.u.stays.toNat)).2=0)&&decide ((runM l (m.mem.l.take m.u.stays.toNat)).1≠0)
def wT(m:gQ):List Bool:=m.u.cD.map (sX m)
theorem uE.ext{w w':World}{b:Nat}{cs:List Value}(h:uE w b cs)(e:Ext w w'):uE w' b cs:=h.of_eq (e.cI b h.lt λh=>h)
def Uk{a:MA}{m:gQ}(h1:vh a.lk=true)(h2:vh a.ll=true):∀v∈mz a m,vh v=true:=by
 intro v B
 simp only[zZ,abq,or_false]at B
 rcases B with rfl|rfl|rfl|rfl|rfl|rfl|rfl|rfl|rfl|rfl|rfl|rfl|rfl|rfl|rfl|rfl<;>first|rfl|exact h1|exact h2
def Ul{I:Nat}{c:gp}{E rg cn:Value}{x f e g:Int}(h1:vh E=true)(h2:vh rg=true)(h3:vh cn=true) :
  ∀v∈[Value.pointer (some ⟨I,0,none⟩),jK c.aJ,jK c.counts,E,jK x,rg,cn,jK f,jK e,jK g],vh v=true:=by
 intro v B
 simp only[zZ,abq,or_false]at B
 rcases B with rfl|rfl|rfl|rfl|rfl|rfl|rfl|rfl|rfl|rfl<;>first|rfl|exact h1|exact h2|exact h3
def Ml{n k:Nat}(h:k<n):(rv n)[k]?=some k:=List.getElem?_range h
def C64(K:jj)(p:Nat)(room:Int)(t:fR)(w:World)(J:Has (fO K p room t) w)(W:∀w',Ext w w'->K w')(V:JR t):CR 64 [(.pointer (some ⟨p,0,none⟩))] w (λv w'=>v=.bool (uA t)/\Ext w w'):=by
 obtain⟨bp,gl,rg,cn,_,kS,hB,AM,Rl⟩:=fO.rd J;have ct0:=kS.cell (o:=0) rfl;have B:=St.start w;refine lx Tryz.func64 ?_;refine eR afO (C65 K p room t _ (J.ext B.aE) (W _ B.aE) V) ?_;rintro U _ I
 rcases I with⟨O,rfl,E⟩|⟨x,xv,O,M,rfl,E⟩
 .have B:=B.ext E;refine bD rfl (bD rfl (aR B j7 λNI w2 B=>have B:=B.enc (cs':=kp (⟨0,0,0,bL,bL,0⟩:bN)) rfl;aO (x:=(⟨0,0,0,bL,bL,0⟩:bN)) B gN rfl rfl λw3 B=>?_));refine⟨_,?_,λ_ _ h=>h⟩;refine bV (jt (aZ anc B (C66 K p room t _ (J.ext B.aE) V.bl) λ_ E B=>?_));intro qk;refine⟨vb ?_,by first|exact B.aE|exact B.drop.aE⟩;unfold uA;rw[O]
  rfl
 have B:=B.ext E;obtain⟨ge,gf,rfl,_,_⟩:=M _ (W _ B.aE);refine bD rfl (bD rfl (aR B j7 λNI w2 B=>have B:=B.enc (cs':=kp (⟨0,0,0,bL,bL,0⟩:bN)) rfl;aO (x:=(⟨x.kind,x.a,x.b,ge,gf,x.to⟩:bN)) B gN rfl rfl λw3 B=>?_));refine⟨_,?_,λ_ _ h=>h⟩;refine bV (fM ?_);intro qk;refine⟨vb ?_,by first|exact B.aE|exact B.drop.aE⟩;unfold uA;rw[O]
 rfl
def C68(K:jj)(p:Nat)(room:Int)(t:fR)(b:Nat)(w:World)(I:Has (fO K p room t) w)(E:∀w',Ext w w'->K w')(J:JR t)(hc:Cell w b 0 (Uf 64)):CR 68 [(.pointer (some ⟨p,0,none⟩)),(.pointer (some ⟨b,0,none⟩))] w (λv w'=>v=.bool (!uA t)/\Ext w w'):=by
 have B:=St.start w;refine lx Tryz.func68 ?_;refine aU akL (hc.ext B.aE) (iH (first:=[]) (cap:=[]) aBS (C64 K p room t _ (I.ext B.aE) (λ_ e=>E _ (Ext.trans B.aE e)) J) ?_);rintro _ _ ⟨rfl,M⟩;have B:=B.ext M;exact bV ⟨rfl,B.aE⟩
def C136(V:Value)(ps:List Ptr)(J:Nat)(first cap:List Value)(g:Nat->Bool)(w:World)(U:eN (λ_=>True) w V ps)(uf:Plain ji J)(oo:∀(i:Nat) (s:Ptr) (E:World),ps[i]?=some s->Ext w E->Calls ji J (first++[j6 s]++cap).toArray E (qZ λv W=>v=.bool (g i)/\Ext E W))(hn:ps.length<=1073741824):CR 136 [V,(.func (.func J) first.toArray cap.toArray)] w (λv w'=>v=jK (yO g (rv ps.length))/\Ext w w'):=by
 have B:=St.start w;refine lx Tryz.func136 ?_;refine aI ui (U.ext B.aE) ?_;refine⟨λm x E=>∃k:Nat,x=jK (k:Int)/\m=ps.length-k/\k<=ps.length/\(∀y∈(rv ps.length).take k,g y=false)/\St w aY [] E,⟨_,0,rfl,rfl,o6 _,eU,B⟩,?_⟩;rintro m _ E ⟨k,rfl,rfl,hk,I,B⟩ _;refine aK (aC (λkG=>?_) λ_=>⟨hM (qs .i64) (mU (by rw[mE (by rw[List.length_range];omega)]at I;exact I)).symm,B.aE⟩);obtain⟨jm,O⟩:=gx ps (i:=(k:Int).toNat) cW;refine aQ ui U cW O (λ_ kr=>aF Dy (kr.ext B.aE) (iH uf (oo k jm E O B.aE) ?_))
 rintro _ W ⟨rfl,he⟩;have B:=B.ext he;exact aW (λM=>⟨hM (qs .i64) (ti I (Ml cW) M).symm,B.aE⟩) (λM=>aN cW ⟨_,cW,k+1,rfl,rfl,cW,eY I (Ml cW) M,B⟩)
def C67(M:Value)(ps:List Ptr)(E:Nat)(first cap:List Value)(g:Nat->Bool)(w:World)(O:eN (λ_=>True) w M ps)(uf:Plain ji E)(U:∀(i:Nat) (s:Ptr) (I:World),ps[i]?=some s->Ext w I->Calls ji E (first++[j6 s]++cap).toArray I (qZ λv J=>v=.bool (g i)/\Ext I J))(W:ps.length<=1073741824):CR 67 [M,(.func (.func E) first.toArray cap.toArray)] w (λv w'=>v=.bool ((rv ps.length).any g)/\Ext w w'):=by
 have B:=St.start w;refine lx Tryz.func67 ?_;exact aZ atn B (C136 _ ps E first cap g _ (O.ext B.aE) uf (λi V J h e=>U i V J h (Ext.trans B.aE e)) cW) (λ_ _ B=>cN ⟨vb (rA _ _),B.aE⟩)
def C18(K:jj)(p:Nat)(m:gQ)(w:World)(hm:Has (fN K p m) w)(hw:K w)(om:∀w',Ext w w'->K w')(V:nL m):CR 18 [(.pointer (some ⟨p,0,none⟩))] w (λv w'=>v=j6 (ny m)/\Ext w w'):=by
 obtain⟨a,E⟩:=fN.rd hm hw;have Rp:=E.b.cell (o:=8) rfl;have cm0:=E.b.cell (o:=0) rfl;have Rq:=E.b.cell (o:=1) rfl;have WU:=E.b.cell (o:=3) rfl;have OO:=E.b.cell (o:=9) rfl;have yq:=E.b.cell (o:=10) rfl;have zm:=E.b.cell (o:=11) rfl;have wz:=E.b.cell (o:=12) rfl;have vZ:=E.b.cell (o:=13) rfl;have O:=E.b.cell (o:=14) rfl;have zR:=E.b.cell (o:=15) rfl;have B:=St.start w;refine uT Tryz.func18 (pl:=P18) ?_;refine aR B E7 (λmV _ B=>Cw B ag0 rfl λOa w2 B=>aS B akL (dV rfl) (rfl) λw3 B=>aD (aA HV (have B:=B.drew;aU aV (vZ.ext B.aE) (aD (aA rj (aU aV (O.ext B.aE) (aD (aA HW (aU aV (zR.ext B.aE) (pop (PH _ _ _) ?_))))))))))
 refine aR B E7 (λM _ B=>?_);refine⟨aG aV (vZ.ext B.aE),?_⟩;refine⟨aG aV (O.ext B.aE),?_⟩;refine⟨aG aV (zR.ext B.aE),?_⟩;refine aO (x:=(⟨m.cS,m.fault,m.iP,false,false⟩:gk)) B GD rfl rfl (λ_ B=>⟨λw'=>St w aY [cI M (kp (⟨m.cS,m.fault,m.iP,qf m,false⟩:gk)),cI Oa [Uf 64],cI mV (kp (⟨0,0,0,false,false⟩:gk))] w',aD (aA rj (aU aV (O.ext B.aE) (aH (aC (λW=>?_) λW=>?_)))),?_⟩)
 .refine aD (aA lE (aU tB (wz.ext B.aE) ?_))
  refine aZ aBT B (C67 _ a.ps 68 [] [.pointer (some ⟨Oa,0,none⟩)] (λi=>match m.l[i]? with|some t=>!uA t|none=>false) _ (E.ll.ext B.aE) aBU (λi s2 w2 h e=>by
   obtain⟨t,ht⟩:∃t,m.l[i]?=some t:=⟨_,nT (by have:=(l0.1 h).1;have:=E.len;omega)⟩;rw[ht];exact C68 K s2.b m.room t Oa w2 ((E.th i s2 t h ht).ext (Ext.trans B.aE e)) (λ_ e3=>om _ (Ext.trans (Ext.trans B.aE e) e3)) (V.th t (ld ht)) ((B.p1.hb.cell rfl).ext e)) (by have:=E.len;have:=V.tl;omega)) (λ_ he B=>?_)
  refine bV (aA Bn (aS B OJ (dV rfl) (rfl) λ_ B=>?_));have B:=B.enc (cs':=kp ({ (⟨m.cS,m.fault,m.iP,false,false⟩:gk)with done:=(!((rv a.ps.length).any λi=>match m.l[i]? with|some t=>!uA t|none=>false))}:gk)) rfl;have B:=B.p2.p2.p2;have I:qf m = !((rv a.ps.length).any λi=>match m.l[i]? with|some t=>!uA t|none=>false):=by unfold qf;rw[gq W,E.len];rfl
  rw[I];exact B
 .refine aA Bn (aS B OJ (dV rfl) (rfl) λ_ B=>?_);have B:=B.enc (cs':=kp ({ (⟨m.cS,m.fault,m.iP,false,false⟩:gk)with done:=false}:gk)) rfl;have B:=B.p2.p2.p2;have I:qf m=false:=by unfold qf;rw[gD W];rfl
  rw[I];exact B
 intro _ B _;refine⟨λw'=>St w aY [cI M (kp (ny m)),cI mV (kp (⟨0,0,0,false,false⟩:gk))] w',aD (aA rj (aU aV (O.ext B.aE) (aH (aC (λrH=>aA Bn (aB (v:=.bool ((⟨m.cS,m.fault,m.iP,qf m,false⟩:gk).done)) OJ B.hb rfl (bV (aW (λkN=>?_) λkN=>?_)))) λrH=>?_)))),?_⟩
 .refine dF MZ B (C16 K p m _ (hm.ext B.aE) (om _ B.aE) (λ_ e=>om _ (Ext.trans B.aE e)) V) (λx45 _ cJ B=>?_);obtain⟨aGd,U,ap1,_⟩:=B.dl;refine aI mq U ?_;rw[ap1];refine aH (aA Bo (aS B.p1 OJ (dV rfl) (rfl) λ_ B=>?_));have B:=B.enc (cs':=kp ({ (⟨m.cS,m.fault,m.iP,qf m,false⟩:gk)with stuck:=(decide (((cT m).length:Int)=0))}:gk)) rfl;have B:=B.p1.drop.p1.drop.p1.p1;have J:sW m=(decide (((cT m).length:Int)=0)):=by unfold sW;rw[gq rH,show qf m=false from by simpa using kN];rfl
  unfold ny;rw[J];exact B
 .refine aA Bo (aS B OJ (dV rfl) (rfl) λ_ B=>?_);have B:=B.enc (cs':=kp ({ (⟨m.cS,m.fault,m.iP,qf m,false⟩:gk)with stuck:=false}:gk)) rfl;have B:=B.p1.drop.p1.p1;have J:sW m=false:=by unfold sW;rw[show qf m=true from by simpa using kN];simp
  unfold ny;rw[J];exact B
 .refine aA Bo (aS B OJ (dV rfl) (rfl) λ_ B=>?_);have B:=B.enc (cs':=kp ({ (⟨m.cS,m.fault,m.iP,qf m,false⟩:gk)with stuck:=false}:gk)) rfl;have B:=B.p1.drop.p1.p1;have J:sW m=false:=by unfold sW;rw[gD rH];rfl
  unfold ny;rw[J];exact B
 intro _ B _;exact aF GD B.At (aO (x:=(ny m)) B.p1 GD rfl rfl λ_ B=>aF GD B.At (have B:=B.drop.drop;⟨rfl,B.aE⟩))
def C49(K:jj)(p:Nat)(m:gQ)(w:World)(hm:Has (fN K p m) w)(hw:K w)(om:∀w',Ext w w'->K w')(iS:nL m)(GG:m.u.cD.length<=1000)(V:∀l∈m.u.cD,l.length<=1000)(gj:0<=m.u.stays/\m.u.stays<=m.mem.l.length):CR 49 [(.pointer (some ⟨p,0,none⟩))] w (λv w'=>mr (bE v (wT m)) w w'):=by
 obtain⟨a,E⟩:=fN.rd hm hw;have Rp:=E.b.cell (o:=8) rfl;have cm0:=E.b.cell (o:=0) rfl;have Rq:=E.b.cell (o:=1) rfl;have WU:=E.b.cell (o:=3) rfl;have OO:=E.b.cell (o:=9) rfl;have yq:=E.b.cell (o:=10) rfl;have zm:=E.b.cell (o:=11) rfl;have wz:=E.b.cell (o:=12) rfl;have vZ:=E.b.cell (o:=13) rfl;have sT:=E.b.cell (o:=14) rfl;have zR:=E.b.cell (o:=15) rfl;have ap2:=E.uk.cl _ hw;have B:=St.start w;refine am1 _ _ _ ?_;unfold S49;refine aD (aA xI (aA te (aU KM (Rp.ext B.aE) ?_)));obtain⟨axV,M,J⟩:=ap2.open;have W:=J.1;refine aI Ds (M.ext B.aE) ?_
 have B:=B.gA (α:=Bool);refine⟨λmm o x w1=>∃k:Nat,x=jK (k:Int)/\mm=m.u.cD.length-k/\k<=m.u.cD.length/\St w aY [bE o ((m.u.cD.take k).map (sX m))] w1,⟨_,0,rfl,rfl,o6 _,B⟩,?_⟩;rintro mm iW _ w1 ⟨k,rfl,rfl,hk,B⟩ _;refine aK (aC (λj4=>⟨λo w'=>St w aY [bE o ((m.u.cD.take (k+1)).map (sX m))] w',?_,?_⟩) λj4=>?_)
 .obtain⟨Cc,kW⟩:=gx axV (i:=(k:Int).toNat) cW;obtain⟨I,O⟩:=gx m.u.cD (i:=(k:Int).toNat) cW;have abL:DL w (j6 Cc) I:=J.2 _ _ _ kW O;refine aQ Ds M cW kW (λ_ vy=>aF nP (vy.ext B.aE) ?_);have axW:=DL.flat abL;refine aD (aA xI (aA kU (have B:=B.drew;aU aV (Rq.ext B.aE) (dF amQ B (C22 K p m _ (hm.ext B.aE) (om _ B.aE) (λ_ e=>om _ (Ext.trans B.aE e)) iS) λZS w2 cJ B=>?_))));refine⟨aG aV (Rq.ext B.aE),?_⟩;refine lI cE B.fu cW cW (λQi Fp=>aZ aj6 B (C110 _ _ I (m.mem.l.take m.u.stays.toNat) _ (axW.ext B.aE) (Fp _ B.fu) (by have:=V _ (ld O);omega)) λ_ he B=>bD rfl (bD rfl (aH (aC (λU=>?_) λU=>?_))))
  .refine bQ (bJ ([decide ((runM I (m.mem.l.take m.u.stays.toNat)).1≠0)]) B vl rfl rfl (dV rfl) λab0 _ B=>?_);have CT:=B.fu;refine bW B.p2 vl CT (by simp;omega) dO (λWz _ B=>?_);have B:=B.p1.drop.p1.drop;rw[<- jb (k:=k) O];have GH:sX m I=decide ((runM I (m.mem.l.take m.u.stays.toNat)).1≠0):=by unfold sX;rw[gq U];rfl
   rw[GH];exact B
  refine bJ ([false]) B vl rfl rfl (dV rfl) (λaAw _ B=>?_);have adD:=B.fu;refine bW B.p2 vl adD (by simp;omega) dO (λaAx _ B=>?_);have B:=B.p1.drop.p1.drop;rw[<- jb (k:=k) O];have GH:sX m I=false:=by unfold sX;rw[gD U];rfl
  rw[GH];exact B
 .intro mn _ B _;exact aN cW ⟨_,cW,k+1,rfl,rfl,cW,B⟩
 rw[mE cW]at B;exact B.fresh
def C19(K:jj)(p:Nat)(m:gQ)(w:World)(hm:Has (fN K p m) w)(hw:K w)(om:∀w',Ext w w'->K w')(M:nL m)(ni:MB m.mem 1000000)(U:m.u.locks<=1000):CR 19 [(.pointer (some ⟨p,0,none⟩))] w (λv w'=>∃b,v=.pointer (some ⟨b,0,none⟩)/\mr (fN K b m) w w'):=by
 obtain⟨a,E⟩:=fN.rd hm hw;have Rp:=E.b.cell (o:=8) rfl;have cm0:=E.b.cell (o:=0) rfl;have Rq:=E.b.cell (o:=1) rfl;have WU:=E.b.cell (o:=3) rfl;have OO:=E.b.cell (o:=9) rfl;have yq:=E.b.cell (o:=10) rfl;have zm:=E.b.cell (o:=11) rfl;have wz:=E.b.cell (o:=12) rfl;have vZ:=E.b.cell (o:=13) rfl;have sT:=E.b.cell (o:=14) rfl;have zR:=E.b.cell (o:=15) rfl;have hrl0:=E.len;have htl0:=M.tl;obtain⟨ovs,hov⟩:=((E.uk.mem _ hw).1).gE;obtain⟨fvs,W⟩:=((E.uk.mem _ hw).2).gE;have Bj:=E.c0;have uQ:=E.c1;rw[hov]at Bj;rw[W]at uQ;have B:=St.start w;refine uT Tryz.func19 (pl:=P19) ?_;refine aD (vi akK E.b rfl (aR B agZ λaxX _ B=>tx (vs:=mz a m) B akK rfl eU (Uk E.lk.one E.ll.one) λ_ B=>have B:=B.enc (cs':=mz a m) rfl;aD (aA l8 (have B:=B.drew;aU wF (yq.ext B.aE) (aD (aA ri (aU cZ (zm.ext B.aE) (eR aBV (C69 a.q m.mem ovs fvs _ (Bj.ext B.aE) (uQ.ext B.aE) (E.mem.ext B.aE) M.mem ni) ?_))))))))
 rintro _ _ ⟨b2,rfl,V⟩;have B:=B.made V;refine⟨aG cZ (zm.ext B.aE),?_⟩;refine dF Dk B (C70 _ _ _ (E.lk.ext B.aE) (by have Uc:=M.lk;have:=U;omega)) (λx19 _ V B=>aA l8 (aS B.p2 wF (dV rfl) (rfl) λ_ B=>aA ri (aS B cZ (dV rfl) B.p1.fu.one λ_ B=>aA lE (aS B tB (dV rfl) (rfl) λ_ B=>aD (aA lE (aU tB (wz.ext B.aE) (aI ui (E.ll.ext B.aE) ?_)))))));obtain⟨NM,rfl⟩:=B.p1.gE;obtain⟨J,aGf⟩:∃l,l=NM:=⟨_,rfl⟩;subst aGf;have B:=((((((B.Ir (H:=tY K m.room)).gA (α:=Ptr)).p4).p4).p3).p3).p4
 refine⟨λmm x w'=>∃(j:Nat) (OQ:Value) (I:List Ptr),x=jK (j:Int)/\mm=a.ps.length-j/\j<=a.ps.length/\St w aY [cI axX (mz {a with q:=b2,lk:=j6 J,ll:=OQ} m),bE OQ I,iU (tY K m.room) I (m.l.take j),bE (j6 J) m.locks,iw b2 (j6 ovs) (j6 fvs) m.mem] w',⟨_,0,.slice none 0 0,[],rfl,rfl,o6 _,B⟩,?_⟩;rintro mm _ _ ⟨j,OQ,I,rfl,rfl,hj1,B⟩ _;refine aK (aC (λL3=>?_) λL3=>?_)
 .obtain⟨rG,gV⟩:=gx a.ps (i:=(j:Int).toNat) cW;refine aQ ui E.ll cW gV (λ_ kM=>aF Dy (kM.ext B.aE) ?_);obtain⟨t,ht⟩:∃t,m.l[j]?=some t:=⟨_,nT (by have:=E.len;omega)⟩;have wQ:=ld ht;have mL:=M.th t wQ;have zV:=mL.bl;have axI:=mL.rg;have hcn1:=mL.cn;have Mi:=mL.code.rb;have hcb:=mL.code.cb;obtain⟨bp,gl,rg,cn,mI,kS,hB,AM,Rl⟩:=fO.rd (E.th j _ _ gV ht);obtain⟨ts0,B4⟩:=id mI;have ct0:=kS.cell (o:=0) rfl;have ct5:=kS.cell (o:=5) rfl;have Mh:=kS.cell (o:=6) rfl;refine aD (vi akM (uE.ext kS B.aE) rfl (aR B ag1 λO _ B=>tx (vs:=[.pointer (some ⟨bp,0,none⟩),jK t.code.aJ,jK t.code.counts,gl,jK t.at_,rg,cn,jK t.fault,jK t.e,jK t.f]) B akM rfl eU (Ul ((B4 _ hw).1).one AM.one Rl.one) λ_ B=>have B:=B.enc (cs':=[.pointer (some ⟨bp,0,none⟩),jK t.code.aJ,jK t.code.counts,gl,jK t.at_,rg,cn,jK t.fault,jK t.e,jK t.f]) rfl;aD (aA pL (have B:=B.drew;aU vm (ct0.ext B.aE) (aD (aA tC (aU cZ (ct5.ext B.aE) (aD (aA Ab (aU cZ (Mh.ext B.aE) ?_))))))))))
  refine eR aBW (C71 bp m.room t.buf _ (hB.ext B.aE) cW) ?_;rintro _ _ ⟨bq,rfl,V⟩;have B:=B.made V;refine⟨aG cZ (ct5.ext B.aE),?_⟩;refine⟨aG cZ (Mh.ext B.aE),?_⟩;refine dF Dk B (C70 _ _ _ (AM.ext B.aE) (by have Uc:=M.lk;have:=U;omega)) (λx44 _ V B=>?_);refine⟨aG cZ (Mh.ext B.aE),?_⟩;refine dF Dk B (C70 _ _ _ (Rl.ext B.aE) (by have Uc:=M.lk;have:=U;omega)) (λx49 _ V B=>aA pL (aS B.p3 vm (dV rfl) (rfl) λ_ B=>aA tC (aS B cZ (dV rfl) B.p2.fu.one λ_ B=>aA Ab (aS B cZ (dV rfl) B.p1.fu.one λ_ B=>aA lE ?_))))
  have uf:=B.p6.jy;refine aB tB B.p4.hb rfl (bJ ([(⟨O⟩:Ptr)]) B ui rfl rfl (dV rfl) λak5 _ B=>?_);have Tj:=B.fu;refine bW B.p6 ui Tj (by rw[oj]at uf;have:=M.tl;simp;omega) dO (λak6 _ B=>have B:=B.p1.drop;aA lE (aS B.p5 tB (dV rfl) B.fu.one λ_ B=>aN cW ?_));have B:=fO.shut (room:=m.room) (t:=t) mI B.p3.p4.p5.p5;have uf:=B.p3.jy;have B:=(((((St.DG (H:=tY K m.room) (p:=⟨O⟩) (x:=t) B.p3).p4).p4).p2).p4).p4;exact⟨_,cW,j+1,ak6,I++[⟨O⟩],rfl,rfl,cW,by rw[<- ja (k:=j) ht];exact B⟩
 have B:=B.p2.p2.p3.p4.p4;rw[mE (by have:=E.len;omega)]at B;rw[<- hov,<- W]at B;exact⟨axX,rfl,(fN.shut (m:=m) (a:={a with q:=b2,lk:=j6 J,ll:=OQ,ps:=I}) ⟨E.uk.ln,E.uk.cl,E.uk.rc,E.uk.mem⟩ B).fresh⟩
def FL(s:ByteArray)(a:Int)(t:ByteArray):Bool:=decide (a+t.size<=s.size)&&decide (s.extract a.toNat (a+t.size).toNat=t)
def whF(p:UInt8->Bool)(s:ByteArray):Nat->Nat->Nat
 | 0,a=>a
 | n+1,a=>match (nB s)[a]? with
  | some c=>if p c=true then whF p s n (a+1)else a
  | none=>a
def zS(p:UInt8->Bool)(s:ByteArray)(a:Nat):Nat:=whF p s (s.size-a) a
section
variable {p:UInt8->Bool}{s:ByteArray}{k:Nat}{c:UInt8}
theorem Ob(h:s.size<=k):zS p s k=k:=by unfold zS;simp_all[whF]
theorem ua(h:(nB s)[k]?=some c):k<s.size:=by have:=(l0.1 h).1;rw[eX]at this;exact this
theorem J2(h:(nB s)[k]?=some c)(B:p c=true):zS p s k=zS p s (k+1):=by
 have E:=ua h
 unfold zS
 rw[show s.size-k=(s.size-(k+1))+1 from cW,whF,h]
 grind
theorem J3(h:(nB s)[k]?=some c)(B:p c=false):zS p s k=k:=by
 have E:=ua h
 unfold zS
 rw[show s.size-k=(s.size-(k+1))+1 from cW,whF,h]
 grind
end
def xw(c:UInt8):Bool:=decide (c.toNat=32\/c.toNat=9\/c.toNat=10\/c.toNat=13)
def AZ(c:UInt8):Bool:=decide (c.toNat≠10)
def v9(c:UInt8):Bool:=lP c.toNat||qu c.toNat
def zT(c:UInt8):Bool:=qu c.toNat
def nj(s:ByteArray):Nat->Nat->Option Nat
 | 0,_=>none
 | n+1,a=>match (nB s)[a]? with
  | none=>some a
  | some c=>if xw c=true then nj s n (a+1)else if FL s a ⟨#[47,47]⟩=true then nj s n (zS AZ s a)else some a
theorem Um{s:ByteArray}{n a r:Nat}(h:nj s n a=some r):∃k,n=k+1:=by
 cases n with
 | zero=>cases h
 | succ k=>grind
section
variable {s:ByteArray}{n a r:Nat}{c:UInt8}
theorem YO(h:nj s (n+1) a=some r)(B:s.size<=a):r=a:=by
 unfold nj at h;rw[o3 (by rw[eX];exact B)]at h;grind
theorem Gt(h:nj s (n+1) a=some r)(hc:(nB s)[a]?=some c)(hb:xw c=true):nj s n (a+1)=some r:=by
 grind[nj]
theorem Mm(h:nj s (n+1) a=some r)(hc:(nB s)[a]?=some c)(hb:xw c=false)(B:FL s a ⟨#[47,47]⟩=true):nj s n (zS AZ s a)=some r:=by
 grind[nj,zS,AZ]
theorem Rz(h:nj s (n+1) a=some r)(hc:(nB s)[a]?=some c)(hb:xw c=false)(B:FL s a ⟨#[47,47]⟩=false):r=a:=by
 unfold nj at h;grind
theorem adE:∀(n a:Nat) (p:UInt8->Bool),a<=whF p s n a/\whF p s n a<=max a s.size
 | 0,a,p=>⟨r4 _,by unfold whF;omega⟩
 | n+1,a,p=>by
  unfold whF
  cases h:(nB s)[a]? with
  | none=>grind
  | some c=>
   dsimp only
   split
   .have:=adE n (a+1) p;have:=ua h;omega
   omega
theorem Un(p:UInt8->Bool):a<=zS p s a/\zS p s a<=max a s.size:=adE _ _ _
theorem Ez:∀{n a r:Nat},nj s n a=some r->a<=s.size->a<=r/\r<=s.size
 | 0,_,_,h,_=>by cases h
 | n+1,a,r,h,B=>by
  cases hc:(nB s)[a]? with
  | none=>unfold nj at h;grind
  | some c=>
   have E:=ua hc
   cases hb:xw c with
   | true=>have:=Ez (Gt h hc hb) cW;omega
   | false=>
    cases hr:FL s a ⟨#[47,47]⟩with
    | true=>have h1:=Un (s:=s) (a:=a) AZ;have:=Ez (Mm h hc hb hr) cW;omega
    | false=>have:=Rz h hc hb hr;omega
end
def GJ:List ByteArray:=[⟨#[61,61]⟩,⟨#[33,61]⟩,⟨#[60,61]⟩,⟨#[38,38]⟩,⟨#[124,124]⟩]
def tV(s:ByteArray)(a:Nat)(c:UInt8):Int:=if GJ.any (FL s a)=true then 2 else if (nB (k9 #[40,41,123,125,59,44,61,60,33,43,45,42,47,37])).any (λx=>decide ((x.toNat:Int)=c.toNat))=true then 1 else 0
def wU(l:List bP)(i:Int)(t:ByteArray):Bool:=decide (0<=i)&&(match l[i.toNat]? with|some x=>decide (x.text=t)&&decide (x.kind≠2)&&decide (1<=x.kind)&&decide (x.kind<=3)|none=>false)
def pz(l:List bP)(i:Int):Int:=match (if 0<=i then l[i.toNat]? else none)with
 | some x=>x.at_
 | none=>match l.getLast? with
  | some x=>x.at_+x.text.size
  | none=>0
def aiS:∀t∈GJ,t.size<=1000000:=dO
def wb{l:List bP}{i:Int}{t:ByteArray}(h:wU l i t=true):0<=i/\i<l.length:=by
 unfold wU at h
 grind
def C232(s t:ByteArray)(i:Int)(w:World)(O:s.size<=1000000)(I:t.size<=1000000)(M:0<=i/\i<=2000000):CR 232 [.string s,jK i,.string t] w (λv w'=>v=.bool (FL s i t)/\Ext w w'):=by
 have B:=St.start w;refine lx Tryz.func232 ?_;refine⟨λE w'=>E=.bool (FL s i t)/\w=w',iL jD (aN cW (iL jD (gL (aC (λ_=>iL jD (aN cW (Qb jD cW cW cW (xV ⟨vb (by unfold FL;grind),rfl⟩)))) λ_=>⟨vb (by unfold FL;grind),rfl⟩)))),?_⟩;rintro _ _ ⟨rfl,J⟩ _;subst J;exact⟨rfl,B.aE⟩
theorem C209(s:ByteArray)(i N r:Nat)(w:World)(hz:s.size<=4000)(h0:i<=s.size)(hr:nj s N i=some r):CR 209 [.string s,jK (i:Int)] w (λv w'=>v=jK (r:Int)/\Ext w w'):=by
 have hz0:=hz;replace hz:s.size<=1000000:=cW
 have B:=St.start w;refine lx Tryz.func209 ?_;refine⟨λJ x M=>∃a:Nat,x=jK (a:Int)/\a<=s.size/\nj s J a=some r/\St w aY [] M,⟨N,i,rfl,h0,hr,B⟩,?_⟩;rintro J _ M ⟨a,rfl,ha,O,B⟩ _;obtain⟨k,rfl⟩:=Um O;refine iL jD (aK (aC (λkG=>?_) λkG=>?_))
 .obtain⟨axZ,U⟩:∃xx,(nB s)[(a:Int).toNat]?=some xx:=⟨_,nT (by rw[eX];omega)⟩;refine nW jD cW U ⟨λjv w'=>jv=.bool (xw axZ)/\M=w',ry (aC (λ_=>⟨vb (by unfold xw;first|exact(gq cW).symm|exact hI.2 cW),rfl⟩) λ_=>ry (aC (λ_=>⟨vb (by unfold xw;first|exact(gq cW).symm|exact hI.2 cW),rfl⟩) λ_=>ry (aC (λ_=>⟨vb (by unfold xw;first|exact(gq cW).symm|exact hI.2 cW),rfl⟩) λ_=>ry ⟨vb (by unfold xw;first|exact(gq cW).symm|exact hI.2 cW),rfl⟩))),?_⟩
  rintro _ _ ⟨rfl,hw⟩ _;subst hw;refine aW (λV=>?_) (λV=>aZ akC B (C232 s (k9 #[47,47]) (a:Int) _ hz dO cW) λ_ he B=>aW (λmW=>?_) λmW=>?_)
  .refine aN cW ?_;have hal:=ua U;exact⟨k,cW,a+1,rfl,cW,Gt O U V,B⟩
  .refine⟨λJ x M=>∃j:Nat,x=jK (j:Int)/\J=s.size-j/\a<=j/\j<=s.size/\zS AZ s a=zS AZ s j/\St w aY [] M,⟨_,a,rfl,rfl,r4 _,ha,rfl,B⟩,?_⟩;rintro J _ w4 ⟨j,rfl,rfl,haj,hj,gj,B⟩ _;refine⟨λjv w'=>jv=.bool (match (nB s)[j]? with|some c=>AZ c|none=>false)/\w4=w',iL jD (aK (aC (λlj=>?_) λlj=>⟨vb (by first|(rw[show(nB s)[j]?=some so from qA];unfold AZ;exact hI.2 cW)|(rw[o3 (by rw[eX];omega)])),rfl⟩)),?_⟩
   .obtain⟨so,qA⟩:∃xx,(nB s)[(j:Int).toNat]?=some xx:=⟨_,nT (by rw[eX];omega)⟩;exact nW jD cW qA (aa6 ⟨vb (by first|(rw[show(nB s)[j]?=some so from qA];unfold AZ;exact hI.2 cW)|(rw[o3 (by rw[eX];omega)])),rfl⟩)
   rintro _ _ ⟨rfl,hw⟩ _;subst hw;refine aW (λE=>?_) (λE=>?_)
   .refine aN cW ?_
    have W:∃c,(nB s)[j]?=some c/\AZ c=true:=by
     cases hc:(nB s)[j]? with
     | none=>rw[hc]at E;cases E
     | some c=>rw[hc]at E;exact⟨c,rfl,E⟩
    obtain⟨cj,GK,YP⟩:=W;have hjl:=ua GK;exact⟨_,cW,j+1,rfl,rfl,cW,cW,gj.trans (J2 GK YP),B⟩
   have aGg:zS AZ s j=j:=by
    by_cases hjs:j<s.size
    .obtain⟨cj,W⟩:∃c,(nB s)[j]?=some c:=⟨_,nT (by rw[eX];exact hjs)⟩;rw[W]at E;exact J3 W E
    .exact Ob cW
   have I:=Mm O U V mW;rw[gj,aGg]at I;exact⟨k,cW,j,rfl,hj,I,B⟩
  have hx:=Rz O U V (by exact_mod_cast mW);subst hx;exact⟨rfl,B.aE⟩
 have hx:=YO O cW;subst hx;exact⟨rfl,B.aE⟩
def C210(s:ByteArray)(i:Nat)(c:UInt8)(w:World)(hz:s.size<=1000000)(hc:(nB s)[i]?=some c):CR 210 [.string s,jK (i:Int)] w (λv w'=>v=jK (tV s i c)/\Ext w w'):=by
 have hi:=ua hc;have B:=St.start w;refine uT Tryz.func210 (pl:=aC1) ?_;refine bJ GJ B pK rfl rfl (dV rfl) (λavj M B=>?_);refine⟨λI x M=>∃k:Nat,x=jK (k:Int)/\I=GJ.length-k/\k<=GJ.length/\(∀y∈GJ.take k,FL s i y=false)/\St w aY [bE avj GJ] M,⟨_,0,rfl,rfl,o6 _,eU,B⟩,?_⟩;rintro I _ _ ⟨k,rfl,rfl,hk,J,B⟩ _;refine aI pK B.fu ?_;have Pr:GJ.length=5:=rfl;refine aK (aC (λlq=>?_) λlq=>?_)
 .obtain⟨Wx,O⟩:=gx GJ (i:=(k:Int).toNat) cW;exact cH B pK cW cW (λ_ Jn=>eK B mJ Jn O (aZ akC B (C232 s Wx (i:Int) _ hz (aiS _ (ld O)) cW) λ_ _ B=>aW (λiF=>⟨hM (qs .i64) (by unfold tV;rw[fV (ko O iF)]),B.drop.aE⟩) λiF=>aN cW ⟨_,cW,k+1,rfl,rfl,cW,eY J O iF,B⟩))
 have B:=B.drop;refine⟨λI x M=>∃j:Nat,x=jK (j:Int)/\I=(k9 #[40,41,123,125,59,44,61,60,33,43,45,42,47,37]).size-j/\j<=(k9 #[40,41,123,125,59,44,61,60,33,43,45,42,47,37]).size/\(∀y∈(nB (k9 #[40,41,123,125,59,44,61,60,33,43,45,42,47,37])).take j,decide ((y.toNat:Int)=c.toNat)=false)/\St w aY [] M,⟨_,0,rfl,rfl,o6 _,eU,B⟩,?_⟩;rintro I _ _ ⟨j,rfl,rfl,hj,D0,B⟩ _;refine iL jD ?_;have Ld:(k9 #[40,41,123,125,59,44,61,60,33,43,45,42,47,37]).size=14:=rfl;refine aK (aC (λtN=>?_) λtN=>?_)
 .obtain⟨awY,FC⟩:∃U,(nB (k9 #[40,41,123,125,59,44,61,60,33,43,45,42,47,37]))[(j:Int).toNat]?=some U:=⟨_,nT (by rw[eX];omega)⟩;refine nW jD cW FC ?_;obtain⟨yi,rR⟩:∃U,(nB s)[(i:Int).toNat]?=some U:=⟨_,nT (by rw[eX];omega)⟩;refine nW jD cW rR ?_;obtain rfl:=qa.inj (rR.symm.trans hc);refine ry (aC (λV=>?_) λV=>aN cW (have B:=B.drew;⟨_,cW,j+1,rfl,rfl,cW,eY D0 FC (gD V),B⟩));have B:=B.drew;have E:GJ.any (FL s i)=false:=iX (by rw[mE cW]at J;exact J)
  exact⟨hM (qs .i64) (by unfold tV;rw[fU (by rw[E];simp),fV (ko FC (gq V))]),B.aE⟩
 have E:GJ.any (FL s i)=false:=iX (by rw[mE cW]at J;exact J);have W:=iX (g:=λx:UInt8=>decide ((x.toNat:Int)=c.toNat)) (by rw[mE (by rw[eX];omega)]at D0;exact D0);exact⟨hM (qs .i64) (by unfold tV;rw[fU (by rw[E];simp),fU (by rw[W];simp)]),B.aE⟩
def C211(lv:Value)(l:List bP)(i:Int)(t:ByteArray)(w:World)(I:eN (λ_=>True) w lv l)(hn:l.length<=1000000):CR 211 [lv,jK i,.string t] w (λv w'=>v=.bool (wU l i t)/\Ext w w'):=by
 have E:=St.start w;refine lx Tryz.func211 ?_;refine⟨λjv w'=>jv=.bool (wU l i t)/\w=w',cN (aC (λjr=>aI gZ (I.ext E.aE) (aK (aC (λlq=>?_) λlq=>⟨vb (by unfold wU;first|(rw[B];grind)|(rw[gD cW];rfl)|(rw[o3 cW];simp)),rfl⟩))) λjr=>⟨vb (by unfold wU;first|(rw[B];grind)|(rw[gD cW];rfl)|(rw[o3 cW];simp)),rfl⟩),?_⟩
 .obtain⟨J,B⟩:=gx l (i:=(i).toNat) cW;refine aQ gZ I cW B (λ_ M=>bO J.text pQ M rfl rfl λ_ jS=>aF mJ (jS.ext E.aE) (xV (aC (λiF=>?_) λiF=>⟨vb (by unfold wU;first|(rw[B];grind)|(rw[gD cW];rfl)|(rw[o3 cW];simp)),rfl⟩)));refine aQ gZ I cW B (λ_ tM=>?_);exact bO J.kind nF tM rfl rfl (λ_ si=>aF aV (si.ext E.aE) (bQ (aC (λuB=>aQ gZ I cW B λ_ V=>bO J.kind nF V rfl rfl λ_ W=>aF aV (W.ext E.aE) (cN (aC (λU=>aQ gZ I cW B λ_ wN=>bO J.kind nF wN rfl rfl λ_ O=>aF aV (O.ext E.aE) (gL ⟨vb (by unfold wU;first|(rw[B];grind)|(rw[gD cW];rfl)|(rw[o3 cW];simp)),rfl⟩)) λU=>⟨vb (by unfold wU;first|(rw[B];grind)|(rw[gD cW];rfl)|(rw[o3 cW];simp)),rfl⟩))) λuB=>⟨vb (by unfold wU;first|(rw[B];grind)|(rw[gD cW];rfl)|(rw[o3 cW];simp)),rfl⟩)))
 rintro _ _ ⟨rfl,hw⟩ _;subst hw;exact⟨rfl,E.aE⟩
def C215(lv:Value)(l:List bP)(i:Int)(w:World)(E:eN (λ_=>True) w lv l)(hn:l.length<=1000000)(vG:∀x∈l,0<=x.at_/\x.at_<=1000000/\x.text.size<=1000000):CR 215 [lv,jK i] w (λv w'=>v=jK (pz l i)/\Ext w w'):=by
 have B:=St.start w;refine uT Tryz.func215 (pl:=aC4) ?_;refine⟨λjv w'=>jv=.bool (decide (0<=i/\i<l.length))/\w=w',cN (aC (λ_=>aI gZ (E.ext B.aE) (aK ⟨uS cW,rfl⟩)) λ_=>⟨jvF cW,rfl⟩),?_⟩;rintro _ _ ⟨rfl,hw⟩ _;subst hw;refine aC (λkm=>?_) (λkm=>aI gZ (E.ext B.aE) (aH (aC (λW=>?_) λW=>?_)))
 .obtain⟨V,U⟩:=gx l (i:=(i).toNat) cW;exact aQ gZ E cW U (λ_ pS=>bO V.at_ nG pS rfl rfl λ_ vy=>aF aV (vy.ext B.aE) ⟨hM (qs .i64) (by unfold pz;rw[fV cW,U]),B.aE⟩)
 .have M:l=[]:=List.length_eq_zero_iff.1 cW;subst M;exact⟨hM (qs .i64) (by unfold pz;split<;>simp_all),B.aE⟩
 refine aI gZ (E.ext B.aE) (eW cW ?_);obtain⟨O,I⟩:=gx l (i:=((l.length:Int)-1).toNat) cW;refine aQ gZ E cW I (λ_ vJ=>bO O.at_ nG vJ rfl rfl λ_ sj=>have B:=B.drew;aF aV (sj.ext B.aE) (aI gZ (E.ext B.aE) (eW cW (aQ gZ E cW I λ_ AH=>bO O.text pQ AH rfl rfl λ_ vH=>aF mJ (vH.ext B.aE) (iL jD ?_)))));have hax:=vG _ (ld I);refine aN cW ?_;have J:l.getLast? = some O:=by rw[List.getLast?_eq_getElem?,<- I];congr 1;omega
 have gG:(if 0<=i then l[i.toNat]? else none)=none:=by split;exact o3 cW;rfl
 exact⟨hM (qs .i64) (by unfold pz;rw[gG,J]),B.aE⟩
def numOf(s:ByteArray)(a k:Nat):Int:=(((nB s).drop a).take (k-a)).foldl (λn c=>if n<=4294967296 then 10*n+((c.toNat:Int)-48)else n) 0
theorem W1(s:ByteArray)(a:Nat):numOf s a a=0:=by unfold numOf;grind
theorem C1{s:ByteArray}{a k:Nat}{c:UInt8}(B:a<=k)(h:(nB s)[k]?=some c):numOf s a (k+1)=if numOf s a k<=4294967296 then 10*numOf s a k+((c.toNat:Int)-48)else numOf s a k:=by
 unfold numOf
 rw[show k+1-a=(k-a)+1 from cW,xp,List.getElem?_drop,show a+(k-a)=k from cW,h,K0,LA]
 rfl
theorem aiT{s:ByteArray}{a:Nat}:∀{k:Nat},a<=k->k<=s.size->(∀j c,a<=j->j<k->(nB s)[j]?=some c->48<=(c.toNat:Int)/\(c.toNat:Int)<=57)->0<=numOf s a k/\numOf s a k<=42949672969:=by
 intro k
 induction k with
 | zero=>
  grind[nB,numOf]
 | succ k B=>
  intro E I hd
  by_cases e:a=k+1
  .subst e;rw[W1];omega
  .have:=B cW cW λj c h1 h2=>hd j c h1 cW
   obtain⟨c,hc⟩:∃c,(nB s)[k]?=some c:=⟨_,nT (by rw[eX];omega)⟩
   have h2:=hd k c cW cW hc
   rw[C1 cW hc]
   omega
def oT(s:ByteArray):Nat->Nat->List bP->Option (List bP×Int×Int)
 | 0,_,_=>none
 | n+1,a,out=>match (nB s)[a]? with
  | none=>some (out,0,0)
  | some c=>
   if lP c.toNat=true then(if 16<zS v9 s a-a then some ([],2,(a:Int))else(nj s (s.size+1) (zS v9 s a)).bind λB=>oT s n B (out++[⟨1,s.extract a (zS v9 s a),0,a⟩]))
   else if qu c.toNat=true then(if 4294967296<numOf s a (zS zT s a)then some ([],4,(a:Int))else(nj s (s.size+1) (zS zT s a)).bind λB=>oT s n B (out++[⟨2,s.extract a (zS zT s a),numOf s a (zS zT s a),a⟩]))
   else if tV s a c=0 then some ([],3,(a:Int))else(nj s (s.size+1) (a+(tV s a c).toNat)).bind λB=>oT s n B (out++[⟨3,s.extract a (a+(tV s a c).toNat),0,a⟩])
def yt(s:ByteArray):Option (List bP×Int×Int):=if 4000<s.size then some ([],2,4000)else(nj s (s.size+1) 0).bind λa=>oT s (s.size+2) a []
theorem Uo{s:ByteArray}{n a:Nat}{out:List bP}{r:List bP×Int×Int}(h:oT s n a out=some r):∃k,n=k+1:=by
 cases n with
 | zero=>cases h
 | succ k=>grind
def BM(s:ByteArray)(k a:Nat)(out:List bP)(R:List bP×Int×Int)(kd:Int)(e:Nat)(n:Int):Prop:=a<e/\e<=s.size/\∃B,nj s (s.size+1) e=some B/\oT s k B (out++[⟨kd,s.extract a e,n,a⟩])=some R
section
variable {s:ByteArray}{k a:Nat}{c:UInt8}{out:List bP}{R:List bP×Int×Int}
theorem YQ(h:oT s (k+1) a out=some R)(B:s.size<=a):R=(out,0,0):=by
 unfold oT at h;rw[o3 (by rw[eX];exact B)]at h;grind
theorem Lf(h:oT s (k+1) a out=some R)(hc:(nB s)[a]?=some c)(B:lP c.toNat=true)(hb:16<zS v9 s a-a):R=([],2,(a:Int)):=by
 unfold oT at h;grind
theorem FM{e:Nat}{kd n:Int}(h:((nj s (s.size+1) e).bind λB=>oT s k B (out++[⟨kd,s.extract a e,n,a⟩]))=some R)(h1:a<e)(h2:e<=s.size):BM s k a out R kd e n:=by
 cases hp:nj s (s.size+1) e with
 | none=>grind
 | some B=>grind[BM]
theorem YR(h:oT s (k+1) a out=some R)(hc:(nB s)[a]?=some c)(E:lP c.toNat=true)(hb:¬ 16<zS v9 s a-a)(B:a<zS v9 s a):BM s k a out R 1 (zS v9 s a) 0:=by
 unfold oT at h;rw[hc]at h;dsimp only at h;rw[fV E,fU hb]at h
 have:=ua hc;have h2:=Un (s:=s) (a:=a) v9
 exact FM h B cW
theorem Oc(h:oT s (k+1) a out=some R)(hc:(nB s)[a]?=some c)(B:lP c.toNat=false)(hd:qu c.toNat=true)(hb:4294967296<numOf s a (zS zT s a)):R=([],4,(a:Int)):=by
 unfold oT at h;grind
theorem adF(h:oT s (k+1) a out=some R)(hc:(nB s)[a]?=some c)(E:lP c.toNat=false)(hd:qu c.toNat=true)(hb:¬ 4294967296<numOf s a (zS zT s a))(B:a<zS zT s a):BM s k a out R 2 (zS zT s a) (numOf s a (zS zT s a)):=by
 unfold oT at h;rw[hc]at h;dsimp only at h;rw[fU eS,fV hd,fU hb]at h
 have:=ua hc;have h2:=Un (s:=s) (a:=a) zT
 exact FM h B cW
theorem YS(h:oT s (k+1) a out=some R)(hc:(nB s)[a]?=some c)(B:lP c.toNat=false)(hd:qu c.toNat=false)(hb:tV s a c=0):R=([],3,(a:Int)):=by
 unfold oT at h;grind
theorem adG(s:ByteArray)(a:Nat)(c:UInt8):tV s a c=0\/tV s a c=1\/tV s a c=2:=by
 grind[tV]
theorem W3{s:ByteArray}{a:Nat}{c:UInt8}(h:(nB s)[a]?=some c):(a:Int)+tV s a c<=s.size:=by
 have E:=ua h
 unfold tV
 split
 .rename_i h2
  rw[z6]at h2
  obtain⟨t,ht,hb⟩:=h2
  have:t.size=2:=by
   have B:∀t∈GJ,t.size=2:=dO
   grind
  unfold FL at hb
  grind
 omega
theorem YT(h:oT s (k+1) a out=some R)(hc:(nB s)[a]?=some c)(B:lP c.toNat=false)(hd:qu c.toNat=false)(hb:¬ tV s a c=0):BM s k a out R 3 (a+(tV s a c).toNat) 0:=by
 unfold oT at h;rw[hc]at h;dsimp only at h;rw[fU eS,fU eS,fU hb]at h
 have h1:=adG s a c;have h2:=W3 hc
 exact FM h cW cW
end
theorem C164(s:ByteArray)(R:List bP×Int×Int)(w:World)(hz1:s.size<=1000000)(hr:yt s=some R):CR 164 [.string s] w (λv w'=>∃o,v=.tuple #[o,jK R.2.1,jK R.2.2]/\mr (bE o R.1) w w'):=by
 have B:=St.start w;refine agn _ _ _ ?_;unfold S164;refine iL jD (cG (aC (λjz=>?_) λjz=>?_))
 .have U:([],2,4000)=R:=by unfold yt at hr;rw[fV cW]at hr;exact qa.inj hr
  subst U;exact⟨_,rfl,B.gA.fresh⟩
 have h4:s.size<=4000:=cW
 obtain⟨a0,ha0,hp0⟩:∃a0,nj s (s.size+1) 0=some a0/\oT s (s.size+2) a0 []=some R:=by
  unfold yt at hr;rw[fU cW]at hr;cases hq:nj s (s.size+1) 0 with
  | none=>rw[hq]at hr;cases hr
  | some a0=>rw[hq]at hr;exact⟨a0,rfl,hr⟩
 have aGi:=Ez ha0 cW;refine bJ ([]:List bP) B gZ rfl rfl (dV rfl) (λs_x12 _ B=>aZ aky B (C209 s 0 (s.size+1) a0 _ cW cW ha0) λ_ he B=>?_);refine⟨λmm o x w'=>∃(a:Nat) (out:List bP),x=jK (a:Int)/\a<=s.size/\out.length<=a/\oT s mm a out=some R/\St w aY [bE o out] w',⟨_,a0,[],rfl,aGi.2,o6 _,hp0,B⟩,?_⟩;rintro mm BU _ _ ⟨a,out,rfl,ha,Ld,hp,B⟩ _;obtain⟨k,rfl⟩:=Uo hp;refine iL jD (aK (aC (λg9=>pop (aaX _) (aR B ag6 λYU _ B=>aO (x:=(⟨0,(k9 #[]),0,(a:Int)⟩:bP)) B akO rfl rfl λ_ B=>⟨λto w'=>∃(kd:Int) (e:Nat) (n:Int),to=jK (e:Int)/\BM s k a out R kd e n/\St w aY [cI YU (kp (⟨kd,k9 #[],n,(a:Int)⟩:bP)),bE BU out] w',?_,?_⟩)) λg9=>?_))
 .obtain⟨jH,jW⟩:∃xx,(nB s)[(a:Int).toNat]?=some xx:=⟨_,nT (by rw[eX];omega)⟩;refine nW jD cW jW ?_;have E:(nB s)[a]?=some jH:=jW;refine aZ VI B (C206 _ _) (λ_ he B=>aW (λfX=>?_) λfX=>?_)
  .have Sw:=fX;refine aA nF (aS B aV (dV rfl) (rfl) λ_ B=>?_);have B:=B.enc (cs':=kp ({ (⟨0,(k9 #[]),0,(a:Int)⟩:bP)with kind:=1}:bP)) rfl;have B:=B.p1.p1;refine⟨λmm x w'=>∃j:Nat,x=jK (j:Int)/\mm=s.size-j/\a<=j/\j<=s.size/\zS v9 s a=zS v9 s j/\St w aY [cI YU (kp (⟨1,k9 #[],0,(a:Int)⟩:bP)),bE BU out] w',⟨_,a,rfl,rfl,r4 _,ha,rfl,B⟩,?_⟩;rintro mm _ _ ⟨j,rfl,rfl,haj,hj,gj,B⟩ _;refine⟨λjv w'=>jv=.bool (match (nB s)[j]? with|some c=>v9 c|none=>false)/\St w aY [cI YU (kp (⟨1,k9 #[],0,(a:Int)⟩:bP)),bE BU out] w',iL jD (aK (aC (λuB=>?_) λuB=>⟨vb (by first|(rw[show(nB s)[j]?=some M from rR];show _=(lP M.toNat||qu M.toNat);rw[lj];rfl)|(rw[o3 (by rw[eX];omega)])),B⟩)),?_⟩
   .obtain⟨M,rR⟩:∃xx,(nB s)[(j:Int).toNat]?=some xx:=⟨_,nT (by rw[eX];omega)⟩;refine nW jD cW rR ?_;have hcj0:(nB s)[j]?=some M:=rR;exact aZ VI B (C206 _ _) (λ_ he B=>aW (λlj=>⟨vb (by first|(rw[show(nB s)[j]?=some M from rR];show _=(lP M.toNat||qu M.toNat);rw[lj];rfl)|(rw[o3 (by rw[eX];omega)])),B⟩) λlj=>nW jD cW rR (aZ VJ B (C208 _ _) λ_ he B=>⟨vb (by first|(rw[show(nB s)[j]?=some M from rR];show _=(lP M.toNat||qu M.toNat);rw[lj];rfl)|(rw[o3 (by rw[eX];omega)])),B⟩))
   rintro _ _ ⟨rfl,B⟩ _;refine aW (λpY=>?_) (λpY=>?_)
   .refine aN cW ?_
    have V:∃c,(nB s)[j]?=some c/\v9 c=true:=by
     cases hc:(nB s)[j]? with
     | none=>rw[hc]at pY;cases pY
     | some c=>rw[hc]at pY;exact⟨c,rfl,pY⟩
    obtain⟨cj,O,YP⟩:=V;have hjl:=ua O;exact⟨_,cW,j+1,rfl,rfl,cW,cW,gj.trans (J2 O YP),B⟩
   have Od:zS v9 s j=j:=by
    by_cases hjs:j<s.size
    .obtain⟨cj,V⟩:∃c,(nB s)[j]?=some c:=⟨_,nT (by rw[eX];exact hjs)⟩;rw[V]at pY;exact J3 V pY
    .exact Ob cW
   refine eW cW (cG (aC (λyf=>?_) λyf=>?_))
   .have B:=B.drop.drop;have U:=Lf hp E Sw (by rw[gj,Od];omega);subst U;exact⟨_,rfl,B.gA.fresh⟩
   have B:=B.p1.p1
   have hgt:a<j:=by
    rcases W4 a j with h|h
    .exact h
    .obtain rfl:j=a:=cW
     rw[E]at pY;have h9:v9 jH=false:=pY;unfold v9 at h9;rw[Sw]at h9;cases h9
   have I:=YR hp E Sw (by rw[gj,Od];omega) (by rw[gj,Od];exact hgt);rw[gj,Od]at I;exact⟨1,j,0,rfl,I,B⟩
  have Sw:=fX;refine nW jD cW jW (aZ VJ B (C208 _ _) λ_ he B=>aW (λGe=>?_) λGe=>?_)
  .have J:=Ge;refine aA nF (aS B aV (dV rfl) (rfl) λ_ B=>?_);have B:=B.enc (cs':=kp ({ (⟨0,(k9 #[]),0,(a:Int)⟩:bP)with kind:=2}:bP)) rfl;have B:=B.p1.p1;refine⟨λmm x w'=>∃j:Nat,x=jK (j:Int)/\mm=s.size-j/\a<=j/\j<=s.size/\zS zT s a=zS zT s j/\(∀(i:Nat) (c:UInt8),a<=i->i<j->(nB s)[i]?=some c->48<=(c.toNat:Int)/\(c.toNat:Int)<=57)/\St w aY [cI YU (kp (⟨2,k9 #[],(numOf s a j),(a:Int)⟩:bP)),bE BU out] w',⟨_,a,rfl,rfl,r4 _,ha,rfl,λ_ _ h1 _=>absurd h1 cW,by rw[W1];exact B⟩,?_⟩;rintro mm _ _ ⟨j,rfl,rfl,haj,hj,gj,hdg,B⟩ _
   refine⟨λjv w'=>jv=.bool (match (nB s)[j]? with|some c=>zT c|none=>false)/\St w aY [cI YU (kp (⟨2,k9 #[],(numOf s a j),(a:Int)⟩:bP)),bE BU out] w',iL jD (aK (aC (λzB=>?_) λzB=>⟨vb (by first|(rw[show(nB s)[j]?=some ame from Up];rfl)|(rw[o3 (by rw[eX];omega)])),B⟩)),?_⟩
   .obtain⟨ame,Up⟩:∃xx,(nB s)[(j:Int).toNat]?=some xx:=⟨_,nT (by rw[eX];omega)⟩;exact nW jD cW Up (aZ VJ B (C208 _ _) λ_ he B=>⟨vb (by first|(rw[show(nB s)[j]?=some ame from Up];rfl)|(rw[o3 (by rw[eX];omega)])),B⟩)
   rintro _ _ ⟨rfl,B⟩ _;refine aW (λW=>?_) (λW=>?_)
   .have V:∃c,(nB s)[j]?=some c/\zT c=true:=by
     cases hc:(nB s)[j]? with
     | none=>rw[hc]at W;cases W
     | some c=>rw[hc]at W;exact⟨c,rfl,W⟩
    obtain⟨cj,O,YP⟩:=V;have hjl:=ua O;have hcd:=YP;unfold zT qu at hcd;rw[decide_eq_true_eq]at hcd;have hnb:=aiT haj cW hdg;refine⟨λw'=>St w aY [cI YU (kp (⟨2,k9 #[],(numOf s a (j+1)),(a:Int)⟩:bP)),bE BU out] w',aA vq (aB (v:=jK (numOf s a j)) aV B.hb rfl (gL (aC (λvu=>?_) λvu=>?_))),?_⟩
    .refine aA vq (have B:=B.drew;aB (v:=jK (numOf s a j)) aV B.hb rfl (Na cW ?_));obtain⟨ax2,adI⟩:∃xx,(nB s)[(j:Int).toNat]?=some xx:=⟨_,nT (by rw[eX];omega)⟩;refine nW jD cW adI ?_;obtain rfl:=qa.inj (adI.symm.trans (show(nB s)[(j:Int).toNat]?=some cj from O));refine adx cW (YM BV sD cW (aN cW (aA vq (aS B aV (dV rfl) (rfl) λ_ B=>?_))));have B:=B.enc (cs':=kp ({ (⟨2,k9 #[],(numOf s a j),(a:Int)⟩:bP)with n:=((10*(numOf s a j))+((ax2.toNat:Int)-48))}:bP)) rfl
     have B:=B.p1.p1;rw[C1 haj O,fV vu];exact B
    .have B:=B.p1.p1;rw[C1 haj O,fU vu];exact B
    intro _ B _;refine aN cW ?_
    exact⟨_,cW,j+1,rfl,rfl,cW,cW,gj.trans (J2 O YP),λi c h1 h2 h3=>by
     by_cases e:i=j
     .subst e;obtain rfl:=qa.inj (h3.symm.trans O);omega
     .exact hdg i c h1 cW h3,B⟩
   have Od:zS zT s j=j:=by
    by_cases hjs:j<s.size
    .obtain⟨cj,V⟩:∃c,(nB s)[j]?=some c:=⟨_,nT (by rw[eX];exact hjs)⟩;rw[V]at W;exact J3 V W
    .exact Ob cW
   refine aA vq (aB (v:=jK (numOf s a j)) aV B.hb rfl (cG (aC (λGf=>?_) λGf=>?_)))
   .have B:=B.drop.drop;have U:=Oc hp E Sw J (by rw[gj,Od];omega);subst U;exact⟨_,rfl,B.gA.fresh⟩
   have B:=B.p1.p1
   have hgt:a<j:=by
    rcases W4 a j with h|h
    .exact h
    .obtain rfl:j=a:=cW
     rw[E]at W;have h9:zT jH=false:=W;unfold zT at h9;rw[J]at h9;cases h9
   have I:=adF hp E Sw J (by rw[gj,Od];omega) (by rw[gj,Od];exact hgt);rw[gj,Od]at I;exact⟨2,j,_,rfl,I,B⟩
  have J:=Ge;have hsb:=adG s a jH;have hsi:=W3 E;refine aA nF (aS B aV (dV rfl) (rfl) λ_ B=>have B:=B.enc (cs':=kp ({ (⟨0,(k9 #[]),0,(a:Int)⟩:bP)with kind:=3}:bP)) rfl;aZ at3 B (C210 s a jH _ hz1 E) λ_ he B=>aN cW (aH (aC (λacV=>?_) λacV=>?_)))
  .have B:=B.drop.drop;have U:=YS hp E Sw J cW;subst U;exact⟨_,rfl,B.gA.fresh⟩
  have B:=B.p1.p1;have I:=YT hp E Sw J cW;exact⟨3,a+(tV s a jH).toNat,0,by congr 1;omega,I,B⟩
 .rintro _ _ ⟨kd,e,n,rfl,I,B⟩ _;have aGj:=I;obtain⟨h1e0,h2e0,_⟩:=aGj;refine Qb jD cW cW cW (aA pQ (aS B mJ (dV rfl) (rfl) λ_ B=>have B:=B.enc (cs':=kp ({ (⟨kd,k9 #[],n,(a:Int)⟩:bP)with text:=(s.extract (a:Int).toNat (e:Int).toNat)}:bP)) rfl;aF akO B.At (bJ ([(⟨kd,s.extract (a:Int).toNat (e:Int).toNat,n,(a:Int)⟩:bP)]) B gZ rfl rfl (dV rfl) λap6 _ B=>?_)));have aiU:=B.fu;refine bW B.p2 gZ aiU (by simp;omega) dO (λap7 _ B=>?_);have B:=B.p1.drop;obtain⟨h1e,h2e,a2,ha2,hp2⟩:=I
  have aGk:=Ez ha2 h2e;exact aZ aky B (C209 s e (s.size+1) a2 _ cW cW ha2) (λ_ _ B=>have B:=B.p1.drop;⟨k,cW,a2,_,rfl,aGk.2,by simp;omega,hp2,B⟩)
 have U:=YQ hp cW;subst U;exact⟨_,rfl,B.fresh⟩
structure ia where
 l:(List dP)
 to:Int
 e:Int
 at_:Int
deriving DecidableEq
structure eF where
 l:SV
 to:Int
 e:Int
 at_:Int
instance:Flat eF where
 agg:=true
 sz:=4
 enc e:=[.slice e.l.a e.l.n e.l.cap,jK e.to,jK e.e,jK e.at_]
 val e:=.agg [.slice e.l.a e.l.n e.l.cap,jK e.to,jK e.e,jK e.at_].toArray
 pos:=dO
 len _:=rfl
 one a v h:=by grind[vh]
 qo _ _:=rfl
 qp h:=by cases h
instance:Deep ia eF where
 dr w s x:=∃(B:SV),s=(⟨B,x.to,x.e,x.at_⟩:eF)/\DL w (j6 B) x.l
 ext h e:=by
  obtain⟨I,rfl,E⟩:=h
  exact⟨I,rfl,E.ext e⟩
def nz{w:World}{sh:eF}{x:ia}(h:py w sh x):DL w (j6 sh.l) x.l:=by obtain⟨_,rfl,h⟩:=h;exact h
def ub(n:Int):List Int:=if n=0 then [15]else if n=1 then [14]else if n=2 then [10,11,12,13]else if n=3 then [5,6]else [7,8,9]
def Hj:List ByteArray:=[⟨#[]⟩,⟨#[]⟩,⟨#[]⟩,⟨#[45]⟩,⟨#[33]⟩,⟨#[43]⟩,⟨#[45]⟩,⟨#[42]⟩,⟨#[47]⟩,⟨#[37]⟩,⟨#[61,61]⟩,⟨#[33,61]⟩,⟨#[60]⟩,⟨#[60,61]⟩,⟨#[38,38]⟩,⟨#[124,124]⟩]
def RA(k:Int):ByteArray:=(Hj[k.toNat]?).getD ⟨#[]⟩
def iQ(l:List bP)(i e:Int):ia:=⟨[],0,if (l.length:Int)<=i then 6 else e,pz l i⟩
abbrev ax3(r:ia)(w:World):=qZ λv w'=>∃sh:eF,v=j6 sh/\mr (fB λw=>py w sh r) w w'
def ap8(l:List bP)(rec:Int->Int->Int->Option ia):Prop:=∀(lv:Value) (i d n:Int) (r:ia) (w:World),eN (λ_=>True) w lv l->rec i d n=some r->0<=i/\i<=l.length->0<=d/\d<=12->0<=n/\n<=5->
 Calls ji 235 [lv,jK i,jK d,jK n].toArray w (ax3 r w)/\(n=5->Calls ji 257 [lv,jK i,jK d].toArray w (ax3 r w))
structure kz(l:List bP):Prop where
 n:l.length<=5000
 at_:∀x∈l,0<=x.at_/\x.at_<=1000000/\x.text.size<=1000000
def YV(l:List bP)(i:Int):Bool:=wU l i ⟨#[33]⟩||wU l i ⟨#[45]⟩
def rX(rec:Int->Int->Int->Option ia)(l:List bP)(i d:Int):Option ia:=
 match (if (l.length:Int)<=i then none else l[i.toNat]?)with
 | none=>some (iQ l i 6)
 | some t=>if ((YV l i||wU l i ⟨#[40]⟩)&&decide (d=12))=true then some (iQ l i 7)
  else if YV l i=true then(rec (i+1) (d+1) 5).bind λx=>if x.l.length<=10000 then some (if x.e≠0 then x else {x with l:=[⟨if t.text=⟨#[45]⟩then 3 else 4,0,⟨#[]⟩,t.at_⟩]++x.l})else none
  else if wU l i ⟨#[40]⟩=true then(rec (i+1) (d+1) 0).bind λx=>some (if x.e≠0 then x else if wU l x.to ⟨#[41]⟩=true then {x with to:=x.to+1}else iQ l x.to 5)
  else if t.kind=2 then some ⟨[⟨1,t.n,⟨#[]⟩,t.at_⟩],i+1,0,0⟩
  else if (decide (t.kind=1)&&mD t.text)=true then some ⟨[⟨2,0,t.text,t.at_⟩],i+1,0,0⟩
  else some (iQ l i 5)
def J5(l:List bP)(to n:Int)(k:Nat):Int:=((ub n).take k).foldl (λop f=>if wU l to (RA f)=true then f else op) 0
def Oe(l:List bP)(to n:Int):Int:=J5 l to n (ub n).length
theorem Mn{l:List bP}{to n:Int}{k:Nat}{f:Int}(h:(ub n)[k]?=some f):J5 l to n (k+1)=if wU l to (RA f)=true then f else J5 l to n k:=by
 unfold J5;rw[xp,h,K0,LA];rfl
def zJ(rec:Int->Int->Int->Option ia)(l:List bP)(d n:Int):Nat->ia->Option ia
 | 0,_=>none
 | k+1,x=>if x.e≠0 then some x else if Oe l x.to n=0 then some x else match (if 0<=x.to then l[x.to.toNat]? else none)with
  | none=>none
  | some t=>match rec (x.to+1) d (n+1)with
   | none=>none
   | some y=>if y.e≠0 then some y else if x.l.length+y.l.length<=10000 then
     (if n=2 then some ⟨[⟨Oe l x.to n,0,⟨#[]⟩,t.at_⟩]++x.l++y.l,y.to,0,0⟩else zJ rec l d n k ⟨[⟨Oe l x.to n,0,⟨#[]⟩,t.at_⟩]++x.l++y.l,y.to,0,0⟩)else none
def Mp(l:List bP):Nat->Int->Int->Int->Option ia
 | 0,_,_,_=>none
 | k+1,i,d,n=>if n=5 then rX (Mp l k) l i d else(Mp l k i d (n+1)).bind (zJ (Mp l k) l d n k)
def adJ{n:Int}{k:Nat}{f:Int}(h:(ub n)[k]?=some f):5<=f/\f<=15:=by
 have B:=ld h
 unfold ub at B
 grind
section
variable {rec:Int->Int->Int->Option ia}{l:List bP}{i d n:Int}{r x y:ia}{t:bP}{k:Nat}
theorem Uq(h:rX rec l i d=some r)(B:(l.length:Int)<=i):r=iQ l i 6:=by
 unfold rX at h;grind
theorem RB(h:rX rec l i d=some r)(B:¬ (l.length:Int)<=i)(ht:l[i.toNat]?=some t)(hd:((YV l i||wU l i ⟨#[40]⟩)&&decide (d=12))=true):r=iQ l i 7:=by
 unfold rX at h;grind
theorem YW(h:rX rec l i d=some r)(E:¬ (l.length:Int)<=i)(ht:l[i.toNat]?=some t)(hd:((YV l i||wU l i ⟨#[40]⟩)&&decide (d=12))=false)(B:YV l i=true) :
  ∃x,rec (i+1) (d+1) 5=some x/\x.l.length<=10000/\r=if x.e≠0 then x else {x with l:=[⟨if t.text=⟨#[45]⟩then 3 else 4,0,⟨#[]⟩,t.at_⟩]++x.l}:=by
 unfold rX at h;rw[fU E,ht]at h;dsimp only at h;rw[fU eS,fV B]at h
 cases hr:rec (i+1) (d+1) 5 with
 | none=>grind
 | some x=>
  grind
theorem RC(h:rX rec l i d=some r)(E:¬ (l.length:Int)<=i)(ht:l[i.toNat]?=some t)(hd:((YV l i||wU l i ⟨#[40]⟩)&&decide (d=12))=false)(I:YV l i=false)(B:wU l i ⟨#[40]⟩=true) :
  ∃x,rec (i+1) (d+1) 0=some x/\r=if x.e≠0 then x else if wU l x.to ⟨#[41]⟩=true then {x with to:=x.to+1}else iQ l x.to 5:=by
 unfold rX at h;rw[fU E,ht]at h;dsimp only at h;rw[fU eS,fU eS,fV B]at h
 cases hr:rec (i+1) (d+1) 0 with
 | none=>grind
 | some x=>grind
theorem RD(h:rX rec l i d=some r)(I:¬ (l.length:Int)<=i)(ht:l[i.toNat]?=some t)(hd:((YV l i||wU l i ⟨#[40]⟩)&&decide (d=12))=false)(E:YV l i=false)(B:wU l i ⟨#[40]⟩=false) :
  r=if t.kind=2 then⟨[⟨1,t.n,⟨#[]⟩,t.at_⟩],i+1,0,0⟩else if (decide (t.kind=1)&&mD t.text)=true then⟨[⟨2,0,t.text,t.at_⟩],i+1,0,0⟩else iQ l i 5:=by
 unfold rX at h;grind
theorem Ur(h:zJ rec l d n k x=some r):∃j,k=j+1:=by
 cases k with
 | zero=>cases h
 | succ j=>grind
theorem aiV(h:zJ rec l d n (k+1) x=some r)(B:x.e≠0):r=x:=by
 unfold zJ at h;grind
theorem adK(h:zJ rec l d n (k+1) x=some r)(E:¬ x.e≠0)(B:Oe l x.to n=0):r=x:=by
 unfold zJ at h;grind
theorem adL(h:zJ rec l d n (k+1) x=some r)(E:¬ x.e≠0)(B:¬ Oe l x.to n=0):∃t y,0<=x.to/\l[x.to.toNat]?=some t/\rec (x.to+1) d (n+1)=some y/\(y.e≠0->r=y)/\
  (¬ y.e≠0->x.l.length+y.l.length<=10000/\(n=2->r=⟨[⟨Oe l x.to n,0,⟨#[]⟩,t.at_⟩]++x.l++y.l,y.to,0,0⟩)/\(¬ n=2->zJ rec l d n k ⟨[⟨Oe l x.to n,0,⟨#[]⟩,t.at_⟩]++x.l++y.l,y.to,0,0⟩=some r)):=by
 unfold zJ at h;grind
theorem amf(h:Mp l (k+1) i d 5=some r):rX (Mp l k) l i d=some r:=by grind[rX,Mp]
theorem ax4(h:Mp l (k+1) i d n=some r)(B:¬ n=5):∃x,Mp l k i d (n+1)=some x/\zJ (Mp l k) l d n k x=some r:=by
 unfold Mp at h;rw[fU B]at h
 cases hx:Mp l k i d (n+1)with
 | none=>grind
 | some x=>grind
end
def zK(l:List bP)(i:Int):Option (List dP×Int×Int×Int):=if i<0 then some ([],0,1,0)else(Mp l 10000 i 0 0).bind λx=>
 if x.e≠0 then some ([],0,x.e,x.at_)else match DV x.l,l[i.toNat]? with
  | some t,some k=>if x.l.length<=10000 then(if 12<t.depth then some ([],0,7,k.at_)else if 40<x.l.length then some ([],0,2,k.at_)else some (x.l,x.to,0,0))else none
  | _,_=>none
def Us(n:Int):(ub n).length<=4:=by
 grind[ub]
def C258(n:Int)(w:World)(hn:0<=n/\n<=4):CR 258 [jK n] w (λv w'=>mr (bE v (ub n)) w w'):=by
 have B:=St.start w;refine lx Tryz.func258 ?_;refine bJ ([15]:List Int) B cE rfl rfl (dV rfl) (λax5 _ B=>bJ ([14]:List Int) B cE rfl rfl (dV rfl) λW _ B=>bJ ([10,11,12,13]:List Int) B cE rfl rfl (dV rfl) λNA _ B=>bJ ([5,6]:List Int) B cE rfl rfl (dV rfl) λabF _ B=>bJ ([7,8,9]:List Int) B cE rfl rfl (dV rfl) λabJ _ B=>?_);obtain⟨V,rfl⟩:=B.p4.gE;obtain⟨J,rfl⟩:=B.p3.gE;obtain⟨U,rfl⟩:=B.p2.gE;obtain⟨O,rfl⟩:=B.p1.gE;obtain⟨M,rfl⟩:=B.gE;refine bJ ([V,J,U,O,M]) B nd rfl rfl (dV rfl) (λzQ _ B=>?_)
 have B:=(((((((((((B.ahc (α:=Int)).p6).p1).Il).p5).p1).Il).p4).p1).Il).p3).p1;have B:=B.Il.p2.p1.Il;obtain rfl|rfl|rfl|rfl|rfl:n=0\/n=1\/n=2\/n=3\/n=4:=cW
 .have I:=B.DE;exact cH B.p1 nd dO eU (λ_ E=>eK B.p1 cZ E (show _=some V from rfl) (have B:=B.split;B.fresh))
 .have I:=B.DE;exact cH B.p1 nd dO eU (λ_ E=>eK B.p1 cZ E (show _=some J from rfl) (have B:=B.split.drop.split;B.fresh))
 .have I:=B.DE;exact cH B.p1 nd dO eU (λ_ E=>eK B.p1 cZ E (show _=some U from rfl) (have B:=B.split.drop.split.drop.split;B.fresh))
 .have I:=B.DE;exact cH B.p1 nd dO eU (λ_ E=>eK B.p1 cZ E (show _=some O from rfl) (have B:=B.split.drop.split.drop.split.drop.split;B.fresh))
 have I:=B.DE;exact cH B.p1 nd dO eU (λ_ E=>eK B.p1 cZ E (show _=some M from rfl) (have B:=B.split.drop.split.drop.split.drop.split.drop.split;B.fresh))
def C259(k:Int)(w:World)(U:0<=k/\k<=15):CR 259 [jK k] w (λv w'=>v=.string (RA k)/\Ext w w'):=by
 have B:=St.start w;refine lx Tryz.func259 ?_;refine bJ Hj B pK rfl rfl (dV rfl) (λJ _ B=>?_);have O:Hj.length=16:=rfl;obtain⟨I,E⟩:=gx Hj (i:=k.toNat) cW;refine cH B pK cW cW (λ_ M=>eK B mJ M E ?_);refine⟨?_,B.drop.aE⟩;unfold RA;rw[E];rfl
def C263(lv:Value)(l:List bP)(i e:Int)(w:World)(I:eN (λ_=>True) w lv l)(E:kz l):CR 263 [lv,jK i,jK e] w (λv w'=>∃sh:eF,v=j6 sh/\mr (fB λw=>py w sh (iQ l i e)) w w'):=by
 have KD:=E.n;have O:l.length<=1000000:=cW
 have U:=E.at_;have B:=St.start w;refine agT _ _ _ _ _ ?_;unfold S263;refine aR B wJ (λW J B=>have B:=B.enc (cs':=kp (⟨bL,0,0,0⟩:eF)) rfl;⟨λM w'=>M=jK (if (l.length:Int)<=i then 6 else e)/\J=w',aI gZ (I.ext B.aE) (cN (aC (λ_=>⟨by rw[fV cW],rfl⟩) λ_=>⟨by rw[fU cW],rfl⟩)),?_⟩);rintro _ _ ⟨rfl,V⟩ _;subst V;exact aZ LC B (C215 _ l i _ (I.ext B.aE) O U) (λ_ _ B=>pop (S4 _ _) (aO (x:=(⟨bL,0,(if (l.length:Int)<=i then 6 else e),(pz l i)⟩:eF)) B iu rfl rfl λ_ B=>aF iu B.At (have B:=B.iK (Φ:=(λw=>py w (⟨bL,0,(if (l.length:Int)<=i then 6 else e),(pz l i)⟩:eF) (⟨[],0,(if (l.length:Int)<=i then 6 else e),(pz l i)⟩:ia))) (λ_=>⟨_,rfl,DL.nil _⟩);have B:=B.p1.drop;⟨_,rfl,B.fresh⟩)))
def C257(l:List bP)(rec:Int->Int->Int->Option ia)(lv:Value)(i d:Int)(r:ia)(w:World)(I:eN (λ_=>True) w lv l)(hk:kz l)(HR:ap8 l rec)(h0:0<=i/\i<=l.length)(hd:0<=d/\d<=12)(hr:rX rec l i d=some r):CR 257 [lv,jK i,jK d] w (λv w'=>∃sh:eF,v=j6 sh/\mr (fB λw=>py w sh r) w w'):=by
 have KD:=hk.n;have hn:l.length<=1000000:=cW
 have vG:=hk.at_;have B:=St.start w;refine agS _ _ _ _ _ ?_;unfold S257;refine aR B wJ (λLa _ B=>have B:=B.enc (cs':=kp (⟨bL,0,0,0⟩:eF)) rfl;aI gZ (I.ext B.aE) (cN (aC (λfT=>?_) λfT=>?_)))
 .refine eR VL (C263 _ l i 6 _ (I.ext B.aE) hk) ?_;rintro _ _ ⟨ap9,rfl,V⟩;have B:=B.made V;obtain⟨EA,Ut,_⟩:=B.fB;subst Ut;refine aO (x:=(⟨EA,(iQ l i 6).to,(iQ l i 6).e,(iQ l i 6).at_⟩:eF)) B.p1 iu rfl rfl (λ_ B=>aF iu B.At ?_);have M:r=(⟨(iQ l i 6).l,(iQ l i 6).to,(iQ l i 6).e,(iQ l i 6).at_⟩:ia):=Uq hr cW;rw[M];have B:=B.p1.dT (Ψ:=(λw=>py w (⟨EA,(iQ l i 6).to,(iQ l i 6).e,(iQ l i 6).at_⟩:eF) (⟨(iQ l i 6).l,(iQ l i 6).to,(iQ l i 6).e,(iQ l i 6).at_⟩:ia))) (λ_ h=>⟨_,rfl,nz h⟩)
  have B:=B.p1.drop;exact⟨_,rfl,B.fresh⟩
 obtain⟨t,ht⟩:=gx l (i:=i.toNat) cW;have hta:=vG t (ld ht);refine⟨λjv w'=>jv=.bool (YV l i)/\St w aY [cI La (kp (⟨bL,0,0,0⟩:eF))] w',aZ zz B (C211 _ l i (k9 #[33]) _ (I.ext B.aE) hn) (λ_ _ B=>aW (λiF=>⟨vb (by unfold YV;rw[iF];rfl),B⟩) λiF=>aZ zz B (C211 _ l i (k9 #[45]) _ (I.ext B.aE) hn) λ_ _ B=>⟨vb (by unfold YV;rw[iF];rfl),B⟩),?_⟩;rintro _ _ ⟨rfl,B⟩ _;refine aZ zz B (C211 _ l i (k9 #[40]) _ (I.ext B.aE) hn) (λ_ he B=>⟨λjv w'=>jv=.bool ((YV l i||wU l i (k9 #[40]))&&decide (d=12))/\St w aY [cI La (kp (⟨bL,0,0,0⟩:eF))] w',aW (λJ=>aH ⟨vb (by first|(rw[J];simp;done)|(rw[J,U];simp;done)|(rw[J];rfl)|(rw[J,U];rfl)),B⟩) (λJ=>aW (λU=>aH ⟨vb (by first|(rw[J];simp;done)|(rw[J,U];simp;done)|(rw[J];rfl)|(rw[J,U];rfl)),B⟩) λU=>⟨vb (by first|(rw[J];simp;done)|(rw[J,U];simp;done)|(rw[J];rfl)|(rw[J,U];rfl)),B⟩),?_⟩)
 rintro _ _ ⟨rfl,B⟩ _;refine aW (λW=>?_) (λW=>aW (λJ=>?_) λJ=>aW (λU=>?_) λU=>?_)
 .refine eR VL (C263 _ l i 7 _ (I.ext B.aE) hk) ?_;rintro _ _ ⟨aGm,rfl,V⟩;have B:=B.made V;obtain⟨W8,aqa,_⟩:=B.fB;subst aqa;refine aO (x:=(⟨W8,(iQ l i 7).to,(iQ l i 7).e,(iQ l i 7).at_⟩:eF)) B.p1 iu rfl rfl (λ_ B=>aF iu B.At ?_);have M:r=(⟨(iQ l i 7).l,(iQ l i 7).to,(iQ l i 7).e,(iQ l i 7).at_⟩:ia):=RB hr cW ht W;rw[M];have B:=B.p1.dT (Ψ:=(λw=>py w (⟨W8,(iQ l i 7).to,(iQ l i 7).e,(iQ l i 7).at_⟩:eF) (⟨(iQ l i 7).l,(iQ l i 7).to,(iQ l i 7).e,(iQ l i 7).at_⟩:ia))) (λ_ h=>⟨_,rfl,nz h⟩)
  have B:=B.p1.drop;exact⟨_,rfl,B.fresh⟩
 .refine aN cW (aN cW ?_);have aGn:¬ d=12:=λh=>by rw[J,gq h]at W;cases W
  obtain⟨E,hx1,Vs,O⟩:=YW hr cW ht W J;refine eR akF ((HR _ (i+1) (d+1) 5 E _ (I.ext B.aE) hx1 cW cW cW).2 rfl) ?_;rintro _ _ ⟨aGo,rfl,V⟩;have B:=B.made V;obtain⟨Hk,aqb,_⟩:=B.fB;subst aqb;refine aR B wJ (λIz _ B=>have B:=B.enc (cs':=kp (⟨bL,0,0,0⟩:eF)) rfl;aO (x:=(⟨Hk,E.to,E.e,E.at_⟩:eF)) B iu rfl rfl λw13 B=>aA xS (aB (v:=jK E.e) qt B.hb rfl (bQ (aC (λum=>?_) λum=>⟨λjv w'=>jv=jK (if t.text=k9 #[45]then 3 else 4)/\w13=w',aQ gZ (I.ext B.aE) cW ht (λ_ xX=>bO t.text pQ xX rfl rfl λ_ JN=>aF mJ JN (xV (aC (λzB=>⟨by rw[fV zB],rfl⟩) λzB=>⟨by rw[fU zB],rfl⟩))),?_⟩))))
  .refine aF iu B.At (aO (x:=(⟨Hk,E.to,E.e,E.at_⟩:eF)) B.p2 iu rfl rfl λ_ B=>aF iu B.At ?_);have M:r=(⟨E.l,E.to,E.e,E.at_⟩:ia):=O.trans (fV um);rw[M];have B:=B.p2.dT (Ψ:=(λw=>py w (⟨Hk,E.to,E.e,E.at_⟩:eF) (⟨E.l,E.to,E.e,E.at_⟩:ia))) (λ_ h=>⟨_,rfl,nz h⟩);have B:=B.p1.drop.p1.drop;exact⟨_,rfl,B.fresh⟩
  rintro _ _ ⟨rfl,hw⟩ _;subst hw;obtain⟨op,amg⟩:∃op,op=(if t.text=k9 #[45]then(3:Int)else 4):=⟨_,rfl⟩;rw[<- amg];refine aQ gZ (I.ext B.aE) cW ht (λ_ Jo=>bO t.at_ nG Jo rfl rfl λ_ Qw=>aF aV Qw (pop (Ii _ _) (bJ ([(⟨op,0,(k9 #[]),t.at_⟩:dP)]) B oh rfl rfl (dV rfl) λs_x66 _ B=>aA vr (aB (v:=j6 (Hk:SV)) pJ B.p1.hb rfl ?_))));have Ft:=(DL.flat (nz B.p2.fB));refine bW B oh Ft (by simp;omega) dO (λalZ _ B=>aA vr ?_);obtain⟨Uu,rfl⟩:=B.gE;refine aS B.p1 pJ (dV rfl) (rfl) (λ_ B=>have B:=B.enc (cs':=kp (⟨Uu,E.to,E.e,E.at_⟩:eF)) rfl;aF iu B.At (aO (x:=(⟨Uu,E.to,E.e,E.at_⟩:eF)) B.p3 iu rfl rfl λ_ B=>aF iu B.At ?_))
  have M:r=(⟨([(⟨op,0,(k9 #[]),t.at_⟩:dP)]++E.l),E.to,E.e,E.at_⟩:ia):=by rw[O,fU um,<- amg]
  rw[M];have B:=B.p2.freeze.dT (Ψ:=(λw=>py w (⟨Uu,E.to,E.e,E.at_⟩:eF) (⟨([(⟨op,0,(k9 #[]),t.at_⟩:dP)]++E.l),E.to,E.e,E.at_⟩:ia))) (λ_ h=>⟨_,rfl,DL.gB h⟩);have B:=B.p1.drop.p1.drop.p1.drop;exact⟨_,rfl,B.fresh⟩
 .refine aN cW (aN cW ?_);have aGn:¬ d=12:=λh=>by rw[J,U,gq h]at W;cases W
  obtain⟨E,hx1,O⟩:=RC hr cW ht W J U;refine eR VK ((HR _ (i+1) (d+1) 0 E _ (I.ext B.aE) hx1 cW cW cW).1) ?_;rintro _ _ ⟨aGp,rfl,V⟩;have B:=B.made V;obtain⟨BN,aqc,_⟩:=B.fB;subst aqc;refine aR B wJ (λV3 _ B=>have B:=B.enc (cs':=kp (⟨bL,0,0,0⟩:eF)) rfl;aO (x:=(⟨BN,E.to,E.e,E.at_⟩:eF)) B iu rfl rfl λ_ B=>aA xS (aB (v:=jK E.e) qt B.hb rfl (bQ (aC (λW9=>?_) λW9=>aA rp (aB (v:=jK E.to) aV B.hb rfl (aZ zz B (C211 _ l E.to (k9 #[41]) _ (I.ext B.aE) hn) λ_ he B=>bV (aW (λGk=>?_) λGk=>?_)))))))
  .refine aF iu B.At (aO (x:=(⟨BN,E.to,E.e,E.at_⟩:eF)) B.p2 iu rfl rfl λ_ B=>aF iu B.At ?_);have M:r=(⟨E.l,E.to,E.e,E.at_⟩:ia):=O.trans (fV W9);rw[M];have B:=B.p2.dT (Ψ:=(λw=>py w (⟨BN,E.to,E.e,E.at_⟩:eF) (⟨E.l,E.to,E.e,E.at_⟩:ia))) (λ_ h=>⟨_,rfl,nz h⟩);have B:=B.p1.drop.p1.drop;exact⟨_,rfl,B.fresh⟩
  .refine aA rp (aB (v:=jK E.to) aV B.hb rfl (eR VL (C263 _ l E.to 5 _ (I.ext B.aE) hk) ?_));rintro _ _ ⟨aGq,rfl,V⟩;have B:=B.made V;obtain⟨Xa,aqd,_⟩:=B.fB;subst aqd;refine aO (x:=(⟨Xa,(iQ l E.to 5).to,(iQ l E.to 5).e,(iQ l E.to 5).at_⟩:eF)) B.p3 iu rfl rfl (λ_ B=>aF iu B.At ?_);have M:r=(⟨(iQ l E.to 5).l,(iQ l E.to 5).to,(iQ l E.to 5).e,(iQ l E.to 5).at_⟩:ia):=O.trans ((fU W9).trans (fU (by simpa using Gk)));rw[M];have B:=B.p1.dT (Ψ:=(λw=>py w (⟨Xa,(iQ l E.to 5).to,(iQ l E.to 5).e,(iQ l E.to 5).at_⟩:eF) (⟨(iQ l E.to 5).l,(iQ l E.to 5).to,(iQ l E.to 5).e,(iQ l E.to 5).at_⟩:ia))) (λ_ h=>⟨_,rfl,nz h⟩)
   have B:=B.p1.drop.p1.drop.p1.drop;exact⟨_,rfl,B.fresh⟩
  refine aA rp (aB (v:=jK E.to) aV B.hb rfl ?_);have uh:=wb (l:=l) (i:=E.to) (t:=k9 #[41]) (by simpa using Gk);refine aN cW (aA rp (aS B aV (dV rfl) (rfl) λ_ B=>have B:=B.enc (cs':=kp (⟨BN,(E.to+1),E.e,E.at_⟩:eF)) rfl;aF iu B.At (aO (x:=(⟨BN,(E.to+1),E.e,E.at_⟩:eF)) B.p2 iu rfl rfl λ_ B=>aF iu B.At ?_)));have M:r=(⟨E.l,(E.to+1),E.e,E.at_⟩:ia):=O.trans ((fU W9).trans (fV (by simpa using Gk)));rw[M];have B:=B.p2.dT (Ψ:=(λw=>py w (⟨BN,(E.to+1),E.e,E.at_⟩:eF) (⟨E.l,(E.to+1),E.e,E.at_⟩:ia))) (λ_ h=>⟨_,rfl,nz h⟩)
  have B:=B.p1.drop.p1.drop;exact⟨_,rfl,B.fresh⟩
 have Wj:=RD hr cW ht W J U;refine aQ gZ (I.ext B.aE) cW ht (λ_ aqe=>bO t.kind nF aqe rfl rfl λ_ Tm=>aF aV Tm (aH (aC (λOf=>?_) λOf=>⟨λjv w'=>jv=.bool (decide (t.kind=1)&&mD t.text)/\St w aY [cI La (kp (⟨bL,0,0,0⟩:eF))] w',aQ gZ (I.ext B.aE) cW ht (λ_ NW=>bO t.kind nF NW rfl rfl λ_ aqf=>aF aV aqf (aH (aC (λCL=>aQ gZ (I.ext B.aE) cW ht λ_ aqg=>bO t.text pQ aqg rfl rfl λ_ aqh=>aF mJ aqh (aZ xE B (C161 _ _ cW) λ_ _ B=>⟨vb (by rw[gq CL];rfl),B⟩)) λCL=>⟨vb (by rw[gD CL];rfl),B⟩))),?_⟩)))
 .refine aQ gZ (I.ext B.aE) cW ht (λ_ aqi=>bO t.n vq aqi rfl rfl λ_ aqj=>have B:=B.drew;aF aV aqj (aQ gZ (I.ext B.aE) cW ht λ_ Uv=>bO t.at_ nG Uv rfl rfl λ_ CK=>aF aV CK (pop (Nu _ _ _) (aN cW (bJ ([(⟨1,t.n,(k9 #[]),t.at_⟩:dP)]) B oh rfl rfl (dV rfl) λaoX _ B=>?_)))));obtain⟨Xb,rfl⟩:=B.gE;refine pop (CD _ _ _ _) (aO (x:=(⟨Xb,(i+1),0,0⟩:eF)) B.p1 iu rfl rfl λ_ B=>aF iu B.At ?_);have M:r=(⟨[(⟨1,t.n,(k9 #[]),t.at_⟩:dP)],(i+1),0,0⟩:ia):=Wj.trans (fV Of)
  rw[M];have B:=B.p1.freeze.dT (Ψ:=(λw=>py w (⟨Xb,(i+1),0,0⟩:eF) (⟨[(⟨1,t.n,(k9 #[]),t.at_⟩:dP)],(i+1),0,0⟩:ia))) (λ_ h=>⟨_,rfl,DL.gB h⟩);have B:=B.p1.drop;exact⟨_,rfl,B.fresh⟩
 rintro _ _ ⟨rfl,B⟩ _;refine aW (λJC=>?_) (λJC=>?_)
 .refine aQ gZ (I.ext B.aE) cW ht (λ_ aqk=>bO t.text pQ aqk rfl rfl λ_ aql=>have B:=B.drew;aF mJ aql (aQ gZ (I.ext B.aE) cW ht λ_ aqm=>bO t.at_ nG aqm rfl rfl λ_ Tw=>aF aV Tw (pop (Nv _ _ _) (aN cW (bJ ([(⟨2,0,t.text,t.at_⟩:dP)]) B oh rfl rfl (dV rfl) λaGr _ B=>?_)))));obtain⟨Xc,rfl⟩:=B.gE;refine pop (CD _ _ _ _) (aO (x:=(⟨Xc,(i+1),0,0⟩:eF)) B.p1 iu rfl rfl λ_ B=>aF iu B.At ?_);have M:r=(⟨[(⟨2,0,t.text,t.at_⟩:dP)],(i+1),0,0⟩:ia):=Wj.trans ((fU Of).trans (fV JC))
  rw[M];have B:=B.p1.freeze.dT (Ψ:=(λw=>py w (⟨Xc,(i+1),0,0⟩:eF) (⟨[(⟨2,0,t.text,t.at_⟩:dP)],(i+1),0,0⟩:ia))) (λ_ h=>⟨_,rfl,DL.gB h⟩);have B:=B.p1.drop;exact⟨_,rfl,B.fresh⟩
 refine eR VL (C263 _ l i 5 _ (I.ext B.aE) hk) ?_;rintro _ _ ⟨aAy,rfl,V⟩;have B:=B.made V;obtain⟨RF,aiX,_⟩:=B.fB;subst aiX;refine aO (x:=(⟨RF,(iQ l i 5).to,(iQ l i 5).e,(iQ l i 5).at_⟩:eF)) B.p1 iu rfl rfl (λ_ B=>aF iu B.At ?_);have M:r=(⟨(iQ l i 5).l,(iQ l i 5).to,(iQ l i 5).e,(iQ l i 5).at_⟩:ia):=Wj.trans ((fU Of).trans (fU (by simpa using JC)));rw[M];have B:=B.p1.dT (Ψ:=(λw=>py w (⟨RF,(iQ l i 5).to,(iQ l i 5).e,(iQ l i 5).at_⟩:eF) (⟨(iQ l i 5).l,(iQ l i 5).to,(iQ l i 5).e,(iQ l i 5).at_⟩:ia))) (λ_ h=>⟨_,rfl,nz h⟩)
 have B:=B.p1.drop;exact⟨_,rfl,B.fresh⟩
theorem adM{l:List bP}{i:Int}{R:List dP×Int×Int×Int}(h:zK l i=some R)(B:¬ i<0):∃x,Mp l 10000 i 0 0=some x/\
  (if x.e≠0 then some ([],0,x.e,x.at_)else match DV x.l,l[i.toNat]? with
  | some t,some k=>if x.l.length<=10000 then(if 12<t.depth then some ([],0,7,k.at_)else if 40<x.l.length then some ([],0,2,k.at_)else some (x.l,x.to,0,0))else none
  | _,_=>none)=some R:=by
 unfold zK at h;rw[fU B]at h
 cases hx:Mp l 10000 i 0 0 with
 | none=>grind
 | some x=>grind
theorem Uw{x:ia}{o:Option bP}{R:List dP×Int×Int×Int}(h:(match DV x.l,o with
  | some t,some k=>if x.l.length<=10000 then(if 12<t.depth then some ([],0,7,k.at_)else if 40<x.l.length then some ([],0,2,k.at_)else some (x.l,x.to,0,0))else none
  | _,_=>none)=some R):∃t k,DV x.l=some t/\o=some k/\x.l.length<=10000/\(if 12<t.depth then some ([],0,7,k.at_)else if 40<x.l.length then some ([],0,2,k.at_)else some (x.l,x.to,0,0))=some R:=by
 grind
def C235(l:List bP)(j:Nat)(lv:Value)(i d n:Int)(r:ia)(w:World)(O:eN (λ_=>True) w lv l)(hk:kz l)(HR:ap8 l (Mp l j))(h0:0<=i/\i<=l.length)(hd:0<=d/\d<=12)(hnn:0<=n/\n<=5)(hr:Mp l (j+1) i d n=some r):CR 235 [lv,jK i,jK d,jK n] w (λv w'=>∃sh:eF,v=j6 sh/\mr (fB λw=>py w sh r) w w'):=by
 have KD:=hk.n;have hn:l.length<=1000000:=cW
 have vG:=hk.at_;have B:=St.start w;refine agP _ _ _ _ _ _ ?_;unfold S235;refine aR B wJ (λFg _ B=>have B:=B.enc (cs':=kp (⟨bL,0,0,0⟩:eF)) rfl;aH (aC (λj4=>?_) λj4=>?_))
 .refine eR akF (C257 l (Mp l j) _ i d r _ (O.ext B.aE) hk HR h0 hd (amf (by rw[j4]at hr;exact hr))) ?_;rintro _ _ ⟨ap9,rfl,J⟩;have B:=B.made J;obtain⟨EA,Ut,_⟩:=B.fB;subst Ut;refine aO (x:=(⟨EA,r.to,r.e,r.at_⟩:eF)) B.p1 iu rfl rfl (λ_ B=>aF iu B.At ?_);have E:r=(⟨r.l,r.to,r.e,r.at_⟩:ia):=rfl;rw[E];have B:=B.p1.dT (Ψ:=(λw=>py w (⟨EA,r.to,r.e,r.at_⟩:eF) (⟨r.l,r.to,r.e,r.at_⟩:ia))) (λ_ h=>⟨_,rfl,nz h⟩);have B:=B.p1.drop;exact⟨_,rfl,B.fresh⟩
 obtain⟨M,hx1,aGs⟩:=ax4 hr j4;refine aN cW (eR VK ((HR _ i d (n+1) M _ (O.ext B.aE) hx1 h0 hd cW).1) ?_);rintro _ _ ⟨Og,rfl,J⟩;have B:=B.made J;obtain⟨Oh,aqn,_⟩:=B.fB;subst aqn;refine aR B wJ (λIz _ B=>have B:=B.enc (cs':=kp (⟨bL,0,0,0⟩:eF)) rfl;aO (x:=(⟨Oh,M.to,M.e,M.at_⟩:eF)) B iu rfl rfl λ_ B=>?_);have B:=B.p2.p2.p2.p1.dT (Ψ:=λw=>DL w (j6 Oh) M.l) (λ_ h=>nz h);have B:=B.p2.p1.p2;refine⟨λV w'=>∃(x:ia) (g:SV),zJ (Mp l j) l d n V x=some r/\St w aY [cI Iz (kp (⟨g,x.to,x.e,x.at_⟩:eF)),fB (λw=>DL w (j6 g) x.l),cI Fg (kp (⟨bL,0,0,0⟩:eF))] w',⟨j,M,Oh,aGs,B⟩,?_⟩
 rintro V _ ⟨x,g,RG,B⟩ _;obtain⟨j2,rfl⟩:=Ur RG;refine aA xS (aB (v:=jK x.e) qt B.hb rfl (aH (aC (λDK=>?_) λDK=>?_)))
 .have B:=B.p2.p2.p2;refine⟨λV o kk w'=>∃k:Nat,o=jK (J5 l x.to n k)/\kk=jK (k:Int)/\V=(ub n).length-k/\k<=(ub n).length/\St w aY [cI Iz (kp (⟨g,x.to,x.e,x.at_⟩:eF)),fB (λw=>DL w (j6 g) x.l),cI Fg (kp (⟨bL,0,0,0⟩:eF))] w',⟨_,0,rfl,rfl,rfl,o6 _,B⟩,?_⟩;rintro V _ _ _ ⟨k,rfl,rfl,rfl,Da,B⟩ _;have hfl4:=Us n;refine dF aaD B (C258 n _ cW) (λx31 _ J B=>aI cE B.fu (aK (aC (λng=>⟨λjv w'=>jv=jK (J5 l x.to n (k+1))/\St w aY [cI Iz (kp (⟨g,x.to,x.e,x.at_⟩:eF)),fB (λw=>DL w (j6 g) x.l),cI Fg (kp (⟨bL,0,0,0⟩:eF))] w',?_,?_⟩) λng=>?_)))
  .refine aA rp (have B:=B.drew;aB (v:=jK x.to) aV B.p1.hb rfl (dF aaD B (C258 n _ cW) λx40 _ J B=>?_));refine⟨aG aV (B.p2.hb.cell rfl),?_⟩;obtain⟨Ed,U⟩:=gx (ub n) (i:=(k:Int).toNat) cW;refine cH B cE cW cW (λ_ Ci=>eK B aV Ci U ?_);have hfb:=adJ U;refine aZ auz B (C259 Ed _ cW) (λ_ he B=>?_);refine⟨aG aV (B.p2.hb.cell rfl),?_⟩;exact aZ zz B (C211 _ l x.to (RA Ed) _ (O.ext B.aE) hn) (λ_ _ B=>aW (λgO=>dF aaD B (C258 n _ cW) λ_ _ _ B=>cH B cE cW cW λ_ yd=>eK B aV yd U (have B:=B.drop.drop.drop.p2.p2.p2;⟨by rw[Mn (k:=k) U,fV gO]<;>rfl,B⟩)) λgO=>have B:=B.drop.drop.p2.p2.p2;⟨by rw[Mn (k:=k) U,fU (by simpa using gO)]<;>rfl,B⟩)
  .rintro _ _ ⟨rfl,B⟩ _;exact aN cW ⟨_,cW,k+1,rfl,rfl,rfl,cW,B⟩
  have ml:J5 l x.to n k=Oe l x.to n:=by unfold Oe;rw[show k=(ub n).length from cW]
  refine aH (aC (λvF=>?_) λvF=>?_)
  .refine aF iu B.p1.At (aO (x:=(⟨g,x.to,x.e,x.at_⟩:eF)) B.p3 iu rfl rfl λ_ B=>aF iu B.At ?_);have E:r=(⟨x.l,x.to,x.e,x.at_⟩:ia):=adK (x:=x) RG cW (by rw[<- ml];exact vF);rw[E];have B:=B.p3.dT (Ψ:=(λw=>py w (⟨g,x.to,x.e,x.at_⟩:eF) (⟨x.l,x.to,x.e,x.at_⟩:ia))) (λ_ h=>⟨_,rfl,id h⟩);have B:=B.p1.drop.p1.drop.p1.drop;exact⟨_,rfl,B.fresh⟩
  obtain⟨t,y,h0t,ht,hy,hye,I⟩:=adL RG cW (by rw[<- ml];exact vF);have Pr:=(l0.1 ht).1;refine aA rp (aB (v:=jK x.to) aV B.p1.hb rfl (aN cW (aN cW (eR VK ((HR _ (x.to+1) d (n+1) y _ (O.ext B.aE) hy cW hd cW).1) ?_))));rintro _ _ ⟨aGu,rfl,J⟩;have B:=B.made J;obtain⟨Hl,aqo,_⟩:=B.fB;subst aqo;refine aR B wJ (λb_y12 _ B=>have B:=B.enc (cs':=kp (⟨bL,0,0,0⟩:eF)) rfl;aO (x:=(⟨Hl,y.to,y.e,y.at_⟩:eF)) B iu rfl rfl λ_ B=>aA xS (aB (v:=jK y.e) qt B.hb rfl (bQ (aC (λyc=>?_) λyc=>?_))))
  .refine aF iu B.At (aO (x:=(⟨Hl,y.to,y.e,y.at_⟩:eF)) B.p5 iu rfl rfl λ_ B=>aF iu B.At ?_);have E:r=(⟨y.l,y.to,y.e,y.at_⟩:ia):=hye yc;rw[E];have B:=B.p2.dT (Ψ:=(λw=>py w (⟨Hl,y.to,y.e,y.at_⟩:eF) (⟨y.l,y.to,y.e,y.at_⟩:ia))) (λ_ h=>⟨_,rfl,nz h⟩);have B:=B.p1.drop.p1.drop.p1.drop.p1.drop.p1.drop;exact⟨_,rfl,B.fresh⟩
  refine aA rp (aB (v:=jK x.to) aV B.p3.hb rfl (aQ gZ (O.ext B.aE) cW ht λ_ Ce=>bO t.at_ nG Ce rfl rfl λ_ ax6=>aF aV ax6 (pop (Ii _ _) (bJ ([(⟨(J5 l x.to n k),0,(k9 #[]),t.at_⟩:dP)]) B oh rfl rfl (dV rfl) λab6 _ B=>aA vr (aB (v:=j6 (g:SV)) pJ B.p4.hb rfl ?_)))));have IG:=(I cW).1;have aqp:=(DL.flat (id B.p5.fB));refine bW B oh aqp (by simp;omega) dO (λawl _ B=>aA vr (aB (v:=j6 (Hl:SV)) pJ B.p1.hb rfl ?_));have aqq:=(DL.flat (nz B.p2.fB))
  refine bW B oh aqq (by simp;omega) dO (λs_x82 _ B=>aA rp (aB (v:=jK y.to) aV B.p1.hb rfl ?_));obtain⟨W,rfl⟩:=B.gE;refine pop (CD _ _ _ _) (aO (x:=(⟨W,y.to,0,0⟩:eF)) B.p4 iu rfl rfl λ_ B=>aH (aC (λI6=>?_) λI6=>?_))
  .refine aF iu B.At (aO (x:=(⟨W,y.to,0,0⟩:eF)) B.p6 iu rfl rfl λ_ B=>aF iu B.At ?_);have E:r=(⟨(([(⟨(J5 l x.to n k),0,(k9 #[]),t.at_⟩:dP)]++x.l)++y.l),y.to,0,0⟩:ia):=((I cW).2.1 I6).trans (by rw[<- ml]);rw[E];have B:=B.p2.freeze.dT (Ψ:=(λw=>py w (⟨W,y.to,0,0⟩:eF) (⟨(([(⟨(J5 l x.to n k),0,(k9 #[]),t.at_⟩:dP)]++x.l)++y.l),y.to,0,0⟩:ia))) (λ_ h=>⟨_,rfl,DL.gB h⟩);have B:=B.p1.drop.p1.drop.p1.drop.p1.drop.p1.drop.p1.drop;exact⟨_,rfl,B.fresh⟩
  have B:=B.p1.freeze.dT (Ψ:=λw=>DL w (j6 W) ([(⟨J5 l x.to n k,0,k9 #[],t.at_⟩:dP)]++x.l++y.l)) (λ_ h=>DL.gB h);have B:=B.p2.drop.p2.drop.p2.drop.p2.drop.p2.p1.p2;have oX:=(I cW).2.2 I6;rw[<- ml]at oX;exact⟨_,cW,⟨_,_,_,_⟩,W,oX,B⟩
 refine aF iu B.At (aO (x:=(⟨g,x.to,x.e,x.at_⟩:eF)) B.p2 iu rfl rfl λ_ B=>aF iu B.At ?_);have E:r=(⟨x.l,x.to,x.e,x.at_⟩:ia):=aiV (x:=x) RG cW;rw[E];have B:=B.p2.dT (Ψ:=(λw=>py w (⟨g,x.to,x.e,x.at_⟩:eF) (⟨x.l,x.to,x.e,x.at_⟩:ia))) (λ_ h=>⟨_,rfl,id h⟩);have B:=B.p1.drop.p1.drop;exact⟨_,rfl,B.fresh⟩
theorem aqr{l:List bP}(E:kz l):∀j,ap8 l (Mp l j)
 | 0=>λlv i d n r w I B=>by cases B
 | j+1=>λlv i d n r w I B J hd M=>⟨C235 l j lv i d n r w I E (aqr E j) J hd M B,λh5=>by subst h5;exact C257 l (Mp l j) lv i d r w I E (aqr E j) J hd (amf B)⟩
def C214(l:List bP)(lv:Value)(i:Int)(R:List dP×Int×Int×Int)(w:World)(hL:eN (λ_=>True) w lv l)(hk:kz l)(hil:i<=l.length)(U:zK l i=some R):CR 214 [lv,jK i] w (λv w'=>∃sv:SV,v=.tuple #[j6 sv,jK R.2.1,jK R.2.2.1,jK R.2.2.2]/\mr (fB λw=>DL w (j6 sv) R.1) w w'):=by
 have KD:=hk.n;have hn:l.length<=1000000:=cW
 have vG:=hk.at_;have B:=St.start w;refine uT Tryz.func214 (pl:=aC3) ?_;refine aK (aC (λiE=>?_) λiE=>?_)
 .have I:R=([],0,1,0):=by
   unfold zK at U;rw[fV iE]at U;exact(qa.inj U).symm
  rw[I];exact⟨bL,rfl,(B.iK (Φ:=λw=>DL w (j6 (bL:SV)) ([]:List dP)) λw=>DL.nil w).fresh⟩
 obtain⟨x,hx,V⟩:=adM U cW;refine eR VK ((aqr hk 10000 _ i 0 0 x _ (hL.ext B.aE) hx cW cW cW).1) ?_;rintro _ _ ⟨aGv,rfl,cJ⟩;have B:=B.made cJ;obtain⟨J,aqs,_⟩:=B.fB;subst aqs;refine aR B wJ (λFg _ B=>have B:=B.enc (cs':=kp (⟨bL,0,0,0⟩:eF)) rfl;aO (x:=(⟨J,x.to,x.e,x.at_⟩:eF)) B iu rfl rfl λ_ B=>aA xS (aB (v:=jK x.e) qt B.hb rfl (bQ (aC (λfT=>?_) λfT=>?_))))
 .refine aA xS (have B:=B.drew;aB (v:=jK x.e) qt B.hb rfl (aA aaM (aB (v:=jK x.at_) aV B.hb rfl ?_)))
  have I:R=([],0,x.e,x.at_):=by
   rw[fV fT]at V;exact(qa.inj V).symm
  rw[I];exact⟨bL,rfl,(B.iK (Φ:=λw=>DL w (j6 (bL:SV)) ([]:List dP)) λw=>DL.nil w).fresh⟩
 rw[fU fT]at V;obtain⟨tr,O,htr,W,Vs,E⟩:=Uw V;have htki:=(l0.1 W).1;obtain⟨hwf,F3⟩:=CG htr;have hAt:OK x.l 0 tr:=⟨cW,hwf,[],by simpa using F3⟩;refine aA vr (aB (v:=j6 (J:SV)) pJ B.hb rfl (aZ aaz B (C162 _ x.l 0 tr (tr.size+1) _ (DL.flat (nz B.p1.fB)) cW hAt cW) λ_ he B=>cG (aC (λM=>?_) λM=>aA vr (aB (v:=j6 (J:SV)) pJ B.hb rfl (aI oh (DL.flat (nz B.p1.fB)) (cG (aC (λng=>?_) λng=>?_)))))))
 .refine aQ gZ (hL.ext B.aE) cW W (λ_ tM=>bO O.at_ nG tM rfl rfl λ_ si=>have B:=B.drew;aF aV si ?_)
  have I:R=([],0,7,O.at_):=by
   rw[fV M]at E;exact(qa.inj E).symm
  rw[I];exact⟨bL,rfl,(B.iK (Φ:=λw=>DL w (j6 (bL:SV)) ([]:List dP)) λw=>DL.nil w).fresh⟩
 .refine aQ gZ (hL.ext B.aE) cW W (λ_ ya=>bO O.at_ nG ya rfl rfl λ_ rD=>have B:=B.drew;aF aV rD ?_)
  have I:R=([],0,2,O.at_):=by
   rw[fU M,fV cW]at E;exact(qa.inj E).symm
  rw[I];exact⟨bL,rfl,(B.iK (Φ:=λw=>DL w (j6 (bL:SV)) ([]:List dP)) λw=>DL.nil w).fresh⟩
 refine aA vr (have B:=B.drew;aB (v:=j6 (J:SV)) pJ B.hb rfl (aA rp (aB (v:=jK x.to) aV B.hb rfl ?_)));have B:=B.p1.dT (Ψ:=λw=>DL w (j6 J) x.l) (λ_ h=>nz h)
 have I:R=(x.l,x.to,0,0):=by
  rw[fU M,fU cW]at E;exact(qa.inj E).symm
 rw[I];exact⟨J,rfl,B.fresh⟩
structure ik where
 at_:Int
 e:Int
 pos:Int
deriving DecidableEq
def lg(l:List bP)(s:ik)(e:Int):ik:=if s.e=0 then {s with e:=if (l.length:Int)<=s.at_ then 6 else e,pos:=pz l s.at_}else s
def eC(l:List bP)(s:ik)(t:ByteArray):ik:=if (decide (s.e=0)&&wU l s.at_ t)=true then {s with at_:=s.at_+1}else lg l s 5
def nN(l:List bP)(i:Int):Option bP:=if 0<=i then l[i.toNat]? else none
def wV(l:List bP)(s:ik):Bool:=decide (s.e=0)&&(match nN l s.at_ with|some t=>decide (t.kind=1)&&mD t.text|none=>false)
def su(l:List bP)(i:Int):bP:=(nN l i).getD ⟨0,⟨#[]⟩,0,0⟩
def dL(l:List bP)(s:ik):ik×ByteArray:=if wV l s=true then({s with at_:=s.at_+1},(su l s.at_).text)else(lg l s 5,⟨#[]⟩)
def uC(l:List bP)(s:ik):Option (ik×List dP):=if s.e≠0 then some (s,[])else(zK l s.at_).bind λR=>
 if R.2.2.1≠0 then some ({s with e:=R.2.2.1,pos:=R.2.2.2},[])else if 0<=R.2.1/\R.2.1<=l.length then some ({s with at_:=R.2.1},R.1)else none
def Ux(l:List bP)(s:ik):Bool:=decide (s.e=0)&&(match nN l s.at_ with|some t=>decide (t.kind=2)|none=>false)
def m8(l:List bP)(s:ik):ik×Int:=if Ux l s=true then(if 1<=(su l s.at_).n/\(su l s.at_).n<=8 then({s with at_:=s.at_+1},(su l s.at_).n)else(lg l s 11,0))else(lg l s 5,0)
def Hm:List ByteArray:=[⟨#[]⟩,⟨#[]⟩,⟨#[108,111,97,100]⟩,⟨#[115,116,111,114,101]⟩,⟨#[99,97,115]⟩,⟨#[102,108,117,115,104]⟩,⟨#[111,112,116]⟩,⟨#[115,102,101,110,99,101]⟩,⟨#[109,102,101,110,99,101]⟩,⟨#[116,97,107,101]⟩,⟨#[103,105,118,101]⟩,⟨#[105,102]⟩,⟨#[108,111,111,112]⟩,⟨#[98,114,101,97,107]⟩,⟨#[99,104,101,99,107]⟩]
def Mq(k:Int):ByteArray:=(Hm[k.toNat]?).getD ⟨#[]⟩
def nD(l:List bP)(s:ik):Prop:=0<=s.at_/\s.at_<=l.length
section
variable {l:List bP}{s:ik}{e:Int}{t:ByteArray}
theorem wW(h:nD l s):nD l (lg l s e):=by unfold lg;split<;>exact h
theorem gX(h:nD l s):nD l (eC l s t):=by
 unfold eC;split
 .rename_i h2
  rw[oG]at h2
  have:=wb h2.2
  exact⟨eS,eS⟩
 exact wW h
theorem oU{i:Int}{k:bP}(h:nN l i=some k):0<=i/\i<l.length/\l[i.toNat]?=some k:=by
 unfold nN at h
 grind
theorem EB(h:wV l s=true):s.e=0/\∃k,nN l s.at_=some k/\k.kind=1/\mD k.text=true:=by
 unfold wV at h
 grind
theorem Xe(h:Ux l s=true):s.e=0/\∃k,nN l s.at_=some k/\k.kind=2:=by
 unfold Ux at h
 grind
theorem je(h:nD l s):nD l (dL l s).1:=by
 unfold dL;split
 .rename_i h2
  obtain⟨_,k,B,_⟩:=EB h2
  have:=oU B
  exact⟨eS,eS⟩
 exact wW h
theorem YX(h:nD l s):nD l (m8 l s).1:=by
 unfold m8;split
 .rename_i h2
  obtain⟨_,k,B,_⟩:=Xe h2
  have:=oU B
  split
  .exact⟨eS,eS⟩
  exact wW h
 exact wW h
theorem wc{s':ik}{x:List dP}(h:nD l s)(B:uC l s=some (s',x)):nD l s':=by
 unfold uC at B
 split at B
 .grind
 cases hx:zK l s.at_ with
 | none=>grind
 | some R=>
  grind[nD]
end
@[reducible] def eQ(lv ov:Value)(s:ik):List Value:=[lv,.int .i64 s.at_,.int .i64 s.e,.int .i64 s.pos,ov]
@[reducible] def fy(lv:Value)(s:ik):List Value:=[lv,.int .i64 s.at_,.int .i64 s.e,.int .i64 s.pos]
def jM(l:List bP)(s:ik)(t:ByteArray):ik×Bool:=if (decide (s.e=0)&&wU l s.at_ t)=true then({s with at_:=s.at_+1},true)else(s,false)
def gd(l:List bP)(s:ik):ik×dW:=if wV l s=true then({s with at_:=s.at_+1},⟨(su l s.at_).text,0,(su l s.at_).at_⟩)else(lg l s 5,⟨⟨#[]⟩,0,0⟩)
def mA{l:List bP}{s:ik}{t:ByteArray}(h:nD l s):nD l (jM l s t).1:=by
 unfold jM;split
 .rename_i h2
  rw[oG]at h2
  have:=wb h2.2
  exact⟨eS,eS⟩
 exact h
def yu{l:List bP}{s:ik}(h:nD l s):nD l (gd l s).1:=by
 unfold gd;split
 .rename_i h2
  obtain⟨_,k,B,_⟩:=EB h2
  have:=oU B
  exact⟨eS,eS⟩
 exact wW h
theorem adN{l:List bP}{s B:ik}{x:List dP}(h:uC l s=some (B,x))(E:¬ s.e≠0):∃R,zK l s.at_=some R/\
  (if R.2.2.1≠0 then some ({s with e:=R.2.2.1,pos:=R.2.2.2},[])else if 0<=R.2.1/\R.2.1<=l.length then some ({s with at_:=R.2.1},R.1)else none)=some (B,x):=by
 unfold uC at h;rw[fU E]at h
 cases hx:zK l s.at_ with
 | none=>grind
 | some R=>grind
def adO{l:List bP}{s B:ik}{x:List dP}{R:List dP×Int×Int×Int}(h:(if R.2.2.1≠0 then some ({s with e:=R.2.2.1,pos:=R.2.2.2},[])else if 0<=R.2.1/\R.2.1<=l.length then some ({s with at_:=R.2.1},R.1)else none)=some (B,x))(E:¬ R.2.2.1≠0):0<=R.2.1/\R.2.1<=l.length:=by
 grind
def C254(p:Nat)(lv ov:Value)(l:List bP)(s:ik)(e:Int)(F:Nat->Prop)(w:World)(hF:(cI p (eQ lv ov s)).p w F)(J:∀w',js F w w'->eN (λ_=>True) w' lv l)(M:kz l)(h0:nD l s):CR 254 [(.pointer (some ⟨p,0,none⟩)),jK e] w (λv w'=>v=.tuple #[]/\pk F (cI p (eQ lv ov (lg l s e))) w w'):=by
 have B:=St.begin hF;have KD:=M.n;have O:l.length<=1000000:=cW
 have U:=M.at_;obtain⟨Xf,Xg⟩:=id h0;refine uT Tryz.func254 (pl:=aC9) ?_;refine aD (aA mS (aB qt B.hb rfl (aH (aC (λE=>aD (aA mS (aS B qt (dV rfl) (rfl) λ_ B=>⟨_,aD (aA ga (have B:=B.drew;aB aV B.hb rfl (aD (aA jQ (aB kK B.hb rfl (aI gZ (J _ B.aE) (cN (aC (λI=>?_) λI=>?_)))))))),λ_ h=>h⟩))) λE=>?_))))
 .refine aD (aA mS (aS B qt (dV rfl) (rfl) λ_ B=>?_));intro V;refine aD (aA jQ (have B:=B.drew;aB kK B.hb rfl (aD (aA ga (aB aV B.hb rfl (aZ LC B (C215 _ l s.at_ _ (J _ B.aE) O U) λw4 he B=>aD (aA DD (aS B aV (dV rfl) (rfl) λW B=>?_))))))));have hb:lg l s e=(⟨s.at_,6,(pz l s.at_)⟩:ik):=by unfold lg;rw[fV E,fV I]
  rw[hb];exact⟨rfl,B.mut⟩
 .intro V;refine aD (aA jQ (have B:=B.drew;aB kK B.hb rfl (aD (aA ga (aB aV B.hb rfl (aZ LC B (C215 _ l s.at_ _ (J _ B.aE) O U) λw4 he B=>aD (aA DD (aS B aV (dV rfl) (rfl) λW B=>?_))))))));have hb:lg l s e=(⟨s.at_,e,(pz l s.at_)⟩:ik):=by unfold lg;rw[fV E,fU I]
  rw[hb];exact⟨rfl,B.mut⟩
 have hb:lg l s e=s:=by unfold lg;rw[fU E]
 rw[hb];exact⟨rfl,B.mut⟩
def C170(p:Nat)(lv:Value)(l:List bP)(s:ik)(F:Nat->Prop)(w:World)(hF:(cI p (fy lv s)).p w F)(J:∀w',js F w w'->eN (λ_=>True) w' lv l)(M:kz l)(h0:nD l s):CR 170 [(.pointer (some ⟨p,0,none⟩))] w (λv w'=>v=.tuple #[]/\pk F (cI p (fy lv (lg l s 5))) w w'):=by
 have B:=St.begin hF;have KD:=M.n;have O:l.length<=1000000:=cW
 have U:=M.at_;obtain⟨Xf,Xg⟩:=id h0;refine uT Tryz.func170 (pl:=aCR) ?_;refine aD (aA oy (aB qt B.hb rfl (aH (aC (λE=>aD (aA oy (aS B qt (dV rfl) (rfl) λ_ B=>⟨_,aD (aA gH (have B:=B.drew;aB aV B.hb rfl (aD (aA me (aB kK B.hb rfl (aI gZ (J _ B.aE) (cN (aC (λI=>?_) λI=>?_)))))))),λ_ h=>h⟩))) λE=>?_))))
 .refine aD (aA oy (aS B qt (dV rfl) (rfl) λ_ B=>?_));intro V;refine aD (aA me (have B:=B.drew;aB kK B.hb rfl (aD (aA gH (aB aV B.hb rfl (aZ LC B (C215 _ l s.at_ _ (J _ B.aE) O U) λw4 he B=>aD (aA Ag (aS B aV (dV rfl) (rfl) λW B=>?_))))))));have hb:lg l s 5=(⟨s.at_,6,(pz l s.at_)⟩:ik):=by unfold lg;rw[fV E,fV I]
  rw[hb];exact⟨rfl,B.mut⟩
 .intro V;refine aD (aA me (have B:=B.drew;aB kK B.hb rfl (aD (aA gH (aB aV B.hb rfl (aZ LC B (C215 _ l s.at_ _ (J _ B.aE) O U) λw4 he B=>aD (aA Ag (aS B aV (dV rfl) (rfl) λW B=>?_))))))));have hb:lg l s 5=(⟨s.at_,5,(pz l s.at_)⟩:ik):=by unfold lg;rw[fV E,fU I]
  rw[hb];exact⟨rfl,B.mut⟩
 have hb:lg l s 5=s:=by unfold lg;rw[fU E]
 rw[hb];exact⟨rfl,B.mut⟩
def C234(p:Nat)(lv ov:Value)(l:List bP)(s:ik)(t:ByteArray)(F:Nat->Prop)(w:World)(hF:(cI p (eQ lv ov s)).p w F)(M:∀w',js F w w'->eN (λ_=>True) w' lv l)(J:kz l)(O:nD l s):CR 234 [(.pointer (some ⟨p,0,none⟩)),.string t] w (λv w'=>v=.tuple #[]/\pk F (cI p (eQ lv ov (eC l s t))) w w'):=by
 have B:=St.begin hF;have KD:=J.n;have hn:l.length<=1000000:=cW
 have vG:=J.at_;obtain⟨Xf,Xg⟩:=id O;refine uT Tryz.func234 (pl:=aC7) ?_;refine⟨λjv w'=>jv=.bool (decide (s.e=0)&&wU l s.at_ t)/\St w F [cI p (eQ lv ov s)] w',aD (aA mS (have B:=B.drew;aB qt B.hb rfl (aH (aC (λI=>aD (aA jQ (aB kK B.hb rfl (aD (aA ga (aB aV B.hb rfl (aZ zz B (C211 _ l s.at_ t _ (M _ B.aE) hn) λ_ _ B=>⟨vb (by first|(rw[gq I];rfl)|(rw[gD I];rfl)),B⟩))))))) λI=>⟨vb (by first|(rw[gq I];rfl)|(rw[gD I];rfl)),B⟩)))),?_⟩;rintro _ _ ⟨rfl,B⟩ _;refine aW (λE=>?_) (λE=>?_)
 .have V:=wb (by rw[oG]at E;exact E.2);refine aD (aA ga (aB aV B.hb rfl (aN cW (aD (aA ga (aS B aV (dV rfl) (rfl) λ_ B=>?_))))));have hb:eC l s t={s with at_:=s.at_+1}:=by unfold eC;rw[fV (by simpa using E)]
  rw[hb];exact⟨rfl,B.mut⟩
 refine bI LG B (H':=λ_=>cI p (eQ lv ov (lg l s 5))) (Φ:=λ_ _=>True) (λF2 W U=>?_) ?_
 .exact(C254 p lv ov l s 5 F2 _ W (λw' hc=>M w' (U w' hc).aE) J O).mono λ_ _ r=>r.mono λ_ _ h=>⟨trivial,h.2⟩
 rintro _ _ _ B;have hb:eC l s t=lg l s 5:=by unfold eC;rw[fU (by simpa using E)]
 rw[hb];exact⟨rfl,B.mut⟩
def C165(p:Nat)(lv:Value)(l:List bP)(s:ik)(t:ByteArray)(F:Nat->Prop)(w:World)(hF:(cI p (fy lv s)).p w F)(U:∀w',js F w w'->eN (λ_=>True) w' lv l)(J:kz l)(V:nD l s):CR 165 [(.pointer (some ⟨p,0,none⟩)),.string t] w (λv w'=>v=.bool (jM l s t).2/\pk F (cI p (fy lv (jM l s t).1)) w w'):=by
 have B:=St.begin hF;have KD:=J.n;have W:l.length<=1000000:=cW
 have vG:=J.at_;obtain⟨Xf,Xg⟩:=id V;refine uT Tryz.func165 (pl:=aCM) ?_;refine⟨λO w'=>O=.bool (decide (s.e=0)&&wU l s.at_ t)/\St w F [cI p (fy lv s)] w',aD (aA oy (have B:=B.drew;aB qt B.hb rfl (aH (aC (λE=>aD (aA me (aB kK B.hb rfl (aD (aA gH (aB aV B.hb rfl (aZ zz B (C211 _ l s.at_ t _ (U _ B.aE) W) λ_ _ B=>⟨vb (by first|(rw[gq E];rfl)|(rw[gD E];rfl)),B⟩))))))) λE=>⟨vb (by first|(rw[gq E];rfl)|(rw[gD E];rfl)),B⟩)))),?_⟩;rintro _ _ ⟨rfl,B⟩ _;refine aW (λI=>?_) (λI=>?_)
 .have M:=wb (by rw[oG]at I;exact I.2);refine aD (aA gH (aB aV B.hb rfl (aN cW (aD (aA gH (aS B aV (dV rfl) (rfl) λ_ B=>?_))))));have hb:jM l s t=({s with at_:=s.at_+1},true):=by unfold jM;rw[fV (by simpa using I)]
  rw[hb];exact⟨rfl,B.mut⟩
 have hb:jM l s t=(s,false):=by unfold jM;rw[fU (by simpa using I)]
 rw[hb];exact⟨rfl,B.mut⟩
def C212(p:Nat)(lv:Value)(l:List bP)(s:ik)(t:ByteArray)(F:Nat->Prop)(w:World)(hF:(cI p (fy lv s)).p w F)(hT:∀w',js F w w'->eN (λ_=>True) w' lv l)(I:kz l)(W:nD l s):CR 212 [(.pointer (some ⟨p,0,none⟩)),.string t] w (λv w'=>v=.tuple #[]/\pk F (cI p (fy lv (eC l s t))) w w'):=by
 have E:=St.begin hF;have KD:=I.n;have hn:l.length<=1000000:=cW
 have vG:=I.at_;obtain⟨Xf,Xg⟩:=id W;refine lx Tryz.func212 ?_;refine bI B7 E (H':=λ_=>cI p (fy lv (jM l s t).1)) (Φ:=λv _=>v=.bool (jM l s t).2) (λU M J=>?_) ?_
 .exact C165 p lv l s t U _ M (λw' hc=>hT w' (J w' hc).aE) I W
 rintro _ w1 rfl E;refine bV (aW (λV=>?_) λV=>?_)
 .refine bI VE E (H':=λ_=>cI p (fy lv (lg l (jM l s t).1 5))) (Φ:=λ_ _=>True) (λU M J=>?_) ?_
  .exact(C170 p lv l (jM l s t).1 U _ M (λw' hc=>hT w' (J w' hc).aE) I (mA W)).mono λ_ _ r=>r.mono λ_ _ h=>⟨trivial,h.2⟩
  rintro _ w2 _ E
  have O:eC l s t=lg l (jM l s t).1 5:=by
   have B:(jM l s t).2=false:=by simpa using V
   unfold jM at B |-;unfold eC
   split at B
   .cases B
   .rename_i h8;rw[fU h8,fU h8]
  rw[O];exact⟨rfl,E.mut⟩
 have O:eC l s t=(jM l s t).1:=by
  have B:(jM l s t).2=true:=by simpa using V
  unfold jM at B |-;unfold eC
  split at B
  .rename_i h8;rw[fV h8,fV h8]
  .cases B
 rw[O];exact⟨rfl,E.mut⟩
def C260(p:Nat)(lv ov:Value)(l:List bP)(s:ik)(F:Nat->Prop)(w:World)(hF:(cI p (eQ lv ov s)).p w F)(M:∀w',js F w w'->eN (λ_=>True) w' lv l)(W:kz l)(h0:nD l s):CR 260 [(.pointer (some ⟨p,0,none⟩))] w (λv w'=>v=.string (dL l s).2/\pk F (cI p (eQ lv ov (dL l s).1)) w w'):=by
 have B:=St.begin hF;have KD:=W.n;have hn:l.length<=1000000:=cW
 have vG:=W.at_;obtain⟨Xf,Xg⟩:=id h0;refine uT Tryz.func260 (pl:=aDc) ?_;refine⟨λjv w'=>jv=.bool (wV l s)/\St w F [cI p (eQ lv ov s)] w',?_,?_⟩
 .refine aD (aA mS (have B:=B.drew;aB qt B.hb rfl (aH (aC (λI=>aD (aA ga (aB aV B.hb rfl (aD (aA jQ (aB kK B.hb rfl (aI gZ (M _ B.aE) (aK (aC (λg9=>?_) λg9=>⟨vb (by unfold wV nN;first|(rw[gD I];rfl)|(rw[fV cW,o3 cW];simp;done)|(rw[fV cW,J,gq I];dsimp only;first|(rw[gD E];rfl)|(rw[gq E];rfl))),B⟩))))))))) λI=>⟨vb (by unfold wV nN;first|(rw[gD I];rfl)|(rw[fV cW,o3 cW];simp;done)|(rw[fV cW,J,gq I];dsimp only;first|(rw[gD E];rfl)|(rw[gq E];rfl))),B⟩))))
  refine aD (aA jQ (aB kK B.hb rfl (aD (aA ga (aB aV B.hb rfl ?_)))));obtain⟨Gq,J⟩:=gx l (i:=s.at_.toNat) cW;refine aQ gZ (M _ B.aE) cW J (λ_ DO=>bO Gq.kind nF DO rfl rfl λ_ kM=>?_);exact aF aV kM (aH (aC (λE=>aD (aA jQ (aB kK B.hb rfl (aD (aA ga (aB aV B.hb rfl (aQ gZ (M _ B.aE) cW J λ_ wN=>bO Gq.text pQ wN rfl rfl λ_ yh=>aF mJ yh (aZ xE B (C161 _ _ (by have:=vG _ (ld J);omega)) λ_ he B=>⟨vb (by unfold wV nN;first|(rw[gD I];rfl)|(rw[fV cW,o3 cW];simp;done)|(rw[fV cW,J,gq I];dsimp only;first|(rw[gD E];rfl)|(rw[gq E];rfl))),B⟩)))))))) λE=>⟨vb (by unfold wV nN;first|(rw[gD I];rfl)|(rw[fV cW,o3 cW];simp;done)|(rw[fV cW,J,gq I];dsimp only;first|(rw[gD E];rfl)|(rw[gq E];rfl))),B⟩))
 rintro _ _ ⟨rfl,B⟩ _;refine aW (λO=>?_) (λO=>?_)
 .obtain⟨_,U,BH,_,_⟩:=EB O;obtain⟨ax7,ax8,aqt⟩:=oU BH;have Xd:l[(s.at_+1-1).toNat]?=some U:=by rw[<- aqt];congr 2;omega
  refine aD (aA ga (aB aV B.hb rfl (aN cW (aD (aA ga (aS B aV (dV rfl) (rfl) λ_ B=>aD (aA jQ (have B:=B.drew;aB kK B.hb rfl (aD (aA ga (aB aV B.hb rfl ?_)))))))))));refine eW cW (aQ gZ (M _ B.aE) cW Xd λ_ Cg=>bO U.text pQ Cg rfl rfl λ_ V=>aF mJ V ?_);have hb:dL l s=({s with at_:=s.at_+1},U.text):=by unfold dL;rw[fV O];unfold su;rw[BH];rfl
  rw[hb];exact⟨rfl,B.mut⟩
 refine bI LG B (H':=λ_=>cI p (eQ lv ov (lg l s 5))) (Φ:=λ_ _=>True) (λF2 fz eO=>?_) ?_
 .exact(C254 p lv ov l s 5 F2 _ fz (λw' hc=>M w' (eO w' hc).aE) W h0).mono λ_ _ r=>r.mono λ_ _ h=>⟨trivial,h.2⟩
 rintro _ _ _ B;have hb:dL l s=(lg l s 5,⟨#[]⟩):=by unfold dL;rw[fU (by simpa using O)]
 rw[hb];exact⟨rfl,B.mut⟩
def C167(p:Nat)(lv:Value)(l:List bP)(s:ik)(F:Nat->Prop)(w:World)(hF:(cI p (fy lv s)).p w F)(O:∀w',js F w w'->eN (λ_=>True) w' lv l)(W:kz l)(h0:nD l s):CR 167 [(.pointer (some ⟨p,0,none⟩))] w (λv w'=>v=j6 (gd l s).2/\pk F (cI p (fy lv (gd l s).1)) w w'):=by
 have B:=St.begin hF;have KD:=W.n;have hn:l.length<=1000000:=cW
 have vG:=W.at_;obtain⟨Xf,Xg⟩:=id h0;refine uT Tryz.func167 (pl:=aCO) ?_;refine aR B GW (λmV _ B=>⟨λjv w'=>jv=.bool (wV l s)/\St w F [cI p (fy lv s),cI mV (kp (⟨k9 #[],0,0⟩:dW))] w',?_,?_⟩)
 .refine aD (aA oy (have B:=B.drew;aB qt B.p1.hb rfl (aH (aC (λI=>aD (aA gH (aB aV B.p1.hb rfl (aD (aA me (aB kK B.p1.hb rfl (aI gZ (O _ B.aE) (aK (aC (λg9=>?_) λg9=>have B:=B.p1;⟨vb (by unfold wV nN;first|(rw[gD I];rfl)|(rw[fV cW,o3 cW];simp;done)|(rw[fV cW,M,gq I];dsimp only;first|(rw[gD E];rfl)|(rw[gq E];rfl))),B⟩))))))))) λI=>have B:=B.p1;⟨vb (by unfold wV nN;first|(rw[gD I];rfl)|(rw[fV cW,o3 cW];simp;done)|(rw[fV cW,M,gq I];dsimp only;first|(rw[gD E];rfl)|(rw[gq E];rfl))),B⟩))))
  refine aD (aA me (aB kK B.p1.hb rfl (aD (aA gH (aB aV B.p1.hb rfl ?_)))));obtain⟨Gq,M⟩:=gx l (i:=s.at_.toNat) cW;refine aQ gZ (O _ B.aE) cW M (λ_ DO=>bO Gq.kind nF DO rfl rfl λ_ kM=>?_);exact aF aV kM (aH (aC (λE=>aD (aA me (aB kK B.p1.hb rfl (aD (aA gH (aB aV B.p1.hb rfl (aQ gZ (O _ B.aE) cW M λ_ wN=>bO Gq.text pQ wN rfl rfl λ_ yh=>aF mJ yh (aZ xE B (C161 _ _ (by have:=vG _ (ld M);omega)) λ_ he B=>have B:=B.p1;⟨vb (by unfold wV nN;first|(rw[gD I];rfl)|(rw[fV cW,o3 cW];simp;done)|(rw[fV cW,M,gq I];dsimp only;first|(rw[gD E];rfl)|(rw[gq E];rfl))),B⟩)))))))) λE=>have B:=B.p1;⟨vb (by unfold wV nN;first|(rw[gD I];rfl)|(rw[fV cW,o3 cW];simp;done)|(rw[fV cW,M,gq I];dsimp only;first|(rw[gD E];rfl)|(rw[gq E];rfl))),B⟩))
 rintro _ _ ⟨rfl,B⟩ _;refine aW (λU=>?_) (λU=>?_)
 .obtain⟨_,J,BH,_,_⟩:=EB U;obtain⟨ax7,ax8,aqt⟩:=oU BH;have Xd:l[(s.at_+1-1).toNat]?=some J:=by rw[<- aqt];congr 2;omega
  refine aD (aA gH (aB aV B.hb rfl (aN cW (aD (aA gH (aS B aV (dV rfl) (rfl) λ_ B=>aD (aA me (have B:=B.drew;aB kK B.hb rfl (aD (aA gH (aB aV B.hb rfl ?_)))))))))));refine eW cW (aQ gZ (O _ B.aE) cW Xd λ_ Cg=>bO J.text pQ Cg rfl rfl λ_ V=>aF mJ V (aD (aA me (aB kK B.hb rfl (aD (aA gH (aB aV B.hb rfl (eW cW (aQ gZ (O _ B.aE) cW Xd λ_ AP=>bO J.at_ nG AP rfl rfl λ_ RH=>?_)))))))))
  refine aF aV RH (pop (Ih _ _) (aO (x:=(⟨J.text,0,J.at_⟩:dW)) B.p1 B9 rfl rfl λ_ B=>aF B9 B.At ?_));have B:=B.drop;have hb:gd l s=({s with at_:=s.at_+1},⟨J.text,0,J.at_⟩):=by unfold gd;rw[fV U];unfold su;rw[BH];rfl
  rw[hb];exact⟨rfl,B.mut⟩
 refine bI VE B (H':=λ_=>cI p (fy lv (lg l s 5))) (Φ:=λ_ _=>True) (λF2 fz eO=>?_) ?_
 .exact(C170 p lv l s F2 _ fz (λw' hc=>O w' (eO w' hc).aE) W h0).mono λ_ _ r=>r.mono λ_ _ h=>⟨trivial,h.2⟩
 rintro _ _ _ B;refine pop ahb (aO (x:=(⟨(k9 #[]),0,0⟩:dW)) B.p1 B9 rfl rfl λ_ B=>aF B9 B.At ?_);have B:=B.drop;have hb:gd l s=(lg l s 5,⟨⟨#[]⟩,0,0⟩):=by unfold gd;rw[fU (by simpa using U)]
 rw[hb];exact⟨rfl,B.mut⟩
def C253(k:Int)(w:World)(U:0<=k/\k<=14):CR 253 [jK k] w (λv w'=>v=.string (Mq k)/\Ext w w'):=by
 have B:=St.start w;refine lx Tryz.func253 ?_;refine bJ Hm B pK rfl rfl (dV rfl) (λJ _ B=>?_);have O:Hm.length=15:=rfl;obtain⟨I,E⟩:=gx Hm (i:=k.toNat) cW;refine cH B pK cW cW (λ_ M=>eK B mJ M E ?_);refine⟨?_,B.drop.aE⟩;unfold Mq;rw[E];rfl
def C262(p:Nat)(lv ov:Value)(l:List bP)(s:ik)(F:Nat->Prop)(w:World)(hF:(cI p (eQ lv ov s)).p w F)(I:∀w',js F w w'->eN (λ_=>True) w' lv l)(U:kz l)(h0:nD l s):CR 262 [(.pointer (some ⟨p,0,none⟩))] w (λv w'=>v=jK (m8 l s).2/\pk F (cI p (eQ lv ov (m8 l s).1)) w w'):=by
 have B:=St.begin hF;have KD:=U.n;have hn:l.length<=1000000:=cW
 have vG:=U.at_;obtain⟨Xf,Xg⟩:=id h0;refine uT Tryz.func262 (pl:=aDe) ?_;refine⟨λjv w'=>jv=.bool (Ux l s)/\St w F [cI p (eQ lv ov s)] w',?_,?_⟩
 .refine aD (aA mS (have B:=B.drew;aB qt B.hb rfl (aH (aC (λE=>aD (aA ga (aB aV B.hb rfl (aD (aA jQ (aB kK B.hb rfl (aI gZ (I _ B.aE) (aK (aC (λgI=>?_) λgI=>⟨vb (by unfold Ux nN;first|(rw[gD E];rfl)|(rw[fV cW,o3 cW];simp;done)|(rw[fV cW,O,gq E];rfl)),B⟩))))))))) λE=>⟨vb (by unfold Ux nN;first|(rw[gD E];rfl)|(rw[fV cW,o3 cW];simp;done)|(rw[fV cW,O,gq E];rfl)),B⟩))))
  refine aD (aA jQ (aB kK B.hb rfl (aD (aA ga (aB aV B.hb rfl ?_)))));obtain⟨rG,O⟩:=gx l (i:=s.at_.toNat) cW;exact aQ gZ (I _ B.aE) cW O (λ_ kM=>bO rG.kind nF kM rfl rfl λ_ nf=>aF aV nf (aH ⟨vb (by unfold Ux nN;first|(rw[gD E];rfl)|(rw[fV cW,o3 cW];simp;done)|(rw[fV cW,O,gq E];rfl)),B⟩))
 rintro _ _ ⟨rfl,B⟩ _;refine aW (λJ=>?_) (λJ=>?_)
 .obtain⟨_,M,BH,_⟩:=Xe J;obtain⟨ax7,ax8,Xd⟩:=oU BH;refine aD (aA jQ (have B:=B.drew;aB kK B.hb rfl (aD (aA ga (aB aV B.hb rfl (aQ gZ (I _ B.aE) cW Xd λ_ wN=>bO M.n vq wN rfl rfl λ_ yh=>aF aV yh ⟨λjv w'=>jv=.bool (decide (1<=M.n/\M.n<=8))/\St w F [cI p (eQ lv ov s)] w',cN (aC (λ_=>gL ⟨vb (by first|exact(gD cW).symm|exact hI.2 cW),B⟩) λ_=>⟨vb (by first|exact(gD cW).symm|exact hI.2 cW),B⟩),?_⟩))))))
  rintro _ _ ⟨rfl,B⟩ _;refine aC (λV=>?_) (λV=>?_)
  .refine aD (aA ga (aB aV B.hb rfl (aN cW (aD (aA ga (aS B aV (dV rfl) (rfl) λ_ B=>?_))))));have hb:m8 l s=({s with at_:=s.at_+1},M.n):=by unfold m8;rw[fV J];unfold su;rw[BH];exact fV V
   rw[hb];exact⟨rfl,B.mut⟩
  refine bI LG B (H':=λ_=>cI p (eQ lv ov (lg l s 11))) (Φ:=λ_ _=>True) (λF2 fz W=>?_) ?_
  .exact(C254 p lv ov l s 11 F2 _ fz (λw' hc=>I w' (W w' hc).aE) U h0).mono λ_ _ r=>r.mono λ_ _ h=>⟨trivial,h.2⟩
  rintro _ _ _ B;have hb:m8 l s=(lg l s 11,0):=by unfold m8;rw[fV J];unfold su;rw[BH];exact fU V
  rw[hb];exact⟨rfl,B.mut⟩
 refine bI LG B (H':=λ_=>cI p (eQ lv ov (lg l s 5))) (Φ:=λ_ _=>True) (λF2 fz W=>?_) ?_
 .exact(C254 p lv ov l s 5 F2 _ fz (λw' hc=>I w' (W w' hc).aE) U h0).mono λ_ _ r=>r.mono λ_ _ h=>⟨trivial,h.2⟩
 rintro _ _ _ B;have hb:m8 l s=(lg l s 5,0):=by unfold m8;rw[fU (by simpa using J)]
 rw[hb];exact⟨rfl,B.mut⟩
def C261(p:Nat)(lv ov:Value)(l:List bP)(s:ik)(E:ik)(x:List dP)(F:Nat->Prop)(w:World)(hF:(cI p (eQ lv ov s)).p w F)(hT:∀w',js F w w'->eN (λ_=>True) w' lv l)(V:kz l)(h0:nD l s)(O:uC l s=some (E,x)):CR 261 [(.pointer (some ⟨p,0,none⟩))] w (λv w'=>pk F (uI λsv:SV=>fact (v=j6 sv) (sep (cI p (eQ lv ov E)) (fB λw=>DL w (j6 sv) x))) w w'):=by
 have B:=St.begin hF;have KD:=V.n;have hn:l.length<=1000000:=cW
 have vG:=V.at_;obtain⟨Xf,Xg⟩:=id h0;refine uT Tryz.func261 (pl:=aDd) ?_;refine aD (aA mS (aB qt B.hb rfl (bQ (aC (λjz=>?_) λjz=>?_))))
 .have J:((s,[]):ik×List dP)=(E,x):=by unfold uC at O;rw[fV jz]at O;exact qa.inj O
  cases J;have B:=(B.iK (Φ:=λw=>DL w (j6 (bL:SV)) ([]:List dP)) λw=>DL.nil w).p1;exact(St.fD (bL:SV) (St.qM rfl (St.join B))).mut
 refine aD (aA jQ (have B:=B.drew;aB kK B.hb rfl (aD (aA ga (aB aV B.hb rfl ?_)))));obtain⟨R,U,I⟩:=adN O cW;refine eR akz (C214 l _ s.at_ R _ (hT _ B.aE) V cW U) ?_;rintro _ _ ⟨W,rfl,cJ⟩;have B:=B.made cJ;refine bD rfl (bD rfl (bD rfl (bD rfl (bQ (aC (λM=>?_) λM=>?_)))))
 .refine aD (aA mS (aS B.p1 qt (dV rfl) (rfl) λ_ B=>aD (aA DD (aS B aV (dV rfl) (rfl) λ_ B=>?_))));have J:(({s with e:=R.2.2.1,pos:=R.2.2.2},[]):ik×List dP)=(E,x):=by rw[fV M]at I;exact qa.inj I
  cases J;have B:=(B.p1.drop.iK (Φ:=λw=>DL w (j6 (bL:SV)) ([]:List dP)) λw=>DL.nil w).p1;exact(St.fD (bL:SV) (St.qM rfl (St.join B))).mut
 have AM:=adO I M;refine aD (aA ga (aS B.p1 aV (dV rfl) (rfl) λ_ B=>?_));have J:(({s with at_:=R.2.1},R.1):ik×List dP)=(E,x):=by rw[fU M,fV AM]at I;exact qa.inj I
 cases J;have B:=B.p1.p1;exact(St.fD W (St.qM rfl (St.join B))).mut
def Sx(k at_:Int):cR:=⟨k,⟨#[]⟩,⟨#[]⟩,[],[],0,0,0,at_⟩
abbrev OR:ByteArray:=⟨#[61]⟩
def ZU(l:List bP)(s:ik):ik:=eC l (dL l s).1 (k9 #[61])
def s2M(l:List bP)(s:ik):ik:=eC l (dL l (ZU l s)).1 (k9 #[44])
def m9(l:List bP)(s:ik)(k a:Int):Option (ik×cR):=
 if k=1 then(uC l (ZU l s)).bind λr=>some (r.1,{Sx k a with jJ:=(dL l s).2,e:=r.2})
 else if k=2 then some ((dL l (ZU l s)).1,{Sx k a with jJ:=(dL l s).2,name:=(dL l (ZU l s)).2})
 else if k=3 then(uC l (ZU l s)).bind λr=>some (r.1,{Sx k a with name:=(dL l s).2,e:=r.2})
 else if k=4 then(uC l (s2M l s)).bind λr=>(uC l (eC l r.1 (k9 #[44]))).bind λq=>some (q.1,{Sx k a with jJ:=(dL l s).2,name:=(dL l (ZU l s)).2,e:=r.2,f:=q.2})
 else if k=5\/k=6\/k=9\/k=10 then some ((dL l s).1,{Sx k a with name:=(dL l s).2})
 else if k=11\/k=14 then(uC l s).bind λr=>some (r.1,{Sx k a with e:=r.2})
 else if k=12 then some ((m8 l s).1,{Sx k a with n:=(m8 l s).2})
 else some (s,Sx k a)
section
variable {l:List bP}{s s':ik}{k a:Int}{x:cR}
theorem fQ{α β γ:Type}{o:Option (α×β)}{g:α×β->Option γ}{c:γ}(h:o.bind g=some c):∃p q,o=some (p,q)/\g (p,q)=some c:=by
 cases o with
 | none=>cases h
 | some r=>grind
theorem Xh(h:m9 l s k a=some (s',x))(B:k=1):∃q e,uC l (ZU l s)=some (q,e)/\s'=q/\x={Sx k a with jJ:=(dL l s).2,e:=e}:=by
 unfold m9 at h;rw[fV B]at h
 obtain⟨q,e,h1,h2⟩:=fQ h
 grind
theorem Xi(h:m9 l s k a=some (s',x))(B:k=2):s'=(dL l (ZU l s)).1/\x={Sx k a with jJ:=(dL l s).2,name:=(dL l (ZU l s)).2}:=by
 unfold m9 at h;grind
theorem Xj(h:m9 l s k a=some (s',x))(B:k=3):∃q e,uC l (ZU l s)=some (q,e)/\s'=q/\x={Sx k a with name:=(dL l s).2,e:=e}:=by
 unfold m9 at h;rw[fU cW,fU cW,fV B]at h
 obtain⟨q,e,h1,h2⟩:=fQ h
 grind
theorem Xk(h:m9 l s k a=some (s',x))(E:k=4):∃q e B f,uC l (s2M l s)=some (q,e)/\uC l (eC l q (k9 #[44]))=some (B,f)/\s'=B/\x={Sx k a with jJ:=(dL l s).2,name:=(dL l (ZU l s)).2,e:=e,f:=f}:=by
 unfold m9 at h;rw[fU cW,fU cW,fU cW,fV E]at h
 obtain⟨q,e,h1,h2⟩:=fQ h
 obtain⟨B,f,h3,h4⟩:=fQ h2
 grind
theorem Xl(h:m9 l s k a=some (s',x))(B:k=5\/k=6\/k=9\/k=10):s'=(dL l s).1/\x={Sx k a with name:=(dL l s).2}:=by
 unfold m9 at h;grind
theorem RI(h:m9 l s k a=some (s',x))(B:k=11\/k=14):∃q e,uC l s=some (q,e)/\s'=q/\x={Sx k a with e:=e}:=by
 unfold m9 at h;rw[fU cW,fU cW,fU cW,fU cW,fU cW,fV B]at h
 obtain⟨q,e,h1,h2⟩:=fQ h
 grind
theorem RJ(h:m9 l s k a=some (s',x))(B:k=12):s'=(m8 l s).1/\x={Sx k a with n:=(m8 l s).2}:=by
 unfold m9 at h;grind
theorem RL(h:m9 l s k a=some (s',x))(h1:¬ k=1)(h2:¬ k=2)(h3:¬ k=3)(h4:¬ k=4)(h5:¬ (k=5\/k=6\/k=9\/k=10))(h6:¬ (k=11\/k=14))(B:¬ k=12):s'=s/\x=Sx k a:=by
 unfold m9 at h;grind
end
def FN{l:List bP}{s s':ik}{k a:Int}{x:cR}(E:nD l s)(h:m9 l s k a=some (s',x)):nD l s':=by
 have I:nD l (ZU l s):=gX (je E)
 have J:nD l (s2M l s):=gX (je I)
 by_cases h1:k=1
 .obtain⟨q,e,B,rfl,_⟩:=Xh h h1;exact wc I B
 by_cases h2:k=2
 .obtain⟨rfl,_⟩:=Xi h h2;exact je I
 by_cases h3:k=3
 .obtain⟨q,e,B,rfl,_⟩:=Xj h h3;exact wc I B
 by_cases h4:k=4
 .obtain⟨q,e,U,f,B,O,rfl,_⟩:=Xk h h4;exact wc (gX (wc J B)) O
 by_cases h5:k=5\/k=6\/k=9\/k=10
 .obtain⟨rfl,_⟩:=Xl h h5;exact je E
 by_cases h6:k=11\/k=14
 .obtain⟨q,e,B,rfl,_⟩:=RI h h6;exact wc E B
 by_cases M:k=12
 .obtain⟨rfl,_⟩:=RJ h M;exact YX E
 obtain⟨rfl,_⟩:=RL h h1 h2 h3 h4 h5 h6 M;exact E
def A0{α σ:Type}[Flat σ][Deep α σ]{w w0:World}{A:Nat->Prop}{L:List HP}{B:HP}{sh:σ}{x:α}(E:St w0 A (B::fB (λw=>py w sh x)::L) w) :
  St w0 A ((uI λs:σ=>fact (j6 sh=j6 s) (sep B (fB λw=>py w s x)))::L) w:=
 St.fD (H:=λs:σ=>fact (j6 sh=j6 s) (sep B (fB λw=>py w s x))) sh (St.qM rfl (St.join E))
def C255(p:Nat)(lv ov:Value)(l:List bP)(s:ik)(kd a:Int)(s2:ik)(x:cR)(F:Nat->Prop)(w:World)(hF:(cI p (eQ lv ov s)).p w F)(V:∀w',js F w w'->eN (λ_=>True) w' lv l)(M:kz l)(O:nD l s)(hp:m9 l s kd a=some (s2,x)):CR 255 [(.pointer (some ⟨p,0,none⟩)),jK kd,jK a] w (λv w'=>pk F (uI λsh:cL=>fact (v=j6 sh) (sep (cI p (eQ lv ov s2)) (fB λw=>py w sh x))) w w'):=by
 have B:=St.begin hF;have KD:=M.n;have hn:l.length<=1000000:=cW
 have vG:=M.at_;obtain⟨Xf,Xg⟩:=id O;refine lx Tryz.func255 ?_;refine aR B uH (λLa _ B=>have B:=B.enc (cs':=kp (⟨0,(k9 #[]),(k9 #[]),bL,bL,0,0,0,0⟩:cL)) rfl;pop (SY _ _) (aR B uH λDZ _ B=>have B:=B.enc (cs':=kp (⟨0,(k9 #[]),(k9 #[]),bL,bL,0,0,0,0⟩:cL)) rfl;aO (x:=(⟨kd,(k9 #[]),(k9 #[]),bL,bL,0,0,0,a⟩:cL)) B iy rfl rfl λw3 B=>?_));refine⟨_,?_,λ_ h=>h⟩;refine aH (aC (λlq=>?_) λlq=>aH (aC (λjR=>?_) λjR=>aH (aC (λng=>?_) λng=>aH (aC (λzA=>?_) λzA=>⟨λjv w'=>jv=.bool (decide (kd=5\/kd=6\/kd=9\/kd=10))/\w3=w',aH (aC (λ_=>⟨vb eS,rfl⟩) λ_=>aH (aC (λ_=>⟨vb eS,rfl⟩) λ_=>aH (aC (λ_=>⟨vb eS,rfl⟩) λ_=>aH ⟨vb eS,rfl⟩))),?_⟩))))
 .obtain⟨q,e,U,rfl,rfl⟩:=Xh hp lq;refine bI HQ B.p2 (H':=λ_=>cI p (eQ lv ov (dL l s).1)) (Φ:=λv _=>v=.string (dL l s).2) (λJ I E=>?_) ?_
  .exact C260 p lv ov l s J _ I (λw' hc=>V w' (E w' hc).aE) M O
  rintro _ _ rfl B;refine aA ow (aS B.p1 mJ (dV rfl) (rfl) λ_ B=>have B:=B.enc (cs':=kp (⟨kd,(dL l s).2,(k9 #[]),bL,bL,0,0,0,a⟩:cL)) rfl;bI B8 B.p1 (H':=λ_=>cI p (eQ lv ov (eC l (dL l s).1 (k9 #[61])))) (Φ:=λ_ _=>True) (λJ I E=>?_) ?_)
  .exact(C234 p lv ov l (dL l s).1 (k9 #[61]) J _ I (λw' hc=>V w' (E w' hc).aE) M (je O)).mono λ_ _ r=>r.mono λ_ _ h=>⟨trivial,h.2⟩
  rintro _ _ _ B;refine bI Pm B (H':=λv=>uI λsv:SV=>fact (v=j6 sv) (sep (cI p (eQ lv ov s2)) (fB λw=>DL w (j6 sv) e))) (Φ:=λ_ _=>True) (λJ I E=>?_) ?_
  .exact(C261 p lv ov l (eC l (dL l s).1 (k9 #[61])) s2 e J _ I (λw' hc=>V w' (E w' hc).aE) M (gX (je O)) U).mono λ_ _ r=>r.mono λ_ _ h=>⟨trivial,h⟩
  rintro ax9 _ _ W;obtain⟨Uy,Ey⟩:=W.fH
  clear W
  obtain⟨aqu,Hi⟩:=Ey.pd
  clear Ey
  subst aqu;have B:=Hi.split;refine aA ox (aS B.p2 pJ (dV rfl) (rfl) λ_ B=>?_);have B:=B.enc (cs':=kp (⟨kd,(dL l s).2,(k9 #[]),Uy,bL,0,0,0,a⟩:cL)) rfl;intro uj;exact aF iy B.At (aO (x:=(⟨kd,(dL l s).2,(k9 #[]),Uy,bL,0,0,0,a⟩:cL)) B.p3 iy rfl rfl λ_ B=>aF iy B.At (have B:=B.p3.dT (Ψ:=(λw=>py w (⟨kd,(dL l s).2,(k9 #[]),Uy,bL,0,0,0,a⟩:cL) (⟨kd,(dL l s).2,(k9 #[]),e,[],0,0,0,a⟩:cR))) (λ_ h=>⟨_,_,rfl,id h,DL.nil _⟩);have B:=B.p1.drop.p1.drop.p1;(A0 B).mut))
 .obtain⟨rfl,rfl⟩:=Xi hp jR;refine bI HQ B.p2 (H':=λ_=>cI p (eQ lv ov (dL l s).1)) (Φ:=λv _=>v=.string (dL l s).2) (λJ I E=>?_) ?_
  .exact C260 p lv ov l s J _ I (λw' hc=>V w' (E w' hc).aE) M O
  rintro _ _ rfl B;refine aA ow (aS B.p1 mJ (dV rfl) (rfl) λ_ B=>have B:=B.enc (cs':=kp (⟨kd,(dL l s).2,(k9 #[]),bL,bL,0,0,0,a⟩:cL)) rfl;bI B8 B.p1 (H':=λ_=>cI p (eQ lv ov (eC l (dL l s).1 (k9 #[61])))) (Φ:=λ_ _=>True) (λJ I E=>?_) ?_)
  .exact(C234 p lv ov l (dL l s).1 (k9 #[61]) J _ I (λw' hc=>V w' (E w' hc).aE) M (je O)).mono λ_ _ r=>r.mono λ_ _ h=>⟨trivial,h.2⟩
  rintro _ _ _ B;refine bI HQ B (H':=λ_=>cI p (eQ lv ov (dL l (eC l (dL l s).1 (k9 #[61]))).1)) (Φ:=λv _=>v=.string (dL l (eC l (dL l s).1 (k9 #[61]))).2) (λJ I E=>?_) ?_
  .exact C260 p lv ov l (eC l (dL l s).1 (k9 #[61])) J _ I (λw' hc=>V w' (E w' hc).aE) M (gX (je O))
  rintro _ _ rfl B;refine aA lG (aS B.p1 mJ (dV rfl) (rfl) λ_ B=>?_);have B:=B.enc (cs':=kp (⟨kd,(dL l s).2,(dL l (eC l (dL l s).1 (k9 #[61]))).2,bL,bL,0,0,0,a⟩:cL)) rfl;intro uj;exact aF iy B.At (aO (x:=(⟨kd,(dL l s).2,(dL l (eC l (dL l s).1 (k9 #[61]))).2,bL,bL,0,0,0,a⟩:cL)) B.p2 iy rfl rfl λ_ B=>aF iy B.At (have B:=B.iK (Φ:=(λw=>py w (⟨kd,(dL l s).2,(dL l (eC l (dL l s).1 (k9 #[61]))).2,bL,bL,0,0,0,a⟩:cL) (⟨kd,(dL l s).2,(dL l (eC l (dL l s).1 (k9 #[61]))).2,[],[],0,0,0,a⟩:cR))) (λ_=>⟨_,_,rfl,DL.nil _,DL.nil _⟩);have B:=B.p1.drop.p1.drop.p1;(A0 B).mut))
 .obtain⟨q,e,U,rfl,rfl⟩:=Xj hp ng;refine bI HQ B.p2 (H':=λ_=>cI p (eQ lv ov (dL l s).1)) (Φ:=λv _=>v=.string (dL l s).2) (λJ I E=>?_) ?_
  .exact C260 p lv ov l s J _ I (λw' hc=>V w' (E w' hc).aE) M O
  rintro _ _ rfl B;refine aA lG (aS B.p1 mJ (dV rfl) (rfl) λ_ B=>have B:=B.enc (cs':=kp (⟨kd,(k9 #[]),(dL l s).2,bL,bL,0,0,0,a⟩:cL)) rfl;bI B8 B.p1 (H':=λ_=>cI p (eQ lv ov (eC l (dL l s).1 (k9 #[61])))) (Φ:=λ_ _=>True) (λJ I E=>?_) ?_)
  .exact(C234 p lv ov l (dL l s).1 (k9 #[61]) J _ I (λw' hc=>V w' (E w' hc).aE) M (je O)).mono λ_ _ r=>r.mono λ_ _ h=>⟨trivial,h.2⟩
  rintro _ _ _ B;refine bI Pm B (H':=λv=>uI λsv:SV=>fact (v=j6 sv) (sep (cI p (eQ lv ov s2)) (fB λw=>DL w (j6 sv) e))) (Φ:=λ_ _=>True) (λJ I E=>?_) ?_
  .exact(C261 p lv ov l (eC l (dL l s).1 (k9 #[61])) s2 e J _ I (λw' hc=>V w' (E w' hc).aE) M (gX (je O)) U).mono λ_ _ r=>r.mono λ_ _ h=>⟨trivial,h⟩
  rintro v_x40 _ _ W;obtain⟨Uz,Ey⟩:=W.fH
  clear W
  obtain⟨aqv,Hi⟩:=Ey.pd
  clear Ey
  subst aqv;have B:=Hi.split;refine aA ox (aS B.p2 pJ (dV rfl) (rfl) λ_ B=>?_);have B:=B.enc (cs':=kp (⟨kd,(k9 #[]),(dL l s).2,Uz,bL,0,0,0,a⟩:cL)) rfl;intro uj;exact aF iy B.At (aO (x:=(⟨kd,(k9 #[]),(dL l s).2,Uz,bL,0,0,0,a⟩:cL)) B.p3 iy rfl rfl λ_ B=>aF iy B.At (have B:=B.p3.dT (Ψ:=(λw=>py w (⟨kd,(k9 #[]),(dL l s).2,Uz,bL,0,0,0,a⟩:cL) (⟨kd,(k9 #[]),(dL l s).2,e,[],0,0,0,a⟩:cR))) (λ_ h=>⟨_,_,rfl,id h,DL.nil _⟩);have B:=B.p1.drop.p1.drop.p1;(A0 B).mut))
 .obtain⟨q,e,q2,f,U,hfx,rfl,rfl⟩:=Xk hp zA;refine bI HQ B.p2 (H':=λ_=>cI p (eQ lv ov (dL l s).1)) (Φ:=λv _=>v=.string (dL l s).2) (λJ I E=>?_) ?_
  .exact C260 p lv ov l s J _ I (λw' hc=>V w' (E w' hc).aE) M O
  rintro _ _ rfl B;refine aA ow (aS B.p1 mJ (dV rfl) (rfl) λ_ B=>have B:=B.enc (cs':=kp (⟨kd,(dL l s).2,(k9 #[]),bL,bL,0,0,0,a⟩:cL)) rfl;bI B8 B.p1 (H':=λ_=>cI p (eQ lv ov (eC l (dL l s).1 (k9 #[61])))) (Φ:=λ_ _=>True) (λJ I E=>?_) ?_)
  .exact(C234 p lv ov l (dL l s).1 (k9 #[61]) J _ I (λw' hc=>V w' (E w' hc).aE) M (je O)).mono λ_ _ r=>r.mono λ_ _ h=>⟨trivial,h.2⟩
  rintro _ _ _ B;refine bI HQ B (H':=λ_=>cI p (eQ lv ov (dL l (eC l (dL l s).1 (k9 #[61]))).1)) (Φ:=λv _=>v=.string (dL l (eC l (dL l s).1 (k9 #[61]))).2) (λJ I E=>?_) ?_
  .exact C260 p lv ov l (eC l (dL l s).1 (k9 #[61])) J _ I (λw' hc=>V w' (E w' hc).aE) M (gX (je O))
  rintro _ _ rfl B;refine aA lG (aS B.p1 mJ (dV rfl) (rfl) λ_ B=>have B:=B.enc (cs':=kp (⟨kd,(dL l s).2,(dL l (eC l (dL l s).1 (k9 #[61]))).2,bL,bL,0,0,0,a⟩:cL)) rfl;bI B8 B.p1 (H':=λ_=>cI p (eQ lv ov (eC l (dL l (eC l (dL l s).1 (k9 #[61]))).1 (k9 #[44])))) (Φ:=λ_ _=>True) (λJ I E=>?_) ?_)
  .exact(C234 p lv ov l (dL l (eC l (dL l s).1 (k9 #[61]))).1 (k9 #[44]) J _ I (λw' hc=>V w' (E w' hc).aE) M (je (gX (je O)))).mono λ_ _ r=>r.mono λ_ _ h=>⟨trivial,h.2⟩
  rintro _ _ _ B;refine bI Pm B (H':=λv=>uI λsv:SV=>fact (v=j6 sv) (sep (cI p (eQ lv ov q)) (fB λw=>DL w (j6 sv) e))) (Φ:=λ_ _=>True) (λJ I E=>?_) ?_
  .exact(C261 p lv ov l (eC l (dL l (eC l (dL l s).1 (k9 #[61]))).1 (k9 #[44])) q e J _ I (λw' hc=>V w' (E w' hc).aE) M (gX (je (gX (je O)))) U).mono λ_ _ r=>r.mono λ_ _ h=>⟨trivial,h⟩
  rintro v_x55 _ _ W;obtain⟨JM,Ey⟩:=W.fH
  clear W
  obtain⟨aqw,Hi⟩:=Ey.pd
  clear Ey
  subst aqw;have B:=Hi.split;refine aA ox (aS B.p2 pJ (dV rfl) (rfl) λ_ B=>have B:=B.enc (cs':=kp (⟨kd,(dL l s).2,(dL l (eC l (dL l s).1 (k9 #[61]))).2,JM,bL,0,0,0,a⟩:cL)) rfl;bI B8 B.p1 (H':=λ_=>cI p (eQ lv ov (eC l q (k9 #[44])))) (Φ:=λ_ _=>True) (λJ I E=>?_) ?_)
  .exact(C234 p lv ov l q (k9 #[44]) J _ I (λw' hc=>V w' (E w' hc).aE) M (wc (gX (je (gX (je O)))) U)).mono λ_ _ r=>r.mono λ_ _ h=>⟨trivial,h.2⟩
  rintro _ _ _ B;refine bI Pm B (H':=λv=>uI λsv:SV=>fact (v=j6 sv) (sep (cI p (eQ lv ov s2)) (fB λw=>DL w (j6 sv) f))) (Φ:=λ_ _=>True) (λJ I E=>?_) ?_
  .exact(C261 p lv ov l (eC l q (k9 #[44])) s2 f J _ I (λw' hc=>V w' (E w' hc).aE) M (gX (wc (gX (je (gX (je O)))) U)) hfx).mono λ_ _ r=>r.mono λ_ _ h=>⟨trivial,h⟩
  rintro v_x60 _ _ W;obtain⟨Fz,Ey⟩:=W.fH
  clear W
  obtain⟨aqx,Hi⟩:=Ey.pd
  clear Ey
  subst aqx;have B:=Hi.split;refine aA rn (aS B.p2 pJ (dV rfl) (rfl) λ_ B=>?_);have B:=B.enc (cs':=kp (⟨kd,(dL l s).2,(dL l (eC l (dL l s).1 (k9 #[61]))).2,JM,Fz,0,0,0,a⟩:cL)) rfl;intro uj;exact aF iy B.At (aO (x:=(⟨kd,(dL l s).2,(dL l (eC l (dL l s).1 (k9 #[61]))).2,JM,Fz,0,0,0,a⟩:cL)) B.p4 iy rfl rfl λ_ B=>aF iy B.At (have B:=B.p4.p4.p1.gU.dT (Ψ:=(λw=>py w (⟨kd,(dL l s).2,(dL l (eC l (dL l s).1 (k9 #[61]))).2,JM,Fz,0,0,0,a⟩:cL) (⟨kd,(dL l s).2,(dL l (eC l (dL l s).1 (k9 #[61]))).2,e,f,0,0,0,a⟩:cR))) (λ_ h=>⟨_,_,rfl,id h.1,id h.2⟩);have B:=B.p1.drop.p1.drop.p1;(A0 B).mut))
 rintro _ _ ⟨rfl,hw⟩ _;subst hw;refine aC (λtK=>?_) (λtK=>⟨λjv w'=>jv=.bool (decide (kd=11\/kd=14))/\w3=w',aH (aC (λ_=>⟨vb eS,rfl⟩) λ_=>aH ⟨vb eS,rfl⟩),?_⟩)
 .obtain⟨rfl,rfl⟩:=Xl hp tK;refine bI HQ B.p2 (H':=λ_=>cI p (eQ lv ov (dL l s).1)) (Φ:=λv _=>v=.string (dL l s).2) (λJ I E=>?_) ?_
  .exact C260 p lv ov l s J _ I (λw' hc=>V w' (E w' hc).aE) M O
  rintro _ _ rfl B;refine aA lG (aS B.p1 mJ (dV rfl) (rfl) λ_ B=>?_);have B:=B.enc (cs':=kp (⟨kd,(k9 #[]),(dL l s).2,bL,bL,0,0,0,a⟩:cL)) rfl;intro uj;exact aF iy B.At (aO (x:=(⟨kd,(k9 #[]),(dL l s).2,bL,bL,0,0,0,a⟩:cL)) B.p2 iy rfl rfl λ_ B=>aF iy B.At (have B:=B.iK (Φ:=(λw=>py w (⟨kd,(k9 #[]),(dL l s).2,bL,bL,0,0,0,a⟩:cL) (⟨kd,(k9 #[]),(dL l s).2,[],[],0,0,0,a⟩:cR))) (λ_=>⟨_,_,rfl,DL.nil _,DL.nil _⟩);have B:=B.p1.drop.p1.drop.p1;(A0 B).mut))
 rintro _ _ ⟨rfl,hw⟩ _;subst hw;refine aC (λIY=>?_) (λIY=>aH (aC (λCj=>?_) λCj=>?_))
 .obtain⟨q,e,U,rfl,rfl⟩:=RI hp IY;refine bI Pm B.p2 (H':=λv=>uI λsv:SV=>fact (v=j6 sv) (sep (cI p (eQ lv ov s2)) (fB λw=>DL w (j6 sv) e))) (Φ:=λ_ _=>True) (λJ I E=>?_) ?_
  .exact(C261 p lv ov l s s2 e J _ I (λw' hc=>V w' (E w' hc).aE) M O U).mono λ_ _ r=>r.mono λ_ _ h=>⟨trivial,h⟩
  rintro v_x74 _ _ W;obtain⟨UA,Ey⟩:=W.fH
  clear W
  obtain⟨aqy,Hi⟩:=Ey.pd
  clear Ey
  subst aqy;have B:=Hi.split;refine aA ox (aS B.p2 pJ (dV rfl) (rfl) λ_ B=>?_);have B:=B.enc (cs':=kp (⟨kd,(k9 #[]),(k9 #[]),UA,bL,0,0,0,a⟩:cL)) rfl;intro uj;exact aF iy B.At (aO (x:=(⟨kd,(k9 #[]),(k9 #[]),UA,bL,0,0,0,a⟩:cL)) B.p3 iy rfl rfl λ_ B=>aF iy B.At (have B:=B.p3.dT (Ψ:=(λw=>py w (⟨kd,(k9 #[]),(k9 #[]),UA,bL,0,0,0,a⟩:cL) (⟨kd,(k9 #[]),(k9 #[]),e,[],0,0,0,a⟩:cR))) (λ_ h=>⟨_,_,rfl,id h,DL.nil _⟩);have B:=B.p1.drop.p1.drop.p1;(A0 B).mut))
 .obtain⟨rfl,rfl⟩:=RJ hp Cj;refine bI auA B.p2 (H':=λ_=>cI p (eQ lv ov (m8 l s).1)) (Φ:=λv _=>v=jK (m8 l s).2) (λJ I E=>?_) ?_
  .exact C262 p lv ov l s J _ I (λw' hc=>V w' (E w' hc).aE) M O
  rintro _ _ rfl B;refine aA xP (aS B.p1 aV (dV rfl) (rfl) λ_ B=>?_);have B:=B.enc (cs':=kp (⟨kd,(k9 #[]),(k9 #[]),bL,bL,(m8 l s).2,0,0,a⟩:cL)) rfl;intro uj;exact aF iy B.At (aO (x:=(⟨kd,(k9 #[]),(k9 #[]),bL,bL,(m8 l s).2,0,0,a⟩:cL)) B.p2 iy rfl rfl λ_ B=>aF iy B.At (have B:=B.iK (Φ:=(λw=>py w (⟨kd,(k9 #[]),(k9 #[]),bL,bL,(m8 l s).2,0,0,a⟩:cL) (⟨kd,(k9 #[]),(k9 #[]),[],[],(m8 l s).2,0,0,a⟩:cR))) (λ_=>⟨_,_,rfl,DL.nil _,DL.nil _⟩);have B:=B.p1.drop.p1.drop.p1;(A0 B).mut))
 obtain⟨rfl,rfl⟩:=RL hp lq jR ng zA tK IY Cj;intro uj;exact aF iy B.At (aO (x:=(⟨kd,(k9 #[]),(k9 #[]),bL,bL,0,0,0,a⟩:cL)) B.p1 iy rfl rfl λ_ B=>aF iy B.At (have B:=B.iK (Φ:=(λw=>py w (⟨kd,(k9 #[]),(k9 #[]),bL,bL,0,0,0,a⟩:cL) (⟨kd,(k9 #[]),(k9 #[]),[],[],0,0,0,a⟩:cR))) (λ_=>⟨_,_,rfl,DL.nil _,DL.nil _⟩);have B:=B.p1.drop.p1.drop.p1;(A0 B).mut))
end Go.Proofs.YtnjcingfdhjfkaaGreat
