/-
  Part 2.
-/
import Derived.Test.YtpdlpabnlkofmaaGreatDoorM1
set_option maxHeartbeats 8000000
set_option linter.all false
set_option maxRecDepth 100000
namespace Go.Fw
section
variable {P:Program}{w w0:World}{A S:Nat->Prop}{L:List HP}
theorem bM{T:TypeId}{b o:Nat}{v:Value}{K:Value->Prop}(ht:Vs P T)(hb:Cell w b o v)(k:K v) :
  JB P (Instr.loadAt T (.pointer (some ⟨b,o,none⟩))) w K:=⟨v,aG ht hb,k⟩
theorem cI{α:Type}[Flat α]{T:TypeId}{x:α}{K:Value->World->Prop}(hs:St w0 A L w)
  (k:∀b w',St w0 A (bY b (Flat.enc x)::L) w'->K (.pointer (some ⟨b,0,none⟩)) w'):rC P (Instr.box T (Flat.val x)) w K:=by
 refine⟨_,_,H7 T _,k _ _ ?_⟩
 rw[ph]
 exact hs.push
def Bl(a b:Int):Int:=((BitVec.ofInt 64 a &&& BitVec.ofInt 64 b).toNat:Int)
theorem DE(a:Int){b:Int}(h0:0<=b)(h1:b<=9223372036854775807):0<=Bl a b/\Bl a b<=b:=by
 unfold Bl
 refine⟨by omega,?_⟩
 have h2:(BitVec.ofInt 64 a &&& BitVec.ofInt 64 b).toNat<=(BitVec.ofInt 64 b).toNat:=by
  rw[BitVec.toNat_and];exact Nat.and_le_right
 have h3:((BitVec.ofInt 64 b).toNat:Int)=b:=by
  rw[BitVec.toNat_ofInt]
  omega
 omega
theorem aby{T:Nat}{cx cy:Bool}{a b:Int}{K:Value->Prop}(h0:0<=b)(h1:b<=9223372036854775807)(k:K (.int .i64 (Bl a b))):eN P (jz .and T cx cy (.int .i64 a) (.int .i64 b)) K:=by
 refine⟨_,?_,k⟩
 show some (Value.int .i64 (IntKind.i64.wrap ((BitVec.ofInt 64 a &&& BitVec.ofInt 64 b).toNat:Int)))=_
 have:=DE a h0 h1
 unfold Bl at this |-
 rw[IntWalk.i64_in _ (by omega)]
theorem yg{T:Nat}{a b:Bool}(h:P.underlying T=some .bool):pr P (Op.equal T (.bool a) (.bool b))=some (a == b):=by
 show pr P (Op.equalIn 10000 T (.bool a) (.bool b))=_
 unfold Op.equalIn
 rw[cX,cZ h]
 rfl
theorem Vv{T:Nat}{cx cy:Bool}{a b:Bool}{K:Value->Prop}(h:P.underlying T=some .bool)(k:K (.bool (a == b))):eN P (jz .eql T cx cy (.bool a) (.bool b)) K:=by
 refine⟨_,?_,k⟩
 show pr P (do pure (Value.bool (<- Op.equal T (.bool a) (.bool b))))=_
 rw[uW,yg h];rfl
theorem rG{T:Nat}{cx cy:Bool}{a b:Bool}{K:Value->Prop}(h:P.underlying T=some .bool)(k:K (.bool (a != b))):eN P (jz .neq T cx cy (.bool a) (.bool b)) K:=by
 refine⟨_,?_,k⟩
 show pr P (do pure (Value.bool (!(<- Op.equal T (.bool a) (.bool b)))))=_
 rw[uW _ (λ b=>Value.bool (!b)),yg h];rfl
theorem FT{T e:Nat}{a:Option Addr}{n c:Nat}(h:P.underlying T=some (.slice e))(ha:a=none->n=0/\c=0):pr P (Op.equal T (.slice a n c) (.slice none 0 0))=some a.isNone:=by
 show pr P (Op.equalIn 10000 T (.slice a n c) (.slice none 0 0))=_
 unfold Op.equalIn
 rw[cX,cZ h]
 cases a<;>rfl
theorem Vw{T e:Nat}{cx cy:Bool}{a:Option Addr}{n c:Nat}{K:Value->Prop}(h:P.underlying T=some (.slice e))(ha:a=none->n=0/\c=0)(k:K (.bool a.isNone)):eN P (jz .eql T cx cy (.slice a n c) (.slice none 0 0)) K:=by
 refine⟨_,?_,k⟩
 show pr P (do pure (Value.bool (<- Op.equal T (.slice a n c) (.slice none 0 0))))=_
 rw[uW,FT h ha];rfl
def nN:TypeDesc->Option Nat
 | .int .i64=>some 0
 | .bool=>some 1
 | .string=>some 2
 | _=>none
def n8:Value->Option Nat
 | .int .i64 _=>some 0
 | .bool _=>some 1
 | .string _=>some 2
 | _=>none
def eqV:Value->Value->Bool
 | .int _ a,.int _ b=>decide (a=b)
 | .bool a,.bool b=>a == b
 | .string a,.string b=>a == b
 | _,_=>false
def uc:List Value->List Value->Bool
 | a::x,b::y=>eqV a b&&uc x y
 | _,_=>true
def oa(P:Program):Nat->List Field->Option (List Nat)
 | _,[]=>some []
 | k,f::fs=>
  if f.name ≠ "_" /\ f.offset=k then
   match P.underlying f.type with
   | some d=>match nN d,oa P (k+1) fs with
    | some n,some r=>some (n::r)
    | _,_=>none
   | none=>none
  else none
def wg(P:Program)(T:TypeId):Option (List Nat):=
 match P.underlying T with
 | some (.struct fs)=>if P.stoodInHeld T=false/\P.eqGuardType P.depth T=false then oa P 0 fs.toList else none
 | _=>none
def NZ(d:Nat)(xs ys:Array Value):List Field->Sem Bool
 | []=>pure true
 | f::r => if f.name ≠ "_" then do
   let same <- Op.equalIn d f.type (<- part f.type xs f.offset) (<- part f.type ys f.offset)
   if (!same)=true then pure false else NZ d xs ys r
  else NZ d xs ys r
theorem Cx{T:TypeId}{d:TypeDesc}{n:Nat}(h:P.underlying T=some d)(hs:nN d=some n):pr P (isAgg T)=some false:=by
 unfold isAgg
 rw[cX,cZ h]
 cases d<;>simp[nN]at hs<;>rfl
theorem QQ{T:TypeId}{d:TypeDesc}{n o:Nat}{cs:Array Value}{v:Value}(h:P.underlying T=some d)(hs:nN d=some n)(hv:cs[o]?=some v):pr P (part T cs o)=some v:=by
 unfold part
 rw[cX,Cx h hs]
 simp only[Option.bind_some,Bool.false_eq_true,if_false,hv]
 rfl
theorem Kf{k:Nat}{T:TypeId}{d:TypeDesc}{n:Nat}{a b:Value}(h:P.underlying T=some d)(hs:nN d=some n)(ha:n8 a=some n)(hb:n8 b=some n) :
  pr P (Op.equalIn (k+1) T a b)=some (eqV a b):=by
 unfold Op.equalIn
 rw[cX,cZ h]
 simp only[Option.bind_some]
 cases d<;>simp only[nN]at hs<;>try(cases hs;done)
 case int kd=>
  cases kd<;>simp at hs
  subst hs
  cases a<;>simp only[n8]at ha<;>try(cases ha;done)
  rename_i ka na
  cases b<;>simp only[n8]at hb<;>try(cases hb;done)
  rename_i kb nb
  cases ka<;>simp at ha
  cases kb<;>simp at hb
  rfl
 case bool=>
  cases hs
  cases a<;>simp only[n8]at ha<;>first|(rename_i ka na;cases ka<;>simp at ha)|skip
  all_goals try(simp at ha;done)
  cases b<;>simp only[n8]at hb<;>first|(rename_i kb nb;cases kb<;>simp at hb)|skip
  all_goals try(simp at hb;done)
  rfl
 case string=>
  cases hs
  cases a<;>simp only[n8]at ha<;>first|(rename_i ka na;cases ka<;>simp at ha)|skip
  all_goals try(simp at ha;done)
  cases b<;>simp only[n8]at hb<;>first|(rename_i kb nb;cases kb<;>simp at hb)|skip
  all_goals try(simp at hb;done)
  rfl
theorem Kg{k:Nat}{xs ys:List Value}:∀(fs:List Field) (i:Nat) (ks:List Nat),oa P i fs=some ks->(∀j n,ks[j]?=some n->∃a b,xs[i+j]?=some a/\ys[i+j]?=some b/\n8 a=some n/\n8 b=some n)->
  pr P (NZ (k+1) xs.toArray ys.toArray fs)=some (uc ((xs.drop i).take ks.length) ((ys.drop i).take ks.length)):=by
 intro fs
 induction fs with
 | nil=>intro i ks h _;simp only[oa,Option.some.injEq]at h;subst h;simp[NZ,uc];rfl
 | cons f fs ih=>
  intro i ks h hk
  unfold oa at h
  split at h
  ·rename_i hf
   cases hu:P.underlying f.type with
   | none=>grind
   | some d=>
    rw[hu]at h
    dsimp only at h
    cases hd:nN d with
    | none=>grind
    | some n=>
     rw[hd]at h
     cases hr:oa P (i+1) fs with
     | none=>grind
     | some r=>
      rw[hr]at h
      simp only[Option.some.injEq]at h
      subst h
      obtain⟨a,b,ha,hb,ka,kb⟩:=hk 0 n rfl
      rw[Nat.add_zero]at ha hb
      have hxd:xs.drop i=a::xs.drop (i+1):=by
       rw[<- List.getElem_cons_drop (List.getElem?_eq_some_iff.1 ha).1,(List.getElem?_eq_some_iff.1 ha).2]
      have hyd:ys.drop i=b::ys.drop (i+1):=by
       rw[<- List.getElem_cons_drop (List.getElem?_eq_some_iff.1 hb).1,(List.getElem?_eq_some_iff.1 hb).2]
      have ih':=ih (i+1) r hr λ j m hj=>by
       obtain⟨a',b',h1,h2,h3,h4⟩:=hk (j+1) m (by grind)
       grind
      unfold NZ
      rw[if_pos hf.1,cX,QQ hu hd (v:=a) (by grind)]
      simp only[Option.bind_some]
      rw[cX,QQ hu hd (v:=b) (by grind)]
      simp only[Option.bind_some]
      rw[cX,Kf hu hd ka kb]
      simp only[Option.bind_some,List.length_cons,hxd,hyd,List.take_succ_cons,uc]
      cases he:eqV a b with
      | false=>rfl
      | true=>grind
  ·cases h
theorem zO{d:Nat}{t:TypeId}{fs:Array Field}{xs ys:Array Value}(ht:P.underlying t=some (.struct fs))(hp:P.stoodInHeld t=false) :
  pr P (Op.equalIn (d+1) t (.agg xs) (.agg ys))=pr P (NZ d xs ys fs.toList):=by
 unfold Op.equalIn
 rw[cX,cZ ht]
 simp only[Option.bind_some,cX]
 rw[show pr P program=some P from rfl]
 simp only[Option.bind_some,hp,Bool.false_eq_true,if_false]
 rw[<- Array.forIn_toList]
 generalize fs.toList=l
 clear ht
 induction l with
 | nil=>rfl
 | cons f l ih=>
  rw[cX]at ih
  simp only[List.forIn_cons,NZ,cX]
  split
  ·simp only[cX]
   cases pr P (part f.type xs f.offset)with
   | none=>rfl
   | some a=>
    simp only[Option.bind_some]
    cases pr P (part f.type ys f.offset)with
    | none=>rfl
    | some b=>
     simp only[Option.bind_some]
     cases pr P (Op.equalIn d f.type a b)with
     | none=>rfl
     | some r=>
      cases r
      ·rfl
      ·simp only[Option.bind_some,Bool.not_true,Bool.false_eq_true,if_false,fM]
       exact ih
  ·simp only[fM,Option.bind_some]
   exact ih
theorem zP{T:TypeId}{ks:List Nat}{xs ys:List Value}(h:wg P T=some ks)(hx:xs.map n8=ks.map some)(hy:ys.map n8=ks.map some) :
  pr P (Op.equal T (.agg xs.toArray) (.agg ys.toArray))=some (uc xs ys)/\P.eqGuardType P.depth T=false:=by
 unfold wg at h
 split at h
 ·rename_i fs hfs
  split at h
  ·rename_i hc
   refine⟨?_,hc.2⟩
   show pr P (Op.equalIn 10000 T _ _)=_
   rw[zO hfs hc.1]
   have hlx:xs.length=ks.length:=by have:=congrArg List.length hx;grind
   have hly:ys.length=ks.length:=by have:=congrArg List.length hy;grind
   rw[Kg (xs:=xs) (ys:=ys) fs.toList 0 ks h λ j n hj=>?_]
   ·grind
   have Dt:j<ks.length:=(List.getElem?_eq_some_iff.1 hj).1
   refine⟨xs[j]'(by omega),ys[j]'(by omega),by simp,by simp,?_,?_⟩
   ·have:=congrArg (λ l=>l[j]?) hx
    grind
   have:=congrArg (λ l=>l[j]?) hy
   grind
  cases h
 cases h
theorem S0{T:Nat}{cx cy:Bool}{ks:List Nat}{xs ys:List Value}{K:Value->Prop}(h:wg P T=some ks)(hx:xs.map n8=ks.map some)(hy:ys.map n8=ks.map some)(k:K (.bool (uc xs ys))) :
  eN P (jz .eql T cx cy (.agg xs.toArray) (.agg ys.toArray)) K:=by
 obtain⟨h1,h2⟩:=zP h hx hy
 refine⟨_,?_,k⟩
 show pr P (if P.eqGuardType P.depth T=true then stuck "an interface in a part" else(do pure (Value.bool (<- Op.equal T (.agg xs.toArray) (.agg ys.toArray))) : Sem Value))=_
 rw[h2,if_neg (by simp),uW,h1];rfl
theorem S1{T:Nat}{cx cy:Bool}{ks:List Nat}{xs ys:List Value}{K:Value->Prop}(h:wg P T=some ks)(hx:xs.map n8=ks.map some)(hy:ys.map n8=ks.map some)(k:K (.bool (!uc xs ys))) :
  eN P (jz .neq T cx cy (.agg xs.toArray) (.agg ys.toArray)) K:=by
 obtain⟨h1,h2⟩:=zP h hx hy
 refine⟨_,?_,k⟩
 show pr P (if P.eqGuardType P.depth T=true then stuck "an interface in a part" else(do pure (Value.bool (!(<- Op.equal T (.agg xs.toArray) (.agg ys.toArray)))) : Sem Value))=_
 rw[h2,if_neg (by simp),uW _ (λ b=>Value.bool (!b)),h1];rfl
theorem Gx{T:Nat}{cx cy:Bool}{ks:List Nat}{xs ys:List Value}{K:Value->Prop}{p:Prop}[Decidable p](h:wg P T=some ks)(hx:xs.map n8=ks.map some)(hy:ys.map n8=ks.map some)
  (hp:uc xs ys=decide p) (k:K (.bool (decide p))):eN P (jz .eql T cx cy (.agg xs.toArray) (.agg ys.toArray)) K:=S0 h hx hy (hp▸k)
theorem S2{T:Nat}{cx cy:Bool}{ks:List Nat}{xs ys:List Value}{K:Value->Prop}{p:Prop}[Decidable p](h:wg P T=some ks)(hx:xs.map n8=ks.map some)(hy:ys.map n8=ks.map some)
  (hp:uc xs ys=decide p) (k:K (.bool (decide (¬ p)))):eN P (jz .neq T cx cy (.agg xs.toArray) (.agg ys.toArray)) K:=S1 h hx hy (by grind)
end
end Go.Fw
namespace Go.Proofs.YtpdlpabnlkofmaaGreatDoor
open Go.Fw
theorem bL:dz Tryz.prog 3=some (false,1):=by kernel_rfl
theorem ud:eh Tryz.prog 3=some (some (.int .i64 0)):=by kernel_rfl
theorem Kh:Tryz.prog.underlying 3=some (.int .i64):=by kernel_rfl
theorem zQ:dz Tryz.prog 4=some (false,1):=by kernel_rfl
theorem Vx:eh Tryz.prog 4=some (some (.bool false)):=by kernel_rfl
theorem Ki:Tryz.prog.underlying 4=some (.bool):=by kernel_rfl
theorem aum:Tryz.prog.underlying 5=some (.int .u8):=by kernel_rfl
theorem gj:dz Tryz.prog 9=some (false,1):=by kernel_rfl
theorem afc:eh Tryz.prog 9=some (some (.string ⟨#[]⟩)):=by kernel_rfl
theorem gZ:Tryz.prog.underlying 9=some (.string):=by kernel_rfl
theorem oz:dz Tryz.prog 22=some (false,1):=by kernel_rfl
theorem pj:eK Tryz.prog 22=some (23,1,24,some 1):=by kernel_rfl
theorem jC:dz Tryz.prog 23=some (false,1):=by kernel_rfl
theorem g8:eK Tryz.prog 23=some (161,3,32,some 3):=by kernel_rfl
theorem ij:dz Tryz.prog 24=some (false,1):=by kernel_rfl
theorem fq:eK Tryz.prog 24=some (146,4,72,some 4):=by kernel_rfl
theorem qB:dz Tryz.prog 25=some (false,1):=by kernel_rfl
theorem sJ:eK Tryz.prog 25=some (85,2,32,some 2):=by kernel_rfl
theorem ep:dz Tryz.prog 27=some (true,6):=by kernel_rfl
theorem gk:aR Tryz.prog 27 0=some (0,some true):=by kernel_rfl
theorem pK:aR Tryz.prog 27 1=some (1,some true):=by kernel_rfl
theorem nI:aR Tryz.prog 27 2=some (2,some true):=by kernel_rfl
theorem kj:aR Tryz.prog 27 3=some (3,some true):=by kernel_rfl
theorem oA:aR Tryz.prog 27 4=some (4,some true):=by kernel_rfl
theorem jn:aR Tryz.prog 27 5=some (5,some true):=by kernel_rfl
theorem uX:eh Tryz.prog 27=some (some (.agg [.slice none 0 0,.slice none 0 0,.slice none 0 0,.slice none 0 0,.slice none 0 0,.slice none 0 0].toArray)):=by kernel_rfl
theorem jD:dz Tryz.prog 31=some (false,1):=by kernel_rfl
theorem ag8:eh Tryz.prog 31=some (some (.int .i64 0)):=by kernel_rfl
theorem lY:eK Tryz.prog 39=some (50,4,48,some 4):=by kernel_rfl
theorem pR:dz Tryz.prog 40=some (false,1):=by kernel_rfl
theorem eg:dz Tryz.prog 41=some (false,1):=by kernel_rfl
theorem cM:eK Tryz.prog 41=some (3,1,8,some 1):=by kernel_rfl
theorem ag9:eh Tryz.prog 41=some (some (.slice none 0 0)):=by kernel_rfl
theorem DF:dz Tryz.prog 42=some (false,1):=by kernel_rfl
theorem FU:eK Tryz.prog 42=some (129,1,8,some 1):=by kernel_rfl
theorem oB:aR Tryz.prog 44 0=some (0,some true):=by kernel_rfl
theorem QR:aR Tryz.prog 44 1=some (6,some true):=by kernel_rfl
theorem CP:aR Tryz.prog 44 2=some (7,some true):=by kernel_rfl
theorem sT:aR Tryz.prog 44 3=some (8,some true):=by kernel_rfl
theorem uY:aR Tryz.prog 44 4=some (9,some true):=by kernel_rfl
theorem oC:aR Tryz.prog 44 5=some (10,some true):=by kernel_rfl
theorem xr:aR Tryz.prog 44 6=some (11,some true):=by kernel_rfl
theorem QS:aR Tryz.prog 44 7=some (12,some true):=by kernel_rfl
theorem qC:dz Tryz.prog 50=some (true,4):=by kernel_rfl
theorem pL:aR Tryz.prog 50 0=some (0,some true):=by kernel_rfl
theorem mK:aR Tryz.prog 50 1=some (1,some true):=by kernel_rfl
theorem sU:aR Tryz.prog 50 2=some (2,some true):=by kernel_rfl
theorem pM:aR Tryz.prog 50 3=some (3,some true):=by kernel_rfl
theorem DG:eh Tryz.prog 50=some (some (.agg [.int .i64 0,.int .i64 0,.int .i64 0,.slice none 0 0].toArray)):=by kernel_rfl
theorem fb:dz Tryz.prog 56=some (true,5):=by kernel_rfl
theorem abz:aR Tryz.prog 56 0=some (0,some true):=by kernel_rfl
theorem QT:aR Tryz.prog 56 1=some (1,some true):=by kernel_rfl
theorem m7:eh Tryz.prog 56=some (some (.agg [.int .i64 0,.int .i64 0,.int .i64 0,.int .i64 0,.int .i64 0].toArray)):=by kernel_rfl
theorem fQ:dz Tryz.prog 63=some (true,4):=by kernel_rfl
theorem ld:aR Tryz.prog 63 0=some (0,some true):=by kernel_rfl
theorem sV:aR Tryz.prog 63 1=some (1,some true):=by kernel_rfl
theorem CQ:aR Tryz.prog 63 2=some (2,some true):=by kernel_rfl
theorem CS:aR Tryz.prog 63 3=some (3,some true):=by kernel_rfl
theorem iY:eh Tryz.prog 63=some (some (.agg [.int .i64 0,.int .i64 0,.int .i64 0,.slice none 0 0].toArray)):=by kernel_rfl
theorem yI:eK Tryz.prog 72=some (56,5,40,some 5):=by kernel_rfl
theorem jo:dz Tryz.prog 82=some (false,1):=by kernel_rfl
theorem gN:eK Tryz.prog 82=some (164,4,40,some 4):=by kernel_rfl
theorem Ib:dz Tryz.prog 85=some (true,2):=by kernel_rfl
theorem uZ:aR Tryz.prog 85 0=some (0,some true):=by kernel_rfl
theorem Ic:aR Tryz.prog 85 1=some (1,some true):=by kernel_rfl
theorem N0:eh Tryz.prog 85=some (some (.agg [.slice none 0 0,.int .i64 0].toArray)):=by kernel_rfl
theorem zR:dz Tryz.prog 88=some (false,1):=by kernel_rfl
theorem iZ:dz Tryz.prog 91=some (false,1):=by kernel_rfl
theorem ik:eK Tryz.prog 91=some (9,1,16,some 1):=by kernel_rfl
theorem aha:eh Tryz.prog 91=some (some (.slice none 0 0)):=by kernel_rfl
theorem Kj:dz Tryz.prog 93=some (false,1):=by kernel_rfl
theorem Ie:dz Tryz.prog 94=some (false,1):=by kernel_rfl
theorem Kk:eK Tryz.prog 94=some (135,1,8,some 1):=by kernel_rfl
theorem CT:aR Tryz.prog 96 0=some (0,some true):=by kernel_rfl
theorem Ig:aR Tryz.prog 96 1=some (6,some true):=by kernel_rfl
theorem Ih:aR Tryz.prog 96 2=some (7,some true):=by kernel_rfl
theorem abA:aR Tryz.prog 96 3=some (8,some true):=by kernel_rfl
theorem sW:aR Tryz.prog 96 4=some (9,some true):=by kernel_rfl
theorem u0:aR Tryz.prog 96 5=some (10,some true):=by kernel_rfl
theorem u5:aR Tryz.prog 96 6=some (11,some true):=by kernel_rfl
theorem Ii:aR Tryz.prog 96 7=some (12,some true):=by kernel_rfl
theorem xt:aR Tryz.prog 96 8=some (13,some true):=by kernel_rfl
theorem QU:aR Tryz.prog 96 9=some (14,some true):=by kernel_rfl
theorem yh:dz Tryz.prog 103=some (false,1):=by kernel_rfl
theorem yi:dz Tryz.prog 114=some (true,5):=by kernel_rfl
theorem Kl:aR Tryz.prog 114 0=some (0,some true):=by kernel_rfl
theorem zS:aR Tryz.prog 114 1=some (1,some true):=by kernel_rfl
theorem pS:aR Tryz.prog 114 3=some (3,some true):=by kernel_rfl
theorem pU:aR Tryz.prog 114 4=some (4,some true):=by kernel_rfl
theorem xu:eh Tryz.prog 114=some (some (.agg [.int .i64 0,.int .i64 0,.int .i64 0,.bool false,.bool false].toArray)):=by kernel_rfl
theorem ue:eK Tryz.prog 117=some (4,1,1,some 1):=by kernel_rfl
theorem sX:dz Tryz.prog 120=some (false,1):=by kernel_rfl
theorem sY:eK Tryz.prog 120=some (125,3,24,some 3):=by kernel_rfl
theorem uf:aR Tryz.prog 122 0=some (0,some true):=by kernel_rfl
theorem Vy:aR Tryz.prog 122 1=some (1,some true):=by kernel_rfl
theorem rH:aR Tryz.prog 122 2=some (2,some true):=by kernel_rfl
theorem zT:aR Tryz.prog 122 3=some (3,some true):=by kernel_rfl
theorem kx:aR Tryz.prog 122 4=some (4,some true):=by kernel_rfl
theorem Vz:dz Tryz.prog 125=some (true,3):=by kernel_rfl
theorem wh:aR Tryz.prog 125 0=some (0,some true):=by kernel_rfl
theorem Km:aR Tryz.prog 125 1=some (1,some true):=by kernel_rfl
theorem Kn:aR Tryz.prog 125 2=some (2,some true):=by kernel_rfl
theorem abB:eh Tryz.prog 125=some (some (.agg [.int .i64 0,.int .i64 0,.int .i64 0].toArray)):=by kernel_rfl
theorem Gy:eK Tryz.prog 126=some (41,1,24,some 1):=by kernel_rfl
theorem Gz:dz Tryz.prog 129=some (false,1):=by kernel_rfl
theorem ug:dz Tryz.prog 130=some (false,1):=by kernel_rfl
theorem nq:eK Tryz.prog 130=some (218,12,176,some 12):=by kernel_rfl
theorem ky:aR Tryz.prog 132 0=some (0,some true):=by kernel_rfl
theorem Ko:aR Tryz.prog 132 1=some (1,some true):=by kernel_rfl
theorem Kp:aR Tryz.prog 132 2=some (2,some true):=by kernel_rfl
theorem nt:aR Tryz.prog 132 3=some (3,some true):=by kernel_rfl
theorem wi:aR Tryz.prog 132 4=some (4,some true):=by kernel_rfl
theorem GA:dz Tryz.prog 135=some (false,1):=by kernel_rfl
theorem rI:dz Tryz.prog 136=some (false,1):=by kernel_rfl
theorem uh:eK Tryz.prog 136=some (143,2,32,some 2):=by kernel_rfl
theorem oD:aR Tryz.prog 138 0=some (0,some true):=by kernel_rfl
theorem zU:aR Tryz.prog 138 1=some (1,some true):=by kernel_rfl
theorem zV:aR Tryz.prog 138 2=some (2,some true):=by kernel_rfl
theorem jE:aR Tryz.prog 138 3=some (3,some true):=by kernel_rfl
theorem wj:aR Tryz.prog 138 4=some (4,some true):=by kernel_rfl
theorem jF:dz Tryz.prog 141=some (false,1):=by kernel_rfl
theorem fo:eK Tryz.prog 141=some (193,9,120,some 9):=by kernel_rfl
theorem Kq:aR Tryz.prog 143 0=some (0,some true):=by kernel_rfl
theorem VA:aR Tryz.prog 143 1=some (1,some true):=by kernel_rfl
theorem mQ:dz Tryz.prog 146=some (true,4):=by kernel_rfl
theorem pW:aR Tryz.prog 146 0=some (0,some true):=by kernel_rfl
theorem fN:aR Tryz.prog 146 1=some (1,some true):=by kernel_rfl
theorem lj:aR Tryz.prog 146 2=some (2,some true):=by kernel_rfl
theorem pX:aR Tryz.prog 146 3=some (3,some true):=by kernel_rfl
theorem sZ:eh Tryz.prog 146=some (some (.agg [.string ⟨#[]⟩,.slice none 0 0,.slice none 0 0,.int .i64 0].toArray)):=by kernel_rfl
theorem lP:dz Tryz.prog 161=some (true,3):=by kernel_rfl
theorem kz:aR Tryz.prog 161 0=some (0,some true):=by kernel_rfl
theorem rJ:aR Tryz.prog 161 1=some (1,some true):=by kernel_rfl
theorem ui:aR Tryz.prog 161 2=some (2,some true):=by kernel_rfl
theorem oE:eh Tryz.prog 161=some (some (.agg [.string ⟨#[]⟩,.int .i64 0,.int .i64 0].toArray)):=by kernel_rfl
theorem rK:dz Tryz.prog 164=some (true,4):=by kernel_rfl
theorem eU:aR Tryz.prog 164 0=some (0,some true):=by kernel_rfl
theorem je:aR Tryz.prog 164 1=some (1,some true):=by kernel_rfl
theorem fY:aR Tryz.prog 164 2=some (2,some true):=by kernel_rfl
theorem rL:aR Tryz.prog 164 3=some (3,some true):=by kernel_rfl
theorem xw:eh Tryz.prog 164=some (some (.agg [.int .i64 0,.int .i64 0,.string ⟨#[]⟩,.int .i64 0].toArray)):=by kernel_rfl
theorem GB:dz Tryz.prog 165=some (false,1):=by kernel_rfl
theorem QV:eh Tryz.prog 165=some (some (.map none)):=by kernel_rfl
theorem amY:dz Tryz.prog 177=some (true,3):=by kernel_rfl
theorem VB:aR Tryz.prog 177 0=some (0,some true):=by kernel_rfl
theorem VC:aR Tryz.prog 177 1=some (1,some true):=by kernel_rfl
theorem VD:aR Tryz.prog 177 2=some (2,some true):=by kernel_rfl
theorem abC:eh Tryz.prog 177=some (some (.agg [.string ⟨#[]⟩,.int .i64 0,.slice none 0 0].toArray)):=by kernel_rfl
theorem iE:dz Tryz.prog 179=some (false,1):=by kernel_rfl
theorem fO:eK Tryz.prog 179=some (231,4,32,some 4):=by kernel_rfl
theorem VE:aR Tryz.prog 181 0=some (0,some true):=by kernel_rfl
theorem kB:aR Tryz.prog 181 1=some (1,some true):=by kernel_rfl
theorem yj:dz Tryz.prog 185=some (false,1):=by kernel_rfl
theorem wk:aR Tryz.prog 187 0=some (0,some true):=by kernel_rfl
theorem VF:aR Tryz.prog 187 1=some (1,some true):=by kernel_rfl
theorem rM:aR Tryz.prog 187 2=some (2,some true):=by kernel_rfl
theorem zW:aR Tryz.prog 187 3=some (3,some true):=by kernel_rfl
theorem rN:aR Tryz.prog 187 4=some (4,some true):=by kernel_rfl
theorem eI:dz Tryz.prog 193=some (true,9):=by kernel_rfl
theorem dJ:aR Tryz.prog 193 0=some (0,some true):=by kernel_rfl
theorem iv:aR Tryz.prog 193 1=some (1,some true):=by kernel_rfl
theorem fU:aR Tryz.prog 193 2=some (2,some true):=by kernel_rfl
theorem iN:aR Tryz.prog 193 3=some (3,some true):=by kernel_rfl
theorem jU:aR Tryz.prog 193 4=some (4,some true):=by kernel_rfl
theorem jG:aR Tryz.prog 193 5=some (5,some true):=by kernel_rfl
theorem iO:aR Tryz.prog 193 6=some (6,some true):=by kernel_rfl
theorem iw:aR Tryz.prog 193 7=some (7,some true):=by kernel_rfl
theorem lq:aR Tryz.prog 193 8=some (8,some true):=by kernel_rfl
theorem jq:eh Tryz.prog 193=some (some (.agg [.int .i64 0,.string ⟨#[]⟩,.string ⟨#[]⟩,.slice none 0 0,.slice none 0 0,.int .i64 0,.int .i64 0,.int .i64 0,.int .i64 0].toArray)):=by kernel_rfl
theorem VG:aR Tryz.prog 196 0=some (0,some true):=by kernel_rfl
theorem gP:aR Tryz.prog 196 1=some (1,some true):=by kernel_rfl
theorem jg:dz Tryz.prog 198=some (false,1):=by kernel_rfl
theorem fG:eK Tryz.prog 198=some (209,4,40,some 4):=by kernel_rfl
theorem jV:aR Tryz.prog 203 0=some (0,some true):=by kernel_rfl
theorem fr:aR Tryz.prog 203 1=some (1,some true):=by kernel_rfl
theorem ma:aR Tryz.prog 203 2=some (2,some true):=by kernel_rfl
theorem wm:aR Tryz.prog 203 3=some (3,some true):=by kernel_rfl
theorem afd:dz Tryz.prog 209=some (true,4):=by kernel_rfl
theorem lr:aR Tryz.prog 209 0=some (0,some true):=by kernel_rfl
theorem nu:aR Tryz.prog 209 1=some (1,some true):=by kernel_rfl
theorem rO:aR Tryz.prog 209 2=some (2,some true):=by kernel_rfl
theorem lu:aR Tryz.prog 209 3=some (3,some true):=by kernel_rfl
theorem abD:eh Tryz.prog 209=some (some (.agg [.int .i64 0,.string ⟨#[]⟩,.int .i64 0,.int .i64 0].toArray)):=by kernel_rfl
theorem Ks:dz Tryz.prog 218=some (true,12):=by kernel_rfl
theorem oF:aR Tryz.prog 218 0=some (0,some true):=by kernel_rfl
theorem Ku:aR Tryz.prog 218 1=some (9,some true):=by kernel_rfl
theorem VH:aR Tryz.prog 218 2=some (10,some true):=by kernel_rfl
theorem Kv:aR Tryz.prog 218 3=some (11,some true):=by kernel_rfl
theorem QW:eh Tryz.prog 218=some (some (.agg [.int .i64 0,.string ⟨#[]⟩,.string ⟨#[]⟩,.slice none 0 0,.slice none 0 0,.int .i64 0,.int .i64 0,.int .i64 0,.int .i64 0,.slice none 0 0,.slice none 0 0,.bool false].toArray)):=by kernel_rfl
theorem B9:eK Tryz.prog 224=some (227,2,16,some 2):=by kernel_rfl
theorem zX:eh Tryz.prog 224=some (some (.slice none 0 0)):=by kernel_rfl
theorem QX:dz Tryz.prog 227=some (true,2):=by kernel_rfl
theorem Kw:aR Tryz.prog 227 0=some (0,some true):=by kernel_rfl
theorem Kx:aR Tryz.prog 227 1=some (1,some true):=by kernel_rfl
theorem QY:eh Tryz.prog 227=some (some (.agg [.int .i64 0,.int .i64 0].toArray)):=by kernel_rfl
theorem ic:dz Tryz.prog 231=some (true,4):=by kernel_rfl
theorem gv:aR Tryz.prog 231 0=some (0,some true):=by kernel_rfl
theorem gQ:aR Tryz.prog 231 1=some (1,some true):=by kernel_rfl
theorem mc:aR Tryz.prog 231 2=some (2,some true):=by kernel_rfl
theorem oG:aR Tryz.prog 231 3=some (3,some true):=by kernel_rfl
theorem qX:eh Tryz.prog 231=some (some (.agg [.int .i64 0,.int .i64 0,.int .i64 0,.int .i64 0].toArray)):=by kernel_rfl
theorem afe:dz Tryz.prog 245=some (true,2):=by kernel_rfl
theorem VI:aR Tryz.prog 245 0=some (0,some true):=by kernel_rfl
theorem VJ:aR Tryz.prog 245 1=some (1,some true):=by kernel_rfl
theorem abE:eh Tryz.prog 245=some (some (.agg [.int .i64 0,.int .i64 0].toArray)):=by kernel_rfl
theorem QZ:dz Tryz.prog 249=some (false,1):=by kernel_rfl
theorem abF:eh Tryz.prog 249=some (some (.nilFunc)):=by kernel_rfl
theorem tc:eK Tryz.prog 277=some (320,2,16,some 2):=by kernel_rfl
theorem VK:eK Tryz.prog 287=some (245,2,16,some 2):=by kernel_rfl
theorem wo:dz Tryz.prog 288=some (false,1):=by kernel_rfl
theorem Ky:eK Tryz.prog 300=some (24,1,24,some 1):=by kernel_rfl
theorem ix:aR Tryz.prog 305 0=some (0,some true):=by kernel_rfl
theorem eV:aR Tryz.prog 305 1=some (1,some true):=by kernel_rfl
theorem kC:aR Tryz.prog 305 2=some (2,some true):=by kernel_rfl
theorem zY:aR Tryz.prog 305 3=some (3,some true):=by kernel_rfl
theorem pY:aR Tryz.prog 305 4=some (4,some true):=by kernel_rfl
theorem fR:dz Tryz.prog 308=some (true,4):=by kernel_rfl
theorem rP:aR Tryz.prog 308 0=some (0,some true):=by kernel_rfl
theorem oH:aR Tryz.prog 308 1=some (1,some true):=by kernel_rfl
theorem uj:aR Tryz.prog 308 2=some (2,some true):=by kernel_rfl
theorem VL:aR Tryz.prog 308 3=some (3,some true):=by kernel_rfl
theorem td:eh Tryz.prog 308=some (some (.agg [.slice none 0 0,.int .i64 0,.int .i64 0,.int .i64 0].toArray)):=by kernel_rfl
theorem pZ:aR Tryz.prog 316 0=some (0,some true):=by kernel_rfl
theorem um:aR Tryz.prog 318 0=some (0,some true):=by kernel_rfl
theorem Kz:aR Tryz.prog 318 1=some (1,some true):=by kernel_rfl
theorem abG:eh Tryz.prog 318=some (some (.agg [.slice none 0 0,.int .i64 0].toArray)):=by kernel_rfl
theorem DH:dz Tryz.prog 320=some (true,2):=by kernel_rfl
theorem nw:aR Tryz.prog 320 0=some (0,some true):=by kernel_rfl
theorem qc:aR Tryz.prog 320 1=some (1,some true):=by kernel_rfl
theorem Ij:eh Tryz.prog 320=some (some (.agg [.int .i64 0,.int .i64 0].toArray)):=by kernel_rfl
theorem VM:dz Tryz.prog 348=some (true,16):=by kernel_rfl
theorem Q0:eh Tryz.prog 348=some (some (.agg [.nilFunc,.nilFunc,.nilFunc,.nilFunc,.nilFunc,.nilFunc,.nilFunc,.nilFunc,.nilFunc,.nilFunc,.nilFunc,.nilFunc,.nilFunc,.nilFunc,.nilFunc,.nilFunc].toArray)):=by kernel_rfl
theorem amZ:dz Tryz.prog 361=some (false,1):=by kernel_rfl
theorem aff:dz Tryz.prog 364=some (true,15):=by kernel_rfl
theorem abH:eh Tryz.prog 364=some (some (.agg [.string ⟨#[]⟩,.string ⟨#[]⟩,.string ⟨#[]⟩,.string ⟨#[]⟩,.string ⟨#[]⟩,.string ⟨#[]⟩,.string ⟨#[]⟩,.string ⟨#[]⟩,.string ⟨#[]⟩,.string ⟨#[]⟩,.string ⟨#[]⟩,.string ⟨#[]⟩,.string ⟨#[]⟩,.string ⟨#[]⟩,.string ⟨#[]⟩].toArray)):=by kernel_rfl
theorem nx(a1:Option Addr)(n1 c1:Nat)(a2:Option Addr)(n2 c2:Nat)(a3:Option Addr)(n3 c3:Nat)(a4:Option Addr)(n4 c4:Nat):pr Tryz.prog (Instr.build 27 [(1,.slice a1 n1 c1),(2,.slice a2 n2 c2),(3,.slice a3 n3 c3),(4,.slice a4 n4 c4)].toArray)=some (.agg [.slice none 0 0,.slice a1 n1 c1,.slice a2 n2 c2,.slice a3 n3 c3,.slice a4 n4 c4,.slice none 0 0].toArray):=by kernel_rfl
theorem GC(a0:Option Addr)(n0 c0:Nat)(a1:Int):pr Tryz.prog (Instr.build 85 [(0,.slice a0 n0 c0),(1,.int .i64 a1)].toArray)=some (.agg [.slice a0 n0 c0,.int .i64 a1].toArray):=by kernel_rfl
theorem N1(a0:Option Addr)(n0 c0:Nat)(a1:Option Addr)(n1 c1:Nat):pr Tryz.prog (Instr.build 122 [(0,.slice a0 n0 c0),(1,.slice a1 n1 c1)].toArray)=some (.agg [.slice a0 n0 c0,.slice a1 n1 c1,.slice none 0 0,.slice none 0 0,.slice none 0 0].toArray):=by kernel_rfl
theorem Ik(a0:Int)(a1:Int)(a2:Int):pr Tryz.prog (Instr.build 125 [(0,.int .i64 a0),(1,.int .i64 a1),(2,.int .i64 a2)].toArray)=some (.agg [.int .i64 a0,.int .i64 a1,.int .i64 a2].toArray):=by kernel_rfl
theorem N2(a0:ByteArray)(a3:Int):pr Tryz.prog (Instr.build 146 [(0,.string a0),(3,.int .i64 a3)].toArray)=some (.agg [.string a0,.slice none 0 0,.slice none 0 0,.int .i64 a3].toArray):=by kernel_rfl
theorem zZ(a0:ByteArray)(a3:Int)(a2:Option Addr)(n2 c2:Nat):pr Tryz.prog (Instr.build 146 [(0,.string a0),(3,.int .i64 a3),(2,.slice a2 n2 c2)].toArray)=some (.agg [.string a0,.slice none 0 0,.slice a2 n2 c2,.int .i64 a3].toArray):=by kernel_rfl
theorem VN(a3:Int):pr Tryz.prog (Instr.build 146 [(3,.int .i64 a3)].toArray)=some (.agg [.string ⟨#[]⟩,.slice none 0 0,.slice none 0 0,.int .i64 a3].toArray):=by kernel_rfl
theorem abI:pr Tryz.prog (Instr.build 161 [].toArray)=some (.agg [.string ⟨#[]⟩,.int .i64 0,.int .i64 0].toArray):=by kernel_rfl
theorem DI(a0:ByteArray)(a2:Int):pr Tryz.prog (Instr.build 161 [(0,.string a0),(2,.int .i64 a2)].toArray)=some (.agg [.string a0,.int .i64 0,.int .i64 a2].toArray):=by kernel_rfl
theorem Il(a0:Int)(a1:Int)(a3:Int):pr Tryz.prog (Instr.build 164 [(0,.int .i64 a0),(1,.int .i64 a1),(3,.int .i64 a3)].toArray)=some (.agg [.int .i64 a0,.int .i64 a1,.string ⟨#[]⟩,.int .i64 a3].toArray):=by kernel_rfl
theorem Im(a0:Int)(a2:ByteArray)(a3:Int):pr Tryz.prog (Instr.build 164 [(0,.int .i64 a0),(2,.string a2),(3,.int .i64 a3)].toArray)=some (.agg [.int .i64 a0,.int .i64 0,.string a2,.int .i64 a3].toArray):=by kernel_rfl
theorem DJ(a0:Int)(a3:Int):pr Tryz.prog (Instr.build 164 [(0,.int .i64 a0),(3,.int .i64 a3)].toArray)=some (.agg [.int .i64 a0,.int .i64 0,.string ⟨#[]⟩,.int .i64 a3].toArray):=by kernel_rfl
theorem VO(a0:Int):pr Tryz.prog (Instr.build 181 [(0,.int .i64 a0)].toArray)=some (.agg [.int .i64 a0,.slice none 0 0].toArray):=by kernel_rfl
theorem DK(a0:Option Addr)(n0 c0:Nat)(a1:Option Addr)(n1 c1:Nat)(a2:Option Addr)(n2 c2:Nat)(a4:Option Nat):pr Tryz.prog (Instr.build 187 [(0,.slice a0 n0 c0),(1,.slice a1 n1 c1),(2,.slice a2 n2 c2),(4,.map a4)].toArray)=some (.agg [.slice a0 n0 c0,.slice a1 n1 c1,.slice a2 n2 c2,.slice none 0 0,.map a4].toArray):=by kernel_rfl
theorem N3(a0:Int)(a8:Int):pr Tryz.prog (Instr.build 193 [(0,.int .i64 a0),(8,.int .i64 a8)].toArray)=some (.agg [.int .i64 a0,.string ⟨#[]⟩,.string ⟨#[]⟩,.slice none 0 0,.slice none 0 0,.int .i64 0,.int .i64 0,.int .i64 0,.int .i64 a8].toArray):=by kernel_rfl
theorem VP(a0:Int):pr Tryz.prog (Instr.build 196 [(0,.int .i64 a0)].toArray)=some (.agg [.int .i64 a0,.slice none 0 0].toArray):=by kernel_rfl
theorem VQ(a0:Option Addr)(n0 c0:Nat):pr Tryz.prog (Instr.build 203 [(0,.slice a0 n0 c0)].toArray)=some (.agg [.slice a0 n0 c0,.int .i64 0,.int .i64 0,.int .i64 0].toArray):=by kernel_rfl
theorem VR(a3:Int):pr Tryz.prog (Instr.build 209 [(3,.int .i64 a3)].toArray)=some (.agg [.int .i64 0,.string ⟨#[]⟩,.int .i64 0,.int .i64 a3].toArray):=by kernel_rfl
theorem N4(a0:Int)(a1:Int):pr Tryz.prog (Instr.build 227 [(0,.int .i64 a0),(1,.int .i64 a1)].toArray)=some (.agg [.int .i64 a0,.int .i64 a1].toArray):=by kernel_rfl
theorem xy:pr Tryz.prog (Instr.build 231 [].toArray)=some (.agg [.int .i64 0,.int .i64 0,.int .i64 0,.int .i64 0].toArray):=by kernel_rfl
theorem z6(a0:Int):pr Tryz.prog (Instr.build 231 [(0,.int .i64 a0)].toArray)=some (.agg [.int .i64 a0,.int .i64 0,.int .i64 0,.int .i64 0].toArray):=by kernel_rfl
theorem N5(a0:Option Addr)(n0 c0:Nat)(a1:Int):pr Tryz.prog (Instr.build 305 [(0,.slice a0 n0 c0),(1,.int .i64 a1)].toArray)=some (.agg [.slice a0 n0 c0,.int .i64 a1,.int .i64 0,.int .i64 0,.slice none 0 0].toArray):=by kernel_rfl
theorem yJ(a0:Option Addr)(n0 c0:Nat)(a1:Int):pr Tryz.prog (Instr.build 308 [(0,.slice a0 n0 c0),(1,.int .i64 a1)].toArray)=some (.agg [.slice a0 n0 c0,.int .i64 a1,.int .i64 0,.int .i64 0].toArray):=by kernel_rfl
theorem N6(a2:Int)(a3:Int):pr Tryz.prog (Instr.build 308 [(2,.int .i64 a2),(3,.int .i64 a3)].toArray)=some (.agg [.slice none 0 0,.int .i64 0,.int .i64 a2,.int .i64 a3].toArray):=by kernel_rfl
theorem DM(a0:Int)(a1:Int):pr Tryz.prog (Instr.build 320 [(0,.int .i64 a0),(1,.int .i64 a1)].toArray)=some (.agg [.int .i64 a0,.int .i64 a1].toArray):=by kernel_rfl
theorem VS:wg Tryz.prog 231=some [0,0,0,0]:=by kernel_rfl
end Go.Proofs.YtpdlpabnlkofmaaGreatDoor
namespace Go.Fw
def sep(H1 H2:HP):HP where
 p w F:=∃F1 F2,H1.p w F1/\H2.p w F2/\(∀b,F1 b->¬ F2 b)/\∀b,F b↔F1 b\/F2 b
 loc w w' F h hh:=by
  obtain⟨F1,F2,h1,h2,h3,h4⟩:=h
  exact⟨F1,F2,H1.loc _ _ _ h1 λ b hb=>hh b ((h4 b).2 (.inl hb)),H2.loc _ _ _ h2 λ b hb=>hh b ((h4 b).2 (.inr hb)),h3,h4⟩
 lt w F b h hb:=by
  obtain⟨F1,F2,h1,h2,h3,h4⟩:=h
  rcases(h4 b).1 hb with hf|hf
  ·exact H1.lt _ _ _ h1 hf
  ·exact H2.lt _ _ _ h2 hf
def qd{α:Type}(H:α->HP):HP where
 p w F:=∃x,(H x).p w F
 loc w w' F h hh:=by obtain⟨x,h⟩:=h;exact⟨x,(H x).loc _ _ _ h hh⟩
 lt w F b h hb:=by obtain⟨x,h⟩:=h;exact(H x).lt _ _ _ h hb
def fact(φ:Prop)(H:HP):HP where
 p w F:=φ/\H.p w F
 loc w w' F h hh:=⟨h.1,H.loc _ _ _ h.2 hh⟩
 lt w F b h hb:=H.lt _ _ _ h.2 hb
def emp:HP where
 p _ F:=∀b,¬ F b
 loc _ _ _ h _:=h
 lt _ _ b h hb:=(h b hb).elim
section
variable {P:Program}{w w0 w':World}{A:Nat->Prop}{L:List HP}{H H1 H2:HP}
theorem St.split(h:St w0 A (sep H1 H2::L) w):St w0 A (H1::H2::L) w:=by
 obtain⟨U,F,U',⟨F1,F2,g1,g2,g3,g4⟩,h2,h3,h4,h5⟩:=h.tF
 refine⟨h.aF,U,F1,λ b=>F2 b\/U' b,g1,λ b hb=>h2 b ((g4 b).2 (.inl hb)),λ b hb hu=>?_,λ b=>?_,F2,U',g2,λ b hb=>h2 b ((g4 b).2 (.inr hb)),λ b hb hu=>h3 b ((g4 b).2 (.inr hb)) hu,λ b=>Iff.rfl,h5⟩
 ·grind
 grind
theorem St.join(h:St w0 A (H1::H2::L) w):St w0 A (sep H1 H2::L) w:=by
 obtain⟨U,F,U',h1,h2,h3,h4,F2,U2,g1,g2,g3,g4,g5⟩:=h.tF
 refine⟨h.aF,U,λ b=>F b\/F2 b,U2,⟨F,F2,h1,g1,λ b hb hf=>h3 b hb ((g4 b).2 (.inl hf)),λ b=>Iff.rfl⟩,λ b hb=>hb.elim (h2 b) (g2 b),λ b hb hu=>?_,λ b=>?_,g5⟩
 ·grind
 grind
theorem St.er{α:Type}{H:α->HP}(h:St w0 A (qd H::L) w):∃x,St w0 A (H x::L) w:=by
 obtain⟨U,F,U',⟨x,h1⟩,h2⟩:=h.tF;exact⟨x,h.aF,U,F,U',h1,h2⟩
theorem St.et{α:Type}{H:α->HP}(x:α)(h:St w0 A (H x::L) w):St w0 A (qd H::L) w:=by
 obtain⟨U,F,U',h1,h2⟩:=h.tF;exact⟨h.aF,U,F,U',⟨x,h1⟩,h2⟩
theorem St.me{φ:Prop}(h:St w0 A (fact φ H::L) w):φ/\St w0 A (H::L) w:=by
 obtain⟨U,F,U',⟨x,h1⟩,h2⟩:=h.tF;exact⟨x,h.aF,U,F,U',h1,h2⟩
theorem St.oc{φ:Prop}(x:φ)(h:St w0 A (H::L) w):St w0 A (fact φ H::L) w:=by
 simp_all[fact]
def mL(F:Nat->Prop)(H':HP)(w w':World):Prop:=∃F',H'.p w' F'/\(∀b,F' b->F b\/w.heap.size<=b)/\gq F w w'
def lL(H:HP)(w w':World):Prop:=∃F,H.p w' F/\(∀b,F b->w.heap.size<=b)/\Ext w w'
theorem St.mut{F:Nat->Prop}(hs:St w F (H::L) w'):mL F H w w':=by
 obtain⟨F',h1,h2⟩:=hs.head;exact⟨F',h1,h2,hs.aF⟩
theorem St.fresh(hs:St w aY (H::L) w'):lL H w w':=by
 obtain⟨F',h1,h2⟩:=hs.head;exact⟨F',h1,λ b hb=>(h2 b hb).elim (λ h=>h.elim) id,hs.aF⟩
theorem St.made(hs:St w0 A L w)(h:lL H w w'):St w0 A (H::L) w':=by
 obtain⟨F,h1,h2,h3⟩:=h;exact hs.new h3 h1 h2
theorem aT{f:FuncId}{args:List Value}{X:Value}{K:Value->World->Prop}(pl:Plain P f)(hs:St w0 A L w)(hc:Calls P f args.toArray w (tX λ v w'=>v=X/\Ext w w'))(k:∀w',Ext w w'->St w0 A L w'->K X w'):B2 P f args w K:=
 dN pl hc λ v w' h=>by obtain⟨rfl,h2⟩:=h;exact k w' h2 (hs.ext h2)
theorem ek{f:FuncId}{args:List Value}{H:Value->HP}{K:Value->World->Prop}(pl:Plain P f)(hs:St w0 A L w)(hc:Calls P f args.toArray w (tX λ v w'=>lL (H v) w w'))(k:∀v w',lL (H v) w w'->St w0 A (H v::L) w'->K v w'):B2 P f args w K:=
 dN pl hc λ v w' h=>k v w' h (hs.made h)
theorem St.VT{F:Nat->Prop}{U':Nat->Prop}{H':HP}(hs:St w0 A (H::L) w)(h2:∀b,F b->A b\/w0.heap.size<=b)(h3:∀b,F b->¬ U' b)(h5:rE w0 A L w U')(h:mL F H' w w'):St w0 A (H'::L) w':=by
 obtain⟨F',g1,g2,g3⟩:=h
 refine⟨hs.aF.trans g3 (λ _ h=>h) λ b hb hf=>(h2 b hf).elim id λ hh=>by omega,λ b=>F' b\/U' b,F',U',g1,λ b hb=>?_,λ b hb hu=>?_,λ b=>Iff.rfl,?_⟩
 ·rcases g2 b hb with hf|hf
  ·exact h2 b hf
  exact .inr (Nat.le_trans hs.aF.size hf)
 ·rcases g2 b hb with hf|hf
  ·exact h3 b hf hu
  have:=h5.lt b hu;omega
 exact h5.loc λ b hb=>g3.bY b (h5.lt b hb) λ hf=>h3 b hf hb
theorem pN{f:FuncId}{args:List Value}{H':Value->HP}{Φ:Value->World->Prop}{K:Value->World->Prop}(pl:Plain P f)(hs:St w0 A (H::L) w)
  (hc:∀F,H.p w F->Calls P f args.toArray w (tX λ v w'=>Φ v w'/\mL F (H' v) w w')) (k:∀v w',Φ v w'->St w0 A (H' v::L) w'->K v w'):B2 P f args w K:=by
 obtain⟨U,F,U',h1,h2,h3,h4,h5⟩:=hs.tF
 exact dN pl (hc F h1) λ v w' ⟨hΦ,hM⟩=>k v w' hΦ (hs.VT h2 h3 h5 hM)
end
section
variable {α:Type}[Flat α] {P:Program}{w w0:World}{A S:Nat->Prop}{L:List HP}{xs ys:List α}
theorem dC.one{v:Value}(h:dC S w v xs):uV v=true:=by obtain⟨a,c,rfl,_⟩:=h;rfl
theorem FV{T E kS R b n cap:Nat}{z:Option Nat}{src:Value}{cs:List Value}(ht:eK P T=some (E,Flat.sz α,kS,z))(hb:ng w b cs)(vO:dC S w src ys)
  (yf:n+ys.length<=cap) (SY:n*Flat.sz α+ys.length*Flat.sz α<=cs.length) :
  ∃w',(Builtin.append_ #[T,T] R [.slice (some ⟨b,0,none⟩) n cap,src].toArray).run P w=.ok (.slice (some ⟨b,0,none⟩) (n+ys.length) cap) w'/\ng w' b (iX cs (n*Flat.sz α) (flat ys))/\gq (· = b) w w':=by
 obtain⟨hu,inf,hi,o7,yG,_⟩:=fp ht
 have rd:=vO
 obtain⟨sa,Vu,rfl,hsc,hs3⟩:=rd
 obtain⟨w',h1,h2,h3⟩:=mJ (P:=P) (o:=n*Flat.sz α) (flat ys) 0 cs w hb (by rw[dG];omega) zN
 refine⟨w',?_,by omega,h3⟩
 have hf:=xq (α:=α) (P:=P) (sz:=Flat.sz α) rfl vO
 have tG:(⟨b,0,none⟩:Addr).add (n*Flat.sz α)=⟨b,n*Flat.sz α,none⟩:=by rw[gu,Nat.zero_add]
 simp[Builtin.append_,run_underlying hu,sizeOf,typeInfo,hi,Builtin.lenOf,yf,hf,o7,tG,h1]
theorem S3{T E kS R b o n c:Nat}{z:α}{cs:List Value}(ht:Vt P T E (Flat.sz α) kS)(hz:n6 P E (Flat.val z))(hb:ng w b cs)(SY:o+n*Flat.sz α<=cs.length) :
  ∃w',(Builtin.clear_ #[T] R [.slice (some ⟨b,o,none⟩) n c].toArray).run P w=.ok (.tuple #[]) w'/\ng w' b (iX cs o (flat (List.replicate n z)))/\gq (· = b) w w':=by
 obtain⟨hu,inf,hi,o7,yG,_⟩:=fp ht
 unfold n6 eh at hz
 rw[hi]at hz
 simp only[Option.map_some,Option.some.injEq]at hz
 by_cases h0:n=0
 ·subst h0
  refine⟨w,?_,by simpa[l8,iX]using hb,gq.refl _ _⟩
  simp[Builtin.clear_,run_underlying hu]
 have hzc:(Builtin.zeroCells (Flat.val z).cells n).toList=flat (List.replicate n z):=by
  rw[ph,<- wc]
  unfold Builtin.zeroCells madeCells
  simp[Flat.len]
 obtain⟨w',h1,h2,h3⟩:=mJ (P:=P) (o:=o) (flat (List.replicate n z)) 0 cs w hb (by rw[dG,List.length_replicate];omega) zN
 refine⟨w',?_,by omega,h3⟩
 simp[Builtin.clear_,run_underlying hu,zeroValue,typeInfo,hi,hz,h0,hzc,h1]
theorem VU{T E sz kS n cap:Nat}{z:Option Nat}{a:Option Addr}{i j k:Int}{K:Value->Prop}(ht:eK P T=some (E,sz,kS,z))(h0:0<=i)(h1:i<=j)(h2:j<=k)(h3:k<=cap)
  (kk:∀v,K v):eN P (Instr.sliceAt T (.slice a n cap) (some (.int .i64 i)) (some (.int .i64 j)) (some (.int .i64 k))) K:=by
 obtain⟨hu,inf,NS,o7,_⟩:=fp ht
 have hb:pr P (Instr.sliceBounds true n cap (some (.int .i64 i)) (some (.int .i64 j)) (some (.int .i64 k)))=some (i.toNat,j.toNat,k.toNat):=by
  simp only[Instr.sliceBounds,cX,fM,Option.bind_some]
  rw[jd (by omega) (by omega)]
  simp only[Option.bind_some]
  rw[jd (by omega) (by omega)]
  simp only[Option.bind_some]
  rw[jd (by omega) (by omega)]
  rfl
 refine⟨.slice (if k.toNat=i.toNat then a else a.map (·.add (i.toNat*sz))) (j.toNat-i.toNat) (k.toNat-i.toNat),?_,kk _⟩
 unfold Instr.sliceAt
 rw[cX,cZ hu]
 simp only[Option.bind_some]
 unfold Instr.slice
 rw[cX,cZ hu]
 simp only[Option.bind_some]
 rw[cX,hb]
 simp only[Option.bind_some]
 rw[cX,mI NS,o7]
 rfl
end
def ny(b:Nat)(o:Obj):HP where
 p w F:=w.heap[b]?=some o/\∀k,F k↔k=b
 loc w w' F h hh:=⟨(hh b ((h.2 b).2 rfl)).trans h.1,h.2⟩
 lt w F b' h hb:=by grind
section
variable {P:Program}{w w0 w':World}{A:Nat->Prop}{L:List HP}
theorem St.obj{b:Nat}{o:Obj}(hs:St w0 A (ny b o::L) w):w.heap[b]?=some o:=by
 obtain⟨F,h,_⟩:=hs.head;exact h.1
theorem Ext.alloc(w:World)(o:Obj):Ext w (w.alloc o):=Ext.push w o
theorem St.alloc{o:Obj}(hs:St w0 A L w):St w0 A (ny w.heap.size o::L) (w.alloc o):=
 hs.new (F:=(· = w.heap.size)) (Ext.alloc w o) ⟨ni w o,λ _=>Iff.rfl⟩ λ b hb=>Nat.le_of_eq hb.symm
theorem gq.putObj(w:World)(b:Nat)(o:Obj):gq (· = b) w (w.putObj b o):=
 ⟨rfl,rfl,rfl,by simp,λ k _ hn=>World.putObj_heap_other hn⟩
theorem St.putObj{b:Nat}{o:Obj}(o':Obj)(hs:St w0 A (ny b o::L) w):St w0 A (ny b o'::L) (w.putObj b o'):=
 hs.qW λ F hF=>⟨F,⟨World.putObj_heap_same (uU hF.1),hF.2⟩,λ _ h=>.inl h,(gq.putObj w b o').mono λ k hk=>(hF.2 k).2 hk⟩
theorem kq.mono{fv:Value}{args:List Value}{K K':Value->World->Prop}(h:kq P fv args w K)(hk:∀v w,K v w->K' v w):kq P fv args w K':=
 Gd.mono (P:=P) (k:=.Qs fv args) h hk
theorem aJ{α:Type}[Flat α]{T:TypeId}{b:Nat}{cs:List Value}{x:α}{K:World->Prop}(hs:St w0 A (bY b cs::L) w)(ht:abw P T (Flat.sz α))(ha:Flat.agg α=true)(hl:cs.length=Flat.sz α)
  (k:∀w',St w0 A (bY b (Flat.enc x)::L) w'->K w'):Uz P (Instr.storeAt T (.pointer (some ⟨b,0,none⟩)) (Flat.val x)) w K:=by
 rw[Flat.m6 ha]
 refine DC hs ht (Flat.len x) (by rw[Nat.zero_add,hl];exact Nat.le_refl _) (Flat.one x) λ w' h=>k w' ?_
 have:=l9 [] cs [] (Flat.enc x) (by rw[Flat.len,hl])
 simp only[List.length_nil,List.nil_append,List.append_nil]at this
 rwa [this]at h
theorem eZ{α:Type}[Flat α]{S:Nat->Prop}{T:TypeId}{p:Value}{x:α}(ht:dz P T=some (Flat.agg α,Flat.sz α))(h:At S w p x):(Instr.loadAt T p).run P w=.ok (Flat.val x) w:=by
 obtain⟨v,h1,h2⟩:=(aE (K:=λ v=>v=Flat.val x) ht h rfl).ex
 grind
theorem lQ{b:Bool}{A B:Prop}(h:b=true)(a:A):yb (.bool b) A B:=⟨⟨_,rfl,λ _=>a,λ hh=>by grind⟩⟩
theorem fE{b:Bool}{A B:Prop}(h:b=false)(a:B):yb (.bool b) A B:=⟨⟨_,rfl,λ hh=>(by grind),λ _=>a⟩⟩
theorem DN{D:Nat}{K:World->Prop}(hs:St w0 A (ny D (.deferred (some []))::L) w)(k:∀w',St w0 A L w'->K w'):mH [D] w K:=
 ⟨hs.obj,k _ (hs.putObj (.deferred none)).drop⟩
theorem DO(L0:Loop)(h1:L0.state=.ready)(h2:L0.pending=none):({L0 with state:=if (none:Option Code).isNone=true then LoopState.ready else LoopState.done,pending:=none}:Loop)=L0:=by
 cases L0;grind
theorem wq{gf np:Nat}{cap:List Value}{xs:List (List Value)}{round:List Value->World->(World->(World->Prop)->Prop)->(Option Code->World->Prop)->Prop}
  {N R:Nat->World->Prop}{X:Nat->Nat->World->Prop}(pl:Plain P gf) (hs:St w0 A L w) (I:Nat->List HP->Prop) (Ix:Code->List HP->Prop) (h0:I 0 L) (hnp:∀x∈xs,x.length=np)
  (hgf:∀(y:Value) (J:Nat->World->Prop) (Jx:World->Prop) (W:World),(∀k W,J k W->∃Y M,I k M/\St w0 A (Y::M) W)->(∀k W W',J k W->Ext W W'->J k W')->J 0 W->
   (∀k args W',xs[k]?=some args->J k W'->kq P y args W' (λ v W''=>(v=.bool true/\J (k+1) W'')\/(v=.bool false/\Jx W'')))->
   Calls P gf ([y]++cap).toArray W (tX λ _ W'=>J xs.length W'\/Jx W'))
  (Dv:∀k args (Y1 Y2:HP) (B:World->(World->Prop)->Prop) (Kr:Option Code->World->Prop) M W,xs[k]?=some args->I k M->
   (∀M w1 (kk:World->Prop),St w0 A (Y1::M) w1->(∀w2,St w0 A (Y2::M) w2->kk w2)->B w1 kk)->
   (∀M w1,St w0 A (Y2::M) w1->I (k+1) M->Kr none w1)->(∀c M w1,St w0 A (Y2::M) w1->Ix c M->Kr (some c) w1)->
   St w0 A (Y1::M) W->round args W B Kr)
  (VV:∀D M W,I xs.length M->St w0 A (ny D (.deferred (some []))::M) W->N D W)
  (ahb:∀D M W,Ix .ret M->St w0 A (ny D (.deferred (some []))::M) W->R D W)
  (VW:∀id D M W,Ix (.exit id) M->St w0 A (ny D (.deferred (some []))::M) W->X id D W)
  (N7:∀c M,Ix c M->(∃id,c=.exit id)\/c=.ret) :
  zL P (.func (.func gf) #[] cap.toArray) np w round (aft N R X):=by
 refine⟨gf,cap.toArray,rfl,pl,λ L0 iL A0 hy=>?_⟩
 obtain⟨l,hl⟩:∃l,l=w.heap.size+1:=⟨_,rfl⟩
 obtain⟨D,hD⟩:∃D,D=w.heap.size:=⟨_,rfl⟩
 rw[<- hl]at hy |-
 rw[<- hD]
 let J:Nat->World->Prop:=λ k W=>∃M,I k M/\St w0 A (ny l (.loop L0)::ny D (.deferred (some []))::M) W
 let Jx:World->Prop:=λ W=>∃c M,Ix c M/\St w0 A (ny l (.loop {L0 with state:=.done,pending:=some c})::ny D (.deferred (some []))::M) W
 have S4:J 0 ((w.alloc (.deferred (some []))).alloc (.loop L0)):=by
  refine⟨L,h0,?_⟩
  have h1:=(hs.alloc (o:=.deferred (some []))).alloc (o:=.loop L0)
  rw[show(w.alloc (.deferred (some []))).heap.size=l from by rw[hl];exact Bf w _,<- hD]at h1
  exact h1
 have:=hgf (.func (.yield l) #[] #[]) J Jx _ (λ k W ⟨M,hI,hS⟩=>⟨_,M,hI,St.join hS⟩) (λ k W W' ⟨M,hI,hS⟩ e=>⟨M,hI,hS.ext e⟩) S4 ?_
 ·have e:([Value.func (.yield l) #[] #[]]++cap).toArray = #[.func (.yield l) #[] #[]]++cap.toArray:=by simp
  rw[e]at this
  refine this.mono λ x W' ⟨v,hx,hv⟩=>⟨v,hx,?_⟩
  rcases hv with⟨M,hI,hS⟩|⟨c,M,hI,hS⟩
  ·refine⟨.ready,none,by simp,?_,?_⟩
   ·rw[<- iL,<- A0];exact hS.obj
   exact VV D M _ hI (hS.putObj _).drop
  refine⟨.done,some c,by simp,hS.obj,?_⟩
  rcases N7 c M hI with⟨id,rfl⟩|rfl
  ·exact VW id D M _ hI (hS.putObj _).drop
  exact ahb D M _ hI (hS.putObj _).drop
 intro k args W hk ⟨M,hI,hS⟩
 refine⟨.inr ⟨l,rfl,?_⟩⟩
 refine hy args W _ (hnp args (List.mem_of_getElem? hk)) hS.obj ?_
 refine Dv k args (sep (ny l (.loop L0)) (ny D (.deferred (some [])))) (sep (ny l (.loop {L0 with state:=.busy})) (ny D (.deferred (some [])))) _ _ M W hk hI
  (λ M w1 kk h1 h2=>?_) (λ M w1 h1 h2=>?_) (λ c M w1 h1 h2=>?_) (St.join hS)
 ·have h1:=h1.split
  exact⟨h1.obj,h2 _ (h1.putObj _).join⟩
 ·have h1:=h1.split
  refine⟨h1.obj,.inl ⟨rfl,M,h2,?_⟩⟩
  have:=h1.putObj (.loop {L0 with state:=if (none:Option Code).isNone=true then LoopState.ready else LoopState.done,pending:=none})
  rw[DO L0 iL A0]at this |-
  exact this
 have h1:=h1.split
 exact⟨h1.obj,.inr ⟨rfl,c,M,h2,h1.putObj _⟩⟩
end
section
variable {P:Program}{w w0:World}{A S:Nat->Prop}{L:List HP}
theorem qY{t:Array TypeId}{T:TypeId}{a b:Int}{K:Value->Prop}(k:K (.int .i64 (min a b))):eN P (Builtin.min_ t T [.int .i64 a,.int .i64 b].toArray) K:=by
 refine⟨_,?_,k⟩
 show pr P (Builtin.min2 (.int .i64 a) (.int .i64 b))=_
 unfold Builtin.min2
 by_cases h:b<a
 ·simp[h,fM];omega
 simp[h,fM];omega
theorem CU{t:Array TypeId}{T:TypeId}{a b:Int}{K:Value->Prop}(k:K (.int .i64 (max a b))):eN P (Builtin.max_ t T [.int .i64 a,.int .i64 b].toArray) K:=by
 refine⟨_,?_,k⟩
 show pr P (Builtin.max2 (.int .i64 a) (.int .i64 b))=_
 unfold Builtin.max2
 by_cases h:a<b
 ·simp[h,fM];omega
 simp[h,fM];omega
theorem KA{α β:Type}[Flat α][Flat β]{T f off:Nat}{p:Value}{x:α}(y:β){K:Value->Prop}(ht:v8 P T f off)(h:At S w p x)(hy:((Flat.enc x).drop off).take (Flat.sz β)=Flat.enc y)
  (k:∀q,At S w q y->K q):eN P (Instr.fieldAt T p f) K:=by
 obtain⟨b,o,rfl,h2,h3⟩:=h
 refine aA ht (k _ ⟨b,o+off,rfl,h2,λ j c hj=>?_⟩)
 grind
end
section
variable {P:Program}{α:Type}[Flat α] {A:Nat->Prop}{w0 w:World}{L:List HP}{xs:List α}
def N8(α:Type)[Flat α](v:Value)(i off:Nat)(p:Value):Prop:=∃b n c,v=.slice (some ⟨b,0,none⟩) n c/\p=.pointer (some ⟨b,i*Flat.sz α+off,none⟩)
theorem mf{T f off i:Nat}{v p:Value}{K:Value->Prop}(ht:v8 P T f off)(h:Gw α v i p)(k:∀q,N8 α v i off q->K q):eN P (Instr.fieldAt T p f) K:=by
 obtain⟨b,n,c,h1,rfl⟩:=h
 exact aA ht (k _ ⟨b,n,c,h1,rfl⟩)
theorem nz{β:Type}[Flat β]{T:Nat}{v p:Value}{i off:Nat}{x:α}(y:β){K:Value->Prop}(hs:St w0 A (bG v xs::L) w)(ht:dz P T=some (Flat.agg β,Flat.sz β))(hp:N8 α v i off p)(hx:xs[i]?=some x)
  (hy:((Flat.enc x).drop off).take (Flat.sz β)=Flat.enc y) (k:K (Flat.val y)):JB P (Instr.loadAt T p) w K:=by
 obtain⟨F,h,_⟩:=hs.head
 obtain⟨b,cap,rest,hv,hb,hl,_⟩:=rn h (List.getElem?_eq_some_iff.1 hx).1
 obtain⟨b',n,c,Bh,rfl⟩:=hp
 rw[hv]at Bh
 simp only[Value.slice.injEq,Option.some.injEq,Addr.mk.injEq]at Bh
 obtain⟨⟨rfl,_,_⟩,_,_⟩:=Bh
 refine aE (S:=λ _=>True) ht ⟨b,i*Flat.sz α+off,rfl,trivial,λ j c hj=>hb.cell ?_⟩ k
 rw[<- hy,List.getElem?_take]at hj
 split at hj
 ·rw[List.getElem?_drop]at hj
  have:=rF hx hj
  rw[Nat.add_assoc,List.getElem?_append_left (List.getElem?_eq_some_iff.1 this).1];exact this
 cases hj
theorem VX{β:Type}[Flat β]{T:Nat}{v p:Value}{i off:Nat}{K:World->Prop}{x:α}(y:α)(z:β)(hs:St w0 A (bG v xs::L) w)(ht:dz P T=some (Flat.agg β,Flat.sz β))(hp:N8 α v i off p)(hx:xs[i]?=some x)
  (hlen:off+Flat.sz β<=Flat.sz α) (hy:(Flat.enc x).take off++Flat.enc z++(Flat.enc x).drop (off+Flat.sz β)=Flat.enc y)
  (k:∀w',St w0 A (bG v (xs.set i y)::L) w'->K w'):Uz P (Instr.storeAt T p (Flat.val z)) w K:=by
 obtain⟨U,F,U',g1,g2,g3,g4,g5⟩:=hs.tF
 have hi:=(List.getElem?_eq_some_iff.1 hx).1
 obtain⟨b,cap,rest,hv,hb,hl,hF⟩:=rn g1 hi
 obtain⟨b',n,c,Bh,rfl⟩:=hp
 rw[hv]at Bh
 simp only[Value.slice.injEq,Option.some.injEq,Addr.mk.injEq]at Bh
 obtain⟨⟨rfl,_,_⟩,_,_⟩:=Bh
 have FR:=yH hx
 have Nv:(flat (xs.take i)).length=i*Flat.sz α:=by rw[dG,List.length_take,Nat.min_eq_left (by omega)]
 have KB:i*Flat.sz α+Flat.sz α<=(flat xs).length:=by
  rw[dG,<- Nat.succ_mul];exact Nat.mul_le_mul_right _ hi
 have hxl:(Flat.enc x).length=Flat.sz α:=Flat.len x
 have hzl:(Flat.enc z).length=Flat.sz β:=Flat.len z
 obtain⟨w',h1,h2,h3⟩:=mJ (P:=P) (o:=i*Flat.sz α+off) (Flat.enc z) 0 (flat xs++rest) w hb (by rw[hzl,List.length_append];omega) (Flat.one z)
 have FN:iX (flat xs++rest) (i*Flat.sz α+off+0) (Flat.enc z)=flat (xs.set i y)++rest:=by
  have:=l9 (flat (xs.take i)++(Flat.enc x).take off) (((Flat.enc x).drop off).take (Flat.sz β)) ((Flat.enc x).drop (off+Flat.sz β)++flat (xs.drop (i+1))++rest) (Flat.enc z)
   (by rw[hzl,List.length_take,List.length_drop];omega)
  rw[List.length_append,Nv,List.length_take,Nat.min_eq_left (by omega)]at this
  rw[Nat.add_zero,Ke y hi,FR,<- hy]
  have e1:Flat.enc x=(Flat.enc x).take off++((Flat.enc x).drop off).take (Flat.sz β)++(Flat.enc x).drop (off+Flat.sz β):=by
   rw[<- List.drop_drop,List.append_assoc,List.take_append_drop,List.take_append_drop]
  have e2:flat (xs.take i)++Flat.enc x++flat (xs.drop (i+1))++rest=flat (xs.take i)++(Flat.enc x).take off++((Flat.enc x).drop off).take (Flat.sz β)++((Flat.enc x).drop (off+Flat.sz β)++flat (xs.drop (i+1))++rest):=by
   conv=>lhs;rw[e1]
   simp only[List.append_assoc]
  rw[e2,this]
  simp only[List.append_assoc]
 rw[FN]at h2
 refine⟨w',?_,k w' ⟨hs.aF.trans (h3.mono λ k hk=>(hF k).2 hk) (λ _ h=>h) λ b hb hf=>(g2 b hf).elim id λ hh=>by omega,U,F,U',?_,g2,g3,g4,
  g5.loc λ b hb=>(h3.mono λ k hk=>(hF k).2 hk).bY b (g5.lt b hb) λ hf=>g3 b hf hb⟩⟩
 ·show(storeVar T ⟨b,i*Flat.sz α+off,none⟩ (Flat.val z)).run P w=_
  unfold storeVar
  rw[eH (fS (kZ ht).2 w),ph]
  simp only[List.size_toArray,Flat.len,ne_eq,not_true_eq_false,if_false]
  exact h1
 refine .inr ⟨b,cap,rest,by rw[List.length_set];exact hv,h2,?_,hF⟩
 rw[List.length_append,dG]at hl |-;rw[List.length_set];exact hl
theorem qZ{T:Nat}{b o:Nat}{cs:List Value}(x:α){K:Value->Prop}(ht:dz P T=some (Flat.agg α,Flat.sz α))(hb:ng w b cs)(hx:(cs.drop o).take (Flat.sz α)=Flat.enc x)(k:K (Flat.val x)) :
  JB P (Instr.loadAt T (.pointer (some ⟨b,o,none⟩))) w K:=by
 refine aE (S:=λ _=>True) ht ⟨b,o,rfl,trivial,λ j c hj=>hb.cell ?_⟩ k
 grind
end
structure SV where
 a:Option Addr
 n:Nat
 cap:Nat
abbrev cH:SV:=⟨none,0,0⟩
instance:Flat SV where
 agg:=false
 sz:=1
 enc s:=[.slice s.a s.n s.cap]
 val s:=.slice s.a s.n s.cap
 pos:=by decide
 len _:=rfl
 one a v h:=by rw[List.mem_singleton.1 h];rfl
 m6 h:=by cases h
 nn _ _:=rfl
section
variable {P:Program}{α:Type}[Flat α] {A:Nat->Prop}{w0 w:World}{L L':List HP}{v:Value}
def rows:List SV->List (List α)->HP
 | [],[]=>emp
 | s::ss,x::xs=>sep (bG (Flat.val s) x) (rows ss xs)
 | _,_=>fact False emp
theorem KC:∀{ss:List SV}{xs:List (List α)}{F:Nat->Prop},(rows ss xs).p w F->ss.length=xs.length
 | [],[],_,_=>rfl
 | s::ss,x::xs,F,h=>by
  obtain⟨F1,F2,_,h2,_,_⟩:=h
  rw[List.length_cons,List.length_cons,KC h2]
 | [],_::_,_,h=>h.1.elim
 | _::_,[],_,h=>h.1.elim
theorem GD:∀{ss:List SV}{xs:List (List α)}{F1 F2 F:Nat->Prop}{s:SV}{x:List α},(rows ss xs).p w F1->(bG (Flat.val s) x).p w F2->(∀b,F1 b->¬ F2 b)->(∀b,F b↔F1 b\/F2 b)->(rows (ss++[s]) (xs++[x])).p w F
 | [],[],F1,F2,F,s,x,h1,h2,_,h4=>by
  refine⟨F2,F1,h2,h1,λ b hb JE=>h1 b JE,λ b=>?_⟩
  grind
 | s'::ss,x'::xs,F1,F2,F,s,x,h1,h2,h3,h4=>by
  obtain⟨G1,G2,g1,g2,g3,g4⟩:=h1
  refine⟨G1,λ b=>G2 b\/F2 b,g1,GD g2 h2 (λ b hb=>h3 b ((g4 b).2 (.inr hb))) (λ b=>Iff.rfl),λ b hb=>?_,λ b=>?_⟩
  ·grind
  grind
 | [],_::_,_,_,_,_,_,h,_,_,_=>h.1.elim
 | _::_,[],_,_,_,_,_,h,_,_,_=>h.1.elim
theorem St.z7{ss:List SV}{xs:List (List α)}(hs:St w0 A (rows ss xs::L) w):ss.length=xs.length:=by
 obtain⟨F,h,_⟩:=hs.head;exact KC h
theorem St.abJ(hs:St w0 A L w):St w0 A (rows [] ([]:List (List α))::L) w:=
 hs.new (Ext.refl w) (F:=aY) (λ _ h=>h) λ _ h=>h.elim
theorem St.DP{ss:List SV}{xs:List (List α)}{s:SV}{x:List α}(hs:St w0 A (rows ss xs::bG (Flat.val s) x::L) w):St w0 A (rows (ss++[s]) (xs++[x])::L) w:=by
 have h:=St.join hs
 refine h.qW λ F hF=>?_
 obtain⟨F1,F2,h1,h2,h3,h4⟩:=hF
 exact⟨F,GD h1 h2 h3 h4,λ b hb=>.inl hb,gq.refl _ _⟩
theorem St.fC{xs:List α}(hs:St w0 A (bG v xs::L) w):∃s:SV,v=Flat.val s:=by
 obtain⟨F,h,_⟩:=hs.head
 rcases h with⟨rfl,_⟩|⟨b,cap,_,rfl,_⟩
 ·exact⟨⟨none,0,0⟩,rfl⟩
 exact⟨⟨_,_,_⟩,rfl⟩
theorem dC.fC{S:Nat->Prop}{xs:List α}(h:dC S w v xs):∃s:SV,v=Flat.val s:=by
 obtain⟨a,cap,rfl,_⟩:=h;exact⟨⟨_,_,_⟩,rfl⟩
def aup(w:World)(v:Value)(xs:List (List α)):Prop:=
 ∃ss:List SV,dC (λ _=>True) w v ss/\ss.length=xs.length/\∀(i:Nat) (s:SV) (x:List α),ss[i]?=some s->xs[i]?=some x->dC (λ _=>True) w (Flat.val s) x
end
section
variable {P:Program}
theorem jH{α:Type}[Flat α]{S:Nat->Prop}{w:World}{xs:List α}{T E kS:Nat}{z:Option Nat}{v:Value}{i:Int}{K:Value->Prop}(ht:eK P T=some (E,Flat.sz α,kS,z))(hr:dC S w v xs)(h0:0<=i)(h2:i<=xs.length)
  (k:∀v',(∀w',dC S w' v xs->dC S w' v' (xs.take i.toNat))->K v'):eN P (Instr.sliceAt T v none (some (.int .i64 i)) none) K:=by
 obtain⟨a,cap,rfl,Bg,h3⟩:=hr
 refine⟨_,v9 ht (n7 (.inl ⟨rfl,rfl⟩) (.inr ⟨i,rfl,h0,rfl⟩) (Nat.zero_le _) (by omega)),k _ λ w' h=>?_⟩
 have:=h.cut rfl (Nat.zero_le i.toNat) (by omega)
 grind
end
open Go.ChangeShapes Go.WideShapes Go.ChangeAt Go.RowKit
structure RdT(P:Program)(t:TypeId)(α:Type)[Flat α](φ:α->Prop):Prop where
 cells:P.cellsOf t=Flat.sz α
 rd:∀{H:Type}(enc:TypeId×Value->H) (w:World) (base:Nat) (sp:Nat->Bool) (held:Bool) (fuel:Nat) (cs:List Value) (x:DataW H×List MemPlace),
  DataW.trod enc P w base sp held fuel t cs=some x->∃a:α,cs=Flat.enc a/\φ a
def eR(n:Int):Prop:=-9223372036854775808<=n/\n<=9223372036854775807
theorem VY{P:Program}{t:TypeId}(ht:P.underlying t=some (.int .i64))(hc:P.cellsOf t=1):RdT P t Int eR:=
 ⟨hc,λ enc w base sp held fuel cs x h=>by
  obtain⟨n,h1,_,h3⟩:=DataW.trod_int ht h
  refine⟨n,h1,?_⟩
  simpa[Lit.wf,IntKind.min,IntKind.max,IntKind.signed,IntKind.bits,eR]using h3⟩
theorem ahc{P:Program}{t:TypeId}(ht:P.underlying t=some .string)(hc:P.cellsOf t=1):RdT P t ByteArray (λ s=>s.size<=maxLen):=
 ⟨hc,λ enc w base sp held fuel cs x h=>by
  obtain⟨n,h1,_,h2⟩:=DataW.trod_string ht h
  exact⟨n,h1,h2⟩⟩
theorem nO{H:Type}{enc:TypeId×Value->H}{P:Program}{w:World}{base:Nat}{sp:Nat->Bool}{held:Bool}{fuel:Nat}{t:TypeId}{fs:Array Field}{cs:List Value}{x:DataW H×List MemPlace}
  (ht:P.underlying t=some (.struct fs)) (h:DataW.trod enc P w base sp held fuel t cs=some x) :
  cs.length=P.cellsOf t/\∃n,∀(i:Nat) (f:Field),fs[i]?=some f->∃y,DataW.trod enc P w base sp held n f.type ((cs.drop f.offset).take (P.cellsOf f.type))=some y:=by
 obtain⟨xs,n,_,_,hl,hs,hf⟩:=DataW.trod_struct ht h
 refine⟨hl,n,λ i f hi=>?_⟩
 have nH:i<xs.length:=by rw[hs];exact(Array.getElem?_eq_some_iff.1 hi).1
 exact⟨xs[i],by rw[hf i f hi,List.getElem?_eq_getElem nH]⟩
theorem dZ{cs:List Value}{o s:Nat}{r:List Value}(h:(cs.drop o).take s=r):cs.drop o=r++cs.drop (o+s):=by
 rw[<- h,<- List.drop_drop,List.take_append_drop]
theorem abL{α:Type}{p:Nat->α->Prop}:∀n,(∀i,i<n->∃x,p i x)->∃xs:List α,xs.length=n/\∀i x,xs[i]?=some x->p i x:=by
 intro n
 induction n with
 | zero=>simp_all
 | succ n ih=>
  intro h
  obtain⟨xs,h1,h2⟩:=ih λ i hi=>h i (by omega)
  obtain⟨x,hx⟩:=h n (by omega)
  refine⟨xs++[x],by simp[h1],λ i y hy=>?_⟩
  grind
theorem N9{α:Type}[Flat α]{xs:List α}{j:Nat}{c:Value}(h:(flat xs)[j]?=some c):∃i r x,xs[i]?=some x/\(Flat.enc x)[r]?=some c/\j=i*Flat.sz α+r:=by
 have nH:j<(flat xs).length:=(List.getElem?_eq_some_iff.1 h).1
 rw[dG]at nH
 have hp:0<Flat.sz α:=Flat.pos
 have hi:j / Flat.sz α<xs.length:=Nat.div_lt_of_lt_mul (by grind)
 have hr:j % Flat.sz α<Flat.sz α:=Nat.mod_lt _ hp
 have hj:j=j / Flat.sz α*Flat.sz α+j % Flat.sz α:=by rw[Nat.mul_comm];exact(Nat.div_add_mod _ _).symm
 have hx:xs[j / Flat.sz α]?=some (xs[j / Flat.sz α]):=List.getElem?_eq_getElem hi
 have hc:(Flat.enc (xs[j / Flat.sz α]))[j % Flat.sz α]?=some ((Flat.enc (xs[j / Flat.sz α]))[j % Flat.sz α]'(by rw[Flat.len];exact hr)):=List.getElem?_eq_getElem _
 have:=rF hx hc
 grind
section
variable {H:Type}{enc:TypeId×Value->H}{P:Program}{w:World}{base:Nat}{held:Bool}
def Io(P:Program)(ts:List TypeId):Bool:=ts.all λ t=>P.readableRec t&&decide (t<P.types.size)
theorem yk(hl:laidOutB P=true){W W':World}(hb:Below W.heap.size W W'){sp:Nat->Bool}:∀{ts:List TypeId}{vs:List Value}{ds:List (DataW H)}{ps:List MemPlace},Io P ts=true->(∀x∈ps,x.block<W.heap.size)->
  (∀x∈ps,sp x.block=true)->DataW.TrodAll enc P W 0 (λ _=>true) true ts vs ds ps->DataW.TrodAll enc P W' 0 sp true ts vs ds ps
 | [],vs,ds,ps,_,_,_,h=>by obtain⟨rfl,rfl,rfl⟩:=trodAll_nil h;exact trodAll_mk0
 | t::ts,vs,ds,ps,hr,nH,FR,h=>by
  obtain⟨v,vs1,d,ds1,a,b,rfl,rfl,rfl,h1,h2⟩:=trodAll_cons h
  have hr':P.readableRec t=true/\t<P.types.size/\Io P ts=true:=by
   grind[Io]
  refine trodAll_cons_mk (WideElems.Trod_stays hl hr'.1 hr'.2.1 h1 (λ x hx=>hb.same (nH x (List.mem_append_left _ hx))) (λ x hx=>FR x (List.mem_append_left _ hx))) ?_
  exact yk hl hb hr'.2.2 (λ x hx=>nH x (List.mem_append_right _ hx)) (λ x hx=>FR x (List.mem_append_right _ hx)) h2
theorem post_true{f:Func}{s:ChangeSpec}{apart fresh handsOn again:Bool}{W W':World}{args:Array Value}{ds gs:List (DataW H)}{before:List MemPlace}{tb:TypeId}
  (afh:s.vars=[]) (hfn:∀ds:List (DataW H),ds.length=f.params.size->s.fn H ds={results:=[.lit (.bool true)],args:=ds}) (am0:f.resultTypes = #[tb]) (htb:P.underlying tb=some .bool)
  (hl:laidOutB P=true) (ahd:Io P f.params.toList=true)
  (hW:DataW.Whole enc P f.params.toList s.vars apart W args.toList ds gs before) (hb:Below W.heap.size W W') :
  s.post enc P f apart fresh handsOn again W args (.bool true) W':=by
 have hW':=hW
 obtain⟨p,q,hA,hV,hpq,hz,hn⟩:=hW
 have nH:∀x∈before,x.block<W.heap.size:=hW'.lt
 rw[afh]at hV
 obtain⟨rfl,rfl⟩:=trodVars_none hV
 simp only[List.append_nil]at hpq
 have hlen:ds.length=f.params.size:=by
  have:=(trodAll_length hA).2
  omega
 have ahe:=hfn ds hlen
 have afi:∀(b:Nat) (sp:Nat->Bool) (hd:Bool),DataW.TrodAll enc P W' b sp hd f.resultTypes.toList ((Value.bool true).resultList f.resultTypes.size) (s.fn H (ds++[])).results []:=λ b sp hd=>by
  rw[List.append_nil,ahe,am0]
  exact trodAll_mk1 (shut_bool htb true)
 have hargs:∀sp:Nat->Bool,(∀p∈before,sp p.block=true)->DataW.TrodAll enc P W' 0 sp true f.params.toList args.toList (s.fn H (ds++[])).args before:=λ sp FR=>by
  rw[List.append_nil,ahe]
  rw[hpq]at nH FR |-
  exact yk hl hb ahd nH FR hA
 have VZ:∀sp:Nat->Bool,DataW.TrodVars enc P W' sp s.vars (s.fn H (ds++[])).vars []:=λ sp=>by
  rw[List.append_nil,ahe,afh];rfl
 have ki:∀(j:Nat) (t:TypeId) (r:Value),f.resultTypes[j]?=some t->((Value.bool true).resultList f.resultTypes.size)[j]?=some r->Value.okWide P W' .any 0 t r:=
  ok_one am0 rfl (okWide_bool_mk htb true)
 have hold:∀p∈before,(λ b=>decide (b<W.heap.size)) p.block=true:=λ p hp=>by grind
 refine⟨ds,[],before,[],before,[],hW',afi _ _ _,hargs _ hold,VZ _,World.keptBut_mono (λ p hp=>⟨hp,?_⟩) (hb.frame (·∈before)),λ _=>?_⟩
 ·grind
 refine⟨ki,_,_,([]++before)++[],⟨[]++before,[],trodAll_append (hargs _ (λ _ _=>rfl)) (afi _ _ _),VZ _,rfl,?_,?_⟩,?_⟩
 ·intro b off hp
  have hp':MemPlace.cell b off∈before:=by grind
  rw[hb.frozen (p:=⟨b,off,none⟩) (nH _ hp')]
  exact hz b off hp'
 ·grind
 grind
end
section
variable {P:Program}{α:Type}[Flat α]
def ahg(P:Program)(T n E:Nat):Prop:=P.underlying T=some (.array n E)/\pr P (sizeOf E)=some 1
theorem km{T E n b o:Nat}{i:Int}{K:Value->Prop}(h:ahg P T n E)(h0:0<=i)(h1:i<n)(k:K (.pointer (some ⟨b,o+i.toNat,none⟩))) :
  eN P (Instr.indexAt T (.pointer (some ⟨b,o,none⟩)) (.int .i64 i)) K:=by
 refine⟨_,?_,k⟩
 unfold Instr.indexAt
 have e1:pr P (underlying T)=some (.array n E):=cZ h.1
 have e3:pr P (Instr.sureAddr (.pointer (some (⟨b,o,none⟩:Addr))))=some ⟨b,o,none⟩:=rfl
 simp only[asIntOf,cX,e1,Option.bind_some,fM,e3]
 simp only[if_pos (show 0<=i/\i<(n:Int)from⟨h0,h1⟩),cX,h.2,Option.bind_some,fM,gu,Nat.mul_one]
theorem open_arr{H:Type}{enc:TypeId×Value->H}{w:World}{base:Nat}{held:Bool}{φ:α->Prop}{t:TypeId}{n:Nat}{e:TypeId}{r:Reach}{b0:Nat}{v:Value}{d:DataW H}{ps:List MemPlace}{sp:Nat->Bool}(ht:P.underlying t=some (.array n e))(ha:Flat.agg α=true)
  (hr:RdT P t α φ) (hval:Value.okWide P w r b0 t v) (hd:DataW.Trod enc P w base sp held t v d ps):∃x:α,v=Flat.val x/\φ x:=by
 obtain⟨fuel,hf⟩:=hd
 obtain⟨x,hx,hp⟩:=hr.rd enc w base _ held fuel _ _ hf
 unfold Value.okWide at hval
 rw[ht]at hval
 obtain⟨cs,rfl,_⟩:=hval
 refine⟨x,?_,hp⟩
 rw[Flat.m6 ha,<- hx]
 simp[Value.cells]
end
theorem Q1{α:Type}[Flat α]{P:Program}{w w0:World}{A:Nat->Prop}{L:List HP}{xs:List α}{T:Nat}{v p:Value}{i:Nat}{x:α}(hs:St w0 A (bG v xs::L) w)(ht:dz P T=some (Flat.agg α,Flat.sz α))(hp:Gw α v i p)(hx:xs[i]?=some x) :
  (Instr.loadAt T p).run P w=.ok (Flat.val x) w:=by
 obtain⟨F,h,_⟩:=hs.head
 obtain⟨b,cap,rest,hv,hb,hl,_⟩:=rn h (List.getElem?_eq_some_iff.1 hx).1
 obtain⟨b',n,c,Bh,rfl⟩:=hp
 rw[hv]at Bh
 simp only[Value.slice.injEq,Option.some.injEq,Addr.mk.injEq]at Bh
 obtain⟨⟨rfl,_,_⟩,_,_⟩:=Bh
 refine eZ (S:=λ _=>True) ht ⟨b,i*Flat.sz α,rfl,trivial,λ j c hj=>hb.cell ?_⟩
 have:=rF hx hj
 rw[List.getElem?_append_left (List.getElem?_eq_some_iff.1 this).1];exact this
class Deep (α:Type) (σ:outParam Type) [Flat σ] where
 dr:World->σ->α->Prop
 ext:∀{w w':World}{s:σ}{x:α},dr w s x->Ext w w'->dr w' s x
def DL{α σ:Type}[Flat σ][Deep α σ](w:World)(v:Value)(xs:List α):Prop:=
 ∃ts:List σ,dC (λ _=>True) w v ts/\ts.length=xs.length/\∀(i:Nat) (t:σ) (x:α),ts[i]?=some t->xs[i]?=some x->Deep.dr w t x
section
variable {P:Program}{α σ:Type}[Flat σ] [Deep α σ] {w w' w0:World}{v:Value}{A:Nat->Prop}{L:List HP}
theorem DL.ext{xs:List α}(h:DL w v xs)(e:Ext w w'):DL w' v xs:=by
 obtain⟨ts,h1,h2,h3⟩:=h;exact⟨ts,h1.ext e,h2,λ i t x a b=>Deep.ext (h3 i t x a b) e⟩
theorem DL.nil(w:World):DL w (.slice none 0 0) ([]:List α):=⟨[],dC.nil _ _,rfl,λ i t x h=>by simp at h⟩
theorem DL.fC{xs:List α}(h:DL w v xs):∃s:SV,v=Flat.val s:=by obtain⟨_,h,_⟩:=h;exact h.fC
instance:Deep (List α) SV where
 dr w s xs:=DL w (Flat.val s) xs
 ext h e:=DL.ext h e
def fk(Φ:World->Prop):HP where
 p w F:=(∀w':World,(∀b,F b->w'.heap[b]?=w.heap[b]?)->Φ w')/\∀b,F b->b<w.heap.size
 loc w w' F h hh:=⟨λ w2 h2=>h.1 w2 λ b hb=>(h2 b hb).trans (hh b hb),λ b hb=>by
  grind⟩
 lt w F b h hb:=h.2 b hb
theorem fk.now{Φ:World->Prop}{F:Nat->Prop}(h:(fk Φ).p w F):Φ w:=h.1 w λ _ _=>rfl
theorem St.fk{Φ:World->Prop}(hs:St w0 A (fk Φ::L) w):Φ w:=by obtain⟨F,h,_⟩:=hs.head;exact fk.now h
theorem St.dU{Φ Ψ:World->Prop}(hs:St w0 A (Fw.fk Φ::L) w)(hk:∀w,Φ w->Ψ w):St w0 A (Fw.fk Ψ::L) w:=
 hs.qW λ F hF=>⟨F,⟨λ w' h=>hk _ (hF.1 w' h),hF.2⟩,λ b hb=>.inl hb,gq.refl _ _⟩
theorem St.gR{Φ Ψ:World->Prop}(hs:St w0 A (Fw.fk Φ::Fw.fk Ψ::L) w):St w0 A (Fw.fk (λ w=>Φ w/\Ψ w)::L) w:=by
 have h:=St.join hs
 refine h.qW λ F hF=>?_
 obtain⟨F1,F2,h1,h2,h3,h4⟩:=hF
 refine⟨F,⟨λ w' hh=>⟨h1.1 w' λ b hb=>hh b ((h4 b).2 (.inl hb)),h2.1 w' λ b hb=>hh b ((h4 b).2 (.inr hb))⟩,λ b hb=>?_⟩,λ b hb=>.inl hb,gq.refl _ _⟩
 rcases(h4 b).1 hb with hb|hb
 ·exact h1.2 b hb
 exact h2.2 b hb
theorem St.fT{Φ:World->Prop}(hs:St w0 A L w)(h:∀w,Φ w):St w0 A (Fw.fk Φ::L) w:=
 hs.new (Ext.refl w) (F:=aY) ⟨λ w' _=>h w',λ b hb=>hb.elim⟩ λ _ h=>h.elim
theorem St.freeze{xs:List σ}(hs:St w0 A (bG v xs::L) w):St w0 A (Fw.fk (λ w=>dC (λ _=>True) w v xs)::L) w:=
 hs.qW λ F hF=>⟨F,⟨λ w' h=>(bG.rd ((bG v xs).loc _ _ _ hF h)).mono λ _ _=>trivial,λ b hb=>(bG v xs).lt _ _ _ hF hb⟩,λ b hb=>.inl hb,gq.refl _ _⟩
theorem St.rp{b:Nat}{cs:List Value}(hs:St w0 A (bY b cs::L) w):St w0 A (Fw.fk (λ w=>ng w b cs)::L) w:=
 hs.qW λ F hF=>⟨F,⟨λ w' h=>((bY b cs).loc _ _ _ hF h).1,λ k hk=>(bY b cs).lt _ _ _ hF hk⟩,λ b hb=>.inl hb,gq.refl _ _⟩
def jh(ts:List σ)(xs:List α)(w:World):Prop:=ts.length=xs.length/\∀(i:Nat) (t:σ) (x:α),ts[i]?=some t->xs[i]?=some x->Deep.dr w t x
theorem jh.nil:jh ([]:List σ) ([]:List α) w:=⟨rfl,λ i t x h=>by simp at h⟩
theorem jh.snoc{ts:List σ}{xs:List α}{t:σ}{x:α}(h:jh ts xs w)(ht:Deep.dr w t x):jh (ts++[t]) (xs++[x]) w:=by
 grind[jh]
theorem jh.append{ts us:List σ}{xs ys:List α}(h:jh ts xs w)(g:jh us ys w):jh (ts++us) (xs++ys) w:=by
 grind[jh]
theorem jh.ext{ts:List σ}{xs:List α}(h:jh ts xs w)(e:Ext w w'):jh ts xs w':=⟨h.1,λ i t x a b=>Deep.ext (h.2 i t x a b) e⟩
theorem DL.of{ts:List σ}{xs:List α}(h:dC (λ _=>True) w v ts)(g:jh ts xs w):DL w v xs:=⟨ts,h,g.1,g.2⟩
theorem DL.open{xs:List α}(h:DL w v xs):∃ts:List σ,dC (λ _=>True) w v ts/\jh ts xs w:=by obtain⟨ts,h1,h2,h3⟩:=h;exact⟨ts,h1,h2,h3⟩
theorem jh.take{ts:List σ}{xs:List α}(h:jh ts xs w)(k:Nat):jh (ts.take k) (xs.take k) w:=by
 grind[jh]
theorem jh.drop{ts:List σ}{xs:List α}(h:jh ts xs w)(k:Nat):jh (ts.drop k) (xs.drop k) w:=by
 grind[jh]
end
section
variable {α:Type}[Flat α]
abbrev iC:Deep α α:=⟨λ _ s x=>s=x,λ h _=>h⟩
theorem GF[D:Deep α α](hD:∀w s x,D.dr w s x↔s=x){w:World}{ts xs:List α}:jh ts xs w↔ts=xs:=by
 constructor
 ·rintro⟨h1,h2⟩
  refine List.ext_getElem? λ i=>?_
  grind
 grind[jh]
end
instance:Deep Int Int:=iC
instance:Deep Bool Bool:=iC
instance:Deep ByteArray ByteArray:=iC
structure RdW(P:Program)(w:World)(t:TypeId)(α:Type)[Flat α](φ:α->Prop):Prop where
 cells:P.cellsOf t=Flat.sz α
 rd:∀{H:Type}(enc:TypeId×Value->H) (base:Nat) (held:Bool) (fuel:Nat) (cs:List Value) (x:DataW H×List MemPlace),
  DataW.trod enc P w base (λ _=>true) held fuel t cs=some x->∃a:α,cs=Flat.enc a/\φ a
def yK(P:Program)(t:TypeId)(α:Type){σ:Type}[Flat σ][Deep α σ](φ:α->Prop):Prop:=∀w,RdW P w t σ (λ s=>∃a:α,Deep.dr w s a/\φ a)
theorem RdT.deep{P:Program}{t:TypeId}{α:Type}[Flat α][D:Deep α α]{φ:α->Prop}(h:RdT P t α φ)(hD:∀w (x:α),D.dr w x x):yK P t α φ:=
 λ w=>⟨h.cells,λ enc base held fuel cs x hx=>by
  obtain⟨a,h1,h2⟩:=h.rd enc w base _ held fuel cs x hx;exact⟨a,h1,a,hD w a,h2⟩⟩
section
variable {H:Type}{enc:TypeId×Value->H}{P:Program}{w:World}{base:Nat}{held:Bool}
theorem KD{α:Type}[Flat α]{φ:α->Prop}{t e:TypeId}{fuel:Nat}{cs:List Value}{x:DataW H×List MemPlace}(ht:P.underlying t=some (.slice e))(hr:RdW P w e α φ)
  (h:DataW.trod enc P w base (λ _=>true) held fuel t cs=some x):∃v,cs=[v]/\∃xs:List α,dC (λ b=>b<w.heap.size) w v xs/\∀x∈xs,φ x:=by
 rcases DataW.trod_slice ht h with⟨rfl,_⟩|⟨a,len,cap,elems,rest,n,_,rfl,_,hb,hl,hm,hlen,KB,FR,_⟩
 ·exact⟨_,rfl,[],dC.nil _ _,by simp⟩
 refine⟨_,rfl,?_⟩
 have get:∀i,i<len->∃x:α,φ x/\w.cells? base (a.add (i*P.cellsOf e)) (P.cellsOf e)=some (Flat.enc x):=by
  intro i hi
  have h1:=KB i hi
  rw[List.getElem?_eq_getElem (by omega)]at h1
  obtain⟨cs',h2,h3⟩:=Option.bind_eq_some_iff.1 h1
  obtain⟨x,rfl,hx⟩:=hr.rd enc base held n cs' _ h3
  grind
 obtain⟨xs,hxl,hxs⟩:=abL len get
 have o7:=hr.cells
 have Cw:0<Flat.sz α:=Flat.pos
 have first:∀(c:Nat) (cs':List Value),w.cells? base (a.add (c*P.cellsOf e)) (P.cellsOf e)=some cs'->c=0->a.spot=none:=by
  intro c cs' h1 h0
  subst h0
  have:=World.cells?_some h1
  have h2:=this.2.2 0 (by omega)
  rw[Nat.zero_mul]at h2
  have h3:w.cell? a=cs'[0]?:=by simpa[Addr.add]using h2
  rw[List.getElem?_eq_getElem (by omega)]at h3
  unfold World.cell? at h3
  split at h3
  ·simp_all
  ·cases h3
 refine⟨xs,⟨some a,cap,by rw[hxl],by omega,?_⟩,λ x hx=>?_⟩
 ·by_cases B6:cap=0
  ·simp_all
  right
  have afj:a.spot=none:=by
   by_cases h0:0<len
   ·grind
   ·obtain⟨h1,h2⟩:=FR rfl
    have h3:=h2 0 (by omega)
    rw[List.getElem?_eq_getElem (by omega)]at h3
    obtain⟨cs',h4,_⟩:=Option.bind_eq_some_iff.1 h3
    grind
  have afk:∀j c,(flat xs)[j]?=some c->Cell w a.block (a.off+j) c:=by
   intro j c hj
   obtain⟨i,r,x,hx,z8,rfl⟩:=N9 hj
   have h1:=(World.cells?_some (hxs i x hx).2).2.2 r (by rw[o7];have:=(List.getElem?_eq_some_iff.1 z8).1;rwa [Flat.len]at this)
   rw[z8,o7]at h1
   obtain⟨b,o,s⟩:=a
   simp only at afj
   subst afj
   unfold Cell
   rw[<- h1,gu,gu,Nat.add_assoc]
  refine⟨a.block,a.off,by obtain⟨b,o,s⟩:=a;grind,λ FL=>?_,afk⟩
  obtain⟨y,ys,rfl⟩:=List.exists_cons_of_ne_nil FL
  have h0:(flat (y::ys))[0]?=some ((Flat.enc y)[0]'(by rw[Flat.len];exact Cw)):=by
   rw[ku,List.getElem?_append_left (by rw[Flat.len];exact Cw),List.getElem?_eq_getElem]
  exact(afk 0 _ h0).lt
 obtain⟨i,hi⟩:=List.getElem?_of_mem hx
 grind
theorem Oa{α σ:Type}[Flat σ][Deep α σ]{φ:α->Prop}:∀(ts:List σ),(∀s∈ts,∃a:α,Deep.dr w s a/\φ a)->∃xs:List α,jh ts xs w/\∀x∈xs,φ x
 | [],_=>⟨[],jh.nil,by simp⟩
 | t::ts,h=>by
  obtain⟨a,h1,h2⟩:=h t (by simp)
  obtain⟨xs,h3,h4⟩:=Oa ts λ s hs=>h s (List.mem_cons_of_mem _ hs)
  refine⟨a::xs,?_,λ x hx=>?_⟩
  ·grind[jh]
  grind
theorem yK.slice{α σ:Type}[Flat σ][Deep α σ]{φ:α->Prop}{t e:TypeId}(ht:P.underlying t=some (.slice e))(hc:P.cellsOf t=1)(hr:yK P e α φ):yK P t (List α) (λ xs=>∀x∈xs,φ x):=
 λ w=>⟨hc,λ enc base held fuel cs x hx=>by
  obtain⟨v,rfl,ts,h1,h2⟩:=KD ht (hr w) hx
  obtain⟨xs,h3,h4⟩:=Oa ts h2
  have h1':dC (λ _=>True) w v ts:=h1.mono λ _ _=>trivial
  obtain⟨s,rfl⟩:=h1'.fC
  exact⟨s,rfl,xs,DL.of h1' h3,h4⟩⟩
theorem open_dl{α σ:Type}[Flat σ][Deep α σ]{φ:α->Prop}{t e:TypeId}{r:Reach}{b0:Nat}{v:Value}{d:DataW H}{ps:List MemPlace}(ht:P.underlying t=some (.slice e))(hr:yK P e α φ)
  (hval:Value.okWide P w r b0 t v) (hd:DataW.Trod enc P w base (λ _=>true) held t v d ps):∃xs:List α,DL w v xs/\∀x∈xs,φ x:=by
 obtain⟨fuel,hf⟩:=hd
 obtain⟨u,hu,ts,h1,h2⟩:=KD ht (hr w) hf
 have hv:v=u:=by
  have h1:=hval
  unfold Value.okWide at h1
  rw[ht]at h1
  cases v with
  | slice a n c=>exact(List.cons.inj (show [Value.slice a n c]=[u]from hu)).1
  | _=>
   have h2:Cell.okWide P w r b0 t _:=h1
   unfold Cell.okWide at h2
   rw[ht]at h2
   simp only[Cell.ok,ht]at h2
 subst hv
 obtain⟨xs,h3,h4⟩:=Oa ts h2
 exact⟨xs,DL.of (h1.mono λ _ _=>trivial) h3,h4⟩
theorem open_dst{α σ:Type}[Flat σ][Deep α σ]{φ:α->Prop}{t:TypeId}{fs:Array Field}{r:Reach}{b0:Nat}{v:Value}{d:DataW H}{ps:List MemPlace}(ht:P.underlying t=some (.struct fs))(ha:Flat.agg σ=true)
  (hr:yK P t α φ) (hval:Value.okWide P w r b0 t v) (hd:DataW.Trod enc P w base (λ _=>true) held t v d ps):∃(s:σ) (x:α),v=Flat.val s/\Deep.dr w s x/\φ x:=by
 obtain⟨fuel,hf⟩:=hd
 obtain⟨s,hs,x,h1,h2⟩:=(hr w).rd enc base held fuel _ _ hf
 unfold Value.okWide at hval
 rw[ht]at hval
 obtain⟨cs,rfl,_⟩:=hval
 refine⟨s,x,?_,h1,h2⟩
 rw[Flat.m6 ha,<- hs]
 simp[Value.cells]
end
def A1(x:Int):Int:=IntKind.i64.wrap x
theorem yL{x:Int}(h : -9223372036854775808<=x/\x<=9223372036854775807):A1 x=x:=IntWalk.i64_in _ h
section
variable {P:Program}{T:Nat}{cx cy:Bool}{a b:Int}{K:Value->Prop}
theorem uo(k:K (.int .i64 (A1 (a+b)))):eN P (jz .add T cx cy (.int .i64 a) (.int .i64 b)) K:=⟨_,rfl,k⟩
theorem z9(k:K (.int .i64 (A1 (a-b)))):eN P (jz .sub T cx cy (.int .i64 a) (.int .i64 b)) K:=⟨_,rfl,k⟩
theorem wx(k:K (.int .i64 (A1 (a*b)))):eN P (jz .mul T cx cy (.int .i64 a) (.int .i64 b)) K:=⟨_,rfl,k⟩
theorem V0(k:K (.int .i64 (A1 (0-a)))):eN P (Op.unary .neg (.int .i64 a)) K:=⟨_,rfl,k⟩
theorem DU(h:b≠0)(k:K (.int .i64 (A1 (a.tdiv b)))):eN P (jz .quo T cx cy (.int .i64 a) (.int .i64 b)) K:=by
 refine⟨_,?_,k⟩
 show pr P (Op.intDiv .quo .i64 a b)=_
 unfold Op.intDiv
 rw[if_neg h];rfl
theorem V1(h:b≠0)(k:K (.int .i64 (a.tmod b))):eN P (jz .rem T cx cy (.int .i64 a) (.int .i64 b)) K:=by
 refine⟨_,?_,k⟩
 show pr P (Op.intDiv .rem .i64 a b)=_
 unfold Op.intDiv
 rw[if_neg h];rfl
end
theorem rQ{α:Type}[Flat α]{P:Program}{w w0:World}{A:Nat->Prop}{L:List HP}{xs:List α}{T E kS:Nat}{z:Option Nat}{v:Value}{i:Int}{K:Value->Prop}(ht:eK P T=some (E,Flat.sz α,kS,z))
  (hs:St w0 A (bG v xs::L) w) (h0:0<=i) (h1:i<=xs.length) (k:∀v',St w0 A (bG v' (xs.take i.toNat)::L) w->K v'):eN P (Instr.sliceAt T v none (some (.int .i64 i)) none) K:=by
 obtain⟨a,cap,hv,Bg,_⟩:=hs.dX
 refine⟨_,(by rw[hv];exact v9 ht (n7 (.inl ⟨rfl,rfl⟩) (.inr ⟨i,rfl,h0,rfl⟩) (Nat.zero_le _) (by omega))),k _ ?_⟩
 refine hs.qW λ F hF=>?_
 rcases hF with⟨hv0,hx,eD⟩|⟨b,DD,rest,Bh,hb,hl,hF⟩
 ·rw[hv0]at hv
  subst hx
  simp only[Value.slice.injEq]at hv
  obtain⟨rfl,_,rfl⟩:=hv
  have hi:i.toNat=0:=by simp at h1;omega
  refine⟨F,.inl ⟨?_,by simp,eD⟩,λ b hb=>.inl hb,gq.refl _ _⟩
  rw[hi];rfl
 rw[Bh]at hv
 simp only[Value.slice.injEq]at hv
 obtain⟨rfl,_,rfl⟩:=hv
 refine⟨F,.inr ⟨b,DD,flat (xs.drop i.toNat)++rest,?_,?_,?_,hF⟩,λ b hb=>.inl hb,gq.refl _ _⟩
 ·have FH:(xs.take i.toNat).length=i.toNat:=by rw[List.length_take];omega
  rw[FH]
  simp[gu]
 ·rw[<- List.append_assoc,<- hG,List.take_append_drop];exact hb
 exact⟨Nat.le_trans (by rw[List.length_take];omega) hl.1,by rw[<- List.append_assoc,<- hG,List.take_append_drop];exact hl.2⟩
section
variable {P:Program}{w w':World}{v:Value}
theorem DL.flat{α:Type}[Flat α][D:Deep α α]{xs:List α}(h:DL w v xs)(hD:∀w s x,D.dr w s x↔s=x:=by intros;exact Iff.rfl):dC (λ _=>True) w v xs:=by
 obtain⟨ts,h1,h2⟩:=h.open
 rw[(GF hD).1 h2]at h1;exact h1
theorem DL.j3{α:Type}[Flat α][D:Deep α α]{xs:List α}(h:dC (λ _=>True) w v xs)(hD:∀w s x,D.dr w s x↔s=x:=by intros;exact Iff.rfl):DL w v xs:=DL.of h ((GF hD).2 rfl)
theorem KE{α:Type}[Flat α]{S:Nat->Prop}{xs:List α}{T E kS:Nat}{z:Option Nat}{lo hi:Option Value}{l h:Nat}{K:Value->Prop}(ht:eK P T=some (E,Flat.sz α,kS,z))(hr:dC S w v xs)
  (hl:lo=none/\l=0\/∃i:Int,lo=some (.int .i64 i)/\0<=i/\l=i.toNat) (hh:hi=none/\h=xs.length\/∃i:Int,hi=some (.int .i64 i)/\0<=i/\h=i.toNat)
  (h1:l<=h) (h2:h<=xs.length) (k:∀v',(∀w',dC S w' v xs->dC S w' v' ((xs.take h).drop l))->K v'):eN P (Instr.sliceAt T v lo hi none) K:=by
 obtain⟨a,cap,rfl,Bg,h3⟩:=hr
 exact⟨_,v9 ht (n7 hl hh h1 (by omega)),k _ λ w' hw=>hw.cut rfl h1 h2⟩
theorem yM{α:Type}[Flat α]{S:Nat->Prop}{xs:List α}{T E kS:Nat}{z:Option Nat}{i:Int}{K:Value->Prop}(ht:eK P T=some (E,Flat.sz α,kS,z))(hr:dC S w v xs)
  (h0:0<=i) (h2:i<=xs.length) (k:∀v',(∀w',dC S w' v xs->dC S w' v' (xs.drop i.toNat))->K v'):eN P (Instr.sliceAt T v (some (.int .i64 i)) none none) K:=
 KE ht hr (.inr ⟨i,rfl,h0,rfl⟩) (.inl ⟨rfl,rfl⟩) (by omega) (Nat.le_refl _) λ v' h=>k v' λ w' hw=>by grind
theorem od{α:Type}[Flat α]{S:Nat->Prop}{xs:List α}{T E kS:Nat}{z:Option Nat}{i j:Int}{K:Value->Prop}(ht:eK P T=some (E,Flat.sz α,kS,z))(hr:dC S w v xs)
  (h0:0<=i) (h1:i<=j) (h2:j<=xs.length) (k:∀v',(∀w',dC S w' v xs->dC S w' v' ((xs.take j.toNat).drop i.toNat))->K v'):eN P (Instr.sliceAt T v (some (.int .i64 i)) (some (.int .i64 j)) none) K:=
 KE ht hr (.inr ⟨i,rfl,h0,rfl⟩) (.inr ⟨j,rfl,by omega,rfl⟩) (by omega) (by omega) k
theorem DL.cut{α σ:Type}[Flat σ][Deep α σ]{xs:List α}{ts:List σ}{v':Value}{l h:Nat}(hq:∀w',dC (λ _=>True) w' v ts->dC (λ _=>True) w' v' ((ts.take h).drop l))(hR:dC (λ _=>True) w v ts)(hD:jh ts xs w):DL w v' ((xs.take h).drop l):=
 DL.of (hq w hR) ((hD.take h).drop l)
theorem DL.V2{α σ:Type}[Flat σ][Deep α σ]{xs:List α}{ts:List σ}{v':Value}{l:Nat}(hq:∀w',dC (λ _=>True) w' v ts->dC (λ _=>True) w' v' (ts.drop l))(hR:dC (λ _=>True) w v ts)(hD:jh ts xs w):DL w v' (xs.drop l):=
 DL.of (hq w hR) (hD.drop l)
theorem DV{a b:ByteArray}:(a.toList == b.toList)=decide (a=b):=by
 rw[ByteArray.toList_eq,ByteArray.toList_eq,Bool.eq_iff_iff,beq_iff_eq,decide_eq_true_eq]
 constructor
 ·intro h
  obtain⟨a⟩:=a
  simp_all
 grind
theorem iD{T:Nat}{cx cy:Bool}{a b:ByteArray}{K:Value->Prop}(k:K (.bool (decide (a=b)))):eN P (jz .eql T cx cy (.string a) (.string b)) K:=by
 rw[<- DV]at k
 exact⟨_,rfl,k⟩
theorem lM{T:Nat}{cx cy:Bool}{a b:ByteArray}{K:Value->Prop}(k:K (.bool (decide (¬ a=b)))):eN P (jz .neq T cx cy (.string a) (.string b)) K:=by
 refine⟨_,rfl,?_⟩
 have:(!(a.toList == b.toList))=decide (¬ a=b):=by rw[DV];grind
 grind
end
def iH(s:ByteArray):List UInt8:=s.data.toList
theorem eT(s:ByteArray):(iH s).length=s.size:=by simp_all[iH]
theorem Q2(s:ByteArray)(i:Nat):(iH s)[i]?=if h:i<s.size then some (s[i]'h)else none:=by
 unfold iH
 by_cases h:i<s.size
 ·rw[dif_pos h,Array.getElem?_toList]
  exact Array.getElem?_eq_getElem h
 simp_all
section
variable {P:Program}{T R:Nat}{cx cy:Bool}{a b:Int}{K:Value->Prop}
theorem fg{s:ByteArray}(hT:P.underlying T=some .string)(k:K (.int .i64 (s.size:Int))):eN P (Builtin.len_ #[T] R [Value.string s].toArray) K:=by
 refine⟨_,?_,k⟩
 show pr P (do
  match <- underlying T,Value.string s with
  | .string,.string s=>pure (goInt s.size)
  | .array n _,_=>pure (goInt n)
  | .pointer arr,_=>
   let .array n _ <- underlying arr|stuck "len: pointer to array expected"
   pure (goInt n)
  | .slice _,.slice _ n _=>pure (goInt n)
  | .map _ _,.map none|.chan _ _,.chan none=>pure (goInt 0)
  | .map _ _,.map (some r)=>
   let .map entries _ <- getObj r|stuck "len: map expected"
   pure (goInt entries.size)
  | .chan _ _,.chan (some r)=>
   let .chan _ buf _ _ _ timer <- getObj r|stuck "len: channel expected"
   pure (goInt (if timer then 0 else buf.size))
  | _, _ => stuck "len: string, array, pointer to array, slice, map or channel expected")=_
 rw[cX,cZ hT];rfl
theorem jN{s:ByteArray}{i:Int}{e:UInt8}(hT:P.underlying T=some .string)(h0:0<=i)(he:(iH s)[i.toNat]?=some e)(k:K (.int .u8 (e.toNat:Int))):eN P (Instr.index T (.string s) (.int .i64 i)) K:=by
 refine⟨_,?_,k⟩
 rw[Q2]at he
 have hi:i.toNat<s.size:=by
  grind
 rw[dif_pos hi]at he
 have h3:(if 0<=i then s[i.toNat]? else none)=some e:=by grind
 unfold Instr.index
 simp only[asIntOf,cX,cZ hT,Option.bind_some,fM,h3]
theorem nP{s:ByteArray}{i:Int}(hT:P.underlying T=some .string)(h0:0<=i)(h1:i<=s.size)(k:K (.string (s.extract 0 i.toNat))):eN P (Instr.sliceAt T (.string s) none (some (.int .i64 i)) none) K:=by
 refine⟨_,?_,k⟩
 unfold Instr.sliceAt
 rw[cX,cZ hT]
 simp only[Option.bind_some]
 unfold Instr.slice
 rw[cX,cZ hT]
 simp only[Option.bind_some]
 rw[if_neg (by decide)]
 have hb:pr P (Instr.sliceBounds false s.size s.size none (some (.int .i64 i)) none)=some (0,i.toNat,s.size):=by
  simp only[Instr.sliceBounds,cX,fM,Option.bind_some]
  rw[jd h0 h1];rfl
 rw[cX,hb];rfl
theorem KF{s:ByteArray}{i j:Int}(hT:P.underlying T=some .string)(h0:0<=i)(hij:i<=j)(h1:j<=s.size)(k:K (.string (s.extract i.toNat j.toNat))):eN P (Instr.sliceAt T (.string s) (some (.int .i64 i)) (some (.int .i64 j)) none) K:=by
 refine⟨_,?_,k⟩
 unfold Instr.sliceAt
 rw[cX,cZ hT]
 simp only[Option.bind_some]
 unfold Instr.slice
 rw[cX,cZ hT]
 simp only[Option.bind_some]
 rw[if_neg (by decide)]
 have hb:pr P (Instr.sliceBounds false s.size s.size (some (.int .i64 i)) (some (.int .i64 j)) none)=some (i.toNat,j.toNat,s.size):=by
  simp only[Instr.sliceBounds,cX,fM,Option.bind_some]
  rw[jd (by omega) h1];simp only[Option.bind_some];rw[jd h0 (by omega)];rfl
 rw[cX,hb];rfl
theorem Aa(k:K (.bool (decide (a<=b)))):eN P (jz .leq T cx cy (.int .u8 a) (.int .u8 b)) K:=⟨_,rfl,k⟩
theorem Ab(k:K (.bool (decide (b<=a)))):eN P (jz .geq T cx cy (.int .u8 a) (.int .u8 b)) K:=⟨_,rfl,k⟩
theorem nA(k:K (.bool (decide (a=b)))):eN P (jz .eql T cx cy (.int .u8 a) (.int .u8 b)) K:=⟨_,rfl,k⟩
theorem V3(k:K (.bool (decide (a≠b)))):eN P (jz .neq T cx cy (.int .u8 a) (.int .u8 b)) K:=
 ⟨_,(show pr P (jz .neq T cx cy (.int .u8 a) (.int .u8 b))=some (.bool (decide (a≠b)))from by
  show some (Value.bool (a != b))=_
  grind),k⟩
theorem KG{t:Array TypeId}{R:TypeId}{c:Int}(k:K (.int .i64 (max (max a b) c))):eN P (Builtin.max_ t R [.int .i64 a,.int .i64 b,.int .i64 c].toArray) K:=by
 refine⟨_,?_,k⟩
 show pr P (do Builtin.max2 (<- Builtin.max2 (.int .i64 a) (.int .i64 b)) (.int .i64 c))=_
 have h:∀x y:Int,pr P (Builtin.max2 (.int .i64 x) (.int .i64 y))=some (.int .i64 (max x y)):=by
  intro x y
  unfold Builtin.max2
  by_cases h:x<y
  ·simp[h,fM];omega
  ·simp[h,fM];omega
 rw[cX,h]
 exact h _ _
end
def fV{α σ:Type}[Flat σ][Deep α σ](v:Value)(xs:List α):HP:=qd λ ts:List σ=>sep (bG v ts) (fk (jh ts xs))
section
variable {P:Program}{α σ:Type}[Flat σ] [D:Deep α σ] {w w' w0:World}{v src:Value}{A:Nat->Prop}{L:List HP}{xs ys:List α}
theorem St.Q3(hs:St w0 A (fV v xs::L) w):∃ts:List σ,St w0 A (bG v ts::Fw.fk (jh ts xs)::L) w:=by
 obtain⟨ts,h⟩:=hs.er;exact⟨ts,h.split⟩
theorem St.KH{ts:List σ}(hs:St w0 A (bG v ts::Fw.fk (jh ts xs)::L) w):St w0 A (fV v xs::L) w:=
 St.et (H:=λ ts:List σ=>sep (bG v ts) (Fw.fk (jh ts xs))) ts (St.join hs)
theorem St.am1{ts:List σ}(hs:St w0 A (bG v ts::Fw.fk (jh ts xs)::L) w):ts.length=xs.length:=(hs.p1.fk).1
theorem St.Ip(hs:St w0 A L w):St w0 A (fV (.slice none 0 0) ([]:List α)::L) w:=
 St.KH (ts:=[]) ((hs.fT λ _=>jh.nil).eJ)
theorem St.auq(hs:St w0 A (bG v ([]:List σ)::L) w):St w0 A (fV v ([]:List α)::L) w:=
 St.KH (ts:=[]) (hs.fT (Φ:=jh ([]:List σ) ([]:List α)) λ _=>jh.nil).p1
theorem St.aur{s:σ}{x:α}(hs:St w0 A (bG v [s]::Fw.fk (λ w=>Deep.dr w s x)::L) w):St w0 A (fV v [x]::L) w:=by
 refine St.KH (ts:=[s]) ?_
 refine((hs.p1.dU (Ψ:=jh [s] [x]) λ w h=>?_)).p1
 exact(jh.nil (w:=w)).snoc h
theorem St.aus{ts us:List σ}(hs:St w0 A (bG v (ts++us)::Fw.fk (jh ts xs)::Fw.fk (jh us ys)::L) w):St w0 A (fV v (xs++ys)::L) w:=by
 have h1:=(hs.p1:St w0 A (Fw.fk (jh ts xs)::bG v (ts++us)::Fw.fk (jh us ys)::L) w)
 have h2:=h1.p2.p1
 refine St.KH (ts:=ts++us) ?_
 exact((h2.gR).dU (Ψ:=jh (ts++us) (xs++ys)) λ w h=>h.1.append h.2).p1
theorem St.nJ(hs:St w0 A (fV v xs::L) w):St w0 A (Fw.fk (λ w=>DL w v xs)::L) w:=by
 obtain⟨ts,h⟩:=hs.Q3
 exact(h.freeze.gR).dU λ w h=>DL.of h.1 h.2
theorem St.dl(hs:St w0 A (fV v xs::L) w):DL w v xs:=hs.nJ.fk
theorem St.oI(hs:St w0 A (fV v xs::L) w):∃s:SV,v=Flat.val s:=hs.dl.fC
theorem St.enc{b:Nat}{cs cs':List Value}(hs:St w0 A (bY b cs::L) w)(h:cs=cs'):St w0 A (bY b cs'::L) w:=h▸hs
theorem te{T E kS:Nat}{K:Value->World->Prop}(hs:St w0 A L w)(ht:Vt P T E (Flat.sz σ) kS)(k:∀v w',St w0 A (fV v ([]:List α)::L) w'->K v w'):rC P (Instr.buildSlice T 0 ([]:List (Nat×Value)).toArray) w K:=
 aX ([]:List σ) hs ht rfl rfl (by simp) λ v w' h=>k v w' h.auq
theorem gw{T E kS:Nat}{s:σ}{x:α}{K:Value->World->Prop}(hs:St w0 A (Fw.fk (λ w=>Deep.dr w s x)::L) w)(ht:Vt P T E (Flat.sz σ) kS)(hz:Flat.sz σ<=64)(k:∀v w',St w0 A (fV v [x]::L) w'->K v w') :
  rC P (Instr.buildSlice T 1 [(0,Flat.val s)].toArray) w K:=
 aX [s] hs ht rfl rfl (by simp;omega) λ v w' h=>k v w' h.aur
theorem gy{T E kS R:Nat}{K:Value->World->Prop}(hs:St w0 A (fV v xs::fV src ys::L) w)(ht:Vt P T E (Flat.sz σ) kS)
  (hn:xs.length+ys.length<=1073741824) (hby:kS<=8192) (k:∀v' w',St w0 A (fV v' (xs++ys)::L) w'->K v' w'):rC P (Builtin.append_ #[T,T] R [v,src].toArray) w K:=by
 obtain⟨us,h1⟩:=hs.p1.Q3
 obtain⟨ts,h2⟩:=h1.p2.Q3
 have e1:=h1.am1
 have e2:=h2.am1
 refine bI h2 ht h2.p2.dX (by omega) hby λ v' w' h=>k v' w' ?_
 exact(h.p2.drop).aus
theorem lR{β:Type}[Flat β]{T:Nat}{b o:Nat}{cs:List Value}(x:β)(ht:dz P T=some (Flat.agg β,Flat.sz β))(hb:ng w b cs)(hx:(cs.drop o).take (Flat.sz β)=Flat.enc x) :
  (Instr.loadAt T (.pointer (some ⟨b,o,none⟩))).run P w=.ok (Flat.val x) w:=by
 refine eZ (S:=λ _=>True) ht ⟨b,o,rfl,trivial,λ j c hj=>hb.cell ?_⟩
 grind
end
instance:Flat UInt8 where
 agg:=false
 sz:=1
 enc b:=[.int .u8 b.toNat]
 val b:=.int .u8 b.toNat
 pos:=by decide
 len _:=rfl
 one a v h:=by rw[List.mem_singleton.1 h];rfl
 m6 h:=by cases h
 nn _ _:=rfl
instance:Deep UInt8 UInt8:=iC
def tf{α σ:Type}[Flat σ][Deep α σ](P:Program)(w:World)(f:Value)(φ:α->Prop)(g:α->Bool):Prop:=∃g0 first cap,f=.func (.func g0) (List.toArray first) (List.toArray cap)/\Plain P g0/\
 ∀(s:σ) (x:α) w1,Ext w w1->Deep.dr w1 s x->φ x->Calls P g0 (first++[Flat.val s]++cap).toArray w1 (tX λ v w2=>v=.bool (g x)/\Ext w1 w2)
theorem tf.ext{α σ:Type}[Flat σ][Deep α σ]{P:Program}{w w':World}{f:Value}{φ:α->Prop}{g:α->Bool}(h:tf P w f φ g)(e:Ext w w'):tf P w' f φ g:=by
 obtain⟨g0,first,cap,h1,h2,h3⟩:=h;exact⟨g0,first,cap,h1,h2,λ s x w1 e1=>h3 s x w1 (e.trans e1)⟩
theorem S5{α:Type}[Flat α]{P:Program}{S:Nat->Prop}{w:World}{T E:TypeId}{cx cy:Bool}{v:Value}{xs:List α}{K:Value->Prop}(h:P.underlying T=some (.slice E))(hr:dC S w v xs)(k:∀p:Bool,(p=true->xs=[])->K (.bool p)) :
  eN P (jz .eql T cx cy v (.slice none 0 0)) K:=by
 obtain⟨a,cap,rfl,_,h3⟩:=hr
 have key:pr P (Op.equal T (.slice a xs.length cap) (.slice none 0 0))=some a.isNone:=by
  show pr P (Op.equalIn 10000 T (.slice a xs.length cap) (.slice none 0 0))=_
  unfold Op.equalIn
  rw[cX,cZ h]
  cases a<;>rfl
 refine⟨_,?_,k a.isNone λ ha=>?_⟩
 ·show pr P (do pure (Value.bool (<- Op.equal T (.slice a xs.length cap) (.slice none 0 0))))=_
  rw[uW,key];rfl
 grind
structure Ptr where
 b:Nat
deriving DecidableEq
instance:Flat Ptr where
 agg:=false
 sz:=1
 enc p:=[.pointer (some ⟨p.b,0,none⟩)]
 val p:=.pointer (some ⟨p.b,0,none⟩)
 pos:=by decide
 len _:=rfl
 one a v h:=by rw[List.mem_singleton.1 h];rfl
 m6 h:=by cases h
 nn _ _:=rfl
instance:Deep Ptr Ptr:=iC
def gS{α κ:Type}(H:κ->α->HP):List κ->List α->HP
 | [],[]=>emp
 | p::ps,x::xs=>sep (H p x) (gS H ps xs)
 | _,_=>fact False emp
section
variable {P:Program}{α κ:Type}{H:κ->α->HP}{A:Nat->Prop}{w0 w:World}{L:List HP}
theorem Bm:∀{ps:List κ}{xs:List α}{F:Nat->Prop},(gS H ps xs).p w F->ps.length=xs.length
 | [],[],_,_=>rfl
 | s::ss,x::xs,F,h=>by
  obtain⟨F1,F2,_,h2,_,_⟩:=h
  rw[List.length_cons,List.length_cons,Bm h2]
 | [],_::_,_,h=>h.1.elim
 | _::_,[],_,h=>h.1.elim
theorem St.iP{ps:List κ}{xs:List α}(hs:St w0 A (gS H ps xs::L) w):ps.length=xs.length:=by
 obtain⟨F,h,_⟩:=hs.head;exact Bm h
theorem St.Ac(hs:St w0 A L w):St w0 A (gS H [] []::L) w:=hs.new (Ext.refl w) (F:=aY) (λ _ h=>h) λ _ h=>h.elim
def nB(H:κ->α->HP)(ps:List κ)(xs:List α)(i:Nat):HP:=sep (gS H (ps.take i) (xs.take i)) (gS H (ps.drop (i+1)) (xs.drop (i+1)))
theorem Ca:∀{ps:List κ}{xs:List α}{i:Nat}{p:κ}{x:α}{F:Nat->Prop},(gS H ps xs).p w F->ps[i]?=some p->xs[i]?=some x->(sep (H p x) (nB H ps xs i)).p w F
 | p'::ps,x'::xs,0,p,x,F,h,hp,hx=>by
  rw[List.getElem?_cons_zero]at hp hx
  obtain rfl:=Option.some.inj hp
  obtain rfl:=Option.some.inj hx
  obtain⟨F1,F2,h1,h2,h3,h4⟩:=h
  exact⟨F1,F2,h1,⟨aY,F2,λ _ h=>h,h2,λ _ h=>h.elim,λ b=>⟨.inr,λ h=>h.elim (λ h=>h.elim) id⟩⟩,h3,h4⟩
 | p'::ps,x'::xs,i+1,p,x,F,h,hp,hx=>by
  rw[List.getElem?_cons_succ]at hp hx
  obtain⟨F1,F2,h1,h2,h3,h4⟩:=h
  obtain⟨G1,G2,g1,⟨K1,K2,k1,k2,k3,k4⟩,g3,g4⟩:=Ca h2 hp hx
  refine⟨G1,λ b=>F1 b\/G2 b,g1,⟨λ b=>F1 b\/K1 b,K2,⟨F1,K1,h1,k1,λ b hb hk=>h3 b hb ((g4 b).2 (.inr ((k4 b).2 (.inl hk)))),λ b=>Iff.rfl⟩,k2,?_,?_⟩,?_,?_⟩
  ·grind
  ·grind
  ·grind
  grind
 | [],[],_,_,_,_,_,hp,_=>by simp at hp
 | [],_::_,_,_,_,_,h,_,_=>h.1.elim
 | _::_,[],_,_,_,_,h,_,_=>h.1.elim
theorem Bn:∀{ps:List κ}{xs:List α}{i:Nat}{p:κ}{x:α}{F:Nat->Prop},i<xs.length->ps.length=xs.length->(sep (H p x) (nB H ps xs i)).p w F->(gS H (ps.set i p) (xs.set i x)).p w F
 | p'::ps,x'::xs,0,p,x,F,_,_,h=>by
  obtain⟨F1,F2,h1,⟨K1,K2,k1,k2,k3,k4⟩,h3,h4⟩:=h
  refine⟨F1,F2,h1,?_,h3,h4⟩
  have e:F2=K2:=funext λ b=>propext ((k4 b).trans ⟨λ h=>h.elim (λ h=>(k1 b h).elim) id,.inr⟩)
  grind
 | p'::ps,x'::xs,i+1,p,x,F,hi,hl,h=>by
  obtain⟨G1,G2,g1,⟨K1,K2,⟨F1,M1,f1,m1,f3,f4⟩,k2,k3,k4⟩,g3,g4⟩:=h
  refine⟨F1,λ b=>G1 b\/(M1 b\/K2 b),f1,Bn (by grind) (by grind) ⟨G1,λ b=>M1 b\/K2 b,g1,⟨M1,K2,m1,k2,λ b hb hk=>k3 b ((f4 b).2 (.inr hb)) hk,λ b=>Iff.rfl⟩,?_,λ b=>Iff.rfl⟩,?_,?_⟩
  ·grind
  ·grind
  grind
 | [],_::_,_,_,_,_,_,hl,_=>by simp at hl
 | _,[],_,_,_,_,hi,_,_=>by simp at hi
theorem mM{β:Type}:∀{ps:List β}{i:Nat}{p:β},ps[i]?=some p->ps.set i p=ps
 | [],_,_,h=>by simp at h
 | y::ps,0,p,h=>by grind
 | y::ps,i+1,p,h=>by rw[List.getElem?_cons_succ]at h;rw[List.set_cons_succ,mM h]
theorem Ob{ps:List κ}{xs:List α}{i:Nat}{p:κ}{x:α}{F:Nat->Prop}(hi:i<xs.length)(hl:ps.length=xs.length)(hp:ps[i]?=some p)(h:(sep (H p x) (nB H ps xs i)).p w F):(gS H ps (xs.set i x)).p w F:=by
 have:=Bn hi hl h;rwa [mM hp]at this
theorem GG:∀{ps qs:List κ}{xs ys:List α}{F:Nat->Prop},(sep (gS H ps xs) (gS H qs ys)).p w F->(gS H (ps++qs) (xs++ys)).p w F
 | [],qs,[],ys,F,⟨F1,F2,h1,h2,_,h4⟩=>by
  have:F=F2:=funext λ b=>propext ((h4 b).trans ⟨λ h=>h.elim (λ h=>(h1 b h).elim) id,.inr⟩)
  grind
 | p::ps,qs,x::xs,ys,F,⟨F1,F2,⟨G1,G2,g1,g2,g3,g4⟩,h2,h3,h4⟩=>by
  refine⟨G1,λ b=>G2 b\/F2 b,g1,GG ⟨G2,F2,g2,h2,λ b hb=>h3 b ((g4 b).2 (.inr hb)),λ b=>Iff.rfl⟩,λ b hb=>?_,λ b=>by grind⟩
  grind
 | [],_,_::_,_,_,⟨_,_,h,_⟩=>h.1.elim
 | _::_,_,[],_,_,⟨_,_,h,_⟩=>h.1.elim
theorem St.focus{ps:List κ}{xs:List α}{i:Nat}{p:κ}{x:α}(hs:St w0 A (gS H ps xs::L) w)(hp:ps[i]?=some p)(hx:xs[i]?=some x):St w0 A (H p x::nB H ps xs i::L) w:=
 (hs.qW (H':=sep (H p x) (nB H ps xs i)) λ F hF=>⟨F,Ca hF hp hx,λ b hb=>.inl hb,gq.refl _ _⟩).split
theorem St.CV{ps:List κ}{xs:List α}{i:Nat}{p:κ}{x:α}(hs:St w0 A (H p x::nB H ps xs i::L) w)(hi:i<xs.length)(hl:ps.length=xs.length)(hp:ps[i]?=some p):St w0 A (gS H ps (xs.set i x)::L) w:=
 (St.join hs).qW λ F hF=>⟨F,Ob hi hl hp hF,λ b hb=>.inl hb,gq.refl _ _⟩
theorem DW:∀{ps:List κ}{xs:List α}{p:κ}{x:α}{F1 F2 F:Nat->Prop},(gS H ps xs).p w F1->(H p x).p w F2->(∀b,F1 b->¬ F2 b)->(∀b,F b↔F1 b\/F2 b)->(gS H (ps++[p]) (xs++[x])).p w F
 | [],[],p,x,F1,F2,F,h1,h2,_,h4=>⟨F2,F1,h2,h1,λ b _ JE=>h1 b JE,λ b=>by grind⟩
 | s'::ss,x'::xs,p,x,F1,F2,F,h1,h2,h3,h4=>by
  obtain⟨G1,G2,g1,g2,g3,g4⟩:=h1
  refine⟨G1,λ b=>G2 b\/F2 b,g1,DW g2 h2 (λ b hb=>h3 b ((g4 b).2 (.inr hb))) (λ b=>Iff.rfl),λ b hb=>?_,λ b=>?_⟩
  ·grind
  grind
 | [],_::_,_,_,_,_,_,h,_,_,_=>h.1.elim
 | _::_,[],_,_,_,_,_,h,_,_,_=>h.1.elim
theorem St.DX{ps:List κ}{xs:List α}{p:κ}{x:α}(hs:St w0 A (gS H ps xs::H p x::L) w):St w0 A (gS H (ps++[p]) (xs++[x])::L) w:=by
 refine(St.join hs).qW λ F hF=>?_
 obtain⟨F1,F2,h1,h2,h3,h4⟩:=hF
 exact⟨F,DW h1 h2 h3 h4,λ b hb=>.inl hb,gq.refl _ _⟩
theorem St.DY{ps:List κ}{xs:List α}{i:Nat}{p:κ}{x:α}(hs:St w0 A (H p x::nB H ps xs i::L) w)(hi:i<xs.length)(hl:ps.length=xs.length):St w0 A (gS H (ps.set i p) (xs.set i x)::L) w:=
 (St.join hs).qW λ F hF=>⟨F,Bn hi hl hF,λ b hb=>.inl hb,gq.refl _ _⟩
theorem St.S6{ps:List κ}{xs:List α}{i:Nat}(hs:St w0 A (nB H ps xs i::L) w):St w0 A (gS H (ps.eraseIdx i) (xs.eraseIdx i)::L) w:=by
 rw[List.eraseIdx_eq_take_drop_succ,List.eraseIdx_eq_take_drop_succ]
 exact hs.qW λ F hF=>⟨F,GG hF,λ b hb=>.inl hb,gq.refl _ _⟩
theorem St.ahh{ps:List κ}{xs:List α}{i:Nat}{p:κ}{x:α}{Φ:World->Prop}(hs:St w0 A (gS H ps xs::L) w)(hp:ps[i]?=some p)(hx:xs[i]?=some x)(h:∀{w F},(H p x).p w F->Φ w):Φ w:=by
 obtain⟨F,hF,_⟩:=(hs.focus hp hx).head;exact h hF
end
end Go.Fw
namespace Go.Proofs.YtpdlpabnlkofmaaGreatDoor
open Go.Fw
@[ext] structure cJ where
 name:ByteArray
 n:Int
 at_:Int
deriving DecidableEq
instance:Flat cJ where
 agg:=true
 sz:=3
 enc e:=[.string e.name,.int .i64 e.n,.int .i64 e.at_]
 val e:=.agg [.string e.name,.int .i64 e.n,.int .i64 e.at_].toArray
 pos:=by decide
 len _:=rfl
 one a v h:=by simp at h;rcases h with rfl|rfl|rfl<;>rfl
 m6 _ _:=rfl
 nn h:=by cases h
instance:Deep cJ cJ:=iC
def xz(x:cJ):Prop:=(x.name).size<=maxLen/\eR x.n/\eR x.at_
@[ext] structure bX where
 op:Int
 n:Int
 name:ByteArray
 at_:Int
deriving DecidableEq
instance:Flat bX where
 agg:=true
 sz:=4
 enc e:=[.int .i64 e.op,.int .i64 e.n,.string e.name,.int .i64 e.at_]
 val e:=.agg [.int .i64 e.op,.int .i64 e.n,.string e.name,.int .i64 e.at_].toArray
 pos:=by decide
 len _:=rfl
 one a v h:=by simp at h;rcases h with rfl|rfl|rfl|rfl<;>rfl
 m6 _ _:=rfl
 nn h:=by cases h
instance:Deep bX bX:=iC
def Ad(x:bX):Prop:=eR x.op/\eR x.n/\(x.name).size<=maxLen/\eR x.at_
structure bN where
 kind:Int
 eC:ByteArray
 name:ByteArray
 e:(List bX)
 f:(List bX)
 n:Int
 body:Int
 eo:Int
 at_:Int
deriving DecidableEq
structure aZ where
 kind:Int
 eC:ByteArray
 name:ByteArray
 e:SV
 f:SV
 n:Int
 body:Int
 eo:Int
 at_:Int
instance:Flat aZ where
 agg:=true
 sz:=9
 enc e:=[.int .i64 e.kind,.string e.eC,.string e.name,.slice e.e.a e.e.n e.e.cap,.slice e.f.a e.f.n e.f.cap,.int .i64 e.n,.int .i64 e.body,.int .i64 e.eo,.int .i64 e.at_]
 val e:=.agg [.int .i64 e.kind,.string e.eC,.string e.name,.slice e.e.a e.e.n e.e.cap,.slice e.f.a e.f.n e.f.cap,.int .i64 e.n,.int .i64 e.body,.int .i64 e.eo,.int .i64 e.at_].toArray
 pos:=by decide
 len _:=rfl
 one a v h:=by simp at h;rcases h with rfl|rfl|rfl|rfl|rfl|rfl|rfl|rfl|rfl<;>rfl
 m6 _ _:=rfl
 nn h:=by cases h
instance:Deep bN aZ where
 dr w s x:=∃(e_:SV) (f_:SV),s=(⟨x.kind,x.eC,x.name,e_,f_,x.n,x.body,x.eo,x.at_⟩:aZ)/\DL w (Flat.val e_) x.e/\DL w (Flat.val f_) x.f
 ext h e:=by
  obtain⟨g0,g1,rfl,h0,h1⟩:=h
  exact⟨g0,g1,rfl,h0.ext e,h1.ext e⟩
def Iq(x:bN):Prop:=eR x.kind/\(x.eC).size<=maxLen/\(x.name).size<=maxLen/\(∀y∈x.e,Ad y)/\(∀y∈x.f,Ad y)/\eR x.n/\eR x.body/\eR x.eo/\eR x.at_
structure cN where
 name:ByteArray
 dL:(List ByteArray)
 body:(List bN)
 at_:Int
deriving DecidableEq
structure cE where
 name:ByteArray
 dL:SV
 body:SV
 at_:Int
instance:Flat cE where
 agg:=true
 sz:=4
 enc e:=[.string e.name,.slice e.dL.a e.dL.n e.dL.cap,.slice e.body.a e.body.n e.body.cap,.int .i64 e.at_]
 val e:=.agg [.string e.name,.slice e.dL.a e.dL.n e.dL.cap,.slice e.body.a e.body.n e.body.cap,.int .i64 e.at_].toArray
 pos:=by decide
 len _:=rfl
 one a v h:=by simp at h;rcases h with rfl|rfl|rfl|rfl<;>rfl
 m6 _ _:=rfl
 nn h:=by cases h
instance:Deep cN cE where
 dr w s x:=∃(afl:SV) (afm:SV),s=(⟨x.name,afl,afm,x.at_⟩:cE)/\DL w (Flat.val afl) x.dL/\DL w (Flat.val afm) x.body
 ext h e:=by
  obtain⟨g0,g1,rfl,h0,h1⟩:=h
  exact⟨g0,g1,rfl,h0.ext e,h1.ext e⟩
def xA(x:cN):Prop:=(x.name).size<=maxLen/\(∀y∈x.dL,(λ y:ByteArray=>y.size<=maxLen) y)/\(∀y∈x.body,Iq y)/\eR x.at_
structure gG where
 e:(List bX)
 at_:Int
deriving DecidableEq
structure jr where
 e:SV
 at_:Int
instance:Flat jr where
 agg:=true
 sz:=2
 enc e:=[.slice e.e.a e.e.n e.e.cap,.int .i64 e.at_]
 val e:=.agg [.slice e.e.a e.e.n e.e.cap,.int .i64 e.at_].toArray
 pos:=by decide
 len _:=rfl
 one a v h:=by simp at h;rcases h with rfl|rfl<;>rfl
 m6 _ _:=rfl
 nn h:=by cases h
instance:Deep gG jr where
 dr w s x:=∃(e_:SV),s=(⟨e_,x.at_⟩:jr)/\DL w (Flat.val e_) x.e
 ext h e:=by
  obtain⟨g0,rfl,h0⟩:=h
  exact⟨g0,rfl,h0.ext e⟩
def DZ(x:gG):Prop:=(∀y∈x.e,Ad y)/\eR x.at_
structure cG where
 lines:(List (List cJ))
 iI:(List cJ)
 eG:(List cJ)
 threads:(List cN)
 recover:(List cN)
 dP:(List gG)
deriving DecidableEq
structure bO where
 lines:SV
 iI:SV
 eG:SV
 threads:SV
 recover:SV
 dP:SV
instance:Flat bO where
 agg:=true
 sz:=6
 enc e:=[.slice e.lines.a e.lines.n e.lines.cap,.slice e.iI.a e.iI.n e.iI.cap,.slice e.eG.a e.eG.n e.eG.cap,.slice e.threads.a e.threads.n e.threads.cap,.slice e.recover.a e.recover.n e.recover.cap,.slice e.dP.a e.dP.n e.dP.cap]
 val e:=.agg [.slice e.lines.a e.lines.n e.lines.cap,.slice e.iI.a e.iI.n e.iI.cap,.slice e.eG.a e.eG.n e.eG.cap,.slice e.threads.a e.threads.n e.threads.cap,.slice e.recover.a e.recover.n e.recover.cap,.slice e.dP.a e.dP.n e.dP.cap].toArray
 pos:=by decide
 len _:=rfl
 one a v h:=by simp at h;rcases h with rfl|rfl|rfl|rfl|rfl|rfl<;>rfl
 m6 _ _:=rfl
 nn h:=by cases h
instance:Deep cG bO where
 dr w s x:=∃(V4:SV) (afn:SV) (V5:SV) (KI:SV) (KJ:SV) (Q4:SV),s=(⟨V4,afn,V5,KI,KJ,Q4⟩:bO)/\DL w (Flat.val V4) x.lines/\DL w (Flat.val afn) x.iI/\DL w (Flat.val V5) x.eG/\DL w (Flat.val KI) x.threads/\DL w (Flat.val KJ) x.recover/\DL w (Flat.val Q4) x.dP
 ext h e:=by
  obtain⟨g0,g1,g2,g3,g4,g5,rfl,h0,h1,h2,h3,h4,h5⟩:=h
  exact⟨g0,g1,g2,g3,g4,g5,rfl,h0.ext e,h1.ext e,h2.ext e,h3.ext e,h4.ext e,h5.ext e⟩
def abM(x:cG):Prop:=(∀y∈x.lines,(λ ys:(List cJ)=>∀y∈ys,xz y) y)/\(∀y∈x.iI,xz y)/\(∀y∈x.eG,xz y)/\(∀y∈x.threads,xA y)/\(∀y∈x.recover,xA y)/\(∀y∈x.dP,DZ y)
@[ext] structure oe where
 kind:Int
 n:Int
deriving DecidableEq
instance:Flat oe where
 agg:=true
 sz:=2
 enc e:=[.int .i64 e.kind,.int .i64 e.n]
 val e:=.agg [.int .i64 e.kind,.int .i64 e.n].toArray
 pos:=by decide
 len _:=rfl
 one a v h:=by simp at h;rcases h with rfl|rfl<;>rfl
 m6 _ _:=rfl
 nn h:=by cases h
instance:Deep oe oe:=iC
structure cA where
 kind:Int
 t:Int
 i:Int
 cut:(List Int)
deriving DecidableEq
structure bF where
 kind:Int
 t:Int
 i:Int
 cut:SV
instance:Flat bF where
 agg:=true
 sz:=4
 enc e:=[.int .i64 e.kind,.int .i64 e.t,.int .i64 e.i,.slice e.cut.a e.cut.n e.cut.cap]
 val e:=.agg [.int .i64 e.kind,.int .i64 e.t,.int .i64 e.i,.slice e.cut.a e.cut.n e.cut.cap].toArray
 pos:=by decide
 len _:=rfl
 one a v h:=by simp at h;rcases h with rfl|rfl|rfl|rfl<;>rfl
 m6 _ _:=rfl
 nn h:=by cases h
instance:Deep cA bF where
 dr w s x:=∃(am2:SV),s=(⟨x.kind,x.t,x.i,am2⟩:bF)/\DL w (Flat.val am2) x.cut
 ext h e:=by
  obtain⟨g0,rfl,h0⟩:=h
  exact⟨g0,rfl,h0.ext e⟩
def abN(x:cA):Prop:=eR x.kind/\eR x.t/\eR x.i/\(∀y∈x.cut,eR y)
@[ext] structure bU where
 kind:Int
 t:Int
 a:Int
 n:Int
 m:Int
deriving DecidableEq
instance:Flat bU where
 agg:=true
 sz:=5
 enc e:=[.int .i64 e.kind,.int .i64 e.t,.int .i64 e.a,.int .i64 e.n,.int .i64 e.m]
 val e:=.agg [.int .i64 e.kind,.int .i64 e.t,.int .i64 e.a,.int .i64 e.n,.int .i64 e.m].toArray
 pos:=by decide
 len _:=rfl
 one a v h:=by simp at h;rcases h with rfl|rfl|rfl|rfl|rfl<;>rfl
 m6 _ _:=rfl
 nn h:=by cases h
instance:Deep bU bU:=iC
@[ext] structure gT where
 bZ:Int
 fault:Int
 t:Int
 done:Bool
 stuck:Bool
deriving DecidableEq
instance:Flat gT where
 agg:=true
 sz:=5
 enc e:=[.int .i64 e.bZ,.int .i64 e.fault,.int .i64 e.t,.bool e.done,.bool e.stuck]
 val e:=.agg [.int .i64 e.bZ,.int .i64 e.fault,.int .i64 e.t,.bool e.done,.bool e.stuck].toArray
 pos:=by decide
 len _:=rfl
 one a v h:=by simp at h;rcases h with rfl|rfl|rfl|rfl|rfl<;>rfl
 m6 _ _:=rfl
 nn h:=by cases h
instance:Deep gT gT:=iC
@[ext] structure bH where
 kind:Int
 line:Int
 cell:Int
 n:Int
deriving DecidableEq
instance:Flat bH where
 agg:=true
 sz:=4
 enc e:=[.int .i64 e.kind,.int .i64 e.line,.int .i64 e.cell,.int .i64 e.n]
 val e:=.agg [.int .i64 e.kind,.int .i64 e.line,.int .i64 e.cell,.int .i64 e.n].toArray
 pos:=by decide
 len _:=rfl
 one a v h:=by simp at h;rcases h with rfl|rfl|rfl|rfl<;>rfl
 m6 _ _:=rfl
 nn h:=by cases h
instance:Deep bH bH:=iC
@[ext] structure bR where
 kind:Int
 text:ByteArray
 n:Int
 at_:Int
deriving DecidableEq
instance:Flat bR where
 agg:=true
 sz:=4
 enc e:=[.int .i64 e.kind,.string e.text,.int .i64 e.n,.int .i64 e.at_]
 val e:=.agg [.int .i64 e.kind,.string e.text,.int .i64 e.n,.int .i64 e.at_].toArray
 pos:=by decide
 len _:=rfl
 one a v h:=by simp at h;rcases h with rfl|rfl|rfl|rfl<;>rfl
 m6 _ _:=rfl
 nn h:=by cases h
instance:Deep bR bR:=iC
@[ext] structure mN where
 line:Int
 cell:Int
 n:Int
deriving DecidableEq
instance:Flat mN where
 agg:=true
 sz:=3
 enc e:=[.int .i64 e.line,.int .i64 e.cell,.int .i64 e.n]
 val e:=.agg [.int .i64 e.line,.int .i64 e.cell,.int .i64 e.n].toArray
 pos:=by decide
 len _:=rfl
 one a v h:=by simp at h;rcases h with rfl|rfl|rfl<;>rfl
 m6 _ _:=rfl
 nn h:=by cases h
instance:Deep mN mN:=iC
@[ext] structure j4 where
 cell:Int
 n:Int
deriving DecidableEq
instance:Flat j4 where
 agg:=true
 sz:=2
 enc e:=[.int .i64 e.cell,.int .i64 e.n]
 val e:=.agg [.int .i64 e.cell,.int .i64 e.n].toArray
 pos:=by decide
 len _:=rfl
 one a v h:=by simp at h;rcases h with rfl|rfl<;>rfl
 m6 _ _:=rfl
 nn h:=by cases h
instance:Deep j4 j4:=iC
structure Q5 where
 of:SV
 dV:SV
 l:SV
 k:SV
 w:SV
instance:Flat Q5 where
 agg:=true
 sz:=5
 enc e:=[.slice e.of.a e.of.n e.of.cap,.slice e.dV.a e.dV.n e.dV.cap,.slice e.l.a e.l.n e.l.cap,.slice e.k.a e.k.n e.k.cap,.slice e.w.a e.w.n e.w.cap]
 val e:=.agg [.slice e.of.a e.of.n e.of.cap,.slice e.dV.a e.dV.n e.dV.cap,.slice e.l.a e.l.n e.l.cap,.slice e.k.a e.k.n e.k.cap,.slice e.w.a e.w.n e.w.cap].toArray
 pos:=by decide
 len _:=rfl
 one a v h:=by simp at h;rcases h with rfl|rfl|rfl|rfl|rfl<;>rfl
 m6 _ _:=rfl
 nn h:=by cases h
def Ir(p:Bool):Int:=if p then 1 else 0
def D0(a b:Int):Int:=A1 (a.tdiv b)
def xU(op a:Int):Int:=if op=3 then A1 (0-a)else if op=4 then Ir (decide (a=0))else 0
def FW(op:Int):Int:=if op=3\/op=4 then 0 else 1
def lx(op a b:Int):Int:=
 if op=5 then A1 (a+b)else if op=6 then A1 (a-b)else if op=7 then A1 (a*b)else if op=8 then D0 a b else if op=9 then a.tmod b
 else if op=10 then Ir (decide (a=b))else if op=11 then Ir (decide (¬ a=b))else if op=12 then Ir (decide (a<b))else if op=13 then Ir (decide (a<=b))
 else if op=14 then Ir (decide (¬ a=0)&&decide (¬ b=0))else if op=15 then Ir (decide (¬ a=0)||decide (¬ b=0))else 0
def gp(op b:Int):Int:=if op<5\/15<op then 1 else if (op=8\/op=9)/\b=0 then 12 else 0
def gl(op a b:Int):Int:=if gp op b=0 then lx op a b else 0
theorem Bo:D0 (-9223372036854775808) (-1) = -9223372036854775808:=by decide
theorem abO{a b:Int}(ha : -9223372036854775808<=a/\a<=9223372036854775807)(hb : -9223372036854775808<=b/\b<=9223372036854775807)(h0:b≠0):A1 (a-A1 (b*D0 a b))=a.tmod b:=by
 have h1:=Int.mul_tdiv_add_tmod a b
 by_cases hc:a = -9223372036854775808/\b = -1
 ·obtain⟨rfl,rfl⟩:=hc
  decide
 have hq : -9223372036854775808<=a.tdiv b/\a.tdiv b<=9223372036854775807:=by
  have h2:(a.tdiv b).natAbs<=a.natAbs:=by rw[Int.natAbs_tdiv];exact Nat.div_le_self _ _
  by_cases hm:a = -9223372036854775808
  ·subst hm
   have JE:b≠-1:=λ h=>hc ⟨rfl,h⟩
   by_cases hb2:b=1
   ·grind
   ·have h3:(Int.tdiv (-9223372036854775808) b).natAbs<=9223372036854775808 / 2:=by
     rw[Int.natAbs_tdiv]
     exact Nat.div_le_div_left (by omega) (by omega)
    omega
  ·omega
 have hr:(a.tmod b).natAbs<b.natAbs:=by rw[Int.natAbs_tmod];exact Nat.mod_lt _ (by omega)
 unfold D0
 rw[yL hq]
 have hm:b*a.tdiv b=a-a.tmod b:=by omega
 have hs:(a.tmod b).natAbs<=a.natAbs:=by rw[Int.natAbs_tmod];exact Nat.mod_le _ _
 have hsg:(0<=a->0<=a.tmod b):=λ h=>Int.tmod_nonneg b h
 have aut:(a<=0->a.tmod b<=0):=λ h=>by
  have:=Int.tmod_nonneg (a:=-a) b (by omega)
  rw[Int.neg_tmod]at this;omega
 have hbd:(-9223372036854775808<=a-a.tmod b/\a-a.tmod b<=9223372036854775807)/\-9223372036854775808<=a.tmod b/\a.tmod b<=9223372036854775807:=by
  rcases Int.le_total 0 a with h|h
  ·have:=hsg h;omega
  ·have:=aut h;omega
 rw[hm,yL hbd.1,show a-(a-a.tmod b)=a.tmod b from by omega,yL hbd.2]
theorem C305(p:Bool)(w:World):CR 305 [.bool p] w (λ v w'=>v=.int .i64 (Ir p)/\Ext w w'):=by
 have hs:=St.start w;refine eS Tryz.func305 ?_;refine aW (λ D1=>?_) (λ D1=>?_)
 ·rw[D1];exact⟨rfl,hs.aF⟩
 rw[D1];exact⟨rfl,hs.aF⟩
theorem C302(p:Bool)(w:World):CR 302 [.bool p] w (λ v w'=>v=.int .i64 (Ir p)/\Ext w w'):=by
 have hs:=St.start w;refine eS Tryz.func302 ?_;refine aW (λ D1=>?_) (λ D1=>?_)
 ·rw[D1];exact⟨rfl,hs.aF⟩
 rw[D1];exact⟨rfl,hs.aF⟩
theorem C303(a:Int)(w:World):CR 303 [.int .i64 a] w (λ v w'=>v=.bool (decide (¬ a=0))/\Ext w w'):=by
 have hs:=St.start w;refine eS Tryz.func303 ?_;exact bV ⟨rfl,hs.aF⟩
theorem C306(a b:Int)(w:World)(h:b≠0):CR 306 [.int .i64 a,.int .i64 b] w (λ v w'=>v=.int .i64 (D0 a b)/\Ext w w'):=by
 have hs:=St.start w;refine eS Tryz.func306 ?_;refine⟨_,?_,λ _ _ h=>h⟩;refine aH (aC (λ pk=>?_) (λ pk=>?_))
 ·refine aH ?_;intro sK;refine aC (λ gL=>?_) (λ gL=>?_)
  ·first|exact⟨rfl,hs.aF⟩|(exfalso;simp_all;done)|(rw[pk,gL,Bo];exact⟨rfl,hs.aF⟩)
  refine DU h ?_
  first|exact⟨rfl,hs.aF⟩|(exfalso;simp_all;done)|(rw[pk,gL,Bo];exact⟨rfl,hs.aF⟩)
 intro sK;refine fm (DU h ?_)
 first|exact⟨rfl,hs.aF⟩|(exfalso;simp_all;done)|(rw[pk,gL,Bo];exact⟨rfl,hs.aF⟩)
theorem C274(op a:Int)(w:World):CR 274 [.int .i64 op,.int .i64 a] w (λ v w'=>v=.tuple #[.int .i64 (xU op a),.int .i64 (FW op)]/\Ext w w'):=by
 have hs:=St.start w;refine eS Tryz.func274 ?_;refine aH (aC (λ gH=>?_) (λ gH=>aH (aC (λ ju=>?_) (λ ju=>?_))))
 ·refine z9 ?_;unfold xU FW
  first|(rw[if_pos gH,if_pos (.inl gH)];exact⟨rfl,hs.aF⟩)|(rw[if_neg gH,if_pos ju,if_pos (.inr ju)];exact⟨rfl,hs.aF⟩)|(rw[if_neg gH,if_neg ju,if_neg (by omega)];exact⟨rfl,hs.aF⟩)
 ·refine aH (aT zM hs (C305 _ _) (λ _ he hs=>?_));unfold xU FW
  first|(rw[if_pos gH,if_pos (.inl gH)];exact⟨rfl,hs.aF⟩)|(rw[if_neg gH,if_pos ju,if_pos (.inr ju)];exact⟨rfl,hs.aF⟩)|(rw[if_neg gH,if_neg ju,if_neg (by omega)];exact⟨rfl,hs.aF⟩)
 unfold xU FW
 first|(rw[if_pos gH,if_pos (.inl gH)];exact⟨rfl,hs.aF⟩)|(rw[if_neg gH,if_pos ju,if_pos (.inr ju)];exact⟨rfl,hs.aF⟩)|(rw[if_neg gH,if_neg ju,if_neg (by omega)];exact⟨rfl,hs.aF⟩)
theorem C269(op a:Int)(w:World):CR 269 [.int .i64 op,.int .i64 a] w (λ v w'=>v=.tuple #[.int .i64 (xU op a),.int .i64 (FW op)]/\Ext w w'):=by
 have hs:=St.start w;refine eS Tryz.func269 ?_;refine aH (aC (λ fL=>?_) (λ fL=>aH (aC (λ mR=>?_) (λ mR=>?_))))
 ·refine V0 ?_;unfold xU FW
  first|(rw[if_pos fL,if_pos (.inl fL)];exact⟨rfl,hs.aF⟩)|(rw[if_neg fL,if_pos mR,if_pos (.inr mR)];exact⟨congrArg (λ p=>Value.tuple #[.int .i64 (Ir p),.int .i64 0]) (by simp),hs.aF⟩)|(rw[if_neg fL,if_neg mR,if_neg (by omega)];exact⟨rfl,hs.aF⟩)
 ·refine aT J6 hs (C303 _ _) (λ _ he hs=>?_)
  first|refine J9 ?_|refine bQ ?_
  refine aT Vr hs (C302 _ _) (λ _ he hs=>?_);unfold xU FW
  first|(rw[if_pos fL,if_pos (.inl fL)];exact⟨rfl,hs.aF⟩)|(rw[if_neg fL,if_pos mR,if_pos (.inr mR)];exact⟨congrArg (λ p=>Value.tuple #[.int .i64 (Ir p),.int .i64 0]) (by simp),hs.aF⟩)|(rw[if_neg fL,if_neg mR,if_neg (by omega)];exact⟨rfl,hs.aF⟩)
 unfold xU FW
 first|(rw[if_pos fL,if_pos (.inl fL)];exact⟨rfl,hs.aF⟩)|(rw[if_neg fL,if_pos mR,if_pos (.inr mR)];exact⟨congrArg (λ p=>Value.tuple #[.int .i64 (Ir p),.int .i64 0]) (by simp),hs.aF⟩)|(rw[if_neg fL,if_neg mR,if_neg (by omega)];exact⟨rfl,hs.aF⟩)
theorem C275(op a b:Int)(w:World)(ha:eR a)(hb:eR b):CR 275 [.int .i64 op,.int .i64 a,.int .i64 b] w (λ v w'=>v=.tuple #[.int .i64 (gl op a b),.int .i64 (gp op b)]/\Ext w w'):=by
 have hs:=St.start w;refine abo _ _ _ _ _ ?_;unfold S275;refine aH (aC (λ gL=>?_) (λ gL=>?_))
 ·refine uo ?_
  first|(unfold gl gp;rw[if_pos (show op<5\/15<op by omega)];exact⟨rfl,hs.aF⟩)|(subst_vars;first|exact⟨rfl,hs.aF⟩|(unfold gl gp lx;simp_all<;>exact hs.aF))
 refine aH (aC (λ ji=>?_) (λ ji=>aH (aC (λ og=>?_) (λ og=>aH (aC (λ jw=>aH (aC (λ ly=>?_) (λ ly=>?_))) (λ jw=>aH (aC (λ jW=>aH (aC (λ lz=>?_) (λ lz=>?_))) (λ jW=>aH (aC (λ vy=>?_) (λ vy=>?_))))))))))
 ·refine z9 ?_
  first|(unfold gl gp;rw[if_pos (show op<5\/15<op by omega)];exact⟨rfl,hs.aF⟩)|(subst_vars;first|exact⟨rfl,hs.aF⟩|(unfold gl gp lx;simp_all<;>exact hs.aF))
 ·refine wx ?_
  first|(unfold gl gp;rw[if_pos (show op<5\/15<op by omega)];exact⟨rfl,hs.aF⟩)|(subst_vars;first|exact⟨rfl,hs.aF⟩|(unfold gl gp lx;simp_all<;>exact hs.aF))
 ·first|(unfold gl gp;rw[if_pos (show op<5\/15<op by omega)];exact⟨rfl,hs.aF⟩)|(subst_vars;first|exact⟨rfl,hs.aF⟩|(unfold gl gp lx;simp_all<;>exact hs.aF))
 ·refine aT afa hs (C306 _ _ _ (ly)) (λ _ he hs=>?_)
  first|(unfold gl gp;rw[if_pos (show op<5\/15<op by omega)];exact⟨rfl,hs.aF⟩)|(subst_vars;first|exact⟨rfl,hs.aF⟩|(unfold gl gp lx;simp_all<;>exact hs.aF))
 ·first|(unfold gl gp;rw[if_pos (show op<5\/15<op by omega)];exact⟨rfl,hs.aF⟩)|(subst_vars;first|exact⟨rfl,hs.aF⟩|(unfold gl gp lx;simp_all<;>exact hs.aF))
 ·refine aT afa hs (C306 _ _ _ (lz)) (λ _ he hs=>wx (z9 ?_));rw[abO ha hb lz]
  first|(unfold gl gp;rw[if_pos (show op<5\/15<op by omega)];exact⟨rfl,hs.aF⟩)|(subst_vars;first|exact⟨rfl,hs.aF⟩|(unfold gl gp lx;simp_all<;>exact hs.aF))
 ·refine aH (aT zM hs (C305 _ _) (λ _ he hs=>?_))
  first|(unfold gl gp;rw[if_pos (show op<5\/15<op by omega)];exact⟨rfl,hs.aF⟩)|(subst_vars;first|exact⟨rfl,hs.aF⟩|(unfold gl gp lx;simp_all<;>exact hs.aF))
 refine aH (aC (λ rR=>?_) (λ rR=>aH (aC (λ Q6=>?_) (λ Q6=>aH (aC (λ afo=>?_) (λ afo=>aH (aC (λ D2=>⟨_,bV (aC (λ afp=>?_) (λ afp=>?_)),λ _ _ _ h=>h⟩) (λ D2=>aH (aC (λ am3=>⟨_,bV (aC (λ am4=>?_) (λ am4=>?_)),λ _ _ _ h=>h⟩) (λ am3=>?_))))))))))
 ·refine bV (aT zM hs (C305 _ _) (λ _ he hs=>?_))
  first|(unfold gl gp;rw[if_pos (show op<5\/15<op by omega)];exact⟨rfl,hs.aF⟩)|(subst_vars;first|exact⟨rfl,hs.aF⟩|(unfold gl gp lx;simp_all<;>exact hs.aF))
 ·refine aQ (aT zM hs (C305 _ _) (λ _ he hs=>?_))
  first|(unfold gl gp;rw[if_pos (show op<5\/15<op by omega)];exact⟨rfl,hs.aF⟩)|(subst_vars;first|exact⟨rfl,hs.aF⟩|(unfold gl gp lx;simp_all<;>exact hs.aF))
 ·refine im (aT zM hs (C305 _ _) (λ _ he hs=>?_))
  first|(unfold gl gp;rw[if_pos (show op<5\/15<op by omega)];exact⟨rfl,hs.aF⟩)|(subst_vars;first|exact⟨rfl,hs.aF⟩|(unfold gl gp lx;simp_all<;>exact hs.aF))
 ·refine bV (aT zM hs (C305 _ _) (λ _ he hs=>?_));intro sK
  first|(unfold gl gp;rw[if_pos (show op<5\/15<op by omega)];exact⟨rfl,hs.aF⟩)|(subst_vars;first|exact⟨rfl,hs.aF⟩|(unfold gl gp lx;simp_all<;>exact hs.aF))
 ·refine aT zM hs (C305 _ _) (λ _ he hs=>?_);intro sK
  first|(unfold gl gp;rw[if_pos (show op<5\/15<op by omega)];exact⟨rfl,hs.aF⟩)|(subst_vars;first|exact⟨rfl,hs.aF⟩|(unfold gl gp lx;simp_all<;>exact hs.aF))
 ·refine aT zM hs (C305 _ _) (λ _ he hs=>?_);intro vz
  first|(unfold gl gp;rw[if_pos (show op<5\/15<op by omega)];exact⟨rfl,hs.aF⟩)|(subst_vars;first|exact⟨rfl,hs.aF⟩|(unfold gl gp lx;simp_all<;>exact hs.aF))
 ·refine bV (aT zM hs (C305 _ _) (λ _ he hs=>?_));intro vz
  first|(unfold gl gp;rw[if_pos (show op<5\/15<op by omega)];exact⟨rfl,hs.aF⟩)|(subst_vars;first|exact⟨rfl,hs.aF⟩|(unfold gl gp lx;simp_all<;>exact hs.aF))
 first|(unfold gl gp;rw[if_pos (show op<5\/15<op by omega)];exact⟨rfl,hs.aF⟩)|(subst_vars;first|exact⟨rfl,hs.aF⟩|(unfold gl gp lx;simp_all<;>exact hs.aF))
theorem rS:ahg Tryz.prog 348 16 288:=⟨by kernel_rfl,by kernel_rfl⟩
def am5(b1 b2 b3 b4 b5 b6:Nat)(w:World):Prop:=
 Cell w b1 0 (.func (.func 329) #[] #[])/\Cell w b2 0 (.func (.func 330) #[] #[])/\Cell w b3 0 (.func (.func 331) #[] #[])/\Cell w b4 0 (.func (.func 332) #[] #[])/\Cell w b5 0 (.func (.func 333) #[] #[])/\Cell w b6 0 (.func (.func 334) #[] #[])
def opsV(b1 b2 b3 b4 b5 b6:Nat):Value:=
 .agg [.nilFunc,.nilFunc,.nilFunc,.nilFunc,.nilFunc,.func (.func 324) #[] #[],.func (.func 325) #[] #[],.func (.func 326) #[] #[],.func (.func 327) #[] #[],.func (.func 328) #[] #[],
  .func (.func 323) #[] #[.pointer (some ⟨b1,0,none⟩)],.func (.func 323) #[] #[.pointer (some ⟨b2,0,none⟩)],.func (.func 323) #[] #[.pointer (some ⟨b3,0,none⟩)],.func (.func 323) #[] #[.pointer (some ⟨b4,0,none⟩)],
  .func (.func 323) #[] #[.pointer (some ⟨b5,0,none⟩)],.func (.func 323) #[] #[.pointer (some ⟨b6,0,none⟩)]].toArray
def Fb2(f:Value)(g:Int->Int->Bool):Prop:=∃g0,f=.func (.func g0) #[] #[]/\Plain Tryz.prog g0/\
 ∀a b w1,Calls Tryz.prog g0 [.int .i64 a,.int .i64 b].toArray w1 (tX λ v w2=>v=.bool (g a b)/\Ext w1 w2)
theorem C324(a b:Int)(w:World):CR 324 [.int .i64 a,.int .i64 b] w (λ v w'=>v=.int .i64 (A1 (a+b))/\Ext w w'):=by
 have hs:=St.start w;refine eS Tryz.func324 ?_;exact uo ⟨rfl,hs.aF⟩
theorem C325(a b:Int)(w:World):CR 325 [.int .i64 a,.int .i64 b] w (λ v w'=>v=.int .i64 (A1 (a-b))/\Ext w w'):=by
 have hs:=St.start w;refine eS Tryz.func325 ?_;exact z9 ⟨rfl,hs.aF⟩
theorem C326(a b:Int)(w:World):CR 326 [.int .i64 a,.int .i64 b] w (λ v w'=>v=.int .i64 (A1 (a*b))/\Ext w w'):=by
 have hs:=St.start w;refine eS Tryz.func326 ?_;exact wx ⟨rfl,hs.aF⟩
theorem C327(a b:Int)(w:World)(h:b≠0):CR 327 [.int .i64 a,.int .i64 b] w (λ v w'=>v=.int .i64 (D0 a b)/\Ext w w'):=by
 have hs:=St.start w;refine eS Tryz.func327 ?_;exact DU h ⟨rfl,hs.aF⟩
theorem C328(a b:Int)(w:World)(h:b≠0):CR 328 [.int .i64 a,.int .i64 b] w (λ v w'=>v=.int .i64 (a.tmod b)/\Ext w w'):=by
 have hs:=St.start w;refine eS Tryz.func328 ?_;exact V1 h ⟨rfl,hs.aF⟩
theorem C329(a b:Int)(w:World):CR 329 [.int .i64 a,.int .i64 b] w (λ v w'=>v=.bool (decide (a=b))/\Ext w w'):=by
 have hs:=St.start w;refine eS Tryz.func329 ?_;exact aH ⟨rfl,hs.aF⟩
theorem C330(a b:Int)(w:World):CR 330 [.int .i64 a,.int .i64 b] w (λ v w'=>v=.bool (decide (¬ a=b))/\Ext w w'):=by
 have hs:=St.start w;refine eS Tryz.func330 ?_;exact bV ⟨rfl,hs.aF⟩
theorem C331(a b:Int)(w:World):CR 331 [.int .i64 a,.int .i64 b] w (λ v w'=>v=.bool (decide (a<b))/\Ext w w'):=by
 have hs:=St.start w;refine eS Tryz.func331 ?_;exact aQ ⟨rfl,hs.aF⟩
theorem C332(a b:Int)(w:World):CR 332 [.int .i64 a,.int .i64 b] w (λ v w'=>v=.bool (decide (a<=b))/\Ext w w'):=by
 have hs:=St.start w;refine eS Tryz.func332 ?_;exact im ⟨rfl,hs.aF⟩
theorem C333(a b:Int)(w:World):CR 333 [.int .i64 a,.int .i64 b] w (λ v w'=>v=.bool (decide (¬ a=0)&&decide (¬ b=0))/\Ext w w'):=by
 have hs:=St.start w;refine eS Tryz.func333 ?_;refine⟨_,?_,λ _ _ h=>h⟩;refine aT J6 hs (C303 _ _) (λ _ he hs=>aC (λ pk=>?_) (λ pk=>?_))
 ·refine aT J6 hs (C303 _ _) (λ _ he hs=>?_);intro sK
  first|(rw[decide_eq_true pk];exact⟨rfl,hs.aF⟩)|(rw[decide_eq_false pk];exact⟨rfl,hs.aF⟩)
 intro sK
 first|(rw[decide_eq_true pk];exact⟨rfl,hs.aF⟩)|(rw[decide_eq_false pk];exact⟨rfl,hs.aF⟩)
theorem C334(a b:Int)(w:World):CR 334 [.int .i64 a,.int .i64 b] w (λ v w'=>v=.bool (decide (¬ a=0)||decide (¬ b=0))/\Ext w w'):=by
 have hs:=St.start w;refine eS Tryz.func334 ?_;refine⟨_,?_,λ _ _ h=>h⟩;refine aT J6 hs (C303 _ _) (λ _ he hs=>aC (λ pk=>?_) (λ pk=>?_))
 ·intro sK
  first|(rw[decide_eq_true pk];exact⟨rfl,hs.aF⟩)|(rw[decide_eq_false pk];exact⟨rfl,hs.aF⟩)
 refine aT J6 hs (C303 _ _) (λ _ he hs=>?_);intro sK
 first|(rw[decide_eq_true pk];exact⟨rfl,hs.aF⟩)|(rw[decide_eq_false pk];exact⟨rfl,hs.aF⟩)
theorem C322(g:Nat)(w:World):CR 322 [.func (.func g) #[] #[]] w (λ v w'=>∃b,v=.func (.func 323) #[] #[.pointer (some ⟨b,0,none⟩)]/\lL (bY b [.func (.func g) #[] #[]]) w w'):=by
 have hs:=St.start w;refine eS Tryz.func322 ?_;exact nj hs rfl (λ am6 _ hs=>⟨am6,rfl,hs.fresh⟩)
theorem C323(a b:Int)(b2:Nat)(fv:Value)(g:Int->Int->Bool)(w:World)(hc:Cell w b2 0 fv)(hf:Fb2 fv g):CR 323 [.int .i64 a,.int .i64 b,.pointer (some ⟨b2,0,none⟩)] w (λ v w'=>v=.int .i64 (Ir (g a b))/\Ext w w'):=by
 obtain⟨g0,rfl,oZ,jT⟩:=hf;have hs:=St.start w;refine eS Tryz.func323 ?_;refine bM amZ (hc.ext hs.aF) (gK (first:=[]) (cap:=[]) oZ (jT a b _) ?_);rintro _ _ ⟨rfl,he⟩;have hs:=hs.ext he;exact aT Vr hs (C302 _ _) (λ _ _ hs=>⟨rfl,hs.aF⟩)
theorem C304(w:World):CR 304 [] w (λ v w'=>∃b1 b2 b3 b4 b5 b6,v=opsV b1 b2 b3 b4 b5 b6/\lL (fk (am5 b1 b2 b3 b4 b5 b6)) w w'):=by
 have hs:=St.start w;refine abr _ _ ?_;unfold S304;refine aM hs Q0 (λ b_x0 _ hs=>aM hs Q0 (λ b_l1 _ hs=>km rS (by omega) (by omega) (aS hs wo (dI rfl) (rfl) (λ _ hs=>km rS (by omega) (by omega) (aS hs wo (dI rfl) (rfl) (λ _ hs=>km rS (by omega) (by omega) (aS hs wo (dI rfl) (rfl) (λ _ hs=>km rS (by omega) (by omega) (aS hs wo (dI rfl) (rfl) (λ _ hs=>km rS (by omega) (by omega) (aS hs wo (dI rfl) (rfl) (λ _ hs=>gK (first:=[]) (cap:=[]) Gs (C322 329 _) ?_))))))))))));rintro _ _ ⟨Bp,rfl,cO⟩;have hs:=hs.made cO;refine km rS (by omega) (by omega) (aS hs.p1 wo (dI rfl) (rfl) (λ _ hs=>gK (first:=[]) (cap:=[]) Gs (C322 330 _) ?_))
 rintro _ _ ⟨V6,rfl,cO⟩;have hs:=hs.made cO;refine km rS (by omega) (by omega) (aS hs.p1 wo (dI rfl) (rfl) (λ _ hs=>gK (first:=[]) (cap:=[]) Gs (C322 331 _) ?_));rintro _ _ ⟨afq,rfl,cO⟩;have hs:=hs.made cO;refine km rS (by omega) (by omega) (aS hs.p1 wo (dI rfl) (rfl) (λ _ hs=>gK (first:=[]) (cap:=[]) Gs (C322 332 _) ?_));rintro _ _ ⟨afr,rfl,cO⟩;have hs:=hs.made cO;refine km rS (by omega) (by omega) (aS hs.p1 wo (dI rfl) (rfl) (λ _ hs=>gK (first:=[]) (cap:=[]) Gs (C322 333 _) ?_));rintro _ _ ⟨afs,rfl,cO⟩;have hs:=hs.made cO;refine km rS (by omega) (by omega) (aS hs.p1 wo (dI rfl) (rfl) (λ _ hs=>gK (first:=[]) (cap:=[]) Gs (C322 334 _) ?_))
 rintro _ _ ⟨Q7,rfl,cO⟩;have hs:=hs.made cO;refine km rS (by omega) (by omega) (aS hs.p1 wo (dI rfl) (rfl) (λ _ hs=>Ka VM hs.hb rfl (DC hs.p7 VM rfl (by decide) (by simp[uV,iX]) (λ _ hs=>Ka VM hs.hb rfl ?_))));have hs:=(((((((((((((hs.drop)).drop).p1).p2).p3).p4).p5).rp).p1).rp).p2).rp).p3;have hs:=hs.rp.p4.rp.p5.rp.gR.gR.gR.gR.gR;refine⟨Bp,V6,afq,afr,afs,Q7,rfl,(hs.dU (Ψ:=am5 Bp V6 afq afr afs Q7) λ w h=>?_).fresh⟩;obtain⟨⟨⟨⟨⟨h6,h5⟩,h4⟩,h3⟩,h2⟩,h1⟩:=h;exact⟨h1.cell rfl,h2.cell rfl,h3.cell rfl,h4.cell rfl,h5.cell rfl,h6.cell rfl⟩
theorem fb1:Fb2 (.func (.func 329) #[] #[]) (λ a b=>decide (a=b)):=⟨329,rfl,amO,λ a b w1=>C329 a b w1⟩
theorem fb2:Fb2 (.func (.func 330) #[] #[]) (λ a b=>decide (¬ a=b)):=⟨330,rfl,amP,λ a b w1=>C330 a b w1⟩
theorem fb3:Fb2 (.func (.func 331) #[] #[]) (λ a b=>decide (a<b)):=⟨331,rfl,amQ,λ a b w1=>C331 a b w1⟩
theorem fb4:Fb2 (.func (.func 332) #[] #[]) (λ a b=>decide (a<=b)):=⟨332,rfl,amR,λ a b w1=>C332 a b w1⟩
theorem fb5:Fb2 (.func (.func 333) #[] #[]) (λ a b=>decide (¬ a=0)&&decide (¬ b=0)):=⟨333,rfl,amS,λ a b w1=>C333 a b w1⟩
theorem fb6:Fb2 (.func (.func 334) #[] #[]) (λ a b=>decide (¬ a=0)||decide (¬ b=0)):=⟨334,rfl,amT,λ a b w1=>C334 a b w1⟩
theorem C271(op a b:Int)(w:World):CR 271 [.int .i64 op,.int .i64 a,.int .i64 b] w (λ v w'=>v=.tuple #[.int .i64 (gl op a b),.int .i64 (gp op b)]/\Ext w w'):=by
 have hs:=St.start w;refine abn _ _ _ _ _ ?_;unfold S271;refine⟨_,?_,λ _ _ h=>h⟩;refine aQ (aC (λ gL=>?_) (λ gL=>?_))
 ·intro sK;refine ig ?_
  first|exact⟨rfl,hs.aF⟩|(subst_vars;exact⟨rfl,hs.aF⟩)|(refine⟨?_,hs.aF⟩;unfold gl gp lx;first|(rw[if_pos (show op<5\/15<op by omega)];rfl)|simp[*])
 refine cS ?_;intro sK;refine aC (λ jI=>?_) (λ jI=>?_)
 ·first|exact⟨rfl,hs.aF⟩|(subst_vars;exact⟨rfl,hs.aF⟩)|(refine⟨?_,hs.aF⟩;unfold gl gp lx;first|(rw[if_pos (show op<5\/15<op by omega)];rfl)|simp[*])
 refine dN amE (C304 _) ?_;rintro _ _ ⟨b1,b2,b3,b4,b5,b6,rfl,cO⟩;have hs:=hs.made cO;obtain rfl|rfl|rfl|rfl|rfl|rfl|rfl|rfl|rfl|rfl|rfl|rfl|rfl|rfl|rfl|rfl:op=0\/op=1\/op=2\/op=3\/op=4\/op=5\/op=6\/op=7\/op=8\/op=9\/op=10\/op=11\/op=12\/op=13\/op=14\/op=15:=by omega
 ·refine pop (v:=.nilFunc) (by kernel_rfl) (pop (v:=.bool true) (by kernel_rfl) (ig ?_))
  first|exact⟨rfl,hs.aF⟩|(subst_vars;exact⟨rfl,hs.aF⟩)|(refine⟨?_,hs.aF⟩;unfold gl gp lx;first|(rw[if_pos (show op<5\/15<op by omega)];rfl)|simp[*])
 ·refine pop (v:=.nilFunc) (by kernel_rfl) (pop (v:=.bool true) (by kernel_rfl) (ig ?_))
  first|exact⟨rfl,hs.aF⟩|(subst_vars;exact⟨rfl,hs.aF⟩)|(refine⟨?_,hs.aF⟩;unfold gl gp lx;first|(rw[if_pos (show op<5\/15<op by omega)];rfl)|simp[*])
 ·refine pop (v:=.nilFunc) (by kernel_rfl) (pop (v:=.bool true) (by kernel_rfl) (ig ?_))
  first|exact⟨rfl,hs.aF⟩|(subst_vars;exact⟨rfl,hs.aF⟩)|(refine⟨?_,hs.aF⟩;unfold gl gp lx;first|(rw[if_pos (show op<5\/15<op by omega)];rfl)|simp[*])
 ·refine pop (v:=.nilFunc) (by kernel_rfl) (pop (v:=.bool true) (by kernel_rfl) (ig ?_))
  first|exact⟨rfl,hs.aF⟩|(subst_vars;exact⟨rfl,hs.aF⟩)|(refine⟨?_,hs.aF⟩;unfold gl gp lx;first|(rw[if_pos (show op<5\/15<op by omega)];rfl)|simp[*])
 ·refine pop (v:=.nilFunc) (by kernel_rfl) (pop (v:=.bool true) (by kernel_rfl) (ig ?_))
  first|exact⟨rfl,hs.aF⟩|(subst_vars;exact⟨rfl,hs.aF⟩)|(refine⟨?_,hs.aF⟩;unfold gl gp lx;first|(rw[if_pos (show op<5\/15<op by omega)];rfl)|simp[*])
 ·refine pop (v:=.func (.func 324) #[] #[]) (by kernel_rfl) (pop (v:=.bool false) (by kernel_rfl) (fm ?_));refine⟨_,?_,λ _ _ h=>h⟩;refine aH (fE (by decide) (aH (fE (by decide) ?_)));intro vz;refine fm (gK (first:=[]) (cap:=[]) amJ (C324 a b _) ?_);rintro _ w4 ⟨rfl,he⟩;have hs:=hs.ext he
  first|exact⟨rfl,hs.aF⟩|(subst_vars;exact⟨rfl,hs.aF⟩)|(refine⟨?_,hs.aF⟩;unfold gl gp lx;first|(rw[if_pos (show op<5\/15<op by omega)];rfl)|simp[*])
 ·refine pop (v:=.func (.func 325) #[] #[]) (by kernel_rfl) (pop (v:=.bool false) (by kernel_rfl) (fm ?_));refine⟨_,?_,λ _ _ h=>h⟩;refine aH (fE (by decide) (aH (fE (by decide) ?_)));intro vz;refine fm (gK (first:=[]) (cap:=[]) amK (C325 a b _) ?_);rintro _ w4 ⟨rfl,he⟩;have hs:=hs.ext he
  first|exact⟨rfl,hs.aF⟩|(subst_vars;exact⟨rfl,hs.aF⟩)|(refine⟨?_,hs.aF⟩;unfold gl gp lx;first|(rw[if_pos (show op<5\/15<op by omega)];rfl)|simp[*])
 ·refine pop (v:=.func (.func 326) #[] #[]) (by kernel_rfl) (pop (v:=.bool false) (by kernel_rfl) (fm ?_));refine⟨_,?_,λ _ _ h=>h⟩;refine aH (fE (by decide) (aH (fE (by decide) ?_)));intro vz;refine fm (gK (first:=[]) (cap:=[]) amL (C326 a b _) ?_);rintro _ w4 ⟨rfl,he⟩;have hs:=hs.ext he
  first|exact⟨rfl,hs.aF⟩|(subst_vars;exact⟨rfl,hs.aF⟩)|(refine⟨?_,hs.aF⟩;unfold gl gp lx;first|(rw[if_pos (show op<5\/15<op by omega)];rfl)|simp[*])
 ·refine pop (v:=.func (.func 327) #[] #[]) (by kernel_rfl) (pop (v:=.bool false) (by kernel_rfl) (fm ?_));refine⟨_,?_,λ _ _ h=>h⟩;refine aH (lQ (by decide) (aH ?_));intro vz;refine aC (λ kD=>?_) (λ kD=>?_)
  ·first|exact⟨rfl,hs.aF⟩|(subst_vars;exact⟨rfl,hs.aF⟩)|(refine⟨?_,hs.aF⟩;unfold gl gp lx;first|(rw[if_pos (show op<5\/15<op by omega)];rfl)|simp[*])
  refine gK (first:=[]) (cap:=[]) amM (C327 a b _ kD) ?_;rintro _ w4 ⟨rfl,he⟩;have hs:=hs.ext he
  first|exact⟨rfl,hs.aF⟩|(subst_vars;exact⟨rfl,hs.aF⟩)|(refine⟨?_,hs.aF⟩;unfold gl gp lx;first|(rw[if_pos (show op<5\/15<op by omega)];rfl)|simp[*])
 ·refine pop (v:=.func (.func 328) #[] #[]) (by kernel_rfl) (pop (v:=.bool false) (by kernel_rfl) (fm ?_));refine⟨_,?_,λ _ _ h=>h⟩;refine aH (fE (by decide) (aH (lQ (by decide) (aH ?_))));intro vz;refine aC (λ kD=>?_) (λ kD=>?_)
  ·first|exact⟨rfl,hs.aF⟩|(subst_vars;exact⟨rfl,hs.aF⟩)|(refine⟨?_,hs.aF⟩;unfold gl gp lx;first|(rw[if_pos (show op<5\/15<op by omega)];rfl)|simp[*])
  refine gK (first:=[]) (cap:=[]) amN (C328 a b _ kD) ?_;rintro _ w4 ⟨rfl,he⟩;have hs:=hs.ext he
  first|exact⟨rfl,hs.aF⟩|(subst_vars;exact⟨rfl,hs.aF⟩)|(refine⟨?_,hs.aF⟩;unfold gl gp lx;first|(rw[if_pos (show op<5\/15<op by omega)];rfl)|simp[*])
 ·refine pop (v:=.func (.func 323) #[] #[.pointer (some ⟨b1,0,none⟩)]) (by kernel_rfl) (pop (v:=.bool false) (by kernel_rfl) (fm ?_));refine⟨_,?_,λ _ _ h=>h⟩;refine aH (fE (by decide) (aH (fE (by decide) ?_)));intro vz;refine fm ?_;obtain⟨o1,o2,o3,o4,o5,o6⟩:=hs.fk;refine gK (first:=[]) (cap:=[.pointer (some ⟨b1,0,none⟩)]) Gt (C323 a b b1 _ _ _ o1 fb1) ?_;rintro _ w4 ⟨rfl,he⟩;have hs:=hs.ext he
  first|exact⟨rfl,hs.aF⟩|(subst_vars;exact⟨rfl,hs.aF⟩)|(refine⟨?_,hs.aF⟩;unfold gl gp lx;first|(rw[if_pos (show op<5\/15<op by omega)];rfl)|simp[*])
 ·refine pop (v:=.func (.func 323) #[] #[.pointer (some ⟨b2,0,none⟩)]) (by kernel_rfl) (pop (v:=.bool false) (by kernel_rfl) (fm ?_));refine⟨_,?_,λ _ _ h=>h⟩;refine aH (fE (by decide) (aH (fE (by decide) ?_)));intro vz;refine fm ?_;obtain⟨o1,o2,o3,o4,o5,o6⟩:=hs.fk;refine gK (first:=[]) (cap:=[.pointer (some ⟨b2,0,none⟩)]) Gt (C323 a b b2 _ _ _ o2 fb2) ?_;rintro _ w4 ⟨rfl,he⟩;have hs:=hs.ext he
  first|exact⟨rfl,hs.aF⟩|(subst_vars;exact⟨rfl,hs.aF⟩)|(refine⟨?_,hs.aF⟩;unfold gl gp lx;first|(rw[if_pos (show op<5\/15<op by omega)];rfl)|simp[*])
 ·refine pop (v:=.func (.func 323) #[] #[.pointer (some ⟨b3,0,none⟩)]) (by kernel_rfl) (pop (v:=.bool false) (by kernel_rfl) (fm ?_));refine⟨_,?_,λ _ _ h=>h⟩;refine aH (fE (by decide) (aH (fE (by decide) ?_)));intro vz;refine fm ?_;obtain⟨o1,o2,o3,o4,o5,o6⟩:=hs.fk;refine gK (first:=[]) (cap:=[.pointer (some ⟨b3,0,none⟩)]) Gt (C323 a b b3 _ _ _ o3 fb3) ?_;rintro _ w4 ⟨rfl,he⟩;have hs:=hs.ext he
  first|exact⟨rfl,hs.aF⟩|(subst_vars;exact⟨rfl,hs.aF⟩)|(refine⟨?_,hs.aF⟩;unfold gl gp lx;first|(rw[if_pos (show op<5\/15<op by omega)];rfl)|simp[*])
 ·refine pop (v:=.func (.func 323) #[] #[.pointer (some ⟨b4,0,none⟩)]) (by kernel_rfl) (pop (v:=.bool false) (by kernel_rfl) (fm ?_));refine⟨_,?_,λ _ _ h=>h⟩;refine aH (fE (by decide) (aH (fE (by decide) ?_)));intro vz;refine fm ?_;obtain⟨o1,o2,o3,o4,o5,o6⟩:=hs.fk;refine gK (first:=[]) (cap:=[.pointer (some ⟨b4,0,none⟩)]) Gt (C323 a b b4 _ _ _ o4 fb4) ?_;rintro _ w4 ⟨rfl,he⟩;have hs:=hs.ext he
  first|exact⟨rfl,hs.aF⟩|(subst_vars;exact⟨rfl,hs.aF⟩)|(refine⟨?_,hs.aF⟩;unfold gl gp lx;first|(rw[if_pos (show op<5\/15<op by omega)];rfl)|simp[*])
 ·refine pop (v:=.func (.func 323) #[] #[.pointer (some ⟨b5,0,none⟩)]) (by kernel_rfl) (pop (v:=.bool false) (by kernel_rfl) (fm ?_));refine⟨_,?_,λ _ _ h=>h⟩;refine aH (fE (by decide) (aH (fE (by decide) ?_)));intro vz;refine fm ?_;obtain⟨o1,o2,o3,o4,o5,o6⟩:=hs.fk;refine gK (first:=[]) (cap:=[.pointer (some ⟨b5,0,none⟩)]) Gt (C323 a b b5 _ _ _ o5 fb5) ?_;rintro _ w4 ⟨rfl,he⟩;have hs:=hs.ext he
  first|exact⟨rfl,hs.aF⟩|(subst_vars;exact⟨rfl,hs.aF⟩)|(refine⟨?_,hs.aF⟩;unfold gl gp lx;first|(rw[if_pos (show op<5\/15<op by omega)];rfl)|simp[*])
 refine pop (v:=.func (.func 323) #[] #[.pointer (some ⟨b6,0,none⟩)]) (by kernel_rfl) (pop (v:=.bool false) (by kernel_rfl) (fm ?_));refine⟨_,?_,λ _ _ h=>h⟩;refine aH (fE (by decide) (aH (fE (by decide) ?_)));intro vz;refine fm ?_;obtain⟨o1,o2,o3,o4,o5,o6⟩:=hs.fk;refine gK (first:=[]) (cap:=[.pointer (some ⟨b6,0,none⟩)]) Gt (C323 a b b6 _ _ _ o6 fb6) ?_;rintro _ w4 ⟨rfl,he⟩;have hs:=hs.ext he
 first|exact⟨rfl,hs.aF⟩|(subst_vars;exact⟨rfl,hs.aF⟩)|(refine⟨?_,hs.aF⟩;unfold gl gp lx;first|(rw[if_pos (show op<5\/15<op by omega)];rfl)|simp[*])
theorem gz{α:Type}{l:List α}{k:Nat}{e:α}(h:l[k]?=some e):l.take k++[e]=l.take (k+1):=by rw[List.take_add_one,h];rfl
theorem dR{α:Type}{φ:α->Prop}{l:List α}{k:Nat}{e:α}(h:∀y∈l.take k,φ y)(he:l[k]?=some e)(hp:φ e):∀y∈l.take (k+1),φ y:=by
 intro y hy
 rw[<- gz he]at hy
 grind
theorem gU{α:Type}{g:α->Bool}{l:List α}{k:Nat}{e:α}(he:l[k]?=some e)(hg:g e=true):l.any g=true:=List.any_eq_true.2 ⟨e,List.mem_of_getElem? he,hg⟩
theorem il{α:Type}{g:α->Bool}{l:List α}(h:∀y∈l,g y=false):l.any g=false:=by
 grind
def rT{α:Type}(g:α->Bool)(l:List α):Int:=match l.findIdx? g with|some k=>k|none=>-1
theorem lS{α:Type}{g:α->Bool}{l:List α}{k:Nat}{e:α}(eD:∀y∈l.take k,g y=false)(he:l[k]?=some e)(hg:g e=true):rT g l=k:=by
 have:l.findIdx? g=some k:=by
  rw[List.findIdx?_eq_some_iff_getElem]
  have hk:=(List.getElem?_eq_some_iff.1 he).1
  refine⟨hk,by grind,λ j hj=>?_⟩
  have:=eD (l[j]'(by omega)) (List.mem_take_iff_getElem.2 ⟨j,by omega,rfl⟩)
  simp[this]
 unfold rT;rw[this]
theorem iU{α:Type}{g:α->Bool}{l:List α}(eD:∀y∈l,g y=false):rT g l = -1:=by
 grind[rT]
theorem kF{α:Type}(g:α->Bool)(l:List α):decide (0<=rT g l)=l.any g:=by
 grind[rT]
def vP{α:Type}[Flat α](w:World)(f:Value)(g:α->Bool):Prop:=∃g0 first cap,f=.func (.func g0) (List.toArray first) (List.toArray cap)/\Plain Tryz.prog g0/\
 ∀x w1,Ext w w1->Calls Tryz.prog g0 (first++[Flat.val x]++cap).toArray w1 (tX λ v w2=>v=.bool (g x)/\Ext w1 w2)
theorem vP.ext{α:Type}[Flat α]{w w':World}{f:Value}{g:α->Bool}(h:vP w f g)(e:Ext w w'):vP w' f g:=by
 obtain⟨g0,first,cap,h1,h2,h3⟩:=h;exact⟨g0,first,cap,h1,h2,λ x w1 e1=>h3 x w1 (e.trans e1)⟩
def eB(k:Int):Int:=if k=3\/k=4 then 1 else if 5<=k/\k<=15 then 2 else 0
def UC(st:Option (Int×Int))(x:oe):Option (Int×Int):=match st with
 | none=>none
 | some (n,h)=>if n-eB x.kind<0 then none else some (n-eB x.kind+1,max h (n-eB x.kind+1))
def ht(l:List oe):Option (Int×Int):=l.foldl UC (some (0,0))
def htN(l:List oe):Int:=match ht l with|some p=>p.1|none=>0
def htH(l:List oe):Int:=match ht l with|some p=>p.2|none=>0
theorem Ae{l:List oe}{k:Nat}{x:oe}(h:l[k]?=some x):ht (l.take (k+1))=UC (ht (l.take k)) x:=by
 unfold ht;rw[<- gz h,List.foldl_append];rfl
theorem Q8{l:List oe}{k:Nat}(h:ht (l.take k)=none):ht l=none:=by
 have key:∀m:List oe,m.foldl UC none=none:=λ m=>by induction m with|nil=>rfl|cons y m ih=>exact ih
 have e:l=l.take k++l.drop k:=(List.take_append_drop k l).symm
 grind[ht]
theorem Q9(k:Int):0<=eB k/\eB k<=2:=by
 grind[eB]
theorem ahj{l:List oe}:∀k n h,k<=l.length->ht (l.take k)=some (n,h)->0<=n/\n<=(k:Int)/\0<=h/\h<=(k:Int)
 | 0,n,h,_,e=>by
  have:ht ([]:List oe)=some (0,0):=rfl
  grind
 | k+1,n,h,hk,e=>by
  obtain⟨x,hx⟩:=gx l (i:=k) (by omega)
  rw[Ae hx]at e
  cases hp:ht (l.take k)with
  | none=>rw[hp]at e;cases e
  | some p=>
   obtain⟨a,b⟩:=p
   have ih:=ahj k a b (by omega) hp
   have hw:=Q9 x.kind
   rw[hp]at e
   unfold UC at e
   grind
theorem abP{l:List oe}{k:Nat}{x:oe}{n h m:Int}(hx:l[k]?=some x)(KK:ht (l.take k)=some (n,h))(hm:m=n-eB x.kind)(h0:¬ m<0):ht (l.take (k+1))=some (m+1,max h (m+1)):=by
 rw[Ae hx,KK];grind[UC]
theorem ahk{l:List oe}{k:Nat}{x:oe}{n h m:Int}(hx:l[k]?=some x)(KK:ht (l.take k)=some (n,h))(hm:m=n-eB x.kind)(h0:m<0):ht (l.take (k+1))=none:=by
 rw[Ae hx,KK];grind[UC]
def qK(many:Int)(x:oe):Bool:=decide ((x.kind=1/\(x.n<0\/4294967296<x.n))\/(x.kind=2/\(x.n<0\/many<=x.n))\/(¬ x.kind=1/\¬ x.kind=2/\(¬ x.n=0\/x.kind<1\/16<=x.kind)))
def mg(l:List oe)(many:Int):Bool:=decide (l.length<=40)&&(ht l).isSome&&decide (htN l=1)&&!l.any (qK many)
theorem C267(k:Int)(w:World):CR 267 [.int .i64 k] w (λ v w'=>v=.int .i64 (eB k)/\Ext w w'):=by
 have hs:=St.start w;refine eS Tryz.func267 ?_;refine⟨λ jv w'=>jv=.bool (decide (k=3\/k=4))/\w=w',aH (aC (λ _=>⟨JX (by omega),rfl⟩) (λ _=>aH ⟨xS (by omega),rfl⟩)),?_⟩;rintro _ _ ⟨rfl,hw⟩ _;subst hw;refine aC (λ Af=>?_) (λ Af=>⟨λ jv w'=>jv=.bool (decide (5<=k/\k<=15))/\w=w',cS (aC (λ _=>im ⟨xS (by omega),rfl⟩) (λ _=>⟨jvF (by omega),rfl⟩)),?_⟩)
 ·unfold eB
  first|(rw[if_pos Af];exact⟨rfl,hs.aF⟩)|(rw[if_neg Af,if_pos gL];exact⟨rfl,hs.aF⟩)|(rw[if_neg Af,if_neg gL];exact⟨rfl,hs.aF⟩)
 rintro _ _ ⟨rfl,hw⟩ _;subst hw;refine aC (λ gL=>?_) (λ gL=>?_)
 ·unfold eB
  first|(rw[if_pos Af];exact⟨rfl,hs.aF⟩)|(rw[if_neg Af,if_pos gL];exact⟨rfl,hs.aF⟩)|(rw[if_neg Af,if_neg gL];exact⟨rfl,hs.aF⟩)
 unfold eB
 first|(rw[if_pos Af];exact⟨rfl,hs.aF⟩)|(rw[if_neg Af,if_pos gL];exact⟨rfl,hs.aF⟩)|(rw[if_neg Af,if_neg gL];exact⟨rfl,hs.aF⟩)
theorem C299(sv:Value)(xs:List oe)(w:World)(hL:dC (λ _=>True) w sv xs)(hn:xs.length<=1048576):CR 299 [sv] w (λ v w'=>v=.tuple #[.int .i64 (htN xs),.int .i64 (htH xs),.bool (ht xs).isSome]/\Ext w w'):=by
 have hs:=St.start w;refine eS Tryz.func299 ?_;refine aI tc (hL.ext hs.aF) ?_;refine⟨λ m y z x w1=>∃(k:Nat) (n h:Int),y=.int .i64 n/\z=.int .i64 h/\x=.int .i64 (k:Int)/\m=xs.length-k/\k<=xs.length/\ht (xs.take k)=some (n,h)/\St w aY [] w1,⟨_,0,0,0,rfl,rfl,rfl,rfl,by omega,rfl,hs⟩,?_⟩;rintro m _ _ _ w1 ⟨k,n,h,rfl,rfl,rfl,rfl,hk,KK,hs⟩ _;refine aQ (aC (λ mR=>?_) (λ mR=>?_))
 ·obtain⟨uq,u6⟩:=gx (xs) (i:=((k:Int)).toNat) (by omega);refine aO tc (hL.ext hs.aF) (by omega) u6 (λ _ D3=>aE DH (D3) (aM hs Ij (λ S7 _ hs=>aJ (x:=uq) hs DH rfl rfl (λ _ hs=>aA nw (aB bL hs.hb rfl (aT Vo hs (C267 _ _) (λ _ he hs=>?_)))))));have hw:=Q9 uq.kind;have hhb:=ahj k n h (by omega) KK;refine fe (by omega) (aQ (aC (λ kD=>?_) (λ kD=>aK (by omega) (CU (aK (by omega) ⟨_,by omega,k+1,_,_,rfl,rfl,rfl,rfl,by omega,by rw[Ae (k:=k) u6,KK];unfold UC;simp only[];rw[if_neg kD],hs.drop⟩)))));have hz:ht xs=none:=Q8 (k:=k+1) (by rw[Ae (k:=k) u6,KK];unfold UC;simp only[];rw[if_pos kD])
  unfold htN htH;rw[hz];exact⟨rfl,hs.aF⟩
 rw[List.take_of_length_le (by omega)]at KK;unfold htN htH;rw[KK];exact⟨rfl,hs.aF⟩
theorem C298(x:oe)(b2:Nat)(many:Int)(w:World)(hc:Cell w b2 0 (.int .i64 many)):CR 298 [Flat.val x,.pointer (some ⟨b2,0,none⟩)] w (λ v w'=>v=.bool (qK many x)/\Ext w w'):=by
 have hs:=St.start w;refine eS Tryz.func298 ?_;refine cI hs (λ vQ _ hs=>aA nw (aB bL hs.hb rfl (aH (aC (λ gH=>⟨_,aA qc (aB bL hs.hb rfl (aQ (aC (λ gL=>?_) (λ gL=>?_)))),λ _ _ h=>h⟩) (λ gH=>aA nw (aB bL hs.hb rfl (aH (aC (λ eQ=>⟨_,aA qc (aB bL hs.hb rfl (aQ (aC (λ iF=>?_) (λ iF=>?_)))),λ _ _ h=>h⟩) (λ eQ=>?_)))))))))
 ·intro sK;refine⟨vb ?_,hs.aF⟩;unfold qK
  first|exact(decide_eq_true (by omega)).symm|exact(decide_eq_false (by omega)).symm|exact decide_eq_decide.2 (by omega)
 ·refine aA qc (aB bL hs.hb rfl (cP ?_));intro sK;refine⟨vb ?_,hs.aF⟩;unfold qK
  first|exact(decide_eq_true (by omega)).symm|exact(decide_eq_false (by omega)).symm|exact decide_eq_decide.2 (by omega)
 ·intro vz;refine⟨vb ?_,hs.aF⟩;unfold qK
  first|exact(decide_eq_true (by omega)).symm|exact(decide_eq_false (by omega)).symm|exact decide_eq_decide.2 (by omega)
 ·refine aA qc (aB bL hs.hb rfl (bM bL (hc.ext hs.aF) (cS ?_)));intro vz;refine⟨vb ?_,hs.aF⟩;unfold qK
  first|exact(decide_eq_true (by omega)).symm|exact(decide_eq_false (by omega)).symm|exact decide_eq_decide.2 (by omega)
 refine⟨_,?_,λ _ _ h=>h⟩;refine aA qc (aB bL hs.hb rfl (bV (aC (λ lT=>?_) (λ lT=>aA nw (aB bL hs.hb rfl (aQ (aC (λ lU=>?_) (λ lU=>?_))))))))
 ·intro xB;refine⟨vb ?_,hs.aF⟩;unfold qK
  first|exact(decide_eq_true (by omega)).symm|exact(decide_eq_false (by omega)).symm|exact decide_eq_decide.2 (by omega)
 ·intro xB;refine⟨vb ?_,hs.aF⟩;unfold qK
  first|exact(decide_eq_true (by omega)).symm|exact(decide_eq_false (by omega)).symm|exact decide_eq_decide.2 (by omega)
 refine aA nw (aB bL hs.hb rfl (cS ?_));intro xB;refine⟨vb ?_,hs.aF⟩;unfold qK
 first|exact(decide_eq_true (by omega)).symm|exact(decide_eq_false (by omega)).symm|exact decide_eq_decide.2 (by omega)
theorem C321(sv fv:Value)(xs:List oe)(g:oe->Bool)(w:World)(hL:dC (λ _=>True) w sv xs)(hf:vP w fv g)(hn:xs.length<=1073741824):CR 321 [sv,fv] w (λ v w'=>v=.int .i64 (rT g xs)/\Ext w w'):=by
 obtain⟨g0,first,cap,rfl,oZ,jT⟩:=hf;have hs:=St.start w;refine eS Tryz.func321 ?_;refine aI tc (hL.ext hs.aF) ?_;refine⟨λ m x w1=>∃k:Nat,x=.int .i64 (k:Int)/\m=xs.length-k/\k<=xs.length/\(∀y∈xs.take k,g y=false)/\St w aY [] w1,⟨_,0,rfl,rfl,Nat.zero_le _,by simp,hs⟩,?_⟩;rintro m _ w1 ⟨k,rfl,rfl,hk,eD,hs⟩ _;refine aQ (aC (λ jj=>?_) (λ _=>⟨congrArg (Value.int .i64) (iU (by rw[List.take_of_length_le (by omega)]at eD;exact eD)).symm,hs.aF⟩));obtain⟨gV,dw⟩:=gx (xs) (i:=((k:Int)).toNat) (by omega);refine aO tc (hL.ext hs.aF) (by omega) dw (λ _ gA=>aE DH (gA) (gK oZ (jT gV w1 hs.aF) ?_))
 rintro _ _ ⟨rfl,he⟩;have hs:=hs.ext he;exact aW (λ dO=>⟨congrArg (Value.int .i64) (lS eD dw dO).symm,hs.aF⟩) (λ dO=>aK (by omega) ⟨xs.length-(k+1),by omega,k+1,rfl,rfl,by omega,dR eD dw dO,hs⟩)
theorem C300(sv fv:Value)(xs:List oe)(g:oe->Bool)(w:World)(hL:dC (λ _=>True) w sv xs)(hf:vP w fv g)(hn:xs.length<=1073741824):CR 300 [sv,fv] w (λ v w'=>v=.bool (xs.any g)/\Ext w w'):=by
 have hs:=St.start w;refine eS Tryz.func300 ?_;exact aT amI hs (C321 _ _ _ _ _ (hL.ext hs.aF) (hf.ext hs.aF) (by omega)) (λ _ _ hs=>cS ⟨vb (kF _ _),hs.aF⟩)
theorem C266(sv:Value)(xs:List oe)(many:Int)(w:World)(hL:dC (λ _=>True) w sv xs)(hn:xs.length<=1048576):CR 266 [sv,.int .i64 many] w (λ v w'=>v=.bool (mg xs many)/\Ext w w'):=by
 have hs:=St.start w;refine eS Tryz.func266 ?_;refine nj hs rfl (λ Ra w1 hs=>aT amB hs (C299 _ _ _ (hL.ext hs.aF) (by omega)) (λ _ he hs=>aN rfl (aN rfl (aN rfl ?_))));refine⟨_,?_,λ _ _ h=>h⟩;refine aI tc (hL.ext hs.aF) (im (aC (λ lB=>aW (λ ji=>aH (aC (λ nD=>?_) (λ nD=>?_))) (λ ji=>?_)) (λ lB=>?_)))
 ·have hfn:vP _ (.func (.func 298) [].toArray [.pointer (some ⟨Ra,0,none⟩)].toArray) (qK many):=
   ⟨298,[],_,rfl,amA,λ y w1 e1=>C298 y Ra many w1 ((hs.hb.cell rfl).ext e1)⟩
  refine aT amC hs (C300 _ _ _ _ _ (hL.ext hs.aF) hfn (by omega)) (λ _ he hs=>bQ ?_);intro sK;refine⟨vb ?_,hs.aF⟩;unfold mg
  simp_all<;>omega
 ·intro sK;refine⟨vb ?_,hs.aF⟩;unfold mg
  simp_all<;>omega
 ·intro sK;refine⟨vb ?_,hs.aF⟩;unfold mg
  simp_all<;>omega
 intro sK;refine⟨vb ?_,hs.aF⟩;unfold mg
 simp_all<;>omega
def oJ(b:Nat)(rest:List Value)(l:List Int):HP:=qd λ sv=>sep (bY b (sv::rest)) (bG sv l)
theorem oJ.shut{w0 w:World}{A:Nat->Prop}{R:List HP}{b:Nat}{rest:List Value}{sv:Value}{l:List Int}(hs:St w0 A (bY b (sv::rest)::bG sv l::R) w):St w0 A (oJ b rest l::R) w:=
 St.et (H:=λ sv=>sep (bY b (sv::rest)) (bG sv l)) sv (St.join hs)
theorem oJ.open{w0 w:World}{A:Nat->Prop}{R:List HP}{b:Nat}{rest:List Value}{l:List Int}(hs:St w0 A (oJ b rest l::R) w):∃sv,St w0 A (bY b (sv::rest)::bG sv l::R) w:=by
 obtain⟨sv,hs⟩:=hs.er;exact⟨sv,hs.split⟩
def jX(l:List Int):Int:=l.getD (l.length-1) 0
theorem V7{l:List Int}{e:Int}(h:l[((l.length:Int)-1).toNat]?=some e):e=jX l:=by
 simp_all[jX]
theorem C301(b:Nat)(n:Int)(rest:List Value)(l:List Int)(F:Nat->Prop)(w:World)(hF:(oJ b rest l).p w F)(hn:l.length<=1048576):CR 301 [.pointer (some ⟨b,0,none⟩),.int .i64 n] w (λ v w'=>v=.tuple #[]/\mL F (oJ b rest (l++[n])) w w'):=by
 have hs:=St.begin hF;obtain⟨sv,hs⟩:=hs.er;have hs:=hs.split;refine eS Tryz.func301 ?_;refine aD (aA pZ (aB eg hs.hb rfl (aX (([n]:List Int)) hs cM rfl rfl (dI rfl) (λ am7 _ hs=>?_))));have yN:=(hs).dX;exact bI hs.p2 cM yN (by simp<;>omega) (by decide) (λ _ _ hs=>have hs:=hs.p1.drop;aD (aA pZ (aS hs.p1 eg (dI rfl) ((hs).dX.one) (λ _ hs=>have hs:=hs.p1.p1;⟨rfl,(oJ.shut hs).mut⟩))))
theorem C270(b:Nat)(rest:List Value)(l:List Int)(F:Nat->Prop)(w:World)(hF:(oJ b rest l).p w F)(hn:l.length<=1048576)(h0:0<l.length):CR 270 [.pointer (some ⟨b,0,none⟩)] w (λ v w'=>v=.int .i64 (jX l)/\mL F (oJ b rest (l.take (l.length-1))) w w'):=by
 have hs:=St.begin hF;obtain⟨sv,hs⟩:=hs.er;have hs:=hs.split;refine oY Tryz.func270 (pl:=at2) ?_;refine aD (aA pZ (have hs:=hs.drew;aB eg hs.hb rfl (aD (aA pZ (aB eg hs.hb rfl (aI cM (hs.p1).dX (fe (by omega) ?_)))))));obtain⟨gV,dw⟩:=gx (l) (i:=((((l).length:Int)-1)).toNat) (by omega);refine dM hs.p1 cM (by omega) (by omega) (λ _ gA=>gD hs.p1 bL gA dw (aD (aA pZ (have hs:=hs.drew;aB eg hs.hb rfl (aD (aA pZ (aB eg hs.hb rfl (aI cM (hs.p1).dX (fe (by omega) (have hs:=hs.p1;rQ cM hs (by omega) (by omega) (λ s_x27 hs=>aD (aA pZ ?_))))))))))))
 refine aS hs.p1 eg (dI rfl) ((hs).dX.one) (λ _ hs=>?_);have hs:=hs.p1.p1;rw[show((l.length:Int)-1).toNat=l.length-1 from by omega]at hs;rw[V7 dw];exact⟨rfl,(oJ.shut hs).mut⟩
theorem C268(b:Nat)(n hi:Int)(l:List Int)(F:Nat->Prop)(w:World)(hF:(oJ b [.int .i64 hi] l).p w F)(hn:l.length<=1048576):CR 268 [.pointer (some ⟨b,0,none⟩),.int .i64 n] w (λ v w'=>v=.tuple #[]/\∃NS,mL F (oJ b [.int .i64 NS] (l++[n])) w w'):=by
 have hs:=St.begin hF;refine oY Tryz.func268 (pl:=at1) ?_;refine aD (aA um (pN amD hs (H':=λ _=>oJ b [.int .i64 hi] (l++[n])) (Φ:=λ v _=>v=.tuple #[]) (λ F hF=>?_) ?_))
 ·exact C301 b n _ l F _ hF (by omega)
 rintro _ _ rfl hs;obtain⟨sv,hs⟩:=oJ.open hs;exact aD (aA Kz (have hs:=hs.drew;aB bL hs.hb rfl (aD (aA um (aA pZ (aB eg hs.hb rfl (aI cM (hs.p1).dX (CU (aD (aA Kz (aS hs bL (dI rfl) (rfl) (λ _ hs=>have hs:=hs.p1.p1;⟨rfl,_,(oJ.shut hs).mut⟩))))))))))))
def kT(ns S:List Int)(x:oe):List Int:=
 if eB x.kind=0 then S++[if x.kind=2 then ns.getD x.n.toNat 0 else x.n]
 else if eB x.kind=1 then S.take (S.length-1)++[xU x.kind (jX S)]
 else S.take (S.length-2)++[gl x.kind (jX (S.take (S.length-1))) (jX S)]
def u7(S:List Int)(x:oe):Int:=if eB x.kind=2 then gp x.kind (jX S)else 0
def vR(ns:List Int):List oe->List Int->Int×Int
 | [],S=>(jX S,0)
 | x::r,S=>if u7 S x=0 then vR ns r (kT ns S x)else(0,u7 S x)
def runM(l:List oe)(ns:List Int):Int×Int:=if mg l ns.length=true then vR ns l []else(0,8)
theorem Ag(k:Int):eB k=0\/eB k=1\/eB k=2:=by
 grind[eB]
section
variable {xs:List oe}{ns S:List Int}{k:Nat}{x:oe}{n h:Int}
theorem CW(hx:xs[k]?=some x)(h:u7 S x=0):vR ns (xs.drop k) S=vR ns (xs.drop (k+1)) (kT ns S x):=by
 obtain⟨hk,he⟩:=List.getElem?_eq_some_iff.1 hx
 rw[List.drop_eq_getElem_cons hk,he,vR,if_pos h]
theorem V8(hx:xs[k]?=some x)(h:¬ u7 S x=0):vR ns (xs.drop k) S=(0,u7 S x):=by
 obtain⟨hk,he⟩:=List.getElem?_eq_some_iff.1 hx
 rw[List.drop_eq_getElem_cons hk,he,vR,if_neg h]
theorem yl{many:Int}(h:mg xs many=true):xs.length<=40/\(∃a,ht xs=some (1,a))/\∀x∈xs,qK many x=false:=by
 unfold mg at h
 rw[Bool.and_eq_true,Bool.and_eq_true,Bool.and_eq_true,decide_eq_true_eq,decide_eq_true_eq]at h
 obtain⟨⟨⟨h1,h2⟩,h3⟩,h4⟩:=h
 refine⟨h1,?_,λ x hx=>?_⟩
 ·unfold htN at h3
  grind
 grind
theorem S8(hw:eB x.kind<=(S.length:Int)):((kT ns S x).length:Int)=S.length-eB x.kind+1:=by
 unfold kT
 rcases Ag x.kind with h|h|h
 ·grind
 ·grind
 grind
theorem S9{a:Int}(vX:ht xs=some (1,a))(KK:ht (xs.take k)=some ((S.length:Int),h))(hx:xs[k]?=some x) :
  eB x.kind<=(S.length:Int)/\∃h',ht (xs.take (k+1))=some (((kT ns S x).length:Int),h'):=by
 have hw:eB x.kind<=(S.length:Int):=by
  rcases Int.lt_or_le ((S.length:Int)-eB x.kind) 0 with h1|h1
  ·have:=Q8 (ahk hx KK rfl h1);grind
  ·omega
 exact⟨hw,_,(abP hx KK rfl (by omega)).trans (by rw[S8 hw])⟩
theorem ahl(hw:eB x.kind=0)(h2:¬ x.kind=2):kT ns S x=S++[x.n]:=by unfold kT;grind
theorem ahm{e:Int}(hw:eB x.kind=0)(h2:x.kind=2)(he:ns[x.n.toNat]?=some e):kT ns S x=S++[e]:=by
 grind[kT]
theorem ahn(hw:eB x.kind=1):kT ns S x=S.take (S.length-1)++[xU x.kind (jX S)]:=by unfold kT;rw[if_neg (by omega),if_pos hw]
theorem aho(hw:eB x.kind=2):kT ns S x=S.take (S.length-2)++[gl x.kind (jX (S.take (S.length-1))) (jX S)]:=by unfold kT;rw[if_neg (by omega),if_neg (by omega)]
theorem V9(hw:¬ eB x.kind=2):u7 S x=0:=by unfold u7;omega
theorem afu(hw:eB x.kind=2):u7 S x=gp x.kind (jX S):=by unfold u7;omega
theorem Oc(h:2<=S.length):(S.take (S.length-1)).take ((S.take (S.length-1)).length-1)=S.take (S.length-2):=by
 grind
end
def m8(b:Nat)(l:List Int):HP:=qd fun (hi:Int)=>oJ b [.int .i64 hi] l
theorem m8.shut{w0 w:World}{A:Nat->Prop}{R:List HP}{b:Nat}{hi:Int}{l:List Int}(hs:St w0 A (oJ b [.int .i64 hi] l::R) w):St w0 A (m8 b l::R) w:=
 St.et (H:=fun (hi:Int)=>oJ b [.int .i64 hi] l) hi hs
theorem abQ(b:Nat)(n:Int)(l:List Int)(F:Nat->Prop)(w:World)(hF:(m8 b l).p w F)(hn:l.length<=1048576) :
  Calls Tryz.prog 268 [.pointer (some ⟨b,0,none⟩),.int .i64 n].toArray w (tX λ v w'=>v=.tuple #[]/\mL F (m8 b (l++[n])) w w'):=by
 obtain⟨hi,hF⟩:=hF
 refine(C268 b n hi l F w hF hn).mono λ e w' ⟨v,he,hv,NS,F',h1,h2⟩=>⟨v,he,hv,F',⟨NS,h1⟩,h2⟩
theorem abR(b:Nat)(l:List Int)(F:Nat->Prop)(w:World)(hF:(m8 b l).p w F)(hn:l.length<=1048576)(h0:0<l.length) :
  Calls Tryz.prog 270 [.pointer (some ⟨b,0,none⟩)].toArray w (tX λ v w'=>v=.int .i64 (jX l)/\mL F (m8 b (l.take (l.length-1))) w w'):=by
 obtain⟨hi,hF⟩:=hF
 refine(C270 b [.int .i64 hi] l F w hF hn h0).mono λ e w' ⟨v,he,hv,F',h1,h2⟩=>⟨v,he,hv,F',⟨hi,h1⟩,h2⟩
theorem C219(sv nv:Value)(xs:List oe)(ns:List Int)(w:World)(hL:dC (λ _=>True) w sv xs)(hN:dC (λ _=>True) w nv ns)(hn:xs.length<=1048576):CR 219 [sv,nv] w (λ v w'=>v=.tuple #[.int .i64 (runM xs ns).1,.int .i64 (runM xs ns).2]/\Ext w w'):=by
 have hs:=St.start w;refine abe _ _ _ _ ?_;unfold S219;refine aI cM (hN.ext hs.aF) (aT amo hs (C266 _ _ _ _ (hL.ext hs.aF) hn) (λ w1 he hs=>bQ (aW (λ eQ=>?_) (λ eQ=>?_))))
 ·unfold runM;rw[if_neg (by simpa using eQ)];exact⟨rfl,hs.aF⟩
 refine aM hs abG (λ wy _ hs=>?_);have hs:=m8.shut (oJ.shut (hs.eJ (α:=Int)).p1);have lB:mg xs (ns.length:Int)=true:=by simpa using eQ
 obtain⟨h40,⟨a0,vX⟩,auv⟩:=yl lB;refine aI tc (hL.ext hs.aF) ?_;refine⟨λ m x w1=>∃(k:Nat) (S:List Int) (h:Int),x=.int .i64 (k:Int)/\m=xs.length-k/\k<=xs.length/\vR ns xs []=vR ns (xs.drop k) S/\ht (xs.take k)=some ((S.length:Int),h)/\St w aY [m8 wy S] w1,⟨_,0,[],0,rfl,rfl,by omega,rfl,rfl,hs⟩,?_⟩;rintro m _ _ ⟨k,S,h,rfl,rfl,hk,JV,KK,hs⟩ _;refine aQ (aC (λ mS=>?_) (λ mS=>?_))
 ·refine⟨_,?_,λ _ h=>h⟩;obtain⟨iG,mh⟩:=gx (xs) (i:=((k:Int)).toNat) (by omega);refine aO tc (hL.ext hs.aF) (by omega) mh (λ _ Ah=>aE DH (Ah) (aM hs Ij (λ S7 _ hs=>aJ (x:=iG) hs DH rfl rfl (λ _ hs=>aA nw (aB bL hs.hb rfl (aT Vo hs (C267 _ _) (λ _ he hs=>?_)))))));have JP:=auv _ (List.mem_of_getElem? mh);unfold qK at JP;have ho:=of_decide_eq_false JP;obtain⟨hw0,h2,abT⟩:=S9 (ns:=ns) (k:=k) vX KK mh;have hwk:eB iG.kind=0->iG.kind=1\/iG.kind=2\/¬ (iG.kind=1\/iG.kind=2):=λ _=>by omega
  have hSk:=ahj k _ _ (by omega) KK;have hw3:=Ag iG.kind;refine aH (aC (λ wz=>aA qc (aB bL hs.hb rfl ⟨_,aA nw (aB bL hs.hb rfl (aH (aC (λ wA=>?_) (λ wA=>?_)))),λ _ _ h=>h⟩)) (λ wz=>aH (aC (λ afw=>?_) (λ afw=>?_))))
  ·refine aA qc (aB bL hs.hb rfl ?_);obtain⟨Wa,Od⟩:=gx (ns) (i:=((iG).n).toNat) (by omega);refine aO cM (hN.ext hs.aF) (by omega) Od (λ _ Ai=>aE bL (Ai) ?_);intro vz;refine pN QM hs.p1 (H':=λ _=>m8 wy (S++[Wa])) (Φ:=λ v _=>v=.tuple #[]) (λ F hF=>?_) ?_
   ·exact abQ wy Wa S F _ hF (by first|omega|(simp only[List.length_take,List.length_append,List.length_singleton];omega))
   rintro _ w8 rfl hs;intro xB;refine aK (by omega) ?_;have hs:=(hs.p1).drop;have iL:kT ns S iG=_:=ahm wz wA Od;exact⟨_,by omega,k+1,_,_,rfl,rfl,by omega,JV.trans (CW (k:=k) mh (V9 (by omega))),abT,by rw[iL];exact hs⟩
  ·intro vz;refine pN QM hs.p1 (H':=λ _=>m8 wy (S++[(iG).n])) (Φ:=λ v _=>v=.tuple #[]) (λ F hF=>?_) ?_
   ·exact abQ wy (iG).n S F _ hF (by first|omega|(simp only[List.length_take,List.length_append,List.length_singleton];omega))
   rintro _ w8 rfl hs;intro xB;refine aK (by omega) ?_;have hs:=(hs.p1).drop;have iL:kT ns S iG=_:=ahl wz wA;exact⟨_,by omega,k+1,_,_,rfl,rfl,by omega,JV.trans (CW (k:=k) mh (V9 (by omega))),abT,by rw[iL];exact hs⟩
  ·refine aA nw (have hs:=hs.drew;aB bL hs.hb rfl (aA um (pN QN hs.p1 (H':=λ _=>m8 wy (S.take (S.length-1))) (Φ:=λ v _=>v=.int .i64 (jX S)) (λ F hF=>?_) ?_)))
   ·exact abR wy S F _ hF (by first|omega|(simp only[List.length_take,List.length_append,List.length_singleton];omega)) (by first|omega|(simp only[List.length_take,List.length_append,List.length_singleton];omega))
   rintro _ _ rfl hs;refine⟨aG bL (hs.p1.hb.cell rfl),?_⟩;refine aT amp hs (C269 _ _ _) (λ _ he hs=>aN rfl (aN rfl (pN QM hs (H':=λ _=>m8 wy ((S.take (S.length-1))++[(xU (iG).kind (jX S))])) (Φ:=λ v _=>v=.tuple #[]) (λ F hF=>?_) ?_)))
   ·exact abQ wy (xU (iG).kind (jX S)) (S.take (S.length-1)) F _ hF (by first|omega|(simp only[List.length_take,List.length_append,List.length_singleton];omega))
   rintro _ _ rfl hs;intro xB;refine aK (by omega) ?_;have hs:=(hs.p1).drop;have iL:kT ns S iG=_:=ahn afw;exact⟨_,by omega,k+1,_,_,rfl,rfl,by omega,JV.trans (CW (k:=k) mh (V9 (by omega))),abT,by rw[iL];exact hs⟩
  refine aA um (pN QN hs.p1 (H':=λ _=>m8 wy (S.take (S.length-1))) (Φ:=λ v _=>v=.int .i64 (jX S)) (λ F hF=>?_) ?_)
  ·exact abR wy S F _ hF (by first|omega|(simp only[List.length_take,List.length_append,List.length_singleton];omega)) (by first|omega|(simp only[List.length_take,List.length_append,List.length_singleton];omega))
  rintro _ _ rfl hs;refine aA nw (have hs:=hs.drew;aB bL hs.p1.hb rfl (aA um (pN QN hs (H':=λ _=>m8 wy ((S.take (S.length-1)).take ((S.take (S.length-1)).length-1))) (Φ:=λ v _=>v=.int .i64 (jX (S.take (S.length-1)))) (λ F hF=>?_) ?_)))
  ·exact abR wy (S.take (S.length-1)) F _ hF (by first|omega|(simp only[List.length_take,List.length_append,List.length_singleton];omega)) (by first|omega|(simp only[List.length_take,List.length_append,List.length_singleton];omega))
  rintro _ _ rfl hs;refine⟨aG bL (hs.p1.hb.cell rfl),?_⟩;refine aT amq hs (C271 _ _ _ _) (λ _ he hs=>aN rfl (aN rfl (bV (aC (λ vA=>?_) (λ vA=>?_)))))
  ·have hz:u7 S iG=gp iG.kind (jX S):=afu (by have:=Ag iG.kind;omega);unfold runM;rw[if_pos lB,JV,V8 (k:=k) mh (by rw[hz];exact vA),hz];exact⟨rfl,hs.aF⟩
  refine pN QM hs (H':=λ _=>m8 wy (((S.take (S.length-1)).take ((S.take (S.length-1)).length-1))++[(gl (iG).kind (jX (S.take (S.length-1))) (jX S))])) (Φ:=λ v _=>v=.tuple #[]) (λ F hF=>?_) ?_
  ·exact abQ wy (gl (iG).kind (jX (S.take (S.length-1))) (jX S)) ((S.take (S.length-1)).take ((S.take (S.length-1)).length-1)) F _ hF (by first|omega|(simp only[List.length_take,List.length_append,List.length_singleton];omega))
  rintro _ _ rfl hs;intro xB;refine aK (by omega) ?_;have hs:=(hs.p1).drop;rw[Oc (by omega)]at hs;have iL:kT ns S iG=_:=aho (by have:=Ag iG.kind;omega);exact⟨_,by omega,k+1,_,_,rfl,rfl,by omega,JV.trans (CW (k:=k) mh ((afu (by have:=Ag iG.kind;omega)).trans (Decidable.not_not.1 vA))),abT,by rw[iL];exact hs⟩
 refine aA um ?_
 have hS1:S.length=1:=by
  rw[List.take_of_length_le (by omega),vX]at KK;have:=(Prod.mk.inj (Option.some.inj KK)).1;omega
 refine pN QN hs (H':=λ _=>m8 wy (S.take (S.length-1))) (Φ:=λ v _=>v=.int .i64 (jX S)) (λ F hF=>?_) ?_
 ·exact abR wy S F _ hF (by first|omega|(simp only[List.length_take,List.length_append,List.length_singleton];omega)) (by first|omega|(simp only[List.length_take,List.length_append,List.length_singleton];omega))
 rintro _ _ rfl hs;unfold runM;rw[if_pos lB,JV,List.drop_eq_nil_of_le (by omega)];exact⟨rfl,hs.aF⟩
theorem Wb(x:Int):eR (A1 x):=by unfold eR A1;rw[IntKind.wrap_i64];omega
theorem abU{a:Int}(b:Int)(ha:eR a):eR (a.tmod b):=by
 have hs:(a.tmod b).natAbs<=a.natAbs:=by rw[Int.natAbs_tmod];exact Nat.mod_le _ _
 unfold eR at *
 rcases Int.le_total 0 a with h|h
 ·have:=Int.tmod_nonneg b h;omega
 have:=Int.tmod_nonneg (a:=-a) b (by omega)
 rw[Int.neg_tmod]at this;omega
theorem Wc(p:Bool):eR (Ir p):=by cases p<;>(unfold eR Ir;decide)
theorem iq:eR 0:=by unfold eR;decide
theorem We{op a b:Int}(ha:eR a):eR (gl op a b):=by
 unfold gl
 by_cases h:gp op b=0
 ·rw[if_pos h]
  unfold lx D0
  repeat' split
  all_goals first|exact Wb _|exact Wc _|exact iq|exact abU _ ha
 rw[if_neg h];exact iq
theorem Wf{op a:Int}:eR (xU op a):=by
 unfold xU
 repeat' split
 all_goals first|exact Wb _|exact Wc _|exact iq
def xV(S:List Int):Prop:=∀v∈S,eR v
theorem KL{S:List Int}(h:xV S):eR (jX S):=by
 unfold jX
 rw[List.getD_eq_getElem?_getD]
 cases hh:S[S.length-1]? with
 | none=>exact iq
 | some e=>exact h e (List.mem_of_getElem? hh)
theorem xV.take{S:List Int}(h:xV S)(k:Nat):xV (S.take k):=λ v hv=>h v (List.mem_of_mem_take hv)
theorem xV.snoc{S:List Int}{e:Int}(h:xV S)(he:eR e):xV (S++[e]):=λ v hv=>by
 rcases List.mem_append.1 hv with hv|hv
 ·exact h v hv
 grind
theorem Wg{ns S:List Int}{x:oe}{many:Int}(A3:xV ns)(hS:xV S)(ho:qK many x=false):xV (kT ns S x):=by
 unfold qK at ho
 have ho:=of_decide_eq_false ho
 unfold kT
 split
 ·rename_i hw
  split
  ·rw[List.getD_eq_getElem?_getD]
   cases hh:ns[x.n.toNat]? with
   | none=>exact hS.snoc iq
   | some e=>grind[xV]
  refine hS.snoc ?_
  unfold eB at hw
  unfold eR
  omega
 split
 ·exact(hS.take _).snoc Wf
 exact(hS.take _).snoc (We (KL (hS.take _)))
def cU(ns:List ByteArray)(s:ByteArray):Int:=rT (λ y=>decide (y=s)) ns
def g9(p:cG):List cJ:=p.lines.flatten++p.iI
structure PS(p:cG):Prop where
 lines:p.lines.length<=500
 line:∀l∈p.lines,l.length<=500
 iI:p.iI.length<=500
 eG:p.eG.length<=500
 threads:p.threads.length<=500
 recover:p.recover.length<=500
 dP:p.dP.length<=500
 dL:∀t∈p.threads++p.recover,t.dL.length<=500
 body:∀t∈p.threads++p.recover,t.body.length<=500
theorem cY{ls:List (List cJ)}(h:∀l∈ls,l.length<=500):ls.flatten.length<=500*ls.length:=by
 induction ls with
 | nil=>simp
 | cons a ls ih=>
  grind
theorem kG{p:cG}(h:PS p):(g9 p).length<=250500:=by
 have h1:=cY h.line
 have h2:=h.lines
 have h3:=h.iI
 grind[g9]
theorem Ta{α:Type}{ls:List (List α)}{k:Nat}{l:List α}(h:ls[k]?=some l):(ls.take k).flatten++l=(ls.take (k+1)).flatten:=by rw[<- gz h,List.flatten_append];simp
theorem fW{α β:Type}{f:α->β}{l:List α}{k:Nat}{e:α}(h:l[k]?=some e):(l.take k).map f++[f e]=(l.take (k+1)).map f:=by rw[<- gz h,List.map_append];rfl
theorem C123(lv:Value)(ns:List ByteArray)(q:ByteArray)(w:World)(hL:dC (λ _=>True) w lv ns)(hn:ns.length<=1048576):CR 123 [lv,.string q] w (λ v w'=>v=.int .i64 (cU ns q)/\Ext w w'):=by
 have hs:=St.start w;refine eS Tryz.func123 ?_;refine⟨λ m x w1=>∃k:Nat,x=.int .i64 (k:Int)/\m=ns.length-k/\k<=ns.length/\(∀y∈ns.take k,decide (y=q)=false)/\St w aY [] w1,⟨_,0,rfl,rfl,Nat.zero_le _,by simp,hs⟩,?_⟩;rintro m _ w1 ⟨k,rfl,rfl,hk,eD,hs⟩ _;refine aI ik (hL.ext hs.aF) (aQ (aC (λ jj=>?_) (λ _=>⟨congrArg (Value.int .i64) (iU (by rw[List.take_of_length_le (by omega)]at eD;exact eD)).symm,hs.aF⟩)));obtain⟨gV,dw⟩:=gx (ns) (i:=((k:Int)).toNat) (by omega);exact aO ik (hL.ext hs.aF) (by omega) dw (λ _ gA=>aE gj (gA) (iD (aC (λ jY=>⟨congrArg (Value.int .i64) (lS eD dw (decide_eq_true jY)).symm,hs.aF⟩) (λ jY=>aK (by omega) ⟨ns.length-(k+1),by omega,k+1,rfl,rfl,by omega,dR eD dw (decide_eq_false jY),hs⟩))))
theorem C202(lv:Value)(cs:List cJ)(w:World)(hL:dC (λ _=>True) w lv cs)(hn:cs.length<=1048576):CR 202 [lv] w (λ v w'=>lL (bG v (cs.map cJ.name)) w w'):=by
 have hs:=St.start w;refine eS Tryz.func202 ?_;refine aX (([]:List ByteArray)) hs ik rfl rfl (dI rfl) (λ Oe w1 hs=>?_);refine⟨λ m y x w1=>∃k:Nat,x=.int .i64 (k:Int)/\m=cs.length-k/\k<=cs.length/\St w aY [bG y ((cs.take k).map cJ.name)] w1,⟨_,0,rfl,rfl,by omega,hs⟩,?_⟩;rintro m m9 _ _ ⟨k,rfl,rfl,hk,hs⟩ _;have B8:((cs.take k).map cJ.name).length=k:=by rw[List.length_map,List.length_take];omega
 refine aI g8 (hL.ext hs.aF) (aQ (aC (λ jj=>?_) (λ jj=>?_)))
 ·obtain⟨D4,qD⟩:=gx (cs) (i:=((k:Int)).toNat) (by omega);refine aO g8 (hL.ext hs.aF) (by omega) qD (λ _ ur=>bW (D4).name kz ur rfl rfl (λ _ Aj=>aE gj (Aj) (aX ([(D4).name]) hs ik rfl rfl (dI rfl) (λ Wh _ hs=>?_))));have nQ:=(hs).dX;exact bI hs.p1 ik nQ (by simp<;>omega) (by decide) (λ _ _ hs=>have hs:=hs.p1.drop;aK (by omega) ⟨_,by omega,k+1,rfl,rfl,by omega,by rw[<- fW (k:=k) qD];exact hs⟩)
 rw[List.take_of_length_le (by omega)]at hs;exact hs.fresh
theorem C59(p:cG)(pv:bO)(w:World)(hp:Deep.dr w pv p)(hz:PS p):CR 59 [Flat.val pv] w (λ v w'=>lL (bG v (g9 p)) w w'):=by
 obtain⟨bJ,bT,bK,aU,aV,bE,rfl,cR,dA,cW,cB,cC,cQ⟩:=hp;have hs:=St.start w;refine eS Tryz.func59 ?_;refine cI hs (λ j5 w1 hs=>aX (([]:List cJ)) hs g8 rfl rfl (dI rfl) (λ Oe _ hs=>?_));refine⟨λ m y x w1=>∃k:Nat,x=.int .i64 (k:Int)/\m=p.lines.length-k/\k<=p.lines.length/\St w aY [bG y (p.lines.take k).flatten,bY j5 (Flat.enc (⟨bJ,bT,bK,aU,aV,bE⟩:bO))] w1,⟨_,0,rfl,rfl,by omega,hs⟩,?_⟩;rintro m m9 _ _ ⟨k,rfl,rfl,hk,hs⟩ _;have Tb:=hz.lines;refine aA gk (aB oz hs.p1.hb rfl ?_)
 obtain⟨Wi,hR1,hD1⟩:=(cR).open;have Wj:=hD1.1;refine aI pj (hR1.ext hs.aF) (aQ (aC (λ gL=>?_) (λ gL=>?_)))
 ·refine aA gk (aB oz hs.p1.hb rfl ?_);obtain⟨am9,Wk⟩:=gx Wi (i:=((k:Int)).toNat) (by omega);obtain⟨ana,D5⟩:=gx ((p).lines) (i:=((k:Int)).toNat) (by omega);have anb:DL w (Flat.val am9) ana:=hD1.2 _ _ _ Wk D5;refine aO pj (hR1.ext hs.aF) (by omega) Wk (λ _ KM=>aE jC (KM) ?_);have hf2:=DL.flat (anb);have Cy:=hz.line _ (List.mem_of_getElem? D5);have sS:=cY (ls:=p.lines.take k) (λ l hl=>hz.line l (List.mem_of_mem_take hl));rw[List.length_take]at sS;have Tb:=hz.lines;have nQ:=(hf2.ext hs.aF);exact bI hs g8 nQ (by omega) (by decide) (λ _ _ hs=>aK (by omega) ⟨_,by omega,k+1,rfl,rfl,by omega,by rw[<- Ta (k:=k) D5];exact hs⟩)
 refine aA pK (aB jC hs.p1.hb rfl ?_);have hf3:=DL.flat (dA);have sS:=cY (ls:=p.lines.take k) (λ l hl=>hz.line l (List.mem_of_mem_take hl));rw[List.length_take]at sS;have Tb:=hz.lines;have hz2:=hz.iI;have ahq:=(hf3.ext hs.aF);refine bI hs g8 ahq (by omega) (by decide) (λ anc _ hs=>?_);rw[List.take_of_length_le (by omega)]at hs;exact hs.p1.drop.fresh
def kids(k:Int):Int:=if k=1\/k=2 then 0 else if k=3\/k=4 then 1 else if 5<=k/\k<=15 then 2 else -1
theorem tH(k:Int) : -1<=kids k/\kids k<=2:=by
 grind[kids]
def gm(c:Int):Bool:=decide (97<=c/\c<=122\/c=95)
def j6(c:Int):Bool:=decide (48<=c/\c<=57)
def jJ:List ByteArray:=[⟨#[108,105,110,101]⟩,⟨#[118,111,108]⟩,⟨#[108,111,99,107]⟩,⟨#[116,104,114,101,97,100]⟩,⟨#[114,101,103]⟩,⟨#[108,111,97,100]⟩,⟨#[115,116,111,114,101]⟩,⟨#[99,97,115]⟩,⟨#[102,108,117,115,104]⟩,⟨#[111,112,116]⟩,⟨#[115,102,101,110,99,101]⟩,⟨#[109,102,101,110,99,101]⟩,⟨#[116,97,107,101]⟩,⟨#[103,105,118,101]⟩,⟨#[105,102]⟩,⟨#[101,108,115,101]⟩,⟨#[108,111,111,112]⟩,⟨#[98,114,101,97,107]⟩,⟨#[99,104,101,99,107]⟩,⟨#[114,101,99,111,118,101,114]⟩,⟨#[97,108,119,97,121,115]⟩]
def gB(s:ByteArray):Bool:=!(decide (s.size<1\/16<s.size)||(match (iH s)[0]? with|some c=>!gm c.toNat|none=>true)||jJ.any (λ y=>decide (y=s)))&&!(iH s).any (λ c=>!gm c.toNat&&!j6 c.toNat)
def skip:Nat->List bX->Option (List bX)
 | 0,l=>some l
 | _+1,[]=>none
 | n+1,x::l=>if kids x.op<0 then none else skip (n+(kids x.op).toNat) l
theorem yO(l:List bX):skip 0 l=some l:=by cases l<;>rfl
theorem D6(l:List bX):∀a b,skip (a+b) l=(skip a l).bind (skip b):=by
 induction l with
 | nil=>
  intro a b
  cases a with
  | zero=>rw[Nat.zero_add,yO];rfl
  | succ a=>grind[skip]
 | cons x l ih=>
  intro a b
  cases a with
  | zero=>rw[Nat.zero_add,yO];rfl
  | succ a=>
   grind[skip]
theorem D7(l:List bX):∀n r,skip n l=some r->r=l.drop (l.length-r.length)/\r.length+min n 1<=l.length:=by
 induction l with
 | nil=>
  intro n r h
  cases n with
  | zero=>rw[yO]at h;grind
  | succ n=>cases h
 | cons x l ih=>
  intro n r h
  cases n with
  | zero=>rw[yO]at h;simp_all
  | succ n=>
   have h:(if kids x.op<0 then none else skip (n+(kids x.op).toNat) l)=some r:=h
   split at h
   ·cases h
   ·obtain⟨h1,h2⟩:=ih _ _ h
    refine⟨?_,by grind⟩
    rw[show(x::l).length-r.length=(l.length-r.length)+1 from by grind]
    exact h1
def Cz(n:Nat)(o:Option (List bX)):Int:=match o with|some r=>(n:Int)-r.length|none=>-1
def qe(xs:List bX)(i:Int):Int:=if i<0 then -1 else Cz xs.length (skip 1 (xs.drop i.toNat))
theorem Wl{xs:List bX}{i:Int}{x:bX}(h0:0<=i)(hx:xs[i.toNat]?=some x)(hk:0<=kids x.op):qe xs i=Cz xs.length (skip (kids x.op).toNat (xs.drop (i.toNat+1))):=by
 unfold qe
 obtain⟨hl,he⟩:=List.getElem?_eq_some_iff.1 hx
 rw[if_neg (by omega),List.drop_eq_getElem_cons hl,he]
 show Cz _ (if kids x.op<0 then none else skip (0+(kids x.op).toNat) _)=_
 grind
theorem abV{xs:List bX}{i:Int}{x:bX}(h0:0<=i)(hx:xs[i.toNat]?=some x)(hk:kids x.op<0):qe xs i = -1:=by
 unfold qe
 obtain⟨hl,he⟩:=List.getElem?_eq_some_iff.1 hx
 rw[if_neg (by omega),List.drop_eq_getElem_cons hl,he]
 grind[Cz,skip]
theorem abW{xs:List bX}{i:Int}(h:i<0\/xs.length<=i):qe xs i = -1:=by
 unfold qe
 split
 ·rfl
 rw[List.drop_eq_nil_of_le (by omega)];rfl
theorem ane{xs:List bX}{j k:Nat}{a:Int}(h:Cz xs.length (skip k (xs.drop j))=a)(h0:0<=a):qe xs a=Cz xs.length (skip (k+1) (xs.drop j))/\((j:Int)<=a\/xs.length<=a):=by
 cases hs:skip k (xs.drop j)with
 | none=>rw[hs]at h;unfold Cz at h;simp only[]at h;omega
 | some r=>
  rw[hs]at h
  have h:(xs.length:Int)-r.length=a:=h
  obtain⟨h1,h2⟩:=D7 _ _ _ hs
  rw[List.length_drop]at h1 h2
  rw[D6,hs]
  show _=Cz _ (skip 1 r)/\_
  refine⟨?_,by omega⟩
  unfold qe
  rw[if_neg (by omega)]
  by_cases hj:j<=xs.length
  ·have:xs.drop a.toNat=r:=by
    rw[h1,List.drop_drop,show j+(xs.length-j-r.length)=a.toNat from by omega]
   rw[this]
  ·have:r=[]:=List.length_eq_zero_iff.1 (by omega)
   subst this
   rw[List.drop_eq_nil_of_le (by simp at h;omega)]
theorem ahr{xs l:List bX}{k j:Nat}(hl:l.length<=xs.length)(h:¬ 0<=Cz xs.length (skip k l))(hj:k<=j):Cz xs.length (skip k l)=Cz xs.length (skip j l):=by
 cases hs:skip k l with
 | none=>rw[show j=k+(j-k)from by omega,D6,hs];rfl
 | some r=>
  obtain⟨_,h2⟩:=D7 _ _ _ hs
  rw[hs]at h;unfold Cz at h;simp only[]at h;omega
theorem auy{xs l:List bX}{k:Nat}(hl:l.length<=xs.length) : -1<=Cz xs.length (skip k l)/\Cz xs.length (skip k l)<=xs.length:=by
 cases hs:skip k l with
 | none=>unfold Cz;simp only[];omega
 | some r=>
  obtain⟨_,h2⟩:=D7 _ _ _ hs
  unfold Cz;simp only[];omega
theorem C273(k:Int)(w:World):CR 273 [.int .i64 k] w (λ v w'=>v=.int .i64 (kids k)/\Ext w w'):=by
 have hs:=St.start w;refine eS Tryz.func273 ?_;refine⟨λ jv w'=>jv=.bool (decide (k=1\/k=2))/\w=w',aH (aC (λ _=>⟨JX (by omega),rfl⟩) (λ _=>aH ⟨xS (by omega),rfl⟩)),?_⟩;rintro _ _ ⟨rfl,hw⟩ _;subst hw;refine aC (λ fL=>?_) (λ fL=>⟨λ jv w'=>jv=.bool (decide (k=3\/k=4))/\w=w',aH (aC (λ _=>⟨JX (by omega),rfl⟩) (λ _=>aH ⟨xS (by omega),rfl⟩)),?_⟩)
 ·unfold kids;exact⟨congrArg (Value.int .i64) (by grind),hs.aF⟩
 rintro _ _ ⟨rfl,hw⟩ _;subst hw;refine aC (λ jI=>?_) (λ jI=>⟨λ jv w'=>jv=.bool (decide (5<=k/\k<=15))/\w=w',cS (aC (λ _=>im ⟨xS (by omega),rfl⟩) (λ _=>⟨jvF (by omega),rfl⟩)),?_⟩)
 ·unfold kids;exact⟨congrArg (Value.int .i64) (by grind),hs.aF⟩
 rintro _ _ ⟨rfl,hw⟩ _;subst hw;refine aC (λ og=>?_) (λ og=>?_)
 ·unfold kids;exact⟨congrArg (Value.int .i64) (by grind),hs.aF⟩
 unfold kids;exact⟨congrArg (Value.int .i64) (by grind),hs.aF⟩
theorem C206(c:Int)(w:World):CR 206 [.int .u8 c] w (λ v w'=>v=.bool (gm c)/\Ext w w'):=by
 have hs:=St.start w;refine eS Tryz.func206 ?_;refine⟨λ jv w'=>jv=.bool (decide (97<=c/\c<=122\/c=95))/\w=w',Ab (aC (λ _=>Aa (aC (λ _=>⟨JX (by omega),rfl⟩) (λ _=>nA ⟨xS (by omega),rfl⟩))) (λ _=>nA ⟨xS (by omega),rfl⟩)),?_⟩;rintro _ _ ⟨rfl,hw⟩ _;subst hw;exact⟨rfl,hs.aF⟩
theorem C207(c:Int)(w:World):CR 207 [.int .u8 c] w (λ v w'=>v=.bool (j6 c)/\Ext w w'):=by
 have hs:=St.start w;refine eS Tryz.func207 ?_;refine⟨λ jv w'=>jv=.bool (decide (48<=c/\c<=57))/\w=w',Ab (aC (λ _=>Aa ⟨xS (by omega),rfl⟩) (λ _=>⟨jvF (by omega),rfl⟩)),?_⟩;rintro _ _ ⟨rfl,hw⟩ _;subst hw;exact⟨rfl,hs.aF⟩
theorem C255(s:ByteArray)(w:World):CR 255 [.string s] w (λ v w'=>v=.bool (jJ.any (λ y=>decide (y=s)))/\Ext w w'):=by
 have hs:=St.start w;refine eS Tryz.func255 ?_;refine aX (jJ) hs ik rfl rfl (dI rfl) (λ Oe w1 hs=>?_);refine⟨λ m x w1=>∃k:Nat,x=.int .i64 (k:Int)/\m=jJ.length-k/\k<=jJ.length/\(∀y∈jJ.take k,decide (y=s)=false)/\St w aY [bG Oe jJ] w1,⟨_,0,rfl,rfl,Nat.zero_le _,by simp,hs⟩,?_⟩;rintro m _ _ ⟨k,rfl,rfl,hk,eD,hs⟩ _;have FJ:jJ.length=21:=rfl;refine aI ik (hs).dX (aQ (aC (λ jj=>?_) (λ jj=>?_)))
 ·skip;obtain⟨gV,dw⟩:=gx (jJ) (i:=((k:Int)).toNat) (by omega);exact dM hs ik (by omega) (by omega) (λ _ gA=>gD hs gj gA dw (iD (aC (λ jY=>⟨vb (gU dw (decide_eq_true jY)).symm,hs.aF⟩) (λ jY=>aK (by omega) ⟨_,by omega,k+1,rfl,rfl,by omega,dR eD dw (decide_eq_false jY),hs⟩))))
 rw[List.take_of_length_le (by omega)]at eD;exact⟨vb (il eD).symm,hs.aF⟩
theorem C211(s:ByteArray)(w:World)(hn:s.size<=1048576):CR 211 [.string s] w (λ v w'=>v=.bool (gB s)/\Ext w w'):=by
 have hs:=St.start w;refine eS Tryz.func211 ?_;refine⟨λ jv w'=>jv=.bool (decide (s.size<1\/16<s.size)||(match (iH s)[0]? with|some c=>!gm c.toNat|none=>true)||jJ.any (λ y=>decide (y=s)))/\St w aY [] w',fg gZ (aQ (aC (λ _=>⟨vb (by grind),hs⟩) (λ pk=>fg gZ (cP (aC (λ _=>⟨vb (by grind),hs⟩) (λ gL=>?_)))))),?_⟩
 ·obtain⟨gV,dw⟩:∃xx,(iH (s))[((0:Int)).toNat]?=some xx:=⟨_,List.getElem?_eq_getElem (by rw[eT];omega)⟩;exact jN gZ (by omega) dw (aT QH hs (C206 _ _) (λ _ _ hs=>bQ (aW (λ _=>⟨vb (by grind),hs⟩) (λ _=>aT amk hs (C255 _ _) (λ _ _ hs=>⟨vb (by grind),hs⟩)))))
 rintro _ _ ⟨rfl,hs⟩ _;refine aW (λ kD=>?_) (λ kD=>?_)
 ·refine⟨vb ?_,hs.aF⟩;unfold gB;rw[kD];rfl
 refine⟨λ m x w1=>∃k:Nat,x=.int .i64 (k:Int)/\m=(iH s).length-k/\k<=(iH s).length/\(∀y∈(iH s).take k,(!gm y.toNat&&!j6 y.toNat)=false)/\St w aY [] w1,⟨_,0,rfl,rfl,Nat.zero_le _,by simp,hs⟩,?_⟩;rintro m _ _ ⟨k,rfl,rfl,hk,eD,hs⟩ _;rw[eT]at hk;have GH:=eT s;refine fg gZ (aQ (aC (λ jw=>?_) (λ jw=>?_)))
 ·obtain⟨qL,fZ⟩:∃xx,(iH s)[((k:Int)).toNat]?=some xx:=⟨_,List.getElem?_eq_getElem (by rw[eT];omega)⟩;refine⟨λ jv w'=>jv=.bool (!gm qL.toNat&&!j6 qL.toNat)/\St w aY [] w',jN gZ (by omega) fZ (aT QH hs (C206 _ _) (λ _ _ hs=>bQ (aW (λ _=>jN gZ (by omega) fZ (aT QI hs (C207 _ _) (λ _ _ hs=>bQ ⟨vb (by grind),hs⟩))) (λ _=>⟨vb (by grind),hs⟩)))),?_⟩;rintro _ _ ⟨rfl,hs⟩ _;refine aW (λ Cb=>?_) (λ Cb=>aK (by omega) ⟨_,by omega,k+1,rfl,rfl,by omega,dR eD fZ (by simpa using Cb),hs⟩);refine⟨vb ?_,hs.aF⟩;unfold gB;rw[gU fZ Cb];simp
 rw[List.take_of_length_le (by omega)]at eD;refine⟨vb ?_,hs.aF⟩;unfold gB;rw[il eD]
 revert kD
 cases (decide (s.size<1\/16<s.size)||(match (iH s)[0]? with|some c=>!gm c.toNat|none=>true)||jJ.any (λ y=>decide (y=s)))<;>simp
theorem C251(lv:Value)(xs:List bX)(i:Int)(N:Nat)(w:World)(hL:dC (λ _=>True) w lv xs)(hn:xs.length<=1048576)(hi : -9223372036854775808<=i)(hN:(xs.length:Int)-i<N):CR 251 [lv,.int .i64 i] w (λ v w'=>v=.int .i64 (qe xs i)/\Ext w w'):=by
 have hs:=St.start w;refine eS Tryz.func251 ?_;refine⟨λ jv w'=>jv=.bool (decide (i<0\/(xs.length:Int)<=i)||(match xs[i.toNat]? with|some x=>decide (kids x.op<0)|none=>true))/\St w aY [] w',aQ (aC (λ _=>⟨vb (by grind),hs⟩) (λ fL=>aI gN (hL.ext hs.aF) (cS (aC (λ _=>⟨vb (by grind),hs⟩) (λ wB=>?_))))),?_⟩
 ·obtain⟨qM,iQ⟩:=gx (xs) (i:=(i).toNat) (by omega);exact aO gN (hL.ext hs.aF) (by omega) iQ (λ _ uu=>bW (qM).op eU uu rfl rfl (λ _ mi=>aE bL (mi) (aT J5 hs (C273 _ _) (λ _ _ hs=>aQ ⟨vb (by grind),hs⟩))))
 rintro _ _ ⟨rfl,hs⟩ _;refine aW (λ _=>⟨congrArg (Value.int .i64) (by grind[abW,abV]),hs.aF⟩) (λ mS=>?_);have h23:¬ (i<0\/(xs.length:Int)<=i):=by grind
 obtain⟨po,rU⟩:=gx xs (i:=(i).toNat) (by omega);have Of:0<=kids po.op:=by grind
 have Wm:=tH po.op;have UD:=Wl (by omega) rU Of;refine aK (by omega) ?_;refine⟨λ m y x w1=>∃(k:Nat) (a:Int),x=.int .i64 (k:Int)/\y=.int .i64 a/\m=(kids po.op).toNat-k/\k<=(kids po.op).toNat/\Cz xs.length (skip k (xs.drop (i.toNat+1)))=a/\St w aY [] w1,⟨_,0,i+1,rfl,rfl,rfl,by omega,by rw[yO];unfold Cz;simp only[List.length_drop];omega,hs⟩,?_⟩;rintro m _ _ _ ⟨k,a,rfl,rfl,rfl,hk,iL,hs⟩ _;have hab:=auy (xs:=xs) (l:=xs.drop (i.toNat+1)) (k:=k) (by rw[List.length_drop];omega);rw[iL]at hab;refine⟨λ jv w'=>jv=.bool (decide ((k:Int)<kids po.op/\0<=a))/\St w aY [] w',aO gN (hL.ext hs.aF) (by omega) rU (λ _ Ak=>bW (po).op eU Ak rfl rfl (λ _ mj=>aE bL (mj) (aT J5 hs (C273 _ _) (λ _ _ hs=>aQ (aC (λ _=>cS ⟨vb (by grind),hs⟩) (λ _=>⟨vb (by grind),hs⟩)))))),?_⟩
 rintro _ _ ⟨rfl,hs⟩ _;refine aC (λ oK=>?_) (λ _=>⟨congrArg (Value.int .i64) (by have:=ahr (xs:=xs) (l:=xs.drop (i.toNat+1)) (k:=k) (j:=(kids po.op).toNat) (by rw[List.length_drop];omega);rw[UD];by_cases h0:0<=a<;>grind),hs.aF⟩);have A4:=ane iL (by omega);exact aT J3 hs (C251 _ _ _ (N-1) _ (hL.ext hs.aF) hn (by omega) (by omega)) (λ _ _ hs=>aK (by omega) ⟨_,by omega,k+1,_,rfl,rfl,rfl,by omega,(A4.1).symm,hs⟩)
termination_by N
decreasing_by omega
inductive Ex where
 | leaf (x:bX)
 | un (x:bX) (a:Ex)
 | bin (x:bX) (a b:Ex)
namespace Ex
def root:Ex->bX|leaf x=>x|un x _=>x|bin x _ _=>x
def eA:Ex->List Ex|leaf _=>[]|un _ a=>[a]|bin _ a b=>[a,b]
def flat:Ex->List bX|leaf x=>[x]|un x a=>x::a.flat|bin x a b=>x::(a.flat++b.flat)
def wf:Ex->Prop|leaf x=>kids x.op=0|un x a=>kids x.op=1/\a.wf|bin x a b=>kids x.op=2/\a.wf/\b.wf
def depth:Ex->Int|leaf _=>1|un _ a=>a.depth+1|bin _ a b=>max a.depth b.depth+1
def size:Ex->Nat|leaf _=>1|un _ a=>a.size+1|bin _ a b=>a.size+b.size+1
def numOf(ns:List ByteArray)(x:bX):Int:=if x.op=2 then cU ns x.name else x.n
def steps(ns:List ByteArray):Ex->List oe
 | leaf x=>[⟨x.op,numOf ns x⟩]
 | un x a=>a.steps ns++[⟨x.op,numOf ns x⟩]
 | bin x a b=>a.steps ns++b.steps ns++[⟨x.op,numOf ns x⟩]
end Ex
theorem Ex.cY(t:Ex):t.flat.length=t.size:=by
 induction t with
 | leaf x=>rfl
 | un x a ih=>simp[Ex.flat,Ex.size,ih]
 | bin x a b Is It=>simp[Ex.flat,Ex.size,Is,It]
theorem Ex.GI(t:Ex):t.flat=t.root::(t.eA.map Ex.flat).flatten:=by
 cases t<;>simp[Ex.flat,Ex.root,Ex.eA]
theorem Ex.oL{t:Ex}(h:t.wf):kids t.root.op=t.eA.length:=by
 cases t with
 | leaf x=>exact h
 | un x a=>exact h.1
 | bin x a b=>exact h.1
theorem Ex.tI{t a:Ex}(h:t.wf)(ha:a∈t.eA):a.wf/\a.size<t.size:=by
 cases t with
 | leaf x=>cases ha
 | un x b=>rw[List.mem_singleton.1 ha];exact⟨h.2,by simp[Ex.size]⟩
 | bin x b c=>
  rcases List.mem_cons.1 ha with rfl|ha
  ·grind[wf,size]
  grind[wf,size]
theorem Ex.q7(t:Ex):1<=t.depth/\t.depth<=t.size:=by
 induction t with
 | leaf x=>simp[Ex.depth,Ex.size]
 | un x a ih=>simp only[Ex.depth,Ex.size];omega
 | bin x a b Is It=>simp only[Ex.depth,Ex.size];omega
theorem Ex.pq(ns:List ByteArray)(t:Ex):(t.steps ns).length=t.size:=by
 induction t with
 | leaf x=>rfl
 | un x a ih=>simp[Ex.steps,Ex.size,ih]
 | bin x a b Is It=>grind[steps,size]
theorem Tc(t:Ex)(h:t.wf):∀n r,skip (n+1) (t.flat++r)=skip n r:=by
 induction t with
 | leaf x=>
  intro n r
  show(if kids x.op<0 then none else skip (n+(kids x.op).toNat) r)=_
  rw[show kids x.op=0 from h];rfl
 | un x a ih=>
  intro n r
  show(if kids x.op<0 then none else skip (n+(kids x.op).toNat) (a.flat++r))=_
  rw[show kids x.op=1 from h.1,if_neg (by omega)];exact ih h.2 n r
 | bin x a b Is It=>
  intro n r
  show(if kids x.op<0 then none else skip (n+(kids x.op).toNat) (a.flat++b.flat++r))=_
  rw[show kids x.op=2 from h.1,if_neg (by omega),List.append_assoc]
  show skip (n+1+1) _=_
  rw[Is h.2.1 (n+1),It h.2.2 n]
theorem Rb:∀(k:Nat) (l r:List bX),l.length<=k->skip 1 l=some r->∃t:Ex,t.wf/\l=t.flat++r
 | k,[],r,_,h=>by cases h
 | 0,x::l,r,hk,_=>by simp at hk
 | k+1,x::l,r,hk,h=>by
  have hk:l.length<=k:=by grind
  have h:(if kids x.op<0 then none else skip (0+(kids x.op).toNat) l)=some r:=h
  have hb:=tH x.op
  split at h
  ·cases h
  ·rcases(show kids x.op=0\/kids x.op=1\/kids x.op=2 by omega)with h0|h0|h0
   ·rw[h0]at h
    have h:skip 0 l=some r:=h
    rw[yO]at h;cases h
    exact⟨.leaf x,h0,rfl⟩
   ·rw[h0]at h
    obtain⟨a,ha,rfl⟩:=Rb k l r hk h
    exact⟨.un x a,⟨h0,ha⟩,rfl⟩
   ·rw[h0]at h
    have h:skip (1+1) l=some r:=h
    rw[D6]at h
    obtain⟨m,h1,h2⟩:=Option.bind_eq_some_iff.1 h
    obtain⟨a,ha,rfl⟩:=Rb k l m hk h1
    obtain⟨b,hb',rfl⟩:=Rb k m r (by grind) h2
    exact⟨.bin x a b,⟨h0,ha,hb'⟩,by simp[Ex.flat]⟩
def A5(xs:List bX)(i:Int)(t:Ex):Prop:=0<=i/\t.wf/\∃r,xs.drop i.toNat=t.flat++r
theorem A5.root{xs:List bX}{i:Int}{t:Ex}(h:A5 xs i t):xs[i.toNat]?=some t.root/\i<xs.length:=by
 obtain⟨h0,_,r,h⟩:=h
 have:(xs.drop i.toNat)[0]?=some t.root:=by rw[h,Ex.GI];rfl
 rw[List.getElem?_drop,Nat.add_zero]at this
 exact⟨this,by have:=(List.getElem?_eq_some_iff.1 this).1;omega⟩
theorem A5.end{xs:List bX}{i:Int}{t:Ex}(h:A5 xs i t):qe xs i=i+t.size/\i+t.size<=xs.length:=by
 have nH:=h.root.2
 obtain⟨h0,hw,r,h⟩:=h
 have hl:=congrArg List.length h
 rw[List.length_drop,List.length_append,Ex.cY]at hl
 refine⟨?_,by omega⟩
 unfold qe
 rw[if_neg (by omega),h,Tc t hw 0 r,yO]
 unfold Cz;grind
theorem A5.of{xs:List bX}{i:Int}(h:0<=qe xs i):∃t,A5 xs i t:=by
 unfold qe at h
 split at h
 ·omega
 cases hs:skip 1 (xs.drop i.toNat)with
 | none=>rw[hs]at h;unfold Cz at h;simp only[]at h;omega
 | some r=>
  obtain⟨t,hw,he⟩:=Rb _ _ r (Nat.le_refl _) hs
  exact⟨t,by omega,hw,r,he⟩
def qf(ks:List Ex)(k:Nat):Nat:=((ks.take k).map Ex.size).sum
theorem uw{ks:List Ex}{k:Nat}{a:Ex}(h:ks[k]?=some a):qf ks (k+1)=qf ks k+a.size:=by
 unfold qf;rw[<- gz h];simp
theorem A5.kid{xs:List bX}{i:Int}{t a:Ex}{k:Nat}(h:A5 xs i t)(ha:t.eA[k]?=some a):A5 xs (i+1+qf t.eA k) a:=by
 obtain⟨h0,hw,r,h⟩:=h
 refine⟨by omega,(Ex.tI hw (List.mem_of_getElem? ha)).1,?_⟩
 have hs:t.eA=t.eA.take k++a::t.eA.drop (k+1):=by
  obtain⟨hk,he⟩:=List.getElem?_eq_some_iff.1 ha
  rw[<- he,List.getElem_cons_drop,List.take_append_drop]
 have hl:(((t.eA.take k).map Ex.flat).flatten).length=qf t.eA k:=by
  unfold qf
  rw[List.length_flatten,List.map_map]
  congr 2
  exact funext λ x=>Ex.cY x
 have h2:xs.drop (i.toNat+1)=((t.eA.take k).map Ex.flat).flatten++(a.flat++(((t.eA.drop (k+1)).map Ex.flat).flatten++r)):=by
  rw[<- List.drop_drop,h,Ex.GI t]
  show(t.eA.map Ex.flat).flatten++r=_
  conv=>lhs;rw[hs]
  simp
 refine⟨((t.eA.drop (k+1)).map Ex.flat).flatten++r,?_⟩
 rw[show(i+1+(qf t.eA k:Int)).toNat=i.toNat+1+qf t.eA k from by omega,<- List.drop_drop,h2,<- hl,List.drop_left]
def CA(ks:List Ex)(k:Nat):Int:=((ks.take k).map Ex.depth).foldl max 0
theorem Bq{ks:List Ex}{k:Nat}{a:Ex}(h:ks[k]?=some a):CA ks (k+1)=max (CA ks k) a.depth:=by
 unfold CA;rw[<- gz h,List.map_append,List.foldl_append];rfl
theorem Og{ks:List Ex}{N:Int}(h0:0<=N)(h:∀a∈ks,a.depth<=N):∀k,0<=CA ks k/\CA ks k<=N
 | 0=>by simp[CA,h0]
 | k+1=>by
  have ih:=Og h0 h k
  cases hx:ks[k]? with
  | none=>
   have e:ks.take (k+1)=ks.take k:=by rw[List.take_add_one,hx];simp
   unfold CA at *;grind
  | some a=>rw[Bq hx];grind
theorem Ex.KN(t:Ex):t.depth=CA t.eA t.eA.length+1:=by
 cases t with
 | leaf x=>rfl
 | un x a=>have:=a.q7;grind[depth,CA,eA]
 | bin x a b=>have:=a.q7;grind[depth,CA,eA]
def Wn(ns:List ByteArray)(ks:List Ex)(k:Nat):List oe:=((ks.take k).map (Ex.steps ns)).flatten
theorem KO{ns:List ByteArray}{ks:List Ex}{k:Nat}{a:Ex}(h:ks[k]?=some a):Wn ns ks (k+1)=Wn ns ks k++a.steps ns:=by
 unfold Wn;rw[<- gz h];simp
theorem CX{ns:List ByteArray}{ks:List Ex}{k:Nat}:(Wn ns ks k).length=qf ks k:=by
 unfold Wn qf
 rw[List.length_flatten,List.map_map]
 congr 2
 exact funext λ x=>Ex.pq ns x
theorem Ex.u9(ns:List ByteArray)(t:Ex):t.steps ns=Wn ns t.eA t.eA.length++[⟨t.root.op,Ex.numOf ns t.root⟩]:=by
 cases t<;>simp[Ex.steps,Ex.eA,Wn,Ex.root]
def pt:Nat->List bX->Option (Ex×List bX)
 | 0,_=>none
 | _+1,[]=>none
 | n+1,x::l=>
  if kids x.op=0 then some (.leaf x,l)else if kids x.op=1 then(match pt n l with|some p=>some (.un x p.1,p.2)|none=>none)
  else if kids x.op=2 then(match pt n l with|some p=>(match pt n p.2 with|some q=>some (.bin x p.1 q.1,q.2)|none=>none)|none=>none)else none
theorem abY(t:Ex)(h:t.wf):∀n r,t.size<=n->pt n (t.flat++r)=some (t,r):=by
 induction t with
 | leaf x=>
  intro n r hn
  cases n with
  | zero=>simp[Ex.size]at hn
  | succ n=>show(if kids x.op=0 then _ else _)=_;rw[if_pos (show kids x.op=0 from h)];rfl
 | un x a ih=>
  intro n r hn
  cases n with
  | zero=>simp[Ex.size]at hn
  | succ n=>
   have h1:kids x.op=1:=h.1
   show(if kids x.op=0 then _ else if kids x.op=1 then(match pt n (a.flat++r)with|some p=>some (Ex.un x p.1,p.2)|none=>none)else _)=_
   rw[if_neg (by omega),if_pos h1,ih h.2 n r (by simp[Ex.size]at hn;omega)]
 | bin x a b Is It=>
  intro n r hn
  cases n with
  | zero=>simp[Ex.size]at hn
  | succ n=>
   have h1:kids x.op=2:=h.1
   show(if kids x.op=0 then _ else if kids x.op=1 then _ else if kids x.op=2 then(match pt n (a.flat++b.flat++r)with|some p=>(match pt n p.2 with|some q=>some (Ex.bin x p.1 q.1,q.2)|none=>none)|none=>none)else _)=_
   rw[if_neg (by omega),if_neg (by omega),if_pos h1,List.append_assoc,Is h.2.1 n _ (by simp[Ex.size]at hn;omega)]
   simp only[]
   rw[It h.2.2 n _ (by simp[Ex.size]at hn;omega)]
def yP(l:List bX):Option Ex:=match pt l.length l with|some p=>if p.2=[]then some p.1 else none|none=>none
theorem Td{t:Ex}(h:t.wf):yP t.flat=some t:=by
 unfold yP
 have:=abY t h t.flat.length [] (by rw[Ex.cY];omega)
 grind
theorem A5.zero{l:List bX}{t:Ex}(h:A5 l 0 t)(he:qe l 0=l.length):l=t.flat/\yP l=some t:=by
 have h1:=h.end
 obtain⟨_,hw,r,h⟩:=h
 have hl:=congrArg List.length h
 rw[List.length_append,Ex.cY]at hl
 simp at hl
 have:r=[]:=List.length_eq_zero_iff.1 (by omega)
 subst this
 have h:l=t.flat:=by grind
 exact⟨h,by rw[h];exact Td hw⟩
theorem Al:∀n l t r,pt n l=some (t,r)->t.wf/\l=t.flat++r
 | 0,l,t,r,h=>by cases h
 | n+1,[],t,r,h=>by cases h
 | n+1,x::l,t,r,h=>by
  have h:(if kids x.op=0 then some (Ex.leaf x,l)else if kids x.op=1 then(match pt n l with|some p=>some (Ex.un x p.1,p.2)|none=>none)
   else if kids x.op=2 then(match pt n l with|some p=>(match pt n p.2 with|some q=>some (Ex.bin x p.1 q.1,q.2)|none=>none)|none=>none)else none)=some (t,r):=h
  split at h
  ·rename_i hk;cases h;exact⟨hk,rfl⟩
  ·split at h
   ·rename_i hk
    cases ha:pt n l with
    | none=>grind
    | some p=>
     rw[ha]at h
     obtain⟨a,m⟩:=p
     cases h
     obtain⟨h1,rfl⟩:=Al n l a _ ha
     exact⟨⟨hk,h1⟩,rfl⟩
   ·split at h
    ·rename_i hk
     cases ha:pt n l with
     | none=>grind
     | some p=>
      rw[ha]at h
      obtain⟨a,m⟩:=p
      simp only[]at h
      cases hb:pt n m with
      | none=>grind
      | some q=>
       rw[hb]at h
       obtain⟨b,m'⟩:=q
       cases h
       obtain⟨h1,rfl⟩:=Al n l a _ ha
       obtain⟨h2,rfl⟩:=Al n m b _ hb
       exact⟨⟨hk,h1,h2⟩,by simp[Ex.flat]⟩
    ·cases h
theorem vc{l:List bX}{t:Ex}(h:yP l=some t):t.wf/\l=t.flat:=by
 unfold yP at h
 cases hp:pt l.length l with
 | none=>grind
 | some p=>
  rw[hp]at h
  obtain⟨a,r⟩:=p
  simp only[]at h
  split at h
  ·rename_i hr;cases h
   obtain⟨h1,h2⟩:=Al _ _ _ _ hp
   grind
  ·cases h
theorem D8{l:List bX}:(yP l).isSome=decide (qe l 0=l.length):=by
 by_cases h:qe l 0=l.length
 ·obtain⟨t,ht⟩:=A5.of (xs:=l) (i:=0) (by omega)
  rw[(ht.zero h).2,decide_eq_true h];rfl
 rw[decide_eq_false h]
 cases he:yP l with
 | none=>rfl
 | some t=>
  obtain⟨h1,rfl⟩:=vc he
  exact absurd (by have:=(show A5 t.flat 0 t from⟨by omega,h1,[],by simp⟩).end.1;rw[this,Ex.cY];omega) h
def kQ(x:bX):Bool:=decide (x.at_<0\/4000<x.at_)||decide (¬ x.op=1/\¬ x.n=0)||decide (¬ x.op=2/\¬ x.name=⟨#[]⟩)||decide (x.n<0\/4294967296<x.n)||(decide (x.op=2)&&!gB x.name)
def Rc(l:List bX):Int:=match yP l with|some t=>t.depth|none=>0
def fu(l:List bX):Bool:=decide (l.length<=40)&&(yP l).isSome&&!l.any kQ&&decide (Rc l<=12)
def Br(ns:List ByteArray)(l:List bX):List oe:=match yP l with|some t=>t.steps ns|none=>[]
def kH(ns:List ByteArray)(l:List bX):Int:=if fu l=false then 8 else if l.any (λ x=>decide (x.op=2)&&decide (cU ns x.name<0))then 9 else 0
def qg(ns:List ByteArray)(l:List bX):List oe:=if kH ns l=0 then Br ns l else []
theorem yQ{l:List bX}(h:fu l=true):qe l 0=l.length:=by
 unfold fu at h
 rw[D8]at h
 grind
theorem C252(lv:Value)(xs:List bX)(i:Int)(t:Ex)(N:Nat)(w:World)(hL:dC (λ _=>True) w lv xs)(hn:xs.length<=1048576)(hT:A5 xs i t)(hN:t.size<N):CR 252 [lv,.int .i64 i] w (λ v w'=>v=.int .i64 t.depth/\Ext w w'):=by
 obtain⟨po,hq,rU⟩:∃e,e=t.root/\xs[(i).toNat]?=some e:=⟨_,rfl,hT.root.1⟩;have hri:=hT.root.2;have hie:=hT.end;have Of:=Ex.oL hT.2.1;rw[<- hq]at Of;have Wm:=tH po.op;have hi0:=hT.1;have hs:=St.start w;refine abi _ _ _ _ ?_;unfold S252;refine aK (by omega) ?_;refine⟨λ m n a x w1=>∃k:Nat,n=.int .i64 (CA t.eA k)/\a=.int .i64 (i+1+qf t.eA k)/\x=.int .i64 (k:Int)/\m=t.eA.length-k/\k<=t.eA.length/\St w aY [] w1,⟨_,0,rfl,congrArg (Value.int .i64) (by simp[qf]),rfl,rfl,by omega,hs⟩,?_⟩;rintro m _ _ _ w1 ⟨k,rfl,rfl,rfl,rfl,hk,hs⟩ _;have hdk:=Og (ks:=t.eA) (N:=(t.size:Int)) (by omega) (λ a ha=>by have:=(Ex.tI hT.2.1 ha).2;have:=a.q7;omega) k
 refine aO gN (hL.ext hs.aF) (by omega) rU (λ _ D3=>bW (po).op eU D3 rfl rfl (λ _ gA=>aE bL (gA) (aT J5 hs (C273 _ _) (λ _ he hs=>aQ (aC (λ jY=>?_) (λ _=>aK (by omega) ⟨congrArg (Value.int .i64) (by rw[t.KN,show k=t.eA.length from by omega]),hs.aF⟩))))));obtain⟨a,sL⟩:=gx t.eA (i:=k) (by omega);have hka:=Ex.tI hT.2.1 (List.mem_of_getElem? sL);have Te:=hT.kid sL;have UE:=Te.end;have Tf:=a.q7;exact aT Vm hs (C252 _ _ _ _ (N-1) _ (hL.ext hs.aF) hn Te (by omega)) (λ _ _ hs=>CU (aT J3 hs (C251 _ _ _ ((xs).length+1) _ (hL.ext hs.aF) (by omega) (by omega) (by omega)) (λ _ _ hs=>aK (by omega) ⟨_,by omega,k+1,by rw[Bq sL],congrArg (Value.int .i64) (by rw[UE.1,uw sL];omega),rfl,rfl,by omega,hs⟩)))
termination_by N
decreasing_by omega
theorem C200(lv:Value)(xs:List bX)(w:World)(hL:dC (λ _=>True) w lv xs)(hn:xs.length<=1048576)(Rd:∀x∈xs,x.name.size<=1048576):CR 200 [lv] w (λ v w'=>v=.bool (fu xs)/\Ext w w'):=by
 have hs:=St.start w;refine eS Tryz.func200 ?_;refine⟨λ jv w'=>jv=.bool (decide (40<xs.length)||decide (¬ qe xs 0=xs.length))/\St w aY [] w',aI gN (hL.ext hs.aF) (cP (aC (λ _=>⟨vb (by grind),hs⟩) (λ _=>aT J3 hs (C251 _ _ _ ((xs).length+1) _ (hL.ext hs.aF) (by omega) (by omega) (by omega)) (λ _ _ hs=>aI gN (hL.ext hs.aF) (bV ⟨vb (by grind),hs⟩))))),?_⟩;rintro _ _ ⟨rfl,hs⟩ _;refine aW (λ jI=>?_) (λ jI=>?_)
 ·refine⟨vb ?_,hs.aF⟩;unfold fu;rw[D8]
  grind
 refine⟨λ m x w1=>∃k:Nat,x=.int .i64 (k:Int)/\m=xs.length-k/\k<=xs.length/\(∀y∈xs.take k,kQ y=false)/\St w aY [] w1,⟨_,0,rfl,rfl,Nat.zero_le _,by simp,hs⟩,?_⟩;rintro m _ _ ⟨k,rfl,rfl,hk,eD,hs⟩ _;refine aI gN (hL.ext hs.aF) (aQ (aC (λ lB=>?_) (λ lB=>?_)))
 ·obtain⟨qh,kI⟩:=gx (xs) (i:=((k:Int)).toNat) (by omega);refine aO gN (hL.ext hs.aF) (by omega) kI (λ _ qi=>aE rK (qi) (aM hs xw (λ Oh _ hs=>aJ (x:=qh) hs rK rfl rfl (λ _ hs=>⟨λ jv w'=>jv=.bool (kQ qh)/\St w aY [] w',aA rL (aB bL hs.hb rfl (aQ (aC (λ _=>⟨vb (by unfold kQ;grind),hs.drop⟩) (λ ly=>aA rL (aB bL hs.hb rfl (cP (aC (λ _=>⟨vb (by unfold kQ;grind),hs.drop⟩) (λ lT=>?_)))))))),?_⟩))))
  ·refine aA eU (aB bL hs.hb rfl (bV (aC (λ Cc=>aA je (aB bL hs.hb rfl (bV (aC (λ _=>⟨vb (by unfold kQ;grind),hs.drop⟩) (λ wC=>aA eU (aB bL hs.hb rfl (bV (aC (λ wz=>aA fY (aB gj hs.hb rfl (lM (aC (λ _=>⟨vb (by unfold kQ;grind),hs.drop⟩) (λ KP=>?_))))) (λ wz=>?_))))))))) (λ Cc=>?_))))
   ·refine aA je (aB bL hs.hb rfl (aQ ?_));exact aC (λ _=>⟨vb (by unfold kQ;grind),hs.drop⟩) (λ _=>aA je (aB bL hs.hb rfl (cP (aC (λ _=>⟨vb (by unfold kQ;grind),hs.drop⟩) (λ _=>aA eU (aB bL hs.hb rfl (aH (aC (λ _=>aA fY (aB gj hs.hb rfl (aT ub hs (C211 _ _ (Rd _ (List.mem_of_getElem? kI))) (λ _ _ hs=>bQ ⟨vb (by unfold kQ;grind),hs.drop⟩)))) (λ _=>⟨vb (by unfold kQ;grind),hs.drop⟩)))))))))
   ·refine aA je (aB bL hs.hb rfl (aQ ?_));exact aC (λ _=>⟨vb (by unfold kQ;grind),hs.drop⟩) (λ _=>aA je (aB bL hs.hb rfl (cP (aC (λ _=>⟨vb (by unfold kQ;grind),hs.drop⟩) (λ _=>aA eU (aB bL hs.hb rfl (aH (aC (λ _=>aA fY (aB gj hs.hb rfl (aT ub hs (C211 _ _ (Rd _ (List.mem_of_getElem? kI))) (λ _ _ hs=>bQ ⟨vb (by unfold kQ;grind),hs.drop⟩)))) (λ _=>⟨vb (by unfold kQ;grind),hs.drop⟩)))))))))
   refine aA eU (aB bL hs.hb rfl (bV (aC (λ abZ=>aA fY (aB gj hs.hb rfl (lM (aC (λ _=>⟨vb (by unfold kQ;grind),hs.drop⟩) (λ ar2=>?_))))) (λ abZ=>?_))))
   ·refine aA je (aB bL hs.hb rfl (aQ ?_));exact aC (λ _=>⟨vb (by unfold kQ;grind),hs.drop⟩) (λ _=>aA je (aB bL hs.hb rfl (cP (aC (λ _=>⟨vb (by unfold kQ;grind),hs.drop⟩) (λ _=>aA eU (aB bL hs.hb rfl (aH (aC (λ _=>aA fY (aB gj hs.hb rfl (aT ub hs (C211 _ _ (Rd _ (List.mem_of_getElem? kI))) (λ _ _ hs=>bQ ⟨vb (by unfold kQ;grind),hs.drop⟩)))) (λ _=>⟨vb (by unfold kQ;grind),hs.drop⟩)))))))))
   refine aA je (aB bL hs.hb rfl (aQ ?_));exact aC (λ _=>⟨vb (by unfold kQ;grind),hs.drop⟩) (λ _=>aA je (aB bL hs.hb rfl (cP (aC (λ _=>⟨vb (by unfold kQ;grind),hs.drop⟩) (λ _=>aA eU (aB bL hs.hb rfl (aH (aC (λ _=>aA fY (aB gj hs.hb rfl (aT ub hs (C211 _ _ (Rd _ (List.mem_of_getElem? kI))) (λ _ _ hs=>bQ ⟨vb (by unfold kQ;grind),hs.drop⟩)))) (λ _=>⟨vb (by unfold kQ;grind),hs.drop⟩)))))))))
  rintro _ _ ⟨rfl,hs⟩ _;refine aW (λ Wo=>?_) (λ Wo=>aK (by omega) ⟨_,by omega,k+1,rfl,rfl,by omega,dR eD kI Wo,hs⟩);refine⟨vb ?_,hs.aF⟩;unfold fu;rw[gU kI Wo];simp
 have Wp:qe xs 0=xs.length:=by grind
 have h40:xs.length<=40:=by grind
 obtain⟨t,ht⟩:=A5.of (xs:=xs) (i:=0) (by omega);have hz:=ht.zero Wp;refine aT Vm hs (C252 _ _ _ t (t.size+1) _ (hL.ext hs.aF) hn ht (by omega)) (λ _ he hs=>im ?_);rw[List.take_of_length_le (by omega)]at eD;refine⟨vb ?_,hs.aF⟩;unfold fu Rc;rw[il eD,hz.2];simp[h40]
theorem C272(lv nv:Value)(xs:List bX)(ns:List ByteArray)(i:Int)(t:Ex)(N:Nat)(w:World)(hL:dC (λ _=>True) w lv xs)(hN:dC (λ _=>True) w nv ns)(hn:xs.length<=1048576)(A3:ns.length<=1048576)(hT:A5 xs i t)(hNt:t.size<N):CR 272 [lv,.int .i64 i,nv] w (λ v w'=>lL (bG v (t.steps ns)) w w'):=by
 obtain⟨po,hq,rU⟩:∃e,e=t.root/\xs[(i).toNat]?=some e:=⟨_,rfl,hT.root.1⟩;have hri:=hT.root.2;have hie:=hT.end;have Of:=Ex.oL hT.2.1;rw[<- hq]at Of;have Wm:=tH po.op;have hi0:=hT.1;have hs:=St.start w;refine eS Tryz.func272 ?_;refine aX (([]:List oe)) hs tc rfl rfl (dI rfl) (λ s_x11 w1 hs=>aK (by omega) ?_);refine⟨λ m Oi a x w1=>∃k:Nat,a=.int .i64 (i+1+qf t.eA k)/\x=.int .i64 (k:Int)/\m=t.eA.length-k/\k<=t.eA.length/\St w aY [bG Oi (Wn ns t.eA k)] w1,⟨_,0,congrArg (Value.int .i64) (by simp[qf]),rfl,rfl,by omega,hs⟩,?_⟩;rintro m Oi _ _ _ ⟨k,rfl,rfl,rfl,hk,hs⟩ _
 refine aO gN (hL.ext hs.aF) (by omega) rU (λ _ KM=>bW (po).op eU KM rfl rfl (λ _ uu=>aE bL (uu) (aT J5 hs (C273 _ _) (λ _ he hs=>aQ (aC (λ kD=>?_) (λ kD=>?_))))))
 ·obtain⟨a,sL⟩:=gx t.eA (i:=k) (by omega);have hka:=Ex.tI hT.2.1 (List.mem_of_getElem? sL);have Te:=hT.kid sL;have UE:=Te.end;have Tf:=a.q7;have UF:=CX (ns:=ns) (ks:=t.eA) (k:=k);have Tg:=Ex.pq ns a;refine ek ae7 hs (C272 _ _ _ _ _ _ (N-1) _ (hL.ext hs.aF) (hN.ext hs.aF) hn A3 Te (by omega)) (λ x28 _ cO hs=>?_);have Oj:=(hs).dX;exact bI hs.p1 tc Oj (by omega) (by decide) (λ _ _ hs=>have hs:=hs.p1.drop;aT J3 hs (C251 _ _ _ ((xs).length+1) _ (hL.ext hs.aF) (by omega) (by omega) (by omega)) (λ _ _ hs=>aK (by omega) ⟨_,by omega,k+1,congrArg (Value.int .i64) (by rw[UE.1,uw sL];omega),rfl,rfl,by omega,by rw[KO sL];exact hs⟩))
 have UF:=CX (ns:=ns) (ks:=t.eA) (k:=k);refine aO gN (hL.ext hs.aF) (by omega) rU (λ _ KQ=>bW (po).n je KQ rfl rfl (λ _ D9=>aE bL (D9) ⟨λ jv w'=>jv=.int .i64 (Ex.numOf ns po)/\St w aY [bG Oi (Wn ns t.eA k)] w',aO gN (hL.ext hs.aF) (by omega) rU (λ _ Wq=>bW (po).op eU Wq rfl rfl (λ _ ani=>aE bL (ani) (aH (aC (λ _=>aO gN (hL.ext hs.aF) (by omega) rU (λ _ Am=>bW (po).name fY Am rfl rfl (λ _ KR=>aE gj (KR) (aT rD hs (C123 _ ns _ _ (hN.ext hs.aF) (by omega)) (λ _ _ hs=>⟨congrArg (Value.int .i64) (by grind[Ex.numOf]),hs⟩))))) (λ _=>⟨congrArg (Value.int .i64) (by grind[Ex.numOf]),hs⟩))))),?_⟩))
 rintro _ _ ⟨rfl,hs⟩ _;refine aO gN (hL.ext hs.aF) (by omega) rU (λ _ Wr=>bW (po).op eU Wr rfl rfl (λ _ Ai=>aE bL (Ai) (pop (DM _ _) (aX ([(⟨(po).op,(Ex.numOf ns po)⟩:oe)]) hs tc rfl rfl (dI rfl) (λ s_x59 _ hs=>?_)))));have aht:=(hs).dX;refine bI hs.p1 tc aht (by rw[UF,List.length_singleton];have:(t.steps ns).length=t.size:=Ex.pq ns t;rw[Ex.u9,List.length_append,List.length_singleton,<- show k=t.eA.length from by omega]at this;omega) (by decide) (λ s_x60 _ hs=>?_);have hs:=hs.p1.drop;rw[Ex.u9,<- show k=t.eA.length from by omega,<- hq];exact hs.fresh
termination_by N
decreasing_by omega
theorem C220(lv nv:Value)(xs:List bX)(ns:List ByteArray)(w:World)(hL:dC (λ _=>True) w lv xs)(hN:dC (λ _=>True) w nv ns)(hn:xs.length<=1048576)(A3:ns.length<=1048576)(Rd:∀x∈xs,x.name.size<=1048576):CR 220 [lv,nv] w (λ v w'=>∃s,v=.tuple #[s,.int .i64 (kH ns xs)]/\lL (bG s (qg ns xs)) w w'):=by
 have hs:=St.start w;refine abf _ _ _ _ ?_;unfold S220;refine aT J2 hs (C200 _ _ _ (hL.ext hs.aF) hn Rd) (λ w1 he hs=>bQ (aW (λ jj=>?_) (λ jj=>?_)))
 ·have h8:kH ns xs=8:=by unfold kH;rw[if_pos (by simpa using jj)]
  refine⟨_,by rw[h8],?_⟩;unfold qg;rw[h8,if_neg (by decide)];exact(hs.eJ (α:=oe)).fresh
 refine⟨λ m x w1=>∃k:Nat,x=.int .i64 (k:Int)/\m=xs.length-k/\k<=xs.length/\(∀y∈xs.take k,(decide (y.op=2)&&decide (cU ns y.name<0))=false)/\St w aY [] w1,⟨_,0,rfl,rfl,Nat.zero_le _,by simp,hs⟩,?_⟩;rintro m _ _ ⟨k,rfl,rfl,hk,eD,hs⟩ _;refine aI gN (hL.ext hs.aF) (aQ (aC (λ wB=>?_) (λ wB=>?_)))
 ·obtain⟨qM,iQ⟩:=gx (xs) (i:=((k:Int)).toNat) (by omega);refine⟨λ jv w'=>jv=.bool (decide (qM.op=2)&&decide (cU ns qM.name<0))/\St w aY [] w',aO gN (hL.ext hs.aF) (by omega) iQ (λ _ uu=>bW (qM).op eU uu rfl rfl (λ _ mi=>aE bL (mi) (aH (aC (λ _=>aO gN (hL.ext hs.aF) (by omega) iQ (λ _ wD=>bW (qM).name fY wD rfl rfl (λ _ ux=>aE gj (ux) (aT rD hs (C123 _ ns _ _ (hN.ext hs.aF) (by omega)) (λ _ _ hs=>aQ ⟨vb (by grind),hs⟩))))) (λ _=>⟨vb (by grind),hs⟩))))),?_⟩;rintro _ _ ⟨rfl,hs⟩ _;refine aW (λ lT=>?_) (λ lT=>aK (by omega) ⟨_,by omega,k+1,rfl,rfl,by omega,dR eD iQ lT,hs⟩)
  have h9:kH ns xs=9:=by unfold kH;rw[if_neg (by simpa using jj),if_pos (gU iQ lT)]
  refine⟨_,by rw[h9],?_⟩;unfold qg;rw[h9,if_neg (by decide)];exact(hs.eJ (α:=oe)).fresh
 have hre:fu xs=true:=by simpa using jj
 have Wp:=yQ hre;obtain⟨t,ht⟩:=A5.of (xs:=xs) (i:=0) (by omega);have hz:=ht.zero Wp;refine ek ae7 hs (C272 _ _ _ _ _ t (t.size+1) _ (hL.ext hs.aF) (hN.ext hs.aF) hn A3 ht (by omega)) (λ x34 _ cO hs=>?_);rw[List.take_of_length_le (by omega)]at eD;have h0:kH ns xs=0:=by unfold kH;rw[if_neg (by simpa using jj),if_neg (by rw[il eD];simp)]
 refine⟨x34,by rw[h0],?_⟩;unfold qg Br;rw[if_pos h0,hz.2];exact hs.fresh
end Go.Proofs.YtpdlpabnlkofmaaGreatDoor
