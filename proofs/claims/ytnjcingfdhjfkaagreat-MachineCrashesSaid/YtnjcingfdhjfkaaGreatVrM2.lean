/-
  What the proof needs, part 2.
-/
import Derived.Test.YtnjcingfdhjfkaaGreatVrM1
set_option linter.all false
namespace Go.Proofs.YtnjcingfdhjfkaaGreat
open Go.Fw
set_option maxRecDepth 100000
variable (w:World) (K:Value→World→Prop)
def S106 (l0 i1 Dk:Value):Prop:=
 bS 99 0 [] w λ a b=>bB .add 3 i1 (i 1) λ c=>JP (λ K1 RJ at8 k9 d=>∀ _:Env,
 iA 86 l0 i1 λ e=>fA 166 e 0 λ f=>lA 3 f d λ g=>cF 163 [g] d λ h j=>bA .lss 3 k9 h λ k=>cV k (cF 106 [l0,at8,Dk] j λ l n=>aP 99 RJ l n λ o p=>cF 160 [l0,at8] p λ q r=>
 bB .add 3 k9 (i 1) λ s=>K1 o q s r) (iA 86 l0 i1 λ t=>fA 166 t 1 λ u=>lA 3 u j λ v=>bP (λ K2=>iA 86 l0 i1 λ x=>fA 166 x 0 λ y=>lA 3 y j λ z=>bB .eql 3 z (i 2) λ aa=>
 cV aa (iA 86 l0 i1 λ ab=>fA 166 ab 2 λ ac=>lA 9 ac j λ ad=>cF 98 [Dk,ad] j λ ae af=>K2 ae af) (K2 v j)) (λ n10 ag=>∀ _:Env,
 iA 86 l0 i1 λ ah=>fA 166 ah 0 λ ai=>lA 3 ai ag λ aj=>cW Tryz.prog (Instr.build 200 [(0,aj),(1,n10)].toArray) λ ak=>bS 99 1 [(0,ak)] ag λ al am=>aP 99 RJ al am λ an ao=>
 K an ao))) (λ K1=>K1 a c (i 0) b)
theorem Y9 (l0 i1 Dk:Value) (h:S106 w K l0 i1 Dk):CR 106 [l0,i1,Dk] w K:=
 eC 62 (λ _=>.nil) 64 [.tmp 6] Tryz.func106 h
def S107 (l0:Value):Prop:=
 bS 95 0 [] w λ a b=>kh (λ K1 fX i4 c=>∀ _:Env,
 lN 23 l0 λ d=>bA .lss 3 i4 d λ e=>cV e (iA 23 l0 i4 λ f=>fA 163 f 0 λ g=>lA 9 g c λ h=>bS 95 1 [(0,h)] c λ j k=>aP 95 fX j k λ l n=>bB .add 3 i4 (i 1) λ o=>
 K1 l o n) (K fX c)) (λ K1=>K1 a (i 0) b)
theorem Za (l0:Value) (h:S107 w K l0):CR 107 [l0] w K:=
 eC 21 (λ _=>.nil) 4 [.tmp 2] Tryz.func107 h
def S109 (s0:Value):Prop:=
 aL 27 w λ a b=>cF 164 [s0] b λ c d=>xT c 0 λ e=>xT c 1 λ f=>xT c 2 λ g=>bB .neq 37 f (i 0) λ h=>cV h (cW Tryz.prog (Instr.build 27 [].toArray) λ j=>sA 27 a j d λ k=>
 lA 27 a k λ r=>K (.tuple #[r,f,g]) k) (cW Tryz.prog (Instr.build 237 [(0,e)].toArray) λ l=>gU Tryz.prog (Instr.box 237 l) d λ n o=>cW Tryz.prog (Instr.build 27 [].toArray) λ p=>
 aL 27 o λ p9 q=>sA 27 p9 p q λ s=>vI (λ K1 t=>∀ _:Env,
 cF 165 [n,(Go.Value.string (ByteArray.mk (#[108,105,110,101])))] t λ u v=>cV u (fA 27 p9 0 λ x=>lA 22 x (drew v) λ y=>cF 166 [n,tt] (drew v) λ z aa=>kA 22 x y aa (
 bS 22 1 [(0,z)] aa λ ab ac=>kA 22 x y ac (aP 22 y ab ac λ ad ae=>fA 27 p9 0 λ af=>sA 22 af ad ae λ ag=>K1 ag))) (vI (λ K2 ah=>∀ _:Env,
 cF 165 [n,(Go.Value.string (ByteArray.mk (#[118,111,108])))] ah λ ai aj=>cV ai (fA 27 p9 1 λ ak=>lA 23 ak (drew aj) λ al=>cF 166 [n,tt] (drew aj) λ am an=>kA 23 ak al an (
 aP 23 al am an λ ao ap=>fA 27 p9 1 λ aq=>sA 23 aq ao ap λ ar=>K2 ar)) (vI (λ K3 asx=>∀ _:Env,
 cF 165 [n,(Go.Value.string (ByteArray.mk (#[108,111,99,107])))] asx λ au av=>cV au (fA 27 p9 2 λ aw=>lA 23 aw (drew av) λ ax=>cF 166 [n,ff] (drew av) λ ay az=>kA 23 aw ax az (
 aP 23 ax ay az λ a0 a1=>fA 27 p9 2 λ a2=>sA 23 a2 a0 a1 λ a3=>K3 a3)) (vI (λ K4 a4=>∀ _:Env,
 cF 165 [n,(Go.Value.string (ByteArray.mk (#[116,104,114,101,97,100])))] a4 λ a5 a6=>cV a5 (cF 167 [n] a6 λ a7 a8=>aL 163 a8 λ c10 a9=>sA 163 c10 a7 a9 λ ba=>fA 27 p9 3 λ bb=>
 lA 24 bb (drew ba) λ bc=>fA 163 c10 0 λ bd=>lA 9 bd (drew ba) λ be=>fA 163 c10 2 λ bf=>lA 3 bf (drew ba) λ bg=>cW Tryz.prog (Instr.build 98 [(0,be),(3,bg)].toArray) λ bh=>
 cF 168 [n,bh] (drew ba) λ bi bj=>kA 24 bb bc bj (bS 24 1 [(0,bi)] bj λ bk bl=>kA 24 bb bc bl (aP 24 bc bk bl λ bm bn=>fA 27 p9 3 λ bo=>sA 24 bo bm bn λ bp=>K4 bp))) (
 lI (λ K5=>cF 165 [n,(Go.Value.string (ByteArray.mk (#[114,101,99,111,118,101,114])))] a6 λ bq br=>cV bq (fA 27 p9 4 λ bs=>lA 24 bs (drew br) λ bt=>nC n λ bu=>
 fA 237 bu 1 λ bv=>lA 3 bv (drew br) λ bw=>bB .sub 3 bw (i 1) λ bx=>iA 232 e bx λ bz=>fA 242 bz 3 λ b0=>lA 3 b0 (drew br) λ b1=>cW Tryz.prog (Instr.build 98 [(3,b1)].toArray) λ b2=>
 cF 168 [n,b2] (drew br) λ b3 b4=>kA 24 bs bt b4 (bS 24 1 [(0,b3)] b4 λ b5 b6=>kA 24 bs bt b6 (aP 24 bt b5 b6 λ b7 b8=>fA 27 p9 4 λ b9=>sA 24 b9 b7 b8 λ ca=>K5 ca))) (
 K5 br)) (λ cb=>∀ _:Env,
 vI (λ K6 cc=>∀ _:Env,
 cF 165 [n,(Go.Value.string (ByteArray.mk (#[97,108,119,97,121,115])))] cc λ cd ce=>cV cd (fA 27 p9 5 λ cf=>lA 25 cf (drew ce) λ cg=>nC n λ ch=>fA 237 ch 1 λ ci=>
 lA 3 ci (drew ce) λ cj=>bB .sub 3 cj (i 1) λ ck=>iA 232 e ck λ cl=>fA 242 cl 3 λ cm=>lA 3 cm (drew ce) λ cn=>cF 169 [n,cn] (drew ce) λ co cp=>kA 25 cf cg cp (bS 25 1 [(0,co)] cp λ cq cr=>
 kA 25 cf cg cr (aP 25 cg cq cr λ cs ct=>fA 27 p9 5 λ cu=>sA 25 cu cs ct λ cv=>K6 cv))) (lI (λ K7=>nC n λ cw=>fA 237 cw 1 λ cx=>lA 3 cx ce λ cy=>lN 232 e λ cz=>
 bA .lss 3 cy cz λ c0=>cV c0 (cF 170 [n] ce λ _ c1=>K7 c1) (K7 ce)) (λ c2=>∀ _:Env,
 nC n λ c3=>fA 237 c3 2 λ c4=>lA 37 c4 c2 λ c5=>bB .neq 37 c5 (i 0) λ c6=>cV c6 (cW Tryz.prog (Instr.build 27 [].toArray) λ c7=>nC n λ c8=>fA 237 c8 2 λ c9=>lA 37 c9 (drew c2) λ da=>
 nC n λ db=>fA 237 db 3 λ dc=>lA 3 dc (drew c2) λ dd=>sA 27 a c7 (drew c2) λ de=>kA 37 c9 da de (kA 3 dc dd de (lA 27 a de λ zm=>K (.tuple #[zm,da,dd]) de))) (lA 27 p9 c2 λ df=>
 sA 27 a df c2 λ dg=>lA 27 a dg λ MY=>K (.tuple #[MY,(i 0),(i 0)]) dg)))) (λ K6=>K6 cb)))) (λ K4=>K4 av))) (λ K3=>K3 aj))) (λ K2=>K2 v))) (λ K1=>K1 s))
def au3:dL:=λ i=>match i with
 | 6=>(.of [(0,[]),(1,[]),(2,[]),(3,[1]),(4,[1]),(5,[]),(6,[]),(7,[])])
 | 8=>(.of [(0,[]),(1,[]),(2,[]),(3,[1]),(4,[]),(5,[]),(6,[])])
 | 10=>(.of [(0,[]),(1,[]),(2,[]),(3,[1]),(4,[]),(5,[]),(6,[])])
 | 13=>(.of [(0,[]),(1,[]),(2,[]),(3,[]),(4,[]),(5,[]),(6,[]),(7,[]),(8,[1]),(9,[1]),(10,[]),(11,[]),(12,[])])
 | 15=>(.of [(0,[]),(1,[]),(2,[]),(3,[]),(4,[]),(5,[]),(6,[]),(7,[]),(8,[]),(9,[]),(10,[]),(11,[]),(12,[]),(13,[1]),(14,[1]),(15,[]),(16,[]),(17,[])])
 | 17=>(.of [(0,[]),(1,[]),(2,[]),(3,[]),(4,[]),(5,[]),(6,[]),(7,[]),(8,[]),(9,[]),(10,[]),(11,[]),(12,[1]),(13,[1]),(14,[]),(15,[]),(16,[])])
 | 21=>(.of [(0,[]),(1,[]),(2,[]),(3,[]),(4,[]),(5,[]),(6,[]),(7,[]),(8,[]),(9,[4,8]),(10,[]),(11,[])])
 | _=>.nil
theorem Zb (s0:Value) (h:S109 w K s0):CR 109 [s0] w K:=
 eC 128 au3 28 [.cell 2 27,.tmp 3,.tmp 4] Tryz.func109 h
def S110 (l0 J0:Value):Prop:=
 lN 28 J0 λ a=>cF 116 [l0,a] w λ b c=>cW Tryz.prog (Op.unary .not b) λ d=>cV d (K (.tuple #[(i 0),(i 8)]) c) (aL 247 c λ p6 e=>lN 99 l0 λ f=>eS (λ K1 g h=>∀ _:Env,
 bA .lss 3 g f λ j=>cV j (lI (λ K2=>iA 99 l0 g λ k=>lA 200 k h λ l=>aL 200 h λ n o=>sA 200 n l o λ p=>fA 200 n 0 λ q=>lA 3 q p λ r=>cF 171 [r] p λ s t=>
 bB .eql 3 s (i 0) λ u=>cV u (fA 200 n 1 λ v=>lA 3 v t λ x=>bP (λ K3=>fA 200 n 0 λ y=>lA 3 y t λ z=>bB .eql 3 z (i 2) λ aa=>cV aa (fA 200 n 1 λ ab=>lA 3 ab t λ ac=>
 iA 28 J0 ac λ ad=>lA 3 ad t λ ae=>K3 ae t) (K3 x t)) (λ n9 af=>∀ _:Env,
 cF 172 [p6,n9] af λ _ ag=>K2 ag)) (bB .eql 3 s (i 1) λ ah=>cV ah (fA 200 n 0 λ ai=>lA 3 ai (drew t) λ aj=>fA 247 p6 0 λ ak=>cF 174 [ak] (drew t) λ al am=>kA 3 ai aj am (
 cF 173 [aj,al] am λ an ao=>xT an 0 λ ap=>xT an 1 λ _=>cF 172 [p6,ap] ao λ _ aq=>K2 aq)) (fA 247 p6 0 λ ar=>cF 174 [ar] t λ asx au=>fA 200 n 0 λ av=>lA 3 av (drew au) λ aw=>
 fA 247 p6 0 λ ax=>cF 174 [ax] (drew au) λ ay az=>kA 3 av aw az (cF 175 [aw,ay,asx] az λ a0 a1=>xT a0 0 λ a2=>xT a0 1 λ a3=>bB .neq 37 a3 (i 0) λ a4=>cV a4 (K (.tuple #[(i 0),a3]) a1) (
 cF 172 [p6,a2] a1 λ _ a5=>K2 a5))))) (λ a6=>∀ _:Env,
 bB .add 3 g (i 1) λ a7=>K1 a7 a6)) (fA 247 p6 0 λ a8=>cF 174 [a8] h λ a9 ba=>K (.tuple #[a9,(i 0)]) ba)) (λ K1=>K1 (i 0) e))
def au4:dL:=λ i=>match i with
 | 9=>(.of [(0,[]),(1,[]),(2,[]),(4,[]),(3,[1]),(5,[]),(6,[]),(7,[]),(8,[]),(9,[]),(10,[])])
 | 19=>(.of [(0,[]),(1,[]),(2,[]),(3,[1]),(4,[]),(5,[]),(6,[]),(7,[]),(8,[]),(9,[])])
 | _=>.nil
theorem Zc (l0 J0:Value) (h:S110 w K l0 J0):CR 110 [l0,J0] w K:=
 eC 74 au4 48 [.tmp 4,.tmp 5] Tryz.func110 h
def S111 (n0:Value):Prop:=
 bP (λ K1=>bB .lss 3 n0 (i 0) λ a=>cV a (K1 tt w) (bB .gtr 3 n0 (i 4294967296) λ b=>K1 b w)) (λ c d=>∀ _:Env,
 K c d)
theorem Zd (n0:Value) (h:S111 w K n0):CR 111 [n0] w K:=
 eC 9 (λ _=>.nil) 4 [.tmp 2] Tryz.func111 h
def S112 (c0 a:Value):Prop:=
 gU Tryz.prog (Instr.box 33 c0) w λ c2 b=>lA 33 c2 (drew b) λ c=>fA 36 a 0 λ d=>lA 28 d (drew b) λ e=>lN 28 e λ f=>lA 36 a (drew b) λ g=>fA 36 a 3 λ h=>lA 3 h (drew b) λ j=>
 cF 114 [g] (drew b) λ k l=>kA 33 c2 c l (kA 28 d e l (kA 3 h j l (cF 113 [c,f,k,j] l λ n o=>cW Tryz.prog (Op.unary .not n) λ p=>K p o)))
def au5:dL:=λ i=>match i with
 | 1=>(.of [(0,[]),(1,[]),(2,[]),(3,[]),(4,[]),(6,[]),(7,[]),(5,[0,2,7]),(8,[]),(9,[]),(10,[])])
 | _=>.nil
theorem Ze (c0 x1:Value) (h:S112 w K c0 x1):CR 112 [c0,x1] w K:=
 eC 14 au5 8 [.tmp 3] Tryz.func112 h
def S113 (c0 HN HO HQ:Value):Prop:=
 gU Tryz.prog (Instr.box 33 c0) w λ c4 a=>bP (λ K1=>fA 33 c4 0 λ b=>lA 3 b a λ c=>bB .lss 3 c (i 0) λ d=>cV d (K1 tt a) (fA 33 c4 0 λ e=>lA 3 e a λ f=>bB .gtr 3 f (i 4) λ g=>
 cV g (K1 tt a) (fA 33 c4 1 λ h=>lA 3 h a λ j=>bB .lss 3 j (i 0) λ k=>cV k (K1 tt a) (fA 33 c4 1 λ l=>lA 3 l a λ n=>bB .gtr 3 n (i 12) λ o=>K1 o a)))) (λ p q=>∀ _:Env,
 cV p (K ff q) (fA 33 c4 2 λ r=>lA 31 r q λ s=>lN 31 s λ t=>eS (λ K2 u v=>∀ _:Env,
 bA .lss 3 u t λ x=>cV x (iA 31 s u λ y=>lA 129 y v λ z=>aL 129 v λ aa ab=>sA 129 aa z ab λ ac=>bP (λ K3=>fA 129 aa 0 λ ad=>lA 3 ad ac λ ae=>bB .lss 3 ae (i 1) λ af=>
 cV af (K3 tt ac) (fA 129 aa 0 λ ag=>lA 3 ag ac λ ah=>bB .geq 3 ah (i 16) λ ai=>K3 ai ac)) (λ aj ak=>∀ _:Env,
 cV aj (K ff ak) (fA 129 aa 1 λ al=>lA 3 al (drew ak) λ am=>fA 33 c4 0 λ an=>lA 3 an (drew ak) λ ao=>fZ Tryz.prog (.func (Go.Fn.func 176) [].toArray [aa].toArray) [(.int .u8 114)] (drew ak) λ ap aq=>
 kA 3 al am aq (kA 3 an ao aq (cF 179 [ap,am,ao] aq λ ar asx=>bP (λ K4=>fZ Tryz.prog (.func (Go.Fn.func 176) [].toArray [aa].toArray) [(.int .u8 107)] asx λ au av=>cV au (
 fA 129 aa 1 λ aw=>lA 3 aw av λ ax=>fA 33 c4 1 λ ay=>lA 3 ay av λ az=>cF 179 [tt,ax,az] av λ a0 a1=>K4 a0 a1) (K4 ar av)) (λ a12 a2=>∀ _:Env,
 fA 129 aa 2 λ a3=>lA 3 a3 a2 λ a4=>bB .eql 3 a4 (i 0) λ a5=>bP (λ K5=>fZ Tryz.prog (.func (Go.Fn.func 176) [].toArray [aa].toArray) [(.int .u8 99)] a2 λ a6 a7=>
 cV a6 (fA 129 aa 2 λ a8=>lA 3 a8 a7 λ a9=>cF 179 [tt,a9,HN] a7 λ ba bb=>K5 ba bb) (fZ Tryz.prog (.func (Go.Fn.func 176) [].toArray [aa].toArray) [(.int .u8 108)] a7 λ bc bd=>
 cV bc (fA 129 aa 2 λ be=>lA 3 be bd λ bf=>cF 179 [tt,bf,HO] bd λ bg bh=>K5 bg bh) (fZ Tryz.prog (.func (Go.Fn.func 176) [].toArray [aa].toArray) [(.int .u8 109)] bd λ bi bj=>
 cV bi (fA 129 aa 2 λ bk=>lA 3 bk bj λ bl=>cF 179 [tt,bl,HQ] bj λ bm bn=>K5 bm bn) (fZ Tryz.prog (.func (Go.Fn.func 176) [].toArray [aa].toArray) [(.int .u8 110)] bj λ bo bp=>
 cV bo (fA 129 aa 2 λ bq=>lA 3 bq bp λ br=>bB .geq 3 br (i 1) λ bs=>cV bs (fA 129 aa 2 λ bt=>lA 3 bt bp λ bu=>bB .leq 3 bu (i 8) λ bv=>K5 bv bp) (K5 ff bp)) (K5 a5 bp)))))
 (λ b13 bw=>∀ _:Env,
 bP (λ K6=>fZ Tryz.prog (.func (Go.Fn.func 176) [].toArray [aa].toArray) [(.int .u8 101)] bw λ bx bz=>cV bx (fA 129 aa 3 λ b0=>lA 99 b0 bz λ b1=>fA 33 c4 0 λ b2=>
 lA 3 b2 bz λ b3=>cF 116 [b1,b3] bz λ b4 b5=>cV b4 (K6 tt b5) (fZ Tryz.prog (.func (Go.Fn.func 176) [].toArray [aa].toArray) [(.int .u8 101)] b5 λ b6 b7=>cW Tryz.prog (Op.unary .not b6) λ b8=>
 cV b8 (fA 129 aa 3 λ b9=>lA 99 b9 b7 λ ca=>lN 99 ca λ cb=>bB .eql 3 cb (i 0) λ cc=>K6 cc b7) (K6 ff b7))) (fZ Tryz.prog (.func (Go.Fn.func 176) [].toArray [aa].toArray) [(.int .u8 101)] bz λ cd ce=>
 cW Tryz.prog (Op.unary .not cd) λ cf=>cV cf (fA 129 aa 3 λ cg=>lA 99 cg ce λ ch=>lN 99 ch λ ci=>bB .eql 3 ci (i 0) λ cj=>K6 cj ce) (K6 ff ce))) (λ e14 ck=>∀ _:Env,
 bP (λ K7=>fZ Tryz.prog (.func (Go.Fn.func 176) [].toArray [aa].toArray) [(.int .u8 102)] ck λ cl cm=>cV cl (fA 129 aa 4 λ cn=>lA 99 cn cm λ co=>fA 33 c4 0 λ cp=>
 lA 3 cp cm λ cq=>cF 116 [co,cq] cm λ cr cs=>cV cr (K7 tt cs) (fZ Tryz.prog (.func (Go.Fn.func 176) [].toArray [aa].toArray) [(.int .u8 102)] cs λ ct cu=>cW Tryz.prog (Op.unary .not ct) λ cv=>
 cV cv (fA 129 aa 4 λ cw=>lA 99 cw cu λ cx=>lN 99 cx λ cy=>bB .eql 3 cy (i 0) λ cz=>K7 cz cu) (K7 ff cu))) (fZ Tryz.prog (.func (Go.Fn.func 176) [].toArray [aa].toArray) [(.int .u8 102)] cm λ c1 c2=>
 cW Tryz.prog (Op.unary .not c1) λ c3=>cV c3 (fA 129 aa 4 λ c5=>lA 99 c5 c2 λ c6=>lN 99 c6 λ c7=>bB .eql 3 c7 (i 0) λ c8=>K7 c8 c2) (K7 ff c2))) (λ f15 c9=>∀ _:Env,
 fA 129 aa 5 λ da=>lA 3 da c9 λ db=>bB .eql 3 db (i 0) λ dc=>bP (λ K8=>bP (λ K9=>fZ Tryz.prog (.func (Go.Fn.func 176) [].toArray [aa].toArray) [(.int .u8 116)] c9 λ dd de=>
 cV dd (fA 129 aa 0 λ df=>lA 3 df de λ dg=>bB .eql 3 dg (i 14) λ dh=>K9 dh de) (K9 ff de)) (λ di dj=>∀ _:Env,
 cV di (fA 33 c4 2 λ dk=>lA 31 dk dj λ dl=>cF 180 [dl,u] dj λ dm dn=>K8 dm dn) (fZ Tryz.prog (.func (Go.Fn.func 176) [].toArray [aa].toArray) [(.int .u8 116)] dj λ dp dq=>
 cV dp (fA 129 aa 5 λ dr=>lA 3 dr dq λ ds=>bA .gtr 3 ds u λ dt=>cV dt (fA 129 aa 5 λ du=>lA 3 du dq λ dv=>fA 33 c4 2 λ dw=>lA 31 dw dq λ dx=>lN 31 dx λ dy=>
 bA .leq 3 dv dy λ dz=>K8 dz dq) (K8 ff dq)) (K8 dc dq)))) (λ au7 d0=>∀ _:Env,
 bP (λ K10=>cW Tryz.prog (Op.unary .not a12) λ d1=>cV d1 (K10 tt d0) (cW Tryz.prog (Op.unary .not b13) λ d2=>cV d2 (K10 tt d0) (cW Tryz.prog (Op.unary .not e14) λ d3=>
 cV d3 (K10 tt d0) (cW Tryz.prog (Op.unary .not f15) λ d4=>cV d4 (K10 tt d0) (cW Tryz.prog (Op.unary .not au7) λ d5=>K10 d5 d0))))) (λ d6 d7=>∀ _:Env,
 cV d6 (K ff d7) (bB .add 3 u (i 1) λ d8=>K2 d8 d7)))))))))))) (fA 33 c4 2 λ d9=>lA 31 d9 v λ ea=>cF 181 [ea] v λ eb ec=>K eb ec)) (λ K2=>K2 (i 0) q)))
def au8:dL:=λ i=>match i with
 | 9=>(.of [(0,[]),(2,[]),(3,[]),(4,[]),(5,[]),(1,[3,5]),(6,[]),(7,[])])
 | _=>.nil
theorem Zf (c0 HN HO HQ:Value) (h:S113 w K c0 HN HO HQ):CR 113 [c0,HN,HO,HQ] w K:=
 eC 193 au8 256 [.tmp 8] Tryz.func113 h
def S114 (u0:Value):Prop:=
 gU Tryz.prog (Instr.box 36 u0) w λ u1 a=>bP (λ K1=>fA 36 u1 1 λ b=>lA 3 b a λ c=>bB .lss 3 c (i 1) λ d=>cV d (K1 tt a) (fA 36 u1 1 λ e=>lA 3 e a λ f=>fA 36 u1 0 λ g=>
 lA 28 g a λ h=>lN 28 h λ j=>bA .gtr 3 f j λ k=>K1 k a)) (λ l n=>∀ _:Env,
 cV l (K (i 0) n) (fA 36 u1 0 λ o=>lA 28 o n λ p=>fA 36 u1 1 λ q=>lA 3 q n λ r=>bB .sub 3 r (i 1) λ s=>iA 28 p s λ t=>lA 3 t n λ u=>bB .add 3 u (i 1) λ v=>K v n))
theorem Zg (u0:Value) (h:S114 w K u0):CR 114 [u0] w K:=
 eC 22 (λ _=>.nil) 4 [.tmp 2] Tryz.func114 h
def S115 (l0 a:Value):Prop:=
 fA 36 a 1 λ b=>lA 3 b w λ c=>cF 116 [l0,c] w λ d e=>cW Tryz.prog (Op.unary .not d) λ f=>K f e
theorem Zh (l0 x1:Value) (h:S115 w K l0 x1):CR 115 [l0,x1] w K:=
 eC 9 (λ _=>.nil) 8 [.tmp 3] Tryz.func115 h
def S116 (l0 many1:Value):Prop:=
 gU Tryz.prog (Instr.box 3 many1) w λ amW a=>cF 183 [l0] a λ b c=>xT b 0 λ d=>xT b 1 λ _=>xT b 2 λ e=>bP (λ K1=>lN 99 l0 λ f=>bB .leq 3 f (i 40) λ g=>
 cV g (cV e (bB .eql 3 d (i 1) λ h=>cV h (cF 184 [l0,(.func (Go.Fn.func 182) [].toArray [amW].toArray)] c λ j k=>cW Tryz.prog (Op.unary .not j) λ l=>K1 l k) (K1 ff c)) (
 K1 ff c)) (K1 ff c)) (λ n o=>∀ _:Env,
 K n o)
theorem Zi (l0 many1:Value) (h:S116 w K l0 many1):CR 116 [l0,many1] w K:=
 eC 32 (λ _=>.nil) 16 [.tmp 4] Tryz.func116 h
def S117 (s0 f1:Value):Prop:=
 cF 185 [s0,f1] w λ a b=>bB .geq 3 a (i 0) λ c=>K c b
theorem Zj (s0 f1:Value) (h:S117 w K s0 f1):CR 117 [s0,f1] w K:=
 eC 9 (λ _=>.nil) 16 [.tmp 4] Tryz.func117 h
def S118 (s0 f1:Value):Prop:=
 cF 186 [s0,f1] w λ a b=>bB .geq 3 a (i 0) λ c=>K c b
theorem Zk (s0 f1:Value) (h:S118 w K s0 f1):CR 118 [s0,f1] w K:=
 eC 9 (λ _=>.nil) 16 [.tmp 4] Tryz.func118 h
def S119 (s0 f1:Value):Prop:=
 cF 187 [s0,f1] w λ a b=>bB .geq 3 a (i 0) λ c=>K c b
theorem Zl (s0 f1:Value) (h:S119 w K s0 f1):CR 119 [s0,f1] w K:=
 eC 9 (λ _=>.nil) 16 [.tmp 4] Tryz.func119 h
def S120 (c0:Value):Prop:=
 gU Tryz.prog (Instr.box 33 c0) w λ c1 a=>aL 33 a λ b c=>fA 33 c1 2 λ d=>lA 31 d c λ e=>cF 188 [e] c λ f g=>fA 33 c1 2 λ h=>sA 31 h f g λ j=>fA 33 c1 2 λ k=>
 lA 31 k j λ l=>lN 31 l λ n=>eS (λ K1 o p=>∀ _:Env,
 bA .lss 3 o n λ q=>cV q (fA 33 c1 2 λ s=>lA 31 s (drew p) λ t=>fA 33 c1 2 λ u=>lA 31 u (drew p) λ v=>fA 33 c1 2 λ x=>lA 31 x (drew p) λ y=>iA 31 y o λ z=>fA 129 z 3 λ aa=>
 lA 99 aa (drew p) λ ab=>fA 33 c1 2 λ ac=>lA 31 ac (drew p) λ ad=>iA 31 ad o λ ae=>fA 129 ae 4 λ af=>lA 99 af (drew p) λ ag=>cF 121 [ab] (drew p) λ ah ai=>kA 31 s t ai (
 kA 31 u v ai (kA 31 ac ad ai (kA 99 af ag ai (cF 121 [ag] ai λ aj ak=>kA 31 s t ak (kA 31 u v ak (iA 31 t o λ al=>fA 129 al 3 λ am=>sA 99 am ah ak λ an=>kA 31 u v an (
 iA 31 v o λ ao=>fA 129 ao 4 λ ap=>sA 99 ap aj an λ aq=>bB .add 3 o (i 1) λ ar=>K1 ar aq)))))))) (lA 33 c1 p λ asx=>sA 33 b asx p λ au=>lA 33 b au λ r=>K r au)) (λ K1=>K1 (i 0) j)
def au9:dL:=λ i=>match i with
 | 5=>(.of [(0,[]),(1,[]),(2,[]),(3,[]),(4,[]),(5,[]),(6,[]),(7,[]),(8,[]),(9,[]),(10,[]),(11,[]),(13,[]),(14,[]),(15,[]),(16,[]),(17,[]),(18,[]),(12,[1,4,14,18]),(19,[1,4]),(20,[]),(21,[]),(22,[4]),(23,[]),(24,[]),(25,[])])
 | _=>.nil
theorem Zm (c0:Value) (h:S120 w K c0):CR 120 [c0] w K:=
 eC 40 au9 4 [.cell 2 33] Tryz.func120 h
def S121 (s0:Value):Prop:=
 bB .eql 99 s0 (.slice none 0 0) λ a=>cV a (K (.slice none 0 0) w) (bS 99 0 [] w λ b c=>aP 99 b s0 c λ d e=>K d e)
theorem Zn (s0:Value) (h:S121 w K s0):CR 121 [s0] w K:=
 eC 8 (λ _=>.nil) 4 [.tmp 2] Tryz.func121 h
def S122 (t0:Value):Prop:=
 vI (λ K1 a=>∀ _:Env,
 cF 65 [t0] a λ b c=>xT b 0 λ d=>xT b 1 λ e=>aL 129 c λ f g=>sA 129 f d g λ h=>cW Tryz.prog (Op.unary .not e) λ j=>cV j (K (.tuple #[]) h) (fA 129 f 3 λ k=>lA 99 k h λ l=>
 cF 189 [t0,l] h λ n o=>xT n 0 λ p=>xT n 1 λ q=>nC t0 λ r=>fA 122 r 6 λ s=>sA 3 s p o λ t=>cW Tryz.prog (Op.unary .not q) λ u=>cV u (K (.tuple #[]) t) (fA 129 f 4 λ v=>
 lA 99 v t λ x=>cF 189 [t0,x] t λ y z=>xT y 0 λ aa=>xT y 1 λ ab=>nC t0 λ ac=>fA 122 ac 7 λ ad=>sA 3 ad aa z λ ae=>cW Tryz.prog (Op.unary .not ab) λ af=>cV af (
 K (.tuple #[]) ae) (nC t0 λ ag=>fA 122 ag 2 λ ah=>lA 3 ah ae λ ai=>bB .add 3 ai (i 1) λ aj=>bP (λ K2=>fA 129 f 0 λ ak=>lA 3 ak ae λ al=>bB .eql 3 al (i 1) λ am=>
 cV am (nC t0 λ an=>fA 122 an 3 λ ao=>lA 28 ao (drew ae) λ ap=>fA 129 f 1 λ aq=>lA 3 aq (drew ae) λ ar=>nC t0 λ asx=>fA 122 asx 6 λ au=>lA 3 au (drew ae) λ av=>
 iA 28 ap ar λ aw=>sA 3 aw av (drew ae) λ ax=>K2 aj ax) (bB .eql 3 al (i 11) λ ay=>cV ay (fA 129 f 5 λ az=>lA 3 az ae λ a0=>K2 a0 ae) (bB .eql 3 al (i 12) λ a1=>cV a1 (
 nC t0 λ a2=>fA 122 a2 6 λ a3=>lA 3 a3 ae λ a4=>bB .eql 3 a4 (i 0) λ a5=>cV a5 (fA 129 f 5 λ a6=>lA 3 a6 ae λ a7=>K2 a7 ae) (K2 aj ae)) (bB .eql 3 al (i 13) λ a8=>
 cV a8 (nC t0 λ a9=>fA 122 a9 4 λ ba=>lA 28 ba (drew ae) λ bb=>fA 129 f 1 λ bc=>lA 3 bc (drew ae) λ bd=>fA 129 f 2 λ be=>lA 3 be (drew ae) λ bf=>iA 28 bb bd λ bg=>
 sA 3 bg bf (drew ae) λ bh=>K2 aj bh) (bB .eql 3 al (i 14) λ bi=>cV bi (nC t0 λ bj=>fA 122 bj 4 λ bk=>lA 28 bk (drew ae) λ bl=>fA 129 f 1 λ bm=>lA 3 bm (drew ae) λ bn=>
 iA 28 bl bn λ bo=>lA 3 bo (drew ae) λ bp=>bB .sub 3 bp (i 1) λ bq=>iA 28 bl bn λ br=>sA 3 br bq (drew ae) λ bs=>nC t0 λ bt=>fA 122 bt 4 λ bu=>lA 28 bu (drew bs) λ bv=>
 fA 129 f 1 λ bw=>lA 3 bw (drew bs) λ bx=>iA 28 bv bx λ bz=>lA 3 bz (drew bs) λ b0=>bB .gtr 3 b0 (i 0) λ b1=>cV b1 (fA 129 f 5 λ b2=>lA 3 b2 (drew bs) λ b3=>K2 b3 (drew bs)) (
 K2 aj (drew bs))) (bB .eql 3 al (i 15) λ b4=>cV b4 (nC t0 λ b5=>fA 122 b5 6 λ b6=>lA 3 b6 ae λ b7=>bB .eql 3 b7 (i 0) λ b8=>cV b8 (nC t0 λ b9=>fA 122 b9 5 λ ca=>
 sA 3 ca (i 1) ae λ cb=>K (.tuple #[]) cb) (K2 aj ae)) (K (.tuple #[]) ae))))))) (λ to5 cc=>∀ _:Env,
 nC t0 λ cd=>fA 122 cd 2 λ ce=>sA 3 ce to5 cc λ cf=>K1 cf))))) (λ K1=>K1 w)
def ava:dL:=λ i=>match i with
 | 10=>.run 0 12
 | 17=>.run 0 10
 | 19=>.run 0 11
 | 20=>.run 0 9
 | _=>.nil
theorem Zo (t0:Value) (h:S122 w K t0):CR 122 [t0] w K:=
 eC 118 ava 0 [] Tryz.func122 h
def S123 (b0:Value):Prop:=
 nC b0 λ a=>fA 197 a 1 λ b=>lA 80 b (drew w) λ c=>lN 80 c λ d=>nC b0 λ e=>fA 197 e 0 λ f=>lA 3 f (drew w) λ g=>bA .geq 3 d g λ h=>K h (drew w)
def avb:dL:=λ i=>match i with
 | 1=>.run 0 11
 | _=>.nil
theorem Zp (b0:Value) (h:S123 w K b0):CR 123 [b0] w K:=
 eC 13 avb 4 [.tmp 2] Tryz.func123 h
def S124 (b0 i1:Value):Prop:=
 gU Tryz.prog (Instr.box 109 b0) w λ b2 a=>gU Tryz.prog (Instr.box 3 i1) a λ i3 b=>bP (λ K1=>lA 3 i3 (drew b) λ c=>bB .lss 3 c (i 0) λ d=>cV d (K1 tt (drew b)) (
 lA 3 i3 (drew b) λ e=>lA 109 b2 (drew b) λ f=>nC f λ g=>fA 197 g 1 λ h=>lA 80 h (drew b) λ j=>lN 80 j λ k=>bA .geq 3 e k λ l=>K1 l (drew b))) (λ n o=>∀ _:Env,
 cV n (K ff o) (lA 109 b2 (drew o) λ p=>nC p λ q=>fA 197 q 1 λ r=>lA 80 r (drew o) λ s=>lA 3 i3 (drew o) λ t=>cW Tryz.prog (Instr.sliceAt 80 s none (some t) none) λ u=>
 cF 192 [u,(.func (Go.Fn.func 190) [].toArray [b2,i3].toArray)] (drew o) λ v x=>cW Tryz.prog (Op.unary .not v) λ y=>K y x))
def avc:dL:=λ i=>match i with
 | 1=>.run 0 11
 | 4=>.run 0 10
 | _=>.nil
theorem Zq (b0 i1:Value) (h:S124 w K b0 i1):CR 124 [b0,i1] w K:=
 eC 27 avc 16 [.tmp 4] Tryz.func124 h
def S125 (m0 vy:Value):Prop:=
 lN 28 vy λ a=>cF 144 [m0] w λ b c=>bA .neq 3 a b λ d=>cV d (K (.tuple #[(.slice none 0 0),(i 1)]) c) (cF 73 [m0] c λ e f=>lN 28 vy λ g=>eS (λ K1 h j=>∀ _:Env,
 bA .lss 3 h g λ k=>cV k (iA 28 vy h λ l=>lA 3 l j λ n=>bP (λ K2=>bB .lss 3 n (i 0) λ o=>cV o (K2 tt j) (nC m0 λ p=>fA 203 p 4 λ q=>lA 201 q j λ r=>Df Tryz.prog (Instr.lookup 201 r h false) j λ s=>
 lN 213 s λ t=>bA .gtr 3 n t λ u=>K2 u j)) (λ v x=>∀ _:Env,
 cV v (K (.tuple #[(.slice none 0 0),(i 1)]) x) (nC m0 λ y=>fA 203 y 4 λ z=>lA 201 z x λ aa=>Df Tryz.prog (Instr.lookup 201 aa h false) x λ ab=>cW Tryz.prog (Instr.sliceAt 213 ab none (some n) none) λ ac=>
 lN 213 ac λ ad=>eS (λ K3 ae af=>∀ _:Env,
 bA .lss 3 ae ad λ ag=>cV ag (iA 213 ac ae λ ah=>lA 216 ah af λ ai=>aL 216 af λ aj ak=>sA 216 aj ai ak λ al=>fA 216 aj 0 λ am=>lA 3 am al λ an=>fA 216 aj 1 λ ao=>
 lA 3 ao al λ ap=>iA 28 e an λ aq=>sA 3 aq ap al λ ar=>bB .add 3 ae (i 1) λ asx=>K3 asx ar) (bB .add 3 h (i 1) λ au=>K1 au af)) (λ K3=>K3 (i 0) x)))) (K (.tuple #[e,(i 0)]) j))
 (λ K1=>K1 (i 0) f))
theorem Zr (m0 vy:Value) (h:S125 w K m0 vy):CR 125 [m0,vy] w K:=
 eC 60 (λ _=>.nil) 48 [.tmp 4,.tmp 5] Tryz.func125 h
def S126 (s0 f1:Value):Prop:=
 lN 45 s0 λ a=>eS (λ K1 b c=>∀ _:Env,
 bA .lss 3 b a λ d=>cV d (iA 45 s0 b λ e=>lA 52 e c λ f=>fZ Tryz.prog f1 [f] c λ g h=>cV g (K b h) (bB .add 3 b (i 1) λ j=>K1 j h)) (K (i (-1)) c)) (λ K1=>K1 (i 0) w)
theorem Zs (s0 f1:Value) (h:S126 w K s0 f1):CR 126 [s0,f1] w K:=
 eC 19 (λ _=>.nil) 16 [.tmp 4] Tryz.func126 h
def S127 (b0 i1:Value):Prop:=
 aL 161 w λ a b=>bP (λ K1=>bB .lss 3 i1 (i 0) λ c=>cV c (K1 tt b) (nC b0 λ d=>fA 197 d 1 λ e=>lA 80 e b λ f=>lN 80 f λ g=>bA .geq 3 i1 g λ h=>K1 h b)) (λ j k=>∀ _:Env,
 cV j (cW Tryz.prog (Instr.build 161 [].toArray) λ l=>sA 161 a l k λ n=>lA 161 a n λ r=>K (.tuple #[r,(i 1)]) n) (cF 124 [b0,i1] k λ o p=>cW Tryz.prog (Op.unary .not o) λ q=>
 cV q (cW Tryz.prog (Instr.build 161 [].toArray) λ s=>sA 161 a s p λ t=>lA 161 a t λ zm=>K (.tuple #[zm,(i 13)]) t) (nC b0 λ u=>fA 197 u 1 λ v=>lA 80 v p λ x=>
 iA 80 x i1 λ y=>lA 161 y p λ z=>aL 161 p λ aa ab=>sA 161 aa z ab λ ac=>nC b0 λ ad=>fA 197 ad 1 λ ae=>lA 80 ae ac λ af=>cF 154 [af] ac λ ag ah=>bB .add 3 i1 (i 1) λ ai=>
 cF 193 [ag,i1,ai] ah λ aj ak=>nC b0 λ al=>fA 197 al 1 λ am=>sA 80 am aj ak λ an=>lA 161 aa an λ ao=>sA 161 a ao an λ ap=>lA 161 a ap λ MY=>K (.tuple #[MY,(i 0)]) ap)))
theorem Zt (b0 i1:Value) (h:S127 w K b0 i1):CR 127 [b0,i1] w K:=
 eC 44 (λ _=>.nil) 48 [.cell 4 161,.tmp 5] Tryz.func127 h
def S128 (m0 fg n2:Value):Prop:=
 bP (λ K1=>bB .lss 3 fg (i 0) λ a=>cV a (K1 tt w) (nC m0 λ b=>fA 203 b 2 λ c=>lA 28 c w λ d=>lN 28 d λ e=>bA .geq 3 fg e λ f=>K1 f w)) (λ g h=>∀ _:Env,
 cV g (K (i 1) h) (nC m0 λ j=>fA 203 j 2 λ k=>lA 28 k h λ l=>iA 28 l fg λ n=>sA 3 n n2 h λ o=>lI (λ K2=>nC m0 λ p=>fA 203 p 0 λ q=>lA 28 q o λ r=>lN 28 r λ s=>
 bA .lss 3 fg s λ t=>cV t (nC m0 λ u=>fA 203 u 0 λ v=>lA 28 v o λ x=>iA 28 x fg λ y=>lA 3 y o λ z=>nC m0 λ aa=>fA 203 aa 4 λ ab=>lA 201 ab (drew o) λ ac=>
 nC m0 λ ad=>fA 203 ad 4 λ ae=>lA 201 ae (drew o) λ af=>Df Tryz.prog (Instr.lookup 201 af z false) (drew o) λ ag=>cW Tryz.prog (Instr.build 216 [(0,fg),(1,n2)].toArray) λ ah=>
 bS 213 1 [(0,ah)] (drew o) λ ai aj=>kA 201 ab ac aj (kA 201 ae af aj (Hz Tryz.prog (Instr.lookup 201 af z false) ag aj (aP 213 ag ai aj λ ak al=>kA 201 ab ac al (A0 Tryz.prog (Instr.mapUpdate 201 ac z ak) al λ am=>
 K2 am))))) (K2 o)) (λ an=>∀ _:Env,
 K (i 0) an)))
def avd:dL:=λ i=>match i with
 | 6=>(.of [(0,[]),(1,[]),(2,[]),(3,[]),(4,[]),(5,[]),(6,[]),(7,[]),(8,[]),(9,[]),(10,[]),(11,[]),(12,[]),(13,[]),(14,[3,8,10]),(15,[3]),(16,[])])
 | _=>.nil
theorem Zu (m0 fg n2:Value) (h:S128 w K m0 fg n2):CR 128 [m0,fg,n2] w K:=
 eC 56 avd 64 [.tmp 6] Tryz.func128 h
def S129 (m0 Dl:Value):Prop:=
 bP (λ K1=>bB .lss 3 Dl (i 0) λ a=>cV a (K1 tt w) (cF 144 [m0] w λ b c=>bA .geq 3 Dl b λ d=>K1 d c)) (λ e f=>∀ _:Env,
 cV e (K (i 1) f) (nC m0 λ g=>fA 203 g 4 λ h=>lA 201 h f λ j=>Df Tryz.prog (Instr.lookup 201 j Dl false) f λ k=>lN 213 k λ l=>eS (λ K2 n o=>∀ _:Env,
 bA .lss 3 n l λ p=>cV p (iA 213 k n λ q=>lA 216 q o λ r=>aL 216 o λ s t=>sA 216 s r t λ u=>nC m0 λ v=>fA 203 v 3 λ x=>lA 28 x (drew u) λ y=>fA 216 s 0 λ z=>
 lA 3 z (drew u) λ aa=>fA 216 s 1 λ ab=>lA 3 ab (drew u) λ ac=>iA 28 y aa λ ad=>sA 3 ad ac (drew u) λ s=>bB .add 3 n (i 1) λ ae=>K2 ae s) (nC m0 λ af=>fA 203 af 4 λ ag=>
 lA 201 ag o λ ah=>gU Tryz.prog (Builtin.delete_ #[201,3] 0 [ah,Dl].toArray) o λ _ ai=>K (i 0) ai)) (λ K2=>K2 (i 0) f)))
def ave:dL:=λ i=>match i with
 | 6=>.run 0 10
 | _=>.nil
theorem Zv (m0 Dl:Value) (h:S129 w K m0 Dl):CR 129 [m0,Dl] w K:=
 eC 41 ave 16 [.tmp 4] Tryz.func129 h
def S130 (m0 t1 a b:Value):Prop:=
 gU Tryz.prog (Instr.box 129 b) w λ c d=>aL 48 d λ e f=>nC t1 λ g=>fA 122 g 0 λ h=>lA 109 h (drew f) λ j=>fA 129 c 2 λ k=>lA 3 k (drew f) λ l=>cF 194 [j,l] (drew f) λ n o=>
 xT n 0 λ p=>xT n 1 λ q=>aer (λ K1=>cW Tryz.prog (Op.unary .not q) λ s=>cV s (nC m0 λ t=>fA 115 t 2 λ u=>lA 112 u (drew o) λ v=>fA 129 c 2 λ x=>lA 3 x (drew o) λ y=>
 cF 195 [v,y] (drew o) λ z aa=>xT z 0 λ ab=>xT z 1 λ _=>K1 ab (i 1) aa) (K1 p (i 2) o)) (λ n9 ah5 ac=>∀ _:Env,
 nC t1 λ ad=>fA 122 ad 3 λ ae=>lA 28 ae (drew ac) λ af=>fA 129 c 1 λ ag=>lA 3 ag (drew ac) λ ah=>iA 28 af ah λ ai=>sA 3 ai n9 (drew ac) λ aj=>fA 129 c 2 λ ak=>
 lA 3 ak aj λ al=>cW Tryz.prog (Instr.build 48 [(0,ah5),(2,al),(3,n9)].toArray) λ am=>sA 48 e am aj λ an=>lA 48 e an λ r=>K r an)
def avf:dL:=λ i=>match i with
 | 1=>.run 0 12
 | 4=>.run 0 11
 | 6=>.run 0 9
 | _=>.nil
theorem Zw (m0 t1 x2 x3:Value) (h:S130 w K m0 t1 x2 x3):CR 130 [m0,t1,x2,x3] w K:=
 eC 47 avf 256 [.cell 8 48] Tryz.func130 h
def S131 (m0 t1 a b:Value):Prop:=
 gU Tryz.prog (Instr.box 129 b) w λ c d=>aL 48 d λ e f=>gU Tryz.prog (Instr.makeMap 272 none) f λ g h=>A0 Tryz.prog (Instr.mapUpdate 272 g (i 3) (i 3)) h λ j=>A0 Tryz.prog (Instr.mapUpdate 272 g (i 5) (i 4)) j λ k=>
 A0 Tryz.prog (Instr.mapUpdate 272 g (i 6) (i 5)) k λ l=>A0 Tryz.prog (Instr.mapUpdate 272 g (i 7) (i 6)) l λ n=>fA 129 c 0 λ o=>lA 3 o n λ p=>fA 129 c 2 λ q=>lA 3 q n λ s=>
 cW Tryz.prog (Instr.build 161 [(0,p),(1,s)].toArray) λ t=>aL 161 n λ y10 u=>sA 161 y10 t u λ v=>lI (λ K1=>fA 129 c 0 λ x=>lA 3 x v λ y=>bB .eql 3 y (i 3) λ z=>
 cV z (nC m0 λ aa=>fA 115 aa 0 λ ab=>fA 36 ab 0 λ ac=>lA 28 ac (drew v) λ ad=>fA 129 c 2 λ ae=>lA 3 ae (drew v) λ af=>iA 28 ad af λ ag=>lA 3 ag (drew v) λ ah=>
 fA 129 c 2 λ ai=>lA 3 ai (drew v) λ aj=>nC t1 λ ak=>fA 122 ak 6 λ al=>lA 3 al (drew v) λ am=>fA 161 y10 1 λ an=>sA 3 an ah (drew v) λ ao=>kA 3 ai aj ao (kA 3 al am ao (
 fA 161 y10 2 λ ap=>sA 3 ap aj ao λ aq=>kA 3 al am aq (fA 161 y10 3 λ ar=>sA 3 ar am aq λ asx=>K1 asx)))) (K1 v)) (λ au=>∀ _:Env,
 nC t1 λ av=>fA 122 av 0 λ aw=>lA 109 aw (drew au) λ ax=>lA 161 y10 (drew au) λ ay=>cF 196 [ax,ay] (drew au) λ _ az=>fA 129 c 0 λ a0=>lA 3 a0 az λ a1=>Df Tryz.prog (Instr.lookup 272 g a1 false) az λ a2=>
 fA 129 c 2 λ a3=>lA 3 a3 az λ a4=>fA 161 y10 3 λ a5=>lA 3 a5 az λ a6=>cW Tryz.prog (Instr.build 48 [(0,a2),(2,a4),(3,a6)].toArray) λ a7=>sA 48 e a7 az λ a8=>
 lA 48 e a8 λ r=>K r a8)
def avg:dL:=λ i=>match i with
 | 4=>(.of [(0,[]),(1,[]),(2,[]),(3,[]),(4,[]),(5,[]),(6,[]),(7,[]),(8,[]),(9,[]),(10,[]),(11,[]),(12,[]),(13,[]),(14,[]),(15,[]),(16,[10,14]),(17,[]),(18,[14]),(19,[]),(20,[])])
 | 5=>.run 0 6
 | _=>.nil
theorem Zx (m0 t1 x2 x3:Value) (h:S131 w K m0 t1 x2 x3):CR 131 [m0,t1,x2,x3] w K:=
 eC 54 avg 256 [.cell 8 48] Tryz.func131 h
def S132 (m0 t1 a b:Value):Prop:=
 gU Tryz.prog (Instr.box 129 b) w λ c d=>aL 48 d λ e f=>nC m0 λ g=>fA 115 g 2 λ h=>lA 112 h (drew f) λ j=>fA 129 c 2 λ k=>lA 3 k (drew f) λ l=>cF 195 [j,l] (drew f) λ n o=>
 xT n 0 λ p=>xT n 1 λ _=>nC t1 λ q=>fA 122 q 3 λ s=>lA 28 s (drew o) λ t=>fA 129 c 1 λ u=>lA 3 u (drew o) λ v=>iA 28 t v λ x=>sA 3 x p (drew o) λ y=>nC t1 λ z=>
 fA 122 z 6 λ aa=>lA 3 aa y λ ab=>bA .neq 3 p ab λ ac=>cV ac (fA 129 c 2 λ ad=>lA 3 ad y λ ae=>cW Tryz.prog (Instr.build 48 [(0,(i 9)),(2,ae),(3,p)].toArray) λ af=>
 sA 48 e af y λ ag=>lA 48 e ag λ r=>K r ag) (nC m0 λ ah=>fA 115 ah 2 λ ai=>lA 112 ai (drew y) λ aj=>fA 129 c 2 λ ak=>lA 3 ak (drew y) λ al=>nC t1 λ am=>fA 122 am 7 λ an=>
 lA 3 an (drew y) λ ao=>cF 128 [aj,al,ao] (drew y) λ _ ap=>fA 129 c 2 λ aq=>lA 3 aq (drew ap) λ ar=>nC t1 λ asx=>fA 122 asx 7 λ au=>lA 3 au (drew ap) λ av=>cW Tryz.prog (Instr.build 48 [(0,(i 8)),(2,ar),(3,p),(4,av)].toArray) λ aw=>
 sA 48 e aw (drew ap) λ ax=>lA 48 e ax λ zm=>K zm ax)
def avh:dL:=λ i=>match i with
 | 1=>.run 0 12
 | 2=>.run 0 9
 | 5=>.run 0 11
 | 6=>.run 0 9
 | _=>.nil
theorem Zy (m0 t1 x2 x3:Value) (h:S132 w K m0 t1 x2 x3):CR 132 [m0,t1,x2,x3] w K:=
 eC 58 avh 256 [.cell 8 48] Tryz.func132 h
def S133 (m0 a b c:Value):Prop:=
 gU Tryz.prog (Instr.box 129 c) w λ _ d=>aL 48 d λ e f=>cW Tryz.prog (Instr.build 48 [(0,(i 7))].toArray) λ g=>sA 48 e g f λ h=>lA 48 e h λ r=>K r h
theorem Zz (m0 x1 x2 x3:Value) (h:S133 w K m0 x1 x2 x3):CR 133 [m0,x1,x2,x3] w K:=
 eC 10 (λ _=>.nil) 256 [.cell 8 48] Tryz.func133 h
def S134 (m0 a i2 b:Value):Prop:=
 gU Tryz.prog (Instr.box 129 b) w λ c d=>aL 48 d λ e f=>nC m0 λ g=>fA 115 g 3 λ h=>lA 28 h (drew f) λ j=>fA 129 c 2 λ k=>lA 3 k (drew f) λ l=>iA 28 j l λ n=>
 sA 3 n i2 (drew f) λ o=>fA 129 c 2 λ p=>lA 3 p o λ q=>cW Tryz.prog (Instr.build 48 [(0,(i 10)),(2,q)].toArray) λ s=>sA 48 e s o λ t=>lA 48 e t λ r=>K r t
def avi:dL:=λ i=>match i with
 | 1=>.run 0 9
 | _=>.nil
theorem ZA (m0 x1 i2 x3:Value) (h:S134 w K m0 x1 i2 x3):CR 134 [m0,x1,i2,x3] w K:=
 eC 20 avi 256 [.cell 8 48] Tryz.func134 h
def S135 (m0 a i2 b:Value):Prop:=
 gU Tryz.prog (Instr.box 129 b) w λ c d=>aL 48 d λ e f=>nC m0 λ g=>fA 115 g 3 λ h=>lA 28 h (drew f) λ j=>fA 129 c 2 λ k=>lA 3 k (drew f) λ l=>iA 28 j l λ n=>
 lA 3 n (drew f) λ o=>bA .neq 3 o i2 λ p=>cV p (nC m0 λ q=>fA 115 q 6 λ s=>sA 3 s (i 3) (drew f) λ t=>nC m0 λ u=>fA 115 u 7 λ v=>sA 3 v i2 t λ x=>cW Tryz.prog (Instr.build 48 [(0,(i 16)),(2,(i 3))].toArray) λ y=>
 sA 48 e y x λ z=>lA 48 e z λ r=>K r z) (nC m0 λ aa=>fA 115 aa 3 λ ab=>lA 28 ab (drew (drew f)) λ ac=>fA 129 c 2 λ ad=>lA 3 ad (drew (drew f)) λ ae=>iA 28 ac ae λ af=>
 sA 3 af (i (-1)) (drew (drew f)) λ ag=>fA 129 c 2 λ ah=>lA 3 ah ag λ ai=>cW Tryz.prog (Instr.build 48 [(0,(i 11)),(2,ai)].toArray) λ aj=>sA 48 e aj ag λ ak=>lA 48 e ak λ zm=>
 K zm ak)
def avj:dL:=λ i=>match i with
 | 1=>.run 0 10
 | 4=>.run 0 8
 | _=>.nil
theorem ZB (m0 x1 i2 x3:Value) (h:S135 w K m0 x1 i2 x3):CR 135 [m0,x1,i2,x3] w K:=
 eC 37 avj 256 [.cell 8 48] Tryz.func135 h
def S136 (s0 f1:Value):Prop:=
 lN 113 s0 λ a=>eS (λ K1 b c=>∀ _:Env,
 bA .lss 3 b a λ d=>cV d (iA 113 s0 b λ e=>lA 119 e c λ f=>fZ Tryz.prog f1 [f] c λ g h=>cV g (K b h) (bB .add 3 b (i 1) λ j=>K1 j h)) (K (i (-1)) c)) (λ K1=>K1 (i 0) w)
theorem ZC (s0 f1:Value) (h:S136 w K s0 f1):CR 136 [s0,f1] w K:=
 eC 19 (λ _=>.nil) 16 [.tmp 4] Tryz.func136 h
def S137 (s0:Value):Prop:=
 bB .eql 213 s0 (.slice none 0 0) λ a=>cV a (K (.slice none 0 0) w) (bS 213 0 [] w λ b c=>aP 213 b s0 c λ d e=>K d e)
theorem ZD (s0:Value) (h:S137 w K s0):CR 137 [s0] w K:=
 eC 8 (λ _=>.nil) 4 [.tmp 2] Tryz.func137 h
def S144 (m0:Value):Prop:=
 nC m0 λ a=>fA 203 a 0 λ b=>lA 28 b w λ c=>lN 28 c λ d=>bB .eql 3 d (i 0) λ e=>cV e (K (i 0) w) (nC m0 λ f=>fA 203 f 0 λ g=>lA 28 g (drew w) λ h=>nC m0 λ j=>
 fA 203 j 0 λ k=>lA 28 k (drew w) λ l=>lN 28 l λ n=>bB .sub 3 n (i 1) λ o=>iA 28 h o λ p=>lA 3 p (drew w) λ q=>bB .add 3 q (i 1) λ r=>K r (drew w))
def avk:dL:=λ i=>match i with
 | 3=>.run 0 14
 | _=>.nil
theorem ZE (m0:Value) (h:S144 w K m0):CR 144 [m0] w K:=
 eC 22 avk 4 [.tmp 2] Tryz.func144 h
def S145 (m0 vy:Value):Prop:=
 cF 70 [vy] w λ a b=>lN 28 a λ c=>bB .sub 3 c (i 1) λ d=>eS (λ K1 i7 e=>∀ _:Env,
 bB .geq 3 i7 (i 0) λ f=>cV f (iA 28 a i7 λ g=>lA 3 g (drew e) λ h=>nC m0 λ j=>fA 203 j 4 λ k=>lA 201 k (drew e) λ l=>Df Tryz.prog (Instr.lookup 201 l i7 false) (drew e) λ n=>
 lN 213 n λ o=>bA .lss 3 h o λ p=>cV p (iA 28 a i7 λ q=>lA 3 q (drew e) λ r=>bB .add 3 r (i 1) λ s=>iA 28 a i7 λ t=>sA 3 t s (drew e) λ u=>K (.tuple #[a,tt]) u) (
 iA 28 a i7 λ v=>sA 3 v (i 0) (drew e) λ x=>bB .sub 3 i7 (i 1) λ y=>K1 y x)) (K (.tuple #[(.slice none 0 0),ff]) e)) (λ K1=>K1 d b)
def avl:dL:=λ i=>match i with
 | 5=>.run 0 12
 | _=>.nil
theorem ZF (m0 vy:Value) (h:S145 w K m0 vy):CR 145 [m0,vy] w K:=
 eC 39 avl 48 [.tmp 4,.tmp 5] Tryz.func145 h
theorem aey:PL 106:=eH Tryz.func106
theorem T0:PL 107:=eH Tryz.func107
theorem amX:PL 109:=eH Tryz.func109
theorem aez:PL 110:=eH Tryz.func110
theorem amY:PL 111:=eH Tryz.func111
theorem aeA:PL 112:=eH Tryz.func112
theorem amZ:PL 113:=eH Tryz.func113
theorem am0:PL 114:=eH Tryz.func114
theorem am1:PL 115:=eH Tryz.func115
theorem Pl:PL 116:=eH Tryz.func116
theorem am2:PL 117:=eH Tryz.func117
theorem am3:PL 118:=eH Tryz.func118
theorem am4:PL 119:=eH Tryz.func119
theorem aeB:PL 120:=eH Tryz.func120
theorem T1:PL 121:=eH Tryz.func121
theorem aeC:PL 122:=eH Tryz.func122
theorem aeD:PL 123:=eH Tryz.func123
theorem aeE:PL 124:=eH Tryz.func124
theorem aeF:PL 125:=eH Tryz.func125
theorem am5:PL 126:=eH Tryz.func126
theorem aeG:PL 127:=eH Tryz.func127
theorem T3:PL 128:=eH Tryz.func128
theorem aeH:PL 129:=eH Tryz.func129
theorem am6:PL 130:=eH Tryz.func130
theorem Pm:PL 131:=eH Tryz.func131
theorem am7:PL 132:=eH Tryz.func132
theorem am8:PL 133:=eH Tryz.func133
theorem am9:PL 134:=eH Tryz.func134
theorem ana:PL 135:=eH Tryz.func135
theorem anb:PL 136:=eH Tryz.func136
theorem anc:PL 137:=eH Tryz.func137
theorem T4:PL 144:=eH Tryz.func144
theorem ane:PL 145:=eH Tryz.func145
end Go.Proofs.YtnjcingfdhjfkaaGreat
namespace Go.Proofs.YtnjcingfdhjfkaaGreat
open Go.Fw
set_option maxRecDepth 100000
variable (w:World) (K:Value→World→Prop)
def P148:dL:=λ i=>match i with
 | 5=>(.of [(0,[]),(1,[]),(2,[]),(3,[]),(4,[]),(5,[]),(6,[]),(7,[]),(8,[]),(9,[]),(10,[]),(11,[]),(12,[]),(13,[]),(14,[]),(15,[4]),(16,[]),(17,[]),(18,[]),(19,[])])
 | _=>.nil
def S154 (s0:Value):Prop:=
 bB .eql 80 s0 (.slice none 0 0) λ a=>cV a (K (.slice none 0 0) w) (bS 80 0 [] w λ b c=>aP 80 b s0 c λ d e=>K d e)
theorem ZG (s0:Value) (h:S154 w K s0):CR 154 [s0] w K:=
 eC 8 (λ _=>.nil) 4 [.tmp 2] Tryz.func154 h
def S155 (l0 Pn:Value):Prop:=
 eS (λ K1 i5 a=>∀ _:Env,
 lN 23 l0 λ b=>bA .lss 3 i5 b λ c=>cV c (bP (λ K2=>iA 23 l0 i5 λ d=>fA 163 d 0 λ e=>lA 9 e a λ f=>cF 161 [f] a λ g h=>cW Tryz.prog (Op.unary .not g) λ j=>
 cV j (K2 tt h) (iA 23 l0 i5 λ k=>fA 163 k 1 λ l=>lA 3 l h λ n=>bB .lss 3 n (i 0) λ o=>cV o (K2 tt h) (iA 23 l0 i5 λ p=>fA 163 p 1 λ q=>lA 3 q h λ r=>bA .gtr 3 r Pn λ s=>
 cV s (K2 tt h) (iA 23 l0 i5 λ t=>fA 163 t 2 λ u=>lA 3 u h λ v=>cF 156 [v] h λ x y=>cW Tryz.prog (Op.unary .not x) λ z=>K2 z y)))) (λ aa ab=>∀ _:Env,
 cV aa (K ff ab) (bB .add 3 i5 (i 1) λ ac=>K1 ac ab))) (K tt a)) (λ K1=>K1 (i 0) w)
theorem ZH (l0 Pn:Value) (h:S155 w K l0 Pn):CR 155 [l0,Pn] w K:=
 eC 45 (λ _=>.nil) 16 [.tmp 4] Tryz.func155 h
def S156 (n0:Value):Prop:=
 bP (λ K1=>bB .geq 3 n0 (i 0) λ a=>cV a (bB .leq 3 n0 (i 4000) λ b=>K1 b w) (K1 ff w)) (λ c d=>∀ _:Env,
 K c d)
theorem ZI (n0:Value) (h:S156 w K n0):CR 156 [n0] w K:=
 eC 9 (λ _=>.nil) 4 [.tmp 2] Tryz.func156 h
def S157 (l0 Dm:Value):Prop:=
 eS (λ K1 i5 a=>∀ _:Env,
 lN 24 l0 λ b=>bA .lss 3 i5 b λ c=>cV c (bP (λ K2=>iA 24 l0 i5 λ d=>fA 98 d 0 λ e=>lA 9 e a λ f=>cF 161 [f] a λ g h=>bA .neq 4 Dm g λ j=>cV j (K2 tt h) (
 cW Tryz.prog (Op.unary .not Dm) λ k=>cV k (iA 24 l0 i5 λ l=>fA 98 l 0 λ n=>lA 9 n h λ o=>cW Tryz.prog (iI .neq 9 false true o (Go.Value.string (ByteArray.mk (#[])))) λ p=>
 cV p (K2 tt h) (iA 24 l0 i5 λ q=>fA 98 q 3 λ r=>lA 3 r h λ s=>cF 156 [s] h λ t u=>cW Tryz.prog (Op.unary .not t) λ v=>cV v (K2 tt u) (iA 24 l0 i5 λ x=>fA 98 x 2 λ y=>
 lA 96 y u λ z=>cF 205 [z] u λ aa ab=>cW Tryz.prog (Op.unary .not aa) λ ac=>K2 ac ab))) (iA 24 l0 i5 λ ad=>fA 98 ad 3 λ ae=>lA 3 ae h λ af=>cF 156 [af] h λ ag ah=>
 cW Tryz.prog (Op.unary .not ag) λ ai=>cV ai (K2 tt ah) (iA 24 l0 i5 λ aj=>fA 98 aj 2 λ ak=>lA 96 ak ah λ al=>cF 205 [al] ah λ am an=>cW Tryz.prog (Op.unary .not am) λ ao=>
 K2 ao an)))) (λ ap aq=>∀ _:Env,
 cV ap (K ff aq) (eS (λ K3 k6 ar=>∀ _:Env,
 iA 24 l0 i5 λ asx=>fA 98 asx 1 λ au=>lA 95 au ar λ av=>lN 95 av λ aw=>bA .lss 3 k6 aw λ ax=>cV ax (iA 24 l0 i5 λ ay=>fA 98 ay 1 λ az=>lA 95 az ar λ a0=>iA 95 a0 k6 λ a1=>
 lA 9 a1 ar λ a2=>cF 161 [a2] ar λ a3 a4=>cW Tryz.prog (Op.unary .not a3) λ a5=>cV a5 (K ff a4) (bB .add 3 k6 (i 1) λ a6=>K3 a6 a4)) (bB .add 3 i5 (i 1) λ a7=>K1 a7 ar))
 (λ K3=>K3 (i 0) aq)))) (K tt a)) (λ K1=>K1 (i 0) w)
theorem ZJ (l0 Dm:Value) (h:S157 w K l0 Dm):CR 157 [l0,Dm] w K:=
 eC 71 (λ _=>.nil) 16 [.tmp 4] Tryz.func157 h
def S158 (l0:Value):Prop:=
 lN 96 l0 λ a=>bB .eql 3 a (i 0) λ b=>cV b (K (i 0) w) (iA 96 l0 (i 0) λ c=>lA 173 c w λ d=>aL 173 w λ e f=>sA 173 e d f λ g=>fA 173 e 6 λ h=>lA 3 h (drew g) λ j=>
 bC .add 3 (i 1) j λ k=>fA 173 e 7 λ l=>lA 3 l (drew g) λ n=>bA .add 3 k n λ o=>bP (λ K1=>fA 173 e 0 λ p=>lA 3 p (drew g) λ q=>bB .eql 3 q (i 11) λ r=>cV r (
 cW Tryz.prog (Instr.sliceAt 96 l0 (some (i 1)) (some k) none) λ s=>cW Tryz.prog (Instr.sliceAt 96 l0 (some k) (some o) none) λ t=>cF 158 [s] (drew (drew g)) λ u v=>bC .add 3 (i 1) u λ x=>
 cF 158 [t] v λ y z=>bA .add 3 x y λ aa=>fA 173 e 7 λ ab=>lA 3 ab z λ ac=>bB .gtr 3 ac (i 0) λ ad=>cV ad (bB .add 3 aa (i 1) λ ae=>K1 ae z) (K1 aa z)) (K1 (i 1) (drew g)))
 (λ n4 af=>∀ _:Env,
 bP (λ K2=>fA 173 e 0 λ ag=>lA 3 ag af λ ah=>bB .eql 3 ah (i 12) λ ai=>cV ai (cW Tryz.prog (Instr.sliceAt 96 l0 (some (i 1)) (some k) none) λ aj=>cF 158 [aj] af λ ak al=>
 bC .add 3 (i 2) ak λ am=>K2 am al) (K2 n4 af)) (λ avm an=>∀ _:Env,
 cW Tryz.prog (Instr.sliceAt 96 l0 (some o) none none) λ ao=>cF 158 [ao] an λ ap aq=>bA .add 3 avm ap λ ar=>K ar aq)))
def avn:dL:=λ i=>match i with
 | 4=>.run 0 5
 | 7=>(.of [(0,[]),(1,[]),(2,[]),(5,[]),(6,[]),(7,[]),(8,[]),(3,[]),(4,[]),(9,[]),(10,[]),(11,[])])
 | _=>.nil
theorem ZK (l0:Value) (h:S158 w K l0):CR 158 [l0] w K:=
 eC 53 avn 4 [.tmp 2] Tryz.func158 h
def S159 (v0 a:Value):Prop:=
 gU Tryz.prog (Instr.box 177 v0) w λ v2 b=>gU Tryz.prog (Instr.box 173 a) b λ c d=>aL 129 d λ e f=>fA 177 v2 1 λ g=>lA 95 g (drew f) λ h=>fA 173 c 1 λ j=>lA 9 j (drew f) λ k=>
 fA 177 v2 0 λ l=>lA 27 l (drew f) λ n=>fA 173 c 2 λ o=>lA 9 o (drew f) λ p=>cF 98 [h,k] (drew f) λ q s=>kA 27 l n s (kA 9 o p s (cW Tryz.prog (Builtin.max_ #[3,3] 3 [(i 0),q].toArray) λ t=>
 cF 46 [n] s λ u v=>kA 9 o p v (cF 98 [u,p] v λ x y=>fA 173 c 3 λ z=>lA 86 z y λ aa=>fA 177 v2 1 λ ab=>lA 95 ab y λ ac=>cF 45 [aa,ac] y λ ad ae=>xT ad 0 λ af=>
 xT ad 1 λ _=>fA 173 c 4 λ ag=>lA 86 ag ae λ ah=>fA 177 v2 1 λ ai=>lA 95 ai ae λ aj=>cF 45 [ah,aj] ae λ ak al=>xT ak 0 λ am=>xT ak 1 λ _=>fA 173 c 0 λ an=>
 lA 3 an al λ ao=>cW Tryz.prog (Instr.build 129 [(0,ao),(1,t),(3,af),(4,am)].toArray) λ ap=>aL 129 al λ y11 aq=>sA 129 y11 ap aq λ ar=>lI (λ K1=>fA 173 c 0 λ asx=>
 lA 3 asx ar λ au=>bP (λ K2=>bB .eql 3 au (i 2) λ av=>cV av (K2 av ar) (bB .eql 3 au (i 3) λ aw=>cV aw (K2 aw ar) (bB .eql 3 au (i 4) λ ax=>K2 ax ar))) (λ ay az=>∀ _:Env,
 cV ay (fA 129 y11 2 λ a0=>sA 3 a0 x az λ a1=>K1 a1) (bP (λ K3=>bB .eql 3 au (i 5) λ a2=>cV a2 (K3 a2 az) (bB .eql 3 au (i 6) λ a3=>K3 a3 az)) (λ a4 a5=>∀ _:Env,
 cV a4 (fA 177 v2 0 λ a6=>lA 27 a6 a5 λ a7=>cF 43 [a7,x] a5 λ a8 a9=>fA 129 y11 2 λ ba=>sA 3 ba a8 a9 λ bb=>K1 bb) (bP (λ K4=>bB .eql 3 au (i 9) λ bc=>cV bc (
 K4 bc a5) (bB .eql 3 au (i 10) λ bd=>K4 bd a5)) (λ be bf=>∀ _:Env,
 cV be (fA 177 v2 0 λ bg=>lA 27 bg (drew bf) λ bh=>fA 173 c 2 λ bi=>lA 9 bi (drew bf) λ bj=>cF 99 [bh] (drew bf) λ bk bl=>kA 9 bi bj bl (cF 98 [bk,bj] bl λ bm bn=>
 fA 129 y11 2 λ bo=>sA 3 bo bm bn λ bp=>K1 bp)) (bB .eql 3 au (i 14) λ bq=>cV bq (fA 129 y11 0 λ br=>sA 3 br (i 15) bf λ bs=>K1 bs) (K1 bf)))))))) (λ bt=>∀ _:Env,
 lA 129 y11 bt λ bu=>sA 129 e bu bt λ bv=>lA 129 e bv λ r=>K r bv))))
def avo:dL:=λ i=>match i with
 | 1=>(.of [(0,[]),(1,[]),(2,[]),(3,[]),(6,[]),(7,[]),(9,[]),(10,[]),(4,[7,10]),(5,[]),(8,[10]),(11,[]),(12,[]),(13,[])])
 | 15=>(.of [(0,[]),(1,[]),(3,[]),(4,[]),(2,[4]),(5,[]),(6,[]),(7,[])])
 | _=>.nil
theorem ZL (v0 x1:Value) (h:S159 w K v0 x1):CR 159 [v0,x1] w K:=
 eC 76 avo 16 [.cell 4 129] Tryz.func159 h
def S160 (l0 i1:Value):Prop:=
 bP (λ K1=>bB .lss 3 i1 (i 0) λ a=>cV a (K1 tt w) (lN 86 l0 λ b=>bA .geq 3 i1 b λ c=>cV c (K1 tt w) (iA 86 l0 i1 λ d=>fA 166 d 0 λ e=>lA 3 e w λ f=>cF 163 [f] w λ g h=>
 bB .lss 3 g (i 0) λ j=>K1 j h))) (λ k l=>∀ _:Env,
 cV k (K (i (-1)) l) (bB .add 3 i1 (i 1) λ n=>kh (λ K2 at5 k6 o=>∀ _:Env,
 bP (λ K3=>iA 86 l0 i1 λ p=>fA 166 p 0 λ q=>lA 3 q o λ r=>cF 163 [r] o λ s t=>bA .lss 3 k6 s λ u=>cV u (bB .geq 3 at5 (i 0) λ v=>K3 v t) (K3 ff t)) (λ x y=>∀ _:Env,
 cV x (cF 160 [l0,at5] y λ z aa=>bB .add 3 k6 (i 1) λ ab=>K2 z ab aa) (K at5 y))) (λ K2=>K2 n (i 0) l)))
theorem ZM (l0 i1:Value) (h:S160 w K l0 i1):CR 160 [l0,i1] w K:=
 eC 44 (λ _=>.nil) 16 [.tmp 4] Tryz.func160 h
def S161 (s0:Value):Prop:=
 bP (λ K1=>lN 9 s0 λ a=>bB .lss 3 a (i 1) λ b=>cV b (K1 tt w) (lN 9 s0 λ c=>bB .gtr 3 c (i 16) λ d=>cV d (K1 tt w) (cW Tryz.prog (Instr.index 9 s0 (i 0)) λ e=>
 cF 206 [e] w λ f g=>cW Tryz.prog (Op.unary .not f) λ h=>cV h (K1 tt g) (cF 207 [s0] g λ j k=>K1 j k)))) (λ l n=>∀ _:Env,
 cV l (K ff n) (eS (λ K2 i3 o=>∀ _:Env,
 lN 9 s0 λ p=>bA .lss 3 i3 p λ q=>cV q (bP (λ K3=>cW Tryz.prog (Instr.index 9 s0 i3) λ r=>cF 206 [r] o λ s t=>cW Tryz.prog (Op.unary .not s) λ u=>cV u (cW Tryz.prog (Instr.index 9 s0 i3) λ v=>
 cF 208 [v] t λ x y=>cW Tryz.prog (Op.unary .not x) λ z=>K3 z y) (K3 ff t)) (λ aa ab=>∀ _:Env,
 cV aa (K ff ab) (bB .add 3 i3 (i 1) λ ac=>K2 ac ab))) (K tt o)) (λ K2=>K2 (i 0) n)))
theorem ZN (s0:Value) (h:S161 w K s0):CR 161 [s0] w K:=
 eC 40 (λ _=>.nil) 4 [.tmp 2] Tryz.func161 h
def S162 (l0 i1:Value):Prop:=
 bB .add 3 i1 (i 1) λ a=>JP (λ K1 n5 J1 k7 b=>∀ _:Env,
 iA 86 l0 i1 λ c=>fA 166 c 0 λ d=>lA 3 d b λ e=>cF 163 [e] b λ f g=>bA .lss 3 k7 f λ h=>cV h (cF 162 [l0,J1] g λ j k=>cW Tryz.prog (Builtin.max_ #[3,3] 3 [n5,j].toArray) λ l=>
 cF 160 [l0,J1] k λ n o=>bB .add 3 k7 (i 1) λ p=>K1 l n p o) (bB .add 3 n5 (i 1) λ q=>K q g)) (λ K1=>K1 (i 0) a (i 0) w)
theorem ZO (l0 i1:Value) (h:S162 w K l0 i1):CR 162 [l0,i1] w K:=
 eC 30 (λ _=>.nil) 16 [.tmp 4] Tryz.func162 h
def S163 (vL:Value):Prop:=
 bP (λ K1=>bB .eql 3 vL (i 1) λ a=>cV a (K1 tt w) (bB .eql 3 vL (i 2) λ b=>K1 b w)) (λ c d=>∀ _:Env,
 cV c (K (i 0) d) (bP (λ K2=>bB .eql 3 vL (i 3) λ e=>cV e (K2 tt d) (bB .eql 3 vL (i 4) λ f=>K2 f d)) (λ g h=>∀ _:Env,
 cV g (K (i 1) h) (bP (λ K3=>bB .geq 3 vL (i 5) λ j=>cV j (bB .leq 3 vL (i 15) λ k=>K3 k h) (K3 ff h)) (λ l n=>∀ _:Env,
 cV l (K (i 2) n) (K (i (-1)) n))))))
theorem ZP (vL:Value) (h:S163 w K vL):CR 163 [vL] w K:=
 eC 21 (λ _=>.nil) 4 [.tmp 2] Tryz.func163 h
def S164 (s0:Value):Prop:=
 lN 9 s0 λ a=>bB .gtr 3 a (i 4000) λ b=>cV b (K (.tuple #[(.slice none 0 0),(i 2),(i 4000)]) w) (bS 232 0 [] w λ c d=>cF 209 [s0,(i 0)] d λ e f=>kh (λ K1 yq J1 g=>∀ _:Env,
 lN 9 s0 λ h=>bA .lss 3 J1 h λ j=>cV j (cW Tryz.prog (Instr.build 242 [(3,J1)].toArray) λ k=>aL 242 g λ t8 l=>sA 242 t8 k l λ n=>bP (λ K2=>cW Tryz.prog (Instr.index 9 s0 J1) λ o=>
 cF 206 [o] n λ p q=>cV p (fA 242 t8 0 λ r=>sA 3 r (i 1) q λ s=>eS (λ K3 to7 t=>∀ _:Env,
 bP (λ K4=>lN 9 s0 λ u=>bA .lss 3 to7 u λ v=>cV v (cW Tryz.prog (Instr.index 9 s0 to7) λ x=>cF 206 [x] t λ y z=>cV y (K4 tt z) (cW Tryz.prog (Instr.index 9 s0 to7) λ aa=>
 cF 208 [aa] z λ ab ac=>K4 ab ac)) (K4 ff t)) (λ ad ae=>∀ _:Env,
 cV ad (bB .add 3 to7 (i 1) λ af=>K3 af ae) (bA .sub 3 to7 J1 λ ag=>bB .gtr 3 ag (i 16) λ ah=>cV ah (K (.tuple #[(.slice none 0 0),(i 2),J1]) ae) (K2 to7 ae)))) (λ K3=>K3 J1 s)) (
 cW Tryz.prog (Instr.index 9 s0 J1) λ ai=>cF 208 [ai] q λ aj ak=>cV aj (fA 242 t8 0 λ al=>sA 3 al (i 2) ak λ am=>eS (λ K5 J2 an=>∀ _:Env,
 bP (λ K6=>lN 9 s0 λ ao=>bA .lss 3 J2 ao λ ap=>cV ap (cW Tryz.prog (Instr.index 9 s0 J2) λ aq=>cF 208 [aq] an λ ar asx=>K6 ar asx) (K6 ff an)) (λ au av=>∀ _:Env,
 cV au (lI (λ K7=>fA 242 t8 2 λ aw=>lA 3 aw av λ ax=>bB .leq 3 ax (i 4294967296) λ ay=>cV ay (fA 242 t8 2 λ az=>lA 3 az (drew av) λ a0=>bC .mul 3 (i 10) a0 λ a1=>
 cW Tryz.prog (Instr.index 9 s0 J2) λ a2=>bB .sub 5 a2 (.int .u8 48) λ a3=>cW Tryz.prog (convert 5 3 a3) λ a4=>bA .add 3 a1 a4 λ a5=>fA 242 t8 2 λ a6=>sA 3 a6 a5 (drew av) λ a7=>
 K7 a7) (K7 av)) (λ a8=>∀ _:Env,
 bB .add 3 J2 (i 1) λ a9=>K5 a9 a8)) (fA 242 t8 2 λ ba=>lA 3 ba av λ bb=>bB .gtr 3 bb (i 4294967296) λ bc=>cV bc (K (.tuple #[(.slice none 0 0),(i 4),J1]) av) (K2 J2 av))))
 (λ K5=>K5 J1 am)) (fA 242 t8 0 λ bd=>sA 3 bd (i 3) ak λ be=>cF 210 [s0,J1] be λ bf bg=>bA .add 3 J1 bf λ bh=>bA .eql 3 bh J1 λ bi=>cV bi (K (.tuple #[(.slice none 0 0),(i 3),J1]) bg) (
 K2 bh bg)))) (λ aeI bj=>∀ _:Env,
 cW Tryz.prog (Instr.sliceAt 9 s0 (some J1) (some aeI) none) λ bk=>fA 242 t8 1 λ bl=>sA 9 bl bk bj λ bm=>lA 242 t8 bm λ bn=>bS 232 1 [(0,bn)] bm λ bo bp=>aP 232 yq bo bp λ bq br=>
 cF 209 [s0,aeI] br λ bs bt=>K1 bq bs bt)) (K (.tuple #[yq,(i 0),(i 0)]) g)) (λ K1=>K1 c e f))
def avp:dL:=λ i=>match i with
 | 17=>.run 0 11
 | _=>.nil
theorem ZQ (s0:Value) (h:S164 w K s0):CR 164 [s0] w K:=
 eC 107 avp 28 [.tmp 2,.tmp 3,.tmp 4] Tryz.func164 h
def S165 (r0 s1:Value):Prop:=
 bP (λ K1=>nC r0 λ a=>fA 237 a 2 λ b=>lA 37 b (drew w) λ c=>bB .eql 37 c (i 0) λ d=>cV d (nC r0 λ e=>fA 237 e 0 λ f=>lA 232 f (drew w) λ g=>nC r0 λ h=>
 fA 237 h 1 λ j=>lA 3 j (drew w) λ k=>cF 211 [g,k,s1] (drew w) λ l n=>K1 l n) (K1 ff (drew w))) (λ o p=>∀ _:Env,
 cV o (nC r0 λ q=>fA 237 q 1 λ r=>lA 3 r p λ s=>bB .add 3 s (i 1) λ t=>nC r0 λ u=>fA 237 u 1 λ v=>sA 3 v t p λ x=>K tt x) (K ff p))
def avq:dL:=λ i=>match i with
 | 1=>.run 0 17
 | _=>.nil
theorem ZR (r0 s1:Value) (h:S165 w K r0 s1):CR 165 [r0,s1] w K:=
 eC 30 avq 16 [.tmp 4] Tryz.func165 h
def S166 (r0 zq:Value):Prop:=
 bS 23 0 [] w λ a b=>kh (λ K1 yq anf c=>∀ _:Env,
 bP (λ K2=>cV anf (nC r0 λ d=>fA 237 d 2 λ e=>lA 37 e c λ f=>bB .eql 37 f (i 0) λ g=>K2 g c) (K2 ff c)) (λ h j=>∀ _:Env,
 cV h (cF 167 [r0] j λ k l=>aL 163 l λ c7 n=>sA 163 c7 k n λ o=>lI (λ K3=>bP (λ K4=>cV zq (cF 165 [r0,(Go.Value.string (ByteArray.mk (#[61])))] o λ p q=>
 K4 p q) (K4 ff o)) (λ r s=>∀ _:Env,
 cV r (bP (λ K5=>nC r0 λ t=>fA 237 t 1 λ u=>lA 3 u (drew s) λ v=>nC r0 λ x=>fA 237 x 0 λ y=>lA 232 y (drew s) λ z=>lN 232 z λ aa=>bA .lss 3 v aa λ ab=>
 cV ab (nC r0 λ ac=>fA 237 ac 0 λ ad=>lA 232 ad (drew s) λ ae=>nC r0 λ af=>fA 237 af 1 λ ag=>lA 3 ag (drew s) λ ah=>iA 232 ae ah λ ai=>fA 242 ai 0 λ aj=>lA 3 aj (drew s) λ ak=>
 bB .eql 3 ak (i 2) λ al=>K5 al (drew s)) (K5 ff (drew s))) (λ am an=>∀ _:Env,
 cV am (nC r0 λ ao=>fA 237 ao 0 λ ap=>lA 232 ap (drew an) λ aq=>nC r0 λ ar=>fA 237 ar 1 λ asx=>lA 3 asx (drew an) λ au=>iA 232 aq au λ av=>fA 242 av 2 λ aw=>lA 3 aw (drew an) λ ax=>
 fA 163 c7 1 λ ay=>sA 3 ay ax (drew an) λ az=>nC r0 λ a0=>fA 237 a0 1 λ a1=>lA 3 a1 az λ a2=>bB .add 3 a2 (i 1) λ a3=>nC r0 λ a4=>fA 237 a4 1 λ a5=>sA 3 a5 a3 az λ a6=>
 K3 a6) (cF 170 [r0] an λ _ a7=>K3 a7))) (K3 s))) (λ a8=>∀ _:Env,
 lA 163 c7 a8 λ a9=>bS 23 1 [(0,a9)] a8 λ ba bb=>aP 23 yq ba bb λ bc bd=>cF 165 [r0,(Go.Value.string (ByteArray.mk (#[44])))] bd λ be bf=>K1 bc be bf)) (cF 212 [r0,(Go.Value.string (ByteArray.mk (#[59])))] j λ _ bg=>
 K yq bg))) (λ K1=>K1 a tt b)
def avr:dL:=λ i=>match i with
 | 7=>.run 0 24
 | 8=>.run 0 13
 | _=>.nil
theorem ZS (r0 zq:Value) (h:S166 w K r0 zq):CR 166 [r0,zq] w K:=
 eC 79 avr 16 [.tmp 4] Tryz.func166 h
def S167 (r0:Value):Prop:=
 aL 163 w λ a b=>bP (λ K1=>nC r0 λ c=>fA 237 c 2 λ d=>lA 37 d (drew b) λ e=>bB .eql 37 e (i 0) λ f=>cV f (nC r0 λ g=>fA 237 g 1 λ h=>lA 3 h (drew b) λ j=>
 nC r0 λ k=>fA 237 k 0 λ l=>lA 232 l (drew b) λ n=>lN 232 n λ o=>bA .lss 3 j o λ p=>cV p (nC r0 λ q=>fA 237 q 0 λ s=>lA 232 s (drew b) λ t=>nC r0 λ u=>fA 237 u 1 λ v=>
 lA 3 v (drew b) λ x=>iA 232 t x λ y=>fA 242 y 0 λ z=>lA 3 z (drew b) λ aa=>bB .eql 3 aa (i 1) λ ab=>cV ab (nC r0 λ ac=>fA 237 ac 0 λ ad=>lA 232 ad (drew b) λ ae=>
 nC r0 λ af=>fA 237 af 1 λ ag=>lA 3 ag (drew b) λ ah=>iA 232 ae ah λ ai=>fA 242 ai 1 λ aj=>lA 9 aj (drew b) λ ak=>cF 161 [ak] (drew b) λ al am=>K1 al am) (K1 ff (drew b))) (
 K1 ff (drew b))) (K1 ff (drew b))) (λ an ao=>∀ _:Env,
 cV an (nC r0 λ ap=>fA 237 ap 1 λ aq=>lA 3 aq ao λ ar=>bB .add 3 ar (i 1) λ asx=>nC r0 λ au=>fA 237 au 1 λ av=>sA 3 av asx ao λ aw=>nC r0 λ ax=>fA 237 ax 0 λ ay=>
 lA 232 ay (drew aw) λ az=>nC r0 λ a0=>fA 237 a0 1 λ a1=>lA 3 a1 (drew aw) λ a2=>bB .sub 3 a2 (i 1) λ a3=>iA 232 az a3 λ a4=>fA 242 a4 1 λ a5=>lA 9 a5 (drew aw) λ a6=>
 nC r0 λ a7=>fA 237 a7 0 λ a8=>lA 232 a8 (drew aw) λ a9=>nC r0 λ ba=>fA 237 ba 1 λ bb=>lA 3 bb (drew aw) λ bc=>bB .sub 3 bc (i 1) λ bd=>iA 232 a9 bd λ be=>fA 242 be 3 λ bf=>
 lA 3 bf (drew aw) λ bg=>cW Tryz.prog (Instr.build 163 [(0,a6),(2,bg)].toArray) λ bh=>sA 163 a bh (drew aw) λ bi=>lA 163 a bi λ r=>K r bi) (cF 170 [r0] ao λ _ bj=>
 cW Tryz.prog (Instr.build 163 [].toArray) λ bk=>sA 163 a bk bj λ bl=>lA 163 a bl λ zm=>K zm bl))
def avs:dL:=λ i=>match i with
 | 1=>.run 0 45
 | 3=>.run 0 26
 | _=>.nil
theorem ZT (r0:Value) (h:S167 w K r0):CR 167 [r0] w K:=
 eC 84 avs 4 [.cell 2 163] Tryz.func167 h
def S168 (r0 t1:Value):Prop:=
 gU Tryz.prog (Instr.box 98 t1) w λ t3 a=>aL 98 a λ b c=>nC r0 λ d=>fA 237 d 1 λ e=>lA 3 e c λ f=>cF 212 [r0,(Go.Value.string (ByteArray.mk (#[123])))] c λ _ g=>
 lI (λ K1=>cF 165 [r0,(Go.Value.string (ByteArray.mk (#[114,101,103])))] g λ h j=>cV h (cF 166 [r0,ff] j λ k l=>eS (λ K2 i7 n=>∀ _:Env,
 lN 23 k λ o=>bA .lss 3 i7 o λ p=>cV p (fA 98 t3 1 λ q=>lA 95 q (drew n) λ s=>iA 23 k i7 λ t=>fA 163 t 0 λ u=>lA 9 u (drew n) λ v=>bS 95 1 [(0,v)] (drew n) λ x y=>
 kA 95 q s y (aP 95 s x y λ z aa=>fA 98 t3 1 λ ab=>sA 95 ab z aa λ ac=>bB .add 3 i7 (i 1) λ ad=>K2 ad ac)) (K1 n)) (λ K2=>K2 (i 0) l)) (K1 j)) (λ ae=>∀ _:Env,
 lI (λ K3=>nC r0 λ af=>fA 237 af 2 λ ag=>lA 37 ag ae λ ah=>bB .eql 37 ah (i 0) λ ai=>cV ai (nC r0 λ aj=>fA 237 aj 0 λ ak=>lA 232 ak (drew ae) λ al=>nC r0 λ am=>
 fA 237 am 1 λ an=>lA 3 an (drew ae) λ ao=>cF 213 [al,ao,f] (drew ae) λ ap aq=>xT ap 0 λ ar=>xT ap 1 λ asx=>xT ap 2 λ au=>xT ap 3 λ av=>fA 98 t3 2 λ aw=>sA 96 aw ar aq λ ax=>
 nC r0 λ ay=>fA 237 ay 1 λ az=>sA 3 az asx ax λ a0=>nC r0 λ a1=>fA 237 a1 2 λ a2=>sA 37 a2 au a0 λ a3=>nC r0 λ a4=>fA 237 a4 3 λ a5=>sA 3 a5 av a3 λ a6=>K3 a6) (
 K3 ae)) (λ a7=>∀ _:Env,
 lA 98 t3 a7 λ a8=>sA 98 b a8 a7 λ a9=>lA 98 b a9 λ r=>K r a9))
def avt:dL:=λ i=>match i with
 | 8=>(.of [(0,[]),(1,[]),(2,[]),(3,[]),(4,[]),(5,[]),(6,[]),(7,[1]),(8,[]),(9,[]),(10,[])])
 | 10=>.run 0 19
 | _=>.nil
theorem ZU (r0 t1:Value) (h:S168 w K r0 t1):CR 168 [r0,t1] w K:=
 eC 73 avt 16 [.cell 4 98] Tryz.func168 h
def S169 (r0 Fv:Value):Prop:=
 aL 89 w λ a b=>nC r0 λ c=>fA 237 c 0 λ d=>lA 232 d (drew b) λ e=>nC r0 λ f=>fA 237 f 1 λ g=>lA 3 g (drew b) λ h=>cF 214 [e,h] (drew b) λ j k=>xT j 0 λ l=>
 xT j 1 λ n=>xT j 2 λ o=>xT j 3 λ p=>bB .neq 37 o (i 0) λ q=>cV q (nC r0 λ s=>fA 237 s 2 λ t=>sA 37 t o k λ u=>nC r0 λ v=>fA 237 v 3 λ x=>sA 3 x p u λ y=>
 cW Tryz.prog (Instr.build 89 [].toArray) λ z=>sA 89 a z y λ aa=>lA 89 a aa λ r=>K r aa) (nC r0 λ ab=>fA 237 ab 1 λ ac=>sA 3 ac n k λ ad=>cF 212 [r0,(Go.Value.string (ByteArray.mk (#[59])))] ad λ _ ae=>
 cW Tryz.prog (Instr.build 89 [(0,l),(1,Fv)].toArray) λ af=>sA 89 a af ae λ ag=>lA 89 a ag λ zm=>K zm ag)
def avu:dL:=λ i=>match i with
 | 1=>.run 0 18
 | _=>.nil
theorem ZV (r0 Fv:Value) (h:S169 w K r0 Fv):CR 169 [r0,Fv] w K:=
 eC 43 avu 16 [.cell 4 89] Tryz.func169 h
def S170 (r0:Value):Prop:=
 nC r0 λ a=>fA 237 a 2 λ b=>lA 37 b w λ c=>bB .eql 37 c (i 0) λ d=>cV d (nC r0 λ e=>fA 237 e 2 λ f=>sA 37 f (i 5) w λ g=>lI (λ K1=>nC r0 λ h=>fA 237 h 1 λ j=>
 lA 3 j (drew g) λ k=>nC r0 λ l=>fA 237 l 0 λ n=>lA 232 n (drew g) λ o=>lN 232 o λ p=>bA .geq 3 k p λ q=>cV q (nC r0 λ r=>fA 237 r 2 λ s=>sA 37 s (i 6) (drew g) λ t=>
 K1 t) (K1 (drew g))) (λ u=>∀ _:Env,
 nC r0 λ v=>fA 237 v 0 λ x=>lA 232 x (drew u) λ y=>nC r0 λ z=>fA 237 z 1 λ aa=>lA 3 aa (drew u) λ ab=>cF 215 [y,ab] (drew u) λ ac ad=>nC r0 λ ae=>fA 237 ae 3 λ af=>
 sA 3 af ac ad λ ag=>K (.tuple #[]) ag)) (K (.tuple #[]) w)
def avv:dL:=λ i=>match i with
 | 2=>.run 0 10
 | 4=>.run 0 13
 | _=>.nil
theorem ZW (r0:Value) (h:S170 w K r0):CR 170 [r0] w K:=
 eC 35 avv 0 [] Tryz.func170 h
def S171 (nP:Value):Prop:=
 bP (λ K1=>bB .eql 3 nP (i 3) λ a=>cV a (K1 tt w) (bB .eql 3 nP (i 4) λ b=>K1 b w)) (λ c d=>∀ _:Env,
 cV c (K (i 1) d) (bP (λ K2=>bB .geq 3 nP (i 5) λ e=>cV e (bB .leq 3 nP (i 15) λ f=>K2 f d) (K2 ff d)) (λ g h=>∀ _:Env,
 cV g (K (i 2) h) (K (i 0) h))))
theorem ZX (nP:Value) (h:S171 w K nP):CR 171 [nP] w K:=
 eC 17 (λ _=>.nil) 4 [.tmp 2] Tryz.func171 h
def S172 (p0 n1:Value):Prop:=
 nC p0 λ a=>fA 247 a 0 λ b=>cF 216 [b,n1] w λ _ c=>nC p0 λ d=>fA 247 d 1 λ e=>lA 3 e (drew c) λ f=>nC p0 λ g=>fA 247 g 0 λ h=>fA 245 h 0 λ j=>lA 28 j (drew c) λ k=>
 lN 28 k λ l=>cW Tryz.prog (Builtin.max_ #[3,3] 3 [f,l].toArray) λ n=>nC p0 λ o=>fA 247 o 1 λ p=>sA 3 p n (drew c) λ q=>K (.tuple #[]) q
def avw:dL:=λ i=>match i with
 | 1=>.run 0 15
 | _=>.nil
theorem ZY (p0 n1:Value) (h:S172 w K p0 n1):CR 172 [p0,n1] w K:=
 eC 23 avw 0 [] Tryz.func172 h
def S173 (vL a1:Value):Prop:=
 bB .eql 3 vL (i 3) λ a=>cV a (cW Tryz.prog (Op.unary .neg a1) λ b=>K (.tuple #[b,(i 0)]) w) (bB .eql 3 vL (i 4) λ c=>cV c (cF 218 [a1] w λ d e=>cW Tryz.prog (Op.unary .not d) λ f=>
 cF 217 [f] e λ g h=>K (.tuple #[g,(i 0)]) h) (K (.tuple #[(i 0),(i 1)]) w))
theorem ZZ (vL a1:Value) (h:S173 w K vL a1):CR 173 [vL,a1] w K:=
 eC 17 (λ _=>.nil) 48 [.tmp 4,.tmp 5] Tryz.func173 h
def S174 (s0:Value):Prop:=
 nC s0 λ a=>fA 245 a 0 λ b=>lA 28 b (drew w) λ c=>nC s0 λ d=>fA 245 d 0 λ e=>lA 28 e (drew w) λ f=>lN 28 f λ g=>bB .sub 3 g (i 1) λ h=>iA 28 c h λ j=>lA 3 j (drew w) λ k=>
 nC s0 λ l=>fA 245 l 0 λ n=>lA 28 n (drew (drew w)) λ o=>nC s0 λ p=>fA 245 p 0 λ q=>lA 28 q (drew (drew w)) λ r=>lN 28 r λ s=>bB .sub 3 s (i 1) λ t=>cW Tryz.prog (Instr.sliceAt 28 o none (some t) none) λ u=>
 nC s0 λ v=>fA 245 v 0 λ x=>sA 28 x u (drew (drew w)) λ y=>K k y
def avx:dL:=λ i=>match i with
 | 1=>.run 0 13
 | 2=>.run 0 15
 | _=>.nil
theorem Z0 (s0:Value) (h:S174 w K s0):CR 174 [s0] w K:=
 eC 31 avx 4 [.tmp 2] Tryz.func174 h
def S175 (vL a1 b2:Value):Prop:=
 bP (λ K1=>bB .lss 3 vL (i 0) λ a=>cV a (K1 tt w) (bB .geq 3 vL (i 16) λ b=>K1 b w)) (λ c d=>∀ _:Env,
 cV c (K (.tuple #[(i 0),(i 1)]) d) (cF 219 [] d λ e f=>cW Tryz.prog (Instr.index 289 e vL) λ g=>bB .eql 288 g .nilFunc λ h=>cV h (K (.tuple #[(i 0),(i 1)]) f) (bP (λ K2=>
 bB .eql 3 vL (i 8) λ j=>cV j (bB .eql 3 b2 (i 0) λ k=>K2 k f) (bB .eql 3 vL (i 9) λ l=>cV l (bB .eql 3 b2 (i 0) λ n=>K2 n f) (K2 ff f))) (λ o p=>∀ _:Env,
 cV o (K (.tuple #[(i 0),(i 12)]) p) (fZ Tryz.prog g [a1,b2] p λ q r=>K (.tuple #[q,(i 0)]) r)))))
theorem Z1 (vL a1 b2:Value) (h:S175 w K vL a1 b2):CR 175 [vL,a1,b2] w K:=
 eC 36 (λ _=>.nil) 192 [.tmp 6,.tmp 7] Tryz.func175 h
def S176 (b0 a:Value):Prop:=
 fA 129 a 0 λ b=>lA 3 b (drew w) λ c=>cF 178 [] (drew w) λ d e=>kA 3 b c e (cW Tryz.prog (Instr.index 253 d c) λ f=>gU Tryz.prog (convert 9 252 f) e λ g h=>cF 177 [g,b0] h λ j k=>
 K j k)
def avy:dL:=λ i=>match i with
 | 1=>(.of [(1,[]),(2,[]),(5,[]),(0,[2]),(3,[]),(4,[]),(6,[]),(7,[])])
 | _=>.nil
theorem Z2 (b0 x1:Value) (h:S176 w K b0 x1):CR 176 [b0,x1] w K:=
 eC 11 avy 8 [.tmp 3] Tryz.func176 h
def S177 (s0 v1:Value):Prop:=
 cF 220 [s0,v1] w λ a b=>bB .geq 3 a (i 0) λ c=>K c b
theorem Z3 (s0 v1:Value) (h:S177 w K s0 v1):CR 177 [s0,v1] w K:=
 eC 9 (λ _=>.nil) 16 [.tmp 4] Tryz.func177 h
def S178:Prop:=
 aL 253 w λ a b=>cW Tryz.prog (Instr.build 253 [(1,(Go.Value.string (ByteArray.mk (#[114,101])))),(2,(Go.Value.string (ByteArray.mk (#[114,99])))),(3,(Go.Value.string (ByteArray.mk (#[99,101])))),(4,(Go.Value.string (ByteArray.mk (#[114,99,101,102])))),(5,(Go.Value.string (ByteArray.mk (#[108])))),(6,(Go.Value.string (ByteArray.mk (#[108])))),(9,(Go.Value.string (ByteArray.mk (#[109])))),(10,(Go.Value.string (ByteArray.mk (#[109])))),(11,(Go.Value.string (ByteArray.mk (#[116])))),(12,(Go.Value.string (ByteArray.mk (#[101,116])))),(13,(Go.Value.string (ByteArray.mk (#[107,110])))),(14,(Go.Value.string (ByteArray.mk (#[107,116])))),(15,(Go.Value.string (ByteArray.mk (#[101]))))].toArray) λ c=>
 sA 253 a c b λ d=>lA 253 a d λ r=>K r d
theorem Z4 (h:S178 w K):CR 178 [] w K:=
 eC 2 (λ _=>.nil) 1 [.cell 0 253] Tryz.func178 h
def S179 (Po n1 Pp:Value):Prop:=
 cW Tryz.prog (Op.unary .not Po) λ a=>cV a (bB .eql 3 n1 (i 0) λ b=>K b w) (bP (λ K1=>bB .geq 3 n1 (i 0) λ c=>cV c (bA .lss 3 n1 Pp λ d=>K1 d w) (K1 ff w)) (λ e f=>∀ _:Env,
 K e f))
theorem Z5 (Po n1 Pp:Value) (h:S179 w K Po n1 Pp):CR 179 [Po,n1,Pp] w K:=
 eC 18 (λ _=>.nil) 64 [.tmp 6] Tryz.func179 h
def S180 (l0 i1:Value):Prop:=
 iA 31 l0 i1 λ a=>lA 129 a w λ b=>aL 129 w λ c d=>sA 129 c b d λ e=>bP (λ K1=>fA 129 c 5 λ f=>lA 3 f (drew e) λ g=>bB .lss 3 g (i 1) λ h=>cV h (K1 tt (drew e)) (
 fA 129 c 5 λ j=>lA 3 j (drew e) λ k=>bA .gtr 3 k i1 λ l=>cV l (K1 tt (drew e)) (fA 129 c 5 λ n=>lA 3 n (drew e) λ o=>bB .sub 3 o (i 1) λ p=>iA 31 l0 p λ q=>fA 129 q 0 λ r=>
 lA 3 r (drew e) λ s=>bB .neq 3 s (i 13) λ t=>cV t (K1 tt (drew e)) (fA 129 c 5 λ u=>lA 3 u (drew e) λ v=>bB .sub 3 v (i 1) λ x=>iA 31 l0 x λ y=>fA 129 y 1 λ z=>
 lA 3 z (drew e) λ aa=>fA 129 c 1 λ ab=>lA 3 ab (drew e) λ ac=>bA .neq 3 aa ac λ ad=>K1 ad (drew e))))) (λ ae af=>∀ _:Env,
 cV ae (K ff af) (fA 129 c 5 λ ag=>lA 3 ag af λ ah=>cW Tryz.prog (Instr.sliceAt 31 l0 (some ah) (some i1) none) λ ai=>cF 221 [ai,(.func (Go.Fn.func 222) [].toArray [c].toArray)] af λ aj ak=>
 cW Tryz.prog (Op.unary .not aj) λ al=>K al ak))
def avz:dL:=λ i=>match i with
 | 2=>.run 0 31
 | _=>.nil
theorem Z6 (l0 i1:Value) (h:S180 w K l0 i1):CR 180 [l0,i1] w K:=
 eC 49 avz 16 [.tmp 4] Tryz.func180 h
def S181 (l0:Value):Prop:=
 lN 31 l0 λ a=>kh (λ K1 zs b c=>∀ _:Env,
 bA .lss 3 b a λ d=>cV d (bP (λ K2=>iA 31 l0 b λ e=>lA 129 e c λ f=>aL 129 c λ g h=>sA 129 g f h λ j=>fA 129 g 0 λ k=>lA 3 k j λ l=>bB .neq 3 l (i 14) λ n=>
 cV n (K2 zs j) (fA 129 g 5 λ o=>lA 3 o j λ p=>bB .sub 3 p (i 1) λ q=>lN 28 zs λ r=>eS (λ K3 s t=>∀ _:Env,
 bA .lss 3 s r λ u=>cV u (iA 28 zs s λ v=>lA 3 v t λ x=>iA 31 l0 x λ y=>fA 129 y 5 λ z=>lA 3 z t λ aa=>bB .sub 3 aa (i 1) λ ab=>bP (λ K4=>bA .lss 3 ab q λ ac=>
 cV ac (bA .geq 3 x q λ ad=>K4 ad t) (K4 ff t)) (λ ae af=>∀ _:Env,
 cV ae (K ff af) (bB .add 3 s (i 1) λ ag=>K3 ag af))) (bS 28 1 [(0,b)] t λ ah ai=>aP 28 zs ah ai λ aj ak=>K2 aj ak)) (λ K3=>K3 (i 0) j))) (λ CH al=>∀ _:Env,
 bB .add 3 b (i 1) λ am=>K1 CH am al)) (K tt c)) (λ K1=>K1 (.slice none 0 0) (i 0) w)
theorem Z7 (l0:Value) (h:S181 w K l0):CR 181 [l0] w K:=
 eC 49 (λ _=>.nil) 4 [.tmp 2] Tryz.func181 h
def S182 (a b:Value):Prop:=
 gU Tryz.prog (Instr.box 200 a) w λ c d=>fA 200 c 0 λ e=>lA 3 e d λ f=>bB .eql 3 f (i 1) λ g=>cV g (bP (λ K1=>fA 200 c 1 λ h=>lA 3 h d λ j=>bB .lss 3 j (i 0) λ k=>
 cV k (K1 tt d) (fA 200 c 1 λ l=>lA 3 l d λ n=>bB .gtr 3 n (i 4294967296) λ o=>K1 o d)) (λ p q=>∀ _:Env,
 K p q)) (fA 200 c 0 λ r=>lA 3 r d λ s=>bB .eql 3 s (i 2) λ t=>cV t (bP (λ K2=>fA 200 c 1 λ u=>lA 3 u d λ v=>bB .lss 3 v (i 0) λ x=>cV x (K2 tt d) (fA 200 c 1 λ y=>
 lA 3 y d λ z=>lA 3 b d λ aa=>bA .geq 3 z aa λ ab=>K2 ab d)) (λ ac ad=>∀ _:Env,
 K ac ad)) (bP (λ K3=>fA 200 c 1 λ ae=>lA 3 ae d λ af=>bB .neq 3 af (i 0) λ ag=>cV ag (K3 tt d) (fA 200 c 0 λ ah=>lA 3 ah d λ ai=>bB .lss 3 ai (i 1) λ aj=>cV aj (
 K3 tt d) (fA 200 c 0 λ ak=>lA 3 ak d λ al=>bB .geq 3 al (i 16) λ am=>K3 am d))) (λ an ao=>∀ _:Env,
 K an ao)))
theorem Z8 (x0 x1:Value) (h:S182 w K x0 x1):CR 182 [x0,x1] w K:=
 eC 42 (λ _=>.nil) 8 [.tmp 3] Tryz.func182 h
def S183 (l0:Value):Prop:=
 lN 99 l0 λ a=>JP (λ K1 n5 aeJ b c=>∀ _:Env,
 bA .lss 3 b a λ d=>cV d (iA 99 l0 b λ e=>lA 200 e c λ f=>aL 200 c λ g h=>sA 200 g f h λ j=>fA 200 g 0 λ k=>lA 3 k j λ l=>cF 171 [l] j λ n o=>bA .sub 3 n5 n λ p=>
 bB .lss 3 p (i 0) λ q=>cV q (K (.tuple #[(i 0),(i 0),ff]) o) (bB .add 3 p (i 1) λ r=>cW Tryz.prog (Builtin.max_ #[3,3] 3 [aeJ,r].toArray) λ s=>bB .add 3 b (i 1) λ t=>
 K1 r s t o)) (K (.tuple #[n5,aeJ,tt]) c)) (λ K1=>K1 (i 0) (i 0) (i 0) w)
theorem Z9 (l0:Value) (h:S183 w K l0):CR 183 [l0] w K:=
 eC 30 (λ _=>.nil) 28 [.tmp 2,.tmp 3,.tmp 4] Tryz.func183 h
def S184 (s0 f1:Value):Prop:=
 cF 223 [s0,f1] w λ a b=>bB .geq 3 a (i 0) λ c=>K c b
theorem aaa (s0 f1:Value) (h:S184 w K s0 f1):CR 184 [s0,f1] w K:=
 eC 9 (λ _=>.nil) 16 [.tmp 4] Tryz.func184 h
def S185 (s0 f1:Value):Prop:=
 lN 28 s0 λ a=>eS (λ K1 b c=>∀ _:Env,
 bA .lss 3 b a λ d=>cV d (iA 28 s0 b λ e=>lA 3 e c λ f=>fZ Tryz.prog f1 [f] c λ g h=>cV g (K b h) (bB .add 3 b (i 1) λ j=>K1 j h)) (K (i (-1)) c)) (λ K1=>K1 (i 0) w)
theorem aab (s0 f1:Value) (h:S185 w K s0 f1):CR 185 [s0,f1] w K:=
 eC 19 (λ _=>.nil) 16 [.tmp 4] Tryz.func185 h
def S186 (s0 f1:Value):Prop:=
 lN 30 s0 λ a=>eS (λ K1 b c=>∀ _:Env,
 bA .lss 3 b a λ d=>cV d (iA 30 s0 b λ e=>lA 33 e c λ f=>fZ Tryz.prog f1 [f] c λ g h=>cV g (K b h) (bB .add 3 b (i 1) λ j=>K1 j h)) (K (i (-1)) c)) (λ K1=>K1 (i 0) w)
theorem aac (s0 f1:Value) (h:S186 w K s0 f1):CR 186 [s0,f1] w K:=
 eC 19 (λ _=>.nil) 16 [.tmp 4] Tryz.func186 h
def S187 (s0 f1:Value):Prop:=
 lN 34 s0 λ a=>eS (λ K1 b c=>∀ _:Env,
 bA .lss 3 b a λ d=>cV d (iA 34 s0 b λ e=>lA 99 e c λ f=>fZ Tryz.prog f1 [f] c λ g h=>cV g (K b h) (bB .add 3 b (i 1) λ j=>K1 j h)) (K (i (-1)) c)) (λ K1=>K1 (i 0) w)
theorem aad (s0 f1:Value) (h:S187 w K s0 f1):CR 187 [s0,f1] w K:=
 eC 19 (λ _=>.nil) 16 [.tmp 4] Tryz.func187 h
def S188 (s0:Value):Prop:=
 bB .eql 31 s0 (.slice none 0 0) λ a=>cV a (K (.slice none 0 0) w) (bS 31 0 [] w λ b c=>aP 31 b s0 c λ d e=>K d e)
theorem aae (s0:Value) (h:S188 w K s0):CR 188 [s0] w K:=
 eC 8 (λ _=>.nil) 4 [.tmp 2] Tryz.func188 h
def S189 (t0 l1:Value):Prop:=
 lN 99 l1 λ a=>bB .eql 3 a (i 0) λ b=>cV b (K (.tuple #[(i 0),tt]) w) (nC t0 λ c=>fA 122 c 3 λ d=>lA 28 d w λ e=>cF 110 [l1,e] w λ f g=>xT f 0 λ h=>xT f 1 λ j=>
 lI (λ K1=>bB .neq 37 j (i 0) λ k=>cV k (nC t0 λ l=>fA 122 l 5 λ n=>sA 3 n (i 2) g λ o=>K1 o) (K1 g)) (λ p=>∀ _:Env,
 bB .eql 37 j (i 0) λ q=>K (.tuple #[h,q]) p))
theorem aaf (t0 l1:Value) (h:S189 w K t0 l1):CR 189 [t0,l1] w K:=
 eC 28 (λ _=>.nil) 48 [.tmp 4,.tmp 5] Tryz.func189 h
def S190 (HS a b:Value):Prop:=
 gU Tryz.prog (Instr.box 161 HS) w λ A8 c=>lA 109 a (drew c) λ d=>nC d λ e=>fA 197 e 1 λ f=>lA 80 f (drew c) λ g=>lA 3 b (drew c) λ h=>iA 80 g h λ j=>
 lA 161 j (drew c) λ k=>lA 161 A8 (drew c) λ l=>cF 191 [k,l] (drew c) λ n o=>cW Tryz.prog (Op.unary .not n) λ p=>K p o
def avA:dL:=λ i=>match i with
 | 1=>.run 0 11
 | _=>.nil
theorem aag (HS x1 x2:Value) (h:S190 w K HS x1 x2):CR 190 [HS,x1,x2] w K:=
 eC 15 avA 16 [.tmp 4] Tryz.func190 h
def S191 (a HT:Value):Prop:=
 gU Tryz.prog (Instr.box 161 a) w λ b c=>gU Tryz.prog (Instr.box 161 HT) c λ A8 d=>bP (λ K1=>fA 161 b 0 λ e=>lA 3 e d λ f=>bB .eql 3 f (i 7) λ g=>cV g (
 K1 tt d) (fA 161 A8 0 λ h=>lA 3 h d λ j=>bB .eql 3 j (i 7) λ k=>K1 k d)) (λ ah6 l=>∀ _:Env,
 bP (λ K2=>cW Tryz.prog (Op.unary .not ah6) λ n=>cV n (fA 161 b 0 λ o=>lA 3 o l λ p=>bB .eql 3 p (i 6) λ q=>cV q (fA 161 b 1 λ r=>lA 3 r l λ s=>fA 161 A8 1 λ t=>
 lA 3 t l λ u=>bA .neq 3 s u λ v=>K2 v l) (fA 161 A8 0 λ x=>lA 3 x l λ y=>bB .eql 3 y (i 6) λ z=>cV z (fA 161 b 1 λ aa=>lA 3 aa l λ ab=>fA 161 A8 1 λ ac=>
 lA 3 ac l λ ad=>bA .neq 3 ab ad λ ae=>K2 ae l) (K2 ff l))) (K2 ff l)) (λ af ag=>∀ _:Env,
 K af ag))
theorem aah (x0 HT:Value) (h:S191 w K x0 HT):CR 191 [x0,HT] w K:=
 eC 33 (λ _=>.nil) 16 [.tmp 4] Tryz.func191 h
def S192 (s0 f1:Value):Prop:=
 cF 224 [s0,f1] w λ a b=>bB .geq 3 a (i 0) λ c=>K c b
theorem aai (s0 f1:Value) (h:S192 w K s0 f1):CR 192 [s0,f1] w K:=
 eC 9 (λ _=>.nil) 16 [.tmp 4] Tryz.func192 h
def S193 (s0 i1 j2:Value):Prop:=
 lN 80 s0 λ a=>cW Tryz.prog (Instr.sliceAt 80 s0 (some i1) (some j2) (some a)) λ _=>bA .eql 3 i1 j2 λ b=>cV b (K s0 w) (lN 80 s0 λ c=>cW Tryz.prog (Instr.sliceAt 80 s0 none (some i1) none) λ d=>
 cW Tryz.prog (Instr.sliceAt 80 s0 (some j2) none none) λ e=>aP 80 d e (drew w) λ f g=>lN 80 f λ h=>cW Tryz.prog (Instr.sliceAt 80 f (some h) (some c) none) λ j=>gU Tryz.prog (Builtin.clear_ #[80] 0 [j].toArray) g λ _ k=>
 K f k)
def avB:dL:=λ i=>match i with
 | 5=>.run 0 8
 | _=>.nil
theorem aaj (s0 i1 j2:Value) (h:S193 w K s0 i1 j2):CR 193 [s0,i1,j2] w K:=
 eC 33 avB 64 [.tmp 6] Tryz.func193 h
def S194 (b0 fg:Value):Prop:=
 gU Tryz.prog (Instr.box 3 fg) w λ ang a=>aL 3 a λ b c=>aL 4 c λ d e=>nC b0 λ f=>fA 197 f 1 λ g=>lA 80 g e λ h=>cF 225 [h] e λ j k=>CG Tryz.prog j 2 k (λ a1 l B1 R1=>
 aL 161 l λ n o=>sA 161 n (RE a1 1) o λ p=>B1 p λ q=>bP (λ K1=>fA 161 n 0 λ s=>lA 3 s q λ t=>bB .eql 3 t (i 3) λ u=>cV u (fA 161 n 2 λ v=>lA 3 v q λ x=>
 lA 3 ang q λ y=>bA .eql 3 x y λ z=>K1 z q) (K1 ff q)) (λ aa ab=>∀ _:Env,
 cV aa (fA 161 n 3 λ ac=>lA 3 ac ab λ ad=>sA 3 b ad ab λ ae=>sA 4 d tt ae λ af=>R1 (some .ret) af) (R1 none ab))) (aft (λ D ag=>sA 3 b (i 0) ag λ ah=>sA 4 d ff ah λ ai=>
 nO (D::[]) ai λ aj=>lA 3 b aj λ r=>lA 4 d aj λ zm=>K (.tuple #[r,zm]) aj) (λ D ak=>nO (D::[]) ak λ al=>lA 3 b al λ MY=>lA 4 d al λ YW=>K (.tuple #[MY,YW]) al)
 (λ _ _ _=>False))
theorem aak (b0 fg:Value) (h:S194 w K b0 fg):CR 194 [b0,fg] w K:=
 eC 26 (λ _=>.nil) 48 [.cell 4 3,.cell 5 4] Tryz.func194 h
def S195 (m0 fg:Value):Prop:=
 bP (λ K1=>bB .lss 3 fg (i 0) λ a=>cV a (K1 tt w) (nC m0 λ b=>fA 203 b 2 λ c=>lA 28 c w λ d=>lN 28 d λ e=>bA .geq 3 fg e λ f=>K1 f w)) (λ g h=>∀ _:Env,
 cV g (K (.tuple #[(i 0),(i 1)]) h) (nC m0 λ j=>fA 203 j 2 λ k=>lA 28 k h λ l=>iA 28 l fg λ n=>lA 3 n h λ o=>K (.tuple #[o,(i 0)]) h))
theorem aal (m0 fg:Value) (h:S195 w K m0 fg):CR 195 [m0,fg] w K:=
 eC 24 (λ _=>.nil) 48 [.tmp 4,.tmp 5] Tryz.func195 h
def S196 (b0 a:Value):Prop:=
 gU Tryz.prog (Instr.box 161 a) w λ b c=>lA 161 b c λ d=>cF 226 [d] c λ e f=>cW Tryz.prog (Op.unary .not e) λ g=>cV g (K (i 1) f) (cF 123 [b0] f λ h j=>cV h (K (i 2) j) (
 nC b0 λ k=>fA 197 k 1 λ l=>lA 80 l (drew j) λ n=>lA 161 b (drew j) λ o=>bS 80 1 [(0,o)] (drew j) λ p q=>kA 80 l n q (aP 80 n p q λ r s=>nC b0 λ t=>fA 197 t 1 λ u=>
 sA 80 u r s λ v=>K (i 0) v)))
def avC:dL:=λ i=>match i with
 | 5=>(.of [(0,[]),(1,[]),(2,[]),(3,[]),(4,[]),(5,[]),(6,[4]),(7,[]),(8,[]),(9,[]),(10,[])])
 | _=>.nil
theorem aam (b0 x1:Value) (h:S196 w K b0 x1):CR 196 [b0,x1] w K:=
 eC 22 avC 16 [.tmp 4] Tryz.func196 h
theorem aeK:PL 154:=eH Tryz.func154
theorem T5:PL 155:=eH Tryz.func155
theorem Pq:PL 156:=eH Tryz.func156
theorem aeL:PL 157:=eH Tryz.func157
theorem Dn:PL 158:=eH Tryz.func158
theorem anh:PL 159:=eH Tryz.func159
theorem Pr:PL 160:=eH Tryz.func160
theorem tG:PL 161:=eH Tryz.func161
theorem T6:PL 162:=eH Tryz.func162
theorem Ps:PL 163:=eH Tryz.func163
theorem ani:PL 164:=eH Tryz.func164
theorem xU:PL 165:=eH Tryz.func165
theorem Pt:PL 166:=eH Tryz.func166
theorem aeM:PL 167:=eH Tryz.func167
theorem aeN:PL 168:=eH Tryz.func168
theorem anj:PL 169:=eH Tryz.func169
theorem Pu:PL 170:=eH Tryz.func170
theorem aeO:PL 171:=eH Tryz.func171
theorem Pv:PL 172:=eH Tryz.func172
theorem ank:PL 173:=eH Tryz.func173
theorem Pw:PL 174:=eH Tryz.func174
theorem anl:PL 175:=eH Tryz.func175
theorem rY:PL 176:=eH Tryz.func176
theorem qR:PL 177:=eH Tryz.func177
theorem anm:PL 178:=eH Tryz.func178
theorem J3:PL 179:=eH Tryz.func179
theorem ann:PL 180:=eH Tryz.func180
theorem ano:PL 181:=eH Tryz.func181
theorem anp:PL 182:=eH Tryz.func182
theorem anq:PL 183:=eH Tryz.func183
theorem anr:PL 184:=eH Tryz.func184
theorem ans:PL 185:=eH Tryz.func185
theorem ant:PL 186:=eH Tryz.func186
theorem anu:PL 187:=eH Tryz.func187
theorem anv:PL 188:=eH Tryz.func188
theorem aeP:PL 189:=eH Tryz.func189
theorem anw:PL 190:=eH Tryz.func190
theorem anx:PL 191:=eH Tryz.func191
theorem anz:PL 192:=eH Tryz.func192
theorem anA:PL 193:=eH Tryz.func193
theorem anB:PL 194:=eH Tryz.func194
theorem aeQ:PL 195:=eH Tryz.func195
theorem aeR:PL 196:=eH Tryz.func196
end Go.Proofs.YtnjcingfdhjfkaaGreat
namespace Go.Proofs.YtnjcingfdhjfkaaGreat
open Go.Fw
set_option maxRecDepth 100000
variable (w:World) (K:Value→World→Prop)
def S201 (vL a1:Value):Prop:=
 bB .eql 3 vL (i 3) λ a=>cV a (bC .sub 3 (i 0) a1 λ b=>K (.tuple #[b,(i 0)]) w) (bB .eql 3 vL (i 4) λ c=>cV c (bB .eql 3 a1 (i 0) λ d=>cF 228 [d] w λ e f=>K (.tuple #[e,(i 0)]) f) (
 K (.tuple #[(i 0),(i 1)]) w))
theorem aan (vL a1:Value) (h:S201 w K vL a1):CR 201 [vL,a1] w K:=
 eC 15 (λ _=>.nil) 48 [.tmp 4,.tmp 5] Tryz.func201 h
def S205 (l0:Value):Prop:=
 lN 96 l0 λ a=>bB .gtr 3 a (i 40) λ b=>cV b (K ff w) (eS (λ K1 i3 c=>∀ _:Env,
 lN 96 l0 λ d=>bA .lss 3 i3 d λ e=>cV e (iA 96 l0 i3 λ f=>lA 173 f c λ g=>cF 230 [g] c λ h j=>cW Tryz.prog (Op.unary .not h) λ k=>cV k (K ff j) (bB .add 3 i3 (i 1) λ l=>
 K1 l j)) (cF 231 [l0,(i 0)] c λ n o=>bP (λ K2=>bB .geq 3 n (i 0) λ p=>cV p (bB .leq 3 n (i 12) λ q=>K2 q o) (K2 ff o)) (λ r s=>∀ _:Env,
 K r s))) (λ K1=>K1 (i 0) w))
theorem aao (l0:Value) (h:S205 w K l0):CR 205 [l0] w K:=
 eC 28 (λ _=>.nil) 4 [.tmp 2] Tryz.func205 h
def S206 (c0:Value):Prop:=
 bP (λ K1=>bB .geq 5 c0 (.int .u8 97) λ a=>cV a (bB .leq 5 c0 (.int .u8 122) λ b=>cV b (K1 tt w) (bB .eql 5 c0 (.int .u8 95) λ c=>K1 c w)) (bB .eql 5 c0 (.int .u8 95) λ d=>
 K1 d w)) (λ e f=>∀ _:Env,
 K e f)
theorem aap (c0:Value) (h:S206 w K c0):CR 206 [c0] w K:=
 eC 13 (λ _=>.nil) 4 [.tmp 2] Tryz.func206 h
def S207 (s0:Value):Prop:=
 bS 95 21 [(0,(Go.Value.string (ByteArray.mk (#[108,105,110,101])))),(1,(Go.Value.string (ByteArray.mk (#[118,111,108])))),(2,(Go.Value.string (ByteArray.mk (#[108,111,99,107])))),(3,(Go.Value.string (ByteArray.mk (#[116,104,114,101,97,100])))),(4,(Go.Value.string (ByteArray.mk (#[114,101,103])))),(5,(Go.Value.string (ByteArray.mk (#[108,111,97,100])))),(6,(Go.Value.string (ByteArray.mk (#[115,116,111,114,101])))),(7,(Go.Value.string (ByteArray.mk (#[99,97,115])))),(8,(Go.Value.string (ByteArray.mk (#[102,108,117,115,104])))),(9,(Go.Value.string (ByteArray.mk (#[111,112,116])))),(10,(Go.Value.string (ByteArray.mk (#[115,102,101,110,99,101])))),(11,(Go.Value.string (ByteArray.mk (#[109,102,101,110,99,101])))),(12,(Go.Value.string (ByteArray.mk (#[116,97,107,101])))),(13,(Go.Value.string (ByteArray.mk (#[103,105,118,101])))),(14,(Go.Value.string (ByteArray.mk (#[105,102])))),(15,(Go.Value.string (ByteArray.mk (#[101,108,115,101])))),(16,(Go.Value.string (ByteArray.mk (#[108,111,111,112])))),(17,(Go.Value.string (ByteArray.mk (#[98,114,101,97,107])))),(18,(Go.Value.string (ByteArray.mk (#[99,104,101,99,107])))),(19,(Go.Value.string (ByteArray.mk (#[114,101,99,111,118,101,114])))),(20,(Go.Value.string (ByteArray.mk (#[97,108,119,97,121,115]))))] w λ a b=>
 eS (λ K1 i4 c=>∀ _:Env,
 lN 95 a λ d=>bA .lss 3 i4 d λ e=>cV e (iA 95 a i4 λ f=>lA 9 f c λ g=>bA .eql 9 g s0 λ h=>cV h (K tt c) (bB .add 3 i4 (i 1) λ j=>K1 j c)) (K ff c)) (λ K1=>K1 (i 0) b)
theorem aaq (s0:Value) (h:S207 w K s0):CR 207 [s0] w K:=
 eC 18 (λ _=>.nil) 4 [.tmp 2] Tryz.func207 h
def S208 (c0:Value):Prop:=
 bP (λ K1=>bB .geq 5 c0 (.int .u8 48) λ a=>cV a (bB .leq 5 c0 (.int .u8 57) λ b=>K1 b w) (K1 ff w)) (λ c d=>∀ _:Env,
 K c d)
theorem aar (c0:Value) (h:S208 w K c0):CR 208 [c0] w K:=
 eC 9 (λ _=>.nil) 4 [.tmp 2] Tryz.func208 h
def S209 (s0 Fv:Value):Prop:=
 eS (λ K1 Dp a=>∀ _:Env,
 lN 9 s0 λ b=>bA .lss 3 Dp b λ c=>cV c (cW Tryz.prog (Instr.index 9 s0 Dp) λ d=>bP (λ K2=>bB .eql 5 d (.int .u8 32) λ e=>cV e (K2 tt a) (bB .eql 5 d (.int .u8 9) λ f=>
 cV f (K2 tt a) (bB .eql 5 d (.int .u8 10) λ g=>cV g (K2 tt a) (bB .eql 5 d (.int .u8 13) λ h=>K2 h a)))) (λ j k=>∀ _:Env,
 cV j (bB .add 3 Dp (i 1) λ l=>K1 l k) (cF 232 [s0,Dp,(Go.Value.string (ByteArray.mk (#[47,47])))] k λ n o=>cV n (eS (λ K3 Px p=>∀ _:Env,
 bP (λ K4=>lN 9 s0 λ q=>bA .lss 3 Px q λ r=>cV r (cW Tryz.prog (Instr.index 9 s0 Px) λ s=>bB .neq 5 s (.int .u8 10) λ t=>K4 t p) (K4 ff p)) (λ u v=>∀ _:Env,
 cV u (bB .add 3 Px (i 1) λ x=>K3 x v) (K1 Px v))) (λ K3=>K3 Dp o)) (K Dp o)))) (K Dp a)) (λ K1=>K1 Fv w)
theorem aas (s0 Fv:Value) (h:S209 w K s0 Fv):CR 209 [s0,Fv] w K:=
 eC 46 (λ _=>.nil) 16 [.tmp 4] Tryz.func209 h
def S210 (s0 Fv:Value):Prop:=
 bS 95 5 [(0,(Go.Value.string (ByteArray.mk (#[61,61])))),(1,(Go.Value.string (ByteArray.mk (#[33,61])))),(2,(Go.Value.string (ByteArray.mk (#[60,61])))),(3,(Go.Value.string (ByteArray.mk (#[38,38])))),(4,(Go.Value.string (ByteArray.mk (#[124,124]))))] w λ a b=>
 eS (λ K1 i7 c=>∀ _:Env,
 lN 95 a λ d=>bA .lss 3 i7 d λ e=>cV e (iA 95 a i7 λ f=>lA 9 f c λ g=>cF 232 [s0,Fv,g] c λ h j=>cV h (K (i 2) j) (bB .add 3 i7 (i 1) λ k=>K1 k j)) (eS (λ K2 i8 l=>∀ _:Env,
 cW Tryz.prog (Builtin.len_ #[9] 3 [(Go.Value.string (ByteArray.mk (#[40,41,123,125,59,44,61,60,33,43,45,42,47,37])))].toArray) λ n=>bA .lss 3 i8 n λ o=>cV o (cW Tryz.prog (Instr.index 9 (Go.Value.string (ByteArray.mk (#[40,41,123,125,59,44,61,60,33,43,45,42,47,37]))) i8) λ p=>
 cW Tryz.prog (Instr.index 9 s0 Fv) λ q=>bA .eql 5 p q λ r=>cV r (K (i 1) (drew l)) (bB .add 3 i8 (i 1) λ s=>K2 s (drew l))) (K (i 0) l)) (λ K2=>K2 (i 0) c))) (λ K1=>K1 (i 0) b)
def avD:dL:=λ i=>match i with
 | 10=>.run 0 7
 | _=>.nil
theorem aat (s0 Fv:Value) (h:S210 w K s0 Fv):CR 210 [s0,Fv] w K:=
 eC 36 avD 16 [.tmp 4] Tryz.func210 h
def S211 (l0 i1 s2:Value):Prop:=
 bP (λ K1=>bB .geq 3 i1 (i 0) λ a=>cV a (lN 232 l0 λ b=>bA .lss 3 i1 b λ c=>cV c (iA 232 l0 i1 λ d=>fA 242 d 1 λ e=>lA 9 e w λ f=>bA .eql 9 f s2 λ g=>cV g (
 iA 232 l0 i1 λ h=>fA 242 h 0 λ j=>lA 3 j w λ k=>bB .neq 3 k (i 2) λ l=>cV l (iA 232 l0 i1 λ n=>fA 242 n 0 λ o=>lA 3 o w λ p=>bB .geq 3 p (i 1) λ q=>cV q (iA 232 l0 i1 λ r=>
 fA 242 r 0 λ s=>lA 3 s w λ t=>bB .leq 3 t (i 3) λ u=>K1 u w) (K1 ff w)) (K1 ff w)) (K1 ff w)) (K1 ff w)) (K1 ff w)) (λ v x=>∀ _:Env,
 K v x)
theorem aau (l0 i1 s2:Value) (h:S211 w K l0 i1 s2):CR 211 [l0,i1,s2] w K:=
 eC 48 (λ _=>.nil) 64 [.tmp 6] Tryz.func211 h
def S212 (r0 s1:Value):Prop:=
 cF 165 [r0,s1] w λ a b=>cW Tryz.prog (Op.unary .not a) λ c=>cV c (cF 170 [r0] b λ _ d=>K (.tuple #[]) d) (K (.tuple #[]) b)
theorem aav (r0 s1:Value) (h:S212 w K r0 s1):CR 212 [r0,s1] w K:=
 eC 10 (λ _=>.nil) 0 [] Tryz.func212 h
def S213 (l0 i1 Py:Value):Prop:=
 cW Tryz.prog (Instr.build 304 [(0,l0),(1,i1)].toArray) λ a=>gU Tryz.prog (Instr.box 304 a) w λ b c=>vI (λ K1 d=>∀ _:Env,
 bP (λ K2=>nC b λ e=>fA 304 e 2 λ f=>lA 37 f (drew d) λ g=>bB .eql 37 g (i 0) λ h=>cV h (nC b λ j=>fA 304 j 0 λ k=>lA 232 k (drew d) λ l=>nC b λ n=>fA 304 n 1 λ o=>
 lA 3 o (drew d) λ p=>cF 211 [l,p,(Go.Value.string (ByteArray.mk (#[125])))] (drew d) λ q r=>cW Tryz.prog (Op.unary .not q) λ s=>K2 s r) (K2 ff (drew d))) (λ t u=>∀ _:Env,
 cV t (cF 233 [b,(i 0),(i 0)] u λ _ v=>K1 v) (cF 234 [b,(Go.Value.string (ByteArray.mk (#[125])))] u λ _ x=>nC b λ y=>fA 304 y 2 λ z=>lA 37 z x λ aa=>bB .neq 37 aa (i 0) λ ab=>
 cV ab (nC b λ ac=>fA 304 ac 2 λ ad=>lA 37 ad (drew x) λ ae=>nC b λ af=>fA 304 af 3 λ ag=>lA 3 ag (drew x) λ ah=>K (.tuple #[(.slice none 0 0),(i 0),ae,ah]) (drew x)) (
 nC b λ ai=>fA 304 ai 4 λ aj=>lA 96 aj x λ ak=>lN 96 ak λ al=>bB .gtr 3 al (i 40) λ am=>cV am (iA 232 l0 Py λ an=>fA 242 an 3 λ ao=>lA 3 ao (drew x) λ ap=>
 K (.tuple #[(.slice none 0 0),(i 0),(i 2),ap]) (drew x)) (nC b λ aq=>fA 304 aq 4 λ ar=>lA 96 ar (drew x) λ asx=>nC b λ au=>fA 304 au 1 λ av=>lA 3 av (drew x) λ aw=>
 K (.tuple #[asx,aw,(i 0),(i 0)]) (drew x)))))) (λ K1=>K1 c)
def avE:dL:=λ i=>match i with
 | 2=>.run 0 17
 | 6=>.run 0 12
 | 8=>.run 0 9
 | 9=>.run 0 12
 | _=>.nil
theorem aaw (l0 i1 Py:Value) (h:S213 w K l0 i1 Py):CR 213 [l0,i1,Py] w K:=
 eC 68 avE 960 [.tmp 6,.tmp 7,.tmp 8,.tmp 9] Tryz.func213 h
def S214 (l0 i1:Value):Prop:=
 bB .lss 3 i1 (i 0) λ a=>cV a (K (.tuple #[(.slice none 0 0),(i 0),(i 1),(i 0)]) w) (cF 235 [l0,i1,(i 0),(i 0)] w λ b c=>aL 307 c λ d e=>sA 307 d b e λ f=>fA 307 d 2 λ g=>
 lA 37 g f λ h=>bB .neq 37 h (i 0) λ j=>cV j (fA 307 d 2 λ k=>lA 37 k (drew f) λ l=>fA 307 d 3 λ n=>lA 3 n (drew f) λ o=>K (.tuple #[(.slice none 0 0),(i 0),l,o]) (drew f)) (
 fA 307 d 0 λ p=>lA 86 p f λ q=>cF 162 [q,(i 0)] f λ r s=>bB .gtr 3 r (i 12) λ t=>cV t (iA 232 l0 i1 λ u=>fA 242 u 3 λ v=>lA 3 v (drew s) λ x=>K (.tuple #[(.slice none 0 0),(i 0),(i 7),x]) (drew s)) (
 fA 307 d 0 λ y=>lA 86 y s λ z=>lN 86 z λ aa=>bB .gtr 3 aa (i 40) λ ab=>cV ab (iA 232 l0 i1 λ ac=>fA 242 ac 3 λ ad=>lA 3 ad (drew s) λ ae=>K (.tuple #[(.slice none 0 0),(i 0),(i 2),ae]) (drew s)) (
 fA 307 d 0 λ af=>lA 86 af (drew s) λ ag=>fA 307 d 1 λ ah=>lA 3 ah (drew s) λ ai=>K (.tuple #[ag,ai,(i 0),(i 0)]) (drew s)))))
def avF:dL:=λ i=>match i with
 | 5=>.run 0 8
 | 7=>.run 0 9
 | 9=>.run 0 9
 | 10=>.run 0 8
 | _=>.nil
theorem aax (l0 i1:Value) (h:S214 w K l0 i1):CR 214 [l0,i1] w K:=
 eC 43 avF 240 [.tmp 4,.tmp 5,.tmp 6,.tmp 7] Tryz.func214 h
def S215 (l0 i1:Value):Prop:=
 bP (λ K1=>bB .geq 3 i1 (i 0) λ a=>cV a (lN 232 l0 λ b=>bA .lss 3 i1 b λ c=>K1 c w) (K1 ff w)) (λ d e=>∀ _:Env,
 cV d (iA 232 l0 i1 λ f=>fA 242 f 3 λ g=>lA 3 g e λ h=>K h e) (lN 232 l0 λ j=>bB .eql 3 j (i 0) λ k=>cV k (K (i 0) e) (lN 232 l0 λ l=>bB .sub 3 l (i 1) λ n=>iA 232 l0 n λ o=>
 fA 242 o 3 λ p=>lA 3 p (drew e) λ q=>lN 232 l0 λ r=>bB .sub 3 r (i 1) λ s=>iA 232 l0 s λ t=>fA 242 t 1 λ u=>lA 9 u (drew e) λ v=>lN 9 v λ x=>bA .add 3 q x λ y=>
 K y (drew e))))
def avG:dL:=λ i=>match i with
 | 5=>.run 0 17
 | _=>.nil
theorem aay (l0 i1:Value) (h:S215 w K l0 i1):CR 215 [l0,i1] w K:=
 eC 37 avG 16 [.tmp 4] Tryz.func215 h
def S216 (s0 n1:Value):Prop:=
 nC s0 λ a=>fA 245 a 0 λ b=>lA 28 b w λ c=>bS 28 1 [(0,n1)] w λ d e=>aP 28 c d e λ f g=>nC s0 λ h=>fA 245 h 0 λ j=>sA 28 j f g λ k=>K (.tuple #[]) k
theorem aaz (s0 n1:Value) (h:S216 w K s0 n1):CR 216 [s0,n1] w K:=
 eC 14 (λ _=>.nil) 0 [] Tryz.func216 h
def S217 (Po:Value):Prop:=
 cV Po (K (i 1) w) (K (i 0) w)
theorem aaA (Po:Value) (h:S217 w K Po):CR 217 [Po] w K:=
 eC 4 (λ _=>.nil) 4 [.tmp 2] Tryz.func217 h
def S218 (n0:Value):Prop:=
 bB .neq 3 n0 (i 0) λ a=>K a w
theorem aaB (n0:Value) (h:S218 w K n0):CR 218 [n0] w K:=
 eC 5 (λ _=>.nil) 4 [.tmp 2] Tryz.func218 h
def S219:Prop:=
 aL 289 w λ a b=>aL 289 b λ l1 c=>iA 289 l1 (i 5) λ d=>sA 288 d (.func (.func 238) #[] #[]) c λ e=>iA 289 l1 (i 6) λ f=>sA 288 f (.func (.func 239) #[] #[]) e λ g=>
 iA 289 l1 (i 7) λ h=>sA 288 h (.func (.func 240) #[] #[]) g λ j=>iA 289 l1 (i 8) λ k=>sA 288 k (.func (.func 241) #[] #[]) j λ l=>iA 289 l1 (i 9) λ n=>sA 288 n (.func (.func 242) #[] #[]) l λ o=>
 fZ Tryz.prog (.func (.func 236) #[] #[]) [(.func (.func 243) #[] #[])] o λ p q=>iA 289 l1 (i 10) λ s=>sA 288 s p q λ t=>fZ Tryz.prog (.func (.func 236) #[] #[]) [(.func (.func 244) #[] #[])] t λ u v=>
 iA 289 l1 (i 11) λ x=>sA 288 x u v λ y=>fZ Tryz.prog (.func (.func 236) #[] #[]) [(.func (.func 245) #[] #[])] y λ z aa=>iA 289 l1 (i 12) λ ab=>sA 288 ab z aa λ ac=>
 fZ Tryz.prog (.func (.func 236) #[] #[]) [(.func (.func 246) #[] #[])] ac λ ad ae=>iA 289 l1 (i 13) λ af=>sA 288 af ad ae λ ag=>fZ Tryz.prog (.func (.func 236) #[] #[]) [(.func (.func 247) #[] #[])] ag λ ah ai=>
 iA 289 l1 (i 14) λ aj=>sA 288 aj ah ai λ ak=>fZ Tryz.prog (.func (.func 236) #[] #[]) [(.func (.func 248) #[] #[])] ak λ al am=>iA 289 l1 (i 15) λ an=>sA 288 an al am λ ao=>
 lA 289 l1 ao λ ap=>sA 289 a ap ao λ aq=>lA 289 a aq λ r=>K r aq
theorem aaC (h:S219 w K):CR 219 [] w K:=
 eC 27 (λ _=>.nil) 1 [.cell 0 289] Tryz.func219 h
def S220 (s0 v1:Value):Prop:=
 lN 252 s0 λ a=>eS (λ K1 b c=>∀ _:Env,
 bA .lss 3 b a λ d=>cV d (iA 252 s0 b λ e=>lA 5 e c λ f=>bA .eql 5 v1 f λ g=>cV g (K b c) (bB .add 3 b (i 1) λ h=>K1 h c)) (K (i (-1)) c)) (λ K1=>K1 (i 0) w)
theorem aaD (s0 v1:Value) (h:S220 w K s0 v1):CR 220 [s0,v1] w K:=
 eC 19 (λ _=>.nil) 16 [.tmp 4] Tryz.func220 h
def S221 (s0 f1:Value):Prop:=
 cF 249 [s0,f1] w λ a b=>bB .geq 3 a (i 0) λ c=>K c b
theorem aaE (s0 f1:Value) (h:S221 w K s0 f1):CR 221 [s0,f1] w K:=
 eC 9 (λ _=>.nil) 16 [.tmp 4] Tryz.func221 h
def S222 (y0 a:Value):Prop:=
 gU Tryz.prog (Instr.box 129 y0) w λ y2 b=>bP (λ K1=>fA 129 y2 0 λ c=>lA 3 c b λ d=>bB .eql 3 d (i 13) λ e=>cV e (fA 129 y2 1 λ f=>lA 3 f b λ g=>fA 129 a 1 λ h=>
 lA 3 h b λ j=>bA .eql 3 g j λ k=>K1 k b) (K1 ff b)) (λ l n=>∀ _:Env,
 K l n)
theorem aaF (y0 x1:Value) (h:S222 w K y0 x1):CR 222 [y0,x1] w K:=
 eC 14 (λ _=>.nil) 8 [.tmp 3] Tryz.func222 h
def S223 (s0 f1:Value):Prop:=
 lN 99 s0 λ a=>eS (λ K1 b c=>∀ _:Env,
 bA .lss 3 b a λ d=>cV d (iA 99 s0 b λ e=>lA 200 e c λ f=>fZ Tryz.prog f1 [f] c λ g h=>cV g (K b h) (bB .add 3 b (i 1) λ j=>K1 j h)) (K (i (-1)) c)) (λ K1=>K1 (i 0) w)
theorem aaG (s0 f1:Value) (h:S223 w K s0 f1):CR 223 [s0,f1] w K:=
 eC 19 (λ _=>.nil) 16 [.tmp 4] Tryz.func223 h
def S224 (s0 f1:Value):Prop:=
 lN 80 s0 λ a=>eS (λ K1 b c=>∀ _:Env,
 bA .lss 3 b a λ d=>cV d (iA 80 s0 b λ e=>lA 161 e c λ f=>fZ Tryz.prog f1 [f] c λ g h=>cV g (K b h) (bB .add 3 b (i 1) λ j=>K1 j h)) (K (i (-1)) c)) (λ K1=>K1 (i 0) w)
theorem aaH (s0 f1:Value) (h:S224 w K s0 f1):CR 224 [s0,f1] w K:=
 eC 19 (λ _=>.nil) 16 [.tmp 4] Tryz.func224 h
def S225 (s0:Value):Prop:=
 gU Tryz.prog (Instr.box 80 s0) w λ s1 a=>K (.func (Go.Fn.func 250) [].toArray [s1].toArray) a
theorem aaI (s0:Value) (h:S225 w K s0):CR 225 [s0] w K:=
 eC 4 (λ _=>.nil) 4 [.tmp 2] Tryz.func225 h
def S226 (a:Value):Prop:=
 gU Tryz.prog (Instr.box 161 a) w λ b c=>fA 161 b 0 λ d=>lA 3 d c λ e=>bB .eql 3 e (i 3) λ f=>cV f (bP (λ K1=>fA 161 b 1 λ g=>lA 3 g c λ h=>bB .geq 3 h (i 0) λ j=>
 cV j (fA 161 b 2 λ k=>lA 3 k c λ l=>bB .geq 3 l (i 0) λ n=>K1 n c) (K1 ff c)) (λ o p=>∀ _:Env,
 K o p)) (bP (λ K2=>bB .eql 3 e (i 5) λ q=>cV q (K2 q c) (bB .eql 3 e (i 6) λ r=>K2 r c)) (λ s t=>∀ _:Env,
 cV s (bP (λ K3=>fA 161 b 1 λ u=>lA 3 u t λ v=>bB .geq 3 v (i 0) λ x=>cV x (fA 161 b 2 λ y=>lA 3 y t λ z=>bB .eql 3 z (i 0) λ aa=>cV aa (fA 161 b 3 λ ab=>
 lA 3 ab t λ ac=>bB .eql 3 ac (i 0) λ ad=>K3 ad t) (K3 ff t)) (K3 ff t)) (λ ae af=>∀ _:Env,
 K ae af)) (lA 161 b t λ ag=>cW Tryz.prog (Instr.build 161 [(0,(i 7))].toArray) λ ah=>bA .eql 161 ag ah λ ai=>K ai t)))
theorem aaJ (x0:Value) (h:S226 w K x0):CR 226 [x0] w K:=
 eC 34 (λ _=>.nil) 4 [.tmp 2] Tryz.func226 h
def S228 (Po:Value):Prop:=
 cV Po (K (i 1) w) (K (i 0) w)
theorem aaK (Po:Value) (h:S228 w K Po):CR 228 [Po] w K:=
 eC 4 (λ _=>.nil) 4 [.tmp 2] Tryz.func228 h
def S230 (a:Value):Prop:=
 gU Tryz.prog (Instr.box 173 a) w λ b c=>bP (λ K1=>fA 173 b 0 λ d=>lA 3 d c λ e=>bB .lss 3 e (i 1) λ f=>cV f (K1 tt c) (fA 173 b 0 λ g=>lA 3 g c λ h=>bB .gtr 3 h (i 14) λ j=>
 cV j (K1 tt c) (fA 173 b 8 λ k=>lA 3 k c λ l=>bB .lss 3 l (i 0) λ n=>cV n (K1 tt c) (fA 173 b 8 λ o=>lA 3 o c λ p=>bB .gtr 3 p (i 4000) λ q=>K1 q c)))) (λ r s=>∀ _:Env,
 cV r (K ff s) (fA 173 b 0 λ t=>lA 3 t s λ u=>cF 251 [u] s λ v x=>cF 252 [v,(.int .u8 114)] x λ y z=>cF 252 [v,(.int .u8 110)] z λ aa ab=>cF 252 [v,(.int .u8 101)] ab λ ac ad=>
 cF 252 [v,(.int .u8 102)] ad λ ae af=>bP (λ K2=>fA 173 b 1 λ ag=>lA 9 ag af λ ah=>cF 161 [ah] af λ ai aj=>bA .neq 4 y ai λ ak=>cV ak (K2 tt aj) (cW Tryz.prog (Op.unary .not y) λ al=>
 cV al (fA 173 b 1 λ am=>lA 9 am aj λ an=>cW Tryz.prog (iI .neq 9 false true an (Go.Value.string (ByteArray.mk (#[])))) λ ao=>cV ao (K2 tt aj) (fA 173 b 2 λ ap=>lA 9 ap aj λ aq=>
 cF 161 [aq] aj λ ar asx=>bA .neq 4 aa ar λ au=>cV au (K2 tt asx) (cW Tryz.prog (Op.unary .not aa) λ av=>cV av (fA 173 b 2 λ aw=>lA 9 aw asx λ ax=>cW Tryz.prog (iI .neq 9 false true ax (Go.Value.string (ByteArray.mk (#[])))) λ ay=>
 K2 ay asx) (K2 ff asx)))) (fA 173 b 2 λ az=>lA 9 az aj λ a0=>cF 161 [a0] aj λ a1 a2=>bA .neq 4 aa a1 λ a3=>cV a3 (K2 tt a2) (cW Tryz.prog (Op.unary .not aa) λ a4=>cV a4 (
 fA 173 b 2 λ a5=>lA 9 a5 a2 λ a6=>cW Tryz.prog (iI .neq 9 false true a6 (Go.Value.string (ByteArray.mk (#[])))) λ a7=>K2 a7 a2) (K2 ff a2))))) (λ a8 a9=>∀ _:Env,
 cV a8 (K ff a9) (bP (λ K3=>fA 173 b 3 λ ba=>lA 86 ba a9 λ bb=>cF 105 [bb] a9 λ bc bd=>bA .neq 4 ac bc λ be=>cV be (K3 tt bd) (cW Tryz.prog (Op.unary .not ac) λ bf=>
 cV bf (fA 173 b 3 λ bg=>lA 86 bg bd λ bh=>lN 86 bh λ bi=>bB .gtr 3 bi (i 0) λ bj=>cV bj (K3 tt bd) (fA 173 b 4 λ bk=>lA 86 bk bd λ bl=>cF 105 [bl] bd λ bm bn=>
 bA .neq 4 ae bm λ bo=>cV bo (K3 tt bn) (cW Tryz.prog (Op.unary .not ae) λ bp=>cV bp (fA 173 b 4 λ bq=>lA 86 bq bn λ br=>lN 86 br λ bs=>bB .gtr 3 bs (i 0) λ bt=>
 K3 bt bn) (K3 ff bn)))) (fA 173 b 4 λ bu=>lA 86 bu bd λ bv=>cF 105 [bv] bd λ bw bx=>bA .neq 4 ae bw λ bz=>cV bz (K3 tt bx) (cW Tryz.prog (Op.unary .not ae) λ b0=>cV b0 (
 fA 173 b 4 λ b1=>lA 86 b1 bx λ b2=>lN 86 b2 λ b3=>bB .gtr 3 b3 (i 0) λ b4=>K3 b4 bx) (K3 ff bx))))) (λ b5 b6=>∀ _:Env,
 cV b5 (K ff b6) (cF 252 [v,(.int .u8 107)] b6 λ b7 b8=>cV b7 (bP (λ K4=>fA 173 b 5 λ b9=>lA 3 b9 b8 λ ca=>bB .geq 3 ca (i 1) λ cb=>cV cb (fA 173 b 5 λ cc=>lA 3 cc b8 λ cd=>
 bB .leq 3 cd (i 8) λ ce=>K4 ce b8) (K4 ff b8)) (λ cf cg=>∀ _:Env,
 K cf cg)) (fA 173 b 5 λ ch=>lA 3 ch b8 λ ci=>bB .eql 3 ci (i 0) λ cj=>K cj b8)))))))
theorem aaL (x0:Value) (h:S230 w K x0):CR 230 [x0] w K:=
 eC 112 (λ _=>.nil) 4 [.tmp 2] Tryz.func230 h
def S231 (l0 qS:Value):Prop:=
 kh (λ K1 n5 i6 a=>∀ _:Env,
 lN 96 l0 λ b=>bA .lss 3 i6 b λ c=>cV c (iA 96 l0 i6 λ d=>lA 173 d a λ e=>aL 173 a λ f g=>sA 173 f e g λ h=>bP (λ K2=>fA 173 f 6 λ j=>lA 3 j h λ k=>bB .lss 3 k (i 0) λ l=>
 cV l (K2 tt h) (fA 173 f 7 λ n=>lA 3 n h λ o=>bB .lss 3 o (i 0) λ p=>cV p (K2 tt h) (fA 173 f 6 λ q=>lA 3 q h λ r=>bB .gtr 3 r (i 40) λ s=>cV s (K2 tt h) (fA 173 f 7 λ t=>
 lA 3 t h λ u=>bB .gtr 3 u (i 40) λ v=>cV v (K2 tt h) (bB .add 3 i6 (i 1) λ x=>fA 173 f 6 λ y=>lA 3 y h λ z=>bA .add 3 x z λ aa=>fA 173 f 7 λ ab=>lA 3 ab h λ ac=>
 bA .add 3 aa ac λ ad=>lN 96 l0 λ ae=>bA .gtr 3 ad ae λ af=>K2 af h))))) (λ ag ah=>∀ _:Env,
 cV ag (K (i (-1)) ah) (bP (λ K3=>fA 173 f 6 λ ai=>lA 3 ai ah λ aj=>bB .gtr 3 aj (i 0) λ ak=>cV ak (fA 173 f 0 λ al=>lA 3 al ah λ am=>bB .neq 3 am (i 11) λ an=>
 cV an (fA 173 f 0 λ ao=>lA 3 ao ah λ ap=>bB .neq 3 ap (i 12) λ aq=>cV aq (K3 tt ah) (fA 173 f 7 λ ar=>lA 3 ar ah λ asx=>bB .gtr 3 asx (i 0) λ au=>cV au (fA 173 f 0 λ av=>
 lA 3 av ah λ aw=>bB .neq 3 aw (i 11) λ ax=>cV ax (K3 tt ah) (fA 173 f 0 λ ay=>lA 3 ay ah λ az=>bB .eql 3 az (i 13) λ a0=>cV a0 (bB .eql 3 qS (i 0) λ a1=>K3 a1 ah) (
 K3 ff ah))) (fA 173 f 0 λ a2=>lA 3 a2 ah λ a3=>bB .eql 3 a3 (i 13) λ a4=>cV a4 (bB .eql 3 qS (i 0) λ a5=>K3 a5 ah) (K3 ff ah)))) (fA 173 f 7 λ a6=>lA 3 a6 ah λ a7=>
 bB .gtr 3 a7 (i 0) λ a8=>cV a8 (fA 173 f 0 λ a9=>lA 3 a9 ah λ ba=>bB .neq 3 ba (i 11) λ bb=>cV bb (K3 tt ah) (fA 173 f 0 λ bc=>lA 3 bc ah λ bd=>bB .eql 3 bd (i 13) λ be=>
 cV be (bB .eql 3 qS (i 0) λ bf=>K3 bf ah) (K3 ff ah))) (fA 173 f 0 λ bg=>lA 3 bg ah λ bh=>bB .eql 3 bh (i 13) λ bi=>cV bi (bB .eql 3 qS (i 0) λ bj=>K3 bj ah) (
 K3 ff ah)))) (fA 173 f 7 λ bk=>lA 3 bk ah λ bl=>bB .gtr 3 bl (i 0) λ bm=>cV bm (fA 173 f 0 λ bn=>lA 3 bn ah λ bo=>bB .neq 3 bo (i 11) λ bp=>cV bp (K3 tt ah) (fA 173 f 0 λ bq=>
 lA 3 bq ah λ br=>bB .eql 3 br (i 13) λ bs=>cV bs (bB .eql 3 qS (i 0) λ bt=>K3 bt ah) (K3 ff ah))) (fA 173 f 0 λ bu=>lA 3 bu ah λ bv=>bB .eql 3 bv (i 13) λ bw=>
 cV bw (bB .eql 3 qS (i 0) λ bx=>K3 bx ah) (K3 ff ah)))) (λ bz b0=>∀ _:Env,
 cV bz (K (i (-1)) b0) (bB .add 3 i6 (i 1) λ b1=>fA 173 f 6 λ b2=>lA 3 b2 (drew b0) λ b3=>bA .add 3 b1 b3 λ b4=>bP (λ K4=>fA 173 f 0 λ b5=>lA 3 b5 (drew b0) λ b6=>
 bB .eql 3 b6 (i 12) λ b7=>cV b7 (bB .add 3 qS (i 1) λ b8=>K4 b8 (drew b0)) (K4 qS (drew b0))) (λ in8 b9=>∀ _:Env,
 bP (λ K5=>bP (λ K6=>fA 173 f 0 λ ca=>lA 3 ca b9 λ cb=>bB .eql 3 cb (i 11) λ cc=>cV cc (K6 tt b9) (fA 173 f 0 λ cd=>lA 3 cd b9 λ ce=>bB .eql 3 ce (i 12) λ cf=>
 K6 cf b9)) (λ cg ch=>∀ _:Env,
 cV cg (bB .add 3 i6 (i 1) λ ci=>cW Tryz.prog (Instr.sliceAt 96 l0 (some ci) (some b4) none) λ cj=>fA 173 f 7 λ ck=>lA 3 ck (drew ch) λ cl=>bA .add 3 b4 cl λ cm=>cW Tryz.prog (Instr.sliceAt 96 l0 (some b4) (some cm) none) λ cn=>
 cF 231 [cj,in8] (drew ch) λ co cp=>kA 3 ck cl cp (cF 231 [cn,in8] cp λ cq cr=>bP (λ K7=>bB .lss 3 co (i 0) λ cs=>cV cs (K7 tt cr) (bB .lss 3 cq (i 0) λ ct=>K7 ct cr))
 (λ cu cv=>∀ _:Env,
 cV cu (K (i (-1)) cv) (bC .add 3 (i 1) co λ cw=>bC .add 3 (i 1) cq λ cx=>cW Tryz.prog (Builtin.max_ #[3,3,3] 3 [n5,cw,cx].toArray) λ cy=>K5 cy cv)))) (K5 n5 ch))) (λ avH cz=>∀ _:Env,
 fA 173 f 7 λ c0=>lA 3 c0 cz λ c1=>bA .add 3 b4 c1 λ c2=>K1 avH c2 cz))))))) (K n5 a)) (λ K1=>K1 (i 0) (i 0) w)
def avI:dL:=λ i=>match i with
 | 8=>.run 0 8
 | 12=>(.of [(0,[]),(1,[]),(2,[]),(3,[]),(4,[]),(5,[]),(7,[]),(8,[]),(9,[]),(10,[]),(11,[]),(12,[]),(13,[]),(14,[]),(6,[11]),(15,[]),(16,[]),(17,[])])
 | _=>.nil
theorem aaM (l0 qS:Value) (h:S231 w K l0 qS):CR 231 [l0,qS] w K:=
 eC 135 avI 16 [.tmp 4] Tryz.func231 h
def S232 (s0 Fv t2:Value):Prop:=
 bP (λ K1=>lN 9 t2 λ a=>bA .add 3 Fv a λ b=>lN 9 s0 λ c=>bA .leq 3 b c λ d=>cV d (lN 9 t2 λ e=>bA .add 3 Fv e λ f=>cW Tryz.prog (Instr.sliceAt 9 s0 (some Fv) (some f) none) λ g=>
 bA .eql 9 g t2 λ h=>K1 h w) (K1 ff w)) (λ j k=>∀ _:Env,
 K j k)
theorem aaN (s0 Fv t2:Value) (h:S232 w K s0 Fv t2):CR 232 [s0,Fv,t2] w K:=
 eC 25 (λ _=>.nil) 64 [.tmp 6] Tryz.func232 h
def S233 (p0 vM qT:Value):Prop:=
 nC p0 λ a=>fA 304 a 0 λ b=>lA 232 b (drew w) λ c=>nC p0 λ d=>fA 304 d 1 λ e=>lA 3 e (drew w) λ f=>cF 215 [c,f] (drew w) λ g h=>kh (λ K1 BV k8 j=>∀ _:Env,
 bB .leq 3 k8 (i 14) λ k=>cV k (bP (λ K2=>nC p0 λ l=>fA 304 l 0 λ n=>lA 232 n (drew j) λ o=>nC p0 λ p=>fA 304 p 1 λ q=>lA 3 q (drew j) λ r=>cF 253 [k8] (drew j) λ s t=>
 kA 232 n o t (kA 3 q r t (cF 211 [o,r,s] t λ u v=>cV u (K2 k8 v) (K2 BV v)))) (λ aaO x=>∀ _:Env,
 bB .add 3 k8 (i 1) λ y=>K1 aaO y x)) (bP (λ K3=>bB .eql 3 BV (i 13) λ z=>cV z (bB .eql 3 qT (i 0) λ aa=>K3 aa j) (K3 ff j)) (λ ab ac=>∀ _:Env,
 cV ab (cF 254 [p0,(i 5)] ac λ _ ad=>K (.tuple #[]) ad) (lI (λ K4=>bB .neq 3 BV (i 1) λ ae=>cV ae (nC p0 λ af=>fA 304 af 1 λ ag=>lA 3 ag ac λ ah=>bB .add 3 ah (i 1) λ ai=>
 nC p0 λ aj=>fA 304 aj 1 λ ak=>sA 3 ak ai ac λ al=>K4 al) (K4 ac)) (λ am=>∀ _:Env,
 cF 255 [p0,BV,g] am λ an ao=>aL 173 ao λ ap aq=>sA 173 ap an aq λ ar=>nC p0 λ asx=>fA 304 asx 4 λ au=>lA 96 au ar λ av=>lN 96 av λ aw=>nC p0 λ ax=>fA 304 ax 4 λ ay=>
 lA 96 ay (drew ar) λ az=>lA 173 ap (drew ar) λ a0=>bS 96 1 [(0,a0)] (drew ar) λ a1 a2=>kA 96 ay az a2 (aP 96 az a1 a2 λ a3 a4=>nC p0 λ a5=>fA 304 a5 4 λ a6=>sA 96 a6 a3 a4 λ a7=>
 bP (λ K5=>bB .neq 3 BV (i 11) λ a8=>cV a8 (bB .neq 3 BV (i 12) λ a9=>K5 a9 a7) (K5 ff a7)) (λ ba bb=>∀ _:Env,
 cV ba (cF 234 [p0,(Go.Value.string (ByteArray.mk (#[59])))] bb λ _ bc=>K (.tuple #[]) bc) (bP (λ K6=>bB .eql 3 BV (i 12) λ bd=>cV bd (bB .add 3 qT (i 1) λ be=>
 K6 be bb) (K6 qT bb)) (λ anC bf=>∀ _:Env,
 bB .add 3 vM (i 1) λ bg=>cF 256 [p0,bg,anC] bf λ bh bi=>fA 173 ap 6 λ bj=>sA 3 bj bh bi λ bk=>lI (λ K7=>bP (λ K8=>bB .eql 3 BV (i 11) λ bl=>cV bl (
 nC p0 λ bm=>fA 304 bm 2 λ bn=>lA 37 bn (drew bk) λ bo=>bB .eql 37 bo (i 0) λ bp=>cV bp (nC p0 λ bq=>fA 304 bq 0 λ br=>lA 232 br (drew bk) λ bs=>nC p0 λ bt=>
 fA 304 bt 1 λ bu=>lA 3 bu (drew bk) λ bv=>cF 211 [bs,bv,(Go.Value.string (ByteArray.mk (#[101,108,115,101])))] (drew bk) λ bw bx=>K8 bw bx) (K8 ff (drew bk))) (K8 ff (drew bk)))
 (λ bz b0=>∀ _:Env,
 cV bz (nC p0 λ b1=>fA 304 b1 1 λ b2=>lA 3 b2 b0 λ b3=>bB .add 3 b3 (i 1) λ b4=>nC p0 λ b5=>fA 304 b5 1 λ b6=>sA 3 b6 b4 b0 λ b7=>bB .add 3 vM (i 1) λ b8=>
 cF 256 [p0,b8,anC] b7 λ b9 ca=>fA 173 ap 7 λ cb=>sA 3 cb b9 ca λ cc=>K7 cc) (K7 b0))) (λ cd=>∀ _:Env,
 nC p0 λ ce=>fA 304 ce 4 λ cf=>lA 96 cf (drew cd) λ cg=>lA 173 ap (drew cd) λ ch=>iA 96 cg aw λ ci=>sA 173 ci ch (drew cd) λ cj=>K (.tuple #[]) cj)))))))))) (λ K1=>K1 (i 1) (i 2) h)
def avJ:dL:=λ i=>match i with
 | 0=>.run 0 11
 | 4=>(.of [(0,[]),(1,[]),(2,[]),(3,[]),(4,[]),(5,[]),(6,[]),(7,[]),(8,[]),(9,[3,7]),(10,[])])
 | 12=>(.of [(0,[]),(1,[]),(2,[]),(3,[]),(4,[]),(5,[]),(6,[4]),(7,[]),(8,[]),(9,[]),(10,[])])
 | 19=>.run 0 20
 | 22=>.run 0 8
 | _=>.nil
theorem aaP (p0 vM qT:Value) (h:S233 w K p0 vM qT):CR 233 [p0,vM,qT] w K:=
 eC 134 avJ 0 [] Tryz.func233 h
def S234 (p0 s1:Value):Prop:=
 bP (λ K1=>nC p0 λ a=>fA 304 a 2 λ b=>lA 37 b (drew w) λ c=>bB .eql 37 c (i 0) λ d=>cV d (nC p0 λ e=>fA 304 e 0 λ f=>lA 232 f (drew w) λ g=>nC p0 λ h=>
 fA 304 h 1 λ j=>lA 3 j (drew w) λ k=>cF 211 [g,k,s1] (drew w) λ l n=>K1 l n) (K1 ff (drew w))) (λ o p=>∀ _:Env,
 cV o (nC p0 λ q=>fA 304 q 1 λ r=>lA 3 r p λ s=>bB .add 3 s (i 1) λ t=>nC p0 λ u=>fA 304 u 1 λ v=>sA 3 v t p λ x=>K (.tuple #[]) x) (cF 254 [p0,(i 5)] p λ _ y=>
 K (.tuple #[]) y))
def avK:dL:=λ i=>match i with
 | 0=>.run 0 17
 | _=>.nil
theorem aaQ (p0 s1:Value) (h:S234 w K p0 s1):CR 234 [p0,s1] w K:=
 eC 31 avK 0 [] Tryz.func234 h
def S235 (l0 i1 Pz n3:Value):Prop:=
 aL 307 w λ a b=>bB .eql 3 n3 (i 5) λ c=>cV c (cF 257 [l0,i1,Pz] b λ d e=>sA 307 a d e λ f=>lA 307 a f λ r=>K r f) (bB .add 3 n3 (i 1) λ g=>cF 235 [l0,i1,Pz,g] b λ h j=>
 aL 307 j λ k l=>sA 307 k h l λ n=>vI (λ K1 o=>∀ _:Env,
 fA 307 k 2 λ p=>lA 37 p o λ q=>bB .eql 37 q (i 0) λ s=>cV s (kh (λ K2 T7 k11 t=>∀ _:Env,
 cF 258 [n3] t λ u v=>lN 28 u λ x=>bA .lss 3 k11 x λ y=>cV y (bP (λ K3=>fA 307 k 1 λ z=>lA 3 z (drew v) λ aa=>cF 258 [n3] (drew v) λ ab ac=>kA 3 z aa ac (iA 28 ab k11 λ ad=>
 lA 3 ad ac λ ae=>cF 259 [ae] ac λ af ag=>kA 3 z aa ag (cF 211 [l0,aa,af] ag λ ah ai=>cV ah (cF 258 [n3] ai λ aj ak=>iA 28 aj k11 λ al=>lA 3 al ak λ am=>K3 am ak) (
 K3 T7 ai)))) (λ ah7 an=>∀ _:Env,
 bB .add 3 k11 (i 1) λ ao=>K2 ah7 ao an)) (bB .eql 3 T7 (i 0) λ ap=>cV ap (lA 307 k v λ aq=>sA 307 a aq v λ ar=>lA 307 a ar λ zm=>K zm ar) (fA 307 k 1 λ asx=>
 lA 3 asx v λ au=>bB .add 3 au (i 1) λ av=>bB .add 3 n3 (i 1) λ aw=>cF 235 [l0,av,Pz,aw] v λ ax ay=>aL 307 ay λ y12 az=>sA 307 y12 ax az λ a0=>fA 307 y12 2 λ a1=>
 lA 37 a1 a0 λ a2=>bB .neq 37 a2 (i 0) λ a3=>cV a3 (lA 307 y12 a0 λ a4=>sA 307 a a4 a0 λ a5=>lA 307 a a5 λ MY=>K MY a5) (fA 307 k 1 λ a6=>lA 3 a6 a0 λ a7=>iA 232 l0 a7 λ a8=>
 fA 242 a8 3 λ a9=>lA 3 a9 a0 λ ba=>cW Tryz.prog (Instr.build 166 [(0,T7),(3,ba)].toArray) λ bb=>bS 86 1 [(0,bb)] a0 λ bc bd=>fA 307 k 0 λ be=>lA 86 be bd λ bf=>
 aP 86 bc bf bd λ bg bh=>fA 307 y12 0 λ bi=>lA 86 bi bh λ bj=>aP 86 bg bj bh λ bk bl=>fA 307 y12 1 λ bm=>lA 3 bm bl λ bn=>cW Tryz.prog (Instr.build 307 [(0,bk),(1,bn)].toArray) λ bo=>
 sA 307 k bo bl λ bp=>bB .eql 3 n3 (i 2) λ bq=>cV bq (lA 307 k bp λ br=>sA 307 a br bp λ bs=>lA 307 a bs λ YW=>K YW bs) (K1 bp))))) (λ K2=>K2 (i 0) (i 0) o)) (
 lA 307 k o λ bt=>sA 307 a bt o λ bu=>lA 307 a bu λ r_4=>K r_4 bu)) (λ K1=>K1 n))
def avM:dL:=λ i=>match i with
 | 9=>(.of [(0,[]),(1,[]),(2,[]),(3,[]),(5,[]),(4,[2]),(6,[]),(7,[]),(8,[2]),(9,[])])
 | _=>.nil
theorem aaR (l0 i1 Pz n3:Value) (h:S235 w K l0 i1 Pz n3):CR 235 [l0,i1,Pz,n3] w K:=
 eC 91 avM 256 [.cell 8 307] Tryz.func235 h
def S236 (so0:Value):Prop:=
 gU Tryz.prog (Instr.box 299 so0) w λ so1 a=>K (.func (Go.Fn.func 237) [].toArray [so1].toArray) a
theorem aaS (so0:Value) (h:S236 w K so0):CR 236 [so0] w K:=
 eC 4 (λ _=>.nil) 4 [.tmp 2] Tryz.func236 h
def S237 (a0 b1 a:Value):Prop:=
 lA 299 a w λ b=>fZ Tryz.prog b [a0,b1] w λ c d=>cF 217 [c] d λ e f=>K e f
theorem aaT (a0 b1 x2:Value) (h:S237 w K a0 b1 x2):CR 237 [a0,b1,x2] w K:=
 eC 11 (λ _=>.nil) 32 [.tmp 5] Tryz.func237 h
def S238 (a0 b1:Value):Prop:=
 bA .add 3 a0 b1 λ a=>K a w
theorem aaU (a0 b1:Value) (h:S238 w K a0 b1):CR 238 [a0,b1] w K:=
 eC 8 (λ _=>.nil) 16 [.tmp 4] Tryz.func238 h
def S239 (a0 b1:Value):Prop:=
 bA .sub 3 a0 b1 λ a=>K a w
theorem aaV (a0 b1:Value) (h:S239 w K a0 b1):CR 239 [a0,b1] w K:=
 eC 8 (λ _=>.nil) 16 [.tmp 4] Tryz.func239 h
def S240 (a0 b1:Value):Prop:=
 bA .mul 3 a0 b1 λ a=>K a w
theorem aaW (a0 b1:Value) (h:S240 w K a0 b1):CR 240 [a0,b1] w K:=
 eC 8 (λ _=>.nil) 16 [.tmp 4] Tryz.func240 h
def S241 (a0 b1:Value):Prop:=
 bA .quo 3 a0 b1 λ a=>K a w
theorem aaX (a0 b1:Value) (h:S241 w K a0 b1):CR 241 [a0,b1] w K:=
 eC 8 (λ _=>.nil) 16 [.tmp 4] Tryz.func241 h
def S242 (a0 b1:Value):Prop:=
 bA .rem 3 a0 b1 λ a=>K a w
theorem aaY (a0 b1:Value) (h:S242 w K a0 b1):CR 242 [a0,b1] w K:=
 eC 8 (λ _=>.nil) 16 [.tmp 4] Tryz.func242 h
def S243 (a0 b1:Value):Prop:=
 bA .eql 3 a0 b1 λ a=>K a w
theorem aaZ (a0 b1:Value) (h:S243 w K a0 b1):CR 243 [a0,b1] w K:=
 eC 8 (λ _=>.nil) 16 [.tmp 4] Tryz.func243 h
def S244 (a0 b1:Value):Prop:=
 bA .neq 3 a0 b1 λ a=>K a w
theorem aa0 (a0 b1:Value) (h:S244 w K a0 b1):CR 244 [a0,b1] w K:=
 eC 8 (λ _=>.nil) 16 [.tmp 4] Tryz.func244 h
def S245 (a0 b1:Value):Prop:=
 bA .lss 3 a0 b1 λ a=>K a w
theorem aa1 (a0 b1:Value) (h:S245 w K a0 b1):CR 245 [a0,b1] w K:=
 eC 8 (λ _=>.nil) 16 [.tmp 4] Tryz.func245 h
def S246 (a0 b1:Value):Prop:=
 bA .leq 3 a0 b1 λ a=>K a w
theorem aa2 (a0 b1:Value) (h:S246 w K a0 b1):CR 246 [a0,b1] w K:=
 eC 8 (λ _=>.nil) 16 [.tmp 4] Tryz.func246 h
def S247 (a0 b1:Value):Prop:=
 bP (λ K1=>cF 218 [a0] w λ a b=>cV a (cF 218 [b1] b λ c d=>K1 c d) (K1 ff b)) (λ e f=>∀ _:Env,
 K e f)
theorem aa3 (a0 b1:Value) (h:S247 w K a0 b1):CR 247 [a0,b1] w K:=
 eC 11 (λ _=>.nil) 16 [.tmp 4] Tryz.func247 h
def S248 (a0 b1:Value):Prop:=
 bP (λ K1=>cF 218 [a0] w λ a b=>cV a (K1 tt b) (cF 218 [b1] b λ c d=>K1 c d)) (λ e f=>∀ _:Env,
 K e f)
theorem aa4 (a0 b1:Value) (h:S248 w K a0 b1):CR 248 [a0,b1] w K:=
 eC 11 (λ _=>.nil) 16 [.tmp 4] Tryz.func248 h
def S249 (s0 f1:Value):Prop:=
 lN 31 s0 λ a=>eS (λ K1 b c=>∀ _:Env,
 bA .lss 3 b a λ d=>cV d (iA 31 s0 b λ e=>lA 129 e c λ f=>fZ Tryz.prog f1 [f] c λ g h=>cV g (K b h) (bB .add 3 b (i 1) λ j=>K1 j h)) (K (i (-1)) c)) (λ K1=>K1 (i 0) w)
theorem aa5 (s0 f1:Value) (h:S249 w K s0 f1):CR 249 [s0,f1] w K:=
 eC 19 (λ _=>.nil) 16 [.tmp 4] Tryz.func249 h
def S250 (HU a:Value):Prop:=
 lA 80 a w λ b=>lN 80 b λ c=>bB .sub 3 c (i 1) λ d=>eS (λ K1 i3 e=>∀ _:Env,
 bB .geq 3 i3 (i 0) λ f=>cV f (lA 80 a e λ g=>iA 80 g i3 λ h=>lA 161 h e λ j=>fZ Tryz.prog HU [i3,j] e λ k l=>cW Tryz.prog (Op.unary .not k) λ n=>cV n (K (.tuple #[]) l) (
 bB .sub 3 i3 (i 1) λ o=>K1 o l)) (K (.tuple #[]) e)) (λ K1=>K1 d w)
theorem aa6 (HU x1:Value) (h:S250 w K HU x1):CR 250 [HU,x1] w K:=
 eC 19 (λ _=>.nil) 0 [] Tryz.func250 h
def S251 (nP:Value):Prop:=
 bP (λ K1=>bB .lss 3 nP (i 1) λ a=>cV a (K1 tt w) (bB .gtr 3 nP (i 14) λ b=>K1 b w)) (λ c d=>∀ _:Env,
 cV c (K (Go.Value.string (ByteArray.mk (#[]))) d) (bS 95 15 [(0,(Go.Value.string (ByteArray.mk (#[])))),(1,(Go.Value.string (ByteArray.mk (#[114,101])))),(2,(Go.Value.string (ByteArray.mk (#[114,110])))),(3,(Go.Value.string (ByteArray.mk (#[110,101])))),(4,(Go.Value.string (ByteArray.mk (#[114,110,101,102])))),(5,(Go.Value.string (ByteArray.mk (#[110])))),(6,(Go.Value.string (ByteArray.mk (#[110])))),(7,(Go.Value.string (ByteArray.mk (#[])))),(8,(Go.Value.string (ByteArray.mk (#[])))),(9,(Go.Value.string (ByteArray.mk (#[110])))),(10,(Go.Value.string (ByteArray.mk (#[110])))),(11,(Go.Value.string (ByteArray.mk (#[101,98])))),(12,(Go.Value.string (ByteArray.mk (#[107,98])))),(13,(Go.Value.string (ByteArray.mk (#[])))),(14,(Go.Value.string (ByteArray.mk (#[101]))))] d λ e f=>
 iA 95 e nP λ g=>lA 9 g f λ h=>K h f))
theorem aa7 (nP:Value) (h:S251 w K nP):CR 251 [nP] w K:=
 eC 13 (λ _=>.nil) 4 [.tmp 2] Tryz.func251 h
def S252 (s0 c1:Value):Prop:=
 eS (λ K1 i5 a=>∀ _:Env,
 lN 9 s0 λ b=>bA .lss 3 i5 b λ c=>cV c (cW Tryz.prog (Instr.index 9 s0 i5) λ d=>bA .eql 5 d c1 λ e=>cV e (K tt a) (bB .add 3 i5 (i 1) λ f=>K1 f a)) (K ff a)) (λ K1=>K1 (i 0) w)
theorem aa8 (s0 c1:Value) (h:S252 w K s0 c1):CR 252 [s0,c1] w K:=
 eC 17 (λ _=>.nil) 16 [.tmp 4] Tryz.func252 h
def S253 (nP:Value):Prop:=
 bS 95 15 [(0,(Go.Value.string (ByteArray.mk (#[])))),(1,(Go.Value.string (ByteArray.mk (#[])))),(2,(Go.Value.string (ByteArray.mk (#[108,111,97,100])))),(3,(Go.Value.string (ByteArray.mk (#[115,116,111,114,101])))),(4,(Go.Value.string (ByteArray.mk (#[99,97,115])))),(5,(Go.Value.string (ByteArray.mk (#[102,108,117,115,104])))),(6,(Go.Value.string (ByteArray.mk (#[111,112,116])))),(7,(Go.Value.string (ByteArray.mk (#[115,102,101,110,99,101])))),(8,(Go.Value.string (ByteArray.mk (#[109,102,101,110,99,101])))),(9,(Go.Value.string (ByteArray.mk (#[116,97,107,101])))),(10,(Go.Value.string (ByteArray.mk (#[103,105,118,101])))),(11,(Go.Value.string (ByteArray.mk (#[105,102])))),(12,(Go.Value.string (ByteArray.mk (#[108,111,111,112])))),(13,(Go.Value.string (ByteArray.mk (#[98,114,101,97,107])))),(14,(Go.Value.string (ByteArray.mk (#[99,104,101,99,107]))))] w λ a b=>
 iA 95 a nP λ c=>lA 9 c b λ d=>K d b
theorem aa9 (nP:Value) (h:S253 w K nP):CR 253 [nP] w K:=
 eC 7 (λ _=>.nil) 4 [.tmp 2] Tryz.func253 h
def S254 (p0 e1:Value):Prop:=
 nC p0 λ a=>fA 304 a 2 λ b=>lA 37 b w λ c=>bB .eql 37 c (i 0) λ d=>cV d (nC p0 λ e=>fA 304 e 2 λ f=>sA 37 f e1 w λ g=>lI (λ K1=>nC p0 λ h=>fA 304 h 1 λ j=>
 lA 3 j (drew g) λ k=>nC p0 λ l=>fA 304 l 0 λ n=>lA 232 n (drew g) λ o=>lN 232 o λ p=>bA .geq 3 k p λ q=>cV q (nC p0 λ r=>fA 304 r 2 λ s=>sA 37 s (i 6) (drew g) λ t=>
 K1 t) (K1 (drew g))) (λ u=>∀ _:Env,
 nC p0 λ v=>fA 304 v 0 λ x=>lA 232 x (drew u) λ y=>nC p0 λ z=>fA 304 z 1 λ aa=>lA 3 aa (drew u) λ ab=>cF 215 [y,ab] (drew u) λ ac ad=>nC p0 λ ae=>fA 304 ae 3 λ af=>
 sA 3 af ac ad λ ag=>K (.tuple #[]) ag)) (K (.tuple #[]) w)
def avN:dL:=λ i=>match i with
 | 2=>.run 0 10
 | 4=>.run 0 13
 | _=>.nil
theorem aba (p0 e1:Value) (h:S254 w K p0 e1):CR 254 [p0,e1] w K:=
 eC 38 avN 0 [] Tryz.func254 h
def S255 (p0 qU Pj:Value):Prop:=
 aL 173 w λ a b=>cW Tryz.prog (Instr.build 173 [(0,qU),(8,Pj)].toArray) λ c=>aL 173 b λ d e=>sA 173 d c e λ f=>lI (λ K1=>bB .eql 3 qU (i 1) λ g=>cV g (
 cF 260 [p0] f λ h j=>fA 173 d 1 λ k=>sA 9 k h j λ l=>cF 234 [p0,(Go.Value.string (ByteArray.mk (#[61])))] l λ _ n=>cF 261 [p0] n λ o p=>fA 173 d 3 λ q=>sA 86 q o p λ s=>
 K1 s) (bB .eql 3 qU (i 2) λ t=>cV t (cF 260 [p0] f λ u v=>fA 173 d 1 λ x=>sA 9 x u v λ y=>cF 234 [p0,(Go.Value.string (ByteArray.mk (#[61])))] y λ _ z=>cF 260 [p0] z λ aa ab=>
 fA 173 d 2 λ ac=>sA 9 ac aa ab λ ad=>K1 ad) (bB .eql 3 qU (i 3) λ ae=>cV ae (cF 260 [p0] f λ af ag=>fA 173 d 2 λ ah=>sA 9 ah af ag λ ai=>cF 234 [p0,(Go.Value.string (ByteArray.mk (#[61])))] ai λ _ aj=>
 cF 261 [p0] aj λ ak al=>fA 173 d 3 λ am=>sA 86 am ak al λ an=>K1 an) (bB .eql 3 qU (i 4) λ ao=>cV ao (cF 260 [p0] f λ ap aq=>fA 173 d 1 λ ar=>sA 9 ar ap aq λ asx=>
 cF 234 [p0,(Go.Value.string (ByteArray.mk (#[61])))] asx λ _ au=>cF 260 [p0] au λ av aw=>fA 173 d 2 λ ax=>sA 9 ax av aw λ ay=>cF 234 [p0,(Go.Value.string (ByteArray.mk (#[44])))] ay λ _ az=>
 cF 261 [p0] az λ a0 a1=>fA 173 d 3 λ a2=>sA 86 a2 a0 a1 λ a3=>cF 234 [p0,(Go.Value.string (ByteArray.mk (#[44])))] a3 λ _ a4=>cF 261 [p0] a4 λ a5 a6=>fA 173 d 4 λ a7=>
 sA 86 a7 a5 a6 λ a8=>K1 a8) (bP (λ K2=>bB .eql 3 qU (i 5) λ a9=>cV a9 (K2 a9 f) (bB .eql 3 qU (i 6) λ ba=>cV ba (K2 ba f) (bB .eql 3 qU (i 9) λ bb=>cV bb (
 K2 bb f) (bB .eql 3 qU (i 10) λ bc=>K2 bc f)))) (λ bd be=>∀ _:Env,
 cV bd (cF 260 [p0] be λ bf bg=>fA 173 d 2 λ bh=>sA 9 bh bf bg λ bi=>K1 bi) (bP (λ K3=>bB .eql 3 qU (i 11) λ bj=>cV bj (K3 bj be) (bB .eql 3 qU (i 14) λ bk=>
 K3 bk be)) (λ bl bm=>∀ _:Env,
 cV bl (cF 261 [p0] bm λ bn bo=>fA 173 d 3 λ bp=>sA 86 bp bn bo λ bq=>K1 bq) (bB .eql 3 qU (i 12) λ br=>cV br (cF 262 [p0] bm λ bs bt=>fA 173 d 5 λ bu=>sA 3 bu bs bt λ bv=>
 K1 bv) (K1 bm)))))))))) (λ bw=>∀ _:Env,
 lA 173 d bw λ bx=>sA 173 a bx bw λ bz=>lA 173 a bz λ r=>K r bz)
theorem abb (p0 qU Pj:Value) (h:S255 w K p0 qU Pj):CR 255 [p0,qU,Pj] w K:=
 eC 82 (λ _=>.nil) 64 [.cell 6 173] Tryz.func255 h
def S256 (p0 vM qT:Value):Prop:=
 nC p0 λ a=>fA 304 a 4 λ b=>lA 96 b w λ c=>lN 96 c λ d=>lI (λ K1=>bP (λ K2=>bB .gtr 3 vM (i 12) λ e=>cV e (nC p0 λ f=>fA 304 f 0 λ g=>lA 232 g (drew w) λ h=>
 nC p0 λ j=>fA 304 j 1 λ k=>lA 3 k (drew w) λ l=>cF 211 [h,l,(Go.Value.string (ByteArray.mk (#[123])))] (drew w) λ n o=>K2 n o) (K2 ff (drew w))) (λ p q=>∀ _:Env,
 cV p (cF 254 [p0,(i 7)] q λ _ r=>K1 r) (K1 q))) (λ s=>∀ _:Env,
 cF 234 [p0,(Go.Value.string (ByteArray.mk (#[123])))] s λ _ t=>vI (λ K3 u=>∀ _:Env,
 bP (λ K4=>nC p0 λ v=>fA 304 v 2 λ x=>lA 37 x (drew u) λ y=>bB .eql 37 y (i 0) λ z=>cV z (nC p0 λ aa=>fA 304 aa 0 λ ab=>lA 232 ab (drew u) λ ac=>nC p0 λ ad=>
 fA 304 ad 1 λ ae=>lA 3 ae (drew u) λ af=>cF 211 [ac,af,(Go.Value.string (ByteArray.mk (#[125])))] (drew u) λ ag ah=>cW Tryz.prog (Op.unary .not ag) λ ai=>K4 ai ah) (
 K4 ff (drew u))) (λ aj ak=>∀ _:Env,
 cV aj (cF 233 [p0,vM,qT] ak λ _ al=>K3 al) (cF 234 [p0,(Go.Value.string (ByteArray.mk (#[125])))] ak λ _ am=>nC p0 λ an=>fA 304 an 4 λ ao=>lA 96 ao am λ ap=>
 lN 96 ap λ aq=>bA .sub 3 aq d λ ar=>K ar am))) (λ K3=>K3 t))
def avO:dL:=λ i=>match i with
 | 2=>.run 0 13
 | 5=>.run 0 17
 | _=>.nil
theorem abc (p0 vM qT:Value) (h:S256 w K p0 vM qT):CR 256 [p0,vM,qT] w K:=
 eC 60 avO 64 [.tmp 6] Tryz.func256 h
def S257 (l0 i1 Pz:Value):Prop:=
 aL 307 w λ a b=>lN 232 l0 λ c=>bA .geq 3 i1 c λ d=>cV d (cF 263 [l0,i1,(i 6)] b λ e f=>sA 307 a e f λ g=>lA 307 a g λ r=>K r g) (bP (λ K1=>cF 211 [l0,i1,(Go.Value.string (ByteArray.mk (#[33])))] b λ h j=>
 cV h (K1 tt j) (cF 211 [l0,i1,(Go.Value.string (ByteArray.mk (#[45])))] j λ k l=>K1 k l)) (λ un7 n=>∀ _:Env,
 cF 211 [l0,i1,(Go.Value.string (ByteArray.mk (#[40])))] n λ o p=>bP (λ K2=>cV un7 (bB .eql 3 Pz (i 12) λ q=>K2 q p) (cV o (bB .eql 3 Pz (i 12) λ s=>K2 s p) (K2 ff p)))
 (λ t u=>∀ _:Env,
 cV t (cF 263 [l0,i1,(i 7)] u λ v x=>sA 307 a v x λ y=>lA 307 a y λ zm=>K zm y) (cV un7 (bB .add 3 i1 (i 1) λ z=>bB .add 3 Pz (i 1) λ aa=>cF 257 [l0,z,aa] u λ ab ac=>
 aL 307 ac λ ad ae=>sA 307 ad ab ae λ af=>fA 307 ad 2 λ ag=>lA 37 ag af λ ah=>bB .neq 37 ah (i 0) λ ai=>cV ai (lA 307 ad af λ aj=>sA 307 a aj af λ ak=>lA 307 a ak λ MY=>
 K MY ak) (bP (λ K3=>iA 232 l0 i1 λ al=>fA 242 al 1 λ am=>lA 9 am af λ an=>cW Tryz.prog (iI .eql 9 false true an (Go.Value.string (ByteArray.mk (#[45])))) λ ao=>
 cV ao (K3 (i 3) af) (K3 (i 4) af)) (λ T7 ap=>∀ _:Env,
 iA 232 l0 i1 λ aq=>fA 242 aq 3 λ ar=>lA 3 ar ap λ asx=>cW Tryz.prog (Instr.build 166 [(0,T7),(3,asx)].toArray) λ au=>bS 86 1 [(0,au)] ap λ av aw=>fA 307 ad 0 λ ax=>
 lA 86 ax aw λ ay=>aP 86 av ay aw λ az a0=>fA 307 ad 0 λ a1=>sA 86 a1 az a0 λ a2=>lA 307 ad a2 λ a3=>sA 307 a a3 a2 λ a4=>lA 307 a a4 λ YW=>K YW a4))) (cV o (
 bB .add 3 i1 (i 1) λ a5=>bB .add 3 Pz (i 1) λ a6=>cF 235 [l0,a5,a6,(i 0)] u λ a7 a8=>aL 307 a8 λ a9 ba=>sA 307 a9 a7 ba λ bb=>fA 307 a9 2 λ bc=>lA 37 bc bb λ bd=>
 bB .neq 37 bd (i 0) λ be=>cV be (lA 307 a9 bb λ bf=>sA 307 a bf bb λ bg=>lA 307 a bg λ r_4=>K r_4 bg) (fA 307 a9 1 λ bh=>lA 3 bh bb λ bi=>cF 211 [l0,bi,(Go.Value.string (ByteArray.mk (#[41])))] bb λ bj bk=>
 cW Tryz.prog (Op.unary .not bj) λ bl=>cV bl (fA 307 a9 1 λ bm=>lA 3 bm bk λ bn=>cF 263 [l0,bn,(i 5)] bk λ bo bp=>sA 307 a bo bp λ bq=>lA 307 a bq λ r_5=>K r_5 bq) (
 fA 307 a9 1 λ br=>lA 3 br bk λ bs=>bB .add 3 bs (i 1) λ bt=>fA 307 a9 1 λ bu=>sA 3 bu bt bk λ bv=>lA 307 a9 bv λ bw=>sA 307 a bw bv λ bx=>lA 307 a bx λ r_6=>
 K r_6 bx))) (iA 232 l0 i1 λ bz=>fA 242 bz 0 λ b0=>lA 3 b0 u λ b1=>bB .eql 3 b1 (i 2) λ b2=>cV b2 (iA 232 l0 i1 λ b3=>fA 242 b3 2 λ b4=>lA 3 b4 (drew u) λ b5=>
 iA 232 l0 i1 λ b6=>fA 242 b6 3 λ b7=>lA 3 b7 (drew u) λ b8=>cW Tryz.prog (Instr.build 166 [(0,(i 1)),(1,b5),(3,b8)].toArray) λ b9=>bB .add 3 i1 (i 1) λ ca=>bS 86 1 [(0,b9)] (drew u) λ cb cc=>
 cW Tryz.prog (Instr.build 307 [(0,cb),(1,ca)].toArray) λ cd=>sA 307 a cd cc λ ce=>lA 307 a ce λ r_7=>K r_7 ce) (bP (λ K4=>iA 232 l0 i1 λ cf=>fA 242 cf 0 λ cg=>
 lA 3 cg u λ ch=>bB .eql 3 ch (i 1) λ ci=>cV ci (iA 232 l0 i1 λ cj=>fA 242 cj 1 λ ck=>lA 9 ck u λ cl=>cF 161 [cl] u λ cm cn=>K4 cm cn) (K4 ff u)) (λ co cp=>∀ _:Env,
 cV co (iA 232 l0 i1 λ cq=>fA 242 cq 1 λ cr=>lA 9 cr (drew cp) λ cs=>iA 232 l0 i1 λ ct=>fA 242 ct 3 λ cu=>lA 3 cu (drew cp) λ cv=>cW Tryz.prog (Instr.build 166 [(0,(i 2)),(2,cs),(3,cv)].toArray) λ cw=>
 bB .add 3 i1 (i 1) λ cx=>bS 86 1 [(0,cw)] (drew cp) λ cy cz=>cW Tryz.prog (Instr.build 307 [(0,cy),(1,cx)].toArray) λ c0=>sA 307 a c0 cz λ c1=>lA 307 a c1 λ r_8=>
 K r_8 c1) (cF 263 [l0,i1,(i 5)] cp λ c2 c3=>sA 307 a c2 c3 λ c4=>lA 307 a c4 λ r_9=>K r_9 c4)))))))))
def avP:dL:=λ i=>match i with
 | 27=>(.of [(0,[]),(1,[]),(2,[]),(3,[]),(4,[]),(5,[]),(6,[]),(7,[]),(8,[]),(9,[]),(10,[]),(12,[]),(13,[]),(11,[]),(14,[]),(15,[])])
 | 29=>(.of [(0,[]),(1,[]),(2,[]),(3,[]),(4,[]),(5,[]),(6,[]),(7,[]),(8,[]),(9,[]),(10,[]),(12,[]),(13,[]),(11,[]),(14,[]),(15,[])])
 | _=>.nil
theorem abd (l0 i1 Pz:Value) (h:S257 w K l0 i1 Pz):CR 257 [l0,i1,Pz] w K:=
 eC 152 avP 64 [.cell 6 307] Tryz.func257 h
def S258 (n0:Value):Prop:=
 bS 28 1 [(0,(i 15))] w λ a b=>bS 28 1 [(0,(i 14))] b λ c d=>bS 28 4 [(0,(i 10)),(1,(i 11)),(2,(i 12)),(3,(i 13))] d λ e f=>bS 28 2 [(0,(i 5)),(1,(i 6))] f λ g h=>
 bS 28 3 [(0,(i 7)),(1,(i 8)),(2,(i 9))] h λ j k=>bS 152 5 [(0,a),(1,c),(2,e),(3,g),(4,j)] k λ l n=>iA 152 l n0 λ o=>lA 28 o n λ p=>K p n
theorem abe (n0:Value) (h:S258 w K n0):CR 258 [n0] w K:=
 eC 12 (λ _=>.nil) 4 [.tmp 2] Tryz.func258 h
def S259 (vL:Value):Prop:=
 bS 95 16 [(0,(Go.Value.string (ByteArray.mk (#[])))),(1,(Go.Value.string (ByteArray.mk (#[])))),(2,(Go.Value.string (ByteArray.mk (#[])))),(3,(Go.Value.string (ByteArray.mk (#[45])))),(4,(Go.Value.string (ByteArray.mk (#[33])))),(5,(Go.Value.string (ByteArray.mk (#[43])))),(6,(Go.Value.string (ByteArray.mk (#[45])))),(7,(Go.Value.string (ByteArray.mk (#[42])))),(8,(Go.Value.string (ByteArray.mk (#[47])))),(9,(Go.Value.string (ByteArray.mk (#[37])))),(10,(Go.Value.string (ByteArray.mk (#[61,61])))),(11,(Go.Value.string (ByteArray.mk (#[33,61])))),(12,(Go.Value.string (ByteArray.mk (#[60])))),(13,(Go.Value.string (ByteArray.mk (#[60,61])))),(14,(Go.Value.string (ByteArray.mk (#[38,38])))),(15,(Go.Value.string (ByteArray.mk (#[124,124]))))] w λ a b=>
 iA 95 a vL λ c=>lA 9 c b λ d=>K d b
theorem abf (vL:Value) (h:S259 w K vL):CR 259 [vL] w K:=
 eC 7 (λ _=>.nil) 4 [.tmp 2] Tryz.func259 h
def S260 (p0:Value):Prop:=
 bP (λ K1=>nC p0 λ a=>fA 304 a 2 λ b=>lA 37 b (drew w) λ c=>bB .eql 37 c (i 0) λ d=>cV d (nC p0 λ e=>fA 304 e 1 λ f=>lA 3 f (drew w) λ g=>nC p0 λ h=>fA 304 h 0 λ j=>
 lA 232 j (drew w) λ k=>lN 232 k λ l=>bA .lss 3 g l λ n=>cV n (nC p0 λ o=>fA 304 o 0 λ p=>lA 232 p (drew w) λ q=>nC p0 λ r=>fA 304 r 1 λ s=>lA 3 s (drew w) λ t=>
 iA 232 q t λ u=>fA 242 u 0 λ v=>lA 3 v (drew w) λ x=>bB .eql 3 x (i 1) λ y=>cV y (nC p0 λ z=>fA 304 z 0 λ aa=>lA 232 aa (drew w) λ ab=>nC p0 λ ac=>fA 304 ac 1 λ ad=>
 lA 3 ad (drew w) λ ae=>iA 232 ab ae λ af=>fA 242 af 1 λ ag=>lA 9 ag (drew w) λ ah=>cF 161 [ah] (drew w) λ ai aj=>K1 ai aj) (K1 ff (drew w))) (K1 ff (drew w))) (K1 ff (drew w)))
 (λ ak al=>∀ _:Env,
 cV ak (nC p0 λ am=>fA 304 am 1 λ an=>lA 3 an al λ ao=>bB .add 3 ao (i 1) λ ap=>nC p0 λ aq=>fA 304 aq 1 λ ar=>sA 3 ar ap al λ asx=>nC p0 λ au=>fA 304 au 0 λ av=>
 lA 232 av (drew asx) λ aw=>nC p0 λ ax=>fA 304 ax 1 λ ay=>lA 3 ay (drew asx) λ az=>bB .sub 3 az (i 1) λ a0=>iA 232 aw a0 λ a1=>fA 242 a1 1 λ a2=>lA 9 a2 (drew asx) λ a3=>
 K a3 (drew asx)) (cF 254 [p0,(i 5)] al λ _ a4=>K (Go.Value.string (ByteArray.mk (#[]))) a4))
def avQ:dL:=λ i=>match i with
 | 1=>.run 0 45
 | 3=>.run 0 13
 | _=>.nil
theorem abg (p0:Value) (h:S260 w K p0):CR 260 [p0] w K:=
 eC 70 avQ 4 [.tmp 2] Tryz.func260 h
def S261 (p0:Value):Prop:=
 nC p0 λ a=>fA 304 a 2 λ b=>lA 37 b w λ c=>bB .neq 37 c (i 0) λ d=>cV d (K (.slice none 0 0) w) (nC p0 λ e=>fA 304 e 0 λ f=>lA 232 f (drew w) λ g=>nC p0 λ h=>
 fA 304 h 1 λ j=>lA 3 j (drew w) λ k=>cF 214 [g,k] (drew w) λ l n=>xT l 0 λ o=>xT l 1 λ p=>xT l 2 λ q=>xT l 3 λ r=>bB .neq 37 q (i 0) λ s=>cV s (nC p0 λ t=>
 fA 304 t 2 λ u=>sA 37 u q n λ v=>nC p0 λ x=>fA 304 x 3 λ y=>sA 3 y r v λ z=>K (.slice none 0 0) z) (nC p0 λ aa=>fA 304 aa 1 λ ab=>sA 3 ab p n λ ac=>K o ac))
def avR:dL:=λ i=>match i with
 | 3=>.run 0 18
 | _=>.nil
theorem abh (p0:Value) (h:S261 w K p0):CR 261 [p0] w K:=
 eC 41 avR 4 [.tmp 2] Tryz.func261 h
def S262 (p0:Value):Prop:=
 bP (λ K1=>nC p0 λ a=>fA 304 a 2 λ b=>lA 37 b (drew w) λ c=>bB .eql 37 c (i 0) λ d=>cV d (nC p0 λ e=>fA 304 e 1 λ f=>lA 3 f (drew w) λ g=>nC p0 λ h=>fA 304 h 0 λ j=>
 lA 232 j (drew w) λ k=>lN 232 k λ l=>bA .lss 3 g l λ n=>cV n (nC p0 λ o=>fA 304 o 0 λ p=>lA 232 p (drew w) λ q=>nC p0 λ r=>fA 304 r 1 λ s=>lA 3 s (drew w) λ t=>
 iA 232 q t λ u=>fA 242 u 0 λ v=>lA 3 v (drew w) λ x=>bB .eql 3 x (i 2) λ y=>K1 y (drew w)) (K1 ff (drew w))) (K1 ff (drew w))) (λ z aa=>∀ _:Env,
 cV z (nC p0 λ ab=>fA 304 ab 0 λ ac=>lA 232 ac (drew aa) λ ad=>nC p0 λ ae=>fA 304 ae 1 λ af=>lA 3 af (drew aa) λ ag=>iA 232 ad ag λ ah=>fA 242 ah 2 λ ai=>lA 3 ai (drew aa) λ aj=>
 bP (λ K2=>bB .geq 3 aj (i 1) λ ak=>cV ak (bB .leq 3 aj (i 8) λ al=>K2 al (drew aa)) (K2 ff (drew aa))) (λ am an=>∀ _:Env,
 cV am (nC p0 λ ao=>fA 304 ao 1 λ ap=>lA 3 ap an λ aq=>bB .add 3 aq (i 1) λ ar=>nC p0 λ asx=>fA 304 asx 1 λ au=>sA 3 au ar an λ av=>K aj av) (cF 254 [p0,(i 11)] an λ _ aw=>
 K (i 0) aw))) (cF 254 [p0,(i 5)] aa λ _ ax=>K (i 0) ax))
def avS:dL:=λ i=>match i with
 | 1=>.run 0 31
 | 2=>.run 0 12
 | _=>.nil
theorem abi (p0:Value) (h:S262 w K p0):CR 262 [p0] w K:=
 eC 65 avS 4 [.tmp 2] Tryz.func262 h
def S263 (l0 i1 e2:Value):Prop:=
 aL 307 w λ a b=>bP (λ K1=>lN 232 l0 λ c=>bA .geq 3 i1 c λ d=>cV d (K1 (i 6) b) (K1 e2 b)) (λ avT e=>∀ _:Env,
 cF 215 [l0,i1] e λ f g=>cW Tryz.prog (Instr.build 307 [(2,avT),(3,f)].toArray) λ h=>sA 307 a h g λ j=>lA 307 a j λ r=>K r j)
theorem abj (l0 i1 e2:Value) (h:S263 w K l0 i1 e2):CR 263 [l0,i1,e2] w K:=
 eC 16 (λ _=>.nil) 64 [.cell 6 307] Tryz.func263 h
theorem aeS:PL 205:=eH Tryz.func205
theorem PA:PL 206:=eH Tryz.func206
theorem anE:PL 207:=eH Tryz.func207
theorem PB:PL 208:=eH Tryz.func208
theorem aeT:PL 209:=eH Tryz.func209
theorem anF:PL 210:=eH Tryz.func210
theorem vk:PL 211:=eH Tryz.func211
theorem T8:PL 212:=eH Tryz.func212
theorem anG:PL 213:=eH Tryz.func213
theorem aeU:PL 214:=eH Tryz.func214
theorem Gp:PL 215:=eH Tryz.func215
theorem anH:PL 216:=eH Tryz.func216
theorem aeV:PL 217:=eH Tryz.func217
theorem J4:PL 218:=eH Tryz.func218
theorem anI:PL 219:=eH Tryz.func219
theorem anJ:PL 220:=eH Tryz.func220
theorem anK:PL 221:=eH Tryz.func221
theorem anL:PL 222:=eH Tryz.func222
theorem anM:PL 223:=eH Tryz.func223
theorem anN:PL 224:=eH Tryz.func224
theorem anO:PL 225:=eH Tryz.func225
theorem anP:PL 226:=eH Tryz.func226
theorem anQ:PL 228:=eH Tryz.func228
theorem anR:PL 230:=eH Tryz.func230
theorem T9:PL 231:=eH Tryz.func231
theorem aeW:PL 232:=eH Tryz.func232
theorem aeX:PL 233:=eH Tryz.func233
theorem xV:PL 234:=eH Tryz.func234
theorem PC:PL 235:=eH Tryz.func235
theorem Gq:PL 236:=eH Tryz.func236
theorem Gr:PL 237:=eH Tryz.func237
theorem anS:PL 238:=eH Tryz.func238
theorem anT:PL 239:=eH Tryz.func239
theorem anU:PL 240:=eH Tryz.func240
theorem anV:PL 241:=eH Tryz.func241
theorem anW:PL 242:=eH Tryz.func242
theorem anX:PL 243:=eH Tryz.func243
theorem anY:PL 244:=eH Tryz.func244
theorem anZ:PL 245:=eH Tryz.func245
theorem an0:PL 246:=eH Tryz.func246
theorem an1:PL 247:=eH Tryz.func247
theorem an2:PL 248:=eH Tryz.func248
theorem an3:PL 249:=eH Tryz.func249
theorem an4:PL 250:=eH Tryz.func250
theorem an5:PL 251:=eH Tryz.func251
theorem J5:PL 252:=eH Tryz.func252
theorem an6:PL 253:=eH Tryz.func253
theorem Gs:PL 254:=eH Tryz.func254
theorem an7:PL 255:=eH Tryz.func255
theorem aeY:PL 256:=eH Tryz.func256
theorem aeZ:PL 257:=eH Tryz.func257
theorem Ua:PL 258:=eH Tryz.func258
theorem an8:PL 259:=eH Tryz.func259
theorem Dq:PL 260:=eH Tryz.func260
theorem J6:PL 261:=eH Tryz.func261
theorem an9:PL 262:=eH Tryz.func262
theorem PD:PL 263:=eH Tryz.func263
end Go.Proofs.YtnjcingfdhjfkaaGreat
namespace Go.Fw
def tH (w:World) (b:Nat) (cs:List Value):Prop:=∃ ty,w.heap[b]? = some (.cells cs.toArray ty (0,0))
def Cell (w:World) (b o:Nat) (v:Value):Prop:=w.cell? ⟨b,o,none⟩=some v
structure ix (A:Nat→Prop) (w w':World):Prop where
 os:w'.os=w.os
 tape:w'.tape=w.tape
 output:w'.output=w.output
 size:w.heap.size≤w'.heap.size
 cE:∀ b,b<w.heap.size→¬ A b→w'.heap[b]? = w.heap[b]?
def bD:Nat→Prop:=λ _=>False
abbrev Ext (w w':World):Prop:=ix bD w w'
theorem ix.refl (A:Nat→Prop) (w:World):ix A w w:=⟨rfl,rfl,rfl,Nat.le_refl _,λ _ _ _=>rfl⟩
theorem ix.trans {A B C:Nat→Prop} {w w1 w2:World} (h:ix A w w1) (k:ix B w1 w2) (hA:∀ b,A b→C b) (hB:∀ b,b<w.heap.size→B b→C b):ix C w w2:=
 ⟨k.os.trans h.os,k.tape.trans h.tape,k.output.trans h.output,Nat.le_trans h.size k.size,λ b hb hn=>
  (k.cE b (Nat.lt_of_lt_of_le hb h.size) λ hh=>hn (hB b hb hh)).trans (h.cE b hb λ hh=>hn (hA b hh))⟩
theorem ix.then {A:Nat→Prop} {w w1 w2:World} (h:ix A w w1) (k:Ext w1 w2):ix A w w2:=h.trans k (λ _ h=>h) λ _ _ h=>h.elim
theorem ix.mono {A B:Nat→Prop} {w w':World} (h:ix A w w') (hh:∀ b,A b→B b):ix B w w':=⟨h.os,h.tape,h.output,h.size,λ b hb hn=>h.cE b hb λ x=>hn (hh b x)⟩
theorem Ext.refl (w:World):Ext w w:=ix.refl _ _
theorem Ext.trans {w w1 w2:World} (h:Ext w w1) (k:Ext w1 w2):Ext w w2:=ix.then h k
theorem Ext.aF {A:Nat→Prop} {w w':World} (h:Ext w w'):ix A w w':=h.mono λ _ h=>h.elim
theorem Ext.drew (w:World):Ext w (drew w):=⟨rfl,rfl,rfl,Nat.le_refl _,λ _ _ _=>rfl⟩
theorem ix.below {w w':World} (h:Ext w w'):Go.RowKit.Below w.heap.size w w':=⟨h.os,h.tape,h.output,h.size,λ b hb=>h.cE b hb (λ x=>x)⟩
theorem jR {w:World} {b:Nat} {o:Obj} (h:w.heap[b]? = some o):b<w.heap.size:=(Array.getElem?_eq_some_iff.1 h).1
theorem tH.lt {w:World} {b:Nat} {cs:List Value} (h:tH w b cs):b<w.heap.size:=jR h.choose_spec
theorem Cell.lt {w:World} {b o:Nat} {v:Value} (h:Cell w b o v):b<w.heap.size:=by
 unfold Cell World.cell? at h
 cases hb:w.heap[b]? with
 | none=>rw [hb] at h; simp at h
 | some x=>exact jR hb
theorem Cell.of_eq {w w':World} {b o:Nat} {v:Value} (h:Cell w b o v) (hh:w'.heap[b]? = w.heap[b]?):Cell w' b o v:=by
 unfold Cell World.cell? at *
 dsimp only at *
 rw [hh]; exact h
theorem tH.of_eq {w w':World} {b:Nat} {cs:List Value} (h:tH w b cs) (hh:w'.heap[b]? = w.heap[b]?):tH w' b cs:=by
 obtain ⟨ty,h⟩:=h; exact ⟨ty,hh.trans h⟩
theorem Cell.aF {A:Nat→Prop} {w w':World} {b o:Nat} {v:Value} (h:Cell w b o v) (hc:ix A w w') (hn:¬ A b):Cell w' b o v:=h.of_eq (hc.cE b h.lt hn)
theorem Cell.ext {w w':World} {b o:Nat} {v:Value} (h:Cell w b o v) (hc:Ext w w'):Cell w' b o v:=h.aF hc (λ x=>x)
theorem tH.cell {w:World} {b o:Nat} {cs:List Value} {v:Value} (h:tH w b cs) (hv:cs[o]? = some v):Cell w b o v:=by
 obtain ⟨ty,h⟩:=h
 unfold Cell World.cell?
 dsimp only
 rw [h]
 simpa using hv
theorem tH.frozen {w:World} {b o:Nat} {cs:List Value} (h:tH w b cs):w.frozen? ⟨b,o,none⟩=false:=by
 obtain ⟨ty,h⟩:=h
 unfold World.frozen?
 dsimp only
 rw [h]
 simp
theorem HV (w:World) (b o:Nat) (v:Value) (k:Nat) (h:k≠b):(w.setCell ⟨b,o,none⟩ v).heap[k]? = w.heap[k]?:=by
 simp only [World.setCell,Array.getElem?_modify]
 rw [if_neg (λ hh=>h hh.symm)]
theorem tH.setCell {w:World} {b o:Nat} {cs:List Value} (h:tH w b cs) (v:Value):tH (w.setCell ⟨b,o,none⟩ v) b (cs.set o v):=by
 obtain ⟨ty,h⟩:=h
 refine ⟨ty,?_⟩
 simp only [World.setCell,Array.getElem?_modify,if_true,h]
 simp
theorem ix.setCell (w:World) (b o:Nat) (v:Value):ix (· = b) w (w.setCell ⟨b,o,none⟩ v):=
 ⟨rfl,rfl,rfl,by simp [World.setCell],λ k _ hn=>HV w b o v k hn⟩
def push (w:World) (o:Obj):World:={w with heap:=w.heap.push o}
theorem A9 (w:World) (o:Obj) (k:Nat) (h:k<w.heap.size):(push w o).heap[k]? = w.heap[k]?:=by
 show (w.heap.push o)[k]? = _
 rw [Array.getElem?_push,if_neg (by omega)]
theorem po (w:World) (o:Obj):(push w o).heap[w.heap.size]? = some o:=by
 show (w.heap.push o)[_]? = _
 rw [Array.getElem?_push,if_pos rfl]
theorem Gt (w:World) (o:Obj):(push w o).heap.size=w.heap.size+1:=by simp [push]
theorem Ext.push (w:World) (o:Obj):Ext w (push w o):=⟨rfl,rfl,rfl,by rw [Gt]; omega,λ b hb _=>A9 w o b hb⟩
theorem tH.push (w:World) (cs:List Value) (ty:TypeId):tH (push w (.cells cs.toArray ty)) w.heap.size cs:=⟨ty,po _ _⟩
structure HP where
 p:World→(Nat→Prop)→Prop
 loc:∀ w w' F,p w F→(∀ b,F b→w'.heap[b]? = w.heap[b]?)→p w' F
 lt:∀ w F b,p w F→F b→b<w.heap.size
def cE (b:Nat) (cs:List Value):HP where
 p w F:=tH w b cs∧∀ k,F k↔k=b
 loc w w' F h hh:=⟨h.1.of_eq (hh b ((h.2 b).2 rfl)),h.2⟩
 lt w F b' h hb:=by rw [(h.2 b').1 hb]; exact h.1.lt
def rR (w0:World) (A:Nat→Prop):List HP→World→(Nat→Prop)→Prop
 | [],_,U=>∀ b,¬ U b
 | H::L,w,U=>∃ F U',H.p w F∧(∀ b,F b→A b∨w0.heap.size≤b)∧(∀ b,F b→¬ U' b)∧(∀ b,U b↔F b∨U' b)∧rR w0 A L w U'
structure St (w0:World) (A:Nat→Prop) (L:List HP) (w:World):Prop where
 aF:ix A w0 w
 sP:∃ U,rR w0 A L w U
theorem rR.lt {w0:World} {A:Nat→Prop} {L:List HP} {w:World} {U:Nat→Prop} (h:rR w0 A L w U):∀ b,U b→b<w.heap.size:=by
 induction L generalizing U with
 | nil=>intro b hb; exact (h b hb).elim
 | cons H L ih=>
  obtain ⟨F,U',h1,h2,h3,h4,h5⟩:=h
  intro b hb
  rcases (h4 b).1 hb with hf | hu
  ·exact H.lt _ _ _ h1 hf
  ·exact ih h5 b hu
theorem rR.loc {w0:World} {A:Nat→Prop} {L:List HP} {w w':World} {U:Nat→Prop} (h:rR w0 A L w U) (hh:∀ b,U b→w'.heap[b]? = w.heap[b]?):rR w0 A L w' U:=by
 induction L generalizing U with
 | nil=>exact h
 | cons H L ih=>
  obtain ⟨F,U',h1,h2,h3,h4,h5⟩:=h
  exact ⟨F,U',H.loc _ _ _ h1 λ b hb=>hh b ((h4 b).2 (.inl hb)),h2,h3,h4,ih h5 λ b hb=>hh b ((h4 b).2 (.inr hb))⟩
theorem St.start (w:World):St w bD [] w:=⟨ix.refl _ _,bD,λ _ h=>h⟩
theorem St.begin {w:World} {F:Nat→Prop} {H:HP} (h:H.p w F):St w F [H] w:=
 ⟨ix.refl _ _,F,F,bD,h,λ _ h=>.inl h,λ _ _ h=>h,λ _=>⟨.inl,λ h=>h.elim id λ h=>h.elim⟩,λ _ h=>h⟩
theorem St.ext {w0:World} {A:Nat→Prop} {L:List HP} {w w':World} (h:St w0 A L w) (e:Ext w w'):St w0 A L w':=by
 obtain ⟨U,hU⟩:=h.sP
 exact ⟨h.aF.then e,U,hU.loc λ b hb=>e.cE b (hU.lt b hb) (λ x=>x)⟩
theorem St.drew {w0:World} {A:Nat→Prop} {L:List HP} {w:World} (h:St w0 A L w):St w0 A L (drew w):=h.ext (Ext.drew w)
theorem St.new {w0:World} {A:Nat→Prop} {L:List HP} {w w':World} {H:HP} {F:Nat→Prop} (h:St w0 A L w) (e:Ext w w') (hH:H.p w' F) (hF:∀ b,F b→w.heap.size≤b):St w0 A (H::L) w':=by
 obtain ⟨U,hU⟩:=(h.ext e).sP
 obtain ⟨U0,hU0⟩:=h.sP
 have avV:rR w0 A L w' U0:=hU0.loc λ b hb=>e.cE b (hU0.lt b hb) (λ x=>x)
 refine ⟨(h.ext e).aF,λ b=>F b∨U0 b,F,U0,hH,λ b hb=>.inr ?_,λ b hb hu=>?_,λ b=>Iff.rfl,avV⟩
 ·exact Nat.le_trans h.aF.size (hF b hb)
 ·have:=hU0.lt b hu; have:=hF b hb; omega
theorem St.rS {w0:World} {A:Nat→Prop} {L:List HP} {w w':World} {H H':HP} (h:St w0 A (H::L) w)
  (hk:∀ F,H.p w F→∃ F',H'.p w' F'∧(∀ b,F' b→F b∨w.heap.size≤b)∧ix F w w'):St w0 A (H'::L) w':=by
 obtain ⟨U,F,U',h1,h2,h3,h4,h5⟩:=h.sP
 obtain ⟨F',g1,g2,g3⟩:=hk F h1
 refine ⟨h.aF.trans g3 (λ _ h=>h) λ b hb hf=>?_,λ b=>F' b∨U' b,F',U',g1,λ b hb=>?_,λ b hb hu=>?_,λ b=>Iff.rfl,?_⟩
 ·exact (h2 b hf).elim id λ hh=>by omega
 ·rcases g2 b hb with hf | hf
  ·exact h2 b hf
  ·exact .inr (Nat.le_trans h.aF.size hf)
 ·rcases g2 b hb with hf | hf
  ·exact h3 b hf hu
  ·have:=h5.lt b hu; omega
 ·exact h5.loc λ b hb=>g3.cE b (h5.lt b hb) λ hf=>h3 b hf hb
theorem St.drop {w0:World} {A:Nat→Prop} {L:List HP} {w:World} {H:HP} (h:St w0 A (H::L) w):St w0 A L w:=by
 obtain ⟨U,F,U',h1,h2,h3,h4,h5⟩:=h.sP
 exact ⟨h.aF,U',h5⟩
theorem rR.swap {w0:World} {A:Nat→Prop} {L:List HP} {w:World} {H H':HP} {U:Nat→Prop} (h:rR w0 A (H::H'::L) w U):rR w0 A (H'::H::L) w U:=by
 obtain ⟨F,U',h1,h2,h3,h4,F2,U2,g1,g2,g3,g4,g5⟩:=h
 refine ⟨F2,λ b=>F b∨U2 b,g1,g2,λ b hb=>?_,λ b=>?_,F,U2,h1,h2,λ b hb hu=>?_,λ b=>Iff.rfl,g5⟩
 ·rintro (hf | hu)
  ·exact h3 b hf ((g4 b).2 (.inl hb))
  ·exact g3 b hb hu
 ·rw [h4 b,g4 b]
  constructor
  ·rintro (h | h | h)
   ·exact .inr (.inl h)
   ·exact .inl h
   ·exact .inr (.inr h)
  ·rintro (h | h | h)
   ·exact .inr (.inl h)
   ·exact .inl h
   ·exact .inr (.inr h)
 ·exact h3 b hb ((g4 b).2 (.inr hu))
theorem rR.under {w0:World} {A:Nat→Prop} {L L':List HP} {w:World} {H:HP} {U:Nat→Prop} (hk:∀ U,rR w0 A L w U→rR w0 A L' w U) (h:rR w0 A (H::L) w U):rR w0 A (H::L') w U:=by
 obtain ⟨F,U',h1,h2,h3,h4,h5⟩:=h
 exact ⟨F,U',h1,h2,h3,h4,hk _ h5⟩
theorem rR.pull {w0:World} {A:Nat→Prop} {L1 L2:List HP} {w:World} {H:HP} {U:Nat→Prop} (h:rR w0 A (L1++H::L2) w U):rR w0 A (H::(L1++L2)) w U:=by
 induction L1 generalizing U with
 | nil=>exact h
 | cons X L1 ih=>exact rR.swap (rR.under (λ U h=>ih h) h)
theorem St.pull {w0:World} {A:Nat→Prop} {w:World} (L1:List HP) {H:HP} {L2:List HP} (h:St w0 A (L1++H::L2) w):St w0 A (H::(L1++L2)) w:=by
 obtain ⟨U,hU⟩:=h.sP
 exact ⟨h.aF,U,hU.pull⟩
theorem St.p1 {w0:World} {A:Nat→Prop} {w:World} {P0 H:HP} {R:List HP} (h:St w0 A (P0::H::R) w):St w0 A (H::P0::R) w:=St.pull [P0] h
theorem St.p2 {w0:World} {A:Nat→Prop} {w:World} {P0 P1 H:HP} {R:List HP} (h:St w0 A (P0::P1::H::R) w):St w0 A (H::P0::P1::R) w:=St.pull [P0,P1] h
theorem St.p3 {w0:World} {A:Nat→Prop} {w:World} {P0 P1 P2 H:HP} {R:List HP} (h:St w0 A (P0::P1::P2::H::R) w):St w0 A (H::P0::P1::P2::R) w:=St.pull [P0,P1,P2] h
theorem St.p4 {w0:World} {A:Nat→Prop} {w:World} {P0 P1 P2 P3 H:HP} {R:List HP} (h:St w0 A (P0::P1::P2::P3::H::R) w):St w0 A (H::P0::P1::P2::P3::R) w:=St.pull [P0,P1,P2,P3] h
theorem St.p5 {w0:World} {A:Nat→Prop} {w:World} {P0 P1 P2 P3 P4 H:HP} {R:List HP} (h:St w0 A (P0::P1::P2::P3::P4::H::R) w):St w0 A (H::P0::P1::P2::P3::P4::R) w:=St.pull [P0,P1,P2,P3,P4] h
theorem St.p6 {w0:World} {A:Nat→Prop} {w:World} {P0 P1 P2 P3 P4 P5 H:HP} {R:List HP} (h:St w0 A (P0::P1::P2::P3::P4::P5::H::R) w):St w0 A (H::P0::P1::P2::P3::P4::P5::R) w:=St.pull [P0,P1,P2,P3,P4,P5] h
theorem St.p7 {w0:World} {A:Nat→Prop} {w:World} {P0 P1 P2 P3 P4 P5 P6 H:HP} {R:List HP} (h:St w0 A (P0::P1::P2::P3::P4::P5::P6::H::R) w):St w0 A (H::P0::P1::P2::P3::P4::P5::P6::R) w:=St.pull [P0,P1,P2,P3,P4,P5,P6] h
theorem St.p8 {w0:World} {A:Nat→Prop} {w:World} {P0 P1 P2 P3 P4 P5 P6 P7 H:HP} {R:List HP} (h:St w0 A (P0::P1::P2::P3::P4::P5::P6::P7::H::R) w):St w0 A (H::P0::P1::P2::P3::P4::P5::P6::P7::R) w:=St.pull [P0,P1,P2,P3,P4,P5,P6,P7] h
theorem St.p9 {w0:World} {A:Nat→Prop} {w:World} {P0 P1 P2 P3 P4 P5 P6 P7 P8 H:HP} {R:List HP} (h:St w0 A (P0::P1::P2::P3::P4::P5::P6::P7::P8::H::R) w):St w0 A (H::P0::P1::P2::P3::P4::P5::P6::P7::P8::R) w:=St.pull [P0,P1,P2,P3,P4,P5,P6,P7,P8] h
theorem St.qI {w0:World} {A:Nat→Prop} {w:World} {P0 P1 P2 P3 P4 P5 P6 P7 P8 P9 H:HP} {R:List HP} (h:St w0 A (P0::P1::P2::P3::P4::P5::P6::P7::P8::P9::H::R) w):St w0 A (H::P0::P1::P2::P3::P4::P5::P6::P7::P8::P9::R) w:=St.pull [P0,P1,P2,P3,P4,P5,P6,P7,P8,P9] h
theorem St.p11 {w0:World} {A:Nat→Prop} {w:World} {P0 P1 P2 P3 P4 P5 P6 P7 P8 P9 Ti H:HP} {R:List HP} (h:St w0 A (P0::P1::P2::P3::P4::P5::P6::P7::P8::P9::Ti::H::R) w):St w0 A (H::P0::P1::P2::P3::P4::P5::P6::P7::P8::P9::Ti::R) w:=St.pull [P0,P1,P2,P3,P4,P5,P6,P7,P8,P9,Ti] h
theorem St.p12 {w0:World} {A:Nat→Prop} {w:World} {P0 P1 P2 P3 P4 P5 P6 P7 P8 P9 Ti YV H:HP} {R:List HP} (h:St w0 A (P0::P1::P2::P3::P4::P5::P6::P7::P8::P9::Ti::YV::H::R) w):St w0 A (H::P0::P1::P2::P3::P4::P5::P6::P7::P8::P9::Ti::YV::R) w:=St.pull [P0,P1,P2,P3,P4,P5,P6,P7,P8,P9,Ti,YV] h
theorem St.p13 {w0:World} {A:Nat→Prop} {w:World} {P0 P1 P2 P3 P4 P5 P6 P7 P8 P9 Ti YV P12 H:HP} {R:List HP} (h:St w0 A (P0::P1::P2::P3::P4::P5::P6::P7::P8::P9::Ti::YV::P12::H::R) w):St w0 A (H::P0::P1::P2::P3::P4::P5::P6::P7::P8::P9::Ti::YV::P12::R) w:=St.pull [P0,P1,P2,P3,P4,P5,P6,P7,P8,P9,Ti,YV,P12] h
theorem St.p0 {w0:World} {A:Nat→Prop} {w:World} {L:List HP} (h:St w0 A L w):St w0 A L w:=h
theorem St.head {w0:World} {A:Nat→Prop} {L:List HP} {w:World} {H:HP} (h:St w0 A (H::L) w):∃ F,H.p w F∧∀ b,F b→A b∨w0.heap.size≤b:=by
 obtain ⟨U,F,U',h1,h2,_⟩:=h.sP; exact ⟨F,h1,h2⟩
theorem St.hb {w0:World} {A:Nat→Prop} {L:List HP} {w:World} {b:Nat} {cs:List Value} (h:St w0 A (cE b cs::L) w):tH w b cs:=by
 obtain ⟨F,h1,_⟩:=h.head; exact h1.1
def rT:Value→Bool
 | .agg _=>false
 | .tuple _=>false
 | _=>true
def cP (P:Program) (T:TypeId):Option (Bool × Nat):=
 match P.underlying T with
 | some d=>(P.info? T).map λ i=>(match d with | .struct _ | .array _ _=>true | _=>false,i.size)
 | none=>none
def aS (P:Program) (T f:Nat):Option (Nat × Option Bool):=
 match P.underlying T with
 | some (.struct fs)=>(fs[f]?).map λ fd=>(fd.offset,(P.info? fd.type).map λ i=>i.size != 0)
 | _=>none
def fb (P:Program) (T:TypeId):Option (TypeId × Nat × Nat × Option Nat):=
 match P.underlying T with
 | some (.slice E)=>(P.info? E).map λ i=>(E,i.size,i.bytes,i.zero.map λ z=>z.cells.size)
 | _=>none
def en (P:Program) (T:TypeId):Option (Option Value):=(P.info? T).map λ i=>i.zero
abbrev abk (P:Program) (T:TypeId):Prop:=cP P T=some (false,1)
abbrev abl (P:Program) (T:TypeId) (n:Nat):Prop:=cP P T=some (true,n)
abbrev Dr (P:Program) (T f off:Nat):Prop:=aS P T f=some (off,some true)
abbrev SlT (P:Program) (T E n bytes:Nat):Prop:=fb P T=some (E,n,bytes,some n)
abbrev qj (P:Program) (T:TypeId) (z:Value):Prop:=en P T=some (some z)
theorem nz {P:Program} {T:TypeId} {i:TypeInfo} (h:P.info? T=some i):pr P (typeInfo T)=some i:=by
 show pr P (match P.info? T with | some i => pure i | none => stuck "no such type") = _
 rw [h]; rfl
theorem cL {P:Program} {T:TypeId} {d:TypeDesc} (h:P.underlying T=some d):pr P (underlying T)=some d:=by
 show pr P (match P.underlying T with | some d => pure d | none => stuck "no such type") = _
 rw [h]; rfl
theorem oL {P:Program} {T:TypeId} {i:TypeInfo} (h:P.info? T=some i):pr P (sizeOf T)=some i.size:=by
 unfold sizeOf; rw [cM,nz h]; rfl
theorem wY {P:Program} {α β:Type} (m:Sem α) (f:α→β):pr P (do pure (f (← m)))=(pr P m).map f:=by
 rw [cM]; cases pr P m <;> rfl
theorem jF {P:Program} {T:TypeId} {a:Bool} {n:Nat} (h:cP P T=some (a,n)):pr P (isAgg T)=some a∧pr P (sizeOf T)=some n:=by
 unfold cP at h
 cases hd:P.underlying T with
 | none=>rw [hd] at h; cases h
 | some d=>
  rw [hd] at h
  cases hi:P.info? T with
  | none=>rw [hi] at h; cases h
  | some i=>
   rw [hi] at h
   simp only [Option.map_some,Option.some.injEq,Prod.mk.injEq] at h
   obtain ⟨h1,h2⟩:=h
   refine ⟨?_,by rw [oL hi,h2]⟩
   unfold isAgg
   rw [cM,cL hd]
   show pr P (match d with | .struct _ | .array _ _=>pure true | _=>pure false)=_
   rw [← h1]
   cases d <;> rfl
theorem gr {P:Program} {T E n oz:Nat} {z:Option Nat} (h:fb P T=some (E,n,oz,z)) :
  P.underlying T=some (.slice E)∧∃ i,P.info? E=some i∧i.size=n∧i.bytes=oz∧i.zero.map (λ z=>z.cells.size)=z:=by
 unfold fb at h
 split at h
 ·rename_i E' hE
  cases hi:P.info? E' with
  | none=>rw [hi] at h; cases h
  | some i=>
   rw [hi] at h
   simp only [Option.map_some,Option.some.injEq,Prod.mk.injEq] at h
   obtain ⟨rfl,h2,h3,h4⟩:=h
   exact ⟨hE,i,hi,h2,h3,h4⟩
 ·cases h
section
variable {P:Program} {w:World}
theorem pop {m:Sem Value} {v:Value} {K:Value→Prop} (h:pr P m=some v) (k:K v):cW P m K:=⟨v,h,k⟩
theorem aE {a:Addr} {K:Value→Prop} (k:K (.pointer (some a))):cW P (Ry (.pointer (some a))) K:=⟨_,rfl,k⟩
theorem cB {b:Bool} {K:Value→Prop} (k:K (.bool (!b))):cW P (Op.unary .not (.bool b)) K:=⟨_,rfl,k⟩
theorem Ds {p:Prop} [Decidable p] {K:Value→Prop} (k:K (.bool (decide (¬ p)))):cW P (Op.unary .not (.bool (decide p))) K:=by
 refine cB ?_
 by_cases h:p <;> simp_all
theorem bE {vs:List Value} {i:Nat} {v:Value} {K:Value→Prop} (h:vs[i]? = some v) (k:K v):cW P (Instr.extract (.tuple vs.toArray) i) K:=
 ⟨v,by simp only [Instr.extract,List.getElem?_toArray,h]; rfl,k⟩
theorem aR {T:Nat} {cx cy:Bool} {a b:Int} {K:Value→Prop} (k:K (.bool (decide (a<b)))):cW P (iI .lss T cx cy (.int .i64 a) (.int .i64 b)) K:=⟨_,rfl,k⟩
theorem j7 {T:Nat} {cx cy:Bool} {a b:Int} {K:Value→Prop} (k:K (.bool (decide (a≤b)))):cW P (iI .leq T cx cy (.int .i64 a) (.int .i64 b)) K:=⟨_,rfl,k⟩
theorem dB {T:Nat} {cx cy:Bool} {a b:Int} {K:Value→Prop} (k:K (.bool (decide (b<a)))):cW P (iI .gtr T cx cy (.int .i64 a) (.int .i64 b)) K:=⟨_,rfl,k⟩
theorem dF {T:Nat} {cx cy:Bool} {a b:Int} {K:Value→Prop} (k:K (.bool (decide (b≤a)))):cW P (iI .geq T cx cy (.int .i64 a) (.int .i64 b)) K:=⟨_,rfl,k⟩
theorem aH {T:Nat} {cx cy:Bool} {a b:Int} {K:Value→Prop} (k:K (.bool (decide (a=b)))):cW P (iI .eql T cx cy (.int .i64 a) (.int .i64 b)) K:=⟨_,rfl,k⟩
theorem cQ {T:Nat} {cx cy:Bool} {a b:Int} {K:Value→Prop} (k:K (.bool (decide (a≠b)))):cW P (iI .neq T cx cy (.int .i64 a) (.int .i64 b)) K:=
 ⟨_,(show pr P (iI .neq T cx cy (.int .i64 a) (.int .i64 b))=some (.bool (decide (a≠b))) from by
  show some (Value.bool (a != b))=_
  congr 2
  by_cases h:a=b <;> simp [h]),k⟩
theorem aO {T:Nat} {cx cy:Bool} {a b:Int} {K:Value→Prop} (h : -9223372036854775808≤a+b∧a+b≤9223372036854775807) (k:K (.int .i64 (a+b))) :
  cW P (iI .add T cx cy (.int .i64 a) (.int .i64 b)) K:=
 ⟨_,(show pr P (iI .add T cx cy (.int .i64 a) (.int .i64 b))=some (.int .i64 (a+b)) from by
  show some (Value.int .i64 (IntKind.i64.wrap (a+b)))=_
  rw [IntWalk.i64_in _ h]),k⟩
theorem gA {T:Nat} {cx cy:Bool} {a b:Int} {K:Value→Prop} (h : -9223372036854775808≤a - b∧a - b≤9223372036854775807) (k:K (.int .i64 (a - b))) :
  cW P (iI .sub T cx cy (.int .i64 a) (.int .i64 b)) K:=
 ⟨_,(show pr P (iI .sub T cx cy (.int .i64 a) (.int .i64 b))=some (.int .i64 (a - b)) from by
  show some (Value.int .i64 (IntKind.i64.wrap (a - b)))=_
  rw [IntWalk.i64_in _ h]),k⟩
theorem PE {T:Nat} {cx cy:Bool} {a b:Int} {K:Value→Prop} (h : -9223372036854775808≤a * b∧a * b≤9223372036854775807) (k:K (.int .i64 (a * b))) :
  cW P (iI .mul T cx cy (.int .i64 a) (.int .i64 b)) K:=
 ⟨_,(show pr P (iI .mul T cx cy (.int .i64 a) (.int .i64 b))=some (.int .i64 (a * b)) from by
  show some (Value.int .i64 (IntKind.i64.wrap (a * b)))=_
  rw [IntWalk.i64_in _ h]),k⟩
theorem aC {p:Prop} [Decidable p] {A B:Prop} (h1:p→A) (h2:¬ p→B):xR (.bool (decide p)) A B:=
 ⟨_,rfl,λ h=>h1 (of_decide_eq_true h),λ h=>h2 (of_decide_eq_false h)⟩
theorem nQ {A B:Prop} (h:A):xR (.bool true) A B:=⟨_,rfl,λ _=>h,λ h=>by cases h⟩
theorem fP {A B:Prop} (h:B):xR (.bool false) A B:=⟨_,rfl,λ h=>(by cases h),λ _=>h⟩
theorem aX {b:Bool} {A B:Prop} (h1:b=true→A) (h2:b=false→B):xR (.bool b) A B:=⟨_,rfl,h1,h2⟩
theorem gx {α:Type} (l:List α) {i:Nat} (h:i<l.length):∃ x,l[i]? = some x:=⟨_,List.getElem?_eq_getElem h⟩
theorem eI {a b:Nat} (h:Nat.ble a b=true):a≤b:=Nat.le_of_ble_eq_true h
theorem eD {f:FuncId} {args:List Value} {Φ K:Value→World→Prop} (pl:Plain P f) (h:Calls P f args.toArray w (pU Φ)) (k:∀ v w',Φ v w'→K v w') :
  Dg P f args w K:=⟨pl,h.mono λ _ _ r=>r.mono k⟩
theorem gd {g:FuncId} {args first cap:List Value} {Φ K:Value→World→Prop} (pl:Plain P g) (h:Calls P g (first++args++cap).toArray w (pU Φ)) (k:∀ v w',Φ v w'→K v w') :
  fZ P (.func (.func g) first.toArray cap.toArray) args w K:=⟨.inl ⟨g,_,_,rfl,pl,by simpa using h.mono λ _ _ r=>r.mono k⟩⟩
variable {w0:World} {A:Nat→Prop} {L:List HP}
theorem run_load (a:Addr) (v:Value) (h:w.cell? a=some v):(load a).run P w = .ok v w:=by
 unfold load
 simp only [Sem.run,h]
theorem gN (b o j:Nat):(Addr.mk b o none).add j=⟨b,o+j,none⟩:=by
 unfold Addr.add; split
 ·rename_i h; subst h; rfl
 ·rfl
theorem run_loadCellsFrom (b o:Nat):∀ (n i:Nat) (acc:Array Value) (cs:List Value),cs.length=n→(∀ j c,cs[j]? = some c→Cell w b (o+i+j) c)→
  (loadCellsFrom ⟨b,o,none⟩ i n acc).run P w = .ok (acc++cs.toArray) w:=by
 intro n
 induction n with
 | zero=>intro i acc cs hl _; obtain rfl:=List.length_eq_zero_iff.1 hl; simp [loadCellsFrom]
 | succ n ih=>
  intro i acc cs hl h
  match cs,hl with
  | c::cs,hl=>
   unfold loadCellsFrom
   rw [dH (run_load _ c (by rw [gN]; exact h 0 c rfl))]
   rw [ih (i+1) (acc.push c) cs (by simpa using hl) (λ j d hd=>by have:=h (j+1) d (by simpa using hd); rwa [show o+i+(j+1)=o+(i+1)+j from by omega] at this)]
   simp
theorem run_loadCells {b o:Nat} {cs:List Value} (h:∀ j c,cs[j]? = some c→Cell w b (o+j) c):(loadCells ⟨b,o,none⟩ cs.length).run P w = .ok cs.toArray w:=by
 unfold loadCells
 rw [run_loadCellsFrom b o cs.length 0 #[] cs rfl (λ j c hc=>by simpa using h j c hc)]
 simp
theorem aG {T:TypeId} {b o:Nat} {v:Value} (ht:abk P T) (h:Cell w b o v):(Instr.loadAt T (.pointer (some ⟨b,o,none⟩))).run P w = .ok v w:=by
 show (loadVar T ⟨b,o,none⟩).run P w=_
 unfold loadVar
 rw [dH (fo (jF ht).1 w)]
 exact run_load _ v h
theorem BW {T:TypeId} {b o:Nat} {cs:List Value} (ht:abl P T cs.length) (h:∀ j c,cs[j]? = some c→Cell w b (o+j) c) :
  (Instr.loadAt T (.pointer (some ⟨b,o,none⟩))).run P w = .ok (.agg cs.toArray) w:=by
 show (loadVar T ⟨b,o,none⟩).run P w=_
 unfold loadVar
 rw [dH (fo (jF ht).1 w)]
 simp only [if_true]
 rw [dH (fo (jF ht).2 w),dH (run_loadCells h)]
 rfl
theorem aB {T:TypeId} {b o:Nat} {cs:List Value} {v:Value} {K:Value→Prop} (ht:abk P T) (hb:tH w b cs) (hc:cs[o]? = some v) (k:K v) :
  Df P (Instr.loadAt T (.pointer (some ⟨b,o,none⟩))) w K:=⟨v,aG ht (hb.cell hc),k⟩
theorem qV {T:TypeId} {b n:Nat} {cs:List Value} {K:Value→Prop} (ht:abl P T n) (hb:tH w b cs) (hn:cs.length=n) (k:K (.agg cs.toArray)) :
  Df P (Instr.loadAt T (.pointer (some ⟨b,0,none⟩))) w K:=by
 subst hn
 exact ⟨_,BW ht λ j c hc=>by rw [Nat.zero_add]; exact hb.cell hc,k⟩
theorem M0 {T f off b o:Nat} (ht:Dr P T f off):pr P (Instr.fieldAt T (.pointer (some ⟨b,o,none⟩)) f)=some (.pointer (some ⟨b,o+off,none⟩)):=by
 unfold Dr aS at ht
 split at ht
 ·rename_i fs hfs
  cases hf:fs[f]? with
  | none=>rw [hf] at ht; cases ht
  | some fd=>
   rw [hf] at ht
   simp only [Option.map_some,Option.some.injEq,Prod.mk.injEq] at ht
   obtain ⟨ho,hz⟩:=ht
   cases hi:P.info? fd.type with
   | none=>rw [hi] at hz; cases hz
   | some i=>
    rw [hi] at hz
    have hz':i.size≠0:=by simpa using hz
    unfold Instr.fieldAt
    rw [cM,cL hfs]
    simp only [Option.bind_some,hf]
    show pr P (do pure (Value.pointer (some (← fieldPlace ⟨b,o,none⟩ fd))))=_
    rw [wY]
    unfold fieldPlace
    rw [cM,oL hi]
    simp only [Option.bind_some,if_neg hz',gN,ho]
    rfl
 ·cases ht
theorem aA {T f off b o:Nat} {K:Value→Prop} (ht:Dr P T f off) (k:K (.pointer (some ⟨b,o+off,none⟩))) :
  cW P (Instr.fieldAt T (.pointer (some ⟨b,o,none⟩)) f) K:=⟨_,M0 ht,k⟩
theorem HW (T:TypeId) (v:Value):(Instr.box T v).run P w = .ok (.pointer (some ⟨w.heap.size,0,none⟩)) (push w (.cells v.cells T)):=rfl
theorem St.push {T:TypeId} {cs:List Value} (hs:St w0 A L w):St w0 A (cE w.heap.size cs::L) (push w (.cells cs.toArray T)):=
 hs.new (Ext.push _ _) (F:=λ k=>k=w.heap.size) ⟨tH.push w cs T,λ _=>Iff.rfl⟩ λ b hb=>by rw [hb]; exact Nat.le_refl _
theorem tI {T:TypeId} {v:Value} {K:Value→World→Prop} (hs:St w0 A L w) (hv:rT v=true)
  (k:∀ b w',St w0 A (cE b [v]::L) w'→K (.pointer (some ⟨b,0,none⟩)) w'):gU P (Instr.box T v) w K:=by
 refine ⟨_,_,HW T v,k _ _ ?_⟩
 have:v.cells=[v].toArray:=by cases v <;> first | rfl | cases hv
 rw [this]
 exact hs.push
theorem l5 {T:TypeId} {cs:List Value} {K:Value→World→Prop} (hs:St w0 A L w)
  (k:∀ b w',St w0 A (cE b cs::L) w'→K (.pointer (some ⟨b,0,none⟩)) w'):gU P (Instr.box T (.agg cs.toArray)) w K:=
 ⟨_,_,HW T _,k _ _ hs.push⟩
theorem yr {T:TypeId} {z:Value} {K:Value→World→Prop} (hs:St w0 A L w) (hz:qj P T z) (hv:rT z=true)
  (k:∀ b w',St w0 A (cE b [z]::L) w'→K (.pointer (some ⟨b,0,none⟩)) w'):gU P (Instr.alloc T true (.tuple #[])) w K:=by
 unfold qj en at hz
 cases hi:P.info? T with
 | none=>rw [hi] at hz; cases hz
 | some i=>
  rw [hi] at hz
  simp only [Option.map_some,Option.some.injEq] at hz
  have h1:pr P (zeroValue T)=some z:=by unfold zeroValue; rw [cM,nz hi]; simp only [Option.bind_some,hz]; rfl
  refine ⟨_,push w (.cells [z].toArray T),?_,k _ _ (hs.push (T:=T))⟩
  unfold Instr.alloc
  rw [dH (fo h1 w)]
  have:z.cells=[z].toArray:=by cases z <;> first | rfl | cases hv
  show (do pure (Value.pointer (some (← newVar T z))):Sem Value).run P w=_
  unfold newVar
  rw [this]
  rfl
theorem aN {T:TypeId} {cs:List Value} {K:Value→World→Prop} (hs:St w0 A L w) (hz:qj P T (.agg cs.toArray))
  (k:∀ b w',St w0 A (cE b cs::L) w'→K (.pointer (some ⟨b,0,none⟩)) w'):gU P (Instr.alloc T true (.tuple #[])) w K:=by
 unfold qj en at hz
 cases hi:P.info? T with
 | none=>rw [hi] at hz; cases hz
 | some i=>
  rw [hi] at hz
  simp only [Option.map_some,Option.some.injEq] at hz
  have h1:pr P (zeroValue T)=some (.agg cs.toArray):=by unfold zeroValue; rw [cM,nz hi]; simp only [Option.bind_some,hz]; rfl
  refine ⟨_,push w (.cells cs.toArray T),?_,k _ _ (hs.push (T:=T))⟩
  unfold Instr.alloc
  rw [dH (fo h1 w)]
  rfl
theorem run_store {b o:Nat} {cs:List Value} {v:Value} (hb:tH w b cs) (ho:o<cs.length) (hv:rT v=true) :
  (store ⟨b,o,none⟩ v).run P w = .ok () (w.setCell ⟨b,o,none⟩ v):=by
 have h1:w.cell? ⟨b,o,none⟩=some cs[o]:=hb.cell (by simp [ho])
 have h2:=hb.frozen (o:=o)
 unfold store
 cases v <;> first | cases hv | skip
 all_goals
  simp only [Sem.run,h1,h2]
  rfl
theorem J7 {b o:Nat} {cs:List Value} {v:Value} (hs:St w0 A (cE b cs::L) w):St w0 A (cE b (cs.set o v)::L) (w.setCell ⟨b,o,none⟩ v):=
 hs.rS λ F hF=>⟨F,⟨hF.1.setCell v,hF.2⟩,λ _ h=>.inl h,(ix.setCell w b o v).mono λ k hk=>(hF.2 k).2 hk⟩
theorem aV {T:TypeId} {b o:Nat} {cs:List Value} {v:Value} {K:World→Prop} (hs:St w0 A (cE b cs::L) w) (ht:abk P T) (ho:o<cs.length) (hv:rT v=true)
  (k:∀ w',St w0 A (cE b (cs.set o v)::L) w'→K w'):A0 P (Instr.storeAt T (.pointer (some ⟨b,o,none⟩)) v) w K:=by
 refine ⟨_,?_,k _ (J7 hs)⟩
 show (storeVar T ⟨b,o,none⟩ v).run P w=_
 have hc:v.cells = #[v]:=by cases v <;> first | rfl | cases hv
 unfold storeVar
 rw [dH (fo (jF ht).2 w),hc]
 simp only [List.size_toArray,List.length_cons,List.length_nil,Nat.zero_add,ne_eq,not_true_eq_false,if_false]
 show (storeCells ⟨b,o,none⟩ [v]).run P w=_
 unfold storeCells
 rw [gN,Nat.add_zero,dH (run_store hs.hb ho hv)]
 rfl
def gV:List Value→Nat→List Value→List Value
 | cs,_,[]=>cs
 | cs,o,v::r=>gV (cs.set o v) (o+1) r
theorem Dt {b o:Nat}:∀ (vs:List Value) (i:Nat) (cs:List Value) (w:World),St w0 A (cE b cs::L) w→o+i+vs.length≤cs.length→(∀ v∈vs,rT v=true)→
  ∃ w',(storeCells ⟨b,o,none⟩ vs i).run P w = .ok () w'∧St w0 A (cE b (gV cs (o+i) vs)::L) w':=by
 intro vs
 induction vs with
 | nil=>intro i cs w hs _ _; exact ⟨w,rfl,hs⟩
 | cons v r ih=>
  intro i cs w hs hl hv
  have hl':o+i+(r.length+1)≤cs.length:=by simpa using hl
  have h1:=run_store (P:=P) hs.hb (o:=o+i) (v:=v) (by omega) (hv v (by simp))
  obtain ⟨w',h2,h3⟩:=ih (i+1) (cs.set (o+i) v) _ (J7 hs) (by simp; omega) (λ x hx=>hv x (by simp [hx]))
  refine ⟨w',?_,by rw [show o+(i+1)=o+i+1 from by omega] at h3; exact h3⟩
  show (do store ((Addr.mk b o none).add i) v; storeCells ⟨b,o,none⟩ r (i+1):Sem Unit).run P w=_
  rw [gN,dH h1,h2]
theorem pq {T:TypeId} {b o n:Nat} {cs vs:List Value} {K:World→Prop} (hs:St w0 A (cE b cs::L) w) (ht:abl P T n) (hn:vs.length=n) (ho:o+n≤cs.length) (hv:∀ v∈vs,rT v=true)
  (k:∀ w',St w0 A (cE b (gV cs o vs)::L) w'→K w'):A0 P (Instr.storeAt T (.pointer (some ⟨b,o,none⟩)) (.agg vs.toArray)) w K:=by
 subst hn
 obtain ⟨w',h1,h2⟩:=Dt (P:=P) (o:=o) vs 0 cs w hs (by omega) hv
 refine ⟨w',?_,k w' h2⟩
 show (storeVar T ⟨b,o,none⟩ (.agg vs.toArray)).run P w=_
 unfold storeVar
 rw [dH (fo (jF ht).2 w)]
 simp only [Value.cells,List.size_toArray,ne_eq,not_true_eq_false,if_false]
 exact h1
end
class Flat (α:Type) where
 agg:Bool
 sz:Nat
 enc:α→List Value
 val:α→Value
 pos:0<sz
 len:∀ a,(enc a).length=sz
 one:∀ a v,v∈enc a→rT v=true
 nR:agg=true→∀ a,val a = .agg (enc a).toArray
 oB:agg=false→∀ a,enc a=[val a]
instance:Flat Int where
 agg:=false
 sz:=1
 enc n:=[.int .i64 n]
 val n:=.int .i64 n
 pos:=by decide
 len _:=rfl
 one a v h:=by rw [List.mem_singleton.1 h]; rfl
 nR h:=by cases h
 oB _ _:=rfl
instance:Flat Bool where
 agg:=false
 sz:=1
 enc n:=[.bool n]
 val n:=.bool n
 pos:=by decide
 len _:=rfl
 one a v h:=by rw [List.mem_singleton.1 h]; rfl
 nR h:=by cases h
 oB _ _:=rfl
instance:Flat ByteArray where
 agg:=false
 sz:=1
 enc n:=[.string n]
 val n:=.string n
 pos:=by decide
 len _:=rfl
 one a v h:=by rw [List.mem_singleton.1 h]; rfl
 nR h:=by cases h
 oB _ _:=rfl
section
variable {α:Type} [Flat α]
def flat (xs:List α):List Value:=xs.flatMap Flat.enc
theorem ki:flat ([]:List α)=[]:=rfl
theorem ja (x:α) (xs:List α):flat (x::xs)=Flat.enc x++flat xs:=by simp [flat]
theorem il (xs ys:List α):flat (xs++ys)=flat xs++flat ys:=by simp [flat]
theorem cR (xs:List α):(flat xs).length=xs.length * Flat.sz α:=by
 induction xs with
 | nil=>simp [ki]
 | cons x xs ih=>rw [ja,List.length_append,ih,Flat.len,List.length_cons,Nat.succ_mul]; omega
theorem zu {xs:List α}:∀ v∈flat xs,rT v=true:=by
 intro v hv
 obtain ⟨x,_,hx⟩:=List.mem_flatMap.1 hv
 exact Flat.one x v hx
theorem tJ {xs:List α} {i j:Nat} {x:α} {c:Value} (hx:xs[i]? = some x) (hc:(Flat.enc x)[j]? = some c):(flat xs)[i * Flat.sz α+j]? = some c:=by
 induction xs generalizing i with
 | nil=>simp at hx
 | cons y ys ih=>
  rw [ja]
  cases i with
  | zero=>
   simp at hx; subst hx
   have hj:j<(Flat.enc y).length:=(List.getElem?_eq_some_iff.1 hc).1
   rw [Nat.zero_mul,Nat.zero_add,List.getElem?_append_left hj]; exact hc
  | succ i=>
   have:=ih (by simpa using hx)
   rw [List.getElem?_append_right (by rw [Flat.len,Nat.succ_mul]; omega),Flat.len]
   rw [show (i+1) * Flat.sz α+j - Flat.sz α=i * Flat.sz α+j from by rw [Nat.succ_mul]; omega]
   exact this
theorem RK (xs:List α) (n:Nat):flat (xs.take n)=(flat xs).take (n * Flat.sz α):=by
 induction xs generalizing n with
 | nil=>simp [ki]
 | cons x xs ih=>
  cases n with
  | zero=>simp [ki]
  | succ n=>
   rw [List.take_succ_cons,ja,ja,ih,List.take_append,Flat.len]
   have h1:(n+1) * Flat.sz α - Flat.sz α=n * Flat.sz α:=by rw [Nat.succ_mul]; omega
   rw [h1,List.take_of_length_le (i:=(n+1) * Flat.sz α) (l:=Flat.enc x) (by rw [Flat.len,Nat.succ_mul]; omega)]
theorem RL (xs:List α) (n:Nat):flat (xs.drop n)=(flat xs).drop (n * Flat.sz α):=by
 induction xs generalizing n with
 | nil=>simp [ki]
 | cons x xs ih=>
  cases n with
  | zero=>simp
  | succ n=>
   rw [List.drop_succ_cons,ja,ih,List.drop_append,Flat.len]
   have h1:(n+1) * Flat.sz α - Flat.sz α=n * Flat.sz α:=by rw [Nat.succ_mul]; omega
   rw [h1,List.drop_of_length_le (i:=(n+1) * Flat.sz α) (l:=Flat.enc x) (by rw [Flat.len,Nat.succ_mul]; omega),List.nil_append]
def At (S:Nat→Prop) (w:World) (p:Value) (x:α):Prop:=
 ∃ b o,p = .pointer (some ⟨b,o,none⟩)∧S b∧∀ j c,(Flat.enc x)[j]? = some c→Cell w b (o+j) c
def eJ (S:Nat→Prop) (w:World) (v:Value) (xs:List α):Prop:=
 ∃ a cap,v = .slice a xs.length cap∧xs.length≤cap∧((xs=[]∧cap=0)∨∃ b o,a=some ⟨b,o,none⟩∧(xs≠[]→S b)∧∀ j c,(flat xs)[j]? = some c→Cell w b (o+j) c)
def bK (v:Value) (xs:List α):HP where
 p w F:=(v = .slice none 0 0∧xs=[]∧∀ b,¬ F b)∨
  ∃ b cap rest,v = .slice (some ⟨b,0,none⟩) xs.length cap∧tH w b (flat xs++rest)∧(flat xs++rest).length=cap * Flat.sz α∧∀ k,F k↔k=b
 loc w w' F h hh:=by
  rcases h with h | ⟨b,cap,rest,h1,h2,h3,h4⟩
  ·exact .inl h
  ·exact .inr ⟨b,cap,rest,h1,h2.of_eq (hh b ((h4 b).2 rfl)),h3,h4⟩
 lt w F b h hb:=by
  rcases h with h | ⟨b',cap,rest,h1,h2,h3,h4⟩
  ·exact (h.2.2 b hb).elim
  ·rw [(h4 b).1 hb]; exact h2.lt
variable {P:Program} {w w0:World} {A S:Nat→Prop} {L:List HP} {xs ys:List α}
theorem At.aF {A:Nat→Prop} {w w':World} {p:Value} {x:α} (h:At S w p x) (hc:ix A w w') (hd:∀ b,S b→¬ A b):At S w' p x:=by
 obtain ⟨b,o,h1,h2,h3⟩:=h; exact ⟨b,o,h1,h2,λ j c hj=>(h3 j c hj).aF hc (hd b h2)⟩
theorem At.ext {w w':World} {p:Value} {x:α} (h:At S w p x) (hc:Ext w w'):At S w' p x:=h.aF hc λ _ _ h=>h
theorem eJ.aF {A:Nat→Prop} {w w':World} {v:Value} (h:eJ S w v xs) (hc:ix A w w') (hd:∀ b,S b→¬ A b):eJ S w' v xs:=by
 obtain ⟨a,cap,h1,h2,h3⟩:=h
 refine ⟨a,cap,h1,h2,?_⟩
 rcases h3 with h3 | ⟨b,o,h3,h4,h5⟩
 ·exact .inl h3
 ·exact .inr ⟨b,o,h3,h4,λ j c hj=>(h5 j c hj).aF hc (hd b (h4 λ h=>by subst h; simp [ki] at hj))⟩
theorem eJ.ext {w w':World} {v:Value} (h:eJ S w v xs) (hc:Ext w w'):eJ S w' v xs:=h.aF hc λ _ _ h=>h
theorem eJ.mono {S':Nat→Prop} {v:Value} (h:eJ S w v xs) (hd:∀ b,S b→S' b):eJ S' w v xs:=by
 obtain ⟨a,cap,h1,h2,h3⟩:=h
 exact ⟨a,cap,h1,h2,h3.imp id λ ⟨b,o,h3,h4,h5⟩=>⟨b,o,h3,λ h=>hd b (h4 h),h5⟩⟩
theorem eJ.nil (S:Nat→Prop) (w:World):eJ S w (.slice none 0 0) ([]:List α):=⟨none,0,rfl,Nat.le_refl _,.inl ⟨rfl,rfl⟩⟩
theorem bK.rd {v:Value} {F:Nat→Prop} (h:(bK v xs).p w F):eJ F w v xs:=by
 rcases h with ⟨h1,h2,h3⟩ | ⟨b,cap,rest,h1,h2,h3,h4⟩
 ·subst h1 h2; exact eJ.nil _ _
 ·refine ⟨_,cap,h1,?_,.inr ⟨b,0,rfl,λ _=>(h4 b).2 rfl,λ j c hj=>?_⟩⟩
  ·rw [List.length_append,cR] at h3
   exact Nat.le_of_mul_le_mul_right (show xs.length * Flat.sz α≤cap * Flat.sz α by omega) (Flat.pos (α:=α))
  ·rw [Nat.zero_add]
   exact h2.cell (by rw [List.getElem?_append_left (List.getElem?_eq_some_iff.1 hj).1]; exact hj)
theorem St.rd {v:Value} (hs:St w0 A (bK v xs::L) w):∃ S,(∀ b,S b→A b∨w0.heap.size≤b)∧eJ S w v xs:=by
 obtain ⟨F,h1,h2⟩:=hs.head; exact ⟨F,h2,bK.rd h1⟩
theorem St.fB {v:Value} (hs:St w0 A (bK v xs::L) w):eJ (λ _=>True) w v xs:=by
 obtain ⟨S,_,h⟩:=hs.rd; exact h.mono λ _ _=>trivial
theorem St.fU (hs:St w0 A L w):St w0 A (bK (.slice none 0 0) ([]:List α)::L) w:=
 hs.new (Ext.refl w) (F:=bD) (.inl ⟨rfl,rfl,λ _ h=>h⟩) λ _ h=>h.elim
theorem aD {T:TypeId} {p:Value} {x:α} {K:Value→Prop} (ht:cP P T=some (Flat.agg α,Flat.sz α)) (h:At S w p x) (k:K (Flat.val x)):Df P (Instr.loadAt T p) w K:=by
 obtain ⟨b,o,rfl,_,h3⟩:=h
 cases ha:Flat.agg α with
 | true=>
  rw [ha] at ht
  refine ⟨_,?_,k⟩
  rw [Flat.nR ha x]
  exact BW (by rw [Flat.len]; exact ht) h3
 | false=>
  rw [ha] at ht
  have h1:=Flat.oB ha x
  have lC:Flat.sz α=1:=by rw [← Flat.len x,h1]; rfl
  rw [lC] at ht
  exact ⟨_,aG ht (by have:=h3 0 (Flat.val x) (by rw [h1]; rfl); simpa using this),k⟩
theorem St.At {b:Nat} {x:α} (hs:St w0 A (Fw.cE b (Flat.enc x)::L) w):Fw.At (λ _=>True) w (.pointer (some ⟨b,0,none⟩)) x:=
 ⟨b,0,rfl,trivial,λ j c hj=>by rw [Nat.zero_add]; exact hs.hb.cell hj⟩
theorem bT {β:Type} [Flat β] {T f off:Nat} {p:Value} {x:α} (y:β) {K:Value→Prop} (ht:Dr P T f off) (h:At S w p x) (hy:(Flat.enc x)[off]? = some (Flat.val y)) (ha:Flat.agg β=false)
  (k:∀ q,At S w q y→K q):cW P (Instr.fieldAt T p f) K:=by
 obtain ⟨b,o,rfl,h2,h3⟩:=h
 refine aA ht (k _ ⟨b,o+off,rfl,h2,λ j c hj=>?_⟩)
 rw [Flat.oB ha] at hj
 cases j with
 | zero=>simp at hj; subst hj; exact h3 off _ hy
 | succ j=>simp at hj
theorem HX {T R E n oz:Nat} {z:Option Nat} {a:Option Addr} {l c:Nat} (ht:fb P T=some (E,n,oz,z)):pr P (Builtin.len_ #[T] R [Value.slice a l c].toArray)=some (.int .i64 l):=by
 show pr P (do
  match ← underlying T,Value.slice a l c with
  | .string,.string s=>pure (goInt s.size)
  | .array n _,_=>pure (goInt n)
  | .pointer arr,_=>
   let .array n _ ← underlying arr | stuck "len: pointer to array expected"
   pure (goInt n)
  | .slice _,.slice _ n _=>pure (goInt n)
  | .map _ _,.map none | .chan _ _,.chan none=>pure (goInt 0)
  | .map _ _,.map (some r)=>
   let .map entries _ ← getObj r | stuck "len: map expected"
   pure (goInt entries.size)
  | .chan _ _,.chan (some r)=>
   let .chan _ buf _ _ _ timer ← getObj r | stuck "len: channel expected"
   pure (goInt (if timer then 0 else buf.size))
  | _, _ => stuck "len: string, array, pointer to array, slice, map or channel expected") = _
 rw [cM,cL (gr ht).1]
 rfl
theorem aJ {T R E n oz:Nat} {z:Option Nat} {v:Value} {K:Value→Prop} (ht:fb P T=some (E,n,oz,z)) (h:eJ S w v xs) (k:K (.int .i64 (xs.length:Int))) :
  cW P (Builtin.len_ #[T] R [v].toArray) K:=by
 obtain ⟨a,cap,rfl,_⟩:=h
 exact ⟨_,HX ht,k⟩
theorem aQ {T E oz:Nat} {z:Option Nat} {v:Value} {i:Int} {x:α} {K:Value→Prop} (ht:fb P T=some (E,Flat.sz α,oz,z)) (h:eJ S w v xs) (h0:0≤i) (hx:xs[i.toNat]? = some x)
  (k:∀ p,At S w p x→K p):cW P (Instr.indexAt T v (.int .i64 i)) K:=by
 obtain ⟨a,cap,rfl,J8,h3⟩:=h
 have mD:i.toNat<xs.length:=(List.getElem?_eq_some_iff.1 hx).1
 rcases h3 with ⟨rfl,_⟩ | ⟨b,o,rfl,h4,h5⟩
 ·simp at hx
 ·obtain ⟨hu,inf,hi,lC,_⟩:=gr ht
  refine ⟨.pointer (some ⟨b,o+i.toNat * Flat.sz α,none⟩),?_,k _ ⟨b,_,rfl,h4 (by intro h; subst h; simp at hx),λ j c hj=>?_⟩⟩
  ·unfold Instr.indexAt
   rw [cM]
   show pr P _=_
   simp only [asIntOf]
   have e1:pr P (underlying T)=some (.slice E):=cL hu
   have e2:pr P (sizeOf E)=some (Flat.sz α):=by rw [oL hi,lC]
   simp only [cM,e1,e2,Option.bind_some,fe]
   have vl:0≤i∧i<(xs.length:Int):=⟨h0,by omega⟩
   simp only [if_pos vl,cM,e2,Option.bind_some,fe,gN]
  ·have:=h5 (i.toNat * Flat.sz α+j) c (tJ hx hj)
   rwa [show o+(i.toNat * Flat.sz α+j)=o+i.toNat * Flat.sz α+j from by omega] at this
end
section
variable {α:Type} [Flat α] {P:Program} {w w0:World} {A S:Nat→Prop} {L:List HP} {xs ys:List α}
theorem mT {y:Nat} {i:Int} {code:BoundsCode} (h0:0≤i) (h1:i≤y):pr P (Instr.sliceBound (.int .i64 i) y code)=some i.toNat:=by
 unfold Instr.sliceBound
 rw [cM]
 simp only [asIntOf,fe,Option.bind_some,if_pos (show 0≤i∧i≤(y:Int) from ⟨h0,h1⟩)]
theorem Ba {T E sz oz:Nat} {z:Option Nat} {a:Option Addr} {n cap l h:Nat} {lo hi:Option Value} (ht:fb P T=some (E,sz,oz,z))
  (hb:pr P (Instr.sliceBounds true n cap lo hi none)=some (l,h,cap)) :
  pr P (Instr.sliceAt T (.slice a n cap) lo hi none)=some (.slice (if cap=l then a else a.map (·.add (l * sz))) (h - l) (cap - l)):=by
 obtain ⟨hu,inf,MU,lC,_⟩:=gr ht
 unfold Instr.sliceAt
 rw [cM,cL hu]
 simp only [Option.bind_some]
 unfold Instr.slice
 rw [cM,cL hu]
 simp only [Option.bind_some]
 rw [cM,hb]
 simp only [Option.bind_some]
 rw [cM,oL MU,lC]
 rfl
theorem qJ {n cap l h:Nat} {lo hi:Option Value} (hl:lo=none∧l=0∨∃ i:Int,lo=some (.int .i64 i)∧0≤i∧l=i.toNat) (hh:hi=none∧h=n∨∃ i:Int,hi=some (.int .i64 i)∧0≤i∧h=i.toNat)
  (h1:l≤h) (h2:h≤cap):pr P (Instr.sliceBounds true n cap lo hi none)=some (l,h,cap):=by
 rcases hl with ⟨rfl,rfl⟩ | ⟨i,rfl,h0,rfl⟩ <;> rcases hh with ⟨rfl,rfl⟩ | ⟨i',rfl,h0',rfl⟩ <;> simp only [Instr.sliceBounds,cM,fe,Option.bind_some]
 ·rw [mT h0' (by omega)]; rfl
 ·rw [mT h0 (by omega)]; rfl
 ·rw [mT h0' (by omega)]; simp only [Option.bind_some]; rw [mT h0 (by omega)]; rfl
theorem eJ.cut {v:Value} {a:Option Addr} {n cap l h:Nat} (hv:v = .slice a n cap) (hr:eJ S w v xs) (h1:l≤h) (h2:h≤xs.length) :
  eJ S w (.slice (if cap=l then a else a.map (·.add (l * Flat.sz α))) (h - l) (cap - l)) ((xs.take h).drop l):=by
 obtain ⟨a',J9,Du,J8,h3⟩:=hr
 rw [Du] at hv
 simp only [Value.slice.injEq] at hv
 obtain ⟨rfl,hn,rfl⟩:=hv
 have hlen:((xs.take h).drop l).length=h - l:=by simp; omega
 rcases h3 with ⟨hxs,zw⟩ | ⟨b,o,rfl,h4,h5⟩
 ·subst hxs
  exact ⟨_,J9 - l,by rw [hlen],by simp,.inl ⟨by simp,by omega⟩⟩
 ·refine ⟨_,J9 - l,by rw [hlen],by rw [hlen]; omega,.inr ?_⟩
  have Ck:(xs.take h).drop l≠[]→xs≠[]:=λ hh hx=>hh (by rw [hx]; simp)
  by_cases hh:J9=l
  ·rw [if_pos hh]
   refine ⟨b,o,rfl,λ hx=>h4 (Ck hx),λ j c hj=>?_⟩
   have:((xs.take h).drop l)=[]:=by rw [← List.length_eq_zero_iff,hlen]; omega
   rw [this] at hj; simp [ki] at hj
  ·rw [if_neg hh]
   refine ⟨b,o+l * Flat.sz α,by simp [gN],λ hx=>h4 (Ck hx),λ j c hj=>?_⟩
   rw [RL,RK,List.getElem?_drop,List.getElem?_take] at hj
   split at hj
   ·have:=h5 _ c hj
    rwa [show o+(l * Flat.sz α+j)=o+l * Flat.sz α+j from by omega] at this
   ·cases hj
theorem PH {T E oz:Nat} {z:Option Nat} {v:Value} {lo hi:Option Value} {l h:Nat} {K:Value→Prop} (ht:fb P T=some (E,Flat.sz α,oz,z)) (hr:eJ S w v xs)
  (hl:lo=none∧l=0∨∃ i:Int,lo=some (.int .i64 i)∧0≤i∧l=i.toNat) (hh:hi=none∧h=xs.length∨∃ i:Int,hi=some (.int .i64 i)∧0≤i∧h=i.toNat)
  (h1:l≤h) (h2:h≤xs.length) (k:∀ v',eJ S w v' ((xs.take h).drop l)→K v'):cW P (Instr.sliceAt T v lo hi none) K:=by
 have Yq:=hr
 obtain ⟨a,cap,rfl,J8,h3⟩:=hr
 exact ⟨_,Ba ht (qJ hl hh h1 (by omega)),k _ (Yq.cut rfl h1 h2)⟩
theorem RM {T E oz:Nat} {z:Option Nat} {v:Value} {i:Int} {K:Value→Prop} (ht:fb P T=some (E,Flat.sz α,oz,z)) (hr:eJ S w v xs) (h0:0≤i) (h2:i≤xs.length)
  (k:∀ v',eJ S w v' (xs.take i.toNat)→K v'):cW P (Instr.sliceAt T v none (some (.int .i64 i)) none) K:=
 PH ht hr (.inl ⟨rfl,rfl⟩) (.inr ⟨i,rfl,h0,rfl⟩) (by omega) (by omega) λ v' h=>k v' (by simpa using h)
theorem Gu {T E oz:Nat} {z:Option Nat} {v:Value} {i:Int} {K:Value→Prop} (ht:fb P T=some (E,Flat.sz α,oz,z)) (hr:eJ S w v xs) (h0:0≤i) (h2:i≤xs.length)
  (k:∀ v',eJ S w v' (xs.drop i.toNat)→K v'):cW P (Instr.sliceAt T v (some (.int .i64 i)) none none) K:=
 PH ht hr (.inr ⟨i,rfl,h0,rfl⟩) (.inl ⟨rfl,rfl⟩) (by omega) (by omega) λ v' h=>k v' (by simpa using h)
theorem mw {b o:Nat}:∀ (vs:List Value) (i:Nat) (cs:List Value) (w:World),tH w b cs→o+i+vs.length≤cs.length→(∀ v∈vs,rT v=true)→
  ∃ w',(storeCells ⟨b,o,none⟩ vs i).run P w = .ok () w'∧tH w' b (gV cs (o+i) vs)∧ix (· = b) w w':=by
 intro vs
 induction vs with
 | nil=>intro i cs w hb _ _; exact ⟨w,rfl,hb,ix.refl _ _⟩
 | cons v r ih=>
  intro i cs w hb hl hv
  have hl':o+i+(r.length+1)≤cs.length:=by simpa using hl
  have h1:=run_store (P:=P) hb (o:=o+i) (v:=v) (by omega) (hv v (by simp))
  obtain ⟨w',h2,h3,h4⟩:=ih (i+1) (cs.set (o+i) v) _ (hb.setCell v) (by simp; omega) (λ x hx=>hv x (by simp [hx]))
  refine ⟨w',?_,by rw [show o+(i+1)=o+i+1 from by omega] at h3; exact h3,(ix.setCell w b (o+i) v).trans h4 (λ _ h=>h) (λ _ _ h=>h)⟩
  show (do store ((Addr.mk b o none).add i) v; storeCells ⟨b,o,none⟩ r (i+1):Sem Unit).run P w=_
  rw [gN,dH h1,h2]
theorem kM (pre Gv post vs:List Value) (h:Gv.length=vs.length):gV (pre++Gv++post) pre.length vs=pre++vs++post:=by
 induction vs generalizing pre Gv with
 | nil=>obtain rfl:=List.length_eq_zero_iff.1 h; simp [gV]
 | cons v r ih=>
  match Gv,h with
  | m::Gv,h=>
   have e:(pre++(m::Gv)++post).set pre.length v=(pre++[v])++Gv++post:=by simp
   simp only [gV,e]
   have:=ih (pre++[v]) Gv (by simpa using h)
   rw [show (pre++[v]).length=pre.length+1 from by simp] at this
   rw [this]; simp
theorem wZ {sz:Nat} {v:Value} (lC:sz=Flat.sz α) (h:eJ S w v ys):(Builtin.firstCells sz ys.length v).run P w = .ok (flat ys).toArray w:=by
 subst lC
 obtain ⟨a,cap,rfl,_,h3⟩:=h
 rcases h3 with ⟨rfl,_⟩ | ⟨b,o,rfl,_,h5⟩
 ·cases a with
  | none=>rfl
  | some a=>simp [Builtin.firstCells,loadCells,loadCellsFrom,ki]
 ·have:=run_loadCells (P:=P) h5
  rw [cR] at this
  exact this
theorem Bb {b o:Nat} {cs:List Value} (h:∀ j c,cs[j]? = some c→Cell w b (o+j) c):∀ j v,cs[j]? = some v→w.cell? ((⟨b,o,none⟩:Addr).add j)=some v:=λ j v hj=>by
 rw [gN]; exact h j v hj
theorem M3 {T E oz R:Nat} {v src:Value} {F:Nat→Prop} (ht:SlT P T E (Flat.sz α) oz) (hv:(bK v xs).p w F) (xD:eJ S w src ys)
  (hn:xs.length+ys.length≤1073741824) (hby:oz≤8192) :
  ∃ v' w' F',(Builtin.append_ #[T,T] R [v,src].toArray).run P w = .ok v' w'∧(bK v' (xs++ys)).p w' F'∧(∀ b,F' b→F b∨w.heap.size≤b)∧ix F w w':=by
 obtain ⟨hu,inf,hi,lC,Bc,hz⟩:=gr ht
 obtain ⟨zv,hzv,hzs⟩:∃ zv,inf.zero=some zv∧zv.cells.size=Flat.sz α:=by
  cases hzz:inf.zero with
  | none=>rw [hzz] at hz; cases hz
  | some zv=>rw [hzz] at hz; exact ⟨zv,rfl,by simpa using hz⟩
 have hmul:∀ n:Nat,n≤1073741824→n * inf.bytes≤140737488355328:=λ n h=>by
  have:=Nat.mul_le_mul h (show inf.bytes≤8192 by omega); omega
 have made:∀ (cap:Nat),cap<xs.length+ys.length→
   (bK (.slice (some ⟨w.heap.size,0,none⟩) (xs.length+ys.length) (grownCap w (xs.length+ys.length) cap E)) (xs++ys)).p
    (w.drew.alloc (.cells ((flat xs).toArray++(flat ys).toArray++Builtin.zeroCells zv.cells (grownCap w (xs.length+ys.length) cap E - (xs.length+ys.length))) E)) (λ k=>k=w.heap.size):=by
  intro cap hc
  have HY:=grownCap_ge w (xs.length+ys.length) cap E
  refine .inr ⟨w.heap.size,grownCap w (xs.length+ys.length) cap E,(Builtin.zeroCells zv.cells (grownCap w (xs.length+ys.length) cap E - (xs.length+ys.length))).toList,by simp,⟨E,?_⟩,?_,λ _=>Iff.rfl⟩
  ·have:=po w.drew (.cells ((flat xs).toArray++(flat ys).toArray++Builtin.zeroCells zv.cells (grownCap w (xs.length+ys.length) cap E - (xs.length+ys.length))) E)
   refine Eq.trans this ?_
   congr 2
   apply Array.ext'
   simp [il]
  ·have e:(Builtin.zeroCells zv.cells (grownCap w (xs.length+ys.length) cap E - (xs.length+ys.length))).toList.length=(grownCap w (xs.length+ys.length) cap E - (xs.length+ys.length)) * Flat.sz α:=by
    rw [Array.length_toList,size_zeroCells,hzs]
   rw [List.length_append,e,cR,List.length_append,← Nat.add_mul]
   congr 1
   omega
 have aod:∀ o,ix F w (w.drew.alloc o):=λ o=>⟨rfl,rfl,rfl,by simp,λ b hb _=>A9 w.drew o b hb⟩
 have rd:=xD
 obtain ⟨sa,Ub,rfl,hsc,hs3⟩:=rd
 rcases hv with ⟨rfl,rfl,hF⟩ | ⟨b,cap,rest,rfl,hb,hl,hF⟩
 ·
  simp only [List.length_nil,Nat.zero_add,List.nil_append] at *
  by_cases hm:ys=[]
  ·subst hm
   refine ⟨.slice none 0 0,w,F,?_,.inl ⟨rfl,rfl,hF⟩,λ b hb=>.inl hb,ix.refl _ _⟩
   cases sa <;> simp [Builtin.append_,run_underlying hu,sizeOf,typeInfo,hi,Builtin.lenOf,Builtin.firstCells,loadCells,loadCellsFrom]
  ·have zx:0<ys.length:=List.length_pos_iff.2 hm
   rcases hs3 with ⟨h,_⟩ | ⟨b,o,rfl,_,Yu⟩
   ·exact absurd h hm
   ·have hr:=run_append_nil (P:=P) w T R E inf zv hu hi hzv ⟨b,o,none⟩ ys.length Ub (flat ys) (by rw [cR,lC]) (Bb Yu) zx (by omega) (by have:=hmul ys.length hn; omega)
    refine ⟨_,_,λ k=>k=w.heap.size,hr,?_,λ k hk=>.inr (by rw [hk]; exact Nat.le_refl _),aod _⟩
    have:=made 0 zx
    simpa [ki] using this
 ·have J8:xs.length≤cap:=by
   rw [List.length_append,cR] at hl
   exact Nat.le_of_mul_le_mul_right (show xs.length * Flat.sz α≤cap * Flat.sz α by omega) (Flat.pos (α:=α))
  by_cases Ka:xs.length+ys.length≤cap
  ·
   have M4:(xs.length+ys.length) * Flat.sz α≤cap * Flat.sz α:=Nat.mul_le_mul_right _ Ka
   have Bd:(flat xs).length=xs.length * Flat.sz α:=cR xs
   have vi:(flat ys).length≤rest.length:=by
    rw [List.length_append,Bd] at hl; rw [cR]; rw [Nat.add_mul] at M4; omega
   obtain ⟨w',h1,h2,h3⟩:=mw (P:=P) (o:=xs.length * Flat.sz α) (flat ys) 0 (flat xs++rest) w hb (by rw [List.length_append,Bd]; omega) zu
   have xC:gV (flat xs++rest) (xs.length * Flat.sz α+0) (flat ys)=flat (xs++ys)++rest.drop (flat ys).length:=by
    have:=kM (flat xs) (rest.take (flat ys).length) (rest.drop (flat ys).length) (flat ys) (by simp; omega)
    rw [Bd] at this
    rw [Nat.add_zero,il]
    rw [← this]
    simp
   rw [xC] at h2
   refine ⟨.slice (some ⟨b,0,none⟩) (xs.length+ys.length) cap,w',F,?_,.inr ⟨b,cap,_,by simp,h2,?_,hF⟩,λ b hb=>.inl hb,h3.mono λ k hk=>(hF k).2 hk⟩
   ·have hf:=wZ (α:=α) (P:=P) (sz:=Flat.sz α) rfl xD
    have sQ:(⟨b,0,none⟩:Addr).add (xs.length * Flat.sz α)=⟨b,xs.length * Flat.sz α,none⟩:=by rw [gN,Nat.zero_add]
    simp [Builtin.append_,run_underlying hu,sizeOf,typeInfo,hi,Builtin.lenOf,Ka,hf,lC,sQ,h1]
   ·rw [← hl,List.length_append,List.length_append,il,List.length_append,List.length_drop]; omega
  ·
   have hr:=run_append_grow (P:=P) w T R E inf zv hu hi hzv ⟨b,0,none⟩ xs.length cap (flat xs) (by rw [cR,lC])
    (Bb λ j c hj=>by rw [Nat.zero_add]; exact hb.cell (by rw [List.getElem?_append_left (List.getElem?_eq_some_iff.1 hj).1]; exact hj))
   rcases hs3 with ⟨h,_⟩ | ⟨b',o,rfl,_,Yu⟩
   ·subst h; simp at Ka; omega
   ·have hr:=hr ⟨b',o,none⟩ ys.length Ub (flat ys) (by rw [cR,lC]) (Bb Yu) (by omega) (by omega) (growslice_fits (by omega) (hmul _ hn))
    exact ⟨_,_,λ k=>k=w.heap.size,hr,made cap (by omega),λ k hk=>.inr (by rw [hk]; exact Nat.le_refl _),aod _⟩
theorem cN {T E oz R:Nat} {v src:Value} {K:Value→World→Prop} (hs:St w0 A (bK v xs::L) w) (ht:SlT P T E (Flat.sz α) oz) (xD:eJ S w src ys)
  (hn:xs.length+ys.length≤1073741824) (hby:oz≤8192) (k:∀ v' w',St w0 A (bK v' (xs++ys)::L) w'→K v' w'):gU P (Builtin.append_ #[T,T] R [v,src].toArray) w K:=by
 obtain ⟨U,F,U',h1,h2,h3,h4,h5⟩:=hs.sP
 obtain ⟨v',w',F',g1,g2,g3,g4⟩:=M3 (R:=R) ht h1 xD hn hby
 refine ⟨v',w',g1,k v' w' ?_⟩
 refine ⟨hs.aF.trans g4 (λ _ h=>h) λ b hb hf=>(h2 b hf).elim id λ hh=>by omega,λ b=>F' b∨U' b,F',U',g2,λ b hb=>?_,λ b hb hu=>?_,λ b=>Iff.rfl,?_⟩
 ·rcases g3 b hb with hf | hf
  ·exact h2 b hf
  ·exact .inr (Nat.le_trans hs.aF.size hf)
 ·rcases g3 b hb with hf | hf
  ·exact h3 b hf hu
  ·have:=h5.lt b hu; omega
 ·exact h5.loc λ b hb=>g4.cE b (h5.lt b hb) λ hf=>h3 b hf hb
end
section
variable {α:Type} [Flat α] {P:Program} {w w0:World} {A S:Nat→Prop} {L:List HP} {xs ys:List α}
theorem oM (x:α):(Flat.val x).cells=(Flat.enc x).toArray:=by
 cases h:Flat.agg α with
 | true=>rw [Flat.nR h]; rfl
 | false=>
  have h1:=Flat.oB h x
  have h2:=Flat.one x (Flat.val x) (by rw [h1]; simp)
  rw [h1]
  revert h2
  cases Flat.val x <;> simp [rT,Value.cells]
theorem M5 (cs:List Value) (o:Nat) (v:Value) (r:List Value):gV cs o (v::r)=gV (cs.set o v) (o+1) r:=rfl
theorem Kb (off:Nat):∀ (l:List Value) (k:Nat) (cs:Array Value),((l.zipIdx k).foldl (fun (cs:Array Value) q=>cs.setIfInBounds (off+q.2) q.1) cs).toList=gV cs.toList (off+k) l:=by
 intro l
 induction l with
 | nil=>intro k cs; rfl
 | cons v r ih=>
  intro k cs
  rw [List.zipIdx_cons,List.foldl_cons,ih (k+1),M5]
  simp [Nat.add_assoc]
theorem HZ (off:Nat) (l:List Value) (cs:Array Value) :
  (l.toArray.zipIdx.foldl (fun (cs:Array Value) (q:Value × Nat)=>match q with | (c,j)=>cs.setIfInBounds (off+j) c) cs).toList=gV cs.toList off l:=by
 rw [← Array.foldl_toList]
 have e:(l.toArray.zipIdx).toList=l.zipIdx 0:=by simp
 rw [e]
 exact Kb off l 0 cs
theorem RN:∀ (xs:List α) (k:Nat) (pre Gv:List Value),pre.length=k * Flat.sz α→Gv.length=xs.length * Flat.sz α→
  Instr.fill (λ i=>some (i * Flat.sz α,Flat.sz α)) (pre++Gv).toArray ((xs.zipIdx k).map λ q=>(q.2,Flat.val q.1))=some (pre++flat xs).toArray:=by
 intro xs
 induction xs with
 | nil=>intro k pre Gv _ hm; simp at hm; subst hm; simp [Instr.fill,ki]
 | cons x xs ih=>
  intro k pre Gv hp hm
  rw [List.zipIdx_cons,List.map_cons]
  unfold Instr.fill
  dsimp only
  have lC:(Flat.val x).cells.size=Flat.sz α:=by rw [oM]; simp [Flat.len]
  have hml:Gv.length=xs.length * Flat.sz α+Flat.sz α:=by rw [hm,List.length_cons,Nat.succ_mul]
  rw [if_neg (by simp only [lC,ne_eq,not_true_eq_false,decide_false,Bool.false_or,decide_eq_true_eq,List.size_toArray,List.length_append]; omega)]
  have e:((Flat.val x).cells.zipIdx.foldl (fun (cs:Array Value) (q:Value × Nat)=>match q with | (c,j)=>cs.setIfInBounds (k * Flat.sz α+j) c) (pre++Gv).toArray) =
    ((pre++Flat.enc x)++Gv.drop (Flat.sz α)).toArray:=by
   apply Array.ext'
   rw [oM,HZ]
   have h1:=kM pre (Gv.take (Flat.sz α)) (Gv.drop (Flat.sz α)) (Flat.enc x) (by simp [Flat.len]; omega)
   rw [hp] at h1
   rw [← List.take_append_drop (Flat.sz α) Gv] at *
   simpa using h1
  rw [e]
  have:=ih (k+1) (pre++Flat.enc x) (Gv.drop (Flat.sz α)) (by rw [List.length_append,hp,Flat.len,Nat.succ_mul]) (by rw [List.length_drop]; omega)
  rw [this,ja,List.append_assoc]
theorem bW {T E oz n:Nat} {parts:List (Nat × Value)} {K:Value→World→Prop} (xs:List α) (hs:St w0 A L w) (ht:SlT P T E (Flat.sz α) oz) (hn:xs.length=n)
  (hp:parts=xs.zipIdx.map λ q=>(q.2,Flat.val q.1)) (hl:xs.length * Flat.sz α≤16777216) (k:∀ v w',St w0 A (bK v xs::L) w'→K v w') :
  gU P (Instr.buildSlice T n parts.toArray) w K:=by
 subst hn
 obtain ⟨hu,inf,hi,lC,Bc,hz⟩:=gr ht
 obtain ⟨zv,hzv,hzs⟩:∃ zv,inf.zero=some zv∧zv.cells.size=Flat.sz α:=by
  cases hzz:inf.zero with
  | none=>rw [hzz] at hz; cases hz
  | some zv=>rw [hzz] at hz; exact ⟨zv,rfl,by simpa using hz⟩
 have es:pr P (sizeOf E)=some (Flat.sz α):=by rw [oL hi,lC]
 have ez:pr P (zeroValue E)=some zv:=by unfold zeroValue; rw [cM,nz hi]; simp only [Option.bind_some,hzv]; rfl
 refine ⟨.slice (some ⟨w.heap.size,0,none⟩) xs.length xs.length,push w (.cells (flat xs).toArray E),?_,k _ _ ?_⟩
 ·have key:∀ z:Array Value,Instr.fill (λ i=>some (i * Flat.sz α,Flat.sz α)) ((Array.range (xs.length * Flat.sz α)).map (z[· % z.size]!)) parts=some (flat xs).toArray:=by
   intro z
   have:=RN xs 0 [] ((Array.range (xs.length * Flat.sz α)).map (z[· % z.size]!)).toList (by simp) (by simp)
   rw [hp]
   rw [List.nil_append,List.nil_append,Array.toArray_toList] at this
   exact this
  unfold Instr.buildSlice
  rw [dH (fo (cL hu) w)]
  dsimp only
  rw [dH (fo es w),if_neg (by omega)]
  by_cases h0:xs.length * Flat.sz α=0
  ·simp only [if_pos h0]
   rw [dH (run_pure _ w),key]
   rfl
  ·simp only [if_neg h0]
   rw [dH (fo ez w),dH (run_pure _ w),key]
   rfl
 ·refine hs.new (Ext.push _ _) (F:=λ k=>k=w.heap.size) (.inr ⟨w.heap.size,xs.length,[],rfl,⟨E,?_⟩,by simp [cR],λ _=>Iff.rfl⟩) λ b hb=>by rw [hb]; exact Nat.le_refl _
  rw [List.append_nil]; exact po _ _
theorem vN (z:α) (n:Nat):(madeCells (Flat.enc z).toArray (n * Flat.sz α)).toList=flat (List.replicate n z):=by
 apply List.ext_getElem?
 intro i
 have zx:=Flat.pos (α:=α)
 by_cases hi:i<n * Flat.sz α
 ·have h1:i / Flat.sz α<n:=by rw [Nat.div_lt_iff_lt_mul zx]; exact hi
  have h2:i % Flat.sz α<(Flat.enc z).length:=by rw [Flat.len]; exact Nat.mod_lt _ zx
  have:=tJ (xs:=List.replicate n z) (i:=i / Flat.sz α) (j:=i % Flat.sz α) (x:=z) (c:=(Flat.enc z)[i % Flat.sz α]) (by simp [h1]) (by simp [h2])
  rw [Nat.div_add_mod' i (Flat.sz α)] at this
  rw [this]
  unfold madeCells
  simp [hi,Flat.len]
  rw [Flat.len] at h2
  simp [Flat.len,h2]
 ·have e1:(madeCells (Flat.enc z).toArray (n * Flat.sz α)).toList[i]? = none:=by
   rw [List.getElem?_eq_none_iff,Array.length_toList,size_madeCells]; omega
  have e2:(flat (List.replicate n z))[i]? = none:=by
   rw [List.getElem?_eq_none_iff,cR,List.length_replicate]; omega
  rw [e1,e2]
theorem vO {T E oz:Nat} {n:Int} {K:Value→World→Prop} (z:α) (hs:St w0 A L w) (ht:SlT P T E (Flat.sz α) oz) (hz:qj P E (Flat.val z)) (h0:0≤n) (h1:n≤1073741824) (hby:oz≤8192)
  (k:∀ v w',St w0 A (bK v (List.replicate n.toNat z)::L) w'→K v w'):gU P (Instr.makeSlice T (.int .i64 n) (.int .i64 n)) w K:=by
 obtain ⟨hu,inf,hi,lC,Bc,_⟩:=gr ht
 unfold qj en at hz
 rw [hi] at hz
 simp only [Option.map_some,Option.some.injEq] at hz
 have hb:(inf.bytes:Int) * n≤281474976710656:=by
  have h2:(inf.bytes:Int)≤8192:=by omega
  have h3:(inf.bytes:Int) * n≤8192 * n:=Int.mul_le_mul_of_nonneg_right h2 h0
  omega
 have hr:=run_make (P:=P) w T E inf (Flat.val z) hu hi hz .i64 .i64 n n h0 (Int.le_refl _) hb (by omega)
 rw [lC,oM] at hr
 refine ⟨_,_,hr,k _ _ ?_⟩
 refine hs.new (w':=w.alloc (.cells (madeCells (Flat.enc z).toArray (n.toNat * Flat.sz α)) E)) ⟨rfl,rfl,rfl,by simp,λ b hb _=>A9 w _ b hb⟩ (F:=λ k=>k=w.heap.size)
  (.inr ⟨w.heap.size,n.toNat,[],by simp,⟨E,?_⟩,by rw [List.append_nil,cR,List.length_replicate],λ _=>Iff.rfl⟩) λ b hb=>by rw [hb]; exact Nat.le_refl _
 rw [List.append_nil,← vN]
 have:=po w (.cells (madeCells (Flat.enc z).toArray (n.toNat * Flat.sz α)) E)
 rw [Array.toArray_toList]
 exact this
def Gw (α:Type) [Flat α] (v:Value) (i:Nat) (p:Value):Prop:=∃ b n c,v = .slice (some ⟨b,0,none⟩) n c∧p = .pointer (some ⟨b,i * Flat.sz α,none⟩)
theorem dR {T E oz:Nat} {z:Option Nat} {v:Value} {i:Int} {K:Value→Prop} (hs:St w0 A (bK v xs::L) w) (ht:fb P T=some (E,Flat.sz α,oz,z)) (h0:0≤i) (h1:i<xs.length)
  (k:∀ p,Gw α v i.toNat p→K p):cW P (Instr.indexAt T v (.int .i64 i)) K:=by
 obtain ⟨F,h,_⟩:=hs.head
 rcases h with ⟨rfl,rfl,_⟩ | ⟨b,cap,rest,rfl,hb,hl,_⟩
 ·simp at h1; omega
 ·obtain ⟨hu,inf,hi,lC,_⟩:=gr ht
  refine ⟨.pointer (some ⟨b,i.toNat * Flat.sz α,none⟩),?_,k _ ⟨b,_,_,rfl,rfl⟩⟩
  unfold Instr.indexAt
  have e1:pr P (underlying T)=some (.slice E):=cL hu
  have e2:pr P (sizeOf E)=some (Flat.sz α):=by rw [oL hi,lC]
  simp only [asIntOf,cM,e1,e2,Option.bind_some,fe]
  simp only [if_pos (show 0≤i∧i<(xs.length:Int) from ⟨h0,h1⟩),cM,e2,Option.bind_some,fe,gN,Nat.zero_add]
theorem qK {v:Value} {F:Nat→Prop} {i:Nat} (h:(bK v xs).p w F) (hi:i<xs.length):∃ b cap rest,v = .slice (some ⟨b,0,none⟩) xs.length cap∧tH w b (flat xs++rest)∧(flat xs++rest).length=cap * Flat.sz α∧∀ k,F k↔k=b:=by
 rcases h with ⟨rfl,rfl,_⟩ | h
 ·simp at hi
 ·exact h
theorem ga {T:Nat} {v p:Value} {i:Nat} {x:α} {K:Value→Prop} (hs:St w0 A (bK v xs::L) w) (ht:cP P T=some (Flat.agg α,Flat.sz α)) (hp:Gw α v i p) (hx:xs[i]? = some x) (k:K (Flat.val x)) :
  Df P (Instr.loadAt T p) w K:=by
 obtain ⟨F,h,_⟩:=hs.head
 obtain ⟨b,cap,rest,hv,hb,hl,_⟩:=qK h (List.getElem?_eq_some_iff.1 hx).1
 obtain ⟨b',n,c,Du,rfl⟩:=hp
 rw [hv] at Du
 simp only [Value.slice.injEq,Option.some.injEq,Addr.mk.injEq] at Du
 obtain ⟨⟨rfl,_,_⟩,_,_⟩:=Du
 refine aD (S:=λ _=>True) ht ⟨b,i * Flat.sz α,rfl,trivial,λ j c hj=>hb.cell ?_⟩ k
 have:=tJ hx hj
 rw [List.getElem?_append_left (List.getElem?_eq_some_iff.1 this).1]; exact this
theorem Kc {i:Nat} (y:α) (h:i<xs.length):flat (xs.set i y)=flat (xs.take i)++Flat.enc y++flat (xs.drop (i+1)):=by
 rw [List.set_eq_take_append_cons_drop,if_pos h,il,ja,List.append_assoc]
theorem yt {i:Nat} {x:α} (h:xs[i]? = some x):flat xs=flat (xs.take i)++Flat.enc x++flat (xs.drop (i+1)):=by
 have hi:=(List.getElem?_eq_some_iff.1 h).1
 have:xs=xs.take i++x::xs.drop (i+1):=by
  rw [← (List.getElem?_eq_some_iff.1 h).2,List.getElem_cons_drop,List.take_append_drop]
 conv=>lhs; rw [this]
 rw [il,ja,List.append_assoc]
theorem M6 {T:Nat} {v p:Value} {i:Nat} {F:Nat→Prop} (y:α) (h:(bK v xs).p w F) (ht:cP P T=some (Flat.agg α,Flat.sz α)) (hp:Gw α v i p) (hi:i<xs.length) :
  ∃ w',(Instr.storeAt T p (Flat.val y)).run P w = .ok () w'∧(bK v (xs.set i y)).p w' F∧ix F w w':=by
 obtain ⟨b,cap,rest,hv,hb,hl,hF⟩:=qK h hi
 obtain ⟨b',n,c,Du,rfl⟩:=hp
 rw [hv] at Du
 simp only [Value.slice.injEq,Option.some.injEq,Addr.mk.injEq] at Du
 obtain ⟨⟨rfl,_,_⟩,_,_⟩:=Du
 have hx:xs[i]? = some xs[i]:=by simp [hi]
 have RO:=yt hx
 have M7:(flat (xs.take i)).length=i * Flat.sz α:=by rw [cR,List.length_take,Nat.min_eq_left (by omega)]
 have hlen:i * Flat.sz α+Flat.sz α≤(flat xs).length:=by
  rw [cR,← Nat.succ_mul]; exact Nat.mul_le_mul_right _ hi
 obtain ⟨w',h1,h2,h3⟩:=mw (P:=P) (o:=i * Flat.sz α) (Flat.enc y) 0 (flat xs++rest) w hb (by rw [Flat.len,List.length_append]; omega) (Flat.one y)
 have xC:gV (flat xs++rest) (i * Flat.sz α+0) (Flat.enc y)=flat (xs.set i y)++rest:=by
  have:=kM (flat (xs.take i)) (Flat.enc xs[i]) (flat (xs.drop (i+1))++rest) (Flat.enc y) (by rw [Flat.len,Flat.len])
  rw [M7] at this
  rw [Nat.add_zero,Kc y hi,RO]
  simpa using this
 rw [xC] at h2
 refine ⟨w',?_,.inr ⟨b,cap,rest,by rw [List.length_set]; exact hv,h2,?_,hF⟩,h3.mono λ k hk=>(hF k).2 hk⟩
 ·show (storeVar T ⟨b,i * Flat.sz α,none⟩ (Flat.val y)).run P w=_
  unfold storeVar
  rw [dH (fo (jF ht).2 w),oM]
  simp only [List.size_toArray,Flat.len,ne_eq,not_true_eq_false,if_false]
  exact h1
 ·rw [← hl,List.length_append,List.length_append,cR,cR,List.length_set]
theorem lJ {T:Nat} {v p:Value} {i:Nat} {K:World→Prop} (y:α) (hs:St w0 A (bK v xs::L) w) (ht:cP P T=some (Flat.agg α,Flat.sz α)) (hp:Gw α v i p) (hi:i<xs.length)
  (k:∀ w',St w0 A (bK v (xs.set i y)::L) w'→K w'):A0 P (Instr.storeAt T p (Flat.val y)) w K:=by
 obtain ⟨U,F,U',h1,h2,h3,h4,h5⟩:=hs.sP
 obtain ⟨w',g1,g2,g3⟩:=M6 y h1 ht hp hi
 refine ⟨w',g1,k w' ⟨hs.aF.trans g3 (λ _ h=>h) λ b hb hf=>(h2 b hf).elim id λ hh=>by omega,U,F,U',g2,h2,h3,h4,h5.loc λ b hb=>g3.cE b (h5.lt b hb) λ hf=>h3 b hf hb⟩⟩
end
section
variable {P:Program} {w w0:World} {A S:Nat→Prop} {L:List HP}
theorem cD {T:TypeId} {b o:Nat} {v:Value} {K:Value→Prop} (ht:abk P T) (hb:Cell w b o v) (k:K v) :
  Df P (Instr.loadAt T (.pointer (some ⟨b,o,none⟩))) w K:=⟨v,aG ht hb,k⟩
theorem dE {α:Type} [Flat α] {T:TypeId} {x:α} {K:Value→World→Prop} (hs:St w0 A L w)
  (k:∀ b w',St w0 A (cE b (Flat.enc x)::L) w'→K (.pointer (some ⟨b,0,none⟩)) w'):gU P (Instr.box T (Flat.val x)) w K:=by
 refine ⟨_,_,HW T _,k _ _ ?_⟩
 rw [oM]
 exact hs.push
theorem H0 {T:Nat} {cx cy:Bool} {a b:Int} {K:Value→Prop} (ha:0≤a) (hb:0<b) (k:K (.int .i64 (a % b))):cW P (iI .rem T cx cy (.int .i64 a) (.int .i64 b)) K:=by
 refine ⟨_,?_,k⟩
 show pr P (Op.intDiv .rem .i64 a b)=_
 unfold Op.intDiv
 rw [if_neg (by omega)]
 show some (Value.int .i64 (a.tmod b))=_
 rw [Int.tmod_eq_emod_of_nonneg ha]
def uI (a b:Int):Int:=((BitVec.ofInt 64 a &&& BitVec.ofInt 64 b).toNat:Int)
theorem yu (a:Int) {b:Int} (h0:0≤b) (h1:b≤9223372036854775807):0≤uI a b∧uI a b≤b:=by
 unfold uI
 refine ⟨by omega,?_⟩
 have h2:(BitVec.ofInt 64 a &&& BitVec.ofInt 64 b).toNat≤(BitVec.ofInt 64 b).toNat:=by
  rw [BitVec.toNat_and]; exact Nat.and_le_right
 have h3:((BitVec.ofInt 64 b).toNat:Int)=b:=by
  rw [BitVec.toNat_ofInt]
  have:b % (2 ^ 64:Int)=b:=Int.emod_eq_of_lt h0 (by omega)
  show ((b % ((2 ^ 64:Nat):Int)).toNat:Int)=b
  rw [show (((2 ^ 64:Nat):Int))=(2 ^ 64:Int) from by norm_cast,this]
  omega
 omega
theorem PI {T:Nat} {cx cy:Bool} {a b:Int} {K:Value→Prop} (h0:0≤b) (h1:b≤9223372036854775807) (k:K (.int .i64 (uI a b))):cW P (iI .and T cx cy (.int .i64 a) (.int .i64 b)) K:=by
 refine ⟨_,?_,k⟩
 show some (Value.int .i64 (IntKind.i64.wrap ((BitVec.ofInt 64 a &&& BitVec.ofInt 64 b).toNat:Int)))=_
 have:=yu a h0 h1
 unfold uI at this ⊢
 rw [IntWalk.i64_in _ (by omega)]
theorem FG {T:Nat} {a b:Bool} (h:P.underlying T=some .bool):pr P (Op.equal T (.bool a) (.bool b))=some (a == b):=by
 show pr P (Op.equalIn 10000 T (.bool a) (.bool b))=_
 unfold Op.equalIn
 rw [cM,cL h]
 rfl
theorem pw {T:Nat} {cx cy:Bool} {a b:Bool} {K:Value→Prop} (h:P.underlying T=some .bool) (k:K (.bool (a != b))):cW P (iI .neq T cx cy (.bool a) (.bool b)) K:=by
 refine ⟨_,?_,k⟩
 show pr P (do pure (Value.bool (!(← Op.equal T (.bool a) (.bool b)))))=_
 rw [wY _ (λ b=>Value.bool (!b)),FG h]; rfl
theorem H6 {T e:Nat} {p:Option Addr} (h:P.underlying T=some (.pointer e)):pr P (Op.equal T (.pointer p) (.pointer none))=some p.isNone:=by
 show pr P (Op.equalIn 10000 T (.pointer p) (.pointer none))=_
 unfold Op.equalIn
 rw [cM,cL h]
 cases p <;> rfl
theorem Dv {T e:Nat} {cx cy:Bool} {p:Option Addr} {K:Value→Prop} (h:P.underlying T=some (.pointer e)) (k:K (.bool p.isNone)):cW P (iI .eql T cx cy (.pointer p) (.pointer none)) K:=by
 refine ⟨_,?_,k⟩
 show pr P (do pure (Value.bool (← Op.equal T (.pointer p) (.pointer none))))=_
 rw [wY,H6 h]; rfl
theorem FH {T e:Nat} {a:Option Addr} {n c:Nat} (h:P.underlying T=some (.slice e)) (ha:a=none→n=0∧c=0):pr P (Op.equal T (.slice a n c) (.slice none 0 0))=some a.isNone:=by
 show pr P (Op.equalIn 10000 T (.slice a n c) (.slice none 0 0))=_
 unfold Op.equalIn
 rw [cM,cL h]
 cases a <;> rfl
theorem Uc {T e:Nat} {cx cy:Bool} {a:Option Addr} {n c:Nat} {K:Value→Prop} (h:P.underlying T=some (.slice e)) (ha:a=none→n=0∧c=0) (k:K (.bool a.isNone)):cW P (iI .eql T cx cy (.slice a n c) (.slice none 0 0)) K:=by
 refine ⟨_,?_,k⟩
 show pr P (do pure (Value.bool (← Op.equal T (.slice a n c) (.slice none 0 0))))=_
 rw [wY,FH h ha]; rfl
def nn:TypeDesc→Option Nat
 | .int .i64=>some 0
 | .bool=>some 1
 | .string=>some 2
 | _=>none
def qk:Value→Option Nat
 | .int .i64 _=>some 0
 | .bool _=>some 1
 | .string _=>some 2
 | _=>none
def eqV:Value→Value→Bool
 | .int _ a,.int _ b=>decide (a=b)
 | .bool a,.bool b=>a == b
 | .string a,.string b=>a == b
 | _,_=>false
def zy:List Value→List Value→Bool
 | a::x,b::y=>eqV a b && zy x y
 | _,_=>true
def nA (P:Program):Nat→List Field→Option (List Nat)
 | _,[]=>some []
 | k,f::fs=>
  if f.name ≠ "_" ∧ f.offset = k then
   match P.underlying f.type with
   | some d=>match nn d,nA P (k+1) fs with
    | some n,some r=>some (n::r)
    | _,_=>none
   | none=>none
  else none
def yw (P:Program) (T:TypeId):Option (List Nat):=
 match P.underlying T with
 | some (.struct fs)=>if P.stoodInHeld T=false∧P.eqGuardType P.depth T=false then nA P 0 fs.toList else none
 | _=>none
def M8 (d:Nat) (xs ys:Array Value):List Field→Sem Bool
 | []=>pure true
 | f :: r => if f.name ≠ "_" then do
   let same ← Op.equalIn d f.type (← part f.type xs f.offset) (← part f.type ys f.offset)
   if (!same)=true then pure false else M8 d xs ys r
  else M8 d xs ys r
theorem Cn {T:TypeId} {d:TypeDesc} {n:Nat} (h:P.underlying T=some d) (hs:nn d=some n):pr P (isAgg T)=some false:=by
 unfold isAgg
 rw [cM,cL h]
 cases d <;> simp [nn] at hs <;> rfl
theorem H7 {T:TypeId} {d:TypeDesc} {n o:Nat} {cs:Array Value} {v:Value} (h:P.underlying T=some d) (hs:nn d=some n) (hv:cs[o]? = some v):pr P (part T cs o)=some v:=by
 unfold part
 rw [cM,Cn h hs]
 simp only [Option.bind_some,Bool.false_eq_true,if_false,hv]
 rfl
theorem BX {k:Nat} {T:TypeId} {d:TypeDesc} {n:Nat} {a b:Value} (h:P.underlying T=some d) (hs:nn d=some n) (ha:qk a=some n) (hb:qk b=some n) :
  pr P (Op.equalIn (k+1) T a b)=some (eqV a b):=by
 unfold Op.equalIn
 rw [cM,cL h]
 simp only [Option.bind_some]
 cases d <;> simp only [nn] at hs <;> try (cases hs; done)
 case int kd=>
  cases kd <;> simp at hs
  subst hs
  cases a <;> simp only [qk] at ha <;> try (cases ha; done)
  rename_i ka na
  cases b <;> simp only [qk] at hb <;> try (cases hb; done)
  rename_i kb nb
  cases ka <;> simp at ha
  cases kb <;> simp at hb
  rfl
 case bool=>
  cases hs
  cases a <;> simp only [qk] at ha <;> first | (rename_i ka na; cases ka <;> simp at ha) | skip
  all_goals try (simp at ha; done)
  cases b <;> simp only [qk] at hb <;> first | (rename_i kb nb; cases kb <;> simp at hb) | skip
  all_goals try (simp at hb; done)
  rfl
 case string=>
  cases hs
  cases a <;> simp only [qk] at ha <;> first | (rename_i ka na; cases ka <;> simp at ha) | skip
  all_goals try (simp at ha; done)
  cases b <;> simp only [qk] at hb <;> first | (rename_i kb nb; cases kb <;> simp at hb) | skip
  all_goals try (simp at hb; done)
  rfl
theorem Kd {k:Nat} {xs ys:List Value}:∀ (fs:List Field) (i:Nat) (ks:List Nat),nA P i fs=some ks→(∀ j n,ks[j]? = some n→∃ a b,xs[i+j]? = some a∧ys[i+j]? = some b∧qk a=some n∧qk b=some n)→
  pr P (M8 (k+1) xs.toArray ys.toArray fs)=some (zy ((xs.drop i).take ks.length) ((ys.drop i).take ks.length)):=by
 intro fs
 induction fs with
 | nil=>intro i ks h _; simp only [nA,Option.some.injEq] at h; subst h; simp [M8,zy]; rfl
 | cons f fs ih=>
  intro i ks h hk
  unfold nA at h
  split at h
  ·rename_i hf
   cases hu:P.underlying f.type with
   | none=>rw [hu] at h; cases h
   | some d=>
    rw [hu] at h
    dsimp only at h
    cases hd:nn d with
    | none=>rw [hd] at h; cases h
    | some n=>
     rw [hd] at h
     cases hr:nA P (i+1) fs with
     | none=>rw [hr] at h; cases h
     | some r=>
      rw [hr] at h
      simp only [Option.some.injEq] at h
      subst h
      obtain ⟨a,b,ha,hb,ka,kb⟩:=hk 0 n rfl
      rw [Nat.add_zero] at ha hb
      have hxd:xs.drop i=a::xs.drop (i+1):=by
       rw [← List.getElem_cons_drop (List.getElem?_eq_some_iff.1 ha).1,(List.getElem?_eq_some_iff.1 ha).2]
      have hyd:ys.drop i=b::ys.drop (i+1):=by
       rw [← List.getElem_cons_drop (List.getElem?_eq_some_iff.1 hb).1,(List.getElem?_eq_some_iff.1 hb).2]
      have ih':=ih (i+1) r hr λ j m hj=>by
       obtain ⟨a',b',h1,h2,h3,h4⟩:=hk (j+1) m (by simpa using hj)
       exact ⟨a',b',by rwa [show i+1+j=i+(j+1) from by omega],by rwa [show i+1+j=i+(j+1) from by omega],h3,h4⟩
      unfold M8
      rw [if_pos hf.1,cM,H7 hu hd (v:=a) (by rw [hf.2]; simpa using ha)]
      simp only [Option.bind_some]
      rw [cM,H7 hu hd (v:=b) (by rw [hf.2]; simpa using hb)]
      simp only [Option.bind_some]
      rw [cM,BX hu hd ka kb]
      simp only [Option.bind_some,List.length_cons,hxd,hyd,List.take_succ_cons,zy]
      cases he:eqV a b with
      | false=>rfl
      | true=>simp only [Bool.not_true,Bool.false_eq_true,if_false,Bool.true_and]; exact ih'
  ·cases h
theorem zz {d:Nat} {t:TypeId} {fs:Array Field} {xs ys:Array Value} (ht:P.underlying t=some (.struct fs)) (hp:P.stoodInHeld t=false) :
  pr P (Op.equalIn (d+1) t (.agg xs) (.agg ys))=pr P (M8 d xs ys fs.toList):=by
 unfold Op.equalIn
 rw [cM,cL ht]
 simp only [Option.bind_some,cM]
 rw [show pr P program=some P from rfl]
 simp only [Option.bind_some,hp,Bool.false_eq_true,if_false]
 rw [← Array.forIn_toList]
 generalize fs.toList=l
 clear ht
 induction l with
 | nil=>rfl
 | cons f l ih=>
  rw [cM] at ih
  simp only [List.forIn_cons,M8,cM]
  split
  ·simp only [cM]
   cases pr P (part f.type xs f.offset) with
   | none=>rfl
   | some a=>
    simp only [Option.bind_some]
    cases pr P (part f.type ys f.offset) with
    | none=>rfl
    | some b=>
     simp only [Option.bind_some]
     cases pr P (Op.equalIn d f.type a b) with
     | none=>rfl
     | some r=>
      cases r
      ·rfl
      ·simp only [Option.bind_some,Bool.not_true,Bool.false_eq_true,if_false,fe]
       exact ih
  ·simp only [fe,Option.bind_some]
   exact ih
theorem H8 {T:TypeId} {ks:List Nat} {xs ys:List Value} (h:yw P T=some ks) (hx:xs.map qk=ks.map some) (hy:ys.map qk=ks.map some) :
  pr P (Op.equal T (.agg xs.toArray) (.agg ys.toArray))=some (zy xs ys)∧P.eqGuardType P.depth T=false:=by
 unfold yw at h
 split at h
 ·rename_i fs hfs
  split at h
  ·rename_i hc
   refine ⟨?_,hc.2⟩
   show pr P (Op.equalIn 10000 T _ _)=_
   rw [zz hfs hc.1]
   have hlx:xs.length=ks.length:=by have:=congrArg List.length hx; simpa using this
   have hly:ys.length=ks.length:=by have:=congrArg List.length hy; simpa using this
   rw [Kd (xs:=xs) (ys:=ys) fs.toList 0 ks h λ j n hj=>?_]
   ·simp only [List.drop_zero]
    rw [List.take_of_length_le (by omega),List.take_of_length_le (by omega)]
   ·have hjl:j<ks.length:=(List.getElem?_eq_some_iff.1 hj).1
    refine ⟨xs[j]'(by omega),ys[j]'(by omega),by simp,by simp,?_,?_⟩
    ·have:=congrArg (λ l=>l[j]?) hx
     simp only [List.getElem?_map,hj,Option.map_some] at this
     rw [List.getElem?_eq_getElem (by omega)] at this
     simpa using this
    ·have:=congrArg (λ l=>l[j]?) hy
     simp only [List.getElem?_map,hj,Option.map_some] at this
     rw [List.getElem?_eq_getElem (by omega)] at this
     simpa using this
  ·cases h
 ·cases h
theorem RP {T:Nat} {cx cy:Bool} {ks:List Nat} {xs ys:List Value} {K:Value→Prop} (h:yw P T=some ks) (hx:xs.map qk=ks.map some) (hy:ys.map qk=ks.map some) (k:K (.bool (zy xs ys))) :
  cW P (iI .eql T cx cy (.agg xs.toArray) (.agg ys.toArray)) K:=by
 obtain ⟨h1,h2⟩:=H8 h hx hy
 refine ⟨_,?_,k⟩
 show pr P (if P.eqGuardType P.depth T = true then stuck "an interface in a part" else (do pure (Value.bool (← Op.equal T (.agg xs.toArray) (.agg ys.toArray))) : Sem Value)) = _
 rw [h2,if_neg (by simp),wY,h1]; rfl
theorem lz {T:Nat} {cx cy:Bool} {ks:List Nat} {xs ys:List Value} {K:Value→Prop} {p:Prop} [Decidable p] (h:yw P T=some ks) (hx:xs.map qk=ks.map some) (hy:ys.map qk=ks.map some)
  (hp:zy xs ys=decide p) (k:K (.bool (decide p))):cW P (iI .eql T cx cy (.agg xs.toArray) (.agg ys.toArray)) K:=RP h hx hy (hp▸k)
end
end Go.Fw
namespace Go.Proofs.YtnjcingfdhjfkaaGreat
open Go.Fw
theorem bL:cP PG 3=some (false,1):=by kernel_rfl
theorem BY:en PG 3=some (some (.int .i64 0)):=by kernel_rfl
theorem oN:PG.underlying 3=some (.int .i64):=by kernel_rfl
theorem Tj:cP PG 4=some (false,1):=by kernel_rfl
theorem ae3:en PG 4=some (some (.bool false)):=by kernel_rfl
theorem Ke:PG.underlying 4=some (.bool):=by kernel_rfl
theorem ty5:cP PG 5=some (false,1):=by kernel_rfl
theorem xE:PG.underlying 5=some (.int .u8):=by kernel_rfl
theorem j8:cP PG 9=some (false,1):=by kernel_rfl
theorem gI:PG.underlying 9=some (.string):=by kernel_rfl
theorem rU:cP PG 22=some (false,1):=by kernel_rfl
theorem vz:fb PG 22=some (23,1,24,some 1):=by kernel_rfl
theorem jz:cP PG 23=some (false,1):=by kernel_rfl
theorem j4:fb PG 23=some (163,3,32,some 3):=by kernel_rfl
theorem jb:cP PG 24=some (false,1):=by kernel_rfl
theorem iJ:fb PG 24=some (98,4,72,some 4):=by kernel_rfl
theorem sR:cP PG 25=some (false,1):=by kernel_rfl
theorem yx:fb PG 25=some (89,2,32,some 2):=by kernel_rfl
theorem gJ:cP PG 27=some (true,6):=by kernel_rfl
theorem jt:aS PG 27 0=some (0,some true):=by kernel_rfl
theorem uJ:aS PG 27 1=some (1,some true):=by kernel_rfl
theorem rZ:aS PG 27 2=some (2,some true):=by kernel_rfl
theorem ng:aS PG 27 3=some (3,some true):=by kernel_rfl
theorem r7:aS PG 27 4=some (4,some true):=by kernel_rfl
theorem kN:aS PG 27 5=some (5,some true):=by kernel_rfl
theorem uK:en PG 27=some (some (.agg [.slice none 0 0,.slice none 0 0,.slice none 0 0,.slice none 0 0,.slice none 0 0,.slice none 0 0].toArray)):=by kernel_rfl
theorem eu:cP PG 28=some (false,1):=by kernel_rfl
theorem dY:fb PG 28=some (3,1,8,some 1):=by kernel_rfl
theorem FI:cP PG 30=some (false,1):=by kernel_rfl
theorem Be:fb PG 30=some (33,3,40,some 3):=by kernel_rfl
theorem uL:cP PG 31=some (false,1):=by kernel_rfl
theorem kP:fb PG 31=some (129,6,80,some 6):=by kernel_rfl
theorem pW:cP PG 33=some (true,3):=by kernel_rfl
theorem xa:aS PG 33 0=some (0,some true):=by kernel_rfl
theorem CI:aS PG 33 1=some (1,some true):=by kernel_rfl
theorem my:aS PG 33 2=some (2,some true):=by kernel_rfl
theorem H9:en PG 33=some (some (.agg [.int .i64 0,.int .i64 0,.slice none 0 0].toArray)):=by kernel_rfl
theorem RQ:cP PG 34=some (false,1):=by kernel_rfl
theorem FJ:fb PG 34=some (99,1,24,some 1):=by kernel_rfl
theorem tK:cP PG 36=some (true,9):=by kernel_rfl
theorem mz:aS PG 36 0=some (0,some true):=by kernel_rfl
theorem lK:aS PG 36 1=some (1,some true):=by kernel_rfl
theorem r8:aS PG 36 2=some (2,some true):=by kernel_rfl
theorem CJ:aS PG 36 3=some (3,some true):=by kernel_rfl
theorem r9:aS PG 36 4=some (4,some true):=by kernel_rfl
theorem zA:aS PG 36 5=some (5,some true):=by kernel_rfl
theorem xb:aS PG 36 6=some (8,some true):=by kernel_rfl
theorem vP:en PG 36=some (some (.agg [.slice none 0 0,.int .i64 0,.slice none 0 0,.int .i64 0,.slice none 0 0,.int .i64 0,.int .i64 0,.slice none 0 0,.slice none 0 0].toArray)):=by kernel_rfl
theorem nq:cP PG 37=some (false,1):=by kernel_rfl
theorem Ud:PG.underlying 42=some (.pointer 115):=by kernel_rfl
theorem mL:fb PG 45=some (52,4,48,some 4):=by kernel_rfl
theorem eZ:cP PG 48=some (true,5):=by kernel_rfl
theorem abm:aS PG 48 1=some (1,some true):=by kernel_rfl
theorem lD:en PG 48=some (some (.agg [.int .i64 0,.int .i64 0,.int .i64 0,.int .i64 0,.int .i64 0].toArray)):=by kernel_rfl
theorem nJ:cP PG 52=some (true,4):=by kernel_rfl
theorem pg:aS PG 52 0=some (0,some true):=by kernel_rfl
theorem jG:aS PG 52 1=some (1,some true):=by kernel_rfl
theorem xc:aS PG 52 2=some (2,some true):=by kernel_rfl
theorem sb:aS PG 52 3=some (3,some true):=by kernel_rfl
theorem Ia:en PG 52=some (some (.agg [.int .i64 0,.int .i64 0,.int .i64 0,.slice none 0 0].toArray)):=by kernel_rfl
theorem Ib:cP PG 54=some (true,5):=by kernel_rfl
theorem abn:aS PG 54 0=some (0,some true):=by kernel_rfl
theorem abo:aS PG 54 1=some (1,some true):=by kernel_rfl
theorem Ic:aS PG 54 3=some (3,some true):=by kernel_rfl
theorem Ie:aS PG 54 4=some (4,some true):=by kernel_rfl
theorem Dw:en PG 54=some (some (.agg [.int .i64 0,.int .i64 0,.int .i64 0,.bool false,.bool false].toArray)):=by kernel_rfl
theorem aof:fb PG 57=some (64,6,64,some 6):=by kernel_rfl
theorem aog:cP PG 64=some (true,6):=by kernel_rfl
theorem PJ:aS PG 64 0=some (0,some true):=by kernel_rfl
theorem abp:aS PG 64 1=some (1,some true):=by kernel_rfl
theorem Ig:aS PG 64 2=some (2,some true):=by kernel_rfl
theorem xF:cP PG 80=some (false,1):=by kernel_rfl
theorem oO:fb PG 80=some (161,4,32,some 4):=by kernel_rfl
theorem mU:cP PG 86=some (false,1):=by kernel_rfl
theorem lX:fb PG 86=some (166,4,40,some 4):=by kernel_rfl
theorem abq:cP PG 89=some (true,2):=by kernel_rfl
theorem CK:aS PG 89 0=some (0,some true):=by kernel_rfl
theorem PK:aS PG 89 1=some (1,some true):=by kernel_rfl
theorem ah8:en PG 89=some (some (.agg [.slice none 0 0,.int .i64 0].toArray)):=by kernel_rfl
theorem px:cP PG 95=some (false,1):=by kernel_rfl
theorem mV:fb PG 95=some (9,1,16,some 1):=by kernel_rfl
theorem sS:cP PG 96=some (false,1):=by kernel_rfl
theorem j5:fb PG 96=some (173,9,120,some 9):=by kernel_rfl
theorem Ih:cP PG 98=some (true,4):=by kernel_rfl
theorem zB:aS PG 98 0=some (0,some true):=by kernel_rfl
theorem ju:aS PG 98 1=some (1,some true):=by kernel_rfl
theorem qz:aS PG 98 2=some (2,some true):=by kernel_rfl
theorem zC:aS PG 98 3=some (3,some true):=by kernel_rfl
theorem M9:en PG 98=some (some (.agg [.string ⟨#[]⟩,.slice none 0 0,.slice none 0 0,.int .i64 0].toArray)):=by kernel_rfl
theorem xG:cP PG 99=some (false,1):=by kernel_rfl
theorem vA:fb PG 99=some (200,2,16,some 2):=by kernel_rfl
theorem xW:fb PG 105=some (4,1,1,some 1):=by kernel_rfl
theorem qW:cP PG 109=some (false,1):=by kernel_rfl
theorem sd:cP PG 112=some (false,1):=by kernel_rfl
theorem py:cP PG 113=some (false,1):=by kernel_rfl
theorem ql:fb PG 113=some (119,1,8,some 1):=by kernel_rfl
theorem ae4:cP PG 115=some (true,16):=by kernel_rfl
theorem tL:aS PG 115 0=some (0,some true):=by kernel_rfl
theorem Ue:aS PG 115 1=some (9,some true):=by kernel_rfl
theorem jH:aS PG 115 2=some (10,some true):=by kernel_rfl
theorem nS:aS PG 115 3=some (11,some true):=by kernel_rfl
theorem jg:aS PG 115 4=some (12,some true):=by kernel_rfl
theorem Dx:aS PG 115 5=some (13,some true):=by kernel_rfl
theorem nT:aS PG 115 6=some (14,some true):=by kernel_rfl
theorem Dy:aS PG 115 7=some (15,some true):=by kernel_rfl
theorem abr:en PG 115=some (some (.agg [.slice none 0 0,.int .i64 0,.slice none 0 0,.int .i64 0,.slice none 0 0,.int .i64 0,.int .i64 0,.slice none 0 0,.slice none 0 0,.int .i64 0,.pointer none,.slice none 0 0,.slice none 0 0,.int .i64 0,.int .i64 0,.int .i64 0].toArray)):=by kernel_rfl
theorem zD:cP PG 119=some (false,1):=by kernel_rfl
theorem ae5:cP PG 120=some (false,1):=by kernel_rfl
theorem abt:en PG 120=some (some (.nilFunc)):=by kernel_rfl
theorem ae6:cP PG 122=some (true,10):=by kernel_rfl
theorem mW:aS PG 122 0=some (0,some true):=by kernel_rfl
theorem Kf:aS PG 122 1=some (1,some true):=by kernel_rfl
theorem kj:aS PG 122 2=some (4,some true):=by kernel_rfl
theorem pz:aS PG 122 3=some (5,some true):=by kernel_rfl
theorem vQ:aS PG 122 4=some (6,some true):=by kernel_rfl
theorem tM:aS PG 122 5=some (7,some true):=by kernel_rfl
theorem tN:aS PG 122 6=some (8,some true):=by kernel_rfl
theorem Dz:aS PG 122 7=some (9,some true):=by kernel_rfl
theorem abu:en PG 122=some (some (.agg [.pointer none,.int .i64 0,.int .i64 0,.slice none 0 0,.int .i64 0,.slice none 0 0,.slice none 0 0,.int .i64 0,.int .i64 0,.int .i64 0].toArray)):=by kernel_rfl
theorem lL:cP PG 129=some (true,6):=by kernel_rfl
theorem jh:aS PG 129 0=some (0,some true):=by kernel_rfl
theorem km:aS PG 129 1=some (1,some true):=by kernel_rfl
theorem eX:aS PG 129 2=some (2,some true):=by kernel_rfl
theorem tO:aS PG 129 3=some (3,some true):=by kernel_rfl
theorem tP:aS PG 129 4=some (4,some true):=by kernel_rfl
theorem kn:aS PG 129 5=some (5,some true):=by kernel_rfl
theorem mA:en PG 129=some (some (.agg [.int .i64 0,.int .i64 0,.int .i64 0,.slice none 0 0,.slice none 0 0,.int .i64 0].toArray)):=by kernel_rfl
theorem xX:fb PG 152=some (28,1,24,some 1):=by kernel_rfl
theorem kY:cP PG 161=some (true,4):=by kernel_rfl
theorem pA:aS PG 161 0=some (0,some true):=by kernel_rfl
theorem kZ:aS PG 161 1=some (1,some true):=by kernel_rfl
theorem nU:aS PG 161 2=some (2,some true):=by kernel_rfl
theorem mX:aS PG 161 3=some (3,some true):=by kernel_rfl
theorem uM:en PG 161=some (some (.agg [.int .i64 0,.int .i64 0,.int .i64 0,.int .i64 0].toArray)):=by kernel_rfl
theorem xY:cP PG 163=some (true,3):=by kernel_rfl
theorem pB:aS PG 163 0=some (0,some true):=by kernel_rfl
theorem zE:aS PG 163 1=some (1,some true):=by kernel_rfl
theorem DA:aS PG 163 2=some (2,some true):=by kernel_rfl
theorem CL:en PG 163=some (some (.agg [.string ⟨#[]⟩,.int .i64 0,.int .i64 0].toArray)):=by kernel_rfl
theorem Kg:cP PG 166=some (true,4):=by kernel_rfl
theorem ji:aS PG 166 0=some (0,some true):=by kernel_rfl
theorem mY:aS PG 166 1=some (1,some true):=by kernel_rfl
theorem ld:aS PG 166 2=some (2,some true):=by kernel_rfl
theorem DB:aS PG 166 3=some (3,some true):=by kernel_rfl
theorem PN:en PG 166=some (some (.agg [.int .i64 0,.int .i64 0,.string ⟨#[]⟩,.int .i64 0].toArray)):=by kernel_rfl
theorem fY:cP PG 173=some (true,9):=by kernel_rfl
theorem fx:aS PG 173 0=some (0,some true):=by kernel_rfl
theorem l6:aS PG 173 1=some (1,some true):=by kernel_rfl
theorem jj:aS PG 173 2=some (2,some true):=by kernel_rfl
theorem l7:aS PG 173 3=some (3,some true):=by kernel_rfl
theorem nV:aS PG 173 4=some (4,some true):=by kernel_rfl
theorem tQ:aS PG 173 5=some (5,some true):=by kernel_rfl
theorem mZ:aS PG 173 6=some (6,some true):=by kernel_rfl
theorem iK:aS PG 173 7=some (7,some true):=by kernel_rfl
theorem qX:aS PG 173 8=some (8,some true):=by kernel_rfl
theorem qA:en PG 173=some (some (.agg [.int .i64 0,.string ⟨#[]⟩,.string ⟨#[]⟩,.slice none 0 0,.slice none 0 0,.int .i64 0,.int .i64 0,.int .i64 0,.int .i64 0].toArray)):=by kernel_rfl
theorem BZ:cP PG 177=some (true,7):=by kernel_rfl
theorem DC:aS PG 177 0=some (0,some true):=by kernel_rfl
theorem zF:aS PG 177 1=some (6,some true):=by kernel_rfl
theorem abv:en PG 177=some (some (.agg [.slice none 0 0,.slice none 0 0,.slice none 0 0,.slice none 0 0,.slice none 0 0,.slice none 0 0,.slice none 0 0].toArray)):=by kernel_rfl
theorem Kh:aS PG 197 0=some (0,some true):=by kernel_rfl
theorem ko:aS PG 197 1=some (1,some true):=by kernel_rfl
theorem Ki:cP PG 200=some (true,2):=by kernel_rfl
theorem nW:aS PG 200 0=some (0,some true):=by kernel_rfl
theorem qY:aS PG 200 1=some (1,some true):=by kernel_rfl
theorem PO:en PG 200=some (some (.agg [.int .i64 0,.int .i64 0].toArray)):=by kernel_rfl
theorem se:cP PG 201=some (false,1):=by kernel_rfl
theorem tS:aS PG 203 0=some (0,some true):=by kernel_rfl
theorem Kj:aS PG 203 1=some (1,some true):=by kernel_rfl
theorem qZ:aS PG 203 2=some (2,some true):=by kernel_rfl
theorem zG:aS PG 203 3=some (3,some true):=by kernel_rfl
theorem m4:aS PG 203 4=some (4,some true):=by kernel_rfl
theorem abw:en PG 209=some (some (.nilFunc)):=by kernel_rfl
theorem vR:fb PG 213=some (216,2,16,some 2):=by kernel_rfl
theorem xd:en PG 213=some (some (.slice none 0 0)):=by kernel_rfl
theorem PQ:cP PG 216=some (true,2):=by kernel_rfl
theorem Kk:aS PG 216 0=some (0,some true):=by kernel_rfl
theorem Kl:aS PG 216 1=some (1,some true):=by kernel_rfl
theorem PR:en PG 216=some (some (.agg [.int .i64 0,.int .i64 0].toArray)):=by kernel_rfl
theorem ae7:cP PG 221=some (true,20):=by kernel_rfl
theorem abx:en PG 221=some (some (.agg [.int .i64 0,.int .i64 0,.int .i64 0,.int .i64 0,.int .i64 0,.int .i64 0,.int .i64 0,.int .i64 0,.int .i64 0,.int .i64 0,.int .i64 0,.int .i64 0,.int .i64 0,.int .i64 0,.int .i64 0,.int .i64 0,.int .i64 0,.int .i64 0,.int .i64 0,.int .i64 0].toArray)):=by kernel_rfl
theorem iL:cP PG 232=some (false,1):=by kernel_rfl
theorem fD:fb PG 232=some (242,4,40,some 4):=by kernel_rfl
theorem jI:aS PG 237 0=some (0,some true):=by kernel_rfl
theorem fk:aS PG 237 1=some (1,some true):=by kernel_rfl
theorem l8:aS PG 237 2=some (2,some true):=by kernel_rfl
theorem vS:aS PG 237 3=some (3,some true):=by kernel_rfl
theorem ae8:cP PG 242=some (true,4):=by kernel_rfl
theorem lf:aS PG 242 0=some (0,some true):=by kernel_rfl
theorem m6:aS PG 242 1=some (1,some true):=by kernel_rfl
theorem q7:aS PG 242 2=some (2,some true):=by kernel_rfl
theorem lg:aS PG 242 3=some (3,some true):=by kernel_rfl
theorem aby:en PG 242=some (some (.agg [.int .i64 0,.string ⟨#[]⟩,.int .i64 0,.int .i64 0].toArray)):=by kernel_rfl
theorem pC:aS PG 245 0=some (0,some true):=by kernel_rfl
theorem tT:aS PG 247 0=some (0,some true):=by kernel_rfl
theorem Km:aS PG 247 1=some (1,some true):=by kernel_rfl
theorem abz:en PG 247=some (some (.agg [.slice none 0 0,.int .i64 0].toArray)):=by kernel_rfl
theorem ae9:fb PG 252=some (5,1,1,some 1):=by kernel_rfl
theorem afa:cP PG 253=some (true,16):=by kernel_rfl
theorem abA:en PG 253=some (some (.agg [.string ⟨#[]⟩,.string ⟨#[]⟩,.string ⟨#[]⟩,.string ⟨#[]⟩,.string ⟨#[]⟩,.string ⟨#[]⟩,.string ⟨#[]⟩,.string ⟨#[]⟩,.string ⟨#[]⟩,.string ⟨#[]⟩,.string ⟨#[]⟩,.string ⟨#[]⟩,.string ⟨#[]⟩,.string ⟨#[]⟩,.string ⟨#[]⟩,.string ⟨#[]⟩].toArray)):=by kernel_rfl
theorem vT:cP PG 288=some (false,1):=by kernel_rfl
theorem Uf:cP PG 289=some (true,16):=by kernel_rfl
theorem PU:en PG 289=some (some (.agg [.nilFunc,.nilFunc,.nilFunc,.nilFunc,.nilFunc,.nilFunc,.nilFunc,.nilFunc,.nilFunc,.nilFunc,.nilFunc,.nilFunc,.nilFunc,.nilFunc,.nilFunc,.nilFunc].toArray)):=by kernel_rfl
theorem aoh:cP PG 299=some (false,1):=by kernel_rfl
theorem gO:aS PG 304 0=some (0,some true):=by kernel_rfl
theorem eT:aS PG 304 1=some (1,some true):=by kernel_rfl
theorem kp:aS PG 304 2=some (2,some true):=by kernel_rfl
theorem zH:aS PG 304 3=some (3,some true):=by kernel_rfl
theorem pD:aS PG 304 4=some (4,some true):=by kernel_rfl
theorem fT:cP PG 307=some (true,4):=by kernel_rfl
theorem q8:aS PG 307 0=some (0,some true):=by kernel_rfl
theorem nX:aS PG 307 1=some (1,some true):=by kernel_rfl
theorem tU:aS PG 307 2=some (2,some true):=by kernel_rfl
theorem Ug:aS PG 307 3=some (3,some true):=by kernel_rfl
theorem sg:en PG 307=some (some (.agg [.slice none 0 0,.int .i64 0,.int .i64 0,.int .i64 0].toArray)):=by kernel_rfl
theorem m7 (a1:Option Addr) (n1 c1:Nat) (a2:Option Addr) (n2 c2:Nat) (a3:Option Addr) (n3 c3:Nat) (a4:Option Addr) (n4 c4:Nat):pr PG (Instr.build 27 [(1,.slice a1 n1 c1),(2,.slice a2 n2 c2),(3,.slice a3 n3 c3),(4,.slice a4 n4 c4)].toArray)=some (.agg [.slice none 0 0,.slice a1 n1 c1,.slice a2 n2 c2,.slice a3 n3 c3,.slice a4 n4 c4,.slice none 0 0].toArray):=by kernel_rfl
theorem Kn (a0:Int) (a1:Int) (a2:Option Addr) (n2 c2:Nat):pr PG (Instr.build 33 [(0,.int .i64 a0),(1,.int .i64 a1),(2,.slice a2 n2 c2)].toArray)=some (.agg [.int .i64 a0,.int .i64 a1,.slice a2 n2 c2].toArray):=by kernel_rfl
theorem vU (a1:Int) (a2:Option Addr) (n2 c2:Nat) (a3:Int):pr PG (Instr.build 36 [(1,.int .i64 a1),(2,.slice a2 n2 c2),(3,.int .i64 a3)].toArray)=some (.agg [.slice none 0 0,.int .i64 a1,.slice a2 n2 c2,.int .i64 a3,.slice none 0 0,.int .i64 0,.int .i64 0,.slice none 0 0,.slice none 0 0].toArray):=by kernel_rfl
theorem DD:pr PG (Instr.build 48 [].toArray)=some (.agg [.int .i64 0,.int .i64 0,.int .i64 0,.int .i64 0,.int .i64 0].toArray):=by kernel_rfl
theorem abB (a0:Int):pr PG (Instr.build 48 [(0,.int .i64 a0)].toArray)=some (.agg [.int .i64 a0,.int .i64 0,.int .i64 0,.int .i64 0,.int .i64 0].toArray):=by kernel_rfl
theorem Bf (a0:Int) (a1:Int):pr PG (Instr.build 48 [(0,.int .i64 a0),(1,.int .i64 a1)].toArray)=some (.agg [.int .i64 a0,.int .i64 a1,.int .i64 0,.int .i64 0,.int .i64 0].toArray):=by kernel_rfl
theorem si (a0:Int) (a1:Int) (a2:Int):pr PG (Instr.build 48 [(0,.int .i64 a0),(1,.int .i64 a1),(2,.int .i64 a2)].toArray)=some (.agg [.int .i64 a0,.int .i64 a1,.int .i64 a2,.int .i64 0,.int .i64 0].toArray):=by kernel_rfl
theorem xZ (a0:Int) (a1:Int) (a2:Int) (a3:Int):pr PG (Instr.build 48 [(0,.int .i64 a0),(1,.int .i64 a1),(2,.int .i64 a2),(3,.int .i64 a3)].toArray)=some (.agg [.int .i64 a0,.int .i64 a1,.int .i64 a2,.int .i64 a3,.int .i64 0].toArray):=by kernel_rfl
theorem Bg (a0:Int) (a2:Int):pr PG (Instr.build 48 [(0,.int .i64 a0),(2,.int .i64 a2)].toArray)=some (.agg [.int .i64 a0,.int .i64 0,.int .i64 a2,.int .i64 0,.int .i64 0].toArray):=by kernel_rfl
theorem pE (a0:Int) (a2:Int) (a3:Int):pr PG (Instr.build 48 [(0,.int .i64 a0),(2,.int .i64 a2),(3,.int .i64 a3)].toArray)=some (.agg [.int .i64 a0,.int .i64 0,.int .i64 a2,.int .i64 a3,.int .i64 0].toArray):=by kernel_rfl
theorem FK (a0:Int) (a2:Int) (a3:Int) (a4:Int):pr PG (Instr.build 48 [(0,.int .i64 a0),(2,.int .i64 a2),(3,.int .i64 a3),(4,.int .i64 a4)].toArray)=some (.agg [.int .i64 a0,.int .i64 0,.int .i64 a2,.int .i64 a3,.int .i64 a4].toArray):=by kernel_rfl
theorem tV (a0:Int) (a3:Int):pr PG (Instr.build 48 [(0,.int .i64 a0),(3,.int .i64 a3)].toArray)=some (.agg [.int .i64 a0,.int .i64 0,.int .i64 0,.int .i64 a3,.int .i64 0].toArray):=by kernel_rfl
theorem Ii (a0:Int):pr PG (Instr.build 52 [(0,.int .i64 a0)].toArray)=some (.agg [.int .i64 a0,.int .i64 0,.int .i64 0,.slice none 0 0].toArray):=by kernel_rfl
theorem Gx (a0:Int) (a1:Int):pr PG (Instr.build 52 [(0,.int .i64 a0),(1,.int .i64 a1)].toArray)=some (.agg [.int .i64 a0,.int .i64 a1,.int .i64 0,.slice none 0 0].toArray):=by kernel_rfl
theorem Ko (a0:Int) (a1:Int) (a2:Int):pr PG (Instr.build 52 [(0,.int .i64 a0),(1,.int .i64 a1),(2,.int .i64 a2)].toArray)=some (.agg [.int .i64 a0,.int .i64 a1,.int .i64 a2,.slice none 0 0].toArray):=by kernel_rfl
theorem Gy (a0:Int) (a3:Option Addr) (n3 c3:Nat):pr PG (Instr.build 52 [(0,.int .i64 a0),(3,.slice a3 n3 c3)].toArray)=some (.agg [.int .i64 a0,.int .i64 0,.int .i64 0,.slice a3 n3 c3].toArray):=by kernel_rfl
theorem Kp (a0:Int) (a1:Int) (a2:Int):pr PG (Instr.build 54 [(0,.int .i64 a0),(1,.int .i64 a1),(2,.int .i64 a2)].toArray)=some (.agg [.int .i64 a0,.int .i64 a1,.int .i64 a2,.bool false,.bool false].toArray):=by kernel_rfl
theorem RR (a0:Int) (a3:Bool):pr PG (Instr.build 54 [(0,.int .i64 a0),(3,.bool a3)].toArray)=some (.agg [.int .i64 a0,.int .i64 0,.int .i64 0,.bool a3,.bool false].toArray):=by kernel_rfl
theorem RS (a1:Int) (a2:Int):pr PG (Instr.build 54 [(1,.int .i64 a1),(2,.int .i64 a2)].toArray)=some (.agg [.int .i64 0,.int .i64 a1,.int .i64 a2,.bool false,.bool false].toArray):=by kernel_rfl
theorem Gz (a0:Option Addr) (n0 c0:Nat) (a1:Int):pr PG (Instr.build 89 [(0,.slice a0 n0 c0),(1,.int .i64 a1)].toArray)=some (.agg [.slice a0 n0 c0,.int .i64 a1].toArray):=by kernel_rfl
theorem RT (a0:ByteArray) (a3:Int):pr PG (Instr.build 98 [(0,.string a0),(3,.int .i64 a3)].toArray)=some (.agg [.string a0,.slice none 0 0,.slice none 0 0,.int .i64 a3].toArray):=by kernel_rfl
theorem B0 (a0:ByteArray) (a3:Int) (a2:Option Addr) (n2 c2:Nat):pr PG (Instr.build 98 [(0,.string a0),(3,.int .i64 a3),(2,.slice a2 n2 c2)].toArray)=some (.agg [.string a0,.slice none 0 0,.slice a2 n2 c2,.int .i64 a3].toArray):=by kernel_rfl
theorem abC (a3:Int):pr PG (Instr.build 98 [(3,.int .i64 a3)].toArray)=some (.agg [.string ⟨#[]⟩,.slice none 0 0,.slice none 0 0,.int .i64 a3].toArray):=by kernel_rfl
theorem Na (Uh:Option Addr) (Ui Uj:Nat) (Uk:Int) (Ul:Option Addr) (Um Un:Nat) (Uo:Int) (Up:Option Addr) (Uq Ur:Nat) (Us:Int) (aoi:Int) (aoj:Option Addr) (aok aol:Nat) (aom:Option Addr) (aon aoo:Nat) (a1:Int):pr PG (Instr.build 115 [(0,.agg [.slice Uh Ui Uj,.int .i64 Uk,.slice Ul Um Un,.int .i64 Uo,.slice Up Uq Ur,.int .i64 Us,.int .i64 aoi,.slice aoj aok aol,.slice aom aon aoo].toArray),(1,.int .i64 a1)].toArray)=some (.agg [.slice Uh Ui Uj,.int .i64 Uk,.slice Ul Um Un,.int .i64 Uo,.slice Up Uq Ur,.int .i64 Us,.int .i64 aoi,.slice aoj aok aol,.slice aom aon aoo,.int .i64 a1,.pointer none,.slice none 0 0,.slice none 0 0,.int .i64 0,.int .i64 0,.int .i64 0].toArray):=by kernel_rfl
theorem vV (a0:Option Addr) (aop:Int) (aoq:Int) (aor:Option Addr) (aos aot:Nat) (a3:Option Addr) (n3 c3:Nat) (a4:Option Addr) (n4 c4:Nat):pr PG (Instr.build 122 [(0,.pointer a0),(1,.agg [.int .i64 aop,.int .i64 aoq,.slice aor aos aot].toArray),(3,.slice a3 n3 c3),(4,.slice a4 n4 c4)].toArray)=some (.agg [.pointer a0,.int .i64 aop,.int .i64 aoq,.slice aor aos aot,.int .i64 0,.slice a3 n3 c3,.slice a4 n4 c4,.int .i64 0,.int .i64 0,.int .i64 0].toArray):=by kernel_rfl
theorem Ij (a0:Int) (a1:Int) (a2:Int):pr PG (Instr.build 129 [(0,.int .i64 a0),(1,.int .i64 a1),(2,.int .i64 a2)].toArray)=some (.agg [.int .i64 a0,.int .i64 a1,.int .i64 a2,.slice none 0 0,.slice none 0 0,.int .i64 0].toArray):=by kernel_rfl
theorem DE (a0:Int) (a1:Int) (a3:Option Addr) (n3 c3:Nat) (a4:Option Addr) (n4 c4:Nat):pr PG (Instr.build 129 [(0,.int .i64 a0),(1,.int .i64 a1),(3,.slice a3 n3 c3),(4,.slice a4 n4 c4)].toArray)=some (.agg [.int .i64 a0,.int .i64 a1,.int .i64 0,.slice a3 n3 c3,.slice a4 n4 c4,.int .i64 0].toArray):=by kernel_rfl
theorem Ik (a0:Int) (a1:Int) (a5:Int):pr PG (Instr.build 129 [(0,.int .i64 a0),(1,.int .i64 a1),(5,.int .i64 a5)].toArray)=some (.agg [.int .i64 a0,.int .i64 a1,.int .i64 0,.slice none 0 0,.slice none 0 0,.int .i64 a5].toArray):=by kernel_rfl
theorem Il (a0:Int) (a3:Option Addr) (n3 c3:Nat) (a5:Int):pr PG (Instr.build 129 [(0,.int .i64 a0),(3,.slice a3 n3 c3),(5,.int .i64 a5)].toArray)=some (.agg [.int .i64 a0,.int .i64 0,.int .i64 0,.slice a3 n3 c3,.slice none 0 0,.int .i64 a5].toArray):=by kernel_rfl
theorem DF (a0:Int) (a5:Int):pr PG (Instr.build 129 [(0,.int .i64 a0),(5,.int .i64 a5)].toArray)=some (.agg [.int .i64 a0,.int .i64 0,.int .i64 0,.slice none 0 0,.slice none 0 0,.int .i64 a5].toArray):=by kernel_rfl
theorem Im:pr PG (Instr.build 161 [].toArray)=some (.agg [.int .i64 0,.int .i64 0,.int .i64 0,.int .i64 0].toArray):=by kernel_rfl
theorem Kq (a0:Int):pr PG (Instr.build 161 [(0,.int .i64 a0)].toArray)=some (.agg [.int .i64 a0,.int .i64 0,.int .i64 0,.int .i64 0].toArray):=by kernel_rfl
theorem Nb (a0:Int) (a1:Int):pr PG (Instr.build 161 [(0,.int .i64 a0),(1,.int .i64 a1)].toArray)=some (.agg [.int .i64 a0,.int .i64 a1,.int .i64 0,.int .i64 0].toArray):=by kernel_rfl
theorem abD:pr PG (Instr.build 163 [].toArray)=some (.agg [.string ⟨#[]⟩,.int .i64 0,.int .i64 0].toArray):=by kernel_rfl
theorem DG (a0:ByteArray) (a2:Int):pr PG (Instr.build 163 [(0,.string a0),(2,.int .i64 a2)].toArray)=some (.agg [.string a0,.int .i64 0,.int .i64 a2].toArray):=by kernel_rfl
theorem Io (a0:Int) (a1:Int) (a3:Int):pr PG (Instr.build 166 [(0,.int .i64 a0),(1,.int .i64 a1),(3,.int .i64 a3)].toArray)=some (.agg [.int .i64 a0,.int .i64 a1,.string ⟨#[]⟩,.int .i64 a3].toArray):=by kernel_rfl
theorem Ip (a0:Int) (a2:ByteArray) (a3:Int):pr PG (Instr.build 166 [(0,.int .i64 a0),(2,.string a2),(3,.int .i64 a3)].toArray)=some (.agg [.int .i64 a0,.int .i64 0,.string a2,.int .i64 a3].toArray):=by kernel_rfl
theorem DH (a0:Int) (a3:Int):pr PG (Instr.build 166 [(0,.int .i64 a0),(3,.int .i64 a3)].toArray)=some (.agg [.int .i64 a0,.int .i64 0,.string ⟨#[]⟩,.int .i64 a3].toArray):=by kernel_rfl
theorem Nc (a0:Int) (a8:Int):pr PG (Instr.build 173 [(0,.int .i64 a0),(8,.int .i64 a8)].toArray)=some (.agg [.int .i64 a0,.string ⟨#[]⟩,.string ⟨#[]⟩,.slice none 0 0,.slice none 0 0,.int .i64 0,.int .i64 0,.int .i64 0,.int .i64 a8].toArray):=by kernel_rfl
theorem Nd (Uh:Option Addr) (Ui Uj:Nat) (Uk:Option Addr) (aou aov:Nat) (Ul:Option Addr) (Um Un:Nat) (Uo:Option Addr) (aow aox:Nat) (Up:Option Addr) (Uq Ur:Nat) (Us:Option Addr) (aoy aoz:Nat) (a1:Option Addr) (n1 c1:Nat):pr PG (Instr.build 177 [(0,.agg [.slice Uh Ui Uj,.slice Uk aou aov,.slice Ul Um Un,.slice Uo aow aox,.slice Up Uq Ur,.slice Us aoy aoz].toArray),(1,.slice a1 n1 c1)].toArray)=some (.agg [.slice Uh Ui Uj,.slice Uk aou aov,.slice Ul Um Un,.slice Uo aow aox,.slice Up Uq Ur,.slice Us aoy aoz,.slice a1 n1 c1].toArray):=by kernel_rfl
theorem Ut (a0:Int):pr PG (Instr.build 197 [(0,.int .i64 a0)].toArray)=some (.agg [.int .i64 a0,.slice none 0 0].toArray):=by kernel_rfl
theorem Nf (a0:Int) (a1:Option Addr) (n1 c1:Nat):pr PG (Instr.build 197 [(0,.int .i64 a0),(1,.slice a1 n1 c1)].toArray)=some (.agg [.int .i64 a0,.slice a1 n1 c1].toArray):=by kernel_rfl
theorem Ng (a0:Int) (a1:Int):pr PG (Instr.build 200 [(0,.int .i64 a0),(1,.int .i64 a1)].toArray)=some (.agg [.int .i64 a0,.int .i64 a1].toArray):=by kernel_rfl
theorem oP (a0:Option Addr) (n0 c0:Nat) (a1:Option Addr) (n1 c1:Nat) (a2:Option Addr) (n2 c2:Nat) (a3:Option Addr) (n3 c3:Nat) (a4:Option Nat):pr PG (Instr.build 203 [(0,.slice a0 n0 c0),(1,.slice a1 n1 c1),(2,.slice a2 n2 c2),(3,.slice a3 n3 c3),(4,.map a4)].toArray)=some (.agg [.slice a0 n0 c0,.slice a1 n1 c1,.slice a2 n2 c2,.slice a3 n3 c3,.map a4].toArray):=by kernel_rfl
theorem DI (a0:Option Addr) (n0 c0:Nat) (a1:Option Addr) (n1 c1:Nat) (a2:Option Addr) (n2 c2:Nat) (a4:Option Nat):pr PG (Instr.build 203 [(0,.slice a0 n0 c0),(1,.slice a1 n1 c1),(2,.slice a2 n2 c2),(4,.map a4)].toArray)=some (.agg [.slice a0 n0 c0,.slice a1 n1 c1,.slice a2 n2 c2,.slice none 0 0,.map a4].toArray):=by kernel_rfl
theorem Nh (a0:Int) (a1:Int):pr PG (Instr.build 216 [(0,.int .i64 a0),(1,.int .i64 a1)].toArray)=some (.agg [.int .i64 a0,.int .i64 a1].toArray):=by kernel_rfl
theorem Uu (a0:Option Addr) (n0 c0:Nat):pr PG (Instr.build 237 [(0,.slice a0 n0 c0)].toArray)=some (.agg [.slice a0 n0 c0,.int .i64 0,.int .i64 0,.int .i64 0].toArray):=by kernel_rfl
theorem Uv (a3:Int):pr PG (Instr.build 242 [(3,.int .i64 a3)].toArray)=some (.agg [.int .i64 0,.string ⟨#[]⟩,.int .i64 0,.int .i64 a3].toArray):=by kernel_rfl
theorem l9 (a1:ByteArray) (a2:ByteArray) (a3:ByteArray) (a4:ByteArray) (a5:ByteArray) (a6:ByteArray) (a9:ByteArray) (a10:ByteArray) (a11:ByteArray) (a12:ByteArray) (a13:ByteArray) (a14:ByteArray) (a15:ByteArray):pr PG (Instr.build 253 [(1,.string a1),(2,.string a2),(3,.string a3),(4,.string a4),(5,.string a5),(6,.string a6),(9,.string a9),(10,.string a10),(11,.string a11),(12,.string a12),(13,.string a13),(14,.string a14),(15,.string a15)].toArray)=some (.agg [.string ⟨#[]⟩,.string a1,.string a2,.string a3,.string a4,.string a5,.string a6,.string ⟨#[]⟩,.string ⟨#[]⟩,.string a9,.string a10,.string a11,.string a12,.string a13,.string a14,.string a15].toArray):=by kernel_rfl
theorem Ni (a0:Option Addr) (n0 c0:Nat) (a1:Int):pr PG (Instr.build 304 [(0,.slice a0 n0 c0),(1,.int .i64 a1)].toArray)=some (.agg [.slice a0 n0 c0,.int .i64 a1,.int .i64 0,.int .i64 0,.slice none 0 0].toArray):=by kernel_rfl
theorem yy (a0:Option Addr) (n0 c0:Nat) (a1:Int):pr PG (Instr.build 307 [(0,.slice a0 n0 c0),(1,.int .i64 a1)].toArray)=some (.agg [.slice a0 n0 c0,.int .i64 a1,.int .i64 0,.int .i64 0].toArray):=by kernel_rfl
theorem Nj (a2:Int) (a3:Int):pr PG (Instr.build 307 [(2,.int .i64 a2),(3,.int .i64 a3)].toArray)=some (.agg [.slice none 0 0,.int .i64 0,.int .i64 a2,.int .i64 a3].toArray):=by kernel_rfl
theorem GA:yw PG 48=some [0,0,0,0,0]:=by kernel_rfl
theorem afb:yw PG 54=some [0,0,0,1,1]:=by kernel_rfl
theorem Uw:yw PG 161=some [0,0,0,0]:=by kernel_rfl
end Go.Proofs.YtnjcingfdhjfkaaGreat
