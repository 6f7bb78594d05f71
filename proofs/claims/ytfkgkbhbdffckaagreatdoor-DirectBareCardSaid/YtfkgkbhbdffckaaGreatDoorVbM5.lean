/-
  Part 5.
-/
import Derived.Test.YtfkgkbhbdffckaaGreatDoorVbM4
set_option linter.all false
set_option maxHeartbeats 8000000
set_option maxRecDepth 100000
namespace Go.Proofs.YtfkgkbhbdffckaaGreatDoor
open Go.Fw
variable (w:World) (K:Value->World->Prop)
def S225 (CD:Value):Prop:=
 cE (λ K1=>bB .lss 3 CD (i 0) λ a=>cV a (K1 tt w) (bB .geq 3 CD (i 15) λ b=>K1 b w)) (λ c d=>∀ _:Env,
 cV c (K (Go.Value.string (ByteArray.mk (#[]))) d) (cF 249 [] d λ e f=>cU Tryz.prog (Instr.index 314 e CD) λ g=>K g f))
theorem XF (CD:Value) (h:S225 w K CD):CR 225 [CD] w K:=
 eN 12 (λ _=>.nil) 4 [.tmp 2] Tryz.func225 h
def S201 (a:Value):Prop:=
 gd Tryz.prog (Instr.box 24 a) w λ b c=>fA 24 b 0 λ d=>lA 3 d c λ e=>cF 225 [e] c λ f g=>aL 9 g λ h3 h=>sA 9 h3 f h λ j=>fA 24 b 5 λ k=>lA 3 k j λ l=>bB .eql 3 l (i 0) λ n=>
 cE (λ K1=>eg Tryz.prog (.func (Go.Fn.func 226) [].toArray [h3].toArray) [(Go.Value.string (ByteArray.mk (#[107])))] j λ o p=>cV o (fA 24 b 5 λ q=>lA 3 q p λ r=>bB .geq 3 r (i 1) λ s=>
 cV s (fA 24 b 5 λ t=>lA 3 t p λ u=>bB .leq 3 u (i 8) λ v=>K1 v p) (K1 ff p)) (K1 n p)) (λ XG x=>∀ _:Env,
 cE (λ K2=>fA 24 b 0 λ y=>lA 3 y x λ z=>bB .geq 3 z (i 1) λ aa=>cV aa (fA 24 b 0 λ ab=>lA 3 ab x λ ac=>bB .lss 3 ac (i 15) λ ad=>cV ad (fA 24 b 8 λ ae=>lA 3 ae x λ af=>
 bB .geq 3 af (i 0) λ ag=>cV ag (fA 24 b 8 λ ah=>lA 3 ah x λ ai=>bB .leq 3 ai (i 4000) λ aj=>cV aj (K2 XG x) (K2 ff x)) (K2 ff x)) (K2 ff x)) (K2 ff x)) (λ ok8 ak=>∀ _:Env,
 cE (λ K3=>cU Tryz.prog (Op.unary .not ok8) λ al=>cV al (K3 tt (drew ak)) (fA 24 b 1 λ am=>lA 9 am (drew ak) λ an=>eg Tryz.prog (.func (Go.Fn.func 226) [].toArray [h3].toArray) [(Go.Value.string (ByteArray.mk (#[114])))] (drew ak) λ ao ap=>
 kA 9 am an ap (eg Tryz.prog (.func (.func 228) #[] #[]) [ao,an] ap λ aq ar=>cU Tryz.prog (Op.unary .not aq) λ asx=>cV asx (K3 tt ar) (fA 24 b 2 λ au=>lA 9 au ar λ av=>
 eg Tryz.prog (.func (Go.Fn.func 226) [].toArray [h3].toArray) [(Go.Value.string (ByteArray.mk (#[110])))] ar λ aw ax=>kA 9 au av ax (eg Tryz.prog (.func (.func 228) #[] #[]) [aw,av] ax λ ay az=>
 cU Tryz.prog (Op.unary .not ay) λ a0=>cV a0 (K3 tt az) (fA 24 b 3 λ a1=>lA 22 a1 az λ a2=>eg Tryz.prog (.func (Go.Fn.func 226) [].toArray [h3].toArray) [(Go.Value.string (ByteArray.mk (#[101])))] az λ a3 a4=>
 kA 22 a1 a2 a4 (eg Tryz.prog (.func (.func 229) #[] #[]) [a3,a2] a4 λ a5 a6=>cU Tryz.prog (Op.unary .not a5) λ a7=>cV a7 (K3 tt a6) (fA 24 b 4 λ a8=>lA 22 a8 a6 λ a9=>
 eg Tryz.prog (.func (Go.Fn.func 226) [].toArray [h3].toArray) [(Go.Value.string (ByteArray.mk (#[102])))] a6 λ ba bb=>kA 22 a8 a9 bb (eg Tryz.prog (.func (.func 229) #[] #[]) [ba,a9] bb λ bc bd=>
 cU Tryz.prog (Op.unary .not bc) λ be=>K3 be bd))))))))) (λ bf bg=>∀ _:Env,
 K bf bg)))
def aon:eh:=λ i=>match i with
 | 9=>(.of [(0,[]),(1,[]),(2,[]),(3,[]),(4,[]),(6,[]),(7,[]),(5,[7]),(8,[]),(9,[]),(10,[]),(11,[]),(12,[]),(13,[]),(15,[]),(16,[]),(14,[16]),(17,[]),(18,[]),(19,[]),(20,[]),(21,[]),(22,[]),(24,[]),(25,[]),(23,[25]),(26,[]),(27,[]),(28,[]),(29,[]),(30,[]),(31,[]),(33,[]),(34,[]),(32,[34]),(35,[]),(36,[]),(37,[]),(38,[])])
 | _=>.nil
theorem XH (x0:Value) (h:S201 w K x0):CR 201 [x0] w K:=
 eN 85 aon 4 [.tmp 2] Tryz.func201 h
def S226 (c0 a:Value):Prop:=
 lA 9 a w λ b=>cF 227 [b,c0] w λ c d=>K c d
theorem XI (c0 x1:Value) (h:S226 w K c0 x1):CR 226 [c0,x1] w K:=
 eN 7 (λ _=>.nil) 8 [.tmp 3] Tryz.func226 h
def S228 (On s1:Value):Prop:=
 cE (λ K1=>cV On (cF 118 [s1] w λ a b=>cV a (K1 tt b) (cU Tryz.prog (Op.unary .not On) λ c=>cV c (cU Tryz.prog (fL .eql 9 false true s1 (Go.Value.string (ByteArray.mk (#[])))) λ d=>
 K1 d b) (K1 ff b))) (cU Tryz.prog (Op.unary .not On) λ e=>cV e (cU Tryz.prog (fL .eql 9 false true s1 (Go.Value.string (ByteArray.mk (#[])))) λ f=>K1 f w) (K1 ff w))) (λ g h=>∀ _:Env,
 K g h)
theorem XJ (On s1:Value) (h:S228 w K On s1):CR 228 [On,s1] w K:=
 eN 18 (λ _=>.nil) 16 [.tmp 4] Tryz.func228 h
def S229 (On l1:Value):Prop:=
 cE (λ K1=>cV On (cF 123 [l1] w λ a b=>cV a (K1 tt b) (cU Tryz.prog (Op.unary .not On) λ c=>cV c (lN 22 l1 λ d=>bB .eql 3 d (i 0) λ e=>K1 e b) (K1 ff b))) (cU Tryz.prog (Op.unary .not On) λ f=>
 cV f (lN 22 l1 λ g=>bB .eql 3 g (i 0) λ h=>K1 h w) (K1 ff w))) (λ j k=>∀ _:Env,
 K j k)
theorem XK (On l1:Value) (h:S229 w K On l1):CR 229 [On,l1] w K:=
 eN 19 (λ _=>.nil) 16 [.tmp 4] Tryz.func229 h
def S202 (l0 AJ:Value):Prop:=
 mn (λ K1 n5 i6 a=>∀ _:Env,
 lN 27 l0 λ b=>bA .lss 3 i6 b λ c=>cV c (iA 27 l0 i6 λ d=>lA 24 d a λ e=>aL 24 a λ f g=>sA 24 f e g λ h=>bB .add 3 i6 (i 1) λ j=>fA 24 f 6 λ k=>lA 3 k h λ l=>
 bA .add 3 j l λ n=>fA 24 f 7 λ o=>lA 3 o h λ p=>bA .add 3 n p λ q=>cE (λ K2=>fA 24 f 0 λ r=>lA 3 r h λ s=>bB .eql 3 s (i 11) λ t=>cV t (K2 tt h) (fA 24 f 0 λ u=>
 lA 3 u h λ v=>bB .eql 3 v (i 12) λ x=>K2 x h)) (λ Mj y=>∀ _:Env,
 cE (λ K3=>fA 24 f 6 λ z=>lA 3 z y λ aa=>bB .lss 3 aa (i 0) λ ab=>cV ab (K3 tt y) (fA 24 f 7 λ ac=>lA 3 ac y λ ad=>bB .lss 3 ad (i 0) λ ae=>cV ae (K3 tt y) (
 fA 24 f 6 λ af=>lA 3 af y λ ag=>lN 27 l0 λ ah=>bA .gtr 3 ag ah λ ai=>cV ai (K3 tt y) (fA 24 f 7 λ aj=>lA 3 aj y λ ak=>lN 27 l0 λ al=>bA .gtr 3 ak al λ am=>
 cV am (K3 tt y) (lN 27 l0 λ an=>bA .gtr 3 q an λ ao=>K3 ao y))))) (λ ap aq=>∀ _:Env,
 cV ap (K (i (-1)) aq) (cE (λ K4=>cE (λ K5=>cU Tryz.prog (Op.unary .not Mj) λ ar=>cV ar (fA 24 f 6 λ asx=>lA 3 asx aq λ au=>bB .gtr 3 au (i 0) λ av=>K5 av aq) (
 K5 ff aq)) (λ aw ax=>∀ _:Env,
 cV aw (K4 aw ax) (cE (λ K6=>fA 24 f 0 λ ay=>lA 3 ay ax λ az=>bB .neq 3 az (i 11) λ a0=>cV a0 (fA 24 f 7 λ a1=>lA 3 a1 ax λ a2=>bB .gtr 3 a2 (i 0) λ a3=>K6 a3 ax) (
 K6 ff ax)) (λ a4 a5=>∀ _:Env,
 cV a4 (K4 a4 a5) (fA 24 f 0 λ a6=>lA 3 a6 a5 λ a7=>bB .eql 3 a7 (i 13) λ a8=>cV a8 (bB .eql 3 AJ (i 0) λ a9=>K4 a9 a5) (K4 ff a5)))))) (λ ba bb=>∀ _:Env,
 cV ba (K (i (-1)) bb) (cE (λ K7=>cV Mj (fA 24 f 0 λ bc=>lA 3 bc bb λ bd=>bB .eql 3 bd (i 12) λ be=>cF 220 [be] bb λ bf bg=>bA .add 3 AJ bf λ bh=>bB .add 3 i6 (i 1) λ bi=>
 bB .add 3 i6 (i 1) λ bj=>fA 24 f 6 λ bk=>lA 3 bk (drew bg) λ bl=>bA .add 3 bj bl λ bm=>cU Tryz.prog (Instr.sliceAt 27 l0 (some bi) (some bm) none) λ bn=>bB .add 3 i6 (i 1) λ bo=>
 fA 24 f 6 λ bp=>lA 3 bp (drew bg) λ bq=>bA .add 3 bo bq λ br=>cU Tryz.prog (Instr.sliceAt 27 l0 (some br) (some q) none) λ bs=>cF 202 [bn,bh] (drew bg) λ bt bu=>kA 3 bp bq bu (
 cF 202 [bs,bh] bu λ bv bw=>cE (λ K8=>bB .eql 3 bt (i (-1)) λ bx=>cV bx (K8 tt bw) (bB .eql 3 bv (i (-1)) λ bz=>K8 bz bw)) (λ b0 b1=>∀ _:Env,
 cV b0 (K (i (-1)) b1) (bB .add 3 bt (i 1) λ b2=>bB .add 3 bv (i 1) λ b3=>cU Tryz.prog (Builtin.max_ #[3,3,3] 3 [n5,b2,b3].toArray) λ b4=>K7 b4 b1)))) (K7 n5 bb)) (λ aoo b5=>∀ _:Env,
 K1 aoo q b5))))))) (K n5 a)) (λ K1=>K1 (i 0) (i 0) w)
def aop:eh:=λ i=>match i with
 | 15=>(.of [(0,[]),(1,[]),(2,[]),(3,[]),(4,[]),(5,[]),(6,[]),(7,[]),(8,[]),(9,[]),(11,[]),(12,[]),(13,[]),(14,[]),(15,[]),(16,[]),(17,[]),(18,[]),(19,[]),(10,[15]),(20,[]),(21,[]),(22,[])])
 | _=>.nil
theorem XL (l0 AJ:Value) (h:S202 w K l0 AJ):CR 202 [l0,AJ] w K:=
 eN 131 aop 16 [.tmp 4] Tryz.func202 h
def S168 (l0:Value):Prop:=
 cE (λ K1=>lN 27 l0 λ a=>bB .gtr 3 a (i 40) λ b=>cV b (K1 tt w) (cF 200 [l0,(.func (.func 201) #[] #[])] w λ c d=>K1 c d)) (λ e f=>∀ _:Env,
 cV e (K ff f) (cF 202 [l0,(i 0)] f λ g h=>cE (λ K2=>bB .neq 3 g (i (-1)) λ j=>cV j (bB .leq 3 g (i 12) λ k=>K2 k h) (K2 ff h)) (λ l n=>∀ _:Env,
 K l n)))
theorem XM (l0:Value) (h:S168 w K l0):CR 168 [l0] w K:=
 eN 19 (λ _=>.nil) 4 [.tmp 2] Tryz.func168 h
def S63 (p0:Value):Prop:=
 gd Tryz.prog (Instr.box 40 p0) w λ p1 a=>cE (λ K1=>fA 40 p1 0 λ b=>lA 36 b a λ c=>cF 124 [c,(.func (.func 115) #[] #[])] a λ d e=>cV d (K1 d e) (fA 40 p1 1 λ f=>
 lA 37 f e λ g=>cF 116 [g,(i 4294967296)] e λ h j=>cU Tryz.prog (Op.unary .not h) λ k=>cV k (K1 k j) (fA 40 p1 2 λ l=>lA 37 l j λ n=>cF 116 [n,(i 0)] j λ o p=>
 cU Tryz.prog (Op.unary .not o) λ q=>cV q (K1 q p) (fA 40 p1 4 λ r=>lA 35 r p λ s=>lN 35 s λ t=>bB .gtr 3 t (i 1) λ u=>K1 u p)))) (λ v x=>∀ _:Env,
 cV v (K ff x) (cE (λ K2=>fA 40 p1 3 λ y=>lA 35 y x λ z=>cF 125 [z,(.func (.func 117) #[] #[])] x λ aa ab=>cU Tryz.prog (Op.unary .not aa) λ ac=>cV ac (fA 40 p1 4 λ ad=>
 lA 35 ad ab λ ae=>cF 125 [ae,(.func (.func 120) #[] #[])] ab λ af ag=>cU Tryz.prog (Op.unary .not af) λ ah=>cV ah (fA 40 p1 5 λ ai=>lA 38 ai ag λ aj=>cF 126 [aj,(.func (.func 121) #[] #[])] ag λ ak al=>
 cU Tryz.prog (Op.unary .not ak) λ am=>K2 am al) (K2 ff ag)) (K2 ff ab)) (λ an ao=>∀ _:Env,
 K an ao)))
theorem adn (p0:Value) (h:S63 w K p0):CR 63 [p0] w K:=
 eN 43 (λ _=>.nil) 4 [.tmp 2] Tryz.func63 h
def S115 (l0:Value):Prop:=
 cE (λ K1=>lN 37 l0 λ a=>bB .eql 3 a (i 0) λ b=>cV b (K1 tt w) (cF 116 [l0,(i 4294967296)] w λ c d=>cU Tryz.prog (Op.unary .not c) λ e=>K1 e d)) (λ f g=>∀ _:Env,
 K f g)
theorem XN (l0:Value) (h:S115 w K l0):CR 115 [l0] w K:=
 eN 11 (λ _=>.nil) 4 [.tmp 2] Tryz.func115 h
def S117 (t0:Value):Prop:=
 gd Tryz.prog (Instr.box 34 t0) w λ t1 a=>cE (λ K1=>fA 34 t1 0 λ b=>lA 9 b a λ c=>cF 118 [c] a λ d e=>cU Tryz.prog (Op.unary .not d) λ f=>cV f (K1 tt e) (lA 34 t1 e λ g=>
 cF 119 [g] e λ h j=>cU Tryz.prog (Op.unary .not h) λ k=>K1 k j)) (λ l n=>∀ _:Env,
 K l n)
theorem XO (t0:Value) (h:S117 w K t0):CR 117 [t0] w K:=
 eN 12 (λ _=>.nil) 4 [.tmp 2] Tryz.func117 h
def S120 (t0:Value):Prop:=
 gd Tryz.prog (Instr.box 34 t0) w λ t1 a=>cE (λ K1=>fA 34 t1 0 λ b=>lA 9 b a λ c=>cU Tryz.prog (fL .neq 9 false true c (Go.Value.string (ByteArray.mk (#[])))) λ d=>
 cV d (K1 tt a) (lA 34 t1 a λ e=>cF 119 [e] a λ f g=>cU Tryz.prog (Op.unary .not f) λ h=>K1 h g)) (λ j k=>∀ _:Env,
 K j k)
theorem XP (t0:Value) (h:S120 w K t0):CR 120 [t0] w K:=
 eN 11 (λ _=>.nil) 4 [.tmp 2] Tryz.func120 h
def S121 (c0:Value):Prop:=
 gd Tryz.prog (Instr.box 112 c0) w λ c1 a=>cE (λ K1=>fA 112 c1 1 λ b=>lA 3 b a λ c=>cF 122 [c] a λ d e=>cU Tryz.prog (Op.unary .not d) λ f=>cV f (K1 tt e) (fA 112 c1 0 λ g=>
 lA 22 g e λ h=>cF 123 [h] e λ j k=>cU Tryz.prog (Op.unary .not j) λ l=>K1 l k)) (λ n o=>∀ _:Env,
 K n o)
theorem XQ (c0:Value) (h:S121 w K c0):CR 121 [c0] w K:=
 eN 13 (λ _=>.nil) 4 [.tmp 2] Tryz.func121 h
def S116 (l0 Mk:Value):Prop:=
 gd Tryz.prog (Instr.box 3 Mk) w λ aiG a=>cF 159 [l0,(.func (Go.Fn.func 160) [].toArray [aiG].toArray)] a λ b c=>cU Tryz.prog (Op.unary .not b) λ d=>K d c
theorem XR (l0 Mk:Value) (h:S116 w K l0 Mk):CR 116 [l0,Mk] w K:=
 eN 9 (λ _=>.nil) 16 [.tmp 4] Tryz.func116 h
def S160 (c0 a:Value):Prop:=
 gd Tryz.prog (Instr.box 142 c0) w λ c2 b=>cE (λ K1=>fA 142 c2 0 λ c=>lA 9 c b λ d=>cF 118 [d] b λ e f=>cU Tryz.prog (Op.unary .not e) λ g=>cV g (K1 tt f) (fA 142 c2 1 λ h=>
 lA 3 h f λ j=>bB .lss 3 j (i 0) λ k=>cV k (K1 tt f) (fA 142 c2 1 λ l=>lA 3 l f λ n=>lA 3 a f λ o=>bA .gtr 3 n o λ p=>cV p (K1 tt f) (fA 142 c2 2 λ q=>lA 3 q f λ r=>
 cF 122 [r] f λ s t=>cU Tryz.prog (Op.unary .not s) λ u=>K1 u t)))) (λ v x=>∀ _:Env,
 K v x)
theorem XS (c0 x1:Value) (h:S160 w K c0 x1):CR 160 [c0,x1] w K:=
 eN 25 (λ _=>.nil) 8 [.tmp 3] Tryz.func160 h
def S119 (t0:Value):Prop:=
 gd Tryz.prog (Instr.box 34 t0) w λ t1 a=>cE (λ K1=>fA 34 t1 3 λ b=>lA 3 b a λ c=>cF 122 [c] a λ d e=>cV d (fA 34 t1 1 λ f=>lA 32 f e λ g=>cF 167 [g,(.func (.func 166) #[] #[])] e λ h j=>
 cU Tryz.prog (Op.unary .not h) λ k=>cV k (fA 34 t1 2 λ l=>lA 27 l j λ n=>cF 168 [n] j λ o p=>K1 o p) (K1 ff j)) (K1 ff e)) (λ q r=>∀ _:Env,
 K q r)
theorem XT (t0:Value) (h:S119 w K t0):CR 119 [t0] w K:=
 eN 19 (λ _=>.nil) 4 [.tmp 2] Tryz.func119 h
def S166 (s0:Value):Prop:=
 cF 118 [s0] w λ a b=>cU Tryz.prog (Op.unary .not a) λ c=>K c b
theorem XU (s0:Value) (h:S166 w K s0):CR 166 [s0] w K:=
 eN 6 (λ _=>.nil) 4 [.tmp 2] Tryz.func166 h
def S122 (n0:Value):Prop:=
 cE (λ K1=>bB .geq 3 n0 (i 0) λ a=>cV a (bB .leq 3 n0 (i 4000) λ b=>K1 b w) (K1 ff w)) (λ c d=>∀ _:Env,
 K c d)
theorem XV (n0:Value) (h:S122 w K n0):CR 122 [n0] w K:=
 eN 9 (λ _=>.nil) 4 [.tmp 2] Tryz.func122 h
def S200 (s0 f1:Value):Prop:=
 cF 224 [s0,f1] w λ a b=>bB .geq 3 a (i 0) λ c=>K c b
theorem XW (s0 f1:Value) (h:S200 w K s0 f1):CR 200 [s0,f1] w K:=
 eN 9 (λ _=>.nil) 16 [.tmp 4] Tryz.func200 h
def S224 (s0 f1:Value):Prop:=
 lN 27 s0 λ a=>fh (λ K1 b c=>∀ _:Env,
 bA .lss 3 b a λ d=>cV d (iA 27 s0 b λ e=>lA 24 e c λ f=>eg Tryz.prog f1 [f] c λ g h=>cV g (K b h) (bB .add 3 b (i 1) λ j=>K1 j h)) (K (i (-1)) c)) (λ K1=>K1 (i 0) w)
theorem XX (s0 f1:Value) (h:S224 w K s0 f1):CR 224 [s0,f1] w K:=
 eN 19 (λ _=>.nil) 16 [.tmp 4] Tryz.func224 h
def S159 (s0 f1:Value):Prop:=
 cF 197 [s0,f1] w λ a b=>bB .geq 3 a (i 0) λ c=>K c b
theorem XY (s0 f1:Value) (h:S159 w K s0 f1):CR 159 [s0,f1] w K:=
 eN 9 (λ _=>.nil) 16 [.tmp 4] Tryz.func159 h
def S197 (s0 f1:Value):Prop:=
 lN 37 s0 λ a=>fh (λ K1 b c=>∀ _:Env,
 bA .lss 3 b a λ d=>cV d (iA 37 s0 b λ e=>lA 142 e c λ f=>eg Tryz.prog f1 [f] c λ g h=>cV g (K b h) (bB .add 3 b (i 1) λ j=>K1 j h)) (K (i (-1)) c)) (λ K1=>K1 (i 0) w)
theorem XZ (s0 f1:Value) (h:S197 w K s0 f1):CR 197 [s0,f1] w K:=
 eN 19 (λ _=>.nil) 16 [.tmp 4] Tryz.func197 h
def S124 (s0 f1:Value):Prop:=
 cF 174 [s0,f1] w λ a b=>bB .geq 3 a (i 0) λ c=>K c b
theorem X0 (s0 f1:Value) (h:S124 w K s0 f1):CR 124 [s0,f1] w K:=
 eN 9 (λ _=>.nil) 16 [.tmp 4] Tryz.func124 h
def S174 (s0 f1:Value):Prop:=
 lN 36 s0 λ a=>fh (λ K1 b c=>∀ _:Env,
 bA .lss 3 b a λ d=>cV d (iA 36 s0 b λ e=>lA 37 e c λ f=>eg Tryz.prog f1 [f] c λ g h=>cV g (K b h) (bB .add 3 b (i 1) λ j=>K1 j h)) (K (i (-1)) c)) (λ K1=>K1 (i 0) w)
theorem X3 (s0 f1:Value) (h:S174 w K s0 f1):CR 174 [s0,f1] w K:=
 eN 19 (λ _=>.nil) 16 [.tmp 4] Tryz.func174 h
def S125 (s0 f1:Value):Prop:=
 cF 175 [s0,f1] w λ a b=>bB .geq 3 a (i 0) λ c=>K c b
theorem X4 (s0 f1:Value) (h:S125 w K s0 f1):CR 125 [s0,f1] w K:=
 eN 9 (λ _=>.nil) 16 [.tmp 4] Tryz.func125 h
def S175 (s0 f1:Value):Prop:=
 lN 35 s0 λ a=>fh (λ K1 b c=>∀ _:Env,
 bA .lss 3 b a λ d=>cV d (iA 35 s0 b λ e=>lA 34 e c λ f=>eg Tryz.prog f1 [f] c λ g h=>cV g (K b h) (bB .add 3 b (i 1) λ j=>K1 j h)) (K (i (-1)) c)) (λ K1=>K1 (i 0) w)
theorem X5 (s0 f1:Value) (h:S175 w K s0 f1):CR 175 [s0,f1] w K:=
 eN 19 (λ _=>.nil) 16 [.tmp 4] Tryz.func175 h
def S126 (s0 f1:Value):Prop:=
 cF 176 [s0,f1] w λ a b=>bB .geq 3 a (i 0) λ c=>K c b
theorem X6 (s0 f1:Value) (h:S126 w K s0 f1):CR 126 [s0,f1] w K:=
 eN 9 (λ _=>.nil) 16 [.tmp 4] Tryz.func126 h
def S176 (s0 f1:Value):Prop:=
 lN 38 s0 λ a=>fh (λ K1 b c=>∀ _:Env,
 bA .lss 3 b a λ d=>cV d (iA 38 s0 b λ e=>lA 112 e c λ f=>eg Tryz.prog f1 [f] c λ g h=>cV g (K b h) (bB .add 3 b (i 1) λ j=>K1 j h)) (K (i (-1)) c)) (λ K1=>K1 (i 0) w)
theorem X7 (s0 f1:Value) (h:S176 w K s0 f1):CR 176 [s0,f1] w K:=
 eN 19 (λ _=>.nil) 16 [.tmp 4] Tryz.func176 h
theorem aiH:PL 225:=dW Tryz.func225
theorem aiI:PL 201:=dW Tryz.func201
theorem Hs:PL 226:=dW Tryz.func226
theorem aaX:PL 228:=dW Tryz.func228
theorem aaY:PL 229:=dW Tryz.func229
theorem Sy:PL 202:=dW Tryz.func202
theorem aiJ:PL 168:=dW Tryz.func168
theorem aoq:PL 63:=dW Tryz.func63
theorem aiK:PL 115:=dW Tryz.func115
theorem aiL:PL 117:=dW Tryz.func117
theorem aiM:PL 120:=dW Tryz.func120
theorem aiN:PL 121:=dW Tryz.func121
theorem Sz:PL 116:=dW Tryz.func116
theorem aiO:PL 160:=dW Tryz.func160
theorem aaZ:PL 119:=dW Tryz.func119
theorem aiP:PL 166:=dW Tryz.func166
theorem SA:PL 122:=dW Tryz.func122
theorem aiQ:PL 200:=dW Tryz.func200
theorem aiR:PL 224:=dW Tryz.func224
theorem aiS:PL 159:=dW Tryz.func159
theorem aiT:PL 197:=dW Tryz.func197
theorem aa0:PL 124:=dW Tryz.func124
theorem aiU:PL 174:=dW Tryz.func174
theorem SC:PL 125:=dW Tryz.func125
theorem aiV:PL 175:=dW Tryz.func175
theorem aiW:PL 126:=dW Tryz.func126
theorem aiX:PL 176:=dW Tryz.func176
end Go.Proofs.YtfkgkbhbdffckaaGreatDoor
namespace Go.Proofs.YtfkgkbhbdffckaaGreatDoor
open Go.Fw
def ado:Nat->Nat->PT
 | _,_=>.nil
def fsH:List Nat:=[225,227,249,250,253,257,259,260,263]
theorem aa1:List.all fsH (okF Tryz.prog ado)=true:=by kernel_rfl
def BL:List (Nat × Nat):=[(0,0),(25970,2),(28274,2),(25966,2),(1717923442,4),(110,1),(110,1),(0,0),(0,0),(110,1),(110,1),(25189,2),(25195,2),(0,0),(101,1)]
def X8:List Nat:=[107,114,110,101,102]
noncomputable def X9 (k:Nat) (p:Nat × Nat):Bool:=Oc (U3 Tryz.prog (im fsH (il Tryz.prog ado)) 200 (.f 225 .e) (.c (.i .i64 (k:Int)) .e) .lf 0) (λ v _=>sEq v p)
noncomputable def aos (p:Nat × Nat) (c:Nat) (b:Bool):Bool:=Oc (U3 Tryz.prog (im fsH (il Tryz.prog ado)) 200 (.f 227 .e) (.c (.s p.1 p.2) (.c (.s c 1) .e)) .lf 0) (λ v _=>V.eqs true v (.b b))
def amN (p:Nat × Nat) (c:Nat):Bool:=(oR (strOf p.1 p.2)).any λ b=>decide ((b.toNat:Int)=(c:Int))
noncomputable def Ya (k:Nat) (l:List (Nat × Nat)):Bool:=List.rec (motive:=λ _=>Nat->Bool) (λ _=>true) (λ p _ ih k=>dD (X9 k p) (ih (Nat.succ k))) l k
theorem adp:Ya 0 BL=true:=by kernel_rfl
noncomputable def aou (l:List (Nat × Nat)):Bool:=List.all l λ p=>List.all X8 λ c=>aos p c (amN p c)
theorem adq:aou BL=true:=by kernel_rfl
theorem Ml:∀ (l:List (Nat × Nat)) (k j:Nat) (p:Nat × Nat),Ya k l=true->l[j]? = some p->X9 (k+j) p=true
 | [],_,_,_,_,h=>by simp at h
 | q::l,k,0,p,h,hj=>by
  obtain ⟨h1,_⟩:=dI (show dD (X9 k q) (Ya (Nat.succ k) l)=true from h)
  simp at hj; subst hj; exact h1
 | q::l,k,j+1,p,h,hj=>by
  obtain ⟨_,h1⟩:=dI (show dD (X9 k q) (Ya (Nat.succ k) l)=true from h)
  have:=Ml l (Nat.succ k) j p h1 (by simpa using hj)
  rw [show k+(j+1)=Nat.succ k+j from by omega]; exact this
theorem adr:BL.map (λ p=>strOf p.1 p.2)=ahc:=by decide
theorem Mm {k:Int} (h0:0<=k) (h1:k<15):∃ p,BL[k.toNat]? = some p/\strOf p.1 p.2=fP k:=by
 have hl:k.toNat<BL.length:=by show _<15; omega
 refine ⟨_,List.getElem?_eq_getElem hl,?_⟩
 have h2:(BL.map (λ p=>strOf p.1 p.2))[k.toNat]? = some (strOf (BL[k.toNat]).1 (BL[k.toNat]).2):=by rw [List.getElem?_map,List.getElem?_eq_getElem hl]; rfl
 rw [adr] at h2
 unfold fP
 split
 ·obtain rfl:k=0:=by omega
  cases h2; rfl
 rw [List.getD_eq_getElem?_getD,h2]; rfl
theorem C225 (k:Int) (w:World):CR 225 [.int .i64 k] w (λ v w'=>v = .string (fP k)/\Ext w w'):=by
 by_cases hk:0<=k/\k<15
 ·obtain ⟨p,hp,hs⟩:=Mm hk.1 hk.2;have h:=Ml BL 0 k.toNat p adp hp;rw [Nat.zero_add] at h;have oo:((k.toNat:Nat):Int)=k:=by omega
  have key:=Hr mixed aa1 (args:=.c (.i .i64 (k.toNat:Int)) .e) (xs:=[.int .i64 (k.toNat:Int)]) ⟨_,_,rfl,rfl,rfl⟩ h w;rw [oo] at key;refine key.mono λ e w' ⟨y,he,hext,v,h,ρ,wP,hR,hv⟩=>?_;obtain ⟨n,m,rfl,h9⟩:=Se wP;refine ⟨_,he,?_,hext⟩;rw [<- hs,<- h9]; exact hv
 refine XF _ _ _ ?_;unfold S225;refine ⟨λ jv w'=>jv = .bool true/\Ext w w',aS (aC (λ _=>⟨rfl,Ext.refl w⟩) (λ _=>dO ⟨vb (decide_eq_true (by omega)),Ext.refl w⟩)),?_⟩;rintro _ _ ⟨rfl,he⟩ _;refine bI (λ _=>⟨?_,he⟩) (λ h=>by cases h);unfold fP; rw [if_pos (by omega)]
theorem SD (k:Int):∃ p∈BL,strOf p.1 p.2=fP k:=by
 by_cases hk:0<=k/\k<15
 ·obtain ⟨p,hp,hs⟩:=Mm hk.1 hk.2
  exact ⟨p,List.mem_of_getElem? hp,hs⟩
 refine ⟨(0,0),by decide,?_⟩
 unfold fP; rw [if_pos (by omega)]; decide
def ads (c:Nat):ByteArray:=⟨#[c.toUInt8]⟩
theorem adt:∀ c∈X8,strOf c 1=ads c:=by decide
theorem C227 (k:Int) (c:Nat) (hc:c∈X8) (w:World):CR 227 [.string (fP k),.string (ads c)] w (λ v w'=>v = .bool (dU (fP k) c)/\Ext w w'):=by
 obtain ⟨p,hp,hs⟩:=SD k;have h:=List.all_eq_true.1 (List.all_eq_true.1 adq p hp) c hc;have key:=Hr mixed aa1 (args:=.c (.s p.1 p.2) (.c (.s c 1) .e)) (xs:=[.string (strOf p.1 p.2),.string (strOf c 1)]) ⟨_,_,rfl,rfl,_,_,rfl,rfl,rfl⟩ h w;rw [hs,adt c hc] at key;refine key.mono λ e w' ⟨y,he,hext,v,h,ρ,wP,hR,hv⟩=>?_;have e2:=(mB _ _ wP).1;subst e2;refine ⟨_,he,?_,hext⟩;rw [show y = .bool (amN p c) from hv];unfold amN dU;rw [hs]
theorem aiY:PL 227:=dW Tryz.func227
theorem C226 (k:Int) (c b2:Nat) (w:World) (hc:Cell w b2 0 (.string (fP k))) (hm:c∈X8):CR 226 [.string (ads c),.pointer (some ⟨b2,0,none⟩)] w (λ v w'=>v = .bool (dU (fP k) c)/\Ext w w'):=by
 have hs:=St.start w;refine XI _ _ _ _ ?_;unfold S226;exact bW kp (hc.ext hs.aE) (bO aiY hs (C227 k c hm _) (λ _ _ hs=>⟨rfl,hs.aE⟩))
theorem C228 (b:Bool) (s:ByteArray) (w:World):CR 228 [.bool b,.string s] w (λ v w'=>v = .bool ((b && gh s) || (!b && decide (s=⟨#[]⟩)))/\Ext w w'):=by
 have hs:=St.start w;refine XJ _ _ _ _ ?_;unfold S228;refine ⟨λ jv w'=>jv = .bool ((b && gh s) || (!b && decide (s=⟨#[]⟩)))/\St w bD [] w',bI (λ _=>bO Gd hs (C118 _ _) (λ _ _ hs=>bI (λ _=>⟨vb (by grind),hs⟩) (λ _=>bH (bI (λ _=>nE ⟨vb (by grind),hs⟩) (λ _=>⟨vb (by grind),hs⟩))))) (λ _=>bH (bI (λ _=>nE ⟨vb (by grind),hs⟩) (λ _=>⟨vb (by grind),hs⟩))),?_⟩;rintro _ _ ⟨rfl,hs⟩ _;exact ⟨rfl,hs.aE⟩
theorem C229 (b:Bool) (lv:Value) (xs:List bL) (w:World) (hL:dx (λ _=>True) w lv xs) (hn:xs.length<=1048576):CR 229 [.bool b,lv] w (λ v w'=>v = .bool ((b && eF xs) || (!b && decide (xs.length=0)))/\Ext w w'):=by
 have hs:=St.start w;refine XK _ _ _ _ ?_;unfold S229;refine ⟨λ jv w'=>jv = .bool ((b && eF xs) || (!b && decide (xs.length=0)))/\St w bD [] w',bI (λ _=>bO LC hs (C123 _ _ _ (hL.ext hs.aE) (by omega)) (λ _ _ hs=>bI (λ _=>⟨vb (by grind),hs⟩) (λ _=>bH (bI (λ _=>aG kq (hL.ext hs.aE) (aI ⟨vb (by grind),hs⟩)) (λ _=>⟨vb (by grind),hs⟩))))) (λ _=>bH (bI (λ _=>aG kq (hL.ext hs.aE) (aI ⟨vb (by grind),hs⟩)) (λ _=>⟨vb (by grind),hs⟩))),?_⟩;rintro _ _ ⟨rfl,hs⟩ _;exact ⟨rfl,hs.aE⟩
theorem Ht {x:aX} {ro:Bool} (h:ro=(if dU (fP x.kind) 107=true then decide (1<=x.n/\x.n<=8) else decide (x.n=0))) :
  (!(decide (1<=x.kind/\x.kind<15/\0<=x.at_/\x.at_<=4000) && ro) || (!(dU (fP x.kind) 114 && gh x.eB || !dU (fP x.kind) 114 && decide (x.eB=⟨#[]⟩)) || (!(dU (fP x.kind) 110 && gh x.name || !dU (fP x.kind) 110 && decide (x.name=⟨#[]⟩)) ||
  (!(dU (fP x.kind) 101 && eF x.e || !dU (fP x.kind) 101 && decide (x.e.length=0)) || !(dU (fP x.kind) 102 && eF x.f || !dU (fP x.kind) 102 && decide (x.f.length=0)))))) = !nS x:=by
 subst h
 have hr:gh x.eB=true->¬ x.eB=⟨#[]⟩:=λ h e=>by rw [e] at h; exact absurd h (by decide)
 have hm:gh x.name=true->¬ x.name=⟨#[]⟩:=λ h e=>by rw [e] at h; exact absurd h (by decide)
 have he:eF x.e=true->¬ x.e.length=0:=λ h e=>by rw [List.length_eq_zero_iff.1 e] at h; exact absurd h (by decide)
 have hf:eF x.f=true->¬ x.f.length=0:=λ h e=>by rw [List.length_eq_zero_iff.1 e] at h; exact absurd h (by decide)
 unfold nS
 cases h1:dU (fP x.kind) 114 <;> cases h2:dU (fP x.kind) 110 <;> cases h3:dU (fP x.kind) 101 <;> cases h4:dU (fP x.kind) 102 <;> cases h5:dU (fP x.kind) 107 <;> simp <;> grind
theorem C201 (x:aX) (xv:aW) (w:World) (hx:Deep.dr w xv x) (he0:x.e.length<=1048576) (hf0:x.f.length<=1048576):CR 201 [Flat.val xv] w (λ v w'=>v = .bool (!nS x)/\Ext w w'):=by
 obtain ⟨SE,SF,rfl,ai0,ai1⟩:=hx;have hs:=St.start w;refine XH _ _ _ ?_;unfold S201;refine cZ hs (λ Ep _ hs=>aA gI (aB (v:=.int .i64 ((x).kind)) cK hs.hb rfl (bO aiH hs (C225 _ _) (λ _ he hs=>fx hs agX rfl (λ Hu _ hs=>bF hs kp (fw rfl) (rfl) (λ _ hs=>aA ql (aB (v:=.int .i64 ((x).n)) cK hs.p1.hb rfl (aI ⟨λ jv w'=>jv = .bool ((if dU (fP x.kind) 107=true then decide (1<=x.n/\x.n<=8) else decide (x.n=0)))/\St w bD [cP Hu [.string (fP x.kind)],cP Ep (Flat.enc (⟨(x).kind,(x).eB,(x).name,SE,SF,(x).n,(x).body,(x).eG,(x).at_⟩:aW))] w',?_,?_⟩))))))))
 ·refine ft Hs (C226 x.kind 107 Hu _ (hs.hb.cell rfl) (by decide)) ?_;rintro _ _ ⟨rfl,he⟩;have hs:=hs.ext he;exact bI (λ _=>aA ql (aB (v:=.int .i64 ((x).n)) cK hs.p1.hb rfl (dO (aC (λ _=>aA ql (aB (v:=.int .i64 ((x).n)) cK hs.p1.hb rfl (ma ⟨vb (by grind),hs⟩))) (λ _=>⟨vb (by grind),hs⟩))))) (λ _=>⟨vb (by grind),hs⟩)
 rintro _ _ ⟨rfl,hs⟩ _;refine ⟨λ jv w'=>jv = .bool (decide (1<=x.kind/\x.kind<15/\0<=x.at_/\x.at_<=4000) && (if dU (fP x.kind) 107=true then decide (1<=x.n/\x.n<=8) else decide (x.n=0)))/\St w bD [cP Hu [.string (fP x.kind)],cP Ep (Flat.enc (⟨(x).kind,(x).eB,(x).name,SE,SF,(x).n,(x).body,(x).eG,(x).at_⟩:aW))] w',?_,?_⟩
 ·refine aA gI (aB (v:=.int .i64 ((x).kind)) cK hs.p1.hb rfl (dO ?_));exact aC (λ _=>aA gI (aB (v:=.int .i64 ((x).kind)) cK hs.p1.hb rfl (aS (aC (λ _=>aA sV (aB (v:=.int .i64 ((x).at_)) cK hs.p1.hb rfl (dO (aC (λ _=>aA sV (aB (v:=.int .i64 ((x).at_)) cK hs.p1.hb rfl (ma (aC (λ _=>⟨vb (by grind),hs⟩) (λ _=>⟨vb (by grind),hs⟩))))) (λ _=>⟨vb (by grind),hs⟩))))) (λ _=>⟨vb (by grind),hs⟩))))) (λ _=>⟨vb (by grind),hs⟩)
 rintro _ _ ⟨rfl,hs⟩ _;refine ⟨λ jv w'=>jv = .bool (!nS x)/\St w bD [cP Hu [.string (fP x.kind)],cP Ep (Flat.enc (⟨(x).kind,(x).eB,(x).name,SE,SF,(x).n,(x).body,(x).eG,(x).at_⟩:aW))] w',bH (bI (λ _=>have hs:=hs.drew;⟨vb (by rw [<- Ht rfl]; grind),hs⟩) (λ aa2=>?_)),?_⟩
 ·refine aA nc (have hs:=hs.drew;aB (v:=.string ((x).eB)) kp hs.p1.hb rfl (ft Hs (C226 x.kind 114 Hu _ (hs.hb.cell rfl) (by decide)) ?_));rintro _ _ ⟨rfl,he⟩;have hs:=hs.ext he;refine ⟨aD kp (hs.p1.hb.cell rfl),?_⟩;refine ft aaX (C228 _ x.eB _) ?_;rintro _ _ ⟨rfl,he⟩;have hs:=hs.ext he;refine bH (bI (λ _=>⟨vb (by rw [<- Ht rfl]; grind),hs⟩) (λ c_x56=>aA ng (aB (v:=.string ((x).name)) kp hs.p1.hb rfl (ft Hs (C226 x.kind 110 Hu _ (hs.hb.cell rfl) (by decide)) ?_))));rintro _ _ ⟨rfl,he⟩;have hs:=hs.ext he;refine ⟨aD kp (hs.p1.hb.cell rfl),?_⟩;refine ft aaX (C228 _ x.name _) ?_
  rintro _ _ ⟨rfl,he⟩;have hs:=hs.ext he;refine bH (bI (λ _=>⟨vb (by rw [<- Ht rfl]; grind),hs⟩) (λ c_x65=>aA nh (aB m9 hs.p1.hb rfl ?_)));have hf1:=DL.flat (ai0);refine ft Hs (C226 x.kind 101 Hu _ (hs.hb.cell rfl) (by decide)) ?_;rintro _ _ ⟨rfl,he⟩;have hs:=hs.ext he;refine ⟨aD m9 (hs.p1.hb.cell rfl),?_⟩;refine ft aaY (C229 _ _ x.e _ (hf1.ext hs.aE) he0) ?_;rintro _ _ ⟨rfl,he⟩;have hs:=hs.ext he;refine bH (bI (λ _=>⟨vb (by rw [<- Ht rfl]; grind),hs⟩) (λ c_x74=>aA oy (aB m9 hs.p1.hb rfl ?_)));have hf2:=DL.flat (ai1);refine ft Hs (C226 x.kind 102 Hu _ (hs.hb.cell rfl) (by decide)) ?_
  rintro _ _ ⟨rfl,he⟩;have hs:=hs.ext he;refine ⟨aD m9 (hs.p1.hb.cell rfl),?_⟩;refine ft aaY (C229 _ _ x.f _ (hf2.ext hs.aE) hf0) ?_;rintro _ _ ⟨rfl,he⟩;have hs:=hs.ext he;exact bH ⟨vb (by rw [<- Ht rfl]; grind),hs⟩
 rintro _ _ ⟨rfl,hs⟩ _;exact ⟨rfl,hs.drop.drop.aE⟩
structure ai2 (x:aX):Prop where
 kind:1<=x.kind/\x.kind<=14
 at0:0<=x.at_/\x.at_<=4000
 e:(dU (fP x.kind) 101=true/\eF x.e=true)\/(dU (fP x.kind) 101=false/\x.e=[])
 f:(dU (fP x.kind) 102=true/\eF x.f=true)\/(dU (fP x.kind) 102=false/\x.f=[])
 eB:(dU (fP x.kind) 114=true/\gh x.eB=true)\/(dU (fP x.kind) 114=false/\x.eB=⟨#[]⟩)
 name:(dU (fP x.kind) 110=true/\gh x.name=true)\/(dU (fP x.kind) 110=false/\x.name=⟨#[]⟩)
 n:(dU (fP x.kind) 107=true/\1<=x.n/\x.n<=8)\/(dU (fP x.kind) 107=false/\x.n=0)
theorem xC {x:aX} (h:nS x=true):ai2 x:=by
 unfold nS at h
 simp only [Bool.and_eq_true,Bool.not_eq_true',Bool.or_eq_false_iff,decide_eq_false_iff_not,bne_eq_false_iff_eq,Bool.and_eq_false_iff,Bool.not_eq_false',Decidable.not_not] at h
 obtain ⟨⟨⟨h1,h2⟩,h3⟩,h4⟩:=h
 constructor
 ·omega
 ·omega
 ·cases hh:dU (fP x.kind) 101 <;> grind
 ·cases hh:dU (fP x.kind) 102 <;> grind
 ·cases hh:dU (fP x.kind) 114 <;> grind
 ·cases hh:dU (fP x.kind) 110 <;> grind
 cases hh:dU (fP x.kind) 107 <;> grind
theorem adu:dU (fP 12) 107=true:=by decide
theorem kN {l:List aX} (h:mQ l=true):l.length<=40/\(∀ x∈l,nS x=true)/\∃ t:Bk,l=t.flat/\t.str/\t.ok 0=true/\t.depth<=12:=by
 unfold mQ at h
 simp only [Bool.and_eq_true,decide_eq_true_eq,Bool.not_eq_true'] at h
 obtain ⟨⟨h1,h2⟩,h3⟩:=h
 rw [List.any_eq_false] at h2
 refine ⟨h1,λ x hx=>by simpa using h2 x hx,?_⟩
 unfold eJ at h3
 cases hb:lM l with
 | none=>rw [hb] at h3; simp only [] at h3; omega
 | some t=>
  rw [hb] at h3
  obtain ⟨g1,g2⟩:=iX hb
  refine ⟨t,g1,g2,?_⟩
  cases ho:t.ok 0 with
  | true=>simp only [ho,if_true] at h3; exact ⟨rfl,h3.2⟩
  | false=>simp [ho] at h3
structure PF (p:bQ):Prop where
 lines:∀ l∈p.lines,l≠[]/\∀ c∈l,lx 4294967296 c=false
 fr:∀ c∈p.fr,lx 4294967296 c=false
 dL:∀ c∈p.dL,lx 0 c=false
 th:∀ t∈p.threads,ly true t=false
 rc:∀ t∈p.recover,ly false t=false
 cl:∀ c∈p.dF,0<=c.at_/\eF c.e=true
 one:p.recover.length<=1
theorem oI {p:bQ} (h:jU p=true):PF p:=by
 unfold jU mR v7 at h
 simp only [Bool.and_eq_true,Bool.not_eq_true',List.any_eq_false,decide_eq_true_eq] at h
 obtain ⟨⟨h1,h2⟩,⟨⟨h3,h4⟩,h5⟩,h6⟩:=h
 refine ⟨λ l hl=>?_,λ c hc=>by simpa using h3.1 c hc,λ c hc=>by simpa using h3.2 c hc,λ t ht=>by simpa using h4 t ht,λ t ht=>by simpa using h5 t ht,λ c hc=>?_,h6⟩
 ·have:=h1 l hl
  unfold nw mR at this
  simp only [Bool.or_eq_true,decide_eq_true_eq,not_or,Bool.not_not,List.any_eq_true,not_exists,not_and,Bool.not_eq_true] at this
  exact ⟨λ h=>this.1 (by rw [h]; rfl),this.2⟩
 have:=h2 c hc
 unfold lz mh at this
 simp only [Bool.or_eq_true,Bool.not_eq_true',not_or,Bool.not_eq_false,decide_eq_true_eq,decide_eq_false_iff_not,Decidable.not_not] at this
 exact ⟨this.1.1,by simpa using this.2⟩
theorem AK {nb:Bool} {t:bV} (h:ly nb t=false):0<=t.at_/\mQ t.body=true/\(∀ s∈t.cW,gh s=true)/\gh t.name=nb:=by
 unfold ly D3 mh at h
 simp only [Bool.or_eq_false_iff,Bool.not_eq_false',decide_eq_true_eq,List.any_eq_false,bne_eq_false_iff_eq] at h
 obtain ⟨⟨⟨⟨h1,_⟩,h2⟩,h3⟩,h4⟩:=h
 exact ⟨h2.1,h3,λ s hs=>by simpa using h4 s hs,h1.symm⟩
def gL (p:bQ):List bV:=p.threads++p.recover
theorem PF.uw {p:bQ} (h:PF p) {t:bV} (ht:t∈gL p):0<=t.at_/\mQ t.body=true/\∀ s∈t.cW,gh s=true:=by
 unfold gL at ht
 rcases List.mem_append.1 ht with ht | ht
 ·have:=AK (h.th t ht); exact ⟨this.1,this.2.1,this.2.2.1⟩
 have:=AK (h.rc t ht); exact ⟨this.1,this.2.1,this.2.2.1⟩
def iY (p:bQ):List Int:=(ju p).map bP.n
def dX (p:bQ):Int:=(p.lines.flatten.length:Int)
def cM (p:bQ):List ByteArray:=(ju p).map bP.name
def cC (p:bQ):List ByteArray:=p.dL.map bP.name
def gi:List (List bP)->Int->Int->Int
 | [],i,a=>i+a
 | l::r,i,a=>if a<l.length then i else gi r (i+1) (a - l.length)
def mD (p:bQ) (c:Int):Int:=if c<0\/(ju p).length<=c then -1 else gi p.lines 0 c
def rn (l:List bL) (ns:List ByteArray):Bool:=l.any λ x=>decide (x.op=2) && decide (cI ns x.name<0)
def pN (x:aX) (n:Int):Int:=if x.kind=12 then n * x.n else n
def lE:Bk->Int->Bool
 | .nil,_=>false
 | .cons x a b r,n=>decide (64<pN x n) || (lE a (pN x n) || lE b (pN x n)) || lE r n
def Bk.app:Bk->Bk->Bk
 | .nil,t=>t
 | .cons x a b r,t=>.cons x a b (r.app t)
theorem Bk.AL (a b:Bk):(a.app b).flat=a.flat++b.flat:=by
 induction a with
 | nil=>rfl
 | cons x c d r _ _ ih=>simp only [Bk.app,Bk.flat,ih,List.cons_append,List.append_assoc]
theorem Bk.Yb {a b:Bk} (ha:a.str) (hb:b.str):(a.app b).str:=by
 induction a with
 | nil=>exact hb
 | cons x c d r _ _ ih=>
  obtain ⟨h1,h2,h3,h4,h5,h6,h7⟩:=ha
  exact ⟨h1,h2,h3,h4,h5,h6,ih h7⟩
theorem Oo (a b:Bk) (n:Int):lE (a.app b) n=(lE a n || lE b n):=by
 induction a with
 | nil=>simp [Bk.app,lE]
 | cons x c d r _ _ ih=>simp only [Bk.app,lE,ih,Bool.or_assoc]
def oJ (l:List aX):Bool:=match lM l with | some t=>lE t 1 | none=>false
theorem AM {t:Bk} (h:t.str):oJ t.flat=lE t 1:=by unfold oJ; rw [kL h]
def ig (p:bQ):List bP:=ju p++p.dL++p.threads.map (λ t=>⟨t.name,0,t.at_⟩)
def Ev (l:List bP) (j:Nat):Bool:=match l[j]? with | some c=>decide (cI (l.map bP.name) c.name<j) | none=>false
def jz (l:List bP):Bool:=(List.range l.length).any (Ev l)
def SG (p:bQ) (rs:List ByteArray) (j:Nat):Bool:=match rs[j]? with | some s=>decide (cI rs s<j) || decide (0<=cI (cM p) s) || decide (0<=cI (cC p) s) | none=>false
def tT (p:bQ) (rs:List ByteArray):Bool:=(List.range rs.length).any (SG p rs)
def rp (p:bQ) (rs:List ByteArray) (x:aX):Bool:=
 (decide (¬ x.eB=⟨#[]⟩) && decide (cI rs x.eB<0)) ||
 ((decide (x.kind=2) || decide (x.kind=3) || decide (x.kind=4)) && decide (cI (cM p) x.name<0)) ||
 ((decide (x.kind=5) || decide (x.kind=6)) && (decide (cI (cM p) x.name<0) || decide (dX p<=cI (cM p) x.name))) ||
 ((decide (x.kind=9) || decide (x.kind=10)) && decide (cI (cC p) x.name<0)) || rn x.e rs || rn x.f rs
def tU (p:bQ):Bool:=p.lines.any (λ l=>decide (4<(l.length:Int))) || (gL p).any (λ t=>decide (4<(t.cW.length:Int))) ||
 (decide (4<(p.lines.length:Int)) || decide (4<(p.fr.length:Int)) || decide (2<(p.dL.length:Int)) || decide ((p.threads.length:Int)<1) || decide (3<(p.threads.length:Int)) || decide (4<(p.dF.length:Int)))
def gG (p:bQ):List ByteArray:=(cM p).take (dX p).toNat
def eP (p:bQ):Int:=
 if jU p=false then 8 else if tU p=true then 2 else if (gL p).any (λ t=>oJ t.body)=true then 11 else if jz (ig p)=true then 10
 else if (gL p).any (λ t=>tT p t.cW)=true then 10 else if (gL p).any (λ t=>t.body.any (rp p t.cW))=true then 9
 else if p.dF.any (λ c=>rn c.e (gG p))=true then 9 else 0
theorem JT {x:aX} (h:nS x=true):0<=x.at_/\(x.kind=12->1<=x.n/\x.n<=8):=by
 have h:=xC h
 refine ⟨h.at0.1,λ hk=>?_⟩
 rcases h.n with h | h
 ·exact h.2
 rw [hk,adu] at h; exact absurd h.1 (by decide)
section
variable {p:bQ}
theorem ce8 (h1:jU p=false):eP p=8:=by unfold eP; rw [if_pos h1]
theorem ce2 (h1:jU p=true) (h2:tU p=true):eP p=2:=by unfold eP; rw [if_neg (by rw [h1]; decide),if_pos h2]
theorem aov (h1:jU p=true) (h2:tU p=false) (h3:(gL p).any (λ t=>oJ t.body)=true):eP p=11:=by unfold eP; rw [if_neg (by rw [h1]; decide),if_neg (by rw [h2]; decide),if_pos h3]
theorem aow (h1:jU p=true) (h2:tU p=false) (h3:(gL p).any (λ t=>oJ t.body)=false) (h4:jz (ig p)=true):eP p=10:=by
 unfold eP; rw [if_neg (by rw [h1]; decide),if_neg (by rw [h2]; decide),if_neg (by rw [h3]; decide),if_pos h4]
theorem ai3 (h1:jU p=true) (h2:tU p=false) (h3:(gL p).any (λ t=>oJ t.body)=false) (h4:jz (ig p)=false) (h5:(gL p).any (λ t=>tT p t.cW)=true):eP p=10:=by
 unfold eP; rw [if_neg (by rw [h1]; decide),if_neg (by rw [h2]; decide),if_neg (by rw [h3]; decide),if_neg (by rw [h4]; decide),if_pos h5]
theorem ce9 (h1:jU p=true) (h2:tU p=false) (h3:(gL p).any (λ t=>oJ t.body)=false) (h4:jz (ig p)=false) (h5:(gL p).any (λ t=>tT p t.cW)=false)
  (h6:(gL p).any (λ t=>t.body.any (rp p t.cW))=true):eP p=9:=by
 unfold eP; rw [if_neg (by rw [h1]; decide),if_neg (by rw [h2]; decide),if_neg (by rw [h3]; decide),if_neg (by rw [h4]; decide),if_neg (by rw [h5]; decide),if_pos h6]
theorem aox (h1:jU p=true) (h2:tU p=false) (h3:(gL p).any (λ t=>oJ t.body)=false) (h4:jz (ig p)=false) (h5:(gL p).any (λ t=>tT p t.cW)=false)
  (h6:(gL p).any (λ t=>t.body.any (rp p t.cW))=false) (h7:p.dF.any (λ c=>rn c.e (gG p))=true):eP p=9:=by
 unfold eP; rw [if_neg (by rw [h1]; decide),if_neg (by rw [h2]; decide),if_neg (by rw [h3]; decide),if_neg (by rw [h4]; decide),if_neg (by rw [h5]; decide),if_neg (by rw [h6]; decide),if_pos h7]
theorem ce0 (h1:jU p=true) (h2:tU p=false) (h3:(gL p).any (λ t=>oJ t.body)=false) (h4:jz (ig p)=false) (h5:(gL p).any (λ t=>tT p t.cW)=false)
  (h6:(gL p).any (λ t=>t.body.any (rp p t.cW))=false) (h7:p.dF.any (λ c=>rn c.e (gG p))=false):eP p=0:=by
 unfold eP; rw [if_neg (by rw [h1]; decide),if_neg (by rw [h2]; decide),if_neg (by rw [h3]; decide),if_neg (by rw [h4]; decide),if_neg (by rw [h5]; decide),if_neg (by rw [h6]; decide),if_neg (by rw [h7]; decide)]
theorem JU (hz:PS p):(cM p).length<=250500:=by unfold cM; rw [List.length_map]; exact sj hz
theorem Mn (hz:PS p):(gL p).length<=1000:=by
 have:=hz.threads
 have:=hz.recover
 unfold gL; rw [List.length_append]; omega
theorem PZ.uw (hz:PZ p) {t:bV} (ht:t∈gL p):NH t/\t.cW.length<=500/\t.body.length<=500:=by
 refine ⟨?_,hz.cW t ht,hz.body t ht⟩
 rcases List.mem_append.1 ht with h | h
 ·exact hz.zt t h
 exact hz.zr t h
end
theorem adv {x:aX} {n m:Int} (hn:1<=n/\n<=64) (h:x.kind=12->1<=x.n/\x.n<=8) (hm:m=pN x n):1<=m/\m<=512:=by
 rw [hm]; unfold pN
 split
 ·rename_i hk
  have:=h hk
  have h1:=Int.mul_le_mul (a:=1) (b:=1) hn.1 this.1 (by omega) (by omega)
  have h2:=Int.mul_le_mul (c:=64) (d:=8) hn.2 this.2 (by omega) (by omega)
  omega
 omega
theorem Bk.Mo {t:Bk} (h:¬ (t.flat.length:Int)=0):∃ x a b r,t = .cons x a b r:=by
 cases t with
 | nil=>exact absurd rfl h
 | cons x a b r=>exact ⟨x,a,b,r,rfl⟩
theorem Bk.wX {x:aX} {a b r:Bk} (h:(Bk.cons x a b r).str) {hi lo:Int} (h1:hi=1+x.body+x.eG) (h2:lo=1):((Bk.cons x a b r).flat.take hi.toNat).drop lo.toNat=(a.app b).flat:=by
 obtain ⟨g1,g2,_⟩:=h
 have la:=a.cJ
 have lb:=b.cJ
 rw [Bk.AL,uR _ (a:=1) (n:=(a.flat++b.flat).length) (by rw [List.length_append]; omega) (by omega)]
 show (a.flat++(b.flat++r.flat)).take _=_
 rw [<- List.append_assoc,List.take_left]
theorem Bk.ai4 {x:aX} {a b r:Bk} (h:(Bk.cons x a b r).str) {hi:Int} (h1:hi=1+x.body+x.eG):(Bk.cons x a b r).flat.drop hi.toNat=r.flat:=by
 obtain ⟨g1,g2,_⟩:=h
 have la:=a.cJ
 have lb:=b.cJ
 have e:(Bk.cons x a b r).flat=(x::(a.flat++b.flat))++r.flat:=by simp [Bk.flat]
 rw [e,show hi.toNat=(x::(a.flat++b.flat)).length from by simp; omega,List.drop_left]
theorem CE {l:List bP} {k:Nat} {c:bP} (h:l[k]? = some c):Ev l k=decide (cI (l.map bP.name) c.name<k):=by unfold Ev; rw [h]
theorem Ew {p:bQ} {l:List ByteArray} {k:Nat} {c:ByteArray} (h:l[k]? = some c):SG p l k=(decide (cI l c<k) || decide (0<=cI (cM p) c) || decide (0<=cI (cC p) c)):=by unfold SG; rw [h]
theorem Mp (a b:Bk):(a.app b).len=a.len+b.len:=by rw [<- Bk.cJ,Bk.AL,List.length_append,Bk.cJ,Bk.cJ]
theorem Bk.ai5 {x:aX} {a b r:Bk} (h:(Bk.cons x a b r).str) {hi lo:Int} (h1:hi=1+x.body) (h2:lo=1):((Bk.cons x a b r).flat.take hi.toNat).drop lo.toNat=a.flat:=by
 obtain ⟨g1,g2,_⟩:=h
 have la:=a.cJ
 rw [uR _ (a:=1) (n:=a.flat.length) (by omega) (by omega)]
 show (a.flat++(b.flat++r.flat)).take _=_
 rw [List.take_left]
theorem Bk.ai6 {x:aX} {a b r:Bk} (h:(Bk.cons x a b r).str) {hi lo:Int} (h1:hi=1+x.body+x.eG) (h2:lo=1+x.body):((Bk.cons x a b r).flat.take hi.toNat).drop lo.toNat=b.flat:=by
 obtain ⟨g1,g2,_⟩:=h
 have la:=a.cJ
 have lb:=b.cJ
 rw [uR _ (a:=1+a.flat.length) (n:=b.flat.length) (by omega) (by omega)]
 have e:(Bk.cons x a b r).flat=(x::a.flat)++(b.flat++r.flat):=by simp [Bk.flat]
 rw [e,show 1+a.flat.length=(x::a.flat).length from by simp; omega,List.drop_left,List.take_left]
def ux:Bk->Int
 | .nil=>0
 | .cons x a b r=>(if x.kind=12 then 2+ux a else if x.kind=11 then (if 0<x.eG then 1+ux a+ux b+1 else 1+ux a+ux b) else 1)+ux r
def toT (x:aX) (a:Bk) (at_:Int):Int:=if 0<x.eG then at_+1+ux a+1 else at_+1+ux a
def kP (s:ByteArray):ByteArray:=s.extract 0 (min (s.size:Int) 40).toNat
theorem lZ (s:ByteArray):(kP s).size<=40:=by
 unfold kP
 rw [ByteArray.size_extract]; omega
def Yc (x:bL):bL:={x with name:=kP x.name}
def tV (l:List bL):List bL:=(l.take 60).map Yc
def Mq (x:aX):aX:=⟨x.kind,kP x.eB,kP x.name,tV x.e,tV x.f,x.n,x.body,x.eG,x.at_⟩
def AN (l:List aX):List aX:=(l.take 50).map Mq
def Yd (c:bP):bP:={c with name:=kP c.name}
def gy (l:List bP):List bP:=(l.take 8).map Yd
def uy (t:bV):bV:=⟨kP t.name,(t.cW.take 6).map kP,AN t.body,t.at_⟩
def iM (l:List bV):List bV:=(l.take 4).map uy
def AO (c:gO):gO:=⟨tV c.e,c.at_⟩
def jB (p:bQ):bQ:=⟨(p.lines.take 6).map gy,gy p.fr,gy p.dL,iM p.threads,iM p.recover,(p.dF.take 6).map AO⟩
theorem nX {α:Type} {xs:List α} {k m:Nat} (h:k<=m) (h2:k<=xs.length) (h3:¬ (k<xs.length/\k<m)):xs.take k=xs.take m:=by
 rcases Nat.lt_or_ge k m with h4 | h4
 ·rw [List.take_of_length_le (by omega),List.take_of_length_le (by omega)]
 rw [show k=m from by omega]
theorem AP (l:List bL):(tV l).length<=60:=by unfold tV; rw [List.length_map,List.length_take]; omega
theorem Ey (l:List bL):∀ y∈tV l,y.name.size<=1048576:=by
 intro y hy
 obtain ⟨x,_,rfl⟩:=List.mem_map.1 hy
 have:=lZ x.name
 show (kP x.name).size<=_
 omega
theorem AQ (l:List bP):∀ y∈gy l,y.name.size<=1048576:=by
 intro y hy
 obtain ⟨x,_,rfl⟩:=List.mem_map.1 hy
 have:=lZ x.name
 show (kP x.name).size<=_
 omega
theorem xD (l:List bP):(gy l).length<=8:=by unfold gy; rw [List.length_map,List.length_take]; omega
theorem SH (l:List aX):(AN l).length<=50:=by unfold AN; rw [List.length_map,List.length_take]; omega
theorem AR (l:List bV):(iM l).length<=4:=by unfold iM; rw [List.length_map,List.length_take]; omega
theorem Ye (l:List aX):∀ y∈AN l,SzS y:=by
 intro y hy
 obtain ⟨x,_,rfl⟩:=List.mem_map.1 hy
 have h1:=lZ x.eB
 have h2:=lZ x.name
 have h3:=AP x.e
 have h4:=AP x.f
 exact ⟨by show (kP x.eB).size<=_; omega,by show (kP x.name).size<=_; omega,by show (tV x.e).length<=_; omega,by show (tV x.f).length<=_; omega,Ey _,Ey _⟩
theorem JV (t:bV):(uy t).cW.length<=6:=by show ((t.cW.take 6).map kP).length<=6; rw [List.length_map,List.length_take]; omega
theorem CF (l:List bV):∀ y∈iM l,NH y/\y.cW.length<=500/\y.body.length<=500:=by
 intro y hy
 obtain ⟨x,_,rfl⟩:=List.mem_map.1 hy
 have h1:=lZ x.name
 have h2:=JV x
 have h3:=SH x.body
 refine ⟨⟨by show (kP x.name).size<=_; omega,λ s hs=>?_,Ye _⟩,by omega,by show (AN x.body).length<=_; omega⟩
 obtain ⟨z,_,rfl⟩:=List.mem_map.1 (show s∈(x.cW.take 6).map kP from hs)
 have:=lZ z
 omega
theorem Yf (p:bQ):PZ (jB p):=by
 have hl:(jB p).lines.length<=6:=by show ((p.lines.take 6).map gy).length<=6; rw [List.length_map,List.length_take]; omega
 have hc:(jB p).dF.length<=6:=by show ((p.dF.take 6).map AO).length<=6; rw [List.length_map,List.length_take]; omega
 have h1:=xD p.fr
 have h2:=xD p.dL
 have h3:=AR p.threads
 have h4:=AR p.recover
 have U8:∀ t∈(jB p).threads++(jB p).recover,NH t/\t.cW.length<=500/\t.body.length<=500:=by
  intro t ht
  rcases List.mem_append.1 ht with h | h
  ·exact CF _ t h
  ·exact CF _ t h
 refine {lines:=by omega,line:=λ l h=>?_,fr:=by show (gy p.fr).length<=500; omega,dL:=by show (gy p.dL).length<=500; omega,threads:=by show (iM p.threads).length<=500; omega,recover:=by show (iM p.recover).length<=500; omega,dF:=by omega,cW:=λ t ht=>(U8 t ht).2.1,body:=λ t ht=>(U8 t ht).2.2,zl:=λ l h c hc=>?_,zv:=AQ _,zk:=AQ _,zt:=λ t ht=>(U8 t (List.mem_append_left _ ht)).1,zr:=λ t ht=>(U8 t (List.mem_append_right _ ht)).1,zc:=λ c h=>?_}
 ·obtain ⟨x,_,rfl⟩:=List.mem_map.1 (show l∈(p.lines.take 6).map gy from h)
  have:=xD x; omega
 ·obtain ⟨x,_,rfl⟩:=List.mem_map.1 (show l∈(p.lines.take 6).map gy from h)
  exact AQ x c hc
 obtain ⟨x,_,rfl⟩:=List.mem_map.1 (show c∈(p.dF.take 6).map AO from h)
 have:=AP x.e
 exact ⟨by show (tV x.e).length<=_; omega,Ey _⟩
theorem C48 (lv:Value) (xs:List bL) (w:World) (hL:dx (λ _=>True) w lv xs):CR 48 [lv] w (λ v w'=>mZ (bJ v (tV xs)) w w'):=by
 have hs:=St.start w;refine tN Tryz.func48 ?_;refine cO (([]:List bL)) hs kq rfl rfl (fw rfl) (λ ai7 w1 hs=>?_);refine ⟨λ m fp x w1=>∃ k:Nat,x = .int .i64 (k:Int)/\m=60 - k/\k<=60/\k<=xs.length/\St w bD [bJ fp ((xs.take k).map Yc)] w1,⟨_,0,rfl,rfl,by omega,by omega,hs⟩,?_⟩;rintro m fp _ _ ⟨k,rfl,rfl,hk,wP,hs⟩ _;have Ez:((xs.take k).map Yc).length=k:=by rw [List.length_map,List.length_take]; omega
 refine ⟨λ jv w'=>jv = .bool (decide (k<xs.length/\k<60))/\St w bD [bJ fp ((xs.take k).map Yc)] w',aG kq (hL.ext hs.aE) (aS (aC (λ _=>aS ⟨vb (by grind),hs⟩) (λ _=>⟨vb (by grind),hs⟩))),?_⟩;rintro _ _ ⟨rfl,hs⟩ _;refine bI (λ je=>?_) (λ je=>?_)
 ·have ai8:k<xs.length/\k<60:=by simpa using je
  obtain ⟨iq,fE⟩:=gx (xs) (i:=((k:Int)).toNat) (by omega);refine aU kq hL (by omega) fE (λ _ mE=>aF zQ (mE.ext hs.aE) (aN hs DC (λ adk _ hs=>aO (x:=iq) hs zQ rfl rfl (λ _ hs=>aA kW (aB (v:=.string ((iq).name)) kp hs.hb rfl (aA kW (aB (v:=.string ((iq).name)) kp hs.hb rfl (j7 rR (qy (lW rR (by omega) (by omega) (aA kW (bF hs kp (fw rfl) (rfl) (λ _ hs=>?_)))))))))))));have hs:=hs.enc (cs':=Flat.enc ({iq with name:=(((iq).name).extract 0 ((min (((iq).name).size:Int) 40)).toNat)}:bL)) rfl;refine aF zQ hs.At (cO ([({iq with name:=(((iq).name).extract 0 ((min (((iq).name).size:Int) 40)).toNat)}:bL)]) hs kq rfl rfl (fw rfl) (λ ai9 _ hs=>?_))
  have JW:=(hs).gg;exact dw hs.p2 kq JW (by rw [Ez,List.length_singleton]; omega) (by decide) (λ _ _ hs=>have hs:=hs.p1.drop;aT (by omega) (have hs:=(hs.p1).drop;⟨_,by omega,k+1,rfl,rfl,by omega,by omega,by rw [<- fO (k:=k) fE]; exact hs⟩))
 rw [nX (xs:=xs) (k:=k) (m:=60) (by omega) (by omega) (of_decide_eq_false je)] at hs;exact hs.fresh
theorem C46 (lv:Value) (xs:List bP) (w:World) (hL:dx (λ _=>True) w lv xs):CR 46 [lv] w (λ v w'=>mZ (bJ v (gy xs)) w w'):=by
 have hs:=St.start w;refine tN Tryz.func46 ?_;refine cO (([]:List bP)) hs nk rfl rfl (fw rfl) (λ ai7 w1 hs=>?_);refine ⟨λ m fp x w1=>∃ k:Nat,x = .int .i64 (k:Int)/\m=8 - k/\k<=8/\k<=xs.length/\St w bD [bJ fp ((xs.take k).map Yd)] w1,⟨_,0,rfl,rfl,by omega,by omega,hs⟩,?_⟩;rintro m fp _ _ ⟨k,rfl,rfl,hk,wP,hs⟩ _;have Ez:((xs.take k).map Yd).length=k:=by rw [List.length_map,List.length_take]; omega
 refine ⟨λ jv w'=>jv = .bool (decide (k<xs.length/\k<8))/\St w bD [bJ fp ((xs.take k).map Yd)] w',aG nk (hL.ext hs.aE) (aS (aC (λ _=>aS ⟨vb (by grind),hs⟩) (λ _=>⟨vb (by grind),hs⟩))),?_⟩;rintro _ _ ⟨rfl,hs⟩ _;refine bI (λ je=>?_) (λ je=>?_)
 ·have ai8:k<xs.length/\k<8:=by simpa using je
  obtain ⟨iq,fE⟩:=gx (xs) (i:=((k:Int)).toNat) (by omega);refine aU nk hL (by omega) fE (λ _ mE=>aF mr (mE.ext hs.aE) (aN hs oA (λ aoy _ hs=>aO (x:=iq) hs mr rfl rfl (λ _ hs=>aA mu (aB (v:=.string ((iq).name)) kp hs.hb rfl (aA mu (aB (v:=.string ((iq).name)) kp hs.hb rfl (j7 rR (qy (lW rR (by omega) (by omega) (aA mu (bF hs kp (fw rfl) (rfl) (λ _ hs=>?_)))))))))))));have hs:=hs.enc (cs':=Flat.enc ({iq with name:=(((iq).name).extract 0 ((min (((iq).name).size:Int) 40)).toNat)}:bP)) rfl;refine aF mr hs.At (cO ([({iq with name:=(((iq).name).extract 0 ((min (((iq).name).size:Int) 40)).toNat)}:bP)]) hs nk rfl rfl (fw rfl) (λ ai9 _ hs=>?_))
  have JW:=(hs).gg;exact dw hs.p2 nk JW (by rw [Ez,List.length_singleton]; omega) (by decide) (λ _ _ hs=>have hs:=hs.p1.drop;aT (by omega) (have hs:=(hs.p1).drop;⟨_,by omega,k+1,rfl,rfl,by omega,by omega,by rw [<- fO (k:=k) fE]; exact hs⟩))
 rw [nX (xs:=xs) (k:=k) (m:=8) (by omega) (by omega) (of_decide_eq_false je)] at hs;exact hs.fresh
theorem C101 (lv:Value) (xs:List aX) (w:World) (hL:DL w lv xs):CR 101 [lv] w (λ v w'=>mZ (fq v (AN xs)) w w'):=by
 have hs:=St.start w;refine tN Tryz.func101 ?_;refine sd (α:=aX) hs iV (λ ai7 w1 hs=>?_);refine ⟨λ m fp x w1=>∃ k:Nat,x = .int .i64 (k:Int)/\m=50 - k/\k<=50/\k<=xs.length/\St w bD [fq fp ((xs.take k).map Mq)] w1,⟨_,0,rfl,rfl,by omega,by omega,hs⟩,?_⟩;rintro m fp _ _ ⟨k,rfl,rfl,hk,wP,hs⟩ _;have Ez:((xs.take k).map Mq).length=k:=by rw [List.length_map,List.length_take]; omega
 refine ⟨λ jv w'=>jv = .bool (decide (k<xs.length/\k<50))/\St w bD [fq fp ((xs.take k).map Mq)] w',?_,?_⟩
 ·obtain ⟨ts60,aoz,aoA⟩:=(hL).open;have hn60:=aoA.1;exact aG iV (aoz.ext hs.aE) (aS (aC (λ _=>aS ⟨vb (by grind),hs⟩) (λ _=>⟨vb (by grind),hs⟩)))
 rintro _ _ ⟨rfl,hs⟩ _;refine bI (λ je=>?_) (λ je=>?_)
 ·have ai8:k<xs.length/\k<50:=by simpa using je
  obtain ⟨aoB,aoC,aja⟩:=(hL).open;have hn61:=aja.1;obtain ⟨iq,fE⟩:=gx aoB (i:=((k:Int)).toNat) (by omega);obtain ⟨aJ,l3⟩:=gx (xs) (i:=((k:Int)).toNat) (by omega);obtain ⟨jF,jn,rfl,Mr,Ms⟩:=aja.2 _ _ _ fE l3;refine aU iV aoC (by omega) fE (λ _ mE=>aF mq (mE.ext hs.aE) (aN hs nK (λ adk _ hs=>have hs:=hs.enc (cs':=Flat.enc (⟨0,(ByteArray.mk #[]),(ByteArray.mk #[]),⟨none,0,0⟩,⟨none,0,0⟩,0,0,0,0⟩:aW)) rfl;aO (x:=(⟨(aJ).kind,(aJ).eB,(aJ).name,jF,jn,(aJ).n,(aJ).body,(aJ).eG,(aJ).at_⟩:aW)) hs mq rfl rfl (λ _ hs=>aA nc (aB (v:=.string ((aJ).eB)) kp hs.hb rfl (aA nc (aB (v:=.string ((aJ).eB)) kp hs.hb rfl (j7 rR (qy (lW rR (by omega) (by omega) (aA nc ?_)))))))))))
  have aoD:=DL.flat (Mr);have aoE:=DL.flat (Ms);refine bF hs kp (fw rfl) (rfl) (λ _ hs=>have hs:=hs.enc (cs':=Flat.enc (⟨(aJ).kind,(((aJ).eB).extract 0 ((min (((aJ).eB).size:Int) 40)).toNat),(aJ).name,jF,jn,(aJ).n,(aJ).body,(aJ).eG,(aJ).at_⟩:aW)) rfl;aA ng (aB (v:=.string (aJ).name) kp hs.hb rfl (aA ng (aB (v:=.string (aJ).name) kp hs.hb rfl (j7 rR (qy (lW rR (by omega) (by omega) (aA ng (bF hs kp (fw rfl) (rfl) (λ _ hs=>have hs:=hs.enc (cs':=Flat.enc (⟨(aJ).kind,(((aJ).eB).extract 0 ((min (((aJ).eB).size:Int) 40)).toNat),(((aJ).name).extract 0 ((min (((aJ).name).size:Int) 40)).toNat),jF,jn,(aJ).n,(aJ).body,(aJ).eG,(aJ).at_⟩:aW)) rfl;aA nh (aB (v:=Flat.val (jF:SV)) m9 hs.hb rfl (dA abI hs (C48 _ _ _ (aoD.ext hs.aE)) (λ x39 _ cL hs=>?_)))))))))))))
  refine aA nh ?_;obtain ⟨uX,rfl⟩:=(hs).eT;refine bF hs.p1 m9 (fw rfl) (rfl) (λ _ hs=>have hs:=hs.enc (cs':=Flat.enc (⟨(aJ).kind,(((aJ).eB).extract 0 ((min (((aJ).eB).size:Int) 40)).toNat),(((aJ).name).extract 0 ((min (((aJ).name).size:Int) 40)).toNat),uX,jn,(aJ).n,(aJ).body,(aJ).eG,(aJ).at_⟩:aW)) rfl;aA oy (aB (v:=Flat.val (jn:SV)) m9 hs.hb rfl (dA abI hs (C48 _ _ _ (aoE.ext hs.aE)) (λ x43 _ cL hs=>aA oy ?_))));obtain ⟨JX,rfl⟩:=(hs).eT;exact bF hs.p1 m9 (fw rfl) (rfl) (λ _ hs=>have hs:=hs.enc (cs':=Flat.enc (⟨(aJ).kind,(((aJ).eB).extract 0 ((min (((aJ).eB).size:Int) 40)).toNat),(((aJ).name).extract 0 ((min (((aJ).name).size:Int) 40)).toNat),uX,JX,(aJ).n,(aJ).body,(aJ).eG,(aJ).at_⟩:aW)) rfl;aF mq hs.At (have hs:=hs.p2.freeze.p2.freeze.p1.ey.fC (Ψ:=(λ w=>Deep.dr w (⟨(aJ).kind,(((aJ).eB).extract 0 ((min (((aJ).eB).size:Int) 40)).toNat),(((aJ).name).extract 0 ((min (((aJ).name).size:Int) 40)).toNat),uX,JX,(aJ).n,(aJ).body,(aJ).eG,(aJ).at_⟩:aW) (⟨(aJ).kind,(((aJ).eB).extract 0 ((min (((aJ).eB).size:Int) 40)).toNat),(((aJ).name).extract 0 ((min (((aJ).name).size:Int) 40)).toNat),(tV (aJ).e),(tV (aJ).f),(aJ).n,(aJ).body,(aJ).eG,(aJ).at_⟩:aX))) (λ _ h=>⟨_,_,rfl,DL.jS h.1,DL.jS h.2⟩);gu (s:=(⟨(aJ).kind,(((aJ).eB).extract 0 ((min (((aJ).eB).size:Int) 40)).toNat),(((aJ).name).extract 0 ((min (((aJ).name).size:Int) 40)).toNat),uX,JX,(aJ).n,(aJ).body,(aJ).eG,(aJ).at_⟩:aW)) (x:=(⟨(aJ).kind,(((aJ).eB).extract 0 ((min (((aJ).eB).size:Int) 40)).toNat),(((aJ).name).extract 0 ((min (((aJ).name).size:Int) 40)).toNat),(tV (aJ).e),(tV (aJ).f),(aJ).n,(aJ).body,(aJ).eG,(aJ).at_⟩:aX)) hs iV (by decide) (λ _ _ hs=>have hs:=hs.p2;gv hs iV (by rw [Ez,List.length_singleton]; omega) (by decide) (λ _ _ hs=>aT (by omega) (have hs:=(hs.p1).drop;⟨_,by omega,k+1,rfl,rfl,by omega,by omega,by rw [<- fO (k:=k) l3]; exact hs⟩)))))
 rw [nX (xs:=xs) (k:=k) (m:=50) (by omega) (by omega) (of_decide_eq_false je)] at hs;exact hs.fresh
theorem C47 (lv:Value) (xs:List bV) (w:World) (hL:DL w lv xs):CR 47 [lv] w (λ v w'=>mZ (fq v (iM xs)) w w'):=by
 have hs:=St.start w;refine Vq Tryz.func47 (pl:=P47) ?_;refine sd (α:=bV) hs iO (λ aoF w1 hs=>?_);refine ⟨λ m fp x w1=>∃ k:Nat,x = .int .i64 (k:Int)/\m=4 - k/\k<=4/\k<=xs.length/\St w bD [fq fp ((xs.take k).map uy)] w1,⟨_,0,rfl,rfl,by omega,by omega,hs⟩,?_⟩;rintro m fp _ _ ⟨k,rfl,rfl,hk,wP,hs⟩ _;have Ez:((xs.take k).map uy).length=k:=by rw [List.length_map,List.length_take]; omega
 refine ⟨λ jv w'=>jv = .bool (decide (k<xs.length/\k<4))/\St w bD [fq fp ((xs.take k).map uy)] w',?_,?_⟩
 ·obtain ⟨ts64,aoG,aoH⟩:=(hL).open;have hn64:=aoH.1;exact aG iO (aoG.ext hs.aE) (aS (aC (λ _=>aS ⟨vb (by grind),hs⟩) (λ _=>⟨vb (by grind),hs⟩)))
 rintro _ _ ⟨rfl,hs⟩ _;refine bI (λ j8=>?_) (λ j8=>?_)
 ·have hc15:k<xs.length/\k<4:=by simpa using j8
  obtain ⟨aoI,JY,ajb⟩:=(hL).open;have hn65:=ajb.1;obtain ⟨e_x20,sE⟩:∃ xx,aoI[((k:Int)).toNat]? = some xx:=⟨_,List.getElem?_eq_getElem (by omega)⟩;obtain ⟨eE,Er⟩:∃ xx,(xs)[((k:Int)).toNat]? = some xx:=⟨_,List.getElem?_eq_getElem (by omega)⟩;obtain ⟨uY,JZ,rfl,AS,AT⟩:=ajb.2 _ _ _ sE Er;refine ⟨λ mL w'=>St w bD [fq mL ((xs.take k).map uy++[uy eE])] w',⟨λ jv w'=>∃ (AU:Nat) (BM:SV),jv = .pointer (some ⟨AU,0,none⟩)/\St w bD [cP AU (Flat.enc (⟨((eE).name.extract 0 (min (((eE).name).size:Int) 40).toNat),⟨none,0,0⟩,BM,(eE).at_⟩:bR)),fq (Flat.val BM) (AN (eE).body),fq fp ((xs.take k).map uy)] w',?_,?_⟩,?_⟩
  ·refine aU iO JY (by omega) sE (λ _ SJ=>ee (eE).name sW SJ rfl rfl (λ _ AI=>have hs:=hs.drew;aF kp (AI.ext hs.aE) (aU iO JY (by omega) sE (λ _ Hv=>ee (eE).name sW Hv rfl rfl (λ _ AV=>aF kp (AV.ext hs.aE) (j7 rR (qy (lW rR (by omega) (by omega) (aU iO JY (by omega) sE (λ _ Mh=>ee (eE).at_ y9 Mh rfl rfl (λ _ sF=>aF cK (sF.ext hs.aE) (aU iO JY (by omega) sE (λ _ yu=>ee JZ sX yu rfl rfl (λ _ Hw=>aF zR (Hw.ext hs.aE) ⟨?_,⟨?_,?_⟩⟩))))))))))))))
   ·refine dA ZO hs (C101 _ _ _ (AT.ext hs.aE)) (λ x41 _ cL hs=>?_);refine ⟨fZ kp (AI.ext hs.aE),?_⟩;refine ⟨fZ kp (AV.ext hs.aE),?_⟩;refine ⟨fZ cK (sF.ext hs.aE),?_⟩;obtain ⟨adw,rfl⟩:=(hs).oC;refine pop (yf _ _ _ _ _) (aN hs rS (λ b_t5 _ hs=>?_));have hs:=hs.enc (cs':=Flat.enc (⟨(ByteArray.mk #[]),⟨none,0,0⟩,⟨none,0,0⟩,0⟩:bR)) rfl;refine ⟨fZ kp (AI.ext hs.aE),?_⟩;refine ⟨fZ kp (AV.ext hs.aE),?_⟩;refine ⟨fZ cK (sF.ext hs.aE),?_⟩;refine ⟨fZ zR (Hw.ext hs.aE),?_⟩;exact aO (x:=(⟨(((eE).name).extract 0 ((min (((eE).name).size:Int) 40)).toNat),⟨none,0,0⟩,adw,(eE).at_⟩:bR)) hs py rfl rfl (λ _ hs=>have hs:=hs.p2.p2.p2;⟨_,_,rfl,hs⟩)
   ·refine aN hs rS (λ aoJ _ hs=>?_);have hs:=hs.enc (cs':=Flat.enc (⟨(ByteArray.mk #[]),⟨none,0,0⟩,⟨none,0,0⟩,0⟩:bR)) rfl;refine ⟨fZ kp (AI.ext hs.aE),?_⟩;refine ⟨fZ kp (AV.ext hs.aE),?_⟩;refine ⟨fZ cK (sF.ext hs.aE),?_⟩;refine ⟨fZ zR (Hw.ext hs.aE),?_⟩;refine dA ZO hs (C101 _ _ _ (AT.ext hs.aE)) (λ x41_1 _ cL hs=>?_);refine ⟨fZ kp (AI.ext hs.aE),?_⟩;refine ⟨fZ kp (AV.ext hs.aE),?_⟩;refine ⟨fZ cK (sF.ext hs.aE),?_⟩;obtain ⟨SK,rfl⟩:=(hs).oC;exact pop (yf _ _ _ _ _) (aO (x:=(⟨(((eE).name).extract 0 ((min (((eE).name).size:Int) 40)).toNat),⟨none,0,0⟩,SK,(eE).at_⟩:bR)) hs.p1 py rfl rfl (λ _ hs=>have hs:=hs.p2.p2.p2;⟨_,_,rfl,hs⟩))
   trivial
  ·rintro _ _ ⟨AU,BM,rfl,hs⟩ _;have hs:=((((hs.fy (α:=ByteArray)).p3).p3).p2).p3;refine ⟨λ m x w1=>∃ (j:Nat) (Hx:SV),x = .int .i64 (j:Int)/\m=6 - j/\j<=6/\j<=(eE).cW.length/\St w bD [cP AU (Flat.enc (⟨((eE).name.extract 0 (min (((eE).name).size:Int) 40).toNat),Hx,BM,(eE).at_⟩:bR)),bJ (Flat.val Hx) (((eE).cW.take j).map kP),fq (Flat.val BM) (AN (eE).body),fq fp ((xs.take k).map uy)] w1,⟨_,0,⟨none,0,0⟩,rfl,rfl,by omega,by omega,hs⟩,?_⟩;rintro m _ _ ⟨j,Hx,rfl,rfl,hj,CG,hs⟩ _;have adx:(((eE).cW.take j).map kP).length=j:=by rw [List.length_map,List.length_take]; omega
   refine ⟨λ jv w'=>jv = .bool (decide (j<(eE).cW.length/\j<6))/\St w bD [cP AU (Flat.enc (⟨((eE).name.extract 0 (min (((eE).name).size:Int) 40).toNat),Hx,BM,(eE).at_⟩:bR)),bJ (Flat.val Hx) (((eE).cW.take j).map kP),fq (Flat.val BM) (AN (eE).body),fq fp ((xs.take k).map uy)] w',?_,?_⟩
   ·refine aU iO JY (by omega) sE (λ _ ajc=>ee uY kX ajc rfl rfl (λ _ Ho=>aF lL (Ho.ext hs.aE) ?_));have aoK:=DL.flat (AS);exact aG nj (aoK.ext hs.aE) (aS (aC (λ _=>aS ⟨vb (by grind),hs⟩) (λ _=>⟨vb (by grind),hs⟩)))
   rintro _ _ ⟨rfl,hs⟩ _;refine bI (λ SL=>?_) (λ SL=>?_)
   ·have hc54:j<(eE).cW.length/\j<6:=by simpa using SL
    refine aA kX (have hs:=hs.drew;aB (v:=Flat.val (Hx:SV)) lL hs.hb rfl (aU iO JY (by omega) sE (λ _ ajd=>ee uY kX ajd rfl rfl (λ _ SM=>aF lL (SM.ext hs.aE) ?_))));have aje:=DL.flat (AS);obtain ⟨aa3,J0⟩:=gx ((eE).cW) (i:=((j:Int)).toNat) (by omega);refine aU nj aje (by omega) J0 (λ _ Mt=>aF kp (Mt.ext hs.aE) (aU iO JY (by omega) sE (λ _ ajf=>ee uY kX ajf rfl rfl (λ _ ajg=>aF lL (ajg.ext hs.aE) (aU nj aje (by omega) J0 (λ _ ajh=>aF kp (ajh.ext hs.aE) (j7 rR (qy (lW rR (by omega) (by omega) (cO ([((aa3).extract 0 ((min ((aa3).size:Int) 40)).toNat)]) hs nj rfl rfl (fw rfl) (λ s_x78 _ hs=>?_)))))))))))
    refine ⟨aD lL (hs.p1.hb.cell rfl),?_⟩;have ady:=(hs).gg;refine dw hs.p2 nj ady (by rw [adx,List.length_singleton]; omega) (by decide) (λ s_x79 _ hs=>have hs:=hs.p1.drop;aA kX ?_);obtain ⟨SN,rfl⟩:=(hs).eT;exact bF hs.p1 lL (fw rfl) (rfl) (λ _ hs=>have hs:=hs.enc (cs':=Flat.enc (⟨((eE).name.extract 0 (min (((eE).name).size:Int) 40).toNat),SN,BM,(eE).at_⟩:bR)) rfl;aT (by omega) (have hs:=hs.p3.p3.p3.p3;⟨_,by omega,j+1,SN,rfl,rfl,by omega,by omega,by rw [<- fO (k:=j) J0]; exact hs⟩))
   refine aF py hs.At (have hs:=hs.p1.freeze.p2.gJ.p1.ey.fC (Ψ:=(λ w=>Deep.dr w (⟨((eE).name.extract 0 (min (((eE).name).size:Int) 40).toNat),Hx,BM,(eE).at_⟩:bR) (⟨((eE).name.extract 0 (min (((eE).name).size:Int) 40).toNat),(((eE).cW.take j).map kP),(AN (eE).body),(eE).at_⟩:bV))) (λ _ h=>⟨_,_,rfl,DL.jS h.1,h.2⟩);gu (s:=(⟨((eE).name.extract 0 (min (((eE).name).size:Int) 40).toNat),Hx,BM,(eE).at_⟩:bR)) (x:=(⟨((eE).name.extract 0 (min (((eE).name).size:Int) 40).toNat),(((eE).cW.take j).map kP),(AN (eE).body),(eE).at_⟩:bV)) hs iO (by decide) (λ s_x83 _ hs=>have hs:=hs.p2;gv hs iO (by rw [Ez,List.length_singleton]; omega) (by decide) (λ s_x84 _ hs=>?_)))
   have hs:=(hs.p1).drop;rw [nX (xs:=(eE).cW) (k:=j) (m:=6) (by omega) (by omega) (of_decide_eq_false SL)] at hs;exact hs
  rintro mL _ hs _;exact aT (by omega) ⟨_,by omega,k+1,rfl,rfl,by omega,by omega,by rw [<- fO (k:=k) Er]; exact hs⟩
 rw [nX (xs:=xs) (k:=k) (m:=4) (by omega) (by omega) (of_decide_eq_false j8)] at hs;exact hs.fresh
theorem C10 (p:bQ) (pv:bE) (w:World) (hp:Deep.dr w pv p):CR 10 [Flat.val pv] w (λ v w'=>∃ qv:bE,v=Flat.val qv/\mZ (e9 (λ w=>Deep.dr w qv (jB p))) w w'):=by
 obtain ⟨bX,cN,cB,bK,bN,bU,rfl,ep,fQ,fI,dR,dS,eQ⟩:=hp;have hs:=St.start w;refine Vq Tryz.func10 (pl:=Vr) ?_;refine cZ hs (λ uZ w1 hs=>aN hs mN (λ Jj _ hs=>have hs:=hs.enc (cs':=Flat.enc (⟨⟨none,0,0⟩,⟨none,0,0⟩,⟨none,0,0⟩,⟨none,0,0⟩,⟨none,0,0⟩,⟨none,0,0⟩⟩:bE)) rfl;⟨λ jv w'=>∃ (u0:Nat) (J1 J2 J3 J4:SV),jv = .pointer (some ⟨u0,0,none⟩)/\St w bD [cP u0 (Flat.enc (⟨⟨none,0,0⟩,J1,J2,J3,J4,⟨none,0,0⟩⟩:bE)),bJ (Flat.val J1) (gy p.fr),bJ (Flat.val J2) (gy p.dL),fq (Flat.val J3) (iM p.threads),fq (Flat.val J4) (iM p.recover),cP uZ (Flat.enc (⟨bX,cN,cB,bK,bN,bU⟩:bE)),cP Jj (Flat.enc (⟨⟨none,0,0⟩,⟨none,0,0⟩,⟨none,0,0⟩,⟨none,0,0⟩,⟨none,0,0⟩,⟨none,0,0⟩⟩:bE))] w',?_,?_⟩))
 ·refine aA vG (have hs:=hs.drew;aB iP hs.p1.hb rfl ?_);have aji:=DL.flat (fQ);refine aA sY (aB iP hs.p1.hb rfl ?_);have adz:=DL.flat (fI);refine aA qo (aB fg hs.p1.hb rfl (aA sZ (aB fg hs.p1.hb rfl ⟨dA Ns hs (C46 _ _ _ (aji.ext hs.aE)) (λ x8 _ cL hs=>⟨aD iP (hs.p2.hb.cell rfl),⟨aD fg (hs.p2.hb.cell rfl),⟨aD fg (hs.p2.hb.cell rfl),⟨dA Ns hs (C46 _ _ _ (adz.ext hs.aE)) (λ x11 _ cL hs=>⟨aD fg (hs.p3.hb.cell rfl),⟨aD fg (hs.p3.hb.cell rfl),⟨dA Du hs (C47 _ _ _ (dR.ext hs.aE)) (λ x14 _ cL hs=>⟨aD fg (hs.p4.hb.cell rfl),⟨?_,⟨?_,?_⟩⟩⟩),⟨?_,?_⟩⟩⟩⟩),⟨?_,?_⟩⟩⟩⟩⟩),⟨?_,?_⟩⟩)))
  ·refine dA Du hs (C47 _ _ _ (dS.ext hs.aE)) (λ x17 _ cL hs=>?_);obtain ⟨AW,rfl⟩:=(hs.p3).eT;obtain ⟨AX,rfl⟩:=(hs.p2).eT;obtain ⟨J5,rfl⟩:=(hs.p1).oC;obtain ⟨adA,rfl⟩:=(hs).oC;refine pop (fu _ _ _ _ _ _ _ _ _ _ _ _) (aN hs mN (λ b_q3 _ hs=>?_));have hs:=hs.enc (cs':=Flat.enc (⟨⟨none,0,0⟩,⟨none,0,0⟩,⟨none,0,0⟩,⟨none,0,0⟩,⟨none,0,0⟩,⟨none,0,0⟩⟩:bE)) rfl;refine ⟨aD iP (hs.p6.hb.cell rfl),?_⟩;refine ⟨aD iP (hs.p6.hb.cell rfl),?_⟩;refine ⟨aD fg (hs.p6.hb.cell rfl),?_⟩;refine ⟨aD fg (hs.p6.hb.cell rfl),?_⟩;exact aO (x:=(⟨⟨none,0,0⟩,AW,AX,J5,adA,⟨none,0,0⟩⟩:bE)) hs gR rfl rfl (λ _ hs=>have hs:=hs.p5.p6.p3.p4.p5.p6.p6;⟨_,_,_,_,_,rfl,hs⟩)
  ·refine aN hs mN (λ aoL _ hs=>?_);have hs:=hs.enc (cs':=Flat.enc (⟨⟨none,0,0⟩,⟨none,0,0⟩,⟨none,0,0⟩,⟨none,0,0⟩,⟨none,0,0⟩,⟨none,0,0⟩⟩:bE)) rfl;refine ⟨aD iP (hs.p5.hb.cell rfl),?_⟩;refine ⟨aD iP (hs.p5.hb.cell rfl),?_⟩;refine ⟨aD fg (hs.p5.hb.cell rfl),?_⟩;refine ⟨aD fg (hs.p5.hb.cell rfl),?_⟩;refine dA Du hs (C47 _ _ _ (dS.ext hs.aE)) (λ x17_1 _ cL hs=>?_);obtain ⟨AW,rfl⟩:=(hs.p4).eT;obtain ⟨AX,rfl⟩:=(hs.p3).eT;obtain ⟨J5,rfl⟩:=(hs.p2).oC;obtain ⟨SO,rfl⟩:=(hs).oC;exact pop (fu _ _ _ _ _ _ _ _ _ _ _ _) (aO (x:=(⟨⟨none,0,0⟩,AW,AX,J5,SO,⟨none,0,0⟩⟩:bE)) hs.p1 gR rfl rfl (λ _ hs=>have hs:=hs.p5.p6.p3.p4.p5.p6.p6;⟨_,_,_,_,_,rfl,hs⟩))
  ·trivial
  ·refine aN hs mN (λ aoM _ hs=>?_);have hs:=hs.enc (cs':=Flat.enc (⟨⟨none,0,0⟩,⟨none,0,0⟩,⟨none,0,0⟩,⟨none,0,0⟩,⟨none,0,0⟩,⟨none,0,0⟩⟩:bE)) rfl;refine ⟨aD iP (hs.p4.hb.cell rfl),?_⟩;refine ⟨aD iP (hs.p4.hb.cell rfl),?_⟩;refine ⟨aD fg (hs.p4.hb.cell rfl),?_⟩;refine ⟨aD fg (hs.p4.hb.cell rfl),?_⟩;refine dA Du hs (C47 _ _ _ (dR.ext hs.aE)) (λ x14_1 _ cL hs=>?_);refine ⟨aD fg (hs.p5.hb.cell rfl),?_⟩;refine dA Du hs (C47 _ _ _ (dS.ext hs.aE)) (λ x17_2 _ cL hs=>?_);obtain ⟨AW,rfl⟩:=(hs.p4).eT;obtain ⟨AX,rfl⟩:=(hs.p3).eT;obtain ⟨SP,rfl⟩:=(hs.p1).oC
   obtain ⟨SQ,rfl⟩:=(hs).oC;exact pop (fu _ _ _ _ _ _ _ _ _ _ _ _) (aO (x:=(⟨⟨none,0,0⟩,AW,AX,SP,SQ,⟨none,0,0⟩⟩:bE)) hs.p2 gR rfl rfl (λ _ hs=>have hs:=hs.p5.p6.p3.p4.p5.p6.p6;⟨_,_,_,_,_,rfl,hs⟩))
  ·trivial
  ·refine aN hs mN (λ aoN _ hs=>?_);have hs:=hs.enc (cs':=Flat.enc (⟨⟨none,0,0⟩,⟨none,0,0⟩,⟨none,0,0⟩,⟨none,0,0⟩,⟨none,0,0⟩,⟨none,0,0⟩⟩:bE)) rfl;refine ⟨aD iP (hs.p3.hb.cell rfl),?_⟩;refine ⟨aD iP (hs.p3.hb.cell rfl),?_⟩;refine ⟨aD fg (hs.p3.hb.cell rfl),?_⟩;refine ⟨aD fg (hs.p3.hb.cell rfl),?_⟩;refine dA Ns hs (C46 _ _ _ (adz.ext hs.aE)) (λ x11_1 _ cL hs=>?_);refine ⟨aD fg (hs.p4.hb.cell rfl),?_⟩;refine ⟨aD fg (hs.p4.hb.cell rfl),?_⟩;refine dA Du hs (C47 _ _ _ (dR.ext hs.aE)) (λ x14_2 _ cL hs=>?_);refine ⟨aD fg (hs.p5.hb.cell rfl),?_⟩
   refine dA Du hs (C47 _ _ _ (dS.ext hs.aE)) (λ x17_3 _ cL hs=>?_);obtain ⟨AW,rfl⟩:=(hs.p4).eT;obtain ⟨SR,rfl⟩:=(hs.p2).eT;obtain ⟨SS,rfl⟩:=(hs.p1).oC;obtain ⟨SU,rfl⟩:=(hs).oC;exact pop (fu _ _ _ _ _ _ _ _ _ _ _ _) (aO (x:=(⟨⟨none,0,0⟩,AW,SR,SS,SU,⟨none,0,0⟩⟩:bE)) hs.p3 gR rfl rfl (λ _ hs=>have hs:=hs.p5.p6.p3.p4.p5.p6.p6;⟨_,_,_,_,_,rfl,hs⟩))
  ·trivial
  ·refine aN hs mN (λ aoO _ hs=>?_);have hs:=hs.enc (cs':=Flat.enc (⟨⟨none,0,0⟩,⟨none,0,0⟩,⟨none,0,0⟩,⟨none,0,0⟩,⟨none,0,0⟩,⟨none,0,0⟩⟩:bE)) rfl;refine ⟨aD iP (hs.p2.hb.cell rfl),?_⟩;refine ⟨aD iP (hs.p2.hb.cell rfl),?_⟩;refine ⟨aD fg (hs.p2.hb.cell rfl),?_⟩;refine ⟨aD fg (hs.p2.hb.cell rfl),?_⟩;refine dA Ns hs (C46 _ _ _ (aji.ext hs.aE)) (λ x8_1 _ cL hs=>?_);refine ⟨aD iP (hs.p3.hb.cell rfl),?_⟩;refine ⟨aD fg (hs.p3.hb.cell rfl),?_⟩;refine ⟨aD fg (hs.p3.hb.cell rfl),?_⟩;refine dA Ns hs (C46 _ _ _ (adz.ext hs.aE)) (λ x11_2 _ cL hs=>?_);refine ⟨aD fg (hs.p4.hb.cell rfl),?_⟩
   refine ⟨aD fg (hs.p4.hb.cell rfl),?_⟩;refine dA Du hs (C47 _ _ _ (dR.ext hs.aE)) (λ x14_3 _ cL hs=>?_);refine ⟨aD fg (hs.p5.hb.cell rfl),?_⟩;refine dA Du hs (C47 _ _ _ (dS.ext hs.aE)) (λ x17_4 _ cL hs=>?_);obtain ⟨Yg,rfl⟩:=(hs.p3).eT;obtain ⟨SW,rfl⟩:=(hs.p2).eT;obtain ⟨SX,rfl⟩:=(hs.p1).oC;obtain ⟨SY,rfl⟩:=(hs).oC;exact pop (fu _ _ _ _ _ _ _ _ _ _ _ _) (aO (x:=(⟨⟨none,0,0⟩,Yg,SW,SX,SY,⟨none,0,0⟩⟩:bE)) hs.p4 gR rfl rfl (λ _ hs=>have hs:=hs.p5.p6.p3.p4.p5.p6.p6;⟨_,_,_,_,_,rfl,hs⟩))
  trivial
 rintro _ _ ⟨u0,J1,J2,J3,J4,rfl,hs⟩ _;have hs:=((((((((hs.DZ (α:=(List bP))).p7).p7).p7).p7).p7).p7).p6).p7;refine ⟨λ m x w1=>∃ (k:Nat) (sl:SV),x = .int .i64 (k:Int)/\m=6 - k/\k<=6/\k<=p.lines.length/\St w bD [cP u0 (Flat.enc (⟨sl,J1,J2,J3,J4,⟨none,0,0⟩⟩:bE)),fq (Flat.val sl) ((p.lines.take k).map gy),bJ (Flat.val J1) (gy p.fr),bJ (Flat.val J2) (gy p.dL),fq (Flat.val J3) (iM p.threads),fq (Flat.val J4) (iM p.recover),cP uZ (Flat.enc (⟨bX,cN,cB,bK,bN,bU⟩:bE)),cP Jj (Flat.enc (⟨⟨none,0,0⟩,⟨none,0,0⟩,⟨none,0,0⟩,⟨none,0,0⟩,⟨none,0,0⟩,⟨none,0,0⟩⟩:bE))] w1,⟨_,0,⟨none,0,0⟩,rfl,rfl,by omega,by omega,hs⟩,?_⟩
 rintro m _ _ ⟨k,sl,rfl,rfl,hk,wP,hs⟩ _;have Ez:((p.lines.take k).map gy).length=k:=by rw [List.length_map,List.length_take]; omega
 refine ⟨λ jv w'=>jv = .bool (decide (k<p.lines.length/\k<6))/\St w bD [cP u0 (Flat.enc (⟨sl,J1,J2,J3,J4,⟨none,0,0⟩⟩:bE)),fq (Flat.val sl) ((p.lines.take k).map gy),bJ (Flat.val J1) (gy p.fr),bJ (Flat.val J2) (gy p.dL),fq (Flat.val J3) (iM p.threads),fq (Flat.val J4) (iM p.recover),cP uZ (Flat.enc (⟨bX,cN,cB,bK,bN,bU⟩:bE)),cP Jj (Flat.enc (⟨⟨none,0,0⟩,⟨none,0,0⟩,⟨none,0,0⟩,⟨none,0,0⟩,⟨none,0,0⟩,⟨none,0,0⟩⟩:bE))] w',?_,?_⟩
 ·refine aA jk (aB rB hs.p6.hb rfl ?_);obtain ⟨ts70,aoP,aoQ⟩:=(ep).open;have hn70:=aoQ.1;exact aG rT (aoP.ext hs.aE) (aS (aC (λ _=>aS ⟨vb (by grind),hs⟩) (λ _=>⟨vb (by grind),hs⟩)))
 rintro _ _ ⟨rfl,hs⟩ _;refine bI (λ Mu=>?_) (λ Mu=>?_)
 ·have hc27:k<p.lines.length/\k<6:=by simpa using Mu
  refine aA jk (have hs:=hs.drew;aB (v:=Flat.val (sl:SV)) rB hs.hb rfl (aA jk (aB rB hs.p6.hb rfl ?_)));obtain ⟨aoR,aoS,ajj⟩:=(ep).open;have hn71:=ajj.1;obtain ⟨ajk,SZ⟩:=gx aoR (i:=((k:Int)).toNat) (by omega);obtain ⟨S0,S1⟩:=gx ((p).lines) (i:=((k:Int)).toNat) (by omega);have ajl:DL w (Flat.val ajk) S0:=ajj.2 _ _ _ SZ S1;refine aU rT aoS (by omega) SZ (λ _ ajm=>aF iP (ajm.ext hs.aE) ?_);have aoT:=DL.flat (ajl);refine dA Ns hs (C46 _ _ _ (aoT.ext hs.aE)) (λ x37 _ cL hs=>?_);refine ⟨aD rB (hs.p1.hb.cell rfl),?_⟩;obtain ⟨S2,rfl⟩:=(hs).eT
  have hs:=hs.freeze.fC (Ψ:=λ w=>Deep.dr w S2 ((gy S0))) (λ _ h=>DL.jS h);refine gu (s:=S2) (x:=(gy S0)) hs rT (by decide) (λ s_x38 _ hs=>?_);refine ⟨aD rB (hs.p1.hb.cell rfl),?_⟩;have hs:=hs.p2;refine gv hs rT (by rw [Ez,List.length_singleton]; omega) (by decide) (λ ajn _ hs=>aA jk ?_);obtain ⟨uX,rfl⟩:=(hs).oC;exact bF hs.p1 rB (fw rfl) (rfl) (λ _ hs=>have hs:=hs.enc (cs':=Flat.enc (⟨uX,J1,J2,J3,J4,⟨none,0,0⟩⟩:bE)) rfl;aT (by omega) (have hs:=hs.p7.p7.p7.p7.p7.p7.p7.p7;⟨_,by omega,k+1,uX,rfl,rfl,by omega,by omega,by rw [<- fO (k:=k) S1]; exact hs⟩))
 rw [nX (xs:=p.lines) (k:=k) (m:=6) (by omega) (by omega) (of_decide_eq_false Mu)] at hs;have hs:=(((((((((hs.DZ (α:=gO)).p8).p8).p8).p8).p8).p8).p8).p7).p8;refine ⟨λ m x w1=>∃ (j:Nat) (sc:SV),x = .int .i64 (j:Int)/\m=6 - j/\j<=6/\j<=p.dF.length/\St w bD [cP u0 (Flat.enc (⟨sl,J1,J2,J3,J4,sc⟩:bE)),fq (Flat.val sc) ((p.dF.take j).map AO),fq (Flat.val sl) ((p.lines.take 6).map gy),bJ (Flat.val J1) (gy p.fr),bJ (Flat.val J2) (gy p.dL),fq (Flat.val J3) (iM p.threads),fq (Flat.val J4) (iM p.recover),cP uZ (Flat.enc (⟨bX,cN,cB,bK,bN,bU⟩:bE)),cP Jj (Flat.enc (⟨⟨none,0,0⟩,⟨none,0,0⟩,⟨none,0,0⟩,⟨none,0,0⟩,⟨none,0,0⟩,⟨none,0,0⟩⟩:bE))] w1,⟨_,0,⟨none,0,0⟩,rfl,rfl,by omega,by omega,hs⟩,?_⟩
 rintro m _ _ ⟨j,sc,rfl,rfl,hj,CG,hs⟩ _;have adx:((p.dF.take j).map AO).length=j:=by rw [List.length_map,List.length_take]; omega
 refine ⟨λ jv w'=>jv = .bool (decide (j<p.dF.length/\j<6))/\St w bD [cP u0 (Flat.enc (⟨sl,J1,J2,J3,J4,sc⟩:bE)),fq (Flat.val sc) ((p.dF.take j).map AO),fq (Flat.val sl) ((p.lines.take 6).map gy),bJ (Flat.val J1) (gy p.fr),bJ (Flat.val J2) (gy p.dL),fq (Flat.val J3) (iM p.threads),fq (Flat.val J4) (iM p.recover),cP uZ (Flat.enc (⟨bX,cN,cB,bK,bN,bU⟩:bE)),cP Jj (Flat.enc (⟨⟨none,0,0⟩,⟨none,0,0⟩,⟨none,0,0⟩,⟨none,0,0⟩,⟨none,0,0⟩,⟨none,0,0⟩⟩:bE))] w',?_,?_⟩
 ·refine aA kY (aB tP hs.p7.hb rfl ?_);obtain ⟨ts73,aoU,aoV⟩:=(eQ).open;have hn73:=aoV.1;exact aG vF (aoU.ext hs.aE) (aS (aC (λ _=>aS ⟨vb (by grind),hs⟩) (λ _=>⟨vb (by grind),hs⟩)))
 rintro _ _ ⟨rfl,hs⟩ _;refine bI (λ AY=>?_) (λ AY=>?_)
 ·have hc49:j<p.dF.length/\j<6:=by simpa using AY
  refine aA kY (have hs:=hs.drew;aB (v:=Flat.val (sc:SV)) tP hs.hb rfl (aA kY (aB tP hs.p7.hb rfl ?_)));obtain ⟨aoW,ajo,ajp⟩:=(eQ).open;have hn74:=ajp.1;obtain ⟨ajq,u5⟩:=gx aoW (i:=((j:Int)).toNat) (by omega);obtain ⟨rq,xE⟩:=gx ((p).dF) (i:=((j:Int)).toNat) (by omega);obtain ⟨Yh,rfl,Yi⟩:=ajp.2 _ _ _ u5 xE;refine aU vF ajo (by omega) u5 (λ _ Hy=>ee Yh vJ Hy rfl rfl (λ _ S3=>aF m9 (S3.ext hs.aE) ?_));have aoX:=DL.flat (Yi);refine aA kY (aB tP hs.p7.hb rfl (aU vF ajo (by omega) u5 (λ _ ajr=>ee (rq).at_ FJ ajr rfl rfl (λ _ Mt=>aF cK (Mt.ext hs.aE) (dA abI hs (C48 _ _ _ (aoX.ext hs.aE)) (λ x60 _ cL hs=>?_))))))
  refine ⟨aD tP (hs.p1.hb.cell rfl),?_⟩;refine ⟨aD tP (hs.p8.hb.cell rfl),?_⟩;refine ⟨fZ cK (Mt.ext hs.aE),?_⟩;obtain ⟨S5,rfl⟩:=(hs).eT;refine pop (Jc _ _ _ _) (have hs:=hs.freeze.fC (Ψ:=(λ w=>Deep.dr w (⟨S5,(rq).at_⟩:jD) (⟨(tV (rq).e),(rq).at_⟩:gO))) (λ _ h=>⟨_,rfl,DL.jS h⟩);gu (s:=(⟨S5,(rq).at_⟩:jD)) (x:=(⟨(tV (rq).e),(rq).at_⟩:gO)) hs vF (by decide) (λ s_x68 _ hs=>?_));refine ⟨aD tP (hs.p1.hb.cell rfl),?_⟩;have hs:=hs.p2;refine gv hs vF (by rw [adx,List.length_singleton]; omega) (by decide) (λ s_x69 _ hs=>aA kY ?_)
  obtain ⟨S9,rfl⟩:=(hs).oC;exact bF hs.p1 tP (fw rfl) (rfl) (λ _ hs=>have hs:=hs.enc (cs':=Flat.enc (⟨sl,J1,J2,J3,J4,S9⟩:bE)) rfl;aT (by omega) (have hs:=hs.p8.p8.p8.p8.p8.p8.p8.p8.p8;⟨_,by omega,j+1,S9,rfl,rfl,by omega,by omega,by rw [<- fO (k:=j) xE]; exact hs⟩))
 refine aF gR hs.At (aO (x:=(⟨sl,J1,J2,J3,J4,sc⟩:bE)) hs.p8 gR rfl rfl (λ _ hs=>aF gR hs.At ?_));rw [nX (xs:=p.dF) (k:=j) (m:=6) (by omega) (by omega) (of_decide_eq_false AY)] at hs;have hs:=hs.p3.gJ.p4.freeze.p1.ey.p4.freeze.p1.ey.p4.gJ.p1.ey.p4.gJ.p1.ey;have hs:=hs.p3.gJ.p1.ey.fC (Ψ:=(λ w=>Deep.dr w (⟨sl,J1,J2,J3,J4,sc⟩:bE) (⟨((p.lines.take 6).map gy),(gy p.fr),(gy p.dL),(iM p.threads),(iM p.recover),((p.dF.take 6).map AO)⟩:bQ))) (λ _ h=>⟨_,_,_,_,_,_,rfl,h.1.1.1.1.1,DL.jS h.1.1.1.1.2,DL.jS h.1.1.1.2,h.1.1.2,h.1.2,h.2⟩)
 have hs:=(((hs.p1.drop.p1).drop).p1).drop;exact ⟨_,rfl,hs.fresh⟩
def wv (l:List Int) (i:Nat):Int:=if i=0 then 0 else l.getD (i - 1) 0+1
theorem Ta (x:aX) (loops:Int):loops+II (decide (x.kind=12))=Bk.LB x loops:=by
 unfold Bk.LB II
 by_cases h:x.kind=12
 ·rw [if_pos h,decide_eq_true h]; rfl
 rw [if_neg h,decide_eq_false h]; simp
theorem ajs (b:Bool):0<=II b/\II b<=1:=by cases b <;> decide
theorem C224 (sv fv:Value) (xs:List aX) (φ:aX->Prop) (g:aX->Bool) (w:World) (hL:DL w sv xs) (hf:oD Tryz.prog w fv φ g) (hφ:∀ x∈xs,φ x) (hn:xs.length<=1073741824):CR 224 [sv,fv] w (λ v w'=>v = .int .i64 (pE g xs)/\Ext w w'):=by
 obtain ⟨g0,first,cap,rfl,lT,gD⟩:=hf;have hs:=St.start w;refine XX _ _ _ _ ?_;unfold S224;obtain ⟨uz,yn,L5⟩:=(hL).open;have hn3:=L5.1;refine aG iV (yn.ext hs.aE) ?_;refine ⟨λ m x w1=>∃ k:Nat,x = .int .i64 (k:Int)/\m=xs.length - k/\k<=xs.length/\(∀ y∈xs.take k,g y=false)/\St w bD [] w1,⟨_,0,rfl,rfl,Nat.zero_le _,by simp,hs⟩,?_⟩;rintro m _ w1 ⟨k,rfl,rfl,hk,eA,hs⟩ _;refine aS (aC (λ qA=>?_) (λ _=>⟨congrArg (Value.int .i64) (gB (by rw [List.take_of_length_le (by omega)] at eA; exact eA)).symm,hs.aE⟩));obtain ⟨jM,dG⟩:=gx uz (i:=((k:Int)).toNat) (by omega);obtain ⟨uA,gm⟩:=gx (xs) (i:=((k:Int)).toNat) (by omega)
 obtain ⟨EA,Yj,rfl,EB,Yk⟩:=L5.2 _ _ _ dG gm;refine aU iV yn (by omega) dG (λ _ gS=>aF mq (gS.ext hs.aE) (ft lT (gD _ uA w1 hs.aE ⟨EA,Yj,rfl,(EB.ext hs.aE),(Yk.ext hs.aE)⟩ (hφ _ (List.mem_of_getElem? gm))) ?_));rintro _ _ ⟨rfl,he⟩;have hs:=hs.ext he;exact bI (λ dJ=>⟨congrArg (Value.int .i64) (jE eA gm dJ).symm,hs.aE⟩) (λ dJ=>aT (by omega) ⟨_,by omega,k+1,rfl,rfl,by omega,fi eA gm dJ,hs⟩)
theorem C200 (sv fv:Value) (xs:List aX) (φ:aX->Prop) (g:aX->Bool) (w:World) (hL:DL w sv xs) (hf:oD Tryz.prog w fv φ g) (hφ:∀ x∈xs,φ x) (hn:xs.length<=1073741824):CR 200 [sv,fv] w (λ v w'=>v = .bool (xs.any g)/\Ext w w'):=by
 have hs:=St.start w;refine XW _ _ _ _ ?_;unfold S200;exact bO aiR hs (C224 _ _ _ _ _ _ (hL.ext hs.aE) (hf.ext hs.aE) hφ (by omega)) (λ _ _ hs=>dO ⟨vb (iK _ _),hs.aE⟩)
theorem C202 (lv:Value) (xs:List aX) (loops:Int) (N:Nat) (w:World) (hL:DL w lv xs) (hn:xs.length<=40) (hlo:0<=loops) (Yl:loops+N<=4194304) (hN:xs.length<N):CR 202 [lv,.int .i64 loops] w (λ v w'=>v = .int .i64 (eJ xs loops)/\Ext w w'):=by
 have hs:=St.start w;refine XL _ _ _ _ ?_;unfold S202;refine ⟨λ m y x w1=>∃ (k:Nat) (n:Int),y = .int .i64 n/\x = .int .i64 (k:Int)/\m=xs.length - k/\k<=xs.length/\0<=n/\n<=41/\eJ xs loops=so n (eJ (xs.drop k) loops)/\St w bD [] w1,⟨_,0,0,rfl,rfl,rfl,by omega,by omega,by omega,by have:=vZ xs loops; rw [List.drop_zero]; unfold so; split <;> omega,hs⟩,?_⟩;rintro m _ _ w1 ⟨k,n,rfl,rfl,rfl,hk,hn0,hn1,hinv,hs⟩ _;obtain ⟨wR,zx,U9⟩:=(hL).open;have hn4:=U9.1;refine aG iV (zx.ext hs.aE) (aS (aC (λ dJ=>?_) (λ dJ=>?_)))
 ·obtain ⟨iq,fE⟩:=gx wR (i:=((k:Int)).toNat) (by omega);obtain ⟨aJ,l3⟩:=gx (xs) (i:=((k:Int)).toNat) (by omega);obtain ⟨jF,jn,rfl,Mr,Ms⟩:=U9.2 _ _ _ fE l3;refine aU iV zx (by omega) fE (λ _ mE=>?_);have hdk:=drop_cons (xs:=xs) (k:=k) l3;rw [hdk] at hinv;have hdl:(xs.drop (k+1)).length=xs.length - (k+1):=List.length_drop;refine aF mq (mE.ext hs.aE) (aN hs nK (λ EC _ hs=>have hs:=hs.enc (cs':=Flat.enc (⟨0,(ByteArray.mk #[]),(ByteArray.mk #[]),⟨none,0,0⟩,⟨none,0,0⟩,0,0,0,0⟩:aW)) rfl;aO (x:=(⟨(aJ).kind,(aJ).eB,(aJ).name,jF,jn,(aJ).n,(aJ).body,(aJ).eG,(aJ).at_⟩:aW)) hs mq rfl rfl (λ _ hs=>aT (by omega) (aA ni (aB (v:=.int .i64 ((aJ).body)) cK hs.hb rfl (vP ?_))))))
  obtain ⟨W1,hW1⟩:∃ W,W=Bt (((k:Int)+1)+(aJ).body):=⟨_,rfl⟩;rw [<- hW1];refine aA qn (aB (v:=.int .i64 ((aJ).eG)) cK hs.hb rfl (vP ?_));obtain ⟨W2,hW2⟩:∃ W,W=Bt (W1+(aJ).eG):=⟨_,rfl⟩;rw [<- hW2];refine ⟨λ jv w'=>jv = .bool (Bk.xm aJ)/\St w bD [cP EC (Flat.enc (⟨(aJ).kind,(aJ).eB,(aJ).name,jF,jn,(aJ).n,(aJ).body,(aJ).eG,(aJ).at_⟩:aW))] w',aA gI (aB (v:=.int .i64 ((aJ).kind)) cK hs.hb rfl (aI (aC (λ _=>⟨vb (by unfold Bk.xm; grind),hs⟩) (λ _=>aA gI (aB (v:=.int .i64 ((aJ).kind)) cK hs.hb rfl (aI ⟨vb (by unfold Bk.xm; grind),hs⟩)))))),?_⟩
  rintro _ _ ⟨rfl,hs⟩ _;refine ⟨λ jv w'=>jv = .bool (decide (aJ.body<0\/aJ.eG<0\/(xs.length:Int)<aJ.body\/(xs.length:Int)<aJ.eG\/(xs.length:Int)<W2))/\St w bD [cP EC (Flat.enc (⟨(aJ).kind,(aJ).eB,(aJ).name,jF,jn,(aJ).n,(aJ).body,(aJ).eG,(aJ).at_⟩:aW))] w',aA ni (aB (v:=.int .i64 ((aJ).body)) cK hs.hb rfl (aS (aC (λ _=>⟨vb (by grind),hs⟩) (λ c_x40=>?_)))),?_⟩
  ·refine aA qn (aB (v:=.int .i64 ((aJ).eG)) cK hs.hb rfl (aS ?_));exact aC (λ _=>⟨vb (by grind),hs⟩) (λ _=>aA ni (aB (v:=.int .i64 ((aJ).body)) cK hs.hb rfl (aG iV (zx.ext hs.aE) (er (aC (λ _=>⟨vb (by grind),hs⟩) (λ _=>aA qn (aB (v:=.int .i64 ((aJ).eG)) cK hs.hb rfl (aG iV (zx.ext hs.aE) (er (aC (λ _=>⟨vb (by grind),hs⟩) (λ _=>aG iV (zx.ext hs.aE) (er ⟨vb (by grind),hs⟩))))))))))))
  rintro _ _ ⟨rfl,hs⟩ _;refine bI (λ yv=>?_) (λ yv=>?_)
  ·have hW:0<=aJ.body/\aJ.body<=40/\0<=aJ.eG/\aJ.eG<=40->W2=(k:Int)+1+aJ.body+aJ.eG:=λ h=>by
    have h1:W1=(k:Int)+1+aJ.body:=by rw [hW1]; exact DY (by omega)
    rw [hW2,DY (by omega)]; omega
   exact ⟨congrArg (Value.int .i64) (Q1 hinv (by unfold v5; grind)).symm,hs.drop.aE⟩
  have hq:=of_decide_eq_false yv
  have hW:W2=(k:Int)+1+aJ.body+aJ.eG:=by
   have h1:W1=(k:Int)+1+aJ.body:=by rw [hW1]; exact DY (by omega)
   rw [hW2,DY (by omega)]; omega
  have iN:v5 aJ (xs.drop (k+1)):=by unfold v5; omega
  refine ⟨λ jv w'=>jv = .bool (!Bk.IJ aJ loops)/\St w bD [cP EC (Flat.enc (⟨(aJ).kind,(aJ).eB,(aJ).name,jF,jn,(aJ).n,(aJ).body,(aJ).eG,(aJ).at_⟩:aW))] w',⟨λ jv w'=>jv = .bool (!Bk.xm aJ && decide (0<aJ.body))/\St w bD [cP EC (Flat.enc (⟨(aJ).kind,(aJ).eB,(aJ).name,jF,jn,(aJ).n,(aJ).body,(aJ).eG,(aJ).at_⟩:aW))] w',bH (bI (λ _=>aA ni (aB (v:=.int .i64 ((aJ).body)) cK hs.hb rfl (er ⟨vb (by grind),hs⟩))) (λ _=>⟨vb (by grind),hs⟩)),?_⟩,?_⟩
  ·rintro _ _ ⟨rfl,hs⟩ _;refine bI (λ _=>⟨vb (by unfold Bk.IJ; unfold Bk.xm at *; grind),hs⟩) (λ c_x66=>⟨λ jv w'=>jv = .bool (decide (¬ aJ.kind=11/\0<aJ.eG))/\St w bD [cP EC (Flat.enc (⟨(aJ).kind,(aJ).eB,(aJ).name,jF,jn,(aJ).n,(aJ).body,(aJ).eG,(aJ).at_⟩:aW))] w',aA gI (aB (v:=.int .i64 ((aJ).kind)) cK hs.hb rfl (cS (aC (λ _=>aA qn (aB (v:=.int .i64 ((aJ).eG)) cK hs.hb rfl (er ⟨vb (by grind),hs⟩))) (λ _=>⟨vb (by grind),hs⟩)))),?_⟩);rintro _ _ ⟨rfl,hs⟩ _;exact bI (λ _=>⟨vb (by unfold Bk.IJ; unfold Bk.xm at *; grind),hs⟩) (λ _=>aA gI (aB (v:=.int .i64 ((aJ).kind)) cK hs.hb rfl (aI (aC (λ _=>aI ⟨vb (by unfold Bk.IJ; unfold Bk.xm at *; grind),hs⟩) (λ _=>⟨vb (by unfold Bk.IJ; unfold Bk.xm at *; grind),hs⟩)))))
  rintro _ _ ⟨rfl,hs⟩ _;refine bI (λ _=>⟨congrArg (Value.int .i64) (Q1 hinv (by grind)).symm,hs.drop.aE⟩) (λ amm=>?_);have ga:Bk.IJ aJ loops=true:=by grind
  have ao1:=iN;unfold v5 at ao1;refine ⟨λ jv w'=>∃ n':Int,jv = .int .i64 n'/\0<=n'/\n'<=41/\eJ xs loops=so n' (eJ (xs.drop (k+1+(aJ.body.toNat+aJ.eG.toNat))) loops)/\St w bD [cP EC (Flat.enc (⟨(aJ).kind,(aJ).eB,(aJ).name,jF,jn,(aJ).n,(aJ).body,(aJ).eG,(aJ).at_⟩:aW))] w',bI (λ xF=>?_) (λ xF=>?_),?_⟩
  ·have hb01:=Ta aJ loops;have hbb:=ajs (decide (aJ.kind=12));have hcA:(((xs).take (((k:Int)+1)+(aJ).body).toNat).drop ((k:Int)+1).toNat)=(xs.drop (k+1)).take (aJ).body.toNat:=uR xs (by omega) (by omega);have hcB:(((xs).take (W2).toNat).drop (((k:Int)+1)+(aJ).body).toNat)=((xs.drop (k+1)).drop (aJ).body.toNat).take (aJ).eG.toNat:=by rw [List.drop_drop]; exact uR xs (by omega) (by omega)
   have hlA:(((xs).take (((k:Int)+1)+(aJ).body).toNat).drop ((k:Int)+1).toNat).length<=xs.length - 1/\(((xs).take (((k:Int)+1)+(aJ).body).toNat).drop ((k:Int)+1).toNat).length<=40:=by rw [hcA,List.length_take]; omega
   have hlB:(((xs).take (W2).toNat).drop (((k:Int)+1)+(aJ).body).toNat).length<=xs.length - 1/\(((xs).take (W2).toNat).drop (((k:Int)+1)+(aJ).body).toNat).length<=40:=by rw [hcB,List.length_take,List.length_drop]; omega
   refine aA gI (aB (v:=.int .i64 ((aJ).kind)) cK hs.hb rfl (aI (bO Qi hs (C220 _ _) (λ _ he hs=>aT (by omega) (aT (by omega) (aT (by omega) (aA ni (have hs:=hs.drew;aB (v:=.int .i64 ((aJ).body)) cK hs.hb rfl (aT (by omega) (xf iV (zx.ext hs.aE) (by omega) (by omega) (by omega) (λ ao2 Ym=>?_)))))))))));have Yn:=DL.cut Ym zx U9;refine aT (by omega) (aA ni (aB (v:=.int .i64 ((aJ).body)) cK hs.hb rfl (aT (by omega) (xf iV (zx.ext hs.aE) (by omega) (by omega) (by omega) (λ ao3 Yo=>?_)))));have Yp:=DL.cut Yo zx U9
   refine bO Sy hs (C202 _ _ _ (N - 1) _ (Yn.ext hs.aE) (by omega) (by omega) (by omega) (by omega)) (λ _ he hs=>?_);refine ⟨aD cK (hs.hb.cell rfl),?_⟩;refine eW Sy (C202 _ _ _ (N - 1) _ (Yp.ext hs.aE) (by omega) (by omega) (by omega) (by omega)) ?_;rintro _ _ ⟨rfl,he⟩;have hs:=hs.ext he;obtain ⟨A,hA⟩:∃ A,A=eJ (((xs).take (((k:Int)+1)+(aJ).body).toNat).drop ((k:Int)+1).toNat) (Bk.LB aJ loops):=⟨_,rfl⟩;obtain ⟨B,hB⟩:∃ B,B=eJ (((xs).take (W2).toNat).drop (((k:Int)+1)+(aJ).body).toNat) (Bk.LB aJ loops):=⟨_,rfl⟩;have hAb:=vZ (((xs).take (((k:Int)+1)+(aJ).body).toNat).drop ((k:Int)+1).toNat) (Bk.LB aJ loops)
   have hBb:=vZ (((xs).take (W2).toNat).drop (((k:Int)+1)+(aJ).body).toNat) (Bk.LB aJ loops);rw [<- hA] at hAb;rw [<- hB] at hBb;rw [Ta,<- hA,<- hB];have XC:=acf hinv iN ga xF A B (by rw [hA,hcA]) (by rw [hB,hcB]);refine ⟨λ jv w'=>jv = .bool (decide (A<0\/B<0))/\St w bD [cP EC (Flat.enc (⟨(aJ).kind,(aJ).eB,(aJ).name,jF,jn,(aJ).n,(aJ).body,(aJ).eG,(aJ).at_⟩:aW))] w',aI (aC (λ _=>⟨vb (by grind),hs⟩) (λ _=>aI ⟨vb (by grind),hs⟩)),?_⟩;rintro _ _ ⟨rfl,hs⟩ _;refine bI (λ J6=>⟨congrArg (Value.int .i64) (XC.1 (of_decide_eq_true J6)).symm,hs.drop.aE⟩) (λ J6=>aT (by omega) (aT (by omega) (QJ ?_)))
   have aju:=XC.2 (of_decide_eq_false J6);rw [List.drop_drop,Int.add_comm 1 A,Int.add_comm 1 B] at aju;exact ⟨_,rfl,by omega,by omega,aju,hs⟩
  ·have hdn:=ahb hinv iN ga xF;rw [List.drop_drop] at hdn;exact ⟨_,rfl,hn0,hn1,hdn,hs⟩
  rintro _ _ ⟨n',rfl,ao4,ao5,ajv,hs⟩ _;exact ⟨_,by omega,k+1+((aJ).body.toNat+(aJ).eG.toNat),n',rfl,congrArg (Value.int .i64) (by omega),rfl,by omega,ao4,ao5,ajv,hs.drop⟩
 rw [List.drop_eq_nil_of_le (by omega),Co] at hinv;exact ⟨congrArg (Value.int .i64) (by rw [hinv]; unfold so; omega),hs.aE⟩
termination_by N
decreasing_by all_goals omega
theorem Hz (xs:List aX):mQ xs=(!(decide (40<xs.length) || xs.any (λ y=>!nS y)) && decide (¬ eJ xs 0 = -1/\eJ xs 0<=12)):=by
 have:=vZ xs 0
 unfold mQ
 rw [show decide (0<=eJ xs 0/\eJ xs 0<=12)=decide (¬ eJ xs 0 = -1/\eJ xs 0<=12) from decide_eq_decide.2 (by omega),show decide (xs.length<=40) = !decide (40<xs.length) from by rw [<- decide_not]; exact decide_eq_decide.2 (by omega)]
 cases decide (40<xs.length) <;> cases xs.any (λ y=>!nS y) <;> rfl
theorem C168 (lv:Value) (xs:List aX) (w:World) (hL:DL w lv xs) (hn:xs.length<=1048576) (hz:∀ x∈xs,x.e.length<=1048576/\x.f.length<=1048576):CR 168 [lv] w (λ v w'=>v = .bool (mQ xs)/\Ext w w'):=by
 have hs:=St.start w;refine XM _ _ _ ?_;unfold S168;refine ⟨λ jv w'=>jv = .bool (decide (40<xs.length) || xs.any (λ y=>!nS y))/\St w bD [] w',?_,?_⟩
 ·obtain ⟨ts5,hR5,hD5⟩:=(hL).open;have hn5:=hD5.1;exact aG iV (hR5.ext hs.aE) (er (aC (λ _=>⟨vb (by grind),hs⟩) (λ _=>bO aiQ hs (C200 _ _ _ (λ x=>x.e.length<=1048576/\x.f.length<=1048576) _ _ (hL.ext hs.aE) ⟨201,[],[],rfl,aiI,λ sv y w1 _ hd hp=>C201 y sv w1 hd hp.1 hp.2⟩ hz (by omega)) (λ _ _ hs=>⟨vb (by grind),hs⟩))))
 rintro _ _ ⟨rfl,hs⟩ _;refine bI (λ jl=>?_) (λ jl=>?_)
 ·refine ⟨vb ?_,hs.aE⟩;rw [Hz,jl]; rfl
 have h40:xs.length<=40:=by grind
 refine bO Sy hs (C202 _ _ _ (xs.length+1) _ (hL.ext hs.aE) (by omega) (by omega) (by omega) (by omega)) (λ _ he hs=>⟨λ jv w'=>jv = .bool (decide (¬ eJ xs 0 = -1/\eJ xs 0<=12))/\St w bD [] w',cS (aC (λ _=>ma ⟨vb (by grind),hs⟩) (λ _=>⟨vb (by grind),hs⟩)),?_⟩);rintro _ _ ⟨rfl,hs⟩ _;refine ⟨vb ?_,hs.aE⟩;rw [Hz,jl]; rfl
def ED (t:bV):Bool:=mh t.at_ && !t.cW.any (λ s=>!gh s) && mQ t.body
theorem Mv (t:bV):(!gh t.name || !ED t)=ly true t:=by
 unfold ly D3 ED
 cases gh t.name <;> cases mh t.at_ <;> cases mQ t.body <;> cases t.cW.any (λ s=>!gh s) <;> rfl
theorem Mw (t:bV):(decide (¬ t.name=⟨#[]⟩) || !ED t)=ly false t:=by
 unfold ly D3 ED
 by_cases h:t.name=⟨#[]⟩
 ·rw [h,show gh (⟨#[]⟩:ByteArray)=false from by decide]
  cases mh t.at_ <;> cases mQ t.body <;> cases t.cW.any (λ s=>!gh s) <;> rfl
 rw [decide_eq_true h]
 cases gh t.name <;> cases mh t.at_ <;> cases mQ t.body <;> cases t.cW.any (λ s=>!gh s) <;> rfl
theorem HA (p:bQ):(!(p.lines.any nw || !mR 4294967296 p.fr || !mR 0 p.dL || decide (1<p.recover.length)) && (!p.threads.any (ly true) && !p.recover.any (ly false) && !p.dF.any lz))=jU p:=by
 unfold jU v7
 rw [show decide (p.recover.length<=1) = !decide (1<p.recover.length) from by rw [<- decide_not]; exact decide_eq_decide.2 (by omega)]
 cases p.lines.any nw <;> cases mR 4294967296 p.fr <;> cases mR 0 p.dL <;> cases decide (1<p.recover.length) <;> cases p.threads.any (ly true) <;> cases p.recover.any (ly false) <;> cases p.dF.any lz <;> rfl
theorem SzS.ok {xs:List aX} (h:∀ x∈xs,SzS x):∀ x∈xs,x.e.length<=1048576/\x.f.length<=1048576:=λ x hx=>⟨(h x hx).2.2.1,(h x hx).2.2.2.1⟩
theorem C122 (n:Int) (w:World):CR 122 [.int .i64 n] w (λ v w'=>v = .bool (mh n)/\Ext w w'):=by
 have hs:=St.start w;refine XV _ _ _ ?_;unfold S122;refine ⟨λ jv w'=>jv = .bool (decide (0<=n/\n<=4000))/\w=w',dO (aC (λ _=>ma ⟨I5 (by omega),rfl⟩) (λ _=>⟨jvF (by omega),rfl⟩)),?_⟩;rintro _ _ ⟨rfl,hw⟩ _;subst hw;exact ⟨rfl,hs.aE⟩
theorem C160 (c:bP) (b2:Nat) (yL:Int) (w:World) (hc:Cell w b2 0 (.int .i64 yL)):CR 160 [Flat.val c,.pointer (some ⟨b2,0,none⟩)] w (λ v w'=>v = .bool (lx yL c)/\Ext w w'):=by
 have hs:=St.start w;refine XS _ _ _ _ ?_;unfold S160;refine cZ hs (λ ao6 _ hs=>⟨λ jv w'=>jv = .bool (lx yL c)/\St w bD [cP ao6 (Flat.enc c)] w',aA mu (aB (v:=.string ((c).name)) kp hs.hb rfl (bO Gd hs (C118 _ _) (λ _ he hs=>bH (bI (λ _=>⟨vb (by unfold lx; grind),hs⟩) (λ BF=>?_))))),?_⟩)
 ·exact aA zS (aB (v:=.int .i64 ((c).n)) cK hs.hb rfl (aS (aC (λ _=>⟨vb (by unfold lx; grind),hs⟩) (λ _=>aA zS (aB (v:=.int .i64 ((c).n)) cK hs.hb rfl (bW cK (hc.ext hs.aE) (er (aC (λ _=>⟨vb (by unfold lx; grind),hs⟩) (λ _=>aA vK (aB (v:=.int .i64 ((c).at_)) cK hs.hb rfl (bO SA hs (C122 _ _) (λ _ _ hs=>bH ⟨vb (by unfold lx; grind),hs⟩))))))))))))
 rintro _ _ ⟨rfl,hs⟩ _;exact ⟨rfl,hs.drop.aE⟩
theorem C197 (sv fv:Value) (xs:List bP) (g:bP->Bool) (w:World) (hL:dx (λ _=>True) w sv xs) (hf:rC w fv g) (hn:xs.length<=1073741824):CR 197 [sv,fv] w (λ v w'=>v = .int .i64 (pE g xs)/\Ext w w'):=by
 obtain ⟨g0,first,cap,rfl,lT,gD⟩:=hf;have hs:=St.start w;refine XZ _ _ _ _ ?_;unfold S197;refine aG nk (hL.ext hs.aE) ?_;refine ⟨λ m x w1=>∃ k:Nat,x = .int .i64 (k:Int)/\m=xs.length - k/\k<=xs.length/\(∀ y∈xs.take k,g y=false)/\St w bD [] w1,⟨_,0,rfl,rfl,Nat.zero_le _,by simp,hs⟩,?_⟩;rintro m _ w1 ⟨k,rfl,rfl,hk,eA,hs⟩ _;refine aS (aC (λ qA=>?_) (λ _=>⟨congrArg (Value.int .i64) (gB (by rw [List.take_of_length_le (by omega)] at eA; exact eA)).symm,hs.aE⟩));obtain ⟨jM,dG⟩:=gx (xs) (i:=((k:Int)).toNat) (by omega);refine aU nk hL (by omega) dG (λ _ gS=>aF mr (gS.ext hs.aE) (ft lT (gD jM w1 hs.aE) ?_))
 rintro _ _ ⟨rfl,he⟩;have hs:=hs.ext he;exact bI (λ dJ=>⟨congrArg (Value.int .i64) (jE eA dG dJ).symm,hs.aE⟩) (λ dJ=>aT (by omega) ⟨xs.length - (k+1),by omega,k+1,rfl,rfl,by omega,fi eA dG dJ,hs⟩)
theorem C159 (sv fv:Value) (xs:List bP) (g:bP->Bool) (w:World) (hL:dx (λ _=>True) w sv xs) (hf:rC w fv g) (hn:xs.length<=1073741824):CR 159 [sv,fv] w (λ v w'=>v = .bool (xs.any g)/\Ext w w'):=by
 have hs:=St.start w;refine XY _ _ _ _ ?_;unfold S159;exact bO aiT hs (C197 _ _ _ _ _ (hL.ext hs.aE) (hf.ext hs.aE) (by omega)) (λ _ _ hs=>dO ⟨vb (iK _ _),hs.aE⟩)
theorem C116 (lv:Value) (xs:List bP) (yL:Int) (w:World) (hL:dx (λ _=>True) w lv xs) (hn:xs.length<=1048576):CR 116 [lv,.int .i64 yL] w (λ v w'=>v = .bool (mR yL xs)/\Ext w w'):=by
 have hs:=St.start w;refine XR _ _ _ _ ?_;unfold S116;refine jY hs rfl (λ Mx w1 hs=>?_)
 have hfn:rC _ (.func (.func 160) [].toArray [.pointer (some ⟨Mx,0,none⟩)].toArray) (lx yL):=
  ⟨160,[],_,rfl,aiO,λ y w1 e1=>C160 y Mx yL w1 ((hs.hb.cell rfl).ext e1)⟩
 exact bO aiS hs (C159 _ _ _ _ _ (hL.ext hs.aE) hfn (by omega)) (λ _ _ hs=>bH ⟨rfl,hs.drop.aE⟩)
theorem C166 (s:ByteArray) (w:World):CR 166 [.string s] w (λ v w'=>v = .bool (!gh s)/\Ext w w'):=by
 have hs:=St.start w;refine XU _ _ _ ?_;unfold S166;exact bO Gd hs (C118 _ _) (λ _ _ hs=>bH ⟨rfl,hs.aE⟩)
theorem C119 (t:bV) (tv:bR) (w:World) (ht:Deep.dr w tv t) (hz:NH t/\t.cW.length<=500/\t.body.length<=500):CR 119 [Flat.val tv] w (λ v w'=>v = .bool (ED t)/\Ext w w'):=by
 obtain ⟨mF,mG,rfl,nY,pO⟩:=ht;have hs:=St.start w;refine XT _ _ _ ?_;unfold S119;refine cZ hs (λ Ot w1 hs=>⟨λ jv w'=>jv = .bool (ED t)/\St w bD [cP Ot (Flat.enc (⟨(t).name,mF,mG,(t).at_⟩:bR))] w',aA y9 (aB (v:=.int .i64 ((t).at_)) cK hs.hb rfl (bO SA hs (C122 _ _) (λ _ he hs=>bI (λ tQ=>?_) (λ _=>⟨vb (by unfold ED; grind),hs⟩)))),?_⟩)
 ·refine aA kX (aB lL hs.hb rfl ?_);have hf6:=DL.flat (nY);exact bO aad hs (C167 _ _ _ (λ s=>!gh s) _ (hf6.ext hs.aE) ⟨166,[],[],rfl,aiP,λ y w1 _=>C166 y w1⟩ (by omega)) (λ _ _ hs=>bH (bI (λ _=>aA sX (aB zR hs.hb rfl (bO aiJ hs (C168 _ _ _ (pO.ext hs.aE) (by omega) (SzS.ok hz.1.2.2)) (λ _ _ hs=>⟨vb (by unfold ED; grind),hs⟩)))) (λ _=>⟨vb (by unfold ED; grind),hs⟩)))
 rintro _ _ ⟨rfl,hs⟩ _;exact ⟨rfl,hs.drop.aE⟩
theorem C117 (t:bV) (tv:bR) (w:World) (ht:Deep.dr w tv t) (hz:NH t/\t.cW.length<=500/\t.body.length<=500):CR 117 [Flat.val tv] w (λ v w'=>v = .bool (ly true t)/\Ext w w'):=by
 obtain ⟨mF,mG,rfl,nY,pO⟩:=ht;have hs:=St.start w;refine XO _ _ _ ?_;unfold S117;refine cZ hs (λ Ot _ hs=>⟨λ jv w'=>jv = .bool (ly true t)/\St w bD [cP Ot (Flat.enc (⟨(t).name,mF,mG,(t).at_⟩:bR))] w',aA sW (aB (v:=.string ((t).name)) kp hs.hb rfl (bO Gd hs (C118 _ _) (λ _ _ hs=>bH (bI (λ _=>⟨vb (by rw [<- Mv]; grind),hs⟩) (λ _=>aF py hs.At (bO aaZ hs (C119 t _ _ ⟨mF,mG,rfl,(nY.ext hs.aE),(pO.ext hs.aE)⟩ hz) (λ _ _ hs=>bH ⟨vb (by rw [<- Mv]; grind),hs⟩))))))),?_⟩);rintro _ _ ⟨rfl,hs⟩ _;exact ⟨rfl,hs.drop.aE⟩
theorem C120 (t:bV) (tv:bR) (w:World) (ht:Deep.dr w tv t) (hz:NH t/\t.cW.length<=500/\t.body.length<=500):CR 120 [Flat.val tv] w (λ v w'=>v = .bool (ly false t)/\Ext w w'):=by
 obtain ⟨mF,mG,rfl,nY,pO⟩:=ht;have hs:=St.start w;refine XP _ _ _ ?_;unfold S120;refine cZ hs (λ Ot _ hs=>⟨λ jv w'=>jv = .bool (ly false t)/\St w bD [cP Ot (Flat.enc (⟨(t).name,mF,mG,(t).at_⟩:bR))] w',aA sW (aB (v:=.string ((t).name)) kp hs.hb rfl (xg (aC (λ _=>⟨vb (by rw [<- Mw]; grind),hs⟩) (λ _=>aF py hs.At (bO aaZ hs (C119 t _ _ ⟨mF,mG,rfl,(nY.ext hs.aE),(pO.ext hs.aE)⟩ hz) (λ _ _ hs=>bH ⟨vb (by rw [<- Mw]; grind),hs⟩)))))),?_⟩);rintro _ _ ⟨rfl,hs⟩ _;exact ⟨rfl,hs.drop.aE⟩
theorem C115 (lv:Value) (xs:List bP) (w:World) (hL:dx (λ _=>True) w lv xs) (hn:xs.length<=1048576):CR 115 [lv] w (λ v w'=>v = .bool (nw xs)/\Ext w w'):=by
 have hs:=St.start w;refine XN _ _ _ ?_;unfold S115;refine ⟨λ jv w'=>jv = .bool (nw xs)/\St w bD [] w',aG nk (hL.ext hs.aE) (aI (aC (λ _=>⟨vb (by unfold nw; grind),hs⟩) (λ _=>bO Sz hs (C116 _ _ _ _ (hL.ext hs.aE) (by omega)) (λ _ _ hs=>bH ⟨vb (by unfold nw; grind),hs⟩)))),?_⟩;rintro _ _ ⟨rfl,hs⟩ _;exact ⟨rfl,hs.aE⟩
theorem C121 (c:gO) (cv:jD) (w:World) (hc:Deep.dr w cv c) (hz:c.e.length<=1048576):CR 121 [Flat.val cv] w (λ v w'=>v = .bool (lz c)/\Ext w w'):=by
 obtain ⟨ajw,rfl,ajx⟩:=hc;have hs:=St.start w;refine XQ _ _ _ ?_;unfold S121;refine cZ hs (λ ao7 _ hs=>⟨λ jv w'=>jv = .bool (lz c)/\St w bD [cP ao7 (Flat.enc (⟨ajw,(c).at_⟩:jD))] w',aA FJ (aB (v:=.int .i64 ((c).at_)) cK hs.hb rfl (bO SA hs (C122 _ _) (λ _ he hs=>bH (bI (λ _=>⟨vb (by unfold lz; grind),hs⟩) (λ tQ=>?_))))),?_⟩)
 ·refine aA vJ (aB m9 hs.hb rfl ?_);have hf7:=DL.flat (ajx);exact bO LC hs (C123 _ _ _ (hf7.ext hs.aE) (by omega)) (λ _ _ hs=>bH ⟨vb (by unfold lz; grind),hs⟩)
 rintro _ _ ⟨rfl,hs⟩ _;exact ⟨rfl,hs.drop.aE⟩
theorem C174 (sv fv:Value) (xs:List (List bP)) (φ:(List bP)->Prop) (g:(List bP)->Bool) (w:World) (hL:DL w sv xs) (hf:oD Tryz.prog w fv φ g) (hφ:∀ x∈xs,φ x) (hn:xs.length<=1073741824):CR 174 [sv,fv] w (λ v w'=>v = .int .i64 (pE g xs)/\Ext w w'):=by
 obtain ⟨g0,first,cap,rfl,lT,gD⟩:=hf;have hs:=St.start w;refine X3 _ _ _ _ ?_;unfold S174;obtain ⟨Va,hR8,hD8⟩:=(hL).open;have hn8:=hD8.1;refine aG rT (hR8.ext hs.aE) ?_;refine ⟨λ m x w1=>∃ k:Nat,x = .int .i64 (k:Int)/\m=xs.length - k/\k<=xs.length/\(∀ y∈xs.take k,g y=false)/\St w bD [] w1,⟨_,0,rfl,rfl,Nat.zero_le _,by simp,hs⟩,?_⟩;rintro m _ w1 ⟨k,rfl,rfl,hk,eA,hs⟩ _;refine aS (aC (λ qA=>?_) (λ _=>⟨congrArg (Value.int .i64) (gB (by rw [List.take_of_length_le (by omega)] at eA; exact eA)).symm,hs.aE⟩));obtain ⟨jM,dG⟩:=gx Va (i:=((k:Int)).toNat) (by omega);obtain ⟨uA,gm⟩:=gx (xs) (i:=((k:Int)).toNat) (by omega)
 have aa4:DL w (Flat.val jM) uA:=hD8.2 _ _ _ dG gm;refine aU rT hR8 (by omega) dG (λ _ gS=>aF iP (gS.ext hs.aE) ?_);have hf9:=DL.flat (aa4);refine ft lT (gD _ uA w1 hs.aE (aa4.ext hs.aE) (hφ _ (List.mem_of_getElem? gm))) ?_;rintro _ _ ⟨rfl,he⟩;have hs:=hs.ext he;exact bI (λ dJ=>⟨congrArg (Value.int .i64) (jE eA gm dJ).symm,hs.aE⟩) (λ dJ=>aT (by omega) ⟨_,by omega,k+1,rfl,rfl,by omega,fi eA gm dJ,hs⟩)
theorem C124 (sv fv:Value) (xs:List (List bP)) (φ:(List bP)->Prop) (g:(List bP)->Bool) (w:World) (hL:DL w sv xs) (hf:oD Tryz.prog w fv φ g) (hφ:∀ x∈xs,φ x) (hn:xs.length<=1073741824):CR 124 [sv,fv] w (λ v w'=>v = .bool (xs.any g)/\Ext w w'):=by
 have hs:=St.start w;refine X0 _ _ _ _ ?_;unfold S124;exact bO aiU hs (C174 _ _ _ _ _ _ (hL.ext hs.aE) (hf.ext hs.aE) hφ (by omega)) (λ _ _ hs=>dO ⟨vb (iK _ _),hs.aE⟩)
theorem C175 (sv fv:Value) (xs:List bV) (φ:bV->Prop) (g:bV->Bool) (w:World) (hL:DL w sv xs) (hf:oD Tryz.prog w fv φ g) (hφ:∀ x∈xs,φ x) (hn:xs.length<=1073741824):CR 175 [sv,fv] w (λ v w'=>v = .int .i64 (pE g xs)/\Ext w w'):=by
 obtain ⟨g0,first,cap,rfl,lT,gD⟩:=hf;have hs:=St.start w;refine X5 _ _ _ _ ?_;unfold S175;obtain ⟨ao8,ajz,ajA⟩:=(hL).open;have hn10:=ajA.1;refine aG iO (ajz.ext hs.aE) ?_;refine ⟨λ m x w1=>∃ k:Nat,x = .int .i64 (k:Int)/\m=xs.length - k/\k<=xs.length/\(∀ y∈xs.take k,g y=false)/\St w bD [] w1,⟨_,0,rfl,rfl,Nat.zero_le _,by simp,hs⟩,?_⟩;rintro m _ w1 ⟨k,rfl,rfl,hk,eA,hs⟩ _;refine aS (aC (λ qA=>?_) (λ _=>⟨congrArg (Value.int .i64) (gB (by rw [List.take_of_length_le (by omega)] at eA; exact eA)).symm,hs.aE⟩));obtain ⟨jM,dG⟩:=gx ao8 (i:=((k:Int)).toNat) (by omega);obtain ⟨uA,gm⟩:=gx (xs) (i:=((k:Int)).toNat) (by omega)
 obtain ⟨J7,J8,rfl,J9,Ka⟩:=ajA.2 _ _ _ dG gm;refine aU iO ajz (by omega) dG (λ _ gS=>aF py (gS.ext hs.aE) (ft lT (gD _ uA w1 hs.aE ⟨J7,J8,rfl,(J9.ext hs.aE),(Ka.ext hs.aE)⟩ (hφ _ (List.mem_of_getElem? gm))) ?_));rintro _ _ ⟨rfl,he⟩;have hs:=hs.ext he;exact bI (λ dJ=>⟨congrArg (Value.int .i64) (jE eA gm dJ).symm,hs.aE⟩) (λ dJ=>aT (by omega) ⟨_,by omega,k+1,rfl,rfl,by omega,fi eA gm dJ,hs⟩)
theorem C125 (sv fv:Value) (xs:List bV) (φ:bV->Prop) (g:bV->Bool) (w:World) (hL:DL w sv xs) (hf:oD Tryz.prog w fv φ g) (hφ:∀ x∈xs,φ x) (hn:xs.length<=1073741824):CR 125 [sv,fv] w (λ v w'=>v = .bool (xs.any g)/\Ext w w'):=by
 have hs:=St.start w;refine X4 _ _ _ _ ?_;unfold S125;exact bO aiV hs (C175 _ _ _ _ _ _ (hL.ext hs.aE) (hf.ext hs.aE) hφ (by omega)) (λ _ _ hs=>dO ⟨vb (iK _ _),hs.aE⟩)
theorem C176 (sv fv:Value) (xs:List gO) (φ:gO->Prop) (g:gO->Bool) (w:World) (hL:DL w sv xs) (hf:oD Tryz.prog w fv φ g) (hφ:∀ x∈xs,φ x) (hn:xs.length<=1073741824):CR 176 [sv,fv] w (λ v w'=>v = .int .i64 (pE g xs)/\Ext w w'):=by
 obtain ⟨g0,first,cap,rfl,lT,gD⟩:=hf;have hs:=St.start w;refine X7 _ _ _ _ ?_;unfold S176;obtain ⟨ao9,ajB,ajC⟩:=(hL).open;have hn11:=ajC.1;refine aG vF (ajB.ext hs.aE) ?_;refine ⟨λ m x w1=>∃ k:Nat,x = .int .i64 (k:Int)/\m=xs.length - k/\k<=xs.length/\(∀ y∈xs.take k,g y=false)/\St w bD [] w1,⟨_,0,rfl,rfl,Nat.zero_le _,by simp,hs⟩,?_⟩;rintro m _ w1 ⟨k,rfl,rfl,hk,eA,hs⟩ _;refine aS (aC (λ qA=>?_) (λ _=>⟨congrArg (Value.int .i64) (gB (by rw [List.take_of_length_le (by omega)] at eA; exact eA)).symm,hs.aE⟩));obtain ⟨jM,dG⟩:=gx ao9 (i:=((k:Int)).toNat) (by omega);obtain ⟨uA,gm⟩:=gx (xs) (i:=((k:Int)).toNat) (by omega)
 obtain ⟨EA,rfl,EB⟩:=ajC.2 _ _ _ dG gm;refine aU vF ajB (by omega) dG (λ _ gS=>aF FI (gS.ext hs.aE) (ft lT (gD _ uA w1 hs.aE ⟨EA,rfl,(EB.ext hs.aE)⟩ (hφ _ (List.mem_of_getElem? gm))) ?_));rintro _ _ ⟨rfl,he⟩;have hs:=hs.ext he;exact bI (λ dJ=>⟨congrArg (Value.int .i64) (jE eA gm dJ).symm,hs.aE⟩) (λ dJ=>aT (by omega) ⟨_,by omega,k+1,rfl,rfl,by omega,fi eA gm dJ,hs⟩)
theorem C126 (sv fv:Value) (xs:List gO) (φ:gO->Prop) (g:gO->Bool) (w:World) (hL:DL w sv xs) (hf:oD Tryz.prog w fv φ g) (hφ:∀ x∈xs,φ x) (hn:xs.length<=1073741824):CR 126 [sv,fv] w (λ v w'=>v = .bool (xs.any g)/\Ext w w'):=by
 have hs:=St.start w;refine X6 _ _ _ _ ?_;unfold S126;exact bO aiX hs (C176 _ _ _ _ _ _ (hL.ext hs.aE) (hf.ext hs.aE) hφ (by omega)) (λ _ _ hs=>dO ⟨vb (iK _ _),hs.aE⟩)
theorem C63 (p:bQ) (pv:bE) (w:World) (hp:Deep.dr w pv p) (hz:PZ p):CR 63 [Flat.val pv] w (λ v w'=>v = .bool (jU p)/\Ext w w'):=by
 obtain ⟨bX,cN,cB,bK,bN,bU,rfl,ep,fQ,fI,dR,dS,eQ⟩:=hp;have hs:=St.start w;refine adn _ _ _ ?_;unfold S63;refine cZ hs (λ uZ w1 hs=>⟨λ jv w'=>jv = .bool (p.lines.any nw || !mR 4294967296 p.fr || !mR 0 p.dL || decide (1<p.recover.length))/\St w bD [cP uZ (Flat.enc (⟨bX,cN,cB,bK,bN,bU⟩:bE))] w',aA jk (aB rB hs.hb rfl (bO aa0 hs (C124 _ _ _ (λ l=>l.length<=1048576) _ _ (ep.ext hs.aE) ⟨115,[],[],rfl,aiK,λ _ y w1 _ hd hp=>C115 _ y w1 (DL.flat hd) hp⟩ (λ l hl=>by have:=hz.line l hl; omega) (by have:=hz.lines; omega)) (λ _ he hs=>bI (λ _=>⟨vb (by grind),hs⟩) (λ wo=>?_)))),?_⟩)
 ·refine aA vG (aB iP hs.hb rfl ?_);have apa:=DL.flat (fQ);refine bO Sz hs (C116 _ _ _ _ (apa.ext hs.aE) (by have:=hz.fr; omega)) (λ _ he hs=>bH (bI (λ _=>⟨vb (by grind),hs⟩) (λ j8=>aA sY (aB iP hs.hb rfl ?_))));have apb:=DL.flat (fI);refine bO Sz hs (C116 _ _ _ _ (apb.ext hs.aE) (by have:=hz.dL; omega)) (λ _ he hs=>bH (bI (λ _=>⟨vb (by grind),hs⟩) (λ nQ=>aA sZ (aB fg hs.hb rfl ?_))));have hzr:=hz.recover;obtain ⟨ts14,apc,apd⟩:=(dS).open;have hn14:=apd.1;exact aG iO (apc.ext hs.aE) (er ⟨vb (by grind),hs⟩)
 rintro _ _ ⟨rfl,hs⟩ _;refine bI (λ BF=>?_) (λ BF=>⟨λ jv w'=>jv = .bool (!p.threads.any (ly true) && !p.recover.any (ly false) && !p.dF.any lz)/\St w bD [cP uZ (Flat.enc (⟨bX,cN,cB,bK,bN,bU⟩:bE))] w',?_,?_⟩)
 ·refine ⟨vb ?_,hs.drop.aE⟩;rw [<- HA,BF]; simp
 ·refine aA qo ?_;exact aB fg hs.hb rfl (bO SC hs (C125 _ _ _ (λ t=>NH t/\t.cW.length<=500/\t.body.length<=500) _ _ (dR.ext hs.aE) ⟨117,[],[],rfl,aiL,λ sv y w1 _ hd hp=>C117 y sv w1 hd hp⟩ (λ _ ht=>hz.uw (List.mem_append_left _ ht)) (by have:=hz.threads; omega)) (λ _ _ hs=>bH (bI (λ _=>aA sZ (aB fg hs.hb rfl (bO SC hs (C125 _ _ _ (λ t=>NH t/\t.cW.length<=500/\t.body.length<=500) _ _ (dS.ext hs.aE) ⟨120,[],[],rfl,aiM,λ sv y w1 _ hd hp=>C120 y sv w1 hd hp⟩ (λ _ ht=>hz.uw (List.mem_append_right _ ht)) (by have:=hz.recover; omega)) (λ _ _ hs=>bH (bI (λ _=>aA kY (aB tP hs.hb rfl (bO aiW hs (C126 _ _ _ (λ c=>c.e.length<=1048576) _ _ (eQ.ext hs.aE) ⟨121,[],[],rfl,aiN,λ sv y w1 _ hd hp=>C121 y sv w1 hd hp⟩ (λ c hc=>(hz.zc c hc).1) (by have:=hz.dF; omega)) (λ _ _ hs=>bH ⟨vb (by grind),hs⟩)))) (λ _=>⟨vb (by grind),hs⟩)))))) (λ _=>⟨vb (by grind),hs⟩))))
 rintro _ _ ⟨rfl,hs⟩ _;refine ⟨vb ?_,hs.drop.aE⟩;rw [<- HA,BF]; simp
variable (w:World) (K:Value->World->Prop)
def S70 (p0:Value):Prop:=
 gd Tryz.prog (Instr.box 40 p0) w λ p1 a=>K (.func (Go.Fn.func 133) [].toArray [p1].toArray) a
theorem adD (p0:Value) (h:S70 w K p0):CR 70 [p0] w K:=
 eN 4 (λ _=>.nil) 4 [.tmp 2] Tryz.func70 h
def S133 (jh a:Value):Prop:=
 fA 40 a 0 λ b=>lA 36 b w λ c=>lN 36 c λ d=>fh (λ K1 e f=>∀ _:Env,
 bA .lss 3 e d λ g=>cV g (iA 36 c e λ h=>lA 37 h f λ j=>lN 37 j λ k=>fh (λ K2 l n=>∀ _:Env,
 bA .lss 3 l k λ o=>cV o (iA 37 j l λ p=>lA 142 p n λ q=>aL 142 n λ c6 r=>sA 142 c6 q r λ s=>lA 142 c6 s λ t=>eg Tryz.prog jh [t,e] s λ u v=>cU Tryz.prog (Op.unary .not u) λ x=>
 cV x (K (.tuple #[]) v) (bB .add 3 l (i 1) λ y=>K2 y v)) (bB .add 3 e (i 1) λ z=>K1 z n)) (λ K2=>K2 (i 0) f)) (fA 40 a 1 λ aa=>lA 37 aa f λ ab=>lN 37 ab λ ac=>fh (λ K3 ad ae=>∀ _:Env,
 bA .lss 3 ad ac λ af=>cV af (iA 37 ab ad λ ag=>lA 142 ag ae λ ah=>aL 142 ae λ c8 ai=>sA 142 c8 ah ai λ aj=>lA 142 c8 aj λ ak=>fA 40 a 0 λ al=>lA 36 al aj λ am=>
 lN 36 am λ an=>bA .add 3 an ad λ ao=>eg Tryz.prog jh [ak,ao] aj λ ap aq=>cU Tryz.prog (Op.unary .not ap) λ ar=>cV ar (K (.tuple #[]) aq) (bB .add 3 ad (i 1) λ asx=>
 K3 asx aq)) (K (.tuple #[]) ae)) (λ K3=>K3 (i 0) f))) (λ K1=>K1 (i 0) w)
theorem Yq (jh x1:Value) (h:S133 w K jh x1):CR 133 [jh,x1] w K:=
 eN 48 (λ _=>.nil) 0 [] Tryz.func133 h
def S24 (p0:Value):Prop:=
 gd Tryz.prog (Instr.box 40 p0) w λ p1 a=>aL 32 a λ fp b=>lA 40 p1 b λ c=>cF 70 [c] b λ d e=>l9 Tryz.prog d 2 e (λ a1 f B1 R1=>aL 142 f λ c4 g=>sA 142 c4 (qh a1 0) g λ h=>
 B1 h λ j=>lA 32 fp j λ k=>fA 142 c4 0 λ l=>lA 9 l j λ n=>bS 32 1 [(0,n)] j λ o p=>aP 32 k o p λ q r=>sA 32 fp q r λ s=>R1 none s) (Pm (λ D t=>lA 32 fp t λ u=>
 fo (D::[]) t λ v=>K u v) (λ D x=>fo (D::[]) x λ y=>K (.slice none 0 0) y) (λ _ _ _=>False))
theorem adE (p0:Value) (h:S24 w K p0):CR 24 [p0] w K:=
 eN 15 (λ _=>.nil) 4 [.tmp 2] Tryz.func24 h
def S28 (p0:Value):Prop:=
 gd Tryz.prog (Instr.box 40 p0) w λ p1 a=>fA 40 p1 0 λ b=>lA 36 b a λ c=>lN 36 c λ d=>mn (λ K1 n3 e f=>∀ _:Env,
 bA .lss 3 e d λ g=>cV g (iA 36 c e λ h=>lA 37 h f λ j=>lN 37 j λ k=>bA .add 3 n3 k λ l=>bB .add 3 e (i 1) λ n=>K1 l n f) (K n3 f)) (λ K1=>K1 (i 0) (i 0) a)
theorem adF (p0:Value) (h:S28 w K p0):CR 28 [p0] w K:=
 eN 19 (λ _=>.nil) 4 [.tmp 2] Tryz.func28 h
def S26 (p0 kH:Value):Prop:=
 gd Tryz.prog (Instr.box 40 p0) w λ p2 a=>gd Tryz.prog (Instr.box 3 kH) a λ lQ b=>aL 3 b λ c d=>aL 3 d λ at5 e=>sA 3 at5 (i 0) e λ f=>lA 40 p2 f λ g=>cF 70 [g] f λ h j=>
 l9 Tryz.prog h 2 j (λ a1 k B1 R1=>B1 k λ l=>lA 3 at5 l λ n=>lA 3 lQ l λ o=>bA .eql 3 n o λ p=>cV p (sA 3 c (qh a1 1) l λ q=>R1 (some .ret) q) (lA 3 at5 l λ s=>
 bB .add 3 s (i 1) λ t=>sA 3 at5 t l λ u=>R1 none u)) (Pm (λ D v=>sA 3 c (i (-1)) v λ x=>fo (D::[]) x λ y=>lA 3 c y λ r=>K r y) (λ D z=>fo (D::[]) z λ aa=>
 lA 3 c aa λ Fv=>K Fv aa) (λ _ _ _=>False))
theorem adG (p0 kH:Value) (h:S26 w K p0 kH):CR 26 [p0,kH] w K:=
 eN 18 (λ _=>.nil) 16 [.cell 4 3] Tryz.func26 h
def S25 (p0:Value):Prop:=
 gd Tryz.prog (Instr.box 40 p0) w λ p1 a=>fA 40 p1 2 λ b=>lA 37 b a λ c=>lN 37 c λ d=>mn (λ K1 fp e f=>∀ _:Env,
 bA .lss 3 e d λ g=>cV g (iA 37 c e λ h=>lA 142 h f λ j=>aL 142 f λ c5 k=>sA 142 c5 j k λ l=>fA 142 c5 0 λ n=>lA 9 n l λ o=>bS 32 1 [(0,o)] l λ p q=>aP 32 fp p q λ r s=>
 bB .add 3 e (i 1) λ t=>K1 r t s) (K fp f)) (λ K1=>K1 (.slice none 0 0) (i 0) a)
theorem adH (p0:Value) (h:S25 w K p0):CR 25 [p0] w K:=
 eN 20 (λ _=>.nil) 4 [.tmp 2] Tryz.func25 h
def S29 (p0:Value):Prop:=
 gd Tryz.prog (Instr.box 40 p0) w λ p1 a=>aL 45 a λ fp b=>lA 40 p1 b λ c=>cF 70 [c] b λ d e=>l9 Tryz.prog d 2 e (λ a1 f B1 R1=>aL 142 f λ c4 g=>sA 142 c4 (qh a1 0) g λ h=>
 B1 h λ j=>lA 45 fp j λ k=>fA 142 c4 1 λ l=>lA 3 l j λ n=>bS 45 1 [(0,n)] j λ o p=>aP 45 k o p λ q r=>sA 45 fp q r λ s=>R1 none s) (Pm (λ D t=>lA 45 fp t λ u=>
 fo (D::[]) t λ v=>K u v) (λ D x=>fo (D::[]) x λ y=>K (.slice none 0 0) y) (λ _ _ _=>False))
theorem adI (p0:Value) (h:S29 w K p0):CR 29 [p0] w K:=
 eN 15 (λ _=>.nil) 4 [.tmp 2] Tryz.func29 h
def S81 (l0 s1:Value):Prop:=
 cF 138 [l0,s1] w λ a b=>K a b
theorem adJ (l0 s1:Value) (h:S81 w K l0 s1):CR 81 [l0,s1] w K:=
 eN 8 (λ _=>.nil) 16 [.tmp 4] Tryz.func81 h
def S65 (p0:Value):Prop:=
 gd Tryz.prog (Instr.box 40 p0) w λ p1 a=>fA 40 p1 3 λ b=>lA 35 b a λ c=>fA 40 p1 4 λ d=>lA 35 d a λ e=>bS 252 2 [(0,c),(1,e)] a λ f g=>cF 129 [f] g λ h j=>
 K h j
theorem adK (p0:Value) (h:S65 w K p0):CR 65 [p0] w K:=
 eN 9 (λ _=>.nil) 4 [.tmp 2] Tryz.func65 h
def S64 (p0:Value):Prop:=
 gd Tryz.prog (Instr.box 40 p0) w λ p1 a=>fA 40 p1 3 λ b=>lA 35 b a λ c=>lN 35 c λ d=>cE (λ K1=>fA 40 p1 0 λ e=>lA 36 e a λ f=>lN 36 f λ g=>bB .gtr 3 g (i 4) λ h=>
 cV h (K1 tt a) (fA 40 p1 0 λ j=>lA 36 j a λ k=>cF 124 [k,(.func (.func 127) #[] #[])] a λ l n=>cV l (K1 tt n) (fA 40 p1 1 λ o=>lA 37 o n λ p=>lN 37 p λ q=>bB .gtr 3 q (i 4) λ r=>
 cV r (K1 tt n) (fA 40 p1 2 λ s=>lA 37 s n λ t=>lN 37 t λ u=>bB .gtr 3 u (i 2) λ v=>cV v (K1 tt n) (bB .eql 3 d (i 0) λ x=>cV x (K1 tt n) (bB .gtr 3 d (i 3) λ y=>
 cV y (K1 tt n) (lA 40 p1 n λ z=>cF 65 [z] n λ aa ab=>cF 125 [aa,(.func (.func 128) #[] #[])] ab λ ac ad=>cV ac (K1 tt ad) (fA 40 p1 5 λ ae=>lA 38 ae ad λ af=>lN 38 af λ ag=>
 bB .gtr 3 ag (i 4) λ ah=>K1 ah ad)))))))) (λ ai aj=>∀ _:Env,
 K ai aj)
theorem adL (p0:Value) (h:S64 w K p0):CR 64 [p0] w K:=
 eN 51 (λ _=>.nil) 4 [.tmp 2] Tryz.func64 h
def S127 (l0:Value):Prop:=
 lN 37 l0 λ a=>bB .gtr 3 a (i 4) λ b=>K b w
theorem Yr (l0:Value) (h:S127 w K l0):CR 127 [l0] w K:=
 eN 6 (λ _=>.nil) 4 [.tmp 2] Tryz.func127 h
def S128 (t0:Value):Prop:=
 gd Tryz.prog (Instr.box 34 t0) w λ t1 a=>fA 34 t1 1 λ b=>lA 32 b a λ c=>lN 32 c λ d=>bB .gtr 3 d (i 4) λ e=>K e a
theorem Ys (t0:Value) (h:S128 w K t0):CR 128 [t0] w K:=
 eN 7 (λ _=>.nil) 4 [.tmp 2] Tryz.func128 h
def S66 (l0 wx:Value):Prop:=
 fh (λ K1 i6 a=>∀ _:Env,
 lN 27 l0 λ b=>bA .lss 3 i6 b λ c=>cV c (iA 27 l0 i6 λ d=>lA 24 d a λ e=>aL 24 a λ f g=>sA 24 f e g λ h=>bB .add 3 i6 (i 1) λ j=>fA 24 f 6 λ k=>lA 3 k h λ l=>
 bA .add 3 j l λ n=>fA 24 f 7 λ o=>lA 3 o h λ p=>bA .add 3 n p λ q=>cE (λ K2=>fA 24 f 0 λ r=>lA 3 r h λ s=>bB .eql 3 s (i 12) λ t=>cV t (fA 24 f 5 λ u=>
 lA 3 u h λ v=>bA .mul 3 wx v λ x=>K2 x h) (K2 wx h)) (λ n9 y=>∀ _:Env,
 bB .gtr 3 n9 (i 64) λ z=>cV z (fA 24 f 8 λ aa=>lA 3 aa y λ ab=>K (.tuple #[ab,tt]) y) (bB .add 3 i6 (i 1) λ ac=>cU Tryz.prog (Instr.sliceAt 27 l0 (some ac) (some q) none) λ ad=>
 cF 66 [ad,n9] y λ ae af=>xT ae 0 λ ag=>xT ae 1 λ ah=>cV ah (K (.tuple #[ag,tt]) af) (K1 q af)))) (K (.tuple #[(i 0),ff]) a)) (λ K1=>K1 (i 0) w)
theorem adM (l0 wx:Value) (h:S66 w K l0 wx):CR 66 [l0,wx] w K:=
 eN 53 (λ _=>.nil) 48 [.tmp 4,.tmp 5] Tryz.func66 h
def S129 (qP:Value):Prop:=
 lN 252 qP λ a=>mn (λ K1 aa5 b c=>∀ _:Env,
 bA .lss 3 b a λ d=>cV d (cE (λ K2=>iA 252 qP b λ e=>lA 35 e c λ f=>lN 35 f λ g=>bA .add 3 aa5 g λ h=>bB .lss 3 h (i 0) λ j=>cV j (q7 Tryz.prog (Instr.makeInterface 9 (Go.Value.string (ByteArray.mk (#[108,101,110,32,111,117,116,32,111,102,32,114,97,110,103,101])))) c λ _=>
 False) (K2 h c)) (λ Yt k=>∀ _:Env,
 bB .add 3 b (i 1) λ l=>K1 Yt l k)) (cF 177 [(.slice none 0 0),aa5] c λ n o=>lN 252 qP λ p=>mn (λ K3 CH q r=>∀ _:Env,
 bA .lss 3 q p λ s=>cV s (iA 252 qP q λ t=>lA 35 t r λ u=>aP 35 CH u r λ v x=>bB .add 3 q (i 1) λ y=>K3 v y x) (K CH r)) (λ K3=>K3 n (i 0) o)))
 (λ K1=>K1 (i 0) (i 0) w)
theorem Yu (qP:Value) (h:S129 w K qP):CR 129 [qP] w K:=
 eN 36 (λ _=>.nil) 4 [.tmp 2] Tryz.func129 h
def S177 (s0 n1:Value):Prop:=
 rI (λ K1=>bB .lss 3 n1 (i 0) λ a=>cV a (q7 Tryz.prog (Instr.makeInterface 9 (Go.Value.string (ByteArray.mk (#[99,97,110,110,111,116,32,98,101,32,110,101,103,97,116,105,118,101])))) w λ _=>
 False) (K1 w)) (λ b=>∀ _:Env,
 cE (λ K2=>cU Tryz.prog (Builtin.cap_ #[35] 3 [s0].toArray) λ c=>lN 35 s0 λ d=>bA .sub 3 c d λ e=>bA .sub 3 n1 e λ f=>bB .gtr 3 f (i 0) λ g=>cV g (cU Tryz.prog (Builtin.cap_ #[35] 3 [s0].toArray) λ h=>
 cU Tryz.prog (Instr.sliceAt 35 s0 none (some h) none) λ j=>gd Tryz.prog (Builtin.append_ #[35,3] 35 [j,f].toArray) b λ k l=>lN 35 s0 λ n=>cU Tryz.prog (Instr.sliceAt 35 k none (some n) none) λ o=>
 K2 o l) (K2 s0 b)) (λ ape p=>∀ _:Env,
 K ape p))
theorem Yv (s0 n1:Value) (h:S177 w K s0 n1):CR 177 [s0,n1] w K:=
 eN 27 (λ _=>.nil) 16 [.tmp 4] Tryz.func177 h
theorem Yw:PL 70:=dW Tryz.func70
theorem My:PL 133:=dW Tryz.func133
theorem apf:PL 24:=dW Tryz.func24
theorem apg:PL 28:=dW Tryz.func28
theorem ajD:PL 26:=dW Tryz.func26
theorem aph:PL 25:=dW Tryz.func25
theorem api:PL 29:=dW Tryz.func29
theorem Ou:PL 81:=dW Tryz.func81
theorem Yx:PL 65:=dW Tryz.func65
theorem apj:PL 64:=dW Tryz.func64
theorem ajE:PL 127:=dW Tryz.func127
theorem ajF:PL 128:=dW Tryz.func128
theorem ajG:PL 66:=dW Tryz.func66
theorem ajH:PL 129:=dW Tryz.func129
theorem ajI:PL 177:=dW Tryz.func177
end Go.Proofs.YtfkgkbhbdffckaaGreatDoor
namespace Go.Fw
section
variable {α:Type} [Flat α] {P:Program} {w w0:World} {A:Nat->Prop} {L:List HP}
theorem HC {T E by' tx R:Nat} {kn k0:IntKind} {K:Value->World->Prop} (hs:St w0 A L w) (ht:Qk P T E (Flat.sz α) by') (hk:P.underlying tx=some (.int kn)) (h1:1<=Flat.sz α) (n:Nat) (hn:0<n) (hn2:n<=1048576) (UX:by'<=8192)
  (k:∀ b cap w',n<=cap->St w0 A (bJ (.slice (some ⟨b,0,none⟩) 0 cap) ([]:List α)::L) w'->K (.slice (some ⟨b,0,none⟩) n cap) w'):gd P (Builtin.append_ #[T,tx] R [.slice none 0 0,.int k0 (n:Int)].toArray) w K:=by
 obtain ⟨hu,inf,hi,iN,nJ,yZ⟩:=dz ht
 obtain ⟨z,hz,hzc⟩:∃ z,inf.zero=some z/\z.cells.size=Flat.sz α:=by
  cases h:inf.zero with
  | none=>rw [h] at yZ; cases yZ
  | some z=>rw [h] at yZ; exact ⟨z,rfl,by simpa using yZ⟩
 have h48:n * inf.bytes<=281474976710656:=by
  have:=Nat.mul_le_mul hn2 (show inf.bytes<=8192 by omega)
  omega
 have hr:=Lib.run_append_nil_zeros (P:=P) w T tx R E inf z k0 kn hu hk hi hz n hn (by omega) (by omega) h48
 have FB:=grownCap_ge w n 0 E
 refine ⟨_,_,hr,k _ _ _ (by omega) ?_⟩
 refine hs.drew.new (F:=(· = w.heap.size)) (Ext.alloc _ _) (.inr ⟨_,_,(Builtin.zeroCells z.cells n++Builtin.zeroCells z.cells (grownCap w n 0 E - n)).toList,rfl,?_,?_,λ _=>Iff.rfl⟩) λ b hb=>Nat.le_of_eq hb.symm
 ·exact ⟨E,by rw [show flat ([]:List α)=[] from rfl,List.nil_append,Array.toArray_toList]; exact jX _ _⟩
 refine ⟨Nat.zero_le _,Nat.le_of_eq (Eq.symm ?_)⟩
 show ([]++_).length=_
 rw [List.nil_append,Array.length_toList,Array.size_append,size_zeroCells,size_zeroCells,hzc,<- Nat.add_mul]
 congr 1; omega
theorem HD {T E sz by' R n c:Nat} {z:Option Nat} {a:Option Addr} {K:Value->Prop} (ht:cT P T=some (E,sz,by',z)) (k:K (.int .i64 (c:Int))):cU P (Builtin.cap_ #[T] R [Value.slice a n c].toArray) K:=by
 obtain ⟨hu,_⟩:=dz ht
 refine ⟨_,?_,k⟩
 unfold Builtin.cap_
 simp [aK,aM hu]
 rfl
theorem HE {T E sz by' n c:Nat} {z:Option Nat} {a:Option Addr} {K:Value->Prop} (ht:cT P T=some (E,sz,by',z)) (ha:a.map (·.add (0 * sz))=a) (k:K (.slice a 0 c)):cU P (Instr.sliceAt T (.slice a n c) none (some (.int .i64 0)) none) K:=by
 refine ⟨_,rO ht (kJ (.inl ⟨rfl,rfl⟩) (.inr ⟨0,rfl,Int.le_refl _,rfl⟩) (Nat.le_refl _) (Nat.zero_le _)),?_⟩
 rw [ha,ite_self]
 exact k
end
end Go.Fw
namespace Go.Proofs.YtfkgkbhbdffckaaGreatDoor
open Go.Fw
theorem sG {α:Type} {ls:List (List α)} {k:Nat} {l:List α} (h:ls[k]? = some l):(ls.take (k+1)).flatten=(ls.take k).flatten++l:=by
 rw [<- fY h]; simp
theorem EE {α:Type} (ls:List (List α)) (k:Nat):(ls.take k).flatten.length<=ls.flatten.length:=by
 conv=>rhs; rw [<- List.take_append_drop k ls,List.flatten_append,List.length_append]
 omega
theorem aa6 {α:Type} [Flat α] (w:World):dx (λ _=>True) w (.slice none 0 0) ([]:List α):=⟨none,0,rfl,Nat.zero_le _,.inl ⟨rfl,rfl⟩⟩
theorem C177 (n:Nat) (w:World) (hn:n<=1048576):CR 177 [.slice none 0 0,.int .i64 (n:Int)] w (λ v w'=>mZ (bJ v ([]:List bR)) w w'):=by
 have hs:=St.start w;refine Yv _ _ _ _ ?_;unfold S177;refine ⟨λ w'=>w'=w,aS (aC (λ c=>absurd c (by omega)) (λ _=>rfl)),?_⟩;rintro w1 hw _;subst hw;refine ⟨λ jv w'=>St w1 bD [bJ jv ([]:List bR)] w',?_,?_⟩
 ·refine HD iO (aG iO (aa6 (α:=bR) w1) (iT (by simp) (iT (by simp; omega) (er (aC (λ c=>?_) (λ _=>hs.fy))))));refine HD iO (HE iO rfl ?_);have e:(n:Int) - (((0:Nat):Int) - (([]:List bR).length:Int))=(n:Int):=by simp
  rw [e] at c |-;exact HC (α:=bR) (kn:=.i64) hs iO (by kernel_rfl) (by decide) n (by omega) hn (by decide) (λ _ _ _ _ hs=>aG iO (aa6 (α:=bR) w1) (HE iO (by simp [Addr.add]) hs))
 rintro v _ hs _;exact hs.fresh
theorem C129 (lv:Value) (Kb:List (List bR)) (w:World) (hL:anw w lv Kb) (hn:Kb.length<=1000) (hf:Kb.flatten.length<=100000):CR 129 [lv] w (λ v w'=>mZ (bJ v Kb.flatten) w w'):=by
 obtain ⟨ss,hR,hl,hx⟩:=hL;have hs:=St.start w;refine Yu _ _ _ ?_;unfold S129;refine aG FN (hR.ext hs.aE) ?_;refine ⟨λ m y x w1=>∃ k:Nat,y = .int .i64 ((Kb.take k).flatten.length:Int)/\x = .int .i64 (k:Int)/\m=ss.length - k/\k<=ss.length/\St w bD [] w1,⟨_,0,rfl,rfl,rfl,Nat.zero_le _,hs⟩,?_⟩;rintro m _ _ w1 ⟨k,rfl,rfl,rfl,hk,hs⟩ _;refine aS (aC (λ c=>?_) (λ c=>?_))
 ·obtain ⟨s,hsk⟩:∃ s,ss[((k:Int)).toNat]? = some s:=⟨_,List.getElem?_eq_getElem (by omega)⟩;obtain ⟨t,htk⟩:∃ t,Kb[k]? = some t:=⟨_,List.getElem?_eq_getElem (by omega)⟩;have hst:=hx k s t hsk htk;have hfk:=EE Kb (k+1);have Yy:=sG htk;rw [Yy,List.length_append] at hfk;refine ⟨λ jv w'=>jv = .int .i64 ((Kb.take (k+1)).flatten.length:Int)/\St w bD [] w',aU FN hR (by omega) hsk (λ _ hq=>aF fg (hq.ext hs.aE) (aG iO (hst.ext hs.aE) (aT (by omega) (aS (aC (λ c=>absurd c (by omega)) (λ _=>⟨congrArg (Value.int .i64) (by rw [Yy,List.length_append]; omega),hs⟩)))))),?_⟩;rintro _ _ ⟨rfl,hs⟩ _;exact aT (by omega) ⟨_,by omega,k+1,rfl,rfl,rfl,by omega,hs⟩
 have oo:Kb.take k=Kb:=List.take_of_length_le (by omega);rw [oo];refine dA ajI hs (C177 _ _ (by omega)) (λ x24 _ cL hs=>aG FN (hR.ext hs.aE) ?_);refine ⟨λ m v x w1=>∃ k:Nat,x = .int .i64 (k:Int)/\m=ss.length - k/\k<=ss.length/\St w bD [bJ v ((Kb.take k).flatten)] w1,⟨_,0,rfl,rfl,Nat.zero_le _,hs⟩,?_⟩;rintro m v _ _ ⟨k,rfl,rfl,hk,hs⟩ _;refine aS (aC (λ c=>?_) (λ c=>?_))
 ·obtain ⟨s,hsk⟩:∃ s,ss[((k:Int)).toNat]? = some s:=⟨_,List.getElem?_eq_getElem (by omega)⟩;obtain ⟨t,htk⟩:∃ t,Kb[k]? = some t:=⟨_,List.getElem?_eq_getElem (by omega)⟩;have hst:=hx k s t hsk htk;have hfk:=EE Kb (k+1);have Yy:=sG htk;rw [Yy,List.length_append] at hfk;exact aU FN hR (by omega) hsk (λ _ hq=>aF fg (hq.ext hs.aE) (dw hs iO (hst.ext hs.aE) (by omega) (by decide) (λ _ _ hs=>aT (by omega) ⟨_,by omega,k+1,rfl,rfl,by omega,by rw [Yy]; exact hs⟩)))
 rw [show Kb.take k=Kb from List.take_of_length_le (by omega)] at hs;exact hs.fresh
theorem adN {w:World} {a b:SV} {x y:List bR} (h1:dx (λ _=>True) w (Flat.val a) x) (h2:dx (λ _=>True) w (Flat.val b) y):∀ (i:Nat) (s:SV) (t:List bR),[a,b][i]? = some s->[x,y][i]? = some t->dx (λ _=>True) w (Flat.val s) t:=by
 intro i s t hs ht
 rcases i with _ | _ | i
 ·cases hs; cases ht; exact h1
 ·cases hs; cases ht; exact h2
 simp at hs
theorem C65 (p:bQ) (pv:bE) (uz wR:List bR) (w:World) (hp:Deep.dr w pv p) (h3:dx (λ _=>True) w (Flat.val pv.threads) uz) (h4:dx (λ _=>True) w (Flat.val pv.recover) wR) (hz3:uz.length<=500) (hz4:wR.length<=500):CR 65 [Flat.val pv] w (λ v w'=>mZ (bJ v (uz++wR)) w w'):=by
 obtain ⟨bX,cN,cB,bK,bN,bU,rfl,ep,fQ,fI,dR,dS,eQ⟩:=hp;have hs:=St.start w;refine adK _ _ _ ?_;unfold S65;refine cZ hs (λ uZ _ hs=>aA qo (aB fg hs.hb rfl (aA sZ (aB fg hs.hb rfl (cO ([bK,bN]) hs FN rfl rfl (fw rfl) (λ aoF _ hs=>dA ajH hs (C129 _ [uz,wR] _ ⟨_,(hs).gg,rfl,adN (h3.ext hs.aE) (h4.ext hs.aE)⟩ (by simp) (by simp; omega)) (λ x8 _ cL hs=>?_)))))));have hs9:=hs.p1.drop.p1.drop;rw [show [uz,wR].flatten=uz++wR from by simp] at hs9;exact hs9.fresh
theorem adO (p:bQ):(decide (4<(p.lines.length:Int)) || p.lines.any (λ l=>decide (4<(l.length:Int))) || decide (4<(p.fr.length:Int)) || decide (2<(p.dL.length:Int)) || decide ((p.threads.length:Int)=0) || decide (3<(p.threads.length:Int)) || (gL p).any (λ t=>decide (4<(t.cW.length:Int))) || decide (4<(p.dF.length:Int)))=tU p:=by
 unfold tU
 rw [show decide ((p.threads.length:Int)=0)=decide ((p.threads.length:Int)<1) from decide_eq_decide.2 (by omega)]
 generalize p.lines.any (λ l=>decide (4<(l.length:Int)))=a
 generalize (gL p).any (λ t=>decide (4<(t.cW.length:Int)))=b
 cases a <;> cases b <;> cases decide (4<(p.lines.length:Int)) <;> cases decide (4<(p.fr.length:Int)) <;> cases decide (2<(p.dL.length:Int)) <;> cases decide ((p.threads.length:Int)<1) <;> cases decide (3<(p.threads.length:Int)) <;> simp
theorem Mz {p:bQ} (h:∀ l∈p.lines,l.length<=500) (hl:p.lines.length<=500) (k:Nat):(p.lines.take k).flatten.length<=250000:=by
 have h1:=EE p.lines k
 have h2:=cJ h
 have:=Nat.mul_le_mul_left 500 hl
 omega
theorem C81 (sv:Value) (ns:List ByteArray) (s:ByteArray) (w:World) (hL:dx (λ _=>True) w sv ns) (hn:ns.length<=1048576):CR 81 [sv,.string s] w (λ v w'=>v = .int .i64 (cI ns s)/\Ext w w'):=by
 have hs:=St.start w;refine adJ _ _ _ _ ?_;unfold S81;exact bO Q6 hs (C138 _ _ _ _ (hL.ext hs.aE) (by omega)) (λ _ _ hs=>⟨rfl,hs.aE⟩)
theorem C28 (p:bQ) (pv:bE) (w:World) (hp:Deep.dr w pv p) (hz:PZ p):CR 28 [Flat.val pv] w (λ v w'=>v = .int .i64 (dX p)/\Ext w w'):=by
 obtain ⟨bX,cN,cB,bK,bN,bU,rfl,ep,fQ,fI,dR,dS,eQ⟩:=hp;have hs:=St.start w;refine adF _ _ _ ?_;unfold S28;refine cZ hs (λ uZ w1 hs=>aA jk (aB rB hs.hb rfl ?_));obtain ⟨apl,ajM,ajN⟩:=(ep).open;have hn15:=ajN.1;refine aG rT (ajM.ext hs.aE) ?_;refine ⟨λ m y x w1=>∃ k:Nat,y = .int .i64 (((p.lines.take k).flatten.length:Nat):Int)/\x = .int .i64 (k:Int)/\m=p.lines.length - k/\k<=p.lines.length/\St w bD [cP uZ (Flat.enc (⟨bX,cN,cB,bK,bN,bU⟩:bE))] w1,⟨_,0,rfl,rfl,rfl,by omega,hs⟩,?_⟩
 rintro m _ _ _ ⟨k,rfl,rfl,rfl,hk,hs⟩ _;have hsk:=Mz hz.line hz.lines k;have apm:=Mz hz.line hz.lines (k+1);have DW:=hz.lines;refine aS (aC (λ jl=>?_) (λ jl=>?_))
 ·obtain ⟨HF,AZ⟩:=gx apl (i:=((k:Int)).toNat) (by omega);obtain ⟨ajO,z8⟩:=gx ((p).lines) (i:=((k:Int)).toNat) (by omega);have ajP:DL w (Flat.val HF) ajO:=ajN.2 _ _ _ AZ z8;refine aU rT ajM (by omega) AZ (λ _ Hl=>?_);have hfs:=sG (k:=k) z8;rw [hfs,List.length_append] at apm;refine aF iP (Hl.ext hs.aE) ?_;have apn:=DL.flat (ajP);exact aG nk (apn.ext hs.aE) (aT (by omega) (aT (by omega) ⟨_,by omega,k+1,congrArg (Value.int .i64) (by rw [sG (k:=k) z8,List.length_append]; omega),rfl,rfl,by omega,hs⟩))
 rw [List.take_of_length_le (by omega)];exact ⟨rfl,hs.drop.aE⟩
theorem C25 (p:bQ) (pv:bE) (w:World) (hp:Deep.dr w pv p) (hz:PZ p):CR 25 [Flat.val pv] w (λ v w'=>mZ (bJ v (cC p)) w w'):=by
 obtain ⟨bX,cN,cB,bK,bN,bU,rfl,ep,fQ,fI,dR,dS,eQ⟩:=hp;have hs:=St.start w;refine adH _ _ _ ?_;unfold S25;refine cZ hs (λ uZ w1 hs=>aA sY (aB iP hs.hb rfl ?_));have ajQ:=DL.flat (fI);refine aG nk (ajQ.ext hs.aE) ?_;refine ⟨λ m y x w1=>∃ k:Nat,x = .int .i64 (k:Int)/\m=p.dL.length - k/\k<=p.dL.length/\St w bD [bJ y ((p.dL.take k).map bP.name),cP uZ (Flat.enc (⟨bX,cN,cB,bK,bN,bU⟩:bE))] w1,⟨_,0,rfl,rfl,by omega,hs.fy (α:=ByteArray)⟩,?_⟩
 rintro m fp _ _ ⟨k,rfl,rfl,hk,hs⟩ _;have hml:((p.dL.take k).map bP.name).length=k:=by rw [List.length_map,List.length_take]; omega
 have hzk:=hz.dL;refine aS (aC (λ jl=>?_) (λ jl=>?_))
 ·obtain ⟨HF,AZ⟩:=gx ((p).dL) (i:=((k:Int)).toNat) (by omega);refine aU nk ajQ (by omega) AZ (λ _ Hl=>aF mr (Hl.ext hs.aE) (aN hs oA (λ aoy _ hs=>aO (x:=HF) hs mr rfl rfl (λ _ hs=>aA mu (aB (v:=.string ((HF).name)) kp hs.hb rfl (cO ([HF.name]) hs nj rfl rfl (fw rfl) (λ s_x16 _ hs=>?_)))))));have adP:=(hs).gg;exact dw hs.p2 nj adP (by simp <;> omega) (by decide) (λ _ _ hs=>have hs:=hs.p1.drop;aT (by omega) (have hs:=(hs.p1.drop.p1).p1;⟨_,by omega,k+1,rfl,rfl,by omega,by rw [<- fO (k:=k) AZ]; exact hs⟩))
 have hs:=hs.p1.drop;rw [List.take_of_length_le (by omega)] at hs;exact hs.fresh
theorem C127 (lv:Value) (xs:List bP) (w:World) (hL:dx (λ _=>True) w lv xs) (hn:xs.length<=1048576):CR 127 [lv] w (λ v w'=>v = .bool (decide (4<(xs.length:Int)))/\Ext w w'):=by
 have hs:=St.start w;refine Yr _ _ _ ?_;unfold S127;exact aG nk (hL.ext hs.aE) (er ⟨rfl,hs.aE⟩)
theorem C128 (t:bV) (tv:bR) (w:World) (ht:Deep.dr w tv t) (hz:t.cW.length<=500):CR 128 [Flat.val tv] w (λ v w'=>v = .bool (decide (4<(t.cW.length:Int)))/\Ext w w'):=by
 obtain ⟨mF,mG,rfl,nY,pO⟩:=ht;have hs:=St.start w;refine Ys _ _ _ ?_;unfold S128;refine cZ hs (λ Ot _ hs=>aA kX (aB lL hs.hb rfl ?_));have apo:=DL.flat (nY);exact aG nj (apo.ext hs.aE) (er ⟨rfl,hs.drop.aE⟩)
theorem C64 (p:bQ) (pv:bE) (w:World) (hp:Deep.dr w pv p) (hz:PZ p):CR 64 [Flat.val pv] w (λ v w'=>v = .bool (tU p)/\Ext w w'):=by
 obtain ⟨bX,cN,cB,bK,bN,bU,rfl,ep,fQ,fI,dR,dS,eQ⟩:=hp;have hs:=St.start w;refine adL _ _ _ ?_;unfold S64;refine cZ hs (λ uZ w1 hs=>?_);have IP:=hz.lines;have hz2:=hz.fr;have hz3:=hz.dL;have hz4:=hz.threads;have hz5:=hz.dF;obtain ⟨uz,yn,L5⟩:=(dR).open;obtain ⟨wR,zx,U9⟩:=(dS).open;have hn3:=L5.1;have hn4:=U9.1;have apq:=Mn hz.toPS;refine aA qo (aB fg hs.hb rfl ?_);obtain ⟨ts19,apr,aps⟩:=(dR).open;have hn19:=aps.1;refine aG iO (apr.ext hs.aE) ⟨λ jv w'=>jv = .bool (decide (4<(p.lines.length:Int)) || p.lines.any (λ l=>decide (4<(l.length:Int))) || decide (4<(p.fr.length:Int)) || decide (2<(p.dL.length:Int)) || decide ((p.threads.length:Int)=0) || decide (3<(p.threads.length:Int)) || (gL p).any (λ t=>decide (4<(t.cW.length:Int))) || decide (4<(p.dF.length:Int)))/\St w bD [cP uZ (Flat.enc (⟨bX,cN,cB,bK,bN,bU⟩:bE))] w',?_,?_⟩
 ·refine aA jk (aB rB hs.hb rfl ?_);obtain ⟨ts20,apt,apu⟩:=(ep).open;have hn20:=apu.1;refine aG rT (apt.ext hs.aE) (er (aC (λ _=>⟨vb (by grind),hs⟩) (λ nO=>aA jk (aB rB hs.hb rfl (bO aa0 hs (C124 _ _ _ (λ l=>l.length<=1048576) _ _ (ep.ext hs.aE) ⟨127,[],[],rfl,ajE,λ _ y w1 _ hd hp=>C127 _ y w1 (DL.flat hd) hp⟩ (λ l hl=>by have:=hz.line l hl; omega) (by have:=hz.lines; omega)) (λ _ he hs=>bI (λ _=>⟨vb (by grind),hs⟩) (λ Mg=>aA vG (aB iP hs.hb rfl ?_))))))));have apv:=DL.flat (fQ);refine aG nk (apv.ext hs.aE) (er (aC (λ _=>⟨vb (by grind),hs⟩) (λ yj=>aA sY (aB iP hs.hb rfl ?_))))
  have apw:=DL.flat (fI);refine aG nk (apw.ext hs.aE) (er (aC (λ _=>⟨vb (by grind),hs⟩) (λ c_x29=>aI (aC (λ _=>⟨vb (by grind),hs⟩) (λ HG=>er (aC (λ _=>⟨vb (by grind),hs⟩) (λ yv=>aF gR hs.At (eW Yx (C65 p _ uz wR _ ⟨bX,cN,cB,bK,bN,bU,rfl,(ep.ext hs.aE),(fQ.ext hs.aE),(fI.ext hs.aE),(dR.ext hs.aE),(dS.ext hs.aE),(eQ.ext hs.aE)⟩ (yn.ext hs.aE) (zx.ext hs.aE) (by have:=hz.threads; omega) (by have:=hz.recover; omega)) ?_))))))));rintro x41 _ cL;have hs:=hs.made cL;have adQ:DL _ _ (gL p):=DL.of (hs).gg ((L5.append U9).ext hs.aE)
  refine bO SC hs (C125 _ _ _ (λ t=>t.cW.length<=500) _ _ adQ ⟨128,[],[],rfl,ajF,λ sv y w1 _ hd hp=>C128 y sv w1 hd hp⟩ (λ _ ht=>(hz.uw ht).2.1) (by omega)) (λ _ he hs=>bI (λ _=>have hs:=(hs).drop;⟨vb (by grind),hs⟩) (λ Mi=>aA kY (aB tP hs.p1.hb rfl ?_)));obtain ⟨ts23,apx,apy⟩:=(eQ).open;have hn23:=apy.1;exact aG vF (apx.ext hs.aE) (er (have hs:=(hs).drop;⟨vb (by grind),hs⟩))
 rintro _ _ ⟨rfl,hs⟩ _;exact ⟨vb (adO p),hs.drop.aE⟩
theorem qQ (x:aX) (a b r:Bk) (n:Int):lE (.cons x a b r) n=(decide (64<pN x n) || (lE a (pN x n) || lE b (pN x n)) || lE r n):=rfl
theorem Yz {xs:List aX} {k:Nat} {x:aX} {a b r:Bk} (h:xs.drop k=(Bk.cons x a b r).flat) (hst:(Bk.cons x a b r).str) {hi lo:Int} (h1:hi=k+1+x.body+x.eG) (h2:lo=k+1):(xs.take hi.toNat).drop lo.toNat=(a.app b).flat:=by
 have adR:=hst
 obtain ⟨g1,g2,_⟩:=adR
 have e:=Bk.wX hst (hi:=1+x.body+x.eG) (lo:=1) rfl rfl
 rw [<- e,<- h,List.take_drop,List.drop_drop]
 congr 1
 ·omega
 congr 1; omega
theorem Tb {xs:List aX} {k:Nat} {x:aX} {a b r:Bk} (h:xs.drop k=(Bk.cons x a b r).flat) (hst:(Bk.cons x a b r).str):xs.drop (k+1+a.len+b.len)=r.flat:=by
 have adR:=hst
 obtain ⟨g1,g2,_⟩:=adR
 rw [<- Bk.ai4 hst (hi:=1+x.body+x.eG) rfl,<- h,List.drop_drop]
 congr 1; omega
theorem Tc {α:Type} {xs l:List α} {k:Nat} {x:α} (h:xs.drop k=x::l):xs[k]? = some x:=by
 have:=congrArg (λ l=>l[0]?) h
 simpa using this
theorem C66 (lv:Value) (t:Bk) (n:Int) (N:Nat) (w:World) (hL:DL w lv t.flat) (hst:t.str) (hq:∀ x∈t.flat,0<=x.at_/\(x.kind=12->1<=x.n/\x.n<=8)) (hn:1<=n/\n<=64) (hl:t.len<=1048576) (hN:t.len<N):CR 66 [lv,.int .i64 n] w (λ v w'=>∃ a:Int,v = .tuple #[.int .i64 a,.bool (lE t n)]/\Ext w w'):=by
 have KY:=t.cJ;have hs:=St.start w;refine adM _ _ _ _ ?_;unfold S66;refine ⟨λ m y w1=>∃ (k:Nat) (u:Bk),y = .int .i64 (k:Int)/\m=t.len - k/\t.flat.drop k=u.flat/\k+u.len=t.len/\u.str/\(∀ x∈u.flat,0<=x.at_/\(x.kind=12->1<=x.n/\x.n<=8))/\lE t n=lE u n/\St w bD [] w1,⟨_,0,t,rfl,rfl,rfl,by omega,hst,hq,rfl,hs⟩,?_⟩;rintro m _ w1 ⟨k,u,rfl,rfl,Td,hku,Yy,hqu,hwb,hs⟩ _;obtain ⟨apB,YA,adS⟩:=(hL).open;have hn24:=adS.1;refine aG iV (YA.ext hs.aE) (aS (aC (λ j8=>?_) (λ j8=>?_)))
 ·obtain ⟨x,a,b,r,rfl⟩:=Bk.Mo (t:=u) (by rw [Bk.cJ]; omega);obtain ⟨e_x18,Te⟩:=gx apB (i:=((k:Int)).toNat) (by omega);obtain ⟨jg,Tf⟩:=gx (t.flat) (i:=((k:Int)).toNat) (by omega);obtain ⟨MA,MC,rfl,ams,amt⟩:=adS.2 _ _ _ Te Tf;refine aU iV YA (by omega) Te (λ _ ajR=>?_);obtain rfl:jg=x:=Option.some.inj (Tf.symm.trans (Tc Td));have hqx:=hqu jg (by simp [Bk.flat]);have apC:=Yy;obtain ⟨u6,zu,Pt,hg4,hga,hgb,hgr⟩:=apC;have hln:k+(a.len+b.len+r.len+1)=t.len:=hku;have hla:=a.cJ;have Yl:=b.cJ;have hlr:=r.cJ;have rN:=Yz Td Yy (hi:=(k:Int)+1+jg.body+jg.eG) (lo:=(k:Int)+1) rfl rfl
  have apD:=Tb Td Yy;refine aF mq (ajR.ext hs.aE) (aN hs nK (λ EC _ hs=>have hs:=hs.enc (cs':=Flat.enc (⟨0,(ByteArray.mk #[]),(ByteArray.mk #[]),⟨none,0,0⟩,⟨none,0,0⟩,0,0,0,0⟩:aW)) rfl;aO (x:=(⟨(jg).kind,(jg).eB,(jg).name,MA,MC,(jg).n,(jg).body,(jg).eG,(jg).at_⟩:aW)) hs mq rfl rfl (λ _ hs=>aT (by omega) (aA ni (aB (v:=.int .i64 ((jg).body)) cK hs.hb rfl (aT (by omega) (aA qn (aB (v:=.int .i64 ((jg).eG)) cK hs.hb rfl (aT (by omega) ⟨λ jv w'=>∃ m:Int,jv = .int .i64 m/\m=pN jg n/\St w bD [cP EC (Flat.enc (⟨(jg).kind,(jg).eB,(jg).name,MA,MC,(jg).n,(jg).body,(jg).eG,(jg).at_⟩:aW))] w',aA gI (aB (v:=.int .i64 ((jg).kind)) cK hs.hb rfl (aI (aC (λ Cj=>aA ql (aB (v:=.int .i64 ((jg).n)) cK hs.hb rfl (VK (by have RA:=hqx.2 Cj; have h1:=Int.mul_le_mul (a:=1) (b:=1) hn.1 RA.1 (by omega) (by omega); have h2:=Int.mul_le_mul (c:=64) (d:=8) hn.2 RA.2 (by omega) (by omega); omega) ⟨_,rfl,by grind [pN],hs⟩))) (λ _=>⟨_,rfl,by grind [pN],hs⟩)))),?_⟩)))))))))
  rintro _ _ ⟨m,rfl,hm,hs⟩ _;have hm8:=adv hn hqx.2 hm;refine er (aC (λ yv=>?_) (λ yv=>?_))
  ·refine aA sV (aB (v:=.int .i64 ((jg).at_)) cK hs.hb rfl ?_);refine ⟨jg.at_,?_,hs.drop.aE⟩;rw [hwb,qQ,<- hm,decide_eq_true (show (64:Int)<m by omega)]; rfl
  refine aT (by omega) (xf iV (YA.ext hs.aE) (by omega) (by omega) (by omega) (λ ajT Kc=>?_));have EF:=DL.cut Kc YA adS;refine eW ajG (C66 _ (a.app b) m (N - 1) _ (by have h:=(EF.ext hs.aE); rw [rN] at h; exact h) (Bk.Yb hga hgb) (λ y hy=>hqu y (by rw [Bk.AL] at hy; simp only [Bk.flat,List.mem_cons,List.mem_append]; rcases List.mem_append.1 hy with h | h <;> simp [h])) (by omega) (by rw [Mp]; omega) (by rw [Mp]; omega)) ?_;rintro _ _ ⟨a1,rfl,he⟩;have hs:=hs.ext he;rw [Oo];refine aR rfl (aR rfl (bI (λ AY=>?_) (λ AY=>⟨_,by omega,k+1+a.len+b.len,r,congrArg (Value.int .i64) (by omega),rfl,apD,by omega,hgr,(λ y hy=>hqu y (by simp [Bk.flat,hy])),by rw [hwb,qQ,<- hm,decide_eq_false (show ¬ (64:Int)<m by omega),AY]; rfl,hs.drop⟩)))
  refine ⟨a1,?_,hs.drop.aE⟩;rw [hwb,qQ,<- hm,AY]; simp
 cases u with
 | nil=>exact ⟨_,by rw [hwb]; rfl,hs.aE⟩
 | cons x a b r=>exact absurd hku (by show ¬ k+(a.len+b.len+r.len+1)=_; omega)
termination_by N
decreasing_by all_goals omega
def Ke:Int->List (List bP)->List (bP × Int)
 | _,[]=>[]
 | k,l::r=>l.map (λ c=>(c,k))++Ke (k+1) r
def IQ:Int->List bP->List (bP × Int)
 | _,[]=>[]
 | k,c::r=>(c,k)::IQ (k+1) r
def oZ (p:bQ):List (bP × Int):=Ke 0 p.lines++IQ p.lines.length p.fr
theorem EG:∀ (ls:List (List bP)) (k:Int),(Ke k ls).length=ls.flatten.length
 | [],_=>rfl
 | l::r,k=>by simp [Ke,EG r]
theorem YB:∀ (vs:List bP) (k:Int),(IQ k vs).length=vs.length
 | [],_=>rfl
 | c::r,k=>by simp [IQ,YB r]
theorem EH:∀ (ls:List (List bP)) (k:Int),(Ke k ls).map Prod.fst=ls.flatten
 | [],_=>rfl
 | l::r,k=>by simp [Ke,EH r,Function.comp_def]
theorem EI:∀ (vs:List bP) (k:Int),(IQ k vs).map Prod.fst=vs
 | [],_=>rfl
 | c::r,k=>by simp [IQ,EI r]
theorem Tg {l:List bP} {c:bP} {j:Nat} (hj:l[j]? = some c):∀ (ls:List (List bP)) (k:Int) (i:Nat),ls[i]? = some l->(Ke k ls)[(ls.take i).flatten.length+j]? = some (c,k+i)
 | [],_,_,h=>by simp at h
 | a::r,k,0,h=>by
  simp at h; subst h
  have:=(List.getElem?_eq_some_iff.1 hj).1
  simp only [List.take_zero,List.flatten_nil,List.length_nil,Nat.zero_add,Ke]
  rw [List.getElem?_append_left (by simpa using this),List.getElem?_map,hj]; simp
 | a::r,k,i+1,h=>by
  have ih:=Tg hj r (k+1) i (by simpa using h)
  simp only [List.take_succ_cons,List.flatten_cons,List.length_append,Ke]
  rw [List.getElem?_append_right (by simp; omega),List.length_map,show a.length+(r.take i).flatten.length+j - a.length=(r.take i).flatten.length+j from by omega,ih]
  congr 2; omega
theorem Th:∀ (vs:List bP) (k:Int) (j:Nat) (c:bP),vs[j]? = some c->(IQ k vs)[j]? = some (c,k+j)
 | [],_,_,_,h=>by simp at h
 | a::r,k,0,c,h=>by simp at h; subst h; simp [IQ]
 | a::r,k,j+1,c,h=>by
  have ih:=Th r (k+1) j c (by simpa using h)
  simp only [IQ,List.getElem?_cons_succ]
  rw [ih]; congr 2; omega
theorem wy (p:bQ):(oZ p).map Prod.fst=ju p:=by unfold oZ ju; rw [List.map_append,EH,EI]
theorem pP (p:bQ):(oZ p).length=(ju p).length:=by rw [<- wy,List.length_map]
theorem Ow {p:bQ} {l:List bP} {c:bP} {i j:Nat} (hl:p.lines[i]? = some l) (hj:l[j]? = some c):(oZ p)[(p.lines.take i).flatten.length+j]? = some (c,(i:Int)):=by
 have h:=Tg hj p.lines 0 i hl
 unfold oZ
 rw [List.getElem?_append_left (List.getElem?_eq_some_iff.1 h).1,h,Int.zero_add]
theorem Ti {p:bQ} {c:bP} {j:Nat} (hj:p.fr[j]? = some c):(oZ p)[p.lines.flatten.length+j]? = some (c,(p.lines.length:Int)+j):=by
 unfold oZ
 rw [List.getElem?_append_right (by rw [EG]; omega),EG,Nat.add_sub_cancel_left,Th _ _ _ _ hj]
theorem C133 (y:Value) (b:Nat) (g0 g1:SV) (p:bQ) (J:Nat->World->Prop) (Jx:World->Prop) (w0 w:World) (hz:PS p) (hL:DL w0 (Flat.val g0) p.lines) (hV:dx (λ _=>True) w0 (Flat.val g1) p.fr)
  (hJ:∀ k W,J k W->Cell W b 0 (Flat.val g0)/\Cell W b 1 (Flat.val g1)/\Ext w0 W) (Tj:∀ k W W',J k W->Ext W W'->J k W') (h0:J 0 w)
  (hy:∀ k c i W,(oZ p)[k]? = some (c,i)->J k W->eg Tryz.prog y [Flat.val c,.int .i64 i] W (λ v W'=>(v = .bool true/\J (k+1) W')\/(v = .bool false/\Jx W'))) :
  CR 133 [y,.pointer (some ⟨b,0,none⟩)] w (λ _ W=>J (oZ p).length W\/Jx W):=by
 obtain ⟨ts,hR,hD⟩:=hL.open;have hn:=hD.1;have DW:=hz.lines;have hzv:=hz.fr;refine Yq _ _ _ _ ?_;unfold S133;obtain ⟨ug,Bv,he0⟩:=hJ 0 w h0;refine aA jk (bW rB ug (aG rT (hR.ext he0) ?_));refine ⟨λ m x w1=>∃ i:Nat,x = .int .i64 (i:Int)/\m=p.lines.length - i/\i<=p.lines.length/\J ((p.lines.take i).flatten.length) w1,⟨_,0,rfl,rfl,Nat.zero_le _,h0⟩,?_⟩;rintro m _ w1 ⟨i,rfl,rfl,hi,hj⟩ _;refine aS (aC (λ c=>?_) (λ c=>?_))
 ·obtain ⟨l,hl⟩:∃ l,p.lines[i]? = some l:=⟨_,List.getElem?_eq_getElem (by omega)⟩;obtain ⟨t,ht⟩:∃ t,ts[((i:Nat):Int).toNat]? = some t:=⟨_,List.getElem?_eq_getElem (by omega)⟩;have hdt:DL w0 (Flat.val t) l:=hD.2 _ _ _ ht hl;have WW:=DL.flat hdt;have YC:=hz.line l (List.mem_of_getElem? hl);have e1:=(hJ _ _ hj).2.2;refine aU rT hR (by omega) ht (λ q hq=>aF iP (hq.ext e1) (aG nk (WW.ext e1) ?_));refine ⟨λ m x w1=>∃ j:Nat,x = .int .i64 (j:Int)/\m=l.length - j/\j<=l.length/\J ((p.lines.take i).flatten.length+j) w1,⟨_,0,rfl,rfl,Nat.zero_le _,hj⟩,?_⟩;rintro m _ w2 ⟨j,rfl,rfl,Vk,hj⟩ _;refine aS (aC (λ c=>?_) (λ _=>aT (by omega) ⟨_,by omega,i+1,rfl,rfl,by omega,by rw [sG hl,List.length_append,show l.length=j from by omega]; exact hj⟩))
  obtain ⟨x,hx⟩:∃ x,l[((j:Nat):Int).toNat]? = some x:=⟨_,List.getElem?_eq_getElem (by omega)⟩;have e2:=(hJ _ _ hj).2.2;have hs:=St.start w2;refine aU nk WW (by omega) hx (λ q hq=>aF mr (hq.ext e2) (aN hs oA (λ b6 _ hs=>aO (x:=x) hs mr rfl rfl (λ w4 hs=>aF mr hs.At ?_))));refine eg.mono (hy _ x i w4 (Ow hl hx) (Tj _ _ _ hj hs.aE)) ?_;rintro v w5 (⟨rfl,CG⟩ | ⟨rfl,wQ⟩)
  ·exact bH (eu (aT (by omega) ⟨_,by omega,j+1,rfl,rfl,by omega,CG⟩))
  exact bH (gk (.inr wQ))
 rw [show p.lines.take i=p.lines from List.take_of_length_le (by omega)] at hj;obtain ⟨ug,Bv,e1⟩:=hJ _ _ hj;refine aA vG (bW iP Bv (aG nk (hV.ext e1) ?_));refine ⟨λ m x w1=>∃ j:Nat,x = .int .i64 (j:Int)/\m=p.fr.length - j/\j<=p.fr.length/\J (p.lines.flatten.length+j) w1,⟨_,0,rfl,rfl,Nat.zero_le _,hj⟩,?_⟩;rintro m _ w6 ⟨j,rfl,rfl,Vk,hj⟩ _;refine aS (aC (λ c=>?_) (λ c=>?_))
 ·obtain ⟨x,hx⟩:∃ x,p.fr[((j:Nat):Int).toNat]? = some x:=⟨_,List.getElem?_eq_getElem (by omega)⟩;obtain ⟨ug,Bv,e2⟩:=hJ _ _ hj;have hs:=St.start w6;refine aU nk hV (by omega) hx (λ q hq=>aF mr (hq.ext e2) (aN hs oA (λ b8 _ hs=>aO (x:=x) hs mr rfl rfl (λ w8 hs=>aF mr hs.At (aA jk (bW rB (ug.ext hs.aE) (aG rT (hR.ext (e2.trans hs.aE)) (aT (by omega) ?_))))))));rw [hn];refine eg.mono (hy _ x _ w8 (Ti hx) (Tj _ _ _ hj hs.aE)) ?_;rintro v w9 (⟨rfl,CG⟩ | ⟨rfl,wQ⟩)
  ·exact bH (eu (aT (by omega) ⟨_,by omega,j+1,rfl,rfl,by omega,CG⟩))
  exact bH (gk (.inr wQ))
 refine .inl ?_;rw [pP];unfold ju;rw [List.length_append,show p.fr.length=j from by omega];exact hj
theorem C70 (pv:bE) (w:World):CR 70 [Flat.val pv] w (λ v w'=>∃ b,v = .func (.func 133) [].toArray [.pointer (some ⟨b,0,none⟩)].toArray/\mZ (cP b (Flat.enc pv)) w w'):=by
 have hs:=St.start w;refine adD _ _ _ ?_;unfold S70;exact cZ hs (λ b _ hs=>⟨b,rfl,hs.fresh⟩)
theorem C24 (p:bQ) (pv:bE) (w:World) (hp:Deep.dr w pv p) (hz:PZ p):CR 24 [Flat.val pv] w (λ v w'=>mZ (bJ v (cM p)) w w'):=by
 have hac:=sj hz.toPS;have iN:(oZ p).length=(ju p).length:=pP p;obtain ⟨bX,cN,cB,bK,bN,bU,rfl,ep,fQ,fI,dR,dS,eQ⟩:=hp;have hs:=St.start w;refine adE _ _ _ ?_;unfold S24;refine cZ hs (λ bp _ hs=>fx hs abW rfl (λ b3 _ hs=>aF gR hs.p1.At (eW Yw (C70 _ _) ?_)));rintro _ _ ⟨b,rfl,cL⟩;have hs:=(hs.made cL).fy (α:=ByteArray)
 refine rY (cap:=[.pointer (some ⟨b,0,none⟩)]) (xs:=(oZ p).map λ q=>[Flat.val q.1,.int .i64 q.2]) My hs
  (λ k M=>∃ sv,M=[bJ sv (((ju p).take k).map bP.name),cP b (Flat.enc (⟨bX,cN,cB,bK,bN,bU⟩:bE)),cP b3 [sv],cP bp (Flat.enc (⟨bX,cN,cB,bK,bN,bU⟩:bE))]) (λ _ _=>False) ⟨_,rfl⟩ (by intro x hx; obtain ⟨q,_,rfl⟩:=List.mem_map.1 hx; rfl) ?_ ?_ ?_ ?_ ?_ ?_
 ·intro y J Jx W hJ Tj NA hy;refine (C133 y b bX cN p J Jx w W hz.toPS ep (DL.flat fQ) (λ k W hk=>?_) Tj NA (λ k c i W hx hk=>hy k [Flat.val c,.int .i64 i] W (by rw [List.getElem?_map,hx]; rfl) hk)).mono λ _ _ r=>r.mono λ v W' h=>?_
  ·obtain ⟨Y,M,⟨sv,rfl⟩,hS⟩:=hJ k W hk;exact ⟨hS.p2.hb.cell rfl,hS.p2.hb.cell rfl,hS.aE⟩
  simpa using h
 ·rintro k args Y1 Y2 B Kr M W hk ⟨sv,rfl⟩ hB hN hR hs;rw [List.getElem?_map] at hk;obtain ⟨q,hq,rfl⟩:=Option.map_eq_some_iff.1 hk;have eU:=(List.getElem?_eq_some_iff.1 hq).1;have hc:(ju p)[k]? = some q.1:=by rw [<- wy,List.getElem?_map,hq]; rfl
  have hml:(((ju p).take k).map bP.name).length=k:=by rw [List.length_map,List.length_take]; omega
  dsimp only [qh];refine aN hs oA (λ b4 _ hs=>aO (x:=q.1) hs mr rfl rfl (λ _ hs=>?_));refine hB _ _ _ hs.p1 (λ _ hs=>?_);refine aB lL hs.p4.hb rfl (aA mu (aB (v:=.string q.1.name) kp hs.p1.hb rfl (cO ([bP.name q.1]) hs nj rfl rfl (fw rfl) (λ s8 _ hs=>?_))));have hr:=(hs).gg;refine dw hs.p3 nj hr (by rw [hml,List.length_singleton]; omega) (by decide) (λ s9 _ hs=>bF hs.p5 lL (fw rfl) (Eu (hs).gg) (λ _ hs=>?_));refine hN _ _ ?_ ⟨s9,rfl⟩;rw [<- fO (k:=k) hc];exact (((hs.p2.drop.p3.drop).p3).p2).p3
 ·rintro D M W ⟨sv,rfl⟩ hs;refine aB lL hs.p3.hb rfl ?_;refine zW hs (λ _ hs=>?_);rw [List.length_map,iN,List.take_length] at hs;exact (hs.p1.drop.p1.drop.p1.drop).fresh
 ·rintro D M W h; exact h.elim
 ·rintro id D M W h; exact h.elim
 rintro c M h; exact h.elim
theorem C29 (p:bQ) (pv:bE) (w:World) (hp:Deep.dr w pv p) (hz:PZ p):CR 29 [Flat.val pv] w (λ v w'=>mZ (bJ v (iY p)) w w'):=by
 have hac:=sj hz.toPS;have iN:(oZ p).length=(ju p).length:=pP p;obtain ⟨bX,cN,cB,bK,bN,bU,rfl,ep,fQ,fI,dR,dS,eQ⟩:=hp;have hs:=St.start w;refine adI _ _ _ ?_;unfold S29;refine cZ hs (λ bp _ hs=>fx hs abX rfl (λ b3 _ hs=>aF gR hs.p1.At (eW Yw (C70 _ _) ?_)));rintro _ _ ⟨b,rfl,cL⟩;have hs:=(hs.made cL).fy (α:=Int)
 refine rY (cap:=[.pointer (some ⟨b,0,none⟩)]) (xs:=(oZ p).map λ q=>[Flat.val q.1,.int .i64 q.2]) My hs
  (λ k M=>∃ sv,M=[bJ sv (((ju p).take k).map bP.n),cP b (Flat.enc (⟨bX,cN,cB,bK,bN,bU⟩:bE)),cP b3 [sv],cP bp (Flat.enc (⟨bX,cN,cB,bK,bN,bU⟩:bE))]) (λ _ _=>False) ⟨_,rfl⟩ (by intro x hx; obtain ⟨q,_,rfl⟩:=List.mem_map.1 hx; rfl) ?_ ?_ ?_ ?_ ?_ ?_
 ·intro y J Jx W hJ Tj NA hy;refine (C133 y b bX cN p J Jx w W hz.toPS ep (DL.flat fQ) (λ k W hk=>?_) Tj NA (λ k c i W hx hk=>hy k [Flat.val c,.int .i64 i] W (by rw [List.getElem?_map,hx]; rfl) hk)).mono λ _ _ r=>r.mono λ v W' h=>?_
  ·obtain ⟨Y,M,⟨sv,rfl⟩,hS⟩:=hJ k W hk;exact ⟨hS.p2.hb.cell rfl,hS.p2.hb.cell rfl,hS.aE⟩
  simpa using h
 ·rintro k args Y1 Y2 B Kr M W hk ⟨sv,rfl⟩ hB hN hR hs;rw [List.getElem?_map] at hk;obtain ⟨q,hq,rfl⟩:=Option.map_eq_some_iff.1 hk;have eU:=(List.getElem?_eq_some_iff.1 hq).1;have hc:(ju p)[k]? = some q.1:=by rw [<- wy,List.getElem?_map,hq]; rfl
  have hml:(((ju p).take k).map bP.n).length=k:=by rw [List.length_map,List.length_take]; omega
  dsimp only [qh];refine aN hs oA (λ b4 _ hs=>aO (x:=q.1) hs mr rfl rfl (λ _ hs=>?_));refine hB _ _ _ hs.p1 (λ _ hs=>?_);refine aB fT hs.p4.hb rfl (aA zS (aB (v:=.int .i64 q.1.n) cK hs.p1.hb rfl (cO ([bP.n q.1]) hs ei rfl rfl (fw rfl) (λ s8 _ hs=>?_))));have hr:=(hs).gg;refine dw hs.p3 ei hr (by rw [hml,List.length_singleton]; omega) (by decide) (λ s9 _ hs=>bF hs.p5 fT (fw rfl) (Eu (hs).gg) (λ _ hs=>?_));refine hN _ _ ?_ ⟨s9,rfl⟩;rw [<- fO (k:=k) hc];exact (((hs.p2.drop.p3.drop).p3).p2).p3
 ·rintro D M W ⟨sv,rfl⟩ hs;refine aB fT hs.p3.hb rfl ?_;refine zW hs (λ _ hs=>?_);rw [List.length_map,iN,List.take_length] at hs;exact (hs.p1.drop.p1.drop.p1.drop).fresh
 ·rintro D M W h; exact h.elim
 ·rintro id D M W h; exact h.elim
 rintro c M h; exact h.elim
theorem MD:∀ (vs:List bP) (k:Int) (j:Nat) (q:bP × Int),(IQ k vs)[j]? = some q->q.2=k+j
 | [],_,_,_,h=>by simp [IQ] at h
 | c::r,k,0,q,h=>by simp [IQ] at h; subst h; simp
 | c::r,k,j+1,q,h=>by
  have:=MD r (k+1) j q (by simpa [IQ] using h)
  rw [this]; omega
theorem HH (vs:List bP):∀ (ls:List (List bP)) (i:Int) (a:Nat) (q:bP × Int),(Ke i ls++IQ (i+ls.length) vs)[a]? = some q->gi ls i a=q.2
 | [],i,a,q,h=>by
  have:=MD vs (i+0) a q (by simpa [Ke] using h)
  unfold gi; rw [this]; omega
 | l::r,i,a,q,h=>by
  unfold gi
  by_cases eU:a<l.length
  ·rw [if_pos (by omega)]
   rw [Ke,List.append_assoc,List.getElem?_append_left (by simpa using eU),List.getElem?_map] at h
   obtain ⟨x,_,rfl⟩:=Option.map_eq_some_iff.1 h
   rfl
  ·rw [if_neg (by omega)]
   rw [Ke,List.append_assoc,List.getElem?_append_right (by simp; omega),List.length_map] at h
   have e:(i+((l::r).length:Nat):Int)=i+1+(r.length:Nat):=by rw [List.length_cons]; omega
   rw [e] at h
   have:=HH vs r (i+1) (a - l.length) q h
   rw [<- this]; congr 1; omega
theorem Tl {p:bQ} {k:Nat} {q:bP × Int} (h:(oZ p)[k]? = some q):mD p k=q.2:=by
 have eU:=(List.getElem?_eq_some_iff.1 h).1
 rw [pP] at eU
 unfold mD
 rw [if_neg (by omega)]
 exact HH p.fr p.lines 0 k q (by unfold oZ at h; rw [Int.zero_add]; exact h)
theorem C26 (p:bQ) (pv:bE) (c:Int) (w:World) (hp:Deep.dr w pv p) (hz:PZ p):CR 26 [Flat.val pv,.int .i64 c] w (λ v w'=>v = .int .i64 (mD p c)/\Ext w w'):=by
 have hac:=sj hz.toPS;have iN:(oZ p).length=(ju p).length:=pP p;obtain ⟨bX,cN,cB,bK,bN,bU,rfl,ep,fQ,fI,dR,dS,eQ⟩:=hp;have hs:=St.start w;refine adG _ _ _ _ ?_;unfold S26;refine cZ hs (λ bp _ hs=>jY hs rfl (λ b3 _ hs=>fx hs rQ rfl (λ b4 _ hs=>fx hs rQ rfl (λ b5 _ hs=>bF hs cK (fw rfl) rfl (λ _ hs=>aF gR hs.p3.At (eW Yw (C70 _ _) ?_))))));rintro _ _ ⟨b,rfl,cL⟩;have hs:=hs.made cL
 refine rY (cap:=[.pointer (some ⟨b,0,none⟩)]) (xs:=(oZ p).map λ q=>[Flat.val q.1,.int .i64 q.2]) My hs
  (λ k M=>(∀ j:Nat,j<k->¬ (j:Int)=c)/\M=[cP b (Flat.enc (⟨bX,cN,cB,bK,bN,bU⟩:bE)),cP b5 [.int .i64 (k:Int)],cP b4 [.int .i64 0],cP b3 [.int .i64 c],cP bp (Flat.enc (⟨bX,cN,cB,bK,bN,bU⟩:bE))])
  (λ cd M=>cd = .ret/\M=[cP b4 [.int .i64 (mD p c)]]) ⟨by omega,rfl⟩ (by intro x hx; obtain ⟨q,_,rfl⟩:=List.mem_map.1 hx; rfl) ?_ ?_ ?_ ?_ ?_ ?_
 ·intro y J Jx W hJ Tj NA hy;refine (C133 y b bX cN p J Jx w W hz.toPS ep (DL.flat fQ) (λ k W hk=>?_) Tj NA (λ k c i W hx hk=>hy k [Flat.val c,.int .i64 i] W (by rw [List.getElem?_map,hx]; rfl) hk)).mono λ _ _ r=>r.mono λ v W' h=>?_
  ·obtain ⟨Y,M,⟨_,rfl⟩,hS⟩:=hJ k W hk;exact ⟨hS.p1.hb.cell rfl,hS.p1.hb.cell rfl,hS.aE⟩
  simpa using h
 ·rintro k args Y1 Y2 B Kr M W hk ⟨eA,rfl⟩ hB hN hR hs;rw [List.getElem?_map] at hk;obtain ⟨q,hq,rfl⟩:=Option.map_eq_some_iff.1 hk;have eU:=(List.getElem?_eq_some_iff.1 hq).1;dsimp only [qh];refine hB _ _ _ hs (λ _ hs=>?_);refine aB cK hs.p2.hb rfl (aB cK hs.p4.hb rfl (aI (aC (λ c1=>?_) (λ c1=>aB cK hs.p2.hb rfl (aT (by omega) (bF hs.p2 cK (fw rfl) rfl (λ _ hs=>hN _ _ ((hs.p2).p2.p0) ⟨λ j hj=>?_,rfl⟩)))))))
  ·refine bF hs.p3 cK (fw rfl) rfl (λ _ hs=>?_);refine hR _ [cP b4 [.int .i64 (mD p c)]] _ ?_ ⟨rfl,rfl⟩;rw [<- c1,Tl hq];exact (hs.p2.drop.p2.drop.p2.drop.p2.drop).p1
  rcases Nat.lt_or_ge j k with h | h
  ·exact eA j h
  rw [show j=k from by omega]; exact c1
 ·rintro D M W ⟨eA,rfl⟩ hs;refine bF hs.p3 cK (fw rfl) rfl (λ _ hs=>?_);refine zW hs.p1 (λ _ hs=>?_);refine aB cK hs.hb rfl ?_;refine ⟨congrArg (Value.int .i64) ?_,hs.aE⟩;unfold mD;rw [List.length_map] at eA
  rw [if_pos (by
   rcases Int.lt_or_le c 0 with h | h
   ·exact .inl h
   ·refine .inr ?_;have:=eA c.toNat;omega)]
 ·rintro D M W ⟨_,rfl⟩ hs;refine zW hs (λ _ hs=>?_);exact aB cK hs.hb rfl ⟨rfl,hs.aE⟩
 ·rintro id D M W ⟨h,_⟩; cases h
 rintro c M ⟨h,_⟩; exact .inr h
variable (w:World) (K:Value->World->Prop)
def S62 (p0:Value):Prop:=
 gd Tryz.prog (Instr.box 40 p0) w λ p1 a=>gd Tryz.prog (Instr.makeMap 121 none) a λ b c=>aL 121 c λ is5 d=>sA 121 is5 b d λ e=>aL 3 e λ at6 f=>aL 4 f λ Kf g=>
 sA 4 Kf ff g λ h=>aL 201 h λ YD j=>sA 201 YD (.func (Go.Fn.func 114) [].toArray [is5,Kf,at6].toArray) j λ k=>lA 40 p1 k λ l=>cF 70 [l] k λ n o=>l9 Tryz.prog n 2 o (λ a1 p B1 R1=>
 aL 142 p λ c9 q=>sA 142 c9 (qh a1 0) q λ r=>B1 r λ s=>cE (λ K1=>fA 40 p1 0 λ t=>lA 36 t s λ u=>lN 36 u λ v=>bA .geq 3 (qh a1 1) v λ x=>cV x (K1 (i 2) s) (
 K1 (i 1) s)) (λ adT y=>∀ _:Env,
 lA 201 YD y λ z=>fA 142 c9 0 λ aa=>lA 9 aa y λ ab=>fA 142 c9 2 λ ac=>lA 3 ac y λ ad=>eg Tryz.prog z [ab,adT,ad] y λ _ ae=>R1 none ae)) (Pm (λ D af=>
 fA 40 p1 2 λ ag=>lA 37 ag af λ ah=>lN 37 ah λ ai=>fh (λ K2 aj ak=>∀ _:Env,
 bA .lss 3 aj ai λ al=>cV al (iA 37 ah aj λ am=>lA 142 am ak λ an=>aL 142 ak λ c13 ao=>sA 142 c13 an ao λ ap=>lA 201 YD ap λ aq=>fA 142 c13 0 λ ar=>lA 9 ar ap λ asx=>
 fA 142 c13 2 λ au=>lA 3 au ap λ av=>eg Tryz.prog aq [asx,(i 3),av] ap λ _ aw=>bB .add 3 aj (i 1) λ ax=>K2 ax aw) (fA 40 p1 3 λ ay=>lA 35 ay ak λ az=>lN 35 az λ a0=>
 fh (λ K3 a2 a3=>∀ _:Env,
 bA .lss 3 a2 a0 λ a4=>cV a4 (iA 35 az a2 λ a5=>lA 34 a5 a3 λ a6=>aL 34 a3 λ t15 a7=>sA 34 t15 a6 a7 λ a8=>lA 201 YD a8 λ a9=>fA 34 t15 0 λ ba=>lA 9 ba a8 λ bb=>
 fA 34 t15 3 λ bc=>lA 3 bc a8 λ bd=>eg Tryz.prog a9 [bb,(i 4),bd] a8 λ _ be=>bB .add 3 a2 (i 1) λ bf=>K3 bf be) (lA 121 is5 (drew a3) λ bg=>lA 3 at6 (drew a3) λ bh=>
 lA 4 Kf (drew a3) λ bi=>fo (D::[]) (drew a3) λ bj=>K (.tuple #[bg,bh,bi]) bj)) (λ K3=>K3 (i 0) ak))) (λ K2=>K2 (i 0) af)) (λ D bk=>fo (D::[]) bk λ bl=>
 K (.tuple #[(Go.Value.map none),(i 0),ff]) bl) (λ _ _ _=>False))
def P62:eh:=λ i=>match i with
 | 22=>.run 0 6
 | _=>.nil
theorem adU (p0:Value) (h:S62 w K p0):CR 62 [p0] w K:=
 eN 65 P62 28 [.tmp 2,.tmp 3,.tmp 4] Tryz.func62 h
def S114 (HI ME EJ a b c:Value):Prop:=
 rI (λ K1=>cE (λ K2=>lA 121 a w λ d=>q7 Tryz.prog (Instr.lookup 121 d HI false) w λ e=>bB .neq 3 e (i 0) λ f=>cV f (lA 4 b w λ g=>cU Tryz.prog (Op.unary .not g) λ h=>
 K2 h w) (K2 ff w)) (λ j k=>∀ _:Env,
 cV j (sA 3 c EJ k λ l=>sA 4 b tt l λ n=>K1 n) (K1 k))) (λ o=>∀ _:Env,
 lA 121 a o λ p=>BT Tryz.prog (Instr.mapUpdate 121 p HI ME) o λ q=>K (.tuple #[]) q)
theorem YE (HI ME EJ x3 x4 x5:Value) (h:S114 w K HI ME EJ x3 x4 x5):CR 114 [HI,ME,EJ,x3,x4,x5] w K:=
 eN 21 (λ _=>.nil) 0 [] Tryz.func114 h
theorem apG:PL 62:=dW Tryz.func62
theorem Tm:PL 114:=dW Tryz.func114
end Go.Proofs.YtfkgkbhbdffckaaGreatDoor
namespace Go.Fw
open Go.MapKept (Stamped IsKey)
open Go.ChangeMaps (setBlock)
def u7 (l:List SI) (k:ByteArray) (v:Int):List SI:=if l.any (λ p=>decide (p.1=k)) then l.map (λ p=>if p.1=k then (k,v) else p) else l++[(k,v)]
theorem CI:∀ (l:List SI) (k k':ByteArray) (v:Int),(∀ p∈l,p.1≠k)->cY (l++[(k,v)]) k'=if k=k' then v else cY l k'
 | [],k,k',v,_=>rfl
 | p::r,k,k',v,h=>by
  have ih:=CI r k k' v (λ q hq=>h q (List.mem_cons_of_mem _ hq))
  have hp:=h p (List.mem_cons_self ..)
  show (if p.1=k' then p.2 else cY (r++[(k,v)]) k')=_
  rw [ih]
  show _=if k=k' then v else (if p.1=k' then p.2 else cY r k')
  by_cases h1:p.1=k'
  ·rw [if_pos h1,if_pos h1,if_neg (λ e=>hp (h1.trans e.symm))]
  ·rw [if_neg h1,if_neg h1]
theorem xG:∀ (l:List SI) (k k':ByteArray) (v:Int),l.any (λ p=>decide (p.1=k))=true->cY (l.map (λ p=>if p.1=k then (k,v) else p)) k'=if k=k' then v else cY l k'
 | [],_,_,_,h=>by simp at h
 | p::r,k,k',v,h=>by
  rw [List.map_cons]
  by_cases h1:p.1=k
  ·rw [if_pos h1]
   show (if k=k' then v else cY (r.map _) k')=if k=k' then v else (if p.1=k' then p.2 else cY r k')
   by_cases h2:k=k'
   ·rw [if_pos h2,if_pos h2]
   ·rw [if_neg h2,if_neg h2,if_neg (λ e=>h2 (h1.symm.trans e))]
    by_cases h3:r.any (λ p=>decide (p.1=k))=true
    ·rw [xG r k k' v h3,if_neg h2]
    ·congr 1
     have:∀ q∈r,q.1≠k:=λ q hq e=>h3 (List.any_eq_true.2 ⟨q,hq,decide_eq_true e⟩)
     conv=>rhs; rw [<- List.map_id r]
     exact List.map_congr_left λ q hq=>if_neg (this q hq)
  ·rw [if_neg h1]
   have h3:r.any (λ p=>decide (p.1=k))=true:=by
    rw [List.any_cons,decide_eq_false h1,Bool.false_or] at h; exact h
   show (if p.1=k' then p.2 else cY (r.map _) k')=if k=k' then v else (if p.1=k' then p.2 else cY r k')
   rw [xG r k k' v h3]
   by_cases h2:p.1=k'
   ·rw [if_pos h2,if_pos h2,if_neg (λ e=>h1 (h2.trans e.symm))]
   ·rw [if_neg h2,if_neg h2]
theorem xH (l:List SI) (k k':ByteArray) (v:Int):cY (u7 l k v) k'=if k=k' then v else cY l k':=by
 unfold u7
 by_cases h:l.any (λ p=>decide (p.1=k))=true
 ·rw [if_pos h,xG l k k' v h]
 rw [if_neg h,CI l k k' v λ p hp e=>h (List.any_eq_true.2 ⟨p,hp,decide_eq_true e⟩)]
theorem YF {l:List SI} {k:ByteArray} {v:Int} (h:∀ p∈l,p.2≠0) (hv:v≠0):∀ p∈u7 l k v,p.2≠0:=by
 intro p hp
 unfold u7 at hp
 split at hp
 ·obtain ⟨q,hq,rfl⟩:=List.mem_map.1 hp
  split
  ·exact hv
  exact h q hq
 rcases List.mem_append.1 hp with hp | hp
 ·exact h p hp
 rw [List.mem_singleton.1 hp]; exact hv
section
variable {P:Program} {w w0 w':World} {A:Nat->Prop} {L:List HP} {b:Nat} {l:List SI}
theorem Tn {T Kt E:TypeId} {v:Int} {k:ByteArray} (h:pL w b l) (ht:P.underlying T=some (.map Kt E)) (hk:P.underlying Kt=some .string) :
  ∃ w',(Instr.mapUpdate T (.map (some b)) (.string k) (.int .i64 v)).run P w = .ok () w'/\gM (· = b) w w'/\pL w' b (u7 l k v):=by
 by_cases eA:∀ p∈l,p.1≠k
 ·have:l.any (λ p=>decide (p.1=k))=false:=by
   rw [List.any_eq_false]; intro p hp; simpa using eA p hp
  unfold u7
  rw [if_neg (by rw [this]; decide)]
  exact He h ht hk eA
 have Dk:l.any (λ p=>decide (p.1=k))=true:=by
  cases ha:l.any (λ p=>decide (p.1=k)) with
  | true=>rfl
  | false=>rw [List.any_eq_false] at ha; exact absurd (λ p hp=>by simpa using ha p hp) eA
 unfold u7
 rw [if_pos Dk]
 have eU:=h.lt
 obtain ⟨es,c,h1,h2,h3⟩:=h
 have hc:=MapKept.run_checkKey (P:=P) (w:=w) (kt:=Kt) (k:=.string k) hk (by simp [IsKey]) false 9999
 rcases MapKept.findNow_spec (d:=.string) (k:=.string k) (by simp [IsKey]) es.toList 0 (λ x hx=>by obtain ⟨p,_,e,_⟩:=Oj h3 hx; rw [e]; simp [IsKey]) with ⟨g1,g2⟩ | ⟨j,e,g1,g2,g4⟩
 ·obtain ⟨p,hp,he⟩:=List.any_eq_true.1 Dk
  obtain ⟨x,hx,e1,_⟩:=Sb h3 hp
  exact absurd (by rw [e1,of_decide_eq_true he]) (g2 x hx)
 have h8:=MapKept.run_findKey (P:=P) (w:=w) hk g1
 rw [Nat.zero_add] at h8
 have Oe:es[j]? = some e:=by rw [<- Array.getElem?_toList]; exact g2
 have hst:(Instr.keyThatStays e.key (.string k)).run P w = .ok (.string k) w:=by
  have oo:(k == k)=true:=by cases k with | mk d=>exact beq_self_eq_true d
  rw [g4]; unfold Instr.keyThatStays; simp [Instr.sameBits,oo]
 refine ⟨_,?_,gM.setBlock w b (.map (es.modify j λ e=>{e with key:=.string k,val:=.int .i64 v}) c),?_⟩
 ·simp [Instr.mapUpdate,run_underlying ht,MapKept.run_getObj_map h1,hc,h8,kC h1,Result.andThen,Oe,hst]
 have Bs:∀ e',es[j]? = some e'->({e' with key:=.string k,val:=.int .i64 v}:MapEntry).key=e'.key:=λ e' Xp=>by
  rw [Oe] at Xp; cases Xp; exact g4.symm
 refine ⟨_,_,gV _ eU,MapKept.stamped_modify h2 j _ (λ _ _=>rfl) (λ e' _ Xp=>Bs e' Xp),?_⟩
 let g:Value × Value->Value × Value:=λ q=>match q.1 with | .string s=>if s=k then (.string k,.int .i64 v) else q | _=>q
 have hg:(es.modify j λ e=>{e with key:=.string k,val:=.int .i64 v}).toList.map (λ e=>(e.key,e.val))=(es.toList.map λ e=>(e.key,e.val)).map g:=by
  apply List.ext_getElem?
  intro i
  simp only [List.getElem?_map,Array.getElem?_toList,Array.getElem?_modify]
  by_cases Xq:j=i
  ·subst Xq; rw [Oe]; simp [g,g4]
  ·rw [if_neg Xq]
   cases hx:es[i]? with
   | none=>rfl
   | some x=>
    have iS:x.key≠.string k:=λ hxk=>by
     have hi:=(Array.getElem?_eq_some_iff.1 hx)
     have hj:=(Array.getElem?_eq_some_iff.1 Oe)
     obtain ⟨hi1,hi2⟩:=hi
     obtain ⟨hj1,CG⟩:=hj
     have hp:=List.pairwise_iff_getElem.1 h2.2.2
     rcases Nat.lt_or_gt_of_ne Xq with hh | hh
     ·have:=hp j i (by simpa using hj1) (by simpa using hi1) hh
      exact this (by simp only [List.getElem_map,Array.getElem_toList,hi2,CG]; exact g4.trans hxk.symm)
     ·have:=hp i j (by simpa using hi1) (by simpa using hj1) hh
      exact this (by simp only [List.getElem_map,Array.getElem_toList,hi2,CG]; exact hxk.trans g4.symm)
    obtain ⟨p,hp,e1,_⟩:=Oj h3 (List.mem_of_getElem? (by rw [Array.getElem?_toList]; exact hx))
    have YG:¬ p.1=k:=λ e=>iS (by rw [e1,e])
    simp [g,e1,YG]
 have hl:(l.map (λ p=>if p.1=k then (k,v) else p)).map Md=(l.map Md).map g:=by
  rw [List.map_map,List.map_map]
  refine List.map_congr_left λ p _=>?_
  show Md (if p.1=k then (k,v) else p)=g (Md p)
  by_cases YG:p.1=k
  ·rw [if_pos YG]; simp [g,Md,YG]
  ·rw [if_neg YG]; simp [g,Md,YG]
 rw [hg,hl]
 exact h3.map g
theorem To {T Kt E:TypeId} {v:Int} {k:ByteArray} {K:World->Prop} (hs:St w0 A (Fw.jy b l::L) w) (ht:P.underlying T=some (.map Kt E)) (hk:P.underlying Kt=some .string)
  (kk:∀ w',St w0 A (Fw.jy b (u7 l k v)::L) w'->K w'):BT P (Instr.mapUpdate T (.map (some b)) (.string k) (.int .i64 v)) w K:=by
 obtain ⟨w',h1,h2,h3⟩:=Tn (P:=P) (v:=v) (k:=k) hs.jy ht hk
 exact ⟨w',h1,kk w' (hs.kV λ F hF=>⟨F,⟨h3,hF.2⟩,λ b hb=>.inl hb,h2.mono λ k hk=>(hF.2 k).2 hk⟩)⟩
end
end Go.Fw
namespace Go.Proofs.YtfkgkbhbdffckaaGreatDoor
open Go.Fw
def nZ (b3 b4 b5 bm:Nat) (l:List SI) (tw:Bool) (a:Int):HP:=sep (cP b3 [.map (some bm)]) (sep (cP b4 [.bool tw]) (sep (cP b5 [.int .i64 a]) (jy bm l)))
theorem nZ.shut {w0 w:World} {A:Nat->Prop} {L:List HP} {b3 b4 b5 bm:Nat} {l:List SI} {tw:Bool} {a:Int} (hs:St w0 A (jy bm l::cP b5 [.int .i64 a]::cP b4 [.bool tw]::cP b3 [.map (some bm)]::L) w):St w0 A (nZ b3 b4 b5 bm l tw a::L) w:=
 St.join (St.join (St.join hs.p1).p1).p1
theorem nZ.open {w0 w:World} {A:Nat->Prop} {L:List HP} {b3 b4 b5 bm:Nat} {l:List SI} {tw:Bool} {a:Int} (hs:St w0 A (nZ b3 b4 b5 bm l tw a::L) w):St w0 A (jy bm l::cP b5 [.int .i64 a]::cP b4 [.bool tw]::cP b3 [.map (some bm)]::L) w:=
 (hs.split.p1.split.p1.split).p1
def atN (l:List SI) (name:ByteArray) (tw:Bool) (place a:Int):Int:=if cY l name≠0/\tw=false then place else a
def YH (l:List SI) (name:ByteArray) (tw:Bool):Bool:=tw || decide (cY l name≠0)
theorem C114 (name:ByteArray) (what place:Int) (b3 b4 b5 bm:Nat) (l:List SI) (tw:Bool) (a:Int) (F:Nat->Prop) (w:World) (hF:(nZ b3 b4 b5 bm l tw a).p w F) :
  CR 114 [.string name,.int .i64 what,.int .i64 place,.pointer (some ⟨b3,0,none⟩),.pointer (some ⟨b4,0,none⟩),.pointer (some ⟨b5,0,none⟩)] w (λ v w'=>v = .tuple #[]/\ti F (nZ b3 b4 b5 bm (u7 l name what) (YH l name tw) (atN l name tw place a)) w w'):=by
 have hs:=nZ.open (St.begin hF);refine YE _ _ _ _ _ _ _ _ ?_;unfold S114;refine ⟨λ w'=>St w F [jy bm l,cP b5 [.int .i64 (atN l name tw place a)],cP b4 [.bool (YH l name tw)],cP b3 [.map (some bm)]] w',⟨λ jv w'=>jv = .bool (decide (cY l name≠0) && !tw)/\w'=w,aB Cf hs.p3.hb rfl (tE hs.jy Tryz.underlying121 Tryz.underlying9 rQ (cS (aC (λ c=>aB I9 hs.p2.hb rfl (bH ⟨vb (by rw [decide_eq_true c,Bool.true_and]),rfl⟩)) (λ c=>⟨vb (by rw [decide_eq_false c,Bool.false_and]),rfl⟩)))),?_⟩,?_⟩
 ·rintro _ _ ⟨rfl,rfl⟩ _;refine bI (λ c=>?_) (λ c=>?_)
  ·have hc:cY l name≠0/\tw=false:=by simpa using c
   refine bF hs.p1 cK (fw rfl) rfl (λ _ hs=>bF hs.p2 I9 (fw rfl) rfl (λ _ hs=>?_));have e1:atN l name tw place a=place:=if_pos hc;have e2:YH l name tw=true:=by unfold YH; rw [decide_eq_true hc.1,Bool.or_true]
   rw [e1,e2];exact (hs.p1).p2
  have hc:¬ (cY l name≠0/\tw=false):=by simpa using c
  have e1:atN l name tw place a=a:=if_neg hc
  have e2:YH l name tw=tw:=by
   unfold YH;cases tw with
   | true=>rfl
   | false=>rw [Bool.false_or]; exact decide_eq_false λ h=>hc ⟨h,rfl⟩
  rw [e1,e2];exact hs
 rintro _ hs _;exact aB Cf hs.p3.hb rfl (To hs Tryz.underlying121 Tryz.underlying9 (λ _ hs=>⟨rfl,(nZ.shut hs).mut⟩))
def Tp (st:List SI × Bool × Int) (q:ByteArray × Int × Int):List SI × Bool × Int:=(u7 st.1 q.1 q.2.1,YH st.1 q.1 st.2.1,atN st.1 q.1 st.2.1 q.2.2 st.2.2)
def yw (p:bQ) (i:Int):Int:=if (p.lines.length:Int)<=i then 2 else 1
def Pu (p:bQ):List (ByteArray × Int × Int):=(oZ p).map λ q=>(q.1.name,yw p q.2,q.1.at_)
def Ox (p:bQ):List (ByteArray × Int × Int):=p.dL.map λ c=>(c.name,3,c.at_)
def Pv (p:bQ):List (ByteArray × Int × Int):=p.threads.map λ t=>(t.name,4,t.at_)
def vk (l:List (ByteArray × Int × Int)) (st:List SI × Bool × Int):List SI × Bool × Int:=l.foldl Tp st
def yx (p:bQ):List SI × Bool × Int:=vk (Pv p) (vk (Ox p) (vk (Pu p) ([],false,0)))
theorem A0 {l:List (ByteArray × Int × Int)} {st:List SI × Bool × Int} {k:Nat} {q:ByteArray × Int × Int} (h:l[k]? = some q):vk (l.take (k+1)) st=Tp (vk (l.take k) st) q:=by
 unfold vk; rw [<- fY h,List.foldl_append]; rfl
abbrev NO (b3 b4 b5 bm:Nat) (st:List SI × Bool × Int):HP:=nZ b3 b4 b5 bm st.1 st.2.1 st.2.2
theorem C62 (p:bQ) (pv:bE) (w:World) (hp:Deep.dr w pv p) (hz:PZ p):CR 62 [Flat.val pv] w (λ v w'=>∃ bm,v = .tuple #[.map (some bm),.int .i64 (yx p).2.2,.bool (yx p).2.1]/\mZ (jy bm (yx p).1) w w'):=by
 have hac:=sj hz.toPS;have iN:(oZ p).length=(ju p).length:=pP p;have DW:=hz.lines;have hzk:=hz.dL;have hzt:=hz.threads;obtain ⟨bX,cN,cB,bK,bN,bU,rfl,ep,fQ,fI,dR,dS,eQ⟩:=hp;obtain ⟨ts1,hR1,hD1⟩:=(ep).open;have hn1:=hD1.1;obtain ⟨uz,yn,L5⟩:=(dR).open;have hn3:=L5.1;have hKr:=DL.flat (fI);have hs:=St.start w;refine adU _ _ _ ?_;unfold S62;refine cZ hs (λ bp w1 hs=>Hf hs (λ bm _ hs=>fx hs Li rfl (λ b3 _ hs=>bF hs Cf (fw rfl) rfl (λ _ hs=>fx hs rQ rfl (λ b5 _ hs=>fx hs La rfl (λ b4 _ hs=>bF hs I9 (fw rfl) rfl (λ _ hs=>fx hs VS rfl (λ b8 _ hs=>bF hs Lj (fw rfl) rfl (λ _ hs=>aF gR hs.p5.At (have hs:=nZ.shut (a:=0) (tw:=false) (((hs.p3).p2).p3).p4;eW Yw (C70 _ _) ?_))))))))))
 rintro _ _ ⟨b,rfl,cL⟩;have hs:=hs.made cL
 refine rY (cap:=[.pointer (some ⟨b,0,none⟩)]) (xs:=(oZ p).map λ q=>[Flat.val q.1,.int .i64 q.2]) My hs
  (λ k M=>M=[cP b (Flat.enc (⟨bX,cN,cB,bK,bN,bU⟩:bE)),NO b3 b4 b5 bm (vk ((Pu p).take k) ([],false,0)),cP b8 [(.func (.func 114) [].toArray [.pointer (some ⟨b3,0,none⟩),.pointer (some ⟨b4,0,none⟩),.pointer (some ⟨b5,0,none⟩)].toArray)],cP bp (Flat.enc (⟨bX,cN,cB,bK,bN,bU⟩:bE))]) (λ _ _=>False) rfl (by intro x hx; obtain ⟨q,_,rfl⟩:=List.mem_map.1 hx; rfl) ?_ ?_ ?_ ?_ ?_ ?_
 ·intro y J Jx W hJ Tj NA hy;refine (C133 y b bX cN p J Jx w W hz.toPS ep (DL.flat fQ) (λ k W hk=>?_) Tj NA (λ k c i W hx hk=>hy k [Flat.val c,.int .i64 i] W (by rw [List.getElem?_map,hx]; rfl) hk)).mono λ _ _ r=>r.mono λ v W' h=>?_
  ·obtain ⟨Y,M,rfl,hS⟩:=hJ k W hk;exact ⟨hS.p1.hb.cell rfl,hS.p1.hb.cell rfl,hS.aE⟩
  simpa using h
 ·rintro k args Y1 Y2 B Kr M W hk rfl hB hN hR hs;rw [List.getElem?_map] at hk;obtain ⟨q,hq,rfl⟩:=Option.map_eq_some_iff.1 hk;have hc:(Pu p)[k]? = some (q.1.name,yw p q.2,q.1.at_):=by unfold Pu; rw [List.getElem?_map,hq]; rfl
  dsimp only [qh];refine aN hs oA (λ b9 _ hs=>aO (x:=q.1) hs mr rfl rfl (λ _ hs=>?_));refine hB _ _ _ hs.p1 (λ Oy hs=>?_);refine ⟨λ jv w'=>jv = .int .i64 (yw p q.2)/\w'=Oy,aA jk (aB (v:=Flat.val bX) rB hs.p5.hb rfl (aG rT (hR1.ext hs.aE) (dO (aC (λ _=>⟨congrArg (Value.int .i64) (if_pos (by omega)).symm,rfl⟩) (λ _=>⟨congrArg (Value.int .i64) (if_neg (by omega)).symm,rfl⟩))))),?_⟩;rintro _ _ ⟨rfl,rfl⟩ _;refine aB Lj hs.p4.hb rfl (aA mu (aB (v:=.string q.1.name) kp hs.p1.hb rfl (aA vK (aB (v:=.int .i64 q.1.at_) cK hs.p1.hb rfl (AH (first:=[]) (cap:=[.pointer (some ⟨b3,0,none⟩),.pointer (some ⟨b4,0,none⟩),.pointer (some ⟨b5,0,none⟩)]) (H':=λ _=>NO b3 b4 b5 bm (Tp (vk ((Pu p).take k) ([],false,0)) (q.1.name,(yw p q.2),q.1.at_))) (Φ:=λ v _=>v = .tuple #[]) Tm hs.p3 (λ F hF _=>C114 q.1.name (yw p q.2) q.1.at_ b3 b4 b5 bm _ _ _ F _ hF) (λ v _ _ hs=>?_))))))
  refine hN _ _ ?_ rfl;rw [A0 hc];exact ((hs.p2.drop).p2).p2
 ·rintro D M W rfl hs;rw [List.length_map,show (Pu p).take (oZ p).length=Pu p from List.take_of_length_le (by unfold Pu; rw [List.length_map]; exact Nat.le_refl _)] at hs;obtain ⟨s0,hs0⟩:∃ s,s=vk (Pu p) ([],false,0):=⟨_,rfl⟩;rw [<- hs0] at hs;refine aA sY (aB (v:=Flat.val cB) iP hs.p4.hb rfl (aG nk (hKr.ext hs.aE) ?_));refine ⟨λ m x w1=>∃ k:Nat,x = .int .i64 (k:Int)/\m=p.dL.length - k/\k<=p.dL.length/\St w bD [j6 D (.deferred (some [])),cP b (Flat.enc (⟨bX,cN,cB,bK,bN,bU⟩:bE)),NO b3 b4 b5 bm (vk ((Ox p).take k) s0),cP b8 [(.func (.func 114) [].toArray [.pointer (some ⟨b3,0,none⟩),.pointer (some ⟨b4,0,none⟩),.pointer (some ⟨b5,0,none⟩)].toArray)],cP bp (Flat.enc (⟨bX,cN,cB,bK,bN,bU⟩:bE))] w1,⟨_,0,rfl,rfl,Nat.zero_le _,(by rw [show vk ((Ox p).take 0) s0=s0 from rfl]; exact hs)⟩,?_⟩
  rintro m _ _ ⟨k,rfl,rfl,hk,hs⟩ _;refine aS (aC (λ c=>?_) (λ c=>?_))
  ·obtain ⟨x,hx⟩:∃ x,p.dL[((k:Nat):Int).toNat]? = some x:=⟨_,List.getElem?_eq_getElem (by omega)⟩;have Nn:p.dL[k]? = some x:=hx;have hc:(Ox p)[k]? = some (x.name,3,x.at_):=by unfold Ox; rw [List.getElem?_map,Nn]; rfl
   refine aU nk hKr (by omega) hx (λ q hq=>aF mr (hq.ext hs.aE) (aN hs oA (λ b9 _ hs=>aO (x:=x) hs mr rfl rfl (λ _ hs=>aB Lj hs.p4.hb rfl (aA mu (aB (v:=.string x.name) kp hs.hb rfl (aA vK (aB (v:=.int .i64 x.at_) cK hs.hb rfl (AH (first:=[]) (cap:=[.pointer (some ⟨b3,0,none⟩),.pointer (some ⟨b4,0,none⟩),.pointer (some ⟨b5,0,none⟩)]) (H':=λ _=>NO b3 b4 b5 bm (Tp (vk ((Ox p).take k) s0) (x.name,3,x.at_))) (Φ:=λ v _=>v = .tuple #[]) Tm hs.p3 (λ F hF _=>C114 x.name 3 x.at_ b3 b4 b5 bm _ _ _ F _ hF) (λ v _ _ hs=>aT (by omega) ?_))))))))));refine ⟨_,by omega,k+1,rfl,rfl,by omega,?_⟩
   rw [A0 hc];exact ((hs.p1.drop).p2).p2
  rw [show (Ox p).take k=Ox p from List.take_of_length_le (by unfold Ox; rw [List.length_map]; omega)] at hs;obtain ⟨s1,hs1⟩:∃ s,s=vk (Ox p) s0:=⟨_,rfl⟩;rw [<- hs1] at hs;refine aA qo (aB (v:=Flat.val bK) fg hs.p4.hb rfl (aG iO (yn.ext hs.aE) ?_));refine ⟨λ m x w1=>∃ k:Nat,x = .int .i64 (k:Int)/\m=uz.length - k/\k<=uz.length/\St w bD [j6 D (.deferred (some [])),cP b (Flat.enc (⟨bX,cN,cB,bK,bN,bU⟩:bE)),NO b3 b4 b5 bm (vk ((Pv p).take k) s1),cP b8 [(.func (.func 114) [].toArray [.pointer (some ⟨b3,0,none⟩),.pointer (some ⟨b4,0,none⟩),.pointer (some ⟨b5,0,none⟩)].toArray)],cP bp (Flat.enc (⟨bX,cN,cB,bK,bN,bU⟩:bE))] w1,⟨_,0,rfl,rfl,Nat.zero_le _,(by rw [show vk ((Pv p).take 0) s1=s1 from rfl]; exact hs)⟩,?_⟩
  rintro m _ _ ⟨k,rfl,rfl,hk,hs⟩ _;refine aS (aC (λ c=>?_) (λ c=>?_))
  ·obtain ⟨t,ht⟩:∃ t,uz[((k:Nat):Int).toNat]? = some t:=⟨_,List.getElem?_eq_getElem (by omega)⟩;obtain ⟨r,hr⟩:∃ r,p.threads[k]? = some r:=⟨_,List.getElem?_eq_getElem (by omega)⟩;obtain ⟨gr,gb,rfl,_,_⟩:=L5.2 _ _ _ ht hr;have hc:(Pv p)[k]? = some (r.name,4,r.at_):=by unfold Pv; rw [List.getElem?_map,hr]; rfl
   refine aU iO yn (by omega) ht (λ q hq=>aF py (hq.ext hs.aE) (aN hs rS (λ b9 _ hs=>aO hs py rfl rfl (λ _ hs=>aB Lj hs.p4.hb rfl (aA sW (aB (v:=.string r.name) kp hs.hb rfl (aA y9 (aB (v:=.int .i64 r.at_) cK hs.hb rfl (AH (first:=[]) (cap:=[.pointer (some ⟨b3,0,none⟩),.pointer (some ⟨b4,0,none⟩),.pointer (some ⟨b5,0,none⟩)]) (H':=λ _=>NO b3 b4 b5 bm (Tp (vk ((Pv p).take k) s1) (r.name,4,r.at_))) (Φ:=λ v _=>v = .tuple #[]) Tm hs.p3 (λ F hF _=>C114 r.name 4 r.at_ b3 b4 b5 bm _ _ _ F _ hF) (λ v _ _ hs=>aT (by omega) ?_))))))))));refine ⟨_,by omega,k+1,rfl,rfl,by omega,?_⟩
   rw [A0 hc];exact ((hs.p1.drop).p2).p2
  rw [show (Pv p).take k=Pv p from List.take_of_length_le (by unfold Pv; rw [List.length_map]; omega),hs1,hs0] at hs;have hs:=nZ.open hs.drew.p2;refine aB Cf hs.p3.hb rfl (aB cK hs.p1.hb rfl (aB I9 hs.p2.hb rfl ?_));refine zW hs.p4 (λ _ hs=>?_);exact ⟨bm,rfl,(hs.p1.drop.p1.drop.p1.drop.p1.drop.p1.drop.p1.drop).fresh⟩
 ·rintro D M W h; exact h.elim
 ·rintro id D M W h; exact h.elim
 rintro c M h; exact h.elim
theorem qR (a0:ByteArray) (a1:Int) (a2:Option Addr) (n2 c2:Nat):pr Tryz.prog (Instr.build 133 [(0,.string a0),(1,.int .i64 a1),(2,.slice a2 n2 c2)].toArray)=some (.agg [.string a0,.int .i64 a1,.slice a2 n2 c2].toArray):=by kernel_rfl
structure EK where
 name:ByteArray
 at_:Int
 may:SV
instance:Flat EK where
 agg:=true
 sz:=3
 enc e:=[.string e.name,.int .i64 e.at_,.slice e.may.a e.may.n e.may.cap]
 val e:=.agg [.string e.name,.int .i64 e.at_,.slice e.may.a e.may.n e.may.cap].toArray
 pos:=by decide
 len _:=rfl
 one a v h:=by simp at h; rcases h with rfl | rfl | rfl <;> rfl
 mo _ _:=rfl
 mM h:=by cases h
variable (w:World) (K:Value->World->Prop)
def S131 (l0 YI EL:Value):Prop:=
 lN 22 l0 λ a=>fh (λ K1 b c=>∀ _:Env,
 bA .lss 3 b a λ d=>cV d (iA 22 l0 b λ e=>lA 26 e c λ f=>aL 26 c λ g h=>sA 26 g f h λ j=>cE (λ K2=>fA 26 g 0 λ k=>lA 3 k j λ l=>bB .eql 3 l (i 2) λ n=>
 cV n (fA 26 g 2 λ o=>lA 9 o j λ p=>fA 26 g 3 λ q=>lA 3 q j λ r=>bS 45 1 [(0,YI)] j λ s t=>cU Tryz.prog (Instr.build 133 [(0,p),(1,r),(2,s)].toArray) λ u=>
 eg Tryz.prog EL [u] t λ v x=>cU Tryz.prog (Op.unary .not v) λ y=>K2 y x) (K2 ff j)) (λ z aa=>∀ _:Env,
 cV z (K ff aa) (bB .add 3 b (i 1) λ ab=>K1 ab aa))) (K tt c)) (λ K1=>K1 (i 0) w)
theorem YJ (l0 YI EL:Value) (h:S131 w K l0 YI EL):CR 131 [l0,YI,EL] w K:=
 eN 31 (λ _=>.nil) 64 [.tmp 6] Tryz.func131 h
def S68 (l0:Value):Prop:=
 gd Tryz.prog (Instr.box 27 l0) w λ l1 a=>K (.func (Go.Fn.func 130) [].toArray [l1].toArray) a
theorem adV (l0:Value) (h:S68 w K l0):CR 68 [l0] w K:=
 eN 4 (λ _=>.nil) 4 [.tmp 2] Tryz.func68 h
def S130 (jh a:Value):Prop:=
 lA 27 a w λ b=>lN 27 b λ c=>fh (λ K1 d e=>∀ _:Env,
 bA .lss 3 d c λ f=>cV f (iA 27 b d λ g=>lA 24 g e λ h=>aL 24 e λ j k=>sA 24 j h k λ l=>cE (λ K2=>fA 24 j 1 λ n=>lA 9 n l λ o=>cU Tryz.prog (fL .neq 9 false true o (Go.Value.string (ByteArray.mk (#[])))) λ p=>
 cV p (fA 24 j 1 λ q=>lA 9 q l λ r=>fA 24 j 8 λ s=>lA 3 s l λ t=>bS 45 1 [(0,(i 5))] l λ u v=>cU Tryz.prog (Instr.build 133 [(0,r),(1,t),(2,u)].toArray) λ x=>
 eg Tryz.prog jh [x] v λ y z=>cU Tryz.prog (Op.unary .not y) λ aa=>K2 aa z) (K2 ff l)) (λ ab ac=>∀ _:Env,
 cV ab (K (.tuple #[]) ac) (bS 45 2 [(0,(i 1)),(1,(i 2))] ac λ ad ae=>cE (λ K3=>fA 24 j 0 λ af=>lA 3 af ae λ ag=>cE (λ K4=>bB .eql 3 ag (i 5) λ ah=>cV ah (
 K4 ah ae) (bB .eql 3 ag (i 6) λ ai=>K4 ai ae)) (λ aj ak=>∀ _:Env,
 cV aj (bS 45 1 [(0,(i 1))] ak λ al am=>K3 al am) (cE (λ K5=>bB .eql 3 ag (i 9) λ an=>cV an (K5 an ak) (bB .eql 3 ag (i 10) λ ao=>K5 ao ak)) (λ ap aq=>∀ _:Env,
 cV ap (bS 45 1 [(0,(i 3))] aq λ ar asx=>K3 ar asx) (K3 ad aq))))) (λ apI au=>∀ _:Env,
 cE (λ K6=>fA 24 j 2 λ av=>lA 9 av au λ aw=>cU Tryz.prog (fL .neq 9 false true aw (Go.Value.string (ByteArray.mk (#[])))) λ ax=>cV ax (fA 24 j 2 λ ay=>lA 9 ay au λ az=>
 fA 24 j 8 λ a0=>lA 3 a0 au λ a1=>cU Tryz.prog (Instr.build 133 [(0,az),(1,a1),(2,apI)].toArray) λ a2=>eg Tryz.prog jh [a2] au λ a3 a4=>cU Tryz.prog (Op.unary .not a3) λ a5=>
 K6 a5 a4) (K6 ff au)) (λ a6 a7=>∀ _:Env,
 cV a6 (K (.tuple #[]) a7) (cE (λ K7=>fA 24 j 3 λ a8=>lA 22 a8 a7 λ a9=>cF 131 [a9,(i 5),jh] a7 λ ba bb=>cU Tryz.prog (Op.unary .not ba) λ bc=>cV bc (K7 tt bb) (
 fA 24 j 4 λ bd=>lA 22 bd bb λ be=>cF 131 [be,(i 5),jh] bb λ bf bg=>cU Tryz.prog (Op.unary .not bf) λ bh=>K7 bh bg)) (λ bi bj=>∀ _:Env,
 cV bi (K (.tuple #[]) bj) (bB .add 3 d (i 1) λ bk=>K1 bk bj)))))))) (K (.tuple #[]) e)) (λ K1=>K1 (i 0) w)
theorem YK (jh x1:Value) (h:S130 w K jh x1):CR 130 [jh,x1] w K:=
 eN 64 (λ _=>.nil) 0 [] Tryz.func130 h
theorem aa8:PL 131:=dW Tryz.func131
theorem apJ:PL 68:=dW Tryz.func68
theorem ajW:PL 130:=dW Tryz.func130
end Go.Proofs.YtfkgkbhbdffckaaGreatDoor
namespace Go.Fw
def Kg:List Nat->HP
 | []=>e9 λ _=>True
 | D::r=>sep (j6 D (.deferred (some []))) (Kg r)
def YL (P:Program) (w0:World) (A:Nat->Prop) (I:Nat->List HP->Prop) (Jx:World->Prop) (y:Value) (Ar:Nat->List Value->(World->Prop)->Prop):Prop:=
 ∀ k args Φ W (R:HP) L,Ar k args Φ->(∀ F W',R.p W' F->Φ W')->I k L->St w0 A (R::L) W->eg P y args W (λ v W'=>(v = .bool true/\∃ L',I (k+1) L'/\St w0 A (R::L') W')\/(v = .bool false/\Jx W'))
section
variable {P:Program} {w w0 w':World} {A:Nat->Prop} {L:List HP}
theorem Kg.nil (hs:St w0 A L w):St w0 A (Kg []::L) w:=hs.rZ λ _=>trivial
theorem Kg.take {K:World->Prop}:∀ (ds:List Nat) {w:World},St w0 A (Kg ds::L) w->(∀ w',St w0 A L w'->K w')->fo ds w K
 | [],_,hs,k=>k _ hs.drop
 | D::r,_,hs,k=>by
  have h1:=hs.split
  exact ⟨h1.obj,Kg.take r (h1.putObj _).drop k⟩
theorem Tq {gf np:Nat} {cap:List Value} (n:Nat) (Ar:Nat->List Value->(World->Prop)->Prop) {round:List Value->World->(World->(World->Prop)->Prop)->(Option Code->World->Prop)->Prop}
  {N R:Nat->World->Prop} {X:Nat->Nat->World->Prop} (pl:Plain P gf) (hs:St w0 A L w) (I:Nat->List HP->Prop) (Ix:Code->List HP->Prop) (h0:I 0 L) (hnp:∀ k a Φ,Ar k a Φ->a.length=np)
  (hgf:∀ (y:Value) (Y:HP) (Jx:World->Prop) (W:World),(∃ M,I 0 M/\St w0 A (Y::M) W)->YL P w0 A (λ k L=>∃ M,I k M/\L=Y::M) Jx y Ar->
   Calls P gf ([y]++cap).toArray W (mW λ _ W'=>(∃ M,I n M/\St w0 A (Y::M) W')\/Jx W'))
  (zI:∀ k args Φ (Y1 Y2:HP) (B:World->(World->Prop)->Prop) (Kr:Option Code->World->Prop) M W,Ar k args Φ->I k M->(∀ F W',Y2.p W' F->Φ W')->
   (∀ M w1 (kk:World->Prop),St w0 A (Y1::M) w1->(∀ w2,St w0 A (Y2::M) w2->kk w2)->B w1 kk)->
   (∀ M w1,St w0 A (Y2::M) w1->I (k+1) M->Kr none w1)->(∀ c M w1,St w0 A (Y2::M) w1->Ix c M->Kr (some c) w1)->
   St w0 A (Y1::M) W->round args W B Kr)
  (QA:∀ D M W,I n M->St w0 A (j6 D (.deferred (some []))::M) W->N D W)
  (ab0:∀ D M W,Ix .ret M->St w0 A (j6 D (.deferred (some []))::M) W->R D W)
  (QB:∀ id D M W,Ix (.exit id) M->St w0 A (j6 D (.deferred (some []))::M) W->X id D W)
  (Je:∀ c M,Ix c M->(∃ id,c = .exit id)\/c = .ret) :
  l9 P (.func (.func gf) #[] cap.toArray) np w round (Pm N R X):=by
 refine ⟨gf,cap.toArray,rfl,pl,λ L0 hst yK hy=>?_⟩
 obtain ⟨l,hl⟩:∃ l,l=w.heap.size+1:=⟨_,rfl⟩
 obtain ⟨D,hD⟩:∃ D,D=w.heap.size:=⟨_,rfl⟩
 rw [<- hl] at hy |-
 rw [<- hD]
 let Y:HP:=sep (j6 l (.loop L0)) (j6 D (.deferred (some [])))
 let Jx:World->Prop:=λ W=>∃ c M,Ix c M/\St w0 A (j6 l (.loop {L0 with state:=.done,pending:=some c})::j6 D (.deferred (some []))::M) W
 have NA:∃ M,I 0 M/\St w0 A (Y::M) ((w.alloc (.deferred (some []))).alloc (.loop L0)):=by
  refine ⟨L,h0,?_⟩
  have h1:=(hs.alloc (o:=.deferred (some []))).alloc (o:=.loop L0)
  rw [show (w.alloc (.deferred (some []))).heap.size=l from by rw [hl]; exact xc w _,<- hD] at h1
  exact St.join h1
 have:=hgf (.func (.yield l) #[] #[]) Y Jx _ NA ?_
 ·have e:([Value.func (.yield l) #[] #[]]++cap).toArray = #[.func (.yield l) #[] #[]]++cap.toArray:=by simp
  rw [e] at this
  refine this.mono λ x W' ⟨v,hx,hv⟩=>⟨v,hx,?_⟩
  rcases hv with ⟨M,hI,hS⟩ | ⟨c,M,hI,hS⟩
  ·have hS:=hS.split
   refine ⟨.ready,none,by simp,?_,?_⟩
   ·rw [<- hst,<- yK]; exact hS.obj
   exact QA D M _ hI (hS.putObj _).drop
  refine ⟨.done,some c,by simp,hS.obj,?_⟩
  rcases Je c M hI with ⟨id,rfl⟩ | rfl
  ·exact QB id D M _ hI (hS.putObj _).drop
  exact ab0 D M _ hI (hS.putObj _).drop
 rintro k args Φ W R _ hk hR ⟨M,hI,rfl⟩ hS
 have hS1:=(hS.p1).split
 refine ⟨.inr ⟨l,rfl,?_⟩⟩
 refine hy args W _ (hnp k args Φ hk) hS1.obj ?_
 refine zI k args Φ (sep (sep (j6 l (.loop L0)) (j6 D (.deferred (some [])))) R) (sep (sep (j6 l (.loop {L0 with state:=.busy})) (j6 D (.deferred (some [])))) R) _ _ M W hk hI (λ F W2 ⟨_,F2,_,h2,_⟩=>hR F2 W2 h2)
  (λ M w1 kk h1 h2=>?_) (λ M w1 h1 h2=>?_) (λ c M w1 h1 h2=>?_) (St.join (St.join hS1))
 ·have h1:=h1.split.split
  exact ⟨h1.obj,h2 _ (h1.putObj _).join.join⟩
 ·have h1:=h1.split.split
  refine ⟨h1.obj,.inl ⟨rfl,_,⟨M,h2,rfl⟩,?_⟩⟩
  have:=h1.putObj (.loop {L0 with state:=if (none:Option Code).isNone=true then LoopState.ready else LoopState.done,pending:=none})
  rw [zX L0 hst yK] at this |-
  exact (St.join this).p1
 have h1:=h1.split.split
 refine ⟨h1.obj,.inr ⟨rfl,c,M,h2,?_⟩⟩
 exact (h1.putObj _).p2.drop
end
end Go.Fw
namespace Go.Proofs.YtfkgkbhbdffckaaGreatDoor
open Go.Fw
abbrev UU:=ByteArray × Int × List Int
def mH (xs:List bL):List bL:=xs.filter λ x=>decide (x.op=2)
theorem CJ {xs:List bL} {k:Nat} {x:bL} (h:xs[k]? = some x):mH (xs.take (k+1))=mH (xs.take k)++(if x.op=2 then [x] else []):=by
 unfold mH; rw [<- fY h,List.filter_append]; congr 1
 by_cases hx:x.op=2
 ·rw [if_pos hx]; simp [hx]
 rw [if_neg hx]; simp [hx]
theorem YM {xs:List bL} {k:Nat} {x:bL} (h:xs[k]? = some x) (hx:x.op=2):(mH xs)[(mH (xs.take k)).length]? = some x:=by
 have h1:=drop_cons h
 have e:mH xs=mH (xs.take k)++mH (xs.drop k):=by unfold mH; rw [<- List.filter_append,List.take_append_drop]
 rw [e,List.getElem?_append_right (Nat.le_refl _),Nat.sub_self,h1]
 simp [mH,hx]
def MF (l:List UU) (k:Nat) (args:List Value) (Φ:World->Prop):Prop:=∃ u s,l[k]? = some u/\args=[Flat.val (⟨u.1,u.2.1,s⟩:EK)]/\∀ W,Φ W->dx (λ _=>True) W (Flat.val s) u.2.2
theorem apK {H H':HP} {Φ:World->Prop} (h:∀ F W,H.p W F->Φ W):∀ F W,(sep H H').p W F->Φ W:=λ _ _ ⟨_,_,h1,_⟩=>h _ _ h1
theorem EN {α:Type} [Flat α] {v:Value} {xs:List α}:∀ F W,(bJ v xs).p W F->dx (λ _=>True) W v xs:=λ _ _ h=>(bJ.rd h).mono λ _ _=>trivial
theorem C131 (lv y:Value) (xs:List bL) (may:Int) (ul:List UU) (j0:Nat) (w0:World) (A:Nat->Prop) (I:Nat->List HP->Prop) (Jx:World->Prop) (w:World) (hn:xs.length<=1048576)
  (hE:∀ k L W,I k L->St w0 A L W->dx (λ _=>True) W lv xs) (h0:∃ L,I j0 L/\St w0 A L w) (hu:∀ (j:Nat) (x:bL),(mH xs)[j]? = some x->ul[j0+j]? = some (x.name,x.at_,[may])) (hy:YL Tryz.prog w0 A I Jx y (MF ul)) :
  CR 131 [lv,.int .i64 may,y] w (λ v W=>(v = .bool true/\∃ L,I (j0+(mH xs).length) L/\St w0 A L W)\/(v = .bool false/\Jx W)):=by
 refine YJ _ _ _ _ _ ?_;unfold S131;obtain ⟨L0,hI0,hS0⟩:=h0;refine aG kq (hE _ _ _ hI0 hS0) ?_;refine ⟨λ m x w1=>∃ k:Nat,x = .int .i64 (k:Int)/\m=xs.length - k/\k<=xs.length/\∃ L,I (j0+(mH (xs.take k)).length) L/\St w0 A L w1,⟨_,0,rfl,rfl,Nat.zero_le _,L0,hI0,hS0⟩,?_⟩;rintro m _ w1 ⟨k,rfl,rfl,hk,L1,hI,hs⟩ _;refine aS (aC (λ c=>?_) (λ c=>?_))
 ·obtain ⟨x,hx⟩:∃ x,xs[((k:Nat):Int).toNat]? = some x:=⟨_,List.getElem?_eq_getElem (by omega)⟩;refine aU kq (hE _ _ _ hI hs) (by omega) hx (λ q hq=>aF zQ hq (aN hs DC (λ b8 _ hs=>aO (x:=x) hs zQ rfl rfl (λ _ hs=>⟨λ jv w'=>(jv = .bool false/\∃ L,I (j0+(mH (xs.take (k+1))).length) L/\St w0 A L w')\/(jv = .bool true/\Jx w'),aA me (aB (v:=.int .i64 x.op) cK hs.hb rfl (aI (aC (λ c2=>?_) (λ c2=>?_)))),?_⟩))))
  ·refine aA kW (aB (v:=.string x.name) kp hs.hb rfl (aA vE (aB (v:=.int .i64 x.at_) cK hs.hb rfl (cO (([may]:List Int)) hs.drop ei rfl rfl (fw rfl) (λ s25 w4 hs=>?_)))));obtain ⟨sv,rfl⟩:=(hs).gg.eT;refine pop (qR x.name x.at_ sv.a sv.n sv.cap) ?_;refine eg.mono (hy _ _ _ w4 _ _ ⟨_,sv,hu _ x (YM hx c2),rfl,λ _ h=>h⟩ EN hI hs) ?_;rintro v w5 (⟨rfl,L2,IS,Xf⟩ | ⟨rfl,wQ⟩)
   ·exact bH (.inl ⟨rfl,L2,by rw [CJ (k:=k) hx,if_pos c2,List.length_append]; exact IS,Xf.drop⟩)
   exact bH (.inr ⟨rfl,wQ⟩)
  ·refine .inl ⟨rfl,L1,?_,hs.drop⟩;rw [CJ (k:=k) hx,if_neg c2,List.append_nil];exact hI
  rintro _ w6 (⟨rfl,L2,IS,hs⟩ | ⟨rfl,wQ⟩) _
  ·exact eu (aT (by omega) ⟨_,by omega,k+1,rfl,rfl,by omega,L2,IS,hs⟩)
  exact gk (.inr ⟨rfl,wQ⟩)
 rw [List.take_of_length_le (by omega)] at hI;exact .inl ⟨rfl,L1,hI,hs⟩
def EO (k:Int):List Int:=if k=5\/k=6 then [1] else if k=9\/k=10 then [3] else [1,2]
def xI (l:List bL):List UU:=(mH l).map λ y=>(y.name,y.at_,[5])
def xJ (x:aX):List UU:=(if x.eB=⟨#[]⟩ then [] else [(x.eB,x.at_,[5])])++((if x.name=⟨#[]⟩ then [] else [(x.name,x.at_,EO x.kind)])++(xI x.e++xI x.f))
def kR (xs:List aX):List UU:=xs.flatMap xJ
theorem CK {xs:List aX} {k:Nat} {x:aX} (h:xs[k]? = some x):kR (xs.take (k+1))=kR (xs.take k)++xJ x:=by
 unfold kR; rw [<- fY h,List.flatMap_append]; simp
theorem YN {xs:List aX} {k i:Nat} {x:aX} {u:UU} (h:xs[k]? = some x) (hi:(xJ x)[i]? = some u):(kR xs)[(kR (xs.take k)).length+i]? = some u:=by
 have e:kR xs=kR (xs.take k)++(xJ x++kR (xs.drop (k+1))):=by
  rw [<- List.append_assoc,<- CK h]; unfold kR; rw [<- List.flatMap_append,List.take_append_drop]
 rw [e,List.getElem?_append_right (by omega),Nat.add_sub_cancel_left,List.getElem?_append_left (List.getElem?_eq_some_iff.1 hi).1,hi]
theorem MG {l:List bL} {j:Nat} {y:bL} (h:(mH l)[j]? = some y):(xI l)[j]? = some (y.name,y.at_,[5]):=by unfold xI; rw [List.getElem?_map,h]; rfl
def n6 (x:aX):List UU:=if x.eB=⟨#[]⟩ then [] else [(x.eB,x.at_,[5])]
def o0 (x:aX):List UU:=if x.name=⟨#[]⟩ then [] else [(x.name,x.at_,EO x.kind)]
theorem xK (x:aX):xJ x=n6 x++(o0 x++(xI x.e++xI x.f)):=rfl
theorem adW {x:aX} (h:¬ x.eB=⟨#[]⟩):(n6 x).length=1:=by unfold n6; rw [if_neg h]; rfl
theorem adX {x:aX} (h:x.eB=⟨#[]⟩):(n6 x).length=0:=by unfold n6; rw [if_pos h]; rfl
theorem adY {x:aX} {n:Nat} (h:¬ x.name=⟨#[]⟩):(n+(o0 x).length)=n+1:=by unfold o0; rw [if_neg h]; rfl
theorem adZ {x:aX} {n:Nat} (h:x.name=⟨#[]⟩):(n+(o0 x).length)=n:=by unfold o0; rw [if_pos h]; rfl
theorem Ts {x:aX} (h:¬ x.eB=⟨#[]⟩):(xJ x)[0]? = some (x.eB,x.at_,[5]):=by unfold xJ; rw [if_neg h]; rfl
theorem Tt {x:aX} (h:¬ x.name=⟨#[]⟩):(xJ x)[(n6 x).length]? = some (x.name,x.at_,EO x.kind):=by
 rw [xK,List.getElem?_append_right (Nat.le_refl _),Nat.sub_self]; unfold o0; rw [if_neg h]; rfl
theorem Tu {x:aX} {j:Nat} {y:bL} (h:(mH x.e)[j]? = some y):(xJ x)[(n6 x).length+(o0 x).length+j]? = some (y.name,y.at_,[5]):=by
 have h1:=MG h
 rw [xK,List.getElem?_append_right (by omega),show (n6 x).length+(o0 x).length+j - (n6 x).length=(o0 x).length+j from by omega,List.getElem?_append_right (by omega),Nat.add_sub_cancel_left,List.getElem?_append_left (List.getElem?_eq_some_iff.1 h1).1,h1]
theorem Tv {x:aX} {j:Nat} {y:bL} (h:(mH x.f)[j]? = some y):(xJ x)[(n6 x).length+(o0 x).length+(mH x.e).length+j]? = some (y.name,y.at_,[5]):=by
 have h1:=MG h
 have h2:(xI x.e).length=(mH x.e).length:=by unfold xI; rw [List.length_map]
 rw [xK,List.getElem?_append_right (by omega),show (n6 x).length+(o0 x).length+(mH x.e).length+j - (n6 x).length=(o0 x).length+((xI x.e).length+j) from by omega,List.getElem?_append_right (by omega),Nat.add_sub_cancel_left,List.getElem?_append_right (by omega),Nat.add_sub_cancel_left,h1]
theorem Tw (x:aX):(xJ x).length=(n6 x).length+(o0 x).length+(mH x.e).length+(mH x.f).length:=by
 rw [xK]; unfold xI; simp only [List.length_append,List.length_map]; omega
theorem C130 (y:Value) (b:Nat) (lv:Value) (ts:List aW) (xs:List aX) (w0:World) (A:Nat->Prop) (I:Nat->List HP->Prop) (Jx:World->Prop) (w:World) (hn:xs.length<=1048576) (hz:∀ x∈xs,x.e.length<=1048576/\x.f.length<=1048576)
  (hE:∀ k L W,I k L->St w0 A L W->Cell W b 0 lv/\dx (λ _=>True) W lv ts/\jR ts xs W) (h0:∃ L,I 0 L/\St w0 A L w) (hy:YL Tryz.prog w0 A I Jx y (MF (kR xs))) :
  CR 130 [y,.pointer (some ⟨b,0,none⟩)] w (λ _ W=>(∃ L,I (kR xs).length L/\St w0 A L W)\/Jx W):=by
 have hyF:∀ b4 (cs:List Value),YL Tryz.prog w0 A (λ j L=>∃ M,I j M/\L=cP b4 cs::M) Jx y (MF (kR xs)):=by
  rintro b4 cs k args Φ W R _ h1 h2 ⟨M,h3,rfl⟩ h4;refine eg.mono (hy k args Φ W _ M h1 (apK h2) h3 (St.join h4)) ?_;rintro v W' (⟨rfl,L',h5,h6⟩ | h5)
  ·exact .inl ⟨rfl,_,⟨L',h5,rfl⟩,h6.split⟩
  ·exact .inr h5
 refine YK _ _ _ _ ?_;unfold S130;obtain ⟨M0,hI0,hS0⟩:=h0;obtain ⟨ug,Qd,U6⟩:=hE _ _ _ hI0 hS0;have Dp:=U6.1;refine bW zR ug (aG iV Qd ?_);refine ⟨λ m x w1=>∃ k:Nat,x = .int .i64 (k:Int)/\m=ts.length - k/\k<=ts.length/\∃ L,I (kR (xs.take k)).length L/\St w0 A L w1,⟨_,0,rfl,rfl,Nat.zero_le _,M0,hI0,hS0⟩,?_⟩;rintro m _ w1 ⟨k,rfl,rfl,hk,M1,hI,hs⟩ _;refine aS (aC (λ c=>?_) (λ c=>?_))
 ·obtain ⟨t,ht⟩:∃ t,ts[((k:Nat):Int).toNat]? = some t:=⟨_,List.getElem?_eq_getElem (by omega)⟩;obtain ⟨x,hx⟩:∃ x,xs[k]? = some x:=⟨_,List.getElem?_eq_getElem (by omega)⟩;have hxz:=hz x (List.mem_of_getElem? hx);obtain ⟨Bv,BA,hd1⟩:=hE _ _ _ hI hs;obtain ⟨ge,gf,rfl,_,_⟩:=hd1.2 _ _ _ ht hx
  have hE1:∀ k' M W,I k' M->St w0 A M W->dx (λ _=>True) W (Flat.val ge) x.e/\dx (λ _=>True) W (Flat.val gf) x.f:=λ k' M W h1 h2=>by
   obtain ⟨_,_,h3⟩:=hE k' M W h1 h2;obtain ⟨_,_,h4,h5,h6⟩:=h3.2 _ _ _ ht hx;cases h4
   exact ⟨DL.flat h5,DL.flat h6⟩
  have LW:∀ {i:Nat} {u:UU},(xJ x)[i]? = some u->(kR xs)[(kR (xs.take k)).length+i]? = some u:=YN hx;refine aU iV BA (by omega) ht (λ q hq=>aF mq hq (aN hs nK (λ b4 _ hs=>aO (x:=(⟨x.kind,x.eB,x.name,ge,gf,x.n,x.body,x.eG,x.at_⟩:aW)) hs mq rfl rfl (λ _ hs=>?_))));refine ⟨λ jv w'=>(jv = .bool false/\∃ L,I ((kR (xs.take k)).length+(n6 x).length) L/\St w0 A ((cP b4 (Flat.enc (⟨x.kind,x.eB,x.name,ge,gf,x.n,x.body,x.eG,x.at_⟩:aW)))::L) w')\/(jv = .bool true/\Jx w'),?_,?_⟩
  ·refine aA nc (aB (v:=.string x.eB) kp hs.hb rfl (xg (aC (λ c2=>?_) (λ c2=>.inl ⟨rfl,M1,by rw [adX (by simpa using c2)]; exact hI,hs⟩))));refine aA nc (aB (v:=.string x.eB) kp hs.hb rfl (aA sV (aB (v:=.int .i64 x.at_) cK hs.hb rfl (cO (([5]:List Int)) hs ei rfl rfl (fw rfl) (λ s25 _ hs=>?_)))));obtain ⟨sv,rfl⟩:=(hs).gg.eT;refine pop (qR x.eB x.at_ sv.a sv.n sv.cap) ?_;refine eg.mono (hyF b4 _ _ _ _ _ _ _ ⟨_,sv,LW (i:=0) (Ts c2),rfl,λ _ h=>h⟩ EN ⟨_,hI,rfl⟩ hs) ?_;rintro v w5 (⟨rfl,_,⟨M2,IS,rfl⟩,Xf⟩ | ⟨rfl,wQ⟩)
   ·exact bH (.inl ⟨rfl,M2,by rw [adW c2]; exact IS,Xf.drop⟩)
   exact bH (.inr ⟨rfl,wQ⟩)
  rintro _ w6 (⟨rfl,M2,IS,hs⟩ | ⟨rfl,wQ⟩) _;rotate_left
  ·exact gk (.inr wQ)
  refine eu (cO (([1,2]:List Int)) hs ei rfl rfl (fw rfl) (λ s26 w7 hs=>?_));refine ⟨λ jv w'=>∃ sv:SV,jv=Flat.val sv/\St w0 A (bJ (Flat.val sv) (EO x.kind)::(cP b4 (Flat.enc (⟨x.kind,x.eB,x.name,ge,gf,x.n,x.body,x.eG,x.at_⟩:aW)))::M2) w',?_,?_⟩
  ·refine aA gI (aB (v:=.int .i64 x.kind) cK hs.p1.hb rfl ⟨λ jv w'=>jv = .bool (decide (x.kind=5\/x.kind=6))/\w'=w7,aI (aC (λ c3=>⟨vb (by simp [c3]),rfl⟩) (λ c3=>aI ⟨vb (by simp [c3]),rfl⟩)),?_⟩);rintro _ w8 ⟨rfl,rfl⟩ _;refine aC (λ c3=>?_) (λ c3=>⟨λ jv w'=>jv = .bool (decide (x.kind=9\/x.kind=10))/\w'=w8,aI (aC (λ c4=>⟨vb (by simp [c4]),rfl⟩) (λ c4=>aI ⟨vb (by simp [c4]),rfl⟩)),?_⟩)
   ·refine cO (([1]:List Int)) hs ei rfl rfl (fw rfl) (λ s32 _ hs=>?_);obtain ⟨sv,rfl⟩:=(hs).gg.eT;exact ⟨sv,rfl,by rw [EO,if_pos c3]; exact (hs.p1).drop⟩
   rintro _ _ ⟨rfl,rfl⟩ _;refine aC (λ c4=>?_) (λ c4=>?_)
   ·refine cO (([3]:List Int)) hs ei rfl rfl (fw rfl) (λ s36 _ hs=>?_);obtain ⟨sv,rfl⟩:=(hs).gg.eT;exact ⟨sv,rfl,by rw [EO,if_neg c3,if_pos c4]; exact (hs.p1).drop⟩
   obtain ⟨sv,rfl⟩:=(hs).gg.eT;exact ⟨sv,rfl,by rw [EO,if_neg c3,if_neg c4]; exact hs⟩
  rintro _ _ ⟨sv,rfl,hs⟩ _;refine ⟨λ jv w'=>(jv = .bool false/\∃ L,I ((kR (xs.take k)).length+((n6 x).length+(o0 x).length)) L/\St w0 A ((cP b4 (Flat.enc (⟨x.kind,x.eB,x.name,ge,gf,x.n,x.body,x.eG,x.at_⟩:aW)))::L) w')\/(jv = .bool true/\Jx w'),?_,?_⟩
  ·refine aA ng (aB (v:=.string x.name) kp hs.p1.hb rfl (xg (aC (λ c2=>?_) (λ c2=>.inl ⟨rfl,M2,by rw [adZ (by simpa using c2)]; exact IS,hs.drop⟩))));refine aA ng (aB (v:=.string x.name) kp hs.p1.hb rfl (aA sV (aB (v:=.int .i64 x.at_) cK hs.p1.hb rfl (pop (qR x.name x.at_ sv.a sv.n sv.cap) ?_))));refine eg.mono (hyF b4 _ _ _ _ _ _ _ ⟨_,sv,LW (i:=(n6 x).length) (Tt c2),rfl,λ _ h=>h⟩ EN ⟨_,IS,rfl⟩ hs) ?_;rintro v w13 (⟨rfl,_,⟨M3,hI3,rfl⟩,hs3⟩ | ⟨rfl,wQ⟩)
   ·exact bH (.inl ⟨rfl,M3,by rw [adY c2]; exact hI3,hs3.drop⟩)
   exact bH (.inr ⟨rfl,wQ⟩)
  rintro _ Oy (⟨rfl,M2,IS,hs⟩ | ⟨rfl,wQ⟩) _;rotate_left
  ·exact gk (.inr wQ)
  refine eu ?_;refine ⟨λ jv w'=>(jv = .bool false/\∃ L,I ((kR (xs.take (k+1))).length) L/\St w0 A ((cP b4 (Flat.enc (⟨x.kind,x.eB,x.name,ge,gf,x.n,x.body,x.eG,x.at_⟩:aW)))::L) w')\/(jv = .bool true/\Jx w'),?_,?_⟩
  ·refine aA nh (aB (v:=Flat.val ge) m9 hs.hb rfl (eW aa8 (C131 _ y x.e 5 (kR xs) ((kR (xs.take k)).length+(((n6 x).length+(o0 x).length))) w0 A (λ j L=>∃ M,I j M/\L=(cP b4 (Flat.enc (⟨x.kind,x.eB,x.name,ge,gf,x.n,x.body,x.eG,x.at_⟩:aW)))::M) Jx _ (by have:=hxz.1; omega) (λ j L W ⟨M,h1,h2⟩ h3=>(hE1 _ _ _ h1 (h2▸h3).drop).1) ⟨_,⟨_,IS,rfl⟩,hs⟩ (λ j _ IP=>by rw [Nat.add_assoc]; exact LW (i:=((n6 x).length+(o0 x).length)+j) (Tu IP)) (hyF b4 _)) ?_));rintro v _ hv;rw [Nat.add_assoc] at hv
   rcases hv with ⟨rfl,_,⟨M2,IS,rfl⟩,hs⟩ | ⟨rfl,hv⟩
   ·refine bH (eu (aA oy (aB (v:=Flat.val gf) m9 hs.hb rfl (eW aa8 (C131 _ y x.f 5 (kR xs) ((kR (xs.take k)).length+(((n6 x).length+(o0 x).length+(mH x.e).length))) w0 A (λ j L=>∃ M,I j M/\L=(cP b4 (Flat.enc (⟨x.kind,x.eB,x.name,ge,gf,x.n,x.body,x.eG,x.at_⟩:aW)))::M) Jx _ (by have:=hxz.2; omega) (λ j L W ⟨M,h1,h2⟩ h3=>(hE1 _ _ _ h1 (h2▸h3).drop).2) ⟨_,⟨_,IS,rfl⟩,hs⟩ (λ j _ IP=>by rw [Nat.add_assoc]; exact LW (i:=((n6 x).length+(o0 x).length+(mH x.e).length)+j) (Tv IP)) (hyF b4 _)) ?_))));rintro v _ hv;rw [Nat.add_assoc] at hv
    rcases hv with ⟨rfl,_,⟨M2,IS,rfl⟩,hs⟩ | ⟨rfl,hv⟩
    ·exact bH (.inl ⟨rfl,M2,by rw [CK hx,List.length_append,Tw]; exact IS,hs⟩)
    exact bH (.inr ⟨rfl,hv⟩)
   exact bH (gk (.inr ⟨rfl,hv⟩))
  rintro _ w17 (⟨rfl,M2,IS,hs⟩ | ⟨rfl,wQ⟩) _;rotate_left
  ·exact gk (.inr wQ)
  exact eu (aT (by omega) ⟨_,by omega,k+1,rfl,rfl,by omega,M2,IS,hs.drop⟩)
 rw [List.take_of_length_le (by omega)] at hI;exact .inl ⟨M1,hI,hs⟩
theorem C68 (lv:SV) (w:World):CR 68 [Flat.val lv] w (λ v w'=>∃ b,v = .func (.func 130) [].toArray [.pointer (some ⟨b,0,none⟩)].toArray/\mZ (cP b [Flat.val lv]) w w'):=by
 have hs:=St.start w;refine adV _ _ _ ?_;unfold S68;exact jY hs rfl (λ b _ hs=>⟨b,rfl,hs.fresh⟩)
variable (w:World) (K:Value->World->Prop)
def S67 (t0 is1:Value):Prop:=
 gd Tryz.prog (Instr.box 34 t0) w λ t2 a=>gd Tryz.prog (Instr.makeMap 121 none) a λ b c=>gd Tryz.prog (Instr.range 121 is1) c λ d e=>PR (λ K1 f=>∀ _:Env,
 gd Tryz.prog (Instr.next d false 0) f λ g h=>xT g 0 λ j=>cV j (q7 Tryz.prog (Instr.entry d) h λ k=>xT k 0 λ l=>xT k 1 λ n=>bB .neq 3 n (i 4) λ o=>cV o (BT Tryz.prog (Instr.mapUpdate 121 b l n) h λ p=>
 K1 p) (K1 h)) (fA 34 t2 1 λ q=>lA 32 q h λ r=>lN 32 r λ s=>fh (λ K2 t u=>∀ _:Env,
 bA .lss 3 t s λ v=>cV v (iA 32 r t λ x=>lA 9 x u λ y=>q7 Tryz.prog (Instr.lookup 121 b y false) u λ z=>bB .neq 3 z (i 0) λ aa=>cV aa (K (.tuple #[(Go.Value.map none),tt]) u) (
 BT Tryz.prog (Instr.mapUpdate 121 b y (i 5)) u λ ab=>bB .add 3 t (i 1) λ ac=>K2 ac ab)) (K (.tuple #[b,ff]) u)) (λ K2=>K2 (i 0) h))) (λ K1=>K1 e)
theorem ad0 (t0 is1:Value) (h:S67 w K t0 is1):CR 67 [t0,is1] w K:=
 eN 39 (λ _=>.nil) 48 [.tmp 4,.tmp 5] Tryz.func67 h
theorem ad1:PL 67:=dW Tryz.func67
end Go.Proofs.YtfkgkbhbdffckaaGreatDoor
namespace Go.Proofs.YtfkgkbhbdffckaaGreatDoor
open Go.Fw
def xL:List SI->List ByteArray->Option (List SI)
 | g,[]=>some g
 | g,n::r=>if cY g n=0 then xL (g++[(n,5)]) r else none
def HJ (l:List SI) (names:List ByteArray):Option (List SI):=xL (l.filter λ p=>decide (¬ p.2=4)) names
theorem YO {g:List SI} {ns:List ByteArray} {k:Nat} {n:ByteArray} (h:ns[k]? = some n) (hz:cY g n=0):xL g (ns.drop k)=xL (g++[(n,5)]) (ns.drop (k+1)):=by
 rw [drop_cons h,xL,if_pos hz]
theorem YP {g:List SI} {ns:List ByteArray} {k:Nat} {n:ByteArray} (h:ns[k]? = some n) (hz:¬ cY g n=0):xL g (ns.drop k)=none:=by
 rw [drop_cons h,xL,if_neg hz]
def ajZ (r:Option (List SI)) (v:Value) (w w':World):Prop:=
 (r=none/\v = .tuple #[.map none,.bool true]/\Ext w w')\/∃ g b,r=some g/\v = .tuple #[.map (some b),.bool false]/\mZ (jy b g) w w'
theorem C67 (tv:bR) (names:List ByteArray) (bm:Nat) (l:List SI) (w:World) (hf:dx (λ _=>True) w (Flat.val tv.cW) names) (hm:pL w bm l) (hz:∀ p∈l,p.2≠0) (hn:names.length<=1073741824) :
  CR 67 [Flat.val tv,.map (some bm)] w (λ v w'=>ajZ (HJ l names) v w w'):=by
 have hs:=St.start w;have Dp:=hm.nodup;obtain ⟨es,clock,Oe,hst,aa9⟩:=hm;refine ad0 _ _ _ _ ?_;unfold S67;refine cZ hs (λ ad2 w1 hs=>Hf hs (λ b_x _ hs=>Og hs Tryz.underlying121 (AF Oe hs.aE) (λ r13 _ hs=>?_)));refine ⟨λ mm w1=>∃ (seen:Array Nat) (l1:List SI),mm=(leftOf es seen).size/\(∀ p,p∈l1↔(p∈l/\¬ p.2=4/\∃ e∈es.toList,seen.contains e.born=true/\e.key = .string p.1))/\St w bD [CA r13 bm clock seen,jy b_x l1,cP ad2 (Flat.enc tv)] w1,⟨_,#[],[],rfl,λ _=>⟨λ h=>(by cases h),λ ⟨_,_,e,_,h,_⟩=>(by simp at h)⟩,hs⟩,?_⟩;rintro mm w4 ⟨seen,l1,rfl,ZL,hs⟩ _;refine R9 hs (AF Oe hs.aE) hst.1 (λ h0=>?_) (λ e _ he hs=>?_)
 ·refine aR rfl (eu ?_);have hs:=hs.drop
  have hg:l1.Perm (l.filter λ p=>decide (¬ p.2=4)):=by
   have n1:l1.Nodup:=(List.pairwise_map.1 hs.jy.nodup).imp λ h e=>h (by rw [e]);have n2:l.Nodup:=(List.pairwise_map.1 Dp).imp λ h e=>h (by rw [e]);refine (List.perm_ext_iff_of_nodup n1 (n2.filter _)).2 λ p=>?_;rw [ZL,List.mem_filter];refine ⟨λ ⟨h1,h2,_⟩=>⟨h1,decide_eq_true h2⟩,λ ⟨h1,h2⟩=>⟨h1,of_decide_eq_true h2,?_⟩⟩;obtain ⟨e,he,h3,_⟩:=Sb aa9 h1;exact ⟨e,he,all_seen es seen h0 e he,h3⟩
  have hs:St w bD [jy b_x (l.filter λ p=>decide (¬ p.2=4)),cP ad2 (Flat.enc tv)] w4:=hs.kV λ F hF=>⟨F,⟨hF.1.perm hg,hF.2⟩,λ _ hb=>.inl hb,gM.refl _ _⟩;refine aA kX (aB lL hs.p1.hb rfl (aG nj (hf.ext hs.aE) ?_));refine ⟨λ mm i w'=>∃ (k:Nat) (g:List SI),i = .int .i64 (k:Int)/\mm=names.length - k/\k<=names.length/\HJ l names=xL g (names.drop k)/\(∀ p∈g,p.2≠0)/\St w bD [jy b_x g,cP ad2 (Flat.enc tv)] w',⟨_,0,_,rfl,rfl,Nat.zero_le _,rfl,λ p hp=>hz p (List.mem_filter.1 hp).1,hs⟩,?_⟩;rintro mm _ _ ⟨k,g,rfl,rfl,hk,zu,hzg,hs⟩ _;refine aS (aC (λ Tx=>?_) (λ Tx=>?_))
  ·obtain ⟨MH,xM⟩:=gx (names) (i:=((k:Int)).toNat) (by omega);refine aU nj (hf.ext hs.aE) (by omega) xM (λ _ Ty=>aF kp Ty (tE hs.jy Tryz.underlying121 Tryz.underlying9 rQ (cS (aC (λ aba=>.inl ⟨zu.trans (YP xM aba),rfl,hs.drop.drop.aE⟩) (λ aba=>?_)))));have hz0:cY g MH=0:=by omega
   refine Hg hs Tryz.underlying121 Tryz.underlying9 (JO hs.jy.nodup hzg hz0) (λ _ hs=>aT (by omega) ?_)
   exact ⟨_,by omega,k+1,_,rfl,rfl,by omega,zu.trans (YO xM hz0),λ p hp=>by
    rcases List.mem_append.1 hp with h | h
    ·exact hzg p h
    ·rw [List.mem_singleton.1 h]; exact (by decide:(5:Int)≠0),hs⟩
  refine .inr ⟨g,b_x,?_,rfl,hs.p1.drop.fresh⟩;rw [zu,List.drop_eq_nil_of_le (by omega)]; rfl
 refine aR rfl (gk ?_);have hm:=mem_left he;refine Oh hs (AF Oe hs.aE) hm.1 hst.2.1 ?_;obtain ⟨p0,MI,hek,cG⟩:=Oj aa9 hm.1;rw [hek,cG];refine aR rfl (aR rfl (cS ?_))
 have old:∀ q∈l1,q.1≠p0.1:=λ q hq e=>by
  obtain ⟨_,_,e2,he2,h1,h2⟩:=(ZL q).1 hq;rw [e,<- hek] at h2;obtain rfl:=key_inj hst.2.2 he2 hm.1 h2;exact absurd h1 (by simpa using hm.2)
 refine aC (λ A1=>?_) (λ A1=>?_)
 ·have hs:=hs.p1;refine Hg hs Tryz.underlying121 Tryz.underlying9 old (λ _ hs=>?_);have hs:=hs.p1;refine ⟨_,left_shrinks es seen e he,seen.push e.born,_,rfl,λ p=>?_,hs⟩;rw [List.mem_append,List.mem_singleton,ZL]
  constructor
  ·rintro (⟨h1,h2,e2,h3,h4,h5⟩ | rfl)
   ·exact ⟨h1,h2,e2,h3,by simp at h4 |-; exact .inl h4,h5⟩
   exact ⟨MI,A1,e,hm.1,by simp,hek⟩
  rintro ⟨h1,h2,e2,h3,h4,h5⟩
  rcases sC h4 with h | h
  ·exact .inl ⟨h1,h2,e2,h3,h,h5⟩
  obtain rfl:=born_inj hst.2.1 h3 hm.1 h;rw [hek] at h5; injection h5 with h5;exact .inr (Sc Dp h1 MI h5.symm)
 refine ⟨_,left_shrinks es seen e he,seen.push e.born,l1,rfl,λ p=>?_,hs⟩;rw [ZL]
 constructor
 ·rintro ⟨h1,h2,e2,h3,h4,h5⟩;exact ⟨h1,h2,e2,h3,by simp at h4 |-; exact .inl h4,h5⟩
 rintro ⟨h1,h2,e2,h3,h4,h5⟩
 rcases sC h4 with h | h
 ·exact ⟨h1,h2,e2,h3,h,h5⟩
 obtain rfl:=born_inj hst.2.1 h3 hm.1 h;rw [hek] at h5; injection h5 with h5;obtain rfl:=Sc Dp h1 MI h5.symm;exact absurd h2 A1
theorem cD {ns:List ByteArray} {s:ByteArray}:0<=cI ns s↔s∈ns:=by
 have h:=xB ns s
 rw [<- decide_eq_true_iff (p:=0<=cI ns s),h,List.any_eq_true]
 constructor
 ·rintro ⟨y,hy,e⟩; rw [<- of_decide_eq_true e]; exact hy
 intro hs; exact ⟨s,hs,decide_eq_true rfl⟩
theorem wz {ns:List ByteArray} {s:ByteArray}:cI ns s<0↔s ∉ ns:=by rw [<- cD]; omega
theorem pQ {ns:List ByteArray} {s:ByteArray} (h:s∈ns):∃ k:Nat,cI ns s=k/\ns[k]? = some s/\∀ j,j<k->ns[j]?≠some s:=by
 unfold cI pE
 cases hf:ns.findIdx? (λ y=>decide (y=s)) with
 | none=>rw [List.findIdx?_eq_none_iff] at hf; have:=hf s h; simp at this
 | some k=>
  obtain ⟨h1,h2,h3⟩:=List.findIdx?_eq_some_iff_getElem.1 hf
  refine ⟨k,rfl,?_,λ j hj he=>?_⟩
  ·rw [List.getElem?_eq_getElem h1]; exact congrArg some (of_decide_eq_true h2)
  ·have:=h3 j hj
   rw [List.getElem?_eq_getElem (by omega)] at he
   exact this (decide_eq_true (Option.some.inj he))
theorem l4 {ns:List ByteArray} {s:ByteArray} {k:Nat} (h:s∈ns):cI ns s<k↔s∈ns.take k:=by
 obtain ⟨j,h1,h2,h3⟩:=pQ h
 rw [h1]
 constructor
 ·intro hj; exact List.mem_iff_getElem?.2 ⟨j,by rw [List.getElem?_take,if_pos (by omega)]; exact h2⟩
 intro hm
 obtain ⟨i,hi⟩:=List.mem_iff_getElem?.1 hm
 rw [List.getElem?_take] at hi
 split at hi
 ·exact Classical.byContradiction λ hn=>h3 i (by omega) hi
 cases hi
theorem nodup_iff (ns:List ByteArray):ns.Nodup↔∀ (k:Nat) (s:ByteArray),ns[k]? = some s->s ∉ ns.take k:=by
 unfold List.Nodup
 rw [List.pairwise_iff_getElem]
 constructor
 ·intro h k s hk hm
  obtain ⟨i,hi⟩:=List.mem_iff_getElem?.1 hm
  rw [List.getElem?_take] at hi
  split at hi
  ·rename_i Ps
   obtain ⟨h1,h2⟩:=List.getElem?_eq_some_iff.1 hi
   obtain ⟨h3,h4⟩:=List.getElem?_eq_some_iff.1 hk
   exact h i k h1 h3 Ps (h2.trans h4.symm)
  cases hi
 intro h i j hi hj Xq he
 exact h j _ (List.getElem?_eq_getElem hj) (List.mem_iff_getElem?.2 ⟨i,by rw [List.getElem?_take,if_pos Xq,List.getElem?_eq_getElem hi,he]⟩)
theorem u9 (l:List bP):jz l=true↔¬ (l.map bP.name).Nodup:=by
 rw [nodup_iff]
 unfold jz
 rw [List.any_eq_true]
 constructor
 ·rintro ⟨j,hj,h⟩ hn
  have hj:=List.mem_range.1 hj
  have hl:l[j]? = some l[j]:=List.getElem?_eq_getElem hj
  rw [CE hl,decide_eq_true_iff] at h
  have hm:(l[j]).name∈l.map bP.name:=List.mem_map.2 ⟨_,List.getElem_mem hj,rfl⟩
  exact hn j _ (by rw [List.getElem?_map,hl]; rfl) ((l4 hm).1 h)
 intro hn
 apply Classical.byContradiction
 intro hc
 refine hn λ k s hk hm=>hc ⟨k,?_,?_⟩
 ·have:=(List.getElem?_eq_some_iff.1 hk).1; rw [List.length_map] at this; exact List.mem_range.2 this
 rw [List.getElem?_map] at hk
 obtain ⟨c,Np,rfl⟩:=Option.map_eq_some_iff.1 hk
 rw [CE Np,decide_eq_true_iff]
 exact (l4 (List.mem_of_mem_take hm)).2 hm
theorem HK (p:bQ) (rs:List ByteArray):tT p rs=true↔¬ rs.Nodup\/∃ s∈rs,s∈cM p\/s∈cC p:=by
 rw [nodup_iff]
 unfold tT
 rw [List.any_eq_true]
 constructor
 ·rintro ⟨j,hj,h⟩
  have hj:=List.mem_range.1 hj
  have hl:rs[j]? = some rs[j]:=List.getElem?_eq_getElem hj
  have hm:=List.getElem_mem hj
  rw [Ew hl] at h
  simp only [Bool.or_eq_true,decide_eq_true_eq,cD] at h
  rcases h with (h | h) | h
  ·exact .inl λ hn=>hn j _ hl ((l4 hm).1 h)
  ·exact .inr ⟨_,hm,.inl h⟩
  exact .inr ⟨_,hm,.inr h⟩
 intro hn
 rcases hn with hn | ⟨s,hs,hc⟩
 ·apply Classical.byContradiction
  intro hc
  refine hn λ k s hk hm=>hc ⟨k,List.mem_range.2 (List.getElem?_eq_some_iff.1 hk).1,?_⟩
  rw [Ew hk]
  simp only [Bool.or_eq_true,decide_eq_true_eq]
  exact .inl (.inl ((l4 (List.mem_of_mem_take hm)).2 hm))
 obtain ⟨j,hj⟩:=List.mem_iff_getElem?.1 hs
 refine ⟨j,List.mem_range.2 (List.getElem?_eq_some_iff.1 hj).1,?_⟩
 rw [Ew hj]
 simp only [Bool.or_eq_true,decide_eq_true_eq,cD]
 rcases hc with hc | hc
 ·exact .inl (.inr hc)
 exact .inr hc
def YQ (p:bQ):List (ByteArray × Int × Int):=Pu p++(Ox p++Pv p)
theorem MJ (p:bQ):yx p=vk (YQ p) ([],false,0):=by unfold yx YQ vk; rw [List.foldl_append,List.foldl_append]
theorem xN (p:bQ):(YQ p).map (·.1)=(ig p).map bP.name:=by
 unfold YQ Pu Ox Pv ig
 rw [<- wy]
 simp only [List.map_append,List.map_map,List.append_assoc]
 rfl
theorem Tz (p:bQ):∀ q∈YQ p,q.2.1≠0:=by
 intro q hq
 unfold YQ Pu Ox Pv yw at hq
 rcases List.mem_append.1 hq with hq | hq
 ·obtain ⟨c,_,rfl⟩:=List.mem_map.1 hq; dsimp only; split <;> decide
 rcases List.mem_append.1 hq with hq | hq
 ·obtain ⟨c,_,rfl⟩:=List.mem_map.1 hq; exact (by decide:(3:Int)≠0)
 obtain ⟨c,_,rfl⟩:=List.mem_map.1 hq; exact (by decide:(4:Int)≠0)
theorem TA:∀ (l:List (ByteArray × Int × Int)) (st:List SI × Bool × Int),(∀ q∈l,q.2.1≠0)->
  ((vk l st).2.1=true↔st.2.1=true\/¬ (l.map (·.1)).Nodup\/∃ q∈l,cY st.1 q.1≠0)
 | [],st,_=>by simp [vk]
 | q::r,st,hz=>by
  have ih:=TA r (Tp st q) λ q hq=>hz q (List.mem_cons_of_mem _ hq)
  have hq0:=hz q (List.mem_cons_self ..)
  have e:vk (q::r) st=vk r (Tp st q):=rfl
  rw [e,ih]
  show YH st.1 q.1 st.2.1=true\/_\/(∃ x∈r,cY (u7 st.1 q.1 q.2.1) x.1≠0)↔_
  unfold YH
  rw [List.map_cons,List.nodup_cons]
  simp only [Bool.or_eq_true,decide_eq_true_eq,xH,List.mem_map,List.mem_cons]
  constructor
  ·rintro ((h | h) | h | ⟨x,hx,h⟩)
   ·exact .inl h
   ·exact .inr (.inr ⟨q,.inl rfl,h⟩)
   ·exact .inr (.inl λ hh=>h hh.2)
   ·by_cases hxq:q.1=x.1
    ·exact .inr (.inl λ hh=>hh.1 ⟨x,hx,hxq.symm⟩)
    ·rw [if_neg hxq] at h; exact .inr (.inr ⟨x,.inr hx,h⟩)
  ·rintro (h | h | ⟨x,rfl | hx,h⟩)
   ·exact .inl (.inl h)
   ·by_cases hn:(r.map (·.1)).Nodup
    ·have:∃ x∈r,x.1=q.1:=Classical.byContradiction λ hc=>h ⟨hc,hn⟩
     obtain ⟨x,hx,he⟩:=this
     exact .inr (.inr ⟨x,hx,by rw [if_pos he.symm]; exact hq0⟩)
    ·exact .inr (.inl hn)
   ·exact .inl (.inr h)
   ·refine .inr (.inr ⟨x,hx,?_⟩)
    split
    ·exact hq0
    ·exact h
theorem TB (p:bQ):(yx p).2.1=jz (ig p):=by
 rw [Bool.eq_iff_iff,MJ,TA _ _ (Tz p),u9,xN]
 simp [cY]
theorem Kh:∀ (l:List (ByteArray × Int × Int)) (st:List SI × Bool × Int) (n:ByteArray),n ∉ l.map (·.1)->cY (vk l st).1 n=cY st.1 n
 | [],_,_,_=>rfl
 | q::r,st,n,h=>by
  rw [List.map_cons,List.mem_cons,not_or] at h
  have e:vk (q::r) st=vk r (Tp st q):=rfl
  rw [e,Kh r _ n h.2]
  show cY (u7 st.1 q.1 q.2.1) n=_
  rw [xH,if_neg λ hh=>h.1 hh.symm]
theorem A3:∀ (l:List (ByteArray × Int × Int)) (st:List SI × Bool × Int) (q:ByteArray × Int × Int),(l.map (·.1)).Nodup->q∈l->cY (vk l st).1 q.1=q.2.1
 | x::r,st,q,hn,h=>by
  rw [List.map_cons,List.nodup_cons] at hn
  have e:vk (x::r) st=vk r (Tp st x):=rfl
  rw [e]
  rcases List.mem_cons.1 h with rfl | h
  ·rw [Kh r _ _ hn.1]
   show cY (u7 st.1 q.1 q.2.1) q.1=_
   rw [xH,if_pos rfl]
  ·exact A3 r _ q hn.2 h
theorem TC:∀ (l:List (ByteArray × Int × Int)) (st:List SI × Bool × Int),(∀ q∈l,q.2.1≠0)->(∀ e∈st.1,e.2≠0)->∀ e∈(vk l st).1,e.2≠0
 | [],_,_,h=>h
 | q::r,st,hz,h=>TC r (Tp st q) (λ q hq=>hz q (List.mem_cons_of_mem _ hq)) (YF h (hz q (List.mem_cons_self ..)))
theorem Ki (p:bQ):∀ e∈(yx p).1,e.2≠0:=by
 rw [MJ]; exact TC _ _ (Tz p) λ e he=>by cases he
theorem TD:∀ (ls:List (List bP)) (k:Int) (q:bP × Int),q∈Ke k ls->k<=q.2/\q.2<k+ls.length
 | [],_,_,h=>by cases h
 | l::r,k,q,h=>by
  unfold Ke at h
  rcases List.mem_append.1 h with h | h
  ·obtain ⟨c,_,rfl⟩:=List.mem_map.1 h; simp; omega
  ·have:=TD r (k+1) q h; simp; omega
theorem TE:∀ (vs:List bP) (k:Int) (q:bP × Int),q∈IQ k vs->k<=q.2
 | [],_,_,h=>by cases h
 | v::r,k,q,h=>by
  unfold IQ at h
  rcases List.mem_cons.1 h with rfl | h
  ·exact Int.le_refl _
  ·have:=TE r (k+1) q h; omega
def oK (p:bQ):List ByteArray:=p.fr.map bP.name
def YR (p:bQ):List ByteArray:=p.threads.map bV.name
theorem HL (p:bQ):gG p=p.lines.flatten.map bP.name:=by
 unfold gG cM ju dX
 rw [List.map_append,Int.toNat_natCast,List.take_left' (by rw [List.length_map])]
theorem mI (p:bQ):cM p=gG p++oK p:=by
 rw [HL]; unfold cM ju oK; rw [List.map_append]
theorem MK (p:bQ):(ig p).map bP.name=gG p++oK p++(cC p++YR p):=by
 rw [<- mI]; unfold ig cM cC YR
 simp only [List.map_append,List.map_map,List.append_assoc]; rfl
theorem MM {p:bQ} (hn:jz (ig p)=false) (s:ByteArray) :
  cY (yx p).1 s=if 0<=cI (gG p) s then 1 else if 0<=cI (oK p) s then 2 else if 0<=cI (cC p) s then 3 else if 0<=cI (YR p) s then 4 else 0:=by
 have hd:((ig p).map bP.name).Nodup:=Classical.byContradiction λ h=>by rw [(u9 _).2 h] at hn; cases hn
 have hq:((YQ p).map (·.1)).Nodup:=by rw [xN]; exact hd
 rw [MJ]
 by_cases h1:s∈gG p
 ·rw [if_pos (cD.2 h1)]
  rw [HL,<- EH p.lines 0] at h1
  obtain ⟨c,hc,rfl⟩:=List.mem_map.1 h1
  obtain ⟨q,oe,rfl⟩:=List.mem_map.1 hc
  have hm:(q.1.name,yw p q.2,q.1.at_)∈YQ p:=List.mem_append_left _ (List.mem_map.2 ⟨q,List.mem_append_left _ oe,rfl⟩)
  have eU:=TD _ _ _ oe
  exact (A3 _ _ _ hq hm).trans (if_neg (by omega))
 rw [if_neg λ h=>h1 (cD.1 h)]
 by_cases h2:s∈oK p
 ·rw [if_pos (cD.2 h2)]
  unfold oK at h2
  rw [<- EI p.fr p.lines.length] at h2
  obtain ⟨c,hc,rfl⟩:=List.mem_map.1 h2
  obtain ⟨q,oe,rfl⟩:=List.mem_map.1 hc
  have hm:(q.1.name,yw p q.2,q.1.at_)∈YQ p:=List.mem_append_left _ (List.mem_map.2 ⟨q,List.mem_append_right _ oe,rfl⟩)
  have FB:=TE _ _ _ oe
  exact (A3 _ _ _ hq hm).trans (if_pos FB)
 rw [if_neg λ h=>h2 (cD.1 h)]
 by_cases h3:s∈cC p
 ·rw [if_pos (cD.2 h3)]
  obtain ⟨c,hc,rfl⟩:=List.mem_map.1 h3
  exact A3 _ _ (c.name,3,c.at_) hq (List.mem_append_right _ (List.mem_append_left _ (List.mem_map.2 ⟨c,hc,rfl⟩)))
 rw [if_neg λ h=>h3 (cD.1 h)]
 by_cases h4:s∈YR p
 ·rw [if_pos (cD.2 h4)]
  obtain ⟨t,ht,rfl⟩:=List.mem_map.1 h4
  exact A3 _ _ (t.name,4,t.at_) hq (List.mem_append_right _ (List.mem_append_right _ (List.mem_map.2 ⟨t,ht,rfl⟩)))
 rw [if_neg λ h=>h4 (cD.1 h),Kh _ _ _ (by rw [xN,MK]; simp [h1,h2,h3,h4])]
 rfl
end Go.Proofs.YtfkgkbhbdffckaaGreatDoor
