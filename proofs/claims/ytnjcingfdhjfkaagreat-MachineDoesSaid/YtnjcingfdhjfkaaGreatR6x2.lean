/-
  Part 2.
-/
import Derived.Test.YtnjcingfdhjfkaaGreatR6x1
set_option maxHeartbeats 8000000
set_option linter.all false
set_option maxRecDepth 100000
open ByteArray renaming mk->k9
open List renaming getElem?_eq_some_iff->l0,getElem?_eq_getElem->nT,length_append->n0,length_take->oj,append_assoc->qF,replicate->qU,append_nil->r6,length_cons->sf,take_append_drop->s6,mem_singleton->s7,length_drop->ta,length_nil->u1,getElem?_append_left->u2,ext_getElem?->wj,length_replicate->xq,getElem?_cons_succ->yV,drop_drop->Cl,nil_append->C5,length_set->DI,getElem?_eq_none_iff->Eb,getElem?_take->G5,eraseIdx_eq_take_drop_succ->H5,getElem?_drop->Iv,getElem_cons_drop->M1,size_toArray->Ng,toArray->W0,take_succ_cons->aag,zipIdx_cons->abn
open Go.Instr renaming build->n3,sliceAt->rr,box->sZ,loadAt->yv,sliceBounds->Ap,indexAt->Iy,fieldAt->KI,index->Ly,storeAt->LB,buildSlice->L2,alloc->QF,extract->U0,slice->Yu,fill->aaQ,sliceBound->abf
open Option renaming bind_some->o5,some->qa,map_some->F1,bind_eq_some_iff->PK
open Nat renaming zero_le->o6,le_refl->r4,zero_add->ve,min_eq_left->xr,le_trans->x5,mul_le_mul_right->BO,le_of_eq->HL,succ_mul->Km,add_zero->Pd,mul_le_mul->Yv,add_assoc->aaO,add_mul->abu,mod_lt->ace
open Go.Value renaming int->qs,bool->y9,slice->HJ,okWide->P0,pointer->aaN,cells->abr,string->acI
open Array renaming getElem?_eq_some_iff->N6,getElem?_modify->XZ,toArray_toList->YA,length_toList->aah,range->acY,ext'->adi
open Bool renaming false_eq_true->Pf
open Go.World renaming cell?->QM,cells?_some->aa2,setCell->acB
open Prod renaming mk->acH
namespace Go.Proofs.YtnjcingfdhjfkaaGreat
open Go.Fw
variable (w:World) (K:Value->jj)
def S148(B gw J:Value):Prop:=
 cQ (λI=>bB .lss 3 gw (i 0) λa=>cV a (I tt w) (nC B λb=>fA 143 b 2 λc=>lA 28 c w λd=>lN 28 d λe=>bA .geq 3 gw e λf=>I f w)) (λg h=>∀_:Env,
 cV g (K (i 1) h) (nC B λj=>fA 143 j 2 λk=>lA 28 k h λl=>iA 28 l gw λn=>sA 3 n J h λo=>ue (λM=>nC B λp=>fA 143 p 0 λq=>lA 28 q o λr=>lN 28 r λs=>
 bA .lss 3 gw s λt=>cV t (nC B λu=>fA 143 u 4 λv=>lA 141 v (drew o) λx=>nC B λy=>fA 143 y 0 λz=>lA 28 z (drew o) λaa=>iA 28 aa gw λab=>lA 3 ab (drew o) λac=>
 eM ji (n3 151 [(0,ac),(1,gw),(2,J)].toArray) λad=>bS 141 1 [(0,ad)] (drew o) λV E=>kA 141 v x E (aP 141 x V E λag W=>nC B λai=>fA 143 ai 4 λU=>
 sA 141 U ag W λO=>M O)) (M o)) (λal=>∀_:Env,
 K (i 0) al)))
def aCG:dG:=λi=>match i with
 | 5=>(.of [(0,[]),(1,[]),(2,[]),(3,[]),(4,[]),(5,[]),(6,[]),(7,[]),(8,[]),(9,[]),(10,[]),(11,[]),(12,[]),(13,[]),(14,[]),(15,[4]),(16,[]),(17,[]),(18,[]),(19,[])])
 | _=>.nil
theorem agd(E gw B:Value)(h:S148 w K E gw B):CR 148 [E,gw,B] w K:=
 kB 51 aCG 64 [.tmp 6] Tryz.func148 h
def S149(B U:Value):Prop:=
 cQ (λV=>bB .lss 3 U (i 0) λa=>cV a (V tt w) (cF 80 [B] w λb c=>bA .geq 3 U b λd=>V d c)) (λe f=>∀_:Env,
 cV e (K (i 1) f) (bS 141 0 [] f λg h=>nc (λM I E j=>∀_:Env,
 nC B λk=>fA 143 k 4 λl=>lA 141 l j λn=>lN 141 n λo=>bA .lss 3 E o λp=>cV p (cQ (λW=>nC B λq=>fA 143 q 4 λr=>lA 141 r j λs=>iA 141 s E λt=>
 fA 151 t 0 λu=>lA 3 u j λv=>bA .eql 3 v U λx=>cV x (nC B λy=>fA 143 y 3 λz=>lA 28 z (drew j) λaa=>nC B λab=>fA 143 ab 4 λac=>lA 141 ac (drew j) λad=>
 iA 141 ad E λae=>fA 151 ae 1 λaf=>lA 3 af (drew j) λag=>nC B λah=>fA 143 ah 4 λai=>lA 141 ai (drew j) λaj=>iA 141 aj E λak=>fA 151 ak 2 λal=>lA 3 al (drew j) λam=>
 iA 28 aa ag λan=>sA 3 an am (drew j) λao=>W I ao) (nC B λap=>fA 143 ap 4 λaq=>lA 141 aq j λar=>iA 141 ar E λO=>lA 151 O j λau=>bS 141 1 [(0,au)] j λav aw=>
 aP 141 I av aw λax ay=>W ax ay)) (λJ az=>∀_:Env,
 bB .add 3 E (i 1) λa0=>M J a0 az)) (nC B λa1=>fA 143 a1 4 λa2=>sA 141 a2 I j λa3=>K (i 0) a3)) λM=>M g (i 0) h))
def aCH:dG:=λi=>match i with
 | 8=>.run 0 22
 | _=>.nil
theorem age(E B:Value)(h:S149 w K E B):CR 149 [E,B] w K:=
 kB 70 aCH 16 [.tmp 4] Tryz.func149 h
def S150(B I E:Value):Prop:=
 aL 48 w λa b=>nC B λc=>fA 75 c 6 λd=>sA 3 d E b λe=>nC B λf=>fA 75 f 7 λg=>sA 3 g I e λh=>eM ji (n3 48 [(0,(i 16)),(1,I),(2,E)].toArray) λj=>
 sA 48 a j h λk=>lA 48 a k λr=>K r k
theorem agf(B I E:Value)(h:S150 w K B I E):CR 150 [B,I,E] w K:=
 kB 18 (λ_=>.nil) 64 [.cell 6 48] Tryz.func150 h
def S151(B l1:Value):Prop:=
 lN 99 l1 λa=>bB .eql 3 a (i 0) λb=>cV b (K (.tuple #[(i 0),tt]) w) (nC B λc=>fA 145 c 2 λd=>lA 28 d w λe=>cF 142 [l1,e] w λf g=>xT f 0 λh=>xT f 1 λj=>
 bB .eql 37 j (i 0) λk=>K (.tuple #[h,k]) g)
theorem agh(B l1:Value)(h:S151 w K B l1):CR 151 [B,l1] w K:=
 kB 23 (λ_=>.nil) 48 [.tmp 4,.tmp 5] Tryz.func151 h
def S152(E gw:Value):Prop:=
 nC E λa=>fA 148 a 1 λb=>lA 80 b w λc=>lN 80 c λd=>bB .sub 3 d (i 1) λe=>iT (λI B f=>∀_:Env,
 bB .geq 3 B (i 0) λg=>cV g (cQ (λJ=>nC E λh=>fA 148 h 1 λj=>lA 80 j f λk=>iA 80 k B λl=>fA 161 l 0 λn=>lA 3 n f λo=>bB .eql 3 o (i 3) λp=>
 cV p (nC E λq=>fA 148 q 1 λr=>lA 80 r f λs=>iA 80 s B λt=>fA 161 t 2 λu=>lA 3 u f λv=>bA .eql 3 v gw λx=>J x f) (J ff f)) (λy z=>∀_:Env,
 cV y (nC E λU=>fA 148 U 1 λab=>lA 80 ab z λV=>iA 80 V B λW=>fA 161 W 3 λO=>lA 3 O z λM=>K (.tuple #[M,tt]) z) (bB .sub 3 B (i 1) λag=>I ag z))) (
 K (.tuple #[(i 0),ff]) f)) (λI=>I e w)
theorem agi(B gw:Value)(h:S152 w K B gw):CR 152 [B,gw] w K:=
 kB 46 (λ_=>.nil) 48 [.tmp 4,.tmp 5] Tryz.func152 h
def S153(B a:Value):Prop:=
 nU ji (sZ 161 a) w λb c=>lA 161 b c λd=>cF 204 [d] c λe f=>eM ji (Op.unary .not e) λg=>cV g (K (i 1) f) (nC B λh=>fA 148 h 1 λj=>lA 80 j (drew f) λk=>
 lN 80 k λl=>nC B λn=>fA 148 n 0 λo=>lA 3 o (drew f) λp=>bA .geq 3 l p λq=>cV q (K (i 2) (drew f)) (nC B λr=>fA 148 r 1 λs=>lA 80 s (drew (drew f)) λt=>
 lA 161 b (drew (drew f)) λu=>bS 80 1 [(0,u)] (drew (drew f)) λv x=>kA 80 s t x (aP 80 t v x λy z=>nC B λE=>fA 148 E 1 λJ=>sA 80 J y z λI=>K (i 0) I)))
def aCI:dG:=λi=>match i with
 | 3=>.run 0 10
 | 5=>(.of [(0,[]),(1,[]),(2,[]),(3,[]),(4,[]),(5,[]),(6,[4]),(7,[]),(8,[]),(9,[]),(10,[])])
 | _=>.nil
theorem agj(E B:Value)(h:S153 w K E B):CR 153 [E,B] w K:=
 kB 28 aCI 16 [.tmp 4] Tryz.func153 h
def S154(B:Value):Prop:=
 bB .eql 80 B (.slice none 0 0) λa=>cV a (K (.slice none 0 0) w) (bS 80 0 [] w λb c=>aP 80 b B c λd e=>K d e)
theorem agk(B:Value)(h:S154 w K B):CR 154 [B] w K:=
 kB 8 (λ_=>.nil) 4 [.tmp 2] Tryz.func154 h
def S157(E HN:Value):Prop:=
 iT (λM B a=>∀_:Env,
 lN 24 E λb=>bA .lss 3 B b λc=>cV c (cQ (λI=>iA 24 E B λd=>fA 98 d 0 λe=>lA 9 e a λf=>cF 161 [f] a λg h=>bA .neq 4 HN g λj=>cV j (I tt h) (
 eM ji (Op.unary .not HN) λk=>cV k (iA 24 E B λl=>fA 98 l 0 λn=>lA 9 n h λo=>eM ji (lR .neq 9 false true o (Go.Value.string (k9 (#[])))) λp=>
 cV p (I tt h) (iA 24 E B λq=>fA 98 q 3 λr=>lA 3 r h λs=>cF 156 [s] h λt u=>eM ji (Op.unary .not t) λv=>cV v (I tt u) (iA 24 E B λx=>fA 98 x 2 λy=>
 lA 96 y u λz=>cF 205 [z] u λaa ab=>eM ji (Op.unary .not aa) λac=>I ac ab))) (iA 24 E B λad=>fA 98 ad 3 λae=>lA 3 ae h λaf=>cF 156 [af] h λag O=>
 eM ji (Op.unary .not ag) λai=>cV ai (I tt O) (iA 24 E B λaj=>fA 98 aj 2 λak=>lA 96 ak O λal=>cF 205 [al] O λam an=>eM ji (Op.unary .not am) λao=>
 I ao an)))) (λap aq=>∀_:Env,
 cV ap (K ff aq) (iT (λW U J=>∀_:Env,
 iA 24 E B λV=>fA 98 V 1 λau=>lA 95 au J λav=>lN 95 av λaw=>bA .lss 3 U aw λax=>cV ax (iA 24 E B λay=>fA 98 ay 1 λaz=>lA 95 az J λa0=>iA 95 a0 U λa1=>
 lA 9 a1 J λa2=>cF 161 [a2] J λa3 a4=>eM ji (Op.unary .not a3) λa5=>cV a5 (K ff a4) (bB .add 3 U (i 1) λa6=>W a6 a4)) (bB .add 3 B (i 1) λa7=>M a7 J))
 λW=>W (i 0) aq))) (K tt a)) (λM=>M (i 0) w)
theorem agl(E B:Value)(h:S157 w K E B):CR 157 [E,B] w K:=
 kB 71 (λ_=>.nil) 16 [.tmp 4] Tryz.func157 h
def aCJ:dG:=λi=>match i with
 | 4=>.run 0 5
 | 7=>(.of [(0,[]),(1,[]),(2,[]),(5,[]),(6,[]),(7,[]),(8,[]),(3,[]),(4,[]),(9,[]),(10,[]),(11,[])])
 | _=>.nil
def aCK:dG:=λi=>match i with
 | 1=>(.of [(0,[]),(1,[]),(2,[]),(3,[]),(6,[]),(7,[]),(9,[]),(10,[]),(4,[7,10]),(5,[]),(8,[10]),(11,[]),(12,[]),(13,[])])
 | 15=>(.of [(0,[]),(1,[]),(3,[]),(4,[]),(2,[4]),(5,[]),(6,[]),(7,[])])
 | _=>.nil
def S162(E M:Value):Prop:=
 bB .add 3 M (i 1) λa=>O3 (λB I O J b=>∀_:Env,
 iA 86 E M λc=>fA 166 c 0 λd=>lA 3 d b λe=>cF 163 [e] b λf g=>bA .lss 3 J f λh=>cV h (cF 162 [E,O] g λj k=>eM ji (Builtin.max_ #[3,3] 3 [I,j].toArray) λl=>
 cF 160 [E,O] k λn o=>bB .add 3 J (i 1) λp=>B l n p o) (bB .add 3 I (i 1) λq=>K q g)) (λB=>B (i 0) a (i 0) w)
theorem agm(E B:Value)(h:S162 w K E B):CR 162 [E,B] w K:=
 kB 30 (λ_=>.nil) 16 [.tmp 4] Tryz.func162 h
def S164(B:Value):Prop:=
 lN 9 B λa=>bB .gtr 3 a (i 4000) λb=>cV b (K (.tuple #[(.slice none 0 0),(i 2),(i 4000)]) w) (bS 232 0 [] w λc d=>cF 209 [B,(i 0)] d λe f=>nc (λK1 BU E g=>∀_:Env,
 lN 9 B λh=>bA .lss 3 E h λj=>cV j (eM ji (n3 242 [(3,E)].toArray) λk=>aL 242 g λJ l=>sA 242 J k l λn=>cQ (λV=>eM ji (Ly 9 B E) λo=>
 cF 206 [o] n λp q=>cV p (fA 242 J 0 λr=>sA 3 r (i 1) q λs=>iT (λW I t=>∀_:Env,
 cQ (λK4=>lN 9 B λu=>bA .lss 3 I u λv=>cV v (eM ji (Ly 9 B I) λx=>cF 206 [x] t λy z=>cV y (K4 tt z) (eM ji (Ly 9 B I) λaa=>
 cF 208 [aa] z λab ac=>K4 ab ac)) (K4 ff t)) (λad ae=>∀_:Env,
 cV ad (bB .add 3 I (i 1) λaf=>W af ae) (bA .sub 3 I E λag=>bB .gtr 3 ag (i 16) λah=>cV ah (K (.tuple #[(.slice none 0 0),(i 2),E]) ae) (V I ae)))) λW=>W E s) (
 eM ji (Ly 9 B E) λai=>cF 208 [ai] q λaj ak=>cV aj (fA 242 J 0 λal=>sA 3 al (i 2) ak λam=>iT (λK5 U an=>∀_:Env,
 cQ (λK6=>lN 9 B λao=>bA .lss 3 U ao λap=>cV ap (eM ji (Ly 9 B U) λaq=>cF 208 [aq] an λar asx=>K6 ar asx) (K6 ff an)) (λau M=>∀_:Env,
 cV au (ue (λK7=>fA 242 J 2 λaw=>lA 3 aw M λax=>bB .leq 3 ax (i 4294967296) λay=>cV ay (fA 242 J 2 λaz=>lA 3 az (drew M) λa0=>bC .mul 3 (i 10) a0 λa1=>
 eM ji (Ly 9 B U) λa2=>bB .sub 5 a2 (.int .u8 48) λa3=>eM ji (convert 5 3 a3) λa4=>bA .add 3 a1 a4 λa5=>fA 242 J 2 λa6=>sA 3 a6 a5 (drew M) λa7=>
 K7 a7) (K7 M)) (λa8=>∀_:Env,
 bB .add 3 U (i 1) λa9=>K5 a9 a8)) (fA 242 J 2 λba=>lA 3 ba M λbb=>bB .gtr 3 bb (i 4294967296) λbc=>cV bc (K (.tuple #[(.slice none 0 0),(i 4),E]) M) (V U M))))
 λK5=>K5 E am) (fA 242 J 0 λbd=>sA 3 bd (i 3) ak λbe=>cF 210 [B,E] be λbf bg=>bA .add 3 E bf λbh=>bA .eql 3 bh E λbi=>cV bi (K (.tuple #[(.slice none 0 0),(i 3),E]) bg) (
 V bh bg)))) (λO bj=>∀_:Env,
 eM ji (rr 9 B (some E) (some O) none) λbk=>fA 242 J 1 λbl=>sA 9 bl bk bj λbm=>lA 242 J bm λbn=>bS 232 1 [(0,bn)] bm λbo bp=>aP 232 BU bo bp λbq br=>
 cF 209 [B,O] br λbs bt=>K1 bq bs bt)) (K (.tuple #[BU,(i 0),(i 0)]) g)) λK1=>K1 c e f)
def aCL:dG:=λi=>match i with
 | 17=>.run 0 11
 | _=>.nil
theorem agn(B:Value)(h:S164 w K B):CR 164 [B] w K:=
 kB 107 aCL 28 [.tmp 2,.tmp 3,.tmp 4] Tryz.func164 h
def aCM:dG:=λi=>match i with
 | 1=>.run 0 17
 | _=>.nil
def aCN:dG:=λi=>match i with
 | 7=>.run 0 24
 | 8=>.run 0 13
 | _=>.nil
def aCO:dG:=λi=>match i with
 | 1=>.run 0 45
 | 3=>.run 0 26
 | _=>.nil
def aCP:dG:=λi=>match i with
 | 8=>(.of [(0,[]),(1,[]),(2,[]),(3,[]),(4,[]),(5,[]),(6,[]),(7,[1]),(8,[]),(9,[]),(10,[])])
 | 10=>.run 0 19
 | _=>.nil
def aCQ:dG:=λi=>match i with
 | 1=>.run 0 18
 | _=>.nil
def aCR:dG:=λi=>match i with
 | 2=>.run 0 10
 | 4=>.run 0 13
 | _=>.nil
def aCS:dG:=λi=>match i with
 | 1=>.run 0 15
 | _=>.nil
def S173(B a1:Value):Prop:=
 bB .eql 3 B (i 3) λa=>cV a (eM ji (Op.unary .neg a1) λb=>K (.tuple #[b,(i 0)]) w) (bB .eql 3 B (i 4) λc=>cV c (cF 218 [a1] w λd e=>eM ji (Op.unary .not d) λf=>
 cF 217 [f] e λg h=>K (.tuple #[g,(i 0)]) h) (K (.tuple #[(i 0),(i 1)]) w))
theorem ago(B a1:Value)(h:S173 w K B a1):CR 173 [B,a1] w K:=
 kB 17 (λ_=>.nil) 48 [.tmp 4,.tmp 5] Tryz.func173 h
def aCT:dG:=λi=>match i with
 | 1=>.run 0 13
 | 2=>.run 0 15
 | _=>.nil
def S175(B a1 b2:Value):Prop:=
 cQ (λI=>bB .lss 3 B (i 0) λa=>cV a (I tt w) (bB .geq 3 B (i 16) λb=>I b w)) (λc d=>∀_:Env,
 cV c (K (.tuple #[(i 0),(i 1)]) d) (cF 219 [] d λe f=>eM ji (Ly 289 e B) λg=>bB .eql 288 g .nilFunc λh=>cV h (K (.tuple #[(i 0),(i 1)]) f) (cQ (λE=>
 bB .eql 3 B (i 8) λj=>cV j (bB .eql 3 b2 (i 0) λk=>E k f) (bB .eql 3 B (i 9) λl=>cV l (bB .eql 3 b2 (i 0) λn=>E n f) (E ff f))) (λo p=>∀_:Env,
 cV o (K (.tuple #[(i 0),(i 12)]) p) (kh ji g [a1,b2] p λq r=>K (.tuple #[q,(i 0)]) r)))))
theorem agp(B a1 b2:Value)(h:S175 w K B a1 b2):CR 175 [B,a1,b2] w K:=
 kB 36 (λ_=>.nil) 192 [.tmp 6,.tmp 7] Tryz.func175 h
def aCU:dG:=λi=>match i with
 | 1=>(.of [(1,[]),(2,[]),(5,[]),(0,[2]),(3,[]),(4,[]),(6,[]),(7,[])])
 | _=>.nil
def S180(E J:Value):Prop:=
 iA 31 E J λa=>lA 129 a w λb=>aL 129 w λc d=>sA 129 c b d λe=>cQ (λB=>fA 129 c 5 λf=>lA 3 f (drew e) λg=>bB .lss 3 g (i 1) λh=>cV h (B tt (drew e)) (
 fA 129 c 5 λj=>lA 3 j (drew e) λk=>bA .gtr 3 k J λl=>cV l (B tt (drew e)) (fA 129 c 5 λn=>lA 3 n (drew e) λo=>bB .sub 3 o (i 1) λp=>iA 31 E p λq=>fA 129 q 0 λr=>
 lA 3 r (drew e) λs=>bB .neq 3 s (i 13) λt=>cV t (B tt (drew e)) (fA 129 c 5 λu=>lA 3 u (drew e) λv=>bB .sub 3 v (i 1) λx=>iA 31 E x λy=>fA 129 y 1 λz=>
 lA 3 z (drew e) λaa=>fA 129 c 1 λab=>lA 3 ab (drew e) λac=>bA .neq 3 aa ac λad=>B ad (drew e))))) (λU I=>∀_:Env,
 cV U (K ff I) (fA 129 c 5 λag=>lA 3 ag I λV=>eM ji (rr 31 E (some V) (some J) none) λai=>cF 221 [ai,(.func (Go.Fn.func 222) [].toArray [c].toArray)] I λO M=>
 eM ji (Op.unary .not O) λW=>K W M))
def aCV:dG:=λi=>match i with
 | 2=>.run 0 31
 | _=>.nil
theorem agq(E B:Value)(h:S180 w K E B):CR 180 [E,B] w K:=
 kB 49 aCV 16 [.tmp 4] Tryz.func180 h
def S181(J:Value):Prop:=
 lN 31 J λa=>nc (λE B b c=>∀_:Env,
 bA .lss 3 b a λd=>cV d (cQ (λU=>iA 31 J b λe=>lA 129 e c λf=>aL 129 c λg h=>sA 129 g f h λj=>fA 129 g 0 λk=>lA 3 k j λl=>bB .neq 3 l (i 14) λn=>
 cV n (U B j) (fA 129 g 5 λo=>lA 3 o j λp=>bB .sub 3 p (i 1) λq=>lN 28 B λr=>iT (λI s t=>∀_:Env,
 bA .lss 3 s r λu=>cV u (iA 28 B s λv=>lA 3 v t λx=>iA 31 J x λy=>fA 129 y 5 λz=>lA 3 z t λaa=>bB .sub 3 aa (i 1) λab=>cQ (λO=>bA .lss 3 ab q λac=>
 cV ac (bA .geq 3 x q λad=>O ad t) (O ff t)) (λae M=>∀_:Env,
 cV ae (K ff M) (bB .add 3 s (i 1) λag=>I ag M))) (bS 28 1 [(0,b)] t λah ai=>aP 28 B ah ai λW V=>U W V)) λI=>I (i 0) j)) (λGU al=>∀_:Env,
 bB .add 3 b (i 1) λam=>E GU am al)) (K tt c)) (λE=>E (.slice none 0 0) (i 0) w)
theorem agr(B:Value)(h:S181 w K B):CR 181 [B] w K:=
 kB 49 (λ_=>.nil) 4 [.tmp 2] Tryz.func181 h
def S189(E l1:Value):Prop:=
 lN 99 l1 λa=>bB .eql 3 a (i 0) λb=>cV b (K (.tuple #[(i 0),tt]) w) (nC E λc=>fA 122 c 3 λd=>lA 28 d w λe=>cF 110 [l1,e] w λf g=>xT f 0 λh=>xT f 1 λj=>
 ue (λB=>bB .neq 37 j (i 0) λk=>cV k (nC E λl=>fA 122 l 5 λn=>sA 3 n (i 2) g λo=>B o) (B g)) (λp=>∀_:Env,
 bB .eql 37 j (i 0) λq=>K (.tuple #[h,q]) p))
theorem ags(B l1:Value)(h:S189 w K B l1):CR 189 [B,l1] w K:=
 kB 28 (λ_=>.nil) 48 [.tmp 4,.tmp 5] Tryz.func189 h
def S190(E a b:Value):Prop:=
 nU ji (sZ 161 E) w λB c=>lA 109 a (drew c) λd=>nC d λe=>fA 197 e 1 λf=>lA 80 f (drew c) λg=>lA 3 b (drew c) λh=>iA 80 g h λj=>
 lA 161 j (drew c) λk=>lA 161 B (drew c) λl=>cF 191 [k,l] (drew c) λn o=>eM ji (Op.unary .not n) λp=>K p o
def aCW:dG:=λi=>match i with
 | 1=>.run 0 11
 | _=>.nil
theorem agt(I B E:Value)(h:S190 w K I B E):CR 190 [I,B,E] w K:=
 kB 15 aCW 16 [.tmp 4] Tryz.func190 h
def S191(a M7:Value):Prop:=
 nU ji (sZ 161 a) w λb c=>nU ji (sZ 161 M7) c λE d=>cQ (λJ=>fA 161 b 0 λe=>lA 3 e d λf=>bB .eql 3 f (i 7) λg=>cV g (
 J tt d) (fA 161 E 0 λh=>lA 3 h d λj=>bB .eql 3 j (i 7) λk=>J k d)) (λI l=>∀_:Env,
 cQ (λB=>eM ji (Op.unary .not I) λn=>cV n (fA 161 b 0 λo=>lA 3 o l λp=>bB .eql 3 p (i 6) λq=>cV q (fA 161 b 1 λr=>lA 3 r l λs=>fA 161 E 1 λt=>
 lA 3 t l λu=>bA .neq 3 s u λv=>B v l) (fA 161 E 0 λx=>lA 3 x l λy=>bB .eql 3 y (i 6) λz=>cV z (fA 161 b 1 λU=>lA 3 U l λab=>fA 161 E 1 λV=>
 lA 3 V l λW=>bA .neq 3 ab W λO=>B O l) (B ff l))) (B ff l)) (λM ag=>∀_:Env,
 K M ag))
theorem agu(B E:Value)(h:S191 w K B E):CR 191 [B,E] w K:=
 kB 33 (λ_=>.nil) 16 [.tmp 4] Tryz.func191 h
def S192(B f1:Value):Prop:=
 cF 224 [B,f1] w λa b=>bB .geq 3 a (i 0) λc=>K c b
theorem agv(B f1:Value)(h:S192 w K B f1):CR 192 [B,f1] w K:=
 kB 9 (λ_=>.nil) 16 [.tmp 4] Tryz.func192 h
def S193(B I E:Value):Prop:=
 lN 80 B λa=>eM ji (rr 80 B (some I) (some E) (some a)) λ_=>bA .eql 3 I E λb=>cV b (K B w) (lN 80 B λc=>eM ji (rr 80 B none (some I) none) λd=>
 eM ji (rr 80 B (some E) none none) λe=>aP 80 d e (drew w) λf g=>lN 80 f λh=>eM ji (rr 80 f (some h) (some c) none) λj=>nU ji (Builtin.clear_ #[80] 0 [j].toArray) g λ_ k=>
 K f k)
def aCX:dG:=λi=>match i with
 | 5=>.run 0 8
 | _=>.nil
theorem agw(I E B:Value)(h:S193 w K I E B):CR 193 [I,E,B] w K:=
 kB 33 aCX 64 [.tmp 6] Tryz.func193 h
def S194(b0 gw:Value):Prop:=
 nU ji (sZ 3 gw) w λE a=>aL 3 a λb c=>aL 4 c λd e=>nC b0 λf=>fA 197 f 1 λg=>lA 80 g e λh=>cF 225 [h] e λj k=>GS ji j 2 k (λa1 l B1 U=>
 aL 161 l λn o=>sA 161 n (XU a1 1) o λp=>B1 p λq=>cQ (λO=>fA 161 n 0 λs=>lA 3 s q λt=>bB .eql 3 t (i 3) λu=>cV u (fA 161 n 2 λv=>lA 3 v q λx=>
 lA 3 E q λy=>bA .eql 3 x y λz=>O z q) (O ff q)) (λaa J=>∀_:Env,
 cV aa (fA 161 n 3 λac=>lA 3 ac J λad=>sA 3 b ad J λae=>sA 4 d tt ae λV=>U (some .ret) V) (U none J))) (aft (λD ag=>sA 3 b (i 0) ag λah=>sA 4 d ff ah λai=>
 re (D::[]) ai λB=>lA 3 b B λr=>lA 4 d B λHH=>K (.tuple #[r,HH]) B) (λD W=>re (D::[]) W λI=>lA 3 b I λMY=>lA 4 d I λM=>K (.tuple #[MY,M]) I)
 λ_ _ _=>False)
theorem agx(B gw:Value)(h:S194 w K B gw):CR 194 [B,gw] w K:=
 kB 26 (λ_=>.nil) 48 [.cell 4 3,.cell 5 4] Tryz.func194 h
def S196(B a:Value):Prop:=
 nU ji (sZ 161 a) w λb c=>lA 161 b c λd=>cF 226 [d] c λe f=>eM ji (Op.unary .not e) λg=>cV g (K (i 1) f) (cF 123 [B] f λh j=>cV h (K (i 2) j) (
 nC B λk=>fA 197 k 1 λl=>lA 80 l (drew j) λn=>lA 161 b (drew j) λo=>bS 80 1 [(0,o)] (drew j) λp q=>kA 80 l n q (aP 80 n p q λr s=>nC B λt=>fA 197 t 1 λu=>
 sA 80 u r s λv=>K (i 0) v)))
def aCY:dG:=λi=>match i with
 | 5=>(.of [(0,[]),(1,[]),(2,[]),(3,[]),(4,[]),(5,[]),(6,[4]),(7,[]),(8,[]),(9,[]),(10,[])])
 | _=>.nil
theorem agy(E B:Value)(h:S196 w K E B):CR 196 [E,B] w K:=
 kB 22 aCY 16 [.tmp 4] Tryz.func196 h
def aCZ:dG:=λi=>match i with
 | 2=>.run 0 8
 | _=>.nil
def S198(E J:Value):Prop:=
 iA 31 E J λa=>lA 129 a w λb=>aL 129 w λc d=>sA 129 c b d λe=>cQ (λK1=>fA 129 c 0 λf=>lA 3 f e λg=>bB .eql 3 g (i 11) λh=>cV h (K1 tt e) (fA 129 c 0 λj=>
 lA 3 j e λk=>bB .eql 3 k (i 12) λl=>K1 l e)) (λn o=>∀_:Env,
 cV n (cQ (λW=>fA 129 c 5 λp=>lA 3 p o λq=>bA .gtr 3 q J λr=>cV r (fA 129 c 5 λs=>lA 3 s o λt=>lN 31 E λu=>bA .leq 3 t u λv=>W v o) (W ff o))
 (λx y=>∀_:Env,
 K x y)) (fA 129 c 0 λz=>lA 3 z o λaa=>bB .neq 3 aa (i 14) λab=>cV ab (fA 129 c 5 λac=>lA 3 ac o λad=>bB .eql 3 ad (i 0) λae=>K ae o) (cQ (λM=>fA 129 c 5 λaf=>
 lA 3 af (drew o) λag=>bB .lss 3 ag (i 1) λah=>cV ah (M tt (drew o)) (fA 129 c 5 λai=>lA 3 ai (drew o) λaj=>bA .gtr 3 aj J λak=>cV ak (M tt (drew o)) (fA 129 c 5 λal=>
 lA 3 al (drew o) λam=>bB .sub 3 am (i 1) λan=>iA 31 E an λao=>fA 129 ao 0 λap=>lA 3 ap (drew o) λaq=>bB .neq 3 aq (i 13) λar=>cV ar (M tt (drew o)) (fA 129 c 5 λV=>
 lA 3 V (drew o) λau=>bB .sub 3 au (i 1) λav=>iA 31 E av λaw=>fA 129 aw 1 λax=>lA 3 ax (drew o) λay=>fA 129 c 1 λaz=>lA 3 az (drew o) λa0=>bA .neq 3 ay a0 λa1=>
 M a1 (drew o))))) (λa2 O=>∀_:Env,
 cV a2 (K ff O) (fA 129 c 5 λa4=>lA 3 a4 O λa5=>iT (λU I B=>∀_:Env,
 bA .lss 3 I J λa7=>cV a7 (cQ (λK5=>iA 31 E I λa8=>fA 129 a8 0 λa9=>lA 3 a9 (drew B) λba=>bB .eql 3 ba (i 13) λbb=>cV bb (iA 31 E I λbc=>fA 129 bc 1 λbd=>
 lA 3 bd (drew B) λbe=>fA 129 c 1 λbf=>lA 3 bf (drew B) λbg=>bA .eql 3 be bg λbh=>K5 bh (drew B)) (K5 ff (drew B))) (λbi bj=>∀_:Env,
 cV bi (K ff bj) (bB .add 3 I (i 1) λbk=>U bk bj))) (K tt B)) λU=>U a5 O)))))
def aC0:dG:=λi=>match i with
 | 6=>.run 0 31
 | 11=>.run 0 16
 | _=>.nil
theorem agz(E B:Value)(h:S198 w K E B):CR 198 [E,B] w K:=
 kB 90 aC0 16 [.tmp 4] Tryz.func198 h
def S200(J k1:Value):Prop:=
 nc (λO M B a=>∀_:Env,
 bA .lss 3 B k1 λb=>cV b (cQ (λK2=>cQ (λK3=>iA 99 J B λc=>fA 200 c 0 λd=>lA 3 d a λe=>bB .eql 3 e (i 3) λf=>cV f (K3 tt a) (iA 99 J B λg=>
 fA 200 g 0 λh=>lA 3 h a λj=>bB .eql 3 j (i 4) λk=>K3 k a)) (λl n=>∀_:Env,
 cV l (bB .sub 3 M (i 1) λo=>K2 o n) (K2 M n))) (λI p=>∀_:Env,
 cQ (λU=>cQ (λK5=>iA 99 J B λq=>fA 200 q 0 λr=>lA 3 r p λs=>bB .geq 3 s (i 5) λt=>cV t (iA 99 J B λu=>fA 200 u 0 λv=>lA 3 v p λx=>bB .leq 3 x (i 15) λy=>
 K5 y p) (K5 ff p)) (λz V=>∀_:Env,
 cV z (bB .sub 3 I (i 2) λab=>U ab V) (U I V))) (λE W=>∀_:Env,
 bB .lss 3 E (i 0) λad=>cV ad (K (i (-1)) W) (bB .add 3 E (i 1) λae=>bB .add 3 B (i 1) λaf=>O ae af W)))) (K M a)) (λO=>O (i 0) (i 0) w)
theorem agB(E B:Value)(h:S200 w K E B):CR 200 [E,B] w K:=
 kB 49 (λ_=>.nil) 16 [.tmp 4] Tryz.func200 h
theorem akm:PL 148:=eL Tryz.func148
theorem atu:PL 149:=eL Tryz.func149
theorem akn:PL 150:=eL Tryz.func150
theorem Vy:PL 151:=eL Tryz.func151
theorem atv:PL 152:=eL Tryz.func152
theorem Vz:PL 153:=eL Tryz.func153
theorem ako:PL 154:=eL Tryz.func154
theorem aay:PL 155:=eL Tryz.func155
theorem VA:PL 156:=eL Tryz.func156
theorem akp:PL 157:=eL Tryz.func157
theorem HO:PL 158:=eL Tryz.func158
theorem atw:PL 159:=eL Tryz.func159
theorem VB:PL 160:=eL Tryz.func160
theorem xE:PL 161:=eL Tryz.func161
theorem aaz:PL 162:=eL Tryz.func162
theorem VC:PL 163:=eL Tryz.func163
theorem atx:PL 164:=eL Tryz.func164
theorem B7:PL 165:=eL Tryz.func165
theorem VD:PL 166:=eL Tryz.func166
theorem akq:PL 167:=eL Tryz.func167
theorem akr:PL 168:=eL Tryz.func168
theorem aty:PL 169:=eL Tryz.func169
theorem VE:PL 170:=eL Tryz.func170
theorem aks:PL 171:=eL Tryz.func171
theorem VF:PL 172:=eL Tryz.func172
theorem atz:PL 173:=eL Tryz.func173
theorem VG:PL 174:=eL Tryz.func174
theorem atA:PL 175:=eL Tryz.func175
theorem wB:PL 176:=eL Tryz.func176
theorem vd:PL 177:=eL Tryz.func177
theorem atB:PL 178:=eL Tryz.func178
theorem Pg:PL 179:=eL Tryz.func179
theorem atC:PL 180:=eL Tryz.func180
theorem atD:PL 181:=eL Tryz.func181
theorem atE:PL 182:=eL Tryz.func182
theorem atF:PL 183:=eL Tryz.func183
theorem atG:PL 184:=eL Tryz.func184
theorem atH:PL 185:=eL Tryz.func185
theorem atI:PL 186:=eL Tryz.func186
theorem atJ:PL 187:=eL Tryz.func187
theorem atK:PL 188:=eL Tryz.func188
theorem akt:PL 189:=eL Tryz.func189
theorem atL:PL 190:=eL Tryz.func190
theorem atM:PL 191:=eL Tryz.func191
theorem atN:PL 192:=eL Tryz.func192
theorem atO:PL 193:=eL Tryz.func193
theorem atP:PL 194:=eL Tryz.func194
theorem aku:PL 195:=eL Tryz.func195
theorem akv:PL 196:=eL Tryz.func196
theorem atQ:PL 197:=eL Tryz.func197
theorem atS:PL 198:=eL Tryz.func198
theorem atT:PL 199:=eL Tryz.func199
theorem atU:PL 200:=eL Tryz.func200
end Go.Proofs.YtnjcingfdhjfkaaGreat
namespace Go.Proofs.YtnjcingfdhjfkaaGreat
open Go.Fw
variable (w:World) (K:Value->jj)
def S201(B a1:Value):Prop:=
 bB .eql 3 B (i 3) λa=>cV a (bC .sub 3 (i 0) a1 λb=>K (.tuple #[b,(i 0)]) w) (bB .eql 3 B (i 4) λc=>cV c (bB .eql 3 a1 (i 0) λd=>cF 228 [d] w λe f=>K (.tuple #[e,(i 0)]) f) (
 K (.tuple #[(i 0),(i 1)]) w))
theorem agC(B a1:Value)(h:S201 w K B a1):CR 201 [B,a1] w K:=
 kB 15 (λ_=>.nil) 48 [.tmp 4,.tmp 5] Tryz.func201 h
def S202(B a1 b2:Value):Prop:=
 bB .eql 3 B (i 5) λa=>cV a (bA .add 3 a1 b2 λb=>K (.tuple #[b,(i 0)]) w) (bB .eql 3 B (i 6) λc=>cV c (bA .sub 3 a1 b2 λd=>K (.tuple #[d,(i 0)]) w) (bB .eql 3 B (i 7) λe=>
 cV e (bA .mul 3 a1 b2 λf=>K (.tuple #[f,(i 0)]) w) (bB .eql 3 B (i 8) λg=>cV g (bB .eql 3 b2 (i 0) λh=>cV h (K (.tuple #[(i 0),(i 12)]) w) (cF 229 [a1,b2] w λj k=>
 K (.tuple #[j,(i 0)]) k)) (bB .eql 3 B (i 9) λl=>cV l (bB .eql 3 b2 (i 0) λn=>cV n (K (.tuple #[(i 0),(i 12)]) w) (cF 229 [a1,b2] w λo p=>bA .mul 3 b2 o λq=>bA .sub 3 a1 q λr=>
 K (.tuple #[r,(i 0)]) p)) (bB .eql 3 B (i 10) λs=>cV s (bA .eql 3 a1 b2 λt=>cF 228 [t] w λu v=>K (.tuple #[u,(i 0)]) v) (bB .eql 3 B (i 11) λx=>cV x (bA .neq 3 a1 b2 λy=>
 cF 228 [y] w λz aa=>K (.tuple #[z,(i 0)]) aa) (bB .eql 3 B (i 12) λab=>cV ab (bA .lss 3 a1 b2 λac=>cF 228 [ac] w λad ae=>K (.tuple #[ad,(i 0)]) ae) (bB .eql 3 B (i 13) λM=>
 cV M (bA .leq 3 a1 b2 λag=>cF 228 [ag] w λah ai=>K (.tuple #[ah,(i 0)]) ai) (bB .eql 3 B (i 14) λU=>cV U (Lt (λI=>bB .neq 3 a1 (i 0) λO=>cV O (bB .neq 3 b2 (i 0) λal=>
 cF 228 [al] w λam an=>I am (i 0) an) (cF 228 [ff] w λao ap=>I ao (i 0) ap)) (λaq ar E=>∀_:Env,
 K (.tuple #[aq,ar]) E)) (bB .eql 3 B (i 15) λau=>cV au (Lt (λJ=>bB .neq 3 a1 (i 0) λav=>cV av (cF 228 [tt] w λV ax=>J V (i 0) ax) (bB .neq 3 b2 (i 0) λW=>
 cF 228 [W] w λaz a0=>J az (i 0) a0)) (λa2 a3 a4=>∀_:Env,
 K (.tuple #[a2,a3]) a4)) (K (.tuple #[(i 0),(i 1)]) w)))))))))))
theorem agD(B a1 b2:Value)(h:S202 w K B a1 b2):CR 202 [B,a1,b2] w K:=
 kB 84 (λ_=>.nil) 192 [.tmp 6,.tmp 7] Tryz.func202 h
def S203(a J:Value):Prop:=
 nU ji (sZ 161 a) w λb c=>nU ji (sZ 161 J) c λE d=>cQ (λB=>fA 161 b 0 λe=>lA 3 e d λf=>bB .eql 3 f (i 7) λg=>cV g (B tt d) (
 fA 161 E 0 λh=>lA 3 h d λj=>bB .eql 3 j (i 7) λk=>cV k (B tt d) (fA 161 b 1 λl=>lA 3 l d λn=>fA 161 E 1 λo=>lA 3 o d λp=>bA .eql 3 n p λq=>B q d)))
 (λr s=>∀_:Env,
 cV r (K ff s) (cQ (λI=>fA 161 b 0 λt=>lA 3 t s λu=>bB .eql 3 u (i 6) λv=>cV v (I tt s) (fA 161 E 0 λx=>lA 3 x s λy=>bB .eql 3 y (i 6) λz=>I z s))
 (λM O=>∀_:Env,
 K M O)))
theorem agE(B E:Value)(h:S203 w K B E):CR 203 [B,E] w K:=
 kB 28 (λ_=>.nil) 16 [.tmp 4] Tryz.func203 h
def S204(a:Value):Prop:=
 nU ji (sZ 161 a) w λb c=>fA 161 b 0 λd=>lA 3 d c λe=>bB .eql 3 e (i 3) λf=>cV f (cQ (λI=>fA 161 b 1 λg=>lA 3 g c λh=>bB .geq 3 h (i 0) λj=>
 cV j (fA 161 b 2 λk=>lA 3 k c λl=>bB .geq 3 l (i 0) λn=>I n c) (I ff c)) (λo p=>∀_:Env,
 K o p)) (cQ (λJ=>fA 161 b 2 λq=>lA 3 q c λr=>bB .neq 3 r (i 0) λs=>cV s (J tt c) (fA 161 b 3 λt=>lA 3 t c λu=>bB .neq 3 u (i 0) λv=>J v c)) (λx y=>∀_:Env,
 cV x (K ff y) (cQ (λB=>fA 161 b 0 λz=>lA 3 z y λaa=>bB .eql 3 aa (i 5) λab=>cV ab (fA 161 b 1 λac=>lA 3 ac y λad=>bB .geq 3 ad (i 0) λae=>cV ae (B tt y) (
 fA 161 b 0 λM=>lA 3 M y λag=>bB .eql 3 ag (i 7) λah=>cV ah (fA 161 b 1 λai=>lA 3 ai y λU=>bB .eql 3 U (i 0) λO=>B O y) (B ff y))) (fA 161 b 0 λal=>
 lA 3 al y λam=>bB .eql 3 am (i 6) λan=>cV an (fA 161 b 1 λao=>lA 3 ao y λap=>bB .geq 3 ap (i 0) λaq=>cV aq (B tt y) (fA 161 b 0 λar=>lA 3 ar y λE=>bB .eql 3 E (i 7) λau=>
 cV au (fA 161 b 1 λav=>lA 3 av y λV=>bB .eql 3 V (i 0) λax=>B ax y) (B ff y))) (fA 161 b 0 λW=>lA 3 W y λaz=>bB .eql 3 az (i 7) λa0=>cV a0 (fA 161 b 1 λa1=>
 lA 3 a1 y λa2=>bB .eql 3 a2 (i 0) λa3=>B a3 y) (B ff y)))) (λa4 a5=>∀_:Env,
 K a4 a5))))
theorem agF(B:Value)(h:S204 w K B):CR 204 [B] w K:=
 kB 45 (λ_=>.nil) 4 [.tmp 2] Tryz.func204 h
def S205(B:Value):Prop:=
 lN 96 B λa=>bB .gtr 3 a (i 40) λb=>cV b (K ff w) (iT (λE I c=>∀_:Env,
 lN 96 B λd=>bA .lss 3 I d λe=>cV e (iA 96 B I λf=>lA 173 f c λg=>cF 230 [g] c λh j=>eM ji (Op.unary .not h) λk=>cV k (K ff j) (bB .add 3 I (i 1) λl=>
 E l j)) (cF 231 [B,(i 0)] c λn o=>cQ (λJ=>bB .geq 3 n (i 0) λp=>cV p (bB .leq 3 n (i 12) λq=>J q o) (J ff o)) (λr s=>∀_:Env,
 K r s))) λE=>E (i 0) w)
theorem agG(B:Value)(h:S205 w K B):CR 205 [B] w K:=
 kB 28 (λ_=>.nil) 4 [.tmp 2] Tryz.func205 h
def aC1:dG:=λi=>match i with
 | 10=>.run 0 7
 | _=>.nil
def aC2:dG:=λi=>match i with
 | 2=>.run 0 17
 | 6=>.run 0 12
 | 8=>.run 0 9
 | 9=>.run 0 12
 | _=>.nil
def aC3:dG:=λi=>match i with
 | 5=>.run 0 8
 | 7=>.run 0 9
 | 9=>.run 0 9
 | 10=>.run 0 8
 | _=>.nil
def aC4:dG:=λi=>match i with
 | 5=>.run 0 17
 | _=>.nil
def S219:Prop:=
 aL 289 w λa b=>aL 289 b λl1 c=>iA 289 l1 (i 5) λd=>sA 288 d (.func (.func 238) #[] #[]) c λe=>iA 289 l1 (i 6) λf=>sA 288 f (.func (.func 239) #[] #[]) e λg=>
 iA 289 l1 (i 7) λh=>sA 288 h (.func (.func 240) #[] #[]) g λj=>iA 289 l1 (i 8) λk=>sA 288 k (.func (.func 241) #[] #[]) j λl=>iA 289 l1 (i 9) λn=>sA 288 n (.func (.func 242) #[] #[]) l λo=>
 kh ji (.func (.func 236) #[] #[]) [(.func (.func 243) #[] #[])] o λp q=>iA 289 l1 (i 10) λs=>sA 288 s p q λt=>kh ji (.func (.func 236) #[] #[]) [(.func (.func 244) #[] #[])] t λu v=>
 iA 289 l1 (i 11) λx=>sA 288 x u v λy=>kh ji (.func (.func 236) #[] #[]) [(.func (.func 245) #[] #[])] y λz aa=>iA 289 l1 (i 12) λab=>sA 288 ab z aa λac=>
 kh ji (.func (.func 236) #[] #[]) [(.func (.func 246) #[] #[])] ac λad U=>iA 289 l1 (i 13) λJ=>sA 288 J ad U λag=>kh ji (.func (.func 236) #[] #[]) [(.func (.func 247) #[] #[])] ag λW ai=>
 iA 289 l1 (i 14) λM=>sA 288 M W ai λI=>kh ji (.func (.func 236) #[] #[]) [(.func (.func 248) #[] #[])] I λal O=>iA 289 l1 (i 15) λV=>sA 288 V al O λE=>
 lA 289 l1 E λap=>sA 289 a ap E λB=>lA 289 a B λr=>K r B
theorem agH(h:S219 w K):CR 219 [] w K:=
 kB 27 (λ_=>.nil) 1 [.cell 0 289] Tryz.func219 h
def S222(I a:Value):Prop:=
 nU ji (sZ 129 I) w λE b=>cQ (λB=>fA 129 E 0 λc=>lA 3 c b λd=>bB .eql 3 d (i 13) λe=>cV e (fA 129 E 1 λf=>lA 3 f b λg=>fA 129 a 1 λh=>
 lA 3 h b λj=>bA .eql 3 g j λk=>B k b) (B ff b)) (λl n=>∀_:Env,
 K l n)
theorem agI(B E:Value)(h:S222 w K B E):CR 222 [B,E] w K:=
 kB 14 (λ_=>.nil) 8 [.tmp 3] Tryz.func222 h
def S224(E f1:Value):Prop:=
 lN 80 E λa=>iT (λB b c=>∀_:Env,
 bA .lss 3 b a λd=>cV d (iA 80 E b λe=>lA 161 e c λf=>kh ji f1 [f] c λg h=>cV g (K b h) (bB .add 3 b (i 1) λj=>B j h)) (K (i (-1)) c)) (λB=>B (i 0) w)
theorem agJ(B f1:Value)(h:S224 w K B f1):CR 224 [B,f1] w K:=
 kB 19 (λ_=>.nil) 16 [.tmp 4] Tryz.func224 h
def S225(E:Value):Prop:=
 nU ji (sZ 80 E) w λB a=>K (.func (Go.Fn.func 250) [].toArray [B].toArray) a
theorem agK(B:Value)(h:S225 w K B):CR 225 [B] w K:=
 kB 4 (λ_=>.nil) 4 [.tmp 2] Tryz.func225 h
def S226(a:Value):Prop:=
 nU ji (sZ 161 a) w λb c=>fA 161 b 0 λd=>lA 3 d c λe=>bB .eql 3 e (i 3) λf=>cV f (cQ (λE=>fA 161 b 1 λg=>lA 3 g c λh=>bB .geq 3 h (i 0) λj=>
 cV j (fA 161 b 2 λk=>lA 3 k c λl=>bB .geq 3 l (i 0) λn=>E n c) (E ff c)) (λo p=>∀_:Env,
 K o p)) (cQ (λI=>bB .eql 3 e (i 5) λq=>cV q (I q c) (bB .eql 3 e (i 6) λr=>I r c)) (λs t=>∀_:Env,
 cV s (cQ (λB=>fA 161 b 1 λu=>lA 3 u t λv=>bB .geq 3 v (i 0) λx=>cV x (fA 161 b 2 λy=>lA 3 y t λz=>bB .eql 3 z (i 0) λU=>cV U (fA 161 b 3 λab=>
 lA 3 ab t λV=>bB .eql 3 V (i 0) λW=>B W t) (B ff t)) (B ff t)) (λM J=>∀_:Env,
 K M J)) (lA 161 b t λag=>eM ji (n3 161 [(0,(i 7))].toArray) λO=>bA .eql 161 ag O λai=>K ai t)))
theorem agL(B:Value)(h:S226 w K B):CR 226 [B] w K:=
 kB 34 (λ_=>.nil) 4 [.tmp 2] Tryz.func226 h
def S231(M I:Value):Prop:=
 nc (λK1 n5 O a=>∀_:Env,
 lN 96 M λb=>bA .lss 3 O b λc=>cV c (iA 96 M O λd=>lA 173 d a λe=>aL 173 a λf g=>sA 173 f e g λh=>cQ (λJ=>fA 173 f 6 λj=>lA 3 j h λk=>bB .lss 3 k (i 0) λl=>
 cV l (J tt h) (fA 173 f 7 λn=>lA 3 n h λo=>bB .lss 3 o (i 0) λp=>cV p (J tt h) (fA 173 f 6 λq=>lA 3 q h λr=>bB .gtr 3 r (i 40) λs=>cV s (J tt h) (fA 173 f 7 λt=>
 lA 3 t h λu=>bB .gtr 3 u (i 40) λv=>cV v (J tt h) (bB .add 3 O (i 1) λx=>fA 173 f 6 λy=>lA 3 y h λz=>bA .add 3 x z λaa=>fA 173 f 7 λab=>lA 3 ab h λac=>
 bA .add 3 aa ac λad=>lN 96 M λae=>bA .gtr 3 ad ae λaf=>J af h))))) (λag B=>∀_:Env,
 cV ag (K (i (-1)) B) (cQ (λE=>fA 173 f 6 λai=>lA 3 ai B λaj=>bB .gtr 3 aj (i 0) λak=>cV ak (fA 173 f 0 λal=>lA 3 al B λam=>bB .neq 3 am (i 11) λan=>
 cV an (fA 173 f 0 λao=>lA 3 ao B λap=>bB .neq 3 ap (i 12) λaq=>cV aq (E tt B) (fA 173 f 7 λar=>lA 3 ar B λasx=>bB .gtr 3 asx (i 0) λau=>cV au (fA 173 f 0 λav=>
 lA 3 av B λaw=>bB .neq 3 aw (i 11) λax=>cV ax (E tt B) (fA 173 f 0 λay=>lA 3 ay B λaz=>bB .eql 3 az (i 13) λa0=>cV a0 (bB .eql 3 I (i 0) λa1=>E a1 B) (
 E ff B))) (fA 173 f 0 λa2=>lA 3 a2 B λa3=>bB .eql 3 a3 (i 13) λa4=>cV a4 (bB .eql 3 I (i 0) λa5=>E a5 B) (E ff B)))) (fA 173 f 7 λa6=>lA 3 a6 B λa7=>
 bB .gtr 3 a7 (i 0) λa8=>cV a8 (fA 173 f 0 λa9=>lA 3 a9 B λba=>bB .neq 3 ba (i 11) λbb=>cV bb (E tt B) (fA 173 f 0 λbc=>lA 3 bc B λbd=>bB .eql 3 bd (i 13) λbe=>
 cV be (bB .eql 3 I (i 0) λbf=>E bf B) (E ff B))) (fA 173 f 0 λbg=>lA 3 bg B λbh=>bB .eql 3 bh (i 13) λbi=>cV bi (bB .eql 3 I (i 0) λbj=>E bj B) (
 E ff B)))) (fA 173 f 7 λbk=>lA 3 bk B λbl=>bB .gtr 3 bl (i 0) λbm=>cV bm (fA 173 f 0 λbn=>lA 3 bn B λbo=>bB .neq 3 bo (i 11) λbp=>cV bp (E tt B) (fA 173 f 0 λbq=>
 lA 3 bq B λbr=>bB .eql 3 br (i 13) λbs=>cV bs (bB .eql 3 I (i 0) λbt=>E bt B) (E ff B))) (fA 173 f 0 λbu=>lA 3 bu B λbv=>bB .eql 3 bv (i 13) λbw=>
 cV bw (bB .eql 3 I (i 0) λbx=>E bx B) (E ff B)))) (λbz V=>∀_:Env,
 cV bz (K (i (-1)) V) (bB .add 3 O (i 1) λb1=>fA 173 f 6 λb2=>lA 3 b2 (drew V) λb3=>bA .add 3 b1 b3 λb4=>cQ (λK4=>fA 173 f 0 λb5=>lA 3 b5 (drew V) λb6=>
 bB .eql 3 b6 (i 12) λb7=>cV b7 (bB .add 3 I (i 1) λb8=>K4 b8 (drew V)) (K4 I (drew V))) (λU b9=>∀_:Env,
 cQ (λK5=>cQ (λK6=>fA 173 f 0 λca=>lA 3 ca b9 λcb=>bB .eql 3 cb (i 11) λcc=>cV cc (K6 tt b9) (fA 173 f 0 λcd=>lA 3 cd b9 λce=>bB .eql 3 ce (i 12) λcf=>
 K6 cf b9)) (λcg W=>∀_:Env,
 cV cg (bB .add 3 O (i 1) λci=>eM ji (rr 96 M (some ci) (some b4) none) λcj=>fA 173 f 7 λck=>lA 3 ck (drew W) λcl=>bA .add 3 b4 cl λcm=>eM ji (rr 96 M (some b4) (some cm) none) λcn=>
 cF 231 [cj,U] (drew W) λco cp=>kA 3 ck cl cp (cF 231 [cn,U] cp λcq cr=>cQ (λK7=>bB .lss 3 co (i 0) λcs=>cV cs (K7 tt cr) (bB .lss 3 cq (i 0) λct=>K7 ct cr))
 (λcu cv=>∀_:Env,
 cV cu (K (i (-1)) cv) (bC .add 3 (i 1) co λcw=>bC .add 3 (i 1) cq λcx=>eM ji (Builtin.max_ #[3,3,3] 3 [n5,cw,cx].toArray) λcy=>K5 cy cv)))) (K5 n5 W))) (λagA cz=>∀_:Env,
 fA 173 f 7 λc0=>lA 3 c0 cz λc1=>bA .add 3 b4 c1 λc2=>K1 agA c2 cz))))))) (K n5 a)) (λK1=>K1 (i 0) (i 0) w)
def aC5:dG:=λi=>match i with
 | 8=>.run 0 8
 | 12=>(.of [(0,[]),(1,[]),(2,[]),(3,[]),(4,[]),(5,[]),(7,[]),(8,[]),(9,[]),(10,[]),(11,[]),(12,[]),(13,[]),(14,[]),(6,[11]),(15,[]),(16,[]),(17,[])])
 | _=>.nil
theorem agM(E B:Value)(h:S231 w K E B):CR 231 [E,B] w K:=
 kB 135 aC5 16 [.tmp 4] Tryz.func231 h
def S233(p0 Ph E0:Value):Prop:=
 nC p0 λa=>fA 304 a 0 λb=>lA 232 b (drew w) λc=>nC p0 λd=>fA 304 d 1 λe=>lA 3 e (drew w) λf=>cF 215 [c,f] (drew w) λg h=>nc (λK1 B U j=>∀_:Env,
 bB .leq 3 U (i 14) λk=>cV k (cQ (λK2=>nC p0 λl=>fA 304 l 0 λn=>lA 232 n (drew j) λo=>nC p0 λp=>fA 304 p 1 λq=>lA 3 q (drew j) λr=>cF 253 [U] (drew j) λs t=>
 kA 232 n o t (kA 3 q r t (cF 211 [o,r,s] t λu v=>cV u (K2 U v) (K2 B v)))) (λagN x=>∀_:Env,
 bB .add 3 U (i 1) λy=>K1 agN y x)) (cQ (λK3=>bB .eql 3 B (i 13) λz=>cV z (bB .eql 3 E0 (i 0) λaa=>K3 aa j) (K3 ff j)) (λab M=>∀_:Env,
 cV ab (cF 254 [p0,(i 5)] M λ_ ad=>K (.tuple #[]) ad) (ue (λK4=>bB .neq 3 B (i 1) λae=>cV ae (nC p0 λaf=>fA 304 af 1 λag=>lA 3 ag M λah=>bB .add 3 ah (i 1) λai=>
 nC p0 λaj=>fA 304 aj 1 λak=>sA 3 ak ai M λal=>K4 al) (K4 M)) (λam=>∀_:Env,
 cF 255 [p0,B,g] am λan ao=>aL 173 ao λJ aq=>sA 173 J an aq λO=>nC p0 λasx=>fA 304 asx 4 λau=>lA 96 au O λav=>lN 96 av λaw=>nC p0 λax=>fA 304 ax 4 λay=>
 lA 96 ay (drew O) λaz=>lA 173 J (drew O) λa0=>bS 96 1 [(0,a0)] (drew O) λa1 a2=>kA 96 ay az a2 (aP 96 az a1 a2 λa3 a4=>nC p0 λa5=>fA 304 a5 4 λa6=>sA 96 a6 a3 a4 λa7=>
 cQ (λK5=>bB .neq 3 B (i 11) λa8=>cV a8 (bB .neq 3 B (i 12) λa9=>K5 a9 a7) (K5 ff a7)) (λba V=>∀_:Env,
 cV ba (cF 234 [p0,(Go.Value.string (k9 (#[59])))] V λ_ bc=>K (.tuple #[]) bc) (cQ (λK6=>bB .eql 3 B (i 12) λbd=>cV bd (bB .add 3 E0 (i 1) λbe=>
 K6 be V) (K6 E0 V)) (λI bf=>∀_:Env,
 bB .add 3 Ph (i 1) λbg=>cF 256 [p0,bg,I] bf λbh bi=>fA 173 J 6 λbj=>sA 3 bj bh bi λE=>ue (λK7=>cQ (λK8=>bB .eql 3 B (i 11) λbl=>cV bl (
 nC p0 λbm=>fA 304 bm 2 λbn=>lA 37 bn (drew E) λbo=>bB .eql 37 bo (i 0) λbp=>cV bp (nC p0 λbq=>fA 304 bq 0 λbr=>lA 232 br (drew E) λbs=>nC p0 λbt=>
 fA 304 bt 1 λbu=>lA 3 bu (drew E) λbv=>cF 211 [bs,bv,(Go.Value.string (k9 (#[101,108,115,101])))] (drew E) λbw bx=>K8 bw bx) (K8 ff (drew E))) (K8 ff (drew E)))
 (λbz b0=>∀_:Env,
 cV bz (nC p0 λb1=>fA 304 b1 1 λb2=>lA 3 b2 b0 λb3=>bB .add 3 b3 (i 1) λb4=>nC p0 λb5=>fA 304 b5 1 λb6=>sA 3 b6 b4 b0 λb7=>bB .add 3 Ph (i 1) λb8=>
 cF 256 [p0,b8,I] b7 λb9 ca=>fA 173 J 7 λcb=>sA 3 cb b9 ca λcc=>K7 cc) (K7 b0))) (λW=>∀_:Env,
 nC p0 λce=>fA 304 ce 4 λcf=>lA 96 cf (drew W) λcg=>lA 173 J (drew W) λch=>iA 96 cg aw λci=>sA 173 ci ch (drew W) λcj=>K (.tuple #[]) cj)))))))))) (λK1=>K1 (i 1) (i 2) h)
def aC6:dG:=λi=>match i with
 | 0=>.run 0 11
 | 4=>(.of [(0,[]),(1,[]),(2,[]),(3,[]),(4,[]),(5,[]),(6,[]),(7,[]),(8,[]),(9,[3,7]),(10,[])])
 | 12=>(.of [(0,[]),(1,[]),(2,[]),(3,[]),(4,[]),(5,[]),(6,[4]),(7,[]),(8,[]),(9,[]),(10,[])])
 | 19=>.run 0 20
 | 22=>.run 0 8
 | _=>.nil
theorem agO(p0 E B:Value)(h:S233 w K p0 E B):CR 233 [p0,E,B] w K:=
 kB 134 aC6 0 [] Tryz.func233 h
def aC7:dG:=λi=>match i with
 | 0=>.run 0 17
 | _=>.nil
def S235(M i1 VH J:Value):Prop:=
 aL 307 w λa b=>bB .eql 3 J (i 5) λc=>cV c (cF 257 [M,i1,VH] b λd e=>sA 307 a d e λf=>lA 307 a f λr=>K r f) (bB .add 3 J (i 1) λg=>cF 235 [M,i1,VH,g] b λh j=>
 aL 307 j λk l=>sA 307 k h l λn=>Vt (λW o=>∀_:Env,
 fA 307 k 2 λp=>lA 37 p o λq=>bB .eql 37 q (i 0) λs=>cV s (nc (λU I E t=>∀_:Env,
 cF 258 [J] t λu v=>lN 28 u λx=>bA .lss 3 E x λy=>cV y (cQ (λK3=>fA 307 k 1 λz=>lA 3 z (drew v) λaa=>cF 258 [J] (drew v) λab O=>kA 3 z aa O (iA 28 ab E λad=>
 lA 3 ad O λae=>cF 259 [ae] O λaf ag=>kA 3 z aa ag (cF 211 [M,aa,af] ag λah ai=>cV ah (cF 258 [J] ai λaj ak=>iA 28 aj E λal=>lA 3 al ak λam=>K3 am ak) (
 K3 I ai)))) (λanG an=>∀_:Env,
 bB .add 3 E (i 1) λao=>U anG ao an)) (bB .eql 3 I (i 0) λap=>cV ap (lA 307 k v λaq=>sA 307 a aq v λar=>lA 307 a ar λHH=>K HH ar) (fA 307 k 1 λasx=>
 lA 3 asx v λau=>bB .add 3 au (i 1) λav=>bB .add 3 J (i 1) λaw=>cF 235 [M,av,VH,aw] v λax ay=>aL 307 ay λB az=>sA 307 B ax az λa0=>fA 307 B 2 λa1=>
 lA 37 a1 a0 λa2=>bB .neq 37 a2 (i 0) λa3=>cV a3 (lA 307 B a0 λa4=>sA 307 a a4 a0 λa5=>lA 307 a a5 λMY=>K MY a5) (fA 307 k 1 λa6=>lA 3 a6 a0 λa7=>iA 232 M a7 λa8=>
 fA 242 a8 3 λa9=>lA 3 a9 a0 λba=>eM ji (n3 166 [(0,I),(3,ba)].toArray) λbb=>bS 86 1 [(0,bb)] a0 λbc bd=>fA 307 k 0 λbe=>lA 86 be bd λbf=>
 aP 86 bc bf bd λbg bh=>fA 307 B 0 λbi=>lA 86 bi bh λbj=>aP 86 bg bj bh λbk bl=>fA 307 B 1 λbm=>lA 3 bm bl λbn=>eM ji (n3 307 [(0,bk),(1,bn)].toArray) λbo=>
 sA 307 k bo bl λbp=>bB .eql 3 J (i 2) λbq=>cV bq (lA 307 k bp λbr=>sA 307 a br bp λbs=>lA 307 a bs λV=>K V bs) (W bp))))) λU=>U (i 0) (i 0) o) (
 lA 307 k o λbt=>sA 307 a bt o λbu=>lA 307 a bu λr_4=>K r_4 bu)) λW=>W n)
def aC8:dG:=λi=>match i with
 | 9=>(.of [(0,[]),(1,[]),(2,[]),(3,[]),(5,[]),(4,[2]),(6,[]),(7,[]),(8,[2]),(9,[])])
 | _=>.nil
theorem agP(B J I E:Value)(h:S235 w K B J I E):CR 235 [B,J,I,E] w K:=
 kB 91 aC8 256 [.cell 8 307] Tryz.func235 h
def S250(I a:Value):Prop:=
 lA 80 a w λb=>lN 80 b λc=>bB .sub 3 c (i 1) λd=>iT (λE B e=>∀_:Env,
 bB .geq 3 B (i 0) λf=>cV f (lA 80 a e λg=>iA 80 g B λh=>lA 161 h e λj=>kh ji I [B,j] e λk l=>eM ji (Op.unary .not k) λn=>cV n (K (.tuple #[]) l) (
 bB .sub 3 B (i 1) λo=>E o l)) (K (.tuple #[]) e)) (λE=>E d w)
theorem agQ(B E:Value)(h:S250 w K B E):CR 250 [B,E] w K:=
 kB 19 (λ_=>.nil) 0 [] Tryz.func250 h
def S251(B:Value):Prop:=
 cQ (λE=>bB .lss 3 B (i 1) λa=>cV a (E tt w) (bB .gtr 3 B (i 14) λb=>E b w)) (λc d=>∀_:Env,
 cV c (K (Go.Value.string (k9 (#[]))) d) (bS 95 15 [(0,(Go.Value.string (k9 (#[])))),(1,(Go.Value.string (k9 (#[114,101])))),(2,(Go.Value.string (k9 (#[114,110])))),(3,(Go.Value.string (k9 (#[110,101])))),(4,(Go.Value.string (k9 (#[114,110,101,102])))),(5,(Go.Value.string (k9 (#[110])))),(6,(Go.Value.string (k9 (#[110])))),(7,(Go.Value.string (k9 (#[])))),(8,(Go.Value.string (k9 (#[])))),(9,(Go.Value.string (k9 (#[110])))),(10,(Go.Value.string (k9 (#[110])))),(11,(Go.Value.string (k9 (#[101,98])))),(12,(Go.Value.string (k9 (#[107,98])))),(13,(Go.Value.string (k9 (#[])))),(14,(Go.Value.string (k9 (#[101]))))] d λe f=>
 iA 95 e B λg=>lA 9 g f λh=>K h f))
theorem agR(B:Value)(h:S251 w K B):CR 251 [B] w K:=
 kB 13 (λ_=>.nil) 4 [.tmp 2] Tryz.func251 h
def aC9:dG:=λi=>match i with
 | 2=>.run 0 10
 | 4=>.run 0 13
 | _=>.nil
def aDa:dG:=λi=>match i with
 | 2=>.run 0 13
 | 5=>.run 0 17
 | _=>.nil
def S257(B E W:Value):Prop:=
 aL 307 w λa b=>lN 232 B λc=>bA .geq 3 E c λd=>cV d (cF 263 [B,E,(i 6)] b λe f=>sA 307 a e f λg=>lA 307 a g λr=>K r g) (cQ (λK1=>cF 211 [B,E,(Go.Value.string (k9 (#[33])))] b λh j=>
 cV h (K1 tt j) (cF 211 [B,E,(Go.Value.string (k9 (#[45])))] j λk l=>K1 k l)) (λU n=>∀_:Env,
 cF 211 [B,E,(Go.Value.string (k9 (#[40])))] n λo p=>cQ (λK2=>cV U (bB .eql 3 W (i 12) λq=>K2 q p) (cV o (bB .eql 3 W (i 12) λs=>K2 s p) (K2 ff p)))
 (λt u=>∀_:Env,
 cV t (cF 263 [B,E,(i 7)] u λv x=>sA 307 a v x λy=>lA 307 a y λHH=>K HH y) (cV U (bB .add 3 E (i 1) λz=>bB .add 3 W (i 1) λaa=>cF 257 [B,z,aa] u λab ac=>
 aL 307 ac λM ae=>sA 307 M ab ae λJ=>fA 307 M 2 λag=>lA 37 ag J λah=>bB .neq 37 ah (i 0) λai=>cV ai (lA 307 M J λaj=>sA 307 a aj J λak=>lA 307 a ak λMY=>
 K MY ak) (cQ (λK3=>iA 232 B E λal=>fA 242 al 1 λam=>lA 9 am J λan=>eM ji (lR .eql 9 false true an (Go.Value.string (k9 (#[45])))) λao=>
 cV ao (K3 (i 3) J) (K3 (i 4) J)) (λaaA ap=>∀_:Env,
 iA 232 B E λaq=>fA 242 aq 3 λar=>lA 3 ar ap λasx=>eM ji (n3 166 [(0,aaA),(3,asx)].toArray) λau=>bS 86 1 [(0,au)] ap λav aw=>fA 307 M 0 λax=>
 lA 86 ax aw λay=>aP 86 av ay aw λaz a0=>fA 307 M 0 λa1=>sA 86 a1 az a0 λa2=>lA 307 M a2 λa3=>sA 307 a a3 a2 λa4=>lA 307 a a4 λr_3=>K r_3 a4))) (cV o (
 bB .add 3 E (i 1) λa5=>bB .add 3 W (i 1) λa6=>cF 235 [B,a5,a6,(i 0)] u λa7 a8=>aL 307 a8 λI ba=>sA 307 I a7 ba λO=>fA 307 I 2 λbc=>lA 37 bc O λbd=>
 bB .neq 37 bd (i 0) λbe=>cV be (lA 307 I O λbf=>sA 307 a bf O λbg=>lA 307 a bg λr_4=>K r_4 bg) (fA 307 I 1 λbh=>lA 3 bh O λbi=>cF 211 [B,bi,(Go.Value.string (k9 (#[41])))] O λbj V=>
 eM ji (Op.unary .not bj) λbl=>cV bl (fA 307 I 1 λbm=>lA 3 bm V λbn=>cF 263 [B,bn,(i 5)] V λbo bp=>sA 307 a bo bp λbq=>lA 307 a bq λr_5=>K r_5 bq) (
 fA 307 I 1 λbr=>lA 3 br V λbs=>bB .add 3 bs (i 1) λbt=>fA 307 I 1 λbu=>sA 3 bu bt V λbv=>lA 307 I bv λbw=>sA 307 a bw bv λbx=>lA 307 a bx λr_6=>
 K r_6 bx))) (iA 232 B E λbz=>fA 242 bz 0 λb0=>lA 3 b0 u λb1=>bB .eql 3 b1 (i 2) λb2=>cV b2 (iA 232 B E λb3=>fA 242 b3 2 λb4=>lA 3 b4 (drew u) λb5=>
 iA 232 B E λb6=>fA 242 b6 3 λb7=>lA 3 b7 (drew u) λb8=>eM ji (n3 166 [(0,(i 1)),(1,b5),(3,b8)].toArray) λb9=>bB .add 3 E (i 1) λca=>bS 86 1 [(0,b9)] (drew u) λcb cc=>
 eM ji (n3 307 [(0,cb),(1,ca)].toArray) λcd=>sA 307 a cd cc λce=>lA 307 a ce λr_7=>K r_7 ce) (cQ (λK4=>iA 232 B E λcf=>fA 242 cf 0 λcg=>
 lA 3 cg u λch=>bB .eql 3 ch (i 1) λci=>cV ci (iA 232 B E λcj=>fA 242 cj 1 λck=>lA 9 ck u λcl=>cF 161 [cl] u λcm cn=>K4 cm cn) (K4 ff u)) (λco cp=>∀_:Env,
 cV co (iA 232 B E λcq=>fA 242 cq 1 λcr=>lA 9 cr (drew cp) λcs=>iA 232 B E λct=>fA 242 ct 3 λcu=>lA 3 cu (drew cp) λcv=>eM ji (n3 166 [(0,(i 2)),(2,cs),(3,cv)].toArray) λcw=>
 bB .add 3 E (i 1) λcx=>bS 86 1 [(0,cw)] (drew cp) λcy cz=>eM ji (n3 307 [(0,cy),(1,cx)].toArray) λc0=>sA 307 a c0 cz λc1=>lA 307 a c1 λr_8=>
 K r_8 c1) (cF 263 [B,E,(i 5)] cp λc2 c3=>sA 307 a c2 c3 λc4=>lA 307 a c4 λr_9=>K r_9 c4)))))))))
def aDb:dG:=λi=>match i with
 | 27=>(.of [(0,[]),(1,[]),(2,[]),(3,[]),(4,[]),(5,[]),(6,[]),(7,[]),(8,[]),(9,[]),(10,[]),(12,[]),(13,[]),(11,[]),(14,[]),(15,[])])
 | 29=>(.of [(0,[]),(1,[]),(2,[]),(3,[]),(4,[]),(5,[]),(6,[]),(7,[]),(8,[]),(9,[]),(10,[]),(12,[]),(13,[]),(11,[]),(14,[]),(15,[])])
 | _=>.nil
theorem agS(I E B:Value)(h:S257 w K I E B):CR 257 [I,E,B] w K:=
 kB 152 aDb 64 [.cell 6 307] Tryz.func257 h
def aDc:dG:=λi=>match i with
 | 1=>.run 0 45
 | 3=>.run 0 13
 | _=>.nil
def aDd:dG:=λi=>match i with
 | 3=>.run 0 18
 | _=>.nil
def aDe:dG:=λi=>match i with
 | 1=>.run 0 31
 | 2=>.run 0 12
 | _=>.nil
def S263(E J M:Value):Prop:=
 aL 307 w λa b=>cQ (λI=>lN 232 E λc=>bA .geq 3 J c λd=>cV d (I (i 6) b) (I M b)) (λB e=>∀_:Env,
 cF 215 [E,J] e λf g=>eM ji (n3 307 [(2,B),(3,f)].toArray) λh=>sA 307 a h g λj=>lA 307 a j λr=>K r j)
theorem agT(B I E:Value)(h:S263 w K B I E):CR 263 [B,I,E] w K:=
 kB 16 (λ_=>.nil) 64 [.cell 6 307] Tryz.func263 h
theorem akw:PL 201:=eL Tryz.func201
theorem atX:PL 202:=eL Tryz.func202
theorem atY:PL 203:=eL Tryz.func203
theorem atZ:PL 204:=eL Tryz.func204
theorem akx:PL 205:=eL Tryz.func205
theorem VI:PL 206:=eL Tryz.func206
theorem at1:PL 207:=eL Tryz.func207
theorem VJ:PL 208:=eL Tryz.func208
theorem aky:PL 209:=eL Tryz.func209
theorem at3:PL 210:=eL Tryz.func210
theorem zz:PL 211:=eL Tryz.func211
theorem aaB:PL 212:=eL Tryz.func212
theorem at4:PL 213:=eL Tryz.func213
theorem akz:PL 214:=eL Tryz.func214
theorem LC:PL 215:=eL Tryz.func215
theorem at5:PL 216:=eL Tryz.func216
theorem akA:PL 217:=eL Tryz.func217
theorem Pj:PL 218:=eL Tryz.func218
theorem at7:PL 219:=eL Tryz.func219
theorem aua:PL 220:=eL Tryz.func220
theorem aub:PL 221:=eL Tryz.func221
theorem auc:PL 222:=eL Tryz.func222
theorem aud:PL 223:=eL Tryz.func223
theorem aue:PL 224:=eL Tryz.func224
theorem auf:PL 225:=eL Tryz.func225
theorem aug:PL 226:=eL Tryz.func226
theorem Pk:PL 227:=eL Tryz.func227
theorem Dn:PL 228:=eL Tryz.func228
theorem akB:PL 229:=eL Tryz.func229
theorem auh:PL 230:=eL Tryz.func230
theorem aaC:PL 231:=eL Tryz.func231
theorem akC:PL 232:=eL Tryz.func232
theorem akD:PL 233:=eL Tryz.func233
theorem B8:PL 234:=eL Tryz.func234
theorem VK:PL 235:=eL Tryz.func235
theorem LD:PL 236:=eL Tryz.func236
theorem LF:PL 237:=eL Tryz.func237
theorem aui:PL 238:=eL Tryz.func238
theorem auj:PL 239:=eL Tryz.func239
theorem auk:PL 240:=eL Tryz.func240
theorem aul:PL 241:=eL Tryz.func241
theorem aum:PL 242:=eL Tryz.func242
theorem aun:PL 243:=eL Tryz.func243
theorem auo:PL 244:=eL Tryz.func244
theorem aup:PL 245:=eL Tryz.func245
theorem auq:PL 246:=eL Tryz.func246
theorem aur:PL 247:=eL Tryz.func247
theorem aus:PL 248:=eL Tryz.func248
theorem aut:PL 249:=eL Tryz.func249
theorem auu:PL 250:=eL Tryz.func250
theorem auv:PL 251:=eL Tryz.func251
theorem Pl:PL 252:=eL Tryz.func252
theorem auw:PL 253:=eL Tryz.func253
theorem LG:PL 254:=eL Tryz.func254
theorem auy:PL 255:=eL Tryz.func255
theorem akE:PL 256:=eL Tryz.func256
theorem akF:PL 257:=eL Tryz.func257
theorem aaD:PL 258:=eL Tryz.func258
theorem auz:PL 259:=eL Tryz.func259
theorem HQ:PL 260:=eL Tryz.func260
theorem Pm:PL 261:=eL Tryz.func261
theorem auA:PL 262:=eL Tryz.func262
theorem VL:PL 263:=eL Tryz.func263
end Go.Proofs.YtnjcingfdhjfkaaGreat
namespace Go.Fw
def uE(w:World)(b:Nat)(cs:List Value):Prop:=∃B,w.heap[b]?=some (.cells cs.toArray B (0,0))
def Cell(w:World)(b o:Nat)(v:Value):Prop:=w.cell? ⟨b,o,none⟩=some v
structure js(A:Nat->Prop)(w w':World):Prop where
 os:w'.os=w.os
 tape:w'.tape=w.tape
 output:w'.output=w.output
 size:w.heap.size<=w'.heap.size
 cI:∀b,b<w.heap.size->¬ A b->w'.heap[b]?=w.heap[b]?
def aY:Nat->Prop:=λ_=>False
abbrev Ext(w w':World):Prop:=js aY w w'
def js.refl(A:Nat->Prop)(w:World):js A w w:=⟨rfl,rfl,rfl,r4 _,λ_ _ _=>rfl⟩
def js.trans{A B C:Nat->Prop}{w I M:World}(h:js A w I)(k:js B I M)(U:∀b,A b->C b)(O:∀b,b<w.heap.size->B b->C b):js C w M:=
 ⟨k.os.trans h.os,k.tape.trans h.tape,k.output.trans h.output,x5 h.size k.size,λb hb J=>
  (k.cI b (Nat.lt_of_lt_of_le hb h.size) λE=>J (O b hb E)).trans (h.cI b hb λE=>J (U b E))⟩
theorem js.then{A:Nat->Prop}{w B E:World}(h:js A w B)(k:Ext B E):js A w E:=h.trans k (λ_ h=>h) λ_ _ h=>h.elim
def js.mono{A B:Nat->Prop}{w w':World}(h:js A w w')(E:∀b,A b->B b):js B w w':=⟨h.os,h.tape,h.output,h.size,λb hb I=>h.cI b hb λx=>I (E b x)⟩
def Ext.refl(w:World):Ext w w:=js.refl _ _
def Ext.trans{w B E:World}(h:Ext w B)(k:Ext B E):Ext w E:=js.then h k
def Ext.aE{A:Nat->Prop}{w w':World}(h:Ext w w'):js A w w':=h.mono λ_ h=>h.elim
theorem Ext.drew(w:World):Ext w (drew w):=⟨rfl,rfl,rfl,r4 _,λ_ _ _=>rfl⟩
def js.below{w w':World}(h:Ext w w'):Go.RowKit.Below w.heap.size w w':=⟨h.os,h.tape,h.output,h.size,λb hb=>h.cI b hb λx=>x⟩
def vf{w:World}{b:Nat}{o:Obj}(h:w.heap[b]?=some o):b<w.heap.size:=(N6.1 h).1
def uE.lt{w:World}{b:Nat}{cs:List Value}(h:uE w b cs):b<w.heap.size:=vf h.choose_spec
def Cell.lt{w:World}{b o:Nat}{v:Value}(h:Cell w b o v):b<w.heap.size:=by
 unfold Cell QM at h
 grind
def Cell.of_eq{w w':World}{b o:Nat}{v:Value}(h:Cell w b o v)(B:w'.heap[b]?=w.heap[b]?):Cell w' b o v:=by
 unfold Cell QM at *
 grind
def uE.of_eq{w w':World}{b:Nat}{cs:List Value}(h:uE w b cs)(B:w'.heap[b]?=w.heap[b]?):uE w' b cs:=by
 grind[uE]
def Cell.aE{A:Nat->Prop}{w w':World}{b o:Nat}{v:Value}(h:Cell w b o v)(hc:js A w w')(B:¬ A b):Cell w' b o v:=h.of_eq (hc.cI b h.lt B)
theorem Cell.ext{w w':World}{b o:Nat}{v:Value}(h:Cell w b o v)(hc:Ext w w'):Cell w' b o v:=h.aE hc (λx=>x)
def uE.cell{w:World}{b o:Nat}{cs:List Value}{v:Value}(h:uE w b cs)(B:cs[o]?=some v):Cell w b o v:=by
 obtain⟨E,h⟩:=h
 unfold Cell QM
 grind
def uE.frozen{w:World}{b o:Nat}{cs:List Value}(h:uE w b cs):w.frozen? ⟨b,o,none⟩=false:=by
 obtain⟨B,h⟩:=h
 unfold World.frozen?
 grind
def M9(w:World)(b o:Nat)(v:Value)(k:Nat)(h:k≠b):(w.setCell ⟨b,o,none⟩ v).heap[k]?=w.heap[k]?:=by
 simp only[acB,XZ]
 grind
def uE.setCell{w:World}{b o:Nat}{cs:List Value}(h:uE w b cs)(v:Value):uE (w.setCell ⟨b,o,none⟩ v) b (cs.set o v):=by
 obtain⟨B,h⟩:=h
 refine⟨B,?_⟩
 simp only[acB,XZ,if_true,h]
 simp
def js.setCell(w:World)(b o:Nat)(v:Value):js (· = b) w (w.setCell ⟨b,o,none⟩ v):=
 ⟨rfl,rfl,rfl,by simp_all,λk _ B=>M9 w b o v k B⟩
def push(w:World)(o:Obj):World:={w with heap:=w.heap.push o}
def E1(w:World)(o:Obj)(k:Nat)(h:k<w.heap.size):(push w o).heap[k]?=w.heap[k]?:=by
 grind[push]
def tu(w:World)(o:Obj):(push w o).heap[w.heap.size]?=some o:=by
 grind[push]
theorem LH(w:World)(o:Obj):(push w o).heap.size=w.heap.size+1:=by simp[push]
theorem Ext.push(w:World)(o:Obj):Ext w (push w o):=⟨rfl,rfl,rfl,by rw[LH];omega,λb hb _=>E1 w o b hb⟩
theorem uE.push(w:World)(cs:List Value)(B:TypeId):uE (push w (.cells cs.toArray B)) w.heap.size cs:=⟨B,tu _ _⟩
structure HP where
 p:World->(Nat->Prop)->Prop
 loc:∀w w' F,p w F->(∀b,F b->w'.heap[b]?=w.heap[b]?)->p w' F
 lt:∀w F b,p w F->F b->b<w.heap.size
def cI(b:Nat)(cs:List Value):HP where
 p w F:=uE w b cs/\∀k,F k↔k=b
 loc w w' F h hh:=⟨h.1.of_eq (hh b ((h.2 b).2 rfl)),h.2⟩
 lt w F b' h hb:=by rw[(h.2 b').1 hb];exact h.1.lt
def vg(w0:World)(A:Nat->Prop):List HP->World->(Nat->Prop)->Prop
 | [],_,U=>∀b,¬ U b
 | H::L,w,U=>∃F B,H.p w F/\(∀b,F b->A b\/w0.heap.size<=b)/\(∀b,F b->¬ B b)/\(∀b,U b↔F b\/B b)/\vg w0 A L w B
structure St(w0:World)(A:Nat->Prop)(L:List HP)(w:World):Prop where
 aE:js A w0 w
 xa:∃U,vg w0 A L w U
theorem vg.lt{w0:World}{A:Nat->Prop}{L:List HP}{w:World}{U:Nat->Prop}(h:vg w0 A L w U):∀b,U b->b<w.heap.size:=by
 induction L generalizing U with
 | nil=>intro b hb;exact(h b hb).elim
 | cons H L B=>
  obtain⟨F,E,h1,h2,h3,h4,h5⟩:=h
  intro b hb
  rcases(h4 b).1 hb with hf|hu
  .exact H.lt _ _ _ h1 hf
  .exact B h5 b hu
theorem vg.loc{w0:World}{A:Nat->Prop}{L:List HP}{w w':World}{U:Nat->Prop}(h:vg w0 A L w U)(B:∀b,U b->w'.heap[b]?=w.heap[b]?):vg w0 A L w' U:=by
 induction L generalizing U with
 | nil=>exact h
 | cons H L I=>
  obtain⟨F,E,h1,h2,h3,h4,h5⟩:=h
  exact⟨F,E,H.loc _ _ _ h1 λb hb=>B b ((h4 b).2 (.inl hb)),h2,h3,h4,I h5 λb hb=>B b ((h4 b).2 (.inr hb))⟩
def St.start(w:World):St w aY [] w:=⟨js.refl _ _,aY,λ_ h=>h⟩
def St.begin{w:World}{F:Nat->Prop}{H:HP}(h:H.p w F):St w F [H] w:=
 ⟨js.refl _ _,F,F,aY,h,λ_ h=>.inl h,λ_ _ h=>h,λ_=>⟨.inl,λh=>h.elim id λh=>h.elim⟩,λ_ h=>h⟩
theorem St.ext{w0:World}{A:Nat->Prop}{L:List HP}{w w':World}(h:St w0 A L w)(e:Ext w w'):St w0 A L w':=by
 obtain⟨U,B⟩:=h.xa
 exact⟨h.aE.then e,U,B.loc λb hb=>e.cI b (B.lt b hb) λx=>x⟩
theorem St.drew{w0:World}{A:Nat->Prop}{L:List HP}{w:World}(h:St w0 A L w):St w0 A L (drew w):=h.ext (Ext.drew w)
def St.new{w0:World}{A:Nat->Prop}{L:List HP}{w w':World}{H:HP}{F:Nat->Prop}(h:St w0 A L w)(e:Ext w w')(M:H.p w' F)(O:∀b,F b->w.heap.size<=b):St w0 A (H::L) w':=by
 obtain⟨U,V⟩:=(h.ext e).xa
 obtain⟨E,B⟩:=h.xa
 have I:vg w0 A L w' E:=B.loc λb hb=>e.cI b (B.lt b hb) (λx=>x)
 refine⟨(h.ext e).aE,λb=>F b\/E b,F,E,M,λb hb=>.inr ?_,λb hb J=>?_,λb=>Iff.rfl,I⟩
 .exact x5 h.aE.size (O b hb)
 have:=B.lt b J;grind
def St.wk{w0:World}{A:Nat->Prop}{L:List HP}{w w':World}{H H':HP}(h:St w0 A (H::L) w)
  (W:∀F,H.p w F->∃E,H'.p w' E/\(∀b,E b->F b\/w.heap.size<=b)/\js F w w'):St w0 A (H'::L) w':=by
 obtain⟨U,F,J,h1,h2,h3,h4,h5⟩:=h.xa
 obtain⟨E,V,M,I⟩:=W F h1
 refine⟨h.aE.trans I (λ_ h=>h) λb hb B=>?_,λb=>E b\/J b,E,J,V,λb hb=>?_,λb hb O=>?_,λb=>Iff.rfl,?_⟩
 .grind
 .rcases M b hb with B|B
  .grind
  exact .inr (x5 h.aE.size B)
 .rcases M b hb with B|B
  .grind
  have:=h5.lt b O;omega
 exact h5.loc λb hb=>I.cI b (h5.lt b hb) λB=>h3 b B hb
def St.drop{w0:World}{A:Nat->Prop}{L:List HP}{w:World}{H:HP}(h:St w0 A (H::L) w):St w0 A L w:=by
 obtain⟨U,F,B,h1,h2,h3,h4,h5⟩:=h.xa
 exact⟨h.aE,B,h5⟩
def St.swap{w0:World}{A:Nat->Prop}{L:List HP}{w:World}{H H':HP}(h:St w0 A (H::H'::L) w):St w0 A (H'::H::L) w:=by
 obtain⟨U,F,V,h1,h2,h3,h4,E,B,J,M,O,g4,I⟩:=h.xa
 refine⟨h.aE,U,E,λb=>F b\/B b,J,M,λb hb=>?_,λb=>?_,F,B,h1,h2,λb hb W=>?_,λb=>Iff.rfl,I⟩
 .grind
 .grind
 grind
def vg.swap{w0:World}{A:Nat->Prop}{L:List HP}{w:World}{H H':HP}{U:Nat->Prop}(h:vg w0 A (H::H'::L) w U):vg w0 A (H'::H::L) w U:=by
 obtain⟨F,V,h1,h2,h3,h4,E,B,J,M,O,g4,I⟩:=h
 refine⟨E,λb=>F b\/B b,J,M,λb hb=>?_,λb=>?_,F,B,h1,h2,λb hb W=>?_,λb=>Iff.rfl,I⟩
 .grind
 .grind
 grind
def vg.under{w0:World}{A:Nat->Prop}{L L':List HP}{w:World}{H:HP}{U:Nat->Prop}(B:∀U,vg w0 A L w U->vg w0 A L' w U)(h:vg w0 A (H::L) w U):vg w0 A (H::L') w U:=by
 grind[vg]
theorem vg.pull{w0:World}{A:Nat->Prop}{B E:List HP}{w:World}{H:HP}{U:Nat->Prop}(h:vg w0 A (B++H::E) w U):vg w0 A (H::(B++E)) w U:=by
 induction B generalizing U with
 | nil=>exact h
 | cons X B I=>exact vg.swap (vg.under (λU h=>I h) h)
def St.pull{w0:World}{A:Nat->Prop}{w:World}(B:List HP){H:HP}{E:List HP}(h:St w0 A (B++H::E) w):St w0 A (H::(B++E)) w:=by
 obtain⟨U,I⟩:=h.xa
 exact⟨h.aE,U,I.pull⟩
def St.p1{w0:World}{A:Nat->Prop}{w:World}{B H:HP}{R:List HP}(h:St w0 A (B::H::R) w):St w0 A (H::B::R) w:=St.pull [B] h
def St.p2{w0:World}{A:Nat->Prop}{w:World}{E B H:HP}{R:List HP}(h:St w0 A (E::B::H::R) w):St w0 A (H::E::B::R) w:=St.pull [E,B] h
def St.p3{w0:World}{A:Nat->Prop}{w:World}{E B I H:HP}{R:List HP}(h:St w0 A (E::B::I::H::R) w):St w0 A (H::E::B::I::R) w:=St.pull [E,B,I] h
def St.p4{w0:World}{A:Nat->Prop}{w:World}{E B I J H:HP}{R:List HP}(h:St w0 A (E::B::I::J::H::R) w):St w0 A (H::E::B::I::J::R) w:=St.pull [E,B,I,J] h
def St.p5{w0:World}{A:Nat->Prop}{w:World}{E B I J P4 H:HP}{R:List HP}(h:St w0 A (E::B::I::J::P4::H::R) w):St w0 A (H::E::B::I::J::P4::R) w:=St.pull [E,B,I,J,P4] h
def St.p6{w0:World}{A:Nat->Prop}{w:World}{E B I J P4 P5 H:HP}{R:List HP}(h:St w0 A (E::B::I::J::P4::P5::H::R) w):St w0 A (H::E::B::I::J::P4::P5::R) w:=St.pull [E,B,I,J,P4,P5] h
def St.p7{w0:World}{A:Nat->Prop}{w:World}{E B I J P4 P5 P6 H:HP}{R:List HP}(h:St w0 A (E::B::I::J::P4::P5::P6::H::R) w):St w0 A (H::E::B::I::J::P4::P5::P6::R) w:=St.pull [E,B,I,J,P4,P5,P6] h
def St.p8{w0:World}{A:Nat->Prop}{w:World}{E B J M P4 P5 P6 I H:HP}{R:List HP}(h:St w0 A (E::B::J::M::P4::P5::P6::I::H::R) w):St w0 A (H::E::B::J::M::P4::P5::P6::I::R) w:=St.pull [E,B,J,M,P4,P5,P6,I] h
def St.p9{w0:World}{A:Nat->Prop}{w:World}{E B J M P4 P5 P6 I P8 H:HP}{R:List HP}(h:St w0 A (E::B::J::M::P4::P5::P6::I::P8::H::R) w):St w0 A (H::E::B::J::M::P4::P5::P6::I::P8::R) w:=St.pull [E,B,J,M,P4,P5,P6,I,P8] h
def St.uU{w0:World}{A:Nat->Prop}{w:World}{E B J M P4 P5 P6 I P8 P9 H:HP}{R:List HP}(h:St w0 A (E::B::J::M::P4::P5::P6::I::P8::P9::H::R) w):St w0 A (H::E::B::J::M::P4::P5::P6::I::P8::P9::R) w:=St.pull [E,B,J,M,P4,P5,P6,I,P8,P9] h
def St.p11{w0:World}{A:Nat->Prop}{w:World}{E B J M P4 P5 P6 I P8 P9 ZN H:HP}{R:List HP}(h:St w0 A (E::B::J::M::P4::P5::P6::I::P8::P9::ZN::H::R) w):St w0 A (H::E::B::J::M::P4::P5::P6::I::P8::P9::ZN::R) w:=St.pull [E,B,J,M,P4,P5,P6,I,P8,P9,ZN] h
def St.p12{w0:World}{A:Nat->Prop}{w:World}{I B J M P4 P5 P6 E P8 P9 ZN P11 H:HP}{R:List HP}(h:St w0 A (I::B::J::M::P4::P5::P6::E::P8::P9::ZN::P11::H::R) w):St w0 A (H::I::B::J::M::P4::P5::P6::E::P8::P9::ZN::P11::R) w:=St.pull [I,B,J,M,P4,P5,P6,E,P8,P9,ZN,P11] h
def St.p13{w0:World}{A:Nat->Prop}{w:World}{I B J M P4 P5 P6 E P8 P9 ZN P11 P12 H:HP}{R:List HP}(h:St w0 A (I::B::J::M::P4::P5::P6::E::P8::P9::ZN::P11::P12::H::R) w):St w0 A (H::I::B::J::M::P4::P5::P6::E::P8::P9::ZN::P11::P12::R) w:=St.pull [I,B,J,M,P4,P5,P6,E,P8,P9,ZN,P11,P12] h
def St.p0{w0:World}{A:Nat->Prop}{w:World}{L:List HP}(h:St w0 A L w):St w0 A L w:=h
def St.head{w0:World}{A:Nat->Prop}{L:List HP}{w:World}{H:HP}(h:St w0 A (H::L) w):∃F,H.p w F/\∀b,F b->A b\/w0.heap.size<=b:=by
 obtain⟨U,F,B,h1,h2,_⟩:=h.xa;grind
theorem St.hb{w0:World}{A:Nat->Prop}{L:List HP}{w:World}{b:Nat}{cs:List Value}(h:St w0 A (cI b cs::L) w):uE w b cs:=by
 obtain⟨F,h1,_⟩:=h.head;exact h1.1
def vh:Value->Bool
 | .agg _=>false
 | .tuple _=>false
 | _=>true
def cY(P:Program)(T:TypeId):Option (Bool×Nat):=
 match P.underlying T with
 | some d=>(P.info? T).map λi=>(match d with|.struct _|.array _ _=>true|_=>false,i.size)
 | none=>none
def aT(P:Program)(T f:Nat):Option (Nat×Option Bool):=
 match P.underlying T with
 | some (.struct E)=>(E[f]?).map λB=>(B.offset,(P.info? B.type).map λi=>i.size != 0)
 | _=>none
def gg(P:Program)(T:TypeId):Option (TypeId×Nat×Nat×Option Nat):=
 match P.underlying T with
 | some (.slice E)=>(P.info? E).map λi=>(E,i.size,i.bytes,i.zero.map λz=>z.cells.size)
 | _=>none
def fC(P:Program)(T:TypeId):Option (Option Value):=(P.info? T).map λi=>i.zero
abbrev aaE(P:Program)(T:TypeId):Prop:=cY P T=some (false,1)
abbrev agU(P:Program)(T:TypeId)(n:Nat):Prop:=cY P T=some (true,n)
abbrev Cv(P:Program)(T f B:Nat):Prop:=aT P T f=some (B,some true)
abbrev SlT(P:Program)(T E n bytes:Nat):Prop:=gg P T=some (E,n,bytes,some n)
abbrev ug(P:Program)(T:TypeId)(z:Value):Prop:=fC P T=some (some z)
theorem qH{P:Program}{T:TypeId}{i:TypeInfo}(h:P.info? T=some i):pr P (typeInfo T)=some i:=by
 show pr P (match P.info? T with|some i => pure i|none => stuck "no such type")=_
 rw[h];rfl
theorem dC{P:Program}{T:TypeId}{d:TypeDesc}(h:P.underlying T=some d):pr P (underlying T)=some d:=by
 show pr P (match P.underlying T with|some d => pure d|none => stuck "no such type")=_
 rw[h];rfl
theorem qI{P:Program}{T:TypeId}{i:TypeInfo}(h:P.info? T=some i):pr P (sizeOf T)=some i.size:=by
 unfold sizeOf;rw[cX,qH h];rfl
theorem yG{P:Program}{α β:Type}(m:Sem α)(f:α->β):pr P (do pure (f (<- m)))=(pr P m).map f:=by
 rw[cX];cases pr P m<;>rfl
theorem l6{P:Program}{T:TypeId}{a:Bool}{n:Nat}(h:cY P T=some (a,n)):pr P (isAgg T)=some a/\pr P (sizeOf T)=some n:=by
 unfold cY at h
 cases hd:P.underlying T with
 | none=>grind
 | some d=>
  rw[hd]at h
  cases hi:P.info? T with
  | none=>grind
  | some i=>
   rw[hi]at h
   simp only[F1,qa.injEq,acH.injEq]at h
   obtain⟨h1,h2⟩:=h
   refine⟨?_,by rw[qI hi,h2]⟩
   unfold isAgg
   rw[cX,dC hd]
   show pr P (match d with|.struct _|.array _ _=>pure true|_=>pure false)=_
   rw[<- h1]
   cases d<;>rfl
theorem iC{P:Program}{T E n B:Nat}{z:Option Nat}(h:gg P T=some (E,n,B,z)) :
  P.underlying T=some (.slice E)/\∃i,P.info? E=some i/\i.size=n/\i.bytes=B/\i.zero.map (λz=>z.cells.size)=z:=by
 unfold gg at h
 split at h
 .rename_i E' hE
  cases hi:P.info? E' with
  | none=>grind
  | some i=>
   grind
 cases h
section
variable {P:Program}{w:World}
theorem pop{m:Sem Value}{v:Value}{K:Value->Prop}(h:pr P m=some v)(k:K v):eM P m K:=⟨v,h,k⟩
theorem aD{a:Addr}{K:Value->Prop}(k:K (.pointer (some a))):eM P (XN (.pointer (some a))) K:=⟨_,rfl,k⟩
theorem bV{b:Bool}{K:Value->Prop}(k:K (.bool (!b))):eM P (Op.unary .not (.bool b)) K:=⟨_,rfl,k⟩
theorem HS{p:Prop}[Decidable p]{K:Value->Prop}(k:K (.bool (decide (¬ p)))):eM P (Op.unary .not (.bool (decide p))) K:=by
 refine bV ?_
 grind
theorem bD{vs:List Value}{i:Nat}{v:Value}{K:Value->Prop}(h:vs[i]?=some v)(k:K v):eM P (U0 (.tuple vs.toArray) i) K:=
 ⟨v,by simp only[U0,List.getElem?_toArray,h];rfl,k⟩
theorem aK{T:Nat}{cx cy:Bool}{a b:Int}{K:Value->Prop}(k:K (.bool (decide (a<b)))):eM P (lR .lss T cx cy (jK a) (jK b)) K:=⟨_,rfl,k⟩
theorem gL{T:Nat}{cx cy:Bool}{a b:Int}{K:Value->Prop}(k:K (.bool (decide (a<=b)))):eM P (lR .leq T cx cy (jK a) (jK b)) K:=⟨_,rfl,k⟩
theorem cG{T:Nat}{cx cy:Bool}{a b:Int}{K:Value->Prop}(k:K (.bool (decide (b<a)))):eM P (lR .gtr T cx cy (jK a) (jK b)) K:=⟨_,rfl,k⟩
theorem cN{T:Nat}{cx cy:Bool}{a b:Int}{K:Value->Prop}(k:K (.bool (decide (b<=a)))):eM P (lR .geq T cx cy (jK a) (jK b)) K:=⟨_,rfl,k⟩
theorem aH{T:Nat}{cx cy:Bool}{a b:Int}{K:Value->Prop}(k:K (.bool (decide (a=b)))):eM P (lR .eql T cx cy (jK a) (jK b)) K:=⟨_,rfl,k⟩
theorem bQ{T:Nat}{cx cy:Bool}{a b:Int}{K:Value->Prop}(k:K (.bool (decide (a≠b)))):eM P (lR .neq T cx cy (jK a) (jK b)) K:=
 ⟨_,(show pr P (lR .neq T cx cy (jK a) (jK b))=some (.bool (decide (a≠b)))from by
  show some (y9 (a != b))=_
  grind),k⟩
theorem aN{T:Nat}{cx cy:Bool}{a b:Int}{K:Value->Prop}(h : -9223372036854775808<=a+b/\a+b<=9223372036854775807)(k:K (jK (a+b))) :
  eM P (lR .add T cx cy (jK a) (jK b)) K:=
 ⟨_,(show pr P (lR .add T cx cy (jK a) (jK b))=some (jK (a+b))from by
  show some (qs .i64 (IntKind.i64.wrap (a+b)))=_
  rw[IntWalk.i64_in _ h]),k⟩
theorem eW{T:Nat}{cx cy:Bool}{a b:Int}{K:Value->Prop}(h : -9223372036854775808<=a-b/\a-b<=9223372036854775807)(k:K (jK (a-b))) :
  eM P (lR .sub T cx cy (jK a) (jK b)) K:=
 ⟨_,(show pr P (lR .sub T cx cy (jK a) (jK b))=some (jK (a-b))from by
  show some (qs .i64 (IntKind.i64.wrap (a-b)))=_
  rw[IntWalk.i64_in _ h]),k⟩
theorem Na{T:Nat}{cx cy:Bool}{a b:Int}{K:Value->Prop}(h : -9223372036854775808<=a*b/\a*b<=9223372036854775807)(k:K (jK (a*b))) :
  eM P (lR .mul T cx cy (jK a) (jK b)) K:=
 ⟨_,(show pr P (lR .mul T cx cy (jK a) (jK b))=some (jK (a*b))from by
  show some (qs .i64 (IntKind.i64.wrap (a*b)))=_
  rw[IntWalk.i64_in _ h]),k⟩
theorem aC{p:Prop}[Decidable p]{A B:Prop}(h1:p->A)(h2:¬ p->B):B5 (.bool (decide p)) A B:=
 ⟨_,rfl,λh=>h1 (hU h),λh=>h2 (ij h)⟩
theorem jt{A B:Prop}(h:A):B5 (.bool true) A B:=⟨_,rfl,λ_=>h,λh=>by cases h⟩
theorem fM{A B:Prop}(h:B):B5 (.bool false) A B:=⟨_,rfl,λh=>(by cases h),λ_=>h⟩
theorem aW{b:Bool}{A B:Prop}(h1:b=true->A)(h2:b=false->B):B5 (.bool b) A B:=⟨_,rfl,h1,h2⟩
theorem gx{α:Type}(l:List α){i:Nat}(h:i<l.length):∃x,l[i]?=some x:=⟨_,nT h⟩
theorem dV{a b:Nat}(h:Nat.ble a b=true):a<=b:=Nat.le_of_ble_eq_true h
theorem eR{f:FuncId}{args:List Value}{Φ K:Value->jj}(pl:Plain P f)(h:Calls P f args.toArray w (qZ Φ))(k:∀v w',Φ v w'->K v w') :
  Hz P f args w K:=⟨.inl ⟨pl,h.mono λ_ _ r=>r.mono k⟩⟩
theorem iH{g:FuncId}{args first cap:List Value}{Φ K:Value->jj}(pl:Plain P g)(h:Calls P g (first++args++cap).toArray w (qZ Φ))(k:∀v w',Φ v w'->K v w') :
  kh P (.func (.func g) first.toArray cap.toArray) args w K:=⟨.inl ⟨g,_,_,rfl,pl,by simpa using h.mono λ_ _ r=>r.mono k⟩⟩
theorem akH{f:FuncId}{args:List Value}{Φ Ψ:Value->jj}(h:Calls P f args.toArray w (qZ Φ))(k:∀v w',Φ v w'->Ψ v w'):Calls P f args.toArray w (qZ Ψ):=
 h.mono λ_ _ r=>r.mono k
variable {w0:World}{A:Nat->Prop}{L:List HP}
theorem run_load(a:Addr)(v:Value)(h:w.cell? a=some v):(load a).run P w=.ok v w:=by
 simp_all
theorem ju(b o j:Nat):(Addr.mk b o none).add j=⟨b,o+j,none⟩:=by
 unfold Addr.add;grind
theorem run_loadCellsFrom(b o:Nat):∀(n i:Nat) (B:Array Value) (cs:List Value),cs.length=n->(∀j c,cs[j]?=some c->Cell w b (o+i+j) c)->
  (loadCellsFrom ⟨b,o,none⟩ i n B).run P w=.ok (B++cs.toArray) w:=by
 intro n
 induction n with
 | zero=>intro i B cs E _;obtain rfl:=List.length_eq_zero_iff.1 E;simp[loadCellsFrom]
 | succ n I=>
  intro i B cs E h
  match cs,E with
  | c::cs,E=>
   unfold loadCellsFrom
   rw[fF (run_load _ c (by rw[ju];exact h 0 c rfl))]
   rw[I (i+1) (B.push c) cs eS λj d hd=>by have:=h (j+1) d eS;grind]
   simp
theorem run_loadCells{b o:Nat}{cs:List Value}(h:∀j c,cs[j]?=some c->Cell w b (o+j) c):(loadCells ⟨b,o,none⟩ cs.length).run P w=.ok cs.toArray w:=by
 unfold loadCells
 rw[run_loadCellsFrom b o cs.length 0 #[] cs rfl λj c hc=>eS]
 simp
theorem aG{T:TypeId}{b o:Nat}{v:Value}(ht:aaE P T)(h:Cell w b o v):(yv T (.pointer (some ⟨b,o,none⟩))).run P w=.ok v w:=by
 show(loadVar T ⟨b,o,none⟩).run P w=_
 unfold loadVar
 rw[fF (gK (l6 ht).1 w)]
 exact run_load _ v h
theorem FZ{T:TypeId}{b o:Nat}{cs:List Value}(ht:agU P T cs.length)(h:∀j c,cs[j]?=some c->Cell w b (o+j) c) :
  (yv T (.pointer (some ⟨b,o,none⟩))).run P w=.ok (.agg cs.toArray) w:=by
 show(loadVar T ⟨b,o,none⟩).run P w=_
 unfold loadVar
 rw[fF (gK (l6 ht).1 w)]
 simp only[if_true]
 rw[fF (gK (l6 ht).2 w),fF (run_loadCells h)]
 rfl
theorem aB{T:TypeId}{b o:Nat}{cs:List Value}{v:Value}{K:Value->Prop}(ht:aaE P T)(hb:uE w b cs)(hc:cs[o]?=some v)(k:K v) :
  Kw P (yv T (.pointer (some ⟨b,o,none⟩))) w K:=⟨v,aG ht (hb.cell hc),k⟩
theorem vi{T:TypeId}{b n:Nat}{cs:List Value}{K:Value->Prop}(ht:agU P T n)(hb:uE w b cs)(B:cs.length=n)(k:K (.agg cs.toArray)) :
  Kw P (yv T (.pointer (some ⟨b,0,none⟩))) w K:=by
 subst B
 exact⟨_,FZ ht λj c hc=>by rw[ve];exact hb.cell hc,k⟩
theorem SO{T f B b o:Nat}(ht:Cv P T f B):pr P (KI T (.pointer (some ⟨b,o,none⟩)) f)=some (.pointer (some ⟨b,o+B,none⟩)):=by
 unfold Cv aT at ht
 split at ht
 .rename_i fs hfs
  cases hf:fs[f]? with
  | none=>grind
  | some fd=>
   rw[hf]at ht
   simp only[F1,qa.injEq,acH.injEq]at ht
   obtain⟨I,J⟩:=ht
   cases hi:P.info? fd.type with
   | none=>grind
   | some i=>
    rw[hi]at J
    have E:i.size≠0:=eS
    unfold KI
    rw[cX,dC hfs]
    simp only[o5,hf]
    show pr P (do pure (aaN (some (<- fieldPlace ⟨b,o,none⟩ fd))))=_
    rw[yG]
    unfold fieldPlace
    rw[cX,qI hi]
    simp only[o5,fU E,ju,I]
    rfl
 cases ht
theorem aA{T f B b o:Nat}{K:Value->Prop}(ht:Cv P T f B)(k:K (.pointer (some ⟨b,o+B,none⟩))) :
  eM P (KI T (.pointer (some ⟨b,o,none⟩)) f) K:=⟨_,SO ht,k⟩
theorem pfb{T f B b o T2:Nat}{cs:List Value}{v:Value}{K:Value->Prop}(ht:Cv P T f B)(h2:aaE P T2)(hb:uE w b cs)(hc:cs[o+B]?=some v)(k:K v) :
  eM P (KI T (.pointer (some ⟨b,o,none⟩)) f) λp=>Kw P (yv T2 p) w K:=aA ht (aB h2 hb hc k)
theorem Nb(T:TypeId)(v:Value):(sZ T v).run P w=.ok (.pointer (some ⟨w.heap.size,0,none⟩)) (push w (.cells v.cells T)):=rfl
theorem St.push{T:TypeId}{cs:List Value}(B:St w0 A L w):St w0 A (cI w.heap.size cs::L) (push w (.cells cs.toArray T)):=
 B.new (Ext.push _ _) (F:=λk=>k=w.heap.size) ⟨uE.push w cs T,λ_=>Iff.rfl⟩ λb hb=>by rw[hb];exact r4 _
theorem xF{T:TypeId}{v:Value}{K:Value->jj}(B:St w0 A L w)(E:vh v=true)
  (k:∀b w',St w0 A (cI b [v]::L) w'->K (.pointer (some ⟨b,0,none⟩)) w'):nU P (sZ T v) w K:=by
 refine⟨_,_,Nb T v,k _ _ ?_⟩
 have:v.cells=[v].toArray:=by cases v<;>first|rfl|cases E
 rw[this]
 exact B.push
theorem lC{T:TypeId}{cs:List Value}{K:Value->jj}(B:St w0 A L w)
  (k:∀b w',St w0 A (cI b cs::L) w'->K (.pointer (some ⟨b,0,none⟩)) w'):nU P (sZ T (.agg cs.toArray)) w K:=
 ⟨_,_,Nb T _,k _ _ B.push⟩
theorem Cw{T:TypeId}{z:Value}{K:Value->jj}(E:St w0 A L w)(B:ug P T z)(I:vh z=true)
  (k:∀b w',St w0 A (cI b [z]::L) w'->K (.pointer (some ⟨b,0,none⟩)) w'):nU P (QF T true (.tuple #[])) w K:=by
 unfold ug fC at B
 cases hi:P.info? T with
 | none=>rw[hi]at B;cases B
 | some i=>
  rw[hi]at B
  simp only[F1,qa.injEq]at B
  have h1:pr P (zeroValue T)=some z:=by unfold zeroValue;rw[cX,qH hi];simp only[o5,B];rfl
  refine⟨_,push w (.cells [z].toArray T),?_,k _ _ (E.push (T:=T))⟩
  unfold QF
  rw[fF (gK h1 w)]
  have:z.cells=[z].toArray:=by cases z<;>first|rfl|cases I
  show(do pure (aaN (some (<- newVar T z))):Sem Value).run P w=_
  unfold newVar
  rw[this]
  rfl
theorem aR{T:TypeId}{cs:List Value}{K:Value->jj}(E:St w0 A L w)(B:ug P T (.agg cs.toArray))
  (k:∀b w',St w0 A (cI b cs::L) w'->K (.pointer (some ⟨b,0,none⟩)) w'):nU P (QF T true (.tuple #[])) w K:=by
 unfold ug fC at B
 cases hi:P.info? T with
 | none=>rw[hi]at B;cases B
 | some i=>
  rw[hi]at B
  simp only[F1,qa.injEq]at B
  have h1:pr P (zeroValue T)=some (.agg cs.toArray):=by unfold zeroValue;rw[cX,qH hi];simp only[o5,B];rfl
  refine⟨_,push w (.cells cs.toArray T),?_,k _ _ (E.push (T:=T))⟩
  unfold QF
  rw[fF (gK h1 w)]
  rfl
theorem run_store{b o:Nat}{cs:List Value}{v:Value}(hb:uE w b cs)(B:o<cs.length)(E:vh v=true) :
  (store ⟨b,o,none⟩ v).run P w=.ok () (w.setCell ⟨b,o,none⟩ v):=by
 have h1:w.cell? ⟨b,o,none⟩=some cs[o]:=hb.cell (by simp[B])
 have h2:=hb.frozen (o:=o)
 unfold store
 cases v<;>first|cases E|skip
 all_goals
  simp only[Sem.run,h1,h2]
  rfl
theorem Pn{b o:Nat}{cs:List Value}{v:Value}(E:St w0 A (cI b cs::L) w):St w0 A (cI b (cs.set o v)::L) (w.setCell ⟨b,o,none⟩ v):=
 E.wk λF B=>⟨F,⟨B.1.setCell v,B.2⟩,λ_ h=>.inl h,(js.setCell w b o v).mono λk I=>(B.2 k).2 I⟩
theorem aS{T:TypeId}{b o:Nat}{cs:List Value}{v:Value}{K:jj}(B:St w0 A (cI b cs::L) w)(ht:aaE P T)(I:o<cs.length)(E:vh v=true)
  (k:∀w',St w0 A (cI b (cs.set o v)::L) w'->K w'):FW P (LB T (.pointer (some ⟨b,o,none⟩)) v) w K:=by
 refine⟨_,?_,k _ (Pn B)⟩
 show(storeVar T ⟨b,o,none⟩ v).run P w=_
 have hc:v.cells = #[v]:=by cases v<;>first|rfl|cases E
 unfold storeVar
 rw[fF (gK (l6 ht).2 w),hc]
 simp only[Ng,sf,u1,ve,ne_eq,not_true_eq_false,if_false]
 show(storeCells ⟨b,o,none⟩ [v]).run P w=_
 unfold storeCells
 rw[ju,Pd,fF (run_store B.hb I E)]
 rfl
def jI:List Value->Nat->List Value->List Value
 | cs,_,[]=>cs
 | cs,o,v::r=>jI (cs.set o v) (o+1) r
theorem HT{b o:Nat}:∀(vs:List Value) (i:Nat) (cs:List Value) (w:World),St w0 A (cI b cs::L) w->o+i+vs.length<=cs.length->(∀v∈vs,vh v=true)->
  ∃w',(storeCells ⟨b,o,none⟩ vs i).run P w=.ok () w'/\St w0 A (cI b (jI cs (o+i) vs)::L) w':=by
 intro vs
 induction vs with
 | nil=>intro i cs w B _ _;exact⟨w,rfl,B⟩
 | cons v r M=>
  intro i cs w B O E
  have J:o+i+(r.length+1)<=cs.length:=by simpa using O
  have h1:=run_store (P:=P) B.hb (o:=o+i) (v:=v) cW (E v eU)
  obtain⟨w',h2,h3⟩:=M (i+1) (cs.set (o+i) v) _ (Pn B) (by simp;omega) (λx I=>E x (by simp[I]))
  refine⟨w',?_,by rw[show o+(i+1)=o+i+1 from cW]at h3;exact h3⟩
  show(do store ((Addr.mk b o none).add i) v;storeCells ⟨b,o,none⟩ r (i+1):Sem Unit).run P w=_
  rw[ju,fF h1,h2]
theorem tx{T:TypeId}{b o n:Nat}{cs vs:List Value}{K:jj}(B:St w0 A (cI b cs::L) w)(ht:agU P T n)(I:vs.length=n)(J:o+n<=cs.length)(E:∀v∈vs,vh v=true)
  (k:∀w',St w0 A (cI b (jI cs o vs)::L) w'->K w'):FW P (LB T (.pointer (some ⟨b,o,none⟩)) (.agg vs.toArray)) w K:=by
 subst I
 obtain⟨w',h1,h2⟩:=HT (P:=P) (o:=o) vs 0 cs w B cW E
 refine⟨w',?_,k w' h2⟩
 show(storeVar T ⟨b,o,none⟩ (.agg vs.toArray)).run P w=_
 unfold storeVar
 rw[fF (gK (l6 ht).2 w)]
 simp only[abr,Ng,ne_eq,not_true_eq_false,if_false]
 exact h1
end
class Flat (α:Type) where
 agg:Bool
 sz:Nat
 enc:α->List Value
 val:α->Value
 pos:0<sz
 len:∀a,(enc a).length=sz
 one:∀a v,v∈enc a->vh v=true
 qo:agg=true->∀a,val a=.agg (enc a).toArray
 qp:agg=false->∀a,enc a=[val a]
instance:Flat Int where
 agg:=false
 sz:=1
 enc n:=[jK n]
 val n:=jK n
 pos:=dO
 len _:=rfl
 one a v h:=by rw[s7.1 h];rfl
 qo h:=by cases h
 qp _ _:=rfl
instance:Flat Bool where
 agg:=false
 sz:=1
 enc n:=[.bool n]
 val n:=.bool n
 pos:=dO
 len _:=rfl
 one a v h:=by rw[s7.1 h];rfl
 qo h:=by cases h
 qp _ _:=rfl
instance:Flat ByteArray where
 agg:=false
 sz:=1
 enc n:=[.string n]
 val n:=.string n
 pos:=dO
 len _:=rfl
 one a v h:=by rw[s7.1 h];rfl
 qo h:=by cases h
 qp _ _:=rfl
section
variable {α:Type}[Flat α]
def flat(xs:List α):List Value:=xs.flatMap Flat.enc
theorem pG:flat ([]:List α)=[]:=rfl
theorem ly(x:α)(xs:List α):flat (x::xs)=Flat.enc x++flat xs:=by simp[flat]
theorem kj(xs ys:List α):flat (xs++ys)=flat xs++flat ys:=by simp[flat]
theorem dU(xs:List α):(flat xs).length=xs.length*Flat.sz α:=by
 induction xs with
 | nil=>simp[pG]
 | cons x xs B=>rw[ly,n0,B,Flat.len,sf,Km];omega
theorem Dp{xs:List α}:∀v∈flat xs,vh v=true:=by
 intro v B
 obtain⟨x,_,E⟩:=List.mem_flatMap.1 B
 exact Flat.one x v E
theorem vj{xs:List α}{i j:Nat}{x:α}{c:Value}(B:xs[i]?=some x)(hc:(Flat.enc x)[j]?=some c):(flat xs)[i*Flat.sz α+j]?=some c:=by
 induction xs generalizing i with
 | nil=>simp at B
 | cons y ys E=>
  rw[ly]
  cases i with
  | zero=>
   grind
  | succ i=>
   have:=E (by simpa using B)
   rw[List.getElem?_append_right (by rw[Flat.len,Km];omega),Flat.len]
   grind
theorem X0(xs:List α)(n:Nat):flat (xs.take n)=(flat xs).take (n*Flat.sz α):=by
 induction xs generalizing n with
 | nil=>simp[pG]
 | cons x xs B=>
  cases n with
  | zero=>simp[pG]
  | succ n=>
   rw[aag,ly,ly,B,List.take_append,Flat.len]
   have h1:(n+1)*Flat.sz α-Flat.sz α=n*Flat.sz α:=eS
   rw[h1,List.take_of_length_le (i:=(n+1)*Flat.sz α) (l:=Flat.enc x) (by rw[Flat.len,Km];omega)]
theorem X1(xs:List α)(n:Nat):flat (xs.drop n)=(flat xs).drop (n*Flat.sz α):=by
 induction xs generalizing n with
 | nil=>simp[pG]
 | cons x xs B=>
  cases n with
  | zero=>simp
  | succ n=>
   rw[List.drop_succ_cons,ly,B,List.drop_append,Flat.len]
   have h1:(n+1)*Flat.sz α-Flat.sz α=n*Flat.sz α:=eS
   rw[h1,List.drop_of_length_le (i:=(n+1)*Flat.sz α) (l:=Flat.enc x) (by rw[Flat.len,Km];omega),C5]
def At(S:Nat->Prop)(w:World)(p:Value)(x:α):Prop:=
 ∃b o,p=.pointer (some ⟨b,o,none⟩)/\S b/\∀j c,(Flat.enc x)[j]?=some c->Cell w b (o+j) c
def eN(S:Nat->Prop)(w:World)(v:Value)(xs:List α):Prop:=
 ∃a cap,v=.slice a xs.length cap/\xs.length<=cap/\((xs=[]/\cap=0)\/∃b o,a=some ⟨b,o,none⟩/\(xs≠[]->S b)/\∀j c,(flat xs)[j]?=some c->Cell w b (o+j) c)
def bE(v:Value)(xs:List α):HP where
 p w F:=(v=.slice none 0 0/\xs=[]/\∀b,¬ F b)\/
  ∃b cap rest,v=.slice (some ⟨b,0,none⟩) xs.length cap/\uE w b (flat xs++rest)/\(xs.length<=cap/\cap*Flat.sz α<=(flat xs++rest).length)/\∀k,F k↔k=b
 loc w w' F h hh:=by
  rcases h with h|⟨b,cap,rest,h1,h2,h3,h4⟩
  .grind
  .exact .inr ⟨b,cap,rest,h1,h2.of_eq (hh b ((h4 b).2 rfl)),h3,h4⟩
 lt w F b h hb:=by
  rcases h with h|⟨B,cap,rest,h1,h2,h3,h4⟩
  .grind
  .rw[(h4 b).1 hb];exact h2.lt
variable {P:Program}{w w0:World}{A S:Nat->Prop}{L:List HP}{xs ys:List α}
theorem At.aE{A:Nat->Prop}{w w':World}{p:Value}{x:α}(h:At S w p x)(hc:js A w w')(hd:∀b,S b->¬ A b):At S w' p x:=by
 obtain⟨b,o,h1,h2,h3⟩:=h;exact⟨b,o,h1,h2,λj c B=>(h3 j c B).aE hc (hd b h2)⟩
theorem At.ext{w w':World}{p:Value}{x:α}(h:At S w p x)(hc:Ext w w'):At S w' p x:=h.aE hc λ_ _ h=>h
theorem eN.aE{A:Nat->Prop}{w w':World}{v:Value}(h:eN S w v xs)(hc:js A w w')(hd:∀b,S b->¬ A b):eN S w' v xs:=by
 obtain⟨a,cap,h1,h2,h3⟩:=h
 refine⟨a,cap,h1,h2,?_⟩
 rcases h3 with h3|⟨b,o,h3,h4,h5⟩
 .grind
 exact .inr ⟨b,o,h3,h4,λj c B=>(h5 j c B).aE hc (hd b (h4 λh=>by subst h;simp[pG]at B))⟩
theorem eN.ext{w w':World}{v:Value}(h:eN S w v xs)(hc:Ext w w'):eN S w' v xs:=h.aE hc λ_ _ h=>h
theorem eN.mono{B:Nat->Prop}{v:Value}(h:eN S w v xs)(hd:∀b,S b->B b):eN B w v xs:=by
 grind[eN]
theorem eN.nil(S:Nat->Prop)(w:World):eN S w (.slice none 0 0) ([]:List α):=⟨none,0,rfl,r4 _,.inl ⟨rfl,rfl⟩⟩
theorem bE.rd{v:Value}{F:Nat->Prop}(h:(bE v xs).p w F):eN F w v xs:=by
 rcases h with⟨h1,h2,h3⟩|⟨b,cap,rest,h1,h2,h3,h4⟩
 .subst h1 h2;exact eN.nil _ _
 refine⟨_,cap,h1,?_,.inr ⟨b,0,rfl,λ_=>(h4 b).2 rfl,λj c B=>?_⟩⟩
 .exact h3.1
 rw[ve]
 exact h2.cell eS
theorem St.rd{v:Value}(B:St w0 A (bE v xs::L) w):∃S,(∀b,S b->A b\/w0.heap.size<=b)/\eN S w v xs:=by
 obtain⟨F,h1,h2⟩:=B.head;exact⟨F,h2,bE.rd h1⟩
theorem St.fu{v:Value}(B:St w0 A (bE v xs::L) w):eN (λ_=>True) w v xs:=by
 obtain⟨S,_,h⟩:=B.rd;exact h.mono λ_ _=>trivial
theorem St.gA(B:St w0 A L w):St w0 A (bE (.slice none 0 0) ([]:List α)::L) w:=
 B.new (Ext.refl w) (F:=aY) (.inl ⟨rfl,rfl,λ_ h=>h⟩) λ_ h=>h.elim
theorem aF{T:TypeId}{p:Value}{x:α}{K:Value->Prop}(ht:cY P T=some (Flat.agg α,Flat.sz α))(h:At S w p x)(k:K (Flat.val x)):Kw P (yv T p) w K:=by
 obtain⟨b,o,rfl,_,h3⟩:=h
 cases ha:Flat.agg α with
 | true=>
  rw[ha]at ht
  refine⟨_,?_,k⟩
  rw[Flat.qo ha x]
  exact FZ (by rw[Flat.len];exact ht) h3
 | false=>
  rw[ha]at ht
  have h1:=Flat.qp ha x
  have B:Flat.sz α=1:=by rw[<- Flat.len x,h1];rfl
  rw[B]at ht
  exact⟨_,aG ht (by have:=h3 0 (Flat.val x) eS;omega),k⟩
theorem St.At{b:Nat}{x:α}(B:St w0 A (Fw.cI b (Flat.enc x)::L) w):Fw.At (λ_=>True) w (.pointer (some ⟨b,0,none⟩)) x:=
 ⟨b,0,rfl,trivial,λj c E=>by rw[ve];exact B.hb.cell E⟩
theorem bO{β:Type}[Flat β]{T f B:Nat}{p:Value}{x:α}(y:β){K:Value->Prop}(ht:Cv P T f B)(h:At S w p x)(J:(Flat.enc x)[B]?=some (Flat.val y))(E:Flat.agg β=false)
  (k:∀q,At S w q y->K q):eM P (KI T p f) K:=by
 obtain⟨b,o,rfl,h2,h3⟩:=h
 refine aA ht (k _ ⟨b,o+B,rfl,h2,λj c I=>?_⟩)
 rw[Flat.qp E]at I
 grind
theorem Nc{T R E n B:Nat}{z:Option Nat}{a:Option Addr}{l c:Nat}(ht:gg P T=some (E,n,B,z)):pr P (Builtin.len_ #[T] R [HJ a l c].toArray)=some (jK l):=by
 show pr P (do
  match <- underlying T,HJ a l c with
  | .string,.string s=>pure (goInt s.size)
  | .array n _,_=>pure (goInt n)
  | .pointer arr,_=>
   let .array n _ <- underlying arr|stuck "len: pointer to array expected"
   pure (goInt n)
  | .slice _,.slice _ n _=>pure (goInt n)
  | .map _ _,.map none|.chan _ _,.chan none=>pure (goInt 0)
  | .map _ _,.map (some r)=>
   let .map entries _ <- getObj r|stuck "len: map expected"
   pure (goInt entries.size)
  | .chan _ _,.chan (some r)=>
   let .chan _ buf _ _ _ timer <- getObj r|stuck "len: channel expected"
   pure (goInt (if timer then 0 else buf.size))
  | _, _ => stuck "len: string, array, pointer to array, slice, map or channel expected")=_
 rw[cX,dC (iC ht).1]
 rfl
theorem aI{T R E n B:Nat}{z:Option Nat}{v:Value}{K:Value->Prop}(ht:gg P T=some (E,n,B,z))(h:eN S w v xs)(k:K (jK (xs.length:Int))) :
  eM P (Builtin.len_ #[T] R [v].toArray) K:=by
 obtain⟨a,cap,rfl,_⟩:=h
 exact⟨_,Nc ht,k⟩
theorem aQ{T E M:Nat}{z:Option Nat}{v:Value}{i:Int}{x:α}{K:Value->Prop}(ht:gg P T=some (E,Flat.sz α,M,z))(h:eN S w v xs)(h0:0<=i)(B:xs[i.toNat]?=some x)
  (k:∀p,At S w p x->K p):eM P (Iy T v (jK i)) K:=by
 obtain⟨a,cap,rfl,Nd,h3⟩:=h
 have pF:i.toNat<xs.length:=(l0.1 B).1
 rcases h3 with⟨rfl,_⟩|⟨b,o,rfl,h4,h5⟩
 .simp at B
 obtain⟨U,O,J,oq,_⟩:=iC ht
 refine⟨.pointer (some ⟨b,o+i.toNat*Flat.sz α,none⟩),?_,k _ ⟨b,_,rfl,h4 eS,λj c V=>?_⟩⟩
 .unfold Iy
  rw[cX]
  show pr P _=_
  simp only[asIntOf]
  have e1:pr P (underlying T)=some (.slice E):=dC U
  have I:pr P (sizeOf E)=some (Flat.sz α):=by rw[qI J,oq]
  simp only[cX,e1,I,o5,gi]
  have W:0<=i/\i<(xs.length:Int):=⟨h0,cW⟩
  simp only[fV W,cX,I,o5,gi,ju]
 have:=h5 (i.toNat*Flat.sz α+j) c (vj B V)
 grind
end
section
variable {α:Type}[Flat α] {P:Program}{w w0:World}{A S:Nat->Prop}{L:List HP}{xs ys:List α}
theorem pH{y:Nat}{i:Int}{code:BoundsCode}(B:0<=i)(h1:i<=y):pr P (abf (jK i) y code)=some i.toNat:=by
 unfold abf
 rw[cX]
 simp only[asIntOf,gi,o5,fV (show 0<=i/\i<=(y:Int)from⟨B,h1⟩)]
theorem E2{T E sz M:Nat}{z:Option Nat}{a:Option Addr}{n cap l h:Nat}{J I:Option Value}(ht:gg P T=some (E,sz,M,z))
  (hb:pr P (Ap true n cap J I none)=some (l,h,cap)) :
  pr P (rr T (.slice a n cap) J I none)=some (.slice (if cap=l then a else a.map (·.add (l*sz))) (h-l) (cap-l)):=by
 obtain⟨B,V,U,O,_⟩:=iC ht
 unfold rr
 rw[cX,dC B]
 simp only[o5]
 unfold Yu
 rw[cX,dC B]
 simp only[o5]
 rw[cX,hb]
 simp only[o5]
 rw[cX,qI U,O]
 rfl
theorem uV{n cap l h:Nat}{I E:Option Value}(O:I=none/\l=0\/∃i:Int,I=some (jK i)/\0<=i/\l=i.toNat)(M:E=none/\h=n\/∃i:Int,E=some (jK i)/\0<=i/\h=i.toNat)
  (h1:l<=h) (h2:h<=cap):pr P (Ap true n cap I E none)=some (l,h,cap):=by
 rcases O with⟨rfl,rfl⟩|⟨i,rfl,J,rfl⟩<;>rcases M with⟨rfl,rfl⟩|⟨U,rfl,B,rfl⟩<;>simp only[Ap,cX,gi,o5]
 .rw[pH B cW];rfl
 .rw[pH J cW];rfl
 rw[pH B cW];simp only[o5];rw[pH J cW];rfl
theorem eN.cut{v:Value}{a:Option Addr}{n cap l h:Nat}(J:v=.slice a n cap)(V:eN S w v xs)(h1:l<=h)(h2:h<=xs.length) :
  eN S w (.slice (if cap=l then a else a.map (·.add (l*Flat.sz α))) (h-l) (cap-l)) ((xs.take h).drop l):=by
 obtain⟨a',E,W,Nd,h3⟩:=V
 rw[W]at J
 simp only[HJ.injEq]at J
 obtain⟨rfl,hn,rfl⟩:=J
 have hlen:((xs.take h).drop l).length=h-l:=by simp;omega
 rcases h3 with⟨I,Bj⟩|⟨b,o,rfl,h4,h5⟩
 .subst I
  exact⟨_,E-l,by rw[hlen],eU,.inl ⟨eU,cW⟩⟩
 refine⟨_,E-l,by rw[hlen],cW,.inr ?_⟩
 have O:(xs.take h).drop l≠[]->xs≠[]:=λB M=>B eS
 by_cases B:E=l
 .rw[fV B]
  grind[flat,Cell]
 rw[fU B]
 refine⟨b,o+l*Flat.sz α,by simp[ju],λM=>h4 (O M),λj c U=>?_⟩
 rw[X1,X0,Iv,G5]at U
 grind
theorem VM{T E U:Nat}{z:Option Nat}{v:Value}{J B:Option Value}{l h:Nat}{K:Value->Prop}(ht:gg P T=some (E,Flat.sz α,U,z))(O:eN S w v xs)
  (V:J=none/\l=0\/∃i:Int,J=some (jK i)/\0<=i/\l=i.toNat) (W:B=none/\h=xs.length\/∃i:Int,B=some (jK i)/\0<=i/\h=i.toNat)
  (h1:l<=h) (h2:h<=xs.length) (k:∀M,eN S w M ((xs.take h).drop l)->K M):eM P (rr T v J B none) K:=by
 have I:=O
 obtain⟨a,cap,rfl,Nd,h3⟩:=O
 exact⟨_,E2 ht (uV V W h1 cW),k _ (I.cut rfl h1 h2)⟩
theorem LI{T E M:Nat}{z:Option Nat}{v:Value}{i:Int}{K:Value->Prop}(ht:gg P T=some (E,Flat.sz α,M,z))(I:eN S w v xs)(J:0<=i)(h2:i<=xs.length)
  (k:∀B,eN S w B (xs.take i.toNat)->K B):eM P (rr T v none (some (jK i)) none) K:=
 VM ht I (.inl ⟨rfl,rfl⟩) (.inr ⟨i,rfl,J,rfl⟩) cW cW λB h=>k B eS
theorem LJ{T E M:Nat}{z:Option Nat}{v:Value}{i:Int}{K:Value->Prop}(ht:gg P T=some (E,Flat.sz α,M,z))(I:eN S w v xs)(J:0<=i)(h2:i<=xs.length)
  (k:∀B,eN S w B (xs.drop i.toNat)->K B):eM P (rr T v (some (jK i)) none none) K:=
 VM ht I (.inr ⟨i,rfl,J,rfl⟩) (.inl ⟨rfl,rfl⟩) cW cW λB h=>k B eS
theorem oY{b o:Nat}:∀(vs:List Value) (i:Nat) (cs:List Value) (w:World),uE w b cs->o+i+vs.length<=cs.length->(∀v∈vs,vh v=true)->
  ∃w',(storeCells ⟨b,o,none⟩ vs i).run P w=.ok () w'/\uE w' b (jI cs (o+i) vs)/\js (· = b) w w':=by
 intro vs
 induction vs with
 | nil=>intro i cs w hb _ _;exact⟨w,rfl,hb,js.refl _ _⟩
 | cons v r J=>
  intro i cs w hb M B
  have I:o+i+(r.length+1)<=cs.length:=cW
  have h1:=run_store (P:=P) hb (o:=o+i) (v:=v) cW (B v eU)
  obtain⟨w',h2,h3,h4⟩:=J (i+1) (cs.set (o+i) v) _ (hb.setCell v) (by simp;omega) (λx E=>B x (by simp[E]))
  refine⟨w',?_,by grind[uE,jI],(js.setCell w b (o+i) v).trans h4 (λ_ h=>h) λ_ _ h=>h⟩
  show(do store ((Addr.mk b o none).add i) v;storeCells ⟨b,o,none⟩ r (i+1):Sem Unit).run P w=_
  rw[ju,fF h1,h2]
theorem nk(pre B post vs:List Value)(h:B.length=vs.length):jI (pre++B++post) pre.length vs=pre++vs++post:=by
 induction vs generalizing pre B with
 | nil=>grind[jI]
 | cons v r E=>
  match B,h with
  | m::B,h=>
   have e:(pre++(m::B)++post).set pre.length v=(pre++[v])++B++post:=eU
   simp only[jI,e]
   have:=E (pre++[v]) B eS
   simp_all
theorem Bl{sz:Nat}{v:Value}(B:sz=Flat.sz α)(h:eN S w v ys):(Builtin.firstCells sz ys.length v).run P w=.ok (flat ys).toArray w:=by
 subst B
 obtain⟨a,cap,rfl,_,h3⟩:=h
 rcases h3 with⟨rfl,_⟩|⟨b,o,rfl,_,h5⟩
 .cases a with
  | none=>rfl
  | some a=>simp[Builtin.firstCells,loadCells,loadCellsFrom,pG]
 have:=run_loadCells (P:=P) h5
 rw[dU]at this
 exact this
theorem E3{b o:Nat}{cs:List Value}(h:∀j c,cs[j]?=some c->Cell w b (o+j) c):∀j v,cs[j]?=some v->w.cell? ((⟨b,o,none⟩:Addr).add j)=some v:=λj v B=>by
 rw[ju];exact h j v B
theorem F0{T E pj R:Nat}{v src:Value}{F:Nat->Prop}(ht:SlT P T E (Flat.sz α) pj)(hv:(bE v xs).p w F)(xG:eN S w src ys)
  (hn:xs.length+ys.length<=17592186044416) (U:(xs.length+ys.length)*pj<=140737488355328) :
  ∃v' w' F',(Builtin.append_ #[T,T] R [v,src].toArray).run P w=.ok v' w'/\(bE v' (xs++ys)).p w' F'/\(∀b,F' b->F b\/w.heap.size<=b)/\js F w w':=by
 obtain⟨hu,B,hi,oq,E4,hz⟩:=iC ht
 obtain⟨zv,V,hzs⟩:∃zv,B.zero=some zv/\zv.cells.size=Flat.sz α:=by
  cases hzz:B.zero with
  | none=>rw[hzz]at hz;cases hz
  | some zv=>rw[hzz]at hz;exact⟨zv,rfl,by simpa using hz⟩
 have hmul:(xs.length+ys.length)*B.bytes<=140737488355328:=by rw[show B.bytes=pj by omega];exact U
 have made:∀(cap:Nat),cap<xs.length+ys.length->
   (bE (.slice (some ⟨w.heap.size,0,none⟩) (xs.length+ys.length) (grownCap w (xs.length+ys.length) cap E)) (xs++ys)).p
    (w.drew.alloc (.cells ((flat xs).toArray++(flat ys).toArray++Builtin.zeroCells zv.cells (grownCap w (xs.length+ys.length) cap E-(xs.length+ys.length))) E)) (λk=>k=w.heap.size):=by
  intro cap hc
  have E5:=grownCap_ge w (xs.length+ys.length) cap E
  refine .inr ⟨w.heap.size,grownCap w (xs.length+ys.length) cap E,(Builtin.zeroCells zv.cells (grownCap w (xs.length+ys.length) cap E-(xs.length+ys.length))).toList,eU,⟨E,?_⟩,?_,λ_=>Iff.rfl⟩
  .have:=tu w.drew (.cells ((flat xs).toArray++(flat ys).toArray++Builtin.zeroCells zv.cells (grownCap w (xs.length+ys.length) cap E-(xs.length+ys.length))) E)
   refine Eq.trans this ?_
   congr 2
   apply adi
   simp[kj]
  .refine⟨by rw[n0];exact E5,HL (Eq.symm ?_)⟩
   have e:(Builtin.zeroCells zv.cells (grownCap w (xs.length+ys.length) cap E-(xs.length+ys.length))).toList.length=(grownCap w (xs.length+ys.length) cap E-(xs.length+ys.length))*Flat.sz α:=by
    rw[aah,size_zeroCells,hzs]
   rw[n0,e,dU,n0,<- abu]
   congr 1
   omega
 have W:∀o,js F w (w.drew.alloc o):=λo=>⟨rfl,rfl,rfl,eU,λb hb _=>E1 w.drew o b hb⟩
 have rd:=xG
 obtain⟨sa,M,rfl,hsc,J⟩:=rd
 rcases hv with⟨rfl,rfl,hF⟩|⟨b,cap,rest,rfl,hb,O,hF⟩
 ·
  simp only[u1,ve,C5]at *
  by_cases U:ys=[]
  .subst U
   refine⟨.slice none 0 0,w,F,?_,.inl ⟨rfl,rfl,hF⟩,λb hb=>.inl hb,js.refl _ _⟩
   cases sa<;>simp[Builtin.append_,run_underlying hu,sizeOf,typeInfo,hi,Builtin.lenOf,Builtin.firstCells,loadCells,loadCellsFrom]
  have GB:0<ys.length:=List.length_pos_iff.2 U
  rcases J with⟨h,_⟩|⟨b,o,rfl,_,I⟩
  .exact absurd h U
  have hr:=run_append_nil (P:=P) w T R E B zv hu hi V ⟨b,o,none⟩ ys.length M (flat ys) (by rw[dU,oq]) (E3 I) GB cW cW
  refine⟨_,_,λk=>k=w.heap.size,hr,?_,λk hk=>.inr (by rw[hk];exact r4 _),W _⟩
  have:=made 0 GB
  simpa[pG]using this
 have Nd:xs.length<=cap:=O.1
 replace O:=O.2
 by_cases LK:xs.length+ys.length<=cap
 ·
  have SP:(xs.length+ys.length)*Flat.sz α<=cap*Flat.sz α:=BO _ LK
  have F3:(flat xs).length=xs.length*Flat.sz α:=dU xs
  have Dh:(flat ys).length<=rest.length:=by
   rw[n0,F3]at O;rw[dU];rw[abu]at SP;omega
  obtain⟨w',h1,h2,h3⟩:=oY (P:=P) (o:=xs.length*Flat.sz α) (flat ys) 0 (flat xs++rest) w hb (by rw[n0,F3];omega) Dp
  have KG:jI (flat xs++rest) (xs.length*Flat.sz α+0) (flat ys)=flat (xs++ys)++rest.drop (flat ys).length:=by
   have:=nk (flat xs) (rest.take (flat ys).length) (rest.drop (flat ys).length) (flat ys) (by simp;omega)
   rw[F3]at this
   rw[Pd,kj]
   rw[<- this]
   simp
  rw[KG]at h2
  refine⟨.slice (some ⟨b,0,none⟩) (xs.length+ys.length) cap,w',F,?_,.inr ⟨b,cap,_,eU,h2,?_,hF⟩,λb hb=>.inl hb,h3.mono λk hk=>(hF k).2 hk⟩
  .have hf:=Bl (α:=α) (P:=P) (sz:=Flat.sz α) rfl xG
   have xb:(⟨b,0,none⟩:Addr).add (xs.length*Flat.sz α)=⟨b,xs.length*Flat.sz α,none⟩:=by rw[ju,ve]
   simp[Builtin.append_,run_underlying hu,sizeOf,typeInfo,hi,Builtin.lenOf,LK,hf,oq,xb,h1]
  refine⟨by rw[n0];exact LK,x5 O (HL ?_)⟩
  rw[n0,n0,kj,n0,ta];omega
 have hr:=run_append_grow (P:=P) w T R E B zv hu hi V ⟨b,0,none⟩ xs.length cap (flat xs) (by rw[dU,oq])
  (E3 λj c hj=>by rw[ve];exact hb.cell (by rw[u2 (l0.1 hj).1];exact hj))
 rcases J with⟨h,_⟩|⟨b',o,rfl,_,I⟩
 .subst h;simp at LK;omega
 have hr:=hr ⟨b',o,none⟩ ys.length M (flat ys) (by rw[dU,oq]) (E3 I) cW cW (growslice_fits cW hmul)
 exact⟨_,_,λk=>k=w.heap.size,hr,made cap cW,λk hk=>.inr (by rw[hk];exact r4 _),W _⟩
theorem anH{T E M R:Nat}{v src:Value}{F:Nat->Prop}(ht:SlT P T E (Flat.sz α) M)(O:(bE v xs).p w F)(U:eN S w src ys)
  (V:xs.length+ys.length<=1073741824) (B:M<=8192) :
  ∃J w' I,(Builtin.append_ #[T,T] R [v,src].toArray).run P w=.ok J w'/\(bE J (xs++ys)).p w' I/\(∀b,I b->F b\/w.heap.size<=b)/\js F w w':=
 F0 ht O U cW (by have:=Yv V B;omega)
theorem Po{T E O R:Nat}{v src:Value}{K:Value->jj}(J:St w0 A (bE v xs::L) w)(ht:SlT P T E (Flat.sz α) O)(xG:eN S w src ys)
  (hn:xs.length+ys.length<=17592186044416) (hm:(xs.length+ys.length)*O<=140737488355328) (k:∀I w',St w0 A (bE I (xs++ys)::L) w'->K I w'):nU P (Builtin.append_ #[T,T] R [v,src].toArray) w K:=by
 obtain⟨U,F,V,h1,h2,h3,h4,h5⟩:=J.xa
 obtain⟨I,w',F',g1,g2,M,g4⟩:=F0 (R:=R) ht h1 xG hn hm
 refine⟨I,w',g1,k I w' ?_⟩
 refine⟨J.aE.trans g4 (λ_ h=>h) λb hb B=>(h2 b B).elim id λhh=>cW,λb=>F' b\/V b,F',V,g2,λb hb=>?_,λb hb W=>?_,λb=>Iff.rfl,?_⟩
 .rcases M b hb with B|B
  .exact h2 b B
  exact .inr (x5 J.aE.size B)
 .rcases M b hb with B|B
  .exact h3 b B W
  have:=h5.lt b W;omega
 exact h5.loc λb hb=>g4.cI b (h5.lt b hb) λB=>h3 b B hb
theorem bW{T E J R:Nat}{v src:Value}{K:Value->jj}(M:St w0 A (bE v xs::L) w)(ht:SlT P T E (Flat.sz α) J)(O:eN S w src ys)
  (U:xs.length+ys.length<=1073741824) (B:J<=8192) (k:∀I w',St w0 A (bE I (xs++ys)::L) w'->K I w'):nU P (Builtin.append_ #[T,T] R [v,src].toArray) w K:=
 Po M ht O cW (by have:=Yv U B;omega) k
end
section
variable {α:Type}[Flat α] {P:Program}{w w0:World}{A S:Nat->Prop}{L:List HP}{xs ys:List α}
theorem sC(x:α):(Flat.val x).cells=(Flat.enc x).toArray:=by
 cases h:Flat.agg α with
 | true=>rw[Flat.qo h];rfl
 | false=>
  have h1:=Flat.qp h x
  have h2:=Flat.one x (Flat.val x) eS
  rw[h1]
  revert h2
  cases Flat.val x<;>simp[vh,abr]
theorem SQ(cs:List Value)(o:Nat)(v:Value)(r:List Value):jI cs o (v::r)=jI (cs.set o v) (o+1) r:=rfl
theorem Pp(B:Nat):∀(l:List Value) (k:Nat) (cs:Array Value),((l.zipIdx k).foldl (fun (cs:Array Value) q=>cs.setIfInBounds (B+q.2) q.1) cs).toList=jI cs.toList (B+k) l:=by
 intro l
 induction l with
 | nil=>intro k cs;rfl
 | cons v r E=>
  intro k cs
  rw[abn,List.foldl_cons,E (k+1),SQ]
  grind
theorem Nh(B:Nat)(l:List Value)(cs:Array Value) :
  (l.toArray.zipIdx.foldl (fun (cs:Array Value) (q:Value×Nat)=>match q with|(c,j)=>cs.setIfInBounds (B+j) c) cs).toList=jI cs.toList B l:=by
 rw[<- Array.foldl_toList]
 have e:l.toArray.zipIdx.toList=l.zipIdx 0:=eU
 rw[e]
 exact Pp B l 0 cs
theorem X2:∀(xs:List α) (k:Nat) (pre B:List Value),pre.length=k*Flat.sz α->B.length=xs.length*Flat.sz α->
  aaQ (λi=>some (i*Flat.sz α,Flat.sz α)) (pre++B).toArray ((xs.zipIdx k).map λq=>(q.2,Flat.val q.1))=some (pre++flat xs).toArray:=by
 intro xs
 induction xs with
 | nil=>intro k pre B _ E;simp at E;subst E;simp[aaQ,pG]
 | cons x xs M=>
  intro k pre B J E
  rw[abn,List.map_cons]
  unfold aaQ
  dsimp only
  have O:(Flat.val x).cells.size=Flat.sz α:=by rw[sC];simp[Flat.len]
  have I:B.length=xs.length*Flat.sz α+Flat.sz α:=eS
  rw[fU eS]
  have e:((Flat.val x).cells.zipIdx.foldl (fun (cs:Array Value) (q:Value×Nat)=>match q with|(c,j)=>cs.setIfInBounds (k*Flat.sz α+j) c) (pre++B).toArray) =
    ((pre++Flat.enc x)++B.drop (Flat.sz α)).toArray:=by
   apply adi
   rw[sC,Nh]
   have h1:=nk pre (B.take (Flat.sz α)) (B.drop (Flat.sz α)) (Flat.enc x) (by simp[Flat.len];omega)
   simp_all
  rw[e]
  have:=M (k+1) (pre++Flat.enc x) (B.drop (Flat.sz α)) (by rw[n0,J,Flat.len,Km]) eS
  rw[this,ly,qF]
theorem bJ{T E V n:Nat}{parts:List (Nat×Value)}{K:Value->jj}(xs:List α)(hs:St w0 A L w)(ht:SlT P T E (Flat.sz α) V)(hn:xs.length=n)
  (hp:parts=xs.zipIdx.map λq=>(q.2,Flat.val q.1)) (hl:xs.length*Flat.sz α<=16777216) (k:∀v w',St w0 A (bE v xs::L) w'->K v w') :
  nU P (L2 T n parts.toArray) w K:=by
 subst hn
 obtain⟨hu,B,O,oq,E4,J⟩:=iC ht
 obtain⟨zv,M,W⟩:∃zv,B.zero=some zv/\zv.cells.size=Flat.sz α:=by
  cases hzz:B.zero with
  | none=>rw[hzz]at J;cases J
  | some zv=>rw[hzz]at J;exact⟨zv,rfl,by simpa using J⟩
 have es:pr P (sizeOf E)=some (Flat.sz α):=by rw[qI O,oq]
 have ez:pr P (zeroValue E)=some zv:=by unfold zeroValue;rw[cX,qH O];simp only[o5,M];rfl
 refine⟨.slice (some ⟨w.heap.size,0,none⟩) xs.length xs.length,push w (.cells (flat xs).toArray E),?_,k _ _ ?_⟩
 .have I:∀z:Array Value,aaQ (λi=>some (i*Flat.sz α,Flat.sz α)) ((acY (xs.length*Flat.sz α)).map (z[· % z.size]!)) parts=some (flat xs).toArray:=by
   intro z
   have:=X2 xs 0 [] ((acY (xs.length*Flat.sz α)).map (z[· % z.size]!)).toList eU eU
   rw[hp]
   rw[C5,C5,YA]at this
   exact this
  unfold L2
  rw[fF (gK (dC hu) w)]
  dsimp only
  rw[fF (gK es w),fU cW]
  by_cases U:xs.length*Flat.sz α=0
  .simp only[fV U]
   rw[fF (run_pure _ w),I]
   rfl
  simp only[fU U]
  rw[fF (gK ez w),fF (run_pure _ w),I]
  rfl
 refine hs.new (Ext.push _ _) (F:=λk=>k=w.heap.size) (.inr ⟨w.heap.size,xs.length,[],rfl,⟨E,?_⟩,⟨r4 _,by simp[dU]⟩,λ_=>Iff.rfl⟩) λb hb=>by rw[hb];exact r4 _
 rw[r6];exact tu _ _
theorem z8(z:α)(n:Nat):(madeCells (Flat.enc z).toArray (n*Flat.sz α)).toList=flat (qU n z):=by
 apply wj
 intro i
 have B:=Flat.pos (α:=α)
 by_cases E:i<n*Flat.sz α
 .have h1:i / Flat.sz α<n:=by rw[Nat.div_lt_iff_lt_mul B];exact E
  have h2:i % Flat.sz α<(Flat.enc z).length:=by rw[Flat.len];exact ace _ B
  have:=vj (xs:=qU n z) (i:=i / Flat.sz α) (j:=i % Flat.sz α) (x:=z) (c:=(Flat.enc z)[i % Flat.sz α]) (by simp[h1]) (by simp[h2])
  rw[Nat.div_add_mod' i (Flat.sz α)]at this
  rw[this]
  unfold madeCells
  simp[E,Flat.len]
  grind
 have e1:(madeCells (Flat.enc z).toArray (n*Flat.sz α)).toList[i]?=none:=by
  rw[Eb,aah,size_madeCells];omega
 have I:(flat (qU n z))[i]?=none:=by
  rw[Eb,dU,xq];omega
 rw[e1,I]
theorem pI{T E M:Nat}{n:Int}{K:Value->jj}(z:α)(W:St w0 A L w)(ht:SlT P T E (Flat.sz α) M)(I:ug P E (Flat.val z))(U:0<=n)(h1:n<=1073741824)(hby:M<=8192)
  (k:∀v w',St w0 A (bE v (qU n.toNat z)::L) w'->K v w'):nU P (Instr.makeSlice T (jK n) (jK n)) w K:=by
 obtain⟨V,B,J,oq,E4,_⟩:=iC ht
 unfold ug fC at I
 rw[J]at I
 simp only[F1,qa.injEq]at I
 have hb:(B.bytes:Int)*n<=281474976710656:=by
  have h2:(B.bytes:Int)<=8192:=cW
  have h3:(B.bytes:Int)*n<=8192*n:=Int.mul_le_mul_of_nonneg_right h2 U
  omega
 have O:=run_make (P:=P) w T E B (Flat.val z) V J I .i64 .i64 n n U (Int.le_refl _) hb cW
 rw[oq,sC]at O
 refine⟨_,_,O,k _ _ ?_⟩
 refine W.new (w':=w.alloc (.cells (madeCells (Flat.enc z).toArray (n.toNat*Flat.sz α)) E)) ⟨rfl,rfl,rfl,eU,λb hb _=>E1 w _ b hb⟩ (F:=λk=>k=w.heap.size)
  (.inr ⟨w.heap.size,n.toNat,[],eU,⟨E,?_⟩,⟨eU,by rw[r6,dU,xq];exact r4 _⟩,λ_=>Iff.rfl⟩) λb hb=>by rw[hb];exact r4 _
 rw[r6,<- z8]
 have:=tu w (.cells (madeCells (Flat.enc z).toArray (n.toNat*Flat.sz α)) E)
 rw[YA]
 exact this
def LL(α:Type)[Flat α](v:Value)(i:Nat)(p:Value):Prop:=∃b n c,v=.slice (some ⟨b,0,none⟩) n c/\p=.pointer (some ⟨b,i*Flat.sz α,none⟩)
theorem cH{T E J:Nat}{z:Option Nat}{v:Value}{i:Int}{K:Value->Prop}(U:St w0 A (bE v xs::L) w)(ht:gg P T=some (E,Flat.sz α,J,z))(W:0<=i)(h1:i<xs.length)
  (k:∀p,LL α v i.toNat p->K p):eM P (Iy T v (jK i)) K:=by
 obtain⟨F,h,_⟩:=U.head
 rcases h with⟨rfl,rfl,_⟩|⟨b,cap,rest,rfl,hb,hl,_⟩
 .simp at h1;omega
 obtain⟨O,M,I,V,_⟩:=iC ht
 refine⟨.pointer (some ⟨b,i.toNat*Flat.sz α,none⟩),?_,k _ ⟨b,_,_,rfl,rfl⟩⟩
 unfold Iy
 have e1:pr P (underlying T)=some (.slice E):=dC O
 have B:pr P (sizeOf E)=some (Flat.sz α):=by rw[qI I,V]
 simp only[asIntOf,cX,e1,B,o5,gi]
 simp only[fV (show 0<=i/\i<(xs.length:Int)from⟨W,h1⟩),cX,B,o5,gi,ju,ve]
theorem uW{v:Value}{F:Nat->Prop}{i:Nat}(h:(bE v xs).p w F)(B:i<xs.length):∃b cap rest,v=.slice (some ⟨b,0,none⟩) xs.length cap/\uE w b (flat xs++rest)/\(xs.length<=cap/\cap*Flat.sz α<=(flat xs++rest).length)/\∀k,F k↔k=b:=by
 rcases h with⟨rfl,rfl,_⟩|h
 .simp at B
 exact h
theorem eK{T:Nat}{v p:Value}{i:Nat}{x:α}{K:Value->Prop}(J:St w0 A (bE v xs::L) w)(ht:cY P T=some (Flat.agg α,Flat.sz α))(O:LL α v i p)(E:xs[i]?=some x)(k:K (Flat.val x)) :
  Kw P (yv T p) w K:=by
 obtain⟨F,h,_⟩:=J.head
 obtain⟨b,cap,rest,M,hb,U,_⟩:=uW h (l0.1 E).1
 obtain⟨V,n,c,B,rfl⟩:=O
 rw[M]at B
 simp only[HJ.injEq,qa.injEq,Addr.mk.injEq]at B
 obtain⟨⟨rfl,_,_⟩,_,_⟩:=B
 refine aF (S:=λ_=>True) ht ⟨b,i*Flat.sz α,rfl,trivial,λj c I=>hb.cell ?_⟩ k
 have:=vj E I
 rw[u2 (l0.1 this).1];exact this
theorem Pq{i:Nat}(y:α)(h:i<xs.length):flat (xs.set i y)=flat (xs.take i)++Flat.enc y++flat (xs.drop (i+1)):=by
 rw[List.set_eq_take_append_cons_drop,fV h,kj,ly,qF]
theorem Cx{i:Nat}{x:α}(h:xs[i]?=some x):flat xs=flat (xs.take i)++Flat.enc x++flat (xs.drop (i+1)):=by
 have B:=(l0.1 h).1
 have:xs=xs.take i++x::xs.drop (i+1):=by
  rw[<- (l0.1 h).2,M1,s6]
 conv=>lhs;rw[this]
 rw[kj,ly,qF]
theorem SR{T:Nat}{v p:Value}{i:Nat}{F:Nat->Prop}(y:α)(h:(bE v xs).p w F)(ht:cY P T=some (Flat.agg α,Flat.sz α))(hp:LL α v i p)(B:i<xs.length) :
  ∃w',(LB T p (Flat.val y)).run P w=.ok () w'/\(bE v (xs.set i y)).p w' F/\js F w w':=by
 obtain⟨b,cap,rest,V,hb,O,I⟩:=uW h B
 obtain⟨b',n,c,E,rfl⟩:=hp
 rw[V]at E
 simp only[HJ.injEq,qa.injEq,Addr.mk.injEq]at E
 obtain⟨⟨rfl,_,_⟩,_,_⟩:=E
 have J:xs[i]?=some xs[i]:=by simp[B]
 have W:=Cx J
 have M:(flat (xs.take i)).length=i*Flat.sz α:=by rw[dU,oj,xr cW]
 have hlen:i*Flat.sz α+Flat.sz α<=(flat xs).length:=by
  rw[dU,<- Km];exact BO _ B
 obtain⟨w',h1,h2,h3⟩:=oY (P:=P) (o:=i*Flat.sz α) (Flat.enc y) 0 (flat xs++rest) w hb (by rw[Flat.len,n0];omega) (Flat.one y)
 have KG:jI (flat xs++rest) (i*Flat.sz α+0) (Flat.enc y)=flat (xs.set i y)++rest:=by
  have:=nk (flat (xs.take i)) (Flat.enc xs[i]) (flat (xs.drop (i+1))++rest) (Flat.enc y) (by rw[Flat.len,Flat.len])
  rw[M]at this
  rw[Pd,Pq y B,W]
  grind
 rw[KG]at h2
 refine⟨w',?_,.inr ⟨b,cap,rest,eS,h2,?_,I⟩,h3.mono λk U=>(I k).2 U⟩
 .show(storeVar T ⟨b,i*Flat.sz α,none⟩ (Flat.val y)).run P w=_
  unfold storeVar
  rw[fF (gK (l6 ht).2 w),sC]
  simp only[Ng,Flat.len,ne_eq,not_true_eq_false,if_false]
  exact h1
 rw[n0,dU]at O |-;grind
theorem gY{T:Nat}{v p:Value}{i:Nat}{K:jj}(y:α)(I:St w0 A (bE v xs::L) w)(ht:cY P T=some (Flat.agg α,Flat.sz α))(V:LL α v i p)(J:i<xs.length)
  (k:∀w',St w0 A (bE v (xs.set i y)::L) w'->K w'):FW P (LB T p (Flat.val y)) w K:=by
 obtain⟨U,F,M,h1,h2,h3,h4,h5⟩:=I.xa
 obtain⟨w',O,W,E⟩:=SR y h1 ht V J
 refine⟨w',O,k w' ⟨I.aE.trans E (λ_ h=>h) λb hb B=>(h2 b B).elim id λhh=>cW,U,F,M,W,h2,h3,h4,h5.loc λb hb=>E.cI b (h5.lt b hb) λB=>h3 b B hb⟩⟩
end
section
variable {P:Program}{w w0:World}{A S:Nat->Prop}{L:List HP}
theorem aU{T:TypeId}{b o:Nat}{v:Value}{K:Value->Prop}(ht:aaE P T)(hb:Cell w b o v)(k:K v) :
  Kw P (yv T (.pointer (some ⟨b,o,none⟩))) w K:=⟨v,aG ht hb,k⟩
theorem cU{α:Type}[Flat α]{T:TypeId}{x:α}{K:Value->jj}(B:St w0 A L w)
  (k:∀b w',St w0 A (cI b (Flat.enc x)::L) w'->K (.pointer (some ⟨b,0,none⟩)) w'):nU P (sZ T (Flat.val x)) w K:=by
 refine⟨_,_,Nb T _,k _ _ ?_⟩
 rw[sC]
 exact B.push
theorem VN{T:Nat}{cx cy:Bool}{a b:Int}{K:Value->Prop}(B:0<=a)(hb:0<b)(k:K (jK (a % b))):eM P (lR .rem T cx cy (jK a) (jK b)) K:=by
 refine⟨_,?_,k⟩
 show pr P (Op.intDiv .rem .i64 a b)=_
 unfold Op.intDiv
 rw[fU cW]
 show some (qs .i64 (a.tmod b))=_
 grind
def wm(a b:Int):Int:=((BitVec.ofInt 64 a &&& BitVec.ofInt 64 b).toNat:Int)
theorem Cy(a:Int){b:Int}(B:0<=b)(h1:b<=9223372036854775807):0<=wm a b/\wm a b<=b:=by
 unfold wm
 refine⟨cW,?_⟩
 have h2:(BitVec.ofInt 64 a &&& BitVec.ofInt 64 b).toNat<=(BitVec.ofInt 64 b).toNat:=by
  rw[BitVec.toNat_and];exact Nat.and_le_right
 have h3:((BitVec.ofInt 64 b).toNat:Int)=b:=by
  rw[BitVec.toNat_ofInt]
  omega
 omega
theorem VO{T:Nat}{cx cy:Bool}{a b:Int}{K:Value->Prop}(B:0<=b)(h1:b<=9223372036854775807)(k:K (jK (wm a b))):eM P (lR .and T cx cy (jK a) (jK b)) K:=by
 refine⟨_,?_,k⟩
 show some (qs .i64 (IntKind.i64.wrap ((BitVec.ofInt 64 a &&& BitVec.ofInt 64 b).toNat:Int)))=_
 have:=Cy a B h1
 unfold wm at this |-
 rw[IntWalk.i64_in _ cW]
theorem KK{T:Nat}{a b:Bool}(h:P.underlying T=some .bool):pr P (Op.equal T (.bool a) (.bool b))=some (a == b):=by
 show pr P (Op.equalIn 10000 T (.bool a) (.bool b))=_
 unfold Op.equalIn
 rw[cX,dC h]
 rfl
theorem tz{T:Nat}{cx cy:Bool}{a b:Bool}{K:Value->Prop}(h:P.underlying T=some .bool)(k:K (.bool (a != b))):eM P (lR .neq T cx cy (.bool a) (.bool b)) K:=by
 refine⟨_,?_,k⟩
 show pr P (do pure (y9 (!(<- Op.equal T (.bool a) (.bool b)))))=_
 rw[yG _ (λb=>y9 (!b)),KK h];rfl
theorem Ni{T e:Nat}{p:Option Addr}(h:P.underlying T=some (.pointer e)):pr P (Op.equal T (.pointer p) (.pointer none))=some p.isNone:=by
 show pr P (Op.equalIn 10000 T (.pointer p) (.pointer none))=_
 unfold Op.equalIn
 rw[cX,dC h]
 cases p<;>rfl
theorem z9{T e:Nat}{cx cy:Bool}{p:Option Addr}{K:Value->Prop}(h:P.underlying T=some (.pointer e))(k:K (.bool p.isNone)):eM P (lR .eql T cx cy (.pointer p) (.pointer none)) K:=by
 refine⟨_,?_,k⟩
 show pr P (do pure (y9 (<- Op.equal T (.pointer p) (.pointer none))))=_
 rw[yG,Ni h];rfl
theorem KL{T e:Nat}{a:Option Addr}{n c:Nat}(h:P.underlying T=some (.slice e))(B:a=none->n=0/\c=0):pr P (Op.equal T (.slice a n c) (.slice none 0 0))=some a.isNone:=by
 show pr P (Op.equalIn 10000 T (.slice a n c) (.slice none 0 0))=_
 unfold Op.equalIn
 rw[cX,dC h]
 cases a<;>rfl
theorem aaG{T e:Nat}{cx cy:Bool}{a:Option Addr}{n c:Nat}{K:Value->Prop}(h:P.underlying T=some (.slice e))(B:a=none->n=0/\c=0)(k:K (.bool a.isNone)):eM P (lR .eql T cx cy (.slice a n c) (.slice none 0 0)) K:=by
 refine⟨_,?_,k⟩
 show pr P (do pure (y9 (<- Op.equal T (.slice a n c) (.slice none 0 0))))=_
 rw[yG,KL h B];rfl
def qq:TypeDesc->Option Nat
 | .int .i64=>some 0
 | .bool=>some 1
 | .string=>some 2
 | _=>none
def qJ:Value->Option Nat
 | .int .i64 _=>some 0
 | .bool _=>some 1
 | .string _=>some 2
 | _=>none
def eqV:Value->Value->Bool
 | .int _ a,.int _ b=>decide (a=b)
 | .bool a,.bool b=>a == b
 | .string a,.string b=>a == b
 | _,_=>false
def vk:List Value->List Value->Bool
 | a::x,b::y=>eqV a b&&vk x y
 | _,_=>true
def qK(P:Program):Nat->List Field->Option (List Nat)
 | _,[]=>some []
 | k,f::fs=>
  if f.name ≠ "_" /\ f.offset=k then
   match P.underlying f.type with
   | some d=>match qq d,qK P (k+1) fs with
    | some n,some r=>some (n::r)
    | _,_=>none
   | none=>none
  else none
def yH(P:Program)(T:TypeId):Option (List Nat):=
 match P.underlying T with
 | some (.struct B)=>if P.stoodInHeld T=false/\P.eqGuardType P.depth T=false then qK P 0 B.toList else none
 | _=>none
def SS(d:Nat)(xs ys:Array Value):List Field->Sem Bool
 | []=>pure true
 | f::r => if f.name ≠ "_" then do
   let same <- Op.equalIn d f.type (<- part f.type xs f.offset) (<- part f.type ys f.offset)
   if (!same)=true then pure false else SS d xs ys r
  else SS d xs ys r
theorem GC{T:TypeId}{d:TypeDesc}{n:Nat}(h:P.underlying T=some d)(B:qq d=some n):pr P (isAgg T)=some false:=by
 unfold isAgg
 rw[cX,dC h]
 cases d<;>simp[qq]at B<;>rfl
theorem Nj{T:TypeId}{d:TypeDesc}{n o:Nat}{cs:Array Value}{v:Value}(h:P.underlying T=some d)(B:qq d=some n)(E:cs[o]?=some v):pr P (part T cs o)=some v:=by
 unfold part
 rw[cX,GC h B]
 simp only[o5,Pf,if_false,E]
 rfl
theorem F4{k:Nat}{T:TypeId}{d:TypeDesc}{n:Nat}{a b:Value}(h:P.underlying T=some d)(E:qq d=some n)(B:qJ a=some n)(hb:qJ b=some n) :
  pr P (Op.equalIn (k+1) T a b)=some (eqV a b):=by
 unfold Op.equalIn
 rw[cX,dC h]
 simp only[o5]
 cases d<;>simp only[qq]at E<;>try(cases E;done)
 case int kd=>
  cases kd<;>simp at E
  subst E
  cases a<;>simp only[qJ]at B<;>try(cases B;done)
  rename_i ka na
  cases b<;>simp only[qJ]at hb<;>try(cases hb;done)
  rename_i kb nb
  cases ka<;>simp at B
  cases kb<;>simp at hb
  rfl
 case bool=>
  cases E
  cases a<;>simp only[qJ]at B<;>first|(rename_i ka na;cases ka<;>simp at B)|skip
  all_goals try(simp at B;done)
  cases b<;>simp only[qJ]at hb<;>first|(rename_i kb nb;cases kb<;>simp at hb)|skip
  all_goals try(simp at hb;done)
  rfl
 case string=>
  cases E
  cases a<;>simp only[qJ]at B<;>first|(rename_i ka na;cases ka<;>simp at B)|skip
  all_goals try(simp at B;done)
  cases b<;>simp only[qJ]at hb<;>first|(rename_i kb nb;cases kb<;>simp at hb)|skip
  all_goals try(simp at hb;done)
  rfl
theorem Ps{k:Nat}{xs ys:List Value}:∀(B:List Field) (i:Nat) (ks:List Nat),qK P i B=some ks->(∀j n,ks[j]?=some n->∃a b,xs[i+j]?=some a/\ys[i+j]?=some b/\qJ a=some n/\qJ b=some n)->
  pr P (SS (k+1) xs.toArray ys.toArray B)=some (vk ((xs.drop i).take ks.length) ((ys.drop i).take ks.length)):=by
 intro B
 induction B with
 | nil=>intro i ks h _;simp only[qK,qa.injEq]at h;subst h;simp[SS,vk];rfl
 | cons f B W=>
  intro i ks h M
  unfold qK at h
  split at h
  .rename_i hf
   cases hu:P.underlying f.type with
   | none=>grind
   | some d=>
    rw[hu]at h
    dsimp only at h
    cases hd:qq d with
    | none=>grind
    | some n=>
     rw[hd]at h
     cases hr:qK P (i+1) B with
     | none=>grind
     | some r=>
      rw[hr]at h
      simp only[qa.injEq]at h
      subst h
      obtain⟨a,b,E,hb,U,V⟩:=M 0 n rfl
      rw[Pd]at E hb
      have I:xs.drop i=a::xs.drop (i+1):=by
       rw[<- M1 (l0.1 E).1,(l0.1 E).2]
      have J:ys.drop i=b::ys.drop (i+1):=by
       rw[<- M1 (l0.1 hb).1,(l0.1 hb).2]
      have O:=W (i+1) r hr λj m hj=>by
       obtain⟨a',b',h1,h2,h3,h4⟩:=M (j+1) m eS
       grind
      unfold SS
      rw[fV hf.1,cX,Nj hu hd (v:=a) eS]
      simp only[o5]
      rw[cX,Nj hu hd (v:=b) eS]
      simp only[o5]
      rw[cX,F4 hu hd U V]
      simp only[o5,sf,I,J,aag,vk]
      cases he:eqV a b with
      | false=>rfl
      | true=>grind
  .cases h
theorem Dq{d:Nat}{t:TypeId}{B:Array Field}{xs ys:Array Value}(ht:P.underlying t=some (.struct B))(I:P.stoodInHeld t=false) :
  pr P (Op.equalIn (d+1) t (.agg xs) (.agg ys))=pr P (SS d xs ys B.toList):=by
 unfold Op.equalIn
 rw[cX,dC ht]
 simp only[o5,cX]
 rw[show pr P program=some P from rfl]
 simp only[o5,I,Pf,if_false]
 rw[<- Array.forIn_toList]
 generalize B.toList=l
 clear ht
 induction l with
 | nil=>rfl
 | cons f l E=>
  rw[cX]at E
  simp only[List.forIn_cons,SS,cX]
  split
  .simp only[cX]
   cases pr P (part f.type xs f.offset)with
   | none=>rfl
   | some a=>
    simp only[o5]
    cases pr P (part f.type ys f.offset)with
    | none=>rfl
    | some b=>
     simp only[o5]
     cases pr P (Op.equalIn d f.type a b)with
     | none=>rfl
     | some r=>
      cases r
      .rfl
      .simp only[o5,Bool.not_true,Pf,if_false,gi]
       exact E
  .simp only[gi,o5]
   exact E
theorem Dr{T:TypeId}{ks:List Nat}{xs ys:List Value}(h:yH P T=some ks)(E:xs.map qJ=ks.map some)(B:ys.map qJ=ks.map some) :
  pr P (Op.equal T (.agg xs.toArray) (.agg ys.toArray))=some (vk xs ys)/\P.eqGuardType P.depth T=false:=by
 unfold yH at h
 split at h
 .rename_i fs hfs
  split at h
  .rename_i hc
   refine⟨?_,hc.2⟩
   show pr P (Op.equalIn 10000 T _ _)=_
   rw[Dq hfs hc.1]
   have M:xs.length=ks.length:=by have:=hM List.length E;grind
   have I:ys.length=ks.length:=by have:=hM List.length B;grind
   rw[Ps (xs:=xs) (ys:=ys) fs.toList 0 ks h λj n O=>?_]
   .grind
   have J:j<ks.length:=(l0.1 O).1
   refine⟨xs[j]'(cW),ys[j]'(cW),eU,eU,?_,?_⟩
   .have:=hM (λl=>l[j]?) E
    grind
   have:=hM (λl=>l[j]?) B
   grind
  cases h
 cases h
theorem X4{T:Nat}{cx cy:Bool}{ks:List Nat}{xs ys:List Value}{K:Value->Prop}(h:yH P T=some ks)(E:xs.map qJ=ks.map some)(B:ys.map qJ=ks.map some)(k:K (.bool (vk xs ys))) :
  eM P (lR .eql T cx cy (.agg xs.toArray) (.agg ys.toArray)) K:=by
 obtain⟨h1,h2⟩:=Dr h E B
 refine⟨_,?_,k⟩
 show pr P (if P.eqGuardType P.depth T=true then stuck "an interface in a part" else(do pure (y9 (<- Op.equal T (.agg xs.toArray) (.agg ys.toArray))) : Sem Value))=_
 rw[h2,fU eU,yG,h1];rfl
theorem X5{T:Nat}{cx cy:Bool}{ks:List Nat}{xs ys:List Value}{K:Value->Prop}(h:yH P T=some ks)(E:xs.map qJ=ks.map some)(B:ys.map qJ=ks.map some)(k:K (.bool (!vk xs ys))) :
  eM P (lR .neq T cx cy (.agg xs.toArray) (.agg ys.toArray)) K:=by
 obtain⟨h1,h2⟩:=Dr h E B
 refine⟨_,?_,k⟩
 show pr P (if P.eqGuardType P.depth T=true then stuck "an interface in a part" else(do pure (y9 (!(<- Op.equal T (.agg xs.toArray) (.agg ys.toArray)))) : Sem Value))=_
 rw[h2,fU eU,yG _ (λb=>y9 (!b)),h1];rfl
theorem nO{T:Nat}{cx cy:Bool}{ks:List Nat}{xs ys:List Value}{K:Value->Prop}{p:Prop}[Decidable p](h:yH P T=some ks)(E:xs.map qJ=ks.map some)(B:ys.map qJ=ks.map some)
  (I:vk xs ys=decide p) (k:K (.bool (decide p))):eM P (lR .eql T cx cy (.agg xs.toArray) (.agg ys.toArray)) K:=X4 h E B (I▸k)
theorem E6{T:Nat}{cx cy:Bool}{ks:List Nat}{xs ys:List Value}{K:Value->Prop}{p:Prop}[Decidable p](h:yH P T=some ks)(E:xs.map qJ=ks.map some)(B:ys.map qJ=ks.map some)
  (I:vk xs ys=decide p) (k:K (.bool (decide (¬ p)))):eM P (lR .neq T cx cy (.agg xs.toArray) (.agg ys.toArray)) K:=X5 h E B eS
end
end Go.Fw
namespace Go.Proofs.YtnjcingfdhjfkaaGreat
open Go.Fw
def aV:cY ji 3=some (false,1):=by kernel_rfl
def xH:fC ji 3=some (some (jK 0)):=by kernel_rfl
def sD:Tryz.prog.underlying 3=some (.int .i64):=by kernel_rfl
def OJ:cY ji 4=some (false,1):=by kernel_rfl
def akJ:fC ji 4=some (some (.bool false)):=by kernel_rfl
def Pt:Tryz.prog.underlying 4=some (.bool):=by kernel_rfl
def ty5:cY ji 5=some (false,1):=by kernel_rfl
def BV:Tryz.prog.underlying 5=some (.int .u8):=by kernel_rfl
def mJ:cY ji 9=some (false,1):=by kernel_rfl
def jD:Tryz.prog.underlying 9=some (.string):=by kernel_rfl
def wo:cY ji 22=some (false,1):=by kernel_rfl
def zN:gg ji 22=some (23,1,24,some 1):=by kernel_rfl
def lV:cY ji 23=some (false,1):=by kernel_rfl
def mG:gg ji 23=some (163,3,32,some 3):=by kernel_rfl
def lz:cY ji 24=some (false,1):=by kernel_rfl
def kI:gg ji 24=some (98,4,72,some 4):=by kernel_rfl
def xc:cY ji 25=some (false,1):=by kernel_rfl
def Cz:gg ji 25=some (89,2,32,some 2):=by kernel_rfl
def jE:cY ji 27=some (true,6):=by kernel_rfl
def lM:aT ji 27 0=some (0,some true):=by kernel_rfl
def yI:aT ji 27 1=some (1,some true):=by kernel_rfl
def wC:aT ji 27 2=some (2,some true):=by kernel_rfl
def qg:aT ji 27 3=some (3,some true):=by kernel_rfl
def wD:aT ji 27 4=some (4,some true):=by kernel_rfl
def nn:aT ji 27 5=some (5,some true):=by kernel_rfl
def yJ:fC ji 27=some (some (.agg [.slice none 0 0,.slice none 0 0,.slice none 0 0,.slice none 0 0,.slice none 0 0,.slice none 0 0].toArray)):=by kernel_rfl
def cZ:cY ji 28=some (false,1):=by kernel_rfl
def cE:gg ji 28=some (3,1,8,some 1):=by kernel_rfl
def BW:cY ji 30=some (false,1):=by kernel_rfl
def wq:gg ji 30=some (33,3,40,some 3):=by kernel_rfl
def l7:cY ji 31=some (false,1):=by kernel_rfl
def jN:gg ji 31=some (129,6,80,some 6):=by kernel_rfl
def og:cY ji 33=some (true,3):=by kernel_rfl
def nq:aT ji 33 0=some (0,some true):=by kernel_rfl
def wE:aT ji 33 1=some (1,some true):=by kernel_rfl
def iR:aT ji 33 2=some (2,some true):=by kernel_rfl
def Nk:fC ji 33=some (some (.agg [jK 0,jK 0,.slice none 0 0].toArray)):=by kernel_rfl
def KM:cY ji 34=some (false,1):=by kernel_rfl
def Ds:gg ji 34=some (99,1,24,some 1):=by kernel_rfl
def tW:cY ji 36=some (true,9):=by kernel_rfl
def iD:aT ji 36 0=some (0,some true):=by kernel_rfl
def kU:aT ji 36 1=some (1,some true):=by kernel_rfl
def td:aT ji 36 2=some (2,some true):=by kernel_rfl
def uF:aT ji 36 3=some (3,some true):=by kernel_rfl
def oZ:aT ji 36 4=some (4,some true):=by kernel_rfl
def yK:aT ji 36 5=some (5,some true):=by kernel_rfl
def te:aT ji 36 6=some (8,some true):=by kernel_rfl
def Aa:fC ji 36=some (some (.agg [.slice none 0 0,jK 0,.slice none 0 0,jK 0,.slice none 0 0,jK 0,jK 0,.slice none 0 0,.slice none 0 0].toArray)):=by kernel_rfl
def qt:cY ji 37=some (false,1):=by kernel_rfl
def VP:Tryz.prog.underlying 42=some (.pointer 115):=by kernel_rfl
def mq:gg ji 45=some (52,4,48,some 4):=by kernel_rfl
def eV:cY ji 48=some (true,5):=by kernel_rfl
def rf:aT ji 48 0=some (0,some true):=by kernel_rfl
def agV:aT ji 48 1=some (1,some true):=by kernel_rfl
def Bm:aT ji 48 3=some (3,some true):=by kernel_rfl
def agW:aT ji 48 4=some (4,some true):=by kernel_rfl
def kV:fC ji 48=some (some (.agg [jK 0,jK 0,jK 0,jK 0,jK 0].toArray)):=by kernel_rfl
def ot:cY ji 52=some (true,4):=by kernel_rfl
def nV:aT ji 52 0=some (0,some true):=by kernel_rfl
def jw:aT ji 52 1=some (1,some true):=by kernel_rfl
def rh:aT ji 52 2=some (2,some true):=by kernel_rfl
def qh:aT ji 52 3=some (3,some true):=by kernel_rfl
def CA:fC ji 52=some (some (.agg [jK 0,jK 0,jK 0,.slice none 0 0].toArray)):=by kernel_rfl
def GD:cY ji 54=some (true,5):=by kernel_rfl
def Bn:aT ji 54 3=some (3,some true):=by kernel_rfl
def Bo:aT ji 54 4=some (4,some true):=by kernel_rfl
def E7:fC ji 54=some (some (.agg [jK 0,jK 0,jK 0,.bool false,.bool false].toArray)):=by kernel_rfl
def anI:gg ji 57=some (64,6,64,some 6):=by kernel_rfl
def X6:cY ji 64=some (true,6):=by kernel_rfl
def Nl:aT ji 64 0=some (0,some true):=by kernel_rfl
def agX:aT ji 64 1=some (1,some true):=by kernel_rfl
def Nm:aT ji 64 2=some (2,some true):=by kernel_rfl
def auF:Tryz.prog.underlying 68=some (.pointer 75):=by kernel_rfl
def Dt:cY ji 72=some (false,1):=by kernel_rfl
def zO:cY ji 73=some (false,1):=by kernel_rfl
def CB:gg ji 73=some (146,1,8,some 1):=by kernel_rfl
def Bp:aT ji 75 0=some (0,some true):=by kernel_rfl
def Du:aT ji 75 1=some (9,some true):=by kernel_rfl
def Dv:aT ji 75 2=some (10,some true):=by kernel_rfl
def qi:aT ji 75 3=some (11,some true):=by kernel_rfl
def yL:aT ji 75 4=some (12,some true):=by kernel_rfl
def mK:aT ji 75 5=some (13,some true):=by kernel_rfl
def yM:aT ji 75 6=some (14,some true):=by kernel_rfl
def VQ:aT ji 75 7=some (15,some true):=by kernel_rfl
def mO:cY ji 80=some (false,1):=by kernel_rfl
theorem jO:gg ji 80=some (161,4,32,some 4):=by kernel_rfl
def pJ:cY ji 86=some (false,1):=by kernel_rfl
def oh:gg ji 86=some (166,4,40,some 4):=by kernel_rfl
def agY:cY ji 89=some (true,2):=by kernel_rfl
def GV:aT ji 89 0=some (0,some true):=by kernel_rfl
def VR:aT ji 89 1=some (1,some true):=by kernel_rfl
def anJ:fC ji 89=some (some (.agg [.slice none 0 0,jK 0].toArray)):=by kernel_rfl
def tA:cY ji 95=some (false,1):=by kernel_rfl
def pK:gg ji 95=some (9,1,16,some 1):=by kernel_rfl
def xd:cY ji 96=some (false,1):=by kernel_rfl
def mH:gg ji 96=some (173,9,120,some 9):=by kernel_rfl
def Nn:cY ji 98=some (true,4):=by kernel_rfl
def Dw:aT ji 98 0=some (0,some true):=by kernel_rfl
def lO:aT ji 98 1=some (1,some true):=by kernel_rfl
def uG:aT ji 98 2=some (2,some true):=by kernel_rfl
def Dx:aT ji 98 3=some (3,some true):=by kernel_rfl
def SU:fC ji 98=some (some (.agg [.string ⟨#[]⟩,.slice none 0 0,.slice none 0 0,jK 0].toArray)):=by kernel_rfl
def nP:cY ji 99=some (false,1):=by kernel_rfl
def lD:gg ji 99=some (200,2,16,some 2):=by kernel_rfl
def vl:gg ji 105=some (4,1,1,some 1):=by kernel_rfl
def vm:cY ji 109=some (false,1):=by kernel_rfl
def wF:cY ji 112=some (false,1):=by kernel_rfl
def tB:cY ji 113=some (false,1):=by kernel_rfl
def ui:gg ji 113=some (119,1,8,some 1):=by kernel_rfl
def akK:cY ji 115=some (true,16):=by kernel_rfl
def xI:aT ji 115 0=some (0,some true):=by kernel_rfl
def aaH:aT ji 115 1=some (9,some true):=by kernel_rfl
def l8:aT ji 115 2=some (10,some true):=by kernel_rfl
def ri:aT ji 115 3=some (11,some true):=by kernel_rfl
def lE:aT ji 115 4=some (12,some true):=by kernel_rfl
def HV:aT ji 115 5=some (13,some true):=by kernel_rfl
def rj:aT ji 115 6=some (14,some true):=by kernel_rfl
def HW:aT ji 115 7=some (15,some true):=by kernel_rfl
def agZ:fC ji 115=some (some (.agg [.slice none 0 0,jK 0,.slice none 0 0,jK 0,.slice none 0 0,jK 0,jK 0,.slice none 0 0,.slice none 0 0,jK 0,.pointer none,.slice none 0 0,.slice none 0 0,jK 0,jK 0,jK 0].toArray)):=by kernel_rfl
def Dy:cY ji 119=some (false,1):=by kernel_rfl
def akL:cY ji 120=some (false,1):=by kernel_rfl
def ag0:fC ji 120=some (some (.nilFunc)):=by kernel_rfl
def akM:cY ji 122=some (true,10):=by kernel_rfl
def pL:aT ji 122 0=some (0,some true):=by kernel_rfl
def Pu:aT ji 122 1=some (1,some true):=by kernel_rfl
def mP:aT ji 122 2=some (4,some true):=by kernel_rfl
def tC:aT ji 122 3=some (5,some true):=by kernel_rfl
def Ab:aT ji 122 4=some (6,some true):=by kernel_rfl
def xJ:aT ji 122 5=some (7,some true):=by kernel_rfl
def xK:aT ji 122 6=some (8,some true):=by kernel_rfl
def HX:aT ji 122 7=some (9,some true):=by kernel_rfl
def ag1:fC ji 122=some (some (.agg [.pointer none,jK 0,jK 0,.slice none 0 0,jK 0,.slice none 0 0,.slice none 0 0,jK 0,jK 0,jK 0].toArray)):=by kernel_rfl
def gN:cY ji 129=some (true,6):=by kernel_rfl
def eA:aT ji 129 0=some (0,some true):=by kernel_rfl
def gr:aT ji 129 1=some (1,some true):=by kernel_rfl
def dS:aT ji 129 2=some (2,some true):=by kernel_rfl
def ou:aT ji 129 3=some (3,some true):=by kernel_rfl
def iZ:aT ji 129 4=some (4,some true):=by kernel_rfl
def gS:aT ji 129 5=some (5,some true):=by kernel_rfl
def j7:fC ji 129=some (some (.agg [jK 0,jK 0,jK 0,.slice none 0 0,.slice none 0 0,jK 0].toArray)):=by kernel_rfl
def vn:cY ji 136=some (false,1):=by kernel_rfl
def wG:cY ji 141=some (false,1):=by kernel_rfl
def wH:gg ji 141=some (151,3,24,some 3):=by kernel_rfl
def xL:aT ji 143 0=some (0,some true):=by kernel_rfl
def aaI:aT ji 143 1=some (1,some true):=by kernel_rfl
def tD:aT ji 143 2=some (2,some true):=by kernel_rfl
def Ac:aT ji 143 3=some (3,some true):=by kernel_rfl
def mQ:aT ji 143 4=some (4,some true):=by kernel_rfl
def xM:aT ji 145 0=some (0,some true):=by kernel_rfl
def jP:aT ji 145 1=some (3,some true):=by kernel_rfl
def xN:aT ji 145 2=some (4,some true):=by kernel_rfl
def Dz:aT ji 145 3=some (5,some true):=by kernel_rfl
def l9:aT ji 145 4=some (6,some true):=by kernel_rfl
def xO:aT ji 145 5=some (7,some true):=by kernel_rfl
def Ad:cY ji 146=some (false,1):=by kernel_rfl
def aaJ:aT ji 148 0=some (0,some true):=by kernel_rfl
def im:aT ji 148 1=some (1,some true):=by kernel_rfl
def aaK:cY ji 151=some (true,3):=by kernel_rfl
def Ae:aT ji 151 0=some (0,some true):=by kernel_rfl
def Pv:aT ji 151 1=some (1,some true):=by kernel_rfl
def Pw:aT ji 151 2=some (2,some true):=by kernel_rfl
def ag2:fC ji 151=some (some (.agg [jK 0,jK 0,jK 0].toArray)):=by kernel_rfl
def nd:gg ji 152=some (28,1,24,some 1):=by kernel_rfl
def iI:cY ji 161=some (true,4):=by kernel_rfl
def iJ:aT ji 161 0=some (0,some true):=by kernel_rfl
def ix:aT ji 161 1=some (1,some true):=by kernel_rfl
def ma:aT ji 161 2=some (2,some true):=by kernel_rfl
def mc:aT ji 161 3=some (3,some true):=by kernel_rfl
def tf:fC ji 161=some (some (.agg [jK 0,jK 0,jK 0,jK 0].toArray)):=by kernel_rfl
def B9:cY ji 163=some (true,3):=by kernel_rfl
def tG:aT ji 163 0=some (0,some true):=by kernel_rfl
def DA:aT ji 163 1=some (1,some true):=by kernel_rfl
def HY:aT ji 163 2=some (2,some true):=by kernel_rfl
def GW:fC ji 163=some (some (.agg [.string ⟨#[]⟩,jK 0,jK 0].toArray)):=by kernel_rfl
def Px:cY ji 166=some (true,4):=by kernel_rfl
def lF:aT ji 166 0=some (0,some true):=by kernel_rfl
def pM:aT ji 166 1=some (1,some true):=by kernel_rfl
def nE:aT ji 166 2=some (2,some true):=by kernel_rfl
def HZ:aT ji 166 3=some (3,some true):=by kernel_rfl
def VS:fC ji 166=some (some (.agg [jK 0,jK 0,.string ⟨#[]⟩,jK 0].toArray)):=by kernel_rfl
def iy:cY ji 173=some (true,9):=by kernel_rfl
def gT:aT ji 173 0=some (0,some true):=by kernel_rfl
def ow:aT ji 173 1=some (1,some true):=by kernel_rfl
def lG:aT ji 173 2=some (2,some true):=by kernel_rfl
def ox:aT ji 173 3=some (3,some true):=by kernel_rfl
def rn:aT ji 173 4=some (4,some true):=by kernel_rfl
def xP:aT ji 173 5=some (5,some true):=by kernel_rfl
def pN:aT ji 173 6=some (6,some true):=by kernel_rfl
def kJ:aT ji 173 7=some (7,some true):=by kernel_rfl
def vo:aT ji 173 8=some (8,some true):=by kernel_rfl
def uH:fC ji 173=some (some (.agg [jK 0,.string ⟨#[]⟩,.string ⟨#[]⟩,.slice none 0 0,.slice none 0 0,jK 0,jK 0,jK 0,jK 0].toArray)):=by kernel_rfl
def F5:cY ji 177=some (true,7):=by kernel_rfl
def H0:aT ji 177 0=some (0,some true):=by kernel_rfl
def DB:aT ji 177 1=some (6,some true):=by kernel_rfl
def ag3:fC ji 177=some (some (.agg [.slice none 0 0,.slice none 0 0,.slice none 0 0,.slice none 0 0,.slice none 0 0,.slice none 0 0,.slice none 0 0].toArray)):=by kernel_rfl
def Py:aT ji 197 0=some (0,some true):=by kernel_rfl
def mR:aT ji 197 1=some (1,some true):=by kernel_rfl
def Pz:cY ji 200=some (true,2):=by kernel_rfl
def jx:aT ji 200 0=some (0,some true):=by kernel_rfl
def pO:aT ji 200 1=some (1,some true):=by kernel_rfl
def VT:fC ji 200=some (some (.agg [jK 0,jK 0].toArray)):=by kernel_rfl
def wI:cY ji 201=some (false,1):=by kernel_rfl
def xQ:aT ji 203 0=some (0,some true):=by kernel_rfl
def PA:aT ji 203 1=some (1,some true):=by kernel_rfl
def vp:aT ji 203 2=some (2,some true):=by kernel_rfl
def DC:aT ji 203 3=some (3,some true):=by kernel_rfl
def pP:aT ji 203 4=some (4,some true):=by kernel_rfl
def ag4:fC ji 209=some (some (.nilFunc)):=by kernel_rfl
def Af:gg ji 213=some (216,2,16,some 2):=by kernel_rfl
def Bq:fC ji 213=some (some (.slice none 0 0)):=by kernel_rfl
def VU:cY ji 216=some (true,2):=by kernel_rfl
def PB:aT ji 216 0=some (0,some true):=by kernel_rfl
def PC:aT ji 216 1=some (1,some true):=by kernel_rfl
def VV:fC ji 216=some (some (.agg [jK 0,jK 0].toArray)):=by kernel_rfl
def akN:cY ji 221=some (true,20):=by kernel_rfl
def ag5:fC ji 221=some (some (.agg [jK 0,jK 0,jK 0,jK 0,jK 0,jK 0,jK 0,jK 0,jK 0,jK 0,jK 0,jK 0,jK 0,jK 0,jK 0,jK 0,jK 0,jK 0,jK 0,jK 0].toArray)):=by kernel_rfl
def kK:cY ji 232=some (false,1):=by kernel_rfl
def gZ:gg ji 232=some (242,4,40,some 4):=by kernel_rfl
def me:aT ji 237 0=some (0,some true):=by kernel_rfl
def gH:aT ji 237 1=some (1,some true):=by kernel_rfl
def oy:aT ji 237 2=some (2,some true):=by kernel_rfl
def Ag:aT ji 237 3=some (3,some true):=by kernel_rfl
def akO:cY ji 242=some (true,4):=by kernel_rfl
def nF:aT ji 242 0=some (0,some true):=by kernel_rfl
def pQ:aT ji 242 1=some (1,some true):=by kernel_rfl
def vq:aT ji 242 2=some (2,some true):=by kernel_rfl
def nG:aT ji 242 3=some (3,some true):=by kernel_rfl
def ag6:fC ji 242=some (some (.agg [jK 0,.string ⟨#[]⟩,jK 0,jK 0].toArray)):=by kernel_rfl
def tH:aT ji 245 0=some (0,some true):=by kernel_rfl
def xR:aT ji 247 0=some (0,some true):=by kernel_rfl
def PD:aT ji 247 1=some (1,some true):=by kernel_rfl
def ag7:fC ji 247=some (some (.agg [.slice none 0 0,jK 0].toArray)):=by kernel_rfl
def akP:gg ji 252=some (5,1,1,some 1):=by kernel_rfl
def akQ:cY ji 253=some (true,16):=by kernel_rfl
def ag8:fC ji 253=some (some (.agg [.string ⟨#[]⟩,.string ⟨#[]⟩,.string ⟨#[]⟩,.string ⟨#[]⟩,.string ⟨#[]⟩,.string ⟨#[]⟩,.string ⟨#[]⟩,.string ⟨#[]⟩,.string ⟨#[]⟩,.string ⟨#[]⟩,.string ⟨#[]⟩,.string ⟨#[]⟩,.string ⟨#[]⟩,.string ⟨#[]⟩,.string ⟨#[]⟩,.string ⟨#[]⟩].toArray)):=by kernel_rfl
def Ah:cY ji 288=some (false,1):=by kernel_rfl
def aaL:cY ji 289=some (true,16):=by kernel_rfl
def VW:fC ji 289=some (some (.agg [.nilFunc,.nilFunc,.nilFunc,.nilFunc,.nilFunc,.nilFunc,.nilFunc,.nilFunc,.nilFunc,.nilFunc,.nilFunc,.nilFunc,.nilFunc,.nilFunc,.nilFunc,.nilFunc].toArray)):=by kernel_rfl
def auG:cY ji 299=some (false,1):=by kernel_rfl
def jQ:aT ji 304 0=some (0,some true):=by kernel_rfl
def ga:aT ji 304 1=some (1,some true):=by kernel_rfl
def mS:aT ji 304 2=some (2,some true):=by kernel_rfl
def DD:aT ji 304 3=some (3,some true):=by kernel_rfl
def tI:aT ji 304 4=some (4,some true):=by kernel_rfl
def iu:cY ji 307=some (true,4):=by kernel_rfl
def vr:aT ji 307 0=some (0,some true):=by kernel_rfl
def rp:aT ji 307 1=some (1,some true):=by kernel_rfl
def xS:aT ji 307 2=some (2,some true):=by kernel_rfl
def aaM:aT ji 307 3=some (3,some true):=by kernel_rfl
def wJ:fC ji 307=some (some (.agg [.slice none 0 0,jK 0,jK 0,jK 0].toArray)):=by kernel_rfl
def pR(a1:Option Addr)(B c1:Nat)(M:Option Addr)(W J:Nat)(a3:Option Addr)(O I:Nat)(E:Option Addr)(V U:Nat):pr ji (n3 27 [(1,.slice a1 B c1),(2,.slice M W J),(3,.slice a3 O I),(4,.slice E V U)].toArray)=some (.agg [.slice none 0 0,.slice a1 B c1,.slice M W J,.slice a3 O I,.slice E V U,.slice none 0 0].toArray):=by kernel_rfl
def PE(a0:Int)(a1:Int)(E:Option Addr)(I B:Nat):pr ji (n3 33 [(0,jK a0),(1,jK a1),(2,.slice E I B)].toArray)=some (.agg [jK a0,jK a1,.slice E I B].toArray):=by kernel_rfl
def Ai(a1:Int)(E:Option Addr)(I B:Nat)(J:Int):pr ji (n3 36 [(1,jK a1),(2,.slice E I B),(3,jK J)].toArray)=some (.agg [.slice none 0 0,jK a1,.slice E I B,jK J,.slice none 0 0,jK 0,jK 0,.slice none 0 0,.slice none 0 0].toArray):=by kernel_rfl
def Aj:pr ji (n3 48 [].toArray)=some (.agg [jK 0,jK 0,jK 0,jK 0,jK 0].toArray):=by kernel_rfl
def ag9(a0:Int):pr ji (n3 48 [(0,jK a0)].toArray)=some (.agg [jK a0,jK 0,jK 0,jK 0,jK 0].toArray):=by kernel_rfl
def Br(a0:Int)(a1:Int):pr ji (n3 48 [(0,jK a0),(1,jK a1)].toArray)=some (.agg [jK a0,jK a1,jK 0,jK 0,jK 0].toArray):=by kernel_rfl
def qL(a0:Int)(a1:Int)(B:Int):pr ji (n3 48 [(0,jK a0),(1,jK a1),(2,jK B)].toArray)=some (.agg [jK a0,jK a1,jK B,jK 0,jK 0].toArray):=by kernel_rfl
def xe(a0:Int)(a1:Int)(E:Int)(B:Int):pr ji (n3 48 [(0,jK a0),(1,jK a1),(2,jK E),(3,jK B)].toArray)=some (.agg [jK a0,jK a1,jK E,jK B,jK 0].toArray):=by kernel_rfl
def E8(a0:Int)(B:Int):pr ji (n3 48 [(0,jK a0),(2,jK B)].toArray)=some (.agg [jK a0,jK 0,jK B,jK 0,jK 0].toArray):=by kernel_rfl
def tJ(a0:Int)(B:Int)(E:Int):pr ji (n3 48 [(0,jK a0),(2,jK B),(3,jK E)].toArray)=some (.agg [jK a0,jK 0,jK B,jK E,jK 0].toArray):=by kernel_rfl
def KN(a0:Int)(B:Int)(E:Int)(I:Int):pr ji (n3 48 [(0,jK a0),(2,jK B),(3,jK E),(4,jK I)].toArray)=some (.agg [jK a0,jK 0,jK B,jK E,jK I].toArray):=by kernel_rfl
def uX(a0:Int)(B:Int):pr ji (n3 48 [(0,jK a0),(3,jK B)].toArray)=some (.agg [jK a0,jK 0,jK 0,jK B,jK 0].toArray):=by kernel_rfl
def X7(a1:Int)(B:Int):pr ji (n3 48 [(1,jK a1),(2,jK B)].toArray)=some (.agg [jK 0,jK a1,jK B,jK 0,jK 0].toArray):=by kernel_rfl
def Np(a0:Int):pr ji (n3 52 [(0,jK a0)].toArray)=some (.agg [jK a0,jK 0,jK 0,.slice none 0 0].toArray):=by kernel_rfl
def E9(a0:Int)(a1:Int):pr ji (n3 52 [(0,jK a0),(1,jK a1)].toArray)=some (.agg [jK a0,jK a1,jK 0,.slice none 0 0].toArray):=by kernel_rfl
def F6(a0:Int)(a1:Int)(B:Int):pr ji (n3 52 [(0,jK a0),(1,jK a1),(2,jK B)].toArray)=some (.agg [jK a0,jK a1,jK B,.slice none 0 0].toArray):=by kernel_rfl
def Fa(a0:Int)(I:Option Addr)(E B:Nat):pr ji (n3 52 [(0,jK a0),(3,.slice I E B)].toArray)=some (.agg [jK a0,jK 0,jK 0,.slice I E B].toArray):=by kernel_rfl
def PH(a0:Int)(a1:Int)(B:Int):pr ji (n3 54 [(0,jK a0),(1,jK a1),(2,jK B)].toArray)=some (.agg [jK a0,jK a1,jK B,.bool false,.bool false].toArray):=by kernel_rfl
def KO(a0:Int)(a1:Int)(E:Int)(B:Bool):pr ji (n3 54 [(0,jK a0),(1,jK a1),(2,jK E),(3,.bool B)].toArray)=some (.agg [jK a0,jK a1,jK E,.bool B,.bool false].toArray):=by kernel_rfl
def X8(a0:Int)(B:Bool):pr ji (n3 54 [(0,jK a0),(3,.bool B)].toArray)=some (.agg [jK a0,jK 0,jK 0,.bool B,.bool false].toArray):=by kernel_rfl
def X9(a1:Int)(B:Int):pr ji (n3 54 [(1,jK a1),(2,jK B)].toArray)=some (.agg [jK 0,jK a1,jK B,.bool false,.bool false].toArray):=by kernel_rfl
def PI(H6:Option Addr)(PJ W:Nat)(H7:Int)(H8:Option Addr)(H9 Ia:Nat)(V:Int)(PO:Option Addr)(PQ PR:Nat)(PU:Int)(B:Int)(J:Option Addr)(E O:Nat)(M:Option Addr)(U I:Nat)(a1:Int)(a3:Option Addr):pr ji (n3 75 [(0,.agg [.slice H6 PJ W,jK H7,.slice H8 H9 Ia,jK V,.slice PO PQ PR,jK PU,jK B,.slice J E O,.slice M U I].toArray),(1,jK a1),(3,.pointer a3)].toArray)=some (.agg [.slice H6 PJ W,jK H7,.slice H8 H9 Ia,jK V,.slice PO PQ PR,jK PU,jK B,.slice J E O,.slice M U I,jK a1,jK 0,.pointer a3,.slice none 0 0,.slice none 0 0,jK 0,jK 0].toArray):=by kernel_rfl
def LM(a0:Option Addr)(B c0:Nat)(a1:Int):pr ji (n3 89 [(0,.slice a0 B c0),(1,jK a1)].toArray)=some (.agg [.slice a0 B c0,jK a1].toArray):=by kernel_rfl
def Ya(a0:ByteArray)(B:Int):pr ji (n3 98 [(0,.string a0),(3,jK B)].toArray)=some (.agg [.string a0,.slice none 0 0,.slice none 0 0,jK B].toArray):=by kernel_rfl
def F7(a0:ByteArray)(J:Int)(I:Option Addr)(E B:Nat):pr ji (n3 98 [(0,.string a0),(3,jK J),(2,.slice I E B)].toArray)=some (.agg [.string a0,.slice none 0 0,.slice I E B,jK J].toArray):=by kernel_rfl
def aha(B:Int):pr ji (n3 98 [(3,jK B)].toArray)=some (.agg [.string ⟨#[]⟩,.slice none 0 0,.slice none 0 0,jK B].toArray):=by kernel_rfl
def SW(H6:Option Addr)(PJ W:Nat)(H7:Int)(H8:Option Addr)(H9 Ia:Nat)(V:Int)(PO:Option Addr)(PQ PR:Nat)(PU:Int)(B:Int)(J:Option Addr)(E O:Nat)(M:Option Addr)(U I:Nat)(a1:Int):pr ji (n3 115 [(0,.agg [.slice H6 PJ W,jK H7,.slice H8 H9 Ia,jK V,.slice PO PQ PR,jK PU,jK B,.slice J E O,.slice M U I].toArray),(1,jK a1)].toArray)=some (.agg [.slice H6 PJ W,jK H7,.slice H8 H9 Ia,jK V,.slice PO PQ PR,jK PU,jK B,.slice J E O,.slice M U I,jK a1,.pointer none,.slice none 0 0,.slice none 0 0,jK 0,jK 0,jK 0].toArray):=by kernel_rfl
def Ak(a0:Option Addr)(B:Int)(E:Int)(I:Option Addr)(M J:Nat)(a3:Option Addr)(W U:Nat)(O:Option Addr)(n4 V:Nat):pr ji (n3 122 [(0,.pointer a0),(1,.agg [jK B,jK E,.slice I M J].toArray),(3,.slice a3 W U),(4,.slice O n4 V)].toArray)=some (.agg [.pointer a0,jK B,jK E,.slice I M J,jK 0,.slice a3 W U,.slice O n4 V,jK 0,jK 0,jK 0].toArray):=by kernel_rfl
def Nq(a0:Int)(a1:Int)(B:Int):pr ji (n3 129 [(0,jK a0),(1,jK a1),(2,jK B)].toArray)=some (.agg [jK a0,jK a1,jK B,.slice none 0 0,.slice none 0 0,jK 0].toArray):=by kernel_rfl
def Ib(a0:Int)(a1:Int)(O:Option Addr)(J E:Nat)(B:Option Addr)(M I:Nat):pr ji (n3 129 [(0,jK a0),(1,jK a1),(3,.slice O J E),(4,.slice B M I)].toArray)=some (.agg [jK a0,jK a1,jK 0,.slice O J E,.slice B M I,jK 0].toArray):=by kernel_rfl
def Nr(a0:Int)(a1:Int)(B:Int):pr ji (n3 129 [(0,jK a0),(1,jK a1),(5,jK B)].toArray)=some (.agg [jK a0,jK a1,jK 0,.slice none 0 0,.slice none 0 0,jK B].toArray):=by kernel_rfl
def Ns(a0:Int)(J:Option Addr)(E B:Nat)(I:Int):pr ji (n3 129 [(0,jK a0),(3,.slice J E B),(5,jK I)].toArray)=some (.agg [jK a0,jK 0,jK 0,.slice J E B,.slice none 0 0,jK I].toArray):=by kernel_rfl
def Ic(a0:Int)(B:Int):pr ji (n3 129 [(0,jK a0),(5,jK B)].toArray)=some (.agg [jK a0,jK 0,jK 0,.slice none 0 0,.slice none 0 0,jK B].toArray):=by kernel_rfl
def SX(a0:Option Addr)(B c0:Nat)(a1:Option Addr)(E c1:Nat):pr ji (n3 143 [(0,.slice a0 B c0),(1,.slice a1 E c1)].toArray)=some (.agg [.slice a0 B c0,.slice a1 E c1,.slice none 0 0,.slice none 0 0,.slice none 0 0].toArray):=by kernel_rfl
def Al(H6:Int)(H7:Int)(B:Option Addr)(I J:Nat)(E:Option Addr)(V:Option Addr)(U O:Nat)(a3:Option Addr)(W M:Nat):pr ji (n3 145 [(0,.agg [jK H6,jK H7,.slice B I J].toArray),(4,.pointer E),(2,.slice V U O),(3,.slice a3 W M)].toArray)=some (.agg [jK H6,jK H7,.slice B I J,jK 0,.slice V U O,.slice a3 W M,.pointer E,jK 0].toArray):=by kernel_rfl
def aaU(a0:Int):pr ji (n3 148 [(0,jK a0)].toArray)=some (.agg [jK a0,.slice none 0 0].toArray):=by kernel_rfl
def Nt(a0:Int)(a1:Int)(B:Int):pr ji (n3 151 [(0,jK a0),(1,jK a1),(2,jK B)].toArray)=some (.agg [jK a0,jK a1,jK B].toArray):=by kernel_rfl
def Bs:pr ji (n3 161 [].toArray)=some (.agg [jK 0,jK 0,jK 0,jK 0].toArray):=by kernel_rfl
def Ie(a0:Int):pr ji (n3 161 [(0,jK a0)].toArray)=some (.agg [jK a0,jK 0,jK 0,jK 0].toArray):=by kernel_rfl
def CC(a0:Int)(a1:Int):pr ji (n3 161 [(0,jK a0),(1,jK a1)].toArray)=some (.agg [jK a0,jK a1,jK 0,jK 0].toArray):=by kernel_rfl
def Ig(a0:Int)(a1:Int)(E:Int)(B:Int):pr ji (n3 161 [(0,jK a0),(1,jK a1),(2,jK E),(3,jK B)].toArray)=some (.agg [jK a0,jK a1,jK E,jK B].toArray):=by kernel_rfl
def ahb:pr ji (n3 163 [].toArray)=some (.agg [.string ⟨#[]⟩,jK 0,jK 0].toArray):=by kernel_rfl
def Ih(a0:ByteArray)(B:Int):pr ji (n3 163 [(0,.string a0),(2,jK B)].toArray)=some (.agg [.string a0,jK 0,jK B].toArray):=by kernel_rfl
def Nu(a0:Int)(a1:Int)(B:Int):pr ji (n3 166 [(0,jK a0),(1,jK a1),(3,jK B)].toArray)=some (.agg [jK a0,jK a1,.string ⟨#[]⟩,jK B].toArray):=by kernel_rfl
def Nv(a0:Int)(B:ByteArray)(E:Int):pr ji (n3 166 [(0,jK a0),(2,.string B),(3,jK E)].toArray)=some (.agg [jK a0,jK 0,.string B,jK E].toArray):=by kernel_rfl
def Ii(a0:Int)(B:Int):pr ji (n3 166 [(0,jK a0),(3,jK B)].toArray)=some (.agg [jK a0,jK 0,.string ⟨#[]⟩,jK B].toArray):=by kernel_rfl
def SY(a0:Int)(B:Int):pr ji (n3 173 [(0,jK a0),(8,jK B)].toArray)=some (.agg [jK a0,.string ⟨#[]⟩,.string ⟨#[]⟩,.slice none 0 0,.slice none 0 0,jK 0,jK 0,jK 0,jK B].toArray):=by kernel_rfl
def SZ(H6:Option Addr)(PJ V:Nat)(W:Option Addr)(O J:Nat)(H8:Option Addr)(H9 Ia:Nat)(U:Option Addr)(B I:Nat)(PO:Option Addr)(PQ PR:Nat)(PU:Option Addr)(E M:Nat)(a1:Option Addr)(n1 c1:Nat):pr ji (n3 177 [(0,.agg [.slice H6 PJ V,.slice W O J,.slice H8 H9 Ia,.slice U B I,.slice PO PQ PR,.slice PU E M].toArray),(1,.slice a1 n1 c1)].toArray)=some (.agg [.slice H6 PJ V,.slice W O J,.slice H8 H9 Ia,.slice U B I,.slice PO PQ PR,.slice PU E M,.slice a1 n1 c1].toArray):=by kernel_rfl
def aaV(a0:Int):pr ji (n3 197 [(0,jK a0)].toArray)=some (.agg [jK a0,.slice none 0 0].toArray):=by kernel_rfl
def S0(a0:Int)(a1:Option Addr)(B c1:Nat):pr ji (n3 197 [(0,jK a0),(1,.slice a1 B c1)].toArray)=some (.agg [jK a0,.slice a1 B c1].toArray):=by kernel_rfl
def S1(a0:Int)(a1:Int):pr ji (n3 200 [(0,jK a0),(1,jK a1)].toArray)=some (.agg [jK a0,jK a1].toArray):=by kernel_rfl
def sE(a0:Option Addr)(B c0:Nat)(a1:Option Addr)(E c1:Nat)(O:Option Addr)(V M:Nat)(W:Option Addr)(U J:Nat)(I:Option Nat):pr ji (n3 203 [(0,.slice a0 B c0),(1,.slice a1 E c1),(2,.slice O V M),(3,.slice W U J),(4,.map I)].toArray)=some (.agg [.slice a0 B c0,.slice a1 E c1,.slice O V M,.slice W U J,.map I].toArray):=by kernel_rfl
def Ij(a0:Option Addr)(B c0:Nat)(a1:Option Addr)(E c1:Nat)(M:Option Addr)(O J:Nat)(I:Option Nat):pr ji (n3 203 [(0,.slice a0 B c0),(1,.slice a1 E c1),(2,.slice M O J),(4,.map I)].toArray)=some (.agg [.slice a0 B c0,.slice a1 E c1,.slice M O J,.slice none 0 0,.map I].toArray):=by kernel_rfl
def S2(a0:Int)(a1:Int):pr ji (n3 216 [(0,jK a0),(1,jK a1)].toArray)=some (.agg [jK a0,jK a1].toArray):=by kernel_rfl
def aaW(a0:Option Addr)(B c0:Nat):pr ji (n3 237 [(0,.slice a0 B c0)].toArray)=some (.agg [.slice a0 B c0,jK 0,jK 0,jK 0].toArray):=by kernel_rfl
def aaX(B:Int):pr ji (n3 242 [(3,jK B)].toArray)=some (.agg [jK 0,.string ⟨#[]⟩,jK 0,jK B].toArray):=by kernel_rfl
def oz(a1:ByteArray)(U:ByteArray)(a3:ByteArray)(O:ByteArray)(a5:ByteArray)(W:ByteArray)(V:ByteArray)(B:ByteArray)(E:ByteArray)(M:ByteArray)(a13:ByteArray)(I:ByteArray)(J:ByteArray):pr ji (n3 253 [(1,.string a1),(2,.string U),(3,.string a3),(4,.string O),(5,.string a5),(6,.string W),(9,.string V),(10,.string B),(11,.string E),(12,.string M),(13,.string a13),(14,.string I),(15,.string J)].toArray)=some (.agg [.string ⟨#[]⟩,.string a1,.string U,.string a3,.string O,.string a5,.string W,.string ⟨#[]⟩,.string ⟨#[]⟩,.string V,.string B,.string E,.string M,.string a13,.string I,.string J].toArray):=by kernel_rfl
def S3(a0:Option Addr)(B c0:Nat)(a1:Int):pr ji (n3 304 [(0,.slice a0 B c0),(1,jK a1)].toArray)=some (.agg [.slice a0 B c0,jK a1,jK 0,jK 0,.slice none 0 0].toArray):=by kernel_rfl
def CD(a0:Option Addr)(B c0:Nat)(a1:Int):pr ji (n3 307 [(0,.slice a0 B c0),(1,jK a1)].toArray)=some (.agg [.slice a0 B c0,jK a1,jK 0,jK 0].toArray):=by kernel_rfl
def S4(B:Int)(E:Int):pr ji (n3 307 [(2,jK B),(3,jK E)].toArray)=some (.agg [.slice none 0 0,jK 0,jK B,jK E].toArray):=by kernel_rfl
def Ik:yH ji 48=some [0,0,0,0,0]:=by kernel_rfl
def aaY:yH ji 54=some [0,0,0,1,1]:=by kernel_rfl
def S5:yH ji 161=some [0,0,0,0]:=by kernel_rfl
end Go.Proofs.YtnjcingfdhjfkaaGreat
namespace Go.Fw
def sep(H1 H2:HP):HP where
 p w F:=∃B E,H1.p w B/\H2.p w E/\(∀b,B b->¬ E b)/\∀b,F b↔B b\/E b
 loc w w' F h hh:=by
  obtain⟨B,E,h1,h2,h3,h4⟩:=h
  exact⟨B,E,H1.loc _ _ _ h1 λb hb=>hh b ((h4 b).2 (.inl hb)),H2.loc _ _ _ h2 λb hb=>hh b ((h4 b).2 (.inr hb)),h3,h4⟩
 lt w F b h hb:=by
  obtain⟨B,E,h1,h2,h3,h4⟩:=h
  rcases(h4 b).1 hb with hf|hf
  .exact H1.lt _ _ _ h1 hf
  .exact H2.lt _ _ _ h2 hf
def uI{α:Type}(H:α->HP):HP where
 p w F:=∃x,(H x).p w F
 loc w w' F h hh:=by obtain⟨x,h⟩:=h;exact⟨x,(H x).loc _ _ _ h hh⟩
 lt w F b h hb:=by obtain⟨x,h⟩:=h;exact(H x).lt _ _ _ h hb
def fact(φ:Prop)(H:HP):HP where
 p w F:=φ/\H.p w F
 loc w w' F h hh:=⟨h.1,H.loc _ _ _ h.2 hh⟩
 lt w F b h hb:=H.lt _ _ _ h.2 hb
def emp:HP where
 p _ F:=∀b,¬ F b
 loc _ _ _ h _:=h
 lt _ _ b h hb:=(h b hb).elim
section
variable {P:Program}{w w0 w':World}{A:Nat->Prop}{L:List HP}{H H1 H2:HP}
theorem St.split(h:St w0 A (sep H1 H2::L) w):St w0 A (H1::H2::L) w:=by
 obtain⟨U,F,E,⟨M,J,O,V,W,B⟩,h2,h3,h4,h5⟩:=h.xa
 refine⟨h.aE,U,M,λb=>J b\/E b,O,λb hb=>h2 b ((B b).2 (.inl hb)),λb hb I=>?_,λb=>?_,J,E,V,λb hb=>h2 b ((B b).2 (.inr hb)),λb hb I=>h3 b ((B b).2 (.inr hb)) I,λb=>Iff.rfl,h5⟩
 .grind
 grind
theorem St.join(h:St w0 A (H1::H2::L) w):St w0 A (sep H1 H2::L) w:=by
 obtain⟨U,F,U',h1,h2,h3,h4,B,M,J,V,W,E,I⟩:=h.xa
 refine⟨h.aE,U,λb=>F b\/B b,M,⟨F,B,h1,J,λb hb O=>h3 b hb ((E b).2 (.inl O)),λb=>Iff.rfl⟩,λb hb=>hb.elim (h2 b) (V b),λb hb hu=>?_,λb=>?_,I⟩
 .grind
 grind
theorem St.fH{α:Type}{H:α->HP}(h:St w0 A (uI H::L) w):∃x,St w0 A (H x::L) w:=by
 obtain⟨U,F,B,⟨x,h1⟩,h2⟩:=h.xa;exact⟨x,h.aE,U,F,B,h1,h2⟩
theorem St.fD{α:Type}{H:α->HP}(x:α)(h:St w0 A (H x::L) w):St w0 A (uI H::L) w:=by
 obtain⟨U,F,B,h1,h2⟩:=h.xa;exact⟨h.aE,U,F,B,⟨x,h1⟩,h2⟩
theorem St.pd{φ:Prop}(h:St w0 A (fact φ H::L) w):φ/\St w0 A (H::L) w:=by
 obtain⟨U,F,B,⟨x,h1⟩,h2⟩:=h.xa;exact⟨x,h.aE,U,F,B,h1,h2⟩
theorem St.qM{φ:Prop}(x:φ)(h:St w0 A (H::L) w):St w0 A (fact φ H::L) w:=by
 simp_all[fact]
def pk(F:Nat->Prop)(H':HP)(w w':World):Prop:=∃B,H'.p w' B/\(∀b,B b->F b\/w.heap.size<=b)/\js F w w'
def mr(H:HP)(w w':World):Prop:=∃F,H.p w' F/\(∀b,F b->w.heap.size<=b)/\Ext w w'
theorem St.mut{F:Nat->Prop}(B:St w F (H::L) w'):pk F H w w':=by
 obtain⟨E,h1,h2⟩:=B.head;exact⟨E,h1,h2,B.aE⟩
theorem St.fresh(B:St w aY (H::L) w'):mr H w w':=by
 obtain⟨E,h1,h2⟩:=B.head;exact⟨E,h1,λb hb=>(h2 b hb).elim (λh=>h.elim) id,B.aE⟩
theorem St.made(B:St w0 A L w)(h:mr H w w'):St w0 A (H::L) w':=by
 obtain⟨F,h1,h2,h3⟩:=h;exact B.new h3 h1 h2
theorem aZ{f:FuncId}{args:List Value}{X:Value}{K:Value->jj}(pl:Plain P f)(B:St w0 A L w)(hc:Calls P f args.toArray w (qZ λv w'=>v=X/\Ext w w'))(k:∀w',Ext w w'->St w0 A L w'->K X w'):Hz P f args w K:=
 eR pl hc λv w' h=>by obtain⟨rfl,h2⟩:=h;exact k w' h2 (B.ext h2)
theorem dF{f:FuncId}{args:List Value}{H:Value->HP}{K:Value->jj}(pl:Plain P f)(B:St w0 A L w)(hc:Calls P f args.toArray w (qZ λv w'=>mr (H v) w w'))(k:∀v w',mr (H v) w w'->St w0 A (H v::L) w'->K v w'):Hz P f args w K:=
 eR pl hc λv w' h=>k v w' h (B.made h)
theorem St.aaZ{F:Nat->Prop}{E:Nat->Prop}{H':HP}(I:St w0 A (H::L) w)(h2:∀b,F b->A b\/w0.heap.size<=b)(h3:∀b,F b->¬ E b)(h5:vg w0 A L w E)(h:pk F H' w w'):St w0 A (H'::L) w':=by
 obtain⟨J,V,U,O⟩:=h
 refine⟨I.aE.trans O (λ_ h=>h) λb hb B=>(h2 b B).elim id λW=>cW,λb=>J b\/E b,J,E,V,λb hb=>?_,λb hb M=>?_,λb=>Iff.rfl,?_⟩
 .rcases U b hb with B|B
  .exact h2 b B
  exact .inr (x5 I.aE.size B)
 .rcases U b hb with B|B
  .exact h3 b B M
  have:=h5.lt b M;omega
 exact h5.loc λb hb=>O.cI b (h5.lt b hb) λB=>h3 b B hb
theorem tg{f:FuncId}{args:List Value}{H':Value->HP}{Φ:Value->jj}{K:Value->jj}(pl:Plain P f)(B:St w0 A (H::L) w)
  (hc:∀F,H.p w F->Calls P f args.toArray w (qZ λv w'=>Φ v w'/\pk F (H' v) w w')) (k:∀v w',Φ v w'->St w0 A (H' v::L) w'->K v w'):Hz P f args w K:=by
 obtain⟨U,F,J,h1,h2,h3,h4,h5⟩:=B.xa
 exact eR pl (hc F h1) λv w' ⟨I,E⟩=>k v w' I (B.aaZ h2 h3 h5 E)
end
section
variable {α:Type}[Flat α] {P:Program}{w w0:World}{A S:Nat->Prop}{L:List HP}{xs ys:List α}
theorem eN.one{v:Value}(h:eN S w v xs):vh v=true:=by obtain⟨a,c,rfl,_⟩:=h;rfl
theorem KP{T E M R b n cap:Nat}{z:Option Nat}{src:Value}{cs:List Value}(ht:gg P T=some (E,Flat.sz α,M,z))(hb:uE w b cs)(B:eN S w src ys)
  (LK:n+ys.length<=cap) (SP:n*Flat.sz α+ys.length*Flat.sz α<=cs.length) :
  ∃w',(Builtin.append_ #[T,T] R [.slice (some ⟨b,0,none⟩) n cap,src].toArray).run P w=.ok (.slice (some ⟨b,0,none⟩) (n+ys.length) cap) w'/\uE w' b (jI cs (n*Flat.sz α) (flat ys))/\js (· = b) w w':=by
 obtain⟨V,U,I,oq,E4,_⟩:=iC ht
 have rd:=B
 obtain⟨sa,O,rfl,hsc,J⟩:=rd
 obtain⟨w',h1,h2,h3⟩:=oY (P:=P) (o:=n*Flat.sz α) (flat ys) 0 cs w hb (by rw[dU];omega) Dp
 refine⟨w',?_,cW,h3⟩
 have hf:=Bl (α:=α) (P:=P) (sz:=Flat.sz α) rfl B
 have W:(⟨b,0,none⟩:Addr).add (n*Flat.sz α)=⟨b,n*Flat.sz α,none⟩:=by rw[ju,ve]
 simp[Builtin.append_,run_underlying V,sizeOf,typeInfo,I,Builtin.lenOf,LK,hf,oq,W,h1]
theorem Yb{T E U R b o n c:Nat}{z:α}{cs:List Value}(ht:SlT P T E (Flat.sz α) U)(B:ug P E (Flat.val z))(hb:uE w b cs)(SP:o+n*Flat.sz α<=cs.length) :
  ∃w',(Builtin.clear_ #[T] R [.slice (some ⟨b,o,none⟩) n c].toArray).run P w=.ok (.tuple #[]) w'/\uE w' b (jI cs o (flat (qU n z)))/\js (· = b) w w':=by
 obtain⟨M,V,J,oq,W,_⟩:=iC ht
 unfold ug fC at B
 rw[J]at B
 simp only[F1,qa.injEq]at B
 by_cases O:n=0
 .subst O
  refine⟨w,?_,by simpa[pG,jI]using hb,js.refl _ _⟩
  simp[Builtin.clear_,run_underlying M]
 have I:(Builtin.zeroCells (Flat.val z).cells n).toList=flat (qU n z):=by
  rw[sC,<- z8]
  unfold Builtin.zeroCells madeCells
  simp[Flat.len]
 obtain⟨w',h1,h2,h3⟩:=oY (P:=P) (o:=o) (flat (qU n z)) 0 cs w hb (by rw[dU,xq];omega) Dp
 refine⟨w',?_,cW,h3⟩
 simp[Builtin.clear_,run_underlying M,zeroValue,typeInfo,J,B,O,I,h1]
theorem aa0{T E sz I n cap:Nat}{z:Option Nat}{a:Option Addr}{i j k:Int}{K:Value->Prop}(ht:gg P T=some (E,sz,I,z))(V:0<=i)(h1:i<=j)(h2:j<=k)(h3:k<=cap)
  (O:∀v,K v):eM P (rr T (.slice a n cap) (some (jK i)) (some (jK j)) (some (jK k))) K:=by
 obtain⟨B,J,M,U,_⟩:=iC ht
 have hb:pr P (Ap true n cap (some (jK i)) (some (jK j)) (some (jK k)))=some (i.toNat,j.toNat,k.toNat):=by
  simp only[Ap,cX,gi,o5]
  rw[pH cW cW]
  simp only[o5]
  rw[pH cW cW]
  simp only[o5]
  rw[pH cW cW]
  rfl
 refine⟨.slice (if k.toNat=i.toNat then a else a.map (·.add (i.toNat*sz))) (j.toNat-i.toNat) (k.toNat-i.toNat),?_,O _⟩
 unfold rr
 rw[cX,dC B]
 simp only[o5]
 unfold Yu
 rw[cX,dC B]
 simp only[o5]
 rw[cX,hb]
 simp only[o5]
 rw[cX,qI M,U]
 rfl
end
def BX(b:Nat)(o:Obj):HP where
 p w F:=w.heap[b]?=some o/\∀k,F k↔k=b
 loc w w' F h hh:=⟨(hh b ((h.2 b).2 rfl)).trans h.1,h.2⟩
 lt w F b' h hb:=eS
section
variable {P:Program}{w w0 w':World}{A:Nat->Prop}{L:List HP}
theorem St.obj{b:Nat}{o:Obj}(B:St w0 A (BX b o::L) w):w.heap[b]?=some o:=by
 obtain⟨F,h,_⟩:=B.head;exact h.1
theorem Ext.alloc(w:World)(o:Obj):Ext w (w.alloc o):=Ext.push w o
theorem St.alloc{o:Obj}(B:St w0 A L w):St w0 A (BX w.heap.size o::L) (w.alloc o):=
 B.new (F:=(· = w.heap.size)) (Ext.alloc w o) ⟨tu w o,λ_=>Iff.rfl⟩ λb hb=>HL hb.symm
theorem js.putObj(w:World)(b:Nat)(o:Obj):js (· = b) w (w.putObj b o):=
 ⟨rfl,rfl,rfl,eU,λk _ B=>World.putObj_heap_other B⟩
theorem St.putObj{b:Nat}{o:Obj}(B:Obj)(I:St w0 A (BX b o::L) w):St w0 A (BX b B::L) (w.putObj b B):=
 I.wk λF E=>⟨F,⟨World.putObj_heap_same (vf E.1),E.2⟩,λ_ h=>.inl h,(js.putObj w b B).mono λk J=>(E.2 k).2 J⟩
theorem kh.mono{fv:Value}{args:List Value}{K B:Value->jj}(h:kh P fv args w K)(E:∀v w,K v w->B v w):kh P fv args w B:=
 Ll.mono (P:=P) (k:=.Vk fv args) h E
theorem aO{α:Type}[Flat α]{T:TypeId}{b:Nat}{cs:List Value}{x:α}{K:jj}(E:St w0 A (cI b cs::L) w)(ht:agU P T (Flat.sz α))(I:Flat.agg α=true)(B:cs.length=Flat.sz α)
  (k:∀w',St w0 A (cI b (Flat.enc x)::L) w'->K w'):FW P (LB T (.pointer (some ⟨b,0,none⟩)) (Flat.val x)) w K:=by
 rw[Flat.qo I]
 refine tx E ht (Flat.len x) (by rw[ve,B];exact r4 _) (Flat.one x) λw' h=>k w' ?_
 have:=nk [] cs [] (Flat.enc x) (by rw[Flat.len,B])
 simp only[u1,C5,r6]at this
 rwa [this]at h
theorem eG{α:Type}[Flat α]{S:Nat->Prop}{T:TypeId}{p:Value}{x:α}(ht:cY P T=some (Flat.agg α,Flat.sz α))(h:At S w p x):(yv T p).run P w=.ok (Flat.val x) w:=by
 obtain⟨v,h1,h2⟩:=(aF (K:=λv=>v=Flat.val x) ht h rfl).ex
 grind
theorem il{b:Bool}{A B:Prop}(h:b=true)(a:A):B5 (.bool b) A B:=⟨⟨_,rfl,λ_=>a,λE=>eS⟩⟩
theorem fI{b:Bool}{A B:Prop}(h:b=false)(a:B):B5 (.bool b) A B:=⟨⟨_,rfl,λE=>eS,λ_=>a⟩⟩
theorem akS{D:Nat}{K:jj}(B:St w0 A (BX D (.deferred (some []))::L) w)(k:∀w',St w0 A L w'->K w'):re [D] w K:=
 ⟨B.obj,k _ (B.putObj (.deferred none)).drop⟩
theorem S7(B:Loop)(h1:B.state=.ready)(h2:B.pending=none):({B with state:=if (none:Option Code).isNone=true then LoopState.ready else LoopState.done,pending:=none}:Loop)=B:=by
 cases B;grind
theorem aa1{gf np:Nat}{cap:List Value}{xs:List (List Value)}{round:List Value->World->(World->(jj)->Prop)->(Option Code->jj)->Prop}
  {N R:Nat->jj}{X:Nat->Nat->jj}(pl:Plain P gf) (hs:St w0 A L w) (I:Nat->List HP->Prop) (Ix:Code->List HP->Prop) (h0:I 0 L) (hnp:∀x∈xs,x.length=np)
  (hgf:∀(y:Value) (J:Nat->jj) (Jx:jj) (W:World),(∀k W,J k W->∃Y M,I k M/\St w0 A (Y::M) W)->(∀k W V,J k W->Ext W V->J k V)->J 0 W->
   (∀k args V,xs[k]?=some args->J k V->kh P y args V λv W''=>(v=.bool true/\J (k+1) W'')\/(v=.bool false/\Jx W''))->
   Calls P gf ([y]++cap).toArray W (qZ λ_ V=>J xs.length V\/Jx V))
  (SJ:∀k args (Y1 Y2:HP) (B:World->(jj)->Prop) (Kr:Option Code->jj) M W,xs[k]?=some args->I k M->
   (∀M U (kk:jj),St w0 A (Y1::M) U->(∀w2,St w0 A (Y2::M) w2->kk w2)->B U kk)->
   (∀M U,St w0 A (Y2::M) U->I (k+1) M->Kr none U)->(∀c M U,St w0 A (Y2::M) U->Ix c M->Kr (some c) U)->
   St w0 A (Y1::M) W->round args W B Kr)
  (auS:∀D M W,I xs.length M->St w0 A (BX D (.deferred (some []))::M) W->N D W)
  (aDl:∀D M W,Ix .ret M->St w0 A (BX D (.deferred (some []))::M) W->R D W)
  (auT:∀id D M W,Ix (.exit id) M->St w0 A (BX D (.deferred (some []))::M) W->X id D W)
  (anK:∀c M,Ix c M->(∃id,c=.exit id)\/c=.ret) :
  GS P (.func (.func gf) #[] cap.toArray) np w round (aft N R X):=by
 refine⟨gf,cap.toArray,rfl,pl,λL0 gj hpe hy=>?_⟩
 obtain⟨l,hl⟩:∃l,l=w.heap.size+1:=⟨_,rfl⟩
 obtain⟨D,hD⟩:∃D,D=w.heap.size:=⟨_,rfl⟩
 rw[<- hl]at hy |-
 rw[<- hD]
 let J:Nat->jj:=λk W=>∃M,I k M/\St w0 A (BX l (.loop L0)::BX D (.deferred (some []))::M) W
 let Jx:jj:=λW=>∃c M,Ix c M/\St w0 A (BX l (.loop {L0 with state:=.done,pending:=some c})::BX D (.deferred (some []))::M) W
 have hJ0:J 0 ((w.alloc (.deferred (some []))).alloc (.loop L0)):=by
  refine⟨L,h0,?_⟩
  have h1:=(hs.alloc (o:=.deferred (some []))).alloc (o:=.loop L0)
  rw[show(w.alloc (.deferred (some []))).heap.size=l from by rw[hl];exact LH w _,<- hD]at h1
  exact h1
 have:=hgf (.func (.yield l) #[] #[]) J Jx _ (λk W ⟨M,O,E⟩=>⟨_,M,O,St.join E⟩) (λk W V ⟨M,O,E⟩ e=>⟨M,O,E.ext e⟩) hJ0 ?_
 .have e:([Value.func (.yield l) #[] #[]]++cap).toArray = #[.func (.yield l) #[] #[]]++cap.toArray:=eU
  rw[e]at this
  refine this.mono λx V ⟨v,hx,hv⟩=>⟨v,hx,?_⟩
  rcases hv with⟨M,O,E⟩|⟨c,M,O,E⟩
  .refine⟨.ready,none,eU,?_,?_⟩
   .rw[<- gj,<- hpe];exact E.obj
   exact auS D M _ O (E.putObj _).drop
  refine⟨.done,some c,eU,E.obj,?_⟩
  rcases anK c M O with⟨id,rfl⟩|rfl
  .exact auT id D M _ O (E.putObj _).drop
  exact aDl D M _ O (E.putObj _).drop
 intro k args W hk ⟨M,O,E⟩
 refine⟨.inr ⟨l,rfl,?_⟩⟩
 refine hy args W _ (hnp args (List.mem_of_getElem? hk)) E.obj ?_
 refine SJ k args (sep (BX l (.loop L0)) (BX D (.deferred (some [])))) (sep (BX l (.loop {L0 with state:=.busy})) (BX D (.deferred (some [])))) _ _ M W hk O
  (λM U kk h1 h2=>?_) (λM U h1 h2=>?_) (λc M U h1 h2=>?_) (St.join E)
 .have h1:=h1.split
  exact⟨h1.obj,h2 _ (h1.putObj _).join⟩
 .have h1:=h1.split
  refine⟨h1.obj,.inl ⟨rfl,M,h2,?_⟩⟩
  have:=h1.putObj (.loop {L0 with state:=if (none:Option Code).isNone=true then LoopState.ready else LoopState.done,pending:=none})
  rw[S7 L0 gj hpe]at this |-
  exact this
 have h1:=h1.split
 exact⟨h1.obj,.inr ⟨rfl,c,M,h2,h1.putObj _⟩⟩
end
section
variable {P:Program}{w w0:World}{A S:Nat->Prop}{L:List HP}
theorem yN{t:Array TypeId}{T:TypeId}{a b:Int}{K:Value->Prop}(k:K (jK (min a b))):eM P (Builtin.min_ t T [jK a,jK b].toArray) K:=by
 refine⟨_,?_,k⟩
 show pr P (Builtin.min2 (jK a) (jK b))=_
 unfold Builtin.min2
 by_cases h:b<a
 .simp[h,gi];omega
 simp[h,gi];omega
theorem Bt{t:Array TypeId}{T:TypeId}{a b:Int}{K:Value->Prop}(k:K (jK (max a b))):eM P (Builtin.max_ t T [jK a,jK b].toArray) K:=by
 refine⟨_,?_,k⟩
 show pr P (Builtin.max2 (jK a) (jK b))=_
 unfold Builtin.max2
 by_cases h:a<b
 .simp[h,gi];omega
 simp[h,gi];omega
end
section
variable {P:Program}{α:Type}[Flat α] {A:Nat->Prop}{w0 w:World}{L:List HP}{xs:List α}
def Nw(α:Type)[Flat α](v:Value)(i B:Nat)(p:Value):Prop:=∃b n c,v=.slice (some ⟨b,0,none⟩) n c/\p=.pointer (some ⟨b,i*Flat.sz α+B,none⟩)
theorem kL{T f B i:Nat}{v p:Value}{K:Value->Prop}(ht:Cv P T f B)(h:LL α v i p)(k:∀q,Nw α v i B q->K q):eM P (KI T p f) K:=by
 obtain⟨b,n,c,h1,rfl⟩:=h
 exact aA ht (k _ ⟨b,n,c,h1,rfl⟩)
theorem lH{β:Type}[Flat β]{T:Nat}{v p:Value}{i B:Nat}{x:α}(y:β){K:Value->Prop}(M:St w0 A (bE v xs::L) w)(ht:cY P T=some (Flat.agg β,Flat.sz β))(V:Nw α v i B p)(J:xs[i]?=some x)
  (O:((Flat.enc x).drop B).take (Flat.sz β)=Flat.enc y) (k:K (Flat.val y)):Kw P (yv T p) w K:=by
 obtain⟨F,h,_⟩:=M.head
 obtain⟨b,cap,rest,U,hb,W,_⟩:=uW h (l0.1 J).1
 obtain⟨b',n,c,I,rfl⟩:=V
 rw[U]at I
 simp only[HJ.injEq,qa.injEq,Addr.mk.injEq]at I
 obtain⟨⟨rfl,_,_⟩,_,_⟩:=I
 refine aF (S:=λ_=>True) ht ⟨b,i*Flat.sz α+B,rfl,trivial,λj c E=>hb.cell ?_⟩ k
 rw[<- O,G5]at E
 split at E
 .rw[Iv]at E
  have:=vj J E
  rw[aaO,u2 (l0.1 this).1];exact this
 cases E
theorem PV{β:Type}[Flat β]{T:Nat}{v p:Value}{i B:Nat}{K:jj}{x:α}(y:α)(z:β)(hs:St w0 A (bE v xs::L) w)(ht:cY P T=some (Flat.agg β,Flat.sz β))(hp:Nw α v i B p)(W:xs[i]?=some x)
  (hlen:B+Flat.sz β<=Flat.sz α) (hy:(Flat.enc x).take B++Flat.enc z++(Flat.enc x).drop (B+Flat.sz β)=Flat.enc y)
  (k:∀w',St w0 A (bE v (xs.set i y)::L) w'->K w'):FW P (LB T p (Flat.val z)) w K:=by
 obtain⟨U,F,U',g1,g2,g3,g4,g5⟩:=hs.xa
 have I:=(l0.1 W).1
 obtain⟨b,cap,rest,hv,hb,hl,V⟩:=uW g1 I
 obtain⟨b',n,c,M,rfl⟩:=hp
 rw[hv]at M
 simp only[HJ.injEq,qa.injEq,Addr.mk.injEq]at M
 obtain⟨⟨rfl,_,_⟩,_,_⟩:=M
 have X3:=Cx W
 have Pr:(flat (xs.take i)).length=i*Flat.sz α:=by rw[dU,oj,xr cW]
 have hel:i*Flat.sz α+Flat.sz α<=(flat xs).length:=by
  rw[dU,<- Km];exact BO _ I
 have Vs:(Flat.enc x).length=Flat.sz α:=Flat.len x
 have E:(Flat.enc z).length=Flat.sz β:=Flat.len z
 obtain⟨w',h1,h2,h3⟩:=oY (P:=P) (o:=i*Flat.sz α+B) (Flat.enc z) 0 (flat xs++rest) w hb (by rw[E,n0];omega) (Flat.one z)
 have KG:jI (flat xs++rest) (i*Flat.sz α+B+0) (Flat.enc z)=flat (xs.set i y)++rest:=by
  have:=nk (flat (xs.take i)++(Flat.enc x).take B) (((Flat.enc x).drop B).take (Flat.sz β)) ((Flat.enc x).drop (B+Flat.sz β)++flat (xs.drop (i+1))++rest) (Flat.enc z)
   (by rw[E,oj,ta];omega)
  rw[n0,Pr,oj,xr cW]at this
  rw[Pd,Pq y I,X3,<- hy]
  have e1:Flat.enc x=(Flat.enc x).take B++((Flat.enc x).drop B).take (Flat.sz β)++(Flat.enc x).drop (B+Flat.sz β):=by
   rw[<- Cl,qF,s6,s6]
  have e2:flat (xs.take i)++Flat.enc x++flat (xs.drop (i+1))++rest=flat (xs.take i)++(Flat.enc x).take B++((Flat.enc x).drop B).take (Flat.sz β)++((Flat.enc x).drop (B+Flat.sz β)++flat (xs.drop (i+1))++rest):=by
   conv=>lhs;rw[e1]
   simp only[qF]
  rw[e2,this]
  simp only[qF]
 rw[KG]at h2
 refine⟨w',?_,k w' ⟨hs.aE.trans (h3.mono λk J=>(V k).2 J) (λ_ h=>h) λb hb O=>(g2 b O).elim id λhh=>cW,U,F,U',?_,g2,g3,g4,
  g5.loc λb hb=>(h3.mono λk J=>(V k).2 J).cI b (g5.lt b hb) λO=>g3 b O hb⟩⟩
 .show(storeVar T ⟨b,i*Flat.sz α+B,none⟩ (Flat.val z)).run P w=_
  unfold storeVar
  rw[fF (gK (l6 ht).2 w),sC]
  simp only[Ng,Flat.len,ne_eq,not_true_eq_false,if_false]
  exact h1
 refine .inr ⟨b,cap,rest,by rw[DI];exact hv,h2,?_,V⟩
 rw[n0,dU]at hl |-;rw[DI];exact hl
theorem uJ{T:Nat}{b o:Nat}{cs:List Value}(x:α){K:Value->Prop}(ht:cY P T=some (Flat.agg α,Flat.sz α))(hb:uE w b cs)(B:(cs.drop o).take (Flat.sz α)=Flat.enc x)(k:K (Flat.val x)) :
  Kw P (yv T (.pointer (some ⟨b,o,none⟩))) w K:=by
 refine aF (S:=λ_=>True) ht ⟨b,o,rfl,trivial,λj c E=>hb.cell ?_⟩ k
 grind
end
structure SV where
 a:Option Addr
 n:Nat
 cap:Nat
abbrev bL:SV:=⟨none,0,0⟩
instance:Flat SV where
 agg:=false
 sz:=1
 enc s:=[.slice s.a s.n s.cap]
 val s:=.slice s.a s.n s.cap
 pos:=dO
 len _:=rfl
 one a v h:=by rw[s7.1 h];rfl
 qo h:=by cases h
 qp _ _:=rfl
section
variable {P:Program}{α:Type}[Flat α] {A:Nat->Prop}{w0 w:World}{L L':List HP}{v:Value}
def rows:List SV->List (List α)->HP
 | [],[]=>emp
 | s::ss,x::xs=>sep (bE (Flat.val s) x) (rows ss xs)
 | _,_=>fact False emp
theorem PW:∀{B:List SV}{xs:List (List α)}{F:Nat->Prop},(rows B xs).p w F->B.length=xs.length
 | [],[],_,_=>rfl
 | s::B,x::xs,F,h=>by
  obtain⟨E,I,_,h2,_,_⟩:=h
  rw[sf,sf,PW h2]
 | [],_::_,_,h=>h.1.elim
 | _::_,[],_,h=>h.1.elim
theorem LN:∀{I:List SV}{xs:List (List α)}{E B F:Nat->Prop}{s:SV}{x:List α},(rows I xs).p w E->(bE (Flat.val s) x).p w B->(∀b,E b->¬ B b)->(∀b,F b↔E b\/B b)->(rows (I++[s]) (xs++[x])).p w F
 | [],[],E,B,F,s,x,h1,h2,_,h4=>by
  refine⟨B,E,h2,h1,λb hb J=>h1 b J,λb=>?_⟩
  grind
 | s'::I,x'::xs,E,B,F,s,x,h1,h2,h3,h4=>by
  obtain⟨M,O,U,W,g3,V⟩:=h1
  refine⟨M,λb=>O b\/B b,U,LN W h2 (λb hb=>h3 b ((V b).2 (.inr hb))) (λb=>Iff.rfl),λb hb=>?_,λb=>?_⟩
  .grind
  grind
 | [],_::_,_,_,_,_,_,h,_,_,_=>h.1.elim
 | _::_,[],_,_,_,_,_,h,_,_,_=>h.1.elim
theorem St.DE{B:List SV}{xs:List (List α)}(E:St w0 A (rows B xs::L) w):B.length=xs.length:=by
 obtain⟨F,h,_⟩:=E.head;exact PW h
theorem St.ahc(B:St w0 A L w):St w0 A (rows [] ([]:List (List α))::L) w:=
 B.new (Ext.refl w) (F:=aY) (λ_ h=>h) λ_ h=>h.elim
theorem St.Il{B:List SV}{xs:List (List α)}{s:SV}{x:List α}(E:St w0 A (rows B xs::bE (Flat.val s) x::L) w):St w0 A (rows (B++[s]) (xs++[x])::L) w:=by
 have h:=St.join E
 refine h.wk λF I=>?_
 obtain⟨J,M,h1,h2,h3,h4⟩:=I
 exact⟨F,LN h1 h2 h3 h4,λb hb=>.inl hb,js.refl _ _⟩
theorem St.gE{xs:List α}(B:St w0 A (bE v xs::L) w):∃s:SV,v=Flat.val s:=by
 obtain⟨F,h,_⟩:=B.head
 rcases h with⟨rfl,_⟩|⟨b,cap,_,rfl,_⟩
 .exact⟨⟨none,0,0⟩,rfl⟩
 exact⟨⟨_,_,_⟩,rfl⟩
theorem eN.gE{S:Nat->Prop}{xs:List α}(h:eN S w v xs):∃s:SV,v=Flat.val s:=by
 obtain⟨a,cap,rfl,_⟩:=h;exact⟨⟨_,_,_⟩,rfl⟩
end
section
variable {P:Program}
theorem lI{α:Type}[Flat α]{S:Nat->Prop}{w:World}{xs:List α}{T E I:Nat}{z:Option Nat}{v:Value}{i:Int}{K:Value->Prop}(ht:gg P T=some (E,Flat.sz α,I,z))(J:eN S w v xs)(M:0<=i)(h2:i<=xs.length)
  (k:∀B,(∀w',eN S w' v xs->eN S w' B (xs.take i.toNat))->K B):eM P (rr T v none (some (jK i)) none) K:=by
 obtain⟨a,cap,rfl,O,h3⟩:=J
 refine⟨_,E2 ht (uV (.inl ⟨rfl,rfl⟩) (.inr ⟨i,rfl,M,rfl⟩) (o6 _) cW),k _ λw' h=>?_⟩
 have:=h.cut rfl (o6 i.toNat) cW
 grind
end
open Go.ChangeShapes Go.WideShapes Go.ChangeAt Go.RowKit
structure RdT(P:Program)(t:TypeId)(α:Type)[Flat α](φ:α->Prop):Prop where
 cells:P.cellsOf t=Flat.sz α
 rd:∀{H:Type}(enc:TypeId×Value->H) (w:World) (base:Nat) (sp:Nat->Bool) (held:Bool) (fuel:Nat) (cs:List Value) (x:DataW H×List MemPlace),
  DataW.trod enc P w base sp held fuel t cs=some x->∃a:α,cs=Flat.enc a/\φ a
def gb(n:Int):Prop:=-9223372036854775808<=n/\n<=9223372036854775807
def anM{P:Program}{t:TypeId}(ht:P.underlying t=some (.int .i64))(hc:P.cellsOf t=1):RdT P t Int gb:=
 ⟨hc,λenc w base B held fuel cs x h=>by
  obtain⟨n,h1,_,h3⟩:=DataW.trod_int ht h
  refine⟨n,h1,?_⟩
  simpa[Lit.wf,IntKind.min,IntKind.max,IntKind.signed,IntKind.bits,gb]using h3⟩
def anN{P:Program}{t:TypeId}(ht:P.underlying t=some .string)(hc:P.cellsOf t=1):RdT P t ByteArray (λs=>s.size<=maxLen):=
 ⟨hc,λenc w base B held fuel cs x h=>by
  obtain⟨n,h1,_,h2⟩:=DataW.trod_string ht h
  exact⟨n,h1,h2⟩⟩
def oA{H:Type}{enc:TypeId×Value->H}{P:Program}{w:World}{base:Nat}{I:Nat->Bool}{held:Bool}{fuel:Nat}{t:TypeId}{B:Array Field}{cs:List Value}{x:DataW H×List MemPlace}
  (ht:P.underlying t=some (.struct B)) (h:DataW.trod enc P w base I held fuel t cs=some x) :
  cs.length=P.cellsOf t/\∃n,∀(i:Nat) (f:Field),B[i]?=some f->∃y,DataW.trod enc P w base I held n f.type ((cs.drop f.offset).take (P.cellsOf f.type))=some y:=by
 obtain⟨xs,n,_,_,J,M,U⟩:=DataW.trod_struct ht h
 refine⟨J,n,λi f E=>?_⟩
 have O:i<xs.length:=by rw[M];exact(N6.1 E).1
 exact⟨xs[i],by rw[U i f E,nT O]⟩
def eI{cs:List Value}{o s:Nat}{r:List Value}(h:(cs.drop o).take s=r):cs.drop o=r++cs.drop (o+s):=by
 rw[<- h,<- Cl,s6]
theorem ahd{α:Type}{p:Nat->α->Prop}:∀n,(∀i,i<n->∃x,p i x)->∃xs:List α,xs.length=n/\∀i x,xs[i]?=some x->p i x:=by
 intro n
 induction n with
 | zero=>simp_all
 | succ n B=>
  intro h
  obtain⟨xs,h1,h2⟩:=B λi J=>h i cW
  obtain⟨x,I⟩:=h n cW
  refine⟨xs++[x],by simp[h1],λi y E=>?_⟩
  grind
def S8{α:Type}[Flat α]{xs:List α}{j:Nat}{c:Value}(h:(flat xs)[j]?=some c):∃i r x,xs[i]?=some x/\(Flat.enc x)[r]?=some c/\j=i*Flat.sz α+r:=by
 have M:j<(flat xs).length:=(l0.1 h).1
 rw[dU]at M
 have I:0<Flat.sz α:=Flat.pos
 have J:j / Flat.sz α<xs.length:=Nat.div_lt_of_lt_mul eS
 have E:j % Flat.sz α<Flat.sz α:=ace _ I
 have O:j=j / Flat.sz α*Flat.sz α+j % Flat.sz α:=by rw[Nat.mul_comm];exact(Nat.div_add_mod _ _).symm
 have B:xs[j / Flat.sz α]?=some (xs[j / Flat.sz α]):=nT J
 have hc:(Flat.enc (xs[j / Flat.sz α]))[j % Flat.sz α]?=some ((Flat.enc (xs[j / Flat.sz α]))[j % Flat.sz α]'(by rw[Flat.len];exact E)):=nT _
 have:=vj B hc
 grind
section
variable {H:Type}{enc:TypeId×Value->H}{P:Program}{w:World}{base:Nat}{held:Bool}
theorem open_i64{r:Reach}{E:Nat}{t:TypeId}{v:Value}{d:DataW H}{ps:List MemPlace}{I:Nat->Bool}(ht:P.underlying t=some (.int .i64))(B:P0 P w r E t v)(hd:DataW.Trod enc P w base I held t v d ps) :
  ∃n,v=jK n/\gb n:=by
 obtain⟨n,h1,_,_,h4⟩:=open_int ht B hd
 exact⟨n,h1,by simpa[Lit.wf,IntKind.min,IntKind.max,IntKind.signed,IntKind.bits,gb]using h4⟩
def Nx(P:Program)(ts:List TypeId):Bool:=ts.all λt=>P.readableRec t&&decide (t<P.types.size)
theorem Ca(J:laidOutB P=true){W O:World}(hb:Below W.heap.size W O){M:Nat->Bool}:∀{ts:List TypeId}{vs:List Value}{I:List (DataW H)}{ps:List MemPlace},Nx P ts=true->(∀x∈ps,x.block<W.heap.size)->
  (∀x∈ps,M x.block=true)->DataW.TrodAll enc P W 0 (λ_=>true) true ts vs I ps->DataW.TrodAll enc P O 0 M true ts vs I ps
 | [],vs,I,ps,_,_,_,h=>by obtain⟨rfl,rfl,rfl⟩:=trodAll_nil h;exact trodAll_mk0
 | t::ts,vs,I,ps,hr,pF,X3,h=>by
  obtain⟨v,U,d,V,a,b,rfl,rfl,rfl,h1,h2⟩:=trodAll_cons h
  have E:P.readableRec t=true/\t<P.types.size/\Nx P ts=true:=by
   grind[Nx]
  refine trodAll_cons_mk (WideElems.Trod_stays J E.1 E.2.1 h1 (λx B=>hb.same (pF x (List.mem_append_left _ B))) λx B=>X3 x (List.mem_append_left _ B)) ?_
  exact Ca J hb E.2.2 (λx B=>pF x (List.mem_append_right _ B)) (λx B=>X3 x (List.mem_append_right _ B)) h2
theorem post_true{f:Func}{s:ChangeSpec}{apart fresh handsOn again:Bool}{W O:World}{args:Array Value}{E gs:List (DataW H)}{before:List MemPlace}{tb:TypeId}
  (akT:s.vars=[]) (PX:∀E:List (DataW H),E.length=f.params.size->s.fn H E={results:=[.lit (.bool true)],args:=E}) (auU:f.resultTypes = #[tb]) (htb:P.underlying tb=some .bool)
  (hl:laidOutB P=true) (aDp:Nx P f.params.toList=true)
  (hW:DataW.Whole enc P f.params.toList s.vars apart W args.toList E gs before) (hb:Below W.heap.size W O) :
  s.post enc P f apart fresh handsOn again W args (.bool true) O:=by
 have U:=hW
 obtain⟨p,q,hA,hV,hpq,hz,hn⟩:=hW
 have pF:∀x∈before,x.block<W.heap.size:=U.lt
 rw[akT]at hV
 obtain⟨rfl,rfl⟩:=trodVars_none hV
 simp only[r6]at hpq
 have hlen:E.length=f.params.size:=by
  have:=(trodAll_length hA).2
  omega
 have M:=PX E hlen
 have V:∀(b:Nat) (I:Nat->Bool) (hd:Bool),DataW.TrodAll enc P O b I hd f.resultTypes.toList ((y9 true).resultList f.resultTypes.size) (s.fn H (E++[])).results []:=λb I hd=>by
  rw[r6,M,auU]
  exact trodAll_mk1 (shut_bool htb true)
 have B:∀I:Nat->Bool,(∀p∈before,I p.block=true)->DataW.TrodAll enc P O 0 I true f.params.toList args.toList (s.fn H (E++[])).args before:=λI X3=>by
  rw[r6,M]
  rw[hpq]at pF X3 |-
  exact Ca hl hb aDp pF X3 hA
 have aa3:∀I:Nat->Bool,DataW.TrodVars enc P O I s.vars (s.fn H (E++[])).vars []:=λI=>by
  rw[r6,M,akT];rfl
 have mL:∀(j:Nat) (t:TypeId) (r:Value),f.resultTypes[j]?=some t->((y9 true).resultList f.resultTypes.size)[j]?=some r->P0 P O .any 0 t r:=
  ok_one auU rfl (okWide_bool_mk htb true)
 have hold:∀p∈before,(λb=>decide (b<W.heap.size)) p.block=true:=λp hp=>eS
 refine⟨E,[],before,[],before,[],U,V _ _ _,B _ hold,aa3 _,World.keptBut_mono (λp hp=>⟨hp,?_⟩) (hb.frame (·∈before)),λ_=>?_⟩
 .grind
 refine⟨mL,_,_,([]++before)++[],⟨[]++before,[],trodAll_append (B _ λ_ _=>rfl) (V _ _ _),aa3 _,rfl,?_,?_⟩,?_⟩
 .intro b J hp
  have hp':MemPlace.cell b J∈before:=eS
  rw[hb.frozen (p:=⟨b,J,none⟩) (pF _ hp')]
  exact hz b J hp'
 .grind
 grind
end
section
variable {P:Program}{α:Type}[Flat α]
def auV(P:Program)(T n E:Nat):Prop:=P.underlying T=some (.array n E)/\pr P (sizeOf E)=some 1
theorem rq{T E n b o:Nat}{i:Int}{K:Value->Prop}(h:auV P T n E)(B:0<=i)(h1:i<n)(k:K (.pointer (some ⟨b,o+i.toNat,none⟩))) :
  eM P (Iy T (.pointer (some ⟨b,o,none⟩)) (jK i)) K:=by
 refine⟨_,?_,k⟩
 unfold Iy
 have e1:pr P (underlying T)=some (.array n E):=dC h.1
 have I:pr P (Instr.sureAddr (.pointer (some (⟨b,o,none⟩:Addr))))=some ⟨b,o,none⟩:=rfl
 simp only[asIntOf,cX,e1,o5,gi,I]
 simp only[fV (show 0<=i/\i<(n:Int)from⟨B,h1⟩),cX,h.2,o5,gi,ju,Nat.mul_one]
end
def VX{α:Type}[Flat α]{P:Program}{w w0:World}{A:Nat->Prop}{L:List HP}{xs:List α}{T:Nat}{v p:Value}{i:Nat}{x:α}(J:St w0 A (bE v xs::L) w)(ht:cY P T=some (Flat.agg α,Flat.sz α))(O:LL α v i p)(E:xs[i]?=some x) :
  (yv T p).run P w=.ok (Flat.val x) w:=by
 obtain⟨F,h,_⟩:=J.head
 obtain⟨b,cap,rest,M,hb,U,_⟩:=uW h (l0.1 E).1
 obtain⟨V,n,c,B,rfl⟩:=O
 rw[M]at B
 simp only[HJ.injEq,qa.injEq,Addr.mk.injEq]at B
 obtain⟨⟨rfl,_,_⟩,_,_⟩:=B
 refine eG (S:=λ_=>True) ht ⟨b,i*Flat.sz α,rfl,trivial,λj c I=>hb.cell ?_⟩
 have:=vj E I
 rw[u2 (l0.1 this).1];exact this
class Deep (α:Type) (σ:outParam Type) [Flat σ] where
 dr:World->σ->α->Prop
 ext:∀{w w':World}{s:σ}{x:α},dr w s x->Ext w w'->dr w' s x
def DL{α σ:Type}[Flat σ][Deep α σ](w:World)(v:Value)(xs:List α):Prop:=
 ∃ts:List σ,eN (λ_=>True) w v ts/\ts.length=xs.length/\∀(i:Nat) (t:σ) (x:α),ts[i]?=some t->xs[i]?=some x->Deep.dr w t x
section
variable {P:Program}{α σ:Type}[Flat σ] [Deep α σ] {w w' w0:World}{v:Value}{A:Nat->Prop}{L:List HP}
theorem DL.ext{xs:List α}(h:DL w v xs)(e:Ext w w'):DL w' v xs:=by
 obtain⟨ts,h1,h2,h3⟩:=h;exact⟨ts,h1.ext e,h2,λi t x a b=>Deep.ext (h3 i t x a b) e⟩
theorem DL.nil(w:World):DL w (.slice none 0 0) ([]:List α):=⟨[],eN.nil _ _,rfl,λi t x h=>by simp at h⟩
theorem DL.gE{xs:List α}(h:DL w v xs):∃s:SV,v=Flat.val s:=by obtain⟨_,h,_⟩:=h;exact h.gE
instance:Deep (List α) SV where
 dr w s xs:=DL w (Flat.val s) xs
 ext h e:=DL.ext h e
def fB(Φ:jj):HP where
 p w F:=(∀w':World,(∀b,F b->w'.heap[b]?=w.heap[b]?)->Φ w')/\∀b,F b->b<w.heap.size
 loc w w' F h hh:=⟨λB h2=>h.1 B λb hb=>(h2 b hb).trans (hh b hb),λb hb=>by
  grind⟩
 lt w F b h hb:=h.2 b hb
theorem fB.now{Φ:jj}{F:Nat->Prop}(h:(fB Φ).p w F):Φ w:=h.1 w λ_ _=>rfl
theorem St.fB{Φ:jj}(B:St w0 A (fB Φ::L) w):Φ w:=by obtain⟨F,h,_⟩:=B.head;exact fB.now h
theorem St.dT{Φ Ψ:jj}(E:St w0 A (Fw.fB Φ::L) w)(I:∀w,Φ w->Ψ w):St w0 A (Fw.fB Ψ::L) w:=
 E.wk λF B=>⟨F,⟨λw' h=>I _ (B.1 w' h),B.2⟩,λb hb=>.inl hb,js.refl _ _⟩
theorem St.gU{Φ Ψ:jj}(E:St w0 A (Fw.fB Φ::Fw.fB Ψ::L) w):St w0 A (Fw.fB (λw=>Φ w/\Ψ w)::L) w:=by
 have h:=St.join E
 refine h.wk λF I=>?_
 obtain⟨J,M,h1,h2,h3,h4⟩:=I
 refine⟨F,⟨λw' B=>⟨h1.1 w' λb hb=>B b ((h4 b).2 (.inl hb)),h2.1 w' λb hb=>B b ((h4 b).2 (.inr hb))⟩,λb hb=>?_⟩,λb hb=>.inl hb,js.refl _ _⟩
 rcases(h4 b).1 hb with hb|hb
 .exact h1.2 b hb
 exact h2.2 b hb
theorem St.iK{Φ:jj}(B:St w0 A L w)(h:∀w,Φ w):St w0 A (Fw.fB Φ::L) w:=
 B.new (Ext.refl w) (F:=aY) ⟨λw' _=>h w',λb hb=>hb.elim⟩ λ_ h=>h.elim
theorem St.freeze{xs:List σ}(E:St w0 A (bE v xs::L) w):St w0 A (Fw.fB (λw=>eN (λ_=>True) w v xs)::L) w:=
 E.wk λF B=>⟨F,⟨λw' h=>(bE.rd ((bE v xs).loc _ _ _ B h)).mono λ_ _=>trivial,λb hb=>(bE v xs).lt _ _ _ B hb⟩,λb hb=>.inl hb,js.refl _ _⟩
theorem St.uY{b:Nat}{cs:List Value}(E:St w0 A (cI b cs::L) w):St w0 A (Fw.fB (λw=>uE w b cs)::L) w:=
 E.wk λF B=>⟨F,⟨λw' h=>((cI b cs).loc _ _ _ B h).1,λk I=>(cI b cs).lt _ _ _ B I⟩,λb hb=>.inl hb,js.refl _ _⟩
def jF(ts:List σ)(xs:List α)(w:World):Prop:=ts.length=xs.length/\∀(i:Nat) (t:σ) (x:α),ts[i]?=some t->xs[i]?=some x->Deep.dr w t x
theorem jF.nil:jF ([]:List σ) ([]:List α) w:=⟨rfl,λi t x h=>by simp at h⟩
theorem jF.snoc{ts:List σ}{xs:List α}{t:σ}{x:α}(h:jF ts xs w)(ht:Deep.dr w t x):jF (ts++[t]) (xs++[x]) w:=by
 grind[jF]
theorem jF.append{ts us:List σ}{xs ys:List α}(h:jF ts xs w)(g:jF us ys w):jF (ts++us) (xs++ys) w:=by
 grind[jF]
theorem DL.of{ts:List σ}{xs:List α}(h:eN (λ_=>True) w v ts)(g:jF ts xs w):DL w v xs:=⟨ts,h,g.1,g.2⟩
theorem DL.open{xs:List α}(h:DL w v xs):∃ts:List σ,eN (λ_=>True) w v ts/\jF ts xs w:=by obtain⟨ts,h1,h2,h3⟩:=h;exact⟨ts,h1,h2,h3⟩
theorem jF.take{ts:List σ}{xs:List α}(h:jF ts xs w)(k:Nat):jF (ts.take k) (xs.take k) w:=by
 grind[jF]
theorem jF.drop{ts:List σ}{xs:List α}(h:jF ts xs w)(k:Nat):jF (ts.drop k) (xs.drop k) w:=by
 grind[jF]
end
section
variable {α:Type}[Flat α]
abbrev kD:Deep α α:=⟨λ_ s x=>s=x,λh _=>h⟩
theorem LO[D:Deep α α](B:∀w s x,D.dr w s x↔s=x){w:World}{ts xs:List α}:jF ts xs w↔ts=xs:=by
 constructor
 .rintro⟨h1,h2⟩
  refine wj λi=>?_
  grind
 grind[jF]
end
instance:Deep Int Int:=kD
instance:Deep Bool Bool:=kD
instance:Deep ByteArray ByteArray:=kD
structure RdW(P:Program)(w:World)(t:TypeId)(α:Type)[Flat α](φ:α->Prop):Prop where
 cells:P.cellsOf t=Flat.sz α
 rd:∀{H:Type}(enc:TypeId×Value->H) (base:Nat) (held:Bool) (fuel:Nat) (cs:List Value) (x:DataW H×List MemPlace),
  DataW.trod enc P w base (λ_=>true) held fuel t cs=some x->∃a:α,cs=Flat.enc a/\φ a
def Cb(P:Program)(t:TypeId)(α:Type){σ:Type}[Flat σ][Deep α σ](φ:α->Prop):Prop:=∀w,RdW P w t σ (λs=>∃a:α,Deep.dr w s a/\φ a)
def RdT.deep{P:Program}{t:TypeId}{α:Type}[Flat α][D:Deep α α]{φ:α->Prop}(h:RdT P t α φ)(B:∀w (x:α),D.dr w x x):Cb P t α φ:=
 λw=>⟨h.cells,λenc base held fuel cs x E=>by
  obtain⟨a,h1,h2⟩:=h.rd enc w base _ held fuel cs x E;exact⟨a,h1,a,B w a,h2⟩⟩
section
variable {H:Type}{enc:TypeId×Value->H}{P:Program}{w:World}{base:Nat}{held:Bool}
theorem PY{α:Type}[Flat α]{φ:α->Prop}{t e:TypeId}{fuel:Nat}{cs:List Value}{x:DataW H×List MemPlace}(ht:P.underlying t=some (.slice e))(V:RdW P w e α φ)
  (h:DataW.trod enc P w base (λ_=>true) held fuel t cs=some x):∃v,cs=[v]/\∃xs:List α,eN (λb=>b<w.heap.size) w v xs/\∀x∈xs,φ x:=by
 rcases DataW.trod_slice ht h with⟨rfl,_⟩|⟨a,len,cap,elems,rest,n,_,rfl,_,hb,hl,hm,hlen,J,X3,_⟩
 .exact⟨_,rfl,[],eN.nil _ _,eU⟩
 refine⟨_,rfl,?_⟩
 have get:∀i,i<len->∃x:α,φ x/\w.cells? base (a.add (i*P.cellsOf e)) (P.cellsOf e)=some (Flat.enc x):=by
  intro i U
  have h1:=J i U
  rw[nT cW]at h1
  obtain⟨cs',h2,h3⟩:=PK.1 h1
  obtain⟨x,rfl,E⟩:=V.rd enc base held n cs' _ h3
  grind
 obtain⟨xs,Vs,M⟩:=ahd len get
 have oq:=V.cells
 have GB:0<Flat.sz α:=Flat.pos
 have first:∀(c:Nat) (cs':List Value),w.cells? base (a.add (c*P.cellsOf e)) (P.cellsOf e)=some cs'->c=0->a.spot=none:=by
  intro c cs' h1 I
  subst I
  have:=aa2 h1
  have h2:=this.2.2 0 cW
  rw[Nat.zero_mul]at h2
  have h3:w.cell? a=cs'[0]?:=by simpa[Addr.add]using h2
  rw[nT cW]at h3
  unfold QM at h3
  split at h3
  .simp_all
  .cases h3
 refine⟨xs,⟨some a,cap,by rw[Vs],cW,?_⟩,λx E=>?_⟩
 .by_cases Bj:cap=0
  .simp_all
  right
  have B:a.spot=none:=by
   by_cases I:0<len
   .grind
   .obtain⟨h1,h2⟩:=X3 rfl
    have h3:=h2 0 cW
    rw[nT cW]at h3
    obtain⟨cs',h4,_⟩:=PK.1 h3
    grind
  have O:∀j c,(flat xs)[j]?=some c->Cell w a.block (a.off+j) c:=by
   intro j c hj
   obtain⟨i,r,x,E,W,rfl⟩:=S8 hj
   have h1:=(aa2 (M i x E).2).2.2 r (by rw[oq];have:=(l0.1 W).1;rwa [Flat.len]at this)
   rw[W,oq]at h1
   obtain⟨b,o,s⟩:=a
   simp only at B
   subst B
   unfold Cell
   rw[<- h1,ju,ju,aaO]
  refine⟨a.block,a.off,by obtain⟨b,o,s⟩:=a;grind,λHC=>?_,O⟩
  obtain⟨y,ys,rfl⟩:=List.exists_cons_of_ne_nil HC
  have I:(flat (y::ys))[0]?=some ((Flat.enc y)[0]'(by rw[Flat.len];exact GB)):=by
   rw[ly,u2 (by rw[Flat.len];exact GB),nT]
  exact(O 0 _ I).lt
 obtain⟨i,U⟩:=List.getElem?_of_mem E
 grind
theorem S9{α σ:Type}[Flat σ][Deep α σ]{φ:α->Prop}:∀(ts:List σ),(∀s∈ts,∃a:α,Deep.dr w s a/\φ a)->∃xs:List α,jF ts xs w/\∀x∈xs,φ x
 | [],_=>⟨[],jF.nil,eU⟩
 | t::ts,h=>by
  obtain⟨a,h1,h2⟩:=h t eU
  obtain⟨xs,h3,h4⟩:=S9 ts λs B=>h s (List.mem_cons_of_mem _ B)
  refine⟨a::xs,?_,λx E=>?_⟩
  .grind[jF]
  grind
theorem Cb.slice{α σ:Type}[Flat σ][Deep α σ]{φ:α->Prop}{t e:TypeId}(ht:P.underlying t=some (.slice e))(hc:P.cellsOf t=1)(I:Cb P e α φ):Cb P t (List α) (λxs=>∀x∈xs,φ x):=
 λw=>⟨hc,λenc base held fuel cs x E=>by
  obtain⟨v,rfl,ts,h1,h2⟩:=PY ht (I w) E
  obtain⟨xs,h3,h4⟩:=S9 ts h2
  have B:eN (λ_=>True) w v ts:=h1.mono λ_ _=>trivial
  obtain⟨s,rfl⟩:=B.gE
  exact⟨s,rfl,xs,DL.of B h3,h4⟩⟩
theorem open_dl{α σ:Type}[Flat σ][Deep α σ]{φ:α->Prop}{t e:TypeId}{r:Reach}{E:Nat}{v:Value}{d:DataW H}{ps:List MemPlace}(ht:P.underlying t=some (.slice e))(J:Cb P e α φ)
  (B:P0 P w r E t v) (hd:DataW.Trod enc P w base (λ_=>true) held t v d ps):∃xs:List α,DL w v xs/\∀x∈xs,φ x:=by
 obtain⟨fuel,O⟩:=hd
 obtain⟨u,I,ts,h1,h2⟩:=PY ht (J w) O
 have M:v=u:=by
  have h1:=B
  unfold P0 at h1
  rw[ht]at h1
  cases v with
  | slice a n c=>exact(List.cons.inj (show [HJ a n c]=[u]from I)).1
  | _=>
   have h2:Cell.okWide P w r E t _:=h1
   unfold Cell.okWide at h2
   rw[ht]at h2
   simp only[Cell.ok,ht]at h2
 subst M
 obtain⟨xs,h3,h4⟩:=S9 ts h2
 exact⟨xs,DL.of (h1.mono λ_ _=>trivial) h3,h4⟩
theorem open_dst{α σ:Type}[Flat σ][Deep α σ]{φ:α->Prop}{t:TypeId}{E:Array Field}{r:Reach}{O:Nat}{v:Value}{d:DataW H}{ps:List MemPlace}(ht:P.underlying t=some (.struct E))(I:Flat.agg σ=true)
  (M:Cb P t α φ) (B:P0 P w r O t v) (hd:DataW.Trod enc P w base (λ_=>true) held t v d ps):∃(s:σ) (x:α),v=Flat.val s/\Deep.dr w s x/\φ x:=by
 obtain⟨fuel,U⟩:=hd
 obtain⟨s,J,x,h1,h2⟩:=(M w).rd enc base held fuel _ _ U
 unfold P0 at B
 rw[ht]at B
 obtain⟨cs,rfl,_⟩:=B
 refine⟨s,x,?_,h1,h2⟩
 rw[Flat.qo I,<- J]
 simp[abr]
end
def qj(x:Int):Int:=IntKind.i64.wrap x
theorem Ta{x:Int}(h : -9223372036854775808<=x/\x<=9223372036854775807):qj x=x:=IntWalk.i64_in _ h
section
variable {P:Program}{T:Nat}{cx cy:Bool}{a b:Int}{K:Value->Prop}
theorem DF(k:K (jK (qj (a+b)))):eM P (lR .add T cx cy (jK a) (jK b)) K:=⟨_,rfl,k⟩
theorem xU(k:K (jK (qj (a-b)))):eM P (lR .sub T cx cy (jK a) (jK b)) K:=⟨_,rfl,k⟩
theorem Am(k:K (jK (qj (a*b)))):eM P (lR .mul T cx cy (jK a) (jK b)) K:=⟨_,rfl,k⟩
theorem aa4(k:K (jK (qj (0-a)))):eM P (Op.unary .neg (jK a)) K:=⟨_,rfl,k⟩
theorem Io(h:b≠0)(k:K (jK (qj (a.tdiv b)))):eM P (lR .quo T cx cy (jK a) (jK b)) K:=by
 refine⟨_,?_,k⟩
 show pr P (Op.intDiv .quo .i64 a b)=_
 unfold Op.intDiv
 rw[fU h];rfl
theorem aa5(h:b≠0)(k:K (jK (a.tmod b))):eM P (lR .rem T cx cy (jK a) (jK b)) K:=by
 refine⟨_,?_,k⟩
 show pr P (Op.intDiv .rem .i64 a b)=_
 unfold Op.intDiv
 rw[fU h];rfl
end
def Ip{α:Type}[Flat α]{P:Program}{w w0:World}{A:Nat->Prop}{L:List HP}{xs:List α}{T E pj:Nat}{z:Option Nat}{v:Value}{i:Int}{K:Value->Prop}(ht:gg P T=some (E,Flat.sz α,pj,z))
  (U:St w0 A (bE v xs::L) w) (h0:0<=i) (h1:i<=xs.length) (k:∀M,St w0 A (bE M (xs.take i.toNat)::L) w->K M):eM P (rr T v none (some (jK i)) none) K:=by
 obtain⟨a,cap,B,Nd,_⟩:=U.fu
 refine⟨_,(by rw[B];exact E2 ht (uV (.inl ⟨rfl,rfl⟩) (.inr ⟨i,rfl,h0,rfl⟩) (o6 _) cW)),k _ ?_⟩
 refine U.wk λF J=>?_
 rcases J with⟨I,V,gG⟩|⟨b,Nf,rest,HU,hb,O,J⟩
 .rw[I]at B
  subst V
  simp only[HJ.injEq]at B
  obtain⟨rfl,_,rfl⟩:=B
  have W:i.toNat=0:=by simp at h1;omega
  refine⟨F,.inl ⟨?_,eU,gG⟩,λb hb=>.inl hb,js.refl _ _⟩
  rw[W];rfl
 rw[HU]at B
 simp only[HJ.injEq]at B
 obtain⟨rfl,_,rfl⟩:=B
 refine⟨F,.inr ⟨b,Nf,flat (xs.drop i.toNat)++rest,?_,?_,?_,J⟩,λb hb=>.inl hb,js.refl _ _⟩
 .have Kx:(xs.take i.toNat).length=i.toNat:=by rw[oj];omega
  rw[Kx]
  simp[ju]
 .rw[<- qF,<- kj,s6];exact hb
 exact⟨x5 (by rw[oj];omega) O.1,by rw[<- qF,<- kj,s6];exact O.2⟩
section
variable {P:Program}{w w':World}{v:Value}
theorem DL.flat{α:Type}[Flat α][D:Deep α α]{xs:List α}(h:DL w v xs)(B:∀w s x,D.dr w s x↔s=x:=by intros;exact Iff.rfl):eN (λ_=>True) w v xs:=by
 obtain⟨ts,h1,h2⟩:=h.open
 rw[(LO B).1 h2]at h1;exact h1
theorem DL.gB{α:Type}[Flat α][D:Deep α α]{xs:List α}(h:eN (λ_=>True) w v xs)(B:∀w s x,D.dr w s x↔s=x:=by intros;exact Iff.rfl):DL w v xs:=DL.of h ((LO B).2 rfl)
theorem Qa{α:Type}[Flat α]{S:Nat->Prop}{xs:List α}{T E M:Nat}{z:Option Nat}{I B:Option Value}{l h:Nat}{K:Value->Prop}(ht:gg P T=some (E,Flat.sz α,M,z))(W:eN S w v xs)
  (O:I=none/\l=0\/∃i:Int,I=some (jK i)/\0<=i/\l=i.toNat) (U:B=none/\h=xs.length\/∃i:Int,B=some (jK i)/\0<=i/\h=i.toNat)
  (h1:l<=h) (h2:h<=xs.length) (k:∀J,(∀w',eN S w' v xs->eN S w' J ((xs.take h).drop l))->K J):eM P (rr T v I B none) K:=by
 obtain⟨a,cap,rfl,Nd,h3⟩:=W
 exact⟨_,E2 ht (uV O U h1 cW),k _ λw' V=>V.cut rfl h1 h2⟩
theorem vt{α:Type}[Flat α]{S:Nat->Prop}{xs:List α}{T E M:Nat}{z:Option Nat}{i:Int}{K:Value->Prop}(ht:gg P T=some (E,Flat.sz α,M,z))(I:eN S w v xs)
  (J:0<=i) (h2:i<=xs.length) (k:∀B,(∀w',eN S w' v xs->eN S w' B (xs.drop i.toNat))->K B):eM P (rr T v (some (jK i)) none none) K:=
 Qa ht I (.inr ⟨i,rfl,J,rfl⟩) (.inl ⟨rfl,rfl⟩) cW (r4 _) λB h=>k B λw' O=>eS
theorem mT{α:Type}[Flat α]{S:Nat->Prop}{xs:List α}{T E I:Nat}{z:Option Nat}{i j:Int}{K:Value->Prop}(ht:gg P T=some (E,Flat.sz α,I,z))(J:eN S w v xs)
  (M:0<=i) (h1:i<=j) (h2:j<=xs.length) (k:∀B,(∀w',eN S w' v xs->eN S w' B ((xs.take j.toNat).drop i.toNat))->K B):eM P (rr T v (some (jK i)) (some (jK j)) none) K:=
 Qa ht J (.inr ⟨i,rfl,M,rfl⟩) (.inr ⟨j,rfl,cW,rfl⟩) cW cW k
theorem DL.cut{α σ:Type}[Flat σ][Deep α σ]{xs:List α}{ts:List σ}{B:Value}{l h:Nat}(J:∀w',eN (λ_=>True) w' v ts->eN (λ_=>True) w' B ((ts.take h).drop l))(I:eN (λ_=>True) w v ts)(E:jF ts xs w):DL w B ((xs.take h).drop l):=
 DL.of (J w I) ((E.take h).drop l)
theorem DL.VY{α σ:Type}[Flat σ][Deep α σ]{xs:List α}{ts:List σ}{B:Value}{l:Nat}(J:∀w',eN (λ_=>True) w' v ts->eN (λ_=>True) w' B (ts.drop l))(I:eN (λ_=>True) w v ts)(E:jF ts xs w):DL w B (xs.drop l):=
 DL.of (J w I) (E.drop l)
theorem Iq{a b:ByteArray}:(a.toList == b.toList)=decide (a=b):=by
 rw[ByteArray.toList_eq,ByteArray.toList_eq,Bool.eq_iff_iff,beq_iff_eq,decide_eq_true_eq]
 constructor
 .intro h
  obtain⟨a⟩:=a
  simp_all
 grind
theorem xV{T:Nat}{cx cy:Bool}{a b:ByteArray}{K:Value->Prop}(k:K (.bool (decide (a=b)))):eM P (lR .eql T cx cy (.string a) (.string b)) K:=by
 rw[<- Iq]at k
 exact⟨_,rfl,k⟩
theorem sF{T:Nat}{cx cy:Bool}{a b:ByteArray}{K:Value->Prop}(k:K (.bool (decide (¬ a=b)))):eM P (lR .neq T cx cy (.string a) (.string b)) K:=by
 refine⟨_,rfl,?_⟩
 have:(!(a.toList == b.toList))=decide (¬ a=b):=by rw[Iq];grind
 grind
end
def nB(s:ByteArray):List UInt8:=s.data.toList
theorem eX(s:ByteArray):(nB s).length=s.size:=by simp_all[nB]
theorem ahe(s:ByteArray)(i:Nat):(nB s)[i]?=if h:i<s.size then some (s[i]'h)else none:=by
 unfold nB
 by_cases h:i<s.size
 .rw[dif_pos h,Array.getElem?_toList]
  exact Array.getElem?_eq_getElem h
 simp_all
section
variable {P:Program}{T R:Nat}{cx cy:Bool}{a b:Int}{K:Value->Prop}
theorem iL{s:ByteArray}(B:P.underlying T=some .string)(k:K (jK (s.size:Int))):eM P (Builtin.len_ #[T] R [acI s].toArray) K:=by
 refine⟨_,?_,k⟩
 show pr P (do
  match <- underlying T,acI s with
  | .string,.string s=>pure (goInt s.size)
  | .array n _,_=>pure (goInt n)
  | .pointer arr,_=>
   let .array n _ <- underlying arr|stuck "len: pointer to array expected"
   pure (goInt n)
  | .slice _,.slice _ n _=>pure (goInt n)
  | .map _ _,.map none|.chan _ _,.chan none=>pure (goInt 0)
  | .map _ _,.map (some r)=>
   let .map entries _ <- getObj r|stuck "len: map expected"
   pure (goInt entries.size)
  | .chan _ _,.chan (some r)=>
   let .chan _ buf _ _ _ timer <- getObj r|stuck "len: channel expected"
   pure (goInt (if timer then 0 else buf.size))
  | _, _ => stuck "len: string, array, pointer to array, slice, map or channel expected")=_
 rw[cX,dC B];rfl
theorem nW{s:ByteArray}{i:Int}{e:UInt8}(E:P.underlying T=some .string)(J:0<=i)(B:(nB s)[i.toNat]?=some e)(k:K (.int .u8 (e.toNat:Int))):eM P (Ly T (.string s) (jK i)) K:=by
 refine⟨_,?_,k⟩
 rw[ahe]at B
 have I:i.toNat<s.size:=by
  grind
 rw[dif_pos I]at B
 have h3:(if 0<=i then s[i.toNat]? else none)=some e:=eS
 unfold Ly
 simp only[asIntOf,cX,dC E,o5,gi,h3]
theorem sG{s:ByteArray}{i:Int}(B:P.underlying T=some .string)(E:0<=i)(h1:i<=s.size)(k:K (.string (s.extract 0 i.toNat))):eM P (rr T (.string s) none (some (jK i)) none) K:=by
 refine⟨_,?_,k⟩
 unfold rr
 rw[cX,dC B]
 simp only[o5]
 unfold Yu
 rw[cX,dC B]
 simp only[o5]
 rw[fU dO]
 have hb:pr P (Ap false s.size s.size none (some (jK i)) none)=some (0,i.toNat,s.size):=by
  simp only[Ap,cX,gi,o5]
  rw[pH E h1];rfl
 rw[cX,hb];rfl
theorem Qb{s:ByteArray}{i j:Int}(B:P.underlying T=some .string)(E:0<=i)(I:i<=j)(h1:j<=s.size)(k:K (.string (s.extract i.toNat j.toNat))):eM P (rr T (.string s) (some (jK i)) (some (jK j)) none) K:=by
 refine⟨_,?_,k⟩
 unfold rr
 rw[cX,dC B]
 simp only[o5]
 unfold Yu
 rw[cX,dC B]
 simp only[o5]
 rw[fU dO]
 have hb:pr P (Ap false s.size s.size (some (jK i)) (some (jK j)) none)=some (i.toNat,j.toNat,s.size):=by
  simp only[Ap,cX,gi,o5]
  rw[pH cW h1];simp only[o5];rw[pH E cW];rfl
 rw[cX,hb];rfl
theorem Qc(k:K (.bool (decide (a<=b)))):eM P (lR .leq T cx cy (.int .u8 a) (.int .u8 b)) K:=⟨_,rfl,k⟩
theorem Qd(k:K (.bool (decide (b<=a)))):eM P (lR .geq T cx cy (.int .u8 a) (.int .u8 b)) K:=⟨_,rfl,k⟩
theorem ry(k:K (.bool (decide (a=b)))):eM P (lR .eql T cx cy (.int .u8 a) (.int .u8 b)) K:=⟨_,rfl,k⟩
theorem aa6(k:K (.bool (decide (a≠b)))):eM P (lR .neq T cx cy (.int .u8 a) (.int .u8 b)) K:=
 ⟨_,(show pr P (lR .neq T cx cy (.int .u8 a) (.int .u8 b))=some (.bool (decide (a≠b)))from by
  show some (y9 (a != b))=_
  grind),k⟩
theorem aa7{t:Array TypeId}{R:TypeId}{c:Int}(k:K (jK (max (max a b) c))):eM P (Builtin.max_ t R [jK a,jK b,jK c].toArray) K:=by
 refine⟨_,?_,k⟩
 show pr P (do Builtin.max2 (<- Builtin.max2 (jK a) (jK b)) (jK c))=_
 have h:∀x y:Int,pr P (Builtin.max2 (jK x) (jK y))=some (jK (max x y)):=by
  intro x y
  unfold Builtin.max2
  by_cases h:x<y
  .simp[h,gi];omega
  .simp[h,gi];omega
 rw[cX,h]
 exact h _ _
end
def fW{α σ:Type}[Flat σ][Deep α σ](v:Value)(xs:List α):HP:=uI λts:List σ=>sep (bE v ts) (fB (jF ts xs))
section
variable {P:Program}{α σ:Type}[Flat σ] [D:Deep α σ] {w w' w0:World}{v src:Value}{A:Nat->Prop}{L:List HP}{xs ys:List α}
theorem St.wK(B:St w0 A (fW v xs::L) w):∃ts:List σ,St w0 A (bE v ts::Fw.fB (jF ts xs)::L) w:=by
 obtain⟨ts,h⟩:=B.fH;exact⟨ts,h.split⟩
theorem St.An{ts:List σ}(B:St w0 A (bE v ts::Fw.fB (jF ts xs)::L) w):St w0 A (fW v xs::L) w:=
 St.fD (H:=λts:List σ=>sep (bE v ts) (Fw.fB (jF ts xs))) ts (St.join B)
theorem St.Tb{ts:List σ}(B:St w0 A (bE v ts::Fw.fB (jF ts xs)::L) w):ts.length=xs.length:=B.p1.fB.1
theorem St.BY(B:St w0 A L w):St w0 A (fW (.slice none 0 0) ([]:List α)::L) w:=
 St.An (ts:=[]) ((B.iK λ_=>jF.nil).gA)
theorem St.auW(B:St w0 A (bE v ([]:List σ)::L) w):St w0 A (fW v ([]:List α)::L) w:=
 St.An (ts:=[]) (B.iK (Φ:=jF ([]:List σ) ([]:List α)) λ_=>jF.nil).p1
theorem St.aDq{s:σ}{x:α}(B:St w0 A (bE v [s]::Fw.fB (λw=>Deep.dr w s x)::L) w):St w0 A (fW v [x]::L) w:=by
 refine St.An (ts:=[s]) ?_
 refine(B.p1.dT (Ψ:=jF [s] [x]) λw h=>?_).p1
 exact(jF.nil (w:=w)).snoc h
theorem St.aDr{ts us:List σ}(B:St w0 A (bE v (ts++us)::Fw.fB (jF ts xs)::Fw.fB (jF us ys)::L) w):St w0 A (fW v (xs++ys)::L) w:=by
 have h1:=(B.p1:St w0 A (Fw.fB (jF ts xs)::bE v (ts++us)::Fw.fB (jF us ys)::L) w)
 have h2:=h1.p2.p1
 refine St.An (ts:=ts++us) ?_
 exact(h2.gU.dT (Ψ:=jF (ts++us) (xs++ys)) λw h=>h.1.append h.2).p1
theorem St.mf(B:St w0 A (fW v xs::L) w):St w0 A (Fw.fB (λw=>DL w v xs)::L) w:=by
 obtain⟨ts,h⟩:=B.wK
 exact h.freeze.gU.dT λw h=>DL.of h.1 h.2
theorem St.dl(B:St w0 A (fW v xs::L) w):DL w v xs:=B.mf.fB
theorem St.nX(B:St w0 A (fW v xs::L) w):∃s:SV,v=Flat.val s:=B.dl.gE
theorem St.enc{b:Nat}{cs cs':List Value}(B:St w0 A (cI b cs::L) w)(h:cs=cs'):St w0 A (cI b cs'::L) w:=h▸B
theorem oB{T E I:Nat}{K:Value->jj}(B:St w0 A L w)(ht:SlT P T E (Flat.sz σ) I)(k:∀v w',St w0 A (fW v ([]:List α)::L) w'->K v w'):nU P (L2 T 0 ([]:List (Nat×Value)).toArray) w K:=
 bJ ([]:List σ) B ht rfl rfl eU λv w' h=>k v w' h.auW
theorem fG{T E I:Nat}{s:σ}{x:α}{K:Value->jj}(B:St w0 A (Fw.fB (λw=>Deep.dr w s x)::L) w)(ht:SlT P T E (Flat.sz σ) I)(J:Flat.sz σ<=64)(k:∀v w',St w0 A (fW v [x]::L) w'->K v w') :
  nU P (L2 T 1 [(0,Flat.val s)].toArray) w K:=
 bJ [s] B ht rfl rfl (by simp;omega) λv w' h=>k v w' h.aDq
theorem eB{T E J R:Nat}{K:Value->jj}(M:St w0 A (fW v xs::fW src ys::L) w)(ht:SlT P T E (Flat.sz σ) J)
  (O:xs.length+ys.length<=1073741824) (I:J<=8192) (k:∀B w',St w0 A (fW B (xs++ys)::L) w'->K B w'):nU P (Builtin.append_ #[T,T] R [v,src].toArray) w K:=by
 obtain⟨us,h1⟩:=M.p1.wK
 obtain⟨ts,h2⟩:=h1.p2.wK
 have e1:=h1.Tb
 have U:=h2.Tb
 refine bW h2 ht h2.p2.fu cW I λB w' h=>k B w' ?_
 exact h.p2.drop.aDr
theorem GX{β:Type}[Flat β]{T:Nat}{b o:Nat}{cs:List Value}(x:β)(ht:cY P T=some (Flat.agg β,Flat.sz β))(hb:uE w b cs)(B:(cs.drop o).take (Flat.sz β)=Flat.enc x) :
  (yv T (.pointer (some ⟨b,o,none⟩))).run P w=.ok (Flat.val x) w:=by
 refine eG (S:=λ_=>True) ht ⟨b,o,rfl,trivial,λj c E=>hb.cell ?_⟩
 grind
end
instance:Flat UInt8 where
 agg:=false
 sz:=1
 enc b:=[.int .u8 b.toNat]
 val b:=.int .u8 b.toNat
 pos:=dO
 len _:=rfl
 one a v h:=by rw[s7.1 h];rfl
 qo h:=by cases h
 qp _ _:=rfl
instance:Deep UInt8 UInt8:=kD
theorem ahf(l:List UInt8):flat l=l.map λb=>qs .u8 b.toNat:=by
 induction l with
 | nil=>rfl
 | cons x l B=>rw[ly,B];rfl
def jU{P:Program}{w w0:World}{A:Nat->Prop}{L:List HP}{src B e:TypeId}{s:ByteArray}{u:TypeDesc}{K:Value->jj}(O:St w0 A L w)(h1:P.underlying src=some u)(h2:P.underlying B=some (.slice e))(h3:P.underlying e=some (.int .u8))
  (k:∀v w',St w0 A (Fw.fB (λw=>eN (λ_=>True) w v (nB s))::L) w'->K v w'):nU P (convert src B (.string s)) w K:=by
 refine⟨_,_,Go.Lib.run_convert_string_bytes w src B e s h1 h2 h3,k _ _ ?_⟩
 have V:Ext w (Go.Lib.bytesWorld w e s):=by
  refine⟨?_,?_,?_,by rw[Go.Lib.bytesWorld_size];omega,λb hb _=>Go.Lib.bytesWorld_at_old w e s b hb⟩
  all_goals simp[Go.Lib.bytesWorld,World.freeze,World.alloc,World.drew,-World.alloc_eq,-World.drew_eq]
 refine O.new V (F:=λb=>b=w.heap.size) ⟨λw' M=>?_,λb hb=>by rw[hb,Go.Lib.bytesWorld_size];omega⟩ λb hb=>by rw[hb];exact r4 _
 have I:(nB s).length=s.size:=eX s
 refine⟨some ⟨w.heap.size,0,none⟩,grownCap w s.size 0 e,by rw[I],by rw[I];exact grownCap_ge w s.size 0 e,.inr ⟨w.heap.size,0,rfl,λ_=>trivial,λj c J=>?_⟩⟩
 rw[ahf,List.getElem?_map]at J
 obtain⟨b,hb,rfl⟩:=Option.map_eq_some_iff.1 J
 have U:j<s.size:=by rw[<- I];exact(l0.1 hb).1
 have W:=M w.heap.size rfl
 have E:=Go.Lib.bytesWorld_cell w e s j U
 have e2:s.data.toList.getD j 0=b:=by
  rw[List.getD_eq_getElem?_getD]
  have:s.data.toList[j]?=some b:=hb
  rw[this];rfl
 rw[e2]at E
 unfold Cell
 rw[ve]
 unfold QM at E |-
 dsimp only at E |-
 rw[W];exact E
def rz{α σ:Type}[Flat σ][Deep α σ](P:Program)(w:World)(f:Value)(φ:α->Prop)(g:α->Bool):Prop:=∃E first cap,f=.func (.func E) (W0 first) (W0 cap)/\Plain P E/\
 ∀(s:σ) (x:α) B,Ext w B->Deep.dr B s x->φ x->Calls P E (first++[Flat.val s]++cap).toArray B (qZ λv I=>v=.bool (g x)/\Ext B I)
theorem rz.ext{α σ:Type}[Flat σ][Deep α σ]{P:Program}{w w':World}{f:Value}{φ:α->Prop}{g:α->Bool}(h:rz P w f φ g)(e:Ext w w'):rz P w' f φ g:=by
 obtain⟨E,first,cap,h1,h2,h3⟩:=h;exact⟨E,first,cap,h1,h2,λs x B e1=>h3 s x B (e.trans e1)⟩
def Bv{α:Type}[Flat α]{P:Program}{S:Nat->Prop}{w:World}{T E:TypeId}{cx cy:Bool}{v:Value}{xs:List α}{K:Value->Prop}(h:P.underlying T=some (.slice E))(I:eN S w v xs)(k:∀p:Bool,(p=true->xs=[])->K (.bool p)) :
  eM P (lR .eql T cx cy v (.slice none 0 0)) K:=by
 obtain⟨a,cap,rfl,_,h3⟩:=I
 have B:pr P (Op.equal T (.slice a xs.length cap) (.slice none 0 0))=some a.isNone:=by
  show pr P (Op.equalIn 10000 T (.slice a xs.length cap) (.slice none 0 0))=_
  unfold Op.equalIn
  rw[cX,dC h]
  cases a<;>rfl
 refine⟨_,?_,k a.isNone λJ=>?_⟩
 .show pr P (do pure (y9 (<- Op.equal T (.slice a xs.length cap) (.slice none 0 0))))=_
  rw[yG,B];rfl
 grind
def St.auX{α:Type}[Flat α]{w w0:World}{A:Nat->Prop}{L:List HP}{v:Value}{xs ys:List α}(B:St w0 A (bE v xs::L) w)(h:xs=ys):St w0 A (bE v ys::L) w:=h▸B
def aa8{α β:Type}[Flat α][Flat β]{P:Program}{w w0:World}{A:Nat->Prop}{L:List HP}{xs:List α}{T:Nat}{v p:Value}{i B:Nat}{x:α}(y:β)(I:St w0 A (bE v xs::L) w)(ht:cY P T=some (Flat.agg β,Flat.sz β))(M:Nw α v i B p)(E:xs[i]?=some x)
  (J:((Flat.enc x).drop B).take (Flat.sz β)=Flat.enc y):(yv T p).run P w=.ok (Flat.val y) w:=by
 obtain⟨v,h1,h2⟩:=(lH (K:=λv=>v=Flat.val y) y I ht M E J rfl).ex
 rw[<- h2];exact h1
structure Ptr where
 b:Nat
deriving DecidableEq
instance:Flat Ptr where
 agg:=false
 sz:=1
 enc p:=[.pointer (some ⟨p.b,0,none⟩)]
 val p:=.pointer (some ⟨p.b,0,none⟩)
 pos:=dO
 len _:=rfl
 one a v h:=by rw[s7.1 h];rfl
 qo h:=by cases h
 qp _ _:=rfl
instance:Deep Ptr Ptr:=kD
def iU{α κ:Type}(H:κ->α->HP):List κ->List α->HP
 | [],[]=>emp
 | p::ps,x::xs=>sep (H p x) (iU H ps xs)
 | _,_=>fact False emp
section
variable {P:Program}{α κ:Type}{H:κ->α->HP}{A:Nat->Prop}{w0 w:World}{L:List HP}
theorem Fb:∀{ps:List κ}{xs:List α}{F:Nat->Prop},(iU H ps xs).p w F->ps.length=xs.length
 | [],[],_,_=>rfl
 | s::ss,x::xs,F,h=>by
  obtain⟨B,E,_,h2,_,_⟩:=h
  rw[sf,sf,Fb h2]
 | [],_::_,_,h=>h.1.elim
 | _::_,[],_,h=>h.1.elim
theorem St.jy{ps:List κ}{xs:List α}(B:St w0 A (iU H ps xs::L) w):ps.length=xs.length:=by
 obtain⟨F,h,_⟩:=B.head;exact Fb h
theorem St.Ir(B:St w0 A L w):St w0 A (iU H [] []::L) w:=B.new (Ext.refl w) (F:=aY) (λ_ h=>h) λ_ h=>h.elim
def qN(H:κ->α->HP)(ps:List κ)(xs:List α)(i:Nat):HP:=sep (iU H (ps.take i) (xs.take i)) (iU H (ps.drop (i+1)) (xs.drop (i+1)))
theorem F8:∀{ps:List κ}{xs:List α}{i:Nat}{p:κ}{x:α}{F:Nat->Prop},(iU H ps xs).p w F->ps[i]?=some p->xs[i]?=some x->(sep (H p x) (qN H ps xs i)).p w F
 | p'::ps,x'::xs,0,p,x,F,h,B,hx=>by
  rw[List.getElem?_cons_zero]at B hx
  obtain rfl:=qa.inj B
  obtain rfl:=qa.inj hx
  obtain⟨E,I,h1,h2,h3,h4⟩:=h
  exact⟨E,I,h1,⟨aY,I,λ_ h=>h,h2,λ_ h=>h.elim,λb=>⟨.inr,λh=>h.elim (λh=>h.elim) id⟩⟩,h3,h4⟩
 | p'::ps,x'::xs,i+1,p,x,F,h,B,hx=>by
  rw[yV]at B hx
  obtain⟨E,I,h1,h2,h3,h4⟩:=h
  obtain⟨V,W,g1,⟨J,U,M,k2,k3,k4⟩,g3,O⟩:=F8 h2 B hx
  refine⟨V,λb=>E b\/W b,g1,⟨λb=>E b\/J b,U,⟨E,J,h1,M,λb hb hk=>h3 b hb ((O b).2 (.inr ((k4 b).2 (.inl hk)))),λb=>Iff.rfl⟩,k2,?_,?_⟩,?_,?_⟩
  .grind
  .grind
  .grind
  grind
 | [],[],_,_,_,_,_,B,_=>by simp at B
 | [],_::_,_,_,_,_,h,_,_=>h.1.elim
 | _::_,[],_,_,_,_,h,_,_=>h.1.elim
theorem Fc:∀{ps:List κ}{xs:List α}{i:Nat}{p:κ}{x:α}{F:Nat->Prop},i<xs.length->ps.length=xs.length->(sep (H p x) (qN H ps xs i)).p w F->(iU H (ps.set i p) (xs.set i x)).p w F
 | p'::ps,x'::xs,0,p,x,F,_,_,h=>by
  obtain⟨I,O,h1,⟨K1,B,k1,W,M,V⟩,h3,h4⟩:=h
  refine⟨I,O,h1,?_,h3,h4⟩
  have e:O=B:=funext λb=>propext ((V b).trans ⟨λh=>h.elim (λh=>(k1 b h).elim) id,.inr⟩)
  grind
 | p'::ps,x'::xs,i+1,p,x,F,J,hl,h=>by
  obtain⟨U,G2,g1,⟨K1,B,⟨I,E,f1,m1,f3,f4⟩,W,M,V⟩,g3,g4⟩:=h
  refine⟨I,λb=>U b\/(E b\/B b),f1,Fc eS eS ⟨U,λb=>E b\/B b,g1,⟨E,B,m1,W,λb hb hk=>M b ((f4 b).2 (.inr hb)) hk,λb=>Iff.rfl⟩,?_,λb=>Iff.rfl⟩,?_,?_⟩
  .grind
  .grind
  grind
 | [],_::_,_,_,_,_,_,hl,_=>by simp at hl
 | _,[],_,_,_,_,J,_,_=>by simp at J
theorem o0{β:Type}:∀{ps:List β}{i:Nat}{p:β},ps[i]?=some p->ps.set i p=ps
 | [],_,_,h=>by simp at h
 | y::ps,0,p,h=>by grind
 | y::ps,i+1,p,h=>by rw[yV]at h;rw[List.set_cons_succ,o0 h]
theorem Tc{ps:List κ}{xs:List α}{i:Nat}{p:κ}{x:α}{F:Nat->Prop}(B:i<xs.length)(I:ps.length=xs.length)(E:ps[i]?=some p)(h:(sep (H p x) (qN H ps xs i)).p w F):(iU H ps (xs.set i x)).p w F:=by
 have:=Fc B I h;rwa [o0 E]at this
theorem LP:∀{ps B:List κ}{xs ys:List α}{F:Nat->Prop},(sep (iU H ps xs) (iU H B ys)).p w F->(iU H (ps++B) (xs++ys)).p w F
 | [],B,[],ys,F,⟨I,E,h1,h2,_,h4⟩=>by
  have:F=E:=funext λb=>propext ((h4 b).trans ⟨λh=>h.elim (λh=>(h1 b h).elim) id,.inr⟩)
  grind
 | p::ps,B,x::xs,ys,F,⟨I,E,⟨G1,G2,g1,g2,g3,g4⟩,h2,h3,h4⟩=>by
  refine⟨G1,λb=>G2 b\/E b,g1,LP ⟨G2,E,g2,h2,λb hb=>h3 b ((g4 b).2 (.inr hb)),λb=>Iff.rfl⟩,λb hb=>?_,λb=>eS⟩
  grind
 | [],_,_::_,_,_,⟨_,_,h,_⟩=>h.1.elim
 | _::_,_,[],_,_,⟨_,_,h,_⟩=>h.1.elim
theorem St.focus{ps:List κ}{xs:List α}{i:Nat}{p:κ}{x:α}(B:St w0 A (iU H ps xs::L) w)(I:ps[i]?=some p)(E:xs[i]?=some x):St w0 A (H p x::qN H ps xs i::L) w:=
 (B.wk (H':=sep (H p x) (qN H ps xs i)) λF J=>⟨F,F8 J I E,λb hb=>.inl hb,js.refl _ _⟩).split
theorem St.nY{ps:List κ}{xs:List α}{i:Nat}{p:κ}{x:α}(B:St w0 A (H p x::qN H ps xs i::L) w)(E:i<xs.length)(M:ps.length=xs.length)(I:ps[i]?=some p):St w0 A (iU H ps (xs.set i x)::L) w:=
 (St.join B).wk λF J=>⟨F,Tc E M I J,λb hb=>.inl hb,js.refl _ _⟩
theorem Is:∀{ps:List κ}{xs:List α}{p:κ}{x:α}{E B F:Nat->Prop},(iU H ps xs).p w E->(H p x).p w B->(∀b,E b->¬ B b)->(∀b,F b↔E b\/B b)->(iU H (ps++[p]) (xs++[x])).p w F
 | [],[],p,x,E,B,F,h1,h2,_,h4=>⟨B,E,h2,h1,λb _ I=>h1 b I,λb=>eS⟩
 | s'::ss,x'::xs,p,x,E,B,F,h1,h2,h3,h4=>by
  obtain⟨J,M,O,V,W,U⟩:=h1
  refine⟨J,λb=>M b\/B b,O,Is V h2 (λb hb=>h3 b ((U b).2 (.inr hb))) (λb=>Iff.rfl),λb hb=>?_,λb=>?_⟩
  .grind
  grind
 | [],_::_,_,_,_,_,_,h,_,_,_=>h.1.elim
 | _::_,[],_,_,_,_,_,h,_,_,_=>h.1.elim
theorem St.DG{ps:List κ}{xs:List α}{p:κ}{x:α}(B:St w0 A (iU H ps xs::H p x::L) w):St w0 A (iU H (ps++[p]) (xs++[x])::L) w:=by
 refine(St.join B).wk λF E=>?_
 obtain⟨I,J,h1,h2,h3,h4⟩:=E
 exact⟨F,Is h1 h2 h3 h4,λb hb=>.inl hb,js.refl _ _⟩
theorem St.It{ps:List κ}{xs:List α}{i:Nat}{p:κ}{x:α}(B:St w0 A (H p x::qN H ps xs i::L) w)(E:i<xs.length)(J:ps.length=xs.length):St w0 A (iU H (ps.set i p) (xs.set i x)::L) w:=
 (St.join B).wk λF I=>⟨F,Fc E J I,λb hb=>.inl hb,js.refl _ _⟩
theorem St.Yc{ps:List κ}{xs:List α}{i:Nat}(B:St w0 A (qN H ps xs i::L) w):St w0 A (iU H (ps.eraseIdx i) (xs.eraseIdx i)::L) w:=by
 rw[H5,H5]
 exact B.wk λF E=>⟨F,LP E,λb hb=>.inl hb,js.refl _ _⟩
theorem St.anP{ps:List κ}{xs:List α}{i:Nat}{p:κ}{x:α}{Φ:jj}(B:St w0 A (iU H ps xs::L) w)(I:ps[i]?=some p)(E:xs[i]?=some x)(h:∀{w F},(H p x).p w F->Φ w):Φ w:=by
 obtain⟨F,J,_⟩:=(B.focus I E).head;exact h J
end
end Go.Fw
