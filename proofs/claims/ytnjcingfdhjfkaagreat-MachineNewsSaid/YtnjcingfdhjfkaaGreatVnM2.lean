/-
  Part 2.
-/
import Derived.Test.YtnjcingfdhjfkaaGreatVnM1
set_option linter.all false
set_option maxHeartbeats 8000000
set_option maxRecDepth 100000
namespace Go.Fw
class Flat (α:Type) where
 agg:Bool
 sz:Nat
 enc:α->List Value
 val:α->Value
 pos:0<sz
 len:∀ a,(enc a).length=sz
 one:∀ a v,v∈enc a->eK v=true
 l3:agg=true->∀ a,val a = .agg (enc a).toArray
 l4:agg=false->∀ a,enc a=[val a]
instance:Flat Int where
 agg:=false
 sz:=1
 enc n:=[.int .i64 n]
 val n:=.int .i64 n
 pos:=by decide
 len _:=rfl
 one a v h:=by rw [List.mem_singleton.1 h]; rfl
 l3 h:=by cases h
 l4 _ _:=rfl
instance:Flat Bool where
 agg:=false
 sz:=1
 enc n:=[.bool n]
 val n:=.bool n
 pos:=by decide
 len _:=rfl
 one a v h:=by rw [List.mem_singleton.1 h]; rfl
 l3 h:=by cases h
 l4 _ _:=rfl
instance:Flat ByteArray where
 agg:=false
 sz:=1
 enc n:=[.string n]
 val n:=.string n
 pos:=by decide
 len _:=rfl
 one a v h:=by rw [List.mem_singleton.1 h]; rfl
 l3 h:=by cases h
 l4 _ _:=rfl
section
variable {α:Type} [Flat α]
def flat (xs:List α):List Value:=xs.flatMap Flat.enc
theorem gP:flat ([]:List α)=[]:=rfl
theorem fT (x:α) (xs:List α):flat (x::xs)=Flat.enc x++flat xs:=by simp [flat]
theorem ic (xs ys:List α):flat (xs++ys)=flat xs++flat ys:=by simp [flat]
theorem cH (xs:List α):(flat xs).length=xs.length * Flat.sz α:=by
 induction xs with
 | nil=>simp [gP]
 | cons x xs ih=>rw [fT,List.length_append,ih,Flat.len,List.length_cons,Nat.succ_mul]; omega
theorem G0 {xs:List α}:∀ v∈flat xs,eK v=true:=by
 intro v hv
 obtain ⟨x,_,hx⟩:=List.mem_flatMap.1 hv
 exact Flat.one x v hx
theorem mH {xs:List α} {i j:Nat} {x:α} {c:Value} (hx:xs[i]? = some x) (hc:(Flat.enc x)[j]? = some c):(flat xs)[i * Flat.sz α+j]? = some c:=by
 induction xs generalizing i with
 | nil=>simp at hx
 | cons y ys ih=>
  rw [fT]
  cases i with
  | zero=>
   simp at hx; subst hx
   have hj:j<(Flat.enc y).length:=(List.getElem?_eq_some_iff.1 hc).1
   rw [Nat.zero_mul,Nat.zero_add,List.getElem?_append_left hj]; exact hc
  | succ i=>
   have:=ih (by simpa using hx)
   rw [List.getElem?_append_right (by rw [Flat.len,Nat.succ_mul]; omega),Flat.len]
   rw [show (i+1) * Flat.sz α+j - Flat.sz α=i * Flat.sz α+j from by rw [Nat.succ_mul]; omega]
   exact this
theorem Fg (xs:List α) (n:Nat):flat (xs.take n)=(flat xs).take (n * Flat.sz α):=by
 induction xs generalizing n with
 | nil=>simp [gP]
 | cons x xs ih=>
  cases n with
  | zero=>simp [gP]
  | succ n=>
   rw [List.take_succ_cons,fT,fT,ih,List.take_append,Flat.len]
   have h1:(n+1) * Flat.sz α - Flat.sz α=n * Flat.sz α:=by rw [Nat.succ_mul]; omega
   rw [h1,List.take_of_length_le (i:=(n+1) * Flat.sz α) (l:=Flat.enc x) (by rw [Flat.len,Nat.succ_mul]; omega)]
theorem Fh (xs:List α) (n:Nat):flat (xs.drop n)=(flat xs).drop (n * Flat.sz α):=by
 induction xs generalizing n with
 | nil=>simp [gP]
 | cons x xs ih=>
  cases n with
  | zero=>simp
  | succ n=>
   rw [List.drop_succ_cons,fT,ih,List.drop_append,Flat.len]
   have h1:(n+1) * Flat.sz α - Flat.sz α=n * Flat.sz α:=by rw [Nat.succ_mul]; omega
   rw [h1,List.drop_of_length_le (i:=(n+1) * Flat.sz α) (l:=Flat.enc x) (by rw [Flat.len,Nat.succ_mul]; omega),List.nil_append]
def At (S:Nat->Prop) (w:World) (p:Value) (x:α):Prop:=
 ∃ b o,p = .pointer (some ⟨b,o,none⟩)/\S b/\∀ j c,(Flat.enc x)[j]? = some c->Cell w b (o+j) c
def ee (S:Nat->Prop) (w:World) (v:Value) (xs:List α):Prop:=
 ∃ a cap,v = .slice a xs.length cap/\xs.length<=cap/\((xs=[]/\cap=0)\/∃ b o,a=some ⟨b,o,none⟩/\(xs≠[]->S b)/\∀ j c,(flat xs)[j]? = some c->Cell w b (o+j) c)
def bR (v:Value) (xs:List α):HP where
 p w F:=(v = .slice none 0 0/\xs=[]/\∀ b,¬ F b)\/
  ∃ b cap rest,v = .slice (some ⟨b,0,none⟩) xs.length cap/\ow w b (flat xs++rest)/\(flat xs++rest).length=cap * Flat.sz α/\∀ k,F k↔k=b
 loc w w' F h hh:=by
  rcases h with h | ⟨b,cap,rest,h1,h2,h3,h4⟩
  ·exact .inl h
  ·exact .inr ⟨b,cap,rest,h1,h2.of_eq (hh b ((h4 b).2 rfl)),h3,h4⟩
 lt w F b h hb:=by
  rcases h with h | ⟨b',cap,rest,h1,h2,h3,h4⟩
  ·exact (h.2.2 b hb).elim
  ·rw [(h4 b).1 hb]; exact h2.lt
variable {P:Program} {w w0:World} {A S:Nat->Prop} {L:List HP} {xs ys:List α}
theorem At.aD {A:Nat->Prop} {w w':World} {p:Value} {x:α} (h:At S w p x) (hc:kj A w w') (hd:∀ b,S b->¬ A b):At S w' p x:=by
 obtain ⟨b,o,h1,h2,h3⟩:=h; exact ⟨b,o,h1,h2,λ j c hj=>(h3 j c hj).aD hc (hd b h2)⟩
theorem At.ext {w w':World} {p:Value} {x:α} (h:At S w p x) (hc:Ext w w'):At S w' p x:=h.aD hc λ _ _ h=>h
theorem ee.aD {A:Nat->Prop} {w w':World} {v:Value} (h:ee S w v xs) (hc:kj A w w') (hd:∀ b,S b->¬ A b):ee S w' v xs:=by
 obtain ⟨a,cap,h1,h2,h3⟩:=h
 refine ⟨a,cap,h1,h2,?_⟩
 rcases h3 with h3 | ⟨b,o,h3,h4,h5⟩
 ·exact .inl h3
 exact .inr ⟨b,o,h3,h4,λ j c hj=>(h5 j c hj).aD hc (hd b (h4 λ h=>by subst h; simp [gP] at hj))⟩
theorem ee.ext {w w':World} {v:Value} (h:ee S w v xs) (hc:Ext w w'):ee S w' v xs:=h.aD hc λ _ _ h=>h
theorem ee.mono {S':Nat->Prop} {v:Value} (h:ee S w v xs) (hd:∀ b,S b->S' b):ee S' w v xs:=by
 obtain ⟨a,cap,h1,h2,h3⟩:=h
 exact ⟨a,cap,h1,h2,h3.imp id λ ⟨b,o,h3,h4,h5⟩=>⟨b,o,h3,λ h=>hd b (h4 h),h5⟩⟩
theorem ee.nil (S:Nat->Prop) (w:World):ee S w (.slice none 0 0) ([]:List α):=⟨none,0,rfl,Nat.le_refl _,.inl ⟨rfl,rfl⟩⟩
theorem bR.rd {v:Value} {F:Nat->Prop} (h:(bR v xs).p w F):ee F w v xs:=by
 rcases h with ⟨h1,h2,h3⟩ | ⟨b,cap,rest,h1,h2,h3,h4⟩
 ·subst h1 h2; exact ee.nil _ _
 refine ⟨_,cap,h1,?_,.inr ⟨b,0,rfl,λ _=>(h4 b).2 rfl,λ j c hj=>?_⟩⟩
 ·rw [List.length_append,cH] at h3
  exact Nat.le_of_mul_le_mul_right (show xs.length * Flat.sz α<=cap * Flat.sz α by omega) (Flat.pos (α:=α))
 rw [Nat.zero_add]
 exact h2.cell (by rw [List.getElem?_append_left (List.getElem?_eq_some_iff.1 hj).1]; exact hj)
theorem St.rd {v:Value} (hs:St w0 A (bR v xs::L) w):∃ S,(∀ b,S b->A b\/w0.heap.size<=b)/\ee S w v xs:=by
 obtain ⟨F,h1,h2⟩:=hs.head; exact ⟨F,h2,bR.rd h1⟩
theorem St.jo {v:Value} (hs:St w0 A (bR v xs::L) w):ee (λ _=>True) w v xs:=by
 obtain ⟨S,_,h⟩:=hs.rd; exact h.mono λ _ _=>trivial
theorem St.fF (hs:St w0 A L w):St w0 A (bR (.slice none 0 0) ([]:List α)::L) w:=
 hs.new (Ext.refl w) (F:=aZ) (.inl ⟨rfl,rfl,λ _ h=>h⟩) λ _ h=>h.elim
theorem aO {T:TypeId} {p:Value} {x:α} {K:Value->Prop} (ht:bY P T=some (Flat.agg α,Flat.sz α)) (h:At S w p x) (k:K (Flat.val x)):yj P (Instr.loadAt T p) w K:=by
 obtain ⟨b,o,rfl,_,h3⟩:=h
 cases ha:Flat.agg α with
 | true=>
  rw [ha] at ht
  refine ⟨_,?_,k⟩
  rw [Flat.l3 ha x]
  exact oz (by rw [Flat.len]; exact ht) h3
 | false=>
  rw [ha] at ht
  have h1:=Flat.l4 ha x
  have iU:Flat.sz α=1:=by rw [<- Flat.len x,h1]; rfl
  rw [iU] at ht
  exact ⟨_,aH ht (by have:=h3 0 (Flat.val x) (by rw [h1]; rfl); simpa using this),k⟩
theorem St.At {b:Nat} {x:α} (hs:St w0 A (Fw.cZ b (Flat.enc x)::L) w):Fw.At (λ _=>True) w (.pointer (some ⟨b,0,none⟩)) x:=
 ⟨b,0,rfl,trivial,λ j c hj=>by rw [Nat.zero_add]; exact hs.hb.cell hj⟩
theorem dO {β:Type} [Flat β] {T f off:Nat} {p:Value} {x:α} (y:β) {K:Value->Prop} (ht:oy P T f off) (h:At S w p x) (hy:(Flat.enc x)[off]? = some (Flat.val y)) (ha:Flat.agg β=false)
  (k:∀ q,At S w q y->K q):dW P (Instr.fieldAt T p f) K:=by
 obtain ⟨b,o,rfl,h2,h3⟩:=h
 refine aA ht (k _ ⟨b,o+off,rfl,h2,λ j c hj=>?_⟩)
 rw [Flat.l4 ha] at hj
 cases j with
 | zero=>simp at hj; subst hj; exact h3 off _ hy
 | succ j=>simp at hj
theorem uW {T R E n by':Nat} {z:Option Nat} {a:Option Addr} {l c:Nat} (ht:dJ P T=some (E,n,by',z)):pr P (Builtin.len_ #[T] R [Value.slice a l c].toArray)=some (.int .i64 l):=by
 show pr P (do
  match <- underlying T,Value.slice a l c with
  | .string,.string s=>pure (goInt s.size)
  | .array n _,_=>pure (goInt n)
  | .pointer arr,_=>
   let .array n _ <- underlying arr | stuck "len: pointer to array expected"
   pure (goInt n)
  | .slice _,.slice _ n _=>pure (goInt n)
  | .map _ _,.map none | .chan _ _,.chan none=>pure (goInt 0)
  | .map _ _,.map (some r)=>
   let .map entries _ <- getObj r | stuck "len: map expected"
   pure (goInt entries.size)
  | .chan _ _,.chan (some r)=>
   let .chan _ buf _ _ _ timer <- getObj r | stuck "len: channel expected"
   pure (goInt (if timer then 0 else buf.size))
  | _, _ => stuck "len: string, array, pointer to array, slice, map or channel expected") = _
 rw [aU,aS (dS ht).1]
 rfl
theorem aI {T R E n by':Nat} {z:Option Nat} {v:Value} {K:Value->Prop} (ht:dJ P T=some (E,n,by',z)) (h:ee S w v xs) (k:K (.int .i64 (xs.length:Int))) :
  dW P (Builtin.len_ #[T] R [v].toArray) K:=by
 obtain ⟨a,cap,rfl,_⟩:=h
 exact ⟨_,uW ht,k⟩
theorem aR {T E by':Nat} {z:Option Nat} {v:Value} {i:Int} {x:α} {K:Value->Prop} (ht:dJ P T=some (E,Flat.sz α,by',z)) (h:ee S w v xs) (h0:0<=i) (hx:xs[i.toNat]? = some x)
  (k:∀ p,At S w p x->K p):dW P (Instr.indexAt T v (.int .i64 i)) K:=by
 obtain ⟨a,cap,rfl,wV,h3⟩:=h
 have fS:i.toNat<xs.length:=(List.getElem?_eq_some_iff.1 hx).1
 rcases h3 with ⟨rfl,_⟩ | ⟨b,o,rfl,h4,h5⟩
 ·simp at hx
 obtain ⟨hu,inf,hi,iU,_⟩:=dS ht
 refine ⟨.pointer (some ⟨b,o+i.toNat * Flat.sz α,none⟩),?_,k _ ⟨b,_,rfl,h4 (by intro h; subst h; simp at hx),λ j c hj=>?_⟩⟩
 ·unfold Instr.indexAt
  rw [aU]
  show pr P _=_
  simp only [asIntOf]
  have e1:pr P (underlying T)=some (.slice E):=aS hu
  have e2:pr P (sizeOf E)=some (Flat.sz α):=by rw [fC hi,iU]
  simp only [aU,e1,e2,Option.bind_some,dF]
  have VO:0<=i/\i<(xs.length:Int):=⟨h0,by omega⟩
  simp only [if_pos VO,aU,e2,Option.bind_some,dF,dG]
 have:=h5 (i.toNat * Flat.sz α+j) c (mH hx hj)
 rwa [show o+(i.toNat * Flat.sz α+j)=o+i.toNat * Flat.sz α+j from by omega] at this
end
section
variable {α:Type} [Flat α] {P:Program} {w w0:World} {A S:Nat->Prop} {L:List HP} {xs ys:List α}
theorem qS {y:Nat} {i:Int} {code:BoundsCode} (h0:0<=i) (h1:i<=y):pr P (Instr.sliceBound (.int .i64 i) y code)=some i.toNat:=by
 unfold Instr.sliceBound
 rw [aU]
 simp only [asIntOf,dF,Option.bind_some,if_pos (show 0<=i/\i<=(y:Int) from ⟨h0,h1⟩)]
theorem yA {T E sz by':Nat} {z:Option Nat} {a:Option Addr} {n cap l h:Nat} {lo hi:Option Value} (ht:dJ P T=some (E,sz,by',z))
  (hb:pr P (Instr.sliceBounds true n cap lo hi none)=some (l,h,cap)) :
  pr P (Instr.sliceAt T (.slice a n cap) lo hi none)=some (.slice (if cap=l then a else a.map (·.add (l * sz))) (h - l) (cap - l)):=by
 obtain ⟨hu,inf,zQ,iU,_⟩:=dS ht
 unfold Instr.sliceAt
 rw [aU,aS hu]
 simp only [Option.bind_some]
 unfold Instr.slice
 rw [aU,aS hu]
 simp only [Option.bind_some]
 rw [aU,hb]
 simp only [Option.bind_some]
 rw [aU,fC zQ,iU]
 rfl
theorem pa {n cap l h:Nat} {lo hi:Option Value} (hl:lo=none/\l=0\/∃ i:Int,lo=some (.int .i64 i)/\0<=i/\l=i.toNat) (hh:hi=none/\h=n\/∃ i:Int,hi=some (.int .i64 i)/\0<=i/\h=i.toNat)
  (h1:l<=h) (h2:h<=cap):pr P (Instr.sliceBounds true n cap lo hi none)=some (l,h,cap):=by
 rcases hl with ⟨rfl,rfl⟩ | ⟨i,rfl,h0,rfl⟩ <;> rcases hh with ⟨rfl,rfl⟩ | ⟨i',rfl,h0',rfl⟩ <;> simp only [Instr.sliceBounds,aU,dF,Option.bind_some]
 ·rw [qS h0' (by omega)]; rfl
 ·rw [qS h0 (by omega)]; rfl
 rw [qS h0' (by omega)]; simp only [Option.bind_some]; rw [qS h0 (by omega)]; rfl
theorem ee.cut {v:Value} {a:Option Addr} {n cap l h:Nat} (hv:v = .slice a n cap) (hr:ee S w v xs) (h1:l<=h) (h2:h<=xs.length) :
  ee S w (.slice (if cap=l then a else a.map (·.add (l * Flat.sz α))) (h - l) (cap - l)) ((xs.take h).drop l):=by
 obtain ⟨a',Ah,pB,wV,h3⟩:=hr
 rw [pB] at hv
 simp only [Value.slice.injEq] at hv
 obtain ⟨rfl,hn,rfl⟩:=hv
 have hlen:((xs.take h).drop l).length=h - l:=by simp; omega
 rcases h3 with ⟨hxs,qT⟩ | ⟨b,o,rfl,h4,h5⟩
 ·subst hxs
  exact ⟨_,Ah - l,by rw [hlen],by simp,.inl ⟨by simp,by omega⟩⟩
 refine ⟨_,Ah - l,by rw [hlen],by rw [hlen]; omega,.inr ?_⟩
 have jV:(xs.take h).drop l≠[]->xs≠[]:=λ hh hx=>hh (by rw [hx]; simp)
 by_cases hh:Ah=l
 ·rw [if_pos hh]
  refine ⟨b,o,rfl,λ hx=>h4 (jV hx),λ j c hj=>?_⟩
  have:((xs.take h).drop l)=[]:=by rw [<- List.length_eq_zero_iff,hlen]; omega
  rw [this] at hj; simp [gP] at hj
 rw [if_neg hh]
 refine ⟨b,o+l * Flat.sz α,by simp [dG],λ hx=>h4 (jV hx),λ j c hj=>?_⟩
 rw [Fh,Fg,List.getElem?_drop,List.getElem?_take] at hj
 split at hj
 ·have:=h5 _ c hj
  rwa [show o+(l * Flat.sz α+j)=o+l * Flat.sz α+j from by omega] at this
 cases hj
theorem LP {T E by':Nat} {z:Option Nat} {v:Value} {lo hi:Option Value} {l h:Nat} {K:Value->Prop} (ht:dJ P T=some (E,Flat.sz α,by',z)) (hr:ee S w v xs)
  (hl:lo=none/\l=0\/∃ i:Int,lo=some (.int .i64 i)/\0<=i/\l=i.toNat) (hh:hi=none/\h=xs.length\/∃ i:Int,hi=some (.int .i64 i)/\0<=i/\h=i.toNat)
  (h1:l<=h) (h2:h<=xs.length) (k:∀ v',ee S w v' ((xs.take h).drop l)->K v'):dW P (Instr.sliceAt T v lo hi none) K:=by
 have E5:=hr
 obtain ⟨a,cap,rfl,wV,h3⟩:=hr
 exact ⟨_,yA ht (pa hl hh h1 (by omega)),k _ (E5.cut rfl h1 h2)⟩
theorem Fi {T E by':Nat} {z:Option Nat} {v:Value} {i:Int} {K:Value->Prop} (ht:dJ P T=some (E,Flat.sz α,by',z)) (hr:ee S w v xs) (h0:0<=i) (h2:i<=xs.length)
  (k:∀ v',ee S w v' (xs.take i.toNat)->K v'):dW P (Instr.sliceAt T v none (some (.int .i64 i)) none) K:=
 LP ht hr (.inl ⟨rfl,rfl⟩) (.inr ⟨i,rfl,h0,rfl⟩) (by omega) (by omega) λ v' h=>k v' (by simpa using h)
theorem nh {b o:Nat}:∀ (vs:List Value) (i:Nat) (cs:List Value) (w:World),ow w b cs->o+i+vs.length<=cs.length->(∀ v∈vs,eK v=true)->
  ∃ w',(storeCells ⟨b,o,none⟩ vs i).run P w = .ok () w'/\ow w' b (eS cs (o+i) vs)/\kj (· = b) w w':=by
 intro vs
 induction vs with
 | nil=>intro i cs w hb _ _; exact ⟨w,rfl,hb,kj.refl _ _⟩
 | cons v r ih=>
  intro i cs w hb hl hv
  have hl':o+i+(r.length+1)<=cs.length:=by simpa using hl
  have h1:=run_store (P:=P) hb (o:=o+i) (v:=v) (by omega) (hv v (by simp))
  obtain ⟨w',h2,h3,h4⟩:=ih (i+1) (cs.set (o+i) v) _ (hb.setCell v) (by simp; omega) (λ x hx=>hv x (by simp [hx]))
  refine ⟨w',?_,by rw [show o+(i+1)=o+i+1 from by omega] at h3; exact h3,(kj.setCell w b (o+i) v).trans h4 (λ _ h=>h) (λ _ _ h=>h)⟩
  show (do store ((Addr.mk b o none).add i) v; storeCells ⟨b,o,none⟩ r (i+1):Sem Unit).run P w=_
  rw [dG,aY h1,h2]
theorem lD (pre xw post vs:List Value) (h:xw.length=vs.length):eS (pre++xw++post) pre.length vs=pre++vs++post:=by
 induction vs generalizing pre xw with
 | nil=>obtain rfl:=List.length_eq_zero_iff.1 h; simp [eS]
 | cons v r ih=>
  match xw,h with
  | m::xw,h=>
   have e:(pre++(m::xw)++post).set pre.length v=(pre++[v])++xw++post:=by simp
   simp only [eS,e]
   have:=ih (pre++[v]) xw (by simpa using h)
   rw [show (pre++[v]).length=pre.length+1 from by simp] at this
   rw [this]; simp
theorem Fj {sz:Nat} {v:Value} (iU:sz=Flat.sz α) (h:ee S w v ys):(Builtin.firstCells sz ys.length v).run P w = .ok (flat ys).toArray w:=by
 subst iU
 obtain ⟨a,cap,rfl,_,h3⟩:=h
 rcases h3 with ⟨rfl,_⟩ | ⟨b,o,rfl,_,h5⟩
 ·cases a with
  | none=>rfl
  | some a=>simp [Builtin.firstCells,loadCells,loadCellsFrom,gP]
 have:=run_loadCells (P:=P) h5
 rw [cH] at this
 exact this
theorem sK {b o:Nat} {cs:List Value} (h:∀ j c,cs[j]? = some c->Cell w b (o+j) c):∀ j v,cs[j]? = some v->w.cell? ((⟨b,o,none⟩:Addr).add j)=some v:=λ j v hj=>by
 rw [dG]; exact h j v hj
theorem Cu {T E by' R:Nat} {v src:Value} {F:Nat->Prop} (ht:Q0 P T E (Flat.sz α) by') (hv:(bR v xs).p w F) (LQ:ee S w src ys)
  (hn:xs.length+ys.length<=1073741824) (Q1:by'<=8192) :
  ∃ v' w' F',(Builtin.append_ #[T,T] R [v,src].toArray).run P w = .ok v' w'/\(bR v' (xs++ys)).p w' F'/\(∀ b,F' b->F b\/w.heap.size<=b)/\kj F w w':=by
 obtain ⟨hu,inf,hi,iU,uX,hz⟩:=dS ht
 obtain ⟨zv,T7,hzs⟩:∃ zv,inf.zero=some zv/\zv.cells.size=Flat.sz α:=by
  cases yB:inf.zero with
  | none=>rw [yB] at hz; cases hz
  | some zv=>rw [yB] at hz; exact ⟨zv,rfl,by simpa using hz⟩
 have hmul:∀ n:Nat,n<=1073741824->n * inf.bytes<=140737488355328:=λ n h=>by
  have:=Nat.mul_le_mul h (show inf.bytes<=8192 by omega); omega
 have made:∀ (cap:Nat),cap<xs.length+ys.length->
   (bR (.slice (some ⟨w.heap.size,0,none⟩) (xs.length+ys.length) (grownCap w (xs.length+ys.length) cap E)) (xs++ys)).p
    (w.drew.alloc (.cells ((flat xs).toArray++(flat ys).toArray++Builtin.zeroCells zv.cells (grownCap w (xs.length+ys.length) cap E - (xs.length+ys.length))) E)) (λ k=>k=w.heap.size):=by
  intro cap hc
  have sC:=grownCap_ge w (xs.length+ys.length) cap E
  refine .inr ⟨w.heap.size,grownCap w (xs.length+ys.length) cap E,(Builtin.zeroCells zv.cells (grownCap w (xs.length+ys.length) cap E - (xs.length+ys.length))).toList,by simp,⟨E,?_⟩,?_,λ _=>Iff.rfl⟩
  ·have:=ox w.drew (.cells ((flat xs).toArray++(flat ys).toArray++Builtin.zeroCells zv.cells (grownCap w (xs.length+ys.length) cap E - (xs.length+ys.length))) E)
   refine Eq.trans this ?_
   congr 2
   apply Array.ext'
   simp [ic]
  ·have e:(Builtin.zeroCells zv.cells (grownCap w (xs.length+ys.length) cap E - (xs.length+ys.length))).toList.length=(grownCap w (xs.length+ys.length) cap E - (xs.length+ys.length)) * Flat.sz α:=by
    rw [Array.length_toList,size_zeroCells,hzs]
   rw [List.length_append,e,cH,List.length_append,<- Nat.add_mul]
   congr 1
   omega
 have VP:∀ o,kj F w (w.drew.alloc o):=λ o=>⟨rfl,rfl,rfl,by simp,λ b hb _=>sI w.drew o b hb⟩
 have rd:=LQ
 obtain ⟨sa,VQ,rfl,hsc,hs3⟩:=rd
 rcases hv with ⟨rfl,rfl,hF⟩ | ⟨b,cap,rest,rfl,hb,hl,hF⟩
 ·
  simp only [List.length_nil,Nat.zero_add,List.nil_append] at *
  by_cases hm:ys=[]
  ·subst hm
   refine ⟨.slice none 0 0,w,F,?_,.inl ⟨rfl,rfl,hF⟩,λ b hb=>.inl hb,kj.refl _ _⟩
   cases sa <;> simp [Builtin.append_,run_underlying hu,sizeOf,typeInfo,hi,Builtin.lenOf,Builtin.firstCells,loadCells,loadCellsFrom]
  have sL:0<ys.length:=List.length_pos_iff.2 hm
  rcases hs3 with ⟨h,_⟩ | ⟨b,o,rfl,_,G3⟩
  ·exact absurd h hm
  have hr:=run_append_nil (P:=P) w T R E inf zv hu hi T7 ⟨b,o,none⟩ ys.length VQ (flat ys) (by rw [cH,iU]) (sK G3) sL (by omega) (by have:=hmul ys.length hn; omega)
  refine ⟨_,_,λ k=>k=w.heap.size,hr,?_,λ k hk=>.inr (by rw [hk]; exact Nat.le_refl _),VP _⟩
  have:=made 0 sL
  simpa [gP] using this
 have wV:xs.length<=cap:=by
  rw [List.length_append,cH] at hl
  exact Nat.le_of_mul_le_mul_right (show xs.length * Flat.sz α<=cap * Flat.sz α by omega) (Flat.pos (α:=α))
 by_cases jt:xs.length+ys.length<=cap
 ·
  have uY:(xs.length+ys.length) * Flat.sz α<=cap * Flat.sz α:=Nat.mul_le_mul_right _ jt
  have VR:(flat xs).length=xs.length * Flat.sz α:=cH xs
  have nH:(flat ys).length<=rest.length:=by
   rw [List.length_append,VR] at hl; rw [cH]; rw [Nat.add_mul] at uY; omega
  obtain ⟨w',h1,h2,h3⟩:=nh (P:=P) (o:=xs.length * Flat.sz α) (flat ys) 0 (flat xs++rest) w hb (by rw [List.length_append,VR]; omega) G0
  have lY:eS (flat xs++rest) (xs.length * Flat.sz α+0) (flat ys)=flat (xs++ys)++rest.drop (flat ys).length:=by
   have:=lD (flat xs) (rest.take (flat ys).length) (rest.drop (flat ys).length) (flat ys) (by simp; omega)
   rw [VR] at this
   rw [Nat.add_zero,ic]
   rw [<- this]
   simp
  rw [lY] at h2
  refine ⟨.slice (some ⟨b,0,none⟩) (xs.length+ys.length) cap,w',F,?_,.inr ⟨b,cap,_,by simp,h2,?_,hF⟩,λ b hb=>.inl hb,h3.mono λ k hk=>(hF k).2 hk⟩
  ·have hf:=Fj (α:=α) (P:=P) (sz:=Flat.sz α) rfl LQ
   have acj:(⟨b,0,none⟩:Addr).add (xs.length * Flat.sz α)=⟨b,xs.length * Flat.sz α,none⟩:=by rw [dG,Nat.zero_add]
   simp [Builtin.append_,run_underlying hu,sizeOf,typeInfo,hi,Builtin.lenOf,jt,hf,iU,acj,h1]
  rw [<- hl,List.length_append,List.length_append,ic,List.length_append,List.length_drop]; omega
 -- a new row
 have hr:=run_append_grow (P:=P) w T R E inf zv hu hi T7 ⟨b,0,none⟩ xs.length cap (flat xs) (by rw [cH,iU])
  (sK λ j c hj=>by rw [Nat.zero_add]; exact hb.cell (by rw [List.getElem?_append_left (List.getElem?_eq_some_iff.1 hj).1]; exact hj))
 rcases hs3 with ⟨h,_⟩ | ⟨b',o,rfl,_,G3⟩
 ·subst h; simp at jt; omega
 have hr:=hr ⟨b',o,none⟩ ys.length VQ (flat ys) (by rw [cH,iU]) (sK G3) (by omega) (by omega) (growslice_fits (by omega) (hmul _ hn))
 exact ⟨_,_,λ k=>k=w.heap.size,hr,made cap (by omega),λ k hk=>.inr (by rw [hk]; exact Nat.le_refl _),VP _⟩
theorem cN {T E by' R:Nat} {v src:Value} {K:Value->World->Prop} (hs:St w0 A (bR v xs::L) w) (ht:Q0 P T E (Flat.sz α) by') (LQ:ee S w src ys)
  (hn:xs.length+ys.length<=1073741824) (Q1:by'<=8192) (k:∀ v' w',St w0 A (bR v' (xs++ys)::L) w'->K v' w'):ji P (Builtin.append_ #[T,T] R [v,src].toArray) w K:=by
 obtain ⟨U,F,U',h1,h2,h3,h4,h5⟩:=hs.ng
 obtain ⟨v',w',F',g1,g2,g3,g4⟩:=Cu (R:=R) ht h1 LQ hn Q1
 refine ⟨v',w',g1,k v' w' ?_⟩
 refine ⟨hs.aD.trans g4 (λ _ h=>h) λ b hb hf=>(h2 b hf).elim id λ hh=>by omega,λ b=>F' b\/U' b,F',U',g2,λ b hb=>?_,λ b hb hu=>?_,λ b=>Iff.rfl,?_⟩
 ·rcases g3 b hb with hf | hf
  ·exact h2 b hf
  exact .inr (Nat.le_trans hs.aD.size hf)
 ·rcases g3 b hb with hf | hf
  ·exact h3 b hf hu
  have:=h5.lt b hu; omega
 exact h5.loc λ b hb=>g4.cZ b (h5.lt b hb) λ hf=>h3 b hf hb
end
section
variable {α:Type} [Flat α] {P:Program} {w w0:World} {A S:Nat->Prop} {L:List HP} {xs ys:List α}
theorem la (x:α):(Flat.val x).cells=(Flat.enc x).toArray:=by
 cases h:Flat.agg α with
 | true=>rw [Flat.l3 h]; rfl
 | false=>
  have h1:=Flat.l4 h x
  have h2:=Flat.one x (Flat.val x) (by rw [h1]; simp)
  rw [h1]
  revert h2
  cases Flat.val x <;> simp [eK,Value.cells]
theorem Cv (cs:List Value) (o:Nat) (v:Value) (r:List Value):eS cs o (v::r)=eS (cs.set o v) (o+1) r:=rfl
theorem tv (off:Nat):∀ (l:List Value) (k:Nat) (cs:Array Value),((l.zipIdx k).foldl (fun (cs:Array Value) q=>cs.setIfInBounds (off+q.2) q.1) cs).toList=eS cs.toList (off+k) l:=by
 intro l
 induction l with
 | nil=>intro k cs; rfl
 | cons v r ih=>
  intro k cs
  rw [List.zipIdx_cons,List.foldl_cons,ih (k+1),Cv]
  simp [Nat.add_assoc]
theorem yC (off:Nat) (l:List Value) (cs:Array Value) :
  (l.toArray.zipIdx.foldl (fun (cs:Array Value) (q:Value × Nat)=>match q with | (c,j)=>cs.setIfInBounds (off+j) c) cs).toList=eS cs.toList off l:=by
 rw [<- Array.foldl_toList]
 have e:(l.toArray.zipIdx).toList=l.zipIdx 0:=by simp
 rw [e]
 exact tv off l 0 cs
theorem Fk:∀ (xs:List α) (k:Nat) (pre xw:List Value),pre.length=k * Flat.sz α->xw.length=xs.length * Flat.sz α->
  Instr.fill (λ i=>some (i * Flat.sz α,Flat.sz α)) (pre++xw).toArray ((xs.zipIdx k).map λ q=>(q.2,Flat.val q.1))=some (pre++flat xs).toArray:=by
 intro xs
 induction xs with
 | nil=>intro k pre xw _ hm; simp at hm; subst hm; simp [Instr.fill,gP]
 | cons x xs ih=>
  intro k pre xw hp hm
  rw [List.zipIdx_cons,List.map_cons]
  unfold Instr.fill
  dsimp only
  have iU:(Flat.val x).cells.size=Flat.sz α:=by rw [la]; simp [Flat.len]
  have hml:xw.length=xs.length * Flat.sz α+Flat.sz α:=by rw [hm,List.length_cons,Nat.succ_mul]
  rw [if_neg (by simp only [iU,ne_eq,not_true_eq_false,decide_false,Bool.false_or,decide_eq_true_eq,List.size_toArray,List.length_append]; omega)]
  have e:((Flat.val x).cells.zipIdx.foldl (fun (cs:Array Value) (q:Value × Nat)=>match q with | (c,j)=>cs.setIfInBounds (k * Flat.sz α+j) c) (pre++xw).toArray) =
    ((pre++Flat.enc x)++xw.drop (Flat.sz α)).toArray:=by
   apply Array.ext'
   rw [la,yC]
   have h1:=lD pre (xw.take (Flat.sz α)) (xw.drop (Flat.sz α)) (Flat.enc x) (by simp [Flat.len]; omega)
   rw [hp] at h1
   rw [<- List.take_append_drop (Flat.sz α) xw] at *
   simpa using h1
  rw [e]
  have:=ih (k+1) (pre++Flat.enc x) (xw.drop (Flat.sz α)) (by rw [List.length_append,hp,Flat.len,Nat.succ_mul]) (by rw [List.length_drop]; omega)
  rw [this,fT,List.append_assoc]
theorem cM {T E by' n:Nat} {parts:List (Nat × Value)} {K:Value->World->Prop} (xs:List α) (hs:St w0 A L w) (ht:Q0 P T E (Flat.sz α) by') (hn:xs.length=n)
  (hp:parts=xs.zipIdx.map λ q=>(q.2,Flat.val q.1)) (hl:xs.length * Flat.sz α<=16777216) (k:∀ v w',St w0 A (bR v xs::L) w'->K v w') :
  ji P (Instr.buildSlice T n parts.toArray) w K:=by
 subst hn
 obtain ⟨hu,inf,hi,iU,uX,hz⟩:=dS ht
 obtain ⟨zv,T7,hzs⟩:∃ zv,inf.zero=some zv/\zv.cells.size=Flat.sz α:=by
  cases yB:inf.zero with
  | none=>rw [yB] at hz; cases hz
  | some zv=>rw [yB] at hz; exact ⟨zv,rfl,by simpa using hz⟩
 have es:pr P (sizeOf E)=some (Flat.sz α):=by rw [fC hi,iU]
 have ez:pr P (zeroValue E)=some zv:=by unfold zeroValue; rw [aU,ib hi]; simp only [Option.bind_some,T7]; rfl
 refine ⟨.slice (some ⟨w.heap.size,0,none⟩) xs.length xs.length,push w (.cells (flat xs).toArray E),?_,k _ _ ?_⟩
 ·have key:∀ z:Array Value,Instr.fill (λ i=>some (i * Flat.sz α,Flat.sz α)) ((Array.range (xs.length * Flat.sz α)).map (z[· % z.size]!)) parts=some (flat xs).toArray:=by
   intro z
   have:=Fk xs 0 [] ((Array.range (xs.length * Flat.sz α)).map (z[· % z.size]!)).toList (by simp) (by simp)
   rw [hp]
   rw [List.nil_append,List.nil_append,Array.toArray_toList] at this
   exact this
  unfold Instr.buildSlice
  rw [aY (bZ (aS hu) w)]
  dsimp only
  rw [aY (bZ es w),if_neg (by omega)]
  by_cases h0:xs.length * Flat.sz α=0
  ·simp only [if_pos h0]
   rw [aY (run_pure _ w),key]
   rfl
  simp only [if_neg h0]
  rw [aY (bZ ez w),aY (run_pure _ w),key]
  rfl
 refine hs.new (Ext.push _ _) (F:=λ k=>k=w.heap.size) (.inr ⟨w.heap.size,xs.length,[],rfl,⟨E,?_⟩,by simp [cH],λ _=>Iff.rfl⟩) λ b hb=>by rw [hb]; exact Nat.le_refl _
 rw [List.append_nil]; exact ox _ _
theorem uZ (z:α) (n:Nat):(madeCells (Flat.enc z).toArray (n * Flat.sz α)).toList=flat (List.replicate n z):=by
 apply List.ext_getElem?
 intro i
 have sL:=Flat.pos (α:=α)
 by_cases hi:i<n * Flat.sz α
 ·have h1:i / Flat.sz α<n:=by rw [Nat.div_lt_iff_lt_mul sL]; exact hi
  have h2:i % Flat.sz α<(Flat.enc z).length:=by rw [Flat.len]; exact Nat.mod_lt _ sL
  have:=mH (xs:=List.replicate n z) (i:=i / Flat.sz α) (j:=i % Flat.sz α) (x:=z) (c:=(Flat.enc z)[i % Flat.sz α]) (by simp [h1]) (by simp [h2])
  rw [Nat.div_add_mod' i (Flat.sz α)] at this
  rw [this]
  unfold madeCells
  simp [hi,Flat.len]
  rw [Flat.len] at h2
  simp [Flat.len,h2]
 have e1:(madeCells (Flat.enc z).toArray (n * Flat.sz α)).toList[i]? = none:=by
  rw [List.getElem?_eq_none_iff,Array.length_toList,size_madeCells]; omega
 have e2:(flat (List.replicate n z))[i]? = none:=by
  rw [List.getElem?_eq_none_iff,cH,List.length_replicate]; omega
 rw [e1,e2]
theorem km {T E by':Nat} {n:Int} {K:Value->World->Prop} (z:α) (hs:St w0 A L w) (ht:Q0 P T E (Flat.sz α) by') (hz:xu P E (Flat.val z)) (h0:0<=n) (h1:n<=1073741824) (Q1:by'<=8192)
  (k:∀ v w',St w0 A (bR v (List.replicate n.toNat z)::L) w'->K v w'):ji P (Instr.makeSlice T (.int .i64 n) (.int .i64 n)) w K:=by
 obtain ⟨hu,inf,hi,iU,uX,_⟩:=dS ht
 unfold xu dX at hz
 rw [hi] at hz
 simp only [Option.map_some,Option.some.injEq] at hz
 have hb:(inf.bytes:Int) * n<=281474976710656:=by
  have h2:(inf.bytes:Int)<=8192:=by omega
  have h3:(inf.bytes:Int) * n<=8192 * n:=Int.mul_le_mul_of_nonneg_right h2 h0
  omega
 have hr:=run_make (P:=P) w T E inf (Flat.val z) hu hi hz .i64 .i64 n n h0 (Int.le_refl _) hb (by omega)
 rw [iU,la] at hr
 refine ⟨_,_,hr,k _ _ ?_⟩
 refine hs.new (w':=w.alloc (.cells (madeCells (Flat.enc z).toArray (n.toNat * Flat.sz α)) E)) ⟨rfl,rfl,rfl,by simp,λ b hb _=>sI w _ b hb⟩ (F:=λ k=>k=w.heap.size)
  (.inr ⟨w.heap.size,n.toNat,[],by simp,⟨E,?_⟩,by rw [List.append_nil,cH,List.length_replicate],λ _=>Iff.rfl⟩) λ b hb=>by rw [hb]; exact Nat.le_refl _
 rw [List.append_nil,<- uZ]
 have:=ox w (.cells (madeCells (Flat.enc z).toArray (n.toNat * Flat.sz α)) E)
 rw [Array.toArray_toList]
 exact this
def Ai (α:Type) [Flat α] (v:Value) (i:Nat) (p:Value):Prop:=∃ b n c,v = .slice (some ⟨b,0,none⟩) n c/\p = .pointer (some ⟨b,i * Flat.sz α,none⟩)
theorem eu {T E by':Nat} {z:Option Nat} {v:Value} {i:Int} {K:Value->Prop} (hs:St w0 A (bR v xs::L) w) (ht:dJ P T=some (E,Flat.sz α,by',z)) (h0:0<=i) (h1:i<xs.length)
  (k:∀ p,Ai α v i.toNat p->K p):dW P (Instr.indexAt T v (.int .i64 i)) K:=by
 obtain ⟨F,h,_⟩:=hs.head
 rcases h with ⟨rfl,rfl,_⟩ | ⟨b,cap,rest,rfl,hb,hl,_⟩
 ·simp at h1; omega
 obtain ⟨hu,inf,hi,iU,_⟩:=dS ht
 refine ⟨.pointer (some ⟨b,i.toNat * Flat.sz α,none⟩),?_,k _ ⟨b,_,_,rfl,rfl⟩⟩
 unfold Instr.indexAt
 have e1:pr P (underlying T)=some (.slice E):=aS hu
 have e2:pr P (sizeOf E)=some (Flat.sz α):=by rw [fC hi,iU]
 simp only [asIntOf,aU,e1,e2,Option.bind_some,dF]
 simp only [if_pos (show 0<=i/\i<(xs.length:Int) from ⟨h0,h1⟩),aU,e2,Option.bind_some,dF,dG,Nat.zero_add]
theorem pe {v:Value} {F:Nat->Prop} {i:Nat} (h:(bR v xs).p w F) (hi:i<xs.length):∃ b cap rest,v = .slice (some ⟨b,0,none⟩) xs.length cap/\ow w b (flat xs++rest)/\(flat xs++rest).length=cap * Flat.sz α/\∀ k,F k↔k=b:=by
 rcases h with ⟨rfl,rfl,_⟩ | h
 ·simp at hi
 exact h
theorem iq {T:Nat} {v p:Value} {i:Nat} {x:α} {K:Value->Prop} (hs:St w0 A (bR v xs::L) w) (ht:bY P T=some (Flat.agg α,Flat.sz α)) (hp:Ai α v i p) (hx:xs[i]? = some x) (k:K (Flat.val x)) :
  yj P (Instr.loadAt T p) w K:=by
 obtain ⟨F,h,_⟩:=hs.head
 obtain ⟨b,cap,rest,hv,hb,hl,_⟩:=pe h (List.getElem?_eq_some_iff.1 hx).1
 obtain ⟨b',n,c,pB,rfl⟩:=hp
 rw [hv] at pB
 simp only [Value.slice.injEq,Option.some.injEq,Addr.mk.injEq] at pB
 obtain ⟨⟨rfl,_,_⟩,_,_⟩:=pB
 refine aO (S:=λ _=>True) ht ⟨b,i * Flat.sz α,rfl,trivial,λ j c hj=>hb.cell ?_⟩ k
 have:=mH hx hj
 rw [List.getElem?_append_left (List.getElem?_eq_some_iff.1 this).1]; exact this
theorem Aj {i:Nat} (y:α) (h:i<xs.length):flat (xs.set i y)=flat (xs.take i)++Flat.enc y++flat (xs.drop (i+1)):=by
 rw [List.set_eq_take_append_cons_drop,if_pos h,ic,fT,List.append_assoc]
theorem u3 {i:Nat} {x:α} (h:xs[i]? = some x):flat xs=flat (xs.take i)++Flat.enc x++flat (xs.drop (i+1)):=by
 have hi:=(List.getElem?_eq_some_iff.1 h).1
 have:xs=xs.take i++x::xs.drop (i+1):=by
  rw [<- (List.getElem?_eq_some_iff.1 h).2,List.getElem_cons_drop,List.take_append_drop]
 conv=>lhs; rw [this]
 rw [ic,fT,List.append_assoc]
theorem Cw {T:Nat} {v p:Value} {i:Nat} {F:Nat->Prop} (y:α) (h:(bR v xs).p w F) (ht:bY P T=some (Flat.agg α,Flat.sz α)) (hp:Ai α v i p) (hi:i<xs.length) :
  ∃ w',(Instr.storeAt T p (Flat.val y)).run P w = .ok () w'/\(bR v (xs.set i y)).p w' F/\kj F w w':=by
 obtain ⟨b,cap,rest,hv,hb,hl,hF⟩:=pe h hi
 obtain ⟨b',n,c,pB,rfl⟩:=hp
 rw [hv] at pB
 simp only [Value.slice.injEq,Option.some.injEq,Addr.mk.injEq] at pB
 obtain ⟨⟨rfl,_,_⟩,_,_⟩:=pB
 have hx:xs[i]? = some xs[i]:=by simp [hi]
 have G4:=u3 hx
 have Oe:(flat (xs.take i)).length=i * Flat.sz α:=by rw [cH,List.length_take,Nat.min_eq_left (by omega)]
 have hlen:i * Flat.sz α+Flat.sz α<=(flat xs).length:=by
  rw [cH,<- Nat.succ_mul]; exact Nat.mul_le_mul_right _ hi
 obtain ⟨w',h1,h2,h3⟩:=nh (P:=P) (o:=i * Flat.sz α) (Flat.enc y) 0 (flat xs++rest) w hb (by rw [Flat.len,List.length_append]; omega) (Flat.one y)
 have lY:eS (flat xs++rest) (i * Flat.sz α+0) (Flat.enc y)=flat (xs.set i y)++rest:=by
  have:=lD (flat (xs.take i)) (Flat.enc xs[i]) (flat (xs.drop (i+1))++rest) (Flat.enc y) (by rw [Flat.len,Flat.len])
  rw [Oe] at this
  rw [Nat.add_zero,Aj y hi,G4]
  simpa using this
 rw [lY] at h2
 refine ⟨w',?_,.inr ⟨b,cap,rest,by rw [List.length_set]; exact hv,h2,?_,hF⟩,h3.mono λ k hk=>(hF k).2 hk⟩
 ·show (storeVar T ⟨b,i * Flat.sz α,none⟩ (Flat.val y)).run P w=_
  unfold storeVar
  rw [aY (bZ (ej ht).2 w),la]
  simp only [List.size_toArray,Flat.len,ne_eq,not_true_eq_false,if_false]
  exact h1
 rw [<- hl,List.length_append,List.length_append,cH,cH,List.length_set]
theorem kQ {T:Nat} {v p:Value} {i:Nat} {K:World->Prop} (y:α) (hs:St w0 A (bR v xs::L) w) (ht:bY P T=some (Flat.agg α,Flat.sz α)) (hp:Ai α v i p) (hi:i<xs.length)
  (k:∀ w',St w0 A (bR v (xs.set i y)::L) w'->K w'):Gw P (Instr.storeAt T p (Flat.val y)) w K:=by
 obtain ⟨U,F,U',h1,h2,h3,h4,h5⟩:=hs.ng
 obtain ⟨w',g1,g2,g3⟩:=Cw y h1 ht hp hi
 refine ⟨w',g1,k w' ⟨hs.aD.trans g3 (λ _ h=>h) λ b hb hf=>(h2 b hf).elim id λ hh=>by omega,U,F,U',g2,h2,h3,h4,h5.loc λ b hb=>g3.cZ b (h5.lt b hb) λ hf=>h3 b hf hb⟩⟩
end
section
variable {P:Program} {w w0:World} {A S:Nat->Prop} {L:List HP}
theorem aK {T:TypeId} {b o:Nat} {v:Value} {K:Value->Prop} (ht:Ff P T) (hb:Cell w b o v) (k:K v) :
  yj P (Instr.loadAt T (.pointer (some ⟨b,o,none⟩))) w K:=⟨v,aH ht hb,k⟩
theorem dY {α:Type} [Flat α] {T:TypeId} {x:α} {K:Value->World->Prop} (hs:St w0 A L w)
  (k:∀ b w',St w0 A (cZ b (Flat.enc x)::L) w'->K (.pointer (some ⟨b,0,none⟩)) w'):ji P (Instr.box T (Flat.val x)) w K:=by
 refine ⟨_,_,ue T _,k _ _ ?_⟩
 rw [la]
 exact hs.push
theorem pQ {T:Nat} {a b:Bool} (h:P.underlying T=some .bool):pr P (Op.equal T (.bool a) (.bool b))=some (a == b):=by
 show pr P (Op.equalIn 10000 T (.bool a) (.bool b))=_
 unfold Op.equalIn
 rw [aU,aS h]
 rfl
theorem qU {T:Nat} {cx cy:Bool} {a b:Bool} {K:Value->Prop} (h:P.underlying T=some .bool) (k:K (.bool (a != b))):dW P (gD .neq T cx cy (.bool a) (.bool b)) K:=by
 refine ⟨_,?_,k⟩
 show pr P (do pure (Value.bool (!(<- Op.equal T (.bool a) (.bool b)))))=_
 rw [kP _ (λ b=>Value.bool (!b)),pQ h]; rfl
theorem yD {T e:Nat} {p:Option Addr} (h:P.underlying T=some (.pointer e)):pr P (Op.equal T (.pointer p) (.pointer none))=some p.isNone:=by
 show pr P (Op.equalIn 10000 T (.pointer p) (.pointer none))=_
 unfold Op.equalIn
 rw [aU,aS h]
 cases p <;> rfl
theorem ju {T e:Nat} {cx cy:Bool} {p:Option Addr} {K:Value->Prop} (h:P.underlying T=some (.pointer e)) (k:K (.bool p.isNone)):dW P (gD .eql T cx cy (.pointer p) (.pointer none)) K:=by
 refine ⟨_,?_,k⟩
 show pr P (do pure (Value.bool (<- Op.equal T (.pointer p) (.pointer none))))=_
 rw [kP,yD h]; rfl
theorem wW {T e:Nat} {a:Option Addr} {n c:Nat} (h:P.underlying T=some (.slice e)) (ha:a=none->n=0/\c=0):pr P (Op.equal T (.slice a n c) (.slice none 0 0))=some a.isNone:=by
 show pr P (Op.equalIn 10000 T (.slice a n c) (.slice none 0 0))=_
 unfold Op.equalIn
 rw [aU,aS h]
 cases a <;> rfl
theorem G5 {T e:Nat} {cx cy:Bool} {a:Option Addr} {n c:Nat} {K:Value->Prop} (h:P.underlying T=some (.slice e)) (ha:a=none->n=0/\c=0) (k:K (.bool a.isNone)):dW P (gD .eql T cx cy (.slice a n c) (.slice none 0 0)) K:=by
 refine ⟨_,?_,k⟩
 show pr P (do pure (Value.bool (<- Op.equal T (.slice a n c) (.slice none 0 0))))=_
 rw [kP,wW h ha]; rfl
def iY:TypeDesc->Option Nat
 | .int .i64=>some 0
 | .bool=>some 1
 | .string=>some 2
 | _=>none
def iw:Value->Option Nat
 | .int .i64 _=>some 0
 | .bool _=>some 1
 | .string _=>some 2
 | _=>none
def Q2:Value->Value->Bool
 | .int _ a,.int _ b=>decide (a=b)
 | .bool a,.bool b=>a == b
 | .string a,.string b=>a == b
 | _,_=>false
def lE:List Value->List Value->Bool
 | a::x,b::y=>Q2 a b && lE x y
 | _,_=>true
def jk (P:Program):Nat->List Field->Option (List Nat)
 | _,[]=>some []
 | k,f::fs=>
  if f.name ≠ "_" /\ f.offset = k then
   match P.underlying f.type with
   | some d=>match iY d,jk P (k+1) fs with
    | some n,some r=>some (n::r)
    | _,_=>none
   | none=>none
  else none
def oA (P:Program) (T:TypeId):Option (List Nat):=
 match P.underlying T with
 | some (.struct fs)=>if P.stoodInHeld T=false/\P.eqGuardType P.depth T=false then jk P 0 fs.toList else none
 | _=>none
def Cx (d:Nat) (xs ys:Array Value):List Field->Sem Bool
 | []=>pure true
 | f :: r => if f.name ≠ "_" then do
   let same <- Op.equalIn d f.type (<- part f.type xs f.offset) (<- part f.type ys f.offset)
   if (!same)=true then pure false else Cx d xs ys r
  else Cx d xs ys r
theorem tW {T:TypeId} {d:TypeDesc} {n:Nat} (h:P.underlying T=some d) (hs:iY d=some n):pr P (isAgg T)=some false:=by
 unfold isAgg
 rw [aU,aS h]
 cases d <;> simp [iY] at hs <;> rfl
theorem DZ {T:TypeId} {d:TypeDesc} {n o:Nat} {cs:Array Value} {v:Value} (h:P.underlying T=some d) (hs:iY d=some n) (hv:cs[o]? = some v):pr P (part T cs o)=some v:=by
 unfold part
 rw [aU,tW h hs]
 simp only [Option.bind_some,Bool.false_eq_true,if_false,hv]
 rfl
theorem Ak {k:Nat} {T:TypeId} {d:TypeDesc} {n:Nat} {a b:Value} (h:P.underlying T=some d) (hs:iY d=some n) (ha:iw a=some n) (hb:iw b=some n) :
  pr P (Op.equalIn (k+1) T a b)=some (Q2 a b):=by
 unfold Op.equalIn
 rw [aU,aS h]
 simp only [Option.bind_some]
 cases d <;> simp only [iY] at hs <;> try (cases hs; done)
 case int kd=>
  cases kd <;> simp at hs
  subst hs
  cases a <;> simp only [iw] at ha <;> try (cases ha; done)
  rename_i ka na
  cases b <;> simp only [iw] at hb <;> try (cases hb; done)
  rename_i kb nb
  cases ka <;> simp at ha
  cases kb <;> simp at hb
  rfl
 case bool=>
  cases hs
  cases a <;> simp only [iw] at ha <;> first | (rename_i ka na; cases ka <;> simp at ha) | skip
  all_goals try (simp at ha; done)
  cases b <;> simp only [iw] at hb <;> first | (rename_i kb nb; cases kb <;> simp at hb) | skip
  all_goals try (simp at hb; done)
  rfl
 case string=>
  cases hs
  cases a <;> simp only [iw] at ha <;> first | (rename_i ka na; cases ka <;> simp at ha) | skip
  all_goals try (simp at ha; done)
  cases b <;> simp only [iw] at hb <;> first | (rename_i kb nb; cases kb <;> simp at hb) | skip
  all_goals try (simp at hb; done)
  rfl
theorem Al {k:Nat} {xs ys:List Value}:∀ (fs:List Field) (i:Nat) (ks:List Nat),jk P i fs=some ks->(∀ j n,ks[j]? = some n->∃ a b,xs[i+j]? = some a/\ys[i+j]? = some b/\iw a=some n/\iw b=some n)->
  pr P (Cx (k+1) xs.toArray ys.toArray fs)=some (lE ((xs.drop i).take ks.length) ((ys.drop i).take ks.length)):=by
 intro fs
 induction fs with
 | nil=>intro i ks h _; simp only [jk,Option.some.injEq] at h; subst h; simp [Cx,lE]; rfl
 | cons f fs ih=>
  intro i ks h hk
  unfold jk at h
  split at h
  ·rename_i hf
   cases hu:P.underlying f.type with
   | none=>rw [hu] at h; cases h
   | some d=>
    rw [hu] at h
    dsimp only at h
    cases hd:iY d with
    | none=>rw [hd] at h; cases h
    | some n=>
     rw [hd] at h
     cases hr:jk P (i+1) fs with
     | none=>rw [hr] at h; cases h
     | some r=>
      rw [hr] at h
      simp only [Option.some.injEq] at h
      subst h
      obtain ⟨a,b,ha,hb,ka,kb⟩:=hk 0 n rfl
      rw [Nat.add_zero] at ha hb
      have hxd:xs.drop i=a::xs.drop (i+1):=by
       rw [<- List.getElem_cons_drop (List.getElem?_eq_some_iff.1 ha).1,(List.getElem?_eq_some_iff.1 ha).2]
      have hyd:ys.drop i=b::ys.drop (i+1):=by
       rw [<- List.getElem_cons_drop (List.getElem?_eq_some_iff.1 hb).1,(List.getElem?_eq_some_iff.1 hb).2]
      have ih':=ih (i+1) r hr λ j m hj=>by
       obtain ⟨a',b',h1,h2,h3,h4⟩:=hk (j+1) m (by simpa using hj)
       exact ⟨a',b',by rwa [show i+1+j=i+(j+1) from by omega],by rwa [show i+1+j=i+(j+1) from by omega],h3,h4⟩
      unfold Cx
      rw [if_pos hf.1,aU,DZ hu hd (v:=a) (by rw [hf.2]; simpa using ha)]
      simp only [Option.bind_some]
      rw [aU,DZ hu hd (v:=b) (by rw [hf.2]; simpa using hb)]
      simp only [Option.bind_some]
      rw [aU,Ak hu hd ka kb]
      simp only [Option.bind_some,List.length_cons,hxd,hyd,List.take_succ_cons,lE]
      cases he:Q2 a b with
      | false=>rfl
      | true=>simp only [Bool.not_true,Bool.false_eq_true,if_false,Bool.true_and]; exact ih'
  ·cases h
theorem qV {d:Nat} {t:TypeId} {fs:Array Field} {xs ys:Array Value} (ht:P.underlying t=some (.struct fs)) (hp:P.stoodInHeld t=false) :
  pr P (Op.equalIn (d+1) t (.agg xs) (.agg ys))=pr P (Cx d xs ys fs.toList):=by
 unfold Op.equalIn
 rw [aU,aS ht]
 simp only [Option.bind_some,aU]
 rw [show pr P program=some P from rfl]
 simp only [Option.bind_some,hp,Bool.false_eq_true,if_false]
 rw [<- Array.forIn_toList]
 generalize fs.toList=l
 clear ht
 induction l with
 | nil=>rfl
 | cons f l ih=>
  rw [aU] at ih
  simp only [List.forIn_cons,Cx,aU]
  split
  ·simp only [aU]
   cases pr P (part f.type xs f.offset) with
   | none=>rfl
   | some a=>
    simp only [Option.bind_some]
    cases pr P (part f.type ys f.offset) with
    | none=>rfl
    | some b=>
     simp only [Option.bind_some]
     cases pr P (Op.equalIn d f.type a b) with
     | none=>rfl
     | some r=>
      cases r
      ·rfl
      ·simp only [Option.bind_some,Bool.not_true,Bool.false_eq_true,if_false,dF]
       exact ih
  ·simp only [dF,Option.bind_some]
   exact ih
theorem ni {T:TypeId} {ks:List Nat} {xs ys:List Value} (h:oA P T=some ks) (hx:xs.map iw=ks.map some) (hy:ys.map iw=ks.map some) :
  pr P (Op.equal T (.agg xs.toArray) (.agg ys.toArray))=some (lE xs ys)/\P.eqGuardType P.depth T=false:=by
 unfold oA at h
 split at h
 ·rename_i fs hfs
  split at h
  ·rename_i hc
   refine ⟨?_,hc.2⟩
   show pr P (Op.equalIn 10000 T _ _)=_
   rw [qV hfs hc.1]
   have hlx:xs.length=ks.length:=by have:=congrArg List.length hx; simpa using this
   have hly:ys.length=ks.length:=by have:=congrArg List.length hy; simpa using this
   rw [Al (xs:=xs) (ys:=ys) fs.toList 0 ks h λ j n hj=>?_]
   ·simp only [List.drop_zero]
    rw [List.take_of_length_le (by omega),List.take_of_length_le (by omega)]
   have hjl:j<ks.length:=(List.getElem?_eq_some_iff.1 hj).1
   refine ⟨xs[j]'(by omega),ys[j]'(by omega),by simp,by simp,?_,?_⟩
   ·have:=congrArg (λ l=>l[j]?) hx
    simp only [List.getElem?_map,hj,Option.map_some] at this
    rw [List.getElem?_eq_getElem (by omega)] at this
    simpa using this
   have:=congrArg (λ l=>l[j]?) hy
   simp only [List.getElem?_map,hj,Option.map_some] at this
   rw [List.getElem?_eq_getElem (by omega)] at this
   simpa using this
  cases h
 cases h
theorem Fl {T:Nat} {cx cy:Bool} {ks:List Nat} {xs ys:List Value} {K:Value->Prop} (h:oA P T=some ks) (hx:xs.map iw=ks.map some) (hy:ys.map iw=ks.map some) (k:K (.bool (lE xs ys))) :
  dW P (gD .eql T cx cy (.agg xs.toArray) (.agg ys.toArray)) K:=by
 obtain ⟨h1,h2⟩:=ni h hx hy
 refine ⟨_,?_,k⟩
 show pr P (if P.eqGuardType P.depth T = true then stuck "an interface in a part" else (do pure (Value.bool (<- Op.equal T (.agg xs.toArray) (.agg ys.toArray))) : Sem Value)) = _
 rw [h2,if_neg (by simp),kP,h1]; rfl
theorem xy {T:Nat} {cx cy:Bool} {ks:List Nat} {xs ys:List Value} {K:Value->Prop} (h:oA P T=some ks) (hx:xs.map iw=ks.map some) (hy:ys.map iw=ks.map some) (k:K (.bool (!lE xs ys))) :
  dW P (gD .neq T cx cy (.agg xs.toArray) (.agg ys.toArray)) K:=by
 obtain ⟨h1,h2⟩:=ni h hx hy
 refine ⟨_,?_,k⟩
 show pr P (if P.eqGuardType P.depth T = true then stuck "an interface in a part" else (do pure (Value.bool (!(<- Op.equal T (.agg xs.toArray) (.agg ys.toArray)))) : Sem Value)) = _
 rw [h2,if_neg (by simp),kP _ (λ b=>Value.bool (!b)),h1]; rfl
theorem xz {T:Nat} {cx cy:Bool} {ks:List Nat} {xs ys:List Value} {K:Value->Prop} {p:Prop} [Decidable p] (h:oA P T=some ks) (hx:xs.map iw=ks.map some) (hy:ys.map iw=ks.map some)
  (hp:lE xs ys=decide p) (k:K (.bool (decide (¬ p)))):dW P (gD .neq T cx cy (.agg xs.toArray) (.agg ys.toArray)) K:=xy h hx hy (by rw [hp]; by_cases h:p <;> simp_all)
end
end Go.Fw
namespace Go.Proofs.YtnjcingfdhjfkaaGreat
open Go.Fw
theorem bK:bY PG 3=some (false,1):=by kernel_rfl
theorem tw:dX PG 3=some (some (.int .i64 0)):=by kernel_rfl
theorem D0:bY PG 4=some (false,1):=by kernel_rfl
theorem LR:PG.underlying 4=some (.bool):=by kernel_rfl
theorem ty5:bY PG 5=some (false,1):=by kernel_rfl
theorem qi:PG.underlying 5=some (.int .u8):=by kernel_rfl
theorem qj:PG.underlying 9=some (.string):=by kernel_rfl
theorem cT:bY PG 28=some (false,1):=by kernel_rfl
theorem cB:dJ PG 28=some (3,1,8,some 1):=by kernel_rfl
theorem mI:bY PG 30=some (false,1):=by kernel_rfl
theorem kR:dJ PG 30=some (33,3,40,some 3):=by kernel_rfl
theorem fG:bY PG 31=some (false,1):=by kernel_rfl
theorem gp:dJ PG 31=some (129,6,80,some 6):=by kernel_rfl
theorem gJ:bY PG 33=some (true,3):=by kernel_rfl
theorem gu:aQ PG 33 0=some (0,some true):=by kernel_rfl
theorem kT:aQ PG 33 1=some (1,some true):=by kernel_rfl
theorem dZ:aQ PG 33 2=some (2,some true):=by kernel_rfl
theorem u4:dX PG 33=some (some (.agg [.int .i64 0,.int .i64 0,.slice none 0 0].toArray)):=by kernel_rfl
theorem qW:bY PG 34=some (false,1):=by kernel_rfl
theorem oB:dJ PG 34=some (99,1,24,some 1):=by kernel_rfl
theorem mj:bY PG 36=some (true,9):=by kernel_rfl
theorem eH:aQ PG 36 0=some (0,some true):=by kernel_rfl
theorem fu:aQ PG 36 1=some (1,some true):=by kernel_rfl
theorem jw:aQ PG 36 2=some (2,some true):=by kernel_rfl
theorem kc:aQ PG 36 3=some (3,some true):=by kernel_rfl
theorem fX:aQ PG 36 4=some (4,some true):=by kernel_rfl
theorem qX:aQ PG 36 5=some (5,some true):=by kernel_rfl
theorem ir:aQ PG 36 6=some (8,some true):=by kernel_rfl
theorem yE:dX PG 36=some (some (.agg [.slice none 0 0,.int .i64 0,.slice none 0 0,.int .i64 0,.slice none 0 0,.int .i64 0,.int .i64 0,.slice none 0 0,.slice none 0 0].toArray)):=by kernel_rfl
theorem xA:PG.underlying 42=some (.pointer 115):=by kernel_rfl
theorem l5:dJ PG 45=some (52,4,48,some 4):=by kernel_rfl
theorem D1:aQ PG 52 0=some (0,some true):=by kernel_rfl
theorem D2:aQ PG 52 1=some (1,some true):=by kernel_rfl
theorem D3:aQ PG 52 2=some (2,some true):=by kernel_rfl
theorem D4:aQ PG 52 3=some (3,some true):=by kernel_rfl
theorem Am:bY PG 54=some (true,5):=by kernel_rfl
theorem pf:aQ PG 54 3=some (3,some true):=by kernel_rfl
theorem pg:aQ PG 54 4=some (4,some true):=by kernel_rfl
theorem yF:dX PG 54=some (some (.agg [.int .i64 0,.int .i64 0,.int .i64 0,.bool false,.bool false].toArray)):=by kernel_rfl
theorem G6:PG.underlying 68=some (.pointer 75):=by kernel_rfl
theorem G7:bY PG 72=some (false,1):=by kernel_rfl
theorem pC:bY PG 73=some (false,1):=by kernel_rfl
theorem sM:dJ PG 73=some (146,1,8,some 1):=by kernel_rfl
theorem uf:aQ PG 75 0=some (0,some true):=by kernel_rfl
theorem qY:aQ PG 75 1=some (9,some true):=by kernel_rfl
theorem LS:aQ PG 75 2=some (10,some true):=by kernel_rfl
theorem yG:aQ PG 75 3=some (11,some true):=by kernel_rfl
theorem ug:aQ PG 75 4=some (12,some true):=by kernel_rfl
theorem gX:aQ PG 75 5=some (13,some true):=by kernel_rfl
theorem uh:aQ PG 75 6=some (14,some true):=by kernel_rfl
theorem LU:aQ PG 75 7=some (15,some true):=by kernel_rfl
theorem nW:bY PG 80=some (false,1):=by kernel_rfl
theorem jX:dJ PG 80=some (161,4,32,some 4):=by kernel_rfl
theorem gh:bY PG 99=some (false,1):=by kernel_rfl
theorem e8:dJ PG 99=some (200,2,16,some 2):=by kernel_rfl
theorem ma:dJ PG 105=some (4,1,1,some 1):=by kernel_rfl
theorem u6:bY PG 109=some (false,1):=by kernel_rfl
theorem G8:bY PG 112=some (false,1):=by kernel_rfl
theorem qZ:bY PG 113=some (false,1):=by kernel_rfl
theorem pR:dJ PG 113=some (119,1,8,some 1):=by kernel_rfl
theorem q7:aQ PG 115 0=some (0,some true):=by kernel_rfl
theorem G9:aQ PG 115 1=some (9,some true):=by kernel_rfl
theorem u7:aQ PG 115 2=some (10,some true):=by kernel_rfl
theorem q8:aQ PG 115 3=some (11,some true):=by kernel_rfl
theorem jx:aQ PG 115 4=some (12,some true):=by kernel_rfl
theorem Ha:aQ PG 115 5=some (13,some true):=by kernel_rfl
theorem q9:aQ PG 115 6=some (14,some true):=by kernel_rfl
theorem Hb:aQ PG 115 7=some (15,some true):=by kernel_rfl
theorem D5:bY PG 119=some (false,1):=by kernel_rfl
theorem Of:bY PG 120=some (false,1):=by kernel_rfl
theorem LV:dX PG 120=some (some (.nilFunc)):=by kernel_rfl
theorem re:aQ PG 122 0=some (0,some true):=by kernel_rfl
theorem An:aQ PG 122 1=some (1,some true):=by kernel_rfl
theorem ie:aQ PG 122 2=some (4,some true):=by kernel_rfl
theorem u9:aQ PG 122 3=some (5,some true):=by kernel_rfl
theorem va:aQ PG 122 4=some (6,some true):=by kernel_rfl
theorem vc:aQ PG 122 5=some (7,some true):=by kernel_rfl
theorem rh:aQ PG 122 6=some (8,some true):=by kernel_rfl
theorem Hc:aQ PG 122 7=some (9,some true):=by kernel_rfl
theorem eg:bY PG 129=some (true,6):=by kernel_rfl
theorem cR:aQ PG 129 0=some (0,some true):=by kernel_rfl
theorem eo:aQ PG 129 1=some (1,some true):=by kernel_rfl
theorem fo:aQ PG 129 2=some (2,some true):=by kernel_rfl
theorem gy:aQ PG 129 3=some (3,some true):=by kernel_rfl
theorem ep:aQ PG 129 4=some (4,some true):=by kernel_rfl
theorem dQ:aQ PG 129 5=some (5,some true):=by kernel_rfl
theorem fK:dX PG 129=some (some (.agg [.int .i64 0,.int .i64 0,.int .i64 0,.slice none 0 0,.slice none 0 0,.int .i64 0].toArray)):=by kernel_rfl
theorem ri:bY PG 136=some (false,1):=by kernel_rfl
theorem vd:aQ PG 143 2=some (2,some true):=by kernel_rfl
theorem Ao:aQ PG 143 3=some (3,some true):=by kernel_rfl
theorem oC:aQ PG 145 0=some (0,some true):=by kernel_rfl
theorem fH:aQ PG 145 1=some (3,some true):=by kernel_rfl
theorem ve:aQ PG 145 2=some (4,some true):=by kernel_rfl
theorem rj:aQ PG 145 3=some (5,some true):=by kernel_rfl
theorem ko:aQ PG 145 4=some (6,some true):=by kernel_rfl
theorem rn:aQ PG 145 5=some (7,some true):=by kernel_rfl
theorem rp:bY PG 146=some (false,1):=by kernel_rfl
theorem ig:aQ PG 148 1=some (1,some true):=by kernel_rfl
theorem vf:bY PG 161=some (true,4):=by kernel_rfl
theorem kp:aQ PG 161 0=some (0,some true):=by kernel_rfl
theorem mJ:aQ PG 161 1=some (1,some true):=by kernel_rfl
theorem Hd:aQ PG 197 0=some (0,some true):=by kernel_rfl
theorem mK:aQ PG 197 1=some (1,some true):=by kernel_rfl
theorem Ap:bY PG 200=some (true,2):=by kernel_rfl
theorem eO:aQ PG 200 0=some (0,some true):=by kernel_rfl
theorem iK:aQ PG 200 1=some (1,some true):=by kernel_rfl
theorem D6:dX PG 200=some (some (.agg [.int .i64 0,.int .i64 0].toArray)):=by kernel_rfl
theorem He:aQ PG 203 2=some (2,some true):=by kernel_rfl
theorem Aq:aQ PG 203 3=some (3,some true):=by kernel_rfl
theorem kq:aQ PG 245 0=some (0,some true):=by kernel_rfl
theorem mL:aQ PG 247 0=some (0,some true):=by kernel_rfl
theorem Ar:aQ PG 247 1=some (1,some true):=by kernel_rfl
theorem LW:dX PG 247=some (some (.agg [.slice none 0 0,.int .i64 0].toArray)):=by kernel_rfl
theorem Og:dJ PG 252=some (5,1,1,some 1):=by kernel_rfl
theorem Oh:bY PG 253=some (true,16):=by kernel_rfl
theorem LX:dX PG 253=some (some (.agg [.string ⟨#[]⟩,.string ⟨#[]⟩,.string ⟨#[]⟩,.string ⟨#[]⟩,.string ⟨#[]⟩,.string ⟨#[]⟩,.string ⟨#[]⟩,.string ⟨#[]⟩,.string ⟨#[]⟩,.string ⟨#[]⟩,.string ⟨#[]⟩,.string ⟨#[]⟩,.string ⟨#[]⟩,.string ⟨#[]⟩,.string ⟨#[]⟩,.string ⟨#[]⟩].toArray)):=by kernel_rfl
theorem oD:bY PG 288=some (false,1):=by kernel_rfl
theorem Hf:bY PG 289=some (true,16):=by kernel_rfl
theorem D7:dX PG 289=some (some (.agg [.nilFunc,.nilFunc,.nilFunc,.nilFunc,.nilFunc,.nilFunc,.nilFunc,.nilFunc,.nilFunc,.nilFunc,.nilFunc,.nilFunc,.nilFunc,.nilFunc,.nilFunc,.nilFunc].toArray)):=by kernel_rfl
theorem VS:bY PG 299=some (false,1):=by kernel_rfl
theorem Fm (a0:Int) (a1:Int):pr PG (Instr.build 33 [(0,.int .i64 a0),(1,.int .i64 a1)].toArray)=some (.agg [.int .i64 a0,.int .i64 a1,.slice none 0 0].toArray):=by kernel_rfl
theorem nI (a0:Option Addr) (n0 c0:Nat) (a1:Int) (a2:Option Addr) (n2 c2:Nat) (a3:Int) (VT:Int) (VU:Int) (VV:Option Addr) (GX VW:Nat):pr PG (Instr.build 36 [(0,.slice a0 n0 c0),(1,.int .i64 a1),(2,.slice a2 n2 c2),(3,.int .i64 a3),(5,.agg [.int .i64 VT,.int .i64 VU,.slice VV GX VW].toArray)].toArray)=some (.agg [.slice a0 n0 c0,.int .i64 a1,.slice a2 n2 c2,.int .i64 a3,.slice none 0 0,.int .i64 VT,.int .i64 VU,.slice VV GX VW,.slice none 0 0].toArray):=by kernel_rfl
theorem xB (a0:Int) (a1:Int):pr PG (Instr.build 52 [(0,.int .i64 a0),(1,.int .i64 a1)].toArray)=some (.agg [.int .i64 a0,.int .i64 a1,.int .i64 0,.slice none 0 0].toArray):=by kernel_rfl
theorem tz (a0:Int) (a1:Int) (a2:Int):pr PG (Instr.build 52 [(0,.int .i64 a0),(1,.int .i64 a1),(2,.int .i64 a2)].toArray)=some (.agg [.int .i64 a0,.int .i64 a1,.int .i64 a2,.slice none 0 0].toArray):=by kernel_rfl
theorem As (a0:Int) (a1:Int) (a2:Int):pr PG (Instr.build 54 [(0,.int .i64 a0),(1,.int .i64 a1),(2,.int .i64 a2)].toArray)=some (.agg [.int .i64 a0,.int .i64 a1,.int .i64 a2,.bool false,.bool false].toArray):=by kernel_rfl
theorem wX (a0:Int) (a1:Int) (a2:Int) (a3:Bool):pr PG (Instr.build 54 [(0,.int .i64 a0),(1,.int .i64 a1),(2,.int .i64 a2),(3,.bool a3)].toArray)=some (.agg [.int .i64 a0,.int .i64 a1,.int .i64 a2,.bool a3,.bool false].toArray):=by kernel_rfl
theorem Au (Av:Option Addr) (Hg Hh:Nat) (Aw:Int) (Ax:Option Addr) (Ay Az:Nat) (Hi:Int) (Hj:Option Addr) (Hk Hl:Nat) (Hm:Int) (Hn:Int) (Ho:Option Addr) (Hq Hr:Nat) (Hs:Option Addr) (Ht Hu:Nat) (a1:Int) (a3:Option Addr):pr PG (Instr.build 75 [(0,.agg [.slice Av Hg Hh,.int .i64 Aw,.slice Ax Ay Az,.int .i64 Hi,.slice Hj Hk Hl,.int .i64 Hm,.int .i64 Hn,.slice Ho Hq Hr,.slice Hs Ht Hu].toArray),(1,.int .i64 a1),(3,.pointer a3)].toArray)=some (.agg [.slice Av Hg Hh,.int .i64 Aw,.slice Ax Ay Az,.int .i64 Hi,.slice Hj Hk Hl,.int .i64 Hm,.int .i64 Hn,.slice Ho Hq Hr,.slice Hs Ht Hu,.int .i64 a1,.int .i64 0,.pointer a3,.slice none 0 0,.slice none 0 0,.int .i64 0,.int .i64 0].toArray):=by kernel_rfl
theorem Cy (Av:Option Addr) (Hg Hh:Nat) (Aw:Int) (Ax:Option Addr) (Ay Az:Nat) (Hi:Int) (Hj:Option Addr) (Hk Hl:Nat) (Hm:Int) (Hn:Int) (Ho:Option Addr) (Hq Hr:Nat) (Hs:Option Addr) (Ht Hu:Nat) (a1:Int):pr PG (Instr.build 115 [(0,.agg [.slice Av Hg Hh,.int .i64 Aw,.slice Ax Ay Az,.int .i64 Hi,.slice Hj Hk Hl,.int .i64 Hm,.int .i64 Hn,.slice Ho Hq Hr,.slice Hs Ht Hu].toArray),(1,.int .i64 a1)].toArray)=some (.agg [.slice Av Hg Hh,.int .i64 Aw,.slice Ax Ay Az,.int .i64 Hi,.slice Hj Hk Hl,.int .i64 Hm,.int .i64 Hn,.slice Ho Hq Hr,.slice Hs Ht Hu,.int .i64 a1,.pointer none,.slice none 0 0,.slice none 0 0,.int .i64 0,.int .i64 0,.int .i64 0].toArray):=by kernel_rfl
theorem oE (a0:Option Addr) (VX:Int) (VY:Int) (VZ:Option Addr) (V0 V1:Nat) (a3:Option Addr) (n3 c3:Nat) (a4:Option Addr) (n4 c4:Nat):pr PG (Instr.build 122 [(0,.pointer a0),(1,.agg [.int .i64 VX,.int .i64 VY,.slice VZ V0 V1].toArray),(3,.slice a3 n3 c3),(4,.slice a4 n4 c4)].toArray)=some (.agg [.pointer a0,.int .i64 VX,.int .i64 VY,.slice VZ V0 V1,.int .i64 0,.slice a3 n3 c3,.slice a4 n4 c4,.int .i64 0,.int .i64 0,.int .i64 0].toArray):=by kernel_rfl
theorem Cz (a0:Option Addr) (n0 c0:Nat) (a1:Option Addr) (n1 c1:Nat):pr PG (Instr.build 143 [(0,.slice a0 n0 c0),(1,.slice a1 n1 c1)].toArray)=some (.agg [.slice a0 n0 c0,.slice a1 n1 c1,.slice none 0 0,.slice none 0 0,.slice none 0 0].toArray):=by kernel_rfl
theorem oF (Av:Int) (Aw:Int) (Ax:Option Addr) (Ay Az:Nat) (a4:Option Addr) (a2:Option Addr) (n2 c2:Nat) (a3:Option Addr) (n3 c3:Nat):pr PG (Instr.build 145 [(0,.agg [.int .i64 Av,.int .i64 Aw,.slice Ax Ay Az].toArray),(4,.pointer a4),(2,.slice a2 n2 c2),(3,.slice a3 n3 c3)].toArray)=some (.agg [.int .i64 Av,.int .i64 Aw,.slice Ax Ay Az,.int .i64 0,.slice a2 n2 c2,.slice a3 n3 c3,.pointer a4,.int .i64 0].toArray):=by kernel_rfl
theorem Hv (a0:Int):pr PG (Instr.build 148 [(0,.int .i64 a0)].toArray)=some (.agg [.int .i64 a0,.slice none 0 0].toArray):=by kernel_rfl
theorem Hw (a0:Int):pr PG (Instr.build 197 [(0,.int .i64 a0)].toArray)=some (.agg [.int .i64 a0,.slice none 0 0].toArray):=by kernel_rfl
theorem vg (a0:Option Addr) (n0 c0:Nat) (a1:Option Addr) (n1 c1:Nat) (a2:Option Addr) (n2 c2:Nat) (a4:Option Nat):pr PG (Instr.build 203 [(0,.slice a0 n0 c0),(1,.slice a1 n1 c1),(2,.slice a2 n2 c2),(4,.map a4)].toArray)=some (.agg [.slice a0 n0 c0,.slice a1 n1 c1,.slice a2 n2 c2,.slice none 0 0,.map a4].toArray):=by kernel_rfl
theorem ij (a1:ByteArray) (a2:ByteArray) (a3:ByteArray) (a4:ByteArray) (a5:ByteArray) (a6:ByteArray) (a9:ByteArray) (a10:ByteArray) (UE:ByteArray) (a12:ByteArray) (V2:ByteArray) (a14:ByteArray) (a15:ByteArray):pr PG (Instr.build 253 [(1,.string a1),(2,.string a2),(3,.string a3),(4,.string a4),(5,.string a5),(6,.string a6),(9,.string a9),(10,.string a10),(11,.string UE),(12,.string a12),(13,.string V2),(14,.string a14),(15,.string a15)].toArray)=some (.agg [.string ⟨#[]⟩,.string a1,.string a2,.string a3,.string a4,.string a5,.string a6,.string ⟨#[]⟩,.string ⟨#[]⟩,.string a9,.string a10,.string UE,.string a12,.string V2,.string a14,.string a15].toArray):=by kernel_rfl
theorem V3:oA PG 54=some [0,0,0,1,1]:=by kernel_rfl
theorem Q3:oA PG 161=some [0,0,0,0]:=by kernel_rfl
end Go.Proofs.YtnjcingfdhjfkaaGreat
namespace Go.Fw
def sep (H1 H2:HP):HP where
 p w F:=∃ F1 F2,H1.p w F1/\H2.p w F2/\(∀ b,F1 b->¬ F2 b)/\∀ b,F b↔F1 b\/F2 b
 loc w w' F h hh:=by
  obtain ⟨F1,F2,h1,h2,h3,h4⟩:=h
  exact ⟨F1,F2,H1.loc _ _ _ h1 λ b hb=>hh b ((h4 b).2 (.inl hb)),H2.loc _ _ _ h2 λ b hb=>hh b ((h4 b).2 (.inr hb)),h3,h4⟩
 lt w F b h hb:=by
  obtain ⟨F1,F2,h1,h2,h3,h4⟩:=h
  rcases (h4 b).1 hb with hf | hf
  ·exact H1.lt _ _ _ h1 hf
  ·exact H2.lt _ _ _ h2 hf
def ui {α:Type} (H:α->HP):HP where
 p w F:=∃ x,(H x).p w F
 loc w w' F h hh:=by obtain ⟨x,h⟩:=h; exact ⟨x,(H x).loc _ _ _ h hh⟩
 lt w F b h hb:=by obtain ⟨x,h⟩:=h; exact (H x).lt _ _ _ h hb
def fact (φ:Prop) (H:HP):HP where
 p w F:=φ/\H.p w F
 loc w w' F h hh:=⟨h.1,H.loc _ _ _ h.2 hh⟩
 lt w F b h hb:=H.lt _ _ _ h.2 hb
def emp:HP where
 p _ F:=∀ b,¬ F b
 loc _ _ _ h _:=h
 lt _ _ b h hb:=(h b hb).elim
section
variable {P:Program} {w w0 w':World} {A:Nat->Prop} {L:List HP} {H H1 H2:HP}
theorem St.split (h:St w0 A (sep H1 H2::L) w):St w0 A (H1::H2::L) w:=by
 obtain ⟨U,F,U',⟨F1,F2,g1,g2,g3,g4⟩,h2,h3,h4,h5⟩:=h.ng
 refine ⟨h.aD,U,F1,λ b=>F2 b\/U' b,g1,λ b hb=>h2 b ((g4 b).2 (.inl hb)),λ b hb hu=>?_,λ b=>?_,F2,U',g2,λ b hb=>h2 b ((g4 b).2 (.inr hb)),λ b hb hu=>h3 b ((g4 b).2 (.inr hb)) hu,λ b=>Iff.rfl,h5⟩
 ·rcases hu with hu | hu
  ·exact g3 b hb hu
  exact h3 b ((g4 b).2 (.inl hb)) hu
 rw [h4 b,g4 b,or_assoc]
theorem St.join (h:St w0 A (H1::H2::L) w):St w0 A (sep H1 H2::L) w:=by
 obtain ⟨U,F,U',h1,h2,h3,h4,F2,U2,g1,g2,g3,g4,g5⟩:=h.ng
 refine ⟨h.aD,U,λ b=>F b\/F2 b,U2,⟨F,F2,h1,g1,λ b hb hf=>h3 b hb ((g4 b).2 (.inl hf)),λ b=>Iff.rfl⟩,λ b hb=>hb.elim (h2 b) (g2 b),λ b hb hu=>?_,λ b=>?_,g5⟩
 ·rcases hb with hb | hb
  ·exact h3 b hb ((g4 b).2 (.inr hu))
  exact g3 b hb hu
 rw [h4 b,g4 b,or_assoc]
theorem St.gK {α:Type} {H:α->HP} (h:St w0 A (ui H::L) w):∃ x,St w0 A (H x::L) w:=by
 obtain ⟨U,F,U',⟨x,h1⟩,h2⟩:=h.ng; exact ⟨x,h.aD,U,F,U',h1,h2⟩
theorem St.fO {α:Type} {H:α->HP} (x:α) (h:St w0 A (H x::L) w):St w0 A (ui H::L) w:=by
 obtain ⟨U,F,U',h1,h2⟩:=h.ng; exact ⟨h.aD,U,F,U',⟨x,h1⟩,h2⟩
theorem St.AA {φ:Prop} (h:St w0 A (fact φ H::L) w):φ/\St w0 A (H::L) w:=by
 obtain ⟨U,F,U',⟨x,h1⟩,h2⟩:=h.ng; exact ⟨x,h.aD,U,F,U',h1,h2⟩
theorem St.xC {φ:Prop} (x:φ) (h:St w0 A (H::L) w):St w0 A (fact φ H::L) w:=by
 obtain ⟨U,F,U',h1,h2⟩:=h.ng; exact ⟨h.aD,U,F,U',⟨x,h1⟩,h2⟩
def D8 (F:Nat->Prop) (H':HP) (w w':World):Prop:=∃ F',H'.p w' F'/\(∀ b,F' b->F b\/w.heap.size<=b)/\kj F w w'
def pD (H:HP) (w w':World):Prop:=∃ F,H.p w' F/\(∀ b,F b->w.heap.size<=b)/\Ext w w'
theorem St.mut {F:Nat->Prop} (hs:St w F (H::L) w'):D8 F H w w':=by
 obtain ⟨F',h1,h2⟩:=hs.head; exact ⟨F',h1,h2,hs.aD⟩
theorem St.fresh (hs:St w aZ (H::L) w'):pD H w w':=by
 obtain ⟨F',h1,h2⟩:=hs.head; exact ⟨F',h1,λ b hb=>(h2 b hb).elim (λ h=>h.elim) id,hs.aD⟩
theorem St.made (hs:St w0 A L w) (h:pD H w w'):St w0 A (H::L) w':=by
 obtain ⟨F,h1,h2,h3⟩:=h; exact hs.new h3 h1 h2
theorem bF {f:FuncId} {args:List Value} {X:Value} {K:Value->World->Prop} (pl:Plain P f) (hs:St w0 A L w) (hc:Calls P f args.toArray w (mE λ v w'=>v=X/\Ext w w')) (k:∀ w',Ext w w'->St w0 A L w'->K X w'):tj P f args w K:=
 gW pl hc λ v w' h=>by obtain ⟨rfl,h2⟩:=h; exact k w' h2 (hs.ext h2)
theorem fy {f:FuncId} {args:List Value} {H:Value->HP} {K:Value->World->Prop} (pl:Plain P f) (hs:St w0 A L w) (hc:Calls P f args.toArray w (mE λ v w'=>pD (H v) w w')) (k:∀ v w',pD (H v) w w'->St w0 A (H v::L) w'->K v w'):tj P f args w K:=
 gW pl hc λ v w' h=>k v w' h (hs.made h)
theorem St.Oi {F:Nat->Prop} {U':Nat->Prop} {H':HP} (hs:St w0 A (H::L) w) (h2:∀ b,F b->A b\/w0.heap.size<=b) (h3:∀ b,F b->¬ U' b) (h5:lZ w0 A L w U') (h:D8 F H' w w'):St w0 A (H'::L) w':=by
 obtain ⟨F',g1,g2,g3⟩:=h
 refine ⟨hs.aD.trans g3 (λ _ h=>h) λ b hb hf=>(h2 b hf).elim id λ hh=>by omega,λ b=>F' b\/U' b,F',U',g1,λ b hb=>?_,λ b hb hu=>?_,λ b=>Iff.rfl,?_⟩
 ·rcases g2 b hb with hf | hf
  ·exact h2 b hf
  exact .inr (Nat.le_trans hs.aD.size hf)
 ·rcases g2 b hb with hf | hf
  ·exact h3 b hf hu
  have:=h5.lt b hu; omega
 exact h5.loc λ b hb=>g3.cZ b (h5.lt b hb) λ hf=>h3 b hf hb
theorem kU {f:FuncId} {args:List Value} {H':Value->HP} {Φ:Value->World->Prop} {K:Value->World->Prop} (pl:Plain P f) (hs:St w0 A (H::L) w)
  (hc:∀ F,H.p w F->Calls P f args.toArray w (mE λ v w'=>Φ v w'/\D8 F (H' v) w w')) (k:∀ v w',Φ v w'->St w0 A (H' v::L) w'->K v w'):tj P f args w K:=by
 obtain ⟨U,F,U',h1,h2,h3,h4,h5⟩:=hs.ng
 exact gW pl (hc F h1) λ v w' ⟨hΦ,hM⟩=>k v w' hΦ (hs.Oi h2 h3 h5 hM)
end
section
variable {α:Type} [Flat α] {P:Program} {w w0:World} {A S:Nat->Prop} {L:List HP} {xs ys:List α}
theorem ee.one {v:Value} (h:ee S w v xs):eK v=true:=by obtain ⟨a,c,rfl,_⟩:=h; rfl
end
section
variable {P:Program} {w w0 w':World} {A:Nat->Prop} {L:List HP}
theorem cO {α:Type} [Flat α] {T:TypeId} {b:Nat} {cs:List Value} {x:α} {K:World->Prop} (hs:St w0 A (cZ b cs::L) w) (ht:GY P T (Flat.sz α)) (ha:Flat.agg α=true) (hl:cs.length=Flat.sz α)
  (k:∀ w',St w0 A (cZ b (Flat.enc x)::L) w'->K w'):Gw P (Instr.storeAt T (.pointer (some ⟨b,0,none⟩)) (Flat.val x)) w K:=by
 rw [Flat.l3 ha]
 refine qR hs ht (Flat.len x) (by rw [Nat.zero_add,hl]; exact Nat.le_refl _) (Flat.one x) λ w' h=>k w' ?_
 have:=lD [] cs [] (Flat.enc x) (by rw [Flat.len,hl])
 simp only [List.length_nil,List.nil_append,List.append_nil] at this
 rwa [this] at h
theorem eE {α:Type} [Flat α] {S:Nat->Prop} {T:TypeId} {p:Value} {x:α} (ht:bY P T=some (Flat.agg α,Flat.sz α)) (h:At S w p x):(Instr.loadAt T p).run P w = .ok (Flat.val x) w:=by
 obtain ⟨v,h1,h2⟩:=(aO (K:=λ v=>v=Flat.val x) ht h rfl).ex
 rw [<- h2]; exact h1
theorem ph {b:Bool} {A B:Prop} (h:b=true) (a:A):pL (.bool b) A B:=⟨⟨_,rfl,λ _=>a,λ hh=>by rw [h] at hh; cases hh⟩⟩
theorem dA {b:Bool} {A B:Prop} (h:b=false) (a:B):pL (.bool b) A B:=⟨⟨_,rfl,λ hh=>(by rw [h] at hh; cases hh),λ _=>a⟩⟩
end
section
variable {P:Program} {w w0:World} {A S:Nat->Prop} {L:List HP}
theorem rq {t:Array TypeId} {T:TypeId} {a b:Int} {K:Value->Prop} (k:K (.int .i64 (min a b))):dW P (Builtin.min_ t T [.int .i64 a,.int .i64 b].toArray) K:=by
 refine ⟨_,?_,k⟩
 show pr P (Builtin.min2 (.int .i64 a) (.int .i64 b))=_
 unfold Builtin.min2
 by_cases h:b<a
 ·simp [h,dF]; omega
 simp [h,dF]; omega
theorem D9 {t:Array TypeId} {T:TypeId} {a b:Int} {K:Value->Prop} (k:K (.int .i64 (max a b))):dW P (Builtin.max_ t T [.int .i64 a,.int .i64 b].toArray) K:=by
 refine ⟨_,?_,k⟩
 show pr P (Builtin.max2 (.int .i64 a) (.int .i64 b))=_
 unfold Builtin.max2
 by_cases h:a<b
 ·simp [h,dF]; omega
 simp [h,dF]; omega
end
section
variable {P:Program} {α:Type} [Flat α] {A:Nat->Prop} {w0 w:World} {L:List HP} {xs:List α}
def yH (α:Type) [Flat α] (v:Value) (i off:Nat) (p:Value):Prop:=∃ b n c,v = .slice (some ⟨b,0,none⟩) n c/\p = .pointer (some ⟨b,i * Flat.sz α+off,none⟩)
theorem rv {T f off i:Nat} {v p:Value} {K:Value->Prop} (ht:oy P T f off) (h:Ai α v i p) (k:∀ q,yH α v i off q->K q):dW P (Instr.fieldAt T p f) K:=by
 obtain ⟨b,n,c,h1,rfl⟩:=h
 exact aA ht (k _ ⟨b,n,c,h1,rfl⟩)
theorem vh {β:Type} [Flat β] {T:Nat} {v p:Value} {i off:Nat} {x:α} (y:β) {K:Value->Prop} (hs:St w0 A (bR v xs::L) w) (ht:bY P T=some (Flat.agg β,Flat.sz β)) (hp:yH α v i off p) (hx:xs[i]? = some x)
  (hy:((Flat.enc x).drop off).take (Flat.sz β)=Flat.enc y) (k:K (Flat.val y)):yj P (Instr.loadAt T p) w K:=by
 obtain ⟨F,h,_⟩:=hs.head
 obtain ⟨b,cap,rest,hv,hb,hl,_⟩:=pe h (List.getElem?_eq_some_iff.1 hx).1
 obtain ⟨b',n,c,pB,rfl⟩:=hp
 rw [hv] at pB
 simp only [Value.slice.injEq,Option.some.injEq,Addr.mk.injEq] at pB
 obtain ⟨⟨rfl,_,_⟩,_,_⟩:=pB
 refine aO (S:=λ _=>True) ht ⟨b,i * Flat.sz α+off,rfl,trivial,λ j c hj=>hb.cell ?_⟩ k
 rw [<- hy,List.getElem?_take] at hj
 split at hj
 ·rw [List.getElem?_drop] at hj
  have:=mH hx hj
  rw [Nat.add_assoc,List.getElem?_append_left (List.getElem?_eq_some_iff.1 this).1]; exact this
 cases hj
theorem AB {β:Type} [Flat β] {T:Nat} {v p:Value} {i off:Nat} {K:World->Prop} {x:α} (y:α) (z:β) (hs:St w0 A (bR v xs::L) w) (ht:bY P T=some (Flat.agg β,Flat.sz β)) (hp:yH α v i off p) (hx:xs[i]? = some x)
  (hlen:off+Flat.sz β<=Flat.sz α) (hy:(Flat.enc x).take off++Flat.enc z++(Flat.enc x).drop (off+Flat.sz β)=Flat.enc y)
  (k:∀ w',St w0 A (bR v (xs.set i y)::L) w'->K w'):Gw P (Instr.storeAt T p (Flat.val z)) w K:=by
 obtain ⟨U,F,U',g1,g2,g3,g4,g5⟩:=hs.ng
 have hi:=(List.getElem?_eq_some_iff.1 hx).1
 obtain ⟨b,cap,rest,hv,hb,hl,hF⟩:=pe g1 hi
 obtain ⟨b',n,c,pB,rfl⟩:=hp
 rw [hv] at pB
 simp only [Value.slice.injEq,Option.some.injEq,Addr.mk.injEq] at pB
 obtain ⟨⟨rfl,_,_⟩,_,_⟩:=pB
 have G4:=u3 hx
 have Oe:(flat (xs.take i)).length=i * Flat.sz α:=by rw [cH,List.length_take,Nat.min_eq_left (by omega)]
 have hel:i * Flat.sz α+Flat.sz α<=(flat xs).length:=by
  rw [cH,<- Nat.succ_mul]; exact Nat.mul_le_mul_right _ hi
 have hxl:(Flat.enc x).length=Flat.sz α:=Flat.len x
 have zR:(Flat.enc z).length=Flat.sz β:=Flat.len z
 obtain ⟨w',h1,h2,h3⟩:=nh (P:=P) (o:=i * Flat.sz α+off) (Flat.enc z) 0 (flat xs++rest) w hb (by rw [zR,List.length_append]; omega) (Flat.one z)
 have lY:eS (flat xs++rest) (i * Flat.sz α+off+0) (Flat.enc z)=flat (xs.set i y)++rest:=by
  have:=lD (flat (xs.take i)++(Flat.enc x).take off) (((Flat.enc x).drop off).take (Flat.sz β)) ((Flat.enc x).drop (off+Flat.sz β)++flat (xs.drop (i+1))++rest) (Flat.enc z)
   (by rw [zR,List.length_take,List.length_drop]; omega)
  rw [List.length_append,Oe,List.length_take,Nat.min_eq_left (by omega)] at this
  rw [Nat.add_zero,Aj y hi,G4,<- hy]
  have e1:Flat.enc x=(Flat.enc x).take off++((Flat.enc x).drop off).take (Flat.sz β)++(Flat.enc x).drop (off+Flat.sz β):=by
   rw [<- List.drop_drop,List.append_assoc,List.take_append_drop,List.take_append_drop]
  have e2:flat (xs.take i)++Flat.enc x++flat (xs.drop (i+1))++rest=flat (xs.take i)++(Flat.enc x).take off++((Flat.enc x).drop off).take (Flat.sz β)++((Flat.enc x).drop (off+Flat.sz β)++flat (xs.drop (i+1))++rest):=by
   conv=>lhs; rw [e1]
   simp only [List.append_assoc]
  rw [e2,this]
  simp only [List.append_assoc]
 rw [lY] at h2
 refine ⟨w',?_,k w' ⟨hs.aD.trans (h3.mono λ k hk=>(hF k).2 hk) (λ _ h=>h) λ b hb hf=>(g2 b hf).elim id λ hh=>by omega,U,F,U',?_,g2,g3,g4,
  g5.loc λ b hb=>(h3.mono λ k hk=>(hF k).2 hk).cZ b (g5.lt b hb) λ hf=>g3 b hf hb⟩⟩
 ·show (storeVar T ⟨b,i * Flat.sz α+off,none⟩ (Flat.val z)).run P w=_
  unfold storeVar
  rw [aY (bZ (ej ht).2 w),la]
  simp only [List.size_toArray,Flat.len,ne_eq,not_true_eq_false,if_false]
  exact h1
 refine .inr ⟨b,cap,rest,by rw [List.length_set]; exact hv,h2,?_,hF⟩
 rw [<- hl,List.length_append,List.length_append,cH,cH,List.length_set]
theorem uj {T:Nat} {b o:Nat} {cs:List Value} (x:α) {K:Value->Prop} (ht:bY P T=some (Flat.agg α,Flat.sz α)) (hb:ow w b cs) (hx:(cs.drop o).take (Flat.sz α)=Flat.enc x) (k:K (Flat.val x)) :
  yj P (Instr.loadAt T (.pointer (some ⟨b,o,none⟩))) w K:=by
 refine aO (S:=λ _=>True) ht ⟨b,o,rfl,trivial,λ j c hj=>hb.cell ?_⟩ k
 rw [<- hx,List.getElem?_take] at hj
 split at hj
 ·rw [List.getElem?_drop] at hj; exact hj
 cases hj
end
structure SV where
 a:Option Addr
 n:Nat
 cap:Nat
instance:Flat SV where
 agg:=false
 sz:=1
 enc s:=[.slice s.a s.n s.cap]
 val s:=.slice s.a s.n s.cap
 pos:=by decide
 len _:=rfl
 one a v h:=by rw [List.mem_singleton.1 h]; rfl
 l3 h:=by cases h
 l4 _ _:=rfl
section
variable {P:Program} {α:Type} [Flat α] {A:Nat->Prop} {w0 w:World} {L L':List HP} {v:Value}
def rows:List SV->List (List α)->HP
 | [],[]=>emp
 | s::ss,x::xs=>sep (bR (Flat.val s) x) (rows ss xs)
 | _,_=>fact False emp
theorem St.iu {xs:List α} (hs:St w0 A (bR v xs::L) w):∃ s:SV,v=Flat.val s:=by
 obtain ⟨F,h,_⟩:=hs.head
 rcases h with ⟨rfl,_⟩ | ⟨b,cap,_,rfl,_⟩
 ·exact ⟨⟨none,0,0⟩,rfl⟩
 exact ⟨⟨_,_,_⟩,rfl⟩
theorem ee.iu {S:Nat->Prop} {xs:List α} (h:ee S w v xs):∃ s:SV,v=Flat.val s:=by
 obtain ⟨a,cap,rfl,_⟩:=h; exact ⟨⟨_,_,_⟩,rfl⟩
end
section
variable {P:Program}
theorem fk {α:Type} [Flat α] {S:Nat->Prop} {w:World} {xs:List α} {T E by':Nat} {z:Option Nat} {v:Value} {i:Int} {K:Value->Prop} (ht:dJ P T=some (E,Flat.sz α,by',z)) (hr:ee S w v xs) (h0:0<=i) (h2:i<=xs.length)
  (k:∀ v',(∀ w',ee S w' v xs->ee S w' v' (xs.take i.toNat))->K v'):dW P (Instr.sliceAt T v none (some (.int .i64 i)) none) K:=by
 obtain ⟨a,cap,rfl,wV,h3⟩:=hr
 refine ⟨_,yA ht (pa (.inl ⟨rfl,rfl⟩) (.inr ⟨i,rfl,h0,rfl⟩) (Nat.zero_le _) (by omega)),k _ λ w' h=>?_⟩
 have:=h.cut rfl (Nat.zero_le i.toNat) (by omega)
 simpa using this
end
open Go.ChangeShapes Go.WideShapes Go.ChangeAt Go.RowKit
structure RdT (P:Program) (t:TypeId) (α:Type) [Flat α] (φ:α->Prop):Prop where
 cells:P.cellsOf t=Flat.sz α
 rd:∀ {H:Type} (enc:TypeId × Value->H) (w:World) (base:Nat) (sp:Nat->Bool) (held:Bool) (fuel:Nat) (cs:List Value) (x:DataW H × List MemPlace),
  DataW.trod enc P w base sp held fuel t cs=some x->∃ a:α,cs=Flat.enc a/\φ a
def eD (n:Int):Prop:=-9223372036854775808<=n/\n<=9223372036854775807
theorem Q4 {P:Program} {t:TypeId} (ht:P.underlying t=some (.int .i64)) (hc:P.cellsOf t=1):RdT P t Int eD:=
 ⟨hc,λ enc w base sp held fuel cs x h=>by
  obtain ⟨n,h1,_,h3⟩:=DataW.trod_int ht h
  refine ⟨n,h1,?_⟩
  simpa [Lit.wf,IntKind.min,IntKind.max,IntKind.signed,IntKind.bits,eD] using h3⟩
theorem nj {H:Type} {enc:TypeId × Value->H} {P:Program} {w:World} {base:Nat} {sp:Nat->Bool} {held:Bool} {fuel:Nat} {t:TypeId} {fs:Array Field} {cs:List Value} {x:DataW H × List MemPlace}
  (ht:P.underlying t=some (.struct fs)) (h:DataW.trod enc P w base sp held fuel t cs=some x) :
  cs.length=P.cellsOf t/\∃ n,∀ (i:Nat) (f:Field),fs[i]? = some f->∃ y,DataW.trod enc P w base sp held n f.type ((cs.drop f.offset).take (P.cellsOf f.type))=some y:=by
 obtain ⟨xs,n,_,_,hl,hs,hf⟩:=DataW.trod_struct ht h
 refine ⟨hl,n,λ i f hi=>?_⟩
 have fS:i<xs.length:=by rw [hs]; exact (Array.getElem?_eq_some_iff.1 hi).1
 exact ⟨xs[i],by rw [hf i f hi,List.getElem?_eq_getElem fS]⟩
theorem ey {cs:List Value} {o s:Nat} {r:List Value} (h:(cs.drop o).take s=r):cs.drop o=r++cs.drop (o+s):=by
 rw [<- h,<- List.drop_drop,List.take_append_drop]
theorem LY {α:Type} {p:Nat->α->Prop}:∀ n,(∀ i,i<n->∃ x,p i x)->∃ xs:List α,xs.length=n/\∀ i x,xs[i]? = some x->p i x:=by
 intro n
 induction n with
 | zero=>intro _; exact ⟨[],rfl,by simp⟩
 | succ n ih=>
  intro h
  obtain ⟨xs,h1,h2⟩:=ih λ i hi=>h i (by omega)
  obtain ⟨x,hx⟩:=h n (by omega)
  refine ⟨xs++[x],by simp [h1],λ i y hy=>?_⟩
  by_cases hi:i<n
  ·rw [List.getElem?_append_left (by omega)] at hy; exact h2 i y hy
  ·have fS:i<(xs++[x]).length:=(List.getElem?_eq_some_iff.1 hy).1
   have:i=n:=by simp [h1] at fS; omega
   subst this
   rw [List.getElem?_append_right (by omega),h1] at hy
   simp at hy
   rw [<- hy]; exact hx
theorem CA {α:Type} [Flat α] {xs:List α} {j:Nat} {c:Value} (h:(flat xs)[j]? = some c):∃ i r x,xs[i]? = some x/\(Flat.enc x)[r]? = some c/\j=i * Flat.sz α+r:=by
 have fS:j<(flat xs).length:=(List.getElem?_eq_some_iff.1 h).1
 rw [cH] at fS
 have hp:0<Flat.sz α:=Flat.pos
 have hi:j / Flat.sz α<xs.length:=Nat.div_lt_of_lt_mul (by rw [Nat.mul_comm]; exact fS)
 have hr:j % Flat.sz α<Flat.sz α:=Nat.mod_lt _ hp
 have hj:j=j / Flat.sz α * Flat.sz α+j % Flat.sz α:=by rw [Nat.mul_comm]; exact (Nat.div_add_mod _ _).symm
 have hx:xs[j / Flat.sz α]? = some (xs[j / Flat.sz α]):=List.getElem?_eq_getElem hi
 have hc:(Flat.enc (xs[j / Flat.sz α]))[j % Flat.sz α]? = some ((Flat.enc (xs[j / Flat.sz α]))[j % Flat.sz α]'(by rw [Flat.len]; exact hr)):=List.getElem?_eq_getElem _
 have:=mH hx hc
 rw [<- hj,h] at this
 exact ⟨_,_,_,hx,hc.trans this.symm,hj⟩
section
variable {H:Type} {enc:TypeId × Value->H} {P:Program} {w:World} {base:Nat} {held:Bool}
theorem open_i64 {r:Reach} {b0:Nat} {t:TypeId} {v:Value} {d:DataW H} {ps:List MemPlace} {sp:Nat->Bool} (ht:P.underlying t=some (.int .i64)) (hval:Value.okWide P w r b0 t v) (hd:DataW.Trod enc P w base sp held t v d ps) :
  ∃ n,v = .int .i64 n/\eD n:=by
 obtain ⟨n,h1,_,_,h4⟩:=open_int ht hval hd
 exact ⟨n,h1,by simpa [Lit.wf,IntKind.min,IntKind.max,IntKind.signed,IntKind.bits,eD] using h4⟩
def yI (P:Program) (ts:List TypeId):Bool:=ts.all λ t=>P.readableRec t && decide (t<P.types.size)
theorem pS (hl:laidOutB P=true) {W W':World} (hb:Below W.heap.size W W') {sp:Nat->Bool}:∀ {ts:List TypeId} {vs:List Value} {ds:List (DataW H)} {ps:List MemPlace},yI P ts=true->(∀ x∈ps,x.block<W.heap.size)->
  (∀ x∈ps,sp x.block=true)->DataW.TrodAll enc P W 0 (λ _=>true) true ts vs ds ps->DataW.TrodAll enc P W' 0 sp true ts vs ds ps
 | [],vs,ds,ps,_,_,_,h=>by obtain ⟨rfl,rfl,rfl⟩:=trodAll_nil h; exact trodAll_mk0
 | t::ts,vs,ds,ps,hr,fS,G4,h=>by
  obtain ⟨v,vs1,d,ds1,a,b,rfl,rfl,rfl,h1,h2⟩:=trodAll_cons h
  have E5:P.readableRec t=true/\t<P.types.size/\yI P ts=true:=by
   unfold yI at hr
   rw [List.all_cons,Bool.and_eq_true,Bool.and_eq_true,decide_eq_true_eq] at hr
   exact ⟨hr.1.1,hr.1.2,hr.2⟩
  refine trodAll_cons_mk (WideElems.Trod_stays hl E5.1 E5.2.1 h1 (λ x hx=>hb.same (fS x (List.mem_append_left _ hx))) (λ x hx=>G4 x (List.mem_append_left _ hx))) ?_
  exact pS hl hb E5.2.2 (λ x hx=>fS x (List.mem_append_right _ hx)) (λ x hx=>G4 x (List.mem_append_right _ hx)) h2
theorem post_true {f:Func} {s:ChangeSpec} {apart fresh handsOn again:Bool} {W W':World} {args:Array Value} {ds gs:List (DataW H)} {before:List MemPlace} {tb:TypeId}
  (Oj:s.vars=[]) (Q5:∀ ds:List (DataW H),ds.length=f.params.size->s.fn H ds={results:=[.lit (.bool true)],args:=ds}) (V4:f.resultTypes = #[tb]) (htb:P.underlying tb=some .bool)
  (hl:laidOutB P=true) (aco:yI P f.params.toList=true)
  (hW:DataW.Whole enc P f.params.toList s.vars apart W args.toList ds gs before) (hb:Below W.heap.size W W') :
  s.post enc P f apart fresh handsOn again W args (.bool true) W':=by
 have hW':=hW
 obtain ⟨p,q,hA,hV,hpq,hz,hn⟩:=hW
 have fS:∀ x∈before,x.block<W.heap.size:=hW'.lt
 rw [Oj] at hV
 obtain ⟨rfl,rfl⟩:=trodVars_none hV
 simp only [List.append_nil] at hpq
 have hlen:ds.length=f.params.size:=by
  have:=(trodAll_length hA).2
  simpa using this
 have Q6:=Q5 ds hlen
 have Ok:∀ (b:Nat) (sp:Nat->Bool) (hd:Bool),DataW.TrodAll enc P W' b sp hd f.resultTypes.toList ((Value.bool true).resultList f.resultTypes.size) (s.fn H (ds++[])).results []:=λ b sp hd=>by
  rw [List.append_nil,Q6,V4]
  exact trodAll_mk1 (shut_bool htb true)
 have hargs:∀ sp:Nat->Bool,(∀ p∈before,sp p.block=true)->DataW.TrodAll enc P W' 0 sp true f.params.toList args.toList (s.fn H (ds++[])).args before:=λ sp G4=>by
  rw [List.append_nil,Q6]
  rw [hpq] at fS G4 |-
  exact pS hl hb aco fS G4 hA
 have Hx:∀ sp:Nat->Bool,DataW.TrodVars enc P W' sp s.vars (s.fn H (ds++[])).vars []:=λ sp=>by
  rw [List.append_nil,Q6,Oj]; rfl
 have hZ:∀ (j:Nat) (t:TypeId) (r:Value),f.resultTypes[j]? = some t->((Value.bool true).resultList f.resultTypes.size)[j]? = some r->Value.okWide P W' .any 0 t r:=
  ok_one V4 rfl (okWide_bool_mk htb true)
 have hold:∀ p∈before,(λ b=>decide (b<W.heap.size)) p.block=true:=λ p hp=>by simpa using fS p hp
 refine ⟨ds,[],before,[],before,[],hW',Ok _ _ _,hargs _ hold,Hx _,World.keptBut_mono (λ p hp=>⟨hp,?_⟩) (hb.frame (·∈before)),λ _=>?_⟩
 ·simpa using hp
 refine ⟨hZ,_,_,([]++before)++[],⟨[]++before,[],trodAll_append (hargs _ (λ _ _=>rfl)) (Ok _ _ _),Hx _,rfl,?_,?_⟩,?_⟩
 ·intro b off hp
  have hp':MemPlace.cell b off∈before:=by simpa using hp
  rw [hb.frozen (p:=⟨b,off,none⟩) (fS _ hp')]
  exact hz b off hp'
 ·intro ha; simpa using hn ha
 intro p hp _; simpa using hp
end
section
variable {P:Program} {α:Type} [Flat α]
def V5 (P:Program) (T n E:Nat):Prop:=P.underlying T=some (.array n E)/\pr P (sizeOf E)=some 1
theorem jy {T E n b o:Nat} {i:Int} {K:Value->Prop} (h:V5 P T n E) (h0:0<=i) (h1:i<n) (k:K (.pointer (some ⟨b,o+i.toNat,none⟩))) :
  dW P (Instr.indexAt T (.pointer (some ⟨b,o,none⟩)) (.int .i64 i)) K:=by
 refine ⟨_,?_,k⟩
 unfold Instr.indexAt
 have e1:pr P (underlying T)=some (.array n E):=aS h.1
 have e3:pr P (Instr.sureAddr (.pointer (some (⟨b,o,none⟩:Addr))))=some ⟨b,o,none⟩:=rfl
 simp only [asIntOf,aU,e1,Option.bind_some,dF,e3]
 simp only [if_pos (show 0<=i/\i<(n:Int) from ⟨h0,h1⟩),aU,h.2,Option.bind_some,dF,dG,Nat.mul_one]
end
class Deep (α:Type) (σ:outParam Type) [Flat σ] where
 dr:World->σ->α->Prop
 ext:∀ {w w':World} {s:σ} {x:α},dr w s x->Ext w w'->dr w' s x
def DL {α σ:Type} [Flat σ] [Deep α σ] (w:World) (v:Value) (xs:List α):Prop:=
 ∃ ts:List σ,ee (λ _=>True) w v ts/\ts.length=xs.length/\∀ (i:Nat) (t:σ) (x:α),ts[i]? = some t->xs[i]? = some x->Deep.dr w t x
section
variable {P:Program} {α σ:Type} [Flat σ] [Deep α σ] {w w' w0:World} {v:Value} {A:Nat->Prop} {L:List HP}
theorem DL.ext {xs:List α} (h:DL w v xs) (e:Ext w w'):DL w' v xs:=by
 obtain ⟨ts,h1,h2,h3⟩:=h; exact ⟨ts,h1.ext e,h2,λ i t x a b=>Deep.ext (h3 i t x a b) e⟩
theorem DL.nil (w:World):DL w (.slice none 0 0) ([]:List α):=⟨[],ee.nil _ _,rfl,λ i t x h=>by simp at h⟩
theorem DL.iu {xs:List α} (h:DL w v xs):∃ s:SV,v=Flat.val s:=by obtain ⟨_,h,_⟩:=h; exact h.iu
instance:Deep (List α) SV where
 dr w s xs:=DL w (Flat.val s) xs
 ext h e:=DL.ext h e
def fU (Φ:World->Prop):HP where
 p w F:=(∀ w':World,(∀ b,F b->w'.heap[b]? = w.heap[b]?)->Φ w')/\∀ b,F b->b<w.heap.size
 loc w w' F h hh:=⟨λ w2 h2=>h.1 w2 λ b hb=>(h2 b hb).trans (hh b hb),λ b hb=>by
  have:=h.2 b hb
  have h3:=hh b hb
  rw [Array.getElem?_eq_getElem this] at h3
  exact (Array.getElem?_eq_some_iff.1 h3).1⟩
 lt w F b h hb:=h.2 b hb
theorem fU.now {Φ:World->Prop} {F:Nat->Prop} (h:(fU Φ).p w F):Φ w:=h.1 w λ _ _=>rfl
theorem St.fU {Φ:World->Prop} (hs:St w0 A (fU Φ::L) w):Φ w:=by obtain ⟨F,h,_⟩:=hs.head; exact fU.now h
theorem St.jz {Φ Ψ:World->Prop} (hs:St w0 A (Fw.fU Φ::L) w) (hk:∀ w,Φ w->Ψ w):St w0 A (Fw.fU Ψ::L) w:=
 hs.sJ λ F hF=>⟨F,⟨λ w' h=>hk _ (hF.1 w' h),hF.2⟩,λ b hb=>.inl hb,kj.refl _ _⟩
theorem St.gU {Φ Ψ:World->Prop} (hs:St w0 A (Fw.fU Φ::Fw.fU Ψ::L) w):St w0 A (Fw.fU (λ w=>Φ w/\Ψ w)::L) w:=by
 have h:=St.join hs
 refine h.sJ λ F hF=>?_
 obtain ⟨F1,F2,h1,h2,h3,h4⟩:=hF
 refine ⟨F,⟨λ w' hh=>⟨h1.1 w' λ b hb=>hh b ((h4 b).2 (.inl hb)),h2.1 w' λ b hb=>hh b ((h4 b).2 (.inr hb))⟩,λ b hb=>?_⟩,λ b hb=>.inl hb,kj.refl _ _⟩
 rcases (h4 b).1 hb with hb | hb
 ·exact h1.2 b hb
 exact h2.2 b hb
theorem St.qk {Φ:World->Prop} (hs:St w0 A L w) (h:∀ w,Φ w):St w0 A (Fw.fU Φ::L) w:=
 hs.new (Ext.refl w) (F:=aZ) ⟨λ w' _=>h w',λ b hb=>hb.elim⟩ λ _ h=>h.elim
theorem St.freeze {xs:List σ} (hs:St w0 A (bR v xs::L) w):St w0 A (Fw.fU (λ w=>ee (λ _=>True) w v xs)::L) w:=
 hs.sJ λ F hF=>⟨F,⟨λ w' h=>(bR.rd ((bR v xs).loc _ _ _ hF h)).mono λ _ _=>trivial,λ b hb=>(bR v xs).lt _ _ _ hF hb⟩,λ b hb=>.inl hb,kj.refl _ _⟩
theorem St.lg {b:Nat} {cs:List Value} (hs:St w0 A (cZ b cs::L) w):St w0 A (Fw.fU (λ w=>ow w b cs)::L) w:=
 hs.sJ λ F hF=>⟨F,⟨λ w' h=>((cZ b cs).loc _ _ _ hF h).1,λ k hk=>(cZ b cs).lt _ _ _ hF hk⟩,λ b hb=>.inl hb,kj.refl _ _⟩
def kV (ts:List σ) (xs:List α) (w:World):Prop:=ts.length=xs.length/\∀ (i:Nat) (t:σ) (x:α),ts[i]? = some t->xs[i]? = some x->Deep.dr w t x
theorem kV.nil:kV ([]:List σ) ([]:List α) w:=⟨rfl,λ i t x h=>by simp at h⟩
theorem kV.snoc {ts:List σ} {xs:List α} {t:σ} {x:α} (h:kV ts xs w) (ht:Deep.dr w t x):kV (ts++[t]) (xs++[x]) w:=by
 refine ⟨by rw [List.length_append,List.length_append,h.1]; rfl,λ i t' x' h1 h2=>?_⟩
 rcases Nat.lt_or_ge i ts.length with hi | hi
 ·rw [List.getElem?_append_left hi] at h1
  rw [List.getElem?_append_left (by rw [<- h.1]; exact hi)] at h2
  exact h.2 i t' x' h1 h2
 have fS:=(List.getElem?_eq_some_iff.1 h1).1
 rw [List.length_append,List.length_singleton] at fS
 obtain rfl:i=ts.length:=by omega
 rw [List.getElem?_append_right (Nat.le_refl _),Nat.sub_self] at h1
 rw [List.getElem?_append_right (by rw [h.1]; exact Nat.le_refl _),h.1,Nat.sub_self] at h2
 rw [<- Option.some.inj h1,<- Option.some.inj h2]; exact ht
theorem kV.append {ts us:List σ} {xs ys:List α} (h:kV ts xs w) (g:kV us ys w):kV (ts++us) (xs++ys) w:=by
 refine ⟨by rw [List.length_append,List.length_append,h.1,g.1],λ i t' x' h1 h2=>?_⟩
 rcases Nat.lt_or_ge i ts.length with hi | hi
 ·rw [List.getElem?_append_left hi] at h1
  rw [List.getElem?_append_left (by rw [<- h.1]; exact hi)] at h2
  exact h.2 i t' x' h1 h2
 rw [List.getElem?_append_right hi] at h1
 rw [List.getElem?_append_right (by rw [<- h.1]; exact hi),<- h.1] at h2
 exact g.2 _ t' x' h1 h2
theorem kV.ext {ts:List σ} {xs:List α} (h:kV ts xs w) (e:Ext w w'):kV ts xs w':=⟨h.1,λ i t x a b=>Deep.ext (h.2 i t x a b) e⟩
theorem DL.of {ts:List σ} {xs:List α} (h:ee (λ _=>True) w v ts) (g:kV ts xs w):DL w v xs:=⟨ts,h,g.1,g.2⟩
theorem DL.open {xs:List α} (h:DL w v xs):∃ ts:List σ,ee (λ _=>True) w v ts/\kV ts xs w:=by obtain ⟨ts,h1,h2,h3⟩:=h; exact ⟨ts,h1,h2,h3⟩
theorem kV.take {ts:List σ} {xs:List α} (h:kV ts xs w) (k:Nat):kV (ts.take k) (xs.take k) w:=by
 refine ⟨by rw [List.length_take,List.length_take,h.1],λ i t x a b=>?_⟩
 rw [List.getElem?_take] at a b
 split at a
 ·rename_i hi; rw [if_pos hi] at b; exact h.2 i t x a b
 cases a
theorem kV.drop {ts:List σ} {xs:List α} (h:kV ts xs w) (k:Nat):kV (ts.drop k) (xs.drop k) w:=by
 refine ⟨by rw [List.length_drop,List.length_drop,h.1],λ i t x a b=>?_⟩
 rw [List.getElem?_drop] at a b
 exact h.2 _ t x a b
end
section
variable {α:Type} [Flat α]
abbrev fV:Deep α α:=⟨λ _ s x=>s=x,λ h _=>h⟩
theorem xD [D:Deep α α] (hD:∀ w s x,D.dr w s x↔s=x) {w:World} {ts xs:List α}:kV ts xs w↔ts=xs:=by
 constructor
 ·rintro ⟨h1,h2⟩
  refine List.ext_getElem? λ i=>?_
  rcases Nat.lt_or_ge i ts.length with hi | hi
  ·have a:=List.getElem?_eq_getElem hi
   have b:=List.getElem?_eq_getElem (l:=xs) (by rw [<- h1]; exact hi)
   rw [a,b,(hD _ _ _).1 (h2 i _ _ a b)]
  rw [List.getElem?_eq_none hi,List.getElem?_eq_none (by rw [<- h1]; exact hi)]
 rintro rfl
 exact ⟨rfl,λ i t x a b=>(hD _ _ _).2 (Option.some.inj (a.symm.trans b))⟩
end
instance:Deep Int Int:=fV
instance:Deep Bool Bool:=fV
instance:Deep ByteArray ByteArray:=fV
structure RdW (P:Program) (w:World) (t:TypeId) (α:Type) [Flat α] (φ:α->Prop):Prop where
 cells:P.cellsOf t=Flat.sz α
 rd:∀ {H:Type} (enc:TypeId × Value->H) (base:Nat) (held:Bool) (fuel:Nat) (cs:List Value) (x:DataW H × List MemPlace),
  DataW.trod enc P w base (λ _=>true) held fuel t cs=some x->∃ a:α,cs=Flat.enc a/\φ a
def xE (P:Program) (t:TypeId) (α:Type) {σ:Type} [Flat σ] [Deep α σ] (φ:α->Prop):Prop:=∀ w,RdW P w t σ (λ s=>∃ a:α,Deep.dr w s a/\φ a)
theorem RdT.deep {P:Program} {t:TypeId} {α:Type} [Flat α] [D:Deep α α] {φ:α->Prop} (h:RdT P t α φ) (hD:∀ w (x:α),D.dr w x x):xE P t α φ:=
 λ w=>⟨h.cells,λ enc base held fuel cs x hx=>by
  obtain ⟨a,h1,h2⟩:=h.rd enc w base _ held fuel cs x hx; exact ⟨a,h1,a,hD w a,h2⟩⟩
section
variable {H:Type} {enc:TypeId × Value->H} {P:Program} {w:World} {base:Nat} {held:Bool}
theorem Hy {α:Type} [Flat α] {φ:α->Prop} {t e:TypeId} {fuel:Nat} {cs:List Value} {x:DataW H × List MemPlace} (ht:P.underlying t=some (.slice e)) (hr:RdW P w e α φ)
  (h:DataW.trod enc P w base (λ _=>true) held fuel t cs=some x):∃ v,cs=[v]/\∃ xs:List α,ee (λ b=>b<w.heap.size) w v xs/\∀ x∈xs,φ x:=by
 rcases DataW.trod_slice ht h with ⟨rfl,_⟩ | ⟨a,len,cap,elems,rest,n,_,rfl,_,hb,hl,hm,hlen,hel,G4,_⟩
 ·exact ⟨_,rfl,[],ee.nil _ _,by simp⟩
 refine ⟨_,rfl,?_⟩
 have get:∀ i,i<len->∃ x:α,φ x/\w.cells? base (a.add (i * P.cellsOf e)) (P.cellsOf e)=some (Flat.enc x):=by
  intro i hi
  have h1:=hel i hi
  rw [List.getElem?_eq_getElem (by omega)] at h1
  obtain ⟨cs',h2,h3⟩:=Option.bind_eq_some_iff.1 h1
  obtain ⟨x,rfl,hx⟩:=hr.rd enc base held n cs' _ h3
  exact ⟨x,hx,h2⟩
 obtain ⟨xs,hxl,hxs⟩:=LY len get
 have iU:=hr.cells
 have sL:0<Flat.sz α:=Flat.pos
 have first:∀ (c:Nat) (cs':List Value),w.cells? base (a.add (c * P.cellsOf e)) (P.cellsOf e)=some cs'->c=0->a.spot=none:=by
  intro c cs' h1 h0
  subst h0
  have:=World.cells?_some h1
  have h2:=this.2.2 0 (by rw [iU]; exact sL)
  rw [Nat.zero_mul] at h2
  have h3:w.cell? a=cs'[0]?:=by simpa [Addr.add] using h2
  rw [List.getElem?_eq_getElem (by rw [this.2.1,iU]; exact sL)] at h3
  unfold World.cell? at h3
  split at h3
  ·split at h3
   ·cases h3
   ·rename_i hs; simpa using hs
  ·cases h3
 refine ⟨xs,⟨some a,cap,by rw [hxl],by omega,?_⟩,λ x hx=>?_⟩
 ·by_cases qT:cap=0
  ·exact .inl ⟨List.length_eq_zero_iff.1 (by omega),qT⟩
  right
  have Ea:a.spot=none:=by
   by_cases h0:0<len
   ·obtain ⟨x,_,hx⟩:=get 0 h0
    exact first 0 _ hx rfl
   ·obtain ⟨h1,h2⟩:=G4 rfl
    have h3:=h2 0 (by omega)
    rw [List.getElem?_eq_getElem (by omega)] at h3
    obtain ⟨cs',h4,_⟩:=Option.bind_eq_some_iff.1 h3
    exact first (len+0) _ h4 (by omega)
  have vi:∀ j c,(flat xs)[j]? = some c->Cell w a.block (a.off+j) c:=by
   intro j c hj
   obtain ⟨i,r,x,hx,hcr,rfl⟩:=CA hj
   have h1:=(World.cells?_some (hxs i x hx).2).2.2 r (by rw [iU]; have:=(List.getElem?_eq_some_iff.1 hcr).1; rwa [Flat.len] at this)
   rw [hcr,iU] at h1
   obtain ⟨b,o,s⟩:=a
   simp only at Ea
   subst Ea
   unfold Cell
   rw [<- h1,dG,dG,Nat.add_assoc]
  refine ⟨a.block,a.off,by obtain ⟨b,o,s⟩:=a; simp only at Ea; subst Ea; rfl,λ jV=>?_,vi⟩
  obtain ⟨y,ys,rfl⟩:=List.exists_cons_of_ne_nil jV
  have h0:(flat (y::ys))[0]? = some ((Flat.enc y)[0]'(by rw [Flat.len]; exact sL)):=by
   rw [fT,List.getElem?_append_left (by rw [Flat.len]; exact sL),List.getElem?_eq_getElem]
  exact (vi 0 _ h0).lt
 obtain ⟨i,hi⟩:=List.getElem?_of_mem hx
 exact (hxs i x hi).1
theorem Hz {α σ:Type} [Flat σ] [Deep α σ] {φ:α->Prop}:∀ (ts:List σ),(∀ s∈ts,∃ a:α,Deep.dr w s a/\φ a)->∃ xs:List α,kV ts xs w/\∀ x∈xs,φ x
 | [],_=>⟨[],kV.nil,by simp⟩
 | t::ts,h=>by
  obtain ⟨a,h1,h2⟩:=h t (by simp)
  obtain ⟨xs,h3,h4⟩:=Hz ts λ s hs=>h s (List.mem_cons_of_mem _ hs)
  refine ⟨a::xs,?_,λ x hx=>?_⟩
  ·have:kV ([]++[t]) ([]++[a]) w:=kV.nil.snoc h1
   exact this.append h3
  ·rcases List.mem_cons.1 hx with rfl | hx
   ·exact h2
   ·exact h4 x hx
theorem xE.slice {α σ:Type} [Flat σ] [Deep α σ] {φ:α->Prop} {t e:TypeId} (ht:P.underlying t=some (.slice e)) (hc:P.cellsOf t=1) (hr:xE P e α φ):xE P t (List α) (λ xs=>∀ x∈xs,φ x):=
 λ w=>⟨hc,λ enc base held fuel cs x hx=>by
  obtain ⟨v,rfl,ts,h1,h2⟩:=Hy ht (hr w) hx
  obtain ⟨xs,h3,h4⟩:=Hz ts h2
  have V6:ee (λ _=>True) w v ts:=h1.mono λ _ _=>trivial
  obtain ⟨s,rfl⟩:=V6.iu
  exact ⟨s,rfl,xs,DL.of V6 h3,h4⟩⟩
theorem open_dst {α σ:Type} [Flat σ] [Deep α σ] {φ:α->Prop} {t:TypeId} {fs:Array Field} {r:Reach} {b0:Nat} {v:Value} {d:DataW H} {ps:List MemPlace} (ht:P.underlying t=some (.struct fs)) (ha:Flat.agg σ=true)
  (hr:xE P t α φ) (hval:Value.okWide P w r b0 t v) (hd:DataW.Trod enc P w base (λ _=>true) held t v d ps):∃ (s:σ) (x:α),v=Flat.val s/\Deep.dr w s x/\φ x:=by
 obtain ⟨fuel,hf⟩:=hd
 obtain ⟨s,hs,x,h1,h2⟩:=(hr w).rd enc base held fuel _ _ hf
 unfold Value.okWide at hval
 rw [ht] at hval
 obtain ⟨cs,rfl,_⟩:=hval
 refine ⟨s,x,?_,h1,h2⟩
 rw [Flat.l3 ha,<- hs]
 simp [Value.cells]
end
def kW (x:Int):Int:=IntKind.i64.wrap x
theorem yJ {x:Int} (h : -9223372036854775808<=x/\x<=9223372036854775807):kW x=x:=IntWalk.i64_in _ h
section
variable {P:Program} {T:Nat} {cx cy:Bool} {a b:Int} {K:Value->Prop}
theorem AD (k:K (.int .i64 (kW (a+b)))):dW P (gD .add T cx cy (.int .i64 a) (.int .i64 b)) K:=⟨_,rfl,k⟩
theorem mM (k:K (.int .i64 (kW (a - b)))):dW P (gD .sub T cx cy (.int .i64 a) (.int .i64 b)) K:=⟨_,rfl,k⟩
theorem vj (k:K (.int .i64 (kW (a * b)))):dW P (gD .mul T cx cy (.int .i64 a) (.int .i64 b)) K:=⟨_,rfl,k⟩
theorem HA (k:K (.int .i64 (kW (0 - a)))):dW P (Op.unary .neg (.int .i64 a)) K:=⟨_,rfl,k⟩
theorem vk (h:b≠0) (k:K (.int .i64 (kW (a.tdiv b)))):dW P (gD .quo T cx cy (.int .i64 a) (.int .i64 b)) K:=by
 refine ⟨_,?_,k⟩
 show pr P (Op.intDiv .quo .i64 a b)=_
 unfold Op.intDiv
 rw [if_neg h]; rfl
theorem HC (h:b≠0) (k:K (.int .i64 (a.tmod b))):dW P (gD .rem T cx cy (.int .i64 a) (.int .i64 b)) K:=by
 refine ⟨_,?_,k⟩
 show pr P (Op.intDiv .rem .i64 a b)=_
 unfold Op.intDiv
 rw [if_neg h]; rfl
end
theorem vl {α:Type} [Flat α] {P:Program} {w w0:World} {A:Nat->Prop} {L:List HP} {xs:List α} {T E by':Nat} {z:Option Nat} {v:Value} {i:Int} {K:Value->Prop} (ht:dJ P T=some (E,Flat.sz α,by',z))
  (hs:St w0 A (bR v xs::L) w) (h0:0<=i) (h1:i<=xs.length) (k:∀ v',St w0 A (bR v' (xs.take i.toNat)::L) w->K v'):dW P (Instr.sliceAt T v none (some (.int .i64 i)) none) K:=by
 obtain ⟨a,cap,hv,wV,_⟩:=hs.jo
 refine ⟨_,(by rw [hv]; exact yA ht (pa (.inl ⟨rfl,rfl⟩) (.inr ⟨i,rfl,h0,rfl⟩) (Nat.zero_le _) (by omega))),k _ ?_⟩
 refine hs.sJ λ F hF=>?_
 rcases hF with ⟨hv0,hx,gT⟩ | ⟨b,Ah,rest,pB,hb,hl,hF⟩
 ·rw [hv0] at hv
  subst hx
  simp only [Value.slice.injEq] at hv
  obtain ⟨rfl,_,rfl⟩:=hv
  have hi:i.toNat=0:=by simp at h1; omega
  refine ⟨F,.inl ⟨?_,by simp,gT⟩,λ b hb=>.inl hb,kj.refl _ _⟩
  rw [hi]; rfl
 rw [pB] at hv
 simp only [Value.slice.injEq] at hv
 obtain ⟨rfl,_,rfl⟩:=hv
 refine ⟨F,.inr ⟨b,Ah,flat (xs.drop i.toNat)++rest,?_,?_,?_,hF⟩,λ b hb=>.inl hb,kj.refl _ _⟩
 ·have NS:(xs.take i.toNat).length=i.toNat:=by rw [List.length_take]; omega
  rw [NS]
  simp [dG]
 ·rw [<- List.append_assoc,<- ic,List.take_append_drop]; exact hb
 rw [<- List.append_assoc,<- ic,List.take_append_drop]; exact hl
section
variable {P:Program} {w w':World} {v:Value}
theorem DL.flat {α:Type} [Flat α] [D:Deep α α] {xs:List α} (h:DL w v xs) (hD:∀ w s x,D.dr w s x↔s=x:=by intros; exact Iff.rfl):ee (λ _=>True) w v xs:=by
 obtain ⟨ts,h1,h2⟩:=h.open
 rw [(xD hD).1 h2] at h1; exact h1
theorem DL.ml {α:Type} [Flat α] [D:Deep α α] {xs:List α} (h:ee (λ _=>True) w v xs) (hD:∀ w s x,D.dr w s x↔s=x:=by intros; exact Iff.rfl):DL w v xs:=DL.of h ((xD hD).2 rfl)
theorem HD {α:Type} [Flat α] {S:Nat->Prop} {xs:List α} {T E by':Nat} {z:Option Nat} {lo hi:Option Value} {l h:Nat} {K:Value->Prop} (ht:dJ P T=some (E,Flat.sz α,by',z)) (hr:ee S w v xs)
  (hl:lo=none/\l=0\/∃ i:Int,lo=some (.int .i64 i)/\0<=i/\l=i.toNat) (hh:hi=none/\h=xs.length\/∃ i:Int,hi=some (.int .i64 i)/\0<=i/\h=i.toNat)
  (h1:l<=h) (h2:h<=xs.length) (k:∀ v',(∀ w',ee S w' v xs->ee S w' v' ((xs.take h).drop l))->K v'):dW P (Instr.sliceAt T v lo hi none) K:=by
 obtain ⟨a,cap,rfl,wV,h3⟩:=hr
 exact ⟨_,yA ht (pa hl hh h1 (by omega)),k _ λ w' hw=>hw.cut rfl h1 h2⟩
theorem Fo {α:Type} [Flat α] {S:Nat->Prop} {xs:List α} {T E by':Nat} {z:Option Nat} {i j:Int} {K:Value->Prop} (ht:dJ P T=some (E,Flat.sz α,by',z)) (hr:ee S w v xs)
  (h0:0<=i) (h1:i<=j) (h2:j<=xs.length) (k:∀ v',(∀ w',ee S w' v xs->ee S w' v' ((xs.take j.toNat).drop i.toNat))->K v'):dW P (Instr.sliceAt T v (some (.int .i64 i)) (some (.int .i64 j)) none) K:=
 HD ht hr (.inr ⟨i,rfl,h0,rfl⟩) (.inr ⟨j,rfl,by omega,rfl⟩) (by omega) (by omega) k
theorem DL.cut {α σ:Type} [Flat σ] [Deep α σ] {xs:List α} {ts:List σ} {v':Value} {l h:Nat} (hq:∀ w',ee (λ _=>True) w' v ts->ee (λ _=>True) w' v' ((ts.take h).drop l)) (hR:ee (λ _=>True) w v ts) (hD:kV ts xs w):DL w v' ((xs.take h).drop l):=
 DL.of (hq w hR) ((hD.take h).drop l)
theorem vm {a b:ByteArray}:(a.toList == b.toList)=decide (a=b):=by
 rw [ByteArray.toList_eq,ByteArray.toList_eq,Bool.eq_iff_iff,beq_iff_eq,decide_eq_true_eq]
 constructor
 ·intro h
  obtain ⟨a⟩:=a
  obtain ⟨b⟩:=b
  simp only [ByteArray.mk.injEq]
  exact Array.toList_inj.1 h
 rintro rfl; rfl
end
def wN (s:ByteArray):List UInt8:=s.data.toList
theorem eI (s:ByteArray):(wN s).length=s.size:=by unfold wN; rw [Array.length_toList]; rfl
theorem LZ (s:ByteArray) (i:Nat):(wN s)[i]? = if h:i<s.size then some (s[i]'h) else none:=by
 unfold wN
 by_cases h:i<s.size
 ·rw [dif_pos h,Array.getElem?_toList]
  exact Array.getElem?_eq_getElem h
 rw [dif_neg h,List.getElem?_eq_none]
 rw [Array.length_toList]; exact Nat.le_of_not_lt h
section
variable {P:Program} {T R:Nat} {cx cy:Bool} {a b:Int} {K:Value->Prop}
theorem HE {s:ByteArray} (hT:P.underlying T=some .string) (k:K (.int .i64 (s.size:Int))):dW P (Builtin.len_ #[T] R [Value.string s].toArray) K:=by
 refine ⟨_,?_,k⟩
 show pr P (do
  match <- underlying T,Value.string s with
  | .string,.string s=>pure (goInt s.size)
  | .array n _,_=>pure (goInt n)
  | .pointer arr,_=>
   let .array n _ <- underlying arr | stuck "len: pointer to array expected"
   pure (goInt n)
  | .slice _,.slice _ n _=>pure (goInt n)
  | .map _ _,.map none | .chan _ _,.chan none=>pure (goInt 0)
  | .map _ _,.map (some r)=>
   let .map entries _ <- getObj r | stuck "len: map expected"
   pure (goInt entries.size)
  | .chan _ _,.chan (some r)=>
   let .chan _ buf _ _ _ timer <- getObj r | stuck "len: channel expected"
   pure (goInt (if timer then 0 else buf.size))
  | _, _ => stuck "len: string, array, pointer to array, slice, map or channel expected") = _
 rw [aU,aS hT]; rfl
theorem HF (k:K (.bool (decide (a=b)))):dW P (gD .eql T cx cy (.int .u8 a) (.int .u8 b)) K:=⟨_,rfl,k⟩
end
def iZ {α σ:Type} [Flat σ] [Deep α σ] (v:Value) (xs:List α):HP:=ui λ ts:List σ=>sep (bR v ts) (fU (kV ts xs))
section
variable {P:Program} {α σ:Type} [Flat σ] [D:Deep α σ] {w w' w0:World} {v src:Value} {A:Nat->Prop} {L:List HP} {xs ys:List α}
theorem St.HG (hs:St w0 A (iZ v xs::L) w):∃ ts:List σ,St w0 A (bR v ts::Fw.fU (kV ts xs)::L) w:=by
 obtain ⟨ts,h⟩:=hs.gK; exact ⟨ts,h.split⟩
theorem St.AE {ts:List σ} (hs:St w0 A (bR v ts::Fw.fU (kV ts xs)::L) w):St w0 A (iZ v xs::L) w:=
 St.fO (H:=λ ts:List σ=>sep (bR v ts) (Fw.fU (kV ts xs))) ts (St.join hs)
theorem St.V7 {ts:List σ} (hs:St w0 A (bR v ts::Fw.fU (kV ts xs)::L) w):ts.length=xs.length:=(hs.p1.fU).1
theorem St.Fp (hs:St w0 A L w):St w0 A (iZ (.slice none 0 0) ([]:List α)::L) w:=
 St.AE (ts:=[]) ((hs.qk λ _=>kV.nil).fF)
theorem St.acq (hs:St w0 A (bR v ([]:List σ)::L) w):St w0 A (iZ v ([]:List α)::L) w:=
 St.AE (ts:=[]) (hs.qk (Φ:=kV ([]:List σ) ([]:List α)) λ _=>kV.nil).p1
theorem St.acr {s:σ} {x:α} (hs:St w0 A (bR v [s]::Fw.fU (λ w=>Deep.dr w s x)::L) w):St w0 A (iZ v [x]::L) w:=by
 refine St.AE (ts:=[s]) ?_
 refine ((hs.p1.jz (Ψ:=kV [s] [x]) λ w h=>?_)).p1
 exact (kV.nil (w:=w)).snoc h
theorem St.acs {ts us:List σ} (hs:St w0 A (bR v (ts++us)::Fw.fU (kV ts xs)::Fw.fU (kV us ys)::L) w):St w0 A (iZ v (xs++ys)::L) w:=by
 have h1:=(hs.p1:St w0 A (Fw.fU (kV ts xs)::bR v (ts++us)::Fw.fU (kV us ys)::L) w)
 have h2:=h1.p2.p1
 refine St.AE (ts:=ts++us) ?_
 exact ((h2.gU).jz (Ψ:=kV (ts++us) (xs++ys)) λ w h=>h.1.append h.2).p1
theorem St.pj (hs:St w0 A (iZ v xs::L) w):St w0 A (Fw.fU (λ w=>DL w v xs)::L) w:=by
 obtain ⟨ts,h⟩:=hs.HG
 exact (h.freeze.gU).jz λ w h=>DL.of h.1 h.2
theorem St.dl (hs:St w0 A (iZ v xs::L) w):DL w v xs:=hs.pj.fU
theorem St.Eb (hs:St w0 A (iZ v xs::L) w):∃ s:SV,v=Flat.val s:=hs.dl.iu
theorem St.enc {b:Nat} {cs cs':List Value} (hs:St w0 A (cZ b cs::L) w) (h:cs=cs'):St w0 A (cZ b cs'::L) w:=h▸hs
theorem AF {T E by':Nat} {K:Value->World->Prop} (hs:St w0 A L w) (ht:Q0 P T E (Flat.sz σ) by') (k:∀ v w',St w0 A (iZ v ([]:List α)::L) w'->K v w'):ji P (Instr.buildSlice T 0 ([]:List (Nat × Value)).toArray) w K:=
 cM ([]:List σ) hs ht rfl rfl (by simp) λ v w' h=>k v w' h.acq
theorem gF {T E by':Nat} {s:σ} {x:α} {K:Value->World->Prop} (hs:St w0 A (Fw.fU (λ w=>Deep.dr w s x)::L) w) (ht:Q0 P T E (Flat.sz σ) by') (hz:Flat.sz σ<=64) (k:∀ v w',St w0 A (iZ v [x]::L) w'->K v w') :
  ji P (Instr.buildSlice T 1 [(0,Flat.val s)].toArray) w K:=
 cM [s] hs ht rfl rfl (by simp; omega) λ v w' h=>k v w' h.acr
theorem gG {T E by' R:Nat} {K:Value->World->Prop} (hs:St w0 A (iZ v xs::iZ src ys::L) w) (ht:Q0 P T E (Flat.sz σ) by')
  (hn:xs.length+ys.length<=1073741824) (Q1:by'<=8192) (k:∀ v' w',St w0 A (iZ v' (xs++ys)::L) w'->K v' w'):ji P (Builtin.append_ #[T,T] R [v,src].toArray) w K:=by
 obtain ⟨us,h1⟩:=hs.p1.HG
 obtain ⟨ts,h2⟩:=h1.p2.HG
 have e1:=h1.V7
 have e2:=h2.V7
 refine cN h2 ht h2.p2.jo (by omega) Q1 λ v' w' h=>k v' w' ?_
 exact (h.p2.drop).acs
theorem ry {β:Type} [Flat β] {T:Nat} {b o:Nat} {cs:List Value} (x:β) (ht:bY P T=some (Flat.agg β,Flat.sz β)) (hb:ow w b cs) (hx:(cs.drop o).take (Flat.sz β)=Flat.enc x) :
  (Instr.loadAt T (.pointer (some ⟨b,o,none⟩))).run P w = .ok (Flat.val x) w:=by
 refine eE (S:=λ _=>True) ht ⟨b,o,rfl,trivial,λ j c hj=>hb.cell ?_⟩
 rw [<- hx,List.getElem?_take] at hj
 split at hj
 ·rw [List.getElem?_drop] at hj; exact hj
 cases hj
end
instance:Flat UInt8 where
 agg:=false
 sz:=1
 enc b:=[.int .u8 b.toNat]
 val b:=.int .u8 b.toNat
 pos:=by decide
 len _:=rfl
 one a v h:=by rw [List.mem_singleton.1 h]; rfl
 l3 h:=by cases h
 l4 _ _:=rfl
instance:Deep UInt8 UInt8:=fV
theorem L4 (l:List UInt8):flat l=l.map λ b=>Value.int .u8 b.toNat:=by
 induction l with
 | nil=>rfl
 | cons x l ih=>rw [fT,ih]; rfl
theorem eT {P:Program} {w w0:World} {A:Nat->Prop} {L:List HP} {src dst e:TypeId} {s:ByteArray} {u:TypeDesc} {K:Value->World->Prop} (hs:St w0 A L w) (h1:P.underlying src=some u) (h2:P.underlying dst=some (.slice e)) (h3:P.underlying e=some (.int .u8))
  (k:∀ v w',St w0 A (Fw.fU (λ w=>ee (λ _=>True) w v (wN s))::L) w'->K v w'):ji P (convert src dst (.string s)) w K:=by
 refine ⟨_,_,Go.Lib.run_convert_string_bytes w src dst e s h1 h2 h3,k _ _ ?_⟩
 have he:Ext w (Go.Lib.bytesWorld w e s):=by
  refine ⟨?_,?_,?_,by rw [Go.Lib.bytesWorld_size]; omega,λ b hb _=>Go.Lib.bytesWorld_at_old w e s b hb⟩
  all_goals simp [Go.Lib.bytesWorld,World.freeze,World.alloc,World.drew,-World.alloc_eq,-World.drew_eq]
 refine hs.new he (F:=λ b=>b=w.heap.size) ⟨λ w' hw=>?_,λ b hb=>by rw [hb,Go.Lib.bytesWorld_size]; omega⟩ λ b hb=>by rw [hb]; exact Nat.le_refl _
 have iU:(wN s).length=s.size:=eI s
 refine ⟨some ⟨w.heap.size,0,none⟩,grownCap w s.size 0 e,by rw [iU],by rw [iU]; exact grownCap_ge w s.size 0 e,.inr ⟨w.heap.size,0,rfl,λ _=>trivial,λ j c hj=>?_⟩⟩
 rw [L4,List.getElem?_map] at hj
 obtain ⟨b,hb,rfl⟩:=Option.map_eq_some_iff.1 hj
 have fS:j<s.size:=by rw [<- iU]; exact (List.getElem?_eq_some_iff.1 hb).1
 have h0:=hw w.heap.size rfl
 have vi:=Go.Lib.bytesWorld_cell w e s j fS
 have e2:s.data.toList.getD j 0=b:=by
  rw [List.getD_eq_getElem?_getD]
  have:s.data.toList[j]? = some b:=hb
  rw [this]; rfl
 rw [e2] at vi
 unfold Cell
 rw [Nat.zero_add]
 unfold World.cell? at vi |-
 dsimp only at vi |-
 rw [h0]; exact vi
def nJ {α σ:Type} [Flat σ] [Deep α σ] (P:Program) (w:World) (f:Value) (φ:α->Prop) (g:α->Bool):Prop:=∃ g0 first cap,f = .func (.func g0) (List.toArray first) (List.toArray cap)/\Plain P g0/\
 ∀ (s:σ) (x:α) w1,Ext w w1->Deep.dr w1 s x->φ x->Calls P g0 (first++[Flat.val s]++cap).toArray w1 (mE λ v w2=>v = .bool (g x)/\Ext w1 w2)
theorem nJ.ext {α σ:Type} [Flat σ] [Deep α σ] {P:Program} {w w':World} {f:Value} {φ:α->Prop} {g:α->Bool} (h:nJ P w f φ g) (e:Ext w w'):nJ P w' f φ g:=by
 obtain ⟨g0,first,cap,h1,h2,h3⟩:=h; exact ⟨g0,first,cap,h1,h2,λ s x w1 e1=>h3 s x w1 (e.trans e1)⟩
theorem sN {α:Type} [Flat α] {P:Program} {S:Nat->Prop} {w:World} {T E:TypeId} {cx cy:Bool} {v:Value} {xs:List α} {K:Value->Prop} (h:P.underlying T=some (.slice E)) (hr:ee S w v xs) (k:∀ p:Bool,(p=true->xs=[])->K (.bool p)) :
  dW P (gD .eql T cx cy v (.slice none 0 0)) K:=by
 obtain ⟨a,cap,rfl,_,h3⟩:=hr
 have key:pr P (Op.equal T (.slice a xs.length cap) (.slice none 0 0))=some a.isNone:=by
  show pr P (Op.equalIn 10000 T (.slice a xs.length cap) (.slice none 0 0))=_
  unfold Op.equalIn
  rw [aU,aS h]
  cases a <;> rfl
 refine ⟨_,?_,k a.isNone λ ha=>?_⟩
 ·show pr P (do pure (Value.bool (<- Op.equal T (.slice a xs.length cap) (.slice none 0 0))))=_
  rw [kP,key]; rfl
 rcases h3 with h3 | ⟨b,o,rfl,_⟩
 ·exact h3.1
 cases ha
theorem St.V8 {α:Type} [Flat α] {w w0:World} {A:Nat->Prop} {L:List HP} {v:Value} {xs ys:List α} (hs:St w0 A (bR v xs::L) w) (h:xs=ys):St w0 A (bR v ys::L) w:=h▸hs
theorem HH {α β:Type} [Flat α] [Flat β] {P:Program} {w w0:World} {A:Nat->Prop} {L:List HP} {xs:List α} {T:Nat} {v p:Value} {i off:Nat} {x:α} (y:β) (hs:St w0 A (bR v xs::L) w) (ht:bY P T=some (Flat.agg β,Flat.sz β)) (hp:yH α v i off p) (hx:xs[i]? = some x)
  (hy:((Flat.enc x).drop off).take (Flat.sz β)=Flat.enc y):(Instr.loadAt T p).run P w = .ok (Flat.val y) w:=by
 obtain ⟨v,h1,h2⟩:=(vh (K:=λ v=>v=Flat.val y) y hs ht hp hx hy rfl).ex
 rw [<- h2]; exact h1
structure Ptr where
 b:Nat
deriving DecidableEq
instance:Flat Ptr where
 agg:=false
 sz:=1
 enc p:=[.pointer (some ⟨p.b,0,none⟩)]
 val p:=.pointer (some ⟨p.b,0,none⟩)
 pos:=by decide
 len _:=rfl
 one a v h:=by rw [List.mem_singleton.1 h]; rfl
 l3 h:=by cases h
 l4 _ _:=rfl
instance:Deep Ptr Ptr:=fV
def gk {α κ:Type} (H:κ->α->HP):List κ->List α->HP
 | [],[]=>emp
 | p::ps,x::xs=>sep (H p x) (gk H ps xs)
 | _,_=>fact False emp
section
variable {P:Program} {α κ:Type} {H:κ->α->HP} {A:Nat->Prop} {w0 w:World} {L:List HP}
theorem sO:∀ {ps:List κ} {xs:List α} {F:Nat->Prop},(gk H ps xs).p w F->ps.length=xs.length
 | [],[],_,_=>rfl
 | s::ss,x::xs,F,h=>by
  obtain ⟨F1,F2,_,h2,_,_⟩:=h
  rw [List.length_cons,List.length_cons,sO h2]
 | [],_::_,_,h=>h.1.elim
 | _::_,[],_,h=>h.1.elim
theorem St.mN {ps:List κ} {xs:List α} (hs:St w0 A (gk H ps xs::L) w):ps.length=xs.length:=by
 obtain ⟨F,h,_⟩:=hs.head; exact sO h
theorem St.AG (hs:St w0 A L w):St w0 A (gk H [] []::L) w:=hs.new (Ext.refl w) (F:=aZ) (λ _ h=>h) λ _ h=>h.elim
def HI (H:κ->α->HP) (ps:List κ) (xs:List α) (i:Nat):HP:=sep (gk H (ps.take i) (xs.take i)) (gk H (ps.drop (i+1)) (xs.drop (i+1)))
theorem tA:∀ {ps:List κ} {xs:List α} {i:Nat} {p:κ} {x:α} {F:Nat->Prop},(gk H ps xs).p w F->ps[i]? = some p->xs[i]? = some x->(sep (H p x) (HI H ps xs i)).p w F
 | p'::ps,x'::xs,0,p,x,F,h,hp,hx=>by
  rw [List.getElem?_cons_zero] at hp hx
  obtain rfl:=Option.some.inj hp
  obtain rfl:=Option.some.inj hx
  obtain ⟨F1,F2,h1,h2,h3,h4⟩:=h
  exact ⟨F1,F2,h1,⟨aZ,F2,λ _ h=>h,h2,λ _ h=>h.elim,λ b=>⟨.inr,λ h=>h.elim (λ h=>h.elim) id⟩⟩,h3,h4⟩
 | p'::ps,x'::xs,i+1,p,x,F,h,hp,hx=>by
  rw [List.getElem?_cons_succ] at hp hx
  obtain ⟨F1,F2,h1,h2,h3,h4⟩:=h
  obtain ⟨G1,G2,g1,⟨K1,K2,k1,k2,k3,k4⟩,g3,g4⟩:=tA h2 hp hx
  refine ⟨G1,λ b=>F1 b\/G2 b,g1,⟨λ b=>F1 b\/K1 b,K2,⟨F1,K1,h1,k1,λ b hb hk=>h3 b hb ((g4 b).2 (.inr ((k4 b).2 (.inl hk)))),λ b=>Iff.rfl⟩,k2,?_,?_⟩,?_,?_⟩
  ·rintro b (hb | hb) hk
   ·exact h3 b hb ((g4 b).2 (.inr ((k4 b).2 (.inr hk))))
   ·exact k3 b hb hk
  ·intro b; show F1 b\/G2 b↔(F1 b\/K1 b)\/K2 b; rw [k4 b,or_assoc]
  ·rintro b hb (hf | hf)
   ·exact h3 b hf ((g4 b).2 (.inl hb))
   ·exact g3 b hb hf
  ·intro b; rw [h4 b,g4 b]; constructor
   ·rintro (h | h | h)
    ·exact .inr (.inl h)
    ·exact .inl h
    ·exact .inr (.inr h)
   ·rintro (h | h | h)
    ·exact .inr (.inl h)
    ·exact .inl h
    ·exact .inr (.inr h)
 | [],[],_,_,_,_,_,hp,_=>by simp at hp
 | [],_::_,_,_,_,_,h,_,_=>h.1.elim
 | _::_,[],_,_,_,_,h,_,_=>h.1.elim
theorem St.focus {ps:List κ} {xs:List α} {i:Nat} {p:κ} {x:α} (hs:St w0 A (gk H ps xs::L) w) (hp:ps[i]? = some p) (hx:xs[i]? = some x):St w0 A (H p x::HI H ps xs i::L) w:=
 (hs.sJ (H':=sep (H p x) (HI H ps xs i)) λ F hF=>⟨F,tA hF hp hx,λ b hb=>.inl hb,kj.refl _ _⟩).split
theorem vn:∀ {ps:List κ} {xs:List α} {p:κ} {x:α} {F1 F2 F:Nat->Prop},(gk H ps xs).p w F1->(H p x).p w F2->(∀ b,F1 b->¬ F2 b)->(∀ b,F b↔F1 b\/F2 b)->(gk H (ps++[p]) (xs++[x])).p w F
 | [],[],p,x,F1,F2,F,h1,h2,_,h4=>⟨F2,F1,h2,h1,λ b _ L5=>h1 b L5,λ b=>by rw [h4 b]; exact ⟨λ h=>h.symm,λ h=>h.symm⟩⟩
 | s'::ss,x'::xs,p,x,F1,F2,F,h1,h2,h3,h4=>by
  obtain ⟨G1,G2,g1,g2,g3,g4⟩:=h1
  refine ⟨G1,λ b=>G2 b\/F2 b,g1,vn g2 h2 (λ b hb=>h3 b ((g4 b).2 (.inr hb))) (λ b=>Iff.rfl),λ b hb=>?_,λ b=>?_⟩
  ·rintro (hh | hh)
   ·exact g3 b hb hh
   ·exact h3 b ((g4 b).2 (.inl hb)) hh
  ·rw [h4 b,g4 b,or_assoc]
 | [],_::_,_,_,_,_,_,h,_,_,_=>h.1.elim
 | _::_,[],_,_,_,_,_,h,_,_,_=>h.1.elim
theorem St.AH {ps:List κ} {xs:List α} {p:κ} {x:α} (hs:St w0 A (gk H ps xs::H p x::L) w):St w0 A (gk H (ps++[p]) (xs++[x])::L) w:=by
 refine (St.join hs).sJ λ F hF=>?_
 obtain ⟨F1,F2,h1,h2,h3,h4⟩:=hF
 exact ⟨F,vn h1 h2 h3 h4,λ b hb=>.inl hb,kj.refl _ _⟩
theorem St.Q7 {ps:List κ} {xs:List α} {i:Nat} {p:κ} {x:α} {Φ:World->Prop} (hs:St w0 A (gk H ps xs::L) w) (hp:ps[i]? = some p) (hx:xs[i]? = some x) (h:∀ {w F},(H p x).p w F->Φ w):Φ w:=by
 obtain ⟨F,hF,_⟩:=(hs.focus hp hx).head; exact h hF
end
end Go.Fw
namespace Go.Proofs.YtnjcingfdhjfkaaGreat
open Go.Fw
@[ext] structure xF where
 name:ByteArray
 n:Int
 at_:Int
deriving DecidableEq
instance:Flat xF where
 agg:=true
 sz:=3
 enc e:=[.string e.name,.int .i64 e.n,.int .i64 e.at_]
 val e:=.agg [.string e.name,.int .i64 e.n,.int .i64 e.at_].toArray
 pos:=by decide
 len _:=rfl
 one a v h:=by simp at h; rcases h with rfl | rfl | rfl <;> rfl
 l3 _ _:=rfl
 l4 h:=by cases h
instance:Deep xF xF:=fV
@[ext] structure nK where
 op:Int
 n:Int
 name:ByteArray
 at_:Int
deriving DecidableEq
instance:Flat nK where
 agg:=true
 sz:=4
 enc e:=[.int .i64 e.op,.int .i64 e.n,.string e.name,.int .i64 e.at_]
 val e:=.agg [.int .i64 e.op,.int .i64 e.n,.string e.name,.int .i64 e.at_].toArray
 pos:=by decide
 len _:=rfl
 one a v h:=by simp at h; rcases h with rfl | rfl | rfl | rfl <;> rfl
 l3 _ _:=rfl
 l4 h:=by cases h
instance:Deep nK nK:=fV
structure pT where
 kind:Int
 Q8:ByteArray
 name:ByteArray
 e:(List nK)
 f:(List nK)
 n:Int
 body:Int
 V9:Int
 at_:Int
deriving DecidableEq
structure yK where
 name:ByteArray
 aG:(List ByteArray)
 body:(List pT)
 at_:Int
deriving DecidableEq
structure Q9 where
 e:(List nK)
 at_:Int
deriving DecidableEq
structure Ec where
 lines:(List (List xF))
 Ra:(List xF)
 locks:(List xF)
 threads:(List yK)
 recover:(List yK)
 bU:(List Q9)
deriving DecidableEq
@[ext] structure gC where
 kind:Int
 n:Int
deriving DecidableEq
instance:Flat gC where
 agg:=true
 sz:=2
 enc e:=[.int .i64 e.kind,.int .i64 e.n]
 val e:=.agg [.int .i64 e.kind,.int .i64 e.n].toArray
 pos:=by decide
 len _:=rfl
 one a v h:=by simp at h; rcases h with rfl | rfl <;> rfl
 l3 _ _:=rfl
 l4 h:=by cases h
instance:Deep gC gC:=fV
def xG (x:gC):Prop:=eD x.kind/\eD x.n
structure aV where
 kind:Int
 a:Int
 b:Int
 e:(List gC)
 f:(List gC)
 to:Int
deriving DecidableEq
structure aX where
 kind:Int
 a:Int
 b:Int
 e:SV
 f:SV
 to:Int
instance:Flat aX where
 agg:=true
 sz:=6
 enc e:=[.int .i64 e.kind,.int .i64 e.a,.int .i64 e.b,.slice e.e.a e.e.n e.e.cap,.slice e.f.a e.f.n e.f.cap,.int .i64 e.to]
 val e:=.agg [.int .i64 e.kind,.int .i64 e.a,.int .i64 e.b,.slice e.e.a e.e.n e.e.cap,.slice e.f.a e.f.n e.f.cap,.int .i64 e.to].toArray
 pos:=by decide
 len _:=rfl
 one a v h:=by simp at h; rcases h with rfl | rfl | rfl | rfl | rfl | rfl <;> rfl
 l3 _ _:=rfl
 l4 h:=by cases h
instance:Deep aV aX where
 dr w s x:=∃ (e_:SV) (f_:SV),s=(⟨x.kind,x.a,x.b,e_,f_,x.to⟩:aX)/\DL w (Flat.val e_) x.e/\DL w (Flat.val f_) x.f
 ext h e:=by
  obtain ⟨g0,g1,rfl,h0,h1⟩:=h
  exact ⟨g0,g1,rfl,h0.ext e,h1.ext e⟩
def vo (x:aV):Prop:=eD x.kind/\eD x.a/\eD x.b/\(∀ y∈x.e,xG y)/\(∀ y∈x.f,xG y)/\eD x.to
structure dK where
 aG:Int
 counts:Int
 l:(List aV)
deriving DecidableEq
structure aT where
 aG:Int
 counts:Int
 l:SV
instance:Flat aT where
 agg:=true
 sz:=3
 enc e:=[.int .i64 e.aG,.int .i64 e.counts,.slice e.l.a e.l.n e.l.cap]
 val e:=.agg [.int .i64 e.aG,.int .i64 e.counts,.slice e.l.a e.l.n e.l.cap].toArray
 pos:=by decide
 len _:=rfl
 one a v h:=by simp at h; rcases h with rfl | rfl | rfl <;> rfl
 l3 _ _:=rfl
 l4 h:=by cases h
instance:Deep dK aT where
 dr w s x:=∃ (l_:SV),s=(⟨x.aG,x.counts,l_⟩:aT)/\DL w (Flat.val l_) x.l
 ext h e:=by
  obtain ⟨g0,rfl,h0⟩:=h
  exact ⟨g0,rfl,h0.ext e⟩
def um (x:dK):Prop:=eD x.aG/\eD x.counts/\(∀ y∈x.l,vo y)
structure eh where
 lines:(List Int)
 stays:Int
 bP:(List Int)
 locks:Int
 threads:(List dK)
 recover:dK
 bU:(List (List gC))
deriving DecidableEq
structure bV where
 lines:SV
 stays:Int
 bP:SV
 locks:Int
 threads:SV
 recover:aT
 bU:SV
instance:Flat bV where
 agg:=true
 sz:=9
 enc e:=[.slice e.lines.a e.lines.n e.lines.cap,.int .i64 e.stays,.slice e.bP.a e.bP.n e.bP.cap,.int .i64 e.locks,.slice e.threads.a e.threads.n e.threads.cap,.int .i64 e.recover.aG,.int .i64 e.recover.counts,.slice e.recover.l.a e.recover.l.n e.recover.l.cap,.slice e.bU.a e.bU.n e.bU.cap]
 val e:=.agg [.slice e.lines.a e.lines.n e.lines.cap,.int .i64 e.stays,.slice e.bP.a e.bP.n e.bP.cap,.int .i64 e.locks,.slice e.threads.a e.threads.n e.threads.cap,.int .i64 e.recover.aG,.int .i64 e.recover.counts,.slice e.recover.l.a e.recover.l.n e.recover.l.cap,.slice e.bU.a e.bU.n e.bU.cap].toArray
 pos:=by decide
 len _:=rfl
 one a v h:=by simp at h; rcases h with rfl | rfl | rfl | rfl | rfl | rfl | rfl | rfl | rfl <;> rfl
 l3 _ _:=rfl
 l4 h:=by cases h
instance:Deep eh bV where
 dr w s x:=∃ (HJ:SV) (Ed:SV) (AI:SV) (AJ:aT) (Ee:SV),s=(⟨HJ,x.stays,Ed,x.locks,AI,AJ,Ee⟩:bV)/\DL w (Flat.val HJ) x.lines/\DL w (Flat.val Ed) x.bP/\DL w (Flat.val AI) x.threads/\Deep.dr w AJ x.recover/\DL w (Flat.val Ee) x.bU
 ext h e:=by
  obtain ⟨g0,g1,g2,g3,g4,rfl,h0,h1,h2,h3,h4⟩:=h
  exact ⟨g0,g1,g2,g3,g4,rfl,h0.ext e,h1.ext e,h2.ext e,Deep.ext h3 e,h4.ext e⟩
def L6 (x:eh):Prop:=(∀ y∈x.lines,eD y)/\eD x.stays/\(∀ y∈x.bP,eD y)/\eD x.locks/\(∀ y∈x.threads,um y)/\um x.recover/\(∀ y∈x.bU,(λ ys:(List gC)=>∀ y∈ys,xG y) y)
structure iy where
 kind:Int
 t:Int
 i:Int
 cut:(List Int)
deriving DecidableEq
structure lF where
 kind:Int
 t:Int
 i:Int
 cut:SV
instance:Flat lF where
 agg:=true
 sz:=4
 enc e:=[.int .i64 e.kind,.int .i64 e.t,.int .i64 e.i,.slice e.cut.a e.cut.n e.cut.cap]
 val e:=.agg [.int .i64 e.kind,.int .i64 e.t,.int .i64 e.i,.slice e.cut.a e.cut.n e.cut.cap].toArray
 pos:=by decide
 len _:=rfl
 one a v h:=by simp at h; rcases h with rfl | rfl | rfl | rfl <;> rfl
 l3 _ _:=rfl
 l4 h:=by cases h
instance:Deep iy lF where
 dr w s x:=∃ (Wa:SV),s=(⟨x.kind,x.t,x.i,Wa⟩:lF)/\DL w (Flat.val Wa) x.cut
 ext h e:=by
  obtain ⟨g0,rfl,h0⟩:=h
  exact ⟨g0,rfl,h0.ext e⟩
@[ext] structure dC where
 eP:Int
 fault:Int
 t:Int
 done:Bool
 stuck:Bool
deriving DecidableEq
instance:Flat dC where
 agg:=true
 sz:=5
 enc e:=[.int .i64 e.eP,.int .i64 e.fault,.int .i64 e.t,.bool e.done,.bool e.stuck]
 val e:=.agg [.int .i64 e.eP,.int .i64 e.fault,.int .i64 e.t,.bool e.done,.bool e.stuck].toArray
 pos:=by decide
 len _:=rfl
 one a v h:=by simp at h; rcases h with rfl | rfl | rfl | rfl | rfl <;> rfl
 l3 _ _:=rfl
 l4 h:=by cases h
instance:Deep dC dC:=fV
@[ext] structure cG where
 kind:Int
 line:Int
 cell:Int
 n:Int
deriving DecidableEq
instance:Flat cG where
 agg:=true
 sz:=4
 enc e:=[.int .i64 e.kind,.int .i64 e.line,.int .i64 e.cell,.int .i64 e.n]
 val e:=.agg [.int .i64 e.kind,.int .i64 e.line,.int .i64 e.cell,.int .i64 e.n].toArray
 pos:=by decide
 len _:=rfl
 one a v h:=by simp at h; rcases h with rfl | rfl | rfl | rfl <;> rfl
 l3 _ _:=rfl
 l4 h:=by cases h
instance:Deep cG cG:=fV
@[ext] structure yL where
 line:Int
 cell:Int
 n:Int
deriving DecidableEq
instance:Flat yL where
 agg:=true
 sz:=3
 enc e:=[.int .i64 e.line,.int .i64 e.cell,.int .i64 e.n]
 val e:=.agg [.int .i64 e.line,.int .i64 e.cell,.int .i64 e.n].toArray
 pos:=by decide
 len _:=rfl
 one a v h:=by simp at h; rcases h with rfl | rfl | rfl <;> rfl
 l3 _ _:=rfl
 l4 h:=by cases h
instance:Deep yL yL:=fV
@[ext] structure vp where
 cell:Int
 n:Int
deriving DecidableEq
instance:Flat vp where
 agg:=true
 sz:=2
 enc e:=[.int .i64 e.cell,.int .i64 e.n]
 val e:=.agg [.int .i64 e.cell,.int .i64 e.n].toArray
 pos:=by decide
 len _:=rfl
 one a v h:=by simp at h; rcases h with rfl | rfl <;> rfl
 l3 _ _:=rfl
 l4 h:=by cases h
instance:Deep vp vp:=fV
structure Ef where
 of:SV
 bP:SV
 l:SV
 k:SV
 w:SV
instance:Flat Ef where
 agg:=true
 sz:=5
 enc e:=[.slice e.of.a e.of.n e.of.cap,.slice e.bP.a e.bP.n e.bP.cap,.slice e.l.a e.l.n e.l.cap,.slice e.k.a e.k.n e.k.cap,.slice e.w.a e.w.n e.w.cap]
 val e:=.agg [.slice e.of.a e.of.n e.of.cap,.slice e.bP.a e.bP.n e.bP.cap,.slice e.l.a e.l.n e.l.cap,.slice e.k.a e.k.n e.k.cap,.slice e.w.a e.w.n e.w.cap].toArray
 pos:=by decide
 len _:=rfl
 one a v h:=by simp at h; rcases h with rfl | rfl | rfl | rfl | rfl <;> rfl
 l3 _ _:=rfl
 l4 h:=by cases h
def CB (p:Bool):Int:=if p then 1 else 0
def vq (a b:Int):Int:=kW (a.tdiv b)
def pE (op a:Int):Int:=if op=3 then kW (0 - a) else if op=4 then CB (decide (a=0)) else 0
def AK (op:Int):Int:=if op=3\/op=4 then 0 else 1
def gQ (op a b:Int):Int:=
 if op=5 then kW (a+b) else if op=6 then kW (a - b) else if op=7 then kW (a * b) else if op=8 then vq a b else if op=9 then a.tmod b
 else if op=10 then CB (decide (a=b)) else if op=11 then CB (decide (¬ a=b)) else if op=12 then CB (decide (a<b)) else if op=13 then CB (decide (a<=b))
 else if op=14 then CB (decide (¬ a=0) && decide (¬ b=0)) else if op=15 then CB (decide (¬ a=0) || decide (¬ b=0)) else 0
def eN (op b:Int):Int:=if op<5\/15<op then 1 else if (op=8\/op=9)/\b=0 then 12 else 0
def eL (op a b:Int):Int:=if eN op b=0 then gQ op a b else 0
theorem sP:vq (-9223372036854775808) (-1) = -9223372036854775808:=by decide
theorem L7 {a b:Int} (ha : -9223372036854775808<=a/\a<=9223372036854775807) (hb : -9223372036854775808<=b/\b<=9223372036854775807) (h0:b≠0):kW (a - kW (b * vq a b))=a.tmod b:=by
 have h1:=Int.mul_tdiv_add_tmod a b
 by_cases hc:a = -9223372036854775808/\b = -1
 ·obtain ⟨rfl,rfl⟩:=hc
  decide
 have hq : -9223372036854775808<=a.tdiv b/\a.tdiv b<=9223372036854775807:=by
  have h2:(a.tdiv b).natAbs<=a.natAbs:=by rw [Int.natAbs_tdiv]; exact Nat.div_le_self _ _
  by_cases hm:a = -9223372036854775808
  ·subst hm
   have L5:b≠-1:=λ h=>hc ⟨rfl,h⟩
   by_cases Wb:b=1
   ·subst Wb; decide
   ·have h3:(Int.tdiv (-9223372036854775808) b).natAbs<=9223372036854775808 / 2:=by
     rw [Int.natAbs_tdiv]
     exact Nat.div_le_div_left (by omega) (by omega)
    omega
  ·omega
 have hr:(a.tmod b).natAbs<b.natAbs:=by rw [Int.natAbs_tmod]; exact Nat.mod_lt _ (by omega)
 unfold vq
 rw [yJ hq]
 have hm:b * a.tdiv b=a - a.tmod b:=by omega
 have hs:(a.tmod b).natAbs<=a.natAbs:=by rw [Int.natAbs_tmod]; exact Nat.mod_le _ _
 have hsg:(0<=a->0<=a.tmod b):=λ h=>Int.tmod_nonneg b h
 have acu:(a<=0->a.tmod b<=0):=λ h=>by
  have:=Int.tmod_nonneg (a:=-a) b (by omega)
  rw [Int.neg_tmod] at this; omega
 have hbd:(-9223372036854775808<=a - a.tmod b/\a - a.tmod b<=9223372036854775807)/\-9223372036854775808<=a.tmod b/\a.tmod b<=9223372036854775807:=by
  rcases Int.le_total 0 a with h | h
  ·have:=hsg h; omega
  ·have:=acu h; omega
 rw [hm,yJ hbd.1,show a - (a - a.tmod b)=a.tmod b from by omega,yJ hbd.2]
theorem C228 (p:Bool) (w:World):CR 228 [.bool p] w (λ v w'=>v = .int .i64 (CB p)/\Ext w w'):=by
 have hs:=St.start w;refine jT Tryz.func228 ?_;refine bD (λ vr=>?_) (λ vr=>?_)
 ·rw [vr];exact ⟨rfl,hs.aD⟩
 rw [vr];exact ⟨rfl,hs.aD⟩
theorem C217 (p:Bool) (w:World):CR 217 [.bool p] w (λ v w'=>v = .int .i64 (CB p)/\Ext w w'):=by
 have hs:=St.start w;refine jT Tryz.func217 ?_;refine bD (λ vr=>?_) (λ vr=>?_)
 ·rw [vr];exact ⟨rfl,hs.aD⟩
 rw [vr];exact ⟨rfl,hs.aD⟩
theorem C218 (a:Int) (w:World):CR 218 [.int .i64 a] w (λ v w'=>v = .bool (decide (¬ a=0))/\Ext w w'):=by
 have hs:=St.start w;refine jT Tryz.func218 ?_;exact bJ ⟨rfl,hs.aD⟩
theorem C229 (a b:Int) (w:World) (h:b≠0):CR 229 [.int .i64 a,.int .i64 b] w (λ v w'=>v = .int .i64 (vq a b)/\Ext w w'):=by
 have hs:=St.start w;refine jT Tryz.func229 ?_;refine ⟨_,?_,λ _ _ h=>h⟩;refine aF (aC (λ pF=>?_) (λ pF=>?_))
 ·refine aF ?_;intro pU;refine aC (λ fM=>?_) (λ fM=>?_)
  ·first | exact ⟨rfl,hs.aD⟩ | (exfalso; simp_all; done) | (rw [pF,fM,sP]; exact ⟨rfl,hs.aD⟩)
  refine vk h ?_
  first | exact ⟨rfl,hs.aD⟩ | (exfalso; simp_all; done) | (rw [pF,fM,sP]; exact ⟨rfl,hs.aD⟩)
 intro pU;refine dN (vk h ?_)
 first | exact ⟨rfl,hs.aD⟩ | (exfalso; simp_all; done) | (rw [pF,fM,sP]; exact ⟨rfl,hs.aD⟩)
theorem C201 (op a:Int) (w:World):CR 201 [.int .i64 op,.int .i64 a] w (λ v w'=>v = .tuple #[.int .i64 (pE op a),.int .i64 (AK op)]/\Ext w w'):=by
 have hs:=St.start w;refine LJ _ _ _ _ ?_;unfold S201;refine aF (aC (λ mn=>?_) (λ mn=>aF (aC (λ ik=>?_) (λ ik=>?_))))
 ·refine mM ?_;unfold pE AK
  first | (rw [if_pos mn,if_pos (.inl mn)]; exact ⟨rfl,hs.aD⟩) | (rw [if_neg mn,if_pos ik,if_pos (.inr ik)]; exact ⟨rfl,hs.aD⟩) | (rw [if_neg mn,if_neg ik,if_neg (by omega)]; exact ⟨rfl,hs.aD⟩)
 ·refine aF (bF qO hs (C228 _ _) (λ _ he hs=>?_));unfold pE AK
  first | (rw [if_pos mn,if_pos (.inl mn)]; exact ⟨rfl,hs.aD⟩) | (rw [if_neg mn,if_pos ik,if_pos (.inr ik)]; exact ⟨rfl,hs.aD⟩) | (rw [if_neg mn,if_neg ik,if_neg (by omega)]; exact ⟨rfl,hs.aD⟩)
 unfold pE AK
 first | (rw [if_pos mn,if_pos (.inl mn)]; exact ⟨rfl,hs.aD⟩) | (rw [if_neg mn,if_pos ik,if_pos (.inr ik)]; exact ⟨rfl,hs.aD⟩) | (rw [if_neg mn,if_neg ik,if_neg (by omega)]; exact ⟨rfl,hs.aD⟩)
theorem C173 (op a:Int) (w:World):CR 173 [.int .i64 op,.int .i64 a] w (λ v w'=>v = .tuple #[.int .i64 (pE op a),.int .i64 (AK op)]/\Ext w w'):=by
 have hs:=St.start w;refine Ly _ _ _ _ ?_;unfold S173;refine aF (aC (λ oG=>?_) (λ oG=>aF (aC (λ iL=>?_) (λ iL=>?_))))
 ·refine HA ?_;unfold pE AK
  first | (rw [if_pos oG,if_pos (.inl oG)]; exact ⟨rfl,hs.aD⟩) | (rw [if_neg oG,if_pos iL,if_pos (.inr iL)]; exact ⟨congrArg (λ p=>Value.tuple #[.int .i64 (CB p),.int .i64 0]) (by simp),hs.aD⟩) | (rw [if_neg oG,if_neg iL,if_neg (by omega)]; exact ⟨rfl,hs.aD⟩)
 ·refine bF Ad hs (C218 _ _) (λ _ he hs=>?_)
  first | refine Af ?_ | refine bO ?_
  refine bF Oc hs (C217 _ _) (λ _ he hs=>?_);unfold pE AK
  first | (rw [if_pos oG,if_pos (.inl oG)]; exact ⟨rfl,hs.aD⟩) | (rw [if_neg oG,if_pos iL,if_pos (.inr iL)]; exact ⟨congrArg (λ p=>Value.tuple #[.int .i64 (CB p),.int .i64 0]) (by simp),hs.aD⟩) | (rw [if_neg oG,if_neg iL,if_neg (by omega)]; exact ⟨rfl,hs.aD⟩)
 unfold pE AK
 first | (rw [if_pos oG,if_pos (.inl oG)]; exact ⟨rfl,hs.aD⟩) | (rw [if_neg oG,if_pos iL,if_pos (.inr iL)]; exact ⟨congrArg (λ p=>Value.tuple #[.int .i64 (CB p),.int .i64 0]) (by simp),hs.aD⟩) | (rw [if_neg oG,if_neg iL,if_neg (by omega)]; exact ⟨rfl,hs.aD⟩)
theorem C202 (op a b:Int) (w:World) (ha:eD a) (hb:eD b):CR 202 [.int .i64 op,.int .i64 a,.int .i64 b] w (λ v w'=>v = .tuple #[.int .i64 (eL op a b),.int .i64 (eN op b)]/\Ext w w'):=by
 have hs:=St.start w;refine LK _ _ _ _ _ ?_;unfold S202;refine aF (aC (λ fM=>?_) (λ fM=>?_))
 ·refine AD ?_
  first | (unfold eL eN; rw [if_pos (show op<5\/15<op by omega)]; exact ⟨rfl,hs.aD⟩) | (subst_vars; first | exact ⟨rfl,hs.aD⟩ | (unfold eL eN gQ; simp_all <;> exact hs.aD))
 refine aF (aC (λ ku=>?_) (λ ku=>aF (aC (λ tB=>?_) (λ tB=>aF (aC (λ gY=>aF (aC (λ HK=>?_) (λ HK=>?_))) (λ gY=>aF (aC (λ nL=>aF (aC (λ mO=>?_) (λ mO=>?_))) (λ nL=>aF (aC (λ xH=>?_) (λ xH=>?_))))))))))
 ·refine mM ?_
  first | (unfold eL eN; rw [if_pos (show op<5\/15<op by omega)]; exact ⟨rfl,hs.aD⟩) | (subst_vars; first | exact ⟨rfl,hs.aD⟩ | (unfold eL eN gQ; simp_all <;> exact hs.aD))
 ·refine vj ?_
  first | (unfold eL eN; rw [if_pos (show op<5\/15<op by omega)]; exact ⟨rfl,hs.aD⟩) | (subst_vars; first | exact ⟨rfl,hs.aD⟩ | (unfold eL eN gQ; simp_all <;> exact hs.aD))
 ·first | (unfold eL eN; rw [if_pos (show op<5\/15<op by omega)]; exact ⟨rfl,hs.aD⟩) | (subst_vars; first | exact ⟨rfl,hs.aD⟩ | (unfold eL eN gQ; simp_all <;> exact hs.aD))
 ·refine bF Od hs (C229 _ _ _ (HK)) (λ _ he hs=>?_)
  first | (unfold eL eN; rw [if_pos (show op<5\/15<op by omega)]; exact ⟨rfl,hs.aD⟩) | (subst_vars; first | exact ⟨rfl,hs.aD⟩ | (unfold eL eN gQ; simp_all <;> exact hs.aD))
 ·first | (unfold eL eN; rw [if_pos (show op<5\/15<op by omega)]; exact ⟨rfl,hs.aD⟩) | (subst_vars; first | exact ⟨rfl,hs.aD⟩ | (unfold eL eN gQ; simp_all <;> exact hs.aD))
 ·refine bF Od hs (C229 _ _ _ (mO)) (λ _ he hs=>vj (mM ?_));rw [L7 ha hb mO]
  first | (unfold eL eN; rw [if_pos (show op<5\/15<op by omega)]; exact ⟨rfl,hs.aD⟩) | (subst_vars; first | exact ⟨rfl,hs.aD⟩ | (unfold eL eN gQ; simp_all <;> exact hs.aD))
 ·refine aF (bF qO hs (C228 _ _) (λ _ he hs=>?_))
  first | (unfold eL eN; rw [if_pos (show op<5\/15<op by omega)]; exact ⟨rfl,hs.aD⟩) | (subst_vars; first | exact ⟨rfl,hs.aD⟩ | (unfold eL eN gQ; simp_all <;> exact hs.aD))
 refine aF (aC (λ lG=>?_) (λ lG=>aF (aC (λ HL=>?_) (λ HL=>aF (aC (λ HM=>?_) (λ HM=>aF (aC (λ rz=>⟨_,bJ (aC (λ HN=>?_) (λ HN=>?_)),λ _ _ _ h=>h⟩) (λ rz=>aF (aC (λ Ol=>⟨_,bJ (aC (λ HO=>?_) (λ HO=>?_)),λ _ _ _ h=>h⟩) (λ Ol=>?_))))))))))
 ·refine bJ (bF qO hs (C228 _ _) (λ _ he hs=>?_))
  first | (unfold eL eN; rw [if_pos (show op<5\/15<op by omega)]; exact ⟨rfl,hs.aD⟩) | (subst_vars; first | exact ⟨rfl,hs.aD⟩ | (unfold eL eN gQ; simp_all <;> exact hs.aD))
 ·refine aN (bF qO hs (C228 _ _) (λ _ he hs=>?_))
  first | (unfold eL eN; rw [if_pos (show op<5\/15<op by omega)]; exact ⟨rfl,hs.aD⟩) | (subst_vars; first | exact ⟨rfl,hs.aD⟩ | (unfold eL eN gQ; simp_all <;> exact hs.aD))
 ·refine fW (bF qO hs (C228 _ _) (λ _ he hs=>?_))
  first | (unfold eL eN; rw [if_pos (show op<5\/15<op by omega)]; exact ⟨rfl,hs.aD⟩) | (subst_vars; first | exact ⟨rfl,hs.aD⟩ | (unfold eL eN gQ; simp_all <;> exact hs.aD))
 ·refine bJ (bF qO hs (C228 _ _) (λ _ he hs=>?_));intro pU
  first | (unfold eL eN; rw [if_pos (show op<5\/15<op by omega)]; exact ⟨rfl,hs.aD⟩) | (subst_vars; first | exact ⟨rfl,hs.aD⟩ | (unfold eL eN gQ; simp_all <;> exact hs.aD))
 ·refine bF qO hs (C228 _ _) (λ _ he hs=>?_);intro pU
  first | (unfold eL eN; rw [if_pos (show op<5\/15<op by omega)]; exact ⟨rfl,hs.aD⟩) | (subst_vars; first | exact ⟨rfl,hs.aD⟩ | (unfold eL eN gQ; simp_all <;> exact hs.aD))
 ·refine bF qO hs (C228 _ _) (λ _ he hs=>?_);intro kD
  first | (unfold eL eN; rw [if_pos (show op<5\/15<op by omega)]; exact ⟨rfl,hs.aD⟩) | (subst_vars; first | exact ⟨rfl,hs.aD⟩ | (unfold eL eN gQ; simp_all <;> exact hs.aD))
 ·refine bJ (bF qO hs (C228 _ _) (λ _ he hs=>?_));intro kD
  first | (unfold eL eN; rw [if_pos (show op<5\/15<op by omega)]; exact ⟨rfl,hs.aD⟩) | (subst_vars; first | exact ⟨rfl,hs.aD⟩ | (unfold eL eN gQ; simp_all <;> exact hs.aD))
 first | (unfold eL eN; rw [if_pos (show op<5\/15<op by omega)]; exact ⟨rfl,hs.aD⟩) | (subst_vars; first | exact ⟨rfl,hs.aD⟩ | (unfold eL eN gQ; simp_all <;> exact hs.aD))
theorem lH:V5 PG 289 16 288:=⟨by kernel_rfl,by kernel_rfl⟩
def Wc (b1 b2 b3 b4 b5 b6:Nat) (w:World):Prop:=
 Cell w b1 0 (.func (.func 243) #[] #[])/\Cell w b2 0 (.func (.func 244) #[] #[])/\Cell w b3 0 (.func (.func 245) #[] #[])/\Cell w b4 0 (.func (.func 246) #[] #[])/\Cell w b5 0 (.func (.func 247) #[] #[])/\Cell w b6 0 (.func (.func 248) #[] #[])
def opsV (b1 b2 b3 b4 b5 b6:Nat):Value:=
 .agg [.nilFunc,.nilFunc,.nilFunc,.nilFunc,.nilFunc,.func (.func 238) #[] #[],.func (.func 239) #[] #[],.func (.func 240) #[] #[],.func (.func 241) #[] #[],.func (.func 242) #[] #[],
  .func (.func 237) #[] #[.pointer (some ⟨b1,0,none⟩)],.func (.func 237) #[] #[.pointer (some ⟨b2,0,none⟩)],.func (.func 237) #[] #[.pointer (some ⟨b3,0,none⟩)],.func (.func 237) #[] #[.pointer (some ⟨b4,0,none⟩)],
  .func (.func 237) #[] #[.pointer (some ⟨b5,0,none⟩)],.func (.func 237) #[] #[.pointer (some ⟨b6,0,none⟩)]].toArray
def Rb (f:Value) (g:Int->Int->Bool):Prop:=∃ g0,f = .func (.func g0) #[] #[]/\Plain PG g0/\
 ∀ a b w1,Calls PG g0 [.int .i64 a,.int .i64 b].toArray w1 (mE λ v w2=>v = .bool (g a b)/\Ext w1 w2)
theorem C238 (a b:Int) (w:World):CR 238 [.int .i64 a,.int .i64 b] w (λ v w'=>v = .int .i64 (kW (a+b))/\Ext w w'):=by
 have hs:=St.start w;refine jT Tryz.func238 ?_;exact AD ⟨rfl,hs.aD⟩
theorem C239 (a b:Int) (w:World):CR 239 [.int .i64 a,.int .i64 b] w (λ v w'=>v = .int .i64 (kW (a - b))/\Ext w w'):=by
 have hs:=St.start w;refine jT Tryz.func239 ?_;exact mM ⟨rfl,hs.aD⟩
theorem C240 (a b:Int) (w:World):CR 240 [.int .i64 a,.int .i64 b] w (λ v w'=>v = .int .i64 (kW (a * b))/\Ext w w'):=by
 have hs:=St.start w;refine jT Tryz.func240 ?_;exact vj ⟨rfl,hs.aD⟩
theorem C241 (a b:Int) (w:World) (h:b≠0):CR 241 [.int .i64 a,.int .i64 b] w (λ v w'=>v = .int .i64 (vq a b)/\Ext w w'):=by
 have hs:=St.start w;refine jT Tryz.func241 ?_;exact vk h ⟨rfl,hs.aD⟩
theorem C242 (a b:Int) (w:World) (h:b≠0):CR 242 [.int .i64 a,.int .i64 b] w (λ v w'=>v = .int .i64 (a.tmod b)/\Ext w w'):=by
 have hs:=St.start w;refine jT Tryz.func242 ?_;exact HC h ⟨rfl,hs.aD⟩
theorem C243 (a b:Int) (w:World):CR 243 [.int .i64 a,.int .i64 b] w (λ v w'=>v = .bool (decide (a=b))/\Ext w w'):=by
 have hs:=St.start w;refine jT Tryz.func243 ?_;exact aF ⟨rfl,hs.aD⟩
theorem C244 (a b:Int) (w:World):CR 244 [.int .i64 a,.int .i64 b] w (λ v w'=>v = .bool (decide (¬ a=b))/\Ext w w'):=by
 have hs:=St.start w;refine jT Tryz.func244 ?_;exact bJ ⟨rfl,hs.aD⟩
theorem C245 (a b:Int) (w:World):CR 245 [.int .i64 a,.int .i64 b] w (λ v w'=>v = .bool (decide (a<b))/\Ext w w'):=by
 have hs:=St.start w;refine jT Tryz.func245 ?_;exact aN ⟨rfl,hs.aD⟩
theorem C246 (a b:Int) (w:World):CR 246 [.int .i64 a,.int .i64 b] w (λ v w'=>v = .bool (decide (a<=b))/\Ext w w'):=by
 have hs:=St.start w;refine jT Tryz.func246 ?_;exact fW ⟨rfl,hs.aD⟩
theorem C247 (a b:Int) (w:World):CR 247 [.int .i64 a,.int .i64 b] w (λ v w'=>v = .bool (decide (¬ a=0) && decide (¬ b=0))/\Ext w w'):=by
 have hs:=St.start w;refine jT Tryz.func247 ?_;refine ⟨_,?_,λ _ _ h=>h⟩;refine bF Ad hs (C218 _ _) (λ _ he hs=>aC (λ pF=>?_) (λ pF=>?_))
 ·refine bF Ad hs (C218 _ _) (λ _ he hs=>?_);intro pU
  first | (rw [decide_eq_true pF]; exact ⟨rfl,hs.aD⟩) | (rw [decide_eq_false pF]; exact ⟨rfl,hs.aD⟩)
 intro pU
 first | (rw [decide_eq_true pF]; exact ⟨rfl,hs.aD⟩) | (rw [decide_eq_false pF]; exact ⟨rfl,hs.aD⟩)
theorem C248 (a b:Int) (w:World):CR 248 [.int .i64 a,.int .i64 b] w (λ v w'=>v = .bool (decide (¬ a=0) || decide (¬ b=0))/\Ext w w'):=by
 have hs:=St.start w;refine jT Tryz.func248 ?_;refine ⟨_,?_,λ _ _ h=>h⟩;refine bF Ad hs (C218 _ _) (λ _ he hs=>aC (λ pF=>?_) (λ pF=>?_))
 ·intro pU
  first | (rw [decide_eq_true pF]; exact ⟨rfl,hs.aD⟩) | (rw [decide_eq_false pF]; exact ⟨rfl,hs.aD⟩)
 refine bF Ad hs (C218 _ _) (λ _ he hs=>?_);intro pU
 first | (rw [decide_eq_true pF]; exact ⟨rfl,hs.aD⟩) | (rw [decide_eq_false pF]; exact ⟨rfl,hs.aD⟩)
theorem C236 (g:Nat) (w:World):CR 236 [.func (.func g) #[] #[]] w (λ v w'=>∃ b,v = .func (.func 237) #[] #[.pointer (some ⟨b,0,none⟩)]/\pD (cZ b [.func (.func g) #[] #[]]) w w'):=by
 have hs:=St.start w;refine jT Tryz.func236 ?_;exact qQ hs rfl (λ We _ hs=>⟨We,rfl,hs.fresh⟩)
theorem C237 (a b:Int) (b2:Nat) (fv:Value) (g:Int->Int->Bool) (w:World) (hc:Cell w b2 0 fv) (hf:Rb fv g):CR 237 [.int .i64 a,.int .i64 b,.pointer (some ⟨b2,0,none⟩)] w (λ v w'=>v = .int .i64 (CB (g a b))/\Ext w w'):=by
 obtain ⟨g0,rfl,pz,iJ⟩:=hf;have hs:=St.start w;refine jT Tryz.func237 ?_;refine aK VS (hc.ext hs.aD) (eF (first:=[]) (cap:=[]) pz (iJ a b _) ?_);rintro _ _ ⟨rfl,he⟩;have hs:=hs.ext he;exact bF Oc hs (C217 _ _) (λ _ _ hs=>⟨rfl,hs.aD⟩)
theorem C219 (w:World):CR 219 [] w (λ v w'=>∃ b1 b2 b3 b4 b5 b6,v=opsV b1 b2 b3 b4 b5 b6/\pD (fU (Wc b1 b2 b3 b4 b5 b6)) w w'):=by
 have hs:=St.start w;refine LM _ _ ?_;unfold S219;refine bT hs D7 (λ b_x0 _ hs=>bT hs D7 (λ b_l1 _ hs=>jy lH (by omega) (by omega) (bH hs oD (ft rfl) (rfl) (λ _ hs=>jy lH (by omega) (by omega) (bH hs oD (ft rfl) (rfl) (λ _ hs=>jy lH (by omega) (by omega) (bH hs oD (ft rfl) (rfl) (λ _ hs=>jy lH (by omega) (by omega) (bH hs oD (ft rfl) (rfl) (λ _ hs=>jy lH (by omega) (by omega) (bH hs oD (ft rfl) (rfl) (λ _ hs=>eF (first:=[]) (cap:=[]) xq (C236 243 _) ?_))))))))))));rintro _ _ ⟨Wf,rfl,er⟩;have hs:=hs.made er;refine jy lH (by omega) (by omega) (bH hs.p1 oD (ft rfl) (rfl) (λ _ hs=>eF (first:=[]) (cap:=[]) xq (C236 244 _) ?_))
 rintro _ _ ⟨HQ,rfl,er⟩;have hs:=hs.made er;refine jy lH (by omega) (by omega) (bH hs.p1 oD (ft rfl) (rfl) (λ _ hs=>eF (first:=[]) (cap:=[]) xq (C236 245 _) ?_));rintro _ _ ⟨Om,rfl,er⟩;have hs:=hs.made er;refine jy lH (by omega) (by omega) (bH hs.p1 oD (ft rfl) (rfl) (λ _ hs=>eF (first:=[]) (cap:=[]) xq (C236 246 _) ?_));rintro _ _ ⟨On,rfl,er⟩;have hs:=hs.made er;refine jy lH (by omega) (by omega) (bH hs.p1 oD (ft rfl) (rfl) (λ _ hs=>eF (first:=[]) (cap:=[]) xq (C236 247 _) ?_));rintro _ _ ⟨Oo,rfl,er⟩;have hs:=hs.made er;refine jy lH (by omega) (by omega) (bH hs.p1 oD (ft rfl) (rfl) (λ _ hs=>eF (first:=[]) (cap:=[]) xq (C236 248 _) ?_))
 rintro _ _ ⟨xI,rfl,er⟩;have hs:=hs.made er;refine jy lH (by omega) (by omega) (bH hs.p1 oD (ft rfl) (rfl) (λ _ hs=>uS Hf hs.hb rfl (qR hs.p7 Hf rfl (by decide) (by simp [eK,eS]) (λ _ hs=>uS Hf hs.hb rfl ?_))));have hs:=(((((((((((((hs.drop)).drop).p1).p2).p3).p4).p5).lg).p1).lg).p2).lg).p3;have hs:=hs.lg.p4.lg.p5.lg.gU.gU.gU.gU.gU;refine ⟨Wf,HQ,Om,On,Oo,xI,rfl,(hs.jz (Ψ:=Wc Wf HQ Om On Oo xI) λ w h=>?_).fresh⟩;obtain ⟨⟨⟨⟨⟨h6,h5⟩,h4⟩,h3⟩,h2⟩,h1⟩:=h;exact ⟨h1.cell rfl,h2.cell rfl,h3.cell rfl,h4.cell rfl,h5.cell rfl,h6.cell rfl⟩
theorem fb1:Rb (.func (.func 243) #[] #[]) (λ a b=>decide (a=b)):=⟨243,rfl,VH,λ a b w1=>C243 a b w1⟩
theorem fb2:Rb (.func (.func 244) #[] #[]) (λ a b=>decide (¬ a=b)):=⟨244,rfl,VI,λ a b w1=>C244 a b w1⟩
theorem fb3:Rb (.func (.func 245) #[] #[]) (λ a b=>decide (a<b)):=⟨245,rfl,VJ,λ a b w1=>C245 a b w1⟩
theorem fb4:Rb (.func (.func 246) #[] #[]) (λ a b=>decide (a<=b)):=⟨246,rfl,VK,λ a b w1=>C246 a b w1⟩
theorem fb5:Rb (.func (.func 247) #[] #[]) (λ a b=>decide (¬ a=0) && decide (¬ b=0)):=⟨247,rfl,VL,λ a b w1=>C247 a b w1⟩
theorem fb6:Rb (.func (.func 248) #[] #[]) (λ a b=>decide (¬ a=0) || decide (¬ b=0)):=⟨248,rfl,VM,λ a b w1=>C248 a b w1⟩
theorem C175 (op a b:Int) (w:World):CR 175 [.int .i64 op,.int .i64 a,.int .i64 b] w (λ v w'=>v = .tuple #[.int .i64 (eL op a b),.int .i64 (eN op b)]/\Ext w w'):=by
 have hs:=St.start w;refine Lz _ _ _ _ _ ?_;unfold S175;refine ⟨_,?_,λ _ _ h=>h⟩;refine aN (aC (λ fM=>?_) (λ fM=>?_))
 ·intro pU;refine eZ ?_
  first | exact ⟨rfl,hs.aD⟩ | (subst_vars; exact ⟨rfl,hs.aD⟩) | (refine ⟨?_,hs.aD⟩; unfold eL eN gQ; first | (rw [if_pos (show op<5\/15<op by omega)]; rfl) | simp [*])
 refine cY ?_;intro pU;refine aC (λ rA=>?_) (λ rA=>?_)
 ·first | exact ⟨rfl,hs.aD⟩ | (subst_vars; exact ⟨rfl,hs.aD⟩) | (refine ⟨?_,hs.aD⟩; unfold eL eN gQ; first | (rw [if_pos (show op<5\/15<op by omega)]; rfl) | simp [*])
 refine gW Vw (C219 _) ?_;rintro _ _ ⟨b1,b2,b3,b4,b5,b6,rfl,er⟩;have hs:=hs.made er;obtain rfl | rfl | rfl | rfl | rfl | rfl | rfl | rfl | rfl | rfl | rfl | rfl | rfl | rfl | rfl | rfl:op=0\/op=1\/op=2\/op=3\/op=4\/op=5\/op=6\/op=7\/op=8\/op=9\/op=10\/op=11\/op=12\/op=13\/op=14\/op=15:=by omega
 ·refine pop (v:=.nilFunc) (by kernel_rfl) (pop (v:=.bool true) (by kernel_rfl) (eZ ?_))
  first | exact ⟨rfl,hs.aD⟩ | (subst_vars; exact ⟨rfl,hs.aD⟩) | (refine ⟨?_,hs.aD⟩; unfold eL eN gQ; first | (rw [if_pos (show op<5\/15<op by omega)]; rfl) | simp [*])
 ·refine pop (v:=.nilFunc) (by kernel_rfl) (pop (v:=.bool true) (by kernel_rfl) (eZ ?_))
  first | exact ⟨rfl,hs.aD⟩ | (subst_vars; exact ⟨rfl,hs.aD⟩) | (refine ⟨?_,hs.aD⟩; unfold eL eN gQ; first | (rw [if_pos (show op<5\/15<op by omega)]; rfl) | simp [*])
 ·refine pop (v:=.nilFunc) (by kernel_rfl) (pop (v:=.bool true) (by kernel_rfl) (eZ ?_))
  first | exact ⟨rfl,hs.aD⟩ | (subst_vars; exact ⟨rfl,hs.aD⟩) | (refine ⟨?_,hs.aD⟩; unfold eL eN gQ; first | (rw [if_pos (show op<5\/15<op by omega)]; rfl) | simp [*])
 ·refine pop (v:=.nilFunc) (by kernel_rfl) (pop (v:=.bool true) (by kernel_rfl) (eZ ?_))
  first | exact ⟨rfl,hs.aD⟩ | (subst_vars; exact ⟨rfl,hs.aD⟩) | (refine ⟨?_,hs.aD⟩; unfold eL eN gQ; first | (rw [if_pos (show op<5\/15<op by omega)]; rfl) | simp [*])
 ·refine pop (v:=.nilFunc) (by kernel_rfl) (pop (v:=.bool true) (by kernel_rfl) (eZ ?_))
  first | exact ⟨rfl,hs.aD⟩ | (subst_vars; exact ⟨rfl,hs.aD⟩) | (refine ⟨?_,hs.aD⟩; unfold eL eN gQ; first | (rw [if_pos (show op<5\/15<op by omega)]; rfl) | simp [*])
 ·refine pop (v:=.func (.func 238) #[] #[]) (by kernel_rfl) (pop (v:=.bool false) (by kernel_rfl) (dN ?_));refine ⟨_,?_,λ _ _ h=>h⟩;refine aF (dA (by decide) (aF (dA (by decide) ?_)));intro kD;refine dN (eF (first:=[]) (cap:=[]) VC (C238 a b _) ?_);rintro _ w4 ⟨rfl,he⟩;have hs:=hs.ext he
  first | exact ⟨rfl,hs.aD⟩ | (subst_vars; exact ⟨rfl,hs.aD⟩) | (refine ⟨?_,hs.aD⟩; unfold eL eN gQ; first | (rw [if_pos (show op<5\/15<op by omega)]; rfl) | simp [*])
 ·refine pop (v:=.func (.func 239) #[] #[]) (by kernel_rfl) (pop (v:=.bool false) (by kernel_rfl) (dN ?_));refine ⟨_,?_,λ _ _ h=>h⟩;refine aF (dA (by decide) (aF (dA (by decide) ?_)));intro kD;refine dN (eF (first:=[]) (cap:=[]) VD (C239 a b _) ?_);rintro _ w4 ⟨rfl,he⟩;have hs:=hs.ext he
  first | exact ⟨rfl,hs.aD⟩ | (subst_vars; exact ⟨rfl,hs.aD⟩) | (refine ⟨?_,hs.aD⟩; unfold eL eN gQ; first | (rw [if_pos (show op<5\/15<op by omega)]; rfl) | simp [*])
 ·refine pop (v:=.func (.func 240) #[] #[]) (by kernel_rfl) (pop (v:=.bool false) (by kernel_rfl) (dN ?_));refine ⟨_,?_,λ _ _ h=>h⟩;refine aF (dA (by decide) (aF (dA (by decide) ?_)));intro kD;refine dN (eF (first:=[]) (cap:=[]) VE (C240 a b _) ?_);rintro _ w4 ⟨rfl,he⟩;have hs:=hs.ext he
  first | exact ⟨rfl,hs.aD⟩ | (subst_vars; exact ⟨rfl,hs.aD⟩) | (refine ⟨?_,hs.aD⟩; unfold eL eN gQ; first | (rw [if_pos (show op<5\/15<op by omega)]; rfl) | simp [*])
 ·refine pop (v:=.func (.func 241) #[] #[]) (by kernel_rfl) (pop (v:=.bool false) (by kernel_rfl) (dN ?_));refine ⟨_,?_,λ _ _ h=>h⟩;refine aF (ph (by decide) (aF ?_));intro kD;refine aC (λ jA=>?_) (λ jA=>?_)
  ·first | exact ⟨rfl,hs.aD⟩ | (subst_vars; exact ⟨rfl,hs.aD⟩) | (refine ⟨?_,hs.aD⟩; unfold eL eN gQ; first | (rw [if_pos (show op<5\/15<op by omega)]; rfl) | simp [*])
  refine eF (first:=[]) (cap:=[]) VF (C241 a b _ jA) ?_;rintro _ w4 ⟨rfl,he⟩;have hs:=hs.ext he
  first | exact ⟨rfl,hs.aD⟩ | (subst_vars; exact ⟨rfl,hs.aD⟩) | (refine ⟨?_,hs.aD⟩; unfold eL eN gQ; first | (rw [if_pos (show op<5\/15<op by omega)]; rfl) | simp [*])
 ·refine pop (v:=.func (.func 242) #[] #[]) (by kernel_rfl) (pop (v:=.bool false) (by kernel_rfl) (dN ?_));refine ⟨_,?_,λ _ _ h=>h⟩;refine aF (dA (by decide) (aF (ph (by decide) (aF ?_))));intro kD;refine aC (λ jA=>?_) (λ jA=>?_)
  ·first | exact ⟨rfl,hs.aD⟩ | (subst_vars; exact ⟨rfl,hs.aD⟩) | (refine ⟨?_,hs.aD⟩; unfold eL eN gQ; first | (rw [if_pos (show op<5\/15<op by omega)]; rfl) | simp [*])
  refine eF (first:=[]) (cap:=[]) VG (C242 a b _ jA) ?_;rintro _ w4 ⟨rfl,he⟩;have hs:=hs.ext he
  first | exact ⟨rfl,hs.aD⟩ | (subst_vars; exact ⟨rfl,hs.aD⟩) | (refine ⟨?_,hs.aD⟩; unfold eL eN gQ; first | (rw [if_pos (show op<5\/15<op by omega)]; rfl) | simp [*])
 ·refine pop (v:=.func (.func 237) #[] #[.pointer (some ⟨b1,0,none⟩)]) (by kernel_rfl) (pop (v:=.bool false) (by kernel_rfl) (dN ?_));refine ⟨_,?_,λ _ _ h=>h⟩;refine aF (dA (by decide) (aF (dA (by decide) ?_)));intro kD;refine dN ?_;obtain ⟨o1,o2,o3,o4,o5,o6⟩:=hs.fU;refine eF (first:=[]) (cap:=[.pointer (some ⟨b1,0,none⟩)]) xr (C237 a b b1 _ _ _ o1 fb1) ?_;rintro _ w4 ⟨rfl,he⟩;have hs:=hs.ext he
  first | exact ⟨rfl,hs.aD⟩ | (subst_vars; exact ⟨rfl,hs.aD⟩) | (refine ⟨?_,hs.aD⟩; unfold eL eN gQ; first | (rw [if_pos (show op<5\/15<op by omega)]; rfl) | simp [*])
 ·refine pop (v:=.func (.func 237) #[] #[.pointer (some ⟨b2,0,none⟩)]) (by kernel_rfl) (pop (v:=.bool false) (by kernel_rfl) (dN ?_));refine ⟨_,?_,λ _ _ h=>h⟩;refine aF (dA (by decide) (aF (dA (by decide) ?_)));intro kD;refine dN ?_;obtain ⟨o1,o2,o3,o4,o5,o6⟩:=hs.fU;refine eF (first:=[]) (cap:=[.pointer (some ⟨b2,0,none⟩)]) xr (C237 a b b2 _ _ _ o2 fb2) ?_;rintro _ w4 ⟨rfl,he⟩;have hs:=hs.ext he
  first | exact ⟨rfl,hs.aD⟩ | (subst_vars; exact ⟨rfl,hs.aD⟩) | (refine ⟨?_,hs.aD⟩; unfold eL eN gQ; first | (rw [if_pos (show op<5\/15<op by omega)]; rfl) | simp [*])
 ·refine pop (v:=.func (.func 237) #[] #[.pointer (some ⟨b3,0,none⟩)]) (by kernel_rfl) (pop (v:=.bool false) (by kernel_rfl) (dN ?_));refine ⟨_,?_,λ _ _ h=>h⟩;refine aF (dA (by decide) (aF (dA (by decide) ?_)));intro kD;refine dN ?_;obtain ⟨o1,o2,o3,o4,o5,o6⟩:=hs.fU;refine eF (first:=[]) (cap:=[.pointer (some ⟨b3,0,none⟩)]) xr (C237 a b b3 _ _ _ o3 fb3) ?_;rintro _ w4 ⟨rfl,he⟩;have hs:=hs.ext he
  first | exact ⟨rfl,hs.aD⟩ | (subst_vars; exact ⟨rfl,hs.aD⟩) | (refine ⟨?_,hs.aD⟩; unfold eL eN gQ; first | (rw [if_pos (show op<5\/15<op by omega)]; rfl) | simp [*])
 ·refine pop (v:=.func (.func 237) #[] #[.pointer (some ⟨b4,0,none⟩)]) (by kernel_rfl) (pop (v:=.bool false) (by kernel_rfl) (dN ?_));refine ⟨_,?_,λ _ _ h=>h⟩;refine aF (dA (by decide) (aF (dA (by decide) ?_)));intro kD;refine dN ?_;obtain ⟨o1,o2,o3,o4,o5,o6⟩:=hs.fU;refine eF (first:=[]) (cap:=[.pointer (some ⟨b4,0,none⟩)]) xr (C237 a b b4 _ _ _ o4 fb4) ?_;rintro _ w4 ⟨rfl,he⟩;have hs:=hs.ext he
  first | exact ⟨rfl,hs.aD⟩ | (subst_vars; exact ⟨rfl,hs.aD⟩) | (refine ⟨?_,hs.aD⟩; unfold eL eN gQ; first | (rw [if_pos (show op<5\/15<op by omega)]; rfl) | simp [*])
 ·refine pop (v:=.func (.func 237) #[] #[.pointer (some ⟨b5,0,none⟩)]) (by kernel_rfl) (pop (v:=.bool false) (by kernel_rfl) (dN ?_));refine ⟨_,?_,λ _ _ h=>h⟩;refine aF (dA (by decide) (aF (dA (by decide) ?_)));intro kD;refine dN ?_;obtain ⟨o1,o2,o3,o4,o5,o6⟩:=hs.fU;refine eF (first:=[]) (cap:=[.pointer (some ⟨b5,0,none⟩)]) xr (C237 a b b5 _ _ _ o5 fb5) ?_;rintro _ w4 ⟨rfl,he⟩;have hs:=hs.ext he
  first | exact ⟨rfl,hs.aD⟩ | (subst_vars; exact ⟨rfl,hs.aD⟩) | (refine ⟨?_,hs.aD⟩; unfold eL eN gQ; first | (rw [if_pos (show op<5\/15<op by omega)]; rfl) | simp [*])
 refine pop (v:=.func (.func 237) #[] #[.pointer (some ⟨b6,0,none⟩)]) (by kernel_rfl) (pop (v:=.bool false) (by kernel_rfl) (dN ?_));refine ⟨_,?_,λ _ _ h=>h⟩;refine aF (dA (by decide) (aF (dA (by decide) ?_)));intro kD;refine dN ?_;obtain ⟨o1,o2,o3,o4,o5,o6⟩:=hs.fU;refine eF (first:=[]) (cap:=[.pointer (some ⟨b6,0,none⟩)]) xr (C237 a b b6 _ _ _ o6 fb6) ?_;rintro _ w4 ⟨rfl,he⟩;have hs:=hs.ext he
 first | exact ⟨rfl,hs.aD⟩ | (subst_vars; exact ⟨rfl,hs.aD⟩) | (refine ⟨?_,hs.aD⟩; unfold eL eN gQ; first | (rw [if_pos (show op<5\/15<op by omega)]; rfl) | simp [*])
theorem gz {α:Type} {l:List α} {k:Nat} {e:α} (h:l[k]? = some e):l.take k++[e]=l.take (k+1):=by rw [List.take_add_one,h]; rfl
theorem fY {α:Type} {φ:α->Prop} {l:List α} {k:Nat} {e:α} (h:∀ y∈l.take k,φ y) (he:l[k]? = some e) (hp:φ e):∀ y∈l.take (k+1),φ y:=by
 intro y hy
 rw [<- gz he] at hy
 rcases List.mem_append.1 hy with hy | hy
 ·exact h y hy
 rw [List.mem_singleton.1 hy]; exact hp
theorem yM {α:Type} {g:α->Bool} {l:List α} {k:Nat} {e:α} (he:l[k]? = some e) (hg:g e=true):l.any g=true:=List.any_eq_true.2 ⟨e,List.mem_of_getElem? he,hg⟩
theorem sQ {α:Type} {g:α->Bool} {l:List α} (h:∀ y∈l,g y=false):l.any g=false:=by
 rw [List.any_eq_false]; intro y hy; rw [h y hy]; simp
def rB {α:Type} (g:α->Bool) (l:List α):Int:=match l.findIdx? g with | some k=>k | none=>-1
theorem mb {α:Type} {g:α->Bool} {l:List α} {k:Nat} {e:α} (gT:∀ y∈l.take k,g y=false) (he:l[k]? = some e) (hg:g e=true):rB g l=k:=by
 have:l.findIdx? g=some k:=by
  rw [List.findIdx?_eq_some_iff_getElem]
  have hk:=(List.getElem?_eq_some_iff.1 he).1
  refine ⟨hk,by rw [(List.getElem?_eq_some_iff.1 he).2]; exact hg,λ j hj=>?_⟩
  have:=gT (l[j]'(by omega)) (List.mem_take_iff_getElem.2 ⟨j,by omega,rfl⟩)
  simp [this]
 unfold rB; rw [this]
theorem jl {α:Type} {g:α->Bool} {l:List α} (gT:∀ y∈l,g y=false):rB g l = -1:=by
 have:l.findIdx? g=none:=by rw [List.findIdx?_eq_none_iff]; exact gT
 unfold rB; rw [this]
theorem kx {α:Type} (g:α->Bool) (l:List α):decide (0<=rB g l)=l.any g:=by
 unfold rB
 cases h:l.findIdx? g with
 | none=>
  rw [List.findIdx?_eq_none_iff] at h
  have:l.any g=false:=by rw [List.any_eq_false]; intro x hx; rw [h x hx]; simp
  rw [this]; rfl
 | some k=>
  have h':=(List.findIdx?_eq_some_iff_getElem.1 h)
  obtain ⟨hk,hg,_⟩:=h'
  have:l.any g=true:=List.any_eq_true.2 ⟨_,List.getElem_mem hk,hg⟩
  rw [this]; simp
def tX {α:Type} [Flat α] (w:World) (f:Value) (g:α->Bool):Prop:=∃ g0 first cap,f = .func (.func g0) (List.toArray first) (List.toArray cap)/\Plain PG g0/\
 ∀ x w1,Ext w w1->Calls PG g0 (first++[Flat.val x]++cap).toArray w1 (mE λ v w2=>v = .bool (g x)/\Ext w1 w2)
theorem tX.ext {α:Type} [Flat α] {w w':World} {f:Value} {g:α->Bool} (h:tX w f g) (e:Ext w w'):tX w' f g:=by
 obtain ⟨g0,first,cap,h1,h2,h3⟩:=h; exact ⟨g0,first,cap,h1,h2,λ x w1 e1=>h3 x w1 (e.trans e1)⟩
def cK (k:Int):Int:=if k=3\/k=4 then 1 else if 5<=k/\k<=15 then 2 else 0
def Ot (st:Option (Int × Int)) (x:gC):Option (Int × Int):=match st with
 | none=>none
 | some (n,h)=>if n - cK x.kind<0 then none else some (n - cK x.kind+1,max h (n - cK x.kind+1))
def ht (l:List gC):Option (Int × Int):=l.foldl Ot (some (0,0))
def Ou (l:List gC):Int:=match ht l with | some p=>p.1 | none=>0
def htH (l:List gC):Int:=match ht l with | some p=>p.2 | none=>0
theorem rC {l:List gC} {k:Nat} {x:gC} (h:l[k]? = some x):ht (l.take (k+1))=Ot (ht (l.take k)) x:=by
 unfold ht; rw [<- gz h,List.foldl_append]; rfl
theorem jB {l:List gC} {k:Nat} (h:ht (l.take k)=none):ht l=none:=by
 have key:∀ m:List gC,m.foldl Ot none=none:=λ m=>by induction m with | nil=>rfl | cons y m ih=>exact ih
 have e:l=l.take k++l.drop k:=(List.take_append_drop k l).symm
 unfold ht at *
 rw [e,List.foldl_append,h]; exact key _
theorem Eg (k:Int):0<=cK k/\cK k<=2:=by
 unfold cK
 repeat' split
 all_goals omega
theorem Fq {l:List gC}:∀ k n h,k<=l.length->ht (l.take k)=some (n,h)->0<=n/\n<=(k:Int)/\0<=h/\h<=(k:Int)
 | 0,n,h,_,e=>by
  have:ht ([]:List gC)=some (0,0):=rfl
  rw [List.take_zero,this] at e
  obtain ⟨rfl,rfl⟩:=Prod.mk.inj (Option.some.inj e); omega
 | k+1,n,h,hk,e=>by
  obtain ⟨x,hx⟩:∃ x,l[k]? = some x:=⟨_,List.getElem?_eq_getElem (by omega)⟩
  rw [rC hx] at e
  cases hp:ht (l.take k) with
  | none=>rw [hp] at e; cases e
  | some p=>
   obtain ⟨a,b⟩:=p
   have ih:=Fq k a b (by omega) hp
   have hw:=Eg x.kind
   rw [hp] at e
   unfold Ot at e
   simp only [] at e
   split at e
   ·cases e
   ·obtain ⟨rfl,rfl⟩:=Prod.mk.inj (Option.some.inj e); omega
theorem ke {l:List gC} {k:Nat} {x:gC} {n h m:Int} (hx:l[k]? = some x) (jC:ht (l.take k)=some (n,h)) (hm:m=n - cK x.kind) (h0:¬ m<0):ht (l.take (k+1))=some (m+1,max h (m+1)):=by
 rw [rC hx,jC]; unfold Ot; simp only []; rw [<- hm,if_neg h0]
theorem mo {l:List gC} {k:Nat} {x:gC} {n h m:Int} (hx:l[k]? = some x) (jC:ht (l.take k)=some (n,h)) (hm:m=n - cK x.kind) (h0:m<0):ht (l.take (k+1))=none:=by
 rw [rC hx,jC]; unfold Ot; simp only []; rw [<- hm,if_pos h0]
def e9 (many:Int) (x:gC):Bool:=decide ((x.kind=1/\(x.n<0\/4294967296<x.n))\/(x.kind=2/\(x.n<0\/many<=x.n))\/(¬ x.kind=1/\¬ x.kind=2/\(¬ x.n=0\/x.kind<1\/16<=x.kind)))
def cW (l:List gC) (many:Int):Bool:=decide (l.length<=40) && (ht l).isSome && decide (Ou l=1) && !l.any (e9 many)
theorem C171 (k:Int) (w:World):CR 171 [.int .i64 k] w (λ v w'=>v = .int .i64 (cK k)/\Ext w w'):=by
 have hs:=St.start w;refine jT Tryz.func171 ?_;refine ⟨λ jv w'=>jv = .bool (decide (k=3\/k=4))/\w=w',aF (aC (λ _=>⟨Gn (by omega),rfl⟩) (λ _=>aF ⟨Ab (by omega),rfl⟩)),?_⟩;rintro _ _ ⟨rfl,hw⟩ _;subst hw;refine aC (λ wY=>?_) (λ wY=>⟨λ jv w'=>jv = .bool (decide (5<=k/\k<=15))/\w=w',cY (aC (λ _=>fW ⟨Ab (by omega),rfl⟩) (λ _=>⟨jvF (by omega),rfl⟩)),?_⟩)
 ·unfold cK
  first | (rw [if_pos wY]; exact ⟨rfl,hs.aD⟩) | (rw [if_neg wY,if_pos fM]; exact ⟨rfl,hs.aD⟩) | (rw [if_neg wY,if_neg fM]; exact ⟨rfl,hs.aD⟩)
 rintro _ _ ⟨rfl,hw⟩ _;subst hw;refine aC (λ fM=>?_) (λ fM=>?_)
 ·unfold cK
  first | (rw [if_pos wY]; exact ⟨rfl,hs.aD⟩) | (rw [if_neg wY,if_pos fM]; exact ⟨rfl,hs.aD⟩) | (rw [if_neg wY,if_neg fM]; exact ⟨rfl,hs.aD⟩)
 unfold cK
 first | (rw [if_pos wY]; exact ⟨rfl,hs.aD⟩) | (rw [if_neg wY,if_pos fM]; exact ⟨rfl,hs.aD⟩) | (rw [if_neg wY,if_neg fM]; exact ⟨rfl,hs.aD⟩)
theorem C183 (sv:Value) (xs:List gC) (w:World) (hL:ee (λ _=>True) w sv xs) (hn:xs.length<=1048576):CR 183 [sv] w (λ v w'=>v = .tuple #[.int .i64 (Ou xs),.int .i64 (htH xs),.bool (ht xs).isSome]/\Ext w w'):=by
 have hs:=St.start w;refine jT Tryz.func183 ?_;refine aI e8 (hL.ext hs.aD) ?_;refine ⟨λ m y z x w1=>∃ (k:Nat) (n h:Int),y = .int .i64 n/\z = .int .i64 h/\x = .int .i64 (k:Int)/\m=xs.length - k/\k<=xs.length/\ht (xs.take k)=some (n,h)/\St w aZ [] w1,⟨_,0,0,0,rfl,rfl,rfl,rfl,by omega,rfl,hs⟩,?_⟩;rintro m _ _ _ w1 ⟨k,n,h,rfl,rfl,rfl,rfl,hk,jC,hs⟩ _;refine aN (aC (λ iL=>?_) (λ iL=>?_))
 ·obtain ⟨Ov,CD⟩:=gx (xs) (i:=((k:Int)).toNat) (by omega);refine aR e8 (hL.ext hs.aD) (by omega) CD (λ _ Wg=>aO Ap (Wg) (bT hs D6 (λ acw _ hs=>cO (x:=Ov) hs Ap rfl rfl (λ _ hs=>aA eO (aB bK hs.hb rfl (bF N9 hs (C171 _ _) (λ _ he hs=>?_)))))));have hw:=Eg Ov.kind;have hhb:=Fq k n h (by omega) jC;refine eC (by omega) (aN (aC (λ jA=>?_) (λ jA=>aW (by omega) (D9 (aW (by omega) ⟨_,by omega,k+1,_,_,rfl,rfl,rfl,rfl,by omega,by rw [rC (k:=k) CD,jC]; unfold Ot; simp only []; rw [if_neg jA],hs.drop⟩)))));have hz:ht xs=none:=jB (k:=k+1) (by rw [rC (k:=k) CD,jC]; unfold Ot; simp only []; rw [if_pos jA])
  unfold Ou htH;rw [hz];exact ⟨rfl,hs.aD⟩
 rw [List.take_of_length_le (by omega)] at jC;unfold Ou htH;rw [jC];exact ⟨rfl,hs.aD⟩
theorem C182 (x:gC) (b2:Nat) (many:Int) (w:World) (hc:Cell w b2 0 (.int .i64 many)):CR 182 [Flat.val x,.pointer (some ⟨b2,0,none⟩)] w (λ v w'=>v = .bool (e9 many x)/\Ext w w'):=by
 have hs:=St.start w;refine jT Tryz.func182 ?_;refine dY hs (λ jY _ hs=>aA eO (aB bK hs.hb rfl (aF (aC (λ mn=>⟨_,aA iK (aB bK hs.hb rfl (aN (aC (λ fM=>?_) (λ fM=>?_)))),λ _ _ h=>h⟩) (λ mn=>aA eO (aB bK hs.hb rfl (aF (aC (λ iM=>⟨_,aA iK (aB bK hs.hb rfl (aN (aC (λ tC=>?_) (λ tC=>?_)))),λ _ _ h=>h⟩) (λ iM=>?_)))))))))
 ·intro pU;refine ⟨vb ?_,hs.aD⟩;unfold e9
  first | exact (decide_eq_true (by omega)).symm | exact (decide_eq_false (by omega)).symm | exact decide_eq_decide.2 (by omega)
 ·refine aA iK (aB bK hs.hb rfl (cC ?_));intro pU;refine ⟨vb ?_,hs.aD⟩;unfold e9
  first | exact (decide_eq_true (by omega)).symm | exact (decide_eq_false (by omega)).symm | exact decide_eq_decide.2 (by omega)
 ·intro kD;refine ⟨vb ?_,hs.aD⟩;unfold e9
  first | exact (decide_eq_true (by omega)).symm | exact (decide_eq_false (by omega)).symm | exact decide_eq_decide.2 (by omega)
 ·refine aA iK (aB bK hs.hb rfl (aK bK (hc.ext hs.aD) (cY ?_)));intro kD;refine ⟨vb ?_,hs.aD⟩;unfold e9
  first | exact (decide_eq_true (by omega)).symm | exact (decide_eq_false (by omega)).symm | exact decide_eq_decide.2 (by omega)
 refine ⟨_,?_,λ _ _ h=>h⟩;refine aA iK (aB bK hs.hb rfl (bJ (aC (λ rD=>?_) (λ rD=>aA eO (aB bK hs.hb rfl (aN (aC (λ vt=>?_) (λ vt=>?_))))))))
 ·intro rE;refine ⟨vb ?_,hs.aD⟩;unfold e9
  first | exact (decide_eq_true (by omega)).symm | exact (decide_eq_false (by omega)).symm | exact decide_eq_decide.2 (by omega)
 ·intro rE;refine ⟨vb ?_,hs.aD⟩;unfold e9
  first | exact (decide_eq_true (by omega)).symm | exact (decide_eq_false (by omega)).symm | exact decide_eq_decide.2 (by omega)
 refine aA eO (aB bK hs.hb rfl (cY ?_));intro rE;refine ⟨vb ?_,hs.aD⟩;unfold e9
 first | exact (decide_eq_true (by omega)).symm | exact (decide_eq_false (by omega)).symm | exact decide_eq_decide.2 (by omega)
theorem C223 (sv fv:Value) (xs:List gC) (g:gC->Bool) (w:World) (hL:ee (λ _=>True) w sv xs) (hf:tX w fv g) (hn:xs.length<=1073741824):CR 223 [sv,fv] w (λ v w'=>v = .int .i64 (rB g xs)/\Ext w w'):=by
 obtain ⟨g0,first,cap,rfl,pz,iJ⟩:=hf;have hs:=St.start w;refine jT Tryz.func223 ?_;refine aI e8 (hL.ext hs.aD) ?_;refine ⟨λ m x w1=>∃ k:Nat,x = .int .i64 (k:Int)/\m=xs.length - k/\k<=xs.length/\(∀ y∈xs.take k,g y=false)/\St w aZ [] w1,⟨_,0,rfl,rfl,Nat.zero_le _,by simp,hs⟩,?_⟩;rintro m _ w1 ⟨k,rfl,rfl,hk,gT,hs⟩ _;refine aN (aC (λ yN=>?_) (λ _=>⟨congrArg (Value.int .i64) (jl (by rw [List.take_of_length_le (by omega)] at gT; exact gT)).symm,hs.aD⟩));obtain ⟨iz,cI⟩:=gx (xs) (i:=((k:Int)).toNat) (by omega);refine aR e8 (hL.ext hs.aD) (by omega) cI (λ _ jD=>aO Ap (jD) (eF pz (iJ iz w1 hs.aD) ?_))
 rintro _ _ ⟨rfl,he⟩;have hs:=hs.ext he;exact bD (λ eU=>⟨congrArg (Value.int .i64) (mb gT cI eU).symm,hs.aD⟩) (λ eU=>aW (by omega) ⟨xs.length - (k+1),by omega,k+1,rfl,rfl,by omega,fY gT cI eU,hs⟩)
theorem C184 (sv fv:Value) (xs:List gC) (g:gC->Bool) (w:World) (hL:ee (λ _=>True) w sv xs) (hf:tX w fv g) (hn:xs.length<=1073741824):CR 184 [sv,fv] w (λ v w'=>v = .bool (xs.any g)/\Ext w w'):=by
 have hs:=St.start w;refine jT Tryz.func184 ?_;exact bF VA hs (C223 _ _ _ _ _ (hL.ext hs.aD) (hf.ext hs.aD) (by omega)) (λ _ _ hs=>cY ⟨vb (kx _ _),hs.aD⟩)
theorem C116 (sv:Value) (xs:List gC) (many:Int) (w:World) (hL:ee (λ _=>True) w sv xs) (hn:xs.length<=1048576):CR 116 [sv,.int .i64 many] w (λ v w'=>v = .bool (cW xs many)/\Ext w w'):=by
 have hs:=St.start w;refine jT Tryz.func116 ?_;refine qQ hs rfl (λ Eh w1 hs=>bF Vg hs (C183 _ _ _ (hL.ext hs.aD) (by omega)) (λ _ he hs=>bI rfl (bI rfl (bI rfl ?_))));refine ⟨_,?_,λ _ _ h=>h⟩;refine aI e8 (hL.ext hs.aD) (fW (aC (λ mP=>bD (λ ku=>aF (aC (λ lI=>?_) (λ lI=>?_))) (λ ku=>?_)) (λ mP=>?_)))
 ·have Q5:tX _ (.func (.func 182) [].toArray [.pointer (some ⟨Eh,0,none⟩)].toArray) (e9 many):=
   ⟨182,[],_,rfl,Vf,λ y w1 e1=>C182 y Eh many w1 ((hs.hb.cell rfl).ext e1)⟩
  refine bF Vh hs (C184 _ _ _ _ _ (hL.ext hs.aD) Q5 (by omega)) (λ _ he hs=>bO ?_);intro pU;refine ⟨vb ?_,hs.aD⟩;unfold cW
  simp_all <;> omega
 ·intro pU;refine ⟨vb ?_,hs.aD⟩;unfold cW
  simp_all <;> omega
 ·intro pU;refine ⟨vb ?_,hs.aD⟩;unfold cW
  simp_all <;> omega
 intro pU;refine ⟨vb ?_,hs.aD⟩;unfold cW
 simp_all <;> omega
theorem C200 (sv:Value) (xs:List gC) (q:Nat) (w:World) (hL:ee (λ _=>True) w sv xs) (hq:q<=xs.length) (hn:xs.length<=1048576):CR 200 [sv,.int .i64 (q:Int)] w (λ v w'=>v = .int .i64 (match ht (xs.take q) with | some p=>p.1 | none=>-1)/\Ext w w'):=by
 have hs:=St.start w;refine LI _ _ _ _ ?_;unfold S200;refine ⟨λ m y x w1=>∃ (k:Nat) (n h:Int),y = .int .i64 n/\x = .int .i64 (k:Int)/\m=q - k/\k<=q/\ht (xs.take k)=some (n,h)/\St w aZ [] w1,⟨_,0,0,0,rfl,rfl,rfl,by omega,rfl,hs⟩,?_⟩;rintro m _ _ w1 ⟨k,n,h,rfl,rfl,rfl,hk,jC,hs⟩ _;have hhb:=Fq k n h (by omega) jC;refine aN (aC (λ yN=>?_) (λ yN=>?_))
 ·refine ⟨_,?_,λ _ _ h=>h⟩;refine ⟨_,?_,λ _ _ h=>h⟩;obtain ⟨iz,cI⟩:=gx (xs) (i:=((k:Int)).toNat) (by omega);refine aR e8 (hL.ext hs.aD) (by omega) cI (λ _ jD=>dO (iz).kind eO jD rfl rfl (λ _ HR=>aO bK (HR) (aF (aC (λ vu=>?_) (λ vu=>?_)))))
  ·intro kD;refine eZ (eC (by omega) ?_);intro rE;refine ⟨_,?_,λ _ _ h=>h⟩;refine ⟨_,?_,λ _ _ h=>h⟩;refine aR e8 (hL.ext hs.aD) (by omega) cI (λ Ow rF=>dO (iz).kind eO rF rfl rfl (λ Ox nM=>aO bK (nM) (cY (aC (λ rG=>?_) (λ rG=>?_)))))
   ·refine aR e8 (hL.ext hs.aD) (by omega) cI (λ Oy oH=>dO (iz).kind eO oH rfl rfl (λ Oz AL=>aO bK (AL) (fW ?_)));intro Rc;refine aC (λ jE=>?_) (λ jE=>?_)
    ·refine eC (by omega) ?_;intro Gp;refine aN (aC (λ fh=>?_) (λ _=>aW (by omega) (aW (by omega) ⟨_,by omega,k+1,_,_,rfl,rfl,rfl,by omega,ke (k:=k) cI jC (by unfold cK; repeat' split; all_goals omega) (by omega),hs⟩)));have hz:ht (xs.take q)=none:=jB (l:=xs.take q) (k:=k+1) (by rw [List.take_take,Nat.min_eq_left (by omega)]; exact mo (k:=k) cI jC (m:=((n - 1) - 2)) (by unfold cK; repeat' split; all_goals omega) (by omega));rw [hz];exact ⟨rfl,hs.aD⟩
    intro Gp;refine aN (aC (λ fh=>?_) (λ _=>aW (by omega) (aW (by omega) ⟨_,by omega,k+1,_,_,rfl,rfl,rfl,by omega,ke (k:=k) cI jC (by unfold cK; repeat' split; all_goals omega) (by omega),hs⟩)));have hz:ht (xs.take q)=none:=jB (l:=xs.take q) (k:=k+1) (by rw [List.take_take,Nat.min_eq_left (by omega)]; exact mo (k:=k) cI jC (m:=(n - 1)) (by unfold cK; repeat' split; all_goals omega) (by omega));rw [hz];exact ⟨rfl,hs.aD⟩
   intro Rc;refine dN ?_;intro Gp;refine aN (aC (λ fh=>?_) (λ _=>aW (by omega) (aW (by omega) ⟨_,by omega,k+1,_,_,rfl,rfl,rfl,by omega,ke (k:=k) cI jC (by unfold cK; repeat' split; all_goals omega) (by omega),hs⟩)));have hz:ht (xs.take q)=none:=jB (l:=xs.take q) (k:=k+1) (by rw [List.take_take,Nat.min_eq_left (by omega)]; exact mo (k:=k) cI jC (m:=(n - 1)) (by unfold cK; repeat' split; all_goals omega) (by omega));rw [hz];exact ⟨rfl,hs.aD⟩
  refine aR e8 (hL.ext hs.aD) (by omega) cI (λ _ rH=>dO (iz).kind eO rH rfl rfl (λ _ AM=>aO bK (AM) (aF ?_)));intro kD;refine aC (λ gY=>?_) (λ gY=>?_)
  ·refine eC (by omega) ?_;intro rE;refine ⟨_,?_,λ _ _ h=>h⟩;refine ⟨_,?_,λ _ _ h=>h⟩;refine aR e8 (hL.ext hs.aD) (by omega) cI (λ Ow rF=>dO (iz).kind eO rF rfl rfl (λ Ox nM=>aO bK (nM) (cY (aC (λ rG=>?_) (λ rG=>?_)))))
   ·refine aR e8 (hL.ext hs.aD) (by omega) cI (λ Oy oH=>dO (iz).kind eO oH rfl rfl (λ Oz AL=>aO bK (AL) (fW ?_)));intro Rc;refine aC (λ jE=>?_) (λ jE=>?_)
    ·refine eC (by omega) ?_;intro Gp;refine aN (aC (λ fh=>?_) (λ _=>aW (by omega) (aW (by omega) ⟨_,by omega,k+1,_,_,rfl,rfl,rfl,by omega,ke (k:=k) cI jC (by unfold cK; repeat' split; all_goals omega) (by omega),hs⟩)));have hz:ht (xs.take q)=none:=jB (l:=xs.take q) (k:=k+1) (by rw [List.take_take,Nat.min_eq_left (by omega)]; exact mo (k:=k) cI jC (m:=((n - 1) - 2)) (by unfold cK; repeat' split; all_goals omega) (by omega));rw [hz];exact ⟨rfl,hs.aD⟩
    intro Gp;refine aN (aC (λ fh=>?_) (λ _=>aW (by omega) (aW (by omega) ⟨_,by omega,k+1,_,_,rfl,rfl,rfl,by omega,ke (k:=k) cI jC (by unfold cK; repeat' split; all_goals omega) (by omega),hs⟩)));have hz:ht (xs.take q)=none:=jB (l:=xs.take q) (k:=k+1) (by rw [List.take_take,Nat.min_eq_left (by omega)]; exact mo (k:=k) cI jC (m:=(n - 1)) (by unfold cK; repeat' split; all_goals omega) (by omega));rw [hz];exact ⟨rfl,hs.aD⟩
   intro Rc;refine dN ?_;intro Gp;refine aN (aC (λ fh=>?_) (λ _=>aW (by omega) (aW (by omega) ⟨_,by omega,k+1,_,_,rfl,rfl,rfl,by omega,ke (k:=k) cI jC (by unfold cK; repeat' split; all_goals omega) (by omega),hs⟩)));have hz:ht (xs.take q)=none:=jB (l:=xs.take q) (k:=k+1) (by rw [List.take_take,Nat.min_eq_left (by omega)]; exact mo (k:=k) cI jC (m:=(n - 1)) (by unfold cK; repeat' split; all_goals omega) (by omega));rw [hz];exact ⟨rfl,hs.aD⟩
  intro rE;refine ⟨_,?_,λ _ _ h=>h⟩;refine ⟨_,?_,λ _ _ h=>h⟩;refine aR e8 (hL.ext hs.aD) (by omega) cI (λ Ow rF=>dO (iz).kind eO rF rfl rfl (λ Ox nM=>aO bK (nM) (cY (aC (λ rG=>?_) (λ rG=>?_)))))
  ·refine aR e8 (hL.ext hs.aD) (by omega) cI (λ Oy oH=>dO (iz).kind eO oH rfl rfl (λ Oz AL=>aO bK (AL) (fW ?_)));intro Rc;refine aC (λ jE=>?_) (λ jE=>?_)
   ·refine eC (by omega) ?_;intro Gp;refine aN (aC (λ fh=>?_) (λ _=>aW (by omega) (aW (by omega) ⟨_,by omega,k+1,_,_,rfl,rfl,rfl,by omega,ke (k:=k) cI jC (by unfold cK; repeat' split; all_goals omega) (by omega),hs⟩)));have hz:ht (xs.take q)=none:=jB (l:=xs.take q) (k:=k+1) (by rw [List.take_take,Nat.min_eq_left (by omega)]; exact mo (k:=k) cI jC (m:=(n - 2)) (by unfold cK; repeat' split; all_goals omega) (by omega));rw [hz];exact ⟨rfl,hs.aD⟩
   intro Gp;refine aN (aC (λ fh=>?_) (λ _=>aW (by omega) (aW (by omega) ⟨_,by omega,k+1,_,_,rfl,rfl,rfl,by omega,ke (k:=k) cI jC (by unfold cK; repeat' split; all_goals omega) (by omega),hs⟩)));have hz:ht (xs.take q)=none:=jB (l:=xs.take q) (k:=k+1) (by rw [List.take_take,Nat.min_eq_left (by omega)]; exact mo (k:=k) cI jC (m:=n) (by unfold cK; repeat' split; all_goals omega) (by omega));rw [hz];exact ⟨rfl,hs.aD⟩
  intro Rc;refine dN ?_;intro Gp;refine aN (aC (λ fh=>?_) (λ _=>aW (by omega) (aW (by omega) ⟨_,by omega,k+1,_,_,rfl,rfl,rfl,by omega,ke (k:=k) cI jC (by unfold cK; repeat' split; all_goals omega) (by omega),hs⟩)));have hz:ht (xs.take q)=none:=jB (l:=xs.take q) (k:=k+1) (by rw [List.take_take,Nat.min_eq_left (by omega)]; exact mo (k:=k) cI jC (m:=n) (by unfold cK; repeat' split; all_goals omega) (by omega));rw [hz];exact ⟨rfl,hs.aD⟩
 rw [show q=k from by omega,jC];exact ⟨rfl,hs.aD⟩
theorem C140 (sv:Value) (xs:List gC) (many:Int) (w:World) (hL:ee (λ _=>True) w sv xs) (hn:xs.length<=1048576):CR 140 [sv,.int .i64 many] w (λ v w'=>v = .bool (cW xs many)/\Ext w w'):=by
 have hs:=St.start w;refine Ls _ _ _ _ ?_;unfold S140;refine ⟨λ m x w1=>∃ k:Nat,x = .int .i64 (k:Int)/\m=xs.length - k/\k<=xs.length/\(∀ y∈xs.take k,e9 many y=false)/\St w aZ [] w1,⟨_,0,rfl,rfl,Nat.zero_le _,by simp,hs⟩,?_⟩;rintro m _ w1 ⟨k,rfl,rfl,hk,gT,hs⟩ _;refine aI e8 (hL.ext hs.aD) (aN (aC (λ ik=>?_) (λ ik=>⟨_,aI e8 (hL.ext hs.aD) (cY (aC (λ Wh=>aI e8 (hL.ext hs.aD) (fW (aC (λ HN=>?_) (λ HN=>?_)))) (λ Wh=>?_))),λ _ _ h=>h⟩)))
 ·obtain ⟨AN,ql⟩:∃ xx,(xs)[((k:Int)).toNat]? = some xx:=⟨_,List.getElem?_eq_getElem (by omega)⟩;refine aR e8 (hL.ext hs.aD) (by omega) ql (λ _ HS=>dO (AN).kind eO HS rfl rfl (λ _ Wi=>have hs:=hs.drew;aO bK (Wi) (aR e8 (hL.ext hs.aD) (by omega) ql (λ _ rH=>dO (AN).n iK rH rfl rfl (λ _ AM=>aO bK (AM) ⟨λ jv w'=>jv = .bool (e9 many AN)/\St w aZ [] w',aN (aC (λ gY=>?_) (λ gY=>?_)),?_⟩)))))
  ·refine ⟨vb ?_,hs⟩;unfold e9
   first | exact (decide_eq_true (by omega)).symm | exact (decide_eq_false (by omega)).symm | exact decide_eq_decide.2 (by omega)
  ·refine cC (aC (λ HT=>?_) (λ HT=>aF (aC (λ nL=>?_) (λ nL=>aF (aC (λ L8=>aN (aC (λ L9=>?_) (λ L9=>cY (aC (λ Ma=>?_) (λ Ma=>cC (aC (λ Mb=>?_) (λ Mb=>?_))))))) (λ L8=>cC (aC (λ Mc=>?_) (λ Mc=>?_))))))))
   ·refine ⟨vb ?_,hs⟩;unfold e9
    first | exact (decide_eq_true (by omega)).symm | exact (decide_eq_false (by omega)).symm | exact decide_eq_decide.2 (by omega)
   ·refine aN (aC (λ vt=>?_) (λ vt=>cC (aC (λ xJ=>?_) (λ xJ=>aF (aC (λ Ei=>aN (aC (λ Wj=>?_) (λ Wj=>cY (aC (λ AO=>?_) (λ AO=>cC (aC (λ xK=>?_) (λ xK=>?_))))))) (λ Ei=>cC (aC (λ Md=>?_) (λ Md=>?_))))))))
    ·refine ⟨vb ?_,hs⟩;unfold e9
     first | exact (decide_eq_true (by omega)).symm | exact (decide_eq_false (by omega)).symm | exact decide_eq_decide.2 (by omega)
    ·refine ⟨vb ?_,hs⟩;unfold e9
     first | exact (decide_eq_true (by omega)).symm | exact (decide_eq_false (by omega)).symm | exact decide_eq_decide.2 (by omega)
    ·refine ⟨vb ?_,hs⟩;unfold e9
     first | exact (decide_eq_true (by omega)).symm | exact (decide_eq_false (by omega)).symm | exact decide_eq_decide.2 (by omega)
    ·refine ⟨vb ?_,hs⟩;unfold e9
     first | exact (decide_eq_true (by omega)).symm | exact (decide_eq_false (by omega)).symm | exact decide_eq_decide.2 (by omega)
    ·refine bJ ?_;refine ⟨vb ?_,hs⟩;unfold e9
     first | exact (decide_eq_true (by omega)).symm | exact (decide_eq_false (by omega)).symm | exact decide_eq_decide.2 (by omega)
    ·refine ⟨vb ?_,hs⟩;unfold e9
     first | exact (decide_eq_true (by omega)).symm | exact (decide_eq_false (by omega)).symm | exact decide_eq_decide.2 (by omega)
    ·refine bJ ?_;refine ⟨vb ?_,hs⟩;unfold e9
     first | exact (decide_eq_true (by omega)).symm | exact (decide_eq_false (by omega)).symm | exact decide_eq_decide.2 (by omega)
    refine ⟨vb ?_,hs⟩;unfold e9
    first | exact (decide_eq_true (by omega)).symm | exact (decide_eq_false (by omega)).symm | exact decide_eq_decide.2 (by omega)
   ·refine ⟨vb ?_,hs⟩;unfold e9
    first | exact (decide_eq_true (by omega)).symm | exact (decide_eq_false (by omega)).symm | exact decide_eq_decide.2 (by omega)
   ·refine ⟨vb ?_,hs⟩;unfold e9
    first | exact (decide_eq_true (by omega)).symm | exact (decide_eq_false (by omega)).symm | exact decide_eq_decide.2 (by omega)
   ·refine bJ ?_;refine ⟨vb ?_,hs⟩;unfold e9
    first | exact (decide_eq_true (by omega)).symm | exact (decide_eq_false (by omega)).symm | exact decide_eq_decide.2 (by omega)
   ·refine ⟨vb ?_,hs⟩;unfold e9
    first | exact (decide_eq_true (by omega)).symm | exact (decide_eq_false (by omega)).symm | exact decide_eq_decide.2 (by omega)
   ·refine bJ ?_;refine ⟨vb ?_,hs⟩;unfold e9
    first | exact (decide_eq_true (by omega)).symm | exact (decide_eq_false (by omega)).symm | exact decide_eq_decide.2 (by omega)
   refine ⟨vb ?_,hs⟩;unfold e9
   first | exact (decide_eq_true (by omega)).symm | exact (decide_eq_false (by omega)).symm | exact decide_eq_decide.2 (by omega)
  rintro _ _ ⟨rfl,hs⟩ _;refine bD (λ nN=>?_) (λ nN=>aW (by omega) ⟨xs.length - (k+1),by omega,k+1,rfl,rfl,by omega,fY gT ql nN,hs⟩);refine ⟨vb ?_,hs.aD⟩;unfold cW;rw [yM ql nN]; simp
 ·refine aI e8 (hL.ext hs.aD) (bF Vs hs (C200 _ _ xs.length _ (hL.ext hs.aD) (Nat.le_refl _) (by omega)) (λ _ he hs=>aF ?_));intro rE;rw [List.take_of_length_le (by omega)] at gT;refine ⟨vb ?_,hs.aD⟩;unfold cW Ou;rw [sQ gT]
  by_cases Rd:xs.length<=40
  rotate_left
  ·rw [decide_eq_false Rd]; first | rfl | (exfalso; omega)
  cases jC:ht xs with
  | none=>first | rfl | (rw [List.take_of_length_le (Nat.le_refl _),jC]; simp) | (have:ht ([]:List gC)=some (0,0):=rfl; simp_all; done) | (simp; omega)
  | some p=>first | (rw [List.take_of_length_le (Nat.le_refl _),jC]; simp; omega) | (have h0:ht ([]:List gC)=some (0,0):=rfl; obtain rfl:xs=[]:=List.length_eq_zero_iff.1 (by omega); rw [h0] at jC; rw [<- Option.some.inj jC]; rfl) | (simp; omega)
 ·intro rE;rw [List.take_of_length_le (by omega)] at gT;refine ⟨vb ?_,hs.aD⟩;unfold cW Ou;rw [sQ gT]
  by_cases Rd:xs.length<=40
  rotate_left
  ·rw [decide_eq_false Rd]; first | rfl | (exfalso; omega)
  cases jC:ht xs with
  | none=>first | rfl | (rw [List.take_of_length_le (Nat.le_refl _),jC]; simp) | (have:ht ([]:List gC)=some (0,0):=rfl; simp_all; done) | (simp; omega)
  | some p=>first | (rw [List.take_of_length_le (Nat.le_refl _),jC]; simp; omega) | (have h0:ht ([]:List gC)=some (0,0):=rfl; obtain rfl:xs=[]:=List.length_eq_zero_iff.1 (by omega); rw [h0] at jC; rw [<- Option.some.inj jC]; rfl) | (simp; omega)
 intro rE;rw [List.take_of_length_le (by omega)] at gT;refine ⟨vb ?_,hs.aD⟩;unfold cW Ou;rw [sQ gT]
 by_cases Rd:xs.length<=40
 rotate_left
 ·rw [decide_eq_false Rd]; first | rfl | (exfalso; omega)
 cases jC:ht xs with
 | none=>first | rfl | (rw [List.take_of_length_le (Nat.le_refl _),jC]; simp) | (have:ht ([]:List gC)=some (0,0):=rfl; simp_all; done) | (simp; omega)
 | some p=>first | (rw [List.take_of_length_le (Nat.le_refl _),jC]; simp; omega) | (have h0:ht ([]:List gC)=some (0,0):=rfl; obtain rfl:xs=[]:=List.length_eq_zero_iff.1 (by omega); rw [h0] at jC; rw [<- Option.some.inj jC]; rfl) | (simp; omega)
def jF (b:Nat) (rest:List Value) (l:List Int):HP:=ui λ sv=>sep (cZ b (sv::rest)) (bR sv l)
theorem jF.shut {w0 w:World} {A:Nat->Prop} {R:List HP} {b:Nat} {rest:List Value} {sv:Value} {l:List Int} (hs:St w0 A (cZ b (sv::rest)::bR sv l::R) w):St w0 A (jF b rest l::R) w:=
 St.fO (H:=λ sv=>sep (cZ b (sv::rest)) (bR sv l)) sv (St.join hs)
theorem jF.open {w0 w:World} {A:Nat->Prop} {R:List HP} {b:Nat} {rest:List Value} {l:List Int} (hs:St w0 A (jF b rest l::R) w):∃ sv,St w0 A (cZ b (sv::rest)::bR sv l::R) w:=by
 obtain ⟨sv,hs⟩:=hs.gK; exact ⟨sv,hs.split⟩
def fb (l:List Int):Int:=l.getD (l.length - 1) 0
theorem mQ {l:List Int} {e:Int} (h:l[((l.length:Int) - 1).toNat]? = some e):e=fb l:=by
 unfold fb
 rw [List.getD_eq_getElem?_getD,show l.length - 1=((l.length:Int) - 1).toNat from by omega,h]; rfl
theorem C216 (b:Nat) (n:Int) (rest:List Value) (l:List Int) (F:Nat->Prop) (w:World) (hF:(jF b rest l).p w F) (hn:l.length<=1048576):CR 216 [.pointer (some ⟨b,0,none⟩),.int .i64 n] w (λ v w'=>v = .tuple #[]/\D8 F (jF b rest (l++[n])) w w'):=by
 have hs:=St.begin hF;obtain ⟨sv,hs⟩:=hs.gK;have hs:=hs.split;refine jT Tryz.func216 ?_;refine aE (aA kq (aB cT hs.hb rfl (cM (([n]:List Int)) hs cB rfl rfl (ft rfl) (λ s_x10 _ hs=>?_))));have Re:=(hs).jo;exact cN hs.p2 cB Re (by simp <;> omega) (by decide) (λ _ _ hs=>have hs:=hs.p1.drop;aE (aA kq (bH hs.p1 cT (ft rfl) ((hs).jo.one) (λ _ hs=>have hs:=hs.p1.p1;⟨rfl,(jF.shut hs).mut⟩))))
theorem C174 (b:Nat) (rest:List Value) (l:List Int) (F:Nat->Prop) (w:World) (hF:(jF b rest l).p w F) (hn:l.length<=1048576) (h0:0<l.length):CR 174 [.pointer (some ⟨b,0,none⟩)] w (λ v w'=>v = .int .i64 (fb l)/\D8 F (jF b rest (l.take (l.length - 1))) w w'):=by
 have hs:=St.begin hF;obtain ⟨sv,hs⟩:=hs.gK;have hs:=hs.split;refine Cs Tryz.func174 (pl:=ab8) ?_;refine aE (aA kq (have hs:=hs.drew;aB cT hs.hb rfl (aE (aA kq (aB cT hs.hb rfl (aI cB (hs.p1).jo (eC (by omega) ?_)))))));obtain ⟨iz,cI⟩:=gx (l) (i:=((((l).length:Int) - 1)).toNat) (by omega);refine eu hs.p1 cB (by omega) (by omega) (λ _ jD=>iq hs.p1 bK jD cI (aE (aA kq (have hs:=hs.drew;aB cT hs.hb rfl (aE (aA kq (aB cT hs.hb rfl (aI cB (hs.p1).jo (eC (by omega) (have hs:=hs.p1;vl cB hs (by omega) (by omega) (λ HU hs=>aE (aA kq ?_))))))))))))
 refine bH hs.p1 cT (ft rfl) ((hs).jo.one) (λ _ hs=>?_);have hs:=hs.p1.p1;rw [show ((l.length:Int) - 1).toNat=l.length - 1 from by omega] at hs;rw [mQ cI];exact ⟨rfl,(jF.shut hs).mut⟩
theorem C172 (b:Nat) (n hi:Int) (l:List Int) (F:Nat->Prop) (w:World) (hF:(jF b [.int .i64 hi] l).p w F) (hn:l.length<=1048576):CR 172 [.pointer (some ⟨b,0,none⟩),.int .i64 n] w (λ v w'=>v = .tuple #[]/\∃ zQ,D8 F (jF b [.int .i64 zQ] (l++[n])) w w'):=by
 have hs:=St.begin hF;refine Cs Tryz.func172 (pl:=ab7) ?_;refine aE (aA mL (kU Vv hs (H':=λ _=>jF b [.int .i64 hi] (l++[n])) (Φ:=λ v _=>v = .tuple #[]) (λ F hF=>?_) ?_))
 ·exact C216 b n _ l F _ hF (by omega)
 rintro _ _ rfl hs;obtain ⟨sv,hs⟩:=jF.open hs;exact aE (aA Ar (have hs:=hs.drew;aB bK hs.hb rfl (aE (aA mL (aA kq (aB cT hs.hb rfl (aI cB (hs.p1).jo (D9 (aE (aA Ar (bH hs bK (ft rfl) (rfl) (λ _ hs=>have hs:=hs.p1.p1;⟨rfl,_,(jF.shut hs).mut⟩))))))))))))
def gZ (ns S:List Int) (x:gC):List Int:=
 if cK x.kind=0 then S++[if x.kind=2 then ns.getD x.n.toNat 0 else x.n]
 else if cK x.kind=1 then S.take (S.length - 1)++[pE x.kind (fb S)]
 else S.take (S.length - 2)++[eL x.kind (fb (S.take (S.length - 1))) (fb S)]
def vw (S:List Int) (x:gC):Int:=if cK x.kind=2 then eN x.kind (fb S) else 0
def sR (ns:List Int):List gC->List Int->Int × Int
 | [],S=>(fb S,0)
 | x::r,S=>if vw S x=0 then sR ns r (gZ ns S x) else (0,vw S x)
def runM (l:List gC) (ns:List Int):Int × Int:=if cW l ns.length=true then sR ns l [] else (0,8)
theorem rI (k:Int):cK k=0\/cK k=1\/cK k=2:=by
 unfold cK
 repeat' split
 all_goals omega
section
variable {xs:List gC} {ns S:List Int} {k:Nat} {x:gC} {n h:Int}
theorem kX (hx:xs[k]? = some x) (h:vw S x=0):sR ns (xs.drop k) S=sR ns (xs.drop (k+1)) (gZ ns S x):=by
 obtain ⟨hk,he⟩:=List.getElem?_eq_some_iff.1 hx
 rw [List.drop_eq_getElem_cons hk,he,sR,if_pos h]
theorem AP (hx:xs[k]? = some x) (h:¬ vw S x=0):sR ns (xs.drop k) S=(0,vw S x):=by
 obtain ⟨hk,he⟩:=List.getElem?_eq_some_iff.1 hx
 rw [List.drop_eq_getElem_cons hk,he,sR,if_neg h]
theorem mq {many:Int} (h:cW xs many=true):xs.length<=40/\(∃ a,ht xs=some (1,a))/\∀ x∈xs,e9 many x=false:=by
 unfold cW at h
 rw [Bool.and_eq_true,Bool.and_eq_true,Bool.and_eq_true,decide_eq_true_eq,decide_eq_true_eq] at h
 obtain ⟨⟨⟨h1,h2⟩,h3⟩,h4⟩:=h
 refine ⟨h1,?_,λ x hx=>?_⟩
 ·unfold Ou at h3
  cases hh:ht xs with
  | none=>rw [hh] at h2; cases h2
  | some p=>rw [hh] at h3; exact ⟨p.2,by rw [<- h3]⟩
 have:xs.any (e9 many)=false:=by simpa using h4
 rw [List.any_eq_false] at this
 simpa using this x hx
theorem Fs (hw:cK x.kind<=(S.length:Int)):((gZ ns S x).length:Int)=S.length - cK x.kind+1:=by
 unfold gZ
 rcases rI x.kind with h | h | h
 ·rw [if_pos h,h,List.length_append,List.length_singleton]; omega
 ·rw [if_neg (by omega),if_pos h,h,List.length_append,List.length_take,List.length_singleton]; omega
 rw [if_neg (by omega),if_neg (by omega),h,List.length_append,List.length_take,List.length_singleton]; omega
theorem xL {a:Int} (jq:ht xs=some (1,a)) (jC:ht (xs.take k)=some ((S.length:Int),h)) (hx:xs[k]? = some x) :
  cK x.kind<=(S.length:Int)/\∃ h',ht (xs.take (k+1))=some (((gZ ns S x).length:Int),h'):=by
 have hw:cK x.kind<=(S.length:Int):=by
  rcases Int.lt_or_le ((S.length:Int) - cK x.kind) 0 with h1 | h1
  ·have:=jB (mo hx jC rfl h1); rw [jq] at this; cases this
  ·omega
 exact ⟨hw,_,(ke hx jC rfl (by omega)).trans (by rw [Fs hw])⟩
theorem HV (hw:cK x.kind=0) (h2:¬ x.kind=2):gZ ns S x=S++[x.n]:=by unfold gZ; rw [if_pos hw,if_neg h2]
theorem HW {e:Int} (hw:cK x.kind=0) (h2:x.kind=2) (he:ns[x.n.toNat]? = some e):gZ ns S x=S++[e]:=by
 unfold gZ; rw [if_pos hw,if_pos h2,List.getD_eq_getElem?_getD,he]; rfl
theorem CE (hw:cK x.kind=1):gZ ns S x=S.take (S.length - 1)++[pE x.kind (fb S)]:=by unfold gZ; rw [if_neg (by omega),if_pos hw]
theorem HX (hw:cK x.kind=2):gZ ns S x=S.take (S.length - 2)++[eL x.kind (fb (S.take (S.length - 1))) (fb S)]:=by unfold gZ; rw [if_neg (by omega),if_neg (by omega)]
theorem vx (hw:¬ cK x.kind=2):vw S x=0:=by unfold vw; rw [if_neg hw]
theorem Ej (hw:cK x.kind=2):vw S x=eN x.kind (fb S):=by unfold vw; rw [if_pos hw]
theorem CF (h:2<=S.length):(S.take (S.length - 1)).take ((S.take (S.length - 1)).length - 1)=S.take (S.length - 2):=by
 rw [List.take_take,List.length_take]; congr 1; omega
end
def iD (b:Nat) (l:List Int):HP:=ui fun (hi:Int)=>jF b [.int .i64 hi] l
theorem iD.shut {w0 w:World} {A:Nat->Prop} {R:List HP} {b:Nat} {hi:Int} {l:List Int} (hs:St w0 A (jF b [.int .i64 hi] l::R) w):St w0 A (iD b l::R) w:=
 St.fO (H:=fun (hi:Int)=>jF b [.int .i64 hi] l) hi hs
theorem Me (b:Nat) (n:Int) (l:List Int) (F:Nat->Prop) (w:World) (hF:(iD b l).p w F) (hn:l.length<=1048576) :
  Calls PG 172 [.pointer (some ⟨b,0,none⟩),.int .i64 n].toArray w (mE λ v w'=>v = .tuple #[]/\D8 F (iD b (l++[n])) w w'):=by
 obtain ⟨hi,hF⟩:=hF
 refine (C172 b n hi l F w hF hn).mono λ e w' ⟨v,he,hv,zQ,F',h1,h2⟩=>⟨v,he,hv,F',⟨zQ,h1⟩,h2⟩
theorem Mf (b:Nat) (l:List Int) (F:Nat->Prop) (w:World) (hF:(iD b l).p w F) (hn:l.length<=1048576) (h0:0<l.length) :
  Calls PG 174 [.pointer (some ⟨b,0,none⟩)].toArray w (mE λ v w'=>v = .int .i64 (fb l)/\D8 F (iD b (l.take (l.length - 1))) w w'):=by
 obtain ⟨hi,hF⟩:=hF
 refine (C174 b [.int .i64 hi] l F w hF hn h0).mono λ e w' ⟨v,he,hv,F',h1,h2⟩=>⟨v,he,hv,F',⟨hi,h1⟩,h2⟩
theorem C110 (sv nv:Value) (xs:List gC) (ns:List Int) (w:World) (hL:ee (λ _=>True) w sv xs) (hN:ee (λ _=>True) w nv ns) (hn:xs.length<=1048576):CR 110 [sv,nv] w (λ v w'=>v = .tuple #[.int .i64 (runM xs ns).1,.int .i64 (runM xs ns).2]/\Ext w w'):=by
 have hs:=St.start w;refine Lj _ _ _ _ ?_;unfold S110;refine aI cB (hN.ext hs.aD) (bF DW hs (C116 _ _ _ _ (hL.ext hs.aD) hn) (λ w1 he hs=>bO (bD (λ iM=>?_) (λ iM=>?_))))
 ·unfold runM;rw [if_neg (by simpa using iM)];exact ⟨rfl,hs.aD⟩
 refine bT hs LW (λ oI _ hs=>?_);have hs:=iD.shut (jF.shut (hs.fF (α:=Int)).p1);have mP:cW xs (ns.length:Int)=true:=by simpa using iM
 obtain ⟨Rd,⟨a0,jq⟩,Rf⟩:=mq mP;refine aI e8 (hL.ext hs.aD) ?_;refine ⟨λ m x w1=>∃ (k:Nat) (S:List Int) (h:Int),x = .int .i64 (k:Int)/\m=xs.length - k/\k<=xs.length/\sR ns xs []=sR ns (xs.drop k) S/\ht (xs.take k)=some ((S.length:Int),h)/\St w aZ [iD oI S] w1,⟨_,0,[],0,rfl,rfl,by omega,rfl,rfl,hs⟩,?_⟩;rintro m _ _ ⟨k,S,h,rfl,rfl,hk,lB,jC,hs⟩ _;refine aN (aC (λ mR=>?_) (λ mR=>?_))
 ·refine ⟨_,?_,λ _ h=>h⟩;obtain ⟨gR,gV⟩:=gx (xs) (i:=((k:Int)).toNat) (by omega);refine aR e8 (hL.ext hs.aD) (by omega) gV (λ _ vy=>aO Ap (vy) (bT hs D6 (λ acw _ hs=>cO (x:=gR) hs Ap rfl rfl (λ _ hs=>aA eO (aB bK hs.hb rfl (bF N9 hs (C171 _ _) (λ _ he hs=>?_)))))));have DJ:=Rf _ (List.mem_of_getElem? gV);unfold e9 at DJ;have ho:=of_decide_eq_false DJ;obtain ⟨Wk,h2,wZ⟩:=xL (ns:=ns) (k:=k) jq jC gV;have hwk:cK gR.kind=0->gR.kind=1\/gR.kind=2\/¬ (gR.kind=1\/gR.kind=2):=λ _=>by omega
  have hSk:=Fq k _ _ (by omega) jC;have hw3:=rI gR.kind;refine aF (aC (λ HY=>aA iK (aB bK hs.hb rfl ⟨_,aA eO (aB bK hs.hb rfl (aF (aC (λ AO=>?_) (λ AO=>?_)))),λ _ _ h=>h⟩)) (λ HY=>aF (aC (λ rJ=>?_) (λ rJ=>?_))))
  ·refine aA iK (aB bK hs.hb rfl ?_);obtain ⟨OA,HZ⟩:=gx (ns) (i:=((gR).n).toNat) (by omega);refine aR cB (hN.ext hs.aD) (by omega) HZ (λ _ AQ=>aO bK (AQ) ?_);intro kD;refine kU DX hs.p1 (H':=λ _=>iD oI (S++[OA])) (Φ:=λ v _=>v = .tuple #[]) (λ F hF=>?_) ?_
   ·exact Me oI OA S F _ hF (by first | omega | (simp only [List.length_take,List.length_append,List.length_singleton]; omega))
   rintro _ w8 rfl hs;intro rE;refine aW (by omega) ?_;have hs:=(hs.p1).drop;have hst:gZ ns S gR=_:=HW HY AO HZ;exact ⟨_,by omega,k+1,_,_,rfl,rfl,by omega,lB.trans (kX (k:=k) gV (vx (by omega))),wZ,by rw [hst]; exact hs⟩
  ·intro kD;refine kU DX hs.p1 (H':=λ _=>iD oI (S++[(gR).n])) (Φ:=λ v _=>v = .tuple #[]) (λ F hF=>?_) ?_
   ·exact Me oI (gR).n S F _ hF (by first | omega | (simp only [List.length_take,List.length_append,List.length_singleton]; omega))
   rintro _ w8 rfl hs;intro rE;refine aW (by omega) ?_;have hs:=(hs.p1).drop;have hst:gZ ns S gR=_:=HV HY AO;exact ⟨_,by omega,k+1,_,_,rfl,rfl,by omega,lB.trans (kX (k:=k) gV (vx (by omega))),wZ,by rw [hst]; exact hs⟩
  ·refine aA eO (have hs:=hs.drew;aB bK hs.hb rfl (aA mL (kU DY hs.p1 (H':=λ _=>iD oI (S.take (S.length - 1))) (Φ:=λ v _=>v = .int .i64 (fb S)) (λ F hF=>?_) ?_)))
   ·exact Mf oI S F _ hF (by first | omega | (simp only [List.length_take,List.length_append,List.length_singleton]; omega)) (by first | omega | (simp only [List.length_take,List.length_append,List.length_singleton]; omega))
   rintro _ _ rfl hs;refine ⟨aH bK (hs.p1.hb.cell rfl),?_⟩;refine bF Va hs (C173 _ _ _) (λ _ he hs=>bI rfl (bI rfl (kU DX hs (H':=λ _=>iD oI ((S.take (S.length - 1))++[(pE (gR).kind (fb S))])) (Φ:=λ v _=>v = .tuple #[]) (λ F hF=>?_) ?_)))
   ·exact Me oI (pE (gR).kind (fb S)) (S.take (S.length - 1)) F _ hF (by first | omega | (simp only [List.length_take,List.length_append,List.length_singleton]; omega))
   rintro _ _ rfl hs;intro rE;refine aW (by omega) ?_;have hs:=(hs.p1).drop;have hst:gZ ns S gR=_:=CE rJ;exact ⟨_,by omega,k+1,_,_,rfl,rfl,by omega,lB.trans (kX (k:=k) gV (vx (by omega))),wZ,by rw [hst]; exact hs⟩
  refine aA mL (kU DY hs.p1 (H':=λ _=>iD oI (S.take (S.length - 1))) (Φ:=λ v _=>v = .int .i64 (fb S)) (λ F hF=>?_) ?_)
  ·exact Mf oI S F _ hF (by first | omega | (simp only [List.length_take,List.length_append,List.length_singleton]; omega)) (by first | omega | (simp only [List.length_take,List.length_append,List.length_singleton]; omega))
  rintro _ _ rfl hs;refine aA eO (have hs:=hs.drew;aB bK hs.p1.hb rfl (aA mL (kU DY hs (H':=λ _=>iD oI ((S.take (S.length - 1)).take ((S.take (S.length - 1)).length - 1))) (Φ:=λ v _=>v = .int .i64 (fb (S.take (S.length - 1)))) (λ F hF=>?_) ?_)))
  ·exact Mf oI (S.take (S.length - 1)) F _ hF (by first | omega | (simp only [List.length_take,List.length_append,List.length_singleton]; omega)) (by first | omega | (simp only [List.length_take,List.length_append,List.length_singleton]; omega))
  rintro _ _ rfl hs;refine ⟨aH bK (hs.p1.hb.cell rfl),?_⟩;refine bF Vb hs (C175 _ _ _ _) (λ _ he hs=>bI rfl (bI rfl (bJ (aC (λ jE=>?_) (λ jE=>?_)))))
  ·have hz:vw S gR=eN gR.kind (fb S):=Ej (by have:=rI gR.kind; omega);unfold runM;rw [if_pos mP,lB,AP (k:=k) gV (by rw [hz]; exact jE),hz];exact ⟨rfl,hs.aD⟩
  refine kU DX hs (H':=λ _=>iD oI (((S.take (S.length - 1)).take ((S.take (S.length - 1)).length - 1))++[(eL (gR).kind (fb (S.take (S.length - 1))) (fb S))])) (Φ:=λ v _=>v = .tuple #[]) (λ F hF=>?_) ?_
  ·exact Me oI (eL (gR).kind (fb (S.take (S.length - 1))) (fb S)) ((S.take (S.length - 1)).take ((S.take (S.length - 1)).length - 1)) F _ hF (by first | omega | (simp only [List.length_take,List.length_append,List.length_singleton]; omega))
  rintro _ _ rfl hs;intro rE;refine aW (by omega) ?_;have hs:=(hs.p1).drop;rw [CF (by omega)] at hs;have hst:gZ ns S gR=_:=HX (by have:=rI gR.kind; omega);exact ⟨_,by omega,k+1,_,_,rfl,rfl,by omega,lB.trans (kX (k:=k) gV ((Ej (by have:=rI gR.kind; omega)).trans (Decidable.not_not.1 jE))),wZ,by rw [hst]; exact hs⟩
 refine aA mL ?_
 have hS1:S.length=1:=by
  rw [List.take_of_length_le (by omega),jq] at jC;have:=(Prod.mk.inj (Option.some.inj jC)).1;omega
 refine kU DY hs (H':=λ _=>iD oI (S.take (S.length - 1))) (Φ:=λ v _=>v = .int .i64 (fb S)) (λ F hF=>?_) ?_
 ·exact Mf oI S F _ hF (by first | omega | (simp only [List.length_take,List.length_append,List.length_singleton]; omega)) (by first | omega | (simp only [List.length_take,List.length_append,List.length_singleton]; omega))
 rintro _ _ rfl hs;unfold runM;rw [if_pos mP,lB,List.drop_eq_nil_of_le (by omega)];exact ⟨rfl,hs.aD⟩
theorem H0 (x:Int):eD (kW x):=by unfold eD kW; rw [IntKind.wrap_i64]; omega
theorem Mg {a:Int} (b:Int) (ha:eD a):eD (a.tmod b):=by
 have hs:(a.tmod b).natAbs<=a.natAbs:=by rw [Int.natAbs_tmod]; exact Nat.mod_le _ _
 unfold eD at *
 rcases Int.le_total 0 a with h | h
 ·have:=Int.tmod_nonneg b h; omega
 have:=Int.tmod_nonneg (a:=-a) b (by omega)
 rw [Int.neg_tmod] at this; omega
theorem H6 (p:Bool):eD (CB p):=by cases p <;> (unfold eD CB; decide)
theorem kY:eD 0:=by unfold eD; decide
theorem Rg {op a b:Int} (ha:eD a):eD (eL op a b):=by
 unfold eL
 by_cases h:eN op b=0
 ·rw [if_pos h]
  unfold gQ vq
  repeat' split
  all_goals first | exact H0 _ | exact H6 _ | exact kY | exact Mg _ ha
 rw [if_neg h]; exact kY
theorem Rh {op a:Int}:eD (pE op a):=by
 unfold pE
 repeat' split
 all_goals first | exact H0 _ | exact H6 _ | exact kY
def qF (S:List Int):Prop:=∀ v∈S,eD v
theorem AR {S:List Int} (h:qF S):eD (fb S):=by
 unfold fb
 rw [List.getD_eq_getElem?_getD]
 cases hh:S[S.length - 1]? with
 | none=>exact kY
 | some e=>exact h e (List.mem_of_getElem? hh)
theorem qF.take {S:List Int} (h:qF S) (k:Nat):qF (S.take k):=λ v hv=>h v (List.mem_of_mem_take hv)
theorem qF.snoc {S:List Int} {e:Int} (h:qF S) (he:eD e):qF (S++[e]):=λ v hv=>by
 rcases List.mem_append.1 hv with hv | hv
 ·exact h v hv
 ·rw [List.mem_singleton.1 hv]; exact he
theorem AS {ns S:List Int} {x:gC} {many:Int} (Gq:qF ns) (hS:qF S) (ho:e9 many x=false):qF (gZ ns S x):=by
 unfold e9 at ho
 have ho:=of_decide_eq_false ho
 unfold gZ
 split
 ·rename_i hw
  split
  ·rw [List.getD_eq_getElem?_getD]
   cases hh:ns[x.n.toNat]? with
   | none=>exact hS.snoc kY
   | some e=>exact hS.snoc (Gq e (List.mem_of_getElem? hh))
  refine hS.snoc ?_
  unfold cK at hw
  unfold eD
  repeat' split at hw
  all_goals omega
 split
 ·exact (hS.take _).snoc Rh
 exact (hS.take _).snoc (Rg (AR (hS.take _)))
theorem vz {S:List Int} {m:Nat} {v:Int} (h0:0<m) (hm:m<=S.length):(S.take m).set (m - 1) v=S.take (m - 1)++[v]:=by
 refine List.ext_getElem? λ i=>?_
 rw [List.getElem?_set,List.length_take]
 by_cases h:m - 1=i
 ·subst h
  rw [if_pos rfl,if_pos (by omega),List.getElem?_append_right (by rw [List.length_take]; omega),List.length_take,Nat.min_eq_left (by omega),Nat.sub_self]; rfl
 rw [if_neg h]
 rcases Nat.lt_or_ge i (m - 1) with h1 | h1
 ·rw [List.getElem?_append_left (by rw [List.length_take]; omega),List.getElem?_take,List.getElem?_take,if_pos (by omega),if_pos h1]
 rw [List.getElem?_eq_none (by rw [List.length_take]; omega),List.getElem?_eq_none (by rw [List.length_append,List.length_take,List.length_singleton]; omega)]
theorem CG {l:List Int} {e:Int} (h2:2<=l.length) (h:l[((l.length:Int) - 1 - 1).toNat]? = some e):e=fb (l.take (l.length - 1)):=by
 unfold fb
 rw [List.getD_eq_getElem?_getD,List.length_take,List.getElem?_take,if_pos (by omega),show min (l.length - 1) l.length - 1=((l.length:Int) - 1 - 1).toNat from by omega,h]; rfl
theorem Ft {l:List Int} {e:Int} (h1:l.length=1) (h:l[(0:Int).toNat]? = some e):e=fb l:=by
 unfold fb
 rw [List.getD_eq_getElem?_getD,h1]
 have:l[1 - 1]? = some e:=h
 rw [this]; rfl
theorem C142 (sv nv:Value) (xs:List gC) (ns:List Int) (w:World) (hL:ee (λ _=>True) w sv xs) (hN:ee (λ _=>True) w nv ns) (hn:xs.length<=1048576) (Gq:qF ns):CR 142 [sv,nv] w (λ v w'=>v = .tuple #[.int .i64 (runM xs ns).1,.int .i64 (runM xs ns).2]/\Ext w w'):=by
 have hs:=St.start w;refine Lu _ _ _ _ ?_;unfold S142;refine aI cB (hN.ext hs.aD) (bF uR hs (C140 _ _ _ _ (hL.ext hs.aD) hn) (λ w1 he hs=>bO (bD (λ mP=>?_) (λ mP=>?_))))
 ·unfold runM;rw [if_neg (by simpa using mP)];exact ⟨rfl,hs.aD⟩
 have Ri:cW xs (ns.length:Int)=true:=by simpa using mP
 obtain ⟨Rd,⟨a0,jq⟩,Rf⟩:=mq Ri;refine cM (([]:List Int)) hs cB rfl rfl (ft rfl) (λ Wl _ hs=>?_);refine ⟨λ m y x w1=>∃ (k:Nat) (S:List Int) (h:Int),x = .int .i64 (k:Int)/\m=xs.length - k/\k<=xs.length/\sR ns xs []=sR ns (xs.drop k) S/\ht (xs.take k)=some ((S.length:Int),h)/\qF S/\St w aZ [bR y S] w1,⟨_,0,[],0,rfl,rfl,by omega,rfl,rfl,λ _ hv=>by simp at hv,hs⟩,?_⟩;rintro m p6 _ _ ⟨k,S,h,rfl,rfl,hk,lB,jC,hS,hs⟩ _;refine aI e8 (hL.ext hs.aD) (aN (aC (λ mR=>?_) (λ mR=>?_)))
 ·refine ⟨_,?_,λ _ _ h=>h⟩;obtain ⟨gS,iE⟩:=gx (xs) (i:=((k:Int)).toNat) (by omega);refine aR e8 (hL.ext hs.aD) (by omega) iE (λ _ Ek=>dO (gS).kind eO Ek rfl rfl (λ _ Wm=>aO bK (Wm) (aI cB (hs).jo ?_)));have hSk0:=Fq k _ _ (by omega) jC;refine eC (by omega) ?_;have DJ:=Rf _ (List.mem_of_getElem? iE);have acx:=DJ;unfold e9 at DJ;have ho:=of_decide_eq_false DJ;obtain ⟨Wk,h2,wZ⟩:=xL (ns:=ns) (k:=k) jq jC iE;have hSk:=Fq k _ _ (by omega) jC;have Wn:=AS Gq hS acx
  have hwk:((gS.kind=1\/gS.kind=2)/\cK gS.kind=0)\/((gS.kind=3\/gS.kind=4)/\cK gS.kind=1)\/(5<=gS.kind/\gS.kind<=15/\cK gS.kind=2):=by
   unfold cK
   repeat' split
   all_goals omega
  refine aF (aC (λ vt=>?_) (λ vt=>aF (aC (λ fh=>?_) (λ fh=>⟨_,aF (aC (λ rK=>?_) (λ rK=>?_)),λ _ _ h=>h⟩))))
  ·refine aR e8 (hL.ext hs.aD) (by omega) iE (λ _ rL=>dO (gS).n iK rL rfl rfl (λ _ Wo=>aO bK (Wo) (cM (([(gS).n]:List Int)) hs cB rfl rfl (ft rfl) (λ s_x42 _ hs=>?_))));have Rj:=(hs).jo;refine cN hs.p1 cB Rj (by simp <;> omega) (by decide) (λ s_x43 _ hs=>?_);have hs:=hs.p1.drop;intro rE;refine aW (by omega) ?_;have hst:gZ ns S gS=_:=HV (by omega) (by omega);exact ⟨_,by omega,k+1,_,_,rfl,rfl,by omega,lB.trans (kX (k:=k) iE (vx (by omega))),wZ,Wn,by rw [hst]; exact hs⟩
  ·refine aR e8 (hL.ext hs.aD) (by omega) iE (λ _ AT=>dO (gS).n iK AT rfl rfl (λ _ AU=>aO bK (AU) ?_));obtain ⟨Wp,H7⟩:=gx (ns) (i:=((gS).n).toNat) (by omega);refine aR cB (hN.ext hs.aD) (by omega) H7 (λ _ Wq=>aO bK (Wq) (cM (([Wp]:List Int)) hs cB rfl rfl (ft rfl) (λ s_x55 _ hs=>?_)));have Rk:=(hs).jo;refine cN hs.p1 cB Rk (by simp <;> omega) (by decide) (λ s_x56 _ hs=>?_);have hs:=hs.p1.drop;intro rE;refine aW (by omega) ?_;have hst:gZ ns S gS=_:=HW (by omega) fh H7;exact ⟨_,by omega,k+1,_,_,rfl,rfl,by omega,lB.trans (kX (k:=k) iE (vx (by omega))),wZ,Wn,by rw [hst]; exact hs⟩
  ·intro kD;refine eZ ?_;obtain ⟨Wr,vA⟩:=gx (S) (i:=((((S).length:Int) - 1)).toNat) (by omega);refine eu hs cB (by omega) (by omega) (λ Ws H8=>iq hs bK H8 vA (bF Ob hs (C201 _ _ _) (λ w9 he hs=>bI rfl (bI rfl (eu hs cB (by omega) (by omega) (λ Wt H9=>kQ _ hs bK H9 (by omega) (λ w10 hs=>?_)))))));intro rE;refine aW (by omega) ?_;rw [mQ vA] at hs;have Ia:=vz (S:=S) (m:=S.length) (v:=pE gS.kind (fb S)) (by omega) (Nat.le_refl _);rw [List.take_length] at Ia;rw [show ((S.length:Int) - 1).toNat=S.length - 1 from by omega,Ia] at hs;have hst:gZ ns S gS=_:=CE (by omega)
   exact ⟨_,by omega,k+1,_,_,rfl,rfl,by omega,lB.trans (kX (k:=k) iE (vx (by omega))),wZ,Wn,by rw [hst]; exact hs⟩
  refine aF ?_;intro kD;refine aC (λ nN=>?_) (λ nN=>?_)
  ·obtain ⟨Wr,vA⟩:=gx (S) (i:=((((S).length:Int) - 1)).toNat) (by omega);refine eu hs cB (by omega) (by omega) (λ Ws H8=>iq hs bK H8 vA (bF Ob hs (C201 _ _ _) (λ w9 he hs=>bI rfl (bI rfl (eu hs cB (by omega) (by omega) (λ Wt H9=>kQ _ hs bK H9 (by omega) (λ w10 hs=>?_)))))));intro rE;refine aW (by omega) ?_;rw [mQ vA] at hs;have Ia:=vz (S:=S) (m:=S.length) (v:=pE gS.kind (fb S)) (by omega) (Nat.le_refl _);rw [List.take_length] at Ia;rw [show ((S.length:Int) - 1).toNat=S.length - 1 from by omega,Ia] at hs;have hst:gZ ns S gS=_:=CE (by omega)
   exact ⟨_,by omega,k+1,_,_,rfl,rfl,by omega,lB.trans (kX (k:=k) iE (vx (by omega))),wZ,Wn,by rw [hst]; exact hs⟩
  refine eC (by omega) ?_;obtain ⟨e_x81,CH⟩:=gx (S) (i:=(((((S).length:Int) - 1) - 1)).toNat) (by omega);refine eu hs cB (by omega) (by omega) (λ _ Wu=>have hs:=hs.drew;iq hs bK Wu CH ?_);obtain ⟨e_x85,vB⟩:=gx (S) (i:=((((S).length:Int) - 1)).toNat) (by omega);refine eu hs cB (by omega) (by omega) (λ _ Wv=>iq hs bK Wv vB (bF Vt hs (C202 _ _ _ _ (hS _ (List.mem_of_getElem? CH)) (hS _ (List.mem_of_getElem? vB))) (λ _ he hs=>bI rfl (bI rfl (bJ (aC (λ Ib=>?_) (λ Ib=>?_)))))))
  ·have hz:vw S gS=eN gS.kind (fb S):=Ej (by omega);rw [<- mQ vB] at hz;unfold runM;rw [if_pos Ri,lB,AP (k:=k) iE (by rw [hz]; exact Ib),hz];exact ⟨rfl,hs.aD⟩
  refine vl cB hs (by omega) (by omega) (λ s_x95 hs=>?_);have zS:(S.take ((S.length:Int) - 1).toNat).length=S.length - 1:=by rw [List.length_take]; omega
  refine eC (by omega) ?_;obtain ⟨acy,aaj⟩:=gx ((S.take ((S.length:Int) - 1).toNat)) (i:=(((((S).length:Int) - 1) - 1)).toNat) (by omega);refine eu hs cB (by omega) (by omega) (λ _ Rl=>kQ _ hs bK Rl (by omega) (λ _ hs=>?_));intro rE;refine aW (by omega) ?_;have Ia:=vz (S:=S) (m:=S.length - 1) (v:=eL gS.kind (fb (S.take (S.length - 1))) (fb S)) (by omega) (by omega);rw [CG (by omega) CH,mQ vB,show ((S.length:Int) - 1).toNat=S.length - 1 from by omega,show ((S.length:Int) - 1 - 1).toNat=S.length - 1 - 1 from by omega,Ia] at hs;have hst:gZ ns S gS=_:=HX (by omega)
  exact ⟨_,by omega,k+1,_,_,rfl,rfl,by omega,lB.trans (kX (k:=k) iE ((Ej (by omega)).trans (by rw [<- mQ vB]; exact Decidable.not_not.1 Ib))),wZ,Wn,by rw [hst]; exact hs⟩
 have hS1:S.length=1:=by
  rw [List.take_of_length_le (by omega),jq] at jC;have:=(Prod.mk.inj (Option.some.inj jC)).1;omega
 obtain ⟨acz,El⟩:=gx (S) (i:=((0:Int)).toNat) (by omega);refine eu hs cB (by omega) (by omega) (λ _ Rm=>iq hs bK Rm El ?_);unfold runM;rw [if_pos Ri,lB,List.drop_eq_nil_of_le (by omega),Ft hS1 El];exact ⟨rfl,hs.aD⟩
structure PS (p:Ec):Prop where
 lines:p.lines.length<=500
 line:∀ l∈p.lines,l.length<=500
 Ra:p.Ra.length<=500
 locks:p.locks.length<=500
 threads:p.threads.length<=500
 recover:p.recover.length<=500
 bU:p.bU.length<=500
 aG:∀ t∈p.threads++p.recover,t.aG.length<=500
 body:∀ t∈p.threads++p.recover,t.body.length<=500
theorem jG {α β:Type} {f:α->β} {l:List α} {k:Nat} {e:α} (h:l[k]? = some e):(l.take k).map f++[f e]=(l.take (k+1)).map f:=by rw [<- gz h,List.map_append]; rfl
def kids (k:Int):Int:=if k=1\/k=2 then 0 else if k=3\/k=4 then 1 else if 5<=k/\k<=15 then 2 else -1
def skip:Nat->List nK->Option (List nK)
 | 0,l=>some l
 | _+1,[]=>none
 | n+1,x::l=>if kids x.op<0 then none else skip (n+(kids x.op).toNat) l
inductive Ex where
 | leaf (x:nK)
 | un (x:nK) (a:Ex)
 | bin (x:nK) (a b:Ex)
namespace Ex
def flat:Ex->List nK | leaf x=>[x] | un x a=>x::a.flat | bin x a b=>x::(a.flat++b.flat)
def depth:Ex->Int | leaf _=>1 | un _ a=>a.depth+1 | bin _ a b=>max a.depth b.depth+1
def size:Ex->Nat | leaf _=>1 | un _ a=>a.size+1 | bin _ a b=>a.size+b.size+1
end Ex
inductive Bk where
 | nil
 | cons (x:pT) (a b r:Bk)
namespace Bk
def flat:Bk->List pT | nil=>[] | cons x a b r=>x::(a.flat++(b.flat++r.flat))
def len:Bk->Nat | nil=>0 | cons _ a b r=>a.len+b.len+r.len+1
def inn (x:pT) (loops:Int):Int:=if x.kind=12 then loops+1 else loops
def acA (x:pT):Bool:=decide (x.kind=11\/x.kind=12)
def okX (x:pT) (loops:Int):Bool:=decide ((x.body<=0\/x.kind=11\/x.kind=12)/\(x.V9<=0\/x.kind=11)/\(¬ x.kind=13\/¬ loops=0))
def ok:Bk->Int->Bool | nil,_=>true | cons x a b r,n=>okX x n && a.ok (inn x n) && b.ok (inn x n) && r.ok n
def depth:Bk->Int | nil=>0 | cons x a b r=>if acA x then max (max (1+a.depth) (1+b.depth)) r.depth else r.depth
end Bk
theorem drop_cons {α:Type} {xs:List α} {k:Nat} {x:α} (h:xs[k]? = some x):xs.drop k=x::xs.drop (k+1):=by
 obtain ⟨h1,h2⟩:=List.getElem?_eq_some_iff.1 h
 rw [List.drop_eq_getElem_cons h1,h2]
def iF (s:ByteArray) (c:Int):Bool:=(wN s).any λ b=>decide ((b.toNat:Int)=c)
def SzS (x:pT):Prop:=x.Q8.size<=1048576/\x.name.size<=1048576/\x.e.length<=1048576/\x.f.length<=1048576/\(∀ y∈x.e,y.name.size<=1048576)/\(∀ y∈x.f,y.name.size<=1048576)
def SzT (t:yK):Prop:=t.name.size<=1048576/\(∀ s∈t.aG,s.size<=1048576)/\(∀ x∈t.body,SzS x)
structure PZ (p:Ec):Prop extends PS p where
 zl:∀ l∈p.lines,∀ c∈l,c.name.size<=1048576
 zv:∀ c∈p.Ra,c.name.size<=1048576
 zk:∀ c∈p.locks,c.name.size<=1048576
 zt:∀ t∈p.threads,SzT t
 zr:∀ t∈p.recover,SzT t
 zc:∀ c∈p.bU,c.e.length<=1048576/\∀ y∈c.e,y.name.size<=1048576
def Bk.app:Bk->Bk->Bk
 | .nil,t=>t
 | .cons x a b r,t=>.cons x a b (r.app t)
theorem ky {f:Nat->Bool} {n:Nat} (h:∀ j,j<n->f j=false):(List.range n).any f=false:=by
 rw [List.any_eq_false]; intro j hj; rw [h j (List.mem_range.1 hj)]; simp
theorem jH {f:Nat->Bool} {n j:Nat} (hj:j<n) (h:f j=true):(List.range n).any f=true:=List.any_eq_true.2 ⟨j,List.mem_range.2 hj,h⟩
theorem nk {f:Nat->Bool} {k:Nat} (h:∀ j,j<k->f j=false) (hk:f k=false):∀ j,j<k+1->f j=false:=λ j hj=>by
 rcases Nat.lt_or_ge j k with h1 | h1
 ·exact h j h1
 ·obtain rfl:j=k:=by omega
  exact hk
def pV:Bk->Int
 | .nil=>0
 | .cons x a b r=>(if x.kind=12 then 2+pV a else if x.kind=11 then (if 0<x.V9 then 1+pV a+pV b+1 else 1+pV a+pV b) else 1)+pV r
def toT (x:pT) (a:Bk) (at_:Int):Int:=if 0<x.V9 then at_+1+pV a+1 else at_+1+pV a
def lJ:dK:=⟨0,0,[]⟩
theorem AV {α:Type} {xs:List α} {k m:Nat} (h:k<=m) (h2:k<=xs.length) (h3:¬ (k<xs.length/\k<m)):xs.take k=xs.take m:=by
 rcases Nat.lt_or_ge k m with h4 | h4
 ·rw [List.take_of_length_le (by omega),List.take_of_length_le (by omega)]
 rw [show k=m from by omega]
end Go.Proofs.YtnjcingfdhjfkaaGreat
