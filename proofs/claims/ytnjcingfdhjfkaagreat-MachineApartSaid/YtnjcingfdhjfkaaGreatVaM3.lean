/-
  What the proof needs, part 3.
-/
import Derived.Test.YtnjcingfdhjfkaaGreatVaM2
set_option linter.all false
namespace Go.Fw
def sep (H1 H2:HP):HP where
 p w F:=∃ F1 F2,H1.p w F1∧H2.p w F2∧(∀ b,F1 b→¬ F2 b)∧∀ b,F b↔F1 b∨F2 b
 loc w w' F h hh:=by
  obtain ⟨F1,F2,h1,h2,h3,h4⟩:=h
  exact ⟨F1,F2,H1.loc _ _ _ h1 λ b hb=>hh b ((h4 b).2 (.inl hb)),H2.loc _ _ _ h2 λ b hb=>hh b ((h4 b).2 (.inr hb)),h3,h4⟩
 lt w F b h hb:=by
  obtain ⟨F1,F2,h1,h2,h3,h4⟩:=h
  rcases (h4 b).1 hb with hf | hf
  ·exact H1.lt _ _ _ h1 hf
  ·exact H2.lt _ _ _ h2 hf
def ue {α:Type} (H:α→HP):HP where
 p w F:=∃ x,(H x).p w F
 loc w w' F h hh:=by obtain ⟨x,h⟩:=h; exact ⟨x,(H x).loc _ _ _ h hh⟩
 lt w F b h hb:=by obtain ⟨x,h⟩:=h; exact (H x).lt _ _ _ h hb
def fact (φ:Prop) (H:HP):HP where
 p w F:=φ∧H.p w F
 loc w w' F h hh:=⟨h.1,H.loc _ _ _ h.2 hh⟩
 lt w F b h hb:=H.lt _ _ _ h.2 hb
def emp:HP where
 p _ F:=∀ b,¬ F b
 loc _ _ _ h _:=h
 lt _ _ b h hb:=(h b hb).elim
section
variable {P:Program} {w w0 w':World} {A:Nat→Prop} {L:List HP} {H H1 H2:HP}
theorem St.split (h:St w0 A (sep H1 H2::L) w):St w0 A (H1::H2::L) w:=by
 obtain ⟨U,F,U',⟨F1,F2,g1,g2,g3,g4⟩,h2,h3,h4,h5⟩:=h.sX
 refine ⟨h.aE,U,F1,λ b=>F2 b∨U' b,g1,λ b hb=>h2 b ((g4 b).2 (.inl hb)),λ b hb hu=>?_,λ b=>?_,F2,U',g2,λ b hb=>h2 b ((g4 b).2 (.inr hb)),λ b hb hu=>h3 b ((g4 b).2 (.inr hb)) hu,λ b=>Iff.rfl,h5⟩
 ·rcases hu with hu | hu
  ·exact g3 b hb hu
  ·exact h3 b ((g4 b).2 (.inl hb)) hu
 ·rw [h4 b,g4 b,or_assoc]
theorem St.join (h:St w0 A (H1::H2::L) w):St w0 A (sep H1 H2::L) w:=by
 obtain ⟨U,F,U',h1,h2,h3,h4,F2,U2,g1,g2,g3,g4,g5⟩:=h.sX
 refine ⟨h.aE,U,λ b=>F b∨F2 b,U2,⟨F,F2,h1,g1,λ b hb hf=>h3 b hb ((g4 b).2 (.inl hf)),λ b=>Iff.rfl⟩,λ b hb=>hb.elim (h2 b) (g2 b),λ b hb hu=>?_,λ b=>?_,g5⟩
 ·rcases hb with hb | hb
  ·exact h3 b hb ((g4 b).2 (.inr hu))
  ·exact g3 b hb hu
 ·rw [h4 b,g4 b,or_assoc]
theorem St.eX {α:Type} {H:α→HP} (h:St w0 A (ue H::L) w):∃ x,St w0 A (H x::L) w:=by
 obtain ⟨U,F,U',⟨x,h1⟩,h2⟩:=h.sX; exact ⟨x,h.aE,U,F,U',h1,h2⟩
theorem St.eR {α:Type} {H:α→HP} (x:α) (h:St w0 A (H x::L) w):St w0 A (ue H::L) w:=by
 obtain ⟨U,F,U',h1,h2⟩:=h.sX; exact ⟨h.aE,U,F,U',⟨x,h1⟩,h2⟩
theorem St.oM {φ:Prop} (h:St w0 A (fact φ H::L) w):φ∧St w0 A (H::L) w:=by
 obtain ⟨U,F,U',⟨x,h1⟩,h2⟩:=h.sX; exact ⟨x,h.aE,U,F,U',h1,h2⟩
theorem St.qy {φ:Prop} (x:φ) (h:St w0 A (H::L) w):St w0 A (fact φ H::L) w:=by
 obtain ⟨U,F,U',h1,h2⟩:=h.sX; exact ⟨h.aE,U,F,U',⟨x,h1⟩,h2⟩
def qz (F:Nat→Prop) (H':HP) (w w':World):Prop:=∃ F',H'.p w' F'∧(∀ b,F' b→F b∨w.heap.size≤b)∧iE F w w'
def lW (H:HP) (w w':World):Prop:=∃ F,H.p w' F∧(∀ b,F b→w.heap.size≤b)∧Ext w w'
theorem St.mut {F:Nat→Prop} (hs:St w F (H::L) w'):qz F H w w':=by
 obtain ⟨F',h1,h2⟩:=hs.head; exact ⟨F',h1,h2,hs.aE⟩
theorem St.fresh (hs:St w bD (H::L) w'):lW H w w':=by
 obtain ⟨F',h1,h2⟩:=hs.head; exact ⟨F',h1,λ b hb=>(h2 b hb).elim (λ h=>h.elim) id,hs.aE⟩
theorem St.made (hs:St w0 A L w) (h:lW H w w'):St w0 A (H::L) w':=by
 obtain ⟨F,h1,h2,h3⟩:=h; exact hs.new h3 h1 h2
theorem aZ {f:FuncId} {args:List Value} {X:Value} {K:Value→World→Prop} (pl:Plain P f) (hs:St w0 A L w) (hc:Calls P f args.toArray w (qf λ v w'=>v=X∧Ext w w')) (k:∀ w',Ext w w'→St w0 A L w'→K X w'):Dq P f args w K:=
 ed pl hc λ v w' h=>by obtain ⟨rfl,h2⟩:=h; exact k w' h2 (hs.ext h2)
theorem cZ {f:FuncId} {args:List Value} {H:Value→HP} {K:Value→World→Prop} (pl:Plain P f) (hs:St w0 A L w) (hc:Calls P f args.toArray w (qf λ v w'=>lW (H v) w w')) (k:∀ v w',lW (H v) w w'→St w0 A (H v::L) w'→K v w'):Dq P f args w K:=
 ed pl hc λ v w' h=>k v w' h (hs.made h)
theorem St.U4 {F:Nat→Prop} {U':Nat→Prop} {H':HP} (hs:St w0 A (H::L) w) (h2:∀ b,F b→A b∨w0.heap.size≤b) (h3:∀ b,F b→¬ U' b) (h5:rX w0 A L w U') (h:qz F H' w w'):St w0 A (H'::L) w':=by
 obtain ⟨F',g1,g2,g3⟩:=h
 refine ⟨hs.aE.trans g3 (λ _ h=>h) λ b hb hf=>(h2 b hf).elim id λ hh=>by omega,λ b=>F' b∨U' b,F',U',g1,λ b hb=>?_,λ b hb hu=>?_,λ b=>Iff.rfl,?_⟩
 ·rcases g2 b hb with hf | hf
  ·exact h2 b hf
  ·exact .inr (Nat.le_trans hs.aE.size hf)
 ·rcases g2 b hb with hf | hf
  ·exact h3 b hf hu
  ·have:=h5.lt b hu; omega
 ·exact h5.loc λ b hb=>g3.cE b (h5.lt b hb) λ hf=>h3 b hf hb
theorem px {f:FuncId} {args:List Value} {H':Value→HP} {Φ:Value→World→Prop} {K:Value→World→Prop} (pl:Plain P f) (hs:St w0 A (H::L) w)
  (hc:∀ F,H.p w F→Calls P f args.toArray w (qf λ v w'=>Φ v w'∧qz F (H' v) w w')) (k:∀ v w',Φ v w'→St w0 A (H' v::L) w'→K v w'):Dq P f args w K:=by
 obtain ⟨U,F,U',h1,h2,h3,h4,h5⟩:=hs.sX
 exact ed pl (hc F h1) λ v w' ⟨hΦ,hM⟩=>k v w' hΦ (hs.U4 h2 h3 h5 hM)
end
section
variable {α:Type} [Flat α] {P:Program} {w w0:World} {A S:Nat→Prop} {L:List HP} {xs ys:List α}
theorem eE.one {v:Value} (h:eE S w v xs):rZ v=true:=by obtain ⟨a,c,rfl,_⟩:=h; rfl
theorem FZ {T E oH R b n cap:Nat} {z:Option Nat} {src:Value} {cs:List Value} (ht:fc P T=some (E,Flat.sz α,oH,z)) (hb:tP w b cs) (xR:eE S w src ys)
  (Km:n+ys.length≤cap) (Nh:n * Flat.sz α+ys.length * Flat.sz α≤cs.length) :
  ∃ w',(Builtin.append_ #[T,T] R [.slice (some ⟨b,0,none⟩) n cap,src].toArray).run P w = .ok (.slice (some ⟨b,0,none⟩) (n+ys.length) cap) w'∧tP w' b (gX cs (n * Flat.sz α) (flat ys))∧iE (· = b) w w':=by
 obtain ⟨hu,inf,hi,lF,Bh,_⟩:=gu ht
 have rd:=xR
 obtain ⟨sa,UE,rfl,hsc,hs3⟩:=rd
 obtain ⟨w',h1,h2,h3⟩:=mB (P:=P) (o:=n * Flat.sz α) (flat ys) 0 cs w hb (by rw [cT]; omega) zJ
 refine ⟨w',?_,by simpa using h2,h3⟩
 have hf:=xi (α:=α) (P:=P) (sz:=Flat.sz α) rfl xR
 have sY:(⟨b,0,none⟩:Addr).add (n * Flat.sz α)=⟨b,n * Flat.sz α,none⟩:=by rw [gR,Nat.zero_add]
 simp [Builtin.append_,run_underlying hu,sizeOf,typeInfo,hi,Builtin.lenOf,Km,hf,lF,sY,h1]
theorem Si {T E oH R b o n c:Nat} {z:α} {cs:List Value} (ht:SlT P T E (Flat.sz α) oH) (hz:qw P E (Flat.val z)) (hb:tP w b cs) (Nh:o+n * Flat.sz α≤cs.length) :
  ∃ w',(Builtin.clear_ #[T] R [.slice (some ⟨b,o,none⟩) n c].toArray).run P w = .ok (.tuple #[]) w'∧tP w' b (gX cs o (flat (List.replicate n z)))∧iE (· = b) w w':=by
 obtain ⟨hu,inf,hi,lF,Bh,_⟩:=gu ht
 unfold qw eo at hz
 rw [hi] at hz
 simp only [Option.map_some,Option.some.injEq] at hz
 by_cases h0:n=0
 ·subst h0
  refine ⟨w,?_,by simpa [kj,gX] using hb,iE.refl _ _⟩
  simp [Builtin.clear_,run_underlying hu]
 ·have hzc:(Builtin.zeroCells (Flat.val z).cells n).toList=flat (List.replicate n z):=by
   rw [oT,← v8]
   unfold Builtin.zeroCells madeCells
   simp [Flat.len]
  obtain ⟨w',h1,h2,h3⟩:=mB (P:=P) (o:=o) (flat (List.replicate n z)) 0 cs w hb (by rw [cT,List.length_replicate]; omega) zJ
  refine ⟨w',?_,by simpa using h2,h3⟩
  simp [Builtin.clear_,run_underlying hu,zeroValue,typeInfo,hi,hz,h0,hzc,h1]
theorem U5 {T E sz oH n cap:Nat} {z:Option Nat} {a:Option Addr} {i j k:Int} {K:Value→Prop} (ht:fc P T=some (E,sz,oH,z)) (h0:0≤i) (h1:i≤j) (h2:j≤k) (h3:k≤cap)
  (kk:∀ v,K v):cY P (Instr.sliceAt T (.slice a n cap) (some (.int .i64 i)) (some (.int .i64 j)) (some (.int .i64 k))) K:=by
 obtain ⟨hu,inf,M6,lF,_⟩:=gu ht
 have hb:pr P (Instr.sliceBounds true n cap (some (.int .i64 i)) (some (.int .i64 j)) (some (.int .i64 k)))=some (i.toNat,j.toNat,k.toNat):=by
  simp only [Instr.sliceBounds,cN,fg,Option.bind_some]
  rw [mV (by omega) (by omega)]
  simp only [Option.bind_some]
  rw [mV (by omega) (by omega)]
  simp only [Option.bind_some]
  rw [mV (by omega) (by omega)]
  rfl
 refine ⟨.slice (if k.toNat=i.toNat then a else a.map (·.add (i.toNat * sz))) (j.toNat - i.toNat) (k.toNat - i.toNat),?_,kk _⟩
 ·unfold Instr.sliceAt
  rw [cN,cM hu]
  simp only [Option.bind_some]
  unfold Instr.slice
  rw [cN,cM hu]
  simp only [Option.bind_some]
  rw [cN,hb]
  simp only [Option.bind_some]
  rw [cN,oS M6,lF]
  rfl
end
def xW (b:Nat) (o:Obj):HP where
 p w F:=w.heap[b]? = some o∧∀ k,F k↔k=b
 loc w w' F h hh:=⟨(hh b ((h.2 b).2 rfl)).trans h.1,h.2⟩
 lt w F b' h hb:=by rw [(h.2 b').1 hb]; exact jU h.1
section
variable {P:Program} {w w0 w':World} {A:Nat→Prop} {L:List HP}
theorem St.obj {b:Nat} {o:Obj} (hs:St w0 A (xW b o::L) w):w.heap[b]? = some o:=by
 obtain ⟨F,h,_⟩:=hs.head; exact h.1
theorem Ext.alloc (w:World) (o:Obj):Ext w (w.alloc o):=Ext.push w o
theorem St.alloc {o:Obj} (hs:St w0 A L w):St w0 A (xW w.heap.size o::L) (w.alloc o):=
 hs.new (F:=(· = w.heap.size)) (Ext.alloc w o) ⟨pE w o,λ _=>Iff.rfl⟩ λ b hb=>Nat.le_of_eq hb.symm
theorem iE.putObj (w:World) (b:Nat) (o:Obj):iE (· = b) w (w.putObj b o):=
 ⟨rfl,rfl,rfl,by simp,λ k _ hn=>World.putObj_heap_other hn⟩
theorem St.putObj {b:Nat} {o:Obj} (o':Obj) (hs:St w0 A (xW b o::L) w):St w0 A (xW b o'::L) (w.putObj b o'):=
 hs.rY λ F hF=>⟨F,⟨World.putObj_heap_same (jU hF.1),hF.2⟩,λ _ h=>.inl h,(iE.putObj w b o').mono λ k hk=>(hF.2 k).2 hk⟩
theorem fY.mono {fv:Value} {args:List Value} {K K':Value→World→Prop} (h:fY P fv args w K) (hk:∀ v w,K v w→K' v w):fY P fv args w K':=
 Gk.mono (P:=P) (k:=.Pu fv args) h hk
theorem aI {α:Type} [Flat α] {T:TypeId} {b:Nat} {cs:List Value} {x:α} {K:World→Prop} (hs:St w0 A (cE b cs::L) w) (ht:abT P T (Flat.sz α)) (ha:Flat.agg α=true) (hl:cs.length=Flat.sz α)
  (k:∀ w',St w0 A (cE b (Flat.enc x)::L) w'→K w'):A7 P (Instr.storeAt T (.pointer (some ⟨b,0,none⟩)) (Flat.val x)) w K:=by
 rw [Flat.nY ha]
 refine pF hs ht (Flat.len x) (by rw [Nat.zero_add,hl]; exact Nat.le_refl _) (Flat.one x) λ w' h=>k w' ?_
 have:=kQ [] cs [] (Flat.enc x) (by rw [Flat.len,hl])
 simp only [List.length_nil,List.nil_append,List.append_nil] at this
 rwa [this] at h
theorem eU {α:Type} [Flat α] {S:Nat→Prop} {T:TypeId} {p:Value} {x:α} (ht:cS P T=some (Flat.agg α,Flat.sz α)) (h:At S w p x):(Instr.loadAt T p).run P w = .ok (Flat.val x) w:=by
 obtain ⟨v,h1,h2⟩:=(aD (K:=λ v=>v=Flat.val x) ht h rfl).ex
 rw [← h2]; exact h1
theorem gG {b:Bool} {A B:Prop} (h:b=true) (a:A):yh (.bool b) A B:=⟨⟨_,rfl,λ _=>a,λ hh=>by rw [h] at hh; cases hh⟩⟩
theorem fM {b:Bool} {A B:Prop} (h:b=false) (a:B):yh (.bool b) A B:=⟨⟨_,rfl,λ hh=>(by rw [h] at hh; cases hh),λ _=>a⟩⟩
theorem afQ {D:Nat} {K:World→Prop} (hs:St w0 A (xW D (.deferred (some []))::L) w) (k:∀ w',St w0 A L w'→K w'):nU [D] w K:=
 ⟨hs.obj,k _ (hs.putObj (.deferred none)).drop⟩
theorem Ny (L0:Loop) (h1:L0.state = .ready) (h2:L0.pending=none):({L0 with state:=if (none:Option Code).isNone=true then LoopState.ready else LoopState.done,pending:=none}:Loop)=L0:=by
 cases L0; simp only at h1 h2; subst h1; subst h2; rfl
theorem U6 {gf np:Nat} {cap:List Value} {xs:List (List Value)} {round:List Value→World→(World→(World→Prop)→Prop)→(Option Code→World→Prop)→Prop}
  {N R:Nat→World→Prop} {X:Nat→Nat→World→Prop} (pl:Plain P gf) (hs:St w0 A L w) (I:Nat→List HP→Prop) (Ix:Code→List HP→Prop) (h0:I 0 L) (hnp:∀ x∈xs,x.length=np)
  (hgf:∀ (y:Value) (J:Nat→World→Prop) (Jx:World→Prop) (W:World),(∀ k W,J k W→∃ Y M,I k M∧St w0 A (Y::M) W)→(∀ k W W',J k W→Ext W W'→J k W')→J 0 W→
   (∀ k args W',xs[k]? = some args→J k W'→fY P y args W' (λ v W''=>(v = .bool true∧J (k+1) W'')∨(v = .bool false∧Jx W'')))→
   Calls P gf ([y]++cap).toArray W (qf λ _ W'=>J xs.length W'∨Jx W'))
  (M5:∀ k args (Y1 Y2:HP) (B:World→(World→Prop)→Prop) (Kr:Option Code→World→Prop) M W,xs[k]? = some args→I k M→
   (∀ M w1 (kk:World→Prop),St w0 A (Y1::M) w1→(∀ w2,St w0 A (Y2::M) w2→kk w2)→B w1 kk)→
   (∀ M w1,St w0 A (Y2::M) w1→I (k+1) M→Kr none w1)→(∀ c M w1,St w0 A (Y2::M) w1→Ix c M→Kr (some c) w1)→
   St w0 A (Y1::M) W→round args W B Kr)
  (ao5:∀ D M W,I xs.length M→St w0 A (xW D (.deferred (some []))::M) W→N D W)
  (awr:∀ D M W,Ix .ret M→St w0 A (xW D (.deferred (some []))::M) W→R D W)
  (ao6:∀ id D M W,Ix (.exit id) M→St w0 A (xW D (.deferred (some []))::M) W→X id D W)
  (aiM:∀ c M,Ix c M→(∃ id,c = .exit id)∨c = .ret) :
  CP P (.func (.func gf) #[] cap.toArray) np w round (aft N R X):=by
 refine ⟨gf,cap.toArray,rfl,pl,λ L0 gn hpe hy=>?_⟩
 obtain ⟨l,hl⟩:∃ l,l=w.heap.size+1:=⟨_,rfl⟩
 obtain ⟨D,hD⟩:∃ D,D=w.heap.size:=⟨_,rfl⟩
 rw [← hl] at hy ⊢
 rw [← hD]
 let J:Nat→World→Prop:=λ k W=>∃ M,I k M∧St w0 A (xW l (.loop L0)::xW D (.deferred (some []))::M) W
 let Jx:World→Prop:=λ W=>∃ c M,Ix c M∧St w0 A (xW l (.loop {L0 with state:=.done,pending:=some c})::xW D (.deferred (some []))::M) W
 have hJ0:J 0 ((w.alloc (.deferred (some []))).alloc (.loop L0)):=by
  refine ⟨L,h0,?_⟩
  have h1:=(hs.alloc (o:=.deferred (some []))).alloc (o:=.loop L0)
  rw [show (w.alloc (.deferred (some []))).heap.size=l from by rw [hl]; exact GF w _,← hD] at h1
  exact h1
 have:=hgf (.func (.yield l) #[] #[]) J Jx _ (λ k W ⟨M,hI,hS⟩=>⟨_,M,hI,St.join hS⟩) (λ k W W' ⟨M,hI,hS⟩ e=>⟨M,hI,hS.ext e⟩) hJ0 ?_
 ·have e:([Value.func (.yield l) #[] #[]]++cap).toArray = #[.func (.yield l) #[] #[]]++cap.toArray:=by simp
  rw [e] at this
  refine this.mono λ x W' ⟨v,hx,hv⟩=>⟨v,hx,?_⟩
  rcases hv with ⟨M,hI,hS⟩ | ⟨c,M,hI,hS⟩
  ·refine ⟨.ready,none,by simp,?_,?_⟩
   ·rw [← gn,← hpe]; exact hS.obj
   ·exact ao5 D M _ hI (hS.putObj _).drop
  ·refine ⟨.done,some c,by simp,hS.obj,?_⟩
   rcases aiM c M hI with ⟨id,rfl⟩ | rfl
   ·exact ao6 id D M _ hI (hS.putObj _).drop
   ·exact awr D M _ hI (hS.putObj _).drop
 ·intro k args W hk ⟨M,hI,hS⟩
  refine ⟨.inr ⟨l,rfl,?_⟩⟩
  refine hy args W _ (hnp args (List.mem_of_getElem? hk)) hS.obj ?_
  refine M5 k args (sep (xW l (.loop L0)) (xW D (.deferred (some [])))) (sep (xW l (.loop {L0 with state:=.busy})) (xW D (.deferred (some [])))) _ _ M W hk hI
   (λ M w1 kk h1 h2=>?_) (λ M w1 h1 h2=>?_) (λ c M w1 h1 h2=>?_) (St.join hS)
  ·have h1:=h1.split
   exact ⟨h1.obj,h2 _ (h1.putObj _).join⟩
  ·have h1:=h1.split
   refine ⟨h1.obj,.inl ⟨rfl,M,h2,?_⟩⟩
   have:=h1.putObj (.loop {L0 with state:=if (none:Option Code).isNone=true then LoopState.ready else LoopState.done,pending:=none})
   rw [Ny L0 gn hpe] at this ⊢
   exact this
  ·have h1:=h1.split
   exact ⟨h1.obj,.inr ⟨rfl,c,M,h2,h1.putObj _⟩⟩
end
section
variable {P:Program} {w w0:World} {A S:Nat→Prop} {L:List HP}
theorem uY {t:Array TypeId} {T:TypeId} {a b:Int} {K:Value→Prop} (k:K (.int .i64 (min a b))):cY P (Builtin.min_ t T [.int .i64 a,.int .i64 b].toArray) K:=by
 refine ⟨_,?_,k⟩
 show pr P (Builtin.min2 (.int .i64 a) (.int .i64 b))=_
 unfold Builtin.min2
 by_cases h:b<a
 ·simp [h,fg]; omega
 ·simp [h,fg]; omega
theorem xo {t:Array TypeId} {T:TypeId} {a b:Int} {K:Value→Prop} (k:K (.int .i64 (max a b))):cY P (Builtin.max_ t T [.int .i64 a,.int .i64 b].toArray) K:=by
 refine ⟨_,?_,k⟩
 show pr P (Builtin.max2 (.int .i64 a) (.int .i64 b))=_
 unfold Builtin.max2
 by_cases h:a<b
 ·simp [h,fg]; omega
 ·simp [h,fg]; omega
end
section
variable {P:Program} {α:Type} [Flat α] {A:Nat→Prop} {w0 w:World} {L:List HP} {xs:List α}
def IA (α:Type) [Flat α] (v:Value) (i off:Nat) (p:Value):Prop:=∃ b n c,v = .slice (some ⟨b,0,none⟩) n c∧p = .pointer (some ⟨b,i * Flat.sz α+off,none⟩)
theorem nd {T f off i:Nat} {v p:Value} {K:Value→Prop} (ht:DB P T f off) (h:GH α v i p) (k:∀ q,IA α v i off q→K q):cY P (Instr.fieldAt T p f) K:=by
 obtain ⟨b,n,c,h1,rfl⟩:=h
 exact aA ht (k _ ⟨b,n,c,h1,rfl⟩)
theorem og {β:Type} [Flat β] {T:Nat} {v p:Value} {i off:Nat} {x:α} (y:β) {K:Value→Prop} (hs:St w0 A (bK v xs::L) w) (ht:cS P T=some (Flat.agg β,Flat.sz β)) (hp:IA α v i off p) (hx:xs[i]? = some x)
  (hy:((Flat.enc x).drop off).take (Flat.sz β)=Flat.enc y) (k:K (Flat.val y)):Dp P (Instr.loadAt T p) w K:=by
 obtain ⟨F,h,_⟩:=hs.head
 obtain ⟨b,cap,rest,hv,hb,hl,_⟩:=qQ h (List.getElem?_eq_some_iff.1 hx).1
 obtain ⟨b',n,c,DE,rfl⟩:=hp
 rw [hv] at DE
 simp only [Value.slice.injEq,Option.some.injEq,Addr.mk.injEq] at DE
 obtain ⟨⟨rfl,_,_⟩,_,_⟩:=DE
 refine aD (S:=λ _=>True) ht ⟨b,i * Flat.sz α+off,rfl,trivial,λ j c hj=>hb.cell ?_⟩ k
 rw [← hy,List.getElem?_take] at hj
 split at hj
 ·rw [List.getElem?_drop] at hj
  have:=tS hx hj
  rw [Nat.add_assoc,List.getElem?_append_left (List.getElem?_eq_some_iff.1 this).1]; exact this
 ·cases hj
theorem KF {β:Type} [Flat β] {T:Nat} {v p:Value} {i off:Nat} {K:World→Prop} {x:α} (y:α) (z:β) (hs:St w0 A (bK v xs::L) w) (ht:cS P T=some (Flat.agg β,Flat.sz β)) (hp:IA α v i off p) (hx:xs[i]? = some x)
  (hlen:off+Flat.sz β≤Flat.sz α) (hy:(Flat.enc x).take off++Flat.enc z++(Flat.enc x).drop (off+Flat.sz β)=Flat.enc y)
  (k:∀ w',St w0 A (bK v (xs.set i y)::L) w'→K w'):A7 P (Instr.storeAt T p (Flat.val z)) w K:=by
 obtain ⟨U,F,U',g1,g2,g3,g4,g5⟩:=hs.sX
 have hi:=(List.getElem?_eq_some_iff.1 hx).1
 obtain ⟨b,cap,rest,hv,hb,hl,hF⟩:=qQ g1 hi
 obtain ⟨b',n,c,DE,rfl⟩:=hp
 rw [hv] at DE
 simp only [Value.slice.injEq,Option.some.injEq,Addr.mk.injEq] at DE
 obtain ⟨⟨rfl,_,_⟩,_,_⟩:=DE
 have Sb:=yK hx
 have Nk:(flat (xs.take i)).length=i * Flat.sz α:=by rw [cT,List.length_take,Nat.min_eq_left (by omega)]
 have hel:i * Flat.sz α+Flat.sz α≤(flat xs).length:=by
  rw [cT,← Nat.succ_mul]; exact Nat.mul_le_mul_right _ hi
 have Pz:(Flat.enc x).length=Flat.sz α:=Flat.len x
 have hzl:(Flat.enc z).length=Flat.sz β:=Flat.len z
 obtain ⟨w',h1,h2,h3⟩:=mB (P:=P) (o:=i * Flat.sz α+off) (Flat.enc z) 0 (flat xs++rest) w hb (by rw [hzl,List.length_append]; omega) (Flat.one z)
 have xQ:gX (flat xs++rest) (i * Flat.sz α+off+0) (Flat.enc z)=flat (xs.set i y)++rest:=by
  have:=kQ (flat (xs.take i)++(Flat.enc x).take off) (((Flat.enc x).drop off).take (Flat.sz β)) ((Flat.enc x).drop (off+Flat.sz β)++flat (xs.drop (i+1))++rest) (Flat.enc z)
   (by rw [hzl,List.length_take,List.length_drop]; omega)
  rw [List.length_append,Nk,List.length_take,Nat.min_eq_left (by omega)] at this
  rw [Nat.add_zero,Ko y hi,Sb,← hy]
  have e1:Flat.enc x=(Flat.enc x).take off++((Flat.enc x).drop off).take (Flat.sz β)++(Flat.enc x).drop (off+Flat.sz β):=by
   rw [← List.drop_drop,List.append_assoc,List.take_append_drop,List.take_append_drop]
  have e2:flat (xs.take i)++Flat.enc x++flat (xs.drop (i+1))++rest=flat (xs.take i)++(Flat.enc x).take off++((Flat.enc x).drop off).take (Flat.sz β)++((Flat.enc x).drop (off+Flat.sz β)++flat (xs.drop (i+1))++rest):=by
   conv=>lhs; rw [e1]
   simp only [List.append_assoc]
  rw [e2,this]
  simp only [List.append_assoc]
 rw [xQ] at h2
 refine ⟨w',?_,k w' ⟨hs.aE.trans (h3.mono λ k hk=>(hF k).2 hk) (λ _ h=>h) λ b hb hf=>(g2 b hf).elim id λ hh=>by omega,U,F,U',?_,g2,g3,g4,
  g5.loc λ b hb=>(h3.mono λ k hk=>(hF k).2 hk).cE b (g5.lt b hb) λ hf=>g3 b hf hb⟩⟩
 ·show (storeVar T ⟨b,i * Flat.sz α+off,none⟩ (Flat.val z)).run P w=_
  unfold storeVar
  rw [dJ (ft (jL ht).2 w),oT]
  simp only [List.size_toArray,Flat.len,ne_eq,not_true_eq_false,if_false]
  exact h1
 ·refine .inr ⟨b,cap,rest,by rw [List.length_set]; exact hv,h2,?_,hF⟩
  rw [← hl,List.length_append,List.length_append,cT,cT,List.length_set]
theorem uZ {T:Nat} {b o:Nat} {cs:List Value} (x:α) {K:Value→Prop} (ht:cS P T=some (Flat.agg α,Flat.sz α)) (hb:tP w b cs) (hx:(cs.drop o).take (Flat.sz α)=Flat.enc x) (k:K (Flat.val x)) :
  Dp P (Instr.loadAt T (.pointer (some ⟨b,o,none⟩))) w K:=by
 refine aD (S:=λ _=>True) ht ⟨b,o,rfl,trivial,λ j c hj=>hb.cell ?_⟩ k
 rw [← hx,List.getElem?_take] at hj
 split at hj
 ·rw [List.getElem?_drop] at hj; exact hj
 ·cases hj
end
structure SV where
 a:Option Addr
 n:Nat
 cap:Nat
instance:Flat SV where
 agg:=false
 sz:=1
 enc s:=[.slice s.a s.n s.cap]
 val s:=.slice s.a s.n s.cap
 pos:=by decide
 len _:=rfl
 one a v h:=by rw [List.mem_singleton.1 h]; rfl
 nY h:=by cases h
 oI _ _:=rfl
section
variable {P:Program} {α:Type} [Flat α] {A:Nat→Prop} {w0 w:World} {L L':List HP} {v:Value}
def rows:List SV→List (List α)→HP
 | [],[]=>emp
 | s::ss,x::xs=>sep (bK (Flat.val s) x) (rows ss xs)
 | _,_=>fact False emp
theorem KG:∀ {ss:List SV} {xs:List (List α)} {F:Nat→Prop},(rows ss xs).p w F→ss.length=xs.length
 | [],[],_,_=>rfl
 | s::ss,x::xs,F,h=>by
  obtain ⟨F1,F2,_,h2,_,_⟩:=h
  rw [List.length_cons,List.length_cons,KG h2]
 | [],_::_,_,h=>h.1.elim
 | _::_,[],_,h=>h.1.elim
theorem GN:∀ {ss:List SV} {xs:List (List α)} {F1 F2 F:Nat→Prop} {s:SV} {x:List α},(rows ss xs).p w F1→(bK (Flat.val s) x).p w F2→(∀ b,F1 b→¬ F2 b)→(∀ b,F b↔F1 b∨F2 b)→(rows (ss++[s]) (xs++[x])).p w F
 | [],[],F1,F2,F,s,x,h1,h2,_,h4=>by
  refine ⟨F2,F1,h2,h1,λ b hb IB=>h1 b IB,λ b=>?_⟩
  rw [h4 b]; exact ⟨λ h=>h.symm,λ h=>h.symm⟩
 | s'::ss,x'::xs,F1,F2,F,s,x,h1,h2,h3,h4=>by
  obtain ⟨G1,G2,g1,g2,g3,g4⟩:=h1
  refine ⟨G1,λ b=>G2 b∨F2 b,g1,GN g2 h2 (λ b hb=>h3 b ((g4 b).2 (.inr hb))) (λ b=>Iff.rfl),λ b hb=>?_,λ b=>?_⟩
  ·rintro (hh | hh)
   ·exact g3 b hb hh
   ·exact h3 b ((g4 b).2 (.inl hb)) hh
  ·rw [h4 b,g4 b,or_assoc]
 | [],_::_,_,_,_,_,_,h,_,_,_=>h.1.elim
 | _::_,[],_,_,_,_,_,h,_,_,_=>h.1.elim
theorem St.zV {ss:List SV} {xs:List (List α)} (hs:St w0 A (rows ss xs::L) w):ss.length=xs.length:=by
 obtain ⟨F,h,_⟩:=hs.head; exact KG h
theorem St.ace (hs:St w0 A L w):St w0 A (rows [] ([]:List (List α))::L) w:=
 hs.new (Ext.refl w) (F:=bD) (λ _ h=>h) λ _ h=>h.elim
theorem St.DZ {ss:List SV} {xs:List (List α)} {s:SV} {x:List α} (hs:St w0 A (rows ss xs::bK (Flat.val s) x::L) w):St w0 A (rows (ss++[s]) (xs++[x])::L) w:=by
 have h:=St.join hs
 refine h.rY λ F hF=>?_
 obtain ⟨F1,F2,h1,h2,h3,h4⟩:=hF
 exact ⟨F,GN h1 h2 h3 h4,λ b hb=>.inl hb,iE.refl _ _⟩
theorem St.fR {xs:List α} (hs:St w0 A (bK v xs::L) w):∃ s:SV,v=Flat.val s:=by
 obtain ⟨F,h,_⟩:=hs.head
 rcases h with ⟨rfl,_⟩ | ⟨b,cap,_,rfl,_⟩
 ·exact ⟨⟨none,0,0⟩,rfl⟩
 ·exact ⟨⟨_,_,_⟩,rfl⟩
theorem eE.fR {S:Nat→Prop} {xs:List α} (h:eE S w v xs):∃ s:SV,v=Flat.val s:=by
 obtain ⟨a,cap,rfl,_⟩:=h; exact ⟨⟨_,_,_⟩,rfl⟩
end
section
variable {P:Program}
theorem l8 {α:Type} [Flat α] {S:Nat→Prop} {w:World} {xs:List α} {T E oH:Nat} {z:Option Nat} {v:Value} {i:Int} {K:Value→Prop} (ht:fc P T=some (E,Flat.sz α,oH,z)) (hr:eE S w v xs) (h0:0≤i) (h2:i≤xs.length)
  (k:∀ v',(∀ w',eE S w' v xs→eE S w' v' (xs.take i.toNat))→K v'):cY P (Instr.sliceAt T v none (some (.int .i64 i)) none) K:=by
 obtain ⟨a,cap,rfl,Kk,h3⟩:=hr
 refine ⟨_,Bf ht (qP (.inl ⟨rfl,rfl⟩) (.inr ⟨i,rfl,h0,rfl⟩) (Nat.zero_le _) (by omega)),k _ λ w' h=>?_⟩
 have:=h.cut rfl (Nat.zero_le i.toNat) (by omega)
 simpa using this
end
open Go.ChangeShapes Go.WideShapes Go.ChangeAt Go.RowKit
structure RdT (P:Program) (t:TypeId) (α:Type) [Flat α] (φ:α→Prop):Prop where
 cells:P.cellsOf t=Flat.sz α
 rd:∀ {H:Type} (enc:TypeId × Value→H) (w:World) (base:Nat) (sp:Nat→Bool) (held:Bool) (fuel:Nat) (cs:List Value) (x:DataW H × List MemPlace),
  DataW.trod enc P w base sp held fuel t cs=some x→∃ a:α,cs=Flat.enc a∧φ a
def mH (n:Int):Prop:=-9223372036854775808≤n∧n≤9223372036854775807
theorem aiN {P:Program} {t:TypeId} (ht:P.underlying t=some (.int .i64)) (hc:P.cellsOf t=1):RdT P t Int mH:=
 ⟨hc,λ enc w base sp held fuel cs x h=>by
  obtain ⟨n,h1,_,h3⟩:=DataW.trod_int ht h
  refine ⟨n,h1,?_⟩
  simpa [Lit.wf,IntKind.min,IntKind.max,IntKind.signed,IntKind.bits,mH] using h3⟩
theorem aiO {P:Program} {t:TypeId} (ht:P.underlying t=some .string) (hc:P.cellsOf t=1):RdT P t ByteArray (λ s=>s.size≤maxLen):=
 ⟨hc,λ enc w base sp held fuel cs x h=>by
  obtain ⟨n,h1,_,h2⟩:=DataW.trod_string ht h
  exact ⟨n,h1,h2⟩⟩
theorem l9 {H:Type} {enc:TypeId × Value→H} {P:Program} {w:World} {base:Nat} {sp:Nat→Bool} {held:Bool} {fuel:Nat} {t:TypeId} {fs:Array Field} {cs:List Value} {x:DataW H × List MemPlace}
  (ht:P.underlying t=some (.struct fs)) (h:DataW.trod enc P w base sp held fuel t cs=some x) :
  cs.length=P.cellsOf t∧∃ n,∀ (i:Nat) (f:Field),fs[i]? = some f→∃ y,DataW.trod enc P w base sp held n f.type ((cs.drop f.offset).take (P.cellsOf f.type))=some y:=by
 obtain ⟨xs,n,_,_,hl,hs,hf⟩:=DataW.trod_struct ht h
 refine ⟨hl,n,λ i f hi=>?_⟩
 have mF:i<xs.length:=by rw [hs]; exact (Array.getElem?_eq_some_iff.1 hi).1
 exact ⟨xs[i],by rw [hf i f hi,List.getElem?_eq_getElem mF]⟩
theorem dT {cs:List Value} {o s:Nat} {r:List Value} (h:(cs.drop o).take s=r):cs.drop o=r++cs.drop (o+s):=by
 rw [← h,← List.drop_drop,List.take_append_drop]
theorem acf {α:Type} {p:Nat→α→Prop}:∀ n,(∀ i,i<n→∃ x,p i x)→∃ xs:List α,xs.length=n∧∀ i x,xs[i]? = some x→p i x:=by
 intro n
 induction n with
 | zero=>intro _; exact ⟨[],rfl,by simp⟩
 | succ n ih=>
  intro h
  obtain ⟨xs,h1,h2⟩:=ih λ i hi=>h i (by omega)
  obtain ⟨x,hx⟩:=h n (by omega)
  refine ⟨xs++[x],by simp [h1],λ i y hy=>?_⟩
  by_cases hi:i<n
  ·rw [List.getElem?_append_left (by omega)] at hy; exact h2 i y hy
  ·have mF:i<(xs++[x]).length:=(List.getElem?_eq_some_iff.1 hy).1
   have:i=n:=by simp [h1] at mF; omega
   subst this
   rw [List.getElem?_append_right (by omega),h1] at hy
   simp at hy
   rw [← hy]; exact hx
theorem Nz {α:Type} [Flat α] {xs:List α} {j:Nat} {c:Value} (h:(flat xs)[j]? = some c):∃ i r x,xs[i]? = some x∧(Flat.enc x)[r]? = some c∧j=i * Flat.sz α+r:=by
 have mF:j<(flat xs).length:=(List.getElem?_eq_some_iff.1 h).1
 rw [cT] at mF
 have hp:0<Flat.sz α:=Flat.pos
 have hi:j / Flat.sz α<xs.length:=Nat.div_lt_of_lt_mul (by rw [Nat.mul_comm]; exact mF)
 have hr:j % Flat.sz α<Flat.sz α:=Nat.mod_lt _ hp
 have hj:j=j / Flat.sz α * Flat.sz α+j % Flat.sz α:=by rw [Nat.mul_comm]; exact (Nat.div_add_mod _ _).symm
 have hx:xs[j / Flat.sz α]? = some (xs[j / Flat.sz α]):=List.getElem?_eq_getElem hi
 have hc:(Flat.enc (xs[j / Flat.sz α]))[j % Flat.sz α]? = some ((Flat.enc (xs[j / Flat.sz α]))[j % Flat.sz α]'(by rw [Flat.len]; exact hr)):=List.getElem?_eq_getElem _
 have:=tS hx hc
 rw [← hj,h] at this
 exact ⟨_,_,_,hx,hc.trans this.symm,hj⟩
section
variable {H:Type} {enc:TypeId × Value→H} {P:Program} {w:World} {base:Nat} {held:Bool}
def IC (P:Program) (ts:List TypeId):Bool:=ts.all λ t=>P.readableRec t && decide (t<P.types.size)
theorem yq (hl:laidOutB P=true) {W W':World} (hb:Below W.heap.size W W') {sp:Nat→Bool}:∀ {ts:List TypeId} {vs:List Value} {ds:List (DataW H)} {ps:List MemPlace},IC P ts=true→(∀ x∈ps,x.block<W.heap.size)→
  (∀ x∈ps,sp x.block=true)→DataW.TrodAll enc P W 0 (λ _=>true) true ts vs ds ps→DataW.TrodAll enc P W' 0 sp true ts vs ds ps
 | [],vs,ds,ps,_,_,_,h=>by obtain ⟨rfl,rfl,rfl⟩:=trodAll_nil h; exact trodAll_mk0
 | t::ts,vs,ds,ps,hr,mF,Sb,h=>by
  obtain ⟨v,vs1,d,ds1,a,b,rfl,rfl,rfl,h1,h2⟩:=trodAll_cons h
  have YT:P.readableRec t=true∧t<P.types.size∧IC P ts=true:=by
   unfold IC at hr
   rw [List.all_cons,Bool.and_eq_true,Bool.and_eq_true,decide_eq_true_eq] at hr
   exact ⟨hr.1.1,hr.1.2,hr.2⟩
  refine trodAll_cons_mk (WideElems.Trod_stays hl YT.1 YT.2.1 h1 (λ x hx=>hb.same (mF x (List.mem_append_left _ hx))) (λ x hx=>Sb x (List.mem_append_left _ hx))) ?_
  exact yq hl hb YT.2.2 (λ x hx=>mF x (List.mem_append_right _ hx)) (λ x hx=>Sb x (List.mem_append_right _ hx)) h2
theorem post_true {f:Func} {s:ChangeSpec} {apart fresh handsOn again:Bool} {W W':World} {args:Array Value} {ds gs:List (DataW H)} {before:List MemPlace} {tb:TypeId}
  (afR:s.vars=[]) (KH:∀ ds:List (DataW H),ds.length=f.params.size→s.fn H ds={results:=[.lit (.bool true)],args:=ds}) (ao7:f.resultTypes = #[tb]) (htb:P.underlying tb=some .bool)
  (hl:laidOutB P=true) (awu:IC P f.params.toList=true)
  (hW:DataW.Whole enc P f.params.toList s.vars apart W args.toList ds gs before) (hb:Below W.heap.size W W') :
  s.post enc P f apart fresh handsOn again W args (.bool true) W':=by
 have hW':=hW
 obtain ⟨p,q,hA,hV,hpq,hz,hn⟩:=hW
 have mF:∀ x∈before,x.block<W.heap.size:=hW'.lt
 rw [afR] at hV
 obtain ⟨rfl,rfl⟩:=trodVars_none hV
 simp only [List.append_nil] at hpq
 have hlen:ds.length=f.params.size:=by
  have:=(trodAll_length hA).2
  simpa using this
 have aiP:=KH ds hlen
 have afS:∀ (b:Nat) (sp:Nat→Bool) (hd:Bool),DataW.TrodAll enc P W' b sp hd f.resultTypes.toList ((Value.bool true).resultList f.resultTypes.size) (s.fn H (ds++[])).results []:=λ b sp hd=>by
  rw [List.append_nil,aiP,ao7]
  exact trodAll_mk1 (shut_bool htb true)
 have hargs:∀ sp:Nat→Bool,(∀ p∈before,sp p.block=true)→DataW.TrodAll enc P W' 0 sp true f.params.toList args.toList (s.fn H (ds++[])).args before:=λ sp Sb=>by
  rw [List.append_nil,aiP]
  rw [hpq] at mF Sb ⊢
  exact yq hl hb awu mF Sb hA
 have U7:∀ sp:Nat→Bool,DataW.TrodVars enc P W' sp s.vars (s.fn H (ds++[])).vars []:=λ sp=>by
  rw [List.append_nil,aiP,afR]; rfl
 have nP:∀ (j:Nat) (t:TypeId) (r:Value),f.resultTypes[j]? = some t→((Value.bool true).resultList f.resultTypes.size)[j]? = some r→Value.okWide P W' .any 0 t r:=
  ok_one ao7 rfl (okWide_bool_mk htb true)
 have hold:∀ p∈before,(λ b=>decide (b<W.heap.size)) p.block=true:=λ p hp=>by simpa using mF p hp
 refine ⟨ds,[],before,[],before,[],hW',afS _ _ _,hargs _ hold,U7 _,World.keptBut_mono (λ p hp=>⟨hp,?_⟩) (hb.frame (·∈before)),λ _=>?_⟩
 ·simpa using hp
 ·refine ⟨nP,_,_,([]++before)++[],⟨[]++before,[],trodAll_append (hargs _ (λ _ _=>rfl)) (afS _ _ _),U7 _,rfl,?_,?_⟩,?_⟩
  ·intro b off hp
   have hp':MemPlace.cell b off∈before:=by simpa using hp
   rw [hb.frozen (p:=⟨b,off,none⟩) (mF _ hp')]
   exact hz b off hp'
  ·intro ha; simpa using hn ha
  ·intro p hp _; simpa using hp
end
section
variable {P:Program} {α:Type} [Flat α]
def ao8 (P:Program) (T n E:Nat):Prop:=P.underlying T=some (.array n E)∧pr P (sizeOf E)=some 1
theorem oh {T E n b o:Nat} {i:Int} {K:Value→Prop} (h:ao8 P T n E) (h0:0≤i) (h1:i<n) (k:K (.pointer (some ⟨b,o+i.toNat,none⟩))) :
  cY P (Instr.indexAt T (.pointer (some ⟨b,o,none⟩)) (.int .i64 i)) K:=by
 refine ⟨_,?_,k⟩
 unfold Instr.indexAt
 have e1:pr P (underlying T)=some (.array n E):=cM h.1
 have e3:pr P (Instr.sureAddr (.pointer (some (⟨b,o,none⟩:Addr))))=some ⟨b,o,none⟩:=rfl
 simp only [asIntOf,cN,e1,Option.bind_some,fg,e3]
 simp only [if_pos (show 0≤i∧i<(n:Int) from ⟨h0,h1⟩),cN,h.2,Option.bind_some,fg,gR,Nat.mul_one]
end
theorem Qp {α:Type} [Flat α] {P:Program} {w w0:World} {A:Nat→Prop} {L:List HP} {xs:List α} {T:Nat} {v p:Value} {i:Nat} {x:α} (hs:St w0 A (bK v xs::L) w) (ht:cS P T=some (Flat.agg α,Flat.sz α)) (hp:GH α v i p) (hx:xs[i]? = some x) :
  (Instr.loadAt T p).run P w = .ok (Flat.val x) w:=by
 obtain ⟨F,h,_⟩:=hs.head
 obtain ⟨b,cap,rest,hv,hb,hl,_⟩:=qQ h (List.getElem?_eq_some_iff.1 hx).1
 obtain ⟨b',n,c,DE,rfl⟩:=hp
 rw [hv] at DE
 simp only [Value.slice.injEq,Option.some.injEq,Addr.mk.injEq] at DE
 obtain ⟨⟨rfl,_,_⟩,_,_⟩:=DE
 refine eU (S:=λ _=>True) ht ⟨b,i * Flat.sz α,rfl,trivial,λ j c hj=>hb.cell ?_⟩
 have:=tS hx hj
 rw [List.getElem?_append_left (List.getElem?_eq_some_iff.1 this).1]; exact this
class cA (α:Type) (σ:outParam Type) [Flat σ] where
 dr:World→σ→α→Prop
 ext:∀ {w w':World} {s:σ} {x:α},dr w s x→Ext w w'→dr w' s x
def DL {α σ:Type} [Flat σ] [cA α σ] (w:World) (v:Value) (xs:List α):Prop:=
 ∃ ts:List σ,eE (λ _=>True) w v ts∧ts.length=xs.length∧∀ (i:Nat) (t:σ) (x:α),ts[i]? = some t→xs[i]? = some x→cA.dr w t x
section
variable {P:Program} {α σ:Type} [Flat σ] [cA α σ] {w w' w0:World} {v:Value} {A:Nat→Prop} {L:List HP}
theorem DL.ext {xs:List α} (h:DL w v xs) (e:Ext w w'):DL w' v xs:=by
 obtain ⟨ts,h1,h2,h3⟩:=h; exact ⟨ts,h1.ext e,h2,λ i t x a b=>cA.ext (h3 i t x a b) e⟩
theorem DL.nil (w:World):DL w (.slice none 0 0) ([]:List α):=⟨[],eE.nil _ _,rfl,λ i t x h=>by simp at h⟩
theorem DL.fR {xs:List α} (h:DL w v xs):∃ s:SV,v=Flat.val s:=by obtain ⟨_,h,_⟩:=h; exact h.fR
instance:cA (List α) SV where
 dr w s xs:=DL w (Flat.val s) xs
 ext h e:=DL.ext h e
def eB (Φ:World→Prop):HP where
 p w F:=(∀ w':World,(∀ b,F b→w'.heap[b]? = w.heap[b]?)→Φ w')∧∀ b,F b→b<w.heap.size
 loc w w' F h hh:=⟨λ w2 h2=>h.1 w2 λ b hb=>(h2 b hb).trans (hh b hb),λ b hb=>by
  have:=h.2 b hb
  have h3:=hh b hb
  rw [Array.getElem?_eq_getElem this] at h3
  exact (Array.getElem?_eq_some_iff.1 h3).1⟩
 lt w F b h hb:=h.2 b hb
theorem eB.now {Φ:World→Prop} {F:Nat→Prop} (h:(eB Φ).p w F):Φ w:=h.1 w λ _ _=>rfl
theorem St.eB {Φ:World→Prop} (hs:St w0 A (eB Φ::L) w):Φ w:=by obtain ⟨F,h,_⟩:=hs.head; exact eB.now h
theorem St.dO {Φ Ψ:World→Prop} (hs:St w0 A (Fw.eB Φ::L) w) (hk:∀ w,Φ w→Ψ w):St w0 A (Fw.eB Ψ::L) w:=
 hs.rY λ F hF=>⟨F,⟨λ w' h=>hk _ (hF.1 w' h),hF.2⟩,λ b hb=>.inl hb,iE.refl _ _⟩
theorem St.fP {Φ Ψ:World→Prop} (hs:St w0 A (Fw.eB Φ::Fw.eB Ψ::L) w):St w0 A (Fw.eB (λ w=>Φ w∧Ψ w)::L) w:=by
 have h:=St.join hs
 refine h.rY λ F hF=>?_
 obtain ⟨F1,F2,h1,h2,h3,h4⟩:=hF
 refine ⟨F,⟨λ w' hh=>⟨h1.1 w' λ b hb=>hh b ((h4 b).2 (.inl hb)),h2.1 w' λ b hb=>hh b ((h4 b).2 (.inr hb))⟩,λ b hb=>?_⟩,λ b hb=>.inl hb,iE.refl _ _⟩
 rcases (h4 b).1 hb with hb | hb
 ·exact h1.2 b hb
 ·exact h2.2 b hb
theorem St.gH {Φ:World→Prop} (hs:St w0 A L w) (h:∀ w,Φ w):St w0 A (Fw.eB Φ::L) w:=
 hs.new (Ext.refl w) (F:=bD) ⟨λ w' _=>h w',λ b hb=>hb.elim⟩ λ _ h=>h.elim
theorem St.freeze {xs:List σ} (hs:St w0 A (bK v xs::L) w):St w0 A (Fw.eB (λ w=>eE (λ _=>True) w v xs)::L) w:=
 hs.rY λ F hF=>⟨F,⟨λ w' h=>(bK.rd ((bK v xs).loc _ _ _ hF h)).mono λ _ _=>trivial,λ b hb=>(bK v xs).lt _ _ _ hF hb⟩,λ b hb=>.inl hb,iE.refl _ _⟩
theorem St.qR {b:Nat} {cs:List Value} (hs:St w0 A (cE b cs::L) w):St w0 A (Fw.eB (λ w=>tP w b cs)::L) w:=
 hs.rY λ F hF=>⟨F,⟨λ w' h=>((cE b cs).loc _ _ _ hF h).1,λ k hk=>(cE b cs).lt _ _ _ hF hk⟩,λ b hb=>.inl hb,iE.refl _ _⟩
def iB (ts:List σ) (xs:List α) (w:World):Prop:=ts.length=xs.length∧∀ (i:Nat) (t:σ) (x:α),ts[i]? = some t→xs[i]? = some x→cA.dr w t x
theorem iB.nil:iB ([]:List σ) ([]:List α) w:=⟨rfl,λ i t x h=>by simp at h⟩
theorem iB.snoc {ts:List σ} {xs:List α} {t:σ} {x:α} (h:iB ts xs w) (ht:cA.dr w t x):iB (ts++[t]) (xs++[x]) w:=by
 refine ⟨by rw [List.length_append,List.length_append,h.1]; rfl,λ i t' x' h1 h2=>?_⟩
 rcases Nat.lt_or_ge i ts.length with hi | hi
 ·rw [List.getElem?_append_left hi] at h1
  rw [List.getElem?_append_left (by rw [← h.1]; exact hi)] at h2
  exact h.2 i t' x' h1 h2
 ·have mF:=(List.getElem?_eq_some_iff.1 h1).1
  rw [List.length_append,List.length_singleton] at mF
  obtain rfl:i=ts.length:=by omega
  rw [List.getElem?_append_right (Nat.le_refl _),Nat.sub_self] at h1
  rw [List.getElem?_append_right (by rw [h.1]; exact Nat.le_refl _),h.1,Nat.sub_self] at h2
  rw [← Option.some.inj h1,← Option.some.inj h2]; exact ht
theorem iB.append {ts us:List σ} {xs ys:List α} (h:iB ts xs w) (g:iB us ys w):iB (ts++us) (xs++ys) w:=by
 refine ⟨by rw [List.length_append,List.length_append,h.1,g.1],λ i t' x' h1 h2=>?_⟩
 rcases Nat.lt_or_ge i ts.length with hi | hi
 ·rw [List.getElem?_append_left hi] at h1
  rw [List.getElem?_append_left (by rw [← h.1]; exact hi)] at h2
  exact h.2 i t' x' h1 h2
 ·rw [List.getElem?_append_right hi] at h1
  rw [List.getElem?_append_right (by rw [← h.1]; exact hi),← h.1] at h2
  exact g.2 _ t' x' h1 h2
theorem DL.of {ts:List σ} {xs:List α} (h:eE (λ _=>True) w v ts) (g:iB ts xs w):DL w v xs:=⟨ts,h,g.1,g.2⟩
theorem DL.open {xs:List α} (h:DL w v xs):∃ ts:List σ,eE (λ _=>True) w v ts∧iB ts xs w:=by obtain ⟨ts,h1,h2,h3⟩:=h; exact ⟨ts,h1,h2,h3⟩
theorem iB.take {ts:List σ} {xs:List α} (h:iB ts xs w) (k:Nat):iB (ts.take k) (xs.take k) w:=by
 refine ⟨by rw [List.length_take,List.length_take,h.1],λ i t x a b=>?_⟩
 rw [List.getElem?_take] at a b
 split at a
 ·rename_i hi; rw [if_pos hi] at b; exact h.2 i t x a b
 ·cases a
theorem iB.drop {ts:List σ} {xs:List α} (h:iB ts xs w) (k:Nat):iB (ts.drop k) (xs.drop k) w:=by
 refine ⟨by rw [List.length_drop,List.length_drop,h.1],λ i t x a b=>?_⟩
 rw [List.getElem?_drop] at a b
 exact h.2 _ t x a b
end
section
variable {α:Type} [Flat α]
abbrev ji:cA α α:=⟨λ _ s x=>s=x,λ h _=>h⟩
theorem GO [D:cA α α] (hD:∀ w s x,D.dr w s x↔s=x) {w:World} {ts xs:List α}:iB ts xs w↔ts=xs:=by
 constructor
 ·rintro ⟨h1,h2⟩
  refine List.ext_getElem? λ i=>?_
  rcases Nat.lt_or_ge i ts.length with hi | hi
  ·have a:=List.getElem?_eq_getElem hi
   have b:=List.getElem?_eq_getElem (l:=xs) (by rw [← h1]; exact hi)
   rw [a,b,(hD _ _ _).1 (h2 i _ _ a b)]
  ·rw [List.getElem?_eq_none hi,List.getElem?_eq_none (by rw [← h1]; exact hi)]
 ·rintro rfl
  exact ⟨rfl,λ i t x a b=>(hD _ _ _).2 (Option.some.inj (a.symm.trans b))⟩
end
instance:cA Int Int:=ji
instance:cA Bool Bool:=ji
instance:cA ByteArray ByteArray:=ji
structure RdW (P:Program) (w:World) (t:TypeId) (α:Type) [Flat α] (φ:α→Prop):Prop where
 cells:P.cellsOf t=Flat.sz α
 rd:∀ {H:Type} (enc:TypeId × Value→H) (base:Nat) (held:Bool) (fuel:Nat) (cs:List Value) (x:DataW H × List MemPlace),
  DataW.trod enc P w base (λ _=>true) held fuel t cs=some x→∃ a:α,cs=Flat.enc a∧φ a
def yr (P:Program) (t:TypeId) (α:Type) {σ:Type} [Flat σ] [cA α σ] (φ:α→Prop):Prop:=∀ w,RdW P w t σ (λ s=>∃ a:α,cA.dr w s a∧φ a)
theorem RdT.deep {P:Program} {t:TypeId} {α:Type} [Flat α] [D:cA α α] {φ:α→Prop} (h:RdT P t α φ) (hD:∀ w (x:α),D.dr w x x):yr P t α φ:=
 λ w=>⟨h.cells,λ enc base held fuel cs x hx=>by
  obtain ⟨a,h1,h2⟩:=h.rd enc w base _ held fuel cs x hx; exact ⟨a,h1,a,hD w a,h2⟩⟩
section
variable {H:Type} {enc:TypeId × Value→H} {P:Program} {w:World} {base:Nat} {held:Bool}
theorem KI {α:Type} [Flat α] {φ:α→Prop} {t e:TypeId} {fuel:Nat} {cs:List Value} {x:DataW H × List MemPlace} (ht:P.underlying t=some (.slice e)) (hr:RdW P w e α φ)
  (h:DataW.trod enc P w base (λ _=>true) held fuel t cs=some x):∃ v,cs=[v]∧∃ xs:List α,eE (λ b=>b<w.heap.size) w v xs∧∀ x∈xs,φ x:=by
 rcases DataW.trod_slice ht h with ⟨rfl,_⟩ | ⟨a,len,cap,elems,rest,n,_,rfl,_,hb,hl,hm,hlen,hel,Sb,_⟩
 ·exact ⟨_,rfl,[],eE.nil _ _,by simp⟩
 ·refine ⟨_,rfl,?_⟩
  have get:∀ i,i<len→∃ x:α,φ x∧w.cells? base (a.add (i * P.cellsOf e)) (P.cellsOf e)=some (Flat.enc x):=by
   intro i hi
   have h1:=hel i hi
   rw [List.getElem?_eq_getElem (by omega)] at h1
   obtain ⟨cs',h2,h3⟩:=Option.bind_eq_some_iff.1 h1
   obtain ⟨x,rfl,hx⟩:=hr.rd enc base held n cs' _ h3
   exact ⟨x,hx,h2⟩
  obtain ⟨xs,Pz,hxs⟩:=acf len get
  have lF:=hr.cells
  have zK:0<Flat.sz α:=Flat.pos
  have first:∀ (c:Nat) (cs':List Value),w.cells? base (a.add (c * P.cellsOf e)) (P.cellsOf e)=some cs'→c=0→a.spot=none:=by
   intro c cs' h1 h0
   subst h0
   have:=World.cells?_some h1
   have h2:=this.2.2 0 (by rw [lF]; exact zK)
   rw [Nat.zero_mul] at h2
   have h3:w.cell? a=cs'[0]?:=by simpa [Addr.add] using h2
   rw [List.getElem?_eq_getElem (by rw [this.2.1,lF]; exact zK)] at h3
   unfold World.cell? at h3
   split at h3
   ·split at h3
    ·cases h3
    ·rename_i hs; simpa using hs
   ·cases h3
  refine ⟨xs,⟨some a,cap,by rw [Pz],by omega,?_⟩,λ x hx=>?_⟩
  ·by_cases yl:cap=0
   ·exact .inl ⟨List.length_eq_zero_iff.1 (by omega),yl⟩
   ·right
    have Qq:a.spot=none:=by
     by_cases h0:0<len
     ·obtain ⟨x,_,hx⟩:=get 0 h0
      exact first 0 _ hx rfl
     ·obtain ⟨h1,h2⟩:=Sb rfl
      have h3:=h2 0 (by omega)
      rw [List.getElem?_eq_getElem (by omega)] at h3
      obtain ⟨cs',h4,_⟩:=Option.bind_eq_some_iff.1 h3
      exact first (len+0) _ h4 (by omega)
    have D0:∀ j c,(flat xs)[j]? = some c→Cell w a.block (a.off+j) c:=by
     intro j c hj
     obtain ⟨i,r,x,hx,CX,rfl⟩:=Nz hj
     have h1:=(World.cells?_some (hxs i x hx).2).2.2 r (by rw [lF]; have:=(List.getElem?_eq_some_iff.1 CX).1; rwa [Flat.len] at this)
     rw [CX,lF] at h1
     obtain ⟨b,o,s⟩:=a
     simp only at Qq
     subst Qq
     unfold Cell
     rw [← h1,gR,gR,Nat.add_assoc]
    refine ⟨a.block,a.off,by obtain ⟨b,o,s⟩:=a; simp only at Qq; subst Qq; rfl,λ Cr=>?_,D0⟩
    obtain ⟨y,ys,rfl⟩:=List.exists_cons_of_ne_nil Cr
    have h0:(flat (y::ys))[0]? = some ((Flat.enc y)[0]'(by rw [Flat.len]; exact zK)):=by
     rw [jg,List.getElem?_append_left (by rw [Flat.len]; exact zK),List.getElem?_eq_getElem]
    exact (D0 0 _ h0).lt
  ·obtain ⟨i,hi⟩:=List.getElem?_of_mem hx
   exact (hxs i x hi).1
theorem NA {α σ:Type} [Flat σ] [cA α σ] {φ:α→Prop}:∀ (ts:List σ),(∀ s∈ts,∃ a:α,cA.dr w s a∧φ a)→∃ xs:List α,iB ts xs w∧∀ x∈xs,φ x
 | [],_=>⟨[],iB.nil,by simp⟩
 | t::ts,h=>by
  obtain ⟨a,h1,h2⟩:=h t (by simp)
  obtain ⟨xs,h3,h4⟩:=NA ts λ s hs=>h s (List.mem_cons_of_mem _ hs)
  refine ⟨a::xs,?_,λ x hx=>?_⟩
  ·have:iB ([]++[t]) ([]++[a]) w:=iB.nil.snoc h1
   exact this.append h3
  ·rcases List.mem_cons.1 hx with rfl | hx
   ·exact h2
   ·exact h4 x hx
theorem yr.slice {α σ:Type} [Flat σ] [cA α σ] {φ:α→Prop} {t e:TypeId} (ht:P.underlying t=some (.slice e)) (hc:P.cellsOf t=1) (hr:yr P e α φ):yr P t (List α) (λ xs=>∀ x∈xs,φ x):=
 λ w=>⟨hc,λ enc base held fuel cs x hx=>by
  obtain ⟨v,rfl,ts,h1,h2⟩:=KI ht (hr w) hx
  obtain ⟨xs,h3,h4⟩:=NA ts h2
  have h1':eE (λ _=>True) w v ts:=h1.mono λ _ _=>trivial
  obtain ⟨s,rfl⟩:=h1'.fR
  exact ⟨s,rfl,xs,DL.of h1' h3,h4⟩⟩
theorem open_dl {α σ:Type} [Flat σ] [cA α σ] {φ:α→Prop} {t e:TypeId} {r:Reach} {b0:Nat} {v:Value} {d:DataW H} {ps:List MemPlace} (ht:P.underlying t=some (.slice e)) (hr:yr P e α φ)
  (hval:Value.okWide P w r b0 t v) (hd:DataW.Trod enc P w base (λ _=>true) held t v d ps):∃ xs:List α,DL w v xs∧∀ x∈xs,φ x:=by
 obtain ⟨fuel,hf⟩:=hd
 obtain ⟨u,hu,ts,h1,h2⟩:=KI ht (hr w) hf
 have hv:v=u:=by
  have h1:=hval
  unfold Value.okWide at h1
  rw [ht] at h1
  cases v with
  | slice a n c=>exact (List.cons.inj (show [Value.slice a n c]=[u] from hu)).1
  | _=>
   have h2:Cell.okWide P w r b0 t _:=h1
   unfold Cell.okWide at h2
   rw [ht] at h2
   simp only [Cell.ok,ht] at h2
 subst hv
 obtain ⟨xs,h3,h4⟩:=NA ts h2
 exact ⟨xs,DL.of (h1.mono λ _ _=>trivial) h3,h4⟩
theorem open_dst {α σ:Type} [Flat σ] [cA α σ] {φ:α→Prop} {t:TypeId} {fs:Array Field} {r:Reach} {b0:Nat} {v:Value} {d:DataW H} {ps:List MemPlace} (ht:P.underlying t=some (.struct fs)) (ha:Flat.agg σ=true)
  (hr:yr P t α φ) (hval:Value.okWide P w r b0 t v) (hd:DataW.Trod enc P w base (λ _=>true) held t v d ps):∃ (s:σ) (x:α),v=Flat.val s∧cA.dr w s x∧φ x:=by
 obtain ⟨fuel,hf⟩:=hd
 obtain ⟨s,hs,x,h1,h2⟩:=(hr w).rd enc base held fuel _ _ hf
 unfold Value.okWide at hval
 rw [ht] at hval
 obtain ⟨cs,rfl,_⟩:=hval
 refine ⟨s,x,?_,h1,h2⟩
 rw [Flat.nY ha,← hs]
 simp [Value.cells]
end
def rq (x:Int):Int:=IntKind.i64.wrap x
section
variable {P:Program} {T:Nat} {cx cy:Bool} {a b:Int} {K:Value→Prop}
theorem KJ (k:K (.int .i64 (rq (a+b)))):cY P (iC .add T cx cy (.int .i64 a) (.int .i64 b)) K:=⟨_,rfl,k⟩
theorem D1 (k:K (.int .i64 (rq (a - b)))):cY P (iC .sub T cx cy (.int .i64 a) (.int .i64 b)) K:=⟨_,rfl,k⟩
theorem KK (k:K (.int .i64 (rq (a * b)))):cY P (iC .mul T cx cy (.int .i64 a) (.int .i64 b)) K:=⟨_,rfl,k⟩
theorem U8 (k:K (.int .i64 (rq (0 - a)))):cY P (Op.unary .neg (.int .i64 a)) K:=⟨_,rfl,k⟩
theorem U9 (h:b≠0) (k:K (.int .i64 (rq (a.tdiv b)))):cY P (iC .quo T cx cy (.int .i64 a) (.int .i64 b)) K:=by
 refine ⟨_,?_,k⟩
 show pr P (Op.intDiv .quo .i64 a b)=_
 unfold Op.intDiv
 rw [if_neg h]; rfl
theorem Va (h:b≠0) (k:K (.int .i64 (a.tmod b))):cY P (iC .rem T cx cy (.int .i64 a) (.int .i64 b)) K:=by
 refine ⟨_,?_,k⟩
 show pr P (Op.intDiv .rem .i64 a b)=_
 unfold Op.intDiv
 rw [if_neg h]; rfl
end
theorem NB {α:Type} [Flat α] {P:Program} {w w0:World} {A:Nat→Prop} {L:List HP} {xs:List α} {T E oH:Nat} {z:Option Nat} {v:Value} {i:Int} {K:Value→Prop} (ht:fc P T=some (E,Flat.sz α,oH,z))
  (hs:St w0 A (bK v xs::L) w) (h0:0≤i) (h1:i≤xs.length) (k:∀ v',St w0 A (bK v' (xs.take i.toNat)::L) w→K v'):cY P (Instr.sliceAt T v none (some (.int .i64 i)) none) K:=by
 obtain ⟨a,cap,hv,Kk,_⟩:=hs.fB
 refine ⟨_,(by rw [hv]; exact Bf ht (qP (.inl ⟨rfl,rfl⟩) (.inr ⟨i,rfl,h0,rfl⟩) (Nat.zero_le _) (by omega))),k _ ?_⟩
 refine hs.rY λ F hF=>?_
 rcases hF with ⟨hv0,hx,fS⟩ | ⟨b,Kl,rest,DE,hb,hl,hF⟩
 ·rw [hv0] at hv
  subst hx
  simp only [Value.slice.injEq] at hv
  obtain ⟨rfl,_,rfl⟩:=hv
  have hi:i.toNat=0:=by simp at h1; omega
  refine ⟨F,.inl ⟨?_,by simp,fS⟩,λ b hb=>.inl hb,iE.refl _ _⟩
  rw [hi]; rfl
 ·rw [DE] at hv
  simp only [Value.slice.injEq] at hv
  obtain ⟨rfl,_,rfl⟩:=hv
  refine ⟨F,.inr ⟨b,Kl,flat (xs.drop i.toNat)++rest,?_,?_,?_,hF⟩,λ b hb=>.inl hb,iE.refl _ _⟩
  ·have Du:(xs.take i.toNat).length=i.toNat:=by rw [List.length_take]; omega
   rw [Du]
   simp [gR]
  ·rw [← List.append_assoc,← iq,List.take_append_drop]; exact hb
  ·rw [← List.append_assoc,← iq,List.take_append_drop]; exact hl
section
variable {P:Program} {w w':World} {v:Value}
theorem DL.flat {α:Type} [Flat α] [D:cA α α] {xs:List α} (h:DL w v xs) (hD:∀ w s x,D.dr w s x↔s=x:=by intros; exact Iff.rfl):eE (λ _=>True) w v xs:=by
 obtain ⟨ts,h1,h2⟩:=h.open
 rw [(GO hD).1 h2] at h1; exact h1
theorem DL.fu {α:Type} [Flat α] [D:cA α α] {xs:List α} (h:eE (λ _=>True) w v xs) (hD:∀ w s x,D.dr w s x↔s=x:=by intros; exact Iff.rfl):DL w v xs:=DL.of h ((GO hD).2 rfl)
theorem KL {α:Type} [Flat α] {S:Nat→Prop} {xs:List α} {T E oH:Nat} {z:Option Nat} {lo hi:Option Value} {l h:Nat} {K:Value→Prop} (ht:fc P T=some (E,Flat.sz α,oH,z)) (hr:eE S w v xs)
  (hl:lo=none∧l=0∨∃ i:Int,lo=some (.int .i64 i)∧0≤i∧l=i.toNat) (hh:hi=none∧h=xs.length∨∃ i:Int,hi=some (.int .i64 i)∧0≤i∧h=i.toNat)
  (h1:l≤h) (h2:h≤xs.length) (k:∀ v',(∀ w',eE S w' v xs→eE S w' v' ((xs.take h).drop l))→K v'):cY P (Instr.sliceAt T v lo hi none) K:=by
 obtain ⟨a,cap,rfl,Kk,h3⟩:=hr
 exact ⟨_,Bf ht (qP hl hh h1 (by omega)),k _ λ w' hw=>hw.cut rfl h1 h2⟩
theorem u3 {α:Type} [Flat α] {S:Nat→Prop} {xs:List α} {T E oH:Nat} {z:Option Nat} {i:Int} {K:Value→Prop} (ht:fc P T=some (E,Flat.sz α,oH,z)) (hr:eE S w v xs)
  (h0:0≤i) (h2:i≤xs.length) (k:∀ v',(∀ w',eE S w' v xs→eE S w' v' (xs.drop i.toNat))→K v'):cY P (Instr.sliceAt T v (some (.int .i64 i)) none none) K:=
 KL ht hr (.inr ⟨i,rfl,h0,rfl⟩) (.inl ⟨rfl,rfl⟩) (by omega) (Nat.le_refl _) λ v' h=>k v' λ w' hw=>by have:=h w' hw; rwa [List.take_length] at this
theorem kx {α:Type} [Flat α] {S:Nat→Prop} {xs:List α} {T E oH:Nat} {z:Option Nat} {i j:Int} {K:Value→Prop} (ht:fc P T=some (E,Flat.sz α,oH,z)) (hr:eE S w v xs)
  (h0:0≤i) (h1:i≤j) (h2:j≤xs.length) (k:∀ v',(∀ w',eE S w' v xs→eE S w' v' ((xs.take j.toNat).drop i.toNat))→K v'):cY P (Instr.sliceAt T v (some (.int .i64 i)) (some (.int .i64 j)) none) K:=
 KL ht hr (.inr ⟨i,rfl,h0,rfl⟩) (.inr ⟨j,rfl,by omega,rfl⟩) (by omega) (by omega) k
theorem DL.cut {α σ:Type} [Flat σ] [cA α σ] {xs:List α} {ts:List σ} {v':Value} {l h:Nat} (hq:∀ w',eE (λ _=>True) w' v ts→eE (λ _=>True) w' v' ((ts.take h).drop l)) (hR:eE (λ _=>True) w v ts) (hD:iB ts xs w):DL w v' ((xs.take h).drop l):=
 DL.of (hq w hR) ((hD.take h).drop l)
theorem DL.Qr {α σ:Type} [Flat σ] [cA α σ] {xs:List α} {ts:List σ} {v':Value} {l:Nat} (hq:∀ w',eE (λ _=>True) w' v ts→eE (λ _=>True) w' v' (ts.drop l)) (hR:eE (λ _=>True) w v ts) (hD:iB ts xs w):DL w v' (xs.drop l):=
 DL.of (hq w hR) (hD.drop l)
theorem D2 {a b:ByteArray}:(a.toList == b.toList)=decide (a=b):=by
 rw [ByteArray.toList_eq,ByteArray.toList_eq,Bool.eq_iff_iff,beq_iff_eq,decide_eq_true_eq]
 constructor
 ·intro h
  obtain ⟨a⟩:=a
  obtain ⟨b⟩:=b
  simp only [ByteArray.mk.injEq]
  exact Array.toList_inj.1 h
 ·rintro rfl; rfl
theorem uf {T:Nat} {cx cy:Bool} {a b:ByteArray} {K:Value→Prop} (k:K (.bool (decide (a=b)))):cY P (iC .eql T cx cy (.string a) (.string b)) K:=by
 rw [← D2] at k
 exact ⟨_,rfl,k⟩
theorem oW {T:Nat} {cx cy:Bool} {a b:ByteArray} {K:Value→Prop} (k:K (.bool (decide (¬ a=b)))):cY P (iC .neq T cx cy (.string a) (.string b)) K:=by
 refine ⟨_,rfl,?_⟩
 have:(!(a.toList == b.toList))=decide (¬ a=b):=by rw [D2]; by_cases h:a=b <;> simp [h]
 rw [this]; exact k
end
def lr (s:ByteArray):List UInt8:=s.data.toList
theorem dZ (s:ByteArray):(lr s).length=s.size:=by unfold lr; rw [Array.length_toList]; rfl
theorem acg (s:ByteArray) (i:Nat):(lr s)[i]? = if h:i<s.size then some (s[i]'h) else none:=by
 unfold lr
 by_cases h:i<s.size
 ·rw [dif_pos h,Array.getElem?_toList]
  exact Array.getElem?_eq_getElem h
 ·rw [dif_neg h,List.getElem?_eq_none]
  rw [Array.length_toList]; exact Nat.le_of_not_lt h
section
variable {P:Program} {T R:Nat} {cx cy:Bool} {a b:Int} {K:Value→Prop}
theorem gb {s:ByteArray} (hT:P.underlying T=some .string) (k:K (.int .i64 (s.size:Int))):cY P (Builtin.len_ #[T] R [Value.string s].toArray) K:=by
 refine ⟨_,?_,k⟩
 show pr P (do
  match ← underlying T,Value.string s with
  | .string,.string s=>pure (goInt s.size)
  | .array n _,_=>pure (goInt n)
  | .pointer arr,_=>
   let .array n _ ← underlying arr | stuck "len: pointer to array expected"
   pure (goInt n)
  | .slice _,.slice _ n _=>pure (goInt n)
  | .map _ _,.map none | .chan _ _,.chan none=>pure (goInt 0)
  | .map _ _,.map (some r)=>
   let .map entries _ ← getObj r | stuck "len: map expected"
   pure (goInt entries.size)
  | .chan _ _,.chan (some r)=>
   let .chan _ buf _ _ _ timer ← getObj r | stuck "len: channel expected"
   pure (goInt (if timer then 0 else buf.size))
  | _, _ => stuck "len: string, array, pointer to array, slice, map or channel expected") = _
 rw [cN,cM hT]; rfl
theorem lM {s:ByteArray} {i:Int} {e:UInt8} (hT:P.underlying T=some .string) (h0:0≤i) (he:(lr s)[i.toNat]? = some e) (k:K (.int .u8 (e.toNat:Int))):cY P (Instr.index T (.string s) (.int .i64 i)) K:=by
 refine ⟨_,?_,k⟩
 rw [acg] at he
 have hi:i.toNat<s.size:=by
  by_cases h:i.toNat<s.size
  ·exact h
  ·rw [dif_neg h] at he; cases he
 rw [dif_pos hi] at he
 have h3:(if 0≤i then s[i.toNat]? else none)=some e:=by rw [if_pos h0,ByteArray.getElem?_lt' s _ hi,← he]
 unfold Instr.index
 simp only [asIntOf,cN,cM hT,Option.bind_some,fg,h3]
theorem oX {s:ByteArray} {i:Int} (hT:P.underlying T=some .string) (h0:0≤i) (h1:i≤s.size) (k:K (.string (s.extract 0 i.toNat))):cY P (Instr.sliceAt T (.string s) none (some (.int .i64 i)) none) K:=by
 refine ⟨_,?_,k⟩
 unfold Instr.sliceAt
 rw [cN,cM hT]
 simp only [Option.bind_some]
 unfold Instr.slice
 rw [cN,cM hT]
 simp only [Option.bind_some]
 rw [if_neg (by decide)]
 have hb:pr P (Instr.sliceBounds false s.size s.size none (some (.int .i64 i)) none)=some (0,i.toNat,s.size):=by
  simp only [Instr.sliceBounds,cN,fg,Option.bind_some]
  rw [mV h0 h1]; rfl
 rw [cN,hb]; rfl
theorem KM {s:ByteArray} {i j:Int} (hT:P.underlying T=some .string) (h0:0≤i) (hij:i≤j) (h1:j≤s.size) (k:K (.string (s.extract i.toNat j.toNat))):cY P (Instr.sliceAt T (.string s) (some (.int .i64 i)) (some (.int .i64 j)) none) K:=by
 refine ⟨_,?_,k⟩
 unfold Instr.sliceAt
 rw [cN,cM hT]
 simp only [Option.bind_some]
 unfold Instr.slice
 rw [cN,cM hT]
 simp only [Option.bind_some]
 rw [if_neg (by decide)]
 have hb:pr P (Instr.sliceBounds false s.size s.size (some (.int .i64 i)) (some (.int .i64 j)) none)=some (i.toNat,j.toNat,s.size):=by
  simp only [Instr.sliceBounds,cN,fg,Option.bind_some]
  rw [mV (by omega) h1]; simp only [Option.bind_some]; rw [mV h0 (by omega)]; rfl
 rw [cN,hb]; rfl
theorem KN (k:K (.bool (decide (a≤b)))):cY P (iC .leq T cx cy (.int .u8 a) (.int .u8 b)) K:=⟨_,rfl,k⟩
theorem KO (k:K (.bool (decide (b≤a)))):cY P (iC .geq T cx cy (.int .u8 a) (.int .u8 b)) K:=⟨_,rfl,k⟩
theorem om (k:K (.bool (decide (a=b)))):cY P (iC .eql T cx cy (.int .u8 a) (.int .u8 b)) K:=⟨_,rfl,k⟩
theorem Vb (k:K (.bool (decide (a≠b)))):cY P (iC .neq T cx cy (.int .u8 a) (.int .u8 b)) K:=
 ⟨_,(show pr P (iC .neq T cx cy (.int .u8 a) (.int .u8 b))=some (.bool (decide (a≠b))) from by
  show some (Value.bool (a != b))=_
  congr 2
  by_cases h:a=b <;> simp [h]),k⟩
theorem Vc {t:Array TypeId} {R:TypeId} {c:Int} (k:K (.int .i64 (max (max a b) c))):cY P (Builtin.max_ t R [.int .i64 a,.int .i64 b,.int .i64 c].toArray) K:=by
 refine ⟨_,?_,k⟩
 show pr P (do Builtin.max2 (← Builtin.max2 (.int .i64 a) (.int .i64 b)) (.int .i64 c))=_
 have h:∀ x y:Int,pr P (Builtin.max2 (.int .i64 x) (.int .i64 y))=some (.int .i64 (max x y)):=by
  intro x y
  unfold Builtin.max2
  by_cases h:x<y
  ·simp [h,fg]; omega
  ·simp [h,fg]; omega
 rw [cN,h]
 exact h _ _
end
def fo {α σ:Type} [Flat σ] [cA α σ] (v:Value) (xs:List α):HP:=ue λ ts:List σ=>sep (bK v ts) (eB (iB ts xs))
section
variable {P:Program} {α σ:Type} [Flat σ] [D:cA α σ] {w w' w0:World} {v src:Value} {A:Nat→Prop} {L:List HP} {xs ys:List α}
theorem St.yt (hs:St w0 A (fo v xs::L) w):∃ ts:List σ,St w0 A (bK v ts::Fw.eB (iB ts xs)::L) w:=by
 obtain ⟨ts,h⟩:=hs.eX; exact ⟨ts,h.split⟩
theorem St.D3 {ts:List σ} (hs:St w0 A (bK v ts::Fw.eB (iB ts xs)::L) w):St w0 A (fo v xs::L) w:=
 St.eR (H:=λ ts:List σ=>sep (bK v ts) (Fw.eB (iB ts xs))) ts (St.join hs)
theorem St.aiQ {ts:List σ} (hs:St w0 A (bK v ts::Fw.eB (iB ts xs)::L) w):ts.length=xs.length:=(hs.p1.eB).1
theorem St.xX (hs:St w0 A L w):St w0 A (fo (.slice none 0 0) ([]:List α)::L) w:=
 St.D3 (ts:=[]) ((hs.gH λ _=>iB.nil).fU)
theorem St.awv (hs:St w0 A (bK v ([]:List σ)::L) w):St w0 A (fo v ([]:List α)::L) w:=
 St.D3 (ts:=[]) (hs.gH (Φ:=iB ([]:List σ) ([]:List α)) λ _=>iB.nil).p1
theorem St.aww {s:σ} {x:α} (hs:St w0 A (bK v [s]::Fw.eB (λ w=>cA.dr w s x)::L) w):St w0 A (fo v [x]::L) w:=by
 refine St.D3 (ts:=[s]) ?_
 refine ((hs.p1.dO (Ψ:=iB [s] [x]) λ w h=>?_)).p1
 exact (iB.nil (w:=w)).snoc h
theorem St.awx {ts us:List σ} (hs:St w0 A (bK v (ts++us)::Fw.eB (iB ts xs)::Fw.eB (iB us ys)::L) w):St w0 A (fo v (xs++ys)::L) w:=by
 have h1:=(hs.p1:St w0 A (Fw.eB (iB ts xs)::bK v (ts++us)::Fw.eB (iB us ys)::L) w)
 have h2:=h1.p2.p1
 refine St.D3 (ts:=ts++us) ?_
 exact ((h2.fP).dO (Ψ:=iB (ts++us) (xs++ys)) λ w h=>h.1.append h.2).p1
theorem St.jO (hs:St w0 A (fo v xs::L) w):St w0 A (Fw.eB (λ w=>DL w v xs)::L) w:=by
 obtain ⟨ts,h⟩:=hs.yt
 exact (h.freeze.fP).dO λ w h=>DL.of h.1 h.2
theorem St.dl (hs:St w0 A (fo v xs::L) w):DL w v xs:=hs.jO.eB
theorem St.lO (hs:St w0 A (fo v xs::L) w):∃ s:SV,v=Flat.val s:=hs.dl.fR
theorem St.enc {b:Nat} {cs cs':List Value} (hs:St w0 A (cE b cs::L) w) (h:cs=cs'):St w0 A (cE b cs'::L) w:=h▸hs
theorem wj {T E oH:Nat} {K:Value→World→Prop} (hs:St w0 A L w) (ht:SlT P T E (Flat.sz σ) oH) (k:∀ v w',St w0 A (fo v ([]:List α)::L) w'→K v w'):gW P (Instr.buildSlice T 0 ([]:List (Nat × Value)).toArray) w K:=
 bX ([]:List σ) hs ht rfl rfl (by simp) λ v w' h=>k v w' h.awv
theorem eM {T E oH:Nat} {s:σ} {x:α} {K:Value→World→Prop} (hs:St w0 A (Fw.eB (λ w=>cA.dr w s x)::L) w) (ht:SlT P T E (Flat.sz σ) oH) (hz:Flat.sz σ≤64) (k:∀ v w',St w0 A (fo v [x]::L) w'→K v w') :
  gW P (Instr.buildSlice T 1 [(0,Flat.val s)].toArray) w K:=
 bX [s] hs ht rfl rfl (by simp; omega) λ v w' h=>k v w' h.aww
theorem ee {T E oH R:Nat} {K:Value→World→Prop} (hs:St w0 A (fo v xs::fo src ys::L) w) (ht:SlT P T E (Flat.sz σ) oH)
  (hn:xs.length+ys.length≤1073741824) (hby:oH≤8192) (k:∀ v' w',St w0 A (fo v' (xs++ys)::L) w'→K v' w'):gW P (Builtin.append_ #[T,T] R [v,src].toArray) w K:=by
 obtain ⟨us,h1⟩:=hs.p1.yt
 obtain ⟨ts,h2⟩:=h1.p2.yt
 have e1:=h1.aiQ
 have e2:=h2.aiQ
 refine cP h2 ht h2.p2.fB (by omega) hby λ v' w' h=>k v' w' ?_
 exact (h.p2.drop).awx
theorem ID {β:Type} [Flat β] {T:Nat} {b o:Nat} {cs:List Value} (x:β) (ht:cS P T=some (Flat.agg β,Flat.sz β)) (hb:tP w b cs) (hx:(cs.drop o).take (Flat.sz β)=Flat.enc x) :
  (Instr.loadAt T (.pointer (some ⟨b,o,none⟩))).run P w = .ok (Flat.val x) w:=by
 refine eU (S:=λ _=>True) ht ⟨b,o,rfl,trivial,λ j c hj=>hb.cell ?_⟩
 rw [← hx,List.getElem?_take] at hj
 split at hj
 ·rw [List.getElem?_drop] at hj; exact hj
 ·cases hj
end
instance:Flat UInt8 where
 agg:=false
 sz:=1
 enc b:=[.int .u8 b.toNat]
 val b:=.int .u8 b.toNat
 pos:=by decide
 len _:=rfl
 one a v h:=by rw [List.mem_singleton.1 h]; rfl
 nY h:=by cases h
 oI _ _:=rfl
instance:cA UInt8 UInt8:=ji
theorem ach (l:List UInt8):flat l=l.map λ b=>Value.int .u8 b.toNat:=by
 induction l with
 | nil=>rfl
 | cons x l ih=>rw [jg,ih]; rfl
theorem gY {P:Program} {w w0:World} {A:Nat→Prop} {L:List HP} {src dst e:TypeId} {s:ByteArray} {u:TypeDesc} {K:Value→World→Prop} (hs:St w0 A L w) (h1:P.underlying src=some u) (h2:P.underlying dst=some (.slice e)) (h3:P.underlying e=some (.int .u8))
  (k:∀ v w',St w0 A (Fw.eB (λ w=>eE (λ _=>True) w v (lr s))::L) w'→K v w'):gW P (convert src dst (.string s)) w K:=by
 refine ⟨_,_,Go.Lib.run_convert_string_bytes w src dst e s h1 h2 h3,k _ _ ?_⟩
 have he:Ext w (Go.Lib.bytesWorld w e s):=by
  refine ⟨?_,?_,?_,by rw [Go.Lib.bytesWorld_size]; omega,λ b hb _=>Go.Lib.bytesWorld_at_old w e s b hb⟩
  all_goals simp [Go.Lib.bytesWorld,World.freeze,World.alloc,World.drew,-World.alloc_eq,-World.drew_eq]
 refine hs.new he (F:=λ b=>b=w.heap.size) ⟨λ w' hw=>?_,λ b hb=>by rw [hb,Go.Lib.bytesWorld_size]; omega⟩ λ b hb=>by rw [hb]; exact Nat.le_refl _
 have lF:(lr s).length=s.size:=dZ s
 refine ⟨some ⟨w.heap.size,0,none⟩,grownCap w s.size 0 e,by rw [lF],by rw [lF]; exact grownCap_ge w s.size 0 e,.inr ⟨w.heap.size,0,rfl,λ _=>trivial,λ j c hj=>?_⟩⟩
 rw [ach,List.getElem?_map] at hj
 obtain ⟨b,hb,rfl⟩:=Option.map_eq_some_iff.1 hj
 have mF:j<s.size:=by rw [← lF]; exact (List.getElem?_eq_some_iff.1 hb).1
 have h0:=hw w.heap.size rfl
 have D0:=Go.Lib.bytesWorld_cell w e s j mF
 have e2:s.data.toList.getD j 0=b:=by
  rw [List.getD_eq_getElem?_getD]
  have:s.data.toList[j]? = some b:=hb
  rw [this]; rfl
 rw [e2] at D0
 unfold Cell
 rw [Nat.zero_add]
 unfold World.cell? at D0 ⊢
 dsimp only at D0 ⊢
 rw [h0]; exact D0
def oo {α σ:Type} [Flat σ] [cA α σ] (P:Program) (w:World) (f:Value) (φ:α→Prop) (g:α→Bool):Prop:=∃ g0 first cap,f = .func (.func g0) (List.toArray first) (List.toArray cap)∧Plain P g0∧
 ∀ (s:σ) (x:α) w1,Ext w w1→cA.dr w1 s x→φ x→Calls P g0 (first++[Flat.val s]++cap).toArray w1 (qf λ v w2=>v = .bool (g x)∧Ext w1 w2)
theorem oo.ext {α σ:Type} [Flat σ] [cA α σ] {P:Program} {w w':World} {f:Value} {φ:α→Prop} {g:α→Bool} (h:oo P w f φ g) (e:Ext w w'):oo P w' f φ g:=by
 obtain ⟨g0,first,cap,h1,h2,h3⟩:=h; exact ⟨g0,first,cap,h1,h2,λ s x w1 e1=>h3 s x w1 (e.trans e1)⟩
theorem xp {α:Type} [Flat α] {P:Program} {S:Nat→Prop} {w:World} {T E:TypeId} {cx cy:Bool} {v:Value} {xs:List α} {K:Value→Prop} (h:P.underlying T=some (.slice E)) (hr:eE S w v xs) (k:∀ p:Bool,(p=true→xs=[])→K (.bool p)) :
  cY P (iC .eql T cx cy v (.slice none 0 0)) K:=by
 obtain ⟨a,cap,rfl,_,h3⟩:=hr
 have key:pr P (Op.equal T (.slice a xs.length cap) (.slice none 0 0))=some a.isNone:=by
  show pr P (Op.equalIn 10000 T (.slice a xs.length cap) (.slice none 0 0))=_
  unfold Op.equalIn
  rw [cN,cM h]
  cases a <;> rfl
 refine ⟨_,?_,k a.isNone λ ha=>?_⟩
 ·show pr P (do pure (Value.bool (← Op.equal T (.slice a xs.length cap) (.slice none 0 0))))=_
  rw [uR,key]; rfl
 ·rcases h3 with h3 | ⟨b,o,rfl,_⟩
  ·exact h3.1
  ·cases ha
theorem St.apa {α:Type} [Flat α] {w w0:World} {A:Nat→Prop} {L:List HP} {v:Value} {xs ys:List α} (hs:St w0 A (bK v xs::L) w) (h:xs=ys):St w0 A (bK v ys::L) w:=h▸hs
theorem Vd {α β:Type} [Flat α] [Flat β] {P:Program} {w w0:World} {A:Nat→Prop} {L:List HP} {xs:List α} {T:Nat} {v p:Value} {i off:Nat} {x:α} (y:β) (hs:St w0 A (bK v xs::L) w) (ht:cS P T=some (Flat.agg β,Flat.sz β)) (hp:IA α v i off p) (hx:xs[i]? = some x)
  (hy:((Flat.enc x).drop off).take (Flat.sz β)=Flat.enc y):(Instr.loadAt T p).run P w = .ok (Flat.val y) w:=by
 obtain ⟨v,h1,h2⟩:=(og (K:=λ v=>v=Flat.val y) y hs ht hp hx hy rfl).ex
 rw [← h2]; exact h1
structure Ptr where
 b:Nat
deriving DecidableEq
instance:Flat Ptr where
 agg:=false
 sz:=1
 enc p:=[.pointer (some ⟨p.b,0,none⟩)]
 val p:=.pointer (some ⟨p.b,0,none⟩)
 pos:=by decide
 len _:=rfl
 one a v h:=by rw [List.mem_singleton.1 h]; rfl
 nY h:=by cases h
 oI _ _:=rfl
instance:cA Ptr Ptr:=ji
def iF {α κ:Type} (H:κ→α→HP):List κ→List α→HP
 | [],[]=>emp
 | p::ps,x::xs=>sep (H p x) (iF H ps xs)
 | _,_=>fact False emp
section
variable {P:Program} {α κ:Type} {H:κ→α→HP} {A:Nat→Prop} {w0 w:World} {L:List HP}
theorem Bn:∀ {ps:List κ} {xs:List α} {F:Nat→Prop},(iF H ps xs).p w F→ps.length=xs.length
 | [],[],_,_=>rfl
 | s::ss,x::xs,F,h=>by
  obtain ⟨F1,F2,_,h2,_,_⟩:=h
  rw [List.length_cons,List.length_cons,Bn h2]
 | [],_::_,_,h=>h.1.elim
 | _::_,[],_,h=>h.1.elim
theorem St.lu {ps:List κ} {xs:List α} (hs:St w0 A (iF H ps xs::L) w):ps.length=xs.length:=by
 obtain ⟨F,h,_⟩:=hs.head; exact Bn h
theorem St.KP (hs:St w0 A L w):St w0 A (iF H [] []::L) w:=hs.new (Ext.refl w) (F:=bD) (λ _ h=>h) λ _ h=>h.elim
def qA (H:κ→α→HP) (ps:List κ) (xs:List α) (i:Nat):HP:=sep (iF H (ps.take i) (xs.take i)) (iF H (ps.drop (i+1)) (xs.drop (i+1)))
theorem B5:∀ {ps:List κ} {xs:List α} {i:Nat} {p:κ} {x:α} {F:Nat→Prop},(iF H ps xs).p w F→ps[i]? = some p→xs[i]? = some x→(sep (H p x) (qA H ps xs i)).p w F
 | p'::ps,x'::xs,0,p,x,F,h,hp,hx=>by
  rw [List.getElem?_cons_zero] at hp hx
  obtain rfl:=Option.some.inj hp
  obtain rfl:=Option.some.inj hx
  obtain ⟨F1,F2,h1,h2,h3,h4⟩:=h
  exact ⟨F1,F2,h1,⟨bD,F2,λ _ h=>h,h2,λ _ h=>h.elim,λ b=>⟨.inr,λ h=>h.elim (λ h=>h.elim) id⟩⟩,h3,h4⟩
 | p'::ps,x'::xs,i+1,p,x,F,h,hp,hx=>by
  rw [List.getElem?_cons_succ] at hp hx
  obtain ⟨F1,F2,h1,h2,h3,h4⟩:=h
  obtain ⟨G1,G2,g1,⟨K1,K2,k1,k2,k3,k4⟩,g3,g4⟩:=B5 h2 hp hx
  refine ⟨G1,λ b=>F1 b∨G2 b,g1,⟨λ b=>F1 b∨K1 b,K2,⟨F1,K1,h1,k1,λ b hb hk=>h3 b hb ((g4 b).2 (.inr ((k4 b).2 (.inl hk)))),λ b=>Iff.rfl⟩,k2,?_,?_⟩,?_,?_⟩
  ·rintro b (hb | hb) hk
   ·exact h3 b hb ((g4 b).2 (.inr ((k4 b).2 (.inr hk))))
   ·exact k3 b hb hk
  ·intro b; show F1 b∨G2 b↔(F1 b∨K1 b)∨K2 b; rw [k4 b,or_assoc]
  ·rintro b hb (hf | hf)
   ·exact h3 b hf ((g4 b).2 (.inl hb))
   ·exact g3 b hb hf
  ·intro b; rw [h4 b,g4 b]; constructor
   ·rintro (h | h | h)
    ·exact .inr (.inl h)
    ·exact .inl h
    ·exact .inr (.inr h)
   ·rintro (h | h | h)
    ·exact .inr (.inl h)
    ·exact .inl h
    ·exact .inr (.inr h)
 | [],[],_,_,_,_,_,hp,_=>by simp at hp
 | [],_::_,_,_,_,_,h,_,_=>h.1.elim
 | _::_,[],_,_,_,_,h,_,_=>h.1.elim
theorem Bo:∀ {ps:List κ} {xs:List α} {i:Nat} {p:κ} {x:α} {F:Nat→Prop},i<xs.length→ps.length=xs.length→(sep (H p x) (qA H ps xs i)).p w F→(iF H (ps.set i p) (xs.set i x)).p w F
 | p'::ps,x'::xs,0,p,x,F,_,_,h=>by
  obtain ⟨F1,F2,h1,⟨K1,K2,k1,k2,k3,k4⟩,h3,h4⟩:=h
  refine ⟨F1,F2,h1,?_,h3,h4⟩
  have e:F2=K2:=funext λ b=>propext ((k4 b).trans ⟨λ h=>h.elim (λ h=>(k1 b h).elim) id,.inr⟩)
  rw [e]; exact k2
 | p'::ps,x'::xs,i+1,p,x,F,hi,hl,h=>by
  obtain ⟨G1,G2,g1,⟨K1,K2,⟨F1,M1,f1,m1,f3,f4⟩,k2,k3,k4⟩,g3,g4⟩:=h
  refine ⟨F1,λ b=>G1 b∨(M1 b∨K2 b),f1,Bo (by simpa using hi) (by simpa using hl) ⟨G1,λ b=>M1 b∨K2 b,g1,⟨M1,K2,m1,k2,λ b hb hk=>k3 b ((f4 b).2 (.inr hb)) hk,λ b=>Iff.rfl⟩,?_,λ b=>Iff.rfl⟩,?_,?_⟩
  ·rintro b hb (h | h)
   ·exact g3 b hb ((k4 b).2 (.inl ((f4 b).2 (.inr h))))
   ·exact g3 b hb ((k4 b).2 (.inr h))
  ·rintro b hb (h | h | h)
   ·exact g3 b h ((k4 b).2 (.inl ((f4 b).2 (.inl hb))))
   ·exact f3 b hb h
   ·exact k3 b ((f4 b).2 (.inl hb)) h
  ·intro b; rw [g4 b,k4 b,f4 b]; constructor
   ·rintro (h | (h | h) | h)
    ·exact .inr (.inl h)
    ·exact .inl h
    ·exact .inr (.inr (.inl h))
    ·exact .inr (.inr (.inr h))
   ·rintro (h | h | h | h)
    ·exact .inr (.inl (.inl h))
    ·exact .inl h
    ·exact .inr (.inl (.inr h))
    ·exact .inr (.inr h)
 | [],_::_,_,_,_,_,_,hl,_=>by simp at hl
 | _,[],_,_,_,_,hi,_,_=>by simp at hi
theorem u4 {β:Type}:∀ {ps:List β} {i:Nat} {p:β},ps[i]? = some p→ps.set i p=ps
 | [],_,_,h=>by simp at h
 | y::ps,0,p,h=>by rw [List.getElem?_cons_zero] at h; obtain rfl:=Option.some.inj h; rfl
 | y::ps,i+1,p,h=>by rw [List.getElem?_cons_succ] at h; rw [List.set_cons_succ,u4 h]
theorem NC {ps:List κ} {xs:List α} {i:Nat} {p:κ} {x:α} {F:Nat→Prop} (hi:i<xs.length) (hl:ps.length=xs.length) (hp:ps[i]? = some p) (h:(sep (H p x) (qA H ps xs i)).p w F):(iF H ps (xs.set i x)).p w F:=by
 have:=Bo hi hl h; rwa [u4 hp] at this
theorem GP:∀ {ps qs:List κ} {xs ys:List α} {F:Nat→Prop},(sep (iF H ps xs) (iF H qs ys)).p w F→(iF H (ps++qs) (xs++ys)).p w F
 | [],qs,[],ys,F,⟨F1,F2,h1,h2,_,h4⟩=>by
  have:F=F2:=funext λ b=>propext ((h4 b).trans ⟨λ h=>h.elim (λ h=>(h1 b h).elim) id,.inr⟩)
  rw [this]; exact h2
 | p::ps,qs,x::xs,ys,F,⟨F1,F2,⟨G1,G2,g1,g2,g3,g4⟩,h2,h3,h4⟩=>by
  refine ⟨G1,λ b=>G2 b∨F2 b,g1,GP ⟨G2,F2,g2,h2,λ b hb=>h3 b ((g4 b).2 (.inr hb)),λ b=>Iff.rfl⟩,λ b hb=>?_,λ b=>by rw [h4 b,g4 b,or_assoc]⟩
  rintro (hh | hh)
  ·exact g3 b hb hh
  ·exact h3 b ((g4 b).2 (.inl hb)) hh
 | [],_,_::_,_,_,⟨_,_,h,_⟩=>h.1.elim
 | _::_,_,[],_,_,⟨_,_,h,_⟩=>h.1.elim
theorem St.focus {ps:List κ} {xs:List α} {i:Nat} {p:κ} {x:α} (hs:St w0 A (iF H ps xs::L) w) (hp:ps[i]? = some p) (hx:xs[i]? = some x):St w0 A (H p x::qA H ps xs i::L) w:=
 (hs.rY (H':=sep (H p x) (qA H ps xs i)) λ F hF=>⟨F,B5 hF hp hx,λ b hb=>.inl hb,iE.refl _ _⟩).split
theorem St.sw {ps:List κ} {xs:List α} {i:Nat} {p:κ} {x:α} (hs:St w0 A (H p x::qA H ps xs i::L) w) (hi:i<xs.length) (hl:ps.length=xs.length) (hp:ps[i]? = some p):St w0 A (iF H ps (xs.set i x)::L) w:=
 (St.join hs).rY λ F hF=>⟨F,NC hi hl hp hF,λ b hb=>.inl hb,iE.refl _ _⟩
theorem D4:∀ {ps:List κ} {xs:List α} {p:κ} {x:α} {F1 F2 F:Nat→Prop},(iF H ps xs).p w F1→(H p x).p w F2→(∀ b,F1 b→¬ F2 b)→(∀ b,F b↔F1 b∨F2 b)→(iF H (ps++[p]) (xs++[x])).p w F
 | [],[],p,x,F1,F2,F,h1,h2,_,h4=>⟨F2,F1,h2,h1,λ b _ IB=>h1 b IB,λ b=>by rw [h4 b]; exact ⟨λ h=>h.symm,λ h=>h.symm⟩⟩
 | s'::ss,x'::xs,p,x,F1,F2,F,h1,h2,h3,h4=>by
  obtain ⟨G1,G2,g1,g2,g3,g4⟩:=h1
  refine ⟨G1,λ b=>G2 b∨F2 b,g1,D4 g2 h2 (λ b hb=>h3 b ((g4 b).2 (.inr hb))) (λ b=>Iff.rfl),λ b hb=>?_,λ b=>?_⟩
  ·rintro (hh | hh)
   ·exact g3 b hb hh
   ·exact h3 b ((g4 b).2 (.inl hb)) hh
  ·rw [h4 b,g4 b,or_assoc]
 | [],_::_,_,_,_,_,_,h,_,_,_=>h.1.elim
 | _::_,[],_,_,_,_,_,h,_,_,_=>h.1.elim
theorem St.D5 {ps:List κ} {xs:List α} {p:κ} {x:α} (hs:St w0 A (iF H ps xs::H p x::L) w):St w0 A (iF H (ps++[p]) (xs++[x])::L) w:=by
 refine (St.join hs).rY λ F hF=>?_
 obtain ⟨F1,F2,h1,h2,h3,h4⟩:=hF
 exact ⟨F,D4 h1 h2 h3 h4,λ b hb=>.inl hb,iE.refl _ _⟩
theorem St.D6 {ps:List κ} {xs:List α} {i:Nat} {p:κ} {x:α} (hs:St w0 A (H p x::qA H ps xs i::L) w) (hi:i<xs.length) (hl:ps.length=xs.length):St w0 A (iF H (ps.set i p) (xs.set i x)::L) w:=
 (St.join hs).rY λ F hF=>⟨F,Bo hi hl hF,λ b hb=>.inl hb,iE.refl _ _⟩
theorem St.Sj {ps:List κ} {xs:List α} {i:Nat} (hs:St w0 A (qA H ps xs i::L) w):St w0 A (iF H (ps.eraseIdx i) (xs.eraseIdx i)::L) w:=by
 rw [List.eraseIdx_eq_take_drop_succ,List.eraseIdx_eq_take_drop_succ]
 exact hs.rY λ F hF=>⟨F,GP hF,λ b hb=>.inl hb,iE.refl _ _⟩
theorem St.apb {ps:List κ} {xs:List α} {i:Nat} {p:κ} {x:α} {Φ:World→Prop} (hs:St w0 A (iF H ps xs::L) w) (hp:ps[i]? = some p) (hx:xs[i]? = some x) (h:∀ {w F},(H p x).p w F→Φ w):Φ w:=by
 obtain ⟨F,hF,_⟩:=(hs.focus hp hx).head; exact h hF
end
end Go.Fw
namespace Go.Proofs.YtnjcingfdhjfkaaGreat
open Go.Fw
@[ext] structure dI where
 name:ByteArray
 n:Int
 at_:Int
deriving DecidableEq
instance:Flat dI where
 agg:=true
 sz:=3
 enc e:=[.string e.name,.int .i64 e.n,.int .i64 e.at_]
 val e:=.agg [.string e.name,.int .i64 e.n,.int .i64 e.at_].toArray
 pos:=by decide
 len _:=rfl
 one a v h:=by simp at h; rcases h with rfl | rfl | rfl <;> rfl
 nY _ _:=rfl
 oI h:=by cases h
instance:cA dI dI:=ji
def xq (x:dI):Prop:=(x.name).size≤maxLen∧mH x.n∧mH x.at_
@[ext] structure dC where
 op:Int
 n:Int
 name:ByteArray
 at_:Int
deriving DecidableEq
instance:Flat dC where
 agg:=true
 sz:=4
 enc e:=[.int .i64 e.op,.int .i64 e.n,.string e.name,.int .i64 e.at_]
 val e:=.agg [.int .i64 e.op,.int .i64 e.n,.string e.name,.int .i64 e.at_].toArray
 pos:=by decide
 len _:=rfl
 one a v h:=by simp at h; rcases h with rfl | rfl | rfl | rfl <;> rfl
 nY _ _:=rfl
 oI h:=by cases h
instance:cA dC dC:=ji
def zW (x:dC):Prop:=mH x.op∧mH x.n∧(x.name).size≤maxLen∧mH x.at_
structure cG where
 kind:Int
 gP:ByteArray
 name:ByteArray
 e:(List dC)
 f:(List dC)
 n:Int
 body:Int
 fJ:Int
 at_:Int
deriving DecidableEq
structure bY where
 kind:Int
 gP:ByteArray
 name:ByteArray
 e:SV
 f:SV
 n:Int
 body:Int
 fJ:Int
 at_:Int
instance:Flat bY where
 agg:=true
 sz:=9
 enc e:=[.int .i64 e.kind,.string e.gP,.string e.name,.slice e.e.a e.e.n e.e.cap,.slice e.f.a e.f.n e.f.cap,.int .i64 e.n,.int .i64 e.body,.int .i64 e.fJ,.int .i64 e.at_]
 val e:=.agg [.int .i64 e.kind,.string e.gP,.string e.name,.slice e.e.a e.e.n e.e.cap,.slice e.f.a e.f.n e.f.cap,.int .i64 e.n,.int .i64 e.body,.int .i64 e.fJ,.int .i64 e.at_].toArray
 pos:=by decide
 len _:=rfl
 one a v h:=by simp at h; rcases h with rfl | rfl | rfl | rfl | rfl | rfl | rfl | rfl | rfl <;> rfl
 nY _ _:=rfl
 oI h:=by cases h
instance:cA cG bY where
 dr w s x:=∃ (e_:SV) (f_:SV),s=(⟨x.kind,x.gP,x.name,e_,f_,x.n,x.body,x.fJ,x.at_⟩:bY)∧DL w (Flat.val e_) x.e∧DL w (Flat.val f_) x.f
 ext h e:=by
  obtain ⟨g0,g1,rfl,h0,h1⟩:=h
  exact ⟨g0,g1,rfl,h0.ext e,h1.ext e⟩
def IE (x:cG):Prop:=mH x.kind∧(x.gP).size≤maxLen∧(x.name).size≤maxLen∧(∀ y∈x.e,zW y)∧(∀ y∈x.f,zW y)∧mH x.n∧mH x.body∧mH x.fJ∧mH x.at_
structure dS where
 name:ByteArray
 aN:(List ByteArray)
 body:(List cG)
 at_:Int
deriving DecidableEq
structure ei where
 name:ByteArray
 aN:SV
 body:SV
 at_:Int
instance:Flat ei where
 agg:=true
 sz:=4
 enc e:=[.string e.name,.slice e.aN.a e.aN.n e.aN.cap,.slice e.body.a e.body.n e.body.cap,.int .i64 e.at_]
 val e:=.agg [.string e.name,.slice e.aN.a e.aN.n e.aN.cap,.slice e.body.a e.body.n e.body.cap,.int .i64 e.at_].toArray
 pos:=by decide
 len _:=rfl
 one a v h:=by simp at h; rcases h with rfl | rfl | rfl | rfl <;> rfl
 nY _ _:=rfl
 oI h:=by cases h
instance:cA dS ei where
 dr w s x:=∃ (KQ:SV) (afT:SV),s=(⟨x.name,KQ,afT,x.at_⟩:ei)∧DL w (Flat.val KQ) x.aN∧DL w (Flat.val afT) x.body
 ext h e:=by
  obtain ⟨g0,g1,rfl,h0,h1⟩:=h
  exact ⟨g0,g1,rfl,h0.ext e,h1.ext e⟩
def xr (x:dS):Prop:=(x.name).size≤maxLen∧(∀ y∈x.aN,(λ y:ByteArray=>y.size≤maxLen) y)∧(∀ y∈x.body,IE y)∧mH x.at_
structure jG where
 e:(List dC)
 at_:Int
deriving DecidableEq
structure lP where
 e:SV
 at_:Int
instance:Flat lP where
 agg:=true
 sz:=2
 enc e:=[.slice e.e.a e.e.n e.e.cap,.int .i64 e.at_]
 val e:=.agg [.slice e.e.a e.e.n e.e.cap,.int .i64 e.at_].toArray
 pos:=by decide
 len _:=rfl
 one a v h:=by simp at h; rcases h with rfl | rfl <;> rfl
 nY _ _:=rfl
 oI h:=by cases h
instance:cA jG lP where
 dr w s x:=∃ (e_:SV),s=(⟨e_,x.at_⟩:lP)∧DL w (Flat.val e_) x.e
 ext h e:=by
  obtain ⟨g0,rfl,h0⟩:=h
  exact ⟨g0,rfl,h0.ext e⟩
def D7 (x:jG):Prop:=(∀ y∈x.e,zW y)∧mH x.at_
structure cW where
 lines:(List (List dI))
 jV:(List dI)
 locks:(List dI)
 threads:(List dS)
 recover:(List dS)
 cC:(List jG)
deriving DecidableEq
structure bL where
 lines:SV
 jV:SV
 locks:SV
 threads:SV
 recover:SV
 cC:SV
instance:Flat bL where
 agg:=true
 sz:=6
 enc e:=[.slice e.lines.a e.lines.n e.lines.cap,.slice e.jV.a e.jV.n e.jV.cap,.slice e.locks.a e.locks.n e.locks.cap,.slice e.threads.a e.threads.n e.threads.cap,.slice e.recover.a e.recover.n e.recover.cap,.slice e.cC.a e.cC.n e.cC.cap]
 val e:=.agg [.slice e.lines.a e.lines.n e.lines.cap,.slice e.jV.a e.jV.n e.jV.cap,.slice e.locks.a e.locks.n e.locks.cap,.slice e.threads.a e.threads.n e.threads.cap,.slice e.recover.a e.recover.n e.recover.cap,.slice e.cC.a e.cC.n e.cC.cap].toArray
 pos:=by decide
 len _:=rfl
 one a v h:=by simp at h; rcases h with rfl | rfl | rfl | rfl | rfl | rfl <;> rfl
 nY _ _:=rfl
 oI h:=by cases h
instance:cA cW bL where
 dr w s x:=∃ (D8:SV) (afU:SV) (Ve:SV) (wk:SV) (wm:SV) (zX:SV),s=(⟨D8,afU,Ve,wk,wm,zX⟩:bL)∧DL w (Flat.val D8) x.lines∧DL w (Flat.val afU) x.jV∧DL w (Flat.val Ve) x.locks∧DL w (Flat.val wk) x.threads∧DL w (Flat.val wm) x.recover∧DL w (Flat.val zX) x.cC
 ext h e:=by
  obtain ⟨g0,g1,g2,g3,g4,g5,rfl,h0,h1,h2,h3,h4,h5⟩:=h
  exact ⟨g0,g1,g2,g3,g4,g5,rfl,h0.ext e,h1.ext e,h2.ext e,h3.ext e,h4.ext e,h5.ext e⟩
def aci (x:cW):Prop:=(∀ y∈x.lines,(λ ys:(List dI)=>∀ y∈ys,xq y) y)∧(∀ y∈x.jV,xq y)∧(∀ y∈x.locks,xq y)∧(∀ y∈x.threads,xr y)∧(∀ y∈x.recover,xr y)∧(∀ y∈x.cC,D7 y)
structure Vf where
 p:cW
 aN:(List ByteArray)
deriving DecidableEq
structure wo where
 p:bL
 aN:SV
instance:Flat wo where
 agg:=true
 sz:=7
 enc e:=[.slice e.p.lines.a e.p.lines.n e.p.lines.cap,.slice e.p.jV.a e.p.jV.n e.p.jV.cap,.slice e.p.locks.a e.p.locks.n e.p.locks.cap,.slice e.p.threads.a e.p.threads.n e.p.threads.cap,.slice e.p.recover.a e.p.recover.n e.p.recover.cap,.slice e.p.cC.a e.p.cC.n e.p.cC.cap,.slice e.aN.a e.aN.n e.aN.cap]
 val e:=.agg [.slice e.p.lines.a e.p.lines.n e.p.lines.cap,.slice e.p.jV.a e.p.jV.n e.p.jV.cap,.slice e.p.locks.a e.p.locks.n e.p.locks.cap,.slice e.p.threads.a e.p.threads.n e.p.threads.cap,.slice e.p.recover.a e.p.recover.n e.p.recover.cap,.slice e.p.cC.a e.p.cC.n e.p.cC.cap,.slice e.aN.a e.aN.n e.aN.cap].toArray
 pos:=by decide
 len _:=rfl
 one a v h:=by simp at h; rcases h with rfl | rfl | rfl | rfl | rfl | rfl | rfl <;> rfl
 nY _ _:=rfl
 oI h:=by cases h
instance:cA Vf wo where
 dr w s x:=∃ (p_:bL) (KQ:SV),s=(⟨p_,KQ⟩:wo)∧cA.dr w p_ x.p∧DL w (Flat.val KQ) x.aN
 ext h e:=by
  obtain ⟨g0,g1,rfl,h0,h1⟩:=h
  exact ⟨g0,g1,rfl,cA.ext h0 e,h1.ext e⟩
@[ext] structure nx where
 kind:Int
 n:Int
deriving DecidableEq
instance:Flat nx where
 agg:=true
 sz:=2
 enc e:=[.int .i64 e.kind,.int .i64 e.n]
 val e:=.agg [.int .i64 e.kind,.int .i64 e.n].toArray
 pos:=by decide
 len _:=rfl
 one a v h:=by simp at h; rcases h with rfl | rfl <;> rfl
 nY _ _:=rfl
 oI h:=by cases h
instance:cA nx nx:=ji
structure aW where
 kind:Int
 a:Int
 b:Int
 e:(List nx)
 f:(List nx)
 to:Int
deriving DecidableEq
structure bU where
 kind:Int
 a:Int
 b:Int
 e:SV
 f:SV
 to:Int
instance:Flat bU where
 agg:=true
 sz:=6
 enc e:=[.int .i64 e.kind,.int .i64 e.a,.int .i64 e.b,.slice e.e.a e.e.n e.e.cap,.slice e.f.a e.f.n e.f.cap,.int .i64 e.to]
 val e:=.agg [.int .i64 e.kind,.int .i64 e.a,.int .i64 e.b,.slice e.e.a e.e.n e.e.cap,.slice e.f.a e.f.n e.f.cap,.int .i64 e.to].toArray
 pos:=by decide
 len _:=rfl
 one a v h:=by simp at h; rcases h with rfl | rfl | rfl | rfl | rfl | rfl <;> rfl
 nY _ _:=rfl
 oI h:=by cases h
instance:cA aW bU where
 dr w s x:=∃ (e_:SV) (f_:SV),s=(⟨x.kind,x.a,x.b,e_,f_,x.to⟩:bU)∧DL w (Flat.val e_) x.e∧DL w (Flat.val f_) x.f
 ext h e:=by
  obtain ⟨g0,g1,rfl,h0,h1⟩:=h
  exact ⟨g0,g1,rfl,h0.ext e,h1.ext e⟩
structure fq where
 aN:Int
 counts:Int
 l:(List aW)
deriving DecidableEq
structure cL where
 aN:Int
 counts:Int
 l:SV
instance:Flat cL where
 agg:=true
 sz:=3
 enc e:=[.int .i64 e.aN,.int .i64 e.counts,.slice e.l.a e.l.n e.l.cap]
 val e:=.agg [.int .i64 e.aN,.int .i64 e.counts,.slice e.l.a e.l.n e.l.cap].toArray
 pos:=by decide
 len _:=rfl
 one a v h:=by simp at h; rcases h with rfl | rfl | rfl <;> rfl
 nY _ _:=rfl
 oI h:=by cases h
instance:cA fq cL where
 dr w s x:=∃ (l_:SV),s=(⟨x.aN,x.counts,l_⟩:cL)∧DL w (Flat.val l_) x.l
 ext h e:=by
  obtain ⟨g0,rfl,h0⟩:=h
  exact ⟨g0,rfl,h0.ext e⟩
structure ir where
 lines:(List Int)
 stays:Int
 dF:(List Int)
 locks:Int
 threads:(List fq)
 recover:fq
 cC:(List (List nx))
deriving DecidableEq
structure dL where
 lines:SV
 stays:Int
 dF:SV
 locks:Int
 threads:SV
 recover:cL
 cC:SV
instance:Flat dL where
 agg:=true
 sz:=9
 enc e:=[.slice e.lines.a e.lines.n e.lines.cap,.int .i64 e.stays,.slice e.dF.a e.dF.n e.dF.cap,.int .i64 e.locks,.slice e.threads.a e.threads.n e.threads.cap,.int .i64 e.recover.aN,.int .i64 e.recover.counts,.slice e.recover.l.a e.recover.l.n e.recover.l.cap,.slice e.cC.a e.cC.n e.cC.cap]
 val e:=.agg [.slice e.lines.a e.lines.n e.lines.cap,.int .i64 e.stays,.slice e.dF.a e.dF.n e.dF.cap,.int .i64 e.locks,.slice e.threads.a e.threads.n e.threads.cap,.int .i64 e.recover.aN,.int .i64 e.recover.counts,.slice e.recover.l.a e.recover.l.n e.recover.l.cap,.slice e.cC.a e.cC.n e.cC.cap].toArray
 pos:=by decide
 len _:=rfl
 one a v h:=by simp at h; rcases h with rfl | rfl | rfl | rfl | rfl | rfl | rfl | rfl | rfl <;> rfl
 nY _ _:=rfl
 oI h:=by cases h
instance:cA ir dL where
 dr w s x:=∃ (D8:SV) (Qs:SV) (wk:SV) (wm:cL) (zX:SV),s=(⟨D8,x.stays,Qs,x.locks,wk,wm,zX⟩:dL)∧DL w (Flat.val D8) x.lines∧DL w (Flat.val Qs) x.dF∧DL w (Flat.val wk) x.threads∧cA.dr w wm x.recover∧DL w (Flat.val zX) x.cC
 ext h e:=by
  obtain ⟨g0,g1,g2,g3,g4,rfl,h0,h1,h2,h3,h4⟩:=h
  exact ⟨g0,g1,g2,g3,g4,rfl,h0.ext e,h1.ext e,h2.ext e,cA.ext h3 e,h4.ext e⟩
structure ej where
 kind:Int
 t:Int
 i:Int
 cut:(List Int)
deriving DecidableEq
structure cX where
 kind:Int
 t:Int
 i:Int
 cut:SV
instance:Flat cX where
 agg:=true
 sz:=4
 enc e:=[.int .i64 e.kind,.int .i64 e.t,.int .i64 e.i,.slice e.cut.a e.cut.n e.cut.cap]
 val e:=.agg [.int .i64 e.kind,.int .i64 e.t,.int .i64 e.i,.slice e.cut.a e.cut.n e.cut.cap].toArray
 pos:=by decide
 len _:=rfl
 one a v h:=by simp at h; rcases h with rfl | rfl | rfl | rfl <;> rfl
 nY _ _:=rfl
 oI h:=by cases h
instance:cA ej cX where
 dr w s x:=∃ (apc:SV),s=(⟨x.kind,x.t,x.i,apc⟩:cX)∧DL w (Flat.val apc) x.cut
 ext h e:=by
  obtain ⟨g0,rfl,h0⟩:=h
  exact ⟨g0,rfl,h0.ext e⟩
def Qt (x:ej):Prop:=mH x.kind∧mH x.t∧mH x.i∧(∀ y∈x.cut,mH y)
structure D9 where
 kind:Int
 n:Int
 p:ej
deriving DecidableEq
structure sy where
 kind:Int
 n:Int
 p:cX
instance:Flat sy where
 agg:=true
 sz:=6
 enc e:=[.int .i64 e.kind,.int .i64 e.n,.int .i64 e.p.kind,.int .i64 e.p.t,.int .i64 e.p.i,.slice e.p.cut.a e.p.cut.n e.p.cut.cap]
 val e:=.agg [.int .i64 e.kind,.int .i64 e.n,.int .i64 e.p.kind,.int .i64 e.p.t,.int .i64 e.p.i,.slice e.p.cut.a e.p.cut.n e.p.cut.cap].toArray
 pos:=by decide
 len _:=rfl
 one a v h:=by simp at h; rcases h with rfl | rfl | rfl | rfl | rfl | rfl <;> rfl
 nY _ _:=rfl
 oI h:=by cases h
instance:cA D9 sy where
 dr w s x:=∃ (p_:cX),s=(⟨x.kind,x.n,p_⟩:sy)∧cA.dr w p_ x.p
 ext h e:=by
  obtain ⟨g0,rfl,h0⟩:=h
  exact ⟨g0,rfl,cA.ext h0 e⟩
def aiR (x:D9):Prop:=mH x.kind∧mH x.n∧Qt x.p
@[ext] structure cQ where
 kind:Int
 t:Int
 a:Int
 n:Int
 m:Int
deriving DecidableEq
instance:Flat cQ where
 agg:=true
 sz:=5
 enc e:=[.int .i64 e.kind,.int .i64 e.t,.int .i64 e.a,.int .i64 e.n,.int .i64 e.m]
 val e:=.agg [.int .i64 e.kind,.int .i64 e.t,.int .i64 e.a,.int .i64 e.n,.int .i64 e.m].toArray
 pos:=by decide
 len _:=rfl
 one a v h:=by simp at h; rcases h with rfl | rfl | rfl | rfl | rfl <;> rfl
 nY _ _:=rfl
 oI h:=by cases h
instance:cA cQ cQ:=ji
@[ext] structure iG where
 ew:Int
 fault:Int
 t:Int
 done:Bool
 stuck:Bool
deriving DecidableEq
instance:Flat iG where
 agg:=true
 sz:=5
 enc e:=[.int .i64 e.ew,.int .i64 e.fault,.int .i64 e.t,.bool e.done,.bool e.stuck]
 val e:=.agg [.int .i64 e.ew,.int .i64 e.fault,.int .i64 e.t,.bool e.done,.bool e.stuck].toArray
 pos:=by decide
 len _:=rfl
 one a v h:=by simp at h; rcases h with rfl | rfl | rfl | rfl | rfl <;> rfl
 nY _ _:=rfl
 oI h:=by cases h
instance:cA iG iG:=ji
@[ext] structure bJ where
 kind:Int
 line:Int
 cell:Int
 n:Int
deriving DecidableEq
instance:Flat bJ where
 agg:=true
 sz:=4
 enc e:=[.int .i64 e.kind,.int .i64 e.line,.int .i64 e.cell,.int .i64 e.n]
 val e:=.agg [.int .i64 e.kind,.int .i64 e.line,.int .i64 e.cell,.int .i64 e.n].toArray
 pos:=by decide
 len _:=rfl
 one a v h:=by simp at h; rcases h with rfl | rfl | rfl | rfl <;> rfl
 nY _ _:=rfl
 oI h:=by cases h
instance:cA bJ bJ:=ji
@[ext] structure bI where
 kind:Int
 text:ByteArray
 n:Int
 at_:Int
deriving DecidableEq
instance:Flat bI where
 agg:=true
 sz:=4
 enc e:=[.int .i64 e.kind,.string e.text,.int .i64 e.n,.int .i64 e.at_]
 val e:=.agg [.int .i64 e.kind,.string e.text,.int .i64 e.n,.int .i64 e.at_].toArray
 pos:=by decide
 len _:=rfl
 one a v h:=by simp at h; rcases h with rfl | rfl | rfl | rfl <;> rfl
 nY _ _:=rfl
 oI h:=by cases h
instance:cA bI bI:=ji
@[ext] structure jq where
 cell:Int
 n:Int
deriving DecidableEq
instance:Flat jq where
 agg:=true
 sz:=2
 enc e:=[.int .i64 e.cell,.int .i64 e.n]
 val e:=.agg [.int .i64 e.cell,.int .i64 e.n].toArray
 pos:=by decide
 len _:=rfl
 one a v h:=by simp at h; rcases h with rfl | rfl <;> rfl
 nY _ _:=rfl
 oI h:=by cases h
instance:cA jq jq:=ji
def Sk (p:Bool):Int:=if p then 1 else 0
def afV (a b:Int):Int:=rq (a.tdiv b)
def Cz (op a:Int):Int:=if op=3 then rq (0 - a) else if op=4 then Sk (decide (a=0)) else 0
def KR (op:Int):Int:=if op=3∨op=4 then 0 else 1
def tf (op a b:Int):Int:=
 if op=5 then rq (a+b) else if op=6 then rq (a - b) else if op=7 then rq (a * b) else if op=8 then afV a b else if op=9 then a.tmod b
 else if op=10 then Sk (decide (a=b)) else if op=11 then Sk (decide (¬ a=b)) else if op=12 then Sk (decide (a<b)) else if op=13 then Sk (decide (a≤b))
 else if op=14 then Sk (decide (¬ a=0) && decide (¬ b=0)) else if op=15 then Sk (decide (¬ a=0) || decide (¬ b=0)) else 0
def qh (op b:Int):Int:=if op<5∨15<op then 1 else if (op=8∨op=9)∧b=0 then 12 else 0
def qi (op a b:Int):Int:=if qh op b=0 then tf op a b else 0
theorem C228 (p:Bool) (w:World):CR 228 [.bool p] w (λ v w'=>v = .int .i64 (Sk p)∧Ext w w'):=by
 have hs:=St.start w;refine abh _ _ _ ?_;unfold S228;refine aY (λ Ea=>?_) (λ Ea=>?_)
 ·rw [Ea];exact ⟨rfl,hs.aE⟩
 ·rw [Ea];exact ⟨rfl,hs.aE⟩
theorem C217 (p:Bool) (w:World):CR 217 [.bool p] w (λ v w'=>v = .int .i64 (Sk p)∧Ext w w'):=by
 have hs:=St.start w;refine aa7 _ _ _ ?_;unfold S217;refine aY (λ Ea=>?_) (λ Ea=>?_)
 ·rw [Ea];exact ⟨rfl,hs.aE⟩
 ·rw [Ea];exact ⟨rfl,hs.aE⟩
theorem C218 (a:Int) (w:World):CR 218 [.int .i64 a] w (λ v w'=>v = .bool (decide (¬ a=0))∧Ext w w'):=by
 have hs:=St.start w;refine aa8 _ _ _ ?_;unfold S218;refine cO ?_;exact ⟨rfl,hs.aE⟩
theorem C201 (op a:Int) (w:World):CR 201 [.int .i64 op,.int .i64 a] w (λ v w'=>v = .tuple #[.int .i64 (Cz op a),.int .i64 (KR op)]∧Ext w w'):=by
 have hs:=St.start w;refine aaU _ _ _ _ ?_;unfold S201;refine aH (aC (λ iV=>?_) (λ iV=>?_))
 ·refine D1 ?_;unfold Cz KR
  first | (rw [if_pos iV,if_pos (.inl iV)]; exact ⟨rfl,hs.aE⟩) | (rw [if_neg iV,if_pos gT,if_pos (.inr gT)]; exact ⟨rfl,hs.aE⟩) | (rw [if_neg iV,if_neg gT,if_neg (by omega)]; exact ⟨rfl,hs.aE⟩)
 ·refine aH (aC (λ gT=>?_) (λ gT=>?_))
  ·refine aH (aZ aon hs (C228 _ _) (λ w1 he hs=>?_));unfold Cz KR
   first | (rw [if_pos iV,if_pos (.inl iV)]; exact ⟨rfl,hs.aE⟩) | (rw [if_neg iV,if_pos gT,if_pos (.inr gT)]; exact ⟨rfl,hs.aE⟩) | (rw [if_neg iV,if_neg gT,if_neg (by omega)]; exact ⟨rfl,hs.aE⟩)
  ·unfold Cz KR
   first | (rw [if_pos iV,if_pos (.inl iV)]; exact ⟨rfl,hs.aE⟩) | (rw [if_neg iV,if_pos gT,if_pos (.inr gT)]; exact ⟨rfl,hs.aE⟩) | (rw [if_neg iV,if_neg gT,if_neg (by omega)]; exact ⟨rfl,hs.aE⟩)
theorem C173 (op a:Int) (w:World):CR 173 [.int .i64 op,.int .i64 a] w (λ v w'=>v = .tuple #[.int .i64 (Cz op a),.int .i64 (KR op)]∧Ext w w'):=by
 have hs:=St.start w;refine aaw _ _ _ _ ?_;unfold S173;refine aH (aC (λ gp=>?_) (λ gp=>?_))
 ·refine U8 ?_;unfold Cz KR
  first | (rw [if_pos gp,if_pos (.inl gp)]; exact ⟨rfl,hs.aE⟩) | (rw [if_neg gp,if_pos j1,if_pos (.inr j1)]; exact ⟨congrArg (λ p=>Value.tuple #[.int .i64 (Sk p),.int .i64 0]) (by simp),hs.aE⟩) | (rw [if_neg gp,if_neg j1,if_neg (by omega)]; exact ⟨rfl,hs.aE⟩)
 ·refine aH (aC (λ j1=>?_) (λ j1=>?_))
  ·refine aZ Kg hs (C218 _ _) (λ w1 he hs=>?_)
   first | refine DC ?_ | refine bZ ?_
   refine aZ afA hs (C217 _ _) (λ w2 he hs=>?_);unfold Cz KR
   first | (rw [if_pos gp,if_pos (.inl gp)]; exact ⟨rfl,hs.aE⟩) | (rw [if_neg gp,if_pos j1,if_pos (.inr j1)]; exact ⟨congrArg (λ p=>Value.tuple #[.int .i64 (Sk p),.int .i64 0]) (by simp),hs.aE⟩) | (rw [if_neg gp,if_neg j1,if_neg (by omega)]; exact ⟨rfl,hs.aE⟩)
  ·unfold Cz KR
   first | (rw [if_pos gp,if_pos (.inl gp)]; exact ⟨rfl,hs.aE⟩) | (rw [if_neg gp,if_pos j1,if_pos (.inr j1)]; exact ⟨congrArg (λ p=>Value.tuple #[.int .i64 (Sk p),.int .i64 0]) (by simp),hs.aE⟩) | (rw [if_neg gp,if_neg j1,if_neg (by omega)]; exact ⟨rfl,hs.aE⟩)
theorem ry:ao8 PG 289 16 288:=⟨by kernel_rfl,by kernel_rfl⟩
def apd (b1 b2 b3 b4 b5 b6:Nat) (w:World):Prop:=
 Cell w b1 0 (.func (.func 243) #[] #[])∧Cell w b2 0 (.func (.func 244) #[] #[])∧Cell w b3 0 (.func (.func 245) #[] #[])∧Cell w b4 0 (.func (.func 246) #[] #[])∧Cell w b5 0 (.func (.func 247) #[] #[])∧Cell w b6 0 (.func (.func 248) #[] #[])
def opsV (b1 b2 b3 b4 b5 b6:Nat):Value:=
 .agg [.nilFunc,.nilFunc,.nilFunc,.nilFunc,.nilFunc,.func (.func 238) #[] #[],.func (.func 239) #[] #[],.func (.func 240) #[] #[],.func (.func 241) #[] #[],.func (.func 242) #[] #[],
  .func (.func 237) #[] #[.pointer (some ⟨b1,0,none⟩)],.func (.func 237) #[] #[.pointer (some ⟨b2,0,none⟩)],.func (.func 237) #[] #[.pointer (some ⟨b3,0,none⟩)],.func (.func 237) #[] #[.pointer (some ⟨b4,0,none⟩)],
  .func (.func 237) #[] #[.pointer (some ⟨b5,0,none⟩)],.func (.func 237) #[] #[.pointer (some ⟨b6,0,none⟩)]].toArray
def Fb2 (f:Value) (g:Int→Int→Bool):Prop:=∃ g0,f = .func (.func g0) #[] #[]∧Plain PG g0∧
 ∀ a b w1,Calls PG g0 [.int .i64 a,.int .i64 b].toArray w1 (qf λ v w2=>v = .bool (g a b)∧Ext w1 w2)
theorem C238 (a b:Int) (w:World):CR 238 [.int .i64 a,.int .i64 b] w (λ v w'=>v = .int .i64 (rq (a+b))∧Ext w w'):=by
 have hs:=St.start w;refine abr _ _ _ _ ?_;unfold S238;refine KJ ?_;exact ⟨rfl,hs.aE⟩
theorem C239 (a b:Int) (w:World):CR 239 [.int .i64 a,.int .i64 b] w (λ v w'=>v = .int .i64 (rq (a - b))∧Ext w w'):=by
 have hs:=St.start w;refine abt _ _ _ _ ?_;unfold S239;refine D1 ?_;exact ⟨rfl,hs.aE⟩
theorem C240 (a b:Int) (w:World):CR 240 [.int .i64 a,.int .i64 b] w (λ v w'=>v = .int .i64 (rq (a * b))∧Ext w w'):=by
 have hs:=St.start w;refine abu _ _ _ _ ?_;unfold S240;refine KK ?_;exact ⟨rfl,hs.aE⟩
theorem C241 (a b:Int) (w:World) (h:b≠0):CR 241 [.int .i64 a,.int .i64 b] w (λ v w'=>v = .int .i64 (afV a b)∧Ext w w'):=by
 have hs:=St.start w;refine abv _ _ _ _ ?_;unfold S241;refine U9 h ?_;exact ⟨rfl,hs.aE⟩
theorem C242 (a b:Int) (w:World) (h:b≠0):CR 242 [.int .i64 a,.int .i64 b] w (λ v w'=>v = .int .i64 (a.tmod b)∧Ext w w'):=by
 have hs:=St.start w;refine abw _ _ _ _ ?_;unfold S242;refine Va h ?_;exact ⟨rfl,hs.aE⟩
theorem C243 (a b:Int) (w:World):CR 243 [.int .i64 a,.int .i64 b] w (λ v w'=>v = .bool (decide (a=b))∧Ext w w'):=by
 have hs:=St.start w;refine abx _ _ _ _ ?_;unfold S243;refine aH ?_;exact ⟨rfl,hs.aE⟩
theorem C244 (a b:Int) (w:World):CR 244 [.int .i64 a,.int .i64 b] w (λ v w'=>v = .bool (decide (¬ a=b))∧Ext w w'):=by
 have hs:=St.start w;refine aby _ _ _ _ ?_;unfold S244;refine cO ?_;exact ⟨rfl,hs.aE⟩
theorem C245 (a b:Int) (w:World):CR 245 [.int .i64 a,.int .i64 b] w (λ v w'=>v = .bool (decide (a<b))∧Ext w w'):=by
 have hs:=St.start w;refine abz _ _ _ _ ?_;unfold S245;refine aR ?_;exact ⟨rfl,hs.aE⟩
theorem C246 (a b:Int) (w:World):CR 246 [.int .i64 a,.int .i64 b] w (λ v w'=>v = .bool (decide (a≤b))∧Ext w w'):=by
 have hs:=St.start w;refine abA _ _ _ _ ?_;unfold S246;refine j9 ?_;exact ⟨rfl,hs.aE⟩
theorem C247 (a b:Int) (w:World):CR 247 [.int .i64 a,.int .i64 b] w (λ v w'=>v = .bool (decide (¬ a=0) && decide (¬ b=0))∧Ext w w'):=by
 have hs:=St.start w;refine abB _ _ _ _ ?_;unfold S247;refine ⟨_,?_,λ _ _ h=>h⟩;refine aZ Kg hs (C218 _ _) (λ w1 he hs=>aC (λ oJ=>?_) (λ oJ=>?_))
 ·refine aZ Kg hs (C218 _ _) (λ w2 he hs=>?_);intro fz
  first | (rw [decide_eq_true oJ]; exact ⟨rfl,hs.aE⟩) | (rw [decide_eq_false oJ]; exact ⟨rfl,hs.aE⟩)
 ·intro fz
  first | (rw [decide_eq_true oJ]; exact ⟨rfl,hs.aE⟩) | (rw [decide_eq_false oJ]; exact ⟨rfl,hs.aE⟩)
theorem C248 (a b:Int) (w:World):CR 248 [.int .i64 a,.int .i64 b] w (λ v w'=>v = .bool (decide (¬ a=0) || decide (¬ b=0))∧Ext w w'):=by
 have hs:=St.start w;refine abC _ _ _ _ ?_;unfold S248;refine ⟨_,?_,λ _ _ h=>h⟩;refine aZ Kg hs (C218 _ _) (λ w1 he hs=>aC (λ oJ=>?_) (λ oJ=>?_))
 ·intro fz
  first | (rw [decide_eq_true oJ]; exact ⟨rfl,hs.aE⟩) | (rw [decide_eq_false oJ]; exact ⟨rfl,hs.aE⟩)
 ·refine aZ Kg hs (C218 _ _) (λ w2 he hs=>?_);intro fz
  first | (rw [decide_eq_true oJ]; exact ⟨rfl,hs.aE⟩) | (rw [decide_eq_false oJ]; exact ⟨rfl,hs.aE⟩)
theorem C236 (g:Nat) (w:World):CR 236 [.func (.func g) #[] #[]] w (λ v w'=>∃ b,v = .func (.func 237) #[] #[.pointer (some ⟨b,0,none⟩)]∧lW (cE b [.func (.func g) #[] #[]]) w w'):=by
 have hs:=St.start w;refine abp _ _ _ ?_;unfold S236;refine tQ hs rfl (λ ape w1 hs=>?_);exact ⟨ape,rfl,hs.fresh⟩
theorem C237 (a b:Int) (b2:Nat) (fv:Value) (g:Int→Int→Bool) (w:World) (hc:Cell w b2 0 fv) (hf:Fb2 fv g):CR 237 [.int .i64 a,.int .i64 b,.pointer (some ⟨b2,0,none⟩)] w (λ v w'=>v = .int .i64 (Sk (g a b))∧Ext w w'):=by
 obtain ⟨g0,rfl,vz,lY⟩:=hf;have hs:=St.start w;refine abq _ _ _ _ _ ?_;unfold S237;refine cD aoM (hc.ext hs.aE) (ga (first:=[]) (cap:=[]) vz (lY a b _) ?_);rintro _ w1 ⟨rfl,he⟩;have hs:=hs.ext he;refine aZ afA hs (C217 _ _) (λ w2 he hs=>?_);exact ⟨rfl,hs.aE⟩
theorem C219 (w:World):CR 219 [] w (λ v w'=>∃ b1 b2 b3 b4 b5 b6,v=opsV b1 b2 b3 b4 b5 b6∧lW (eB (apd b1 b2 b3 b4 b5 b6)) w w'):=by
 have hs:=St.start w;refine aa9 _ _ ?_;unfold S219;refine aJ hs Qo (λ awy w1 hs=>aJ hs Qo (λ b_l1 w2 hs=>oh ry (by omega) (by omega) (aV hs wg (eL rfl) (rfl) (λ w3 hs=>oh ry (by omega) (by omega) (aV hs wg (eL rfl) (rfl) (λ w4 hs=>oh ry (by omega) (by omega) (aV hs wg (eL rfl) (rfl) (λ w5 hs=>oh ry (by omega) (by omega) (aV hs wg (eL rfl) (rfl) (λ w6 hs=>oh ry (by omega) (by omega) (aV hs wg (eL rfl) (rfl) (λ w7 hs=>ga (first:=[]) (cap:=[]) GB (C236 243 _) ?_))))))))))));rintro _ w8 ⟨Eb,rfl,bV⟩;have hs:=hs.made bV;refine oh ry (by omega) (by omega) (aV hs.p1 wg (eL rfl) (rfl) (λ w9 hs=>ga (first:=[]) (cap:=[]) GB (C236 244 _) ?_))
 rintro _ pP ⟨Vg,rfl,bV⟩;have hs:=hs.made bV;refine oh ry (by omega) (by omega) (aV hs.p1 wg (eL rfl) (rfl) (λ sB hs=>ga (first:=[]) (cap:=[]) GB (C236 245 _) ?_));rintro _ u7 ⟨afW,rfl,bV⟩;have hs:=hs.made bV;refine oh ry (by omega) (by omega) (aV hs.p1 wg (eL rfl) (rfl) (λ u9 hs=>ga (first:=[]) (cap:=[]) GB (C236 246 _) ?_));rintro _ r9 ⟨Vh,rfl,bV⟩;have hs:=hs.made bV;refine oh ry (by omega) (by omega) (aV hs.p1 wg (eL rfl) (rfl) (λ vT hs=>ga (first:=[]) (cap:=[]) GB (C236 247 _) ?_));rintro _ yO ⟨afX,rfl,bV⟩;have hs:=hs.made bV;refine oh ry (by omega) (by omega) (aV hs.p1 wg (eL rfl) (rfl) (λ B6 hs=>ga (first:=[]) (cap:=[]) GB (C236 248 _) ?_))
 rintro _ GQ ⟨B7,rfl,bV⟩;have hs:=hs.made bV;refine oh ry (by omega) (by omega) (aV hs.p1 wg (eL rfl) (rfl) (λ IF hs=>re UH hs.hb rfl (pF hs.p7 UH rfl (by decide) (by simp [rZ,gX]) (λ JH hs=>re UH hs.hb rfl ?_))));have hs:=(((((((((((((hs.drop)).drop).p1).p2).p3).p4).p5).qR).p1).qR).p2).qR).p3;have hs:=hs.qR.p4.qR.p5.qR.fP.fP.fP.fP.fP;refine ⟨Eb,Vg,afW,Vh,afX,B7,rfl,(hs.dO (Ψ:=apd Eb Vg afW Vh afX B7) λ w h=>?_).fresh⟩;obtain ⟨⟨⟨⟨⟨h6,h5⟩,h4⟩,h3⟩,h2⟩,h1⟩:=h;exact ⟨h1.cell rfl,h2.cell rfl,h3.cell rfl,h4.cell rfl,h5.cell rfl,h6.cell rfl⟩
theorem fb1:Fb2 (.func (.func 243) #[] #[]) (λ a b=>decide (a=b)):=⟨243,rfl,aou,λ a b w1=>C243 a b w1⟩
theorem fb2:Fb2 (.func (.func 244) #[] #[]) (λ a b=>decide (¬ a=b)):=⟨244,rfl,aov,λ a b w1=>C244 a b w1⟩
theorem fb3:Fb2 (.func (.func 245) #[] #[]) (λ a b=>decide (a<b)):=⟨245,rfl,aow,λ a b w1=>C245 a b w1⟩
theorem fb4:Fb2 (.func (.func 246) #[] #[]) (λ a b=>decide (a≤b)):=⟨246,rfl,aox,λ a b w1=>C246 a b w1⟩
theorem fb5:Fb2 (.func (.func 247) #[] #[]) (λ a b=>decide (¬ a=0) && decide (¬ b=0)):=⟨247,rfl,aoy,λ a b w1=>C247 a b w1⟩
theorem fb6:Fb2 (.func (.func 248) #[] #[]) (λ a b=>decide (¬ a=0) || decide (¬ b=0)):=⟨248,rfl,aoz,λ a b w1=>C248 a b w1⟩
theorem C175 (op a b:Int) (w:World):CR 175 [.int .i64 op,.int .i64 a,.int .i64 b] w (λ v w'=>v = .tuple #[.int .i64 (qi op a b),.int .i64 (qh op b)]∧Ext w w'):=by
 have hs:=St.start w;refine aay _ _ _ _ _ ?_;unfold S175;refine ⟨_,?_,λ _ _ h=>h⟩;refine aR (aC (λ fH=>?_) (λ fH=>?_))
 ·intro fz;refine nX ?_
  first | exact ⟨rfl,hs.aE⟩ | (subst_vars; exact ⟨rfl,hs.aE⟩) | (refine ⟨?_,hs.aE⟩; unfold qi qh tf; first | (rw [if_pos (show op<5∨15<op by omega)]; rfl) | simp [*])
 ·refine dH ?_;intro fz;refine aC (λ gI=>?_) (λ gI=>?_)
  ·first | exact ⟨rfl,hs.aE⟩ | (subst_vars; exact ⟨rfl,hs.aE⟩) | (refine ⟨?_,hs.aE⟩; unfold qi qh tf; first | (rw [if_pos (show op<5∨15<op by omega)]; rfl) | simp [*])
  ·refine ed aof (C219 _) ?_;rintro _ w2 ⟨b1,b2,b3,b4,b5,b6,rfl,bV⟩;have hs:=hs.made bV;obtain rfl | rfl | rfl | rfl | rfl | rfl | rfl | rfl | rfl | rfl | rfl | rfl | rfl | rfl | rfl | rfl:op=0∨op=1∨op=2∨op=3∨op=4∨op=5∨op=6∨op=7∨op=8∨op=9∨op=10∨op=11∨op=12∨op=13∨op=14∨op=15:=by omega
   ·refine pop (v:=.nilFunc) (by kernel_rfl) (pop (v:=.bool true) (by kernel_rfl) (nX ?_))
    first | exact ⟨rfl,hs.aE⟩ | (subst_vars; exact ⟨rfl,hs.aE⟩) | (refine ⟨?_,hs.aE⟩; unfold qi qh tf; first | (rw [if_pos (show op<5∨15<op by omega)]; rfl) | simp [*])
   ·refine pop (v:=.nilFunc) (by kernel_rfl) (pop (v:=.bool true) (by kernel_rfl) (nX ?_))
    first | exact ⟨rfl,hs.aE⟩ | (subst_vars; exact ⟨rfl,hs.aE⟩) | (refine ⟨?_,hs.aE⟩; unfold qi qh tf; first | (rw [if_pos (show op<5∨15<op by omega)]; rfl) | simp [*])
   ·refine pop (v:=.nilFunc) (by kernel_rfl) (pop (v:=.bool true) (by kernel_rfl) (nX ?_))
    first | exact ⟨rfl,hs.aE⟩ | (subst_vars; exact ⟨rfl,hs.aE⟩) | (refine ⟨?_,hs.aE⟩; unfold qi qh tf; first | (rw [if_pos (show op<5∨15<op by omega)]; rfl) | simp [*])
   ·refine pop (v:=.nilFunc) (by kernel_rfl) (pop (v:=.bool true) (by kernel_rfl) (nX ?_))
    first | exact ⟨rfl,hs.aE⟩ | (subst_vars; exact ⟨rfl,hs.aE⟩) | (refine ⟨?_,hs.aE⟩; unfold qi qh tf; first | (rw [if_pos (show op<5∨15<op by omega)]; rfl) | simp [*])
   ·refine pop (v:=.nilFunc) (by kernel_rfl) (pop (v:=.bool true) (by kernel_rfl) (nX ?_))
    first | exact ⟨rfl,hs.aE⟩ | (subst_vars; exact ⟨rfl,hs.aE⟩) | (refine ⟨?_,hs.aE⟩; unfold qi qh tf; first | (rw [if_pos (show op<5∨15<op by omega)]; rfl) | simp [*])
   ·refine pop (v:=.func (.func 238) #[] #[]) (by kernel_rfl) (pop (v:=.bool false) (by kernel_rfl) (fi ?_));refine ⟨_,?_,λ _ _ h=>h⟩;refine aH (fM (by decide) (aH (fM (by decide) ?_)));intro jB;refine fi (ga (first:=[]) (cap:=[]) aop (C238 a b _) ?_);rintro _ w4 ⟨rfl,he⟩;have hs:=hs.ext he
    first | exact ⟨rfl,hs.aE⟩ | (subst_vars; exact ⟨rfl,hs.aE⟩) | (refine ⟨?_,hs.aE⟩; unfold qi qh tf; first | (rw [if_pos (show op<5∨15<op by omega)]; rfl) | simp [*])
   ·refine pop (v:=.func (.func 239) #[] #[]) (by kernel_rfl) (pop (v:=.bool false) (by kernel_rfl) (fi ?_));refine ⟨_,?_,λ _ _ h=>h⟩;refine aH (fM (by decide) (aH (fM (by decide) ?_)));intro jB;refine fi (ga (first:=[]) (cap:=[]) aoq (C239 a b _) ?_);rintro _ w4 ⟨rfl,he⟩;have hs:=hs.ext he
    first | exact ⟨rfl,hs.aE⟩ | (subst_vars; exact ⟨rfl,hs.aE⟩) | (refine ⟨?_,hs.aE⟩; unfold qi qh tf; first | (rw [if_pos (show op<5∨15<op by omega)]; rfl) | simp [*])
   ·refine pop (v:=.func (.func 240) #[] #[]) (by kernel_rfl) (pop (v:=.bool false) (by kernel_rfl) (fi ?_));refine ⟨_,?_,λ _ _ h=>h⟩;refine aH (fM (by decide) (aH (fM (by decide) ?_)));intro jB;refine fi (ga (first:=[]) (cap:=[]) aor (C240 a b _) ?_);rintro _ w4 ⟨rfl,he⟩;have hs:=hs.ext he
    first | exact ⟨rfl,hs.aE⟩ | (subst_vars; exact ⟨rfl,hs.aE⟩) | (refine ⟨?_,hs.aE⟩; unfold qi qh tf; first | (rw [if_pos (show op<5∨15<op by omega)]; rfl) | simp [*])
   ·refine pop (v:=.func (.func 241) #[] #[]) (by kernel_rfl) (pop (v:=.bool false) (by kernel_rfl) (fi ?_));refine ⟨_,?_,λ _ _ h=>h⟩;refine aH (gG (by decide) (aH ?_));intro jB;refine aC (λ gv=>?_) (λ gv=>?_)
    ·first | exact ⟨rfl,hs.aE⟩ | (subst_vars; exact ⟨rfl,hs.aE⟩) | (refine ⟨?_,hs.aE⟩; unfold qi qh tf; first | (rw [if_pos (show op<5∨15<op by omega)]; rfl) | simp [*])
    ·refine ga (first:=[]) (cap:=[]) aos (C241 a b _ gv) ?_;rintro _ w4 ⟨rfl,he⟩;have hs:=hs.ext he
     first | exact ⟨rfl,hs.aE⟩ | (subst_vars; exact ⟨rfl,hs.aE⟩) | (refine ⟨?_,hs.aE⟩; unfold qi qh tf; first | (rw [if_pos (show op<5∨15<op by omega)]; rfl) | simp [*])
   ·refine pop (v:=.func (.func 242) #[] #[]) (by kernel_rfl) (pop (v:=.bool false) (by kernel_rfl) (fi ?_));refine ⟨_,?_,λ _ _ h=>h⟩;refine aH (fM (by decide) (aH (gG (by decide) (aH ?_))));intro jB;refine aC (λ gv=>?_) (λ gv=>?_)
    ·first | exact ⟨rfl,hs.aE⟩ | (subst_vars; exact ⟨rfl,hs.aE⟩) | (refine ⟨?_,hs.aE⟩; unfold qi qh tf; first | (rw [if_pos (show op<5∨15<op by omega)]; rfl) | simp [*])
    ·refine ga (first:=[]) (cap:=[]) aot (C242 a b _ gv) ?_;rintro _ w4 ⟨rfl,he⟩;have hs:=hs.ext he
     first | exact ⟨rfl,hs.aE⟩ | (subst_vars; exact ⟨rfl,hs.aE⟩) | (refine ⟨?_,hs.aE⟩; unfold qi qh tf; first | (rw [if_pos (show op<5∨15<op by omega)]; rfl) | simp [*])
   ·refine pop (v:=.func (.func 237) #[] #[.pointer (some ⟨b1,0,none⟩)]) (by kernel_rfl) (pop (v:=.bool false) (by kernel_rfl) (fi ?_));refine ⟨_,?_,λ _ _ h=>h⟩;refine aH (fM (by decide) (aH (fM (by decide) ?_)));intro jB;refine fi ?_;obtain ⟨o1,o2,o3,o4,o5,o6⟩:=hs.eB;refine ga (first:=[]) (cap:=[.pointer (some ⟨b1,0,none⟩)]) GC (C237 a b b1 _ _ _ o1 fb1) ?_;rintro _ w4 ⟨rfl,he⟩;have hs:=hs.ext he
    first | exact ⟨rfl,hs.aE⟩ | (subst_vars; exact ⟨rfl,hs.aE⟩) | (refine ⟨?_,hs.aE⟩; unfold qi qh tf; first | (rw [if_pos (show op<5∨15<op by omega)]; rfl) | simp [*])
   ·refine pop (v:=.func (.func 237) #[] #[.pointer (some ⟨b2,0,none⟩)]) (by kernel_rfl) (pop (v:=.bool false) (by kernel_rfl) (fi ?_));refine ⟨_,?_,λ _ _ h=>h⟩;refine aH (fM (by decide) (aH (fM (by decide) ?_)));intro jB;refine fi ?_;obtain ⟨o1,o2,o3,o4,o5,o6⟩:=hs.eB;refine ga (first:=[]) (cap:=[.pointer (some ⟨b2,0,none⟩)]) GC (C237 a b b2 _ _ _ o2 fb2) ?_;rintro _ w4 ⟨rfl,he⟩;have hs:=hs.ext he
    first | exact ⟨rfl,hs.aE⟩ | (subst_vars; exact ⟨rfl,hs.aE⟩) | (refine ⟨?_,hs.aE⟩; unfold qi qh tf; first | (rw [if_pos (show op<5∨15<op by omega)]; rfl) | simp [*])
   ·refine pop (v:=.func (.func 237) #[] #[.pointer (some ⟨b3,0,none⟩)]) (by kernel_rfl) (pop (v:=.bool false) (by kernel_rfl) (fi ?_));refine ⟨_,?_,λ _ _ h=>h⟩;refine aH (fM (by decide) (aH (fM (by decide) ?_)));intro jB;refine fi ?_;obtain ⟨o1,o2,o3,o4,o5,o6⟩:=hs.eB;refine ga (first:=[]) (cap:=[.pointer (some ⟨b3,0,none⟩)]) GC (C237 a b b3 _ _ _ o3 fb3) ?_;rintro _ w4 ⟨rfl,he⟩;have hs:=hs.ext he
    first | exact ⟨rfl,hs.aE⟩ | (subst_vars; exact ⟨rfl,hs.aE⟩) | (refine ⟨?_,hs.aE⟩; unfold qi qh tf; first | (rw [if_pos (show op<5∨15<op by omega)]; rfl) | simp [*])
   ·refine pop (v:=.func (.func 237) #[] #[.pointer (some ⟨b4,0,none⟩)]) (by kernel_rfl) (pop (v:=.bool false) (by kernel_rfl) (fi ?_));refine ⟨_,?_,λ _ _ h=>h⟩;refine aH (fM (by decide) (aH (fM (by decide) ?_)));intro jB;refine fi ?_;obtain ⟨o1,o2,o3,o4,o5,o6⟩:=hs.eB;refine ga (first:=[]) (cap:=[.pointer (some ⟨b4,0,none⟩)]) GC (C237 a b b4 _ _ _ o4 fb4) ?_;rintro _ w4 ⟨rfl,he⟩;have hs:=hs.ext he
    first | exact ⟨rfl,hs.aE⟩ | (subst_vars; exact ⟨rfl,hs.aE⟩) | (refine ⟨?_,hs.aE⟩; unfold qi qh tf; first | (rw [if_pos (show op<5∨15<op by omega)]; rfl) | simp [*])
   ·refine pop (v:=.func (.func 237) #[] #[.pointer (some ⟨b5,0,none⟩)]) (by kernel_rfl) (pop (v:=.bool false) (by kernel_rfl) (fi ?_));refine ⟨_,?_,λ _ _ h=>h⟩;refine aH (fM (by decide) (aH (fM (by decide) ?_)));intro jB;refine fi ?_;obtain ⟨o1,o2,o3,o4,o5,o6⟩:=hs.eB;refine ga (first:=[]) (cap:=[.pointer (some ⟨b5,0,none⟩)]) GC (C237 a b b5 _ _ _ o5 fb5) ?_;rintro _ w4 ⟨rfl,he⟩;have hs:=hs.ext he
    first | exact ⟨rfl,hs.aE⟩ | (subst_vars; exact ⟨rfl,hs.aE⟩) | (refine ⟨?_,hs.aE⟩; unfold qi qh tf; first | (rw [if_pos (show op<5∨15<op by omega)]; rfl) | simp [*])
   ·refine pop (v:=.func (.func 237) #[] #[.pointer (some ⟨b6,0,none⟩)]) (by kernel_rfl) (pop (v:=.bool false) (by kernel_rfl) (fi ?_));refine ⟨_,?_,λ _ _ h=>h⟩;refine aH (fM (by decide) (aH (fM (by decide) ?_)));intro jB;refine fi ?_;obtain ⟨o1,o2,o3,o4,o5,o6⟩:=hs.eB;refine ga (first:=[]) (cap:=[.pointer (some ⟨b6,0,none⟩)]) GC (C237 a b b6 _ _ _ o6 fb6) ?_;rintro _ w4 ⟨rfl,he⟩;have hs:=hs.ext he
    first | exact ⟨rfl,hs.aE⟩ | (subst_vars; exact ⟨rfl,hs.aE⟩) | (refine ⟨?_,hs.aE⟩; unfold qi qh tf; first | (rw [if_pos (show op<5∨15<op by omega)]; rfl) | simp [*])
theorem gZ {α:Type} {l:List α} {k:Nat} {e:α} (h:l[k]? = some e):l.take k++[e]=l.take (k+1):=by rw [List.take_add_one,h]; rfl
theorem eH {α:Type} {φ:α→Prop} {l:List α} {k:Nat} {e:α} (h:∀ y∈l.take k,φ y) (he:l[k]? = some e) (hp:φ e):∀ y∈l.take (k+1),φ y:=by
 intro y hy
 rw [← gZ he] at hy
 rcases List.mem_append.1 hy with hy | hy
 ·exact h y hy
 ·rw [List.mem_singleton.1 hy]; exact hp
theorem jH {α:Type} {g:α→Bool} {l:List α} {k:Nat} {e:α} (he:l[k]? = some e) (hg:g e=true):l.any g=true:=List.any_eq_true.2 ⟨e,List.mem_of_getElem? he,hg⟩
theorem iM {α:Type} {g:α→Bool} {l:List α} (h:∀ y∈l,g y=false):l.any g=false:=by
 rw [List.any_eq_false]; intro y hy; rw [h y hy]; simp
def va {α:Type} (g:α→Bool) (l:List α):Int:=match l.findIdx? g with | some k=>k | none=>-1
theorem py {α:Type} {g:α→Bool} {l:List α} {k:Nat} {e:α} (fS:∀ y∈l.take k,g y=false) (he:l[k]? = some e) (hg:g e=true):va g l=k:=by
 have:l.findIdx? g=some k:=by
  rw [List.findIdx?_eq_some_iff_getElem]
  have hk:=(List.getElem?_eq_some_iff.1 he).1
  refine ⟨hk,by rw [(List.getElem?_eq_some_iff.1 he).2]; exact hg,λ j hj=>?_⟩
  have:=fS (l[j]'(by omega)) (List.mem_take_iff_getElem.2 ⟨j,by omega,rfl⟩)
  simp [this]
 unfold va; rw [this]
theorem ky {α:Type} {g:α→Bool} {l:List α} (fS:∀ y∈l,g y=false):va g l = -1:=by
 have:l.findIdx? g=none:=by rw [List.findIdx?_eq_none_iff]; exact fS
 unfold va; rw [this]
theorem oq {α:Type} (g:α→Bool) (l:List α):decide (0≤va g l)=l.any g:=by
 unfold va
 cases h:l.findIdx? g with
 | none=>
  rw [List.findIdx?_eq_none_iff] at h
  have:l.any g=false:=by rw [List.any_eq_false]; intro x hx; rw [h x hx]; simp
  rw [this]; rfl
 | some k=>
  have h':=(List.findIdx?_eq_some_iff_getElem.1 h)
  obtain ⟨hk,hg,_⟩:=h'
  have:l.any g=true:=List.any_eq_true.2 ⟨_,List.getElem_mem hk,hg⟩
  rw [this]; simp
def CA {α:Type} [Flat α] (w:World) (f:Value) (g:α→Bool):Prop:=∃ g0 first cap,f = .func (.func g0) (List.toArray first) (List.toArray cap)∧Plain PG g0∧
 ∀ x w1,Ext w w1→Calls PG g0 (first++[Flat.val x]++cap).toArray w1 (qf λ v w2=>v = .bool (g x)∧Ext w1 w2)
theorem CA.ext {α:Type} [Flat α] {w w':World} {f:Value} {g:α→Bool} (h:CA w f g) (e:Ext w w'):CA w' f g:=by
 obtain ⟨g0,first,cap,h1,h2,h3⟩:=h; exact ⟨g0,first,cap,h1,h2,λ x w1 e1=>h3 x w1 (e.trans e1)⟩
def fK (k:Int):Int:=if k=3∨k=4 then 1 else if 5≤k∧k≤15 then 2 else 0
def KS (st:Option (Int × Int)) (x:nx):Option (Int × Int):=match st with
 | none=>none
 | some (n,h)=>if n - fK x.kind<0 then none else some (n - fK x.kind+1,max h (n - fK x.kind+1))
def ht (l:List nx):Option (Int × Int):=l.foldl KS (some (0,0))
def htN (l:List nx):Int:=match ht l with | some p=>p.1 | none=>0
def htH (l:List nx):Int:=match ht l with | some p=>p.2 | none=>0
theorem zY {l:List nx} {k:Nat} {x:nx} (h:l[k]? = some x):ht (l.take (k+1))=KS (ht (l.take k)) x:=by
 unfold ht; rw [← gZ h,List.foldl_append]; rfl
theorem Qu {l:List nx} {k:Nat} (h:ht (l.take k)=none):ht l=none:=by
 have key:∀ m:List nx,m.foldl KS none=none:=λ m=>by induction m with | nil=>rfl | cons y m ih=>exact ih
 have e:l=l.take k++l.drop k:=(List.take_append_drop k l).symm
 unfold ht at *
 rw [e,List.foldl_append,h]; exact key _
theorem Qv (k:Int):0≤fK k∧fK k≤2:=by
 unfold fK
 repeat' split
 all_goals omega
theorem aiT {l:List nx}:∀ k n h,k≤l.length→ht (l.take k)=some (n,h)→0≤n∧n≤(k:Int)∧0≤h∧h≤(k:Int)
 | 0,n,h,_,e=>by
  have:ht ([]:List nx)=some (0,0):=rfl
  rw [List.take_zero,this] at e
  obtain ⟨rfl,rfl⟩:=Prod.mk.inj (Option.some.inj e); omega
 | k+1,n,h,hk,e=>by
  obtain ⟨x,hx⟩:∃ x,l[k]? = some x:=⟨_,List.getElem?_eq_getElem (by omega)⟩
  rw [zY hx] at e
  cases hp:ht (l.take k) with
  | none=>rw [hp] at e; cases e
  | some p=>
   obtain ⟨a,b⟩:=p
   have ih:=aiT k a b (by omega) hp
   have hw:=Qv x.kind
   rw [hp] at e
   unfold KS at e
   simp only [] at e
   split at e
   ·cases e
   ·obtain ⟨rfl,rfl⟩:=Prod.mk.inj (Option.some.inj e); omega
theorem acj {l:List nx} {k:Nat} {x:nx} {n h m:Int} (hx:l[k]? = some x) (KT:ht (l.take k)=some (n,h)) (hm:m=n - fK x.kind) (h0:¬ m<0):ht (l.take (k+1))=some (m+1,max h (m+1)):=by
 rw [zY hx,KT]; unfold KS; simp only []; rw [← hm,if_neg h0]
theorem aiU {l:List nx} {k:Nat} {x:nx} {n h m:Int} (hx:l[k]? = some x) (KT:ht (l.take k)=some (n,h)) (hm:m=n - fK x.kind) (h0:m<0):ht (l.take (k+1))=none:=by
 rw [zY hx,KT]; unfold KS; simp only []; rw [← hm,if_pos h0]
def sC (many:Int) (x:nx):Bool:=decide ((x.kind=1∧(x.n<0∨4294967296<x.n))∨(x.kind=2∧(x.n<0∨many≤x.n))∨(¬ x.kind=1∧¬ x.kind=2∧(¬ x.n=0∨x.kind<1∨16≤x.kind)))
def eN (l:List nx) (many:Int):Bool:=decide (l.length≤40) && (ht l).isSome && decide (htN l=1) && !l.any (sC many)
theorem C171 (k:Int) (w:World):CR 171 [.int .i64 k] w (λ v w'=>v = .int .i64 (fK k)∧Ext w w'):=by
 have hs:=St.start w;refine aau _ _ _ ?_;unfold S171;refine ⟨λ jv w'=>jv = .bool (decide (k=3∨k=4))∧w=w',?_,?_⟩
 ·refine aH (aC (λ Vi=>?_) (λ Vi=>?_))
  ·exact ⟨M9 (by omega),rfl⟩
  ·refine aH ?_;exact ⟨vX (by omega),rfl⟩
 ·rintro _ w1 ⟨rfl,hw⟩ fz;subst hw;refine aC (λ F0=>?_) (λ F0=>?_)
  ·unfold fK
   first | (rw [if_pos F0]; exact ⟨rfl,hs.aE⟩) | (rw [if_neg F0,if_pos fH]; exact ⟨rfl,hs.aE⟩) | (rw [if_neg F0,if_neg fH]; exact ⟨rfl,hs.aE⟩)
  ·refine ⟨λ jv w'=>jv = .bool (decide (5≤k∧k≤15))∧w=w',?_,?_⟩
   ·refine dH (aC (λ j1=>?_) (λ j1=>?_))
    ·refine j9 ?_;exact ⟨vX (by omega),rfl⟩
    ·exact ⟨Zq (by omega),rfl⟩
   ·rintro _ w2 ⟨rfl,hw⟩ jB;subst hw;refine aC (λ fH=>?_) (λ fH=>?_)
    ·unfold fK
     first | (rw [if_pos F0]; exact ⟨rfl,hs.aE⟩) | (rw [if_neg F0,if_pos fH]; exact ⟨rfl,hs.aE⟩) | (rw [if_neg F0,if_neg fH]; exact ⟨rfl,hs.aE⟩)
    ·unfold fK
     first | (rw [if_pos F0]; exact ⟨rfl,hs.aE⟩) | (rw [if_neg F0,if_pos fH]; exact ⟨rfl,hs.aE⟩) | (rw [if_neg F0,if_neg fH]; exact ⟨rfl,hs.aE⟩)
theorem C183 (sv:Value) (xs:List nx) (w:World) (hL:eE (λ _=>True) w sv xs) (hn:xs.length≤1048576):CR 183 [sv] w (λ v w'=>v = .tuple #[.int .i64 (htN xs),.int .i64 (htH xs),.bool (ht xs).isSome]∧Ext w w'):=by
 have hs:=St.start w;refine aaG _ _ _ ?_;unfold S183;refine aK vN (hL.ext hs.aE) ?_;refine ⟨λ m y z x w1=>∃ (k:Nat) (n h:Int),y = .int .i64 n∧z = .int .i64 h∧x = .int .i64 (k:Int)∧m=xs.length - k∧k≤xs.length∧ht (xs.take k)=some (n,h)∧St w bD [] w1,⟨_,0,0,0,rfl,rfl,rfl,rfl,by omega,rfl,hs⟩,?_⟩;rintro m _ _ _ w1 ⟨k,n,h,rfl,rfl,rfl,rfl,hk,KT,hs⟩ fz;refine aR (aC (λ j1=>?_) (λ j1=>?_))
 ·obtain ⟨Vj,Bp⟩:=gx (xs) (i:=((k:Int)).toNat) (by omega);refine aQ vN (hL.ext hs.aE) (by omega) Bp (λ _ KU=>aD Kw (KU) (aJ hs Ql (λ Bq w2 hs=>aI (x:=Vj) hs Kw rfl rfl (λ w3 hs=>aA od (aB bN hs.hb rfl (aZ afs hs (C171 _ _) (λ w4 he hs=>?_)))))));have hw:=Qv Vj.kind;have hhb:=aiT k n h (by omega) KT;refine gA (by omega) (aR (aC (λ gv=>?_) (λ gv=>?_)))
  ·have hz:ht xs=none:=Qu (k:=k+1) (by rw [zY (k:=k) Bp,KT]; unfold KS; simp only []; rw [if_pos gv]);unfold htN htH;rw [hz];exact ⟨rfl,hs.aE⟩
  ·refine aO (by omega) (xo (aO (by omega) ?_));exact ⟨_,by omega,k+1,_,_,rfl,rfl,rfl,rfl,by omega,by rw [zY (k:=k) Bp,KT]; unfold KS; simp only []; rw [if_neg gv],hs.drop⟩
 ·rw [List.take_of_length_le (by omega)] at KT;unfold htN htH;rw [KT];exact ⟨rfl,hs.aE⟩
theorem C182 (x:nx) (b2:Nat) (many:Int) (w:World) (hc:Cell w b2 0 (.int .i64 many)):CR 182 [Flat.val x,.pointer (some ⟨b2,0,none⟩)] w (λ v w'=>v = .bool (sC many x)∧Ext w w'):=by
 have hs:=St.start w;refine aaF _ _ _ _ ?_;unfold S182;refine dE hs (λ ma w1 hs=>aA od (aB bN hs.hb rfl (aH (aC (λ iV=>?_) (λ iV=>?_)))))
 ·refine ⟨_,?_,λ _ _ h=>h⟩;refine aA rj (aB bN hs.hb rfl (aR (aC (λ fH=>?_) (λ fH=>?_))))
  ·intro fz;refine ⟨vb ?_,hs.aE⟩;unfold sC
   first | exact (decide_eq_true (by omega)).symm | exact (decide_eq_false (by omega)).symm | exact decide_eq_decide.2 (by omega)
  ·refine aA rj (aB bN hs.hb rfl (dD ?_));intro fz;refine ⟨vb ?_,hs.aE⟩;unfold sC
   first | exact (decide_eq_true (by omega)).symm | exact (decide_eq_false (by omega)).symm | exact decide_eq_decide.2 (by omega)
 ·refine aA od (aB bN hs.hb rfl (aH (aC (λ fy=>?_) (λ fy=>?_))))
  ·refine ⟨_,?_,λ _ _ h=>h⟩;refine aA rj (aB bN hs.hb rfl (aR (aC (λ iu=>?_) (λ iu=>?_))))
   ·intro jB;refine ⟨vb ?_,hs.aE⟩;unfold sC
    first | exact (decide_eq_true (by omega)).symm | exact (decide_eq_false (by omega)).symm | exact decide_eq_decide.2 (by omega)
   ·refine aA rj (aB bN hs.hb rfl (cD bN (hc.ext hs.aE) (dH ?_)));intro jB;refine ⟨vb ?_,hs.aE⟩;unfold sC
    first | exact (decide_eq_true (by omega)).symm | exact (decide_eq_false (by omega)).symm | exact decide_eq_decide.2 (by omega)
  ·refine ⟨_,?_,λ _ _ h=>h⟩;refine aA rj (aB bN hs.hb rfl (cO (aC (λ lQ=>?_) (λ lQ=>?_))))
   ·intro oN;refine ⟨vb ?_,hs.aE⟩;unfold sC
    first | exact (decide_eq_true (by omega)).symm | exact (decide_eq_false (by omega)).symm | exact decide_eq_decide.2 (by omega)
   ·refine aA od (aB bN hs.hb rfl (aR (aC (λ jC=>?_) (λ jC=>?_))))
    ·intro oN;refine ⟨vb ?_,hs.aE⟩;unfold sC
     first | exact (decide_eq_true (by omega)).symm | exact (decide_eq_false (by omega)).symm | exact decide_eq_decide.2 (by omega)
    ·refine aA od (aB bN hs.hb rfl (dH ?_));intro oN;refine ⟨vb ?_,hs.aE⟩;unfold sC
     first | exact (decide_eq_true (by omega)).symm | exact (decide_eq_false (by omega)).symm | exact decide_eq_decide.2 (by omega)
theorem C223 (sv fv:Value) (xs:List nx) (g:nx→Bool) (w:World) (hL:eE (λ _=>True) w sv xs) (hf:CA w fv g) (hn:xs.length≤1073741824):CR 223 [sv,fv] w (λ v w'=>v = .int .i64 (va g xs)∧Ext w w'):=by
 obtain ⟨g0,first,cap,rfl,vz,lY⟩:=hf;have hs:=St.start w;refine abd _ _ _ _ ?_;unfold S223;refine aK vN (hL.ext hs.aE) ?_;refine ⟨λ m x w1=>∃ k:Nat,x = .int .i64 (k:Int)∧m=xs.length - k∧k≤xs.length∧(∀ y∈xs.take k,g y=false)∧St w bD [] w1,⟨_,0,rfl,rfl,Nat.zero_le _,by simp,hs⟩,?_⟩;rintro m _ w1 ⟨k,rfl,rfl,hk,fS,hs⟩ fz;refine aR (aC (λ gw=>?_) (λ gw=>?_))
 ·obtain ⟨jr,dG⟩:=gx (xs) (i:=((k:Int)).toNat) (by omega);refine aQ vN (hL.ext hs.aE) (by omega) dG (λ _ iS=>aD Kw (iS) (ga vz (lY jr w1 hs.aE) ?_));rintro _ w2 ⟨rfl,he⟩;have hs:=hs.ext he;refine aY (λ eF=>?_) (λ eF=>?_)
  ·exact ⟨congrArg (Value.int .i64) (py fS dG eF).symm,hs.aE⟩
  ·refine aO (by omega) ?_;exact ⟨xs.length - (k+1),by omega,k+1,rfl,rfl,by omega,eH fS dG eF,hs⟩
 ·exact ⟨congrArg (Value.int .i64) (ky (by rw [List.take_of_length_le (by omega)] at fS; exact fS)).symm,hs.aE⟩
theorem C184 (sv fv:Value) (xs:List nx) (g:nx→Bool) (w:World) (hL:eE (λ _=>True) w sv xs) (hf:CA w fv g) (hn:xs.length≤1073741824):CR 184 [sv,fv] w (λ v w'=>v = .bool (xs.any g)∧Ext w w'):=by
 have hs:=St.start w;refine aaH _ _ _ _ ?_;unfold S184;refine aZ aoj hs (C223 _ _ _ _ _ (hL.ext hs.aE) (hf.ext hs.aE) (by omega)) (λ w1 he hs=>dH ?_);exact ⟨vb (oq _ _),hs.aE⟩
theorem C116 (sv:Value) (xs:List nx) (many:Int) (w:World) (hL:eE (λ _=>True) w sv xs) (hn:xs.length≤1048576):CR 116 [sv,.int .i64 many] w (λ v w'=>v = .bool (eN xs many)∧Ext w w'):=by
 have hs:=St.start w;refine ZP _ _ _ _ ?_;unfold S116;refine tQ hs rfl (λ Qw w1 hs=>aZ anY hs (C183 _ _ _ (hL.ext hs.aE) (by omega)) (λ w2 he hs=>bE rfl (bE rfl (bE rfl ?_))));refine ⟨_,?_,λ _ _ h=>h⟩;refine aK vN (hL.ext hs.aE) (j9 (aC (λ gd=>?_) (λ gd=>?_)))
 ·refine aY (λ js=>?_) (λ js=>?_)
  ·refine aH (aC (λ iH=>?_) (λ iH=>?_))
   ·have KH:CA _ (.func (.func 182) [].toArray [.pointer (some ⟨Qw,0,none⟩)].toArray) (sC many):=
     ⟨182,[],_,rfl,anX,λ y w1 e1=>C182 y Qw many w1 ((hs.hb.cell rfl).ext e1)⟩
    refine aZ anZ hs (C184 _ _ _ _ _ (hL.ext hs.aE) KH (by omega)) (λ w3 he hs=>bZ ?_);intro fz;refine ⟨vb ?_,hs.aE⟩;unfold eN
    simp_all <;> omega
   ·intro fz;refine ⟨vb ?_,hs.aE⟩;unfold eN
    simp_all <;> omega
  ·intro fz;refine ⟨vb ?_,hs.aE⟩;unfold eN
   simp_all <;> omega
 ·intro fz;refine ⟨vb ?_,hs.aE⟩;unfold eN
  simp_all <;> omega
def ot (b:Nat) (rest:List Value) (l:List Int):HP:=ue λ sv=>sep (cE b (sv::rest)) (bK sv l)
theorem ot.shut {w0 w:World} {A:Nat→Prop} {R:List HP} {b:Nat} {rest:List Value} {sv:Value} {l:List Int} (hs:St w0 A (cE b (sv::rest)::bK sv l::R) w):St w0 A (ot b rest l::R) w:=
 St.eR (H:=λ sv=>sep (cE b (sv::rest)) (bK sv l)) sv (St.join hs)
theorem ot.open {w0 w:World} {A:Nat→Prop} {R:List HP} {b:Nat} {rest:List Value} {l:List Int} (hs:St w0 A (ot b rest l::R) w):∃ sv,St w0 A (cE b (sv::rest)::bK sv l::R) w:=by
 obtain ⟨sv,hs⟩:=hs.eX; exact ⟨sv,hs.split⟩
def lR (l:List Int):Int:=l.getD (l.length - 1) 0
theorem Vk {l:List Int} {e:Int} (h:l[((l.length:Int) - 1).toNat]? = some e):e=lR l:=by
 unfold lR
 rw [List.getD_eq_getElem?_getD,show l.length - 1=((l.length:Int) - 1).toNat from by omega,h]; rfl
theorem C216 (b:Nat) (n:Int) (rest:List Value) (l:List Int) (F:Nat→Prop) (w:World) (hF:(ot b rest l).p w F) (hn:l.length≤1048576):CR 216 [.pointer (some ⟨b,0,none⟩),.int .i64 n] w (λ v w'=>v = .tuple #[]∧qz F (ot b rest (l++[n])) w w'):=by
 have hs:=St.begin hF;obtain ⟨sv,hs⟩:=hs.eX;have hs:=hs.split;refine aa6 _ _ _ _ ?_;unfold S216;refine aF (aA pM (aB eA hs.hb rfl (bX (([n]:List Int)) hs ek rfl rfl (eL rfl) (λ apf w1 hs=>?_))));have vc:=(hs).fB;refine cP hs.p2 ek vc (by simp <;> omega) (by decide) (λ afY w2 hs=>have hs:=hs.p1.drop;aF (aA pM (aV hs.p1 eA (eL rfl) ((hs).fB.one) (λ w3 hs=>?_))));have hs:=hs.p1.p1;exact ⟨rfl,(ot.shut hs).mut⟩
theorem C174 (b:Nat) (rest:List Value) (l:List Int) (F:Nat→Prop) (w:World) (hF:(ot b rest l).p w F) (hn:l.length≤1048576) (h0:0<l.length):CR 174 [.pointer (some ⟨b,0,none⟩)] w (λ v w'=>v = .int .i64 (lR l)∧qz F (ot b rest (l.take (l.length - 1))) w w'):=by
 have hs:=St.begin hF;obtain ⟨sv,hs⟩:=hs.eX;have hs:=hs.split;refine aax _ _ _ ?_;unfold S174;refine aF (aA pM (have hs:=hs.drew;aB eA hs.hb rfl (aF (aA pM (aB eA hs.hb rfl (aK ek (hs.p1).fB (gA (by omega) ?_)))))));obtain ⟨jr,dG⟩:=gx (l) (i:=((((l).length:Int) - 1)).toNat) (by omega);refine dU hs.p1 ek (by omega) (by omega) (λ _ iS=>gk hs.p1 bN iS dG (aF (aA pM (have hs:=hs.drew;aB eA hs.hb rfl (aF (aA pM (aB eA hs.hb rfl (aK ek (hs.p1).fB (gA (by omega) (have hs:=hs.p1;NB ek hs (by omega) (by omega) (λ Qx hs=>aF (aA pM ?_))))))))))))
 refine aV hs.p1 eA (eL rfl) ((hs).fB.one) (λ w1 hs=>?_);have hs:=hs.p1.p1;rw [show ((l.length:Int) - 1).toNat=l.length - 1 from by omega] at hs;rw [Vk dG];exact ⟨rfl,(ot.shut hs).mut⟩
theorem C172 (b:Nat) (n hi:Int) (l:List Int) (F:Nat→Prop) (w:World) (hF:(ot b [.int .i64 hi] l).p w F) (hn:l.length≤1048576):CR 172 [.pointer (some ⟨b,0,none⟩),.int .i64 n] w (λ v w'=>v = .tuple #[]∧∃ M6,qz F (ot b [.int .i64 M6] (l++[n])) w w'):=by
 have hs:=St.begin hF;refine aav _ _ _ _ ?_;unfold S172;refine aF (aA ub (px aoe hs (H':=λ _=>ot b [.int .i64 hi] (l++[n])) (Φ:=λ v _=>v = .tuple #[]) (λ F hF=>?_) ?_))
 ·exact C216 b n _ l F _ hF (by omega)
 rintro _ w1 rfl hs;obtain ⟨sv,hs⟩:=ot.open hs;refine aF (aA KA (have hs:=hs.drew;aB bN hs.hb rfl (aF (aA ub (aA pM (aB eA hs.hb rfl (aK ek (hs.p1).fB (xo (aF (aA KA (aV hs bN (eL rfl) (rfl) (λ w2 hs=>?_))))))))))));have hs:=hs.p1.p1;exact ⟨rfl,_,(ot.shut hs).mut⟩
def pQ (ns S:List Int) (x:nx):List Int:=
 if fK x.kind=0 then S++[if x.kind=2 then ns.getD x.n.toNat 0 else x.n]
 else if fK x.kind=1 then S.take (S.length - 1)++[Cz x.kind (lR S)]
 else S.take (S.length - 2)++[qi x.kind (lR (S.take (S.length - 1))) (lR S)]
def F3 (S:List Int) (x:nx):Int:=if fK x.kind=2 then qh x.kind (lR S) else 0
def IG (ns:List Int):List nx→List Int→Int × Int
 | [],S=>(lR S,0)
 | x::r,S=>if F3 S x=0 then IG ns r (pQ ns S x) else (0,F3 S x)
def runM (l:List nx) (ns:List Int):Int × Int:=if eN l ns.length=true then IG ns l [] else (0,8)
theorem zZ (k:Int):fK k=0∨fK k=1∨fK k=2:=by
 unfold fK
 repeat' split
 all_goals omega
section
variable {xs:List nx} {ns S:List Int} {k:Nat} {x:nx} {n h:Int}
theorem CY (hx:xs[k]? = some x) (h:F3 S x=0):IG ns (xs.drop k) S=IG ns (xs.drop (k+1)) (pQ ns S x):=by
 obtain ⟨hk,he⟩:=List.getElem?_eq_some_iff.1 hx
 rw [List.drop_eq_getElem_cons hk,he,IG,if_pos h]
theorem Vl (hx:xs[k]? = some x) (h:¬ F3 S x=0):IG ns (xs.drop k) S=(0,F3 S x):=by
 obtain ⟨hk,he⟩:=List.getElem?_eq_some_iff.1 hx
 rw [List.drop_eq_getElem_cons hk,he,IG,if_neg h]
theorem F4 {many:Int} (h:eN xs many=true):xs.length≤40∧(∃ a,ht xs=some (1,a))∧∀ x∈xs,sC many x=false:=by
 unfold eN at h
 rw [Bool.and_eq_true,Bool.and_eq_true,Bool.and_eq_true,decide_eq_true_eq,decide_eq_true_eq] at h
 obtain ⟨⟨⟨h1,h2⟩,h3⟩,h4⟩:=h
 refine ⟨h1,?_,λ x hx=>?_⟩
 ·unfold htN at h3
  cases hh:ht xs with
  | none=>rw [hh] at h2; cases h2
  | some p=>rw [hh] at h3; exact ⟨p.2,by rw [← h3]⟩
 ·have:xs.any (sC many)=false:=by simpa using h4
  rw [List.any_eq_false] at this
  simpa using this x hx
theorem Sl (hw:fK x.kind≤(S.length:Int)):((pQ ns S x).length:Int)=S.length - fK x.kind+1:=by
 unfold pQ
 rcases zZ x.kind with h | h | h
 ·rw [if_pos h,h,List.length_append,List.length_singleton]; omega
 ·rw [if_neg (by omega),if_pos h,h,List.length_append,List.length_take,List.length_singleton]; omega
 ·rw [if_neg (by omega),if_neg (by omega),h,List.length_append,List.length_take,List.length_singleton]; omega
theorem Sm {a:Int} (mA:ht xs=some (1,a)) (KT:ht (xs.take k)=some ((S.length:Int),h)) (hx:xs[k]? = some x) :
  fK x.kind≤(S.length:Int)∧∃ h',ht (xs.take (k+1))=some (((pQ ns S x).length:Int),h'):=by
 have hw:fK x.kind≤(S.length:Int):=by
  rcases Int.lt_or_le ((S.length:Int) - fK x.kind) 0 with h1 | h1
  ·have:=Qu (aiU hx KT rfl h1); rw [mA] at this; cases this
  ·omega
 exact ⟨hw,_,(acj hx KT rfl (by omega)).trans (by rw [Sl hw])⟩
theorem aiV (hw:fK x.kind=0) (h2:¬ x.kind=2):pQ ns S x=S++[x.n]:=by unfold pQ; rw [if_pos hw,if_neg h2]
theorem aiW {e:Int} (hw:fK x.kind=0) (h2:x.kind=2) (he:ns[x.n.toNat]? = some e):pQ ns S x=S++[e]:=by
 unfold pQ; rw [if_pos hw,if_pos h2,List.getD_eq_getElem?_getD,he]; rfl
theorem aiX (hw:fK x.kind=1):pQ ns S x=S.take (S.length - 1)++[Cz x.kind (lR S)]:=by unfold pQ; rw [if_neg (by omega),if_pos hw]
theorem aiY (hw:fK x.kind=2):pQ ns S x=S.take (S.length - 2)++[qi x.kind (lR (S.take (S.length - 1))) (lR S)]:=by unfold pQ; rw [if_neg (by omega),if_neg (by omega)]
theorem Vm (hw:¬ fK x.kind=2):F3 S x=0:=by unfold F3; rw [if_neg hw]
theorem afZ (hw:fK x.kind=2):F3 S x=qh x.kind (lR S):=by unfold F3; rw [if_pos hw]
theorem ND (h:2≤S.length):(S.take (S.length - 1)).take ((S.take (S.length - 1)).length - 1)=S.take (S.length - 2):=by
 rw [List.take_take,List.length_take]; congr 1; omega
end
def mO (b:Nat) (l:List Int):HP:=ue fun (hi:Int)=>ot b [.int .i64 hi] l
theorem mO.shut {w0 w:World} {A:Nat→Prop} {R:List HP} {b:Nat} {hi:Int} {l:List Int} (hs:St w0 A (ot b [.int .i64 hi] l::R) w):St w0 A (mO b l::R) w:=
 St.eR (H:=fun (hi:Int)=>ot b [.int .i64 hi] l) hi hs
theorem ack (b:Nat) (n:Int) (l:List Int) (F:Nat→Prop) (w:World) (hF:(mO b l).p w F) (hn:l.length≤1048576) :
  Calls PG 172 [.pointer (some ⟨b,0,none⟩),.int .i64 n].toArray w (qf λ v w'=>v = .tuple #[]∧qz F (mO b (l++[n])) w w'):=by
 obtain ⟨hi,hF⟩:=hF
 refine (C172 b n hi l F w hF hn).mono λ e w' ⟨v,he,hv,M6,F',h1,h2⟩=>⟨v,he,hv,F',⟨M6,h1⟩,h2⟩
theorem acm (b:Nat) (l:List Int) (F:Nat→Prop) (w:World) (hF:(mO b l).p w F) (hn:l.length≤1048576) (h0:0<l.length) :
  Calls PG 174 [.pointer (some ⟨b,0,none⟩)].toArray w (qf λ v w'=>v = .int .i64 (lR l)∧qz F (mO b (l.take (l.length - 1))) w w'):=by
 obtain ⟨hi,hF⟩:=hF
 refine (C174 b [.int .i64 hi] l F w hF hn h0).mono λ e w' ⟨v,he,hv,F',h1,h2⟩=>⟨v,he,hv,F',⟨hi,h1⟩,h2⟩
theorem C110 (sv nv:Value) (xs:List nx) (ns:List Int) (w:World) (hL:eE (λ _=>True) w sv xs) (hN:eE (λ _=>True) w nv ns) (hn:xs.length≤1048576):CR 110 [sv,nv] w (λ v w'=>v = .tuple #[.int .i64 (runM xs ns).1,.int .i64 (runM xs ns).2]∧Ext w w'):=by
 have hs:=St.start w;refine ZJ _ _ _ _ ?_;unfold S110;refine aK ek (hN.ext hs.aE) (aZ PE hs (C116 _ _ _ _ (hL.ext hs.aE) hn) (λ w1 he hs=>bZ (aY (λ fy=>?_) (λ fy=>?_))))
 ·unfold runM;rw [if_neg (by simpa using fy)];exact ⟨rfl,hs.aE⟩
 ·refine aJ hs ab7 (λ wq w2 hs=>?_);have hs:=mO.shut (ot.shut (hs.fU (α:=Int)).p1);have gd:eN xs (ns.length:Int)=true:=by simpa using fy
  obtain ⟨h40,⟨a0,mA⟩,awA⟩:=F4 gd;refine aK vN (hL.ext hs.aE) ?_;refine ⟨λ m x w1=>∃ (k:Nat) (S:List Int) (h:Int),x = .int .i64 (k:Int)∧m=xs.length - k∧k≤xs.length∧IG ns xs []=IG ns (xs.drop k) S∧ht (xs.take k)=some ((S.length:Int),h)∧St w bD [mO wq S] w1,⟨_,0,[],0,rfl,rfl,by omega,rfl,rfl,hs⟩,?_⟩;rintro m _ w3 ⟨k,S,h,rfl,rfl,hk,J2,KT,hs⟩ fz;refine aR (aC (λ iT=>?_) (λ iT=>?_))
  ·refine ⟨_,?_,λ _ h=>h⟩;obtain ⟨gU,iw⟩:=gx (xs) (i:=((k:Int)).toNat) (by omega);refine aQ vN (hL.ext hs.aE) (by omega) iw (λ _ wu=>aD Kw (wu) (aJ hs Ql (λ Bq w4 hs=>aI (x:=gU) hs Kw rfl rfl (λ w5 hs=>aA od (aB bN hs.hb rfl (aZ afs hs (C171 _ _) (λ w6 he hs=>?_)))))));have hod:=awA _ (List.mem_of_getElem? iw);unfold sC at hod;have ho:=of_decide_eq_false hod;obtain ⟨NF,h2,acn⟩:=Sm (ns:=ns) (k:=k) mA KT iw;have hwk:fK gU.kind=0→gU.kind=1∨gU.kind=2∨¬ (gU.kind=1∨gU.kind=2):=λ _=>by omega
   have hSk:=aiT k _ _ (by omega) KT;have hw3:=zZ gU.kind;refine aH (aC (λ sD=>?_) (λ sD=>?_))
   ·refine aA rj (aB bN hs.hb rfl ?_);refine ⟨_,?_,λ _ _ h=>h⟩;refine aA od (aB bN hs.hb rfl (aH (aC (λ pR=>?_) (λ pR=>?_))))
    ·refine aA rj (aB bN hs.hb rfl ?_);obtain ⟨af0,Vn⟩:=gx (ns) (i:=((gU).n).toNat) (by omega);refine aQ ek (hN.ext hs.aE) (by omega) Vn (λ _ Ec=>aD bN (Ec) ?_);intro jB;refine px PV hs.p1 (H':=λ _=>mO wq (S++[af0])) (Φ:=λ v _=>v = .tuple #[]) (λ F hF=>?_) ?_
     ·exact ack wq af0 S F _ hF (by first | omega | (simp only [List.length_take,List.length_append,List.length_singleton]; omega))
     rintro _ w8 rfl hs;intro oN;refine aO (by omega) ?_;have hs:=(hs.p1).drop;have gn:pQ ns S gU=_:=aiW sD pR Vn;exact ⟨_,by omega,k+1,_,_,rfl,rfl,by omega,J2.trans (CY (k:=k) iw (Vm (by omega))),acn,by rw [gn]; exact hs⟩
    ·intro jB;refine px PV hs.p1 (H':=λ _=>mO wq (S++[(gU).n])) (Φ:=λ v _=>v = .tuple #[]) (λ F hF=>?_) ?_
     ·exact ack wq (gU).n S F _ hF (by first | omega | (simp only [List.length_take,List.length_append,List.length_singleton]; omega))
     rintro _ w8 rfl hs;intro oN;refine aO (by omega) ?_;have hs:=(hs.p1).drop;have gn:pQ ns S gU=_:=aiV sD pR;exact ⟨_,by omega,k+1,_,_,rfl,rfl,by omega,J2.trans (CY (k:=k) iw (Vm (by omega))),acn,by rw [gn]; exact hs⟩
   ·refine aH (aC (λ GR=>?_) (λ GR=>?_))
    ·refine aA od (have hs:=hs.drew;aB bN hs.hb rfl (aA ub (px PW hs.p1 (H':=λ _=>mO wq (S.take (S.length - 1))) (Φ:=λ v _=>v = .int .i64 (lR S)) (λ F hF=>?_) ?_)))
     ·exact acm wq S F _ hF (by first | omega | (simp only [List.length_take,List.length_append,List.length_singleton]; omega)) (by first | omega | (simp only [List.length_take,List.length_append,List.length_singleton]; omega))
     rintro _ w9 rfl hs;refine ⟨aG bN (hs.p1.hb.cell rfl),?_⟩;refine aZ anS hs (C173 _ _ _) (λ pP he hs=>bE rfl (bE rfl (px PV hs (H':=λ _=>mO wq ((S.take (S.length - 1))++[(Cz (gU).kind (lR S))])) (Φ:=λ v _=>v = .tuple #[]) (λ F hF=>?_) ?_)))
     ·exact ack wq (Cz (gU).kind (lR S)) (S.take (S.length - 1)) F _ hF (by first | omega | (simp only [List.length_take,List.length_append,List.length_singleton]; omega))
     rintro _ sB rfl hs;intro oN;refine aO (by omega) ?_;have hs:=(hs.p1).drop;have gn:pQ ns S gU=_:=aiX GR;exact ⟨_,by omega,k+1,_,_,rfl,rfl,by omega,J2.trans (CY (k:=k) iw (Vm (by omega))),acn,by rw [gn]; exact hs⟩
    ·refine aA ub (px PW hs.p1 (H':=λ _=>mO wq (S.take (S.length - 1))) (Φ:=λ v _=>v = .int .i64 (lR S)) (λ F hF=>?_) ?_)
     ·exact acm wq S F _ hF (by first | omega | (simp only [List.length_take,List.length_append,List.length_singleton]; omega)) (by first | omega | (simp only [List.length_take,List.length_append,List.length_singleton]; omega))
     rintro _ u7 rfl hs;refine aA od (have hs:=hs.drew;aB bN hs.p1.hb rfl (aA ub (px PW hs (H':=λ _=>mO wq ((S.take (S.length - 1)).take ((S.take (S.length - 1)).length - 1))) (Φ:=λ v _=>v = .int .i64 (lR (S.take (S.length - 1)))) (λ F hF=>?_) ?_)))
     ·exact acm wq (S.take (S.length - 1)) F _ hF (by first | omega | (simp only [List.length_take,List.length_append,List.length_singleton]; omega)) (by first | omega | (simp only [List.length_take,List.length_append,List.length_singleton]; omega))
     rintro _ u9 rfl hs;refine ⟨aG bN (hs.p1.hb.cell rfl),?_⟩;refine aZ anT hs (C175 _ _ _ _) (λ r9 he hs=>bE rfl (bE rfl (cO (aC (λ j3=>?_) (λ j3=>?_)))))
     ·have hz:F3 S gU=qh gU.kind (lR S):=afZ (by have:=zZ gU.kind; omega);unfold runM;rw [if_pos gd,J2,Vl (k:=k) iw (by rw [hz]; exact j3),hz];exact ⟨rfl,hs.aE⟩
     ·refine px PV hs (H':=λ _=>mO wq (((S.take (S.length - 1)).take ((S.take (S.length - 1)).length - 1))++[(qi (gU).kind (lR (S.take (S.length - 1))) (lR S))])) (Φ:=λ v _=>v = .tuple #[]) (λ F hF=>?_) ?_
      ·exact ack wq (qi (gU).kind (lR (S.take (S.length - 1))) (lR S)) ((S.take (S.length - 1)).take ((S.take (S.length - 1)).length - 1)) F _ hF (by first | omega | (simp only [List.length_take,List.length_append,List.length_singleton]; omega))
      rintro _ vT rfl hs;intro oN;refine aO (by omega) ?_;have hs:=(hs.p1).drop;rw [ND (by omega)] at hs;have gn:pQ ns S gU=_:=aiY (by have:=zZ gU.kind; omega);exact ⟨_,by omega,k+1,_,_,rfl,rfl,by omega,J2.trans (CY (k:=k) iw ((afZ (by have:=zZ gU.kind; omega)).trans (Decidable.not_not.1 j3))),acn,by rw [gn]; exact hs⟩
  ·refine aA ub ?_
   have hS1:S.length=1:=by
    rw [List.take_of_length_le (by omega),mA] at KT;have:=(Prod.mk.inj (Option.some.inj KT)).1;omega
   refine px PW hs (H':=λ _=>mO wq (S.take (S.length - 1))) (Φ:=λ v _=>v = .int .i64 (lR S)) (λ F hF=>?_) ?_
   ·exact acm wq S F _ hF (by first | omega | (simp only [List.length_take,List.length_append,List.length_singleton]; omega)) (by first | omega | (simp only [List.length_take,List.length_append,List.length_singleton]; omega))
   rintro _ B6 rfl hs;unfold runM;rw [if_pos gd,J2,List.drop_eq_nil_of_le (by omega)];exact ⟨rfl,hs.aE⟩
def dQ (ns:List ByteArray) (s:ByteArray):Int:=va (λ y=>decide (y=s)) ns
def gJ (p:cW):List dI:=p.lines.flatten++p.jV
structure PS (p:cW):Prop where
 lines:p.lines.length≤500
 line:∀ l∈p.lines,l.length≤500
 jV:p.jV.length≤500
 locks:p.locks.length≤500
 threads:p.threads.length≤500
 recover:p.recover.length≤500
 cC:p.cC.length≤500
 aN:∀ t∈p.threads++p.recover,t.aN.length≤500
 body:∀ t∈p.threads++p.recover,t.body.length≤500
theorem cR {ls:List (List dI)} (h:∀ l∈ls,l.length≤500):ls.flatten.length≤500 * ls.length:=by
 induction ls with
 | nil=>simp
 | cons a ls ih=>
  have h1:=h a (by simp)
  have h2:=ih λ l hl=>h l (List.mem_cons_of_mem _ hl)
  rw [List.flatten_cons,List.length_append,List.length_cons]; omega
theorem nf {p:cW} (h:PS p):(gJ p).length≤250500:=by
 have h1:=cR h.line
 have h2:=h.lines
 have h3:=h.jV
 unfold gJ; rw [List.length_append]; omega
theorem Sn {α:Type} {ls:List (List α)} {k:Nat} {l:List α} (h:ls[k]? = some l):(ls.take k).flatten++l=(ls.take (k+1)).flatten:=by rw [← gZ h,List.flatten_append]; simp
theorem iU {α β:Type} {f:α→β} {l:List α} {k:Nat} {e:α} (h:l[k]? = some e):(l.take k).map f++[f e]=(l.take (k+1)).map f:=by rw [← gZ h,List.map_append]; rfl
theorem C98 (lv:Value) (ns:List ByteArray) (q:ByteArray) (w:World) (hL:eE (λ _=>True) w lv ns) (hn:ns.length≤1048576):CR 98 [lv,.string q] w (λ v w'=>v = .int .i64 (dQ ns q)∧Ext w w'):=by
 have hs:=St.start w;refine aiB _ _ _ _ ?_;unfold S98;refine ⟨λ m x w1=>∃ k:Nat,x = .int .i64 (k:Int)∧m=ns.length - k∧k≤ns.length∧(∀ y∈ns.take k,decide (y=q)=false)∧St w bD [] w1,⟨_,0,rfl,rfl,Nat.zero_le _,by simp,hs⟩,?_⟩;rintro m _ w1 ⟨k,rfl,rfl,hk,fS,hs⟩ fz;refine aK mX (hL.ext hs.aE) (aR (aC (λ gw=>?_) (λ gw=>?_)))
 ·obtain ⟨jr,dG⟩:=gx (ns) (i:=((k:Int)).toNat) (by omega);refine aQ mX (hL.ext hs.aE) (by omega) dG (λ _ iS=>aD ke (iS) (uf (aC (λ mc=>?_) (λ mc=>?_))))
  ·exact ⟨congrArg (Value.int .i64) (py fS dG (decide_eq_true mc)).symm,hs.aE⟩
  ·refine aO (by omega) ?_;exact ⟨ns.length - (k+1),by omega,k+1,rfl,rfl,by omega,eH fS dG (decide_eq_false mc),hs⟩
 ·exact ⟨congrArg (Value.int .i64) (ky (by rw [List.take_of_length_le (by omega)] at fS; exact fS)).symm,hs.aE⟩
theorem C107 (lv:Value) (cs:List dI) (w:World) (hL:eE (λ _=>True) w lv cs) (hn:cs.length≤1048576):CR 107 [lv] w (λ v w'=>lW (bK v (cs.map dI.name)) w w'):=by
 have hs:=St.start w;refine ZH _ _ _ ?_;unfold S107;refine bX (([]:List ByteArray)) hs mX rfl rfl (eL rfl) (λ IH w1 hs=>?_);refine ⟨λ m y x w1=>∃ k:Nat,x = .int .i64 (k:Int)∧m=cs.length - k∧k≤cs.length∧St w bD [bK y ((cs.take k).map dI.name)] w1,⟨_,0,rfl,rfl,by omega,hs⟩,?_⟩;rintro m fW _ w2 ⟨k,rfl,rfl,hk,hs⟩ fz;have hml:((cs.take k).map dI.name).length=k:=by rw [List.length_map,List.length_take]; omega
 refine aK j6 (hL.ext hs.aE) (aR (aC (λ gw=>?_) (λ gw=>?_)))
 ·obtain ⟨pS,jW⟩:=gx (cs) (i:=((k:Int)).toNat) (by omega);refine aQ j6 (hL.ext hs.aE) (by omega) jW (λ _ rz=>bT (pS).name pL rz rfl rfl (λ _ ug=>aD ke (ug) (bX ([(pS).name]) hs mX rfl rfl (eL rfl) (λ af1 w3 hs=>?_))));have ou:=(hs).fB;refine cP hs.p1 mX ou (by simp <;> omega) (by decide) (λ Vo w4 hs=>have hs:=hs.p1.drop;aO (by omega) ?_);exact ⟨_,by omega,k+1,rfl,rfl,by omega,by rw [← iU (k:=k) jW]; exact hs⟩
 ·rw [List.take_of_length_le (by omega)] at hs;exact hs.fresh
theorem C102 (p:cW) (pv:bL) (w:World) (hp:cA.dr w pv p) (hz:PS p):CR 102 [Flat.val pv] w (λ v w'=>lW (bK v (gJ p)) w w'):=by
 obtain ⟨bF,bQ,bG,aT,aU,aX,rfl,cH,dA,cI,bR,bO,cB⟩:=hp;have hs:=St.start w;refine ZC _ _ _ ?_;unfold S102;refine dE hs (λ kK w1 hs=>bX (([]:List dI)) hs j6 rfl rfl (eL rfl) (λ IH w2 hs=>?_));refine ⟨λ m y x w1=>∃ k:Nat,x = .int .i64 (k:Int)∧m=p.lines.length - k∧k≤p.lines.length∧St w bD [bK y (p.lines.take k).flatten,cE kK (Flat.enc (⟨bF,bQ,bG,aT,aU,aX⟩:bL))] w1,⟨_,0,rfl,rfl,by omega,hs⟩,?_⟩;rintro m fW _ w3 ⟨k,rfl,rfl,hk,hs⟩ fz;have YY:=hz.lines;refine aA jx (aB r7 hs.p1.hb rfl ?_)
 obtain ⟨YZ,hR1,hD1⟩:=(cH).open;have Vp:=hD1.1;refine aK vM (hR1.ext hs.aE) (aR (aC (λ fH=>?_) (λ fH=>?_)))
 ·refine aA jx (aB r7 hs.p1.hb rfl ?_);obtain ⟨apg,Vq⟩:=gx YZ (i:=((k:Int)).toNat) (by omega);obtain ⟨aph,NG⟩:=gx ((p).lines) (i:=((k:Int)).toNat) (by omega);have api:DL w (Flat.val apg) aph:=hD1.2 _ _ _ Vq NG;refine aQ vM (hR1.ext hs.aE) (by omega) Vq (λ _ KV=>aD jF (KV) ?_);have Ug:=DL.flat (api);have NH:=hz.line _ (List.mem_of_getElem? NG);have Cw:=cR (ls:=p.lines.take k) (λ l hl=>hz.line l (List.mem_of_mem_take hl));rw [List.length_take] at Cw;have YY:=hz.lines;have ou:=(Ug.ext hs.aE);refine cP hs j6 ou (by omega) (by decide) (λ Vo w4 hs=>aO (by omega) ?_)
  exact ⟨_,by omega,k+1,rfl,rfl,by omega,by rw [← Sn (k:=k) NG]; exact hs⟩
 ·refine aA uT (aB jF hs.p1.hb rfl ?_);have hf3:=DL.flat (dA);have Cw:=cR (ls:=p.lines.take k) (λ l hl=>hz.line l (List.mem_of_mem_take hl));rw [List.length_take] at Cw;have YY:=hz.lines;have hz2:=hz.jV;have aiZ:=(hf3.ext hs.aE);refine cP hs j6 aiZ (by omega) (by decide) (λ apj w5 hs=>?_);rw [List.take_of_length_le (by omega)] at hs;exact hs.p1.drop.fresh
def kids (k:Int):Int:=if k=1∨k=2 then 0 else if k=3∨k=4 then 1 else if 5≤k∧k≤15 then 2 else -1
theorem II (k:Int) : -1≤kids k∧kids k≤2:=by
 unfold kids
 repeat' split
 all_goals omega
def jA (c:Int):Bool:=decide (97≤c∧c≤122∨c=95)
def ny (c:Int):Bool:=decide (48≤c∧c≤57)
def wv:List ByteArray:=[⟨#[108,105,110,101]⟩,⟨#[118,111,108]⟩,⟨#[108,111,99,107]⟩,⟨#[116,104,114,101,97,100]⟩,⟨#[114,101,103]⟩,⟨#[108,111,97,100]⟩,⟨#[115,116,111,114,101]⟩,⟨#[99,97,115]⟩,⟨#[102,108,117,115,104]⟩,⟨#[111,112,116]⟩,⟨#[115,102,101,110,99,101]⟩,⟨#[109,102,101,110,99,101]⟩,⟨#[116,97,107,101]⟩,⟨#[103,105,118,101]⟩,⟨#[105,102]⟩,⟨#[101,108,115,101]⟩,⟨#[108,111,111,112]⟩,⟨#[98,114,101,97,107]⟩,⟨#[99,104,101,99,107]⟩,⟨#[114,101,99,111,118,101,114]⟩,⟨#[97,108,119,97,121,115]⟩]
def j4 (s:ByteArray):Bool:=!(decide (s.size<1∨16<s.size) || (match (lr s)[0]? with | some c=>!jA c.toNat | none=>true) || wv.any (λ y=>decide (y=s))) && !(lr s).any (λ c=>!jA c.toNat && !ny c.toNat)
def skip:Nat→List dC→Option (List dC)
 | 0,l=>some l
 | _+1,[]=>none
 | n+1,x::l=>if kids x.op<0 then none else skip (n+(kids x.op).toNat) l
theorem yP (l:List dC):skip 0 l=some l:=by cases l <;> rfl
theorem Ed (l:List dC):∀ a b,skip (a+b) l=(skip a l).bind (skip b):=by
 induction l with
 | nil=>
  intro a b
  cases a with
  | zero=>rw [Nat.zero_add,yP]; rfl
  | succ a=>rw [show a+1+b=(a+b)+1 from by omega]; rfl
 | cons x l ih=>
  intro a b
  cases a with
  | zero=>rw [Nat.zero_add,yP]; rfl
  | succ a=>
   rw [show a+1+b=(a+b)+1 from by omega]
   show (if kids x.op<0 then none else skip (a+b+(kids x.op).toNat) l)=(if kids x.op<0 then none else skip (a+(kids x.op).toNat) l).bind (skip b)
   split
   ·rfl
   ·rw [show a+b+(kids x.op).toNat=a+(kids x.op).toNat+b from by omega]; exact ih _ _
theorem Ee (l:List dC):∀ n r,skip n l=some r→r=l.drop (l.length - r.length)∧r.length+min n 1≤l.length:=by
 induction l with
 | nil=>
  intro n r h
  cases n with
  | zero=>rw [yP] at h; cases h; exact ⟨rfl,by simp⟩
  | succ n=>cases h
 | cons x l ih=>
  intro n r h
  cases n with
  | zero=>rw [yP] at h; cases h; exact ⟨by simp,by simp⟩
  | succ n=>
   have h:(if kids x.op<0 then none else skip (n+(kids x.op).toNat) l)=some r:=h
   split at h
   ·cases h
   ·obtain ⟨h1,h2⟩:=ih _ _ h
    refine ⟨?_,by rw [List.length_cons]; omega⟩
    rw [show (x::l).length - r.length=(l.length - r.length)+1 from by rw [List.length_cons]; omega]
    exact h1
def GS (n:Nat) (o:Option (List dC)):Int:=match o with | some r=>(n:Int) - r.length | none=>-1
def vd (xs:List dC) (i:Int):Int:=if i<0 then -1 else GS xs.length (skip 1 (xs.drop i.toNat))
theorem Vr {xs:List dC} {i:Int} {x:dC} (h0:0≤i) (hx:xs[i.toNat]? = some x) (hk:0≤kids x.op):vd xs i=GS xs.length (skip (kids x.op).toNat (xs.drop (i.toNat+1))):=by
 unfold vd
 obtain ⟨hl,he⟩:=List.getElem?_eq_some_iff.1 hx
 rw [if_neg (by omega),List.drop_eq_getElem_cons hl,he]
 show GS _ (if kids x.op<0 then none else skip (0+(kids x.op).toNat) _)=_
 rw [if_neg (by omega),Nat.zero_add]
theorem aco {xs:List dC} {i:Int} {x:dC} (h0:0≤i) (hx:xs[i.toNat]? = some x) (hk:kids x.op<0):vd xs i = -1:=by
 unfold vd
 obtain ⟨hl,he⟩:=List.getElem?_eq_some_iff.1 hx
 rw [if_neg (by omega),List.drop_eq_getElem_cons hl,he]
 show GS _ (if kids x.op<0 then none else _)=_
 rw [if_pos hk]; rfl
theorem acp {xs:List dC} {i:Int} (h:i<0∨xs.length≤i):vd xs i = -1:=by
 unfold vd
 split
 ·rfl
 ·rw [List.drop_eq_nil_of_le (by omega)]; rfl
theorem apk {xs:List dC} {j k:Nat} {a:Int} (h:GS xs.length (skip k (xs.drop j))=a) (h0:0≤a):vd xs a=GS xs.length (skip (k+1) (xs.drop j))∧((j:Int)≤a∨xs.length≤a):=by
 cases hs:skip k (xs.drop j) with
 | none=>rw [hs] at h; unfold GS at h; simp only [] at h; omega
 | some r=>
  rw [hs] at h
  have h:(xs.length:Int) - r.length=a:=h
  obtain ⟨h1,h2⟩:=Ee _ _ _ hs
  rw [List.length_drop] at h1 h2
  rw [Ed,hs]
  show _=GS _ (skip 1 r)∧_
  refine ⟨?_,by omega⟩
  unfold vd
  rw [if_neg (by omega)]
  by_cases hj:j≤xs.length
  ·have:xs.drop a.toNat=r:=by
    rw [h1,List.drop_drop,show j+(xs.length - j - r.length)=a.toNat from by omega]
   rw [this]
  ·have:r=[]:=List.length_eq_zero_iff.1 (by omega)
   subst this
   rw [List.drop_eq_nil_of_le (by simp at h; omega)]
theorem ai0 {xs l:List dC} {k j:Nat} (hl:l.length≤xs.length) (h:¬ 0≤GS xs.length (skip k l)) (hj:k≤j):GS xs.length (skip k l)=GS xs.length (skip j l):=by
 cases hs:skip k l with
 | none=>rw [show j=k+(j - k) from by omega,Ed,hs]; rfl
 | some r=>
  obtain ⟨_,h2⟩:=Ee _ _ _ hs
  rw [hs] at h; unfold GS at h; simp only [] at h; omega
theorem awD {xs l:List dC} {k:Nat} (hl:l.length≤xs.length) : -1≤GS xs.length (skip k l)∧GS xs.length (skip k l)≤xs.length:=by
 cases hs:skip k l with
 | none=>unfold GS; simp only []; omega
 | some r=>
  obtain ⟨_,h2⟩:=Ee _ _ _ hs
  unfold GS; simp only []; omega
theorem C163 (k:Int) (w:World):CR 163 [.int .i64 k] w (λ v w'=>v = .int .i64 (kids k)∧Ext w w'):=by
 have hs:=St.start w;refine aam _ _ _ ?_;unfold S163;refine ⟨λ jv w'=>jv = .bool (decide (k=1∨k=2))∧w=w',?_,?_⟩
 ·refine aH (aC (λ pU=>?_) (λ pU=>?_))
  ·exact ⟨M9 (by omega),rfl⟩
  ·refine aH ?_;exact ⟨vX (by omega),rfl⟩
 ·rintro _ w1 ⟨rfl,hw⟩ fz;subst hw;refine aC (λ gp=>?_) (λ gp=>?_)
  ·unfold kids;exact ⟨congrArg (Value.int .i64) (by grind),hs.aE⟩
  ·refine ⟨λ jv w'=>jv = .bool (decide (k=3∨k=4))∧w=w',?_,?_⟩
   ·refine aH (aC (λ fH=>?_) (λ fH=>?_))
    ·exact ⟨M9 (by omega),rfl⟩
    ·refine aH ?_;exact ⟨vX (by omega),rfl⟩
   ·rintro _ w2 ⟨rfl,hw⟩ jB;subst hw;refine aC (λ gI=>?_) (λ gI=>?_)
    ·unfold kids;exact ⟨congrArg (Value.int .i64) (by grind),hs.aE⟩
    ·refine ⟨λ jv w'=>jv = .bool (decide (5≤k∧k≤15))∧w=w',?_,?_⟩
     ·refine dH (aC (λ eF=>?_) (λ eF=>?_))
      ·refine j9 ?_;exact ⟨vX (by omega),rfl⟩
      ·exact ⟨Zq (by omega),rfl⟩
     ·rintro _ w3 ⟨rfl,hw⟩ oN;subst hw;refine aC (λ jD=>?_) (λ jD=>?_)
      ·unfold kids;exact ⟨congrArg (Value.int .i64) (by grind),hs.aE⟩
      ·unfold kids;exact ⟨congrArg (Value.int .i64) (by grind),hs.aE⟩
theorem C206 (c:Int) (w:World):CR 206 [.int .u8 c] w (λ v w'=>v = .bool (jA c)∧Ext w w'):=by
 have hs:=St.start w;refine aaW _ _ _ ?_;unfold S206;refine ⟨λ jv w'=>jv = .bool (decide (97≤c∧c≤122∨c=95))∧w=w',?_,?_⟩
 ·refine KO (aC (λ pU=>?_) (λ pU=>?_))
  ·refine KN (aC (λ iV=>?_) (λ iV=>?_))
   ·exact ⟨M9 (by omega),rfl⟩
   ·refine om ?_;exact ⟨vX (by omega),rfl⟩
  ·refine om ?_;exact ⟨vX (by omega),rfl⟩
 ·rintro _ w1 ⟨rfl,hw⟩ fz;subst hw;exact ⟨rfl,hs.aE⟩
theorem C208 (c:Int) (w:World):CR 208 [.int .u8 c] w (λ v w'=>v = .bool (ny c)∧Ext w w'):=by
 have hs:=St.start w;refine aaY _ _ _ ?_;unfold S208;refine ⟨λ jv w'=>jv = .bool (decide (48≤c∧c≤57))∧w=w',?_,?_⟩
 ·refine KO (aC (λ pU=>?_) (λ pU=>?_))
  ·refine KN ?_;exact ⟨vX (by omega),rfl⟩
  ·exact ⟨Zq (by omega),rfl⟩
 ·rintro _ w1 ⟨rfl,hw⟩ fz;subst hw;exact ⟨rfl,hs.aE⟩
theorem C207 (s:ByteArray) (w:World):CR 207 [.string s] w (λ v w'=>v = .bool (wv.any (λ y=>decide (y=s)))∧Ext w w'):=by
 have hs:=St.start w;refine aaX _ _ _ ?_;unfold S207;refine bX (wv) hs mX rfl rfl (eL rfl) (λ IH w1 hs=>?_);refine ⟨λ m x w1=>∃ k:Nat,x = .int .i64 (k:Int)∧m=wv.length - k∧k≤wv.length∧(∀ y∈wv.take k,decide (y=s)=false)∧St w bD [bK IH wv] w1,⟨_,0,rfl,rfl,Nat.zero_le _,by simp,hs⟩,?_⟩;rintro m _ w2 ⟨k,rfl,rfl,hk,fS,hs⟩ fz;have KW:wv.length=21:=rfl;refine aK mX (hs).fB (aR (aC (λ gw=>?_) (λ gw=>?_)))
 ·skip;obtain ⟨jr,dG⟩:=gx (wv) (i:=((k:Int)).toNat) (by omega);refine dU hs mX (by omega) (by omega) (λ _ iS=>gk hs ke iS dG (uf (aC (λ mc=>?_) (λ mc=>?_))))
  ·exact ⟨vb (jH dG (decide_eq_true mc)).symm,hs.aE⟩
  ·refine aO (by omega) ?_;exact ⟨_,by omega,k+1,rfl,rfl,by omega,eH fS dG (decide_eq_false mc),hs⟩
 ·rw [List.take_of_length_le (by omega)] at fS;exact ⟨vb (iM fS).symm,hs.aE⟩
theorem C161 (s:ByteArray) (w:World) (hn:s.size≤1048576):CR 161 [.string s] w (λ v w'=>v = .bool (j4 s)∧Ext w w'):=by
 have hs:=St.start w;refine aak _ _ _ ?_;unfold S161;refine ⟨λ jv w'=>jv = .bool (decide (s.size<1∨16<s.size) || (match (lr s)[0]? with | some c=>!jA c.toNat | none=>true) || wv.any (λ y=>decide (y=s)))∧St w bD [] w',?_,?_⟩
 ·refine gb gN (aR (aC (λ oJ=>?_) (λ oJ=>?_)))
  ·exact ⟨vb (by grind),hs⟩
  ·refine gb gN (dD (aC (λ fH=>?_) (λ fH=>?_)))
   ·exact ⟨vb (by grind),hs⟩
   ·obtain ⟨jr,dG⟩:∃ xx,(lr (s))[((0:Int)).toNat]? = some xx:=⟨_,List.getElem?_eq_getElem (by rw [dZ]; omega)⟩;refine lM gN (by omega) dG (aZ Qb hs (C206 _ _) (λ w1 he hs=>bZ (aY (λ eF=>?_) (λ eF=>?_))))
    ·exact ⟨vb (by grind),hs⟩
    ·refine aZ aob hs (C207 _ _) (λ w2 he hs=>?_);exact ⟨vb (by grind),hs⟩
 ·rintro _ w3 ⟨rfl,hs⟩ fz;refine aY (λ gv=>?_) (λ gv=>?_)
  ·refine ⟨vb ?_,hs.aE⟩;unfold j4;rw [gv]; rfl
  ·refine ⟨λ m x w1=>∃ k:Nat,x = .int .i64 (k:Int)∧m=(lr s).length - k∧k≤(lr s).length∧(∀ y∈(lr s).take k,(!jA y.toNat && !ny y.toNat)=false)∧St w bD [] w1,⟨_,0,rfl,rfl,Nat.zero_le _,by simp,hs⟩,?_⟩;rintro m _ w4 ⟨k,rfl,rfl,hk,fS,hs⟩ jB;rw [dZ] at hk;have yQ:=dZ s;refine gb gN (aR (aC (λ fD=>?_) (λ fD=>?_)))
   ·obtain ⟨Ef,lG⟩:∃ xx,(lr s)[((k:Int)).toNat]? = some xx:=⟨_,List.getElem?_eq_getElem (by rw [dZ]; omega)⟩;refine ⟨λ jv w'=>jv = .bool (!jA Ef.toNat && !ny Ef.toNat)∧St w bD [] w',?_,?_⟩
    ·refine lM gN (by omega) lG (aZ Qb hs (C206 _ _) (λ w5 he hs=>bZ (aY (λ jP=>?_) (λ jP=>?_))))
     ·refine lM gN (by omega) lG (aZ Qc hs (C208 _ _) (λ w6 he hs=>bZ ?_));exact ⟨vb (by grind),hs⟩
     ·exact ⟨vb (by grind),hs⟩
    ·rintro _ w7 ⟨rfl,hs⟩ oN;refine aY (λ sE=>?_) (λ sE=>?_)
     ·refine ⟨vb ?_,hs.aE⟩;unfold j4;rw [jH lG sE]; simp
     ·refine aO (by omega) ?_;exact ⟨_,by omega,k+1,rfl,rfl,by omega,eH fS lG (by simpa using sE),hs⟩
   ·rw [List.take_of_length_le (by omega)] at fS;refine ⟨vb ?_,hs.aE⟩;unfold j4;rw [iM fS]
    revert gv
    cases (decide (s.size<1∨16<s.size) || (match (lr s)[0]? with | some c=>!jA c.toNat | none=>true) || wv.any (λ y=>decide (y=s))) <;> simp
theorem C160 (lv:Value) (xs:List dC) (i:Int) (N:Nat) (w:World) (hL:eE (λ _=>True) w lv xs) (hn:xs.length≤1048576) (hi : -9223372036854775808≤i) (hN:(xs.length:Int) - i<N):CR 160 [lv,.int .i64 i] w (λ v w'=>v = .int .i64 (vd xs i)∧Ext w w'):=by
 have hs:=St.start w;refine aaj _ _ _ _ ?_;unfold S160;refine ⟨λ jv w'=>jv = .bool (decide (i<0∨(xs.length:Int)≤i) || (match xs[i.toNat]? with | some x=>decide (kids x.op<0) | none=>true))∧St w bD [] w',?_,?_⟩
 ·refine aR (aC (λ gp=>?_) (λ gp=>?_))
  ·exact ⟨vb (by grind),hs⟩
  ·refine aK lV (hL.ext hs.aE) (dH (aC (λ kM=>?_) (λ kM=>?_)))
   ·exact ⟨vb (by grind),hs⟩
   ·obtain ⟨rA,jt⟩:=gx (xs) (i:=(i).toNat) (by omega);refine aQ lV (hL.ext hs.aE) (by omega) jt (λ _ wx=>bT (rA).op jn wx rfl rfl (λ _ ju=>aD bN (ju) (aZ PQ hs (C163 _ _) (λ w1 he hs=>aR ?_))));exact ⟨vb (by grind),hs⟩
 ·rintro _ w2 ⟨rfl,hs⟩ fz;refine aY (λ iT=>?_) (λ iT=>?_)
  ·exact ⟨congrArg (Value.int .i64) (by grind [acp,aco]),hs.aE⟩
  ·have h23:¬ (i<0∨(xs.length:Int)≤i):=by grind
   obtain ⟨GU,F5⟩:∃ xx,xs[(i).toNat]? = some xx:=⟨_,List.getElem?_eq_getElem (by omega)⟩;have Vs:0≤kids GU.op:=by grind
   have hkb:=II GU.op;have Y0:=Vr (by omega) F5 Vs;refine aO (by omega) ?_;refine ⟨λ m y x w1=>∃ (k:Nat) (a:Int),x = .int .i64 (k:Int)∧y = .int .i64 a∧m=(kids GU.op).toNat - k∧k≤(kids GU.op).toNat∧GS xs.length (skip k (xs.drop (i.toNat+1)))=a∧St w bD [] w1,⟨_,0,i+1,rfl,rfl,rfl,by omega,by rw [yP]; unfold GS; simp only [List.length_drop]; omega,hs⟩,?_⟩;rintro m _ _ w3 ⟨k,a,rfl,rfl,rfl,hk,gn,hs⟩ jB;have hab:=awD (xs:=xs) (l:=xs.drop (i.toNat+1)) (k:=k) (by rw [List.length_drop]; omega);rw [gn] at hab;refine ⟨λ jv w'=>jv = .bool (decide ((k:Int)<kids GU.op∧0≤a))∧St w bD [] w',?_,?_⟩
   ·refine aQ lV (hL.ext hs.aE) (by omega) F5 (λ _ Eg=>bT (GU).op jn Eg rfl rfl (λ _ ow=>aD bN (ow) (aZ PQ hs (C163 _ _) (λ w4 he hs=>aR (aC (λ nH=>?_) (λ nH=>?_))))))
    ·refine dH ?_;exact ⟨vb (by grind),hs⟩
    ·exact ⟨vb (by grind),hs⟩
   ·rintro _ w5 ⟨rfl,hs⟩ oN;refine aC (λ uh=>?_) (λ uh=>?_)
    ·have hgo:=apk gn (by omega);refine aZ PO hs (C160 _ _ _ (N - 1) _ (hL.ext hs.aE) hn (by omega) (by omega)) (λ w6 he hs=>aO (by omega) ?_);exact ⟨_,by omega,k+1,_,rfl,rfl,rfl,by omega,(hgo.1).symm,hs⟩
    ·exact ⟨congrArg (Value.int .i64) (by have:=ai0 (xs:=xs) (l:=xs.drop (i.toNat+1)) (k:=k) (j:=(kids GU.op).toNat) (by rw [List.length_drop]; omega); rw [Y0]; by_cases h0:0≤a <;> grind),hs.aE⟩
termination_by N
decreasing_by omega
inductive Ex where
 | leaf (x:dC)
 | un (x:dC) (a:Ex)
 | bin (x:dC) (a b:Ex)
namespace Ex
def root:Ex→dC | leaf x=>x | un x _=>x | bin x _ _=>x
def gy:Ex→List Ex | leaf _=>[] | un _ a=>[a] | bin _ a b=>[a,b]
def flat:Ex→List dC | leaf x=>[x] | un x a=>x::a.flat | bin x a b=>x::(a.flat++b.flat)
def wf:Ex→Prop | leaf x=>kids x.op=0 | un x a=>kids x.op=1∧a.wf | bin x a b=>kids x.op=2∧a.wf∧b.wf
def depth:Ex→Int | leaf _=>1 | un _ a=>a.depth+1 | bin _ a b=>max a.depth b.depth+1
def size:Ex→Nat | leaf _=>1 | un _ a=>a.size+1 | bin _ a b=>a.size+b.size+1
def numOf (ns:List ByteArray) (x:dC):Int:=if x.op=2 then dQ ns x.name else x.n
def steps (ns:List ByteArray):Ex→List nx
 | leaf x=>[⟨x.op,numOf ns x⟩]
 | un x a=>a.steps ns++[⟨x.op,numOf ns x⟩]
 | bin x a b=>a.steps ns++b.steps ns++[⟨x.op,numOf ns x⟩]
end Ex
theorem Ex.cR (t:Ex):t.flat.length=t.size:=by
 induction t with
 | leaf x=>rfl
 | un x a ih=>simp [Ex.flat,Ex.size,ih]
 | bin x a b vO xY=>simp [Ex.flat,Ex.size,vO,xY]
theorem Ex.GV (t:Ex):t.flat=t.root::(t.gy.map Ex.flat).flatten:=by
 cases t <;> simp [Ex.flat,Ex.root,Ex.gy]
theorem Ex.KX {t:Ex} (h:t.wf):kids t.root.op=t.gy.length:=by
 cases t with
 | leaf x=>exact h
 | un x a=>exact h.1
 | bin x a b=>exact h.1
theorem Ex.IJ {t a:Ex} (h:t.wf) (ha:a∈t.gy):a.wf∧a.size<t.size:=by
 cases t with
 | leaf x=>cases ha
 | un x b=>rw [List.mem_singleton.1 ha]; exact ⟨h.2,by simp [Ex.size]⟩
 | bin x b c=>
  rcases List.mem_cons.1 ha with rfl | ha
  ·exact ⟨h.2.1,by simp [Ex.size]; omega⟩
  ·rw [List.mem_singleton.1 ha]; exact ⟨h.2.2,by simp [Ex.size]; omega⟩
theorem Ex.z6 (t:Ex):1≤t.depth∧t.depth≤t.size:=by
 induction t with
 | leaf x=>simp [Ex.depth,Ex.size]
 | un x a ih=>simp only [Ex.depth,Ex.size]; omega
 | bin x a b vO xY=>simp only [Ex.depth,Ex.size]; omega
theorem Ex.xt (ns:List ByteArray) (t:Ex):(t.steps ns).length=t.size:=by
 induction t with
 | leaf x=>rfl
 | un x a ih=>simp [Ex.steps,Ex.size,ih]
 | bin x a b vO xY=>simp [Ex.steps,Ex.size,vO,xY]; omega
theorem So (t:Ex) (h:t.wf):∀ n r,skip (n+1) (t.flat++r)=skip n r:=by
 induction t with
 | leaf x=>
  intro n r
  show (if kids x.op<0 then none else skip (n+(kids x.op).toNat) r)=_
  rw [show kids x.op=0 from h]; rfl
 | un x a ih=>
  intro n r
  show (if kids x.op<0 then none else skip (n+(kids x.op).toNat) (a.flat++r))=_
  rw [show kids x.op=1 from h.1,if_neg (by omega)]; exact ih h.2 n r
 | bin x a b vO xY=>
  intro n r
  show (if kids x.op<0 then none else skip (n+(kids x.op).toNat) (a.flat++b.flat++r))=_
  rw [show kids x.op=2 from h.1,if_neg (by omega),List.append_assoc]
  show skip (n+1+1) _=_
  rw [vO h.2.1 (n+1),xY h.2.2 n]
theorem Qy:∀ (k:Nat) (l r:List dC),l.length≤k→skip 1 l=some r→∃ t:Ex,t.wf∧l=t.flat++r
 | k,[],r,_,h=>by cases h
 | 0,x::l,r,hk,_=>by simp at hk
 | k+1,x::l,r,hk,h=>by
  have hk:l.length≤k:=by simpa using hk
  have h:(if kids x.op<0 then none else skip (0+(kids x.op).toNat) l)=some r:=h
  have hb:=II x.op
  split at h
  ·cases h
  ·rcases (show kids x.op=0∨kids x.op=1∨kids x.op=2 by omega) with h0 | h0 | h0
   ·rw [h0] at h
    have h:skip 0 l=some r:=h
    rw [yP] at h; cases h
    exact ⟨.leaf x,h0,rfl⟩
   ·rw [h0] at h
    obtain ⟨a,ha,rfl⟩:=Qy k l r hk h
    exact ⟨.un x a,⟨h0,ha⟩,rfl⟩
   ·rw [h0] at h
    have h:skip (1+1) l=some r:=h
    rw [Ed] at h
    obtain ⟨m,h1,h2⟩:=Option.bind_eq_some_iff.1 h
    obtain ⟨a,ha,rfl⟩:=Qy k l m hk h1
    obtain ⟨b,hb',rfl⟩:=Qy k m r (by simp at hk; omega) h2
    exact ⟨.bin x a b,⟨h0,ha,hb'⟩,by simp [Ex.flat]⟩
def JI (xs:List dC) (i:Int) (t:Ex):Prop:=0≤i∧t.wf∧∃ r,xs.drop i.toNat=t.flat++r
theorem JI.root {xs:List dC} {i:Int} {t:Ex} (h:JI xs i t):xs[i.toNat]? = some t.root∧i<xs.length:=by
 obtain ⟨h0,_,r,h⟩:=h
 have:(xs.drop i.toNat)[0]? = some t.root:=by rw [h,Ex.GV]; rfl
 rw [List.getElem?_drop,Nat.add_zero] at this
 exact ⟨this,by have:=(List.getElem?_eq_some_iff.1 this).1; omega⟩
theorem JI.end {xs:List dC} {i:Int} {t:Ex} (h:JI xs i t):vd xs i=i+t.size∧i+t.size≤xs.length:=by
 have mF:=h.root.2
 obtain ⟨h0,hw,r,h⟩:=h
 have hl:=congrArg List.length h
 rw [List.length_drop,List.length_append,Ex.cR] at hl
 refine ⟨?_,by omega⟩
 unfold vd
 rw [if_neg (by omega),h,So t hw 0 r,yP]
 unfold GS; simp only []; omega
theorem JI.of {xs:List dC} {i:Int} (h:0≤vd xs i):∃ t,JI xs i t:=by
 unfold vd at h
 split at h
 ·omega
 ·cases hs:skip 1 (xs.drop i.toNat) with
  | none=>rw [hs] at h; unfold GS at h; simp only [] at h; omega
  | some r=>
   obtain ⟨t,hw,he⟩:=Qy _ _ r (Nat.le_refl _) hs
   exact ⟨t,by omega,hw,r,he⟩
def z7 (ks:List Ex) (k:Nat):Nat:=((ks.take k).map Ex.size).sum
theorem GW {ks:List Ex} {k:Nat} {a:Ex} (h:ks[k]? = some a):z7 ks (k+1)=z7 ks k+a.size:=by
 unfold z7; rw [← gZ h]; simp
theorem JI.kid {xs:List dC} {i:Int} {t a:Ex} {k:Nat} (h:JI xs i t) (ha:t.gy[k]? = some a):JI xs (i+1+z7 t.gy k) a:=by
 obtain ⟨h0,hw,r,h⟩:=h
 refine ⟨by omega,(Ex.IJ hw (List.mem_of_getElem? ha)).1,?_⟩
 have hs:t.gy=t.gy.take k++a::t.gy.drop (k+1):=by
  obtain ⟨hk,he⟩:=List.getElem?_eq_some_iff.1 ha
  rw [← he,List.getElem_cons_drop,List.take_append_drop]
 have hl:(((t.gy.take k).map Ex.flat).flatten).length=z7 t.gy k:=by
  unfold z7
  rw [List.length_flatten,List.map_map]
  congr 2
  exact funext λ x=>Ex.cR x
 have h2:xs.drop (i.toNat+1)=((t.gy.take k).map Ex.flat).flatten++(a.flat++(((t.gy.drop (k+1)).map Ex.flat).flatten++r)):=by
  rw [← List.drop_drop,h,Ex.GV t]
  show (t.gy.map Ex.flat).flatten++r=_
  conv=>lhs; rw [hs]
  simp
 refine ⟨((t.gy.drop (k+1)).map Ex.flat).flatten++r,?_⟩
 rw [show (i+1+(z7 t.gy k:Int)).toNat=i.toNat+1+z7 t.gy k from by omega,← List.drop_drop,h2,← hl,List.drop_left]
def Eh (ks:List Ex) (k:Nat):Int:=((ks.take k).map Ex.depth).foldl max 0
theorem GX {ks:List Ex} {k:Nat} {a:Ex} (h:ks[k]? = some a):Eh ks (k+1)=max (Eh ks k) a.depth:=by
 unfold Eh; rw [← gZ h,List.map_append,List.foldl_append]; rfl
theorem Vt {ks:List Ex} {N:Int} (h0:0≤N) (h:∀ a∈ks,a.depth≤N):∀ k,0≤Eh ks k∧Eh ks k≤N
 | 0=>by simp [Eh,h0]
 | k+1=>by
  have ih:=Vt h0 h k
  cases hx:ks[k]? with
  | none=>
   have e:ks.take (k+1)=ks.take k:=by rw [List.take_add_one,hx]; simp
   unfold Eh at *; rw [e]; exact ih
  | some a=>rw [GX hx]; have:=h a (List.mem_of_getElem? hx); omega
theorem Ex.Vu (t:Ex):t.depth=Eh t.gy t.gy.length+1:=by
 cases t with
 | leaf x=>rfl
 | un x a=>have:=a.z6; simp only [Ex.depth,Ex.gy,Eh,List.length_singleton,List.take_succ_cons,List.take_zero,List.map_cons,List.map_nil,List.foldl_cons,List.foldl_nil]; omega
 | bin x a b=>have:=a.z6; simp only [Ex.depth,Ex.gy,Eh,List.length_cons,List.length_nil,List.take_succ_cons,List.take_zero,List.map_cons,List.map_nil,List.foldl_cons,List.foldl_nil]; omega
def stK (ns:List ByteArray) (ks:List Ex) (k:Nat):List nx:=((ks.take k).map (Ex.steps ns)).flatten
theorem Vv {ns:List ByteArray} {ks:List Ex} {k:Nat} {a:Ex} (h:ks[k]? = some a):stK ns ks (k+1)=stK ns ks k++a.steps ns:=by
 unfold stK; rw [← gZ h]; simp
theorem Qz {ns:List ByteArray} {ks:List Ex} {k:Nat}:(stK ns ks k).length=z7 ks k:=by
 unfold stK z7
 rw [List.length_flatten,List.map_map]
 congr 2
 exact funext λ x=>Ex.xt ns x
open Ex (numOf) in
theorem Ex.Ei (ns:List ByteArray) (t:Ex):t.steps ns=stK ns t.gy t.gy.length++[⟨t.root.op,numOf ns t.root⟩]:=by
 cases t <;> simp [Ex.steps,Ex.gy,stK,Ex.root]
def pt:Nat→List dC→Option (Ex × List dC)
 | 0,_=>none
 | _+1,[]=>none
 | n+1,x::l=>
  if kids x.op=0 then some (.leaf x,l) else if kids x.op=1 then (match pt n l with | some p=>some (.un x p.1,p.2) | none=>none)
  else if kids x.op=2 then (match pt n l with | some p=>(match pt n p.2 with | some q=>some (.bin x p.1 q.1,q.2) | none=>none) | none=>none) else none
theorem acr (t:Ex) (h:t.wf):∀ n r,t.size≤n→pt n (t.flat++r)=some (t,r):=by
 induction t with
 | leaf x=>
  intro n r hn
  cases n with
  | zero=>simp [Ex.size] at hn
  | succ n=>show (if kids x.op=0 then _ else _)=_; rw [if_pos (show kids x.op=0 from h)]; rfl
 | un x a ih=>
  intro n r hn
  cases n with
  | zero=>simp [Ex.size] at hn
  | succ n=>
   have h1:kids x.op=1:=h.1
   show (if kids x.op=0 then _ else if kids x.op=1 then (match pt n (a.flat++r) with | some p=>some (Ex.un x p.1,p.2) | none=>none) else _)=_
   rw [if_neg (by omega),if_pos h1,ih h.2 n r (by simp [Ex.size] at hn; omega)]
 | bin x a b vO xY=>
  intro n r hn
  cases n with
  | zero=>simp [Ex.size] at hn
  | succ n=>
   have h1:kids x.op=2:=h.1
   show (if kids x.op=0 then _ else if kids x.op=1 then _ else if kids x.op=2 then (match pt n (a.flat++b.flat++r) with | some p=>(match pt n p.2 with | some q=>some (Ex.bin x p.1 q.1,q.2) | none=>none) | none=>none) else _)=_
   rw [if_neg (by omega),if_neg (by omega),if_pos h1,List.append_assoc,vO h.2.1 n _ (by simp [Ex.size] at hn; omega)]
   simp only []
   rw [xY h.2.2 n _ (by simp [Ex.size] at hn; omega)]
def yR (l:List dC):Option Ex:=match pt l.length l with | some p=>if p.2=[] then some p.1 else none | none=>none
theorem Sp {t:Ex} (h:t.wf):yR t.flat=some t:=by
 unfold yR
 have:=acr t h t.flat.length [] (by rw [Ex.cR]; exact Nat.le_refl _)
 rw [List.append_nil] at this
 rw [this]; rfl
theorem JI.zero {l:List dC} {t:Ex} (h:JI l 0 t) (he:vd l 0=l.length):l=t.flat∧yR l=some t:=by
 have h1:=h.end
 obtain ⟨_,hw,r,h⟩:=h
 have hl:=congrArg List.length h
 rw [List.length_append,Ex.cR] at hl
 simp at hl
 have:r=[]:=List.length_eq_zero_iff.1 (by omega)
 subst this
 have h:l=t.flat:=by simpa using h
 exact ⟨h,by rw [h]; exact Sp hw⟩
theorem z8:∀ n l t r,pt n l=some (t,r)→t.wf∧l=t.flat++r
 | 0,l,t,r,h=>by cases h
 | n+1,[],t,r,h=>by cases h
 | n+1,x::l,t,r,h=>by
  have h:(if kids x.op=0 then some (Ex.leaf x,l) else if kids x.op=1 then (match pt n l with | some p=>some (Ex.un x p.1,p.2) | none=>none)
   else if kids x.op=2 then (match pt n l with | some p=>(match pt n p.2 with | some q=>some (Ex.bin x p.1 q.1,q.2) | none=>none) | none=>none) else none)=some (t,r):=h
  split at h
  ·rename_i hk; cases h; exact ⟨hk,rfl⟩
  ·split at h
   ·rename_i hk
    cases ha:pt n l with
    | none=>rw [ha] at h; cases h
    | some p=>
     rw [ha] at h
     obtain ⟨a,m⟩:=p
     cases h
     obtain ⟨h1,rfl⟩:=z8 n l a _ ha
     exact ⟨⟨hk,h1⟩,rfl⟩
   ·split at h
    ·rename_i hk
     cases ha:pt n l with
     | none=>rw [ha] at h; cases h
     | some p=>
      rw [ha] at h
      obtain ⟨a,m⟩:=p
      simp only [] at h
      cases hb:pt n m with
      | none=>rw [hb] at h; cases h
      | some q=>
       rw [hb] at h
       obtain ⟨b,m'⟩:=q
       cases h
       obtain ⟨h1,rfl⟩:=z8 n l a _ ha
       obtain ⟨h2,rfl⟩:=z8 n m b _ hb
       exact ⟨⟨hk,h1,h2⟩,by simp [Ex.flat]⟩
    ·cases h
theorem yS {l:List dC} {t:Ex} (h:yR l=some t):t.wf∧l=t.flat:=by
 unfold yR at h
 cases hp:pt l.length l with
 | none=>rw [hp] at h; cases h
 | some p=>
  rw [hp] at h
  obtain ⟨a,r⟩:=p
  simp only [] at h
  split at h
  ·rename_i hr; cases h
   obtain ⟨h1,h2⟩:=z8 _ _ _ _ hp
   subst hr
   exact ⟨h1,by simpa using h2⟩
  ·cases h
theorem KY {l:List dC}:(yR l).isSome=decide (vd l 0=l.length):=by
 by_cases h:vd l 0=l.length
 ·obtain ⟨t,ht⟩:=JI.of (xs:=l) (i:=0) (by omega)
  rw [(ht.zero h).2,decide_eq_true h]; rfl
 ·rw [decide_eq_false h]
  cases he:yR l with
  | none=>rfl
  | some t=>
   obtain ⟨h1,rfl⟩:=yS he
   exact absurd (by have:=(show JI t.flat 0 t from ⟨by omega,h1,[],by simp⟩).end.1; rw [this,Ex.cR]; omega) h
def oY (x:dC):Bool:=decide (x.at_<0∨4000<x.at_) || decide (¬ x.op=1∧¬ x.n=0) || decide (¬ x.op=2∧¬ x.name=⟨#[]⟩) || decide (x.n<0∨4294967296<x.n) || (decide (x.op=2) && !j4 x.name)
def af2 (l:List dC):Int:=match yR l with | some t=>t.depth | none=>0
def jI (l:List dC):Bool:=decide (l.length≤40) && (yR l).isSome && !l.any oY && decide (af2 l≤12)
def NI (ns:List ByteArray) (l:List dC):List nx:=match yR l with | some t=>t.steps ns | none=>[]
def yu (ns:List ByteArray) (l:List dC):Int:=if jI l=false then 8 else if l.any (λ x=>decide (x.op=2) && decide (dQ ns x.name<0)) then 9 else 0
def gg (ns:List ByteArray) (l:List dC):List nx:=if yu ns l=0 then NI ns l else []
theorem NJ {l:List dC} (h:jI l=true):vd l 0=l.length:=by
 unfold jI at h
 rw [KY] at h
 grind
theorem C162 (lv:Value) (xs:List dC) (i:Int) (t:Ex) (N:Nat) (w:World) (hL:eE (λ _=>True) w lv xs) (hn:xs.length≤1048576) (hT:JI xs i t) (hN:t.size<N):CR 162 [lv,.int .i64 i] w (λ v w'=>v = .int .i64 t.depth∧Ext w w'):=by
 obtain ⟨GU,hq,F5⟩:∃ e,e=t.root∧xs[(i).toNat]? = some e:=⟨_,rfl,hT.root.1⟩;have hri:=hT.root.2;have hie:=hT.end;have Vs:=Ex.KX hT.2.1;rw [← hq] at Vs;have hkb:=II GU.op;have hi0:=hT.1;have hs:=St.start w;refine aal _ _ _ _ ?_;unfold S162;refine aO (by omega) ?_;refine ⟨λ m n a x w1=>∃ k:Nat,n = .int .i64 (Eh t.gy k)∧a = .int .i64 (i+1+z7 t.gy k)∧x = .int .i64 (k:Int)∧m=t.gy.length - k∧k≤t.gy.length∧St w bD [] w1,⟨_,0,rfl,congrArg (Value.int .i64) (by simp [z7]),rfl,rfl,by omega,hs⟩,?_⟩;rintro m _ _ _ w1 ⟨k,rfl,rfl,rfl,rfl,hk,hs⟩ fz;have hdk:=Vt (ks:=t.gy) (N:=(t.size:Int)) (by omega) (λ a ha=>by have:=(Ex.IJ hT.2.1 ha).2; have:=a.z6; omega) k
 refine aQ lV (hL.ext hs.aE) (by omega) F5 (λ _ KU=>bT (GU).op jn KU rfl rfl (λ _ iS=>aD bN (iS) (aZ PQ hs (C163 _ _) (λ w2 he hs=>aR (aC (λ mc=>?_) (λ mc=>?_))))))
 ·obtain ⟨a,IK⟩:∃ a,t.gy[k]? = some a:=⟨_,List.getElem?_eq_getElem (by omega)⟩;have hka:=Ex.IJ hT.2.1 (List.mem_of_getElem? IK);have hAk:=hT.kid IK;have hen:=hAk.end;have hdb:=a.z6;refine aZ Uz hs (C162 _ _ _ _ (N - 1) _ (hL.ext hs.aE) hn hAk (by omega)) (λ w3 he hs=>xo (aZ PO hs (C160 _ _ _ ((xs).length+1) _ (hL.ext hs.aE) (by omega) (by omega) (by omega)) (λ w4 he hs=>aO (by omega) ?_)));exact ⟨_,by omega,k+1,by rw [GX IK],congrArg (Value.int .i64) (by rw [hen.1,GW IK]; omega),rfl,rfl,by omega,hs⟩
 ·refine aO (by omega) ?_;exact ⟨congrArg (Value.int .i64) (by rw [t.Vu,show k=t.gy.length from by omega]),hs.aE⟩
termination_by N
decreasing_by omega
theorem C105 (lv:Value) (xs:List dC) (w:World) (hL:eE (λ _=>True) w lv xs) (hn:xs.length≤1048576) (hnm:∀ x∈xs,x.name.size≤1048576):CR 105 [lv] w (λ v w'=>v = .bool (jI xs)∧Ext w w'):=by
 have hs:=St.start w;refine ZF _ _ _ ?_;unfold S105;refine ⟨λ jv w'=>jv = .bool (decide (40<xs.length) || decide (¬ vd xs 0=xs.length))∧St w bD [] w',?_,?_⟩
 ·refine aK lV (hL.ext hs.aE) (dD (aC (λ iV=>?_) (λ iV=>?_)))
  ·exact ⟨vb (by grind),hs⟩
  ·refine aZ PO hs (C160 _ _ _ ((xs).length+1) _ (hL.ext hs.aE) (by omega) (by omega) (by omega)) (λ w1 he hs=>aK lV (hL.ext hs.aE) (cO ?_));exact ⟨vb (by grind),hs⟩
 ·rintro _ w2 ⟨rfl,hs⟩ fz;refine aY (λ gI=>?_) (λ gI=>?_)
  ·refine ⟨vb ?_,hs.aE⟩;unfold jI;rw [KY]
   grind
  ·refine ⟨λ m x w1=>∃ k:Nat,x = .int .i64 (k:Int)∧m=xs.length - k∧k≤xs.length∧(∀ y∈xs.take k,oY y=false)∧St w bD [] w1,⟨_,0,rfl,rfl,Nat.zero_le _,by simp,hs⟩,?_⟩;rintro m _ w3 ⟨k,rfl,rfl,hk,fS,hs⟩ jB;refine aK lV (hL.ext hs.aE) (aR (aC (λ gd=>?_) (λ gd=>?_)))
   ·obtain ⟨pW,iW⟩:=gx (xs) (i:=((k:Int)).toNat) (by omega);refine aQ lV (hL.ext hs.aE) (by omega) iW (λ _ ox=>aD Ku (ox) (aJ hs Qk (λ CB w4 hs=>aI (x:=pW) hs Ku rfl rfl (λ w5 hs=>?_))));refine ⟨λ jv w'=>jv = .bool (oY pW)∧St w bD [] w',?_,?_⟩
    ·refine aA DN (aB bN hs.hb rfl (aR (aC (λ gh=>?_) (λ gh=>?_))))
     ·exact ⟨vb (by unfold oY; grind),hs.drop⟩
     ·refine aA DN (aB bN hs.hb rfl (dD (aC (λ lQ=>?_) (λ lQ=>?_))))
      ·exact ⟨vb (by unfold oY; grind),hs.drop⟩
      ·refine aA jn (aB bN hs.hb rfl (cO (aC (λ lx=>?_) (λ lx=>?_))))
       ·refine aA m4 (aB bN hs.hb rfl (cO (aC (λ qB=>?_) (λ qB=>?_))))
        ·exact ⟨vb (by unfold oY; grind),hs.drop⟩
        ·refine aA jn (aB bN hs.hb rfl (cO (aC (λ sD=>?_) (λ sD=>?_))))
         ·refine aA lh (aB ke hs.hb rfl (oW (aC (λ pX=>?_) (λ pX=>?_))))
          ·exact ⟨vb (by unfold oY; grind),hs.drop⟩
          ·refine aA m4 (aB bN hs.hb rfl (aR (aC (λ Vw=>?_) (λ Vw=>?_))))
           ·exact ⟨vb (by unfold oY; grind),hs.drop⟩
           ·refine aA m4 (aB bN hs.hb rfl (dD (aC (λ kz=>?_) (λ kz=>?_))))
            ·exact ⟨vb (by unfold oY; grind),hs.drop⟩
            ·refine aA jn (aB bN hs.hb rfl (aH (aC (λ KZ=>?_) (λ KZ=>?_))))
             ·refine aA lh (aB ke hs.hb rfl (aZ tO hs (C161 _ _ (hnm _ (List.mem_of_getElem? iW))) (λ w6 he hs=>bZ ?_)));exact ⟨vb (by unfold oY; grind),hs.drop⟩
             ·exact ⟨vb (by unfold oY; grind),hs.drop⟩
         ·refine aA m4 (aB bN hs.hb rfl (aR (aC (λ IL=>?_) (λ IL=>?_))))
          ·exact ⟨vb (by unfold oY; grind),hs.drop⟩
          ·refine aA m4 (aB bN hs.hb rfl (dD (aC (λ acu=>?_) (λ acu=>?_))))
           ·exact ⟨vb (by unfold oY; grind),hs.drop⟩
           ·refine aA jn (aB bN hs.hb rfl (aH (aC (λ acv=>?_) (λ acv=>?_))))
            ·refine aA lh (aB ke hs.hb rfl (aZ tO hs (C161 _ _ (hnm _ (List.mem_of_getElem? iW))) (λ w7 he hs=>bZ ?_)));exact ⟨vb (by unfold oY; grind),hs.drop⟩
            ·exact ⟨vb (by unfold oY; grind),hs.drop⟩
       ·refine aA jn (aB bN hs.hb rfl (cO (aC (λ acw=>?_) (λ acw=>?_))))
        ·refine aA lh (aB ke hs.hb rfl (oW (aC (λ acx=>?_) (λ acx=>?_))))
         ·exact ⟨vb (by unfold oY; grind),hs.drop⟩
         ·refine aA m4 (aB bN hs.hb rfl (aR (aC (λ acy=>?_) (λ acy=>?_))))
          ·exact ⟨vb (by unfold oY; grind),hs.drop⟩
          ·refine aA m4 (aB bN hs.hb rfl (dD (aC (λ acz=>?_) (λ acz=>?_))))
           ·exact ⟨vb (by unfold oY; grind),hs.drop⟩
           ·refine aA jn (aB bN hs.hb rfl (aH (aC (λ acA=>?_) (λ acA=>?_))))
            ·refine aA lh (aB ke hs.hb rfl (aZ tO hs (C161 _ _ (hnm _ (List.mem_of_getElem? iW))) (λ w8 he hs=>bZ ?_)));exact ⟨vb (by unfold oY; grind),hs.drop⟩
            ·exact ⟨vb (by unfold oY; grind),hs.drop⟩
        ·refine aA m4 (aB bN hs.hb rfl (aR (aC (λ acB=>?_) (λ acB=>?_))))
         ·exact ⟨vb (by unfold oY; grind),hs.drop⟩
         ·refine aA m4 (aB bN hs.hb rfl (dD (aC (λ acC=>?_) (λ acC=>?_))))
          ·exact ⟨vb (by unfold oY; grind),hs.drop⟩
          ·refine aA jn (aB bN hs.hb rfl (aH (aC (λ acD=>?_) (λ acD=>?_))))
           ·refine aA lh (aB ke hs.hb rfl (aZ tO hs (C161 _ _ (hnm _ (List.mem_of_getElem? iW))) (λ w9 he hs=>bZ ?_)));exact ⟨vb (by unfold oY; grind),hs.drop⟩
           ·exact ⟨vb (by unfold oY; grind),hs.drop⟩
    ·rintro _ pP ⟨rfl,hs⟩ oN;refine aY (λ La=>?_) (λ La=>?_)
     ·refine ⟨vb ?_,hs.aE⟩;unfold jI;rw [jH iW La]; simp
     ·refine aO (by omega) ?_;exact ⟨_,by omega,k+1,rfl,rfl,by omega,eH fS iW La,hs⟩
   ·have QA:vd xs 0=xs.length:=by grind
    have h40:xs.length≤40:=by grind
    obtain ⟨t,ht⟩:=JI.of (xs:=xs) (i:=0) (by omega);have hz:=ht.zero QA;refine aZ Uz hs (C162 _ _ _ t (t.size+1) _ (hL.ext hs.aE) hn ht (by omega)) (λ sB he hs=>j9 ?_);rw [List.take_of_length_le (by omega)] at fS;refine ⟨vb ?_,hs.aE⟩;unfold jI af2;rw [iM fS,hz.2];simp [h40]
theorem C106 (lv nv:Value) (xs:List dC) (ns:List ByteArray) (i:Int) (t:Ex) (N:Nat) (w:World) (hL:eE (λ _=>True) w lv xs) (hN:eE (λ _=>True) w nv ns) (hn:xs.length≤1048576) (hns:ns.length≤1048576) (hT:JI xs i t) (hNt:t.size<N):CR 106 [lv,.int .i64 i,nv] w (λ v w'=>lW (bK v (t.steps ns)) w w'):=by
 obtain ⟨GU,hq,F5⟩:∃ e,e=t.root∧xs[(i).toNat]? = some e:=⟨_,rfl,hT.root.1⟩;have hri:=hT.root.2;have hie:=hT.end;have Vs:=Ex.KX hT.2.1;rw [← hq] at Vs;have hkb:=II GU.op;have hi0:=hT.1;have hs:=St.start w;refine ZG _ _ _ _ _ ?_;unfold S106;refine bX (([]:List nx)) hs vN rfl rfl (eL rfl) (λ afY w1 hs=>aO (by omega) ?_);refine ⟨λ m R5 a x w1=>∃ k:Nat,a = .int .i64 (i+1+z7 t.gy k)∧x = .int .i64 (k:Int)∧m=t.gy.length - k∧k≤t.gy.length∧St w bD [bK R5 (stK ns t.gy k)] w1,⟨_,0,congrArg (Value.int .i64) (by simp [z7]),rfl,rfl,by omega,hs⟩,?_⟩;rintro m R5 _ _ w2 ⟨k,rfl,rfl,rfl,hk,hs⟩ fz
 refine aQ lV (hL.ext hs.aE) (by omega) F5 (λ _ KV=>bT (GU).op jn KV rfl rfl (λ _ wx=>aD bN (wx) (aZ PQ hs (C163 _ _) (λ w3 he hs=>aR (aC (λ gv=>?_) (λ gv=>?_))))))
 ·obtain ⟨a,IK⟩:∃ a,t.gy[k]? = some a:=⟨_,List.getElem?_eq_getElem (by omega)⟩;have hka:=Ex.IJ hT.2.1 (List.mem_of_getElem? IK);have hAk:=hT.kid IK;have hen:=hAk.end;have hdb:=a.z6;have hsl:=Qz (ns:=ns) (ks:=t.gy) (k:=k);have hal:=Ex.xt ns a;refine cZ afc hs (C106 _ _ _ _ _ _ (N - 1) _ (hL.ext hs.aE) (hN.ext hs.aE) hn hns hAk (by omega)) (λ x28 w4 bV hs=>?_);have ai1:=(hs).fB;refine cP hs.p1 vN ai1 (by omega) (by decide) (λ af4 w5 hs=>have hs:=hs.p1.drop;aZ PO hs (C160 _ _ _ ((xs).length+1) _ (hL.ext hs.aE) (by omega) (by omega) (by omega)) (λ w6 he hs=>aO (by omega) ?_));exact ⟨_,by omega,k+1,congrArg (Value.int .i64) (by rw [hen.1,GW IK]; omega),rfl,rfl,by omega,by rw [Vv IK]; exact hs⟩
 ·have hsl:=Qz (ns:=ns) (ks:=t.gy) (k:=k);refine aQ lV (hL.ext hs.aE) (by omega) F5 (λ _ z9=>bT (GU).n m4 z9 rfl rfl (λ _ ui=>aD bN (ui) ?_));refine ⟨λ jv w'=>jv = .int .i64 (Ex.numOf ns GU)∧St w bD [bK R5 (stK ns t.gy k)] w',?_,?_⟩
  ·refine aQ lV (hL.ext hs.aE) (by omega) F5 (λ _ Vx=>bT (GU).op jn Vx rfl rfl (λ _ Ej=>aD bN (Ej) (aH (aC (λ uj=>?_) (λ uj=>?_)))))
   ·refine aQ lV (hL.ext hs.aE) (by omega) F5 (λ _ sF=>bT (GU).name lh sF rfl rfl (λ _ Vy=>aD ke (Vy) (aZ Bc hs (C98 _ ns _ _ (hN.ext hs.aE) (by omega)) (λ w7 he hs=>?_))));exact ⟨congrArg (Value.int .i64) (by grind [Ex.numOf]),hs⟩
   ·exact ⟨congrArg (Value.int .i64) (by grind [Ex.numOf]),hs⟩
  ·rintro _ w8 ⟨rfl,hs⟩ jB;refine aQ lV (hL.ext hs.aE) (by omega) F5 (λ _ Vz=>bT (GU).op jn Vz rfl rfl (λ _ Ec=>aD bN (Ec) (pop (Nt _ _) (bX ([(⟨(GU).op,(Ex.numOf ns GU)⟩:nx)]) hs vN rfl rfl (eL rfl) (λ s_x59 w9 hs=>?_)))));have ai2:=(hs).fB;refine cP hs.p1 vN ai2 (by rw [hsl,List.length_singleton]; have:(t.steps ns).length=t.size:=Ex.xt ns t; rw [Ex.Ei,List.length_append,List.length_singleton,← show k=t.gy.length from by omega] at this; omega) (by decide) (λ apn pP hs=>?_);have hs:=hs.p1.drop;rw [Ex.Ei,← show k=t.gy.length from by omega,← hq]
   exact hs.fresh
termination_by N
decreasing_by omega
theorem C45 (lv nv:Value) (xs:List dC) (ns:List ByteArray) (w:World) (hL:eE (λ _=>True) w lv xs) (hN:eE (λ _=>True) w nv ns) (hn:xs.length≤1048576) (hns:ns.length≤1048576) (hnm:∀ x∈xs,x.name.size≤1048576):CR 45 [lv,nv] w (λ v w'=>∃ s,v = .tuple #[s,.int .i64 (yu ns xs)]∧lW (bK s (gg ns xs)) w w'):=by
 have hs:=St.start w;refine ahV _ _ _ _ ?_;unfold S45;refine aZ Kb hs (C105 _ _ _ (hL.ext hs.aE) hn hnm) (λ w1 he hs=>bZ (aY (λ gw=>?_) (λ gw=>?_)))
 ·have h8:yu ns xs=8:=by unfold yu; rw [if_pos (by simpa using gw)]
  refine ⟨_,by rw [h8],?_⟩;unfold gg;rw [h8,if_neg (by decide)];exact (hs.fU (α:=nx)).fresh
 ·refine ⟨λ m x w1=>∃ k:Nat,x = .int .i64 (k:Int)∧m=xs.length - k∧k≤xs.length∧(∀ y∈xs.take k,(decide (y.op=2) && decide (dQ ns y.name<0))=false)∧St w bD [] w1,⟨_,0,rfl,rfl,Nat.zero_le _,by simp,hs⟩,?_⟩;rintro m _ w2 ⟨k,rfl,rfl,hk,fS,hs⟩ fz;refine aK lV (hL.ext hs.aE) (aR (aC (λ kM=>?_) (λ kM=>?_)))
  ·obtain ⟨rA,jt⟩:∃ xx,(xs)[((k:Int)).toNat]? = some xx:=⟨_,List.getElem?_eq_getElem (by omega)⟩;refine ⟨λ jv w'=>jv = .bool (decide (rA.op=2) && decide (dQ ns rA.name<0))∧St w bD [] w',?_,?_⟩
   ·refine aQ lV (hL.ext hs.aE) (by omega) jt (λ _ wx=>bT (rA).op jn wx rfl rfl (λ _ ju=>aD bN (ju) (aH (aC (λ gv=>?_) (λ gv=>?_)))))
    ·refine aQ lV (hL.ext hs.aE) (by omega) jt (λ _ rB=>bT (rA).name lh rB rfl rfl (λ _ wy=>aD ke (wy) (aZ Bc hs (C98 _ ns _ _ (hN.ext hs.aE) (by omega)) (λ w3 he hs=>aR ?_))));exact ⟨vb (by grind),hs⟩
    ·exact ⟨vb (by grind),hs⟩
   ·rintro _ w4 ⟨rfl,hs⟩ jB;refine aY (λ lQ=>?_) (λ lQ=>?_)
    ·have h9:yu ns xs=9:=by unfold yu; rw [if_neg (by simpa using gw),if_pos (jH jt lQ)]
     refine ⟨_,by rw [h9],?_⟩;unfold gg;rw [h9,if_neg (by decide)];exact (hs.fU (α:=nx)).fresh
    ·refine aO (by omega) ?_;exact ⟨_,by omega,k+1,rfl,rfl,by omega,eH fS jt lQ,hs⟩
  ·have hre:jI xs=true:=by simpa using gw
   have QA:=NJ hre;obtain ⟨t,ht⟩:=JI.of (xs:=xs) (i:=0) (by omega);have hz:=ht.zero QA;refine cZ afc hs (C106 _ _ _ _ _ t (t.size+1) _ (hL.ext hs.aE) (hN.ext hs.aE) hn hns ht (by omega)) (λ x34 w5 bV hs=>?_);rw [List.take_of_length_le (by omega)] at fS;have h0:yu ns xs=0:=by unfold yu; rw [if_neg (by simpa using gw),if_neg (by rw [iM fS]; simp)]
   refine ⟨x34,by rw [h0],?_⟩;unfold gg NI;rw [if_pos h0,hz.2];exact hs.fresh
inductive Bk where
 | nil
 | cons (x:cG) (a b r:Bk)
namespace Bk
def flat:Bk→List cG | nil=>[] | cons x a b r=>x::(a.flat++(b.flat++r.flat))
def len:Bk→Nat | nil=>0 | cons _ a b r=>a.len+b.len+r.len+1
def str:Bk→Prop | nil=>True | cons x a b r=>x.body=a.len∧x.fJ=b.len∧a.len≤40∧b.len≤40∧a.str∧b.str∧r.str
def B8 (x:cG) (loops:Int):Int:=if x.kind=12 then loops+1 else loops
def Ek (x:cG):Bool:=decide (x.kind=11∨x.kind=12)
def zs (x:cG) (loops:Int):Bool:=decide ((x.body≤0∨x.kind=11∨x.kind=12)∧(x.fJ≤0∨x.kind=11)∧(¬ x.kind=13∨¬ loops=0))
def ok:Bk→Int→Bool | nil,_=>true | cons x a b r,n=>zs x n && a.ok (B8 x n) && b.ok (B8 x n) && r.ok n
def depth:Bk→Int | nil=>0 | cons x a b r=>if Ek x then max (max (1+a.depth) (1+b.depth)) r.depth else r.depth
end Bk
theorem Bk.cR (t:Bk):t.flat.length=t.len:=by
 induction t with
 | nil=>rfl
 | cons x a b r vO xY GY=>simp only [Bk.flat,Bk.len,List.length_cons,List.length_append,vO,xY,GY]; omega
theorem Bk.rC (t:Bk):0≤t.depth∧t.depth≤t.len:=by
 induction t with
 | nil=>simp [Bk.depth,Bk.len]
 | cons x a b r vO xY GY=>
  unfold Bk.depth Bk.len
  split <;> omega
def TR:Nat→List cG→Option Bk
 | _,[]=>some .nil
 | 0,_::_=>none
 | n+1,x::l=>
  if 0≤x.body∧0≤x.fJ∧x.body≤40∧x.fJ≤40∧x.body+x.fJ≤l.length then
   match TR n (l.take x.body.toNat),TR n ((l.drop x.body.toNat).take x.fJ.toNat),TR n (l.drop (x.body.toNat+x.fJ.toNat)) with
   | some a,some b,some r=>some (.cons x a b r)
   | _,_,_=>none
  else none
theorem xu:∀ n l t,TR n l=some t→l=t.flat∧t.str
 | _,[],t,h=>by
  have h:some Bk.nil=some t:=by unfold TR at h; exact h
  cases h; exact ⟨rfl,trivial⟩
 | 0,x::l,t,h=>by cases h
 | n+1,x::l,t,h=>by
  unfold TR at h
  split at h
  ·rename_i hb
   obtain ⟨h1,h2,h3,h4,h5⟩:=hb
   cases ha:TR n (l.take x.body.toNat) with
   | none=>rw [ha] at h; cases h
   | some a=>
    cases hb:TR n ((l.drop x.body.toNat).take x.fJ.toNat) with
    | none=>rw [ha,hb] at h; cases h
    | some b=>
     cases hr:TR n (l.drop (x.body.toNat+x.fJ.toNat)) with
     | none=>rw [ha,hb,hr] at h; cases h
     | some r=>
      rw [ha,hb,hr] at h
      cases h
      obtain ⟨a1,a2⟩:=xu n _ _ ha
      obtain ⟨b1,b2⟩:=xu n _ _ hb
      obtain ⟨r1,r2⟩:=xu n _ _ hr
      have la:=congrArg List.length a1
      have lb:=congrArg List.length b1
      rw [Bk.cR,List.length_take] at la
      rw [Bk.cR,List.length_take,List.length_drop] at lb
      refine ⟨?_,by omega,by omega,by omega,by omega,a2,b2,r2⟩
      unfold Bk.flat
      rw [← a1,← b1,← r1,← List.drop_drop,List.take_append_drop,List.take_append_drop]
  ·cases h
theorem VA (t:Bk):t.str→∀ n,t.len≤n→TR n t.flat=some t:=by
 induction t with
 | nil=>intro _ n _; cases n <;> rfl
 | cons x a b r vO xY GY=>
  intro h n hn
  obtain ⟨h1,h2,h3,h4,ha,hb,hr⟩:=h
  cases n with
  | zero=>simp [Bk.len] at hn
  | succ n=>
   have hn:a.len+b.len+r.len≤n:=by simp [Bk.len] at hn; omega
   have la:=a.cR
   have lb:=b.cR
   unfold Bk.flat TR
   rw [if_pos ⟨by omega,by omega,by omega,by omega,by simp [la,lb]; omega⟩,show x.body.toNat=a.flat.length from by omega,List.take_left,List.drop_left,show x.fJ.toNat=b.flat.length from by omega,List.take_left,← List.drop_drop,List.drop_left,List.drop_left,
    vO ha n (by omega),xY hb n (by omega),GY hr n (by omega)]
def oZ (l:List cG):Option Bk:=TR l.length l
theorem nz {l:List cG} {t:Bk} (h:oZ l=some t):l=t.flat∧t.str:=xu _ _ _ h
theorem o0 {t:Bk} (h:t.str):oZ t.flat=some t:=VA t h _ (by rw [Bk.cR]; exact Nat.le_refl _)
def gD (l:List cG) (loops:Int):Int:=match oZ l with | some t=>if t.ok loops then t.depth else -1 | none=>-1
theorem GZ (loops:Int):gD [] loops=0:=rfl
theorem C0 (l:List cG) (loops:Int) : -1≤gD l loops∧gD l loops≤l.length:=by
 unfold gD
 cases h:oZ l with
 | none=>simp only []; omega
 | some t=>
  obtain ⟨rfl,_⟩:=nz h
  have:=t.rC
  simp only [Bk.cR]
  split <;> omega
def Aa (x:cG) (l:List cG):Prop:=0≤x.body∧0≤x.fJ∧x.body≤40∧x.fJ≤40∧x.body+x.fJ≤l.length
theorem Sq {x:cG} {l:List cG} {loops:Int} (h:¬ (Aa x l∧Bk.zs x loops=true)):gD (x::l) loops = -1:=by
 unfold gD
 cases hb:oZ (x::l) with
 | none=>rfl
 | some t=>
  obtain ⟨he,hs⟩:=nz hb
  cases t with
  | nil=>cases he
  | cons y a b r=>
   obtain ⟨rfl,rfl⟩:=List.cons.inj he
   obtain ⟨h1,h2,h3,h4,_⟩:=hs
   have:Bk.zs x loops=false:=by
    cases hk:Bk.zs x loops with
    | false=>rfl
    | true=>exact absurd ⟨⟨by omega,by omega,by omega,by omega,by simp [Bk.cR]; omega⟩,hk⟩ h
   have h:(Bk.cons x a b r).ok loops=false:=by unfold Bk.ok; rw [this]; rfl
   simp only [h]; rfl
theorem El {x:cG} {l:List cG} {loops:Int} (h:Aa x l) (ho:Bk.zs x loops=true) :
  gD (x::l) loops=(let A:=gD (l.take x.body.toNat) (Bk.B8 x loops); let B:=gD ((l.drop x.body.toNat).take x.fJ.toNat) (Bk.B8 x loops); let R:=gD (l.drop (x.body.toNat+x.fJ.toNat)) loops
   if A<0∨B<0∨R<0 then -1 else if Bk.Ek x then max (max (1+A) (1+B)) R else R):=by
 obtain ⟨h1,h2,h3,h4,h5⟩:=h
 have e:l=l.take x.body.toNat++((l.drop x.body.toNat).take x.fJ.toNat++l.drop (x.body.toNat+x.fJ.toNat)):=by
  rw [← List.drop_drop,List.take_append_drop,List.take_append_drop]
 have la:(l.take x.body.toNat).length=x.body.toNat:=by rw [List.length_take]; omega
 have lb:((l.drop x.body.toNat).take x.fJ.toNat).length=x.fJ.toNat:=by rw [List.length_take,List.length_drop]; omega
 simp only []
 have key:∀ t,oZ (x::l)=some t→∃ a b r,t = .cons x a b r∧oZ (l.take x.body.toNat)=some a∧oZ ((l.drop x.body.toNat).take x.fJ.toNat)=some b∧oZ (l.drop (x.body.toNat+x.fJ.toNat))=some r:=by
  intro t ht
  obtain ⟨he,hs⟩:=nz ht
  cases t with
  | nil=>cases he
  | cons y a b r=>
   obtain ⟨rfl,hl⟩:=List.cons.inj he
   obtain ⟨g1,g2,_,_,ha,hb,hr⟩:=hs
   have q1:x.body.toNat=a.flat.length:=by rw [Bk.cR]; omega
   have q2:x.fJ.toNat=b.flat.length:=by rw [Bk.cR]; omega
   refine ⟨a,b,r,rfl,?_,?_,?_⟩
   ·rw [hl,q1,List.take_left]; exact o0 ha
   ·rw [hl,q1,q2,List.drop_left,List.take_left]; exact o0 hb
   ·rw [hl,← List.drop_drop,q1,q2,List.drop_left,List.drop_left]; exact o0 hr
 cases ha:oZ (l.take x.body.toNat) with
 | none=>
  have:oZ (x::l)=none:=by
   cases hh:oZ (x::l) with
   | none=>rfl
   | some t=>obtain ⟨a,b,r,_,q,_⟩:=key t hh; rw [ha] at q; cases q
  unfold gD; rw [this,ha]; simp
 | some a=>
  cases hb:oZ ((l.drop x.body.toNat).take x.fJ.toNat) with
  | none=>
   have:oZ (x::l)=none:=by
    cases hh:oZ (x::l) with
    | none=>rfl
    | some t=>obtain ⟨a,b,r,_,_,q,_⟩:=key t hh; rw [hb] at q; cases q
   unfold gD; rw [this,hb]; simp
  | some b=>
   cases hr:oZ (l.drop (x.body.toNat+x.fJ.toNat)) with
   | none=>
    have:oZ (x::l)=none:=by
     cases hh:oZ (x::l) with
     | none=>rfl
     | some t=>obtain ⟨a,b,r,_,_,_,q⟩:=key t hh; rw [hr] at q; cases q
    unfold gD; rw [this,hr]; simp
   | some r=>
    obtain ⟨a1,a2⟩:=nz ha
    obtain ⟨b1,b2⟩:=nz hb
    obtain ⟨r1,r2⟩:=nz hr
    have hl:x::l=(Bk.cons x a b r).flat:=by unfold Bk.flat; rw [← a1,← b1,← r1,← e]
    rw [a1,Bk.cR] at la
    rw [b1,Bk.cR] at lb
    have:oZ (x::l)=some (.cons x a b r):=by rw [hl]; exact o0 ⟨by omega,by omega,by omega,by omega,a2,b2,r2⟩
    have na:=a.rC
    have nb:=b.rC
    have nr:=r.rC
    unfold gD
    rw [this,ha,hb,hr]
    simp only [Bk.ok,ho,Bool.true_and]
    cases h1:a.ok (Bk.B8 x loops) <;> cases h2:b.ok (Bk.B8 x loops) <;> cases h3:r.ok loops <;> simp [Bk.depth]
    split <;> omega
def wz (n d:Int):Int:=if d<0 then -1 else max n d
theorem VB {xs l:List cG} {x:cG} {loops n:Int} (h:gD xs loops=wz n (gD (x::l) loops)) (hb:¬ (Aa x l∧Bk.zs x loops=true)):gD xs loops = -1:=by
 rw [h,Sq hb]; rfl
theorem ai3 {xs l:List cG} {x:cG} {loops n:Int} (h:gD xs loops=wz n (gD (x::l) loops)) (hs:Aa x l) (ho:Bk.zs x loops=true) (hb:Bk.Ek x=true) (A B:Int)
  (hA:A=gD (l.take x.body.toNat) (Bk.B8 x loops)) (hB:B=gD ((l.drop x.body.toNat).take x.fJ.toNat) (Bk.B8 x loops)) :
  (A<0∨B<0→gD xs loops = -1)∧(¬ (A<0∨B<0)→gD xs loops=wz (max (max n (1+A)) (1+B)) (gD (l.drop (x.body.toNat+x.fJ.toNat)) loops)):=by
 have hR:=C0 (l.drop (x.body.toNat+x.fJ.toNat)) loops
 rw [h,El hs ho]
 simp only [← hA,← hB,hb,if_true]
 unfold wz
 constructor <;> intro h <;> repeat' split
 all_goals omega
theorem apo {xs l:List cG} {x:cG} {loops n:Int} (h:gD xs loops=wz n (gD (x::l) loops)) (hs:Aa x l) (ho:Bk.zs x loops=true) (hb:Bk.Ek x=false) :
  gD xs loops=wz n (gD (l.drop (x.body.toNat+x.fJ.toNat)) loops):=by
 have h0:x.body=0∧x.fJ=0:=by
  unfold Bk.zs at ho
  unfold Bk.Ek at hb
  obtain ⟨h1,h2,_⟩:=hs
  have ho:=of_decide_eq_true ho
  have hb:=of_decide_eq_false hb
  omega
 rw [h,El hs ho,h0.1,h0.2]
 have e1:l.take (Int.toNat 0)=[]:=rfl
 have e2:(l.drop (Int.toNat 0)).take (Int.toNat 0)=[]:=rfl
 simp only [hb,e1,e2,GZ]
 unfold wz
 repeat' split
 all_goals first | omega | simp_all
theorem drop_cons {α:Type} {xs:List α} {k:Nat} {x:α} (h:xs[k]? = some x):xs.drop k=x::xs.drop (k+1):=by
 obtain ⟨h1,h2⟩:=List.getElem?_eq_some_iff.1 h
 rw [List.drop_eq_getElem_cons h1,h2]
theorem Em {α:Type} (xs:List α) {a b c n:Nat} (h:b=a+n) (hc:c=a):(xs.take b).drop c=(xs.drop a).take n:=by
 subst h hc; rw [List.drop_take,Nat.add_sub_cancel_left]
def acE:List ByteArray:=[⟨#[]⟩,⟨#[114,101]⟩,⟨#[114,110]⟩,⟨#[110,101]⟩,⟨#[114,110,101,102]⟩,⟨#[110]⟩,⟨#[110]⟩,⟨#[]⟩,⟨#[]⟩,⟨#[110]⟩,⟨#[110]⟩,⟨#[101,98]⟩,⟨#[107,98]⟩,⟨#[]⟩,⟨#[101]⟩]
def j8 (k:Int):ByteArray:=if k<1∨14<k then ⟨#[]⟩ else acE.getD k.toNat ⟨#[]⟩
def er (s:ByteArray) (c:Int):Bool:=(lr s).any λ b=>decide ((b.toNat:Int)=c)
def rD (x:cG):Bool:=
 !(decide (x.kind<1) || decide (14<x.kind) || decide (x.at_<0) || decide (4000<x.at_)) &&
 !((er (j8 x.kind) 114 != j4 x.gP) || (!er (j8 x.kind) 114 && decide (¬ x.gP=⟨#[]⟩)) || (er (j8 x.kind) 110 != j4 x.name) || (!er (j8 x.kind) 110 && decide (¬ x.name=⟨#[]⟩))) &&
 !((er (j8 x.kind) 101 != jI x.e) || (!er (j8 x.kind) 101 && decide (0<x.e.length)) || (er (j8 x.kind) 102 != jI x.f) || (!er (j8 x.kind) 102 && decide (0<x.f.length))) &&
 (if er (j8 x.kind) 107=true then decide (1≤x.n∧x.n≤8) else decide (x.n=0))
def ve (l:List cG):Bool:=decide (l.length≤40) && !l.any (λ x=>!rD x) && decide (0≤gD l 0∧gD l 0≤12)
def vf (n:Int):Bool:=decide (0≤n∧n≤4000)
def nk (Lb:Int) (c:dI):Bool:=!j4 c.name || decide (c.n<0) || decide (Lb<c.n) || !vf c.at_
def tg (Lb:Int) (l:List dI):Bool:=!l.any (nk Lb)
def vg (nb:Bool) (t:dS):Bool:=(nb != j4 t.name) || (!nb && decide (¬ t.name=⟨#[]⟩)) || !vf t.at_ || !ve t.body
def wA (nb:Bool) (t:dS):Bool:=vg nb t || t.aN.any (λ s=>!j4 s)
def oy (nb:Bool) (l:List dS):Bool:=!l.any (wA nb)
def xw (l:List dI):Bool:=decide ((l.length:Int)=0) || !tg 4294967296 l
def um (c:jG):Bool:=!vf c.at_ || !jI c.e
def me (p:cW):Bool:=!p.lines.any xw && !p.cC.any um && (tg 4294967296 p.jV && tg 0 p.locks && oy true p.threads && oy false p.recover && decide (p.recover.length≤1))
def SzS (x:cG):Prop:=x.gP.size≤1048576∧x.name.size≤1048576∧x.e.length≤1048576∧x.f.length≤1048576∧(∀ y∈x.e,y.name.size≤1048576)∧(∀ y∈x.f,y.name.size≤1048576)
def SzT (t:dS):Prop:=t.name.size≤1048576∧(∀ s∈t.aN,s.size≤1048576)∧(∀ x∈t.body,SzS x)
structure PZ (p:cW):Prop extends PS p where
 zl:∀ l∈p.lines,∀ c∈l,c.name.size≤1048576
 zv:∀ c∈p.jV,c.name.size≤1048576
 zk:∀ c∈p.locks,c.name.size≤1048576
 zt:∀ t∈p.threads,SzT t
 zr:∀ t∈p.recover,SzT t
 zc:∀ c∈p.cC,c.e.length≤1048576∧∀ y∈c.e,y.name.size≤1048576
theorem En (k:Int):(j8 k).size≤1048576:=by
 unfold j8
 split
 ·decide
 ·rename_i h
  obtain rfl | rfl | rfl | rfl | rfl | rfl | rfl | rfl | rfl | rfl | rfl | rfl | rfl | rfl:k=1∨k=2∨k=3∨k=4∨k=5∨k=6∨k=7∨k=8∨k=9∨k=10∨k=11∨k=12∨k=13∨k=14:=by omega
  all_goals decide
theorem C251 (k:Int) (w:World):CR 251 [.int .i64 k] w (λ v w'=>v = .string (j8 k)∧Ext w w'):=by
 have hs:=St.start w;refine abF _ _ _ ?_;unfold S251;refine ⟨λ jv w'=>jv = .bool (decide (k<1∨14<k))∧w=w',?_,?_⟩
 ·refine aR (aC (λ pU=>?_) (λ pU=>?_))
  ·exact ⟨M9 (by omega),rfl⟩
  ·refine dD ?_;exact ⟨vX (by omega),rfl⟩
 ·rintro _ w1 ⟨rfl,hw⟩ fz;subst hw;refine aC (λ gp=>?_) (λ gp=>?_)
  ·refine ⟨?_,hs.aE⟩;unfold j8;rw [if_pos gp]
  ·refine bX (acE) hs mX rfl rfl (eL rfl) (λ apq w2 hs=>?_);have KW:acE.length=15:=rfl;obtain ⟨af5,wB⟩:=gx (acE) (i:=(k).toNat) (by omega);refine dU hs mX (by omega) (by omega) (λ _ Lc=>gk hs ke Lc wB ?_);refine ⟨?_,hs.aE⟩;unfold j8;rw [if_neg gp,List.getD_eq_getElem?_getD,wB]; rfl
theorem C252 (s:ByteArray) (c:Int) (w:World) (hn:s.size≤1048576):CR 252 [.string s,.int .u8 c] w (λ v w'=>v = .bool (er s c)∧Ext w w'):=by
 have hs:=St.start w;refine abG _ _ _ _ ?_;unfold S252;refine ⟨λ m x w1=>∃ k:Nat,x = .int .i64 (k:Int)∧m=(lr s).length - k∧k≤(lr s).length∧(∀ y∈(lr s).take k,decide ((y.toNat:Int)=c)=false)∧St w bD [] w1,⟨_,0,rfl,rfl,Nat.zero_le _,by simp,hs⟩,?_⟩;rintro m _ w1 ⟨k,rfl,rfl,hk,fS,hs⟩ fz;rw [dZ] at hk;have yQ:=dZ s;refine gb gN (aR (aC (λ gw=>?_) (λ gw=>?_)))
 ·obtain ⟨jr,dG⟩:∃ xx,(lr (s))[((k:Int)).toNat]? = some xx:=⟨_,List.getElem?_eq_getElem (by rw [dZ]; omega)⟩;refine lM gN (by omega) dG (om (aC (λ eF=>?_) (λ eF=>?_)))
  ·exact ⟨vb (jH dG (decide_eq_true eF)).symm,hs.aE⟩
  ·refine aO (by omega) ?_;exact ⟨_,by omega,k+1,rfl,rfl,by omega,eH fS dG (decide_eq_false eF),hs⟩
 ·rw [List.take_of_length_le (by omega)] at fS;exact ⟨vb (iM fS).symm,hs.aE⟩
theorem C230 (x:cG) (xv:bY) (w:World) (hx:cA.dr w xv x) (hz:SzS x):CR 230 [Flat.val xv] w (λ v w'=>v = .bool (rD x)∧Ext w w'):=by
 obtain ⟨Ab,Ac,rfl,Ld,G0⟩:=hx;have hs:=St.start w;refine abi _ _ _ ?_;unfold S230;refine dE hs (λ VC w1 hs=>?_);refine ⟨λ jv w'=>jv = .bool (decide (x.kind<1) || decide (14<x.kind) || decide (x.at_<0) || decide (4000<x.at_))∧St w bD [cE VC (Flat.enc (⟨(x).kind,(x).gP,(x).name,Ab,Ac,(x).n,(x).body,(x).fJ,(x).at_⟩:bY))] w',?_,?_⟩
 ·refine aA fC (aB (v:=.int .i64 ((x).kind)) bN hs.hb rfl (aR (aC (λ fH=>?_) (λ fH=>?_))))
  ·exact ⟨vb (by grind),hs⟩
  ·refine aA fC (aB (v:=.int .i64 ((x).kind)) bN hs.hb rfl (dD (aC (λ gI=>?_) (λ gI=>?_))))
   ·exact ⟨vb (by grind),hs⟩
   ·refine aA ri (aB (v:=.int .i64 ((x).at_)) bN hs.hb rfl (aR (aC (λ fy=>?_) (λ fy=>?_))))
    ·exact ⟨vb (by grind),hs⟩
    ·refine aA ri (aB (v:=.int .i64 ((x).at_)) bN hs.hb rfl (dD ?_));exact ⟨vb (by grind),hs⟩
 ·rintro _ w2 ⟨rfl,hs⟩ fz;refine aY (λ fD=>?_) (λ fD=>?_)
  ·refine ⟨vb ?_,hs.drop.aE⟩;unfold rD;simp only [*]
   first | done | rfl | simp
  ·refine aA fC (aB (v:=.int .i64 ((x).kind)) bN hs.hb rfl (aZ aoC hs (C251 _ _) (λ w3 he hs=>aZ Kh hs (C252 _ _ _ (En _)) (λ w4 he hs=>aZ Kh hs (C252 _ _ _ (En _)) (λ w5 he hs=>aZ Kh hs (C252 _ _ _ (En _)) (λ w6 he hs=>aZ Kh hs (C252 _ _ _ (En _)) (λ w7 he hs=>?_)))))));refine ⟨λ jv w'=>jv = .bool ((er (j8 x.kind) 114 != j4 x.gP) || (!er (j8 x.kind) 114 && decide (¬ x.gP=⟨#[]⟩)) || (er (j8 x.kind) 110 != j4 x.name) || (!er (j8 x.kind) 110 && decide (¬ x.name=⟨#[]⟩)))∧St w bD [cE VC (Flat.enc (⟨(x).kind,(x).gP,(x).name,Ab,Ac,(x).n,(x).body,(x).fJ,(x).at_⟩:bY))] w',?_,?_⟩
   ·refine aA l4 (aB (v:=.string ((x).gP)) ke hs.hb rfl (aZ tO hs (C161 _ _ hz.1) (λ w8 he hs=>pG Kq (aY (λ j3=>?_) (λ j3=>?_)))))
    ·exact ⟨vb (by grind),hs⟩
    ·refine bZ (aY (λ sG=>?_) (λ sG=>?_))
     ·refine aA l4 (aB (v:=.string ((x).gP)) ke hs.hb rfl (oW (aC (λ Ad=>?_) (λ Ad=>?_))))
      ·exact ⟨vb (by grind),hs⟩
      ·refine aA jo (aB (v:=.string ((x).name)) ke hs.hb rfl (aZ tO hs (C161 _ _ hz.2.1) (λ w9 he hs=>pG Kq (aY (λ Vw=>?_) (λ Vw=>?_)))))
       ·exact ⟨vb (by grind),hs⟩
       ·refine bZ (aY (λ GR=>?_) (λ GR=>?_))
        ·refine aA jo (aB (v:=.string ((x).name)) ke hs.hb rfl (oW ?_));exact ⟨vb (by grind),hs⟩
        ·exact ⟨vb (by grind),hs⟩
     ·refine aA jo (aB (v:=.string ((x).name)) ke hs.hb rfl (aZ tO hs (C161 _ _ hz.2.1) (λ pP he hs=>pG Kq (aY (λ IL=>?_) (λ IL=>?_)))))
      ·exact ⟨vb (by grind),hs⟩
      ·refine bZ (aY (λ acF=>?_) (λ acF=>?_))
       ·refine aA jo (aB (v:=.string ((x).name)) ke hs.hb rfl (oW ?_));exact ⟨vb (by grind),hs⟩
       ·exact ⟨vb (by grind),hs⟩
   ·rintro _ sB ⟨rfl,hs⟩ jB;refine aY (λ KZ=>?_) (λ KZ=>?_)
    ·refine ⟨vb ?_,hs.drop.aE⟩;unfold rD;simp only [*]
     first | done | rfl | simp
    ·refine ⟨λ jv w'=>jv = .bool ((er (j8 x.kind) 101 != jI x.e) || (!er (j8 x.kind) 101 && decide (0<x.e.length)) || (er (j8 x.kind) 102 != jI x.f) || (!er (j8 x.kind) 102 && decide (0<x.f.length)))∧St w bD [cE VC (Flat.enc (⟨(x).kind,(x).gP,(x).name,Ab,Ac,(x).n,(x).body,(x).fJ,(x).at_⟩:bY))] w',?_,?_⟩
     ·refine aA l5 (aB mW hs.hb rfl ?_);have hf4:=DL.flat (Ld);refine aZ Kb hs (C105 _ _ _ (hf4.ext hs.aE) hz.2.2.1 hz.2.2.2.2.1) (λ u7 he hs=>pG Kq (aY (λ vC=>?_) (λ vC=>?_)))
      ·exact ⟨vb (by grind),hs⟩
      ·refine bZ (aY (λ VD=>?_) (λ VD=>?_))
       ·refine aA l5 (aB mW hs.hb rfl (aK lV (hf4.ext hs.aE) (dD (aC (λ Le=>?_) (λ Le=>?_)))))
        ·exact ⟨vb (by grind),hs⟩
        ·refine aA oc (aB mW hs.hb rfl ?_);have hf5:=DL.flat (G0);refine aZ Kb hs (C105 _ _ _ (hf5.ext hs.aE) hz.2.2.2.1 hz.2.2.2.2.2) (λ u9 he hs=>pG Kq (aY (λ Ae=>?_) (λ Ae=>?_)))
         ·exact ⟨vb (by grind),hs⟩
         ·refine bZ (aY (λ VE=>?_) (λ VE=>?_))
          ·refine aA oc (aB mW hs.hb rfl (aK lV (hf5.ext hs.aE) (dD ?_)));exact ⟨vb (by grind),hs⟩
          ·exact ⟨vb (by grind),hs⟩
       ·refine aA oc (aB mW hs.hb rfl ?_);have hf6:=DL.flat (G0);refine aZ Kb hs (C105 _ _ _ (hf6.ext hs.aE) hz.2.2.2.1 hz.2.2.2.2.2) (λ r9 he hs=>pG Kq (aY (λ acG=>?_) (λ acG=>?_)))
        ·exact ⟨vb (by grind),hs⟩
        ·refine bZ (aY (λ acH=>?_) (λ acH=>?_))
         ·refine aA oc (aB mW hs.hb rfl (aK lV (hf6.ext hs.aE) (dD ?_)));exact ⟨vb (by grind),hs⟩
         ·exact ⟨vb (by grind),hs⟩
     ·rintro _ vT ⟨rfl,hs⟩ oN;refine aY (λ apr=>?_) (λ apr=>?_)
      ·refine ⟨vb ?_,hs.drop.aE⟩;unfold rD;simp only [*]
       first | done | rfl | simp
      ·refine aZ Kh hs (C252 _ _ _ (En _)) (λ yO he hs=>aY (λ Br=>?_) (λ Br=>?_))
       ·refine ⟨λ jv w'=>jv = .bool (decide (1≤x.n∧x.n≤8))∧St w bD [cE VC (Flat.enc (⟨(x).kind,(x).gP,(x).name,Ab,Ac,(x).n,(x).body,(x).fJ,(x).at_⟩:bY))] w',?_,?_⟩
        ·refine aA tZ (aB (v:=.int .i64 ((x).n)) bN hs.hb rfl (dH (aC (λ ai6=>?_) (λ ai6=>?_))))
         ·refine aA tZ (aB (v:=.int .i64 ((x).n)) bN hs.hb rfl (j9 ?_));exact ⟨vb (by grind),hs⟩
         ·exact ⟨vb (by grind),hs⟩
        ·rintro _ B6 ⟨rfl,hs⟩ F6;refine ⟨vb ?_,hs.drop.aE⟩;unfold rD;simp only [*]
         first | done | rfl | simp
       ·refine aA tZ (aB (v:=.int .i64 ((x).n)) bN hs.hb rfl (aH ?_));refine ⟨vb ?_,hs.drop.aE⟩;unfold rD;simp only [*]
        first | done | rfl | simp
theorem C231 (lv:Value) (xs:List cG) (loops:Int) (N:Nat) (w:World) (hL:DL w lv xs) (hn:xs.length≤1048576) (hlo:0≤loops) (QB:loops+N≤4194304) (hN:xs.length<N):CR 231 [lv,.int .i64 loops] w (λ v w'=>v = .int .i64 (gD xs loops)∧Ext w w'):=by
 have hs:=St.start w;refine abj _ _ _ _ ?_;unfold S231;refine ⟨λ m y x w1=>∃ (k:Nat) (n:Int),y = .int .i64 n∧x = .int .i64 (k:Int)∧m=xs.length - k∧k≤xs.length∧0≤n∧n≤41∧gD xs loops=wz n (gD (xs.drop k) loops)∧St w bD [] w1,⟨_,0,0,rfl,rfl,rfl,by omega,by omega,by omega,by have:=C0 xs loops; rw [List.drop_zero]; unfold wz; split <;> omega,hs⟩,?_⟩;rintro m _ _ w1 ⟨k,n,rfl,rfl,rfl,hk,hn0,Vp,hinv,hs⟩ fz;obtain ⟨ts7,Sr,Y3⟩:=(hL).open;have hn7:=Y3.1;refine aK j7 (Sr.ext hs.aE) (aR (aC (λ js=>?_) (λ js=>?_)))
 ·obtain ⟨rA,jt⟩:=gx ts7 (i:=((k:Int)).toNat) (by omega);obtain ⟨cK,VF⟩:=gx (xs) (i:=((k:Int)).toNat) (by omega);obtain ⟨vh,vi,rfl,aty,atz⟩:=Y3.2 _ _ _ jt VF;refine aQ j7 (Sr.ext hs.aE) (by omega) jt (λ _ wx=>?_);have hdk:=drop_cons (xs:=xs) (k:=k) VF;rw [hdk] at hinv;have hdl:(xs.drop (k+1)).length=xs.length - (k+1):=List.length_drop;refine aD fX (wx) (aJ hs qJ (λ Bs w2 hs=>aI (x:=(⟨(cK).kind,(cK).gP,(cK).name,vh,vi,(cK).n,(cK).body,(cK).fJ,(cK).at_⟩:bY)) hs fX rfl rfl (λ w3 hs=>?_)));refine ⟨λ jv w'=>jv = .bool (decide (cK.body<0) || decide (cK.fJ<0) || decide (40<cK.body) || decide (40<cK.fJ) || decide ((xs.length:Int)<k+1+cK.body+cK.fJ))∧St w bD [cE Bs (Flat.enc (⟨(cK).kind,(cK).gP,(cK).name,vh,vi,(cK).n,(cK).body,(cK).fJ,(cK).at_⟩:bY))] w',?_,?_⟩
  ·refine aA m6 (aB (v:=.int .i64 ((cK).body)) bN hs.hb rfl (aR (aC (λ iu=>?_) (λ iu=>?_))))
   ·exact ⟨vb (by grind),hs⟩
   ·refine aA iQ (aB (v:=.int .i64 ((cK).fJ)) bN hs.hb rfl (aR (aC (λ qC=>?_) (λ qC=>?_))))
    ·exact ⟨vb (by grind),hs⟩
    ·refine aA m6 (aB (v:=.int .i64 ((cK).body)) bN hs.hb rfl (dD (aC (λ lQ=>?_) (λ lQ=>?_))))
     ·exact ⟨vb (by grind),hs⟩
     ·refine aA iQ (aB (v:=.int .i64 ((cK).fJ)) bN hs.hb rfl (dD (aC (λ lx=>?_) (λ lx=>?_))))
      ·exact ⟨vb (by grind),hs⟩
      ·refine aO (by omega) (aA m6 (aB (v:=.int .i64 ((cK).body)) bN hs.hb rfl (aO (by omega) (aA iQ (aB (v:=.int .i64 ((cK).fJ)) bN hs.hb rfl (aO (by omega) (aK j7 (Sr.ext hs.aE) (dD ?_))))))));exact ⟨vb (by grind),hs⟩
  ·rintro _ w4 ⟨rfl,hs⟩ jB;refine aY (λ pX=>?_) (λ pX=>?_)
   ·exact ⟨congrArg (Value.int .i64) (VB hinv (by unfold Aa; grind)).symm,hs.drop.aE⟩
   ·have lF:Aa cK (xs.drop (k+1)):=by unfold Aa; grind
    refine ⟨λ jv w'=>jv = .bool (!Bk.zs cK loops)∧St w bD [cE Bs (Flat.enc (⟨(cK).kind,(cK).gP,(cK).name,vh,vi,(cK).n,(cK).body,(cK).fJ,(cK).at_⟩:bY))] w',?_,?_⟩
    ·refine aA m6 (aB (v:=.int .i64 ((cK).body)) bN hs.hb rfl (dD (aC (λ B9=>?_) (λ B9=>?_))))
     ·refine aA fC (aB (v:=.int .i64 ((cK).kind)) bN hs.hb rfl (cO (aC (λ G3=>?_) (λ G3=>?_))))
      ·refine aA fC (aB (v:=.int .i64 ((cK).kind)) bN hs.hb rfl (cO (aC (λ sH=>?_) (λ sH=>?_))))
       ·exact ⟨vb (by unfold Bk.zs; grind),hs⟩
       ·refine aA iQ (aB (v:=.int .i64 ((cK).fJ)) bN hs.hb rfl (dD (aC (λ oz=>?_) (λ oz=>?_))))
        ·refine aA fC (aB (v:=.int .i64 ((cK).kind)) bN hs.hb rfl (cO (aC (λ vC=>?_) (λ vC=>?_))))
         ·exact ⟨vb (by unfold Bk.zs; grind),hs⟩
         ·refine aA fC (aB (v:=.int .i64 ((cK).kind)) bN hs.hb rfl (aH (aC (λ Lf=>?_) (λ Lf=>?_))))
          ·refine aH ?_;exact ⟨vb (by unfold Bk.zs; grind),hs⟩
          ·exact ⟨vb (by unfold Bk.zs; grind),hs⟩
        ·refine aA fC (aB (v:=.int .i64 ((cK).kind)) bN hs.hb rfl (aH (aC (λ acI=>?_) (λ acI=>?_))))
         ·refine aH ?_;exact ⟨vb (by unfold Bk.zs; grind),hs⟩
         ·exact ⟨vb (by unfold Bk.zs; grind),hs⟩
      ·refine aA iQ (aB (v:=.int .i64 ((cK).fJ)) bN hs.hb rfl (dD (aC (λ acJ=>?_) (λ acJ=>?_))))
       ·refine aA fC (aB (v:=.int .i64 ((cK).kind)) bN hs.hb rfl (cO (aC (λ acK=>?_) (λ acK=>?_))))
        ·exact ⟨vb (by unfold Bk.zs; grind),hs⟩
        ·refine aA fC (aB (v:=.int .i64 ((cK).kind)) bN hs.hb rfl (aH (aC (λ acL=>?_) (λ acL=>?_))))
         ·refine aH ?_;exact ⟨vb (by unfold Bk.zs; grind),hs⟩
         ·exact ⟨vb (by unfold Bk.zs; grind),hs⟩
       ·refine aA fC (aB (v:=.int .i64 ((cK).kind)) bN hs.hb rfl (aH (aC (λ acM=>?_) (λ acM=>?_))))
        ·refine aH ?_;exact ⟨vb (by unfold Bk.zs; grind),hs⟩
        ·exact ⟨vb (by unfold Bk.zs; grind),hs⟩
     ·refine aA iQ (aB (v:=.int .i64 ((cK).fJ)) bN hs.hb rfl (dD (aC (λ acN=>?_) (λ acN=>?_))))
      ·refine aA fC (aB (v:=.int .i64 ((cK).kind)) bN hs.hb rfl (cO (aC (λ acO=>?_) (λ acO=>?_))))
       ·exact ⟨vb (by unfold Bk.zs; grind),hs⟩
       ·refine aA fC (aB (v:=.int .i64 ((cK).kind)) bN hs.hb rfl (aH (aC (λ acP=>?_) (λ acP=>?_))))
        ·refine aH ?_;exact ⟨vb (by unfold Bk.zs; grind),hs⟩
        ·exact ⟨vb (by unfold Bk.zs; grind),hs⟩
      ·refine aA fC (aB (v:=.int .i64 ((cK).kind)) bN hs.hb rfl (aH (aC (λ acQ=>?_) (λ acQ=>?_))))
       ·refine aH ?_;exact ⟨vb (by unfold Bk.zs; grind),hs⟩
       ·exact ⟨vb (by unfold Bk.zs; grind),hs⟩
    ·rintro _ w5 ⟨rfl,hs⟩ oN;refine aY (λ Af=>?_) (λ Af=>?_)
     ·exact ⟨congrArg (Value.int .i64) (VB hinv (by grind)).symm,hs.drop.aE⟩
     ·have nP:Bk.zs cK loops=true:=by grind
      have awG:=lF;unfold Aa at awG;refine aO (by omega) (aA m6 (have hs:=hs.drew;aB (v:=.int .i64 ((cK).body)) bN hs.hb rfl (aO (by omega) ?_)));refine ⟨λ jv w'=>jv = .int .i64 (Bk.B8 cK loops)∧St w bD [cE Bs (Flat.enc (⟨(cK).kind,(cK).gP,(cK).name,vh,vi,(cK).n,(cK).body,(cK).fJ,(cK).at_⟩:bY))] w',?_,?_⟩
      ·refine aA fC (aB (v:=.int .i64 ((cK).kind)) bN hs.hb rfl (aH (aC (λ VE=>?_) (λ VE=>?_))))
       ·refine aO (by omega) ?_;exact ⟨congrArg (Value.int .i64) (by unfold Bk.B8; grind),hs⟩
       ·exact ⟨congrArg (Value.int .i64) (by unfold Bk.B8; grind),hs⟩
      ·rintro _ w6 ⟨rfl,hs⟩ F6;have vB:loops≤Bk.B8 cK loops∧Bk.B8 cK loops≤loops+1:=by unfold Bk.B8; split <;> omega
       refine ⟨λ jv w'=>∃ n':Int,jv = .int .i64 n'∧0≤n'∧n'≤41∧gD xs loops=wz n' (gD (xs.drop (k+1+(cK.body.toNat+cK.fJ.toNat))) loops)∧St w bD [cE Bs (Flat.enc (⟨(cK).kind,(cK).gP,(cK).name,vh,vi,(cK).n,(cK).body,(cK).fJ,(cK).at_⟩:bY))] w',?_,?_⟩
       ·refine ⟨λ jv w'=>jv = .bool (decide (cK.kind=11) || decide (cK.kind=12))∧St w bD [cE Bs (Flat.enc (⟨(cK).kind,(cK).gP,(cK).name,vh,vi,(cK).n,(cK).body,(cK).fJ,(cK).at_⟩:bY))] w',?_,?_⟩
        ·refine aA fC (aB (v:=.int .i64 ((cK).kind)) bN hs.hb rfl (aH (aC (λ apt=>?_) (λ apt=>?_))))
         ·exact ⟨vb (by grind),hs⟩
         ·refine aA fC (aB (v:=.int .i64 ((cK).kind)) bN hs.hb rfl (aH ?_));exact ⟨vb (by grind),hs⟩
        ·rintro _ w7 ⟨rfl,hs⟩ QC;refine aY (λ Eo=>?_) (λ Eo=>?_)
         ·refine aO (by omega) (kx j7 (Sr.ext hs.aE) (by omega) (by omega) (by omega) (λ awH acR=>?_));have acS:=DL.cut acR Sr Y3;refine aA iQ (have hs:=hs.drew;aB (v:=.int .i64 ((cK).fJ)) bN hs.hb rfl (aO (by omega) (kx j7 (Sr.ext hs.aE) (by omega) (by omega) (by omega) (λ awI acT=>?_))));have acU:=DL.cut acT Sr Y3;have hcA:(((xs).take (((k:Int)+1)+(cK).body).toNat).drop ((k:Int)+1).toNat)=(xs.drop (k+1)).take (cK).body.toNat:=Em xs (by omega) (by omega);have hcB:(((xs).take ((((k:Int)+1)+(cK).body)+(cK).fJ).toNat).drop (((k:Int)+1)+(cK).body).toNat)=((xs.drop (k+1)).drop (cK).body.toNat).take (cK).fJ.toNat:=by rw [List.drop_drop]; exact Em xs (by omega) (by omega)
          have hlA:(((xs).take (((k:Int)+1)+(cK).body).toNat).drop ((k:Int)+1).toNat).length≤xs.length - 1∧(((xs).take (((k:Int)+1)+(cK).body).toNat).drop ((k:Int)+1).toNat).length≤40:=by rw [hcA,List.length_take]; omega
          have hlB:(((xs).take ((((k:Int)+1)+(cK).body)+(cK).fJ).toNat).drop (((k:Int)+1)+(cK).body).toNat).length≤xs.length - 1∧(((xs).take ((((k:Int)+1)+(cK).body)+(cK).fJ).toNat).drop (((k:Int)+1)+(cK).body).toNat).length≤40:=by rw [hcB,List.length_take,List.length_drop]; omega
          refine aZ UC hs (C231 _ _ _ (N - 1) _ (acS.ext hs.aE) (by omega) (by omega) (by omega) (by omega)) (λ w8 he hs=>?_);refine ⟨aG bN (hs.hb.cell rfl),?_⟩;refine ed UC (C231 _ _ _ (N - 1) _ (acU.ext hs.aE) (by omega) (by omega) (by omega) (by omega)) ?_;rintro _ w9 ⟨rfl,he⟩;have hs:=hs.ext he;obtain ⟨A,hA⟩:∃ A,A=gD (((xs).take (((k:Int)+1)+(cK).body).toNat).drop ((k:Int)+1).toNat) (Bk.B8 cK loops):=⟨_,rfl⟩;obtain ⟨B,hB⟩:∃ B,B=gD (((xs).take ((((k:Int)+1)+(cK).body)+(cK).fJ).toNat).drop (((k:Int)+1)+(cK).body).toNat) (Bk.B8 cK loops):=⟨_,rfl⟩;have hAb:=C0 (((xs).take (((k:Int)+1)+(cK).body).toNat).drop ((k:Int)+1).toNat) (Bk.B8 cK loops)
          have hBb:=C0 (((xs).take ((((k:Int)+1)+(cK).body)+(cK).fJ).toNat).drop (((k:Int)+1)+(cK).body).toNat) (Bk.B8 cK loops);rw [← hA] at hAb;rw [← hB] at hBb;rw [← hA,← hB];have hdb:=ai3 hinv lF nP (by unfold Bk.Ek; grind) A B (by rw [hA,hcA]) (by rw [hB,hcB]);refine ⟨λ jv w'=>jv = .bool (decide (A<0∨B<0))∧St w bD [cE Bs (Flat.enc (⟨(cK).kind,(cK).gP,(cK).name,vh,vi,(cK).n,(cK).body,(cK).fJ,(cK).at_⟩:bY))] w',?_,?_⟩
          ·refine aR (aC (λ ai8=>?_) (λ ai8=>?_))
           ·exact ⟨vb (by grind),hs⟩
           ·refine aR ?_;exact ⟨vb (by grind),hs⟩
          ·rintro _ pP ⟨rfl,hs⟩ dd6;refine aY (λ NK=>?_) (λ NK=>?_)
           ·exact ⟨congrArg (Value.int .i64) (hdb.1 (of_decide_eq_true NK)).symm,hs.drop.aE⟩
           ·refine aO (by omega) (aO (by omega) (Vc ?_));have apu:=hdb.2 (of_decide_eq_false NK);rw [List.drop_drop] at apu;exact ⟨_,rfl,by omega,by omega,apu,hs⟩
         ·have hdn:=apo hinv lF nP (by unfold Bk.Ek; grind);rw [List.drop_drop] at hdn;exact ⟨_,rfl,hn0,Vp,hdn,hs⟩
       ·rintro _ sB ⟨n',rfl,awK,awL,apv,hs⟩ dd7;refine aA iQ (aB (v:=.int .i64 ((cK).fJ)) bN hs.hb rfl (aO (by omega) ?_));exact ⟨_,by omega,k+1+((cK).body.toNat+(cK).fJ.toNat),n',rfl,congrArg (Value.int .i64) (by omega),rfl,by omega,awK,awL,apv,hs.drop⟩
 ·rw [List.drop_eq_nil_of_le (by omega),GZ] at hinv;exact ⟨congrArg (Value.int .i64) (by rw [hinv]; unfold wz; omega),hs.aE⟩
termination_by N
decreasing_by all_goals omega
theorem C205 (lv:Value) (xs:List cG) (w:World) (hL:DL w lv xs) (hn:xs.length≤1048576) (hz:∀ x∈xs,SzS x):CR 205 [lv] w (λ v w'=>v = .bool (ve xs)∧Ext w w'):=by
 have hs:=St.start w;refine aaV _ _ _ ?_;unfold S205;obtain ⟨Y4,hR8,hD8⟩:=(hL).open;have hn8:=hD8.1;refine aK j7 (hR8.ext hs.aE) (dD (aC (λ iV=>?_) (λ iV=>?_)))
 ·refine ⟨vb ?_,hs.aE⟩;unfold ve;rw [decide_eq_false (by omega)]; rfl
 ·refine ⟨λ m x w1=>∃ k:Nat,x = .int .i64 (k:Int)∧m=xs.length - k∧k≤xs.length∧(∀ y∈xs.take k,(!rD y)=false)∧St w bD [] w1,⟨_,0,rfl,rfl,Nat.zero_le _,by simp,hs⟩,?_⟩;rintro m _ w1 ⟨k,rfl,rfl,hk,fS,hs⟩ fz;refine aK j7 (hR8.ext hs.aE) (aR (aC (λ gT=>?_) (λ gT=>?_)))
  ·obtain ⟨G4,kT⟩:=gx Y4 (i:=((k:Int)).toNat) (by omega);obtain ⟨mI,kU⟩:=gx (xs) (i:=((k:Int)).toNat) (by omega);obtain ⟨acW,acX,rfl,acY,acZ⟩:=hD8.2 _ _ _ kT kU;refine aQ j7 (hR8.ext hs.aE) (by omega) kT (λ _ ug=>aD fX (ug) (aZ aoo hs (C230 mI _ _ ⟨acW,acX,rfl,(acY).ext hs.aE,(acZ).ext hs.aE⟩ (hz _ (List.mem_of_getElem? kU))) (λ w2 he hs=>bZ (aY (λ fy=>?_) (λ fy=>?_)))))
   ·refine ⟨vb ?_,hs.aE⟩;unfold ve;rw [jH kU fy]; simp
   ·refine aO (by omega) ?_;exact ⟨_,by omega,k+1,rfl,rfl,by omega,eH fS kU fy,hs⟩
  ·refine aZ UC hs (C231 _ _ _ (xs.length+1) _ (hL.ext hs.aE) (by omega) (by omega) (by omega) (by omega)) (λ w3 he hs=>?_);refine ⟨λ jv w'=>jv = .bool (decide (0≤gD xs 0∧gD xs 0≤12))∧St w bD [] w',?_,?_⟩
   ·refine dH (aC (λ iT=>?_) (λ iT=>?_))
    ·refine j9 ?_;exact ⟨vb (by grind),hs⟩
    ·exact ⟨vb (by grind),hs⟩
   ·rintro _ w4 ⟨rfl,hs⟩ jB;rw [List.take_of_length_le (by omega)] at fS;refine ⟨vb ?_,hs.aE⟩;unfold ve;rw [iM fS,decide_eq_true (show xs.length≤40 by omega)]; rfl
theorem C156 (n:Int) (w:World):CR 156 [.int .i64 n] w (λ v w'=>v = .bool (vf n)∧Ext w w'):=by
 have hs:=St.start w;refine aaf _ _ _ ?_;unfold S156;refine ⟨λ jv w'=>jv = .bool (decide (0≤n∧n≤4000))∧w=w',?_,?_⟩
 ·refine dH (aC (λ pU=>?_) (λ pU=>?_))
  ·refine j9 ?_;exact ⟨vX (by omega),rfl⟩
  ·exact ⟨Zq (by omega),rfl⟩
 ·rintro _ w1 ⟨rfl,hw⟩ fz;subst hw;exact ⟨rfl,hs.aE⟩
theorem C155 (lv:Value) (xs:List dI) (Lb:Int) (w:World) (hL:eE (λ _=>True) w lv xs) (hn:xs.length≤1048576) (hz:∀ c∈xs,c.name.size≤1048576):CR 155 [lv,.int .i64 Lb] w (λ v w'=>v = .bool (tg Lb xs)∧Ext w w'):=by
 have hs:=St.start w;refine aae _ _ _ _ ?_;unfold S155;refine ⟨λ m x w1=>∃ k:Nat,x = .int .i64 (k:Int)∧m=xs.length - k∧k≤xs.length∧(∀ y∈xs.take k,nk Lb y=false)∧St w bD [] w1,⟨_,0,rfl,rfl,Nat.zero_le _,by simp,hs⟩,?_⟩;rintro m _ w1 ⟨k,rfl,rfl,hk,fS,hs⟩ fz;refine aK j6 (hL.ext hs.aE) (aR (aC (λ gw=>?_) (λ gw=>?_)))
 ·obtain ⟨jr,dG⟩:∃ xx,(xs)[((k:Int)).toNat]? = some xx:=⟨_,List.getElem?_eq_getElem (by omega)⟩;refine ⟨λ jv w'=>jv = .bool (nk Lb jr)∧St w bD [] w',?_,?_⟩
  ·refine aQ j6 (hL.ext hs.aE) (by omega) dG (λ _ iS=>bT (jr).name pL iS rfl rfl (λ _ rz=>aD ke (rz) (aZ tO hs (C161 _ _ (hz _ (List.mem_of_getElem? dG))) (λ w2 he hs=>bZ (aY (λ gd=>?_) (λ gd=>?_))))))
   ·exact ⟨vb (by unfold nk; grind),hs⟩
   ·refine aQ j6 (hL.ext hs.aE) (by omega) dG (λ _ Lg=>bT (jr).n zR Lg rfl rfl (λ _ ox=>aD bN (ox) (aR (aC (λ fD=>?_) (λ fD=>?_)))))
    ·exact ⟨vb (by unfold nk; grind),hs⟩
    ·refine aQ j6 (hL.ext hs.aE) (by omega) dG (λ _ ow=>bT (jr).n zR ow rfl rfl (λ _ oO=>aD bN (oO) (dD (aC (λ iI=>?_) (λ iI=>?_)))))
     ·exact ⟨vb (by unfold nk; grind),hs⟩
     ·refine aQ j6 (hL.ext hs.aE) (by omega) dG (λ _ uo=>bT (jr).at_ DM uo rfl rfl (λ _ Vx=>aD bN (Vx) (aZ PN hs (C156 _ _) (λ w3 he hs=>bZ ?_))));exact ⟨vb (by unfold nk; grind),hs⟩
  ·rintro _ w4 ⟨rfl,hs⟩ jB;refine aY (λ sG=>?_) (λ sG=>?_)
   ·refine ⟨vb ?_,hs.aE⟩;unfold tg;rw [jH dG sG]; rfl
   ·refine aO (by omega) ?_;exact ⟨_,by omega,k+1,rfl,rfl,by omega,eH fS dG sG,hs⟩
 ·rw [List.take_of_length_le (by omega)] at fS;refine ⟨vb ?_,hs.aE⟩;unfold tg;rw [iM fS]; rfl
theorem C157 (lv:Value) (xs:List dS) (nb:Bool) (w:World) (hL:DL w lv xs) (hn:xs.length≤1048576) (hz:∀ t∈xs,SzT t∧t.aN.length≤500∧t.body.length≤500):CR 157 [lv,.bool nb] w (λ v w'=>v = .bool (oy nb xs)∧Ext w w'):=by
 have hs:=St.start w;refine aag _ _ _ _ ?_;unfold S157;refine ⟨λ m x w1=>∃ k:Nat,x = .int .i64 (k:Int)∧m=xs.length - k∧k≤xs.length∧(∀ y∈xs.take k,wA nb y=false)∧St w bD [] w1,⟨_,0,rfl,rfl,Nat.zero_le _,by simp,hs⟩,?_⟩;rintro m _ w1 ⟨k,rfl,rfl,hk,fS,hs⟩ fz;obtain ⟨Y5,Ss,hD9⟩:=(hL).open;have hn9:=hD9.1;refine aK iP (Ss.ext hs.aE) (aR (aC (λ fH=>?_) (λ fH=>?_)))
 ·obtain ⟨G4,kT⟩:∃ xx,Y5[((k:Int)).toNat]? = some xx:=⟨_,List.getElem?_eq_getElem (by omega)⟩;obtain ⟨mI,kU⟩:∃ xx,(xs)[((k:Int)).toNat]? = some xx:=⟨_,List.getElem?_eq_getElem (by omega)⟩;obtain ⟨Ep,Er,rfl,NL,Es⟩:=hD9.2 _ _ _ kT kU;have Lh:=hz _ (List.mem_of_getElem? kU);refine ⟨λ jv w'=>jv = .bool (vg nb mI)∧St w bD [] w',?_,?_⟩
  ·refine aQ iP (Ss.ext hs.aE) (by omega) kT (λ _ ug=>bT (mI).name zO ug rfl rfl (λ _ KV=>aD ke (KV) (aZ tO hs (C161 _ _ Lh.1.1) (λ w2 he hs=>pG Kq (aY (λ jD=>?_) (λ jD=>?_))))))
   ·exact ⟨vb (by unfold vg; grind),hs⟩
   ·refine bZ (aY (λ iT=>?_) (λ iT=>?_))
    ·refine aQ iP (Ss.ext hs.aE) (by omega) kT (λ _ wy=>bT (mI).name zO wy rfl rfl (λ _ wC=>aD ke (wC) (oW (aC (λ nI=>?_) (λ nI=>?_)))))
     ·exact ⟨vb (by unfold vg; grind),hs⟩
     ·refine aQ iP (Ss.ext hs.aE) (by omega) kT (λ _ ui=>bT (mI).at_ zP ui rfl rfl (λ _ Ag=>aD bN (Ag) (aZ PN hs (C156 _ _) (λ w3 he hs=>bZ (aY (λ qB=>?_) (λ qB=>?_))))))
      ·exact ⟨vb (by unfold vg; grind),hs⟩
      ·refine aQ iP (Ss.ext hs.aE) (by omega) kT (λ _ Li=>bT Er qI Li rfl rfl (λ _ Lj=>aD te (Lj) (aZ afx hs (C205 _ _ _ (Es.ext hs.aE) (by omega) Lh.1.2.2) (λ w4 he hs=>bZ ?_))));exact ⟨vb (by unfold vg; grind),hs⟩
    ·refine aQ iP (Ss.ext hs.aE) (by omega) kT (λ _ ac0=>bT (mI).at_ zP ac0 rfl rfl (λ _ ac1=>aD bN (ac1) (aZ PN hs (C156 _ _) (λ w5 he hs=>bZ (aY (λ ac2=>?_) (λ ac2=>?_))))))
     ·exact ⟨vb (by unfold vg; grind),hs⟩
     ·refine aQ iP (Ss.ext hs.aE) (by omega) kT (λ _ ac3=>bT Er qI ac3 rfl rfl (λ _ ac4=>aD te (ac4) (aZ afx hs (C205 _ _ _ (Es.ext hs.aE) (by omega) Lh.1.2.2) (λ w6 he hs=>bZ ?_))));exact ⟨vb (by unfold vg; grind),hs⟩
  ·rintro _ w7 ⟨rfl,hs⟩ jB;refine aY (λ pX=>?_) (λ pX=>?_)
   ·refine ⟨vb ?_,hs.aE⟩;unfold oy;rw [jH kU (show wA nb mI=true by unfold wA; rw [pX]; rfl)]; rfl
   ·refine ⟨λ m x w1=>∃ k2:Nat,x = .int .i64 (k2:Int)∧m=mI.aN.length - k2∧k2≤mI.aN.length∧(∀ s∈mI.aN.take k2,(!j4 s)=false)∧St w bD [] w1,⟨_,0,rfl,rfl,Nat.zero_le _,by simp,hs⟩,?_⟩;rintro m _ w8 ⟨k2,rfl,rfl,JG,Eu,hs⟩ oN;refine aQ iP (Ss.ext hs.aE) (by omega) kT (λ _ Vz=>bT Ep jz Vz rfl rfl (λ _ Ec=>aD pH (Ec) ?_));have apy:=DL.flat (NL);refine aK mX (apy.ext hs.aE) (aR (aC (λ uq=>?_) (λ uq=>?_)))
    ·refine aQ iP (Ss.ext hs.aE) (by omega) kT (λ _ Lk=>bT Ep jz Lk rfl rfl (λ _ Ev=>aD pH (Ev) ?_));obtain ⟨e_x67,IM⟩:=gx ((mI).aN) (i:=((k2:Int)).toNat) (by omega);refine aQ mX (apy.ext hs.aE) (by omega) IM (λ _ apz=>aD ke (apz) (aZ tO hs (C161 _ _ (Lh.1.2.1 _ (List.mem_of_getElem? IM))) (λ w9 he hs=>bZ (aY (λ Ah=>?_) (λ Ah=>?_)))))
     ·refine ⟨vb ?_,hs.aE⟩;unfold oy;rw [jH kU (show wA nb mI=true by unfold wA; rw [jH IM Ah]; simp)]; rfl
     ·refine aO (by omega) ?_;exact ⟨_,by omega,k2+1,rfl,rfl,by omega,eH Eu IM Ah,hs⟩
    ·refine aO (by omega) ?_;exact ⟨_,by omega,k+1,rfl,rfl,by omega,eH fS kU (by unfold wA; rw [pX,iM (by rw [List.take_of_length_le (by omega)] at Eu; exact Eu)]; rfl),hs⟩
 ·rw [List.take_of_length_le (by omega)] at fS;refine ⟨vb ?_,hs.aE⟩;unfold oy;rw [iM fS]; rfl
end Go.Proofs.YtnjcingfdhjfkaaGreat
