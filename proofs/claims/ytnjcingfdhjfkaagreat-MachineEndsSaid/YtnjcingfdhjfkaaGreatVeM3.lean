/-
  What the proof needs, part 3.
-/
import Derived.Test.YtnjcingfdhjfkaaGreatVeM2
set_option linter.all false
namespace Go.Fw
def sep (H1 H2:HP):HP where
 p w F:=∃ F1 F2,H1.p w F1∧H2.p w F2∧(∀ b,F1 b→¬ F2 b)∧∀ b,F b↔F1 b∨F2 b
 loc w w' F h hh:=by
  obtain ⟨F1,F2,h1,h2,h3,h4⟩:=h
  exact ⟨F1,F2,H1.loc _ _ _ h1 λ b hb=>hh b ((h4 b).2 (.inl hb)),H2.loc _ _ _ h2 λ b hb=>hh b ((h4 b).2 (.inr hb)),h3,h4⟩
 lt w F b h hb:=by
  obtain ⟨F1,F2,h1,h2,h3,h4⟩:=h
  rcases (h4 b).1 hb with hf | hf
  ·exact H1.lt _ _ _ h1 hf
  ·exact H2.lt _ _ _ h2 hf
def ua {α:Type} (H:α→HP):HP where
 p w F:=∃ x,(H x).p w F
 loc w w' F h hh:=by obtain ⟨x,h⟩:=h; exact ⟨x,(H x).loc _ _ _ h hh⟩
 lt w F b h hb:=by obtain ⟨x,h⟩:=h; exact (H x).lt _ _ _ h hb
def fact (φ:Prop) (H:HP):HP where
 p w F:=φ∧H.p w F
 loc w w' F h hh:=⟨h.1,H.loc _ _ _ h.2 hh⟩
 lt w F b h hb:=H.lt _ _ _ h.2 hb
def emp:HP where
 p _ F:=∀ b,¬ F b
 loc _ _ _ h _:=h
 lt _ _ b h hb:=(h b hb).elim
section
variable {P:Program} {w w0 w':World} {A:Nat→Prop} {L:List HP} {H H1 H2:HP}
theorem St.split (h:St w0 A (sep H1 H2::L) w):St w0 A (H1::H2::L) w:=by
 obtain ⟨U,F,U',⟨F1,F2,g1,g2,g3,g4⟩,h2,h3,h4,h5⟩:=h.sW
 refine ⟨h.aE,U,F1,λ b=>F2 b∨U' b,g1,λ b hb=>h2 b ((g4 b).2 (.inl hb)),λ b hb hu=>?_,λ b=>?_,F2,U',g2,λ b hb=>h2 b ((g4 b).2 (.inr hb)),λ b hb hu=>h3 b ((g4 b).2 (.inr hb)) hu,λ b=>Iff.rfl,h5⟩
 ·rcases hu with hu | hu
  ·exact g3 b hb hu
  ·exact h3 b ((g4 b).2 (.inl hb)) hu
 ·rw [h4 b,g4 b,or_assoc]
theorem St.join (h:St w0 A (H1::H2::L) w):St w0 A (sep H1 H2::L) w:=by
 obtain ⟨U,F,U',h1,h2,h3,h4,F2,U2,g1,g2,g3,g4,g5⟩:=h.sW
 refine ⟨h.aE,U,λ b=>F b∨F2 b,U2,⟨F,F2,h1,g1,λ b hb hf=>h3 b hb ((g4 b).2 (.inl hf)),λ b=>Iff.rfl⟩,λ b hb=>hb.elim (h2 b) (g2 b),λ b hb hu=>?_,λ b=>?_,g5⟩
 ·rcases hb with hb | hb
  ·exact h3 b hb ((g4 b).2 (.inr hu))
  ·exact g3 b hb hu
 ·rw [h4 b,g4 b,or_assoc]
theorem St.eQ {α:Type} {H:α→HP} (h:St w0 A (ua H::L) w):∃ x,St w0 A (H x::L) w:=by
 obtain ⟨U,F,U',⟨x,h1⟩,h2⟩:=h.sW; exact ⟨x,h.aE,U,F,U',h1,h2⟩
theorem St.eJ {α:Type} {H:α→HP} (x:α) (h:St w0 A (H x::L) w):St w0 A (ua H::L) w:=by
 obtain ⟨U,F,U',h1,h2⟩:=h.sW; exact ⟨h.aE,U,F,U',⟨x,h1⟩,h2⟩
theorem St.oD {φ:Prop} (h:St w0 A (fact φ H::L) w):φ∧St w0 A (H::L) w:=by
 obtain ⟨U,F,U',⟨x,h1⟩,h2⟩:=h.sW; exact ⟨x,h.aE,U,F,U',h1,h2⟩
theorem St.qw {φ:Prop} (x:φ) (h:St w0 A (H::L) w):St w0 A (fact φ H::L) w:=by
 obtain ⟨U,F,U',h1,h2⟩:=h.sW; exact ⟨h.aE,U,F,U',⟨x,h1⟩,h2⟩
def qx (F:Nat→Prop) (H':HP) (w w':World):Prop:=∃ F',H'.p w' F'∧(∀ b,F' b→F b∨w.heap.size≤b)∧iH F w w'
def mc (H:HP) (w w':World):Prop:=∃ F,H.p w' F∧(∀ b,F b→w.heap.size≤b)∧Ext w w'
theorem St.mut {F:Nat→Prop} (hs:St w F (H::L) w'):qx F H w w':=by
 obtain ⟨F',h1,h2⟩:=hs.head; exact ⟨F',h1,h2,hs.aE⟩
theorem St.fresh (hs:St w bD (H::L) w'):mc H w w':=by
 obtain ⟨F',h1,h2⟩:=hs.head; exact ⟨F',h1,λ b hb=>(h2 b hb).elim (λ h=>h.elim) id,hs.aE⟩
theorem St.made (hs:St w0 A L w) (h:mc H w w'):St w0 A (H::L) w':=by
 obtain ⟨F,h1,h2,h3⟩:=h; exact hs.new h3 h1 h2
theorem aZ {f:FuncId} {args:List Value} {X:Value} {K:Value→World→Prop} (pl:Plain P f) (hs:St w0 A L w) (hc:Calls P f args.toArray w (qp λ v w'=>v=X∧Ext w w')) (k:∀ w',Ext w w'→St w0 A L w'→K X w'):Db P f args w K:=
 eu pl hc λ v w' h=>by obtain ⟨rfl,h2⟩:=h; exact k w' h2 (hs.ext h2)
theorem dG {f:FuncId} {args:List Value} {H:Value→HP} {K:Value→World→Prop} (pl:Plain P f) (hs:St w0 A L w) (hc:Calls P f args.toArray w (qp λ v w'=>mc (H v) w w')) (k:∀ v w',mc (H v) w w'→St w0 A (H v::L) w'→K v w'):Db P f args w K:=
 eu pl hc λ v w' h=>k v w' h (hs.made h)
theorem St.Uv {F:Nat→Prop} {U':Nat→Prop} {H':HP} (hs:St w0 A (H::L) w) (h2:∀ b,F b→A b∨w0.heap.size≤b) (h3:∀ b,F b→¬ U' b) (h5:rY w0 A L w U') (h:qx F H' w w'):St w0 A (H'::L) w':=by
 obtain ⟨F',g1,g2,g3⟩:=h
 refine ⟨hs.aE.trans g3 (λ _ h=>h) λ b hb hf=>(h2 b hf).elim id λ hh=>by omega,λ b=>F' b∨U' b,F',U',g1,λ b hb=>?_,λ b hb hu=>?_,λ b=>Iff.rfl,?_⟩
 ·rcases g2 b hb with hf | hf
  ·exact h2 b hf
  ·exact .inr (Nat.le_trans hs.aE.size hf)
 ·rcases g2 b hb with hf | hf
  ·exact h3 b hf hu
  ·have:=h5.lt b hu; omega
 ·exact h5.loc λ b hb=>g3.cC b (h5.lt b hb) λ hf=>h3 b hf hb
theorem po {f:FuncId} {args:List Value} {H':Value→HP} {Φ:Value→World→Prop} {K:Value→World→Prop} (pl:Plain P f) (hs:St w0 A (H::L) w)
  (hc:∀ F,H.p w F→Calls P f args.toArray w (qp λ v w'=>Φ v w'∧qx F (H' v) w w')) (k:∀ v w',Φ v w'→St w0 A (H' v::L) w'→K v w'):Db P f args w K:=by
 obtain ⟨U,F,U',h1,h2,h3,h4,h5⟩:=hs.sW
 exact eu pl (hc F h1) λ v w' ⟨hΦ,hM⟩=>k v w' hΦ (hs.Uv h2 h3 h5 hM)
end
section
variable {α:Type} [Flat α] {P:Program} {w w0:World} {A S:Nat→Prop} {L:List HP} {xs ys:List α}
theorem eL.one {v:Value} (h:eL S w v xs):r7 v=true:=by obtain ⟨a,c,rfl,_⟩:=h; rfl
theorem FM {T E oy R b n cap:Nat} {z:Option Nat} {src:Value} {cs:List Value} (ht:fg P T=some (E,Flat.sz α,oy,z)) (hb:tM w b cs) (xJ:eL S w src ys)
  (Kj:n+ys.length≤cap) (M9:n * Flat.sz α+ys.length * Flat.sz α≤cs.length) :
  ∃ w',(Builtin.append_ #[T,T] R [.slice (some ⟨b,0,none⟩) n cap,src].toArray).run P w = .ok (.slice (some ⟨b,0,none⟩) (n+ys.length) cap) w'∧tM w' b (ib cs (n * Flat.sz α) (flat ys))∧iH (· = b) w w':=by
 obtain ⟨hu,inf,hi,kJ,Bc,_⟩:=gv ht
 have rd:=xJ
 obtain ⟨sa,T8,rfl,hsc,hs3⟩:=rd
 obtain ⟨w',h1,h2,h3⟩:=my (P:=P) (o:=n * Flat.sz α) (flat ys) 0 cs w hb (by rw [cQ]; omega) zy
 refine ⟨w',?_,by simpa using h2,h3⟩
 have hf:=xa (α:=α) (P:=P) (sz:=Flat.sz α) rfl xJ
 have sX:(⟨b,0,none⟩:Addr).add (n * Flat.sz α)=⟨b,n * Flat.sz α,none⟩:=by rw [gw,Nat.zero_add]
 simp [Builtin.append_,run_underlying hu,sizeOf,typeInfo,hi,Builtin.lenOf,Kj,hf,kJ,sX,h1]
theorem RX {T E oy R b o n c:Nat} {z:α} {cs:List Value} (ht:SlT P T E (Flat.sz α) oy) (hz:qt P E (Flat.val z)) (hb:tM w b cs) (M9:o+n * Flat.sz α≤cs.length) :
  ∃ w',(Builtin.clear_ #[T] R [.slice (some ⟨b,o,none⟩) n c].toArray).run P w = .ok (.tuple #[]) w'∧tM w' b (ib cs o (flat (List.replicate n z)))∧iH (· = b) w w':=by
 obtain ⟨hu,inf,hi,kJ,Bc,_⟩:=gv ht
 unfold qt eh at hz
 rw [hi] at hz
 simp only [Option.map_some,Option.some.injEq] at hz
 by_cases h0:n=0
 ·subst h0
  refine ⟨w,?_,by simpa [kj,ib] using hb,iH.refl _ _⟩
  simp [Builtin.clear_,run_underlying hu]
 ·have hzc:(Builtin.zeroCells (Flat.val z).cells n).toList=flat (List.replicate n z):=by
   rw [oO,← vQ]
   unfold Builtin.zeroCells madeCells
   simp [Flat.len]
  obtain ⟨w',h1,h2,h3⟩:=my (P:=P) (o:=o) (flat (List.replicate n z)) 0 cs w hb (by rw [cQ,List.length_replicate]; omega) zy
  refine ⟨w',?_,by simpa using h2,h3⟩
  simp [Builtin.clear_,run_underlying hu,zeroValue,typeInfo,hi,hz,h0,hzc,h1]
theorem Uw {T E sz oy n cap:Nat} {z:Option Nat} {a:Option Addr} {i j k:Int} {K:Value→Prop} (ht:fg P T=some (E,sz,oy,z)) (h0:0≤i) (h1:i≤j) (h2:j≤k) (h3:k≤cap)
  (kk:∀ v,K v):cX P (Instr.sliceAt T (.slice a n cap) (some (.int .i64 i)) (some (.int .i64 j)) (some (.int .i64 k))) K:=by
 obtain ⟨hu,inf,M0,kJ,_⟩:=gv ht
 have hb:pr P (Instr.sliceBounds true n cap (some (.int .i64 i)) (some (.int .i64 j)) (some (.int .i64 k)))=some (i.toNat,j.toNat,k.toNat):=by
  simp only [Instr.sliceBounds,cN,fc,Option.bind_some]
  rw [mX (by omega) (by omega)]
  simp only [Option.bind_some]
  rw [mX (by omega) (by omega)]
  simp only [Option.bind_some]
  rw [mX (by omega) (by omega)]
  rfl
 refine ⟨.slice (if k.toNat=i.toNat then a else a.map (·.add (i.toNat * sz))) (j.toNat - i.toNat) (k.toNat - i.toNat),?_,kk _⟩
 ·unfold Instr.sliceAt
  rw [cN,cM hu]
  simp only [Option.bind_some]
  unfold Instr.slice
  rw [cN,cM hu]
  simp only [Option.bind_some]
  rw [cN,hb]
  simp only [Option.bind_some]
  rw [cN,oM M0,kJ]
  rfl
end
def xN (b:Nat) (o:Obj):HP where
 p w F:=w.heap[b]? = some o∧∀ k,F k↔k=b
 loc w w' F h hh:=⟨(hh b ((h.2 b).2 rfl)).trans h.1,h.2⟩
 lt w F b' h hb:=by rw [(h.2 b').1 hb]; exact jW h.1
section
variable {P:Program} {w w0 w':World} {A:Nat→Prop} {L:List HP}
theorem St.obj {b:Nat} {o:Obj} (hs:St w0 A (xN b o::L) w):w.heap[b]? = some o:=by
 obtain ⟨F,h,_⟩:=hs.head; exact h.1
theorem Ext.alloc (w:World) (o:Obj):Ext w (w.alloc o):=Ext.push w o
theorem St.alloc {o:Obj} (hs:St w0 A L w):St w0 A (xN w.heap.size o::L) (w.alloc o):=
 hs.new (F:=(· = w.heap.size)) (Ext.alloc w o) ⟨pB w o,λ _=>Iff.rfl⟩ λ b hb=>Nat.le_of_eq hb.symm
theorem iH.putObj (w:World) (b:Nat) (o:Obj):iH (· = b) w (w.putObj b o):=
 ⟨rfl,rfl,rfl,by simp,λ k _ hn=>World.putObj_heap_other hn⟩
theorem St.putObj {b:Nat} {o:Obj} (o':Obj) (hs:St w0 A (xN b o::L) w):St w0 A (xN b o'::L) (w.putObj b o'):=
 hs.rZ λ F hF=>⟨F,⟨World.putObj_heap_same (jW hF.1),hF.2⟩,λ _ h=>.inl h,(iH.putObj w b o').mono λ k hk=>(hF.2 k).2 hk⟩
theorem fZ.mono {fv:Value} {args:List Value} {K K':Value→World→Prop} (h:fZ P fv args w K) (hk:∀ v w,K v w→K' v w):fZ P fv args w K':=
 Gd.mono (P:=P) (k:=.Pj fv args) h hk
theorem aI {α:Type} [Flat α] {T:TypeId} {b:Nat} {cs:List Value} {x:α} {K:World→Prop} (hs:St w0 A (cC b cs::L) w) (ht:aa9 P T (Flat.sz α)) (ha:Flat.agg α=true) (hl:cs.length=Flat.sz α)
  (k:∀ w',St w0 A (cC b (Flat.enc x)::L) w'→K w'):AZ P (Instr.storeAt T (.pointer (some ⟨b,0,none⟩)) (Flat.val x)) w K:=by
 rw [Flat.oz ha]
 refine pC hs ht (Flat.len x) (by rw [Nat.zero_add,hl]; exact Nat.le_refl _) (Flat.one x) λ w' h=>k w' ?_
 have:=kQ [] cs [] (Flat.enc x) (by rw [Flat.len,hl])
 simp only [List.length_nil,List.nil_append,List.append_nil] at this
 rwa [this] at h
theorem fP {α:Type} [Flat α] {S:Nat→Prop} {T:TypeId} {p:Value} {x:α} (ht:cS P T=some (Flat.agg α,Flat.sz α)) (h:At S w p x):(Instr.loadAt T p).run P w = .ok (Flat.val x) w:=by
 obtain ⟨v,h1,h2⟩:=(aD (K:=λ v=>v=Flat.val x) ht h rfl).ex
 rw [← h2]; exact h1
theorem fS {b:Bool} {A B:Prop} (h:b=true) (a:A):xW (.bool b) A B:=⟨⟨_,rfl,λ _=>a,λ hh=>by rw [h] at hh; cases hh⟩⟩
theorem gq {b:Bool} {A B:Prop} (h:b=false) (a:B):xW (.bool b) A B:=⟨⟨_,rfl,λ hh=>(by rw [h] at hh; cases hh),λ _=>a⟩⟩
theorem aeQ {D:Nat} {K:World→Prop} (hs:St w0 A (xN D (.deferred (some []))::L) w) (k:∀ w',St w0 A L w'→K w'):nM [D] w K:=
 ⟨hs.obj,k _ (hs.putObj (.deferred none)).drop⟩
theorem Nr (L0:Loop) (h1:L0.state = .ready) (h2:L0.pending=none):({L0 with state:=if (none:Option Code).isNone=true then LoopState.ready else LoopState.done,pending:=none}:Loop)=L0:=by
 cases L0; simp only at h1 h2; subst h1; subst h2; rfl
theorem Ux {gf np:Nat} {cap:List Value} {xs:List (List Value)} {round:List Value→World→(World→(World→Prop)→Prop)→(Option Code→World→Prop)→Prop}
  {N R:Nat→World→Prop} {X:Nat→Nat→World→Prop} (pl:Plain P gf) (hs:St w0 A L w) (I:Nat→List HP→Prop) (Ix:Code→List HP→Prop) (h0:I 0 L) (hnp:∀ x∈xs,x.length=np)
  (hgf:∀ (y:Value) (J:Nat→World→Prop) (Jx:World→Prop) (W:World),(∀ k W,J k W→∃ Y M,I k M∧St w0 A (Y::M) W)→(∀ k W W',J k W→Ext W W'→J k W')→J 0 W→
   (∀ k args W',xs[k]? = some args→J k W'→fZ P y args W' (λ v W''=>(v = .bool true∧J (k+1) W'')∨(v = .bool false∧Jx W'')))→
   Calls P gf ([y]++cap).toArray W (qp λ _ W'=>J xs.length W'∨Jx W'))
  (MZ:∀ k args (Y1 Y2:HP) (B:World→(World→Prop)→Prop) (Kr:Option Code→World→Prop) M W,xs[k]? = some args→I k M→
   (∀ M w1 (kk:World→Prop),St w0 A (Y1::M) w1→(∀ w2,St w0 A (Y2::M) w2→kk w2)→B w1 kk)→
   (∀ M w1,St w0 A (Y2::M) w1→I (k+1) M→Kr none w1)→(∀ c M w1,St w0 A (Y2::M) w1→Ix c M→Kr (some c) w1)→
   St w0 A (Y1::M) W→round args W B Kr)
  (aoe:∀ D M W,I xs.length M→St w0 A (xN D (.deferred (some []))::M) W→N D W)
  (avK:∀ D M W,Ix .ret M→St w0 A (xN D (.deferred (some []))::M) W→R D W)
  (aof:∀ id D M W,Ix (.exit id) M→St w0 A (xN D (.deferred (some []))::M) W→X id D W)
  (ahM:∀ c M,Ix c M→(∃ id,c = .exit id)∨c = .ret) :
  CB P (.func (.func gf) #[] cap.toArray) np w round (aft N R X):=by
 refine ⟨gf,cap.toArray,rfl,pl,λ L0 gb hpe hy=>?_⟩
 obtain ⟨l,hl⟩:∃ l,l=w.heap.size+1:=⟨_,rfl⟩
 obtain ⟨D,hD⟩:∃ D,D=w.heap.size:=⟨_,rfl⟩
 rw [← hl] at hy ⊢
 rw [← hD]
 let J:Nat→World→Prop:=λ k W=>∃ M,I k M∧St w0 A (xN l (.loop L0)::xN D (.deferred (some []))::M) W
 let Jx:World→Prop:=λ W=>∃ c M,Ix c M∧St w0 A (xN l (.loop {L0 with state:=.done,pending:=some c})::xN D (.deferred (some []))::M) W
 have hJ0:J 0 ((w.alloc (.deferred (some []))).alloc (.loop L0)):=by
  refine ⟨L,h0,?_⟩
  have h1:=(hs.alloc (o:=.deferred (some []))).alloc (o:=.loop L0)
  rw [show (w.alloc (.deferred (some []))).heap.size=l from by rw [hl]; exact Gx w _,← hD] at h1
  exact h1
 have:=hgf (.func (.yield l) #[] #[]) J Jx _ (λ k W ⟨M,hI,hS⟩=>⟨_,M,hI,St.join hS⟩) (λ k W W' ⟨M,hI,hS⟩ e=>⟨M,hI,hS.ext e⟩) hJ0 ?_
 ·have e:([Value.func (.yield l) #[] #[]]++cap).toArray = #[.func (.yield l) #[] #[]]++cap.toArray:=by simp
  rw [e] at this
  refine this.mono λ x W' ⟨v,hx,hv⟩=>⟨v,hx,?_⟩
  rcases hv with ⟨M,hI,hS⟩ | ⟨c,M,hI,hS⟩
  ·refine ⟨.ready,none,by simp,?_,?_⟩
   ·rw [← gb,← hpe]; exact hS.obj
   ·exact aoe D M _ hI (hS.putObj _).drop
  ·refine ⟨.done,some c,by simp,hS.obj,?_⟩
   rcases ahM c M hI with ⟨id,rfl⟩ | rfl
   ·exact aof id D M _ hI (hS.putObj _).drop
   ·exact avK D M _ hI (hS.putObj _).drop
 ·intro k args W hk ⟨M,hI,hS⟩
  refine ⟨.inr ⟨l,rfl,?_⟩⟩
  refine hy args W _ (hnp args (List.mem_of_getElem? hk)) hS.obj ?_
  refine MZ k args (sep (xN l (.loop L0)) (xN D (.deferred (some [])))) (sep (xN l (.loop {L0 with state:=.busy})) (xN D (.deferred (some [])))) _ _ M W hk hI
   (λ M w1 kk h1 h2=>?_) (λ M w1 h1 h2=>?_) (λ c M w1 h1 h2=>?_) (St.join hS)
  ·have h1:=h1.split
   exact ⟨h1.obj,h2 _ (h1.putObj _).join⟩
  ·have h1:=h1.split
   refine ⟨h1.obj,.inl ⟨rfl,M,h2,?_⟩⟩
   have:=h1.putObj (.loop {L0 with state:=if (none:Option Code).isNone=true then LoopState.ready else LoopState.done,pending:=none})
   rw [Nr L0 gb hpe] at this ⊢
   exact this
  ·have h1:=h1.split
   exact ⟨h1.obj,.inr ⟨rfl,c,M,h2,h1.putObj _⟩⟩
end
section
variable {P:Program} {w w0:World} {A S:Nat→Prop} {L:List HP}
theorem xg {t:Array TypeId} {T:TypeId} {a b:Int} {K:Value→Prop} (k:K (.int .i64 (min a b))):cX P (Builtin.min_ t T [.int .i64 a,.int .i64 b].toArray) K:=by
 refine ⟨_,?_,k⟩
 show pr P (Builtin.min2 (.int .i64 a) (.int .i64 b))=_
 unfold Builtin.min2
 by_cases h:b<a
 ·simp [h,fc]; omega
 ·simp [h,fc]; omega
theorem uS {t:Array TypeId} {T:TypeId} {a b:Int} {K:Value→Prop} (k:K (.int .i64 (max a b))):cX P (Builtin.max_ t T [.int .i64 a,.int .i64 b].toArray) K:=by
 refine ⟨_,?_,k⟩
 show pr P (Builtin.max2 (.int .i64 a) (.int .i64 b))=_
 unfold Builtin.max2
 by_cases h:a<b
 ·simp [h,fc]; omega
 ·simp [h,fc]; omega
end
section
variable {P:Program} {α:Type} [Flat α] {A:Nat→Prop} {w0 w:World} {L:List HP} {xs:List α}
def Is (α:Type) [Flat α] (v:Value) (i off:Nat) (p:Value):Prop:=∃ b n c,v = .slice (some ⟨b,0,none⟩) n c∧p = .pointer (some ⟨b,i * Flat.sz α+off,none⟩)
theorem nc {T f off i:Nat} {v p:Value} {K:Value→Prop} (ht:Dm P T f off) (h:Gz α v i p) (k:∀ q,Is α v i off q→K q):cX P (Instr.fieldAt T p f) K:=by
 obtain ⟨b,n,c,h1,rfl⟩:=h
 exact aA ht (k _ ⟨b,n,c,h1,rfl⟩)
theorem nW {β:Type} [Flat β] {T:Nat} {v p:Value} {i off:Nat} {x:α} (y:β) {K:Value→Prop} (hs:St w0 A (bL v xs::L) w) (ht:cS P T=some (Flat.agg β,Flat.sz β)) (hp:Is α v i off p) (hx:xs[i]? = some x)
  (hy:((Flat.enc x).drop off).take (Flat.sz β)=Flat.enc y) (k:K (Flat.val y)):Da P (Instr.loadAt T p) w K:=by
 obtain ⟨F,h,_⟩:=hs.head
 obtain ⟨b,cap,rest,hv,hb,hl,_⟩:=qM h (List.getElem?_eq_some_iff.1 hx).1
 obtain ⟨b',n,c,Dq,rfl⟩:=hp
 rw [hv] at Dq
 simp only [Value.slice.injEq,Option.some.injEq,Addr.mk.injEq] at Dq
 obtain ⟨⟨rfl,_,_⟩,_,_⟩:=Dq
 refine aD (S:=λ _=>True) ht ⟨b,i * Flat.sz α+off,rfl,trivial,λ j c hj=>hb.cell ?_⟩ k
 rw [← hy,List.getElem?_take] at hj
 split at hj
 ·rw [List.getElem?_drop] at hj
  have:=tO hx hj
  rw [Nat.add_assoc,List.getElem?_append_left (List.getElem?_eq_some_iff.1 this).1]; exact this
 ·cases hj
theorem KD {β:Type} [Flat β] {T:Nat} {v p:Value} {i off:Nat} {K:World→Prop} {x:α} (y:α) (z:β) (hs:St w0 A (bL v xs::L) w) (ht:cS P T=some (Flat.agg β,Flat.sz β)) (hp:Is α v i off p) (hx:xs[i]? = some x)
  (hlen:off+Flat.sz β≤Flat.sz α) (hy:(Flat.enc x).take off++Flat.enc z++(Flat.enc x).drop (off+Flat.sz β)=Flat.enc y)
  (k:∀ w',St w0 A (bL v (xs.set i y)::L) w'→K w'):AZ P (Instr.storeAt T p (Flat.val z)) w K:=by
 obtain ⟨U,F,U',g1,g2,g3,g4,g5⟩:=hs.sW
 have hi:=(List.getElem?_eq_some_iff.1 hx).1
 obtain ⟨b,cap,rest,hv,hb,hl,hF⟩:=qM g1 hi
 obtain ⟨b',n,c,Dq,rfl⟩:=hp
 rw [hv] at Dq
 simp only [Value.slice.injEq,Option.some.injEq,Addr.mk.injEq] at Dq
 obtain ⟨⟨rfl,_,_⟩,_,_⟩:=Dq
 have Nc:=yy hx
 have Nd:(flat (xs.take i)).length=i * Flat.sz α:=by rw [cQ,List.length_take,Nat.min_eq_left (by omega)]
 have hel:i * Flat.sz α+Flat.sz α≤(flat xs).length:=by
  rw [cQ,← Nat.succ_mul]; exact Nat.mul_le_mul_right _ hi
 have MM:(Flat.enc x).length=Flat.sz α:=Flat.len x
 have hzl:(Flat.enc z).length=Flat.sz β:=Flat.len z
 obtain ⟨w',h1,h2,h3⟩:=my (P:=P) (o:=i * Flat.sz α+off) (Flat.enc z) 0 (flat xs++rest) w hb (by rw [hzl,List.length_append]; omega) (Flat.one z)
 have xI:ib (flat xs++rest) (i * Flat.sz α+off+0) (Flat.enc z)=flat (xs.set i y)++rest:=by
  have:=kQ (flat (xs.take i)++(Flat.enc x).take off) (((Flat.enc x).drop off).take (Flat.sz β)) ((Flat.enc x).drop (off+Flat.sz β)++flat (xs.drop (i+1))++rest) (Flat.enc z)
   (by rw [hzl,List.length_take,List.length_drop]; omega)
  rw [List.length_append,Nd,List.length_take,Nat.min_eq_left (by omega)] at this
  rw [Nat.add_zero,Kl y hi,Nc,← hy]
  have e1:Flat.enc x=(Flat.enc x).take off++((Flat.enc x).drop off).take (Flat.sz β)++(Flat.enc x).drop (off+Flat.sz β):=by
   rw [← List.drop_drop,List.append_assoc,List.take_append_drop,List.take_append_drop]
  have e2:flat (xs.take i)++Flat.enc x++flat (xs.drop (i+1))++rest=flat (xs.take i)++(Flat.enc x).take off++((Flat.enc x).drop off).take (Flat.sz β)++((Flat.enc x).drop (off+Flat.sz β)++flat (xs.drop (i+1))++rest):=by
   conv=>lhs; rw [e1]
   simp only [List.append_assoc]
  rw [e2,this]
  simp only [List.append_assoc]
 rw [xI] at h2
 refine ⟨w',?_,k w' ⟨hs.aE.trans (h3.mono λ k hk=>(hF k).2 hk) (λ _ h=>h) λ b hb hf=>(g2 b hf).elim id λ hh=>by omega,U,F,U',?_,g2,g3,g4,
  g5.loc λ b hb=>(h3.mono λ k hk=>(hF k).2 hk).cC b (g5.lt b hb) λ hf=>g3 b hf hb⟩⟩
 ·show (storeVar T ⟨b,i * Flat.sz α+off,none⟩ (Flat.val z)).run P w=_
  unfold storeVar
  rw [dJ (fo (jK ht).2 w),oO]
  simp only [List.size_toArray,Flat.len,ne_eq,not_true_eq_false,if_false]
  exact h1
 ·refine .inr ⟨b,cap,rest,by rw [List.length_set]; exact hv,h2,?_,hF⟩
  rw [← hl,List.length_append,List.length_append,cQ,cQ,List.length_set]
theorem xh {T:Nat} {b o:Nat} {cs:List Value} (x:α) {K:Value→Prop} (ht:cS P T=some (Flat.agg α,Flat.sz α)) (hb:tM w b cs) (hx:(cs.drop o).take (Flat.sz α)=Flat.enc x) (k:K (Flat.val x)) :
  Da P (Instr.loadAt T (.pointer (some ⟨b,o,none⟩))) w K:=by
 refine aD (S:=λ _=>True) ht ⟨b,o,rfl,trivial,λ j c hj=>hb.cell ?_⟩ k
 rw [← hx,List.getElem?_take] at hj
 split at hj
 ·rw [List.getElem?_drop] at hj; exact hj
 ·cases hj
end
structure SV where
 a:Option Addr
 n:Nat
 cap:Nat
instance:Flat SV where
 agg:=false
 sz:=1
 enc s:=[.slice s.a s.n s.cap]
 val s:=.slice s.a s.n s.cap
 pos:=by decide
 len _:=rfl
 one a v h:=by rw [List.mem_singleton.1 h]; rfl
 oz h:=by cases h
 oN _ _:=rfl
section
variable {P:Program} {α:Type} [Flat α] {A:Nat→Prop} {w0 w:World} {L L':List HP} {v:Value}
def rows:List SV→List (List α)→HP
 | [],[]=>emp
 | s::ss,x::xs=>sep (bL (Flat.val s) x) (rows ss xs)
 | _,_=>fact False emp
theorem KE:∀ {ss:List SV} {xs:List (List α)} {F:Nat→Prop},(rows ss xs).p w F→ss.length=xs.length
 | [],[],_,_=>rfl
 | s::ss,x::xs,F,h=>by
  obtain ⟨F1,F2,_,h2,_,_⟩:=h
  rw [List.length_cons,List.length_cons,KE h2]
 | [],_::_,_,h=>h.1.elim
 | _::_,[],_,h=>h.1.elim
theorem GF:∀ {ss:List SV} {xs:List (List α)} {F1 F2 F:Nat→Prop} {s:SV} {x:List α},(rows ss xs).p w F1→(bL (Flat.val s) x).p w F2→(∀ b,F1 b→¬ F2 b)→(∀ b,F b↔F1 b∨F2 b)→(rows (ss++[s]) (xs++[x])).p w F
 | [],[],F1,F2,F,s,x,h1,h2,_,h4=>by
  refine ⟨F2,F1,h2,h1,λ b hb It=>h1 b It,λ b=>?_⟩
  rw [h4 b]; exact ⟨λ h=>h.symm,λ h=>h.symm⟩
 | s'::ss,x'::xs,F1,F2,F,s,x,h1,h2,h3,h4=>by
  obtain ⟨G1,G2,g1,g2,g3,g4⟩:=h1
  refine ⟨G1,λ b=>G2 b∨F2 b,g1,GF g2 h2 (λ b hb=>h3 b ((g4 b).2 (.inr hb))) (λ b=>Iff.rfl),λ b hb=>?_,λ b=>?_⟩
  ·rintro (hh | hh)
   ·exact g3 b hb hh
   ·exact h3 b ((g4 b).2 (.inl hb)) hh
  ·rw [h4 b,g4 b,or_assoc]
 | [],_::_,_,_,_,_,_,h,_,_,_=>h.1.elim
 | _::_,[],_,_,_,_,_,h,_,_,_=>h.1.elim
theorem St.zJ {ss:List SV} {xs:List (List α)} (hs:St w0 A (rows ss xs::L) w):ss.length=xs.length:=by
 obtain ⟨F,h,_⟩:=hs.head; exact KE h
theorem St.abr (hs:St w0 A L w):St w0 A (rows [] ([]:List (List α))::L) w:=
 hs.new (Ext.refl w) (F:=bD) (λ _ h=>h) λ _ h=>h.elim
theorem St.DF {ss:List SV} {xs:List (List α)} {s:SV} {x:List α} (hs:St w0 A (rows ss xs::bL (Flat.val s) x::L) w):St w0 A (rows (ss++[s]) (xs++[x])::L) w:=by
 have h:=St.join hs
 refine h.rZ λ F hF=>?_
 obtain ⟨F1,F2,h1,h2,h3,h4⟩:=hF
 exact ⟨F,GF h1 h2 h3 h4,λ b hb=>.inl hb,iH.refl _ _⟩
theorem St.fT {xs:List α} (hs:St w0 A (bL v xs::L) w):∃ s:SV,v=Flat.val s:=by
 obtain ⟨F,h,_⟩:=hs.head
 rcases h with ⟨rfl,_⟩ | ⟨b,cap,_,rfl,_⟩
 ·exact ⟨⟨none,0,0⟩,rfl⟩
 ·exact ⟨⟨_,_,_⟩,rfl⟩
theorem eL.fT {S:Nat→Prop} {xs:List α} (h:eL S w v xs):∃ s:SV,v=Flat.val s:=by
 obtain ⟨a,cap,rfl,_⟩:=h; exact ⟨⟨_,_,_⟩,rfl⟩
end
section
variable {P:Program}
theorem nq {α:Type} [Flat α] {S:Nat→Prop} {w:World} {xs:List α} {T E oy:Nat} {z:Option Nat} {v:Value} {i:Int} {K:Value→Prop} (ht:fg P T=some (E,Flat.sz α,oy,z)) (hr:eL S w v xs) (h0:0≤i) (h2:i≤xs.length)
  (k:∀ v',(∀ w',eL S w' v xs→eL S w' v' (xs.take i.toNat))→K v'):cX P (Instr.sliceAt T v none (some (.int .i64 i)) none) K:=by
 obtain ⟨a,cap,rfl,Kh,h3⟩:=hr
 refine ⟨_,Ba ht (qL (.inl ⟨rfl,rfl⟩) (.inr ⟨i,rfl,h0,rfl⟩) (Nat.zero_le _) (by omega)),k _ λ w' h=>?_⟩
 have:=h.cut rfl (Nat.zero_le i.toNat) (by omega)
 simpa using this
end
open Go.ChangeShapes Go.WideShapes Go.ChangeAt Go.RowKit
structure RdT (P:Program) (t:TypeId) (α:Type) [Flat α] (φ:α→Prop):Prop where
 cells:P.cellsOf t=Flat.sz α
 rd:∀ {H:Type} (enc:TypeId × Value→H) (w:World) (base:Nat) (sp:Nat→Bool) (held:Bool) (fuel:Nat) (cs:List Value) (x:DataW H × List MemPlace),
  DataW.trod enc P w base sp held fuel t cs=some x→∃ a:α,cs=Flat.enc a∧φ a
def oE (n:Int):Prop:=-9223372036854775808≤n∧n≤9223372036854775807
theorem Uy {P:Program} {t:TypeId} (ht:P.underlying t=some (.int .i64)) (hc:P.cellsOf t=1):RdT P t Int oE:=
 ⟨hc,λ enc w base sp held fuel cs x h=>by
  obtain ⟨n,h1,_,h3⟩:=DataW.trod_int ht h
  refine ⟨n,h1,?_⟩
  simpa [Lit.wf,IntKind.min,IntKind.max,IntKind.signed,IntKind.bits,oE] using h3⟩
theorem ahN {P:Program} {t:TypeId} (ht:P.underlying t=some .string) (hc:P.cellsOf t=1):RdT P t ByteArray (λ s=>s.size≤maxLen):=
 ⟨hc,λ enc w base sp held fuel cs x h=>by
  obtain ⟨n,h1,_,h2⟩:=DataW.trod_string ht h
  exact ⟨n,h1,h2⟩⟩
theorem oS {H:Type} {enc:TypeId × Value→H} {P:Program} {w:World} {base:Nat} {sp:Nat→Bool} {held:Bool} {fuel:Nat} {t:TypeId} {fs:Array Field} {cs:List Value} {x:DataW H × List MemPlace}
  (ht:P.underlying t=some (.struct fs)) (h:DataW.trod enc P w base sp held fuel t cs=some x) :
  cs.length=P.cellsOf t∧∃ n,∀ (i:Nat) (f:Field),fs[i]? = some f→∃ y,DataW.trod enc P w base sp held n f.type ((cs.drop f.offset).take (P.cellsOf f.type))=some y:=by
 obtain ⟨xs,n,_,_,hl,hs,hf⟩:=DataW.trod_struct ht h
 refine ⟨hl,n,λ i f hi=>?_⟩
 have mE:i<xs.length:=by rw [hs]; exact (Array.getElem?_eq_some_iff.1 hi).1
 exact ⟨xs[i],by rw [hf i f hi,List.getElem?_eq_getElem mE]⟩
theorem eB {cs:List Value} {o s:Nat} {r:List Value} (h:(cs.drop o).take s=r):cs.drop o=r++cs.drop (o+s):=by
 rw [← h,← List.drop_drop,List.take_append_drop]
theorem Qd {α:Type} {p:Nat→α→Prop}:∀ n,(∀ i,i<n→∃ x,p i x)→∃ xs:List α,xs.length=n∧∀ i x,xs[i]? = some x→p i x:=by
 intro n
 induction n with
 | zero=>intro _; exact ⟨[],rfl,by simp⟩
 | succ n ih=>
  intro h
  obtain ⟨xs,h1,h2⟩:=ih λ i hi=>h i (by omega)
  obtain ⟨x,hx⟩:=h n (by omega)
  refine ⟨xs++[x],by simp [h1],λ i y hy=>?_⟩
  by_cases hi:i<n
  ·rw [List.getElem?_append_left (by omega)] at hy; exact h2 i y hy
  ·have mE:i<(xs++[x]).length:=(List.getElem?_eq_some_iff.1 hy).1
   have:i=n:=by simp [h1] at mE; omega
   subst this
   rw [List.getElem?_append_right (by omega),h1] at hy
   simp at hy
   rw [← hy]; exact hx
theorem DG {α:Type} [Flat α] {xs:List α} {j:Nat} {c:Value} (h:(flat xs)[j]? = some c):∃ i r x,xs[i]? = some x∧(Flat.enc x)[r]? = some c∧j=i * Flat.sz α+r:=by
 have mE:j<(flat xs).length:=(List.getElem?_eq_some_iff.1 h).1
 rw [cQ] at mE
 have hp:0<Flat.sz α:=Flat.pos
 have hi:j / Flat.sz α<xs.length:=Nat.div_lt_of_lt_mul (by rw [Nat.mul_comm]; exact mE)
 have hr:j % Flat.sz α<Flat.sz α:=Nat.mod_lt _ hp
 have hj:j=j / Flat.sz α * Flat.sz α+j % Flat.sz α:=by rw [Nat.mul_comm]; exact (Nat.div_add_mod _ _).symm
 have hx:xs[j / Flat.sz α]? = some (xs[j / Flat.sz α]):=List.getElem?_eq_getElem hi
 have hc:(Flat.enc (xs[j / Flat.sz α]))[j % Flat.sz α]? = some ((Flat.enc (xs[j / Flat.sz α]))[j % Flat.sz α]'(by rw [Flat.len]; exact hr)):=List.getElem?_eq_getElem _
 have:=tO hx hc
 rw [← hj,h] at this
 exact ⟨_,_,_,hx,hc.trans this.symm,hj⟩
section
variable {H:Type} {enc:TypeId × Value→H} {P:Program} {w:World} {base:Nat} {held:Bool}
theorem abt {α:Type} [Flat α] {φ:α→Prop} {t e:TypeId} {fuel:Nat} {cs:List Value} {x:DataW H × List MemPlace} (ht:P.underlying t=some (.slice e)) (hr:RdT P e α φ)
  (h:DataW.trod enc P w base (λ _=>true) held fuel t cs=some x):∃ v,cs=[v]∧∃ xs:List α,eL (λ b=>b<w.heap.size) w v xs∧∀ x∈xs,φ x:=by
 rcases DataW.trod_slice ht h with ⟨rfl,_⟩ | ⟨a,len,cap,elems,rest,n,_,rfl,_,hb,hl,hm,hlen,hel,Nc,_⟩
 ·exact ⟨_,rfl,[],eL.nil _ _,by simp⟩
 ·refine ⟨_,rfl,?_⟩
  have get:∀ i,i<len→∃ x:α,φ x∧w.cells? base (a.add (i * P.cellsOf e)) (P.cellsOf e)=some (Flat.enc x):=by
   intro i hi
   have h1:=hel i hi
   rw [List.getElem?_eq_getElem (by omega)] at h1
   obtain ⟨cs',h2,h3⟩:=Option.bind_eq_some_iff.1 h1
   obtain ⟨x,rfl,hx⟩:=hr.rd enc w base _ held n cs' _ h3
   exact ⟨x,hx,h2⟩
  obtain ⟨xs,MM,hxs⟩:=Qd len get
  have kJ:=hr.cells
  have uN:0<Flat.sz α:=Flat.pos
  have first:∀ (c:Nat) (cs':List Value),w.cells? base (a.add (c * P.cellsOf e)) (P.cellsOf e)=some cs'→c=0→a.spot=none:=by
   intro c cs' h1 h0
   subst h0
   have:=World.cells?_some h1
   have h2:=this.2.2 0 (by rw [kJ]; exact uN)
   rw [Nat.zero_mul] at h2
   have h3:w.cell? a=cs'[0]?:=by simpa [Addr.add] using h2
   rw [List.getElem?_eq_getElem (by rw [this.2.1,kJ]; exact uN)] at h3
   unfold World.cell? at h3
   split at h3
   ·split at h3
    ·cases h3
    ·rename_i hs; simpa using hs
   ·cases h3
  refine ⟨xs,⟨some a,cap,by rw [MM],by omega,?_⟩,λ x hx=>?_⟩
  ·by_cases vr:cap=0
   ·exact .inl ⟨List.length_eq_zero_iff.1 (by omega),vr⟩
   ·right
    have zK:a.spot=none:=by
     by_cases h0:0<len
     ·obtain ⟨x,_,hx⟩:=get 0 h0
      exact first 0 _ hx rfl
     ·obtain ⟨h1,h2⟩:=Nc rfl
      have h3:=h2 0 (by omega)
      rw [List.getElem?_eq_getElem (by omega)] at h3
      obtain ⟨cs',h4,_⟩:=Option.bind_eq_some_iff.1 h3
      exact first (len+0) _ h4 (by omega)
    have yf:∀ j c,(flat xs)[j]? = some c→Cell w a.block (a.off+j) c:=by
     intro j c hj
     obtain ⟨i,r,x,hx,yD,rfl⟩:=DG hj
     have h1:=(World.cells?_some (hxs i x hx).2).2.2 r (by rw [kJ]; have:=(List.getElem?_eq_some_iff.1 yD).1; rwa [Flat.len] at this)
     rw [yD,kJ] at h1
     obtain ⟨b,o,s⟩:=a
     simp only at zK
     subst zK
     unfold Cell
     rw [← h1,gw,gw,Nat.add_assoc]
    refine ⟨a.block,a.off,by obtain ⟨b,o,s⟩:=a; simp only at zK; subst zK; rfl,λ A1=>?_,yf⟩
    obtain ⟨y,ys,rfl⟩:=List.exists_cons_of_ne_nil A1
    have h0:(flat (y::ys))[0]? = some ((Flat.enc y)[0]'(by rw [Flat.len]; exact uN)):=by
     rw [iI,List.getElem?_append_left (by rw [Flat.len]; exact uN),List.getElem?_eq_getElem]
    exact (yf 0 _ h0).lt
  ·obtain ⟨i,hi⟩:=List.getElem?_of_mem hx
   exact (hxs i x hi).1
theorem abu {α:Type} [Flat α] {φ:α→Prop} {t e:TypeId} {r:Reach} {b0:Nat} {v:Value} {d:DataW H} {ps:List MemPlace} (ht:P.underlying t=some (.slice e)) (hr:RdT P e α φ)
  (hval:Value.okWide P w r b0 t v) (hd:DataW.Trod enc P w base (λ _=>true) held t v d ps):∃ xs:List α,eL (λ b=>b<w.heap.size) w v xs∧∀ x∈xs,φ x:=by
 obtain ⟨fuel,hf⟩:=hd
 obtain ⟨u,hu,h⟩:=abt ht hr hf
 have hv:v=u:=by
  have h1:=hval
  unfold Value.okWide at h1
  rw [ht] at h1
  cases v with
  | slice a n c=>exact (List.cons.inj (show [Value.slice a n c]=[u] from hu)).1
  | _=>
   have h2:Cell.okWide P w r b0 t _:=h1
   unfold Cell.okWide at h2
   rw [ht] at h2
   simp only [Cell.ok,ht] at h2
 subst hv
 exact h
theorem open_i64 {r:Reach} {b0:Nat} {t:TypeId} {v:Value} {d:DataW H} {ps:List MemPlace} {sp:Nat→Bool} (ht:P.underlying t=some (.int .i64)) (hval:Value.okWide P w r b0 t v) (hd:DataW.Trod enc P w base sp held t v d ps) :
  ∃ n,v = .int .i64 n∧oE n:=by
 obtain ⟨n,h1,_,_,h4⟩:=open_int ht hval hd
 exact ⟨n,h1,by simpa [Lit.wf,IntKind.min,IntKind.max,IntKind.signed,IntKind.bits,oE] using h4⟩
theorem open_i64s {t e:TypeId} {r:Reach} {b0:Nat} {v:Value} {d:DataW H} {ps:List MemPlace} (ht:P.underlying t=some (.slice e)) (he:P.underlying e=some (.int .i64)) (hc:P.cellsOf e=1)
  (hval:Value.okWide P w r b0 t v) (hd:DataW.Trod enc P w base (λ _=>true) held t v d ps):∃ xs:List Int,eL (λ b=>b<w.heap.size) w v xs∧∀ x∈xs,oE x:=
 abu ht (Uy he hc) hval hd
def Iu (P:Program) (ts:List TypeId):Bool:=ts.all λ t=>P.readableRec t && decide (t<P.types.size)
theorem yg (hl:laidOutB P=true) {W W':World} (hb:Below W.heap.size W W') {sp:Nat→Bool}:∀ {ts:List TypeId} {vs:List Value} {ds:List (DataW H)} {ps:List MemPlace},Iu P ts=true→(∀ x∈ps,x.block<W.heap.size)→
  (∀ x∈ps,sp x.block=true)→DataW.TrodAll enc P W 0 (λ _=>true) true ts vs ds ps→DataW.TrodAll enc P W' 0 sp true ts vs ds ps
 | [],vs,ds,ps,_,_,_,h=>by obtain ⟨rfl,rfl,rfl⟩:=trodAll_nil h; exact trodAll_mk0
 | t::ts,vs,ds,ps,hr,mE,Nc,h=>by
  obtain ⟨v,vs1,d,ds1,a,b,rfl,rfl,rfl,h1,h2⟩:=trodAll_cons h
  have Yh:P.readableRec t=true∧t<P.types.size∧Iu P ts=true:=by
   unfold Iu at hr
   rw [List.all_cons,Bool.and_eq_true,Bool.and_eq_true,decide_eq_true_eq] at hr
   exact ⟨hr.1.1,hr.1.2,hr.2⟩
  refine trodAll_cons_mk (WideElems.Trod_stays hl Yh.1 Yh.2.1 h1 (λ x hx=>hb.same (mE x (List.mem_append_left _ hx))) (λ x hx=>Nc x (List.mem_append_left _ hx))) ?_
  exact yg hl hb Yh.2.2 (λ x hx=>mE x (List.mem_append_right _ hx)) (λ x hx=>Nc x (List.mem_append_right _ hx)) h2
theorem post_true {f:Func} {s:ChangeSpec} {apart fresh handsOn again:Bool} {W W':World} {args:Array Value} {ds gs:List (DataW H)} {before:List MemPlace} {tb:TypeId}
  (aeS:s.vars=[]) (KF:∀ ds:List (DataW H),ds.length=f.params.size→s.fn H ds={results:=[.lit (.bool true)],args:=ds}) (aoh:f.resultTypes = #[tb]) (htb:P.underlying tb=some .bool)
  (hl:laidOutB P=true) (avM:Iu P f.params.toList=true)
  (hW:DataW.Whole enc P f.params.toList s.vars apart W args.toList ds gs before) (hb:Below W.heap.size W W') :
  s.post enc P f apart fresh handsOn again W args (.bool true) W':=by
 have hW':=hW
 obtain ⟨p,q,hA,hV,hpq,hz,hn⟩:=hW
 have mE:∀ x∈before,x.block<W.heap.size:=hW'.lt
 rw [aeS] at hV
 obtain ⟨rfl,rfl⟩:=trodVars_none hV
 simp only [List.append_nil] at hpq
 have hlen:ds.length=f.params.size:=by
  have:=(trodAll_length hA).2
  simpa using this
 have ahO:=KF ds hlen
 have aeT:∀ (b:Nat) (sp:Nat→Bool) (hd:Bool),DataW.TrodAll enc P W' b sp hd f.resultTypes.toList ((Value.bool true).resultList f.resultTypes.size) (s.fn H (ds++[])).results []:=λ b sp hd=>by
  rw [List.append_nil,ahO,aoh]
  exact trodAll_mk1 (shut_bool htb true)
 have hargs:∀ sp:Nat→Bool,(∀ p∈before,sp p.block=true)→DataW.TrodAll enc P W' 0 sp true f.params.toList args.toList (s.fn H (ds++[])).args before:=λ sp Nc=>by
  rw [List.append_nil,ahO]
  rw [hpq] at mE Nc ⊢
  exact yg hl hb avM mE Nc hA
 have Uz:∀ sp:Nat→Bool,DataW.TrodVars enc P W' sp s.vars (s.fn H (ds++[])).vars []:=λ sp=>by
  rw [List.append_nil,ahO,aeS]; rfl
 have oF:∀ (j:Nat) (t:TypeId) (r:Value),f.resultTypes[j]? = some t→((Value.bool true).resultList f.resultTypes.size)[j]? = some r→Value.okWide P W' .any 0 t r:=
  ok_one aoh rfl (okWide_bool_mk htb true)
 have hold:∀ p∈before,(λ b=>decide (b<W.heap.size)) p.block=true:=λ p hp=>by simpa using mE p hp
 refine ⟨ds,[],before,[],before,[],hW',aeT _ _ _,hargs _ hold,Uz _,World.keptBut_mono (λ p hp=>⟨hp,?_⟩) (hb.frame (·∈before)),λ _=>?_⟩
 ·simpa using hp
 ·refine ⟨oF,_,_,([]++before)++[],⟨[]++before,[],trodAll_append (hargs _ (λ _ _=>rfl)) (aeT _ _ _),Uz _,rfl,?_,?_⟩,?_⟩
  ·intro b off hp
   have hp':MemPlace.cell b off∈before:=by simpa using hp
   rw [hb.frozen (p:=⟨b,off,none⟩) (mE _ hp')]
   exact hz b off hp'
  ·intro ha; simpa using hn ha
  ·intro p hp _; simpa using hp
end
section
variable {P:Program} {α:Type} [Flat α]
def aoi (P:Program) (T n E:Nat):Prop:=P.underlying T=some (.array n E)∧pr P (sizeOf E)=some 1
theorem nX {T E n b o:Nat} {i:Int} {K:Value→Prop} (h:aoi P T n E) (h0:0≤i) (h1:i<n) (k:K (.pointer (some ⟨b,o+i.toNat,none⟩))) :
  cX P (Instr.indexAt T (.pointer (some ⟨b,o,none⟩)) (.int .i64 i)) K:=by
 refine ⟨_,?_,k⟩
 unfold Instr.indexAt
 have e1:pr P (underlying T)=some (.array n E):=cM h.1
 have e3:pr P (Instr.sureAddr (.pointer (some (⟨b,o,none⟩:Addr))))=some ⟨b,o,none⟩:=rfl
 simp only [asIntOf,cN,e1,Option.bind_some,fc,e3]
 simp only [if_pos (show 0≤i∧i<(n:Int) from ⟨h0,h1⟩),cN,h.2,Option.bind_some,fc,gw,Nat.mul_one]
end
theorem Qe {α:Type} [Flat α] {P:Program} {w w0:World} {A:Nat→Prop} {L:List HP} {xs:List α} {T:Nat} {v p:Value} {i:Nat} {x:α} (hs:St w0 A (bL v xs::L) w) (ht:cS P T=some (Flat.agg α,Flat.sz α)) (hp:Gz α v i p) (hx:xs[i]? = some x) :
  (Instr.loadAt T p).run P w = .ok (Flat.val x) w:=by
 obtain ⟨F,h,_⟩:=hs.head
 obtain ⟨b,cap,rest,hv,hb,hl,_⟩:=qM h (List.getElem?_eq_some_iff.1 hx).1
 obtain ⟨b',n,c,Dq,rfl⟩:=hp
 rw [hv] at Dq
 simp only [Value.slice.injEq,Option.some.injEq,Addr.mk.injEq] at Dq
 obtain ⟨⟨rfl,_,_⟩,_,_⟩:=Dq
 refine fP (S:=λ _=>True) ht ⟨b,i * Flat.sz α,rfl,trivial,λ j c hj=>hb.cell ?_⟩
 have:=tO hx hj
 rw [List.getElem?_append_left (List.getElem?_eq_some_iff.1 this).1]; exact this
class cD (α:Type) (σ:outParam Type) [Flat σ] where
 dr:World→σ→α→Prop
 ext:∀ {w w':World} {s:σ} {x:α},dr w s x→Ext w w'→dr w' s x
def DL {α σ:Type} [Flat σ] [cD α σ] (w:World) (v:Value) (xs:List α):Prop:=
 ∃ ts:List σ,eL (λ _=>True) w v ts∧ts.length=xs.length∧∀ (i:Nat) (t:σ) (x:α),ts[i]? = some t→xs[i]? = some x→cD.dr w t x
section
variable {P:Program} {α σ:Type} [Flat σ] [cD α σ] {w w' w0:World} {v:Value} {A:Nat→Prop} {L:List HP}
theorem DL.ext {xs:List α} (h:DL w v xs) (e:Ext w w'):DL w' v xs:=by
 obtain ⟨ts,h1,h2,h3⟩:=h; exact ⟨ts,h1.ext e,h2,λ i t x a b=>cD.ext (h3 i t x a b) e⟩
theorem DL.nil (w:World):DL w (.slice none 0 0) ([]:List α):=⟨[],eL.nil _ _,rfl,λ i t x h=>by simp at h⟩
theorem DL.fT {xs:List α} (h:DL w v xs):∃ s:SV,v=Flat.val s:=by obtain ⟨_,h,_⟩:=h; exact h.fT
instance:cD (List α) SV where
 dr w s xs:=DL w (Flat.val s) xs
 ext h e:=DL.ext h e
def eY (Φ:World→Prop):HP where
 p w F:=(∀ w':World,(∀ b,F b→w'.heap[b]? = w.heap[b]?)→Φ w')∧∀ b,F b→b<w.heap.size
 loc w w' F h hh:=⟨λ w2 h2=>h.1 w2 λ b hb=>(h2 b hb).trans (hh b hb),λ b hb=>by
  have:=h.2 b hb
  have h3:=hh b hb
  rw [Array.getElem?_eq_getElem this] at h3
  exact (Array.getElem?_eq_some_iff.1 h3).1⟩
 lt w F b h hb:=h.2 b hb
theorem eY.now {Φ:World→Prop} {F:Nat→Prop} (h:(eY Φ).p w F):Φ w:=h.1 w λ _ _=>rfl
theorem St.eY {Φ:World→Prop} (hs:St w0 A (eY Φ::L) w):Φ w:=by obtain ⟨F,h,_⟩:=hs.head; exact eY.now h
theorem St.dQ {Φ Ψ:World→Prop} (hs:St w0 A (Fw.eY Φ::L) w) (hk:∀ w,Φ w→Ψ w):St w0 A (Fw.eY Ψ::L) w:=
 hs.rZ λ F hF=>⟨F,⟨λ w' h=>hk _ (hF.1 w' h),hF.2⟩,λ b hb=>.inl hb,iH.refl _ _⟩
theorem St.fK {Φ Ψ:World→Prop} (hs:St w0 A (Fw.eY Φ::Fw.eY Ψ::L) w):St w0 A (Fw.eY (λ w=>Φ w∧Ψ w)::L) w:=by
 have h:=St.join hs
 refine h.rZ λ F hF=>?_
 obtain ⟨F1,F2,h1,h2,h3,h4⟩:=hF
 refine ⟨F,⟨λ w' hh=>⟨h1.1 w' λ b hb=>hh b ((h4 b).2 (.inl hb)),h2.1 w' λ b hb=>hh b ((h4 b).2 (.inr hb))⟩,λ b hb=>?_⟩,λ b hb=>.inl hb,iH.refl _ _⟩
 rcases (h4 b).1 hb with hb | hb
 ·exact h1.2 b hb
 ·exact h2.2 b hb
theorem St.gI {Φ:World→Prop} (hs:St w0 A L w) (h:∀ w,Φ w):St w0 A (Fw.eY Φ::L) w:=
 hs.new (Ext.refl w) (F:=bD) ⟨λ w' _=>h w',λ b hb=>hb.elim⟩ λ _ h=>h.elim
theorem St.freeze {xs:List σ} (hs:St w0 A (bL v xs::L) w):St w0 A (Fw.eY (λ w=>eL (λ _=>True) w v xs)::L) w:=
 hs.rZ λ F hF=>⟨F,⟨λ w' h=>(bL.rd ((bL v xs).loc _ _ _ hF h)).mono λ _ _=>trivial,λ b hb=>(bL v xs).lt _ _ _ hF hb⟩,λ b hb=>.inl hb,iH.refl _ _⟩
theorem St.qN {b:Nat} {cs:List Value} (hs:St w0 A (cC b cs::L) w):St w0 A (Fw.eY (λ w=>tM w b cs)::L) w:=
 hs.rZ λ F hF=>⟨F,⟨λ w' h=>((cC b cs).loc _ _ _ hF h).1,λ k hk=>(cC b cs).lt _ _ _ hF hk⟩,λ b hb=>.inl hb,iH.refl _ _⟩
def lg (ts:List σ) (xs:List α) (w:World):Prop:=ts.length=xs.length∧∀ (i:Nat) (t:σ) (x:α),ts[i]? = some t→xs[i]? = some x→cD.dr w t x
theorem lg.nil:lg ([]:List σ) ([]:List α) w:=⟨rfl,λ i t x h=>by simp at h⟩
theorem lg.snoc {ts:List σ} {xs:List α} {t:σ} {x:α} (h:lg ts xs w) (ht:cD.dr w t x):lg (ts++[t]) (xs++[x]) w:=by
 refine ⟨by rw [List.length_append,List.length_append,h.1]; rfl,λ i t' x' h1 h2=>?_⟩
 rcases Nat.lt_or_ge i ts.length with hi | hi
 ·rw [List.getElem?_append_left hi] at h1
  rw [List.getElem?_append_left (by rw [← h.1]; exact hi)] at h2
  exact h.2 i t' x' h1 h2
 ·have mE:=(List.getElem?_eq_some_iff.1 h1).1
  rw [List.length_append,List.length_singleton] at mE
  obtain rfl:i=ts.length:=by omega
  rw [List.getElem?_append_right (Nat.le_refl _),Nat.sub_self] at h1
  rw [List.getElem?_append_right (by rw [h.1]; exact Nat.le_refl _),h.1,Nat.sub_self] at h2
  rw [← Option.some.inj h1,← Option.some.inj h2]; exact ht
theorem lg.append {ts us:List σ} {xs ys:List α} (h:lg ts xs w) (g:lg us ys w):lg (ts++us) (xs++ys) w:=by
 refine ⟨by rw [List.length_append,List.length_append,h.1,g.1],λ i t' x' h1 h2=>?_⟩
 rcases Nat.lt_or_ge i ts.length with hi | hi
 ·rw [List.getElem?_append_left hi] at h1
  rw [List.getElem?_append_left (by rw [← h.1]; exact hi)] at h2
  exact h.2 i t' x' h1 h2
 ·rw [List.getElem?_append_right hi] at h1
  rw [List.getElem?_append_right (by rw [← h.1]; exact hi),← h.1] at h2
  exact g.2 _ t' x' h1 h2
theorem DL.of {ts:List σ} {xs:List α} (h:eL (λ _=>True) w v ts) (g:lg ts xs w):DL w v xs:=⟨ts,h,g.1,g.2⟩
theorem DL.open {xs:List α} (h:DL w v xs):∃ ts:List σ,eL (λ _=>True) w v ts∧lg ts xs w:=by obtain ⟨ts,h1,h2,h3⟩:=h; exact ⟨ts,h1,h2,h3⟩
theorem lg.take {ts:List σ} {xs:List α} (h:lg ts xs w) (k:Nat):lg (ts.take k) (xs.take k) w:=by
 refine ⟨by rw [List.length_take,List.length_take,h.1],λ i t x a b=>?_⟩
 rw [List.getElem?_take] at a b
 split at a
 ·rename_i hi; rw [if_pos hi] at b; exact h.2 i t x a b
 ·cases a
theorem lg.drop {ts:List σ} {xs:List α} (h:lg ts xs w) (k:Nat):lg (ts.drop k) (xs.drop k) w:=by
 refine ⟨by rw [List.length_drop,List.length_drop,h.1],λ i t x a b=>?_⟩
 rw [List.getElem?_drop] at a b
 exact h.2 _ t x a b
end
section
variable {α:Type} [Flat α]
abbrev jk:cD α α:=⟨λ _ s x=>s=x,λ h _=>h⟩
theorem GG [D:cD α α] (hD:∀ w s x,D.dr w s x↔s=x) {w:World} {ts xs:List α}:lg ts xs w↔ts=xs:=by
 constructor
 ·rintro ⟨h1,h2⟩
  refine List.ext_getElem? λ i=>?_
  rcases Nat.lt_or_ge i ts.length with hi | hi
  ·have a:=List.getElem?_eq_getElem hi
   have b:=List.getElem?_eq_getElem (l:=xs) (by rw [← h1]; exact hi)
   rw [a,b,(hD _ _ _).1 (h2 i _ _ a b)]
  ·rw [List.getElem?_eq_none hi,List.getElem?_eq_none (by rw [← h1]; exact hi)]
 ·rintro rfl
  exact ⟨rfl,λ i t x a b=>(hD _ _ _).2 (Option.some.inj (a.symm.trans b))⟩
end
instance:cD Int Int:=jk
instance:cD Bool Bool:=jk
instance:cD ByteArray ByteArray:=jk
structure RdW (P:Program) (w:World) (t:TypeId) (α:Type) [Flat α] (φ:α→Prop):Prop where
 cells:P.cellsOf t=Flat.sz α
 rd:∀ {H:Type} (enc:TypeId × Value→H) (base:Nat) (held:Bool) (fuel:Nat) (cs:List Value) (x:DataW H × List MemPlace),
  DataW.trod enc P w base (λ _=>true) held fuel t cs=some x→∃ a:α,cs=Flat.enc a∧φ a
def Bh (P:Program) (t:TypeId) (α:Type) {σ:Type} [Flat σ] [cD α σ] (φ:α→Prop):Prop:=∀ w,RdW P w t σ (λ s=>∃ a:α,cD.dr w s a∧φ a)
theorem RdT.deep {P:Program} {t:TypeId} {α:Type} [Flat α] [D:cD α α] {φ:α→Prop} (h:RdT P t α φ) (hD:∀ w (x:α),D.dr w x x):Bh P t α φ:=
 λ w=>⟨h.cells,λ enc base held fuel cs x hx=>by
  obtain ⟨a,h1,h2⟩:=h.rd enc w base _ held fuel cs x hx; exact ⟨a,h1,a,hD w a,h2⟩⟩
section
variable {H:Type} {enc:TypeId × Value→H} {P:Program} {w:World} {base:Nat} {held:Bool}
theorem UA {α:Type} [Flat α] {φ:α→Prop} {t e:TypeId} {fuel:Nat} {cs:List Value} {x:DataW H × List MemPlace} (ht:P.underlying t=some (.slice e)) (hr:RdW P w e α φ)
  (h:DataW.trod enc P w base (λ _=>true) held fuel t cs=some x):∃ v,cs=[v]∧∃ xs:List α,eL (λ b=>b<w.heap.size) w v xs∧∀ x∈xs,φ x:=by
 rcases DataW.trod_slice ht h with ⟨rfl,_⟩ | ⟨a,len,cap,elems,rest,n,_,rfl,_,hb,hl,hm,hlen,hel,Nc,_⟩
 ·exact ⟨_,rfl,[],eL.nil _ _,by simp⟩
 ·refine ⟨_,rfl,?_⟩
  have get:∀ i,i<len→∃ x:α,φ x∧w.cells? base (a.add (i * P.cellsOf e)) (P.cellsOf e)=some (Flat.enc x):=by
   intro i hi
   have h1:=hel i hi
   rw [List.getElem?_eq_getElem (by omega)] at h1
   obtain ⟨cs',h2,h3⟩:=Option.bind_eq_some_iff.1 h1
   obtain ⟨x,rfl,hx⟩:=hr.rd enc base held n cs' _ h3
   exact ⟨x,hx,h2⟩
  obtain ⟨xs,MM,hxs⟩:=Qd len get
  have kJ:=hr.cells
  have uN:0<Flat.sz α:=Flat.pos
  have first:∀ (c:Nat) (cs':List Value),w.cells? base (a.add (c * P.cellsOf e)) (P.cellsOf e)=some cs'→c=0→a.spot=none:=by
   intro c cs' h1 h0
   subst h0
   have:=World.cells?_some h1
   have h2:=this.2.2 0 (by rw [kJ]; exact uN)
   rw [Nat.zero_mul] at h2
   have h3:w.cell? a=cs'[0]?:=by simpa [Addr.add] using h2
   rw [List.getElem?_eq_getElem (by rw [this.2.1,kJ]; exact uN)] at h3
   unfold World.cell? at h3
   split at h3
   ·split at h3
    ·cases h3
    ·rename_i hs; simpa using hs
   ·cases h3
  refine ⟨xs,⟨some a,cap,by rw [MM],by omega,?_⟩,λ x hx=>?_⟩
  ·by_cases vr:cap=0
   ·exact .inl ⟨List.length_eq_zero_iff.1 (by omega),vr⟩
   ·right
    have zK:a.spot=none:=by
     by_cases h0:0<len
     ·obtain ⟨x,_,hx⟩:=get 0 h0
      exact first 0 _ hx rfl
     ·obtain ⟨h1,h2⟩:=Nc rfl
      have h3:=h2 0 (by omega)
      rw [List.getElem?_eq_getElem (by omega)] at h3
      obtain ⟨cs',h4,_⟩:=Option.bind_eq_some_iff.1 h3
      exact first (len+0) _ h4 (by omega)
    have yf:∀ j c,(flat xs)[j]? = some c→Cell w a.block (a.off+j) c:=by
     intro j c hj
     obtain ⟨i,r,x,hx,yD,rfl⟩:=DG hj
     have h1:=(World.cells?_some (hxs i x hx).2).2.2 r (by rw [kJ]; have:=(List.getElem?_eq_some_iff.1 yD).1; rwa [Flat.len] at this)
     rw [yD,kJ] at h1
     obtain ⟨b,o,s⟩:=a
     simp only at zK
     subst zK
     unfold Cell
     rw [← h1,gw,gw,Nat.add_assoc]
    refine ⟨a.block,a.off,by obtain ⟨b,o,s⟩:=a; simp only at zK; subst zK; rfl,λ A1=>?_,yf⟩
    obtain ⟨y,ys,rfl⟩:=List.exists_cons_of_ne_nil A1
    have h0:(flat (y::ys))[0]? = some ((Flat.enc y)[0]'(by rw [Flat.len]; exact uN)):=by
     rw [iI,List.getElem?_append_left (by rw [Flat.len]; exact uN),List.getElem?_eq_getElem]
    exact (yf 0 _ h0).lt
  ·obtain ⟨i,hi⟩:=List.getElem?_of_mem hx
   exact (hxs i x hi).1
theorem UB {α σ:Type} [Flat σ] [cD α σ] {φ:α→Prop}:∀ (ts:List σ),(∀ s∈ts,∃ a:α,cD.dr w s a∧φ a)→∃ xs:List α,lg ts xs w∧∀ x∈xs,φ x
 | [],_=>⟨[],lg.nil,by simp⟩
 | t::ts,h=>by
  obtain ⟨a,h1,h2⟩:=h t (by simp)
  obtain ⟨xs,h3,h4⟩:=UB ts λ s hs=>h s (List.mem_cons_of_mem _ hs)
  refine ⟨a::xs,?_,λ x hx=>?_⟩
  ·have:lg ([]++[t]) ([]++[a]) w:=lg.nil.snoc h1
   exact this.append h3
  ·rcases List.mem_cons.1 hx with rfl | hx
   ·exact h2
   ·exact h4 x hx
theorem Bh.slice {α σ:Type} [Flat σ] [cD α σ] {φ:α→Prop} {t e:TypeId} (ht:P.underlying t=some (.slice e)) (hc:P.cellsOf t=1) (hr:Bh P e α φ):Bh P t (List α) (λ xs=>∀ x∈xs,φ x):=
 λ w=>⟨hc,λ enc base held fuel cs x hx=>by
  obtain ⟨v,rfl,ts,h1,h2⟩:=UA ht (hr w) hx
  obtain ⟨xs,h3,h4⟩:=UB ts h2
  have h1':eL (λ _=>True) w v ts:=h1.mono λ _ _=>trivial
  obtain ⟨s,rfl⟩:=h1'.fT
  exact ⟨s,rfl,xs,DL.of h1' h3,h4⟩⟩
theorem open_dst {α σ:Type} [Flat σ] [cD α σ] {φ:α→Prop} {t:TypeId} {fs:Array Field} {r:Reach} {b0:Nat} {v:Value} {d:DataW H} {ps:List MemPlace} (ht:P.underlying t=some (.struct fs)) (ha:Flat.agg σ=true)
  (hr:Bh P t α φ) (hval:Value.okWide P w r b0 t v) (hd:DataW.Trod enc P w base (λ _=>true) held t v d ps):∃ (s:σ) (x:α),v=Flat.val s∧cD.dr w s x∧φ x:=by
 obtain ⟨fuel,hf⟩:=hd
 obtain ⟨s,hs,x,h1,h2⟩:=(hr w).rd enc base held fuel _ _ hf
 unfold Value.okWide at hval
 rw [ht] at hval
 obtain ⟨cs,rfl,_⟩:=hval
 refine ⟨s,x,?_,h1,h2⟩
 rw [Flat.oz ha,← hs]
 simp [Value.cells]
end
def rf (x:Int):Int:=IntKind.i64.wrap x
section
variable {P:Program} {T:Nat} {cx cy:Bool} {a b:Int} {K:Value→Prop}
theorem KG (k:K (.int .i64 (rf (a+b)))):cX P (iQ .add T cx cy (.int .i64 a) (.int .i64 b)) K:=⟨_,rfl,k⟩
theorem DH (k:K (.int .i64 (rf (a - b)))):cX P (iQ .sub T cx cy (.int .i64 a) (.int .i64 b)) K:=⟨_,rfl,k⟩
theorem KH (k:K (.int .i64 (rf (a * b)))):cX P (iQ .mul T cx cy (.int .i64 a) (.int .i64 b)) K:=⟨_,rfl,k⟩
theorem UC (k:K (.int .i64 (rf (0 - a)))):cX P (Op.unary .neg (.int .i64 a)) K:=⟨_,rfl,k⟩
theorem UD (h:b≠0) (k:K (.int .i64 (rf (a.tdiv b)))):cX P (iQ .quo T cx cy (.int .i64 a) (.int .i64 b)) K:=by
 refine ⟨_,?_,k⟩
 show pr P (Op.intDiv .quo .i64 a b)=_
 unfold Op.intDiv
 rw [if_neg h]; rfl
theorem UE (h:b≠0) (k:K (.int .i64 (a.tmod b))):cX P (iQ .rem T cx cy (.int .i64 a) (.int .i64 b)) K:=by
 refine ⟨_,?_,k⟩
 show pr P (Op.intDiv .rem .i64 a b)=_
 unfold Op.intDiv
 rw [if_neg h]; rfl
end
theorem Ns {α:Type} [Flat α] {P:Program} {w w0:World} {A:Nat→Prop} {L:List HP} {xs:List α} {T E oy:Nat} {z:Option Nat} {v:Value} {i:Int} {K:Value→Prop} (ht:fg P T=some (E,Flat.sz α,oy,z))
  (hs:St w0 A (bL v xs::L) w) (h0:0≤i) (h1:i≤xs.length) (k:∀ v',St w0 A (bL v' (xs.take i.toNat)::L) w→K v'):cX P (Instr.sliceAt T v none (some (.int .i64 i)) none) K:=by
 obtain ⟨a,cap,hv,Kh,_⟩:=hs.fM
 refine ⟨_,(by rw [hv]; exact Ba ht (qL (.inl ⟨rfl,rfl⟩) (.inr ⟨i,rfl,h0,rfl⟩) (Nat.zero_le _) (by omega))),k _ ?_⟩
 refine hs.rZ λ F hF=>?_
 rcases hF with ⟨hv0,hx,fQ⟩ | ⟨b,Ki,rest,Dq,hb,hl,hF⟩
 ·rw [hv0] at hv
  subst hx
  simp only [Value.slice.injEq] at hv
  obtain ⟨rfl,_,rfl⟩:=hv
  have hi:i.toNat=0:=by simp at h1; omega
  refine ⟨F,.inl ⟨?_,by simp,fQ⟩,λ b hb=>.inl hb,iH.refl _ _⟩
  rw [hi]; rfl
 ·rw [Dq] at hv
  simp only [Value.slice.injEq] at hv
  obtain ⟨rfl,_,rfl⟩:=hv
  refine ⟨F,.inr ⟨b,Ki,flat (xs.drop i.toNat)++rest,?_,?_,?_,hF⟩,λ b hb=>.inl hb,iH.refl _ _⟩
  ·have Df:(xs.take i.toNat).length=i.toNat:=by rw [List.length_take]; omega
   rw [Df]
   simp [gw]
  ·rw [← List.append_assoc,← ix,List.take_append_drop]; exact hb
  ·rw [← List.append_assoc,← ix,List.take_append_drop]; exact hl
section
variable {P:Program} {w w':World} {v:Value}
theorem DL.flat {α:Type} [Flat α] [D:cD α α] {xs:List α} (h:DL w v xs) (hD:∀ w s x,D.dr w s x↔s=x:=by intros; exact Iff.rfl):eL (λ _=>True) w v xs:=by
 obtain ⟨ts,h1,h2⟩:=h.open
 rw [(GG hD).1 h2] at h1; exact h1
theorem DL.fp {α:Type} [Flat α] [D:cD α α] {xs:List α} (h:eL (λ _=>True) w v xs) (hD:∀ w s x,D.dr w s x↔s=x:=by intros; exact Iff.rfl):DL w v xs:=DL.of h ((GG hD).2 rfl)
theorem KI {α:Type} [Flat α] {S:Nat→Prop} {xs:List α} {T E oy:Nat} {z:Option Nat} {lo hi:Option Value} {l h:Nat} {K:Value→Prop} (ht:fg P T=some (E,Flat.sz α,oy,z)) (hr:eL S w v xs)
  (hl:lo=none∧l=0∨∃ i:Int,lo=some (.int .i64 i)∧0≤i∧l=i.toNat) (hh:hi=none∧h=xs.length∨∃ i:Int,hi=some (.int .i64 i)∧0≤i∧h=i.toNat)
  (h1:l≤h) (h2:h≤xs.length) (k:∀ v',(∀ w',eL S w' v xs→eL S w' v' ((xs.take h).drop l))→K v'):cX P (Instr.sliceAt T v lo hi none) K:=by
 obtain ⟨a,cap,rfl,Kh,h3⟩:=hr
 exact ⟨_,Ba ht (qL hl hh h1 (by omega)),k _ λ w' hw=>hw.cut rfl h1 h2⟩
theorem rh {α:Type} [Flat α] {S:Nat→Prop} {xs:List α} {T E oy:Nat} {z:Option Nat} {i:Int} {K:Value→Prop} (ht:fg P T=some (E,Flat.sz α,oy,z)) (hr:eL S w v xs)
  (h0:0≤i) (h2:i≤xs.length) (k:∀ v',(∀ w',eL S w' v xs→eL S w' v' (xs.drop i.toNat))→K v'):cX P (Instr.sliceAt T v (some (.int .i64 i)) none none) K:=
 KI ht hr (.inr ⟨i,rfl,h0,rfl⟩) (.inl ⟨rfl,rfl⟩) (by omega) (Nat.le_refl _) λ v' h=>k v' λ w' hw=>by have:=h w' hw; rwa [List.take_length] at this
theorem iJ {α:Type} [Flat α] {S:Nat→Prop} {xs:List α} {T E oy:Nat} {z:Option Nat} {i j:Int} {K:Value→Prop} (ht:fg P T=some (E,Flat.sz α,oy,z)) (hr:eL S w v xs)
  (h0:0≤i) (h1:i≤j) (h2:j≤xs.length) (k:∀ v',(∀ w',eL S w' v xs→eL S w' v' ((xs.take j.toNat).drop i.toNat))→K v'):cX P (Instr.sliceAt T v (some (.int .i64 i)) (some (.int .i64 j)) none) K:=
 KI ht hr (.inr ⟨i,rfl,h0,rfl⟩) (.inr ⟨j,rfl,by omega,rfl⟩) (by omega) (by omega) k
theorem DL.cut {α σ:Type} [Flat σ] [cD α σ] {xs:List α} {ts:List σ} {v':Value} {l h:Nat} (hq:∀ w',eL (λ _=>True) w' v ts→eL (λ _=>True) w' v' ((ts.take h).drop l)) (hR:eL (λ _=>True) w v ts) (hD:lg ts xs w):DL w v' ((xs.take h).drop l):=
 DL.of (hq w hR) ((hD.take h).drop l)
theorem DL.KJ {α σ:Type} [Flat σ] [cD α σ] {xs:List α} {ts:List σ} {v':Value} {l:Nat} (hq:∀ w',eL (λ _=>True) w' v ts→eL (λ _=>True) w' v' (ts.drop l)) (hR:eL (λ _=>True) w v ts) (hD:lg ts xs w):DL w v' (xs.drop l):=
 DL.of (hq w hR) (hD.drop l)
theorem DI {a b:ByteArray}:(a.toList == b.toList)=decide (a=b):=by
 rw [ByteArray.toList_eq,ByteArray.toList_eq,Bool.eq_iff_iff,beq_iff_eq,decide_eq_true_eq]
 constructor
 ·intro h
  obtain ⟨a⟩:=a
  obtain ⟨b⟩:=b
  simp only [ByteArray.mk.injEq]
  exact Array.toList_inj.1 h
 ·rintro rfl; rfl
theorem ub {T:Nat} {cx cy:Bool} {a b:ByteArray} {K:Value→Prop} (k:K (.bool (decide (a=b)))):cX P (iQ .eql T cx cy (.string a) (.string b)) K:=by
 rw [← DI] at k
 exact ⟨_,rfl,k⟩
theorem oT {T:Nat} {cx cy:Bool} {a b:ByteArray} {K:Value→Prop} (k:K (.bool (decide (¬ a=b)))):cX P (iQ .neq T cx cy (.string a) (.string b)) K:=by
 refine ⟨_,rfl,?_⟩
 have:(!(a.toList == b.toList))=decide (¬ a=b):=by rw [DI]; by_cases h:a=b <;> simp [h]
 rw [this]; exact k
end
def lx (s:ByteArray):List UInt8:=s.data.toList
theorem dX (s:ByteArray):(lx s).length=s.size:=by unfold lx; rw [Array.length_toList]; rfl
theorem abv (s:ByteArray) (i:Nat):(lx s)[i]? = if h:i<s.size then some (s[i]'h) else none:=by
 unfold lx
 by_cases h:i<s.size
 ·rw [dif_pos h,Array.getElem?_toList]
  exact Array.getElem?_eq_getElem h
 ·rw [dif_neg h,List.getElem?_eq_none]
  rw [Array.length_toList]; exact Nat.le_of_not_lt h
section
variable {P:Program} {T R:Nat} {cx cy:Bool} {a b:Int} {K:Value→Prop}
theorem gh {s:ByteArray} (hT:P.underlying T=some .string) (k:K (.int .i64 (s.size:Int))):cX P (Builtin.len_ #[T] R [Value.string s].toArray) K:=by
 refine ⟨_,?_,k⟩
 show pr P (do
  match ← underlying T,Value.string s with
  | .string,.string s=>pure (goInt s.size)
  | .array n _,_=>pure (goInt n)
  | .pointer arr,_=>
   let .array n _ ← underlying arr | stuck "len: pointer to array expected"
   pure (goInt n)
  | .slice _,.slice _ n _=>pure (goInt n)
  | .map _ _,.map none | .chan _ _,.chan none=>pure (goInt 0)
  | .map _ _,.map (some r)=>
   let .map entries _ ← getObj r | stuck "len: map expected"
   pure (goInt entries.size)
  | .chan _ _,.chan (some r)=>
   let .chan _ buf _ _ _ timer ← getObj r | stuck "len: channel expected"
   pure (goInt (if timer then 0 else buf.size))
  | _, _ => stuck "len: string, array, pointer to array, slice, map or channel expected") = _
 rw [cN,cM hT]; rfl
theorem lS {s:ByteArray} {i:Int} {e:UInt8} (hT:P.underlying T=some .string) (h0:0≤i) (he:(lx s)[i.toNat]? = some e) (k:K (.int .u8 (e.toNat:Int))):cX P (Instr.index T (.string s) (.int .i64 i)) K:=by
 refine ⟨_,?_,k⟩
 rw [abv] at he
 have hi:i.toNat<s.size:=by
  by_cases h:i.toNat<s.size
  ·exact h
  ·rw [dif_neg h] at he; cases he
 rw [dif_pos hi] at he
 have h3:(if 0≤i then s[i.toNat]? else none)=some e:=by rw [if_pos h0,ByteArray.getElem?_lt' s _ hi,← he]
 unfold Instr.index
 simp only [asIntOf,cN,cM hT,Option.bind_some,fc,h3]
theorem oU {s:ByteArray} {i:Int} (hT:P.underlying T=some .string) (h0:0≤i) (h1:i≤s.size) (k:K (.string (s.extract 0 i.toNat))):cX P (Instr.sliceAt T (.string s) none (some (.int .i64 i)) none) K:=by
 refine ⟨_,?_,k⟩
 unfold Instr.sliceAt
 rw [cN,cM hT]
 simp only [Option.bind_some]
 unfold Instr.slice
 rw [cN,cM hT]
 simp only [Option.bind_some]
 rw [if_neg (by decide)]
 have hb:pr P (Instr.sliceBounds false s.size s.size none (some (.int .i64 i)) none)=some (0,i.toNat,s.size):=by
  simp only [Instr.sliceBounds,cN,fc,Option.bind_some]
  rw [mX h0 h1]; rfl
 rw [cN,hb]; rfl
theorem KK {s:ByteArray} {i j:Int} (hT:P.underlying T=some .string) (h0:0≤i) (hij:i≤j) (h1:j≤s.size) (k:K (.string (s.extract i.toNat j.toNat))):cX P (Instr.sliceAt T (.string s) (some (.int .i64 i)) (some (.int .i64 j)) none) K:=by
 refine ⟨_,?_,k⟩
 unfold Instr.sliceAt
 rw [cN,cM hT]
 simp only [Option.bind_some]
 unfold Instr.slice
 rw [cN,cM hT]
 simp only [Option.bind_some]
 rw [if_neg (by decide)]
 have hb:pr P (Instr.sliceBounds false s.size s.size (some (.int .i64 i)) (some (.int .i64 j)) none)=some (i.toNat,j.toNat,s.size):=by
  simp only [Instr.sliceBounds,cN,fc,Option.bind_some]
  rw [mX (by omega) h1]; simp only [Option.bind_some]; rw [mX h0 (by omega)]; rfl
 rw [cN,hb]; rfl
theorem KL (k:K (.bool (decide (a≤b)))):cX P (iQ .leq T cx cy (.int .u8 a) (.int .u8 b)) K:=⟨_,rfl,k⟩
theorem KM (k:K (.bool (decide (b≤a)))):cX P (iQ .geq T cx cy (.int .u8 a) (.int .u8 b)) K:=⟨_,rfl,k⟩
theorem nY (k:K (.bool (decide (a=b)))):cX P (iQ .eql T cx cy (.int .u8 a) (.int .u8 b)) K:=⟨_,rfl,k⟩
theorem UF (k:K (.bool (decide (a≠b)))):cX P (iQ .neq T cx cy (.int .u8 a) (.int .u8 b)) K:=
 ⟨_,(show pr P (iQ .neq T cx cy (.int .u8 a) (.int .u8 b))=some (.bool (decide (a≠b))) from by
  show some (Value.bool (a != b))=_
  congr 2
  by_cases h:a=b <;> simp [h]),k⟩
theorem UG {t:Array TypeId} {R:TypeId} {c:Int} (k:K (.int .i64 (max (max a b) c))):cX P (Builtin.max_ t R [.int .i64 a,.int .i64 b,.int .i64 c].toArray) K:=by
 refine ⟨_,?_,k⟩
 show pr P (do Builtin.max2 (← Builtin.max2 (.int .i64 a) (.int .i64 b)) (.int .i64 c))=_
 have h:∀ x y:Int,pr P (Builtin.max2 (.int .i64 x) (.int .i64 y))=some (.int .i64 (max x y)):=by
  intro x y
  unfold Builtin.max2
  by_cases h:x<y
  ·simp [h,fc]; omega
  ·simp [h,fc]; omega
 rw [cN,h]
 exact h _ _
end
def fj {α σ:Type} [Flat σ] [cD α σ] (v:Value) (xs:List α):HP:=ua λ ts:List σ=>sep (bL v ts) (eY (lg ts xs))
section
variable {P:Program} {α σ:Type} [Flat σ] [D:cD α σ] {w w' w0:World} {v src:Value} {A:Nat→Prop} {L:List HP} {xs ys:List α}
theorem St.KN (hs:St w0 A (fj v xs::L) w):∃ ts:List σ,St w0 A (bL v ts::Fw.eY (lg ts xs)::L) w:=by
 obtain ⟨ts,h⟩:=hs.eQ; exact ⟨ts,h.split⟩
theorem St.DJ {ts:List σ} (hs:St w0 A (bL v ts::Fw.eY (lg ts xs)::L) w):St w0 A (fj v xs::L) w:=
 St.eJ (H:=λ ts:List σ=>sep (bL v ts) (Fw.eY (lg ts xs))) ts (St.join hs)
theorem St.ahP {ts:List σ} (hs:St w0 A (bL v ts::Fw.eY (lg ts xs)::L) w):ts.length=xs.length:=(hs.p1.eY).1
theorem St.xO (hs:St w0 A L w):St w0 A (fj (.slice none 0 0) ([]:List α)::L) w:=
 St.DJ (ts:=[]) ((hs.gI λ _=>lg.nil).fY)
theorem St.avN (hs:St w0 A (bL v ([]:List σ)::L) w):St w0 A (fj v ([]:List α)::L) w:=
 St.DJ (ts:=[]) (hs.gI (Φ:=lg ([]:List σ) ([]:List α)) λ _=>lg.nil).p1
theorem St.avO {s:σ} {x:α} (hs:St w0 A (bL v [s]::Fw.eY (λ w=>cD.dr w s x)::L) w):St w0 A (fj v [x]::L) w:=by
 refine St.DJ (ts:=[s]) ?_
 refine ((hs.p1.dQ (Ψ:=lg [s] [x]) λ w h=>?_)).p1
 exact (lg.nil (w:=w)).snoc h
theorem St.avP {ts us:List σ} (hs:St w0 A (bL v (ts++us)::Fw.eY (lg ts xs)::Fw.eY (lg us ys)::L) w):St w0 A (fj v (xs++ys)::L) w:=by
 have h1:=(hs.p1:St w0 A (Fw.eY (lg ts xs)::bL v (ts++us)::Fw.eY (lg us ys)::L) w)
 have h2:=h1.p2.p1
 refine St.DJ (ts:=ts++us) ?_
 exact ((h2.fK).dQ (Ψ:=lg (ts++us) (xs++ys)) λ w h=>h.1.append h.2).p1
theorem St.jP (hs:St w0 A (fj v xs::L) w):St w0 A (Fw.eY (λ w=>DL w v xs)::L) w:=by
 obtain ⟨ts,h⟩:=hs.KN
 exact (h.freeze.fK).dQ λ w h=>DL.of h.1 h.2
theorem St.dl (hs:St w0 A (fj v xs::L) w):DL w v xs:=hs.jP.eY
theorem St.lT (hs:St w0 A (fj v xs::L) w):∃ s:SV,v=Flat.val s:=hs.dl.fT
theorem St.enc {b:Nat} {cs cs':List Value} (hs:St w0 A (cC b cs::L) w) (h:cs=cs'):St w0 A (cC b cs'::L) w:=h▸hs
theorem v7 {T E oy:Nat} {K:Value→World→Prop} (hs:St w0 A L w) (ht:SlT P T E (Flat.sz σ) oy) (k:∀ v w',St w0 A (fj v ([]:List α)::L) w'→K v w'):ia P (Instr.buildSlice T 0 ([]:List (Nat × Value)).toArray) w K:=
 bX ([]:List σ) hs ht rfl rfl (by simp) λ v w' h=>k v w' h.avN
theorem eF {T E oy:Nat} {s:σ} {x:α} {K:Value→World→Prop} (hs:St w0 A (Fw.eY (λ w=>cD.dr w s x)::L) w) (ht:SlT P T E (Flat.sz σ) oy) (hz:Flat.sz σ≤64) (k:∀ v w',St w0 A (fj v [x]::L) w'→K v w') :
  ia P (Instr.buildSlice T 1 [(0,Flat.val s)].toArray) w K:=
 bX [s] hs ht rfl rfl (by simp; omega) λ v w' h=>k v w' h.avO
theorem dY {T E oy R:Nat} {K:Value→World→Prop} (hs:St w0 A (fj v xs::fj src ys::L) w) (ht:SlT P T E (Flat.sz σ) oy)
  (hn:xs.length+ys.length≤1073741824) (hby:oy≤8192) (k:∀ v' w',St w0 A (fj v' (xs++ys)::L) w'→K v' w'):ia P (Builtin.append_ #[T,T] R [v,src].toArray) w K:=by
 obtain ⟨us,h1⟩:=hs.p1.KN
 obtain ⟨ts,h2⟩:=h1.p2.KN
 have e1:=h1.ahP
 have e2:=h2.ahP
 refine cP h2 ht h2.p2.fM (by omega) hby λ v' w' h=>k v' w' ?_
 exact (h.p2.drop).avP
theorem Iv {β:Type} [Flat β] {T:Nat} {b o:Nat} {cs:List Value} (x:β) (ht:cS P T=some (Flat.agg β,Flat.sz β)) (hb:tM w b cs) (hx:(cs.drop o).take (Flat.sz β)=Flat.enc x) :
  (Instr.loadAt T (.pointer (some ⟨b,o,none⟩))).run P w = .ok (Flat.val x) w:=by
 refine fP (S:=λ _=>True) ht ⟨b,o,rfl,trivial,λ j c hj=>hb.cell ?_⟩
 rw [← hx,List.getElem?_take] at hj
 split at hj
 ·rw [List.getElem?_drop] at hj; exact hj
 ·cases hj
end
instance:Flat UInt8 where
 agg:=false
 sz:=1
 enc b:=[.int .u8 b.toNat]
 val b:=.int .u8 b.toNat
 pos:=by decide
 len _:=rfl
 one a v h:=by rw [List.mem_singleton.1 h]; rfl
 oz h:=by cases h
 oN _ _:=rfl
instance:cD UInt8 UInt8:=jk
theorem abw (l:List UInt8):flat l=l.map λ b=>Value.int .u8 b.toNat:=by
 induction l with
 | nil=>rfl
 | cons x l ih=>rw [iI,ih]; rfl
theorem ic {P:Program} {w w0:World} {A:Nat→Prop} {L:List HP} {src dst e:TypeId} {s:ByteArray} {u:TypeDesc} {K:Value→World→Prop} (hs:St w0 A L w) (h1:P.underlying src=some u) (h2:P.underlying dst=some (.slice e)) (h3:P.underlying e=some (.int .u8))
  (k:∀ v w',St w0 A (Fw.eY (λ w=>eL (λ _=>True) w v (lx s))::L) w'→K v w'):ia P (convert src dst (.string s)) w K:=by
 refine ⟨_,_,Go.Lib.run_convert_string_bytes w src dst e s h1 h2 h3,k _ _ ?_⟩
 have he:Ext w (Go.Lib.bytesWorld w e s):=by
  refine ⟨?_,?_,?_,by rw [Go.Lib.bytesWorld_size]; omega,λ b hb _=>Go.Lib.bytesWorld_at_old w e s b hb⟩
  all_goals simp [Go.Lib.bytesWorld,World.freeze,World.alloc,World.drew,-World.alloc_eq,-World.drew_eq]
 refine hs.new he (F:=λ b=>b=w.heap.size) ⟨λ w' hw=>?_,λ b hb=>by rw [hb,Go.Lib.bytesWorld_size]; omega⟩ λ b hb=>by rw [hb]; exact Nat.le_refl _
 have kJ:(lx s).length=s.size:=dX s
 refine ⟨some ⟨w.heap.size,0,none⟩,grownCap w s.size 0 e,by rw [kJ],by rw [kJ]; exact grownCap_ge w s.size 0 e,.inr ⟨w.heap.size,0,rfl,λ _=>trivial,λ j c hj=>?_⟩⟩
 rw [abw,List.getElem?_map] at hj
 obtain ⟨b,hb,rfl⟩:=Option.map_eq_some_iff.1 hj
 have mE:j<s.size:=by rw [← kJ]; exact (List.getElem?_eq_some_iff.1 hb).1
 have h0:=hw w.heap.size rfl
 have yf:=Go.Lib.bytesWorld_cell w e s j mE
 have e2:s.data.toList.getD j 0=b:=by
  rw [List.getD_eq_getElem?_getD]
  have:s.data.toList[j]? = some b:=hb
  rw [this]; rfl
 rw [e2] at yf
 unfold Cell
 rw [Nat.zero_add]
 unfold World.cell? at yf ⊢
 dsimp only at yf ⊢
 rw [h0]; exact yf
def nZ {α σ:Type} [Flat σ] [cD α σ] (P:Program) (w:World) (f:Value) (φ:α→Prop) (g:α→Bool):Prop:=∃ g0 first cap,f = .func (.func g0) (List.toArray first) (List.toArray cap)∧Plain P g0∧
 ∀ (s:σ) (x:α) w1,Ext w w1→cD.dr w1 s x→φ x→Calls P g0 (first++[Flat.val s]++cap).toArray w1 (qp λ v w2=>v = .bool (g x)∧Ext w1 w2)
theorem nZ.ext {α σ:Type} [Flat σ] [cD α σ] {P:Program} {w w':World} {f:Value} {φ:α→Prop} {g:α→Bool} (h:nZ P w f φ g) (e:Ext w w'):nZ P w' f φ g:=by
 obtain ⟨g0,first,cap,h1,h2,h3⟩:=h; exact ⟨g0,first,cap,h1,h2,λ s x w1 e1=>h3 s x w1 (e.trans e1)⟩
theorem xi {α:Type} [Flat α] {P:Program} {S:Nat→Prop} {w:World} {T E:TypeId} {cx cy:Bool} {v:Value} {xs:List α} {K:Value→Prop} (h:P.underlying T=some (.slice E)) (hr:eL S w v xs) (k:∀ p:Bool,(p=true→xs=[])→K (.bool p)) :
  cX P (iQ .eql T cx cy v (.slice none 0 0)) K:=by
 obtain ⟨a,cap,rfl,_,h3⟩:=hr
 have key:pr P (Op.equal T (.slice a xs.length cap) (.slice none 0 0))=some a.isNone:=by
  show pr P (Op.equalIn 10000 T (.slice a xs.length cap) (.slice none 0 0))=_
  unfold Op.equalIn
  rw [cN,cM h]
  cases a <;> rfl
 refine ⟨_,?_,k a.isNone λ ha=>?_⟩
 ·show pr P (do pure (Value.bool (← Op.equal T (.slice a xs.length cap) (.slice none 0 0))))=_
  rw [wZ,key]; rfl
 ·rcases h3 with h3 | ⟨b,o,rfl,_⟩
  ·exact h3.1
  ·cases ha
theorem St.aoj {α:Type} [Flat α] {w w0:World} {A:Nat→Prop} {L:List HP} {v:Value} {xs ys:List α} (hs:St w0 A (bL v xs::L) w) (h:xs=ys):St w0 A (bL v ys::L) w:=h▸hs
theorem UH {α β:Type} [Flat α] [Flat β] {P:Program} {w w0:World} {A:Nat→Prop} {L:List HP} {xs:List α} {T:Nat} {v p:Value} {i off:Nat} {x:α} (y:β) (hs:St w0 A (bL v xs::L) w) (ht:cS P T=some (Flat.agg β,Flat.sz β)) (hp:Is α v i off p) (hx:xs[i]? = some x)
  (hy:((Flat.enc x).drop off).take (Flat.sz β)=Flat.enc y):(Instr.loadAt T p).run P w = .ok (Flat.val y) w:=by
 obtain ⟨v,h1,h2⟩:=(nW (K:=λ v=>v=Flat.val y) y hs ht hp hx hy rfl).ex
 rw [← h2]; exact h1
structure Ptr where
 b:Nat
deriving DecidableEq
instance:Flat Ptr where
 agg:=false
 sz:=1
 enc p:=[.pointer (some ⟨p.b,0,none⟩)]
 val p:=.pointer (some ⟨p.b,0,none⟩)
 pos:=by decide
 len _:=rfl
 one a v h:=by rw [List.mem_singleton.1 h]; rfl
 oz h:=by cases h
 oN _ _:=rfl
instance:cD Ptr Ptr:=jk
def iK {α κ:Type} (H:κ→α→HP):List κ→List α→HP
 | [],[]=>emp
 | p::ps,x::xs=>sep (H p x) (iK H ps xs)
 | _,_=>fact False emp
section
variable {P:Program} {α κ:Type} {H:κ→α→HP} {A:Nat→Prop} {w0 w:World} {L:List HP}
theorem Bi:∀ {ps:List κ} {xs:List α} {F:Nat→Prop},(iK H ps xs).p w F→ps.length=xs.length
 | [],[],_,_=>rfl
 | s::ss,x::xs,F,h=>by
  obtain ⟨F1,F2,_,h2,_,_⟩:=h
  rw [List.length_cons,List.length_cons,Bi h2]
 | [],_::_,_,h=>h.1.elim
 | _::_,[],_,h=>h.1.elim
theorem St.ly {ps:List κ} {xs:List α} (hs:St w0 A (iK H ps xs::L) w):ps.length=xs.length:=by
 obtain ⟨F,h,_⟩:=hs.head; exact Bi h
theorem St.KO (hs:St w0 A L w):St w0 A (iK H [] []::L) w:=hs.new (Ext.refl w) (F:=bD) (λ _ h=>h) λ _ h=>h.elim
def qy (H:κ→α→HP) (ps:List κ) (xs:List α) (i:Nat):HP:=sep (iK H (ps.take i) (xs.take i)) (iK H (ps.drop (i+1)) (xs.drop (i+1)))
theorem BX:∀ {ps:List κ} {xs:List α} {i:Nat} {p:κ} {x:α} {F:Nat→Prop},(iK H ps xs).p w F→ps[i]? = some p→xs[i]? = some x→(sep (H p x) (qy H ps xs i)).p w F
 | p'::ps,x'::xs,0,p,x,F,h,hp,hx=>by
  rw [List.getElem?_cons_zero] at hp hx
  obtain rfl:=Option.some.inj hp
  obtain rfl:=Option.some.inj hx
  obtain ⟨F1,F2,h1,h2,h3,h4⟩:=h
  exact ⟨F1,F2,h1,⟨bD,F2,λ _ h=>h,h2,λ _ h=>h.elim,λ b=>⟨.inr,λ h=>h.elim (λ h=>h.elim) id⟩⟩,h3,h4⟩
 | p'::ps,x'::xs,i+1,p,x,F,h,hp,hx=>by
  rw [List.getElem?_cons_succ] at hp hx
  obtain ⟨F1,F2,h1,h2,h3,h4⟩:=h
  obtain ⟨G1,G2,g1,⟨K1,K2,k1,k2,k3,k4⟩,g3,g4⟩:=BX h2 hp hx
  refine ⟨G1,λ b=>F1 b∨G2 b,g1,⟨λ b=>F1 b∨K1 b,K2,⟨F1,K1,h1,k1,λ b hb hk=>h3 b hb ((g4 b).2 (.inr ((k4 b).2 (.inl hk)))),λ b=>Iff.rfl⟩,k2,?_,?_⟩,?_,?_⟩
  ·rintro b (hb | hb) hk
   ·exact h3 b hb ((g4 b).2 (.inr ((k4 b).2 (.inr hk))))
   ·exact k3 b hb hk
  ·intro b; show F1 b∨G2 b↔(F1 b∨K1 b)∨K2 b; rw [k4 b,or_assoc]
  ·rintro b hb (hf | hf)
   ·exact h3 b hf ((g4 b).2 (.inl hb))
   ·exact g3 b hb hf
  ·intro b; rw [h4 b,g4 b]; constructor
   ·rintro (h | h | h)
    ·exact .inr (.inl h)
    ·exact .inl h
    ·exact .inr (.inr h)
   ·rintro (h | h | h)
    ·exact .inr (.inl h)
    ·exact .inl h
    ·exact .inr (.inr h)
 | [],[],_,_,_,_,_,hp,_=>by simp at hp
 | [],_::_,_,_,_,_,h,_,_=>h.1.elim
 | _::_,[],_,_,_,_,h,_,_=>h.1.elim
theorem Bj:∀ {ps:List κ} {xs:List α} {i:Nat} {p:κ} {x:α} {F:Nat→Prop},i<xs.length→ps.length=xs.length→(sep (H p x) (qy H ps xs i)).p w F→(iK H (ps.set i p) (xs.set i x)).p w F
 | p'::ps,x'::xs,0,p,x,F,_,_,h=>by
  obtain ⟨F1,F2,h1,⟨K1,K2,k1,k2,k3,k4⟩,h3,h4⟩:=h
  refine ⟨F1,F2,h1,?_,h3,h4⟩
  have e:F2=K2:=funext λ b=>propext ((k4 b).trans ⟨λ h=>h.elim (λ h=>(k1 b h).elim) id,.inr⟩)
  rw [e]; exact k2
 | p'::ps,x'::xs,i+1,p,x,F,hi,hl,h=>by
  obtain ⟨G1,G2,g1,⟨K1,K2,⟨F1,M1,f1,m1,f3,f4⟩,k2,k3,k4⟩,g3,g4⟩:=h
  refine ⟨F1,λ b=>G1 b∨(M1 b∨K2 b),f1,Bj (by simpa using hi) (by simpa using hl) ⟨G1,λ b=>M1 b∨K2 b,g1,⟨M1,K2,m1,k2,λ b hb hk=>k3 b ((f4 b).2 (.inr hb)) hk,λ b=>Iff.rfl⟩,?_,λ b=>Iff.rfl⟩,?_,?_⟩
  ·rintro b hb (h | h)
   ·exact g3 b hb ((k4 b).2 (.inl ((f4 b).2 (.inr h))))
   ·exact g3 b hb ((k4 b).2 (.inr h))
  ·rintro b hb (h | h | h)
   ·exact g3 b h ((k4 b).2 (.inl ((f4 b).2 (.inl hb))))
   ·exact f3 b hb h
   ·exact k3 b ((f4 b).2 (.inl hb)) h
  ·intro b; rw [g4 b,k4 b,f4 b]; constructor
   ·rintro (h | (h | h) | h)
    ·exact .inr (.inl h)
    ·exact .inl h
    ·exact .inr (.inr (.inl h))
    ·exact .inr (.inr (.inr h))
   ·rintro (h | h | h | h)
    ·exact .inr (.inl (.inl h))
    ·exact .inl h
    ·exact .inr (.inl (.inr h))
    ·exact .inr (.inr h)
 | [],_::_,_,_,_,_,_,hl,_=>by simp at hl
 | _,[],_,_,_,_,hi,_,_=>by simp at hi
theorem uT {β:Type}:∀ {ps:List β} {i:Nat} {p:β},ps[i]? = some p→ps.set i p=ps
 | [],_,_,h=>by simp at h
 | y::ps,0,p,h=>by rw [List.getElem?_cons_zero] at h; obtain rfl:=Option.some.inj h; rfl
 | y::ps,i+1,p,h=>by rw [List.getElem?_cons_succ] at h; rw [List.set_cons_succ,uT h]
theorem Nt {ps:List κ} {xs:List α} {i:Nat} {p:κ} {x:α} {F:Nat→Prop} (hi:i<xs.length) (hl:ps.length=xs.length) (hp:ps[i]? = some p) (h:(sep (H p x) (qy H ps xs i)).p w F):(iK H ps (xs.set i x)).p w F:=by
 have:=Bj hi hl h; rwa [uT hp] at this
theorem GH:∀ {ps qs:List κ} {xs ys:List α} {F:Nat→Prop},(sep (iK H ps xs) (iK H qs ys)).p w F→(iK H (ps++qs) (xs++ys)).p w F
 | [],qs,[],ys,F,⟨F1,F2,h1,h2,_,h4⟩=>by
  have:F=F2:=funext λ b=>propext ((h4 b).trans ⟨λ h=>h.elim (λ h=>(h1 b h).elim) id,.inr⟩)
  rw [this]; exact h2
 | p::ps,qs,x::xs,ys,F,⟨F1,F2,⟨G1,G2,g1,g2,g3,g4⟩,h2,h3,h4⟩=>by
  refine ⟨G1,λ b=>G2 b∨F2 b,g1,GH ⟨G2,F2,g2,h2,λ b hb=>h3 b ((g4 b).2 (.inr hb)),λ b=>Iff.rfl⟩,λ b hb=>?_,λ b=>by rw [h4 b,g4 b,or_assoc]⟩
  rintro (hh | hh)
  ·exact g3 b hb hh
  ·exact h3 b ((g4 b).2 (.inl hb)) hh
 | [],_,_::_,_,_,⟨_,_,h,_⟩=>h.1.elim
 | _::_,_,[],_,_,⟨_,_,h,_⟩=>h.1.elim
theorem St.focus {ps:List κ} {xs:List α} {i:Nat} {p:κ} {x:α} (hs:St w0 A (iK H ps xs::L) w) (hp:ps[i]? = some p) (hx:xs[i]? = some x):St w0 A (H p x::qy H ps xs i::L) w:=
 (hs.rZ (H':=sep (H p x) (qy H ps xs i)) λ F hF=>⟨F,BX hF hp hx,λ b hb=>.inl hb,iH.refl _ _⟩).split
theorem St.su {ps:List κ} {xs:List α} {i:Nat} {p:κ} {x:α} (hs:St w0 A (H p x::qy H ps xs i::L) w) (hi:i<xs.length) (hl:ps.length=xs.length) (hp:ps[i]? = some p):St w0 A (iK H ps (xs.set i x)::L) w:=
 (St.join hs).rZ λ F hF=>⟨F,Nt hi hl hp hF,λ b hb=>.inl hb,iH.refl _ _⟩
theorem DK:∀ {ps:List κ} {xs:List α} {p:κ} {x:α} {F1 F2 F:Nat→Prop},(iK H ps xs).p w F1→(H p x).p w F2→(∀ b,F1 b→¬ F2 b)→(∀ b,F b↔F1 b∨F2 b)→(iK H (ps++[p]) (xs++[x])).p w F
 | [],[],p,x,F1,F2,F,h1,h2,_,h4=>⟨F2,F1,h2,h1,λ b _ It=>h1 b It,λ b=>by rw [h4 b]; exact ⟨λ h=>h.symm,λ h=>h.symm⟩⟩
 | s'::ss,x'::xs,p,x,F1,F2,F,h1,h2,h3,h4=>by
  obtain ⟨G1,G2,g1,g2,g3,g4⟩:=h1
  refine ⟨G1,λ b=>G2 b∨F2 b,g1,DK g2 h2 (λ b hb=>h3 b ((g4 b).2 (.inr hb))) (λ b=>Iff.rfl),λ b hb=>?_,λ b=>?_⟩
  ·rintro (hh | hh)
   ·exact g3 b hb hh
   ·exact h3 b ((g4 b).2 (.inl hb)) hh
  ·rw [h4 b,g4 b,or_assoc]
 | [],_::_,_,_,_,_,_,h,_,_,_=>h.1.elim
 | _::_,[],_,_,_,_,_,h,_,_,_=>h.1.elim
theorem St.DM {ps:List κ} {xs:List α} {p:κ} {x:α} (hs:St w0 A (iK H ps xs::H p x::L) w):St w0 A (iK H (ps++[p]) (xs++[x])::L) w:=by
 refine (St.join hs).rZ λ F hF=>?_
 obtain ⟨F1,F2,h1,h2,h3,h4⟩:=hF
 exact ⟨F,DK h1 h2 h3 h4,λ b hb=>.inl hb,iH.refl _ _⟩
theorem St.DN {ps:List κ} {xs:List α} {i:Nat} {p:κ} {x:α} (hs:St w0 A (H p x::qy H ps xs i::L) w) (hi:i<xs.length) (hl:ps.length=xs.length):St w0 A (iK H (ps.set i p) (xs.set i x)::L) w:=
 (St.join hs).rZ λ F hF=>⟨F,Bj hi hl hF,λ b hb=>.inl hb,iH.refl _ _⟩
theorem St.RY {ps:List κ} {xs:List α} {i:Nat} (hs:St w0 A (qy H ps xs i::L) w):St w0 A (iK H (ps.eraseIdx i) (xs.eraseIdx i)::L) w:=by
 rw [List.eraseIdx_eq_take_drop_succ,List.eraseIdx_eq_take_drop_succ]
 exact hs.rZ λ F hF=>⟨F,GH hF,λ b hb=>.inl hb,iH.refl _ _⟩
theorem St.aok {ps:List κ} {xs:List α} {i:Nat} {p:κ} {x:α} {Φ:World→Prop} (hs:St w0 A (iK H ps xs::L) w) (hp:ps[i]? = some p) (hx:xs[i]? = some x) (h:∀ {w F},(H p x).p w F→Φ w):Φ w:=by
 obtain ⟨F,hF,_⟩:=(hs.focus hp hx).head; exact h hF
end
end Go.Fw
namespace Go.Proofs.YtnjcingfdhjfkaaGreat
open Go.Fw
@[ext] structure dH where
 name:ByteArray
 n:Int
 at_:Int
deriving DecidableEq
instance:Flat dH where
 agg:=true
 sz:=3
 enc e:=[.string e.name,.int .i64 e.n,.int .i64 e.at_]
 val e:=.agg [.string e.name,.int .i64 e.n,.int .i64 e.at_].toArray
 pos:=by decide
 len _:=rfl
 one a v h:=by simp at h; rcases h with rfl | rfl | rfl <;> rfl
 oz _ _:=rfl
 oN h:=by cases h
instance:cD dH dH:=jk
def xj (x:dH):Prop:=(x.name).size≤maxLen∧oE x.n∧oE x.at_
@[ext] structure cY where
 op:Int
 n:Int
 name:ByteArray
 at_:Int
deriving DecidableEq
instance:Flat cY where
 agg:=true
 sz:=4
 enc e:=[.int .i64 e.op,.int .i64 e.n,.string e.name,.int .i64 e.at_]
 val e:=.agg [.int .i64 e.op,.int .i64 e.n,.string e.name,.int .i64 e.at_].toArray
 pos:=by decide
 len _:=rfl
 one a v h:=by simp at h; rcases h with rfl | rfl | rfl | rfl <;> rfl
 oz _ _:=rfl
 oN h:=by cases h
instance:cD cY cY:=jk
def zL (x:cY):Prop:=oE x.op∧oE x.n∧(x.name).size≤maxLen∧oE x.at_
structure cE where
 kind:Int
 gM:ByteArray
 name:ByteArray
 e:(List cY)
 f:(List cY)
 n:Int
 body:Int
 fw:Int
 at_:Int
deriving DecidableEq
structure bV where
 kind:Int
 gM:ByteArray
 name:ByteArray
 e:SV
 f:SV
 n:Int
 body:Int
 fw:Int
 at_:Int
instance:Flat bV where
 agg:=true
 sz:=9
 enc e:=[.int .i64 e.kind,.string e.gM,.string e.name,.slice e.e.a e.e.n e.e.cap,.slice e.f.a e.f.n e.f.cap,.int .i64 e.n,.int .i64 e.body,.int .i64 e.fw,.int .i64 e.at_]
 val e:=.agg [.int .i64 e.kind,.string e.gM,.string e.name,.slice e.e.a e.e.n e.e.cap,.slice e.f.a e.f.n e.f.cap,.int .i64 e.n,.int .i64 e.body,.int .i64 e.fw,.int .i64 e.at_].toArray
 pos:=by decide
 len _:=rfl
 one a v h:=by simp at h; rcases h with rfl | rfl | rfl | rfl | rfl | rfl | rfl | rfl | rfl <;> rfl
 oz _ _:=rfl
 oN h:=by cases h
instance:cD cE bV where
 dr w s x:=∃ (e_:SV) (f_:SV),s=(⟨x.kind,x.gM,x.name,e_,f_,x.n,x.body,x.fw,x.at_⟩:bV)∧DL w (Flat.val e_) x.e∧DL w (Flat.val f_) x.f
 ext h e:=by
  obtain ⟨g0,g1,rfl,h0,h1⟩:=h
  exact ⟨g0,g1,rfl,h0.ext e,h1.ext e⟩
def Iw (x:cE):Prop:=oE x.kind∧(x.gM).size≤maxLen∧(x.name).size≤maxLen∧(∀ y∈x.e,zL y)∧(∀ y∈x.f,zL y)∧oE x.n∧oE x.body∧oE x.fw∧oE x.at_
structure dF where
 name:ByteArray
 aK:(List ByteArray)
 body:(List cE)
 at_:Int
deriving DecidableEq
structure ed where
 name:ByteArray
 aK:SV
 body:SV
 at_:Int
instance:Flat ed where
 agg:=true
 sz:=4
 enc e:=[.string e.name,.slice e.aK.a e.aK.n e.aK.cap,.slice e.body.a e.body.n e.body.cap,.int .i64 e.at_]
 val e:=.agg [.string e.name,.slice e.aK.a e.aK.n e.aK.cap,.slice e.body.a e.body.n e.body.cap,.int .i64 e.at_].toArray
 pos:=by decide
 len _:=rfl
 one a v h:=by simp at h; rcases h with rfl | rfl | rfl | rfl <;> rfl
 oz _ _:=rfl
 oN h:=by cases h
instance:cD dF ed where
 dr w s x:=∃ (KP:SV) (aeU:SV),s=(⟨x.name,KP,aeU,x.at_⟩:ed)∧DL w (Flat.val KP) x.aK∧DL w (Flat.val aeU) x.body
 ext h e:=by
  obtain ⟨g0,g1,rfl,h0,h1⟩:=h
  exact ⟨g0,g1,rfl,h0.ext e,h1.ext e⟩
def xk (x:dF):Prop:=(x.name).size≤maxLen∧(∀ y∈x.aK,(λ y:ByteArray=>y.size≤maxLen) y)∧(∀ y∈x.body,Iw y)∧oE x.at_
structure jE where
 e:(List cY)
 at_:Int
deriving DecidableEq
structure lU where
 e:SV
 at_:Int
instance:Flat lU where
 agg:=true
 sz:=2
 enc e:=[.slice e.e.a e.e.n e.e.cap,.int .i64 e.at_]
 val e:=.agg [.slice e.e.a e.e.n e.e.cap,.int .i64 e.at_].toArray
 pos:=by decide
 len _:=rfl
 one a v h:=by simp at h; rcases h with rfl | rfl <;> rfl
 oz _ _:=rfl
 oN h:=by cases h
instance:cD jE lU where
 dr w s x:=∃ (e_:SV),s=(⟨e_,x.at_⟩:lU)∧DL w (Flat.val e_) x.e
 ext h e:=by
  obtain ⟨g0,rfl,h0⟩:=h
  exact ⟨g0,rfl,h0.ext e⟩
def DO (x:jE):Prop:=(∀ y∈x.e,zL y)∧oE x.at_
structure cO where
 lines:(List (List dH))
 jX:(List dH)
 locks:(List dH)
 threads:(List dF)
 recover:(List dF)
 cB:(List jE)
deriving DecidableEq
structure bK where
 lines:SV
 jX:SV
 locks:SV
 threads:SV
 recover:SV
 cB:SV
instance:Flat bK where
 agg:=true
 sz:=6
 enc e:=[.slice e.lines.a e.lines.n e.lines.cap,.slice e.jX.a e.jX.n e.jX.cap,.slice e.locks.a e.locks.n e.locks.cap,.slice e.threads.a e.threads.n e.threads.cap,.slice e.recover.a e.recover.n e.recover.cap,.slice e.cB.a e.cB.n e.cB.cap]
 val e:=.agg [.slice e.lines.a e.lines.n e.lines.cap,.slice e.jX.a e.jX.n e.jX.cap,.slice e.locks.a e.locks.n e.locks.cap,.slice e.threads.a e.threads.n e.threads.cap,.slice e.recover.a e.recover.n e.recover.cap,.slice e.cB.a e.cB.n e.cB.cap].toArray
 pos:=by decide
 len _:=rfl
 one a v h:=by simp at h; rcases h with rfl | rfl | rfl | rfl | rfl | rfl <;> rfl
 oz _ _:=rfl
 oN h:=by cases h
instance:cD cO bK where
 dr w s x:=∃ (DP:SV) (aeV:SV) (UI:SV) (v8:SV) (v9:SV) (zM:SV),s=(⟨DP,aeV,UI,v8,v9,zM⟩:bK)∧DL w (Flat.val DP) x.lines∧DL w (Flat.val aeV) x.jX∧DL w (Flat.val UI) x.locks∧DL w (Flat.val v8) x.threads∧DL w (Flat.val v9) x.recover∧DL w (Flat.val zM) x.cB
 ext h e:=by
  obtain ⟨g0,g1,g2,g3,g4,g5,rfl,h0,h1,h2,h3,h4,h5⟩:=h
  exact ⟨g0,g1,g2,g3,g4,g5,rfl,h0.ext e,h1.ext e,h2.ext e,h3.ext e,h4.ext e,h5.ext e⟩
def abx (x:cO):Prop:=(∀ y∈x.lines,(λ ys:(List dH)=>∀ y∈ys,xj y) y)∧(∀ y∈x.jX,xj y)∧(∀ y∈x.locks,xj y)∧(∀ y∈x.threads,xk y)∧(∀ y∈x.recover,xk y)∧(∀ y∈x.cB,DO y)
structure UJ where
 p:cO
 aK:(List ByteArray)
deriving DecidableEq
structure wb where
 p:bK
 aK:SV
instance:Flat wb where
 agg:=true
 sz:=7
 enc e:=[.slice e.p.lines.a e.p.lines.n e.p.lines.cap,.slice e.p.jX.a e.p.jX.n e.p.jX.cap,.slice e.p.locks.a e.p.locks.n e.p.locks.cap,.slice e.p.threads.a e.p.threads.n e.p.threads.cap,.slice e.p.recover.a e.p.recover.n e.p.recover.cap,.slice e.p.cB.a e.p.cB.n e.p.cB.cap,.slice e.aK.a e.aK.n e.aK.cap]
 val e:=.agg [.slice e.p.lines.a e.p.lines.n e.p.lines.cap,.slice e.p.jX.a e.p.jX.n e.p.jX.cap,.slice e.p.locks.a e.p.locks.n e.p.locks.cap,.slice e.p.threads.a e.p.threads.n e.p.threads.cap,.slice e.p.recover.a e.p.recover.n e.p.recover.cap,.slice e.p.cB.a e.p.cB.n e.p.cB.cap,.slice e.aK.a e.aK.n e.aK.cap].toArray
 pos:=by decide
 len _:=rfl
 one a v h:=by simp at h; rcases h with rfl | rfl | rfl | rfl | rfl | rfl | rfl <;> rfl
 oz _ _:=rfl
 oN h:=by cases h
instance:cD UJ wb where
 dr w s x:=∃ (p_:bK) (KP:SV),s=(⟨p_,KP⟩:wb)∧cD.dr w p_ x.p∧DL w (Flat.val KP) x.aK
 ext h e:=by
  obtain ⟨g0,g1,rfl,h0,h1⟩:=h
  exact ⟨g0,g1,rfl,cD.ext h0 e,h1.ext e⟩
@[ext] structure nt where
 kind:Int
 n:Int
deriving DecidableEq
instance:Flat nt where
 agg:=true
 sz:=2
 enc e:=[.int .i64 e.kind,.int .i64 e.n]
 val e:=.agg [.int .i64 e.kind,.int .i64 e.n].toArray
 pos:=by decide
 len _:=rfl
 one a v h:=by simp at h; rcases h with rfl | rfl <;> rfl
 oz _ _:=rfl
 oN h:=by cases h
instance:cD nt nt:=jk
structure aW where
 kind:Int
 a:Int
 b:Int
 e:(List nt)
 f:(List nt)
 to:Int
deriving DecidableEq
structure bU where
 kind:Int
 a:Int
 b:Int
 e:SV
 f:SV
 to:Int
instance:Flat bU where
 agg:=true
 sz:=6
 enc e:=[.int .i64 e.kind,.int .i64 e.a,.int .i64 e.b,.slice e.e.a e.e.n e.e.cap,.slice e.f.a e.f.n e.f.cap,.int .i64 e.to]
 val e:=.agg [.int .i64 e.kind,.int .i64 e.a,.int .i64 e.b,.slice e.e.a e.e.n e.e.cap,.slice e.f.a e.f.n e.f.cap,.int .i64 e.to].toArray
 pos:=by decide
 len _:=rfl
 one a v h:=by simp at h; rcases h with rfl | rfl | rfl | rfl | rfl | rfl <;> rfl
 oz _ _:=rfl
 oN h:=by cases h
instance:cD aW bU where
 dr w s x:=∃ (e_:SV) (f_:SV),s=(⟨x.kind,x.a,x.b,e_,f_,x.to⟩:bU)∧DL w (Flat.val e_) x.e∧DL w (Flat.val f_) x.f
 ext h e:=by
  obtain ⟨g0,g1,rfl,h0,h1⟩:=h
  exact ⟨g0,g1,rfl,h0.ext e,h1.ext e⟩
structure fm where
 aK:Int
 counts:Int
 l:(List aW)
deriving DecidableEq
structure cL where
 aK:Int
 counts:Int
 l:SV
instance:Flat cL where
 agg:=true
 sz:=3
 enc e:=[.int .i64 e.aK,.int .i64 e.counts,.slice e.l.a e.l.n e.l.cap]
 val e:=.agg [.int .i64 e.aK,.int .i64 e.counts,.slice e.l.a e.l.n e.l.cap].toArray
 pos:=by decide
 len _:=rfl
 one a v h:=by simp at h; rcases h with rfl | rfl | rfl <;> rfl
 oz _ _:=rfl
 oN h:=by cases h
instance:cD fm cL where
 dr w s x:=∃ (l_:SV),s=(⟨x.aK,x.counts,l_⟩:cL)∧DL w (Flat.val l_) x.l
 ext h e:=by
  obtain ⟨g0,rfl,h0⟩:=h
  exact ⟨g0,rfl,h0.ext e⟩
structure iz where
 lines:(List Int)
 stays:Int
 dC:(List Int)
 locks:Int
 threads:(List fm)
 recover:fm
 cB:(List (List nt))
deriving DecidableEq
structure dO where
 lines:SV
 stays:Int
 dC:SV
 locks:Int
 threads:SV
 recover:cL
 cB:SV
instance:Flat dO where
 agg:=true
 sz:=9
 enc e:=[.slice e.lines.a e.lines.n e.lines.cap,.int .i64 e.stays,.slice e.dC.a e.dC.n e.dC.cap,.int .i64 e.locks,.slice e.threads.a e.threads.n e.threads.cap,.int .i64 e.recover.aK,.int .i64 e.recover.counts,.slice e.recover.l.a e.recover.l.n e.recover.l.cap,.slice e.cB.a e.cB.n e.cB.cap]
 val e:=.agg [.slice e.lines.a e.lines.n e.lines.cap,.int .i64 e.stays,.slice e.dC.a e.dC.n e.dC.cap,.int .i64 e.locks,.slice e.threads.a e.threads.n e.threads.cap,.int .i64 e.recover.aK,.int .i64 e.recover.counts,.slice e.recover.l.a e.recover.l.n e.recover.l.cap,.slice e.cB.a e.cB.n e.cB.cap].toArray
 pos:=by decide
 len _:=rfl
 one a v h:=by simp at h; rcases h with rfl | rfl | rfl | rfl | rfl | rfl | rfl | rfl | rfl <;> rfl
 oz _ _:=rfl
 oN h:=by cases h
instance:cD iz dO where
 dr w s x:=∃ (DP:SV) (Qf:SV) (v8:SV) (v9:cL) (zM:SV),s=(⟨DP,x.stays,Qf,x.locks,v8,v9,zM⟩:dO)∧DL w (Flat.val DP) x.lines∧DL w (Flat.val Qf) x.dC∧DL w (Flat.val v8) x.threads∧cD.dr w v9 x.recover∧DL w (Flat.val zM) x.cB
 ext h e:=by
  obtain ⟨g0,g1,g2,g3,g4,rfl,h0,h1,h2,h3,h4⟩:=h
  exact ⟨g0,g1,g2,g3,g4,rfl,h0.ext e,h1.ext e,h2.ext e,cD.ext h3 e,h4.ext e⟩
structure fa where
 kind:Int
 t:Int
 i:Int
 cut:(List Int)
deriving DecidableEq
structure fU where
 kind:Int
 t:Int
 i:Int
 cut:SV
instance:Flat fU where
 agg:=true
 sz:=4
 enc e:=[.int .i64 e.kind,.int .i64 e.t,.int .i64 e.i,.slice e.cut.a e.cut.n e.cut.cap]
 val e:=.agg [.int .i64 e.kind,.int .i64 e.t,.int .i64 e.i,.slice e.cut.a e.cut.n e.cut.cap].toArray
 pos:=by decide
 len _:=rfl
 one a v h:=by simp at h; rcases h with rfl | rfl | rfl | rfl <;> rfl
 oz _ _:=rfl
 oN h:=by cases h
instance:cD fa fU where
 dr w s x:=∃ (aol:SV),s=(⟨x.kind,x.t,x.i,aol⟩:fU)∧DL w (Flat.val aol) x.cut
 ext h e:=by
  obtain ⟨g0,rfl,h0⟩:=h
  exact ⟨g0,rfl,h0.ext e⟩
@[ext] structure dA where
 kind:Int
 t:Int
 a:Int
 n:Int
 m:Int
deriving DecidableEq
instance:Flat dA where
 agg:=true
 sz:=5
 enc e:=[.int .i64 e.kind,.int .i64 e.t,.int .i64 e.a,.int .i64 e.n,.int .i64 e.m]
 val e:=.agg [.int .i64 e.kind,.int .i64 e.t,.int .i64 e.a,.int .i64 e.n,.int .i64 e.m].toArray
 pos:=by decide
 len _:=rfl
 one a v h:=by simp at h; rcases h with rfl | rfl | rfl | rfl | rfl <;> rfl
 oz _ _:=rfl
 oN h:=by cases h
instance:cD dA dA:=jk
@[ext] structure iX where
 fG:Int
 fault:Int
 t:Int
 done:Bool
 stuck:Bool
deriving DecidableEq
instance:Flat iX where
 agg:=true
 sz:=5
 enc e:=[.int .i64 e.fG,.int .i64 e.fault,.int .i64 e.t,.bool e.done,.bool e.stuck]
 val e:=.agg [.int .i64 e.fG,.int .i64 e.fault,.int .i64 e.t,.bool e.done,.bool e.stuck].toArray
 pos:=by decide
 len _:=rfl
 one a v h:=by simp at h; rcases h with rfl | rfl | rfl | rfl | rfl <;> rfl
 oz _ _:=rfl
 oN h:=by cases h
instance:cD iX iX:=jk
@[ext] structure bJ where
 kind:Int
 line:Int
 cell:Int
 n:Int
deriving DecidableEq
instance:Flat bJ where
 agg:=true
 sz:=4
 enc e:=[.int .i64 e.kind,.int .i64 e.line,.int .i64 e.cell,.int .i64 e.n]
 val e:=.agg [.int .i64 e.kind,.int .i64 e.line,.int .i64 e.cell,.int .i64 e.n].toArray
 pos:=by decide
 len _:=rfl
 one a v h:=by simp at h; rcases h with rfl | rfl | rfl | rfl <;> rfl
 oz _ _:=rfl
 oN h:=by cases h
instance:cD bJ bJ:=jk
@[ext] structure bH where
 kind:Int
 text:ByteArray
 n:Int
 at_:Int
deriving DecidableEq
instance:Flat bH where
 agg:=true
 sz:=4
 enc e:=[.int .i64 e.kind,.string e.text,.int .i64 e.n,.int .i64 e.at_]
 val e:=.agg [.int .i64 e.kind,.string e.text,.int .i64 e.n,.int .i64 e.at_].toArray
 pos:=by decide
 len _:=rfl
 one a v h:=by simp at h; rcases h with rfl | rfl | rfl | rfl <;> rfl
 oz _ _:=rfl
 oN h:=by cases h
instance:cD bH bH:=jk
@[ext] structure jr where
 cell:Int
 n:Int
deriving DecidableEq
instance:Flat jr where
 agg:=true
 sz:=2
 enc e:=[.int .i64 e.cell,.int .i64 e.n]
 val e:=.agg [.int .i64 e.cell,.int .i64 e.n].toArray
 pos:=by decide
 len _:=rfl
 one a v h:=by simp at h; rcases h with rfl | rfl <;> rfl
 oz _ _:=rfl
 oN h:=by cases h
instance:cD jr jr:=jk
def RZ (p:Bool):Int:=if p then 1 else 0
def aeW (a b:Int):Int:=rf (a.tdiv b)
def Cm (op a:Int):Int:=if op=3 then rf (0 - a) else if op=4 then RZ (decide (a=0)) else 0
def KQ (op:Int):Int:=if op=3∨op=4 then 0 else 1
def sZ (op a b:Int):Int:=
 if op=5 then rf (a+b) else if op=6 then rf (a - b) else if op=7 then rf (a * b) else if op=8 then aeW a b else if op=9 then a.tmod b
 else if op=10 then RZ (decide (a=b)) else if op=11 then RZ (decide (¬ a=b)) else if op=12 then RZ (decide (a<b)) else if op=13 then RZ (decide (a≤b))
 else if op=14 then RZ (decide (¬ a=0) && decide (¬ b=0)) else if op=15 then RZ (decide (¬ a=0) || decide (¬ b=0)) else 0
def qb (op b:Int):Int:=if op<5∨15<op then 1 else if (op=8∨op=9)∧b=0 then 12 else 0
def qc (op a b:Int):Int:=if qb op b=0 then sZ op a b else 0
theorem C228 (p:Bool) (w:World):CR 228 [.bool p] w (λ v w'=>v = .int .i64 (RZ p)∧Ext w w'):=by
 have hs:=St.start w;refine aay _ _ _ ?_;unfold S228;refine aY (λ DQ=>?_) (λ DQ=>?_)
 ·rw [DQ];exact ⟨rfl,hs.aE⟩
 ·rw [DQ];exact ⟨rfl,hs.aE⟩
theorem C217 (p:Bool) (w:World):CR 217 [.bool p] w (λ v w'=>v = .int .i64 (RZ p)∧Ext w w'):=by
 have hs:=St.start w;refine aao _ _ _ ?_;unfold S217;refine aY (λ DQ=>?_) (λ DQ=>?_)
 ·rw [DQ];exact ⟨rfl,hs.aE⟩
 ·rw [DQ];exact ⟨rfl,hs.aE⟩
theorem C218 (a:Int) (w:World):CR 218 [.int .i64 a] w (λ v w'=>v = .bool (decide (¬ a=0))∧Ext w w'):=by
 have hs:=St.start w;refine aap _ _ _ ?_;unfold S218;refine cT ?_;exact ⟨rfl,hs.aE⟩
theorem C201 (op a:Int) (w:World):CR 201 [.int .i64 op,.int .i64 a] w (λ v w'=>v = .tuple #[.int .i64 (Cm op a),.int .i64 (KQ op)]∧Ext w w'):=by
 have hs:=St.start w;refine aab _ _ _ _ ?_;unfold S201;refine aH (aC (λ iN=>?_) (λ iN=>?_))
 ·refine DH ?_;unfold Cm KQ
  first | (rw [if_pos iN,if_pos (.inl iN)]; exact ⟨rfl,hs.aE⟩) | (rw [if_neg iN,if_pos gJ,if_pos (.inr gJ)]; exact ⟨rfl,hs.aE⟩) | (rw [if_neg iN,if_neg gJ,if_neg (by omega)]; exact ⟨rfl,hs.aE⟩)
 ·refine aH (aC (λ gJ=>?_) (λ gJ=>?_))
  ·refine aH (aZ anv hs (C228 _ _) (λ w1 he hs=>?_));unfold Cm KQ
   first | (rw [if_pos iN,if_pos (.inl iN)]; exact ⟨rfl,hs.aE⟩) | (rw [if_neg iN,if_pos gJ,if_pos (.inr gJ)]; exact ⟨rfl,hs.aE⟩) | (rw [if_neg iN,if_neg gJ,if_neg (by omega)]; exact ⟨rfl,hs.aE⟩)
  ·unfold Cm KQ
   first | (rw [if_pos iN,if_pos (.inl iN)]; exact ⟨rfl,hs.aE⟩) | (rw [if_neg iN,if_pos gJ,if_pos (.inr gJ)]; exact ⟨rfl,hs.aE⟩) | (rw [if_neg iN,if_neg gJ,if_neg (by omega)]; exact ⟨rfl,hs.aE⟩)
theorem C173 (op a:Int) (w:World):CR 173 [.int .i64 op,.int .i64 a] w (λ v w'=>v = .tuple #[.int .i64 (Cm op a),.int .i64 (KQ op)]∧Ext w w'):=by
 have hs:=St.start w;refine ZN _ _ _ _ ?_;unfold S173;refine aH (aC (λ gi=>?_) (λ gi=>?_))
 ·refine UC ?_;unfold Cm KQ
  first | (rw [if_pos gi,if_pos (.inl gi)]; exact ⟨rfl,hs.aE⟩) | (rw [if_neg gi,if_pos jB,if_pos (.inr jB)]; exact ⟨congrArg (λ p=>Value.tuple #[.int .i64 (RZ p),.int .i64 0]) (by simp),hs.aE⟩) | (rw [if_neg gi,if_neg jB,if_neg (by omega)]; exact ⟨rfl,hs.aE⟩)
 ·refine aH (aC (λ jB=>?_) (λ jB=>?_))
  ·refine aZ Kd hs (C218 _ _) (λ w1 he hs=>?_)
   first | refine Dn ?_ | refine bZ ?_
   refine aZ aez hs (C217 _ _) (λ w2 he hs=>?_);unfold Cm KQ
   first | (rw [if_pos gi,if_pos (.inl gi)]; exact ⟨rfl,hs.aE⟩) | (rw [if_neg gi,if_pos jB,if_pos (.inr jB)]; exact ⟨congrArg (λ p=>Value.tuple #[.int .i64 (RZ p),.int .i64 0]) (by simp),hs.aE⟩) | (rw [if_neg gi,if_neg jB,if_neg (by omega)]; exact ⟨rfl,hs.aE⟩)
  ·unfold Cm KQ
   first | (rw [if_pos gi,if_pos (.inl gi)]; exact ⟨rfl,hs.aE⟩) | (rw [if_neg gi,if_pos jB,if_pos (.inr jB)]; exact ⟨congrArg (λ p=>Value.tuple #[.int .i64 (RZ p),.int .i64 0]) (by simp),hs.aE⟩) | (rw [if_neg gi,if_neg jB,if_neg (by omega)]; exact ⟨rfl,hs.aE⟩)
theorem ri:aoi PG 289 16 288:=⟨by kernel_rfl,by kernel_rfl⟩
def aom (b1 b2 b3 b4 b5 b6:Nat) (w:World):Prop:=
 Cell w b1 0 (.func (.func 243) #[] #[])∧Cell w b2 0 (.func (.func 244) #[] #[])∧Cell w b3 0 (.func (.func 245) #[] #[])∧Cell w b4 0 (.func (.func 246) #[] #[])∧Cell w b5 0 (.func (.func 247) #[] #[])∧Cell w b6 0 (.func (.func 248) #[] #[])
def opsV (b1 b2 b3 b4 b5 b6:Nat):Value:=
 .agg [.nilFunc,.nilFunc,.nilFunc,.nilFunc,.nilFunc,.func (.func 238) #[] #[],.func (.func 239) #[] #[],.func (.func 240) #[] #[],.func (.func 241) #[] #[],.func (.func 242) #[] #[],
  .func (.func 237) #[] #[.pointer (some ⟨b1,0,none⟩)],.func (.func 237) #[] #[.pointer (some ⟨b2,0,none⟩)],.func (.func 237) #[] #[.pointer (some ⟨b3,0,none⟩)],.func (.func 237) #[] #[.pointer (some ⟨b4,0,none⟩)],
  .func (.func 237) #[] #[.pointer (some ⟨b5,0,none⟩)],.func (.func 237) #[] #[.pointer (some ⟨b6,0,none⟩)]].toArray
def Fb2 (f:Value) (g:Int→Int→Bool):Prop:=∃ g0,f = .func (.func g0) #[] #[]∧Plain PG g0∧
 ∀ a b w1,Calls PG g0 [.int .i64 a,.int .i64 b].toArray w1 (qp λ v w2=>v = .bool (g a b)∧Ext w1 w2)
theorem C238 (a b:Int) (w:World):CR 238 [.int .i64 a,.int .i64 b] w (λ v w'=>v = .int .i64 (rf (a+b))∧Ext w w'):=by
 have hs:=St.start w;refine aaI _ _ _ _ ?_;unfold S238;refine KG ?_;exact ⟨rfl,hs.aE⟩
theorem C239 (a b:Int) (w:World):CR 239 [.int .i64 a,.int .i64 b] w (λ v w'=>v = .int .i64 (rf (a - b))∧Ext w w'):=by
 have hs:=St.start w;refine aaJ _ _ _ _ ?_;unfold S239;refine DH ?_;exact ⟨rfl,hs.aE⟩
theorem C240 (a b:Int) (w:World):CR 240 [.int .i64 a,.int .i64 b] w (λ v w'=>v = .int .i64 (rf (a * b))∧Ext w w'):=by
 have hs:=St.start w;refine aaK _ _ _ _ ?_;unfold S240;refine KH ?_;exact ⟨rfl,hs.aE⟩
theorem C241 (a b:Int) (w:World) (h:b≠0):CR 241 [.int .i64 a,.int .i64 b] w (λ v w'=>v = .int .i64 (aeW a b)∧Ext w w'):=by
 have hs:=St.start w;refine aaL _ _ _ _ ?_;unfold S241;refine UD h ?_;exact ⟨rfl,hs.aE⟩
theorem C242 (a b:Int) (w:World) (h:b≠0):CR 242 [.int .i64 a,.int .i64 b] w (λ v w'=>v = .int .i64 (a.tmod b)∧Ext w w'):=by
 have hs:=St.start w;refine aaM _ _ _ _ ?_;unfold S242;refine UE h ?_;exact ⟨rfl,hs.aE⟩
theorem C243 (a b:Int) (w:World):CR 243 [.int .i64 a,.int .i64 b] w (λ v w'=>v = .bool (decide (a=b))∧Ext w w'):=by
 have hs:=St.start w;refine aaN _ _ _ _ ?_;unfold S243;refine aH ?_;exact ⟨rfl,hs.aE⟩
theorem C244 (a b:Int) (w:World):CR 244 [.int .i64 a,.int .i64 b] w (λ v w'=>v = .bool (decide (¬ a=b))∧Ext w w'):=by
 have hs:=St.start w;refine aaO _ _ _ _ ?_;unfold S244;refine cT ?_;exact ⟨rfl,hs.aE⟩
theorem C245 (a b:Int) (w:World):CR 245 [.int .i64 a,.int .i64 b] w (λ v w'=>v = .bool (decide (a<b))∧Ext w w'):=by
 have hs:=St.start w;refine aaP _ _ _ _ ?_;unfold S245;refine aR ?_;exact ⟨rfl,hs.aE⟩
theorem C246 (a b:Int) (w:World):CR 246 [.int .i64 a,.int .i64 b] w (λ v w'=>v = .bool (decide (a≤b))∧Ext w w'):=by
 have hs:=St.start w;refine aaQ _ _ _ _ ?_;unfold S246;refine jL ?_;exact ⟨rfl,hs.aE⟩
theorem C247 (a b:Int) (w:World):CR 247 [.int .i64 a,.int .i64 b] w (λ v w'=>v = .bool (decide (¬ a=0) && decide (¬ b=0))∧Ext w w'):=by
 have hs:=St.start w;refine aaR _ _ _ _ ?_;unfold S247;refine ⟨_,?_,λ _ _ h=>h⟩;refine aZ Kd hs (C218 _ _) (λ w1 he hs=>aC (λ oA=>?_) (λ oA=>?_))
 ·refine aZ Kd hs (C218 _ _) (λ w2 he hs=>?_);intro fu
  first | (rw [decide_eq_true oA]; exact ⟨rfl,hs.aE⟩) | (rw [decide_eq_false oA]; exact ⟨rfl,hs.aE⟩)
 ·intro fu
  first | (rw [decide_eq_true oA]; exact ⟨rfl,hs.aE⟩) | (rw [decide_eq_false oA]; exact ⟨rfl,hs.aE⟩)
theorem C248 (a b:Int) (w:World):CR 248 [.int .i64 a,.int .i64 b] w (λ v w'=>v = .bool (decide (¬ a=0) || decide (¬ b=0))∧Ext w w'):=by
 have hs:=St.start w;refine aaS _ _ _ _ ?_;unfold S248;refine ⟨_,?_,λ _ _ h=>h⟩;refine aZ Kd hs (C218 _ _) (λ w1 he hs=>aC (λ oA=>?_) (λ oA=>?_))
 ·intro fu
  first | (rw [decide_eq_true oA]; exact ⟨rfl,hs.aE⟩) | (rw [decide_eq_false oA]; exact ⟨rfl,hs.aE⟩)
 ·refine aZ Kd hs (C218 _ _) (λ w2 he hs=>?_);intro fu
  first | (rw [decide_eq_true oA]; exact ⟨rfl,hs.aE⟩) | (rw [decide_eq_false oA]; exact ⟨rfl,hs.aE⟩)
theorem C236 (g:Nat) (w:World):CR 236 [.func (.func g) #[] #[]] w (λ v w'=>∃ b,v = .func (.func 237) #[] #[.pointer (some ⟨b,0,none⟩)]∧mc (cC b [.func (.func g) #[] #[]]) w w'):=by
 have hs:=St.start w;refine aaG _ _ _ ?_;unfold S236;refine tN hs rfl (λ aon w1 hs=>?_);exact ⟨aon,rfl,hs.fresh⟩
theorem C237 (a b:Int) (b2:Nat) (fv:Value) (g:Int→Int→Bool) (w:World) (hc:Cell w b2 0 fv) (hf:Fb2 fv g):CR 237 [.int .i64 a,.int .i64 b,.pointer (some ⟨b2,0,none⟩)] w (λ v w'=>v = .int .i64 (RZ (g a b))∧Ext w w'):=by
 obtain ⟨g0,rfl,uH,l4⟩:=hf;have hs:=St.start w;refine aaH _ _ _ _ _ ?_;unfold S237;refine cG anV (hc.ext hs.aE) (gg (first:=[]) (cap:=[]) uH (l4 a b _) ?_);rintro _ w1 ⟨rfl,he⟩;have hs:=hs.ext he;refine aZ aez hs (C217 _ _) (λ w2 he hs=>?_);exact ⟨rfl,hs.aE⟩
theorem C219 (w:World):CR 219 [] w (λ v w'=>∃ b1 b2 b3 b4 b5 b6,v=opsV b1 b2 b3 b4 b5 b6∧mc (eY (aom b1 b2 b3 b4 b5 b6)) w w'):=by
 have hs:=St.start w;refine aaq _ _ ?_;unfold S219;refine aO hs Qc (λ avQ w1 hs=>aO hs Qc (λ b_l1 w2 hs=>nX ri (by omega) (by omega) (aV hs vX (eE rfl) (rfl) (λ w3 hs=>nX ri (by omega) (by omega) (aV hs vX (eE rfl) (rfl) (λ w4 hs=>nX ri (by omega) (by omega) (aV hs vX (eE rfl) (rfl) (λ w5 hs=>nX ri (by omega) (by omega) (aV hs vX (eE rfl) (rfl) (λ w6 hs=>nX ri (by omega) (by omega) (aV hs vX (eE rfl) (rfl) (λ w7 hs=>gg (first:=[]) (cap:=[]) Gu (C236 243 _) ?_))))))))))));rintro _ w8 ⟨DU,rfl,cA⟩;have hs:=hs.made cA;refine nX ri (by omega) (by omega) (aV hs.p1 vX (eE rfl) (rfl) (λ w9 hs=>gg (first:=[]) (cap:=[]) Gu (C236 244 _) ?_))
 rintro _ qd ⟨UL,rfl,cA⟩;have hs:=hs.made cA;refine nX ri (by omega) (by omega) (aV hs.p1 vX (eE rfl) (rfl) (λ tG hs=>gg (first:=[]) (cap:=[]) Gu (C236 245 _) ?_));rintro _ vt ⟨aeX,rfl,cA⟩;have hs:=hs.made cA;refine nX ri (by omega) (by omega) (aV hs.p1 vX (eE rfl) (rfl) (λ uU hs=>gg (first:=[]) (cap:=[]) Gu (C236 246 _) ?_));rintro _ sw ⟨UM,rfl,cA⟩;have hs:=hs.made cA;refine nX ri (by omega) (by omega) (aV hs.p1 vX (eE rfl) (rfl) (λ wc hs=>gg (first:=[]) (cap:=[]) Gu (C236 247 _) ?_));rintro _ ze ⟨aeY,rfl,cA⟩;have hs:=hs.made cA;refine nX ri (by omega) (by omega) (aV hs.p1 vX (eE rfl) (rfl) (λ Cn hs=>gg (first:=[]) (cap:=[]) Gu (C236 248 _) ?_))
 rintro _ Iy ⟨BY,rfl,cA⟩;have hs:=hs.made cA;refine nX ri (by omega) (by omega) (aV hs.p1 vX (eE rfl) (rfl) (λ JG hs=>qV Ud hs.hb rfl (pC hs.p7 Ud rfl (by decide) (by simp [r7,ib]) (λ KR hs=>qV Ud hs.hb rfl ?_))));have hs:=(((((((((((((hs.drop)).drop).p1).p2).p3).p4).p5).qN).p1).qN).p2).qN).p3;have hs:=hs.qN.p4.qN.p5.qN.fK.fK.fK.fK.fK;refine ⟨DU,UL,aeX,UM,aeY,BY,rfl,(hs.dQ (Ψ:=aom DU UL aeX UM aeY BY) λ w h=>?_).fresh⟩;obtain ⟨⟨⟨⟨⟨h6,h5⟩,h4⟩,h3⟩,h2⟩,h1⟩:=h;exact ⟨h1.cell rfl,h2.cell rfl,h3.cell rfl,h4.cell rfl,h5.cell rfl,h6.cell rfl⟩
theorem fb1:Fb2 (.func (.func 243) #[] #[]) (λ a b=>decide (a=b)):=⟨243,rfl,anD,λ a b w1=>C243 a b w1⟩
theorem fb2:Fb2 (.func (.func 244) #[] #[]) (λ a b=>decide (¬ a=b)):=⟨244,rfl,anE,λ a b w1=>C244 a b w1⟩
theorem fb3:Fb2 (.func (.func 245) #[] #[]) (λ a b=>decide (a<b)):=⟨245,rfl,anF,λ a b w1=>C245 a b w1⟩
theorem fb4:Fb2 (.func (.func 246) #[] #[]) (λ a b=>decide (a≤b)):=⟨246,rfl,anG,λ a b w1=>C246 a b w1⟩
theorem fb5:Fb2 (.func (.func 247) #[] #[]) (λ a b=>decide (¬ a=0) && decide (¬ b=0)):=⟨247,rfl,anH,λ a b w1=>C247 a b w1⟩
theorem fb6:Fb2 (.func (.func 248) #[] #[]) (λ a b=>decide (¬ a=0) || decide (¬ b=0)):=⟨248,rfl,anI,λ a b w1=>C248 a b w1⟩
theorem C175 (op a b:Int) (w:World):CR 175 [.int .i64 op,.int .i64 a,.int .i64 b] w (λ v w'=>v = .tuple #[.int .i64 (qc op a b),.int .i64 (qb op b)]∧Ext w w'):=by
 have hs:=St.start w;refine ZP _ _ _ _ _ ?_;unfold S175;refine ⟨_,?_,λ _ _ h=>h⟩;refine aR (aC (λ fB=>?_) (λ fB=>?_))
 ·intro fu;refine nN ?_
  first | exact ⟨rfl,hs.aE⟩ | (subst_vars; exact ⟨rfl,hs.aE⟩) | (refine ⟨?_,hs.aE⟩; unfold qc qb sZ; first | (rw [if_pos (show op<5∨15<op by omega)]; rfl) | simp [*])
 ·refine dI ?_;intro fu;refine aC (λ gV=>?_) (λ gV=>?_)
  ·first | exact ⟨rfl,hs.aE⟩ | (subst_vars; exact ⟨rfl,hs.aE⟩) | (refine ⟨?_,hs.aE⟩; unfold qc qb sZ; first | (rw [if_pos (show op<5∨15<op by omega)]; rfl) | simp [*])
  ·refine eu ann (C219 _) ?_;rintro _ w2 ⟨b1,b2,b3,b4,b5,b6,rfl,cA⟩;have hs:=hs.made cA;obtain rfl | rfl | rfl | rfl | rfl | rfl | rfl | rfl | rfl | rfl | rfl | rfl | rfl | rfl | rfl | rfl:op=0∨op=1∨op=2∨op=3∨op=4∨op=5∨op=6∨op=7∨op=8∨op=9∨op=10∨op=11∨op=12∨op=13∨op=14∨op=15:=by omega
   ·refine pop (v:=.nilFunc) (by kernel_rfl) (pop (v:=.bool true) (by kernel_rfl) (nN ?_))
    first | exact ⟨rfl,hs.aE⟩ | (subst_vars; exact ⟨rfl,hs.aE⟩) | (refine ⟨?_,hs.aE⟩; unfold qc qb sZ; first | (rw [if_pos (show op<5∨15<op by omega)]; rfl) | simp [*])
   ·refine pop (v:=.nilFunc) (by kernel_rfl) (pop (v:=.bool true) (by kernel_rfl) (nN ?_))
    first | exact ⟨rfl,hs.aE⟩ | (subst_vars; exact ⟨rfl,hs.aE⟩) | (refine ⟨?_,hs.aE⟩; unfold qc qb sZ; first | (rw [if_pos (show op<5∨15<op by omega)]; rfl) | simp [*])
   ·refine pop (v:=.nilFunc) (by kernel_rfl) (pop (v:=.bool true) (by kernel_rfl) (nN ?_))
    first | exact ⟨rfl,hs.aE⟩ | (subst_vars; exact ⟨rfl,hs.aE⟩) | (refine ⟨?_,hs.aE⟩; unfold qc qb sZ; first | (rw [if_pos (show op<5∨15<op by omega)]; rfl) | simp [*])
   ·refine pop (v:=.nilFunc) (by kernel_rfl) (pop (v:=.bool true) (by kernel_rfl) (nN ?_))
    first | exact ⟨rfl,hs.aE⟩ | (subst_vars; exact ⟨rfl,hs.aE⟩) | (refine ⟨?_,hs.aE⟩; unfold qc qb sZ; first | (rw [if_pos (show op<5∨15<op by omega)]; rfl) | simp [*])
   ·refine pop (v:=.nilFunc) (by kernel_rfl) (pop (v:=.bool true) (by kernel_rfl) (nN ?_))
    first | exact ⟨rfl,hs.aE⟩ | (subst_vars; exact ⟨rfl,hs.aE⟩) | (refine ⟨?_,hs.aE⟩; unfold qc qb sZ; first | (rw [if_pos (show op<5∨15<op by omega)]; rfl) | simp [*])
   ·refine pop (v:=.func (.func 238) #[] #[]) (by kernel_rfl) (pop (v:=.bool false) (by kernel_rfl) (fN ?_));refine ⟨_,?_,λ _ _ h=>h⟩;refine aH (gq (by decide) (aH (gq (by decide) ?_)));intro jz;refine fN (gg (first:=[]) (cap:=[]) anx (C238 a b _) ?_);rintro _ w4 ⟨rfl,he⟩;have hs:=hs.ext he
    first | exact ⟨rfl,hs.aE⟩ | (subst_vars; exact ⟨rfl,hs.aE⟩) | (refine ⟨?_,hs.aE⟩; unfold qc qb sZ; first | (rw [if_pos (show op<5∨15<op by omega)]; rfl) | simp [*])
   ·refine pop (v:=.func (.func 239) #[] #[]) (by kernel_rfl) (pop (v:=.bool false) (by kernel_rfl) (fN ?_));refine ⟨_,?_,λ _ _ h=>h⟩;refine aH (gq (by decide) (aH (gq (by decide) ?_)));intro jz;refine fN (gg (first:=[]) (cap:=[]) anz (C239 a b _) ?_);rintro _ w4 ⟨rfl,he⟩;have hs:=hs.ext he
    first | exact ⟨rfl,hs.aE⟩ | (subst_vars; exact ⟨rfl,hs.aE⟩) | (refine ⟨?_,hs.aE⟩; unfold qc qb sZ; first | (rw [if_pos (show op<5∨15<op by omega)]; rfl) | simp [*])
   ·refine pop (v:=.func (.func 240) #[] #[]) (by kernel_rfl) (pop (v:=.bool false) (by kernel_rfl) (fN ?_));refine ⟨_,?_,λ _ _ h=>h⟩;refine aH (gq (by decide) (aH (gq (by decide) ?_)));intro jz;refine fN (gg (first:=[]) (cap:=[]) anA (C240 a b _) ?_);rintro _ w4 ⟨rfl,he⟩;have hs:=hs.ext he
    first | exact ⟨rfl,hs.aE⟩ | (subst_vars; exact ⟨rfl,hs.aE⟩) | (refine ⟨?_,hs.aE⟩; unfold qc qb sZ; first | (rw [if_pos (show op<5∨15<op by omega)]; rfl) | simp [*])
   ·refine pop (v:=.func (.func 241) #[] #[]) (by kernel_rfl) (pop (v:=.bool false) (by kernel_rfl) (fN ?_));refine ⟨_,?_,λ _ _ h=>h⟩;refine aH (fS (by decide) (aH ?_));intro jz;refine aC (λ gz=>?_) (λ gz=>?_)
    ·first | exact ⟨rfl,hs.aE⟩ | (subst_vars; exact ⟨rfl,hs.aE⟩) | (refine ⟨?_,hs.aE⟩; unfold qc qb sZ; first | (rw [if_pos (show op<5∨15<op by omega)]; rfl) | simp [*])
    ·refine gg (first:=[]) (cap:=[]) anB (C241 a b _ gz) ?_;rintro _ w4 ⟨rfl,he⟩;have hs:=hs.ext he
     first | exact ⟨rfl,hs.aE⟩ | (subst_vars; exact ⟨rfl,hs.aE⟩) | (refine ⟨?_,hs.aE⟩; unfold qc qb sZ; first | (rw [if_pos (show op<5∨15<op by omega)]; rfl) | simp [*])
   ·refine pop (v:=.func (.func 242) #[] #[]) (by kernel_rfl) (pop (v:=.bool false) (by kernel_rfl) (fN ?_));refine ⟨_,?_,λ _ _ h=>h⟩;refine aH (gq (by decide) (aH (fS (by decide) (aH ?_))));intro jz;refine aC (λ gz=>?_) (λ gz=>?_)
    ·first | exact ⟨rfl,hs.aE⟩ | (subst_vars; exact ⟨rfl,hs.aE⟩) | (refine ⟨?_,hs.aE⟩; unfold qc qb sZ; first | (rw [if_pos (show op<5∨15<op by omega)]; rfl) | simp [*])
    ·refine gg (first:=[]) (cap:=[]) anC (C242 a b _ gz) ?_;rintro _ w4 ⟨rfl,he⟩;have hs:=hs.ext he
     first | exact ⟨rfl,hs.aE⟩ | (subst_vars; exact ⟨rfl,hs.aE⟩) | (refine ⟨?_,hs.aE⟩; unfold qc qb sZ; first | (rw [if_pos (show op<5∨15<op by omega)]; rfl) | simp [*])
   ·refine pop (v:=.func (.func 237) #[] #[.pointer (some ⟨b1,0,none⟩)]) (by kernel_rfl) (pop (v:=.bool false) (by kernel_rfl) (fN ?_));refine ⟨_,?_,λ _ _ h=>h⟩;refine aH (gq (by decide) (aH (gq (by decide) ?_)));intro jz;refine fN ?_;obtain ⟨o1,o2,o3,o4,o5,o6⟩:=hs.eY;refine gg (first:=[]) (cap:=[.pointer (some ⟨b1,0,none⟩)]) Gv (C237 a b b1 _ _ _ o1 fb1) ?_;rintro _ w4 ⟨rfl,he⟩;have hs:=hs.ext he
    first | exact ⟨rfl,hs.aE⟩ | (subst_vars; exact ⟨rfl,hs.aE⟩) | (refine ⟨?_,hs.aE⟩; unfold qc qb sZ; first | (rw [if_pos (show op<5∨15<op by omega)]; rfl) | simp [*])
   ·refine pop (v:=.func (.func 237) #[] #[.pointer (some ⟨b2,0,none⟩)]) (by kernel_rfl) (pop (v:=.bool false) (by kernel_rfl) (fN ?_));refine ⟨_,?_,λ _ _ h=>h⟩;refine aH (gq (by decide) (aH (gq (by decide) ?_)));intro jz;refine fN ?_;obtain ⟨o1,o2,o3,o4,o5,o6⟩:=hs.eY;refine gg (first:=[]) (cap:=[.pointer (some ⟨b2,0,none⟩)]) Gv (C237 a b b2 _ _ _ o2 fb2) ?_;rintro _ w4 ⟨rfl,he⟩;have hs:=hs.ext he
    first | exact ⟨rfl,hs.aE⟩ | (subst_vars; exact ⟨rfl,hs.aE⟩) | (refine ⟨?_,hs.aE⟩; unfold qc qb sZ; first | (rw [if_pos (show op<5∨15<op by omega)]; rfl) | simp [*])
   ·refine pop (v:=.func (.func 237) #[] #[.pointer (some ⟨b3,0,none⟩)]) (by kernel_rfl) (pop (v:=.bool false) (by kernel_rfl) (fN ?_));refine ⟨_,?_,λ _ _ h=>h⟩;refine aH (gq (by decide) (aH (gq (by decide) ?_)));intro jz;refine fN ?_;obtain ⟨o1,o2,o3,o4,o5,o6⟩:=hs.eY;refine gg (first:=[]) (cap:=[.pointer (some ⟨b3,0,none⟩)]) Gv (C237 a b b3 _ _ _ o3 fb3) ?_;rintro _ w4 ⟨rfl,he⟩;have hs:=hs.ext he
    first | exact ⟨rfl,hs.aE⟩ | (subst_vars; exact ⟨rfl,hs.aE⟩) | (refine ⟨?_,hs.aE⟩; unfold qc qb sZ; first | (rw [if_pos (show op<5∨15<op by omega)]; rfl) | simp [*])
   ·refine pop (v:=.func (.func 237) #[] #[.pointer (some ⟨b4,0,none⟩)]) (by kernel_rfl) (pop (v:=.bool false) (by kernel_rfl) (fN ?_));refine ⟨_,?_,λ _ _ h=>h⟩;refine aH (gq (by decide) (aH (gq (by decide) ?_)));intro jz;refine fN ?_;obtain ⟨o1,o2,o3,o4,o5,o6⟩:=hs.eY;refine gg (first:=[]) (cap:=[.pointer (some ⟨b4,0,none⟩)]) Gv (C237 a b b4 _ _ _ o4 fb4) ?_;rintro _ w4 ⟨rfl,he⟩;have hs:=hs.ext he
    first | exact ⟨rfl,hs.aE⟩ | (subst_vars; exact ⟨rfl,hs.aE⟩) | (refine ⟨?_,hs.aE⟩; unfold qc qb sZ; first | (rw [if_pos (show op<5∨15<op by omega)]; rfl) | simp [*])
   ·refine pop (v:=.func (.func 237) #[] #[.pointer (some ⟨b5,0,none⟩)]) (by kernel_rfl) (pop (v:=.bool false) (by kernel_rfl) (fN ?_));refine ⟨_,?_,λ _ _ h=>h⟩;refine aH (gq (by decide) (aH (gq (by decide) ?_)));intro jz;refine fN ?_;obtain ⟨o1,o2,o3,o4,o5,o6⟩:=hs.eY;refine gg (first:=[]) (cap:=[.pointer (some ⟨b5,0,none⟩)]) Gv (C237 a b b5 _ _ _ o5 fb5) ?_;rintro _ w4 ⟨rfl,he⟩;have hs:=hs.ext he
    first | exact ⟨rfl,hs.aE⟩ | (subst_vars; exact ⟨rfl,hs.aE⟩) | (refine ⟨?_,hs.aE⟩; unfold qc qb sZ; first | (rw [if_pos (show op<5∨15<op by omega)]; rfl) | simp [*])
   ·refine pop (v:=.func (.func 237) #[] #[.pointer (some ⟨b6,0,none⟩)]) (by kernel_rfl) (pop (v:=.bool false) (by kernel_rfl) (fN ?_));refine ⟨_,?_,λ _ _ h=>h⟩;refine aH (gq (by decide) (aH (gq (by decide) ?_)));intro jz;refine fN ?_;obtain ⟨o1,o2,o3,o4,o5,o6⟩:=hs.eY;refine gg (first:=[]) (cap:=[.pointer (some ⟨b6,0,none⟩)]) Gv (C237 a b b6 _ _ _ o6 fb6) ?_;rintro _ w4 ⟨rfl,he⟩;have hs:=hs.ext he
    first | exact ⟨rfl,hs.aE⟩ | (subst_vars; exact ⟨rfl,hs.aE⟩) | (refine ⟨?_,hs.aE⟩; unfold qc qb sZ; first | (rw [if_pos (show op<5∨15<op by omega)]; rfl) | simp [*])
theorem gN {α:Type} {l:List α} {k:Nat} {e:α} (h:l[k]? = some e):l.take k++[e]=l.take (k+1):=by rw [List.take_add_one,h]; rfl
theorem ew {α:Type} {φ:α→Prop} {l:List α} {k:Nat} {e:α} (h:∀ y∈l.take k,φ y) (he:l[k]? = some e) (hp:φ e):∀ y∈l.take (k+1),φ y:=by
 intro y hy
 rw [← gN he] at hy
 rcases List.mem_append.1 hy with hy | hy
 ·exact h y hy
 ·rw [List.mem_singleton.1 hy]; exact hp
theorem jF {α:Type} {g:α→Bool} {l:List α} {k:Nat} {e:α} (he:l[k]? = some e) (hg:g e=true):l.any g=true:=List.any_eq_true.2 ⟨e,List.mem_of_getElem? he,hg⟩
theorem iO {α:Type} {g:α→Bool} {l:List α} (h:∀ y∈l,g y=false):l.any g=false:=by
 rw [List.any_eq_false]; intro y hy; rw [h y hy]; simp
def uV {α:Type} (g:α→Bool) (l:List α):Int:=match l.findIdx? g with | some k=>k | none=>-1
theorem pq {α:Type} {g:α→Bool} {l:List α} {k:Nat} {e:α} (fQ:∀ y∈l.take k,g y=false) (he:l[k]? = some e) (hg:g e=true):uV g l=k:=by
 have:l.findIdx? g=some k:=by
  rw [List.findIdx?_eq_some_iff_getElem]
  have hk:=(List.getElem?_eq_some_iff.1 he).1
  refine ⟨hk,by rw [(List.getElem?_eq_some_iff.1 he).2]; exact hg,λ j hj=>?_⟩
  have:=fQ (l[j]'(by omega)) (List.mem_take_iff_getElem.2 ⟨j,by omega,rfl⟩)
  simp [this]
 unfold uV; rw [this]
theorem ku {α:Type} {g:α→Bool} {l:List α} (fQ:∀ y∈l,g y=false):uV g l = -1:=by
 have:l.findIdx? g=none:=by rw [List.findIdx?_eq_none_iff]; exact fQ
 unfold uV; rw [this]
theorem n8 {α:Type} (g:α→Bool) (l:List α):decide (0≤uV g l)=l.any g:=by
 unfold uV
 cases h:l.findIdx? g with
 | none=>
  rw [List.findIdx?_eq_none_iff] at h
  have:l.any g=false:=by rw [List.any_eq_false]; intro x hx; rw [h x hx]; simp
  rw [this]; rfl
 | some k=>
  have h':=(List.findIdx?_eq_some_iff_getElem.1 h)
  obtain ⟨hk,hg,_⟩:=h'
  have:l.any g=true:=List.any_eq_true.2 ⟨_,List.getElem_mem hk,hg⟩
  rw [this]; simp
def Co {α:Type} [Flat α] (w:World) (f:Value) (g:α→Bool):Prop:=∃ g0 first cap,f = .func (.func g0) (List.toArray first) (List.toArray cap)∧Plain PG g0∧
 ∀ x w1,Ext w w1→Calls PG g0 (first++[Flat.val x]++cap).toArray w1 (qp λ v w2=>v = .bool (g x)∧Ext w1 w2)
theorem Co.ext {α:Type} [Flat α] {w w':World} {f:Value} {g:α→Bool} (h:Co w f g) (e:Ext w w'):Co w' f g:=by
 obtain ⟨g0,first,cap,h1,h2,h3⟩:=h; exact ⟨g0,first,cap,h1,h2,λ x w1 e1=>h3 x w1 (e.trans e1)⟩
def fD (k:Int):Int:=if k=3∨k=4 then 1 else if 5≤k∧k≤15 then 2 else 0
def KS (st:Option (Int × Int)) (x:nt):Option (Int × Int):=match st with
 | none=>none
 | some (n,h)=>if n - fD x.kind<0 then none else some (n - fD x.kind+1,max h (n - fD x.kind+1))
def ht (l:List nt):Option (Int × Int):=l.foldl KS (some (0,0))
def htN (l:List nt):Int:=match ht l with | some p=>p.1 | none=>0
def htH (l:List nt):Int:=match ht l with | some p=>p.2 | none=>0
theorem zN {l:List nt} {k:Nat} {x:nt} (h:l[k]? = some x):ht (l.take (k+1))=KS (ht (l.take k)) x:=by
 unfold ht; rw [← gN h,List.foldl_append]; rfl
theorem Qg {l:List nt} {k:Nat} (h:ht (l.take k)=none):ht l=none:=by
 have key:∀ m:List nt,m.foldl KS none=none:=λ m=>by induction m with | nil=>rfl | cons y m ih=>exact ih
 have e:l=l.take k++l.drop k:=(List.take_append_drop k l).symm
 unfold ht at *
 rw [e,List.foldl_append,h]; exact key _
theorem Qh (k:Int):0≤fD k∧fD k≤2:=by
 unfold fD
 repeat' split
 all_goals omega
theorem ahR {l:List nt}:∀ k n h,k≤l.length→ht (l.take k)=some (n,h)→0≤n∧n≤(k:Int)∧0≤h∧h≤(k:Int)
 | 0,n,h,_,e=>by
  have:ht ([]:List nt)=some (0,0):=rfl
  rw [List.take_zero,this] at e
  obtain ⟨rfl,rfl⟩:=Prod.mk.inj (Option.some.inj e); omega
 | k+1,n,h,hk,e=>by
  obtain ⟨x,hx⟩:∃ x,l[k]? = some x:=⟨_,List.getElem?_eq_getElem (by omega)⟩
  rw [zN hx] at e
  cases hp:ht (l.take k) with
  | none=>rw [hp] at e; cases e
  | some p=>
   obtain ⟨a,b⟩:=p
   have ih:=ahR k a b (by omega) hp
   have hw:=Qh x.kind
   rw [hp] at e
   unfold KS at e
   simp only [] at e
   split at e
   ·cases e
   ·obtain ⟨rfl,rfl⟩:=Prod.mk.inj (Option.some.inj e); omega
theorem aby {l:List nt} {k:Nat} {x:nt} {n h m:Int} (hx:l[k]? = some x) (KT:ht (l.take k)=some (n,h)) (hm:m=n - fD x.kind) (h0:¬ m<0):ht (l.take (k+1))=some (m+1,max h (m+1)):=by
 rw [zN hx,KT]; unfold KS; simp only []; rw [← hm,if_neg h0]
theorem ahS {l:List nt} {k:Nat} {x:nt} {n h m:Int} (hx:l[k]? = some x) (KT:ht (l.take k)=some (n,h)) (hm:m=n - fD x.kind) (h0:m<0):ht (l.take (k+1))=none:=by
 rw [zN hx,KT]; unfold KS; simp only []; rw [← hm,if_pos h0]
def sy (many:Int) (x:nt):Bool:=decide ((x.kind=1∧(x.n<0∨4294967296<x.n))∨(x.kind=2∧(x.n<0∨many≤x.n))∨(¬ x.kind=1∧¬ x.kind=2∧(¬ x.n=0∨x.kind<1∨16≤x.kind)))
def eG (l:List nt) (many:Int):Bool:=decide (l.length≤40) && (ht l).isSome && decide (htN l=1) && !l.any (sy many)
theorem C171 (k:Int) (w:World):CR 171 [.int .i64 k] w (λ v w'=>v = .int .i64 (fD k)∧Ext w w'):=by
 have hs:=St.start w;refine ZL _ _ _ ?_;unfold S171;refine ⟨λ jv w'=>jv = .bool (decide (k=3∨k=4))∧w=w',?_,?_⟩
 ·refine aH (aC (λ Nu=>?_) (λ Nu=>?_))
  ·exact ⟨Pq (by omega),rfl⟩
  ·refine aH ?_;exact ⟨tD (by omega),rfl⟩
 ·rintro _ w1 ⟨rfl,hw⟩ fu;subst hw;refine aC (λ FN=>?_) (λ FN=>?_)
  ·unfold fD
   first | (rw [if_pos FN]; exact ⟨rfl,hs.aE⟩) | (rw [if_neg FN,if_pos fB]; exact ⟨rfl,hs.aE⟩) | (rw [if_neg FN,if_neg fB]; exact ⟨rfl,hs.aE⟩)
  ·refine ⟨λ jv w'=>jv = .bool (decide (5≤k∧k≤15))∧w=w',?_,?_⟩
   ·refine dI (aC (λ jB=>?_) (λ jB=>?_))
    ·refine jL ?_;exact ⟨tD (by omega),rfl⟩
    ·exact ⟨jvF (by omega),rfl⟩
   ·rintro _ w2 ⟨rfl,hw⟩ jz;subst hw;refine aC (λ fB=>?_) (λ fB=>?_)
    ·unfold fD
     first | (rw [if_pos FN]; exact ⟨rfl,hs.aE⟩) | (rw [if_neg FN,if_pos fB]; exact ⟨rfl,hs.aE⟩) | (rw [if_neg FN,if_neg fB]; exact ⟨rfl,hs.aE⟩)
    ·unfold fD
     first | (rw [if_pos FN]; exact ⟨rfl,hs.aE⟩) | (rw [if_neg FN,if_pos fB]; exact ⟨rfl,hs.aE⟩) | (rw [if_neg FN,if_neg fB]; exact ⟨rfl,hs.aE⟩)
theorem C183 (sv:Value) (xs:List nt) (w:World) (hL:eL (λ _=>True) w sv xs) (hn:xs.length≤1048576):CR 183 [sv] w (λ v w'=>v = .tuple #[.int .i64 (htN xs),.int .i64 (htH xs),.bool (ht xs).isSome]∧Ext w w'):=by
 have hs:=St.start w;refine ZX _ _ _ ?_;unfold S183;refine aJ vF (hL.ext hs.aE) ?_;refine ⟨λ m y z x w1=>∃ (k:Nat) (n h:Int),y = .int .i64 n∧z = .int .i64 h∧x = .int .i64 (k:Int)∧m=xs.length - k∧k≤xs.length∧ht (xs.take k)=some (n,h)∧St w bD [] w1,⟨_,0,0,0,rfl,rfl,rfl,rfl,by omega,rfl,hs⟩,?_⟩;rintro m _ _ _ w1 ⟨k,n,h,rfl,rfl,rfl,rfl,hk,KT,hs⟩ fu;refine aR (aC (λ jB=>?_) (λ jB=>?_))
 ·obtain ⟨UN,Bl⟩:=gx (xs) (i:=((k:Int)).toNat) (by omega);refine aQ vF (hL.ext hs.aE) (by omega) Bl (λ _ KU=>aD Ku (KU) (aO hs PY (λ Cp w2 hs=>aI (x:=UN) hs Ku rfl rfl (λ w3 hs=>aA nU (aB bN hs.hb rfl (aZ aes hs (C171 _ _) (λ w4 he hs=>?_)))))));have hw:=Qh UN.kind;have hhb:=ahR k n h (by omega) KT;refine gD (by omega) (aR (aC (λ gz=>?_) (λ gz=>?_)))
  ·have hz:ht xs=none:=Qg (k:=k+1) (by rw [zN (k:=k) Bl,KT]; unfold KS; simp only []; rw [if_pos gz]);unfold htN htH;rw [hz];exact ⟨rfl,hs.aE⟩
  ·refine aN (by omega) (uS (aN (by omega) ?_));exact ⟨_,by omega,k+1,_,_,rfl,rfl,rfl,rfl,by omega,by rw [zN (k:=k) Bl,KT]; unfold KS; simp only []; rw [if_neg gz],hs.drop⟩
 ·rw [List.take_of_length_le (by omega)] at KT;unfold htN htH;rw [KT];exact ⟨rfl,hs.aE⟩
theorem C182 (x:nt) (b2:Nat) (many:Int) (w:World) (hc:Cell w b2 0 (.int .i64 many)):CR 182 [Flat.val x,.pointer (some ⟨b2,0,none⟩)] w (λ v w'=>v = .bool (sy many x)∧Ext w w'):=by
 have hs:=St.start w;refine ZW _ _ _ _ ?_;unfold S182;refine dE hs (λ me w1 hs=>aA nU (aB bN hs.hb rfl (aH (aC (λ iN=>?_) (λ iN=>?_)))))
 ·refine ⟨_,?_,λ _ _ h=>h⟩;refine aA q7 (aB bN hs.hb rfl (aR (aC (λ fB=>?_) (λ fB=>?_))))
  ·intro fu;refine ⟨vb ?_,hs.aE⟩;unfold sy
   first | exact (decide_eq_true (by omega)).symm | exact (decide_eq_false (by omega)).symm | exact decide_eq_decide.2 (by omega)
  ·refine aA q7 (aB bN hs.hb rfl (cZ ?_));intro fu;refine ⟨vb ?_,hs.aE⟩;unfold sy
   first | exact (decide_eq_true (by omega)).symm | exact (decide_eq_false (by omega)).symm | exact decide_eq_decide.2 (by omega)
 ·refine aA nU (aB bN hs.hb rfl (aH (aC (λ fi=>?_) (λ fi=>?_))))
  ·refine ⟨_,?_,λ _ _ h=>h⟩;refine aA q7 (aB bN hs.hb rfl (aR (aC (λ iS=>?_) (λ iS=>?_))))
   ·intro jz;refine ⟨vb ?_,hs.aE⟩;unfold sy
    first | exact (decide_eq_true (by omega)).symm | exact (decide_eq_false (by omega)).symm | exact decide_eq_decide.2 (by omega)
   ·refine aA q7 (aB bN hs.hb rfl (cG bN (hc.ext hs.aE) (dI ?_)));intro jz;refine ⟨vb ?_,hs.aE⟩;unfold sy
    first | exact (decide_eq_true (by omega)).symm | exact (decide_eq_false (by omega)).symm | exact decide_eq_decide.2 (by omega)
  ·refine ⟨_,?_,λ _ _ h=>h⟩;refine aA q7 (aB bN hs.hb rfl (cT (aC (λ lV=>?_) (λ lV=>?_))))
   ·intro oG;refine ⟨vb ?_,hs.aE⟩;unfold sy
    first | exact (decide_eq_true (by omega)).symm | exact (decide_eq_false (by omega)).symm | exact decide_eq_decide.2 (by omega)
   ·refine aA nU (aB bN hs.hb rfl (aR (aC (λ j4=>?_) (λ j4=>?_))))
    ·intro oG;refine ⟨vb ?_,hs.aE⟩;unfold sy
     first | exact (decide_eq_true (by omega)).symm | exact (decide_eq_false (by omega)).symm | exact decide_eq_decide.2 (by omega)
    ·refine aA nU (aB bN hs.hb rfl (dI ?_));intro oG;refine ⟨vb ?_,hs.aE⟩;unfold sy
     first | exact (decide_eq_true (by omega)).symm | exact (decide_eq_false (by omega)).symm | exact decide_eq_decide.2 (by omega)
theorem C223 (sv fv:Value) (xs:List nt) (g:nt→Bool) (w:World) (hL:eL (λ _=>True) w sv xs) (hf:Co w fv g) (hn:xs.length≤1073741824):CR 223 [sv,fv] w (λ v w'=>v = .int .i64 (uV g xs)∧Ext w w'):=by
 obtain ⟨g0,first,cap,rfl,uH,l4⟩:=hf;have hs:=St.start w;refine aau _ _ _ _ ?_;unfold S223;refine aJ vF (hL.ext hs.aE) ?_;refine ⟨λ m x w1=>∃ k:Nat,x = .int .i64 (k:Int)∧m=xs.length - k∧k≤xs.length∧(∀ y∈xs.take k,g y=false)∧St w bD [] w1,⟨_,0,rfl,rfl,Nat.zero_le _,by simp,hs⟩,?_⟩;rintro m _ w1 ⟨k,rfl,rfl,hk,fQ,hs⟩ fu;refine aR (aC (λ gr=>?_) (λ gr=>?_))
 ·obtain ⟨js,dD⟩:=gx (xs) (i:=((k:Int)).toNat) (by omega);refine aQ vF (hL.ext hs.aE) (by omega) dD (λ _ iT=>aD Ku (iT) (gg uH (l4 js w1 hs.aE) ?_));rintro _ w2 ⟨rfl,he⟩;have hs:=hs.ext he;refine aY (λ eM=>?_) (λ eM=>?_)
  ·exact ⟨congrArg (Value.int .i64) (pq fQ dD eM).symm,hs.aE⟩
  ·refine aN (by omega) ?_;exact ⟨xs.length - (k+1),by omega,k+1,rfl,rfl,by omega,ew fQ dD eM,hs⟩
 ·exact ⟨congrArg (Value.int .i64) (ku (by rw [List.take_of_length_le (by omega)] at fQ; exact fQ)).symm,hs.aE⟩
theorem C184 (sv fv:Value) (xs:List nt) (g:nt→Bool) (w:World) (hL:eL (λ _=>True) w sv xs) (hf:Co w fv g) (hn:xs.length≤1073741824):CR 184 [sv,fv] w (λ v w'=>v = .bool (xs.any g)∧Ext w w'):=by
 have hs:=St.start w;refine ZY _ _ _ _ ?_;unfold S184;refine aZ anr hs (C223 _ _ _ _ _ (hL.ext hs.aE) (hf.ext hs.aE) (by omega)) (λ w1 he hs=>dI ?_);exact ⟨vb (n8 _ _),hs.aE⟩
theorem C116 (sv:Value) (xs:List nt) (many:Int) (w:World) (hL:eL (λ _=>True) w sv xs) (hn:xs.length≤1048576):CR 116 [sv,.int .i64 many] w (λ v w'=>v = .bool (eG xs many)∧Ext w w'):=by
 have hs:=St.start w;refine Y6 _ _ _ _ ?_;unfold S116;refine tN hs rfl (λ Qi w1 hs=>aZ am5 hs (C183 _ _ _ (hL.ext hs.aE) (by omega)) (λ w2 he hs=>bG rfl (bG rfl (bG rfl ?_))));refine ⟨_,?_,λ _ _ h=>h⟩;refine aJ vF (hL.ext hs.aE) (jL (aC (λ gj=>?_) (λ gj=>?_)))
 ·refine aY (λ jQ=>?_) (λ jQ=>?_)
  ·refine aH (aC (λ gQ=>?_) (λ gQ=>?_))
   ·have KF:Co _ (.func (.func 182) [].toArray [.pointer (some ⟨Qi,0,none⟩)].toArray) (sy many):=
     ⟨182,[],_,rfl,am4,λ y w1 e1=>C182 y Qi many w1 ((hs.hb.cell rfl).ext e1)⟩
    refine aZ am6 hs (C184 _ _ _ _ _ (hL.ext hs.aE) KF (by omega)) (λ w3 he hs=>bZ ?_);intro fu;refine ⟨vb ?_,hs.aE⟩;unfold eG
    simp_all <;> omega
   ·intro fu;refine ⟨vb ?_,hs.aE⟩;unfold eG
    simp_all <;> omega
  ·intro fu;refine ⟨vb ?_,hs.aE⟩;unfold eG
   simp_all <;> omega
 ·intro fu;refine ⟨vb ?_,hs.aE⟩;unfold eG
  simp_all <;> omega
def oa (b:Nat) (rest:List Value) (l:List Int):HP:=ua λ sv=>sep (cC b (sv::rest)) (bL sv l)
theorem oa.shut {w0 w:World} {A:Nat→Prop} {R:List HP} {b:Nat} {rest:List Value} {sv:Value} {l:List Int} (hs:St w0 A (cC b (sv::rest)::bL sv l::R) w):St w0 A (oa b rest l::R) w:=
 St.eJ (H:=λ sv=>sep (cC b (sv::rest)) (bL sv l)) sv (St.join hs)
theorem oa.open {w0 w:World} {A:Nat→Prop} {R:List HP} {b:Nat} {rest:List Value} {l:List Int} (hs:St w0 A (oa b rest l::R) w):∃ sv,St w0 A (cC b (sv::rest)::bL sv l::R) w:=by
 obtain ⟨sv,hs⟩:=hs.eQ; exact ⟨sv,hs.split⟩
def lW (l:List Int):Int:=l.getD (l.length - 1) 0
theorem UO {l:List Int} {e:Int} (h:l[((l.length:Int) - 1).toNat]? = some e):e=lW l:=by
 unfold lW
 rw [List.getD_eq_getElem?_getD,show l.length - 1=((l.length:Int) - 1).toNat from by omega,h]; rfl
theorem C216 (b:Nat) (n:Int) (rest:List Value) (l:List Int) (F:Nat→Prop) (w:World) (hF:(oa b rest l).p w F) (hn:l.length≤1048576):CR 216 [.pointer (some ⟨b,0,none⟩),.int .i64 n] w (λ v w'=>v = .tuple #[]∧qx F (oa b rest (l++[n])) w w'):=by
 have hs:=St.begin hF;obtain ⟨sv,hs⟩:=hs.eQ;have hs:=hs.split;refine aan _ _ _ _ ?_;unfold S216;refine aF (aA pJ (aB er hs.hb rfl (bX (([n]:List Int)) hs eg rfl rfl (eE rfl) (λ aoo w1 hs=>?_))));have qe:=(hs).fM;refine cP hs.p2 eg qe (by simp <;> omega) (by decide) (λ aeZ w2 hs=>have hs:=hs.p1.drop;aF (aA pJ (aV hs.p1 er (eE rfl) ((hs).fM.one) (λ w3 hs=>?_))));have hs:=hs.p1.p1;exact ⟨rfl,(oa.shut hs).mut⟩
theorem C174 (b:Nat) (rest:List Value) (l:List Int) (F:Nat→Prop) (w:World) (hF:(oa b rest l).p w F) (hn:l.length≤1048576) (h0:0<l.length):CR 174 [.pointer (some ⟨b,0,none⟩)] w (λ v w'=>v = .int .i64 (lW l)∧qx F (oa b rest (l.take (l.length - 1))) w w'):=by
 have hs:=St.begin hF;obtain ⟨sv,hs⟩:=hs.eQ;have hs:=hs.split;refine ZO _ _ _ ?_;unfold S174;refine aF (aA pJ (have hs:=hs.drew;aB er hs.hb rfl (aF (aA pJ (aB er hs.hb rfl (aJ eg (hs.p1).fM (gD (by omega) ?_)))))));obtain ⟨js,dD⟩:=gx (l) (i:=((((l).length:Int) - 1)).toNat) (by omega);refine dT hs.p1 eg (by omega) (by omega) (λ _ iT=>ga hs.p1 bN iT dD (aF (aA pJ (have hs:=hs.drew;aB er hs.hb rfl (aF (aA pJ (aB er hs.hb rfl (aJ eg (hs.p1).fM (gD (by omega) (have hs:=hs.p1;Ns eg hs (by omega) (by omega) (λ UP hs=>aF (aA pJ ?_))))))))))))
 refine aV hs.p1 er (eE rfl) ((hs).fM.one) (λ w1 hs=>?_);have hs:=hs.p1.p1;rw [show ((l.length:Int) - 1).toNat=l.length - 1 from by omega] at hs;rw [UO dD];exact ⟨rfl,(oa.shut hs).mut⟩
theorem C172 (b:Nat) (n hi:Int) (l:List Int) (F:Nat→Prop) (w:World) (hF:(oa b [.int .i64 hi] l).p w F) (hn:l.length≤1048576):CR 172 [.pointer (some ⟨b,0,none⟩),.int .i64 n] w (λ v w'=>v = .tuple #[]∧∃ M0,qx F (oa b [.int .i64 M0] (l++[n])) w w'):=by
 have hs:=St.begin hF;refine ZM _ _ _ _ ?_;unfold S172;refine aF (aA tX (po anm hs (H':=λ _=>oa b [.int .i64 hi] (l++[n])) (Φ:=λ v _=>v = .tuple #[]) (λ F hF=>?_) ?_))
 ·exact C216 b n _ l F _ hF (by omega)
 rintro _ w1 rfl hs;obtain ⟨sv,hs⟩:=oa.open hs;refine aF (aA Ky (have hs:=hs.drew;aB bN hs.hb rfl (aF (aA tX (aA pJ (aB er hs.hb rfl (aJ eg (hs.p1).fM (uS (aF (aA Ky (aV hs bN (eE rfl) (rfl) (λ w2 hs=>?_))))))))))));have hs:=hs.p1.p1;exact ⟨rfl,_,(oa.shut hs).mut⟩
def pM (ns S:List Int) (x:nt):List Int:=
 if fD x.kind=0 then S++[if x.kind=2 then ns.getD x.n.toNat 0 else x.n]
 else if fD x.kind=1 then S.take (S.length - 1)++[Cm x.kind (lW S)]
 else S.take (S.length - 2)++[qc x.kind (lW (S.take (S.length - 1))) (lW S)]
def FP (S:List Int) (x:nt):Int:=if fD x.kind=2 then qb x.kind (lW S) else 0
def Iz (ns:List Int):List nt→List Int→Int × Int
 | [],S=>(lW S,0)
 | x::r,S=>if FP S x=0 then Iz ns r (pM ns S x) else (0,FP S x)
def runM (l:List nt) (ns:List Int):Int × Int:=if eG l ns.length=true then Iz ns l [] else (0,8)
theorem zO (k:Int):fD k=0∨fD k=1∨fD k=2:=by
 unfold fD
 repeat' split
 all_goals omega
section
variable {xs:List nt} {ns S:List Int} {k:Nat} {x:nt} {n h:Int}
theorem CK (hx:xs[k]? = some x) (h:FP S x=0):Iz ns (xs.drop k) S=Iz ns (xs.drop (k+1)) (pM ns S x):=by
 obtain ⟨hk,he⟩:=List.getElem?_eq_some_iff.1 hx
 rw [List.drop_eq_getElem_cons hk,he,Iz,if_pos h]
theorem UQ (hx:xs[k]? = some x) (h:¬ FP S x=0):Iz ns (xs.drop k) S=(0,FP S x):=by
 obtain ⟨hk,he⟩:=List.getElem?_eq_some_iff.1 hx
 rw [List.drop_eq_getElem_cons hk,he,Iz,if_neg h]
theorem FQ {many:Int} (h:eG xs many=true):xs.length≤40∧(∃ a,ht xs=some (1,a))∧∀ x∈xs,sy many x=false:=by
 unfold eG at h
 rw [Bool.and_eq_true,Bool.and_eq_true,Bool.and_eq_true,decide_eq_true_eq,decide_eq_true_eq] at h
 obtain ⟨⟨⟨h1,h2⟩,h3⟩,h4⟩:=h
 refine ⟨h1,?_,λ x hx=>?_⟩
 ·unfold htN at h3
  cases hh:ht xs with
  | none=>rw [hh] at h2; cases h2
  | some p=>rw [hh] at h3; exact ⟨p.2,by rw [← h3]⟩
 ·have:xs.any (sy many)=false:=by simpa using h4
  rw [List.any_eq_false] at this
  simpa using this x hx
theorem R0 (hw:fD x.kind≤(S.length:Int)):((pM ns S x).length:Int)=S.length - fD x.kind+1:=by
 unfold pM
 rcases zO x.kind with h | h | h
 ·rw [if_pos h,h,List.length_append,List.length_singleton]; omega
 ·rw [if_neg (by omega),if_pos h,h,List.length_append,List.length_take,List.length_singleton]; omega
 ·rw [if_neg (by omega),if_neg (by omega),h,List.length_append,List.length_take,List.length_singleton]; omega
theorem R2 {a:Int} (mw:ht xs=some (1,a)) (KT:ht (xs.take k)=some ((S.length:Int),h)) (hx:xs[k]? = some x) :
  fD x.kind≤(S.length:Int)∧∃ h',ht (xs.take (k+1))=some (((pM ns S x).length:Int),h'):=by
 have hw:fD x.kind≤(S.length:Int):=by
  rcases Int.lt_or_le ((S.length:Int) - fD x.kind) 0 with h1 | h1
  ·have:=Qg (ahS hx KT rfl h1); rw [mw] at this; cases this
  ·omega
 exact ⟨hw,_,(aby hx KT rfl (by omega)).trans (by rw [R0 hw])⟩
theorem ahT (hw:fD x.kind=0) (h2:¬ x.kind=2):pM ns S x=S++[x.n]:=by unfold pM; rw [if_pos hw,if_neg h2]
theorem ahU {e:Int} (hw:fD x.kind=0) (h2:x.kind=2) (he:ns[x.n.toNat]? = some e):pM ns S x=S++[e]:=by
 unfold pM; rw [if_pos hw,if_pos h2,List.getD_eq_getElem?_getD,he]; rfl
theorem ahV (hw:fD x.kind=1):pM ns S x=S.take (S.length - 1)++[Cm x.kind (lW S)]:=by unfold pM; rw [if_neg (by omega),if_pos hw]
theorem ahW (hw:fD x.kind=2):pM ns S x=S.take (S.length - 2)++[qc x.kind (lW (S.take (S.length - 1))) (lW S)]:=by unfold pM; rw [if_neg (by omega),if_neg (by omega)]
theorem UR (hw:¬ fD x.kind=2):FP S x=0:=by unfold FP; rw [if_neg hw]
theorem ae0 (hw:fD x.kind=2):FP S x=qb x.kind (lW S):=by unfold FP; rw [if_pos hw]
theorem Nv (h:2≤S.length):(S.take (S.length - 1)).take ((S.take (S.length - 1)).length - 1)=S.take (S.length - 2):=by
 rw [List.take_take,List.length_take]; congr 1; omega
end
def mO (b:Nat) (l:List Int):HP:=ua fun (hi:Int)=>oa b [.int .i64 hi] l
theorem mO.shut {w0 w:World} {A:Nat→Prop} {R:List HP} {b:Nat} {hi:Int} {l:List Int} (hs:St w0 A (oa b [.int .i64 hi] l::R) w):St w0 A (mO b l::R) w:=
 St.eJ (H:=fun (hi:Int)=>oa b [.int .i64 hi] l) hi hs
theorem abz (b:Nat) (n:Int) (l:List Int) (F:Nat→Prop) (w:World) (hF:(mO b l).p w F) (hn:l.length≤1048576) :
  Calls PG 172 [.pointer (some ⟨b,0,none⟩),.int .i64 n].toArray w (qp λ v w'=>v = .tuple #[]∧qx F (mO b (l++[n])) w w'):=by
 obtain ⟨hi,hF⟩:=hF
 refine (C172 b n hi l F w hF hn).mono λ e w' ⟨v,he,hv,M0,F',h1,h2⟩=>⟨v,he,hv,F',⟨M0,h1⟩,h2⟩
theorem abA (b:Nat) (l:List Int) (F:Nat→Prop) (w:World) (hF:(mO b l).p w F) (hn:l.length≤1048576) (h0:0<l.length) :
  Calls PG 174 [.pointer (some ⟨b,0,none⟩)].toArray w (qp λ v w'=>v = .int .i64 (lW l)∧qx F (mO b (l.take (l.length - 1))) w w'):=by
 obtain ⟨hi,hF⟩:=hF
 refine (C174 b [.int .i64 hi] l F w hF hn h0).mono λ e w' ⟨v,he,hv,F',h1,h2⟩=>⟨v,he,hv,F',⟨hi,h1⟩,h2⟩
theorem C110 (sv nv:Value) (xs:List nt) (ns:List Int) (w:World) (hL:eL (λ _=>True) w sv xs) (hN:eL (λ _=>True) w nv ns) (hn:xs.length≤1048576):CR 110 [sv,nv] w (λ v w'=>v = .tuple #[.int .i64 (runM xs ns).1,.int .i64 (runM xs ns).2]∧Ext w w'):=by
 have hs:=St.start w;refine YY _ _ _ _ ?_;unfold S110;refine aJ eg (hN.ext hs.aE) (aZ Pt hs (C116 _ _ _ _ (hL.ext hs.aE) hn) (λ w1 he hs=>bZ (aY (λ fi=>?_) (λ fi=>?_))))
 ·unfold runM;rw [if_neg (by simpa using fi)];exact ⟨rfl,hs.aE⟩
 ·refine aO hs abl (λ we w2 hs=>?_);have hs:=mO.shut (oa.shut (hs.fY (α:=Int)).p1);have gj:eG xs (ns.length:Int)=true:=by simpa using fi
  obtain ⟨h40,⟨a0,mw⟩,avS⟩:=FQ gj;refine aJ vF (hL.ext hs.aE) ?_;refine ⟨λ m x w1=>∃ (k:Nat) (S:List Int) (h:Int),x = .int .i64 (k:Int)∧m=xs.length - k∧k≤xs.length∧Iz ns xs []=Iz ns (xs.drop k) S∧ht (xs.take k)=some ((S.length:Int),h)∧St w bD [mO we S] w1,⟨_,0,[],0,rfl,rfl,by omega,rfl,rfl,hs⟩,?_⟩;rintro m _ w3 ⟨k,S,h,rfl,rfl,hk,J1,KT,hs⟩ fu;refine aR (aC (λ iU=>?_) (λ iU=>?_))
  ·refine ⟨_,?_,λ _ h=>h⟩;obtain ⟨gW,iB⟩:=gx (xs) (i:=((k:Int)).toNat) (by omega);refine aQ vF (hL.ext hs.aE) (by omega) iB (λ _ wg=>aD Ku (wg) (aO hs PY (λ Cp w4 hs=>aI (x:=gW) hs Ku rfl rfl (λ w5 hs=>aA nU (aB bN hs.hb rfl (aZ aes hs (C171 _ _) (λ w6 he hs=>?_)))))));have hod:=avS _ (List.mem_of_getElem? iB);unfold sy at hod;have ho:=of_decide_eq_false hod;obtain ⟨Nw,h2,abB⟩:=R2 (ns:=ns) (k:=k) mw KT iB;have hwk:fD gW.kind=0→gW.kind=1∨gW.kind=2∨¬ (gW.kind=1∨gW.kind=2):=λ _=>by omega
   have hSk:=ahR k _ _ (by omega) KT;have hw3:=zO gW.kind;refine aH (aC (λ wh=>?_) (λ wh=>?_))
   ·refine aA q7 (aB bN hs.hb rfl ?_);refine ⟨_,?_,λ _ _ h=>h⟩;refine aA nU (aB bN hs.hb rfl (aH (aC (λ rj=>?_) (λ rj=>?_))))
    ·refine aA q7 (aB bN hs.hb rfl ?_);obtain ⟨ae1,US⟩:=gx (ns) (i:=((gW).n).toNat) (by omega);refine aQ eg (hN.ext hs.aE) (by omega) US (λ _ DV=>aD bN (DV) ?_);intro jz;refine po PD hs.p1 (H':=λ _=>mO we (S++[ae1])) (Φ:=λ v _=>v = .tuple #[]) (λ F hF=>?_) ?_
     ·exact abz we ae1 S F _ hF (by first | omega | (simp only [List.length_take,List.length_append,List.length_singleton]; omega))
     rintro _ w8 rfl hs;intro oG;refine aN (by omega) ?_;have hs:=(hs.p1).drop;have gb:pM ns S gW=_:=ahU wh rj US;exact ⟨_,by omega,k+1,_,_,rfl,rfl,by omega,J1.trans (CK (k:=k) iB (UR (by omega))),abB,by rw [gb]; exact hs⟩
    ·intro jz;refine po PD hs.p1 (H':=λ _=>mO we (S++[(gW).n])) (Φ:=λ v _=>v = .tuple #[]) (λ F hF=>?_) ?_
     ·exact abz we (gW).n S F _ hF (by first | omega | (simp only [List.length_take,List.length_append,List.length_singleton]; omega))
     rintro _ w8 rfl hs;intro oG;refine aN (by omega) ?_;have hs:=(hs.p1).drop;have gb:pM ns S gW=_:=ahT wh rj;exact ⟨_,by omega,k+1,_,_,rfl,rfl,by omega,J1.trans (CK (k:=k) iB (UR (by omega))),abB,by rw [gb]; exact hs⟩
   ·refine aH (aC (λ GI=>?_) (λ GI=>?_))
    ·refine aA nU (have hs:=hs.drew;aB bN hs.hb rfl (aA tX (po PE hs.p1 (H':=λ _=>mO we (S.take (S.length - 1))) (Φ:=λ v _=>v = .int .i64 (lW S)) (λ F hF=>?_) ?_)))
     ·exact abA we S F _ hF (by first | omega | (simp only [List.length_take,List.length_append,List.length_singleton]; omega)) (by first | omega | (simp only [List.length_take,List.length_append,List.length_singleton]; omega))
     rintro _ w9 rfl hs;refine ⟨aG bN (hs.p1.hb.cell rfl),?_⟩;refine aZ amZ hs (C173 _ _ _) (λ qd he hs=>bG rfl (bG rfl (po PD hs (H':=λ _=>mO we ((S.take (S.length - 1))++[(Cm (gW).kind (lW S))])) (Φ:=λ v _=>v = .tuple #[]) (λ F hF=>?_) ?_)))
     ·exact abz we (Cm (gW).kind (lW S)) (S.take (S.length - 1)) F _ hF (by first | omega | (simp only [List.length_take,List.length_append,List.length_singleton]; omega))
     rintro _ tG rfl hs;intro oG;refine aN (by omega) ?_;have hs:=(hs.p1).drop;have gb:pM ns S gW=_:=ahV GI;exact ⟨_,by omega,k+1,_,_,rfl,rfl,by omega,J1.trans (CK (k:=k) iB (UR (by omega))),abB,by rw [gb]; exact hs⟩
    ·refine aA tX (po PE hs.p1 (H':=λ _=>mO we (S.take (S.length - 1))) (Φ:=λ v _=>v = .int .i64 (lW S)) (λ F hF=>?_) ?_)
     ·exact abA we S F _ hF (by first | omega | (simp only [List.length_take,List.length_append,List.length_singleton]; omega)) (by first | omega | (simp only [List.length_take,List.length_append,List.length_singleton]; omega))
     rintro _ vt rfl hs;refine aA nU (have hs:=hs.drew;aB bN hs.p1.hb rfl (aA tX (po PE hs (H':=λ _=>mO we ((S.take (S.length - 1)).take ((S.take (S.length - 1)).length - 1))) (Φ:=λ v _=>v = .int .i64 (lW (S.take (S.length - 1)))) (λ F hF=>?_) ?_)))
     ·exact abA we (S.take (S.length - 1)) F _ hF (by first | omega | (simp only [List.length_take,List.length_append,List.length_singleton]; omega)) (by first | omega | (simp only [List.length_take,List.length_append,List.length_singleton]; omega))
     rintro _ uU rfl hs;refine ⟨aG bN (hs.p1.hb.cell rfl),?_⟩;refine aZ am0 hs (C175 _ _ _ _) (λ sw he hs=>bG rfl (bG rfl (cT (aC (λ kK=>?_) (λ kK=>?_)))))
     ·have hz:FP S gW=qb gW.kind (lW S):=ae0 (by have:=zO gW.kind; omega);unfold runM;rw [if_pos gj,J1,UQ (k:=k) iB (by rw [hz]; exact kK),hz];exact ⟨rfl,hs.aE⟩
     ·refine po PD hs (H':=λ _=>mO we (((S.take (S.length - 1)).take ((S.take (S.length - 1)).length - 1))++[(qc (gW).kind (lW (S.take (S.length - 1))) (lW S))])) (Φ:=λ v _=>v = .tuple #[]) (λ F hF=>?_) ?_
      ·exact abz we (qc (gW).kind (lW (S.take (S.length - 1))) (lW S)) ((S.take (S.length - 1)).take ((S.take (S.length - 1)).length - 1)) F _ hF (by first | omega | (simp only [List.length_take,List.length_append,List.length_singleton]; omega))
      rintro _ wc rfl hs;intro oG;refine aN (by omega) ?_;have hs:=(hs.p1).drop;rw [Nv (by omega)] at hs;have gb:pM ns S gW=_:=ahW (by have:=zO gW.kind; omega);exact ⟨_,by omega,k+1,_,_,rfl,rfl,by omega,J1.trans (CK (k:=k) iB ((ae0 (by have:=zO gW.kind; omega)).trans (Decidable.not_not.1 kK))),abB,by rw [gb]; exact hs⟩
  ·refine aA tX ?_
   have hS1:S.length=1:=by
    rw [List.take_of_length_le (by omega),mw] at KT;have:=(Prod.mk.inj (Option.some.inj KT)).1;omega
   refine po PE hs (H':=λ _=>mO we (S.take (S.length - 1))) (Φ:=λ v _=>v = .int .i64 (lW S)) (λ F hF=>?_) ?_
   ·exact abA we S F _ hF (by first | omega | (simp only [List.length_take,List.length_append,List.length_singleton]; omega)) (by first | omega | (simp only [List.length_take,List.length_append,List.length_singleton]; omega))
   rintro _ Cn rfl hs;unfold runM;rw [if_pos gj,J1,List.drop_eq_nil_of_le (by omega)];exact ⟨rfl,hs.aE⟩
def dR (ns:List ByteArray) (s:ByteArray):Int:=uV (λ y=>decide (y=s)) ns
def gK (p:cO):List dH:=p.lines.flatten++p.jX
structure PS (p:cO):Prop where
 lines:p.lines.length≤500
 line:∀ l∈p.lines,l.length≤500
 jX:p.jX.length≤500
 locks:p.locks.length≤500
 threads:p.threads.length≤500
 recover:p.recover.length≤500
 cB:p.cB.length≤500
 aK:∀ t∈p.threads++p.recover,t.aK.length≤500
 body:∀ t∈p.threads++p.recover,t.body.length≤500
theorem cJ {ls:List (List dH)} (h:∀ l∈ls,l.length≤500):ls.flatten.length≤500 * ls.length:=by
 induction ls with
 | nil=>simp
 | cons a ls ih=>
  have h1:=h a (by simp)
  have h2:=ih λ l hl=>h l (List.mem_cons_of_mem _ hl)
  rw [List.flatten_cons,List.length_append,List.length_cons]; omega
theorem nd {p:cO} (h:PS p):(gK p).length≤250500:=by
 have h1:=cJ h.line
 have h2:=h.lines
 have h3:=h.jX
 unfold gK; rw [List.length_append]; omega
theorem R3 {α:Type} {ls:List (List α)} {k:Nat} {l:List α} (h:ls[k]? = some l):(ls.take k).flatten++l=(ls.take (k+1)).flatten:=by rw [← gN h,List.flatten_append]; simp
theorem iV {α β:Type} {f:α→β} {l:List α} {k:Nat} {e:α} (h:l[k]? = some e):(l.take k).map f++[f e]=(l.take (k+1)).map f:=by rw [← gN h,List.map_append]; rfl
theorem C98 (lv:Value) (ns:List ByteArray) (q:ByteArray) (w:World) (hL:eL (λ _=>True) w lv ns) (hn:ns.length≤1048576):CR 98 [lv,.string q] w (λ v w'=>v = .int .i64 (dR ns q)∧Ext w w'):=by
 have hs:=St.start w;refine ahB _ _ _ _ ?_;unfold S98;refine ⟨λ m x w1=>∃ k:Nat,x = .int .i64 (k:Int)∧m=ns.length - k∧k≤ns.length∧(∀ y∈ns.take k,decide (y=q)=false)∧St w bD [] w1,⟨_,0,rfl,rfl,Nat.zero_le _,by simp,hs⟩,?_⟩;rintro m _ w1 ⟨k,rfl,rfl,hk,fQ,hs⟩ fu;refine aJ mZ (hL.ext hs.aE) (aR (aC (λ gr=>?_) (λ gr=>?_)))
 ·obtain ⟨js,dD⟩:=gx (ns) (i:=((k:Int)).toNat) (by omega);refine aQ mZ (hL.ext hs.aE) (by omega) dD (λ _ iT=>aD kf (iT) (ub (aC (λ mf=>?_) (λ mf=>?_))))
  ·exact ⟨congrArg (Value.int .i64) (pq fQ dD (decide_eq_true mf)).symm,hs.aE⟩
  ·refine aN (by omega) ?_;exact ⟨ns.length - (k+1),by omega,k+1,rfl,rfl,by omega,ew fQ dD (decide_eq_false mf),hs⟩
 ·exact ⟨congrArg (Value.int .i64) (ku (by rw [List.take_of_length_le (by omega)] at fQ; exact fQ)).symm,hs.aE⟩
theorem C107 (lv:Value) (cs:List dH) (w:World) (hL:eL (λ _=>True) w lv cs) (hn:cs.length≤1048576):CR 107 [lv] w (λ v w'=>mc (bL v (cs.map dH.name)) w w'):=by
 have hs:=St.start w;refine YV _ _ _ ?_;unfold S107;refine bX (([]:List ByteArray)) hs mZ rfl rfl (eE rfl) (λ IA w1 hs=>?_);refine ⟨λ m y x w1=>∃ k:Nat,x = .int .i64 (k:Int)∧m=cs.length - k∧k≤cs.length∧St w bD [bL y ((cs.take k).map dH.name)] w1,⟨_,0,rfl,rfl,by omega,hs⟩,?_⟩;rintro m fX _ w2 ⟨k,rfl,rfl,hk,hs⟩ fu;have hml:((cs.take k).map dH.name).length=k:=by rw [List.length_map,List.length_take]; omega
 refine aJ j9 (hL.ext hs.aE) (aR (aC (λ gr=>?_) (λ gr=>?_)))
 ·obtain ⟨pN,jY⟩:=gx (cs) (i:=((k:Int)).toNat) (by omega);refine aQ j9 (hL.ext hs.aE) (by omega) jY (λ _ rk=>bT (pN).name pI rk rfl rfl (λ _ uc=>aD kf (uc) (bX ([(pN).name]) hs mZ rfl rfl (eE rfl) (λ ae2 w3 hs=>?_))));have oc:=(hs).fM;refine cP hs.p1 mZ oc (by simp <;> omega) (by decide) (λ UT w4 hs=>have hs:=hs.p1.drop;aN (by omega) ?_);exact ⟨_,by omega,k+1,rfl,rfl,by omega,by rw [← iV (k:=k) jY]; exact hs⟩
 ·rw [List.take_of_length_le (by omega)] at hs;exact hs.fresh
theorem C102 (p:cO) (pv:bK) (w:World) (hp:cD.dr w pv p) (hz:PS p):CR 102 [Flat.val pv] w (λ v w'=>mc (bL v (gK p)) w w'):=by
 obtain ⟨bE,bP,bF,aS,aT,aX,rfl,cH,cU,cI,bR,bO,bY⟩:=hp;have hs:=St.start w;refine YQ _ _ _ ?_;unfold S102;refine dE hs (λ kI w1 hs=>bX (([]:List dH)) hs j9 rfl rfl (eE rfl) (λ IA w2 hs=>?_));refine ⟨λ m y x w1=>∃ k:Nat,x = .int .i64 (k:Int)∧m=p.lines.length - k∧k≤p.lines.length∧St w bD [bL y (p.lines.take k).flatten,cC kI (Flat.enc (⟨bE,bP,bF,aS,aT,aX⟩:bK))] w1,⟨_,0,rfl,rfl,by omega,hs⟩,?_⟩;rintro m fX _ w3 ⟨k,rfl,rfl,hk,hs⟩ fu;have Ym:=hz.lines;refine aA jx (aB r8 hs.p1.hb rfl ?_)
 obtain ⟨Yn,hR1,hD1⟩:=(cH).open;have Th:=hD1.1;refine aJ vE (hR1.ext hs.aE) (aR (aC (λ fB=>?_) (λ fB=>?_)))
 ·refine aA jx (aB r8 hs.p1.hb rfl ?_);obtain ⟨aop,UU⟩:=gx Yn (i:=((k:Int)).toNat) (by omega);obtain ⟨aoq,Nx⟩:=gx ((p).lines) (i:=((k:Int)).toNat) (by omega);have aor:DL w (Flat.val aop) aoq:=hD1.2 _ _ _ UU Nx;refine aQ vE (hR1.ext hs.aE) (by omega) UU (λ _ KV=>aD jD (KV) ?_);have J2:=DL.flat (aor);have Ny:=hz.line _ (List.mem_of_getElem? Nx);have Bd:=cJ (ls:=p.lines.take k) (λ l hl=>hz.line l (List.mem_of_mem_take hl));rw [List.length_take] at Bd;have Ym:=hz.lines;have oc:=(J2.ext hs.aE);refine cP hs j9 oc (by omega) (by decide) (λ UT w4 hs=>aN (by omega) ?_)
  exact ⟨_,by omega,k+1,rfl,rfl,by omega,by rw [← R3 (k:=k) Nx]; exact hs⟩
 ·refine aA uO (aB jD hs.p1.hb rfl ?_);have hf3:=DL.flat (cU);have Bd:=cJ (ls:=p.lines.take k) (λ l hl=>hz.line l (List.mem_of_mem_take hl));rw [List.length_take] at Bd;have Ym:=hz.lines;have hz2:=hz.jX;have ahX:=(hf3.ext hs.aE);refine cP hs j9 ahX (by omega) (by decide) (λ aos w5 hs=>?_);rw [List.take_of_length_le (by omega)] at hs;exact hs.p1.drop.fresh
def kids (k:Int):Int:=if k=1∨k=2 then 0 else if k=3∨k=4 then 1 else if 5≤k∧k≤15 then 2 else -1
theorem IB (k:Int) : -1≤kids k∧kids k≤2:=by
 unfold kids
 repeat' split
 all_goals omega
def jA (c:Int):Bool:=decide (97≤c∧c≤122∨c=95)
def nu (c:Int):Bool:=decide (48≤c∧c≤57)
def wi:List ByteArray:=[⟨#[108,105,110,101]⟩,⟨#[118,111,108]⟩,⟨#[108,111,99,107]⟩,⟨#[116,104,114,101,97,100]⟩,⟨#[114,101,103]⟩,⟨#[108,111,97,100]⟩,⟨#[115,116,111,114,101]⟩,⟨#[99,97,115]⟩,⟨#[102,108,117,115,104]⟩,⟨#[111,112,116]⟩,⟨#[115,102,101,110,99,101]⟩,⟨#[109,102,101,110,99,101]⟩,⟨#[116,97,107,101]⟩,⟨#[103,105,118,101]⟩,⟨#[105,102]⟩,⟨#[101,108,115,101]⟩,⟨#[108,111,111,112]⟩,⟨#[98,114,101,97,107]⟩,⟨#[99,104,101,99,107]⟩,⟨#[114,101,99,111,118,101,114]⟩,⟨#[97,108,119,97,121,115]⟩]
def j6 (s:ByteArray):Bool:=!(decide (s.size<1∨16<s.size) || (match (lx s)[0]? with | some c=>!jA c.toNat | none=>true) || wi.any (λ y=>decide (y=s))) && !(lx s).any (λ c=>!jA c.toNat && !nu c.toNat)
def skip:Nat→List cY→Option (List cY)
 | 0,l=>some l
 | _+1,[]=>none
 | n+1,x::l=>if kids x.op<0 then none else skip (n+(kids x.op).toNat) l
theorem yE (l:List cY):skip 0 l=some l:=by cases l <;> rfl
theorem DW (l:List cY):∀ a b,skip (a+b) l=(skip a l).bind (skip b):=by
 induction l with
 | nil=>
  intro a b
  cases a with
  | zero=>rw [Nat.zero_add,yE]; rfl
  | succ a=>rw [show a+1+b=(a+b)+1 from by omega]; rfl
 | cons x l ih=>
  intro a b
  cases a with
  | zero=>rw [Nat.zero_add,yE]; rfl
  | succ a=>
   rw [show a+1+b=(a+b)+1 from by omega]
   show (if kids x.op<0 then none else skip (a+b+(kids x.op).toNat) l)=(if kids x.op<0 then none else skip (a+(kids x.op).toNat) l).bind (skip b)
   split
   ·rfl
   ·rw [show a+b+(kids x.op).toNat=a+(kids x.op).toNat+b from by omega]; exact ih _ _
theorem DX (l:List cY):∀ n r,skip n l=some r→r=l.drop (l.length - r.length)∧r.length+min n 1≤l.length:=by
 induction l with
 | nil=>
  intro n r h
  cases n with
  | zero=>rw [yE] at h; cases h; exact ⟨rfl,by simp⟩
  | succ n=>cases h
 | cons x l ih=>
  intro n r h
  cases n with
  | zero=>rw [yE] at h; cases h; exact ⟨by simp,by simp⟩
  | succ n=>
   have h:(if kids x.op<0 then none else skip (n+(kids x.op).toNat) l)=some r:=h
   split at h
   ·cases h
   ·obtain ⟨h1,h2⟩:=ih _ _ h
    refine ⟨?_,by rw [List.length_cons]; omega⟩
    rw [show (x::l).length - r.length=(l.length - r.length)+1 from by rw [List.length_cons]; omega]
    exact h1
def GJ (n:Nat) (o:Option (List cY)):Int:=match o with | some r=>(n:Int) - r.length | none=>-1
def uW (xs:List cY) (i:Int):Int:=if i<0 then -1 else GJ xs.length (skip 1 (xs.drop i.toNat))
theorem UW {xs:List cY} {i:Int} {x:cY} (h0:0≤i) (hx:xs[i.toNat]? = some x) (hk:0≤kids x.op):uW xs i=GJ xs.length (skip (kids x.op).toNat (xs.drop (i.toNat+1))):=by
 unfold uW
 obtain ⟨hl,he⟩:=List.getElem?_eq_some_iff.1 hx
 rw [if_neg (by omega),List.drop_eq_getElem_cons hl,he]
 show GJ _ (if kids x.op<0 then none else skip (0+(kids x.op).toNat) _)=_
 rw [if_neg (by omega),Nat.zero_add]
theorem abC {xs:List cY} {i:Int} {x:cY} (h0:0≤i) (hx:xs[i.toNat]? = some x) (hk:kids x.op<0):uW xs i = -1:=by
 unfold uW
 obtain ⟨hl,he⟩:=List.getElem?_eq_some_iff.1 hx
 rw [if_neg (by omega),List.drop_eq_getElem_cons hl,he]
 show GJ _ (if kids x.op<0 then none else _)=_
 rw [if_pos hk]; rfl
theorem abD {xs:List cY} {i:Int} (h:i<0∨xs.length≤i):uW xs i = -1:=by
 unfold uW
 split
 ·rfl
 ·rw [List.drop_eq_nil_of_le (by omega)]; rfl
theorem aot {xs:List cY} {j k:Nat} {a:Int} (h:GJ xs.length (skip k (xs.drop j))=a) (h0:0≤a):uW xs a=GJ xs.length (skip (k+1) (xs.drop j))∧((j:Int)≤a∨xs.length≤a):=by
 cases hs:skip k (xs.drop j) with
 | none=>rw [hs] at h; unfold GJ at h; simp only [] at h; omega
 | some r=>
  rw [hs] at h
  have h:(xs.length:Int) - r.length=a:=h
  obtain ⟨h1,h2⟩:=DX _ _ _ hs
  rw [List.length_drop] at h1 h2
  rw [DW,hs]
  show _=GJ _ (skip 1 r)∧_
  refine ⟨?_,by omega⟩
  unfold uW
  rw [if_neg (by omega)]
  by_cases hj:j≤xs.length
  ·have:xs.drop a.toNat=r:=by
    rw [h1,List.drop_drop,show j+(xs.length - j - r.length)=a.toNat from by omega]
   rw [this]
  ·have:r=[]:=List.length_eq_zero_iff.1 (by omega)
   subst this
   rw [List.drop_eq_nil_of_le (by simp at h; omega)]
theorem ahY {xs l:List cY} {k j:Nat} (hl:l.length≤xs.length) (h:¬ 0≤GJ xs.length (skip k l)) (hj:k≤j):GJ xs.length (skip k l)=GJ xs.length (skip j l):=by
 cases hs:skip k l with
 | none=>rw [show j=k+(j - k) from by omega,DW,hs]; rfl
 | some r=>
  obtain ⟨_,h2⟩:=DX _ _ _ hs
  rw [hs] at h; unfold GJ at h; simp only [] at h; omega
theorem avV {xs l:List cY} {k:Nat} (hl:l.length≤xs.length) : -1≤GJ xs.length (skip k l)∧GJ xs.length (skip k l)≤xs.length:=by
 cases hs:skip k l with
 | none=>unfold GJ; simp only []; omega
 | some r=>
  obtain ⟨_,h2⟩:=DX _ _ _ hs
  unfold GJ; simp only []; omega
theorem C163 (k:Int) (w:World):CR 163 [.int .i64 k] w (λ v w'=>v = .int .i64 (kids k)∧Ext w w'):=by
 have hs:=St.start w;refine ZD _ _ _ ?_;unfold S163;refine ⟨λ jv w'=>jv = .bool (decide (k=1∨k=2))∧w=w',?_,?_⟩
 ·refine aH (aC (λ oB=>?_) (λ oB=>?_))
  ·exact ⟨Pq (by omega),rfl⟩
  ·refine aH ?_;exact ⟨tD (by omega),rfl⟩
 ·rintro _ w1 ⟨rfl,hw⟩ fu;subst hw;refine aC (λ gi=>?_) (λ gi=>?_)
  ·unfold kids;exact ⟨congrArg (Value.int .i64) (by grind),hs.aE⟩
  ·refine ⟨λ jv w'=>jv = .bool (decide (k=3∨k=4))∧w=w',?_,?_⟩
   ·refine aH (aC (λ fB=>?_) (λ fB=>?_))
    ·exact ⟨Pq (by omega),rfl⟩
    ·refine aH ?_;exact ⟨tD (by omega),rfl⟩
   ·rintro _ w2 ⟨rfl,hw⟩ jz;subst hw;refine aC (λ gV=>?_) (λ gV=>?_)
    ·unfold kids;exact ⟨congrArg (Value.int .i64) (by grind),hs.aE⟩
    ·refine ⟨λ jv w'=>jv = .bool (decide (5≤k∧k≤15))∧w=w',?_,?_⟩
     ·refine dI (aC (λ eM=>?_) (λ eM=>?_))
      ·refine jL ?_;exact ⟨tD (by omega),rfl⟩
      ·exact ⟨jvF (by omega),rfl⟩
     ·rintro _ w3 ⟨rfl,hw⟩ oG;subst hw;refine aC (λ jC=>?_) (λ jC=>?_)
      ·unfold kids;exact ⟨congrArg (Value.int .i64) (by grind),hs.aE⟩
      ·unfold kids;exact ⟨congrArg (Value.int .i64) (by grind),hs.aE⟩
theorem C206 (c:Int) (w:World):CR 206 [.int .u8 c] w (λ v w'=>v = .bool (jA c)∧Ext w w'):=by
 have hs:=St.start w;refine aad _ _ _ ?_;unfold S206;refine ⟨λ jv w'=>jv = .bool (decide (97≤c∧c≤122∨c=95))∧w=w',?_,?_⟩
 ·refine KM (aC (λ oB=>?_) (λ oB=>?_))
  ·refine KL (aC (λ iN=>?_) (λ iN=>?_))
   ·exact ⟨Pq (by omega),rfl⟩
   ·refine nY ?_;exact ⟨tD (by omega),rfl⟩
  ·refine nY ?_;exact ⟨tD (by omega),rfl⟩
 ·rintro _ w1 ⟨rfl,hw⟩ fu;subst hw;exact ⟨rfl,hs.aE⟩
theorem C208 (c:Int) (w:World):CR 208 [.int .u8 c] w (λ v w'=>v = .bool (nu c)∧Ext w w'):=by
 have hs:=St.start w;refine aaf _ _ _ ?_;unfold S208;refine ⟨λ jv w'=>jv = .bool (decide (48≤c∧c≤57))∧w=w',?_,?_⟩
 ·refine KM (aC (λ oB=>?_) (λ oB=>?_))
  ·refine KL ?_;exact ⟨tD (by omega),rfl⟩
  ·exact ⟨jvF (by omega),rfl⟩
 ·rintro _ w1 ⟨rfl,hw⟩ fu;subst hw;exact ⟨rfl,hs.aE⟩
theorem C207 (s:ByteArray) (w:World):CR 207 [.string s] w (λ v w'=>v = .bool (wi.any (λ y=>decide (y=s)))∧Ext w w'):=by
 have hs:=St.start w;refine aae _ _ _ ?_;unfold S207;refine bX (wi) hs mZ rfl rfl (eE rfl) (λ IA w1 hs=>?_);refine ⟨λ m x w1=>∃ k:Nat,x = .int .i64 (k:Int)∧m=wi.length - k∧k≤wi.length∧(∀ y∈wi.take k,decide (y=s)=false)∧St w bD [bL IA wi] w1,⟨_,0,rfl,rfl,Nat.zero_le _,by simp,hs⟩,?_⟩;rintro m _ w2 ⟨k,rfl,rfl,hk,fQ,hs⟩ fu;have KW:wi.length=21:=rfl;refine aJ mZ (hs).fM (aR (aC (λ gr=>?_) (λ gr=>?_)))
 ·skip;obtain ⟨js,dD⟩:=gx (wi) (i:=((k:Int)).toNat) (by omega);refine dT hs mZ (by omega) (by omega) (λ _ iT=>ga hs kf iT dD (ub (aC (λ mf=>?_) (λ mf=>?_))))
  ·exact ⟨vb (jF dD (decide_eq_true mf)).symm,hs.aE⟩
  ·refine aN (by omega) ?_;exact ⟨_,by omega,k+1,rfl,rfl,by omega,ew fQ dD (decide_eq_false mf),hs⟩
 ·rw [List.take_of_length_le (by omega)] at fQ;exact ⟨vb (iO fQ).symm,hs.aE⟩
theorem C161 (s:ByteArray) (w:World) (hn:s.size≤1048576):CR 161 [.string s] w (λ v w'=>v = .bool (j6 s)∧Ext w w'):=by
 have hs:=St.start w;refine ZB _ _ _ ?_;unfold S161;refine ⟨λ jv w'=>jv = .bool (decide (s.size<1∨16<s.size) || (match (lx s)[0]? with | some c=>!jA c.toNat | none=>true) || wi.any (λ y=>decide (y=s)))∧St w bD [] w',?_,?_⟩
 ·refine gh gP (aR (aC (λ oA=>?_) (λ oA=>?_)))
  ·exact ⟨vb (by grind),hs⟩
  ·refine gh gP (cZ (aC (λ fB=>?_) (λ fB=>?_)))
   ·exact ⟨vb (by grind),hs⟩
   ·obtain ⟨js,dD⟩:∃ xx,(lx (s))[((0:Int)).toNat]? = some xx:=⟨_,List.getElem?_eq_getElem (by rw [dX]; omega)⟩;refine lS gP (by omega) dD (aZ PK hs (C206 _ _) (λ w1 he hs=>bZ (aY (λ eM=>?_) (λ eM=>?_))))
    ·exact ⟨vb (by grind),hs⟩
    ·refine aZ anj hs (C207 _ _) (λ w2 he hs=>?_);exact ⟨vb (by grind),hs⟩
 ·rintro _ w3 ⟨rfl,hs⟩ fu;refine aY (λ gz=>?_) (λ gz=>?_)
  ·refine ⟨vb ?_,hs.aE⟩;unfold j6;rw [gz]; rfl
  ·refine ⟨λ m x w1=>∃ k:Nat,x = .int .i64 (k:Int)∧m=(lx s).length - k∧k≤(lx s).length∧(∀ y∈(lx s).take k,(!jA y.toNat && !nu y.toNat)=false)∧St w bD [] w1,⟨_,0,rfl,rfl,Nat.zero_le _,by simp,hs⟩,?_⟩;rintro m _ w4 ⟨k,rfl,rfl,hk,fQ,hs⟩ jz;rw [dX] at hk;have yh:=dX s;refine gh gP (aR (aC (λ fH=>?_) (λ fH=>?_)))
   ·obtain ⟨DY,lJ⟩:∃ xx,(lx s)[((k:Int)).toNat]? = some xx:=⟨_,List.getElem?_eq_getElem (by rw [dX]; omega)⟩;refine ⟨λ jv w'=>jv = .bool (!jA DY.toNat && !nu DY.toNat)∧St w bD [] w',?_,?_⟩
    ·refine lS gP (by omega) lJ (aZ PK hs (C206 _ _) (λ w5 he hs=>bZ (aY (λ kx=>?_) (λ kx=>?_))))
     ·refine lS gP (by omega) lJ (aZ PN hs (C208 _ _) (λ w6 he hs=>bZ ?_));exact ⟨vb (by grind),hs⟩
     ·exact ⟨vb (by grind),hs⟩
    ·rintro _ w7 ⟨rfl,hs⟩ oG;refine aY (λ sB=>?_) (λ sB=>?_)
     ·refine ⟨vb ?_,hs.aE⟩;unfold j6;rw [jF lJ sB]; simp
     ·refine aN (by omega) ?_;exact ⟨_,by omega,k+1,rfl,rfl,by omega,ew fQ lJ (by simpa using sB),hs⟩
   ·rw [List.take_of_length_le (by omega)] at fQ;refine ⟨vb ?_,hs.aE⟩;unfold j6;rw [iO fQ]
    revert gz
    cases (decide (s.size<1∨16<s.size) || (match (lx s)[0]? with | some c=>!jA c.toNat | none=>true) || wi.any (λ y=>decide (y=s))) <;> simp
theorem C160 (lv:Value) (xs:List cY) (i:Int) (N:Nat) (w:World) (hL:eL (λ _=>True) w lv xs) (hn:xs.length≤1048576) (hi : -9223372036854775808≤i) (hN:(xs.length:Int) - i<N):CR 160 [lv,.int .i64 i] w (λ v w'=>v = .int .i64 (uW xs i)∧Ext w w'):=by
 have hs:=St.start w;refine ZA _ _ _ _ ?_;unfold S160;refine ⟨λ jv w'=>jv = .bool (decide (i<0∨(xs.length:Int)≤i) || (match xs[i.toNat]? with | some x=>decide (kids x.op<0) | none=>true))∧St w bD [] w',?_,?_⟩
 ·refine aR (aC (λ gi=>?_) (λ gi=>?_))
  ·exact ⟨vb (by grind),hs⟩
  ·refine aJ lZ (hL.ext hs.aE) (dI (aC (λ j7=>?_) (λ j7=>?_)))
   ·exact ⟨vb (by grind),hs⟩
   ·obtain ⟨rn,jt⟩:=gx (xs) (i:=(i).toNat) (by omega);refine aQ lZ (hL.ext hs.aE) (by omega) jt (λ _ wj=>bT (rn).op jo wj rfl rfl (λ _ jR=>aD bN (jR) (aZ PA hs (C163 _ _) (λ w1 he hs=>aR ?_))));exact ⟨vb (by grind),hs⟩
 ·rintro _ w2 ⟨rfl,hs⟩ fu;refine aY (λ iU=>?_) (λ iU=>?_)
  ·exact ⟨congrArg (Value.int .i64) (by grind [abD,abC]),hs.aE⟩
  ·have h23:¬ (i<0∨(xs.length:Int)≤i):=by grind
   obtain ⟨GK,FR⟩:∃ xx,xs[(i).toNat]? = some xx:=⟨_,List.getElem?_eq_getElem (by omega)⟩;have UX:0≤kids GK.op:=by grind
   have hkb:=IB GK.op;have Yo:=UW (by omega) FR UX;refine aN (by omega) ?_;refine ⟨λ m y x w1=>∃ (k:Nat) (a:Int),x = .int .i64 (k:Int)∧y = .int .i64 a∧m=(kids GK.op).toNat - k∧k≤(kids GK.op).toNat∧GJ xs.length (skip k (xs.drop (i.toNat+1)))=a∧St w bD [] w1,⟨_,0,i+1,rfl,rfl,rfl,by omega,by rw [yE]; unfold GJ; simp only [List.length_drop]; omega,hs⟩,?_⟩;rintro m _ _ w3 ⟨k,a,rfl,rfl,rfl,hk,gb,hs⟩ jz;have hab:=avV (xs:=xs) (l:=xs.drop (i.toNat+1)) (k:=k) (by rw [List.length_drop]; omega);rw [gb] at hab;refine ⟨λ jv w'=>jv = .bool (decide ((k:Int)<kids GK.op∧0≤a))∧St w bD [] w',?_,?_⟩
   ·refine aQ lZ (hL.ext hs.aE) (by omega) FR (λ _ DZ=>bT (GK).op jo DZ rfl rfl (λ _ od=>aD bN (od) (aZ PA hs (C163 _ _) (λ w4 he hs=>aR (aC (λ nB=>?_) (λ nB=>?_))))))
    ·refine dI ?_;exact ⟨vb (by grind),hs⟩
    ·exact ⟨vb (by grind),hs⟩
   ·rintro _ w5 ⟨rfl,hs⟩ oG;refine aC (λ ud=>?_) (λ ud=>?_)
    ·have hgo:=aot gb (by omega);refine aZ Pz hs (C160 _ _ _ (N - 1) _ (hL.ext hs.aE) hn (by omega) (by omega)) (λ w6 he hs=>aN (by omega) ?_);exact ⟨_,by omega,k+1,_,rfl,rfl,rfl,by omega,(hgo.1).symm,hs⟩
    ·exact ⟨congrArg (Value.int .i64) (by have:=ahY (xs:=xs) (l:=xs.drop (i.toNat+1)) (k:=k) (j:=(kids GK.op).toNat) (by rw [List.length_drop]; omega); rw [Yo]; by_cases h0:0≤a <;> grind),hs.aE⟩
termination_by N
decreasing_by omega
inductive Ex where
 | leaf (x:cY)
 | un (x:cY) (a:Ex)
 | bin (x:cY) (a b:Ex)
namespace Ex
def root:Ex→cY | leaf x=>x | un x _=>x | bin x _ _=>x
def gA:Ex→List Ex | leaf _=>[] | un _ a=>[a] | bin _ a b=>[a,b]
def flat:Ex→List cY | leaf x=>[x] | un x a=>x::a.flat | bin x a b=>x::(a.flat++b.flat)
def wf:Ex→Prop | leaf x=>kids x.op=0 | un x a=>kids x.op=1∧a.wf | bin x a b=>kids x.op=2∧a.wf∧b.wf
def depth:Ex→Int | leaf _=>1 | un _ a=>a.depth+1 | bin _ a b=>max a.depth b.depth+1
def size:Ex→Nat | leaf _=>1 | un _ a=>a.size+1 | bin _ a b=>a.size+b.size+1
def numOf (ns:List ByteArray) (x:cY):Int:=if x.op=2 then dR ns x.name else x.n
def steps (ns:List ByteArray):Ex→List nt
 | leaf x=>[⟨x.op,numOf ns x⟩]
 | un x a=>a.steps ns++[⟨x.op,numOf ns x⟩]
 | bin x a b=>a.steps ns++b.steps ns++[⟨x.op,numOf ns x⟩]
end Ex
theorem Ex.cJ (t:Ex):t.flat.length=t.size:=by
 induction t with
 | leaf x=>rfl
 | un x a ih=>simp [Ex.flat,Ex.size,ih]
 | bin x a b uX wk=>simp [Ex.flat,Ex.size,uX,wk]
theorem Ex.GL (t:Ex):t.flat=t.root::(t.gA.map Ex.flat).flatten:=by
 cases t <;> simp [Ex.flat,Ex.root,Ex.gA]
theorem Ex.KX {t:Ex} (h:t.wf):kids t.root.op=t.gA.length:=by
 cases t with
 | leaf x=>exact h
 | un x a=>exact h.1
 | bin x a b=>exact h.1
theorem Ex.IC {t a:Ex} (h:t.wf) (ha:a∈t.gA):a.wf∧a.size<t.size:=by
 cases t with
 | leaf x=>cases ha
 | un x b=>rw [List.mem_singleton.1 ha]; exact ⟨h.2,by simp [Ex.size]⟩
 | bin x b c=>
  rcases List.mem_cons.1 ha with rfl | ha
  ·exact ⟨h.2.1,by simp [Ex.size]; omega⟩
  ·rw [List.mem_singleton.1 ha]; exact ⟨h.2.2,by simp [Ex.size]; omega⟩
theorem Ex.zP (t:Ex):1≤t.depth∧t.depth≤t.size:=by
 induction t with
 | leaf x=>simp [Ex.depth,Ex.size]
 | un x a ih=>simp only [Ex.depth,Ex.size]; omega
 | bin x a b uX wk=>simp only [Ex.depth,Ex.size]; omega
theorem Ex.xl (ns:List ByteArray) (t:Ex):(t.steps ns).length=t.size:=by
 induction t with
 | leaf x=>rfl
 | un x a ih=>simp [Ex.steps,Ex.size,ih]
 | bin x a b uX wk=>simp [Ex.steps,Ex.size,uX,wk]; omega
theorem R4 (t:Ex) (h:t.wf):∀ n r,skip (n+1) (t.flat++r)=skip n r:=by
 induction t with
 | leaf x=>
  intro n r
  show (if kids x.op<0 then none else skip (n+(kids x.op).toNat) r)=_
  rw [show kids x.op=0 from h]; rfl
 | un x a ih=>
  intro n r
  show (if kids x.op<0 then none else skip (n+(kids x.op).toNat) (a.flat++r))=_
  rw [show kids x.op=1 from h.1,if_neg (by omega)]; exact ih h.2 n r
 | bin x a b uX wk=>
  intro n r
  show (if kids x.op<0 then none else skip (n+(kids x.op).toNat) (a.flat++b.flat++r))=_
  rw [show kids x.op=2 from h.1,if_neg (by omega),List.append_assoc]
  show skip (n+1+1) _=_
  rw [uX h.2.1 (n+1),wk h.2.2 n]
theorem Qj:∀ (k:Nat) (l r:List cY),l.length≤k→skip 1 l=some r→∃ t:Ex,t.wf∧l=t.flat++r
 | k,[],r,_,h=>by cases h
 | 0,x::l,r,hk,_=>by simp at hk
 | k+1,x::l,r,hk,h=>by
  have hk:l.length≤k:=by simpa using hk
  have h:(if kids x.op<0 then none else skip (0+(kids x.op).toNat) l)=some r:=h
  have hb:=IB x.op
  split at h
  ·cases h
  ·rcases (show kids x.op=0∨kids x.op=1∨kids x.op=2 by omega) with h0 | h0 | h0
   ·rw [h0] at h
    have h:skip 0 l=some r:=h
    rw [yE] at h; cases h
    exact ⟨.leaf x,h0,rfl⟩
   ·rw [h0] at h
    obtain ⟨a,ha,rfl⟩:=Qj k l r hk h
    exact ⟨.un x a,⟨h0,ha⟩,rfl⟩
   ·rw [h0] at h
    have h:skip (1+1) l=some r:=h
    rw [DW] at h
    obtain ⟨m,h1,h2⟩:=Option.bind_eq_some_iff.1 h
    obtain ⟨a,ha,rfl⟩:=Qj k l m hk h1
    obtain ⟨b,hb',rfl⟩:=Qj k m r (by simp at hk; omega) h2
    exact ⟨.bin x a b,⟨h0,ha,hb'⟩,by simp [Ex.flat]⟩
def JH (xs:List cY) (i:Int) (t:Ex):Prop:=0≤i∧t.wf∧∃ r,xs.drop i.toNat=t.flat++r
theorem JH.root {xs:List cY} {i:Int} {t:Ex} (h:JH xs i t):xs[i.toNat]? = some t.root∧i<xs.length:=by
 obtain ⟨h0,_,r,h⟩:=h
 have:(xs.drop i.toNat)[0]? = some t.root:=by rw [h,Ex.GL]; rfl
 rw [List.getElem?_drop,Nat.add_zero] at this
 exact ⟨this,by have:=(List.getElem?_eq_some_iff.1 this).1; omega⟩
theorem JH.end {xs:List cY} {i:Int} {t:Ex} (h:JH xs i t):uW xs i=i+t.size∧i+t.size≤xs.length:=by
 have mE:=h.root.2
 obtain ⟨h0,hw,r,h⟩:=h
 have hl:=congrArg List.length h
 rw [List.length_drop,List.length_append,Ex.cJ] at hl
 refine ⟨?_,by omega⟩
 unfold uW
 rw [if_neg (by omega),h,R4 t hw 0 r,yE]
 unfold GJ; simp only []; omega
theorem JH.of {xs:List cY} {i:Int} (h:0≤uW xs i):∃ t,JH xs i t:=by
 unfold uW at h
 split at h
 ·omega
 ·cases hs:skip 1 (xs.drop i.toNat) with
  | none=>rw [hs] at h; unfold GJ at h; simp only [] at h; omega
  | some r=>
   obtain ⟨t,hw,he⟩:=Qj _ _ r (Nat.le_refl _) hs
   exact ⟨t,by omega,hw,r,he⟩
def zQ (ks:List Ex) (k:Nat):Nat:=((ks.take k).map Ex.size).sum
theorem GN {ks:List Ex} {k:Nat} {a:Ex} (h:ks[k]? = some a):zQ ks (k+1)=zQ ks k+a.size:=by
 unfold zQ; rw [← gN h]; simp
theorem JH.kid {xs:List cY} {i:Int} {t a:Ex} {k:Nat} (h:JH xs i t) (ha:t.gA[k]? = some a):JH xs (i+1+zQ t.gA k) a:=by
 obtain ⟨h0,hw,r,h⟩:=h
 refine ⟨by omega,(Ex.IC hw (List.mem_of_getElem? ha)).1,?_⟩
 have hs:t.gA=t.gA.take k++a::t.gA.drop (k+1):=by
  obtain ⟨hk,he⟩:=List.getElem?_eq_some_iff.1 ha
  rw [← he,List.getElem_cons_drop,List.take_append_drop]
 have hl:(((t.gA.take k).map Ex.flat).flatten).length=zQ t.gA k:=by
  unfold zQ
  rw [List.length_flatten,List.map_map]
  congr 2
  exact funext λ x=>Ex.cJ x
 have h2:xs.drop (i.toNat+1)=((t.gA.take k).map Ex.flat).flatten++(a.flat++(((t.gA.drop (k+1)).map Ex.flat).flatten++r)):=by
  rw [← List.drop_drop,h,Ex.GL t]
  show (t.gA.map Ex.flat).flatten++r=_
  conv=>lhs; rw [hs]
  simp
 refine ⟨((t.gA.drop (k+1)).map Ex.flat).flatten++r,?_⟩
 rw [show (i+1+(zQ t.gA k:Int)).toNat=i.toNat+1+zQ t.gA k from by omega,← List.drop_drop,h2,← hl,List.drop_left]
def D0 (ks:List Ex) (k:Nat):Int:=((ks.take k).map Ex.depth).foldl max 0
theorem GO {ks:List Ex} {k:Nat} {a:Ex} (h:ks[k]? = some a):D0 ks (k+1)=max (D0 ks k) a.depth:=by
 unfold D0; rw [← gN h,List.map_append,List.foldl_append]; rfl
theorem UY {ks:List Ex} {N:Int} (h0:0≤N) (h:∀ a∈ks,a.depth≤N):∀ k,0≤D0 ks k∧D0 ks k≤N
 | 0=>by simp [D0,h0]
 | k+1=>by
  have ih:=UY h0 h k
  cases hx:ks[k]? with
  | none=>
   have e:ks.take (k+1)=ks.take k:=by rw [List.take_add_one,hx]; simp
   unfold D0 at *; rw [e]; exact ih
  | some a=>rw [GO hx]; have:=h a (List.mem_of_getElem? hx); omega
theorem Ex.U1 (t:Ex):t.depth=D0 t.gA t.gA.length+1:=by
 cases t with
 | leaf x=>rfl
 | un x a=>have:=a.zP; simp only [Ex.depth,Ex.gA,D0,List.length_singleton,List.take_succ_cons,List.take_zero,List.map_cons,List.map_nil,List.foldl_cons,List.foldl_nil]; omega
 | bin x a b=>have:=a.zP; simp only [Ex.depth,Ex.gA,D0,List.length_cons,List.length_nil,List.take_succ_cons,List.take_zero,List.map_cons,List.map_nil,List.foldl_cons,List.foldl_nil]; omega
def stK (ns:List ByteArray) (ks:List Ex) (k:Nat):List nt:=((ks.take k).map (Ex.steps ns)).flatten
theorem U3 {ns:List ByteArray} {ks:List Ex} {k:Nat} {a:Ex} (h:ks[k]? = some a):stK ns ks (k+1)=stK ns ks k++a.steps ns:=by
 unfold stK; rw [← gN h]; simp
theorem Qk {ns:List ByteArray} {ks:List Ex} {k:Nat}:(stK ns ks k).length=zQ ks k:=by
 unfold stK zQ
 rw [List.length_flatten,List.map_map]
 congr 2
 exact funext λ x=>Ex.xl ns x
open Ex (numOf) in
theorem Ex.D1 (ns:List ByteArray) (t:Ex):t.steps ns=stK ns t.gA t.gA.length++[⟨t.root.op,numOf ns t.root⟩]:=by
 cases t <;> simp [Ex.steps,Ex.gA,stK,Ex.root]
def pt:Nat→List cY→Option (Ex × List cY)
 | 0,_=>none
 | _+1,[]=>none
 | n+1,x::l=>
  if kids x.op=0 then some (.leaf x,l) else if kids x.op=1 then (match pt n l with | some p=>some (.un x p.1,p.2) | none=>none)
  else if kids x.op=2 then (match pt n l with | some p=>(match pt n p.2 with | some q=>some (.bin x p.1 q.1,q.2) | none=>none) | none=>none) else none
theorem abF (t:Ex) (h:t.wf):∀ n r,t.size≤n→pt n (t.flat++r)=some (t,r):=by
 induction t with
 | leaf x=>
  intro n r hn
  cases n with
  | zero=>simp [Ex.size] at hn
  | succ n=>show (if kids x.op=0 then _ else _)=_; rw [if_pos (show kids x.op=0 from h)]; rfl
 | un x a ih=>
  intro n r hn
  cases n with
  | zero=>simp [Ex.size] at hn
  | succ n=>
   have h1:kids x.op=1:=h.1
   show (if kids x.op=0 then _ else if kids x.op=1 then (match pt n (a.flat++r) with | some p=>some (Ex.un x p.1,p.2) | none=>none) else _)=_
   rw [if_neg (by omega),if_pos h1,ih h.2 n r (by simp [Ex.size] at hn; omega)]
 | bin x a b uX wk=>
  intro n r hn
  cases n with
  | zero=>simp [Ex.size] at hn
  | succ n=>
   have h1:kids x.op=2:=h.1
   show (if kids x.op=0 then _ else if kids x.op=1 then _ else if kids x.op=2 then (match pt n (a.flat++b.flat++r) with | some p=>(match pt n p.2 with | some q=>some (Ex.bin x p.1 q.1,q.2) | none=>none) | none=>none) else _)=_
   rw [if_neg (by omega),if_neg (by omega),if_pos h1,List.append_assoc,uX h.2.1 n _ (by simp [Ex.size] at hn; omega)]
   simp only []
   rw [wk h.2.2 n _ (by simp [Ex.size] at hn; omega)]
def yF (l:List cY):Option Ex:=match pt l.length l with | some p=>if p.2=[] then some p.1 else none | none=>none
theorem R5 {t:Ex} (h:t.wf):yF t.flat=some t:=by
 unfold yF
 have:=abF t h t.flat.length [] (by rw [Ex.cJ]; exact Nat.le_refl _)
 rw [List.append_nil] at this
 rw [this]; rfl
theorem JH.zero {l:List cY} {t:Ex} (h:JH l 0 t) (he:uW l 0=l.length):l=t.flat∧yF l=some t:=by
 have h1:=h.end
 obtain ⟨_,hw,r,h⟩:=h
 have hl:=congrArg List.length h
 rw [List.length_append,Ex.cJ] at hl
 simp at hl
 have:r=[]:=List.length_eq_zero_iff.1 (by omega)
 subst this
 have h:l=t.flat:=by simpa using h
 exact ⟨h,by rw [h]; exact R5 hw⟩
theorem zR:∀ n l t r,pt n l=some (t,r)→t.wf∧l=t.flat++r
 | 0,l,t,r,h=>by cases h
 | n+1,[],t,r,h=>by cases h
 | n+1,x::l,t,r,h=>by
  have h:(if kids x.op=0 then some (Ex.leaf x,l) else if kids x.op=1 then (match pt n l with | some p=>some (Ex.un x p.1,p.2) | none=>none)
   else if kids x.op=2 then (match pt n l with | some p=>(match pt n p.2 with | some q=>some (Ex.bin x p.1 q.1,q.2) | none=>none) | none=>none) else none)=some (t,r):=h
  split at h
  ·rename_i hk; cases h; exact ⟨hk,rfl⟩
  ·split at h
   ·rename_i hk
    cases ha:pt n l with
    | none=>rw [ha] at h; cases h
    | some p=>
     rw [ha] at h
     obtain ⟨a,m⟩:=p
     cases h
     obtain ⟨h1,rfl⟩:=zR n l a _ ha
     exact ⟨⟨hk,h1⟩,rfl⟩
   ·split at h
    ·rename_i hk
     cases ha:pt n l with
     | none=>rw [ha] at h; cases h
     | some p=>
      rw [ha] at h
      obtain ⟨a,m⟩:=p
      simp only [] at h
      cases hb:pt n m with
      | none=>rw [hb] at h; cases h
      | some q=>
       rw [hb] at h
       obtain ⟨b,m'⟩:=q
       cases h
       obtain ⟨h1,rfl⟩:=zR n l a _ ha
       obtain ⟨h2,rfl⟩:=zR n m b _ hb
       exact ⟨⟨hk,h1,h2⟩,by simp [Ex.flat]⟩
    ·cases h
theorem yG {l:List cY} {t:Ex} (h:yF l=some t):t.wf∧l=t.flat:=by
 unfold yF at h
 cases hp:pt l.length l with
 | none=>rw [hp] at h; cases h
 | some p=>
  rw [hp] at h
  obtain ⟨a,r⟩:=p
  simp only [] at h
  split at h
  ·rename_i hr; cases h
   obtain ⟨h1,h2⟩:=zR _ _ _ _ hp
   subst hr
   exact ⟨h1,by simpa using h2⟩
  ·cases h
theorem KY {l:List cY}:(yF l).isSome=decide (uW l 0=l.length):=by
 by_cases h:uW l 0=l.length
 ·obtain ⟨t,ht⟩:=JH.of (xs:=l) (i:=0) (by omega)
  rw [(ht.zero h).2,decide_eq_true h]; rfl
 ·rw [decide_eq_false h]
  cases he:yF l with
  | none=>rfl
  | some t=>
   obtain ⟨h1,rfl⟩:=yG he
   exact absurd (by have:=(show JH t.flat 0 t from ⟨by omega,h1,[],by simp⟩).end.1; rw [this,Ex.cJ]; omega) h
def oV (x:cY):Bool:=decide (x.at_<0∨4000<x.at_) || decide (¬ x.op=1∧¬ x.n=0) || decide (¬ x.op=2∧¬ x.name=⟨#[]⟩) || decide (x.n<0∨4294967296<x.n) || (decide (x.op=2) && !j6 x.name)
def ae3 (l:List cY):Int:=match yF l with | some t=>t.depth | none=>0
def jG (l:List cY):Bool:=decide (l.length≤40) && (yF l).isSome && !l.any oV && decide (ae3 l≤12)
def Nz (ns:List ByteArray) (l:List cY):List nt:=match yF l with | some t=>t.steps ns | none=>[]
def yi (ns:List ByteArray) (l:List cY):Int:=if jG l=false then 8 else if l.any (λ x=>decide (x.op=2) && decide (dR ns x.name<0)) then 9 else 0
def gk (ns:List ByteArray) (l:List cY):List nt:=if yi ns l=0 then Nz ns l else []
theorem NA {l:List cY} (h:jG l=true):uW l 0=l.length:=by
 unfold jG at h
 rw [KY] at h
 grind
theorem C162 (lv:Value) (xs:List cY) (i:Int) (t:Ex) (N:Nat) (w:World) (hL:eL (λ _=>True) w lv xs) (hn:xs.length≤1048576) (hT:JH xs i t) (hN:t.size<N):CR 162 [lv,.int .i64 i] w (λ v w'=>v = .int .i64 t.depth∧Ext w w'):=by
 obtain ⟨GK,hq,FR⟩:∃ e,e=t.root∧xs[(i).toNat]? = some e:=⟨_,rfl,hT.root.1⟩;have hri:=hT.root.2;have hie:=hT.end;have UX:=Ex.KX hT.2.1;rw [← hq] at UX;have hkb:=IB GK.op;have hi0:=hT.1;have hs:=St.start w;refine ZC _ _ _ _ ?_;unfold S162;refine aN (by omega) ?_;refine ⟨λ m n a x w1=>∃ k:Nat,n = .int .i64 (D0 t.gA k)∧a = .int .i64 (i+1+zQ t.gA k)∧x = .int .i64 (k:Int)∧m=t.gA.length - k∧k≤t.gA.length∧St w bD [] w1,⟨_,0,rfl,congrArg (Value.int .i64) (by simp [zQ]),rfl,rfl,by omega,hs⟩,?_⟩;rintro m _ _ _ w1 ⟨k,rfl,rfl,rfl,rfl,hk,hs⟩ fu;have hdk:=UY (ks:=t.gA) (N:=(t.size:Int)) (by omega) (λ a ha=>by have:=(Ex.IC hT.2.1 ha).2; have:=a.zP; omega) k
 refine aQ lZ (hL.ext hs.aE) (by omega) FR (λ _ KU=>bT (GK).op jo KU rfl rfl (λ _ iT=>aD bN (iT) (aZ PA hs (C163 _ _) (λ w2 he hs=>aR (aC (λ mf=>?_) (λ mf=>?_))))))
 ·obtain ⟨a,ID⟩:∃ a,t.gA[k]? = some a:=⟨_,List.getElem?_eq_getElem (by omega)⟩;have hka:=Ex.IC hT.2.1 (List.mem_of_getElem? ID);have hAk:=hT.kid ID;have hen:=hAk.end;have hdb:=a.zP;refine aZ T3 hs (C162 _ _ _ _ (N - 1) _ (hL.ext hs.aE) hn hAk (by omega)) (λ w3 he hs=>uS (aZ Pz hs (C160 _ _ _ ((xs).length+1) _ (hL.ext hs.aE) (by omega) (by omega) (by omega)) (λ w4 he hs=>aN (by omega) ?_)));exact ⟨_,by omega,k+1,by rw [GO ID],congrArg (Value.int .i64) (by rw [hen.1,GN ID]; omega),rfl,rfl,by omega,hs⟩
 ·refine aN (by omega) ?_;exact ⟨congrArg (Value.int .i64) (by rw [t.U1,show k=t.gA.length from by omega]),hs.aE⟩
termination_by N
decreasing_by omega
theorem C105 (lv:Value) (xs:List cY) (w:World) (hL:eL (λ _=>True) w lv xs) (hn:xs.length≤1048576) (hnm:∀ x∈xs,x.name.size≤1048576):CR 105 [lv] w (λ v w'=>v = .bool (jG xs)∧Ext w w'):=by
 have hs:=St.start w;refine YT _ _ _ ?_;unfold S105;refine ⟨λ jv w'=>jv = .bool (decide (40<xs.length) || decide (¬ uW xs 0=xs.length))∧St w bD [] w',?_,?_⟩
 ·refine aJ lZ (hL.ext hs.aE) (cZ (aC (λ iN=>?_) (λ iN=>?_)))
  ·exact ⟨vb (by grind),hs⟩
  ·refine aZ Pz hs (C160 _ _ _ ((xs).length+1) _ (hL.ext hs.aE) (by omega) (by omega) (by omega)) (λ w1 he hs=>aJ lZ (hL.ext hs.aE) (cT ?_));exact ⟨vb (by grind),hs⟩
 ·rintro _ w2 ⟨rfl,hs⟩ fu;refine aY (λ gV=>?_) (λ gV=>?_)
  ·refine ⟨vb ?_,hs.aE⟩;unfold jG;rw [KY]
   grind
  ·refine ⟨λ m x w1=>∃ k:Nat,x = .int .i64 (k:Int)∧m=xs.length - k∧k≤xs.length∧(∀ y∈xs.take k,oV y=false)∧St w bD [] w1,⟨_,0,rfl,rfl,Nat.zero_le _,by simp,hs⟩,?_⟩;rintro m _ w3 ⟨k,rfl,rfl,hk,fQ,hs⟩ jz;refine aJ lZ (hL.ext hs.aE) (aR (aC (λ gj=>?_) (λ gj=>?_)))
   ·obtain ⟨rp,ky⟩:=gx (xs) (i:=((k:Int)).toNat) (by omega);refine aQ lZ (hL.ext hs.aE) (by omega) ky (λ _ pO=>aD Kq (pO) (aO hs PX (λ Cq w4 hs=>aI (x:=rp) hs Kq rfl rfl (λ w5 hs=>?_))));refine ⟨λ jv w'=>jv = .bool (oV rp)∧St w bD [] w',?_,?_⟩
    ·refine aA Dx (aB bN hs.hb rfl (aR (aC (λ gn=>?_) (λ gn=>?_))))
     ·exact ⟨vb (by unfold oV; grind),hs.drop⟩
     ·refine aA Dx (aB bN hs.hb rfl (cZ (aC (λ lV=>?_) (λ lV=>?_))))
      ·exact ⟨vb (by unfold oV; grind),hs.drop⟩
      ·refine aA jo (aB bN hs.hb rfl (cT (aC (λ lz=>?_) (λ lz=>?_))))
       ·refine aA m6 (aB bN hs.hb rfl (cT (aC (λ qz=>?_) (λ qz=>?_))))
        ·exact ⟨vb (by unfold oV; grind),hs.drop⟩
        ·refine aA jo (aB bN hs.hb rfl (cT (aC (λ wh=>?_) (λ wh=>?_))))
         ·refine aA lq (aB kf hs.hb rfl (oT (aC (λ pP=>?_) (λ pP=>?_))))
          ·exact ⟨vb (by unfold oV; grind),hs.drop⟩
          ·refine aA m6 (aB bN hs.hb rfl (aR (aC (λ U4=>?_) (λ U4=>?_))))
           ·exact ⟨vb (by unfold oV; grind),hs.drop⟩
           ·refine aA m6 (aB bN hs.hb rfl (cZ (aC (λ kz=>?_) (λ kz=>?_))))
            ·exact ⟨vb (by unfold oV; grind),hs.drop⟩
            ·refine aA jo (aB bN hs.hb rfl (aH (aC (λ KZ=>?_) (λ KZ=>?_))))
             ·refine aA lq (aB kf hs.hb rfl (aZ tL hs (C161 _ _ (hnm _ (List.mem_of_getElem? ky))) (λ w6 he hs=>bZ ?_)));exact ⟨vb (by unfold oV; grind),hs.drop⟩
             ·exact ⟨vb (by unfold oV; grind),hs.drop⟩
         ·refine aA m6 (aB bN hs.hb rfl (aR (aC (λ IE=>?_) (λ IE=>?_))))
          ·exact ⟨vb (by unfold oV; grind),hs.drop⟩
          ·refine aA m6 (aB bN hs.hb rfl (cZ (aC (λ abH=>?_) (λ abH=>?_))))
           ·exact ⟨vb (by unfold oV; grind),hs.drop⟩
           ·refine aA jo (aB bN hs.hb rfl (aH (aC (λ abI=>?_) (λ abI=>?_))))
            ·refine aA lq (aB kf hs.hb rfl (aZ tL hs (C161 _ _ (hnm _ (List.mem_of_getElem? ky))) (λ w7 he hs=>bZ ?_)));exact ⟨vb (by unfold oV; grind),hs.drop⟩
            ·exact ⟨vb (by unfold oV; grind),hs.drop⟩
       ·refine aA jo (aB bN hs.hb rfl (cT (aC (λ abJ=>?_) (λ abJ=>?_))))
        ·refine aA lq (aB kf hs.hb rfl (oT (aC (λ abK=>?_) (λ abK=>?_))))
         ·exact ⟨vb (by unfold oV; grind),hs.drop⟩
         ·refine aA m6 (aB bN hs.hb rfl (aR (aC (λ abL=>?_) (λ abL=>?_))))
          ·exact ⟨vb (by unfold oV; grind),hs.drop⟩
          ·refine aA m6 (aB bN hs.hb rfl (cZ (aC (λ abM=>?_) (λ abM=>?_))))
           ·exact ⟨vb (by unfold oV; grind),hs.drop⟩
           ·refine aA jo (aB bN hs.hb rfl (aH (aC (λ abN=>?_) (λ abN=>?_))))
            ·refine aA lq (aB kf hs.hb rfl (aZ tL hs (C161 _ _ (hnm _ (List.mem_of_getElem? ky))) (λ w8 he hs=>bZ ?_)));exact ⟨vb (by unfold oV; grind),hs.drop⟩
            ·exact ⟨vb (by unfold oV; grind),hs.drop⟩
        ·refine aA m6 (aB bN hs.hb rfl (aR (aC (λ abO=>?_) (λ abO=>?_))))
         ·exact ⟨vb (by unfold oV; grind),hs.drop⟩
         ·refine aA m6 (aB bN hs.hb rfl (cZ (aC (λ abP=>?_) (λ abP=>?_))))
          ·exact ⟨vb (by unfold oV; grind),hs.drop⟩
          ·refine aA jo (aB bN hs.hb rfl (aH (aC (λ abQ=>?_) (λ abQ=>?_))))
           ·refine aA lq (aB kf hs.hb rfl (aZ tL hs (C161 _ _ (hnm _ (List.mem_of_getElem? ky))) (λ w9 he hs=>bZ ?_)));exact ⟨vb (by unfold oV; grind),hs.drop⟩
           ·exact ⟨vb (by unfold oV; grind),hs.drop⟩
    ·rintro _ qd ⟨rfl,hs⟩ oG;refine aY (λ La=>?_) (λ La=>?_)
     ·refine ⟨vb ?_,hs.aE⟩;unfold jG;rw [jF ky La]; simp
     ·refine aN (by omega) ?_;exact ⟨_,by omega,k+1,rfl,rfl,by omega,ew fQ ky La,hs⟩
   ·have JI:uW xs 0=xs.length:=by grind
    have h40:xs.length≤40:=by grind
    obtain ⟨t,ht⟩:=JH.of (xs:=xs) (i:=0) (by omega);have hz:=ht.zero JI;refine aZ T3 hs (C162 _ _ _ t (t.size+1) _ (hL.ext hs.aE) hn ht (by omega)) (λ tG he hs=>jL ?_);rw [List.take_of_length_le (by omega)] at fQ;refine ⟨vb ?_,hs.aE⟩;unfold jG ae3;rw [iO fQ,hz.2];simp [h40]
theorem C106 (lv nv:Value) (xs:List cY) (ns:List ByteArray) (i:Int) (t:Ex) (N:Nat) (w:World) (hL:eL (λ _=>True) w lv xs) (hN:eL (λ _=>True) w nv ns) (hn:xs.length≤1048576) (hns:ns.length≤1048576) (hT:JH xs i t) (hNt:t.size<N):CR 106 [lv,.int .i64 i,nv] w (λ v w'=>mc (bL v (t.steps ns)) w w'):=by
 obtain ⟨GK,hq,FR⟩:∃ e,e=t.root∧xs[(i).toNat]? = some e:=⟨_,rfl,hT.root.1⟩;have hri:=hT.root.2;have hie:=hT.end;have UX:=Ex.KX hT.2.1;rw [← hq] at UX;have hkb:=IB GK.op;have hi0:=hT.1;have hs:=St.start w;refine YU _ _ _ _ _ ?_;unfold S106;refine bX (([]:List nt)) hs vF rfl rfl (eE rfl) (λ aeZ w1 hs=>aN (by omega) ?_);refine ⟨λ m RM a x w1=>∃ k:Nat,a = .int .i64 (i+1+zQ t.gA k)∧x = .int .i64 (k:Int)∧m=t.gA.length - k∧k≤t.gA.length∧St w bD [bL RM (stK ns t.gA k)] w1,⟨_,0,congrArg (Value.int .i64) (by simp [zQ]),rfl,rfl,by omega,hs⟩,?_⟩;rintro m RM _ _ w2 ⟨k,rfl,rfl,rfl,hk,hs⟩ fu
 refine aQ lZ (hL.ext hs.aE) (by omega) FR (λ _ KV=>bT (GK).op jo KV rfl rfl (λ _ wj=>aD bN (wj) (aZ PA hs (C163 _ _) (λ w3 he hs=>aR (aC (λ gz=>?_) (λ gz=>?_))))))
 ·obtain ⟨a,ID⟩:∃ a,t.gA[k]? = some a:=⟨_,List.getElem?_eq_getElem (by omega)⟩;have hka:=Ex.IC hT.2.1 (List.mem_of_getElem? ID);have hAk:=hT.kid ID;have hen:=hAk.end;have hdb:=a.zP;have U5:=Qk (ns:=ns) (ks:=t.gA) (k:=k);have hal:=Ex.xl ns a;refine dG aec hs (C106 _ _ _ _ _ _ (N - 1) _ (hL.ext hs.aE) (hN.ext hs.aE) hn hns hAk (by omega)) (λ x28 w4 cA hs=>?_);have ahZ:=(hs).fM;refine cP hs.p1 vF ahZ (by omega) (by decide) (λ ae4 w5 hs=>have hs:=hs.p1.drop;aZ Pz hs (C160 _ _ _ ((xs).length+1) _ (hL.ext hs.aE) (by omega) (by omega) (by omega)) (λ w6 he hs=>aN (by omega) ?_));exact ⟨_,by omega,k+1,congrArg (Value.int .i64) (by rw [hen.1,GN ID]; omega),rfl,rfl,by omega,by rw [U3 ID]; exact hs⟩
 ·have U5:=Qk (ns:=ns) (ks:=t.gA) (k:=k);refine aQ lZ (hL.ext hs.aE) (by omega) FR (λ _ zS=>bT (GK).n m6 zS rfl rfl (λ _ rq=>aD bN (rq) ?_));refine ⟨λ jv w'=>jv = .int .i64 (Ex.numOf ns GK)∧St w bD [bL RM (stK ns t.gA k)] w',?_,?_⟩
  ·refine aQ lZ (hL.ext hs.aE) (by omega) FR (λ _ U6=>bT (GK).op jo U6 rfl rfl (λ _ D2=>aD bN (D2) (aH (aC (λ ue=>?_) (λ ue=>?_)))))
   ·refine aQ lZ (hL.ext hs.aE) (by omega) FR (λ _ D3=>bT (GK).name lq D3 rfl rfl (λ _ Lb=>aD kf (Lb) (aZ A7 hs (C98 _ ns _ _ (hN.ext hs.aE) (by omega)) (λ w7 he hs=>?_))));exact ⟨congrArg (Value.int .i64) (by grind [Ex.numOf]),hs⟩
   ·exact ⟨congrArg (Value.int .i64) (by grind [Ex.numOf]),hs⟩
  ·rintro _ w8 ⟨rfl,hs⟩ jz;refine aQ lZ (hL.ext hs.aE) (by omega) FR (λ _ U7=>bT (GK).op jo U7 rfl rfl (λ _ DV=>aD bN (DV) (pop (Nm _ _) (bX ([(⟨(GK).op,(Ex.numOf ns GK)⟩:nt)]) hs vF rfl rfl (eE rfl) (λ s_x59 w9 hs=>?_)))));have ah0:=(hs).fM;refine cP hs.p1 vF ah0 (by rw [U5,List.length_singleton]; have:(t.steps ns).length=t.size:=Ex.xl ns t; rw [Ex.D1,List.length_append,List.length_singleton,← show k=t.gA.length from by omega] at this; omega) (by decide) (λ aow qd hs=>?_);have hs:=hs.p1.drop;rw [Ex.D1,← show k=t.gA.length from by omega,← hq]
   exact hs.fresh
termination_by N
decreasing_by omega
theorem C45 (lv nv:Value) (xs:List cY) (ns:List ByteArray) (w:World) (hL:eL (λ _=>True) w lv xs) (hN:eL (λ _=>True) w nv ns) (hn:xs.length≤1048576) (hns:ns.length≤1048576) (hnm:∀ x∈xs,x.name.size≤1048576):CR 45 [lv,nv] w (λ v w'=>∃ s,v = .tuple #[s,.int .i64 (yi ns xs)]∧mc (bL s (gk ns xs)) w w'):=by
 have hs:=St.start w;refine agV _ _ _ _ ?_;unfold S45;refine aZ J8 hs (C105 _ _ _ (hL.ext hs.aE) hn hnm) (λ w1 he hs=>bZ (aY (λ gr=>?_) (λ gr=>?_)))
 ·have h8:yi ns xs=8:=by unfold yi; rw [if_pos (by simpa using gr)]
  refine ⟨_,by rw [h8],?_⟩;unfold gk;rw [h8,if_neg (by decide)];exact (hs.fY (α:=nt)).fresh
 ·refine ⟨λ m x w1=>∃ k:Nat,x = .int .i64 (k:Int)∧m=xs.length - k∧k≤xs.length∧(∀ y∈xs.take k,(decide (y.op=2) && decide (dR ns y.name<0))=false)∧St w bD [] w1,⟨_,0,rfl,rfl,Nat.zero_le _,by simp,hs⟩,?_⟩;rintro m _ w2 ⟨k,rfl,rfl,hk,fQ,hs⟩ fu;refine aJ lZ (hL.ext hs.aE) (aR (aC (λ j7=>?_) (λ j7=>?_)))
  ·obtain ⟨rn,jt⟩:∃ xx,(xs)[((k:Int)).toNat]? = some xx:=⟨_,List.getElem?_eq_getElem (by omega)⟩;refine ⟨λ jv w'=>jv = .bool (decide (rn.op=2) && decide (dR ns rn.name<0))∧St w bD [] w',?_,?_⟩
   ·refine aQ lZ (hL.ext hs.aE) (by omega) jt (λ _ wj=>bT (rn).op jo wj rfl rfl (λ _ jR=>aD bN (jR) (aH (aC (λ gz=>?_) (λ gz=>?_)))))
    ·refine aQ lZ (hL.ext hs.aE) (by omega) jt (λ _ ry=>bT (rn).name lq ry rfl rfl (λ _ wm=>aD kf (wm) (aZ A7 hs (C98 _ ns _ _ (hN.ext hs.aE) (by omega)) (λ w3 he hs=>aR ?_))));exact ⟨vb (by grind),hs⟩
    ·exact ⟨vb (by grind),hs⟩
   ·rintro _ w4 ⟨rfl,hs⟩ jz;refine aY (λ lV=>?_) (λ lV=>?_)
    ·have h9:yi ns xs=9:=by unfold yi; rw [if_neg (by simpa using gr),if_pos (jF jt lV)]
     refine ⟨_,by rw [h9],?_⟩;unfold gk;rw [h9,if_neg (by decide)];exact (hs.fY (α:=nt)).fresh
    ·refine aN (by omega) ?_;exact ⟨_,by omega,k+1,rfl,rfl,by omega,ew fQ jt lV,hs⟩
  ·have hre:jG xs=true:=by simpa using gr
   have JI:=NA hre;obtain ⟨t,ht⟩:=JH.of (xs:=xs) (i:=0) (by omega);have hz:=ht.zero JI;refine dG aec hs (C106 _ _ _ _ _ t (t.size+1) _ (hL.ext hs.aE) (hN.ext hs.aE) hn hns ht (by omega)) (λ x34 w5 cA hs=>?_);rw [List.take_of_length_le (by omega)] at fQ;have h0:yi ns xs=0:=by unfold yi; rw [if_neg (by simpa using gr),if_neg (by rw [iO fQ]; simp)]
   refine ⟨x34,by rw [h0],?_⟩;unfold gk Nz;rw [if_pos h0,hz.2];exact hs.fresh
end Go.Proofs.YtnjcingfdhjfkaaGreat
