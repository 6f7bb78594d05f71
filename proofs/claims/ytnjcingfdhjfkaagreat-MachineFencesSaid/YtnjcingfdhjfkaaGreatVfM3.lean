/-
 Part 3.
-/
import Derived.Test.YtnjcingfdhjfkaaGreatVfM2
set_option linter.all false
namespace Go.Fw
def sep (H1 H2:HP):HP where
 p w F:=∃ F1 F2,H1.p w F1∧H2.p w F2∧(∀ b,F1 b→¬ F2 b)∧∀ b,F b↔F1 b∨F2 b
 loc w w' F h hh:=by
  obtain ⟨F1,F2,h1,h2,h3,h4⟩:=h
  exact ⟨F1,F2,H1.loc _ _ _ h1 λ b hb=>hh b ((h4 b).2 (.inl hb)),H2.loc _ _ _ h2 λ b hb=>hh b ((h4 b).2 (.inr hb)),h3,h4⟩
 lt w F b h hb:=by
  obtain ⟨F1,F2,h1,h2,h3,h4⟩:=h
  rcases (h4 b).1 hb with hf | hf
  ·exact H1.lt _ _ _ h1 hf
  ·exact H2.lt _ _ _ h2 hf
def ua {α:Type} (H:α→HP):HP where
 p w F:=∃ x,(H x).p w F
 loc w w' F h hh:=by obtain ⟨x,h⟩:=h; exact ⟨x,(H x).loc _ _ _ h hh⟩
 lt w F b h hb:=by obtain ⟨x,h⟩:=h; exact (H x).lt _ _ _ h hb
def fact (φ:Prop) (H:HP):HP where
 p w F:=φ∧H.p w F
 loc w w' F h hh:=⟨h.1,H.loc _ _ _ h.2 hh⟩
 lt w F b h hb:=H.lt _ _ _ h.2 hb
def emp:HP where
 p _ F:=∀ b,¬ F b
 loc _ _ _ h _:=h
 lt _ _ b h hb:=(h b hb).elim
section
variable {P:Program} {w w0 w':World} {A:Nat→Prop} {L:List HP} {H H1 H2:HP}
theorem St.split (h:St w0 A (sep H1 H2::L) w):St w0 A (H1::H2::L) w:=by
 obtain ⟨U,F,U',⟨F1,F2,g1,g2,g3,g4⟩,h2,h3,h4,h5⟩:=h.sU
 refine ⟨h.aF,U,F1,λ b=>F2 b∨U' b,g1,λ b hb=>h2 b ((g4 b).2 (.inl hb)),λ b hb hu=>?_,λ b=>?_,F2,U',g2,λ b hb=>h2 b ((g4 b).2 (.inr hb)),λ b hb hu=>h3 b ((g4 b).2 (.inr hb)) hu,λ b=>Iff.rfl,h5⟩
 ·rcases hu with hu | hu
  ·exact g3 b hb hu
  ·exact h3 b ((g4 b).2 (.inl hb)) hu
 ·rw [h4 b,g4 b,or_assoc]
theorem St.join (h:St w0 A (H1::H2::L) w):St w0 A (sep H1 H2::L) w:=by
 obtain ⟨U,F,U',h1,h2,h3,h4,F2,U2,g1,g2,g3,g4,g5⟩:=h.sU
 refine ⟨h.aF,U,λ b=>F b∨F2 b,U2,⟨F,F2,h1,g1,λ b hb hf=>h3 b hb ((g4 b).2 (.inl hf)),λ b=>Iff.rfl⟩,λ b hb=>hb.elim (h2 b) (g2 b),λ b hb hu=>?_,λ b=>?_,g5⟩
 ·rcases hb with hb | hb
  ·exact h3 b hb ((g4 b).2 (.inr hu))
  ·exact g3 b hb hu
 ·rw [h4 b,g4 b,or_assoc]
theorem St.eZ {α:Type} {H:α→HP} (h:St w0 A (ua H::L) w):∃ x,St w0 A (H x::L) w:=by
 obtain ⟨U,F,U',⟨x,h1⟩,h2⟩:=h.sU; exact ⟨x,h.aF,U,F,U',h1,h2⟩
theorem St.eU {α:Type} {H:α→HP} (x:α) (h:St w0 A (H x::L) w):St w0 A (ua H::L) w:=by
 obtain ⟨U,F,U',h1,h2⟩:=h.sU; exact ⟨h.aF,U,F,U',⟨x,h1⟩,h2⟩
theorem St.oL {φ:Prop} (h:St w0 A (fact φ H::L) w):φ∧St w0 A (H::L) w:=by
 obtain ⟨U,F,U',⟨x,h1⟩,h2⟩:=h.sU; exact ⟨x,h.aF,U,F,U',h1,h2⟩
theorem St.qx {φ:Prop} (x:φ) (h:St w0 A (H::L) w):St w0 A (fact φ H::L) w:=by
 obtain ⟨U,F,U',h1,h2⟩:=h.sU; exact ⟨h.aF,U,F,U',⟨x,h1⟩,h2⟩
def qy (F:Nat→Prop) (H':HP) (w w':World):Prop:=∃ F',H'.p w' F'∧(∀ b,F' b→F b∨w.heap.size≤b)∧iF F w w'
def lY (H:HP) (w w':World):Prop:=∃ F,H.p w' F∧(∀ b,F b→w.heap.size≤b)∧Ext w w'
theorem St.mut {F:Nat→Prop} (hs:St w F (H::L) w'):qy F H w w':=by
 obtain ⟨F',h1,h2⟩:=hs.head; exact ⟨F',h1,h2,hs.aF⟩
theorem St.fresh (hs:St w bD (H::L) w'):lY H w w':=by
 obtain ⟨F',h1,h2⟩:=hs.head; exact ⟨F',h1,λ b hb=>(h2 b hb).elim (λ h=>h.elim) id,hs.aF⟩
theorem St.made (hs:St w0 A L w) (h:lY H w w'):St w0 A (H::L) w':=by
 obtain ⟨F,h1,h2,h3⟩:=h; exact hs.new h3 h1 h2
theorem aZ {f:FuncId} {args:List Value} {X:Value} {K:Value→World→Prop} (pl:Plain P f) (hs:St w0 A L w) (hc:Calls P f args.toArray w (qf λ v w'=>v=X∧Ext w w')) (k:∀ w',Ext w w'→St w0 A L w'→K X w'):Dz P f args w K:=
 eA pl hc λ v w' h=>by obtain ⟨rfl,h2⟩:=h; exact k w' h2 (hs.ext h2)
theorem dF {f:FuncId} {args:List Value} {H:Value→HP} {K:Value→World→Prop} (pl:Plain P f) (hs:St w0 A L w) (hc:Calls P f args.toArray w (qf λ v w'=>lY (H v) w w')) (k:∀ v w',lY (H v) w w'→St w0 A (H v::L) w'→K v w'):Dz P f args w K:=
 eA pl hc λ v w' h=>k v w' h (hs.made h)
theorem St.Ve {F:Nat→Prop} {U':Nat→Prop} {H':HP} (hs:St w0 A (H::L) w) (h2:∀ b,F b→A b∨w0.heap.size≤b) (h3:∀ b,F b→¬ U' b) (h5:rU w0 A L w U') (h:qy F H' w w'):St w0 A (H'::L) w':=by
 obtain ⟨F',g1,g2,g3⟩:=h
 refine ⟨hs.aF.trans g3 (λ _ h=>h) λ b hb hf=>(h2 b hf).elim id λ hh=>by omega,λ b=>F' b∨U' b,F',U',g1,λ b hb=>?_,λ b hb hu=>?_,λ b=>Iff.rfl,?_⟩
 ·rcases g2 b hb with hf | hf
  ·exact h2 b hf
  ·exact .inr (Nat.le_trans hs.aF.size hf)
 ·rcases g2 b hb with hf | hf
  ·exact h3 b hf hu
  ·have:=h5.lt b hu; omega
 ·exact h5.loc λ b hb=>g3.cH b (h5.lt b hb) λ hf=>h3 b hf hb
theorem pA {f:FuncId} {args:List Value} {H':Value→HP} {Φ:Value→World→Prop} {K:Value→World→Prop} (pl:Plain P f) (hs:St w0 A (H::L) w)
  (hc:∀ F,H.p w F→Calls P f args.toArray w (qf λ v w'=>Φ v w'∧qy F (H' v) w w')) (k:∀ v w',Φ v w'→St w0 A (H' v::L) w'→K v w'):Dz P f args w K:=by
 obtain ⟨U,F,U',h1,h2,h3,h4,h5⟩:=hs.sU
 exact eA pl (hc F h1) λ v w' ⟨hΦ,hM⟩=>k v w' hΦ (hs.Ve h2 h3 h5 hM)
end
section
variable {α:Type} [Flat α] {P:Program} {w w0:World} {A S:Nat→Prop} {L:List HP} {xs ys:List α}
theorem eP.one {v:Value} (h:eP S w v xs):rW v=true:=by obtain ⟨a,c,rfl,_⟩:=h; rfl
theorem F7 {T E oG R b n cap:Nat} {z:Option Nat} {src:Value} {cs:List Value} (ht:fi P T=some (E,Flat.sz α,oG,z)) (hb:tL w b cs) (xS:eP S w src ys)
  (Kx:n+ys.length≤cap) (Ns:n * Flat.sz α+ys.length * Flat.sz α≤cs.length) :
  ∃ w',(Builtin.append_ #[T,T] R [.slice (some ⟨b,0,none⟩) n cap,src].toArray).run P w = .ok (.slice (some ⟨b,0,none⟩) (n+ys.length) cap) w'∧tL w' b (ib cs (n * Flat.sz α) (flat ys))∧iF (· = b) w w':=by
 obtain ⟨hu,inf,hi,lF,Br,_⟩:=gy ht
 have rd:=xS
 obtain ⟨sa,UO,rfl,hsc,hs3⟩:=rd
 obtain ⟨w',h1,h2,h3⟩:=mC (P:=P) (o:=n * Flat.sz α) (flat ys) 0 cs w hb (by rw [cW]; omega) zK
 refine ⟨w',?_,by simpa using h2,h3⟩
 have hf:=xj (α:=α) (P:=P) (sz:=Flat.sz α) rfl xS
 have sV:(⟨b,0,none⟩:Addr).add (n * Flat.sz α)=⟨b,n * Flat.sz α,none⟩:=by rw [gU,Nat.zero_add]
 simp [Builtin.append_,run_underlying hu,sizeOf,typeInfo,hi,Builtin.lenOf,Kx,hf,lF,sV,h1]
theorem Sl {T E oG R b o n c:Nat} {z:α} {cs:List Value} (ht:SlT P T E (Flat.sz α) oG) (hz:qt P E (Flat.val z)) (hb:tL w b cs) (Ns:o+n * Flat.sz α≤cs.length) :
  ∃ w',(Builtin.clear_ #[T] R [.slice (some ⟨b,o,none⟩) n c].toArray).run P w = .ok (.tuple #[]) w'∧tL w' b (ib cs o (flat (List.replicate n z)))∧iF (· = b) w w':=by
 obtain ⟨hu,inf,hi,lF,Br,_⟩:=gy ht
 unfold qt et at hz
 rw [hi] at hz
 simp only [Option.map_some,Option.some.injEq] at hz
 by_cases h0:n=0
 ·subst h0
  refine ⟨w,?_,by simpa [kq,ib] using hb,iF.refl _ _⟩
  simp [Builtin.clear_,run_underlying hu]
 ·have hzc:(Builtin.zeroCells (Flat.val z).cells n).toList=flat (List.replicate n z):=by
   rw [oS,← vY]
   unfold Builtin.zeroCells madeCells
   simp [Flat.len]
  obtain ⟨w',h1,h2,h3⟩:=mC (P:=P) (o:=o) (flat (List.replicate n z)) 0 cs w hb (by rw [cW,List.length_replicate]; omega) zK
  refine ⟨w',?_,by simpa using h2,h3⟩
  simp [Builtin.clear_,run_underlying hu,zeroValue,typeInfo,hi,hz,h0,hzc,h1]
theorem Vf {T E sz oG n cap:Nat} {z:Option Nat} {a:Option Addr} {i j k:Int} {K:Value→Prop} (ht:fi P T=some (E,sz,oG,z)) (h0:0≤i) (h1:i≤j) (h2:j≤k) (h3:k≤cap)
  (kk:∀ v,K v):cZ P (Instr.sliceAt T (.slice a n cap) (some (.int .i64 i)) (some (.int .i64 j)) (some (.int .i64 k))) K:=by
 obtain ⟨hu,inf,Nj,lF,_⟩:=gy ht
 have hb:pr P (Instr.sliceBounds true n cap (some (.int .i64 i)) (some (.int .i64 j)) (some (.int .i64 k)))=some (i.toNat,j.toNat,k.toNat):=by
  simp only [Instr.sliceBounds,cP,fk,Option.bind_some]
  rw [mW (by omega) (by omega)]
  simp only [Option.bind_some]
  rw [mW (by omega) (by omega)]
  simp only [Option.bind_some]
  rw [mW (by omega) (by omega)]
  rfl
 refine ⟨.slice (if k.toNat=i.toNat then a else a.map (·.add (i.toNat * sz))) (j.toNat - i.toNat) (k.toNat - i.toNat),?_,kk _⟩
 ·unfold Instr.sliceAt
  rw [cP,cO hu]
  simp only [Option.bind_some]
  unfold Instr.slice
  rw [cP,cO hu]
  simp only [Option.bind_some]
  rw [cP,hb]
  simp only [Option.bind_some]
  rw [cP,oR Nj,lF]
  rfl
end
def xX (b:Nat) (o:Obj):HP where
 p w F:=w.heap[b]? = some o∧∀ k,F k↔k=b
 loc w w' F h hh:=⟨(hh b ((h.2 b).2 rfl)).trans h.1,h.2⟩
 lt w F b' h hb:=by rw [(h.2 b').1 hb]; exact jX h.1
section
variable {P:Program} {w w0 w':World} {A:Nat→Prop} {L:List HP}
theorem St.obj {b:Nat} {o:Obj} (hs:St w0 A (xX b o::L) w):w.heap[b]? = some o:=by
 obtain ⟨F,h,_⟩:=hs.head; exact h.1
theorem Ext.alloc (w:World) (o:Obj):Ext w (w.alloc o):=Ext.push w o
theorem St.alloc {o:Obj} (hs:St w0 A L w):St w0 A (xX w.heap.size o::L) (w.alloc o):=
 hs.new (F:=(· = w.heap.size)) (Ext.alloc w o) ⟨pE w o,λ _=>Iff.rfl⟩ λ b hb=>Nat.le_of_eq hb.symm
theorem iF.putObj (w:World) (b:Nat) (o:Obj):iF (· = b) w (w.putObj b o):=
 ⟨rfl,rfl,rfl,by simp,λ k _ hn=>World.putObj_heap_other hn⟩
theorem St.putObj {b:Nat} {o:Obj} (o':Obj) (hs:St w0 A (xX b o::L) w):St w0 A (xX b o'::L) (w.putObj b o'):=
 hs.rV λ F hF=>⟨F,⟨World.putObj_heap_same (jX hF.1),hF.2⟩,λ _ h=>.inl h,(iF.putObj w b o').mono λ k hk=>(hF.2 k).2 hk⟩
theorem gd.mono {fv:Value} {args:List Value} {K K':Value→World→Prop} (h:gd P fv args w K) (hk:∀ v w,K v w→K' v w):gd P fv args w K':=
 Gs.mono (P:=P) (k:=.Pz fv args) h hk
theorem aI {α:Type} [Flat α] {T:TypeId} {b:Nat} {cs:List Value} {x:α} {K:World→Prop} (hs:St w0 A (cH b cs::L) w) (ht:abX P T (Flat.sz α)) (ha:Flat.agg α=true) (hl:cs.length=Flat.sz α)
  (k:∀ w',St w0 A (cH b (Flat.enc x)::L) w'→K w'):Bg P (Instr.storeAt T (.pointer (some ⟨b,0,none⟩)) (Flat.val x)) w K:=by
 rw [Flat.nU ha]
 refine pF hs ht (Flat.len x) (by rw [Nat.zero_add,hl]; exact Nat.le_refl _) (Flat.one x) λ w' h=>k w' ?_
 have:=kR [] cs [] (Flat.enc x) (by rw [Flat.len,hl])
 simp only [List.length_nil,List.nil_append,List.append_nil] at this
 rwa [this] at h
theorem eO {α:Type} [Flat α] {S:Nat→Prop} {T:TypeId} {p:Value} {x:α} (ht:cU P T=some (Flat.agg α,Flat.sz α)) (h:At S w p x):(Instr.loadAt T p).run P w = .ok (Flat.val x) w:=by
 obtain ⟨v,h1,h2⟩:=(aD (K:=λ v=>v=Flat.val x) ht h rfl).ex
 rw [← h2]; exact h1
theorem gJ {b:Bool} {A B:Prop} (h:b=true) (a:A):yl (.bool b) A B:=⟨⟨_,rfl,λ _=>a,λ hh=>by rw [h] at hh; cases hh⟩⟩
theorem fS {b:Bool} {A B:Prop} (h:b=false) (a:B):yl (.bool b) A B:=⟨⟨_,rfl,λ hh=>(by rw [h] at hh; cases hh),λ _=>a⟩⟩
theorem afQ {D:Nat} {K:World→Prop} (hs:St w0 A (xX D (.deferred (some []))::L) w) (k:∀ w',St w0 A L w'→K w'):nQ [D] w K:=
 ⟨hs.obj,k _ (hs.putObj (.deferred none)).drop⟩
theorem NI (L0:Loop) (h1:L0.state = .ready) (h2:L0.pending=none):({L0 with state:=if (none:Option Code).isNone=true then LoopState.ready else LoopState.done,pending:=none}:Loop)=L0:=by
 cases L0; simp only at h1 h2; subst h1; subst h2; rfl
theorem Vg {gf np:Nat} {cap:List Value} {xs:List (List Value)} {round:List Value→World→(World→(World→Prop)→Prop)→(Option Code→World→Prop)→Prop}
  {N R:Nat→World→Prop} {X:Nat→Nat→World→Prop} (pl:Plain P gf) (hs:St w0 A L w) (I:Nat→List HP→Prop) (Ix:Code→List HP→Prop) (h0:I 0 L) (hnp:∀ x∈xs,x.length=np)
  (hgf:∀ (y:Value) (J:Nat→World→Prop) (Jx:World→Prop) (W:World),(∀ k W,J k W→∃ Y M,I k M∧St w0 A (Y::M) W)→(∀ k W W',J k W→Ext W W'→J k W')→J 0 W→
   (∀ k args W',xs[k]? = some args→J k W'→gd P y args W' (λ v W''=>(v = .bool true∧J (k+1) W'')∨(v = .bool false∧Jx W'')))→
   Calls P gf ([y]++cap).toArray W (qf λ _ W'=>J xs.length W'∨Jx W'))
  (Ni:∀ k args (Y1 Y2:HP) (B:World→(World→Prop)→Prop) (Kr:Option Code→World→Prop) M W,xs[k]? = some args→I k M→
   (∀ M w1 (kk:World→Prop),St w0 A (Y1::M) w1→(∀ w2,St w0 A (Y2::M) w2→kk w2)→B w1 kk)→
   (∀ M w1,St w0 A (Y2::M) w1→I (k+1) M→Kr none w1)→(∀ c M w1,St w0 A (Y2::M) w1→Ix c M→Kr (some c) w1)→
   St w0 A (Y1::M) W→round args W B Kr)
  (ao8:∀ D M W,I xs.length M→St w0 A (xX D (.deferred (some []))::M) W→N D W)
  (awE:∀ D M W,Ix .ret M→St w0 A (xX D (.deferred (some []))::M) W→R D W)
  (ao9:∀ id D M W,Ix (.exit id) M→St w0 A (xX D (.deferred (some []))::M) W→X id D W)
  (aiN:∀ c M,Ix c M→(∃ id,c = .exit id)∨c = .ret) :
  CY P (.func (.func gf) #[] cap.toArray) np w round (aft N R X):=by
 refine ⟨gf,cap.toArray,rfl,pl,λ L0 gr hpe hy=>?_⟩
 obtain ⟨l,hl⟩:∃ l,l=w.heap.size+1:=⟨_,rfl⟩
 obtain ⟨D,hD⟩:∃ D,D=w.heap.size:=⟨_,rfl⟩
 rw [← hl] at hy ⊢
 rw [← hD]
 let J:Nat→World→Prop:=λ k W=>∃ M,I k M∧St w0 A (xX l (.loop L0)::xX D (.deferred (some []))::M) W
 let Jx:World→Prop:=λ W=>∃ c M,Ix c M∧St w0 A (xX l (.loop {L0 with state:=.done,pending:=some c})::xX D (.deferred (some []))::M) W
 have hJ0:J 0 ((w.alloc (.deferred (some []))).alloc (.loop L0)):=by
  refine ⟨L,h0,?_⟩
  have h1:=(hs.alloc (o:=.deferred (some []))).alloc (o:=.loop L0)
  rw [show (w.alloc (.deferred (some []))).heap.size=l from by rw [hl]; exact GN w _,← hD] at h1
  exact h1
 have:=hgf (.func (.yield l) #[] #[]) J Jx _ (λ k W ⟨M,hI,hS⟩=>⟨_,M,hI,St.join hS⟩) (λ k W W' ⟨M,hI,hS⟩ e=>⟨M,hI,hS.ext e⟩) hJ0 ?_
 ·have e:([Value.func (.yield l) #[] #[]]++cap).toArray = #[.func (.yield l) #[] #[]]++cap.toArray:=by simp
  rw [e] at this
  refine this.mono λ x W' ⟨v,hx,hv⟩=>⟨v,hx,?_⟩
  rcases hv with ⟨M,hI,hS⟩ | ⟨c,M,hI,hS⟩
  ·refine ⟨.ready,none,by simp,?_,?_⟩
   ·rw [← gr,← hpe]; exact hS.obj
   ·exact ao8 D M _ hI (hS.putObj _).drop
  ·refine ⟨.done,some c,by simp,hS.obj,?_⟩
   rcases aiN c M hI with ⟨id,rfl⟩ | rfl
   ·exact ao9 id D M _ hI (hS.putObj _).drop
   ·exact awE D M _ hI (hS.putObj _).drop
 ·intro k args W hk ⟨M,hI,hS⟩
  refine ⟨.inr ⟨l,rfl,?_⟩⟩
  refine hy args W _ (hnp args (List.mem_of_getElem? hk)) hS.obj ?_
  refine Ni k args (sep (xX l (.loop L0)) (xX D (.deferred (some [])))) (sep (xX l (.loop {L0 with state:=.busy})) (xX D (.deferred (some [])))) _ _ M W hk hI
   (λ M w1 kk h1 h2=>?_) (λ M w1 h1 h2=>?_) (λ c M w1 h1 h2=>?_) (St.join hS)
  ·have h1:=h1.split
   exact ⟨h1.obj,h2 _ (h1.putObj _).join⟩
  ·have h1:=h1.split
   refine ⟨h1.obj,.inl ⟨rfl,M,h2,?_⟩⟩
   have:=h1.putObj (.loop {L0 with state:=if (none:Option Code).isNone=true then LoopState.ready else LoopState.done,pending:=none})
   rw [NI L0 gr hpe] at this ⊢
   exact this
  ·have h1:=h1.split
   exact ⟨h1.obj,.inr ⟨rfl,c,M,h2,h1.putObj _⟩⟩
end
section
variable {P:Program} {w w0:World} {A S:Nat→Prop} {L:List HP}
theorem uV {t:Array TypeId} {T:TypeId} {a b:Int} {K:Value→Prop} (k:K (.int .i64 (min a b))):cZ P (Builtin.min_ t T [.int .i64 a,.int .i64 b].toArray) K:=by
 refine ⟨_,?_,k⟩
 show pr P (Builtin.min2 (.int .i64 a) (.int .i64 b))=_
 unfold Builtin.min2
 by_cases h:b<a
 ·simp [h,fk]; omega
 ·simp [h,fk]; omega
theorem xq {t:Array TypeId} {T:TypeId} {a b:Int} {K:Value→Prop} (k:K (.int .i64 (max a b))):cZ P (Builtin.max_ t T [.int .i64 a,.int .i64 b].toArray) K:=by
 refine ⟨_,?_,k⟩
 show pr P (Builtin.max2 (.int .i64 a) (.int .i64 b))=_
 unfold Builtin.max2
 by_cases h:a<b
 ·simp [h,fk]; omega
 ·simp [h,fk]; omega
end
section
variable {P:Program} {α:Type} [Flat α] {A:Nat→Prop} {w0 w:World} {L:List HP} {xs:List α}
def II (α:Type) [Flat α] (v:Value) (i off:Nat) (p:Value):Prop:=∃ b n c,v = .slice (some ⟨b,0,none⟩) n c∧p = .pointer (some ⟨b,i * Flat.sz α+off,none⟩)
theorem nd {T f off i:Nat} {v p:Value} {K:Value→Prop} (ht:DJ P T f off) (h:GP α v i p) (k:∀ q,II α v i off q→K q):cZ P (Instr.fieldAt T p f) K:=by
 obtain ⟨b,n,c,h1,rfl⟩:=h
 exact aA ht (k _ ⟨b,n,c,h1,rfl⟩)
theorem oa {β:Type} [Flat β] {T:Nat} {v p:Value} {i off:Nat} {x:α} (y:β) {K:Value→Prop} (hs:St w0 A (bK v xs::L) w) (ht:cU P T=some (Flat.agg β,Flat.sz β)) (hp:II α v i off p) (hx:xs[i]? = some x)
  (hy:((Flat.enc x).drop off).take (Flat.sz β)=Flat.enc y) (k:K (Flat.val y)):Dy P (Instr.loadAt T p) w K:=by
 obtain ⟨F,h,_⟩:=hs.head
 obtain ⟨b,cap,rest,hv,hb,hl,_⟩:=qO h (List.getElem?_eq_some_iff.1 hx).1
 obtain ⟨b',n,c,DN,rfl⟩:=hp
 rw [hv] at DN
 simp only [Value.slice.injEq,Option.some.injEq,Addr.mk.injEq] at DN
 obtain ⟨⟨rfl,_,_⟩,_,_⟩:=DN
 refine aD (S:=λ _=>True) ht ⟨b,i * Flat.sz α+off,rfl,trivial,λ j c hj=>hb.cell ?_⟩ k
 rw [← hy,List.getElem?_take] at hj
 split at hj
 ·rw [List.getElem?_drop] at hj
  have:=tN hx hj
  rw [Nat.add_assoc,List.getElem?_append_left (List.getElem?_eq_some_iff.1 this).1]; exact this
 ·cases hj
theorem KP {β:Type} [Flat β] {T:Nat} {v p:Value} {i off:Nat} {K:World→Prop} {x:α} (y:α) (z:β) (hs:St w0 A (bK v xs::L) w) (ht:cU P T=some (Flat.agg β,Flat.sz β)) (hp:II α v i off p) (hx:xs[i]? = some x)
  (hlen:off+Flat.sz β≤Flat.sz α) (hy:(Flat.enc x).take off++Flat.enc z++(Flat.enc x).drop (off+Flat.sz β)=Flat.enc y)
  (k:∀ w',St w0 A (bK v (xs.set i y)::L) w'→K w'):Bg P (Instr.storeAt T p (Flat.val z)) w K:=by
 obtain ⟨U,F,U',g1,g2,g3,g4,g5⟩:=hs.sU
 have hi:=(List.getElem?_eq_some_iff.1 hx).1
 obtain ⟨b,cap,rest,hv,hb,hl,hF⟩:=qO g1 hi
 obtain ⟨b',n,c,DN,rfl⟩:=hp
 rw [hv] at DN
 simp only [Value.slice.injEq,Option.some.injEq,Addr.mk.injEq] at DN
 obtain ⟨⟨rfl,_,_⟩,_,_⟩:=DN
 have Sf:=yK hx
 have Nv:(flat (xs.take i)).length=i * Flat.sz α:=by rw [cW,List.length_take,Nat.min_eq_left (by omega)]
 have hel:i * Flat.sz α+Flat.sz α≤(flat xs).length:=by
  rw [cW,← Nat.succ_mul]; exact Nat.mul_le_mul_right _ hi
 have PE:(Flat.enc x).length=Flat.sz α:=Flat.len x
 have hzl:(Flat.enc z).length=Flat.sz β:=Flat.len z
 obtain ⟨w',h1,h2,h3⟩:=mC (P:=P) (o:=i * Flat.sz α+off) (Flat.enc z) 0 (flat xs++rest) w hb (by rw [hzl,List.length_append]; omega) (Flat.one z)
 have xR:ib (flat xs++rest) (i * Flat.sz α+off+0) (Flat.enc z)=flat (xs.set i y)++rest:=by
  have:=kR (flat (xs.take i)++(Flat.enc x).take off) (((Flat.enc x).drop off).take (Flat.sz β)) ((Flat.enc x).drop (off+Flat.sz β)++flat (xs.drop (i+1))++rest) (Flat.enc z)
   (by rw [hzl,List.length_take,List.length_drop]; omega)
  rw [List.length_append,Nv,List.length_take,Nat.min_eq_left (by omega)] at this
  rw [Nat.add_zero,Kz y hi,Sf,← hy]
  have e1:Flat.enc x=(Flat.enc x).take off++((Flat.enc x).drop off).take (Flat.sz β)++(Flat.enc x).drop (off+Flat.sz β):=by
   rw [← List.drop_drop,List.append_assoc,List.take_append_drop,List.take_append_drop]
  have e2:flat (xs.take i)++Flat.enc x++flat (xs.drop (i+1))++rest=flat (xs.take i)++(Flat.enc x).take off++((Flat.enc x).drop off).take (Flat.sz β)++((Flat.enc x).drop (off+Flat.sz β)++flat (xs.drop (i+1))++rest):=by
   conv=>lhs; rw [e1]
   simp only [List.append_assoc]
  rw [e2,this]
  simp only [List.append_assoc]
 rw [xR] at h2
 refine ⟨w',?_,k w' ⟨hs.aF.trans (h3.mono λ k hk=>(hF k).2 hk) (λ _ h=>h) λ b hb hf=>(g2 b hf).elim id λ hh=>by omega,U,F,U',?_,g2,g3,g4,
  g5.loc λ b hb=>(h3.mono λ k hk=>(hF k).2 hk).cH b (g5.lt b hb) λ hf=>g3 b hf hb⟩⟩
 ·show (storeVar T ⟨b,i * Flat.sz α+off,none⟩ (Flat.val z)).run P w=_
  unfold storeVar
  rw [dM (fw (jL ht).2 w),oS]
  simp only [List.size_toArray,Flat.len,ne_eq,not_true_eq_false,if_false]
  exact h1
 ·refine .inr ⟨b,cap,rest,by rw [List.length_set]; exact hv,h2,?_,hF⟩
  rw [← hl,List.length_append,List.length_append,cW,cW,List.length_set]
theorem uW {T:Nat} {b o:Nat} {cs:List Value} (x:α) {K:Value→Prop} (ht:cU P T=some (Flat.agg α,Flat.sz α)) (hb:tL w b cs) (hx:(cs.drop o).take (Flat.sz α)=Flat.enc x) (k:K (Flat.val x)) :
  Dy P (Instr.loadAt T (.pointer (some ⟨b,o,none⟩))) w K:=by
 refine aD (S:=λ _=>True) ht ⟨b,o,rfl,trivial,λ j c hj=>hb.cell ?_⟩ k
 rw [← hx,List.getElem?_take] at hj
 split at hj
 ·rw [List.getElem?_drop] at hj; exact hj
 ·cases hj
end
structure SV where
 a:Option Addr
 n:Nat
 cap:Nat
instance:Flat SV where
 agg:=false
 sz:=1
 enc s:=[.slice s.a s.n s.cap]
 val s:=.slice s.a s.n s.cap
 pos:=by decide
 len _:=rfl
 one a v h:=by rw [List.mem_singleton.1 h]; rfl
 nU h:=by cases h
 oI _ _:=rfl
section
variable {P:Program} {α:Type} [Flat α] {A:Nat→Prop} {w0 w:World} {L L':List HP} {v:Value}
def rows:List SV→List (List α)→HP
 | [],[]=>emp
 | s::ss,x::xs=>sep (bK (Flat.val s) x) (rows ss xs)
 | _,_=>fact False emp
theorem KQ:∀ {ss:List SV} {xs:List (List α)} {F:Nat→Prop},(rows ss xs).p w F→ss.length=xs.length
 | [],[],_,_=>rfl
 | s::ss,x::xs,F,h=>by
  obtain ⟨F1,F2,_,h2,_,_⟩:=h
  rw [List.length_cons,List.length_cons,KQ h2]
 | [],_::_,_,h=>h.1.elim
 | _::_,[],_,h=>h.1.elim
theorem GV:∀ {ss:List SV} {xs:List (List α)} {F1 F2 F:Nat→Prop} {s:SV} {x:List α},(rows ss xs).p w F1→(bK (Flat.val s) x).p w F2→(∀ b,F1 b→¬ F2 b)→(∀ b,F b↔F1 b∨F2 b)→(rows (ss++[s]) (xs++[x])).p w F
 | [],[],F1,F2,F,s,x,h1,h2,_,h4=>by
  refine ⟨F2,F1,h2,h1,λ b hb IJ=>h1 b IJ,λ b=>?_⟩
  rw [h4 b]; exact ⟨λ h=>h.symm,λ h=>h.symm⟩
 | s'::ss,x'::xs,F1,F2,F,s,x,h1,h2,h3,h4=>by
  obtain ⟨G1,G2,g1,g2,g3,g4⟩:=h1
  refine ⟨G1,λ b=>G2 b∨F2 b,g1,GV g2 h2 (λ b hb=>h3 b ((g4 b).2 (.inr hb))) (λ b=>Iff.rfl),λ b hb=>?_,λ b=>?_⟩
  ·rintro (hh | hh)
   ·exact g3 b hb hh
   ·exact h3 b ((g4 b).2 (.inl hb)) hh
  ·rw [h4 b,g4 b,or_assoc]
 | [],_::_,_,_,_,_,_,h,_,_,_=>h.1.elim
 | _::_,[],_,_,_,_,_,h,_,_,_=>h.1.elim
theorem St.zY {ss:List SV} {xs:List (List α)} (hs:St w0 A (rows ss xs::L) w):ss.length=xs.length:=by
 obtain ⟨F,h,_⟩:=hs.head; exact KQ h
theorem St.acf (hs:St w0 A L w):St w0 A (rows [] ([]:List (List α))::L) w:=
 hs.new (Ext.refl w) (F:=bD) (λ _ h=>h) λ _ h=>h.elim
theorem St.D6 {ss:List SV} {xs:List (List α)} {s:SV} {x:List α} (hs:St w0 A (rows ss xs::bK (Flat.val s) x::L) w):St w0 A (rows (ss++[s]) (xs++[x])::L) w:=by
 have h:=St.join hs
 refine h.rV λ F hF=>?_
 obtain ⟨F1,F2,h1,h2,h3,h4⟩:=hF
 exact ⟨F,GV h1 h2 h3 h4,λ b hb=>.inl hb,iF.refl _ _⟩
theorem St.fU {xs:List α} (hs:St w0 A (bK v xs::L) w):∃ s:SV,v=Flat.val s:=by
 obtain ⟨F,h,_⟩:=hs.head
 rcases h with ⟨rfl,_⟩ | ⟨b,cap,_,rfl,_⟩
 ·exact ⟨⟨none,0,0⟩,rfl⟩
 ·exact ⟨⟨_,_,_⟩,rfl⟩
theorem eP.fU {S:Nat→Prop} {xs:List α} (h:eP S w v xs):∃ s:SV,v=Flat.val s:=by
 obtain ⟨a,cap,rfl,_⟩:=h; exact ⟨⟨_,_,_⟩,rfl⟩
end
section
variable {P:Program}
theorem mc {α:Type} [Flat α] {S:Nat→Prop} {w:World} {xs:List α} {T E oG:Nat} {z:Option Nat} {v:Value} {i:Int} {K:Value→Prop} (ht:fi P T=some (E,Flat.sz α,oG,z)) (hr:eP S w v xs) (h0:0≤i) (h2:i≤xs.length)
  (k:∀ v',(∀ w',eP S w' v xs→eP S w' v' (xs.take i.toNat))→K v'):cZ P (Instr.sliceAt T v none (some (.int .i64 i)) none) K:=by
 obtain ⟨a,cap,rfl,Kv,h3⟩:=hr
 refine ⟨_,Bp ht (qN (.inl ⟨rfl,rfl⟩) (.inr ⟨i,rfl,h0,rfl⟩) (Nat.zero_le _) (by omega)),k _ λ w' h=>?_⟩
 have:=h.cut rfl (Nat.zero_le i.toNat) (by omega)
 simpa using this
end
open Go.ChangeShapes Go.WideShapes Go.ChangeAt Go.RowKit
structure RdT (P:Program) (t:TypeId) (α:Type) [Flat α] (φ:α→Prop):Prop where
 cells:P.cellsOf t=Flat.sz α
 rd:∀ {H:Type} (enc:TypeId × Value→H) (w:World) (base:Nat) (sp:Nat→Bool) (held:Bool) (fuel:Nat) (cs:List Value) (x:DataW H × List MemPlace),
  DataW.trod enc P w base sp held fuel t cs=some x→∃ a:α,cs=Flat.enc a∧φ a
def mI (n:Int):Prop:=-9223372036854775808≤n∧n≤9223372036854775807
theorem aiO {P:Program} {t:TypeId} (ht:P.underlying t=some (.int .i64)) (hc:P.cellsOf t=1):RdT P t Int mI:=
 ⟨hc,λ enc w base sp held fuel cs x h=>by
  obtain ⟨n,h1,_,h3⟩:=DataW.trod_int ht h
  refine ⟨n,h1,?_⟩
  simpa [Lit.wf,IntKind.min,IntKind.max,IntKind.signed,IntKind.bits,mI] using h3⟩
theorem aiP {P:Program} {t:TypeId} (ht:P.underlying t=some .string) (hc:P.cellsOf t=1):RdT P t ByteArray (λ s=>s.size≤maxLen):=
 ⟨hc,λ enc w base sp held fuel cs x h=>by
  obtain ⟨n,h1,_,h2⟩:=DataW.trod_string ht h
  exact ⟨n,h1,h2⟩⟩
theorem me {H:Type} {enc:TypeId × Value→H} {P:Program} {w:World} {base:Nat} {sp:Nat→Bool} {held:Bool} {fuel:Nat} {t:TypeId} {fs:Array Field} {cs:List Value} {x:DataW H × List MemPlace}
  (ht:P.underlying t=some (.struct fs)) (h:DataW.trod enc P w base sp held fuel t cs=some x) :
  cs.length=P.cellsOf t∧∃ n,∀ (i:Nat) (f:Field),fs[i]? = some f→∃ y,DataW.trod enc P w base sp held n f.type ((cs.drop f.offset).take (P.cellsOf f.type))=some y:=by
 obtain ⟨xs,n,_,_,hl,hs,hf⟩:=DataW.trod_struct ht h
 refine ⟨hl,n,λ i f hi=>?_⟩
 have mG:i<xs.length:=by rw [hs]; exact (Array.getElem?_eq_some_iff.1 hi).1
 exact ⟨xs[i],by rw [hf i f hi,List.getElem?_eq_getElem mG]⟩
theorem dY {cs:List Value} {o s:Nat} {r:List Value} (h:(cs.drop o).take s=r):cs.drop o=r++cs.drop (o+s):=by
 rw [← h,← List.drop_drop,List.take_append_drop]
theorem acg {α:Type} {p:Nat→α→Prop}:∀ n,(∀ i,i<n→∃ x,p i x)→∃ xs:List α,xs.length=n∧∀ i x,xs[i]? = some x→p i x:=by
 intro n
 induction n with
 | zero=>intro _; exact ⟨[],rfl,by simp⟩
 | succ n ih=>
  intro h
  obtain ⟨xs,h1,h2⟩:=ih λ i hi=>h i (by omega)
  obtain ⟨x,hx⟩:=h n (by omega)
  refine ⟨xs++[x],by simp [h1],λ i y hy=>?_⟩
  by_cases hi:i<n
  ·rw [List.getElem?_append_left (by omega)] at hy; exact h2 i y hy
  ·have mG:i<(xs++[x]).length:=(List.getElem?_eq_some_iff.1 hy).1
   have:i=n:=by simp [h1] at mG; omega
   subst this
   rw [List.getElem?_append_right (by omega),h1] at hy
   simp at hy
   rw [← hy]; exact hx
theorem NJ {α:Type} [Flat α] {xs:List α} {j:Nat} {c:Value} (h:(flat xs)[j]? = some c):∃ i r x,xs[i]? = some x∧(Flat.enc x)[r]? = some c∧j=i * Flat.sz α+r:=by
 have mG:j<(flat xs).length:=(List.getElem?_eq_some_iff.1 h).1
 rw [cW] at mG
 have hp:0<Flat.sz α:=Flat.pos
 have hi:j / Flat.sz α<xs.length:=Nat.div_lt_of_lt_mul (by rw [Nat.mul_comm]; exact mG)
 have hr:j % Flat.sz α<Flat.sz α:=Nat.mod_lt _ hp
 have hj:j=j / Flat.sz α * Flat.sz α+j % Flat.sz α:=by rw [Nat.mul_comm]; exact (Nat.div_add_mod _ _).symm
 have hx:xs[j / Flat.sz α]? = some (xs[j / Flat.sz α]):=List.getElem?_eq_getElem hi
 have hc:(Flat.enc (xs[j / Flat.sz α]))[j % Flat.sz α]? = some ((Flat.enc (xs[j / Flat.sz α]))[j % Flat.sz α]'(by rw [Flat.len]; exact hr)):=List.getElem?_eq_getElem _
 have:=tN hx hc
 rw [← hj,h] at this
 exact ⟨_,_,_,hx,hc.trans this.symm,hj⟩
section
variable {H:Type} {enc:TypeId × Value→H} {P:Program} {w:World} {base:Nat} {held:Bool}
def IK (P:Program) (ts:List TypeId):Bool:=ts.all λ t=>P.readableRec t && decide (t<P.types.size)
theorem yu (hl:laidOutB P=true) {W W':World} (hb:Below W.heap.size W W') {sp:Nat→Bool}:∀ {ts:List TypeId} {vs:List Value} {ds:List (DataW H)} {ps:List MemPlace},IK P ts=true→(∀ x∈ps,x.block<W.heap.size)→
  (∀ x∈ps,sp x.block=true)→DataW.TrodAll enc P W 0 (λ _=>true) true ts vs ds ps→DataW.TrodAll enc P W' 0 sp true ts vs ds ps
 | [],vs,ds,ps,_,_,_,h=>by obtain ⟨rfl,rfl,rfl⟩:=trodAll_nil h; exact trodAll_mk0
 | t::ts,vs,ds,ps,hr,mG,Sf,h=>by
  obtain ⟨v,vs1,d,ds1,a,b,rfl,rfl,rfl,h1,h2⟩:=trodAll_cons h
  have Y3:P.readableRec t=true∧t<P.types.size∧IK P ts=true:=by
   unfold IK at hr
   rw [List.all_cons,Bool.and_eq_true,Bool.and_eq_true,decide_eq_true_eq] at hr
   exact ⟨hr.1.1,hr.1.2,hr.2⟩
  refine trodAll_cons_mk (WideElems.Trod_stays hl Y3.1 Y3.2.1 h1 (λ x hx=>hb.same (mG x (List.mem_append_left _ hx))) (λ x hx=>Sf x (List.mem_append_left _ hx))) ?_
  exact yu hl hb Y3.2.2 (λ x hx=>mG x (List.mem_append_right _ hx)) (λ x hx=>Sf x (List.mem_append_right _ hx)) h2
theorem post_true {f:Func} {s:ChangeSpec} {apart fresh handsOn again:Bool} {W W':World} {args:Array Value} {ds gs:List (DataW H)} {before:List MemPlace} {tb:TypeId}
  (afR:s.vars=[]) (KR:∀ ds:List (DataW H),ds.length=f.params.size→s.fn H ds={results:=[.lit (.bool true)],args:=ds}) (apa:f.resultTypes = #[tb]) (htb:P.underlying tb=some .bool)
  (hl:laidOutB P=true) (awH:IK P f.params.toList=true)
  (hW:DataW.Whole enc P f.params.toList s.vars apart W args.toList ds gs before) (hb:Below W.heap.size W W') :
  s.post enc P f apart fresh handsOn again W args (.bool true) W':=by
 have hW':=hW
 obtain ⟨p,q,hA,hV,hpq,hz,hn⟩:=hW
 have mG:∀ x∈before,x.block<W.heap.size:=hW'.lt
 rw [afR] at hV
 obtain ⟨rfl,rfl⟩:=trodVars_none hV
 simp only [List.append_nil] at hpq
 have hlen:ds.length=f.params.size:=by
  have:=(trodAll_length hA).2
  simpa using this
 have aiQ:=KR ds hlen
 have afS:∀ (b:Nat) (sp:Nat→Bool) (hd:Bool),DataW.TrodAll enc P W' b sp hd f.resultTypes.toList ((Value.bool true).resultList f.resultTypes.size) (s.fn H (ds++[])).results []:=λ b sp hd=>by
  rw [List.append_nil,aiQ,apa]
  exact trodAll_mk1 (shut_bool htb true)
 have hargs:∀ sp:Nat→Bool,(∀ p∈before,sp p.block=true)→DataW.TrodAll enc P W' 0 sp true f.params.toList args.toList (s.fn H (ds++[])).args before:=λ sp Sf=>by
  rw [List.append_nil,aiQ]
  rw [hpq] at mG Sf ⊢
  exact yu hl hb awH mG Sf hA
 have Vh:∀ sp:Nat→Bool,DataW.TrodVars enc P W' sp s.vars (s.fn H (ds++[])).vars []:=λ sp=>by
  rw [List.append_nil,aiQ,afR]; rfl
 have oM:∀ (j:Nat) (t:TypeId) (r:Value),f.resultTypes[j]? = some t→((Value.bool true).resultList f.resultTypes.size)[j]? = some r→Value.okWide P W' .any 0 t r:=
  ok_one apa rfl (okWide_bool_mk htb true)
 have hold:∀ p∈before,(λ b=>decide (b<W.heap.size)) p.block=true:=λ p hp=>by simpa using mG p hp
 refine ⟨ds,[],before,[],before,[],hW',afS _ _ _,hargs _ hold,Vh _,World.keptBut_mono (λ p hp=>⟨hp,?_⟩) (hb.frame (·∈before)),λ _=>?_⟩
 ·simpa using hp
 ·refine ⟨oM,_,_,([]++before)++[],⟨[]++before,[],trodAll_append (hargs _ (λ _ _=>rfl)) (afS _ _ _),Vh _,rfl,?_,?_⟩,?_⟩
  ·intro b off hp
   have hp':MemPlace.cell b off∈before:=by simpa using hp
   rw [hb.frozen (p:=⟨b,off,none⟩) (mG _ hp')]
   exact hz b off hp'
  ·intro ha; simpa using hn ha
  ·intro p hp _; simpa using hp
end
section
variable {P:Program} {α:Type} [Flat α]
def apb (P:Program) (T n E:Nat):Prop:=P.underlying T=some (.array n E)∧pr P (sizeOf E)=some 1
theorem oc {T E n b o:Nat} {i:Int} {K:Value→Prop} (h:apb P T n E) (h0:0≤i) (h1:i<n) (k:K (.pointer (some ⟨b,o+i.toNat,none⟩))) :
  cZ P (Instr.indexAt T (.pointer (some ⟨b,o,none⟩)) (.int .i64 i)) K:=by
 refine ⟨_,?_,k⟩
 unfold Instr.indexAt
 have e1:pr P (underlying T)=some (.array n E):=cO h.1
 have e3:pr P (Instr.sureAddr (.pointer (some (⟨b,o,none⟩:Addr))))=some ⟨b,o,none⟩:=rfl
 simp only [asIntOf,cP,e1,Option.bind_some,fk,e3]
 simp only [if_pos (show 0≤i∧i<(n:Int) from ⟨h0,h1⟩),cP,h.2,Option.bind_some,fk,gU,Nat.mul_one]
end
theorem Qu {α:Type} [Flat α] {P:Program} {w w0:World} {A:Nat→Prop} {L:List HP} {xs:List α} {T:Nat} {v p:Value} {i:Nat} {x:α} (hs:St w0 A (bK v xs::L) w) (ht:cU P T=some (Flat.agg α,Flat.sz α)) (hp:GP α v i p) (hx:xs[i]? = some x) :
  (Instr.loadAt T p).run P w = .ok (Flat.val x) w:=by
 obtain ⟨F,h,_⟩:=hs.head
 obtain ⟨b,cap,rest,hv,hb,hl,_⟩:=qO h (List.getElem?_eq_some_iff.1 hx).1
 obtain ⟨b',n,c,DN,rfl⟩:=hp
 rw [hv] at DN
 simp only [Value.slice.injEq,Option.some.injEq,Addr.mk.injEq] at DN
 obtain ⟨⟨rfl,_,_⟩,_,_⟩:=DN
 refine eO (S:=λ _=>True) ht ⟨b,i * Flat.sz α,rfl,trivial,λ j c hj=>hb.cell ?_⟩
 have:=tN hx hj
 rw [List.getElem?_append_left (List.getElem?_eq_some_iff.1 this).1]; exact this
class bZ (α:Type) (σ:outParam Type) [Flat σ] where
 dr:World→σ→α→Prop
 ext:∀ {w w':World} {s:σ} {x:α},dr w s x→Ext w w'→dr w' s x
def DL {α σ:Type} [Flat σ] [bZ α σ] (w:World) (v:Value) (xs:List α):Prop:=
 ∃ ts:List σ,eP (λ _=>True) w v ts∧ts.length=xs.length∧∀ (i:Nat) (t:σ) (x:α),ts[i]? = some t→xs[i]? = some x→bZ.dr w t x
section
variable {P:Program} {α σ:Type} [Flat σ] [bZ α σ] {w w' w0:World} {v:Value} {A:Nat→Prop} {L:List HP}
theorem DL.ext {xs:List α} (h:DL w v xs) (e:Ext w w'):DL w' v xs:=by
 obtain ⟨ts,h1,h2,h3⟩:=h; exact ⟨ts,h1.ext e,h2,λ i t x a b=>bZ.ext (h3 i t x a b) e⟩
theorem DL.nil (w:World):DL w (.slice none 0 0) ([]:List α):=⟨[],eP.nil _ _,rfl,λ i t x h=>by simp at h⟩
theorem DL.fU {xs:List α} (h:DL w v xs):∃ s:SV,v=Flat.val s:=by obtain ⟨_,h,_⟩:=h; exact h.fU
instance:bZ (List α) SV where
 dr w s xs:=DL w (Flat.val s) xs
 ext h e:=DL.ext h e
def eL (Φ:World→Prop):HP where
 p w F:=(∀ w':World,(∀ b,F b→w'.heap[b]? = w.heap[b]?)→Φ w')∧∀ b,F b→b<w.heap.size
 loc w w' F h hh:=⟨λ w2 h2=>h.1 w2 λ b hb=>(h2 b hb).trans (hh b hb),λ b hb=>by
  have:=h.2 b hb
  have h3:=hh b hb
  rw [Array.getElem?_eq_getElem this] at h3
  exact (Array.getElem?_eq_some_iff.1 h3).1⟩
 lt w F b h hb:=h.2 b hb
theorem eL.now {Φ:World→Prop} {F:Nat→Prop} (h:(eL Φ).p w F):Φ w:=h.1 w λ _ _=>rfl
theorem St.eL {Φ:World→Prop} (hs:St w0 A (eL Φ::L) w):Φ w:=by obtain ⟨F,h,_⟩:=hs.head; exact eL.now h
theorem St.dU {Φ Ψ:World→Prop} (hs:St w0 A (Fw.eL Φ::L) w) (hk:∀ w,Φ w→Ψ w):St w0 A (Fw.eL Ψ::L) w:=
 hs.rV λ F hF=>⟨F,⟨λ w' h=>hk _ (hF.1 w' h),hF.2⟩,λ b hb=>.inl hb,iF.refl _ _⟩
theorem St.fP {Φ Ψ:World→Prop} (hs:St w0 A (Fw.eL Φ::Fw.eL Ψ::L) w):St w0 A (Fw.eL (λ w=>Φ w∧Ψ w)::L) w:=by
 have h:=St.join hs
 refine h.rV λ F hF=>?_
 obtain ⟨F1,F2,h1,h2,h3,h4⟩:=hF
 refine ⟨F,⟨λ w' hh=>⟨h1.1 w' λ b hb=>hh b ((h4 b).2 (.inl hb)),h2.1 w' λ b hb=>hh b ((h4 b).2 (.inr hb))⟩,λ b hb=>?_⟩,λ b hb=>.inl hb,iF.refl _ _⟩
 rcases (h4 b).1 hb with hb | hb
 ·exact h1.2 b hb
 ·exact h2.2 b hb
theorem St.gK {Φ:World→Prop} (hs:St w0 A L w) (h:∀ w,Φ w):St w0 A (Fw.eL Φ::L) w:=
 hs.new (Ext.refl w) (F:=bD) ⟨λ w' _=>h w',λ b hb=>hb.elim⟩ λ _ h=>h.elim
theorem St.freeze {xs:List σ} (hs:St w0 A (bK v xs::L) w):St w0 A (Fw.eL (λ w=>eP (λ _=>True) w v xs)::L) w:=
 hs.rV λ F hF=>⟨F,⟨λ w' h=>(bK.rd ((bK v xs).loc _ _ _ hF h)).mono λ _ _=>trivial,λ b hb=>(bK v xs).lt _ _ _ hF hb⟩,λ b hb=>.inl hb,iF.refl _ _⟩
theorem St.qP {b:Nat} {cs:List Value} (hs:St w0 A (cH b cs::L) w):St w0 A (Fw.eL (λ w=>tL w b cs)::L) w:=
 hs.rV λ F hF=>⟨F,⟨λ w' h=>((cH b cs).loc _ _ _ hF h).1,λ k hk=>(cH b cs).lt _ _ _ hF hk⟩,λ b hb=>.inl hb,iF.refl _ _⟩
def jV (ts:List σ) (xs:List α) (w:World):Prop:=ts.length=xs.length∧∀ (i:Nat) (t:σ) (x:α),ts[i]? = some t→xs[i]? = some x→bZ.dr w t x
theorem jV.nil:jV ([]:List σ) ([]:List α) w:=⟨rfl,λ i t x h=>by simp at h⟩
theorem jV.snoc {ts:List σ} {xs:List α} {t:σ} {x:α} (h:jV ts xs w) (ht:bZ.dr w t x):jV (ts++[t]) (xs++[x]) w:=by
 refine ⟨by rw [List.length_append,List.length_append,h.1]; rfl,λ i t' x' h1 h2=>?_⟩
 rcases Nat.lt_or_ge i ts.length with hi | hi
 ·rw [List.getElem?_append_left hi] at h1
  rw [List.getElem?_append_left (by rw [← h.1]; exact hi)] at h2
  exact h.2 i t' x' h1 h2
 ·have mG:=(List.getElem?_eq_some_iff.1 h1).1
  rw [List.length_append,List.length_singleton] at mG
  obtain rfl:i=ts.length:=by omega
  rw [List.getElem?_append_right (Nat.le_refl _),Nat.sub_self] at h1
  rw [List.getElem?_append_right (by rw [h.1]; exact Nat.le_refl _),h.1,Nat.sub_self] at h2
  rw [← Option.some.inj h1,← Option.some.inj h2]; exact ht
theorem jV.append {ts us:List σ} {xs ys:List α} (h:jV ts xs w) (g:jV us ys w):jV (ts++us) (xs++ys) w:=by
 refine ⟨by rw [List.length_append,List.length_append,h.1,g.1],λ i t' x' h1 h2=>?_⟩
 rcases Nat.lt_or_ge i ts.length with hi | hi
 ·rw [List.getElem?_append_left hi] at h1
  rw [List.getElem?_append_left (by rw [← h.1]; exact hi)] at h2
  exact h.2 i t' x' h1 h2
 ·rw [List.getElem?_append_right hi] at h1
  rw [List.getElem?_append_right (by rw [← h.1]; exact hi),← h.1] at h2
  exact g.2 _ t' x' h1 h2
theorem DL.of {ts:List σ} {xs:List α} (h:eP (λ _=>True) w v ts) (g:jV ts xs w):DL w v xs:=⟨ts,h,g.1,g.2⟩
theorem DL.open {xs:List α} (h:DL w v xs):∃ ts:List σ,eP (λ _=>True) w v ts∧jV ts xs w:=by obtain ⟨ts,h1,h2,h3⟩:=h; exact ⟨ts,h1,h2,h3⟩
theorem jV.take {ts:List σ} {xs:List α} (h:jV ts xs w) (k:Nat):jV (ts.take k) (xs.take k) w:=by
 refine ⟨by rw [List.length_take,List.length_take,h.1],λ i t x a b=>?_⟩
 rw [List.getElem?_take] at a b
 split at a
 ·rename_i hi; rw [if_pos hi] at b; exact h.2 i t x a b
 ·cases a
theorem jV.drop {ts:List σ} {xs:List α} (h:jV ts xs w) (k:Nat):jV (ts.drop k) (xs.drop k) w:=by
 refine ⟨by rw [List.length_drop,List.length_drop,h.1],λ i t x a b=>?_⟩
 rw [List.getElem?_drop] at a b
 exact h.2 _ t x a b
end
section
variable {α:Type} [Flat α]
abbrev jj:bZ α α:=⟨λ _ s x=>s=x,λ h _=>h⟩
theorem GW [D:bZ α α] (hD:∀ w s x,D.dr w s x↔s=x) {w:World} {ts xs:List α}:jV ts xs w↔ts=xs:=by
 constructor
 ·rintro ⟨h1,h2⟩
  refine List.ext_getElem? λ i=>?_
  rcases Nat.lt_or_ge i ts.length with hi | hi
  ·have a:=List.getElem?_eq_getElem hi
   have b:=List.getElem?_eq_getElem (l:=xs) (by rw [← h1]; exact hi)
   rw [a,b,(hD _ _ _).1 (h2 i _ _ a b)]
  ·rw [List.getElem?_eq_none hi,List.getElem?_eq_none (by rw [← h1]; exact hi)]
 ·rintro rfl
  exact ⟨rfl,λ i t x a b=>(hD _ _ _).2 (Option.some.inj (a.symm.trans b))⟩
end
instance:bZ Int Int:=jj
instance:bZ Bool Bool:=jj
instance:bZ ByteArray ByteArray:=jj
structure RdW (P:Program) (w:World) (t:TypeId) (α:Type) [Flat α] (φ:α→Prop):Prop where
 cells:P.cellsOf t=Flat.sz α
 rd:∀ {H:Type} (enc:TypeId × Value→H) (base:Nat) (held:Bool) (fuel:Nat) (cs:List Value) (x:DataW H × List MemPlace),
  DataW.trod enc P w base (λ _=>true) held fuel t cs=some x→∃ a:α,cs=Flat.enc a∧φ a
def yw (P:Program) (t:TypeId) (α:Type) {σ:Type} [Flat σ] [bZ α σ] (φ:α→Prop):Prop:=∀ w,RdW P w t σ (λ s=>∃ a:α,bZ.dr w s a∧φ a)
theorem RdT.deep {P:Program} {t:TypeId} {α:Type} [Flat α] [D:bZ α α] {φ:α→Prop} (h:RdT P t α φ) (hD:∀ w (x:α),D.dr w x x):yw P t α φ:=
 λ w=>⟨h.cells,λ enc base held fuel cs x hx=>by
  obtain ⟨a,h1,h2⟩:=h.rd enc w base _ held fuel cs x hx; exact ⟨a,h1,a,hD w a,h2⟩⟩
section
variable {H:Type} {enc:TypeId × Value→H} {P:Program} {w:World} {base:Nat} {held:Bool}
theorem KS {α:Type} [Flat α] {φ:α→Prop} {t e:TypeId} {fuel:Nat} {cs:List Value} {x:DataW H × List MemPlace} (ht:P.underlying t=some (.slice e)) (hr:RdW P w e α φ)
  (h:DataW.trod enc P w base (λ _=>true) held fuel t cs=some x):∃ v,cs=[v]∧∃ xs:List α,eP (λ b=>b<w.heap.size) w v xs∧∀ x∈xs,φ x:=by
 rcases DataW.trod_slice ht h with ⟨rfl,_⟩ | ⟨a,len,cap,elems,rest,n,_,rfl,_,hb,hl,hm,hlen,hel,Sf,_⟩
 ·exact ⟨_,rfl,[],eP.nil _ _,by simp⟩
 ·refine ⟨_,rfl,?_⟩
  have get:∀ i,i<len→∃ x:α,φ x∧w.cells? base (a.add (i * P.cellsOf e)) (P.cellsOf e)=some (Flat.enc x):=by
   intro i hi
   have h1:=hel i hi
   rw [List.getElem?_eq_getElem (by omega)] at h1
   obtain ⟨cs',h2,h3⟩:=Option.bind_eq_some_iff.1 h1
   obtain ⟨x,rfl,hx⟩:=hr.rd enc base held n cs' _ h3
   exact ⟨x,hx,h2⟩
  obtain ⟨xs,PE,hxs⟩:=acg len get
  have lF:=hr.cells
  have zM:0<Flat.sz α:=Flat.pos
  have first:∀ (c:Nat) (cs':List Value),w.cells? base (a.add (c * P.cellsOf e)) (P.cellsOf e)=some cs'→c=0→a.spot=none:=by
   intro c cs' h1 h0
   subst h0
   have:=World.cells?_some h1
   have h2:=this.2.2 0 (by rw [lF]; exact zM)
   rw [Nat.zero_mul] at h2
   have h3:w.cell? a=cs'[0]?:=by simpa [Addr.add] using h2
   rw [List.getElem?_eq_getElem (by rw [this.2.1,lF]; exact zM)] at h3
   unfold World.cell? at h3
   split at h3
   ·split at h3
    ·cases h3
    ·rename_i hs; simpa using hs
   ·cases h3
  refine ⟨xs,⟨some a,cap,by rw [PE],by omega,?_⟩,λ x hx=>?_⟩
  ·by_cases zL:cap=0
   ·exact .inl ⟨List.length_eq_zero_iff.1 (by omega),zL⟩
   ·right
    have Qv:a.spot=none:=by
     by_cases h0:0<len
     ·obtain ⟨x,_,hx⟩:=get 0 h0
      exact first 0 _ hx rfl
     ·obtain ⟨h1,h2⟩:=Sf rfl
      have h3:=h2 0 (by omega)
      rw [List.getElem?_eq_getElem (by omega)] at h3
      obtain ⟨cs',h4,_⟩:=Option.bind_eq_some_iff.1 h3
      exact first (len+0) _ h4 (by omega)
    have D7:∀ j c,(flat xs)[j]? = some c→Cell w a.block (a.off+j) c:=by
     intro j c hj
     obtain ⟨i,r,x,hx,C6,rfl⟩:=NJ hj
     have h1:=(World.cells?_some (hxs i x hx).2).2.2 r (by rw [lF]; have:=(List.getElem?_eq_some_iff.1 C6).1; rwa [Flat.len] at this)
     rw [C6,lF] at h1
     obtain ⟨b,o,s⟩:=a
     simp only at Qv
     subst Qv
     unfold Cell
     rw [← h1,gU,gU,Nat.add_assoc]
    refine ⟨a.block,a.off,by obtain ⟨b,o,s⟩:=a; simp only at Qv; subst Qv; rfl,λ CB=>?_,D7⟩
    obtain ⟨y,ys,rfl⟩:=List.exists_cons_of_ne_nil CB
    have h0:(flat (y::ys))[0]? = some ((Flat.enc y)[0]'(by rw [Flat.len]; exact zM)):=by
     rw [jh,List.getElem?_append_left (by rw [Flat.len]; exact zM),List.getElem?_eq_getElem]
    exact (D7 0 _ h0).lt
  ·obtain ⟨i,hi⟩:=List.getElem?_of_mem hx
   exact (hxs i x hi).1
theorem NK {α σ:Type} [Flat σ] [bZ α σ] {φ:α→Prop}:∀ (ts:List σ),(∀ s∈ts,∃ a:α,bZ.dr w s a∧φ a)→∃ xs:List α,jV ts xs w∧∀ x∈xs,φ x
 | [],_=>⟨[],jV.nil,by simp⟩
 | t::ts,h=>by
  obtain ⟨a,h1,h2⟩:=h t (by simp)
  obtain ⟨xs,h3,h4⟩:=NK ts λ s hs=>h s (List.mem_cons_of_mem _ hs)
  refine ⟨a::xs,?_,λ x hx=>?_⟩
  ·have:jV ([]++[t]) ([]++[a]) w:=jV.nil.snoc h1
   exact this.append h3
  ·rcases List.mem_cons.1 hx with rfl | hx
   ·exact h2
   ·exact h4 x hx
theorem yw.slice {α σ:Type} [Flat σ] [bZ α σ] {φ:α→Prop} {t e:TypeId} (ht:P.underlying t=some (.slice e)) (hc:P.cellsOf t=1) (hr:yw P e α φ):yw P t (List α) (λ xs=>∀ x∈xs,φ x):=
 λ w=>⟨hc,λ enc base held fuel cs x hx=>by
  obtain ⟨v,rfl,ts,h1,h2⟩:=KS ht (hr w) hx
  obtain ⟨xs,h3,h4⟩:=NK ts h2
  have h1':eP (λ _=>True) w v ts:=h1.mono λ _ _=>trivial
  obtain ⟨s,rfl⟩:=h1'.fU
  exact ⟨s,rfl,xs,DL.of h1' h3,h4⟩⟩
theorem open_dl {α σ:Type} [Flat σ] [bZ α σ] {φ:α→Prop} {t e:TypeId} {r:Reach} {b0:Nat} {v:Value} {d:DataW H} {ps:List MemPlace} (ht:P.underlying t=some (.slice e)) (hr:yw P e α φ)
  (hval:Value.okWide P w r b0 t v) (hd:DataW.Trod enc P w base (λ _=>true) held t v d ps):∃ xs:List α,DL w v xs∧∀ x∈xs,φ x:=by
 obtain ⟨fuel,hf⟩:=hd
 obtain ⟨u,hu,ts,h1,h2⟩:=KS ht (hr w) hf
 have hv:v=u:=by
  have h1:=hval
  unfold Value.okWide at h1
  rw [ht] at h1
  cases v with
  | slice a n c=>exact (List.cons.inj (show [Value.slice a n c]=[u] from hu)).1
  | _=>
   have h2:Cell.okWide P w r b0 t _:=h1
   unfold Cell.okWide at h2
   rw [ht] at h2
   simp only [Cell.ok,ht] at h2
 subst hv
 obtain ⟨xs,h3,h4⟩:=NK ts h2
 exact ⟨xs,DL.of (h1.mono λ _ _=>trivial) h3,h4⟩
theorem open_dst {α σ:Type} [Flat σ] [bZ α σ] {φ:α→Prop} {t:TypeId} {fs:Array Field} {r:Reach} {b0:Nat} {v:Value} {d:DataW H} {ps:List MemPlace} (ht:P.underlying t=some (.struct fs)) (ha:Flat.agg σ=true)
  (hr:yw P t α φ) (hval:Value.okWide P w r b0 t v) (hd:DataW.Trod enc P w base (λ _=>true) held t v d ps):∃ (s:σ) (x:α),v=Flat.val s∧bZ.dr w s x∧φ x:=by
 obtain ⟨fuel,hf⟩:=hd
 obtain ⟨s,hs,x,h1,h2⟩:=(hr w).rd enc base held fuel _ _ hf
 unfold Value.okWide at hval
 rw [ht] at hval
 obtain ⟨cs,rfl,_⟩:=hval
 refine ⟨s,x,?_,h1,h2⟩
 rw [Flat.nU ha,← hs]
 simp [Value.cells]
end
def rf (x:Int):Int:=IntKind.i64.wrap x
section
variable {P:Program} {T:Nat} {cx cy:Bool} {a b:Int} {K:Value→Prop}
theorem KT (k:K (.int .i64 (rf (a+b)))):cZ P (iP .add T cx cy (.int .i64 a) (.int .i64 b)) K:=⟨_,rfl,k⟩
theorem D8 (k:K (.int .i64 (rf (a - b)))):cZ P (iP .sub T cx cy (.int .i64 a) (.int .i64 b)) K:=⟨_,rfl,k⟩
theorem KU (k:K (.int .i64 (rf (a * b)))):cZ P (iP .mul T cx cy (.int .i64 a) (.int .i64 b)) K:=⟨_,rfl,k⟩
theorem Vi (k:K (.int .i64 (rf (0 - a)))):cZ P (Op.unary .neg (.int .i64 a)) K:=⟨_,rfl,k⟩
theorem Vj (h:b≠0) (k:K (.int .i64 (rf (a.tdiv b)))):cZ P (iP .quo T cx cy (.int .i64 a) (.int .i64 b)) K:=by
 refine ⟨_,?_,k⟩
 show pr P (Op.intDiv .quo .i64 a b)=_
 unfold Op.intDiv
 rw [if_neg h]; rfl
theorem Vk (h:b≠0) (k:K (.int .i64 (a.tmod b))):cZ P (iP .rem T cx cy (.int .i64 a) (.int .i64 b)) K:=by
 refine ⟨_,?_,k⟩
 show pr P (Op.intDiv .rem .i64 a b)=_
 unfold Op.intDiv
 rw [if_neg h]; rfl
end
theorem NL {α:Type} [Flat α] {P:Program} {w w0:World} {A:Nat→Prop} {L:List HP} {xs:List α} {T E oG:Nat} {z:Option Nat} {v:Value} {i:Int} {K:Value→Prop} (ht:fi P T=some (E,Flat.sz α,oG,z))
  (hs:St w0 A (bK v xs::L) w) (h0:0≤i) (h1:i≤xs.length) (k:∀ v',St w0 A (bK v' (xs.take i.toNat)::L) w→K v'):cZ P (Instr.sliceAt T v none (some (.int .i64 i)) none) K:=by
 obtain ⟨a,cap,hv,Kv,_⟩:=hs.fF
 refine ⟨_,(by rw [hv]; exact Bp ht (qN (.inl ⟨rfl,rfl⟩) (.inr ⟨i,rfl,h0,rfl⟩) (Nat.zero_le _) (by omega))),k _ ?_⟩
 refine hs.rV λ F hF=>?_
 rcases hF with ⟨hv0,hx,fV⟩ | ⟨b,Kw,rest,DN,hb,hl,hF⟩
 ·rw [hv0] at hv
  subst hx
  simp only [Value.slice.injEq] at hv
  obtain ⟨rfl,_,rfl⟩:=hv
  have hi:i.toNat=0:=by simp at h1; omega
  refine ⟨F,.inl ⟨?_,by simp,fV⟩,λ b hb=>.inl hb,iF.refl _ _⟩
  rw [hi]; rfl
 ·rw [DN] at hv
  simp only [Value.slice.injEq] at hv
  obtain ⟨rfl,_,rfl⟩:=hv
  refine ⟨F,.inr ⟨b,Kw,flat (xs.drop i.toNat)++rest,?_,?_,?_,hF⟩,λ b hb=>.inl hb,iF.refl _ _⟩
  ·have C0:(xs.take i.toNat).length=i.toNat:=by rw [List.length_take]; omega
   rw [C0]
   simp [gU]
  ·rw [← List.append_assoc,← iz,List.take_append_drop]; exact hb
  ·rw [← List.append_assoc,← iz,List.take_append_drop]; exact hl
section
variable {P:Program} {w w':World} {v:Value}
theorem DL.flat {α:Type} [Flat α] [D:bZ α α] {xs:List α} (h:DL w v xs) (hD:∀ w s x,D.dr w s x↔s=x:=by intros; exact Iff.rfl):eP (λ _=>True) w v xs:=by
 obtain ⟨ts,h1,h2⟩:=h.open
 rw [(GW hD).1 h2] at h1; exact h1
theorem DL.fx {α:Type} [Flat α] [D:bZ α α] {xs:List α} (h:eP (λ _=>True) w v xs) (hD:∀ w s x,D.dr w s x↔s=x:=by intros; exact Iff.rfl):DL w v xs:=DL.of h ((GW hD).2 rfl)
theorem KV {α:Type} [Flat α] {S:Nat→Prop} {xs:List α} {T E oG:Nat} {z:Option Nat} {lo hi:Option Value} {l h:Nat} {K:Value→Prop} (ht:fi P T=some (E,Flat.sz α,oG,z)) (hr:eP S w v xs)
  (hl:lo=none∧l=0∨∃ i:Int,lo=some (.int .i64 i)∧0≤i∧l=i.toNat) (hh:hi=none∧h=xs.length∨∃ i:Int,hi=some (.int .i64 i)∧0≤i∧h=i.toNat)
  (h1:l≤h) (h2:h≤xs.length) (k:∀ v',(∀ w',eP S w' v xs→eP S w' v' ((xs.take h).drop l))→K v'):cZ P (Instr.sliceAt T v lo hi none) K:=by
 obtain ⟨a,cap,rfl,Kv,h3⟩:=hr
 exact ⟨_,Bp ht (qN hl hh h1 (by omega)),k _ λ w' hw=>hw.cut rfl h1 h2⟩
theorem uX {α:Type} [Flat α] {S:Nat→Prop} {xs:List α} {T E oG:Nat} {z:Option Nat} {i:Int} {K:Value→Prop} (ht:fi P T=some (E,Flat.sz α,oG,z)) (hr:eP S w v xs)
  (h0:0≤i) (h2:i≤xs.length) (k:∀ v',(∀ w',eP S w' v xs→eP S w' v' (xs.drop i.toNat))→K v'):cZ P (Instr.sliceAt T v (some (.int .i64 i)) none none) K:=
 KV ht hr (.inr ⟨i,rfl,h0,rfl⟩) (.inl ⟨rfl,rfl⟩) (by omega) (Nat.le_refl _) λ v' h=>k v' λ w' hw=>by have:=h w' hw; rwa [List.take_length] at this
theorem kB {α:Type} [Flat α] {S:Nat→Prop} {xs:List α} {T E oG:Nat} {z:Option Nat} {i j:Int} {K:Value→Prop} (ht:fi P T=some (E,Flat.sz α,oG,z)) (hr:eP S w v xs)
  (h0:0≤i) (h1:i≤j) (h2:j≤xs.length) (k:∀ v',(∀ w',eP S w' v xs→eP S w' v' ((xs.take j.toNat).drop i.toNat))→K v'):cZ P (Instr.sliceAt T v (some (.int .i64 i)) (some (.int .i64 j)) none) K:=
 KV ht hr (.inr ⟨i,rfl,h0,rfl⟩) (.inr ⟨j,rfl,by omega,rfl⟩) (by omega) (by omega) k
theorem DL.cut {α σ:Type} [Flat σ] [bZ α σ] {xs:List α} {ts:List σ} {v':Value} {l h:Nat} (hq:∀ w',eP (λ _=>True) w' v ts→eP (λ _=>True) w' v' ((ts.take h).drop l)) (hR:eP (λ _=>True) w v ts) (hD:jV ts xs w):DL w v' ((xs.take h).drop l):=
 DL.of (hq w hR) ((hD.take h).drop l)
theorem DL.Qw {α σ:Type} [Flat σ] [bZ α σ] {xs:List α} {ts:List σ} {v':Value} {l:Nat} (hq:∀ w',eP (λ _=>True) w' v ts→eP (λ _=>True) w' v' (ts.drop l)) (hR:eP (λ _=>True) w v ts) (hD:jV ts xs w):DL w v' (xs.drop l):=
 DL.of (hq w hR) (hD.drop l)
theorem D9 {a b:ByteArray}:(a.toList == b.toList)=decide (a=b):=by
 rw [ByteArray.toList_eq,ByteArray.toList_eq,Bool.eq_iff_iff,beq_iff_eq,decide_eq_true_eq]
 constructor
 ·intro h
  obtain ⟨a⟩:=a
  obtain ⟨b⟩:=b
  simp only [ByteArray.mk.injEq]
  exact Array.toList_inj.1 h
 ·rintro rfl; rfl
theorem ub {T:Nat} {cx cy:Bool} {a b:ByteArray} {K:Value→Prop} (k:K (.bool (decide (a=b)))):cZ P (iP .eql T cx cy (.string a) (.string b)) K:=by
 rw [← D9] at k
 exact ⟨_,rfl,k⟩
theorem oW {T:Nat} {cx cy:Bool} {a b:ByteArray} {K:Value→Prop} (k:K (.bool (decide (¬ a=b)))):cZ P (iP .neq T cx cy (.string a) (.string b)) K:=by
 refine ⟨_,rfl,?_⟩
 have:(!(a.toList == b.toList))=decide (¬ a=b):=by rw [D9]; by_cases h:a=b <;> simp [h]
 rw [this]; exact k
end
def lr (s:ByteArray):List UInt8:=s.data.toList
theorem ei (s:ByteArray):(lr s).length=s.size:=by unfold lr; rw [Array.length_toList]; rfl
theorem ach (s:ByteArray) (i:Nat):(lr s)[i]? = if h:i<s.size then some (s[i]'h) else none:=by
 unfold lr
 by_cases h:i<s.size
 ·rw [dif_pos h,Array.getElem?_toList]
  exact Array.getElem?_eq_getElem h
 ·rw [dif_neg h,List.getElem?_eq_none]
  rw [Array.length_toList]; exact Nat.le_of_not_lt h
section
variable {P:Program} {T R:Nat} {cx cy:Bool} {a b:Int} {K:Value→Prop}
theorem gi {s:ByteArray} (hT:P.underlying T=some .string) (k:K (.int .i64 (s.size:Int))):cZ P (Builtin.len_ #[T] R [Value.string s].toArray) K:=by
 refine ⟨_,?_,k⟩
 show pr P (do
  match ← underlying T,Value.string s with
  | .string,.string s=>pure (goInt s.size)
  | .array n _,_=>pure (goInt n)
  | .pointer arr,_=>
   let .array n _ ← underlying arr | stuck "len: pointer to array expected"
   pure (goInt n)
  | .slice _,.slice _ n _=>pure (goInt n)
  | .map _ _,.map none | .chan _ _,.chan none=>pure (goInt 0)
  | .map _ _,.map (some r)=>
   let .map entries _ ← getObj r | stuck "len: map expected"
   pure (goInt entries.size)
  | .chan _ _,.chan (some r)=>
   let .chan _ buf _ _ _ timer ← getObj r | stuck "len: channel expected"
   pure (goInt (if timer then 0 else buf.size))
  | _, _ => stuck "len: string, array, pointer to array, slice, map or channel expected") = _
 rw [cP,cO hT]; rfl
theorem lO {s:ByteArray} {i:Int} {e:UInt8} (hT:P.underlying T=some .string) (h0:0≤i) (he:(lr s)[i.toNat]? = some e) (k:K (.int .u8 (e.toNat:Int))):cZ P (Instr.index T (.string s) (.int .i64 i)) K:=by
 refine ⟨_,?_,k⟩
 rw [ach] at he
 have hi:i.toNat<s.size:=by
  by_cases h:i.toNat<s.size
  ·exact h
  ·rw [dif_neg h] at he; cases he
 rw [dif_pos hi] at he
 have h3:(if 0≤i then s[i.toNat]? else none)=some e:=by rw [if_pos h0,ByteArray.getElem?_lt' s _ hi,← he]
 unfold Instr.index
 simp only [asIntOf,cP,cO hT,Option.bind_some,fk,h3]
theorem oX {s:ByteArray} {i:Int} (hT:P.underlying T=some .string) (h0:0≤i) (h1:i≤s.size) (k:K (.string (s.extract 0 i.toNat))):cZ P (Instr.sliceAt T (.string s) none (some (.int .i64 i)) none) K:=by
 refine ⟨_,?_,k⟩
 unfold Instr.sliceAt
 rw [cP,cO hT]
 simp only [Option.bind_some]
 unfold Instr.slice
 rw [cP,cO hT]
 simp only [Option.bind_some]
 rw [if_neg (by decide)]
 have hb:pr P (Instr.sliceBounds false s.size s.size none (some (.int .i64 i)) none)=some (0,i.toNat,s.size):=by
  simp only [Instr.sliceBounds,cP,fk,Option.bind_some]
  rw [mW h0 h1]; rfl
 rw [cP,hb]; rfl
theorem KW {s:ByteArray} {i j:Int} (hT:P.underlying T=some .string) (h0:0≤i) (hij:i≤j) (h1:j≤s.size) (k:K (.string (s.extract i.toNat j.toNat))):cZ P (Instr.sliceAt T (.string s) (some (.int .i64 i)) (some (.int .i64 j)) none) K:=by
 refine ⟨_,?_,k⟩
 unfold Instr.sliceAt
 rw [cP,cO hT]
 simp only [Option.bind_some]
 unfold Instr.slice
 rw [cP,cO hT]
 simp only [Option.bind_some]
 rw [if_neg (by decide)]
 have hb:pr P (Instr.sliceBounds false s.size s.size (some (.int .i64 i)) (some (.int .i64 j)) none)=some (i.toNat,j.toNat,s.size):=by
  simp only [Instr.sliceBounds,cP,fk,Option.bind_some]
  rw [mW (by omega) h1]; simp only [Option.bind_some]; rw [mW h0 (by omega)]; rfl
 rw [cP,hb]; rfl
theorem KX (k:K (.bool (decide (a≤b)))):cZ P (iP .leq T cx cy (.int .u8 a) (.int .u8 b)) K:=⟨_,rfl,k⟩
theorem KY (k:K (.bool (decide (b≤a)))):cZ P (iP .geq T cx cy (.int .u8 a) (.int .u8 b)) K:=⟨_,rfl,k⟩
theorem od (k:K (.bool (decide (a=b)))):cZ P (iP .eql T cx cy (.int .u8 a) (.int .u8 b)) K:=⟨_,rfl,k⟩
theorem Vl (k:K (.bool (decide (a≠b)))):cZ P (iP .neq T cx cy (.int .u8 a) (.int .u8 b)) K:=
 ⟨_,(show pr P (iP .neq T cx cy (.int .u8 a) (.int .u8 b))=some (.bool (decide (a≠b))) from by
  show some (Value.bool (a != b))=_
  congr 2
  by_cases h:a=b <;> simp [h]),k⟩
theorem Vm {t:Array TypeId} {R:TypeId} {c:Int} (k:K (.int .i64 (max (max a b) c))):cZ P (Builtin.max_ t R [.int .i64 a,.int .i64 b,.int .i64 c].toArray) K:=by
 refine ⟨_,?_,k⟩
 show pr P (do Builtin.max2 (← Builtin.max2 (.int .i64 a) (.int .i64 b)) (.int .i64 c))=_
 have h:∀ x y:Int,pr P (Builtin.max2 (.int .i64 x) (.int .i64 y))=some (.int .i64 (max x y)):=by
  intro x y
  unfold Builtin.max2
  by_cases h:x<y
  ·simp [h,fk]; omega
  ·simp [h,fk]; omega
 rw [cP,h]
 exact h _ _
end
def fq {α σ:Type} [Flat σ] [bZ α σ] (v:Value) (xs:List α):HP:=ua λ ts:List σ=>sep (bK v ts) (eL (jV ts xs))
section
variable {P:Program} {α σ:Type} [Flat σ] [D:bZ α σ] {w w' w0:World} {v src:Value} {A:Nat→Prop} {L:List HP} {xs ys:List α}
theorem St.sq (hs:St w0 A (fq v xs::L) w):∃ ts:List σ,St w0 A (bK v ts::Fw.eL (jV ts xs)::L) w:=by
 obtain ⟨ts,h⟩:=hs.eZ; exact ⟨ts,h.split⟩
theorem St.Ea {ts:List σ} (hs:St w0 A (bK v ts::Fw.eL (jV ts xs)::L) w):St w0 A (fq v xs::L) w:=
 St.eU (H:=λ ts:List σ=>sep (bK v ts) (Fw.eL (jV ts xs))) ts (St.join hs)
theorem St.aiR {ts:List σ} (hs:St w0 A (bK v ts::Fw.eL (jV ts xs)::L) w):ts.length=xs.length:=(hs.p1.eL).1
theorem St.xY (hs:St w0 A L w):St w0 A (fq (.slice none 0 0) ([]:List α)::L) w:=
 St.Ea (ts:=[]) ((hs.gK λ _=>jV.nil).fX)
theorem St.awI (hs:St w0 A (bK v ([]:List σ)::L) w):St w0 A (fq v ([]:List α)::L) w:=
 St.Ea (ts:=[]) (hs.gK (Φ:=jV ([]:List σ) ([]:List α)) λ _=>jV.nil).p1
theorem St.awJ {s:σ} {x:α} (hs:St w0 A (bK v [s]::Fw.eL (λ w=>bZ.dr w s x)::L) w):St w0 A (fq v [x]::L) w:=by
 refine St.Ea (ts:=[s]) ?_
 refine ((hs.p1.dU (Ψ:=jV [s] [x]) λ w h=>?_)).p1
 exact (jV.nil (w:=w)).snoc h
theorem St.awK {ts us:List σ} (hs:St w0 A (bK v (ts++us)::Fw.eL (jV ts xs)::Fw.eL (jV us ys)::L) w):St w0 A (fq v (xs++ys)::L) w:=by
 have h1:=(hs.p1:St w0 A (Fw.eL (jV ts xs)::bK v (ts++us)::Fw.eL (jV us ys)::L) w)
 have h2:=h1.p2.p1
 refine St.Ea (ts:=ts++us) ?_
 exact ((h2.fP).dU (Ψ:=jV (ts++us) (xs++ys)) λ w h=>h.1.append h.2).p1
theorem St.jO (hs:St w0 A (fq v xs::L) w):St w0 A (Fw.eL (λ w=>DL w v xs)::L) w:=by
 obtain ⟨ts,h⟩:=hs.sq
 exact (h.freeze.fP).dU λ w h=>DL.of h.1 h.2
theorem St.dl (hs:St w0 A (fq v xs::L) w):DL w v xs:=hs.jO.eL
theorem St.lP (hs:St w0 A (fq v xs::L) w):∃ s:SV,v=Flat.val s:=hs.dl.fU
theorem St.enc {b:Nat} {cs cs':List Value} (hs:St w0 A (cH b cs::L) w) (h:cs=cs'):St w0 A (cH b cs'::L) w:=h▸hs
theorem wh {T E oG:Nat} {K:Value→World→Prop} (hs:St w0 A L w) (ht:SlT P T E (Flat.sz σ) oG) (k:∀ v w',St w0 A (fq v ([]:List α)::L) w'→K v w'):ia P (Instr.buildSlice T 0 ([]:List (Nat × Value)).toArray) w K:=
 bV ([]:List σ) hs ht rfl rfl (by simp) λ v w' h=>k v w' h.awI
theorem eQ {T E oG:Nat} {s:σ} {x:α} {K:Value→World→Prop} (hs:St w0 A (Fw.eL (λ w=>bZ.dr w s x)::L) w) (ht:SlT P T E (Flat.sz σ) oG) (hz:Flat.sz σ≤64) (k:∀ v w',St w0 A (fq v [x]::L) w'→K v w') :
  ia P (Instr.buildSlice T 1 [(0,Flat.val s)].toArray) w K:=
 bV [s] hs ht rfl rfl (by simp; omega) λ v w' h=>k v w' h.awJ
theorem ej {T E oG R:Nat} {K:Value→World→Prop} (hs:St w0 A (fq v xs::fq src ys::L) w) (ht:SlT P T E (Flat.sz σ) oG)
  (hn:xs.length+ys.length≤1073741824) (hby:oG≤8192) (k:∀ v' w',St w0 A (fq v' (xs++ys)::L) w'→K v' w'):ia P (Builtin.append_ #[T,T] R [v,src].toArray) w K:=by
 obtain ⟨us,h1⟩:=hs.p1.sq
 obtain ⟨ts,h2⟩:=h1.p2.sq
 have e1:=h1.aiR
 have e2:=h2.aiR
 refine cS h2 ht h2.p2.fF (by omega) hby λ v' w' h=>k v' w' ?_
 exact (h.p2.drop).awK
theorem IL {β:Type} [Flat β] {T:Nat} {b o:Nat} {cs:List Value} (x:β) (ht:cU P T=some (Flat.agg β,Flat.sz β)) (hb:tL w b cs) (hx:(cs.drop o).take (Flat.sz β)=Flat.enc x) :
  (Instr.loadAt T (.pointer (some ⟨b,o,none⟩))).run P w = .ok (Flat.val x) w:=by
 refine eO (S:=λ _=>True) ht ⟨b,o,rfl,trivial,λ j c hj=>hb.cell ?_⟩
 rw [← hx,List.getElem?_take] at hj
 split at hj
 ·rw [List.getElem?_drop] at hj; exact hj
 ·cases hj
end
instance:Flat UInt8 where
 agg:=false
 sz:=1
 enc b:=[.int .u8 b.toNat]
 val b:=.int .u8 b.toNat
 pos:=by decide
 len _:=rfl
 one a v h:=by rw [List.mem_singleton.1 h]; rfl
 nU h:=by cases h
 oI _ _:=rfl
instance:bZ UInt8 UInt8:=jj
theorem aci (l:List UInt8):flat l=l.map λ b=>Value.int .u8 b.toNat:=by
 induction l with
 | nil=>rfl
 | cons x l ih=>rw [jh,ih]; rfl
theorem ic {P:Program} {w w0:World} {A:Nat→Prop} {L:List HP} {src dst e:TypeId} {s:ByteArray} {u:TypeDesc} {K:Value→World→Prop} (hs:St w0 A L w) (h1:P.underlying src=some u) (h2:P.underlying dst=some (.slice e)) (h3:P.underlying e=some (.int .u8))
  (k:∀ v w',St w0 A (Fw.eL (λ w=>eP (λ _=>True) w v (lr s))::L) w'→K v w'):ia P (convert src dst (.string s)) w K:=by
 refine ⟨_,_,Go.Lib.run_convert_string_bytes w src dst e s h1 h2 h3,k _ _ ?_⟩
 have he:Ext w (Go.Lib.bytesWorld w e s):=by
  refine ⟨?_,?_,?_,by rw [Go.Lib.bytesWorld_size]; omega,λ b hb _=>Go.Lib.bytesWorld_at_old w e s b hb⟩
  all_goals simp [Go.Lib.bytesWorld,World.freeze,World.alloc,World.drew,-World.alloc_eq,-World.drew_eq]
 refine hs.new he (F:=λ b=>b=w.heap.size) ⟨λ w' hw=>?_,λ b hb=>by rw [hb,Go.Lib.bytesWorld_size]; omega⟩ λ b hb=>by rw [hb]; exact Nat.le_refl _
 have lF:(lr s).length=s.size:=ei s
 refine ⟨some ⟨w.heap.size,0,none⟩,grownCap w s.size 0 e,by rw [lF],by rw [lF]; exact grownCap_ge w s.size 0 e,.inr ⟨w.heap.size,0,rfl,λ _=>trivial,λ j c hj=>?_⟩⟩
 rw [aci,List.getElem?_map] at hj
 obtain ⟨b,hb,rfl⟩:=Option.map_eq_some_iff.1 hj
 have mG:j<s.size:=by rw [← lF]; exact (List.getElem?_eq_some_iff.1 hb).1
 have h0:=hw w.heap.size rfl
 have D7:=Go.Lib.bytesWorld_cell w e s j mG
 have e2:s.data.toList.getD j 0=b:=by
  rw [List.getD_eq_getElem?_getD]
  have:s.data.toList[j]? = some b:=hb
  rw [this]; rfl
 rw [e2] at D7
 unfold Cell
 rw [Nat.zero_add]
 unfold World.cell? at D7 ⊢
 dsimp only at D7 ⊢
 rw [h0]; exact D7
def oe {α σ:Type} [Flat σ] [bZ α σ] (P:Program) (w:World) (f:Value) (φ:α→Prop) (g:α→Bool):Prop:=∃ g0 first cap,f = .func (.func g0) (List.toArray first) (List.toArray cap)∧Plain P g0∧
 ∀ (s:σ) (x:α) w1,Ext w w1→bZ.dr w1 s x→φ x→Calls P g0 (first++[Flat.val s]++cap).toArray w1 (qf λ v w2=>v = .bool (g x)∧Ext w1 w2)
theorem oe.ext {α σ:Type} [Flat σ] [bZ α σ] {P:Program} {w w':World} {f:Value} {φ:α→Prop} {g:α→Bool} (h:oe P w f φ g) (e:Ext w w'):oe P w' f φ g:=by
 obtain ⟨g0,first,cap,h1,h2,h3⟩:=h; exact ⟨g0,first,cap,h1,h2,λ s x w1 e1=>h3 s x w1 (e.trans e1)⟩
theorem xr {α:Type} [Flat α] {P:Program} {S:Nat→Prop} {w:World} {T E:TypeId} {cx cy:Bool} {v:Value} {xs:List α} {K:Value→Prop} (h:P.underlying T=some (.slice E)) (hr:eP S w v xs) (k:∀ p:Bool,(p=true→xs=[])→K (.bool p)) :
  cZ P (iP .eql T cx cy v (.slice none 0 0)) K:=by
 obtain ⟨a,cap,rfl,_,h3⟩:=hr
 have key:pr P (Op.equal T (.slice a xs.length cap) (.slice none 0 0))=some a.isNone:=by
  show pr P (Op.equalIn 10000 T (.slice a xs.length cap) (.slice none 0 0))=_
  unfold Op.equalIn
  rw [cP,cO h]
  cases a <;> rfl
 refine ⟨_,?_,k a.isNone λ ha=>?_⟩
 ·show pr P (do pure (Value.bool (← Op.equal T (.slice a xs.length cap) (.slice none 0 0))))=_
  rw [xi,key]; rfl
 ·rcases h3 with h3 | ⟨b,o,rfl,_⟩
  ·exact h3.1
  ·cases ha
theorem St.apc {α:Type} [Flat α] {w w0:World} {A:Nat→Prop} {L:List HP} {v:Value} {xs ys:List α} (hs:St w0 A (bK v xs::L) w) (h:xs=ys):St w0 A (bK v ys::L) w:=h▸hs
theorem Vn {α β:Type} [Flat α] [Flat β] {P:Program} {w w0:World} {A:Nat→Prop} {L:List HP} {xs:List α} {T:Nat} {v p:Value} {i off:Nat} {x:α} (y:β) (hs:St w0 A (bK v xs::L) w) (ht:cU P T=some (Flat.agg β,Flat.sz β)) (hp:II α v i off p) (hx:xs[i]? = some x)
  (hy:((Flat.enc x).drop off).take (Flat.sz β)=Flat.enc y):(Instr.loadAt T p).run P w = .ok (Flat.val y) w:=by
 obtain ⟨v,h1,h2⟩:=(oa (K:=λ v=>v=Flat.val y) y hs ht hp hx hy rfl).ex
 rw [← h2]; exact h1
structure Ptr where
 b:Nat
deriving DecidableEq
instance:Flat Ptr where
 agg:=false
 sz:=1
 enc p:=[.pointer (some ⟨p.b,0,none⟩)]
 val p:=.pointer (some ⟨p.b,0,none⟩)
 pos:=by decide
 len _:=rfl
 one a v h:=by rw [List.mem_singleton.1 h]; rfl
 nU h:=by cases h
 oI _ _:=rfl
instance:bZ Ptr Ptr:=jj
def iH {α κ:Type} (H:κ→α→HP):List κ→List α→HP
 | [],[]=>emp
 | p::ps,x::xs=>sep (H p x) (iH H ps xs)
 | _,_=>fact False emp
section
variable {P:Program} {α κ:Type} {H:κ→α→HP} {A:Nat→Prop} {w0 w:World} {L:List HP}
theorem Bv:∀ {ps:List κ} {xs:List α} {F:Nat→Prop},(iH H ps xs).p w F→ps.length=xs.length
 | [],[],_,_=>rfl
 | s::ss,x::xs,F,h=>by
  obtain ⟨F1,F2,_,h2,_,_⟩:=h
  rw [List.length_cons,List.length_cons,Bv h2]
 | [],_::_,_,h=>h.1.elim
 | _::_,[],_,h=>h.1.elim
theorem St.lu {ps:List κ} {xs:List α} (hs:St w0 A (iH H ps xs::L) w):ps.length=xs.length:=by
 obtain ⟨F,h,_⟩:=hs.head; exact Bv h
theorem St.KZ (hs:St w0 A L w):St w0 A (iH H [] []::L) w:=hs.new (Ext.refl w) (F:=bD) (λ _ h=>h) λ _ h=>h.elim
def qz (H:κ→α→HP) (ps:List κ) (xs:List α) (i:Nat):HP:=sep (iH H (ps.take i) (xs.take i)) (iH H (ps.drop (i+1)) (xs.drop (i+1)))
theorem Cj:∀ {ps:List κ} {xs:List α} {i:Nat} {p:κ} {x:α} {F:Nat→Prop},(iH H ps xs).p w F→ps[i]? = some p→xs[i]? = some x→(sep (H p x) (qz H ps xs i)).p w F
 | p'::ps,x'::xs,0,p,x,F,h,hp,hx=>by
  rw [List.getElem?_cons_zero] at hp hx
  obtain rfl:=Option.some.inj hp
  obtain rfl:=Option.some.inj hx
  obtain ⟨F1,F2,h1,h2,h3,h4⟩:=h
  exact ⟨F1,F2,h1,⟨bD,F2,λ _ h=>h,h2,λ _ h=>h.elim,λ b=>⟨.inr,λ h=>h.elim (λ h=>h.elim) id⟩⟩,h3,h4⟩
 | p'::ps,x'::xs,i+1,p,x,F,h,hp,hx=>by
  rw [List.getElem?_cons_succ] at hp hx
  obtain ⟨F1,F2,h1,h2,h3,h4⟩:=h
  obtain ⟨G1,G2,g1,⟨K1,K2,k1,k2,k3,k4⟩,g3,g4⟩:=Cj h2 hp hx
  refine ⟨G1,λ b=>F1 b∨G2 b,g1,⟨λ b=>F1 b∨K1 b,K2,⟨F1,K1,h1,k1,λ b hb hk=>h3 b hb ((g4 b).2 (.inr ((k4 b).2 (.inl hk)))),λ b=>Iff.rfl⟩,k2,?_,?_⟩,?_,?_⟩
  ·rintro b (hb | hb) hk
   ·exact h3 b hb ((g4 b).2 (.inr ((k4 b).2 (.inr hk))))
   ·exact k3 b hb hk
  ·intro b; show F1 b∨G2 b↔(F1 b∨K1 b)∨K2 b; rw [k4 b,or_assoc]
  ·rintro b hb (hf | hf)
   ·exact h3 b hf ((g4 b).2 (.inl hb))
   ·exact g3 b hb hf
  ·intro b; rw [h4 b,g4 b]; constructor
   ·rintro (h | h | h)
    ·exact .inr (.inl h)
    ·exact .inl h
    ·exact .inr (.inr h)
   ·rintro (h | h | h)
    ·exact .inr (.inl h)
    ·exact .inl h
    ·exact .inr (.inr h)
 | [],[],_,_,_,_,_,hp,_=>by simp at hp
 | [],_::_,_,_,_,_,h,_,_=>h.1.elim
 | _::_,[],_,_,_,_,h,_,_=>h.1.elim
theorem Bw:∀ {ps:List κ} {xs:List α} {i:Nat} {p:κ} {x:α} {F:Nat→Prop},i<xs.length→ps.length=xs.length→(sep (H p x) (qz H ps xs i)).p w F→(iH H (ps.set i p) (xs.set i x)).p w F
 | p'::ps,x'::xs,0,p,x,F,_,_,h=>by
  obtain ⟨F1,F2,h1,⟨K1,K2,k1,k2,k3,k4⟩,h3,h4⟩:=h
  refine ⟨F1,F2,h1,?_,h3,h4⟩
  have e:F2=K2:=funext λ b=>propext ((k4 b).trans ⟨λ h=>h.elim (λ h=>(k1 b h).elim) id,.inr⟩)
  rw [e]; exact k2
 | p'::ps,x'::xs,i+1,p,x,F,hi,hl,h=>by
  obtain ⟨G1,G2,g1,⟨K1,K2,⟨F1,M1,f1,m1,f3,f4⟩,k2,k3,k4⟩,g3,g4⟩:=h
  refine ⟨F1,λ b=>G1 b∨(M1 b∨K2 b),f1,Bw (by simpa using hi) (by simpa using hl) ⟨G1,λ b=>M1 b∨K2 b,g1,⟨M1,K2,m1,k2,λ b hb hk=>k3 b ((f4 b).2 (.inr hb)) hk,λ b=>Iff.rfl⟩,?_,λ b=>Iff.rfl⟩,?_,?_⟩
  ·rintro b hb (h | h)
   ·exact g3 b hb ((k4 b).2 (.inl ((f4 b).2 (.inr h))))
   ·exact g3 b hb ((k4 b).2 (.inr h))
  ·rintro b hb (h | h | h)
   ·exact g3 b h ((k4 b).2 (.inl ((f4 b).2 (.inl hb))))
   ·exact f3 b hb h
   ·exact k3 b ((f4 b).2 (.inl hb)) h
  ·intro b; rw [g4 b,k4 b,f4 b]; constructor
   ·rintro (h | (h | h) | h)
    ·exact .inr (.inl h)
    ·exact .inl h
    ·exact .inr (.inr (.inl h))
    ·exact .inr (.inr (.inr h))
   ·rintro (h | h | h | h)
    ·exact .inr (.inl (.inl h))
    ·exact .inl h
    ·exact .inr (.inl (.inr h))
    ·exact .inr (.inr h)
 | [],_::_,_,_,_,_,_,hl,_=>by simp at hl
 | _,[],_,_,_,_,hi,_,_=>by simp at hi
theorem uY {β:Type}:∀ {ps:List β} {i:Nat} {p:β},ps[i]? = some p→ps.set i p=ps
 | [],_,_,h=>by simp at h
 | y::ps,0,p,h=>by rw [List.getElem?_cons_zero] at h; obtain rfl:=Option.some.inj h; rfl
 | y::ps,i+1,p,h=>by rw [List.getElem?_cons_succ] at h; rw [List.set_cons_succ,uY h]
theorem NM {ps:List κ} {xs:List α} {i:Nat} {p:κ} {x:α} {F:Nat→Prop} (hi:i<xs.length) (hl:ps.length=xs.length) (hp:ps[i]? = some p) (h:(sep (H p x) (qz H ps xs i)).p w F):(iH H ps (xs.set i x)).p w F:=by
 have:=Bw hi hl h; rwa [uY hp] at this
theorem GX:∀ {ps qs:List κ} {xs ys:List α} {F:Nat→Prop},(sep (iH H ps xs) (iH H qs ys)).p w F→(iH H (ps++qs) (xs++ys)).p w F
 | [],qs,[],ys,F,⟨F1,F2,h1,h2,_,h4⟩=>by
  have:F=F2:=funext λ b=>propext ((h4 b).trans ⟨λ h=>h.elim (λ h=>(h1 b h).elim) id,.inr⟩)
  rw [this]; exact h2
 | p::ps,qs,x::xs,ys,F,⟨F1,F2,⟨G1,G2,g1,g2,g3,g4⟩,h2,h3,h4⟩=>by
  refine ⟨G1,λ b=>G2 b∨F2 b,g1,GX ⟨G2,F2,g2,h2,λ b hb=>h3 b ((g4 b).2 (.inr hb)),λ b=>Iff.rfl⟩,λ b hb=>?_,λ b=>by rw [h4 b,g4 b,or_assoc]⟩
  rintro (hh | hh)
  ·exact g3 b hb hh
  ·exact h3 b ((g4 b).2 (.inl hb)) hh
 | [],_,_::_,_,_,⟨_,_,h,_⟩=>h.1.elim
 | _::_,_,[],_,_,⟨_,_,h,_⟩=>h.1.elim
theorem St.focus {ps:List κ} {xs:List α} {i:Nat} {p:κ} {x:α} (hs:St w0 A (iH H ps xs::L) w) (hp:ps[i]? = some p) (hx:xs[i]? = some x):St w0 A (H p x::qz H ps xs i::L) w:=
 (hs.rV (H':=sep (H p x) (qz H ps xs i)) λ F hF=>⟨F,Cj hF hp hx,λ b hb=>.inl hb,iF.refl _ _⟩).split
theorem St.sr {ps:List κ} {xs:List α} {i:Nat} {p:κ} {x:α} (hs:St w0 A (H p x::qz H ps xs i::L) w) (hi:i<xs.length) (hl:ps.length=xs.length) (hp:ps[i]? = some p):St w0 A (iH H ps (xs.set i x)::L) w:=
 (St.join hs).rV λ F hF=>⟨F,NM hi hl hp hF,λ b hb=>.inl hb,iF.refl _ _⟩
theorem Eb:∀ {ps:List κ} {xs:List α} {p:κ} {x:α} {F1 F2 F:Nat→Prop},(iH H ps xs).p w F1→(H p x).p w F2→(∀ b,F1 b→¬ F2 b)→(∀ b,F b↔F1 b∨F2 b)→(iH H (ps++[p]) (xs++[x])).p w F
 | [],[],p,x,F1,F2,F,h1,h2,_,h4=>⟨F2,F1,h2,h1,λ b _ IJ=>h1 b IJ,λ b=>by rw [h4 b]; exact ⟨λ h=>h.symm,λ h=>h.symm⟩⟩
 | s'::ss,x'::xs,p,x,F1,F2,F,h1,h2,h3,h4=>by
  obtain ⟨G1,G2,g1,g2,g3,g4⟩:=h1
  refine ⟨G1,λ b=>G2 b∨F2 b,g1,Eb g2 h2 (λ b hb=>h3 b ((g4 b).2 (.inr hb))) (λ b=>Iff.rfl),λ b hb=>?_,λ b=>?_⟩
  ·rintro (hh | hh)
   ·exact g3 b hb hh
   ·exact h3 b ((g4 b).2 (.inl hb)) hh
  ·rw [h4 b,g4 b,or_assoc]
 | [],_::_,_,_,_,_,_,h,_,_,_=>h.1.elim
 | _::_,[],_,_,_,_,_,h,_,_,_=>h.1.elim
theorem St.Ec {ps:List κ} {xs:List α} {p:κ} {x:α} (hs:St w0 A (iH H ps xs::H p x::L) w):St w0 A (iH H (ps++[p]) (xs++[x])::L) w:=by
 refine (St.join hs).rV λ F hF=>?_
 obtain ⟨F1,F2,h1,h2,h3,h4⟩:=hF
 exact ⟨F,Eb h1 h2 h3 h4,λ b hb=>.inl hb,iF.refl _ _⟩
theorem St.Ed {ps:List κ} {xs:List α} {i:Nat} {p:κ} {x:α} (hs:St w0 A (H p x::qz H ps xs i::L) w) (hi:i<xs.length) (hl:ps.length=xs.length):St w0 A (iH H (ps.set i p) (xs.set i x)::L) w:=
 (St.join hs).rV λ F hF=>⟨F,Bw hi hl hF,λ b hb=>.inl hb,iF.refl _ _⟩
theorem St.Sm {ps:List κ} {xs:List α} {i:Nat} (hs:St w0 A (qz H ps xs i::L) w):St w0 A (iH H (ps.eraseIdx i) (xs.eraseIdx i)::L) w:=by
 rw [List.eraseIdx_eq_take_drop_succ,List.eraseIdx_eq_take_drop_succ]
 exact hs.rV λ F hF=>⟨F,GX hF,λ b hb=>.inl hb,iF.refl _ _⟩
theorem St.apd {ps:List κ} {xs:List α} {i:Nat} {p:κ} {x:α} {Φ:World→Prop} (hs:St w0 A (iH H ps xs::L) w) (hp:ps[i]? = some p) (hx:xs[i]? = some x) (h:∀ {w F},(H p x).p w F→Φ w):Φ w:=by
 obtain ⟨F,hF,_⟩:=(hs.focus hp hx).head; exact h hF
end
end Go.Fw
namespace Go.Proofs.YtnjcingfdhjfkaaGreat
open Go.Fw
@[ext] structure dL where
 name:ByteArray
 n:Int
 at_:Int
deriving DecidableEq
instance:Flat dL where
 agg:=true
 sz:=3
 enc e:=[.string e.name,.int .i64 e.n,.int .i64 e.at_]
 val e:=.agg [.string e.name,.int .i64 e.n,.int .i64 e.at_].toArray
 pos:=by decide
 len _:=rfl
 one a v h:=by simp at h; rcases h with rfl | rfl | rfl <;> rfl
 nU _ _:=rfl
 oI h:=by cases h
instance:bZ dL dL:=jj
def xt (x:dL):Prop:=(x.name).size≤maxLen∧mI x.n∧mI x.at_
@[ext] structure dC where
 op:Int
 n:Int
 name:ByteArray
 at_:Int
deriving DecidableEq
instance:Flat dC where
 agg:=true
 sz:=4
 enc e:=[.int .i64 e.op,.int .i64 e.n,.string e.name,.int .i64 e.at_]
 val e:=.agg [.int .i64 e.op,.int .i64 e.n,.string e.name,.int .i64 e.at_].toArray
 pos:=by decide
 len _:=rfl
 one a v h:=by simp at h; rcases h with rfl | rfl | rfl | rfl <;> rfl
 nU _ _:=rfl
 oI h:=by cases h
instance:bZ dC dC:=jj
def zZ (x:dC):Prop:=mI x.op∧mI x.n∧(x.name).size≤maxLen∧mI x.at_
structure cI where
 kind:Int
 gQ:ByteArray
 name:ByteArray
 e:(List dC)
 f:(List dC)
 n:Int
 body:Int
 fK:Int
 at_:Int
deriving DecidableEq
structure bY where
 kind:Int
 gQ:ByteArray
 name:ByteArray
 e:SV
 f:SV
 n:Int
 body:Int
 fK:Int
 at_:Int
instance:Flat bY where
 agg:=true
 sz:=9
 enc e:=[.int .i64 e.kind,.string e.gQ,.string e.name,.slice e.e.a e.e.n e.e.cap,.slice e.f.a e.f.n e.f.cap,.int .i64 e.n,.int .i64 e.body,.int .i64 e.fK,.int .i64 e.at_]
 val e:=.agg [.int .i64 e.kind,.string e.gQ,.string e.name,.slice e.e.a e.e.n e.e.cap,.slice e.f.a e.f.n e.f.cap,.int .i64 e.n,.int .i64 e.body,.int .i64 e.fK,.int .i64 e.at_].toArray
 pos:=by decide
 len _:=rfl
 one a v h:=by simp at h; rcases h with rfl | rfl | rfl | rfl | rfl | rfl | rfl | rfl | rfl <;> rfl
 nU _ _:=rfl
 oI h:=by cases h
instance:bZ cI bY where
 dr w s x:=∃ (e_:SV) (f_:SV),s=(⟨x.kind,x.gQ,x.name,e_,f_,x.n,x.body,x.fK,x.at_⟩:bY)∧DL w (Flat.val e_) x.e∧DL w (Flat.val f_) x.f
 ext h e:=by
  obtain ⟨g0,g1,rfl,h0,h1⟩:=h
  exact ⟨g0,g1,rfl,h0.ext e,h1.ext e⟩
def IM (x:cI):Prop:=mI x.kind∧(x.gQ).size≤maxLen∧(x.name).size≤maxLen∧(∀ y∈x.e,zZ y)∧(∀ y∈x.f,zZ y)∧mI x.n∧mI x.body∧mI x.fK∧mI x.at_
structure dX where
 name:ByteArray
 aK:(List ByteArray)
 body:(List cI)
 at_:Int
deriving DecidableEq
structure er where
 name:ByteArray
 aK:SV
 body:SV
 at_:Int
instance:Flat er where
 agg:=true
 sz:=4
 enc e:=[.string e.name,.slice e.aK.a e.aK.n e.aK.cap,.slice e.body.a e.body.n e.body.cap,.int .i64 e.at_]
 val e:=.agg [.string e.name,.slice e.aK.a e.aK.n e.aK.cap,.slice e.body.a e.body.n e.body.cap,.int .i64 e.at_].toArray
 pos:=by decide
 len _:=rfl
 one a v h:=by simp at h; rcases h with rfl | rfl | rfl | rfl <;> rfl
 nU _ _:=rfl
 oI h:=by cases h
instance:bZ dX er where
 dr w s x:=∃ (La:SV) (afT:SV),s=(⟨x.name,La,afT,x.at_⟩:er)∧DL w (Flat.val La) x.aK∧DL w (Flat.val afT) x.body
 ext h e:=by
  obtain ⟨g0,g1,rfl,h0,h1⟩:=h
  exact ⟨g0,g1,rfl,h0.ext e,h1.ext e⟩
def xu (x:dX):Prop:=(x.name).size≤maxLen∧(∀ y∈x.aK,(λ y:ByteArray=>y.size≤maxLen) y)∧(∀ y∈x.body,IM y)∧mI x.at_
structure jG where
 e:(List dC)
 at_:Int
deriving DecidableEq
structure lQ where
 e:SV
 at_:Int
instance:Flat lQ where
 agg:=true
 sz:=2
 enc e:=[.slice e.e.a e.e.n e.e.cap,.int .i64 e.at_]
 val e:=.agg [.slice e.e.a e.e.n e.e.cap,.int .i64 e.at_].toArray
 pos:=by decide
 len _:=rfl
 one a v h:=by simp at h; rcases h with rfl | rfl <;> rfl
 nU _ _:=rfl
 oI h:=by cases h
instance:bZ jG lQ where
 dr w s x:=∃ (e_:SV),s=(⟨e_,x.at_⟩:lQ)∧DL w (Flat.val e_) x.e
 ext h e:=by
  obtain ⟨g0,rfl,h0⟩:=h
  exact ⟨g0,rfl,h0.ext e⟩
def Ee (x:jG):Prop:=(∀ y∈x.e,zZ y)∧mI x.at_
structure cY where
 lines:(List (List dL))
 jY:(List dL)
 locks:(List dL)
 threads:(List dX)
 recover:(List dX)
 cD:(List jG)
deriving DecidableEq
structure bN where
 lines:SV
 jY:SV
 locks:SV
 threads:SV
 recover:SV
 cD:SV
instance:Flat bN where
 agg:=true
 sz:=6
 enc e:=[.slice e.lines.a e.lines.n e.lines.cap,.slice e.jY.a e.jY.n e.jY.cap,.slice e.locks.a e.locks.n e.locks.cap,.slice e.threads.a e.threads.n e.threads.cap,.slice e.recover.a e.recover.n e.recover.cap,.slice e.cD.a e.cD.n e.cD.cap]
 val e:=.agg [.slice e.lines.a e.lines.n e.lines.cap,.slice e.jY.a e.jY.n e.jY.cap,.slice e.locks.a e.locks.n e.locks.cap,.slice e.threads.a e.threads.n e.threads.cap,.slice e.recover.a e.recover.n e.recover.cap,.slice e.cD.a e.cD.n e.cD.cap].toArray
 pos:=by decide
 len _:=rfl
 one a v h:=by simp at h; rcases h with rfl | rfl | rfl | rfl | rfl | rfl <;> rfl
 nU _ _:=rfl
 oI h:=by cases h
instance:bZ cY bN where
 dr w s x:=∃ (Ef:SV) (afU:SV) (Vo:SV) (wi:SV) (wj:SV) (z6:SV),s=(⟨Ef,afU,Vo,wi,wj,z6⟩:bN)∧DL w (Flat.val Ef) x.lines∧DL w (Flat.val afU) x.jY∧DL w (Flat.val Vo) x.locks∧DL w (Flat.val wi) x.threads∧DL w (Flat.val wj) x.recover∧DL w (Flat.val z6) x.cD
 ext h e:=by
  obtain ⟨g0,g1,g2,g3,g4,g5,rfl,h0,h1,h2,h3,h4,h5⟩:=h
  exact ⟨g0,g1,g2,g3,g4,g5,rfl,h0.ext e,h1.ext e,h2.ext e,h3.ext e,h4.ext e,h5.ext e⟩
def acj (x:cY):Prop:=(∀ y∈x.lines,(λ ys:(List dL)=>∀ y∈ys,xt y) y)∧(∀ y∈x.jY,xt y)∧(∀ y∈x.locks,xt y)∧(∀ y∈x.threads,xu y)∧(∀ y∈x.recover,xu y)∧(∀ y∈x.cD,Ee y)
structure Vp where
 p:cY
 aK:(List ByteArray)
deriving DecidableEq
structure wk where
 p:bN
 aK:SV
instance:Flat wk where
 agg:=true
 sz:=7
 enc e:=[.slice e.p.lines.a e.p.lines.n e.p.lines.cap,.slice e.p.jY.a e.p.jY.n e.p.jY.cap,.slice e.p.locks.a e.p.locks.n e.p.locks.cap,.slice e.p.threads.a e.p.threads.n e.p.threads.cap,.slice e.p.recover.a e.p.recover.n e.p.recover.cap,.slice e.p.cD.a e.p.cD.n e.p.cD.cap,.slice e.aK.a e.aK.n e.aK.cap]
 val e:=.agg [.slice e.p.lines.a e.p.lines.n e.p.lines.cap,.slice e.p.jY.a e.p.jY.n e.p.jY.cap,.slice e.p.locks.a e.p.locks.n e.p.locks.cap,.slice e.p.threads.a e.p.threads.n e.p.threads.cap,.slice e.p.recover.a e.p.recover.n e.p.recover.cap,.slice e.p.cD.a e.p.cD.n e.p.cD.cap,.slice e.aK.a e.aK.n e.aK.cap].toArray
 pos:=by decide
 len _:=rfl
 one a v h:=by simp at h; rcases h with rfl | rfl | rfl | rfl | rfl | rfl | rfl <;> rfl
 nU _ _:=rfl
 oI h:=by cases h
instance:bZ Vp wk where
 dr w s x:=∃ (p_:bN) (La:SV),s=(⟨p_,La⟩:wk)∧bZ.dr w p_ x.p∧DL w (Flat.val La) x.aK
 ext h e:=by
  obtain ⟨g0,g1,rfl,h0,h1⟩:=h
  exact ⟨g0,g1,rfl,bZ.ext h0 e,h1.ext e⟩
@[ext] structure nw where
 kind:Int
 n:Int
deriving DecidableEq
instance:Flat nw where
 agg:=true
 sz:=2
 enc e:=[.int .i64 e.kind,.int .i64 e.n]
 val e:=.agg [.int .i64 e.kind,.int .i64 e.n].toArray
 pos:=by decide
 len _:=rfl
 one a v h:=by simp at h; rcases h with rfl | rfl <;> rfl
 nU _ _:=rfl
 oI h:=by cases h
instance:bZ nw nw:=jj
structure aW where
 kind:Int
 a:Int
 b:Int
 e:(List nw)
 f:(List nw)
 to:Int
deriving DecidableEq
structure bU where
 kind:Int
 a:Int
 b:Int
 e:SV
 f:SV
 to:Int
instance:Flat bU where
 agg:=true
 sz:=6
 enc e:=[.int .i64 e.kind,.int .i64 e.a,.int .i64 e.b,.slice e.e.a e.e.n e.e.cap,.slice e.f.a e.f.n e.f.cap,.int .i64 e.to]
 val e:=.agg [.int .i64 e.kind,.int .i64 e.a,.int .i64 e.b,.slice e.e.a e.e.n e.e.cap,.slice e.f.a e.f.n e.f.cap,.int .i64 e.to].toArray
 pos:=by decide
 len _:=rfl
 one a v h:=by simp at h; rcases h with rfl | rfl | rfl | rfl | rfl | rfl <;> rfl
 nU _ _:=rfl
 oI h:=by cases h
instance:bZ aW bU where
 dr w s x:=∃ (e_:SV) (f_:SV),s=(⟨x.kind,x.a,x.b,e_,f_,x.to⟩:bU)∧DL w (Flat.val e_) x.e∧DL w (Flat.val f_) x.f
 ext h e:=by
  obtain ⟨g0,g1,rfl,h0,h1⟩:=h
  exact ⟨g0,g1,rfl,h0.ext e,h1.ext e⟩
structure fu where
 aK:Int
 counts:Int
 l:(List aW)
deriving DecidableEq
structure cN where
 aK:Int
 counts:Int
 l:SV
instance:Flat cN where
 agg:=true
 sz:=3
 enc e:=[.int .i64 e.aK,.int .i64 e.counts,.slice e.l.a e.l.n e.l.cap]
 val e:=.agg [.int .i64 e.aK,.int .i64 e.counts,.slice e.l.a e.l.n e.l.cap].toArray
 pos:=by decide
 len _:=rfl
 one a v h:=by simp at h; rcases h with rfl | rfl | rfl <;> rfl
 nU _ _:=rfl
 oI h:=by cases h
instance:bZ fu cN where
 dr w s x:=∃ (l_:SV),s=(⟨x.aK,x.counts,l_⟩:cN)∧DL w (Flat.val l_) x.l
 ext h e:=by
  obtain ⟨g0,rfl,h0⟩:=h
  exact ⟨g0,rfl,h0.ext e⟩
structure im where
 lines:(List Int)
 stays:Int
 dH:(List Int)
 locks:Int
 threads:(List fu)
 recover:fu
 cD:(List (List nw))
deriving DecidableEq
structure dQ where
 lines:SV
 stays:Int
 dH:SV
 locks:Int
 threads:SV
 recover:cN
 cD:SV
instance:Flat dQ where
 agg:=true
 sz:=9
 enc e:=[.slice e.lines.a e.lines.n e.lines.cap,.int .i64 e.stays,.slice e.dH.a e.dH.n e.dH.cap,.int .i64 e.locks,.slice e.threads.a e.threads.n e.threads.cap,.int .i64 e.recover.aK,.int .i64 e.recover.counts,.slice e.recover.l.a e.recover.l.n e.recover.l.cap,.slice e.cD.a e.cD.n e.cD.cap]
 val e:=.agg [.slice e.lines.a e.lines.n e.lines.cap,.int .i64 e.stays,.slice e.dH.a e.dH.n e.dH.cap,.int .i64 e.locks,.slice e.threads.a e.threads.n e.threads.cap,.int .i64 e.recover.aK,.int .i64 e.recover.counts,.slice e.recover.l.a e.recover.l.n e.recover.l.cap,.slice e.cD.a e.cD.n e.cD.cap].toArray
 pos:=by decide
 len _:=rfl
 one a v h:=by simp at h; rcases h with rfl | rfl | rfl | rfl | rfl | rfl | rfl | rfl | rfl <;> rfl
 nU _ _:=rfl
 oI h:=by cases h
instance:bZ im dQ where
 dr w s x:=∃ (Ef:SV) (Qx:SV) (wi:SV) (wj:cN) (z6:SV),s=(⟨Ef,x.stays,Qx,x.locks,wi,wj,z6⟩:dQ)∧DL w (Flat.val Ef) x.lines∧DL w (Flat.val Qx) x.dH∧DL w (Flat.val wi) x.threads∧bZ.dr w wj x.recover∧DL w (Flat.val z6) x.cD
 ext h e:=by
  obtain ⟨g0,g1,g2,g3,g4,rfl,h0,h1,h2,h3,h4⟩:=h
  exact ⟨g0,g1,g2,g3,g4,rfl,h0.ext e,h1.ext e,h2.ext e,bZ.ext h3 e,h4.ext e⟩
structure eo where
 kind:Int
 t:Int
 i:Int
 cut:(List Int)
deriving DecidableEq
structure dE where
 kind:Int
 t:Int
 i:Int
 cut:SV
instance:Flat dE where
 agg:=true
 sz:=4
 enc e:=[.int .i64 e.kind,.int .i64 e.t,.int .i64 e.i,.slice e.cut.a e.cut.n e.cut.cap]
 val e:=.agg [.int .i64 e.kind,.int .i64 e.t,.int .i64 e.i,.slice e.cut.a e.cut.n e.cut.cap].toArray
 pos:=by decide
 len _:=rfl
 one a v h:=by simp at h; rcases h with rfl | rfl | rfl | rfl <;> rfl
 nU _ _:=rfl
 oI h:=by cases h
instance:bZ eo dE where
 dr w s x:=∃ (ape:SV),s=(⟨x.kind,x.t,x.i,ape⟩:dE)∧DL w (Flat.val ape) x.cut
 ext h e:=by
  obtain ⟨g0,rfl,h0⟩:=h
  exact ⟨g0,rfl,h0.ext e⟩
def Qy (x:eo):Prop:=mI x.kind∧mI x.t∧mI x.i∧(∀ y∈x.cut,mI y)
structure F8 where
 kind:Int
 n:Int
 p:eo
deriving DecidableEq
structure uc where
 kind:Int
 n:Int
 p:dE
instance:Flat uc where
 agg:=true
 sz:=6
 enc e:=[.int .i64 e.kind,.int .i64 e.n,.int .i64 e.p.kind,.int .i64 e.p.t,.int .i64 e.p.i,.slice e.p.cut.a e.p.cut.n e.p.cut.cap]
 val e:=.agg [.int .i64 e.kind,.int .i64 e.n,.int .i64 e.p.kind,.int .i64 e.p.t,.int .i64 e.p.i,.slice e.p.cut.a e.p.cut.n e.p.cut.cap].toArray
 pos:=by decide
 len _:=rfl
 one a v h:=by simp at h; rcases h with rfl | rfl | rfl | rfl | rfl | rfl <;> rfl
 nU _ _:=rfl
 oI h:=by cases h
instance:bZ F8 uc where
 dr w s x:=∃ (p_:dE),s=(⟨x.kind,x.n,p_⟩:uc)∧bZ.dr w p_ x.p
 ext h e:=by
  obtain ⟨g0,rfl,h0⟩:=h
  exact ⟨g0,rfl,bZ.ext h0 e⟩
def aiS (x:F8):Prop:=mI x.kind∧mI x.n∧Qy x.p
@[ext] structure cG where
 kind:Int
 t:Int
 a:Int
 n:Int
 m:Int
deriving DecidableEq
instance:Flat cG where
 agg:=true
 sz:=5
 enc e:=[.int .i64 e.kind,.int .i64 e.t,.int .i64 e.a,.int .i64 e.n,.int .i64 e.m]
 val e:=.agg [.int .i64 e.kind,.int .i64 e.t,.int .i64 e.a,.int .i64 e.n,.int .i64 e.m].toArray
 pos:=by decide
 len _:=rfl
 one a v h:=by simp at h; rcases h with rfl | rfl | rfl | rfl | rfl <;> rfl
 nU _ _:=rfl
 oI h:=by cases h
instance:bZ cG cG:=jj
@[ext] structure iI where
 bW:Int
 fault:Int
 t:Int
 done:Bool
 stuck:Bool
deriving DecidableEq
instance:Flat iI where
 agg:=true
 sz:=5
 enc e:=[.int .i64 e.bW,.int .i64 e.fault,.int .i64 e.t,.bool e.done,.bool e.stuck]
 val e:=.agg [.int .i64 e.bW,.int .i64 e.fault,.int .i64 e.t,.bool e.done,.bool e.stuck].toArray
 pos:=by decide
 len _:=rfl
 one a v h:=by simp at h; rcases h with rfl | rfl | rfl | rfl | rfl <;> rfl
 nU _ _:=rfl
 oI h:=by cases h
instance:bZ iI iI:=jj
@[ext] structure bJ where
 kind:Int
 line:Int
 cell:Int
 n:Int
deriving DecidableEq
instance:Flat bJ where
 agg:=true
 sz:=4
 enc e:=[.int .i64 e.kind,.int .i64 e.line,.int .i64 e.cell,.int .i64 e.n]
 val e:=.agg [.int .i64 e.kind,.int .i64 e.line,.int .i64 e.cell,.int .i64 e.n].toArray
 pos:=by decide
 len _:=rfl
 one a v h:=by simp at h; rcases h with rfl | rfl | rfl | rfl <;> rfl
 nU _ _:=rfl
 oI h:=by cases h
instance:bZ bJ bJ:=jj
@[ext] structure bF where
 kind:Int
 text:ByteArray
 n:Int
 at_:Int
deriving DecidableEq
instance:Flat bF where
 agg:=true
 sz:=4
 enc e:=[.int .i64 e.kind,.string e.text,.int .i64 e.n,.int .i64 e.at_]
 val e:=.agg [.int .i64 e.kind,.string e.text,.int .i64 e.n,.int .i64 e.at_].toArray
 pos:=by decide
 len _:=rfl
 one a v h:=by simp at h; rcases h with rfl | rfl | rfl | rfl <;> rfl
 nU _ _:=rfl
 oI h:=by cases h
instance:bZ bF bF:=jj
@[ext] structure jr where
 cell:Int
 n:Int
deriving DecidableEq
instance:Flat jr where
 agg:=true
 sz:=2
 enc e:=[.int .i64 e.cell,.int .i64 e.n]
 val e:=.agg [.int .i64 e.cell,.int .i64 e.n].toArray
 pos:=by decide
 len _:=rfl
 one a v h:=by simp at h; rcases h with rfl | rfl <;> rfl
 nU _ _:=rfl
 oI h:=by cases h
instance:bZ jr jr:=jj
def Sn (p:Bool):Int:=if p then 1 else 0
def afV (a b:Int):Int:=rf (a.tdiv b)
def CG (op a:Int):Int:=if op=3 then rf (0 - a) else if op=4 then Sn (decide (a=0)) else 0
def Lb (op:Int):Int:=if op=3∨op=4 then 0 else 1
def sY (op a b:Int):Int:=
 if op=5 then rf (a+b) else if op=6 then rf (a - b) else if op=7 then rf (a * b) else if op=8 then afV a b else if op=9 then a.tmod b
 else if op=10 then Sn (decide (a=b)) else if op=11 then Sn (decide (¬ a=b)) else if op=12 then Sn (decide (a<b)) else if op=13 then Sn (decide (a≤b))
 else if op=14 then Sn (decide (¬ a=0) && decide (¬ b=0)) else if op=15 then Sn (decide (¬ a=0) || decide (¬ b=0)) else 0
def qh (op b:Int):Int:=if op<5∨15<op then 1 else if (op=8∨op=9)∧b=0 then 12 else 0
def qi (op a b:Int):Int:=if qh op b=0 then sY op a b else 0
theorem C228 (p:Bool) (w:World):CR 228 [.bool p] w (λ v w'=>v = .int .i64 (Sn p)∧Ext w w'):=by
 have hs:=St.start w;refine abl _ _ _ ?_;unfold S228;refine aX (λ Eg=>?_) (λ Eg=>?_)
 ·rw [Eg];exact ⟨rfl,hs.aF⟩
 ·rw [Eg];exact ⟨rfl,hs.aF⟩
theorem C217 (p:Bool) (w:World):CR 217 [.bool p] w (λ v w'=>v = .int .i64 (Sn p)∧Ext w w'):=by
 have hs:=St.start w;refine abb _ _ _ ?_;unfold S217;refine aX (λ Eg=>?_) (λ Eg=>?_)
 ·rw [Eg];exact ⟨rfl,hs.aF⟩
 ·rw [Eg];exact ⟨rfl,hs.aF⟩
theorem C218 (a:Int) (w:World):CR 218 [.int .i64 a] w (λ v w'=>v = .bool (decide (¬ a=0))∧Ext w w'):=by
 have hs:=St.start w;refine abc _ _ _ ?_;unfold S218;refine cR ?_;exact ⟨rfl,hs.aF⟩
theorem C201 (op a:Int) (w:World):CR 201 [.int .i64 op,.int .i64 a] w (λ v w'=>v = .tuple #[.int .i64 (CG op a),.int .i64 (Lb op)]∧Ext w w'):=by
 have hs:=St.start w;refine aaY _ _ _ _ ?_;unfold S201;refine aH (aC (λ iX=>?_) (λ iX=>?_))
 ·refine D8 ?_;unfold CG Lb
  first | (rw [if_pos iX,if_pos (.inl iX)]; exact ⟨rfl,hs.aF⟩) | (rw [if_neg iX,if_pos gW,if_pos (.inr gW)]; exact ⟨rfl,hs.aF⟩) | (rw [if_neg iX,if_neg gW,if_neg (by omega)]; exact ⟨rfl,hs.aF⟩)
 ·refine aH (aC (λ gW=>?_) (λ gW=>?_))
  ·refine aH (aZ aop hs (C228 _ _) (λ w1 he hs=>?_));unfold CG Lb
   first | (rw [if_pos iX,if_pos (.inl iX)]; exact ⟨rfl,hs.aF⟩) | (rw [if_neg iX,if_pos gW,if_pos (.inr gW)]; exact ⟨rfl,hs.aF⟩) | (rw [if_neg iX,if_neg gW,if_neg (by omega)]; exact ⟨rfl,hs.aF⟩)
  ·unfold CG Lb
   first | (rw [if_pos iX,if_pos (.inl iX)]; exact ⟨rfl,hs.aF⟩) | (rw [if_neg iX,if_pos gW,if_pos (.inr gW)]; exact ⟨rfl,hs.aF⟩) | (rw [if_neg iX,if_neg gW,if_neg (by omega)]; exact ⟨rfl,hs.aF⟩)
theorem C173 (op a:Int) (w:World):CR 173 [.int .i64 op,.int .i64 a] w (λ v w'=>v = .tuple #[.int .i64 (CG op a),.int .i64 (Lb op)]∧Ext w w'):=by
 have hs:=St.start w;refine aaA _ _ _ _ ?_;unfold S173;refine aH (aC (λ gu=>?_) (λ gu=>?_))
 ·refine Vi ?_;unfold CG Lb
  first | (rw [if_pos gu,if_pos (.inl gu)]; exact ⟨rfl,hs.aF⟩) | (rw [if_neg gu,if_pos j8,if_pos (.inr j8)]; exact ⟨congrArg (λ p=>Value.tuple #[.int .i64 (Sn p),.int .i64 0]) (by simp),hs.aF⟩) | (rw [if_neg gu,if_neg j8,if_neg (by omega)]; exact ⟨rfl,hs.aF⟩)
 ·refine aH (aC (λ j8=>?_) (λ j8=>?_))
  ·refine aZ Kp hs (C218 _ _) (λ w1 he hs=>?_)
   first | refine DK ?_ | refine cC ?_
   refine aZ afz hs (C217 _ _) (λ w2 he hs=>?_);unfold CG Lb
   first | (rw [if_pos gu,if_pos (.inl gu)]; exact ⟨rfl,hs.aF⟩) | (rw [if_neg gu,if_pos j8,if_pos (.inr j8)]; exact ⟨congrArg (λ p=>Value.tuple #[.int .i64 (Sn p),.int .i64 0]) (by simp),hs.aF⟩) | (rw [if_neg gu,if_neg j8,if_neg (by omega)]; exact ⟨rfl,hs.aF⟩)
  ·unfold CG Lb
   first | (rw [if_pos gu,if_pos (.inl gu)]; exact ⟨rfl,hs.aF⟩) | (rw [if_neg gu,if_pos j8,if_pos (.inr j8)]; exact ⟨congrArg (λ p=>Value.tuple #[.int .i64 (Sn p),.int .i64 0]) (by simp),hs.aF⟩) | (rw [if_neg gu,if_neg j8,if_neg (by omega)]; exact ⟨rfl,hs.aF⟩)
theorem rh:apb PG 289 16 288:=⟨by kernel_rfl,by kernel_rfl⟩
def apf (b1 b2 b3 b4 b5 b6:Nat) (w:World):Prop:=
 Cell w b1 0 (.func (.func 243) #[] #[])∧Cell w b2 0 (.func (.func 244) #[] #[])∧Cell w b3 0 (.func (.func 245) #[] #[])∧Cell w b4 0 (.func (.func 246) #[] #[])∧Cell w b5 0 (.func (.func 247) #[] #[])∧Cell w b6 0 (.func (.func 248) #[] #[])
def opsV (b1 b2 b3 b4 b5 b6:Nat):Value:=
 .agg [.nilFunc,.nilFunc,.nilFunc,.nilFunc,.nilFunc,.func (.func 238) #[] #[],.func (.func 239) #[] #[],.func (.func 240) #[] #[],.func (.func 241) #[] #[],.func (.func 242) #[] #[],
  .func (.func 237) #[] #[.pointer (some ⟨b1,0,none⟩)],.func (.func 237) #[] #[.pointer (some ⟨b2,0,none⟩)],.func (.func 237) #[] #[.pointer (some ⟨b3,0,none⟩)],.func (.func 237) #[] #[.pointer (some ⟨b4,0,none⟩)],
  .func (.func 237) #[] #[.pointer (some ⟨b5,0,none⟩)],.func (.func 237) #[] #[.pointer (some ⟨b6,0,none⟩)]].toArray
def Fb2 (f:Value) (g:Int→Int→Bool):Prop:=∃ g0,f = .func (.func g0) #[] #[]∧Plain PG g0∧
 ∀ a b w1,Calls PG g0 [.int .i64 a,.int .i64 b].toArray w1 (qf λ v w2=>v = .bool (g a b)∧Ext w1 w2)
theorem C238 (a b:Int) (w:World):CR 238 [.int .i64 a,.int .i64 b] w (λ v w'=>v = .int .i64 (rf (a+b))∧Ext w w'):=by
 have hs:=St.start w;refine abw _ _ _ _ ?_;unfold S238;refine KT ?_;exact ⟨rfl,hs.aF⟩
theorem C239 (a b:Int) (w:World):CR 239 [.int .i64 a,.int .i64 b] w (λ v w'=>v = .int .i64 (rf (a - b))∧Ext w w'):=by
 have hs:=St.start w;refine abx _ _ _ _ ?_;unfold S239;refine D8 ?_;exact ⟨rfl,hs.aF⟩
theorem C240 (a b:Int) (w:World):CR 240 [.int .i64 a,.int .i64 b] w (λ v w'=>v = .int .i64 (rf (a * b))∧Ext w w'):=by
 have hs:=St.start w;refine aby _ _ _ _ ?_;unfold S240;refine KU ?_;exact ⟨rfl,hs.aF⟩
theorem C241 (a b:Int) (w:World) (h:b≠0):CR 241 [.int .i64 a,.int .i64 b] w (λ v w'=>v = .int .i64 (afV a b)∧Ext w w'):=by
 have hs:=St.start w;refine abz _ _ _ _ ?_;unfold S241;refine Vj h ?_;exact ⟨rfl,hs.aF⟩
theorem C242 (a b:Int) (w:World) (h:b≠0):CR 242 [.int .i64 a,.int .i64 b] w (λ v w'=>v = .int .i64 (a.tmod b)∧Ext w w'):=by
 have hs:=St.start w;refine abA _ _ _ _ ?_;unfold S242;refine Vk h ?_;exact ⟨rfl,hs.aF⟩
theorem C243 (a b:Int) (w:World):CR 243 [.int .i64 a,.int .i64 b] w (λ v w'=>v = .bool (decide (a=b))∧Ext w w'):=by
 have hs:=St.start w;refine abB _ _ _ _ ?_;unfold S243;refine aH ?_;exact ⟨rfl,hs.aF⟩
theorem C244 (a b:Int) (w:World):CR 244 [.int .i64 a,.int .i64 b] w (λ v w'=>v = .bool (decide (¬ a=b))∧Ext w w'):=by
 have hs:=St.start w;refine abC _ _ _ _ ?_;unfold S244;refine cR ?_;exact ⟨rfl,hs.aF⟩
theorem C245 (a b:Int) (w:World):CR 245 [.int .i64 a,.int .i64 b] w (λ v w'=>v = .bool (decide (a<b))∧Ext w w'):=by
 have hs:=St.start w;refine abD _ _ _ _ ?_;unfold S245;refine aR ?_;exact ⟨rfl,hs.aF⟩
theorem C246 (a b:Int) (w:World):CR 246 [.int .i64 a,.int .i64 b] w (λ v w'=>v = .bool (decide (a≤b))∧Ext w w'):=by
 have hs:=St.start w;refine abE _ _ _ _ ?_;unfold S246;refine kj ?_;exact ⟨rfl,hs.aF⟩
theorem C247 (a b:Int) (w:World):CR 247 [.int .i64 a,.int .i64 b] w (λ v w'=>v = .bool (decide (¬ a=0) && decide (¬ b=0))∧Ext w w'):=by
 have hs:=St.start w;refine abF _ _ _ _ ?_;unfold S247;refine ⟨_,?_,λ _ _ h=>h⟩;refine aZ Kp hs (C218 _ _) (λ w1 he hs=>aC (λ oJ=>?_) (λ oJ=>?_))
 ·refine aZ Kp hs (C218 _ _) (λ w2 he hs=>?_);intro fD
  first | (rw [decide_eq_true oJ]; exact ⟨rfl,hs.aF⟩) | (rw [decide_eq_false oJ]; exact ⟨rfl,hs.aF⟩)
 ·intro fD
  first | (rw [decide_eq_true oJ]; exact ⟨rfl,hs.aF⟩) | (rw [decide_eq_false oJ]; exact ⟨rfl,hs.aF⟩)
theorem C248 (a b:Int) (w:World):CR 248 [.int .i64 a,.int .i64 b] w (λ v w'=>v = .bool (decide (¬ a=0) || decide (¬ b=0))∧Ext w w'):=by
 have hs:=St.start w;refine abG _ _ _ _ ?_;unfold S248;refine ⟨_,?_,λ _ _ h=>h⟩;refine aZ Kp hs (C218 _ _) (λ w1 he hs=>aC (λ oJ=>?_) (λ oJ=>?_))
 ·intro fD
  first | (rw [decide_eq_true oJ]; exact ⟨rfl,hs.aF⟩) | (rw [decide_eq_false oJ]; exact ⟨rfl,hs.aF⟩)
 ·refine aZ Kp hs (C218 _ _) (λ w2 he hs=>?_);intro fD
  first | (rw [decide_eq_true oJ]; exact ⟨rfl,hs.aF⟩) | (rw [decide_eq_false oJ]; exact ⟨rfl,hs.aF⟩)
theorem C236 (g:Nat) (w:World):CR 236 [.func (.func g) #[] #[]] w (λ v w'=>∃ b,v = .func (.func 237) #[] #[.pointer (some ⟨b,0,none⟩)]∧lY (cH b [.func (.func g) #[] #[]]) w w'):=by
 have hs:=St.start w;refine abu _ _ _ ?_;unfold S236;refine tM hs rfl (λ apg w1 hs=>?_);exact ⟨apg,rfl,hs.fresh⟩
theorem C237 (a b:Int) (b2:Nat) (fv:Value) (g:Int→Int→Bool) (w:World) (hc:Cell w b2 0 fv) (hf:Fb2 fv g):CR 237 [.int .i64 a,.int .i64 b,.pointer (some ⟨b2,0,none⟩)] w (λ v w'=>v = .int .i64 (Sn (g a b))∧Ext w w'):=by
 obtain ⟨g0,rfl,vv,l4⟩:=hf;have hs:=St.start w;refine abv _ _ _ _ _ ?_;unfold S237;refine cE aoP (hc.ext hs.aF) (gh (first:=[]) (cap:=[]) vv (l4 a b _) ?_);rintro _ w1 ⟨rfl,he⟩;have hs:=hs.ext he;refine aZ afz hs (C217 _ _) (λ w2 he hs=>?_);exact ⟨rfl,hs.aF⟩
theorem C219 (w:World):CR 219 [] w (λ v w'=>∃ b1 b2 b3 b4 b5 b6,v=opsV b1 b2 b3 b4 b5 b6∧lY (eL (apf b1 b2 b3 b4 b5 b6)) w w'):=by
 have hs:=St.start w;refine abd _ _ ?_;unfold S219;refine aN hs Qt (λ awL w1 hs=>aN hs Qt (λ b_l1 w2 hs=>oc rh (by omega) (by omega) (aV hs wc (eK rfl) (rfl) (λ w3 hs=>oc rh (by omega) (by omega) (aV hs wc (eK rfl) (rfl) (λ w4 hs=>oc rh (by omega) (by omega) (aV hs wc (eK rfl) (rfl) (λ w5 hs=>oc rh (by omega) (by omega) (aV hs wc (eK rfl) (rfl) (λ w6 hs=>oc rh (by omega) (by omega) (aV hs wc (eK rfl) (rfl) (λ w7 hs=>gh (first:=[]) (cap:=[]) GJ (C236 243 _) ?_))))))))))));rintro _ w8 ⟨Eh,rfl,cA⟩;have hs:=hs.made cA;refine oc rh (by omega) (by omega) (aV hs.p1 wc (eK rfl) (rfl) (λ w9 hs=>gh (first:=[]) (cap:=[]) GJ (C236 244 _) ?_))
 rintro _ pP ⟨Vq,rfl,cA⟩;have hs:=hs.made cA;refine oc rh (by omega) (by omega) (aV hs.p1 wc (eK rfl) (rfl) (λ sZ hs=>gh (first:=[]) (cap:=[]) GJ (C236 245 _) ?_));rintro _ vy ⟨afW,rfl,cA⟩;have hs:=hs.made cA;refine oc rh (by omega) (by omega) (aV hs.p1 wc (eK rfl) (rfl) (λ vz hs=>gh (first:=[]) (cap:=[]) GJ (C236 246 _) ?_));rintro _ su ⟨Vr,rfl,cA⟩;have hs:=hs.made cA;refine oc rh (by omega) (by omega) (aV hs.p1 wc (eK rfl) (rfl) (λ wm hs=>gh (first:=[]) (cap:=[]) GJ (C236 247 _) ?_));rintro _ zq ⟨afX,rfl,cA⟩;have hs:=hs.made cA;refine oc rh (by omega) (by omega) (aV hs.p1 wc (eK rfl) (rfl) (λ CH hs=>gh (first:=[]) (cap:=[]) GJ (C236 248 _) ?_))
 rintro _ IN ⟨Ck,rfl,cA⟩;have hs:=hs.made cA;refine oc rh (by omega) (by omega) (aV hs.p1 wc (eK rfl) (rfl) (λ JQ hs=>qX US hs.hb rfl (pF hs.p7 US rfl (by decide) (by simp [rW,ib]) (λ Lc hs=>qX US hs.hb rfl ?_))));have hs:=(((((((((((((hs.drop)).drop).p1).p2).p3).p4).p5).qP).p1).qP).p2).qP).p3;have hs:=hs.qP.p4.qP.p5.qP.fP.fP.fP.fP.fP;refine ⟨Eh,Vq,afW,Vr,afX,Ck,rfl,(hs.dU (Ψ:=apf Eh Vq afW Vr afX Ck) λ w h=>?_).fresh⟩;obtain ⟨⟨⟨⟨⟨h6,h5⟩,h4⟩,h3⟩,h2⟩,h1⟩:=h;exact ⟨h1.cell rfl,h2.cell rfl,h3.cell rfl,h4.cell rfl,h5.cell rfl,h6.cell rfl⟩
theorem fb1:Fb2 (.func (.func 243) #[] #[]) (λ a b=>decide (a=b)):=⟨243,rfl,aow,λ a b w1=>C243 a b w1⟩
theorem fb2:Fb2 (.func (.func 244) #[] #[]) (λ a b=>decide (¬ a=b)):=⟨244,rfl,aox,λ a b w1=>C244 a b w1⟩
theorem fb3:Fb2 (.func (.func 245) #[] #[]) (λ a b=>decide (a<b)):=⟨245,rfl,aoy,λ a b w1=>C245 a b w1⟩
theorem fb4:Fb2 (.func (.func 246) #[] #[]) (λ a b=>decide (a≤b)):=⟨246,rfl,aoz,λ a b w1=>C246 a b w1⟩
theorem fb5:Fb2 (.func (.func 247) #[] #[]) (λ a b=>decide (¬ a=0) && decide (¬ b=0)):=⟨247,rfl,aoA,λ a b w1=>C247 a b w1⟩
theorem fb6:Fb2 (.func (.func 248) #[] #[]) (λ a b=>decide (¬ a=0) || decide (¬ b=0)):=⟨248,rfl,aoB,λ a b w1=>C248 a b w1⟩
theorem C175 (op a b:Int) (w:World):CR 175 [.int .i64 op,.int .i64 a,.int .i64 b] w (λ v w'=>v = .tuple #[.int .i64 (qi op a b),.int .i64 (qh op b)]∧Ext w w'):=by
 have hs:=St.start w;refine aaC _ _ _ _ _ ?_;unfold S175;refine ⟨_,?_,λ _ _ h=>h⟩;refine aR (aC (λ fR=>?_) (λ fR=>?_))
 ·intro fD;refine nT ?_
  first | exact ⟨rfl,hs.aF⟩ | (subst_vars; exact ⟨rfl,hs.aF⟩) | (refine ⟨?_,hs.aF⟩; unfold qi qh sY; first | (rw [if_pos (show op<5∨15<op by omega)]; rfl) | simp [*])
 ·refine dK ?_;intro fD;refine aC (λ gX=>?_) (λ gX=>?_)
  ·first | exact ⟨rfl,hs.aF⟩ | (subst_vars; exact ⟨rfl,hs.aF⟩) | (refine ⟨?_,hs.aF⟩; unfold qi qh sY; first | (rw [if_pos (show op<5∨15<op by omega)]; rfl) | simp [*])
  ·refine eA aoh (C219 _) ?_;rintro _ w2 ⟨b1,b2,b3,b4,b5,b6,rfl,cA⟩;have hs:=hs.made cA;obtain rfl | rfl | rfl | rfl | rfl | rfl | rfl | rfl | rfl | rfl | rfl | rfl | rfl | rfl | rfl | rfl:op=0∨op=1∨op=2∨op=3∨op=4∨op=5∨op=6∨op=7∨op=8∨op=9∨op=10∨op=11∨op=12∨op=13∨op=14∨op=15:=by omega
   ·refine pop (v:=.nilFunc) (by kernel_rfl) (pop (v:=.bool true) (by kernel_rfl) (nT ?_))
    first | exact ⟨rfl,hs.aF⟩ | (subst_vars; exact ⟨rfl,hs.aF⟩) | (refine ⟨?_,hs.aF⟩; unfold qi qh sY; first | (rw [if_pos (show op<5∨15<op by omega)]; rfl) | simp [*])
   ·refine pop (v:=.nilFunc) (by kernel_rfl) (pop (v:=.bool true) (by kernel_rfl) (nT ?_))
    first | exact ⟨rfl,hs.aF⟩ | (subst_vars; exact ⟨rfl,hs.aF⟩) | (refine ⟨?_,hs.aF⟩; unfold qi qh sY; first | (rw [if_pos (show op<5∨15<op by omega)]; rfl) | simp [*])
   ·refine pop (v:=.nilFunc) (by kernel_rfl) (pop (v:=.bool true) (by kernel_rfl) (nT ?_))
    first | exact ⟨rfl,hs.aF⟩ | (subst_vars; exact ⟨rfl,hs.aF⟩) | (refine ⟨?_,hs.aF⟩; unfold qi qh sY; first | (rw [if_pos (show op<5∨15<op by omega)]; rfl) | simp [*])
   ·refine pop (v:=.nilFunc) (by kernel_rfl) (pop (v:=.bool true) (by kernel_rfl) (nT ?_))
    first | exact ⟨rfl,hs.aF⟩ | (subst_vars; exact ⟨rfl,hs.aF⟩) | (refine ⟨?_,hs.aF⟩; unfold qi qh sY; first | (rw [if_pos (show op<5∨15<op by omega)]; rfl) | simp [*])
   ·refine pop (v:=.nilFunc) (by kernel_rfl) (pop (v:=.bool true) (by kernel_rfl) (nT ?_))
    first | exact ⟨rfl,hs.aF⟩ | (subst_vars; exact ⟨rfl,hs.aF⟩) | (refine ⟨?_,hs.aF⟩; unfold qi qh sY; first | (rw [if_pos (show op<5∨15<op by omega)]; rfl) | simp [*])
   ·refine pop (v:=.func (.func 238) #[] #[]) (by kernel_rfl) (pop (v:=.bool false) (by kernel_rfl) (fJ ?_));refine ⟨_,?_,λ _ _ h=>h⟩;refine aH (fS (by decide) (aH (fS (by decide) ?_)));intro jH;refine fJ (gh (first:=[]) (cap:=[]) aor (C238 a b _) ?_);rintro _ w4 ⟨rfl,he⟩;have hs:=hs.ext he
    first | exact ⟨rfl,hs.aF⟩ | (subst_vars; exact ⟨rfl,hs.aF⟩) | (refine ⟨?_,hs.aF⟩; unfold qi qh sY; first | (rw [if_pos (show op<5∨15<op by omega)]; rfl) | simp [*])
   ·refine pop (v:=.func (.func 239) #[] #[]) (by kernel_rfl) (pop (v:=.bool false) (by kernel_rfl) (fJ ?_));refine ⟨_,?_,λ _ _ h=>h⟩;refine aH (fS (by decide) (aH (fS (by decide) ?_)));intro jH;refine fJ (gh (first:=[]) (cap:=[]) aos (C239 a b _) ?_);rintro _ w4 ⟨rfl,he⟩;have hs:=hs.ext he
    first | exact ⟨rfl,hs.aF⟩ | (subst_vars; exact ⟨rfl,hs.aF⟩) | (refine ⟨?_,hs.aF⟩; unfold qi qh sY; first | (rw [if_pos (show op<5∨15<op by omega)]; rfl) | simp [*])
   ·refine pop (v:=.func (.func 240) #[] #[]) (by kernel_rfl) (pop (v:=.bool false) (by kernel_rfl) (fJ ?_));refine ⟨_,?_,λ _ _ h=>h⟩;refine aH (fS (by decide) (aH (fS (by decide) ?_)));intro jH;refine fJ (gh (first:=[]) (cap:=[]) aot (C240 a b _) ?_);rintro _ w4 ⟨rfl,he⟩;have hs:=hs.ext he
    first | exact ⟨rfl,hs.aF⟩ | (subst_vars; exact ⟨rfl,hs.aF⟩) | (refine ⟨?_,hs.aF⟩; unfold qi qh sY; first | (rw [if_pos (show op<5∨15<op by omega)]; rfl) | simp [*])
   ·refine pop (v:=.func (.func 241) #[] #[]) (by kernel_rfl) (pop (v:=.bool false) (by kernel_rfl) (fJ ?_));refine ⟨_,?_,λ _ _ h=>h⟩;refine aH (gJ (by decide) (aH ?_));intro jH;refine aC (λ gz=>?_) (λ gz=>?_)
    ·first | exact ⟨rfl,hs.aF⟩ | (subst_vars; exact ⟨rfl,hs.aF⟩) | (refine ⟨?_,hs.aF⟩; unfold qi qh sY; first | (rw [if_pos (show op<5∨15<op by omega)]; rfl) | simp [*])
    ·refine gh (first:=[]) (cap:=[]) aou (C241 a b _ gz) ?_;rintro _ w4 ⟨rfl,he⟩;have hs:=hs.ext he
     first | exact ⟨rfl,hs.aF⟩ | (subst_vars; exact ⟨rfl,hs.aF⟩) | (refine ⟨?_,hs.aF⟩; unfold qi qh sY; first | (rw [if_pos (show op<5∨15<op by omega)]; rfl) | simp [*])
   ·refine pop (v:=.func (.func 242) #[] #[]) (by kernel_rfl) (pop (v:=.bool false) (by kernel_rfl) (fJ ?_));refine ⟨_,?_,λ _ _ h=>h⟩;refine aH (fS (by decide) (aH (gJ (by decide) (aH ?_))));intro jH;refine aC (λ gz=>?_) (λ gz=>?_)
    ·first | exact ⟨rfl,hs.aF⟩ | (subst_vars; exact ⟨rfl,hs.aF⟩) | (refine ⟨?_,hs.aF⟩; unfold qi qh sY; first | (rw [if_pos (show op<5∨15<op by omega)]; rfl) | simp [*])
    ·refine gh (first:=[]) (cap:=[]) aov (C242 a b _ gz) ?_;rintro _ w4 ⟨rfl,he⟩;have hs:=hs.ext he
     first | exact ⟨rfl,hs.aF⟩ | (subst_vars; exact ⟨rfl,hs.aF⟩) | (refine ⟨?_,hs.aF⟩; unfold qi qh sY; first | (rw [if_pos (show op<5∨15<op by omega)]; rfl) | simp [*])
   ·refine pop (v:=.func (.func 237) #[] #[.pointer (some ⟨b1,0,none⟩)]) (by kernel_rfl) (pop (v:=.bool false) (by kernel_rfl) (fJ ?_));refine ⟨_,?_,λ _ _ h=>h⟩;refine aH (fS (by decide) (aH (fS (by decide) ?_)));intro jH;refine fJ ?_;obtain ⟨o1,o2,o3,o4,o5,o6⟩:=hs.eL;refine gh (first:=[]) (cap:=[.pointer (some ⟨b1,0,none⟩)]) GK (C237 a b b1 _ _ _ o1 fb1) ?_;rintro _ w4 ⟨rfl,he⟩;have hs:=hs.ext he
    first | exact ⟨rfl,hs.aF⟩ | (subst_vars; exact ⟨rfl,hs.aF⟩) | (refine ⟨?_,hs.aF⟩; unfold qi qh sY; first | (rw [if_pos (show op<5∨15<op by omega)]; rfl) | simp [*])
   ·refine pop (v:=.func (.func 237) #[] #[.pointer (some ⟨b2,0,none⟩)]) (by kernel_rfl) (pop (v:=.bool false) (by kernel_rfl) (fJ ?_));refine ⟨_,?_,λ _ _ h=>h⟩;refine aH (fS (by decide) (aH (fS (by decide) ?_)));intro jH;refine fJ ?_;obtain ⟨o1,o2,o3,o4,o5,o6⟩:=hs.eL;refine gh (first:=[]) (cap:=[.pointer (some ⟨b2,0,none⟩)]) GK (C237 a b b2 _ _ _ o2 fb2) ?_;rintro _ w4 ⟨rfl,he⟩;have hs:=hs.ext he
    first | exact ⟨rfl,hs.aF⟩ | (subst_vars; exact ⟨rfl,hs.aF⟩) | (refine ⟨?_,hs.aF⟩; unfold qi qh sY; first | (rw [if_pos (show op<5∨15<op by omega)]; rfl) | simp [*])
   ·refine pop (v:=.func (.func 237) #[] #[.pointer (some ⟨b3,0,none⟩)]) (by kernel_rfl) (pop (v:=.bool false) (by kernel_rfl) (fJ ?_));refine ⟨_,?_,λ _ _ h=>h⟩;refine aH (fS (by decide) (aH (fS (by decide) ?_)));intro jH;refine fJ ?_;obtain ⟨o1,o2,o3,o4,o5,o6⟩:=hs.eL;refine gh (first:=[]) (cap:=[.pointer (some ⟨b3,0,none⟩)]) GK (C237 a b b3 _ _ _ o3 fb3) ?_;rintro _ w4 ⟨rfl,he⟩;have hs:=hs.ext he
    first | exact ⟨rfl,hs.aF⟩ | (subst_vars; exact ⟨rfl,hs.aF⟩) | (refine ⟨?_,hs.aF⟩; unfold qi qh sY; first | (rw [if_pos (show op<5∨15<op by omega)]; rfl) | simp [*])
   ·refine pop (v:=.func (.func 237) #[] #[.pointer (some ⟨b4,0,none⟩)]) (by kernel_rfl) (pop (v:=.bool false) (by kernel_rfl) (fJ ?_));refine ⟨_,?_,λ _ _ h=>h⟩;refine aH (fS (by decide) (aH (fS (by decide) ?_)));intro jH;refine fJ ?_;obtain ⟨o1,o2,o3,o4,o5,o6⟩:=hs.eL;refine gh (first:=[]) (cap:=[.pointer (some ⟨b4,0,none⟩)]) GK (C237 a b b4 _ _ _ o4 fb4) ?_;rintro _ w4 ⟨rfl,he⟩;have hs:=hs.ext he
    first | exact ⟨rfl,hs.aF⟩ | (subst_vars; exact ⟨rfl,hs.aF⟩) | (refine ⟨?_,hs.aF⟩; unfold qi qh sY; first | (rw [if_pos (show op<5∨15<op by omega)]; rfl) | simp [*])
   ·refine pop (v:=.func (.func 237) #[] #[.pointer (some ⟨b5,0,none⟩)]) (by kernel_rfl) (pop (v:=.bool false) (by kernel_rfl) (fJ ?_));refine ⟨_,?_,λ _ _ h=>h⟩;refine aH (fS (by decide) (aH (fS (by decide) ?_)));intro jH;refine fJ ?_;obtain ⟨o1,o2,o3,o4,o5,o6⟩:=hs.eL;refine gh (first:=[]) (cap:=[.pointer (some ⟨b5,0,none⟩)]) GK (C237 a b b5 _ _ _ o5 fb5) ?_;rintro _ w4 ⟨rfl,he⟩;have hs:=hs.ext he
    first | exact ⟨rfl,hs.aF⟩ | (subst_vars; exact ⟨rfl,hs.aF⟩) | (refine ⟨?_,hs.aF⟩; unfold qi qh sY; first | (rw [if_pos (show op<5∨15<op by omega)]; rfl) | simp [*])
   ·refine pop (v:=.func (.func 237) #[] #[.pointer (some ⟨b6,0,none⟩)]) (by kernel_rfl) (pop (v:=.bool false) (by kernel_rfl) (fJ ?_));refine ⟨_,?_,λ _ _ h=>h⟩;refine aH (fS (by decide) (aH (fS (by decide) ?_)));intro jH;refine fJ ?_;obtain ⟨o1,o2,o3,o4,o5,o6⟩:=hs.eL;refine gh (first:=[]) (cap:=[.pointer (some ⟨b6,0,none⟩)]) GK (C237 a b b6 _ _ _ o6 fb6) ?_;rintro _ w4 ⟨rfl,he⟩;have hs:=hs.ext he
    first | exact ⟨rfl,hs.aF⟩ | (subst_vars; exact ⟨rfl,hs.aF⟩) | (refine ⟨?_,hs.aF⟩; unfold qi qh sY; first | (rw [if_pos (show op<5∨15<op by omega)]; rfl) | simp [*])
theorem ie {α:Type} {l:List α} {k:Nat} {e:α} (h:l[k]? = some e):l.take k++[e]=l.take (k+1):=by rw [List.take_add_one,h]; rfl
theorem eH {α:Type} {φ:α→Prop} {l:List α} {k:Nat} {e:α} (h:∀ y∈l.take k,φ y) (he:l[k]? = some e) (hp:φ e):∀ y∈l.take (k+1),φ y:=by
 intro y hy
 rw [← ie he] at hy
 rcases List.mem_append.1 hy with hy | hy
 ·exact h y hy
 ·rw [List.mem_singleton.1 hy]; exact hp
theorem jI {α:Type} {g:α→Bool} {l:List α} {k:Nat} {e:α} (he:l[k]? = some e) (hg:g e=true):l.any g=true:=List.any_eq_true.2 ⟨e,List.mem_of_getElem? he,hg⟩
theorem iM {α:Type} {g:α→Bool} {l:List α} (h:∀ y∈l,g y=false):l.any g=false:=by
 rw [List.any_eq_false]; intro y hy; rw [h y hy]; simp
def uZ {α:Type} (g:α→Bool) (l:List α):Int:=match l.findIdx? g with | some k=>k | none=>-1
theorem pB {α:Type} {g:α→Bool} {l:List α} {k:Nat} {e:α} (fV:∀ y∈l.take k,g y=false) (he:l[k]? = some e) (hg:g e=true):uZ g l=k:=by
 have:l.findIdx? g=some k:=by
  rw [List.findIdx?_eq_some_iff_getElem]
  have hk:=(List.getElem?_eq_some_iff.1 he).1
  refine ⟨hk,by rw [(List.getElem?_eq_some_iff.1 he).2]; exact hg,λ j hj=>?_⟩
  have:=fV (l[j]'(by omega)) (List.mem_take_iff_getElem.2 ⟨j,by omega,rfl⟩)
  simp [this]
 unfold uZ; rw [this]
theorem kC {α:Type} {g:α→Bool} {l:List α} (fV:∀ y∈l,g y=false):uZ g l = -1:=by
 have:l.findIdx? g=none:=by rw [List.findIdx?_eq_none_iff]; exact fV
 unfold uZ; rw [this]
theorem og {α:Type} (g:α→Bool) (l:List α):decide (0≤uZ g l)=l.any g:=by
 unfold uZ
 cases h:l.findIdx? g with
 | none=>
  rw [List.findIdx?_eq_none_iff] at h
  have:l.any g=false:=by rw [List.any_eq_false]; intro x hx; rw [h x hx]; simp
  rw [this]; rfl
 | some k=>
  have h':=(List.findIdx?_eq_some_iff_getElem.1 h)
  obtain ⟨hk,hg,_⟩:=h'
  have:l.any g=true:=List.any_eq_true.2 ⟨_,List.getElem_mem hk,hg⟩
  rw [this]; simp
def CI {α:Type} [Flat α] (w:World) (f:Value) (g:α→Bool):Prop:=∃ g0 first cap,f = .func (.func g0) (List.toArray first) (List.toArray cap)∧Plain PG g0∧
 ∀ x w1,Ext w w1→Calls PG g0 (first++[Flat.val x]++cap).toArray w1 (qf λ v w2=>v = .bool (g x)∧Ext w1 w2)
theorem CI.ext {α:Type} [Flat α] {w w':World} {f:Value} {g:α→Bool} (h:CI w f g) (e:Ext w w'):CI w' f g:=by
 obtain ⟨g0,first,cap,h1,h2,h3⟩:=h; exact ⟨g0,first,cap,h1,h2,λ x w1 e1=>h3 x w1 (e.trans e1)⟩
def fL (k:Int):Int:=if k=3∨k=4 then 1 else if 5≤k∧k≤15 then 2 else 0
def Ld (st:Option (Int × Int)) (x:nw):Option (Int × Int):=match st with
 | none=>none
 | some (n,h)=>if n - fL x.kind<0 then none else some (n - fL x.kind+1,max h (n - fL x.kind+1))
def ht (l:List nw):Option (Int × Int):=l.foldl Ld (some (0,0))
def htN (l:List nw):Int:=match ht l with | some p=>p.1 | none=>0
def htH (l:List nw):Int:=match ht l with | some p=>p.2 | none=>0
theorem z7 {l:List nw} {k:Nat} {x:nw} (h:l[k]? = some x):ht (l.take (k+1))=Ld (ht (l.take k)) x:=by
 unfold ht; rw [← ie h,List.foldl_append]; rfl
theorem Qz {l:List nw} {k:Nat} (h:ht (l.take k)=none):ht l=none:=by
 have key:∀ m:List nw,m.foldl Ld none=none:=λ m=>by induction m with | nil=>rfl | cons y m ih=>exact ih
 have e:l=l.take k++l.drop k:=(List.take_append_drop k l).symm
 unfold ht at *
 rw [e,List.foldl_append,h]; exact key _
theorem QA (k:Int):0≤fL k∧fL k≤2:=by
 unfold fL
 repeat' split
 all_goals omega
theorem aiU {l:List nw}:∀ k n h,k≤l.length→ht (l.take k)=some (n,h)→0≤n∧n≤(k:Int)∧0≤h∧h≤(k:Int)
 | 0,n,h,_,e=>by
  have:ht ([]:List nw)=some (0,0):=rfl
  rw [List.take_zero,this] at e
  obtain ⟨rfl,rfl⟩:=Prod.mk.inj (Option.some.inj e); omega
 | k+1,n,h,hk,e=>by
  obtain ⟨x,hx⟩:∃ x,l[k]? = some x:=⟨_,List.getElem?_eq_getElem (by omega)⟩
  rw [z7 hx] at e
  cases hp:ht (l.take k) with
  | none=>rw [hp] at e; cases e
  | some p=>
   obtain ⟨a,b⟩:=p
   have ih:=aiU k a b (by omega) hp
   have hw:=QA x.kind
   rw [hp] at e
   unfold Ld at e
   simp only [] at e
   split at e
   ·cases e
   ·obtain ⟨rfl,rfl⟩:=Prod.mk.inj (Option.some.inj e); omega
theorem ack {l:List nw} {k:Nat} {x:nw} {n h m:Int} (hx:l[k]? = some x) (Le:ht (l.take k)=some (n,h)) (hm:m=n - fL x.kind) (h0:¬ m<0):ht (l.take (k+1))=some (m+1,max h (m+1)):=by
 rw [z7 hx,Le]; unfold Ld; simp only []; rw [← hm,if_neg h0]
theorem aiV {l:List nw} {k:Nat} {x:nw} {n h m:Int} (hx:l[k]? = some x) (Le:ht (l.take k)=some (n,h)) (hm:m=n - fL x.kind) (h0:m<0):ht (l.take (k+1))=none:=by
 rw [z7 hx,Le]; unfold Ld; simp only []; rw [← hm,if_pos h0]
def sw (many:Int) (x:nw):Bool:=decide ((x.kind=1∧(x.n<0∨4294967296<x.n))∨(x.kind=2∧(x.n<0∨many≤x.n))∨(¬ x.kind=1∧¬ x.kind=2∧(¬ x.n=0∨x.kind<1∨16≤x.kind)))
def eR (l:List nw) (many:Int):Bool:=decide (l.length≤40) && (ht l).isSome && decide (htN l=1) && !l.any (sw many)
theorem C171 (k:Int) (w:World):CR 171 [.int .i64 k] w (λ v w'=>v = .int .i64 (fL k)∧Ext w w'):=by
 have hs:=St.start w;refine aay _ _ _ ?_;unfold S171;refine ⟨λ jv w'=>jv = .bool (decide (k=3∨k=4))∧w=w',?_,?_⟩
 ·refine aH (aC (λ Vs=>?_) (λ Vs=>?_))
  ·exact ⟨H9 (by omega),rfl⟩
  ·refine aH ?_;exact ⟨vQ (by omega),rfl⟩
 ·rintro _ w1 ⟨rfl,hw⟩ fD;subst hw;refine aC (λ F9=>?_) (λ F9=>?_)
  ·unfold fL
   first | (rw [if_pos F9]; exact ⟨rfl,hs.aF⟩) | (rw [if_neg F9,if_pos fR]; exact ⟨rfl,hs.aF⟩) | (rw [if_neg F9,if_neg fR]; exact ⟨rfl,hs.aF⟩)
  ·refine ⟨λ jv w'=>jv = .bool (decide (5≤k∧k≤15))∧w=w',?_,?_⟩
   ·refine dK (aC (λ j8=>?_) (λ j8=>?_))
    ·refine kj ?_;exact ⟨vQ (by omega),rfl⟩
    ·exact ⟨Zv (by omega),rfl⟩
   ·rintro _ w2 ⟨rfl,hw⟩ jH;subst hw;refine aC (λ fR=>?_) (λ fR=>?_)
    ·unfold fL
     first | (rw [if_pos F9]; exact ⟨rfl,hs.aF⟩) | (rw [if_neg F9,if_pos fR]; exact ⟨rfl,hs.aF⟩) | (rw [if_neg F9,if_neg fR]; exact ⟨rfl,hs.aF⟩)
    ·unfold fL
     first | (rw [if_pos F9]; exact ⟨rfl,hs.aF⟩) | (rw [if_neg F9,if_pos fR]; exact ⟨rfl,hs.aF⟩) | (rw [if_neg F9,if_neg fR]; exact ⟨rfl,hs.aF⟩)
theorem C183 (sv:Value) (xs:List nw) (w:World) (hL:eP (λ _=>True) w sv xs) (hn:xs.length≤1048576):CR 183 [sv] w (λ v w'=>v = .tuple #[.int .i64 (htN xs),.int .i64 (htH xs),.bool (ht xs).isSome]∧Ext w w'):=by
 have hs:=St.start w;refine aaK _ _ _ ?_;unfold S183;refine aJ vJ (hL.ext hs.aF) ?_;refine ⟨λ m y z x w1=>∃ (k:Nat) (n h:Int),y = .int .i64 n∧z = .int .i64 h∧x = .int .i64 (k:Int)∧m=xs.length - k∧k≤xs.length∧ht (xs.take k)=some (n,h)∧St w bD [] w1,⟨_,0,0,0,rfl,rfl,rfl,rfl,by omega,rfl,hs⟩,?_⟩;rintro m _ _ _ w1 ⟨k,n,h,rfl,rfl,rfl,rfl,hk,Le,hs⟩ fD;refine aR (aC (λ j8=>?_) (λ j8=>?_))
 ·obtain ⟨Vt,Bx⟩:=gx (xs) (i:=((k:Int)).toNat) (by omega);refine aQ vJ (hL.ext hs.aF) (by omega) Bx (λ _ Lf=>aD KG (Lf) (aN hs Qq (λ By w2 hs=>aI (x:=Vt) hs KG rfl rfl (λ w3 hs=>aA n7 (aB bL hs.hb rfl (aZ afr hs (C171 _ _) (λ w4 he hs=>?_)))))));have hw:=QA Vt.kind;have hhb:=aiU k n h (by omega) Le;refine gD (by omega) (aR (aC (λ gz=>?_) (λ gz=>?_)))
  ·have hz:ht xs=none:=Qz (k:=k+1) (by rw [z7 (k:=k) Bx,Le]; unfold Ld; simp only []; rw [if_pos gz]);unfold htN htH;rw [hz];exact ⟨rfl,hs.aF⟩
  ·refine aO (by omega) (xq (aO (by omega) ?_));exact ⟨_,by omega,k+1,_,_,rfl,rfl,rfl,rfl,by omega,by rw [z7 (k:=k) Bx,Le]; unfold Ld; simp only []; rw [if_neg gz],hs.drop⟩
 ·rw [List.take_of_length_le (by omega)] at Le;unfold htN htH;rw [Le];exact ⟨rfl,hs.aF⟩
theorem C182 (x:nw) (b2:Nat) (many:Int) (w:World) (hc:Cell w b2 0 (.int .i64 many)):CR 182 [Flat.val x,.pointer (some ⟨b2,0,none⟩)] w (λ v w'=>v = .bool (sw many x)∧Ext w w'):=by
 have hs:=St.start w;refine aaJ _ _ _ _ ?_;unfold S182;refine dJ hs (λ mf w1 hs=>aA n7 (aB bL hs.hb rfl (aH (aC (λ iX=>?_) (λ iX=>?_)))))
 ·refine ⟨_,?_,λ _ _ h=>h⟩;refine aA q7 (aB bL hs.hb rfl (aR (aC (λ fR=>?_) (λ fR=>?_))))
  ·intro fD;refine ⟨vb ?_,hs.aF⟩;unfold sw
   first | exact (decide_eq_true (by omega)).symm | exact (decide_eq_false (by omega)).symm | exact decide_eq_decide.2 (by omega)
  ·refine aA q7 (aB bL hs.hb rfl (dB ?_));intro fD;refine ⟨vb ?_,hs.aF⟩;unfold sw
   first | exact (decide_eq_true (by omega)).symm | exact (decide_eq_false (by omega)).symm | exact decide_eq_decide.2 (by omega)
 ·refine aA n7 (aB bL hs.hb rfl (aH (aC (λ fB=>?_) (λ fB=>?_))))
  ·refine ⟨_,?_,λ _ _ h=>h⟩;refine aA q7 (aB bL hs.hb rfl (aR (aC (λ iT=>?_) (λ iT=>?_))))
   ·intro jH;refine ⟨vb ?_,hs.aF⟩;unfold sw
    first | exact (decide_eq_true (by omega)).symm | exact (decide_eq_false (by omega)).symm | exact decide_eq_decide.2 (by omega)
   ·refine aA q7 (aB bL hs.hb rfl (cE bL (hc.ext hs.aF) (dK ?_)));intro jH;refine ⟨vb ?_,hs.aF⟩;unfold sw
    first | exact (decide_eq_true (by omega)).symm | exact (decide_eq_false (by omega)).symm | exact decide_eq_decide.2 (by omega)
  ·refine ⟨_,?_,λ _ _ h=>h⟩;refine aA q7 (aB bL hs.hb rfl (cR (aC (λ lR=>?_) (λ lR=>?_))))
   ·intro oY;refine ⟨vb ?_,hs.aF⟩;unfold sw
    first | exact (decide_eq_true (by omega)).symm | exact (decide_eq_false (by omega)).symm | exact decide_eq_decide.2 (by omega)
   ·refine aA n7 (aB bL hs.hb rfl (aR (aC (λ jC=>?_) (λ jC=>?_))))
    ·intro oY;refine ⟨vb ?_,hs.aF⟩;unfold sw
     first | exact (decide_eq_true (by omega)).symm | exact (decide_eq_false (by omega)).symm | exact decide_eq_decide.2 (by omega)
    ·refine aA n7 (aB bL hs.hb rfl (dK ?_));intro oY;refine ⟨vb ?_,hs.aF⟩;unfold sw
     first | exact (decide_eq_true (by omega)).symm | exact (decide_eq_false (by omega)).symm | exact decide_eq_decide.2 (by omega)
theorem C223 (sv fv:Value) (xs:List nw) (g:nw→Bool) (w:World) (hL:eP (λ _=>True) w sv xs) (hf:CI w fv g) (hn:xs.length≤1073741824):CR 223 [sv,fv] w (λ v w'=>v = .int .i64 (uZ g xs)∧Ext w w'):=by
 obtain ⟨g0,first,cap,rfl,vv,l4⟩:=hf;have hs:=St.start w;refine abh _ _ _ _ ?_;unfold S223;refine aJ vJ (hL.ext hs.aF) ?_;refine ⟨λ m x w1=>∃ k:Nat,x = .int .i64 (k:Int)∧m=xs.length - k∧k≤xs.length∧(∀ y∈xs.take k,g y=false)∧St w bD [] w1,⟨_,0,rfl,rfl,Nat.zero_le _,by simp,hs⟩,?_⟩;rintro m _ w1 ⟨k,rfl,rfl,hk,fV,hs⟩ fD;refine aR (aC (λ gA=>?_) (λ gA=>?_))
 ·obtain ⟨js,dI⟩:=gx (xs) (i:=((k:Int)).toNat) (by omega);refine aQ vJ (hL.ext hs.aF) (by omega) dI (λ _ iU=>aD KG (iU) (gh vv (l4 js w1 hs.aF) ?_));rintro _ w2 ⟨rfl,he⟩;have hs:=hs.ext he;refine aX (λ eE=>?_) (λ eE=>?_)
  ·exact ⟨congrArg (Value.int .i64) (pB fV dI eE).symm,hs.aF⟩
  ·refine aO (by omega) ?_;exact ⟨xs.length - (k+1),by omega,k+1,rfl,rfl,by omega,eH fV dI eE,hs⟩
 ·exact ⟨congrArg (Value.int .i64) (kC (by rw [List.take_of_length_le (by omega)] at fV; exact fV)).symm,hs.aF⟩
theorem C184 (sv fv:Value) (xs:List nw) (g:nw→Bool) (w:World) (hL:eP (λ _=>True) w sv xs) (hf:CI w fv g) (hn:xs.length≤1073741824):CR 184 [sv,fv] w (λ v w'=>v = .bool (xs.any g)∧Ext w w'):=by
 have hs:=St.start w;refine aaL _ _ _ _ ?_;unfold S184;refine aZ aol hs (C223 _ _ _ _ _ (hL.ext hs.aF) (hf.ext hs.aF) (by omega)) (λ w1 he hs=>dK ?_);exact ⟨vb (og _ _),hs.aF⟩
theorem C116 (sv:Value) (xs:List nw) (many:Int) (w:World) (hL:eP (λ _=>True) w sv xs) (hn:xs.length≤1048576):CR 116 [sv,.int .i64 many] w (λ v w'=>v = .bool (eR xs many)∧Ext w w'):=by
 have hs:=St.start w;refine ZT _ _ _ _ ?_;unfold S116;refine tM hs rfl (λ QB w1 hs=>aZ an0 hs (C183 _ _ _ (hL.ext hs.aF) (by omega)) (λ w2 he hs=>bE rfl (bE rfl (bE rfl ?_))));refine ⟨_,?_,λ _ _ h=>h⟩;refine aJ vJ (hL.ext hs.aF) (kj (aC (λ gj=>?_) (λ gj=>?_)))
 ·refine aX (λ jt=>?_) (λ jt=>?_)
  ·refine aH (aC (λ iq=>?_) (λ iq=>?_))
   ·have KR:CI _ (.func (.func 182) [].toArray [.pointer (some ⟨QB,0,none⟩)].toArray) (sw many):=
     ⟨182,[],_,rfl,anZ,λ y w1 e1=>C182 y QB many w1 ((hs.hb.cell rfl).ext e1)⟩
    refine aZ an1 hs (C184 _ _ _ _ _ (hL.ext hs.aF) KR (by omega)) (λ w3 he hs=>cC ?_);intro fD;refine ⟨vb ?_,hs.aF⟩;unfold eR
    simp_all <;> omega
   ·intro fD;refine ⟨vb ?_,hs.aF⟩;unfold eR
    simp_all <;> omega
  ·intro fD;refine ⟨vb ?_,hs.aF⟩;unfold eR
   simp_all <;> omega
 ·intro fD;refine ⟨vb ?_,hs.aF⟩;unfold eR
  simp_all <;> omega
def oh (b:Nat) (rest:List Value) (l:List Int):HP:=ua λ sv=>sep (cH b (sv::rest)) (bK sv l)
theorem oh.shut {w0 w:World} {A:Nat→Prop} {R:List HP} {b:Nat} {rest:List Value} {sv:Value} {l:List Int} (hs:St w0 A (cH b (sv::rest)::bK sv l::R) w):St w0 A (oh b rest l::R) w:=
 St.eU (H:=λ sv=>sep (cH b (sv::rest)) (bK sv l)) sv (St.join hs)
theorem oh.open {w0 w:World} {A:Nat→Prop} {R:List HP} {b:Nat} {rest:List Value} {l:List Int} (hs:St w0 A (oh b rest l::R) w):∃ sv,St w0 A (cH b (sv::rest)::bK sv l::R) w:=by
 obtain ⟨sv,hs⟩:=hs.eZ; exact ⟨sv,hs.split⟩
def lS (l:List Int):Int:=l.getD (l.length - 1) 0
theorem Vu {l:List Int} {e:Int} (h:l[((l.length:Int) - 1).toNat]? = some e):e=lS l:=by
 unfold lS
 rw [List.getD_eq_getElem?_getD,show l.length - 1=((l.length:Int) - 1).toNat from by omega,h]; rfl
theorem C216 (b:Nat) (n:Int) (rest:List Value) (l:List Int) (F:Nat→Prop) (w:World) (hF:(oh b rest l).p w F) (hn:l.length≤1048576):CR 216 [.pointer (some ⟨b,0,none⟩),.int .i64 n] w (λ v w'=>v = .tuple #[]∧qy F (oh b rest (l++[n])) w w'):=by
 have hs:=St.begin hF;obtain ⟨sv,hs⟩:=hs.eZ;have hs:=hs.split;refine aba _ _ _ _ ?_;unfold S216;refine aE (aA pM (aB eB hs.hb rfl (bV (([n]:List Int)) hs eh rfl rfl (eK rfl) (λ aph w1 hs=>?_))));have u3:=(hs).fF;refine cS hs.p2 eh u3 (by simp <;> omega) (by decide) (λ afY w2 hs=>have hs:=hs.p1.drop;aE (aA pM (aV hs.p1 eB (eK rfl) ((hs).fF.one) (λ w3 hs=>?_))));have hs:=hs.p1.p1;exact ⟨rfl,(oh.shut hs).mut⟩
theorem C174 (b:Nat) (rest:List Value) (l:List Int) (F:Nat→Prop) (w:World) (hF:(oh b rest l).p w F) (hn:l.length≤1048576) (h0:0<l.length):CR 174 [.pointer (some ⟨b,0,none⟩)] w (λ v w'=>v = .int .i64 (lS l)∧qy F (oh b rest (l.take (l.length - 1))) w w'):=by
 have hs:=St.begin hF;obtain ⟨sv,hs⟩:=hs.eZ;have hs:=hs.split;refine aaB _ _ _ ?_;unfold S174;refine aE (aA pM (have hs:=hs.drew;aB eB hs.hb rfl (aE (aA pM (aB eB hs.hb rfl (aJ eh (hs.p1).fF (gD (by omega) ?_)))))));obtain ⟨js,dI⟩:=gx (l) (i:=((((l).length:Int) - 1)).toNat) (by omega);refine dS hs.p1 eh (by omega) (by omega) (λ _ iU=>fY hs.p1 bL iU dI (aE (aA pM (have hs:=hs.drew;aB eB hs.hb rfl (aE (aA pM (aB eB hs.hb rfl (aJ eh (hs.p1).fF (gD (by omega) (have hs:=hs.p1;NL eh hs (by omega) (by omega) (λ QC hs=>aE (aA pM ?_))))))))))))
 refine aV hs.p1 eB (eK rfl) ((hs).fF.one) (λ w1 hs=>?_);have hs:=hs.p1.p1;rw [show ((l.length:Int) - 1).toNat=l.length - 1 from by omega] at hs;rw [Vu dI];exact ⟨rfl,(oh.shut hs).mut⟩
theorem C172 (b:Nat) (n hi:Int) (l:List Int) (F:Nat→Prop) (w:World) (hF:(oh b [.int .i64 hi] l).p w F) (hn:l.length≤1048576):CR 172 [.pointer (some ⟨b,0,none⟩),.int .i64 n] w (λ v w'=>v = .tuple #[]∧∃ Nj,qy F (oh b [.int .i64 Nj] (l++[n])) w w'):=by
 have hs:=St.begin hF;refine aaz _ _ _ _ ?_;unfold S172;refine aE (aA tX (pA aog hs (H':=λ _=>oh b [.int .i64 hi] (l++[n])) (Φ:=λ v _=>v = .tuple #[]) (λ F hF=>?_) ?_))
 ·exact C216 b n _ l F _ hF (by omega)
 rintro _ w1 rfl hs;obtain ⟨sv,hs⟩:=oh.open hs;refine aE (aA KK (have hs:=hs.drew;aB bL hs.hb rfl (aE (aA tX (aA pM (aB eB hs.hb rfl (aJ eh (hs.p1).fF (xq (aE (aA KK (aV hs bL (eK rfl) (rfl) (λ w2 hs=>?_))))))))))));have hs:=hs.p1.p1;exact ⟨rfl,_,(oh.shut hs).mut⟩
def pQ (ns S:List Int) (x:nw):List Int:=
 if fL x.kind=0 then S++[if x.kind=2 then ns.getD x.n.toNat 0 else x.n]
 else if fL x.kind=1 then S.take (S.length - 1)++[CG x.kind (lS S)]
 else S.take (S.length - 2)++[qi x.kind (lS (S.take (S.length - 1))) (lS S)]
def Ga (S:List Int) (x:nw):Int:=if fL x.kind=2 then qh x.kind (lS S) else 0
def IP (ns:List Int):List nw→List Int→Int × Int
 | [],S=>(lS S,0)
 | x::r,S=>if Ga S x=0 then IP ns r (pQ ns S x) else (0,Ga S x)
def runM (l:List nw) (ns:List Int):Int × Int:=if eR l ns.length=true then IP ns l [] else (0,8)
theorem z8 (k:Int):fL k=0∨fL k=1∨fL k=2:=by
 unfold fL
 repeat' split
 all_goals omega
section
variable {xs:List nw} {ns S:List Int} {k:Nat} {x:nw} {n h:Int}
theorem C7 (hx:xs[k]? = some x) (h:Ga S x=0):IP ns (xs.drop k) S=IP ns (xs.drop (k+1)) (pQ ns S x):=by
 obtain ⟨hk,he⟩:=List.getElem?_eq_some_iff.1 hx
 rw [List.drop_eq_getElem_cons hk,he,IP,if_pos h]
theorem Vv (hx:xs[k]? = some x) (h:¬ Ga S x=0):IP ns (xs.drop k) S=(0,Ga S x):=by
 obtain ⟨hk,he⟩:=List.getElem?_eq_some_iff.1 hx
 rw [List.drop_eq_getElem_cons hk,he,IP,if_neg h]
theorem Gb {many:Int} (h:eR xs many=true):xs.length≤40∧(∃ a,ht xs=some (1,a))∧∀ x∈xs,sw many x=false:=by
 unfold eR at h
 rw [Bool.and_eq_true,Bool.and_eq_true,Bool.and_eq_true,decide_eq_true_eq,decide_eq_true_eq] at h
 obtain ⟨⟨⟨h1,h2⟩,h3⟩,h4⟩:=h
 refine ⟨h1,?_,λ x hx=>?_⟩
 ·unfold htN at h3
  cases hh:ht xs with
  | none=>rw [hh] at h2; cases h2
  | some p=>rw [hh] at h3; exact ⟨p.2,by rw [← h3]⟩
 ·have:xs.any (sw many)=false:=by simpa using h4
  rw [List.any_eq_false] at this
  simpa using this x hx
theorem So (hw:fL x.kind≤(S.length:Int)):((pQ ns S x).length:Int)=S.length - fL x.kind+1:=by
 unfold pQ
 rcases z8 x.kind with h | h | h
 ·rw [if_pos h,h,List.length_append,List.length_singleton]; omega
 ·rw [if_neg (by omega),if_pos h,h,List.length_append,List.length_take,List.length_singleton]; omega
 ·rw [if_neg (by omega),if_neg (by omega),h,List.length_append,List.length_take,List.length_singleton]; omega
theorem Sp {a:Int} (mB:ht xs=some (1,a)) (Le:ht (xs.take k)=some ((S.length:Int),h)) (hx:xs[k]? = some x) :
  fL x.kind≤(S.length:Int)∧∃ h',ht (xs.take (k+1))=some (((pQ ns S x).length:Int),h'):=by
 have hw:fL x.kind≤(S.length:Int):=by
  rcases Int.lt_or_le ((S.length:Int) - fL x.kind) 0 with h1 | h1
  ·have:=Qz (aiV hx Le rfl h1); rw [mB] at this; cases this
  ·omega
 exact ⟨hw,_,(ack hx Le rfl (by omega)).trans (by rw [So hw])⟩
theorem aiW (hw:fL x.kind=0) (h2:¬ x.kind=2):pQ ns S x=S++[x.n]:=by unfold pQ; rw [if_pos hw,if_neg h2]
theorem aiX {e:Int} (hw:fL x.kind=0) (h2:x.kind=2) (he:ns[x.n.toNat]? = some e):pQ ns S x=S++[e]:=by
 unfold pQ; rw [if_pos hw,if_pos h2,List.getD_eq_getElem?_getD,he]; rfl
theorem aiY (hw:fL x.kind=1):pQ ns S x=S.take (S.length - 1)++[CG x.kind (lS S)]:=by unfold pQ; rw [if_neg (by omega),if_pos hw]
theorem aiZ (hw:fL x.kind=2):pQ ns S x=S.take (S.length - 2)++[qi x.kind (lS (S.take (S.length - 1))) (lS S)]:=by unfold pQ; rw [if_neg (by omega),if_neg (by omega)]
theorem Vw (hw:¬ fL x.kind=2):Ga S x=0:=by unfold Ga; rw [if_neg hw]
theorem afZ (hw:fL x.kind=2):Ga S x=qh x.kind (lS S):=by unfold Ga; rw [if_pos hw]
theorem NN (h:2≤S.length):(S.take (S.length - 1)).take ((S.take (S.length - 1)).length - 1)=S.take (S.length - 2):=by
 rw [List.take_take,List.length_take]; congr 1; omega
end
def mQ (b:Nat) (l:List Int):HP:=ua fun (hi:Int)=>oh b [.int .i64 hi] l
theorem mQ.shut {w0 w:World} {A:Nat→Prop} {R:List HP} {b:Nat} {hi:Int} {l:List Int} (hs:St w0 A (oh b [.int .i64 hi] l::R) w):St w0 A (mQ b l::R) w:=
 St.eU (H:=fun (hi:Int)=>oh b [.int .i64 hi] l) hi hs
theorem acm (b:Nat) (n:Int) (l:List Int) (F:Nat→Prop) (w:World) (hF:(mQ b l).p w F) (hn:l.length≤1048576) :
  Calls PG 172 [.pointer (some ⟨b,0,none⟩),.int .i64 n].toArray w (qf λ v w'=>v = .tuple #[]∧qy F (mQ b (l++[n])) w w'):=by
 obtain ⟨hi,hF⟩:=hF
 refine (C172 b n hi l F w hF hn).mono λ e w' ⟨v,he,hv,Nj,F',h1,h2⟩=>⟨v,he,hv,F',⟨Nj,h1⟩,h2⟩
theorem acn (b:Nat) (l:List Int) (F:Nat→Prop) (w:World) (hF:(mQ b l).p w F) (hn:l.length≤1048576) (h0:0<l.length) :
  Calls PG 174 [.pointer (some ⟨b,0,none⟩)].toArray w (qf λ v w'=>v = .int .i64 (lS l)∧qy F (mQ b (l.take (l.length - 1))) w w'):=by
 obtain ⟨hi,hF⟩:=hF
 refine (C174 b [.int .i64 hi] l F w hF hn h0).mono λ e w' ⟨v,he,hv,F',h1,h2⟩=>⟨v,he,hv,F',⟨hi,h1⟩,h2⟩
theorem C110 (sv nv:Value) (xs:List nw) (ns:List Int) (w:World) (hL:eP (λ _=>True) w sv xs) (hN:eP (λ _=>True) w nv ns) (hn:xs.length≤1048576):CR 110 [sv,nv] w (λ v w'=>v = .tuple #[.int .i64 (runM xs ns).1,.int .i64 (runM xs ns).2]∧Ext w w'):=by
 have hs:=St.start w;refine ZN _ _ _ _ ?_;unfold S110;refine aJ eh (hN.ext hs.aF) (aZ PN hs (C116 _ _ _ _ (hL.ext hs.aF) hn) (λ w1 he hs=>cC (aX (λ fB=>?_) (λ fB=>?_))))
 ·unfold runM;rw [if_neg (by simpa using fB)];exact ⟨rfl,hs.aF⟩
 ·refine aN hs ab8 (λ wo w2 hs=>?_);have hs:=mQ.shut (oh.shut (hs.fX (α:=Int)).p1);have gj:eR xs (ns.length:Int)=true:=by simpa using fB
  obtain ⟨h40,⟨a0,mB⟩,awN⟩:=Gb gj;refine aJ vJ (hL.ext hs.aF) ?_;refine ⟨λ m x w1=>∃ (k:Nat) (S:List Int) (h:Int),x = .int .i64 (k:Int)∧m=xs.length - k∧k≤xs.length∧IP ns xs []=IP ns (xs.drop k) S∧ht (xs.take k)=some ((S.length:Int),h)∧St w bD [mQ wo S] w1,⟨_,0,[],0,rfl,rfl,by omega,rfl,rfl,hs⟩,?_⟩;rintro m _ w3 ⟨k,S,h,rfl,rfl,hk,Kd,Le,hs⟩ fD;refine aR (aC (λ iV=>?_) (λ iV=>?_))
  ·refine ⟨_,?_,λ _ h=>h⟩;obtain ⟨gY,iB⟩:=gx (xs) (i:=((k:Int)).toNat) (by omega);refine aQ vJ (hL.ext hs.aF) (by omega) iB (λ _ wq=>aD KG (wq) (aN hs Qq (λ By w4 hs=>aI (x:=gY) hs KG rfl rfl (λ w5 hs=>aA n7 (aB bL hs.hb rfl (aZ afr hs (C171 _ _) (λ w6 he hs=>?_)))))));have hod:=awN _ (List.mem_of_getElem? iB);unfold sw at hod;have ho:=of_decide_eq_false hod;obtain ⟨NO,h2,aco⟩:=Sp (ns:=ns) (k:=k) mB Le iB;have hwk:fL gY.kind=0→gY.kind=1∨gY.kind=2∨¬ (gY.kind=1∨gY.kind=2):=λ _=>by omega
   have hSk:=aiU k _ _ (by omega) Le;have hw3:=z8 gY.kind;refine aH (aC (λ wt=>?_) (λ wt=>?_))
   ·refine aA q7 (aB bL hs.hb rfl ?_);refine ⟨_,?_,λ _ _ h=>h⟩;refine aA n7 (aB bL hs.hb rfl (aH (aC (λ pR=>?_) (λ pR=>?_))))
    ·refine aA q7 (aB bL hs.hb rfl ?_);obtain ⟨af0,Vx⟩:=gx (ns) (i:=((gY).n).toNat) (by omega);refine aQ eh (hN.ext hs.aF) (by omega) Vx (λ _ Ei=>aD bL (Ei) ?_);intro jH;refine pA Qb hs.p1 (H':=λ _=>mQ wo (S++[af0])) (Φ:=λ v _=>v = .tuple #[]) (λ F hF=>?_) ?_
     ·exact acm wo af0 S F _ hF (by first | omega | (simp only [List.length_take,List.length_append,List.length_singleton]; omega))
     rintro _ w8 rfl hs;intro oY;refine aO (by omega) ?_;have hs:=(hs.p1).drop;have gr:pQ ns S gY=_:=aiX wt pR Vx;exact ⟨_,by omega,k+1,_,_,rfl,rfl,by omega,Kd.trans (C7 (k:=k) iB (Vw (by omega))),aco,by rw [gr]; exact hs⟩
    ·intro jH;refine pA Qb hs.p1 (H':=λ _=>mQ wo (S++[(gY).n])) (Φ:=λ v _=>v = .tuple #[]) (λ F hF=>?_) ?_
     ·exact acm wo (gY).n S F _ hF (by first | omega | (simp only [List.length_take,List.length_append,List.length_singleton]; omega))
     rintro _ w8 rfl hs;intro oY;refine aO (by omega) ?_;have hs:=(hs.p1).drop;have gr:pQ ns S gY=_:=aiW wt pR;exact ⟨_,by omega,k+1,_,_,rfl,rfl,by omega,Kd.trans (C7 (k:=k) iB (Vw (by omega))),aco,by rw [gr]; exact hs⟩
   ·refine aH (aC (λ GY=>?_) (λ GY=>?_))
    ·refine aA n7 (have hs:=hs.drew;aB bL hs.hb rfl (aA tX (pA Qc hs.p1 (H':=λ _=>mQ wo (S.take (S.length - 1))) (Φ:=λ v _=>v = .int .i64 (lS S)) (λ F hF=>?_) ?_)))
     ·exact acn wo S F _ hF (by first | omega | (simp only [List.length_take,List.length_append,List.length_singleton]; omega)) (by first | omega | (simp only [List.length_take,List.length_append,List.length_singleton]; omega))
     rintro _ w9 rfl hs;refine ⟨aG bL (hs.p1.hb.cell rfl),?_⟩;refine aZ anU hs (C173 _ _ _) (λ pP he hs=>bE rfl (bE rfl (pA Qb hs (H':=λ _=>mQ wo ((S.take (S.length - 1))++[(CG (gY).kind (lS S))])) (Φ:=λ v _=>v = .tuple #[]) (λ F hF=>?_) ?_)))
     ·exact acm wo (CG (gY).kind (lS S)) (S.take (S.length - 1)) F _ hF (by first | omega | (simp only [List.length_take,List.length_append,List.length_singleton]; omega))
     rintro _ sZ rfl hs;intro oY;refine aO (by omega) ?_;have hs:=(hs.p1).drop;have gr:pQ ns S gY=_:=aiY GY;exact ⟨_,by omega,k+1,_,_,rfl,rfl,by omega,Kd.trans (C7 (k:=k) iB (Vw (by omega))),aco,by rw [gr]; exact hs⟩
    ·refine aA tX (pA Qc hs.p1 (H':=λ _=>mQ wo (S.take (S.length - 1))) (Φ:=λ v _=>v = .int .i64 (lS S)) (λ F hF=>?_) ?_)
     ·exact acn wo S F _ hF (by first | omega | (simp only [List.length_take,List.length_append,List.length_singleton]; omega)) (by first | omega | (simp only [List.length_take,List.length_append,List.length_singleton]; omega))
     rintro _ vy rfl hs;refine aA n7 (have hs:=hs.drew;aB bL hs.p1.hb rfl (aA tX (pA Qc hs (H':=λ _=>mQ wo ((S.take (S.length - 1)).take ((S.take (S.length - 1)).length - 1))) (Φ:=λ v _=>v = .int .i64 (lS (S.take (S.length - 1)))) (λ F hF=>?_) ?_)))
     ·exact acn wo (S.take (S.length - 1)) F _ hF (by first | omega | (simp only [List.length_take,List.length_append,List.length_singleton]; omega)) (by first | omega | (simp only [List.length_take,List.length_append,List.length_singleton]; omega))
     rintro _ vz rfl hs;refine ⟨aG bL (hs.p1.hb.cell rfl),?_⟩;refine aZ anV hs (C175 _ _ _ _) (λ su he hs=>bE rfl (bE rfl (cR (aC (λ jD=>?_) (λ jD=>?_)))))
     ·have hz:Ga S gY=qh gY.kind (lS S):=afZ (by have:=z8 gY.kind; omega);unfold runM;rw [if_pos gj,Kd,Vv (k:=k) iB (by rw [hz]; exact jD),hz];exact ⟨rfl,hs.aF⟩
     ·refine pA Qb hs (H':=λ _=>mQ wo (((S.take (S.length - 1)).take ((S.take (S.length - 1)).length - 1))++[(qi (gY).kind (lS (S.take (S.length - 1))) (lS S))])) (Φ:=λ v _=>v = .tuple #[]) (λ F hF=>?_) ?_
      ·exact acm wo (qi (gY).kind (lS (S.take (S.length - 1))) (lS S)) ((S.take (S.length - 1)).take ((S.take (S.length - 1)).length - 1)) F _ hF (by first | omega | (simp only [List.length_take,List.length_append,List.length_singleton]; omega))
      rintro _ wm rfl hs;intro oY;refine aO (by omega) ?_;have hs:=(hs.p1).drop;rw [NN (by omega)] at hs;have gr:pQ ns S gY=_:=aiZ (by have:=z8 gY.kind; omega);exact ⟨_,by omega,k+1,_,_,rfl,rfl,by omega,Kd.trans (C7 (k:=k) iB ((afZ (by have:=z8 gY.kind; omega)).trans (Decidable.not_not.1 jD))),aco,by rw [gr]; exact hs⟩
  ·refine aA tX ?_
   have hS1:S.length=1:=by
    rw [List.take_of_length_le (by omega),mB] at Le;have:=(Prod.mk.inj (Option.some.inj Le)).1;omega
   refine pA Qc hs (H':=λ _=>mQ wo (S.take (S.length - 1))) (Φ:=λ v _=>v = .int .i64 (lS S)) (λ F hF=>?_) ?_
   ·exact acn wo S F _ hF (by first | omega | (simp only [List.length_take,List.length_append,List.length_singleton]; omega)) (by first | omega | (simp only [List.length_take,List.length_append,List.length_singleton]; omega))
   rintro _ CH rfl hs;unfold runM;rw [if_pos gj,Kd,List.drop_eq_nil_of_le (by omega)];exact ⟨rfl,hs.aF⟩
def dV (ns:List ByteArray) (s:ByteArray):Int:=uZ (λ y=>decide (y=s)) ns
def gL (p:cY):List dL:=p.lines.flatten++p.jY
structure PS (p:cY):Prop where
 lines:p.lines.length≤500
 line:∀ l∈p.lines,l.length≤500
 jY:p.jY.length≤500
 locks:p.locks.length≤500
 threads:p.threads.length≤500
 recover:p.recover.length≤500
 cD:p.cD.length≤500
 aK:∀ t∈p.threads++p.recover,t.aK.length≤500
 body:∀ t∈p.threads++p.recover,t.body.length≤500
theorem cT {ls:List (List dL)} (h:∀ l∈ls,l.length≤500):ls.flatten.length≤500 * ls.length:=by
 induction ls with
 | nil=>simp
 | cons a ls ih=>
  have h1:=h a (by simp)
  have h2:=ih λ l hl=>h l (List.mem_cons_of_mem _ hl)
  rw [List.flatten_cons,List.length_append,List.length_cons]; omega
theorem nf {p:cY} (h:PS p):(gL p).length≤250500:=by
 have h1:=cT h.line
 have h2:=h.lines
 have h3:=h.jY
 unfold gL; rw [List.length_append]; omega
theorem Sq {α:Type} {ls:List (List α)} {k:Nat} {l:List α} (h:ls[k]? = some l):(ls.take k).flatten++l=(ls.take (k+1)).flatten:=by rw [← ie h,List.flatten_append]; simp
theorem iW {α β:Type} {f:α→β} {l:List α} {k:Nat} {e:α} (h:l[k]? = some e):(l.take k).map f++[f e]=(l.take (k+1)).map f:=by rw [← ie h,List.map_append]; rfl
theorem C98 (lv:Value) (ns:List ByteArray) (q:ByteArray) (w:World) (hL:eP (λ _=>True) w lv ns) (hn:ns.length≤1048576):CR 98 [lv,.string q] w (λ v w'=>v = .int .i64 (dV ns q)∧Ext w w'):=by
 have hs:=St.start w;refine aiC _ _ _ _ ?_;unfold S98;refine ⟨λ m x w1=>∃ k:Nat,x = .int .i64 (k:Int)∧m=ns.length - k∧k≤ns.length∧(∀ y∈ns.take k,decide (y=q)=false)∧St w bD [] w1,⟨_,0,rfl,rfl,Nat.zero_le _,by simp,hs⟩,?_⟩;rintro m _ w1 ⟨k,rfl,rfl,hk,fV,hs⟩ fD;refine aJ mY (hL.ext hs.aF) (aR (aC (λ gA=>?_) (λ gA=>?_)))
 ·obtain ⟨js,dI⟩:=gx (ns) (i:=((k:Int)).toNat) (by omega);refine aQ mY (hL.ext hs.aF) (by omega) dI (λ _ iU=>aD kn (iU) (ub (aC (λ mg=>?_) (λ mg=>?_))))
  ·exact ⟨congrArg (Value.int .i64) (pB fV dI (decide_eq_true mg)).symm,hs.aF⟩
  ·refine aO (by omega) ?_;exact ⟨ns.length - (k+1),by omega,k+1,rfl,rfl,by omega,eH fV dI (decide_eq_false mg),hs⟩
 ·exact ⟨congrArg (Value.int .i64) (kC (by rw [List.take_of_length_le (by omega)] at fV; exact fV)).symm,hs.aF⟩
theorem C107 (lv:Value) (cs:List dL) (w:World) (hL:eP (λ _=>True) w lv cs) (hn:cs.length≤1048576):CR 107 [lv] w (λ v w'=>lY (bK v (cs.map dL.name)) w w'):=by
 have hs:=St.start w;refine ZL _ _ _ ?_;unfold S107;refine bV (([]:List ByteArray)) hs mY rfl rfl (eK rfl) (λ IQ w1 hs=>?_);refine ⟨λ m y x w1=>∃ k:Nat,x = .int .i64 (k:Int)∧m=cs.length - k∧k≤cs.length∧St w bD [bK y ((cs.take k).map dL.name)] w1,⟨_,0,rfl,rfl,by omega,hs⟩,?_⟩;rintro m ga _ w2 ⟨k,rfl,rfl,hk,hs⟩ fD;have DO:((cs.take k).map dL.name).length=k:=by rw [List.length_map,List.length_take]; omega
 refine aJ kf (hL.ext hs.aF) (aR (aC (λ gA=>?_) (λ gA=>?_)))
 ·obtain ⟨pS,jZ⟩:=gx (cs) (i:=((k:Int)).toNat) (by omega);refine aQ kf (hL.ext hs.aF) (by omega) jZ (λ _ ri=>bT (pS).name pL ri rfl rfl (λ _ ud=>aD kn (ud) (bV ([(pS).name]) hs mY rfl rfl (eK rfl) (λ af1 w3 hs=>?_))));have om:=(hs).fF;refine cS hs.p1 mY om (by simp <;> omega) (by decide) (λ Vy w4 hs=>have hs:=hs.p1.drop;aO (by omega) ?_);exact ⟨_,by omega,k+1,rfl,rfl,by omega,by rw [← iW (k:=k) jZ]; exact hs⟩
 ·rw [List.take_of_length_le (by omega)] at hs;exact hs.fresh
theorem C102 (p:cY) (pv:bN) (w:World) (hp:bZ.dr w pv p) (hz:PS p):CR 102 [Flat.val pv] w (λ v w'=>lY (bK v (gL p)) w w'):=by
 obtain ⟨bG,bQ,bH,aT,aU,aY,rfl,cL,dD,cM,bR,bP,cB⟩:=hp;have hs:=St.start w;refine ZG _ _ _ ?_;unfold S102;refine dJ hs (λ kN w1 hs=>bV (([]:List dL)) hs kf rfl rfl (eK rfl) (λ IQ w2 hs=>?_));refine ⟨λ m y x w1=>∃ k:Nat,x = .int .i64 (k:Int)∧m=p.lines.length - k∧k≤p.lines.length∧St w bD [bK y (p.lines.take k).flatten,cH kN (Flat.enc (⟨bG,bQ,bH,aT,aU,aY⟩:bN))] w1,⟨_,0,rfl,rfl,by omega,hs⟩,?_⟩;rintro m ga _ w3 ⟨k,rfl,rfl,hk,hs⟩ fD;have Y8:=hz.lines;refine aA jz (aB rX hs.p1.hb rfl ?_)
 obtain ⟨Y9,hR1,hD1⟩:=(cL).open;have Vz:=hD1.1;refine aJ vI (hR1.ext hs.aF) (aR (aC (λ fR=>?_) (λ fR=>?_)))
 ·refine aA jz (aB rX hs.p1.hb rfl ?_);obtain ⟨api,VA⟩:=gx Y9 (i:=((k:Int)).toNat) (by omega);obtain ⟨apj,NP⟩:=gx ((p).lines) (i:=((k:Int)).toNat) (by omega);have apk:DL w (Flat.val api) apj:=hD1.2 _ _ _ VA NP;refine aQ vI (hR1.ext hs.aF) (by omega) VA (λ _ Lg=>aD jF (Lg) ?_);have Uo:=DL.flat (apk);have NQ:=hz.line _ (List.mem_of_getElem? NP);have CE:=cT (ls:=p.lines.take k) (λ l hl=>hz.line l (List.mem_of_mem_take hl));rw [List.length_take] at CE;have Y8:=hz.lines;have om:=(Uo.ext hs.aF);refine cS hs kf om (by omega) (by decide) (λ Vy w4 hs=>aO (by omega) ?_)
  exact ⟨_,by omega,k+1,rfl,rfl,by omega,by rw [← Sq (k:=k) NP]; exact hs⟩
 ·refine aA uQ (aB jF hs.p1.hb rfl ?_);have hf3:=DL.flat (dD);have CE:=cT (ls:=p.lines.take k) (λ l hl=>hz.line l (List.mem_of_mem_take hl));rw [List.length_take] at CE;have Y8:=hz.lines;have hz2:=hz.jY;have ai0:=(hf3.ext hs.aF);refine cS hs kf ai0 (by omega) (by decide) (λ apl w5 hs=>?_);rw [List.take_of_length_le (by omega)] at hs;exact hs.p1.drop.fresh
def kids (k:Int):Int:=if k=1∨k=2 then 0 else if k=3∨k=4 then 1 else if 5≤k∧k≤15 then 2 else -1
theorem IS (k:Int) : -1≤kids k∧kids k≤2:=by
 unfold kids
 repeat' split
 all_goals omega
def jB (c:Int):Bool:=decide (97≤c∧c≤122∨c=95)
def nx (c:Int):Bool:=decide (48≤c∧c≤57)
def wu:List ByteArray:=[⟨#[108,105,110,101]⟩,⟨#[118,111,108]⟩,⟨#[108,111,99,107]⟩,⟨#[116,104,114,101,97,100]⟩,⟨#[114,101,103]⟩,⟨#[108,111,97,100]⟩,⟨#[115,116,111,114,101]⟩,⟨#[99,97,115]⟩,⟨#[102,108,117,115,104]⟩,⟨#[111,112,116]⟩,⟨#[115,102,101,110,99,101]⟩,⟨#[109,102,101,110,99,101]⟩,⟨#[116,97,107,101]⟩,⟨#[103,105,118,101]⟩,⟨#[105,102]⟩,⟨#[101,108,115,101]⟩,⟨#[108,111,111,112]⟩,⟨#[98,114,101,97,107]⟩,⟨#[99,104,101,99,107]⟩,⟨#[114,101,99,111,118,101,114]⟩,⟨#[97,108,119,97,121,115]⟩]
def j9 (s:ByteArray):Bool:=!(decide (s.size<1∨16<s.size) || (match (lr s)[0]? with | some c=>!jB c.toNat | none=>true) || wu.any (λ y=>decide (y=s))) && !(lr s).any (λ c=>!jB c.toNat && !nx c.toNat)
def skip:Nat→List dC→Option (List dC)
 | 0,l=>some l
 | _+1,[]=>none
 | n+1,x::l=>if kids x.op<0 then none else skip (n+(kids x.op).toNat) l
theorem yQ (l:List dC):skip 0 l=some l:=by cases l <;> rfl
theorem Ej (l:List dC):∀ a b,skip (a+b) l=(skip a l).bind (skip b):=by
 induction l with
 | nil=>
  intro a b
  cases a with
  | zero=>rw [Nat.zero_add,yQ]; rfl
  | succ a=>rw [show a+1+b=(a+b)+1 from by omega]; rfl
 | cons x l ih=>
  intro a b
  cases a with
  | zero=>rw [Nat.zero_add,yQ]; rfl
  | succ a=>
   rw [show a+1+b=(a+b)+1 from by omega]
   show (if kids x.op<0 then none else skip (a+b+(kids x.op).toNat) l)=(if kids x.op<0 then none else skip (a+(kids x.op).toNat) l).bind (skip b)
   split
   ·rfl
   ·rw [show a+b+(kids x.op).toNat=a+(kids x.op).toNat+b from by omega]; exact ih _ _
theorem Ek (l:List dC):∀ n r,skip n l=some r→r=l.drop (l.length - r.length)∧r.length+min n 1≤l.length:=by
 induction l with
 | nil=>
  intro n r h
  cases n with
  | zero=>rw [yQ] at h; cases h; exact ⟨rfl,by simp⟩
  | succ n=>cases h
 | cons x l ih=>
  intro n r h
  cases n with
  | zero=>rw [yQ] at h; cases h; exact ⟨by simp,by simp⟩
  | succ n=>
   have h:(if kids x.op<0 then none else skip (n+(kids x.op).toNat) l)=some r:=h
   split at h
   ·cases h
   ·obtain ⟨h1,h2⟩:=ih _ _ h
    refine ⟨?_,by rw [List.length_cons]; omega⟩
    rw [show (x::l).length - r.length=(l.length - r.length)+1 from by rw [List.length_cons]; omega]
    exact h1
def GZ (n:Nat) (o:Option (List dC)):Int:=match o with | some r=>(n:Int) - r.length | none=>-1
def u4 (xs:List dC) (i:Int):Int:=if i<0 then -1 else GZ xs.length (skip 1 (xs.drop i.toNat))
theorem VB {xs:List dC} {i:Int} {x:dC} (h0:0≤i) (hx:xs[i.toNat]? = some x) (hk:0≤kids x.op):u4 xs i=GZ xs.length (skip (kids x.op).toNat (xs.drop (i.toNat+1))):=by
 unfold u4
 obtain ⟨hl,he⟩:=List.getElem?_eq_some_iff.1 hx
 rw [if_neg (by omega),List.drop_eq_getElem_cons hl,he]
 show GZ _ (if kids x.op<0 then none else skip (0+(kids x.op).toNat) _)=_
 rw [if_neg (by omega),Nat.zero_add]
theorem acp {xs:List dC} {i:Int} {x:dC} (h0:0≤i) (hx:xs[i.toNat]? = some x) (hk:kids x.op<0):u4 xs i = -1:=by
 unfold u4
 obtain ⟨hl,he⟩:=List.getElem?_eq_some_iff.1 hx
 rw [if_neg (by omega),List.drop_eq_getElem_cons hl,he]
 show GZ _ (if kids x.op<0 then none else _)=_
 rw [if_pos hk]; rfl
theorem acq {xs:List dC} {i:Int} (h:i<0∨xs.length≤i):u4 xs i = -1:=by
 unfold u4
 split
 ·rfl
 ·rw [List.drop_eq_nil_of_le (by omega)]; rfl
theorem apm {xs:List dC} {j k:Nat} {a:Int} (h:GZ xs.length (skip k (xs.drop j))=a) (h0:0≤a):u4 xs a=GZ xs.length (skip (k+1) (xs.drop j))∧((j:Int)≤a∨xs.length≤a):=by
 cases hs:skip k (xs.drop j) with
 | none=>rw [hs] at h; unfold GZ at h; simp only [] at h; omega
 | some r=>
  rw [hs] at h
  have h:(xs.length:Int) - r.length=a:=h
  obtain ⟨h1,h2⟩:=Ek _ _ _ hs
  rw [List.length_drop] at h1 h2
  rw [Ej,hs]
  show _=GZ _ (skip 1 r)∧_
  refine ⟨?_,by omega⟩
  unfold u4
  rw [if_neg (by omega)]
  by_cases hj:j≤xs.length
  ·have:xs.drop a.toNat=r:=by
    rw [h1,List.drop_drop,show j+(xs.length - j - r.length)=a.toNat from by omega]
   rw [this]
  ·have:r=[]:=List.length_eq_zero_iff.1 (by omega)
   subst this
   rw [List.drop_eq_nil_of_le (by simp at h; omega)]
theorem ai1 {xs l:List dC} {k j:Nat} (hl:l.length≤xs.length) (h:¬ 0≤GZ xs.length (skip k l)) (hj:k≤j):GZ xs.length (skip k l)=GZ xs.length (skip j l):=by
 cases hs:skip k l with
 | none=>rw [show j=k+(j - k) from by omega,Ej,hs]; rfl
 | some r=>
  obtain ⟨_,h2⟩:=Ek _ _ _ hs
  rw [hs] at h; unfold GZ at h; simp only [] at h; omega
theorem awQ {xs l:List dC} {k:Nat} (hl:l.length≤xs.length) : -1≤GZ xs.length (skip k l)∧GZ xs.length (skip k l)≤xs.length:=by
 cases hs:skip k l with
 | none=>unfold GZ; simp only []; omega
 | some r=>
  obtain ⟨_,h2⟩:=Ek _ _ _ hs
  unfold GZ; simp only []; omega
theorem C163 (k:Int) (w:World):CR 163 [.int .i64 k] w (λ v w'=>v = .int .i64 (kids k)∧Ext w w'):=by
 have hs:=St.start w;refine aaq _ _ _ ?_;unfold S163;refine ⟨λ jv w'=>jv = .bool (decide (k=1∨k=2))∧w=w',?_,?_⟩
 ·refine aH (aC (λ pU=>?_) (λ pU=>?_))
  ·exact ⟨H9 (by omega),rfl⟩
  ·refine aH ?_;exact ⟨vQ (by omega),rfl⟩
 ·rintro _ w1 ⟨rfl,hw⟩ fD;subst hw;refine aC (λ gu=>?_) (λ gu=>?_)
  ·unfold kids;exact ⟨congrArg (Value.int .i64) (by grind),hs.aF⟩
  ·refine ⟨λ jv w'=>jv = .bool (decide (k=3∨k=4))∧w=w',?_,?_⟩
   ·refine aH (aC (λ fR=>?_) (λ fR=>?_))
    ·exact ⟨H9 (by omega),rfl⟩
    ·refine aH ?_;exact ⟨vQ (by omega),rfl⟩
   ·rintro _ w2 ⟨rfl,hw⟩ jH;subst hw;refine aC (λ gX=>?_) (λ gX=>?_)
    ·unfold kids;exact ⟨congrArg (Value.int .i64) (by grind),hs.aF⟩
    ·refine ⟨λ jv w'=>jv = .bool (decide (5≤k∧k≤15))∧w=w',?_,?_⟩
     ·refine dK (aC (λ eE=>?_) (λ eE=>?_))
      ·refine kj ?_;exact ⟨vQ (by omega),rfl⟩
      ·exact ⟨Zv (by omega),rfl⟩
     ·rintro _ w3 ⟨rfl,hw⟩ oY;subst hw;refine aC (λ jE=>?_) (λ jE=>?_)
      ·unfold kids;exact ⟨congrArg (Value.int .i64) (by grind),hs.aF⟩
      ·unfold kids;exact ⟨congrArg (Value.int .i64) (by grind),hs.aF⟩
theorem C206 (c:Int) (w:World):CR 206 [.int .u8 c] w (λ v w'=>v = .bool (jB c)∧Ext w w'):=by
 have hs:=St.start w;refine aa0 _ _ _ ?_;unfold S206;refine ⟨λ jv w'=>jv = .bool (decide (97≤c∧c≤122∨c=95))∧w=w',?_,?_⟩
 ·refine KY (aC (λ pU=>?_) (λ pU=>?_))
  ·refine KX (aC (λ iX=>?_) (λ iX=>?_))
   ·exact ⟨H9 (by omega),rfl⟩
   ·refine od ?_;exact ⟨vQ (by omega),rfl⟩
  ·refine od ?_;exact ⟨vQ (by omega),rfl⟩
 ·rintro _ w1 ⟨rfl,hw⟩ fD;subst hw;exact ⟨rfl,hs.aF⟩
theorem C208 (c:Int) (w:World):CR 208 [.int .u8 c] w (λ v w'=>v = .bool (nx c)∧Ext w w'):=by
 have hs:=St.start w;refine aa2 _ _ _ ?_;unfold S208;refine ⟨λ jv w'=>jv = .bool (decide (48≤c∧c≤57))∧w=w',?_,?_⟩
 ·refine KY (aC (λ pU=>?_) (λ pU=>?_))
  ·refine KX ?_;exact ⟨vQ (by omega),rfl⟩
  ·exact ⟨Zv (by omega),rfl⟩
 ·rintro _ w1 ⟨rfl,hw⟩ fD;subst hw;exact ⟨rfl,hs.aF⟩
theorem C207 (s:ByteArray) (w:World):CR 207 [.string s] w (λ v w'=>v = .bool (wu.any (λ y=>decide (y=s)))∧Ext w w'):=by
 have hs:=St.start w;refine aa1 _ _ _ ?_;unfold S207;refine bV (wu) hs mY rfl rfl (eK rfl) (λ IQ w1 hs=>?_);refine ⟨λ m x w1=>∃ k:Nat,x = .int .i64 (k:Int)∧m=wu.length - k∧k≤wu.length∧(∀ y∈wu.take k,decide (y=s)=false)∧St w bD [bK IQ wu] w1,⟨_,0,rfl,rfl,Nat.zero_le _,by simp,hs⟩,?_⟩;rintro m _ w2 ⟨k,rfl,rfl,hk,fV,hs⟩ fD;have Lh:wu.length=21:=rfl;refine aJ mY (hs).fF (aR (aC (λ gA=>?_) (λ gA=>?_)))
 ·skip;obtain ⟨js,dI⟩:=gx (wu) (i:=((k:Int)).toNat) (by omega);refine dS hs mY (by omega) (by omega) (λ _ iU=>fY hs kn iU dI (ub (aC (λ mg=>?_) (λ mg=>?_))))
  ·exact ⟨vb (jI dI (decide_eq_true mg)).symm,hs.aF⟩
  ·refine aO (by omega) ?_;exact ⟨_,by omega,k+1,rfl,rfl,by omega,eH fV dI (decide_eq_false mg),hs⟩
 ·rw [List.take_of_length_le (by omega)] at fV;exact ⟨vb (iM fV).symm,hs.aF⟩
theorem C161 (s:ByteArray) (w:World) (hn:s.size≤1048576):CR 161 [.string s] w (λ v w'=>v = .bool (j9 s)∧Ext w w'):=by
 have hs:=St.start w;refine aao _ _ _ ?_;unfold S161;refine ⟨λ jv w'=>jv = .bool (decide (s.size<1∨16<s.size) || (match (lr s)[0]? with | some c=>!jB c.toNat | none=>true) || wu.any (λ y=>decide (y=s)))∧St w bD [] w',?_,?_⟩
 ·refine gi gN (aR (aC (λ oJ=>?_) (λ oJ=>?_)))
  ·exact ⟨vb (by grind),hs⟩
  ·refine gi gN (dB (aC (λ fR=>?_) (λ fR=>?_)))
   ·exact ⟨vb (by grind),hs⟩
   ·obtain ⟨js,dI⟩:∃ xx,(lr (s))[((0:Int)).toNat]? = some xx:=⟨_,List.getElem?_eq_getElem (by rw [ei]; omega)⟩;refine lO gN (by omega) dI (aZ Qg hs (C206 _ _) (λ w1 he hs=>cC (aX (λ eE=>?_) (λ eE=>?_))))
    ·exact ⟨vb (by grind),hs⟩
    ·refine aZ aod hs (C207 _ _) (λ w2 he hs=>?_);exact ⟨vb (by grind),hs⟩
 ·rintro _ w3 ⟨rfl,hs⟩ fD;refine aX (λ gz=>?_) (λ gz=>?_)
  ·refine ⟨vb ?_,hs.aF⟩;unfold j9;rw [gz]; rfl
  ·refine ⟨λ m x w1=>∃ k:Nat,x = .int .i64 (k:Int)∧m=(lr s).length - k∧k≤(lr s).length∧(∀ y∈(lr s).take k,(!jB y.toNat && !nx y.toNat)=false)∧St w bD [] w1,⟨_,0,rfl,rfl,Nat.zero_le _,by simp,hs⟩,?_⟩;rintro m _ w4 ⟨k,rfl,rfl,hk,fV,hs⟩ jH;rw [ei] at hk;have yR:=ei s;refine gi gN (aR (aC (λ fT=>?_) (λ fT=>?_)))
   ·obtain ⟨El,lH⟩:∃ xx,(lr s)[((k:Int)).toNat]? = some xx:=⟨_,List.getElem?_eq_getElem (by rw [ei]; omega)⟩;refine ⟨λ jv w'=>jv = .bool (!jB El.toNat && !nx El.toNat)∧St w bD [] w',?_,?_⟩
    ·refine lO gN (by omega) lH (aZ Qg hs (C206 _ _) (λ w5 he hs=>cC (aX (λ jP=>?_) (λ jP=>?_))))
     ·refine lO gN (by omega) lH (aZ Qh hs (C208 _ _) (λ w6 he hs=>cC ?_));exact ⟨vb (by grind),hs⟩
     ·exact ⟨vb (by grind),hs⟩
    ·rintro _ w7 ⟨rfl,hs⟩ oY;refine aX (λ sy=>?_) (λ sy=>?_)
     ·refine ⟨vb ?_,hs.aF⟩;unfold j9;rw [jI lH sy]; simp
     ·refine aO (by omega) ?_;exact ⟨_,by omega,k+1,rfl,rfl,by omega,eH fV lH (by simpa using sy),hs⟩
   ·rw [List.take_of_length_le (by omega)] at fV;refine ⟨vb ?_,hs.aF⟩;unfold j9;rw [iM fV]
    revert gz
    cases (decide (s.size<1∨16<s.size) || (match (lr s)[0]? with | some c=>!jB c.toNat | none=>true) || wu.any (λ y=>decide (y=s))) <;> simp
theorem C160 (lv:Value) (xs:List dC) (i:Int) (N:Nat) (w:World) (hL:eP (λ _=>True) w lv xs) (hn:xs.length≤1048576) (hi : -9223372036854775808≤i) (hN:(xs.length:Int) - i<N):CR 160 [lv,.int .i64 i] w (λ v w'=>v = .int .i64 (u4 xs i)∧Ext w w'):=by
 have hs:=St.start w;refine aan _ _ _ _ ?_;unfold S160;refine ⟨λ jv w'=>jv = .bool (decide (i<0∨(xs.length:Int)≤i) || (match xs[i.toNat]? with | some x=>decide (kids x.op<0) | none=>true))∧St w bD [] w',?_,?_⟩
 ·refine aR (aC (λ gu=>?_) (λ gu=>?_))
  ·exact ⟨vb (by grind),hs⟩
  ·refine aJ lX (hL.ext hs.aF) (dK (aC (λ kP=>?_) (λ kP=>?_)))
   ·exact ⟨vb (by grind),hs⟩
   ·obtain ⟨rj,ju⟩:=gx (xs) (i:=(i).toNat) (by omega);refine aQ lX (hL.ext hs.aF) (by omega) ju (λ _ wv=>bT (rj).op jo wv rfl rfl (λ _ jQ=>aD bL (jQ) (aZ PX hs (C163 _ _) (λ w1 he hs=>aR ?_))));exact ⟨vb (by grind),hs⟩
 ·rintro _ w2 ⟨rfl,hs⟩ fD;refine aX (λ iV=>?_) (λ iV=>?_)
  ·exact ⟨congrArg (Value.int .i64) (by grind [acq,acp]),hs.aF⟩
  ·have h23:¬ (i<0∨(xs.length:Int)≤i):=by grind
   obtain ⟨G0,Gc⟩:∃ xx,xs[(i).toNat]? = some xx:=⟨_,List.getElem?_eq_getElem (by omega)⟩;have VC:0≤kids G0.op:=by grind
   have hkb:=IS G0.op;have Za:=VB (by omega) Gc VC;refine aO (by omega) ?_;refine ⟨λ m y x w1=>∃ (k:Nat) (a:Int),x = .int .i64 (k:Int)∧y = .int .i64 a∧m=(kids G0.op).toNat - k∧k≤(kids G0.op).toNat∧GZ xs.length (skip k (xs.drop (i.toNat+1)))=a∧St w bD [] w1,⟨_,0,i+1,rfl,rfl,rfl,by omega,by rw [yQ]; unfold GZ; simp only [List.length_drop]; omega,hs⟩,?_⟩;rintro m _ _ w3 ⟨k,a,rfl,rfl,rfl,hk,gr,hs⟩ jH;have hab:=awQ (xs:=xs) (l:=xs.drop (i.toNat+1)) (k:=k) (by rw [List.length_drop]; omega);rw [gr] at hab;refine ⟨λ jv w'=>jv = .bool (decide ((k:Int)<kids G0.op∧0≤a))∧St w bD [] w',?_,?_⟩
   ·refine aQ lX (hL.ext hs.aF) (by omega) Gc (λ _ Em=>bT (G0).op jo Em rfl rfl (λ _ oo=>aD bL (oo) (aZ PX hs (C163 _ _) (λ w4 he hs=>aR (aC (λ nE=>?_) (λ nE=>?_))))))
    ·refine dK ?_;exact ⟨vb (by grind),hs⟩
    ·exact ⟨vb (by grind),hs⟩
   ·rintro _ w5 ⟨rfl,hs⟩ oY;refine aC (λ ue=>?_) (λ ue=>?_)
    ·have hgo:=apm gr (by omega);refine aZ PW hs (C160 _ _ _ (N - 1) _ (hL.ext hs.aF) hn (by omega) (by omega)) (λ w6 he hs=>aO (by omega) ?_);exact ⟨_,by omega,k+1,_,rfl,rfl,rfl,by omega,(hgo.1).symm,hs⟩
    ·exact ⟨congrArg (Value.int .i64) (by have:=ai1 (xs:=xs) (l:=xs.drop (i.toNat+1)) (k:=k) (j:=(kids G0.op).toNat) (by rw [List.length_drop]; omega); rw [Za]; by_cases h0:0≤a <;> grind),hs.aF⟩
termination_by N
decreasing_by omega
inductive Ex where
 | leaf (x:dC)
 | un (x:dC) (a:Ex)
 | bin (x:dC) (a b:Ex)
namespace Ex
def root:Ex→dC | leaf x=>x | un x _=>x | bin x _ _=>x
def gB:Ex→List Ex | leaf _=>[] | un _ a=>[a] | bin _ a b=>[a,b]
def flat:Ex→List dC | leaf x=>[x] | un x a=>x::a.flat | bin x a b=>x::(a.flat++b.flat)
def wf:Ex→Prop | leaf x=>kids x.op=0 | un x a=>kids x.op=1∧a.wf | bin x a b=>kids x.op=2∧a.wf∧b.wf
def depth:Ex→Int | leaf _=>1 | un _ a=>a.depth+1 | bin _ a b=>max a.depth b.depth+1
def size:Ex→Nat | leaf _=>1 | un _ a=>a.size+1 | bin _ a b=>a.size+b.size+1
def numOf (ns:List ByteArray) (x:dC):Int:=if x.op=2 then dV ns x.name else x.n
def steps (ns:List ByteArray):Ex→List nw
 | leaf x=>[⟨x.op,numOf ns x⟩]
 | un x a=>a.steps ns++[⟨x.op,numOf ns x⟩]
 | bin x a b=>a.steps ns++b.steps ns++[⟨x.op,numOf ns x⟩]
end Ex
theorem Ex.cT (t:Ex):t.flat.length=t.size:=by
 induction t with
 | leaf x=>rfl
 | un x a ih=>simp [Ex.flat,Ex.size,ih]
 | bin x a b vK xZ=>simp [Ex.flat,Ex.size,vK,xZ]
theorem Ex.G3 (t:Ex):t.flat=t.root::(t.gB.map Ex.flat).flatten:=by
 cases t <;> simp [Ex.flat,Ex.root,Ex.gB]
theorem Ex.Li {t:Ex} (h:t.wf):kids t.root.op=t.gB.length:=by
 cases t with
 | leaf x=>exact h
 | un x a=>exact h.1
 | bin x a b=>exact h.1
theorem Ex.IT {t a:Ex} (h:t.wf) (ha:a∈t.gB):a.wf∧a.size<t.size:=by
 cases t with
 | leaf x=>cases ha
 | un x b=>rw [List.mem_singleton.1 ha]; exact ⟨h.2,by simp [Ex.size]⟩
 | bin x b c=>
  rcases List.mem_cons.1 ha with rfl | ha
  ·exact ⟨h.2.1,by simp [Ex.size]; omega⟩
  ·rw [List.mem_singleton.1 ha]; exact ⟨h.2.2,by simp [Ex.size]; omega⟩
theorem Ex.z9 (t:Ex):1≤t.depth∧t.depth≤t.size:=by
 induction t with
 | leaf x=>simp [Ex.depth,Ex.size]
 | un x a ih=>simp only [Ex.depth,Ex.size]; omega
 | bin x a b vK xZ=>simp only [Ex.depth,Ex.size]; omega
theorem Ex.xw (ns:List ByteArray) (t:Ex):(t.steps ns).length=t.size:=by
 induction t with
 | leaf x=>rfl
 | un x a ih=>simp [Ex.steps,Ex.size,ih]
 | bin x a b vK xZ=>simp [Ex.steps,Ex.size,vK,xZ]; omega
theorem Sr (t:Ex) (h:t.wf):∀ n r,skip (n+1) (t.flat++r)=skip n r:=by
 induction t with
 | leaf x=>
  intro n r
  show (if kids x.op<0 then none else skip (n+(kids x.op).toNat) r)=_
  rw [show kids x.op=0 from h]; rfl
 | un x a ih=>
  intro n r
  show (if kids x.op<0 then none else skip (n+(kids x.op).toNat) (a.flat++r))=_
  rw [show kids x.op=1 from h.1,if_neg (by omega)]; exact ih h.2 n r
 | bin x a b vK xZ=>
  intro n r
  show (if kids x.op<0 then none else skip (n+(kids x.op).toNat) (a.flat++b.flat++r))=_
  rw [show kids x.op=2 from h.1,if_neg (by omega),List.append_assoc]
  show skip (n+1+1) _=_
  rw [vK h.2.1 (n+1),xZ h.2.2 n]
theorem QD:∀ (k:Nat) (l r:List dC),l.length≤k→skip 1 l=some r→∃ t:Ex,t.wf∧l=t.flat++r
 | k,[],r,_,h=>by cases h
 | 0,x::l,r,hk,_=>by simp at hk
 | k+1,x::l,r,hk,h=>by
  have hk:l.length≤k:=by simpa using hk
  have h:(if kids x.op<0 then none else skip (0+(kids x.op).toNat) l)=some r:=h
  have hb:=IS x.op
  split at h
  ·cases h
  ·rcases (show kids x.op=0∨kids x.op=1∨kids x.op=2 by omega) with h0 | h0 | h0
   ·rw [h0] at h
    have h:skip 0 l=some r:=h
    rw [yQ] at h; cases h
    exact ⟨.leaf x,h0,rfl⟩
   ·rw [h0] at h
    obtain ⟨a,ha,rfl⟩:=QD k l r hk h
    exact ⟨.un x a,⟨h0,ha⟩,rfl⟩
   ·rw [h0] at h
    have h:skip (1+1) l=some r:=h
    rw [Ej] at h
    obtain ⟨m,h1,h2⟩:=Option.bind_eq_some_iff.1 h
    obtain ⟨a,ha,rfl⟩:=QD k l m hk h1
    obtain ⟨b,hb',rfl⟩:=QD k m r (by simp at hk; omega) h2
    exact ⟨.bin x a b,⟨h0,ha,hb'⟩,by simp [Ex.flat]⟩
def JR (xs:List dC) (i:Int) (t:Ex):Prop:=0≤i∧t.wf∧∃ r,xs.drop i.toNat=t.flat++r
theorem JR.root {xs:List dC} {i:Int} {t:Ex} (h:JR xs i t):xs[i.toNat]? = some t.root∧i<xs.length:=by
 obtain ⟨h0,_,r,h⟩:=h
 have:(xs.drop i.toNat)[0]? = some t.root:=by rw [h,Ex.G3]; rfl
 rw [List.getElem?_drop,Nat.add_zero] at this
 exact ⟨this,by have:=(List.getElem?_eq_some_iff.1 this).1; omega⟩
theorem JR.end {xs:List dC} {i:Int} {t:Ex} (h:JR xs i t):u4 xs i=i+t.size∧i+t.size≤xs.length:=by
 have mG:=h.root.2
 obtain ⟨h0,hw,r,h⟩:=h
 have hl:=congrArg List.length h
 rw [List.length_drop,List.length_append,Ex.cT] at hl
 refine ⟨?_,by omega⟩
 unfold u4
 rw [if_neg (by omega),h,Sr t hw 0 r,yQ]
 unfold GZ; simp only []; omega
theorem JR.of {xs:List dC} {i:Int} (h:0≤u4 xs i):∃ t,JR xs i t:=by
 unfold u4 at h
 split at h
 ·omega
 ·cases hs:skip 1 (xs.drop i.toNat) with
  | none=>rw [hs] at h; unfold GZ at h; simp only [] at h; omega
  | some r=>
   obtain ⟨t,hw,he⟩:=QD _ _ r (Nat.le_refl _) hs
   exact ⟨t,by omega,hw,r,he⟩
def Aa (ks:List Ex) (k:Nat):Nat:=((ks.take k).map Ex.size).sum
theorem G4 {ks:List Ex} {k:Nat} {a:Ex} (h:ks[k]? = some a):Aa ks (k+1)=Aa ks k+a.size:=by
 unfold Aa; rw [← ie h]; simp
theorem JR.kid {xs:List dC} {i:Int} {t a:Ex} {k:Nat} (h:JR xs i t) (ha:t.gB[k]? = some a):JR xs (i+1+Aa t.gB k) a:=by
 obtain ⟨h0,hw,r,h⟩:=h
 refine ⟨by omega,(Ex.IT hw (List.mem_of_getElem? ha)).1,?_⟩
 have hs:t.gB=t.gB.take k++a::t.gB.drop (k+1):=by
  obtain ⟨hk,he⟩:=List.getElem?_eq_some_iff.1 ha
  rw [← he,List.getElem_cons_drop,List.take_append_drop]
 have hl:(((t.gB.take k).map Ex.flat).flatten).length=Aa t.gB k:=by
  unfold Aa
  rw [List.length_flatten,List.map_map]
  congr 2
  exact funext λ x=>Ex.cT x
 have h2:xs.drop (i.toNat+1)=((t.gB.take k).map Ex.flat).flatten++(a.flat++(((t.gB.drop (k+1)).map Ex.flat).flatten++r)):=by
  rw [← List.drop_drop,h,Ex.G3 t]
  show (t.gB.map Ex.flat).flatten++r=_
  conv=>lhs; rw [hs]
  simp
 refine ⟨((t.gB.drop (k+1)).map Ex.flat).flatten++r,?_⟩
 rw [show (i+1+(Aa t.gB k:Int)).toNat=i.toNat+1+Aa t.gB k from by omega,← List.drop_drop,h2,← hl,List.drop_left]
def En (ks:List Ex) (k:Nat):Int:=((ks.take k).map Ex.depth).foldl max 0
theorem G5 {ks:List Ex} {k:Nat} {a:Ex} (h:ks[k]? = some a):En ks (k+1)=max (En ks k) a.depth:=by
 unfold En; rw [← ie h,List.map_append,List.foldl_append]; rfl
theorem VD {ks:List Ex} {N:Int} (h0:0≤N) (h:∀ a∈ks,a.depth≤N):∀ k,0≤En ks k∧En ks k≤N
 | 0=>by simp [En,h0]
 | k+1=>by
  have ih:=VD h0 h k
  cases hx:ks[k]? with
  | none=>
   have e:ks.take (k+1)=ks.take k:=by rw [List.take_add_one,hx]; simp
   unfold En at *; rw [e]; exact ih
  | some a=>rw [G5 hx]; have:=h a (List.mem_of_getElem? hx); omega
theorem Ex.VE (t:Ex):t.depth=En t.gB t.gB.length+1:=by
 cases t with
 | leaf x=>rfl
 | un x a=>have:=a.z9; simp only [Ex.depth,Ex.gB,En,List.length_singleton,List.take_succ_cons,List.take_zero,List.map_cons,List.map_nil,List.foldl_cons,List.foldl_nil]; omega
 | bin x a b=>have:=a.z9; simp only [Ex.depth,Ex.gB,En,List.length_cons,List.length_nil,List.take_succ_cons,List.take_zero,List.map_cons,List.map_nil,List.foldl_cons,List.foldl_nil]; omega
def stK (ns:List ByteArray) (ks:List Ex) (k:Nat):List nw:=((ks.take k).map (Ex.steps ns)).flatten
theorem VF {ns:List ByteArray} {ks:List Ex} {k:Nat} {a:Ex} (h:ks[k]? = some a):stK ns ks (k+1)=stK ns ks k++a.steps ns:=by
 unfold stK; rw [← ie h]; simp
theorem QE {ns:List ByteArray} {ks:List Ex} {k:Nat}:(stK ns ks k).length=Aa ks k:=by
 unfold stK Aa
 rw [List.length_flatten,List.map_map]
 congr 2
 exact funext λ x=>Ex.xw ns x
open Ex (numOf) in
theorem Ex.Eo (ns:List ByteArray) (t:Ex):t.steps ns=stK ns t.gB t.gB.length++[⟨t.root.op,numOf ns t.root⟩]:=by
 cases t <;> simp [Ex.steps,Ex.gB,stK,Ex.root]
def pt:Nat→List dC→Option (Ex × List dC)
 | 0,_=>none
 | _+1,[]=>none
 | n+1,x::l=>
  if kids x.op=0 then some (.leaf x,l) else if kids x.op=1 then (match pt n l with | some p=>some (.un x p.1,p.2) | none=>none)
  else if kids x.op=2 then (match pt n l with | some p=>(match pt n p.2 with | some q=>some (.bin x p.1 q.1,q.2) | none=>none) | none=>none) else none
theorem acs (t:Ex) (h:t.wf):∀ n r,t.size≤n→pt n (t.flat++r)=some (t,r):=by
 induction t with
 | leaf x=>
  intro n r hn
  cases n with
  | zero=>simp [Ex.size] at hn
  | succ n=>show (if kids x.op=0 then _ else _)=_; rw [if_pos (show kids x.op=0 from h)]; rfl
 | un x a ih=>
  intro n r hn
  cases n with
  | zero=>simp [Ex.size] at hn
  | succ n=>
   have h1:kids x.op=1:=h.1
   show (if kids x.op=0 then _ else if kids x.op=1 then (match pt n (a.flat++r) with | some p=>some (Ex.un x p.1,p.2) | none=>none) else _)=_
   rw [if_neg (by omega),if_pos h1,ih h.2 n r (by simp [Ex.size] at hn; omega)]
 | bin x a b vK xZ=>
  intro n r hn
  cases n with
  | zero=>simp [Ex.size] at hn
  | succ n=>
   have h1:kids x.op=2:=h.1
   show (if kids x.op=0 then _ else if kids x.op=1 then _ else if kids x.op=2 then (match pt n (a.flat++b.flat++r) with | some p=>(match pt n p.2 with | some q=>some (Ex.bin x p.1 q.1,q.2) | none=>none) | none=>none) else _)=_
   rw [if_neg (by omega),if_neg (by omega),if_pos h1,List.append_assoc,vK h.2.1 n _ (by simp [Ex.size] at hn; omega)]
   simp only []
   rw [xZ h.2.2 n _ (by simp [Ex.size] at hn; omega)]
def yS (l:List dC):Option Ex:=match pt l.length l with | some p=>if p.2=[] then some p.1 else none | none=>none
theorem Ss {t:Ex} (h:t.wf):yS t.flat=some t:=by
 unfold yS
 have:=acs t h t.flat.length [] (by rw [Ex.cT]; exact Nat.le_refl _)
 rw [List.append_nil] at this
 rw [this]; rfl
theorem JR.zero {l:List dC} {t:Ex} (h:JR l 0 t) (he:u4 l 0=l.length):l=t.flat∧yS l=some t:=by
 have h1:=h.end
 obtain ⟨_,hw,r,h⟩:=h
 have hl:=congrArg List.length h
 rw [List.length_append,Ex.cT] at hl
 simp at hl
 have:r=[]:=List.length_eq_zero_iff.1 (by omega)
 subst this
 have h:l=t.flat:=by simpa using h
 exact ⟨h,by rw [h]; exact Ss hw⟩
theorem Ab:∀ n l t r,pt n l=some (t,r)→t.wf∧l=t.flat++r
 | 0,l,t,r,h=>by cases h
 | n+1,[],t,r,h=>by cases h
 | n+1,x::l,t,r,h=>by
  have h:(if kids x.op=0 then some (Ex.leaf x,l) else if kids x.op=1 then (match pt n l with | some p=>some (Ex.un x p.1,p.2) | none=>none)
   else if kids x.op=2 then (match pt n l with | some p=>(match pt n p.2 with | some q=>some (Ex.bin x p.1 q.1,q.2) | none=>none) | none=>none) else none)=some (t,r):=h
  split at h
  ·rename_i hk; cases h; exact ⟨hk,rfl⟩
  ·split at h
   ·rename_i hk
    cases ha:pt n l with
    | none=>rw [ha] at h; cases h
    | some p=>
     rw [ha] at h
     obtain ⟨a,m⟩:=p
     cases h
     obtain ⟨h1,rfl⟩:=Ab n l a _ ha
     exact ⟨⟨hk,h1⟩,rfl⟩
   ·split at h
    ·rename_i hk
     cases ha:pt n l with
     | none=>rw [ha] at h; cases h
     | some p=>
      rw [ha] at h
      obtain ⟨a,m⟩:=p
      simp only [] at h
      cases hb:pt n m with
      | none=>rw [hb] at h; cases h
      | some q=>
       rw [hb] at h
       obtain ⟨b,m'⟩:=q
       cases h
       obtain ⟨h1,rfl⟩:=Ab n l a _ ha
       obtain ⟨h2,rfl⟩:=Ab n m b _ hb
       exact ⟨⟨hk,h1,h2⟩,by simp [Ex.flat]⟩
    ·cases h
theorem yT {l:List dC} {t:Ex} (h:yS l=some t):t.wf∧l=t.flat:=by
 unfold yS at h
 cases hp:pt l.length l with
 | none=>rw [hp] at h; cases h
 | some p=>
  rw [hp] at h
  obtain ⟨a,r⟩:=p
  simp only [] at h
  split at h
  ·rename_i hr; cases h
   obtain ⟨h1,h2⟩:=Ab _ _ _ _ hp
   subst hr
   exact ⟨h1,by simpa using h2⟩
  ·cases h
theorem Lj {l:List dC}:(yS l).isSome=decide (u4 l 0=l.length):=by
 by_cases h:u4 l 0=l.length
 ·obtain ⟨t,ht⟩:=JR.of (xs:=l) (i:=0) (by omega)
  rw [(ht.zero h).2,decide_eq_true h]; rfl
 ·rw [decide_eq_false h]
  cases he:yS l with
  | none=>rfl
  | some t=>
   obtain ⟨h1,rfl⟩:=yT he
   exact absurd (by have:=(show JR t.flat 0 t from ⟨by omega,h1,[],by simp⟩).end.1; rw [this,Ex.cT]; omega) h
def oZ (x:dC):Bool:=decide (x.at_<0∨4000<x.at_) || decide (¬ x.op=1∧¬ x.n=0) || decide (¬ x.op=2∧¬ x.name=⟨#[]⟩) || decide (x.n<0∨4294967296<x.n) || (decide (x.op=2) && !j9 x.name)
def af2 (l:List dC):Int:=match yS l with | some t=>t.depth | none=>0
def jJ (l:List dC):Bool:=decide (l.length≤40) && (yS l).isSome && !l.any oZ && decide (af2 l≤12)
def NR (ns:List ByteArray) (l:List dC):List nw:=match yS l with | some t=>t.steps ns | none=>[]
def yx (ns:List ByteArray) (l:List dC):Int:=if jJ l=false then 8 else if l.any (λ x=>decide (x.op=2) && decide (dV ns x.name<0)) then 9 else 0
def gk (ns:List ByteArray) (l:List dC):List nw:=if yx ns l=0 then NR ns l else []
theorem NS {l:List dC} (h:jJ l=true):u4 l 0=l.length:=by
 unfold jJ at h
 rw [Lj] at h
 grind
theorem C162 (lv:Value) (xs:List dC) (i:Int) (t:Ex) (N:Nat) (w:World) (hL:eP (λ _=>True) w lv xs) (hn:xs.length≤1048576) (hT:JR xs i t) (hN:t.size<N):CR 162 [lv,.int .i64 i] w (λ v w'=>v = .int .i64 t.depth∧Ext w w'):=by
 obtain ⟨G0,hq,Gc⟩:∃ e,e=t.root∧xs[(i).toNat]? = some e:=⟨_,rfl,hT.root.1⟩;have hri:=hT.root.2;have hie:=hT.end;have VC:=Ex.Li hT.2.1;rw [← hq] at VC;have hkb:=IS G0.op;have hi0:=hT.1;have hs:=St.start w;refine aap _ _ _ _ ?_;unfold S162;refine aO (by omega) ?_;refine ⟨λ m n a x w1=>∃ k:Nat,n = .int .i64 (En t.gB k)∧a = .int .i64 (i+1+Aa t.gB k)∧x = .int .i64 (k:Int)∧m=t.gB.length - k∧k≤t.gB.length∧St w bD [] w1,⟨_,0,rfl,congrArg (Value.int .i64) (by simp [Aa]),rfl,rfl,by omega,hs⟩,?_⟩;rintro m _ _ _ w1 ⟨k,rfl,rfl,rfl,rfl,hk,hs⟩ fD;have hdk:=VD (ks:=t.gB) (N:=(t.size:Int)) (by omega) (λ a ha=>by have:=(Ex.IT hT.2.1 ha).2; have:=a.z9; omega) k
 refine aQ lX (hL.ext hs.aF) (by omega) Gc (λ _ Lf=>bT (G0).op jo Lf rfl rfl (λ _ iU=>aD bL (iU) (aZ PX hs (C163 _ _) (λ w2 he hs=>aR (aC (λ mg=>?_) (λ mg=>?_))))))
 ·obtain ⟨a,IU⟩:∃ a,t.gB[k]? = some a:=⟨_,List.getElem?_eq_getElem (by omega)⟩;have hka:=Ex.IT hT.2.1 (List.mem_of_getElem? IU);have hAk:=hT.kid IU;have hen:=hAk.end;have hdb:=a.z9;refine aZ UI hs (C162 _ _ _ _ (N - 1) _ (hL.ext hs.aF) hn hAk (by omega)) (λ w3 he hs=>xq (aZ PW hs (C160 _ _ _ ((xs).length+1) _ (hL.ext hs.aF) (by omega) (by omega) (by omega)) (λ w4 he hs=>aO (by omega) ?_)));exact ⟨_,by omega,k+1,by rw [G5 IU],congrArg (Value.int .i64) (by rw [hen.1,G4 IU]; omega),rfl,rfl,by omega,hs⟩
 ·refine aO (by omega) ?_;exact ⟨congrArg (Value.int .i64) (by rw [t.VE,show k=t.gB.length from by omega]),hs.aF⟩
termination_by N
decreasing_by omega
theorem C105 (lv:Value) (xs:List dC) (w:World) (hL:eP (λ _=>True) w lv xs) (hn:xs.length≤1048576) (hnm:∀ x∈xs,x.name.size≤1048576):CR 105 [lv] w (λ v w'=>v = .bool (jJ xs)∧Ext w w'):=by
 have hs:=St.start w;refine ZJ _ _ _ ?_;unfold S105;refine ⟨λ jv w'=>jv = .bool (decide (40<xs.length) || decide (¬ u4 xs 0=xs.length))∧St w bD [] w',?_,?_⟩
 ·refine aJ lX (hL.ext hs.aF) (dB (aC (λ iX=>?_) (λ iX=>?_)))
  ·exact ⟨vb (by grind),hs⟩
  ·refine aZ PW hs (C160 _ _ _ ((xs).length+1) _ (hL.ext hs.aF) (by omega) (by omega) (by omega)) (λ w1 he hs=>aJ lX (hL.ext hs.aF) (cR ?_));exact ⟨vb (by grind),hs⟩
 ·rintro _ w2 ⟨rfl,hs⟩ fD;refine aX (λ gX=>?_) (λ gX=>?_)
  ·refine ⟨vb ?_,hs.aF⟩;unfold jJ;rw [Lj]
   grind
  ·refine ⟨λ m x w1=>∃ k:Nat,x = .int .i64 (k:Int)∧m=xs.length - k∧k≤xs.length∧(∀ y∈xs.take k,oZ y=false)∧St w bD [] w1,⟨_,0,rfl,rfl,Nat.zero_le _,by simp,hs⟩,?_⟩;rintro m _ w3 ⟨k,rfl,rfl,hk,fV,hs⟩ jH;refine aJ lX (hL.ext hs.aF) (aR (aC (λ gj=>?_) (λ gj=>?_)))
   ·obtain ⟨rk,kD⟩:=gx (xs) (i:=((k:Int)).toNat) (by omega);refine aQ lX (hL.ext hs.aF) (by omega) kD (λ _ pW=>aD KE (pW) (aN hs Qp (λ CJ w4 hs=>aI (x:=rk) hs KE rfl rfl (λ w5 hs=>?_))));refine ⟨λ jv w'=>jv = .bool (oZ rk)∧St w bD [] w',?_,?_⟩
    ·refine aA DY (aB bL hs.hb rfl (aR (aC (λ gn=>?_) (λ gn=>?_))))
     ·exact ⟨vb (by unfold oZ; grind),hs.drop⟩
     ·refine aA DY (aB bL hs.hb rfl (dB (aC (λ lR=>?_) (λ lR=>?_))))
      ·exact ⟨vb (by unfold oZ; grind),hs.drop⟩
      ·refine aA jo (aB bL hs.hb rfl (cR (aC (λ lx=>?_) (λ lx=>?_))))
       ·refine aA m6 (aB bL hs.hb rfl (cR (aC (λ qA=>?_) (λ qA=>?_))))
        ·exact ⟨vb (by unfold oZ; grind),hs.drop⟩
        ·refine aA jo (aB bL hs.hb rfl (cR (aC (λ wt=>?_) (λ wt=>?_))))
         ·refine aA lh (aB kn hs.hb rfl (oW (aC (λ pX=>?_) (λ pX=>?_))))
          ·exact ⟨vb (by unfold oZ; grind),hs.drop⟩
          ·refine aA m6 (aB bL hs.hb rfl (aR (aC (λ VG=>?_) (λ VG=>?_))))
           ·exact ⟨vb (by unfold oZ; grind),hs.drop⟩
           ·refine aA m6 (aB bL hs.hb rfl (dB (aC (λ kF=>?_) (λ kF=>?_))))
            ·exact ⟨vb (by unfold oZ; grind),hs.drop⟩
            ·refine aA jo (aB bL hs.hb rfl (aH (aC (λ Lk=>?_) (λ Lk=>?_))))
             ·refine aA lh (aB kn hs.hb rfl (aZ tK hs (C161 _ _ (hnm _ (List.mem_of_getElem? kD))) (λ w6 he hs=>cC ?_)));exact ⟨vb (by unfold oZ; grind),hs.drop⟩
             ·exact ⟨vb (by unfold oZ; grind),hs.drop⟩
         ·refine aA m6 (aB bL hs.hb rfl (aR (aC (λ IV=>?_) (λ IV=>?_))))
          ·exact ⟨vb (by unfold oZ; grind),hs.drop⟩
          ·refine aA m6 (aB bL hs.hb rfl (dB (aC (λ acv=>?_) (λ acv=>?_))))
           ·exact ⟨vb (by unfold oZ; grind),hs.drop⟩
           ·refine aA jo (aB bL hs.hb rfl (aH (aC (λ acw=>?_) (λ acw=>?_))))
            ·refine aA lh (aB kn hs.hb rfl (aZ tK hs (C161 _ _ (hnm _ (List.mem_of_getElem? kD))) (λ w7 he hs=>cC ?_)));exact ⟨vb (by unfold oZ; grind),hs.drop⟩
            ·exact ⟨vb (by unfold oZ; grind),hs.drop⟩
       ·refine aA jo (aB bL hs.hb rfl (cR (aC (λ acx=>?_) (λ acx=>?_))))
        ·refine aA lh (aB kn hs.hb rfl (oW (aC (λ acy=>?_) (λ acy=>?_))))
         ·exact ⟨vb (by unfold oZ; grind),hs.drop⟩
         ·refine aA m6 (aB bL hs.hb rfl (aR (aC (λ acz=>?_) (λ acz=>?_))))
          ·exact ⟨vb (by unfold oZ; grind),hs.drop⟩
          ·refine aA m6 (aB bL hs.hb rfl (dB (aC (λ acA=>?_) (λ acA=>?_))))
           ·exact ⟨vb (by unfold oZ; grind),hs.drop⟩
           ·refine aA jo (aB bL hs.hb rfl (aH (aC (λ acB=>?_) (λ acB=>?_))))
            ·refine aA lh (aB kn hs.hb rfl (aZ tK hs (C161 _ _ (hnm _ (List.mem_of_getElem? kD))) (λ w8 he hs=>cC ?_)));exact ⟨vb (by unfold oZ; grind),hs.drop⟩
            ·exact ⟨vb (by unfold oZ; grind),hs.drop⟩
        ·refine aA m6 (aB bL hs.hb rfl (aR (aC (λ acC=>?_) (λ acC=>?_))))
         ·exact ⟨vb (by unfold oZ; grind),hs.drop⟩
         ·refine aA m6 (aB bL hs.hb rfl (dB (aC (λ acD=>?_) (λ acD=>?_))))
          ·exact ⟨vb (by unfold oZ; grind),hs.drop⟩
          ·refine aA jo (aB bL hs.hb rfl (aH (aC (λ acE=>?_) (λ acE=>?_))))
           ·refine aA lh (aB kn hs.hb rfl (aZ tK hs (C161 _ _ (hnm _ (List.mem_of_getElem? kD))) (λ w9 he hs=>cC ?_)));exact ⟨vb (by unfold oZ; grind),hs.drop⟩
           ·exact ⟨vb (by unfold oZ; grind),hs.drop⟩
    ·rintro _ pP ⟨rfl,hs⟩ oY;refine aX (λ Ll=>?_) (λ Ll=>?_)
     ·refine ⟨vb ?_,hs.aF⟩;unfold jJ;rw [jI kD Ll]; simp
     ·refine aO (by omega) ?_;exact ⟨_,by omega,k+1,rfl,rfl,by omega,eH fV kD Ll,hs⟩
   ·have QF:u4 xs 0=xs.length:=by grind
    have h40:xs.length≤40:=by grind
    obtain ⟨t,ht⟩:=JR.of (xs:=xs) (i:=0) (by omega);have hz:=ht.zero QF;refine aZ UI hs (C162 _ _ _ t (t.size+1) _ (hL.ext hs.aF) hn ht (by omega)) (λ sZ he hs=>kj ?_);rw [List.take_of_length_le (by omega)] at fV;refine ⟨vb ?_,hs.aF⟩;unfold jJ af2;rw [iM fV,hz.2];simp [h40]
theorem C106 (lv nv:Value) (xs:List dC) (ns:List ByteArray) (i:Int) (t:Ex) (N:Nat) (w:World) (hL:eP (λ _=>True) w lv xs) (hN:eP (λ _=>True) w nv ns) (hn:xs.length≤1048576) (hns:ns.length≤1048576) (hT:JR xs i t) (hNt:t.size<N):CR 106 [lv,.int .i64 i,nv] w (λ v w'=>lY (bK v (t.steps ns)) w w'):=by
 obtain ⟨G0,hq,Gc⟩:∃ e,e=t.root∧xs[(i).toNat]? = some e:=⟨_,rfl,hT.root.1⟩;have hri:=hT.root.2;have hie:=hT.end;have VC:=Ex.Li hT.2.1;rw [← hq] at VC;have hkb:=IS G0.op;have hi0:=hT.1;have hs:=St.start w;refine ZK _ _ _ _ _ ?_;unfold S106;refine bV (([]:List nw)) hs vJ rfl rfl (eK rfl) (λ afY w1 hs=>aO (by omega) ?_);refine ⟨λ m R9 a x w1=>∃ k:Nat,a = .int .i64 (i+1+Aa t.gB k)∧x = .int .i64 (k:Int)∧m=t.gB.length - k∧k≤t.gB.length∧St w bD [bK R9 (stK ns t.gB k)] w1,⟨_,0,congrArg (Value.int .i64) (by simp [Aa]),rfl,rfl,by omega,hs⟩,?_⟩;rintro m R9 _ _ w2 ⟨k,rfl,rfl,rfl,hk,hs⟩ fD
 refine aQ lX (hL.ext hs.aF) (by omega) Gc (λ _ Lg=>bT (G0).op jo Lg rfl rfl (λ _ wv=>aD bL (wv) (aZ PX hs (C163 _ _) (λ w3 he hs=>aR (aC (λ gz=>?_) (λ gz=>?_))))))
 ·obtain ⟨a,IU⟩:∃ a,t.gB[k]? = some a:=⟨_,List.getElem?_eq_getElem (by omega)⟩;have hka:=Ex.IT hT.2.1 (List.mem_of_getElem? IU);have hAk:=hT.kid IU;have hen:=hAk.end;have hdb:=a.z9;have hsl:=QE (ns:=ns) (ks:=t.gB) (k:=k);have hal:=Ex.xw ns a;refine dF afb hs (C106 _ _ _ _ _ _ (N - 1) _ (hL.ext hs.aF) (hN.ext hs.aF) hn hns hAk (by omega)) (λ x28 w4 cA hs=>?_);have ai2:=(hs).fF;refine cS hs.p1 vJ ai2 (by omega) (by decide) (λ af4 w5 hs=>have hs:=hs.p1.drop;aZ PW hs (C160 _ _ _ ((xs).length+1) _ (hL.ext hs.aF) (by omega) (by omega) (by omega)) (λ w6 he hs=>aO (by omega) ?_));exact ⟨_,by omega,k+1,congrArg (Value.int .i64) (by rw [hen.1,G4 IU]; omega),rfl,rfl,by omega,by rw [VF IU]; exact hs⟩
 ·have hsl:=QE (ns:=ns) (ks:=t.gB) (k:=k);refine aQ lX (hL.ext hs.aF) (by omega) Gc (λ _ Ac=>bT (G0).n m6 Ac rfl rfl (λ _ uf=>aD bL (uf) ?_));refine ⟨λ jv w'=>jv = .int .i64 (Ex.numOf ns G0)∧St w bD [bK R9 (stK ns t.gB k)] w',?_,?_⟩
  ·refine aQ lX (hL.ext hs.aF) (by omega) Gc (λ _ VH=>bT (G0).op jo VH rfl rfl (λ _ Ep=>aD bL (Ep) (aH (aC (λ ug=>?_) (λ ug=>?_)))))
   ·refine aQ lX (hL.ext hs.aF) (by omega) Gc (λ _ Er=>bT (G0).name lh Er rfl rfl (λ _ VI=>aD kn (VI) (aZ Bm hs (C98 _ ns _ _ (hN.ext hs.aF) (by omega)) (λ w7 he hs=>?_))));exact ⟨congrArg (Value.int .i64) (by grind [Ex.numOf]),hs⟩
   ·exact ⟨congrArg (Value.int .i64) (by grind [Ex.numOf]),hs⟩
  ·rintro _ w8 ⟨rfl,hs⟩ jH;refine aQ lX (hL.ext hs.aF) (by omega) Gc (λ _ VJ=>bT (G0).op jo VJ rfl rfl (λ _ Ei=>aD bL (Ei) (pop (ND _ _) (bV ([(⟨(G0).op,(Ex.numOf ns G0)⟩:nw)]) hs vJ rfl rfl (eK rfl) (λ s_x59 w9 hs=>?_)))));have ai3:=(hs).fF;refine cS hs.p1 vJ ai3 (by rw [hsl,List.length_singleton]; have:(t.steps ns).length=t.size:=Ex.xw ns t; rw [Ex.Eo,List.length_append,List.length_singleton,← show k=t.gB.length from by omega] at this; omega) (by decide) (λ apq pP hs=>?_);have hs:=hs.p1.drop;rw [Ex.Eo,← show k=t.gB.length from by omega,← hq]
   exact hs.fresh
termination_by N
decreasing_by omega
theorem C45 (lv nv:Value) (xs:List dC) (ns:List ByteArray) (w:World) (hL:eP (λ _=>True) w lv xs) (hN:eP (λ _=>True) w nv ns) (hn:xs.length≤1048576) (hns:ns.length≤1048576) (hnm:∀ x∈xs,x.name.size≤1048576):CR 45 [lv,nv] w (λ v w'=>∃ s,v = .tuple #[s,.int .i64 (yx ns xs)]∧lY (bK s (gk ns xs)) w w'):=by
 have hs:=St.start w;refine ahW _ _ _ _ ?_;unfold S45;refine aZ Kk hs (C105 _ _ _ (hL.ext hs.aF) hn hnm) (λ w1 he hs=>cC (aX (λ gA=>?_) (λ gA=>?_)))
 ·have h8:yx ns xs=8:=by unfold yx; rw [if_pos (by simpa using gA)]
  refine ⟨_,by rw [h8],?_⟩;unfold gk;rw [h8,if_neg (by decide)];exact (hs.fX (α:=nw)).fresh
 ·refine ⟨λ m x w1=>∃ k:Nat,x = .int .i64 (k:Int)∧m=xs.length - k∧k≤xs.length∧(∀ y∈xs.take k,(decide (y.op=2) && decide (dV ns y.name<0))=false)∧St w bD [] w1,⟨_,0,rfl,rfl,Nat.zero_le _,by simp,hs⟩,?_⟩;rintro m _ w2 ⟨k,rfl,rfl,hk,fV,hs⟩ fD;refine aJ lX (hL.ext hs.aF) (aR (aC (λ kP=>?_) (λ kP=>?_)))
  ·obtain ⟨rj,ju⟩:∃ xx,(xs)[((k:Int)).toNat]? = some xx:=⟨_,List.getElem?_eq_getElem (by omega)⟩;refine ⟨λ jv w'=>jv = .bool (decide (rj.op=2) && decide (dV ns rj.name<0))∧St w bD [] w',?_,?_⟩
   ·refine aQ lX (hL.ext hs.aF) (by omega) ju (λ _ wv=>bT (rj).op jo wv rfl rfl (λ _ jQ=>aD bL (jQ) (aH (aC (λ gz=>?_) (λ gz=>?_)))))
    ·refine aQ lX (hL.ext hs.aF) (by omega) ju (λ _ rn=>bT (rj).name lh rn rfl rfl (λ _ wx=>aD kn (wx) (aZ Bm hs (C98 _ ns _ _ (hN.ext hs.aF) (by omega)) (λ w3 he hs=>aR ?_))));exact ⟨vb (by grind),hs⟩
    ·exact ⟨vb (by grind),hs⟩
   ·rintro _ w4 ⟨rfl,hs⟩ jH;refine aX (λ lR=>?_) (λ lR=>?_)
    ·have h9:yx ns xs=9:=by unfold yx; rw [if_neg (by simpa using gA),if_pos (jI ju lR)]
     refine ⟨_,by rw [h9],?_⟩;unfold gk;rw [h9,if_neg (by decide)];exact (hs.fX (α:=nw)).fresh
    ·refine aO (by omega) ?_;exact ⟨_,by omega,k+1,rfl,rfl,by omega,eH fV ju lR,hs⟩
  ·have hre:jJ xs=true:=by simpa using gA
   have QF:=NS hre;obtain ⟨t,ht⟩:=JR.of (xs:=xs) (i:=0) (by omega);have hz:=ht.zero QF;refine dF afb hs (C106 _ _ _ _ _ t (t.size+1) _ (hL.ext hs.aF) (hN.ext hs.aF) hn hns ht (by omega)) (λ x34 w5 cA hs=>?_);rw [List.take_of_length_le (by omega)] at fV;have h0:yx ns xs=0:=by unfold yx; rw [if_neg (by simpa using gA),if_neg (by rw [iM fV]; simp)]
   refine ⟨x34,by rw [h0],?_⟩;unfold gk NR;rw [if_pos h0,hz.2];exact hs.fresh
inductive Bk where
 | nil
 | cons (x:cI) (a b r:Bk)
namespace Bk
def flat:Bk→List cI | nil=>[] | cons x a b r=>x::(a.flat++(b.flat++r.flat))
def len:Bk→Nat | nil=>0 | cons _ a b r=>a.len+b.len+r.len+1
def str:Bk→Prop | nil=>True | cons x a b r=>x.body=a.len∧x.fK=b.len∧a.len≤40∧b.len≤40∧a.str∧b.str∧r.str
def Cl (x:cI) (loops:Int):Int:=if x.kind=12 then loops+1 else loops
def Es (x:cI):Bool:=decide (x.kind=11∨x.kind=12)
def zs (x:cI) (loops:Int):Bool:=decide ((x.body≤0∨x.kind=11∨x.kind=12)∧(x.fK≤0∨x.kind=11)∧(¬ x.kind=13∨¬ loops=0))
def ok:Bk→Int→Bool | nil,_=>true | cons x a b r,n=>zs x n && a.ok (Cl x n) && b.ok (Cl x n) && r.ok n
def depth:Bk→Int | nil=>0 | cons x a b r=>if Es x then max (max (1+a.depth) (1+b.depth)) r.depth else r.depth
end Bk
theorem Bk.cT (t:Bk):t.flat.length=t.len:=by
 induction t with
 | nil=>rfl
 | cons x a b r vK xZ G6=>simp only [Bk.flat,Bk.len,List.length_cons,List.length_append,vK,xZ,G6]; omega
theorem Bk.rp (t:Bk):0≤t.depth∧t.depth≤t.len:=by
 induction t with
 | nil=>simp [Bk.depth,Bk.len]
 | cons x a b r vK xZ G6=>
  unfold Bk.depth Bk.len
  split <;> omega
def TZ:Nat→List cI→Option Bk
 | _,[]=>some .nil
 | 0,_::_=>none
 | n+1,x::l=>
  if 0≤x.body∧0≤x.fK∧x.body≤40∧x.fK≤40∧x.body+x.fK≤l.length then
   match TZ n (l.take x.body.toNat),TZ n ((l.drop x.body.toNat).take x.fK.toNat),TZ n (l.drop (x.body.toNat+x.fK.toNat)) with
   | some a,some b,some r=>some (.cons x a b r)
   | _,_,_=>none
  else none
theorem xy:∀ n l t,TZ n l=some t→l=t.flat∧t.str
 | _,[],t,h=>by
  have h:some Bk.nil=some t:=by unfold TZ at h; exact h
  cases h; exact ⟨rfl,trivial⟩
 | 0,x::l,t,h=>by cases h
 | n+1,x::l,t,h=>by
  unfold TZ at h
  split at h
  ·rename_i hb
   obtain ⟨h1,h2,h3,h4,h5⟩:=hb
   cases ha:TZ n (l.take x.body.toNat) with
   | none=>rw [ha] at h; cases h
   | some a=>
    cases hb:TZ n ((l.drop x.body.toNat).take x.fK.toNat) with
    | none=>rw [ha,hb] at h; cases h
    | some b=>
     cases hr:TZ n (l.drop (x.body.toNat+x.fK.toNat)) with
     | none=>rw [ha,hb,hr] at h; cases h
     | some r=>
      rw [ha,hb,hr] at h
      cases h
      obtain ⟨a1,a2⟩:=xy n _ _ ha
      obtain ⟨b1,b2⟩:=xy n _ _ hb
      obtain ⟨r1,r2⟩:=xy n _ _ hr
      have la:=congrArg List.length a1
      have lb:=congrArg List.length b1
      rw [Bk.cT,List.length_take] at la
      rw [Bk.cT,List.length_take,List.length_drop] at lb
      refine ⟨?_,by omega,by omega,by omega,by omega,a2,b2,r2⟩
      unfold Bk.flat
      rw [← a1,← b1,← r1,← List.drop_drop,List.take_append_drop,List.take_append_drop]
  ·cases h
theorem VK (t:Bk):t.str→∀ n,t.len≤n→TZ n t.flat=some t:=by
 induction t with
 | nil=>intro _ n _; cases n <;> rfl
 | cons x a b r vK xZ G6=>
  intro h n hn
  obtain ⟨h1,h2,h3,h4,ha,hb,hr⟩:=h
  cases n with
  | zero=>simp [Bk.len] at hn
  | succ n=>
   have hn:a.len+b.len+r.len≤n:=by simp [Bk.len] at hn; omega
   have la:=a.cT
   have lb:=b.cT
   unfold Bk.flat TZ
   rw [if_pos ⟨by omega,by omega,by omega,by omega,by simp [la,lb]; omega⟩,show x.body.toNat=a.flat.length from by omega,List.take_left,List.drop_left,show x.fK.toNat=b.flat.length from by omega,List.take_left,← List.drop_drop,List.drop_left,List.drop_left,
    vK ha n (by omega),xZ hb n (by omega),G6 hr n (by omega)]
def o0 (l:List cI):Option Bk:=TZ l.length l
theorem ny {l:List cI} {t:Bk} (h:o0 l=some t):l=t.flat∧t.str:=xy _ _ _ h
theorem o7 {t:Bk} (h:t.str):o0 t.flat=some t:=VK t h _ (by rw [Bk.cT]; exact Nat.le_refl _)
def gI (l:List cI) (loops:Int):Int:=match o0 l with | some t=>if t.ok loops then t.depth else -1 | none=>-1
theorem G7 (loops:Int):gI [] loops=0:=rfl
theorem C9 (l:List cI) (loops:Int) : -1≤gI l loops∧gI l loops≤l.length:=by
 unfold gI
 cases h:o0 l with
 | none=>simp only []; omega
 | some t=>
  obtain ⟨rfl,_⟩:=ny h
  have:=t.rp
  simp only [Bk.cT]
  split <;> omega
def Ad (x:cI) (l:List cI):Prop:=0≤x.body∧0≤x.fK∧x.body≤40∧x.fK≤40∧x.body+x.fK≤l.length
theorem Su {x:cI} {l:List cI} {loops:Int} (h:¬ (Ad x l∧Bk.zs x loops=true)):gI (x::l) loops = -1:=by
 unfold gI
 cases hb:o0 (x::l) with
 | none=>rfl
 | some t=>
  obtain ⟨he,hs⟩:=ny hb
  cases t with
  | nil=>cases he
  | cons y a b r=>
   obtain ⟨rfl,rfl⟩:=List.cons.inj he
   obtain ⟨h1,h2,h3,h4,_⟩:=hs
   have:Bk.zs x loops=false:=by
    cases hk:Bk.zs x loops with
    | false=>rfl
    | true=>exact absurd ⟨⟨by omega,by omega,by omega,by omega,by simp [Bk.cT]; omega⟩,hk⟩ h
   have h:(Bk.cons x a b r).ok loops=false:=by unfold Bk.ok; rw [this]; rfl
   simp only [h]; rfl
theorem Eu {x:cI} {l:List cI} {loops:Int} (h:Ad x l) (ho:Bk.zs x loops=true) :
  gI (x::l) loops=(let A:=gI (l.take x.body.toNat) (Bk.Cl x loops); let B:=gI ((l.drop x.body.toNat).take x.fK.toNat) (Bk.Cl x loops); let R:=gI (l.drop (x.body.toNat+x.fK.toNat)) loops
   if A<0∨B<0∨R<0 then -1 else if Bk.Es x then max (max (1+A) (1+B)) R else R):=by
 obtain ⟨h1,h2,h3,h4,h5⟩:=h
 have e:l=l.take x.body.toNat++((l.drop x.body.toNat).take x.fK.toNat++l.drop (x.body.toNat+x.fK.toNat)):=by
  rw [← List.drop_drop,List.take_append_drop,List.take_append_drop]
 have la:(l.take x.body.toNat).length=x.body.toNat:=by rw [List.length_take]; omega
 have lb:((l.drop x.body.toNat).take x.fK.toNat).length=x.fK.toNat:=by rw [List.length_take,List.length_drop]; omega
 simp only []
 have key:∀ t,o0 (x::l)=some t→∃ a b r,t = .cons x a b r∧o0 (l.take x.body.toNat)=some a∧o0 ((l.drop x.body.toNat).take x.fK.toNat)=some b∧o0 (l.drop (x.body.toNat+x.fK.toNat))=some r:=by
  intro t ht
  obtain ⟨he,hs⟩:=ny ht
  cases t with
  | nil=>cases he
  | cons y a b r=>
   obtain ⟨rfl,hl⟩:=List.cons.inj he
   obtain ⟨g1,g2,_,_,ha,hb,hr⟩:=hs
   have q1:x.body.toNat=a.flat.length:=by rw [Bk.cT]; omega
   have q2:x.fK.toNat=b.flat.length:=by rw [Bk.cT]; omega
   refine ⟨a,b,r,rfl,?_,?_,?_⟩
   ·rw [hl,q1,List.take_left]; exact o7 ha
   ·rw [hl,q1,q2,List.drop_left,List.take_left]; exact o7 hb
   ·rw [hl,← List.drop_drop,q1,q2,List.drop_left,List.drop_left]; exact o7 hr
 cases ha:o0 (l.take x.body.toNat) with
 | none=>
  have:o0 (x::l)=none:=by
   cases hh:o0 (x::l) with
   | none=>rfl
   | some t=>obtain ⟨a,b,r,_,q,_⟩:=key t hh; rw [ha] at q; cases q
  unfold gI; rw [this,ha]; simp
 | some a=>
  cases hb:o0 ((l.drop x.body.toNat).take x.fK.toNat) with
  | none=>
   have:o0 (x::l)=none:=by
    cases hh:o0 (x::l) with
    | none=>rfl
    | some t=>obtain ⟨a,b,r,_,_,q,_⟩:=key t hh; rw [hb] at q; cases q
   unfold gI; rw [this,hb]; simp
  | some b=>
   cases hr:o0 (l.drop (x.body.toNat+x.fK.toNat)) with
   | none=>
    have:o0 (x::l)=none:=by
     cases hh:o0 (x::l) with
     | none=>rfl
     | some t=>obtain ⟨a,b,r,_,_,_,q⟩:=key t hh; rw [hr] at q; cases q
    unfold gI; rw [this,hr]; simp
   | some r=>
    obtain ⟨a1,a2⟩:=ny ha
    obtain ⟨b1,b2⟩:=ny hb
    obtain ⟨r1,r2⟩:=ny hr
    have hl:x::l=(Bk.cons x a b r).flat:=by unfold Bk.flat; rw [← a1,← b1,← r1,← e]
    rw [a1,Bk.cT] at la
    rw [b1,Bk.cT] at lb
    have:o0 (x::l)=some (.cons x a b r):=by rw [hl]; exact o7 ⟨by omega,by omega,by omega,by omega,a2,b2,r2⟩
    have na:=a.rp
    have nb:=b.rp
    have nr:=r.rp
    unfold gI
    rw [this,ha,hb,hr]
    simp only [Bk.ok,ho,Bool.true_and]
    cases h1:a.ok (Bk.Cl x loops) <;> cases h2:b.ok (Bk.Cl x loops) <;> cases h3:r.ok loops <;> simp [Bk.depth]
    split <;> omega
def wy (n d:Int):Int:=if d<0 then -1 else max n d
theorem VL {xs l:List cI} {x:cI} {loops n:Int} (h:gI xs loops=wy n (gI (x::l) loops)) (hb:¬ (Ad x l∧Bk.zs x loops=true)):gI xs loops = -1:=by
 rw [h,Su hb]; rfl
theorem ai4 {xs l:List cI} {x:cI} {loops n:Int} (h:gI xs loops=wy n (gI (x::l) loops)) (hs:Ad x l) (ho:Bk.zs x loops=true) (hb:Bk.Es x=true) (A B:Int)
  (hA:A=gI (l.take x.body.toNat) (Bk.Cl x loops)) (hB:B=gI ((l.drop x.body.toNat).take x.fK.toNat) (Bk.Cl x loops)) :
  (A<0∨B<0→gI xs loops = -1)∧(¬ (A<0∨B<0)→gI xs loops=wy (max (max n (1+A)) (1+B)) (gI (l.drop (x.body.toNat+x.fK.toNat)) loops)):=by
 have hR:=C9 (l.drop (x.body.toNat+x.fK.toNat)) loops
 rw [h,Eu hs ho]
 simp only [← hA,← hB,hb,if_true]
 unfold wy
 constructor <;> intro h <;> repeat' split
 all_goals omega
theorem apr {xs l:List cI} {x:cI} {loops n:Int} (h:gI xs loops=wy n (gI (x::l) loops)) (hs:Ad x l) (ho:Bk.zs x loops=true) (hb:Bk.Es x=false) :
  gI xs loops=wy n (gI (l.drop (x.body.toNat+x.fK.toNat)) loops):=by
 have h0:x.body=0∧x.fK=0:=by
  unfold Bk.zs at ho
  unfold Bk.Es at hb
  obtain ⟨h1,h2,_⟩:=hs
  have ho:=of_decide_eq_true ho
  have hb:=of_decide_eq_false hb
  omega
 rw [h,Eu hs ho,h0.1,h0.2]
 have e1:l.take (Int.toNat 0)=[]:=rfl
 have e2:(l.drop (Int.toNat 0)).take (Int.toNat 0)=[]:=rfl
 simp only [hb,e1,e2,G7]
 unfold wy
 repeat' split
 all_goals first | omega | simp_all
theorem drop_cons {α:Type} {xs:List α} {k:Nat} {x:α} (h:xs[k]? = some x):xs.drop k=x::xs.drop (k+1):=by
 obtain ⟨h1,h2⟩:=List.getElem?_eq_some_iff.1 h
 rw [List.drop_eq_getElem_cons h1,h2]
theorem Ev {α:Type} (xs:List α) {a b c n:Nat} (h:b=a+n) (hc:c=a):(xs.take b).drop c=(xs.drop a).take n:=by
 subst h hc; rw [List.drop_take,Nat.add_sub_cancel_left]
def acF:List ByteArray:=[⟨#[]⟩,⟨#[114,101]⟩,⟨#[114,110]⟩,⟨#[110,101]⟩,⟨#[114,110,101,102]⟩,⟨#[110]⟩,⟨#[110]⟩,⟨#[]⟩,⟨#[]⟩,⟨#[110]⟩,⟨#[110]⟩,⟨#[101,98]⟩,⟨#[107,98]⟩,⟨#[]⟩,⟨#[101]⟩]
def ki (k:Int):ByteArray:=if k<1∨14<k then ⟨#[]⟩ else acF.getD k.toNat ⟨#[]⟩
def ew (s:ByteArray) (c:Int):Bool:=(lr s).any λ b=>decide ((b.toNat:Int)=c)
def rq (x:cI):Bool:=
 !(decide (x.kind<1) || decide (14<x.kind) || decide (x.at_<0) || decide (4000<x.at_)) &&
 !((ew (ki x.kind) 114 != j9 x.gQ) || (!ew (ki x.kind) 114 && decide (¬ x.gQ=⟨#[]⟩)) || (ew (ki x.kind) 110 != j9 x.name) || (!ew (ki x.kind) 110 && decide (¬ x.name=⟨#[]⟩))) &&
 !((ew (ki x.kind) 101 != jJ x.e) || (!ew (ki x.kind) 101 && decide (0<x.e.length)) || (ew (ki x.kind) 102 != jJ x.f) || (!ew (ki x.kind) 102 && decide (0<x.f.length))) &&
 (if ew (ki x.kind) 107=true then decide (1≤x.n∧x.n≤8) else decide (x.n=0))
def u7 (l:List cI):Bool:=decide (l.length≤40) && !l.any (λ x=>!rq x) && decide (0≤gI l 0∧gI l 0≤12)
def u9 (n:Int):Bool:=decide (0≤n∧n≤4000)
def nn (Lm:Int) (c:dL):Bool:=!j9 c.name || decide (c.n<0) || decide (Lm<c.n) || !u9 c.at_
def td (Lm:Int) (l:List dL):Bool:=!l.any (nn Lm)
def va (nb:Bool) (t:dX):Bool:=(nb != j9 t.name) || (!nb && decide (¬ t.name=⟨#[]⟩)) || !u9 t.at_ || !u7 t.body
def wz (nb:Bool) (t:dX):Bool:=va nb t || t.aK.any (λ s=>!j9 s)
def oq (nb:Bool) (l:List dX):Bool:=!l.any (wz nb)
def xz (l:List dL):Bool:=decide ((l.length:Int)=0) || !td 4294967296 l
def uh (c:jG):Bool:=!u9 c.at_ || !jJ c.e
def mh (p:cY):Bool:=!p.lines.any xz && !p.cD.any uh && (td 4294967296 p.jY && td 0 p.locks && oq true p.threads && oq false p.recover && decide (p.recover.length≤1))
def SzS (x:cI):Prop:=x.gQ.size≤1048576∧x.name.size≤1048576∧x.e.length≤1048576∧x.f.length≤1048576∧(∀ y∈x.e,y.name.size≤1048576)∧(∀ y∈x.f,y.name.size≤1048576)
def SzT (t:dX):Prop:=t.name.size≤1048576∧(∀ s∈t.aK,s.size≤1048576)∧(∀ x∈t.body,SzS x)
structure PZ (p:cY):Prop extends PS p where
 zl:∀ l∈p.lines,∀ c∈l,c.name.size≤1048576
 zv:∀ c∈p.jY,c.name.size≤1048576
 zk:∀ c∈p.locks,c.name.size≤1048576
 zt:∀ t∈p.threads,SzT t
 zr:∀ t∈p.recover,SzT t
 zc:∀ c∈p.cD,c.e.length≤1048576∧∀ y∈c.e,y.name.size≤1048576
theorem Ew (k:Int):(ki k).size≤1048576:=by
 unfold ki
 split
 ·decide
 ·rename_i h
  obtain rfl | rfl | rfl | rfl | rfl | rfl | rfl | rfl | rfl | rfl | rfl | rfl | rfl | rfl:k=1∨k=2∨k=3∨k=4∨k=5∨k=6∨k=7∨k=8∨k=9∨k=10∨k=11∨k=12∨k=13∨k=14:=by omega
  all_goals decide
theorem C251 (k:Int) (w:World):CR 251 [.int .i64 k] w (λ v w'=>v = .string (ki k)∧Ext w w'):=by
 have hs:=St.start w;refine abJ _ _ _ ?_;unfold S251;refine ⟨λ jv w'=>jv = .bool (decide (k<1∨14<k))∧w=w',?_,?_⟩
 ·refine aR (aC (λ pU=>?_) (λ pU=>?_))
  ·exact ⟨H9 (by omega),rfl⟩
  ·refine dB ?_;exact ⟨vQ (by omega),rfl⟩
 ·rintro _ w1 ⟨rfl,hw⟩ fD;subst hw;refine aC (λ gu=>?_) (λ gu=>?_)
  ·refine ⟨?_,hs.aF⟩;unfold ki;rw [if_pos gu]
  ·refine bV (acF) hs mY rfl rfl (eK rfl) (λ aps w2 hs=>?_);have Lh:acF.length=15:=rfl;obtain ⟨af5,wA⟩:=gx (acF) (i:=(k).toNat) (by omega);refine dS hs mY (by omega) (by omega) (λ _ Ln=>fY hs kn Ln wA ?_);refine ⟨?_,hs.aF⟩;unfold ki;rw [if_neg gu,List.getD_eq_getElem?_getD,wA]; rfl
theorem C252 (s:ByteArray) (c:Int) (w:World) (hn:s.size≤1048576):CR 252 [.string s,.int .u8 c] w (λ v w'=>v = .bool (ew s c)∧Ext w w'):=by
 have hs:=St.start w;refine abK _ _ _ _ ?_;unfold S252;refine ⟨λ m x w1=>∃ k:Nat,x = .int .i64 (k:Int)∧m=(lr s).length - k∧k≤(lr s).length∧(∀ y∈(lr s).take k,decide ((y.toNat:Int)=c)=false)∧St w bD [] w1,⟨_,0,rfl,rfl,Nat.zero_le _,by simp,hs⟩,?_⟩;rintro m _ w1 ⟨k,rfl,rfl,hk,fV,hs⟩ fD;rw [ei] at hk;have yR:=ei s;refine gi gN (aR (aC (λ gA=>?_) (λ gA=>?_)))
 ·obtain ⟨js,dI⟩:∃ xx,(lr (s))[((k:Int)).toNat]? = some xx:=⟨_,List.getElem?_eq_getElem (by rw [ei]; omega)⟩;refine lO gN (by omega) dI (od (aC (λ eE=>?_) (λ eE=>?_)))
  ·exact ⟨vb (jI dI (decide_eq_true eE)).symm,hs.aF⟩
  ·refine aO (by omega) ?_;exact ⟨_,by omega,k+1,rfl,rfl,by omega,eH fV dI (decide_eq_false eE),hs⟩
 ·rw [List.take_of_length_le (by omega)] at fV;exact ⟨vb (iM fV).symm,hs.aF⟩
theorem C230 (x:cI) (xv:bY) (w:World) (hx:bZ.dr w xv x) (hz:SzS x):CR 230 [Flat.val xv] w (λ v w'=>v = .bool (rq x)∧Ext w w'):=by
 obtain ⟨Ae,Af,rfl,Lo,G8⟩:=hx;have hs:=St.start w;refine abm _ _ _ ?_;unfold S230;refine dJ hs (λ VM w1 hs=>?_);refine ⟨λ jv w'=>jv = .bool (decide (x.kind<1) || decide (14<x.kind) || decide (x.at_<0) || decide (4000<x.at_))∧St w bD [cH VM (Flat.enc (⟨(x).kind,(x).gQ,(x).name,Ae,Af,(x).n,(x).body,(x).fK,(x).at_⟩:bY))] w',?_,?_⟩
 ·refine aA fC (aB (v:=.int .i64 ((x).kind)) bL hs.hb rfl (aR (aC (λ fR=>?_) (λ fR=>?_))))
  ·exact ⟨vb (by grind),hs⟩
  ·refine aA fC (aB (v:=.int .i64 ((x).kind)) bL hs.hb rfl (dB (aC (λ gX=>?_) (λ gX=>?_))))
   ·exact ⟨vb (by grind),hs⟩
   ·refine aA qZ (aB (v:=.int .i64 ((x).at_)) bL hs.hb rfl (aR (aC (λ fB=>?_) (λ fB=>?_))))
    ·exact ⟨vb (by grind),hs⟩
    ·refine aA qZ (aB (v:=.int .i64 ((x).at_)) bL hs.hb rfl (dB ?_));exact ⟨vb (by grind),hs⟩
 ·rintro _ w2 ⟨rfl,hs⟩ fD;refine aX (λ fT=>?_) (λ fT=>?_)
  ·refine ⟨vb ?_,hs.drop.aF⟩;unfold rq;simp only [*]
   first | done | rfl | simp
  ·refine aA fC (aB (v:=.int .i64 ((x).kind)) bL hs.hb rfl (aZ aoE hs (C251 _ _) (λ w3 he hs=>aZ Kq hs (C252 _ _ _ (Ew _)) (λ w4 he hs=>aZ Kq hs (C252 _ _ _ (Ew _)) (λ w5 he hs=>aZ Kq hs (C252 _ _ _ (Ew _)) (λ w6 he hs=>aZ Kq hs (C252 _ _ _ (Ew _)) (λ w7 he hs=>?_)))))));refine ⟨λ jv w'=>jv = .bool ((ew (ki x.kind) 114 != j9 x.gQ) || (!ew (ki x.kind) 114 && decide (¬ x.gQ=⟨#[]⟩)) || (ew (ki x.kind) 110 != j9 x.name) || (!ew (ki x.kind) 110 && decide (¬ x.name=⟨#[]⟩)))∧St w bD [cH VM (Flat.enc (⟨(x).kind,(x).gQ,(x).name,Ae,Af,(x).n,(x).body,(x).fK,(x).at_⟩:bY))] w',?_,?_⟩
   ·refine aA l7 (aB (v:=.string ((x).gQ)) kn hs.hb rfl (aZ tK hs (C161 _ _ hz.1) (λ w8 he hs=>pG KB (aX (λ jD=>?_) (λ jD=>?_)))))
    ·exact ⟨vb (by grind),hs⟩
    ·refine cC (aX (λ sB=>?_) (λ sB=>?_))
     ·refine aA l7 (aB (v:=.string ((x).gQ)) kn hs.hb rfl (oW (aC (λ Ag=>?_) (λ Ag=>?_))))
      ·exact ⟨vb (by grind),hs⟩
      ·refine aA jq (aB (v:=.string ((x).name)) kn hs.hb rfl (aZ tK hs (C161 _ _ hz.2.1) (λ w9 he hs=>pG KB (aX (λ VG=>?_) (λ VG=>?_)))))
       ·exact ⟨vb (by grind),hs⟩
       ·refine cC (aX (λ GY=>?_) (λ GY=>?_))
        ·refine aA jq (aB (v:=.string ((x).name)) kn hs.hb rfl (oW ?_));exact ⟨vb (by grind),hs⟩
        ·exact ⟨vb (by grind),hs⟩
     ·refine aA jq (aB (v:=.string ((x).name)) kn hs.hb rfl (aZ tK hs (C161 _ _ hz.2.1) (λ pP he hs=>pG KB (aX (λ IV=>?_) (λ IV=>?_)))))
      ·exact ⟨vb (by grind),hs⟩
      ·refine cC (aX (λ acG=>?_) (λ acG=>?_))
       ·refine aA jq (aB (v:=.string ((x).name)) kn hs.hb rfl (oW ?_));exact ⟨vb (by grind),hs⟩
       ·exact ⟨vb (by grind),hs⟩
   ·rintro _ sZ ⟨rfl,hs⟩ jH;refine aX (λ Lk=>?_) (λ Lk=>?_)
    ·refine ⟨vb ?_,hs.drop.aF⟩;unfold rq;simp only [*]
     first | done | rfl | simp
    ·refine ⟨λ jv w'=>jv = .bool ((ew (ki x.kind) 101 != jJ x.e) || (!ew (ki x.kind) 101 && decide (0<x.e.length)) || (ew (ki x.kind) 102 != jJ x.f) || (!ew (ki x.kind) 102 && decide (0<x.f.length)))∧St w bD [cH VM (Flat.enc (⟨(x).kind,(x).gQ,(x).name,Ae,Af,(x).n,(x).body,(x).fK,(x).at_⟩:bY))] w',?_,?_⟩
     ·refine aA l8 (aB mX hs.hb rfl ?_);have hf4:=DL.flat (Lo);refine aZ Kk hs (C105 _ _ _ (hf4.ext hs.aF) hz.2.2.1 hz.2.2.2.2.1) (λ vy he hs=>pG KB (aX (λ ry=>?_) (λ ry=>?_)))
      ·exact ⟨vb (by grind),hs⟩
      ·refine cC (aX (λ Lp=>?_) (λ Lp=>?_))
       ·refine aA l8 (aB mX hs.hb rfl (aJ lX (hf4.ext hs.aF) (dB (aC (λ Lq=>?_) (λ Lq=>?_)))))
        ·exact ⟨vb (by grind),hs⟩
        ·refine aA nZ (aB mX hs.hb rfl ?_);have hf5:=DL.flat (G8);refine aZ Kk hs (C105 _ _ _ (hf5.ext hs.aF) hz.2.2.2.1 hz.2.2.2.2.2) (λ vz he hs=>pG KB (aX (λ Ah=>?_) (λ Ah=>?_)))
         ·exact ⟨vb (by grind),hs⟩
         ·refine cC (aX (λ VN=>?_) (λ VN=>?_))
          ·refine aA nZ (aB mX hs.hb rfl (aJ lX (hf5.ext hs.aF) (dB ?_)));exact ⟨vb (by grind),hs⟩
          ·exact ⟨vb (by grind),hs⟩
       ·refine aA nZ (aB mX hs.hb rfl ?_);have hf6:=DL.flat (G8);refine aZ Kk hs (C105 _ _ _ (hf6.ext hs.aF) hz.2.2.2.1 hz.2.2.2.2.2) (λ su he hs=>pG KB (aX (λ acH=>?_) (λ acH=>?_)))
        ·exact ⟨vb (by grind),hs⟩
        ·refine cC (aX (λ acI=>?_) (λ acI=>?_))
         ·refine aA nZ (aB mX hs.hb rfl (aJ lX (hf6.ext hs.aF) (dB ?_)));exact ⟨vb (by grind),hs⟩
         ·exact ⟨vb (by grind),hs⟩
     ·rintro _ wm ⟨rfl,hs⟩ oY;refine aX (λ apt=>?_) (λ apt=>?_)
      ·refine ⟨vb ?_,hs.drop.aF⟩;unfold rq;simp only [*]
       first | done | rfl | simp
      ·refine aZ Kq hs (C252 _ _ _ (Ew _)) (λ zq he hs=>aX (λ Bz=>?_) (λ Bz=>?_))
       ·refine ⟨λ jv w'=>jv = .bool (decide (1≤x.n∧x.n≤8))∧St w bD [cH VM (Flat.enc (⟨(x).kind,(x).gQ,(x).name,Ae,Af,(x).n,(x).body,(x).fK,(x).at_⟩:bY))] w',?_,?_⟩
        ·refine aA tV (aB (v:=.int .i64 ((x).n)) bL hs.hb rfl (dK (aC (λ ai7=>?_) (λ ai7=>?_))))
         ·refine aA tV (aB (v:=.int .i64 ((x).n)) bL hs.hb rfl (kj ?_));exact ⟨vb (by grind),hs⟩
         ·exact ⟨vb (by grind),hs⟩
        ·rintro _ CH ⟨rfl,hs⟩ G9;refine ⟨vb ?_,hs.drop.aF⟩;unfold rq;simp only [*]
         first | done | rfl | simp
       ·refine aA tV (aB (v:=.int .i64 ((x).n)) bL hs.hb rfl (aH ?_));refine ⟨vb ?_,hs.drop.aF⟩;unfold rq;simp only [*]
        first | done | rfl | simp
theorem C231 (lv:Value) (xs:List cI) (loops:Int) (N:Nat) (w:World) (hL:DL w lv xs) (hn:xs.length≤1048576) (hlo:0≤loops) (QG:loops+N≤4194304) (hN:xs.length<N):CR 231 [lv,.int .i64 loops] w (λ v w'=>v = .int .i64 (gI xs loops)∧Ext w w'):=by
 have hs:=St.start w;refine abn _ _ _ _ ?_;unfold S231;refine ⟨λ m y x w1=>∃ (k:Nat) (n:Int),y = .int .i64 n∧x = .int .i64 (k:Int)∧m=xs.length - k∧k≤xs.length∧0≤n∧n≤41∧gI xs loops=wy n (gI (xs.drop k) loops)∧St w bD [] w1,⟨_,0,0,rfl,rfl,rfl,by omega,by omega,by omega,by have:=C9 xs loops; rw [List.drop_zero]; unfold wy; split <;> omega,hs⟩,?_⟩;rintro m _ _ w1 ⟨k,n,rfl,rfl,rfl,hk,hn0,Vz,hinv,hs⟩ fD;obtain ⟨ts7,Zb,hD7⟩:=(hL).open;have hn7:=hD7.1;refine aJ kh (Zb.ext hs.aF) (aR (aC (λ jt=>?_) (λ jt=>?_)))
 ·obtain ⟨rj,ju⟩:=gx ts7 (i:=((k:Int)).toNat) (by omega);obtain ⟨cJ,VO⟩:=gx (xs) (i:=((k:Int)).toNat) (by omega);obtain ⟨vc,vd,rfl,atH,atI⟩:=hD7.2 _ _ _ ju VO;refine aQ kh (Zb.ext hs.aF) (by omega) ju (λ _ wv=>?_);have hdk:=drop_cons (xs:=xs) (k:=k) VO;rw [hdk] at hinv;have hdl:(xs.drop (k+1)).length=xs.length - (k+1):=List.length_drop;refine aD gb (wv) (aN hs qI (λ BA w2 hs=>aI (x:=(⟨(cJ).kind,(cJ).gQ,(cJ).name,vc,vd,(cJ).n,(cJ).body,(cJ).fK,(cJ).at_⟩:bY)) hs gb rfl rfl (λ w3 hs=>?_)));refine ⟨λ jv w'=>jv = .bool (decide (cJ.body<0) || decide (cJ.fK<0) || decide (40<cJ.body) || decide (40<cJ.fK) || decide ((xs.length:Int)<k+1+cJ.body+cJ.fK))∧St w bD [cH BA (Flat.enc (⟨(cJ).kind,(cJ).gQ,(cJ).name,vc,vd,(cJ).n,(cJ).body,(cJ).fK,(cJ).at_⟩:bY))] w',?_,?_⟩
  ·refine aA m7 (aB (v:=.int .i64 ((cJ).body)) bL hs.hb rfl (aR (aC (λ iT=>?_) (λ iT=>?_))))
   ·exact ⟨vb (by grind),hs⟩
   ·refine aA iR (aB (v:=.int .i64 ((cJ).fK)) bL hs.hb rfl (aR (aC (λ sC=>?_) (λ sC=>?_))))
    ·exact ⟨vb (by grind),hs⟩
    ·refine aA m7 (aB (v:=.int .i64 ((cJ).body)) bL hs.hb rfl (dB (aC (λ lR=>?_) (λ lR=>?_))))
     ·exact ⟨vb (by grind),hs⟩
     ·refine aA iR (aB (v:=.int .i64 ((cJ).fK)) bL hs.hb rfl (dB (aC (λ lx=>?_) (λ lx=>?_))))
      ·exact ⟨vb (by grind),hs⟩
      ·refine aO (by omega) (aA m7 (aB (v:=.int .i64 ((cJ).body)) bL hs.hb rfl (aO (by omega) (aA iR (aB (v:=.int .i64 ((cJ).fK)) bL hs.hb rfl (aO (by omega) (aJ kh (Zb.ext hs.aF) (dB ?_))))))));exact ⟨vb (by grind),hs⟩
  ·rintro _ w4 ⟨rfl,hs⟩ jH;refine aX (λ pX=>?_) (λ pX=>?_)
   ·exact ⟨congrArg (Value.int .i64) (VL hinv (by unfold Ad; grind)).symm,hs.drop.aF⟩
   ·have lF:Ad cJ (xs.drop (k+1)):=by unfold Ad; grind
    refine ⟨λ jv w'=>jv = .bool (!Bk.zs cJ loops)∧St w bD [cH BA (Flat.enc (⟨(cJ).kind,(cJ).gQ,(cJ).name,vc,vd,(cJ).n,(cJ).body,(cJ).fK,(cJ).at_⟩:bY))] w',?_,?_⟩
    ·refine aA m7 (aB (v:=.int .i64 ((cJ).body)) bL hs.hb rfl (dB (aC (λ Cm=>?_) (λ Cm=>?_))))
     ·refine aA fC (aB (v:=.int .i64 ((cJ).kind)) bL hs.hb rfl (cR (aC (λ Ha=>?_) (λ Ha=>?_))))
      ·refine aA fC (aB (v:=.int .i64 ((cJ).kind)) bL hs.hb rfl (cR (aC (λ sD=>?_) (λ sD=>?_))))
       ·exact ⟨vb (by unfold Bk.zs; grind),hs⟩
       ·refine aA iR (aB (v:=.int .i64 ((cJ).fK)) bL hs.hb rfl (dB (aC (λ ot=>?_) (λ ot=>?_))))
        ·refine aA fC (aB (v:=.int .i64 ((cJ).kind)) bL hs.hb rfl (cR (aC (λ ry=>?_) (λ ry=>?_))))
         ·exact ⟨vb (by unfold Bk.zs; grind),hs⟩
         ·refine aA fC (aB (v:=.int .i64 ((cJ).kind)) bL hs.hb rfl (aH (aC (λ Lr=>?_) (λ Lr=>?_))))
          ·refine aH ?_;exact ⟨vb (by unfold Bk.zs; grind),hs⟩
          ·exact ⟨vb (by unfold Bk.zs; grind),hs⟩
        ·refine aA fC (aB (v:=.int .i64 ((cJ).kind)) bL hs.hb rfl (aH (aC (λ acJ=>?_) (λ acJ=>?_))))
         ·refine aH ?_;exact ⟨vb (by unfold Bk.zs; grind),hs⟩
         ·exact ⟨vb (by unfold Bk.zs; grind),hs⟩
      ·refine aA iR (aB (v:=.int .i64 ((cJ).fK)) bL hs.hb rfl (dB (aC (λ acK=>?_) (λ acK=>?_))))
       ·refine aA fC (aB (v:=.int .i64 ((cJ).kind)) bL hs.hb rfl (cR (aC (λ acL=>?_) (λ acL=>?_))))
        ·exact ⟨vb (by unfold Bk.zs; grind),hs⟩
        ·refine aA fC (aB (v:=.int .i64 ((cJ).kind)) bL hs.hb rfl (aH (aC (λ acM=>?_) (λ acM=>?_))))
         ·refine aH ?_;exact ⟨vb (by unfold Bk.zs; grind),hs⟩
         ·exact ⟨vb (by unfold Bk.zs; grind),hs⟩
       ·refine aA fC (aB (v:=.int .i64 ((cJ).kind)) bL hs.hb rfl (aH (aC (λ acN=>?_) (λ acN=>?_))))
        ·refine aH ?_;exact ⟨vb (by unfold Bk.zs; grind),hs⟩
        ·exact ⟨vb (by unfold Bk.zs; grind),hs⟩
     ·refine aA iR (aB (v:=.int .i64 ((cJ).fK)) bL hs.hb rfl (dB (aC (λ acO=>?_) (λ acO=>?_))))
      ·refine aA fC (aB (v:=.int .i64 ((cJ).kind)) bL hs.hb rfl (cR (aC (λ acP=>?_) (λ acP=>?_))))
       ·exact ⟨vb (by unfold Bk.zs; grind),hs⟩
       ·refine aA fC (aB (v:=.int .i64 ((cJ).kind)) bL hs.hb rfl (aH (aC (λ acQ=>?_) (λ acQ=>?_))))
        ·refine aH ?_;exact ⟨vb (by unfold Bk.zs; grind),hs⟩
        ·exact ⟨vb (by unfold Bk.zs; grind),hs⟩
      ·refine aA fC (aB (v:=.int .i64 ((cJ).kind)) bL hs.hb rfl (aH (aC (λ acR=>?_) (λ acR=>?_))))
       ·refine aH ?_;exact ⟨vb (by unfold Bk.zs; grind),hs⟩
       ·exact ⟨vb (by unfold Bk.zs; grind),hs⟩
    ·rintro _ w5 ⟨rfl,hs⟩ oY;refine aX (λ Ai=>?_) (λ Ai=>?_)
     ·exact ⟨congrArg (Value.int .i64) (VL hinv (by grind)).symm,hs.drop.aF⟩
     ·have oM:Bk.zs cJ loops=true:=by grind
      have awU:=lF;unfold Ad at awU;refine aO (by omega) (aA m7 (have hs:=hs.drew;aB (v:=.int .i64 ((cJ).body)) bL hs.hb rfl (aO (by omega) ?_)));refine ⟨λ jv w'=>jv = .int .i64 (Bk.Cl cJ loops)∧St w bD [cH BA (Flat.enc (⟨(cJ).kind,(cJ).gQ,(cJ).name,vc,vd,(cJ).n,(cJ).body,(cJ).fK,(cJ).at_⟩:bY))] w',?_,?_⟩
      ·refine aA fC (aB (v:=.int .i64 ((cJ).kind)) bL hs.hb rfl (aH (aC (λ VN=>?_) (λ VN=>?_))))
       ·refine aO (by omega) ?_;exact ⟨congrArg (Value.int .i64) (by unfold Bk.Cl; grind),hs⟩
       ·exact ⟨congrArg (Value.int .i64) (by unfold Bk.Cl; grind),hs⟩
      ·rintro _ w6 ⟨rfl,hs⟩ G9;have vx:loops≤Bk.Cl cJ loops∧Bk.Cl cJ loops≤loops+1:=by unfold Bk.Cl; split <;> omega
       refine ⟨λ jv w'=>∃ n':Int,jv = .int .i64 n'∧0≤n'∧n'≤41∧gI xs loops=wy n' (gI (xs.drop (k+1+(cJ.body.toNat+cJ.fK.toNat))) loops)∧St w bD [cH BA (Flat.enc (⟨(cJ).kind,(cJ).gQ,(cJ).name,vc,vd,(cJ).n,(cJ).body,(cJ).fK,(cJ).at_⟩:bY))] w',?_,?_⟩
       ·refine ⟨λ jv w'=>jv = .bool (decide (cJ.kind=11) || decide (cJ.kind=12))∧St w bD [cH BA (Flat.enc (⟨(cJ).kind,(cJ).gQ,(cJ).name,vc,vd,(cJ).n,(cJ).body,(cJ).fK,(cJ).at_⟩:bY))] w',?_,?_⟩
        ·refine aA fC (aB (v:=.int .i64 ((cJ).kind)) bL hs.hb rfl (aH (aC (λ apu=>?_) (λ apu=>?_))))
         ·exact ⟨vb (by grind),hs⟩
         ·refine aA fC (aB (v:=.int .i64 ((cJ).kind)) bL hs.hb rfl (aH ?_));exact ⟨vb (by grind),hs⟩
        ·rintro _ w7 ⟨rfl,hs⟩ Sv;refine aX (λ Ey=>?_) (λ Ey=>?_)
         ·refine aO (by omega) (kB kh (Zb.ext hs.aF) (by omega) (by omega) (by omega) (λ awV acS=>?_));have acT:=DL.cut acS Zb hD7;refine aA iR (have hs:=hs.drew;aB (v:=.int .i64 ((cJ).fK)) bL hs.hb rfl (aO (by omega) (kB kh (Zb.ext hs.aF) (by omega) (by omega) (by omega) (λ awW acU=>?_))));have acV:=DL.cut acU Zb hD7;have hcA:(((xs).take (((k:Int)+1)+(cJ).body).toNat).drop ((k:Int)+1).toNat)=(xs.drop (k+1)).take (cJ).body.toNat:=Ev xs (by omega) (by omega);have hcB:(((xs).take ((((k:Int)+1)+(cJ).body)+(cJ).fK).toNat).drop (((k:Int)+1)+(cJ).body).toNat)=((xs.drop (k+1)).drop (cJ).body.toNat).take (cJ).fK.toNat:=by rw [List.drop_drop]; exact Ev xs (by omega) (by omega)
          have hlA:(((xs).take (((k:Int)+1)+(cJ).body).toNat).drop ((k:Int)+1).toNat).length≤xs.length - 1∧(((xs).take (((k:Int)+1)+(cJ).body).toNat).drop ((k:Int)+1).toNat).length≤40:=by rw [hcA,List.length_take]; omega
          have hlB:(((xs).take ((((k:Int)+1)+(cJ).body)+(cJ).fK).toNat).drop (((k:Int)+1)+(cJ).body).toNat).length≤xs.length - 1∧(((xs).take ((((k:Int)+1)+(cJ).body)+(cJ).fK).toNat).drop (((k:Int)+1)+(cJ).body).toNat).length≤40:=by rw [hcB,List.length_take,List.length_drop]; omega
          refine aZ UM hs (C231 _ _ _ (N - 1) _ (acT.ext hs.aF) (by omega) (by omega) (by omega) (by omega)) (λ w8 he hs=>?_);refine ⟨aG bL (hs.hb.cell rfl),?_⟩;refine eA UM (C231 _ _ _ (N - 1) _ (acV.ext hs.aF) (by omega) (by omega) (by omega) (by omega)) ?_;rintro _ w9 ⟨rfl,he⟩;have hs:=hs.ext he;obtain ⟨A,hA⟩:∃ A,A=gI (((xs).take (((k:Int)+1)+(cJ).body).toNat).drop ((k:Int)+1).toNat) (Bk.Cl cJ loops):=⟨_,rfl⟩;obtain ⟨B,hB⟩:∃ B,B=gI (((xs).take ((((k:Int)+1)+(cJ).body)+(cJ).fK).toNat).drop (((k:Int)+1)+(cJ).body).toNat) (Bk.Cl cJ loops):=⟨_,rfl⟩;have hAb:=C9 (((xs).take (((k:Int)+1)+(cJ).body).toNat).drop ((k:Int)+1).toNat) (Bk.Cl cJ loops)
          have hBb:=C9 (((xs).take ((((k:Int)+1)+(cJ).body)+(cJ).fK).toNat).drop (((k:Int)+1)+(cJ).body).toNat) (Bk.Cl cJ loops);rw [← hA] at hAb;rw [← hB] at hBb;rw [← hA,← hB];have hdb:=ai4 hinv lF oM (by unfold Bk.Es; grind) A B (by rw [hA,hcA]) (by rw [hB,hcB]);refine ⟨λ jv w'=>jv = .bool (decide (A<0∨B<0))∧St w bD [cH BA (Flat.enc (⟨(cJ).kind,(cJ).gQ,(cJ).name,vc,vd,(cJ).n,(cJ).body,(cJ).fK,(cJ).at_⟩:bY))] w',?_,?_⟩
          ·refine aR (aC (λ aja=>?_) (λ aja=>?_))
           ·exact ⟨vb (by grind),hs⟩
           ·refine aR ?_;exact ⟨vb (by grind),hs⟩
          ·rintro _ pP ⟨rfl,hs⟩ dd6;refine aX (λ NT=>?_) (λ NT=>?_)
           ·exact ⟨congrArg (Value.int .i64) (hdb.1 (of_decide_eq_true NT)).symm,hs.drop.aF⟩
           ·refine aO (by omega) (aO (by omega) (Vm ?_));have apv:=hdb.2 (of_decide_eq_false NT);rw [List.drop_drop] at apv;exact ⟨_,rfl,by omega,by omega,apv,hs⟩
         ·have hdn:=apr hinv lF oM (by unfold Bk.Es; grind);rw [List.drop_drop] at hdn;exact ⟨_,rfl,hn0,Vz,hdn,hs⟩
       ·rintro _ sZ ⟨n',rfl,awY,awZ,apw,hs⟩ dd7;refine aA iR (aB (v:=.int .i64 ((cJ).fK)) bL hs.hb rfl (aO (by omega) ?_));exact ⟨_,by omega,k+1+((cJ).body.toNat+(cJ).fK.toNat),n',rfl,congrArg (Value.int .i64) (by omega),rfl,by omega,awY,awZ,apw,hs.drop⟩
 ·rw [List.drop_eq_nil_of_le (by omega),G7] at hinv;exact ⟨congrArg (Value.int .i64) (by rw [hinv]; unfold wy; omega),hs.aF⟩
termination_by N
decreasing_by all_goals omega
theorem C205 (lv:Value) (xs:List cI) (w:World) (hL:DL w lv xs) (hn:xs.length≤1048576) (hz:∀ x∈xs,SzS x):CR 205 [lv] w (λ v w'=>v = .bool (u7 xs)∧Ext w w'):=by
 have hs:=St.start w;refine aaZ _ _ _ ?_;unfold S205;obtain ⟨Zc,hR8,hD8⟩:=(hL).open;have hn8:=hD8.1;refine aJ kh (hR8.ext hs.aF) (dB (aC (λ iX=>?_) (λ iX=>?_)))
 ·refine ⟨vb ?_,hs.aF⟩;unfold u7;rw [decide_eq_false (by omega)]; rfl
 ·refine ⟨λ m x w1=>∃ k:Nat,x = .int .i64 (k:Int)∧m=xs.length - k∧k≤xs.length∧(∀ y∈xs.take k,(!rq y)=false)∧St w bD [] w1,⟨_,0,rfl,rfl,Nat.zero_le _,by simp,hs⟩,?_⟩;rintro m _ w1 ⟨k,rfl,rfl,hk,fV,hs⟩ fD;refine aJ kh (hR8.ext hs.aF) (aR (aC (λ gW=>?_) (λ gW=>?_)))
  ·obtain ⟨Hb,kU⟩:=gx Zc (i:=((k:Int)).toNat) (by omega);obtain ⟨mJ,kV⟩:=gx (xs) (i:=((k:Int)).toNat) (by omega);obtain ⟨acW,acX,rfl,acY,acZ⟩:=hD8.2 _ _ _ kU kV;refine aQ kh (hR8.ext hs.aF) (by omega) kU (λ _ ud=>aD gb (ud) (aZ aoq hs (C230 mJ _ _ ⟨acW,acX,rfl,(acY).ext hs.aF,(acZ).ext hs.aF⟩ (hz _ (List.mem_of_getElem? kV))) (λ w2 he hs=>cC (aX (λ fB=>?_) (λ fB=>?_)))))
   ·refine ⟨vb ?_,hs.aF⟩;unfold u7;rw [jI kV fB]; simp
   ·refine aO (by omega) ?_;exact ⟨_,by omega,k+1,rfl,rfl,by omega,eH fV kV fB,hs⟩
  ·refine aZ UM hs (C231 _ _ _ (xs.length+1) _ (hL.ext hs.aF) (by omega) (by omega) (by omega) (by omega)) (λ w3 he hs=>?_);refine ⟨λ jv w'=>jv = .bool (decide (0≤gI xs 0∧gI xs 0≤12))∧St w bD [] w',?_,?_⟩
   ·refine dK (aC (λ iV=>?_) (λ iV=>?_))
    ·refine kj ?_;exact ⟨vb (by grind),hs⟩
    ·exact ⟨vb (by grind),hs⟩
   ·rintro _ w4 ⟨rfl,hs⟩ jH;rw [List.take_of_length_le (by omega)] at fV;refine ⟨vb ?_,hs.aF⟩;unfold u7;rw [iM fV,decide_eq_true (show xs.length≤40 by omega)]; rfl
theorem C156 (n:Int) (w:World):CR 156 [.int .i64 n] w (λ v w'=>v = .bool (u9 n)∧Ext w w'):=by
 have hs:=St.start w;refine aaj _ _ _ ?_;unfold S156;refine ⟨λ jv w'=>jv = .bool (decide (0≤n∧n≤4000))∧w=w',?_,?_⟩
 ·refine dK (aC (λ pU=>?_) (λ pU=>?_))
  ·refine kj ?_;exact ⟨vQ (by omega),rfl⟩
  ·exact ⟨Zv (by omega),rfl⟩
 ·rintro _ w1 ⟨rfl,hw⟩ fD;subst hw;exact ⟨rfl,hs.aF⟩
theorem C155 (lv:Value) (xs:List dL) (Lm:Int) (w:World) (hL:eP (λ _=>True) w lv xs) (hn:xs.length≤1048576) (hz:∀ c∈xs,c.name.size≤1048576):CR 155 [lv,.int .i64 Lm] w (λ v w'=>v = .bool (td Lm xs)∧Ext w w'):=by
 have hs:=St.start w;refine aai _ _ _ _ ?_;unfold S155;refine ⟨λ m x w1=>∃ k:Nat,x = .int .i64 (k:Int)∧m=xs.length - k∧k≤xs.length∧(∀ y∈xs.take k,nn Lm y=false)∧St w bD [] w1,⟨_,0,rfl,rfl,Nat.zero_le _,by simp,hs⟩,?_⟩;rintro m _ w1 ⟨k,rfl,rfl,hk,fV,hs⟩ fD;refine aJ kf (hL.ext hs.aF) (aR (aC (λ gA=>?_) (λ gA=>?_)))
 ·obtain ⟨js,dI⟩:∃ xx,(xs)[((k:Int)).toNat]? = some xx:=⟨_,List.getElem?_eq_getElem (by omega)⟩;refine ⟨λ jv w'=>jv = .bool (nn Lm js)∧St w bD [] w',?_,?_⟩
  ·refine aQ kf (hL.ext hs.aF) (by omega) dI (λ _ iU=>bT (js).name pL iU rfl rfl (λ _ ri=>aD kn (ri) (aZ tK hs (C161 _ _ (hz _ (List.mem_of_getElem? dI))) (λ w2 he hs=>cC (aX (λ gj=>?_) (λ gj=>?_))))))
   ·exact ⟨vb (by unfold nn; grind),hs⟩
   ·refine aQ kf (hL.ext hs.aF) (by omega) dI (λ _ Ls=>bT (js).n zU Ls rfl rfl (λ _ pW=>aD bL (pW) (aR (aC (λ fT=>?_) (λ fT=>?_)))))
    ·exact ⟨vb (by unfold nn; grind),hs⟩
    ·refine aQ kf (hL.ext hs.aF) (by omega) dI (λ _ oo=>bT (js).n zU oo rfl rfl (λ _ oN=>aD bL (oN) (dB (aC (λ iJ=>?_) (λ iJ=>?_)))))
     ·exact ⟨vb (by unfold nn; grind),hs⟩
     ·refine aQ kf (hL.ext hs.aF) (by omega) dI (λ _ ui=>bT (js).at_ DX ui rfl rfl (λ _ VH=>aD bL (VH) (aZ PV hs (C156 _ _) (λ w3 he hs=>cC ?_))));exact ⟨vb (by unfold nn; grind),hs⟩
  ·rintro _ w4 ⟨rfl,hs⟩ jH;refine aX (λ sB=>?_) (λ sB=>?_)
   ·refine ⟨vb ?_,hs.aF⟩;unfold td;rw [jI dI sB]; rfl
   ·refine aO (by omega) ?_;exact ⟨_,by omega,k+1,rfl,rfl,by omega,eH fV dI sB,hs⟩
 ·rw [List.take_of_length_le (by omega)] at fV;refine ⟨vb ?_,hs.aF⟩;unfold td;rw [iM fV]; rfl
theorem C157 (lv:Value) (xs:List dX) (nb:Bool) (w:World) (hL:DL w lv xs) (hn:xs.length≤1048576) (hz:∀ t∈xs,SzT t∧t.aK.length≤500∧t.body.length≤500):CR 157 [lv,.bool nb] w (λ v w'=>v = .bool (oq nb xs)∧Ext w w'):=by
 have hs:=St.start w;refine aak _ _ _ _ ?_;unfold S157;refine ⟨λ m x w1=>∃ k:Nat,x = .int .i64 (k:Int)∧m=xs.length - k∧k≤xs.length∧(∀ y∈xs.take k,wz nb y=false)∧St w bD [] w1,⟨_,0,rfl,rfl,Nat.zero_le _,by simp,hs⟩,?_⟩;rintro m _ w1 ⟨k,rfl,rfl,hk,fV,hs⟩ fD;obtain ⟨Zd,Sw,hD9⟩:=(hL).open;have hn9:=hD9.1;refine aJ iQ (Sw.ext hs.aF) (aR (aC (λ fR=>?_) (λ fR=>?_)))
 ·obtain ⟨Hb,kU⟩:∃ xx,Zd[((k:Int)).toNat]? = some xx:=⟨_,List.getElem?_eq_getElem (by omega)⟩;obtain ⟨mJ,kV⟩:∃ xx,(xs)[((k:Int)).toNat]? = some xx:=⟨_,List.getElem?_eq_getElem (by omega)⟩;obtain ⟨Ez,EA,rfl,NU,EB⟩:=hD9.2 _ _ _ kU kV;have Lt:=hz _ (List.mem_of_getElem? kV);refine ⟨λ jv w'=>jv = .bool (va nb mJ)∧St w bD [] w',?_,?_⟩
  ·refine aQ iQ (Sw.ext hs.aF) (by omega) kU (λ _ ud=>bT (mJ).name zR ud rfl rfl (λ _ Lg=>aD kn (Lg) (aZ tK hs (C161 _ _ Lt.1.1) (λ w2 he hs=>pG KB (aX (λ jE=>?_) (λ jE=>?_))))))
   ·exact ⟨vb (by unfold va; grind),hs⟩
   ·refine cC (aX (λ iV=>?_) (λ iV=>?_))
    ·refine aQ iQ (Sw.ext hs.aF) (by omega) kU (λ _ wx=>bT (mJ).name zR wx rfl rfl (λ _ wB=>aD kn (wB) (oW (aC (λ nF=>?_) (λ nF=>?_)))))
     ·exact ⟨vb (by unfold va; grind),hs⟩
     ·refine aQ iQ (Sw.ext hs.aF) (by omega) kU (λ _ uf=>bT (mJ).at_ zS uf rfl rfl (λ _ Aj=>aD bL (Aj) (aZ PV hs (C156 _ _) (λ w3 he hs=>cC (aX (λ qA=>?_) (λ qA=>?_))))))
      ·exact ⟨vb (by unfold va; grind),hs⟩
      ·refine aQ iQ (Sw.ext hs.aF) (by omega) kU (λ _ Lu=>bT EA qH Lu rfl rfl (λ _ Lv=>aD sX (Lv) (aZ afw hs (C205 _ _ _ (EB.ext hs.aF) (by omega) Lt.1.2.2) (λ w4 he hs=>cC ?_))));exact ⟨vb (by unfold va; grind),hs⟩
    ·refine aQ iQ (Sw.ext hs.aF) (by omega) kU (λ _ ac0=>bT (mJ).at_ zS ac0 rfl rfl (λ _ ac1=>aD bL (ac1) (aZ PV hs (C156 _ _) (λ w5 he hs=>cC (aX (λ ac2=>?_) (λ ac2=>?_))))))
     ·exact ⟨vb (by unfold va; grind),hs⟩
     ·refine aQ iQ (Sw.ext hs.aF) (by omega) kU (λ _ ac3=>bT EA qH ac3 rfl rfl (λ _ ac4=>aD sX (ac4) (aZ afw hs (C205 _ _ _ (EB.ext hs.aF) (by omega) Lt.1.2.2) (λ w6 he hs=>cC ?_))));exact ⟨vb (by unfold va; grind),hs⟩
  ·rintro _ w7 ⟨rfl,hs⟩ jH;refine aX (λ pX=>?_) (λ pX=>?_)
   ·refine ⟨vb ?_,hs.aF⟩;unfold oq;rw [jI kV (show wz nb mJ=true by unfold wz; rw [pX]; rfl)]; rfl
   ·refine ⟨λ m x w1=>∃ k2:Nat,x = .int .i64 (k2:Int)∧m=mJ.aK.length - k2∧k2≤mJ.aK.length∧(∀ s∈mJ.aK.take k2,(!j9 s)=false)∧St w bD [] w1,⟨_,0,rfl,rfl,Nat.zero_le _,by simp,hs⟩,?_⟩;rintro m _ w8 ⟨k2,rfl,rfl,H0,EC,hs⟩ oY;refine aQ iQ (Sw.ext hs.aF) (by omega) kU (λ _ VJ=>bT Ez jA VJ rfl rfl (λ _ Ei=>aD pH (Ei) ?_));have apz:=DL.flat (NU);refine aJ mY (apz.ext hs.aF) (aR (aC (λ uj=>?_) (λ uj=>?_)))
    ·refine aQ iQ (Sw.ext hs.aF) (by omega) kU (λ _ Lw=>bT Ez jA Lw rfl rfl (λ _ ED=>aD pH (ED) ?_));obtain ⟨e_x67,IW⟩:=gx ((mJ).aK) (i:=((k2:Int)).toNat) (by omega);refine aQ mY (apz.ext hs.aF) (by omega) IW (λ _ apA=>aD kn (apA) (aZ tK hs (C161 _ _ (Lt.1.2.1 _ (List.mem_of_getElem? IW))) (λ w9 he hs=>cC (aX (λ EE=>?_) (λ EE=>?_)))))
     ·refine ⟨vb ?_,hs.aF⟩;unfold oq;rw [jI kV (show wz nb mJ=true by unfold wz; rw [jI IW EE]; simp)]; rfl
     ·refine aO (by omega) ?_;exact ⟨_,by omega,k2+1,rfl,rfl,by omega,eH EC IW EE,hs⟩
    ·refine aO (by omega) ?_;exact ⟨_,by omega,k+1,rfl,rfl,by omega,eH fV kV (by unfold wz; rw [pX,iM (by rw [List.take_of_length_le (by omega)] at EC; exact EC)]; rfl),hs⟩
 ·rw [List.take_of_length_le (by omega)] at fV;refine ⟨vb ?_,hs.aF⟩;unfold oq;rw [iM fV]; rfl
end Go.Proofs.YtnjcingfdhjfkaaGreat
