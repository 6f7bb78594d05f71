/-
  What the proof needs, part 3.
-/
import Derived.Test.YtnjcingfdhjfkaaGreatVcM2
set_option linter.all false
namespace Go.Fw
def sep (H1 H2:HP):HP where
 p w F:=∃ F1 F2,H1.p w F1∧H2.p w F2∧(∀ b,F1 b→¬ F2 b)∧∀ b,F b↔F1 b∨F2 b
 loc w w' F h hh:=by
  obtain ⟨F1,F2,h1,h2,h3,h4⟩:=h
  exact ⟨F1,F2,H1.loc _ _ _ h1 λ b hb=>hh b ((h4 b).2 (.inl hb)),H2.loc _ _ _ h2 λ b hb=>hh b ((h4 b).2 (.inr hb)),h3,h4⟩
 lt w F b h hb:=by
  obtain ⟨F1,F2,h1,h2,h3,h4⟩:=h
  rcases (h4 b).1 hb with hf | hf
  ·exact H1.lt _ _ _ h1 hf
  ·exact H2.lt _ _ _ h2 hf
def tS {α:Type} (H:α→HP):HP where
 p w F:=∃ x,(H x).p w F
 loc w w' F h hh:=by obtain ⟨x,h⟩:=h; exact ⟨x,(H x).loc _ _ _ h hh⟩
 lt w F b h hb:=by obtain ⟨x,h⟩:=h; exact (H x).lt _ _ _ h hb
def fact (φ:Prop) (H:HP):HP where
 p w F:=φ∧H.p w F
 loc w w' F h hh:=⟨h.1,H.loc _ _ _ h.2 hh⟩
 lt w F b h hb:=H.lt _ _ _ h.2 hb
def emp:HP where
 p _ F:=∀ b,¬ F b
 loc _ _ _ h _:=h
 lt _ _ b h hb:=(h b hb).elim
section
variable {P:Program} {w w0 w':World} {A:Nat→Prop} {L:List HP} {H H1 H2:HP}
theorem St.split (h:St w0 A (sep H1 H2::L) w):St w0 A (H1::H2::L) w:=by
 obtain ⟨U,F,U',⟨F1,F2,g1,g2,g3,g4⟩,h2,h3,h4,h5⟩:=h.sL
 refine ⟨h.aF,U,F1,λ b=>F2 b∨U' b,g1,λ b hb=>h2 b ((g4 b).2 (.inl hb)),λ b hb hu=>?_,λ b=>?_,F2,U',g2,λ b hb=>h2 b ((g4 b).2 (.inr hb)),λ b hb hu=>h3 b ((g4 b).2 (.inr hb)) hu,λ b=>Iff.rfl,h5⟩
 ·rcases hu with hu | hu
  ·exact g3 b hb hu
  ·exact h3 b ((g4 b).2 (.inl hb)) hu
 ·rw [h4 b,g4 b,or_assoc]
theorem St.join (h:St w0 A (H1::H2::L) w):St w0 A (sep H1 H2::L) w:=by
 obtain ⟨U,F,U',h1,h2,h3,h4,F2,U2,g1,g2,g3,g4,g5⟩:=h.sL
 refine ⟨h.aF,U,λ b=>F b∨F2 b,U2,⟨F,F2,h1,g1,λ b hb hf=>h3 b hb ((g4 b).2 (.inl hf)),λ b=>Iff.rfl⟩,λ b hb=>hb.elim (h2 b) (g2 b),λ b hb hu=>?_,λ b=>?_,g5⟩
 ·rcases hb with hb | hb
  ·exact h3 b hb ((g4 b).2 (.inr hu))
  ·exact g3 b hb hu
 ·rw [h4 b,g4 b,or_assoc]
theorem St.eV {α:Type} {H:α→HP} (h:St w0 A (tS H::L) w):∃ x,St w0 A (H x::L) w:=by
 obtain ⟨U,F,U',⟨x,h1⟩,h2⟩:=h.sL; exact ⟨x,h.aF,U,F,U',h1,h2⟩
theorem St.eP {α:Type} {H:α→HP} (x:α) (h:St w0 A (H x::L) w):St w0 A (tS H::L) w:=by
 obtain ⟨U,F,U',h1,h2⟩:=h.sL; exact ⟨h.aF,U,F,U',⟨x,h1⟩,h2⟩
theorem St.oB {φ:Prop} (h:St w0 A (fact φ H::L) w):φ∧St w0 A (H::L) w:=by
 obtain ⟨U,F,U',⟨x,h1⟩,h2⟩:=h.sL; exact ⟨x,h.aF,U,F,U',h1,h2⟩
theorem St.qi {φ:Prop} (x:φ) (h:St w0 A (H::L) w):St w0 A (fact φ H::L) w:=by
 obtain ⟨U,F,U',h1,h2⟩:=h.sL; exact ⟨h.aF,U,F,U',⟨x,h1⟩,h2⟩
def qj (F:Nat→Prop) (H':HP) (w w':World):Prop:=∃ F',H'.p w' F'∧(∀ b,F' b→F b∨w.heap.size≤b)∧ix F w w'
def lW (H:HP) (w w':World):Prop:=∃ F,H.p w' F∧(∀ b,F b→w.heap.size≤b)∧Ext w w'
theorem St.mut {F:Nat→Prop} (hs:St w F (H::L) w'):qj F H w w':=by
 obtain ⟨F',h1,h2⟩:=hs.head; exact ⟨F',h1,h2,hs.aF⟩
theorem St.fresh (hs:St w bD (H::L) w'):lW H w w':=by
 obtain ⟨F',h1,h2⟩:=hs.head; exact ⟨F',h1,λ b hb=>(h2 b hb).elim (λ h=>h.elim) id,hs.aF⟩
theorem St.made (hs:St w0 A L w) (h:lW H w w'):St w0 A (H::L) w':=by
 obtain ⟨F,h1,h2,h3⟩:=h; exact hs.new h3 h1 h2
theorem aZ {f:FuncId} {args:List Value} {X:Value} {K:Value→World→Prop} (pl:Plain P f) (hs:St w0 A L w) (hc:Calls P f args.toArray w (qf λ v w'=>v=X∧Ext w w')) (k:∀ w',Ext w w'→St w0 A L w'→K X w'):C8 P f args w K:=
 eu pl hc λ v w' h=>by obtain ⟨rfl,h2⟩:=h; exact k w' h2 (hs.ext h2)
theorem dB {f:FuncId} {args:List Value} {H:Value→HP} {K:Value→World→Prop} (pl:Plain P f) (hs:St w0 A L w) (hc:Calls P f args.toArray w (qf λ v w'=>lW (H v) w w')) (k:∀ v w',lW (H v) w w'→St w0 A (H v::L) w'→K v w'):C8 P f args w K:=
 eu pl hc λ v w' h=>k v w' h (hs.made h)
theorem St.Uu {F:Nat→Prop} {U':Nat→Prop} {H':HP} (hs:St w0 A (H::L) w) (h2:∀ b,F b→A b∨w0.heap.size≤b) (h3:∀ b,F b→¬ U' b) (h5:rM w0 A L w U') (h:qj F H' w w'):St w0 A (H'::L) w':=by
 obtain ⟨F',g1,g2,g3⟩:=h
 refine ⟨hs.aF.trans g3 (λ _ h=>h) λ b hb hf=>(h2 b hf).elim id λ hh=>by omega,λ b=>F' b∨U' b,F',U',g1,λ b hb=>?_,λ b hb hu=>?_,λ b=>Iff.rfl,?_⟩
 ·rcases g2 b hb with hf | hf
  ·exact h2 b hf
  ·exact .inr (Nat.le_trans hs.aF.size hf)
 ·rcases g2 b hb with hf | hf
  ·exact h3 b hf hu
  ·have:=h5.lt b hu; omega
 ·exact h5.loc λ b hb=>g3.cD b (h5.lt b hb) λ hf=>h3 b hf hb
theorem pb {f:FuncId} {args:List Value} {H':Value→HP} {Φ:Value→World→Prop} {K:Value→World→Prop} (pl:Plain P f) (hs:St w0 A (H::L) w)
  (hc:∀ F,H.p w F→Calls P f args.toArray w (qf λ v w'=>Φ v w'∧qj F (H' v) w w')) (k:∀ v w',Φ v w'→St w0 A (H' v::L) w'→K v w'):C8 P f args w K:=by
 obtain ⟨U,F,U',h1,h2,h3,h4,h5⟩:=hs.sL
 exact eu pl (hc F h1) λ v w' ⟨hΦ,hM⟩=>k v w' hΦ (hs.Uu h2 h3 h5 hM)
end
section
variable {α:Type} [Flat α] {P:Program} {w w0:World} {A S:Nat→Prop} {L:List HP} {xs ys:List α}
theorem eF.one {v:Value} (h:eF S w v xs):rO v=true:=by obtain ⟨a,c,rfl,_⟩:=h; rfl
theorem FI {T E oy R b n cap:Nat} {z:Option Nat} {src:Value} {cs:List Value} (ht:fb P T=some (E,Flat.sz α,oy,z)) (hb:tB w b cs) (xy:eF S w src ys)
  (J3:n+ys.length≤cap) (MT:n * Flat.sz α+ys.length * Flat.sz α≤cs.length) :
  ∃ w',(Builtin.append_ #[T,T] R [.slice (some ⟨b,0,none⟩) n cap,src].toArray).run P w = .ok (.slice (some ⟨b,0,none⟩) (n+ys.length) cap) w'∧tB w' b (gV cs (n * Flat.sz α) (flat ys))∧ix (· = b) w w':=by
 obtain ⟨hu,inf,hi,lz,A4,_⟩:=gq ht
 have rd:=xy
 obtain ⟨sa,T8,rfl,hsc,hs3⟩:=rd
 obtain ⟨w',h1,h2,h3⟩:=mj (P:=P) (o:=n * Flat.sz α) (flat ys) 0 cs w hb (by rw [cQ]; omega) zn
 refine ⟨w',?_,by simpa using h2,h3⟩
 have hf:=wS (α:=α) (P:=P) (sz:=Flat.sz α) rfl xy
 have sM:(⟨b,0,none⟩:Addr).add (n * Flat.sz α)=⟨b,n * Flat.sz α,none⟩:=by rw [gN,Nat.zero_add]
 simp [Builtin.append_,run_underlying hu,sizeOf,typeInfo,hi,Builtin.lenOf,J3,hf,lz,sM,h1]
theorem RO {T E oy R b o n c:Nat} {z:α} {cs:List Value} (ht:SlT P T E (Flat.sz α) oy) (hz:qh P E (Flat.val z)) (hb:tB w b cs) (MT:o+n * Flat.sz α≤cs.length) :
  ∃ w',(Builtin.clear_ #[T] R [.slice (some ⟨b,o,none⟩) n c].toArray).run P w = .ok (.tuple #[]) w'∧tB w' b (gV cs o (flat (List.replicate n z)))∧ix (· = b) w w':=by
 obtain ⟨hu,inf,hi,lz,A4,_⟩:=gq ht
 unfold qh ej at hz
 rw [hi] at hz
 simp only [Option.map_some,Option.some.injEq] at hz
 by_cases h0:n=0
 ·subst h0
  refine ⟨w,?_,by simpa [j8,gV] using hb,ix.refl _ _⟩
  simp [Builtin.clear_,run_underlying hu]
 ·have hzc:(Builtin.zeroCells (Flat.val z).cells n).toList=flat (List.replicate n z):=by
   rw [oI,← vM]
   unfold Builtin.zeroCells madeCells
   simp [Flat.len]
  obtain ⟨w',h1,h2,h3⟩:=mj (P:=P) (o:=o) (flat (List.replicate n z)) 0 cs w hb (by rw [cQ,List.length_replicate]; omega) zn
  refine ⟨w',?_,by simpa using h2,h3⟩
  simp [Builtin.clear_,run_underlying hu,zeroValue,typeInfo,hi,hz,h0,hzc,h1]
theorem Uv {T E sz oy n cap:Nat} {z:Option Nat} {a:Option Addr} {i j k:Int} {K:Value→Prop} (ht:fb P T=some (E,sz,oy,z)) (h0:0≤i) (h1:i≤j) (h2:j≤k) (h3:k≤cap)
  (kk:∀ v,K v):cT P (Instr.sliceAt T (.slice a n cap) (some (.int .i64 i)) (some (.int .i64 j)) (some (.int .i64 k))) K:=by
 obtain ⟨hu,inf,ML,lz,_⟩:=gq ht
 have hb:pr P (Instr.sliceBounds true n cap (some (.int .i64 i)) (some (.int .i64 j)) (some (.int .i64 k)))=some (i.toNat,j.toNat,k.toNat):=by
  simp only [Instr.sliceBounds,cM,fe,Option.bind_some]
  rw [mQ (by omega) (by omega)]
  simp only [Option.bind_some]
  rw [mQ (by omega) (by omega)]
  simp only [Option.bind_some]
  rw [mQ (by omega) (by omega)]
  rfl
 refine ⟨.slice (if k.toNat=i.toNat then a else a.map (·.add (i.toNat * sz))) (j.toNat - i.toNat) (k.toNat - i.toNat),?_,kk _⟩
 ·unfold Instr.sliceAt
  rw [cM,cL hu]
  simp only [Option.bind_some]
  unfold Instr.slice
  rw [cM,cL hu]
  simp only [Option.bind_some]
  rw [cM,hb]
  simp only [Option.bind_some]
  rw [cM,oH ML,lz]
  rfl
end
def xC (b:Nat) (o:Obj):HP where
 p w F:=w.heap[b]? = some o∧∀ k,F k↔k=b
 loc w w' F h hh:=⟨(hh b ((h.2 b).2 rfl)).trans h.1,h.2⟩
 lt w F b' h hb:=by rw [(h.2 b').1 hb]; exact jO h.1
section
variable {P:Program} {w w0 w':World} {A:Nat→Prop} {L:List HP}
theorem St.obj {b:Nat} {o:Obj} (hs:St w0 A (xC b o::L) w):w.heap[b]? = some o:=by
 obtain ⟨F,h,_⟩:=hs.head; exact h.1
theorem Ext.alloc (w:World) (o:Obj):Ext w (w.alloc o):=Ext.push w o
theorem St.alloc {o:Obj} (hs:St w0 A L w):St w0 A (xC w.heap.size o::L) (w.alloc o):=
 hs.new (F:=(· = w.heap.size)) (Ext.alloc w o) ⟨pj w o,λ _=>Iff.rfl⟩ λ b hb=>Nat.le_of_eq hb.symm
theorem ix.putObj (w:World) (b:Nat) (o:Obj):ix (· = b) w (w.putObj b o):=
 ⟨rfl,rfl,rfl,by simp,λ k _ hn=>World.putObj_heap_other hn⟩
theorem St.putObj {b:Nat} {o:Obj} (o':Obj) (hs:St w0 A (xC b o::L) w):St w0 A (xC b o'::L) (w.putObj b o'):=
 hs.rN λ F hF=>⟨F,⟨World.putObj_heap_same (jO hF.1),hF.2⟩,λ _ h=>.inl h,(ix.putObj w b o').mono λ k hk=>(hF.2 k).2 hk⟩
theorem fY.mono {fv:Value} {args:List Value} {K K':Value→World→Prop} (h:fY P fv args w K) (hk:∀ v w,K v w→K' v w):fY P fv args w K':=
 F5.mono (P:=P) (k:=.O1 fv args) h hk
theorem aI {α:Type} [Flat α] {T:TypeId} {b:Nat} {cs:List Value} {x:α} {K:World→Prop} (hs:St w0 A (cD b cs::L) w) (ht:abc P T (Flat.sz α)) (ha:Flat.agg α=true) (hl:cs.length=Flat.sz α)
  (k:∀ w',St w0 A (cD b (Flat.enc x)::L) w'→K w'):AT P (Instr.storeAt T (.pointer (some ⟨b,0,none⟩)) (Flat.val x)) w K:=by
 rw [Flat.nO ha]
 refine pk hs ht (Flat.len x) (by rw [Nat.zero_add,hl]; exact Nat.le_refl _) (Flat.one x) λ w' h=>k w' ?_
 have:=kI [] cs [] (Flat.enc x) (by rw [Flat.len,hl])
 simp only [List.length_nil,List.nil_append,List.append_nil] at this
 rwa [this] at h
theorem fh {α:Type} [Flat α] {S:Nat→Prop} {T:TypeId} {p:Value} {x:α} (ht:cP P T=some (Flat.agg α,Flat.sz α)) (h:At S w p x):(Instr.loadAt T p).run P w = .ok (Flat.val x) w:=by
 obtain ⟨v,h1,h2⟩:=(aD (K:=λ v=>v=Flat.val x) ht h rfl).ex
 rw [← h2]; exact h1
theorem gD {b:Bool} {A B:Prop} (h:b=true) (a:A):xN (.bool b) A B:=⟨⟨_,rfl,λ _=>a,λ hh=>by rw [h] at hh; cases hh⟩⟩
theorem fT {b:Bool} {A B:Prop} (h:b=false) (a:B):xN (.bool b) A B:=⟨⟨_,rfl,λ hh=>(by rw [h] at hh; cases hh),λ _=>a⟩⟩
theorem ae0 {D:Nat} {K:World→Prop} (hs:St w0 A (xC D (.deferred (some []))::L) w) (k:∀ w',St w0 A L w'→K w'):nL [D] w K:=
 ⟨hs.obj,k _ (hs.putObj (.deferred none)).drop⟩
theorem Na (L0:Loop) (h1:L0.state = .ready) (h2:L0.pending=none):({L0 with state:=if (none:Option Code).isNone=true then LoopState.ready else LoopState.done,pending:=none}:Loop)=L0:=by
 cases L0; simp only at h1 h2; subst h1; subst h2; rfl
theorem Uw {gf np:Nat} {cap:List Value} {xs:List (List Value)} {round:List Value→World→(World→(World→Prop)→Prop)→(Option Code→World→Prop)→Prop}
  {N R:Nat→World→Prop} {X:Nat→Nat→World→Prop} (pl:Plain P gf) (hs:St w0 A L w) (I:Nat→List HP→Prop) (Ix:Code→List HP→Prop) (h0:I 0 L) (hnp:∀ x∈xs,x.length=np)
  (hgf:∀ (y:Value) (J:Nat→World→Prop) (Jx:World→Prop) (W:World),(∀ k W,J k W→∃ Y M,I k M∧St w0 A (Y::M) W)→(∀ k W W',J k W→Ext W W'→J k W')→J 0 W→
   (∀ k args W',xs[k]? = some args→J k W'→fY P y args W' (λ v W''=>(v = .bool true∧J (k+1) W'')∨(v = .bool false∧Jx W'')))→
   Calls P gf ([y]++cap).toArray W (qf λ _ W'=>J xs.length W'∨Jx W'))
  (MK:∀ k args (Y1 Y2:HP) (B:World→(World→Prop)→Prop) (Kr:Option Code→World→Prop) M W,xs[k]? = some args→I k M→
   (∀ M w1 (kk:World→Prop),St w0 A (Y1::M) w1→(∀ w2,St w0 A (Y2::M) w2→kk w2)→B w1 kk)→
   (∀ M w1,St w0 A (Y2::M) w1→I (k+1) M→Kr none w1)→(∀ c M w1,St w0 A (Y2::M) w1→Ix c M→Kr (some c) w1)→
   St w0 A (Y1::M) W→round args W B Kr)
  (aom:∀ D M W,I xs.length M→St w0 A (xC D (.deferred (some []))::M) W→N D W)
  (avO:∀ D M W,Ix .ret M→St w0 A (xC D (.deferred (some []))::M) W→R D W)
  (aon:∀ id D M W,Ix (.exit id) M→St w0 A (xC D (.deferred (some []))::M) W→X id D W)
  (ahY:∀ c M,Ix c M→(∃ id,c = .exit id)∨c = .ret) :
  Cx P (.func (.func gf) #[] cap.toArray) np w round (aft N R X):=by
 refine ⟨gf,cap.toArray,rfl,pl,λ L0 gk hpe hy=>?_⟩
 obtain ⟨l,hl⟩:∃ l,l=w.heap.size+1:=⟨_,rfl⟩
 obtain ⟨D,hD⟩:∃ D,D=w.heap.size:=⟨_,rfl⟩
 rw [← hl] at hy ⊢
 rw [← hD]
 let J:Nat→World→Prop:=λ k W=>∃ M,I k M∧St w0 A (xC l (.loop L0)::xC D (.deferred (some []))::M) W
 let Jx:World→Prop:=λ W=>∃ c M,Ix c M∧St w0 A (xC l (.loop {L0 with state:=.done,pending:=some c})::xC D (.deferred (some []))::M) W
 have hJ0:J 0 ((w.alloc (.deferred (some []))).alloc (.loop L0)):=by
  refine ⟨L,h0,?_⟩
  have h1:=(hs.alloc (o:=.deferred (some []))).alloc (o:=.loop L0)
  rw [show (w.alloc (.deferred (some []))).heap.size=l from by rw [hl]; exact Gp w _,← hD] at h1
  exact h1
 have:=hgf (.func (.yield l) #[] #[]) J Jx _ (λ k W ⟨M,hI,hS⟩=>⟨_,M,hI,St.join hS⟩) (λ k W W' ⟨M,hI,hS⟩ e=>⟨M,hI,hS.ext e⟩) hJ0 ?_
 ·have e:([Value.func (.yield l) #[] #[]]++cap).toArray = #[.func (.yield l) #[] #[]]++cap.toArray:=by simp
  rw [e] at this
  refine this.mono λ x W' ⟨v,hx,hv⟩=>⟨v,hx,?_⟩
  rcases hv with ⟨M,hI,hS⟩ | ⟨c,M,hI,hS⟩
  ·refine ⟨.ready,none,by simp,?_,?_⟩
   ·rw [← gk,← hpe]; exact hS.obj
   ·exact aom D M _ hI (hS.putObj _).drop
  ·refine ⟨.done,some c,by simp,hS.obj,?_⟩
   rcases ahY c M hI with ⟨id,rfl⟩ | rfl
   ·exact aon id D M _ hI (hS.putObj _).drop
   ·exact avO D M _ hI (hS.putObj _).drop
 ·intro k args W hk ⟨M,hI,hS⟩
  refine ⟨.inr ⟨l,rfl,?_⟩⟩
  refine hy args W _ (hnp args (List.mem_of_getElem? hk)) hS.obj ?_
  refine MK k args (sep (xC l (.loop L0)) (xC D (.deferred (some [])))) (sep (xC l (.loop {L0 with state:=.busy})) (xC D (.deferred (some [])))) _ _ M W hk hI
   (λ M w1 kk h1 h2=>?_) (λ M w1 h1 h2=>?_) (λ c M w1 h1 h2=>?_) (St.join hS)
  ·have h1:=h1.split
   exact ⟨h1.obj,h2 _ (h1.putObj _).join⟩
  ·have h1:=h1.split
   refine ⟨h1.obj,.inl ⟨rfl,M,h2,?_⟩⟩
   have:=h1.putObj (.loop {L0 with state:=if (none:Option Code).isNone=true then LoopState.ready else LoopState.done,pending:=none})
   rw [Na L0 gk hpe] at this ⊢
   exact this
  ·have h1:=h1.split
   exact ⟨h1.obj,.inr ⟨rfl,c,M,h2,h1.putObj _⟩⟩
end
section
variable {P:Program} {w w0:World} {A S:Nat→Prop} {L:List HP}
theorem uM {t:Array TypeId} {T:TypeId} {a b:Int} {K:Value→Prop} (k:K (.int .i64 (min a b))):cT P (Builtin.min_ t T [.int .i64 a,.int .i64 b].toArray) K:=by
 refine ⟨_,?_,k⟩
 show pr P (Builtin.min2 (.int .i64 a) (.int .i64 b))=_
 unfold Builtin.min2
 by_cases h:b<a
 ·simp [h,fe]; omega
 ·simp [h,fe]; omega
theorem wY {t:Array TypeId} {T:TypeId} {a b:Int} {K:Value→Prop} (k:K (.int .i64 (max a b))):cT P (Builtin.max_ t T [.int .i64 a,.int .i64 b].toArray) K:=by
 refine ⟨_,?_,k⟩
 show pr P (Builtin.max2 (.int .i64 a) (.int .i64 b))=_
 unfold Builtin.max2
 by_cases h:a<b
 ·simp [h,fe]; omega
 ·simp [h,fe]; omega
end
section
variable {P:Program} {α:Type} [Flat α] {A:Nat→Prop} {w0 w:World} {L:List HP} {xs:List α}
def Ih (α:Type) [Flat α] (v:Value) (i off:Nat) (p:Value):Prop:=∃ b n c,v = .slice (some ⟨b,0,none⟩) n c∧p = .pointer (some ⟨b,i * Flat.sz α+off,none⟩)
theorem mZ {T f off i:Nat} {v p:Value} {K:Value→Prop} (ht:Dk P T f off) (h:Gr α v i p) (k:∀ q,Ih α v i off q→K q):cT P (Instr.fieldAt T p f) K:=by
 obtain ⟨b,n,c,h1,rfl⟩:=h
 exact aA ht (k _ ⟨b,n,c,h1,rfl⟩)
theorem nX {β:Type} [Flat β] {T:Nat} {v p:Value} {i off:Nat} {x:α} (y:β) {K:Value→Prop} (hs:St w0 A (bK v xs::L) w) (ht:cP P T=some (Flat.agg β,Flat.sz β)) (hp:Ih α v i off p) (hx:xs[i]? = some x)
  (hy:((Flat.enc x).drop off).take (Flat.sz β)=Flat.enc y) (k:K (Flat.val y)):C7 P (Instr.loadAt T p) w K:=by
 obtain ⟨F,h,_⟩:=hs.head
 obtain ⟨b,cap,rest,hv,hb,hl,_⟩:=qE h (List.getElem?_eq_some_iff.1 hx).1
 obtain ⟨b',n,c,Dn,rfl⟩:=hp
 rw [hv] at Dn
 simp only [Value.slice.injEq,Option.some.injEq,Addr.mk.injEq] at Dn
 obtain ⟨⟨rfl,_,_⟩,_,_⟩:=Dn
 refine aD (S:=λ _=>True) ht ⟨b,i * Flat.sz α+off,rfl,trivial,λ j c hj=>hb.cell ?_⟩ k
 rw [← hy,List.getElem?_take] at hj
 split at hj
 ·rw [List.getElem?_drop] at hj
  have:=tD hx hj
  rw [Nat.add_assoc,List.getElem?_append_left (List.getElem?_eq_some_iff.1 this).1]; exact this
 ·cases hj
theorem Kk {β:Type} [Flat β] {T:Nat} {v p:Value} {i off:Nat} {K:World→Prop} {x:α} (y:α) (z:β) (hs:St w0 A (bK v xs::L) w) (ht:cP P T=some (Flat.agg β,Flat.sz β)) (hp:Ih α v i off p) (hx:xs[i]? = some x)
  (hlen:off+Flat.sz β≤Flat.sz α) (hy:(Flat.enc x).take off++Flat.enc z++(Flat.enc x).drop (off+Flat.sz β)=Flat.enc y)
  (k:∀ w',St w0 A (bK v (xs.set i y)::L) w'→K w'):AT P (Instr.storeAt T p (Flat.val z)) w K:=by
 obtain ⟨U,F,U',g1,g2,g3,g4,g5⟩:=hs.sL
 have hi:=(List.getElem?_eq_some_iff.1 hx).1
 obtain ⟨b,cap,rest,hv,hb,hl,hF⟩:=qE g1 hi
 obtain ⟨b',n,c,Dn,rfl⟩:=hp
 rw [hv] at Dn
 simp only [Value.slice.injEq,Option.some.injEq,Addr.mk.injEq] at Dn
 obtain ⟨⟨rfl,_,_⟩,_,_⟩:=Dn
 have RG:=yn hx
 have MW:(flat (xs.take i)).length=i * Flat.sz α:=by rw [cQ,List.length_take,Nat.min_eq_left (by omega)]
 have hel:i * Flat.sz α+Flat.sz α≤(flat xs).length:=by
  rw [cQ,← Nat.succ_mul]; exact Nat.mul_le_mul_right _ hi
 have O6:(Flat.enc x).length=Flat.sz α:=Flat.len x
 have hzl:(Flat.enc z).length=Flat.sz β:=Flat.len z
 obtain ⟨w',h1,h2,h3⟩:=mj (P:=P) (o:=i * Flat.sz α+off) (Flat.enc z) 0 (flat xs++rest) w hb (by rw [hzl,List.length_append]; omega) (Flat.one z)
 have xu:gV (flat xs++rest) (i * Flat.sz α+off+0) (Flat.enc z)=flat (xs.set i y)++rest:=by
  have:=kI (flat (xs.take i)++(Flat.enc x).take off) (((Flat.enc x).drop off).take (Flat.sz β)) ((Flat.enc x).drop (off+Flat.sz β)++flat (xs.drop (i+1))++rest) (Flat.enc z)
   (by rw [hzl,List.length_take,List.length_drop]; omega)
  rw [List.length_append,MW,List.length_take,Nat.min_eq_left (by omega)] at this
  rw [Nat.add_zero,J5 y hi,RG,← hy]
  have e1:Flat.enc x=(Flat.enc x).take off++((Flat.enc x).drop off).take (Flat.sz β)++(Flat.enc x).drop (off+Flat.sz β):=by
   rw [← List.drop_drop,List.append_assoc,List.take_append_drop,List.take_append_drop]
  have e2:flat (xs.take i)++Flat.enc x++flat (xs.drop (i+1))++rest=flat (xs.take i)++(Flat.enc x).take off++((Flat.enc x).drop off).take (Flat.sz β)++((Flat.enc x).drop (off+Flat.sz β)++flat (xs.drop (i+1))++rest):=by
   conv=>lhs; rw [e1]
   simp only [List.append_assoc]
  rw [e2,this]
  simp only [List.append_assoc]
 rw [xu] at h2
 refine ⟨w',?_,k w' ⟨hs.aF.trans (h3.mono λ k hk=>(hF k).2 hk) (λ _ h=>h) λ b hb hf=>(g2 b hf).elim id λ hh=>by omega,U,F,U',?_,g2,g3,g4,
  g5.loc λ b hb=>(h3.mono λ k hk=>(hF k).2 hk).cD b (g5.lt b hb) λ hf=>g3 b hf hb⟩⟩
 ·show (storeVar T ⟨b,i * Flat.sz α+off,none⟩ (Flat.val z)).run P w=_
  unfold storeVar
  rw [dH (fp (jB ht).2 w),oI]
  simp only [List.size_toArray,Flat.len,ne_eq,not_true_eq_false,if_false]
  exact h1
 ·refine .inr ⟨b,cap,rest,by rw [List.length_set]; exact hv,h2,?_,hF⟩
  rw [← hl,List.length_append,List.length_append,cQ,cQ,List.length_set]
theorem uN {T:Nat} {b o:Nat} {cs:List Value} (x:α) {K:Value→Prop} (ht:cP P T=some (Flat.agg α,Flat.sz α)) (hb:tB w b cs) (hx:(cs.drop o).take (Flat.sz α)=Flat.enc x) (k:K (Flat.val x)) :
  C7 P (Instr.loadAt T (.pointer (some ⟨b,o,none⟩))) w K:=by
 refine aD (S:=λ _=>True) ht ⟨b,o,rfl,trivial,λ j c hj=>hb.cell ?_⟩ k
 rw [← hx,List.getElem?_take] at hj
 split at hj
 ·rw [List.getElem?_drop] at hj; exact hj
 ·cases hj
end
structure SV where
 a:Option Addr
 n:Nat
 cap:Nat
instance:Flat SV where
 agg:=false
 sz:=1
 enc s:=[.slice s.a s.n s.cap]
 val s:=.slice s.a s.n s.cap
 pos:=by decide
 len _:=rfl
 one a v h:=by rw [List.mem_singleton.1 h]; rfl
 nO h:=by cases h
 oz _ _:=rfl
section
variable {P:Program} {α:Type} [Flat α] {A:Nat→Prop} {w0 w:World} {L L':List HP} {v:Value}
def rows:List SV→List (List α)→HP
 | [],[]=>emp
 | s::ss,x::xs=>sep (bK (Flat.val s) x) (rows ss xs)
 | _,_=>fact False emp
theorem Kl:∀ {ss:List SV} {xs:List (List α)} {F:Nat→Prop},(rows ss xs).p w F→ss.length=xs.length
 | [],[],_,_=>rfl
 | s::ss,x::xs,F,h=>by
  obtain ⟨F1,F2,_,h2,_,_⟩:=h
  rw [List.length_cons,List.length_cons,Kl h2]
 | [],_::_,_,h=>h.1.elim
 | _::_,[],_,h=>h.1.elim
theorem Gw:∀ {ss:List SV} {xs:List (List α)} {F1 F2 F:Nat→Prop} {s:SV} {x:List α},(rows ss xs).p w F1→(bK (Flat.val s) x).p w F2→(∀ b,F1 b→¬ F2 b)→(∀ b,F b↔F1 b∨F2 b)→(rows (ss++[s]) (xs++[x])).p w F
 | [],[],F1,F2,F,s,x,h1,h2,_,h4=>by
  refine ⟨F2,F1,h2,h1,λ b hb Ii=>h1 b Ii,λ b=>?_⟩
  rw [h4 b]; exact ⟨λ h=>h.symm,λ h=>h.symm⟩
 | s'::ss,x'::xs,F1,F2,F,s,x,h1,h2,h3,h4=>by
  obtain ⟨G1,G2,g1,g2,g3,g4⟩:=h1
  refine ⟨G1,λ b=>G2 b∨F2 b,g1,Gw g2 h2 (λ b hb=>h3 b ((g4 b).2 (.inr hb))) (λ b=>Iff.rfl),λ b hb=>?_,λ b=>?_⟩
  ·rintro (hh | hh)
   ·exact g3 b hb hh
   ·exact h3 b ((g4 b).2 (.inl hb)) hh
  ·rw [h4 b,g4 b,or_assoc]
 | [],_::_,_,_,_,_,_,h,_,_,_=>h.1.elim
 | _::_,[],_,_,_,_,_,h,_,_,_=>h.1.elim
theorem St.zD {ss:List SV} {xs:List (List α)} (hs:St w0 A (rows ss xs::L) w):ss.length=xs.length:=by
 obtain ⟨F,h,_⟩:=hs.head; exact Kl h
theorem St.abv (hs:St w0 A L w):St w0 A (rows [] ([]:List (List α))::L) w:=
 hs.new (Ext.refl w) (F:=bD) (λ _ h=>h) λ _ h=>h.elim
theorem St.DF {ss:List SV} {xs:List (List α)} {s:SV} {x:List α} (hs:St w0 A (rows ss xs::bK (Flat.val s) x::L) w):St w0 A (rows (ss++[s]) (xs++[x])::L) w:=by
 have h:=St.join hs
 refine h.rN λ F hF=>?_
 obtain ⟨F1,F2,h1,h2,h3,h4⟩:=hF
 exact ⟨F,Gw h1 h2 h3 h4,λ b hb=>.inl hb,ix.refl _ _⟩
theorem St.fQ {xs:List α} (hs:St w0 A (bK v xs::L) w):∃ s:SV,v=Flat.val s:=by
 obtain ⟨F,h,_⟩:=hs.head
 rcases h with ⟨rfl,_⟩ | ⟨b,cap,_,rfl,_⟩
 ·exact ⟨⟨none,0,0⟩,rfl⟩
 ·exact ⟨⟨_,_,_⟩,rfl⟩
theorem eF.fQ {S:Nat→Prop} {xs:List α} (h:eF S w v xs):∃ s:SV,v=Flat.val s:=by
 obtain ⟨a,cap,rfl,_⟩:=h; exact ⟨⟨_,_,_⟩,rfl⟩
end
section
variable {P:Program}
theorem lX {α:Type} [Flat α] {S:Nat→Prop} {w:World} {xs:List α} {T E oy:Nat} {z:Option Nat} {v:Value} {i:Int} {K:Value→Prop} (ht:fb P T=some (E,Flat.sz α,oy,z)) (hr:eF S w v xs) (h0:0≤i) (h2:i≤xs.length)
  (k:∀ v',(∀ w',eF S w' v xs→eF S w' v' (xs.take i.toNat))→K v'):cT P (Instr.sliceAt T v none (some (.int .i64 i)) none) K:=by
 obtain ⟨a,cap,rfl,J1,h3⟩:=hr
 refine ⟨_,A1 ht (qD (.inl ⟨rfl,rfl⟩) (.inr ⟨i,rfl,h0,rfl⟩) (Nat.zero_le _) (by omega)),k _ λ w' h=>?_⟩
 have:=h.cut rfl (Nat.zero_le i.toNat) (by omega)
 simpa using this
end
open Go.ChangeShapes Go.WideShapes Go.ChangeAt Go.RowKit
structure RdT (P:Program) (t:TypeId) (α:Type) [Flat α] (φ:α→Prop):Prop where
 cells:P.cellsOf t=Flat.sz α
 rd:∀ {H:Type} (enc:TypeId × Value→H) (w:World) (base:Nat) (sp:Nat→Bool) (held:Bool) (fuel:Nat) (cs:List Value) (x:DataW H × List MemPlace),
  DataW.trod enc P w base sp held fuel t cs=some x→∃ a:α,cs=Flat.enc a∧φ a
def mB (n:Int):Prop:=-9223372036854775808≤n∧n≤9223372036854775807
theorem ahZ {P:Program} {t:TypeId} (ht:P.underlying t=some (.int .i64)) (hc:P.cellsOf t=1):RdT P t Int mB:=
 ⟨hc,λ enc w base sp held fuel cs x h=>by
  obtain ⟨n,h1,_,h3⟩:=DataW.trod_int ht h
  refine ⟨n,h1,?_⟩
  simpa [Lit.wf,IntKind.min,IntKind.max,IntKind.signed,IntKind.bits,mB] using h3⟩
theorem ah0 {P:Program} {t:TypeId} (ht:P.underlying t=some .string) (hc:P.cellsOf t=1):RdT P t ByteArray (λ s=>s.size≤maxLen):=
 ⟨hc,λ enc w base sp held fuel cs x h=>by
  obtain ⟨n,h1,_,h2⟩:=DataW.trod_string ht h
  exact ⟨n,h1,h2⟩⟩
theorem lY {H:Type} {enc:TypeId × Value→H} {P:Program} {w:World} {base:Nat} {sp:Nat→Bool} {held:Bool} {fuel:Nat} {t:TypeId} {fs:Array Field} {cs:List Value} {x:DataW H × List MemPlace}
  (ht:P.underlying t=some (.struct fs)) (h:DataW.trod enc P w base sp held fuel t cs=some x) :
  cs.length=P.cellsOf t∧∃ n,∀ (i:Nat) (f:Field),fs[i]? = some f→∃ y,DataW.trod enc P w base sp held n f.type ((cs.drop f.offset).take (P.cellsOf f.type))=some y:=by
 obtain ⟨xs,n,_,_,hl,hs,hf⟩:=DataW.trod_struct ht h
 refine ⟨hl,n,λ i f hi=>?_⟩
 have mz:i<xs.length:=by rw [hs]; exact (Array.getElem?_eq_some_iff.1 hi).1
 exact ⟨xs[i],by rw [hf i f hi,List.getElem?_eq_getElem mz]⟩
theorem dS {cs:List Value} {o s:Nat} {r:List Value} (h:(cs.drop o).take s=r):cs.drop o=r++cs.drop (o+s):=by
 rw [← h,← List.drop_drop,List.take_append_drop]
theorem abw {α:Type} {p:Nat→α→Prop}:∀ n,(∀ i,i<n→∃ x,p i x)→∃ xs:List α,xs.length=n∧∀ i x,xs[i]? = some x→p i x:=by
 intro n
 induction n with
 | zero=>intro _; exact ⟨[],rfl,by simp⟩
 | succ n ih=>
  intro h
  obtain ⟨xs,h1,h2⟩:=ih λ i hi=>h i (by omega)
  obtain ⟨x,hx⟩:=h n (by omega)
  refine ⟨xs++[x],by simp [h1],λ i y hy=>?_⟩
  by_cases hi:i<n
  ·rw [List.getElem?_append_left (by omega)] at hy; exact h2 i y hy
  ·have mz:i<(xs++[x]).length:=(List.getElem?_eq_some_iff.1 hy).1
   have:i=n:=by simp [h1] at mz; omega
   subst this
   rw [List.getElem?_append_right (by omega),h1] at hy
   simp at hy
   rw [← hy]; exact hx
theorem Nb {α:Type} [Flat α] {xs:List α} {j:Nat} {c:Value} (h:(flat xs)[j]? = some c):∃ i r x,xs[i]? = some x∧(Flat.enc x)[r]? = some c∧j=i * Flat.sz α+r:=by
 have mz:j<(flat xs).length:=(List.getElem?_eq_some_iff.1 h).1
 rw [cQ] at mz
 have hp:0<Flat.sz α:=Flat.pos
 have hi:j / Flat.sz α<xs.length:=Nat.div_lt_of_lt_mul (by rw [Nat.mul_comm]; exact mz)
 have hr:j % Flat.sz α<Flat.sz α:=Nat.mod_lt _ hp
 have hj:j=j / Flat.sz α * Flat.sz α+j % Flat.sz α:=by rw [Nat.mul_comm]; exact (Nat.div_add_mod _ _).symm
 have hx:xs[j / Flat.sz α]? = some (xs[j / Flat.sz α]):=List.getElem?_eq_getElem hi
 have hc:(Flat.enc (xs[j / Flat.sz α]))[j % Flat.sz α]? = some ((Flat.enc (xs[j / Flat.sz α]))[j % Flat.sz α]'(by rw [Flat.len]; exact hr)):=List.getElem?_eq_getElem _
 have:=tD hx hc
 rw [← hj,h] at this
 exact ⟨_,_,_,hx,hc.trans this.symm,hj⟩
section
variable {H:Type} {enc:TypeId × Value→H} {P:Program} {w:World} {base:Nat} {held:Bool}
def Ij (P:Program) (ts:List TypeId):Bool:=ts.all λ t=>P.readableRec t && decide (t<P.types.size)
theorem xW (hl:laidOutB P=true) {W W':World} (hb:Below W.heap.size W W') {sp:Nat→Bool}:∀ {ts:List TypeId} {vs:List Value} {ds:List (DataW H)} {ps:List MemPlace},Ij P ts=true→(∀ x∈ps,x.block<W.heap.size)→
  (∀ x∈ps,sp x.block=true)→DataW.TrodAll enc P W 0 (λ _=>true) true ts vs ds ps→DataW.TrodAll enc P W' 0 sp true ts vs ds ps
 | [],vs,ds,ps,_,_,_,h=>by obtain ⟨rfl,rfl,rfl⟩:=trodAll_nil h; exact trodAll_mk0
 | t::ts,vs,ds,ps,hr,mz,RG,h=>by
  obtain ⟨v,vs1,d,ds1,a,b,rfl,rfl,rfl,h1,h2⟩:=trodAll_cons h
  have Yf:P.readableRec t=true∧t<P.types.size∧Ij P ts=true:=by
   unfold Ij at hr
   rw [List.all_cons,Bool.and_eq_true,Bool.and_eq_true,decide_eq_true_eq] at hr
   exact ⟨hr.1.1,hr.1.2,hr.2⟩
  refine trodAll_cons_mk (WideElems.Trod_stays hl Yf.1 Yf.2.1 h1 (λ x hx=>hb.same (mz x (List.mem_append_left _ hx))) (λ x hx=>RG x (List.mem_append_left _ hx))) ?_
  exact xW hl hb Yf.2.2 (λ x hx=>mz x (List.mem_append_right _ hx)) (λ x hx=>RG x (List.mem_append_right _ hx)) h2
theorem post_true {f:Func} {s:ChangeSpec} {apart fresh handsOn again:Bool} {W W':World} {args:Array Value} {ds gs:List (DataW H)} {before:List MemPlace} {tb:TypeId}
  (ae1:s.vars=[]) (Km:∀ ds:List (DataW H),ds.length=f.params.size→s.fn H ds={results:=[.lit (.bool true)],args:=ds}) (aoo:f.resultTypes = #[tb]) (htb:P.underlying tb=some .bool)
  (hl:laidOutB P=true) (avR:Ij P f.params.toList=true)
  (hW:DataW.Whole enc P f.params.toList s.vars apart W args.toList ds gs before) (hb:Below W.heap.size W W') :
  s.post enc P f apart fresh handsOn again W args (.bool true) W':=by
 have hW':=hW
 obtain ⟨p,q,hA,hV,hpq,hz,hn⟩:=hW
 have mz:∀ x∈before,x.block<W.heap.size:=hW'.lt
 rw [ae1] at hV
 obtain ⟨rfl,rfl⟩:=trodVars_none hV
 simp only [List.append_nil] at hpq
 have hlen:ds.length=f.params.size:=by
  have:=(trodAll_length hA).2
  simpa using this
 have ah1:=Km ds hlen
 have ae2:∀ (b:Nat) (sp:Nat→Bool) (hd:Bool),DataW.TrodAll enc P W' b sp hd f.resultTypes.toList ((Value.bool true).resultList f.resultTypes.size) (s.fn H (ds++[])).results []:=λ b sp hd=>by
  rw [List.append_nil,ah1,aoo]
  exact trodAll_mk1 (shut_bool htb true)
 have hargs:∀ sp:Nat→Bool,(∀ p∈before,sp p.block=true)→DataW.TrodAll enc P W' 0 sp true f.params.toList args.toList (s.fn H (ds++[])).args before:=λ sp RG=>by
  rw [List.append_nil,ah1]
  rw [hpq] at mz RG ⊢
  exact xW hl hb avR mz RG hA
 have Ux:∀ sp:Nat→Bool,DataW.TrodVars enc P W' sp s.vars (s.fn H (ds++[])).vars []:=λ sp=>by
  rw [List.append_nil,ah1,ae1]; rfl
 have oC:∀ (j:Nat) (t:TypeId) (r:Value),f.resultTypes[j]? = some t→((Value.bool true).resultList f.resultTypes.size)[j]? = some r→Value.okWide P W' .any 0 t r:=
  ok_one aoo rfl (okWide_bool_mk htb true)
 have hold:∀ p∈before,(λ b=>decide (b<W.heap.size)) p.block=true:=λ p hp=>by simpa using mz p hp
 refine ⟨ds,[],before,[],before,[],hW',ae2 _ _ _,hargs _ hold,Ux _,World.keptBut_mono (λ p hp=>⟨hp,?_⟩) (hb.frame (·∈before)),λ _=>?_⟩
 ·simpa using hp
 ·refine ⟨oC,_,_,([]++before)++[],⟨[]++before,[],trodAll_append (hargs _ (λ _ _=>rfl)) (ae2 _ _ _),Ux _,rfl,?_,?_⟩,?_⟩
  ·intro b off hp
   have hp':MemPlace.cell b off∈before:=by simpa using hp
   rw [hb.frozen (p:=⟨b,off,none⟩) (mz _ hp')]
   exact hz b off hp'
  ·intro ha; simpa using hn ha
  ·intro p hp _; simpa using hp
end
section
variable {P:Program} {α:Type} [Flat α]
def aop (P:Program) (T n E:Nat):Prop:=P.underlying T=some (.array n E)∧pr P (sizeOf E)=some 1
theorem nY {T E n b o:Nat} {i:Int} {K:Value→Prop} (h:aop P T n E) (h0:0≤i) (h1:i<n) (k:K (.pointer (some ⟨b,o+i.toNat,none⟩))) :
  cT P (Instr.indexAt T (.pointer (some ⟨b,o,none⟩)) (.int .i64 i)) K:=by
 refine ⟨_,?_,k⟩
 unfold Instr.indexAt
 have e1:pr P (underlying T)=some (.array n E):=cL h.1
 have e3:pr P (Instr.sureAddr (.pointer (some (⟨b,o,none⟩:Addr))))=some ⟨b,o,none⟩:=rfl
 simp only [asIntOf,cM,e1,Option.bind_some,fe,e3]
 simp only [if_pos (show 0≤i∧i<(n:Int) from ⟨h0,h1⟩),cM,h.2,Option.bind_some,fe,gN,Nat.mul_one]
end
theorem PI {α:Type} [Flat α] {P:Program} {w w0:World} {A:Nat→Prop} {L:List HP} {xs:List α} {T:Nat} {v p:Value} {i:Nat} {x:α} (hs:St w0 A (bK v xs::L) w) (ht:cP P T=some (Flat.agg α,Flat.sz α)) (hp:Gr α v i p) (hx:xs[i]? = some x) :
  (Instr.loadAt T p).run P w = .ok (Flat.val x) w:=by
 obtain ⟨F,h,_⟩:=hs.head
 obtain ⟨b,cap,rest,hv,hb,hl,_⟩:=qE h (List.getElem?_eq_some_iff.1 hx).1
 obtain ⟨b',n,c,Dn,rfl⟩:=hp
 rw [hv] at Dn
 simp only [Value.slice.injEq,Option.some.injEq,Addr.mk.injEq] at Dn
 obtain ⟨⟨rfl,_,_⟩,_,_⟩:=Dn
 refine fh (S:=λ _=>True) ht ⟨b,i * Flat.sz α,rfl,trivial,λ j c hj=>hb.cell ?_⟩
 have:=tD hx hj
 rw [List.getElem?_append_left (List.getElem?_eq_some_iff.1 this).1]; exact this
class cA (α:Type) (σ:outParam Type) [Flat σ] where
 dr:World→σ→α→Prop
 ext:∀ {w w':World} {s:σ} {x:α},dr w s x→Ext w w'→dr w' s x
def DL {α σ:Type} [Flat σ] [cA α σ] (w:World) (v:Value) (xs:List α):Prop:=
 ∃ ts:List σ,eF (λ _=>True) w v ts∧ts.length=xs.length∧∀ (i:Nat) (t:σ) (x:α),ts[i]? = some t→xs[i]? = some x→cA.dr w t x
section
variable {P:Program} {α σ:Type} [Flat σ] [cA α σ] {w w' w0:World} {v:Value} {A:Nat→Prop} {L:List HP}
theorem DL.ext {xs:List α} (h:DL w v xs) (e:Ext w w'):DL w' v xs:=by
 obtain ⟨ts,h1,h2,h3⟩:=h; exact ⟨ts,h1.ext e,h2,λ i t x a b=>cA.ext (h3 i t x a b) e⟩
theorem DL.nil (w:World):DL w (.slice none 0 0) ([]:List α):=⟨[],eF.nil _ _,rfl,λ i t x h=>by simp at h⟩
theorem DL.fQ {xs:List α} (h:DL w v xs):∃ s:SV,v=Flat.val s:=by obtain ⟨_,h,_⟩:=h; exact h.fQ
instance:cA (List α) SV where
 dr w s xs:=DL w (Flat.val s) xs
 ext h e:=DL.ext h e
def eS (Φ:World→Prop):HP where
 p w F:=(∀ w':World,(∀ b,F b→w'.heap[b]? = w.heap[b]?)→Φ w')∧∀ b,F b→b<w.heap.size
 loc w w' F h hh:=⟨λ w2 h2=>h.1 w2 λ b hb=>(h2 b hb).trans (hh b hb),λ b hb=>by
  have:=h.2 b hb
  have h3:=hh b hb
  rw [Array.getElem?_eq_getElem this] at h3
  exact (Array.getElem?_eq_some_iff.1 h3).1⟩
 lt w F b h hb:=h.2 b hb
theorem eS.now {Φ:World→Prop} {F:Nat→Prop} (h:(eS Φ).p w F):Φ w:=h.1 w λ _ _=>rfl
theorem St.eS {Φ:World→Prop} (hs:St w0 A (eS Φ::L) w):Φ w:=by obtain ⟨F,h,_⟩:=hs.head; exact eS.now h
theorem St.dO {Φ Ψ:World→Prop} (hs:St w0 A (Fw.eS Φ::L) w) (hk:∀ w,Φ w→Ψ w):St w0 A (Fw.eS Ψ::L) w:=
 hs.rN λ F hF=>⟨F,⟨λ w' h=>hk _ (hF.1 w' h),hF.2⟩,λ b hb=>.inl hb,ix.refl _ _⟩
theorem St.fL {Φ Ψ:World→Prop} (hs:St w0 A (Fw.eS Φ::Fw.eS Ψ::L) w):St w0 A (Fw.eS (λ w=>Φ w∧Ψ w)::L) w:=by
 have h:=St.join hs
 refine h.rN λ F hF=>?_
 obtain ⟨F1,F2,h1,h2,h3,h4⟩:=hF
 refine ⟨F,⟨λ w' hh=>⟨h1.1 w' λ b hb=>hh b ((h4 b).2 (.inl hb)),h2.1 w' λ b hb=>hh b ((h4 b).2 (.inr hb))⟩,λ b hb=>?_⟩,λ b hb=>.inl hb,ix.refl _ _⟩
 rcases (h4 b).1 hb with hb | hb
 ·exact h1.2 b hb
 ·exact h2.2 b hb
theorem St.gE {Φ:World→Prop} (hs:St w0 A L w) (h:∀ w,Φ w):St w0 A (Fw.eS Φ::L) w:=
 hs.new (Ext.refl w) (F:=bD) ⟨λ w' _=>h w',λ b hb=>hb.elim⟩ λ _ h=>h.elim
theorem St.freeze {xs:List σ} (hs:St w0 A (bK v xs::L) w):St w0 A (Fw.eS (λ w=>eF (λ _=>True) w v xs)::L) w:=
 hs.rN λ F hF=>⟨F,⟨λ w' h=>(bK.rd ((bK v xs).loc _ _ _ hF h)).mono λ _ _=>trivial,λ b hb=>(bK v xs).lt _ _ _ hF hb⟩,λ b hb=>.inl hb,ix.refl _ _⟩
theorem St.qF {b:Nat} {cs:List Value} (hs:St w0 A (cD b cs::L) w):St w0 A (Fw.eS (λ w=>tB w b cs)::L) w:=
 hs.rN λ F hF=>⟨F,⟨λ w' h=>((cD b cs).loc _ _ _ hF h).1,λ k hk=>(cD b cs).lt _ _ _ hF hk⟩,λ b hb=>.inl hb,ix.refl _ _⟩
def jc (ts:List σ) (xs:List α) (w:World):Prop:=ts.length=xs.length∧∀ (i:Nat) (t:σ) (x:α),ts[i]? = some t→xs[i]? = some x→cA.dr w t x
theorem jc.nil:jc ([]:List σ) ([]:List α) w:=⟨rfl,λ i t x h=>by simp at h⟩
theorem jc.snoc {ts:List σ} {xs:List α} {t:σ} {x:α} (h:jc ts xs w) (ht:cA.dr w t x):jc (ts++[t]) (xs++[x]) w:=by
 refine ⟨by rw [List.length_append,List.length_append,h.1]; rfl,λ i t' x' h1 h2=>?_⟩
 rcases Nat.lt_or_ge i ts.length with hi | hi
 ·rw [List.getElem?_append_left hi] at h1
  rw [List.getElem?_append_left (by rw [← h.1]; exact hi)] at h2
  exact h.2 i t' x' h1 h2
 ·have mz:=(List.getElem?_eq_some_iff.1 h1).1
  rw [List.length_append,List.length_singleton] at mz
  obtain rfl:i=ts.length:=by omega
  rw [List.getElem?_append_right (Nat.le_refl _),Nat.sub_self] at h1
  rw [List.getElem?_append_right (by rw [h.1]; exact Nat.le_refl _),h.1,Nat.sub_self] at h2
  rw [← Option.some.inj h1,← Option.some.inj h2]; exact ht
theorem jc.append {ts us:List σ} {xs ys:List α} (h:jc ts xs w) (g:jc us ys w):jc (ts++us) (xs++ys) w:=by
 refine ⟨by rw [List.length_append,List.length_append,h.1,g.1],λ i t' x' h1 h2=>?_⟩
 rcases Nat.lt_or_ge i ts.length with hi | hi
 ·rw [List.getElem?_append_left hi] at h1
  rw [List.getElem?_append_left (by rw [← h.1]; exact hi)] at h2
  exact h.2 i t' x' h1 h2
 ·rw [List.getElem?_append_right hi] at h1
  rw [List.getElem?_append_right (by rw [← h.1]; exact hi),← h.1] at h2
  exact g.2 _ t' x' h1 h2
theorem DL.of {ts:List σ} {xs:List α} (h:eF (λ _=>True) w v ts) (g:jc ts xs w):DL w v xs:=⟨ts,h,g.1,g.2⟩
theorem DL.open {xs:List α} (h:DL w v xs):∃ ts:List σ,eF (λ _=>True) w v ts∧jc ts xs w:=by obtain ⟨ts,h1,h2,h3⟩:=h; exact ⟨ts,h1,h2,h3⟩
theorem jc.take {ts:List σ} {xs:List α} (h:jc ts xs w) (k:Nat):jc (ts.take k) (xs.take k) w:=by
 refine ⟨by rw [List.length_take,List.length_take,h.1],λ i t x a b=>?_⟩
 rw [List.getElem?_take] at a b
 split at a
 ·rename_i hi; rw [if_pos hi] at b; exact h.2 i t x a b
 ·cases a
theorem jc.drop {ts:List σ} {xs:List α} (h:jc ts xs w) (k:Nat):jc (ts.drop k) (xs.drop k) w:=by
 refine ⟨by rw [List.length_drop,List.length_drop,h.1],λ i t x a b=>?_⟩
 rw [List.getElem?_drop] at a b
 exact h.2 _ t x a b
end
section
variable {α:Type} [Flat α]
abbrev jb:cA α α:=⟨λ _ s x=>s=x,λ h _=>h⟩
theorem Gx [D:cA α α] (hD:∀ w s x,D.dr w s x↔s=x) {w:World} {ts xs:List α}:jc ts xs w↔ts=xs:=by
 constructor
 ·rintro ⟨h1,h2⟩
  refine List.ext_getElem? λ i=>?_
  rcases Nat.lt_or_ge i ts.length with hi | hi
  ·have a:=List.getElem?_eq_getElem hi
   have b:=List.getElem?_eq_getElem (l:=xs) (by rw [← h1]; exact hi)
   rw [a,b,(hD _ _ _).1 (h2 i _ _ a b)]
  ·rw [List.getElem?_eq_none hi,List.getElem?_eq_none (by rw [← h1]; exact hi)]
 ·rintro rfl
  exact ⟨rfl,λ i t x a b=>(hD _ _ _).2 (Option.some.inj (a.symm.trans b))⟩
end
instance:cA Int Int:=jb
instance:cA Bool Bool:=jb
instance:cA ByteArray ByteArray:=jb
structure RdW (P:Program) (w:World) (t:TypeId) (α:Type) [Flat α] (φ:α→Prop):Prop where
 cells:P.cellsOf t=Flat.sz α
 rd:∀ {H:Type} (enc:TypeId × Value→H) (base:Nat) (held:Bool) (fuel:Nat) (cs:List Value) (x:DataW H × List MemPlace),
  DataW.trod enc P w base (λ _=>true) held fuel t cs=some x→∃ a:α,cs=Flat.enc a∧φ a
def xX (P:Program) (t:TypeId) (α:Type) {σ:Type} [Flat σ] [cA α σ] (φ:α→Prop):Prop:=∀ w,RdW P w t σ (λ s=>∃ a:α,cA.dr w s a∧φ a)
theorem RdT.deep {P:Program} {t:TypeId} {α:Type} [Flat α] [D:cA α α] {φ:α→Prop} (h:RdT P t α φ) (hD:∀ w (x:α),D.dr w x x):xX P t α φ:=
 λ w=>⟨h.cells,λ enc base held fuel cs x hx=>by
  obtain ⟨a,h1,h2⟩:=h.rd enc w base _ held fuel cs x hx; exact ⟨a,h1,a,hD w a,h2⟩⟩
section
variable {H:Type} {enc:TypeId × Value→H} {P:Program} {w:World} {base:Nat} {held:Bool}
theorem Kn {α:Type} [Flat α] {φ:α→Prop} {t e:TypeId} {fuel:Nat} {cs:List Value} {x:DataW H × List MemPlace} (ht:P.underlying t=some (.slice e)) (hr:RdW P w e α φ)
  (h:DataW.trod enc P w base (λ _=>true) held fuel t cs=some x):∃ v,cs=[v]∧∃ xs:List α,eF (λ b=>b<w.heap.size) w v xs∧∀ x∈xs,φ x:=by
 rcases DataW.trod_slice ht h with ⟨rfl,_⟩ | ⟨a,len,cap,elems,rest,n,_,rfl,_,hb,hl,hm,hlen,hel,RG,_⟩
 ·exact ⟨_,rfl,[],eF.nil _ _,by simp⟩
 ·refine ⟨_,rfl,?_⟩
  have get:∀ i,i<len→∃ x:α,φ x∧w.cells? base (a.add (i * P.cellsOf e)) (P.cellsOf e)=some (Flat.enc x):=by
   intro i hi
   have h1:=hel i hi
   rw [List.getElem?_eq_getElem (by omega)] at h1
   obtain ⟨cs',h2,h3⟩:=Option.bind_eq_some_iff.1 h1
   obtain ⟨x,rfl,hx⟩:=hr.rd enc base held n cs' _ h3
   exact ⟨x,hx,h2⟩
  obtain ⟨xs,O6,hxs⟩:=abw len get
  have lz:=hr.cells
  have zp:0<Flat.sz α:=Flat.pos
  have first:∀ (c:Nat) (cs':List Value),w.cells? base (a.add (c * P.cellsOf e)) (P.cellsOf e)=some cs'→c=0→a.spot=none:=by
   intro c cs' h1 h0
   subst h0
   have:=World.cells?_some h1
   have h2:=this.2.2 0 (by rw [lz]; exact zp)
   rw [Nat.zero_mul] at h2
   have h3:w.cell? a=cs'[0]?:=by simpa [Addr.add] using h2
   rw [List.getElem?_eq_getElem (by rw [this.2.1,lz]; exact zp)] at h3
   unfold World.cell? at h3
   split at h3
   ·split at h3
    ·cases h3
    ·rename_i hs; simpa using hs
   ·cases h3
  refine ⟨xs,⟨some a,cap,by rw [O6],by omega,?_⟩,λ x hx=>?_⟩
  ·by_cases zo:cap=0
   ·exact .inl ⟨List.length_eq_zero_iff.1 (by omega),zo⟩
   ·right
    have PJ:a.spot=none:=by
     by_cases h0:0<len
     ·obtain ⟨x,_,hx⟩:=get 0 h0
      exact first 0 _ hx rfl
     ·obtain ⟨h1,h2⟩:=RG rfl
      have h3:=h2 0 (by omega)
      rw [List.getElem?_eq_getElem (by omega)] at h3
      obtain ⟨cs',h4,_⟩:=Option.bind_eq_some_iff.1 h3
      exact first (len+0) _ h4 (by omega)
    have DG:∀ j c,(flat xs)[j]? = some c→Cell w a.block (a.off+j) c:=by
     intro j c hj
     obtain ⟨i,r,x,hx,CE,rfl⟩:=Nb hj
     have h1:=(World.cells?_some (hxs i x hx).2).2.2 r (by rw [lz]; have:=(List.getElem?_eq_some_iff.1 CE).1; rwa [Flat.len] at this)
     rw [CE,lz] at h1
     obtain ⟨b,o,s⟩:=a
     simp only at PJ
     subst PJ
     unfold Cell
     rw [← h1,gN,gN,Nat.add_assoc]
    refine ⟨a.block,a.off,by obtain ⟨b,o,s⟩:=a; simp only at PJ; subst PJ; rfl,λ Cb=>?_,DG⟩
    obtain ⟨y,ys,rfl⟩:=List.exists_cons_of_ne_nil Cb
    have h0:(flat (y::ys))[0]? = some ((Flat.enc y)[0]'(by rw [Flat.len]; exact zp)):=by
     rw [i0,List.getElem?_append_left (by rw [Flat.len]; exact zp),List.getElem?_eq_getElem]
    exact (DG 0 _ h0).lt
  ·obtain ⟨i,hi⟩:=List.getElem?_of_mem hx
   exact (hxs i x hi).1
theorem Nc {α σ:Type} [Flat σ] [cA α σ] {φ:α→Prop}:∀ (ts:List σ),(∀ s∈ts,∃ a:α,cA.dr w s a∧φ a)→∃ xs:List α,jc ts xs w∧∀ x∈xs,φ x
 | [],_=>⟨[],jc.nil,by simp⟩
 | t::ts,h=>by
  obtain ⟨a,h1,h2⟩:=h t (by simp)
  obtain ⟨xs,h3,h4⟩:=Nc ts λ s hs=>h s (List.mem_cons_of_mem _ hs)
  refine ⟨a::xs,?_,λ x hx=>?_⟩
  ·have:jc ([]++[t]) ([]++[a]) w:=jc.nil.snoc h1
   exact this.append h3
  ·rcases List.mem_cons.1 hx with rfl | hx
   ·exact h2
   ·exact h4 x hx
theorem xX.slice {α σ:Type} [Flat σ] [cA α σ] {φ:α→Prop} {t e:TypeId} (ht:P.underlying t=some (.slice e)) (hc:P.cellsOf t=1) (hr:xX P e α φ):xX P t (List α) (λ xs=>∀ x∈xs,φ x):=
 λ w=>⟨hc,λ enc base held fuel cs x hx=>by
  obtain ⟨v,rfl,ts,h1,h2⟩:=Kn ht (hr w) hx
  obtain ⟨xs,h3,h4⟩:=Nc ts h2
  have h1':eF (λ _=>True) w v ts:=h1.mono λ _ _=>trivial
  obtain ⟨s,rfl⟩:=h1'.fQ
  exact ⟨s,rfl,xs,DL.of h1' h3,h4⟩⟩
theorem open_dl {α σ:Type} [Flat σ] [cA α σ] {φ:α→Prop} {t e:TypeId} {r:Reach} {b0:Nat} {v:Value} {d:DataW H} {ps:List MemPlace} (ht:P.underlying t=some (.slice e)) (hr:xX P e α φ)
  (hval:Value.okWide P w r b0 t v) (hd:DataW.Trod enc P w base (λ _=>true) held t v d ps):∃ xs:List α,DL w v xs∧∀ x∈xs,φ x:=by
 obtain ⟨fuel,hf⟩:=hd
 obtain ⟨u,hu,ts,h1,h2⟩:=Kn ht (hr w) hf
 have hv:v=u:=by
  have h1:=hval
  unfold Value.okWide at h1
  rw [ht] at h1
  cases v with
  | slice a n c=>exact (List.cons.inj (show [Value.slice a n c]=[u] from hu)).1
  | _=>
   have h2:Cell.okWide P w r b0 t _:=h1
   unfold Cell.okWide at h2
   rw [ht] at h2
   simp only [Cell.ok,ht] at h2
 subst hv
 obtain ⟨xs,h3,h4⟩:=Nc ts h2
 exact ⟨xs,DL.of (h1.mono λ _ _=>trivial) h3,h4⟩
theorem open_dst {α σ:Type} [Flat σ] [cA α σ] {φ:α→Prop} {t:TypeId} {fs:Array Field} {r:Reach} {b0:Nat} {v:Value} {d:DataW H} {ps:List MemPlace} (ht:P.underlying t=some (.struct fs)) (ha:Flat.agg σ=true)
  (hr:xX P t α φ) (hval:Value.okWide P w r b0 t v) (hd:DataW.Trod enc P w base (λ _=>true) held t v d ps):∃ (s:σ) (x:α),v=Flat.val s∧cA.dr w s x∧φ x:=by
 obtain ⟨fuel,hf⟩:=hd
 obtain ⟨s,hs,x,h1,h2⟩:=(hr w).rd enc base held fuel _ _ hf
 unfold Value.okWide at hval
 rw [ht] at hval
 obtain ⟨cs,rfl,_⟩:=hval
 refine ⟨s,x,?_,h1,h2⟩
 rw [Flat.nO ha,← hs]
 simp [Value.cells]
end
def qX (x:Int):Int:=IntKind.i64.wrap x
section
variable {P:Program} {T:Nat} {cx cy:Bool} {a b:Int} {K:Value→Prop}
theorem Ko (k:K (.int .i64 (qX (a+b)))):cT P (iu .add T cx cy (.int .i64 a) (.int .i64 b)) K:=⟨_,rfl,k⟩
theorem DH (k:K (.int .i64 (qX (a - b)))):cT P (iu .sub T cx cy (.int .i64 a) (.int .i64 b)) K:=⟨_,rfl,k⟩
theorem Kp (k:K (.int .i64 (qX (a * b)))):cT P (iu .mul T cx cy (.int .i64 a) (.int .i64 b)) K:=⟨_,rfl,k⟩
theorem Uy (k:K (.int .i64 (qX (0 - a)))):cT P (Op.unary .neg (.int .i64 a)) K:=⟨_,rfl,k⟩
theorem Uz (h:b≠0) (k:K (.int .i64 (qX (a.tdiv b)))):cT P (iu .quo T cx cy (.int .i64 a) (.int .i64 b)) K:=by
 refine ⟨_,?_,k⟩
 show pr P (Op.intDiv .quo .i64 a b)=_
 unfold Op.intDiv
 rw [if_neg h]; rfl
theorem UA (h:b≠0) (k:K (.int .i64 (a.tmod b))):cT P (iu .rem T cx cy (.int .i64 a) (.int .i64 b)) K:=by
 refine ⟨_,?_,k⟩
 show pr P (Op.intDiv .rem .i64 a b)=_
 unfold Op.intDiv
 rw [if_neg h]; rfl
end
theorem Nd {α:Type} [Flat α] {P:Program} {w w0:World} {A:Nat→Prop} {L:List HP} {xs:List α} {T E oy:Nat} {z:Option Nat} {v:Value} {i:Int} {K:Value→Prop} (ht:fb P T=some (E,Flat.sz α,oy,z))
  (hs:St w0 A (bK v xs::L) w) (h0:0≤i) (h1:i≤xs.length) (k:∀ v',St w0 A (bK v' (xs.take i.toNat)::L) w→K v'):cT P (Instr.sliceAt T v none (some (.int .i64 i)) none) K:=by
 obtain ⟨a,cap,hv,J1,_⟩:=hs.fI
 refine ⟨_,(by rw [hv]; exact A1 ht (qD (.inl ⟨rfl,rfl⟩) (.inr ⟨i,rfl,h0,rfl⟩) (Nat.zero_le _) (by omega))),k _ ?_⟩
 refine hs.rN λ F hF=>?_
 rcases hF with ⟨hv0,hx,fR⟩ | ⟨b,J2,rest,Dn,hb,hl,hF⟩
 ·rw [hv0] at hv
  subst hx
  simp only [Value.slice.injEq] at hv
  obtain ⟨rfl,_,rfl⟩:=hv
  have hi:i.toNat=0:=by simp at h1; omega
  refine ⟨F,.inl ⟨?_,by simp,fR⟩,λ b hb=>.inl hb,ix.refl _ _⟩
  rw [hi]; rfl
 ·rw [Dn] at hv
  simp only [Value.slice.injEq] at hv
  obtain ⟨rfl,_,rfl⟩:=hv
  refine ⟨F,.inr ⟨b,J2,flat (xs.drop i.toNat)++rest,?_,?_,?_,hF⟩,λ b hb=>.inl hb,ix.refl _ _⟩
  ·have Dc:(xs.take i.toNat).length=i.toNat:=by rw [List.length_take]; omega
   rw [Dc]
   simp [gN]
  ·rw [← List.append_assoc,← ik,List.take_append_drop]; exact hb
  ·rw [← List.append_assoc,← ik,List.take_append_drop]; exact hl
section
variable {P:Program} {w w':World} {v:Value}
theorem DL.flat {α:Type} [Flat α] [D:cA α α] {xs:List α} (h:DL w v xs) (hD:∀ w s x,D.dr w s x↔s=x:=by intros; exact Iff.rfl):eF (λ _=>True) w v xs:=by
 obtain ⟨ts,h1,h2⟩:=h.open
 rw [(Gx hD).1 h2] at h1; exact h1
theorem DL.fq {α:Type} [Flat α] [D:cA α α] {xs:List α} (h:eF (λ _=>True) w v xs) (hD:∀ w s x,D.dr w s x↔s=x:=by intros; exact Iff.rfl):DL w v xs:=DL.of h ((Gx hD).2 rfl)
theorem Kq {α:Type} [Flat α] {S:Nat→Prop} {xs:List α} {T E oy:Nat} {z:Option Nat} {lo hi:Option Value} {l h:Nat} {K:Value→Prop} (ht:fb P T=some (E,Flat.sz α,oy,z)) (hr:eF S w v xs)
  (hl:lo=none∧l=0∨∃ i:Int,lo=some (.int .i64 i)∧0≤i∧l=i.toNat) (hh:hi=none∧h=xs.length∨∃ i:Int,hi=some (.int .i64 i)∧0≤i∧h=i.toNat)
  (h1:l≤h) (h2:h≤xs.length) (k:∀ v',(∀ w',eF S w' v xs→eF S w' v' ((xs.take h).drop l))→K v'):cT P (Instr.sliceAt T v lo hi none) K:=by
 obtain ⟨a,cap,rfl,J1,h3⟩:=hr
 exact ⟨_,A1 ht (qD hl hh h1 (by omega)),k _ λ w' hw=>hw.cut rfl h1 h2⟩
theorem uO {α:Type} [Flat α] {S:Nat→Prop} {xs:List α} {T E oy:Nat} {z:Option Nat} {i:Int} {K:Value→Prop} (ht:fb P T=some (E,Flat.sz α,oy,z)) (hr:eF S w v xs)
  (h0:0≤i) (h2:i≤xs.length) (k:∀ v',(∀ w',eF S w' v xs→eF S w' v' (xs.drop i.toNat))→K v'):cT P (Instr.sliceAt T v (some (.int .i64 i)) none none) K:=
 Kq ht hr (.inr ⟨i,rfl,h0,rfl⟩) (.inl ⟨rfl,rfl⟩) (by omega) (Nat.le_refl _) λ v' h=>k v' λ w' hw=>by have:=h w' hw; rwa [List.take_length] at this
theorem km {α:Type} [Flat α] {S:Nat→Prop} {xs:List α} {T E oy:Nat} {z:Option Nat} {i j:Int} {K:Value→Prop} (ht:fb P T=some (E,Flat.sz α,oy,z)) (hr:eF S w v xs)
  (h0:0≤i) (h1:i≤j) (h2:j≤xs.length) (k:∀ v',(∀ w',eF S w' v xs→eF S w' v' ((xs.take j.toNat).drop i.toNat))→K v'):cT P (Instr.sliceAt T v (some (.int .i64 i)) (some (.int .i64 j)) none) K:=
 Kq ht hr (.inr ⟨i,rfl,h0,rfl⟩) (.inr ⟨j,rfl,by omega,rfl⟩) (by omega) (by omega) k
theorem DL.cut {α σ:Type} [Flat σ] [cA α σ] {xs:List α} {ts:List σ} {v':Value} {l h:Nat} (hq:∀ w',eF (λ _=>True) w' v ts→eF (λ _=>True) w' v' ((ts.take h).drop l)) (hR:eF (λ _=>True) w v ts) (hD:jc ts xs w):DL w v' ((xs.take h).drop l):=
 DL.of (hq w hR) ((hD.take h).drop l)
theorem DL.PK {α σ:Type} [Flat σ] [cA α σ] {xs:List α} {ts:List σ} {v':Value} {l:Nat} (hq:∀ w',eF (λ _=>True) w' v ts→eF (λ _=>True) w' v' (ts.drop l)) (hR:eF (λ _=>True) w v ts) (hD:jc ts xs w):DL w v' (xs.drop l):=
 DL.of (hq w hR) (hD.drop l)
theorem DI {a b:ByteArray}:(a.toList == b.toList)=decide (a=b):=by
 rw [ByteArray.toList_eq,ByteArray.toList_eq,Bool.eq_iff_iff,beq_iff_eq,decide_eq_true_eq]
 constructor
 ·intro h
  obtain ⟨a⟩:=a
  obtain ⟨b⟩:=b
  simp only [ByteArray.mk.injEq]
  exact Array.toList_inj.1 h
 ·rintro rfl; rfl
theorem tT {T:Nat} {cx cy:Bool} {a b:ByteArray} {K:Value→Prop} (k:K (.bool (decide (a=b)))):cT P (iu .eql T cx cy (.string a) (.string b)) K:=by
 rw [← DI] at k
 exact ⟨_,rfl,k⟩
theorem oL {T:Nat} {cx cy:Bool} {a b:ByteArray} {K:Value→Prop} (k:K (.bool (decide (¬ a=b)))):cT P (iu .neq T cx cy (.string a) (.string b)) K:=by
 refine ⟨_,rfl,?_⟩
 have:(!(a.toList == b.toList))=decide (¬ a=b):=by rw [DI]; by_cases h:a=b <;> simp [h]
 rw [this]; exact k
end
def lf (s:ByteArray):List UInt8:=s.data.toList
theorem dZ (s:ByteArray):(lf s).length=s.size:=by unfold lf; rw [Array.length_toList]; rfl
theorem abx (s:ByteArray) (i:Nat):(lf s)[i]? = if h:i<s.size then some (s[i]'h) else none:=by
 unfold lf
 by_cases h:i<s.size
 ·rw [dif_pos h,Array.getElem?_toList]
  exact Array.getElem?_eq_getElem h
 ·rw [dif_neg h,List.getElem?_eq_none]
  rw [Array.length_toList]; exact Nat.le_of_not_lt h
section
variable {P:Program} {T R:Nat} {cx cy:Bool} {a b:Int} {K:Value→Prop}
theorem gb {s:ByteArray} (hT:P.underlying T=some .string) (k:K (.int .i64 (s.size:Int))):cT P (Builtin.len_ #[T] R [Value.string s].toArray) K:=by
 refine ⟨_,?_,k⟩
 show pr P (do
  match ← underlying T,Value.string s with
  | .string,.string s=>pure (goInt s.size)
  | .array n _,_=>pure (goInt n)
  | .pointer arr,_=>
   let .array n _ ← underlying arr | stuck "len: pointer to array expected"
   pure (goInt n)
  | .slice _,.slice _ n _=>pure (goInt n)
  | .map _ _,.map none | .chan _ _,.chan none=>pure (goInt 0)
  | .map _ _,.map (some r)=>
   let .map entries _ ← getObj r | stuck "len: map expected"
   pure (goInt entries.size)
  | .chan _ _,.chan (some r)=>
   let .chan _ buf _ _ _ timer ← getObj r | stuck "len: channel expected"
   pure (goInt (if timer then 0 else buf.size))
  | _, _ => stuck "len: string, array, pointer to array, slice, map or channel expected") = _
 rw [cM,cL hT]; rfl
theorem lG {s:ByteArray} {i:Int} {e:UInt8} (hT:P.underlying T=some .string) (h0:0≤i) (he:(lf s)[i.toNat]? = some e) (k:K (.int .u8 (e.toNat:Int))):cT P (Instr.index T (.string s) (.int .i64 i)) K:=by
 refine ⟨_,?_,k⟩
 rw [abx] at he
 have hi:i.toNat<s.size:=by
  by_cases h:i.toNat<s.size
  ·exact h
  ·rw [dif_neg h] at he; cases he
 rw [dif_pos hi] at he
 have h3:(if 0≤i then s[i.toNat]? else none)=some e:=by rw [if_pos h0,ByteArray.getElem?_lt' s _ hi,← he]
 unfold Instr.index
 simp only [asIntOf,cM,cL hT,Option.bind_some,fe,h3]
theorem oM {s:ByteArray} {i:Int} (hT:P.underlying T=some .string) (h0:0≤i) (h1:i≤s.size) (k:K (.string (s.extract 0 i.toNat))):cT P (Instr.sliceAt T (.string s) none (some (.int .i64 i)) none) K:=by
 refine ⟨_,?_,k⟩
 unfold Instr.sliceAt
 rw [cM,cL hT]
 simp only [Option.bind_some]
 unfold Instr.slice
 rw [cM,cL hT]
 simp only [Option.bind_some]
 rw [if_neg (by decide)]
 have hb:pr P (Instr.sliceBounds false s.size s.size none (some (.int .i64 i)) none)=some (0,i.toNat,s.size):=by
  simp only [Instr.sliceBounds,cM,fe,Option.bind_some]
  rw [mQ h0 h1]; rfl
 rw [cM,hb]; rfl
theorem Ks {s:ByteArray} {i j:Int} (hT:P.underlying T=some .string) (h0:0≤i) (hij:i≤j) (h1:j≤s.size) (k:K (.string (s.extract i.toNat j.toNat))):cT P (Instr.sliceAt T (.string s) (some (.int .i64 i)) (some (.int .i64 j)) none) K:=by
 refine ⟨_,?_,k⟩
 unfold Instr.sliceAt
 rw [cM,cL hT]
 simp only [Option.bind_some]
 unfold Instr.slice
 rw [cM,cL hT]
 simp only [Option.bind_some]
 rw [if_neg (by decide)]
 have hb:pr P (Instr.sliceBounds false s.size s.size (some (.int .i64 i)) (some (.int .i64 j)) none)=some (i.toNat,j.toNat,s.size):=by
  simp only [Instr.sliceBounds,cM,fe,Option.bind_some]
  rw [mQ (by omega) h1]; simp only [Option.bind_some]; rw [mQ h0 (by omega)]; rfl
 rw [cM,hb]; rfl
theorem Ku (k:K (.bool (decide (a≤b)))):cT P (iu .leq T cx cy (.int .u8 a) (.int .u8 b)) K:=⟨_,rfl,k⟩
theorem Kv (k:K (.bool (decide (b≤a)))):cT P (iu .geq T cx cy (.int .u8 a) (.int .u8 b)) K:=⟨_,rfl,k⟩
theorem nZ (k:K (.bool (decide (a=b)))):cT P (iu .eql T cx cy (.int .u8 a) (.int .u8 b)) K:=⟨_,rfl,k⟩
theorem UB (k:K (.bool (decide (a≠b)))):cT P (iu .neq T cx cy (.int .u8 a) (.int .u8 b)) K:=
 ⟨_,(show pr P (iu .neq T cx cy (.int .u8 a) (.int .u8 b))=some (.bool (decide (a≠b))) from by
  show some (Value.bool (a != b))=_
  congr 2
  by_cases h:a=b <;> simp [h]),k⟩
theorem UC {t:Array TypeId} {R:TypeId} {c:Int} (k:K (.int .i64 (max (max a b) c))):cT P (Builtin.max_ t R [.int .i64 a,.int .i64 b,.int .i64 c].toArray) K:=by
 refine ⟨_,?_,k⟩
 show pr P (do Builtin.max2 (← Builtin.max2 (.int .i64 a) (.int .i64 b)) (.int .i64 c))=_
 have h:∀ x y:Int,pr P (Builtin.max2 (.int .i64 x) (.int .i64 y))=some (.int .i64 (max x y)):=by
  intro x y
  unfold Builtin.max2
  by_cases h:x<y
  ·simp [h,fe]; omega
  ·simp [h,fe]; omega
 rw [cM,h]
 exact h _ _
end
def fk {α σ:Type} [Flat σ] [cA α σ] (v:Value) (xs:List α):HP:=tS λ ts:List σ=>sep (bK v ts) (eS (jc ts xs))
section
variable {P:Program} {α σ:Type} [Flat σ] [D:cA α σ] {w w' w0:World} {v src:Value} {A:Nat→Prop} {L:List HP} {xs ys:List α}
theorem St.DJ (hs:St w0 A (fk v xs::L) w):∃ ts:List σ,St w0 A (bK v ts::Fw.eS (jc ts xs)::L) w:=by
 obtain ⟨ts,h⟩:=hs.eV; exact ⟨ts,h.split⟩
theorem St.DK {ts:List σ} (hs:St w0 A (bK v ts::Fw.eS (jc ts xs)::L) w):St w0 A (fk v xs::L) w:=
 St.eP (H:=λ ts:List σ=>sep (bK v ts) (Fw.eS (jc ts xs))) ts (St.join hs)
theorem St.ah2 {ts:List σ} (hs:St w0 A (bK v ts::Fw.eS (jc ts xs)::L) w):ts.length=xs.length:=(hs.p1.eS).1
theorem St.xD (hs:St w0 A L w):St w0 A (fk (.slice none 0 0) ([]:List α)::L) w:=
 St.DK (ts:=[]) ((hs.gE λ _=>jc.nil).fX)
theorem St.avS (hs:St w0 A (bK v ([]:List σ)::L) w):St w0 A (fk v ([]:List α)::L) w:=
 St.DK (ts:=[]) (hs.gE (Φ:=jc ([]:List σ) ([]:List α)) λ _=>jc.nil).p1
theorem St.avT {s:σ} {x:α} (hs:St w0 A (bK v [s]::Fw.eS (λ w=>cA.dr w s x)::L) w):St w0 A (fk v [x]::L) w:=by
 refine St.DK (ts:=[s]) ?_
 refine ((hs.p1.dO (Ψ:=jc [s] [x]) λ w h=>?_)).p1
 exact (jc.nil (w:=w)).snoc h
theorem St.avU {ts us:List σ} (hs:St w0 A (bK v (ts++us)::Fw.eS (jc ts xs)::Fw.eS (jc us ys)::L) w):St w0 A (fk v (xs++ys)::L) w:=by
 have h1:=(hs.p1:St w0 A (Fw.eS (jc ts xs)::bK v (ts++us)::Fw.eS (jc us ys)::L) w)
 have h2:=h1.p2.p1
 refine St.DK (ts:=ts++us) ?_
 exact ((h2.fL).dO (Ψ:=jc (ts++us) (xs++ys)) λ w h=>h.1.append h.2).p1
theorem St.jF (hs:St w0 A (fk v xs::L) w):St w0 A (Fw.eS (λ w=>DL w v xs)::L) w:=by
 obtain ⟨ts,h⟩:=hs.DJ
 exact (h.freeze.fL).dO λ w h=>DL.of h.1 h.2
theorem St.dl (hs:St w0 A (fk v xs::L) w):DL w v xs:=hs.jF.eS
theorem St.lH (hs:St w0 A (fk v xs::L) w):∃ s:SV,v=Flat.val s:=hs.dl.fQ
theorem St.enc {b:Nat} {cs cs':List Value} (hs:St w0 A (cD b cs::L) w) (h:cs=cs'):St w0 A (cD b cs'::L) w:=h▸hs
theorem vV {T E oy:Nat} {K:Value→World→Prop} (hs:St w0 A L w) (ht:SlT P T E (Flat.sz σ) oy) (k:∀ v w',St w0 A (fk v ([]:List α)::L) w'→K v w'):gU P (Instr.buildSlice T 0 ([]:List (Nat × Value)).toArray) w K:=
 bW ([]:List σ) hs ht rfl rfl (by simp) λ v w' h=>k v w' h.avS
theorem eK {T E oy:Nat} {s:σ} {x:α} {K:Value→World→Prop} (hs:St w0 A (Fw.eS (λ w=>cA.dr w s x)::L) w) (ht:SlT P T E (Flat.sz σ) oy) (hz:Flat.sz σ≤64) (k:∀ v w',St w0 A (fk v [x]::L) w'→K v w') :
  gU P (Instr.buildSlice T 1 [(0,Flat.val s)].toArray) w K:=
 bW [s] hs ht rfl rfl (by simp; omega) λ v w' h=>k v w' h.avT
theorem ed {T E oy R:Nat} {K:Value→World→Prop} (hs:St w0 A (fk v xs::fk src ys::L) w) (ht:SlT P T E (Flat.sz σ) oy)
  (hn:xs.length+ys.length≤1073741824) (hby:oy≤8192) (k:∀ v' w',St w0 A (fk v' (xs++ys)::L) w'→K v' w'):gU P (Builtin.append_ #[T,T] R [v,src].toArray) w K:=by
 obtain ⟨us,h1⟩:=hs.p1.DJ
 obtain ⟨ts,h2⟩:=h1.p2.DJ
 have e1:=h1.ah2
 have e2:=h2.ah2
 refine cN h2 ht h2.p2.fI (by omega) hby λ v' w' h=>k v' w' ?_
 exact (h.p2.drop).avU
theorem Ik {β:Type} [Flat β] {T:Nat} {b o:Nat} {cs:List Value} (x:β) (ht:cP P T=some (Flat.agg β,Flat.sz β)) (hb:tB w b cs) (hx:(cs.drop o).take (Flat.sz β)=Flat.enc x) :
  (Instr.loadAt T (.pointer (some ⟨b,o,none⟩))).run P w = .ok (Flat.val x) w:=by
 refine fh (S:=λ _=>True) ht ⟨b,o,rfl,trivial,λ j c hj=>hb.cell ?_⟩
 rw [← hx,List.getElem?_take] at hj
 split at hj
 ·rw [List.getElem?_drop] at hj; exact hj
 ·cases hj
end
instance:Flat UInt8 where
 agg:=false
 sz:=1
 enc b:=[.int .u8 b.toNat]
 val b:=.int .u8 b.toNat
 pos:=by decide
 len _:=rfl
 one a v h:=by rw [List.mem_singleton.1 h]; rfl
 nO h:=by cases h
 oz _ _:=rfl
instance:cA UInt8 UInt8:=jb
theorem aby (l:List UInt8):flat l=l.map λ b=>Value.int .u8 b.toNat:=by
 induction l with
 | nil=>rfl
 | cons x l ih=>rw [i0,ih]; rfl
theorem gW {P:Program} {w w0:World} {A:Nat→Prop} {L:List HP} {src dst e:TypeId} {s:ByteArray} {u:TypeDesc} {K:Value→World→Prop} (hs:St w0 A L w) (h1:P.underlying src=some u) (h2:P.underlying dst=some (.slice e)) (h3:P.underlying e=some (.int .u8))
  (k:∀ v w',St w0 A (Fw.eS (λ w=>eF (λ _=>True) w v (lf s))::L) w'→K v w'):gU P (convert src dst (.string s)) w K:=by
 refine ⟨_,_,Go.Lib.run_convert_string_bytes w src dst e s h1 h2 h3,k _ _ ?_⟩
 have he:Ext w (Go.Lib.bytesWorld w e s):=by
  refine ⟨?_,?_,?_,by rw [Go.Lib.bytesWorld_size]; omega,λ b hb _=>Go.Lib.bytesWorld_at_old w e s b hb⟩
  all_goals simp [Go.Lib.bytesWorld,World.freeze,World.alloc,World.drew,-World.alloc_eq,-World.drew_eq]
 refine hs.new he (F:=λ b=>b=w.heap.size) ⟨λ w' hw=>?_,λ b hb=>by rw [hb,Go.Lib.bytesWorld_size]; omega⟩ λ b hb=>by rw [hb]; exact Nat.le_refl _
 have lz:(lf s).length=s.size:=dZ s
 refine ⟨some ⟨w.heap.size,0,none⟩,grownCap w s.size 0 e,by rw [lz],by rw [lz]; exact grownCap_ge w s.size 0 e,.inr ⟨w.heap.size,0,rfl,λ _=>trivial,λ j c hj=>?_⟩⟩
 rw [aby,List.getElem?_map] at hj
 obtain ⟨b,hb,rfl⟩:=Option.map_eq_some_iff.1 hj
 have mz:j<s.size:=by rw [← lz]; exact (List.getElem?_eq_some_iff.1 hb).1
 have h0:=hw w.heap.size rfl
 have DG:=Go.Lib.bytesWorld_cell w e s j mz
 have e2:s.data.toList.getD j 0=b:=by
  rw [List.getD_eq_getElem?_getD]
  have:s.data.toList[j]? = some b:=hb
  rw [this]; rfl
 rw [e2] at DG
 unfold Cell
 rw [Nat.zero_add]
 unfold World.cell? at DG ⊢
 dsimp only at DG ⊢
 rw [h0]; exact DG
def n7 {α σ:Type} [Flat σ] [cA α σ] (P:Program) (w:World) (f:Value) (φ:α→Prop) (g:α→Bool):Prop:=∃ g0 first cap,f = .func (.func g0) (List.toArray first) (List.toArray cap)∧Plain P g0∧
 ∀ (s:σ) (x:α) w1,Ext w w1→cA.dr w1 s x→φ x→Calls P g0 (first++[Flat.val s]++cap).toArray w1 (qf λ v w2=>v = .bool (g x)∧Ext w1 w2)
theorem n7.ext {α σ:Type} [Flat σ] [cA α σ] {P:Program} {w w':World} {f:Value} {φ:α→Prop} {g:α→Bool} (h:n7 P w f φ g) (e:Ext w w'):n7 P w' f φ g:=by
 obtain ⟨g0,first,cap,h1,h2,h3⟩:=h; exact ⟨g0,first,cap,h1,h2,λ s x w1 e1=>h3 s x w1 (e.trans e1)⟩
theorem wZ {α:Type} [Flat α] {P:Program} {S:Nat→Prop} {w:World} {T E:TypeId} {cx cy:Bool} {v:Value} {xs:List α} {K:Value→Prop} (h:P.underlying T=some (.slice E)) (hr:eF S w v xs) (k:∀ p:Bool,(p=true→xs=[])→K (.bool p)) :
  cT P (iu .eql T cx cy v (.slice none 0 0)) K:=by
 obtain ⟨a,cap,rfl,_,h3⟩:=hr
 have key:pr P (Op.equal T (.slice a xs.length cap) (.slice none 0 0))=some a.isNone:=by
  show pr P (Op.equalIn 10000 T (.slice a xs.length cap) (.slice none 0 0))=_
  unfold Op.equalIn
  rw [cM,cL h]
  cases a <;> rfl
 refine ⟨_,?_,k a.isNone λ ha=>?_⟩
 ·show pr P (do pure (Value.bool (← Op.equal T (.slice a xs.length cap) (.slice none 0 0))))=_
  rw [uG,key]; rfl
 ·rcases h3 with h3 | ⟨b,o,rfl,_⟩
  ·exact h3.1
  ·cases ha
theorem St.aoq {α:Type} [Flat α] {w w0:World} {A:Nat→Prop} {L:List HP} {v:Value} {xs ys:List α} (hs:St w0 A (bK v xs::L) w) (h:xs=ys):St w0 A (bK v ys::L) w:=h▸hs
theorem UD {α β:Type} [Flat α] [Flat β] {P:Program} {w w0:World} {A:Nat→Prop} {L:List HP} {xs:List α} {T:Nat} {v p:Value} {i off:Nat} {x:α} (y:β) (hs:St w0 A (bK v xs::L) w) (ht:cP P T=some (Flat.agg β,Flat.sz β)) (hp:Ih α v i off p) (hx:xs[i]? = some x)
  (hy:((Flat.enc x).drop off).take (Flat.sz β)=Flat.enc y):(Instr.loadAt T p).run P w = .ok (Flat.val y) w:=by
 obtain ⟨v,h1,h2⟩:=(nX (K:=λ v=>v=Flat.val y) y hs ht hp hx hy rfl).ex
 rw [← h2]; exact h1
structure Ptr where
 b:Nat
deriving DecidableEq
instance:Flat Ptr where
 agg:=false
 sz:=1
 enc p:=[.pointer (some ⟨p.b,0,none⟩)]
 val p:=.pointer (some ⟨p.b,0,none⟩)
 pos:=by decide
 len _:=rfl
 one a v h:=by rw [List.mem_singleton.1 h]; rfl
 nO h:=by cases h
 oz _ _:=rfl
instance:cA Ptr Ptr:=jb
def iy {α κ:Type} (H:κ→α→HP):List κ→List α→HP
 | [],[]=>emp
 | p::ps,x::xs=>sep (H p x) (iy H ps xs)
 | _,_=>fact False emp
section
variable {P:Program} {α κ:Type} {H:κ→α→HP} {A:Nat→Prop} {w0 w:World} {L:List HP}
theorem A8:∀ {ps:List κ} {xs:List α} {F:Nat→Prop},(iy H ps xs).p w F→ps.length=xs.length
 | [],[],_,_=>rfl
 | s::ss,x::xs,F,h=>by
  obtain ⟨F1,F2,_,h2,_,_⟩:=h
  rw [List.length_cons,List.length_cons,A8 h2]
 | [],_::_,_,h=>h.1.elim
 | _::_,[],_,h=>h.1.elim
theorem St.lg {ps:List κ} {xs:List α} (hs:St w0 A (iy H ps xs::L) w):ps.length=xs.length:=by
 obtain ⟨F,h,_⟩:=hs.head; exact A8 h
theorem St.Kw (hs:St w0 A L w):St w0 A (iy H [] []::L) w:=hs.new (Ext.refl w) (F:=bD) (λ _ h=>h) λ _ h=>h.elim
def qk (H:κ→α→HP) (ps:List κ) (xs:List α) (i:Nat):HP:=sep (iy H (ps.take i) (xs.take i)) (iy H (ps.drop (i+1)) (xs.drop (i+1)))
theorem BQ:∀ {ps:List κ} {xs:List α} {i:Nat} {p:κ} {x:α} {F:Nat→Prop},(iy H ps xs).p w F→ps[i]? = some p→xs[i]? = some x→(sep (H p x) (qk H ps xs i)).p w F
 | p'::ps,x'::xs,0,p,x,F,h,hp,hx=>by
  rw [List.getElem?_cons_zero] at hp hx
  obtain rfl:=Option.some.inj hp
  obtain rfl:=Option.some.inj hx
  obtain ⟨F1,F2,h1,h2,h3,h4⟩:=h
  exact ⟨F1,F2,h1,⟨bD,F2,λ _ h=>h,h2,λ _ h=>h.elim,λ b=>⟨.inr,λ h=>h.elim (λ h=>h.elim) id⟩⟩,h3,h4⟩
 | p'::ps,x'::xs,i+1,p,x,F,h,hp,hx=>by
  rw [List.getElem?_cons_succ] at hp hx
  obtain ⟨F1,F2,h1,h2,h3,h4⟩:=h
  obtain ⟨G1,G2,g1,⟨K1,K2,k1,k2,k3,k4⟩,g3,g4⟩:=BQ h2 hp hx
  refine ⟨G1,λ b=>F1 b∨G2 b,g1,⟨λ b=>F1 b∨K1 b,K2,⟨F1,K1,h1,k1,λ b hb hk=>h3 b hb ((g4 b).2 (.inr ((k4 b).2 (.inl hk)))),λ b=>Iff.rfl⟩,k2,?_,?_⟩,?_,?_⟩
  ·rintro b (hb | hb) hk
   ·exact h3 b hb ((g4 b).2 (.inr ((k4 b).2 (.inr hk))))
   ·exact k3 b hb hk
  ·intro b; show F1 b∨G2 b↔(F1 b∨K1 b)∨K2 b; rw [k4 b,or_assoc]
  ·rintro b hb (hf | hf)
   ·exact h3 b hf ((g4 b).2 (.inl hb))
   ·exact g3 b hb hf
  ·intro b; rw [h4 b,g4 b]; constructor
   ·rintro (h | h | h)
    ·exact .inr (.inl h)
    ·exact .inl h
    ·exact .inr (.inr h)
   ·rintro (h | h | h)
    ·exact .inr (.inl h)
    ·exact .inl h
    ·exact .inr (.inr h)
 | [],[],_,_,_,_,_,hp,_=>by simp at hp
 | [],_::_,_,_,_,_,h,_,_=>h.1.elim
 | _::_,[],_,_,_,_,h,_,_=>h.1.elim
theorem A9:∀ {ps:List κ} {xs:List α} {i:Nat} {p:κ} {x:α} {F:Nat→Prop},i<xs.length→ps.length=xs.length→(sep (H p x) (qk H ps xs i)).p w F→(iy H (ps.set i p) (xs.set i x)).p w F
 | p'::ps,x'::xs,0,p,x,F,_,_,h=>by
  obtain ⟨F1,F2,h1,⟨K1,K2,k1,k2,k3,k4⟩,h3,h4⟩:=h
  refine ⟨F1,F2,h1,?_,h3,h4⟩
  have e:F2=K2:=funext λ b=>propext ((k4 b).trans ⟨λ h=>h.elim (λ h=>(k1 b h).elim) id,.inr⟩)
  rw [e]; exact k2
 | p'::ps,x'::xs,i+1,p,x,F,hi,hl,h=>by
  obtain ⟨G1,G2,g1,⟨K1,K2,⟨F1,M1,f1,m1,f3,f4⟩,k2,k3,k4⟩,g3,g4⟩:=h
  refine ⟨F1,λ b=>G1 b∨(M1 b∨K2 b),f1,A9 (by simpa using hi) (by simpa using hl) ⟨G1,λ b=>M1 b∨K2 b,g1,⟨M1,K2,m1,k2,λ b hb hk=>k3 b ((f4 b).2 (.inr hb)) hk,λ b=>Iff.rfl⟩,?_,λ b=>Iff.rfl⟩,?_,?_⟩
  ·rintro b hb (h | h)
   ·exact g3 b hb ((k4 b).2 (.inl ((f4 b).2 (.inr h))))
   ·exact g3 b hb ((k4 b).2 (.inr h))
  ·rintro b hb (h | h | h)
   ·exact g3 b h ((k4 b).2 (.inl ((f4 b).2 (.inl hb))))
   ·exact f3 b hb h
   ·exact k3 b ((f4 b).2 (.inl hb)) h
  ·intro b; rw [g4 b,k4 b,f4 b]; constructor
   ·rintro (h | (h | h) | h)
    ·exact .inr (.inl h)
    ·exact .inl h
    ·exact .inr (.inr (.inl h))
    ·exact .inr (.inr (.inr h))
   ·rintro (h | h | h | h)
    ·exact .inr (.inl (.inl h))
    ·exact .inl h
    ·exact .inr (.inl (.inr h))
    ·exact .inr (.inr h)
 | [],_::_,_,_,_,_,_,hl,_=>by simp at hl
 | _,[],_,_,_,_,hi,_,_=>by simp at hi
theorem uP {β:Type}:∀ {ps:List β} {i:Nat} {p:β},ps[i]? = some p→ps.set i p=ps
 | [],_,_,h=>by simp at h
 | y::ps,0,p,h=>by rw [List.getElem?_cons_zero] at h; obtain rfl:=Option.some.inj h; rfl
 | y::ps,i+1,p,h=>by rw [List.getElem?_cons_succ] at h; rw [List.set_cons_succ,uP h]
theorem Nf {ps:List κ} {xs:List α} {i:Nat} {p:κ} {x:α} {F:Nat→Prop} (hi:i<xs.length) (hl:ps.length=xs.length) (hp:ps[i]? = some p) (h:(sep (H p x) (qk H ps xs i)).p w F):(iy H ps (xs.set i x)).p w F:=by
 have:=A9 hi hl h; rwa [uP hp] at this
theorem Gy:∀ {ps qs:List κ} {xs ys:List α} {F:Nat→Prop},(sep (iy H ps xs) (iy H qs ys)).p w F→(iy H (ps++qs) (xs++ys)).p w F
 | [],qs,[],ys,F,⟨F1,F2,h1,h2,_,h4⟩=>by
  have:F=F2:=funext λ b=>propext ((h4 b).trans ⟨λ h=>h.elim (λ h=>(h1 b h).elim) id,.inr⟩)
  rw [this]; exact h2
 | p::ps,qs,x::xs,ys,F,⟨F1,F2,⟨G1,G2,g1,g2,g3,g4⟩,h2,h3,h4⟩=>by
  refine ⟨G1,λ b=>G2 b∨F2 b,g1,Gy ⟨G2,F2,g2,h2,λ b hb=>h3 b ((g4 b).2 (.inr hb)),λ b=>Iff.rfl⟩,λ b hb=>?_,λ b=>by rw [h4 b,g4 b,or_assoc]⟩
  rintro (hh | hh)
  ·exact g3 b hb hh
  ·exact h3 b ((g4 b).2 (.inl hb)) hh
 | [],_,_::_,_,_,⟨_,_,h,_⟩=>h.1.elim
 | _::_,_,[],_,_,⟨_,_,h,_⟩=>h.1.elim
theorem St.focus {ps:List κ} {xs:List α} {i:Nat} {p:κ} {x:α} (hs:St w0 A (iy H ps xs::L) w) (hp:ps[i]? = some p) (hx:xs[i]? = some x):St w0 A (H p x::qk H ps xs i::L) w:=
 (hs.rN (H':=sep (H p x) (qk H ps xs i)) λ F hF=>⟨F,BQ hF hp hx,λ b hb=>.inl hb,ix.refl _ _⟩).split
theorem St.sb {ps:List κ} {xs:List α} {i:Nat} {p:κ} {x:α} (hs:St w0 A (H p x::qk H ps xs i::L) w) (hi:i<xs.length) (hl:ps.length=xs.length) (hp:ps[i]? = some p):St w0 A (iy H ps (xs.set i x)::L) w:=
 (St.join hs).rN λ F hF=>⟨F,Nf hi hl hp hF,λ b hb=>.inl hb,ix.refl _ _⟩
theorem DM:∀ {ps:List κ} {xs:List α} {p:κ} {x:α} {F1 F2 F:Nat→Prop},(iy H ps xs).p w F1→(H p x).p w F2→(∀ b,F1 b→¬ F2 b)→(∀ b,F b↔F1 b∨F2 b)→(iy H (ps++[p]) (xs++[x])).p w F
 | [],[],p,x,F1,F2,F,h1,h2,_,h4=>⟨F2,F1,h2,h1,λ b _ Ii=>h1 b Ii,λ b=>by rw [h4 b]; exact ⟨λ h=>h.symm,λ h=>h.symm⟩⟩
 | s'::ss,x'::xs,p,x,F1,F2,F,h1,h2,h3,h4=>by
  obtain ⟨G1,G2,g1,g2,g3,g4⟩:=h1
  refine ⟨G1,λ b=>G2 b∨F2 b,g1,DM g2 h2 (λ b hb=>h3 b ((g4 b).2 (.inr hb))) (λ b=>Iff.rfl),λ b hb=>?_,λ b=>?_⟩
  ·rintro (hh | hh)
   ·exact g3 b hb hh
   ·exact h3 b ((g4 b).2 (.inl hb)) hh
  ·rw [h4 b,g4 b,or_assoc]
 | [],_::_,_,_,_,_,_,h,_,_,_=>h.1.elim
 | _::_,[],_,_,_,_,_,h,_,_,_=>h.1.elim
theorem St.DN {ps:List κ} {xs:List α} {p:κ} {x:α} (hs:St w0 A (iy H ps xs::H p x::L) w):St w0 A (iy H (ps++[p]) (xs++[x])::L) w:=by
 refine (St.join hs).rN λ F hF=>?_
 obtain ⟨F1,F2,h1,h2,h3,h4⟩:=hF
 exact ⟨F,DM h1 h2 h3 h4,λ b hb=>.inl hb,ix.refl _ _⟩
theorem St.DO {ps:List κ} {xs:List α} {i:Nat} {p:κ} {x:α} (hs:St w0 A (H p x::qk H ps xs i::L) w) (hi:i<xs.length) (hl:ps.length=xs.length):St w0 A (iy H (ps.set i p) (xs.set i x)::L) w:=
 (St.join hs).rN λ F hF=>⟨F,A9 hi hl hF,λ b hb=>.inl hb,ix.refl _ _⟩
theorem St.RP {ps:List κ} {xs:List α} {i:Nat} (hs:St w0 A (qk H ps xs i::L) w):St w0 A (iy H (ps.eraseIdx i) (xs.eraseIdx i)::L) w:=by
 rw [List.eraseIdx_eq_take_drop_succ,List.eraseIdx_eq_take_drop_succ]
 exact hs.rN λ F hF=>⟨F,Gy hF,λ b hb=>.inl hb,ix.refl _ _⟩
theorem St.aor {ps:List κ} {xs:List α} {i:Nat} {p:κ} {x:α} {Φ:World→Prop} (hs:St w0 A (iy H ps xs::L) w) (hp:ps[i]? = some p) (hx:xs[i]? = some x) (h:∀ {w F},(H p x).p w F→Φ w):Φ w:=by
 obtain ⟨F,hF,_⟩:=(hs.focus hp hx).head; exact h hF
end
end Go.Fw
namespace Go.Proofs.YtnjcingfdhjfkaaGreat
open Go.Fw
@[ext] structure dF where
 name:ByteArray
 n:Int
 at_:Int
deriving DecidableEq
instance:Flat dF where
 agg:=true
 sz:=3
 enc e:=[.string e.name,.int .i64 e.n,.int .i64 e.at_]
 val e:=.agg [.string e.name,.int .i64 e.n,.int .i64 e.at_].toArray
 pos:=by decide
 len _:=rfl
 one a v h:=by simp at h; rcases h with rfl | rfl | rfl <;> rfl
 nO _ _:=rfl
 oz h:=by cases h
instance:cA dF dF:=jb
def xa (x:dF):Prop:=(x.name).size≤maxLen∧mB x.n∧mB x.at_
@[ext] structure cX where
 op:Int
 n:Int
 name:ByteArray
 at_:Int
deriving DecidableEq
instance:Flat cX where
 agg:=true
 sz:=4
 enc e:=[.int .i64 e.op,.int .i64 e.n,.string e.name,.int .i64 e.at_]
 val e:=.agg [.int .i64 e.op,.int .i64 e.n,.string e.name,.int .i64 e.at_].toArray
 pos:=by decide
 len _:=rfl
 one a v h:=by simp at h; rcases h with rfl | rfl | rfl | rfl <;> rfl
 nO _ _:=rfl
 oz h:=by cases h
instance:cA cX cX:=jb
def zE (x:cX):Prop:=mB x.op∧mB x.n∧(x.name).size≤maxLen∧mB x.at_
structure cE where
 kind:Int
 gJ:ByteArray
 name:ByteArray
 e:(List cX)
 f:(List cX)
 n:Int
 body:Int
 fE:Int
 at_:Int
deriving DecidableEq
structure bX where
 kind:Int
 gJ:ByteArray
 name:ByteArray
 e:SV
 f:SV
 n:Int
 body:Int
 fE:Int
 at_:Int
instance:Flat bX where
 agg:=true
 sz:=9
 enc e:=[.int .i64 e.kind,.string e.gJ,.string e.name,.slice e.e.a e.e.n e.e.cap,.slice e.f.a e.f.n e.f.cap,.int .i64 e.n,.int .i64 e.body,.int .i64 e.fE,.int .i64 e.at_]
 val e:=.agg [.int .i64 e.kind,.string e.gJ,.string e.name,.slice e.e.a e.e.n e.e.cap,.slice e.f.a e.f.n e.f.cap,.int .i64 e.n,.int .i64 e.body,.int .i64 e.fE,.int .i64 e.at_].toArray
 pos:=by decide
 len _:=rfl
 one a v h:=by simp at h; rcases h with rfl | rfl | rfl | rfl | rfl | rfl | rfl | rfl | rfl <;> rfl
 nO _ _:=rfl
 oz h:=by cases h
instance:cA cE bX where
 dr w s x:=∃ (e_:SV) (f_:SV),s=(⟨x.kind,x.gJ,x.name,e_,f_,x.n,x.body,x.fE,x.at_⟩:bX)∧DL w (Flat.val e_) x.e∧DL w (Flat.val f_) x.f
 ext h e:=by
  obtain ⟨g0,g1,rfl,h0,h1⟩:=h
  exact ⟨g0,g1,rfl,h0.ext e,h1.ext e⟩
def Il (x:cE):Prop:=mB x.kind∧(x.gJ).size≤maxLen∧(x.name).size≤maxLen∧(∀ y∈x.e,zE y)∧(∀ y∈x.f,zE y)∧mB x.n∧mB x.body∧mB x.fE∧mB x.at_
structure dR where
 name:ByteArray
 aK:(List ByteArray)
 body:(List cE)
 at_:Int
deriving DecidableEq
structure eg where
 name:ByteArray
 aK:SV
 body:SV
 at_:Int
instance:Flat eg where
 agg:=true
 sz:=4
 enc e:=[.string e.name,.slice e.aK.a e.aK.n e.aK.cap,.slice e.body.a e.body.n e.body.cap,.int .i64 e.at_]
 val e:=.agg [.string e.name,.slice e.aK.a e.aK.n e.aK.cap,.slice e.body.a e.body.n e.body.cap,.int .i64 e.at_].toArray
 pos:=by decide
 len _:=rfl
 one a v h:=by simp at h; rcases h with rfl | rfl | rfl | rfl <;> rfl
 nO _ _:=rfl
 oz h:=by cases h
instance:cA dR eg where
 dr w s x:=∃ (Kx:SV) (ae3:SV),s=(⟨x.name,Kx,ae3,x.at_⟩:eg)∧DL w (Flat.val Kx) x.aK∧DL w (Flat.val ae3) x.body
 ext h e:=by
  obtain ⟨g0,g1,rfl,h0,h1⟩:=h
  exact ⟨g0,g1,rfl,h0.ext e,h1.ext e⟩
def xb (x:dR):Prop:=(x.name).size≤maxLen∧(∀ y∈x.aK,(λ y:ByteArray=>y.size≤maxLen) y)∧(∀ y∈x.body,Il y)∧mB x.at_
structure ju where
 e:(List cX)
 at_:Int
deriving DecidableEq
structure lI where
 e:SV
 at_:Int
instance:Flat lI where
 agg:=true
 sz:=2
 enc e:=[.slice e.e.a e.e.n e.e.cap,.int .i64 e.at_]
 val e:=.agg [.slice e.e.a e.e.n e.e.cap,.int .i64 e.at_].toArray
 pos:=by decide
 len _:=rfl
 one a v h:=by simp at h; rcases h with rfl | rfl <;> rfl
 nO _ _:=rfl
 oz h:=by cases h
instance:cA ju lI where
 dr w s x:=∃ (e_:SV),s=(⟨e_,x.at_⟩:lI)∧DL w (Flat.val e_) x.e
 ext h e:=by
  obtain ⟨g0,rfl,h0⟩:=h
  exact ⟨g0,rfl,h0.ext e⟩
def DP (x:ju):Prop:=(∀ y∈x.e,zE y)∧mB x.at_
structure cU where
 lines:(List (List dF))
 jP:(List dF)
 locks:(List dF)
 threads:(List dR)
 recover:(List dR)
 cC:(List ju)
deriving DecidableEq
structure bN where
 lines:SV
 jP:SV
 locks:SV
 threads:SV
 recover:SV
 cC:SV
instance:Flat bN where
 agg:=true
 sz:=6
 enc e:=[.slice e.lines.a e.lines.n e.lines.cap,.slice e.jP.a e.jP.n e.jP.cap,.slice e.locks.a e.locks.n e.locks.cap,.slice e.threads.a e.threads.n e.threads.cap,.slice e.recover.a e.recover.n e.recover.cap,.slice e.cC.a e.cC.n e.cC.cap]
 val e:=.agg [.slice e.lines.a e.lines.n e.lines.cap,.slice e.jP.a e.jP.n e.jP.cap,.slice e.locks.a e.locks.n e.locks.cap,.slice e.threads.a e.threads.n e.threads.cap,.slice e.recover.a e.recover.n e.recover.cap,.slice e.cC.a e.cC.n e.cC.cap].toArray
 pos:=by decide
 len _:=rfl
 one a v h:=by simp at h; rcases h with rfl | rfl | rfl | rfl | rfl | rfl <;> rfl
 nO _ _:=rfl
 oz h:=by cases h
instance:cA cU bN where
 dr w s x:=∃ (DQ:SV) (ae4:SV) (UE:SV) (vW:SV) (vX:SV) (zF:SV),s=(⟨DQ,ae4,UE,vW,vX,zF⟩:bN)∧DL w (Flat.val DQ) x.lines∧DL w (Flat.val ae4) x.jP∧DL w (Flat.val UE) x.locks∧DL w (Flat.val vW) x.threads∧DL w (Flat.val vX) x.recover∧DL w (Flat.val zF) x.cC
 ext h e:=by
  obtain ⟨g0,g1,g2,g3,g4,g5,rfl,h0,h1,h2,h3,h4,h5⟩:=h
  exact ⟨g0,g1,g2,g3,g4,g5,rfl,h0.ext e,h1.ext e,h2.ext e,h3.ext e,h4.ext e,h5.ext e⟩
def abz (x:cU):Prop:=(∀ y∈x.lines,(λ ys:(List dF)=>∀ y∈ys,xa y) y)∧(∀ y∈x.jP,xa y)∧(∀ y∈x.locks,xa y)∧(∀ y∈x.threads,xb y)∧(∀ y∈x.recover,xb y)∧(∀ y∈x.cC,DP y)
structure UF where
 p:cU
 aK:(List ByteArray)
deriving DecidableEq
structure vY where
 p:bN
 aK:SV
instance:Flat vY where
 agg:=true
 sz:=7
 enc e:=[.slice e.p.lines.a e.p.lines.n e.p.lines.cap,.slice e.p.jP.a e.p.jP.n e.p.jP.cap,.slice e.p.locks.a e.p.locks.n e.p.locks.cap,.slice e.p.threads.a e.p.threads.n e.p.threads.cap,.slice e.p.recover.a e.p.recover.n e.p.recover.cap,.slice e.p.cC.a e.p.cC.n e.p.cC.cap,.slice e.aK.a e.aK.n e.aK.cap]
 val e:=.agg [.slice e.p.lines.a e.p.lines.n e.p.lines.cap,.slice e.p.jP.a e.p.jP.n e.p.jP.cap,.slice e.p.locks.a e.p.locks.n e.p.locks.cap,.slice e.p.threads.a e.p.threads.n e.p.threads.cap,.slice e.p.recover.a e.p.recover.n e.p.recover.cap,.slice e.p.cC.a e.p.cC.n e.p.cC.cap,.slice e.aK.a e.aK.n e.aK.cap].toArray
 pos:=by decide
 len _:=rfl
 one a v h:=by simp at h; rcases h with rfl | rfl | rfl | rfl | rfl | rfl | rfl <;> rfl
 nO _ _:=rfl
 oz h:=by cases h
instance:cA UF vY where
 dr w s x:=∃ (p_:bN) (Kx:SV),s=(⟨p_,Kx⟩:vY)∧cA.dr w p_ x.p∧DL w (Flat.val Kx) x.aK
 ext h e:=by
  obtain ⟨g0,g1,rfl,h0,h1⟩:=h
  exact ⟨g0,g1,rfl,cA.ext h0 e,h1.ext e⟩
@[ext] structure nk where
 kind:Int
 n:Int
deriving DecidableEq
instance:Flat nk where
 agg:=true
 sz:=2
 enc e:=[.int .i64 e.kind,.int .i64 e.n]
 val e:=.agg [.int .i64 e.kind,.int .i64 e.n].toArray
 pos:=by decide
 len _:=rfl
 one a v h:=by simp at h; rcases h with rfl | rfl <;> rfl
 nO _ _:=rfl
 oz h:=by cases h
instance:cA nk nk:=jb
structure aW where
 kind:Int
 a:Int
 b:Int
 e:(List nk)
 f:(List nk)
 to:Int
deriving DecidableEq
structure bU where
 kind:Int
 a:Int
 b:Int
 e:SV
 f:SV
 to:Int
instance:Flat bU where
 agg:=true
 sz:=6
 enc e:=[.int .i64 e.kind,.int .i64 e.a,.int .i64 e.b,.slice e.e.a e.e.n e.e.cap,.slice e.f.a e.f.n e.f.cap,.int .i64 e.to]
 val e:=.agg [.int .i64 e.kind,.int .i64 e.a,.int .i64 e.b,.slice e.e.a e.e.n e.e.cap,.slice e.f.a e.f.n e.f.cap,.int .i64 e.to].toArray
 pos:=by decide
 len _:=rfl
 one a v h:=by simp at h; rcases h with rfl | rfl | rfl | rfl | rfl | rfl <;> rfl
 nO _ _:=rfl
 oz h:=by cases h
instance:cA aW bU where
 dr w s x:=∃ (e_:SV) (f_:SV),s=(⟨x.kind,x.a,x.b,e_,f_,x.to⟩:bU)∧DL w (Flat.val e_) x.e∧DL w (Flat.val f_) x.f
 ext h e:=by
  obtain ⟨g0,g1,rfl,h0,h1⟩:=h
  exact ⟨g0,g1,rfl,h0.ext e,h1.ext e⟩
structure fo where
 aK:Int
 counts:Int
 l:(List aW)
deriving DecidableEq
structure cK where
 aK:Int
 counts:Int
 l:SV
instance:Flat cK where
 agg:=true
 sz:=3
 enc e:=[.int .i64 e.aK,.int .i64 e.counts,.slice e.l.a e.l.n e.l.cap]
 val e:=.agg [.int .i64 e.aK,.int .i64 e.counts,.slice e.l.a e.l.n e.l.cap].toArray
 pos:=by decide
 len _:=rfl
 one a v h:=by simp at h; rcases h with rfl | rfl | rfl <;> rfl
 nO _ _:=rfl
 oz h:=by cases h
instance:cA fo cK where
 dr w s x:=∃ (l_:SV),s=(⟨x.aK,x.counts,l_⟩:cK)∧DL w (Flat.val l_) x.l
 ext h e:=by
  obtain ⟨g0,rfl,h0⟩:=h
  exact ⟨g0,rfl,h0.ext e⟩
structure il where
 lines:(List Int)
 stays:Int
 dC:(List Int)
 locks:Int
 threads:(List fo)
 recover:fo
 cC:(List (List nk))
deriving DecidableEq
structure dM where
 lines:SV
 stays:Int
 dC:SV
 locks:Int
 threads:SV
 recover:cK
 cC:SV
instance:Flat dM where
 agg:=true
 sz:=9
 enc e:=[.slice e.lines.a e.lines.n e.lines.cap,.int .i64 e.stays,.slice e.dC.a e.dC.n e.dC.cap,.int .i64 e.locks,.slice e.threads.a e.threads.n e.threads.cap,.int .i64 e.recover.aK,.int .i64 e.recover.counts,.slice e.recover.l.a e.recover.l.n e.recover.l.cap,.slice e.cC.a e.cC.n e.cC.cap]
 val e:=.agg [.slice e.lines.a e.lines.n e.lines.cap,.int .i64 e.stays,.slice e.dC.a e.dC.n e.dC.cap,.int .i64 e.locks,.slice e.threads.a e.threads.n e.threads.cap,.int .i64 e.recover.aK,.int .i64 e.recover.counts,.slice e.recover.l.a e.recover.l.n e.recover.l.cap,.slice e.cC.a e.cC.n e.cC.cap].toArray
 pos:=by decide
 len _:=rfl
 one a v h:=by simp at h; rcases h with rfl | rfl | rfl | rfl | rfl | rfl | rfl | rfl | rfl <;> rfl
 nO _ _:=rfl
 oz h:=by cases h
instance:cA il dM where
 dr w s x:=∃ (DQ:SV) (PN:SV) (vW:SV) (vX:cK) (zF:SV),s=(⟨DQ,x.stays,PN,x.locks,vW,vX,zF⟩:dM)∧DL w (Flat.val DQ) x.lines∧DL w (Flat.val PN) x.dC∧DL w (Flat.val vW) x.threads∧cA.dr w vX x.recover∧DL w (Flat.val zF) x.cC
 ext h e:=by
  obtain ⟨g0,g1,g2,g3,g4,rfl,h0,h1,h2,h3,h4⟩:=h
  exact ⟨g0,g1,g2,g3,g4,rfl,h0.ext e,h1.ext e,h2.ext e,cA.ext h3 e,h4.ext e⟩
structure ep where
 kind:Int
 t:Int
 i:Int
 cut:(List Int)
deriving DecidableEq
structure dJ where
 kind:Int
 t:Int
 i:Int
 cut:SV
instance:Flat dJ where
 agg:=true
 sz:=4
 enc e:=[.int .i64 e.kind,.int .i64 e.t,.int .i64 e.i,.slice e.cut.a e.cut.n e.cut.cap]
 val e:=.agg [.int .i64 e.kind,.int .i64 e.t,.int .i64 e.i,.slice e.cut.a e.cut.n e.cut.cap].toArray
 pos:=by decide
 len _:=rfl
 one a v h:=by simp at h; rcases h with rfl | rfl | rfl | rfl <;> rfl
 nO _ _:=rfl
 oz h:=by cases h
instance:cA ep dJ where
 dr w s x:=∃ (aos:SV),s=(⟨x.kind,x.t,x.i,aos⟩:dJ)∧DL w (Flat.val aos) x.cut
 ext h e:=by
  obtain ⟨g0,rfl,h0⟩:=h
  exact ⟨g0,rfl,h0.ext e⟩
def PO (x:ep):Prop:=mB x.kind∧mB x.t∧mB x.i∧(∀ y∈x.cut,mB y)
structure FJ where
 kind:Int
 n:Int
 p:ep
deriving DecidableEq
structure vZ where
 kind:Int
 n:Int
 p:dJ
instance:Flat vZ where
 agg:=true
 sz:=6
 enc e:=[.int .i64 e.kind,.int .i64 e.n,.int .i64 e.p.kind,.int .i64 e.p.t,.int .i64 e.p.i,.slice e.p.cut.a e.p.cut.n e.p.cut.cap]
 val e:=.agg [.int .i64 e.kind,.int .i64 e.n,.int .i64 e.p.kind,.int .i64 e.p.t,.int .i64 e.p.i,.slice e.p.cut.a e.p.cut.n e.p.cut.cap].toArray
 pos:=by decide
 len _:=rfl
 one a v h:=by simp at h; rcases h with rfl | rfl | rfl | rfl | rfl | rfl <;> rfl
 nO _ _:=rfl
 oz h:=by cases h
instance:cA FJ vZ where
 dr w s x:=∃ (p_:dJ),s=(⟨x.kind,x.n,p_⟩:vZ)∧cA.dr w p_ x.p
 ext h e:=by
  obtain ⟨g0,rfl,h0⟩:=h
  exact ⟨g0,rfl,cA.ext h0 e⟩
def ah3 (x:FJ):Prop:=mB x.kind∧mB x.n∧PO x.p
@[ext] structure cY where
 kind:Int
 t:Int
 a:Int
 n:Int
 m:Int
deriving DecidableEq
instance:Flat cY where
 agg:=true
 sz:=5
 enc e:=[.int .i64 e.kind,.int .i64 e.t,.int .i64 e.a,.int .i64 e.n,.int .i64 e.m]
 val e:=.agg [.int .i64 e.kind,.int .i64 e.t,.int .i64 e.a,.int .i64 e.n,.int .i64 e.m].toArray
 pos:=by decide
 len _:=rfl
 one a v h:=by simp at h; rcases h with rfl | rfl | rfl | rfl | rfl <;> rfl
 nO _ _:=rfl
 oz h:=by cases h
instance:cA cY cY:=jb
@[ext] structure iz where
 er:Int
 fault:Int
 t:Int
 done:Bool
 stuck:Bool
deriving DecidableEq
instance:Flat iz where
 agg:=true
 sz:=5
 enc e:=[.int .i64 e.er,.int .i64 e.fault,.int .i64 e.t,.bool e.done,.bool e.stuck]
 val e:=.agg [.int .i64 e.er,.int .i64 e.fault,.int .i64 e.t,.bool e.done,.bool e.stuck].toArray
 pos:=by decide
 len _:=rfl
 one a v h:=by simp at h; rcases h with rfl | rfl | rfl | rfl | rfl <;> rfl
 nO _ _:=rfl
 oz h:=by cases h
instance:cA iz iz:=jb
@[ext] structure bJ where
 kind:Int
 line:Int
 cell:Int
 n:Int
deriving DecidableEq
instance:Flat bJ where
 agg:=true
 sz:=4
 enc e:=[.int .i64 e.kind,.int .i64 e.line,.int .i64 e.cell,.int .i64 e.n]
 val e:=.agg [.int .i64 e.kind,.int .i64 e.line,.int .i64 e.cell,.int .i64 e.n].toArray
 pos:=by decide
 len _:=rfl
 one a v h:=by simp at h; rcases h with rfl | rfl | rfl | rfl <;> rfl
 nO _ _:=rfl
 oz h:=by cases h
instance:cA bJ bJ:=jb
@[ext] structure bF where
 kind:Int
 text:ByteArray
 n:Int
 at_:Int
deriving DecidableEq
instance:Flat bF where
 agg:=true
 sz:=4
 enc e:=[.int .i64 e.kind,.string e.text,.int .i64 e.n,.int .i64 e.at_]
 val e:=.agg [.int .i64 e.kind,.string e.text,.int .i64 e.n,.int .i64 e.at_].toArray
 pos:=by decide
 len _:=rfl
 one a v h:=by simp at h; rcases h with rfl | rfl | rfl | rfl <;> rfl
 nO _ _:=rfl
 oz h:=by cases h
instance:cA bF bF:=jb
@[ext] structure jj where
 cell:Int
 n:Int
deriving DecidableEq
instance:Flat jj where
 agg:=true
 sz:=2
 enc e:=[.int .i64 e.cell,.int .i64 e.n]
 val e:=.agg [.int .i64 e.cell,.int .i64 e.n].toArray
 pos:=by decide
 len _:=rfl
 one a v h:=by simp at h; rcases h with rfl | rfl <;> rfl
 nO _ _:=rfl
 oz h:=by cases h
instance:cA jj jj:=jb
def RQ (p:Bool):Int:=if p then 1 else 0
def ae5 (a b:Int):Int:=qX (a.tdiv b)
def Cg (op a:Int):Int:=if op=3 then qX (0 - a) else if op=4 then RQ (decide (a=0)) else 0
def Ky (op:Int):Int:=if op=3∨op=4 then 0 else 1
def sP (op a b:Int):Int:=
 if op=5 then qX (a+b) else if op=6 then qX (a - b) else if op=7 then qX (a * b) else if op=8 then ae5 a b else if op=9 then a.tmod b
 else if op=10 then RQ (decide (a=b)) else if op=11 then RQ (decide (¬ a=b)) else if op=12 then RQ (decide (a<b)) else if op=13 then RQ (decide (a≤b))
 else if op=14 then RQ (decide (¬ a=0) && decide (¬ b=0)) else if op=15 then RQ (decide (¬ a=0) || decide (¬ b=0)) else 0
def pR (op b:Int):Int:=if op<5∨15<op then 1 else if (op=8∨op=9)∧b=0 then 12 else 0
def pS (op a b:Int):Int:=if pR op b=0 then sP op a b else 0
theorem C228 (p:Bool) (w:World):CR 228 [.bool p] w (λ v w'=>v = .int .i64 (RQ p)∧Ext w w'):=by
 have hs:=St.start w;refine aaB _ _ _ ?_;unfold S228;refine aX (λ DU=>?_) (λ DU=>?_)
 ·rw [DU];exact ⟨rfl,hs.aF⟩
 ·rw [DU];exact ⟨rfl,hs.aF⟩
theorem C217 (p:Bool) (w:World):CR 217 [.bool p] w (λ v w'=>v = .int .i64 (RQ p)∧Ext w w'):=by
 have hs:=St.start w;refine aar _ _ _ ?_;unfold S217;refine aX (λ DU=>?_) (λ DU=>?_)
 ·rw [DU];exact ⟨rfl,hs.aF⟩
 ·rw [DU];exact ⟨rfl,hs.aF⟩
theorem C218 (a:Int) (w:World):CR 218 [.int .i64 a] w (λ v w'=>v = .bool (decide (¬ a=0))∧Ext w w'):=by
 have hs:=St.start w;refine aas _ _ _ ?_;unfold S218;refine cS ?_;exact ⟨rfl,hs.aF⟩
theorem C201 (op a:Int) (w:World):CR 201 [.int .i64 op,.int .i64 a] w (λ v w'=>v = .tuple #[.int .i64 (Cg op a),.int .i64 (Ky op)]∧Ext w w'):=by
 have hs:=St.start w;refine aae _ _ _ _ ?_;unfold S201;refine aH (aC (λ iP=>?_) (λ iP=>?_))
 ·refine DH ?_;unfold Cg Ky
  first | (rw [if_pos iP,if_pos (.inl iP)]; exact ⟨rfl,hs.aF⟩) | (rw [if_neg iP,if_pos gP,if_pos (.inr gP)]; exact ⟨rfl,hs.aF⟩) | (rw [if_neg iP,if_neg gP,if_neg (by omega)]; exact ⟨rfl,hs.aF⟩)
 ·refine aH (aC (λ gP=>?_) (λ gP=>?_))
  ·refine aH (aZ anD hs (C228 _ _) (λ w1 he hs=>?_));unfold Cg Ky
   first | (rw [if_pos iP,if_pos (.inl iP)]; exact ⟨rfl,hs.aF⟩) | (rw [if_neg iP,if_pos gP,if_pos (.inr gP)]; exact ⟨rfl,hs.aF⟩) | (rw [if_neg iP,if_neg gP,if_neg (by omega)]; exact ⟨rfl,hs.aF⟩)
  ·unfold Cg Ky
   first | (rw [if_pos iP,if_pos (.inl iP)]; exact ⟨rfl,hs.aF⟩) | (rw [if_neg iP,if_pos gP,if_pos (.inr gP)]; exact ⟨rfl,hs.aF⟩) | (rw [if_neg iP,if_neg gP,if_neg (by omega)]; exact ⟨rfl,hs.aF⟩)
theorem C173 (op a:Int) (w:World):CR 173 [.int .i64 op,.int .i64 a] w (λ v w'=>v = .tuple #[.int .i64 (Cg op a),.int .i64 (Ky op)]∧Ext w w'):=by
 have hs:=St.start w;refine ZQ _ _ _ _ ?_;unfold S173;refine aH (aC (λ gn=>?_) (λ gn=>?_))
 ·refine Uy ?_;unfold Cg Ky
  first | (rw [if_pos gn,if_pos (.inl gn)]; exact ⟨rfl,hs.aF⟩) | (rw [if_neg gn,if_pos jV,if_pos (.inr jV)]; exact ⟨congrArg (λ p=>Value.tuple #[.int .i64 (RQ p),.int .i64 0]) (by simp),hs.aF⟩) | (rw [if_neg gn,if_neg jV,if_neg (by omega)]; exact ⟨rfl,hs.aF⟩)
 ·refine aH (aC (λ jV=>?_) (λ jV=>?_))
  ·refine aZ JX hs (C218 _ _) (λ w1 he hs=>?_)
   first | refine Dl ?_ | refine bZ ?_
   refine aZ aeK hs (C217 _ _) (λ w2 he hs=>?_);unfold Cg Ky
   first | (rw [if_pos gn,if_pos (.inl gn)]; exact ⟨rfl,hs.aF⟩) | (rw [if_neg gn,if_pos jV,if_pos (.inr jV)]; exact ⟨congrArg (λ p=>Value.tuple #[.int .i64 (RQ p),.int .i64 0]) (by simp),hs.aF⟩) | (rw [if_neg gn,if_neg jV,if_neg (by omega)]; exact ⟨rfl,hs.aF⟩)
  ·unfold Cg Ky
   first | (rw [if_pos gn,if_pos (.inl gn)]; exact ⟨rfl,hs.aF⟩) | (rw [if_neg gn,if_pos jV,if_pos (.inr jV)]; exact ⟨congrArg (λ p=>Value.tuple #[.int .i64 (RQ p),.int .i64 0]) (by simp),hs.aF⟩) | (rw [if_neg gn,if_neg jV,if_neg (by omega)]; exact ⟨rfl,hs.aF⟩)
theorem qY:aop PG 289 16 288:=⟨by kernel_rfl,by kernel_rfl⟩
def aot (b1 b2 b3 b4 b5 b6:Nat) (w:World):Prop:=
 Cell w b1 0 (.func (.func 243) #[] #[])∧Cell w b2 0 (.func (.func 244) #[] #[])∧Cell w b3 0 (.func (.func 245) #[] #[])∧Cell w b4 0 (.func (.func 246) #[] #[])∧Cell w b5 0 (.func (.func 247) #[] #[])∧Cell w b6 0 (.func (.func 248) #[] #[])
def opsV (b1 b2 b3 b4 b5 b6:Nat):Value:=
 .agg [.nilFunc,.nilFunc,.nilFunc,.nilFunc,.nilFunc,.func (.func 238) #[] #[],.func (.func 239) #[] #[],.func (.func 240) #[] #[],.func (.func 241) #[] #[],.func (.func 242) #[] #[],
  .func (.func 237) #[] #[.pointer (some ⟨b1,0,none⟩)],.func (.func 237) #[] #[.pointer (some ⟨b2,0,none⟩)],.func (.func 237) #[] #[.pointer (some ⟨b3,0,none⟩)],.func (.func 237) #[] #[.pointer (some ⟨b4,0,none⟩)],
  .func (.func 237) #[] #[.pointer (some ⟨b5,0,none⟩)],.func (.func 237) #[] #[.pointer (some ⟨b6,0,none⟩)]].toArray
def Fb2 (f:Value) (g:Int→Int→Bool):Prop:=∃ g0,f = .func (.func g0) #[] #[]∧Plain PG g0∧
 ∀ a b w1,Calls PG g0 [.int .i64 a,.int .i64 b].toArray w1 (qf λ v w2=>v = .bool (g a b)∧Ext w1 w2)
theorem C238 (a b:Int) (w:World):CR 238 [.int .i64 a,.int .i64 b] w (λ v w'=>v = .int .i64 (qX (a+b))∧Ext w w'):=by
 have hs:=St.start w;refine aaL _ _ _ _ ?_;unfold S238;refine Ko ?_;exact ⟨rfl,hs.aF⟩
theorem C239 (a b:Int) (w:World):CR 239 [.int .i64 a,.int .i64 b] w (λ v w'=>v = .int .i64 (qX (a - b))∧Ext w w'):=by
 have hs:=St.start w;refine aaM _ _ _ _ ?_;unfold S239;refine DH ?_;exact ⟨rfl,hs.aF⟩
theorem C240 (a b:Int) (w:World):CR 240 [.int .i64 a,.int .i64 b] w (λ v w'=>v = .int .i64 (qX (a * b))∧Ext w w'):=by
 have hs:=St.start w;refine aaN _ _ _ _ ?_;unfold S240;refine Kp ?_;exact ⟨rfl,hs.aF⟩
theorem C241 (a b:Int) (w:World) (h:b≠0):CR 241 [.int .i64 a,.int .i64 b] w (λ v w'=>v = .int .i64 (ae5 a b)∧Ext w w'):=by
 have hs:=St.start w;refine aaO _ _ _ _ ?_;unfold S241;refine Uz h ?_;exact ⟨rfl,hs.aF⟩
theorem C242 (a b:Int) (w:World) (h:b≠0):CR 242 [.int .i64 a,.int .i64 b] w (λ v w'=>v = .int .i64 (a.tmod b)∧Ext w w'):=by
 have hs:=St.start w;refine aaP _ _ _ _ ?_;unfold S242;refine UA h ?_;exact ⟨rfl,hs.aF⟩
theorem C243 (a b:Int) (w:World):CR 243 [.int .i64 a,.int .i64 b] w (λ v w'=>v = .bool (decide (a=b))∧Ext w w'):=by
 have hs:=St.start w;refine aaQ _ _ _ _ ?_;unfold S243;refine aH ?_;exact ⟨rfl,hs.aF⟩
theorem C244 (a b:Int) (w:World):CR 244 [.int .i64 a,.int .i64 b] w (λ v w'=>v = .bool (decide (¬ a=b))∧Ext w w'):=by
 have hs:=St.start w;refine aaR _ _ _ _ ?_;unfold S244;refine cS ?_;exact ⟨rfl,hs.aF⟩
theorem C245 (a b:Int) (w:World):CR 245 [.int .i64 a,.int .i64 b] w (λ v w'=>v = .bool (decide (a<b))∧Ext w w'):=by
 have hs:=St.start w;refine aaS _ _ _ _ ?_;unfold S245;refine aR ?_;exact ⟨rfl,hs.aF⟩
theorem C246 (a b:Int) (w:World):CR 246 [.int .i64 a,.int .i64 b] w (λ v w'=>v = .bool (decide (a≤b))∧Ext w w'):=by
 have hs:=St.start w;refine aaT _ _ _ _ ?_;unfold S246;refine j3 ?_;exact ⟨rfl,hs.aF⟩
theorem C247 (a b:Int) (w:World):CR 247 [.int .i64 a,.int .i64 b] w (λ v w'=>v = .bool (decide (¬ a=0) && decide (¬ b=0))∧Ext w w'):=by
 have hs:=St.start w;refine aaU _ _ _ _ ?_;unfold S247;refine ⟨_,?_,λ _ _ h=>h⟩;refine aZ JX hs (C218 _ _) (λ w1 he hs=>aC (λ pC=>?_) (λ pC=>?_))
 ·refine aZ JX hs (C218 _ _) (λ w2 he hs=>?_);intro fB
  first | (rw [decide_eq_true pC]; exact ⟨rfl,hs.aF⟩) | (rw [decide_eq_false pC]; exact ⟨rfl,hs.aF⟩)
 ·intro fB
  first | (rw [decide_eq_true pC]; exact ⟨rfl,hs.aF⟩) | (rw [decide_eq_false pC]; exact ⟨rfl,hs.aF⟩)
theorem C248 (a b:Int) (w:World):CR 248 [.int .i64 a,.int .i64 b] w (λ v w'=>v = .bool (decide (¬ a=0) || decide (¬ b=0))∧Ext w w'):=by
 have hs:=St.start w;refine aaV _ _ _ _ ?_;unfold S248;refine ⟨_,?_,λ _ _ h=>h⟩;refine aZ JX hs (C218 _ _) (λ w1 he hs=>aC (λ pC=>?_) (λ pC=>?_))
 ·intro fB
  first | (rw [decide_eq_true pC]; exact ⟨rfl,hs.aF⟩) | (rw [decide_eq_false pC]; exact ⟨rfl,hs.aF⟩)
 ·refine aZ JX hs (C218 _ _) (λ w2 he hs=>?_);intro fB
  first | (rw [decide_eq_true pC]; exact ⟨rfl,hs.aF⟩) | (rw [decide_eq_false pC]; exact ⟨rfl,hs.aF⟩)
theorem C236 (g:Nat) (w:World):CR 236 [.func (.func g) #[] #[]] w (λ v w'=>∃ b,v = .func (.func 237) #[] #[.pointer (some ⟨b,0,none⟩)]∧lW (cD b [.func (.func g) #[] #[]]) w w'):=by
 have hs:=St.start w;refine aaJ _ _ _ ?_;unfold S236;refine tC hs rfl (λ aou w1 hs=>?_);exact ⟨aou,rfl,hs.fresh⟩
theorem C237 (a b:Int) (b2:Nat) (fv:Value) (g:Int→Int→Bool) (w:World) (hc:Cell w b2 0 fv) (hf:Fb2 fv g):CR 237 [.int .i64 a,.int .i64 b,.pointer (some ⟨b2,0,none⟩)] w (λ v w'=>v = .int .i64 (RQ (g a b))∧Ext w w'):=by
 obtain ⟨g0,rfl,vi,lQ⟩:=hf;have hs:=St.start w;refine aaK _ _ _ _ _ ?_;unfold S237;refine cG an3 (hc.ext hs.aF) (ga (first:=[]) (cap:=[]) vi (lQ a b _) ?_);rintro _ w1 ⟨rfl,he⟩;have hs:=hs.ext he;refine aZ aeK hs (C217 _ _) (λ w2 he hs=>?_);exact ⟨rfl,hs.aF⟩
theorem C219 (w:World):CR 219 [] w (λ v w'=>∃ b1 b2 b3 b4 b5 b6,v=opsV b1 b2 b3 b4 b5 b6∧lW (eS (aot b1 b2 b3 b4 b5 b6)) w w'):=by
 have hs:=St.start w;refine aat _ _ ?_;unfold S219;refine aN hs PH (λ avV w1 hs=>aN hs PH (λ b_l1 w2 hs=>nY qY (by omega) (by omega) (aV hs vS (eJ rfl) (rfl) (λ w3 hs=>nY qY (by omega) (by omega) (aV hs vS (eJ rfl) (rfl) (λ w4 hs=>nY qY (by omega) (by omega) (aV hs vS (eJ rfl) (rfl) (λ w5 hs=>nY qY (by omega) (by omega) (aV hs vS (eJ rfl) (rfl) (λ w6 hs=>nY qY (by omega) (by omega) (aV hs vS (eJ rfl) (rfl) (λ w7 hs=>ga (first:=[]) (cap:=[]) Gl (C236 243 _) ?_))))))))))));rintro _ w8 ⟨DV,rfl,bY⟩;have hs:=hs.made bY;refine nY qY (by omega) (by omega) (aV hs.p1 vS (eJ rfl) (rfl) (λ w9 hs=>ga (first:=[]) (cap:=[]) Gl (C236 244 _) ?_))
 rintro _ pP ⟨UG,rfl,bY⟩;have hs:=hs.made bY;refine nY qY (by omega) (by omega) (aV hs.p1 vS (eJ rfl) (rfl) (λ sQ hs=>ga (first:=[]) (cap:=[]) Gl (C236 245 _) ?_));rintro _ vl ⟨ae6,rfl,bY⟩;have hs:=hs.made bY;refine nY qY (by omega) (by omega) (aV hs.p1 vS (eJ rfl) (rfl) (λ vm hs=>ga (first:=[]) (cap:=[]) Gl (C236 246 _) ?_));rintro _ sd ⟨UH,rfl,bY⟩;have hs:=hs.made bY;refine nY qY (by omega) (by omega) (aV hs.p1 vS (eJ rfl) (rfl) (λ v7 hs=>ga (first:=[]) (cap:=[]) Gl (C236 247 _) ?_));rintro _ yT ⟨ae7,rfl,bY⟩;have hs:=hs.made bY;refine nY qY (by omega) (by omega) (aV hs.p1 vS (eJ rfl) (rfl) (λ Ch hs=>ga (first:=[]) (cap:=[]) Gl (C236 248 _) ?_))
 rintro _ Im ⟨BR,rfl,bY⟩;have hs:=hs.made bY;refine nY qY (by omega) (by omega) (aV hs.p1 vS (eJ rfl) (rfl) (λ Jp hs=>qP Ub hs.hb rfl (pk hs.p7 Ub rfl (by decide) (by simp [rO,gV]) (λ Kz hs=>qP Ub hs.hb rfl ?_))));have hs:=(((((((((((((hs.drop)).drop).p1).p2).p3).p4).p5).qF).p1).qF).p2).qF).p3;have hs:=hs.qF.p4.qF.p5.qF.fL.fL.fL.fL.fL;refine ⟨DV,UG,ae6,UH,ae7,BR,rfl,(hs.dO (Ψ:=aot DV UG ae6 UH ae7 BR) λ w h=>?_).fresh⟩;obtain ⟨⟨⟨⟨⟨h6,h5⟩,h4⟩,h3⟩,h2⟩,h1⟩:=h;exact ⟨h1.cell rfl,h2.cell rfl,h3.cell rfl,h4.cell rfl,h5.cell rfl,h6.cell rfl⟩
theorem fb1:Fb2 (.func (.func 243) #[] #[]) (λ a b=>decide (a=b)):=⟨243,rfl,anK,λ a b w1=>C243 a b w1⟩
theorem fb2:Fb2 (.func (.func 244) #[] #[]) (λ a b=>decide (¬ a=b)):=⟨244,rfl,anL,λ a b w1=>C244 a b w1⟩
theorem fb3:Fb2 (.func (.func 245) #[] #[]) (λ a b=>decide (a<b)):=⟨245,rfl,anM,λ a b w1=>C245 a b w1⟩
theorem fb4:Fb2 (.func (.func 246) #[] #[]) (λ a b=>decide (a≤b)):=⟨246,rfl,anN,λ a b w1=>C246 a b w1⟩
theorem fb5:Fb2 (.func (.func 247) #[] #[]) (λ a b=>decide (¬ a=0) && decide (¬ b=0)):=⟨247,rfl,anO,λ a b w1=>C247 a b w1⟩
theorem fb6:Fb2 (.func (.func 248) #[] #[]) (λ a b=>decide (¬ a=0) || decide (¬ b=0)):=⟨248,rfl,anP,λ a b w1=>C248 a b w1⟩
theorem C175 (op a b:Int) (w:World):CR 175 [.int .i64 op,.int .i64 a,.int .i64 b] w (λ v w'=>v = .tuple #[.int .i64 (pS op a b),.int .i64 (pR op b)]∧Ext w w'):=by
 have hs:=St.start w;refine ZS _ _ _ _ _ ?_;unfold S175;refine ⟨_,?_,λ _ _ h=>h⟩;refine aR (aC (λ fO=>?_) (λ fO=>?_))
 ·intro fB;refine nN ?_
  first | exact ⟨rfl,hs.aF⟩ | (subst_vars; exact ⟨rfl,hs.aF⟩) | (refine ⟨?_,hs.aF⟩; unfold pS pR sP; first | (rw [if_pos (show op<5∨15<op by omega)]; rfl) | simp [*])
 ·refine dG ?_;intro fB;refine aC (λ gQ=>?_) (λ gQ=>?_)
  ·first | exact ⟨rfl,hs.aF⟩ | (subst_vars; exact ⟨rfl,hs.aF⟩) | (refine ⟨?_,hs.aF⟩; unfold pS pR sP; first | (rw [if_pos (show op<5∨15<op by omega)]; rfl) | simp [*])
  ·refine eu anu (C219 _) ?_;rintro _ w2 ⟨b1,b2,b3,b4,b5,b6,rfl,bY⟩;have hs:=hs.made bY;obtain rfl | rfl | rfl | rfl | rfl | rfl | rfl | rfl | rfl | rfl | rfl | rfl | rfl | rfl | rfl | rfl:op=0∨op=1∨op=2∨op=3∨op=4∨op=5∨op=6∨op=7∨op=8∨op=9∨op=10∨op=11∨op=12∨op=13∨op=14∨op=15:=by omega
   ·refine pop (v:=.nilFunc) (by kernel_rfl) (pop (v:=.bool true) (by kernel_rfl) (nN ?_))
    first | exact ⟨rfl,hs.aF⟩ | (subst_vars; exact ⟨rfl,hs.aF⟩) | (refine ⟨?_,hs.aF⟩; unfold pS pR sP; first | (rw [if_pos (show op<5∨15<op by omega)]; rfl) | simp [*])
   ·refine pop (v:=.nilFunc) (by kernel_rfl) (pop (v:=.bool true) (by kernel_rfl) (nN ?_))
    first | exact ⟨rfl,hs.aF⟩ | (subst_vars; exact ⟨rfl,hs.aF⟩) | (refine ⟨?_,hs.aF⟩; unfold pS pR sP; first | (rw [if_pos (show op<5∨15<op by omega)]; rfl) | simp [*])
   ·refine pop (v:=.nilFunc) (by kernel_rfl) (pop (v:=.bool true) (by kernel_rfl) (nN ?_))
    first | exact ⟨rfl,hs.aF⟩ | (subst_vars; exact ⟨rfl,hs.aF⟩) | (refine ⟨?_,hs.aF⟩; unfold pS pR sP; first | (rw [if_pos (show op<5∨15<op by omega)]; rfl) | simp [*])
   ·refine pop (v:=.nilFunc) (by kernel_rfl) (pop (v:=.bool true) (by kernel_rfl) (nN ?_))
    first | exact ⟨rfl,hs.aF⟩ | (subst_vars; exact ⟨rfl,hs.aF⟩) | (refine ⟨?_,hs.aF⟩; unfold pS pR sP; first | (rw [if_pos (show op<5∨15<op by omega)]; rfl) | simp [*])
   ·refine pop (v:=.nilFunc) (by kernel_rfl) (pop (v:=.bool true) (by kernel_rfl) (nN ?_))
    first | exact ⟨rfl,hs.aF⟩ | (subst_vars; exact ⟨rfl,hs.aF⟩) | (refine ⟨?_,hs.aF⟩; unfold pS pR sP; first | (rw [if_pos (show op<5∨15<op by omega)]; rfl) | simp [*])
   ·refine pop (v:=.func (.func 238) #[] #[]) (by kernel_rfl) (pop (v:=.bool false) (by kernel_rfl) (fx ?_));refine ⟨_,?_,λ _ _ h=>h⟩;refine aH (fT (by decide) (aH (fT (by decide) ?_)));intro jw;refine fx (ga (first:=[]) (cap:=[]) anF (C238 a b _) ?_);rintro _ w4 ⟨rfl,he⟩;have hs:=hs.ext he
    first | exact ⟨rfl,hs.aF⟩ | (subst_vars; exact ⟨rfl,hs.aF⟩) | (refine ⟨?_,hs.aF⟩; unfold pS pR sP; first | (rw [if_pos (show op<5∨15<op by omega)]; rfl) | simp [*])
   ·refine pop (v:=.func (.func 239) #[] #[]) (by kernel_rfl) (pop (v:=.bool false) (by kernel_rfl) (fx ?_));refine ⟨_,?_,λ _ _ h=>h⟩;refine aH (fT (by decide) (aH (fT (by decide) ?_)));intro jw;refine fx (ga (first:=[]) (cap:=[]) anG (C239 a b _) ?_);rintro _ w4 ⟨rfl,he⟩;have hs:=hs.ext he
    first | exact ⟨rfl,hs.aF⟩ | (subst_vars; exact ⟨rfl,hs.aF⟩) | (refine ⟨?_,hs.aF⟩; unfold pS pR sP; first | (rw [if_pos (show op<5∨15<op by omega)]; rfl) | simp [*])
   ·refine pop (v:=.func (.func 240) #[] #[]) (by kernel_rfl) (pop (v:=.bool false) (by kernel_rfl) (fx ?_));refine ⟨_,?_,λ _ _ h=>h⟩;refine aH (fT (by decide) (aH (fT (by decide) ?_)));intro jw;refine fx (ga (first:=[]) (cap:=[]) anH (C240 a b _) ?_);rintro _ w4 ⟨rfl,he⟩;have hs:=hs.ext he
    first | exact ⟨rfl,hs.aF⟩ | (subst_vars; exact ⟨rfl,hs.aF⟩) | (refine ⟨?_,hs.aF⟩; unfold pS pR sP; first | (rw [if_pos (show op<5∨15<op by omega)]; rfl) | simp [*])
   ·refine pop (v:=.func (.func 241) #[] #[]) (by kernel_rfl) (pop (v:=.bool false) (by kernel_rfl) (fx ?_));refine ⟨_,?_,λ _ _ h=>h⟩;refine aH (gD (by decide) (aH ?_));intro jw;refine aC (λ gr=>?_) (λ gr=>?_)
    ·first | exact ⟨rfl,hs.aF⟩ | (subst_vars; exact ⟨rfl,hs.aF⟩) | (refine ⟨?_,hs.aF⟩; unfold pS pR sP; first | (rw [if_pos (show op<5∨15<op by omega)]; rfl) | simp [*])
    ·refine ga (first:=[]) (cap:=[]) anI (C241 a b _ gr) ?_;rintro _ w4 ⟨rfl,he⟩;have hs:=hs.ext he
     first | exact ⟨rfl,hs.aF⟩ | (subst_vars; exact ⟨rfl,hs.aF⟩) | (refine ⟨?_,hs.aF⟩; unfold pS pR sP; first | (rw [if_pos (show op<5∨15<op by omega)]; rfl) | simp [*])
   ·refine pop (v:=.func (.func 242) #[] #[]) (by kernel_rfl) (pop (v:=.bool false) (by kernel_rfl) (fx ?_));refine ⟨_,?_,λ _ _ h=>h⟩;refine aH (fT (by decide) (aH (gD (by decide) (aH ?_))));intro jw;refine aC (λ gr=>?_) (λ gr=>?_)
    ·first | exact ⟨rfl,hs.aF⟩ | (subst_vars; exact ⟨rfl,hs.aF⟩) | (refine ⟨?_,hs.aF⟩; unfold pS pR sP; first | (rw [if_pos (show op<5∨15<op by omega)]; rfl) | simp [*])
    ·refine ga (first:=[]) (cap:=[]) anJ (C242 a b _ gr) ?_;rintro _ w4 ⟨rfl,he⟩;have hs:=hs.ext he
     first | exact ⟨rfl,hs.aF⟩ | (subst_vars; exact ⟨rfl,hs.aF⟩) | (refine ⟨?_,hs.aF⟩; unfold pS pR sP; first | (rw [if_pos (show op<5∨15<op by omega)]; rfl) | simp [*])
   ·refine pop (v:=.func (.func 237) #[] #[.pointer (some ⟨b1,0,none⟩)]) (by kernel_rfl) (pop (v:=.bool false) (by kernel_rfl) (fx ?_));refine ⟨_,?_,λ _ _ h=>h⟩;refine aH (fT (by decide) (aH (fT (by decide) ?_)));intro jw;refine fx ?_;obtain ⟨o1,o2,o3,o4,o5,o6⟩:=hs.eS;refine ga (first:=[]) (cap:=[.pointer (some ⟨b1,0,none⟩)]) Gm (C237 a b b1 _ _ _ o1 fb1) ?_;rintro _ w4 ⟨rfl,he⟩;have hs:=hs.ext he
    first | exact ⟨rfl,hs.aF⟩ | (subst_vars; exact ⟨rfl,hs.aF⟩) | (refine ⟨?_,hs.aF⟩; unfold pS pR sP; first | (rw [if_pos (show op<5∨15<op by omega)]; rfl) | simp [*])
   ·refine pop (v:=.func (.func 237) #[] #[.pointer (some ⟨b2,0,none⟩)]) (by kernel_rfl) (pop (v:=.bool false) (by kernel_rfl) (fx ?_));refine ⟨_,?_,λ _ _ h=>h⟩;refine aH (fT (by decide) (aH (fT (by decide) ?_)));intro jw;refine fx ?_;obtain ⟨o1,o2,o3,o4,o5,o6⟩:=hs.eS;refine ga (first:=[]) (cap:=[.pointer (some ⟨b2,0,none⟩)]) Gm (C237 a b b2 _ _ _ o2 fb2) ?_;rintro _ w4 ⟨rfl,he⟩;have hs:=hs.ext he
    first | exact ⟨rfl,hs.aF⟩ | (subst_vars; exact ⟨rfl,hs.aF⟩) | (refine ⟨?_,hs.aF⟩; unfold pS pR sP; first | (rw [if_pos (show op<5∨15<op by omega)]; rfl) | simp [*])
   ·refine pop (v:=.func (.func 237) #[] #[.pointer (some ⟨b3,0,none⟩)]) (by kernel_rfl) (pop (v:=.bool false) (by kernel_rfl) (fx ?_));refine ⟨_,?_,λ _ _ h=>h⟩;refine aH (fT (by decide) (aH (fT (by decide) ?_)));intro jw;refine fx ?_;obtain ⟨o1,o2,o3,o4,o5,o6⟩:=hs.eS;refine ga (first:=[]) (cap:=[.pointer (some ⟨b3,0,none⟩)]) Gm (C237 a b b3 _ _ _ o3 fb3) ?_;rintro _ w4 ⟨rfl,he⟩;have hs:=hs.ext he
    first | exact ⟨rfl,hs.aF⟩ | (subst_vars; exact ⟨rfl,hs.aF⟩) | (refine ⟨?_,hs.aF⟩; unfold pS pR sP; first | (rw [if_pos (show op<5∨15<op by omega)]; rfl) | simp [*])
   ·refine pop (v:=.func (.func 237) #[] #[.pointer (some ⟨b4,0,none⟩)]) (by kernel_rfl) (pop (v:=.bool false) (by kernel_rfl) (fx ?_));refine ⟨_,?_,λ _ _ h=>h⟩;refine aH (fT (by decide) (aH (fT (by decide) ?_)));intro jw;refine fx ?_;obtain ⟨o1,o2,o3,o4,o5,o6⟩:=hs.eS;refine ga (first:=[]) (cap:=[.pointer (some ⟨b4,0,none⟩)]) Gm (C237 a b b4 _ _ _ o4 fb4) ?_;rintro _ w4 ⟨rfl,he⟩;have hs:=hs.ext he
    first | exact ⟨rfl,hs.aF⟩ | (subst_vars; exact ⟨rfl,hs.aF⟩) | (refine ⟨?_,hs.aF⟩; unfold pS pR sP; first | (rw [if_pos (show op<5∨15<op by omega)]; rfl) | simp [*])
   ·refine pop (v:=.func (.func 237) #[] #[.pointer (some ⟨b5,0,none⟩)]) (by kernel_rfl) (pop (v:=.bool false) (by kernel_rfl) (fx ?_));refine ⟨_,?_,λ _ _ h=>h⟩;refine aH (fT (by decide) (aH (fT (by decide) ?_)));intro jw;refine fx ?_;obtain ⟨o1,o2,o3,o4,o5,o6⟩:=hs.eS;refine ga (first:=[]) (cap:=[.pointer (some ⟨b5,0,none⟩)]) Gm (C237 a b b5 _ _ _ o5 fb5) ?_;rintro _ w4 ⟨rfl,he⟩;have hs:=hs.ext he
    first | exact ⟨rfl,hs.aF⟩ | (subst_vars; exact ⟨rfl,hs.aF⟩) | (refine ⟨?_,hs.aF⟩; unfold pS pR sP; first | (rw [if_pos (show op<5∨15<op by omega)]; rfl) | simp [*])
   ·refine pop (v:=.func (.func 237) #[] #[.pointer (some ⟨b6,0,none⟩)]) (by kernel_rfl) (pop (v:=.bool false) (by kernel_rfl) (fx ?_));refine ⟨_,?_,λ _ _ h=>h⟩;refine aH (fT (by decide) (aH (fT (by decide) ?_)));intro jw;refine fx ?_;obtain ⟨o1,o2,o3,o4,o5,o6⟩:=hs.eS;refine ga (first:=[]) (cap:=[.pointer (some ⟨b6,0,none⟩)]) Gm (C237 a b b6 _ _ _ o6 fb6) ?_;rintro _ w4 ⟨rfl,he⟩;have hs:=hs.ext he
    first | exact ⟨rfl,hs.aF⟩ | (subst_vars; exact ⟨rfl,hs.aF⟩) | (refine ⟨?_,hs.aF⟩; unfold pS pR sP; first | (rw [if_pos (show op<5∨15<op by omega)]; rfl) | simp [*])
theorem gX {α:Type} {l:List α} {k:Nat} {e:α} (h:l[k]? = some e):l.take k++[e]=l.take (k+1):=by rw [List.take_add_one,h]; rfl
theorem eD {α:Type} {φ:α→Prop} {l:List α} {k:Nat} {e:α} (h:∀ y∈l.take k,φ y) (he:l[k]? = some e) (hp:φ e):∀ y∈l.take (k+1),φ y:=by
 intro y hy
 rw [← gX he] at hy
 rcases List.mem_append.1 hy with hy | hy
 ·exact h y hy
 ·rw [List.mem_singleton.1 hy]; exact hp
theorem jx {α:Type} {g:α→Bool} {l:List α} {k:Nat} {e:α} (he:l[k]? = some e) (hg:g e=true):l.any g=true:=List.any_eq_true.2 ⟨e,List.mem_of_getElem? he,hg⟩
theorem iF {α:Type} {g:α→Bool} {l:List α} (h:∀ y∈l,g y=false):l.any g=false:=by
 rw [List.any_eq_false]; intro y hy; rw [h y hy]; simp
def uQ {α:Type} (g:α→Bool) (l:List α):Int:=match l.findIdx? g with | some k=>k | none=>-1
theorem pd {α:Type} {g:α→Bool} {l:List α} {k:Nat} {e:α} (fR:∀ y∈l.take k,g y=false) (he:l[k]? = some e) (hg:g e=true):uQ g l=k:=by
 have:l.findIdx? g=some k:=by
  rw [List.findIdx?_eq_some_iff_getElem]
  have hk:=(List.getElem?_eq_some_iff.1 he).1
  refine ⟨hk,by rw [(List.getElem?_eq_some_iff.1 he).2]; exact hg,λ j hj=>?_⟩
  have:=fR (l[j]'(by omega)) (List.mem_take_iff_getElem.2 ⟨j,by omega,rfl⟩)
  simp [this]
 unfold uQ; rw [this]
theorem kn {α:Type} {g:α→Bool} {l:List α} (fR:∀ y∈l,g y=false):uQ g l = -1:=by
 have:l.findIdx? g=none:=by rw [List.findIdx?_eq_none_iff]; exact fR
 unfold uQ; rw [this]
theorem n8 {α:Type} (g:α→Bool) (l:List α):decide (0≤uQ g l)=l.any g:=by
 unfold uQ
 cases h:l.findIdx? g with
 | none=>
  rw [List.findIdx?_eq_none_iff] at h
  have:l.any g=false:=by rw [List.any_eq_false]; intro x hx; rw [h x hx]; simp
  rw [this]; rfl
 | some k=>
  have h':=(List.findIdx?_eq_some_iff_getElem.1 h)
  obtain ⟨hk,hg,_⟩:=h'
  have:l.any g=true:=List.any_eq_true.2 ⟨_,List.getElem_mem hk,hg⟩
  rw [this]; simp
def Ci {α:Type} [Flat α] (w:World) (f:Value) (g:α→Bool):Prop:=∃ g0 first cap,f = .func (.func g0) (List.toArray first) (List.toArray cap)∧Plain PG g0∧
 ∀ x w1,Ext w w1→Calls PG g0 (first++[Flat.val x]++cap).toArray w1 (qf λ v w2=>v = .bool (g x)∧Ext w1 w2)
theorem Ci.ext {α:Type} [Flat α] {w w':World} {f:Value} {g:α→Bool} (h:Ci w f g) (e:Ext w w'):Ci w' f g:=by
 obtain ⟨g0,first,cap,h1,h2,h3⟩:=h; exact ⟨g0,first,cap,h1,h2,λ x w1 e1=>h3 x w1 (e.trans e1)⟩
def fF (k:Int):Int:=if k=3∨k=4 then 1 else if 5≤k∧k≤15 then 2 else 0
def KA (st:Option (Int × Int)) (x:nk):Option (Int × Int):=match st with
 | none=>none
 | some (n,h)=>if n - fF x.kind<0 then none else some (n - fF x.kind+1,max h (n - fF x.kind+1))
def ht (l:List nk):Option (Int × Int):=l.foldl KA (some (0,0))
def htN (l:List nk):Int:=match ht l with | some p=>p.1 | none=>0
def htH (l:List nk):Int:=match ht l with | some p=>p.2 | none=>0
theorem zG {l:List nk} {k:Nat} {x:nk} (h:l[k]? = some x):ht (l.take (k+1))=KA (ht (l.take k)) x:=by
 unfold ht; rw [← gX h,List.foldl_append]; rfl
theorem PQ {l:List nk} {k:Nat} (h:ht (l.take k)=none):ht l=none:=by
 have key:∀ m:List nk,m.foldl KA none=none:=λ m=>by induction m with | nil=>rfl | cons y m ih=>exact ih
 have e:l=l.take k++l.drop k:=(List.take_append_drop k l).symm
 unfold ht at *
 rw [e,List.foldl_append,h]; exact key _
theorem PR (k:Int):0≤fF k∧fF k≤2:=by
 unfold fF
 repeat' split
 all_goals omega
theorem ah5 {l:List nk}:∀ k n h,k≤l.length→ht (l.take k)=some (n,h)→0≤n∧n≤(k:Int)∧0≤h∧h≤(k:Int)
 | 0,n,h,_,e=>by
  have:ht ([]:List nk)=some (0,0):=rfl
  rw [List.take_zero,this] at e
  obtain ⟨rfl,rfl⟩:=Prod.mk.inj (Option.some.inj e); omega
 | k+1,n,h,hk,e=>by
  obtain ⟨x,hx⟩:∃ x,l[k]? = some x:=⟨_,List.getElem?_eq_getElem (by omega)⟩
  rw [zG hx] at e
  cases hp:ht (l.take k) with
  | none=>rw [hp] at e; cases e
  | some p=>
   obtain ⟨a,b⟩:=p
   have ih:=ah5 k a b (by omega) hp
   have hw:=PR x.kind
   rw [hp] at e
   unfold KA at e
   simp only [] at e
   split at e
   ·cases e
   ·obtain ⟨rfl,rfl⟩:=Prod.mk.inj (Option.some.inj e); omega
theorem abA {l:List nk} {k:Nat} {x:nk} {n h m:Int} (hx:l[k]? = some x) (KB:ht (l.take k)=some (n,h)) (hm:m=n - fF x.kind) (h0:¬ m<0):ht (l.take (k+1))=some (m+1,max h (m+1)):=by
 rw [zG hx,KB]; unfold KA; simp only []; rw [← hm,if_neg h0]
theorem ah6 {l:List nk} {k:Nat} {x:nk} {n h m:Int} (hx:l[k]? = some x) (KB:ht (l.take k)=some (n,h)) (hm:m=n - fF x.kind) (h0:m<0):ht (l.take (k+1))=none:=by
 rw [zG hx,KB]; unfold KA; simp only []; rw [← hm,if_pos h0]
def se (many:Int) (x:nk):Bool:=decide ((x.kind=1∧(x.n<0∨4294967296<x.n))∨(x.kind=2∧(x.n<0∨many≤x.n))∨(¬ x.kind=1∧¬ x.kind=2∧(¬ x.n=0∨x.kind<1∨16≤x.kind)))
def eL (l:List nk) (many:Int):Bool:=decide (l.length≤40) && (ht l).isSome && decide (htN l=1) && !l.any (se many)
theorem C171 (k:Int) (w:World):CR 171 [.int .i64 k] w (λ v w'=>v = .int .i64 (fF k)∧Ext w w'):=by
 have hs:=St.start w;refine ZO _ _ _ ?_;unfold S171;refine ⟨λ jv w'=>jv = .bool (decide (k=3∨k=4))∧w=w',?_,?_⟩
 ·refine aH (aC (λ UI=>?_) (λ UI=>?_))
  ·exact ⟨Rx (by omega),rfl⟩
  ·refine aH ?_;exact ⟨xw (by omega),rfl⟩
 ·rintro _ w1 ⟨rfl,hw⟩ fB;subst hw;refine aC (λ FK=>?_) (λ FK=>?_)
  ·unfold fF
   first | (rw [if_pos FK]; exact ⟨rfl,hs.aF⟩) | (rw [if_neg FK,if_pos fO]; exact ⟨rfl,hs.aF⟩) | (rw [if_neg FK,if_neg fO]; exact ⟨rfl,hs.aF⟩)
  ·refine ⟨λ jv w'=>jv = .bool (decide (5≤k∧k≤15))∧w=w',?_,?_⟩
   ·refine dG (aC (λ jV=>?_) (λ jV=>?_))
    ·refine j3 ?_;exact ⟨xw (by omega),rfl⟩
    ·exact ⟨YJ (by omega),rfl⟩
   ·rintro _ w2 ⟨rfl,hw⟩ jw;subst hw;refine aC (λ fO=>?_) (λ fO=>?_)
    ·unfold fF
     first | (rw [if_pos FK]; exact ⟨rfl,hs.aF⟩) | (rw [if_neg FK,if_pos fO]; exact ⟨rfl,hs.aF⟩) | (rw [if_neg FK,if_neg fO]; exact ⟨rfl,hs.aF⟩)
    ·unfold fF
     first | (rw [if_pos FK]; exact ⟨rfl,hs.aF⟩) | (rw [if_neg FK,if_pos fO]; exact ⟨rfl,hs.aF⟩) | (rw [if_neg FK,if_neg fO]; exact ⟨rfl,hs.aF⟩)
theorem C183 (sv:Value) (xs:List nk) (w:World) (hL:eF (λ _=>True) w sv xs) (hn:xs.length≤1048576):CR 183 [sv] w (λ v w'=>v = .tuple #[.int .i64 (htN xs),.int .i64 (htH xs),.bool (ht xs).isSome]∧Ext w w'):=by
 have hs:=St.start w;refine Z0 _ _ _ ?_;unfold S183;refine aJ vz (hL.ext hs.aF) ?_;refine ⟨λ m y z x w1=>∃ (k:Nat) (n h:Int),y = .int .i64 n∧z = .int .i64 h∧x = .int .i64 (k:Int)∧m=xs.length - k∧k≤xs.length∧ht (xs.take k)=some (n,h)∧St w bD [] w1,⟨_,0,0,0,rfl,rfl,rfl,rfl,by omega,rfl,hs⟩,?_⟩;rintro m _ _ _ w1 ⟨k,n,h,rfl,rfl,rfl,rfl,hk,KB,hs⟩ fB;refine aR (aC (λ jV=>?_) (λ jV=>?_))
 ·obtain ⟨UJ,Ba⟩:=gx (xs) (i:=((k:Int)).toNat) (by omega);refine aQ vz (hL.ext hs.aF) (by omega) Ba (λ _ KC=>aD Kb (KC) (aN hs PC (λ Bb w2 hs=>aI (x:=UJ) hs Kb rfl rfl (λ w3 hs=>aA nV (aB bL hs.hb rfl (aZ aeD hs (C171 _ _) (λ w4 he hs=>?_)))))));have hw:=PR UJ.kind;have hhb:=ah5 k n h (by omega) KB;refine gy (by omega) (aR (aC (λ gr=>?_) (λ gr=>?_)))
  ·have hz:ht xs=none:=PQ (k:=k+1) (by rw [zG (k:=k) Ba,KB]; unfold KA; simp only []; rw [if_pos gr]);unfold htN htH;rw [hz];exact ⟨rfl,hs.aF⟩
  ·refine aO (by omega) (wY (aO (by omega) ?_));exact ⟨_,by omega,k+1,_,_,rfl,rfl,rfl,rfl,by omega,by rw [zG (k:=k) Ba,KB]; unfold KA; simp only []; rw [if_neg gr],hs.drop⟩
 ·rw [List.take_of_length_le (by omega)] at KB;unfold htN htH;rw [KB];exact ⟨rfl,hs.aF⟩
theorem C182 (x:nk) (b2:Nat) (many:Int) (w:World) (hc:Cell w b2 0 (.int .i64 many)):CR 182 [Flat.val x,.pointer (some ⟨b2,0,none⟩)] w (λ v w'=>v = .bool (se many x)∧Ext w w'):=by
 have hs:=St.start w;refine ZZ _ _ _ _ ?_;unfold S182;refine dE hs (λ lZ w1 hs=>aA nV (aB bL hs.hb rfl (aH (aC (λ iP=>?_) (λ iP=>?_)))))
 ·refine ⟨_,?_,λ _ _ h=>h⟩;refine aA qT (aB bL hs.hb rfl (aR (aC (λ fO=>?_) (λ fO=>?_))))
  ·intro fB;refine ⟨vb ?_,hs.aF⟩;unfold se
   first | exact (decide_eq_true (by omega)).symm | exact (decide_eq_false (by omega)).symm | exact decide_eq_decide.2 (by omega)
  ·refine aA qT (aB bL hs.hb rfl (dA ?_));intro fB;refine ⟨vb ?_,hs.aF⟩;unfold se
   first | exact (decide_eq_true (by omega)).symm | exact (decide_eq_false (by omega)).symm | exact decide_eq_decide.2 (by omega)
 ·refine aA nV (aB bL hs.hb rfl (aH (aC (λ fw=>?_) (λ fw=>?_))))
  ·refine ⟨_,?_,λ _ _ h=>h⟩;refine aA qT (aB bL hs.hb rfl (aR (aC (λ iL=>?_) (λ iL=>?_))))
   ·intro jw;refine ⟨vb ?_,hs.aF⟩;unfold se
    first | exact (decide_eq_true (by omega)).symm | exact (decide_eq_false (by omega)).symm | exact decide_eq_decide.2 (by omega)
   ·refine aA qT (aB bL hs.hb rfl (cG bL (hc.ext hs.aF) (dG ?_)));intro jw;refine ⟨vb ?_,hs.aF⟩;unfold se
    first | exact (decide_eq_true (by omega)).symm | exact (decide_eq_false (by omega)).symm | exact decide_eq_decide.2 (by omega)
  ·refine ⟨_,?_,λ _ _ h=>h⟩;refine aA qT (aB bL hs.hb rfl (cS (aC (λ lJ=>?_) (λ lJ=>?_))))
   ·intro oN;refine ⟨vb ?_,hs.aF⟩;unfold se
    first | exact (decide_eq_true (by omega)).symm | exact (decide_eq_false (by omega)).symm | exact decide_eq_decide.2 (by omega)
   ·refine aA nV (aB bL hs.hb rfl (aR (aC (λ jr=>?_) (λ jr=>?_))))
    ·intro oN;refine ⟨vb ?_,hs.aF⟩;unfold se
     first | exact (decide_eq_true (by omega)).symm | exact (decide_eq_false (by omega)).symm | exact decide_eq_decide.2 (by omega)
    ·refine aA nV (aB bL hs.hb rfl (dG ?_));intro oN;refine ⟨vb ?_,hs.aF⟩;unfold se
     first | exact (decide_eq_true (by omega)).symm | exact (decide_eq_false (by omega)).symm | exact decide_eq_decide.2 (by omega)
theorem C223 (sv fv:Value) (xs:List nk) (g:nk→Bool) (w:World) (hL:eF (λ _=>True) w sv xs) (hf:Ci w fv g) (hn:xs.length≤1073741824):CR 223 [sv,fv] w (λ v w'=>v = .int .i64 (uQ g xs)∧Ext w w'):=by
 obtain ⟨g0,first,cap,rfl,vi,lQ⟩:=hf;have hs:=St.start w;refine aax _ _ _ _ ?_;unfold S223;refine aJ vz (hL.ext hs.aF) ?_;refine ⟨λ m x w1=>∃ k:Nat,x = .int .i64 (k:Int)∧m=xs.length - k∧k≤xs.length∧(∀ y∈xs.take k,g y=false)∧St w bD [] w1,⟨_,0,rfl,rfl,Nat.zero_le _,by simp,hs⟩,?_⟩;rintro m _ w1 ⟨k,rfl,rfl,hk,fR,hs⟩ fB;refine aR (aC (λ gu=>?_) (λ gu=>?_))
 ·obtain ⟨jk,dD⟩:=gx (xs) (i:=((k:Int)).toNat) (by omega);refine aQ vz (hL.ext hs.aF) (by omega) dD (λ _ iM=>aD Kb (iM) (ga vi (lQ jk w1 hs.aF) ?_));rintro _ w2 ⟨rfl,he⟩;have hs:=hs.ext he;refine aX (λ eB=>?_) (λ eB=>?_)
  ·exact ⟨congrArg (Value.int .i64) (pd fR dD eB).symm,hs.aF⟩
  ·refine aO (by omega) ?_;exact ⟨xs.length - (k+1),by omega,k+1,rfl,rfl,by omega,eD fR dD eB,hs⟩
 ·exact ⟨congrArg (Value.int .i64) (kn (by rw [List.take_of_length_le (by omega)] at fR; exact fR)).symm,hs.aF⟩
theorem C184 (sv fv:Value) (xs:List nk) (g:nk→Bool) (w:World) (hL:eF (λ _=>True) w sv xs) (hf:Ci w fv g) (hn:xs.length≤1073741824):CR 184 [sv,fv] w (λ v w'=>v = .bool (xs.any g)∧Ext w w'):=by
 have hs:=St.start w;refine Z1 _ _ _ _ ?_;unfold S184;refine aZ anz hs (C223 _ _ _ _ _ (hL.ext hs.aF) (hf.ext hs.aF) (by omega)) (λ w1 he hs=>dG ?_);exact ⟨vb (n8 _ _),hs.aF⟩
theorem C116 (sv:Value) (xs:List nk) (many:Int) (w:World) (hL:eF (λ _=>True) w sv xs) (hn:xs.length≤1048576):CR 116 [sv,.int .i64 many] w (λ v w'=>v = .bool (eL xs many)∧Ext w w'):=by
 have hs:=St.start w;refine Y9 _ _ _ _ ?_;unfold S116;refine tC hs rfl (λ PU w1 hs=>aZ anc hs (C183 _ _ _ (hL.ext hs.aF) (by omega)) (λ w2 he hs=>bE rfl (bE rfl (bE rfl ?_))));refine ⟨_,?_,λ _ _ h=>h⟩;refine aJ vz (hL.ext hs.aF) (j3 (aC (λ gd=>?_) (λ gd=>?_)))
 ·refine aX (λ jG=>?_) (λ jG=>?_)
  ·refine aH (aC (λ iB=>?_) (λ iB=>?_))
   ·have Km:Ci _ (.func (.func 182) [].toArray [.pointer (some ⟨PU,0,none⟩)].toArray) (se many):=
     ⟨182,[],_,rfl,anb,λ y w1 e1=>C182 y PU many w1 ((hs.hb.cell rfl).ext e1)⟩
    refine aZ ane hs (C184 _ _ _ _ _ (hL.ext hs.aF) Km (by omega)) (λ w3 he hs=>bZ ?_);intro fB;refine ⟨vb ?_,hs.aF⟩;unfold eL
    simp_all <;> omega
   ·intro fB;refine ⟨vb ?_,hs.aF⟩;unfold eL
    simp_all <;> omega
  ·intro fB;refine ⟨vb ?_,hs.aF⟩;unfold eL
   simp_all <;> omega
 ·intro fB;refine ⟨vb ?_,hs.aF⟩;unfold eL
  simp_all <;> omega
def oa (b:Nat) (rest:List Value) (l:List Int):HP:=tS λ sv=>sep (cD b (sv::rest)) (bK sv l)
theorem oa.shut {w0 w:World} {A:Nat→Prop} {R:List HP} {b:Nat} {rest:List Value} {sv:Value} {l:List Int} (hs:St w0 A (cD b (sv::rest)::bK sv l::R) w):St w0 A (oa b rest l::R) w:=
 St.eP (H:=λ sv=>sep (cD b (sv::rest)) (bK sv l)) sv (St.join hs)
theorem oa.open {w0 w:World} {A:Nat→Prop} {R:List HP} {b:Nat} {rest:List Value} {l:List Int} (hs:St w0 A (oa b rest l::R) w):∃ sv,St w0 A (cD b (sv::rest)::bK sv l::R) w:=by
 obtain ⟨sv,hs⟩:=hs.eV; exact ⟨sv,hs.split⟩
def lK (l:List Int):Int:=l.getD (l.length - 1) 0
theorem UL {l:List Int} {e:Int} (h:l[((l.length:Int) - 1).toNat]? = some e):e=lK l:=by
 unfold lK
 rw [List.getD_eq_getElem?_getD,show l.length - 1=((l.length:Int) - 1).toNat from by omega,h]; rfl
theorem C216 (b:Nat) (n:Int) (rest:List Value) (l:List Int) (F:Nat→Prop) (w:World) (hF:(oa b rest l).p w F) (hn:l.length≤1048576):CR 216 [.pointer (some ⟨b,0,none⟩),.int .i64 n] w (λ v w'=>v = .tuple #[]∧qj F (oa b rest (l++[n])) w w'):=by
 have hs:=St.begin hF;obtain ⟨sv,hs⟩:=hs.eV;have hs:=hs.split;refine aaq _ _ _ _ ?_;unfold S216;refine aE (aA pz (aB et hs.hb rfl (bW (([n]:List Int)) hs ei rfl rfl (eJ rfl) (λ aov w1 hs=>?_))));have uR:=(hs).fI;refine cN hs.p2 ei uR (by simp <;> omega) (by decide) (λ ae8 w2 hs=>have hs:=hs.p1.drop;aE (aA pz (aV hs.p1 et (eJ rfl) ((hs).fI.one) (λ w3 hs=>?_))));have hs:=hs.p1.p1;exact ⟨rfl,(oa.shut hs).mut⟩
theorem C174 (b:Nat) (rest:List Value) (l:List Int) (F:Nat→Prop) (w:World) (hF:(oa b rest l).p w F) (hn:l.length≤1048576) (h0:0<l.length):CR 174 [.pointer (some ⟨b,0,none⟩)] w (λ v w'=>v = .int .i64 (lK l)∧qj F (oa b rest (l.take (l.length - 1))) w w'):=by
 have hs:=St.begin hF;obtain ⟨sv,hs⟩:=hs.eV;have hs:=hs.split;refine ZR _ _ _ ?_;unfold S174;refine aE (aA pz (have hs:=hs.drew;aB et hs.hb rfl (aE (aA pz (aB et hs.hb rfl (aJ ei (hs.p1).fI (gy (by omega) ?_)))))));obtain ⟨jk,dD⟩:=gx (l) (i:=((((l).length:Int) - 1)).toNat) (by omega);refine dT hs.p1 ei (by omega) (by omega) (λ _ iM=>gj hs.p1 bL iM dD (aE (aA pz (have hs:=hs.drew;aB et hs.hb rfl (aE (aA pz (aB et hs.hb rfl (aJ ei (hs.p1).fI (gy (by omega) (have hs:=hs.p1;Nd ei hs (by omega) (by omega) (λ PV hs=>aE (aA pz ?_))))))))))))
 refine aV hs.p1 et (eJ rfl) ((hs).fI.one) (λ w1 hs=>?_);have hs:=hs.p1.p1;rw [show ((l.length:Int) - 1).toNat=l.length - 1 from by omega] at hs;rw [UL dD];exact ⟨rfl,(oa.shut hs).mut⟩
theorem C172 (b:Nat) (n hi:Int) (l:List Int) (F:Nat→Prop) (w:World) (hF:(oa b [.int .i64 hi] l).p w F) (hn:l.length≤1048576):CR 172 [.pointer (some ⟨b,0,none⟩),.int .i64 n] w (λ v w'=>v = .tuple #[]∧∃ ML,qj F (oa b [.int .i64 ML] (l++[n])) w w'):=by
 have hs:=St.begin hF;refine ZP _ _ _ _ ?_;unfold S172;refine aE (aA tO (pb ant hs (H':=λ _=>oa b [.int .i64 hi] (l++[n])) (Φ:=λ v _=>v = .tuple #[]) (λ F hF=>?_) ?_))
 ·exact C216 b n _ l F _ hF (by omega)
 rintro _ w1 rfl hs;obtain ⟨sv,hs⟩:=oa.open hs;refine aE (aA Kf (have hs:=hs.drew;aB bL hs.hb rfl (aE (aA tO (aA pz (aB et hs.hb rfl (aJ ei (hs.p1).fI (wY (aE (aA Kf (aV hs bL (eJ rfl) (rfl) (λ w2 hs=>?_))))))))))));have hs:=hs.p1.p1;exact ⟨rfl,_,(oa.shut hs).mut⟩
def pD (ns S:List Int) (x:nk):List Int:=
 if fF x.kind=0 then S++[if x.kind=2 then ns.getD x.n.toNat 0 else x.n]
 else if fF x.kind=1 then S.take (S.length - 1)++[Cg x.kind (lK S)]
 else S.take (S.length - 2)++[pS x.kind (lK (S.take (S.length - 1))) (lK S)]
def FL (S:List Int) (x:nk):Int:=if fF x.kind=2 then pR x.kind (lK S) else 0
def Io (ns:List Int):List nk→List Int→Int × Int
 | [],S=>(lK S,0)
 | x::r,S=>if FL S x=0 then Io ns r (pD ns S x) else (0,FL S x)
def runM (l:List nk) (ns:List Int):Int × Int:=if eL l ns.length=true then Io ns l [] else (0,8)
theorem zH (k:Int):fF k=0∨fF k=1∨fF k=2:=by
 unfold fF
 repeat' split
 all_goals omega
section
variable {xs:List nk} {ns S:List Int} {k:Nat} {x:nk} {n h:Int}
theorem CF (hx:xs[k]? = some x) (h:FL S x=0):Io ns (xs.drop k) S=Io ns (xs.drop (k+1)) (pD ns S x):=by
 obtain ⟨hk,he⟩:=List.getElem?_eq_some_iff.1 hx
 rw [List.drop_eq_getElem_cons hk,he,Io,if_pos h]
theorem UM (hx:xs[k]? = some x) (h:¬ FL S x=0):Io ns (xs.drop k) S=(0,FL S x):=by
 obtain ⟨hk,he⟩:=List.getElem?_eq_some_iff.1 hx
 rw [List.drop_eq_getElem_cons hk,he,Io,if_neg h]
theorem FM {many:Int} (h:eL xs many=true):xs.length≤40∧(∃ a,ht xs=some (1,a))∧∀ x∈xs,se many x=false:=by
 unfold eL at h
 rw [Bool.and_eq_true,Bool.and_eq_true,Bool.and_eq_true,decide_eq_true_eq,decide_eq_true_eq] at h
 obtain ⟨⟨⟨h1,h2⟩,h3⟩,h4⟩:=h
 refine ⟨h1,?_,λ x hx=>?_⟩
 ·unfold htN at h3
  cases hh:ht xs with
  | none=>rw [hh] at h2; cases h2
  | some p=>rw [hh] at h3; exact ⟨p.2,by rw [← h3]⟩
 ·have:xs.any (se many)=false:=by simpa using h4
  rw [List.any_eq_false] at this
  simpa using this x hx
theorem RR (hw:fF x.kind≤(S.length:Int)):((pD ns S x).length:Int)=S.length - fF x.kind+1:=by
 unfold pD
 rcases zH x.kind with h | h | h
 ·rw [if_pos h,h,List.length_append,List.length_singleton]; omega
 ·rw [if_neg (by omega),if_pos h,h,List.length_append,List.length_take,List.length_singleton]; omega
 ·rw [if_neg (by omega),if_neg (by omega),h,List.length_append,List.length_take,List.length_singleton]; omega
theorem RS {a:Int} (mi:ht xs=some (1,a)) (KB:ht (xs.take k)=some ((S.length:Int),h)) (hx:xs[k]? = some x) :
  fF x.kind≤(S.length:Int)∧∃ h',ht (xs.take (k+1))=some (((pD ns S x).length:Int),h'):=by
 have hw:fF x.kind≤(S.length:Int):=by
  rcases Int.lt_or_le ((S.length:Int) - fF x.kind) 0 with h1 | h1
  ·have:=PQ (ah6 hx KB rfl h1); rw [mi] at this; cases this
  ·omega
 exact ⟨hw,_,(abA hx KB rfl (by omega)).trans (by rw [RR hw])⟩
theorem ah7 (hw:fF x.kind=0) (h2:¬ x.kind=2):pD ns S x=S++[x.n]:=by unfold pD; rw [if_pos hw,if_neg h2]
theorem ah8 {e:Int} (hw:fF x.kind=0) (h2:x.kind=2) (he:ns[x.n.toNat]? = some e):pD ns S x=S++[e]:=by
 unfold pD; rw [if_pos hw,if_pos h2,List.getD_eq_getElem?_getD,he]; rfl
theorem ah9 (hw:fF x.kind=1):pD ns S x=S.take (S.length - 1)++[Cg x.kind (lK S)]:=by unfold pD; rw [if_neg (by omega),if_pos hw]
theorem aia (hw:fF x.kind=2):pD ns S x=S.take (S.length - 2)++[pS x.kind (lK (S.take (S.length - 1))) (lK S)]:=by unfold pD; rw [if_neg (by omega),if_neg (by omega)]
theorem UN (hw:¬ fF x.kind=2):FL S x=0:=by unfold FL; rw [if_neg hw]
theorem ae9 (hw:fF x.kind=2):FL S x=pR x.kind (lK S):=by unfold FL; rw [if_pos hw]
theorem Ng (h:2≤S.length):(S.take (S.length - 1)).take ((S.take (S.length - 1)).length - 1)=S.take (S.length - 2):=by
 rw [List.take_take,List.length_take]; congr 1; omega
end
def mI (b:Nat) (l:List Int):HP:=tS fun (hi:Int)=>oa b [.int .i64 hi] l
theorem mI.shut {w0 w:World} {A:Nat→Prop} {R:List HP} {b:Nat} {hi:Int} {l:List Int} (hs:St w0 A (oa b [.int .i64 hi] l::R) w):St w0 A (mI b l::R) w:=
 St.eP (H:=fun (hi:Int)=>oa b [.int .i64 hi] l) hi hs
theorem abB (b:Nat) (n:Int) (l:List Int) (F:Nat→Prop) (w:World) (hF:(mI b l).p w F) (hn:l.length≤1048576) :
  Calls PG 172 [.pointer (some ⟨b,0,none⟩),.int .i64 n].toArray w (qf λ v w'=>v = .tuple #[]∧qj F (mI b (l++[n])) w w'):=by
 obtain ⟨hi,hF⟩:=hF
 refine (C172 b n hi l F w hF hn).mono λ e w' ⟨v,he,hv,ML,F',h1,h2⟩=>⟨v,he,hv,F',⟨ML,h1⟩,h2⟩
theorem abC (b:Nat) (l:List Int) (F:Nat→Prop) (w:World) (hF:(mI b l).p w F) (hn:l.length≤1048576) (h0:0<l.length) :
  Calls PG 174 [.pointer (some ⟨b,0,none⟩)].toArray w (qf λ v w'=>v = .int .i64 (lK l)∧qj F (mI b (l.take (l.length - 1))) w w'):=by
 obtain ⟨hi,hF⟩:=hF
 refine (C174 b [.int .i64 hi] l F w hF hn h0).mono λ e w' ⟨v,he,hv,F',h1,h2⟩=>⟨v,he,hv,F',⟨hi,h1⟩,h2⟩
theorem C110 (sv nv:Value) (xs:List nk) (ns:List Int) (w:World) (hL:eF (λ _=>True) w sv xs) (hN:eF (λ _=>True) w nv ns) (hn:xs.length≤1048576):CR 110 [sv,nv] w (λ v w'=>v = .tuple #[.int .i64 (runM xs ns).1,.int .i64 (runM xs ns).2]∧Ext w w'):=by
 have hs:=St.start w;refine Y3 _ _ _ _ ?_;unfold S110;refine aJ ei (hN.ext hs.aF) (aZ Pb hs (C116 _ _ _ _ (hL.ext hs.aF) hn) (λ w1 he hs=>bZ (aX (λ fw=>?_) (λ fw=>?_))))
 ·unfold runM;rw [if_neg (by simpa using fw)];exact ⟨rfl,hs.aF⟩
 ·refine aN hs abo (λ v8 w2 hs=>?_);have hs:=mI.shut (oa.shut (hs.fX (α:=Int)).p1);have gd:eL xs (ns.length:Int)=true:=by simpa using fw
  obtain ⟨h40,⟨a0,mi⟩,avX⟩:=FM gd;refine aJ vz (hL.ext hs.aF) ?_;refine ⟨λ m x w1=>∃ (k:Nat) (S:List Int) (h:Int),x = .int .i64 (k:Int)∧m=xs.length - k∧k≤xs.length∧Io ns xs []=Io ns (xs.drop k) S∧ht (xs.take k)=some ((S.length:Int),h)∧St w bD [mI v8 S] w1,⟨_,0,[],0,rfl,rfl,by omega,rfl,rfl,hs⟩,?_⟩;rintro m _ w3 ⟨k,S,h,rfl,rfl,hk,JM,KB,hs⟩ fB;refine aR (aC (λ iN=>?_) (λ iN=>?_))
  ·refine ⟨_,?_,λ _ h=>h⟩;obtain ⟨gR,im⟩:=gx (xs) (i:=((k:Int)).toNat) (by omega);refine aQ vz (hL.ext hs.aF) (by omega) im (λ _ v9=>aD Kb (v9) (aN hs PC (λ Bb w4 hs=>aI (x:=gR) hs Kb rfl rfl (λ w5 hs=>aA nV (aB bL hs.hb rfl (aZ aeD hs (C171 _ _) (λ w6 he hs=>?_)))))));have hod:=avX _ (List.mem_of_getElem? im);unfold se at hod;have ho:=of_decide_eq_false hod;obtain ⟨Nh,h2,abD⟩:=RS (ns:=ns) (k:=k) mi KB im;have hwk:fF gR.kind=0→gR.kind=1∨gR.kind=2∨¬ (gR.kind=1∨gR.kind=2):=λ _=>by omega
   have hSk:=ah5 k _ _ (by omega) KB;have hw3:=zH gR.kind;refine aH (aC (λ sg=>?_) (λ sg=>?_))
   ·refine aA qT (aB bL hs.hb rfl ?_);refine ⟨_,?_,λ _ _ h=>h⟩;refine aA nV (aB bL hs.hb rfl (aH (aC (λ pE=>?_) (λ pE=>?_))))
    ·refine aA qT (aB bL hs.hb rfl ?_);obtain ⟨afa,UO⟩:=gx (ns) (i:=((gR).n).toNat) (by omega);refine aQ ei (hN.ext hs.aF) (by omega) UO (λ _ DW=>aD bL (DW) ?_);intro jw;refine pb Pm hs.p1 (H':=λ _=>mI v8 (S++[afa])) (Φ:=λ v _=>v = .tuple #[]) (λ F hF=>?_) ?_
     ·exact abB v8 afa S F _ hF (by first | omega | (simp only [List.length_take,List.length_append,List.length_singleton]; omega))
     rintro _ w8 rfl hs;intro oN;refine aO (by omega) ?_;have hs:=(hs.p1).drop;have gk:pD ns S gR=_:=ah8 sg pE UO;exact ⟨_,by omega,k+1,_,_,rfl,rfl,by omega,JM.trans (CF (k:=k) im (UN (by omega))),abD,by rw [gk]; exact hs⟩
    ·intro jw;refine pb Pm hs.p1 (H':=λ _=>mI v8 (S++[(gR).n])) (Φ:=λ v _=>v = .tuple #[]) (λ F hF=>?_) ?_
     ·exact abB v8 (gR).n S F _ hF (by first | omega | (simp only [List.length_take,List.length_append,List.length_singleton]; omega))
     rintro _ w8 rfl hs;intro oN;refine aO (by omega) ?_;have hs:=(hs.p1).drop;have gk:pD ns S gR=_:=ah7 sg pE;exact ⟨_,by omega,k+1,_,_,rfl,rfl,by omega,JM.trans (CF (k:=k) im (UN (by omega))),abD,by rw [gk]; exact hs⟩
   ·refine aH (aC (λ Gz=>?_) (λ Gz=>?_))
    ·refine aA nV (have hs:=hs.drew;aB bL hs.hb rfl (aA tO (pb Pn hs.p1 (H':=λ _=>mI v8 (S.take (S.length - 1))) (Φ:=λ v _=>v = .int .i64 (lK S)) (λ F hF=>?_) ?_)))
     ·exact abC v8 S F _ hF (by first | omega | (simp only [List.length_take,List.length_append,List.length_singleton]; omega)) (by first | omega | (simp only [List.length_take,List.length_append,List.length_singleton]; omega))
     rintro _ w9 rfl hs;refine ⟨aG bL (hs.p1.hb.cell rfl),?_⟩;refine aZ am6 hs (C173 _ _ _) (λ pP he hs=>bE rfl (bE rfl (pb Pm hs (H':=λ _=>mI v8 ((S.take (S.length - 1))++[(Cg (gR).kind (lK S))])) (Φ:=λ v _=>v = .tuple #[]) (λ F hF=>?_) ?_)))
     ·exact abB v8 (Cg (gR).kind (lK S)) (S.take (S.length - 1)) F _ hF (by first | omega | (simp only [List.length_take,List.length_append,List.length_singleton]; omega))
     rintro _ sQ rfl hs;intro oN;refine aO (by omega) ?_;have hs:=(hs.p1).drop;have gk:pD ns S gR=_:=ah9 Gz;exact ⟨_,by omega,k+1,_,_,rfl,rfl,by omega,JM.trans (CF (k:=k) im (UN (by omega))),abD,by rw [gk]; exact hs⟩
    ·refine aA tO (pb Pn hs.p1 (H':=λ _=>mI v8 (S.take (S.length - 1))) (Φ:=λ v _=>v = .int .i64 (lK S)) (λ F hF=>?_) ?_)
     ·exact abC v8 S F _ hF (by first | omega | (simp only [List.length_take,List.length_append,List.length_singleton]; omega)) (by first | omega | (simp only [List.length_take,List.length_append,List.length_singleton]; omega))
     rintro _ vl rfl hs;refine aA nV (have hs:=hs.drew;aB bL hs.p1.hb rfl (aA tO (pb Pn hs (H':=λ _=>mI v8 ((S.take (S.length - 1)).take ((S.take (S.length - 1)).length - 1))) (Φ:=λ v _=>v = .int .i64 (lK (S.take (S.length - 1)))) (λ F hF=>?_) ?_)))
     ·exact abC v8 (S.take (S.length - 1)) F _ hF (by first | omega | (simp only [List.length_take,List.length_append,List.length_singleton]; omega)) (by first | omega | (simp only [List.length_take,List.length_append,List.length_singleton]; omega))
     rintro _ vm rfl hs;refine ⟨aG bL (hs.p1.hb.cell rfl),?_⟩;refine aZ am7 hs (C175 _ _ _ _) (λ sd he hs=>bE rfl (bE rfl (cS (aC (λ jW=>?_) (λ jW=>?_)))))
     ·have hz:FL S gR=pR gR.kind (lK S):=ae9 (by have:=zH gR.kind; omega);unfold runM;rw [if_pos gd,JM,UM (k:=k) im (by rw [hz]; exact jW),hz];exact ⟨rfl,hs.aF⟩
     ·refine pb Pm hs (H':=λ _=>mI v8 (((S.take (S.length - 1)).take ((S.take (S.length - 1)).length - 1))++[(pS (gR).kind (lK (S.take (S.length - 1))) (lK S))])) (Φ:=λ v _=>v = .tuple #[]) (λ F hF=>?_) ?_
      ·exact abB v8 (pS (gR).kind (lK (S.take (S.length - 1))) (lK S)) ((S.take (S.length - 1)).take ((S.take (S.length - 1)).length - 1)) F _ hF (by first | omega | (simp only [List.length_take,List.length_append,List.length_singleton]; omega))
      rintro _ v7 rfl hs;intro oN;refine aO (by omega) ?_;have hs:=(hs.p1).drop;rw [Ng (by omega)] at hs;have gk:pD ns S gR=_:=aia (by have:=zH gR.kind; omega);exact ⟨_,by omega,k+1,_,_,rfl,rfl,by omega,JM.trans (CF (k:=k) im ((ae9 (by have:=zH gR.kind; omega)).trans (Decidable.not_not.1 jW))),abD,by rw [gk]; exact hs⟩
  ·refine aA tO ?_
   have hS1:S.length=1:=by
    rw [List.take_of_length_le (by omega),mi] at KB;have:=(Prod.mk.inj (Option.some.inj KB)).1;omega
   refine pb Pn hs (H':=λ _=>mI v8 (S.take (S.length - 1))) (Φ:=λ v _=>v = .int .i64 (lK S)) (λ F hF=>?_) ?_
   ·exact abC v8 S F _ hF (by first | omega | (simp only [List.length_take,List.length_append,List.length_singleton]; omega)) (by first | omega | (simp only [List.length_take,List.length_append,List.length_singleton]; omega))
   rintro _ Ch rfl hs;unfold runM;rw [if_pos gd,JM,List.drop_eq_nil_of_le (by omega)];exact ⟨rfl,hs.aF⟩
def dP (ns:List ByteArray) (s:ByteArray):Int:=uQ (λ y=>decide (y=s)) ns
def gF (p:cU):List dF:=p.lines.flatten++p.jP
structure PS (p:cU):Prop where
 lines:p.lines.length≤500
 line:∀ l∈p.lines,l.length≤500
 jP:p.jP.length≤500
 locks:p.locks.length≤500
 threads:p.threads.length≤500
 recover:p.recover.length≤500
 cC:p.cC.length≤500
 aK:∀ t∈p.threads++p.recover,t.aK.length≤500
 body:∀ t∈p.threads++p.recover,t.body.length≤500
theorem cO {ls:List (List dF)} (h:∀ l∈ls,l.length≤500):ls.flatten.length≤500 * ls.length:=by
 induction ls with
 | nil=>simp
 | cons a ls ih=>
  have h1:=h a (by simp)
  have h2:=ih λ l hl=>h l (List.mem_cons_of_mem _ hl)
  rw [List.flatten_cons,List.length_append,List.length_cons]; omega
theorem m4 {p:cU} (h:PS p):(gF p).length≤250500:=by
 have h1:=cO h.line
 have h2:=h.lines
 have h3:=h.jP
 unfold gF; rw [List.length_append]; omega
theorem RT {α:Type} {ls:List (List α)} {k:Nat} {l:List α} (h:ls[k]? = some l):(ls.take k).flatten++l=(ls.take (k+1)).flatten:=by rw [← gX h,List.flatten_append]; simp
theorem iO {α β:Type} {f:α→β} {l:List α} {k:Nat} {e:α} (h:l[k]? = some e):(l.take k).map f++[f e]=(l.take (k+1)).map f:=by rw [← gX h,List.map_append]; rfl
theorem C98 (lv:Value) (ns:List ByteArray) (q:ByteArray) (w:World) (hL:eF (λ _=>True) w lv ns) (hn:ns.length≤1048576):CR 98 [lv,.string q] w (λ v w'=>v = .int .i64 (dP ns q)∧Ext w w'):=by
 have hs:=St.start w;refine ahO _ _ _ _ ?_;unfold S98;refine ⟨λ m x w1=>∃ k:Nat,x = .int .i64 (k:Int)∧m=ns.length - k∧k≤ns.length∧(∀ y∈ns.take k,decide (y=q)=false)∧St w bD [] w1,⟨_,0,rfl,rfl,Nat.zero_le _,by simp,hs⟩,?_⟩;rintro m _ w1 ⟨k,rfl,rfl,hk,fR,hs⟩ fB;refine aJ mS (hL.ext hs.aF) (aR (aC (λ gu=>?_) (λ gu=>?_)))
 ·obtain ⟨jk,dD⟩:=gx (ns) (i:=((k:Int)).toNat) (by omega);refine aQ mS (hL.ext hs.aF) (by omega) dD (λ _ iM=>aD j4 (iM) (tT (aC (λ l4=>?_) (λ l4=>?_))))
  ·exact ⟨congrArg (Value.int .i64) (pd fR dD (decide_eq_true l4)).symm,hs.aF⟩
  ·refine aO (by omega) ?_;exact ⟨ns.length - (k+1),by omega,k+1,rfl,rfl,by omega,eD fR dD (decide_eq_false l4),hs⟩
 ·exact ⟨congrArg (Value.int .i64) (kn (by rw [List.take_of_length_le (by omega)] at fR; exact fR)).symm,hs.aF⟩
theorem C107 (lv:Value) (cs:List dF) (w:World) (hL:eF (λ _=>True) w lv cs) (hn:cs.length≤1048576):CR 107 [lv] w (λ v w'=>lW (bK v (cs.map dF.name)) w w'):=by
 have hs:=St.start w;refine YZ _ _ _ ?_;unfold S107;refine bW (([]:List ByteArray)) hs mS rfl rfl (eJ rfl) (λ Ip w1 hs=>?_);refine ⟨λ m y x w1=>∃ k:Nat,x = .int .i64 (k:Int)∧m=cs.length - k∧k≤cs.length∧St w bD [bK y ((cs.take k).map dF.name)] w1,⟨_,0,rfl,rfl,by omega,hs⟩,?_⟩;rintro m fV _ w2 ⟨k,rfl,rfl,hk,hs⟩ fB;have hml:((cs.take k).map dF.name).length=k:=by rw [List.length_map,List.length_take]; omega
 refine aJ jZ (hL.ext hs.aF) (aR (aC (λ gu=>?_) (λ gu=>?_)))
 ·obtain ⟨pF,jQ⟩:=gx (cs) (i:=((k:Int)).toNat) (by omega);refine aQ jZ (hL.ext hs.aF) (by omega) jQ (λ _ qZ=>bT (pF).name py qZ rfl rfl (λ _ tU=>aD j4 (tU) (bW ([(pF).name]) hs mS rfl rfl (eJ rfl) (λ afb w3 hs=>?_))));have oc:=(hs).fI;refine cN hs.p1 mS oc (by simp <;> omega) (by decide) (λ UP w4 hs=>have hs:=hs.p1.drop;aO (by omega) ?_);exact ⟨_,by omega,k+1,rfl,rfl,by omega,by rw [← iO (k:=k) jQ]; exact hs⟩
 ·rw [List.take_of_length_le (by omega)] at hs;exact hs.fresh
theorem C102 (p:cU) (pv:bN) (w:World) (hp:cA.dr w pv p) (hz:PS p):CR 102 [Flat.val pv] w (λ v w'=>lW (bK v (gF p)) w w'):=by
 obtain ⟨bH,bQ,bI,aT,aU,aY,rfl,cI,cZ,cJ,bR,bO,cB⟩:=hp;have hs:=St.start w;refine YU _ _ _ ?_;unfold S102;refine dE hs (λ kD w1 hs=>bW (([]:List dF)) hs jZ rfl rfl (eJ rfl) (λ Ip w2 hs=>?_));refine ⟨λ m y x w1=>∃ k:Nat,x = .int .i64 (k:Int)∧m=p.lines.length - k∧k≤p.lines.length∧St w bD [bK y (p.lines.take k).flatten,cD kD (Flat.enc (⟨bH,bQ,bI,aT,aU,aY⟩:bN))] w1,⟨_,0,rfl,rfl,by omega,hs⟩,?_⟩;rintro m fV _ w3 ⟨k,rfl,rfl,hk,hs⟩ fB;have Yk:=hz.lines;refine aA jn (aB rP hs.p1.hb rfl ?_)
 obtain ⟨Yl,hR1,hD1⟩:=(cI).open;have UQ:=hD1.1;refine aJ vy (hR1.ext hs.aF) (aR (aC (λ fO=>?_) (λ fO=>?_)))
 ·refine aA jn (aB rP hs.p1.hb rfl ?_);obtain ⟨aow,UR⟩:=gx Yl (i:=((k:Int)).toNat) (by omega);obtain ⟨aox,Ni⟩:=gx ((p).lines) (i:=((k:Int)).toNat) (by omega);have aoy:DL w (Flat.val aow) aox:=hD1.2 _ _ _ UR Ni;refine aQ vy (hR1.ext hs.aF) (by omega) UR (λ _ KD=>aD jt (KD) ?_);have TI:=DL.flat (aoy);have Nj:=hz.line _ (List.mem_of_getElem? Ni);have Ce:=cO (ls:=p.lines.take k) (λ l hl=>hz.line l (List.mem_of_mem_take hl));rw [List.length_take] at Ce;have Yk:=hz.lines;have oc:=(TI.ext hs.aF);refine cN hs jZ oc (by omega) (by decide) (λ UP w4 hs=>aO (by omega) ?_)
  exact ⟨_,by omega,k+1,rfl,rfl,by omega,by rw [← RT (k:=k) Ni]; exact hs⟩
 ·refine aA uI (aB jt hs.p1.hb rfl ?_);have hf3:=DL.flat (cZ);have Ce:=cO (ls:=p.lines.take k) (λ l hl=>hz.line l (List.mem_of_mem_take hl));rw [List.length_take] at Ce;have Yk:=hz.lines;have hz2:=hz.jP;have aib:=(hf3.ext hs.aF);refine cN hs jZ aib (by omega) (by decide) (λ aoz w5 hs=>?_);rw [List.take_of_length_le (by omega)] at hs;exact hs.p1.drop.fresh
def kids (k:Int):Int:=if k=1∨k=2 then 0 else if k=3∨k=4 then 1 else if 5≤k∧k≤15 then 2 else -1
theorem Iq (k:Int) : -1≤kids k∧kids k≤2:=by
 unfold kids
 repeat' split
 all_goals omega
def jq (c:Int):Bool:=decide (97≤c∧c≤122∨c=95)
def nn (c:Int):Bool:=decide (48≤c∧c≤57)
def wb:List ByteArray:=[⟨#[108,105,110,101]⟩,⟨#[118,111,108]⟩,⟨#[108,111,99,107]⟩,⟨#[116,104,114,101,97,100]⟩,⟨#[114,101,103]⟩,⟨#[108,111,97,100]⟩,⟨#[115,116,111,114,101]⟩,⟨#[99,97,115]⟩,⟨#[102,108,117,115,104]⟩,⟨#[111,112,116]⟩,⟨#[115,102,101,110,99,101]⟩,⟨#[109,102,101,110,99,101]⟩,⟨#[116,97,107,101]⟩,⟨#[103,105,118,101]⟩,⟨#[105,102]⟩,⟨#[101,108,115,101]⟩,⟨#[108,111,111,112]⟩,⟨#[98,114,101,97,107]⟩,⟨#[99,104,101,99,107]⟩,⟨#[114,101,99,111,118,101,114]⟩,⟨#[97,108,119,97,121,115]⟩]
def jX (s:ByteArray):Bool:=!(decide (s.size<1∨16<s.size) || (match (lf s)[0]? with | some c=>!jq c.toNat | none=>true) || wb.any (λ y=>decide (y=s))) && !(lf s).any (λ c=>!jq c.toNat && !nn c.toNat)
def skip:Nat→List cX→Option (List cX)
 | 0,l=>some l
 | _+1,[]=>none
 | n+1,x::l=>if kids x.op<0 then none else skip (n+(kids x.op).toNat) l
theorem yt (l:List cX):skip 0 l=some l:=by cases l <;> rfl
theorem DX (l:List cX):∀ a b,skip (a+b) l=(skip a l).bind (skip b):=by
 induction l with
 | nil=>
  intro a b
  cases a with
  | zero=>rw [Nat.zero_add,yt]; rfl
  | succ a=>rw [show a+1+b=(a+b)+1 from by omega]; rfl
 | cons x l ih=>
  intro a b
  cases a with
  | zero=>rw [Nat.zero_add,yt]; rfl
  | succ a=>
   rw [show a+1+b=(a+b)+1 from by omega]
   show (if kids x.op<0 then none else skip (a+b+(kids x.op).toNat) l)=(if kids x.op<0 then none else skip (a+(kids x.op).toNat) l).bind (skip b)
   split
   ·rfl
   ·rw [show a+b+(kids x.op).toNat=a+(kids x.op).toNat+b from by omega]; exact ih _ _
theorem DY (l:List cX):∀ n r,skip n l=some r→r=l.drop (l.length - r.length)∧r.length+min n 1≤l.length:=by
 induction l with
 | nil=>
  intro n r h
  cases n with
  | zero=>rw [yt] at h; cases h; exact ⟨rfl,by simp⟩
  | succ n=>cases h
 | cons x l ih=>
  intro n r h
  cases n with
  | zero=>rw [yt] at h; cases h; exact ⟨by simp,by simp⟩
  | succ n=>
   have h:(if kids x.op<0 then none else skip (n+(kids x.op).toNat) l)=some r:=h
   split at h
   ·cases h
   ·obtain ⟨h1,h2⟩:=ih _ _ h
    refine ⟨?_,by rw [List.length_cons]; omega⟩
    rw [show (x::l).length - r.length=(l.length - r.length)+1 from by rw [List.length_cons]; omega]
    exact h1
def GA (n:Nat) (o:Option (List cX)):Int:=match o with | some r=>(n:Int) - r.length | none=>-1
def uS (xs:List cX) (i:Int):Int:=if i<0 then -1 else GA xs.length (skip 1 (xs.drop i.toNat))
theorem US {xs:List cX} {i:Int} {x:cX} (h0:0≤i) (hx:xs[i.toNat]? = some x) (hk:0≤kids x.op):uS xs i=GA xs.length (skip (kids x.op).toNat (xs.drop (i.toNat+1))):=by
 unfold uS
 obtain ⟨hl,he⟩:=List.getElem?_eq_some_iff.1 hx
 rw [if_neg (by omega),List.drop_eq_getElem_cons hl,he]
 show GA _ (if kids x.op<0 then none else skip (0+(kids x.op).toNat) _)=_
 rw [if_neg (by omega),Nat.zero_add]
theorem abE {xs:List cX} {i:Int} {x:cX} (h0:0≤i) (hx:xs[i.toNat]? = some x) (hk:kids x.op<0):uS xs i = -1:=by
 unfold uS
 obtain ⟨hl,he⟩:=List.getElem?_eq_some_iff.1 hx
 rw [if_neg (by omega),List.drop_eq_getElem_cons hl,he]
 show GA _ (if kids x.op<0 then none else _)=_
 rw [if_pos hk]; rfl
theorem abF {xs:List cX} {i:Int} (h:i<0∨xs.length≤i):uS xs i = -1:=by
 unfold uS
 split
 ·rfl
 ·rw [List.drop_eq_nil_of_le (by omega)]; rfl
theorem aoA {xs:List cX} {j k:Nat} {a:Int} (h:GA xs.length (skip k (xs.drop j))=a) (h0:0≤a):uS xs a=GA xs.length (skip (k+1) (xs.drop j))∧((j:Int)≤a∨xs.length≤a):=by
 cases hs:skip k (xs.drop j) with
 | none=>rw [hs] at h; unfold GA at h; simp only [] at h; omega
 | some r=>
  rw [hs] at h
  have h:(xs.length:Int) - r.length=a:=h
  obtain ⟨h1,h2⟩:=DY _ _ _ hs
  rw [List.length_drop] at h1 h2
  rw [DX,hs]
  show _=GA _ (skip 1 r)∧_
  refine ⟨?_,by omega⟩
  unfold uS
  rw [if_neg (by omega)]
  by_cases hj:j≤xs.length
  ·have:xs.drop a.toNat=r:=by
    rw [h1,List.drop_drop,show j+(xs.length - j - r.length)=a.toNat from by omega]
   rw [this]
  ·have:r=[]:=List.length_eq_zero_iff.1 (by omega)
   subst this
   rw [List.drop_eq_nil_of_le (by simp at h; omega)]
theorem aic {xs l:List cX} {k j:Nat} (hl:l.length≤xs.length) (h:¬ 0≤GA xs.length (skip k l)) (hj:k≤j):GA xs.length (skip k l)=GA xs.length (skip j l):=by
 cases hs:skip k l with
 | none=>rw [show j=k+(j - k) from by omega,DX,hs]; rfl
 | some r=>
  obtain ⟨_,h2⟩:=DY _ _ _ hs
  rw [hs] at h; unfold GA at h; simp only [] at h; omega
theorem av0 {xs l:List cX} {k:Nat} (hl:l.length≤xs.length) : -1≤GA xs.length (skip k l)∧GA xs.length (skip k l)≤xs.length:=by
 cases hs:skip k l with
 | none=>unfold GA; simp only []; omega
 | some r=>
  obtain ⟨_,h2⟩:=DY _ _ _ hs
  unfold GA; simp only []; omega
theorem C163 (k:Int) (w:World):CR 163 [.int .i64 k] w (λ v w'=>v = .int .i64 (kids k)∧Ext w w'):=by
 have hs:=St.start w;refine ZG _ _ _ ?_;unfold S163;refine ⟨λ jv w'=>jv = .bool (decide (k=1∨k=2))∧w=w',?_,?_⟩
 ·refine aH (aC (λ pG=>?_) (λ pG=>?_))
  ·exact ⟨Rx (by omega),rfl⟩
  ·refine aH ?_;exact ⟨xw (by omega),rfl⟩
 ·rintro _ w1 ⟨rfl,hw⟩ fB;subst hw;refine aC (λ gn=>?_) (λ gn=>?_)
  ·unfold kids;exact ⟨congrArg (Value.int .i64) (by grind),hs.aF⟩
  ·refine ⟨λ jv w'=>jv = .bool (decide (k=3∨k=4))∧w=w',?_,?_⟩
   ·refine aH (aC (λ fO=>?_) (λ fO=>?_))
    ·exact ⟨Rx (by omega),rfl⟩
    ·refine aH ?_;exact ⟨xw (by omega),rfl⟩
   ·rintro _ w2 ⟨rfl,hw⟩ jw;subst hw;refine aC (λ gQ=>?_) (λ gQ=>?_)
    ·unfold kids;exact ⟨congrArg (Value.int .i64) (by grind),hs.aF⟩
    ·refine ⟨λ jv w'=>jv = .bool (decide (5≤k∧k≤15))∧w=w',?_,?_⟩
     ·refine dG (aC (λ eB=>?_) (λ eB=>?_))
      ·refine j3 ?_;exact ⟨xw (by omega),rfl⟩
      ·exact ⟨YJ (by omega),rfl⟩
     ·rintro _ w3 ⟨rfl,hw⟩ oN;subst hw;refine aC (λ js=>?_) (λ js=>?_)
      ·unfold kids;exact ⟨congrArg (Value.int .i64) (by grind),hs.aF⟩
      ·unfold kids;exact ⟨congrArg (Value.int .i64) (by grind),hs.aF⟩
theorem C206 (c:Int) (w:World):CR 206 [.int .u8 c] w (λ v w'=>v = .bool (jq c)∧Ext w w'):=by
 have hs:=St.start w;refine aag _ _ _ ?_;unfold S206;refine ⟨λ jv w'=>jv = .bool (decide (97≤c∧c≤122∨c=95))∧w=w',?_,?_⟩
 ·refine Kv (aC (λ pG=>?_) (λ pG=>?_))
  ·refine Ku (aC (λ iP=>?_) (λ iP=>?_))
   ·exact ⟨Rx (by omega),rfl⟩
   ·refine nZ ?_;exact ⟨xw (by omega),rfl⟩
  ·refine nZ ?_;exact ⟨xw (by omega),rfl⟩
 ·rintro _ w1 ⟨rfl,hw⟩ fB;subst hw;exact ⟨rfl,hs.aF⟩
theorem C208 (c:Int) (w:World):CR 208 [.int .u8 c] w (λ v w'=>v = .bool (nn c)∧Ext w w'):=by
 have hs:=St.start w;refine aai _ _ _ ?_;unfold S208;refine ⟨λ jv w'=>jv = .bool (decide (48≤c∧c≤57))∧w=w',?_,?_⟩
 ·refine Kv (aC (λ pG=>?_) (λ pG=>?_))
  ·refine Ku ?_;exact ⟨xw (by omega),rfl⟩
  ·exact ⟨YJ (by omega),rfl⟩
 ·rintro _ w1 ⟨rfl,hw⟩ fB;subst hw;exact ⟨rfl,hs.aF⟩
theorem C207 (s:ByteArray) (w:World):CR 207 [.string s] w (λ v w'=>v = .bool (wb.any (λ y=>decide (y=s)))∧Ext w w'):=by
 have hs:=St.start w;refine aah _ _ _ ?_;unfold S207;refine bW (wb) hs mS rfl rfl (eJ rfl) (λ Ip w1 hs=>?_);refine ⟨λ m x w1=>∃ k:Nat,x = .int .i64 (k:Int)∧m=wb.length - k∧k≤wb.length∧(∀ y∈wb.take k,decide (y=s)=false)∧St w bD [bK Ip wb] w1,⟨_,0,rfl,rfl,Nat.zero_le _,by simp,hs⟩,?_⟩;rintro m _ w2 ⟨k,rfl,rfl,hk,fR,hs⟩ fB;have KE:wb.length=21:=rfl;refine aJ mS (hs).fI (aR (aC (λ gu=>?_) (λ gu=>?_)))
 ·skip;obtain ⟨jk,dD⟩:=gx (wb) (i:=((k:Int)).toNat) (by omega);refine dT hs mS (by omega) (by omega) (λ _ iM=>gj hs j4 iM dD (tT (aC (λ l4=>?_) (λ l4=>?_))))
  ·exact ⟨vb (jx dD (decide_eq_true l4)).symm,hs.aF⟩
  ·refine aO (by omega) ?_;exact ⟨_,by omega,k+1,rfl,rfl,by omega,eD fR dD (decide_eq_false l4),hs⟩
 ·rw [List.take_of_length_le (by omega)] at fR;exact ⟨vb (iF fR).symm,hs.aF⟩
theorem C161 (s:ByteArray) (w:World) (hn:s.size≤1048576):CR 161 [.string s] w (λ v w'=>v = .bool (jX s)∧Ext w w'):=by
 have hs:=St.start w;refine ZE _ _ _ ?_;unfold S161;refine ⟨λ jv w'=>jv = .bool (decide (s.size<1∨16<s.size) || (match (lf s)[0]? with | some c=>!jq c.toNat | none=>true) || wb.any (λ y=>decide (y=s)))∧St w bD [] w',?_,?_⟩
 ·refine gb gH (aR (aC (λ pC=>?_) (λ pC=>?_)))
  ·exact ⟨vb (by grind),hs⟩
  ·refine gb gH (dA (aC (λ fO=>?_) (λ fO=>?_)))
   ·exact ⟨vb (by grind),hs⟩
   ·obtain ⟨jk,dD⟩:∃ xx,(lf (s))[((0:Int)).toNat]? = some xx:=⟨_,List.getElem?_eq_getElem (by rw [dZ]; omega)⟩;refine lG gH (by omega) dD (aZ Pr hs (C206 _ _) (λ w1 he hs=>bZ (aX (λ eB=>?_) (λ eB=>?_))))
    ·exact ⟨vb (by grind),hs⟩
    ·refine aZ anq hs (C207 _ _) (λ w2 he hs=>?_);exact ⟨vb (by grind),hs⟩
 ·rintro _ w3 ⟨rfl,hs⟩ fB;refine aX (λ gr=>?_) (λ gr=>?_)
  ·refine ⟨vb ?_,hs.aF⟩;unfold jX;rw [gr]; rfl
  ·refine ⟨λ m x w1=>∃ k:Nat,x = .int .i64 (k:Int)∧m=(lf s).length - k∧k≤(lf s).length∧(∀ y∈(lf s).take k,(!jq y.toNat && !nn y.toNat)=false)∧St w bD [] w1,⟨_,0,rfl,rfl,Nat.zero_le _,by simp,hs⟩,?_⟩;rintro m _ w4 ⟨k,rfl,rfl,hk,fR,hs⟩ jw;rw [dZ] at hk;have yU:=dZ s;refine gb gH (aR (aC (λ fP=>?_) (λ fP=>?_)))
   ·obtain ⟨DZ,lB⟩:∃ xx,(lf s)[((k:Int)).toNat]? = some xx:=⟨_,List.getElem?_eq_getElem (by rw [dZ]; omega)⟩;refine ⟨λ jv w'=>jv = .bool (!jq DZ.toNat && !nn DZ.toNat)∧St w bD [] w',?_,?_⟩
    ·refine lG gH (by omega) lB (aZ Pr hs (C206 _ _) (λ w5 he hs=>bZ (aX (λ jH=>?_) (λ jH=>?_))))
     ·refine lG gH (by omega) lB (aZ Ps hs (C208 _ _) (λ w6 he hs=>bZ ?_));exact ⟨vb (by grind),hs⟩
     ·exact ⟨vb (by grind),hs⟩
    ·rintro _ w7 ⟨rfl,hs⟩ oN;refine aX (λ si=>?_) (λ si=>?_)
     ·refine ⟨vb ?_,hs.aF⟩;unfold jX;rw [jx lB si]; simp
     ·refine aO (by omega) ?_;exact ⟨_,by omega,k+1,rfl,rfl,by omega,eD fR lB (by simpa using si),hs⟩
   ·rw [List.take_of_length_le (by omega)] at fR;refine ⟨vb ?_,hs.aF⟩;unfold jX;rw [iF fR]
    revert gr
    cases (decide (s.size<1∨16<s.size) || (match (lf s)[0]? with | some c=>!jq c.toNat | none=>true) || wb.any (λ y=>decide (y=s))) <;> simp
theorem C160 (lv:Value) (xs:List cX) (i:Int) (N:Nat) (w:World) (hL:eF (λ _=>True) w lv xs) (hn:xs.length≤1048576) (hi : -9223372036854775808≤i) (hN:(xs.length:Int) - i<N):CR 160 [lv,.int .i64 i] w (λ v w'=>v = .int .i64 (uS xs i)∧Ext w w'):=by
 have hs:=St.start w;refine ZD _ _ _ _ ?_;unfold S160;refine ⟨λ jv w'=>jv = .bool (decide (i<0∨(xs.length:Int)≤i) || (match xs[i.toNat]? with | some x=>decide (kids x.op<0) | none=>true))∧St w bD [] w',?_,?_⟩
 ·refine aR (aC (λ gn=>?_) (λ gn=>?_))
  ·exact ⟨vb (by grind),hs⟩
  ·refine aJ lP (hL.ext hs.aF) (dG (aC (λ kF=>?_) (λ kF=>?_)))
   ·exact ⟨vb (by grind),hs⟩
   ·obtain ⟨q7,jl⟩:=gx (xs) (i:=(i).toNat) (by omega);refine aQ lP (hL.ext hs.aF) (by omega) jl (λ _ wc=>bT (q7).op jh wc rfl rfl (λ _ jI=>aD bL (jI) (aZ Pj hs (C163 _ _) (λ w1 he hs=>aR ?_))));exact ⟨vb (by grind),hs⟩
 ·rintro _ w2 ⟨rfl,hs⟩ fB;refine aX (λ iN=>?_) (λ iN=>?_)
  ·exact ⟨congrArg (Value.int .i64) (by grind [abF,abE]),hs.aF⟩
  ·have h23:¬ (i<0∨(xs.length:Int)≤i):=by grind
   obtain ⟨GB,FN⟩:∃ xx,xs[(i).toNat]? = some xx:=⟨_,List.getElem?_eq_getElem (by omega)⟩;have UT:0≤kids GB.op:=by grind
   have hkb:=Iq GB.op;have Ym:=US (by omega) FN UT;refine aO (by omega) ?_;refine ⟨λ m y x w1=>∃ (k:Nat) (a:Int),x = .int .i64 (k:Int)∧y = .int .i64 a∧m=(kids GB.op).toNat - k∧k≤(kids GB.op).toNat∧GA xs.length (skip k (xs.drop (i.toNat+1)))=a∧St w bD [] w1,⟨_,0,i+1,rfl,rfl,rfl,by omega,by rw [yt]; unfold GA; simp only [List.length_drop]; omega,hs⟩,?_⟩;rintro m _ _ w3 ⟨k,a,rfl,rfl,rfl,hk,gk,hs⟩ jw;have hab:=av0 (xs:=xs) (l:=xs.drop (i.toNat+1)) (k:=k) (by rw [List.length_drop]; omega);rw [gk] at hab;refine ⟨λ jv w'=>jv = .bool (decide ((k:Int)<kids GB.op∧0≤a))∧St w bD [] w',?_,?_⟩
   ·refine aQ lP (hL.ext hs.aF) (by omega) FN (λ _ D0=>bT (GB).op jh D0 rfl rfl (λ _ od=>aD bL (od) (aZ Pj hs (C163 _ _) (λ w4 he hs=>aR (aC (λ nz=>?_) (λ nz=>?_))))))
    ·refine dG ?_;exact ⟨vb (by grind),hs⟩
    ·exact ⟨vb (by grind),hs⟩
   ·rintro _ w5 ⟨rfl,hs⟩ oN;refine aC (λ tV=>?_) (λ tV=>?_)
    ·have hgo:=aoA gk (by omega);refine aZ Ph hs (C160 _ _ _ (N - 1) _ (hL.ext hs.aF) hn (by omega) (by omega)) (λ w6 he hs=>aO (by omega) ?_);exact ⟨_,by omega,k+1,_,rfl,rfl,rfl,by omega,(hgo.1).symm,hs⟩
    ·exact ⟨congrArg (Value.int .i64) (by have:=aic (xs:=xs) (l:=xs.drop (i.toNat+1)) (k:=k) (j:=(kids GB.op).toNat) (by rw [List.length_drop]; omega); rw [Ym]; by_cases h0:0≤a <;> grind),hs.aF⟩
termination_by N
decreasing_by omega
inductive Ex where
 | leaf (x:cX)
 | un (x:cX) (a:Ex)
 | bin (x:cX) (a b:Ex)
namespace Ex
def root:Ex→cX | leaf x=>x | un x _=>x | bin x _ _=>x
def gv:Ex→List Ex | leaf _=>[] | un _ a=>[a] | bin _ a b=>[a,b]
def flat:Ex→List cX | leaf x=>[x] | un x a=>x::a.flat | bin x a b=>x::(a.flat++b.flat)
def wf:Ex→Prop | leaf x=>kids x.op=0 | un x a=>kids x.op=1∧a.wf | bin x a b=>kids x.op=2∧a.wf∧b.wf
def depth:Ex→Int | leaf _=>1 | un _ a=>a.depth+1 | bin _ a b=>max a.depth b.depth+1
def size:Ex→Nat | leaf _=>1 | un _ a=>a.size+1 | bin _ a b=>a.size+b.size+1
def numOf (ns:List ByteArray) (x:cX):Int:=if x.op=2 then dP ns x.name else x.n
def steps (ns:List ByteArray):Ex→List nk
 | leaf x=>[⟨x.op,numOf ns x⟩]
 | un x a=>a.steps ns++[⟨x.op,numOf ns x⟩]
 | bin x a b=>a.steps ns++b.steps ns++[⟨x.op,numOf ns x⟩]
end Ex
theorem Ex.cO (t:Ex):t.flat.length=t.size:=by
 induction t with
 | leaf x=>rfl
 | un x a ih=>simp [Ex.flat,Ex.size,ih]
 | bin x a b vA xE=>simp [Ex.flat,Ex.size,vA,xE]
theorem Ex.GC (t:Ex):t.flat=t.root::(t.gv.map Ex.flat).flatten:=by
 cases t <;> simp [Ex.flat,Ex.root,Ex.gv]
theorem Ex.KF {t:Ex} (h:t.wf):kids t.root.op=t.gv.length:=by
 cases t with
 | leaf x=>exact h
 | un x a=>exact h.1
 | bin x a b=>exact h.1
theorem Ex.Ir {t a:Ex} (h:t.wf) (ha:a∈t.gv):a.wf∧a.size<t.size:=by
 cases t with
 | leaf x=>cases ha
 | un x b=>rw [List.mem_singleton.1 ha]; exact ⟨h.2,by simp [Ex.size]⟩
 | bin x b c=>
  rcases List.mem_cons.1 ha with rfl | ha
  ·exact ⟨h.2.1,by simp [Ex.size]; omega⟩
  ·rw [List.mem_singleton.1 ha]; exact ⟨h.2.2,by simp [Ex.size]; omega⟩
theorem Ex.zI (t:Ex):1≤t.depth∧t.depth≤t.size:=by
 induction t with
 | leaf x=>simp [Ex.depth,Ex.size]
 | un x a ih=>simp only [Ex.depth,Ex.size]; omega
 | bin x a b vA xE=>simp only [Ex.depth,Ex.size]; omega
theorem Ex.xc (ns:List ByteArray) (t:Ex):(t.steps ns).length=t.size:=by
 induction t with
 | leaf x=>rfl
 | un x a ih=>simp [Ex.steps,Ex.size,ih]
 | bin x a b vA xE=>simp [Ex.steps,Ex.size,vA,xE]; omega
theorem RU (t:Ex) (h:t.wf):∀ n r,skip (n+1) (t.flat++r)=skip n r:=by
 induction t with
 | leaf x=>
  intro n r
  show (if kids x.op<0 then none else skip (n+(kids x.op).toNat) r)=_
  rw [show kids x.op=0 from h]; rfl
 | un x a ih=>
  intro n r
  show (if kids x.op<0 then none else skip (n+(kids x.op).toNat) (a.flat++r))=_
  rw [show kids x.op=1 from h.1,if_neg (by omega)]; exact ih h.2 n r
 | bin x a b vA xE=>
  intro n r
  show (if kids x.op<0 then none else skip (n+(kids x.op).toNat) (a.flat++b.flat++r))=_
  rw [show kids x.op=2 from h.1,if_neg (by omega),List.append_assoc]
  show skip (n+1+1) _=_
  rw [vA h.2.1 (n+1),xE h.2.2 n]
theorem PW:∀ (k:Nat) (l r:List cX),l.length≤k→skip 1 l=some r→∃ t:Ex,t.wf∧l=t.flat++r
 | k,[],r,_,h=>by cases h
 | 0,x::l,r,hk,_=>by simp at hk
 | k+1,x::l,r,hk,h=>by
  have hk:l.length≤k:=by simpa using hk
  have h:(if kids x.op<0 then none else skip (0+(kids x.op).toNat) l)=some r:=h
  have hb:=Iq x.op
  split at h
  ·cases h
  ·rcases (show kids x.op=0∨kids x.op=1∨kids x.op=2 by omega) with h0 | h0 | h0
   ·rw [h0] at h
    have h:skip 0 l=some r:=h
    rw [yt] at h; cases h
    exact ⟨.leaf x,h0,rfl⟩
   ·rw [h0] at h
    obtain ⟨a,ha,rfl⟩:=PW k l r hk h
    exact ⟨.un x a,⟨h0,ha⟩,rfl⟩
   ·rw [h0] at h
    have h:skip (1+1) l=some r:=h
    rw [DX] at h
    obtain ⟨m,h1,h2⟩:=Option.bind_eq_some_iff.1 h
    obtain ⟨a,ha,rfl⟩:=PW k l m hk h1
    obtain ⟨b,hb',rfl⟩:=PW k m r (by simp at hk; omega) h2
    exact ⟨.bin x a b,⟨h0,ha,hb'⟩,by simp [Ex.flat]⟩
def Jq (xs:List cX) (i:Int) (t:Ex):Prop:=0≤i∧t.wf∧∃ r,xs.drop i.toNat=t.flat++r
theorem Jq.root {xs:List cX} {i:Int} {t:Ex} (h:Jq xs i t):xs[i.toNat]? = some t.root∧i<xs.length:=by
 obtain ⟨h0,_,r,h⟩:=h
 have:(xs.drop i.toNat)[0]? = some t.root:=by rw [h,Ex.GC]; rfl
 rw [List.getElem?_drop,Nat.add_zero] at this
 exact ⟨this,by have:=(List.getElem?_eq_some_iff.1 this).1; omega⟩
theorem Jq.end {xs:List cX} {i:Int} {t:Ex} (h:Jq xs i t):uS xs i=i+t.size∧i+t.size≤xs.length:=by
 have mz:=h.root.2
 obtain ⟨h0,hw,r,h⟩:=h
 have hl:=congrArg List.length h
 rw [List.length_drop,List.length_append,Ex.cO] at hl
 refine ⟨?_,by omega⟩
 unfold uS
 rw [if_neg (by omega),h,RU t hw 0 r,yt]
 unfold GA; simp only []; omega
theorem Jq.of {xs:List cX} {i:Int} (h:0≤uS xs i):∃ t,Jq xs i t:=by
 unfold uS at h
 split at h
 ·omega
 ·cases hs:skip 1 (xs.drop i.toNat) with
  | none=>rw [hs] at h; unfold GA at h; simp only [] at h; omega
  | some r=>
   obtain ⟨t,hw,he⟩:=PW _ _ r (Nat.le_refl _) hs
   exact ⟨t,by omega,hw,r,he⟩
def zJ (ks:List Ex) (k:Nat):Nat:=((ks.take k).map Ex.size).sum
theorem GD {ks:List Ex} {k:Nat} {a:Ex} (h:ks[k]? = some a):zJ ks (k+1)=zJ ks k+a.size:=by
 unfold zJ; rw [← gX h]; simp
theorem Jq.kid {xs:List cX} {i:Int} {t a:Ex} {k:Nat} (h:Jq xs i t) (ha:t.gv[k]? = some a):Jq xs (i+1+zJ t.gv k) a:=by
 obtain ⟨h0,hw,r,h⟩:=h
 refine ⟨by omega,(Ex.Ir hw (List.mem_of_getElem? ha)).1,?_⟩
 have hs:t.gv=t.gv.take k++a::t.gv.drop (k+1):=by
  obtain ⟨hk,he⟩:=List.getElem?_eq_some_iff.1 ha
  rw [← he,List.getElem_cons_drop,List.take_append_drop]
 have hl:(((t.gv.take k).map Ex.flat).flatten).length=zJ t.gv k:=by
  unfold zJ
  rw [List.length_flatten,List.map_map]
  congr 2
  exact funext λ x=>Ex.cO x
 have h2:xs.drop (i.toNat+1)=((t.gv.take k).map Ex.flat).flatten++(a.flat++(((t.gv.drop (k+1)).map Ex.flat).flatten++r)):=by
  rw [← List.drop_drop,h,Ex.GC t]
  show (t.gv.map Ex.flat).flatten++r=_
  conv=>lhs; rw [hs]
  simp
 refine ⟨((t.gv.drop (k+1)).map Ex.flat).flatten++r,?_⟩
 rw [show (i+1+(zJ t.gv k:Int)).toNat=i.toNat+1+zJ t.gv k from by omega,← List.drop_drop,h2,← hl,List.drop_left]
def D1 (ks:List Ex) (k:Nat):Int:=((ks.take k).map Ex.depth).foldl max 0
theorem GF {ks:List Ex} {k:Nat} {a:Ex} (h:ks[k]? = some a):D1 ks (k+1)=max (D1 ks k) a.depth:=by
 unfold D1; rw [← gX h,List.map_append,List.foldl_append]; rfl
theorem UU {ks:List Ex} {N:Int} (h0:0≤N) (h:∀ a∈ks,a.depth≤N):∀ k,0≤D1 ks k∧D1 ks k≤N
 | 0=>by simp [D1,h0]
 | k+1=>by
  have ih:=UU h0 h k
  cases hx:ks[k]? with
  | none=>
   have e:ks.take (k+1)=ks.take k:=by rw [List.take_add_one,hx]; simp
   unfold D1 at *; rw [e]; exact ih
  | some a=>rw [GF hx]; have:=h a (List.mem_of_getElem? hx); omega
theorem Ex.UW (t:Ex):t.depth=D1 t.gv t.gv.length+1:=by
 cases t with
 | leaf x=>rfl
 | un x a=>have:=a.zI; simp only [Ex.depth,Ex.gv,D1,List.length_singleton,List.take_succ_cons,List.take_zero,List.map_cons,List.map_nil,List.foldl_cons,List.foldl_nil]; omega
 | bin x a b=>have:=a.zI; simp only [Ex.depth,Ex.gv,D1,List.length_cons,List.length_nil,List.take_succ_cons,List.take_zero,List.map_cons,List.map_nil,List.foldl_cons,List.foldl_nil]; omega
def stK (ns:List ByteArray) (ks:List Ex) (k:Nat):List nk:=((ks.take k).map (Ex.steps ns)).flatten
theorem UX {ns:List ByteArray} {ks:List Ex} {k:Nat} {a:Ex} (h:ks[k]? = some a):stK ns ks (k+1)=stK ns ks k++a.steps ns:=by
 unfold stK; rw [← gX h]; simp
theorem PX {ns:List ByteArray} {ks:List Ex} {k:Nat}:(stK ns ks k).length=zJ ks k:=by
 unfold stK zJ
 rw [List.length_flatten,List.map_map]
 congr 2
 exact funext λ x=>Ex.xc ns x
open Ex (numOf) in
theorem Ex.D2 (ns:List ByteArray) (t:Ex):t.steps ns=stK ns t.gv t.gv.length++[⟨t.root.op,numOf ns t.root⟩]:=by
 cases t <;> simp [Ex.steps,Ex.gv,stK,Ex.root]
def pt:Nat→List cX→Option (Ex × List cX)
 | 0,_=>none
 | _+1,[]=>none
 | n+1,x::l=>
  if kids x.op=0 then some (.leaf x,l) else if kids x.op=1 then (match pt n l with | some p=>some (.un x p.1,p.2) | none=>none)
  else if kids x.op=2 then (match pt n l with | some p=>(match pt n p.2 with | some q=>some (.bin x p.1 q.1,q.2) | none=>none) | none=>none) else none
theorem abH (t:Ex) (h:t.wf):∀ n r,t.size≤n→pt n (t.flat++r)=some (t,r):=by
 induction t with
 | leaf x=>
  intro n r hn
  cases n with
  | zero=>simp [Ex.size] at hn
  | succ n=>show (if kids x.op=0 then _ else _)=_; rw [if_pos (show kids x.op=0 from h)]; rfl
 | un x a ih=>
  intro n r hn
  cases n with
  | zero=>simp [Ex.size] at hn
  | succ n=>
   have h1:kids x.op=1:=h.1
   show (if kids x.op=0 then _ else if kids x.op=1 then (match pt n (a.flat++r) with | some p=>some (Ex.un x p.1,p.2) | none=>none) else _)=_
   rw [if_neg (by omega),if_pos h1,ih h.2 n r (by simp [Ex.size] at hn; omega)]
 | bin x a b vA xE=>
  intro n r hn
  cases n with
  | zero=>simp [Ex.size] at hn
  | succ n=>
   have h1:kids x.op=2:=h.1
   show (if kids x.op=0 then _ else if kids x.op=1 then _ else if kids x.op=2 then (match pt n (a.flat++b.flat++r) with | some p=>(match pt n p.2 with | some q=>some (Ex.bin x p.1 q.1,q.2) | none=>none) | none=>none) else _)=_
   rw [if_neg (by omega),if_neg (by omega),if_pos h1,List.append_assoc,vA h.2.1 n _ (by simp [Ex.size] at hn; omega)]
   simp only []
   rw [xE h.2.2 n _ (by simp [Ex.size] at hn; omega)]
def yu (l:List cX):Option Ex:=match pt l.length l with | some p=>if p.2=[] then some p.1 else none | none=>none
theorem RV {t:Ex} (h:t.wf):yu t.flat=some t:=by
 unfold yu
 have:=abH t h t.flat.length [] (by rw [Ex.cO]; exact Nat.le_refl _)
 rw [List.append_nil] at this
 rw [this]; rfl
theorem Jq.zero {l:List cX} {t:Ex} (h:Jq l 0 t) (he:uS l 0=l.length):l=t.flat∧yu l=some t:=by
 have h1:=h.end
 obtain ⟨_,hw,r,h⟩:=h
 have hl:=congrArg List.length h
 rw [List.length_append,Ex.cO] at hl
 simp at hl
 have:r=[]:=List.length_eq_zero_iff.1 (by omega)
 subst this
 have h:l=t.flat:=by simpa using h
 exact ⟨h,by rw [h]; exact RV hw⟩
theorem zK:∀ n l t r,pt n l=some (t,r)→t.wf∧l=t.flat++r
 | 0,l,t,r,h=>by cases h
 | n+1,[],t,r,h=>by cases h
 | n+1,x::l,t,r,h=>by
  have h:(if kids x.op=0 then some (Ex.leaf x,l) else if kids x.op=1 then (match pt n l with | some p=>some (Ex.un x p.1,p.2) | none=>none)
   else if kids x.op=2 then (match pt n l with | some p=>(match pt n p.2 with | some q=>some (Ex.bin x p.1 q.1,q.2) | none=>none) | none=>none) else none)=some (t,r):=h
  split at h
  ·rename_i hk; cases h; exact ⟨hk,rfl⟩
  ·split at h
   ·rename_i hk
    cases ha:pt n l with
    | none=>rw [ha] at h; cases h
    | some p=>
     rw [ha] at h
     obtain ⟨a,m⟩:=p
     cases h
     obtain ⟨h1,rfl⟩:=zK n l a _ ha
     exact ⟨⟨hk,h1⟩,rfl⟩
   ·split at h
    ·rename_i hk
     cases ha:pt n l with
     | none=>rw [ha] at h; cases h
     | some p=>
      rw [ha] at h
      obtain ⟨a,m⟩:=p
      simp only [] at h
      cases hb:pt n m with
      | none=>rw [hb] at h; cases h
      | some q=>
       rw [hb] at h
       obtain ⟨b,m'⟩:=q
       cases h
       obtain ⟨h1,rfl⟩:=zK n l a _ ha
       obtain ⟨h2,rfl⟩:=zK n m b _ hb
       exact ⟨⟨hk,h1,h2⟩,by simp [Ex.flat]⟩
    ·cases h
theorem yw {l:List cX} {t:Ex} (h:yu l=some t):t.wf∧l=t.flat:=by
 unfold yu at h
 cases hp:pt l.length l with
 | none=>rw [hp] at h; cases h
 | some p=>
  rw [hp] at h
  obtain ⟨a,r⟩:=p
  simp only [] at h
  split at h
  ·rename_i hr; cases h
   obtain ⟨h1,h2⟩:=zK _ _ _ _ hp
   subst hr
   exact ⟨h1,by simpa using h2⟩
  ·cases h
theorem KG {l:List cX}:(yu l).isSome=decide (uS l 0=l.length):=by
 by_cases h:uS l 0=l.length
 ·obtain ⟨t,ht⟩:=Jq.of (xs:=l) (i:=0) (by omega)
  rw [(ht.zero h).2,decide_eq_true h]; rfl
 ·rw [decide_eq_false h]
  cases he:yu l with
  | none=>rfl
  | some t=>
   obtain ⟨h1,rfl⟩:=yw he
   exact absurd (by have:=(show Jq t.flat 0 t from ⟨by omega,h1,[],by simp⟩).end.1; rw [this,Ex.cO]; omega) h
def oO (x:cX):Bool:=decide (x.at_<0∨4000<x.at_) || decide (¬ x.op=1∧¬ x.n=0) || decide (¬ x.op=2∧¬ x.name=⟨#[]⟩) || decide (x.n<0∨4294967296<x.n) || (decide (x.op=2) && !jX x.name)
def afc (l:List cX):Int:=match yu l with | some t=>t.depth | none=>0
def jy (l:List cX):Bool:=decide (l.length≤40) && (yu l).isSome && !l.any oO && decide (afc l≤12)
def Nk (ns:List ByteArray) (l:List cX):List nk:=match yu l with | some t=>t.steps ns | none=>[]
def xY (ns:List ByteArray) (l:List cX):Int:=if jy l=false then 8 else if l.any (λ x=>decide (x.op=2) && decide (dP ns x.name<0)) then 9 else 0
def gg (ns:List ByteArray) (l:List cX):List nk:=if xY ns l=0 then Nk ns l else []
theorem Nl {l:List cX} (h:jy l=true):uS l 0=l.length:=by
 unfold jy at h
 rw [KG] at h
 grind
theorem C162 (lv:Value) (xs:List cX) (i:Int) (t:Ex) (N:Nat) (w:World) (hL:eF (λ _=>True) w lv xs) (hn:xs.length≤1048576) (hT:Jq xs i t) (hN:t.size<N):CR 162 [lv,.int .i64 i] w (λ v w'=>v = .int .i64 t.depth∧Ext w w'):=by
 obtain ⟨GB,hq,FN⟩:∃ e,e=t.root∧xs[(i).toNat]? = some e:=⟨_,rfl,hT.root.1⟩;have hri:=hT.root.2;have hie:=hT.end;have UT:=Ex.KF hT.2.1;rw [← hq] at UT;have hkb:=Iq GB.op;have hi0:=hT.1;have hs:=St.start w;refine ZF _ _ _ _ ?_;unfold S162;refine aO (by omega) ?_;refine ⟨λ m n a x w1=>∃ k:Nat,n = .int .i64 (D1 t.gv k)∧a = .int .i64 (i+1+zJ t.gv k)∧x = .int .i64 (k:Int)∧m=t.gv.length - k∧k≤t.gv.length∧St w bD [] w1,⟨_,0,rfl,congrArg (Value.int .i64) (by simp [zJ]),rfl,rfl,by omega,hs⟩,?_⟩;rintro m _ _ _ w1 ⟨k,rfl,rfl,rfl,rfl,hk,hs⟩ fB;have hdk:=UU (ks:=t.gv) (N:=(t.size:Int)) (by omega) (λ a ha=>by have:=(Ex.Ir hT.2.1 ha).2; have:=a.zI; omega) k
 refine aQ lP (hL.ext hs.aF) (by omega) FN (λ _ KC=>bT (GB).op jh KC rfl rfl (λ _ iM=>aD bL (iM) (aZ Pj hs (C163 _ _) (λ w2 he hs=>aR (aC (λ l4=>?_) (λ l4=>?_))))))
 ·obtain ⟨a,Is⟩:∃ a,t.gv[k]? = some a:=⟨_,List.getElem?_eq_getElem (by omega)⟩;have hka:=Ex.Ir hT.2.1 (List.mem_of_getElem? Is);have hAk:=hT.kid Is;have hen:=hAk.end;have hdb:=a.zI;refine aZ T3 hs (C162 _ _ _ _ (N - 1) _ (hL.ext hs.aF) hn hAk (by omega)) (λ w3 he hs=>wY (aZ Ph hs (C160 _ _ _ ((xs).length+1) _ (hL.ext hs.aF) (by omega) (by omega) (by omega)) (λ w4 he hs=>aO (by omega) ?_)));exact ⟨_,by omega,k+1,by rw [GF Is],congrArg (Value.int .i64) (by rw [hen.1,GD Is]; omega),rfl,rfl,by omega,hs⟩
 ·refine aO (by omega) ?_;exact ⟨congrArg (Value.int .i64) (by rw [t.UW,show k=t.gv.length from by omega]),hs.aF⟩
termination_by N
decreasing_by omega
theorem C105 (lv:Value) (xs:List cX) (w:World) (hL:eF (λ _=>True) w lv xs) (hn:xs.length≤1048576) (hnm:∀ x∈xs,x.name.size≤1048576):CR 105 [lv] w (λ v w'=>v = .bool (jy xs)∧Ext w w'):=by
 have hs:=St.start w;refine YX _ _ _ ?_;unfold S105;refine ⟨λ jv w'=>jv = .bool (decide (40<xs.length) || decide (¬ uS xs 0=xs.length))∧St w bD [] w',?_,?_⟩
 ·refine aJ lP (hL.ext hs.aF) (dA (aC (λ iP=>?_) (λ iP=>?_)))
  ·exact ⟨vb (by grind),hs⟩
  ·refine aZ Ph hs (C160 _ _ _ ((xs).length+1) _ (hL.ext hs.aF) (by omega) (by omega) (by omega)) (λ w1 he hs=>aJ lP (hL.ext hs.aF) (cS ?_));exact ⟨vb (by grind),hs⟩
 ·rintro _ w2 ⟨rfl,hs⟩ fB;refine aX (λ gQ=>?_) (λ gQ=>?_)
  ·refine ⟨vb ?_,hs.aF⟩;unfold jy;rw [KG]
   grind
  ·refine ⟨λ m x w1=>∃ k:Nat,x = .int .i64 (k:Int)∧m=xs.length - k∧k≤xs.length∧(∀ y∈xs.take k,oO y=false)∧St w bD [] w1,⟨_,0,rfl,rfl,Nat.zero_le _,by simp,hs⟩,?_⟩;rintro m _ w3 ⟨k,rfl,rfl,hk,fR,hs⟩ jw;refine aJ lP (hL.ext hs.aF) (aR (aC (λ gd=>?_) (λ gd=>?_)))
   ·obtain ⟨q8,ko⟩:=gx (xs) (i:=((k:Int)).toNat) (by omega);refine aQ lP (hL.ext hs.aF) (by omega) ko (λ _ pH=>aD J9 (pH) (aN hs PB (λ Cj w4 hs=>aI (x:=q8) hs J9 rfl rfl (λ w5 hs=>?_))));refine ⟨λ jv w'=>jv = .bool (oO q8)∧St w bD [] w',?_,?_⟩
    ·refine aA Dw (aB bL hs.hb rfl (aR (aC (λ gh=>?_) (λ gh=>?_))))
     ·exact ⟨vb (by unfold oO; grind),hs.drop⟩
     ·refine aA Dw (aB bL hs.hb rfl (dA (aC (λ lJ=>?_) (λ lJ=>?_))))
      ·exact ⟨vb (by unfold oO; grind),hs.drop⟩
      ·refine aA jh (aB bL hs.hb rfl (cS (aC (λ lh=>?_) (λ lh=>?_))))
       ·refine aA mU (aB bL hs.hb rfl (cS (aC (λ ql=>?_) (λ ql=>?_))))
        ·exact ⟨vb (by unfold oO; grind),hs.drop⟩
        ·refine aA jh (aB bL hs.hb rfl (cS (aC (λ sg=>?_) (λ sg=>?_))))
         ·refine aA kY (aB j4 hs.hb rfl (oL (aC (λ pI=>?_) (λ pI=>?_))))
          ·exact ⟨vb (by unfold oO; grind),hs.drop⟩
          ·refine aA mU (aB bL hs.hb rfl (aR (aC (λ UY=>?_) (λ UY=>?_))))
           ·exact ⟨vb (by unfold oO; grind),hs.drop⟩
           ·refine aA mU (aB bL hs.hb rfl (dA (aC (λ kp=>?_) (λ kp=>?_))))
            ·exact ⟨vb (by unfold oO; grind),hs.drop⟩
            ·refine aA jh (aB bL hs.hb rfl (aH (aC (λ KH=>?_) (λ KH=>?_))))
             ·refine aA kY (aB j4 hs.hb rfl (aZ tA hs (C161 _ _ (hnm _ (List.mem_of_getElem? ko))) (λ w6 he hs=>bZ ?_)));exact ⟨vb (by unfold oO; grind),hs.drop⟩
             ·exact ⟨vb (by unfold oO; grind),hs.drop⟩
         ·refine aA mU (aB bL hs.hb rfl (aR (aC (λ It=>?_) (λ It=>?_))))
          ·exact ⟨vb (by unfold oO; grind),hs.drop⟩
          ·refine aA mU (aB bL hs.hb rfl (dA (aC (λ abJ=>?_) (λ abJ=>?_))))
           ·exact ⟨vb (by unfold oO; grind),hs.drop⟩
           ·refine aA jh (aB bL hs.hb rfl (aH (aC (λ abK=>?_) (λ abK=>?_))))
            ·refine aA kY (aB j4 hs.hb rfl (aZ tA hs (C161 _ _ (hnm _ (List.mem_of_getElem? ko))) (λ w7 he hs=>bZ ?_)));exact ⟨vb (by unfold oO; grind),hs.drop⟩
            ·exact ⟨vb (by unfold oO; grind),hs.drop⟩
       ·refine aA jh (aB bL hs.hb rfl (cS (aC (λ abL=>?_) (λ abL=>?_))))
        ·refine aA kY (aB j4 hs.hb rfl (oL (aC (λ abM=>?_) (λ abM=>?_))))
         ·exact ⟨vb (by unfold oO; grind),hs.drop⟩
         ·refine aA mU (aB bL hs.hb rfl (aR (aC (λ abN=>?_) (λ abN=>?_))))
          ·exact ⟨vb (by unfold oO; grind),hs.drop⟩
          ·refine aA mU (aB bL hs.hb rfl (dA (aC (λ abO=>?_) (λ abO=>?_))))
           ·exact ⟨vb (by unfold oO; grind),hs.drop⟩
           ·refine aA jh (aB bL hs.hb rfl (aH (aC (λ abP=>?_) (λ abP=>?_))))
            ·refine aA kY (aB j4 hs.hb rfl (aZ tA hs (C161 _ _ (hnm _ (List.mem_of_getElem? ko))) (λ w8 he hs=>bZ ?_)));exact ⟨vb (by unfold oO; grind),hs.drop⟩
            ·exact ⟨vb (by unfold oO; grind),hs.drop⟩
        ·refine aA mU (aB bL hs.hb rfl (aR (aC (λ abQ=>?_) (λ abQ=>?_))))
         ·exact ⟨vb (by unfold oO; grind),hs.drop⟩
         ·refine aA mU (aB bL hs.hb rfl (dA (aC (λ abR=>?_) (λ abR=>?_))))
          ·exact ⟨vb (by unfold oO; grind),hs.drop⟩
          ·refine aA jh (aB bL hs.hb rfl (aH (aC (λ abS=>?_) (λ abS=>?_))))
           ·refine aA kY (aB j4 hs.hb rfl (aZ tA hs (C161 _ _ (hnm _ (List.mem_of_getElem? ko))) (λ w9 he hs=>bZ ?_)));exact ⟨vb (by unfold oO; grind),hs.drop⟩
           ·exact ⟨vb (by unfold oO; grind),hs.drop⟩
    ·rintro _ pP ⟨rfl,hs⟩ oN;refine aX (λ KI=>?_) (λ KI=>?_)
     ·refine ⟨vb ?_,hs.aF⟩;unfold jy;rw [jx ko KI]; simp
     ·refine aO (by omega) ?_;exact ⟨_,by omega,k+1,rfl,rfl,by omega,eD fR ko KI,hs⟩
   ·have PY:uS xs 0=xs.length:=by grind
    have h40:xs.length≤40:=by grind
    obtain ⟨t,ht⟩:=Jq.of (xs:=xs) (i:=0) (by omega);have hz:=ht.zero PY;refine aZ T3 hs (C162 _ _ _ t (t.size+1) _ (hL.ext hs.aF) hn ht (by omega)) (λ sQ he hs=>j3 ?_);rw [List.take_of_length_le (by omega)] at fR;refine ⟨vb ?_,hs.aF⟩;unfold jy afc;rw [iF fR,hz.2];simp [h40]
theorem C106 (lv nv:Value) (xs:List cX) (ns:List ByteArray) (i:Int) (t:Ex) (N:Nat) (w:World) (hL:eF (λ _=>True) w lv xs) (hN:eF (λ _=>True) w nv ns) (hn:xs.length≤1048576) (hns:ns.length≤1048576) (hT:Jq xs i t) (hNt:t.size<N):CR 106 [lv,.int .i64 i,nv] w (λ v w'=>lW (bK v (t.steps ns)) w w'):=by
 obtain ⟨GB,hq,FN⟩:∃ e,e=t.root∧xs[(i).toNat]? = some e:=⟨_,rfl,hT.root.1⟩;have hri:=hT.root.2;have hie:=hT.end;have UT:=Ex.KF hT.2.1;rw [← hq] at UT;have hkb:=Iq GB.op;have hi0:=hT.1;have hs:=St.start w;refine YY _ _ _ _ _ ?_;unfold S106;refine bW (([]:List nk)) hs vz rfl rfl (eJ rfl) (λ ae8 w1 hs=>aO (by omega) ?_);refine ⟨λ m RA a x w1=>∃ k:Nat,a = .int .i64 (i+1+zJ t.gv k)∧x = .int .i64 (k:Int)∧m=t.gv.length - k∧k≤t.gv.length∧St w bD [bK RA (stK ns t.gv k)] w1,⟨_,0,congrArg (Value.int .i64) (by simp [zJ]),rfl,rfl,by omega,hs⟩,?_⟩;rintro m RA _ _ w2 ⟨k,rfl,rfl,rfl,hk,hs⟩ fB
 refine aQ lP (hL.ext hs.aF) (by omega) FN (λ _ KD=>bT (GB).op jh KD rfl rfl (λ _ wc=>aD bL (wc) (aZ Pj hs (C163 _ _) (λ w3 he hs=>aR (aC (λ gr=>?_) (λ gr=>?_))))))
 ·obtain ⟨a,Is⟩:∃ a,t.gv[k]? = some a:=⟨_,List.getElem?_eq_getElem (by omega)⟩;have hka:=Ex.Ir hT.2.1 (List.mem_of_getElem? Is);have hAk:=hT.kid Is;have hen:=hAk.end;have hdb:=a.zI;have hsl:=PX (ns:=ns) (ks:=t.gv) (k:=k);have hal:=Ex.xc ns a;refine dB aen hs (C106 _ _ _ _ _ _ (N - 1) _ (hL.ext hs.aF) (hN.ext hs.aF) hn hns hAk (by omega)) (λ x28 w4 bY hs=>?_);have aid:=(hs).fI;refine cN hs.p1 vz aid (by omega) (by decide) (λ afe w5 hs=>have hs:=hs.p1.drop;aZ Ph hs (C160 _ _ _ ((xs).length+1) _ (hL.ext hs.aF) (by omega) (by omega) (by omega)) (λ w6 he hs=>aO (by omega) ?_));exact ⟨_,by omega,k+1,congrArg (Value.int .i64) (by rw [hen.1,GD Is]; omega),rfl,rfl,by omega,by rw [UX Is]; exact hs⟩
 ·have hsl:=PX (ns:=ns) (ks:=t.gv) (k:=k);refine aQ lP (hL.ext hs.aF) (by omega) FN (λ _ zL=>bT (GB).n mU zL rfl rfl (λ _ tW=>aD bL (tW) ?_));refine ⟨λ jv w'=>jv = .int .i64 (Ex.numOf ns GB)∧St w bD [bK RA (stK ns t.gv k)] w',?_,?_⟩
  ·refine aQ lP (hL.ext hs.aF) (by omega) FN (λ _ U1=>bT (GB).op jh U1 rfl rfl (λ _ D3=>aD bL (D3) (aH (aC (λ tX=>?_) (λ tX=>?_)))))
   ·refine aQ lP (hL.ext hs.aF) (by omega) FN (λ _ D4=>bT (GB).name kY D4 rfl rfl (λ _ U3=>aD j4 (U3) (aZ AY hs (C98 _ ns _ _ (hN.ext hs.aF) (by omega)) (λ w7 he hs=>?_))));exact ⟨congrArg (Value.int .i64) (by grind [Ex.numOf]),hs⟩
   ·exact ⟨congrArg (Value.int .i64) (by grind [Ex.numOf]),hs⟩
  ·rintro _ w8 ⟨rfl,hs⟩ jw;refine aQ lP (hL.ext hs.aF) (by omega) FN (λ _ U4=>bT (GB).op jh U4 rfl rfl (λ _ DW=>aD bL (DW) (pop (M6 _ _) (bW ([(⟨(GB).op,(Ex.numOf ns GB)⟩:nk)]) hs vz rfl rfl (eJ rfl) (λ s_x59 w9 hs=>?_)))));have aie:=(hs).fI;refine cN hs.p1 vz aie (by rw [hsl,List.length_singleton]; have:(t.steps ns).length=t.size:=Ex.xc ns t; rw [Ex.D2,List.length_append,List.length_singleton,← show k=t.gv.length from by omega] at this; omega) (by decide) (λ aoD pP hs=>?_);have hs:=hs.p1.drop;rw [Ex.D2,← show k=t.gv.length from by omega,← hq]
   exact hs.fresh
termination_by N
decreasing_by omega
theorem C45 (lv nv:Value) (xs:List cX) (ns:List ByteArray) (w:World) (hL:eF (λ _=>True) w lv xs) (hN:eF (λ _=>True) w nv ns) (hn:xs.length≤1048576) (hns:ns.length≤1048576) (hnm:∀ x∈xs,x.name.size≤1048576):CR 45 [lv,nv] w (λ v w'=>∃ s,v = .tuple #[s,.int .i64 (xY ns xs)]∧lW (bK s (gg ns xs)) w w'):=by
 have hs:=St.start w;refine ag9 _ _ _ _ ?_;unfold S45;refine aZ JS hs (C105 _ _ _ (hL.ext hs.aF) hn hnm) (λ w1 he hs=>bZ (aX (λ gu=>?_) (λ gu=>?_)))
 ·have h8:xY ns xs=8:=by unfold xY; rw [if_pos (by simpa using gu)]
  refine ⟨_,by rw [h8],?_⟩;unfold gg;rw [h8,if_neg (by decide)];exact (hs.fX (α:=nk)).fresh
 ·refine ⟨λ m x w1=>∃ k:Nat,x = .int .i64 (k:Int)∧m=xs.length - k∧k≤xs.length∧(∀ y∈xs.take k,(decide (y.op=2) && decide (dP ns y.name<0))=false)∧St w bD [] w1,⟨_,0,rfl,rfl,Nat.zero_le _,by simp,hs⟩,?_⟩;rintro m _ w2 ⟨k,rfl,rfl,hk,fR,hs⟩ fB;refine aJ lP (hL.ext hs.aF) (aR (aC (λ kF=>?_) (λ kF=>?_)))
  ·obtain ⟨q7,jl⟩:∃ xx,(xs)[((k:Int)).toNat]? = some xx:=⟨_,List.getElem?_eq_getElem (by omega)⟩;refine ⟨λ jv w'=>jv = .bool (decide (q7.op=2) && decide (dP ns q7.name<0))∧St w bD [] w',?_,?_⟩
   ·refine aQ lP (hL.ext hs.aF) (by omega) jl (λ _ wc=>bT (q7).op jh wc rfl rfl (λ _ jI=>aD bL (jI) (aH (aC (λ gr=>?_) (λ gr=>?_)))))
    ·refine aQ lP (hL.ext hs.aF) (by omega) jl (λ _ q9=>bT (q7).name kY q9 rfl rfl (λ _ we=>aD j4 (we) (aZ AY hs (C98 _ ns _ _ (hN.ext hs.aF) (by omega)) (λ w3 he hs=>aR ?_))));exact ⟨vb (by grind),hs⟩
    ·exact ⟨vb (by grind),hs⟩
   ·rintro _ w4 ⟨rfl,hs⟩ jw;refine aX (λ lJ=>?_) (λ lJ=>?_)
    ·have h9:xY ns xs=9:=by unfold xY; rw [if_neg (by simpa using gu),if_pos (jx jl lJ)]
     refine ⟨_,by rw [h9],?_⟩;unfold gg;rw [h9,if_neg (by decide)];exact (hs.fX (α:=nk)).fresh
    ·refine aO (by omega) ?_;exact ⟨_,by omega,k+1,rfl,rfl,by omega,eD fR jl lJ,hs⟩
  ·have hre:jy xs=true:=by simpa using gu
   have PY:=Nl hre;obtain ⟨t,ht⟩:=Jq.of (xs:=xs) (i:=0) (by omega);have hz:=ht.zero PY;refine dB aen hs (C106 _ _ _ _ _ t (t.size+1) _ (hL.ext hs.aF) (hN.ext hs.aF) hn hns ht (by omega)) (λ x34 w5 bY hs=>?_);rw [List.take_of_length_le (by omega)] at fR;have h0:xY ns xs=0:=by unfold xY; rw [if_neg (by simpa using gu),if_neg (by rw [iF fR]; simp)]
   refine ⟨x34,by rw [h0],?_⟩;unfold gg Nk;rw [if_pos h0,hz.2];exact hs.fresh
inductive Bk where
 | nil
 | cons (x:cE) (a b r:Bk)
namespace Bk
def flat:Bk→List cE | nil=>[] | cons x a b r=>x::(a.flat++(b.flat++r.flat))
def len:Bk→Nat | nil=>0 | cons _ a b r=>a.len+b.len+r.len+1
def str:Bk→Prop | nil=>True | cons x a b r=>x.body=a.len∧x.fE=b.len∧a.len≤40∧b.len≤40∧a.str∧b.str∧r.str
def BS (x:cE) (loops:Int):Int:=if x.kind=12 then loops+1 else loops
def D5 (x:cE):Bool:=decide (x.kind=11∨x.kind=12)
def yV (x:cE) (loops:Int):Bool:=decide ((x.body≤0∨x.kind=11∨x.kind=12)∧(x.fE≤0∨x.kind=11)∧(¬ x.kind=13∨¬ loops=0))
def ok:Bk→Int→Bool | nil,_=>true | cons x a b r,n=>yV x n && a.ok (BS x n) && b.ok (BS x n) && r.ok n
def depth:Bk→Int | nil=>0 | cons x a b r=>if D5 x then max (max (1+a.depth) (1+b.depth)) r.depth else r.depth
end Bk
theorem Bk.cO (t:Bk):t.flat.length=t.len:=by
 induction t with
 | nil=>rfl
 | cons x a b r vA xE GG=>simp only [Bk.flat,Bk.len,List.length_cons,List.length_append,vA,xE,GG]; omega
theorem Bk.re (t:Bk):0≤t.depth∧t.depth≤t.len:=by
 induction t with
 | nil=>simp [Bk.depth,Bk.len]
 | cons x a b r vA xE GG=>
  unfold Bk.depth Bk.len
  split <;> omega
def Tj:Nat→List cE→Option Bk
 | _,[]=>some .nil
 | 0,_::_=>none
 | n+1,x::l=>
  if 0≤x.body∧0≤x.fE∧x.body≤40∧x.fE≤40∧x.body+x.fE≤l.length then
   match Tj n (l.take x.body.toNat),Tj n ((l.drop x.body.toNat).take x.fE.toNat),Tj n (l.drop (x.body.toNat+x.fE.toNat)) with
   | some a,some b,some r=>some (.cons x a b r)
   | _,_,_=>none
  else none
theorem xd:∀ n l t,Tj n l=some t→l=t.flat∧t.str
 | _,[],t,h=>by
  have h:some Bk.nil=some t:=by unfold Tj at h; exact h
  cases h; exact ⟨rfl,trivial⟩
 | 0,x::l,t,h=>by cases h
 | n+1,x::l,t,h=>by
  unfold Tj at h
  split at h
  ·rename_i hb
   obtain ⟨h1,h2,h3,h4,h5⟩:=hb
   cases ha:Tj n (l.take x.body.toNat) with
   | none=>rw [ha] at h; cases h
   | some a=>
    cases hb:Tj n ((l.drop x.body.toNat).take x.fE.toNat) with
    | none=>rw [ha,hb] at h; cases h
    | some b=>
     cases hr:Tj n (l.drop (x.body.toNat+x.fE.toNat)) with
     | none=>rw [ha,hb,hr] at h; cases h
     | some r=>
      rw [ha,hb,hr] at h
      cases h
      obtain ⟨a1,a2⟩:=xd n _ _ ha
      obtain ⟨b1,b2⟩:=xd n _ _ hb
      obtain ⟨r1,r2⟩:=xd n _ _ hr
      have la:=congrArg List.length a1
      have lb:=congrArg List.length b1
      rw [Bk.cO,List.length_take] at la
      rw [Bk.cO,List.length_take,List.length_drop] at lb
      refine ⟨?_,by omega,by omega,by omega,by omega,a2,b2,r2⟩
      unfold Bk.flat
      rw [← a1,← b1,← r1,← List.drop_drop,List.take_append_drop,List.take_append_drop]
  ·cases h
theorem U5 (t:Bk):t.str→∀ n,t.len≤n→Tj n t.flat=some t:=by
 induction t with
 | nil=>intro _ n _; cases n <;> rfl
 | cons x a b r vA xE GG=>
  intro h n hn
  obtain ⟨h1,h2,h3,h4,ha,hb,hr⟩:=h
  cases n with
  | zero=>simp [Bk.len] at hn
  | succ n=>
   have hn:a.len+b.len+r.len≤n:=by simp [Bk.len] at hn; omega
   have la:=a.cO
   have lb:=b.cO
   unfold Bk.flat Tj
   rw [if_pos ⟨by omega,by omega,by omega,by omega,by simp [la,lb]; omega⟩,show x.body.toNat=a.flat.length from by omega,List.take_left,List.drop_left,show x.fE.toNat=b.flat.length from by omega,List.take_left,← List.drop_drop,List.drop_left,List.drop_left,
    vA ha n (by omega),xE hb n (by omega),GG hr n (by omega)]
def oP (l:List cE):Option Bk:=Tj l.length l
theorem nq {l:List cE} {t:Bk} (h:oP l=some t):l=t.flat∧t.str:=xd _ _ _ h
theorem oQ {t:Bk} (h:t.str):oP t.flat=some t:=U5 t h _ (by rw [Bk.cO]; exact Nat.le_refl _)
def gB (l:List cE) (loops:Int):Int:=match oP l with | some t=>if t.ok loops then t.depth else -1 | none=>-1
theorem GH (loops:Int):gB [] loops=0:=rfl
theorem CG (l:List cE) (loops:Int) : -1≤gB l loops∧gB l loops≤l.length:=by
 unfold gB
 cases h:oP l with
 | none=>simp only []; omega
 | some t=>
  obtain ⟨rfl,_⟩:=nq h
  have:=t.re
  simp only [Bk.cO]
  split <;> omega
def zM (x:cE) (l:List cE):Prop:=0≤x.body∧0≤x.fE∧x.body≤40∧x.fE≤40∧x.body+x.fE≤l.length
theorem RW {x:cE} {l:List cE} {loops:Int} (h:¬ (zM x l∧Bk.yV x loops=true)):gB (x::l) loops = -1:=by
 unfold gB
 cases hb:oP (x::l) with
 | none=>rfl
 | some t=>
  obtain ⟨he,hs⟩:=nq hb
  cases t with
  | nil=>cases he
  | cons y a b r=>
   obtain ⟨rfl,rfl⟩:=List.cons.inj he
   obtain ⟨h1,h2,h3,h4,_⟩:=hs
   have:Bk.yV x loops=false:=by
    cases hk:Bk.yV x loops with
    | false=>rfl
    | true=>exact absurd ⟨⟨by omega,by omega,by omega,by omega,by simp [Bk.cO]; omega⟩,hk⟩ h
   have h:(Bk.cons x a b r).ok loops=false:=by unfold Bk.ok; rw [this]; rfl
   simp only [h]; rfl
theorem D6 {x:cE} {l:List cE} {loops:Int} (h:zM x l) (ho:Bk.yV x loops=true) :
  gB (x::l) loops=(let A:=gB (l.take x.body.toNat) (Bk.BS x loops); let B:=gB ((l.drop x.body.toNat).take x.fE.toNat) (Bk.BS x loops); let R:=gB (l.drop (x.body.toNat+x.fE.toNat)) loops
   if A<0∨B<0∨R<0 then -1 else if Bk.D5 x then max (max (1+A) (1+B)) R else R):=by
 obtain ⟨h1,h2,h3,h4,h5⟩:=h
 have e:l=l.take x.body.toNat++((l.drop x.body.toNat).take x.fE.toNat++l.drop (x.body.toNat+x.fE.toNat)):=by
  rw [← List.drop_drop,List.take_append_drop,List.take_append_drop]
 have la:(l.take x.body.toNat).length=x.body.toNat:=by rw [List.length_take]; omega
 have lb:((l.drop x.body.toNat).take x.fE.toNat).length=x.fE.toNat:=by rw [List.length_take,List.length_drop]; omega
 simp only []
 have key:∀ t,oP (x::l)=some t→∃ a b r,t = .cons x a b r∧oP (l.take x.body.toNat)=some a∧oP ((l.drop x.body.toNat).take x.fE.toNat)=some b∧oP (l.drop (x.body.toNat+x.fE.toNat))=some r:=by
  intro t ht
  obtain ⟨he,hs⟩:=nq ht
  cases t with
  | nil=>cases he
  | cons y a b r=>
   obtain ⟨rfl,hl⟩:=List.cons.inj he
   obtain ⟨g1,g2,_,_,ha,hb,hr⟩:=hs
   have q1:x.body.toNat=a.flat.length:=by rw [Bk.cO]; omega
   have q2:x.fE.toNat=b.flat.length:=by rw [Bk.cO]; omega
   refine ⟨a,b,r,rfl,?_,?_,?_⟩
   ·rw [hl,q1,List.take_left]; exact oQ ha
   ·rw [hl,q1,q2,List.drop_left,List.take_left]; exact oQ hb
   ·rw [hl,← List.drop_drop,q1,q2,List.drop_left,List.drop_left]; exact oQ hr
 cases ha:oP (l.take x.body.toNat) with
 | none=>
  have:oP (x::l)=none:=by
   cases hh:oP (x::l) with
   | none=>rfl
   | some t=>obtain ⟨a,b,r,_,q,_⟩:=key t hh; rw [ha] at q; cases q
  unfold gB; rw [this,ha]; simp
 | some a=>
  cases hb:oP ((l.drop x.body.toNat).take x.fE.toNat) with
  | none=>
   have:oP (x::l)=none:=by
    cases hh:oP (x::l) with
    | none=>rfl
    | some t=>obtain ⟨a,b,r,_,_,q,_⟩:=key t hh; rw [hb] at q; cases q
   unfold gB; rw [this,hb]; simp
  | some b=>
   cases hr:oP (l.drop (x.body.toNat+x.fE.toNat)) with
   | none=>
    have:oP (x::l)=none:=by
     cases hh:oP (x::l) with
     | none=>rfl
     | some t=>obtain ⟨a,b,r,_,_,_,q⟩:=key t hh; rw [hr] at q; cases q
    unfold gB; rw [this,hr]; simp
   | some r=>
    obtain ⟨a1,a2⟩:=nq ha
    obtain ⟨b1,b2⟩:=nq hb
    obtain ⟨r1,r2⟩:=nq hr
    have hl:x::l=(Bk.cons x a b r).flat:=by unfold Bk.flat; rw [← a1,← b1,← r1,← e]
    rw [a1,Bk.cO] at la
    rw [b1,Bk.cO] at lb
    have:oP (x::l)=some (.cons x a b r):=by rw [hl]; exact oQ ⟨by omega,by omega,by omega,by omega,a2,b2,r2⟩
    have na:=a.re
    have nb:=b.re
    have nr:=r.re
    unfold gB
    rw [this,ha,hb,hr]
    simp only [Bk.ok,ho,Bool.true_and]
    cases h1:a.ok (Bk.BS x loops) <;> cases h2:b.ok (Bk.BS x loops) <;> cases h3:r.ok loops <;> simp [Bk.depth]
    split <;> omega
def wg (n d:Int):Int:=if d<0 then -1 else max n d
theorem U6 {xs l:List cE} {x:cE} {loops n:Int} (h:gB xs loops=wg n (gB (x::l) loops)) (hb:¬ (zM x l∧Bk.yV x loops=true)):gB xs loops = -1:=by
 rw [h,RW hb]; rfl
theorem aif {xs l:List cE} {x:cE} {loops n:Int} (h:gB xs loops=wg n (gB (x::l) loops)) (hs:zM x l) (ho:Bk.yV x loops=true) (hb:Bk.D5 x=true) (A B:Int)
  (hA:A=gB (l.take x.body.toNat) (Bk.BS x loops)) (hB:B=gB ((l.drop x.body.toNat).take x.fE.toNat) (Bk.BS x loops)) :
  (A<0∨B<0→gB xs loops = -1)∧(¬ (A<0∨B<0)→gB xs loops=wg (max (max n (1+A)) (1+B)) (gB (l.drop (x.body.toNat+x.fE.toNat)) loops)):=by
 have hR:=CG (l.drop (x.body.toNat+x.fE.toNat)) loops
 rw [h,D6 hs ho]
 simp only [← hA,← hB,hb,if_true]
 unfold wg
 constructor <;> intro h <;> repeat' split
 all_goals omega
theorem aoE {xs l:List cE} {x:cE} {loops n:Int} (h:gB xs loops=wg n (gB (x::l) loops)) (hs:zM x l) (ho:Bk.yV x loops=true) (hb:Bk.D5 x=false) :
  gB xs loops=wg n (gB (l.drop (x.body.toNat+x.fE.toNat)) loops):=by
 have h0:x.body=0∧x.fE=0:=by
  unfold Bk.yV at ho
  unfold Bk.D5 at hb
  obtain ⟨h1,h2,_⟩:=hs
  have ho:=of_decide_eq_true ho
  have hb:=of_decide_eq_false hb
  omega
 rw [h,D6 hs ho,h0.1,h0.2]
 have e1:l.take (Int.toNat 0)=[]:=rfl
 have e2:(l.drop (Int.toNat 0)).take (Int.toNat 0)=[]:=rfl
 simp only [hb,e1,e2,GH]
 unfold wg
 repeat' split
 all_goals first | omega | simp_all
theorem drop_cons {α:Type} {xs:List α} {k:Nat} {x:α} (h:xs[k]? = some x):xs.drop k=x::xs.drop (k+1):=by
 obtain ⟨h1,h2⟩:=List.getElem?_eq_some_iff.1 h
 rw [List.drop_eq_getElem_cons h1,h2]
theorem D7 {α:Type} (xs:List α) {a b c n:Nat} (h:b=a+n) (hc:c=a):(xs.take b).drop c=(xs.drop a).take n:=by
 subst h hc; rw [List.drop_take,Nat.add_sub_cancel_left]
def abT:List ByteArray:=[⟨#[]⟩,⟨#[114,101]⟩,⟨#[114,110]⟩,⟨#[110,101]⟩,⟨#[114,110,101,102]⟩,⟨#[110]⟩,⟨#[110]⟩,⟨#[]⟩,⟨#[]⟩,⟨#[110]⟩,⟨#[110]⟩,⟨#[101,98]⟩,⟨#[107,98]⟩,⟨#[]⟩,⟨#[101]⟩]
def j1 (k:Int):ByteArray:=if k<1∨14<k then ⟨#[]⟩ else abT.getD k.toNat ⟨#[]⟩
def en (s:ByteArray) (c:Int):Bool:=(lf s).any λ b=>decide ((b.toNat:Int)=c)
def rf (x:cE):Bool:=
 !(decide (x.kind<1) || decide (14<x.kind) || decide (x.at_<0) || decide (4000<x.at_)) &&
 !((en (j1 x.kind) 114 != jX x.gJ) || (!en (j1 x.kind) 114 && decide (¬ x.gJ=⟨#[]⟩)) || (en (j1 x.kind) 110 != jX x.name) || (!en (j1 x.kind) 110 && decide (¬ x.name=⟨#[]⟩))) &&
 !((en (j1 x.kind) 101 != jy x.e) || (!en (j1 x.kind) 101 && decide (0<x.e.length)) || (en (j1 x.kind) 102 != jy x.f) || (!en (j1 x.kind) 102 && decide (0<x.f.length))) &&
 (if en (j1 x.kind) 107=true then decide (1≤x.n∧x.n≤8) else decide (x.n=0))
def uT (l:List cE):Bool:=decide (l.length≤40) && !l.any (λ x=>!rf x) && decide (0≤gB l 0∧gB l 0≤12)
def uU (n:Int):Bool:=decide (0≤n∧n≤4000)
def nd (KJ:Int) (c:dF):Bool:=!jX c.name || decide (c.n<0) || decide (KJ<c.n) || !uU c.at_
def sR (KJ:Int) (l:List dF):Bool:=!l.any (nd KJ)
def uV (nb:Bool) (t:dR):Bool:=(nb != jX t.name) || (!nb && decide (¬ t.name=⟨#[]⟩)) || !uU t.at_ || !uT t.body
def wh (nb:Bool) (t:dR):Bool:=uV nb t || t.aK.any (λ s=>!jX s)
def oe (nb:Bool) (l:List dR):Bool:=!l.any (wh nb)
def xe (l:List dF):Bool:=decide ((l.length:Int)=0) || !sR 4294967296 l
def tY (c:ju):Bool:=!uU c.at_ || !jy c.e
def l5 (p:cU):Bool:=!p.lines.any xe && !p.cC.any tY && (sR 4294967296 p.jP && sR 0 p.locks && oe true p.threads && oe false p.recover && decide (p.recover.length≤1))
def SzS (x:cE):Prop:=x.gJ.size≤1048576∧x.name.size≤1048576∧x.e.length≤1048576∧x.f.length≤1048576∧(∀ y∈x.e,y.name.size≤1048576)∧(∀ y∈x.f,y.name.size≤1048576)
def SzT (t:dR):Prop:=t.name.size≤1048576∧(∀ s∈t.aK,s.size≤1048576)∧(∀ x∈t.body,SzS x)
structure PZ (p:cU):Prop extends PS p where
 zl:∀ l∈p.lines,∀ c∈l,c.name.size≤1048576
 zv:∀ c∈p.jP,c.name.size≤1048576
 zk:∀ c∈p.locks,c.name.size≤1048576
 zt:∀ t∈p.threads,SzT t
 zr:∀ t∈p.recover,SzT t
 zc:∀ c∈p.cC,c.e.length≤1048576∧∀ y∈c.e,y.name.size≤1048576
theorem D8 (k:Int):(j1 k).size≤1048576:=by
 unfold j1
 split
 ·decide
 ·rename_i h
  obtain rfl | rfl | rfl | rfl | rfl | rfl | rfl | rfl | rfl | rfl | rfl | rfl | rfl | rfl:k=1∨k=2∨k=3∨k=4∨k=5∨k=6∨k=7∨k=8∨k=9∨k=10∨k=11∨k=12∨k=13∨k=14:=by omega
  all_goals decide
theorem C251 (k:Int) (w:World):CR 251 [.int .i64 k] w (λ v w'=>v = .string (j1 k)∧Ext w w'):=by
 have hs:=St.start w;refine aaY _ _ _ ?_;unfold S251;refine ⟨λ jv w'=>jv = .bool (decide (k<1∨14<k))∧w=w',?_,?_⟩
 ·refine aR (aC (λ pG=>?_) (λ pG=>?_))
  ·exact ⟨Rx (by omega),rfl⟩
  ·refine dA ?_;exact ⟨xw (by omega),rfl⟩
 ·rintro _ w1 ⟨rfl,hw⟩ fB;subst hw;refine aC (λ gn=>?_) (λ gn=>?_)
  ·refine ⟨?_,hs.aF⟩;unfold j1;rw [if_pos gn]
  ·refine bW (abT) hs mS rfl rfl (eJ rfl) (λ aoF w2 hs=>?_);have KE:abT.length=15:=rfl;obtain ⟨aff,wi⟩:=gx (abT) (i:=(k).toNat) (by omega);refine dT hs mS (by omega) (by omega) (λ _ KK=>gj hs j4 KK wi ?_);refine ⟨?_,hs.aF⟩;unfold j1;rw [if_neg gn,List.getD_eq_getElem?_getD,wi]; rfl
theorem C252 (s:ByteArray) (c:Int) (w:World) (hn:s.size≤1048576):CR 252 [.string s,.int .u8 c] w (λ v w'=>v = .bool (en s c)∧Ext w w'):=by
 have hs:=St.start w;refine aaZ _ _ _ _ ?_;unfold S252;refine ⟨λ m x w1=>∃ k:Nat,x = .int .i64 (k:Int)∧m=(lf s).length - k∧k≤(lf s).length∧(∀ y∈(lf s).take k,decide ((y.toNat:Int)=c)=false)∧St w bD [] w1,⟨_,0,rfl,rfl,Nat.zero_le _,by simp,hs⟩,?_⟩;rintro m _ w1 ⟨k,rfl,rfl,hk,fR,hs⟩ fB;rw [dZ] at hk;have yU:=dZ s;refine gb gH (aR (aC (λ gu=>?_) (λ gu=>?_)))
 ·obtain ⟨jk,dD⟩:∃ xx,(lf (s))[((k:Int)).toNat]? = some xx:=⟨_,List.getElem?_eq_getElem (by rw [dZ]; omega)⟩;refine lG gH (by omega) dD (nZ (aC (λ eB=>?_) (λ eB=>?_)))
  ·exact ⟨vb (jx dD (decide_eq_true eB)).symm,hs.aF⟩
  ·refine aO (by omega) ?_;exact ⟨_,by omega,k+1,rfl,rfl,by omega,eD fR dD (decide_eq_false eB),hs⟩
 ·rw [List.take_of_length_le (by omega)] at fR;exact ⟨vb (iF fR).symm,hs.aF⟩
theorem C230 (x:cE) (xv:bX) (w:World) (hx:cA.dr w xv x) (hz:SzS x):CR 230 [Flat.val xv] w (λ v w'=>v = .bool (rf x)∧Ext w w'):=by
 obtain ⟨zN,zO,rfl,KL,GI⟩:=hx;have hs:=St.start w;refine aaC _ _ _ ?_;unfold S230;refine dE hs (λ U7 w1 hs=>?_);refine ⟨λ jv w'=>jv = .bool (decide (x.kind<1) || decide (14<x.kind) || decide (x.at_<0) || decide (4000<x.at_))∧St w bD [cD U7 (Flat.enc (⟨(x).kind,(x).gJ,(x).name,zN,zO,(x).n,(x).body,(x).fE,(x).at_⟩:bX))] w',?_,?_⟩
 ·refine aA fy (aB (v:=.int .i64 ((x).kind)) bL hs.hb rfl (aR (aC (λ fO=>?_) (λ fO=>?_))))
  ·exact ⟨vb (by grind),hs⟩
  ·refine aA fy (aB (v:=.int .i64 ((x).kind)) bL hs.hb rfl (dA (aC (λ gQ=>?_) (λ gQ=>?_))))
   ·exact ⟨vb (by grind),hs⟩
   ·refine aA qS (aB (v:=.int .i64 ((x).at_)) bL hs.hb rfl (aR (aC (λ fw=>?_) (λ fw=>?_))))
    ·exact ⟨vb (by grind),hs⟩
    ·refine aA qS (aB (v:=.int .i64 ((x).at_)) bL hs.hb rfl (dA ?_));exact ⟨vb (by grind),hs⟩
 ·rintro _ w2 ⟨rfl,hs⟩ fB;refine aX (λ fP=>?_) (λ fP=>?_)
  ·refine ⟨vb ?_,hs.drop.aF⟩;unfold rf;simp only [*]
   first | done | rfl | simp
  ·refine aA fy (aB (v:=.int .i64 ((x).kind)) bL hs.hb rfl (aZ anS hs (C251 _ _) (λ w3 he hs=>aZ JY hs (C252 _ _ _ (D8 _)) (λ w4 he hs=>aZ JY hs (C252 _ _ _ (D8 _)) (λ w5 he hs=>aZ JY hs (C252 _ _ _ (D8 _)) (λ w6 he hs=>aZ JY hs (C252 _ _ _ (D8 _)) (λ w7 he hs=>?_)))))));refine ⟨λ jv w'=>jv = .bool ((en (j1 x.kind) 114 != jX x.gJ) || (!en (j1 x.kind) 114 && decide (¬ x.gJ=⟨#[]⟩)) || (en (j1 x.kind) 110 != jX x.name) || (!en (j1 x.kind) 110 && decide (¬ x.name=⟨#[]⟩)))∧St w bD [cD U7 (Flat.enc (⟨(x).kind,(x).gJ,(x).name,zN,zO,(x).n,(x).body,(x).fE,(x).at_⟩:bX))] w',?_,?_⟩
   ·refine aA lS (aB (v:=.string ((x).gJ)) j4 hs.hb rfl (aZ tA hs (C161 _ _ hz.1) (λ w8 he hs=>pn J7 (aX (λ jW=>?_) (λ jW=>?_)))))
    ·exact ⟨vb (by grind),hs⟩
    ·refine bZ (aX (λ sj=>?_) (λ sj=>?_))
     ·refine aA lS (aB (v:=.string ((x).gJ)) j4 hs.hb rfl (oL (aC (λ zP=>?_) (λ zP=>?_))))
      ·exact ⟨vb (by grind),hs⟩
      ·refine aA ji (aB (v:=.string ((x).name)) j4 hs.hb rfl (aZ tA hs (C161 _ _ hz.2.1) (λ w9 he hs=>pn J7 (aX (λ UY=>?_) (λ UY=>?_)))))
       ·exact ⟨vb (by grind),hs⟩
       ·refine bZ (aX (λ Gz=>?_) (λ Gz=>?_))
        ·refine aA ji (aB (v:=.string ((x).name)) j4 hs.hb rfl (oL ?_));exact ⟨vb (by grind),hs⟩
        ·exact ⟨vb (by grind),hs⟩
     ·refine aA ji (aB (v:=.string ((x).name)) j4 hs.hb rfl (aZ tA hs (C161 _ _ hz.2.1) (λ pP he hs=>pn J7 (aX (λ It=>?_) (λ It=>?_)))))
      ·exact ⟨vb (by grind),hs⟩
      ·refine bZ (aX (λ abU=>?_) (λ abU=>?_))
       ·refine aA ji (aB (v:=.string ((x).name)) j4 hs.hb rfl (oL ?_));exact ⟨vb (by grind),hs⟩
       ·exact ⟨vb (by grind),hs⟩
   ·rintro _ sQ ⟨rfl,hs⟩ jw;refine aX (λ KH=>?_) (λ KH=>?_)
    ·refine ⟨vb ?_,hs.drop.aF⟩;unfold rf;simp only [*]
     first | done | rfl | simp
    ·refine ⟨λ jv w'=>jv = .bool ((en (j1 x.kind) 101 != jy x.e) || (!en (j1 x.kind) 101 && decide (0<x.e.length)) || (en (j1 x.kind) 102 != jy x.f) || (!en (j1 x.kind) 102 && decide (0<x.f.length)))∧St w bD [cD U7 (Flat.enc (⟨(x).kind,(x).gJ,(x).name,zN,zO,(x).n,(x).body,(x).fE,(x).at_⟩:bX))] w',?_,?_⟩
     ·refine aA lT (aB mR hs.hb rfl ?_);have hf4:=DL.flat (KL);refine aZ JS hs (C105 _ _ _ (hf4.ext hs.aF) hz.2.2.1 hz.2.2.2.2.1) (λ vl he hs=>pn J7 (aX (λ vn=>?_) (λ vn=>?_)))
      ·exact ⟨vb (by grind),hs⟩
      ·refine bZ (aX (λ U8=>?_) (λ U8=>?_))
       ·refine aA lT (aB mR hs.hb rfl (aJ lP (hf4.ext hs.aF) (dA (aC (λ KM=>?_) (λ KM=>?_)))))
        ·exact ⟨vb (by grind),hs⟩
        ·refine aA nU (aB mR hs.hb rfl ?_);have hf5:=DL.flat (GI);refine aZ JS hs (C105 _ _ _ (hf5.ext hs.aF) hz.2.2.2.1 hz.2.2.2.2.2) (λ vm he hs=>pn J7 (aX (λ zQ=>?_) (λ zQ=>?_)))
         ·exact ⟨vb (by grind),hs⟩
         ·refine bZ (aX (λ U9=>?_) (λ U9=>?_))
          ·refine aA nU (aB mR hs.hb rfl (aJ lP (hf5.ext hs.aF) (dA ?_)));exact ⟨vb (by grind),hs⟩
          ·exact ⟨vb (by grind),hs⟩
       ·refine aA nU (aB mR hs.hb rfl ?_);have hf6:=DL.flat (GI);refine aZ JS hs (C105 _ _ _ (hf6.ext hs.aF) hz.2.2.2.1 hz.2.2.2.2.2) (λ sd he hs=>pn J7 (aX (λ abV=>?_) (λ abV=>?_)))
        ·exact ⟨vb (by grind),hs⟩
        ·refine bZ (aX (λ abW=>?_) (λ abW=>?_))
         ·refine aA nU (aB mR hs.hb rfl (aJ lP (hf6.ext hs.aF) (dA ?_)));exact ⟨vb (by grind),hs⟩
         ·exact ⟨vb (by grind),hs⟩
     ·rintro _ v7 ⟨rfl,hs⟩ oN;refine aX (λ aoG=>?_) (λ aoG=>?_)
      ·refine ⟨vb ?_,hs.drop.aF⟩;unfold rf;simp only [*]
       first | done | rfl | simp
      ·refine aZ JY hs (C252 _ _ _ (D8 _)) (λ yT he hs=>aX (λ Bc=>?_) (λ Bc=>?_))
       ·refine ⟨λ jv w'=>jv = .bool (decide (1≤x.n∧x.n≤8))∧St w bD [cD U7 (Flat.enc (⟨(x).kind,(x).gJ,(x).name,zN,zO,(x).n,(x).body,(x).fE,(x).at_⟩:bX))] w',?_,?_⟩
        ·refine aA tM (aB (v:=.int .i64 ((x).n)) bL hs.hb rfl (dG (aC (λ aij=>?_) (λ aij=>?_))))
         ·refine aA tM (aB (v:=.int .i64 ((x).n)) bL hs.hb rfl (j3 ?_));exact ⟨vb (by grind),hs⟩
         ·exact ⟨vb (by grind),hs⟩
        ·rintro _ Ch ⟨rfl,hs⟩ GJ;refine ⟨vb ?_,hs.drop.aF⟩;unfold rf;simp only [*]
         first | done | rfl | simp
       ·refine aA tM (aB (v:=.int .i64 ((x).n)) bL hs.hb rfl (aH ?_));refine ⟨vb ?_,hs.drop.aF⟩;unfold rf;simp only [*]
        first | done | rfl | simp
theorem C231 (lv:Value) (xs:List cE) (loops:Int) (N:Nat) (w:World) (hL:DL w lv xs) (hn:xs.length≤1048576) (hlo:0≤loops) (Qa:loops+N≤4194304) (hN:xs.length<N):CR 231 [lv,.int .i64 loops] w (λ v w'=>v = .int .i64 (gB xs loops)∧Ext w w'):=by
 have hs:=St.start w;refine aaD _ _ _ _ ?_;unfold S231;refine ⟨λ m y x w1=>∃ (k:Nat) (n:Int),y = .int .i64 n∧x = .int .i64 (k:Int)∧m=xs.length - k∧k≤xs.length∧0≤n∧n≤41∧gB xs loops=wg n (gB (xs.drop k) loops)∧St w bD [] w1,⟨_,0,0,rfl,rfl,rfl,by omega,by omega,by omega,by have:=CG xs loops; rw [List.drop_zero]; unfold wg; split <;> omega,hs⟩,?_⟩;rintro m _ _ w1 ⟨k,n,rfl,rfl,rfl,hk,hn0,UQ,hinv,hs⟩ fB;obtain ⟨ts7,Yn,hD7⟩:=(hL).open;have hn7:=hD7.1;refine aJ j0 (Yn.ext hs.aF) (aR (aC (λ jG=>?_) (λ jG=>?_)))
 ·obtain ⟨q7,jl⟩:=gx ts7 (i:=((k:Int)).toNat) (by omega);obtain ⟨cH,Va⟩:=gx (xs) (i:=((k:Int)).toNat) (by omega);obtain ⟨uW,uX,rfl,asQ,asR⟩:=hD7.2 _ _ _ jl Va;refine aQ j0 (Yn.ext hs.aF) (by omega) jl (λ _ wc=>?_);have hdk:=drop_cons (xs:=xs) (k:=k) Va;rw [hdk] at hinv;have hdl:(xs.drop (k+1)).length=xs.length - (k+1):=List.length_drop;refine aD fW (wc) (aN hs qw (λ Bd w2 hs=>aI (x:=(⟨(cH).kind,(cH).gJ,(cH).name,uW,uX,(cH).n,(cH).body,(cH).fE,(cH).at_⟩:bX)) hs fW rfl rfl (λ w3 hs=>?_)));refine ⟨λ jv w'=>jv = .bool (decide (cH.body<0) || decide (cH.fE<0) || decide (40<cH.body) || decide (40<cH.fE) || decide ((xs.length:Int)<k+1+cH.body+cH.fE))∧St w bD [cD Bd (Flat.enc (⟨(cH).kind,(cH).gJ,(cH).name,uW,uX,(cH).n,(cH).body,(cH).fE,(cH).at_⟩:bX))] w',?_,?_⟩
  ·refine aA mV (aB (v:=.int .i64 ((cH).body)) bL hs.hb rfl (aR (aC (λ iL=>?_) (λ iL=>?_))))
   ·exact ⟨vb (by grind),hs⟩
   ·refine aA iJ (aB (v:=.int .i64 ((cH).fE)) bL hs.hb rfl (aR (aC (λ qm=>?_) (λ qm=>?_))))
    ·exact ⟨vb (by grind),hs⟩
    ·refine aA mV (aB (v:=.int .i64 ((cH).body)) bL hs.hb rfl (dA (aC (λ lJ=>?_) (λ lJ=>?_))))
     ·exact ⟨vb (by grind),hs⟩
     ·refine aA iJ (aB (v:=.int .i64 ((cH).fE)) bL hs.hb rfl (dA (aC (λ lh=>?_) (λ lh=>?_))))
      ·exact ⟨vb (by grind),hs⟩
      ·refine aO (by omega) (aA mV (aB (v:=.int .i64 ((cH).body)) bL hs.hb rfl (aO (by omega) (aA iJ (aB (v:=.int .i64 ((cH).fE)) bL hs.hb rfl (aO (by omega) (aJ j0 (Yn.ext hs.aF) (dA ?_))))))));exact ⟨vb (by grind),hs⟩
  ·rintro _ w4 ⟨rfl,hs⟩ jw;refine aX (λ pI=>?_) (λ pI=>?_)
   ·exact ⟨congrArg (Value.int .i64) (U6 hinv (by unfold zM; grind)).symm,hs.drop.aF⟩
   ·have lz:zM cH (xs.drop (k+1)):=by unfold zM; grind
    refine ⟨λ jv w'=>jv = .bool (!Bk.yV cH loops)∧St w bD [cD Bd (Flat.enc (⟨(cH).kind,(cH).gJ,(cH).name,uW,uX,(cH).n,(cH).body,(cH).fE,(cH).at_⟩:bX))] w',?_,?_⟩
    ·refine aA mV (aB (v:=.int .i64 ((cH).body)) bL hs.hb rfl (dA (aC (λ BT=>?_) (λ BT=>?_))))
     ·refine aA fy (aB (v:=.int .i64 ((cH).kind)) bL hs.hb rfl (cS (aC (λ GK=>?_) (λ GK=>?_))))
      ·refine aA fy (aB (v:=.int .i64 ((cH).kind)) bL hs.hb rfl (cS (aC (λ sm=>?_) (λ sm=>?_))))
       ·exact ⟨vb (by unfold Bk.yV; grind),hs⟩
       ·refine aA iJ (aB (v:=.int .i64 ((cH).fE)) bL hs.hb rfl (dA (aC (λ og=>?_) (λ og=>?_))))
        ·refine aA fy (aB (v:=.int .i64 ((cH).kind)) bL hs.hb rfl (cS (aC (λ vn=>?_) (λ vn=>?_))))
         ·exact ⟨vb (by unfold Bk.yV; grind),hs⟩
         ·refine aA fy (aB (v:=.int .i64 ((cH).kind)) bL hs.hb rfl (aH (aC (λ KN=>?_) (λ KN=>?_))))
          ·refine aH ?_;exact ⟨vb (by unfold Bk.yV; grind),hs⟩
          ·exact ⟨vb (by unfold Bk.yV; grind),hs⟩
        ·refine aA fy (aB (v:=.int .i64 ((cH).kind)) bL hs.hb rfl (aH (aC (λ abX=>?_) (λ abX=>?_))))
         ·refine aH ?_;exact ⟨vb (by unfold Bk.yV; grind),hs⟩
         ·exact ⟨vb (by unfold Bk.yV; grind),hs⟩
      ·refine aA iJ (aB (v:=.int .i64 ((cH).fE)) bL hs.hb rfl (dA (aC (λ abY=>?_) (λ abY=>?_))))
       ·refine aA fy (aB (v:=.int .i64 ((cH).kind)) bL hs.hb rfl (cS (aC (λ abZ=>?_) (λ abZ=>?_))))
        ·exact ⟨vb (by unfold Bk.yV; grind),hs⟩
        ·refine aA fy (aB (v:=.int .i64 ((cH).kind)) bL hs.hb rfl (aH (aC (λ ab0=>?_) (λ ab0=>?_))))
         ·refine aH ?_;exact ⟨vb (by unfold Bk.yV; grind),hs⟩
         ·exact ⟨vb (by unfold Bk.yV; grind),hs⟩
       ·refine aA fy (aB (v:=.int .i64 ((cH).kind)) bL hs.hb rfl (aH (aC (λ ab1=>?_) (λ ab1=>?_))))
        ·refine aH ?_;exact ⟨vb (by unfold Bk.yV; grind),hs⟩
        ·exact ⟨vb (by unfold Bk.yV; grind),hs⟩
     ·refine aA iJ (aB (v:=.int .i64 ((cH).fE)) bL hs.hb rfl (dA (aC (λ ab2=>?_) (λ ab2=>?_))))
      ·refine aA fy (aB (v:=.int .i64 ((cH).kind)) bL hs.hb rfl (cS (aC (λ ab3=>?_) (λ ab3=>?_))))
       ·exact ⟨vb (by unfold Bk.yV; grind),hs⟩
       ·refine aA fy (aB (v:=.int .i64 ((cH).kind)) bL hs.hb rfl (aH (aC (λ ab4=>?_) (λ ab4=>?_))))
        ·refine aH ?_;exact ⟨vb (by unfold Bk.yV; grind),hs⟩
        ·exact ⟨vb (by unfold Bk.yV; grind),hs⟩
      ·refine aA fy (aB (v:=.int .i64 ((cH).kind)) bL hs.hb rfl (aH (aC (λ ab5=>?_) (λ ab5=>?_))))
       ·refine aH ?_;exact ⟨vb (by unfold Bk.yV; grind),hs⟩
       ·exact ⟨vb (by unfold Bk.yV; grind),hs⟩
    ·rintro _ w5 ⟨rfl,hs⟩ oN;refine aX (λ zR=>?_) (λ zR=>?_)
     ·exact ⟨congrArg (Value.int .i64) (U6 hinv (by grind)).symm,hs.drop.aF⟩
     ·have oC:Bk.yV cH loops=true:=by grind
      have av4:=lz;unfold zM at av4;refine aO (by omega) (aA mV (have hs:=hs.drew;aB (v:=.int .i64 ((cH).body)) bL hs.hb rfl (aO (by omega) ?_)));refine ⟨λ jv w'=>jv = .int .i64 (Bk.BS cH loops)∧St w bD [cD Bd (Flat.enc (⟨(cH).kind,(cH).gJ,(cH).name,uW,uX,(cH).n,(cH).body,(cH).fE,(cH).at_⟩:bX))] w',?_,?_⟩
      ·refine aA fy (aB (v:=.int .i64 ((cH).kind)) bL hs.hb rfl (aH (aC (λ U9=>?_) (λ U9=>?_))))
       ·refine aO (by omega) ?_;exact ⟨congrArg (Value.int .i64) (by unfold Bk.BS; grind),hs⟩
       ·exact ⟨congrArg (Value.int .i64) (by unfold Bk.BS; grind),hs⟩
      ·rintro _ w6 ⟨rfl,hs⟩ GJ;have vk:loops≤Bk.BS cH loops∧Bk.BS cH loops≤loops+1:=by unfold Bk.BS; split <;> omega
       refine ⟨λ jv w'=>∃ n':Int,jv = .int .i64 n'∧0≤n'∧n'≤41∧gB xs loops=wg n' (gB (xs.drop (k+1+(cH.body.toNat+cH.fE.toNat))) loops)∧St w bD [cD Bd (Flat.enc (⟨(cH).kind,(cH).gJ,(cH).name,uW,uX,(cH).n,(cH).body,(cH).fE,(cH).at_⟩:bX))] w',?_,?_⟩
       ·refine ⟨λ jv w'=>jv = .bool (decide (cH.kind=11) || decide (cH.kind=12))∧St w bD [cD Bd (Flat.enc (⟨(cH).kind,(cH).gJ,(cH).name,uW,uX,(cH).n,(cH).body,(cH).fE,(cH).at_⟩:bX))] w',?_,?_⟩
        ·refine aA fy (aB (v:=.int .i64 ((cH).kind)) bL hs.hb rfl (aH (aC (λ aoH=>?_) (λ aoH=>?_))))
         ·exact ⟨vb (by grind),hs⟩
         ·refine aA fy (aB (v:=.int .i64 ((cH).kind)) bL hs.hb rfl (aH ?_));exact ⟨vb (by grind),hs⟩
        ·rintro _ w7 ⟨rfl,hs⟩ RX;refine aX (λ D9=>?_) (λ D9=>?_)
         ·refine aO (by omega) (km j0 (Yn.ext hs.aF) (by omega) (by omega) (by omega) (λ av5 ab6=>?_));have ab7:=DL.cut ab6 Yn hD7;refine aA iJ (have hs:=hs.drew;aB (v:=.int .i64 ((cH).fE)) bL hs.hb rfl (aO (by omega) (km j0 (Yn.ext hs.aF) (by omega) (by omega) (by omega) (λ av6 ab8=>?_))));have ab9:=DL.cut ab8 Yn hD7;have hcA:(((xs).take (((k:Int)+1)+(cH).body).toNat).drop ((k:Int)+1).toNat)=(xs.drop (k+1)).take (cH).body.toNat:=D7 xs (by omega) (by omega);have hcB:(((xs).take ((((k:Int)+1)+(cH).body)+(cH).fE).toNat).drop (((k:Int)+1)+(cH).body).toNat)=((xs.drop (k+1)).drop (cH).body.toNat).take (cH).fE.toNat:=by rw [List.drop_drop]; exact D7 xs (by omega) (by omega)
          have hlA:(((xs).take (((k:Int)+1)+(cH).body).toNat).drop ((k:Int)+1).toNat).length≤xs.length - 1∧(((xs).take (((k:Int)+1)+(cH).body).toNat).drop ((k:Int)+1).toNat).length≤40:=by rw [hcA,List.length_take]; omega
          have hlB:(((xs).take ((((k:Int)+1)+(cH).body)+(cH).fE).toNat).drop (((k:Int)+1)+(cH).body).toNat).length≤xs.length - 1∧(((xs).take ((((k:Int)+1)+(cH).body)+(cH).fE).toNat).drop (((k:Int)+1)+(cH).body).toNat).length≤40:=by rw [hcB,List.length_take,List.length_drop]; omega
          refine aZ T6 hs (C231 _ _ _ (N - 1) _ (ab7.ext hs.aF) (by omega) (by omega) (by omega) (by omega)) (λ w8 he hs=>?_);refine ⟨aG bL (hs.hb.cell rfl),?_⟩;refine eu T6 (C231 _ _ _ (N - 1) _ (ab9.ext hs.aF) (by omega) (by omega) (by omega) (by omega)) ?_;rintro _ w9 ⟨rfl,he⟩;have hs:=hs.ext he;obtain ⟨A,hA⟩:∃ A,A=gB (((xs).take (((k:Int)+1)+(cH).body).toNat).drop ((k:Int)+1).toNat) (Bk.BS cH loops):=⟨_,rfl⟩;obtain ⟨B,hB⟩:∃ B,B=gB (((xs).take ((((k:Int)+1)+(cH).body)+(cH).fE).toNat).drop (((k:Int)+1)+(cH).body).toNat) (Bk.BS cH loops):=⟨_,rfl⟩;have hAb:=CG (((xs).take (((k:Int)+1)+(cH).body).toNat).drop ((k:Int)+1).toNat) (Bk.BS cH loops)
          have hBb:=CG (((xs).take ((((k:Int)+1)+(cH).body)+(cH).fE).toNat).drop (((k:Int)+1)+(cH).body).toNat) (Bk.BS cH loops);rw [← hA] at hAb;rw [← hB] at hBb;rw [← hA,← hB];have hdb:=aif hinv lz oC (by unfold Bk.D5; grind) A B (by rw [hA,hcA]) (by rw [hB,hcB]);refine ⟨λ jv w'=>jv = .bool (decide (A<0∨B<0))∧St w bD [cD Bd (Flat.enc (⟨(cH).kind,(cH).gJ,(cH).name,uW,uX,(cH).n,(cH).body,(cH).fE,(cH).at_⟩:bX))] w',?_,?_⟩
          ·refine aR (aC (λ aim=>?_) (λ aim=>?_))
           ·exact ⟨vb (by grind),hs⟩
           ·refine aR ?_;exact ⟨vb (by grind),hs⟩
          ·rintro _ pP ⟨rfl,hs⟩ dd6;refine aX (λ Nm=>?_) (λ Nm=>?_)
           ·exact ⟨congrArg (Value.int .i64) (hdb.1 (of_decide_eq_true Nm)).symm,hs.drop.aF⟩
           ·refine aO (by omega) (aO (by omega) (UC ?_));have aoI:=hdb.2 (of_decide_eq_false Nm);rw [List.drop_drop] at aoI;exact ⟨_,rfl,by omega,by omega,aoI,hs⟩
         ·have hdn:=aoE hinv lz oC (by unfold Bk.D5; grind);rw [List.drop_drop] at hdn;exact ⟨_,rfl,hn0,UQ,hdn,hs⟩
       ·rintro _ sQ ⟨n',rfl,av8,av9,aoJ,hs⟩ dd7;refine aA iJ (aB (v:=.int .i64 ((cH).fE)) bL hs.hb rfl (aO (by omega) ?_));exact ⟨_,by omega,k+1+((cH).body.toNat+(cH).fE.toNat),n',rfl,congrArg (Value.int .i64) (by omega),rfl,by omega,av8,av9,aoJ,hs.drop⟩
 ·rw [List.drop_eq_nil_of_le (by omega),GH] at hinv;exact ⟨congrArg (Value.int .i64) (by rw [hinv]; unfold wg; omega),hs.aF⟩
termination_by N
decreasing_by all_goals omega
theorem C205 (lv:Value) (xs:List cE) (w:World) (hL:DL w lv xs) (hn:xs.length≤1048576) (hz:∀ x∈xs,SzS x):CR 205 [lv] w (λ v w'=>v = .bool (uT xs)∧Ext w w'):=by
 have hs:=St.start w;refine aaf _ _ _ ?_;unfold S205;obtain ⟨Yo,hR8,hD8⟩:=(hL).open;have hn8:=hD8.1;refine aJ j0 (hR8.ext hs.aF) (dA (aC (λ iP=>?_) (λ iP=>?_)))
 ·refine ⟨vb ?_,hs.aF⟩;unfold uT;rw [decide_eq_false (by omega)]; rfl
 ·refine ⟨λ m x w1=>∃ k:Nat,x = .int .i64 (k:Int)∧m=xs.length - k∧k≤xs.length∧(∀ y∈xs.take k,(!rf y)=false)∧St w bD [] w1,⟨_,0,rfl,rfl,Nat.zero_le _,by simp,hs⟩,?_⟩;rintro m _ w1 ⟨k,rfl,rfl,hk,fR,hs⟩ fB;refine aJ j0 (hR8.ext hs.aF) (aR (aC (λ gP=>?_) (λ gP=>?_)))
  ·obtain ⟨GL,kM⟩:=gx Yo (i:=((k:Int)).toNat) (by omega);obtain ⟨mC,kN⟩:=gx (xs) (i:=((k:Int)).toNat) (by omega);obtain ⟨aca,acb,rfl,acd,ace⟩:=hD8.2 _ _ _ kM kN;refine aQ j0 (hR8.ext hs.aF) (by omega) kM (λ _ tU=>aD fW (tU) (aZ anE hs (C230 mC _ _ ⟨aca,acb,rfl,(acd).ext hs.aF,(ace).ext hs.aF⟩ (hz _ (List.mem_of_getElem? kN))) (λ w2 he hs=>bZ (aX (λ fw=>?_) (λ fw=>?_)))))
   ·refine ⟨vb ?_,hs.aF⟩;unfold uT;rw [jx kN fw]; simp
   ·refine aO (by omega) ?_;exact ⟨_,by omega,k+1,rfl,rfl,by omega,eD fR kN fw,hs⟩
  ·refine aZ T6 hs (C231 _ _ _ (xs.length+1) _ (hL.ext hs.aF) (by omega) (by omega) (by omega) (by omega)) (λ w3 he hs=>?_);refine ⟨λ jv w'=>jv = .bool (decide (0≤gB xs 0∧gB xs 0≤12))∧St w bD [] w',?_,?_⟩
   ·refine dG (aC (λ iN=>?_) (λ iN=>?_))
    ·refine j3 ?_;exact ⟨vb (by grind),hs⟩
    ·exact ⟨vb (by grind),hs⟩
   ·rintro _ w4 ⟨rfl,hs⟩ jw;rw [List.take_of_length_le (by omega)] at fR;refine ⟨vb ?_,hs.aF⟩;unfold uT;rw [iF fR,decide_eq_true (show xs.length≤40 by omega)]; rfl
theorem C156 (n:Int) (w:World):CR 156 [.int .i64 n] w (λ v w'=>v = .bool (uU n)∧Ext w w'):=by
 have hs:=St.start w;refine Zz _ _ _ ?_;unfold S156;refine ⟨λ jv w'=>jv = .bool (decide (0≤n∧n≤4000))∧w=w',?_,?_⟩
 ·refine dG (aC (λ pG=>?_) (λ pG=>?_))
  ·refine j3 ?_;exact ⟨xw (by omega),rfl⟩
  ·exact ⟨YJ (by omega),rfl⟩
 ·rintro _ w1 ⟨rfl,hw⟩ fB;subst hw;exact ⟨rfl,hs.aF⟩
theorem C155 (lv:Value) (xs:List dF) (KJ:Int) (w:World) (hL:eF (λ _=>True) w lv xs) (hn:xs.length≤1048576) (hz:∀ c∈xs,c.name.size≤1048576):CR 155 [lv,.int .i64 KJ] w (λ v w'=>v = .bool (sR KJ xs)∧Ext w w'):=by
 have hs:=St.start w;refine Zy _ _ _ _ ?_;unfold S155;refine ⟨λ m x w1=>∃ k:Nat,x = .int .i64 (k:Int)∧m=xs.length - k∧k≤xs.length∧(∀ y∈xs.take k,nd KJ y=false)∧St w bD [] w1,⟨_,0,rfl,rfl,Nat.zero_le _,by simp,hs⟩,?_⟩;rintro m _ w1 ⟨k,rfl,rfl,hk,fR,hs⟩ fB;refine aJ jZ (hL.ext hs.aF) (aR (aC (λ gu=>?_) (λ gu=>?_)))
 ·obtain ⟨jk,dD⟩:∃ xx,(xs)[((k:Int)).toNat]? = some xx:=⟨_,List.getElem?_eq_getElem (by omega)⟩;refine ⟨λ jv w'=>jv = .bool (nd KJ jk)∧St w bD [] w',?_,?_⟩
  ·refine aQ jZ (hL.ext hs.aF) (by omega) dD (λ _ iM=>bT (jk).name py iM rfl rfl (λ _ qZ=>aD j4 (qZ) (aZ tA hs (C161 _ _ (hz _ (List.mem_of_getElem? dD))) (λ w2 he hs=>bZ (aX (λ gd=>?_) (λ gd=>?_))))))
   ·exact ⟨vb (by unfold nd; grind),hs⟩
   ·refine aQ jZ (hL.ext hs.aF) (by omega) dD (λ _ KO=>bT (jk).n zz KO rfl rfl (λ _ pH=>aD bL (pH) (aR (aC (λ fP=>?_) (λ fP=>?_)))))
    ·exact ⟨vb (by unfold nd; grind),hs⟩
    ·refine aQ jZ (hL.ext hs.aF) (by omega) dD (λ _ od=>bT (jk).n zz od rfl rfl (λ _ oD=>aD bL (oD) (dA (aC (λ iC=>?_) (λ iC=>?_)))))
     ·exact ⟨vb (by unfold nd; grind),hs⟩
     ·refine aQ jZ (hL.ext hs.aF) (by omega) dD (λ _ tZ=>bT (jk).at_ Dv tZ rfl rfl (λ _ U1=>aD bL (U1) (aZ Pg hs (C156 _ _) (λ w3 he hs=>bZ ?_))));exact ⟨vb (by unfold nd; grind),hs⟩
  ·rintro _ w4 ⟨rfl,hs⟩ jw;refine aX (λ sj=>?_) (λ sj=>?_)
   ·refine ⟨vb ?_,hs.aF⟩;unfold sR;rw [jx dD sj]; rfl
   ·refine aO (by omega) ?_;exact ⟨_,by omega,k+1,rfl,rfl,by omega,eD fR dD sj,hs⟩
 ·rw [List.take_of_length_le (by omega)] at fR;refine ⟨vb ?_,hs.aF⟩;unfold sR;rw [iF fR]; rfl
theorem C157 (lv:Value) (xs:List dR) (nb:Bool) (w:World) (hL:DL w lv xs) (hn:xs.length≤1048576) (hz:∀ t∈xs,SzT t∧t.aK.length≤500∧t.body.length≤500):CR 157 [lv,.bool nb] w (λ v w'=>v = .bool (oe nb xs)∧Ext w w'):=by
 have hs:=St.start w;refine ZA _ _ _ _ ?_;unfold S157;refine ⟨λ m x w1=>∃ k:Nat,x = .int .i64 (k:Int)∧m=xs.length - k∧k≤xs.length∧(∀ y∈xs.take k,wh nb y=false)∧St w bD [] w1,⟨_,0,rfl,rfl,Nat.zero_le _,by simp,hs⟩,?_⟩;rintro m _ w1 ⟨k,rfl,rfl,hk,fR,hs⟩ fB;obtain ⟨Yp,RY,hD9⟩:=(hL).open;have hn9:=hD9.1;refine aJ iI (RY.ext hs.aF) (aR (aC (λ fO=>?_) (λ fO=>?_)))
 ·obtain ⟨GL,kM⟩:∃ xx,Yp[((k:Int)).toNat]? = some xx:=⟨_,List.getElem?_eq_getElem (by omega)⟩;obtain ⟨mC,kN⟩:∃ xx,(xs)[((k:Int)).toNat]? = some xx:=⟨_,List.getElem?_eq_getElem (by omega)⟩;obtain ⟨Ea,Eb,rfl,Nn,Ec⟩:=hD9.2 _ _ _ kM kN;have KP:=hz _ (List.mem_of_getElem? kN);refine ⟨λ jv w'=>jv = .bool (uV nb mC)∧St w bD [] w',?_,?_⟩
  ·refine aQ iI (RY.ext hs.aF) (by omega) kM (λ _ tU=>bT (mC).name zx tU rfl rfl (λ _ KD=>aD j4 (KD) (aZ tA hs (C161 _ _ KP.1.1) (λ w2 he hs=>pn J7 (aX (λ js=>?_) (λ js=>?_))))))
   ·exact ⟨vb (by unfold uV; grind),hs⟩
   ·refine bZ (aX (λ iN=>?_) (λ iN=>?_))
    ·refine aQ iI (RY.ext hs.aF) (by omega) kM (λ _ we=>bT (mC).name zx we rfl rfl (λ _ wj=>aD j4 (wj) (oL (aC (λ nA=>?_) (λ nA=>?_)))))
     ·exact ⟨vb (by unfold uV; grind),hs⟩
     ·refine aQ iI (RY.ext hs.aF) (by omega) kM (λ _ tW=>bT (mC).at_ zy tW rfl rfl (λ _ zS=>aD bL (zS) (aZ Pg hs (C156 _ _) (λ w3 he hs=>bZ (aX (λ ql=>?_) (λ ql=>?_))))))
      ·exact ⟨vb (by unfold uV; grind),hs⟩
      ·refine aQ iI (RY.ext hs.aF) (by omega) kM (λ _ KQ=>bT Eb qu KQ rfl rfl (λ _ KR=>aD sO (KR) (aZ aeH hs (C205 _ _ _ (Ec.ext hs.aF) (by omega) KP.1.2.2) (λ w4 he hs=>bZ ?_))));exact ⟨vb (by unfold uV; grind),hs⟩
    ·refine aQ iI (RY.ext hs.aF) (by omega) kM (λ _ acf=>bT (mC).at_ zy acf rfl rfl (λ _ acg=>aD bL (acg) (aZ Pg hs (C156 _ _) (λ w5 he hs=>bZ (aX (λ ach=>?_) (λ ach=>?_))))))
     ·exact ⟨vb (by unfold uV; grind),hs⟩
     ·refine aQ iI (RY.ext hs.aF) (by omega) kM (λ _ aci=>bT Eb qu aci rfl rfl (λ _ acj=>aD sO (acj) (aZ aeH hs (C205 _ _ _ (Ec.ext hs.aF) (by omega) KP.1.2.2) (λ w6 he hs=>bZ ?_))));exact ⟨vb (by unfold uV; grind),hs⟩
  ·rintro _ w7 ⟨rfl,hs⟩ jw;refine aX (λ pI=>?_) (λ pI=>?_)
   ·refine ⟨vb ?_,hs.aF⟩;unfold oe;rw [jx kN (show wh nb mC=true by unfold wh; rw [pI]; rfl)]; rfl
   ·refine ⟨λ m x w1=>∃ k2:Nat,x = .int .i64 (k2:Int)∧m=mC.aK.length - k2∧k2≤mC.aK.length∧(∀ s∈mC.aK.take k2,(!jX s)=false)∧St w bD [] w1,⟨_,0,rfl,rfl,Nat.zero_le _,by simp,hs⟩,?_⟩;rintro m _ w8 ⟨k2,rfl,rfl,Jo,Ed,hs⟩ oN;refine aQ iI (RY.ext hs.aF) (by omega) kM (λ _ U4=>bT Ea jo U4 rfl rfl (λ _ DW=>aD pq (DW) ?_));have aoM:=DL.flat (Nn);refine aJ mS (aoM.ext hs.aF) (aR (aC (λ ua=>?_) (λ ua=>?_)))
    ·refine aQ iI (RY.ext hs.aF) (by omega) kM (λ _ KS=>bT Ea jo KS rfl rfl (λ _ Ee=>aD pq (Ee) ?_));obtain ⟨e_x67,Iu⟩:=gx ((mC).aK) (i:=((k2:Int)).toNat) (by omega);refine aQ mS (aoM.ext hs.aF) (by omega) Iu (λ _ aoN=>aD j4 (aoN) (aZ tA hs (C161 _ _ (KP.1.2.1 _ (List.mem_of_getElem? Iu))) (λ w9 he hs=>bZ (aX (λ Ef=>?_) (λ Ef=>?_)))))
     ·refine ⟨vb ?_,hs.aF⟩;unfold oe;rw [jx kN (show wh nb mC=true by unfold wh; rw [jx Iu Ef]; simp)]; rfl
     ·refine aO (by omega) ?_;exact ⟨_,by omega,k2+1,rfl,rfl,by omega,eD Ed Iu Ef,hs⟩
    ·refine aO (by omega) ?_;exact ⟨_,by omega,k+1,rfl,rfl,by omega,eD fR kN (by unfold wh; rw [pI,iF (by rw [List.take_of_length_le (by omega)] at Ed; exact Ed)]; rfl),hs⟩
 ·rw [List.take_of_length_le (by omega)] at fR;refine ⟨vb ?_,hs.aF⟩;unfold oe;rw [iF fR]; rfl
end Go.Proofs.YtnjcingfdhjfkaaGreat
