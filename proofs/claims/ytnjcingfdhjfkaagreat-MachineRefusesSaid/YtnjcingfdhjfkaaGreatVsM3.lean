/-
  What the proof needs, part 3.
-/
import Derived.Test.YtnjcingfdhjfkaaGreatVsM2
set_option linter.all false
namespace Go.Fw
def sep (H1 H2:HP):HP where
 p w F:=∃ F1 F2,H1.p w F1∧H2.p w F2∧(∀ b,F1 b→¬ F2 b)∧∀ b,F b↔F1 b∨F2 b
 loc w w' F h hh:=by
  obtain ⟨F1,F2,h1,h2,h3,h4⟩:=h
  exact ⟨F1,F2,H1.loc _ _ _ h1 λ b hb=>hh b ((h4 b).2 (.inl hb)),H2.loc _ _ _ h2 λ b hb=>hh b ((h4 b).2 (.inr hb)),h3,h4⟩
 lt w F b h hb:=by
  obtain ⟨F1,F2,h1,h2,h3,h4⟩:=h
  rcases (h4 b).1 hb with hf | hf
  ·exact H1.lt _ _ _ h1 hf
  ·exact H2.lt _ _ _ h2 hf
def tQ {α:Type} (H:α→HP):HP where
 p w F:=∃ x,(H x).p w F
 loc w w' F h hh:=by obtain ⟨x,h⟩:=h; exact ⟨x,(H x).loc _ _ _ h hh⟩
 lt w F b h hb:=by obtain ⟨x,h⟩:=h; exact (H x).lt _ _ _ h hb
def fact (φ:Prop) (H:HP):HP where
 p w F:=φ∧H.p w F
 loc w w' F h hh:=⟨h.1,H.loc _ _ _ h.2 hh⟩
 lt w F b h hb:=H.lt _ _ _ h.2 hb
def emp:HP where
 p _ F:=∀ b,¬ F b
 loc _ _ _ h _:=h
 lt _ _ b h hb:=(h b hb).elim
section
variable {P:Program} {w w0 w':World} {A:Nat→Prop} {L:List HP} {H H1 H2:HP}
theorem St.split (h:St w0 A (sep H1 H2::L) w):St w0 A (H1::H2::L) w:=by
 obtain ⟨U,F,U',⟨F1,F2,g1,g2,g3,g4⟩,h2,h3,h4,h5⟩:=h.sK
 refine ⟨h.aF,U,F1,λ b=>F2 b∨U' b,g1,λ b hb=>h2 b ((g4 b).2 (.inl hb)),λ b hb hu=>?_,λ b=>?_,F2,U',g2,λ b hb=>h2 b ((g4 b).2 (.inr hb)),λ b hb hu=>h3 b ((g4 b).2 (.inr hb)) hu,λ b=>Iff.rfl,h5⟩
 ·rcases hu with hu | hu
  ·exact g3 b hb hu
  ·exact h3 b ((g4 b).2 (.inl hb)) hu
 ·rw [h4 b,g4 b,or_assoc]
theorem St.join (h:St w0 A (H1::H2::L) w):St w0 A (sep H1 H2::L) w:=by
 obtain ⟨U,F,U',h1,h2,h3,h4,F2,U2,g1,g2,g3,g4,g5⟩:=h.sK
 refine ⟨h.aF,U,λ b=>F b∨F2 b,U2,⟨F,F2,h1,g1,λ b hb hf=>h3 b hb ((g4 b).2 (.inl hf)),λ b=>Iff.rfl⟩,λ b hb=>hb.elim (h2 b) (g2 b),λ b hb hu=>?_,λ b=>?_,g5⟩
 ·rcases hb with hb | hb
  ·exact h3 b hb ((g4 b).2 (.inr hu))
  ·exact g3 b hb hu
 ·rw [h4 b,g4 b,or_assoc]
theorem St.eT {α:Type} {H:α→HP} (h:St w0 A (tQ H::L) w):∃ x,St w0 A (H x::L) w:=by
 obtain ⟨U,F,U',⟨x,h1⟩,h2⟩:=h.sK; exact ⟨x,h.aF,U,F,U',h1,h2⟩
theorem St.eN {α:Type} {H:α→HP} (x:α) (h:St w0 A (H x::L) w):St w0 A (tQ H::L) w:=by
 obtain ⟨U,F,U',h1,h2⟩:=h.sK; exact ⟨h.aF,U,F,U',⟨x,h1⟩,h2⟩
theorem St.oA {φ:Prop} (h:St w0 A (fact φ H::L) w):φ∧St w0 A (H::L) w:=by
 obtain ⟨U,F,U',⟨x,h1⟩,h2⟩:=h.sK; exact ⟨x,h.aF,U,F,U',h1,h2⟩
theorem St.qj {φ:Prop} (x:φ) (h:St w0 A (H::L) w):St w0 A (fact φ H::L) w:=by
 obtain ⟨U,F,U',h1,h2⟩:=h.sK; exact ⟨h.aF,U,F,U',⟨x,h1⟩,h2⟩
def qk (F:Nat→Prop) (H':HP) (w w':World):Prop:=∃ F',H'.p w' F'∧(∀ b,F' b→F b∨w.heap.size≤b)∧iy F w w'
def lW (H:HP) (w w':World):Prop:=∃ F,H.p w' F∧(∀ b,F b→w.heap.size≤b)∧Ext w w'
theorem St.mut {F:Nat→Prop} (hs:St w F (H::L) w'):qk F H w w':=by
 obtain ⟨F',h1,h2⟩:=hs.head; exact ⟨F',h1,h2,hs.aF⟩
theorem St.fresh (hs:St w bD (H::L) w'):lW H w w':=by
 obtain ⟨F',h1,h2⟩:=hs.head; exact ⟨F',h1,λ b hb=>(h2 b hb).elim (λ h=>h.elim) id,hs.aF⟩
theorem St.made (hs:St w0 A L w) (h:lW H w w'):St w0 A (H::L) w':=by
 obtain ⟨F,h1,h2,h3⟩:=h; exact hs.new h3 h1 h2
theorem aZ {f:FuncId} {args:List Value} {X:Value} {K:Value→World→Prop} (pl:Plain P f) (hs:St w0 A L w) (hc:Calls P f args.toArray w (qg λ v w'=>v=X∧Ext w w')) (k:∀ w',Ext w w'→St w0 A L w'→K X w'):C2 P f args w K:=
 ey pl hc λ v w' h=>by obtain ⟨rfl,h2⟩:=h; exact k w' h2 (hs.ext h2)
theorem dB {f:FuncId} {args:List Value} {H:Value→HP} {K:Value→World→Prop} (pl:Plain P f) (hs:St w0 A L w) (hc:Calls P f args.toArray w (qg λ v w'=>lW (H v) w w')) (k:∀ v w',lW (H v) w w'→St w0 A (H v::L) w'→K v w'):C2 P f args w K:=
 ey pl hc λ v w' h=>k v w' h (hs.made h)
theorem St.Uu {F:Nat→Prop} {U':Nat→Prop} {H':HP} (hs:St w0 A (H::L) w) (h2:∀ b,F b→A b∨w0.heap.size≤b) (h3:∀ b,F b→¬ U' b) (h5:rL w0 A L w U') (h:qk F H' w w'):St w0 A (H'::L) w':=by
 obtain ⟨F',g1,g2,g3⟩:=h
 refine ⟨hs.aF.trans g3 (λ _ h=>h) λ b hb hf=>(h2 b hf).elim id λ hh=>by omega,λ b=>F' b∨U' b,F',U',g1,λ b hb=>?_,λ b hb hu=>?_,λ b=>Iff.rfl,?_⟩
 ·rcases g2 b hb with hf | hf
  ·exact h2 b hf
  ·exact .inr (Nat.le_trans hs.aF.size hf)
 ·rcases g2 b hb with hf | hf
  ·exact h3 b hf hu
  ·have:=h5.lt b hu; omega
 ·exact h5.loc λ b hb=>g3.cD b (h5.lt b hb) λ hf=>h3 b hf hb
theorem pb {f:FuncId} {args:List Value} {H':Value→HP} {Φ:Value→World→Prop} {K:Value→World→Prop} (pl:Plain P f) (hs:St w0 A (H::L) w)
  (hc:∀ F,H.p w F→Calls P f args.toArray w (qg λ v w'=>Φ v w'∧qk F (H' v) w w')) (k:∀ v w',Φ v w'→St w0 A (H' v::L) w'→K v w'):C2 P f args w K:=by
 obtain ⟨U,F,U',h1,h2,h3,h4,h5⟩:=hs.sK
 exact ey pl (hc F h1) λ v w' ⟨hΦ,hM⟩=>k v w' hΦ (hs.Uu h2 h3 h5 hM)
end
section
variable {α:Type} [Flat α] {P:Program} {w w0:World} {A S:Nat→Prop} {L:List HP} {xs ys:List α}
theorem eI.one {v:Value} (h:eI S w v xs):rN v=true:=by obtain ⟨a,c,rfl,_⟩:=h; rfl
theorem FC {T E ox R b n cap:Nat} {z:Option Nat} {src:Value} {cs:List Value} (ht:fa P T=some (E,Flat.sz α,ox,z)) (hb:tz w b cs) (xw:eI S w src ys)
  (J2:n+ys.length≤cap) (MW:n * Flat.sz α+ys.length * Flat.sz α≤cs.length) :
  ∃ w',(Builtin.append_ #[T,T] R [.slice (some ⟨b,0,none⟩) n cap,src].toArray).run P w = .ok (.slice (some ⟨b,0,none⟩) (n+ys.length) cap) w'∧tz w' b (gV cs (n * Flat.sz α) (flat ys))∧iy (· = b) w w':=by
 obtain ⟨hu,inf,hi,lz,AX,_⟩:=gq ht
 have rd:=xw
 obtain ⟨sa,T8,rfl,hsc,hs3⟩:=rd
 obtain ⟨w',h1,h2,h3⟩:=mi (P:=P) (o:=n * Flat.sz α) (flat ys) 0 cs w hb (by rw [cQ]; omega) zf
 refine ⟨w',?_,by simpa using h2,h3⟩
 have hf:=wR (α:=α) (P:=P) (sz:=Flat.sz α) rfl xw
 have sL:(⟨b,0,none⟩:Addr).add (n * Flat.sz α)=⟨b,n * Flat.sz α,none⟩:=by rw [gM,Nat.zero_add]
 simp [Builtin.append_,run_underlying hu,sizeOf,typeInfo,hi,Builtin.lenOf,J2,hf,lz,sL,h1]
theorem RR {T E ox R b o n c:Nat} {z:α} {cs:List Value} (ht:SlT P T E (Flat.sz α) ox) (hz:qi P E (Flat.val z)) (hb:tz w b cs) (MW:o+n * Flat.sz α≤cs.length) :
  ∃ w',(Builtin.clear_ #[T] R [.slice (some ⟨b,o,none⟩) n c].toArray).run P w = .ok (.tuple #[]) w'∧tz w' b (gV cs o (flat (List.replicate n z)))∧iy (· = b) w w':=by
 obtain ⟨hu,inf,hi,lz,AX,_⟩:=gq ht
 unfold qi ej at hz
 rw [hi] at hz
 simp only [Option.map_some,Option.some.injEq] at hz
 by_cases h0:n=0
 ·subst h0
  refine ⟨w,?_,by simpa [j9,gV] using hb,iy.refl _ _⟩
  simp [Builtin.clear_,run_underlying hu]
 ·have hzc:(Builtin.zeroCells (Flat.val z).cells n).toList=flat (List.replicate n z):=by
   rw [oI,← vJ]
   unfold Builtin.zeroCells madeCells
   simp [Flat.len]
  obtain ⟨w',h1,h2,h3⟩:=mi (P:=P) (o:=o) (flat (List.replicate n z)) 0 cs w hb (by rw [cQ,List.length_replicate]; omega) zf
  refine ⟨w',?_,by simpa using h2,h3⟩
  simp [Builtin.clear_,run_underlying hu,zeroValue,typeInfo,hi,hz,h0,hzc,h1]
theorem Uv {T E sz ox n cap:Nat} {z:Option Nat} {a:Option Addr} {i j k:Int} {K:Value→Prop} (ht:fa P T=some (E,sz,ox,z)) (h0:0≤i) (h1:i≤j) (h2:j≤k) (h3:k≤cap)
  (kk:∀ v,K v):cT P (Instr.sliceAt T (.slice a n cap) (some (.int .i64 i)) (some (.int .i64 j)) (some (.int .i64 k))) K:=by
 obtain ⟨hu,inf,MN,lz,_⟩:=gq ht
 have hb:pr P (Instr.sliceBounds true n cap (some (.int .i64 i)) (some (.int .i64 j)) (some (.int .i64 k)))=some (i.toNat,j.toNat,k.toNat):=by
  simp only [Instr.sliceBounds,cM,fe,Option.bind_some]
  rw [mP (by omega) (by omega)]
  simp only [Option.bind_some]
  rw [mP (by omega) (by omega)]
  simp only [Option.bind_some]
  rw [mP (by omega) (by omega)]
  rfl
 refine ⟨.slice (if k.toNat=i.toNat then a else a.map (·.add (i.toNat * sz))) (j.toNat - i.toNat) (k.toNat - i.toNat),?_,kk _⟩
 ·unfold Instr.sliceAt
  rw [cM,cL hu]
  simp only [Option.bind_some]
  unfold Instr.slice
  rw [cM,cL hu]
  simp only [Option.bind_some]
  rw [cM,hb]
  simp only [Option.bind_some]
  rw [cM,oH MN,lz]
  rfl
end
def xB (b:Nat) (o:Obj):HP where
 p w F:=w.heap[b]? = some o∧∀ k,F k↔k=b
 loc w w' F h hh:=⟨(hh b ((h.2 b).2 rfl)).trans h.1,h.2⟩
 lt w F b' h hb:=by rw [(h.2 b').1 hb]; exact jN h.1
section
variable {P:Program} {w w0 w':World} {A:Nat→Prop} {L:List HP}
theorem St.obj {b:Nat} {o:Obj} (hs:St w0 A (xB b o::L) w):w.heap[b]? = some o:=by
 obtain ⟨F,h,_⟩:=hs.head; exact h.1
theorem Ext.alloc (w:World) (o:Obj):Ext w (w.alloc o):=Ext.push w o
theorem St.alloc {o:Obj} (hs:St w0 A L w):St w0 A (xB w.heap.size o::L) (w.alloc o):=
 hs.new (F:=(· = w.heap.size)) (Ext.alloc w o) ⟨pk w o,λ _=>Iff.rfl⟩ λ b hb=>Nat.le_of_eq hb.symm
theorem iy.putObj (w:World) (b:Nat) (o:Obj):iy (· = b) w (w.putObj b o):=
 ⟨rfl,rfl,rfl,by simp,λ k _ hn=>World.putObj_heap_other hn⟩
theorem St.putObj {b:Nat} {o:Obj} (o':Obj) (hs:St w0 A (xB b o::L) w):St w0 A (xB b o'::L) (w.putObj b o'):=
 hs.rM λ F hF=>⟨F,⟨World.putObj_heap_same (jN hF.1),hF.2⟩,λ _ h=>.inl h,(iy.putObj w b o').mono λ k hk=>(hF.2 k).2 hk⟩
theorem fY.mono {fv:Value} {args:List Value} {K K':Value→World→Prop} (h:fY P fv args w K) (hk:∀ v w,K v w→K' v w):fY P fv args w K':=
 FZ.mono (P:=P) (k:=.O2 fv args) h hk
theorem aI {α:Type} [Flat α] {T:TypeId} {b:Nat} {cs:List Value} {x:α} {K:World→Prop} (hs:St w0 A (cD b cs::L) w) (ht:aa7 P T (Flat.sz α)) (ha:Flat.agg α=true) (hl:cs.length=Flat.sz α)
  (k:∀ w',St w0 A (cD b (Flat.enc x)::L) w'→K w'):AN P (Instr.storeAt T (.pointer (some ⟨b,0,none⟩)) (Flat.val x)) w K:=by
 rw [Flat.nO ha]
 refine pn hs ht (Flat.len x) (by rw [Nat.zero_add,hl]; exact Nat.le_refl _) (Flat.one x) λ w' h=>k w' ?_
 have:=kI [] cs [] (Flat.enc x) (by rw [Flat.len,hl])
 simp only [List.length_nil,List.nil_append,List.append_nil] at this
 rwa [this] at h
theorem fP {α:Type} [Flat α] {S:Nat→Prop} {T:TypeId} {p:Value} {x:α} (ht:cP P T=some (Flat.agg α,Flat.sz α)) (h:At S w p x):(Instr.loadAt T p).run P w = .ok (Flat.val x) w:=by
 obtain ⟨v,h1,h2⟩:=(aD (K:=λ v=>v=Flat.val x) ht h rfl).ex
 rw [← h2]; exact h1
theorem gD {b:Bool} {A B:Prop} (h:b=true) (a:A):xK (.bool b) A B:=⟨⟨_,rfl,λ _=>a,λ hh=>by rw [h] at hh; cases hh⟩⟩
theorem fH {b:Bool} {A B:Prop} (h:b=false) (a:B):xK (.bool b) A B:=⟨⟨_,rfl,λ hh=>(by rw [h] at hh; cases hh),λ _=>a⟩⟩
theorem aeP {D:Nat} {K:World→Prop} (hs:St w0 A (xB D (.deferred (some []))::L) w) (k:∀ w',St w0 A L w'→K w'):nL [D] w K:=
 ⟨hs.obj,k _ (hs.putObj (.deferred none)).drop⟩
theorem Nd (L0:Loop) (h1:L0.state = .ready) (h2:L0.pending=none):({L0 with state:=if (none:Option Code).isNone=true then LoopState.ready else LoopState.done,pending:=none}:Loop)=L0:=by
 cases L0; simp only at h1 h2; subst h1; subst h2; rfl
theorem Uw {gf np:Nat} {cap:List Value} {xs:List (List Value)} {round:List Value→World→(World→(World→Prop)→Prop)→(Option Code→World→Prop)→Prop}
  {N R:Nat→World→Prop} {X:Nat→Nat→World→Prop} (pl:Plain P gf) (hs:St w0 A L w) (I:Nat→List HP→Prop) (Ix:Code→List HP→Prop) (h0:I 0 L) (hnp:∀ x∈xs,x.length=np)
  (hgf:∀ (y:Value) (J:Nat→World→Prop) (Jx:World→Prop) (W:World),(∀ k W,J k W→∃ Y M,I k M∧St w0 A (Y::M) W)→(∀ k W W',J k W→Ext W W'→J k W')→J 0 W→
   (∀ k args W',xs[k]? = some args→J k W'→fY P y args W' (λ v W''=>(v = .bool true∧J (k+1) W'')∨(v = .bool false∧Jx W'')))→
   Calls P gf ([y]++cap).toArray W (qg λ _ W'=>J xs.length W'∨Jx W'))
  (MM:∀ k args (Y1 Y2:HP) (B:World→(World→Prop)→Prop) (Kr:Option Code→World→Prop) M W,xs[k]? = some args→I k M→
   (∀ M w1 (kk:World→Prop),St w0 A (Y1::M) w1→(∀ w2,St w0 A (Y2::M) w2→kk w2)→B w1 kk)→
   (∀ M w1,St w0 A (Y2::M) w1→I (k+1) M→Kr none w1)→(∀ c M w1,St w0 A (Y2::M) w1→Ix c M→Kr (some c) w1)→
   St w0 A (Y1::M) W→round args W B Kr)
  (aod:∀ D M W,I xs.length M→St w0 A (xB D (.deferred (some []))::M) W→N D W)
  (avG:∀ D M W,Ix .ret M→St w0 A (xB D (.deferred (some []))::M) W→R D W)
  (aoe:∀ id D M W,Ix (.exit id) M→St w0 A (xB D (.deferred (some []))::M) W→X id D W)
  (ahM:∀ c M,Ix c M→(∃ id,c = .exit id)∨c = .ret) :
  Cu P (.func (.func gf) #[] cap.toArray) np w round (aft N R X):=by
 refine ⟨gf,cap.toArray,rfl,pl,λ L0 gk hpe hy=>?_⟩
 obtain ⟨l,hl⟩:∃ l,l=w.heap.size+1:=⟨_,rfl⟩
 obtain ⟨D,hD⟩:∃ D,D=w.heap.size:=⟨_,rfl⟩
 rw [← hl] at hy ⊢
 rw [← hD]
 let J:Nat→World→Prop:=λ k W=>∃ M,I k M∧St w0 A (xB l (.loop L0)::xB D (.deferred (some []))::M) W
 let Jx:World→Prop:=λ W=>∃ c M,Ix c M∧St w0 A (xB l (.loop {L0 with state:=.done,pending:=some c})::xB D (.deferred (some []))::M) W
 have hJ0:J 0 ((w.alloc (.deferred (some []))).alloc (.loop L0)):=by
  refine ⟨L,h0,?_⟩
  have h1:=(hs.alloc (o:=.deferred (some []))).alloc (o:=.loop L0)
  rw [show (w.alloc (.deferred (some []))).heap.size=l from by rw [hl]; exact Gk w _,← hD] at h1
  exact h1
 have:=hgf (.func (.yield l) #[] #[]) J Jx _ (λ k W ⟨M,hI,hS⟩=>⟨_,M,hI,St.join hS⟩) (λ k W W' ⟨M,hI,hS⟩ e=>⟨M,hI,hS.ext e⟩) hJ0 ?_
 ·have e:([Value.func (.yield l) #[] #[]]++cap).toArray = #[.func (.yield l) #[] #[]]++cap.toArray:=by simp
  rw [e] at this
  refine this.mono λ x W' ⟨v,hx,hv⟩=>⟨v,hx,?_⟩
  rcases hv with ⟨M,hI,hS⟩ | ⟨c,M,hI,hS⟩
  ·refine ⟨.ready,none,by simp,?_,?_⟩
   ·rw [← gk,← hpe]; exact hS.obj
   ·exact aod D M _ hI (hS.putObj _).drop
  ·refine ⟨.done,some c,by simp,hS.obj,?_⟩
   rcases ahM c M hI with ⟨id,rfl⟩ | rfl
   ·exact aoe id D M _ hI (hS.putObj _).drop
   ·exact avG D M _ hI (hS.putObj _).drop
 ·intro k args W hk ⟨M,hI,hS⟩
  refine ⟨.inr ⟨l,rfl,?_⟩⟩
  refine hy args W _ (hnp args (List.mem_of_getElem? hk)) hS.obj ?_
  refine MM k args (sep (xB l (.loop L0)) (xB D (.deferred (some [])))) (sep (xB l (.loop {L0 with state:=.busy})) (xB D (.deferred (some [])))) _ _ M W hk hI
   (λ M w1 kk h1 h2=>?_) (λ M w1 h1 h2=>?_) (λ c M w1 h1 h2=>?_) (St.join hS)
  ·have h1:=h1.split
   exact ⟨h1.obj,h2 _ (h1.putObj _).join⟩
  ·have h1:=h1.split
   refine ⟨h1.obj,.inl ⟨rfl,M,h2,?_⟩⟩
   have:=h1.putObj (.loop {L0 with state:=if (none:Option Code).isNone=true then LoopState.ready else LoopState.done,pending:=none})
   rw [Nd L0 gk hpe] at this ⊢
   exact this
  ·have h1:=h1.split
   exact ⟨h1.obj,.inr ⟨rfl,c,M,h2,h1.putObj _⟩⟩
end
section
variable {P:Program} {w w0:World} {A S:Nat→Prop} {L:List HP}
theorem r9 {t:Array TypeId} {T:TypeId} {a b:Int} {K:Value→Prop} (k:K (.int .i64 (min a b))):cT P (Builtin.min_ t T [.int .i64 a,.int .i64 b].toArray) K:=by
 refine ⟨_,?_,k⟩
 show pr P (Builtin.min2 (.int .i64 a) (.int .i64 b))=_
 unfold Builtin.min2
 by_cases h:b<a
 ·simp [h,fe]; omega
 ·simp [h,fe]; omega
theorem wX {t:Array TypeId} {T:TypeId} {a b:Int} {K:Value→Prop} (k:K (.int .i64 (max a b))):cT P (Builtin.max_ t T [.int .i64 a,.int .i64 b].toArray) K:=by
 refine ⟨_,?_,k⟩
 show pr P (Builtin.max2 (.int .i64 a) (.int .i64 b))=_
 unfold Builtin.max2
 by_cases h:a<b
 ·simp [h,fe]; omega
 ·simp [h,fe]; omega
end
section
variable {P:Program} {α:Type} [Flat α] {A:Nat→Prop} {w0 w:World} {L:List HP} {xs:List α}
def Ig (α:Type) [Flat α] (v:Value) (i off:Nat) (p:Value):Prop:=∃ b n c,v = .slice (some ⟨b,0,none⟩) n c∧p = .pointer (some ⟨b,i * Flat.sz α+off,none⟩)
theorem mZ {T f off i:Nat} {v p:Value} {K:Value→Prop} (ht:Df P T f off) (h:Gm α v i p) (k:∀ q,Ig α v i off q→K q):cT P (Instr.fieldAt T p f) K:=by
 obtain ⟨b,n,c,h1,rfl⟩:=h
 exact aA ht (k _ ⟨b,n,c,h1,rfl⟩)
theorem nX {β:Type} [Flat β] {T:Nat} {v p:Value} {i off:Nat} {x:α} (y:β) {K:Value→Prop} (hs:St w0 A (bK v xs::L) w) (ht:cP P T=some (Flat.agg β,Flat.sz β)) (hp:Ig α v i off p) (hx:xs[i]? = some x)
  (hy:((Flat.enc x).drop off).take (Flat.sz β)=Flat.enc y) (k:K (Flat.val y)):C1 P (Instr.loadAt T p) w K:=by
 obtain ⟨F,h,_⟩:=hs.head
 obtain ⟨b,cap,rest,hv,hb,hl,_⟩:=qC h (List.getElem?_eq_some_iff.1 hx).1
 obtain ⟨b',n,c,Di,rfl⟩:=hp
 rw [hv] at Di
 simp only [Value.slice.injEq,Option.some.injEq,Addr.mk.injEq] at Di
 obtain ⟨⟨rfl,_,_⟩,_,_⟩:=Di
 refine aD (S:=λ _=>True) ht ⟨b,i * Flat.sz α+off,rfl,trivial,λ j c hj=>hb.cell ?_⟩ k
 rw [← hy,List.getElem?_take] at hj
 split at hj
 ·rw [List.getElem?_drop] at hj
  have:=tB hx hj
  rw [Nat.add_assoc,List.getElem?_append_left (List.getElem?_eq_some_iff.1 this).1]; exact this
 ·cases hj
theorem Kk {β:Type} [Flat β] {T:Nat} {v p:Value} {i off:Nat} {K:World→Prop} {x:α} (y:α) (z:β) (hs:St w0 A (bK v xs::L) w) (ht:cP P T=some (Flat.agg β,Flat.sz β)) (hp:Ig α v i off p) (hx:xs[i]? = some x)
  (hlen:off+Flat.sz β≤Flat.sz α) (hy:(Flat.enc x).take off++Flat.enc z++(Flat.enc x).drop (off+Flat.sz β)=Flat.enc y)
  (k:∀ w',St w0 A (bK v (xs.set i y)::L) w'→K w'):AN P (Instr.storeAt T p (Flat.val z)) w K:=by
 obtain ⟨U,F,U',g1,g2,g3,g4,g5⟩:=hs.sK
 have hi:=(List.getElem?_eq_some_iff.1 hx).1
 obtain ⟨b,cap,rest,hv,hb,hl,hF⟩:=qC g1 hi
 obtain ⟨b',n,c,Di,rfl⟩:=hp
 rw [hv] at Di
 simp only [Value.slice.injEq,Option.some.injEq,Addr.mk.injEq] at Di
 obtain ⟨⟨rfl,_,_⟩,_,_⟩:=Di
 have RK:=yi hx
 have MZ:(flat (xs.take i)).length=i * Flat.sz α:=by rw [cQ,List.length_take,Nat.min_eq_left (by omega)]
 have hel:i * Flat.sz α+Flat.sz α≤(flat xs).length:=by
  rw [cQ,← Nat.succ_mul]; exact Nat.mul_le_mul_right _ hi
 have O7:(Flat.enc x).length=Flat.sz α:=Flat.len x
 have hzl:(Flat.enc z).length=Flat.sz β:=Flat.len z
 obtain ⟨w',h1,h2,h3⟩:=mi (P:=P) (o:=i * Flat.sz α+off) (Flat.enc z) 0 (flat xs++rest) w hb (by rw [hzl,List.length_append]; omega) (Flat.one z)
 have xt:gV (flat xs++rest) (i * Flat.sz α+off+0) (Flat.enc z)=flat (xs.set i y)++rest:=by
  have:=kI (flat (xs.take i)++(Flat.enc x).take off) (((Flat.enc x).drop off).take (Flat.sz β)) ((Flat.enc x).drop (off+Flat.sz β)++flat (xs.drop (i+1))++rest) (Flat.enc z)
   (by rw [hzl,List.length_take,List.length_drop]; omega)
  rw [List.length_append,MZ,List.length_take,Nat.min_eq_left (by omega)] at this
  rw [Nat.add_zero,J4 y hi,RK,← hy]
  have e1:Flat.enc x=(Flat.enc x).take off++((Flat.enc x).drop off).take (Flat.sz β)++(Flat.enc x).drop (off+Flat.sz β):=by
   rw [← List.drop_drop,List.append_assoc,List.take_append_drop,List.take_append_drop]
  have e2:flat (xs.take i)++Flat.enc x++flat (xs.drop (i+1))++rest=flat (xs.take i)++(Flat.enc x).take off++((Flat.enc x).drop off).take (Flat.sz β)++((Flat.enc x).drop (off+Flat.sz β)++flat (xs.drop (i+1))++rest):=by
   conv=>lhs; rw [e1]
   simp only [List.append_assoc]
  rw [e2,this]
  simp only [List.append_assoc]
 rw [xt] at h2
 refine ⟨w',?_,k w' ⟨hs.aF.trans (h3.mono λ k hk=>(hF k).2 hk) (λ _ h=>h) λ b hb hf=>(g2 b hf).elim id λ hh=>by omega,U,F,U',?_,g2,g3,g4,
  g5.loc λ b hb=>(h3.mono λ k hk=>(hF k).2 hk).cD b (g5.lt b hb) λ hf=>g3 b hf hb⟩⟩
 ·show (storeVar T ⟨b,i * Flat.sz α+off,none⟩ (Flat.val z)).run P w=_
  unfold storeVar
  rw [dH (fo (jB ht).2 w),oI]
  simp only [List.size_toArray,Flat.len,ne_eq,not_true_eq_false,if_false]
  exact h1
 ·refine .inr ⟨b,cap,rest,by rw [List.length_set]; exact hv,h2,?_,hF⟩
  rw [← hl,List.length_append,List.length_append,cQ,cQ,List.length_set]
theorem uK {T:Nat} {b o:Nat} {cs:List Value} (x:α) {K:Value→Prop} (ht:cP P T=some (Flat.agg α,Flat.sz α)) (hb:tz w b cs) (hx:(cs.drop o).take (Flat.sz α)=Flat.enc x) (k:K (Flat.val x)) :
  C1 P (Instr.loadAt T (.pointer (some ⟨b,o,none⟩))) w K:=by
 refine aD (S:=λ _=>True) ht ⟨b,o,rfl,trivial,λ j c hj=>hb.cell ?_⟩ k
 rw [← hx,List.getElem?_take] at hj
 split at hj
 ·rw [List.getElem?_drop] at hj; exact hj
 ·cases hj
end
structure SV where
 a:Option Addr
 n:Nat
 cap:Nat
instance:Flat SV where
 agg:=false
 sz:=1
 enc s:=[.slice s.a s.n s.cap]
 val s:=.slice s.a s.n s.cap
 pos:=by decide
 len _:=rfl
 one a v h:=by rw [List.mem_singleton.1 h]; rfl
 nO h:=by cases h
 oy _ _:=rfl
section
variable {P:Program} {α:Type} [Flat α] {A:Nat→Prop} {w0 w:World} {L L':List HP} {v:Value}
def rows:List SV→List (List α)→HP
 | [],[]=>emp
 | s::ss,x::xs=>sep (bK (Flat.val s) x) (rows ss xs)
 | _,_=>fact False emp
theorem Kl:∀ {ss:List SV} {xs:List (List α)} {F:Nat→Prop},(rows ss xs).p w F→ss.length=xs.length
 | [],[],_,_=>rfl
 | s::ss,x::xs,F,h=>by
  obtain ⟨F1,F2,_,h2,_,_⟩:=h
  rw [List.length_cons,List.length_cons,Kl h2]
 | [],_::_,_,h=>h.1.elim
 | _::_,[],_,h=>h.1.elim
theorem Gs:∀ {ss:List SV} {xs:List (List α)} {F1 F2 F:Nat→Prop} {s:SV} {x:List α},(rows ss xs).p w F1→(bK (Flat.val s) x).p w F2→(∀ b,F1 b→¬ F2 b)→(∀ b,F b↔F1 b∨F2 b)→(rows (ss++[s]) (xs++[x])).p w F
 | [],[],F1,F2,F,s,x,h1,h2,_,h4=>by
  refine ⟨F2,F1,h2,h1,λ b hb Ih=>h1 b Ih,λ b=>?_⟩
  rw [h4 b]; exact ⟨λ h=>h.symm,λ h=>h.symm⟩
 | s'::ss,x'::xs,F1,F2,F,s,x,h1,h2,h3,h4=>by
  obtain ⟨G1,G2,g1,g2,g3,g4⟩:=h1
  refine ⟨G1,λ b=>G2 b∨F2 b,g1,Gs g2 h2 (λ b hb=>h3 b ((g4 b).2 (.inr hb))) (λ b=>Iff.rfl),λ b hb=>?_,λ b=>?_⟩
  ·rintro (hh | hh)
   ·exact g3 b hb hh
   ·exact h3 b ((g4 b).2 (.inl hb)) hh
  ·rw [h4 b,g4 b,or_assoc]
 | [],_::_,_,_,_,_,_,h,_,_,_=>h.1.elim
 | _::_,[],_,_,_,_,_,h,_,_,_=>h.1.elim
theorem St.zx {ss:List SV} {xs:List (List α)} (hs:St w0 A (rows ss xs::L) w):ss.length=xs.length:=by
 obtain ⟨F,h,_⟩:=hs.head; exact Kl h
theorem St.abp (hs:St w0 A L w):St w0 A (rows [] ([]:List (List α))::L) w:=
 hs.new (Ext.refl w) (F:=bD) (λ _ h=>h) λ _ h=>h.elim
theorem St.Dy {ss:List SV} {xs:List (List α)} {s:SV} {x:List α} (hs:St w0 A (rows ss xs::bK (Flat.val s) x::L) w):St w0 A (rows (ss++[s]) (xs++[x])::L) w:=by
 have h:=St.join hs
 refine h.rM λ F hF=>?_
 obtain ⟨F1,F2,h1,h2,h3,h4⟩:=hF
 exact ⟨F,Gs h1 h2 h3 h4,λ b hb=>.inl hb,iy.refl _ _⟩
theorem St.fQ {xs:List α} (hs:St w0 A (bK v xs::L) w):∃ s:SV,v=Flat.val s:=by
 obtain ⟨F,h,_⟩:=hs.head
 rcases h with ⟨rfl,_⟩ | ⟨b,cap,_,rfl,_⟩
 ·exact ⟨⟨none,0,0⟩,rfl⟩
 ·exact ⟨⟨_,_,_⟩,rfl⟩
theorem eI.fQ {S:Nat→Prop} {xs:List α} (h:eI S w v xs):∃ s:SV,v=Flat.val s:=by
 obtain ⟨a,cap,rfl,_⟩:=h; exact ⟨⟨_,_,_⟩,rfl⟩
end
section
variable {P:Program}
theorem kL {α:Type} [Flat α] {S:Nat→Prop} {w:World} {xs:List α} {T E ox:Nat} {z:Option Nat} {v:Value} {i:Int} {K:Value→Prop} (ht:fa P T=some (E,Flat.sz α,ox,z)) (hr:eI S w v xs) (h0:0≤i) (h2:i≤xs.length)
  (k:∀ v',(∀ w',eI S w' v xs→eI S w' v' (xs.take i.toNat))→K v'):cT P (Instr.sliceAt T v none (some (.int .i64 i)) none) K:=by
 obtain ⟨a,cap,rfl,J0,h3⟩:=hr
 refine ⟨_,AV ht (qB (.inl ⟨rfl,rfl⟩) (.inr ⟨i,rfl,h0,rfl⟩) (Nat.zero_le _) (by omega)),k _ λ w' h=>?_⟩
 have:=h.cut rfl (Nat.zero_le i.toNat) (by omega)
 simpa using this
end
open Go.ChangeShapes Go.WideShapes Go.ChangeAt Go.RowKit
structure RdT (P:Program) (t:TypeId) (α:Type) [Flat α] (φ:α→Prop):Prop where
 cells:P.cellsOf t=Flat.sz α
 rd:∀ {H:Type} (enc:TypeId × Value→H) (w:World) (base:Nat) (sp:Nat→Bool) (held:Bool) (fuel:Nat) (cs:List Value) (x:DataW H × List MemPlace),
  DataW.trod enc P w base sp held fuel t cs=some x→∃ a:α,cs=Flat.enc a∧φ a
def my (n:Int):Prop:=-9223372036854775808≤n∧n≤9223372036854775807
theorem ahN {P:Program} {t:TypeId} (ht:P.underlying t=some (.int .i64)) (hc:P.cellsOf t=1):RdT P t Int my:=
 ⟨hc,λ enc w base sp held fuel cs x h=>by
  obtain ⟨n,h1,_,h3⟩:=DataW.trod_int ht h
  refine ⟨n,h1,?_⟩
  simpa [Lit.wf,IntKind.min,IntKind.max,IntKind.signed,IntKind.bits,my] using h3⟩
theorem ahO {P:Program} {t:TypeId} (ht:P.underlying t=some .string) (hc:P.cellsOf t=1):RdT P t ByteArray (λ s=>s.size≤maxLen):=
 ⟨hc,λ enc w base sp held fuel cs x h=>by
  obtain ⟨n,h1,_,h2⟩:=DataW.trod_string ht h
  exact ⟨n,h1,h2⟩⟩
theorem lX {H:Type} {enc:TypeId × Value→H} {P:Program} {w:World} {base:Nat} {sp:Nat→Bool} {held:Bool} {fuel:Nat} {t:TypeId} {fs:Array Field} {cs:List Value} {x:DataW H × List MemPlace}
  (ht:P.underlying t=some (.struct fs)) (h:DataW.trod enc P w base sp held fuel t cs=some x) :
  cs.length=P.cellsOf t∧∃ n,∀ (i:Nat) (f:Field),fs[i]? = some f→∃ y,DataW.trod enc P w base sp held n f.type ((cs.drop f.offset).take (P.cellsOf f.type))=some y:=by
 obtain ⟨xs,n,_,_,hl,hs,hf⟩:=DataW.trod_struct ht h
 refine ⟨hl,n,λ i f hi=>?_⟩
 have mv:i<xs.length:=by rw [hs]; exact (Array.getElem?_eq_some_iff.1 hi).1
 exact ⟨xs[i],by rw [hf i f hi,List.getElem?_eq_getElem mv]⟩
theorem dR {cs:List Value} {o s:Nat} {r:List Value} (h:(cs.drop o).take s=r):cs.drop o=r++cs.drop (o+s):=by
 rw [← h,← List.drop_drop,List.take_append_drop]
theorem abq {α:Type} {p:Nat→α→Prop}:∀ n,(∀ i,i<n→∃ x,p i x)→∃ xs:List α,xs.length=n∧∀ i x,xs[i]? = some x→p i x:=by
 intro n
 induction n with
 | zero=>intro _; exact ⟨[],rfl,by simp⟩
 | succ n ih=>
  intro h
  obtain ⟨xs,h1,h2⟩:=ih λ i hi=>h i (by omega)
  obtain ⟨x,hx⟩:=h n (by omega)
  refine ⟨xs++[x],by simp [h1],λ i y hy=>?_⟩
  by_cases hi:i<n
  ·rw [List.getElem?_append_left (by omega)] at hy; exact h2 i y hy
  ·have mv:i<(xs++[x]).length:=(List.getElem?_eq_some_iff.1 hy).1
   have:i=n:=by simp [h1] at mv; omega
   subst this
   rw [List.getElem?_append_right (by omega),h1] at hy
   simp at hy
   rw [← hy]; exact hx
theorem Nf {α:Type} [Flat α] {xs:List α} {j:Nat} {c:Value} (h:(flat xs)[j]? = some c):∃ i r x,xs[i]? = some x∧(Flat.enc x)[r]? = some c∧j=i * Flat.sz α+r:=by
 have mv:j<(flat xs).length:=(List.getElem?_eq_some_iff.1 h).1
 rw [cQ] at mv
 have hp:0<Flat.sz α:=Flat.pos
 have hi:j / Flat.sz α<xs.length:=Nat.div_lt_of_lt_mul (by rw [Nat.mul_comm]; exact mv)
 have hr:j % Flat.sz α<Flat.sz α:=Nat.mod_lt _ hp
 have hj:j=j / Flat.sz α * Flat.sz α+j % Flat.sz α:=by rw [Nat.mul_comm]; exact (Nat.div_add_mod _ _).symm
 have hx:xs[j / Flat.sz α]? = some (xs[j / Flat.sz α]):=List.getElem?_eq_getElem hi
 have hc:(Flat.enc (xs[j / Flat.sz α]))[j % Flat.sz α]? = some ((Flat.enc (xs[j / Flat.sz α]))[j % Flat.sz α]'(by rw [Flat.len]; exact hr)):=List.getElem?_eq_getElem _
 have:=tB hx hc
 rw [← hj,h] at this
 exact ⟨_,_,_,hx,hc.trans this.symm,hj⟩
section
variable {H:Type} {enc:TypeId × Value→H} {P:Program} {w:World} {base:Nat} {held:Bool}
def Ii (P:Program) (ts:List TypeId):Bool:=ts.all λ t=>P.readableRec t && decide (t<P.types.size)
theorem xS (hl:laidOutB P=true) {W W':World} (hb:Below W.heap.size W W') {sp:Nat→Bool}:∀ {ts:List TypeId} {vs:List Value} {ds:List (DataW H)} {ps:List MemPlace},Ii P ts=true→(∀ x∈ps,x.block<W.heap.size)→
  (∀ x∈ps,sp x.block=true)→DataW.TrodAll enc P W 0 (λ _=>true) true ts vs ds ps→DataW.TrodAll enc P W' 0 sp true ts vs ds ps
 | [],vs,ds,ps,_,_,_,h=>by obtain ⟨rfl,rfl,rfl⟩:=trodAll_nil h; exact trodAll_mk0
 | t::ts,vs,ds,ps,hr,mv,RK,h=>by
  obtain ⟨v,vs1,d,ds1,a,b,rfl,rfl,rfl,h1,h2⟩:=trodAll_cons h
  have Yd:P.readableRec t=true∧t<P.types.size∧Ii P ts=true:=by
   unfold Ii at hr
   rw [List.all_cons,Bool.and_eq_true,Bool.and_eq_true,decide_eq_true_eq] at hr
   exact ⟨hr.1.1,hr.1.2,hr.2⟩
  refine trodAll_cons_mk (WideElems.Trod_stays hl Yd.1 Yd.2.1 h1 (λ x hx=>hb.same (mv x (List.mem_append_left _ hx))) (λ x hx=>RK x (List.mem_append_left _ hx))) ?_
  exact xS hl hb Yd.2.2 (λ x hx=>mv x (List.mem_append_right _ hx)) (λ x hx=>RK x (List.mem_append_right _ hx)) h2
theorem post_true {f:Func} {s:ChangeSpec} {apart fresh handsOn again:Bool} {W W':World} {args:Array Value} {ds gs:List (DataW H)} {before:List MemPlace} {tb:TypeId}
  (aeQ:s.vars=[]) (Km:∀ ds:List (DataW H),ds.length=f.params.size→s.fn H ds={results:=[.lit (.bool true)],args:=ds}) (aof:f.resultTypes = #[tb]) (htb:P.underlying tb=some .bool)
  (hl:laidOutB P=true) (avJ:Ii P f.params.toList=true)
  (hW:DataW.Whole enc P f.params.toList s.vars apart W args.toList ds gs before) (hb:Below W.heap.size W W') :
  s.post enc P f apart fresh handsOn again W args (.bool true) W':=by
 have hW':=hW
 obtain ⟨p,q,hA,hV,hpq,hz,hn⟩:=hW
 have mv:∀ x∈before,x.block<W.heap.size:=hW'.lt
 rw [aeQ] at hV
 obtain ⟨rfl,rfl⟩:=trodVars_none hV
 simp only [List.append_nil] at hpq
 have hlen:ds.length=f.params.size:=by
  have:=(trodAll_length hA).2
  simpa using this
 have ahP:=Km ds hlen
 have aeR:∀ (b:Nat) (sp:Nat→Bool) (hd:Bool),DataW.TrodAll enc P W' b sp hd f.resultTypes.toList ((Value.bool true).resultList f.resultTypes.size) (s.fn H (ds++[])).results []:=λ b sp hd=>by
  rw [List.append_nil,ahP,aof]
  exact trodAll_mk1 (shut_bool htb true)
 have hargs:∀ sp:Nat→Bool,(∀ p∈before,sp p.block=true)→DataW.TrodAll enc P W' 0 sp true f.params.toList args.toList (s.fn H (ds++[])).args before:=λ sp RK=>by
  rw [List.append_nil,ahP]
  rw [hpq] at mv RK ⊢
  exact xS hl hb avJ mv RK hA
 have Ux:∀ sp:Nat→Bool,DataW.TrodVars enc P W' sp s.vars (s.fn H (ds++[])).vars []:=λ sp=>by
  rw [List.append_nil,ahP,aeQ]; rfl
 have oB:∀ (j:Nat) (t:TypeId) (r:Value),f.resultTypes[j]? = some t→((Value.bool true).resultList f.resultTypes.size)[j]? = some r→Value.okWide P W' .any 0 t r:=
  ok_one aof rfl (okWide_bool_mk htb true)
 have hold:∀ p∈before,(λ b=>decide (b<W.heap.size)) p.block=true:=λ p hp=>by simpa using mv p hp
 refine ⟨ds,[],before,[],before,[],hW',aeR _ _ _,hargs _ hold,Ux _,World.keptBut_mono (λ p hp=>⟨hp,?_⟩) (hb.frame (·∈before)),λ _=>?_⟩
 ·simpa using hp
 ·refine ⟨oB,_,_,([]++before)++[],⟨[]++before,[],trodAll_append (hargs _ (λ _ _=>rfl)) (aeR _ _ _),Ux _,rfl,?_,?_⟩,?_⟩
  ·intro b off hp
   have hp':MemPlace.cell b off∈before:=by simpa using hp
   rw [hb.frozen (p:=⟨b,off,none⟩) (mv _ hp')]
   exact hz b off hp'
  ·intro ha; simpa using hn ha
  ·intro p hp _; simpa using hp
end
section
variable {P:Program} {α:Type} [Flat α]
def aog (P:Program) (T n E:Nat):Prop:=P.underlying T=some (.array n E)∧pr P (sizeOf E)=some 1
theorem nY {T E n b o:Nat} {i:Int} {K:Value→Prop} (h:aog P T n E) (h0:0≤i) (h1:i<n) (k:K (.pointer (some ⟨b,o+i.toNat,none⟩))) :
  cT P (Instr.indexAt T (.pointer (some ⟨b,o,none⟩)) (.int .i64 i)) K:=by
 refine ⟨_,?_,k⟩
 unfold Instr.indexAt
 have e1:pr P (underlying T)=some (.array n E):=cL h.1
 have e3:pr P (Instr.sureAddr (.pointer (some (⟨b,o,none⟩:Addr))))=some ⟨b,o,none⟩:=rfl
 simp only [asIntOf,cM,e1,Option.bind_some,fe,e3]
 simp only [if_pos (show 0≤i∧i<(n:Int) from ⟨h0,h1⟩),cM,h.2,Option.bind_some,fe,gM,Nat.mul_one]
end
theorem PK {α:Type} [Flat α] {P:Program} {w w0:World} {A:Nat→Prop} {L:List HP} {xs:List α} {T:Nat} {v p:Value} {i:Nat} {x:α} (hs:St w0 A (bK v xs::L) w) (ht:cP P T=some (Flat.agg α,Flat.sz α)) (hp:Gm α v i p) (hx:xs[i]? = some x) :
  (Instr.loadAt T p).run P w = .ok (Flat.val x) w:=by
 obtain ⟨F,h,_⟩:=hs.head
 obtain ⟨b,cap,rest,hv,hb,hl,_⟩:=qC h (List.getElem?_eq_some_iff.1 hx).1
 obtain ⟨b',n,c,Di,rfl⟩:=hp
 rw [hv] at Di
 simp only [Value.slice.injEq,Option.some.injEq,Addr.mk.injEq] at Di
 obtain ⟨⟨rfl,_,_⟩,_,_⟩:=Di
 refine fP (S:=λ _=>True) ht ⟨b,i * Flat.sz α,rfl,trivial,λ j c hj=>hb.cell ?_⟩
 have:=tB hx hj
 rw [List.getElem?_append_left (List.getElem?_eq_some_iff.1 this).1]; exact this
class cA (α:Type) (σ:outParam Type) [Flat σ] where
 dr:World→σ→α→Prop
 ext:∀ {w w':World} {s:σ} {x:α},dr w s x→Ext w w'→dr w' s x
def DL {α σ:Type} [Flat σ] [cA α σ] (w:World) (v:Value) (xs:List α):Prop:=
 ∃ ts:List σ,eI (λ _=>True) w v ts∧ts.length=xs.length∧∀ (i:Nat) (t:σ) (x:α),ts[i]? = some t→xs[i]? = some x→cA.dr w t x
section
variable {P:Program} {α σ:Type} [Flat σ] [cA α σ] {w w' w0:World} {v:Value} {A:Nat→Prop} {L:List HP}
theorem DL.ext {xs:List α} (h:DL w v xs) (e:Ext w w'):DL w' v xs:=by
 obtain ⟨ts,h1,h2,h3⟩:=h; exact ⟨ts,h1.ext e,h2,λ i t x a b=>cA.ext (h3 i t x a b) e⟩
theorem DL.nil (w:World):DL w (.slice none 0 0) ([]:List α):=⟨[],eI.nil _ _,rfl,λ i t x h=>by simp at h⟩
theorem DL.fQ {xs:List α} (h:DL w v xs):∃ s:SV,v=Flat.val s:=by obtain ⟨_,h,_⟩:=h; exact h.fQ
instance:cA (List α) SV where
 dr w s xs:=DL w (Flat.val s) xs
 ext h e:=DL.ext h e
def eX (Φ:World→Prop):HP where
 p w F:=(∀ w':World,(∀ b,F b→w'.heap[b]? = w.heap[b]?)→Φ w')∧∀ b,F b→b<w.heap.size
 loc w w' F h hh:=⟨λ w2 h2=>h.1 w2 λ b hb=>(h2 b hb).trans (hh b hb),λ b hb=>by
  have:=h.2 b hb
  have h3:=hh b hb
  rw [Array.getElem?_eq_getElem this] at h3
  exact (Array.getElem?_eq_some_iff.1 h3).1⟩
 lt w F b h hb:=h.2 b hb
theorem eX.now {Φ:World→Prop} {F:Nat→Prop} (h:(eX Φ).p w F):Φ w:=h.1 w λ _ _=>rfl
theorem St.eX {Φ:World→Prop} (hs:St w0 A (eX Φ::L) w):Φ w:=by obtain ⟨F,h,_⟩:=hs.head; exact eX.now h
theorem St.dN {Φ Ψ:World→Prop} (hs:St w0 A (Fw.eX Φ::L) w) (hk:∀ w,Φ w→Ψ w):St w0 A (Fw.eX Ψ::L) w:=
 hs.rM λ F hF=>⟨F,⟨λ w' h=>hk _ (hF.1 w' h),hF.2⟩,λ b hb=>.inl hb,iy.refl _ _⟩
theorem St.fL {Φ Ψ:World→Prop} (hs:St w0 A (Fw.eX Φ::Fw.eX Ψ::L) w):St w0 A (Fw.eX (λ w=>Φ w∧Ψ w)::L) w:=by
 have h:=St.join hs
 refine h.rM λ F hF=>?_
 obtain ⟨F1,F2,h1,h2,h3,h4⟩:=hF
 refine ⟨F,⟨λ w' hh=>⟨h1.1 w' λ b hb=>hh b ((h4 b).2 (.inl hb)),h2.1 w' λ b hb=>hh b ((h4 b).2 (.inr hb))⟩,λ b hb=>?_⟩,λ b hb=>.inl hb,iy.refl _ _⟩
 rcases (h4 b).1 hb with hb | hb
 ·exact h1.2 b hb
 ·exact h2.2 b hb
theorem St.gE {Φ:World→Prop} (hs:St w0 A L w) (h:∀ w,Φ w):St w0 A (Fw.eX Φ::L) w:=
 hs.new (Ext.refl w) (F:=bD) ⟨λ w' _=>h w',λ b hb=>hb.elim⟩ λ _ h=>h.elim
theorem St.freeze {xs:List σ} (hs:St w0 A (bK v xs::L) w):St w0 A (Fw.eX (λ w=>eI (λ _=>True) w v xs)::L) w:=
 hs.rM λ F hF=>⟨F,⟨λ w' h=>(bK.rd ((bK v xs).loc _ _ _ hF h)).mono λ _ _=>trivial,λ b hb=>(bK v xs).lt _ _ _ hF hb⟩,λ b hb=>.inl hb,iy.refl _ _⟩
theorem St.qD {b:Nat} {cs:List Value} (hs:St w0 A (cD b cs::L) w):St w0 A (Fw.eX (λ w=>tz w b cs)::L) w:=
 hs.rM λ F hF=>⟨F,⟨λ w' h=>((cD b cs).loc _ _ _ hF h).1,λ k hk=>(cD b cs).lt _ _ _ hF hk⟩,λ b hb=>.inl hb,iy.refl _ _⟩
def jO (ts:List σ) (xs:List α) (w:World):Prop:=ts.length=xs.length∧∀ (i:Nat) (t:σ) (x:α),ts[i]? = some t→xs[i]? = some x→cA.dr w t x
theorem jO.nil:jO ([]:List σ) ([]:List α) w:=⟨rfl,λ i t x h=>by simp at h⟩
theorem jO.snoc {ts:List σ} {xs:List α} {t:σ} {x:α} (h:jO ts xs w) (ht:cA.dr w t x):jO (ts++[t]) (xs++[x]) w:=by
 refine ⟨by rw [List.length_append,List.length_append,h.1]; rfl,λ i t' x' h1 h2=>?_⟩
 rcases Nat.lt_or_ge i ts.length with hi | hi
 ·rw [List.getElem?_append_left hi] at h1
  rw [List.getElem?_append_left (by rw [← h.1]; exact hi)] at h2
  exact h.2 i t' x' h1 h2
 ·have mv:=(List.getElem?_eq_some_iff.1 h1).1
  rw [List.length_append,List.length_singleton] at mv
  obtain rfl:i=ts.length:=by omega
  rw [List.getElem?_append_right (Nat.le_refl _),Nat.sub_self] at h1
  rw [List.getElem?_append_right (by rw [h.1]; exact Nat.le_refl _),h.1,Nat.sub_self] at h2
  rw [← Option.some.inj h1,← Option.some.inj h2]; exact ht
theorem jO.append {ts us:List σ} {xs ys:List α} (h:jO ts xs w) (g:jO us ys w):jO (ts++us) (xs++ys) w:=by
 refine ⟨by rw [List.length_append,List.length_append,h.1,g.1],λ i t' x' h1 h2=>?_⟩
 rcases Nat.lt_or_ge i ts.length with hi | hi
 ·rw [List.getElem?_append_left hi] at h1
  rw [List.getElem?_append_left (by rw [← h.1]; exact hi)] at h2
  exact h.2 i t' x' h1 h2
 ·rw [List.getElem?_append_right hi] at h1
  rw [List.getElem?_append_right (by rw [← h.1]; exact hi),← h.1] at h2
  exact g.2 _ t' x' h1 h2
theorem DL.of {ts:List σ} {xs:List α} (h:eI (λ _=>True) w v ts) (g:jO ts xs w):DL w v xs:=⟨ts,h,g.1,g.2⟩
theorem DL.open {xs:List α} (h:DL w v xs):∃ ts:List σ,eI (λ _=>True) w v ts∧jO ts xs w:=by obtain ⟨ts,h1,h2,h3⟩:=h; exact ⟨ts,h1,h2,h3⟩
theorem jO.take {ts:List σ} {xs:List α} (h:jO ts xs w) (k:Nat):jO (ts.take k) (xs.take k) w:=by
 refine ⟨by rw [List.length_take,List.length_take,h.1],λ i t x a b=>?_⟩
 rw [List.getElem?_take] at a b
 split at a
 ·rename_i hi; rw [if_pos hi] at b; exact h.2 i t x a b
 ·cases a
theorem jO.drop {ts:List σ} {xs:List α} (h:jO ts xs w) (k:Nat):jO (ts.drop k) (xs.drop k) w:=by
 refine ⟨by rw [List.length_drop,List.length_drop,h.1],λ i t x a b=>?_⟩
 rw [List.getElem?_drop] at a b
 exact h.2 _ t x a b
end
section
variable {α:Type} [Flat α]
abbrev jb:cA α α:=⟨λ _ s x=>s=x,λ h _=>h⟩
theorem Gt [D:cA α α] (hD:∀ w s x,D.dr w s x↔s=x) {w:World} {ts xs:List α}:jO ts xs w↔ts=xs:=by
 constructor
 ·rintro ⟨h1,h2⟩
  refine List.ext_getElem? λ i=>?_
  rcases Nat.lt_or_ge i ts.length with hi | hi
  ·have a:=List.getElem?_eq_getElem hi
   have b:=List.getElem?_eq_getElem (l:=xs) (by rw [← h1]; exact hi)
   rw [a,b,(hD _ _ _).1 (h2 i _ _ a b)]
  ·rw [List.getElem?_eq_none hi,List.getElem?_eq_none (by rw [← h1]; exact hi)]
 ·rintro rfl
  exact ⟨rfl,λ i t x a b=>(hD _ _ _).2 (Option.some.inj (a.symm.trans b))⟩
end
instance:cA Int Int:=jb
instance:cA Bool Bool:=jb
instance:cA ByteArray ByteArray:=jb
structure RdW (P:Program) (w:World) (t:TypeId) (α:Type) [Flat α] (φ:α→Prop):Prop where
 cells:P.cellsOf t=Flat.sz α
 rd:∀ {H:Type} (enc:TypeId × Value→H) (base:Nat) (held:Bool) (fuel:Nat) (cs:List Value) (x:DataW H × List MemPlace),
  DataW.trod enc P w base (λ _=>true) held fuel t cs=some x→∃ a:α,cs=Flat.enc a∧φ a
def xU (P:Program) (t:TypeId) (α:Type) {σ:Type} [Flat σ] [cA α σ] (φ:α→Prop):Prop:=∀ w,RdW P w t σ (λ s=>∃ a:α,cA.dr w s a∧φ a)
theorem RdT.deep {P:Program} {t:TypeId} {α:Type} [Flat α] [D:cA α α] {φ:α→Prop} (h:RdT P t α φ) (hD:∀ w (x:α),D.dr w x x):xU P t α φ:=
 λ w=>⟨h.cells,λ enc base held fuel cs x hx=>by
  obtain ⟨a,h1,h2⟩:=h.rd enc w base _ held fuel cs x hx; exact ⟨a,h1,a,hD w a,h2⟩⟩
section
variable {H:Type} {enc:TypeId × Value→H} {P:Program} {w:World} {base:Nat} {held:Bool}
theorem Kn {α:Type} [Flat α] {φ:α→Prop} {t e:TypeId} {fuel:Nat} {cs:List Value} {x:DataW H × List MemPlace} (ht:P.underlying t=some (.slice e)) (hr:RdW P w e α φ)
  (h:DataW.trod enc P w base (λ _=>true) held fuel t cs=some x):∃ v,cs=[v]∧∃ xs:List α,eI (λ b=>b<w.heap.size) w v xs∧∀ x∈xs,φ x:=by
 rcases DataW.trod_slice ht h with ⟨rfl,_⟩ | ⟨a,len,cap,elems,rest,n,_,rfl,_,hb,hl,hm,hlen,hel,RK,_⟩
 ·exact ⟨_,rfl,[],eI.nil _ _,by simp⟩
 ·refine ⟨_,rfl,?_⟩
  have get:∀ i,i<len→∃ x:α,φ x∧w.cells? base (a.add (i * P.cellsOf e)) (P.cellsOf e)=some (Flat.enc x):=by
   intro i hi
   have h1:=hel i hi
   rw [List.getElem?_eq_getElem (by omega)] at h1
   obtain ⟨cs',h2,h3⟩:=Option.bind_eq_some_iff.1 h1
   obtain ⟨x,rfl,hx⟩:=hr.rd enc base held n cs' _ h3
   exact ⟨x,hx,h2⟩
  obtain ⟨xs,O7,hxs⟩:=abq len get
  have lz:=hr.cells
  have zh:0<Flat.sz α:=Flat.pos
  have first:∀ (c:Nat) (cs':List Value),w.cells? base (a.add (c * P.cellsOf e)) (P.cellsOf e)=some cs'→c=0→a.spot=none:=by
   intro c cs' h1 h0
   subst h0
   have:=World.cells?_some h1
   have h2:=this.2.2 0 (by rw [lz]; exact zh)
   rw [Nat.zero_mul] at h2
   have h3:w.cell? a=cs'[0]?:=by simpa [Addr.add] using h2
   rw [List.getElem?_eq_getElem (by rw [this.2.1,lz]; exact zh)] at h3
   unfold World.cell? at h3
   split at h3
   ·split at h3
    ·cases h3
    ·rename_i hs; simpa using hs
   ·cases h3
  refine ⟨xs,⟨some a,cap,by rw [O7],by omega,?_⟩,λ x hx=>?_⟩
  ·by_cases zg:cap=0
   ·exact .inl ⟨List.length_eq_zero_iff.1 (by omega),zg⟩
   ·right
    have PN:a.spot=none:=by
     by_cases h0:0<len
     ·obtain ⟨x,_,hx⟩:=get 0 h0
      exact first 0 _ hx rfl
     ·obtain ⟨h1,h2⟩:=RK rfl
      have h3:=h2 0 (by omega)
      rw [List.getElem?_eq_getElem (by omega)] at h3
      obtain ⟨cs',h4,_⟩:=Option.bind_eq_some_iff.1 h3
      exact first (len+0) _ h4 (by omega)
    have Dz:∀ j c,(flat xs)[j]? = some c→Cell w a.block (a.off+j) c:=by
     intro j c hj
     obtain ⟨i,r,x,hx,CA,rfl⟩:=Nf hj
     have h1:=(World.cells?_some (hxs i x hx).2).2.2 r (by rw [lz]; have:=(List.getElem?_eq_some_iff.1 CA).1; rwa [Flat.len] at this)
     rw [CA,lz] at h1
     obtain ⟨b,o,s⟩:=a
     simp only at PN
     subst PN
     unfold Cell
     rw [← h1,gM,gM,Nat.add_assoc]
    refine ⟨a.block,a.off,by obtain ⟨b,o,s⟩:=a; simp only at PN; subst PN; rfl,λ B7=>?_,Dz⟩
    obtain ⟨y,ys,rfl⟩:=List.exists_cons_of_ne_nil B7
    have h0:(flat (y::ys))[0]? = some ((Flat.enc y)[0]'(by rw [Flat.len]; exact zh)):=by
     rw [i0,List.getElem?_append_left (by rw [Flat.len]; exact zh),List.getElem?_eq_getElem]
    exact (Dz 0 _ h0).lt
  ·obtain ⟨i,hi⟩:=List.getElem?_of_mem hx
   exact (hxs i x hi).1
theorem Ng {α σ:Type} [Flat σ] [cA α σ] {φ:α→Prop}:∀ (ts:List σ),(∀ s∈ts,∃ a:α,cA.dr w s a∧φ a)→∃ xs:List α,jO ts xs w∧∀ x∈xs,φ x
 | [],_=>⟨[],jO.nil,by simp⟩
 | t::ts,h=>by
  obtain ⟨a,h1,h2⟩:=h t (by simp)
  obtain ⟨xs,h3,h4⟩:=Ng ts λ s hs=>h s (List.mem_cons_of_mem _ hs)
  refine ⟨a::xs,?_,λ x hx=>?_⟩
  ·have:jO ([]++[t]) ([]++[a]) w:=jO.nil.snoc h1
   exact this.append h3
  ·rcases List.mem_cons.1 hx with rfl | hx
   ·exact h2
   ·exact h4 x hx
theorem xU.slice {α σ:Type} [Flat σ] [cA α σ] {φ:α→Prop} {t e:TypeId} (ht:P.underlying t=some (.slice e)) (hc:P.cellsOf t=1) (hr:xU P e α φ):xU P t (List α) (λ xs=>∀ x∈xs,φ x):=
 λ w=>⟨hc,λ enc base held fuel cs x hx=>by
  obtain ⟨v,rfl,ts,h1,h2⟩:=Kn ht (hr w) hx
  obtain ⟨xs,h3,h4⟩:=Ng ts h2
  have h1':eI (λ _=>True) w v ts:=h1.mono λ _ _=>trivial
  obtain ⟨s,rfl⟩:=h1'.fQ
  exact ⟨s,rfl,xs,DL.of h1' h3,h4⟩⟩
theorem open_dl {α σ:Type} [Flat σ] [cA α σ] {φ:α→Prop} {t e:TypeId} {r:Reach} {b0:Nat} {v:Value} {d:DataW H} {ps:List MemPlace} (ht:P.underlying t=some (.slice e)) (hr:xU P e α φ)
  (hval:Value.okWide P w r b0 t v) (hd:DataW.Trod enc P w base (λ _=>true) held t v d ps):∃ xs:List α,DL w v xs∧∀ x∈xs,φ x:=by
 obtain ⟨fuel,hf⟩:=hd
 obtain ⟨u,hu,ts,h1,h2⟩:=Kn ht (hr w) hf
 have hv:v=u:=by
  have h1:=hval
  unfold Value.okWide at h1
  rw [ht] at h1
  cases v with
  | slice a n c=>exact (List.cons.inj (show [Value.slice a n c]=[u] from hu)).1
  | _=>
   have h2:Cell.okWide P w r b0 t _:=h1
   unfold Cell.okWide at h2
   rw [ht] at h2
   simp only [Cell.ok,ht] at h2
 subst hv
 obtain ⟨xs,h3,h4⟩:=Ng ts h2
 exact ⟨xs,DL.of (h1.mono λ _ _=>trivial) h3,h4⟩
theorem open_dst {α σ:Type} [Flat σ] [cA α σ] {φ:α→Prop} {t:TypeId} {fs:Array Field} {r:Reach} {b0:Nat} {v:Value} {d:DataW H} {ps:List MemPlace} (ht:P.underlying t=some (.struct fs)) (ha:Flat.agg σ=true)
  (hr:xU P t α φ) (hval:Value.okWide P w r b0 t v) (hd:DataW.Trod enc P w base (λ _=>true) held t v d ps):∃ (s:σ) (x:α),v=Flat.val s∧cA.dr w s x∧φ x:=by
 obtain ⟨fuel,hf⟩:=hd
 obtain ⟨s,hs,x,h1,h2⟩:=(hr w).rd enc base held fuel _ _ hf
 unfold Value.okWide at hval
 rw [ht] at hval
 obtain ⟨cs,rfl,_⟩:=hval
 refine ⟨s,x,?_,h1,h2⟩
 rw [Flat.nO ha,← hs]
 simp [Value.cells]
end
def qV (x:Int):Int:=IntKind.i64.wrap x
section
variable {P:Program} {T:Nat} {cx cy:Bool} {a b:Int} {K:Value→Prop}
theorem Ko (k:K (.int .i64 (qV (a+b)))):cT P (iw .add T cx cy (.int .i64 a) (.int .i64 b)) K:=⟨_,rfl,k⟩
theorem DA (k:K (.int .i64 (qV (a - b)))):cT P (iw .sub T cx cy (.int .i64 a) (.int .i64 b)) K:=⟨_,rfl,k⟩
theorem Kp (k:K (.int .i64 (qV (a * b)))):cT P (iw .mul T cx cy (.int .i64 a) (.int .i64 b)) K:=⟨_,rfl,k⟩
theorem Uy (k:K (.int .i64 (qV (0 - a)))):cT P (Op.unary .neg (.int .i64 a)) K:=⟨_,rfl,k⟩
theorem Uz (h:b≠0) (k:K (.int .i64 (qV (a.tdiv b)))):cT P (iw .quo T cx cy (.int .i64 a) (.int .i64 b)) K:=by
 refine ⟨_,?_,k⟩
 show pr P (Op.intDiv .quo .i64 a b)=_
 unfold Op.intDiv
 rw [if_neg h]; rfl
theorem UA (h:b≠0) (k:K (.int .i64 (a.tmod b))):cT P (iw .rem T cx cy (.int .i64 a) (.int .i64 b)) K:=by
 refine ⟨_,?_,k⟩
 show pr P (Op.intDiv .rem .i64 a b)=_
 unfold Op.intDiv
 rw [if_neg h]; rfl
end
theorem Nh {α:Type} [Flat α] {P:Program} {w w0:World} {A:Nat→Prop} {L:List HP} {xs:List α} {T E ox:Nat} {z:Option Nat} {v:Value} {i:Int} {K:Value→Prop} (ht:fa P T=some (E,Flat.sz α,ox,z))
  (hs:St w0 A (bK v xs::L) w) (h0:0≤i) (h1:i≤xs.length) (k:∀ v',St w0 A (bK v' (xs.take i.toNat)::L) w→K v'):cT P (Instr.sliceAt T v none (some (.int .i64 i)) none) K:=by
 obtain ⟨a,cap,hv,J0,_⟩:=hs.fK
 refine ⟨_,(by rw [hv]; exact AV ht (qB (.inl ⟨rfl,rfl⟩) (.inr ⟨i,rfl,h0,rfl⟩) (Nat.zero_le _) (by omega))),k _ ?_⟩
 refine hs.rM λ F hF=>?_
 rcases hF with ⟨hv0,hx,fS⟩ | ⟨b,J1,rest,Di,hb,hl,hF⟩
 ·rw [hv0] at hv
  subst hx
  simp only [Value.slice.injEq] at hv
  obtain ⟨rfl,_,rfl⟩:=hv
  have hi:i.toNat=0:=by simp at h1; omega
  refine ⟨F,.inl ⟨?_,by simp,fS⟩,λ b hb=>.inl hb,iy.refl _ _⟩
  rw [hi]; rfl
 ·rw [Di] at hv
  simp only [Value.slice.injEq] at hv
  obtain ⟨rfl,_,rfl⟩:=hv
  refine ⟨F,.inr ⟨b,J1,flat (xs.drop i.toNat)++rest,?_,?_,?_,hF⟩,λ b hb=>.inl hb,iy.refl _ _⟩
  ·have C7:(xs.take i.toNat).length=i.toNat:=by rw [List.length_take]; omega
   rw [C7]
   simp [gM]
  ·rw [← List.append_assoc,← il,List.take_append_drop]; exact hb
  ·rw [← List.append_assoc,← il,List.take_append_drop]; exact hl
section
variable {P:Program} {w w':World} {v:Value}
theorem DL.flat {α:Type} [Flat α] [D:cA α α] {xs:List α} (h:DL w v xs) (hD:∀ w s x,D.dr w s x↔s=x:=by intros; exact Iff.rfl):eI (λ _=>True) w v xs:=by
 obtain ⟨ts,h1,h2⟩:=h.open
 rw [(Gt hD).1 h2] at h1; exact h1
theorem DL.fp {α:Type} [Flat α] [D:cA α α] {xs:List α} (h:eI (λ _=>True) w v xs) (hD:∀ w s x,D.dr w s x↔s=x:=by intros; exact Iff.rfl):DL w v xs:=DL.of h ((Gt hD).2 rfl)
theorem Kq {α:Type} [Flat α] {S:Nat→Prop} {xs:List α} {T E ox:Nat} {z:Option Nat} {lo hi:Option Value} {l h:Nat} {K:Value→Prop} (ht:fa P T=some (E,Flat.sz α,ox,z)) (hr:eI S w v xs)
  (hl:lo=none∧l=0∨∃ i:Int,lo=some (.int .i64 i)∧0≤i∧l=i.toNat) (hh:hi=none∧h=xs.length∨∃ i:Int,hi=some (.int .i64 i)∧0≤i∧h=i.toNat)
  (h1:l≤h) (h2:h≤xs.length) (k:∀ v',(∀ w',eI S w' v xs→eI S w' v' ((xs.take h).drop l))→K v'):cT P (Instr.sliceAt T v lo hi none) K:=by
 obtain ⟨a,cap,rfl,J0,h3⟩:=hr
 exact ⟨_,AV ht (qB hl hh h1 (by omega)),k _ λ w' hw=>hw.cut rfl h1 h2⟩
theorem uL {α:Type} [Flat α] {S:Nat→Prop} {xs:List α} {T E ox:Nat} {z:Option Nat} {i:Int} {K:Value→Prop} (ht:fa P T=some (E,Flat.sz α,ox,z)) (hr:eI S w v xs)
  (h0:0≤i) (h2:i≤xs.length) (k:∀ v',(∀ w',eI S w' v xs→eI S w' v' (xs.drop i.toNat))→K v'):cT P (Instr.sliceAt T v (some (.int .i64 i)) none none) K:=
 Kq ht hr (.inr ⟨i,rfl,h0,rfl⟩) (.inl ⟨rfl,rfl⟩) (by omega) (Nat.le_refl _) λ v' h=>k v' λ w' hw=>by have:=h w' hw; rwa [List.take_length] at this
theorem kn {α:Type} [Flat α] {S:Nat→Prop} {xs:List α} {T E ox:Nat} {z:Option Nat} {i j:Int} {K:Value→Prop} (ht:fa P T=some (E,Flat.sz α,ox,z)) (hr:eI S w v xs)
  (h0:0≤i) (h1:i≤j) (h2:j≤xs.length) (k:∀ v',(∀ w',eI S w' v xs→eI S w' v' ((xs.take j.toNat).drop i.toNat))→K v'):cT P (Instr.sliceAt T v (some (.int .i64 i)) (some (.int .i64 j)) none) K:=
 Kq ht hr (.inr ⟨i,rfl,h0,rfl⟩) (.inr ⟨j,rfl,by omega,rfl⟩) (by omega) (by omega) k
theorem DL.cut {α σ:Type} [Flat σ] [cA α σ] {xs:List α} {ts:List σ} {v':Value} {l h:Nat} (hq:∀ w',eI (λ _=>True) w' v ts→eI (λ _=>True) w' v' ((ts.take h).drop l)) (hR:eI (λ _=>True) w v ts) (hD:jO ts xs w):DL w v' ((xs.take h).drop l):=
 DL.of (hq w hR) ((hD.take h).drop l)
theorem DL.PO {α σ:Type} [Flat σ] [cA α σ] {xs:List α} {ts:List σ} {v':Value} {l:Nat} (hq:∀ w',eI (λ _=>True) w' v ts→eI (λ _=>True) w' v' (ts.drop l)) (hR:eI (λ _=>True) w v ts) (hD:jO ts xs w):DL w v' (xs.drop l):=
 DL.of (hq w hR) (hD.drop l)
theorem DB {a b:ByteArray}:(a.toList == b.toList)=decide (a=b):=by
 rw [ByteArray.toList_eq,ByteArray.toList_eq,Bool.eq_iff_iff,beq_iff_eq,decide_eq_true_eq]
 constructor
 ·intro h
  obtain ⟨a⟩:=a
  obtain ⟨b⟩:=b
  simp only [ByteArray.mk.injEq]
  exact Array.toList_inj.1 h
 ·rintro rfl; rfl
theorem tS {T:Nat} {cx cy:Bool} {a b:ByteArray} {K:Value→Prop} (k:K (.bool (decide (a=b)))):cT P (iw .eql T cx cy (.string a) (.string b)) K:=by
 rw [← DB] at k
 exact ⟨_,rfl,k⟩
theorem oL {T:Nat} {cx cy:Bool} {a b:ByteArray} {K:Value→Prop} (k:K (.bool (decide (¬ a=b)))):cT P (iw .neq T cx cy (.string a) (.string b)) K:=by
 refine ⟨_,rfl,?_⟩
 have:(!(a.toList == b.toList))=decide (¬ a=b):=by rw [DB]; by_cases h:a=b <;> simp [h]
 rw [this]; exact k
end
def lf (s:ByteArray):List UInt8:=s.data.toList
theorem dY (s:ByteArray):(lf s).length=s.size:=by unfold lf; rw [Array.length_toList]; rfl
theorem abr (s:ByteArray) (i:Nat):(lf s)[i]? = if h:i<s.size then some (s[i]'h) else none:=by
 unfold lf
 by_cases h:i<s.size
 ·rw [dif_pos h,Array.getElem?_toList]
  exact Array.getElem?_eq_getElem h
 ·rw [dif_neg h,List.getElem?_eq_none]
  rw [Array.length_toList]; exact Nat.le_of_not_lt h
section
variable {P:Program} {T R:Nat} {cx cy:Bool} {a b:Int} {K:Value→Prop}
theorem gb {s:ByteArray} (hT:P.underlying T=some .string) (k:K (.int .i64 (s.size:Int))):cT P (Builtin.len_ #[T] R [Value.string s].toArray) K:=by
 refine ⟨_,?_,k⟩
 show pr P (do
  match ← underlying T,Value.string s with
  | .string,.string s=>pure (goInt s.size)
  | .array n _,_=>pure (goInt n)
  | .pointer arr,_=>
   let .array n _ ← underlying arr | stuck "len: pointer to array expected"
   pure (goInt n)
  | .slice _,.slice _ n _=>pure (goInt n)
  | .map _ _,.map none | .chan _ _,.chan none=>pure (goInt 0)
  | .map _ _,.map (some r)=>
   let .map entries _ ← getObj r | stuck "len: map expected"
   pure (goInt entries.size)
  | .chan _ _,.chan (some r)=>
   let .chan _ buf _ _ _ timer ← getObj r | stuck "len: channel expected"
   pure (goInt (if timer then 0 else buf.size))
  | _, _ => stuck "len: string, array, pointer to array, slice, map or channel expected") = _
 rw [cM,cL hT]; rfl
theorem lH {s:ByteArray} {i:Int} {e:UInt8} (hT:P.underlying T=some .string) (h0:0≤i) (he:(lf s)[i.toNat]? = some e) (k:K (.int .u8 (e.toNat:Int))):cT P (Instr.index T (.string s) (.int .i64 i)) K:=by
 refine ⟨_,?_,k⟩
 rw [abr] at he
 have hi:i.toNat<s.size:=by
  by_cases h:i.toNat<s.size
  ·exact h
  ·rw [dif_neg h] at he; cases he
 rw [dif_pos hi] at he
 have h3:(if 0≤i then s[i.toNat]? else none)=some e:=by rw [if_pos h0,ByteArray.getElem?_lt' s _ hi,← he]
 unfold Instr.index
 simp only [asIntOf,cM,cL hT,Option.bind_some,fe,h3]
theorem oM {s:ByteArray} {i:Int} (hT:P.underlying T=some .string) (h0:0≤i) (h1:i≤s.size) (k:K (.string (s.extract 0 i.toNat))):cT P (Instr.sliceAt T (.string s) none (some (.int .i64 i)) none) K:=by
 refine ⟨_,?_,k⟩
 unfold Instr.sliceAt
 rw [cM,cL hT]
 simp only [Option.bind_some]
 unfold Instr.slice
 rw [cM,cL hT]
 simp only [Option.bind_some]
 rw [if_neg (by decide)]
 have hb:pr P (Instr.sliceBounds false s.size s.size none (some (.int .i64 i)) none)=some (0,i.toNat,s.size):=by
  simp only [Instr.sliceBounds,cM,fe,Option.bind_some]
  rw [mP h0 h1]; rfl
 rw [cM,hb]; rfl
theorem Ks {s:ByteArray} {i j:Int} (hT:P.underlying T=some .string) (h0:0≤i) (hij:i≤j) (h1:j≤s.size) (k:K (.string (s.extract i.toNat j.toNat))):cT P (Instr.sliceAt T (.string s) (some (.int .i64 i)) (some (.int .i64 j)) none) K:=by
 refine ⟨_,?_,k⟩
 unfold Instr.sliceAt
 rw [cM,cL hT]
 simp only [Option.bind_some]
 unfold Instr.slice
 rw [cM,cL hT]
 simp only [Option.bind_some]
 rw [if_neg (by decide)]
 have hb:pr P (Instr.sliceBounds false s.size s.size (some (.int .i64 i)) (some (.int .i64 j)) none)=some (i.toNat,j.toNat,s.size):=by
  simp only [Instr.sliceBounds,cM,fe,Option.bind_some]
  rw [mP (by omega) h1]; simp only [Option.bind_some]; rw [mP h0 (by omega)]; rfl
 rw [cM,hb]; rfl
theorem Ku (k:K (.bool (decide (a≤b)))):cT P (iw .leq T cx cy (.int .u8 a) (.int .u8 b)) K:=⟨_,rfl,k⟩
theorem Kv (k:K (.bool (decide (b≤a)))):cT P (iw .geq T cx cy (.int .u8 a) (.int .u8 b)) K:=⟨_,rfl,k⟩
theorem nZ (k:K (.bool (decide (a=b)))):cT P (iw .eql T cx cy (.int .u8 a) (.int .u8 b)) K:=⟨_,rfl,k⟩
theorem UB (k:K (.bool (decide (a≠b)))):cT P (iw .neq T cx cy (.int .u8 a) (.int .u8 b)) K:=
 ⟨_,(show pr P (iw .neq T cx cy (.int .u8 a) (.int .u8 b))=some (.bool (decide (a≠b))) from by
  show some (Value.bool (a != b))=_
  congr 2
  by_cases h:a=b <;> simp [h]),k⟩
theorem UC {t:Array TypeId} {R:TypeId} {c:Int} (k:K (.int .i64 (max (max a b) c))):cT P (Builtin.max_ t R [.int .i64 a,.int .i64 b,.int .i64 c].toArray) K:=by
 refine ⟨_,?_,k⟩
 show pr P (do Builtin.max2 (← Builtin.max2 (.int .i64 a) (.int .i64 b)) (.int .i64 c))=_
 have h:∀ x y:Int,pr P (Builtin.max2 (.int .i64 x) (.int .i64 y))=some (.int .i64 (max x y)):=by
  intro x y
  unfold Builtin.max2
  by_cases h:x<y
  ·simp [h,fe]; omega
  ·simp [h,fe]; omega
 rw [cM,h]
 exact h _ _
end
def fj {α σ:Type} [Flat σ] [cA α σ] (v:Value) (xs:List α):HP:=tQ λ ts:List σ=>sep (bK v ts) (eX (jO ts xs))
section
variable {P:Program} {α σ:Type} [Flat σ] [D:cA α σ] {w w' w0:World} {v src:Value} {A:Nat→Prop} {L:List HP} {xs ys:List α}
theorem St.Kw (hs:St w0 A (fj v xs::L) w):∃ ts:List σ,St w0 A (bK v ts::Fw.eX (jO ts xs)::L) w:=by
 obtain ⟨ts,h⟩:=hs.eT; exact ⟨ts,h.split⟩
theorem St.DC {ts:List σ} (hs:St w0 A (bK v ts::Fw.eX (jO ts xs)::L) w):St w0 A (fj v xs::L) w:=
 St.eN (H:=λ ts:List σ=>sep (bK v ts) (Fw.eX (jO ts xs))) ts (St.join hs)
theorem St.ahQ {ts:List σ} (hs:St w0 A (bK v ts::Fw.eX (jO ts xs)::L) w):ts.length=xs.length:=(hs.p1.eX).1
theorem St.xC (hs:St w0 A L w):St w0 A (fj (.slice none 0 0) ([]:List α)::L) w:=
 St.DC (ts:=[]) ((hs.gE λ _=>jO.nil).fX)
theorem St.avK (hs:St w0 A (bK v ([]:List σ)::L) w):St w0 A (fj v ([]:List α)::L) w:=
 St.DC (ts:=[]) (hs.gE (Φ:=jO ([]:List σ) ([]:List α)) λ _=>jO.nil).p1
theorem St.avL {s:σ} {x:α} (hs:St w0 A (bK v [s]::Fw.eX (λ w=>cA.dr w s x)::L) w):St w0 A (fj v [x]::L) w:=by
 refine St.DC (ts:=[s]) ?_
 refine ((hs.p1.dN (Ψ:=jO [s] [x]) λ w h=>?_)).p1
 exact (jO.nil (w:=w)).snoc h
theorem St.avM {ts us:List σ} (hs:St w0 A (bK v (ts++us)::Fw.eX (jO ts xs)::Fw.eX (jO us ys)::L) w):St w0 A (fj v (xs++ys)::L) w:=by
 have h1:=(hs.p1:St w0 A (Fw.eX (jO ts xs)::bK v (ts++us)::Fw.eX (jO us ys)::L) w)
 have h2:=h1.p2.p1
 refine St.DC (ts:=ts++us) ?_
 exact ((h2.fL).dN (Ψ:=jO (ts++us) (xs++ys)) λ w h=>h.1.append h.2).p1
theorem St.jF (hs:St w0 A (fj v xs::L) w):St w0 A (Fw.eX (λ w=>DL w v xs)::L) w:=by
 obtain ⟨ts,h⟩:=hs.Kw
 exact (h.freeze.fL).dN λ w h=>DL.of h.1 h.2
theorem St.dl (hs:St w0 A (fj v xs::L) w):DL w v xs:=hs.jF.eX
theorem St.lI (hs:St w0 A (fj v xs::L) w):∃ s:SV,v=Flat.val s:=hs.dl.fQ
theorem St.enc {b:Nat} {cs cs':List Value} (hs:St w0 A (cD b cs::L) w) (h:cs=cs'):St w0 A (cD b cs'::L) w:=h▸hs
theorem vS {T E ox:Nat} {K:Value→World→Prop} (hs:St w0 A L w) (ht:SlT P T E (Flat.sz σ) ox) (k:∀ v w',St w0 A (fj v ([]:List α)::L) w'→K v w'):gU P (Instr.buildSlice T 0 ([]:List (Nat × Value)).toArray) w K:=
 bW ([]:List σ) hs ht rfl rfl (by simp) λ v w' h=>k v w' h.avK
theorem eJ {T E ox:Nat} {s:σ} {x:α} {K:Value→World→Prop} (hs:St w0 A (Fw.eX (λ w=>cA.dr w s x)::L) w) (ht:SlT P T E (Flat.sz σ) ox) (hz:Flat.sz σ≤64) (k:∀ v w',St w0 A (fj v [x]::L) w'→K v w') :
  gU P (Instr.buildSlice T 1 [(0,Flat.val s)].toArray) w K:=
 bW [s] hs ht rfl rfl (by simp; omega) λ v w' h=>k v w' h.avL
theorem dZ {T E ox R:Nat} {K:Value→World→Prop} (hs:St w0 A (fj v xs::fj src ys::L) w) (ht:SlT P T E (Flat.sz σ) ox)
  (hn:xs.length+ys.length≤1073741824) (hby:ox≤8192) (k:∀ v' w',St w0 A (fj v' (xs++ys)::L) w'→K v' w'):gU P (Builtin.append_ #[T,T] R [v,src].toArray) w K:=by
 obtain ⟨us,h1⟩:=hs.p1.Kw
 obtain ⟨ts,h2⟩:=h1.p2.Kw
 have e1:=h1.ahQ
 have e2:=h2.ahQ
 refine cN h2 ht h2.p2.fK (by omega) hby λ v' w' h=>k v' w' ?_
 exact (h.p2.drop).avM
theorem Ij {β:Type} [Flat β] {T:Nat} {b o:Nat} {cs:List Value} (x:β) (ht:cP P T=some (Flat.agg β,Flat.sz β)) (hb:tz w b cs) (hx:(cs.drop o).take (Flat.sz β)=Flat.enc x) :
  (Instr.loadAt T (.pointer (some ⟨b,o,none⟩))).run P w = .ok (Flat.val x) w:=by
 refine fP (S:=λ _=>True) ht ⟨b,o,rfl,trivial,λ j c hj=>hb.cell ?_⟩
 rw [← hx,List.getElem?_take] at hj
 split at hj
 ·rw [List.getElem?_drop] at hj; exact hj
 ·cases hj
end
instance:Flat UInt8 where
 agg:=false
 sz:=1
 enc b:=[.int .u8 b.toNat]
 val b:=.int .u8 b.toNat
 pos:=by decide
 len _:=rfl
 one a v h:=by rw [List.mem_singleton.1 h]; rfl
 nO h:=by cases h
 oy _ _:=rfl
instance:cA UInt8 UInt8:=jb
theorem abt (l:List UInt8):flat l=l.map λ b=>Value.int .u8 b.toNat:=by
 induction l with
 | nil=>rfl
 | cons x l ih=>rw [i0,ih]; rfl
theorem gW {P:Program} {w w0:World} {A:Nat→Prop} {L:List HP} {src dst e:TypeId} {s:ByteArray} {u:TypeDesc} {K:Value→World→Prop} (hs:St w0 A L w) (h1:P.underlying src=some u) (h2:P.underlying dst=some (.slice e)) (h3:P.underlying e=some (.int .u8))
  (k:∀ v w',St w0 A (Fw.eX (λ w=>eI (λ _=>True) w v (lf s))::L) w'→K v w'):gU P (convert src dst (.string s)) w K:=by
 refine ⟨_,_,Go.Lib.run_convert_string_bytes w src dst e s h1 h2 h3,k _ _ ?_⟩
 have he:Ext w (Go.Lib.bytesWorld w e s):=by
  refine ⟨?_,?_,?_,by rw [Go.Lib.bytesWorld_size]; omega,λ b hb _=>Go.Lib.bytesWorld_at_old w e s b hb⟩
  all_goals simp [Go.Lib.bytesWorld,World.freeze,World.alloc,World.drew,-World.alloc_eq,-World.drew_eq]
 refine hs.new he (F:=λ b=>b=w.heap.size) ⟨λ w' hw=>?_,λ b hb=>by rw [hb,Go.Lib.bytesWorld_size]; omega⟩ λ b hb=>by rw [hb]; exact Nat.le_refl _
 have lz:(lf s).length=s.size:=dY s
 refine ⟨some ⟨w.heap.size,0,none⟩,grownCap w s.size 0 e,by rw [lz],by rw [lz]; exact grownCap_ge w s.size 0 e,.inr ⟨w.heap.size,0,rfl,λ _=>trivial,λ j c hj=>?_⟩⟩
 rw [abt,List.getElem?_map] at hj
 obtain ⟨b,hb,rfl⟩:=Option.map_eq_some_iff.1 hj
 have mv:j<s.size:=by rw [← lz]; exact (List.getElem?_eq_some_iff.1 hb).1
 have h0:=hw w.heap.size rfl
 have Dz:=Go.Lib.bytesWorld_cell w e s j mv
 have e2:s.data.toList.getD j 0=b:=by
  rw [List.getD_eq_getElem?_getD]
  have:s.data.toList[j]? = some b:=hb
  rw [this]; rfl
 rw [e2] at Dz
 unfold Cell
 rw [Nat.zero_add]
 unfold World.cell? at Dz ⊢
 dsimp only at Dz ⊢
 rw [h0]; exact Dz
def n7 {α σ:Type} [Flat σ] [cA α σ] (P:Program) (w:World) (f:Value) (φ:α→Prop) (g:α→Bool):Prop:=∃ g0 first cap,f = .func (.func g0) (List.toArray first) (List.toArray cap)∧Plain P g0∧
 ∀ (s:σ) (x:α) w1,Ext w w1→cA.dr w1 s x→φ x→Calls P g0 (first++[Flat.val s]++cap).toArray w1 (qg λ v w2=>v = .bool (g x)∧Ext w1 w2)
theorem n7.ext {α σ:Type} [Flat σ] [cA α σ] {P:Program} {w w':World} {f:Value} {φ:α→Prop} {g:α→Bool} (h:n7 P w f φ g) (e:Ext w w'):n7 P w' f φ g:=by
 obtain ⟨g0,first,cap,h1,h2,h3⟩:=h; exact ⟨g0,first,cap,h1,h2,λ s x w1 e1=>h3 s x w1 (e.trans e1)⟩
theorem wY {α:Type} [Flat α] {P:Program} {S:Nat→Prop} {w:World} {T E:TypeId} {cx cy:Bool} {v:Value} {xs:List α} {K:Value→Prop} (h:P.underlying T=some (.slice E)) (hr:eI S w v xs) (k:∀ p:Bool,(p=true→xs=[])→K (.bool p)) :
  cT P (iw .eql T cx cy v (.slice none 0 0)) K:=by
 obtain ⟨a,cap,rfl,_,h3⟩:=hr
 have key:pr P (Op.equal T (.slice a xs.length cap) (.slice none 0 0))=some a.isNone:=by
  show pr P (Op.equalIn 10000 T (.slice a xs.length cap) (.slice none 0 0))=_
  unfold Op.equalIn
  rw [cM,cL h]
  cases a <;> rfl
 refine ⟨_,?_,k a.isNone λ ha=>?_⟩
 ·show pr P (do pure (Value.bool (← Op.equal T (.slice a xs.length cap) (.slice none 0 0))))=_
  rw [uE,key]; rfl
 ·rcases h3 with h3 | ⟨b,o,rfl,_⟩
  ·exact h3.1
  ·cases ha
theorem St.aoh {α:Type} [Flat α] {w w0:World} {A:Nat→Prop} {L:List HP} {v:Value} {xs ys:List α} (hs:St w0 A (bK v xs::L) w) (h:xs=ys):St w0 A (bK v ys::L) w:=h▸hs
theorem UD {α β:Type} [Flat α] [Flat β] {P:Program} {w w0:World} {A:Nat→Prop} {L:List HP} {xs:List α} {T:Nat} {v p:Value} {i off:Nat} {x:α} (y:β) (hs:St w0 A (bK v xs::L) w) (ht:cP P T=some (Flat.agg β,Flat.sz β)) (hp:Ig α v i off p) (hx:xs[i]? = some x)
  (hy:((Flat.enc x).drop off).take (Flat.sz β)=Flat.enc y):(Instr.loadAt T p).run P w = .ok (Flat.val y) w:=by
 obtain ⟨v,h1,h2⟩:=(nX (K:=λ v=>v=Flat.val y) y hs ht hp hx hy rfl).ex
 rw [← h2]; exact h1
structure Ptr where
 b:Nat
deriving DecidableEq
instance:Flat Ptr where
 agg:=false
 sz:=1
 enc p:=[.pointer (some ⟨p.b,0,none⟩)]
 val p:=.pointer (some ⟨p.b,0,none⟩)
 pos:=by decide
 len _:=rfl
 one a v h:=by rw [List.mem_singleton.1 h]; rfl
 nO h:=by cases h
 oy _ _:=rfl
instance:cA Ptr Ptr:=jb
def iz {α κ:Type} (H:κ→α→HP):List κ→List α→HP
 | [],[]=>emp
 | p::ps,x::xs=>sep (H p x) (iz H ps xs)
 | _,_=>fact False emp
section
variable {P:Program} {α κ:Type} {H:κ→α→HP} {A:Nat→Prop} {w0 w:World} {L:List HP}
theorem A3:∀ {ps:List κ} {xs:List α} {F:Nat→Prop},(iz H ps xs).p w F→ps.length=xs.length
 | [],[],_,_=>rfl
 | s::ss,x::xs,F,h=>by
  obtain ⟨F1,F2,_,h2,_,_⟩:=h
  rw [List.length_cons,List.length_cons,A3 h2]
 | [],_::_,_,h=>h.1.elim
 | _::_,[],_,h=>h.1.elim
theorem St.lg {ps:List κ} {xs:List α} (hs:St w0 A (iz H ps xs::L) w):ps.length=xs.length:=by
 obtain ⟨F,h,_⟩:=hs.head; exact A3 h
theorem St.Kx (hs:St w0 A L w):St w0 A (iz H [] []::L) w:=hs.new (Ext.refl w) (F:=bD) (λ _ h=>h) λ _ h=>h.elim
def ql (H:κ→α→HP) (ps:List κ) (xs:List α) (i:Nat):HP:=sep (iz H (ps.take i) (xs.take i)) (iz H (ps.drop (i+1)) (xs.drop (i+1)))
theorem BM:∀ {ps:List κ} {xs:List α} {i:Nat} {p:κ} {x:α} {F:Nat→Prop},(iz H ps xs).p w F→ps[i]? = some p→xs[i]? = some x→(sep (H p x) (ql H ps xs i)).p w F
 | p'::ps,x'::xs,0,p,x,F,h,hp,hx=>by
  rw [List.getElem?_cons_zero] at hp hx
  obtain rfl:=Option.some.inj hp
  obtain rfl:=Option.some.inj hx
  obtain ⟨F1,F2,h1,h2,h3,h4⟩:=h
  exact ⟨F1,F2,h1,⟨bD,F2,λ _ h=>h,h2,λ _ h=>h.elim,λ b=>⟨.inr,λ h=>h.elim (λ h=>h.elim) id⟩⟩,h3,h4⟩
 | p'::ps,x'::xs,i+1,p,x,F,h,hp,hx=>by
  rw [List.getElem?_cons_succ] at hp hx
  obtain ⟨F1,F2,h1,h2,h3,h4⟩:=h
  obtain ⟨G1,G2,g1,⟨K1,K2,k1,k2,k3,k4⟩,g3,g4⟩:=BM h2 hp hx
  refine ⟨G1,λ b=>F1 b∨G2 b,g1,⟨λ b=>F1 b∨K1 b,K2,⟨F1,K1,h1,k1,λ b hb hk=>h3 b hb ((g4 b).2 (.inr ((k4 b).2 (.inl hk)))),λ b=>Iff.rfl⟩,k2,?_,?_⟩,?_,?_⟩
  ·rintro b (hb | hb) hk
   ·exact h3 b hb ((g4 b).2 (.inr ((k4 b).2 (.inr hk))))
   ·exact k3 b hb hk
  ·intro b; show F1 b∨G2 b↔(F1 b∨K1 b)∨K2 b; rw [k4 b,or_assoc]
  ·rintro b hb (hf | hf)
   ·exact h3 b hf ((g4 b).2 (.inl hb))
   ·exact g3 b hb hf
  ·intro b; rw [h4 b,g4 b]; constructor
   ·rintro (h | h | h)
    ·exact .inr (.inl h)
    ·exact .inl h
    ·exact .inr (.inr h)
   ·rintro (h | h | h)
    ·exact .inr (.inl h)
    ·exact .inl h
    ·exact .inr (.inr h)
 | [],[],_,_,_,_,_,hp,_=>by simp at hp
 | [],_::_,_,_,_,_,h,_,_=>h.1.elim
 | _::_,[],_,_,_,_,h,_,_=>h.1.elim
theorem A4:∀ {ps:List κ} {xs:List α} {i:Nat} {p:κ} {x:α} {F:Nat→Prop},i<xs.length→ps.length=xs.length→(sep (H p x) (ql H ps xs i)).p w F→(iz H (ps.set i p) (xs.set i x)).p w F
 | p'::ps,x'::xs,0,p,x,F,_,_,h=>by
  obtain ⟨F1,F2,h1,⟨K1,K2,k1,k2,k3,k4⟩,h3,h4⟩:=h
  refine ⟨F1,F2,h1,?_,h3,h4⟩
  have e:F2=K2:=funext λ b=>propext ((k4 b).trans ⟨λ h=>h.elim (λ h=>(k1 b h).elim) id,.inr⟩)
  rw [e]; exact k2
 | p'::ps,x'::xs,i+1,p,x,F,hi,hl,h=>by
  obtain ⟨G1,G2,g1,⟨K1,K2,⟨F1,M1,f1,m1,f3,f4⟩,k2,k3,k4⟩,g3,g4⟩:=h
  refine ⟨F1,λ b=>G1 b∨(M1 b∨K2 b),f1,A4 (by simpa using hi) (by simpa using hl) ⟨G1,λ b=>M1 b∨K2 b,g1,⟨M1,K2,m1,k2,λ b hb hk=>k3 b ((f4 b).2 (.inr hb)) hk,λ b=>Iff.rfl⟩,?_,λ b=>Iff.rfl⟩,?_,?_⟩
  ·rintro b hb (h | h)
   ·exact g3 b hb ((k4 b).2 (.inl ((f4 b).2 (.inr h))))
   ·exact g3 b hb ((k4 b).2 (.inr h))
  ·rintro b hb (h | h | h)
   ·exact g3 b h ((k4 b).2 (.inl ((f4 b).2 (.inl hb))))
   ·exact f3 b hb h
   ·exact k3 b ((f4 b).2 (.inl hb)) h
  ·intro b; rw [g4 b,k4 b,f4 b]; constructor
   ·rintro (h | (h | h) | h)
    ·exact .inr (.inl h)
    ·exact .inl h
    ·exact .inr (.inr (.inl h))
    ·exact .inr (.inr (.inr h))
   ·rintro (h | h | h | h)
    ·exact .inr (.inl (.inl h))
    ·exact .inl h
    ·exact .inr (.inl (.inr h))
    ·exact .inr (.inr h)
 | [],_::_,_,_,_,_,_,hl,_=>by simp at hl
 | _,[],_,_,_,_,hi,_,_=>by simp at hi
theorem uM {β:Type}:∀ {ps:List β} {i:Nat} {p:β},ps[i]? = some p→ps.set i p=ps
 | [],_,_,h=>by simp at h
 | y::ps,0,p,h=>by rw [List.getElem?_cons_zero] at h; obtain rfl:=Option.some.inj h; rfl
 | y::ps,i+1,p,h=>by rw [List.getElem?_cons_succ] at h; rw [List.set_cons_succ,uM h]
theorem Ni {ps:List κ} {xs:List α} {i:Nat} {p:κ} {x:α} {F:Nat→Prop} (hi:i<xs.length) (hl:ps.length=xs.length) (hp:ps[i]? = some p) (h:(sep (H p x) (ql H ps xs i)).p w F):(iz H ps (xs.set i x)).p w F:=by
 have:=A4 hi hl h; rwa [uM hp] at this
theorem Gu:∀ {ps qs:List κ} {xs ys:List α} {F:Nat→Prop},(sep (iz H ps xs) (iz H qs ys)).p w F→(iz H (ps++qs) (xs++ys)).p w F
 | [],qs,[],ys,F,⟨F1,F2,h1,h2,_,h4⟩=>by
  have:F=F2:=funext λ b=>propext ((h4 b).trans ⟨λ h=>h.elim (λ h=>(h1 b h).elim) id,.inr⟩)
  rw [this]; exact h2
 | p::ps,qs,x::xs,ys,F,⟨F1,F2,⟨G1,G2,g1,g2,g3,g4⟩,h2,h3,h4⟩=>by
  refine ⟨G1,λ b=>G2 b∨F2 b,g1,Gu ⟨G2,F2,g2,h2,λ b hb=>h3 b ((g4 b).2 (.inr hb)),λ b=>Iff.rfl⟩,λ b hb=>?_,λ b=>by rw [h4 b,g4 b,or_assoc]⟩
  rintro (hh | hh)
  ·exact g3 b hb hh
  ·exact h3 b ((g4 b).2 (.inl hb)) hh
 | [],_,_::_,_,_,⟨_,_,h,_⟩=>h.1.elim
 | _::_,_,[],_,_,⟨_,_,h,_⟩=>h.1.elim
theorem St.focus {ps:List κ} {xs:List α} {i:Nat} {p:κ} {x:α} (hs:St w0 A (iz H ps xs::L) w) (hp:ps[i]? = some p) (hx:xs[i]? = some x):St w0 A (H p x::ql H ps xs i::L) w:=
 (hs.rM (H':=sep (H p x) (ql H ps xs i)) λ F hF=>⟨F,BM hF hp hx,λ b hb=>.inl hb,iy.refl _ _⟩).split
theorem St.sb {ps:List κ} {xs:List α} {i:Nat} {p:κ} {x:α} (hs:St w0 A (H p x::ql H ps xs i::L) w) (hi:i<xs.length) (hl:ps.length=xs.length) (hp:ps[i]? = some p):St w0 A (iz H ps (xs.set i x)::L) w:=
 (St.join hs).rM λ F hF=>⟨F,Ni hi hl hp hF,λ b hb=>.inl hb,iy.refl _ _⟩
theorem DD:∀ {ps:List κ} {xs:List α} {p:κ} {x:α} {F1 F2 F:Nat→Prop},(iz H ps xs).p w F1→(H p x).p w F2→(∀ b,F1 b→¬ F2 b)→(∀ b,F b↔F1 b∨F2 b)→(iz H (ps++[p]) (xs++[x])).p w F
 | [],[],p,x,F1,F2,F,h1,h2,_,h4=>⟨F2,F1,h2,h1,λ b _ Ih=>h1 b Ih,λ b=>by rw [h4 b]; exact ⟨λ h=>h.symm,λ h=>h.symm⟩⟩
 | s'::ss,x'::xs,p,x,F1,F2,F,h1,h2,h3,h4=>by
  obtain ⟨G1,G2,g1,g2,g3,g4⟩:=h1
  refine ⟨G1,λ b=>G2 b∨F2 b,g1,DD g2 h2 (λ b hb=>h3 b ((g4 b).2 (.inr hb))) (λ b=>Iff.rfl),λ b hb=>?_,λ b=>?_⟩
  ·rintro (hh | hh)
   ·exact g3 b hb hh
   ·exact h3 b ((g4 b).2 (.inl hb)) hh
  ·rw [h4 b,g4 b,or_assoc]
 | [],_::_,_,_,_,_,_,h,_,_,_=>h.1.elim
 | _::_,[],_,_,_,_,_,h,_,_,_=>h.1.elim
theorem St.DE {ps:List κ} {xs:List α} {p:κ} {x:α} (hs:St w0 A (iz H ps xs::H p x::L) w):St w0 A (iz H (ps++[p]) (xs++[x])::L) w:=by
 refine (St.join hs).rM λ F hF=>?_
 obtain ⟨F1,F2,h1,h2,h3,h4⟩:=hF
 exact ⟨F,DD h1 h2 h3 h4,λ b hb=>.inl hb,iy.refl _ _⟩
theorem St.DF {ps:List κ} {xs:List α} {i:Nat} {p:κ} {x:α} (hs:St w0 A (H p x::ql H ps xs i::L) w) (hi:i<xs.length) (hl:ps.length=xs.length):St w0 A (iz H (ps.set i p) (xs.set i x)::L) w:=
 (St.join hs).rM λ F hF=>⟨F,A4 hi hl hF,λ b hb=>.inl hb,iy.refl _ _⟩
theorem St.RS {ps:List κ} {xs:List α} {i:Nat} (hs:St w0 A (ql H ps xs i::L) w):St w0 A (iz H (ps.eraseIdx i) (xs.eraseIdx i)::L) w:=by
 rw [List.eraseIdx_eq_take_drop_succ,List.eraseIdx_eq_take_drop_succ]
 exact hs.rM λ F hF=>⟨F,Gu hF,λ b hb=>.inl hb,iy.refl _ _⟩
theorem St.aoi {ps:List κ} {xs:List α} {i:Nat} {p:κ} {x:α} {Φ:World→Prop} (hs:St w0 A (iz H ps xs::L) w) (hp:ps[i]? = some p) (hx:xs[i]? = some x) (h:∀ {w F},(H p x).p w F→Φ w):Φ w:=by
 obtain ⟨F,hF,_⟩:=(hs.focus hp hx).head; exact h hF
end
end Go.Fw
namespace Go.Proofs.YtnjcingfdhjfkaaGreat
open Go.Fw
@[ext] structure dF where
 name:ByteArray
 n:Int
 at_:Int
deriving DecidableEq
instance:Flat dF where
 agg:=true
 sz:=3
 enc e:=[.string e.name,.int .i64 e.n,.int .i64 e.at_]
 val e:=.agg [.string e.name,.int .i64 e.n,.int .i64 e.at_].toArray
 pos:=by decide
 len _:=rfl
 one a v h:=by simp at h; rcases h with rfl | rfl | rfl <;> rfl
 nO _ _:=rfl
 oy h:=by cases h
instance:cA dF dF:=jb
def wZ (x:dF):Prop:=(x.name).size≤maxLen∧my x.n∧my x.at_
@[ext] structure cW where
 op:Int
 n:Int
 name:ByteArray
 at_:Int
deriving DecidableEq
instance:Flat cW where
 agg:=true
 sz:=4
 enc e:=[.int .i64 e.op,.int .i64 e.n,.string e.name,.int .i64 e.at_]
 val e:=.agg [.int .i64 e.op,.int .i64 e.n,.string e.name,.int .i64 e.at_].toArray
 pos:=by decide
 len _:=rfl
 one a v h:=by simp at h; rcases h with rfl | rfl | rfl | rfl <;> rfl
 nO _ _:=rfl
 oy h:=by cases h
instance:cA cW cW:=jb
def zy (x:cW):Prop:=my x.op∧my x.n∧(x.name).size≤maxLen∧my x.at_
structure cE where
 kind:Int
 gJ:ByteArray
 name:ByteArray
 e:(List cW)
 f:(List cW)
 n:Int
 body:Int
 fD:Int
 at_:Int
deriving DecidableEq
structure bX where
 kind:Int
 gJ:ByteArray
 name:ByteArray
 e:SV
 f:SV
 n:Int
 body:Int
 fD:Int
 at_:Int
instance:Flat bX where
 agg:=true
 sz:=9
 enc e:=[.int .i64 e.kind,.string e.gJ,.string e.name,.slice e.e.a e.e.n e.e.cap,.slice e.f.a e.f.n e.f.cap,.int .i64 e.n,.int .i64 e.body,.int .i64 e.fD,.int .i64 e.at_]
 val e:=.agg [.int .i64 e.kind,.string e.gJ,.string e.name,.slice e.e.a e.e.n e.e.cap,.slice e.f.a e.f.n e.f.cap,.int .i64 e.n,.int .i64 e.body,.int .i64 e.fD,.int .i64 e.at_].toArray
 pos:=by decide
 len _:=rfl
 one a v h:=by simp at h; rcases h with rfl | rfl | rfl | rfl | rfl | rfl | rfl | rfl | rfl <;> rfl
 nO _ _:=rfl
 oy h:=by cases h
instance:cA cE bX where
 dr w s x:=∃ (e_:SV) (f_:SV),s=(⟨x.kind,x.gJ,x.name,e_,f_,x.n,x.body,x.fD,x.at_⟩:bX)∧DL w (Flat.val e_) x.e∧DL w (Flat.val f_) x.f
 ext h e:=by
  obtain ⟨g0,g1,rfl,h0,h1⟩:=h
  exact ⟨g0,g1,rfl,h0.ext e,h1.ext e⟩
def Ik (x:cE):Prop:=my x.kind∧(x.gJ).size≤maxLen∧(x.name).size≤maxLen∧(∀ y∈x.e,zy y)∧(∀ y∈x.f,zy y)∧my x.n∧my x.body∧my x.fD∧my x.at_
structure dQ where
 name:ByteArray
 aK:(List ByteArray)
 body:(List cE)
 at_:Int
deriving DecidableEq
structure eg where
 name:ByteArray
 aK:SV
 body:SV
 at_:Int
instance:Flat eg where
 agg:=true
 sz:=4
 enc e:=[.string e.name,.slice e.aK.a e.aK.n e.aK.cap,.slice e.body.a e.body.n e.body.cap,.int .i64 e.at_]
 val e:=.agg [.string e.name,.slice e.aK.a e.aK.n e.aK.cap,.slice e.body.a e.body.n e.body.cap,.int .i64 e.at_].toArray
 pos:=by decide
 len _:=rfl
 one a v h:=by simp at h; rcases h with rfl | rfl | rfl | rfl <;> rfl
 nO _ _:=rfl
 oy h:=by cases h
instance:cA dQ eg where
 dr w s x:=∃ (Ky:SV) (aeS:SV),s=(⟨x.name,Ky,aeS,x.at_⟩:eg)∧DL w (Flat.val Ky) x.aK∧DL w (Flat.val aeS) x.body
 ext h e:=by
  obtain ⟨g0,g1,rfl,h0,h1⟩:=h
  exact ⟨g0,g1,rfl,h0.ext e,h1.ext e⟩
def xa (x:dQ):Prop:=(x.name).size≤maxLen∧(∀ y∈x.aK,(λ y:ByteArray=>y.size≤maxLen) y)∧(∀ y∈x.body,Ik y)∧my x.at_
structure ju where
 e:(List cW)
 at_:Int
deriving DecidableEq
structure lJ where
 e:SV
 at_:Int
instance:Flat lJ where
 agg:=true
 sz:=2
 enc e:=[.slice e.e.a e.e.n e.e.cap,.int .i64 e.at_]
 val e:=.agg [.slice e.e.a e.e.n e.e.cap,.int .i64 e.at_].toArray
 pos:=by decide
 len _:=rfl
 one a v h:=by simp at h; rcases h with rfl | rfl <;> rfl
 nO _ _:=rfl
 oy h:=by cases h
instance:cA ju lJ where
 dr w s x:=∃ (e_:SV),s=(⟨e_,x.at_⟩:lJ)∧DL w (Flat.val e_) x.e
 ext h e:=by
  obtain ⟨g0,rfl,h0⟩:=h
  exact ⟨g0,rfl,h0.ext e⟩
def DG (x:ju):Prop:=(∀ y∈x.e,zy y)∧my x.at_
structure cX where
 lines:(List (List dF))
 jP:(List dF)
 locks:(List dF)
 threads:(List dQ)
 recover:(List dQ)
 cC:(List ju)
deriving DecidableEq
structure bN where
 lines:SV
 jP:SV
 locks:SV
 threads:SV
 recover:SV
 cC:SV
instance:Flat bN where
 agg:=true
 sz:=6
 enc e:=[.slice e.lines.a e.lines.n e.lines.cap,.slice e.jP.a e.jP.n e.jP.cap,.slice e.locks.a e.locks.n e.locks.cap,.slice e.threads.a e.threads.n e.threads.cap,.slice e.recover.a e.recover.n e.recover.cap,.slice e.cC.a e.cC.n e.cC.cap]
 val e:=.agg [.slice e.lines.a e.lines.n e.lines.cap,.slice e.jP.a e.jP.n e.jP.cap,.slice e.locks.a e.locks.n e.locks.cap,.slice e.threads.a e.threads.n e.threads.cap,.slice e.recover.a e.recover.n e.recover.cap,.slice e.cC.a e.cC.n e.cC.cap].toArray
 pos:=by decide
 len _:=rfl
 one a v h:=by simp at h; rcases h with rfl | rfl | rfl | rfl | rfl | rfl <;> rfl
 nO _ _:=rfl
 oy h:=by cases h
instance:cA cX bN where
 dr w s x:=∃ (DH:SV) (aeT:SV) (UE:SV) (vT:SV) (vU:SV) (zz:SV),s=(⟨DH,aeT,UE,vT,vU,zz⟩:bN)∧DL w (Flat.val DH) x.lines∧DL w (Flat.val aeT) x.jP∧DL w (Flat.val UE) x.locks∧DL w (Flat.val vT) x.threads∧DL w (Flat.val vU) x.recover∧DL w (Flat.val zz) x.cC
 ext h e:=by
  obtain ⟨g0,g1,g2,g3,g4,g5,rfl,h0,h1,h2,h3,h4,h5⟩:=h
  exact ⟨g0,g1,g2,g3,g4,g5,rfl,h0.ext e,h1.ext e,h2.ext e,h3.ext e,h4.ext e,h5.ext e⟩
def abu (x:cX):Prop:=(∀ y∈x.lines,(λ ys:(List dF)=>∀ y∈ys,wZ y) y)∧(∀ y∈x.jP,wZ y)∧(∀ y∈x.locks,wZ y)∧(∀ y∈x.threads,xa y)∧(∀ y∈x.recover,xa y)∧(∀ y∈x.cC,DG y)
structure UF where
 p:cX
 aK:(List ByteArray)
deriving DecidableEq
structure vV where
 p:bN
 aK:SV
instance:Flat vV where
 agg:=true
 sz:=7
 enc e:=[.slice e.p.lines.a e.p.lines.n e.p.lines.cap,.slice e.p.jP.a e.p.jP.n e.p.jP.cap,.slice e.p.locks.a e.p.locks.n e.p.locks.cap,.slice e.p.threads.a e.p.threads.n e.p.threads.cap,.slice e.p.recover.a e.p.recover.n e.p.recover.cap,.slice e.p.cC.a e.p.cC.n e.p.cC.cap,.slice e.aK.a e.aK.n e.aK.cap]
 val e:=.agg [.slice e.p.lines.a e.p.lines.n e.p.lines.cap,.slice e.p.jP.a e.p.jP.n e.p.jP.cap,.slice e.p.locks.a e.p.locks.n e.p.locks.cap,.slice e.p.threads.a e.p.threads.n e.p.threads.cap,.slice e.p.recover.a e.p.recover.n e.p.recover.cap,.slice e.p.cC.a e.p.cC.n e.p.cC.cap,.slice e.aK.a e.aK.n e.aK.cap].toArray
 pos:=by decide
 len _:=rfl
 one a v h:=by simp at h; rcases h with rfl | rfl | rfl | rfl | rfl | rfl | rfl <;> rfl
 nO _ _:=rfl
 oy h:=by cases h
instance:cA UF vV where
 dr w s x:=∃ (p_:bN) (Ky:SV),s=(⟨p_,Ky⟩:vV)∧cA.dr w p_ x.p∧DL w (Flat.val Ky) x.aK
 ext h e:=by
  obtain ⟨g0,g1,rfl,h0,h1⟩:=h
  exact ⟨g0,g1,rfl,cA.ext h0 e,h1.ext e⟩
@[ext] structure nk where
 kind:Int
 n:Int
deriving DecidableEq
instance:Flat nk where
 agg:=true
 sz:=2
 enc e:=[.int .i64 e.kind,.int .i64 e.n]
 val e:=.agg [.int .i64 e.kind,.int .i64 e.n].toArray
 pos:=by decide
 len _:=rfl
 one a v h:=by simp at h; rcases h with rfl | rfl <;> rfl
 nO _ _:=rfl
 oy h:=by cases h
instance:cA nk nk:=jb
structure aW where
 kind:Int
 a:Int
 b:Int
 e:(List nk)
 f:(List nk)
 to:Int
deriving DecidableEq
structure bU where
 kind:Int
 a:Int
 b:Int
 e:SV
 f:SV
 to:Int
instance:Flat bU where
 agg:=true
 sz:=6
 enc e:=[.int .i64 e.kind,.int .i64 e.a,.int .i64 e.b,.slice e.e.a e.e.n e.e.cap,.slice e.f.a e.f.n e.f.cap,.int .i64 e.to]
 val e:=.agg [.int .i64 e.kind,.int .i64 e.a,.int .i64 e.b,.slice e.e.a e.e.n e.e.cap,.slice e.f.a e.f.n e.f.cap,.int .i64 e.to].toArray
 pos:=by decide
 len _:=rfl
 one a v h:=by simp at h; rcases h with rfl | rfl | rfl | rfl | rfl | rfl <;> rfl
 nO _ _:=rfl
 oy h:=by cases h
instance:cA aW bU where
 dr w s x:=∃ (e_:SV) (f_:SV),s=(⟨x.kind,x.a,x.b,e_,f_,x.to⟩:bU)∧DL w (Flat.val e_) x.e∧DL w (Flat.val f_) x.f
 ext h e:=by
  obtain ⟨g0,g1,rfl,h0,h1⟩:=h
  exact ⟨g0,g1,rfl,h0.ext e,h1.ext e⟩
structure fm where
 aK:Int
 counts:Int
 l:(List aW)
deriving DecidableEq
structure cK where
 aK:Int
 counts:Int
 l:SV
instance:Flat cK where
 agg:=true
 sz:=3
 enc e:=[.int .i64 e.aK,.int .i64 e.counts,.slice e.l.a e.l.n e.l.cap]
 val e:=.agg [.int .i64 e.aK,.int .i64 e.counts,.slice e.l.a e.l.n e.l.cap].toArray
 pos:=by decide
 len _:=rfl
 one a v h:=by simp at h; rcases h with rfl | rfl | rfl <;> rfl
 nO _ _:=rfl
 oy h:=by cases h
instance:cA fm cK where
 dr w s x:=∃ (l_:SV),s=(⟨x.aK,x.counts,l_⟩:cK)∧DL w (Flat.val l_) x.l
 ext h e:=by
  obtain ⟨g0,rfl,h0⟩:=h
  exact ⟨g0,rfl,h0.ext e⟩
structure im where
 lines:(List Int)
 stays:Int
 dC:(List Int)
 locks:Int
 threads:(List fm)
 recover:fm
 cC:(List (List nk))
deriving DecidableEq
structure dL where
 lines:SV
 stays:Int
 dC:SV
 locks:Int
 threads:SV
 recover:cK
 cC:SV
instance:Flat dL where
 agg:=true
 sz:=9
 enc e:=[.slice e.lines.a e.lines.n e.lines.cap,.int .i64 e.stays,.slice e.dC.a e.dC.n e.dC.cap,.int .i64 e.locks,.slice e.threads.a e.threads.n e.threads.cap,.int .i64 e.recover.aK,.int .i64 e.recover.counts,.slice e.recover.l.a e.recover.l.n e.recover.l.cap,.slice e.cC.a e.cC.n e.cC.cap]
 val e:=.agg [.slice e.lines.a e.lines.n e.lines.cap,.int .i64 e.stays,.slice e.dC.a e.dC.n e.dC.cap,.int .i64 e.locks,.slice e.threads.a e.threads.n e.threads.cap,.int .i64 e.recover.aK,.int .i64 e.recover.counts,.slice e.recover.l.a e.recover.l.n e.recover.l.cap,.slice e.cC.a e.cC.n e.cC.cap].toArray
 pos:=by decide
 len _:=rfl
 one a v h:=by simp at h; rcases h with rfl | rfl | rfl | rfl | rfl | rfl | rfl | rfl | rfl <;> rfl
 nO _ _:=rfl
 oy h:=by cases h
instance:cA im dL where
 dr w s x:=∃ (DH:SV) (PQ:SV) (vT:SV) (vU:cK) (zz:SV),s=(⟨DH,x.stays,PQ,x.locks,vT,vU,zz⟩:dL)∧DL w (Flat.val DH) x.lines∧DL w (Flat.val PQ) x.dC∧DL w (Flat.val vT) x.threads∧cA.dr w vU x.recover∧DL w (Flat.val zz) x.cC
 ext h e:=by
  obtain ⟨g0,g1,g2,g3,g4,rfl,h0,h1,h2,h3,h4⟩:=h
  exact ⟨g0,g1,g2,g3,g4,rfl,h0.ext e,h1.ext e,h2.ext e,cA.ext h3 e,h4.ext e⟩
structure ei where
 kind:Int
 t:Int
 i:Int
 cut:(List Int)
deriving DecidableEq
structure dT where
 kind:Int
 t:Int
 i:Int
 cut:SV
instance:Flat dT where
 agg:=true
 sz:=4
 enc e:=[.int .i64 e.kind,.int .i64 e.t,.int .i64 e.i,.slice e.cut.a e.cut.n e.cut.cap]
 val e:=.agg [.int .i64 e.kind,.int .i64 e.t,.int .i64 e.i,.slice e.cut.a e.cut.n e.cut.cap].toArray
 pos:=by decide
 len _:=rfl
 one a v h:=by simp at h; rcases h with rfl | rfl | rfl | rfl <;> rfl
 nO _ _:=rfl
 oy h:=by cases h
instance:cA ei dT where
 dr w s x:=∃ (aoj:SV),s=(⟨x.kind,x.t,x.i,aoj⟩:dT)∧DL w (Flat.val aoj) x.cut
 ext h e:=by
  obtain ⟨g0,rfl,h0⟩:=h
  exact ⟨g0,rfl,h0.ext e⟩
def PR (x:ei):Prop:=my x.kind∧my x.t∧my x.i∧(∀ y∈x.cut,my y)
structure FD where
 kind:Int
 n:Int
 p:ei
deriving DecidableEq
structure zA where
 kind:Int
 n:Int
 p:dT
instance:Flat zA where
 agg:=true
 sz:=6
 enc e:=[.int .i64 e.kind,.int .i64 e.n,.int .i64 e.p.kind,.int .i64 e.p.t,.int .i64 e.p.i,.slice e.p.cut.a e.p.cut.n e.p.cut.cap]
 val e:=.agg [.int .i64 e.kind,.int .i64 e.n,.int .i64 e.p.kind,.int .i64 e.p.t,.int .i64 e.p.i,.slice e.p.cut.a e.p.cut.n e.p.cut.cap].toArray
 pos:=by decide
 len _:=rfl
 one a v h:=by simp at h; rcases h with rfl | rfl | rfl | rfl | rfl | rfl <;> rfl
 nO _ _:=rfl
 oy h:=by cases h
instance:cA FD zA where
 dr w s x:=∃ (p_:dT),s=(⟨x.kind,x.n,p_⟩:zA)∧cA.dr w p_ x.p
 ext h e:=by
  obtain ⟨g0,rfl,h0⟩:=h
  exact ⟨g0,rfl,cA.ext h0 e⟩
def ahR (x:FD):Prop:=my x.kind∧my x.n∧PR x.p
@[ext] structure dA where
 kind:Int
 t:Int
 a:Int
 n:Int
 m:Int
deriving DecidableEq
instance:Flat dA where
 agg:=true
 sz:=5
 enc e:=[.int .i64 e.kind,.int .i64 e.t,.int .i64 e.a,.int .i64 e.n,.int .i64 e.m]
 val e:=.agg [.int .i64 e.kind,.int .i64 e.t,.int .i64 e.a,.int .i64 e.n,.int .i64 e.m].toArray
 pos:=by decide
 len _:=rfl
 one a v h:=by simp at h; rcases h with rfl | rfl | rfl | rfl | rfl <;> rfl
 nO _ _:=rfl
 oy h:=by cases h
instance:cA dA dA:=jb
@[ext] structure iB where
 er:Int
 fault:Int
 t:Int
 done:Bool
 stuck:Bool
deriving DecidableEq
instance:Flat iB where
 agg:=true
 sz:=5
 enc e:=[.int .i64 e.er,.int .i64 e.fault,.int .i64 e.t,.bool e.done,.bool e.stuck]
 val e:=.agg [.int .i64 e.er,.int .i64 e.fault,.int .i64 e.t,.bool e.done,.bool e.stuck].toArray
 pos:=by decide
 len _:=rfl
 one a v h:=by simp at h; rcases h with rfl | rfl | rfl | rfl | rfl <;> rfl
 nO _ _:=rfl
 oy h:=by cases h
instance:cA iB iB:=jb
@[ext] structure bJ where
 kind:Int
 line:Int
 cell:Int
 n:Int
deriving DecidableEq
instance:Flat bJ where
 agg:=true
 sz:=4
 enc e:=[.int .i64 e.kind,.int .i64 e.line,.int .i64 e.cell,.int .i64 e.n]
 val e:=.agg [.int .i64 e.kind,.int .i64 e.line,.int .i64 e.cell,.int .i64 e.n].toArray
 pos:=by decide
 len _:=rfl
 one a v h:=by simp at h; rcases h with rfl | rfl | rfl | rfl <;> rfl
 nO _ _:=rfl
 oy h:=by cases h
instance:cA bJ bJ:=jb
@[ext] structure bF where
 kind:Int
 text:ByteArray
 n:Int
 at_:Int
deriving DecidableEq
instance:Flat bF where
 agg:=true
 sz:=4
 enc e:=[.int .i64 e.kind,.string e.text,.int .i64 e.n,.int .i64 e.at_]
 val e:=.agg [.int .i64 e.kind,.string e.text,.int .i64 e.n,.int .i64 e.at_].toArray
 pos:=by decide
 len _:=rfl
 one a v h:=by simp at h; rcases h with rfl | rfl | rfl | rfl <;> rfl
 nO _ _:=rfl
 oy h:=by cases h
instance:cA bF bF:=jb
@[ext] structure ji where
 cell:Int
 n:Int
deriving DecidableEq
instance:Flat ji where
 agg:=true
 sz:=2
 enc e:=[.int .i64 e.cell,.int .i64 e.n]
 val e:=.agg [.int .i64 e.cell,.int .i64 e.n].toArray
 pos:=by decide
 len _:=rfl
 one a v h:=by simp at h; rcases h with rfl | rfl <;> rfl
 nO _ _:=rfl
 oy h:=by cases h
instance:cA ji ji:=jb
def RT (p:Bool):Int:=if p then 1 else 0
def aeU (a b:Int):Int:=qV (a.tdiv b)
def Cc (op a:Int):Int:=if op=3 then qV (0 - a) else if op=4 then RT (decide (a=0)) else 0
def Kz (op:Int):Int:=if op=3∨op=4 then 0 else 1
def sO (op a b:Int):Int:=
 if op=5 then qV (a+b) else if op=6 then qV (a - b) else if op=7 then qV (a * b) else if op=8 then aeU a b else if op=9 then a.tmod b
 else if op=10 then RT (decide (a=b)) else if op=11 then RT (decide (¬ a=b)) else if op=12 then RT (decide (a<b)) else if op=13 then RT (decide (a≤b))
 else if op=14 then RT (decide (¬ a=0) && decide (¬ b=0)) else if op=15 then RT (decide (¬ a=0) || decide (¬ b=0)) else 0
def pU (op b:Int):Int:=if op<5∨15<op then 1 else if (op=8∨op=9)∧b=0 then 12 else 0
def pW (op a b:Int):Int:=if pU op b=0 then sO op a b else 0
theorem C228 (p:Bool) (w:World):CR 228 [.bool p] w (λ v w'=>v = .int .i64 (RT p)∧Ext w w'):=by
 have hs:=St.start w;refine aaw _ _ _ ?_;unfold S228;refine aX (λ DI=>?_) (λ DI=>?_)
 ·rw [DI];exact ⟨rfl,hs.aF⟩
 ·rw [DI];exact ⟨rfl,hs.aF⟩
theorem C217 (p:Bool) (w:World):CR 217 [.bool p] w (λ v w'=>v = .int .i64 (RT p)∧Ext w w'):=by
 have hs:=St.start w;refine aam _ _ _ ?_;unfold S217;refine aX (λ DI=>?_) (λ DI=>?_)
 ·rw [DI];exact ⟨rfl,hs.aF⟩
 ·rw [DI];exact ⟨rfl,hs.aF⟩
theorem C218 (a:Int) (w:World):CR 218 [.int .i64 a] w (λ v w'=>v = .bool (decide (¬ a=0))∧Ext w w'):=by
 have hs:=St.start w;refine aan _ _ _ ?_;unfold S218;refine cS ?_;exact ⟨rfl,hs.aF⟩
theorem C201 (op a:Int) (w:World):CR 201 [.int .i64 op,.int .i64 a] w (λ v w'=>v = .tuple #[.int .i64 (Cc op a),.int .i64 (Kz op)]∧Ext w w'):=by
 have hs:=St.start w;refine Z9 _ _ _ _ ?_;unfold S201;refine aH (aC (λ iQ=>?_) (λ iQ=>?_))
 ·refine DA ?_;unfold Cc Kz
  first | (rw [if_pos iQ,if_pos (.inl iQ)]; exact ⟨rfl,hs.aF⟩) | (rw [if_neg iQ,if_pos gO,if_pos (.inr gO)]; exact ⟨rfl,hs.aF⟩) | (rw [if_neg iQ,if_neg gO,if_neg (by omega)]; exact ⟨rfl,hs.aF⟩)
 ·refine aH (aC (λ gO=>?_) (λ gO=>?_))
  ·refine aH (aZ ans hs (C228 _ _) (λ w1 he hs=>?_));unfold Cc Kz
   first | (rw [if_pos iQ,if_pos (.inl iQ)]; exact ⟨rfl,hs.aF⟩) | (rw [if_neg iQ,if_pos gO,if_pos (.inr gO)]; exact ⟨rfl,hs.aF⟩) | (rw [if_neg iQ,if_neg gO,if_neg (by omega)]; exact ⟨rfl,hs.aF⟩)
  ·unfold Cc Kz
   first | (rw [if_pos iQ,if_pos (.inl iQ)]; exact ⟨rfl,hs.aF⟩) | (rw [if_neg iQ,if_pos gO,if_pos (.inr gO)]; exact ⟨rfl,hs.aF⟩) | (rw [if_neg iQ,if_neg gO,if_neg (by omega)]; exact ⟨rfl,hs.aF⟩)
theorem C173 (op a:Int) (w:World):CR 173 [.int .i64 op,.int .i64 a] w (λ v w'=>v = .tuple #[.int .i64 (Cc op a),.int .i64 (Kz op)]∧Ext w w'):=by
 have hs:=St.start w;refine ZL _ _ _ _ ?_;unfold S173;refine aH (aC (λ gn=>?_) (λ gn=>?_))
 ·refine Uy ?_;unfold Cc Kz
  first | (rw [if_pos gn,if_pos (.inl gn)]; exact ⟨rfl,hs.aF⟩) | (rw [if_neg gn,if_pos jW,if_pos (.inr jW)]; exact ⟨congrArg (λ p=>Value.tuple #[.int .i64 (RT p),.int .i64 0]) (by simp),hs.aF⟩) | (rw [if_neg gn,if_neg jW,if_neg (by omega)]; exact ⟨rfl,hs.aF⟩)
 ·refine aH (aC (λ jW=>?_) (λ jW=>?_))
  ·refine aZ JW hs (C218 _ _) (λ w1 he hs=>?_)
   first | refine Dg ?_ | refine bY ?_
   refine aZ aez hs (C217 _ _) (λ w2 he hs=>?_);unfold Cc Kz
   first | (rw [if_pos gn,if_pos (.inl gn)]; exact ⟨rfl,hs.aF⟩) | (rw [if_neg gn,if_pos jW,if_pos (.inr jW)]; exact ⟨congrArg (λ p=>Value.tuple #[.int .i64 (RT p),.int .i64 0]) (by simp),hs.aF⟩) | (rw [if_neg gn,if_neg jW,if_neg (by omega)]; exact ⟨rfl,hs.aF⟩)
  ·unfold Cc Kz
   first | (rw [if_pos gn,if_pos (.inl gn)]; exact ⟨rfl,hs.aF⟩) | (rw [if_neg gn,if_pos jW,if_pos (.inr jW)]; exact ⟨congrArg (λ p=>Value.tuple #[.int .i64 (RT p),.int .i64 0]) (by simp),hs.aF⟩) | (rw [if_neg gn,if_neg jW,if_neg (by omega)]; exact ⟨rfl,hs.aF⟩)
theorem qW:aog PG 289 16 288:=⟨by kernel_rfl,by kernel_rfl⟩
def aok (b1 b2 b3 b4 b5 b6:Nat) (w:World):Prop:=
 Cell w b1 0 (.func (.func 243) #[] #[])∧Cell w b2 0 (.func (.func 244) #[] #[])∧Cell w b3 0 (.func (.func 245) #[] #[])∧Cell w b4 0 (.func (.func 246) #[] #[])∧Cell w b5 0 (.func (.func 247) #[] #[])∧Cell w b6 0 (.func (.func 248) #[] #[])
def opsV (b1 b2 b3 b4 b5 b6:Nat):Value:=
 .agg [.nilFunc,.nilFunc,.nilFunc,.nilFunc,.nilFunc,.func (.func 238) #[] #[],.func (.func 239) #[] #[],.func (.func 240) #[] #[],.func (.func 241) #[] #[],.func (.func 242) #[] #[],
  .func (.func 237) #[] #[.pointer (some ⟨b1,0,none⟩)],.func (.func 237) #[] #[.pointer (some ⟨b2,0,none⟩)],.func (.func 237) #[] #[.pointer (some ⟨b3,0,none⟩)],.func (.func 237) #[] #[.pointer (some ⟨b4,0,none⟩)],
  .func (.func 237) #[] #[.pointer (some ⟨b5,0,none⟩)],.func (.func 237) #[] #[.pointer (some ⟨b6,0,none⟩)]].toArray
def Fb2 (f:Value) (g:Int→Int→Bool):Prop:=∃ g0,f = .func (.func g0) #[] #[]∧Plain PG g0∧
 ∀ a b w1,Calls PG g0 [.int .i64 a,.int .i64 b].toArray w1 (qg λ v w2=>v = .bool (g a b)∧Ext w1 w2)
theorem C238 (a b:Int) (w:World):CR 238 [.int .i64 a,.int .i64 b] w (λ v w'=>v = .int .i64 (qV (a+b))∧Ext w w'):=by
 have hs:=St.start w;refine aaG _ _ _ _ ?_;unfold S238;refine Ko ?_;exact ⟨rfl,hs.aF⟩
theorem C239 (a b:Int) (w:World):CR 239 [.int .i64 a,.int .i64 b] w (λ v w'=>v = .int .i64 (qV (a - b))∧Ext w w'):=by
 have hs:=St.start w;refine aaH _ _ _ _ ?_;unfold S239;refine DA ?_;exact ⟨rfl,hs.aF⟩
theorem C240 (a b:Int) (w:World):CR 240 [.int .i64 a,.int .i64 b] w (λ v w'=>v = .int .i64 (qV (a * b))∧Ext w w'):=by
 have hs:=St.start w;refine aaI _ _ _ _ ?_;unfold S240;refine Kp ?_;exact ⟨rfl,hs.aF⟩
theorem C241 (a b:Int) (w:World) (h:b≠0):CR 241 [.int .i64 a,.int .i64 b] w (λ v w'=>v = .int .i64 (aeU a b)∧Ext w w'):=by
 have hs:=St.start w;refine aaJ _ _ _ _ ?_;unfold S241;refine Uz h ?_;exact ⟨rfl,hs.aF⟩
theorem C242 (a b:Int) (w:World) (h:b≠0):CR 242 [.int .i64 a,.int .i64 b] w (λ v w'=>v = .int .i64 (a.tmod b)∧Ext w w'):=by
 have hs:=St.start w;refine aaK _ _ _ _ ?_;unfold S242;refine UA h ?_;exact ⟨rfl,hs.aF⟩
theorem C243 (a b:Int) (w:World):CR 243 [.int .i64 a,.int .i64 b] w (λ v w'=>v = .bool (decide (a=b))∧Ext w w'):=by
 have hs:=St.start w;refine aaL _ _ _ _ ?_;unfold S243;refine aH ?_;exact ⟨rfl,hs.aF⟩
theorem C244 (a b:Int) (w:World):CR 244 [.int .i64 a,.int .i64 b] w (λ v w'=>v = .bool (decide (¬ a=b))∧Ext w w'):=by
 have hs:=St.start w;refine aaM _ _ _ _ ?_;unfold S244;refine cS ?_;exact ⟨rfl,hs.aF⟩
theorem C245 (a b:Int) (w:World):CR 245 [.int .i64 a,.int .i64 b] w (λ v w'=>v = .bool (decide (a<b))∧Ext w w'):=by
 have hs:=St.start w;refine aaN _ _ _ _ ?_;unfold S245;refine aR ?_;exact ⟨rfl,hs.aF⟩
theorem C246 (a b:Int) (w:World):CR 246 [.int .i64 a,.int .i64 b] w (λ v w'=>v = .bool (decide (a≤b))∧Ext w w'):=by
 have hs:=St.start w;refine aaO _ _ _ _ ?_;unfold S246;refine j4 ?_;exact ⟨rfl,hs.aF⟩
theorem C247 (a b:Int) (w:World):CR 247 [.int .i64 a,.int .i64 b] w (λ v w'=>v = .bool (decide (¬ a=0) && decide (¬ b=0))∧Ext w w'):=by
 have hs:=St.start w;refine aaP _ _ _ _ ?_;unfold S247;refine ⟨_,?_,λ _ _ h=>h⟩;refine aZ JW hs (C218 _ _) (λ w1 he hs=>aC (λ pD=>?_) (λ pD=>?_))
 ·refine aZ JW hs (C218 _ _) (λ w2 he hs=>?_);intro fy
  first | (rw [decide_eq_true pD]; exact ⟨rfl,hs.aF⟩) | (rw [decide_eq_false pD]; exact ⟨rfl,hs.aF⟩)
 ·intro fy
  first | (rw [decide_eq_true pD]; exact ⟨rfl,hs.aF⟩) | (rw [decide_eq_false pD]; exact ⟨rfl,hs.aF⟩)
theorem C248 (a b:Int) (w:World):CR 248 [.int .i64 a,.int .i64 b] w (λ v w'=>v = .bool (decide (¬ a=0) || decide (¬ b=0))∧Ext w w'):=by
 have hs:=St.start w;refine aaQ _ _ _ _ ?_;unfold S248;refine ⟨_,?_,λ _ _ h=>h⟩;refine aZ JW hs (C218 _ _) (λ w1 he hs=>aC (λ pD=>?_) (λ pD=>?_))
 ·intro fy
  first | (rw [decide_eq_true pD]; exact ⟨rfl,hs.aF⟩) | (rw [decide_eq_false pD]; exact ⟨rfl,hs.aF⟩)
 ·refine aZ JW hs (C218 _ _) (λ w2 he hs=>?_);intro fy
  first | (rw [decide_eq_true pD]; exact ⟨rfl,hs.aF⟩) | (rw [decide_eq_false pD]; exact ⟨rfl,hs.aF⟩)
theorem C236 (g:Nat) (w:World):CR 236 [.func (.func g) #[] #[]] w (λ v w'=>∃ b,v = .func (.func 237) #[] #[.pointer (some ⟨b,0,none⟩)]∧lW (cD b [.func (.func g) #[] #[]]) w w'):=by
 have hs:=St.start w;refine aaE _ _ _ ?_;unfold S236;refine tA hs rfl (λ aol w1 hs=>?_);exact ⟨aol,rfl,hs.fresh⟩
theorem C237 (a b:Int) (b2:Nat) (fv:Value) (g:Int→Int→Bool) (w:World) (hc:Cell w b2 0 fv) (hf:Fb2 fv g):CR 237 [.int .i64 a,.int .i64 b,.pointer (some ⟨b2,0,none⟩)] w (λ v w'=>v = .int .i64 (RT (g a b))∧Ext w w'):=by
 obtain ⟨g0,rfl,vf,lQ⟩:=hf;have hs:=St.start w;refine aaF _ _ _ _ _ ?_;unfold S237;refine cG anU (hc.ext hs.aF) (ga (first:=[]) (cap:=[]) vf (lQ a b _) ?_);rintro _ w1 ⟨rfl,he⟩;have hs:=hs.ext he;refine aZ aez hs (C217 _ _) (λ w2 he hs=>?_);exact ⟨rfl,hs.aF⟩
theorem C219 (w:World):CR 219 [] w (λ v w'=>∃ b1 b2 b3 b4 b5 b6,v=opsV b1 b2 b3 b4 b5 b6∧lW (eX (aok b1 b2 b3 b4 b5 b6)) w w'):=by
 have hs:=St.start w;refine aao _ _ ?_;unfold S219;refine aN hs PJ (λ avN w1 hs=>aN hs PJ (λ b_l1 w2 hs=>nY qW (by omega) (by omega) (aV hs vP (eF rfl) (rfl) (λ w3 hs=>nY qW (by omega) (by omega) (aV hs vP (eF rfl) (rfl) (λ w4 hs=>nY qW (by omega) (by omega) (aV hs vP (eF rfl) (rfl) (λ w5 hs=>nY qW (by omega) (by omega) (aV hs vP (eF rfl) (rfl) (λ w6 hs=>nY qW (by omega) (by omega) (aV hs vP (eF rfl) (rfl) (λ w7 hs=>ga (first:=[]) (cap:=[]) Gh (C236 243 _) ?_))))))))))));rintro _ w8 ⟨DJ,rfl,bZ⟩;have hs:=hs.made bZ;refine nY qW (by omega) (by omega) (aV hs.p1 vP (eF rfl) (rfl) (λ w9 hs=>ga (first:=[]) (cap:=[]) Gh (C236 244 _) ?_))
 rintro _ pQ ⟨PU,rfl,bZ⟩;have hs:=hs.made bZ;refine nY qW (by omega) (by omega) (aV hs.p1 vP (eF rfl) (rfl) (λ sP hs=>ga (first:=[]) (cap:=[]) Gh (C236 245 _) ?_));rintro _ vi ⟨aeV,rfl,bZ⟩;have hs:=hs.made bZ;refine nY qW (by omega) (by omega) (aV hs.p1 vP (eF rfl) (rfl) (λ vj hs=>ga (first:=[]) (cap:=[]) Gh (C236 246 _) ?_));rintro _ sd ⟨UG,rfl,bZ⟩;have hs:=hs.made bZ;refine nY qW (by omega) (by omega) (aV hs.p1 vP (eF rfl) (rfl) (λ vW hs=>ga (first:=[]) (cap:=[]) Gh (C236 247 _) ?_));rintro _ yM ⟨aeW,rfl,bZ⟩;have hs:=hs.made bZ;refine nY qW (by omega) (by omega) (aV hs.p1 vP (eF rfl) (rfl) (λ Cd hs=>ga (first:=[]) (cap:=[]) Gh (C236 248 _) ?_))
 rintro _ Il ⟨BN,rfl,bZ⟩;have hs:=hs.made bZ;refine nY qW (by omega) (by omega) (aV hs.p1 vP (eF rfl) (rfl) (λ Jo hs=>qO Ub hs.hb rfl (pn hs.p7 Ub rfl (by decide) (by simp [rN,gV]) (λ KA hs=>qO Ub hs.hb rfl ?_))));have hs:=(((((((((((((hs.drop)).drop).p1).p2).p3).p4).p5).qD).p1).qD).p2).qD).p3;have hs:=hs.qD.p4.qD.p5.qD.fL.fL.fL.fL.fL;refine ⟨DJ,PU,aeV,UG,aeW,BN,rfl,(hs.dN (Ψ:=aok DJ PU aeV UG aeW BN) λ w h=>?_).fresh⟩;obtain ⟨⟨⟨⟨⟨h6,h5⟩,h4⟩,h3⟩,h2⟩,h1⟩:=h;exact ⟨h1.cell rfl,h2.cell rfl,h3.cell rfl,h4.cell rfl,h5.cell rfl,h6.cell rfl⟩
theorem fb1:Fb2 (.func (.func 243) #[] #[]) (λ a b=>decide (a=b)):=⟨243,rfl,anA,λ a b w1=>C243 a b w1⟩
theorem fb2:Fb2 (.func (.func 244) #[] #[]) (λ a b=>decide (¬ a=b)):=⟨244,rfl,anB,λ a b w1=>C244 a b w1⟩
theorem fb3:Fb2 (.func (.func 245) #[] #[]) (λ a b=>decide (a<b)):=⟨245,rfl,anC,λ a b w1=>C245 a b w1⟩
theorem fb4:Fb2 (.func (.func 246) #[] #[]) (λ a b=>decide (a≤b)):=⟨246,rfl,anD,λ a b w1=>C246 a b w1⟩
theorem fb5:Fb2 (.func (.func 247) #[] #[]) (λ a b=>decide (¬ a=0) && decide (¬ b=0)):=⟨247,rfl,anE,λ a b w1=>C247 a b w1⟩
theorem fb6:Fb2 (.func (.func 248) #[] #[]) (λ a b=>decide (¬ a=0) || decide (¬ b=0)):=⟨248,rfl,anF,λ a b w1=>C248 a b w1⟩
theorem C175 (op a b:Int) (w:World):CR 175 [.int .i64 op,.int .i64 a,.int .i64 b] w (λ v w'=>v = .tuple #[.int .i64 (pW op a b),.int .i64 (pU op b)]∧Ext w w'):=by
 have hs:=St.start w;refine ZN _ _ _ _ _ ?_;unfold S175;refine ⟨_,?_,λ _ _ h=>h⟩;refine aR (aC (λ fO=>?_) (λ fO=>?_))
 ·intro fy;refine nN ?_
  first | exact ⟨rfl,hs.aF⟩ | (subst_vars; exact ⟨rfl,hs.aF⟩) | (refine ⟨?_,hs.aF⟩; unfold pW pU sO; first | (rw [if_pos (show op<5∨15<op by omega)]; rfl) | simp [*])
 ·refine dG ?_;intro fy;refine aC (λ gP=>?_) (λ gP=>?_)
  ·first | exact ⟨rfl,hs.aF⟩ | (subst_vars; exact ⟨rfl,hs.aF⟩) | (refine ⟨?_,hs.aF⟩; unfold pW pU sO; first | (rw [if_pos (show op<5∨15<op by omega)]; rfl) | simp [*])
  ·refine ey ank (C219 _) ?_;rintro _ w2 ⟨b1,b2,b3,b4,b5,b6,rfl,bZ⟩;have hs:=hs.made bZ;obtain rfl | rfl | rfl | rfl | rfl | rfl | rfl | rfl | rfl | rfl | rfl | rfl | rfl | rfl | rfl | rfl:op=0∨op=1∨op=2∨op=3∨op=4∨op=5∨op=6∨op=7∨op=8∨op=9∨op=10∨op=11∨op=12∨op=13∨op=14∨op=15:=by omega
   ·refine pop (v:=.nilFunc) (by kernel_rfl) (pop (v:=.bool true) (by kernel_rfl) (nN ?_))
    first | exact ⟨rfl,hs.aF⟩ | (subst_vars; exact ⟨rfl,hs.aF⟩) | (refine ⟨?_,hs.aF⟩; unfold pW pU sO; first | (rw [if_pos (show op<5∨15<op by omega)]; rfl) | simp [*])
   ·refine pop (v:=.nilFunc) (by kernel_rfl) (pop (v:=.bool true) (by kernel_rfl) (nN ?_))
    first | exact ⟨rfl,hs.aF⟩ | (subst_vars; exact ⟨rfl,hs.aF⟩) | (refine ⟨?_,hs.aF⟩; unfold pW pU sO; first | (rw [if_pos (show op<5∨15<op by omega)]; rfl) | simp [*])
   ·refine pop (v:=.nilFunc) (by kernel_rfl) (pop (v:=.bool true) (by kernel_rfl) (nN ?_))
    first | exact ⟨rfl,hs.aF⟩ | (subst_vars; exact ⟨rfl,hs.aF⟩) | (refine ⟨?_,hs.aF⟩; unfold pW pU sO; first | (rw [if_pos (show op<5∨15<op by omega)]; rfl) | simp [*])
   ·refine pop (v:=.nilFunc) (by kernel_rfl) (pop (v:=.bool true) (by kernel_rfl) (nN ?_))
    first | exact ⟨rfl,hs.aF⟩ | (subst_vars; exact ⟨rfl,hs.aF⟩) | (refine ⟨?_,hs.aF⟩; unfold pW pU sO; first | (rw [if_pos (show op<5∨15<op by omega)]; rfl) | simp [*])
   ·refine pop (v:=.nilFunc) (by kernel_rfl) (pop (v:=.bool true) (by kernel_rfl) (nN ?_))
    first | exact ⟨rfl,hs.aF⟩ | (subst_vars; exact ⟨rfl,hs.aF⟩) | (refine ⟨?_,hs.aF⟩; unfold pW pU sO; first | (rw [if_pos (show op<5∨15<op by omega)]; rfl) | simp [*])
   ·refine pop (v:=.func (.func 238) #[] #[]) (by kernel_rfl) (pop (v:=.bool false) (by kernel_rfl) (fC ?_));refine ⟨_,?_,λ _ _ h=>h⟩;refine aH (fH (by decide) (aH (fH (by decide) ?_)));intro jw;refine fC (ga (first:=[]) (cap:=[]) anu (C238 a b _) ?_);rintro _ w4 ⟨rfl,he⟩;have hs:=hs.ext he
    first | exact ⟨rfl,hs.aF⟩ | (subst_vars; exact ⟨rfl,hs.aF⟩) | (refine ⟨?_,hs.aF⟩; unfold pW pU sO; first | (rw [if_pos (show op<5∨15<op by omega)]; rfl) | simp [*])
   ·refine pop (v:=.func (.func 239) #[] #[]) (by kernel_rfl) (pop (v:=.bool false) (by kernel_rfl) (fC ?_));refine ⟨_,?_,λ _ _ h=>h⟩;refine aH (fH (by decide) (aH (fH (by decide) ?_)));intro jw;refine fC (ga (first:=[]) (cap:=[]) anv (C239 a b _) ?_);rintro _ w4 ⟨rfl,he⟩;have hs:=hs.ext he
    first | exact ⟨rfl,hs.aF⟩ | (subst_vars; exact ⟨rfl,hs.aF⟩) | (refine ⟨?_,hs.aF⟩; unfold pW pU sO; first | (rw [if_pos (show op<5∨15<op by omega)]; rfl) | simp [*])
   ·refine pop (v:=.func (.func 240) #[] #[]) (by kernel_rfl) (pop (v:=.bool false) (by kernel_rfl) (fC ?_));refine ⟨_,?_,λ _ _ h=>h⟩;refine aH (fH (by decide) (aH (fH (by decide) ?_)));intro jw;refine fC (ga (first:=[]) (cap:=[]) anw (C240 a b _) ?_);rintro _ w4 ⟨rfl,he⟩;have hs:=hs.ext he
    first | exact ⟨rfl,hs.aF⟩ | (subst_vars; exact ⟨rfl,hs.aF⟩) | (refine ⟨?_,hs.aF⟩; unfold pW pU sO; first | (rw [if_pos (show op<5∨15<op by omega)]; rfl) | simp [*])
   ·refine pop (v:=.func (.func 241) #[] #[]) (by kernel_rfl) (pop (v:=.bool false) (by kernel_rfl) (fC ?_));refine ⟨_,?_,λ _ _ h=>h⟩;refine aH (gD (by decide) (aH ?_));intro jw;refine aC (λ gr=>?_) (λ gr=>?_)
    ·first | exact ⟨rfl,hs.aF⟩ | (subst_vars; exact ⟨rfl,hs.aF⟩) | (refine ⟨?_,hs.aF⟩; unfold pW pU sO; first | (rw [if_pos (show op<5∨15<op by omega)]; rfl) | simp [*])
    ·refine ga (first:=[]) (cap:=[]) anx (C241 a b _ gr) ?_;rintro _ w4 ⟨rfl,he⟩;have hs:=hs.ext he
     first | exact ⟨rfl,hs.aF⟩ | (subst_vars; exact ⟨rfl,hs.aF⟩) | (refine ⟨?_,hs.aF⟩; unfold pW pU sO; first | (rw [if_pos (show op<5∨15<op by omega)]; rfl) | simp [*])
   ·refine pop (v:=.func (.func 242) #[] #[]) (by kernel_rfl) (pop (v:=.bool false) (by kernel_rfl) (fC ?_));refine ⟨_,?_,λ _ _ h=>h⟩;refine aH (fH (by decide) (aH (gD (by decide) (aH ?_))));intro jw;refine aC (λ gr=>?_) (λ gr=>?_)
    ·first | exact ⟨rfl,hs.aF⟩ | (subst_vars; exact ⟨rfl,hs.aF⟩) | (refine ⟨?_,hs.aF⟩; unfold pW pU sO; first | (rw [if_pos (show op<5∨15<op by omega)]; rfl) | simp [*])
    ·refine ga (first:=[]) (cap:=[]) anz (C242 a b _ gr) ?_;rintro _ w4 ⟨rfl,he⟩;have hs:=hs.ext he
     first | exact ⟨rfl,hs.aF⟩ | (subst_vars; exact ⟨rfl,hs.aF⟩) | (refine ⟨?_,hs.aF⟩; unfold pW pU sO; first | (rw [if_pos (show op<5∨15<op by omega)]; rfl) | simp [*])
   ·refine pop (v:=.func (.func 237) #[] #[.pointer (some ⟨b1,0,none⟩)]) (by kernel_rfl) (pop (v:=.bool false) (by kernel_rfl) (fC ?_));refine ⟨_,?_,λ _ _ h=>h⟩;refine aH (fH (by decide) (aH (fH (by decide) ?_)));intro jw;refine fC ?_;obtain ⟨o1,o2,o3,o4,o5,o6⟩:=hs.eX;refine ga (first:=[]) (cap:=[.pointer (some ⟨b1,0,none⟩)]) Gi (C237 a b b1 _ _ _ o1 fb1) ?_;rintro _ w4 ⟨rfl,he⟩;have hs:=hs.ext he
    first | exact ⟨rfl,hs.aF⟩ | (subst_vars; exact ⟨rfl,hs.aF⟩) | (refine ⟨?_,hs.aF⟩; unfold pW pU sO; first | (rw [if_pos (show op<5∨15<op by omega)]; rfl) | simp [*])
   ·refine pop (v:=.func (.func 237) #[] #[.pointer (some ⟨b2,0,none⟩)]) (by kernel_rfl) (pop (v:=.bool false) (by kernel_rfl) (fC ?_));refine ⟨_,?_,λ _ _ h=>h⟩;refine aH (fH (by decide) (aH (fH (by decide) ?_)));intro jw;refine fC ?_;obtain ⟨o1,o2,o3,o4,o5,o6⟩:=hs.eX;refine ga (first:=[]) (cap:=[.pointer (some ⟨b2,0,none⟩)]) Gi (C237 a b b2 _ _ _ o2 fb2) ?_;rintro _ w4 ⟨rfl,he⟩;have hs:=hs.ext he
    first | exact ⟨rfl,hs.aF⟩ | (subst_vars; exact ⟨rfl,hs.aF⟩) | (refine ⟨?_,hs.aF⟩; unfold pW pU sO; first | (rw [if_pos (show op<5∨15<op by omega)]; rfl) | simp [*])
   ·refine pop (v:=.func (.func 237) #[] #[.pointer (some ⟨b3,0,none⟩)]) (by kernel_rfl) (pop (v:=.bool false) (by kernel_rfl) (fC ?_));refine ⟨_,?_,λ _ _ h=>h⟩;refine aH (fH (by decide) (aH (fH (by decide) ?_)));intro jw;refine fC ?_;obtain ⟨o1,o2,o3,o4,o5,o6⟩:=hs.eX;refine ga (first:=[]) (cap:=[.pointer (some ⟨b3,0,none⟩)]) Gi (C237 a b b3 _ _ _ o3 fb3) ?_;rintro _ w4 ⟨rfl,he⟩;have hs:=hs.ext he
    first | exact ⟨rfl,hs.aF⟩ | (subst_vars; exact ⟨rfl,hs.aF⟩) | (refine ⟨?_,hs.aF⟩; unfold pW pU sO; first | (rw [if_pos (show op<5∨15<op by omega)]; rfl) | simp [*])
   ·refine pop (v:=.func (.func 237) #[] #[.pointer (some ⟨b4,0,none⟩)]) (by kernel_rfl) (pop (v:=.bool false) (by kernel_rfl) (fC ?_));refine ⟨_,?_,λ _ _ h=>h⟩;refine aH (fH (by decide) (aH (fH (by decide) ?_)));intro jw;refine fC ?_;obtain ⟨o1,o2,o3,o4,o5,o6⟩:=hs.eX;refine ga (first:=[]) (cap:=[.pointer (some ⟨b4,0,none⟩)]) Gi (C237 a b b4 _ _ _ o4 fb4) ?_;rintro _ w4 ⟨rfl,he⟩;have hs:=hs.ext he
    first | exact ⟨rfl,hs.aF⟩ | (subst_vars; exact ⟨rfl,hs.aF⟩) | (refine ⟨?_,hs.aF⟩; unfold pW pU sO; first | (rw [if_pos (show op<5∨15<op by omega)]; rfl) | simp [*])
   ·refine pop (v:=.func (.func 237) #[] #[.pointer (some ⟨b5,0,none⟩)]) (by kernel_rfl) (pop (v:=.bool false) (by kernel_rfl) (fC ?_));refine ⟨_,?_,λ _ _ h=>h⟩;refine aH (fH (by decide) (aH (fH (by decide) ?_)));intro jw;refine fC ?_;obtain ⟨o1,o2,o3,o4,o5,o6⟩:=hs.eX;refine ga (first:=[]) (cap:=[.pointer (some ⟨b5,0,none⟩)]) Gi (C237 a b b5 _ _ _ o5 fb5) ?_;rintro _ w4 ⟨rfl,he⟩;have hs:=hs.ext he
    first | exact ⟨rfl,hs.aF⟩ | (subst_vars; exact ⟨rfl,hs.aF⟩) | (refine ⟨?_,hs.aF⟩; unfold pW pU sO; first | (rw [if_pos (show op<5∨15<op by omega)]; rfl) | simp [*])
   ·refine pop (v:=.func (.func 237) #[] #[.pointer (some ⟨b6,0,none⟩)]) (by kernel_rfl) (pop (v:=.bool false) (by kernel_rfl) (fC ?_));refine ⟨_,?_,λ _ _ h=>h⟩;refine aH (fH (by decide) (aH (fH (by decide) ?_)));intro jw;refine fC ?_;obtain ⟨o1,o2,o3,o4,o5,o6⟩:=hs.eX;refine ga (first:=[]) (cap:=[.pointer (some ⟨b6,0,none⟩)]) Gi (C237 a b b6 _ _ _ o6 fb6) ?_;rintro _ w4 ⟨rfl,he⟩;have hs:=hs.ext he
    first | exact ⟨rfl,hs.aF⟩ | (subst_vars; exact ⟨rfl,hs.aF⟩) | (refine ⟨?_,hs.aF⟩; unfold pW pU sO; first | (rw [if_pos (show op<5∨15<op by omega)]; rfl) | simp [*])
theorem gX {α:Type} {l:List α} {k:Nat} {e:α} (h:l[k]? = some e):l.take k++[e]=l.take (k+1):=by rw [List.take_add_one,h]; rfl
theorem eC {α:Type} {φ:α→Prop} {l:List α} {k:Nat} {e:α} (h:∀ y∈l.take k,φ y) (he:l[k]? = some e) (hp:φ e):∀ y∈l.take (k+1),φ y:=by
 intro y hy
 rw [← gX he] at hy
 rcases List.mem_append.1 hy with hy | hy
 ·exact h y hy
 ·rw [List.mem_singleton.1 hy]; exact hp
theorem jx {α:Type} {g:α→Bool} {l:List α} {k:Nat} {e:α} (he:l[k]? = some e) (hg:g e=true):l.any g=true:=List.any_eq_true.2 ⟨e,List.mem_of_getElem? he,hg⟩
theorem iF {α:Type} {g:α→Bool} {l:List α} (h:∀ y∈l,g y=false):l.any g=false:=by
 rw [List.any_eq_false]; intro y hy; rw [h y hy]; simp
def uN {α:Type} (g:α→Bool) (l:List α):Int:=match l.findIdx? g with | some k=>k | none=>-1
theorem pd {α:Type} {g:α→Bool} {l:List α} {k:Nat} {e:α} (fS:∀ y∈l.take k,g y=false) (he:l[k]? = some e) (hg:g e=true):uN g l=k:=by
 have:l.findIdx? g=some k:=by
  rw [List.findIdx?_eq_some_iff_getElem]
  have hk:=(List.getElem?_eq_some_iff.1 he).1
  refine ⟨hk,by rw [(List.getElem?_eq_some_iff.1 he).2]; exact hg,λ j hj=>?_⟩
  have:=fS (l[j]'(by omega)) (List.mem_take_iff_getElem.2 ⟨j,by omega,rfl⟩)
  simp [this]
 unfold uN; rw [this]
theorem ko {α:Type} {g:α→Bool} {l:List α} (fS:∀ y∈l,g y=false):uN g l = -1:=by
 have:l.findIdx? g=none:=by rw [List.findIdx?_eq_none_iff]; exact fS
 unfold uN; rw [this]
theorem n8 {α:Type} (g:α→Bool) (l:List α):decide (0≤uN g l)=l.any g:=by
 unfold uN
 cases h:l.findIdx? g with
 | none=>
  rw [List.findIdx?_eq_none_iff] at h
  have:l.any g=false:=by rw [List.any_eq_false]; intro x hx; rw [h x hx]; simp
  rw [this]; rfl
 | some k=>
  have h':=(List.findIdx?_eq_some_iff_getElem.1 h)
  obtain ⟨hk,hg,_⟩:=h'
  have:l.any g=true:=List.any_eq_true.2 ⟨_,List.getElem_mem hk,hg⟩
  rw [this]; simp
def Ce {α:Type} [Flat α] (w:World) (f:Value) (g:α→Bool):Prop:=∃ g0 first cap,f = .func (.func g0) (List.toArray first) (List.toArray cap)∧Plain PG g0∧
 ∀ x w1,Ext w w1→Calls PG g0 (first++[Flat.val x]++cap).toArray w1 (qg λ v w2=>v = .bool (g x)∧Ext w1 w2)
theorem Ce.ext {α:Type} [Flat α] {w w':World} {f:Value} {g:α→Bool} (h:Ce w f g) (e:Ext w w'):Ce w' f g:=by
 obtain ⟨g0,first,cap,h1,h2,h3⟩:=h; exact ⟨g0,first,cap,h1,h2,λ x w1 e1=>h3 x w1 (e.trans e1)⟩
def fE (k:Int):Int:=if k=3∨k=4 then 1 else if 5≤k∧k≤15 then 2 else 0
def KB (st:Option (Int × Int)) (x:nk):Option (Int × Int):=match st with
 | none=>none
 | some (n,h)=>if n - fE x.kind<0 then none else some (n - fE x.kind+1,max h (n - fE x.kind+1))
def ht (l:List nk):Option (Int × Int):=l.foldl KB (some (0,0))
def htN (l:List nk):Int:=match ht l with | some p=>p.1 | none=>0
def htH (l:List nk):Int:=match ht l with | some p=>p.2 | none=>0
theorem zB {l:List nk} {k:Nat} {x:nk} (h:l[k]? = some x):ht (l.take (k+1))=KB (ht (l.take k)) x:=by
 unfold ht; rw [← gX h,List.foldl_append]; rfl
theorem PV {l:List nk} {k:Nat} (h:ht (l.take k)=none):ht l=none:=by
 have key:∀ m:List nk,m.foldl KB none=none:=λ m=>by induction m with | nil=>rfl | cons y m ih=>exact ih
 have e:l=l.take k++l.drop k:=(List.take_append_drop k l).symm
 unfold ht at *
 rw [e,List.foldl_append,h]; exact key _
theorem PW (k:Int):0≤fE k∧fE k≤2:=by
 unfold fE
 repeat' split
 all_goals omega
theorem ahT {l:List nk}:∀ k n h,k≤l.length→ht (l.take k)=some (n,h)→0≤n∧n≤(k:Int)∧0≤h∧h≤(k:Int)
 | 0,n,h,_,e=>by
  have:ht ([]:List nk)=some (0,0):=rfl
  rw [List.take_zero,this] at e
  obtain ⟨rfl,rfl⟩:=Prod.mk.inj (Option.some.inj e); omega
 | k+1,n,h,hk,e=>by
  obtain ⟨x,hx⟩:∃ x,l[k]? = some x:=⟨_,List.getElem?_eq_getElem (by omega)⟩
  rw [zB hx] at e
  cases hp:ht (l.take k) with
  | none=>rw [hp] at e; cases e
  | some p=>
   obtain ⟨a,b⟩:=p
   have ih:=ahT k a b (by omega) hp
   have hw:=PW x.kind
   rw [hp] at e
   unfold KB at e
   simp only [] at e
   split at e
   ·cases e
   ·obtain ⟨rfl,rfl⟩:=Prod.mk.inj (Option.some.inj e); omega
theorem abv {l:List nk} {k:Nat} {x:nk} {n h m:Int} (hx:l[k]? = some x) (KC:ht (l.take k)=some (n,h)) (hm:m=n - fE x.kind) (h0:¬ m<0):ht (l.take (k+1))=some (m+1,max h (m+1)):=by
 rw [zB hx,KC]; unfold KB; simp only []; rw [← hm,if_neg h0]
theorem ahU {l:List nk} {k:Nat} {x:nk} {n h m:Int} (hx:l[k]? = some x) (KC:ht (l.take k)=some (n,h)) (hm:m=n - fE x.kind) (h0:m<0):ht (l.take (k+1))=none:=by
 rw [zB hx,KC]; unfold KB; simp only []; rw [← hm,if_pos h0]
def se (many:Int) (x:nk):Bool:=decide ((x.kind=1∧(x.n<0∨4294967296<x.n))∨(x.kind=2∧(x.n<0∨many≤x.n))∨(¬ x.kind=1∧¬ x.kind=2∧(¬ x.n=0∨x.kind<1∨16≤x.kind)))
def eK (l:List nk) (many:Int):Bool:=decide (l.length≤40) && (ht l).isSome && decide (htN l=1) && !l.any (se many)
theorem C171 (k:Int) (w:World):CR 171 [.int .i64 k] w (λ v w'=>v = .int .i64 (fE k)∧Ext w w'):=by
 have hs:=St.start w;refine ZJ _ _ _ ?_;unfold S171;refine ⟨λ jv w'=>jv = .bool (decide (k=3∨k=4))∧w=w',?_,?_⟩
 ·refine aH (aC (λ UH=>?_) (λ UH=>?_))
  ·exact ⟨RB (by omega),rfl⟩
  ·refine aH ?_;exact ⟨xu (by omega),rfl⟩
 ·rintro _ w1 ⟨rfl,hw⟩ fy;subst hw;refine aC (λ FE=>?_) (λ FE=>?_)
  ·unfold fE
   first | (rw [if_pos FE]; exact ⟨rfl,hs.aF⟩) | (rw [if_neg FE,if_pos fO]; exact ⟨rfl,hs.aF⟩) | (rw [if_neg FE,if_neg fO]; exact ⟨rfl,hs.aF⟩)
  ·refine ⟨λ jv w'=>jv = .bool (decide (5≤k∧k≤15))∧w=w',?_,?_⟩
   ·refine dG (aC (λ jW=>?_) (λ jW=>?_))
    ·refine j4 ?_;exact ⟨xu (by omega),rfl⟩
    ·exact ⟨YF (by omega),rfl⟩
   ·rintro _ w2 ⟨rfl,hw⟩ jw;subst hw;refine aC (λ fO=>?_) (λ fO=>?_)
    ·unfold fE
     first | (rw [if_pos FE]; exact ⟨rfl,hs.aF⟩) | (rw [if_neg FE,if_pos fO]; exact ⟨rfl,hs.aF⟩) | (rw [if_neg FE,if_neg fO]; exact ⟨rfl,hs.aF⟩)
    ·unfold fE
     first | (rw [if_pos FE]; exact ⟨rfl,hs.aF⟩) | (rw [if_neg FE,if_pos fO]; exact ⟨rfl,hs.aF⟩) | (rw [if_neg FE,if_neg fO]; exact ⟨rfl,hs.aF⟩)
theorem C183 (sv:Value) (xs:List nk) (w:World) (hL:eI (λ _=>True) w sv xs) (hn:xs.length≤1048576):CR 183 [sv] w (λ v w'=>v = .tuple #[.int .i64 (htN xs),.int .i64 (htH xs),.bool (ht xs).isSome]∧Ext w w'):=by
 have hs:=St.start w;refine ZV _ _ _ ?_;unfold S183;refine aJ vw (hL.ext hs.aF) ?_;refine ⟨λ m y z x w1=>∃ (k:Nat) (n h:Int),y = .int .i64 n∧z = .int .i64 h∧x = .int .i64 (k:Int)∧m=xs.length - k∧k≤xs.length∧ht (xs.take k)=some (n,h)∧St w bD [] w1,⟨_,0,0,0,rfl,rfl,rfl,rfl,by omega,rfl,hs⟩,?_⟩;rintro m _ _ _ w1 ⟨k,n,h,rfl,rfl,rfl,rfl,hk,KC,hs⟩ fy;refine aR (aC (λ jW=>?_) (λ jW=>?_))
 ·obtain ⟨UI,A5⟩:=gx (xs) (i:=((k:Int)).toNat) (by omega);refine aQ vw (hL.ext hs.aF) (by omega) A5 (λ _ KD=>aD Kb (KD) (aN hs PE (λ A6 w2 hs=>aI (x:=UI) hs Kb rfl rfl (λ w3 hs=>aA nV (aB bL hs.hb rfl (aZ aes hs (C171 _ _) (λ w4 he hs=>?_)))))));have hw:=PW UI.kind;have hhb:=ahT k n h (by omega) KC;refine gy (by omega) (aR (aC (λ gr=>?_) (λ gr=>?_)))
  ·have hz:ht xs=none:=PV (k:=k+1) (by rw [zB (k:=k) A5,KC]; unfold KB; simp only []; rw [if_pos gr]);unfold htN htH;rw [hz];exact ⟨rfl,hs.aF⟩
  ·refine aO (by omega) (wX (aO (by omega) ?_));exact ⟨_,by omega,k+1,_,_,rfl,rfl,rfl,rfl,by omega,by rw [zB (k:=k) A5,KC]; unfold KB; simp only []; rw [if_neg gr],hs.drop⟩
 ·rw [List.take_of_length_le (by omega)] at KC;unfold htN htH;rw [KC];exact ⟨rfl,hs.aF⟩
theorem C182 (x:nk) (b2:Nat) (many:Int) (w:World) (hc:Cell w b2 0 (.int .i64 many)):CR 182 [Flat.val x,.pointer (some ⟨b2,0,none⟩)] w (λ v w'=>v = .bool (se many x)∧Ext w w'):=by
 have hs:=St.start w;refine ZU _ _ _ _ ?_;unfold S182;refine dE hs (λ lY w1 hs=>aA nV (aB bL hs.hb rfl (aH (aC (λ iQ=>?_) (λ iQ=>?_)))))
 ·refine ⟨_,?_,λ _ _ h=>h⟩;refine aA qR (aB bL hs.hb rfl (aR (aC (λ fO=>?_) (λ fO=>?_))))
  ·intro fy;refine ⟨vb ?_,hs.aF⟩;unfold se
   first | exact (decide_eq_true (by omega)).symm | exact (decide_eq_false (by omega)).symm | exact decide_eq_decide.2 (by omega)
  ·refine aA qR (aB bL hs.hb rfl (cZ ?_));intro fy;refine ⟨vb ?_,hs.aF⟩;unfold se
   first | exact (decide_eq_true (by omega)).symm | exact (decide_eq_false (by omega)).symm | exact decide_eq_decide.2 (by omega)
 ·refine aA nV (aB bL hs.hb rfl (aH (aC (λ fu=>?_) (λ fu=>?_))))
  ·refine ⟨_,?_,λ _ _ h=>h⟩;refine aA qR (aB bL hs.hb rfl (aR (aC (λ iM=>?_) (λ iM=>?_))))
   ·intro jw;refine ⟨vb ?_,hs.aF⟩;unfold se
    first | exact (decide_eq_true (by omega)).symm | exact (decide_eq_false (by omega)).symm | exact decide_eq_decide.2 (by omega)
   ·refine aA qR (aB bL hs.hb rfl (cG bL (hc.ext hs.aF) (dG ?_)));intro jw;refine ⟨vb ?_,hs.aF⟩;unfold se
    first | exact (decide_eq_true (by omega)).symm | exact (decide_eq_false (by omega)).symm | exact decide_eq_decide.2 (by omega)
  ·refine ⟨_,?_,λ _ _ h=>h⟩;refine aA qR (aB bL hs.hb rfl (cS (aC (λ lK=>?_) (λ lK=>?_))))
   ·intro oN;refine ⟨vb ?_,hs.aF⟩;unfold se
    first | exact (decide_eq_true (by omega)).symm | exact (decide_eq_false (by omega)).symm | exact decide_eq_decide.2 (by omega)
   ·refine aA nV (aB bL hs.hb rfl (aR (aC (λ jq=>?_) (λ jq=>?_))))
    ·intro oN;refine ⟨vb ?_,hs.aF⟩;unfold se
     first | exact (decide_eq_true (by omega)).symm | exact (decide_eq_false (by omega)).symm | exact decide_eq_decide.2 (by omega)
    ·refine aA nV (aB bL hs.hb rfl (dG ?_));intro oN;refine ⟨vb ?_,hs.aF⟩;unfold se
     first | exact (decide_eq_true (by omega)).symm | exact (decide_eq_false (by omega)).symm | exact decide_eq_decide.2 (by omega)
theorem C223 (sv fv:Value) (xs:List nk) (g:nk→Bool) (w:World) (hL:eI (λ _=>True) w sv xs) (hf:Ce w fv g) (hn:xs.length≤1073741824):CR 223 [sv,fv] w (λ v w'=>v = .int .i64 (uN g xs)∧Ext w w'):=by
 obtain ⟨g0,first,cap,rfl,vf,lQ⟩:=hf;have hs:=St.start w;refine aas _ _ _ _ ?_;unfold S223;refine aJ vw (hL.ext hs.aF) ?_;refine ⟨λ m x w1=>∃ k:Nat,x = .int .i64 (k:Int)∧m=xs.length - k∧k≤xs.length∧(∀ y∈xs.take k,g y=false)∧St w bD [] w1,⟨_,0,rfl,rfl,Nat.zero_le _,by simp,hs⟩,?_⟩;rintro m _ w1 ⟨k,rfl,rfl,hk,fS,hs⟩ fy;refine aR (aC (λ gu=>?_) (λ gu=>?_))
 ·obtain ⟨jj,dD⟩:=gx (xs) (i:=((k:Int)).toNat) (by omega);refine aQ vw (hL.ext hs.aF) (by omega) dD (λ _ iN=>aD Kb (iN) (ga vf (lQ jj w1 hs.aF) ?_));rintro _ w2 ⟨rfl,he⟩;have hs:=hs.ext he;refine aX (λ eA=>?_) (λ eA=>?_)
  ·exact ⟨congrArg (Value.int .i64) (pd fS dD eA).symm,hs.aF⟩
  ·refine aO (by omega) ?_;exact ⟨xs.length - (k+1),by omega,k+1,rfl,rfl,by omega,eC fS dD eA,hs⟩
 ·exact ⟨congrArg (Value.int .i64) (ko (by rw [List.take_of_length_le (by omega)] at fS; exact fS)).symm,hs.aF⟩
theorem C184 (sv fv:Value) (xs:List nk) (g:nk→Bool) (w:World) (hL:eI (λ _=>True) w sv xs) (hf:Ce w fv g) (hn:xs.length≤1073741824):CR 184 [sv,fv] w (λ v w'=>v = .bool (xs.any g)∧Ext w w'):=by
 have hs:=St.start w;refine ZW _ _ _ _ ?_;unfold S184;refine aZ ano hs (C223 _ _ _ _ _ (hL.ext hs.aF) (hf.ext hs.aF) (by omega)) (λ w1 he hs=>dG ?_);exact ⟨vb (n8 _ _),hs.aF⟩
theorem C116 (sv:Value) (xs:List nk) (many:Int) (w:World) (hL:eI (λ _=>True) w sv xs) (hn:xs.length≤1048576):CR 116 [sv,.int .i64 many] w (λ v w'=>v = .bool (eK xs many)∧Ext w w'):=by
 have hs:=St.start w;refine Y4 _ _ _ _ ?_;unfold S116;refine tA hs rfl (λ PX w1 hs=>aZ am2 hs (C183 _ _ _ (hL.ext hs.aF) (by omega)) (λ w2 he hs=>bE rfl (bE rfl (bE rfl ?_))));refine ⟨_,?_,λ _ _ h=>h⟩;refine aJ vw (hL.ext hs.aF) (j4 (aC (λ gd=>?_) (λ gd=>?_)))
 ·refine aX (λ jG=>?_) (λ jG=>?_)
  ·refine aH (aC (λ ib=>?_) (λ ib=>?_))
   ·have Km:Ce _ (.func (.func 182) [].toArray [.pointer (some ⟨PX,0,none⟩)].toArray) (se many):=
     ⟨182,[],_,rfl,am1,λ y w1 e1=>C182 y PX many w1 ((hs.hb.cell rfl).ext e1)⟩
    refine aZ am3 hs (C184 _ _ _ _ _ (hL.ext hs.aF) Km (by omega)) (λ w3 he hs=>bY ?_);intro fy;refine ⟨vb ?_,hs.aF⟩;unfold eK
    simp_all <;> omega
   ·intro fy;refine ⟨vb ?_,hs.aF⟩;unfold eK
    simp_all <;> omega
  ·intro fy;refine ⟨vb ?_,hs.aF⟩;unfold eK
   simp_all <;> omega
 ·intro fy;refine ⟨vb ?_,hs.aF⟩;unfold eK
  simp_all <;> omega
def oa (b:Nat) (rest:List Value) (l:List Int):HP:=tQ λ sv=>sep (cD b (sv::rest)) (bK sv l)
theorem oa.shut {w0 w:World} {A:Nat→Prop} {R:List HP} {b:Nat} {rest:List Value} {sv:Value} {l:List Int} (hs:St w0 A (cD b (sv::rest)::bK sv l::R) w):St w0 A (oa b rest l::R) w:=
 St.eN (H:=λ sv=>sep (cD b (sv::rest)) (bK sv l)) sv (St.join hs)
theorem oa.open {w0 w:World} {A:Nat→Prop} {R:List HP} {b:Nat} {rest:List Value} {l:List Int} (hs:St w0 A (oa b rest l::R) w):∃ sv,St w0 A (cD b (sv::rest)::bK sv l::R) w:=by
 obtain ⟨sv,hs⟩:=hs.eT; exact ⟨sv,hs.split⟩
def lL (l:List Int):Int:=l.getD (l.length - 1) 0
theorem UJ {l:List Int} {e:Int} (h:l[((l.length:Int) - 1).toNat]? = some e):e=lL l:=by
 unfold lL
 rw [List.getD_eq_getElem?_getD,show l.length - 1=((l.length:Int) - 1).toNat from by omega,h]; rfl
theorem C216 (b:Nat) (n:Int) (rest:List Value) (l:List Int) (F:Nat→Prop) (w:World) (hF:(oa b rest l).p w F) (hn:l.length≤1048576):CR 216 [.pointer (some ⟨b,0,none⟩),.int .i64 n] w (λ v w'=>v = .tuple #[]∧qk F (oa b rest (l++[n])) w w'):=by
 have hs:=St.begin hF;obtain ⟨sv,hs⟩:=hs.eT;have hs:=hs.split;refine aal _ _ _ _ ?_;unfold S216;refine aE (aA pA (aB en hs.hb rfl (bW (([n]:List Int)) hs ee rfl rfl (eF rfl) (λ aom w1 hs=>?_))));have uO:=(hs).fK;refine cN hs.p2 ee uO (by simp <;> omega) (by decide) (λ aeX w2 hs=>have hs:=hs.p1.drop;aE (aA pA (aV hs.p1 en (eF rfl) ((hs).fK.one) (λ w3 hs=>?_))));have hs:=hs.p1.p1;exact ⟨rfl,(oa.shut hs).mut⟩
theorem C174 (b:Nat) (rest:List Value) (l:List Int) (F:Nat→Prop) (w:World) (hF:(oa b rest l).p w F) (hn:l.length≤1048576) (h0:0<l.length):CR 174 [.pointer (some ⟨b,0,none⟩)] w (λ v w'=>v = .int .i64 (lL l)∧qk F (oa b rest (l.take (l.length - 1))) w w'):=by
 have hs:=St.begin hF;obtain ⟨sv,hs⟩:=hs.eT;have hs:=hs.split;refine ZM _ _ _ ?_;unfold S174;refine aE (aA pA (have hs:=hs.drew;aB en hs.hb rfl (aE (aA pA (aB en hs.hb rfl (aJ ee (hs.p1).fK (gy (by omega) ?_)))))));obtain ⟨jj,dD⟩:=gx (l) (i:=((((l).length:Int) - 1)).toNat) (by omega);refine dS hs.p1 ee (by omega) (by omega) (λ _ iN=>gj hs.p1 bL iN dD (aE (aA pA (have hs:=hs.drew;aB en hs.hb rfl (aE (aA pA (aB en hs.hb rfl (aJ ee (hs.p1).fK (gy (by omega) (have hs:=hs.p1;Nh ee hs (by omega) (by omega) (λ PY hs=>aE (aA pA ?_))))))))))))
 refine aV hs.p1 en (eF rfl) ((hs).fK.one) (λ w1 hs=>?_);have hs:=hs.p1.p1;rw [show ((l.length:Int) - 1).toNat=l.length - 1 from by omega] at hs;rw [UJ dD];exact ⟨rfl,(oa.shut hs).mut⟩
theorem C172 (b:Nat) (n hi:Int) (l:List Int) (F:Nat→Prop) (w:World) (hF:(oa b [.int .i64 hi] l).p w F) (hn:l.length≤1048576):CR 172 [.pointer (some ⟨b,0,none⟩),.int .i64 n] w (λ v w'=>v = .tuple #[]∧∃ MN,qk F (oa b [.int .i64 MN] (l++[n])) w w'):=by
 have hs:=St.begin hF;refine ZK _ _ _ _ ?_;unfold S172;refine aE (aA tN (pb anj hs (H':=λ _=>oa b [.int .i64 hi] (l++[n])) (Φ:=λ v _=>v = .tuple #[]) (λ F hF=>?_) ?_))
 ·exact C216 b n _ l F _ hF (by omega)
 rintro _ w1 rfl hs;obtain ⟨sv,hs⟩:=oa.open hs;refine aE (aA Kf (have hs:=hs.drew;aB bL hs.hb rfl (aE (aA tN (aA pA (aB en hs.hb rfl (aJ ee (hs.p1).fK (wX (aE (aA Kf (aV hs bL (eF rfl) (rfl) (λ w2 hs=>?_))))))))))));have hs:=hs.p1.p1;exact ⟨rfl,_,(oa.shut hs).mut⟩
def pE (ns S:List Int) (x:nk):List Int:=
 if fE x.kind=0 then S++[if x.kind=2 then ns.getD x.n.toNat 0 else x.n]
 else if fE x.kind=1 then S.take (S.length - 1)++[Cc x.kind (lL S)]
 else S.take (S.length - 2)++[pW x.kind (lL (S.take (S.length - 1))) (lL S)]
def FF (S:List Int) (x:nk):Int:=if fE x.kind=2 then pU x.kind (lL S) else 0
def Im (ns:List Int):List nk→List Int→Int × Int
 | [],S=>(lL S,0)
 | x::r,S=>if FF S x=0 then Im ns r (pE ns S x) else (0,FF S x)
def runM (l:List nk) (ns:List Int):Int × Int:=if eK l ns.length=true then Im ns l [] else (0,8)
theorem zC (k:Int):fE k=0∨fE k=1∨fE k=2:=by
 unfold fE
 repeat' split
 all_goals omega
section
variable {xs:List nk} {ns S:List Int} {k:Nat} {x:nk} {n h:Int}
theorem CB (hx:xs[k]? = some x) (h:FF S x=0):Im ns (xs.drop k) S=Im ns (xs.drop (k+1)) (pE ns S x):=by
 obtain ⟨hk,he⟩:=List.getElem?_eq_some_iff.1 hx
 rw [List.drop_eq_getElem_cons hk,he,Im,if_pos h]
theorem UL (hx:xs[k]? = some x) (h:¬ FF S x=0):Im ns (xs.drop k) S=(0,FF S x):=by
 obtain ⟨hk,he⟩:=List.getElem?_eq_some_iff.1 hx
 rw [List.drop_eq_getElem_cons hk,he,Im,if_neg h]
theorem FG {many:Int} (h:eK xs many=true):xs.length≤40∧(∃ a,ht xs=some (1,a))∧∀ x∈xs,se many x=false:=by
 unfold eK at h
 rw [Bool.and_eq_true,Bool.and_eq_true,Bool.and_eq_true,decide_eq_true_eq,decide_eq_true_eq] at h
 obtain ⟨⟨⟨h1,h2⟩,h3⟩,h4⟩:=h
 refine ⟨h1,?_,λ x hx=>?_⟩
 ·unfold htN at h3
  cases hh:ht xs with
  | none=>rw [hh] at h2; cases h2
  | some p=>rw [hh] at h3; exact ⟨p.2,by rw [← h3]⟩
 ·have:xs.any (se many)=false:=by simpa using h4
  rw [List.any_eq_false] at this
  simpa using this x hx
theorem RU (hw:fE x.kind≤(S.length:Int)):((pE ns S x).length:Int)=S.length - fE x.kind+1:=by
 unfold pE
 rcases zC x.kind with h | h | h
 ·rw [if_pos h,h,List.length_append,List.length_singleton]; omega
 ·rw [if_neg (by omega),if_pos h,h,List.length_append,List.length_take,List.length_singleton]; omega
 ·rw [if_neg (by omega),if_neg (by omega),h,List.length_append,List.length_take,List.length_singleton]; omega
theorem RV {a:Int} (mh:ht xs=some (1,a)) (KC:ht (xs.take k)=some ((S.length:Int),h)) (hx:xs[k]? = some x) :
  fE x.kind≤(S.length:Int)∧∃ h',ht (xs.take (k+1))=some (((pE ns S x).length:Int),h'):=by
 have hw:fE x.kind≤(S.length:Int):=by
  rcases Int.lt_or_le ((S.length:Int) - fE x.kind) 0 with h1 | h1
  ·have:=PV (ahU hx KC rfl h1); rw [mh] at this; cases this
  ·omega
 exact ⟨hw,_,(abv hx KC rfl (by omega)).trans (by rw [RU hw])⟩
theorem ahV (hw:fE x.kind=0) (h2:¬ x.kind=2):pE ns S x=S++[x.n]:=by unfold pE; rw [if_pos hw,if_neg h2]
theorem ahW {e:Int} (hw:fE x.kind=0) (h2:x.kind=2) (he:ns[x.n.toNat]? = some e):pE ns S x=S++[e]:=by
 unfold pE; rw [if_pos hw,if_pos h2,List.getD_eq_getElem?_getD,he]; rfl
theorem ahX (hw:fE x.kind=1):pE ns S x=S.take (S.length - 1)++[Cc x.kind (lL S)]:=by unfold pE; rw [if_neg (by omega),if_pos hw]
theorem ahY (hw:fE x.kind=2):pE ns S x=S.take (S.length - 2)++[pW x.kind (lL (S.take (S.length - 1))) (lL S)]:=by unfold pE; rw [if_neg (by omega),if_neg (by omega)]
theorem UM (hw:¬ fE x.kind=2):FF S x=0:=by unfold FF; rw [if_neg hw]
theorem aeY (hw:fE x.kind=2):FF S x=pU x.kind (lL S):=by unfold FF; rw [if_pos hw]
theorem Nj (h:2≤S.length):(S.take (S.length - 1)).take ((S.take (S.length - 1)).length - 1)=S.take (S.length - 2):=by
 rw [List.take_take,List.length_take]; congr 1; omega
end
def mH (b:Nat) (l:List Int):HP:=tQ fun (hi:Int)=>oa b [.int .i64 hi] l
theorem mH.shut {w0 w:World} {A:Nat→Prop} {R:List HP} {b:Nat} {hi:Int} {l:List Int} (hs:St w0 A (oa b [.int .i64 hi] l::R) w):St w0 A (mH b l::R) w:=
 St.eN (H:=fun (hi:Int)=>oa b [.int .i64 hi] l) hi hs
theorem abw (b:Nat) (n:Int) (l:List Int) (F:Nat→Prop) (w:World) (hF:(mH b l).p w F) (hn:l.length≤1048576) :
  Calls PG 172 [.pointer (some ⟨b,0,none⟩),.int .i64 n].toArray w (qg λ v w'=>v = .tuple #[]∧qk F (mH b (l++[n])) w w'):=by
 obtain ⟨hi,hF⟩:=hF
 refine (C172 b n hi l F w hF hn).mono λ e w' ⟨v,he,hv,MN,F',h1,h2⟩=>⟨v,he,hv,F',⟨MN,h1⟩,h2⟩
theorem abx (b:Nat) (l:List Int) (F:Nat→Prop) (w:World) (hF:(mH b l).p w F) (hn:l.length≤1048576) (h0:0<l.length) :
  Calls PG 174 [.pointer (some ⟨b,0,none⟩)].toArray w (qg λ v w'=>v = .int .i64 (lL l)∧qk F (mH b (l.take (l.length - 1))) w w'):=by
 obtain ⟨hi,hF⟩:=hF
 refine (C174 b [.int .i64 hi] l F w hF hn h0).mono λ e w' ⟨v,he,hv,F',h1,h2⟩=>⟨v,he,hv,F',⟨hi,h1⟩,h2⟩
theorem C110 (sv nv:Value) (xs:List nk) (ns:List Int) (w:World) (hL:eI (λ _=>True) w sv xs) (hN:eI (λ _=>True) w nv ns) (hn:xs.length≤1048576):CR 110 [sv,nv] w (λ v w'=>v = .tuple #[.int .i64 (runM xs ns).1,.int .i64 (runM xs ns).2]∧Ext w w'):=by
 have hs:=St.start w;refine YW _ _ _ _ ?_;unfold S110;refine aJ ee (hN.ext hs.aF) (aZ Pd hs (C116 _ _ _ _ (hL.ext hs.aF) hn) (λ w1 he hs=>bY (aX (λ fu=>?_) (λ fu=>?_))))
 ·unfold runM;rw [if_neg (by simpa using fu)];exact ⟨rfl,hs.aF⟩
 ·refine aN hs abj (λ vX w2 hs=>?_);have hs:=mH.shut (oa.shut (hs.fX (α:=Int)).p1);have gd:eK xs (ns.length:Int)=true:=by simpa using fu
  obtain ⟨h40,⟨a0,mh⟩,avP⟩:=FG gd;refine aJ vw (hL.ext hs.aF) ?_;refine ⟨λ m x w1=>∃ (k:Nat) (S:List Int) (h:Int),x = .int .i64 (k:Int)∧m=xs.length - k∧k≤xs.length∧Im ns xs []=Im ns (xs.drop k) S∧ht (xs.take k)=some ((S.length:Int),h)∧St w bD [mH vX S] w1,⟨_,0,[],0,rfl,rfl,by omega,rfl,rfl,hs⟩,?_⟩;rintro m _ w3 ⟨k,S,h,rfl,rfl,hk,JL,KC,hs⟩ fy;refine aR (aC (λ iO=>?_) (λ iO=>?_))
  ·refine ⟨_,?_,λ _ h=>h⟩;obtain ⟨gQ,iq⟩:=gx (xs) (i:=((k:Int)).toNat) (by omega);refine aQ vw (hL.ext hs.aF) (by omega) iq (λ _ vY=>aD Kb (vY) (aN hs PE (λ A6 w4 hs=>aI (x:=gQ) hs Kb rfl rfl (λ w5 hs=>aA nV (aB bL hs.hb rfl (aZ aes hs (C171 _ _) (λ w6 he hs=>?_)))))));have hod:=avP _ (List.mem_of_getElem? iq);unfold se at hod;have ho:=of_decide_eq_false hod;obtain ⟨Nk,h2,aby⟩:=RV (ns:=ns) (k:=k) mh KC iq;have hwk:fE gQ.kind=0→gQ.kind=1∨gQ.kind=2∨¬ (gQ.kind=1∨gQ.kind=2):=λ _=>by omega
   have hSk:=ahT k _ _ (by omega) KC;have hw3:=zC gQ.kind;refine aH (aC (λ vZ=>?_) (λ vZ=>?_))
   ·refine aA qR (aB bL hs.hb rfl ?_);refine ⟨_,?_,λ _ _ h=>h⟩;refine aA nV (aB bL hs.hb rfl (aH (aC (λ pF=>?_) (λ pF=>?_))))
    ·refine aA qR (aB bL hs.hb rfl ?_);obtain ⟨aeZ,UN⟩:=gx (ns) (i:=((gQ).n).toNat) (by omega);refine aQ ee (hN.ext hs.aF) (by omega) UN (λ _ DK=>aD bL (DK) ?_);intro jw;refine pb Po hs.p1 (H':=λ _=>mH vX (S++[aeZ])) (Φ:=λ v _=>v = .tuple #[]) (λ F hF=>?_) ?_
     ·exact abw vX aeZ S F _ hF (by first | omega | (simp only [List.length_take,List.length_append,List.length_singleton]; omega))
     rintro _ w8 rfl hs;intro oN;refine aO (by omega) ?_;have hs:=(hs.p1).drop;have gk:pE ns S gQ=_:=ahW vZ pF UN;exact ⟨_,by omega,k+1,_,_,rfl,rfl,by omega,JL.trans (CB (k:=k) iq (UM (by omega))),aby,by rw [gk]; exact hs⟩
    ·intro jw;refine pb Po hs.p1 (H':=λ _=>mH vX (S++[(gQ).n])) (Φ:=λ v _=>v = .tuple #[]) (λ F hF=>?_) ?_
     ·exact abw vX (gQ).n S F _ hF (by first | omega | (simp only [List.length_take,List.length_append,List.length_singleton]; omega))
     rintro _ w8 rfl hs;intro oN;refine aO (by omega) ?_;have hs:=(hs.p1).drop;have gk:pE ns S gQ=_:=ahV vZ pF;exact ⟨_,by omega,k+1,_,_,rfl,rfl,by omega,JL.trans (CB (k:=k) iq (UM (by omega))),aby,by rw [gk]; exact hs⟩
   ·refine aH (aC (λ Gv=>?_) (λ Gv=>?_))
    ·refine aA nV (have hs:=hs.drew;aB bL hs.hb rfl (aA tN (pb Pp hs.p1 (H':=λ _=>mH vX (S.take (S.length - 1))) (Φ:=λ v _=>v = .int .i64 (lL S)) (λ F hF=>?_) ?_)))
     ·exact abx vX S F _ hF (by first | omega | (simp only [List.length_take,List.length_append,List.length_singleton]; omega)) (by first | omega | (simp only [List.length_take,List.length_append,List.length_singleton]; omega))
     rintro _ w9 rfl hs;refine ⟨aG bL (hs.p1.hb.cell rfl),?_⟩;refine aZ amW hs (C173 _ _ _) (λ pQ he hs=>bE rfl (bE rfl (pb Po hs (H':=λ _=>mH vX ((S.take (S.length - 1))++[(Cc (gQ).kind (lL S))])) (Φ:=λ v _=>v = .tuple #[]) (λ F hF=>?_) ?_)))
     ·exact abw vX (Cc (gQ).kind (lL S)) (S.take (S.length - 1)) F _ hF (by first | omega | (simp only [List.length_take,List.length_append,List.length_singleton]; omega))
     rintro _ sP rfl hs;intro oN;refine aO (by omega) ?_;have hs:=(hs.p1).drop;have gk:pE ns S gQ=_:=ahX Gv;exact ⟨_,by omega,k+1,_,_,rfl,rfl,by omega,JL.trans (CB (k:=k) iq (UM (by omega))),aby,by rw [gk]; exact hs⟩
    ·refine aA tN (pb Pp hs.p1 (H':=λ _=>mH vX (S.take (S.length - 1))) (Φ:=λ v _=>v = .int .i64 (lL S)) (λ F hF=>?_) ?_)
     ·exact abx vX S F _ hF (by first | omega | (simp only [List.length_take,List.length_append,List.length_singleton]; omega)) (by first | omega | (simp only [List.length_take,List.length_append,List.length_singleton]; omega))
     rintro _ vi rfl hs;refine aA nV (have hs:=hs.drew;aB bL hs.p1.hb rfl (aA tN (pb Pp hs (H':=λ _=>mH vX ((S.take (S.length - 1)).take ((S.take (S.length - 1)).length - 1))) (Φ:=λ v _=>v = .int .i64 (lL (S.take (S.length - 1)))) (λ F hF=>?_) ?_)))
     ·exact abx vX (S.take (S.length - 1)) F _ hF (by first | omega | (simp only [List.length_take,List.length_append,List.length_singleton]; omega)) (by first | omega | (simp only [List.length_take,List.length_append,List.length_singleton]; omega))
     rintro _ vj rfl hs;refine ⟨aG bL (hs.p1.hb.cell rfl),?_⟩;refine aZ amX hs (C175 _ _ _ _) (λ sd he hs=>bE rfl (bE rfl (cS (aC (λ jX=>?_) (λ jX=>?_)))))
     ·have hz:FF S gQ=pU gQ.kind (lL S):=aeY (by have:=zC gQ.kind; omega);unfold runM;rw [if_pos gd,JL,UL (k:=k) iq (by rw [hz]; exact jX),hz];exact ⟨rfl,hs.aF⟩
     ·refine pb Po hs (H':=λ _=>mH vX (((S.take (S.length - 1)).take ((S.take (S.length - 1)).length - 1))++[(pW (gQ).kind (lL (S.take (S.length - 1))) (lL S))])) (Φ:=λ v _=>v = .tuple #[]) (λ F hF=>?_) ?_
      ·exact abw vX (pW (gQ).kind (lL (S.take (S.length - 1))) (lL S)) ((S.take (S.length - 1)).take ((S.take (S.length - 1)).length - 1)) F _ hF (by first | omega | (simp only [List.length_take,List.length_append,List.length_singleton]; omega))
      rintro _ vW rfl hs;intro oN;refine aO (by omega) ?_;have hs:=(hs.p1).drop;rw [Nj (by omega)] at hs;have gk:pE ns S gQ=_:=ahY (by have:=zC gQ.kind; omega);exact ⟨_,by omega,k+1,_,_,rfl,rfl,by omega,JL.trans (CB (k:=k) iq ((aeY (by have:=zC gQ.kind; omega)).trans (Decidable.not_not.1 jX))),aby,by rw [gk]; exact hs⟩
  ·refine aA tN ?_
   have hS1:S.length=1:=by
    rw [List.take_of_length_le (by omega),mh] at KC;have:=(Prod.mk.inj (Option.some.inj KC)).1;omega
   refine pb Pp hs (H':=λ _=>mH vX (S.take (S.length - 1))) (Φ:=λ v _=>v = .int .i64 (lL S)) (λ F hF=>?_) ?_
   ·exact abx vX S F _ hF (by first | omega | (simp only [List.length_take,List.length_append,List.length_singleton]; omega)) (by first | omega | (simp only [List.length_take,List.length_append,List.length_singleton]; omega))
   rintro _ Cd rfl hs;unfold runM;rw [if_pos gd,JL,List.drop_eq_nil_of_le (by omega)];exact ⟨rfl,hs.aF⟩
def dO (ns:List ByteArray) (s:ByteArray):Int:=uN (λ y=>decide (y=s)) ns
def gF (p:cX):List dF:=p.lines.flatten++p.jP
structure PS (p:cX):Prop where
 lines:p.lines.length≤500
 line:∀ l∈p.lines,l.length≤500
 jP:p.jP.length≤500
 locks:p.locks.length≤500
 threads:p.threads.length≤500
 recover:p.recover.length≤500
 cC:p.cC.length≤500
 aK:∀ t∈p.threads++p.recover,t.aK.length≤500
 body:∀ t∈p.threads++p.recover,t.body.length≤500
theorem cO {ls:List (List dF)} (h:∀ l∈ls,l.length≤500):ls.flatten.length≤500 * ls.length:=by
 induction ls with
 | nil=>simp
 | cons a ls ih=>
  have h1:=h a (by simp)
  have h2:=ih λ l hl=>h l (List.mem_cons_of_mem _ hl)
  rw [List.flatten_cons,List.length_append,List.length_cons]; omega
theorem m4 {p:cX} (h:PS p):(gF p).length≤250500:=by
 have h1:=cO h.line
 have h2:=h.lines
 have h3:=h.jP
 unfold gF; rw [List.length_append]; omega
theorem RW {α:Type} {ls:List (List α)} {k:Nat} {l:List α} (h:ls[k]? = some l):(ls.take k).flatten++l=(ls.take (k+1)).flatten:=by rw [← gX h,List.flatten_append]; simp
theorem iP {α β:Type} {f:α→β} {l:List α} {k:Nat} {e:α} (h:l[k]? = some e):(l.take k).map f++[f e]=(l.take (k+1)).map f:=by rw [← gX h,List.map_append]; rfl
theorem C98 (lv:Value) (ns:List ByteArray) (q:ByteArray) (w:World) (hL:eI (λ _=>True) w lv ns) (hn:ns.length≤1048576):CR 98 [lv,.string q] w (λ v w'=>v = .int .i64 (dO ns q)∧Ext w w'):=by
 have hs:=St.start w;refine ahC _ _ _ _ ?_;unfold S98;refine ⟨λ m x w1=>∃ k:Nat,x = .int .i64 (k:Int)∧m=ns.length - k∧k≤ns.length∧(∀ y∈ns.take k,decide (y=q)=false)∧St w bD [] w1,⟨_,0,rfl,rfl,Nat.zero_le _,by simp,hs⟩,?_⟩;rintro m _ w1 ⟨k,rfl,rfl,hk,fS,hs⟩ fy;refine aJ mS (hL.ext hs.aF) (aR (aC (λ gu=>?_) (λ gu=>?_)))
 ·obtain ⟨jj,dD⟩:=gx (ns) (i:=((k:Int)).toNat) (by omega);refine aQ mS (hL.ext hs.aF) (by omega) dD (λ _ iN=>aD j5 (iN) (tS (aC (λ lZ=>?_) (λ lZ=>?_))))
  ·exact ⟨congrArg (Value.int .i64) (pd fS dD (decide_eq_true lZ)).symm,hs.aF⟩
  ·refine aO (by omega) ?_;exact ⟨ns.length - (k+1),by omega,k+1,rfl,rfl,by omega,eC fS dD (decide_eq_false lZ),hs⟩
 ·exact ⟨congrArg (Value.int .i64) (ko (by rw [List.take_of_length_le (by omega)] at fS; exact fS)).symm,hs.aF⟩
theorem C107 (lv:Value) (cs:List dF) (w:World) (hL:eI (λ _=>True) w lv cs) (hn:cs.length≤1048576):CR 107 [lv] w (λ v w'=>lW (bK v (cs.map dF.name)) w w'):=by
 have hs:=St.start w;refine YU _ _ _ ?_;unfold S107;refine bW (([]:List ByteArray)) hs mS rfl rfl (eF rfl) (λ Io w1 hs=>?_);refine ⟨λ m y x w1=>∃ k:Nat,x = .int .i64 (k:Int)∧m=cs.length - k∧k≤cs.length∧St w bD [bK y ((cs.take k).map dF.name)] w1,⟨_,0,rfl,rfl,by omega,hs⟩,?_⟩;rintro m fV _ w2 ⟨k,rfl,rfl,hk,hs⟩ fy;have hml:((cs.take k).map dF.name).length=k:=by rw [List.length_map,List.length_take]; omega
 refine aJ j0 (hL.ext hs.aF) (aR (aC (λ gu=>?_) (λ gu=>?_)))
 ·obtain ⟨pG,jQ⟩:=gx (cs) (i:=((k:Int)).toNat) (by omega);refine aQ j0 (hL.ext hs.aF) (by omega) jQ (λ _ qX=>bP (pG).name pz qX rfl rfl (λ _ tT=>aD j5 (tT) (bW ([(pG).name]) hs mS rfl rfl (eF rfl) (λ ae0 w3 hs=>?_))));have oc:=(hs).fK;refine cN hs.p1 mS oc (by simp <;> omega) (by decide) (λ UO w4 hs=>have hs:=hs.p1.drop;aO (by omega) ?_);exact ⟨_,by omega,k+1,rfl,rfl,by omega,by rw [← iP (k:=k) jQ]; exact hs⟩
 ·rw [List.take_of_length_le (by omega)] at hs;exact hs.fresh
theorem C102 (p:cX) (pv:bN) (w:World) (hp:cA.dr w pv p) (hz:PS p):CR 102 [Flat.val pv] w (λ v w'=>lW (bK v (gF p)) w w'):=by
 obtain ⟨bH,bQ,bI,aT,aU,aY,rfl,cI,cY,cJ,bR,bO,cB⟩:=hp;have hs:=St.start w;refine YP _ _ _ ?_;unfold S102;refine dE hs (λ kD w1 hs=>bW (([]:List dF)) hs j0 rfl rfl (eF rfl) (λ Io w2 hs=>?_));refine ⟨λ m y x w1=>∃ k:Nat,x = .int .i64 (k:Int)∧m=p.lines.length - k∧k≤p.lines.length∧St w bD [bK y (p.lines.take k).flatten,cD kD (Flat.enc (⟨bH,bQ,bI,aT,aU,aY⟩:bN))] w1,⟨_,0,rfl,rfl,by omega,hs⟩,?_⟩;rintro m fV _ w3 ⟨k,rfl,rfl,hk,hs⟩ fy;have Yi:=hz.lines;refine aA jm (aB rO hs.p1.hb rfl ?_)
 obtain ⟨Yj,hR1,hD1⟩:=(cI).open;have UP:=hD1.1;refine aJ vv (hR1.ext hs.aF) (aR (aC (λ fO=>?_) (λ fO=>?_)))
 ·refine aA jm (aB rO hs.p1.hb rfl ?_);obtain ⟨aon,UQ⟩:=gx Yj (i:=((k:Int)).toNat) (by omega);obtain ⟨aoo,Nl⟩:=gx ((p).lines) (i:=((k:Int)).toNat) (by omega);have aop:DL w (Flat.val aon) aoo:=hD1.2 _ _ _ UQ Nl;refine aQ vv (hR1.ext hs.aF) (by omega) UQ (λ _ KE=>aD jt (KE) ?_);have TI:=DL.flat (aop);have Nm:=hz.line _ (List.mem_of_getElem? Nl);have Ca:=cO (ls:=p.lines.take k) (λ l hl=>hz.line l (List.mem_of_mem_take hl));rw [List.length_take] at Ca;have Yi:=hz.lines;have oc:=(TI.ext hs.aF);refine cN hs j0 oc (by omega) (by decide) (λ UO w4 hs=>aO (by omega) ?_)
  exact ⟨_,by omega,k+1,rfl,rfl,by omega,by rw [← RW (k:=k) Nl]; exact hs⟩
 ·refine aA uG (aB jt hs.p1.hb rfl ?_);have hf3:=DL.flat (cY);have Ca:=cO (ls:=p.lines.take k) (λ l hl=>hz.line l (List.mem_of_mem_take hl));rw [List.length_take] at Ca;have Yi:=hz.lines;have hz2:=hz.jP;have ahZ:=(hf3.ext hs.aF);refine cN hs j0 ahZ (by omega) (by decide) (λ aoq w5 hs=>?_);rw [List.take_of_length_le (by omega)] at hs;exact hs.p1.drop.fresh
def kids (k:Int):Int:=if k=1∨k=2 then 0 else if k=3∨k=4 then 1 else if 5≤k∧k≤15 then 2 else -1
theorem Ip (k:Int) : -1≤kids k∧kids k≤2:=by
 unfold kids
 repeat' split
 all_goals omega
def jo (c:Int):Bool:=decide (97≤c∧c≤122∨c=95)
def nn (c:Int):Bool:=decide (48≤c∧c≤57)
def v7:List ByteArray:=[⟨#[108,105,110,101]⟩,⟨#[118,111,108]⟩,⟨#[108,111,99,107]⟩,⟨#[116,104,114,101,97,100]⟩,⟨#[114,101,103]⟩,⟨#[108,111,97,100]⟩,⟨#[115,116,111,114,101]⟩,⟨#[99,97,115]⟩,⟨#[102,108,117,115,104]⟩,⟨#[111,112,116]⟩,⟨#[115,102,101,110,99,101]⟩,⟨#[109,102,101,110,99,101]⟩,⟨#[116,97,107,101]⟩,⟨#[103,105,118,101]⟩,⟨#[105,102]⟩,⟨#[101,108,115,101]⟩,⟨#[108,111,111,112]⟩,⟨#[98,114,101,97,107]⟩,⟨#[99,104,101,99,107]⟩,⟨#[114,101,99,111,118,101,114]⟩,⟨#[97,108,119,97,121,115]⟩]
def jY (s:ByteArray):Bool:=!(decide (s.size<1∨16<s.size) || (match (lf s)[0]? with | some c=>!jo c.toNat | none=>true) || v7.any (λ y=>decide (y=s))) && !(lf s).any (λ c=>!jo c.toNat && !nn c.toNat)
def skip:Nat→List cW→Option (List cW)
 | 0,l=>some l
 | _+1,[]=>none
 | n+1,x::l=>if kids x.op<0 then none else skip (n+(kids x.op).toNat) l
theorem ym (l:List cW):skip 0 l=some l:=by cases l <;> rfl
theorem DM (l:List cW):∀ a b,skip (a+b) l=(skip a l).bind (skip b):=by
 induction l with
 | nil=>
  intro a b
  cases a with
  | zero=>rw [Nat.zero_add,ym]; rfl
  | succ a=>rw [show a+1+b=(a+b)+1 from by omega]; rfl
 | cons x l ih=>
  intro a b
  cases a with
  | zero=>rw [Nat.zero_add,ym]; rfl
  | succ a=>
   rw [show a+1+b=(a+b)+1 from by omega]
   show (if kids x.op<0 then none else skip (a+b+(kids x.op).toNat) l)=(if kids x.op<0 then none else skip (a+(kids x.op).toNat) l).bind (skip b)
   split
   ·rfl
   ·rw [show a+b+(kids x.op).toNat=a+(kids x.op).toNat+b from by omega]; exact ih _ _
theorem DN (l:List cW):∀ n r,skip n l=some r→r=l.drop (l.length - r.length)∧r.length+min n 1≤l.length:=by
 induction l with
 | nil=>
  intro n r h
  cases n with
  | zero=>rw [ym] at h; cases h; exact ⟨rfl,by simp⟩
  | succ n=>cases h
 | cons x l ih=>
  intro n r h
  cases n with
  | zero=>rw [ym] at h; cases h; exact ⟨by simp,by simp⟩
  | succ n=>
   have h:(if kids x.op<0 then none else skip (n+(kids x.op).toNat) l)=some r:=h
   split at h
   ·cases h
   ·obtain ⟨h1,h2⟩:=ih _ _ h
    refine ⟨?_,by rw [List.length_cons]; omega⟩
    rw [show (x::l).length - r.length=(l.length - r.length)+1 from by rw [List.length_cons]; omega]
    exact h1
def Gw (n:Nat) (o:Option (List cW)):Int:=match o with | some r=>(n:Int) - r.length | none=>-1
def uP (xs:List cW) (i:Int):Int:=if i<0 then -1 else Gw xs.length (skip 1 (xs.drop i.toNat))
theorem UR {xs:List cW} {i:Int} {x:cW} (h0:0≤i) (hx:xs[i.toNat]? = some x) (hk:0≤kids x.op):uP xs i=Gw xs.length (skip (kids x.op).toNat (xs.drop (i.toNat+1))):=by
 unfold uP
 obtain ⟨hl,he⟩:=List.getElem?_eq_some_iff.1 hx
 rw [if_neg (by omega),List.drop_eq_getElem_cons hl,he]
 show Gw _ (if kids x.op<0 then none else skip (0+(kids x.op).toNat) _)=_
 rw [if_neg (by omega),Nat.zero_add]
theorem abz {xs:List cW} {i:Int} {x:cW} (h0:0≤i) (hx:xs[i.toNat]? = some x) (hk:kids x.op<0):uP xs i = -1:=by
 unfold uP
 obtain ⟨hl,he⟩:=List.getElem?_eq_some_iff.1 hx
 rw [if_neg (by omega),List.drop_eq_getElem_cons hl,he]
 show Gw _ (if kids x.op<0 then none else _)=_
 rw [if_pos hk]; rfl
theorem abA {xs:List cW} {i:Int} (h:i<0∨xs.length≤i):uP xs i = -1:=by
 unfold uP
 split
 ·rfl
 ·rw [List.drop_eq_nil_of_le (by omega)]; rfl
theorem aor {xs:List cW} {j k:Nat} {a:Int} (h:Gw xs.length (skip k (xs.drop j))=a) (h0:0≤a):uP xs a=Gw xs.length (skip (k+1) (xs.drop j))∧((j:Int)≤a∨xs.length≤a):=by
 cases hs:skip k (xs.drop j) with
 | none=>rw [hs] at h; unfold Gw at h; simp only [] at h; omega
 | some r=>
  rw [hs] at h
  have h:(xs.length:Int) - r.length=a:=h
  obtain ⟨h1,h2⟩:=DN _ _ _ hs
  rw [List.length_drop] at h1 h2
  rw [DM,hs]
  show _=Gw _ (skip 1 r)∧_
  refine ⟨?_,by omega⟩
  unfold uP
  rw [if_neg (by omega)]
  by_cases hj:j≤xs.length
  ·have:xs.drop a.toNat=r:=by
    rw [h1,List.drop_drop,show j+(xs.length - j - r.length)=a.toNat from by omega]
   rw [this]
  ·have:r=[]:=List.length_eq_zero_iff.1 (by omega)
   subst this
   rw [List.drop_eq_nil_of_le (by simp at h; omega)]
theorem ah0 {xs l:List cW} {k j:Nat} (hl:l.length≤xs.length) (h:¬ 0≤Gw xs.length (skip k l)) (hj:k≤j):Gw xs.length (skip k l)=Gw xs.length (skip j l):=by
 cases hs:skip k l with
 | none=>rw [show j=k+(j - k) from by omega,DM,hs]; rfl
 | some r=>
  obtain ⟨_,h2⟩:=DN _ _ _ hs
  rw [hs] at h; unfold Gw at h; simp only [] at h; omega
theorem avS {xs l:List cW} {k:Nat} (hl:l.length≤xs.length) : -1≤Gw xs.length (skip k l)∧Gw xs.length (skip k l)≤xs.length:=by
 cases hs:skip k l with
 | none=>unfold Gw; simp only []; omega
 | some r=>
  obtain ⟨_,h2⟩:=DN _ _ _ hs
  unfold Gw; simp only []; omega
theorem C163 (k:Int) (w:World):CR 163 [.int .i64 k] w (λ v w'=>v = .int .i64 (kids k)∧Ext w w'):=by
 have hs:=St.start w;refine ZB _ _ _ ?_;unfold S163;refine ⟨λ jv w'=>jv = .bool (decide (k=1∨k=2))∧w=w',?_,?_⟩
 ·refine aH (aC (λ pH=>?_) (λ pH=>?_))
  ·exact ⟨RB (by omega),rfl⟩
  ·refine aH ?_;exact ⟨xu (by omega),rfl⟩
 ·rintro _ w1 ⟨rfl,hw⟩ fy;subst hw;refine aC (λ gn=>?_) (λ gn=>?_)
  ·unfold kids;exact ⟨congrArg (Value.int .i64) (by grind),hs.aF⟩
  ·refine ⟨λ jv w'=>jv = .bool (decide (k=3∨k=4))∧w=w',?_,?_⟩
   ·refine aH (aC (λ fO=>?_) (λ fO=>?_))
    ·exact ⟨RB (by omega),rfl⟩
    ·refine aH ?_;exact ⟨xu (by omega),rfl⟩
   ·rintro _ w2 ⟨rfl,hw⟩ jw;subst hw;refine aC (λ gP=>?_) (λ gP=>?_)
    ·unfold kids;exact ⟨congrArg (Value.int .i64) (by grind),hs.aF⟩
    ·refine ⟨λ jv w'=>jv = .bool (decide (5≤k∧k≤15))∧w=w',?_,?_⟩
     ·refine dG (aC (λ eA=>?_) (λ eA=>?_))
      ·refine j4 ?_;exact ⟨xu (by omega),rfl⟩
      ·exact ⟨YF (by omega),rfl⟩
     ·rintro _ w3 ⟨rfl,hw⟩ oN;subst hw;refine aC (λ jr=>?_) (λ jr=>?_)
      ·unfold kids;exact ⟨congrArg (Value.int .i64) (by grind),hs.aF⟩
      ·unfold kids;exact ⟨congrArg (Value.int .i64) (by grind),hs.aF⟩
theorem C206 (c:Int) (w:World):CR 206 [.int .u8 c] w (λ v w'=>v = .bool (jo c)∧Ext w w'):=by
 have hs:=St.start w;refine aab _ _ _ ?_;unfold S206;refine ⟨λ jv w'=>jv = .bool (decide (97≤c∧c≤122∨c=95))∧w=w',?_,?_⟩
 ·refine Kv (aC (λ pH=>?_) (λ pH=>?_))
  ·refine Ku (aC (λ iQ=>?_) (λ iQ=>?_))
   ·exact ⟨RB (by omega),rfl⟩
   ·refine nZ ?_;exact ⟨xu (by omega),rfl⟩
  ·refine nZ ?_;exact ⟨xu (by omega),rfl⟩
 ·rintro _ w1 ⟨rfl,hw⟩ fy;subst hw;exact ⟨rfl,hs.aF⟩
theorem C208 (c:Int) (w:World):CR 208 [.int .u8 c] w (λ v w'=>v = .bool (nn c)∧Ext w w'):=by
 have hs:=St.start w;refine aad _ _ _ ?_;unfold S208;refine ⟨λ jv w'=>jv = .bool (decide (48≤c∧c≤57))∧w=w',?_,?_⟩
 ·refine Kv (aC (λ pH=>?_) (λ pH=>?_))
  ·refine Ku ?_;exact ⟨xu (by omega),rfl⟩
  ·exact ⟨YF (by omega),rfl⟩
 ·rintro _ w1 ⟨rfl,hw⟩ fy;subst hw;exact ⟨rfl,hs.aF⟩
theorem C207 (s:ByteArray) (w:World):CR 207 [.string s] w (λ v w'=>v = .bool (v7.any (λ y=>decide (y=s)))∧Ext w w'):=by
 have hs:=St.start w;refine aac _ _ _ ?_;unfold S207;refine bW (v7) hs mS rfl rfl (eF rfl) (λ Io w1 hs=>?_);refine ⟨λ m x w1=>∃ k:Nat,x = .int .i64 (k:Int)∧m=v7.length - k∧k≤v7.length∧(∀ y∈v7.take k,decide (y=s)=false)∧St w bD [bK Io v7] w1,⟨_,0,rfl,rfl,Nat.zero_le _,by simp,hs⟩,?_⟩;rintro m _ w2 ⟨k,rfl,rfl,hk,fS,hs⟩ fy;have KF:v7.length=21:=rfl;refine aJ mS (hs).fK (aR (aC (λ gu=>?_) (λ gu=>?_)))
 ·skip;obtain ⟨jj,dD⟩:=gx (v7) (i:=((k:Int)).toNat) (by omega);refine dS hs mS (by omega) (by omega) (λ _ iN=>gj hs j5 iN dD (tS (aC (λ lZ=>?_) (λ lZ=>?_))))
  ·exact ⟨vb (jx dD (decide_eq_true lZ)).symm,hs.aF⟩
  ·refine aO (by omega) ?_;exact ⟨_,by omega,k+1,rfl,rfl,by omega,eC fS dD (decide_eq_false lZ),hs⟩
 ·rw [List.take_of_length_le (by omega)] at fS;exact ⟨vb (iF fS).symm,hs.aF⟩
theorem C161 (s:ByteArray) (w:World) (hn:s.size≤1048576):CR 161 [.string s] w (λ v w'=>v = .bool (jY s)∧Ext w w'):=by
 have hs:=St.start w;refine Zz _ _ _ ?_;unfold S161;refine ⟨λ jv w'=>jv = .bool (decide (s.size<1∨16<s.size) || (match (lf s)[0]? with | some c=>!jo c.toNat | none=>true) || v7.any (λ y=>decide (y=s)))∧St w bD [] w',?_,?_⟩
 ·refine gb gH (aR (aC (λ pD=>?_) (λ pD=>?_)))
  ·exact ⟨vb (by grind),hs⟩
  ·refine gb gH (cZ (aC (λ fO=>?_) (λ fO=>?_)))
   ·exact ⟨vb (by grind),hs⟩
   ·obtain ⟨jj,dD⟩:∃ xx,(lf (s))[((0:Int)).toNat]? = some xx:=⟨_,List.getElem?_eq_getElem (by rw [dY]; omega)⟩;refine lH gH (by omega) dD (aZ Pt hs (C206 _ _) (λ w1 he hs=>bY (aX (λ eA=>?_) (λ eA=>?_))))
    ·exact ⟨vb (by grind),hs⟩
    ·refine aZ ang hs (C207 _ _) (λ w2 he hs=>?_);exact ⟨vb (by grind),hs⟩
 ·rintro _ w3 ⟨rfl,hs⟩ fy;refine aX (λ gr=>?_) (λ gr=>?_)
  ·refine ⟨vb ?_,hs.aF⟩;unfold jY;rw [gr]; rfl
  ·refine ⟨λ m x w1=>∃ k:Nat,x = .int .i64 (k:Int)∧m=(lf s).length - k∧k≤(lf s).length∧(∀ y∈(lf s).take k,(!jo y.toNat && !nn y.toNat)=false)∧St w bD [] w1,⟨_,0,rfl,rfl,Nat.zero_le _,by simp,hs⟩,?_⟩;rintro m _ w4 ⟨k,rfl,rfl,hk,fS,hs⟩ jw;rw [dY] at hk;have yN:=dY s;refine gb gH (aR (aC (λ fR=>?_) (λ fR=>?_)))
   ·obtain ⟨DO,lC⟩:∃ xx,(lf s)[((k:Int)).toNat]? = some xx:=⟨_,List.getElem?_eq_getElem (by rw [dY]; omega)⟩;refine ⟨λ jv w'=>jv = .bool (!jo DO.toNat && !nn DO.toNat)∧St w bD [] w',?_,?_⟩
    ·refine lH gH (by omega) lC (aZ Pt hs (C206 _ _) (λ w5 he hs=>bY (aX (λ jH=>?_) (λ jH=>?_))))
     ·refine lH gH (by omega) lC (aZ Pu hs (C208 _ _) (λ w6 he hs=>bY ?_));exact ⟨vb (by grind),hs⟩
     ·exact ⟨vb (by grind),hs⟩
    ·rintro _ w7 ⟨rfl,hs⟩ oN;refine aX (λ sg=>?_) (λ sg=>?_)
     ·refine ⟨vb ?_,hs.aF⟩;unfold jY;rw [jx lC sg]; simp
     ·refine aO (by omega) ?_;exact ⟨_,by omega,k+1,rfl,rfl,by omega,eC fS lC (by simpa using sg),hs⟩
   ·rw [List.take_of_length_le (by omega)] at fS;refine ⟨vb ?_,hs.aF⟩;unfold jY;rw [iF fS]
    revert gr
    cases (decide (s.size<1∨16<s.size) || (match (lf s)[0]? with | some c=>!jo c.toNat | none=>true) || v7.any (λ y=>decide (y=s))) <;> simp
theorem C160 (lv:Value) (xs:List cW) (i:Int) (N:Nat) (w:World) (hL:eI (λ _=>True) w lv xs) (hn:xs.length≤1048576) (hi : -9223372036854775808≤i) (hN:(xs.length:Int) - i<N):CR 160 [lv,.int .i64 i] w (λ v w'=>v = .int .i64 (uP xs i)∧Ext w w'):=by
 have hs:=St.start w;refine Zy _ _ _ _ ?_;unfold S160;refine ⟨λ jv w'=>jv = .bool (decide (i<0∨(xs.length:Int)≤i) || (match xs[i.toNat]? with | some x=>decide (kids x.op<0) | none=>true))∧St w bD [] w',?_,?_⟩
 ·refine aR (aC (λ gn=>?_) (λ gn=>?_))
  ·exact ⟨vb (by grind),hs⟩
  ·refine aJ lP (hL.ext hs.aF) (dG (aC (λ kF=>?_) (λ kF=>?_)))
   ·exact ⟨vb (by grind),hs⟩
   ·obtain ⟨qY,jk⟩:=gx (xs) (i:=(i).toNat) (by omega);refine aQ lP (hL.ext hs.aF) (by omega) jk (λ _ v8=>bP (qY).op jg v8 rfl rfl (λ _ jI=>aD bL (jI) (aZ Pl hs (C163 _ _) (λ w1 he hs=>aR ?_))));exact ⟨vb (by grind),hs⟩
 ·rintro _ w2 ⟨rfl,hs⟩ fy;refine aX (λ iO=>?_) (λ iO=>?_)
  ·exact ⟨congrArg (Value.int .i64) (by grind [abA,abz]),hs.aF⟩
  ·have h23:¬ (i<0∨(xs.length:Int)≤i):=by grind
   obtain ⟨Gx,FH⟩:∃ xx,xs[(i).toNat]? = some xx:=⟨_,List.getElem?_eq_getElem (by omega)⟩;have US:0≤kids Gx.op:=by grind
   have hkb:=Ip Gx.op;have Yk:=UR (by omega) FH US;refine aO (by omega) ?_;refine ⟨λ m y x w1=>∃ (k:Nat) (a:Int),x = .int .i64 (k:Int)∧y = .int .i64 a∧m=(kids Gx.op).toNat - k∧k≤(kids Gx.op).toNat∧Gw xs.length (skip k (xs.drop (i.toNat+1)))=a∧St w bD [] w1,⟨_,0,i+1,rfl,rfl,rfl,by omega,by rw [ym]; unfold Gw; simp only [List.length_drop]; omega,hs⟩,?_⟩;rintro m _ _ w3 ⟨k,a,rfl,rfl,rfl,hk,gk,hs⟩ jw;have hab:=avS (xs:=xs) (l:=xs.drop (i.toNat+1)) (k:=k) (by rw [List.length_drop]; omega);rw [gk] at hab;refine ⟨λ jv w'=>jv = .bool (decide ((k:Int)<kids Gx.op∧0≤a))∧St w bD [] w',?_,?_⟩
   ·refine aQ lP (hL.ext hs.aF) (by omega) FH (λ _ DP=>bP (Gx).op jg DP rfl rfl (λ _ od=>aD bL (od) (aZ Pl hs (C163 _ _) (λ w4 he hs=>aR (aC (λ nz=>?_) (λ nz=>?_))))))
    ·refine dG ?_;exact ⟨vb (by grind),hs⟩
    ·exact ⟨vb (by grind),hs⟩
   ·rintro _ w5 ⟨rfl,hs⟩ oN;refine aC (λ tU=>?_) (λ tU=>?_)
    ·have hgo:=aor gk (by omega);refine aZ Pk hs (C160 _ _ _ (N - 1) _ (hL.ext hs.aF) hn (by omega) (by omega)) (λ w6 he hs=>aO (by omega) ?_);exact ⟨_,by omega,k+1,_,rfl,rfl,rfl,by omega,(hgo.1).symm,hs⟩
    ·exact ⟨congrArg (Value.int .i64) (by have:=ah0 (xs:=xs) (l:=xs.drop (i.toNat+1)) (k:=k) (j:=(kids Gx.op).toNat) (by rw [List.length_drop]; omega); rw [Yk]; by_cases h0:0≤a <;> grind),hs.aF⟩
termination_by N
decreasing_by omega
inductive Ex where
 | leaf (x:cW)
 | un (x:cW) (a:Ex)
 | bin (x:cW) (a b:Ex)
namespace Ex
def root:Ex→cW | leaf x=>x | un x _=>x | bin x _ _=>x
def gv:Ex→List Ex | leaf _=>[] | un _ a=>[a] | bin _ a b=>[a,b]
def flat:Ex→List cW | leaf x=>[x] | un x a=>x::a.flat | bin x a b=>x::(a.flat++b.flat)
def wf:Ex→Prop | leaf x=>kids x.op=0 | un x a=>kids x.op=1∧a.wf | bin x a b=>kids x.op=2∧a.wf∧b.wf
def depth:Ex→Int | leaf _=>1 | un _ a=>a.depth+1 | bin _ a b=>max a.depth b.depth+1
def size:Ex→Nat | leaf _=>1 | un _ a=>a.size+1 | bin _ a b=>a.size+b.size+1
def numOf (ns:List ByteArray) (x:cW):Int:=if x.op=2 then dO ns x.name else x.n
def steps (ns:List ByteArray):Ex→List nk
 | leaf x=>[⟨x.op,numOf ns x⟩]
 | un x a=>a.steps ns++[⟨x.op,numOf ns x⟩]
 | bin x a b=>a.steps ns++b.steps ns++[⟨x.op,numOf ns x⟩]
end Ex
theorem Ex.cO (t:Ex):t.flat.length=t.size:=by
 induction t with
 | leaf x=>rfl
 | un x a ih=>simp [Ex.flat,Ex.size,ih]
 | bin x a b vx xD=>simp [Ex.flat,Ex.size,vx,xD]
theorem Ex.Gy (t:Ex):t.flat=t.root::(t.gv.map Ex.flat).flatten:=by
 cases t <;> simp [Ex.flat,Ex.root,Ex.gv]
theorem Ex.KG {t:Ex} (h:t.wf):kids t.root.op=t.gv.length:=by
 cases t with
 | leaf x=>exact h
 | un x a=>exact h.1
 | bin x a b=>exact h.1
theorem Ex.Iq {t a:Ex} (h:t.wf) (ha:a∈t.gv):a.wf∧a.size<t.size:=by
 cases t with
 | leaf x=>cases ha
 | un x b=>rw [List.mem_singleton.1 ha]; exact ⟨h.2,by simp [Ex.size]⟩
 | bin x b c=>
  rcases List.mem_cons.1 ha with rfl | ha
  ·exact ⟨h.2.1,by simp [Ex.size]; omega⟩
  ·rw [List.mem_singleton.1 ha]; exact ⟨h.2.2,by simp [Ex.size]; omega⟩
theorem Ex.zD (t:Ex):1≤t.depth∧t.depth≤t.size:=by
 induction t with
 | leaf x=>simp [Ex.depth,Ex.size]
 | un x a ih=>simp only [Ex.depth,Ex.size]; omega
 | bin x a b vx xD=>simp only [Ex.depth,Ex.size]; omega
theorem Ex.xb (ns:List ByteArray) (t:Ex):(t.steps ns).length=t.size:=by
 induction t with
 | leaf x=>rfl
 | un x a ih=>simp [Ex.steps,Ex.size,ih]
 | bin x a b vx xD=>simp [Ex.steps,Ex.size,vx,xD]; omega
theorem RX (t:Ex) (h:t.wf):∀ n r,skip (n+1) (t.flat++r)=skip n r:=by
 induction t with
 | leaf x=>
  intro n r
  show (if kids x.op<0 then none else skip (n+(kids x.op).toNat) r)=_
  rw [show kids x.op=0 from h]; rfl
 | un x a ih=>
  intro n r
  show (if kids x.op<0 then none else skip (n+(kids x.op).toNat) (a.flat++r))=_
  rw [show kids x.op=1 from h.1,if_neg (by omega)]; exact ih h.2 n r
 | bin x a b vx xD=>
  intro n r
  show (if kids x.op<0 then none else skip (n+(kids x.op).toNat) (a.flat++b.flat++r))=_
  rw [show kids x.op=2 from h.1,if_neg (by omega),List.append_assoc]
  show skip (n+1+1) _=_
  rw [vx h.2.1 (n+1),xD h.2.2 n]
theorem Qa:∀ (k:Nat) (l r:List cW),l.length≤k→skip 1 l=some r→∃ t:Ex,t.wf∧l=t.flat++r
 | k,[],r,_,h=>by cases h
 | 0,x::l,r,hk,_=>by simp at hk
 | k+1,x::l,r,hk,h=>by
  have hk:l.length≤k:=by simpa using hk
  have h:(if kids x.op<0 then none else skip (0+(kids x.op).toNat) l)=some r:=h
  have hb:=Ip x.op
  split at h
  ·cases h
  ·rcases (show kids x.op=0∨kids x.op=1∨kids x.op=2 by omega) with h0 | h0 | h0
   ·rw [h0] at h
    have h:skip 0 l=some r:=h
    rw [ym] at h; cases h
    exact ⟨.leaf x,h0,rfl⟩
   ·rw [h0] at h
    obtain ⟨a,ha,rfl⟩:=Qa k l r hk h
    exact ⟨.un x a,⟨h0,ha⟩,rfl⟩
   ·rw [h0] at h
    have h:skip (1+1) l=some r:=h
    rw [DM] at h
    obtain ⟨m,h1,h2⟩:=Option.bind_eq_some_iff.1 h
    obtain ⟨a,ha,rfl⟩:=Qa k l m hk h1
    obtain ⟨b,hb',rfl⟩:=Qa k m r (by simp at hk; omega) h2
    exact ⟨.bin x a b,⟨h0,ha,hb'⟩,by simp [Ex.flat]⟩
def Jp (xs:List cW) (i:Int) (t:Ex):Prop:=0≤i∧t.wf∧∃ r,xs.drop i.toNat=t.flat++r
theorem Jp.root {xs:List cW} {i:Int} {t:Ex} (h:Jp xs i t):xs[i.toNat]? = some t.root∧i<xs.length:=by
 obtain ⟨h0,_,r,h⟩:=h
 have:(xs.drop i.toNat)[0]? = some t.root:=by rw [h,Ex.Gy]; rfl
 rw [List.getElem?_drop,Nat.add_zero] at this
 exact ⟨this,by have:=(List.getElem?_eq_some_iff.1 this).1; omega⟩
theorem Jp.end {xs:List cW} {i:Int} {t:Ex} (h:Jp xs i t):uP xs i=i+t.size∧i+t.size≤xs.length:=by
 have mv:=h.root.2
 obtain ⟨h0,hw,r,h⟩:=h
 have hl:=congrArg List.length h
 rw [List.length_drop,List.length_append,Ex.cO] at hl
 refine ⟨?_,by omega⟩
 unfold uP
 rw [if_neg (by omega),h,RX t hw 0 r,ym]
 unfold Gw; simp only []; omega
theorem Jp.of {xs:List cW} {i:Int} (h:0≤uP xs i):∃ t,Jp xs i t:=by
 unfold uP at h
 split at h
 ·omega
 ·cases hs:skip 1 (xs.drop i.toNat) with
  | none=>rw [hs] at h; unfold Gw at h; simp only [] at h; omega
  | some r=>
   obtain ⟨t,hw,he⟩:=Qa _ _ r (Nat.le_refl _) hs
   exact ⟨t,by omega,hw,r,he⟩
def zE (ks:List Ex) (k:Nat):Nat:=((ks.take k).map Ex.size).sum
theorem Gz {ks:List Ex} {k:Nat} {a:Ex} (h:ks[k]? = some a):zE ks (k+1)=zE ks k+a.size:=by
 unfold zE; rw [← gX h]; simp
theorem Jp.kid {xs:List cW} {i:Int} {t a:Ex} {k:Nat} (h:Jp xs i t) (ha:t.gv[k]? = some a):Jp xs (i+1+zE t.gv k) a:=by
 obtain ⟨h0,hw,r,h⟩:=h
 refine ⟨by omega,(Ex.Iq hw (List.mem_of_getElem? ha)).1,?_⟩
 have hs:t.gv=t.gv.take k++a::t.gv.drop (k+1):=by
  obtain ⟨hk,he⟩:=List.getElem?_eq_some_iff.1 ha
  rw [← he,List.getElem_cons_drop,List.take_append_drop]
 have hl:(((t.gv.take k).map Ex.flat).flatten).length=zE t.gv k:=by
  unfold zE
  rw [List.length_flatten,List.map_map]
  congr 2
  exact funext λ x=>Ex.cO x
 have h2:xs.drop (i.toNat+1)=((t.gv.take k).map Ex.flat).flatten++(a.flat++(((t.gv.drop (k+1)).map Ex.flat).flatten++r)):=by
  rw [← List.drop_drop,h,Ex.Gy t]
  show (t.gv.map Ex.flat).flatten++r=_
  conv=>lhs; rw [hs]
  simp
 refine ⟨((t.gv.drop (k+1)).map Ex.flat).flatten++r,?_⟩
 rw [show (i+1+(zE t.gv k:Int)).toNat=i.toNat+1+zE t.gv k from by omega,← List.drop_drop,h2,← hl,List.drop_left]
def DQ (ks:List Ex) (k:Nat):Int:=((ks.take k).map Ex.depth).foldl max 0
theorem GA {ks:List Ex} {k:Nat} {a:Ex} (h:ks[k]? = some a):DQ ks (k+1)=max (DQ ks k) a.depth:=by
 unfold DQ; rw [← gX h,List.map_append,List.foldl_append]; rfl
theorem UT {ks:List Ex} {N:Int} (h0:0≤N) (h:∀ a∈ks,a.depth≤N):∀ k,0≤DQ ks k∧DQ ks k≤N
 | 0=>by simp [DQ,h0]
 | k+1=>by
  have ih:=UT h0 h k
  cases hx:ks[k]? with
  | none=>
   have e:ks.take (k+1)=ks.take k:=by rw [List.take_add_one,hx]; simp
   unfold DQ at *; rw [e]; exact ih
  | some a=>rw [GA hx]; have:=h a (List.mem_of_getElem? hx); omega
theorem Ex.UU (t:Ex):t.depth=DQ t.gv t.gv.length+1:=by
 cases t with
 | leaf x=>rfl
 | un x a=>have:=a.zD; simp only [Ex.depth,Ex.gv,DQ,List.length_singleton,List.take_succ_cons,List.take_zero,List.map_cons,List.map_nil,List.foldl_cons,List.foldl_nil]; omega
 | bin x a b=>have:=a.zD; simp only [Ex.depth,Ex.gv,DQ,List.length_cons,List.length_nil,List.take_succ_cons,List.take_zero,List.map_cons,List.map_nil,List.foldl_cons,List.foldl_nil]; omega
def stK (ns:List ByteArray) (ks:List Ex) (k:Nat):List nk:=((ks.take k).map (Ex.steps ns)).flatten
theorem UW {ns:List ByteArray} {ks:List Ex} {k:Nat} {a:Ex} (h:ks[k]? = some a):stK ns ks (k+1)=stK ns ks k++a.steps ns:=by
 unfold stK; rw [← gX h]; simp
theorem Qb {ns:List ByteArray} {ks:List Ex} {k:Nat}:(stK ns ks k).length=zE ks k:=by
 unfold stK zE
 rw [List.length_flatten,List.map_map]
 congr 2
 exact funext λ x=>Ex.xb ns x
open Ex (numOf) in
theorem Ex.DU (ns:List ByteArray) (t:Ex):t.steps ns=stK ns t.gv t.gv.length++[⟨t.root.op,numOf ns t.root⟩]:=by
 cases t <;> simp [Ex.steps,Ex.gv,stK,Ex.root]
def pt:Nat→List cW→Option (Ex × List cW)
 | 0,_=>none
 | _+1,[]=>none
 | n+1,x::l=>
  if kids x.op=0 then some (.leaf x,l) else if kids x.op=1 then (match pt n l with | some p=>some (.un x p.1,p.2) | none=>none)
  else if kids x.op=2 then (match pt n l with | some p=>(match pt n p.2 with | some q=>some (.bin x p.1 q.1,q.2) | none=>none) | none=>none) else none
theorem abC (t:Ex) (h:t.wf):∀ n r,t.size≤n→pt n (t.flat++r)=some (t,r):=by
 induction t with
 | leaf x=>
  intro n r hn
  cases n with
  | zero=>simp [Ex.size] at hn
  | succ n=>show (if kids x.op=0 then _ else _)=_; rw [if_pos (show kids x.op=0 from h)]; rfl
 | un x a ih=>
  intro n r hn
  cases n with
  | zero=>simp [Ex.size] at hn
  | succ n=>
   have h1:kids x.op=1:=h.1
   show (if kids x.op=0 then _ else if kids x.op=1 then (match pt n (a.flat++r) with | some p=>some (Ex.un x p.1,p.2) | none=>none) else _)=_
   rw [if_neg (by omega),if_pos h1,ih h.2 n r (by simp [Ex.size] at hn; omega)]
 | bin x a b vx xD=>
  intro n r hn
  cases n with
  | zero=>simp [Ex.size] at hn
  | succ n=>
   have h1:kids x.op=2:=h.1
   show (if kids x.op=0 then _ else if kids x.op=1 then _ else if kids x.op=2 then (match pt n (a.flat++b.flat++r) with | some p=>(match pt n p.2 with | some q=>some (Ex.bin x p.1 q.1,q.2) | none=>none) | none=>none) else _)=_
   rw [if_neg (by omega),if_neg (by omega),if_pos h1,List.append_assoc,vx h.2.1 n _ (by simp [Ex.size] at hn; omega)]
   simp only []
   rw [xD h.2.2 n _ (by simp [Ex.size] at hn; omega)]
def yn (l:List cW):Option Ex:=match pt l.length l with | some p=>if p.2=[] then some p.1 else none | none=>none
theorem RY {t:Ex} (h:t.wf):yn t.flat=some t:=by
 unfold yn
 have:=abC t h t.flat.length [] (by rw [Ex.cO]; exact Nat.le_refl _)
 rw [List.append_nil] at this
 rw [this]; rfl
theorem Jp.zero {l:List cW} {t:Ex} (h:Jp l 0 t) (he:uP l 0=l.length):l=t.flat∧yn l=some t:=by
 have h1:=h.end
 obtain ⟨_,hw,r,h⟩:=h
 have hl:=congrArg List.length h
 rw [List.length_append,Ex.cO] at hl
 simp at hl
 have:r=[]:=List.length_eq_zero_iff.1 (by omega)
 subst this
 have h:l=t.flat:=by simpa using h
 exact ⟨h,by rw [h]; exact RY hw⟩
theorem zF:∀ n l t r,pt n l=some (t,r)→t.wf∧l=t.flat++r
 | 0,l,t,r,h=>by cases h
 | n+1,[],t,r,h=>by cases h
 | n+1,x::l,t,r,h=>by
  have h:(if kids x.op=0 then some (Ex.leaf x,l) else if kids x.op=1 then (match pt n l with | some p=>some (Ex.un x p.1,p.2) | none=>none)
   else if kids x.op=2 then (match pt n l with | some p=>(match pt n p.2 with | some q=>some (Ex.bin x p.1 q.1,q.2) | none=>none) | none=>none) else none)=some (t,r):=h
  split at h
  ·rename_i hk; cases h; exact ⟨hk,rfl⟩
  ·split at h
   ·rename_i hk
    cases ha:pt n l with
    | none=>rw [ha] at h; cases h
    | some p=>
     rw [ha] at h
     obtain ⟨a,m⟩:=p
     cases h
     obtain ⟨h1,rfl⟩:=zF n l a _ ha
     exact ⟨⟨hk,h1⟩,rfl⟩
   ·split at h
    ·rename_i hk
     cases ha:pt n l with
     | none=>rw [ha] at h; cases h
     | some p=>
      rw [ha] at h
      obtain ⟨a,m⟩:=p
      simp only [] at h
      cases hb:pt n m with
      | none=>rw [hb] at h; cases h
      | some q=>
       rw [hb] at h
       obtain ⟨b,m'⟩:=q
       cases h
       obtain ⟨h1,rfl⟩:=zF n l a _ ha
       obtain ⟨h2,rfl⟩:=zF n m b _ hb
       exact ⟨⟨hk,h1,h2⟩,by simp [Ex.flat]⟩
    ·cases h
theorem yo {l:List cW} {t:Ex} (h:yn l=some t):t.wf∧l=t.flat:=by
 unfold yn at h
 cases hp:pt l.length l with
 | none=>rw [hp] at h; cases h
 | some p=>
  rw [hp] at h
  obtain ⟨a,r⟩:=p
  simp only [] at h
  split at h
  ·rename_i hr; cases h
   obtain ⟨h1,h2⟩:=zF _ _ _ _ hp
   subst hr
   exact ⟨h1,by simpa using h2⟩
  ·cases h
theorem KH {l:List cW}:(yn l).isSome=decide (uP l 0=l.length):=by
 by_cases h:uP l 0=l.length
 ·obtain ⟨t,ht⟩:=Jp.of (xs:=l) (i:=0) (by omega)
  rw [(ht.zero h).2,decide_eq_true h]; rfl
 ·rw [decide_eq_false h]
  cases he:yn l with
  | none=>rfl
  | some t=>
   obtain ⟨h1,rfl⟩:=yo he
   exact absurd (by have:=(show Jp t.flat 0 t from ⟨by omega,h1,[],by simp⟩).end.1; rw [this,Ex.cO]; omega) h
def oO (x:cW):Bool:=decide (x.at_<0∨4000<x.at_) || decide (¬ x.op=1∧¬ x.n=0) || decide (¬ x.op=2∧¬ x.name=⟨#[]⟩) || decide (x.n<0∨4294967296<x.n) || (decide (x.op=2) && !jY x.name)
def ae1 (l:List cW):Int:=match yn l with | some t=>t.depth | none=>0
def jy (l:List cW):Bool:=decide (l.length≤40) && (yn l).isSome && !l.any oO && decide (ae1 l≤12)
def Nn (ns:List ByteArray) (l:List cW):List nk:=match yn l with | some t=>t.steps ns | none=>[]
def xV (ns:List ByteArray) (l:List cW):Int:=if jy l=false then 8 else if l.any (λ x=>decide (x.op=2) && decide (dO ns x.name<0)) then 9 else 0
def gg (ns:List ByteArray) (l:List cW):List nk:=if xV ns l=0 then Nn ns l else []
theorem Np {l:List cW} (h:jy l=true):uP l 0=l.length:=by
 unfold jy at h
 rw [KH] at h
 grind
theorem C162 (lv:Value) (xs:List cW) (i:Int) (t:Ex) (N:Nat) (w:World) (hL:eI (λ _=>True) w lv xs) (hn:xs.length≤1048576) (hT:Jp xs i t) (hN:t.size<N):CR 162 [lv,.int .i64 i] w (λ v w'=>v = .int .i64 t.depth∧Ext w w'):=by
 obtain ⟨Gx,hq,FH⟩:∃ e,e=t.root∧xs[(i).toNat]? = some e:=⟨_,rfl,hT.root.1⟩;have hri:=hT.root.2;have hie:=hT.end;have US:=Ex.KG hT.2.1;rw [← hq] at US;have hkb:=Ip Gx.op;have hi0:=hT.1;have hs:=St.start w;refine ZA _ _ _ _ ?_;unfold S162;refine aO (by omega) ?_;refine ⟨λ m n a x w1=>∃ k:Nat,n = .int .i64 (DQ t.gv k)∧a = .int .i64 (i+1+zE t.gv k)∧x = .int .i64 (k:Int)∧m=t.gv.length - k∧k≤t.gv.length∧St w bD [] w1,⟨_,0,rfl,congrArg (Value.int .i64) (by simp [zE]),rfl,rfl,by omega,hs⟩,?_⟩;rintro m _ _ _ w1 ⟨k,rfl,rfl,rfl,rfl,hk,hs⟩ fy;have hdk:=UT (ks:=t.gv) (N:=(t.size:Int)) (by omega) (λ a ha=>by have:=(Ex.Iq hT.2.1 ha).2; have:=a.zD; omega) k
 refine aQ lP (hL.ext hs.aF) (by omega) FH (λ _ KD=>bP (Gx).op jg KD rfl rfl (λ _ iN=>aD bL (iN) (aZ Pl hs (C163 _ _) (λ w2 he hs=>aR (aC (λ lZ=>?_) (λ lZ=>?_))))))
 ·obtain ⟨a,Ir⟩:∃ a,t.gv[k]? = some a:=⟨_,List.getElem?_eq_getElem (by omega)⟩;have hka:=Ex.Iq hT.2.1 (List.mem_of_getElem? Ir);have hAk:=hT.kid Ir;have hen:=hAk.end;have hdb:=a.zD;refine aZ T3 hs (C162 _ _ _ _ (N - 1) _ (hL.ext hs.aF) hn hAk (by omega)) (λ w3 he hs=>wX (aZ Pk hs (C160 _ _ _ ((xs).length+1) _ (hL.ext hs.aF) (by omega) (by omega) (by omega)) (λ w4 he hs=>aO (by omega) ?_)));exact ⟨_,by omega,k+1,by rw [GA Ir],congrArg (Value.int .i64) (by rw [hen.1,Gz Ir]; omega),rfl,rfl,by omega,hs⟩
 ·refine aO (by omega) ?_;exact ⟨congrArg (Value.int .i64) (by rw [t.UU,show k=t.gv.length from by omega]),hs.aF⟩
termination_by N
decreasing_by omega
theorem C105 (lv:Value) (xs:List cW) (w:World) (hL:eI (λ _=>True) w lv xs) (hn:xs.length≤1048576) (hnm:∀ x∈xs,x.name.size≤1048576):CR 105 [lv] w (λ v w'=>v = .bool (jy xs)∧Ext w w'):=by
 have hs:=St.start w;refine YS _ _ _ ?_;unfold S105;refine ⟨λ jv w'=>jv = .bool (decide (40<xs.length) || decide (¬ uP xs 0=xs.length))∧St w bD [] w',?_,?_⟩
 ·refine aJ lP (hL.ext hs.aF) (cZ (aC (λ iQ=>?_) (λ iQ=>?_)))
  ·exact ⟨vb (by grind),hs⟩
  ·refine aZ Pk hs (C160 _ _ _ ((xs).length+1) _ (hL.ext hs.aF) (by omega) (by omega) (by omega)) (λ w1 he hs=>aJ lP (hL.ext hs.aF) (cS ?_));exact ⟨vb (by grind),hs⟩
 ·rintro _ w2 ⟨rfl,hs⟩ fy;refine aX (λ gP=>?_) (λ gP=>?_)
  ·refine ⟨vb ?_,hs.aF⟩;unfold jy;rw [KH]
   grind
  ·refine ⟨λ m x w1=>∃ k:Nat,x = .int .i64 (k:Int)∧m=xs.length - k∧k≤xs.length∧(∀ y∈xs.take k,oO y=false)∧St w bD [] w1,⟨_,0,rfl,rfl,Nat.zero_le _,by simp,hs⟩,?_⟩;rintro m _ w3 ⟨k,rfl,rfl,hk,fS,hs⟩ jw;refine aJ lP (hL.ext hs.aF) (aR (aC (λ gd=>?_) (λ gd=>?_)))
   ·obtain ⟨qZ,kp⟩:=gx (xs) (i:=((k:Int)).toNat) (by omega);refine aQ lP (hL.ext hs.aF) (by omega) kp (λ _ pI=>aD J9 (pI) (aN hs PD (λ Cf w4 hs=>aI (x:=qZ) hs J9 rfl rfl (λ w5 hs=>?_))));refine ⟨λ jv w'=>jv = .bool (oO qZ)∧St w bD [] w',?_,?_⟩
    ·refine aA Dq (aB bL hs.hb rfl (aR (aC (λ gh=>?_) (λ gh=>?_))))
     ·exact ⟨vb (by unfold oO; grind),hs.drop⟩
     ·refine aA Dq (aB bL hs.hb rfl (cZ (aC (λ lK=>?_) (λ lK=>?_))))
      ·exact ⟨vb (by unfold oO; grind),hs.drop⟩
      ·refine aA jg (aB bL hs.hb rfl (cS (aC (λ lh=>?_) (λ lh=>?_))))
       ·refine aA mU (aB bL hs.hb rfl (cS (aC (λ oC=>?_) (λ oC=>?_))))
        ·exact ⟨vb (by unfold oO; grind),hs.drop⟩
        ·refine aA jg (aB bL hs.hb rfl (cS (aC (λ vZ=>?_) (λ vZ=>?_))))
         ·refine aA kY (aB j5 hs.hb rfl (oL (aC (λ oe=>?_) (λ oe=>?_))))
          ·exact ⟨vb (by unfold oO; grind),hs.drop⟩
          ·refine aA mU (aB bL hs.hb rfl (aR (aC (λ UX=>?_) (λ UX=>?_))))
           ·exact ⟨vb (by unfold oO; grind),hs.drop⟩
           ·refine aA mU (aB bL hs.hb rfl (cZ (aC (λ kq=>?_) (λ kq=>?_))))
            ·exact ⟨vb (by unfold oO; grind),hs.drop⟩
            ·refine aA jg (aB bL hs.hb rfl (aH (aC (λ KI=>?_) (λ KI=>?_))))
             ·refine aA kY (aB j5 hs.hb rfl (aZ tx hs (C161 _ _ (hnm _ (List.mem_of_getElem? kp))) (λ w6 he hs=>bY ?_)));exact ⟨vb (by unfold oO; grind),hs.drop⟩
             ·exact ⟨vb (by unfold oO; grind),hs.drop⟩
         ·refine aA mU (aB bL hs.hb rfl (aR (aC (λ Is=>?_) (λ Is=>?_))))
          ·exact ⟨vb (by unfold oO; grind),hs.drop⟩
          ·refine aA mU (aB bL hs.hb rfl (cZ (aC (λ abE=>?_) (λ abE=>?_))))
           ·exact ⟨vb (by unfold oO; grind),hs.drop⟩
           ·refine aA jg (aB bL hs.hb rfl (aH (aC (λ abF=>?_) (λ abF=>?_))))
            ·refine aA kY (aB j5 hs.hb rfl (aZ tx hs (C161 _ _ (hnm _ (List.mem_of_getElem? kp))) (λ w7 he hs=>bY ?_)));exact ⟨vb (by unfold oO; grind),hs.drop⟩
            ·exact ⟨vb (by unfold oO; grind),hs.drop⟩
       ·refine aA jg (aB bL hs.hb rfl (cS (aC (λ abG=>?_) (λ abG=>?_))))
        ·refine aA kY (aB j5 hs.hb rfl (oL (aC (λ abH=>?_) (λ abH=>?_))))
         ·exact ⟨vb (by unfold oO; grind),hs.drop⟩
         ·refine aA mU (aB bL hs.hb rfl (aR (aC (λ abI=>?_) (λ abI=>?_))))
          ·exact ⟨vb (by unfold oO; grind),hs.drop⟩
          ·refine aA mU (aB bL hs.hb rfl (cZ (aC (λ abJ=>?_) (λ abJ=>?_))))
           ·exact ⟨vb (by unfold oO; grind),hs.drop⟩
           ·refine aA jg (aB bL hs.hb rfl (aH (aC (λ abK=>?_) (λ abK=>?_))))
            ·refine aA kY (aB j5 hs.hb rfl (aZ tx hs (C161 _ _ (hnm _ (List.mem_of_getElem? kp))) (λ w8 he hs=>bY ?_)));exact ⟨vb (by unfold oO; grind),hs.drop⟩
            ·exact ⟨vb (by unfold oO; grind),hs.drop⟩
        ·refine aA mU (aB bL hs.hb rfl (aR (aC (λ abL=>?_) (λ abL=>?_))))
         ·exact ⟨vb (by unfold oO; grind),hs.drop⟩
         ·refine aA mU (aB bL hs.hb rfl (cZ (aC (λ abM=>?_) (λ abM=>?_))))
          ·exact ⟨vb (by unfold oO; grind),hs.drop⟩
          ·refine aA jg (aB bL hs.hb rfl (aH (aC (λ abN=>?_) (λ abN=>?_))))
           ·refine aA kY (aB j5 hs.hb rfl (aZ tx hs (C161 _ _ (hnm _ (List.mem_of_getElem? kp))) (λ w9 he hs=>bY ?_)));exact ⟨vb (by unfold oO; grind),hs.drop⟩
           ·exact ⟨vb (by unfold oO; grind),hs.drop⟩
    ·rintro _ pQ ⟨rfl,hs⟩ oN;refine aX (λ KJ=>?_) (λ KJ=>?_)
     ·refine ⟨vb ?_,hs.aF⟩;unfold jy;rw [jx kp KJ]; simp
     ·refine aO (by omega) ?_;exact ⟨_,by omega,k+1,rfl,rfl,by omega,eC fS kp KJ,hs⟩
   ·have Qc:uP xs 0=xs.length:=by grind
    have h40:xs.length≤40:=by grind
    obtain ⟨t,ht⟩:=Jp.of (xs:=xs) (i:=0) (by omega);have hz:=ht.zero Qc;refine aZ T3 hs (C162 _ _ _ t (t.size+1) _ (hL.ext hs.aF) hn ht (by omega)) (λ sP he hs=>j4 ?_);rw [List.take_of_length_le (by omega)] at fS;refine ⟨vb ?_,hs.aF⟩;unfold jy ae1;rw [iF fS,hz.2];simp [h40]
theorem C106 (lv nv:Value) (xs:List cW) (ns:List ByteArray) (i:Int) (t:Ex) (N:Nat) (w:World) (hL:eI (λ _=>True) w lv xs) (hN:eI (λ _=>True) w nv ns) (hn:xs.length≤1048576) (hns:ns.length≤1048576) (hT:Jp xs i t) (hNt:t.size<N):CR 106 [lv,.int .i64 i,nv] w (λ v w'=>lW (bK v (t.steps ns)) w w'):=by
 obtain ⟨Gx,hq,FH⟩:∃ e,e=t.root∧xs[(i).toNat]? = some e:=⟨_,rfl,hT.root.1⟩;have hri:=hT.root.2;have hie:=hT.end;have US:=Ex.KG hT.2.1;rw [← hq] at US;have hkb:=Ip Gx.op;have hi0:=hT.1;have hs:=St.start w;refine YT _ _ _ _ _ ?_;unfold S106;refine bW (([]:List nk)) hs vw rfl rfl (eF rfl) (λ aeX w1 hs=>aO (by omega) ?_);refine ⟨λ m RE a x w1=>∃ k:Nat,a = .int .i64 (i+1+zE t.gv k)∧x = .int .i64 (k:Int)∧m=t.gv.length - k∧k≤t.gv.length∧St w bD [bK RE (stK ns t.gv k)] w1,⟨_,0,congrArg (Value.int .i64) (by simp [zE]),rfl,rfl,by omega,hs⟩,?_⟩;rintro m RE _ _ w2 ⟨k,rfl,rfl,rfl,hk,hs⟩ fy
 refine aQ lP (hL.ext hs.aF) (by omega) FH (λ _ KE=>bP (Gx).op jg KE rfl rfl (λ _ v8=>aD bL (v8) (aZ Pl hs (C163 _ _) (λ w3 he hs=>aR (aC (λ gr=>?_) (λ gr=>?_))))))
 ·obtain ⟨a,Ir⟩:∃ a,t.gv[k]? = some a:=⟨_,List.getElem?_eq_getElem (by omega)⟩;have hka:=Ex.Iq hT.2.1 (List.mem_of_getElem? Ir);have hAk:=hT.kid Ir;have hen:=hAk.end;have hdb:=a.zD;have hsl:=Qb (ns:=ns) (ks:=t.gv) (k:=k);have hal:=Ex.xb ns a;refine dB aec hs (C106 _ _ _ _ _ _ (N - 1) _ (hL.ext hs.aF) (hN.ext hs.aF) hn hns hAk (by omega)) (λ x28 w4 bZ hs=>?_);have ah1:=(hs).fK;refine cN hs.p1 vw ah1 (by omega) (by decide) (λ ae3 w5 hs=>have hs:=hs.p1.drop;aZ Pk hs (C160 _ _ _ ((xs).length+1) _ (hL.ext hs.aF) (by omega) (by omega) (by omega)) (λ w6 he hs=>aO (by omega) ?_));exact ⟨_,by omega,k+1,congrArg (Value.int .i64) (by rw [hen.1,Gz Ir]; omega),rfl,rfl,by omega,by rw [UW Ir]; exact hs⟩
 ·have hsl:=Qb (ns:=ns) (ks:=t.gv) (k:=k);refine aQ lP (hL.ext hs.aF) (by omega) FH (λ _ zG=>bP (Gx).n mU zG rfl rfl (λ _ tV=>aD bL (tV) ?_));refine ⟨λ jv w'=>jv = .int .i64 (Ex.numOf ns Gx)∧St w bD [bK RE (stK ns t.gv k)] w',?_,?_⟩
  ·refine aQ lP (hL.ext hs.aF) (by omega) FH (λ _ UY=>bP (Gx).op jg UY rfl rfl (λ _ DV=>aD bL (DV) (aH (aC (λ tW=>?_) (λ tW=>?_)))))
   ·refine aQ lP (hL.ext hs.aF) (by omega) FH (λ _ DW=>bP (Gx).name kY DW rfl rfl (λ _ U1=>aD j5 (U1) (aZ AS hs (C98 _ ns _ _ (hN.ext hs.aF) (by omega)) (λ w7 he hs=>?_))));exact ⟨congrArg (Value.int .i64) (by grind [Ex.numOf]),hs⟩
   ·exact ⟨congrArg (Value.int .i64) (by grind [Ex.numOf]),hs⟩
  ·rintro _ w8 ⟨rfl,hs⟩ jw;refine aQ lP (hL.ext hs.aF) (by omega) FH (λ _ U3=>bP (Gx).op jg U3 rfl rfl (λ _ DK=>aD bL (DK) (pop (M9 _ _) (bW ([(⟨(Gx).op,(Ex.numOf ns Gx)⟩:nk)]) hs vw rfl rfl (eF rfl) (λ s_x59 w9 hs=>?_)))));have ah2:=(hs).fK;refine cN hs.p1 vw ah2 (by rw [hsl,List.length_singleton]; have:(t.steps ns).length=t.size:=Ex.xb ns t; rw [Ex.DU,List.length_append,List.length_singleton,← show k=t.gv.length from by omega] at this; omega) (by decide) (λ aou pQ hs=>?_);have hs:=hs.p1.drop;rw [Ex.DU,← show k=t.gv.length from by omega,← hq]
   exact hs.fresh
termination_by N
decreasing_by omega
theorem C45 (lv nv:Value) (xs:List cW) (ns:List ByteArray) (w:World) (hL:eI (λ _=>True) w lv xs) (hN:eI (λ _=>True) w nv ns) (hn:xs.length≤1048576) (hns:ns.length≤1048576) (hnm:∀ x∈xs,x.name.size≤1048576):CR 45 [lv,nv] w (λ v w'=>∃ s,v = .tuple #[s,.int .i64 (xV ns xs)]∧lW (bK s (gg ns xs)) w w'):=by
 have hs:=St.start w;refine agX _ _ _ _ ?_;unfold S45;refine aZ JR hs (C105 _ _ _ (hL.ext hs.aF) hn hnm) (λ w1 he hs=>bY (aX (λ gu=>?_) (λ gu=>?_)))
 ·have h8:xV ns xs=8:=by unfold xV; rw [if_pos (by simpa using gu)]
  refine ⟨_,by rw [h8],?_⟩;unfold gg;rw [h8,if_neg (by decide)];exact (hs.fX (α:=nk)).fresh
 ·refine ⟨λ m x w1=>∃ k:Nat,x = .int .i64 (k:Int)∧m=xs.length - k∧k≤xs.length∧(∀ y∈xs.take k,(decide (y.op=2) && decide (dO ns y.name<0))=false)∧St w bD [] w1,⟨_,0,rfl,rfl,Nat.zero_le _,by simp,hs⟩,?_⟩;rintro m _ w2 ⟨k,rfl,rfl,hk,fS,hs⟩ fy;refine aJ lP (hL.ext hs.aF) (aR (aC (λ kF=>?_) (λ kF=>?_)))
  ·obtain ⟨qY,jk⟩:∃ xx,(xs)[((k:Int)).toNat]? = some xx:=⟨_,List.getElem?_eq_getElem (by omega)⟩;refine ⟨λ jv w'=>jv = .bool (decide (qY.op=2) && decide (dO ns qY.name<0))∧St w bD [] w',?_,?_⟩
   ·refine aQ lP (hL.ext hs.aF) (by omega) jk (λ _ v8=>bP (qY).op jg v8 rfl rfl (λ _ jI=>aD bL (jI) (aH (aC (λ gr=>?_) (λ gr=>?_)))))
    ·refine aQ lP (hL.ext hs.aF) (by omega) jk (λ _ q7=>bP (qY).name kY q7 rfl rfl (λ _ v9=>aD j5 (v9) (aZ AS hs (C98 _ ns _ _ (hN.ext hs.aF) (by omega)) (λ w3 he hs=>aR ?_))));exact ⟨vb (by grind),hs⟩
    ·exact ⟨vb (by grind),hs⟩
   ·rintro _ w4 ⟨rfl,hs⟩ jw;refine aX (λ lK=>?_) (λ lK=>?_)
    ·have h9:xV ns xs=9:=by unfold xV; rw [if_neg (by simpa using gu),if_pos (jx jk lK)]
     refine ⟨_,by rw [h9],?_⟩;unfold gg;rw [h9,if_neg (by decide)];exact (hs.fX (α:=nk)).fresh
    ·refine aO (by omega) ?_;exact ⟨_,by omega,k+1,rfl,rfl,by omega,eC fS jk lK,hs⟩
  ·have hre:jy xs=true:=by simpa using gu
   have Qc:=Np hre;obtain ⟨t,ht⟩:=Jp.of (xs:=xs) (i:=0) (by omega);have hz:=ht.zero Qc;refine dB aec hs (C106 _ _ _ _ _ t (t.size+1) _ (hL.ext hs.aF) (hN.ext hs.aF) hn hns ht (by omega)) (λ x34 w5 bZ hs=>?_);rw [List.take_of_length_le (by omega)] at fS;have h0:xV ns xs=0:=by unfold xV; rw [if_neg (by simpa using gu),if_neg (by rw [iF fS]; simp)]
   refine ⟨x34,by rw [h0],?_⟩;unfold gg Nn;rw [if_pos h0,hz.2];exact hs.fresh
inductive Bk where
 | nil
 | cons (x:cE) (a b r:Bk)
namespace Bk
def flat:Bk→List cE | nil=>[] | cons x a b r=>x::(a.flat++(b.flat++r.flat))
def len:Bk→Nat | nil=>0 | cons _ a b r=>a.len+b.len+r.len+1
def str:Bk→Prop | nil=>True | cons x a b r=>x.body=a.len∧x.fD=b.len∧a.len≤40∧b.len≤40∧a.str∧b.str∧r.str
def BO (x:cE) (loops:Int):Int:=if x.kind=12 then loops+1 else loops
def DX (x:cE):Bool:=decide (x.kind=11∨x.kind=12)
def yO (x:cE) (loops:Int):Bool:=decide ((x.body≤0∨x.kind=11∨x.kind=12)∧(x.fD≤0∨x.kind=11)∧(¬ x.kind=13∨¬ loops=0))
def ok:Bk→Int→Bool | nil,_=>true | cons x a b r,n=>yO x n && a.ok (BO x n) && b.ok (BO x n) && r.ok n
def depth:Bk→Int | nil=>0 | cons x a b r=>if DX x then max (max (1+a.depth) (1+b.depth)) r.depth else r.depth
end Bk
theorem Bk.cO (t:Bk):t.flat.length=t.len:=by
 induction t with
 | nil=>rfl
 | cons x a b r vx xD GB=>simp only [Bk.flat,Bk.len,List.length_cons,List.length_append,vx,xD,GB]; omega
theorem Bk.q8 (t:Bk):0≤t.depth∧t.depth≤t.len:=by
 induction t with
 | nil=>simp [Bk.depth,Bk.len]
 | cons x a b r vx xD GB=>
  unfold Bk.depth Bk.len
  split <;> omega
def Tj:Nat→List cE→Option Bk
 | _,[]=>some .nil
 | 0,_::_=>none
 | n+1,x::l=>
  if 0≤x.body∧0≤x.fD∧x.body≤40∧x.fD≤40∧x.body+x.fD≤l.length then
   match Tj n (l.take x.body.toNat),Tj n ((l.drop x.body.toNat).take x.fD.toNat),Tj n (l.drop (x.body.toNat+x.fD.toNat)) with
   | some a,some b,some r=>some (.cons x a b r)
   | _,_,_=>none
  else none
theorem xc:∀ n l t,Tj n l=some t→l=t.flat∧t.str
 | _,[],t,h=>by
  have h:some Bk.nil=some t:=by unfold Tj at h; exact h
  cases h; exact ⟨rfl,trivial⟩
 | 0,x::l,t,h=>by cases h
 | n+1,x::l,t,h=>by
  unfold Tj at h
  split at h
  ·rename_i hb
   obtain ⟨h1,h2,h3,h4,h5⟩:=hb
   cases ha:Tj n (l.take x.body.toNat) with
   | none=>rw [ha] at h; cases h
   | some a=>
    cases hb:Tj n ((l.drop x.body.toNat).take x.fD.toNat) with
    | none=>rw [ha,hb] at h; cases h
    | some b=>
     cases hr:Tj n (l.drop (x.body.toNat+x.fD.toNat)) with
     | none=>rw [ha,hb,hr] at h; cases h
     | some r=>
      rw [ha,hb,hr] at h
      cases h
      obtain ⟨a1,a2⟩:=xc n _ _ ha
      obtain ⟨b1,b2⟩:=xc n _ _ hb
      obtain ⟨r1,r2⟩:=xc n _ _ hr
      have la:=congrArg List.length a1
      have lb:=congrArg List.length b1
      rw [Bk.cO,List.length_take] at la
      rw [Bk.cO,List.length_take,List.length_drop] at lb
      refine ⟨?_,by omega,by omega,by omega,by omega,a2,b2,r2⟩
      unfold Bk.flat
      rw [← a1,← b1,← r1,← List.drop_drop,List.take_append_drop,List.take_append_drop]
  ·cases h
theorem U4 (t:Bk):t.str→∀ n,t.len≤n→Tj n t.flat=some t:=by
 induction t with
 | nil=>intro _ n _; cases n <;> rfl
 | cons x a b r vx xD GB=>
  intro h n hn
  obtain ⟨h1,h2,h3,h4,ha,hb,hr⟩:=h
  cases n with
  | zero=>simp [Bk.len] at hn
  | succ n=>
   have hn:a.len+b.len+r.len≤n:=by simp [Bk.len] at hn; omega
   have la:=a.cO
   have lb:=b.cO
   unfold Bk.flat Tj
   rw [if_pos ⟨by omega,by omega,by omega,by omega,by simp [la,lb]; omega⟩,show x.body.toNat=a.flat.length from by omega,List.take_left,List.drop_left,show x.fD.toNat=b.flat.length from by omega,List.take_left,← List.drop_drop,List.drop_left,List.drop_left,
    vx ha n (by omega),xD hb n (by omega),GB hr n (by omega)]
def oP (l:List cE):Option Bk:=Tj l.length l
theorem nq {l:List cE} {t:Bk} (h:oP l=some t):l=t.flat∧t.str:=xc _ _ _ h
theorem oQ {t:Bk} (h:t.str):oP t.flat=some t:=U4 t h _ (by rw [Bk.cO]; exact Nat.le_refl _)
def gB (l:List cE) (loops:Int):Int:=match oP l with | some t=>if t.ok loops then t.depth else -1 | none=>-1
theorem GC (loops:Int):gB [] loops=0:=rfl
theorem CC (l:List cE) (loops:Int) : -1≤gB l loops∧gB l loops≤l.length:=by
 unfold gB
 cases h:oP l with
 | none=>simp only []; omega
 | some t=>
  obtain ⟨rfl,_⟩:=nq h
  have:=t.q8
  simp only [Bk.cO]
  split <;> omega
def zH (x:cE) (l:List cE):Prop:=0≤x.body∧0≤x.fD∧x.body≤40∧x.fD≤40∧x.body+x.fD≤l.length
theorem RZ {x:cE} {l:List cE} {loops:Int} (h:¬ (zH x l∧Bk.yO x loops=true)):gB (x::l) loops = -1:=by
 unfold gB
 cases hb:oP (x::l) with
 | none=>rfl
 | some t=>
  obtain ⟨he,hs⟩:=nq hb
  cases t with
  | nil=>cases he
  | cons y a b r=>
   obtain ⟨rfl,rfl⟩:=List.cons.inj he
   obtain ⟨h1,h2,h3,h4,_⟩:=hs
   have:Bk.yO x loops=false:=by
    cases hk:Bk.yO x loops with
    | false=>rfl
    | true=>exact absurd ⟨⟨by omega,by omega,by omega,by omega,by simp [Bk.cO]; omega⟩,hk⟩ h
   have h:(Bk.cons x a b r).ok loops=false:=by unfold Bk.ok; rw [this]; rfl
   simp only [h]; rfl
theorem DY {x:cE} {l:List cE} {loops:Int} (h:zH x l) (ho:Bk.yO x loops=true) :
  gB (x::l) loops=(let A:=gB (l.take x.body.toNat) (Bk.BO x loops); let B:=gB ((l.drop x.body.toNat).take x.fD.toNat) (Bk.BO x loops); let R:=gB (l.drop (x.body.toNat+x.fD.toNat)) loops
   if A<0∨B<0∨R<0 then -1 else if Bk.DX x then max (max (1+A) (1+B)) R else R):=by
 obtain ⟨h1,h2,h3,h4,h5⟩:=h
 have e:l=l.take x.body.toNat++((l.drop x.body.toNat).take x.fD.toNat++l.drop (x.body.toNat+x.fD.toNat)):=by
  rw [← List.drop_drop,List.take_append_drop,List.take_append_drop]
 have la:(l.take x.body.toNat).length=x.body.toNat:=by rw [List.length_take]; omega
 have lb:((l.drop x.body.toNat).take x.fD.toNat).length=x.fD.toNat:=by rw [List.length_take,List.length_drop]; omega
 simp only []
 have key:∀ t,oP (x::l)=some t→∃ a b r,t = .cons x a b r∧oP (l.take x.body.toNat)=some a∧oP ((l.drop x.body.toNat).take x.fD.toNat)=some b∧oP (l.drop (x.body.toNat+x.fD.toNat))=some r:=by
  intro t ht
  obtain ⟨he,hs⟩:=nq ht
  cases t with
  | nil=>cases he
  | cons y a b r=>
   obtain ⟨rfl,hl⟩:=List.cons.inj he
   obtain ⟨g1,g2,_,_,ha,hb,hr⟩:=hs
   have q1:x.body.toNat=a.flat.length:=by rw [Bk.cO]; omega
   have q2:x.fD.toNat=b.flat.length:=by rw [Bk.cO]; omega
   refine ⟨a,b,r,rfl,?_,?_,?_⟩
   ·rw [hl,q1,List.take_left]; exact oQ ha
   ·rw [hl,q1,q2,List.drop_left,List.take_left]; exact oQ hb
   ·rw [hl,← List.drop_drop,q1,q2,List.drop_left,List.drop_left]; exact oQ hr
 cases ha:oP (l.take x.body.toNat) with
 | none=>
  have:oP (x::l)=none:=by
   cases hh:oP (x::l) with
   | none=>rfl
   | some t=>obtain ⟨a,b,r,_,q,_⟩:=key t hh; rw [ha] at q; cases q
  unfold gB; rw [this,ha]; simp
 | some a=>
  cases hb:oP ((l.drop x.body.toNat).take x.fD.toNat) with
  | none=>
   have:oP (x::l)=none:=by
    cases hh:oP (x::l) with
    | none=>rfl
    | some t=>obtain ⟨a,b,r,_,_,q,_⟩:=key t hh; rw [hb] at q; cases q
   unfold gB; rw [this,hb]; simp
  | some b=>
   cases hr:oP (l.drop (x.body.toNat+x.fD.toNat)) with
   | none=>
    have:oP (x::l)=none:=by
     cases hh:oP (x::l) with
     | none=>rfl
     | some t=>obtain ⟨a,b,r,_,_,_,q⟩:=key t hh; rw [hr] at q; cases q
    unfold gB; rw [this,hr]; simp
   | some r=>
    obtain ⟨a1,a2⟩:=nq ha
    obtain ⟨b1,b2⟩:=nq hb
    obtain ⟨r1,r2⟩:=nq hr
    have hl:x::l=(Bk.cons x a b r).flat:=by unfold Bk.flat; rw [← a1,← b1,← r1,← e]
    rw [a1,Bk.cO] at la
    rw [b1,Bk.cO] at lb
    have:oP (x::l)=some (.cons x a b r):=by rw [hl]; exact oQ ⟨by omega,by omega,by omega,by omega,a2,b2,r2⟩
    have na:=a.q8
    have nb:=b.q8
    have nr:=r.q8
    unfold gB
    rw [this,ha,hb,hr]
    simp only [Bk.ok,ho,Bool.true_and]
    cases h1:a.ok (Bk.BO x loops) <;> cases h2:b.ok (Bk.BO x loops) <;> cases h3:r.ok loops <;> simp [Bk.depth]
    split <;> omega
def wb (n d:Int):Int:=if d<0 then -1 else max n d
theorem U5 {xs l:List cE} {x:cE} {loops n:Int} (h:gB xs loops=wb n (gB (x::l) loops)) (hb:¬ (zH x l∧Bk.yO x loops=true)):gB xs loops = -1:=by
 rw [h,RZ hb]; rfl
theorem ah3 {xs l:List cE} {x:cE} {loops n:Int} (h:gB xs loops=wb n (gB (x::l) loops)) (hs:zH x l) (ho:Bk.yO x loops=true) (hb:Bk.DX x=true) (A B:Int)
  (hA:A=gB (l.take x.body.toNat) (Bk.BO x loops)) (hB:B=gB ((l.drop x.body.toNat).take x.fD.toNat) (Bk.BO x loops)) :
  (A<0∨B<0→gB xs loops = -1)∧(¬ (A<0∨B<0)→gB xs loops=wb (max (max n (1+A)) (1+B)) (gB (l.drop (x.body.toNat+x.fD.toNat)) loops)):=by
 have hR:=CC (l.drop (x.body.toNat+x.fD.toNat)) loops
 rw [h,DY hs ho]
 simp only [← hA,← hB,hb,if_true]
 unfold wb
 constructor <;> intro h <;> repeat' split
 all_goals omega
theorem aov {xs l:List cE} {x:cE} {loops n:Int} (h:gB xs loops=wb n (gB (x::l) loops)) (hs:zH x l) (ho:Bk.yO x loops=true) (hb:Bk.DX x=false) :
  gB xs loops=wb n (gB (l.drop (x.body.toNat+x.fD.toNat)) loops):=by
 have h0:x.body=0∧x.fD=0:=by
  unfold Bk.yO at ho
  unfold Bk.DX at hb
  obtain ⟨h1,h2,_⟩:=hs
  have ho:=of_decide_eq_true ho
  have hb:=of_decide_eq_false hb
  omega
 rw [h,DY hs ho,h0.1,h0.2]
 have e1:l.take (Int.toNat 0)=[]:=rfl
 have e2:(l.drop (Int.toNat 0)).take (Int.toNat 0)=[]:=rfl
 simp only [hb,e1,e2,GC]
 unfold wb
 repeat' split
 all_goals first | omega | simp_all
theorem drop_cons {α:Type} {xs:List α} {k:Nat} {x:α} (h:xs[k]? = some x):xs.drop k=x::xs.drop (k+1):=by
 obtain ⟨h1,h2⟩:=List.getElem?_eq_some_iff.1 h
 rw [List.drop_eq_getElem_cons h1,h2]
theorem DZ {α:Type} (xs:List α) {a b c n:Nat} (h:b=a+n) (hc:c=a):(xs.take b).drop c=(xs.drop a).take n:=by
 subst h hc; rw [List.drop_take,Nat.add_sub_cancel_left]
def abO:List ByteArray:=[⟨#[]⟩,⟨#[114,101]⟩,⟨#[114,110]⟩,⟨#[110,101]⟩,⟨#[114,110,101,102]⟩,⟨#[110]⟩,⟨#[110]⟩,⟨#[]⟩,⟨#[]⟩,⟨#[110]⟩,⟨#[110]⟩,⟨#[101,98]⟩,⟨#[107,98]⟩,⟨#[]⟩,⟨#[101]⟩]
def j3 (k:Int):ByteArray:=if k<1∨14<k then ⟨#[]⟩ else abO.getD k.toNat ⟨#[]⟩
def eo (s:ByteArray) (c:Int):Bool:=(lf s).any λ b=>decide ((b.toNat:Int)=c)
def q9 (x:cE):Bool:=
 !(decide (x.kind<1) || decide (14<x.kind) || decide (x.at_<0) || decide (4000<x.at_)) &&
 !((eo (j3 x.kind) 114 != jY x.gJ) || (!eo (j3 x.kind) 114 && decide (¬ x.gJ=⟨#[]⟩)) || (eo (j3 x.kind) 110 != jY x.name) || (!eo (j3 x.kind) 110 && decide (¬ x.name=⟨#[]⟩))) &&
 !((eo (j3 x.kind) 101 != jy x.e) || (!eo (j3 x.kind) 101 && decide (0<x.e.length)) || (eo (j3 x.kind) 102 != jy x.f) || (!eo (j3 x.kind) 102 && decide (0<x.f.length))) &&
 (if eo (j3 x.kind) 107=true then decide (1≤x.n∧x.n≤8) else decide (x.n=0))
def uQ (l:List cE):Bool:=decide (l.length≤40) && !l.any (λ x=>!q9 x) && decide (0≤gB l 0∧gB l 0≤12)
def uR (n:Int):Bool:=decide (0≤n∧n≤4000)
def nd (KK:Int) (c:dF):Bool:=!jY c.name || decide (c.n<0) || decide (KK<c.n) || !uR c.at_
def sQ (KK:Int) (l:List dF):Bool:=!l.any (nd KK)
def uS (nb:Bool) (t:dQ):Bool:=(nb != jY t.name) || (!nb && decide (¬ t.name=⟨#[]⟩)) || !uR t.at_ || !uQ t.body
def wc (nb:Bool) (t:dQ):Bool:=uS nb t || t.aK.any (λ s=>!jY s)
def og (nb:Bool) (l:List dQ):Bool:=!l.any (wc nb)
def xd (l:List dF):Bool:=decide ((l.length:Int)=0) || !sQ 4294967296 l
def tX (c:ju):Bool:=!uR c.at_ || !jy c.e
def l4 (p:cX):Bool:=!p.lines.any xd && !p.cC.any tX && (sQ 4294967296 p.jP && sQ 0 p.locks && og true p.threads && og false p.recover && decide (p.recover.length≤1))
def SzS (x:cE):Prop:=x.gJ.size≤1048576∧x.name.size≤1048576∧x.e.length≤1048576∧x.f.length≤1048576∧(∀ y∈x.e,y.name.size≤1048576)∧(∀ y∈x.f,y.name.size≤1048576)
def SzT (t:dQ):Prop:=t.name.size≤1048576∧(∀ s∈t.aK,s.size≤1048576)∧(∀ x∈t.body,SzS x)
structure PZ (p:cX):Prop extends PS p where
 zl:∀ l∈p.lines,∀ c∈l,c.name.size≤1048576
 zv:∀ c∈p.jP,c.name.size≤1048576
 zk:∀ c∈p.locks,c.name.size≤1048576
 zt:∀ t∈p.threads,SzT t
 zr:∀ t∈p.recover,SzT t
 zc:∀ c∈p.cC,c.e.length≤1048576∧∀ y∈c.e,y.name.size≤1048576
theorem D0 (k:Int):(j3 k).size≤1048576:=by
 unfold j3
 split
 ·decide
 ·rename_i h
  obtain rfl | rfl | rfl | rfl | rfl | rfl | rfl | rfl | rfl | rfl | rfl | rfl | rfl | rfl:k=1∨k=2∨k=3∨k=4∨k=5∨k=6∨k=7∨k=8∨k=9∨k=10∨k=11∨k=12∨k=13∨k=14:=by omega
  all_goals decide
theorem C251 (k:Int) (w:World):CR 251 [.int .i64 k] w (λ v w'=>v = .string (j3 k)∧Ext w w'):=by
 have hs:=St.start w;refine aaT _ _ _ ?_;unfold S251;refine ⟨λ jv w'=>jv = .bool (decide (k<1∨14<k))∧w=w',?_,?_⟩
 ·refine aR (aC (λ pH=>?_) (λ pH=>?_))
  ·exact ⟨RB (by omega),rfl⟩
  ·refine cZ ?_;exact ⟨xu (by omega),rfl⟩
 ·rintro _ w1 ⟨rfl,hw⟩ fy;subst hw;refine aC (λ gn=>?_) (λ gn=>?_)
  ·refine ⟨?_,hs.aF⟩;unfold j3;rw [if_pos gn]
  ·refine bW (abO) hs mS rfl rfl (eF rfl) (λ aow w2 hs=>?_);have KF:abO.length=15:=rfl;obtain ⟨ae4,we⟩:=gx (abO) (i:=(k).toNat) (by omega);refine dS hs mS (by omega) (by omega) (λ _ KL=>gj hs j5 KL we ?_);refine ⟨?_,hs.aF⟩;unfold j3;rw [if_neg gn,List.getD_eq_getElem?_getD,we]; rfl
theorem C252 (s:ByteArray) (c:Int) (w:World) (hn:s.size≤1048576):CR 252 [.string s,.int .u8 c] w (λ v w'=>v = .bool (eo s c)∧Ext w w'):=by
 have hs:=St.start w;refine aaU _ _ _ _ ?_;unfold S252;refine ⟨λ m x w1=>∃ k:Nat,x = .int .i64 (k:Int)∧m=(lf s).length - k∧k≤(lf s).length∧(∀ y∈(lf s).take k,decide ((y.toNat:Int)=c)=false)∧St w bD [] w1,⟨_,0,rfl,rfl,Nat.zero_le _,by simp,hs⟩,?_⟩;rintro m _ w1 ⟨k,rfl,rfl,hk,fS,hs⟩ fy;rw [dY] at hk;have yN:=dY s;refine gb gH (aR (aC (λ gu=>?_) (λ gu=>?_)))
 ·obtain ⟨jj,dD⟩:∃ xx,(lf (s))[((k:Int)).toNat]? = some xx:=⟨_,List.getElem?_eq_getElem (by rw [dY]; omega)⟩;refine lH gH (by omega) dD (nZ (aC (λ eA=>?_) (λ eA=>?_)))
  ·exact ⟨vb (jx dD (decide_eq_true eA)).symm,hs.aF⟩
  ·refine aO (by omega) ?_;exact ⟨_,by omega,k+1,rfl,rfl,by omega,eC fS dD (decide_eq_false eA),hs⟩
 ·rw [List.take_of_length_le (by omega)] at fS;exact ⟨vb (iF fS).symm,hs.aF⟩
theorem C230 (x:cE) (xv:bX) (w:World) (hx:cA.dr w xv x) (hz:SzS x):CR 230 [Flat.val xv] w (λ v w'=>v = .bool (q9 x)∧Ext w w'):=by
 obtain ⟨zI,zJ,rfl,KM,GD⟩:=hx;have hs:=St.start w;refine aax _ _ _ ?_;unfold S230;refine dE hs (λ U6 w1 hs=>?_);refine ⟨λ jv w'=>jv = .bool (decide (x.kind<1) || decide (14<x.kind) || decide (x.at_<0) || decide (4000<x.at_))∧St w bD [cD U6 (Flat.enc (⟨(x).kind,(x).gJ,(x).name,zI,zJ,(x).n,(x).body,(x).fD,(x).at_⟩:bX))] w',?_,?_⟩
 ·refine aA fw (aB (v:=.int .i64 ((x).kind)) bL hs.hb rfl (aR (aC (λ fO=>?_) (λ fO=>?_))))
  ·exact ⟨vb (by grind),hs⟩
  ·refine aA fw (aB (v:=.int .i64 ((x).kind)) bL hs.hb rfl (cZ (aC (λ gP=>?_) (λ gP=>?_))))
   ·exact ⟨vb (by grind),hs⟩
   ·refine aA qQ (aB (v:=.int .i64 ((x).at_)) bL hs.hb rfl (aR (aC (λ fu=>?_) (λ fu=>?_))))
    ·exact ⟨vb (by grind),hs⟩
    ·refine aA qQ (aB (v:=.int .i64 ((x).at_)) bL hs.hb rfl (cZ ?_));exact ⟨vb (by grind),hs⟩
 ·rintro _ w2 ⟨rfl,hs⟩ fy;refine aX (λ fR=>?_) (λ fR=>?_)
  ·refine ⟨vb ?_,hs.drop.aF⟩;unfold q9;simp only [*]
   first | done | rfl | simp
  ·refine aA fw (aB (v:=.int .i64 ((x).kind)) bL hs.hb rfl (aZ anI hs (C251 _ _) (λ w3 he hs=>aZ JX hs (C252 _ _ _ (D0 _)) (λ w4 he hs=>aZ JX hs (C252 _ _ _ (D0 _)) (λ w5 he hs=>aZ JX hs (C252 _ _ _ (D0 _)) (λ w6 he hs=>aZ JX hs (C252 _ _ _ (D0 _)) (λ w7 he hs=>?_)))))));refine ⟨λ jv w'=>jv = .bool ((eo (j3 x.kind) 114 != jY x.gJ) || (!eo (j3 x.kind) 114 && decide (¬ x.gJ=⟨#[]⟩)) || (eo (j3 x.kind) 110 != jY x.name) || (!eo (j3 x.kind) 110 && decide (¬ x.name=⟨#[]⟩)))∧St w bD [cD U6 (Flat.enc (⟨(x).kind,(x).gJ,(x).name,zI,zJ,(x).n,(x).body,(x).fD,(x).at_⟩:bX))] w',?_,?_⟩
   ·refine aA lS (aB (v:=.string ((x).gJ)) j5 hs.hb rfl (aZ tx hs (C161 _ _ hz.1) (λ w8 he hs=>po J6 (aX (λ jX=>?_) (λ jX=>?_)))))
    ·exact ⟨vb (by grind),hs⟩
    ·refine bY (aX (λ pJ=>?_) (λ pJ=>?_))
     ·refine aA lS (aB (v:=.string ((x).gJ)) j5 hs.hb rfl (oL (aC (λ zK=>?_) (λ zK=>?_))))
      ·exact ⟨vb (by grind),hs⟩
      ·refine aA jh (aB (v:=.string ((x).name)) j5 hs.hb rfl (aZ tx hs (C161 _ _ hz.2.1) (λ w9 he hs=>po J6 (aX (λ UX=>?_) (λ UX=>?_)))))
       ·exact ⟨vb (by grind),hs⟩
       ·refine bY (aX (λ Gv=>?_) (λ Gv=>?_))
        ·refine aA jh (aB (v:=.string ((x).name)) j5 hs.hb rfl (oL ?_));exact ⟨vb (by grind),hs⟩
        ·exact ⟨vb (by grind),hs⟩
     ·refine aA jh (aB (v:=.string ((x).name)) j5 hs.hb rfl (aZ tx hs (C161 _ _ hz.2.1) (λ pQ he hs=>po J6 (aX (λ Is=>?_) (λ Is=>?_)))))
      ·exact ⟨vb (by grind),hs⟩
      ·refine bY (aX (λ abP=>?_) (λ abP=>?_))
       ·refine aA jh (aB (v:=.string ((x).name)) j5 hs.hb rfl (oL ?_));exact ⟨vb (by grind),hs⟩
       ·exact ⟨vb (by grind),hs⟩
   ·rintro _ sP ⟨rfl,hs⟩ jw;refine aX (λ KI=>?_) (λ KI=>?_)
    ·refine ⟨vb ?_,hs.drop.aF⟩;unfold q9;simp only [*]
     first | done | rfl | simp
    ·refine ⟨λ jv w'=>jv = .bool ((eo (j3 x.kind) 101 != jy x.e) || (!eo (j3 x.kind) 101 && decide (0<x.e.length)) || (eo (j3 x.kind) 102 != jy x.f) || (!eo (j3 x.kind) 102 && decide (0<x.f.length)))∧St w bD [cD U6 (Flat.enc (⟨(x).kind,(x).gJ,(x).name,zI,zJ,(x).n,(x).body,(x).fD,(x).at_⟩:bX))] w',?_,?_⟩
     ·refine aA lT (aB mR hs.hb rfl ?_);have hf4:=DL.flat (KM);refine aZ JR hs (C105 _ _ _ (hf4.ext hs.aF) hz.2.2.1 hz.2.2.2.2.1) (λ vi he hs=>po J6 (aX (λ vk=>?_) (λ vk=>?_)))
      ·exact ⟨vb (by grind),hs⟩
      ·refine bY (aX (λ U7=>?_) (λ U7=>?_))
       ·refine aA lT (aB mR hs.hb rfl (aJ lP (hf4.ext hs.aF) (cZ (aC (λ KN=>?_) (λ KN=>?_)))))
        ·exact ⟨vb (by grind),hs⟩
        ·refine aA nU (aB mR hs.hb rfl ?_);have hf5:=DL.flat (GD);refine aZ JR hs (C105 _ _ _ (hf5.ext hs.aF) hz.2.2.2.1 hz.2.2.2.2.2) (λ vj he hs=>po J6 (aX (λ zL=>?_) (λ zL=>?_)))
         ·exact ⟨vb (by grind),hs⟩
         ·refine bY (aX (λ U8=>?_) (λ U8=>?_))
          ·refine aA nU (aB mR hs.hb rfl (aJ lP (hf5.ext hs.aF) (cZ ?_)));exact ⟨vb (by grind),hs⟩
          ·exact ⟨vb (by grind),hs⟩
       ·refine aA nU (aB mR hs.hb rfl ?_);have hf6:=DL.flat (GD);refine aZ JR hs (C105 _ _ _ (hf6.ext hs.aF) hz.2.2.2.1 hz.2.2.2.2.2) (λ sd he hs=>po J6 (aX (λ abQ=>?_) (λ abQ=>?_)))
        ·exact ⟨vb (by grind),hs⟩
        ·refine bY (aX (λ abR=>?_) (λ abR=>?_))
         ·refine aA nU (aB mR hs.hb rfl (aJ lP (hf6.ext hs.aF) (cZ ?_)));exact ⟨vb (by grind),hs⟩
         ·exact ⟨vb (by grind),hs⟩
     ·rintro _ vW ⟨rfl,hs⟩ oN;refine aX (λ aox=>?_) (λ aox=>?_)
      ·refine ⟨vb ?_,hs.drop.aF⟩;unfold q9;simp only [*]
       first | done | rfl | simp
      ·refine aZ JX hs (C252 _ _ _ (D0 _)) (λ yM he hs=>aX (λ A7=>?_) (λ A7=>?_))
       ·refine ⟨λ jv w'=>jv = .bool (decide (1≤x.n∧x.n≤8))∧St w bD [cD U6 (Flat.enc (⟨(x).kind,(x).gJ,(x).name,zI,zJ,(x).n,(x).body,(x).fD,(x).at_⟩:bX))] w',?_,?_⟩
        ·refine aA tL (aB (v:=.int .i64 ((x).n)) bL hs.hb rfl (dG (aC (λ ah6=>?_) (λ ah6=>?_))))
         ·refine aA tL (aB (v:=.int .i64 ((x).n)) bL hs.hb rfl (j4 ?_));exact ⟨vb (by grind),hs⟩
         ·exact ⟨vb (by grind),hs⟩
        ·rintro _ Cd ⟨rfl,hs⟩ GF;refine ⟨vb ?_,hs.drop.aF⟩;unfold q9;simp only [*]
         first | done | rfl | simp
       ·refine aA tL (aB (v:=.int .i64 ((x).n)) bL hs.hb rfl (aH ?_));refine ⟨vb ?_,hs.drop.aF⟩;unfold q9;simp only [*]
        first | done | rfl | simp
theorem C231 (lv:Value) (xs:List cE) (loops:Int) (N:Nat) (w:World) (hL:DL w lv xs) (hn:xs.length≤1048576) (hlo:0≤loops) (Qd:loops+N≤4194304) (hN:xs.length<N):CR 231 [lv,.int .i64 loops] w (λ v w'=>v = .int .i64 (gB xs loops)∧Ext w w'):=by
 have hs:=St.start w;refine aay _ _ _ _ ?_;unfold S231;refine ⟨λ m y x w1=>∃ (k:Nat) (n:Int),y = .int .i64 n∧x = .int .i64 (k:Int)∧m=xs.length - k∧k≤xs.length∧0≤n∧n≤41∧gB xs loops=wb n (gB (xs.drop k) loops)∧St w bD [] w1,⟨_,0,0,rfl,rfl,rfl,by omega,by omega,by omega,by have:=CC xs loops; rw [List.drop_zero]; unfold wb; split <;> omega,hs⟩,?_⟩;rintro m _ _ w1 ⟨k,n,rfl,rfl,rfl,hk,hn0,UP,hinv,hs⟩ fy;obtain ⟨ts7,hR7,hD7⟩:=(hL).open;have hn7:=hD7.1;refine aJ j1 (hR7.ext hs.aF) (aR (aC (λ jG=>?_) (λ jG=>?_)))
 ·obtain ⟨qY,jk⟩:=gx ts7 (i:=((k:Int)).toNat) (by omega);obtain ⟨cH,U9⟩:=gx (xs) (i:=((k:Int)).toNat) (by omega);obtain ⟨uT,uU,rfl,asL,asM⟩:=hD7.2 _ _ _ jk U9;refine aQ j1 (hR7.ext hs.aF) (by omega) jk (λ _ v8=>?_);have hdk:=drop_cons (xs:=xs) (k:=k) U9;rw [hdk] at hinv;have hdl:(xs.drop (k+1)).length=xs.length - (k+1):=List.length_drop;refine aD fW (v8) (aN hs qu (λ A8 w2 hs=>aI (x:=(⟨(cH).kind,(cH).gJ,(cH).name,uT,uU,(cH).n,(cH).body,(cH).fD,(cH).at_⟩:bX)) hs fW rfl rfl (λ w3 hs=>?_)));refine ⟨λ jv w'=>jv = .bool (decide (cH.body<0) || decide (cH.fD<0) || decide (40<cH.body) || decide (40<cH.fD) || decide ((xs.length:Int)<k+1+cH.body+cH.fD))∧St w bD [cD A8 (Flat.enc (⟨(cH).kind,(cH).gJ,(cH).name,uT,uU,(cH).n,(cH).body,(cH).fD,(cH).at_⟩:bX))] w',?_,?_⟩
  ·refine aA mV (aB (v:=.int .i64 ((cH).body)) bL hs.hb rfl (aR (aC (λ iM=>?_) (λ iM=>?_))))
   ·exact ⟨vb (by grind),hs⟩
   ·refine aA iK (aB (v:=.int .i64 ((cH).fD)) bL hs.hb rfl (aR (aC (λ si=>?_) (λ si=>?_))))
    ·exact ⟨vb (by grind),hs⟩
    ·refine aA mV (aB (v:=.int .i64 ((cH).body)) bL hs.hb rfl (cZ (aC (λ lK=>?_) (λ lK=>?_))))
     ·exact ⟨vb (by grind),hs⟩
     ·refine aA iK (aB (v:=.int .i64 ((cH).fD)) bL hs.hb rfl (cZ (aC (λ lh=>?_) (λ lh=>?_))))
      ·exact ⟨vb (by grind),hs⟩
      ·refine aO (by omega) (aA mV (aB (v:=.int .i64 ((cH).body)) bL hs.hb rfl (aO (by omega) (aA iK (aB (v:=.int .i64 ((cH).fD)) bL hs.hb rfl (aO (by omega) (aJ j1 (hR7.ext hs.aF) (cZ ?_))))))));exact ⟨vb (by grind),hs⟩
  ·rintro _ w4 ⟨rfl,hs⟩ jw;refine aX (λ oe=>?_) (λ oe=>?_)
   ·exact ⟨congrArg (Value.int .i64) (U5 hinv (by unfold zH; grind)).symm,hs.drop.aF⟩
   ·have lz:zH cH (xs.drop (k+1)):=by unfold zH; grind
    refine ⟨λ jv w'=>jv = .bool (!Bk.yO cH loops)∧St w bD [cD A8 (Flat.enc (⟨(cH).kind,(cH).gJ,(cH).name,uT,uU,(cH).n,(cH).body,(cH).fD,(cH).at_⟩:bX))] w',?_,?_⟩
    ·refine aA mV (aB (v:=.int .i64 ((cH).body)) bL hs.hb rfl (cZ (aC (λ BP=>?_) (λ BP=>?_))))
     ·refine aA fw (aB (v:=.int .i64 ((cH).kind)) bL hs.hb rfl (cS (aC (λ GG=>?_) (λ GG=>?_))))
      ·refine aA fw (aB (v:=.int .i64 ((cH).kind)) bL hs.hb rfl (cS (aC (λ sj=>?_) (λ sj=>?_))))
       ·exact ⟨vb (by unfold Bk.yO; grind),hs⟩
       ·refine aA iK (aB (v:=.int .i64 ((cH).fD)) bL hs.hb rfl (cZ (aC (λ oh=>?_) (λ oh=>?_))))
        ·refine aA fw (aB (v:=.int .i64 ((cH).kind)) bL hs.hb rfl (cS (aC (λ vk=>?_) (λ vk=>?_))))
         ·exact ⟨vb (by unfold Bk.yO; grind),hs⟩
         ·refine aA fw (aB (v:=.int .i64 ((cH).kind)) bL hs.hb rfl (aH (aC (λ KO=>?_) (λ KO=>?_))))
          ·refine aH ?_;exact ⟨vb (by unfold Bk.yO; grind),hs⟩
          ·exact ⟨vb (by unfold Bk.yO; grind),hs⟩
        ·refine aA fw (aB (v:=.int .i64 ((cH).kind)) bL hs.hb rfl (aH (aC (λ abS=>?_) (λ abS=>?_))))
         ·refine aH ?_;exact ⟨vb (by unfold Bk.yO; grind),hs⟩
         ·exact ⟨vb (by unfold Bk.yO; grind),hs⟩
      ·refine aA iK (aB (v:=.int .i64 ((cH).fD)) bL hs.hb rfl (cZ (aC (λ abT=>?_) (λ abT=>?_))))
       ·refine aA fw (aB (v:=.int .i64 ((cH).kind)) bL hs.hb rfl (cS (aC (λ abU=>?_) (λ abU=>?_))))
        ·exact ⟨vb (by unfold Bk.yO; grind),hs⟩
        ·refine aA fw (aB (v:=.int .i64 ((cH).kind)) bL hs.hb rfl (aH (aC (λ abV=>?_) (λ abV=>?_))))
         ·refine aH ?_;exact ⟨vb (by unfold Bk.yO; grind),hs⟩
         ·exact ⟨vb (by unfold Bk.yO; grind),hs⟩
       ·refine aA fw (aB (v:=.int .i64 ((cH).kind)) bL hs.hb rfl (aH (aC (λ abW=>?_) (λ abW=>?_))))
        ·refine aH ?_;exact ⟨vb (by unfold Bk.yO; grind),hs⟩
        ·exact ⟨vb (by unfold Bk.yO; grind),hs⟩
     ·refine aA iK (aB (v:=.int .i64 ((cH).fD)) bL hs.hb rfl (cZ (aC (λ abX=>?_) (λ abX=>?_))))
      ·refine aA fw (aB (v:=.int .i64 ((cH).kind)) bL hs.hb rfl (cS (aC (λ abY=>?_) (λ abY=>?_))))
       ·exact ⟨vb (by unfold Bk.yO; grind),hs⟩
       ·refine aA fw (aB (v:=.int .i64 ((cH).kind)) bL hs.hb rfl (aH (aC (λ abZ=>?_) (λ abZ=>?_))))
        ·refine aH ?_;exact ⟨vb (by unfold Bk.yO; grind),hs⟩
        ·exact ⟨vb (by unfold Bk.yO; grind),hs⟩
      ·refine aA fw (aB (v:=.int .i64 ((cH).kind)) bL hs.hb rfl (aH (aC (λ ab0=>?_) (λ ab0=>?_))))
       ·refine aH ?_;exact ⟨vb (by unfold Bk.yO; grind),hs⟩
       ·exact ⟨vb (by unfold Bk.yO; grind),hs⟩
    ·rintro _ w5 ⟨rfl,hs⟩ oN;refine aX (λ zM=>?_) (λ zM=>?_)
     ·exact ⟨congrArg (Value.int .i64) (U5 hinv (by grind)).symm,hs.drop.aF⟩
     ·have oB:Bk.yO cH loops=true:=by grind
      have avV:=lz;unfold zH at avV;refine aO (by omega) (aA mV (have hs:=hs.drew;aB (v:=.int .i64 ((cH).body)) bL hs.hb rfl (aO (by omega) ?_)));refine ⟨λ jv w'=>jv = .int .i64 (Bk.BO cH loops)∧St w bD [cD A8 (Flat.enc (⟨(cH).kind,(cH).gJ,(cH).name,uT,uU,(cH).n,(cH).body,(cH).fD,(cH).at_⟩:bX))] w',?_,?_⟩
      ·refine aA fw (aB (v:=.int .i64 ((cH).kind)) bL hs.hb rfl (aH (aC (λ U8=>?_) (λ U8=>?_))))
       ·refine aO (by omega) ?_;exact ⟨congrArg (Value.int .i64) (by unfold Bk.BO; grind),hs⟩
       ·exact ⟨congrArg (Value.int .i64) (by unfold Bk.BO; grind),hs⟩
      ·rintro _ w6 ⟨rfl,hs⟩ GF;have vh:loops≤Bk.BO cH loops∧Bk.BO cH loops≤loops+1:=by unfold Bk.BO; split <;> omega
       refine ⟨λ jv w'=>∃ n':Int,jv = .int .i64 n'∧0≤n'∧n'≤41∧gB xs loops=wb n' (gB (xs.drop (k+1+(cH.body.toNat+cH.fD.toNat))) loops)∧St w bD [cD A8 (Flat.enc (⟨(cH).kind,(cH).gJ,(cH).name,uT,uU,(cH).n,(cH).body,(cH).fD,(cH).at_⟩:bX))] w',?_,?_⟩
       ·refine ⟨λ jv w'=>jv = .bool (decide (cH.kind=11) || decide (cH.kind=12))∧St w bD [cD A8 (Flat.enc (⟨(cH).kind,(cH).gJ,(cH).name,uT,uU,(cH).n,(cH).body,(cH).fD,(cH).at_⟩:bX))] w',?_,?_⟩
        ·refine aA fw (aB (v:=.int .i64 ((cH).kind)) bL hs.hb rfl (aH (aC (λ aoy=>?_) (λ aoy=>?_))))
         ·exact ⟨vb (by grind),hs⟩
         ·refine aA fw (aB (v:=.int .i64 ((cH).kind)) bL hs.hb rfl (aH ?_));exact ⟨vb (by grind),hs⟩
        ·rintro _ w7 ⟨rfl,hs⟩ R0;refine aX (λ D1=>?_) (λ D1=>?_)
         ·refine aO (by omega) (kn j1 (hR7.ext hs.aF) (by omega) (by omega) (by omega) (λ avW ab1=>?_));have ab2:=DL.cut ab1 hR7 hD7;refine aA iK (have hs:=hs.drew;aB (v:=.int .i64 ((cH).fD)) bL hs.hb rfl (aO (by omega) (kn j1 (hR7.ext hs.aF) (by omega) (by omega) (by omega) (λ avX ab3=>?_))));have ab4:=DL.cut ab3 hR7 hD7;have hcA:(((xs).take (((k:Int)+1)+(cH).body).toNat).drop ((k:Int)+1).toNat)=(xs.drop (k+1)).take (cH).body.toNat:=DZ xs (by omega) (by omega);have hcB:(((xs).take ((((k:Int)+1)+(cH).body)+(cH).fD).toNat).drop (((k:Int)+1)+(cH).body).toNat)=((xs.drop (k+1)).drop (cH).body.toNat).take (cH).fD.toNat:=by rw [List.drop_drop]; exact DZ xs (by omega) (by omega)
          have hlA:(((xs).take (((k:Int)+1)+(cH).body).toNat).drop ((k:Int)+1).toNat).length≤xs.length - 1∧(((xs).take (((k:Int)+1)+(cH).body).toNat).drop ((k:Int)+1).toNat).length≤40:=by rw [hcA,List.length_take]; omega
          have hlB:(((xs).take ((((k:Int)+1)+(cH).body)+(cH).fD).toNat).drop (((k:Int)+1)+(cH).body).toNat).length≤xs.length - 1∧(((xs).take ((((k:Int)+1)+(cH).body)+(cH).fD).toNat).drop (((k:Int)+1)+(cH).body).toNat).length≤40:=by rw [hcB,List.length_take,List.length_drop]; omega
          refine aZ T6 hs (C231 _ _ _ (N - 1) _ (ab2.ext hs.aF) (by omega) (by omega) (by omega) (by omega)) (λ w8 he hs=>?_);refine ⟨aG bL (hs.hb.cell rfl),?_⟩;refine ey T6 (C231 _ _ _ (N - 1) _ (ab4.ext hs.aF) (by omega) (by omega) (by omega) (by omega)) ?_;rintro _ w9 ⟨rfl,he⟩;have hs:=hs.ext he;obtain ⟨A,hA⟩:∃ A,A=gB (((xs).take (((k:Int)+1)+(cH).body).toNat).drop ((k:Int)+1).toNat) (Bk.BO cH loops):=⟨_,rfl⟩;obtain ⟨B,hB⟩:∃ B,B=gB (((xs).take ((((k:Int)+1)+(cH).body)+(cH).fD).toNat).drop (((k:Int)+1)+(cH).body).toNat) (Bk.BO cH loops):=⟨_,rfl⟩;have hAb:=CC (((xs).take (((k:Int)+1)+(cH).body).toNat).drop ((k:Int)+1).toNat) (Bk.BO cH loops)
          have hBb:=CC (((xs).take ((((k:Int)+1)+(cH).body)+(cH).fD).toNat).drop (((k:Int)+1)+(cH).body).toNat) (Bk.BO cH loops);rw [← hA] at hAb;rw [← hB] at hBb;rw [← hA,← hB];have hdb:=ah3 hinv lz oB (by unfold Bk.DX; grind) A B (by rw [hA,hcA]) (by rw [hB,hcB]);refine ⟨λ jv w'=>jv = .bool (decide (A<0∨B<0))∧St w bD [cD A8 (Flat.enc (⟨(cH).kind,(cH).gJ,(cH).name,uT,uU,(cH).n,(cH).body,(cH).fD,(cH).at_⟩:bX))] w',?_,?_⟩
          ·refine aR (aC (λ ah9=>?_) (λ ah9=>?_))
           ·exact ⟨vb (by grind),hs⟩
           ·refine aR ?_;exact ⟨vb (by grind),hs⟩
          ·rintro _ pQ ⟨rfl,hs⟩ dd6;refine aX (λ Nq=>?_) (λ Nq=>?_)
           ·exact ⟨congrArg (Value.int .i64) (hdb.1 (of_decide_eq_true Nq)).symm,hs.drop.aF⟩
           ·refine aO (by omega) (aO (by omega) (UC ?_));have aoz:=hdb.2 (of_decide_eq_false Nq);rw [List.drop_drop] at aoz;exact ⟨_,rfl,by omega,by omega,aoz,hs⟩
         ·have hdn:=aov hinv lz oB (by unfold Bk.DX; grind);rw [List.drop_drop] at hdn;exact ⟨_,rfl,hn0,UP,hdn,hs⟩
       ·rintro _ sP ⟨n',rfl,avZ,av0,aoA,hs⟩ dd7;refine aA iK (aB (v:=.int .i64 ((cH).fD)) bL hs.hb rfl (aO (by omega) ?_));exact ⟨_,by omega,k+1+((cH).body.toNat+(cH).fD.toNat),n',rfl,congrArg (Value.int .i64) (by omega),rfl,by omega,avZ,av0,aoA,hs.drop⟩
 ·rw [List.drop_eq_nil_of_le (by omega),GC] at hinv;exact ⟨congrArg (Value.int .i64) (by rw [hinv]; unfold wb; omega),hs.aF⟩
termination_by N
decreasing_by all_goals omega
theorem C205 (lv:Value) (xs:List cE) (w:World) (hL:DL w lv xs) (hn:xs.length≤1048576) (hz:∀ x∈xs,SzS x):CR 205 [lv] w (λ v w'=>v = .bool (uQ xs)∧Ext w w'):=by
 have hs:=St.start w;refine aaa _ _ _ ?_;unfold S205;obtain ⟨Yl,hR8,hD8⟩:=(hL).open;have hn8:=hD8.1;refine aJ j1 (hR8.ext hs.aF) (cZ (aC (λ iQ=>?_) (λ iQ=>?_)))
 ·refine ⟨vb ?_,hs.aF⟩;unfold uQ;rw [decide_eq_false (by omega)]; rfl
 ·refine ⟨λ m x w1=>∃ k:Nat,x = .int .i64 (k:Int)∧m=xs.length - k∧k≤xs.length∧(∀ y∈xs.take k,(!q9 y)=false)∧St w bD [] w1,⟨_,0,rfl,rfl,Nat.zero_le _,by simp,hs⟩,?_⟩;rintro m _ w1 ⟨k,rfl,rfl,hk,fS,hs⟩ fy;refine aJ j1 (hR8.ext hs.aF) (aR (aC (λ gO=>?_) (λ gO=>?_)))
  ·obtain ⟨GH,kM⟩:=gx Yl (i:=((k:Int)).toNat) (by omega);obtain ⟨mz,kN⟩:=gx (xs) (i:=((k:Int)).toNat) (by omega);obtain ⟨ab5,ab6,rfl,ab7,ab8⟩:=hD8.2 _ _ _ kM kN;refine aQ j1 (hR8.ext hs.aF) (by omega) kM (λ _ tT=>aD fW (tT) (aZ ant hs (C230 mz _ _ ⟨ab5,ab6,rfl,(ab7).ext hs.aF,(ab8).ext hs.aF⟩ (hz _ (List.mem_of_getElem? kN))) (λ w2 he hs=>bY (aX (λ fu=>?_) (λ fu=>?_)))))
   ·refine ⟨vb ?_,hs.aF⟩;unfold uQ;rw [jx kN fu]; simp
   ·refine aO (by omega) ?_;exact ⟨_,by omega,k+1,rfl,rfl,by omega,eC fS kN fu,hs⟩
  ·refine aZ T6 hs (C231 _ _ _ (xs.length+1) _ (hL.ext hs.aF) (by omega) (by omega) (by omega) (by omega)) (λ w3 he hs=>?_);refine ⟨λ jv w'=>jv = .bool (decide (0≤gB xs 0∧gB xs 0≤12))∧St w bD [] w',?_,?_⟩
   ·refine dG (aC (λ iO=>?_) (λ iO=>?_))
    ·refine j4 ?_;exact ⟨vb (by grind),hs⟩
    ·exact ⟨vb (by grind),hs⟩
   ·rintro _ w4 ⟨rfl,hs⟩ jw;rw [List.take_of_length_le (by omega)] at fS;refine ⟨vb ?_,hs.aF⟩;unfold uQ;rw [iF fS,decide_eq_true (show xs.length≤40 by omega)]; rfl
theorem C156 (n:Int) (w:World):CR 156 [.int .i64 n] w (λ v w'=>v = .bool (uR n)∧Ext w w'):=by
 have hs:=St.start w;refine Zu _ _ _ ?_;unfold S156;refine ⟨λ jv w'=>jv = .bool (decide (0≤n∧n≤4000))∧w=w',?_,?_⟩
 ·refine dG (aC (λ pH=>?_) (λ pH=>?_))
  ·refine j4 ?_;exact ⟨xu (by omega),rfl⟩
  ·exact ⟨YF (by omega),rfl⟩
 ·rintro _ w1 ⟨rfl,hw⟩ fy;subst hw;exact ⟨rfl,hs.aF⟩
theorem C155 (lv:Value) (xs:List dF) (KK:Int) (w:World) (hL:eI (λ _=>True) w lv xs) (hn:xs.length≤1048576) (hz:∀ c∈xs,c.name.size≤1048576):CR 155 [lv,.int .i64 KK] w (λ v w'=>v = .bool (sQ KK xs)∧Ext w w'):=by
 have hs:=St.start w;refine Zt _ _ _ _ ?_;unfold S155;refine ⟨λ m x w1=>∃ k:Nat,x = .int .i64 (k:Int)∧m=xs.length - k∧k≤xs.length∧(∀ y∈xs.take k,nd KK y=false)∧St w bD [] w1,⟨_,0,rfl,rfl,Nat.zero_le _,by simp,hs⟩,?_⟩;rintro m _ w1 ⟨k,rfl,rfl,hk,fS,hs⟩ fy;refine aJ j0 (hL.ext hs.aF) (aR (aC (λ gu=>?_) (λ gu=>?_)))
 ·obtain ⟨jj,dD⟩:∃ xx,(xs)[((k:Int)).toNat]? = some xx:=⟨_,List.getElem?_eq_getElem (by omega)⟩;refine ⟨λ jv w'=>jv = .bool (nd KK jj)∧St w bD [] w',?_,?_⟩
  ·refine aQ j0 (hL.ext hs.aF) (by omega) dD (λ _ iN=>bP (jj).name pz iN rfl rfl (λ _ qX=>aD j5 (qX) (aZ tx hs (C161 _ _ (hz _ (List.mem_of_getElem? dD))) (λ w2 he hs=>bY (aX (λ gd=>?_) (λ gd=>?_))))))
   ·exact ⟨vb (by unfold nd; grind),hs⟩
   ·refine aQ j0 (hL.ext hs.aF) (by omega) dD (λ _ KP=>bP (jj).n zq KP rfl rfl (λ _ pI=>aD bL (pI) (aR (aC (λ fR=>?_) (λ fR=>?_)))))
    ·exact ⟨vb (by unfold nd; grind),hs⟩
    ·refine aQ j0 (hL.ext hs.aF) (by omega) dD (λ _ od=>bP (jj).n zq od rfl rfl (λ _ oD=>aD bL (oD) (cZ (aC (λ iC=>?_) (λ iC=>?_)))))
     ·exact ⟨vb (by unfold nd; grind),hs⟩
     ·refine aQ j0 (hL.ext hs.aF) (by omega) dD (λ _ tY=>bP (jj).at_ Dp tY rfl rfl (λ _ UY=>aD bL (UY) (aZ Pj hs (C156 _ _) (λ w3 he hs=>bY ?_))));exact ⟨vb (by unfold nd; grind),hs⟩
  ·rintro _ w4 ⟨rfl,hs⟩ jw;refine aX (λ pJ=>?_) (λ pJ=>?_)
   ·refine ⟨vb ?_,hs.aF⟩;unfold sQ;rw [jx dD pJ]; rfl
   ·refine aO (by omega) ?_;exact ⟨_,by omega,k+1,rfl,rfl,by omega,eC fS dD pJ,hs⟩
 ·rw [List.take_of_length_le (by omega)] at fS;refine ⟨vb ?_,hs.aF⟩;unfold sQ;rw [iF fS]; rfl
theorem C157 (lv:Value) (xs:List dQ) (nb:Bool) (w:World) (hL:DL w lv xs) (hn:xs.length≤1048576) (hz:∀ t∈xs,SzT t∧t.aK.length≤500∧t.body.length≤500):CR 157 [lv,.bool nb] w (λ v w'=>v = .bool (og nb xs)∧Ext w w'):=by
 have hs:=St.start w;refine Zv _ _ _ _ ?_;unfold S157;refine ⟨λ m x w1=>∃ k:Nat,x = .int .i64 (k:Int)∧m=xs.length - k∧k≤xs.length∧(∀ y∈xs.take k,wc nb y=false)∧St w bD [] w1,⟨_,0,rfl,rfl,Nat.zero_le _,by simp,hs⟩,?_⟩;rintro m _ w1 ⟨k,rfl,rfl,hk,fS,hs⟩ fy;obtain ⟨Ym,R2,hD9⟩:=(hL).open;have hn9:=hD9.1;refine aJ iJ (R2.ext hs.aF) (aR (aC (λ fO=>?_) (λ fO=>?_)))
 ·obtain ⟨GH,kM⟩:∃ xx,Ym[((k:Int)).toNat]? = some xx:=⟨_,List.getElem?_eq_getElem (by omega)⟩;obtain ⟨mz,kN⟩:∃ xx,(xs)[((k:Int)).toNat]? = some xx:=⟨_,List.getElem?_eq_getElem (by omega)⟩;obtain ⟨D2,D3,rfl,Nr,D4⟩:=hD9.2 _ _ _ kM kN;have KQ:=hz _ (List.mem_of_getElem? kN);refine ⟨λ jv w'=>jv = .bool (uS nb mz)∧St w bD [] w',?_,?_⟩
  ·refine aQ iJ (R2.ext hs.aF) (by omega) kM (λ _ tT=>bP (mz).name zo tT rfl rfl (λ _ KE=>aD j5 (KE) (aZ tx hs (C161 _ _ KQ.1.1) (λ w2 he hs=>po J6 (aX (λ jr=>?_) (λ jr=>?_))))))
   ·exact ⟨vb (by unfold uS; grind),hs⟩
   ·refine bY (aX (λ iO=>?_) (λ iO=>?_))
    ·refine aQ iJ (R2.ext hs.aF) (by omega) kM (λ _ v9=>bP (mz).name zo v9 rfl rfl (λ _ wg=>aD j5 (wg) (oL (aC (λ nA=>?_) (λ nA=>?_)))))
     ·exact ⟨vb (by unfold uS; grind),hs⟩
     ·refine aQ iJ (R2.ext hs.aF) (by omega) kM (λ _ tV=>bP (mz).at_ zp tV rfl rfl (λ _ zN=>aD bL (zN) (aZ Pj hs (C156 _ _) (λ w3 he hs=>bY (aX (λ oC=>?_) (λ oC=>?_))))))
      ·exact ⟨vb (by unfold uS; grind),hs⟩
      ·refine aQ iJ (R2.ext hs.aF) (by omega) kM (λ _ KR=>bP D3 qt KR rfl rfl (λ _ KS=>aD sN (KS) (aZ aew hs (C205 _ _ _ (D4.ext hs.aF) (by omega) KQ.1.2.2) (λ w4 he hs=>bY ?_))));exact ⟨vb (by unfold uS; grind),hs⟩
    ·refine aQ iJ (R2.ext hs.aF) (by omega) kM (λ _ ab9=>bP (mz).at_ zp ab9 rfl rfl (λ _ aca=>aD bL (aca) (aZ Pj hs (C156 _ _) (λ w5 he hs=>bY (aX (λ acb=>?_) (λ acb=>?_))))))
     ·exact ⟨vb (by unfold uS; grind),hs⟩
     ·refine aQ iJ (R2.ext hs.aF) (by omega) kM (λ _ acd=>bP D3 qt acd rfl rfl (λ _ ace=>aD sN (ace) (aZ aew hs (C205 _ _ _ (D4.ext hs.aF) (by omega) KQ.1.2.2) (λ w6 he hs=>bY ?_))));exact ⟨vb (by unfold uS; grind),hs⟩
  ·rintro _ w7 ⟨rfl,hs⟩ jw;refine aX (λ oe=>?_) (λ oe=>?_)
   ·refine ⟨vb ?_,hs.aF⟩;unfold og;rw [jx kN (show wc nb mz=true by unfold wc; rw [oe]; rfl)]; rfl
   ·refine ⟨λ m x w1=>∃ k2:Nat,x = .int .i64 (k2:Int)∧m=mz.aK.length - k2∧k2≤mz.aK.length∧(∀ s∈mz.aK.take k2,(!jY s)=false)∧St w bD [] w1,⟨_,0,rfl,rfl,Nat.zero_le _,by simp,hs⟩,?_⟩;rintro m _ w8 ⟨k2,rfl,rfl,Jn,D5,hs⟩ oN;refine aQ iJ (R2.ext hs.aF) (by omega) kM (λ _ U3=>bP D2 jn U3 rfl rfl (λ _ DK=>aD pw (DK) ?_));have aoE:=DL.flat (Nr);refine aJ mS (aoE.ext hs.aF) (aR (aC (λ tZ=>?_) (λ tZ=>?_)))
    ·refine aQ iJ (R2.ext hs.aF) (by omega) kM (λ _ D6=>bP D2 jn D6 rfl rfl (λ _ D7=>aD pw (D7) ?_));obtain ⟨e_x67,It⟩:=gx ((mz).aK) (i:=((k2:Int)).toNat) (by omega);refine aQ mS (aoE.ext hs.aF) (by omega) It (λ _ aoF=>aD j5 (aoF) (aZ tx hs (C161 _ _ (KQ.1.2.1 _ (List.mem_of_getElem? It))) (λ w9 he hs=>bY (aX (λ D8=>?_) (λ D8=>?_)))))
     ·refine ⟨vb ?_,hs.aF⟩;unfold og;rw [jx kN (show wc nb mz=true by unfold wc; rw [jx It D8]; simp)]; rfl
     ·refine aO (by omega) ?_;exact ⟨_,by omega,k2+1,rfl,rfl,by omega,eC D5 It D8,hs⟩
    ·refine aO (by omega) ?_;exact ⟨_,by omega,k+1,rfl,rfl,by omega,eC fS kN (by unfold wc; rw [oe,iF (by rw [List.take_of_length_le (by omega)] at D5; exact D5)]; rfl),hs⟩
 ·rw [List.take_of_length_le (by omega)] at fS;refine ⟨vb ?_,hs.aF⟩;unfold og;rw [iF fS]; rfl
end Go.Proofs.YtnjcingfdhjfkaaGreat
