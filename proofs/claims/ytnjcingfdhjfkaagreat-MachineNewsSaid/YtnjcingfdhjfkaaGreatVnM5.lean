/-
  Part 5.
-/
import Derived.Test.YtnjcingfdhjfkaaGreatVnM4
set_option linter.all false
set_option maxHeartbeats 8000000
set_option maxRecDepth 100000
namespace Go.Fw
section
variable {P:Program} {Fr:m4} {ρ:Rn} {h h':Hp} {w:World} {v:V} {n n':Nat} {e:En} {e':Env}
theorem RT.app {t:Tr V} {xs ys:List Value} {l:V} (ht:RT ρ t 0 xs) (hl:gE ρ l ys):RT ρ (qa l xs.length t) 0 (xs++ys):=by
 intro j x hj
 obtain ⟨a,c⟩:=uI hl xs.length t (0+j)
 by_cases h1:j<xs.length
 ·rw [a (.inl (by omega))]
  rw [List.getElem?_append_left h1] at hj
  exact ht j x hj
 rw [List.getElem?_append_right (by omega)] at hj
 exact c _ x hj (by omega)
theorem EW {xs ys:List Value} (h1:∀ z∈xs,eK z=true) (h2:∀ z∈ys,eK z=true):∀ z∈xs++ys,eK z=true:=λ z hz=>(List.mem_append.1 hz).elim (h1 z) (h2 z)
theorem RH.M8 {t:Tr V} {cs rest:List Value} {T:TypeId} {c es m:Nat} {w':World} (hR:RH P Fr ρ h w) (hn:dH h n = .z) (ht:RT ρ t 0 cs) (lX:∀ z∈cs,eK z=true) (hm:m=cs.length)
  (hc:c * es<=(cs++rest).length) (hx:0<es->m<=c * es) (hw:w'.heap=w.heap.push (.cells (List.toArray (cs++rest)) T)) (hst:Sm w w':=by exact ⟨rfl,rfl,rfl⟩) :
  Le ρ (ext ρ n ⟨w.heap.size,0,c,es⟩)/\RH P Fr (ext ρ n ⟨w.heap.size,0,c,es⟩) (ew h (.c m es t) n) w':=by
 have le:=oW (q:=⟨w.heap.size,0,c,es⟩) (hR.fresh n hn)
 subst hm
 refine ⟨le,hR.new (hst:=hst) hn rfl hw ⟨cs++rest,T,(0,0),rfl,λ j _=>by omega,rfl,by show 0+c * es<=_; omega,hx,by show 0+cs.length<=_; rw [List.length_append]; omega,λ i hi=>?_⟩⟩
 have hg:cs[i]? = some cs[i]:=List.getElem?_eq_getElem hi
 refine ⟨cs[i],by show (cs++rest)[0+i]? = _; rw [Nat.zero_add,List.getElem?_append_left hi,hg],?_,lX _ (List.getElem_mem hi)⟩
 have:=ht i _ hg
 rw [Nat.zero_add] at this
 exact this.mono le
theorem RH.sts {b m es o:Nat} {t:Tr V} {l:V} {vs:List Value} (hR:RH P Fr ρ h w) (hb:dH h b = .c m es t) (hl:gE ρ l vs) (lX:∀ z∈vs,eK z=true) (hm:o+vs.length<=m) :
  ∃ q w',ρ b=some q/\(storeCells ⟨q.k,q.b+o,none⟩ vs 0).run P w = .ok () w'/\RH P Fr ρ (ew h (.c m es (qa l o t)) b) w':=by
 obtain ⟨q,cs,ty,fz,g1,g2,g3,g4,g5,g6,g7,g8⟩:=hR.cells hb
 obtain ⟨w',k1,k2,k3,k4⟩:=EV (P:=P) vs (q.b+o) 0 cs w g2 g3 (by omega) lX
 rw [Nat.add_zero] at k2
 refine ⟨q,w',g1,k1,hR.sJ (Dg hb) g1 k2 ⟨_,ty,fz,rfl,λ j hj=>g3 j (by rwa [gg] at hj),g4,by rw [gg]; exact g5,g6,by rw [gg]; exact g7,Dh g7 g8 hl lX hm⟩ k3 (hst:=k4)⟩
theorem EX {q:Pl} {y:Value} {u:V} {hh:Hp} {w':World} (M9:Le ρ (ext ρ n q)/\RH P Fr (ext ρ n q) hh w') (hv:RV (ext ρ n q) u y):jg P Fr ρ u hh y w':=⟨_,M9.1,M9.2,hv⟩
theorem PV {q:V} {cs:List Value} {T:TypeId} {m:Sem Value} (hR:RH P Fr ρ h w) (hq:gE ρ q cs) (lX:∀ z∈cs,eK z=true) (hm:m.run P w = .ok (.pointer (some ⟨w.heap.size,0,none⟩)) (push w (.cells (List.toArray cs) T)))
  (hh:ER h n q = .ok v h' n'):ji P m w (jg P Fr ρ v h'):=by
 obtain ⟨hn,hh⟩:=kC hh
 obtain ⟨rfl,rfl,_⟩:=bX hh
 refine ⟨_,_,hm,EX (hR.M8 (rest:=[]) (c:=0) hn (RT.PO hq .lf 0) lX hq.len (by omega) (λ hx=>by omega) (by rw [List.append_nil]; rfl)) ⟨_,je _ _ _,rfl⟩⟩
theorem Y6 {q:Oq} {T:TypeId} {x:Value} (hR:RH P Fr ρ h w) (hx:RV ρ (dR e q) x) (hh:Pp e h n q = .ok v h' n'):ji P (Instr.box T x) w (jg P Fr ρ v h'):=by
 obtain ⟨l,hh,hl,lX⟩:=wy hx hh
 exact PV hR hl lX (by rw [ue]) hh
theorem Na {T:TypeId} {z:V} (hz:lJ P T=some z) (hR:RH P Fr ρ h w) (hh:ER h n z = .ok v h' n'):ji P (Instr.alloc T true (.tuple #[])) w (jg P Fr ρ v h'):=by
 unfold lJ at hz
 split at hz
 ·rename_i zv nP
  refine PV (cs:=zv.cells.toList) (T:=T) hR (nB hz) (oU hz) ?_ hh
  unfold dX at nP
  cases hi:P.info? T with
  | none=>rw [hi] at nP; cases nP
  | some inf=>
   rw [hi] at nP
   simp only [Option.map_some,Option.some.injEq] at nP
   have h1:pr P (zeroValue T)=some zv:=by unfold zeroValue; rw [aU,ib hi]; simp only [Option.bind_some,nP]; rfl
   unfold Instr.alloc
   rw [aY (bZ h1 w),Array.toArray_toList]
   rfl
 cases hz
theorem adX {a q:Oq} {T:TypeId} {x y:Value} {ag:Bool} {k:Nat} (ht:bY P T=some (ag,k)) (hR:RH P Fr ρ h w) (hx:RV ρ (dR e a) x) (hy:RV ρ (dR e q) y) (hh:YF e h n k a q = .ok v h' n') :
  Gw P (Instr.storeAt T x y) w λ w'=>jg P Fr ρ v h' undef w':=by
 obtain ⟨b,o,e1,hh⟩:=M6 hh
 obtain ⟨m,es,t,hb,hh⟩:=iR hh
 obtain ⟨l,hh,hl,lX⟩:=wy hy hh
 obtain ⟨hc,hh⟩:=cP hh
 obtain ⟨c1,c2⟩:=ed hc
 have c1:=eW c1
 have c2:o+k<=m:=dV c2
 obtain ⟨rfl,rfl,_⟩:=bX hh
 have hlen:=hl.len
 have hm:o+y.cells.toList.length<=m:=by rw [<- hlen,c1]; exact c2
 obtain ⟨qq,w',g1,g2,g3⟩:=hR.sts hb hl lX hm
 rw [e1] at hx
 obtain ⟨q',h1,rfl⟩:=hx
 rw [g1] at h1; cases h1
 refine ⟨w',?_,ρ,Le.refl _,g3,jQ _⟩
 show (storeVar T ⟨qq.k,qq.b+o,none⟩ y).run P w=_
 unfold storeVar
 rw [aY (bZ (ej ht).2 w),if_neg (by rw [<- Array.length_toList]; omega)]
 exact g2
def pt (place:Nat->Option (Nat × Nat)):PL->List (Nat × Operand)->Prop
 | .nil,ps=>ps=[]
 | .cons o m q l,ps=>∃ i x r,ps=(i,x)::r/\place i=some (o,m)/\oq x=some q/\pt place l r
theorem tf {place:Nat->Option (Nat × Nat)} (hE:RE ρ e e'):∀ {ps:PL} {parts:List (Nat × Operand)} {t:Tr V} {m:Nat} {k:Tr V->OR},pt place ps parts->EO e ps m t k = .ok v h' n'->
  ∃ t',k t' = .ok v h' n'/\∀ cs:List Value,RT ρ t 0 cs->cs.length=m->(∀ z∈cs,eK z=true)->
   ∃ cs',Instr.fill place (List.toArray cs) (parts.map λ q=>(q.1,ev e' q.2))=some (List.toArray cs')/\RT ρ t' 0 cs'/\cs'.length=m/\∀ z∈cs',eK z=true:=by
 intro ps
 induction ps with
 | nil=>
  intro parts t m k hp hh
  obtain rfl:parts=[]:=hp
  exact ⟨t,hh,λ cs h1 h2 h3=>⟨cs,rfl,h1,h2,h3⟩⟩
 | cons o k q l ih=>
  intro parts t m kk hp hh
  obtain ⟨i,x,r,rfl,pz,hq,hr⟩:=hp
  obtain ⟨lv,hh,hl,lX⟩:=wy (bE hE hq) (show (dR e q).cells .no (λ lv=>dM (dI (Nat.beq (n7 lv) k) (Nat.ble (Nat.add o k) m)) (EO e l m (qa lv o t) kk) .no) = .ok v h' n' from hh)
  obtain ⟨hc,hh⟩:=cP hh
  obtain ⟨c1,c2⟩:=ed hc
  have c1:=eW c1
  have c2:o+k<=m:=dV c2
  obtain ⟨t',h1,h2⟩:=ih hr hh
  refine ⟨t',h1,λ cs k1 k2 k3=>?_⟩
  have hlen:=hl.len
  rw [Array.length_toList] at hlen
  have Ug:RT ρ (qa lv o t) 0 (eS cs o (ev e' x).cells.toList):=by
   intro j y hj
   obtain ⟨a,c⟩:=uI hl o t (0+j)
   obtain ⟨a',c'⟩:=nD (ev e' x).cells.toList cs o j (by rw [Array.length_toList]; omega)
   by_cases hi:j<o\/o+(ev e' x).cells.toList.length<=j
   ·rw [a (by omega)]
    rw [a' hi] at hj
    exact k1 j y hj
   ·have:=c' (j - o) (by omega)
    rw [show o+(j - o)=j from by omega] at this
    rw [this] at hj
    exact c _ y hj (by omega)
  obtain ⟨cs',g1,g2,g3,g4⟩:=h2 _ Ug (by rw [gg]; exact k2) (λ z hz=>by
   obtain ⟨j,hj⟩:=List.getElem?_of_mem hz
   obtain ⟨a',c'⟩:=nD (ev e' x).cells.toList cs o j (by rw [Array.length_toList]; omega)
   by_cases hi:j<o\/o+(ev e' x).cells.toList.length<=j
   ·rw [a' hi] at hj; exact k3 z (List.mem_of_getElem? hj)
   ·have:=c' (j - o) (by omega)
    rw [show o+(j - o)=j from by omega] at this
    rw [this] at hj
    exact lX z (List.mem_of_getElem? hj))
  refine ⟨cs',?_,g2,g3,g4⟩
  have step:Instr.fill place (List.toArray cs) ((i,ev e' x)::r.map λ q=>(q.1,ev e' q.2))=Instr.fill place (List.toArray (eS cs o (ev e' x).cells.toList)) (r.map λ q=>(q.1,ev e' q.2)):=by
   conv=>lhs; unfold Instr.fill
   simp only [pz]
   rw [if_neg]
   ·congr 1
    apply Array.ext'
    rw [<- Array.foldl_toList,Array.toList_zipIdx]
    exact tv o (ev e' x).cells.toList 0 (List.toArray cs)
   ·simp only [List.size_toArray,Bool.or_eq_true,decide_eq_true_eq]
    omega
  exact step.trans g1
theorem yh {es:Nat}:∀ {parts:List (Nat × Operand)} {l:PL},qA es parts=some l->pt (λ i=>some (i * es,es)) l parts:=by
 intro parts
 induction parts with
 | nil=>intro l hl; cases hl; exact (show pt _ .nil [] from rfl)
 | cons p r ih=>
  intro l hl
  obtain ⟨i,x⟩:=p
  unfold qA at hl
  split at hl
  ·rename_i q l' h1 h2; cases hl; exact ⟨i,x,r,rfl,rfl,h1,ih h2⟩
  ·cases hl
theorem F7 {t:TypeId} {fs:Array Field} (hu:P.underlying t=some (.struct fs)):∀ {parts:List (Nat × Operand)} {l:PL},wm P t parts=some l->
  pt (λ i=>(fs.map λ f=>(f.offset,lW P f.type))[i]?) l parts:=by
 intro parts
 induction parts with
 | nil=>intro l hl; cases hl; exact (show pt _ .nil [] from rfl)
 | cons p r ih=>
  intro l hl
  obtain ⟨i,x⟩:=p
  unfold wm at hl
  rw [hu] at hl
  dsimp only at hl
  split at hl
  ·rename_i f q l' h0 h1 h2; cases hl; exact ⟨i,x,r,rfl,by show (Array.map _ fs)[i]? = _; rw [Array.getElem?_map,h0]; rfl,h1,ih h2⟩
  ·cases hl
theorem Nb {α β:Type} (f:α->Sem β) (g:α->β):∀ l:List α,(∀ x∈l,pr P (f x)=some (g x))->pr P (l.mapM f)=some (l.map g):=by
 intro l
 induction l with
 | nil=>intro _; rfl
 | cons x r ih=>
  intro hl
  rw [List.mapM_cons,aU,hl x (by simp)]
  simp only [Option.bind_some]
  rw [aU,ih λ y hy=>hl y (by simp [hy])]
  rfl
theorem pv {T:TypeId} {z:V} (hz:lJ P T=some z):∃ zv,dX P T=some (some zv)/\pr P (zeroValue T)=some zv/\gE ρ z zv.cells.toList/\(∀ x∈zv.cells.toList,eK x=true):=by
 unfold lJ at hz
 split at hz
 ·rename_i zv nP
  refine ⟨zv,nP,?_,nB hz,oU hz⟩
  unfold dX at nP
  cases hi:P.info? T with
  | none=>rw [hi] at nP; cases nP
  | some inf=>
   rw [hi] at nP
   simp only [Option.map_some,Option.some.injEq] at nP
   unfold zeroValue; rw [aU,ib hi]; simp only [Option.bind_some,nP]; rfl
 cases hz
theorem J1 {t:TypeId} {fs:Array Field} {z:V} {l:PL} {ps:Array (Nat × Operand)} (hu:P.underlying t=some (.struct fs)) (hz:lJ P t=some z) (hl:wm P t ps.toList=some l)
  (hf:fs.toList.all (λ f=>(P.info? f.type).isSome)=true) (hR:RH P Fr ρ h w) (hE:RE ρ e e') (hh:zx e h n z l = .ok v h' n') :
  dW P (Instr.build t (ps.toList.map λ q=>(q.1,ev e' q.2)).toArray) λ y=>jg P Fr ρ v h' y w:=by
 obtain ⟨zv,_,z1,z2,z3⟩:=pv (ρ:=ρ) hz
 obtain ⟨t',h1,h2⟩:=tf hE (F7 hu hl) hh
 obtain ⟨cs',g1,g2,g3,g4⟩:=h2 zv.cells.toList (RT.PO z2 .lf 0) z2.len.symm z3
 obtain ⟨rfl,rfl,_⟩:=bX h1
 refine iS (y:=.agg (List.toArray cs')) ?_ hR ⟨cs',g2.rd g3,g4,rfl⟩
 unfold Instr.build
 rw [aU,z1]
 simp only [Option.bind_some]
 rw [aU,aS hu]
 simp only [Option.bind_some]
 have hm:pr P (fs.mapM λ f=>(do pure (f.offset,<- sizeOf f.type):Sem (Nat × Nat)))=some (fs.map λ f=>(f.offset,lW P f.type)):=by
  have:=Nb (P:=P) (λ f:Field=>(do pure (f.offset,<- sizeOf f.type):Sem (Nat × Nat))) (λ f=>(f.offset,lW P f.type)) fs.toList (λ f hfm=>by
   have hs:=List.all_eq_true.1 hf f hfm
   cases hi:P.info? f.type with
   | none=>rw [hi] at hs; cases hs
   | some inf=>
    rw [aU,fC hi]
    show some _=_
    unfold lW; rw [hi]; rfl)
  obtain ⟨l0⟩:=fs
  show pr P ((List.toArray l0).mapM _)=_
  rw [List.mapM_toArray,<- bind_pure_comp,aU,this]
  simp [dF]
 rw [aU,hm]
 simp only [Option.bind_some]
 rw [show Instr.fill _ zv.cells _=some (List.toArray cs') from by rw [<- g1,Array.toArray_toList]]
 rfl
theorem J2 {t k E:Nat} {z:V} {l:PL} {ps:Array (Nat × Operand)} (hu:P.underlying t=some (.array k E)) (hz:lJ P t=some z) (hl:qA (lW P E) ps.toList=some l)
  (hf:(P.info? E).isSome=true) (hR:RH P Fr ρ h w) (hE:RE ρ e e') (hh:zx e h n z l = .ok v h' n') :
  dW P (Instr.build t (ps.toList.map λ q=>(q.1,ev e' q.2)).toArray) λ y=>jg P Fr ρ v h' y w:=by
 obtain ⟨zv,_,z1,z2,z3⟩:=pv (ρ:=ρ) hz
 obtain ⟨t',h1,h2⟩:=tf hE (yh hl) hh
 obtain ⟨cs',g1,g2,g3,g4⟩:=h2 zv.cells.toList (RT.PO z2 .lf 0) z2.len.symm z3
 obtain ⟨rfl,rfl,_⟩:=bX h1
 refine iS (y:=.agg (List.toArray cs')) ?_ hR ⟨cs',g2.rd g3,g4,rfl⟩
 have hs:pr P (sizeOf E)=some (lW P E):=by
  cases hi:P.info? E with
  | none=>rw [hi] at hf; cases hf
  | some inf=>rw [fC hi]; unfold lW; rw [hi]; rfl
 unfold Instr.build
 rw [aU,z1]
 simp only [Option.bind_some]
 rw [aU,aS hu]
 simp only [Option.bind_some]
 rw [aU,hs]
 simp only [Option.bind_some]
 rw [show Instr.fill _ zv.cells _=some (List.toArray cs') from by rw [<- g1,Array.toArray_toList]]
 rfl
theorem F8 {zs:List Value}:∀ (k i:Nat),i<k * zs.length->(List.replicate k zs).flatten[i]? = zs[i % zs.length]?:=by
 intro k
 induction k with
 | zero=>intro i hi; omega
 | succ k ih=>
  intro i hi
  rw [List.replicate_succ,List.flatten_cons]
  by_cases h1:i<zs.length
  ·rw [List.getElem?_append_left h1,Nat.mod_eq_of_lt h1]
  ·rw [Nat.succ_mul] at hi
   rw [List.getElem?_append_right (by omega),ih _ (by omega),<- Nat.mod_eq_sub_mod (by omega)]
theorem tg (zs:List Value) (k:Nat) (hz:0<zs.length):(madeCells (List.toArray zs) (k * zs.length)).toList=(List.replicate k zs).flatten:=by
 apply List.ext_getElem?
 intro i
 by_cases hi:i<k * zs.length
 ·rw [F8 k i hi]
  have h2:i % zs.length<zs.length:=Nat.mod_lt _ hz
  unfold madeCells
  simp [hi,h2]
 rw [List.getElem?_eq_none (by rw [Array.length_toList,size_madeCells]; omega),List.getElem?_eq_none]
 simp; omega
theorem wA {zs:List Value} {k:Nat} (hz:∀ z∈zs,eK z=true):∀ z∈(List.replicate k zs).flatten,eK z=true:=λ z h=>by
 obtain ⟨l,h1,h2⟩:=List.mem_flatten.1 h
 rw [(List.mem_replicate.1 h1).2] at h2
 exact hz z h2
theorem Y7 {t E es by' k:Nat} {z:V} {l:PL} {ps:Array (Nat × Operand)} (hf:dJ P t=some (E,es,by',some es)) (hz:lJ P E=some z) (hl:qA es ps.toList=some l) (h1:1<=es) (hk:k * es<=16777216)
  (hR:RH P Fr ρ h w) (hE:RE ρ e e') (hh:Pq e h n es k (xe z k) l = .ok v h' n') :
  ji P (Instr.buildSlice t k (ps.toList.map λ q=>(q.1,ev e' q.2)).toArray) w (jg P Fr ρ v h'):=by
 obtain ⟨hu,inf,hi,iU,uX,yB⟩:=dS hf
 obtain ⟨zv,nP,z1,z2,z3⟩:=pv (ρ:=ρ) hz
 have zR:zv.cells.toList.length=es:=by
  unfold dX at nP
  rw [hi] at nP
  simp only [Option.map_some,Option.some.injEq] at nP
  rw [nP] at yB
  simpa using yB
 obtain ⟨t',g0,g1⟩:=tf hE (yh hl) hh
 have Y8:gE ρ (xe z k) (List.replicate k zv.cells.toList).flatten:=z2.rep k
 obtain ⟨cs',k1,k2,k3,k4⟩:=g1 _ (RT.PO Y8 .lf 0) Y8.len.symm (wA z3)
 obtain ⟨hn,g0⟩:=kC g0
 obtain ⟨rfl,rfl,_⟩:=bX g0
 have hlen:cs'.length=k * es:=by rw [k3,Y8.len]; simp [zR]
 have hm:=hR.M8 (t:=t') (cs:=cs') (rest:=[]) (T:=E) (c:=k) (es:=es) (w':=push w (.cells (List.toArray cs') E)) hn k2 k4 (m:=n7 (xe z k)) k3.symm (by rw [List.append_nil,hlen]; exact Nat.le_refl _) (λ _=>by rw [<- k3,hlen]; exact Nat.le_refl _) (by rw [List.append_nil]; rfl)
 refine ⟨.slice (some ⟨w.heap.size,0,none⟩) k k,push w (.cells (List.toArray cs') E),?_,EX hm ⟨_,je _ _ _,Nat.le_refl _,rfl⟩⟩
 unfold Instr.buildSlice
 rw [aY (bZ (aS hu) w)]
 dsimp only
 rw [aY (bZ (fC hi) w),iU,if_neg (by omega)]
 by_cases h0:k * es=0
 ·simp only [if_pos h0]
  have hk0:k=0:=by
   rcases Nat.mul_eq_zero.1 h0 with h | h
   ·exact h
   ·omega
  rw [aY (run_pure _ w)]
  rw [show Instr.fill _ ((Array.range (k * es)).map _) _=some (List.toArray cs') from by rw [<- k1]; subst hk0; rw [show Array.range (0 * es) = #[] from by rw [Nat.zero_mul]; rfl,Array.map_empty]; rfl]
  rfl
 simp only [if_neg h0]
 rw [aY (bZ z1 w),aY (run_pure _ w)]
 have e1:((Array.range (k * es)).map (zv.cells[· % zv.cells.size]!))=List.toArray (List.replicate k zv.cells.toList).flatten:=by
  have:=tg zv.cells.toList k (by omega)
  rw [zR,Array.toArray_toList] at this
  rw [<- this,Array.toArray_toList]; rfl
 rw [show Instr.fill _ ((Array.range (k * es)).map (zv.cells[· % zv.cells.size]!)) _=some (List.toArray cs') from by rw [e1,<- k1]]
 rfl
theorem Y9 {t E es by':Nat} {z:V} {lq cq:Oq} {x y:Value} (hf:dJ P t=some (E,es,by',some es)) (hz:lJ P E=some z) (h1:1<=es) (Q1:by'<=8192) (hR:RH P Fr ρ h w) (hx:RV ρ (dR e lq) x) (hy:RV ρ (dR e cq) y)
  (hh:PC e h n es z lq cq = .ok v h' n'):ji P (Instr.makeSlice t x y) w (jg P Fr ρ v h'):=by
 obtain ⟨hu,inf,hi,iU,uX,yB⟩:=dS hf
 obtain ⟨zv,nP,z1,z2,z3⟩:=pv (ρ:=ρ) hz
 have adY:inf.zero=some zv:=by
  unfold dX at nP
  rw [hi] at nP
  simpa using nP
 obtain ⟨t1,j,e1,hh⟩:=nE hh
 obtain ⟨t2,k,e2,hh⟩:=nE hh
 rw [e1] at hx
 rw [e2] at hy
 obtain rfl:x = .int t1 (j:Int):=hx
 obtain rfl:y = .int t2 (k:Int):=hy
 obtain ⟨hc,hh⟩:=cP hh
 obtain ⟨c1,hc⟩:=ed hc
 obtain ⟨c2,c3⟩:=ed hc
 have c1:=eW c1
 have c2:=dV c2
 have c3:=dV c3
 obtain ⟨hn,hh⟩:=kC hh
 obtain ⟨rfl,rfl,_⟩:=bX hh
 have zR:zv.cells.toList.length=es:=by rw [<- z2.len]; exact c1
 have hb:(inf.bytes:Int) * (k:Int)<=281474976710656:=by
  have h3:inf.bytes * k<=8192 * 1073741824:=Nat.mul_le_mul (by omega) c3
  have:((inf.bytes * k:Nat):Int)<=281474976710656:=by omega
  rwa [Int.natCast_mul] at this
 have hr:=run_make (P:=P) w t E inf zv hu hi adY t1 t2 (j:Int) (k:Int) (by omega) (by omega) hb (by omega)
 rw [iU] at hr
 simp only [Int.toNat_natCast] at hr
 have Y8:gE ρ (xe z k) (List.replicate k zv.cells.toList).flatten:=z2.rep k
 have hlen:(List.replicate k zv.cells.toList).flatten.length=k * es:=by simp [zR]
 have e3:madeCells zv.cells (k * es)=List.toArray (List.replicate k zv.cells.toList).flatten:=by
  have:=tg zv.cells.toList k (by omega)
  rw [zR,Array.toArray_toList] at this
  rw [<- this,Array.toArray_toList]
 rw [e3] at hr
 refine ⟨_,_,hr,EX (hR.M8 (rest:=[]) (c:=k) hn (RT.PO Y8 .lf 0) (wA z3) hlen.symm (by rw [List.append_nil,hlen]; exact Nat.le_refl _) (λ _=>Nat.le_refl _) (by rw [List.append_nil]; rfl)) ⟨_,je _ _ _,c2,rfl⟩⟩
end
section
variable {P:Program} {Fr:m4} {ρ:Rn} {h h':Hp} {w:World} {v:V} {n n':Nat} {e:En} {e':Env}
theorem J3 {x:Value} (hx:eK x=true):x.oneCell'=true:=by cases x <;> first | rfl | cases hx
theorem tQ (c:Nat):∀ m j,gE ρ (wh c m j) ((List.range' j m).map λ i=>Value.int .u8 ((jd c i).toNat:Int)):=by
 intro m
 induction m with
 | zero=>intro j; exact (show gE ρ .e [] from rfl)
 | succ m ih=>
  intro j
  refine ⟨_,_,rfl,?_,ih (Nat.succ j)⟩
  show Value.int .u8 _=Value.int .u8 ((c >>> (8 * j) % 256:Nat):Int)
  rw [eQ,Nat.shiftRight_eq_div_pow]
theorem qd (c l:Nat):byteCells (strOf c l)=(List.range' 0 l).map λ i=>Value.int .u8 ((jd c i).toNat:Int):=by
 show (wN (strOf c l)).map _=_
 rw [gH,List.map_map,List.range_eq_range']
 rfl
theorem EY {b o l es:Nat} {k:V->Nat->OR} {q:Pl} (hR:RH P Fr ρ h w) (hb:ρ b=some q) (hh:Dc h b o l es k = .ok v h' n') :
  ∃ u news,k u l = .ok v h' n'/\gE ρ u news/\(∀ z∈news,eK z=true)/\news.length=l * es/\∀ j x,news[j]? = some x->Cell w q.k (q.b+o+j) x:=by
 obtain ⟨m,pI,t,g,hh⟩:=iR hh
 obtain ⟨hle,hh⟩:=cP hh
 obtain ⟨q',cs,ty,fz,g1,g2,_,_,_,_,g7,g8⟩:=hR.cells g
 rw [hb] at g1; cases g1
 obtain ⟨xs,k1,_,k3,k4,k5⟩:=zA (w:=w) g2 g7 g8 (show o+l * es<=m from dV hle)
 exact ⟨_,xs,hh,k3.rd k1,k4,k1,k5⟩
theorem Tm {es:Nat} {y:V} {x:Value} {k:V->Nat->OR} {tx:TypeId} (hk:(∃ e',P.underlying tx=some (.slice e'))\/P.underlying tx=some .string) (hR:RH P Fr ρ h w) (hy:RV ρ y x) (hh:src h es y k = .ok v h' n') :
  ∃ u fq news,k u fq = .ok v h' n'/\gE ρ u news/\(∀ z∈news,eK z=true)/\Src P es tx x fq news w:=by
 have sl:∀ {b o l cap:Nat} {q:Pl},ρ b=some q->Dc h b o l es k = .ok v h' n'->∃ u fq news,k u fq = .ok v h' n'/\gE ρ u news/\(∀ z∈news,eK z=true)/\Src P es tx (.slice (some ⟨q.k,q.b+o,none⟩) l cap) fq news w:=by
  intro b o l cap q hb hh
  obtain ⟨u,news,h1,h2,h3,h4,h5⟩:=EY hR hb hh
  refine ⟨u,l,news,h1,h2,h3,hk,λ _=>rfl,run_firstCells_some w es l _ l cap news h4 (λ j x hx=>by rw [dG]; exact h5 j x hx),run_firstCells_some w.drew es l _ l cap news h4 (λ j x hx=>by rw [dG]; exact h5 j x hx),h4,λ u hu=>J3 (h3 u hu)⟩
 have nl:∀ {a:Option Addr} {cap:Nat},k .e 0 = .ok v h' n'->∃ u fq news,k u fq = .ok v h' n'/\gE ρ u news/\(∀ z∈news,eK z=true)/\Src P es tx (.slice a 0 cap) fq news w:=by
  intro a cap hh
  refine ⟨.e,0,[],hh,(show gE ρ .e [] from rfl),λ z hz=>by simp at hz,hk,λ _=>rfl,?_,?_,by simp,λ z hz=>by simp at hz⟩
  ·cases a <;> simp [Builtin.firstCells,loadCells,loadCellsFrom]
  ·cases a <;> simp [Builtin.firstCells,loadCells,loadCellsFrom]
 rcases xg hh with hh | ⟨rfl,hh⟩ | ⟨b,o,l,d,rfl,hh⟩ | ⟨b,o,l,c,rfl,hh⟩ | ⟨rfl,hh⟩
 ·obtain ⟨c,l,rfl,hh⟩:=Tc hh
  obtain ⟨he,hh⟩:=cP hh
  obtain rfl:es=1:=eW he
  obtain rfl:x = .string (strOf c l):=hy
  refine ⟨_,l,byteCells (strOf c l),hh,by rw [qd]; exact tQ c l 0,λ z hz=>?_,hk,λ _=>by show Result.ok (strOf c l).size _=_; rw [dE],?_,?_,by rw [byteCells_length,dE]; omega,λ z hz=>?_⟩
  ·obtain ⟨_,_,rfl⟩:=List.mem_map.1 hz; rfl
  ·have:=firstCells_string (P:=P) (strOf c l) w; rwa [dE] at this
  ·have:=firstCells_string (P:=P) (strOf c l) w.drew; rwa [dE] at this
  obtain ⟨_,_,rfl⟩:=List.mem_map.1 hz; rfl
 ·obtain rfl:x = .slice none 0 0:=hy
  exact nl hh
 ·obtain ⟨q,hb,_,rfl⟩:=hy
  exact sl hb hh
 ·obtain ⟨q,hb,_,rfl⟩:=hy
  exact sl hb hh
 obtain ⟨a,c,rfl⟩:=hy
 exact nl hh
theorem sn {T E es tx R l c fq:Nat} {i:TypeInfo} {x:Value} {news:List Value} {a:Addr} {w':World} (hu:P.underlying T=some (.slice E)) (hi:P.info? E=some i) (iU:i.size=es) (hs:Src P es tx x fq news w) (jt:l+fq<=c)
  (hst:(storeCells (a.add (l * es)) news 0).run P w = .ok () w'):(Builtin.append_ #[T,tx] R [.slice (some a) l c,x].toArray).run P w = .ok (.slice (some a) (l+fq) c) w':=by
 subst iU
 rcases hs.kind with ⟨e',hk⟩ | hk <;> simp [Builtin.append_,run_underlying hu,run_underlying hk,sizeOf,typeInfo,hi,hs.len,jt,hs.cells,hst]
theorem Za {T E es by' tx R:Nat} {p q:Oq} {x y:Value} (hf:dJ P T=some (E,es,by',some es)) (h1:1<=es) (Q1:by'<=8192) (hk:(∃ e',P.underlying tx=some (.slice e'))\/P.underlying tx=some .string)
  (hR:RH P Fr ρ h w) (hx:RV ρ (dR e p) x) (hy:RV ρ (dR e q) y) (hh:Pz e h n es p q = .ok v h' n'):ji P (Builtin.append_ #[T,tx] R [x,y].toArray) w (jg P Fr ρ v h'):=by
 obtain ⟨hu,inf,hi,iU,uX,yB⟩:=dS hf
 obtain ⟨zv,T7,hzs⟩:∃ zv,inf.zero=some zv/\zv.cells.size=es:=by
  cases hz:inf.zero with
  | none=>rw [hz] at yB; cases yB
  | some zv=>rw [hz] at yB; exact ⟨zv,rfl,by simpa using yB⟩
 obtain ⟨u,fq,news,hh,hl,lX,hs⟩:=Tm hk hR hy hh
 have GG:=hs.newsLen
 have fits:∀ {Tn old:Nat},old<Tn->Tn<=1073741824->Builtin.nextslicecap Tn old * inf.bytes<=281474976710656:=λ ho hn=>by
  refine growslice_fits ho ?_
  have:=Nat.mul_le_mul hn (show inf.bytes<=8192 by omega)
  omega
 have grow:∀ {a:Option Addr} {l c:Nat} {olds:List Value} {t:Tr V} {Uh:Hp},RH P Fr ρ Uh w->(Builtin.firstCells es l (.slice a l c)).run P w.drew = .ok olds.toArray w.drew->olds.length=l * es->c<l+fq->l+fq<=1073741824->
   RT ρ t 0 olds->(∀ z∈olds,eK z=true)->By n es (l+fq) (qa u (l * es) t) Uh = .ok v h' n'->ji P (Builtin.append_ #[T,tx] R [.slice a l c,y].toArray) w (jg P Fr ρ v h'):=by
  intro a l c olds t Uh KK ho Pa fS hle ht Zb hh
  obtain ⟨hn,hh⟩:=kC hh
  obtain ⟨rfl,rfl,_⟩:=bX hh
  have sC:=grownCap_ge w (l+fq) c E
  subst iU
  have hr:=run_append_grow_src (P:=P) w T tx R E inf zv hu hi T7 a l c olds ho y fq news hs fS (by omega) (fits fS hle)
  have zR:(Builtin.zeroCells zv.cells (grownCap w (l+fq) c E - (l+fq))).toList.length=(grownCap w (l+fq) c E - (l+fq)) * inf.size:=by rw [Array.length_toList,size_zeroCells,hzs]
  have hlen:(olds++news).length=(l+fq) * inf.size:=by rw [List.length_append,Pa,GG,Nat.add_mul]
  have hm:=KK.M8 (t:=qa u (l * inf.size) t) (cs:=olds++news) (rest:=(Builtin.zeroCells zv.cells (grownCap w (l+fq) c E - (l+fq))).toList) (T:=E) (c:=grownCap w (l+fq) c E) (es:=inf.size) (m:=(l+fq) * inf.size)
   (w':=w.drew.alloc (.cells ((olds++news).toArray++Builtin.zeroCells zv.cells (grownCap w (l+fq) c E - (l+fq))) E)) hn (by rw [<- Pa]; exact ht.app hl) (EW Zb lX) hlen.symm
   (by rw [List.length_append,hlen,zR,<- Nat.add_mul]; exact Nat.mul_le_mul_right _ (by omega)) (λ _=>Nat.mul_le_mul_right _ sC) (by
    show w.heap.push _=w.heap.push _
    congr 2
    apply Array.ext'
    simp)
  refine ⟨_,_,hr,EX hm ⟨_,je _ _ _,⟨by simp,by show l+fq+0<=grownCap w (l+fq) c E; omega⟩,rfl⟩⟩
 have room:∀ {b o l c m:Nat} {t:Tr V} {u':V} {pI:Nat} {q:Pl} ,ρ b=some q->dH h b = .c m pI t->l+fq<=c->o+(l+fq) * es<=m->(RV ρ u' (.slice (some ⟨q.k,q.b+o,none⟩) (l+fq) c))->
   OR.ok u' (ew h (.c m pI (qa u (o+l * es) t)) b) n = .ok v h' n'->ji P (Builtin.append_ #[T,tx] R [.slice (some ⟨q.k,q.b+o,none⟩) l c,y].toArray) w (jg P Fr ρ v h'):=by
  intro b o l c m t u' pI q hb hg jt uY hv hh
  obtain ⟨rfl,rfl,_⟩:=bX hh
  obtain ⟨q',w',g1,g2,g3⟩:=hR.sts (o:=o+l * es) hg hl lX (by rw [GG,Nat.add_assoc,<- Nat.add_mul]; exact uY)
  rw [hb] at g1; cases g1
  exact ⟨_,w',sn hu hi iU hs jt (by rw [dG,Nat.add_assoc]; exact g2),ρ,Le.refl _,g3,hv⟩
 by_cases qT:Nat.beq fq 0=true
 ·
  rw [qT] at hh
  have:fq=0:=eW qT
  subst this
  have T8:news=[]:=List.length_eq_zero_iff.1 (by omega)
  subst T8
  have hh:(dR e p).n6 .no (.ok .ns h n) (λ b o l d=>.ok (.sl b o l d) h n) (λ b o l c=>.ok (.sx b o l c) h n) .no = .ok v h' n':=hh
  rcases xg hh with hh | ⟨e1,hh⟩ | ⟨b,o,l,d,e1,hh⟩ | ⟨b,o,l,c,e1,hh⟩ | ⟨e1,hh⟩
  ·cases hh
  ·obtain ⟨rfl,rfl,_⟩:=bX hh
   rw [e1] at hx
   obtain rfl:x = .slice none 0 0:=hx
   refine ⟨.slice none 0 0,w,?_,hR.post rfl⟩
   subst iU
   rcases hs.kind with ⟨e',hk⟩ | hk <;> simp [Builtin.append_,run_underlying hu,run_underlying hk,sizeOf,typeInfo,hi,hs.len,hs.cells]
  ·obtain ⟨rfl,rfl,_⟩:=bX hh
   rw [e1] at hx
   have GB:=hx
   obtain ⟨q,hb,⟨_,hle⟩,rfl⟩:=hx
   exact ⟨_,w,sn (w':=w) hu hi iU hs (by omega) rfl,hR.post GB⟩
  ·obtain ⟨rfl,rfl,_⟩:=bX hh
   rw [e1] at hx
   have GB:=hx
   obtain ⟨q,hb,hle,rfl⟩:=hx
   exact ⟨_,w,sn (w':=w) hu hi iU hs (by omega) rfl,hR.post GB⟩
  cases hh
 have qT:Nat.beq fq 0=false:=Bool.eq_false_iff.2 qT
 have sL:0<fq:=by
  rcases Nat.eq_zero_or_pos fq with h | h
  ·rw [h] at qT; cases qT
  ·exact h
 rw [qT] at hh
 rcases xg (show (dR e p).n6 .no _ _ _ _ = .ok v h' n' from hh) with hh | ⟨e1,hh⟩ | ⟨b,o,l,d,e1,hh⟩ | ⟨b,o,l,c,e1,hh⟩ | ⟨e1,hh⟩
 ·cases hh
 ·obtain ⟨hle,hh⟩:=cP hh
  have hle:=dV hle
  rw [e1] at hx
  obtain rfl:x = .slice none 0 0:=hx
  refine grow (olds:=[]) (l:=0) (t:=.lf) hR (by rfl) (by simp) (by omega) (by omega) (λ j x hj=>by simp at hj) (λ z hz=>by simp at hz) ?_
  rw [Nat.zero_add,Nat.zero_mul]; exact hh
 ·
  rw [e1] at hx
  obtain ⟨q,hq,⟨ho,hlc⟩,rfl⟩:=hx
  obtain ⟨m,pI,t,hg,M9⟩:=iR hh
  obtain ⟨hc,Uf⟩:=cP M9
  clear hh M9
  obtain ⟨c1,c2⟩:=ed hc
  have c1:es=pI:=eW c1
  have c2:l+fq<=1073741824:=dV c2
  subst c1
  have hh:=Uf
  clear Uf
  obtain ⟨q',cs,ty,fz,g1,g2,g3,g4,g5,g6,g7,g8⟩:=hR.cells hg
  rw [hq] at g1; cases g1
  have g6:=g6 (by omega)
  rw [g4] at ho
  by_cases uY:Nat.ble (o+(l+fq) * es) m=true
  ·rw [show Nat.ble (Nat.add o (Nat.mul (Nat.add l fq) es)) m=true from uY] at hh
   have uY:=dV uY
   have:(l+fq)+d<=q.c:=by
    have:(d+(l+fq)) * es<=q.c * es:=by rw [Nat.add_mul]; omega
    have:=Nat.le_of_mul_le_mul_right this (by omega:0<es)
    omega
   exact room (u':=.sl b o (l+fq) d) hq hg (by omega) uY ⟨q,hq,⟨by rw [g4]; exact ho,this⟩,rfl⟩ hh
  have Zc:Nat.ble (o+(l+fq) * es) m=false:=Bool.eq_false_iff.2 uY
  rw [show Nat.ble (Nat.add o (Nat.mul (Nat.add l fq) es)) m=false from Zc] at hh
  obtain ⟨hle,hh⟩:=cP (show dM (Nat.ble (o+l * es) m) _ .no = .ok v h' n' from hh)
  have hle:=dV hle
  obtain ⟨xs,k1,k2,k3,k4,k5⟩:=zA (w:=w) g2 g7 g8 (show o+l * es<=m from hle)
  have ht:RT ρ (Bool.rec (motive:=λ _=>Tr V) (qa (rd t (l * es) o) 0 .lf) t (Nat.beq o 0)) 0 xs:=by
   cases ho0:Nat.beq o 0 with
   | true=>have:=eW ho0; subst this; exact k3
   | false=>exact RT.PO (k3.rd k1) .lf 0
  have Ui:=hR.kill b
  by_cases jt:l+fq<=q.c - d
  ·
   obtain ⟨w',j1,j2,j3,j4⟩:=EV (P:=P) news (q.b+(o+l * es)) 0 cs w g2 g3 (by
    have:(d+(l+fq)) * es<=q.c * es:=Nat.mul_le_mul_right _ (by omega)
    rw [Nat.add_mul,Nat.add_mul,<- ho] at this
    rw [GG]; omega) lX
   rw [Nat.add_zero] at j2
   obtain ⟨hn,hh⟩:=kC hh
   obtain ⟨rfl,rfl,_⟩:=bX hh
   have le:=oW (q:=⟨q.k,q.b+o,q.c - d,es⟩) (Ui.fresh n hn)
   have BN:=Dg hg
   have wV:q.b+o+(q.c - d) * es=q.b+q.c * es:=by
    have:d * es<=q.c * es:=Nat.mul_le_mul_right _ (by omega)
    rw [Nat.sub_mul]; omega
   have PW:(l+fq) * es<=(q.c - d) * es:=Nat.mul_le_mul_right _ jt
   have Ug:=ht.app hl
   rw [k1] at Ug
   have hRn:RH P Fr (ext ρ n ⟨q.k,q.b+o,q.c - d,es⟩) (ew (ew h .x b) (.c ((l+fq) * es) es (qa u (l * es) (Bool.rec (motive:=λ _=>Tr V) (qa (rd t (l * es) o) 0 .lf) t (Nat.beq o 0)))) n) w':=by
    refine Ui.add (hst:=j4) hn (λ b' q' L5 Wb=>?_) (hR.off b q BN hq) (λ r o' hr zP=>j3 r o' hr zP) j2 ⟨_,ty,fz,rfl,λ j hj=>g3 j (by rwa [gg] at hj),rfl,by rw [gg]; show q.b+o+(q.c - d) * es<=_; omega,λ _=>PW,by rw [gg]; show q.b+o+(l+fq) * es<=_; omega,λ i hi=>?_⟩
    ·have jV:b'≠b:=λ hh=>by rw [hh,gB,if_pos rfl] at L5; exact L5
     rw [gB,if_neg jV] at L5
     exact hR.sep b' b q' q L5 BN jV Wb hq
    ·show ∃ x,(eS cs (q.b+(o+l * es)) news)[q.b+o+i]? = some x/\_
     have hlx:(xs++news).length=(l+fq) * es:=by rw [List.length_append,k1,GG,Nat.add_mul]
     obtain ⟨x,Uj⟩:∃ x,(xs++news)[i]? = some x:=⟨_,List.getElem?_eq_getElem (by omega)⟩
     have hri:=Ug i x Uj
     rw [Nat.zero_add] at hri
     obtain ⟨a,c⟩:=nD news cs (q.b+(o+l * es)) (q.b+o+i) (by rw [GG]; rw [Nat.add_mul] at PW; omega)
     refine ⟨x,?_,hri.mono le,EW k4 lX x (List.mem_of_getElem? Uj)⟩
     by_cases hil:i<l * es
     ·rw [a (.inl (by omega))]
      rw [List.getElem?_append_left (by omega),k2,List.getElem?_take_of_lt hil,List.getElem?_drop] at Uj
      exact Uj
     ·rw [List.getElem?_append_right (by omega),k1] at Uj
      have:=c (i - l * es) (by rw [GG]; rw [Nat.add_mul] at hi; omega)
      rw [show q.b+(o+l * es)+(i - l * es)=q.b+o+i from by omega] at this
      rw [this]; exact Uj
   exact ⟨_,w',sn hu hi iU hs jt (by rw [dG,Nat.add_assoc]; exact j1),_,le,hRn,⟨_,je _ _ _,⟨by simp,by show l+fq+0<=q.c - d; omega⟩,rfl⟩⟩
  exact grow Ui (run_firstCells_some w.drew es l _ l (q.c - d) xs k1 (λ j x hx=>by rw [dG]; exact k5 j x hx)) k1 (by omega) c2 ht k4 hh
 ·
  rw [e1] at hx
  obtain ⟨q,hq,hlc,rfl⟩:=hx
  obtain ⟨m,pI,t,hg,hh⟩:=iR hh
  obtain ⟨c2,hh⟩:=cP hh
  have c2:l+fq<=1073741824:=dV c2
  by_cases jt:Nat.ble (l+fq) c=true
  ·rw [show Nat.ble (Nat.add l fq) c=true from jt] at hh
   have jt:=dV jt
   obtain ⟨uY,hh⟩:=cP (show dM (Nat.ble (o+(l+fq) * es) m) _ .no = .ok v h' n' from hh)
   exact room (u':=.sx b o (l+fq) c) hq hg jt (dV uY) ⟨q,hq,jt,rfl⟩ hh
  have Dk:Nat.ble (l+fq) c=false:=Bool.eq_false_iff.2 jt
  rw [show Nat.ble (Nat.add l fq) c=false from Dk] at hh
  obtain ⟨hle,hh⟩:=cP (show dM (Nat.ble (o+l * es) m) _ .no = .ok v h' n' from hh)
  have hle:=dV hle
  have fS:¬ (l+fq<=c):=λ hle=>by rw [Nat.ble_eq_true_of_le hle] at Dk; cases Dk
  obtain ⟨q',cs,ty,fz,g1,g2,g3,g4,g5,g6,g7,g8⟩:=hR.cells hg
  rw [hq] at g1; cases g1
  obtain ⟨xs,k1,k2,k3,k4,k5⟩:=zA (w:=w) g2 g7 g8 (show o+l * es<=m from hle)
  exact grow hR (run_firstCells_some w.drew es l _ l c xs k1 (λ j x hx=>by rw [dG]; exact k5 j x hx)) k1 (by omega) c2 (RT.PO (k3.rd k1) .lf 0) k4 hh
 cases hh
end
section
variable {P:Program} {Fr:m4} {ρ:Rn} {h h':Hp} {w:World} {v:V} {n n':Nat} {e:En} {e':Env}
theorem BO {b o c:Nat} {l u:V} {vs:List Value} (hR:RH P Fr ρ h w) (hl:gE ρ l vs) (lX:∀ z∈vs,eK z=true) (hc:vs.length=c) (hh:wj h n b o c l u = .ok v h' n') :
  ∃ q w',ρ b=some q/\(storeCells ⟨q.k,q.b+o,none⟩ vs 0).run P w = .ok () w'/\RH P Fr ρ h' w'/\v=u:=by
 obtain ⟨m,es,t,hg,hh⟩:=iR hh
 obtain ⟨hle,hh⟩:=cP hh
 have hle:o+c<=m:=dV hle
 obtain ⟨rfl,rfl,_⟩:=bX hh
 obtain ⟨q,w',g1,g2,g3⟩:=hR.sts (o:=o) hg hl lX (by rw [hc]; exact hle)
 exact ⟨q,w',g1,g2,g3,rfl⟩
theorem wB (k:Nat):RV ρ (goN k) (goInt (k:Int)):=rfl
theorem Nc (a b:Nat):wi a b=Nat.min a b:=by
 unfold wi
 cases h:Nat.ble a b with
 | true=>exact (Nat.min_eq_left (dV h)).symm
 | false=>
  have:¬ a<=b:=λ hh=>by rw [Nat.ble_eq_true_of_le hh] at h; cases h
  exact (Nat.min_eq_right (Nat.le_of_not_le this)).symm
theorem Nd {es:Nat} {y:V} {x:Value} {k:V->Nat->OR} (hR:RH P Fr ρ h w) (hy:RV ρ y x) (hh:YI h es y k = .ok v h' n') :
  ∃ u fq news,k u fq = .ok v h' n'/\gE ρ u news/\(∀ z∈news,eK z=true)/\(∀ w,(Builtin.lenOf x).run P w = .ok fq w)/\news.length=fq * es/\∀ j,j<=fq->(Builtin.firstCells es j x).run P w = .ok (List.toArray (news.take (j * es))) w:=by
 have sl:∀ {b o l cap:Nat} {q:Pl},ρ b=some q->Dc h b o l es k = .ok v h' n'->∃ u fq news,k u fq = .ok v h' n'/\gE ρ u news/\(∀ z∈news,eK z=true)/\
   (∀ w,(Builtin.lenOf (.slice (some ⟨q.k,q.b+o,none⟩) l cap)).run P w = .ok fq w)/\news.length=fq * es/\∀ j,j<=fq->(Builtin.firstCells es j (.slice (some ⟨q.k,q.b+o,none⟩) l cap)).run P w = .ok (List.toArray (news.take (j * es))) w:=by
  intro b o l cap q hb hh
  obtain ⟨u,news,h1,h2,h3,h4,h5⟩:=EY hR hb hh
  refine ⟨u,l,news,h1,h2,h3,λ _=>rfl,h4,λ j hj=>?_⟩
  have hle:j * es<=l * es:=Nat.mul_le_mul_right _ hj
  exact run_firstCells_some w es j _ l cap (news.take (j * es)) (by rw [List.length_take]; omega) (λ i x hx=>by
   have hi:i<j * es:=by
    have:=(List.getElem?_eq_some_iff.1 hx).1
    rw [List.length_take] at this; omega
   rw [List.getElem?_take_of_lt hi] at hx
   rw [dG]; exact h5 i x hx)
 have nl:∀ {a:Option Addr} {cap:Nat},k .e 0 = .ok v h' n'->∃ u fq news,k u fq = .ok v h' n'/\gE ρ u news/\(∀ z∈news,eK z=true)/\(∀ w,(Builtin.lenOf (.slice a 0 cap)).run P w = .ok fq w)/\news.length=fq * es/\
   ∀ j,j<=fq->(Builtin.firstCells es j (.slice a 0 cap)).run P w = .ok (List.toArray (news.take (j * es))) w:=by
  intro a cap hh
  refine ⟨.e,0,[],hh,(show gE ρ .e [] from rfl),λ z hz=>by simp at hz,λ _=>rfl,by simp,λ j hj=>?_⟩
  obtain rfl:j=0:=by omega
  cases a <;> simp [Builtin.firstCells,loadCells,loadCellsFrom]
 rcases xg hh with hh | ⟨rfl,hh⟩ | ⟨b,o,l,d,rfl,hh⟩ | ⟨b,o,l,c,rfl,hh⟩ | ⟨rfl,hh⟩
 ·cases hh
 ·obtain rfl:x = .slice none 0 0:=hy
  exact nl hh
 ·obtain ⟨q,hb,_,rfl⟩:=hy
  exact sl hb hh
 ·obtain ⟨q,hb,_,rfl⟩:=hy
  exact sl hb hh
 obtain ⟨a,c,rfl⟩:=hy
 exact nl hh
theorem Zd {T E es by' tx R:Nat} {z:Option Nat} {p q:Oq} {x y:Value} (hf:dJ P T=some (E,es,by',z)) (hR:RH P Fr ρ h w) (hx:RV ρ (dR e p) x) (hy:RV ρ (dR e q) y) (hh:PJ e h n es p q = .ok v h' n') :
  ji P (Builtin.copy_ #[T,tx] R [x,y].toArray) w (jg P Fr ρ v h'):=by
 obtain ⟨hu,inf,hi,iU,_,_⟩:=dS hf
 obtain ⟨u,fq,news,hh,hl,lX,hlen,GG,hfc⟩:=Nd hR hy hh
 have go:∀ {l cap:Nat} {a:Option Addr} {w':World},(match a with | some a=>(storeCells a (news.take (Nat.min fq l * es)) 0).run P w = .ok () w' | none=>w'=w)->
   (Builtin.copy_ #[T,tx] R [.slice a l cap,y].toArray).run P w = .ok (goInt (Nat.min fq l:Nat)) w':=by
  intro l cap a w' hw
  have:=hfc (Nat.min fq l) (Nat.min_le_left _ _)
  cases a with
  | none=>subst hw; simp [Builtin.copy_,run_underlying hu,hlen,sizeOf,typeInfo,hi,iU,this]
  | some a=>
   have hw:(storeCells a (news.take (Nat.min fq l * es)) 0).run P w = .ok () w':=hw
   simp [Builtin.copy_,run_underlying hu,hlen,sizeOf,typeInfo,hi,iU,this,hw]
 have sl:∀ {b o l cap:Nat} {q:Pl},ρ b=some q->wj h n b o (Nat.mul (wi fq l) es) (wb u (Nat.mul (wi fq l) es)) (goN (wi fq l)) = .ok v h' n'->ji P (Builtin.copy_ #[T,tx] R [.slice (some ⟨q.k,q.b+o,none⟩) l cap,y].toArray) w (jg P Fr ρ v h'):=by
  intro b o l cap q hb hh
  have hmin:Nat.min fq l * es<=fq * es:=Nat.mul_le_mul_right _ (Nat.min_le_left _ _)
  rw [Nc] at hh
  obtain ⟨q',w',g1,g2,g3,g4⟩:=BO hR (hl.take (Nat.min fq l * es)) (λ z hz=>lX z (List.mem_of_mem_take hz)) (by rw [List.length_take,GG]; show min (Nat.min fq l * es) (fq * es)=Nat.min fq l * es; omega) hh
  rw [hb] at g1; cases g1
  exact ⟨_,w',go (a:=some ⟨q.k,q.b+o,none⟩) g2,ρ,Le.refl _,g3,by rw [g4]; exact wB _⟩
 rcases xg hh with hh | ⟨e1,hh⟩ | ⟨b,o,l,d,e1,hh⟩ | ⟨b,o,l,c,e1,hh⟩ | ⟨e1,hh⟩
 ·cases hh
 ·obtain ⟨rfl,rfl,_⟩:=bX hh
  rw [e1] at hx
  obtain rfl:x = .slice none 0 0:=hx
  exact ⟨_,w,go (a:=none) rfl,hR.post (by rw [show Nat.min fq 0=0 from Nat.min_zero _]; exact wB 0)⟩
 ·rw [e1] at hx
  obtain ⟨q,hb,_,rfl⟩:=hx
  exact sl hb hh
 ·rw [e1] at hx
  obtain ⟨q,hb,_,rfl⟩:=hx
  exact sl hb hh
 obtain ⟨rfl,rfl,_⟩:=bX hh
 rw [e1] at hx
 obtain ⟨a,c,rfl⟩:=hx
 refine ⟨_,w,go (a:=some a) ?_,hR.post (by rw [show Nat.min fq 0=0 from Nat.min_zero _]; exact wB 0)⟩
 rw [show Nat.min fq 0=0 from Nat.min_zero _,Nat.zero_mul,List.take_zero]; rfl
theorem Ze {T E es by' R:Nat} {z:V} {p:Oq} {x:Value} (hf:dJ P T=some (E,es,by',some es)) (hz:lJ P E=some z) (h1:1<=es) (hR:RH P Fr ρ h w) (hx:RV ρ (dR e p) x) (hh:PK e h n es z p = .ok v h' n') :
  ji P (Builtin.clear_ #[T] R [x].toArray) w (jg P Fr ρ v h'):=by
 obtain ⟨hu,inf,hi,iU,_,yB⟩:=dS hf
 obtain ⟨zv,nP,z1,z2,z3⟩:=pv (ρ:=ρ) hz
 obtain ⟨hc,hh⟩:=cP hh
 have hc:=eW hc
 have zR:zv.cells.toList.length=es:=by rw [<- z2.len]; exact hc
 have e3:∀ k,(Builtin.zeroCells zv.cells k).toList=(List.replicate k zv.cells.toList).flatten:=by
  intro k
  have:=tg zv.cells.toList k (by omega)
  rw [<- this,Array.toArray_toList,Array.length_toList]
  rfl
 have nil:∀ {a:Option Addr} {l c:Nat} ,a=none\/l=0->(Builtin.clear_ #[T] R [.slice a l c].toArray).run P w = .ok undef w:=by
  intro a l c hal
  rcases hal with rfl | rfl
  ·simp [Builtin.clear_,run_underlying hu]; rfl
  ·cases a <;> (simp [Builtin.clear_,run_underlying hu]; rfl)
 have sl:∀ {b o l cap:Nat} {q:Pl},ρ b=some q->wj h n b o (Nat.mul l es) (xe z l) Bp = .ok v h' n'->ji P (Builtin.clear_ #[T] R [.slice (some ⟨q.k,q.b+o,none⟩) l cap].toArray) w (jg P Fr ρ v h'):=by
  intro b o l cap q hb hh
  obtain ⟨q',w',g1,g2,g3,g4⟩:=BO hR (z2.rep l) (wA z3) (by simp [zR]) hh
  rw [hb] at g1; cases g1
  refine ⟨undef,w',?_,ρ,Le.refl _,g3,by rw [g4]; exact jQ ρ⟩
  cases l with
  | zero=>
   have:w'=w:=by
    have g2:(storeCells ⟨q.k,q.b+o,none⟩ (List.replicate 0 zv.cells.toList).flatten 0).run P w = .ok () w':=g2
    simp [storeCells] at g2
    exact g2.symm
   rw [this]; exact nil (.inr rfl)
  | succ l=>
   rw [<- e3] at g2
   have hz1:=bZ z1 w
   simp [Builtin.clear_,run_underlying hu,hz1]
   rw [g2]
   rfl
 rcases xg hh with hh | ⟨e1,hh⟩ | ⟨b,o,l,d,e1,hh⟩ | ⟨b,o,l,c,e1,hh⟩ | ⟨e1,hh⟩
 ·cases hh
 ·obtain ⟨rfl,rfl,_⟩:=bX hh
  rw [e1] at hx
  obtain rfl:x = .slice none 0 0:=hx
  exact ⟨_,w,nil (.inl rfl),hR.post (jQ ρ)⟩
 ·rw [e1] at hx
  obtain ⟨q,hb,_,rfl⟩:=hx
  exact sl hb hh
 ·rw [e1] at hx
  obtain ⟨q,hb,_,rfl⟩:=hx
  exact sl hb hh
 obtain ⟨rfl,rfl,_⟩:=bX hh
 rw [e1] at hx
 obtain ⟨a,c,rfl⟩:=hx
 exact ⟨_,w,nil (.inr rfl),hR.post (jQ ρ)⟩
theorem Zf {S D E by':Nat} {p:Oq} {x:Value} (h1:P.underlying S=some .string) (h2:P.underlying D=some (.slice E)) (h3:P.underlying E=some (.int .u8)) (hR:RH P Fr ρ h w) (hx:RV ρ (dR e p) x)
  (hh:Py e h n p = .ok v h' n'):ji P (convert S D x) w (jg P Fr ρ v h'):=by
 obtain ⟨c,l,e1,hh⟩:=Tc hh
 obtain ⟨hc,hh⟩:=cP hh
 obtain ⟨hn,hh⟩:=kC hh
 obtain ⟨rfl,rfl,_⟩:=bX hh
 rw [e1] at hx
 obtain rfl:x = .string (strOf c l):=hx
 have hr:=Go.Lib.run_convert_string_bytes (P:=P) w S D E (strOf c l) h1 h2 h3
 rw [dE] at hr
 have sC:=grownCap_ge w l 0 E
 have le:=oW (q:=⟨w.heap.size,0,grownCap w l 0 E,1⟩) (hR.fresh n hn)
 have Zg:=Go.Lib.bytesWorld_at_new w E (strOf c l)
 have To:Go.Lib.bytesCells w E (strOf c l)=List.toArray (byteCells (strOf c l)++List.replicate (grownCap w l 0 E - l) (.int .u8 0)):=by
  unfold Go.Lib.bytesCells byteCells
  rw [dE]
  apply Array.ext'
  simp
 have Jf:(byteCells (strOf c l)).length=l:=by rw [byteCells_length,dE]
 have hlen:(byteCells (strOf c l)++List.replicate (grownCap w l 0 E - l) (Value.int .u8 0)).length=grownCap w l 0 E:=by rw [List.length_append,Jf,List.length_replicate]; omega
 rw [To] at Zg
 have Ug:RT ρ (qa (wh c l 0) 0 .lf) 0 (byteCells (strOf c l)):=RT.PO (by rw [qd]; exact tQ c l 0) .lf 0
 have hRn:RH P Fr (ext ρ n ⟨w.heap.size,0,grownCap w l 0 E,1⟩) (ew h (.c (Nat.mul l 1) 1 (qa (wh c l 0) 0 .lf)) n) (Go.Lib.bytesWorld w E (strOf c l)):=by
  refine hR.add hn (λ b q' k1 k2=>?_) ?_ (λ r o' hr ho=>?_) Zg ⟨_,E,_,rfl,λ j hj=>?_,rfl,by rw [hlen]; show 0+grownCap w l 0 E * 1<=grownCap w l 0 E; omega,λ _=>by show l * 1<=grownCap w l 0 E * 1; omega,by rw [hlen]; show 0+l * 1<=grownCap w l 0 E; omega,λ i hi=>?_⟩
  ·obtain ⟨q2,o2,j1,j2,_⟩:=hR.lv b k1
   rw [k2] at j1; cases j1
   have:=(Array.getElem?_eq_some_iff.1 j2).1
   show q'.k≠w.heap.size
   omega
  ·cases hF:Fr.f w.heap.size with
   | none=>rfl
   | some o'=>
    have:=hR.tT _ _ hF
    have:=(Array.getElem?_eq_some_iff.1 this).1
    omega
  ·have:=(Array.getElem?_eq_some_iff.1 ho).1
   rw [Go.Lib.bytesWorld_at_old w E _ r this]; exact ho
  ·dsimp only
   rw [List.size_toArray]
   omega
  ·have hi:i<l:=by simpa using hi
   have hg:(byteCells (strOf c l))[i]? = some (byteCells (strOf c l))[i]:=List.getElem?_eq_getElem (by omega)
   refine ⟨(byteCells (strOf c l))[i],?_,?_,?_⟩
   ·show (byteCells (strOf c l)++_)[0+i]? = _
    rw [Nat.zero_add,List.getElem?_append_left (by omega),hg]
   ·have:=Ug i _ hg
    rw [Nat.zero_add] at this
    exact this.mono le
   ·obtain ⟨b,_,hb⟩:=List.mem_map.1 (List.mem_of_getElem? hg)
    rw [<- hb]; rfl
 exact ⟨_,_,hr,_,le,hRn,⟨_,je _ _ _,⟨by simp,by show l+0<=grownCap w l 0 E; omega⟩,rfl⟩⟩
theorem Zh {g:Nat} {l:OL} {xs:List Value} (hR:RH P Fr ρ h w) (hx:gE ρ (KO e l) xs) (hh:PA e h n g l = .ok v h' n'):jg P Fr ρ v h' (.func (.func g) #[] xs.toArray) w:=by
 obtain ⟨rfl,rfl,_⟩:=bX hh
 exact hR.post ⟨xs,hx,rfl⟩
def kindOk (s:Bool) (d:TypeDesc):Prop:=match s,d with | false,.int _=>True | true,.string=>True | _,_=>False
theorem wC {s:Bool} {d:TypeDesc} (hd:kindOk s d) {x y:V} {a b:Value} {k:Bool->OR} (hx:RV ρ x a) (hy:RV ρ y b) (Uh:we s x y k = .ok v h' n') :
  ∃ r,k r = .ok v h' n'/\Instr.sameNow d a b=some r/\(r=true->Instr.sameBits 10000 b a=true):=by
 cases s with
 | false=>
  obtain ⟨t,i,rfl,M9⟩:=okI (show x.FQ .no _ = .ok v h' n' from Uh)
  obtain ⟨t',i',rfl,Uf⟩:=okI M9
  obtain ⟨ht,hh⟩:=cP Uf
  obtain rfl:a = .int t i:=hx
  obtain rfl:b = .int t' i':=hy
  have:=wq ht
  subst this
  cases d <;> first | exact hd.elim | skip
  refine ⟨_,hh,?_,λ hr=>?_⟩
  ·show (if t=t then some (i == i') else none)=_
   rw [if_pos rfl,po]; rfl
  ·rw [po] at hr
   have:=of_decide_eq_true hr
   subst this
   show (t == t && i == i)=true
   simp
 | true=>
  obtain ⟨t,i,rfl,M9⟩:=Tc (show x.Bt .no _ = .ok v h' n' from Uh)
  obtain ⟨t',i',rfl,hh⟩:=Tc M9
  obtain rfl:a = .string (strOf t i):=hx
  obtain rfl:b = .string (strOf t' i'):=hy
  cases d <;> first | exact hd.elim | skip
  refine ⟨_,hh,?_,λ hr=>?_⟩
  ·show some (strOf t i == strOf t' i')=_
   rw [JY,sm]
  ·rw [sm] at hr
   have:=of_decide_eq_true hr
   show (strOf t' i' == strOf t i)=true
   rw [JY,this]; simp
theorem J4 {s:Bool} {d:TypeDesc} (hd:kindOk s d) {x:V} {a:Value} (hx:RV ρ x a) {k0:OR} {k1:OK}:∀ {l:ML} {es:List MapEntry} {i:Nat},RM ρ l es->JH s x l k0 k1 = .ok v h' n'->
  (k0 = .ok v h' n'/\Instr.findNow d a es i=some none)\/∃ u j y,k1 u = .ok v h' n'/\RV ρ u y/\Instr.findNow d a es i=some (some (j,y)):=by
 intro l
 induction l with
 | nil=>intro es i hm hh; obtain rfl:es=[]:=hm; exact .inl ⟨hh,rfl⟩
 | cons k u b r ih=>
  intro es i hm hh
  obtain ⟨en,pI,rfl,h1,h2,_,h4⟩:=hm
  obtain ⟨rr,hh,hs,_⟩:=wC hd hx h1 (show we s x k (λ b=>dM b (k1 u) (JH s x r k0 k1)) = .ok v h' n' from hh)
  cases rr with
  | true=>exact .inr ⟨u,i,en.val,hh,h2,by unfold Instr.findNow; rw [hs]⟩
  | false=>
   rcases ih (i:=i+1) h4 hh with ⟨g1,g2⟩ | ⟨u',j,y,g1,g2,g3⟩
   ·exact .inl ⟨g1,by unfold Instr.findNow; rw [hs]; exact g2⟩
   ·exact .inr ⟨u',j,y,g1,g2,by unfold Instr.findNow; rw [hs]; exact g3⟩
theorem Nf {s:Bool} {d:TypeDesc} (hd:kindOk s d) {x z:V} {a y:Value} (hx:RV ρ x a) (hz:RV ρ z y) {c:Nat}:∀ {l:ML} {es:List MapEntry} {i:Nat} {k1:Nat->ML->OR},RM ρ l es->S3 s x z c l k1 = .ok v h' n'->
  ∃ c' l',k1 c' l' = .ok v h' n'/\((Instr.findNow d a es i=some none/\c'=c+1/\RM ρ l' (es++[⟨a,y,c⟩]))\/
   ∃ j en,Instr.findNow d a es i=some (some (i+j,en.val))/\es[j]? = some en/\Instr.sameBits 10000 en.key a=true/\c'=c/\RM ρ l' (es.modify j λ e=>{e with key:=a,val:=y})):=by
 intro l
 induction l with
 | nil=>intro es i k1 hm hh; obtain rfl:es=[]:=hm; exact ⟨c+1,_,hh,.inl ⟨rfl,rfl,⟨a,y,c⟩,[],rfl,hx,hz,rfl,rfl⟩⟩
 | cons k u b r ih=>
  intro es i k1 hm hh
  obtain ⟨en,pI,rfl,h1,h2,h3,h4⟩:=hm
  obtain ⟨rr,hh,hs,hb⟩:=wC hd hx h1 (show we s x k (λ t=>dM t (k1 c (.cons x z b r)) (S3 s x z c r λ c l=>k1 c (.cons k u b l))) = .ok v h' n' from hh)
  cases rr with
  | true=>
   refine ⟨c,_,hh,.inr ⟨0,en,by unfold Instr.findNow; rw [hs]; rfl,rfl,hb rfl,rfl,?_⟩⟩
   exact ⟨{en with key:=a,val:=y},pI,rfl,hx,hz,h3,h4⟩
  | false=>
   obtain ⟨c',l',g1,g2⟩:=ih (i:=i+1) h4 hh
   refine ⟨c',_,g1,?_⟩
   rcases g2 with ⟨g2,g3,g4⟩ | ⟨j,en',g2,g3,g4,g5,g6⟩
   ·exact .inl ⟨by unfold Instr.findNow; rw [hs]; exact g2,g3,⟨en,_,rfl,h1,h2,h3,g4⟩⟩
   ·refine .inr ⟨j+1,en',by unfold Instr.findNow; rw [hs]; rw [show i+(j+1)=i+1+j from by omega]; exact g2,by simpa using g3,g4,g5,⟨en,_,?_,h1,h2,h3,g6⟩⟩
    simp
theorem Ng {s:Bool} {d:TypeDesc} (hd:kindOk s d) {x:V} {a:Value} (hx:RV ρ x a):∀ {l:ML} {es:List MapEntry} {i:Nat} {k1:ML->OR},RM ρ l es->S4 s x l k1 = .ok v h' n'->
  ∃ l',k1 l' = .ok v h' n'/\((Instr.findNow d a es i=some none/\RM ρ l' es)\/∃ j y,Instr.findNow d a es i=some (some (i+j,y))/\RM ρ l' (es.eraseIdx j)):=by
 intro l
 induction l with
 | nil=>intro es i k1 hm hh; obtain rfl:es=[]:=hm; exact ⟨_,hh,.inl ⟨rfl,rfl⟩⟩
 | cons k u b r ih=>
  intro es i k1 hm hh
  obtain ⟨en,pI,rfl,h1,h2,h3,h4⟩:=hm
  obtain ⟨rr,hh,hs,hb⟩:=wC hd hx h1 (show we s x k (λ t=>dM t (k1 r) (S4 s x r λ l=>k1 (.cons k u b l))) = .ok v h' n' from hh)
  cases rr with
  | true=>exact ⟨_,hh,.inr ⟨0,en.val,by unfold Instr.findNow; rw [hs]; rfl,h4⟩⟩
  | false=>
   obtain ⟨l',g1,g2⟩:=ih (i:=i+1) h4 hh
   refine ⟨_,g1,?_⟩
   rcases g2 with ⟨g2,g4⟩ | ⟨j,y,g2,g6⟩
   ·exact .inl ⟨by unfold Instr.findNow; rw [hs]; exact g2,⟨en,_,rfl,h1,h2,h3,g4⟩⟩
   ·exact .inr ⟨j+1,y,by unfold Instr.findNow; rw [hs]; rw [show i+(j+1)=i+1+j from by omega]; exact g2,⟨en,_,by simp,h1,h2,h3,g6⟩⟩
theorem m5 {s:Bool} {d:TypeDesc} (hd:kindOk s d) {kt:TypeId} (hk:P.underlying kt=some d) {em:Bool} {x:Value}:pr P (Instr.checkKey em 10000 kt x)=some ():=by
 unfold Instr.checkKey
 rw [aU,aS hk]
 simp only [Option.bind_some]
 cases s <;> cases d <;> first | exact hd.elim | rfl
theorem pw {d:TypeDesc} {kt:TypeId} (hk:P.underlying kt=some d) {a:Value} {es:List MapEntry} {r:Option (Nat × Value)} (hf:Instr.findNow d a es 0=some r):pr P (Instr.findKey kt a es)=some r:=by
 unfold Instr.findKey
 rw [aU,aS hk]
 simp only [Option.bind_some,hf]
 rfl
theorem zD {c:Nat} {l:ML} {b:Nat} (hb:dH h b = .m c l):live (dH h b):=by rw [hb]; trivial
theorem RH.map {b c:Nat} {l:ML} (hR:RH P Fr ρ h w) (hb:dH h b = .m c l):∃ q es,ρ b=some q/\w.heap[q.k]? = some (.map (List.toArray es) c)/\RM ρ l es:=by
 obtain ⟨q,o,h1,h2,h3⟩:=hR.lv b (zD hb)
 rw [hb] at h3
 obtain ⟨es,rfl,h4⟩:=h3
 exact ⟨q,es,h1,h2,h4⟩
theorem run_get {r:Nat} {o:Obj} (hw:w.heap[r]? = some o) (ho:∀ c t f,o≠.cells c t f):(getObj r).run P w = .ok o w:=by
 show (Sem.getObj r .pure).run P w=_
 unfold Sem.run
 rw [hw]
 cases o <;> first | rfl | exact absurd rfl (ho _ _ _)
def BP (w:World) (r:Nat) (o:Obj):World:={w with heap:=w.heap.setIfInBounds r o}
theorem run_set {r:Nat} {o o':Obj} (hw:w.heap[r]? = some o) (ho:∀ c t f,o≠.cells c t f):(setObj r o').run P w = .ok () (BP w r o'):=by
 show (Sem.setObj r o' (.pure ())).run P w=_
 unfold Sem.run
 rw [hw]
 cases o <;> first | rfl | exact absurd rfl (ho _ _ _)
theorem Nh {r:Nat} {o o':Obj} (hw:w.heap[r]? = some o):(BP w r o').heap[r]? = some o':=by
 have:=(Array.getElem?_eq_some_iff.1 hw).1
 unfold BP
 rw [Array.getElem?_setIfInBounds_self_of_lt this]
theorem Ni {r k:Nat} {o' o:Obj} (hk:k≠r) (hw:w.heap[k]? = some o):(BP w r o').heap[k]? = some o:=by
 unfold BP
 rw [Array.getElem?_setIfInBounds_ne (Ne.symm hk)]; exact hw
theorem RH.Nj {b:Nat} {q:Pl} {hb:HB} {o o':Obj} (hR:RH P Fr ρ h w) (hl:live (dH h b)) (hq:ρ b=some q) (ho:w.heap[q.k]? = some o) (hB:Body P ρ hb q o') (hz:hb≠.z:=by exact λ hh=>by cases hh) :
  RH P Fr ρ (ew h hb b) (BP w q.k o'):=hR.sJ hl hq (Nh ho) hB (λ r x hr hx=>Ni hr hx) hz ⟨rfl,rfl,rfl⟩
theorem J5 {T:TypeId} {z:V} (hz:zeroV P T=some z):∃ y,pr P (zeroValue T)=some y/\RV ρ z y:=by
 have key:∀ {zv:Value},dX P T=some (some zv)->pr P (zeroValue T)=some zv:=fun {zv} nP=>by
  unfold dX at nP
  cases hi:P.info? T with
  | none=>rw [hi] at nP; cases nP
  | some inf=>
   rw [hi] at nP
   simp only [Option.map_some,Option.some.injEq] at nP
   unfold zeroValue; rw [aU,ib hi]; simp only [Option.bind_some,nP]; rfl
 unfold zeroV at hz
 split at hz
 ·rename_i c hf
  simp only [Option.map_eq_some_iff] at hz
  obtain ⟨l,h1,rfl⟩:=hz
  exact ⟨_,key hf,c.toList,nB h1,oU h1,by simp⟩
 ·rename_i zv _ hf
  exact ⟨_,key hf,j9 hz⟩
 cases hz
end
section
variable {P:Program} {Fr:m4} {ρ:Rn} {h h':Hp} {w:World} {v:V} {n n':Nat} {e:En} {e':Env}
theorem Zi {T:TypeId} (hR:RH P Fr ρ h w) (hh:PB h n = .ok v h' n'):ji P (Instr.makeMap T none) w (jg P Fr ρ v h'):=by
 obtain ⟨hn,hh⟩:=kC hh
 obtain ⟨rfl,rfl,_⟩:=bX hh
 have le:=oW (q:=⟨w.heap.size,0,0,0⟩) (hR.fresh n hn)
 exact ⟨.map (some w.heap.size),push w (.map #[] 0),rfl,_,le,hR.new hn rfl rfl ⟨[],rfl,rfl⟩,⟨_,je _ _ _,rfl⟩⟩
theorem J6 {T kt et:TypeId} {s ok:Bool} {d:TypeDesc} {z:V} {p q:Oq} {x y:Value} (hu:P.underlying T=some (.map kt et)) (hk:P.underlying kt=some d) (hd:kindOk s d) (hz:zeroV P et=some z)
  (hR:RH P Fr ρ h w) (hx:RV ρ (dR e p) x) (hy:RV ρ (dR e q) y) (hh:JN e h n s z ok p q = .ok v h' n'):yj P (Instr.lookup T x y ok) w λ y=>jg P Fr ρ v h' y w:=by
 obtain ⟨r,e1,hh⟩:=YN hh
 obtain ⟨c,l,hb,hh⟩:=Di hh
 rw [e1] at hx
 obtain ⟨qq,hq,rfl⟩:=hx
 obtain ⟨q2,es,g1,g2,g3⟩:=hR.map hb
 rw [hq] at g1; cases g1
 have so:=run_get (P:=P) g2 (λ _ _ _ hh=>by cases hh)
 have fin:∀ {b:Bool} {u:V} {yy:Value} {vv:Value × Bool},JM h n ok b u = .ok v h' n'->RV ρ u yy->vv=(yy,b)->jg P Fr ρ v h' (if ok then .tuple #[vv.1,.bool vv.2] else vv.1) w:=by
  intro b u yy vv hh hv he
  subst he
  cases ok with
  | true=>obtain ⟨rfl,rfl,_⟩:=bX (show OR.ok (.t (.c u (.c (.b b) .e))) h n=_ from hh); exact hR.post ⟨[yy,.bool b],⟨_,_,rfl,hv,_,_,rfl,rfl,rfl⟩,rfl⟩
  | false=>
   have hh:u.fc (λ v=>.ok v h n) = .ok v h' n':=hh
   rw [V.nS] at hh
   obtain ⟨rfl,rfl,_⟩:=bX hh
   exact hR.post hv
 rcases J4 (i:=0) hd hy g3 hh with ⟨h1,h2⟩ | ⟨u,j,yy,h1,h2,h3⟩
 ·obtain ⟨zy,z1,z2⟩:=J5 (ρ:=ρ) hz
  exact ⟨_,by simp [Instr.lookup,run_underlying hu,so,bZ (m5 hd hk) w,bZ (pw hk h2) w,bZ z1 w],fin (vv:=(zy,false)) h1 z2 rfl⟩
 exact ⟨_,by simp [Instr.lookup,run_underlying hu,so,bZ (m5 hd hk) w,bZ (pw hk h3) w],fin (vv:=(yy,true)) h1 h2 rfl⟩
theorem EZ {T kt et:TypeId} {s:Bool} {d:TypeDesc} {p q r:Oq} {x y z:Value} (hu:P.underlying T=some (.map kt et)) (hk:P.underlying kt=some d) (hd:kindOk s d)
  (hR:RH P Fr ρ h w) (hx:RV ρ (dR e p) x) (hy:RV ρ (dR e q) y) (hz:RV ρ (dR e r) z) (hh:PD e h n s p q r = .ok v h' n'):Gw P (Instr.mapUpdate T x y z) w λ w'=>jg P Fr ρ v h' undef w':=by
 obtain ⟨b,e1,hh⟩:=YN hh
 obtain ⟨c,l,hb,hh⟩:=Di hh
 rw [e1] at hx
 obtain ⟨qq,hq,rfl⟩:=hx
 obtain ⟨q2,es,g1,g2,g3⟩:=hR.map hb
 rw [hq] at g1; cases g1
 have so:=run_get (P:=P) g2 (λ _ _ _ hh=>by cases hh)
 rw [V.nS] at hh
 obtain ⟨c',l',h1,h2⟩:=Nf (i:=0) hd hy hz g3 hh
 obtain ⟨rfl,rfl,_⟩:=bX h1
 have key:∀ {o:Obj},Body P ρ (.m c' l') qq o->(Instr.mapUpdate T (.map (some qq.k)) y z).run P w = .ok () (BP w qq.k o)->Gw P (Instr.mapUpdate T (.map (some qq.k)) y z) w λ w'=>jg P Fr ρ Bp (ew h (.m c' l') b) undef w':=
  λ hB hr=>⟨_,hr,ρ,Le.refl _,hR.Nj (zD hb) hq g2 hB,jQ ρ⟩
 rcases h2 with ⟨h2,rfl,h3⟩ | ⟨j,en,h2,h3,h4,rfl,h5⟩
 ·refine key ⟨_,rfl,h3⟩ ?_
  unfold Instr.mapUpdate
  rw [aY (bZ (aS hu) w)]
  dsimp only
  rw [aY so]
  dsimp only
  rw [aY (bZ (m5 hd hk) w),aY (bZ (pw hk h2) w)]
  dsimp only
  rw [show (List.toArray es).push ⟨y,z,c⟩=List.toArray (es++[⟨y,z,c⟩]) from by simp]
  exact run_set g2 (λ _ _ _ hh=>by cases hh)
 refine key ⟨_,rfl,h5⟩ ?_
 unfold Instr.mapUpdate
 rw [aY (bZ (aS hu) w)]
 dsimp only
 rw [aY so]
 dsimp only
 rw [aY (bZ (m5 hd hk) w),aY (bZ (pw hk h2) w)]
 dsimp only
 rw [Nat.zero_add]
 have ad0:(Instr.keyThatStays ((((List.toArray es)[j]?).map (·.key)).getD y) y).run P w = .ok y w:=by
  rw [List.getElem?_toArray,h3]
  unfold Instr.keyThatStays
  show (if Instr.sameBits 10000 en.key y=true then _ else _:Sem Value).run P w=_
  rw [if_pos h4]; rfl
 rw [aY ad0]
 rw [show (List.toArray es).modify j (λ e=>{e with key:=y,val:=z})=List.toArray (es.modify j λ e=>{e with key:=y,val:=z}) from by simp]
 exact run_set g2 (λ _ _ _ hh=>by cases hh)
theorem PY {T U R kt et:TypeId} {s:Bool} {d:TypeDesc} {p q:Oq} {x y:Value} (hu:P.underlying T=some (.map kt et)) (hk:P.underlying kt=some d) (hd:kindOk s d)
  (hR:RH P Fr ρ h w) (hx:RV ρ (dR e p) x) (hy:RV ρ (dR e q) y) (hh:PE e h n s p q = .ok v h' n'):ji P (Builtin.delete_ #[T,U] R [x,y].toArray) w (jg P Fr ρ v h'):=by
 obtain ⟨b,e1,hh⟩:=YN hh
 obtain ⟨c,l,hb,hh⟩:=Di hh
 rw [e1] at hx
 obtain ⟨qq,hq,rfl⟩:=hx
 obtain ⟨q2,es,g1,g2,g3⟩:=hR.map hb
 rw [hq] at g1; cases g1
 have so:=run_get (P:=P) g2 (λ _ _ _ hh=>by cases hh)
 obtain ⟨l',h1,h2⟩:=Ng (i:=0) hd hy g3 hh
 obtain ⟨rfl,rfl,_⟩:=bX h1
 rcases h2 with ⟨h2,h3⟩ | ⟨j,yy,h2,h3⟩
 ·have lY:=run_set (P:=P) (o':=.map (List.toArray es) c) g2 (λ _ _ _ hh=>by cases hh)
  refine ⟨undef,_,?_,ρ,Le.refl _,hR.Nj (zD hb) hq g2 ⟨_,rfl,h3⟩,jQ ρ⟩
  simp [Builtin.delete_,run_underlying hu,so,bZ (m5 hd hk) w,bZ (pw hk h2) w,lY]
  rfl
 rw [Nat.zero_add] at h2
 have lY:=run_set (P:=P) (o':=.map (List.toArray (es.eraseIdx j)) c) g2 (λ _ _ _ hh=>by cases hh)
 refine ⟨undef,_,?_,ρ,Le.refl _,hR.Nj (zD hb) hq g2 ⟨_,rfl,h3⟩,jQ ρ⟩
 simp [Builtin.delete_,run_underlying hu,so,bZ (m5 hd hk) w,bZ (pw hk h2) w,lY]
 rfl
theorem Tp {T R kt et:TypeId} {p:Oq} {x:Value} (hu:P.underlying T=some (.map kt et)) (hR:RH P Fr ρ h w) (hx:RV ρ (dR e p) x) (hh:Bx e h n .map p = .ok v h' n') :
  yj P (Builtin.len_ #[T] R [x].toArray) w λ y=>jg P Fr ρ v h' y w:=by
 obtain ⟨b,e1,hh⟩:=YN hh
 obtain ⟨c,l,hb,hh⟩:=Di hh
 obtain ⟨rfl,rfl,_⟩:=bX hh
 rw [e1] at hx
 obtain ⟨qq,hq,rfl⟩:=hx
 obtain ⟨q2,es,g1,g2,g3⟩:=hR.map hb
 rw [hq] at g1; cases g1
 have so:=run_get (P:=P) g2 (λ _ _ _ hh=>by cases hh)
 have hlen:∀ {l:ML} {es:List MapEntry},RM ρ l es->S5 l=es.length:=by
  intro l
  induction l with
  | nil=>intro es hm; obtain rfl:es=[]:=hm; rfl
  | cons k u b r ih=>intro es ⟨en,pI,h1,_,_,_,h4⟩; rw [h1]; show Nat.succ (S5 r)=_; rw [ih h4]; rfl
 refine JX (y:=goInt ((List.toArray es).size:Int)) ?_ hR (show _=_ by rw [hlen g3]; rfl)
 simp [Builtin.len_,run_underlying hu,so]
theorem Zj {T kt et:TypeId} {p:Oq} {x:Value} (hu:P.underlying T=some (.map kt et)) (hR:RH P Fr ρ h w) (hx:RV ρ (dR e p) x) (hh:PF e h n p = .ok v h' n'):ji P (Instr.range T x) w (jg P Fr ρ v h'):=by
 obtain ⟨b,e1,hh⟩:=YN hh
 obtain ⟨c,l,hb,hh⟩:=Di hh
 obtain ⟨hn,hh⟩:=kC hh
 obtain ⟨rfl,rfl,_⟩:=bX hh
 rw [e1] at hx
 obtain ⟨qq,hq,rfl⟩:=hx
 obtain ⟨q2,es,g1,g2,g3⟩:=hR.map hb
 rw [hq] at g1; cases g1
 have so:=run_get (P:=P) g2 (λ _ _ _ hh=>by cases hh)
 have le:=oW (q:=⟨w.heap.size,0,0,0⟩) (hR.fresh n hn)
 refine ⟨.pointer (some ⟨w.heap.size,0,none⟩),push w (.mapIter (some qq.k) c #[] c),?_,_,le,hR.new hn rfl rfl ⟨rfl,qq,le _ _ hq,rfl⟩,⟨_,je _ _ _,rfl⟩⟩
 simp [Instr.range,run_underlying hu,so,push]
theorem E0 {a b c d f r:Nat} (hb:dH h r = .it a b c d f):live (dH h r):=by rw [hb]; trivial
theorem RH.iter {r m c st b k c':Nat} {l:ML} (hR:RH P Fr ρ h w) (hb:dH h r = .it m c st b k) (hm:dH h m = .m c' l):∃ q qm es,ρ r=some q/\q.b=0/\ρ m=some qm/\w.heap[q.k]? = some (.mapIter (some qm.k) c (if st=0 then #[] else #[b]) k)/\
  w.heap[qm.k]? = some (.map (List.toArray es) c')/\RM ρ l es:=by
 obtain ⟨q,o,h1,h2,h3⟩:=hR.lv r (E0 hb)
 rw [hb] at h3
 obtain ⟨h0,qm,h4,rfl⟩:=h3
 obtain ⟨q2,es,g1,g2,g3⟩:=hR.map hm
 rw [h4] at g1; cases g1
 exact ⟨q,qm,es,h1,h0,h4,h2,g2,g3⟩
theorem Zk {p:Oq} {x:Value} (hR:RH P Fr ρ h w) (hx:RV ρ (dR e p) x) (hh:PI e h n p = .ok v h' n'):yj P (Instr.entry x) w λ y=>jg P Fr ρ v h' y w:=by
 obtain ⟨r,o,e1,hh⟩:=M6 hh
 obtain ⟨ho,hh⟩:=cP hh
 have ho:=eW ho
 obtain ⟨m,c,st,b,k,hb,hh⟩:=YP hh
 obtain ⟨c',l,hm,hh⟩:=Di hh
 obtain ⟨q,qm,es,g1,g0,g2,g3,g4,g5⟩:=hR.iter hb hm
 rw [e1] at hx
 obtain ⟨q',hq,rfl⟩:=hx
 rw [g1] at hq; cases hq
 subst ho
 rw [g0]
 have Dl:=run_get (P:=P) g3 (λ _ _ _ hh=>by cases hh)
 have J7:=run_get (P:=P) g4 (λ _ _ _ hh=>by cases hh)
 unfold MZ at hh
 cases l with
 | nil=>cases hh
 | cons kk u b' r'=>
  cases r' with
  | cons _ _ _ _=>cases hh
  | nil=>
   obtain ⟨en,pI,rfl,h1,h2,h3,h4⟩:=g5
   obtain rfl:pI=[]:=h4
   obtain ⟨hc,hh5⟩:=cP (show dM (dI (Nat.beq st 1) (dI (Nat.beq c' k) (Nat.beq b b'))) _ .no = .ok v h' n' from hh)
   obtain ⟨c1,hc⟩:=ed hc
   obtain ⟨c2,c3⟩:=ed hc
   have c1:=eW c1
   have c2:=eW c2
   have c3:=eW c3
   obtain ⟨e1',Tq,_⟩:=bX hh5
   subst c1; subst c2; subst c3; subst e1'; subst Tq
   refine JX (y:=.tuple #[en.key,en.val]) ?_ hR ⟨[en.key,en.val],⟨_,_,rfl,h1,_,_,rfl,h2,rfl⟩,rfl⟩
   subst h3
   simp [Instr.entry,Dl,J7]
theorem Zl {T:TypeId} {p:Oq} {x:Value} (hR:RH P Fr ρ h w) (hx:RV ρ (dR e p) x) (hh:PH e h n p = .ok v h' n'):ji P (Instr.next x false T) w (jg P Fr ρ v h'):=by
 obtain ⟨r,o,e1,hh⟩:=M6 hh
 obtain ⟨ho,hh⟩:=cP hh
 have ho:=eW ho
 obtain ⟨m,c,st,b,k,hb,hh⟩:=YP hh
 obtain ⟨c',l,hm,hh⟩:=Di hh
 obtain ⟨q,qm,es,g1,g0,g2,g3,g4,g5⟩:=hR.iter hb hm
 rw [e1] at hx
 obtain ⟨q',hq,rfl⟩:=hx
 rw [g1] at hq; cases hq
 subst ho
 rw [g0]
 have Dl:=run_get (P:=P) g3 (λ _ _ _ hh=>by cases hh)
 have J7:=run_get (P:=P) g4 (λ _ _ _ hh=>by cases hh)
 have Zm:∀ {v':V} {YZ:Hp} {m':Nat},OR.ok JO h n = .ok v' YZ m'->jg P Fr ρ v' YZ (.tuple #[.bool false]) w:=λ hh=>by
  obtain ⟨rfl,rfl,_⟩:=bX hh
  exact hR.post ⟨[.bool false],⟨_,_,rfl,rfl,rfl⟩,rfl⟩
 unfold MZ at hh
 cases l with
 | nil=>
  obtain rfl:es=[]:=g5
  refine ⟨_,w,?_,Zm hh⟩
  simp [Instr.next,Dl,J7,Question.forced]
 | cons kk u b' r'=>
  cases r' with
  | cons _ _ _ _=>cases hh
  | nil=>
   obtain ⟨en,pI,rfl,h1,h2,h3,h4⟩:=g5
   obtain rfl:pI=[]:=h4
   cases st with
   | zero=>
    obtain ⟨fS,hh⟩:=cP (show dM (Nat.blt b' c) _ .no = .ok v h' n' from hh)
    have fS:=mC fS
    obtain ⟨rfl,rfl,_⟩:=bX hh
    refine ⟨.tuple #[.bool true,en.key,en.val],BP w q.k (.mapIter (some qm.k) c #[b'] c'),?_,ρ,Le.refl _,hR.Nj (E0 hb) g1 g3 ⟨g0,qm,g2,rfl⟩,⟨[.bool true,en.key,en.val],⟨_,_,rfl,rfl,_,_,rfl,h1,_,_,rfl,h2,rfl⟩,rfl⟩⟩
    subst h3
    have lY:=run_set (P:=P) (o':=.mapIter (some qm.k) c #[en.born] c') g3 (λ _ _ _ hh=>by cases hh)
    have hn:¬ c<=en.born:=by omega
    have Dl:(getObj q.k).run P w = .ok (.mapIter (some qm.k) c #[] k) w:=Dl
    simp [Instr.next,Dl,J7,fS,hn,Question.forced,lY]
   | succ st=>
    obtain ⟨hc,hh5⟩:=cP (show dM (dI (Nat.beq b b') (Nat.blt b' k)) _ .no = .ok v h' n' from hh)
    obtain ⟨c1,c2⟩:=ed hc
    have c1:=eW c1
    have c2:=mC c2
    have ov:=Zm hh5
    subst c1
    refine ⟨_,w,?_,ov⟩
    subst h3
    simp [Instr.next,Dl,J7,c2,Question.forced]
end
def nU (P:Program) (eJ:wg):Prop:=∀ (c args:V) (h:Hp) (n:Nat) (v:V) (h':Hp) (n':Nat),eJ c args h n = .ok v h' n'->
 ∀ (Fr:m4) (ρ:Rn) (w:World) (x:Value) (xs:List Value),RV ρ c x->gE ρ args xs->RH P Fr ρ h w->gi P x xs w (jg P Fr ρ v h')
section
variable {P:Program} {eJ:wg} {Fr:m4} {ρ:Rn} {h h':Hp} {w:World} {v:V} {n n':Nat} {e:En} {e':Env}
theorem ei {x:Operand} {k:Oq->FN} (hh:xf (q1 x k) P eJ e h n = .ok v h' n'):∃ q,oq x=some q/\xf (k q) P eJ e h n = .ok v h' n':=by
 unfold q1 at hh
 split at hh
 ·rename_i q hq; exact ⟨q,hq,hh⟩
 cases hh
theorem mD {b:Bool} {q:FN} (hh:xf (bif b then q else .bad) P eJ e h n = .ok v h' n'):b=true/\xf q P eJ e h n = .ok v h' n':=by
 cases b with
 | true=>exact ⟨rfl,hh⟩
 | false=>cases hh
theorem ad2 {f:FuncId} {xs:List Value} {K:Value->World->Prop} (hc:gi P (.func (.func f) #[] #[]) xs w K):tj P f xs w K:=by
 rcases hc.ex with ⟨g,first,cap,h1,h2,h3⟩ | ⟨l,h1,_⟩
 ·injection h1 with a b c
  injection a with a
  subst a; subst b; subst c
  exact ⟨.inl ⟨h2,by simpa using h3⟩⟩
 cases h1
theorem F9 {s : String} {e : Array Value -> Sem Value} (h : Ta s = some e) {fn : Func} (hn : fn.name = s) (ho : fn.origin = "") : (fn.name == "runtime.NumGoroutine") = false /\ Extern.findNext fn = none /\ Extern.find fn = some e := by
 unfold Ta at h
 cases h1 : s == "internal/bytealg.CountString" with
 | true=>
  rw [h1] at h; cases h
  have:=eq_of_beq h1; subst this
  unfold Extern.findNext Extern.find
  rw [hn,ho]
  exact ⟨by decide,by kernel_rfl,by kernel_rfl⟩
 | false=>
  rw [h1] at h
  cases h2 : s == "internal/bytealg.IndexByteString" with
  | true=>
   rw [h2] at h; cases h
   have:=eq_of_beq h2; subst this
   unfold Extern.findNext Extern.find
   rw [hn,ho]
   exact ⟨by decide,by kernel_rfl,by kernel_rfl⟩
  | false=>
   rw [h2] at h
   cases h3 : s == "internal/bytealg.IndexString" with
   | true=>
    rw [h3] at h; cases h
    have:=eq_of_beq h3; subst this
    unfold Extern.findNext Extern.find
    rw [hn,ho]
    exact ⟨by decide,by kernel_rfl,by kernel_rfl⟩
   | false=>rw [h3] at h; cases h
theorem Nk {P:Program} {f:Nat} {e:Array Value->Sem Value} (h:JT P f=some e) {args:Array Value} {v:Value} {w w':World} (hr:(e args).run P w = .ok v w'):(callFunc f args).run P w = .ok (.value v) w':=by
 unfold JT at h
 split at h
 ·cases h
 rename_i fn hf
 cases hb : (fn.body.isNone && fn.origin == "") with
 | false=>rw [hb] at h; cases h
 | true=>
  rw [hb] at h
  rw [Bool.and_eq_true] at hb
  obtain ⟨a,b,c⟩:=F9 h rfl (eq_of_beq hb.2)
  show (match P.funcs[f]? with | none=>_ | some fn=>_:Sem Next).run P w=_
  rw [hf]
  simp only [a,hb.1,b,c]
  exact xi hr
theorem BQ (hc:nU P eJ) {o:Oper} (cA:xf (mA P o) P eJ e h n = .ok v h' n') (hE:RE ρ e e') (hR:RH P Fr ρ h w):wL P (py P o (ev e')) (jg P Fr ρ v h') w:=by
 unfold mA at cA
 unfold py
 cases gd:o.op <;> rw [gd] at cA <;> dsimp only at cA |- <;> try (exact (show False by cases cA).elim)
 case move x=>
  obtain ⟨q,hq,cA⟩:=ei cA
  have cA:(dR e q).fc (λ v=>.ok v h n) = .ok v h' n':=cA
  rw [V.nS] at cA
  obtain ⟨rfl,rfl,_⟩:=bX cA
  exact hR.post (bE hE hq)
 case assign x=>
  obtain ⟨q,hq,cA⟩:=ei cA
  have cA:(dR e q).fc (λ v=>.ok v h n) = .ok v h' n':=cA
  rw [V.nS] at cA
  obtain ⟨rfl,rfl,_⟩:=bX cA
  exact hR.post (bE hE hq)
 case pick c a b=>
  obtain ⟨q1,jU,cA⟩:=ei cA
  obtain ⟨q2,od,cA⟩:=ei cA
  obtain ⟨q3,KS,cA⟩:=ei cA
  exact Td hR (bE hE jU) (bE hE od) (bE hE KS) cA
 case alloc t=>
  split at cA
  ·rename_i z hz; exact Na hz hR cA
  ·cases cA
 case box t x=>
  obtain ⟨q,hq,cA⟩:=ei cA
  exact Y6 hR (bE hE hq) cA
 case build t ps=>
  split at cA
  ·rename_i fs z l hu hz hl
   obtain ⟨hf,cA⟩:=mD cA
   exact J1 hu hz hl hf hR hE cA
  ·rename_i k E z l hu hz
   split at cA
   ·rename_i l2 hl
    obtain ⟨hf,cA⟩:=mD cA
    exact J2 hu hz hl hf hR hE cA
   ·cases cA
  ·cases cA
 case buildSlice t k ps=>
  split at cA
  ·rename_i E es by' k2 hf
   split at cA
   ·rename_i z l hz hl
    obtain ⟨hb,cA⟩:=mD cA
    simp only [Bool.and_eq_true] at hb
    obtain ⟨b1,b2,b3⟩:=hb
    have b1:=eW b1
    subst b1
    exact Y7 hf hz hl (dV b2) (dV b3) hR hE cA
   ·cases cA
  ·cases cA
 case insert t m k x=>
  obtain ⟨q1,jU,cA⟩:=ei cA
  obtain ⟨q2,od,cA⟩:=ei cA
  obtain ⟨q3,KS,cA⟩:=ei cA
  split at cA
  ·rename_i kt et hu
   split at cA
   ·rename_i kk hk; exact EZ (s:=false) (d:=.int kk) hu hk trivial hR (bE hE jU) (bE hE od) (bE hE KS) cA
   ·rename_i hk; exact EZ (s:=true) (d:=.string) hu hk trivial hR (bE hE jU) (bE hE od) (bE hE KS) cA
   ·cases cA
  ·cases cA
 case load t a=>
  split at cA
  ·rename_i ht
   obtain ⟨q,hq,cA⟩:=ei cA
   exact YQ ht hR (bE hE hq) cA
  ·rename_i k ht
   obtain ⟨q,hq,cA⟩:=ei cA
   exact PQ ht hR (bE hE hq) cA
  ·cases cA
 case store t a x=>
  obtain ⟨q1,jU,cA⟩:=ei cA
  obtain ⟨q2,od,cA⟩:=ei cA
  split at cA
  ·rename_i ag k ht; exact adX ht hR (bE hE jU) (bE hE od) cA
  ·cases cA
 case nilCheck x=>
  obtain ⟨q,hq,cA⟩:=ei cA
  exact YR hR (bE hE hq) cA
 case binOp op t x y u=>
  obtain ⟨q1,jU,cA⟩:=ei cA
  obtain ⟨q2,od,cA⟩:=ei cA
  obtain ⟨z,g1,g2,g3⟩:=Y0 (bE hE jU) (bE hE od) cA
  subst g3
  split
  ·exact JX (bZ g1 w) hR g2
  ·exact iS g1 hR g2
 case unOp op t x=>
  obtain ⟨q,hq,cA⟩:=ei cA
  cases op with
  | not=>exact YS hR (bE hE hq) cA
  | _=>exact PR (n:=n) hR (bE hE hq) cA
 case convert s d x=>
  obtain ⟨q,hq,cA⟩:=ei cA
  by_cases h0:xh P s d=0
  ·rw [h0] at cA |-
   exact PR hR (bE hE hq) cA
  ·rw [show Nat.beq (xh P s d) 0=false from Bool.eq_false_iff.2 λ hh=>h0 (eW hh)] at cA
   dsimp only [cond_false] at cA
   split at cA
   ·rename_i E h1 h2
    split at cA
    ·rename_i k h3 h4
     have:xh P s d=2:=by unfold xh; rw [h2]
     rw [this]
     exact Zf (by':=0) h1 h2 h3 hR (bE hE hq) cA
    ·cases cA
   ·cases cA
 case makeFunc fn first cap=>
  split at cA
  ·rename_i g l hf hl
   have e1:first.toList=[]:=hf
   rw [e1]
   exact Zh hR (m3 hE hl) cA
  ·cases cA
 case makeMap t r=>
  cases r with
  | none=>exact Zi hR cA
  | some _=>cases cA
 case makeSlice t l c=>
  obtain ⟨q1,jU,cA⟩:=ei cA
  obtain ⟨q2,od,cA⟩:=ei cA
  split at cA
  ·rename_i E es by' k hf
   split at cA
   ·rename_i z hz
    obtain ⟨hb,cA⟩:=mD cA
    simp only [Bool.and_eq_true] at hb
    obtain ⟨b1,b2,b3⟩:=hb
    have b1:=eW b1
    subst b1
    exact Y9 hf hz (dV b2) (dV b3) hR (bE hE jU) (bE hE od) cA
   ·cases cA
  ·cases cA
 case slice t x lo hi mx=>
  obtain ⟨q1,jU,cA⟩:=ei cA
  split at cA
  ·rename_i l u m hl hu hm
   split at cA
   ·rename_i hT
    cases mx with
    | none=>exact YU hT hR hE (bE hE jU) hl hu cA
    | some _=>cases cA
   ·rename_i E hT
    obtain ⟨hb,cA⟩:=mD cA
    simp only [Bool.and_eq_true] at hb
    exact Y2 hT rfl (dV hb.1) hR hE (bE hE jU) hl hu hm hb.2 cA
   ·cases cA
  ·cases cA
 case fieldAddr s x f=>
  obtain ⟨q1,jU,cA⟩:=ei cA
  split at cA
  ·rename_i off ht; exact adQ ht hR (bE hE jU) cA
  ·cases cA
 case field t x f=>
  obtain ⟨q1,jU,cA⟩:=ei cA
  split at cA
  ·rename_i fs hu
   split at cA
   ·rename_i fd hf
    split at cA
    ·rename_i m ht; exact Y1 hu hf ht hR (bE hE jU) cA
    ·rename_i m ht; exact Tf hu hf ht hR (bE hE jU) cA
    ·cases cA
   ·cases cA
  ·cases cA
 case indexAddr t x i=>
  obtain ⟨q1,jU,cA⟩:=ei cA
  obtain ⟨q2,od,cA⟩:=ei cA
  split at cA
  ·rename_i E hu
   obtain ⟨hb,cA⟩:=mD cA
   exact adS hu rfl (dV hb) hR (bE hE jU) (bE hE od) cA
  ·rename_i k E hu
   obtain ⟨hb,cA⟩:=mD cA
   exact YX hu rfl (dV hb) hR (bE hE jU) (bE hE od) cA
  ·cases cA
 case index t x i=>
  obtain ⟨q1,jU,cA⟩:=ei cA
  obtain ⟨q2,od,cA⟩:=ei cA
  split at cA
  ·rename_i hu; exact YW hu hR (bE hE jU) (bE hE od) cA
  ·rename_i k E hu
   split at cA
   ·rename_i es ht; exact Tg hu ht hR (bE hE jU) (bE hE od) cA
   ·rename_i es ht; exact Th hu ht hR (bE hE jU) (bE hE od) cA
   ·cases cA
  ·cases cA
 case lookup t x i ok=>
  obtain ⟨q1,jU,cA⟩:=ei cA
  obtain ⟨q2,od,cA⟩:=ei cA
  split at cA
  ·rename_i kt et hu
   split at cA
   ·rename_i z kk hz hk; exact J6 (s:=false) (d:=.int kk) hu hk trivial hz hR (bE hE jU) (bE hE od) cA
   ·rename_i z hz hk; exact J6 (s:=true) (d:=.string) hu hk trivial hz hR (bE hE jU) (bE hE od) cA
   ·cases cA
  ·cases cA
 case mapUpdate t m k x=>
  obtain ⟨q1,jU,cA⟩:=ei cA
  obtain ⟨q2,od,cA⟩:=ei cA
  obtain ⟨q3,KS,cA⟩:=ei cA
  split at cA
  ·rename_i kt et hu
   split at cA
   ·rename_i kk hk; exact EZ (s:=false) (d:=.int kk) hu hk trivial hR (bE hE jU) (bE hE od) (bE hE KS) cA
   ·rename_i hk; exact EZ (s:=true) (d:=.string) hu hk trivial hR (bE hE jU) (bE hE od) (bE hE KS) cA
   ·cases cA
  ·cases cA
 case range t x=>
  obtain ⟨q1,jU,cA⟩:=ei cA
  split at cA
  ·rename_i kt et hu; exact Zj hu hR (bE hE jU) cA
  ·cases cA
 case next x s=>
  obtain ⟨q1,jU,cA⟩:=ei cA
  cases s with
  | true=>cases cA
  | false=>exact Zl hR (bE hE jU) cA
 case entry x=>
  obtain ⟨q1,jU,cA⟩:=ei cA
  exact Zk hR (bE hE jU) cA
 case extract x i=>
  obtain ⟨q1,jU,cA⟩:=ei cA
  exact YT hR (bE hE jU) cA
 case call c=>
  split at cA
  ·rename_i f hf
   split at cA
   ·rename_i l hl
    rw [hf]
    split at cA
    ·rename_i g hg
     obtain ⟨y,h1,h2⟩:=(Dj hR (m3 hE hl) cA).ex
     exact ⟨.inr ⟨y,w,Nk hg (bZ h1 w),h2⟩⟩
    ·exact ad2 (hc _ _ _ _ _ _ _ cA Fr ρ w _ _ ⟨[],rfl,rfl⟩ (m3 hE hl) hR)
   ·cases cA
  ·rename_i x hnf hf
   obtain ⟨q1,jU,cA⟩:=ei cA
   split at cA
   ·rename_i l hl
    rw [hf]
    have:=hc _ _ _ _ _ _ _ cA Fr ρ w _ _ (bE hE jU) (m3 hE hl) hR
    cases x <;> first | exact this | exact absurd rfl (hnf _)
   ·cases cA
  ·cases cA
  ·rename_i b hf
   rw [hf]
   dsimp only
   split at cA
   ·
    rename_i t x ht hx
    obtain ⟨q1,jU,cA⟩:=ei cA
    have e1:c.argTypes = #[t]:=by rw [<- Array.toArray_toList (xs:=c.argTypes),ht]
    rw [hx,e1]
    show wL P (if isMap P t=true then _ else _) _ w
    split at cA
    ·rename_i hu
     rw [if_neg (by unfold isMap; rw [hu]; simp)]
     exact Tj hu hR (bE hE jU) cA
    ·rename_i E hu
     rw [if_neg (by unfold isMap; rw [hu]; simp)]
     split at cA
     ·rename_i r hf
      obtain ⟨E',m,by',z⟩:=r
      exact Tl hf hR (bE hE jU) cA
     ·cases cA
    ·rename_i kt et hu
     rw [if_pos (by unfold isMap; rw [hu])]
     exact Tp hu hR (bE hE jU) cA
    ·cases cA
   ·
    rename_i t x ht hx
    obtain ⟨q1,jU,cA⟩:=ei cA
    have e1:c.argTypes = #[t]:=by rw [<- Array.toArray_toList (xs:=c.argTypes),ht]
    rw [hx,e1]
    split at cA
    ·rename_i r hf
     obtain ⟨E',m,by',z⟩:=r
     exact Y5 hf hR (bE hE jU) cA
    ·cases cA
   ·
    split at cA
    ·rename_i l hl; exact Dj hR (m3 hE hl) cA
    ·cases cA
   ·
    split at cA
    ·rename_i l hl; exact Dj hR (m3 hE hl) cA
    ·cases cA
   ·
    rename_i t u x y ht hx
    obtain ⟨q1,jU,cA⟩:=ei cA
    obtain ⟨q2,od,cA⟩:=ei cA
    have e1:c.argTypes = #[t,u]:=by rw [<- Array.toArray_toList (xs:=c.argTypes),ht]
    rw [hx,e1]
    split at cA
    ·rename_i E es by' k hf
     obtain ⟨hb,cA⟩:=mD cA
     simp only [Bool.and_eq_true] at hb
     obtain ⟨b1,b2,b3,b4⟩:=hb
     have b1:=eW b1
     subst b1
     refine Za hf (dV b2) (dV b3) ?_ hR (bE hE jU) (bE hE od) cA
     split at b4
     ·rename_i e2 he; exact .inl ⟨e2,he⟩
     ·rename_i he; exact .inr he
     ·cases b4
    ·cases cA
   ·
    rename_i t u x y ht hx
    obtain ⟨q1,jU,cA⟩:=ei cA
    obtain ⟨q2,od,cA⟩:=ei cA
    have e1:c.argTypes = #[t,u]:=by rw [<- Array.toArray_toList (xs:=c.argTypes),ht]
    rw [hx,e1]
    split at cA
    ·rename_i E es by' k hf
     obtain ⟨hb,cA⟩:=mD cA
     exact Zd hf hR (bE hE jU) (bE hE od) cA
    ·cases cA
   ·
    rename_i t u x y ht hx
    obtain ⟨q1,jU,cA⟩:=ei cA
    obtain ⟨q2,od,cA⟩:=ei cA
    have e1:c.argTypes = #[t,u]:=by rw [<- Array.toArray_toList (xs:=c.argTypes),ht]
    rw [hx,e1]
    split at cA
    ·rename_i kt et hu
     split at cA
     ·rename_i kk hk; exact PY (s:=false) (d:=.int kk) hu hk trivial hR (bE hE jU) (bE hE od) cA
     ·rename_i hk; exact PY (s:=true) (d:=.string) hu hk trivial hR (bE hE jU) (bE hE od) cA
     ·cases cA
    ·cases cA
   ·
    rename_i t x ht hx
    obtain ⟨q1,jU,cA⟩:=ei cA
    have e1:c.argTypes = #[t]:=by rw [<- Array.toArray_toList (xs:=c.argTypes),ht]
    rw [hx,e1]
    split at cA
    ·rename_i E es by' k hf
     split at cA
     ·rename_i z hz
      obtain ⟨hb,cA⟩:=mD cA
      have hk:k=es:=by
       obtain ⟨hu,inf,hi,iU,_,yB⟩:=dS hf
       obtain ⟨hc',_⟩:=cP (show dM (Nat.beq (n7 z) es) _ .no = .ok v h' n' from cA)
       have hc':=eW hc'
       obtain ⟨zv,nP,_,z2,_⟩:=pv (ρ:=ρ) hz
       unfold dX at nP
       rw [hi] at nP
       simp only [Option.map_some,Option.some.injEq] at nP
       rw [nP] at yB
       have:zv.cells.size=k:=by simpa using yB
       rw [<- this,<- hc',z2.len,Array.length_toList]
      subst hk
      exact Ze hf hz (dV hb) hR (bE hE jU) cA
     ·cases cA
    ·cases cA
   ·cases cA
end
theorem Ts:∀ t u:Tr V,TV.eqv t u=true->t=u:=by
 intro t
 induction t with
 | lf=>intro u h; cases u with
  | lf=>rfl
  | nd l v r=>cases h
 | nd l v r hl hr=>intro u h; cases u with
  | lf=>cases h
  | nd l' v' r'=>
   obtain ⟨h1,h2⟩:=ed (show dI (V.eqv v v') (dI (TV.eqv l l') (TV.eqv r r'))=true from h)
   obtain ⟨h2,h3⟩:=ed h2
   rw [(oT _ _ h1).1,hl _ h2,hr _ h3]
theorem Tt:∀ a b:ML,ML.eqv a b=true->a=b:=by
 intro a
 induction a with
 | nil=>intro b h; cases b with
  | nil=>rfl
  | cons k v t r=>cases h
 | cons k v t r ih=>intro b h; cases b with
  | nil=>cases h
  | cons k' v' t' r'=>
   obtain ⟨h1,h2⟩:=ed (show dI (V.eqv k k') (dI (V.eqv v v') (dI (Nat.beq t t') (ML.eqv r r')))=true from h)
   obtain ⟨h2,h3⟩:=ed h2
   obtain ⟨h3,h4⟩:=ed h3
   rw [(oT _ _ h1).1,(oT _ _ h2).1,eW h3,ih _ h4]
theorem Tu (a b:HB) (h:HB.eqv a b=true):a=b:=by
 cases a with
 | z=>cases b <;> first | rfl | cases h
 | x=>cases b <;> first | rfl | cases h
 | df=>cases b <;> first | rfl | cases h
 | c n es t=>
  cases b <;> first | cases h | skip
  rename_i n' pI t'
  obtain ⟨h1,h2⟩:=ed (show dI (Nat.beq n n') (dI (Nat.beq es pI) (TV.eqv t t'))=true from h)
  obtain ⟨h2,h3⟩:=ed h2
  rw [eW h1,eW h2,Ts _ _ h3]
 | m c l=>
  cases b <;> first | cases h | skip
  rename_i c' l'
  obtain ⟨h1,h2⟩:=ed (show dI (Nat.beq c c') (ML.eqv l l')=true from h)
  rw [eW h1,Tt _ _ h2]
 | it m c st b0 k=>
  cases b <;> first | cases h | skip
  rename_i m' c' st' b' k'
  obtain ⟨h1,h2⟩:=ed (show dI (Nat.beq m m') (dI (Nat.beq c c') (dI (Nat.beq st st') (dI (Nat.beq b0 b') (Nat.beq k k'))))=true from h)
  obtain ⟨h2,h3⟩:=ed h2
  obtain ⟨h3,h4⟩:=ed h3
  obtain ⟨h4,h5⟩:=ed h4
  rw [eW h1,eW h2,eW h3,eW h4,eW h5]
 | lp st j ps e a b0=>cases h
theorem Tv:∀ t u:Tr HB,TH.eqv t u=true->t=u:=by
 intro t
 induction t with
 | lf=>intro u h; cases u with
  | lf=>rfl
  | nd l v r=>cases h
 | nd l v r hl hr=>intro u h; cases u with
  | lf=>cases h
  | nd l' v' r'=>
   obtain ⟨h1,h2⟩:=ed (show dI (HB.eqv v v') (dI (TH.eqv l l') (TH.eqv r r'))=true from h)
   obtain ⟨h2,h3⟩:=ed h2
   rw [Tu _ _ h1,hl _ h2,hr _ h3]
theorem Dm {α:Type} {f:α->α->Bool} (hf:∀ a b,f a b=true->a=b) (a b:N8 α) (h:FU f a b=true):a=b:=by
 cases a with | mk x0 x1 x2 x3 x4 x5 x6 x7=>
 cases b with | mk y0 y1 y2 y3 y4 y5 y6 y7=>
 obtain ⟨h0,h⟩:=ed (show dI (f x0 y0) (dI (f x1 y1) (dI (f x2 y2) (dI (f x3 y3) (dI (f x4 y4) (dI (f x5 y5) (dI (f x6 y6) (f x7 y7)))))))=true from h)
 obtain ⟨h1,h⟩:=ed h
 obtain ⟨h2,h⟩:=ed h
 obtain ⟨h3,h⟩:=ed h
 obtain ⟨h4,h⟩:=ed h
 obtain ⟨h5,h⟩:=ed h
 obtain ⟨h6,h7⟩:=ed h
 rw [hf _ _ h0,hf _ _ h1,hf _ _ h2,hf _ _ h3,hf _ _ h4,hf _ _ h5,hf _ _ h6,hf _ _ h7]
theorem Tw (a b:En) (h:FU (FU (FU V.eqv)) a b=true):a=b:=Dm (λ a b=>Dm (λ a b=>Dm (λ a b h=>(oT a b h).1) a b) a b) a b h
theorem Nl {a b x:RR} (h:both a b=x) (hx:x≠.no):∃ e h' n,a = .ok e h' n/\x=a/\(b = .any\/∃ m,b = .ok e h' m):=by
 cases a with
 | no=>exact absurd h.symm hx
 | any=>exact absurd h.symm hx
 | ok e h1 n=>cases b with
  | no=>exact absurd h.symm hx
  | any=>exact ⟨e,h1,n,rfl,h.symm,.inl rfl⟩
  | ok e' V6 n'=>
   have hq:Bool.rec (motive:=λ _=>RR) .no (.ok e h1 n) (dI (Nat.beq n n') (dI (FU (FU (FU V.eqv)) e e') (TH.eqv h1 V6)))=x:=h
   cases hb:dI (Nat.beq n n') (dI (FU (FU (FU V.eqv)) e e') (TH.eqv h1 V6)) with
   | false=>rw [hb] at hq; exact absurd hq.symm hx
   | true=>
    rw [hb] at hq
    obtain ⟨_,g1⟩:=ed hb
    obtain ⟨g1,g2⟩:=ed g1
    have:=Tw _ _ g1; subst this
    have:=Tv _ _ g2; subst this
    exact ⟨e,h1,n,rfl,hq.symm,.inr ⟨n',rfl⟩⟩
theorem BR {a:OR} {k:V->Hp->Nat->RR} {x:RR} (h:ye a k=x) (hx:x≠.no):∃ v h' n',a = .ok v h' n'/\k v h' n'=x:=by
 cases a with
 | no=>exact absurd h.symm hx
 | ok v h' n'=>exact ⟨v,h',n',rfl,h⟩
section
variable {P:Program} {eJ:wg} {Fr:m4} {ρ:Rn} {h:Hp} {w:World} {e:En} {e':Env} {n:Nat} {ops:List Oper}
theorem Nm {v:V} {t:Bool} (h:RV ρ v (.bool t)):v = .b t:=by
 cases v with
 | b x=>have h:Value.bool t = .bool x:=h; injection h with h; rw [h]
 | _=>simp [RV,RP] at h
theorem Zn {s y:RR} (c:Bool):Bool.rec (motive:=λ _=>RR) s y c=if c=true then y else s:=by cases c <;> rfl
theorem J8 {o:Oper} {g:GS} (hg:tO ops o=some g) (hE:RE ρ e e') (y s:RR):evG g e y s=if gw ops o e'=true then y else s:=by
 unfold tO at hg
 cases ho:o.guard with
 | none=>
  rw [ho] at hg; cases hg
  have hB:gw ops o e'=true:=by unfold gw; rw [ho]
  rw [if_pos hB]; rfl
 | some jb=>
  obtain ⟨j,b⟩:=jb
  rw [ho] at hg
  dsimp only at hg
  cases hs:n8 ops j with
  | none=>rw [hs] at hg; cases hg
  | some s0=>
   rw [hs] at hg
   dsimp only at hg
   have hB:gw ops o e'=(match e' s0 with | .bool b'=>b' == b | _=>false):=by simp only [gw,ho,hs]; rfl
   cases hk:sb s0 with
   | none=>rw [hk] at hg; cases hg
   | some k=>
    rw [hk] at hg
    cases hg
    have hr:=hE s0 k hk
    show (k.get e).MN s (λ x=>Bool.rec (motive:=λ _=>RR) s y (FT x b))=_
    rcases V.JA (k.get e) s (λ x=>Bool.rec (motive:=λ _=>RR) s y (FT x b)) with h0 | ⟨x,h0,h1⟩
    ·by_cases hy:∃ t,e' s0 = .bool t
     ·obtain ⟨t,hy⟩:=hy
      rw [hy] at hr hB
      have hb:=Nm hr
      rw [hb,hB]
      show Bool.rec (motive:=λ _=>RR) s y (FT t b)=_
      rw [wu]
      exact Zn _
     ·have hF:gw ops o e'=false:=by
       rw [hB]
       split
       ·rename_i b' nR; exact absurd ⟨b',nR⟩ hy
       ·rfl
      rw [h0,if_neg (by rw [hF]; simp)]
    ·rw [h1,wu]
     have hy:e' s0 = .bool x:=by rw [h0] at hr; exact hr
     rw [hy] at hB
     rw [hB]
     exact Zn _
def QR (P:Program) (Fr:m4) (ρ:Rn) (e1:En) (h1:Hp):Env->World->Prop:=λ e' w'=>∃ ρ',Le ρ ρ'/\RE ρ' e1 e'/\RH P Fr ρ' h1 w'
theorem QR.mono {ρ':Rn} {e1:En} {h1:Hp} (hl:Le ρ ρ') {e':Env} {w':World} (hq:QR P Fr ρ' e1 h1 e' w'):QR P Fr ρ e1 h1 e' w':=
 let ⟨r,a,b,c⟩:=hq; ⟨r,hl.trans a,b,c⟩
theorem BS (hc:nU P eJ) (hE:RE ρ e e') (hR:RH P Fr ρ h w):∀ {is:List Nat} {ks:KL},yf P ops is=some ks->∀ {k x:RR},keeps ks P eJ e h n k=x->x≠.no->k=x/\∀ r∈is.map (hJ ops),jr P ops r e' w True:=by
 intro is
 induction is with
 | nil=>intro ks hk k x hh hx; cases hk; exact ⟨hh,by simp⟩
 | cons i is ih=>
  intro ks hk k x hh hx
  unfold yf at hk
  split at hk
  ·rename_i g kr d hg hkr hd Qu
   cases hk
   have hh:evG g e (ye (xf (mA P (hJ ops i)) P eJ e h n) λ v _ _=>Bool.rec (motive:=λ _=>RR) .no (keeps kr P eJ e h n k) (V.eqv v (d.get e))) (keeps kr P eJ e h n k)=x:=hh
   rw [J8 hg hE] at hh
   have fin:keeps kr P eJ e h n k=x->jr P ops (hJ ops i) e' w True->k=x/\∀ r∈(i::is).map (hJ ops),jr P ops r e' w True:=λ h1 h2=>by
    obtain ⟨a,b⟩:=ih hkr h1 hx
    refine ⟨a,λ r hr=>?_⟩
    rcases List.mem_cons.1 hr with rfl | hr
    ·exact h2
    ·exact b r hr
   by_cases hw:gw ops (hJ ops i) e'=true
   ·rw [if_pos hw] at hh
    obtain ⟨v,h1,n1,gd,hh⟩:=BR hh hx
    cases hv:V.eqv v (d.get e) with
    | false=>rw [hv] at hh; exact absurd hh.symm hx
    | true=>
     rw [hv] at hh
     refine fin hh ?_
     have hD:=BQ hc gd hE hR
     have hrs:(py P (hJ ops i) (ev e')).reads=true:=by rw [(uN _ (λ _=>undef)).2]; exact Qu
     unfold jr
     rw [hw]
     dsimp only [cond_true]
     cases hkk:py P (hJ ops i) (ev e') <;> rw [hkk] at hrs hD <;> first | cases hrs | skip
     rename_i m
     obtain ⟨d0,hd0,hd1⟩:=Option.bind_eq_some_iff.1 hd
     rw [hd0]
     obtain ⟨y,lB,ρ2,hle,_,hyv⟩:=(show yj P m w (λ v'=>jg P Fr ρ v h1 v' w) from hD).ex
     obtain ⟨q1,q2⟩:=oT _ _ hv
     have:=hE.mono hle d0 d hd1
     rw [<- q1] at this
     have e1:=(q2 ρ2).1 _ _ hyv this
     exact ⟨by rw [<- e1]; exact lB,trivial⟩
   ·rw [if_neg hw] at hh
    refine fin hh ?_
    unfold jr
    rw [Bool.not_eq_true] at hw
    rw [hw]
    trivial
  ·cases hk
theorem qC (hc:nU P eJ) {o:Oper} {g:GS} {d:Ds} {is:List Nat} {ks:KL} (hg:tO ops o=some g) (hd:De o=some d) (hk:yf P ops is=some ks) {ix B:Nat} {k:En->Hp->Nat->RR} {x:RR}
  (hh:Bz P eJ ix g (mA P o) d ks k B e h n=x) (hx:x≠.no) (hE:RE ρ e e') (hR:RH P Fr ρ h w) {K:Env->World->Prop}
  (hK:∀ e2 h2 n2 ρ2 Tq w2,Le ρ ρ2->RE ρ2 e2 Tq->RH P Fr ρ2 h2 w2->k e2 h2 n2=x->K Tq w2) :
  qE P ops o (λ e' w'=>(w'=w\/∀ r∈is.map (hJ ops),jr P ops r e' w' True)/\K e' w') e' w:=by
 unfold Bz at hh
 rw [J8 hg hE] at hh
 unfold qE
 by_cases hw:gw ops o e'=true
 ·rw [if_pos hw] at hh |-
  obtain ⟨v,h1,n1,gd,hh⟩:=BR hh hx
  refine (BQ hc gd hE hR).mono λ y w' ⟨ρ2,hle,sq,hv⟩=>?_
  have yi:=(hE.mono hle).pd hd hv
  obtain ⟨a,b⟩:=BS hc yi sq hk hh hx
  exact ⟨.inr b,hK _ _ _ _ _ _ hle yi sq a⟩
 rw [if_neg hw] at hh |-
 exact ⟨.inl rfl,hK _ _ _ _ _ _ (Le.refl ρ) (hE.pd hd (jQ ρ)) hR hh⟩
theorem zE {B:Nat} {x:RR} (hh:JP (.q .bad .n .nil) P eJ B e h n=x) (hx:x≠.no):False:=hx hh.symm
theorem J9 {Q Q':Env->World->Prop} (hq:∀ e w,Q e w->Q' e w):∀ (l:List Oper) (e:Env) (w:World),GD P ops l Q e w->GD P ops l Q' e w:=by
 intro l
 induction l with
 | nil=>intro e w hh; exact hq e w hh
 | cons o l ih=>intro e w hh; exact qE.mono (show qE P ops o (λ e' w'=>GD P ops l Q e' w') e w from hh) λ v w'=>ih _ _
theorem Nn (hc:nU P eJ) {B:Nat} {e1:En} {h1:Hp} {n1:Nat}:∀ (l:List Oper) {e:En} {h:Hp} {n:Nat} {e':Env} {w:World} {ρ:Rn},JP (qc P ops l) P eJ B e h n = .ok e1 h1 n1->RE ρ e e'->RH P Fr ρ h w->
  GD P ops l (QR P Fr ρ e1 h1) e' w:=by
 intro l
 induction l with
 | nil=>
  intro e h n e' w ρ hh hE hR
  have hh:RR.ok e h n = .ok e1 h1 n1:=hh
  injection hh with a b c
  subst a; subst b
  exact ⟨ρ,Le.refl ρ,hE,hR⟩
 | cons o l ih=>
  intro e h n e' w ρ hh hE hR
  have fin:∀ {g d},tO ops o=some g->De o=some d->Bz P eJ 0 g (mA P o) d .nil (JP (qc P ops l) P eJ B) B e h n = .ok e1 h1 n1->GD P ops (o::l) (QR P Fr ρ e1 h1) e' w:=λ hg hd hst=>by
   have:=qC hc hg hd (is:=[]) rfl hst (λ hh=>by cases hh) hE hR (K:=λ e2 w2=>GD P ops l (QR P Fr ρ e1 h1) e2 w2) λ e2 h2 n2 ρ2 Tq w2 hle yi sq hk=>by
    have:=ih hk yi sq
    exact J9 (λ _ _ hq=>hq.mono hle) _ _ _ this
   exact this.mono λ v w' hh=>hh.2
  unfold qc at hh
  split at hh
  ·rename_i d hg hd
   split at hh
   ·rename_i x gd
    refine fin hg hd ?_
    rw [gd]
    have hh:(dR e x).fcR (λ v=>JP (qc P ops l) P eJ B (pd d v e) h n) = .ok e1 h1 n1:=hh
    rw [V.SW] at hh
    show ye ((dR e x).fc λ v=>.ok v h n) _=_
    rw [V.nS]
    exact hh
   ·exact fin hg hd hh
  ·rename_i g d _ hg hd
   exact fin hg hd hh
  ·exact (zE hh (by intro hh; cases hh)).elim
theorem Np (hc:nU P eJ) {al:Bool} {B:Nat}:∀ (p:PT) {e:En} {h:Hp} {n:Nat} {e':Env} {w:World} {ρ:Rn} {x:RR} {Q:Env->World->Prop},JP (mY P ops al p) P eJ B e h n=x->x≠.no->
  (∀ e1 h1 n1,x = .ok e1 h1 n1->∀ e2 w2,QR P Fr ρ e1 h1 e2 w2->Q e2 w2)->RE ρ e e'->RH P Fr ρ h w->DQ P ops p Q e' w:=by
 intro p
 induction p with
 | nil=>
  intro e h n e' w ρ x Q hh hx hQ hE hR
  exact hQ e h n hh.symm _ _ ⟨ρ,Le.refl ρ,hE,hR⟩
 | stop=>intro e h n e' w ρ x Q hh hx hQ hE hR; trivial
 | op i ks p ih=>
  intro e h n e' w ρ x Q hh hx hQ hE hR
  unfold mY at hh
  split at hh
  ·rename_i g d kl hg hd hk
   exact qC hc hg hd hk hh hx hE hR (K:=DQ P ops p Q) λ e2 h2 n2 ρ2 Tq w2 hle yi sq sB=>
    ih sB hx (λ e1 h1 n1 FE e3 w3 hq=>hQ e1 h1 n1 FE e3 w3 (hq.mono hle)) yi sq
  ·exact (zE hh hx).elim
 | alt i ks p o ih tq=>
  intro e h n e' w ρ x Q hh hx hQ hE hR
  unfold mY at hh
  split at hh
  ·rename_i g d kl hg hd hk
   obtain ⟨ea,ha,na,g1,g2,g3⟩:=Nl hh hx
   refine ⟨qC hc hg hd hk g2.symm hx hE hR (K:=DQ P ops p Q) λ e2 h2 n2 ρ2 Tq w2 hle yi sq sB=>
    ih sB hx (λ e1 h1 n1 FE e3 w3 hq=>hQ e1 h1 n1 FE e3 w3 (hq.mono hle)) yi sq,?_⟩
   have g4:=g2.trans g1
   rcases g3 with g3 | ⟨m,g3⟩
   ·exact tq g3 (λ hh=>by cases hh) (λ e1 h1 n1 FE=>by cases FE) hE hR
   ·refine tq g3 (λ hh=>by cases hh) (λ e1 h1 n1 FE e3 w3 hq=>?_) hE hR
    injection FE with a b c
    subst a; subst b
    exact hQ _ _ _ g4 e3 w3 hq
  ·exact (zE hh hx).elim
theorem E1 {nt:Nat} {l:List Oper} (h2:l.all (mF nt)=true):∀ o∈l,∀ d,o.dst=some d->d<nt:=λ o ho d DJ=>by
 have:=List.all_eq_true.1 h2 o ho
 unfold mF at this
 rw [DJ] at this
 exact Nat.blt_eq▸this
theorem Ka (hc:nU P eJ) {r:Option Nat} {ds:List Nat} {nt B id:Nat} {os:Array Oper} {e1:En} {h1:Hp} {n1:Nat} {Q':Exit->Act->World->Prop} {a:Act} (hZ:os.toList.all (mF nt)=true)
  (hh:JP (qc P os.toList os.toList) P eJ B e h n = .ok e1 h1 n1) (ha:ek ds nt e' a) (hE:RE ρ e e') (hR:RH P Fr ρ h w)
  (hQ:∀ e2 a2 w2,ek ds nt e2 a2->QR P Fr ρ e1 h1 e2 w2->Q' .normal a2 w2):(Code.region id os false).wpIn (FO r) 0 P Q' a w:=by
 have:=wpIn_region_lit (id:=id) (GD.list (r:=r) (λ e2 a2 w2 yn _ hq=>hQ e2 a2 w2 yn hq) os.toList e' a w (λ o ho=>⟨ho,E1 hZ o ho⟩) ha (λ _ _=>rfl) (Nn hc os.toList hh hE hR))
 simpa using this
theorem BT (hm:P.follows .mixedOrders=true) (hc:nU P eJ) {r:Option Nat} {ds:List Nat} {nt B id:Nat} {os:Array Oper} {p:PT} {al:Bool} {e1:En} {h1:Hp} {n1:Nat} {Q':Exit->Act->World->Prop} {a:Act}
  (hZ:(os.toList.all (mF nt) && (tn os.toList (pN os.toList) && Cc P os.toList (pN os.toList) false os.toList.length 0 p))=true)
  (hh:JP (mY P os.toList al p) P eJ B e h n = .ok e1 h1 n1) (ha:ek ds nt e' a) (hE:RE ρ e e') (hR:RH P Fr ρ h w)
  (hQ:∀ e2 a2 w2,ek ds nt e2 a2->QR P Fr ρ e1 h1 e2 w2->Q' .normal a2 w2):(Code.region id os true).wpIn (FO r) 0 P Q' a w:=by
 simp only [Bool.and_eq_true] at hZ
 obtain ⟨h2,h3,h4⟩:=hZ
 have hd:∀ d∈wr os.toList,d<nt:=λ d hd=>by
  obtain ⟨o,ho,DJ⟩:=List.mem_filterMap.1 hd
  exact E1 h2 o ho d DJ
 have hz:(bit 0)=λ _=>false:=by funext i; simp [bit]
 have hdq:=Np (Fr:=Fr) hc p (Q:=QR P Fr ρ e1 h1) hh (λ hh=>by cases hh) (λ e2 h2 n2 hx e3 w3 hq=>by injection hx with a b c; subst a; subst b; exact hq) hE hR.drew
 have T6:=(DK (Q:=QR P Fr ρ e1 h1) h3 p os.toList.length 0 [] e' (drew w) (λ i o hi=>by simp [bit] at hi) (by constructor <;> simp) hdq).1 h4
 rw [hz] at T6
 have:=WS.region (r:=r) (id:=id) hm hd ha (λ e2 a2 w2 yn _ hq=>hQ e2 a2 w2 yn hq) T6
 simpa using this
end
section
variable {P:Program} {eJ:wg} {Fr:m4} {ρ:Rn} {h:Hp} {w:World} {e:En} {e':Env} {n:Nat}
theorem RH.drop {b:Nat} {q:Pl} {w':World} (hR:RH P Fr ρ h w) (hl:live (dH h b)) (hq:ρ b=some q) (hw:∀ r o',r≠q.k->w.heap[r]? = some o'->w'.heap[r]? = some o') (hst:Sm w w':=by exact ⟨rfl,rfl,rfl⟩):RH P Fr ρ (ew h .x b) w':=by
 have key:∀ {b'},live (dH (ew h .x b) b')->b'≠b/\live (dH h b')/\dH (ew h .x b) b'=dH h b':=fun {b'} hh=>by
  rw [gB] at hh |-
  split at hh
  ·exact hh.elim
  ·rename_i jV; rw [if_neg jV]; exact ⟨jV,hh,rfl⟩
 refine ⟨λ b' nR=>?_,λ b' nR=>?_,λ b1 b2 q1 q2 h1 h2 jV e1 e2=>hR.sep b1 b2 q1 q2 (key h1).2.1 (key h2).2.1 jV e1 e2,λ r o hr=>?_,λ b' q' h1 h2=>hR.off b' q' (key h1).2.1 h2,hR.st.trans hst⟩
 ·rw [gB] at nR
  split at nR
  ·cases nR
  exact hR.fresh b' nR
 ·obtain ⟨k1,k2,k3⟩:=key nR
  rw [k3]
  obtain ⟨q',o',e1,e2,e3⟩:=hR.lv b' k2
  exact ⟨q',o',e1,hw _ _ (hR.sep b' b q' q k2 hl k1 e1 hq) e2,e3⟩
 have:r≠q.k:=λ hh=>by rw [hh,hR.off b q hl hq] at hr; cases hr
 exact hw r o this (hR.tT r o hr)
theorem px {k:Nat} {o:Obj}:∀ r o',r≠k->w.heap[r]? = some o'->(w.putObj k o).heap[r]? = some o':=λ r o' hr ho=>by
 rw [World.putObj_heap_other hr]; exact ho
def DM (ρ:Rn):NL->List Nat->Prop
 | .nil,ks=>ks=[]
 | .cons d r,ks=>∃ q Zo,ρ d=some q/\ks=q.k::Zo/\DM ρ r Zo
theorem DM.mono {ρ':Rn} (hl:Le ρ ρ'):∀ {ds:NL} {ks:List Nat},DM ρ ds ks->DM ρ' ds ks:=by
 intro ds
 induction ds with
 | nil=>intro ks hh; exact hh
 | cons d r ih=>intro ks ⟨q,Zo,h1,h2,h3⟩; exact ⟨q,Zo,hl _ _ h1,h2,ih h3⟩
def PZ (P:Program) (Fr:m4) (ρ:Rn) (nt:Nat) (e1:En) (h1:Hp) (ds:NL) (a:Act) (w:World):Prop:=
 ∃ ρ' oX e',Le ρ ρ'/\ek oX nt e' a/\RE ρ' e1 e'/\RH P Fr ρ' h1 w/\DM ρ' ds oX
def PX (P:Program) (Fr:m4) (ρ:Rn) (nt:Nat):Ex->Exit->Act->World->Prop
 | .nx e1 h1 _ ds,.normal=>PZ P Fr ρ nt e1 h1 ds
 | .rt e1 h1 _ ds,.ret=>PZ P Fr ρ nt e1 h1 ds
 | .ex id e1 h1 _ ds,.exit k=>λ a w=>k=id/\PZ P Fr ρ nt e1 h1 ds a w
 | _,_=>λ _ _=>False
theorem PZ.mono {ρ':Rn} {nt:Nat} {e1:En} {h1:Hp} {ds:NL} {a:Act} {w:World} (hl:Le ρ ρ') (hh:PZ P Fr ρ' nt e1 h1 ds a w):PZ P Fr ρ nt e1 h1 ds a w:=by
 obtain ⟨r,k,e,a1,a2⟩:=hh; exact ⟨r,k,e,hl.trans a1,a2⟩
theorem PX.mono {ρ':Rn} {nt:Nat} {x:Ex} {xt:Exit} {a:Act} {w:World} (hl:Le ρ ρ') (hh:PX P Fr ρ' nt x xt a w):PX P Fr ρ nt x xt a w:=by
 cases x <;> cases xt <;> first | exact hh.elim | exact PZ.mono hl hh | exact ⟨hh.1,hh.2.mono hl⟩
theorem PX.nx {nt:Nat} {e1:En} {h1:Hp} {n1:Nat} {ds:NL} {xt:Exit} {a:Act} {w:World} (hh:PX P Fr ρ nt (.nx e1 h1 n1 ds) xt a w):xt = .normal/\PZ P Fr ρ nt e1 h1 ds a w:=by
 cases xt <;> first | exact ⟨rfl,hh⟩ | exact hh.elim
theorem PX.rt {nt:Nat} {e1:En} {h1:Hp} {n1:Nat} {ds:NL} {xt:Exit} {a:Act} {w:World} (hh:PX P Fr ρ nt (.rt e1 h1 n1 ds) xt a w):xt = .ret/\PZ P Fr ρ nt e1 h1 ds a w:=by
 cases xt <;> first | exact ⟨rfl,hh⟩ | exact hh.elim
theorem PX.ex {nt id:Nat} {e1:En} {h1:Hp} {n1:Nat} {ds:NL} {xt:Exit} {a:Act} {w:World} (hh:PX P Fr ρ nt (.ex id e1 h1 n1 ds) xt a w):xt = .exit id/\PZ P Fr ρ nt e1 h1 ds a w:=by
 cases xt <;> first | exact hh.elim | (obtain ⟨rfl,hh⟩:=hh; exact ⟨rfl,hh⟩)
theorem Dn {F:Fence} {rm:Nat} {Q:Exit->Act->World->Prop} {a:Act} {w:World} {c:Code} (I:Nat->Act->World->Prop) (n₀:Nat) (h₀:I n₀ a w)
  (round:∀ n a w,I n a w->c.wpIn F rm P (Exit.then (λ a' w'=>∃ n',n'<n/\I n' a' w') Q) a w):(Code.loop c).wpIn F rm P Q a w:=by
 classical
 let J:Act->World->Prop:=λ a' w'=>∃ m,I m a' w'
 let μ:Act->World->Nat:=λ a' w'=>if h:∃ m,I m a' w' then Classical.choose (least h) else 0
 have hμ:∀ a' w',J a' w'->I (μ a' w') a' w'/\∀ k,I k a' w'->μ a' w'<=k:=λ a' w' hj=>by
  have e1:μ a' w'=Classical.choose (least hj):=dif_pos hj
  rw [e1]
  exact Classical.choose_spec (least hj)
 refine wpIn_loop J μ ⟨n₀,h₀⟩ λ a' w' hj=>?_
 refine wpIn_mono (round _ a' w' (hμ a' w' hj).1) λ x a2 w2 hp=>?_
 cases x with
 | normal=>
  obtain ⟨m',GC,zQ⟩:=hp
  exact ⟨⟨m',zQ⟩,Nat.lt_of_le_of_lt ((hμ a2 w2 ⟨m',zQ⟩).2 m' zQ) GC⟩
 | _=>exact hp
theorem BU {xa x:Ex} {k:En->Hp->Nat->NL->Ex} (hh:BA xa k=x) (hx:x≠.no):xa≠.no/\((∃ e1 h1 n1 ds1,xa = .nx e1 h1 n1 ds1/\k e1 h1 n1 ds1=x)\/(x=xa/\∀ e1 h1 n1 ds1,xa≠.nx e1 h1 n1 ds1)):=by
 cases xa with
 | no=>exact absurd hh.symm hx
 | nx e1 h1 n1 ds1=>exact ⟨(by intro hh; cases hh),.inl ⟨e1,h1,n1,ds1,rfl,hh⟩⟩
 | rt e1 h1 n1 ds1=>exact ⟨(by intro hh; cases hh),.inr ⟨hh.symm,λ _ _ _ _ hh=>by cases hh⟩⟩
 | ex id e1 h1 n1 ds1=>exact ⟨(by intro hh; cases hh),.inr ⟨hh.symm,λ _ _ _ _ hh=>by cases hh⟩⟩
theorem PX.then {nt:Nat} {xa x:Ex} {xt:Exit} {a:Act} {w:World} {K:Act->World->Prop} {k:En->Hp->Nat->NL->Ex} (hp:PX P Fr ρ nt xa xt a w) (hh:(∃ e1 h1 n1 ds1,xa = .nx e1 h1 n1 ds1/\k e1 h1 n1 ds1=x)\/(x=xa/\∀ e1 h1 n1 ds1,xa≠.nx e1 h1 n1 ds1))
  (hk:∀ e1 h1 n1 ds1,k e1 h1 n1 ds1=x->PZ P Fr ρ nt e1 h1 ds1 a w->K a w):Exit.then K (PX P Fr ρ nt x) xt a w:=by
 rcases hh with ⟨e1,h1,n1,ds1,rfl,hh⟩ | ⟨rfl,jV⟩
 ·obtain ⟨rfl,hz⟩:=hp.nx
  exact hk _ _ _ _ hh hz
 cases x with
 | no=>exact hp.elim
 | nx e1 h1 n1 ds1=>exact absurd rfl (jV _ _ _ _)
 | rt e1 h1 n1 ds1=>obtain ⟨rfl,_⟩:=hp.rt; exact hp
 | ex id e1 h1 n1 ds1=>obtain ⟨rfl,_⟩:=hp.ex; exact hp
theorem Zp {g:Oq} {ps:PS} {A B:CC} {ds:NL} {x:Ex} (hh:M0 eJ g ps A B e h n ds=x) (hx:x≠.no):∃ gf c v h' n' st j ps1 e1 a1 b1,dR e g = .f gf c/\dH h n = .z/\dH (ew h .df n) (n+1) = .z/\
  eJ (.f gf c) (.c (.y (n+1)) .e) (ew (ew h .df n) (.lp 0 .no ps e A B) (n+1)) (n+1+1) = .ok v h' n'/\dH h' (n+1) = .lp st j ps1 e1 a1 b1/\st≠1/\jump j e (ew h' .x (n+1)) n' (.cons n ds)=x:=by
 unfold M0 at hh
 rcases V.JC (dR e g) .no _ with h0 | ⟨gf,c,h0,h1⟩
 ·exact absurd (hh.symm.trans h0) hx
 have hh:=h1.symm.trans hh
 rcases HB.Bu (dH h n) .no _ with h2 | ⟨h2,h3⟩
 ·exact absurd (hh.symm.trans h2) hx
 have hh:=h3.symm.trans hh
 rcases HB.Bu (dH (ew h .df n) (Nat.succ n)) .no _ with h4 | ⟨h4,h5⟩
 ·exact absurd (hh.symm.trans h4) hx
 have hh:=h5.symm.trans hh
 cases hc:eJ (.f gf c) (.c (.y (Nat.succ n)) .e) (ew (ew h .df n) (.lp 0 .no ps e A B) (Nat.succ n)) (Nat.succ (Nat.succ n)) with
 | no=>rw [hc] at hh; exact absurd hh.symm hx
 | ok v h' n'=>
  rw [hc] at hh
  rcases HB.JD (dH h' (Nat.succ n)) .no (λ st j _ _ _ _=>Bool.rec (motive:=λ _=>Ex) (jump j e (ew h' .x (Nat.succ n)) n' (.cons n ds)) .no (Nat.beq st 1)) with h6 | ⟨st,j,ps1,e1,a1,b1,h6,h7⟩
  ·exact absurd (hh.symm.trans h6) hx
  ·have hh:=h7.symm.trans hh
   cases hst:Nat.beq st 1 with
   | true=>rw [hst] at hh; exact absurd hh.symm hx
   | false=>
    rw [hst] at hh
    exact ⟨gf,c,v,h',n',st,j,ps1,e1,a1,b1,h0,h2,h4,hc,h6,(λ hs=>by rw [hs] at hst; cases hst),hh⟩
def CS (P:Program) (eJ:wg) (nt:Nat) (pl:dB) (c:Code):Prop:=
 ∀ (r:Option Nat) (e:En) (h:Hp) (n:Nat) (ds:NL) (x:Ex) (Fr:m4) (ρ:Rn) (oX:List Nat) (e':Env) (a:Act) (w:World),(r=none\/cL c=false)->zV P nt pl c=true->
  tN (fj P nt pl c) P eJ e h n ds=x->x≠.no->ek oX nt e' a->RE ρ e e'->RH P Fr ρ h w->DM ρ ds oX->c.wpIn (FO r) 0 P (PX P Fr ρ nt x) a w
theorem Zq (hc:nU P eJ) {nt:Nat} (KT:nt<=512) {pl:dB} {g:Operand} {ps:Array Tmp} {asx bd:Code}:CS P eJ nt pl (.rangeFunc g ps asx bd):=by
 intro r e h n ds x Fr ρ oX e' a w hr hZ hh hx ha hE hR hD
 have NV:r=none:=hr.resolve_right (by simp [cL])
 subst NV
 have hZ:((ps.toList.all (λ p=>Nat.blt p nt) && (!cL asx && !cL bd)) && (zV P nt pl asx && zV P nt pl bd))=true:=hZ
 simp only [Bool.and_eq_true,Bool.not_eq_true'] at hZ
 obtain ⟨⟨T5,hA,hB⟩,Tx,ad3⟩:=hZ
 have Qx:∀ p∈ps.toList,p<nt:=λ p hp=>Nat.blt_eq▸List.all_eq_true.1 T5 p hp
 unfold fj at hh
 split at hh
 case h_2=>exact absurd hh.symm hx
 rename_i gq l hg hl
 obtain ⟨gf,c,v,h',n',st,j,ps1,e1,a1,b1,k1,k2,k3,k4,k5,k6,k7⟩:=Zp (show M0 eJ gq l (fj P nt pl asx) (fj P nt pl bd) e h n ds=x from hh) hx
 have hgv:=bE hE hg
 rw [k1] at hgv
 obtain ⟨ys,hys,hgv⟩:=hgv
 refine wpIn_rangeFunc λ fn _=>?_
 let L0:Loop:={state:=.ready,pending:=none,fn,tmps:=a.tmps,params:=ps,assign:=asx,body:=bd,defers:=w.heap.size}
 have Ui:RH P Fr (ext ρ n ⟨w.heap.size,0,0,0⟩) (ew h .df n) (w.alloc (.deferred (some []))):=hR.new k2 rfl rfl rfl
 have le1:Le ρ (ext ρ n ⟨w.heap.size,0,0,0⟩):=oW (hR.fresh n k2)
 have le2:Le (ext ρ n ⟨w.heap.size,0,0,0⟩) (ext (ext ρ n ⟨w.heap.size,0,0,0⟩) (n+1) ⟨w.heap.size+1,0,0,0⟩):=oW (Ui.fresh (n+1) k3)
 have sq:RH P Fr (ext (ext ρ n ⟨w.heap.size,0,0,0⟩) (n+1) ⟨w.heap.size+1,0,0,0⟩) (ew (ew h .df n) (.lp 0 .no l e (fj P nt pl asx) (fj P nt pl bd)) (n+1)) ((w.alloc (.deferred (some []))).alloc (.loop L0)):=
  Ui.new (q:=⟨w.heap.size+1,0,0,0⟩) k3 (World.size_alloc ..).symm rfl
   ⟨L0,⟨nt,pl,e',rfl,rfl,KT,hl,Qx,rfl,rfl,Tx,ad3,hA,hB,ha.size,ha.get,hE.mono (le1.trans le2)⟩,rfl⟩
 have iJ:=hc _ _ _ _ _ _ _ k4 Fr _ _ (.func (.func gf) #[] ys.toArray) [.func (.yield (w.heap.size+1)) #[] #[]] ⟨ys,gE.mono hys (le1.trans le2),rfl⟩ ⟨_,[],rfl,⟨_,je _ _ _,rfl⟩,rfl⟩ sq
 rcases iJ.ex with ⟨g',first,cap,q1,pz,q3⟩ | ⟨l2,q1,_⟩
 case inr=>cases q1
 injection q1 with q1 q2 q4
 injection q1 with q1
 subst q1; subst q2; subst q4
 have hC:=q3.mono (R':=rangePost (FO none) 0 P (w.heap.size+1) (PX P Fr ρ nt x) {a with defers:=[{target:=.collected w.heap.size,args:=#[]}]++a.defers}) (λ xx w3 hx3=>?_)
 ·have hC1:=(lx (r:=none) (n:=0)).2 hC
  refine ⟨w.heap.size+1,[{target:=.collected w.heap.size,args:=#[]}],(w.alloc (.deferred (some []))).alloc (.loop L0),
   {target:=.fn (.func gf) ys.toArray,args:=#[.func (.yield (w.heap.size+1)) #[] #[]]},(w.alloc (.deferred (some []))).alloc (.loop L0),gf,#[.func (.yield (w.heap.size+1)) #[] #[]]++ys.toArray,
   (w.alloc (.deferred (some []))).alloc (.loop L0),run_enterLoop_outer ..,?_,λ _ _=>trivial,?_,qH,?_⟩
  rotate_left 2
  ·simpa using hC1
  ·have hg2:a.eval g = .func (.func gf) #[] ys.toArray:=by rw [ha.eval]; exact hgv
   simp only [resolve,hg2]
   simp [go_sem]
  show (callFunc gf (#[.func (.yield (w.heap.size+1)) #[] #[]]++ys.toArray)).run P _=_
  exact m8 pz _ _
 obtain ⟨v3,rfl,ρ3,pK,Gu,_⟩:=hx3
 have BN:live (dH h' (n+1)):=by rw [k5]; trivial
 obtain ⟨q',o',r1,r2,r3⟩:=Gu.lv (n+1) BN
 have r4:=pK (n+1) _ (je _ _ _)
 rw [r4] at r1
 cases r1
 rw [k5] at r3
 obtain ⟨L1,_,rfl⟩:=r3
 have hst:JW st≠.busy:=by
  unfold JW
  split
  ·intro hh; cases hh
  ·exact absurd rfl k6
  ·intro hh; cases hh
 refine ⟨oV j,_,run_endLoop r2 hst,?_⟩
 have Uk:RH P Fr ρ3 (ew h' .x (n+1)) (w3.putObj (w.heap.size+1) (.loop {L1 with state:=.exhausted,pending:=oV j})):=Gu.drop BN r4 px
 have yn:ek (w.heap.size::oX) nt e' {a with defers:=[{target:=.collected w.heap.size,args:=#[]}]++a.defers}:=⟨by rw [ha.defers]; rfl,ha.size,ha.get⟩
 have hle:Le ρ ρ3:=(le1.trans le2).trans pK
 have hz:PZ P Fr ρ nt e (ew h' .x (n+1)) (.cons n ds) {a with defers:=[{target:=.collected w.heap.size,args:=#[]}]++a.defers} (w3.putObj (w.heap.size+1) (.loop {L1 with state:=.exhausted,pending:=oV j})):=
  ⟨ρ3,_,e',hle,yn,hE.mono hle,Uk,⟨_,oX,pK _ _ (le2 _ _ (je _ _ _)),rfl,hD.mono hle⟩⟩
 cases j with
 | no=>rw [<- k7]; exact hz
 | rt=>rw [<- k7]; exact wpIn_ret hz
 | ex id=>rw [<- k7]; exact wpIn_exit ⟨rfl,hz⟩
end
section
variable {P:Program} {eJ:wg} {Fr:m4} {ρ:Rn} {h:Hp} {w:World} {e:En} {e':Env} {n:Nat}
theorem zF {m:Nat} {y:RR} {ds:NL} {x:Ex} (hh:JR m y ds=x) (hx:x≠.no):∃ e1 h1 n1 n2,y = .ok e1 h1 n1/\x = .nx e1 h1 n2 ds:=by
 cases y with
 | no=>exact absurd hh.symm hx
 | any=>exact absurd hh.symm hx
 | ok e1 h1 n1=>exact ⟨e1,h1,n1,_,rfl,hh.symm⟩
theorem Dp (hm:P.follows .mixedOrders=true) (hc:nU P eJ) {nt:Nat} (KT:nt<=512) {pl:dB}:∀ c:Code,CS P eJ nt pl c:=by
 intro c
 induction c with
 | skip=>intro r e h n ds x Fr ρ oX e' a w hr hZ hh hx ha hE hR hD; rw [<- hh]; exact wpIn_skip ⟨ρ,oX,e',Le.refl ρ,ha,hE,hR,hD⟩
 | ret=>intro r e h n ds x Fr ρ oX e' a w hr hZ hh hx ha hE hR hD; rw [<- hh]; exact wpIn_ret ⟨ρ,oX,e',Le.refl ρ,ha,hE,hR,hD⟩
 | exit id=>intro r e h n ds x Fr ρ oX e' a w hr hZ hh hx ha hE hR hD; rw [<- hh]; exact wpIn_exit ⟨rfl,ρ,oX,e',Le.refl ρ,ha,hE,hR,hD⟩
 | region id ops draw=>
  intro r e h n ds x Fr ρ oX e' a w hr hZ hh hx ha hE hR hD
  cases draw with
  | false=>
   obtain ⟨e1,h1,n1,n2,g1,rfl⟩:=zF (show JR 0 (JP (qc P ops.toList ops.toList) P eJ n e h n) ds=x from hh) hx
   exact Ka hc hZ g1 ha hE hR λ e2 a2 w2 yn ⟨ρ2,hle,yi,sq⟩=>⟨ρ2,oX,e2,hle,yn,yi,sq,hD.mono hle⟩
  | true=>
   have hh:tN (bif (mB ops.toList.length (pl id)).many then .Q8 (Nat.succ ops.toList.length) (mY P ops.toList true (mB ops.toList.length (pl id))) else .Q8 0 (mY P ops.toList false (mB ops.toList.length (pl id)))) P eJ e h n ds=x:=hh
   cases hb:(mB ops.toList.length (pl id)).many with
   | true=>
    rw [hb] at hh
    obtain ⟨e1,h1,n1,n2,g1,rfl⟩:=zF (show JR (Nat.succ ops.toList.length) (JP (mY P ops.toList true (mB ops.toList.length (pl id))) P eJ n e h n) ds=x from hh) hx
    exact BT hm hc hZ g1 ha hE hR λ e2 a2 w2 yn ⟨ρ2,hle,yi,sq⟩=>⟨ρ2,oX,e2,hle,yn,yi,sq,hD.mono hle⟩
   | false=>
    rw [hb] at hh
    obtain ⟨e1,h1,n1,n2,g1,rfl⟩:=zF (show JR 0 (JP (mY P ops.toList false (mB ops.toList.length (pl id))) P eJ n e h n) ds=x from hh) hx
    exact BT hm hc hZ g1 ha hE hR λ e2 a2 w2 yn ⟨ρ2,hle,yi,sq⟩=>⟨ρ2,oX,e2,hle,yn,yi,sq,hD.mono hle⟩
 | seq c1 c2 yo tq=>
  intro r e h n ds x Fr ρ oX e' a w hr hZ hh hx ha hE hR hD
  have DP:r=none\/cL c1=false:=hr.imp id λ h=>by have:(cL c1 || cL c2)=false:=h; rw [Bool.or_eq_false_iff] at this; exact this.1
  have wM:r=none\/cL c2=false:=hr.imp id λ h=>by have:(cL c1 || cL c2)=false:=h; rw [Bool.or_eq_false_iff] at this; exact this.2
  have hZ:(zV P nt pl c1 && zV P nt pl c2)=true:=hZ
  rw [Bool.and_eq_true] at hZ
  obtain ⟨g1,g2⟩:=BU (show BA (tN (fj P nt pl c1) P eJ e h n ds) (tN (fj P nt pl c2) P eJ)=x from hh) hx
  refine wpIn_seq (wpIn_mono (yo r e h n ds _ Fr ρ oX e' a w DP hZ.1 rfl g1 ha hE hR hD) λ xt a' w' hp=>?_)
  refine hp.then g2 λ e1 h1 n1 ds1 hk hz=>?_
  obtain ⟨ρ2,P9,e2,hle,Gl,yi,sq,Zr⟩:=hz
  exact wpIn_mono (tq r e1 h1 n1 ds1 x Fr ρ2 P9 e2 a' w' wM hZ.2 hk hx Gl yi sq Zr) λ xt a2 w2 Ut=>Ut.mono hle
 | cond c c1 c2 yo tq=>
  intro r e h n ds x Fr ρ oX e' a w hr hZ hh hx ha hE hR hD
  have DP:r=none\/cL c1=false:=hr.imp id λ h=>by have:(cL c1 || cL c2)=false:=h; rw [Bool.or_eq_false_iff] at this; exact this.1
  have wM:r=none\/cL c2=false:=hr.imp id λ h=>by have:(cL c1 || cL c2)=false:=h; rw [Bool.or_eq_false_iff] at this; exact this.2
  have hZ:(zV P nt pl c1 && zV P nt pl c2)=true:=hZ
  rw [Bool.and_eq_true] at hZ
  unfold fj at hh
  split at hh
  case h_2=>exact absurd hh.symm hx
  rename_i q hq
  have hv:=bE hE hq
  have hh:(dR e q).MO .no (λ t=>Bool.rec (motive:=λ _=>Ex) (tN (fj P nt pl c2) P eJ e h n ds) (tN (fj P nt pl c1) P eJ e h n ds) t)=x:=hh
  rcases V.JB (dR e q) .no (λ t=>Bool.rec (motive:=λ _=>Ex) (tN (fj P nt pl c2) P eJ e h n ds) (tN (fj P nt pl c1) P eJ e h n ds) t) with h0 | ⟨t,h0,h1⟩
  ·exact absurd (hh.symm.trans h0) hx
  ·have hh:=h1.symm.trans hh
   rw [h0] at hv
   refine wpIn_cond (t:=t) (by rw [ha.eval]; exact hv) ?_
   cases t with
   | true=>exact yo r e h n ds x Fr ρ oX e' a w DP hZ.1 hh hx ha hE hR hD
   | false=>exact tq r e h n ds x Fr ρ oX e' a w wM hZ.2 hh hx ha hE hR hD
 | block id c ih=>
  intro r e h n ds x Fr ρ oX e' a w hr hZ hh hx ha hE hR hD
  have hh:JQ id (tN (fj P nt pl c) P eJ e h n ds)=x:=hh
  have h0:tN (fj P nt pl c) P eJ e h n ds≠.no:=λ h0=>by rw [h0] at hh; exact hx hh.symm
  refine wpIn_block (wpIn_mono (ih r e h n ds _ Fr ρ oX e' a w hr hZ rfl h0 ha hE hR hD) λ xt a' w' hp=>?_)
  cases hxa:tN (fj P nt pl c) P eJ e h n ds with
  | no=>exact absurd hxa h0
  | nx e1 h1 n1 ds1=>
   rw [hxa] at hp hh
   obtain ⟨rfl,hz⟩:=hp.nx
   rw [<- hh]; exact hz
  | rt e1 h1 n1 ds1=>
   rw [hxa] at hp hh
   obtain ⟨rfl,hz⟩:=hp.rt
   rw [<- hh]; exact hz
  | ex k e1 h1 n1 ds1=>
   rw [hxa] at hp hh
   obtain ⟨rfl,hz⟩:=hp.ex
   have hh:Bool.rec (motive:=λ _=>Ex) (.ex k e1 h1 n1 ds1) (.nx e1 h1 n1 ds1) (Nat.beq k id)=x:=hh
   simp only [Exit.inBlock]
   by_cases hk:k=id
   ·subst hk
    rw [gO] at hh
    rw [if_pos rfl,<- hh]
    exact hz
   ·rw [qe hk] at hh
    rw [if_neg hk,<- hh]
    exact ⟨rfl,hz⟩
 | loop c ih=>
  intro r e h n ds x Fr ρ oX e' a w hr hZ hh hx ha hE hR hD
  have hh:ES 1000000 (tN (fj P nt pl c) P eJ) e h n ds=x:=hh
  refine Dn (λ f a w=>∃ e h n ds ρ2 P9 e',Le ρ ρ2/\ES f (tN (fj P nt pl c) P eJ) e h n ds=x/\ek P9 nt e' a/\RE ρ2 e e'/\RH P Fr ρ2 h w/\DM ρ2 ds P9) 1000000
   ⟨e,h,n,ds,ρ,oX,e',Le.refl ρ,hh,ha,hE,hR,hD⟩ ?_
  intro f a w ⟨e,h,n,ds,ρ2,P9,e',hle,hh,ha,hE,hR,hD⟩
  cases f with
  | zero=>exact absurd hh.symm hx
  | succ f=>
   obtain ⟨g1,g2⟩:=BU (show BA (tN (fj P nt pl c) P eJ e h n ds) (ES f (tN (fj P nt pl c) P eJ))=x from hh) hx
   refine wpIn_mono (ih r e h n ds _ Fr ρ2 P9 e' a w hr hZ rfl g1 ha hE hR hD) λ xt a' w' hp=>?_
   refine (hp.mono hle).then g2 λ e1 h1 n1 ds1 hk hz=>?_
   obtain ⟨ρ3,dk3,e3,pK,ha3,hE3,Gu,hD3⟩:=hz
   exact ⟨f,Nat.lt_succ_self f,e1,h1,n1,ds1,ρ3,dk3,e3,pK,hk,ha3,hE3,Gu,hD3⟩
 | rangeFunc g ps asx bd _ _=>exact Zq hc KT
 | _=>intro r e h n ds x Fr ρ oX e' a w hr hZ hh hx ha hE hR hD; exact absurd hh.symm hx
theorem BV {a:OR} {k:V->Hp->Nat->OR} {v:V} {h':Hp} {n':Nat} (hh:ET a k = .ok v h' n'):∃ v1 h1 n1,a = .ok v1 h1 n1/\k v1 h1 n1 = .ok v h' n':=by
 cases a with
 | no=>cases hh
 | ok v1 h1 n1=>exact ⟨v1,h1,n1,rfl,hh⟩
theorem Ga {q:Oq} {v:V} {h':Hp} {n':Nat} (hh:MY e h n q = .ok v h' n'):h'=h:=by
 obtain ⟨b,o,_,hh⟩:=M6 hh
 obtain ⟨m,es,t,_,hh⟩:=iR hh
 obtain ⟨_,hh⟩:=cP hh
 rw [V.nS] at hh
 exact (bX hh).2.1.symm
theorem Dq {q:Oq} {k:Nat} {v:V} {h':Hp} {n':Nat} (hh:EP e h n k q = .ok v h' n'):h'=h:=by
 obtain ⟨b,o,_,hh⟩:=M6 hh
 obtain ⟨m,es,t,_,hh⟩:=iR hh
 obtain ⟨_,hh⟩:=cP hh
 exact (bX hh).2.1.symm
theorem Dr:∀ {rs:List ResultVar} {r:RS} {k:OK} {v:V} {h':Hp} {n':Nat} {ρ:Rn} {K:List Value->Prop},oS P rs=some r->Dd r P e h k = .ok v h' n'->RE ρ e e'->RH P Fr ρ h w->
  (∀ ρ2 l vs,Le ρ ρ2->RH P Fr ρ2 h w->gE ρ2 l vs->k l = .ok v h' n'->K vs)->yp P rs e' K w:=by
 intro rs
 induction rs with
 | nil=>intro r k v h' n' ρ K hr hh hE hR hK; cases hr; exact hK ρ .e [] (Le.refl ρ) hR rfl hh
 | cons x rs ih=>
  intro r k v h' n' ρ K hr hh hE hR hK
  cases x with
  | tmp t=>
   unfold oS at hr
   split at hr
   case h_2=>cases hr
   rename_i s r2 hs wM
   cases hr
   have hh:((s.get e).fc λ v=>Dd r2 P e h λ l=>k (.c v l)) = .ok v h' n':=hh
   rw [V.nS] at hh
   exact ih wM hh hE hR λ ρ2 l vs hle sq hl hk=>hK ρ2 (.c (s.get e) l) _ hle sq ⟨_,_,rfl,(hE t s hs).mono hle,hl⟩ hk
  | cell a t=>
   unfold oS at hr
   split at hr
   ·rename_i s ht hs
    obtain ⟨r2,wM,rfl⟩:=Option.map_eq_some_iff.1 hr
    obtain ⟨v1,h1,n1,g1,g2⟩:=BV (show ET (MY e h 0 (.t s)) (λ v _ _=>Dd r2 P e h λ l=>k (.c v l)) = .ok v h' n' from hh)
    obtain ⟨y,hy,ρ2,hle,sq,hv⟩:=(YQ (q:=.t s) ht hR (hE a s hs) g1).ex
    have:=Ga g1; subst this
    exact ⟨y,hy,ih wM g2 (hE.mono hle) sq λ ρ3 l vs pK Gu hl hk=>hK ρ3 (.c v1 l) _ (hle.trans pK) Gu ⟨_,_,rfl,hv.mono pK,hl⟩ hk⟩
   ·rename_i m s ht hs
    obtain ⟨r2,wM,rfl⟩:=Option.map_eq_some_iff.1 hr
    obtain ⟨v1,h1,n1,g1,g2⟩:=BV (show ET (EP e h 0 m (.t s)) (λ v _ _=>Dd r2 P e h λ l=>k (.c v l)) = .ok v h' n' from hh)
    obtain ⟨y,hy,ρ2,hle,sq,hv⟩:=(PQ (q:=.t s) ht hR (hE a s hs) g1).ex
    have:=Dq g1; subst this
    exact ⟨y,hy,ih wM g2 (hE.mono hle) sq λ ρ3 l vs pK Gu hl hk=>hK ρ3 (.c v1 l) _ (hle.trans pK) Gu ⟨_,_,rfl,hv.mono pK,hl⟩ hk⟩
   ·cases hr
theorem Gb {l:V} {vs:List Value} (hl:gE ρ l vs):RV ρ (M1 l) (Cq vs):=by
 cases l with
 | e=>cases hl; exact ⟨[],rfl,rfl⟩
 | c x r=>
  obtain ⟨z,zs,rfl,h1,h2⟩:=hl
  cases r with
  | e=>cases h2; exact h1
  | c x2 r2=>
   obtain ⟨z2,zs2,rfl,h3,h4⟩:=h2
   exact ⟨z::z2::zs2,⟨z,_,rfl,h1,z2,_,rfl,h3,h4⟩,rfl⟩
  | _=>exact h2.elim
 | _=>exact hl.elim
theorem Dt {k:Hp->OR} {v:V} {h':Hp} {n':Nat} {K:World->Prop}:∀ {ds:NL} {h:Hp} {w:World} {oX:List Nat},kill ds h k = .ok v h' n'->DM ρ ds oX->RH P Fr ρ h w->(∀ h2 w2,k h2 = .ok v h' n'->RH P Fr ρ h2 w2->K w2)->kN oX w K:=by
 intro ds
 induction ds with
 | nil=>intro h w oX hh hD hR hK; cases hD; exact hK h w hh hR
 | cons d r ih=>
  intro h w oX hh hD hR hK
  obtain ⟨q,Zo,hq,rfl,hD⟩:=hD
  have hh:HB.onD (dH h d) .no (kill r (ew h .x d) k) = .ok v h' n':=hh
  rcases HB.MS (dH h d) .no (kill r (ew h .x d) k) with h0 | ⟨h0,h1⟩
  ·rw [h0] at hh; cases hh
  ·rw [h1] at hh
   have hl:live (dH h d):=by rw [h0]; trivial
   obtain ⟨q',o,e1,e2,e3⟩:=hR.lv d hl
   rw [hq] at e1; cases e1
   rw [h0] at e3
   have e3:o = .deferred (some []):=e3
   subst e3
   exact ⟨e2,ih hh hD (hR.drop hl hq px) hK⟩
theorem Gc {xs:List Value}:∀ (m k:Nat) {args:V} {e:En} {e0:Env},gE ρ args xs->xs.length<=wk (pJ k m)->RE ρ e e0->RE ρ (j8 (pJ k m) args e) (λ i=>if k<=i/\i<k+xs.length then xs.getD (i - k) undef else e0 i):=by
 induction xs with
 | nil=>
  intro m k args e e0 hA hl hE
  have:args = .e:=by cases args <;> first | rfl | exact hA.elim | (obtain ⟨_,_,hh,_⟩:=hA; cases hh)
  subst this
  have h1:j8 (pJ k m) .e e=e:=by
   cases m with
   | zero=>rfl
   | succ m=>unfold pJ; split <;> rfl
  rw [h1]
  intro i s hs
  dsimp only
  rw [if_neg (by simp only [List.length_nil]; omega)]
  exact hE i s hs
 | cons x xs ih=>
  intro m k args e e0 hA hl hE
  have:∃ a r,args = .c a r/\RV ρ a x/\gE ρ r xs:=by
   cases args <;> first | (cases hA; done) | exact hA.elim | skip
   rename_i a r
   obtain ⟨_,_,hh,h1,h2⟩:=hA
   cases hh; exact ⟨a,r,rfl,h1,h2⟩
  obtain ⟨a,r,rfl,hx,hr⟩:=this
  cases m with
  | zero=>simp [pJ,wk] at hl
  | succ m=>
   unfold pJ at hl |-
   split at hl
   ·rename_i s hs
    have hl:(x::xs).length<=wk (pJ (Nat.succ k) m)+1:=hl
    have h2:=ih m (Nat.succ k) (e:=s.put a e) (e0:=nV e0 k x) hr (by simp at hl; omega) (hE.nV hs hx)
    show RE ρ (j8 (pJ (Nat.succ k) m) r (s.put a e)) _
    intro i s2 hs2
    have h3:=h2 i s2 hs2
    dsimp only at h3 |-
    by_cases h4:Nat.succ k<=i/\i<Nat.succ k+xs.length
    ·rw [if_pos h4] at h3
     rw [if_pos (by simp; omega)]
     have:i - k=(i - Nat.succ k)+1:=by omega
     rw [this]
     simpa using h3
    ·rw [if_neg h4] at h3
     by_cases h5:i=k
     ·subst h5
      rw [gN] at h3
      rw [if_pos (by simp)]
      simpa using h3
     ·rw [iB _ _ h5] at h3
      rw [if_neg (by simp; omega)]
      exact h3
   ·simp [wk] at hl
theorem Du {xs:List Value}:∀ {ps:List Nat} {pl:PS} {k:Nat} {args:V} {e:En} {e0:Env},wo ps=some pl->gE ρ args (xs.drop k)->k+ps.length=xs.length->RE ρ e e0->RE ρ (j8 pl args e) (pO xs ps k e0):=by
 intro ps
 induction ps with
 | nil=>intro pl k args e e0 hp hA hl hE; cases hp; exact hE
 | cons p ps ih=>
  intro pl k args e e0 hp hA hl hE
  unfold wo at hp
  split at hp
  ·rename_i s r hs hr
   cases hp
   have fS:k<xs.length:=by simp at hl; omega
   rw [List.drop_eq_getElem_cons fS] at hA
   have:∃ a r,args = .c a r/\RV ρ a xs[k]/\gE ρ r (xs.drop (k+1)):=by
    cases args <;> first | (cases hA; done) | exact hA.elim | skip
    rename_i a r
    obtain ⟨_,_,hh,h1,h2⟩:=hA
    cases hh; exact ⟨a,r,rfl,h1,h2⟩
   obtain ⟨a,r',rfl,hx,E5⟩:=this
   show RE ρ (j8 r r' (s.put a e)) (pO xs ps (k+1) (nV e0 p (Fa xs k)))
   refine ih hr E5 (by simp at hl; omega) (hE.nV hs ?_)
   have:Fa xs k=xs[k]:=by
    clear ih hA hl hE hx E5 hr hs
    induction xs generalizing k with
    | nil=>simp at fS
    | cons v r tq=>cases k with
     | zero=>rfl
     | succ k=>exact tq (by simpa using fS)
   rw [this]; exact hx
  ·cases hp
theorem Kb:∀ {ps:List Nat} {pl:PS},wo ps=some pl->wk pl=ps.length:=by
 intro ps
 induction ps with
 | nil=>intro pl hp; cases hp; rfl
 | cons p ps ih=>
  intro pl hp
  unfold wo at hp
  split at hp
  ·rename_i s r hs hr
   cases hp
   show Nat.succ (wk r)=_
   rw [ih hr]; rfl
  ·cases hp
theorem Nq (s:Sl):s.get Uc=Bp:=by
 cases s with | mk a b c=>cases a <;> cases b <;> cases c <;> rfl
theorem RE0:RE ρ Uc (λ _=>undef):=λ i s _=>by rw [Nq]; exact jQ ρ
end
section
variable {P:Program} {eJ:wg} {Fr:m4} {ρ:Rn} {h h':Hp} {w:World} {n n':Nat} {v:V}
theorem Gd:∀ (m k:Nat),wk (pJ k m)<=m:=by
 intro m
 induction m with
 | zero=>intro k; exact Nat.le_refl 0
 | succ m ih=>
  intro k
  unfold pJ
  split
  ·exact Nat.succ_le_succ (ih (Nat.succ k))
  ·exact Nat.zero_le _
theorem Nr (xs:List Value):(λ i=>if 0<=i/\i<0+xs.length then xs.getD (i - 0) undef else undef)=pA xs:=by
 funext i
 rw [uP]
 by_cases hi:i<xs.length
 ·rw [if_pos (by omega)]; simp
 rw [if_neg (by omega)]
 have:xs[i]? = none:=by simp; omega
 rw [List.getD_eq_getElem?_getD,this]; rfl
theorem BW (hm:P.follows .mixedOrders=true) (hc:nU P eJ) {tP:Nat->Nat->PT} {g:Nat} (hZ:okF P tP g=true) {args:V} {xs:List Value} (hh:enter P eJ (mh P tP g) args h n = .ok v h' n')
  (hA:gE ρ args xs) (hR:RH P Fr ρ h w):Plain P g/\Calls P g xs.toArray w (mE (jg P Fr ρ v h')):=by
 unfold okF at hZ
 unfold mh at hh
 cases hf:P.funcs[g]? with
 | none=>rw [hf] at hZ; cases hZ
 | some fn=>
 rw [hf] at hZ hh
 dsimp only at hZ hh
 cases hb:fn.body with
 | none=>rw [hb] at hZ; cases hZ
 | some c=>
 rw [hb] at hZ hh
 dsimp only at hZ hh
 simp only [Bool.and_eq_true,Bool.not_eq_true'] at hZ
 obtain ⟨Zs,KT,ad6⟩:=hZ
 have KT:=dV KT
 refine ⟨⟨fn,hf,Zs,by rw [hb]; rfl⟩,?_⟩
 cases hr:oS P fn.results.toList with
 | none=>rw [hr] at hh; cases hh
 | some r=>
 rw [hr] at hh
 dsimp only at hh
 obtain ⟨hle,hh⟩:=cP (show dM (Nat.ble (n7 args) (wk (pJ 0 fn.ntmps))) (leave P r (tN (fj P fn.ntmps (tP g) c) P eJ (j8 (pJ 0 fn.ntmps) args Uc) h n .nil)) .no = .ok v h' n' from hh)
 have hle:=dV hle
 rw [hA.len] at hle
 have Zt:=Nat.le_trans hle (Gd fn.ntmps 0)
 have hE:RE ρ (j8 (pJ 0 fn.ntmps) args Uc) (pA xs):=by
  have:=Gc fn.ntmps 0 hA hle RE0
  rw [Nr] at this
  exact this
 refine lx.1 (callsIn_of_wp_marks (F:=FO none) (n:=0) hf hb trivial ?_)
 have ha:ek [] fn.ntmps (pA xs) {tmps:=xs.toArray++Array.replicate (fn.ntmps - xs.toArray.size) undef,defers:=[]}:=by
  refine ⟨rfl,by simp; omega,λ i=>?_⟩
  rw [uP,Array.getD_eq_getD_getElem?,Array.getElem?_append]
  simp only [List.size_toArray,List.getElem?_toArray,Array.getElem?_replicate]
  by_cases hi:i<xs.length
  ·rw [if_pos hi]; simp [hi]
  ·rw [if_neg hi]
   have:xs[i]? = none:=by simp; omega
   simp only [List.getD_eq_getElem?_getD,this,Option.getD_none]
   split <;> rfl
 generalize hx:tN (fj P fn.ntmps (tP g) c) P eJ (j8 (pJ 0 fn.ntmps) args Uc) h n .nil=x at hh
 have Zt:x≠.no:=λ h0=>by rw [h0] at hh; cases hh
 refine wpIn_mono (Dp hm hc KT c none _ h n .nil x Fr ρ [] (pA xs) _ w (.inl rfl) ad6 hx Zt ha hE hR rfl) λ xt a' w' hp=>?_
 have fin:∀ e1 h1 n1 ds1,PZ P Fr ρ fn.ntmps e1 h1 ds1 a' w'->(kill ds1 h1 λ h=>Dd r P e1 h λ l=>.ok (M1 l) h n1) = .ok v h' n'->LeavesInM (FO none) 0 P fn a'.tmps (mE (jg P Fr ρ v h')) a'.defers .returning w':=by
  intro e1 h1 n1 ds1 hz hk
  obtain ⟨ρ2,oX,e2,Ge,Gl,yi,sq,Zr⟩:=hz
  rw [Gl.defers]
  refine qM oX w' ((Dt (K:=λ w2=>yp P fn.results.toList e2 (λ vs=>jg P Fr ρ v h' (Cq vs) w2) w2) hk Zr sq λ h2 w2 sB Gu=>?_).mono λ w1 WX=>?_)
  ·refine Dr hr sB yi Gu λ ρ3 l vs pK Uk hl hk3=>?_
   obtain ⟨q1,q2,_⟩:=bX hk3
   rw [<- q1,<- q2]
   exact ⟨ρ3,Ge.trans pK,Uk,Gb hl⟩
  ·obtain ⟨vs,g1,g2⟩:=Aa Gl fn.results.toList _ w1 WX
   exact ⟨_,tu (by simp) g1,_,rfl,g2⟩
 cases x with
 | no=>exact absurd rfl Zt
 | nx e1 h1 n1 ds1=>obtain ⟨rfl,hz⟩:=hp.nx; exact fin e1 h1 n1 ds1 hz hh
 | rt e1 h1 n1 ds1=>obtain ⟨rfl,hz⟩:=hp.rt; exact fin e1 h1 n1 ds1 hz hh
 | ex id e1 h1 n1 ds1=>cases hh
theorem Kc {x:Ex} {l:Nat} {k:PS->En->CC->CC->Ex->OR} (hh:BB x l k = .ok v h' n') :
  ∃ e1 h1 n1 ds1 j ps e2 a b,(x = .nx e1 h1 n1 ds1\/x = .rt e1 h1 n1 ds1\/∃ id,x = .ex id e1 h1 n1 ds1)/\dH h1 l = .lp 1 j ps e2 a b/\k ps e2 a b x = .ok v h' n':=by
 have key:∀ {h1:Hp} {y:Ex},(HB.Gt (dH h1 l) .no λ st _ ps e2 a b=>dM (Nat.beq st 1) (k ps e2 a b y) .no) = .ok v h' n'->∃ j ps e2 a b,dH h1 l = .lp 1 j ps e2 a b/\k ps e2 a b y = .ok v h' n':=by
  intro h1 y hh
  rcases HB.zu (dH h1 l) .no (λ st _ ps e2 a b=>dM (Nat.beq st 1) (k ps e2 a b y) .no) with h0 | ⟨st,j,ps,e2,a,b,h0,h2⟩
  ·rw [h0] at hh; cases hh
  ·rw [h2] at hh
   obtain ⟨g1,g2⟩:=cP hh
   have:=eW g1; subst this
   exact ⟨j,ps,e2,a,b,h0,g2⟩
 cases x with
 | no=>cases hh
 | nx e1 h1 n1 ds1=>obtain ⟨j,ps,e2,a,b,g1,g2⟩:=key hh; exact ⟨e1,h1,n1,ds1,j,ps,e2,a,b,.inl rfl,g1,g2⟩
 | rt e1 h1 n1 ds1=>obtain ⟨j,ps,e2,a,b,g1,g2⟩:=key hh; exact ⟨e1,h1,n1,ds1,j,ps,e2,a,b,.inr (.inl rfl),g1,g2⟩
 | ex id e1 h1 n1 ds1=>obtain ⟨j,ps,e2,a,b,g1,g2⟩:=key hh; exact ⟨e1,h1,n1,ds1,j,ps,e2,a,b,.inr (.inr ⟨id,rfl⟩),g1,g2⟩
theorem Ke {l:Nat} {args:V} (hh:round P eJ l args h n = .ok v h' n'):∃ j ps e a b e1 h1 n1 ds1 j2 Ty e2 a2 b2,dH h l = .lp 0 j ps e a b/\n7 args=wk ps/\tN a P eJ (j8 ps args e) h n .nil = .nx e1 h1 n1 ds1/\
  dH h1 l = .lp 0 j2 Ty e2 a2 b2/\BB (tN b P eJ e1 (ew h1 (.lp 1 j2 Ty e2 a2 b2) l) n1 ds1) l (EU l) = .ok v h' n':=by
 unfold round at hh
 rcases HB.zu (dH h l) .no _ with h0 | ⟨st,j,ps,e,a,b,h0,h2⟩
 ·have:=hh.symm.trans h0; cases this
 have hh:=h2.symm.trans hh
 obtain ⟨g1,g2⟩:=cP hh
 obtain ⟨g1,g3⟩:=ed g1
 have:=eW g1; subst this
 cases hx:tN a P eJ (j8 ps args e) h n .nil with
 | no=>rw [hx] at g2; cases g2
 | rt e1 h1 n1 ds1=>rw [hx] at g2; cases g2
 | ex id e1 h1 n1 ds1=>rw [hx] at g2; cases g2
 | nx e1 h1 n1 ds1=>
  rw [hx] at g2
  have g2:(HB.Gt (dH h1 l) .no λ st j ps e a' b'=>dM (Nat.beq st 0) (BB (tN b P eJ e1 (ew h1 (.lp 1 j ps e a' b') l) n1 ds1) l (EU l)) .no) = .ok v h' n':=g2
  rcases HB.zu (dH h1 l) .no (λ st j ps e a' b'=>dM (Nat.beq st 0) (BB (tN b P eJ e1 (ew h1 (.lp 1 j ps e a' b') l) n1 ds1) l (EU l)) .no) with k0 | ⟨st2,j2,Ty,e2,a2,b2,k0,k2⟩
  ·rw [k0] at g2; cases g2
  ·rw [k2] at g2
   obtain ⟨g4,g5⟩:=cP g2
   have:=eW g4; subst this
   exact ⟨j,ps,e,a,b,e1,h1,n1,ds1,j2,Ty,e2,a2,b2,h0,eW g3,hx,k0,g5⟩
theorem BX (hm:P.follows .mixedOrders=true) (hc:nU P eJ) {l:Nat} {q:Pl} {args:V} {xs:List Value} (hh:round P eJ l args h n = .ok v h' n') (hq:ρ l=some q)
  (hA:gE ρ args xs) (hR:RH P Fr ρ h w):YieldAt (FO none) 0 P q.k xs.toArray w (mE (jg P Fr ρ v h')):=by
 obtain ⟨j,ps,e,a,b,e1,h1,n1,ds1,j2,Ty,e2,a2,b2,k1,k2,k3,k4,k5⟩:=Ke hh
 obtain ⟨q',o,r1,r2,r3⟩:=hR.lv l (by rw [k1]; trivial)
 rw [hq] at r1; cases r1
 rw [k1] at r3
 obtain ⟨L0,hL0,rfl⟩:=r3
 obtain ⟨nt,pl,e',_,_,KT,T5,fS,rfl,rfl,Tx,Zu,hrA,hrB,iU,so,hE⟩:=hL0.ex
 have hlen:xs.length=L0.params.toList.length:=by rw [<- hA.len,k2,Kb T5]
 refine ⟨L0.fn,_,L0.assign,L0.body,run_yield (r:={L0 with state:=JW 0,pending:=oV j}) r2 (by simpa using hlen),roundIn_of_wpIn trivial ?_⟩
 have yn:ek [] nt (pO xs L0.params.toList 0 e') {tmps:=(L0.params.zip xs.toArray).foldl (λ t (q:Nat × Value)=>t.setIfInBounds q.1 q.2) L0.tmps,defers:=[]}:=by
  have h0:ek [] nt e' {tmps:=L0.tmps,defers:=[]}:=⟨rfl,iU,so⟩
  have:=qL (args:=xs) L0.params.toList 0 e' _ fS h0 (by omega)
  have e1:(L0.params.zip xs.toArray).foldl (λ t (q:Nat × Value)=>t.setIfInBounds q.1 q.2) L0.tmps=(L0.params.toList.zip (xs.drop 0)).foldl (λ t (q:Nat × Value)=>t.setIfInBounds q.1 q.2) L0.tmps:=by
   rw [<- Array.foldl_toList,Array.toList_zip]; simp
  rw [e1]; exact this
 have hE1:RE ρ (j8 ps args e) (pO xs L0.params.toList 0 e'):=Du T5 (by simpa using hA) (by omega) hE
 refine wpIn_mono (Dp hm hc KT L0.assign (some q.k) _ h n .nil _ Fr ρ [] _ _ w (.inr hrA) Tx k3 (λ hh=>by cases hh) yn hE1 hR rfl) λ xt a1 w1 hp=>?_
 obtain ⟨rfl,ρ2,P9,e3,Ge,Gl,yi,sq,Zr⟩:=hp.nx
 obtain ⟨q',o,r4,r5,r6⟩:=sq.lv l (by rw [k4]; trivial)
 rw [Ge _ _ hq] at r4; cases r4
 rw [k4] at r6
 obtain ⟨L2,hL2,rfl⟩:=r6
 have ad7:q.k<w1.heap.size:=(Array.getElem?_eq_some_iff.1 r5).1
 refine ⟨_,run_beginRound r5 rfl,?_⟩
 have Gu:RH P Fr ρ2 (ew h1 (.lp 1 j2 Ty e2 a2 b2) l) (w1.putObj q.k (.loop {L2 with state:=.busy,pending:=oV j2})):=
  sq.sJ (by rw [k4]; trivial) (Ge _ _ hq) (World.putObj_heap_same ad7) ⟨L2,hL2,rfl⟩ px
 obtain ⟨e5,h5,n5,ds5,j5,Zv,e6,a5,b5,g1,g2,g3⟩:=Kc k5
 generalize hx2:tN (fj P nt pl L0.body) P eJ e1 (ew h1 (.lp 1 j2 Ty e2 a2 b2) l) n1 ds1=x2 at g1 g3
 have Zt:x2≠.no:=λ h0=>by rcases g1 with g1 | g1 | ⟨id,g1⟩ <;> rw [h0] at g1 <;> cases g1
 refine wpIn_mono (Dp hm hc KT L0.body (some q.k) e1 _ n1 ds1 x2 Fr ρ2 P9 e3 a1 _ (.inr hrB) Zu hx2 Zt Gl yi Gu Zr) λ xt a3 w3 hp=>?_
 have fin:PZ P Fr ρ2 nt e5 h5 ds5 a3 w3->∃ L3 ρ3,YL P ρ3 Zv e6 a5 b5 L3/\Le ρ ρ3/\w3.heap[q.k]? = some (.loop {L3 with state:=.busy,pending:=oV j5})/\
   ∀ st j,RH P Fr ρ3 (ew h5 (.lp st j Zv e6 a5 b5) l) (w3.putObj q.k (.loop {L3 with state:=JW st,pending:=oV j})):=by
  intro ⟨ρ3,dk3,e7,pK,ha3,hE3,Uk,hD3⟩
  obtain ⟨q',o,r7,r8,r9⟩:=Uk.lv l (by rw [g2]; trivial)
  have KS:=pK _ _ (Ge _ _ hq)
  rw [KS] at r7; cases r7
  rw [g2] at r9
  obtain ⟨L3,hL3,rfl⟩:=r9
  exact ⟨L3,ρ3,hL3,Ge.trans pK,r8,λ st j=>Uk.sJ (by rw [g2]; trivial) KS (World.putObj_heap_same (Array.getElem?_eq_some_iff.1 r8).1) ⟨L3,hL3,rfl⟩ px⟩
 rcases g1 with rfl | rfl | ⟨id,rfl⟩
 ·obtain ⟨rfl,hz⟩:=hp.nx
  obtain ⟨L3,ρ3,_,hle,r8,hk⟩:=fin hz
  obtain ⟨q1,q2,_⟩:=bX (show OR.ok (.b true) (ew h5 (.lp 0 .no Zv e6 a5 b5) l) n5 = .ok v h' n' from g3)
  rw [<- q1,<- q2]
  exact ⟨_,_,run_endRound none r8,_,rfl,ρ3,hle,hk 0 .no,rfl⟩
 ·obtain ⟨rfl,hz⟩:=hp.rt
  obtain ⟨L3,ρ3,_,hle,r8,hk⟩:=fin hz
  obtain ⟨q1,q2,_⟩:=bX (show OR.ok (.b false) (ew h5 (.lp 2 .rt Zv e6 a5 b5) l) n5 = .ok v h' n' from g3)
  rw [<- q1,<- q2]
  exact ⟨_,_,run_endRound (some .ret) r8,_,rfl,ρ3,hle,hk 2 .rt,rfl⟩
 obtain ⟨rfl,hz⟩:=hp.ex
 obtain ⟨L3,ρ3,_,hle,r8,hk⟩:=fin hz
 obtain ⟨q1,q2,_⟩:=bX (show OR.ok (.b false) (ew h5 (.lp 2 (.ex id) Zv e6 a5 b5) l) n5 = .ok v h' n' from g3)
 rw [<- q1,<- q2]
 exact ⟨_,_,run_endRound (some (.exit id)) r8,_,rfl,ρ3,hle,hk 2 (.ex id),rfl⟩
end
theorem Gf {P:Program} (hm:P.follows .mixedOrders=true) {L:List Nat} {tP:Nat->Nat->PT} (jq:List.all L (okF P tP)=true):∀ f,nU P (PM P (mZ L (mh P tP)) f):=by
 intro f
 induction f with
 | zero=>intro c args h n v h' n' hh; cases hh
 | succ f ih=>
  intro c args h n v h' n' hh Fr ρ w x xs hx hA hR
  have hh:c.Jv .no (λ g FW=>enter P (PM P (mZ L (mh P tP)) f) (mZ L (mh P tP) g) (FV args FW) h n) (λ l=>round P (PM P (mZ L (mh P tP)) f) l args h n) = .ok v h' n':=hh
  rcases V.Jw c .no (λ g FW=>enter P (PM P (mZ L (mh P tP)) f) (mZ L (mh P tP) g) (FV args FW) h n) (λ l=>round P (PM P (mZ L (mh P tP)) f) l args h n) with h0 | ⟨g,FW,h0,h1⟩ | ⟨l,h0,h1⟩
  ·rw [h0] at hh; cases hh
  ·rw [h1] at hh
   rw [h0] at hx
   obtain ⟨ys,hys,hx⟩:=hx
   cases wT:iW g L with
   | false=>unfold mZ at hh; rw [wT] at hh; cases hh
   | true=>
    have hZ:=List.all_eq_true.1 jq g (oa.1 wT)
    have he:mZ L (mh P tP) g=mh P tP g:=by unfold mZ; rw [wT]; rfl
    rw [he] at hh
    obtain ⟨p1,p2⟩:=BW hm ih hZ hh (gE.app hA hys) hR
    exact ⟨.inl ⟨g,#[],ys.toArray,hx,p1,by simpa using p2⟩⟩
  ·rw [h1] at hh
   rw [h0] at hx
   obtain ⟨q,hq,hx⟩:=hx
   exact ⟨.inr ⟨q.k,hx,BX hm ih hh hq hA hR⟩⟩
noncomputable def Zw (x:OR):Bool:=OR.rec (motive:=λ _=>Bool) false (λ v _ _=>V.rec (motive:=λ _=>Bool) (λ b=>b) (λ _ _=>false) (λ _ _=>false) false (λ _ _=>false) false (λ _ _ _ _=>false) (λ _ _ _ _=>false) false false (λ _=>false) false (λ _ _ _=>false) (λ _=>false) (λ _ _=>false) (λ _ _=>false) false (λ _ _ _ _=>false) v) x
theorem Gg {P:Program} (hm:P.follows .mixedOrders=true) {L:List Nat} {tP:Nat->Nat->PT} (jq:List.all L (okF P tP)=true) {f g:Nat} (lB:Zw (PM P (mZ L (mh P tP)) f (.f g .e) .e .lf 0)=true) (w:World) :
  Calls P g #[] w (mE fun (v:Value) (w':World)=>v = .bool true/\Ext w w'):=by
 cases hx:PM P (mZ L (mh P tP)) f (.f g .e) .e .lf 0 with
 | no=>rw [hx] at lB; cases lB
 | ok v h' n'=>
  rw [hx] at lB
  have hv:v = .b true:=by
   cases v <;> cases lB
   rfl
  subst hv
  have hR:RH P ⟨λ r=>w.heap[r]?,w⟩ (λ _=>none) .lf w:=⟨λ _ _=>rfl,λ _ hl=>hl.elim,λ _ _ _ _ hl=>hl.elim,λ _ _ hr=>hr,λ _ _ hl=>hl.elim,rfl,rfl,rfl⟩
  have:=Gf hm jq f _ _ _ _ _ _ _ hx ⟨λ r=>w.heap[r]?,w⟩ (λ _=>none) w (.func (.func g) #[] #[]) [] ⟨[],rfl,rfl⟩ rfl hR
  rcases this.ex with ⟨g',first,cap,q1,_,q3⟩ | ⟨l,q1,_⟩
  case inr=>cases q1
  injection q1 with q1 q2 q4
  injection q1 with q1
  subst q1; subst q2; subst q4
  have q5:Calls P g #[] w (mE (jg P ⟨λ r=>w.heap[r]?,w⟩ (λ _=>none) (.b true) h')):=by simpa using q3
  refine q5.mono λ x w' ⟨y,hx,ρ',_,Zx,hv⟩=>⟨y,hx,hv,Zx.st.1,Zx.st.2.1,Zx.st.2.2,?_,λ b hb _=>?_⟩
  ·rcases Nat.eq_zero_or_pos w.heap.size with h0 | h0
   ·omega
   ·have fS:w.heap.size - 1<w.heap.size:=by omega
    have:=(Array.getElem?_eq_some_iff.1 (Zx.tT (w.heap.size - 1) _ (Array.getElem?_eq_getElem fS))).1
    omega
  ·rw [Zx.tT b _ (Array.getElem?_eq_getElem hb),Array.getElem?_eq_getElem hb]
end Go.Fw
namespace Go.Proofs.YtnjcingfdhjfkaaGreat
open Go.Fw
def tP:Nat->Nat->PT
 | 12,4=>(.op 0 [] (.op 2 [] (.op 4 [] (.op 5 [] (.op 6 [] (.alt 1 [2,5] (.alt 3 [5] (.of [(7,[]),(8,[0,2,5]),(9,[])]) (.alt 8 [0,2,5] (.of [(3,[5]),(7,[]),(9,[])]) .stop)) (.alt 8 [0,2,5] (.of [(1,[2,5]),(3,[5]),(7,[]),(9,[])]) .stop)))))))
 | 12,8=>(.of [(0,[]),(1,[]),(2,[]),(3,[]),(4,[1]),(5,[1]),(6,[]),(7,[]),(8,[])])
 | 12,12=>(.of [(0,[]),(1,[]),(2,[]),(3,[]),(4,[]),(5,[]),(6,[]),(7,[]),(8,[1]),(9,[1]),(10,[]),(11,[]),(12,[])])
 | 12,18=>(.of [(0,[]),(1,[]),(2,[]),(3,[]),(4,[]),(5,[]),(6,[]),(8,[]),(9,[]),(7,[1,5,9]),(10,[]),(11,[]),(12,[]),(13,[]),(14,[]),(15,[]),(16,[])])
 | 18,2=>(.of [(0,[]),(1,[]),(2,[]),(3,[]),(4,[]),(5,[]),(6,[]),(7,[]),(8,[]),(9,[]),(10,[]),(11,[]),(12,[]),(13,[3,7,11]),(14,[])])
 | 19,2=>(.of [(0,[]),(1,[]),(2,[]),(3,[]),(5,[]),(6,[]),(7,[]),(8,[]),(4,[8]),(9,[]),(10,[]),(11,[]),(12,[]),(13,[]),(14,[]),(15,[])])
 | 19,7=>(.of [(0,[]),(1,[]),(2,[]),(3,[]),(5,[]),(6,[]),(7,[]),(8,[]),(10,[]),(11,[]),(12,[]),(13,[]),(4,[8,13]),(9,[13]),(14,[]),(15,[]),(16,[]),(17,[]),(18,[]),(19,[]),(20,[])])
 | 40,33=>(.of [(0,[]),(2,[]),(1,[2]),(3,[]),(4,[]),(5,[])])
 | 41,1=>(.of [(0,[]),(3,[]),(4,[]),(5,[]),(1,[4]),(2,[]),(6,[]),(7,[])])
 | 44,2=>(.of [(0,[]),(1,[]),(2,[]),(3,[]),(4,[]),(6,[]),(7,[]),(8,[]),(5,[1,6,8]),(9,[1]),(10,[]),(11,[])])
 | 49,5=>(.of [(0,[]),(1,[]),(3,[]),(4,[]),(5,[]),(6,[]),(7,[]),(2,[7]),(8,[]),(9,[]),(10,[]),(11,[]),(12,[]),(13,[]),(14,[])])
 | 53,1=>(.of [(0,[]),(1,[]),(3,[]),(4,[]),(6,[]),(7,[]),(2,[4,7]),(9,[]),(5,[7]),(8,[]),(10,[]),(11,[]),(12,[]),(13,[]),(14,[])])
 | 55,9=>(.op 0 [] (.op 1 [] (.op 2 [] (.op 3 [] (.op 5 [] (.op 6 [] (.alt 4 [1,6] (.of [(7,[1,3]),(8,[]),(9,[]),(10,[])]) (.alt 7 [1,3] (.of [(4,[1,6]),(8,[]),(9,[]),(10,[])]) .stop))))))))
 | 62,1=>(.op 0 [] (.op 1 [] (.op 2 [] (.op 3 [] (.op 4 [] (.op 5 [] (.op 6 [] (.op 7 [] (.op 8 [] (.op 9 [] (.op 10 [] (.op 11 [] (.op 12 [] (.alt 13 [] (.of [(14,[]),(15,[]),(16,[]),(17,[3,5,7,10,12]),(18,[]),(19,[])]) (.alt 17 [3,5,7,10,12] (.of [(13,[]),(14,[]),(15,[]),(16,[]),(18,[]),(19,[])]) .stop)))))))))))))))
 | 69,1=>(.op 0 [] (.op 1 [] (.op 2 [] (.op 3 [] (.op 4 [] (.op 5 [] (.op 6 [] (.op 7 [] (.op 8 [] (.op 10 [] (.alt 9 [3,7] (.alt 11 [3,7] (.of [(12,[3,7]),(13,[]),(14,[]),(15,[])]) (.alt 12 [3,7] (.of [(11,[3,7]),(13,[]),(14,[]),(15,[])]) .stop)) (.alt 12 [3,7] (.of [(9,[3,7]),(11,[3,7]),(13,[]),(14,[]),(15,[])]) .stop))))))))))))
 | 69,5=>(.of [(0,[]),(1,[]),(2,[]),(3,[]),(4,[]),(5,[]),(6,[3]),(7,[])])
 | 71,1=>(.of [(0,[]),(1,[]),(2,[]),(3,[]),(4,[]),(5,[3]),(6,[]),(7,[]),(8,[])])
 | 100,3=>(.of [(0,[]),(2,[]),(3,[]),(1,[3]),(4,[]),(5,[])])
 | 100,16=>(.of [(0,[]),(2,[]),(3,[]),(1,[3]),(4,[]),(5,[])])
 | 103,6=>(.of [(0,[]),(1,[]),(2,[]),(4,[]),(5,[]),(6,[]),(7,[]),(3,[]),(8,[]),(9,[]),(10,[])])
 | 109,6=>(.of [(0,[]),(1,[]),(2,[]),(3,[1]),(4,[1]),(5,[]),(6,[]),(7,[])])
 | 109,8=>(.of [(0,[]),(1,[]),(2,[]),(3,[1]),(4,[]),(5,[]),(6,[])])
 | 109,10=>(.of [(0,[]),(1,[]),(2,[]),(3,[1]),(4,[]),(5,[]),(6,[])])
 | 109,13=>(.of [(0,[]),(1,[]),(2,[]),(3,[]),(4,[]),(5,[]),(6,[]),(7,[]),(8,[1]),(9,[1]),(10,[]),(11,[]),(12,[])])
 | 109,15=>(.of [(0,[]),(1,[]),(2,[]),(3,[]),(4,[]),(5,[]),(6,[]),(7,[]),(8,[]),(9,[]),(10,[]),(11,[]),(12,[]),(13,[1]),(14,[1]),(15,[]),(16,[]),(17,[])])
 | 109,17=>(.of [(0,[]),(1,[]),(2,[]),(3,[]),(4,[]),(5,[]),(6,[]),(7,[]),(8,[]),(9,[]),(10,[]),(11,[]),(12,[1]),(13,[1]),(14,[]),(15,[]),(16,[])])
 | 109,21=>(.of [(0,[]),(1,[]),(2,[]),(3,[]),(4,[]),(5,[]),(6,[]),(7,[]),(8,[]),(9,[4,8]),(10,[]),(11,[])])
 | 110,19=>(.of [(0,[]),(1,[]),(2,[]),(3,[1]),(4,[]),(5,[]),(6,[]),(7,[]),(8,[]),(9,[])])
 | 110,9=>(.of [(0,[]),(1,[]),(2,[]),(4,[]),(3,[1]),(5,[]),(6,[]),(7,[]),(8,[]),(9,[]),(10,[])])
 | 112,1=>(.of [(0,[]),(1,[]),(2,[]),(3,[]),(4,[]),(6,[]),(7,[]),(5,[0,2,7]),(8,[]),(9,[]),(10,[])])
 | 113,9=>(.of [(0,[]),(2,[]),(3,[]),(4,[]),(5,[]),(1,[3,5]),(6,[]),(7,[])])
 | 120,5=>(.of [(0,[]),(1,[]),(2,[]),(3,[]),(4,[]),(5,[]),(6,[]),(7,[]),(8,[]),(9,[]),(10,[]),(11,[]),(13,[]),(14,[]),(15,[]),(16,[]),(17,[]),(18,[]),(12,[1,4,14,18]),(19,[1,4]),(20,[]),(21,[]),(22,[4]),(23,[]),(24,[]),(25,[])])
 | 128,6=>(.of [(0,[]),(1,[]),(2,[]),(3,[]),(4,[]),(5,[]),(6,[]),(7,[]),(8,[]),(9,[]),(10,[]),(11,[]),(12,[]),(13,[]),(14,[3,8,10]),(15,[3]),(16,[])])
 | 131,4=>(.of [(0,[]),(1,[]),(2,[]),(3,[]),(4,[]),(5,[]),(6,[]),(7,[]),(8,[]),(9,[]),(10,[]),(11,[]),(12,[]),(13,[]),(14,[]),(15,[]),(16,[10,14]),(17,[]),(18,[14]),(19,[]),(20,[])])
 | 158,7=>(.of [(0,[]),(1,[]),(2,[]),(5,[]),(6,[]),(7,[]),(8,[]),(3,[]),(4,[]),(9,[]),(10,[]),(11,[])])
 | 159,1=>(.of [(0,[]),(1,[]),(2,[]),(3,[]),(6,[]),(7,[]),(9,[]),(10,[]),(4,[7,10]),(5,[]),(8,[10]),(11,[]),(12,[]),(13,[])])
 | 159,15=>(.of [(0,[]),(1,[]),(3,[]),(4,[]),(2,[4]),(5,[]),(6,[]),(7,[])])
 | 168,8=>(.of [(0,[]),(1,[]),(2,[]),(3,[]),(4,[]),(5,[]),(6,[]),(7,[1]),(8,[]),(9,[]),(10,[])])
 | 176,1=>(.of [(1,[]),(2,[]),(5,[]),(0,[2]),(3,[]),(4,[]),(6,[]),(7,[])])
 | 196,5=>(.of [(0,[]),(1,[]),(2,[]),(3,[]),(4,[]),(5,[]),(6,[4]),(7,[]),(8,[]),(9,[]),(10,[])])
 | 231,12=>(.of [(0,[]),(1,[]),(2,[]),(3,[]),(4,[]),(5,[]),(7,[]),(8,[]),(9,[]),(10,[]),(11,[]),(12,[]),(13,[]),(14,[]),(6,[11]),(15,[]),(16,[]),(17,[])])
 | 233,4=>(.of [(0,[]),(1,[]),(2,[]),(3,[]),(4,[]),(5,[]),(6,[]),(7,[]),(8,[]),(9,[3,7]),(10,[])])
 | 233,12=>(.of [(0,[]),(1,[]),(2,[]),(3,[]),(4,[]),(5,[]),(6,[4]),(7,[]),(8,[]),(9,[]),(10,[])])
 | 235,9=>(.of [(0,[]),(1,[]),(2,[]),(3,[]),(5,[]),(4,[2]),(6,[]),(7,[]),(8,[2]),(9,[])])
 | 257,27=>(.of [(0,[]),(1,[]),(2,[]),(3,[]),(4,[]),(5,[]),(6,[]),(7,[]),(8,[]),(9,[]),(10,[]),(12,[]),(13,[]),(11,[]),(14,[]),(15,[])])
 | 257,29=>(.of [(0,[]),(1,[]),(2,[]),(3,[]),(4,[]),(5,[]),(6,[]),(7,[]),(8,[]),(9,[]),(10,[]),(12,[]),(13,[]),(11,[]),(14,[]),(15,[])])
 | _,_=>.nil
def fsL:List Nat:=[12,14,15,16,17,18,19,20,21,22,23,25,31,40,41,42,43,44,45,46,48,49,50,51,52,53,54,55,56,57,58,59,60,61,62,63,64,65,66,67,68,69,70,71,72,73,82,91,93,94,95,96,97,98,99,100,101,102,103,104,105,106,107,109,110,111,112,113,114,115,116,117,118,119,120,121,122,123,124,125,126,127,128,129,130,131,132,133,134,135,136,137,144,145,154,155,156,157,158,159,160,161,162,163,164,165,166,167,168,169,170,171,172,173,174,175,176,177,178,179,180,181,182,183,184,185,186,187,188,189,190,191,192,193,194,195,196,205,206,207,208,209,210,211,212,213,214,215,216,217,218,219,220,221,222,223,224,225,226,230,231,232,233,234,235,236,237,238,239,240,241,242,243,244,245,246,247,248,249,250,251,252,253,254,255,256,257,258,259,260,261,262,263]
theorem ad9:List.all fsL (okF PG tP)=true:=by kernel_rfl
theorem aea:Zw (PM PG (mZ fsL (mh PG tP)) 200 (.f 14 .e) .e .lf 0)=true:=by kernel_rfl
theorem C14 (w:World):CR 14 [] w (λ v w'=>v = .bool true/\Ext w w'):=Gg mixed ad9 aea w
theorem Gh (s:dC):lE (Flat.enc s) (Flat.enc s)=decide True:=by
 simp [lE,Flat.enc,Q2]
structure wD (L:List aV) (counts:Int):Prop where
 fwd:∀ (i:Nat) (x:aV),L[i]? = some x->x.kind=11\/x.kind=12->(i:Int)<x.to/\x.to<=L.length
 fq:∀ (i:Nat) (x:aV),L[i]? = some x->x.kind=13\/x.kind=14->0<=x.a/\x.a<counts
 b8:∀ (i:Nat) (x:aV),L[i]? = some x->x.kind=13->1<=x.b/\x.b<=8
 back:∀ (i:Nat) (x:aV),L[i]? = some x->x.kind=14->1<=x.to/\x.to<=i
 clean:∀ (i k:Nat) (x y:aV),L[i]? = some x->x.kind=14->x.to<=k->k<i->L[k]? = some y->y.kind=13->y.a≠x.a
 pair:∀ (i k:Nat) (x y:aV),L[i]? = some x->x.kind=14->k<i->L[k]? = some y->y.kind=14->x.to<=y.to\/(k:Int)+1<x.to
def BY (L:List aV) (p:Int) (cs:List Int) (i:Nat):Nat:=match L[i]? with
 | some x=>if x.kind=14 then (if p<x.to then 9 else if p<=i then (cs.getD x.a.toNat 0).toNat else 0) else 0
 | none=>0
def num (f:Nat->Nat):Nat->Nat
 | 0=>0
 | k+1=>f k * 10 ^ k+num f k
theorem wE {f:Nat->Nat}:∀ {n:Nat},(∀ i,i<n->f i<=9)->num f n<10 ^ n
 | 0,_=>by simp [num]
 | n+1,h=>by
  have h1:=wE (n:=n) λ i hi=>h i (by omega)
  have h2:=Nat.mul_le_mul_right (10 ^ n) (h n (by omega))
  rw [num,Nat.pow_succ]; omega
theorem Kf {f g:Nat->Nat}:∀ {n:Nat},(∀ i,i<n->f i<=g i)->num f n<=num g n
 | 0,_=>Nat.le_refl _
 | n+1,h=>by
  have h1:=Kf (n:=n) λ i hi=>h i (by omega)
  have h2:=Nat.mul_le_mul_right (10 ^ n) (h n (by omega))
  rw [num,num]; omega
theorem Kg {f g:Nat->Nat} {i:Nat} (hf:∀ k,f k<=9) (h0:f i<g i):∀ {n:Nat},i<n->(∀ j,i<j->j<n->f j<=g j)->num f n<num g n
 | 0,h,_=>by omega
 | n+1,h,hj=>by
  rw [num,num]
  by_cases e:i=n
  ·subst e
   have h1:=wE (f:=f) (n:=i) λ k _=>hf k
   have h2:=Nat.mul_le_mul_right (10 ^ i) (show f i+1<=g i from h0)
   rw [Nat.add_mul] at h2; omega
  ·have h1:=Kg (n:=n) hf h0 (by omega) λ j a b=>hj j a (by omega)
   have h2:=Nat.mul_le_mul_right (10 ^ n) (hj n (by omega) (by omega))
   omega
def wF (L:List aV) (p:Int) (cs:List Int):Nat:=num (BY L p cs) L.length * (L.length+1)+((L.length:Int) - p).toNat
structure Dv (L:List aV) (N:Nat) (p:Int) (cs:List Int):Prop where
 p0:0<=p/\p<=L.length
 up:∀ k:Nat,cs.getD k 0<=8
 lo:∀ k:Nat,(wF L p cs:Int)<=cs.getD k 0+N
theorem Ns {v:Int} {N:Nat} (h:v<=8) (h2:1<=v+N) (hN:N<=4000000000000000000):kW (v - 1)=v - 1:=yJ ⟨by omega,by omega⟩
theorem BZ {cs:List Int} {i:Nat} {v b:Int} (hv:v<=b) (h:∀ k:Nat,cs.getD k 0<=b) (k:Nat):(cs.set i v).getD k 0<=b:=by
 by_cases e:i=k
 ·subst e
  by_cases hl:i<cs.length
  ·rw [jm hl]; exact hv
  rw [List.set_eq_of_length_le (by omega)]; exact h i
 rw [getD_set_ne e]; exact h k
theorem zG {L:List aV} {cn:Int} {N:Nat} {p p':Int} {cs cs':List Int} (hR:wD L cn) (h:Dv L N p cs) (hp:p<p') (hp':p'<=L.length)
  (KU:∀ k:Nat,cs'.getD k 0<=8) (VO:∀ (i:Nat) (x:aV),L[i]? = some x->x.kind=14->x.to<=p->p'<=i->cs'.getD x.a.toNat 0<=cs.getD x.a.toNat 0):wF L p' cs'+1<=wF L p cs:=by
 have h0:=h.p0
 have hd:∀ i,i<L.length->BY L p' cs' i<=BY L p cs i:=λ i _=>by
  unfold BY
  split
  ·rename_i x hx
   by_cases hk:x.kind=14
   ·rw [if_pos hk,if_pos hk]
    have hb:=hR.back i x hx hk
    have hu:=KU x.a.toNat
    by_cases h1:p'<x.to
    ·rw [if_pos h1,if_pos (by omega)]; exact Nat.le_refl _
    ·rw [if_neg h1]
     by_cases h2:p'<=i
     ·rw [if_pos h2]
      by_cases h3:p<x.to
      ·rw [if_pos h3]; omega
      ·rw [if_neg h3,if_pos (by omega)]
       have:=VO i x hx hk (by omega) h2
       omega
     ·rw [if_neg h2]; exact Nat.zero_le _
   ·rw [if_neg hk]; exact Nat.zero_le _
  ·exact Nat.zero_le _
 have h1:=Nat.mul_le_mul_right (L.length+1) (Kf hd)
 unfold wF
 omega
theorem Kh {L:List aV} {cn:Int} {N:Nat} {p:Int} {cs cs':List Int} {x:aV} (hR:wD L cn) (h:Dv L N p cs) (hx:L[p.toNat]? = some x) (hk:x.kind=14)
  (KU:∀ k:Nat,cs'.getD k 0<=cs.getD k 0) (hv:0<cs'.getD x.a.toNat 0) (hv2:cs'.getD x.a.toNat 0<cs.getD x.a.toNat 0):wF L x.to cs'+1<=wF L p cs:=by
 have h0:=h.p0
 have hb:=hR.back _ x hx hk
 have fS:p.toNat<L.length:=(List.getElem?_eq_some_iff.1 hx).1
 have h9:∀ k,BY L x.to cs' k<=9:=λ k=>by
  unfold BY
  split
  ·rename_i y _
   have:=KU y.a.toNat
   have:=h.up y.a.toNat
   split
   ·split
    ·omega
    ·split <;> omega
   ·omega
  ·omega
 have hi:BY L x.to cs' p.toNat<BY L p cs p.toNat:=by
  unfold BY
  rw [hx]
  dsimp only
  rw [if_pos hk,if_pos hk,if_neg (by omega),if_pos (by omega),if_neg (by omega),if_pos (by omega)]
  omega
 have hj:∀ j,p.toNat<j->j<L.length->BY L x.to cs' j<=BY L p cs j:=λ j h1 _=>by
  unfold BY
  split
  ·rename_i y hy
   by_cases Qa:y.kind=14
   ·rw [if_pos Qa,if_pos Qa]
    have hu:=KU y.a.toNat
    rcases hR.pair j p.toNat y x hy Qa h1 hx hk with h2 | h2
    ·rw [if_neg (by omega),if_pos (by omega),if_neg (by omega),if_pos (by omega)]; omega
    ·rw [if_pos (by omega),if_pos (by omega)]; exact Nat.le_refl _
   ·rw [if_neg Qa]; exact Nat.zero_le _
  ·exact Nat.zero_le _
 have h1:=Kg h9 hi fS hj
 have h2:=Nat.mul_le_mul_right (L.length+1) (show num (BY L x.to cs') L.length+1<=num (BY L p cs) L.length from h1)
 rw [Nat.add_mul] at h2
 unfold wF
 omega
theorem Ki {L:List aV} {cn:Int} {N:Nat} {p p':Int} {cs cs':List Int} {x:aV} (hN:N<=4000000000000000000) (hR:wD L cn) (zS:(cs.length:Int)=cn) (h:Dv L N p cs) (hx:L[p.toNat]? = some x)
  (hT:Tr x p cs p' cs'):Dv L N p' cs'/\(cs'.length:Int)=cn/\wF L p' cs'+1<=wF L p cs:=by
 have h0:=h.p0
 have fS:p.toNat<L.length:=(List.getElem?_eq_some_iff.1 hx).1
 have same:∀ q:Int,p<q->q<=L.length->Dv L N q cs/\(cs.length:Int)=cn/\wF L q cs+1<=wF L p cs:=λ q h1 h2=>by
  have hm:=zG hR h h1 h2 h.up λ _ _ _ _ _ _=>Int.le_refl _
  exact ⟨⟨⟨by omega,h2⟩,h.up,λ k=>by have:=h.lo k; omega⟩,zS,hm⟩
 by_cases KM:x.kind=11
 ·obtain ⟨rfl,rfl⟩:=Yk hT KM
  have:=hR.fwd _ x hx (.inl KM)
  exact same _ (by omega) this.2
 by_cases Gr:x.kind=12
 ·obtain ⟨h1,rfl⟩:=Yl hT Gr
  have:=hR.fwd _ x hx (.inr Gr)
  rcases h1 with rfl | rfl
  ·exact same _ (by omega) this.2
  exact same _ (by omega) (by omega)
 by_cases Gs:x.kind=13
 ·obtain ⟨rfl,rfl⟩:=Ym hT Gs
  have hc:=hR.fq _ x hx (.inl Gs)
  have h8:=hR.b8 _ x hx Gs
  have KU:∀ k:Nat,(cs.set x.a.toNat x.b).getD k 0<=8:=BZ h8.2 h.up
  have hm:=zG (p':=p+1) (cs':=cs.set x.a.toNat x.b) hR h (by omega) (by omega) KU λ i y hy hk h1 h2=>by
   have:=hR.clean i p.toNat y x hy hk (by omega) (by omega) hx Gs
   have hy2:=hR.fq i y hy (.inr hk)
   rw [getD_set_ne (by omega)]; exact Int.le_refl _
  refine ⟨⟨⟨by omega,by omega⟩,KU,λ k=>?_⟩,by rw [List.length_set]; exact zS,hm⟩
  have hk:=h.lo k
  by_cases e:x.a.toNat=k
  ·subst e
   rw [jm (by omega)]
   have:(wF L p cs:Int)<=8+N:=by have:=h.lo x.a.toNat; have:=h.up x.a.toNat; omega
   have h00:=h.lo cs.length
   rw [List.getD_eq_getElem?_getD,List.getElem?_eq_none (Nat.le_refl _)] at h00
   have h01:(wF L p cs:Int)<=0+N:=h00
   omega
  rw [getD_set_ne e]; omega
 by_cases EK:x.kind=14
 ·obtain ⟨rfl,h1⟩:=Yn hT EK
  have hc:=hR.fq _ x hx (.inr EK)
  have hb:=hR.back _ x hx EK
  have Te:=h.lo x.a.toNat
  have aeb:=h.up x.a.toNat
  have hmu:1<=wF L p cs:=by unfold wF; omega
  have hw:=Ns (v:=cs.getD x.a.toNat 0) aeb (by omega) hN
  rw [hw] at h1 |-
  have hle:∀ k:Nat,(cs.set x.a.toNat (cs.getD x.a.toNat 0 - 1)).getD k 0<=cs.getD k 0:=λ k=>by
   by_cases e:x.a.toNat=k
   ·subst e; rw [jm (by omega)]; omega
   ·rw [getD_set_ne e]; exact Int.le_refl _
  have sC:∀ k:Nat,cs.getD k 0 - 1<=(cs.set x.a.toNat (cs.getD x.a.toNat 0 - 1)).getD k 0:=λ k=>by
   by_cases e:x.a.toNat=k
   ·subst e; rw [jm (by omega)]; omega
   ·rw [getD_set_ne e]; omega
  have KU:∀ k:Nat,(cs.set x.a.toNat (cs.getD x.a.toNat 0 - 1)).getD k 0<=8:=λ k=>Int.le_trans (hle k) (h.up k)
  have fin:∀ q:Int,0<=q->q<=L.length->wF L q (cs.set x.a.toNat (cs.getD x.a.toNat 0 - 1))+1<=wF L p cs->Dv L N q (cs.set x.a.toNat (cs.getD x.a.toNat 0 - 1))/\((cs.set x.a.toNat (cs.getD x.a.toNat 0 - 1)).length:Int)=cn/\wF L q (cs.set x.a.toNat (cs.getD x.a.toNat 0 - 1))+1<=wF L p cs:=λ q q0 q1 hm=>
   ⟨⟨⟨q0,q1⟩,KU,λ k=>by have:=h.lo k; have:=sC k; omega⟩,by rw [List.length_set]; exact zS,hm⟩
  rcases h1 with ⟨h2,rfl⟩ | ⟨h2,rfl⟩
  ·refine fin _ (by omega) (by omega) (Kh hR h hx EK hle ?_ ?_)
   ·rw [jm (by omega)]; exact h2
   rw [jm (by omega)]; omega
  exact fin _ (by omega) (by omega) (zG hR h (by omega) (by omega) KU λ i y _ _ _ _=>hle _)
 obtain ⟨rfl,rfl⟩:=MH hT KM Gr Gs EK
 exact same _ (by omega) (by omega)
theorem Gi {c:dK} {cells lines locks:Int} (h:gm c cells lines locks=true):wD c.l c.counts:=by
 have hU:=rX h
 unfold gm at h
 simp only [Bool.and_eq_true,Bool.not_eq_true'] at h
 refine ⟨λ i x hx hk=>?_,λ i x hx hk=>hU.V2 hx hk,λ i x hx hk=>?_,λ i x hx hk=>sS hk (hU.to i x hx),λ i k x y hx hk h1 h2 hy Qa he=>?_,λ i k x y hx hk h1 hy Qa=>?_⟩
 ·have h1:=hU.to i x hx
  unfold wO at h1
  rw [if_pos hk] at h1
  simpa using h1
 ·have h1:=hU.b hx
  unfold bM at h1
  rw [if_neg (by omega),if_neg (by omega),if_neg (by omega),if_pos hk] at h1
  simpa using h1
 ·have h3:=hU.to i x hx
  have hb:=sS hk h3
  unfold wO at h3
  rw [if_neg (by omega),if_pos hk] at h3
  unfold pW at h3
  simp only [Bool.and_eq_true,Bool.not_eq_true'] at h3
  have h4:=h3.2
  rw [List.any_eq_false] at h4
  refine h4 y ?_ (by unfold il; simp [Qa,he])
  refine List.mem_iff_getElem?.2 ⟨k - x.to.toNat,?_⟩
  rw [List.getElem?_drop,List.getElem?_take,if_pos (by omega),show x.to.toNat+(k - x.to.toNat)=k from by omega]
  exact hy
 have h3:=lj h.2 i (List.getElem?_eq_some_iff.1 hx).1
 rw [lh hx,decide_eq_true hk,Bool.true_and] at h3
 have h4:=lj h3 k h1
 rw [lK hy,decide_eq_true Qa,Bool.true_and] at h4
 simp at h4
 omega
theorem B0 {N:Nat} (hN:N<=4000000000000000000):∀ {n:Nat} {t:eB},wD t.code.l t.code.counts->(t.counts.length:Int)=t.code.counts->Dv t.code.l N t.at_ t.counts->wF t.code.l t.at_ t.counts<=n->∃ t',pM (n+1) t=some t'
 | n,t,hR,hl,hc,hn=>by
  cases hs:(cU t).2 with
  | false=>exact ⟨_,by unfold pM; rw [hs]; rfl⟩
  | true=>
   obtain ⟨x,hx,hT⟩:=FH hs
   have hx2:t.code.l[t.at_.toNat]? = some x:=by
    unfold fB at hx
    split at hx
    ·cases hx
    ·exact hx
   obtain ⟨h1,h2,h3⟩:=Ki hN hR hl hc hx2 hT
   have hcd:=(oR t).1
   cases n with
   | zero=>exfalso; omega
   | succ n=>
    obtain ⟨t',h4⟩:=B0 hN (n:=n) (t:=(cU t).1) (by rw [hcd]; exact hR) (by rw [hcd]; exact h2) (by rw [hcd]; exact h1) (by rw [hcd]; omega)
    exact ⟨t',by unfold pM; rw [hs,if_pos rfl]; exact h4⟩
theorem ti (n k:Nat):(List.replicate n (0:Int)).getD k 0=0:=by
 rw [List.getD_eq_getElem?_getD,List.getElem?_replicate]
 split <;> rfl
theorem Dw {c:dK} {cells lines locks:Int} (h:gm c cells lines locks=true) (h8:c.l.length<=8):∃ N t,pM N (nZ c)=some t:=by
 have hR:=Gi h
 have hU:=rX h
 have hN:wF c.l 0 (List.replicate c.counts.toNat 0)<=4000000000000000000:=by
  unfold wF
  have h9:∀ i,i<c.l.length->BY c.l 0 (List.replicate c.counts.toNat 0) i<=9:=λ i _=>by
   unfold BY
   split
   ·rw [ti]; split
    ·split
     ·omega
     ·split <;> simp
    ·omega
   ·omega
  have h1:=wE h9
  have h2:10 ^ c.l.length<=10 ^ 8:=Nat.pow_le_pow_right (by omega) h8
  have h3:=Nat.mul_le_mul (show num (BY c.l 0 (List.replicate c.counts.toNat 0)) c.l.length<=10 ^ 8 by omega) (show c.l.length+1<=9 by omega)
  have h4:(10:Nat) ^ 8 * 9=900000000:=by decide
  omega
 obtain ⟨t,ht⟩:=B0 (t:=nZ c) hN hR (by show ((List.replicate c.counts.toNat (0:Int)).length:Int)=c.counts; rw [List.length_replicate]; have:=hU.cb; omega)
  ⟨⟨Int.le_refl _,by show (0:Int)<=c.l.length; omega⟩,λ k=>by show (List.replicate c.counts.toNat (0:Int)).getD k 0<=8; rw [ti]; omega,λ k=>by show ((wF c.l 0 (List.replicate c.counts.toNat 0):Nat):Int)<=(List.replicate c.counts.toNat (0:Int)).getD k 0+_; rw [ti]; omega⟩ (Nat.le_refl _)
 exact ⟨_,t,ht⟩
theorem B1 {u:eh} (h:dU u=true) (h8:∀ c∈u.threads,c.l.length<=8):∃ N kh,qz N u.threads kh:=by
 have hth:∀ c∈u.threads,gm c u.lines.length (fP u) u.locks=true:=by
  unfold dU at h
  simp only [Bool.and_eq_true,Bool.not_eq_true'] at h
  intro c hc
  have h1:=h.2.1.1.2
  rw [List.any_eq_false] at h1
  have:=h1 c hc
  simpa using this
 have key:∀ cs:List dK,(∀ c∈cs,c∈u.threads)->∃ N kh,qz N cs kh:=by
  intro cs
  induction cs with
  | nil=>intro _; exact ⟨0,[],rfl,λ j c t h=>by simp at h⟩
  | cons c cs ih=>
   intro G3
   obtain ⟨N,kh,h1⟩:=ih λ c hc=>G3 c (List.mem_cons_of_mem _ hc)
   have Ub:=G3 c (List.mem_cons_self ..)
   obtain ⟨M,t',ht'⟩:=Dw (hth c Ub) (h8 c Ub)
   refine ⟨N+M,t'::kh,by rw [List.length_cons,List.length_cons,h1.1],λ j c2 t2 Gm Ru=>?_⟩
   cases j with
   | zero=>
    rw [List.getElem?_cons_zero] at Gm Ru
    cases Gm; cases Ru
    rw [Nat.add_comm]; exact v9 ht'
   | succ j=>
    rw [List.getElem?_cons_succ] at Gm Ru
    exact v9 (h1.2 j c2 t2 Gm Ru)
 exact key _ λ c hc=>hc
theorem B2 {ns:List Int} {many:Int} (Gq:qF ns):∀ {xs:List gC} {S:List Int},qF S->(∀ x∈xs,e9 many x=false)->eD (sR ns xs S).1
 | [],S,hS,_=>AR hS
 | x::r,S,hS,h=>by
  unfold sR
  split
  ·exact B2 Gq (AS Gq hS (h x (List.mem_cons_self ..))) λ y hy=>h y (List.mem_cons_of_mem _ hy)
  ·exact kY
theorem Nt {xs:List gC} {ns:List Int} (Gq:qF ns):eD (runM xs ns).1:=by
 unfold runM
 split
 ·rename_i h
  exact B2 Gq (λ v hv=>by cases hv) (mq h).2.2
 exact kY
theorem Nu {xs:List gC} {ns:List Int} (Gq:qF ns):eD (bL xs ns).1:=by
 unfold bL
 split
 ·exact kY
 exact Nt Gq
theorem qF.set {S:List Int} (h:qF S) {i:Nat} {v:Int} (hv:eD v):qF (S.set i v):=λ e he=>by
 rcases List.mem_or_eq_of_mem_set he with h1 | rfl
 ·exact h e h1
 ·exact hv
theorem Nv {t:eB} {x:aV} {e:Int} (h:qF t.aG) (he:eD e):qF (pn t x e).1.aG:=by
 unfold pn
 repeat' split
 all_goals first | exact h | exact h.set he
theorem jh {t:eB} (h:qF t.aG):qF (cU t).1.aG:=by
 unfold cU
 split
 ·exact h
 split
 ·split
  ·exact Nv (t:=tF (tE t _) _) h (Nu h)
  exact h
 exact h
theorem su {α:Type} [Flat α] {P:Program} {S:Nat->Prop} {Wd:World->Prop} {w0:World} {xs:List α} {T E by':Nat} {z:Option Nat} {v:Value} {i:Int} {x:α} {K:Value->Prop} (ht:dJ P T=some (E,Flat.sz α,by',z)) (h:∀ w,Wd w->ee S w v xs) (hw:Wd w0) (h0:0<=i) (hx:xs[i.toNat]? = some x)
  (k:∀ p,(∀ w,Wd w->At S w p x)->K p):dW P (Instr.indexAt T v (.int .i64 i)) K:=by
 obtain ⟨a,cap,rfl,wV,h3⟩:=h w0 hw
 have fS:i.toNat<xs.length:=(List.getElem?_eq_some_iff.1 hx).1
 rcases h3 with ⟨rfl,_⟩ | ⟨b,o,rfl,h4,_⟩
 ·simp at hx
 obtain ⟨hu,inf,hi,iU,_⟩:=dS ht
 refine ⟨.pointer (some ⟨b,o+i.toNat * Flat.sz α,none⟩),?_,k _ λ w' hw'=>⟨b,_,rfl,h4 (by intro h; subst h; simp at hx),λ j c hj=>?_⟩⟩
 ·unfold Instr.indexAt
  rw [aU]
  show pr P _=_
  simp only [asIntOf]
  have e1:pr P (underlying T)=some (.slice E):=aS hu
  have e2:pr P (sizeOf E)=some (Flat.sz α):=by rw [fC hi,iU]
  simp only [aU,e1,e2,Option.bind_some,dF]
  have VO:0<=i/\i<(xs.length:Int):=⟨h0,by omega⟩
  simp only [if_pos VO,aU,e2,Option.bind_some,dF,dG]
 obtain ⟨a',Ah,he,_,h6⟩:=h w' hw'
 cases he
 rcases h6 with ⟨rfl,_⟩ | ⟨b',o',he,_,h5⟩
 ·simp at hx
 cases he
 have:=h5 (i.toNat * Flat.sz α+j) c (mH hx hj)
 rwa [show o+(i.toNat * Flat.sz α+j)=o+i.toNat * Flat.sz α+j from by omega] at this
abbrev oY (bp:Nat) (gl rg cn:Value) (t:eB):List Value:=[.int .i64 t.code.aG,.int .i64 t.code.counts,gl,.int .i64 t.at_,rg,cn,.pointer (some ⟨bp,0,none⟩),.int .i64 t.fault]
def eX (K:World->Prop) (p:Nat) (room:Int) (t:eB):HP:=ui λ bp:Nat=>ui λ gl=>ui λ rg=>ui λ cn=>fact (me K gl t.code.l)
 (sep (cZ p (oY bp gl rg cn t)) (sep (nr bp room t.buf) (sep (bR rg t.aG) (bR cn t.counts))))
section
variable {w w0:World} {A:Nat->Prop} {R:List HP} {p:Nat} {K:World->Prop} {room:Int} {t:eB}
theorem eX.open (hs:St w0 A (eX K p room t::R) w):∃ bp gl rg cn,me K gl t.code.l/\St w0 A (cZ p (oY bp gl rg cn t)::nr bp room t.buf::bR rg t.aG::bR cn t.counts::R) w:=by
 obtain ⟨bp,hs⟩:=hs.gK; obtain ⟨gl,hs⟩:=hs.gK; obtain ⟨rg,hs⟩:=hs.gK; obtain ⟨cn,hs⟩:=hs.gK; obtain ⟨hk,hs⟩:=hs.AA
 have h1:=hs.split
 have h2:=h1.p1.split
 have h3:=h2.p1.split
 exact ⟨bp,gl,rg,cn,hk,h3.p2.p3⟩
theorem eX.shut {bp:Nat} {gl rg cn:Value} (hk:me K gl t.code.l) (hs:St w0 A (cZ p (oY bp gl rg cn t)::nr bp room t.buf::bR rg t.aG::bR cn t.counts::R) w):St w0 A (eX K p room t::R) w:=by
 have h1:=St.join (hs.p3.p3)
 have h2:=St.join h1.p2
 exact St.fO bp (St.fO gl (St.fO rg (St.fO cn (St.xC hk (St.join h2.p1)))))
theorem eX.rd (h:Has (eX K p room t) w):∃ bp gl rg cn,me K gl t.code.l/\ow w p (oY bp gl rg cn t)/\rR w bp room t.buf/\ee (λ _=>True) w rg t.aG/\ee (λ _=>True) w cn t.counts:=by
 obtain ⟨F,hs⟩:=h.st
 obtain ⟨bp,gl,rg,cn,hk,hs⟩:=eX.open hs
 exact ⟨bp,gl,rg,cn,hk,hs.hb,ED hs.p1,hs.p2.jo,hs.p3.jo⟩
end
section
variable {t:eB} {x:aV}
theorem Tz (he:(bL x.e t.aG).2=true) (hf:(bL x.f t.aG).2=true):tF (tE t x) x={t with e:=(bL x.e t.aG).1,f:=(bL x.f t.aG).1}:=by
 unfold tF
 rw [show (bL x.f (tE t x).aG)=bL x.f t.aG from rfl,if_pos hf]
 unfold tE
 rw [if_pos he]
theorem gM (h:fB t=some x) (he:(bL x.e t.aG).2=true) (hf:(bL x.f t.aG).2=true):cU t=pn {t with e:=(bL x.e t.aG).1,f:=(bL x.f t.aG).1} x (bL x.e t.aG).1:=by
 rw [gA h he hf,Tz he hf]
theorem B3 (h:fB t=some x) (hb:(bL x.e t.aG).2=false\/(bL x.f t.aG).2=false):∃ e f,cU t=({t with fault:=2,e:=e,f:=f},false):=by
 cases he:(bL x.e t.aG).2 with
 | false=>exact ⟨_,_,by rw [rU h he]; unfold tE; rw [he]; rfl⟩
 | true=>
  rw [he] at hb
  have hf:=hb.resolve_left (by simp)
  refine ⟨(bL x.e t.aG).1,(bL x.f t.aG).1,?_⟩
  rw [rV h he hf]
  unfold tF
  rw [show (bL x.f (tE t x).aG)=bL x.f t.aG from rfl,hf]; rfl
theorem wG {t:eB} {x:aV} (h0:t.at_<t.code.l.length) (h:t.code.l[t.at_.toNat]? = some x):fB t=some x:=by unfold fB; rw [if_neg (by omega)]; exact h
theorem wH {t:eB} (h0:(t.code.l.length:Int)<=t.at_):fB t=none:=by unfold fB; rw [if_pos h0]
end
theorem C151 (p:Nat) (cs:List Value) (rg:Value) (ns:List Int) (sv:Value) (xs:List gC) (w:World) (hb:ow w p cs) (CY:cs[4]? = some rg) (hR:ee (λ _=>True) w rg ns) (hL:ee (λ _=>True) w sv xs) (hn:xs.length<=1000) (Gq:qF ns):CR 151 [(.pointer (some ⟨p,0,none⟩)),sv] w (λ v w'=>v = .tuple #[.int .i64 (bL xs ns).1,.bool (bL xs ns).2]/\Ext w w'):=by
 have c4:=hb.cell (o:=4) CY;have hs:=St.start w;refine Lw _ _ _ _ ?_;unfold S151;refine aI e8 (hL.ext hs.aD) (aF (aC (λ fM=>?_) (λ fM=>?_)))
 ·have hv:bL xs ns=(0,true):=by unfold bL; rw [if_pos (by omega)]
  rw [hv];exact ⟨rfl,hs.aD⟩
 refine aE (aA ve (aK cT (c4.ext hs.aD) (bF N6 hs (C142 _ _ xs _ _ (hL.ext hs.aD) (hR.ext hs.aD) (by omega) Gq) (λ _ he hs=>bI rfl (bI rfl (aF ?_))))));have hv:bL xs ns=((runM xs ns).1,decide ((runM xs ns).2=0)):=by unfold bL; rw [if_neg (by omega)]
 rw [hv];exact ⟨rfl,hs.aD⟩
set_option maxRecDepth 100000 in
theorem C141 (K:World->Prop) (p:Nat) (room:Int) (t:eB) (tR:eB) (n:Nat) (F:Nat->Prop) (w:World) (hF:(eX K p room t).p w F) (hK:∀ w',kj F w w'->K w') (hZ:zT t) (NT:qF t.aG) (hg:pM n t=some tR):CR 141 [(.pointer (some ⟨p,0,none⟩))] w (λ v w'=>v = .tuple #[]/\D8 F (eX K p room tR) w w'):=by
 have hs:=St.begin hF;refine Lt _ _ _ ?_;unfold S141;refine ⟨λ mm w'=>∃ t1:eB,pM mm t1=some tR/\zT t1/\qF t1.aG/\St w F [eX K p room t1] w',⟨n,t,hg,hZ,NT,hs⟩,?_⟩;rintro mm _ ⟨t1,sD,jc,Nw,hs⟩ _;obtain ⟨k,rfl⟩:=Bb sD;obtain ⟨bp,gl,rg,cn,pZ,hs⟩:=eX.open hs;obtain ⟨ts,wP⟩:=pZ;have pZ:me K gl t1.code.l:=⟨ts,wP⟩;have T8:=(wP _ (hK _ hs.aD)).2.1;have adg:=jc.Pc;refine aE (aA fH (have hs:=hs.drew;aB bK hs.hb rfl (aE (aA oC (aA dZ (aB fG hs.hb rfl (aI gp (wP _ (hK _ hs.aD)).1 (aN (aC (λ mP=>?_) (λ mP=>?_))))))))))
 ·refine aE (aA oC (aA dZ (have hs:=hs.drew;aB fG hs.hb rfl (aE (aA fH (aB bK hs.hb rfl ?_))))));obtain ⟨gS,iE⟩:=gx ts (i:=(t1.at_).toNat) (by omega);obtain ⟨x,s9⟩:=gx (t1.code.l) (i:=(t1.at_).toNat) (by omega);have kz:=wG (t:=t1) (by omega) s9;have Jb:=lu kz;obtain ⟨hxe,hxf,ac9,ada⟩:=jc.code.ops x Jb.1;have Jc:=jc.code.set x Jb.1;have Bc:=jc.code.fq x Jb.1;have adb:=jc.rg;have ade:=jc.cn;have adf:=jc.code.len;obtain ⟨ge,gf,rfl,_,_⟩:=(wP _ (hK _ hs.aD)).2.2 _ _ _ iE s9
  have hxE:∀ w,K w->ee (λ _=>True) w (Flat.val ge) x.e:=λ w hw=>by
   obtain ⟨ge',gf',hh,h1,_⟩:=(wP w hw).2.2 _ _ _ iE s9;cases hh; exact DL.flat h1
  have hxF:∀ w,K w->ee (λ _=>True) w (Flat.val gf) x.f:=λ w hw=>by
   obtain ⟨ge',gf',hh,_,h2⟩:=(wP w hw).2.2 _ _ _ iE s9;cases hh; exact DL.flat h2
  refine su (Wd:=K) gp (λ w' hw'=>(wP w' hw').1) (hK _ hs.aD) (by omega) iE (λ _ Ek=>aO eg (Ek _ (hK _ hs.aD)) (bT hs fK (λ jY _ hs=>?_)));have hs:=hs.enc (cs':=Flat.enc (⟨0,0,0,⟨none,0,0⟩,⟨none,0,0⟩,0⟩:aX)) rfl;refine ⟨aH fG (hs.p1.hb.cell rfl),?_⟩;refine ⟨aH bK (hs.p1.hb.cell rfl),?_⟩;refine ⟨eE eg (Ek _ (hK _ hs.aD)),?_⟩;refine cO (x:=(⟨x.kind,x.a,x.b,ge,gf,x.to⟩:aX)) hs eg rfl rfl (λ _ hs=>aA gy (aB (v:=Flat.val (ge:SV)) gh hs.hb rfl (bF N7 hs (C151 p _ _ t1.aG _ x.e _ hs.p1.hb rfl hs.p3.jo (hxE _ (hK _ hs.aD)) hxe Nw) (λ _ he hs=>bI rfl (bI rfl (aA ep (aB (v:=Flat.val (gf:SV)) gh hs.hb rfl (bF N7 hs (C151 p _ _ t1.aG _ x.f _ hs.p1.hb rfl hs.p3.jo (hxF _ (hK _ hs.aD)) hxf Nw) (λ _ he hs=>bI rfl (bI rfl ?_))))))))))
  refine ⟨_,?_,λ _ _ h=>h⟩;refine bO (bD (λ fh=>?_) (λ fh=>?_))
  ·intro kD;refine eZ (aE (aA rn (bH hs.p1 bK (ft rfl) (rfl) (λ w7 hs=>?_))));obtain ⟨e2,f2,hst⟩:=B3 kz (by left; simpa using fh);have hs:=eX.shut (t:=(⟨t1.code,t1.at_,t1.aG,t1.counts,2,e2,f2,t1.buf⟩:eB)) pZ hs.p4.p4.p4.p3;have hs:=(hs.p1).drop;rw [kf sD hst];exact ⟨rfl,hs.mut⟩
  refine bO ?_;intro kD;refine bD (λ lG=>?_) (λ lG=>?_)
  ·refine aE (aA rn (bH hs.p1 bK (ft rfl) (rfl) (λ w7 hs=>?_)));obtain ⟨e2,f2,hst⟩:=B3 kz (by right; simpa using lG);have hs:=eX.shut (t:=(⟨t1.code,t1.at_,t1.aG,t1.counts,2,e2,f2,t1.buf⟩:eB)) pZ hs.p4.p4.p4.p3;have hs:=(hs.p1).drop;rw [kf sD hst];exact ⟨rfl,hs.mut⟩
  refine aE (aA fH (aB bK hs.p1.hb rfl (aW (by omega) ?_)));refine ⟨_,?_,λ _ _ h=>h⟩;refine aA cR (aB (v:=.int .i64 x.kind) bK hs.hb rfl (aF (aC (λ rJ=>?_) (λ rJ=>⟨λ jv w'=>jv = .bool (decide (x.kind=11\/(x.kind=12/\(bL x.e t1.aG).1=0)))/\St w F [cZ jY (Flat.enc (⟨x.kind,x.a,x.b,ge,gf,x.to⟩:aX)),cZ p (oY bp gl rg cn t1),nr bp room t1.buf,bR rg t1.aG,bR cn t1.counts] w',aA cR (aB (v:=.int .i64 x.kind) bK hs.hb rfl (aF (aC (λ nO=>have hs:=hs.p4.p4.p4.p4.p4;⟨Gn (.inl nO),hs⟩) (λ _=>aA cR (aB (v:=.int .i64 x.kind) bK hs.hb rfl (aF (aC (λ _=>aF (have hs:=hs.p4.p4.p4.p4.p4;⟨Ab (by omega),hs⟩)) (λ _=>have hs:=hs.p4.p4.p4.p4.p4;⟨jvF (by omega),hs⟩)))))))),?_⟩))))
  ·have FE:=Jc rJ;refine aE (aA ve (have hs:=hs.drew;aB cT hs.p1.hb rfl (aA eo (aB (v:=.int .i64 x.a) bK hs.hb rfl ?_))));obtain ⟨e_x68,aed⟩:=gx (t1.aG) (i:=(x.a).toNat) (by omega);refine eu hs.p3 cB (by omega) (by omega) (λ _ Zy=>kQ _ hs.p3 bK Zy (by omega) (λ _ hs=>?_));intro Qb;refine aE (aA fH (bH hs.p2 bK (ft rfl) (rfl) (λ Qc hs=>?_)));have hs:=eX.shut (t:=(⟨t1.code,(t1.at_+1),((t1.aG).set (x.a).toNat (bL x.e t1.aG).1),t1.counts,t1.fault,(bL x.e t1.aG).1,(bL x.f t1.aG).1,t1.buf⟩:eB)) pZ hs.p4.p2.p4.p3;have hs:=(hs.p1).drop
   have hst:cU t1=((⟨t1.code,(t1.at_+1),((t1.aG).set (x.a).toNat (bL x.e t1.aG).1),t1.counts,t1.fault,(bL x.e t1.aG).1,(bL x.f t1.aG).1,t1.buf⟩:eB),true):=by
    rw [gM kz (by simpa using fh) (by simpa using lG)];rw [I9 rJ]
   exact ⟨k,by omega,_,ja sD hst,by have:=eG jc; rw [hst] at this; exact this,by have:=jh Nw; rw [hst] at this; exact this,hs⟩
  rintro _ _ ⟨rfl,hs⟩ _;refine bD (λ Kj=>?_) (λ Kj=>?_)
  ·refine aA dQ (aB (v:=.int .i64 x.to) bK hs.hb rfl ?_);intro Qb;refine aE (aA fH (bH hs.p1 bK (ft rfl) (rfl) (λ Qc hs=>?_)));have hs:=eX.shut (t:=(⟨t1.code,x.to,t1.aG,t1.counts,t1.fault,(bL x.e t1.aG).1,(bL x.f t1.aG).1,t1.buf⟩:eB)) pZ hs.p4.p4.p4.p3;have hs:=(hs.p1).drop
   have hst:cU t1=((⟨t1.code,x.to,t1.aG,t1.counts,t1.fault,(bL x.e t1.aG).1,(bL x.f t1.aG).1,t1.buf⟩:eB),true):=by
    rw [gM kz (by simpa using fh) (by simpa using lG)]
    rcases of_decide_eq_true Kj with h | ⟨h,h2⟩
    ·rw [CV h]
    ·rw [y9 h h2]
   exact ⟨k,by omega,_,ja sD hst,by have:=eG jc; rw [hst] at this; exact this,by have:=jh Nw; rw [hst] at this; exact this,hs⟩
  have hnj:¬ (x.kind=11\/(x.kind=12/\(bL x.e t1.aG).1=0)):=of_decide_eq_false Kj;refine aA cR (aB (v:=.int .i64 x.kind) bK hs.hb rfl (aF (aC (λ vK=>?_) (λ vK=>aA cR (aB (v:=.int .i64 x.kind) bK hs.hb rfl (aF (aC (λ B4=>?_) (λ B4=>⟨_,aA cR (aB (v:=.int .i64 x.kind) bK hs.hb rfl (aF (aC (λ Kk=>?_) (λ Kk=>?_)))),λ _ _ h=>h⟩))))))))
  ·have FE:=Bc (.inl vK);refine aE (aA rj (have hs:=hs.drew;aB cT hs.p1.hb rfl (aA eo (aB (v:=.int .i64 x.a) bK hs.hb rfl (aA fo (aB (v:=.int .i64 x.b) bK hs.hb rfl ?_))))));obtain ⟨e_x94,aee⟩:=gx (t1.counts) (i:=(x.a).toNat) (by omega);refine eu hs.p4 cB (by omega) (by omega) (λ _ Zz=>kQ _ hs.p4 bK Zz (by omega) (λ _ hs=>?_));intro Qb;refine aE (aA fH (bH hs.p2 bK (ft rfl) (rfl) (λ Qc hs=>?_)));have hs:=eX.shut (t:=(⟨t1.code,(t1.at_+1),t1.aG,((t1.counts).set (x.a).toNat x.b),t1.fault,(bL x.e t1.aG).1,(bL x.f t1.aG).1,t1.buf⟩:eB)) pZ hs.p1.p4.p4.p3
   have hs:=(hs.p1).drop
   have hst:cU t1=((⟨t1.code,(t1.at_+1),t1.aG,((t1.counts).set (x.a).toNat x.b),t1.fault,(bL x.e t1.aG).1,(bL x.f t1.aG).1,t1.buf⟩:eB),true):=by
    rw [gM kz (by simpa using fh) (by simpa using lG)];rw [CW vK]
   exact ⟨k,by omega,_,ja sD hst,by have:=eG jc; rw [hst] at this; exact this,by have:=jh Nw; rw [hst] at this; exact this,hs⟩
  ·have FE:=Bc (.inr B4);refine aE (aA rj (have hs:=hs.drew;aB cT hs.p1.hb rfl (aA eo (aB (v:=.int .i64 x.a) bK hs.hb rfl (aE (aA rj (aB cT hs.p1.hb rfl (aA eo (aB (v:=.int .i64 x.a) bK hs.hb rfl ?_)))))))));obtain ⟨oZ,E2⟩:=gx (t1.counts) (i:=(x.a).toNat) (by omega);refine eu hs.p4 cB (by omega) (by omega) (λ _ TA=>iq hs.p4 bK TA E2 ?_);have sC:t1.counts.getD x.a.toNat 0=oZ:=by rw [List.getD_eq_getElem?_getD,E2]; rfl
   refine mM (eu hs.p4 cB (by omega) (by omega) (λ _ TB=>kQ _ hs.p4 bK TB (by omega) (λ _ hs=>aE (aA rj (have hs:=hs.drew;aB cT hs.p2.hb rfl ?_)))));have Ia:(t1.counts.set x.a.toNat (kW (oZ - 1))).length=t1.counts.length:=List.length_set;refine aA eo (aB (v:=.int .i64 x.a) bK hs.p1.hb rfl ?_);obtain ⟨TC,zH⟩:=gx (((t1.counts).set (x.a).toNat (kW (oZ - 1)))) (i:=(x.a).toNat) (by omega);refine eu hs cB (by omega) (by omega) (λ _ TD=>iq hs bK TD zH ?_);have h121:TC=kW (oZ - 1):=by rw [List.getElem?_set_self (by omega)] at zH; exact (Option.some.inj zH).symm
   refine cC (aC (λ CO=>?_) (λ CO=>?_))
   ·refine aA dQ (aB (v:=.int .i64 x.to) bK hs.p1.hb rfl ?_);intro Qb;refine aE (aA fH (bH hs.p2 bK (ft rfl) (rfl) (λ Qc hs=>?_)));have hs:=eX.shut (t:=(⟨t1.code,x.to,t1.aG,((t1.counts).set (x.a).toNat (kW (oZ - 1))),t1.fault,(bL x.e t1.aG).1,(bL x.f t1.aG).1,t1.buf⟩:eB)) pZ hs.p1.p4.p4.p3;have hs:=(hs.p1).drop
    have hst:cU t1=((⟨t1.code,x.to,t1.aG,((t1.counts).set (x.a).toNat (kW (oZ - 1))),t1.fault,(bL x.e t1.aG).1,(bL x.f t1.aG).1,t1.buf⟩:eB),true):=by
     rw [gM kz (by simpa using fh) (by simpa using lG)];rw [zb B4 (by show 0<kW (t1.counts.getD x.a.toNat 0 - 1); rw [sC]; omega)];show (_,true)=_;rw [sC]
    exact ⟨k,by omega,_,ja sD hst,by have:=eG jc; rw [hst] at this; exact this,by have:=jh Nw; rw [hst] at this; exact this,hs⟩
   intro Qb;refine aE (aA fH (bH hs.p2 bK (ft rfl) (rfl) (λ Qc hs=>?_)));have hs:=eX.shut (t:=(⟨t1.code,(t1.at_+1),t1.aG,((t1.counts).set (x.a).toNat (kW (oZ - 1))),t1.fault,(bL x.e t1.aG).1,(bL x.f t1.aG).1,t1.buf⟩:eB)) pZ hs.p1.p4.p4.p3;have hs:=(hs.p1).drop
   have hst:cU t1=((⟨t1.code,(t1.at_+1),t1.aG,((t1.counts).set (x.a).toNat (kW (oZ - 1))),t1.fault,(bL x.e t1.aG).1,(bL x.f t1.aG).1,t1.buf⟩:eB),true):=by
    rw [gM kz (by simpa using fh) (by simpa using lG)];rw [zd B4 (by show ¬ 0<kW (t1.counts.getD x.a.toNat 0 - 1); rw [sC]; omega)];show (_,true)=_;rw [sC]
   exact ⟨k,by omega,_,ja sD hst,by have:=eG jc; rw [hst] at this; exact this,by have:=jh Nw; rw [hst] at this; exact this,hs⟩
  ·refine aF ?_;intro Rc;refine aC (λ Kl=>?_) (λ Kl=>⟨_,aA cR (aB (v:=.int .i64 x.kind) bK hs.hb rfl (bJ (aC (λ vM=>?_) (λ vM=>?_)))),λ _ _ h=>h⟩)
   ·refine aE (aA rn (bH hs.p1 bK (ft rfl) (rfl) (λ _ hs=>?_)));have hs:=eX.shut (t:=(⟨t1.code,t1.at_,t1.aG,t1.counts,1,(bL x.e t1.aG).1,(bL x.f t1.aG).1,t1.buf⟩:eB)) pZ hs.p4.p4.p4.p3;have hs:=(hs.p1).drop
    have hst:cU t1=((⟨t1.code,t1.at_,t1.aG,t1.counts,1,(bL x.e t1.aG).1,(bL x.f t1.aG).1,t1.buf⟩:eB),false):=by
     rw [gM kz (by simpa using fh) (by simpa using lG)];rw [ze Kk Kl]
    rw [kf sD hst];exact ⟨rfl,hs.mut⟩
   ·refine aA cR (aB (v:=.int .i64 x.kind) bK hs.hb rfl (bJ ?_));intro Gp;refine aC (λ Dx=>?_) (λ Dx=>?_)
    ·exfalso; omega
    intro Qb;refine aE (aA fH (bH hs.p1 bK (ft rfl) (rfl) (λ Qc hs=>?_)));have hs:=eX.shut (t:=(⟨t1.code,(t1.at_+1),t1.aG,t1.counts,t1.fault,(bL x.e t1.aG).1,(bL x.f t1.aG).1,t1.buf⟩:eB)) pZ hs.p4.p4.p4.p3;have hs:=(hs.p1).drop
    have hst:cU t1=((⟨t1.code,(t1.at_+1),t1.aG,t1.counts,t1.fault,(bL x.e t1.aG).1,(bL x.f t1.aG).1,t1.buf⟩:eB),true):=by
     rw [gM kz (by simpa using fh) (by simpa using lG)];rw [zf (by omega) (by omega)]
    exact ⟨k,by omega,_,ja sD hst,by have:=eG jc; rw [hst] at this; exact this,by have:=jh Nw; rw [hst] at this; exact this,hs⟩
   intro Gp;refine dN ?_;intro Qb;refine aE (aA fH (bH hs.p1 bK (ft rfl) (rfl) (λ Qc hs=>?_)))
   exfalso; omega
  intro Rc;refine dN ?_;refine ⟨_,?_,λ _ _ h=>h⟩;refine aA cR (aB (v:=.int .i64 x.kind) bK hs.hb rfl (bJ (aC (λ vM=>?_) (λ vM=>?_))))
  ·refine aA cR (aB (v:=.int .i64 x.kind) bK hs.hb rfl (bJ ?_));intro Gp;refine aC (λ Dx=>?_) (λ Dx=>?_)
   ·have hs:=eX.shut (t:=(⟨t1.code,t1.at_,t1.aG,t1.counts,t1.fault,(bL x.e t1.aG).1,(bL x.f t1.aG).1,t1.buf⟩:eB)) pZ hs.p4.p4.p4.p4;have hs:=(hs.p1).drop
    have hst:cU t1=((⟨t1.code,t1.at_,t1.aG,t1.counts,t1.fault,(bL x.e t1.aG).1,(bL x.f t1.aG).1,t1.buf⟩:eB),false):=by
     rw [gM kz (by simpa using fh) (by simpa using lG)];rw [CX rJ (λ h=>hnj (.inl h)) (by omega) vK B4 (by omega)]
    rw [kf sD hst];exact ⟨rfl,hs.mut⟩
   intro Qb;refine aE (aA fH (bH hs.p1 bK (ft rfl) (rfl) (λ Qc hs=>?_)))
   exfalso; omega
  intro Gp;refine dN ?_;intro Qb;refine aE (aA fH (bH hs.p1 bK (ft rfl) (rfl) (λ Qc hs=>?_)));have hs:=eX.shut (t:=(⟨t1.code,(t1.at_+1),t1.aG,t1.counts,t1.fault,(bL x.e t1.aG).1,(bL x.f t1.aG).1,t1.buf⟩:eB)) pZ hs.p4.p4.p4.p3;have hs:=(hs.p1).drop
  have hst:cU t1=((⟨t1.code,(t1.at_+1),t1.aG,t1.counts,t1.fault,(bL x.e t1.aG).1,(bL x.f t1.aG).1,t1.buf⟩:eB),true):=by
   rw [gM kz (by simpa using fh) (by simpa using lG)];rw [za (by omega) (λ h=>hnj (.inr ⟨by omega,h⟩))]
  exact ⟨k,by omega,_,ja sD hst,by have:=eG jc; rw [hst] at this; exact this,by have:=jh Nw; rw [hst] at this; exact this,hs⟩
 have hs:=eX.shut (t:=t1) pZ hs.p3.p3.p3.p3;rw [kf sD (rT (wH (by omega)))];exact ⟨rfl,hs.mut⟩
def B5 (ws:List yL) (m:Mem):Prop:=(∀ n,m.yZ n=(ws.filter λ x=>decide (x.line=n)).map λ x=>⟨x.cell,x.n⟩)/\∀ x∈ws,0<=x.cell/\m.of[x.cell.toNat]? = some x.line
def mi (p:Nat) (m:Mem):HP:=ui λ q:Value × Value × Value × Value × Value=>ui λ ws:List yL=>fact (B5 ws m) (sep (cZ p [q.1,q.2.1,q.2.2.1,q.2.2.2.1,q.2.2.2.2]) (sep (bR q.1 m.of) (sep (bR q.2.1 m.bP) (sep (bR q.2.2.1 m.l) (sep (bR q.2.2.2.1 m.kept) (bR q.2.2.2.2 ws))))))
structure Qd (w:World) (p:Nat) (m:Mem):Prop where
 ex:∃ ov fv lv kv wv ws,B5 ws m/\ow w p [ov,fv,lv,kv,wv]/\ee (λ _=>True) w ov m.of/\ee (λ _=>True) w fv m.bP/\ee (λ _=>True) w lv m.l/\ee (λ _=>True) w kv m.kept/\ee (λ _=>True) w wv ws
section
variable {w w0:World} {A:Nat->Prop} {R:List HP} {p:Nat} {m:Mem} {ov fv lv kv wv:Value} {ws:List yL}
theorem mi.shut (h:B5 ws m) (hs:St w0 A (cZ p [ov,fv,lv,kv,wv]::bR ov m.of::bR fv m.bP::bR lv m.l::bR kv m.kept::bR wv ws::R) w):St w0 A (mi p m::R) w:=by
 have h5:=St.join hs.p5.p5
 have h4:=St.join h5.p4
 have h3:=St.join h4.p3
 have h2:=St.join h3.p2
 have h1:=St.join h2.p1
 exact St.fO (ov,fv,lv,kv,wv) (St.fO ws (St.xC h h1))
theorem mi.open (hs:St w0 A (mi p m::R) w):∃ ov fv lv kv wv ws,B5 ws m/\St w0 A (cZ p [ov,fv,lv,kv,wv]::bR ov m.of::bR fv m.bP::bR lv m.l::bR kv m.kept::bR wv ws::R) w:=by
 obtain ⟨⟨ov,fv,lv,kv,wv⟩,hs⟩:=hs.gK; obtain ⟨ws,hs⟩:=hs.gK; obtain ⟨hk,hs⟩:=hs.AA
 have h1:=hs.split
 have h2:=h1.p1.split
 have h3:=h2.p1.split
 have h4:=h3.p1.split
 have h5:=h4.p1.split
 exact ⟨ov,fv,lv,kv,wv,ws,hk,h5.p2.p3.p4.p5⟩
end
@[reducible] def o0 (a:MA) (m:j0):List Value:=[Flat.val a.lnv,.int .i64 m.u.stays,Flat.val a.fsv,.int .i64 m.u.locks,Flat.val a.thv,.int .i64 m.u.recover.aG,.int .i64 m.u.recover.counts,Flat.val a.rcl,Flat.val a.clv,.int .i64 m.room,.int .i64 m.eP,.pointer (some ⟨a.q,0,none⟩),a.lk,a.ll,.int .i64 m.fault,.int .i64 m.gL]
structure RK (K:World->Prop) (a:MA) (m:j0):Prop where
 ln:∀ w,K w->ee (λ _=>True) w (Flat.val a.lnv) m.u.lines
 cl:∀ w,K w->DL w (Flat.val a.clv) m.u.bU
 rc:me K (Flat.val a.rcl) m.u.recover.l
abbrev tS (K:World->Prop) (room:Int) (s:Ptr) (t:eB):HP:=eX K s.b room t
def gI (K:World->Prop) (p:Nat) (m:j0):HP:=ui λ a:MA=>fact (RK K a m) (sep (cZ p (o0 a m)) (sep (mi a.q m.mem) (sep (bR a.lk m.locks) (sep (bR a.ll a.ps) (gk (tS K m.room) a.ps m.l)))))
structure TE (K:World->Prop) (w:World) (p:Nat) (m:j0) (a:MA):Prop where
 rk:RK K a m
 b:ow w p (o0 a m)
 mem:Qd w a.q m.mem
 lk:ee (λ _=>True) w a.lk m.locks
 ll:ee (λ _=>True) w a.ll a.ps
 th:∀ (i:Nat) (s:Ptr) (t:eB),a.ps[i]? = some s->m.l[i]? = some t->Has (eX K s.b m.room t) w
 len:a.ps.length=m.l.length
section
variable {w w0:World} {A:Nat->Prop} {R:List HP} {p:Nat} {K:World->Prop} {m:j0} {a:MA}
theorem gI.open (hs:St w0 A (gI K p m::R) w):∃ a,RK K a m/\St w0 A (cZ p (o0 a m)::mi a.q m.mem::bR a.lk m.locks::bR a.ll a.ps::gk (tS K m.room) a.ps m.l::R) w:=by
 obtain ⟨a,hs⟩:=hs.gK; obtain ⟨hu,hs⟩:=hs.AA; exact ⟨a,hu,xX hs⟩
theorem gI.shut (hu:RK K a m) (hs:St w0 A (cZ p (o0 a m)::mi a.q m.mem::bR a.lk m.locks::bR a.ll a.ps::gk (tS K m.room) a.ps m.l::R) w):St w0 A (gI K p m::R) w:=
 St.fO a (St.xC hu (xY hs))
theorem gI.rd (h:Has (gI K p m) w):∃ a,TE K w p m a:=by
 obtain ⟨F,hs⟩:=h.st
 obtain ⟨a,hu,hs⟩:=gI.open hs
 have h1:Qd w a.q m.mem:=by
  obtain ⟨ov,fv,lv,kv,wv,ws,hk,h⟩:=mi.open hs.p1
  exact ⟨ov,fv,lv,kv,wv,ws,hk,h.hb,h.p1.jo,h.p2.jo,h.p3.jo,h.p4.jo,h.p5.jo⟩
 exact ⟨a,hu,hs.hb,h1,hs.p2.jo,hs.p3.jo,λ i s t h1 h2=>hs.p4.Q7 h1 h2 (Φ:=λ w=>Has (eX K s.b m.room t) w) λ h=>⟨_,h⟩,hs.p4.mN⟩
end
theorem k9 {m:j0} {t:eB} {x:aV} (h:fB t=some x) (hk:t.fault=0->2<=x.kind/\x.kind<=10) :
  oO m t=if t.fault≠0\/x.kind=2 then true else if x.kind=3\/x.kind=5\/x.kind=6\/x.kind=7 then decide ((t.buf.length:Int)<m.room) else decide (t.buf.length=0) && (decide (x.kind≠9) || decide (m.locks.getD x.b.toNat 0 = -1)):=by
 unfold oO
 rw [h]
 dsimp only
 by_cases h0:t.fault=0
 ·rw [if_neg (by omega)]
  have:=hk h0
  by_cases h1:x.kind=3\/x.kind=5\/x.kind=6\/x.kind=7
  ·rw [if_pos h1,if_neg (by omega),if_pos h1,<- decide_not]
   exact decide_eq_decide.2 (by omega)
  rw [if_neg h1]
  by_cases h2:x.kind=4\/x.kind=8\/x.kind=10
  ·rw [if_pos h2,if_neg (by omega),if_neg h1,decide_eq_true (show x.kind≠9 by omega),Bool.true_or,Bool.and_true]
  rw [if_neg h2]
  by_cases h3:x.kind=9
  ·rw [if_pos h3,if_neg (by omega),if_neg h1,decide_eq_false (show ¬ x.kind≠9 by omega),Bool.false_or]
  rw [if_neg h3,if_pos (by omega)]
 rw [if_pos h0,if_pos (.inl h0)]
theorem Nx {m:j0} {t:eB} (h:fB t=none):oO m t=false:=by unfold oO; rw [h]
theorem C83 (K:World->Prop) (p:Nat) (m:j0) (q:Nat) (t:eB) (w:World) (hm:Has (gI K p m) w) (hw:K w) (lV:∀ w',Ext w w'->K w') (jR:lU m) (hh:Has (eX K q m.room t) w) (Bf:t∈m.l):CR 83 [(.pointer (some ⟨p,0,none⟩)),(.pointer (some ⟨q,0,none⟩))] w (λ v w'=>v = .bool (oO m t)/\Ext w w'):=by
 obtain ⟨a,hr⟩:=gI.rd hm;have EE:=hr.b.cell (o:=8) rfl;have s8:=hr.b.cell (o:=11) rfl;have EF:=hr.b.cell (o:=1) rfl;have Jg:=hr.b.cell (o:=3) rfl;have C2:=hr.b.cell (o:=9) rfl;have qx:=hr.b.cell (o:=10) rfl;have nX:=hr.b.cell (o:=12) rfl;have mW:=hr.b.cell (o:=13) rfl;have l6:=hr.b.cell (o:=14) rfl;have qy:=hr.b.cell (o:=15) rfl;obtain ⟨bp,gl,rg,cn,⟨Pd,wP⟩,fR,hB,CY,Ja⟩:=eX.rd hh;obtain ⟨bsv,qT,pH,Km⟩:=hB;have KK:=(wP w hw).1;have MC:=(wP w hw).2;have T8:=MC.1;have Sx:True:=trivial;have Ul:=fR.cell (o:=2) rfl;have Um:=fR.cell (o:=3) rfl;have Cf:=fR.cell (o:=6) rfl;have T9:=fR.cell (o:=7) rfl
 have hZ:=jR.th t Bf;have Zg:=hZ.Pc;have Jf:=hZ.bl;have hs:=St.start w;refine QV _ _ _ _ ?_;unfold S83;refine aE (aA fH (have hs:=hs.drew;aK bK (Um.ext hs.aD) (aE (aA oC (aA dZ (aK fG (Ul.ext hs.aD) (aI gp (KK.ext hs.aD) (cY (aC (λ _=>⟨vb (Nx (wH (by omega))).symm,(by first | exact hs.aD | exact hs.drop.aD)⟩) (λ eU=>aE (aA oC (aA dZ (have hs:=hs.drew;aK fG (Ul.ext hs.aD) (aE (aA fH (aK bK (Um.ext hs.aD) ?_))))))))))))))));obtain ⟨Xv,vS⟩:=gx Pd (i:=(t.at_).toNat) (by omega);obtain ⟨jO,sV⟩:=gx (t.code.l) (i:=(t.at_).toNat) (by omega)
 obtain ⟨Ny,Nz,rfl,aa7,aa8⟩:=MC.2 _ _ _ vS sV;refine aR gp KK (by omega) vS (λ _ Ez=>?_);have kz:=wG (t:=t) (by omega) sV;have sB:=jR.st t Bf _ kz;have Jb:=lu kz;refine aO eg (Ez.ext hs.aD) (bT hs fK (λ kJ _ hs=>?_));have hs:=hs.enc (cs':=Flat.enc (⟨0,0,0,⟨none,0,0⟩,⟨none,0,0⟩,0⟩:aX)) rfl;refine ⟨aH fG (Ul.ext hs.aD),?_⟩;refine ⟨aH bK (Um.ext hs.aD),?_⟩;refine ⟨eE eg (Ez.ext hs.aD),?_⟩;refine cO (x:=(⟨(jO).kind,(jO).a,(jO).b,Ny,Nz,(jO).to⟩:aX)) hs eg rfl rfl (λ _ hs=>?_);refine ⟨_,?_,λ _ _ h=>h⟩
 refine aE (aA rn (aK bK (T9.ext hs.aD) (bJ (aC (λ nL=>?_) (λ nL=>?_)))))
 ·intro pU;refine eZ ?_;refine ⟨vb ?_,(by first | exact hs.aD | exact hs.drop.aD)⟩;rw [k9 kz sB];rw [if_pos (by omega)]
 refine aA cR (aB (v:=.int .i64 ((jO).kind)) bK hs.hb rfl (aF ?_));intro pU;refine aC (λ oM=>?_) (λ oM=>⟨_,aA cR (aB (v:=.int .i64 ((jO).kind)) bK hs.hb rfl (aF (aC (λ A3=>?_) (λ A3=>aA cR (aB (v:=.int .i64 ((jO).kind)) bK hs.hb rfl (aF (aC (λ Ei=>?_) (λ Ei=>aA cR (aB (v:=.int .i64 ((jO).kind)) bK hs.hb rfl (aF (aC (λ lG=>?_) (λ lG=>?_)))))))))))),λ _ _ h=>h⟩)
 ·refine ⟨vb ?_,(by first | exact hs.aD | exact hs.drop.aD)⟩;rw [k9 kz sB];rw [if_pos (by omega)]
 ·intro kD;refine eZ (aE (aA ko (have hs:=hs.drew;aK ri (Cf.ext hs.aD) (aE (aA ig (aK nW (pH.ext hs.aD) (aI jX (Km.ext hs.aD) (aE (aA qY (aK bK (C2.ext hs.aD) (aN ?_)))))))))));refine ⟨vb ?_,(by first | exact hs.aD | exact hs.drop.aD)⟩;rw [k9 kz sB];rw [if_neg (by omega),if_pos (by omega)]
 ·intro kD;refine eZ (aE (aA ko (have hs:=hs.drew;aK ri (Cf.ext hs.aD) (aE (aA ig (aK nW (pH.ext hs.aD) (aI jX (Km.ext hs.aD) (aE (aA qY (aK bK (C2.ext hs.aD) (aN ?_)))))))))));refine ⟨vb ?_,(by first | exact hs.aD | exact hs.drop.aD)⟩;rw [k9 kz sB];rw [if_neg (by omega),if_pos (by omega)]
 ·intro kD;refine eZ (aE (aA ko (have hs:=hs.drew;aK ri (Cf.ext hs.aD) (aE (aA ig (aK nW (pH.ext hs.aD) (aI jX (Km.ext hs.aD) (aE (aA qY (aK bK (C2.ext hs.aD) (aN ?_)))))))))));refine ⟨vb ?_,(by first | exact hs.aD | exact hs.drop.aD)⟩;rw [k9 kz sB];rw [if_neg (by omega),if_pos (by omega)]
 refine aA cR (aB (v:=.int .i64 ((jO).kind)) bK hs.hb rfl (aF ?_));intro kD;refine aC (λ HL=>?_) (λ HL=>?_)
 ·refine aE (aA ko (have hs:=hs.drew;aK ri (Cf.ext hs.aD) (aE (aA ig (aK nW (pH.ext hs.aD) (aI jX (Km.ext hs.aD) (aE (aA qY (aK bK (C2.ext hs.aD) (aN ?_))))))))));refine ⟨vb ?_,(by first | exact hs.aD | exact hs.drop.aD)⟩;rw [k9 kz sB];rw [if_neg (by omega),if_pos (by omega)]
 refine ⟨_,?_,λ _ _ h=>h⟩;refine aE (aA ko (have hs:=hs.drew;aK ri (Cf.ext hs.aD) (aE (aA ig (aK nW (pH.ext hs.aD) (aI jX (Km.ext hs.aD) (aF (aC (λ xR=>aA cR (aB (v:=.int .i64 ((jO).kind)) bK hs.hb rfl (bJ (aC (λ xO=>?_) (λ xO=>?_))))) (λ xR=>?_)))))))))
 ·intro rE;refine ⟨vb ?_,(by first | exact hs.aD | exact hs.drop.aD)⟩;rw [k9 kz sB];rw [if_neg (by omega),if_neg (by omega)];rw [decide_eq_true (by omega),decide_eq_true (by omega)]; rfl
 ·have adn:=jR.lkb t Bf _ Jb.1 (.inl (show (jO).kind=9 by omega));have T4:=jR.lk;refine aE (aA ug (aK cT (nX.ext hs.aD) (aA fo (aB (v:=.int .i64 ((jO).b)) bK hs.hb rfl ?_))));obtain ⟨iP,vZ⟩:=gx (m.locks) (i:=((jO).b).toNat) (by omega);refine aR cB hr.lk (by omega) vZ (λ _ Je=>aO bK (Je.ext hs.aD) (aF ?_));intro rE;refine ⟨vb ?_,(by first | exact hs.aD | exact hs.drop.aD)⟩;rw [k9 kz sB];rw [if_neg (by omega),if_neg (by omega)];rw [decide_eq_true (show t.buf.length=0 by omega),decide_eq_false (show ¬ (jO).kind≠9 by omega),Bool.true_and,Bool.false_or,List.getD_eq_getElem?_getD,vZ]; rfl
 intro rE;refine ⟨vb ?_,(by first | exact hs.aD | exact hs.drop.aD)⟩;rw [k9 kz sB];rw [if_neg (by omega),if_neg (by omega)];rw [decide_eq_false (by omega),Bool.false_and]
theorem C32 (K:World->Prop) (p:Nat) (m:j0) (w:World) (hm:Has (gI K p m) w) (hw:K w) (lV:∀ w',Ext w w'->K w') (jR:lU m):CR 32 [(.pointer (some ⟨p,0,none⟩))] w (λ v w'=>pD (iZ v (fJ m)) w w'):=by
 obtain ⟨a,hr⟩:=gI.rd hm;have EE:=hr.b.cell (o:=8) rfl;have s8:=hr.b.cell (o:=11) rfl;have EF:=hr.b.cell (o:=1) rfl;have Jg:=hr.b.cell (o:=3) rfl;have C2:=hr.b.cell (o:=9) rfl;have qx:=hr.b.cell (o:=10) rfl;have nX:=hr.b.cell (o:=12) rfl;have mW:=hr.b.cell (o:=13) rfl;have l6:=hr.b.cell (o:=14) rfl;have qy:=hr.b.cell (o:=15) rfl;have hs:=St.start w;refine QG _ _ _ ?_;unfold S32;refine AF (α:=iy) hs l5 (λ aef w1 hs=>?_);refine ⟨λ mm o x w1=>∃ k:Nat,x = .int .i64 (k:Int)/\mm=a.ps.length - k/\k<=a.ps.length/\(m.fault=0\/k=0)/\St w aZ [iZ o (fx m k)] w1,⟨_,0,rfl,rfl,Nat.zero_le _,.inr rfl,hs⟩,?_⟩
 rintro mm jW _ w2 ⟨k,rfl,rfl,hk,hkf,hs⟩ _;refine ⟨_,?_,λ _ _ h=>h⟩;refine aE (aA gX (aK pC (mW.ext hs.aD) (aI sM (hr.ll.ext hs.aD) (aN (aC (λ rA=>?_) (λ rA=>?_))))))
 ·refine aE (aA uh (aK bK (l6.ext hs.aD) (aF ?_)));intro kD;refine aC (λ jA=>?_) (λ jA=>?_)
  ·have hf0:m.fault=0:=jA;obtain ⟨t,ht⟩:∃ t,m.l[k]? = some t:=⟨_,List.getElem?_eq_getElem (by have:=hr.len; omega)⟩;have Bf:=List.mem_of_getElem? ht;have Jf:=(jR.th t Bf).bl;have pz:=mf jR k;have zS:=s7 t.buf;have XQ:=hr.len;have Oe:=jR.tl;refine ⟨λ o w'=>St w aZ [iZ o (fx m k++(if oO m t=true then [(⟨1,(k:Int),0,[]⟩:iy)] else []))] w',?_,?_⟩
   ·refine aE (aA gX (aK pC (mW.ext hs.aD) ?_));obtain ⟨ZA,Kn⟩:=gx (a.ps) (i:=((k:Int)).toNat) (by omega);refine aR sM hr.ll (by omega) Kn (λ _ rF=>aO rp (rF.ext hs.aD) (bF abR hs (C83 K p m ZA.b t _ (hm.ext hs.aD) (lV _ hs.aD) (λ _ e=>lV _ (Ext.trans hs.aD e)) jR ((hr.th k _ _ Kn ht).ext hs.aD) Bf) (λ _ he hs=>bD (λ nL=>?_) (λ nL=>?_))))
    ·refine pop (xB _ _) (have hs:=hs.qk (Φ:=(λ w=>Deep.dr w (⟨1,(k:Int),0,⟨none,0,0⟩⟩:lF) (⟨1,(k:Int),0,[]⟩:iy))) (λ _=>⟨_,rfl,DL.nil _⟩);gF (s:=(⟨1,(k:Int),0,⟨none,0,0⟩⟩:lF)) (x:=(⟨1,(k:Int),0,[]⟩:iy)) hs l5 (by decide) (λ s_x36 _ hs=>have hs:=hs.p1;gG hs l5 (by simp; omega) (by decide) (λ XG _ hs=>?_)));rw [nL,if_pos rfl];exact hs
    rw [nL,if_neg (by decide),List.append_nil];exact hs
   intro iX _ hs _;refine aE (aA gX (aK pC (mW.ext hs.aD) ?_));obtain ⟨e_x43,Ko⟩:=gx (a.ps) (i:=((k:Int)).toNat) (by omega);refine aR sM hr.ll (by omega) Ko (λ _ ZB=>aO rp (ZB.ext hs.aD) ?_);obtain ⟨bp,gl,rg,cn,⟨Pd,wP⟩,fR,hB,CY,Ja⟩:=eX.rd (hr.th k _ _ Ko ht);have hB0:=hB;obtain ⟨bsv,qT,pH,Km⟩:=hB;have KK:=(wP w hw).1;have MC:=(wP w hw).2;have T8:=MC.1;have Sx:True:=trivial;have Ul:=fR.cell (o:=2) rfl;have Um:=fR.cell (o:=3) rfl;have Cf:=fR.cell (o:=6) rfl;have T9:=fR.cell (o:=7) rfl;refine aE (aA ko (aK ri (Cf.ext hs.aD) (fy abS hs (C84 bp _ _ _ (hB0.ext hs.aD) (by omega)) (λ x48 _ er hs=>?_))))
   have hs:=hs.p1.p1;refine ⟨λ mm o x w1=>∃ j:Nat,x = .int .i64 (j:Int)/\mm=(lR t.buf).length - j/\j<=(lR t.buf).length/\St w aZ [bR x48 (lR t.buf),iZ o ((fx m k++(if oO m t=true then [(⟨1,(k:Int),0,[]⟩:iy)] else []))++((lR t.buf).take j).map λ i=>(⟨2,(k:Int),i,[]⟩:iy))] w1,⟨_,0,rfl,rfl,Nat.zero_le _,by simpa using hs⟩,?_⟩;rintro mm qg _ _ ⟨j,rfl,rfl,hj,hs⟩ _;refine aI cB (hs).jo (aN (aC (λ Pn=>?_) (λ Pn=>?_)))
   ·obtain ⟨E3,Kp⟩:=gx ((lR t.buf)) (i:=((j:Int)).toNat) (by omega);refine eu hs cB (by omega) (by omega) (λ _ ZC=>iq hs bK ZC Kp (pop (tz _ _ _) (have hs:=hs.qk (Φ:=(λ w=>Deep.dr w (⟨2,(k:Int),E3,⟨none,0,0⟩⟩:lF) (⟨2,(k:Int),E3,[]⟩:iy))) (λ _=>⟨_,rfl,DL.nil _⟩);gF (s:=(⟨2,(k:Int),E3,⟨none,0,0⟩⟩:lF)) (x:=(⟨2,(k:Int),E3,[]⟩:iy)) hs l5 (by decide) (λ s_x62 _ hs=>have hs:=hs.p2;gG hs l5 (by simp only [List.length_append,List.length_map,List.length_take,List.length_singleton]; split <;> simp <;> omega) (by decide) (λ ZD _ hs=>aW (by omega) ?_)))))
    have hs:=hs.p1;refine ⟨_,by omega,j+1,rfl,rfl,by omega,?_⟩;rw [List.append_assoc,jG (k:=j) Kp] at hs;exact hs
   refine aW (by omega) ?_;have hs:=(hs).drop;refine ⟨_,by omega,k+1,rfl,rfl,by omega,.inl hf0,?_⟩;rw [nu ht];unfold qw;rw [List.take_of_length_le (by omega),List.append_assoc] at hs;exact hs
  have SB:fJ m=fx m k:=by
   have h0:¬ m.fault=0:=jA;unfold fJ;rw [if_pos h0,hkf.resolve_left h0]; rfl
  rw [SB];exact hs.fresh
 intro kD;refine dN ?_
 have SB:fJ m=fx m k:=by
  unfold fJ
  by_cases h0:m.fault=0
  ·rw [if_neg (by omega),<- hr.len,show a.ps.length=k from by omega]
  ·rw [if_pos h0,hkf.resolve_left h0]; rfl
 rw [SB];exact hs.fresh
theorem Kq {t:eB} (h0:0<=t.at_) (h:t.at_<t.code.l.length):kM t=false:=by
 unfold kM
 rw [wG h (List.getElem?_eq_getElem (by omega))]
 rfl
theorem B6 {t:eB} (h:(t.code.l.length:Int)<=t.at_):kM t=decide (t.buf.length=0):=by
 unfold kM
 rw [wH h]
 rfl
def m6 (m:j0) (k:Nat):Bool:=(List.range k).any λ i=>match m.l[i]? with | some t=>!kM t | none=>false
section
variable {m:j0} {k:Nat} {t:eB}
theorem wI (ht:m.l[k]? = some t):m6 m (k+1)=(m6 m k || !kM t):=by
 unfold m6
 rw [List.range_succ,List.any_append]
 simp [ht]
theorem aeg:(decide (m.fault=0) && !m6 m 0)=decide (m.fault=0):=by simp [m6]
theorem Qe (ht:m.l[k]? = some t) (hd:kM t=false):(decide (m.fault=0) && !m6 m (k+1))=false:=by rw [wI ht,hd]; simp
theorem ZE (ht:m.l[k]? = some t) (hd:kM t=true):(decide (m.fault=0) && !m6 m (k+1))=(decide (m.fault=0) && !m6 m k):=by rw [wI ht,hd]; simp
end
theorem C78 (K:World->Prop) (p:Nat) (m:j0) (w:World) (hm:Has (gI K p m) w) (hw:K w) (lV:∀ w',Ext w w'->K w') (jR:lU m):CR 78 [(.pointer (some ⟨p,0,none⟩))] w (λ v w'=>v=Flat.val (iV m)/\Ext w w'):=by
 obtain ⟨a,hr⟩:=gI.rd hm;have EE:=hr.b.cell (o:=8) rfl;have s8:=hr.b.cell (o:=11) rfl;have EF:=hr.b.cell (o:=1) rfl;have Jg:=hr.b.cell (o:=3) rfl;have C2:=hr.b.cell (o:=9) rfl;have qx:=hr.b.cell (o:=10) rfl;have nX:=hr.b.cell (o:=12) rfl;have mW:=hr.b.cell (o:=13) rfl;have l6:=hr.b.cell (o:=14) rfl;have qy:=hr.b.cell (o:=15) rfl;have hs:=St.start w;refine QT _ _ _ ?_;unfold S78;refine bT hs yF (λ jY w1 hs=>aE (aA LS (have hs:=hs.drew;aK bK (qx.ext hs.aD) (aE (aA uh (aK bK (l6.ext hs.aD) (aE (aA LU (aK bK (qy.ext hs.aD) (aE (aA uh (aK bK (l6.ext hs.aD) ?_))))))))))))
 refine aF (pop (wX _ _ _ _) (bT hs yF (λ ZF w2 hs=>?_)));refine ⟨aH bK (qx.ext hs.aD),?_⟩;refine ⟨aH bK (l6.ext hs.aD),?_⟩;refine ⟨aH bK (qy.ext hs.aD),?_⟩;refine ⟨aH bK (l6.ext hs.aD),?_⟩;refine cO (x:=(⟨m.eP,m.fault,m.gL,(decide (m.fault=0)),false⟩:dC)) hs Am rfl rfl (λ _ hs=>?_);have hs:=hs.p1.p1;refine ⟨λ mm x w1=>∃ k:Nat,x = .int .i64 (k:Int)/\mm=a.ps.length - k/\k<=a.ps.length/\St w aZ [cZ ZF (Flat.enc (⟨m.eP,m.fault,m.gL,decide (m.fault=0) && !m6 m k,false⟩:dC)),cZ jY (Flat.enc (⟨0,0,0,false,false⟩:dC))] w1,⟨_,0,rfl,rfl,Nat.zero_le _,by rw [aeg]; exact hs⟩,?_⟩
 rintro mm _ _ ⟨k,rfl,rfl,hk,hs⟩ _;refine aE (aA gX (aK pC (mW.ext hs.aD) (aI sM (hr.ll.ext hs.aD) (aN (aC (λ ZG=>?_) (λ ZG=>?_))))))
 ·obtain ⟨t,ht⟩:∃ t,m.l[k]? = some t:=⟨_,List.getElem?_eq_getElem (by have:=hr.len; omega)⟩;have Bf:=List.mem_of_getElem? ht;have hZ:=jR.th t Bf;have Jf:=hZ.bl;have Zg:=hZ.Pc;have Oe:=jR.tl;have XQ:=hr.len;refine ⟨_,?_,λ _ h=>h⟩;refine ⟨_,?_,λ _ _ h=>h⟩;refine aE (aA gX (have hs:=hs.drew;aK pC (mW.ext hs.aD) ?_));obtain ⟨e_x37,zI⟩:=gx (a.ps) (i:=((k:Int)).toNat) (by omega);refine aR sM hr.ll (by omega) zI (λ _ oH=>aO rp (oH.ext hs.aD) (aE ?_));obtain ⟨bp,gl,rg,cn,⟨Pd,wP⟩,fR,hB,CY,Ja⟩:=eX.rd (hr.th k _ _ zI ht);have hB0:=hB;obtain ⟨bsv,qT,pH,Km⟩:=hB
  have KK:=(wP w hw).1;have MC:=(wP w hw).2;have T8:=MC.1;have Sx:True:=trivial;have Ul:=fR.cell (o:=2) rfl;have Um:=fR.cell (o:=3) rfl;have Cf:=fR.cell (o:=6) rfl;have T9:=fR.cell (o:=7) rfl;refine aA fH (aK bK (Um.ext hs.aD) (aE (aA gX (aK pC (mW.ext hs.aD) (aR sM hr.ll (by omega) zI (λ _ ZH=>aO rp (ZH.ext hs.aD) (aE (aA oC (aA dZ (aK fG (Ul.ext hs.aD) (aI gp (KK.ext hs.aD) (aN (aC (λ xQ=>?_) (λ xQ=>?_))))))))))))))
  ·intro kD;refine eZ (aA pf (bH hs D0 (ft rfl) (rfl) (λ w6 hs=>?_)));have hs:=hs.enc (cs':=Flat.enc ({ (⟨m.eP,m.fault,m.gL,decide (m.fault=0) && !m6 m k,false⟩:dC) with done:=false}:dC)) rfl;intro rE;refine aW (by omega) ?_;have hs:=hs.p1.p1;refine ⟨_,by omega,k+1,rfl,rfl,by omega,?_⟩;rw [Qe ht (Kq Zg (by omega))];exact hs
  refine aE (aA gX (aK pC (mW.ext hs.aD) (aR sM hr.ll (by omega) zI (λ _ vG=>aO rp (vG.ext hs.aD) (aE (aA ko (aK ri (Cf.ext hs.aD) (aE (aA ig (aK nW (pH.ext hs.aD) (aI jX (Km.ext hs.aD) (cC ?_))))))))))));intro kD;refine aC (λ nO=>?_) (λ nO=>?_)
  ·refine aA pf (bH hs D0 (ft rfl) (rfl) (λ w6 hs=>?_));have hs:=hs.enc (cs':=Flat.enc ({ (⟨m.eP,m.fault,m.gL,decide (m.fault=0) && !m6 m k,false⟩:dC) with done:=false}:dC)) rfl;intro rE;refine aW (by omega) ?_;have hs:=hs.p1.p1;refine ⟨_,by omega,k+1,rfl,rfl,by omega,?_⟩;rw [Qe ht (((B6 (by omega)).trans (decide_eq_false (by omega))))];exact hs
  intro rE;refine aW (by omega) ?_;have hs:=hs.p1.p1;refine ⟨_,by omega,k+1,rfl,rfl,by omega,?_⟩;rw [ZE ht (((B6 (by omega)).trans (decide_eq_true (by omega))))];exact hs
 have Yd:iQ m=(decide (m.fault=0) && !m6 m k):=by
  unfold iQ m6;rw [show k=m.l.length from by have:=hr.len; omega]
  rfl
 rw [<- Yd] at hs;refine ⟨λ w'=>St w aZ [cZ ZF (Flat.enc (iV m)),cZ jY (Flat.enc (⟨0,0,0,false,false⟩:dC))] w',aE (aA uh (aK bK (l6.ext hs.aD) (aF (aC (λ xR=>aA pf (aB (v:=.bool (((⟨m.eP,m.fault,m.gL,iQ m,false⟩:dC)).done)) D0 hs.hb rfl (bO (bD (λ xO=>?_) (λ xO=>?_))))) (λ xR=>?_))))),?_⟩
 ·refine fy UM hs (C32 K p m _ (hm.ext hs.aD) (lV _ hs.aD) (λ _ e=>lV _ (Ext.trans hs.aD e)) jR) (λ x85 _ er hs=>?_);obtain ⟨aeh,TF,TG,_⟩:=(hs).dl;refine aI l5 TF ?_;rw [TG];refine aF (aA pg (bH hs.p1 D0 (ft rfl) (rfl) (λ _ hs=>?_)));have hs:=hs.enc (cs':=Flat.enc ({ (⟨m.eP,m.fault,m.gL,iQ m,false⟩:dC) with stuck:=(decide (((fJ m).length:Int)=0))}:dC)) rfl;have hs:=(hs.p1.drop.p1).p1;have A0:j6 m=(decide (((fJ m).length:Int)=0)):=by unfold j6; rw [decide_eq_true xR,show iQ m=false from by simpa using xO]; rfl
  unfold iV;rw [A0];exact hs
 ·refine aA pg (bH hs D0 (ft rfl) (rfl) (λ _ hs=>?_));have hs:=hs.enc (cs':=Flat.enc ({ (⟨m.eP,m.fault,m.gL,iQ m,false⟩:dC) with stuck:=false}:dC)) rfl;have hs:=hs.p1.p1;have A0:j6 m=false:=by unfold j6; rw [show iQ m=true from by simpa using xO]; simp
  unfold iV;rw [A0];exact hs
 ·refine aA pg (bH hs D0 (ft rfl) (rfl) (λ _ hs=>?_));have hs:=hs.enc (cs':=Flat.enc ({ (⟨m.eP,m.fault,m.gL,iQ m,false⟩:dC) with stuck:=false}:dC)) rfl;have hs:=hs.p1.p1;have A0:j6 m=false:=by unfold j6; rw [decide_eq_false xR]; rfl
  unfold iV;rw [A0];exact hs
 intro _ hs _;exact aO Am hs.At (cO (x:=(iV m)) hs.p1 Am rfl rfl (λ _ hs=>aO Am hs.At (have hs:=((hs.drop)).drop;⟨rfl,hs.aD⟩)))
theorem C79 (K:World->Prop) (p:Nat) (m:j0) (w:World) (hm:Has (gI K p m) w) (hw:K w) (lV:∀ w',Ext w w'->K w') (jR:lU m) (zS:m.u.bU.length<=1000) (Ua:∀ l∈m.u.bU,l.length<=1000) (hst:0<=m.u.stays/\m.u.stays<=m.mem.l.length) (Pa:qF m.mem.l):CR 79 [(.pointer (some ⟨p,0,none⟩))] w (λ v w'=>pD (bR v (rW m)) w w'):=by
 obtain ⟨a,hr⟩:=gI.rd hm;have EE:=hr.b.cell (o:=8) rfl;have s8:=hr.b.cell (o:=11) rfl;have EF:=hr.b.cell (o:=1) rfl;have Jg:=hr.b.cell (o:=3) rfl;have C2:=hr.b.cell (o:=9) rfl;have qx:=hr.b.cell (o:=10) rfl;have nX:=hr.b.cell (o:=12) rfl;have mW:=hr.b.cell (o:=13) rfl;have l6:=hr.b.cell (o:=14) rfl;have qy:=hr.b.cell (o:=15) rfl;have SI:=hr.rk.cl _ hw;obtain ⟨ov,fv,lv,kv,wv,ws,hputs,hmb,hmo,hmf,hml,hmkp,hmw⟩:=hr.mem.ex;have od:=hmb.cell (o:=2) rfl;have hs:=St.start w;refine QU _ _ _ ?_;unfold S79;refine cM (([]:List Bool)) hs ma rfl rfl (ft rfl) (λ aef w1 hs=>?_);refine ⟨λ mm o x w1=>∃ k:Nat,x = .int .i64 (k:Int)/\mm=m.u.bU.length - k/\k<=m.u.bU.length/\St w aZ [bR o ((m.u.bU.take k).map (j7 m))] w1,⟨_,0,rfl,rfl,Nat.zero_le _,hs⟩,?_⟩
 rintro mm jW _ _ ⟨k,rfl,rfl,hk,hs⟩ _;refine aE (aA uf (aA ir (aK qW (EE.ext hs.aD) ?_)));obtain ⟨ZI,Qf,Qg⟩:=(SI).open;have hn141:=Qg.1;refine aI oB (Qf.ext hs.aD) (aN (aC (λ ku=>⟨λ o w'=>St w aZ [bR o ((m.u.bU.take (k+1)).map (j7 m))] w',?_,?_⟩) (λ ku=>?_)))
 ·refine aE (aA uf (aA ir (have hs:=hs.drew;aK qW (EE.ext hs.aD) ?_)));obtain ⟨I4,nq⟩:=gx ZI (i:=((k:Int)).toNat) (by omega);obtain ⟨dT,lQ⟩:=gx (m.u.bU) (i:=((k:Int)).toNat) (by omega);have ZJ:DL w (Flat.val I4) dT:=Qg.2 _ _ _ nq lQ;refine aR oB Qf (by omega) nq (λ _ rP=>aO gh (rP.ext hs.aD) ?_);have B7:=DL.flat (ZJ);refine aE (aA yG (aK G7 (s8.ext hs.aD) (aE (aA vd (aK cT (od.ext hs.aD) (aE (aA uf (aA fu (aK bK (EF.ext hs.aD) (fk cB (hml.ext hs.aD) (by omega) (by omega) (λ Yh TI=>?_)))))))))))
  have TJ:=TI _ hml;refine bF N6 hs (C142 _ _ dT (m.mem.l.take (m.u.stays).toNat) _ (B7.ext hs.aD) (TJ.ext hs.aD) (by have:=Ua _ (List.mem_of_getElem? lQ); omega) (Pa.take _)) (λ _ he hs=>bI rfl (bI rfl (aF (aC (λ fh=>?_) (λ fh=>?_)))))
  ·refine bJ (cM ([decide ((runM dT (m.mem.l.take m.u.stays.toNat)).1≠0)]) hs ma rfl rfl (ft rfl) (λ O8 _ hs=>?_));have TK:=(hs).jo;refine cN hs.p1 ma TK (by simp; omega) (by decide) (λ XH _ hs=>?_);have hs:=hs.p1.drop;rw [<- jG (k:=k) lQ];have v7:j7 m dT=decide ((runM dT (m.mem.l.take m.u.stays.toNat)).1≠0):=by unfold j7; rw [decide_eq_true fh]; rfl
   rw [v7];exact hs
  refine cM ([false]) hs ma rfl rfl (ft rfl) (λ MF _ hs=>?_);have Kr:=(hs).jo;refine cN hs.p1 ma Kr (by simp; omega) (by decide) (λ aa9 _ hs=>?_);have hs:=hs.p1.drop;rw [<- jG (k:=k) lQ];have v7:j7 m dT=false:=by unfold j7; rw [decide_eq_false fh]; rfl
  rw [v7];exact hs
 ·intro iX _ hs _;exact aW (by omega) ⟨_,by omega,k+1,rfl,rfl,by omega,hs⟩
 rw [List.take_of_length_le (by omega)] at hs;exact hs.fresh
theorem B8 {α β:Type} [Flat α] [Flat β] {P:Program} {S:Nat->Prop} {Wd:World->Prop} {w0:World} {T f off:Nat} {p:Value} {x:α} (y:β) {K:Value->Prop} (ht:oy P T f off) (h:∀ w,Wd w->At S w p x) (hw:Wd w0) (hy:(Flat.enc x)[off]? = some (Flat.val y)) (ha:Flat.agg β=false)
  (k:∀ q,(∀ w,Wd w->At S w q y)->K q):dW P (Instr.fieldAt T p f) K:=by
 obtain ⟨b,o,rfl,h2,_⟩:=h w0 hw
 refine aA ht (k _ λ w hw=>?_)
 obtain ⟨b',o',he,_,h3⟩:=h w hw
 cases he
 refine ⟨b,o+off,rfl,h2,λ j c hj=>?_⟩
 rw [Flat.l4 ha] at hj
 cases j with
 | zero=>simp at hj; subst hj; exact h3 off _ hy
 | succ j=>simp at hj
theorem NA {l:List Int} {k:Nat} {e:Int} (h0:0<k) (h:l[((k:Int) - 1).toNat]? = some e):fN l k=e+1:=by
 unfold fN
 rw [if_neg (by omega),List.getD_eq_getElem?_getD,show k - 1=((k:Int) - 1).toNat from by omega,h]; rfl
theorem Ks {of fi:List Int} {st:Int}:B5 [] (y8 of st fi):=⟨λ _=>rfl,λ x h=>by cases h⟩
theorem Kt (c:dK):qF (nZ c).aG:=λ v hv=>by
 rw [List.eq_of_mem_replicate (show v∈List.replicate c.aG.toNat (0:Int) from hv)]; exact kY
structure UG (G:World->Prop) (sh:bV) (u:eh) (m7:List aT):Prop where
 ln:∀ w,G w->ee (λ _=>True) w (Flat.val sh.lines) u.lines
 cl:∀ w,G w->DL w (Flat.val sh.bU) u.bU
 rc:me G (Flat.val sh.recover.l) u.recover.l
 th:∀ w,G w->ee (λ _=>True) w (Flat.val sh.threads) m7
 cv:ME G m7 u.threads
theorem Gj {w w0:World} {A:Nat->Prop} {L:List HP} {p q:Nat} {u:eh} {room:Int} {sh:bV} {m7:List aT} {G:World->Prop} (hG:UG G sh u m7)
  (hs:St w0 A (cZ p (o0 ⟨sh.lines,sh.bP,sh.threads,sh.recover.l,sh.bU,q,.slice none 0 0,.slice none 0 0,.slice none 0 0,.slice none 0 0,[]⟩ (fL u room))::mi q (y8 u.lines u.stays u.bP)::L) w):St w0 A (gI G p (fL u room)::L) w:=by
 have h6:St w0 A (gk (tS G room) [] []::_) w:=hs.new (Ext.refl w) (F:=aZ) (λ _ h=>h) λ _ h=>h.elim
 have h7:=((h6.fF (α:=Ptr)).fF (α:=Int))
 exact gI.shut (a:=⟨sh.lines,sh.bP,sh.threads,sh.recover.l,sh.bU,q,.slice none 0 0,.slice none 0 0,.slice none 0 0,.slice none 0 0,[]⟩) (m:=fL u room) ⟨hG.ln,hG.cl,hG.rc⟩ h7.p4.p4
theorem C76 (of fi:List Int) (st:Int) (ov fv:Value) (w:World) (hO:ee (λ _=>True) w ov of) (FD:ee (λ _=>True) w fv fi) (hle:of.length=fi.length) (h20:of.length<=20) (hst:0<=st/\st<=of.length) (XR:∀ (k:Nat) (n:Int),(k:Int)<st->of[k]? = some n->(n=fN of k\/(0<k/\n=fN of k - 1))/\-10<=n/\n<=100):CR 76 [ov,.int .i64 st,fv] w (λ v w'=>∃ b,v = .tuple #[.pointer (some ⟨b,0,none⟩),.int .i64 0]/\pD (mi b (y8 of st fi)) w w'):=by
 have hs:=St.start w;refine QQ _ _ _ _ _ ?_;unfold S76;refine ⟨_,?_,λ _ _ h=>h⟩;refine aI cB (hO.ext hs.aD) (aI cB (FD.ext hs.aD) (bJ (dA (decide_eq_false (by omega)) (aI cB (hO.ext hs.aD) (cC (dA (decide_eq_false (by omega)) (aN (dA (decide_eq_false (by omega)) (aI cB (hO.ext hs.aD) (cC ?_))))))))));intro _;refine dA (decide_eq_false (by omega)) ?_;refine ⟨λ mm x w1=>∃ k:Nat,x = .int .i64 (k:Int)/\mm=st.toNat - k/\(k:Int)<=st/\St w aZ [] w1,⟨_,0,rfl,rfl,by omega,hs⟩,?_⟩;rintro mm _ _ ⟨k,rfl,rfl,hk,hs⟩ _;refine aN (aC (λ nL=>⟨_,aF (aC (λ im=>?_) (λ im=>?_)),λ _ _ h=>h⟩) (λ nL=>?_))
 ·obtain ⟨lO,lP⟩:=gx (of) (i:=((0:Int)).toNat) (by omega);refine aR cB hO (by omega) lP (λ _ rL=>have hs:=hs.drew;aO bK (rL.ext hs.aD) ?_);have Wk:=XR 0 lO (by omega) (by simpa using lP);have WX:fN of 0=0:=rfl;refine bJ (dA (decide_eq_false (by omega)) (cC (dA (decide_eq_false (by omega)) ?_)));intro rE;exact dN (aW (by omega) ⟨_,by omega,k+1,rfl,rfl,by omega,hs⟩)
 ·refine cC (ph (decide_eq_true (by omega)) ?_);obtain ⟨NB,wJ⟩:=gx (of) (i:=((k:Int)).toNat) (by omega);refine aR cB hO (by omega) wJ (λ _ NC=>have hs:=hs.drew;aO bK (NC.ext hs.aD) (eC (by omega) ?_));obtain ⟨aba,wK⟩:=gx (of) (i:=(((k:Int) - 1)).toNat) (by omega);refine aR cB hO (by omega) wK (λ _ ND=>aO bK (ND.ext hs.aD) ?_);have Wk:=XR k NB (by omega) (by simpa using wJ);rw [NA (by omega) wK] at Wk;refine bJ (aC (λ NF=>?_) (λ NF=>?_))
  ·refine aR cB hO (by omega) wJ (λ _ NG=>aO bK (NG.ext hs.aD) (eC (by omega) (aR cB hO (by omega) wK (λ _ NH=>aO bK (NH.ext hs.aD) (aW (by omega) (bJ ?_))))));intro rE;exact dA (decide_eq_false (by omega)) (aW (by omega) ⟨_,by omega,k+1,rfl,rfl,by omega,hs⟩)
  intro rE;exact dN (aW (by omega) ⟨_,by omega,k+1,rfl,rfl,by omega,hs⟩)
 refine cM (([]:List Int)) hs cB rfl rfl (ft rfl) (λ s_x72 _ hs=>fk cB (hO.ext hs.aD) (by omega) (by omega) (λ Ku Dy=>?_));have zJ:=Dy _ hO;have vH:=(zJ.ext hs.aD);refine cN hs cB vH (by simp; omega) (by decide) (λ ZK _ hs=>cM (([]:List Int)) hs cB rfl rfl (ft rfl) (λ ZL _ hs=>?_));have TL:=(FD.ext hs.aD);refine cN hs cB TL (by simp; omega) (by decide) (λ s_x79 _ hs=>?_);obtain ⟨Dz,rfl⟩:=(hs.p1).iu;obtain ⟨DA,rfl⟩:=(hs).iu;refine pop (Cz _ _ _ _ _ _) (dY (x:=(⟨Dz,DA,⟨none,0,0⟩,⟨none,0,0⟩,⟨none,0,0⟩⟩:Ef)) hs (λ b_x81 _ hs=>cM (([]:List Int)) hs cB rfl rfl (ft rfl) (λ s_x83 _ hs=>?_)))
 have TM:=(FD.ext hs.aD);refine cN hs cB TM (by simp; omega) (by decide) (λ s_x85 _ hs=>aE (aA vd ?_));obtain ⟨Kv,rfl⟩:=(hs).iu;refine bH hs.p1 cT (ft rfl) (rfl) (λ _ hs=>have hs:=hs.enc (cs':=Flat.enc (⟨Dz,DA,Kv,⟨none,0,0⟩,⟨none,0,0⟩⟩:Ef)) rfl;cM (([]:List Int)) hs cB rfl rfl (ft rfl) (λ s_x89 _ hs=>fk cB (FD.ext hs.aD) (by omega) (by omega) (λ s_x92 TN=>?_)));have TO:=TN _ FD;have TP:=(TO.ext hs.aD);refine cN hs cB TP (by simp; omega) (by decide) (λ s_x93 _ hs=>aE (aA Ao ?_));obtain ⟨TQ,rfl⟩:=(hs).iu
 refine bH hs.p1 cT (ft rfl) (rfl) (λ _ hs=>?_);have hs:=(hs.enc (cs':=Flat.enc (⟨Dz,DA,Kv,TQ,⟨none,0,0⟩⟩:Ef)) rfl).p1;have hs:=hs.p2.p3.p4.p4;simp only [List.nil_append] at hs;have hs:=(hs.fF (α:=yL)).p5.p5.p5.p5.p5;exact ⟨_,rfl,(mi.shut (m:=y8 of st fi) Ks hs).fresh⟩
theorem C77 (K:World->Prop) (p:Nat) (m:j0) (N:Nat) (oQ:List dK) (kh:List eB) (lv:Value) (m7:List aT) (F:Nat->Prop) (w:World) (hF:(gI K p m).p w F) (hK:∀ w',kj F w w'->K w') (hrm:1<=m.room/\m.room<=16) (T4:0<=m.u.locks/\m.u.locks<=1000) (hl:∀ w',kj F w w'->ee (λ _=>True) w' lv m7) (v7:ME K m7 oQ) (SC:∀ c∈oQ,sZ c) (hb:qz N oQ kh) (hn:oQ.length<=1000):CR 77 [(.pointer (some ⟨p,0,none⟩)),lv] w (λ v w'=>v = .tuple #[]/\D8 F (gI K p (jP m kh)) w w'):=by
 have hs:=St.begin hF;obtain ⟨a,hu,hs⟩:=gI.open hs;have X3:=hs.p4.mN;have X4:=v7.1;refine QS _ _ _ _ ?_;unfold S77;refine aE (aA gX (bH hs pC (ft rfl) (rfl) (λ _ hs=>aE (aA ug (bH hs cT (ft rfl) (rfl) (λ _ hs=>?_))))));have hs:=(((hs.p3.drop.p3.drop.p2.drop.fF (α:=Int)).p2).p1).p2;refine ⟨λ mm x w'=>∃ (k:Nat) (sy:Value),x = .int .i64 (k:Int)/\mm=m.u.locks.toNat - k/\k<=m.u.locks.toNat/\St w F [cZ p (o0 {a with lk:=sy,ll:=.slice none 0 0} m),bR sy (List.replicate k (-1:Int)),mi a.q m.mem] w',⟨_,0,_,rfl,rfl,Nat.zero_le _,hs⟩,?_⟩;rintro mm _ _ ⟨k,sy,rfl,rfl,KJ,hs⟩ _
 refine aE (aA uf (aA kc (aB bK hs.hb rfl (aN (aC (λ jA=>?_) (λ jA=>?_))))))
 ·refine aE (aA ug (aB cT hs.hb rfl (cM (([-1]:List Int)) hs cB rfl rfl (ft rfl) (λ X1 _ hs=>?_))));have TR:=(hs).jo;exact cN hs.p2 cB TR (by rw [List.length_replicate,List.length_singleton]; omega) (by decide) (λ Pe _ hs=>have hs:=hs.p1.drop;aE (aA ug (bH hs.p1 cT (ft rfl) ((hs).jo.one) (λ _ hs=>aW (by omega) (have hs:=hs.p2.p2.p2;⟨_,by omega,k+1,Pe,rfl,rfl,by omega,by rw [List.replicate_succ']; exact hs⟩)))))
 have hs:=hs.p1;rw [show k=m.u.locks.toNat from by omega] at hs;have hs:=((((((hs.AG (H:=tS K m.room)).fF (α:=Ptr)).p4).p3).p3).p3).p4;refine ⟨λ mm x w'=>∃ (j:Nat) (FF:Value) (ps:List Ptr),x = .int .i64 (j:Int)/\mm=m7.length - j/\j<=m7.length/\St w F [cZ p (o0 {a with lk:=sy,ll:=FF} m),bR FF ps,gk (tS K m.room) ps (kh.take j),bR sy (List.replicate m.u.locks.toNat (-1:Int)),mi a.q m.mem] w',⟨_,0,_,_,rfl,rfl,Nat.zero_le _,hs⟩,?_⟩;rintro mm _ _ ⟨j,FF,ps,rfl,rfl,hj1,hs⟩ _;refine aI kR (hl _ hs.aD) (aN (aC (λ im=>?_) (λ im=>?_)))
 ·obtain ⟨c,hc⟩:∃ c,oQ[j]? = some c:=⟨_,List.getElem?_eq_getElem (by have:=v7.1; omega)⟩;obtain ⟨t1,Iv⟩:∃ t,kh[j]? = some t:=⟨_,List.getElem?_eq_getElem (by have:=v7.1; have:=hb.1; omega)⟩;have hg:=hb.2 j c t1 hc Iv;obtain ⟨e_x49,zK⟩:=gx m7 (i:=((j:Int)).toNat) (by omega);obtain ⟨gl,sC,Jk⟩:=v7.2 j _ _ zK hc;subst sC;have SD:=SC c (List.mem_of_getElem? hc);have zU:=SD.rb;have hcb:=SD.cb;refine ⟨_,?_,λ _ h=>h⟩;refine aE (aA qY (aB bK hs.hb rfl (gW UP (C75 m.room _) ?_)));rintro v44 _ hh;obtain ⟨_,_,b75,rfl,er⟩:=hh.resolve_left (λ _=>by omega);have hs:=hs.made er;refine bI rfl (bI rfl ⟨λ t8 w'=>∃ tb,t8 = .pointer (some ⟨tb,0,none⟩)/\St w F [eX K tb m.room (nZ c),cZ p (o0 {a with lk:=sy,ll:=FF} m),bR FF ps,gk (tS K m.room) ps (kh.take j),bR sy (List.replicate m.u.locks.toNat (-1:Int)),mi a.q m.mem] w',su (Wd:=λ w'=>kj F w w') kR hl hs.aD (by omega) zK (λ _ wa=>have hs:=hs.drew;aO gJ (wa _ hs.aD) (su (Wd:=λ w'=>kj F w w') kR hl hs.aD (by omega) zK (λ _ ZM=>B8 c.aG gu ZM hs.aD rfl rfl (λ _ AQ=>aO bK (AQ _ hs.aD) (su (Wd:=λ w'=>kj F w w') kR hl hs.aD (by omega) zK (λ _ Il=>B8 c.counts kT Il hs.aD rfl rfl (λ _ vG=>aO bK (vG _ hs.aD) ⟨?_,⟨?_,?_⟩⟩))))))),?_⟩)
  ·refine km (0:Int) hs cB tw (by omega) (by omega) (by decide) (λ s_x57 _ hs=>?_);refine ⟨eE gJ (wa _ hs.aD),?_⟩;refine ⟨eE bK (vG _ hs.aD),?_⟩;refine km (0:Int) hs cB tw (by omega) (by omega) (by decide) (λ ZD _ hs=>?_);refine ⟨eE gJ (wa _ hs.aD),?_⟩;refine ⟨eE bK (AQ _ hs.aD),?_⟩;obtain ⟨aei,rfl⟩:=(hs.p1).iu;obtain ⟨Ss,rfl⟩:=(hs).iu;exact pop (oF _ _ _ _ _ _ _ _ _ _ _ _) (js hs (λ _ _ hs=>have hs:=hs.p8.p8.p8.p8.p8.p6.p7.p8.p8;⟨_,rfl,eX.shut (t:=nZ c) Jk hs⟩))
  ·refine km (0:Int) hs cB tw (by omega) (by omega) (by decide) (λ abb _ hs=>?_);refine ⟨eE gJ (wa _ hs.aD),?_⟩;refine ⟨eE bK (AQ _ hs.aD),?_⟩;refine km (0:Int) hs cB tw (by omega) (by omega) (by decide) (λ abc _ hs=>?_);refine ⟨eE gJ (wa _ hs.aD),?_⟩;refine ⟨eE bK (vG _ hs.aD),?_⟩;obtain ⟨ZN,rfl⟩:=(hs).iu;obtain ⟨ZO,rfl⟩:=(hs.p1).iu;exact pop (oF _ _ _ _ _ _ _ _ _ _ _ _) (js hs (λ _ _ hs=>have hs:=hs.p8.p8.p8.p8.p8.p7.p7.p8.p8;⟨_,rfl,eX.shut (t:=nZ c) Jk hs⟩))
  ·trivial
  rintro _ _ ⟨tb,rfl,hs⟩ _;refine mV U6 hs (H':=λ _=>eX K tb m.room t1) (Φ:=λ _ _=>True) (λ F2 Jd sw=>?_) ?_
  ·exact (C141 K tb m.room (nZ c) t1 N F2 _ Jd (λ w' hc=>hK w' (sw w' hc).aD) (zh SD) (Kt c) hg).mono λ _ _ r=>r.mono λ _ _ h=>⟨trivial,h.2⟩
  rintro _ _ _ hs;refine aE (aA gX ?_);have pz:=(hs.p3).mN;refine aB pC hs.p1.hb rfl (cM ([(⟨tb⟩:Ptr)]) hs sM rfl rfl (ft rfl) (λ s_x74 _ hs=>?_));have TS:=(hs).jo;refine cN hs.p3 sM TS (by rw [List.length_take] at pz; simp; omega) (by decide) (λ Ku _ hs=>have hs:=hs.p1.drop;aE (aA gX (bH hs.p2 pC (ft rfl) ((hs).jo.one) (λ _ hs=>?_))));intro _;exact aW (by omega) (have hs:=(((((St.AH (H:=tS K m.room) (p:=⟨tb⟩) (x:=t1) hs.p2.p3).p4).p4).p2).p4).p4;⟨_,by omega,j+1,Ku,ps++[⟨tb⟩],rfl,rfl,by omega,by rw [<- gz (k:=j) Iv]; exact hs⟩)
 have hs:=hs.p2.p2.p3.p4.p4;rw [List.take_of_length_le (by have:=hb.1; omega)] at hs;exact ⟨rfl,(gI.shut (m:=jP m kh) (a:={a with lk:=sy,ll:=FF,ps:=ps}) ⟨hu.ln,hu.cl,hu.rc⟩ hs).mut⟩
theorem C26 (u:eh) (uv:bV) (room:Int) (N:Nat) (kh:List eB) (G:World->Prop) (m7:List aT) (w:World) (hu:Deep.dr w uv u) (NI:∀ w',Ext w w'->G w') (hG:UG G uv u m7) (hz:UZ u) (hn:dU u=true->EH N u kh):CR 26 [Flat.val uv,.int .i64 room] w (λ v w'=>(dU u=false/\v = .tuple #[.pointer none,.int .i64 8]/\Ext w w')\/(dU u=true/\(room<1\/16<room)/\v = .tuple #[.pointer none,.int .i64 1]/\Ext w w')\/(dU u=true/\1<=room/\room<=16/\∃ p,v = .tuple #[.pointer (some ⟨p,0,none⟩),.int .i64 0]/\pD (gI G p (jP (fL u room) kh)) w w')):=by
 obtain ⟨cD,bW,bG,ga,bN,rfl,cS,cX,cQ,dD,dL⟩:=hu;obtain ⟨aJ,rfl,cJ⟩:=dD;have hs:=St.start w;refine QD _ _ _ _ ?_;unfold S26;refine dY hs (λ FG _ hs=>aO mj hs.At (bF abM hs (C74 u _ _ ⟨cD,bW,bG,(⟨((u).recover).aG,((u).recover).counts,aJ⟩:aT),bN,rfl,(cS.ext hs.aD),(cX.ext hs.aD),(cQ.ext hs.aD),⟨aJ,rfl,(cJ.ext hs.aD)⟩,(dL.ext hs.aD)⟩ hz) (λ _ he hs=>bO (bD (λ kL=>.inl ⟨by simpa using kL,rfl,hs.drop.aD⟩) (λ kL=>?_)))))
 have uL:=hn (by simpa using kL);refine gW UP (C75 room _) ?_;rintro v_x16 _ TT
 rcases TT with ⟨zU,rfl,he⟩ | ⟨DP,wM,b75,rfl,er⟩
 ·have hs:=hs.ext he;exact bI rfl (bI rfl (bJ (ph (by decide) (.inr (.inl ⟨by simpa using kL,zU,rfl,hs.drop.aD⟩)))))
 have hs:=hs.made er;refine bI rfl (bI rfl (bJ (dA (by decide) (aA eH (aB cT hs.p1.hb rfl ?_)))));have ZP:=DL.flat (cS);refine aA fu (aB (v:=.int .i64 ((u).stays)) bK hs.p1.hb rfl (aA jw (aB cT hs.p1.hb rfl ?_)));have ZQ:=DL.flat (cX);refine gW abN (C76 u.lines u.bP u.stays _ _ _ (ZP.ext hs.aD) (ZQ.ext hs.aD) uL.len uL.l20 uL.st uL.ln) ?_;rintro v29 _ ⟨q,rfl,er⟩;have hs:=hs.made er;refine bI rfl (bI rfl (aO mj hs.p2.At (pop (Au _ _ _ _ _ _ _ _ _ _ _ _ _ _ _ _ _ _ _ _ _) (js hs (λ Kw _ hs=>aA fX (aB mI hs.p3.hb rfl (have hs:=Gj (room:=room) hG hs.p1.p1;mV abO hs (H':=λ _=>gI G Kw (jP (fL u room) kh)) (Φ:=λ _ _=>True) (λ F2 Jd sw=>?_) ?_)))))))
 ·exact (C77 G Kw (fL u room) N u.threads kh _ m7 F2 _ Jd (λ w' hc=>NI w' (sw w' hc).aD) ⟨DP,wM⟩ uL.lk (λ w' hc=>hG.th w' (NI w' (sw w' hc).aD)) hG.cv uL.co uL.b hz.threads).mono λ _ _ r=>r.mono λ _ _ h=>⟨trivial,h.2⟩
 rintro _ _ _ hs;have hs:=((hs.p1.drop).p1).drop;exact .inr (.inr ⟨by simpa using kL,DP,wM,Kw,rfl,hs.fresh⟩)
section
variable {ws:List yL} {m:Mem} {x:yL} {cut:List Int}
theorem DB {α:Type} {l:List α} {k:Nat} {y:α} (h:l[k]? = some y):l.take (k+1)=l.take k++[y]:=by rw [List.take_add_one,h]; rfl
end
end Go.Proofs.YtnjcingfdhjfkaaGreat
