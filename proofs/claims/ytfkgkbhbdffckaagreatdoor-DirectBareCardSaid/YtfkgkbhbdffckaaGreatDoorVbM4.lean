/-
  Part 4.
-/
import Derived.Test.YtfkgkbhbdffckaaGreatDoorVbM3
set_option linter.all false
set_option maxHeartbeats 8000000
set_option maxRecDepth 100000
namespace Go.Fw
section
variable {P:Program} {Fr:lO} {ρ:Rn} {h h':Hp} {w:World} {v:V} {n n':Nat} {e:En} {e':Env}
theorem GJ {b o c:Nat} {l u:V} {vs:List Value} (hR:RH P Fr ρ h w) (hl:iB ρ l vs) (nV:∀ z∈vs,fe z=true) (hc:vs.length=c) (hh:Al h n b o c l u = .ok v h' n') :
  ∃ q w',ρ b=some q/\(storeCells ⟨q.k,q.b+o,none⟩ vs 0).run P w = .ok () w'/\RH P Fr ρ h' w'/\v=u:=by
 obtain ⟨m,es,t,hg,hh⟩:=j9 hh
 obtain ⟨hle,hh⟩:=dB hh
 have hle:o+c<=m:=dQ hle
 obtain ⟨rfl,rfl,_⟩:=cA hh
 obtain ⟨q,w',g1,g2,g3⟩:=hR.sts (o:=o) hg hl nV (by rw [hc]; exact hle)
 exact ⟨q,w',g1,g2,g3,rfl⟩
theorem Ay (k:Nat):RV ρ (goN k) (goInt (k:Int)):=rfl
theorem WZ (a b:Nat):Ak a b=Nat.min a b:=by
 unfold Ak
 cases h:Nat.ble a b with
 | true=>exact (Nat.min_eq_left (dQ h)).symm
 | false=>
  have:¬ a<=b:=λ hh=>by rw [Nat.ble_eq_true_of_le hh] at h; cases h
  exact (Nat.min_eq_right (Nat.le_of_not_le this)).symm
theorem W0 {es:Nat} {y:V} {x:Value} {k:V->Nat->OR} (hR:RH P Fr ρ h w) (hy:RV ρ y x) (hh:ahB h es y k = .ok v h' n') :
  ∃ u gK news,k u gK = .ok v h' n'/\iB ρ u news/\(∀ z∈news,fe z=true)/\(∀ w,(Builtin.lenOf x).run P w = .ok gK w)/\news.length=gK * es/\∀ j,j<=gK->(Builtin.firstCells es j x).run P w = .ok (List.toArray (news.take (j * es))) w:=by
 have sl:∀ {b o l cap:Nat} {q:Pl},ρ b=some q->Jv h b o l es k = .ok v h' n'->∃ u gK news,k u gK = .ok v h' n'/\iB ρ u news/\(∀ z∈news,fe z=true)/\
   (∀ w,(Builtin.lenOf (.slice (some ⟨q.k,q.b+o,none⟩) l cap)).run P w = .ok gK w)/\news.length=gK * es/\∀ j,j<=gK->(Builtin.firstCells es j (.slice (some ⟨q.k,q.b+o,none⟩) l cap)).run P w = .ok (List.toArray (news.take (j * es))) w:=by
  intro b o l cap q hb hh
  obtain ⟨u,news,h1,h2,h3,h4,h5⟩:=LV hR hb hh
  refine ⟨u,l,news,h1,h2,h3,λ _=>rfl,h4,λ j hj=>?_⟩
  have hle:j * es<=l * es:=Nat.mul_le_mul_right _ hj
  exact run_firstCells_some w es j _ l cap (news.take (j * es)) (by rw [List.length_take]; omega) (λ i x hx=>by
   have hi:i<j * es:=by
    have:=(List.getElem?_eq_some_iff.1 hx).1
    rw [List.length_take] at this; omega
   rw [List.getElem?_take_of_lt hi] at hx
   rw [dK]; exact h5 i x hx)
 have nl:∀ {a:Option Addr} {cap:Nat},k .e 0 = .ok v h' n'->∃ u gK news,k u gK = .ok v h' n'/\iB ρ u news/\(∀ z∈news,fe z=true)/\(∀ w,(Builtin.lenOf (.slice a 0 cap)).run P w = .ok gK w)/\news.length=gK * es/\
   ∀ j,j<=gK->(Builtin.firstCells es j (.slice a 0 cap)).run P w = .ok (List.toArray (news.take (j * es))) w:=by
  intro a cap hh
  refine ⟨.e,0,[],hh,(show iB ρ .e [] from rfl),λ z hz=>by simp at hz,λ _=>rfl,by simp,λ j hj=>?_⟩
  obtain rfl:j=0:=by omega
  cases a <;> simp [Builtin.firstCells,loadCells,loadCellsFrom]
 rcases Av hh with hh | ⟨rfl,hh⟩ | ⟨b,o,l,d,rfl,hh⟩ | ⟨b,o,l,c,rfl,hh⟩ | ⟨rfl,hh⟩
 ·cases hh
 ·obtain rfl:x = .slice none 0 0:=hy
  exact nl hh
 ·obtain ⟨q,hb,_,rfl⟩:=hy
  exact sl hb hh
 ·obtain ⟨q,hb,_,rfl⟩:=hy
  exact sl hb hh
 obtain ⟨a,c,rfl⟩:=hy
 exact nl hh
theorem ah9 {T E es by' tx R:Nat} {z:Option Nat} {p q:Oq} {x y:Value} (hf:cT P T=some (E,es,by',z)) (hR:RH P Fr ρ h w) (hx:RV ρ (ek e p) x) (hy:RV ρ (ek e q) y) (hh:aaA e h n es p q = .ok v h' n') :
  gd P (Builtin.copy_ #[T,tx] R [x,y].toArray) w (jV P Fr ρ v h'):=by
 obtain ⟨hu,inf,hi,iN,_,_⟩:=dz hf
 obtain ⟨u,gK,news,hh,hl,nV,hlen,Dp,hfc⟩:=W0 hR hy hh
 have go:∀ {l cap:Nat} {a:Option Addr} {w':World},(match a with | some a=>(storeCells a (news.take (Nat.min gK l * es)) 0).run P w = .ok () w' | none=>w'=w)->
   (Builtin.copy_ #[T,tx] R [.slice a l cap,y].toArray).run P w = .ok (goInt (Nat.min gK l:Nat)) w':=by
  intro l cap a w' hw
  have:=hfc (Nat.min gK l) (Nat.min_le_left _ _)
  cases a with
  | none=>subst hw; simp [Builtin.copy_,run_underlying hu,hlen,sizeOf,typeInfo,hi,iN,this]
  | some a=>
   have hw:(storeCells a (news.take (Nat.min gK l * es)) 0).run P w = .ok () w':=hw
   simp [Builtin.copy_,run_underlying hu,hlen,sizeOf,typeInfo,hi,iN,this,hw]
 have sl:∀ {b o l cap:Nat} {q:Pl},ρ b=some q->Al h n b o (Nat.mul (Ak gK l) es) (Ah u (Nat.mul (Ak gK l) es)) (goN (Ak gK l)) = .ok v h' n'->gd P (Builtin.copy_ #[T,tx] R [.slice (some ⟨q.k,q.b+o,none⟩) l cap,y].toArray) w (jV P Fr ρ v h'):=by
  intro b o l cap q hb hh
  have hmin:Nat.min gK l * es<=gK * es:=Nat.mul_le_mul_right _ (Nat.min_le_left _ _)
  rw [WZ] at hh
  obtain ⟨q',w',g1,g2,g3,g4⟩:=GJ hR (hl.take (Nat.min gK l * es)) (λ z hz=>nV z (List.mem_of_mem_take hz)) (by rw [List.length_take,Dp]; show min (Nat.min gK l * es) (gK * es)=Nat.min gK l * es; omega) hh
  rw [hb] at g1; cases g1
  exact ⟨_,w',go (a:=some ⟨q.k,q.b+o,none⟩) g2,ρ,Le.refl _,g3,by rw [g4]; exact Ay _⟩
 rcases Av hh with hh | ⟨e1,hh⟩ | ⟨b,o,l,d,e1,hh⟩ | ⟨b,o,l,c,e1,hh⟩ | ⟨e1,hh⟩
 ·cases hh
 ·obtain ⟨rfl,rfl,_⟩:=cA hh
  rw [e1] at hx
  obtain rfl:x = .slice none 0 0:=hx
  exact ⟨_,w,go (a:=none) rfl,hR.post (by rw [show Nat.min gK 0=0 from Nat.min_zero _]; exact Ay 0)⟩
 ·rw [e1] at hx
  obtain ⟨q,hb,_,rfl⟩:=hx
  exact sl hb hh
 ·rw [e1] at hx
  obtain ⟨q,hb,_,rfl⟩:=hx
  exact sl hb hh
 obtain ⟨rfl,rfl,_⟩:=cA hh
 rw [e1] at hx
 obtain ⟨a,c,rfl⟩:=hx
 refine ⟨_,w,go (a:=some a) ?_,hR.post (by rw [show Nat.min gK 0=0 from Nat.min_zero _]; exact Ay 0)⟩
 rw [show Nat.min gK 0=0 from Nat.min_zero _,Nat.zero_mul,List.take_zero]; rfl
theorem aia {T E es by' R:Nat} {z:V} {p:Oq} {x:Value} (hf:cT P T=some (E,es,by',some es)) (hz:m5 P E=some z) (h1:1<=es) (hR:RH P Fr ρ h w) (hx:RV ρ (ek e p) x) (hh:aaB e h n es z p = .ok v h' n') :
  gd P (Builtin.clear_ #[T] R [x].toArray) w (jV P Fr ρ v h'):=by
 obtain ⟨hu,inf,hi,iN,_,yZ⟩:=dz hf
 obtain ⟨zv,qc,z1,z2,z3⟩:=qN (ρ:=ρ) hz
 obtain ⟨hc,hh⟩:=dB hh
 have hc:=fj hc
 have DW:zv.cells.toList.length=es:=by rw [<- z2.len]; exact hc
 have e3:∀ k,(Builtin.zeroCells zv.cells k).toList=(List.replicate k zv.cells.toList).flatten:=by
  intro k
  have:=tC zv.cells.toList k (by omega)
  rw [<- this,Array.toArray_toList,Array.length_toList]
  rfl
 have nil:∀ {a:Option Addr} {l c:Nat} ,a=none\/l=0->(Builtin.clear_ #[T] R [.slice a l c].toArray).run P w = .ok undef w:=by
  intro a l c hal
  rcases hal with rfl | rfl
  ·simp [Builtin.clear_,run_underlying hu]; rfl
  ·cases a <;> (simp [Builtin.clear_,run_underlying hu]; rfl)
 have sl:∀ {b o l cap:Nat} {q:Pl},ρ b=some q->Al h n b o (Nat.mul l es) (yM z l) Ge = .ok v h' n'->gd P (Builtin.clear_ #[T] R [.slice (some ⟨q.k,q.b+o,none⟩) l cap].toArray) w (jV P Fr ρ v h'):=by
  intro b o l cap q hb hh
  obtain ⟨q',w',g1,g2,g3,g4⟩:=GJ hR (z2.rep l) (wh z3) (by simp [DW]) hh
  rw [hb] at g1; cases g1
  refine ⟨undef,w',?_,ρ,Le.refl _,g3,by rw [g4]; exact lB ρ⟩
  cases l with
  | zero=>
   have:w'=w:=by
    have g2:(storeCells ⟨q.k,q.b+o,none⟩ (List.replicate 0 zv.cells.toList).flatten 0).run P w = .ok () w':=g2
    simp [storeCells] at g2
    exact g2.symm
   rw [this]; exact nil (.inr rfl)
  | succ l=>
   rw [<- e3] at g2
   have IP:=bM z1 w
   simp [Builtin.clear_,run_underlying hu,IP]
   rw [g2]
   rfl
 rcases Av hh with hh | ⟨e1,hh⟩ | ⟨b,o,l,d,e1,hh⟩ | ⟨b,o,l,c,e1,hh⟩ | ⟨e1,hh⟩
 ·cases hh
 ·obtain ⟨rfl,rfl,_⟩:=cA hh
  rw [e1] at hx
  obtain rfl:x = .slice none 0 0:=hx
  exact ⟨_,w,nil (.inl rfl),hR.post (lB ρ)⟩
 ·rw [e1] at hx
  obtain ⟨q,hb,_,rfl⟩:=hx
  exact sl hb hh
 ·rw [e1] at hx
  obtain ⟨q,hb,_,rfl⟩:=hx
  exact sl hb hh
 obtain ⟨rfl,rfl,_⟩:=cA hh
 rw [e1] at hx
 obtain ⟨a,c,rfl⟩:=hx
 exact ⟨_,w,nil (.inr rfl),hR.post (lB ρ)⟩
theorem aib {S D E by':Nat} {p:Oq} {x:Value} (h1:P.underlying S=some .string) (h2:P.underlying D=some (.slice E)) (h3:P.underlying E=some (.int .u8)) (hR:RH P Fr ρ h w) (hx:RV ρ (ek e p) x)
  (hh:aap e h n p = .ok v h' n'):gd P (convert S D x) w (jV P Fr ρ v h'):=by
 obtain ⟨c,l,e1,hh⟩:=WQ hh
 obtain ⟨hc,hh⟩:=dB hh
 obtain ⟨hn,hh⟩:=lC hh
 obtain ⟨rfl,rfl,_⟩:=cA hh
 rw [e1] at hx
 obtain rfl:x = .string (strOf c l):=hx
 have hr:=Go.Lib.run_convert_string_bytes (P:=P) w S D E (strOf c l) h1 h2 h3
 rw [ed] at hr
 have FB:=grownCap_ge w l 0 E
 have le:=qJ (q:=⟨w.heap.size,0,grownCap w l 0 E,1⟩) (hR.fresh n hn)
 have LW:=Go.Lib.bytesWorld_at_new w E (strOf c l)
 have acS:Go.Lib.bytesCells w E (strOf c l)=List.toArray (byteCells (strOf c l)++List.replicate (grownCap w l 0 E - l) (.int .u8 0)):=by
  unfold Go.Lib.bytesCells byteCells
  rw [ed]
  apply Array.ext'
  simp
 have N5:(byteCells (strOf c l)).length=l:=by rw [byteCells_length,ed]
 have hlen:(byteCells (strOf c l)++List.replicate (grownCap w l 0 E - l) (Value.int .u8 0)).length=grownCap w l 0 E:=by rw [List.length_append,N5,List.length_replicate]; omega
 rw [acS] at LW
 have WW:RT ρ (tr (Aj c l 0) 0 .lf) 0 (byteCells (strOf c l)):=RT.WM (by rw [uv]; exact ym c l 0) .lf 0
 have hRn:RH P Fr (ext ρ n ⟨w.heap.size,0,grownCap w l 0 E,1⟩) (eL h (.c (Nat.mul l 1) 1 (tr (Aj c l 0) 0 .lf)) n) (Go.Lib.bytesWorld w E (strOf c l)):=by
  refine hR.add hn (λ b q' k1 k2=>?_) ?_ (λ r o' hr ho=>?_) LW ⟨_,E,_,rfl,λ j hj=>?_,rfl,by rw [hlen]; show 0+grownCap w l 0 E * 1<=grownCap w l 0 E; omega,λ _=>by show l * 1<=grownCap w l 0 E * 1; omega,by rw [hlen]; show 0+l * 1<=grownCap w l 0 E; omega,λ i hi=>?_⟩
  ·obtain ⟨q2,o2,j1,j2,_⟩:=hR.lv b k1
   rw [k2] at j1; cases j1
   have:=(Array.getElem?_eq_some_iff.1 j2).1
   show q'.k≠w.heap.size
   omega
  ·cases hF:Fr.f w.heap.size with
   | none=>rfl
   | some o'=>
    have:=hR.qf _ _ hF
    have:=(Array.getElem?_eq_some_iff.1 this).1
    omega
  ·have:=(Array.getElem?_eq_some_iff.1 ho).1
   rw [Go.Lib.bytesWorld_at_old w E _ r this]; exact ho
  ·dsimp only
   rw [List.size_toArray]
   omega
  ·have hi:i<l:=by simpa using hi
   have hg:(byteCells (strOf c l))[i]? = some (byteCells (strOf c l))[i]:=List.getElem?_eq_getElem (by omega)
   refine ⟨(byteCells (strOf c l))[i],?_,?_,?_⟩
   ·show (byteCells (strOf c l)++_)[0+i]? = _
    rw [Nat.zero_add,List.getElem?_append_left (by omega),hg]
   ·have:=WW i _ hg
    rw [Nat.zero_add] at this
    exact this.mono le
   ·obtain ⟨b,_,hb⟩:=List.mem_map.1 (List.mem_of_getElem? hg)
    rw [<- hb]; rfl
 exact ⟨_,_,hr,_,le,hRn,⟨_,jw _ _ _,⟨by simp,by show l+0<=grownCap w l 0 E; omega⟩,rfl⟩⟩
theorem aic {g:Nat} {l:OL} {xs:List Value} (hR:RH P Fr ρ h w) (hx:iB ρ (UY e l) xs) (hh:aar e h n g l = .ok v h' n'):jV P Fr ρ v h' (.func (.func g) #[] xs.toArray) w:=by
 obtain ⟨rfl,rfl,_⟩:=cA hh
 exact hR.post ⟨xs,hx,rfl⟩
def kindOk (s:Bool) (d:TypeDesc):Prop:=match s,d with | false,.int _=>True | true,.string=>True | _,_=>False
theorem wj {s:Bool} {d:TypeDesc} (hd:kindOk s d) {x y:V} {a b:Value} {k:Bool->OR} (hx:RV ρ x a) (hy:RV ρ y b) (WY:yk s x y k = .ok v h' n') :
  ∃ r,k r = .ok v h' n'/\Instr.sameNow d a b=some r/\(r=true->Instr.sameBits 10000 b a=true):=by
 cases s with
 | false=>
  obtain ⟨t,i,rfl,LU⟩:=okI (show x.Jo .no _ = .ok v h' n' from WY)
  obtain ⟨t',i',rfl,WU⟩:=okI LU
  obtain ⟨ht,hh⟩:=dB WU
  obtain rfl:a = .int t i:=hx
  obtain rfl:b = .int t' i':=hy
  have:=Ap ht
  subst this
  cases d <;> first | exact hd.elim | skip
  refine ⟨_,hh,?_,λ hr=>?_⟩
  ·show (if t=t then some (i == i') else none)=_
   rw [if_pos rfl,tz]; rfl
  ·rw [tz] at hr
   have:=of_decide_eq_true hr
   subst this
   show (t == t && i == i)=true
   simp
 | true=>
  obtain ⟨t,i,rfl,LU⟩:=WQ (show x.D4 .no _ = .ok v h' n' from WY)
  obtain ⟨t',i',rfl,hh⟩:=WQ LU
  obtain rfl:a = .string (strOf t i):=hx
  obtain rfl:b = .string (strOf t' i'):=hy
  cases d <;> first | exact hd.elim | skip
  refine ⟨_,hh,?_,λ hr=>?_⟩
  ·show some (strOf t i == strOf t' i')=_
   rw [RC,nz]
  ·rw [nz] at hr
   have:=of_decide_eq_true hr
   show (strOf t' i' == strOf t i)=true
   rw [RC,this]; simp
theorem RN {s:Bool} {d:TypeDesc} (hd:kindOk s d) {x:V} {a:Value} (hx:RV ρ x a) {k0:OR} {k1:OK}:∀ {l:ML} {es:List MapEntry} {i:Nat},RM ρ l es->Gl s x l k0 k1 = .ok v h' n'->
  (k0 = .ok v h' n'/\Instr.findNow d a es i=some none)\/∃ u j y,k1 u = .ok v h' n'/\RV ρ u y/\Instr.findNow d a es i=some (some (j,y)):=by
 intro l
 induction l with
 | nil=>intro es i hm hh; obtain rfl:es=[]:=hm; exact .inl ⟨hh,rfl⟩
 | cons k u b r ih=>
  intro es i hm hh
  obtain ⟨en,mK,rfl,h1,h2,_,h4⟩:=hm
  obtain ⟨rr,hh,hs,_⟩:=wj hd hx h1 (show yk s x k (λ b=>dY b (k1 u) (Gl s x r k0 k1)) = .ok v h' n' from hh)
  cases rr with
  | true=>exact .inr ⟨u,i,en.val,hh,h2,by unfold Instr.findNow; rw [hs]⟩
  | false=>
   rcases ih (i:=i+1) h4 hh with ⟨g1,g2⟩ | ⟨u',j,y,g1,g2,g3⟩
   ·exact .inl ⟨g1,by unfold Instr.findNow; rw [hs]; exact g2⟩
   ·exact .inr ⟨u',j,y,g1,g2,by unfold Instr.findNow; rw [hs]; exact g3⟩
theorem W3 {s:Bool} {d:TypeDesc} (hd:kindOk s d) {x z:V} {a y:Value} (hx:RV ρ x a) (hz:RV ρ z y) {c:Nat}:∀ {l:ML} {es:List MapEntry} {i:Nat} {k1:Nat->ML->OR},RM ρ l es->acw s x z c l k1 = .ok v h' n'->
  ∃ c' l',k1 c' l' = .ok v h' n'/\((Instr.findNow d a es i=some none/\c'=c+1/\RM ρ l' (es++[⟨a,y,c⟩]))\/
   ∃ j en,Instr.findNow d a es i=some (some (i+j,en.val))/\es[j]? = some en/\Instr.sameBits 10000 en.key a=true/\c'=c/\RM ρ l' (es.modify j λ e=>{e with key:=a,val:=y})):=by
 intro l
 induction l with
 | nil=>intro es i k1 hm hh; obtain rfl:es=[]:=hm; exact ⟨c+1,_,hh,.inl ⟨rfl,rfl,⟨a,y,c⟩,[],rfl,hx,hz,rfl,rfl⟩⟩
 | cons k u b r ih=>
  intro es i k1 hm hh
  obtain ⟨en,mK,rfl,h1,h2,h3,h4⟩:=hm
  obtain ⟨rr,hh,hs,hb⟩:=wj hd hx h1 (show yk s x k (λ t=>dY t (k1 c (.cons x z b r)) (acw s x z c r λ c l=>k1 c (.cons k u b l))) = .ok v h' n' from hh)
  cases rr with
  | true=>
   refine ⟨c,_,hh,.inr ⟨0,en,by unfold Instr.findNow; rw [hs]; rfl,rfl,hb rfl,rfl,?_⟩⟩
   exact ⟨{en with key:=a,val:=y},mK,rfl,hx,hz,h3,h4⟩
  | false=>
   obtain ⟨c',l',g1,g2⟩:=ih (i:=i+1) h4 hh
   refine ⟨c',_,g1,?_⟩
   rcases g2 with ⟨g2,g3,g4⟩ | ⟨j,en',g2,g3,g4,g5,g6⟩
   ·exact .inl ⟨by unfold Instr.findNow; rw [hs]; exact g2,g3,⟨en,_,rfl,h1,h2,h3,g4⟩⟩
   ·refine .inr ⟨j+1,en',by unfold Instr.findNow; rw [hs]; rw [show i+(j+1)=i+1+j from by omega]; exact g2,by simpa using g3,g4,g5,⟨en,_,?_,h1,h2,h3,g6⟩⟩
    simp
theorem W4 {s:Bool} {d:TypeDesc} (hd:kindOk s d) {x:V} {a:Value} (hx:RV ρ x a):∀ {l:ML} {es:List MapEntry} {i:Nat} {k1:ML->OR},RM ρ l es->acx s x l k1 = .ok v h' n'->
  ∃ l',k1 l' = .ok v h' n'/\((Instr.findNow d a es i=some none/\RM ρ l' es)\/∃ j y,Instr.findNow d a es i=some (some (i+j,y))/\RM ρ l' (es.eraseIdx j)):=by
 intro l
 induction l with
 | nil=>intro es i k1 hm hh; obtain rfl:es=[]:=hm; exact ⟨_,hh,.inl ⟨rfl,rfl⟩⟩
 | cons k u b r ih=>
  intro es i k1 hm hh
  obtain ⟨en,mK,rfl,h1,h2,h3,h4⟩:=hm
  obtain ⟨rr,hh,hs,hb⟩:=wj hd hx h1 (show yk s x k (λ t=>dY t (k1 r) (acx s x r λ l=>k1 (.cons k u b l))) = .ok v h' n' from hh)
  cases rr with
  | true=>exact ⟨_,hh,.inr ⟨0,en.val,by unfold Instr.findNow; rw [hs]; rfl,h4⟩⟩
  | false=>
   obtain ⟨l',g1,g2⟩:=ih (i:=i+1) h4 hh
   refine ⟨_,g1,?_⟩
   rcases g2 with ⟨g2,g4⟩ | ⟨j,y,g2,g6⟩
   ·exact .inl ⟨by unfold Instr.findNow; rw [hs]; exact g2,⟨en,_,rfl,h1,h2,h3,g4⟩⟩
   ·exact .inr ⟨j+1,y,by unfold Instr.findNow; rw [hs]; rw [show i+(j+1)=i+1+j from by omega]; exact g2,⟨en,_,by simp,h1,h2,h3,g6⟩⟩
theorem mC {s:Bool} {d:TypeDesc} (hd:kindOk s d) {kt:TypeId} (hk:P.underlying kt=some d) {em:Bool} {x:Value}:pr P (Instr.checkKey em 10000 kt x)=some ():=by
 unfold Instr.checkKey
 rw [aK,aM hk]
 simp only [Option.bind_some]
 cases s <;> cases d <;> first | exact hd.elim | rfl
theorem oH {d:TypeDesc} {kt:TypeId} (hk:P.underlying kt=some d) {a:Value} {es:List MapEntry} {r:Option (Nat × Value)} (hf:Instr.findNow d a es 0=some r):pr P (Instr.findKey kt a es)=some r:=by
 unfold Instr.findKey
 rw [aK,aM hk]
 simp only [Option.bind_some,hf]
 rfl
theorem Eg {c:Nat} {l:ML} {b:Nat} (hb:dH h b = .m c l):live (dH h b):=by rw [hb]; trivial
theorem RH.acT {b c:Nat} {l:ML} (hR:RH P Fr ρ h w) (hb:dH h b = .m c l):∃ q o,ρ b=some q/\w.heap[q.k]? = some o/\ahE ρ c l o:=by
 obtain ⟨q,o,h1,h2,h3⟩:=hR.lv b (Eg hb)
 rw [hb] at h3
 exact ⟨q,o,h1,h2,h3⟩
theorem RH.map {b c:Nat} {l:ML} (hR:RH P Fr ρ h w) (hb:dH h b = .m c l) (hc:c<4294967296):∃ q es,ρ b=some q/\w.heap[q.k]? = some (.map (List.toArray es) c)/\RM ρ l es:=by
 obtain ⟨q,o,h1,h2,h3⟩:=hR.acT hb
 rcases h3 with ⟨_,es,rfl,h4⟩ | ⟨h4,_⟩
 ·exact ⟨q,es,h1,h2,h4⟩
 omega
theorem aid:∀ {l:ML} {es:List MapEntry},RM ρ l es->NQ l=es.length:=by
 intro l
 induction l with
 | nil=>intro es hm; obtain rfl:es=[]:=hm; rfl
 | cons k u b r ih=>intro es ⟨en,mK,h1,_,_,_,h4⟩; rw [h1]; show Nat.succ (NQ r)=_; rw [ih h4]; rfl
theorem aie:∀ {l:ML} {sl:List (ByteArray × Int)},RMs l sl->NQ l=sl.length:=by
 intro l
 induction l with
 | nil=>intro es hm; obtain rfl:es=[]:=hm; rfl
 | cons k u b r ih=>intro es ⟨_,_,_,mK,_,_,h1,h4⟩; rw [h1]; show Nat.succ (NQ r)=_; rw [ih h4]; rfl
theorem RO {s:Bool} {x:V} {k0:OR} {k1:OK}:∀ {l:ML} {sl:List (ByteArray × Int)},RMs l sl->Gl s x l k0 k1 = .ok v h' n'->
  (k0 = .ok v h' n'/\∀ p∈sl,∃ n m,x = .s n m/\p.1≠strOf n m)\/∃ n m p,x = .s n m/\p∈sl/\p.1=strOf n m/\k1 (.i .i64 p.2) = .ok v h' n':=by
 intro l
 induction l with
 | nil=>intro sl hm hh; obtain rfl:sl=[]:=hm; exact .inl ⟨hh,λ p hp=>(by cases hp)⟩
 | cons k u b r ih=>
  intro sl hm hh
  obtain ⟨n1,m1,x1,sl',rfl,rfl,rfl,h4⟩:=hm
  cases s with
  | false=>
   obtain ⟨t,i,rfl,LU⟩:=okI (show x.Jo .no _ = .ok v h' n' from hh)
   cases LU
  | true=>
   have WY:yk true x (.s n1 m1) (λ b=>dY b (k1 (.i .i64 x1)) (Gl true x r k0 k1)) = .ok v h' n':=hh
   obtain ⟨n2,m2,rfl,LU⟩:=WQ (show x.D4 .no _ = .ok v h' n' from WY)
   obtain ⟨rr,WU,hs,_⟩:=wj (ρ:=λ _=>none) (s:=true) (d:=.string) trivial (show RV (λ _=>none) (.s n2 m2) (.string (strOf n2 m2)) from rfl) (show RV (λ _=>none) (.s n1 m1) (.string (strOf n1 m1)) from rfl) WY
   obtain ⟨r',Fa,aif⟩:=MapKept.sameNow_of_keys (d:=.string) (a:=.string (strOf n2 m2)) (b:=.string (strOf n1 m1)) (by simp [MapKept.IsKey]) (by simp [MapKept.IsKey])
   rw [hs] at Fa; obtain rfl:=Option.some.inj Fa
   cases rr with
   | true=>
    have:=aif.1 rfl
    injection this with this
    exact .inr ⟨n2,m2,_,rfl,List.mem_cons_self,this.symm,WU⟩
   | false=>
    have iS:strOf n1 m1≠strOf n2 m2:=λ e=>by have:=aif.2 (by rw [e]); cases this
    rcases ih h4 WU with ⟨g1,g2⟩ | ⟨n,m,p,g1,g2,g3,g4⟩
    ·refine .inl ⟨g1,λ p hp=>?_⟩
     rcases List.mem_cons.1 hp with rfl | hp
     ·exact ⟨n2,m2,rfl,iS⟩
     ·exact g2 p hp
    ·exact .inr ⟨n,m,p,g1,List.mem_cons_of_mem _ g2,g3,g4⟩
theorem run_get {r:Nat} {o:Obj} (hw:w.heap[r]? = some o) (ho:∀ c t f,o≠.cells c t f):(getObj r).run P w = .ok o w:=by
 show (Sem.getObj r .pure).run P w=_
 unfold Sem.run
 rw [hw]
 cases o <;> first | rfl | exact absurd rfl (ho _ _ _)
def GK (w:World) (r:Nat) (o:Obj):World:={w with heap:=w.heap.setIfInBounds r o}
theorem run_set {r:Nat} {o o':Obj} (hw:w.heap[r]? = some o) (ho:∀ c t f,o≠.cells c t f):(setObj r o').run P w = .ok () (GK w r o'):=by
 show (Sem.setObj r o' (.pure ())).run P w=_
 unfold Sem.run
 rw [hw]
 cases o <;> first | rfl | exact absurd rfl (ho _ _ _)
theorem W5 {r:Nat} {o o':Obj} (hw:w.heap[r]? = some o):(GK w r o').heap[r]? = some o':=by
 have:=(Array.getElem?_eq_some_iff.1 hw).1
 unfold GK
 rw [Array.getElem?_setIfInBounds_self_of_lt this]
theorem W6 {r k:Nat} {o' o:Obj} (hk:k≠r) (hw:w.heap[k]? = some o):(GK w r o').heap[k]? = some o:=by
 unfold GK
 rw [Array.getElem?_setIfInBounds_ne (Ne.symm hk)]; exact hw
theorem RH.W7 {b:Nat} {q:Pl} {hb:HB} {o o':Obj} (hR:RH P Fr ρ h w) (hl:live (dH h b)) (hq:ρ b=some q) (ho:w.heap[q.k]? = some o) (hB:Body P ρ hb q o') (hz:hb≠.z:=by exact λ hh=>by cases hh) :
  RH P Fr ρ (eL h hb b) (GK w q.k o'):=hR.kV hl hq (W5 ho) hB (λ r x hr hx=>W6 hr hx) hz ⟨rfl,rfl,rfl⟩
theorem GL {T:TypeId} {z:V} (hz:zeroV P T=some z):∃ y,pr P (zeroValue T)=some y/\RV ρ z y:=by
 have key:∀ {zv:Value},cH P T=some (some zv)->pr P (zeroValue T)=some zv:=fun {zv} qc=>by
  unfold cH at qc
  cases hi:P.info? T with
  | none=>rw [hi] at qc; cases qc
  | some inf=>
   rw [hi] at qc
   simp only [Option.map_some,Option.some.injEq] at qc
   unfold zeroValue; rw [aK,fS hi]; simp only [Option.bind_some,qc]; rfl
 unfold zeroV at hz
 split at hz
 ·rename_i c hf
  simp only [Option.map_eq_some_iff] at hz
  obtain ⟨l,h1,rfl⟩:=hz
  exact ⟨_,key hf,c.toList,qI h1,su h1,by simp⟩
 ·rename_i zv _ hf
  exact ⟨_,key hf,lX hz⟩
 cases hz
end
section
variable {P:Program} {Fr:lO} {ρ:Rn} {h h':Hp} {w:World} {v:V} {n n':Nat} {e:En} {e':Env}
theorem aih {T:TypeId} (hR:RH P Fr ρ h w) (hh:aas h n = .ok v h' n'):gd P (Instr.makeMap T none) w (jV P Fr ρ v h'):=by
 obtain ⟨hn,hh⟩:=lC hh
 obtain ⟨rfl,rfl,_⟩:=cA hh
 have le:=qJ (q:=⟨w.heap.size,0,0,0⟩) (hR.fresh n hn)
 exact ⟨.map (some w.heap.size),push w (.map #[] 0),rfl,_,le,hR.new hn rfl rfl (.inl ⟨by decide,[],rfl,rfl⟩),⟨_,jw _ _ _,rfl⟩⟩
theorem RQ {T kt et:TypeId} {s ok:Bool} {d:TypeDesc} {z:V} {p q:Oq} {x y:Value} (hu:P.underlying T=some (.map kt et)) (hk:P.underlying kt=some d) (hd:kindOk s d) (hz:zeroV P et=some z)
  (hR:RH P Fr ρ h w) (hx:RV ρ (ek e p) x) (hy:RV ρ (ek e q) y) (hh:Rq e h n s z ok p q = .ok v h' n'):q7 P (Instr.lookup T x y ok) w λ y=>jV P Fr ρ v h' y w:=by
 obtain ⟨r,e1,hh⟩:=okM hh
 obtain ⟨c,l,hb,hh⟩:=acE hh
 rw [e1] at hx
 obtain ⟨qq,hq,rfl⟩:=hx
 obtain ⟨q2,o2,g1,g2,g3⟩:=hR.acT hb
 rw [hq] at g1; cases g1
 have fin:∀ {b:Bool} {u:V} {yy:Value} {vv:Value × Bool},LM h n ok b u = .ok v h' n'->RV ρ u yy->vv=(yy,b)->jV P Fr ρ v h' (if ok then .tuple #[vv.1,.bool vv.2] else vv.1) w:=by
  intro b u yy vv hh hv he
  subst he
  cases ok with
  | true=>obtain ⟨rfl,rfl,_⟩:=cA (show OR.ok (.t (.c u (.c (.b b) .e))) h n=_ from hh); exact hR.post ⟨[yy,.bool b],⟨_,_,rfl,hv,_,_,rfl,rfl,rfl⟩,rfl⟩
  | false=>
   have hh:u.fc (λ v=>.ok v h n) = .ok v h' n':=hh
   rw [V.ri] at hh
   obtain ⟨rfl,rfl,_⟩:=cA hh
   exact hR.post hv
 rcases g3 with ⟨_,es,rfl,g3⟩ | ⟨_,sl,g3,es,ck,rfl,g4,g5⟩
 case inr=>
  have sy:=run_get (P:=P) g2 (λ _ _ _ hh=>by cases hh)
  obtain ⟨zy,z1,z2⟩:=GL (ρ:=ρ) hz
  have aaL:(∀ e∈es.toList,e.key≠y)->(Instr.findNow d y es.toList 0=some none)->LM h n ok false z = .ok v h' n'->q7 P (Instr.lookup T (.map (some qq.k)) y ok) w λ y=>jV P Fr ρ v h' y w:=λ _ hf h1=>
   ⟨_,by simp [Instr.lookup,run_underlying hu,sy,bM (mC hd hk) w,bM (oH hk hf) w,bM z1 w],fin (vv:=(zy,false)) h1 z2 rfl⟩
  have W8:∀ e∈es.toList,∃ p∈sl,e.key = .string p.1/\e.val = .int .i64 p.2:=λ e he=>by
   have:(e.key,e.val)∈sl.map (λ p=>(Value.string p.1,Value.int .i64 p.2)):=g5.mem_iff.1 (List.mem_map.2 ⟨e,he,rfl⟩)
   obtain ⟨p,hp,hk⟩:=List.mem_map.1 this
   simp only [Prod.mk.injEq] at hk
   exact ⟨p,hp,hk.1.symm,hk.2.symm⟩
  have aii:∀ p∈sl,∃ e∈es.toList,e.key = .string p.1/\e.val = .int .i64 p.2:=λ p hp=>by
   have:(Value.string p.1,Value.int .i64 p.2)∈es.toList.map λ e=>(e.key,e.val):=g5.mem_iff.2 (List.mem_map.2 ⟨p,hp,rfl⟩)
   obtain ⟨e,he,hk⟩:=List.mem_map.1 this
   simp only [Prod.mk.injEq] at hk
   exact ⟨e,he,hk⟩
  cases sl with
  | nil=>
   have h0:es.toList=[]:=by have:=g5.length_eq; simpa using this
   have hl:l = .nil:=by cases l with
    | nil=>rfl
    | cons _ _ _ _=>obtain ⟨_,_,_,_,_,_,h9,_⟩:=g3; cases h9
   subst hl
   exact aaL (by rw [h0]; simp) (by rw [h0]; rfl) hh
  | cons p0 sl'=>
   have an6:∃ n1 m1,ek e q = .s n1 m1/\s=true:=by
    cases l with
    | nil=>cases g3
    | cons k u b r=>
     obtain ⟨n1,m1,x1,_,rfl,_,_,_⟩:=g3
     cases s with
     | false=>obtain ⟨t,i,_,LU⟩:=okI (show (ek e q).Jo .no _ = .ok v h' n' from hh); cases LU
     | true=>obtain ⟨n2,m2,e2,_⟩:=WQ (show (ek e q).D4 .no _ = .ok v h' n' from hh); exact ⟨n2,m2,e2,rfl⟩
   obtain ⟨n1,m1,RU,rfl⟩:=an6
   rw [RU] at hy
   obtain rfl:y = .string (strOf n1 m1):=hy
   obtain rfl:d = .string:=by cases d <;> first | rfl | exact hd.elim
   have Ps:∀ x∈es.toList,MapKept.IsKey .string x.key:=λ x hx=>by obtain ⟨p,_,e1,_⟩:=W8 x hx; rw [e1]; simp [MapKept.IsKey]
   have spec:=MapKept.findNow_spec (d:=.string) (k:=.string (strOf n1 m1)) (by simp [MapKept.IsKey]) es.toList 0 Ps
   rcases RO g3 hh with ⟨h1,h2⟩ | ⟨n2,m2,p,h2,h3,h4,h5⟩
   ·have iS:∀ e∈es.toList,e.key≠.string (strOf n1 m1):=λ e he hk=>by
     obtain ⟨p,hp,e1,_⟩:=W8 e he
     obtain ⟨n3,m3,e3,e4⟩:=h2 p hp
     rw [RU] at e3; injection e3 with e5 e6; subst e5; subst e6
     rw [e1] at hk; injection hk with hk
     exact e4 hk
    rcases spec with ⟨s1,_⟩ | ⟨j,e,_,s2,s3⟩
    ·exact aaL iS s1 h1
    ·exact absurd s3 (iS e (List.mem_of_getElem? s2))
   ·rw [RU] at h2; injection h2 with e5 e6; subst e5; subst e6
    obtain ⟨e0,he0,k1,k2⟩:=aii p h3
    rcases spec with ⟨_,s2⟩ | ⟨j,e,s1,s2,s3⟩
    ·exact absurd (k1.trans (by rw [h4])) (s2 e0 he0)
    ·have he:=List.mem_of_getElem? s2
     have hee:e=e0:=by
      obtain ⟨i,hi,rfl⟩:=List.getElem_of_mem he
      obtain ⟨j',hj,rfl⟩:=List.getElem_of_mem he0
      have:=(List.getElem_inj (i:=i) (j:=j') (h₀:=by simpa using hi) (h₁:=by simpa using hj) g4.2.2).1 (by simp only [List.getElem_map]; rw [s3,k1,h4])
      subst this; rfl
     subst hee
     rw [k2] at s1
     exact ⟨_,by simp [Instr.lookup,run_underlying hu,sy,bM (mC hd hk) w,bM (oH hk s1) w],fin (vv:=(.int .i64 p.2,true)) h5 rfl rfl⟩
 have sy:=run_get (P:=P) g2 (λ _ _ _ hh=>by cases hh)
 rcases RN (i:=0) hd hy g3 hh with ⟨h1,h2⟩ | ⟨u,j,yy,h1,h2,h3⟩
 ·obtain ⟨zy,z1,z2⟩:=GL (ρ:=ρ) hz
  exact ⟨_,by simp [Instr.lookup,run_underlying hu,sy,bM (mC hd hk) w,bM (oH hk h2) w,bM z1 w],fin (vv:=(zy,false)) h1 z2 rfl⟩
 exact ⟨_,by simp [Instr.lookup,run_underlying hu,sy,bM (mC hd hk) w,bM (oH hk h3) w],fin (vv:=(yy,true)) h1 h2 rfl⟩
theorem LX {T kt et:TypeId} {s:Bool} {d:TypeDesc} {p q r:Oq} {x y z:Value} (hu:P.underlying T=some (.map kt et)) (hk:P.underlying kt=some d) (hd:kindOk s d)
  (hR:RH P Fr ρ h w) (hx:RV ρ (ek e p) x) (hy:RV ρ (ek e q) y) (hz:RV ρ (ek e r) z) (hh:aav e h n s p q r = .ok v h' n'):BT P (Instr.mapUpdate T x y z) w λ w'=>jV P Fr ρ v h' undef w':=by
 obtain ⟨b,e1,hh⟩:=okM hh
 obtain ⟨c,l,hb,xw,hh⟩:=Gu hh
 rw [e1] at hx
 obtain ⟨qq,hq,rfl⟩:=hx
 obtain ⟨q2,es,g1,g2,g3⟩:=hR.map hb xw
 rw [hq] at g1; cases g1
 have sy:=run_get (P:=P) g2 (λ _ _ _ hh=>by cases hh)
 rw [V.ri] at hh
 obtain ⟨c',l',h1,h2⟩:=W3 (i:=0) hd hy hz g3 hh
 obtain ⟨Eh,h1⟩:=dB h1
 have Eh:=kz Eh
 obtain ⟨rfl,rfl,_⟩:=cA h1
 have key:∀ {o:Obj},Body P ρ (.m c' l') qq o->(Instr.mapUpdate T (.map (some qq.k)) y z).run P w = .ok () (GK w qq.k o)->BT P (Instr.mapUpdate T (.map (some qq.k)) y z) w λ w'=>jV P Fr ρ Ge (eL h (.m c' l') b) undef w':=
  λ hB hr=>⟨_,hr,ρ,Le.refl _,hR.W7 (Eg hb) hq g2 hB,lB ρ⟩
 rcases h2 with ⟨h2,rfl,h3⟩ | ⟨j,en,h2,h3,h4,rfl,h5⟩
 ·refine key (.inl ⟨Eh,_,rfl,h3⟩) ?_
  unfold Instr.mapUpdate
  rw [aZ (bM (aM hu) w)]
  dsimp only
  rw [aZ sy]
  dsimp only
  rw [aZ (bM (mC hd hk) w),aZ (bM (oH hk h2) w)]
  dsimp only
  rw [show (List.toArray es).push ⟨y,z,c⟩=List.toArray (es++[⟨y,z,c⟩]) from by simp]
  exact run_set g2 (λ _ _ _ hh=>by cases hh)
 refine key (.inl ⟨Eh,_,rfl,h5⟩) ?_
 unfold Instr.mapUpdate
 rw [aZ (bM (aM hu) w)]
 dsimp only
 rw [aZ sy]
 dsimp only
 rw [aZ (bM (mC hd hk) w),aZ (bM (oH hk h2) w)]
 dsimp only
 rw [Nat.zero_add]
 have W8:(Instr.keyThatStays ((((List.toArray es)[j]?).map (·.key)).getD y) y).run P w = .ok y w:=by
  rw [List.getElem?_toArray,h3]
  unfold Instr.keyThatStays
  show (if Instr.sameBits 10000 en.key y=true then _ else _:Sem Value).run P w=_
  rw [if_pos h4]; rfl
 rw [aZ W8]
 rw [show (List.toArray es).modify j (λ e=>{e with key:=y,val:=z})=List.toArray (es.modify j λ e=>{e with key:=y,val:=z}) from by simp]
 exact run_set g2 (λ _ _ _ hh=>by cases hh)
theorem aaM {T U R kt et:TypeId} {s:Bool} {d:TypeDesc} {p q:Oq} {x y:Value} (hu:P.underlying T=some (.map kt et)) (hk:P.underlying kt=some d) (hd:kindOk s d)
  (hR:RH P Fr ρ h w) (hx:RV ρ (ek e p) x) (hy:RV ρ (ek e q) y) (hh:aaw e h n s p q = .ok v h' n'):gd P (Builtin.delete_ #[T,U] R [x,y].toArray) w (jV P Fr ρ v h'):=by
 obtain ⟨b,e1,hh⟩:=okM hh
 obtain ⟨c,l,hb,xw,hh⟩:=Gu hh
 rw [e1] at hx
 obtain ⟨qq,hq,rfl⟩:=hx
 obtain ⟨q2,es,g1,g2,g3⟩:=hR.map hb xw
 rw [hq] at g1; cases g1
 have sy:=run_get (P:=P) g2 (λ _ _ _ hh=>by cases hh)
 obtain ⟨l',h1,h2⟩:=W4 (i:=0) hd hy g3 hh
 obtain ⟨rfl,rfl,_⟩:=cA h1
 rcases h2 with ⟨h2,h3⟩ | ⟨j,yy,h2,h3⟩
 ·have ml:=run_set (P:=P) (o':=.map (List.toArray es) c) g2 (λ _ _ _ hh=>by cases hh)
  refine ⟨undef,_,?_,ρ,Le.refl _,hR.W7 (Eg hb) hq g2 (.inl ⟨xw,_,rfl,h3⟩),lB ρ⟩
  simp [Builtin.delete_,run_underlying hu,sy,bM (mC hd hk) w,bM (oH hk h2) w,ml]
  rfl
 rw [Nat.zero_add] at h2
 have ml:=run_set (P:=P) (o':=.map (List.toArray (es.eraseIdx j)) c) g2 (λ _ _ _ hh=>by cases hh)
 refine ⟨undef,_,?_,ρ,Le.refl _,hR.W7 (Eg hb) hq g2 (.inl ⟨xw,_,rfl,h3⟩),lB ρ⟩
 simp [Builtin.delete_,run_underlying hu,sy,bM (mC hd hk) w,bM (oH hk h2) w,ml]
 rfl
theorem acV {T R kt et:TypeId} {p:Oq} {x:Value} (hu:P.underlying T=some (.map kt et)) (hR:RH P Fr ρ h w) (hx:RV ρ (ek e p) x) (hh:Gn e h n .map p = .ok v h' n') :
  q7 P (Builtin.len_ #[T] R [x].toArray) w λ y=>jV P Fr ρ v h' y w:=by
 obtain ⟨b,e1,hh⟩:=okM hh
 obtain ⟨c,l,hb,hh⟩:=acE hh
 obtain ⟨rfl,rfl,_⟩:=cA hh
 rw [e1] at hx
 obtain ⟨qq,hq,rfl⟩:=hx
 obtain ⟨q2,o2,g1,g2,g3⟩:=hR.acT hb
 rw [hq] at g1; cases g1
 have:∃ es ck,o2 = .map es ck/\es.size=NQ l:=by
  rcases g3 with ⟨_,es,rfl,g3⟩ | ⟨_,sl,g3,es,ck,rfl,g4,g5⟩
  ·exact ⟨_,_,rfl,by rw [aid g3]; simp⟩
  ·exact ⟨_,_,rfl,by rw [aie g3]; have:=g5.length_eq; simpa using this⟩
 obtain ⟨es,ck,rfl,hlen⟩:=this
 have sy:=run_get (P:=P) g2 (λ _ _ _ hh=>by cases hh)
 refine RB (y:=goInt (es.size:Int)) ?_ hR (show _=_ by rw [hlen]; rfl)
 simp [Builtin.len_,run_underlying hu,sy]
theorem aij {T kt et:TypeId} {p:Oq} {x:Value} (hu:P.underlying T=some (.map kt et)) (hR:RH P Fr ρ h w) (hx:RV ρ (ek e p) x) (hh:aax e h n p = .ok v h' n'):gd P (Instr.range T x) w (jV P Fr ρ v h'):=by
 obtain ⟨b,e1,hh⟩:=okM hh
 obtain ⟨c,l,hb,xw,hh⟩:=Gu hh
 obtain ⟨hn,hh⟩:=lC hh
 obtain ⟨rfl,rfl,_⟩:=cA hh
 rw [e1] at hx
 obtain ⟨qq,hq,rfl⟩:=hx
 obtain ⟨q2,es,g1,g2,g3⟩:=hR.map hb xw
 rw [hq] at g1; cases g1
 have sy:=run_get (P:=P) g2 (λ _ _ _ hh=>by cases hh)
 have le:=qJ (q:=⟨w.heap.size,0,0,0⟩) (hR.fresh n hn)
 refine ⟨.pointer (some ⟨w.heap.size,0,none⟩),push w (.mapIter (some qq.k) c #[] c),?_,_,le,hR.new hn rfl rfl ⟨rfl,qq,le _ _ hq,rfl⟩,⟨_,jw _ _ _,rfl⟩⟩
 simp [Instr.range,run_underlying hu,sy,push]
theorem LY {a b c d f r:Nat} (hb:dH h r = .it a b c d f):live (dH h r):=by rw [hb]; trivial
theorem RH.iter {r m c st b k c':Nat} {l:ML} (hR:RH P Fr ρ h w) (hb:dH h r = .it m c st b k) (hm:dH h m = .m c' l) (xw:c'<4294967296):∃ q qm es,ρ r=some q/\q.b=0/\ρ m=some qm/\w.heap[q.k]? = some (.mapIter (some qm.k) c (if st=0 then #[] else #[b]) k)/\
  w.heap[qm.k]? = some (.map (List.toArray es) c')/\RM ρ l es:=by
 obtain ⟨q,o,h1,h2,h3⟩:=hR.lv r (LY hb)
 rw [hb] at h3
 obtain ⟨h0,qm,h4,rfl⟩:=h3
 obtain ⟨q2,es,g1,g2,g3⟩:=hR.map hm xw
 rw [h4] at g1; cases g1
 exact ⟨q,qm,es,h1,h0,h4,h2,g2,g3⟩
theorem aik {p:Oq} {x:Value} (hR:RH P Fr ρ h w) (hx:RV ρ (ek e p) x) (hh:aaz e h n p = .ok v h' n'):q7 P (Instr.entry x) w λ y=>jV P Fr ρ v h' y w:=by
 obtain ⟨r,o,e1,hh⟩:=WR hh
 obtain ⟨ho,hh⟩:=dB hh
 have ho:=fj ho
 obtain ⟨m,c,st,b,k,hb,hh⟩:=ahM hh
 obtain ⟨c',l,hm,xw,hh⟩:=Gu hh
 obtain ⟨q,qm,es,g1,g0,g2,g3,g4,g5⟩:=hR.iter hb hm xw
 rw [e1] at hx
 obtain ⟨q',hq,rfl⟩:=hx
 rw [g1] at hq; cases hq
 subst ho
 rw [g0]
 have JD:=run_get (P:=P) g3 (λ _ _ _ hh=>by cases hh)
 have RW:=run_get (P:=P) g4 (λ _ _ _ hh=>by cases hh)
 unfold WJ at hh
 cases l with
 | nil=>cases hh
 | cons kk u b' r'=>
  cases r' with
  | cons _ _ _ _=>cases hh
  | nil=>
   obtain ⟨en,mK,rfl,h1,h2,h3,h4⟩:=g5
   obtain rfl:mK=[]:=h4
   obtain ⟨hc,hh5⟩:=dB (show dY (dD (Nat.beq st 1) (dD (Nat.beq c' k) (Nat.beq b b'))) _ .no = .ok v h' n' from hh)
   obtain ⟨c1,hc⟩:=dI hc
   obtain ⟨c2,c3⟩:=dI hc
   have c1:=fj c1
   have c2:=fj c2
   have c3:=fj c3
   obtain ⟨e1',e2',_⟩:=cA hh5
   subst c1; subst c2; subst c3; subst e1'; subst e2'
   refine RB (y:=.tuple #[en.key,en.val]) ?_ hR ⟨[en.key,en.val],⟨_,_,rfl,h1,_,_,rfl,h2,rfl⟩,rfl⟩
   subst h3
   simp [Instr.entry,JD,RW]
theorem ail {T:TypeId} {p:Oq} {x:Value} (hR:RH P Fr ρ h w) (hx:RV ρ (ek e p) x) (hh:aay e h n p = .ok v h' n'):gd P (Instr.next x false T) w (jV P Fr ρ v h'):=by
 obtain ⟨r,o,e1,hh⟩:=WR hh
 obtain ⟨ho,hh⟩:=dB hh
 have ho:=fj ho
 obtain ⟨m,c,st,b,k,hb,hh⟩:=ahM hh
 obtain ⟨c',l,hm,xw,hh⟩:=Gu hh
 obtain ⟨q,qm,es,g1,g0,g2,g3,g4,g5⟩:=hR.iter hb hm xw
 rw [e1] at hx
 obtain ⟨q',hq,rfl⟩:=hx
 rw [g1] at hq; cases hq
 subst ho
 rw [g0]
 have JD:=run_get (P:=P) g3 (λ _ _ _ hh=>by cases hh)
 have RW:=run_get (P:=P) g4 (λ _ _ _ hh=>by cases hh)
 have over:∀ {v':V} {hh':Hp} {m':Nat},OR.ok Rr h n = .ok v' hh' m'->jV P Fr ρ v' hh' (.tuple #[.bool false]) w:=λ hh=>by
  obtain ⟨rfl,rfl,_⟩:=cA hh
  exact hR.post ⟨[.bool false],⟨_,_,rfl,rfl,rfl⟩,rfl⟩
 unfold WJ at hh
 cases l with
 | nil=>
  obtain rfl:es=[]:=g5
  refine ⟨_,w,?_,over hh⟩
  simp [Instr.next,JD,RW,Question.forced]
 | cons kk u b' r'=>
  cases r' with
  | cons _ _ _ _=>cases hh
  | nil=>
   obtain ⟨en,mK,rfl,h1,h2,h3,h4⟩:=g5
   obtain rfl:mK=[]:=h4
   cases st with
   | zero=>
    obtain ⟨eU,hh⟩:=dB (show dY (Nat.blt b' c) _ .no = .ok v h' n' from hh)
    have eU:=kz eU
    obtain ⟨rfl,rfl,_⟩:=cA hh
    refine ⟨.tuple #[.bool true,en.key,en.val],GK w q.k (.mapIter (some qm.k) c #[b'] c'),?_,ρ,Le.refl _,hR.W7 (LY hb) g1 g3 ⟨g0,qm,g2,rfl⟩,⟨[.bool true,en.key,en.val],⟨_,_,rfl,rfl,_,_,rfl,h1,_,_,rfl,h2,rfl⟩,rfl⟩⟩
    subst h3
    have ml:=run_set (P:=P) (o':=.mapIter (some qm.k) c #[en.born] c') g3 (λ _ _ _ hh=>by cases hh)
    have hn:¬ c<=en.born:=by omega
    have JD:(getObj q.k).run P w = .ok (.mapIter (some qm.k) c #[] k) w:=JD
    simp [Instr.next,JD,RW,eU,hn,Question.forced,ml]
   | succ st=>
    obtain ⟨hc,hh5⟩:=dB (show dY (dD (Nat.beq b b') (Nat.blt b' k)) _ .no = .ok v h' n' from hh)
    obtain ⟨c1,c2⟩:=dI hc
    have c1:=fj c1
    have c2:=kz c2
    have ov:=over hh5
    subst c1
    refine ⟨_,w,?_,ov⟩
    subst h3
    simp [Instr.next,JD,RW,c2,Question.forced]
end
def m6 (P:Program) (eZ:xq):Prop:=∀ (c args:V) (h:Hp) (n:Nat) (v:V) (h':Hp) (n':Nat),eZ c args h n = .ok v h' n'->
 ∀ (Fr:lO) (ρ:Rn) (w:World) (x:Value) (xs:List Value),RV ρ c x->iB ρ args xs->RH P Fr ρ h w->eg P x xs w (jV P Fr ρ v h')
section
variable {P:Program} {eZ:xq} {Fr:lO} {ρ:Rn} {h h':Hp} {w:World} {v:V} {n n':Nat} {e:En} {e':Env}
theorem eK {x:Operand} {k:Oq->NK} (hh:BK (q1 x k) P eZ e h n = .ok v h' n'):∃ q,oq x=some q/\BK (k q) P eZ e h n = .ok v h' n':=by
 unfold q1 at hh
 split at hh
 ·rename_i q hq; exact ⟨q,hq,hh⟩
 cases hh
theorem oW {b:Bool} {q:NK} (hh:BK (bif b then q else .bad) P eZ e h n = .ok v h' n'):b=true/\BK q P eZ e h n = .ok v h' n':=by
 cases b with
 | true=>exact ⟨rfl,hh⟩
 | false=>cases hh
theorem GM {f:FuncId} {xs:List Value} {K:Value->World->Prop} (hc:eg P (.func (.func f) #[] #[]) xs w K):xX P f xs w K:=by
 rcases hc.ex with ⟨g,first,cap,h1,h2,h3⟩ | ⟨l,h1,_⟩
 ·injection h1 with a b c
  injection a with a
  subst a; subst b; subst c
  exact ⟨.inl ⟨h2,by simpa using h3⟩⟩
 cases h1
theorem N6 {s : String} {e : Array Value -> Sem Value} (h : acA s = some e) {fn : Func} (hn : fn.name = s) (ho : fn.origin = "") : (fn.name == "runtime.NumGoroutine") = false /\ Extern.findNext fn = none /\ Extern.find fn = some e := by
 unfold acA at h
 cases h1 : s == "internal/bytealg.CountString" with
 | true=>
  rw [h1] at h; cases h
  have:=eq_of_beq h1; subst this
  unfold Extern.findNext Extern.find
  rw [hn,ho]
  exact ⟨by decide,by kernel_rfl,by kernel_rfl⟩
 | false=>
  rw [h1] at h
  cases h2 : s == "internal/bytealg.IndexByteString" with
  | true=>
   rw [h2] at h; cases h
   have:=eq_of_beq h2; subst this
   unfold Extern.findNext Extern.find
   rw [hn,ho]
   exact ⟨by decide,by kernel_rfl,by kernel_rfl⟩
  | false=>
   rw [h2] at h
   cases h3 : s == "internal/bytealg.IndexString" with
   | true=>
    rw [h3] at h; cases h
    have:=eq_of_beq h3; subst this
    unfold Extern.findNext Extern.find
    rw [hn,ho]
    exact ⟨by decide,by kernel_rfl,by kernel_rfl⟩
   | false=>rw [h3] at h; cases h
theorem W9 {P:Program} {f:Nat} {e:Array Value->Sem Value} (h:Rw P f=some e) {args:Array Value} {v:Value} {w w':World} (hr:(e args).run P w = .ok v w'):(callFunc f args).run P w = .ok (.value v) w':=by
 unfold Rw at h
 split at h
 ·cases h
 rename_i fn hf
 cases hb : (fn.body.isNone && fn.origin == "") with
 | false=>rw [hb] at h; cases h
 | true=>
  rw [hb] at h
  rw [Bool.and_eq_true] at hb
  obtain ⟨a,b,c⟩:=N6 h rfl (eq_of_beq hb.2)
  show (match P.funcs[f]? with | none=>_ | some fn=>_:Sem Next).run P w=_
  rw [hf]
  simp only [a,hb.1,b,c]
  exact BW hr
theorem GN (hc:m6 P eZ) {o:Oper} (cG:BK (oU P o) P eZ e h n = .ok v h' n') (hE:RE ρ e e') (hR:RH P Fr ρ h w):zE P (tL P o (ev e')) (jV P Fr ρ v h') w:=by
 unfold oU at cG
 unfold tL
 cases gZ:o.op <;> rw [gZ] at cG <;> dsimp only at cG |- <;> try (exact (show False by cases cG).elim)
 case move x=>
  obtain ⟨q,hq,cG⟩:=eK cG
  have cG:(ek e q).fc (λ v=>.ok v h n) = .ok v h' n':=cG
  rw [V.ri] at cG
  obtain ⟨rfl,rfl,_⟩:=cA cG
  exact hR.post (bG hE hq)
 case assign x=>
  obtain ⟨q,hq,cG⟩:=eK cG
  have cG:(ek e q).fc (λ v=>.ok v h n) = .ok v h' n':=cG
  rw [V.ri] at cG
  obtain ⟨rfl,rfl,_⟩:=cA cG
  exact hR.post (bG hE hq)
 case pick c a b=>
  obtain ⟨q1,lK,cG⟩:=eK cG
  obtain ⟨q2,oe,cG⟩:=eK cG
  obtain ⟨q3,LZ,cG⟩:=eK cG
  exact acF hR (bG hE lK) (bG hE oe) (bG hE LZ) cG
 case alloc t=>
  split at cG
  ·rename_i z hz; exact WV hz hR cG
  ·cases cG
 case box t x=>
  obtain ⟨q,hq,cG⟩:=eK cG
  exact ah3 hR (bG hE hq) cG
 case build t ps=>
  split at cG
  ·rename_i fs z l hu hz hl
   obtain ⟨hf,cG⟩:=oW cG
   exact RI hu hz hl hf hR hE cG
  ·rename_i k E z l hu hz
   split at cG
   ·rename_i l2 hl
    obtain ⟨hf,cG⟩:=oW cG
    exact RJ hu hz hl hf hR hE cG
   ·cases cG
  ·cases cG
 case buildSlice t k ps=>
  split at cG
  ·rename_i E es by' k2 hf
   split at cG
   ·rename_i z l hz hl
    obtain ⟨hb,cG⟩:=oW cG
    simp only [Bool.and_eq_true] at hb
    obtain ⟨b1,b2,b3⟩:=hb
    have b1:=fj b1
    subst b1
    exact ah4 hf hz hl (dQ b2) (dQ b3) hR hE cG
   ·cases cG
  ·cases cG
 case insert t m k x=>
  obtain ⟨q1,lK,cG⟩:=eK cG
  obtain ⟨q2,oe,cG⟩:=eK cG
  obtain ⟨q3,LZ,cG⟩:=eK cG
  split at cG
  ·rename_i kt et hu
   split at cG
   ·rename_i kk hk; exact LX (s:=false) (d:=.int kk) hu hk trivial hR (bG hE lK) (bG hE oe) (bG hE LZ) cG
   ·rename_i hk; exact LX (s:=true) (d:=.string) hu hk trivial hR (bG hE lK) (bG hE oe) (bG hE LZ) cG
   ·cases cG
  ·cases cG
 case load t a=>
  split at cG
  ·rename_i ht
   obtain ⟨q,hq,cG⟩:=eK cG
   exact ahN ht hR (bG hE hq) cG
  ·rename_i k ht
   obtain ⟨q,hq,cG⟩:=eK cG
   exact aaD ht hR (bG hE hq) cG
  ·cases cG
 case store t a x=>
  obtain ⟨q1,lK,cG⟩:=eK cG
  obtain ⟨q2,oe,cG⟩:=eK cG
  split at cG
  ·rename_i ag k ht; exact an3 ht hR (bG hE lK) (bG hE oe) cG
  ·cases cG
 case nilCheck x=>
  obtain ⟨q,hq,cG⟩:=eK cG
  exact ahO hR (bG hE hq) cG
 case binOp op t x y u=>
  obtain ⟨q1,lK,cG⟩:=eK cG
  obtain ⟨q2,oe,cG⟩:=eK cG
  obtain ⟨z,g1,g2,g3⟩:=ahX (bG hE lK) (bG hE oe) cG
  subst g3
  split
  ·exact RB (bM g1 w) hR g2
  ·exact kc g1 hR g2
 case unOp op t x=>
  obtain ⟨q,hq,cG⟩:=eK cG
  cases op with
  | not=>exact ahP hR (bG hE hq) cG
  | _=>exact aaE (n:=n) hR (bG hE hq) cG
 case convert s d x=>
  obtain ⟨q,hq,cG⟩:=eK cG
  by_cases h0:BV P s d=0
  ·rw [h0] at cG |-
   exact aaE hR (bG hE hq) cG
  ·rw [show Nat.beq (BV P s d) 0=false from Bool.eq_false_iff.2 λ hh=>h0 (fj hh)] at cG
   dsimp only [cond_false] at cG
   split at cG
   ·rename_i E h1 h2
    split at cG
    ·rename_i k h3 h4
     have:BV P s d=2:=by unfold BV; rw [h2]
     rw [this]
     exact aib (by':=0) h1 h2 h3 hR (bG hE hq) cG
    ·cases cG
   ·cases cG
 case makeFunc fn first cap=>
  split at cG
  ·rename_i g l hf hl
   have e1:first.toList=[]:=hf
   rw [e1]
   exact aic hR (pK hE hl) cG
  ·cases cG
 case makeMap t r=>
  cases r with
  | none=>exact aih hR cG
  | some _=>cases cG
 case makeSlice t l c=>
  obtain ⟨q1,lK,cG⟩:=eK cG
  obtain ⟨q2,oe,cG⟩:=eK cG
  split at cG
  ·rename_i E es by' k hf
   split at cG
   ·rename_i z hz
    obtain ⟨hb,cG⟩:=oW cG
    simp only [Bool.and_eq_true] at hb
    obtain ⟨b1,b2,b3⟩:=hb
    have b1:=fj b1
    subst b1
    exact ah5 hf hz (dQ b2) (dQ b3) hR (bG hE lK) (bG hE oe) cG
   ·cases cG
  ·cases cG
 case slice t x lo hi mx=>
  obtain ⟨q1,lK,cG⟩:=eK cG
  split at cG
  ·rename_i l u m hl hu hm
   split at cG
   ·rename_i hT
    cases mx with
    | none=>exact ahR hT hR hE (bG hE lK) hl hu cG
    | some _=>cases cG
   ·rename_i E hT
    obtain ⟨hb,cG⟩:=oW cG
    simp only [Bool.and_eq_true] at hb
    exact ahZ hT rfl (dQ hb.1) hR hE (bG hE lK) hl hu hm hb.2 cG
   ·cases cG
  ·cases cG
 case fieldAddr s x f=>
  obtain ⟨q1,lK,cG⟩:=eK cG
  split at cG
  ·rename_i off ht; exact anV ht hR (bG hE lK) cG
  ·cases cG
 case field t x f=>
  obtain ⟨q1,lK,cG⟩:=eK cG
  split at cG
  ·rename_i fs hu
   split at cG
   ·rename_i fd hf
    split at cG
    ·rename_i m ht; exact ahY hu hf ht hR (bG hE lK) cG
    ·rename_i m ht; exact acH hu hf ht hR (bG hE lK) cG
    ·cases cG
   ·cases cG
  ·cases cG
 case indexAddr t x i=>
  obtain ⟨q1,lK,cG⟩:=eK cG
  obtain ⟨q2,oe,cG⟩:=eK cG
  split at cG
  ·rename_i E hu
   obtain ⟨hb,cG⟩:=oW cG
   exact anX hu rfl (dQ hb) hR (bG hE lK) (bG hE oe) cG
  ·rename_i k E hu
   obtain ⟨hb,cG⟩:=oW cG
   exact ahU hu rfl (dQ hb) hR (bG hE lK) (bG hE oe) cG
  ·cases cG
 case index t x i=>
  obtain ⟨q1,lK,cG⟩:=eK cG
  obtain ⟨q2,oe,cG⟩:=eK cG
  split at cG
  ·rename_i hu; exact ahT hu hR (bG hE lK) (bG hE oe) cG
  ·rename_i k E hu
   split at cG
   ·rename_i es ht; exact acI hu ht hR (bG hE lK) (bG hE oe) cG
   ·rename_i es ht; exact acJ hu ht hR (bG hE lK) (bG hE oe) cG
   ·cases cG
  ·cases cG
 case lookup t x i ok=>
  obtain ⟨q1,lK,cG⟩:=eK cG
  obtain ⟨q2,oe,cG⟩:=eK cG
  split at cG
  ·rename_i kt et hu
   split at cG
   ·rename_i z kk hz hk; exact RQ (s:=false) (d:=.int kk) hu hk trivial hz hR (bG hE lK) (bG hE oe) cG
   ·rename_i z hz hk; exact RQ (s:=true) (d:=.string) hu hk trivial hz hR (bG hE lK) (bG hE oe) cG
   ·cases cG
  ·cases cG
 case mapUpdate t m k x=>
  obtain ⟨q1,lK,cG⟩:=eK cG
  obtain ⟨q2,oe,cG⟩:=eK cG
  obtain ⟨q3,LZ,cG⟩:=eK cG
  split at cG
  ·rename_i kt et hu
   split at cG
   ·rename_i kk hk; exact LX (s:=false) (d:=.int kk) hu hk trivial hR (bG hE lK) (bG hE oe) (bG hE LZ) cG
   ·rename_i hk; exact LX (s:=true) (d:=.string) hu hk trivial hR (bG hE lK) (bG hE oe) (bG hE LZ) cG
   ·cases cG
  ·cases cG
 case range t x=>
  obtain ⟨q1,lK,cG⟩:=eK cG
  split at cG
  ·rename_i kt et hu; exact aij hu hR (bG hE lK) cG
  ·cases cG
 case next x s=>
  obtain ⟨q1,lK,cG⟩:=eK cG
  cases s with
  | true=>cases cG
  | false=>exact ail hR (bG hE lK) cG
 case entry x=>
  obtain ⟨q1,lK,cG⟩:=eK cG
  exact aik hR (bG hE lK) cG
 case extract x i=>
  obtain ⟨q1,lK,cG⟩:=eK cG
  exact ahQ hR (bG hE lK) cG
 case call c=>
  split at cG
  ·rename_i f hf
   split at cG
   ·rename_i l hl
    rw [hf]
    split at cG
    ·rename_i g hg
     obtain ⟨y,h1,h2⟩:=(JB hR (pK hE hl) cG).ex
     exact ⟨.inr ⟨y,w,W9 hg (bM h1 w),h2⟩⟩
    ·exact GM (hc _ _ _ _ _ _ _ cG Fr ρ w _ _ ⟨[],rfl,rfl⟩ (pK hE hl) hR)
   ·cases cG
  ·rename_i x hnf hf
   obtain ⟨q1,lK,cG⟩:=eK cG
   split at cG
   ·rename_i l hl
    rw [hf]
    have:=hc _ _ _ _ _ _ _ cG Fr ρ w _ _ (bG hE lK) (pK hE hl) hR
    cases x <;> first | exact this | exact absurd rfl (hnf _)
   ·cases cG
  ·cases cG
  ·rename_i b hf
   rw [hf]
   dsimp only
   split at cG
   ·
    rename_i t x ht hx
    obtain ⟨q1,lK,cG⟩:=eK cG
    have e1:c.argTypes = #[t]:=by rw [<- Array.toArray_toList (xs:=c.argTypes),ht]
    rw [hx,e1]
    show zE P (if isMap P t=true then _ else _) _ w
    split at cG
    ·rename_i hu
     rw [if_neg (by unfold isMap; rw [hu]; simp)]
     exact acL hu hR (bG hE lK) cG
    ·rename_i E hu
     rw [if_neg (by unfold isMap; rw [hu]; simp)]
     split at cG
     ·rename_i r hf
      obtain ⟨E',m,by',z⟩:=r
      exact acM hf hR (bG hE lK) cG
     ·cases cG
    ·rename_i kt et hu
     rw [if_pos (by unfold isMap; rw [hu])]
     exact acV hu hR (bG hE lK) cG
    ·cases cG
   ·
    rename_i t x ht hx
    obtain ⟨q1,lK,cG⟩:=eK cG
    have e1:c.argTypes = #[t]:=by rw [<- Array.toArray_toList (xs:=c.argTypes),ht]
    rw [hx,e1]
    split at cG
    ·rename_i r hf
     obtain ⟨E',m,by',z⟩:=r
     exact ah2 hf hR (bG hE lK) cG
    ·cases cG
   ·
    split at cG
    ·rename_i l hl; exact JB hR (pK hE hl) cG
    ·cases cG
   ·
    split at cG
    ·rename_i l hl; exact JB hR (pK hE hl) cG
    ·cases cG
   ·
    rename_i t u x y ht hx
    obtain ⟨q1,lK,cG⟩:=eK cG
    obtain ⟨q2,oe,cG⟩:=eK cG
    have e1:c.argTypes = #[t,u]:=by rw [<- Array.toArray_toList (xs:=c.argTypes),ht]
    rw [hx,e1]
    split at cG
    ·rename_i E es by' k hf
     obtain ⟨hb,cG⟩:=oW cG
     simp only [Bool.and_eq_true] at hb
     obtain ⟨b1,b2,b3⟩:=hb
     have b1:=fj b1
     subst b1
     split at cG
     ·rename_i e2 he; exact aaH hf (dQ b2) (dQ b3) (.inl ⟨e2,he⟩) hR (bG hE lK) (bG hE oe) cG
     ·rename_i he; exact aaH hf (dQ b2) (dQ b3) (.inr he) hR (bG hE lK) (bG hE oe) cG
     ·rename_i kn he
      split at cG
      ·rename_i z hz; exact ah8 hf hz (dQ b2) (dQ b3) he hR (bG hE lK) (bG hE oe) cG
      ·cases cG
     ·cases cG
    ·cases cG
   ·
    rename_i t u x y ht hx
    obtain ⟨q1,lK,cG⟩:=eK cG
    obtain ⟨q2,oe,cG⟩:=eK cG
    have e1:c.argTypes = #[t,u]:=by rw [<- Array.toArray_toList (xs:=c.argTypes),ht]
    rw [hx,e1]
    split at cG
    ·rename_i E es by' k hf
     obtain ⟨hb,cG⟩:=oW cG
     exact ah9 hf hR (bG hE lK) (bG hE oe) cG
    ·cases cG
   ·
    rename_i t u x y ht hx
    obtain ⟨q1,lK,cG⟩:=eK cG
    obtain ⟨q2,oe,cG⟩:=eK cG
    have e1:c.argTypes = #[t,u]:=by rw [<- Array.toArray_toList (xs:=c.argTypes),ht]
    rw [hx,e1]
    split at cG
    ·rename_i kt et hu
     split at cG
     ·rename_i kk hk; exact aaM (s:=false) (d:=.int kk) hu hk trivial hR (bG hE lK) (bG hE oe) cG
     ·rename_i hk; exact aaM (s:=true) (d:=.string) hu hk trivial hR (bG hE lK) (bG hE oe) cG
     ·cases cG
    ·cases cG
   ·
    rename_i t x ht hx
    obtain ⟨q1,lK,cG⟩:=eK cG
    have e1:c.argTypes = #[t]:=by rw [<- Array.toArray_toList (xs:=c.argTypes),ht]
    rw [hx,e1]
    split at cG
    ·rename_i E es by' k hf
     split at cG
     ·rename_i z hz
      obtain ⟨hb,cG⟩:=oW cG
      have hk:k=es:=by
       obtain ⟨hu,inf,hi,iN,_,yZ⟩:=dz hf
       obtain ⟨Cv,_⟩:=dB (show dY (Nat.beq (qE z) es) _ .no = .ok v h' n' from cG)
       have Cv:=fj Cv
       obtain ⟨zv,qc,_,z2,_⟩:=qN (ρ:=ρ) hz
       unfold cH at qc
       rw [hi] at qc
       simp only [Option.map_some,Option.some.injEq] at qc
       rw [qc] at yZ
       have:zv.cells.size=k:=by simpa using yZ
       rw [<- this,<- Cv,z2.len,Array.length_toList]
      subst hk
      exact aia hf hz (dQ hb) hR (bG hE lK) cG
     ·cases cG
    ·cases cG
   ·cases cG
end
theorem acX:∀ t u:Tr V,TV.eqv t u=true->t=u:=by
 intro t
 induction t with
 | lf=>intro u h; cases u with
  | lf=>rfl
  | nd l v r=>cases h
 | nd l v r hl hr=>intro u h; cases u with
  | lf=>cases h
  | nd l' v' r'=>
   obtain ⟨h1,h2⟩:=dI (show dD (V.eqs true v v') (dD (TV.eqv l l') (TV.eqv r r'))=true from h)
   obtain ⟨h2,h3⟩:=dI h2
   rw [(mB _ _ h1).1,hl _ h2,hr _ h3]
theorem JE:∀ a b:ML,ML.eqv a b=true->a=b:=by
 intro a
 induction a with
 | nil=>intro b h; cases b with
  | nil=>rfl
  | cons k v t r=>cases h
 | cons k v t r ih=>intro b h; cases b with
  | nil=>cases h
  | cons k' v' t' r'=>
   obtain ⟨h1,h2⟩:=dI (show dD (V.eqs true k k') (dD (V.eqs true v v') (dD (Nat.beq t t') (ML.eqv r r')))=true from h)
   obtain ⟨h2,h3⟩:=dI h2
   obtain ⟨h3,h4⟩:=dI h3
   rw [(mB _ _ h1).1,(mB _ _ h2).1,fj h3,ih _ h4]
theorem acY (a b:HB) (h:HB.eqv a b=true):a=b:=by
 cases a with
 | z=>cases b <;> first | rfl | cases h
 | x=>cases b <;> first | rfl | cases h
 | df=>cases b <;> first | rfl | cases h
 | c n es t=>
  cases b <;> first | cases h | skip
  rename_i n' mK t'
  obtain ⟨h1,h2⟩:=dI (show dD (Nat.beq n n') (dD (Nat.beq es mK) (TV.eqv t t'))=true from h)
  obtain ⟨h2,h3⟩:=dI h2
  rw [fj h1,fj h2,acX _ _ h3]
 | m c l=>
  cases b <;> first | cases h | skip
  rename_i c' l'
  obtain ⟨h1,h2⟩:=dI (show dD (Nat.beq c c') (ML.eqv l l')=true from h)
  rw [fj h1,JE _ _ h2]
 | it m c st b0 k=>
  cases b <;> first | cases h | skip
  rename_i m' c' st' b' k'
  obtain ⟨h1,h2⟩:=dI (show dD (Nat.beq m m') (dD (Nat.beq c c') (dD (Nat.beq st st') (dD (Nat.beq b0 b') (Nat.beq k k'))))=true from h)
  obtain ⟨h2,h3⟩:=dI h2
  obtain ⟨h3,h4⟩:=dI h3
  obtain ⟨h4,h5⟩:=dI h4
  rw [fj h1,fj h2,fj h3,fj h4,fj h5]
 | lp st j ps e a b0=>cases h
theorem acZ:∀ t u:Tr HB,TH.eqv t u=true->t=u:=by
 intro t
 induction t with
 | lf=>intro u h; cases u with
  | lf=>rfl
  | nd l v r=>cases h
 | nd l v r hl hr=>intro u h; cases u with
  | lf=>cases h
  | nd l' v' r'=>
   obtain ⟨h1,h2⟩:=dI (show dD (HB.eqv v v') (dD (TH.eqv l l') (TH.eqv r r'))=true from h)
   obtain ⟨h2,h3⟩:=dI h2
   rw [acY _ _ h1,hl _ h2,hr _ h3]
theorem JF {α:Type} {f:α->α->Bool} (hf:∀ a b,f a b=true->a=b) (a b:N8 α) (h:IN f a b=true):a=b:=by
 cases a with | mk x0 x1 x2 x3 x4 x5 x6 x7=>
 cases b with | mk y0 y1 y2 y3 y4 y5 y6 y7=>
 obtain ⟨h0,h⟩:=dI (show dD (f x0 y0) (dD (f x1 y1) (dD (f x2 y2) (dD (f x3 y3) (dD (f x4 y4) (dD (f x5 y5) (dD (f x6 y6) (f x7 y7)))))))=true from h)
 obtain ⟨h1,h⟩:=dI h
 obtain ⟨h2,h⟩:=dI h
 obtain ⟨h3,h⟩:=dI h
 obtain ⟨h4,h⟩:=dI h
 obtain ⟨h5,h⟩:=dI h
 obtain ⟨h6,h7⟩:=dI h
 rw [hf _ _ h0,hf _ _ h1,hf _ _ h2,hf _ _ h3,hf _ _ h4,hf _ _ h5,hf _ _ h6,hf _ _ h7]
theorem RX (a b:En) (h:IN (IN (IN (V.eqs true))) a b=true):a=b:=JF (λ a b=>JF (λ a b=>JF (λ a b h=>(mB a b h).1) a b) a b) a b h
theorem Xa {a b x:RR} (h:both a b=x) (hx:x≠.no):∃ e h' n,a = .ok e h' n/\x=a/\(b = .any\/∃ m,b = .ok e h' m):=by
 cases a with
 | no=>exact absurd h.symm hx
 | any=>exact absurd h.symm hx
 | ok e h1 n=>cases b with
  | no=>exact absurd h.symm hx
  | any=>exact ⟨e,h1,n,rfl,h.symm,.inl rfl⟩
  | ok e' h1' n'=>
   have hq:Bool.rec (motive:=λ _=>RR) .no (.ok e h1 n) (dD (Nat.beq n n') (dD (IN (IN (IN (V.eqs true))) e e') (TH.eqv h1 h1')))=x:=h
   cases hb:dD (Nat.beq n n') (dD (IN (IN (IN (V.eqs true))) e e') (TH.eqv h1 h1')) with
   | false=>rw [hb] at hq; exact absurd hq.symm hx
   | true=>
    rw [hb] at hq
    obtain ⟨_,g1⟩:=dI hb
    obtain ⟨g1,g2⟩:=dI g1
    have:=RX _ _ g1; subst this
    have:=acZ _ _ g2; subst this
    exact ⟨e,h1,n,rfl,hq.symm,.inr ⟨n',rfl⟩⟩
theorem GO {a:OR} {k:V->Hp->Nat->RR} {x:RR} (h:Cr a k=x) (hx:x≠.no):∃ v h' n',a = .ok v h' n'/\k v h' n'=x:=by
 cases a with
 | no=>exact absurd h.symm hx
 | ok v h' n'=>exact ⟨v,h',n',rfl,h⟩
section
variable {P:Program} {eZ:xq} {Fr:lO} {ρ:Rn} {h:Hp} {w:World} {e:En} {e':Env} {n:Nat} {ops:List Oper}
theorem Xb {v:V} {t:Bool} (h:RV ρ v (.bool t)):v = .b t:=by
 cases v with
 | b x=>have h:Value.bool t = .bool x:=h; injection h with h; rw [h]
 | _=>simp [RV,RP] at h
theorem aim {s y:RR} (c:Bool):Bool.rec (motive:=λ _=>RR) s y c=if c=true then y else s:=by cases c <;> rfl
theorem RY {o:Oper} {g:GS} (hg:yl ops o=some g) (hE:RE ρ e e') (y s:RR):evG g e y s=if iG ops o e'=true then y else s:=by
 unfold yl at hg
 cases ho:o.guard with
 | none=>
  rw [ho] at hg; cases hg
  have hB:iG ops o e'=true:=by unfold iG; rw [ho]
  rw [if_pos hB]; rfl
 | some jb=>
  obtain ⟨j,b⟩:=jb
  rw [ho] at hg
  dsimp only at hg
  cases hs:rH ops j with
  | none=>rw [hs] at hg; cases hg
  | some s0=>
   rw [hs] at hg
   dsimp only at hg
   have hB:iG ops o e'=(match e' s0 with | .bool b'=>b' == b | _=>false):=by simp only [iG,ho,hs]; rfl
   cases hk:v9 s0 with
   | none=>rw [hk] at hg; cases hg
   | some k=>
    rw [hk] at hg
    cases hg
    have hr:=hE s0 k hk
    show (k.get e).Ww s (λ x=>Bool.rec (motive:=λ _=>RR) s y (NP x b))=_
    rcases V.Re (k.get e) s (λ x=>Bool.rec (motive:=λ _=>RR) s y (NP x b)) with h0 | ⟨x,h0,h1⟩
    ·by_cases hy:∃ t,e' s0 = .bool t
     ·obtain ⟨t,hy⟩:=hy
      rw [hy] at hr hB
      have hb:=Xb hr
      rw [hb,hB]
      show Bool.rec (motive:=λ _=>RR) s y (NP t b)=_
      rw [Aq]
      exact aim _
     ·have hF:iG ops o e'=false:=by
       rw [hB]
       split
       ·rename_i b' oE; exact absurd ⟨b',oE⟩ hy
       ·rfl
      rw [h0,if_neg (by rw [hF]; simp)]
    ·rw [h1,Aq]
     have hy:e' s0 = .bool x:=by rw [h0] at hr; exact hr
     rw [hy] at hB
     rw [hB]
     exact aim _
def QR (P:Program) (Fr:lO) (ρ:Rn) (e1:En) (h1:Hp):Env->World->Prop:=λ e' w'=>∃ ρ',Le ρ ρ'/\RE ρ' e1 e'/\RH P Fr ρ' h1 w'
theorem QR.mono {ρ':Rn} {e1:En} {h1:Hp} (hl:Le ρ ρ') {e':Env} {w':World} (hq:QR P Fr ρ' e1 h1 e' w'):QR P Fr ρ e1 h1 e' w':=
 let ⟨r,a,b,c⟩:=hq; ⟨r,hl.trans a,b,c⟩
theorem GP (hc:m6 P eZ) (hE:RE ρ e e') (hR:RH P Fr ρ h w):∀ {is:List Nat} {ks:KL},Cs P ops is=some ks->∀ {k x:RR},keeps ks P eZ e h n k=x->x≠.no->k=x/\∀ r∈is.map (jo ops),kU P ops r e' w True:=by
 intro is
 induction is with
 | nil=>intro ks hk k x hh hx; cases hk; exact ⟨hh,by simp⟩
 | cons i is ih=>
  intro ks hk k x hh hx
  unfold Cs at hk
  split at hk
  ·rename_i g kr d hg hkr hd Fp
   cases hk
   have hh:evG g e (Cr (BK (oU P (jo ops i)) P eZ e h n) λ v _ _=>Bool.rec (motive:=λ _=>RR) .no (keeps kr P eZ e h n k) (V.eqs false v (d.get e))) (keeps kr P eZ e h n k)=x:=hh
   rw [RY hg hE] at hh
   have fin:keeps kr P eZ e h n k=x->kU P ops (jo ops i) e' w True->k=x/\∀ r∈(i::is).map (jo ops),kU P ops r e' w True:=λ h1 h2=>by
    obtain ⟨a,b⟩:=ih hkr h1 hx
    refine ⟨a,λ r hr=>?_⟩
    rcases List.mem_cons.1 hr with rfl | hr
    ·exact h2
    ·exact b r hr
   by_cases hw:iG ops (jo ops i) e'=true
   ·rw [if_pos hw] at hh
    obtain ⟨v,h1,n1,gZ,hh⟩:=GO hh hx
    cases hv:V.eqs false v (d.get e) with
    | false=>rw [hv] at hh; exact absurd hh.symm hx
    | true=>
     rw [hv] at hh
     refine fin hh ?_
     have hD:=GN hc gZ hE hR
     have U5:(tL P (jo ops i) (ev e')).reads=true:=by rw [(zG _ (λ _=>undef)).2]; exact Fp
     unfold kU
     rw [hw]
     dsimp only [cond_true]
     cases oo:tL P (jo ops i) (ev e') <;> rw [oo] at U5 hD <;> first | cases U5 | skip
     rename_i m
     obtain ⟨d0,U6,hd1⟩:=Option.bind_eq_some_iff.1 hd
     rw [U6]
     obtain ⟨y,vt,ρ2,hle,_,hyv⟩:=(show q7 P m w (λ v'=>jV P Fr ρ v h1 v' w) from hD).ex
     obtain ⟨q1,q2⟩:=mB _ _ hv
     have:=hE.mono hle d0 d hd1
     rw [<- q1] at this
     have e1:=(q2 rfl ρ2).1 _ _ hyv this
     exact ⟨by rw [<- e1]; exact vt,trivial⟩
   ·rw [if_neg hw] at hh
    refine fin hh ?_
    unfold kU
    rw [Bool.not_eq_true] at hw
    rw [hw]
    trivial
  ·cases hk
theorem uU (hc:m6 P eZ) {o:Oper} {g:GS} {d:Ds} {is:List Nat} {ks:KL} (hg:yl ops o=some g) (hd:Jw o=some d) (hk:Cs P ops is=some ks) {ix B:Nat} {k:En->Hp->Nat->RR} {x:RR}
  (hh:Gp P eZ ix g (oU P o) d ks k B e h n=x) (hx:x≠.no) (hE:RE ρ e e') (hR:RH P Fr ρ h w) {K:Env->World->Prop}
  (hK:∀ e2 h2 n2 ρ2 e2' w2,Le ρ ρ2->RE ρ2 e2 e2'->RH P Fr ρ2 h2 w2->k e2 h2 n2=x->K e2' w2) :
  vh P ops o (λ e' w'=>(w'=w\/∀ r∈is.map (jo ops),kU P ops r e' w' True)/\K e' w') e' w:=by
 unfold Gp at hh
 rw [RY hg hE] at hh
 unfold vh
 by_cases hw:iG ops o e'=true
 ·rw [if_pos hw] at hh |-
  obtain ⟨v,h1,n1,gZ,hh⟩:=GO hh hx
  refine (GN hc gZ hE hR).mono λ y w' ⟨ρ2,hle,tS,hv⟩=>?_
  have zq:=(hE.mono hle).pd hd hv
  obtain ⟨a,b⟩:=GP hc zq tS hk hh hx
  exact ⟨.inr b,hK _ _ _ _ _ _ hle zq tS a⟩
 rw [if_neg hw] at hh |-
 exact ⟨.inl rfl,hK _ _ _ _ _ _ (Le.refl ρ) (hE.pd hd (lB ρ)) hR hh⟩
theorem Ei {B:Nat} {x:RR} (hh:Rs (.q .bad .n .nil) P eZ B e h n=x) (hx:x≠.no):False:=hx hh.symm
theorem RZ {Q Q':Env->World->Prop} (hq:∀ e w,Q e w->Q' e w):∀ (l:List Oper) (e:Env) (w:World),PM P ops l Q e w->PM P ops l Q' e w:=by
 intro l
 induction l with
 | nil=>intro e w hh; exact hq e w hh
 | cons o l ih=>intro e w hh; exact vh.mono (show vh P ops o (λ e' w'=>PM P ops l Q e' w') e w from hh) λ v w'=>ih _ _
theorem Xc (hc:m6 P eZ) {B:Nat} {e1:En} {h1:Hp} {n1:Nat}:∀ (l:List Oper) {e:En} {h:Hp} {n:Nat} {e':Env} {w:World} {ρ:Rn},Rs (uu P ops l) P eZ B e h n = .ok e1 h1 n1->RE ρ e e'->RH P Fr ρ h w->
  PM P ops l (QR P Fr ρ e1 h1) e' w:=by
 intro l
 induction l with
 | nil=>
  intro e h n e' w ρ hh hE hR
  have hh:RR.ok e h n = .ok e1 h1 n1:=hh
  injection hh with a b c
  subst a; subst b
  exact ⟨ρ,Le.refl ρ,hE,hR⟩
 | cons o l ih=>
  intro e h n e' w ρ hh hE hR
  have fin:∀ {g d},yl ops o=some g->Jw o=some d->Gp P eZ 0 g (oU P o) d .nil (Rs (uu P ops l) P eZ B) B e h n = .ok e1 h1 n1->PM P ops (o::l) (QR P Fr ρ e1 h1) e' w:=λ hg hd hst=>by
   have:=uU hc hg hd (is:=[]) rfl hst (λ hh=>by cases hh) hE hR (K:=λ e2 w2=>PM P ops l (QR P Fr ρ e1 h1) e2 w2) λ e2 h2 n2 ρ2 e2' w2 hle zq tS hk=>by
    have:=ih hk zq tS
    exact RZ (λ _ _ hq=>hq.mono hle) _ _ _ this
   exact this.mono λ v w' hh=>hh.2
  unfold uu at hh
  split at hh
  ·rename_i d hg hd
   split at hh
   ·rename_i x gZ
    refine fin hg hd ?_
    rw [gZ]
    have hh:(ek e x).fcR (λ v=>Rs (uu P ops l) P eZ B (pd d v e) h n) = .ok e1 h1 n1:=hh
    rw [V.aco] at hh
    show Cr ((ek e x).fc λ v=>.ok v h n) _=_
    rw [V.ri]
    exact hh
   ·exact fin hg hd hh
  ·rename_i g d _ hg hd
   exact fin hg hd hh
  ·exact (Ei hh (by intro hh; cases hh)).elim
theorem Xd (hc:m6 P eZ) {al:Bool} {B:Nat}:∀ (p:PT) {e:En} {h:Hp} {n:Nat} {e':Env} {w:World} {ρ:Rn} {x:RR} {Q:Env->World->Prop},Rs (pJ P ops al p) P eZ B e h n=x->x≠.no->
  (∀ e1 h1 n1,x = .ok e1 h1 n1->∀ e2 w2,QR P Fr ρ e1 h1 e2 w2->Q e2 w2)->RE ρ e e'->RH P Fr ρ h w->DQ P ops p Q e' w:=by
 intro p
 induction p with
 | nil=>
  intro e h n e' w ρ x Q hh hx hQ hE hR
  exact hQ e h n hh.symm _ _ ⟨ρ,Le.refl ρ,hE,hR⟩
 | stop=>intro e h n e' w ρ x Q hh hx hQ hE hR; trivial
 | op i ks p ih=>
  intro e h n e' w ρ x Q hh hx hQ hE hR
  unfold pJ at hh
  split at hh
  ·rename_i g d kl hg hd hk
   exact uU hc hg hd hk hh hx hE hR (K:=DQ P ops p Q) λ e2 h2 n2 ρ2 e2' w2 hle zq tS wP=>
    ih wP hx (λ e1 h1 n1 RU e3 w3 hq=>hQ e1 h1 n1 RU e3 w3 (hq.mono hle)) zq tS
  ·exact (Ei hh hx).elim
 | alt i ks p o ih yb=>
  intro e h n e' w ρ x Q hh hx hQ hE hR
  unfold pJ at hh
  split at hh
  ·rename_i g d kl hg hd hk
   obtain ⟨ea,ha,na,g1,g2,g3⟩:=Xa hh hx
   refine ⟨uU hc hg hd hk g2.symm hx hE hR (K:=DQ P ops p Q) λ e2 h2 n2 ρ2 e2' w2 hle zq tS wP=>
    ih wP hx (λ e1 h1 n1 RU e3 w3 hq=>hQ e1 h1 n1 RU e3 w3 (hq.mono hle)) zq tS,?_⟩
   have g4:=g2.trans g1
   rcases g3 with g3 | ⟨m,g3⟩
   ·exact yb g3 (λ hh=>by cases hh) (λ e1 h1 n1 RU=>by cases RU) hE hR
   ·refine yb g3 (λ hh=>by cases hh) (λ e1 h1 n1 RU e3 w3 hq=>?_) hE hR
    injection RU with a b c
    subst a; subst b
    exact hQ _ _ _ g4 e3 w3 hq
  ·exact (Ei hh hx).elim
theorem L4 {nt:Nat} {l:List Oper} (h2:l.all (po nt)=true):∀ o∈l,∀ d,o.dst=some d->d<nt:=λ o ho d IG=>by
 have:=List.all_eq_true.1 h2 o ho
 unfold po at this
 rw [IG] at this
 exact Nat.blt_eq▸this
theorem R0 (hc:m6 P eZ) {r:Option Nat} {ds:List Nat} {nt B id:Nat} {os:Array Oper} {e1:En} {h1:Hp} {n1:Nat} {Q':Exit->Act->World->Prop} {a:Act} (ga:os.toList.all (po nt)=true)
  (hh:Rs (uu P os.toList os.toList) P eZ B e h n = .ok e1 h1 n1) (ha:eI ds nt e' a) (hE:RE ρ e e') (hR:RH P Fr ρ h w)
  (hQ:∀ e2 a2 w2,eI ds nt e2 a2->QR P Fr ρ e1 h1 e2 w2->Q' .normal a2 w2):(Code.region id os false).wpIn (FO r) 0 P Q' a w:=by
 have:=wpIn_region_lit (id:=id) (PM.list (r:=r) (λ e2 a2 w2 Dq _ hq=>hQ e2 a2 w2 Dq hq) os.toList e' a w (λ o ho=>⟨ho,L4 ga o ho⟩) ha (λ _ _=>rfl) (Xc hc os.toList hh hE hR))
 simpa using this
theorem GQ (hm:P.follows .mixedOrders=true) (hc:m6 P eZ) {r:Option Nat} {ds:List Nat} {nt B id:Nat} {os:Array Oper} {p:PT} {al:Bool} {e1:En} {h1:Hp} {n1:Nat} {Q':Exit->Act->World->Prop} {a:Act}
  (ga:(os.toList.all (po nt) && (ya os.toList (ud os.toList) && IF P os.toList (ud os.toList) false os.toList.length 0 p))=true)
  (hh:Rs (pJ P os.toList al p) P eZ B e h n = .ok e1 h1 n1) (ha:eI ds nt e' a) (hE:RE ρ e e') (hR:RH P Fr ρ h w)
  (hQ:∀ e2 a2 w2,eI ds nt e2 a2->QR P Fr ρ e1 h1 e2 w2->Q' .normal a2 w2):(Code.region id os true).wpIn (FO r) 0 P Q' a w:=by
 simp only [Bool.and_eq_true] at ga
 obtain ⟨h2,h3,h4⟩:=ga
 have hd:∀ d∈wr os.toList,d<nt:=λ d hd=>by
  obtain ⟨o,ho,IG⟩:=List.mem_filterMap.1 hd
  exact L4 h2 o ho d IG
 have hz:(bit 0)=λ _=>false:=by funext i; simp [bit]
 have hdq:=Xd (Fr:=Fr) hc p (Q:=QR P Fr ρ e1 h1) hh (λ hh=>by cases hh) (λ e2 h2 n2 hx e3 w3 hq=>by injection hx with a b c; subst a; subst b; exact hq) hE hR.drew
 have hws:=(KS (Q:=QR P Fr ρ e1 h1) h3 p os.toList.length 0 [] e' (drew w) (λ i o hi=>by simp [bit] at hi) (by constructor <;> simp) hdq).1 h4
 rw [hz] at hws
 have:=WS.region (r:=r) (id:=id) hm hd ha (λ e2 a2 w2 Dq _ hq=>hQ e2 a2 w2 Dq hq) hws
 simpa using this
end
section
variable {P:Program} {eZ:xq} {Fr:lO} {ρ:Rn} {h:Hp} {w:World} {e:En} {e':Env} {n:Nat}
theorem RH.drop {b:Nat} {q:Pl} {w':World} (hR:RH P Fr ρ h w) (hl:live (dH h b)) (hq:ρ b=some q) (hw:∀ r o',r≠q.k->w.heap[r]? = some o'->w'.heap[r]? = some o') (hst:Sm w w':=by exact ⟨rfl,rfl,rfl⟩):RH P Fr ρ (eL h .x b) w':=by
 have key:∀ {b'},live (dH (eL h .x b) b')->b'≠b/\live (dH h b')/\dH (eL h .x b) b'=dH h b':=fun {b'} hh=>by
  rw [gU] at hh |-
  split at hh
  ·exact hh.elim
  ·rename_i iS; rw [if_neg iS]; exact ⟨iS,hh,rfl⟩
 refine ⟨λ b' oE=>?_,λ b' oE=>?_,λ b1 b2 q1 q2 h1 h2 iS e1 e2=>hR.sep b1 b2 q1 q2 (key h1).2.1 (key h2).2.1 iS e1 e2,λ r o hr=>?_,λ b' q' h1 h2=>hR.off b' q' (key h1).2.1 h2,hR.st.trans hst⟩
 ·rw [gU] at oE
  split at oE
  ·cases oE
  exact hR.fresh b' oE
 ·obtain ⟨k1,k2,k3⟩:=key oE
  rw [k3]
  obtain ⟨q',o',e1,e2,e3⟩:=hR.lv b' k2
  exact ⟨q',o',e1,hw _ _ (hR.sep b' b q' q k2 hl k1 e1 hq) e2,e3⟩
 have:r≠q.k:=λ hh=>by rw [hh,hR.off b q hl hq] at hr; cases hr
 exact hw r o this (hR.qf r o hr)
theorem tD {k:Nat} {o:Obj}:∀ r o',r≠k->w.heap[r]? = some o'->(w.putObj k o).heap[r]? = some o':=λ r o' hr ho=>by
 rw [World.putObj_heap_other hr]; exact ho
def DM (ρ:Rn):NL->List Nat->Prop
 | .nil,ks=>ks=[]
 | .cons d r,ks=>∃ q ks',ρ d=some q/\ks=q.k::ks'/\DM ρ r ks'
theorem DM.mono {ρ':Rn} (hl:Le ρ ρ'):∀ {ds:NL} {ks:List Nat},DM ρ ds ks->DM ρ' ds ks:=by
 intro ds
 induction ds with
 | nil=>intro ks hh; exact hh
 | cons d r ih=>intro ks ⟨q,ks',h1,h2,h3⟩; exact ⟨q,ks',hl _ _ h1,h2,ih h3⟩
def PZ (P:Program) (Fr:lO) (ρ:Rn) (nt:Nat) (e1:En) (h1:Hp) (ds:NL) (a:Act) (w:World):Prop:=
 ∃ ρ' oX e',Le ρ ρ'/\eI oX nt e' a/\RE ρ' e1 e'/\RH P Fr ρ' h1 w/\DM ρ' ds oX
def PX (P:Program) (Fr:lO) (ρ:Rn) (nt:Nat):Ex->Exit->Act->World->Prop
 | .nx e1 h1 _ ds,.normal=>PZ P Fr ρ nt e1 h1 ds
 | .rt e1 h1 _ ds,.ret=>PZ P Fr ρ nt e1 h1 ds
 | .ex id e1 h1 _ ds,.exit k=>λ a w=>k=id/\PZ P Fr ρ nt e1 h1 ds a w
 | _,_=>λ _ _=>False
theorem PZ.mono {ρ':Rn} {nt:Nat} {e1:En} {h1:Hp} {ds:NL} {a:Act} {w:World} (hl:Le ρ ρ') (hh:PZ P Fr ρ' nt e1 h1 ds a w):PZ P Fr ρ nt e1 h1 ds a w:=by
 obtain ⟨r,k,e,a1,a2⟩:=hh; exact ⟨r,k,e,hl.trans a1,a2⟩
theorem PX.mono {ρ':Rn} {nt:Nat} {x:Ex} {xt:Exit} {a:Act} {w:World} (hl:Le ρ ρ') (hh:PX P Fr ρ' nt x xt a w):PX P Fr ρ nt x xt a w:=by
 cases x <;> cases xt <;> first | exact hh.elim | exact PZ.mono hl hh | exact ⟨hh.1,hh.2.mono hl⟩
theorem PX.nx {nt:Nat} {e1:En} {h1:Hp} {n1:Nat} {ds:NL} {xt:Exit} {a:Act} {w:World} (hh:PX P Fr ρ nt (.nx e1 h1 n1 ds) xt a w):xt = .normal/\PZ P Fr ρ nt e1 h1 ds a w:=by
 cases xt <;> first | exact ⟨rfl,hh⟩ | exact hh.elim
theorem PX.rt {nt:Nat} {e1:En} {h1:Hp} {n1:Nat} {ds:NL} {xt:Exit} {a:Act} {w:World} (hh:PX P Fr ρ nt (.rt e1 h1 n1 ds) xt a w):xt = .ret/\PZ P Fr ρ nt e1 h1 ds a w:=by
 cases xt <;> first | exact ⟨rfl,hh⟩ | exact hh.elim
theorem PX.ex {nt id:Nat} {e1:En} {h1:Hp} {n1:Nat} {ds:NL} {xt:Exit} {a:Act} {w:World} (hh:PX P Fr ρ nt (.ex id e1 h1 n1 ds) xt a w):xt = .exit id/\PZ P Fr ρ nt e1 h1 ds a w:=by
 cases xt <;> first | exact hh.elim | (obtain ⟨rfl,hh⟩:=hh; exact ⟨rfl,hh⟩)
theorem JG {F:Fence} {rm:Nat} {Q:Exit->Act->World->Prop} {a:Act} {w:World} {c:Code} (I:Nat->Act->World->Prop) (n₀:Nat) (h₀:I n₀ a w)
  (round:∀ n a w,I n a w->c.wpIn F rm P (Exit.then (λ a' w'=>∃ n',n'<n/\I n' a' w') Q) a w):(Code.loop c).wpIn F rm P Q a w:=by
 classical
 let J:Act->World->Prop:=λ a' w'=>∃ m,I m a' w'
 let μ:Act->World->Nat:=λ a' w'=>if h:∃ m,I m a' w' then Classical.choose (least h) else 0
 have hμ:∀ a' w',J a' w'->I (μ a' w') a' w'/\∀ k,I k a' w'->μ a' w'<=k:=λ a' w' hj=>by
  have e1:μ a' w'=Classical.choose (least hj):=dif_pos hj
  rw [e1]
  exact Classical.choose_spec (least hj)
 refine wpIn_loop J μ ⟨n₀,h₀⟩ λ a' w' hj=>?_
 refine wpIn_mono (round _ a' w' (hμ a' w' hj).1) λ x a2 w2 hp=>?_
 cases x with
 | normal=>
  obtain ⟨m',PK,yW⟩:=hp
  exact ⟨⟨m',yW⟩,Nat.lt_of_le_of_lt ((hμ a2 w2 ⟨m',yW⟩).2 m' yW) PK⟩
 | _=>exact hp
theorem GR {xa x:Ex} {k:En->Hp->Nat->NL->Ex} (hh:Gq xa k=x) (hx:x≠.no):xa≠.no/\((∃ e1 h1 n1 ds1,xa = .nx e1 h1 n1 ds1/\k e1 h1 n1 ds1=x)\/(x=xa/\∀ e1 h1 n1 ds1,xa≠.nx e1 h1 n1 ds1)):=by
 cases xa with
 | no=>exact absurd hh.symm hx
 | nx e1 h1 n1 ds1=>exact ⟨(by intro hh; cases hh),.inl ⟨e1,h1,n1,ds1,rfl,hh⟩⟩
 | rt e1 h1 n1 ds1=>exact ⟨(by intro hh; cases hh),.inr ⟨hh.symm,λ _ _ _ _ hh=>by cases hh⟩⟩
 | ex id e1 h1 n1 ds1=>exact ⟨(by intro hh; cases hh),.inr ⟨hh.symm,λ _ _ _ _ hh=>by cases hh⟩⟩
theorem PX.then {nt:Nat} {xa x:Ex} {xt:Exit} {a:Act} {w:World} {K:Act->World->Prop} {k:En->Hp->Nat->NL->Ex} (hp:PX P Fr ρ nt xa xt a w) (hh:(∃ e1 h1 n1 ds1,xa = .nx e1 h1 n1 ds1/\k e1 h1 n1 ds1=x)\/(x=xa/\∀ e1 h1 n1 ds1,xa≠.nx e1 h1 n1 ds1))
  (hk:∀ e1 h1 n1 ds1,k e1 h1 n1 ds1=x->PZ P Fr ρ nt e1 h1 ds1 a w->K a w):Exit.then K (PX P Fr ρ nt x) xt a w:=by
 rcases hh with ⟨e1,h1,n1,ds1,rfl,hh⟩ | ⟨rfl,iS⟩
 ·obtain ⟨rfl,hz⟩:=hp.nx
  exact hk _ _ _ _ hh hz
 cases x with
 | no=>exact hp.elim
 | nx e1 h1 n1 ds1=>exact absurd rfl (iS _ _ _ _)
 | rt e1 h1 n1 ds1=>obtain ⟨rfl,_⟩:=hp.rt; exact hp
 | ex id e1 h1 n1 ds1=>obtain ⟨rfl,_⟩:=hp.ex; exact hp
theorem aio {g:Oq} {ps:PS} {A B:CC} {ds:NL} {x:Ex} (hh:WK eZ g ps A B e h n ds=x) (hx:x≠.no):∃ gf c v h' n' st j ps1 e1 a1 b1,ek e g = .f gf c/\dH h n = .z/\dH (eL h .df n) (n+1) = .z/\
  eZ (.f gf c) (.c (.y (n+1)) .e) (eL (eL h .df n) (.lp 0 .no ps e A B) (n+1)) (n+1+1) = .ok v h' n'/\dH h' (n+1) = .lp st j ps1 e1 a1 b1/\st≠1/\jump j e (eL h' .x (n+1)) n' (.cons n ds)=x:=by
 unfold WK at hh
 rcases V.Rg (ek e g) .no _ with h0 | ⟨gf,c,h0,h1⟩
 ·exact absurd (hh.symm.trans h0) hx
 have hh:=h1.symm.trans hh
 rcases HB.Gk (dH h n) .no _ with h2 | ⟨h2,h3⟩
 ·exact absurd (hh.symm.trans h2) hx
 have hh:=h3.symm.trans hh
 rcases HB.Gk (dH (eL h .df n) (Nat.succ n)) .no _ with h4 | ⟨h4,h5⟩
 ·exact absurd (hh.symm.trans h4) hx
 have hh:=h5.symm.trans hh
 cases hc:eZ (.f gf c) (.c (.y (Nat.succ n)) .e) (eL (eL h .df n) (.lp 0 .no ps e A B) (Nat.succ n)) (Nat.succ (Nat.succ n)) with
 | no=>rw [hc] at hh; exact absurd hh.symm hx
 | ok v h' n'=>
  rw [hc] at hh
  rcases HB.Rh (dH h' (Nat.succ n)) .no (λ st j _ _ _ _=>Bool.rec (motive:=λ _=>Ex) (jump j e (eL h' .x (Nat.succ n)) n' (.cons n ds)) .no (Nat.beq st 1)) with h6 | ⟨st,j,ps1,e1,a1,b1,h6,h7⟩
  ·exact absurd (hh.symm.trans h6) hx
  ·have hh:=h7.symm.trans hh
   cases hst:Nat.beq st 1 with
   | true=>rw [hst] at hh; exact absurd hh.symm hx
   | false=>
    rw [hst] at hh
    exact ⟨gf,c,v,h',n',st,j,ps1,e1,a1,b1,h0,h2,h4,hc,h6,(λ hs=>by rw [hs] at hst; cases hst),hh⟩
def CS (P:Program) (eZ:xq) (nt:Nat) (pl:eh) (c:Code):Prop:=
 ∀ (r:Option Nat) (e:En) (h:Hp) (n:Nat) (ds:NL) (x:Ex) (Fr:lO) (ρ:Rn) (oX:List Nat) (e':Env) (a:Act) (w:World),(r=none\/dy c=false)->Bu P nt pl c=true->
  tu (eX P nt pl c) P eZ e h n ds=x->x≠.no->eI oX nt e' a->RE ρ e e'->RH P Fr ρ h w->DM ρ ds oX->c.wpIn (FO r) 0 P (PX P Fr ρ nt x) a w
theorem aip (hc:m6 P eZ) {nt:Nat} (U7:nt<=512) {pl:eh} {g:Operand} {ps:Array Tmp} {asx bd:Code}:CS P eZ nt pl (.rangeFunc g ps asx bd):=by
 intro r e h n ds x Fr ρ oX e' a w hr ga hh hx ha hE hR hD
 have Qd:r=none:=hr.resolve_right (by simp [dy])
 subst Qd
 have ga:((ps.toList.all (λ p=>Nat.blt p nt) && (!dy asx && !dy bd)) && (Bu P nt pl asx && Bu P nt pl bd))=true:=ga
 simp only [Bool.and_eq_true,Bool.not_eq_true'] at ga
 obtain ⟨⟨hps,hA,hB⟩,ac0,an8⟩:=ga
 have abB:∀ p∈ps.toList,p<nt:=λ p hp=>Nat.blt_eq▸List.all_eq_true.1 hps p hp
 unfold eX at hh
 split at hh
 case h_2=>exact absurd hh.symm hx
 rename_i gq l hg hl
 obtain ⟨gf,c,v,h',n',st,j,ps1,e1,a1,b1,k1,k2,k3,k4,k5,k6,k7⟩:=aio (show WK eZ gq l (eX P nt pl asx) (eX P nt pl bd) e h n ds=x from hh) hx
 have hgv:=bG hE hg
 rw [k1] at hgv
 obtain ⟨ys,hys,hgv⟩:=hgv
 refine wpIn_rangeFunc λ fn _=>?_
 let L0:Loop:={state:=.ready,pending:=none,fn,tmps:=a.tmps,params:=ps,assign:=asx,body:=bd,defers:=w.heap.size}
 have hR1:RH P Fr (ext ρ n ⟨w.heap.size,0,0,0⟩) (eL h .df n) (w.alloc (.deferred (some []))):=hR.new k2 rfl rfl rfl
 have le1:Le ρ (ext ρ n ⟨w.heap.size,0,0,0⟩):=qJ (hR.fresh n k2)
 have le2:Le (ext ρ n ⟨w.heap.size,0,0,0⟩) (ext (ext ρ n ⟨w.heap.size,0,0,0⟩) (n+1) ⟨w.heap.size+1,0,0,0⟩):=qJ (hR1.fresh (n+1) k3)
 have tS:RH P Fr (ext (ext ρ n ⟨w.heap.size,0,0,0⟩) (n+1) ⟨w.heap.size+1,0,0,0⟩) (eL (eL h .df n) (.lp 0 .no l e (eX P nt pl asx) (eX P nt pl bd)) (n+1)) ((w.alloc (.deferred (some []))).alloc (.loop L0)):=
  hR1.new (q:=⟨w.heap.size+1,0,0,0⟩) k3 (World.size_alloc ..).symm rfl
   ⟨L0,⟨nt,pl,e',rfl,rfl,U7,hl,abB,rfl,rfl,ac0,an8,hA,hB,ha.size,ha.get,hE.mono (le1.trans le2)⟩,rfl⟩
 have gD:=hc _ _ _ _ _ _ _ k4 Fr _ _ (.func (.func gf) #[] ys.toArray) [.func (.yield (w.heap.size+1)) #[] #[]] ⟨ys,iB.mono hys (le1.trans le2),rfl⟩ ⟨_,[],rfl,⟨_,jw _ _ _,rfl⟩,rfl⟩ tS
 rcases gD.ex with ⟨g',first,cap,q1,lT,q3⟩ | ⟨l2,q1,_⟩
 case inr=>cases q1
 injection q1 with q1 q2 q4
 injection q1 with q1
 subst q1; subst q2; subst q4
 have hC:=q3.mono (R':=rangePost (FO none) 0 P (w.heap.size+1) (PX P Fr ρ nt x) {a with defers:=[{target:=.collected w.heap.size,args:=#[]}]++a.defers}) (λ xx w3 hx3=>?_)
 ·have hC1:=(lS (r:=none) (n:=0)).2 hC
  refine ⟨w.heap.size+1,[{target:=.collected w.heap.size,args:=#[]}],(w.alloc (.deferred (some []))).alloc (.loop L0),
   {target:=.fn (.func gf) ys.toArray,args:=#[.func (.yield (w.heap.size+1)) #[] #[]]},(w.alloc (.deferred (some []))).alloc (.loop L0),gf,#[.func (.yield (w.heap.size+1)) #[] #[]]++ys.toArray,
   (w.alloc (.deferred (some []))).alloc (.loop L0),run_enterLoop_outer ..,?_,λ _ _=>trivial,?_,vm,?_⟩
  rotate_left 2
  ·simpa using hC1
  ·have zu:a.eval g = .func (.func gf) #[] ys.toArray:=by rw [ha.eval]; exact hgv
   simp only [resolve,zu]
   simp [go_sem]
  show (callFunc gf (#[.func (.yield (w.heap.size+1)) #[] #[]]++ys.toArray)).run P _=_
  exact qe lT _ _
 obtain ⟨v3,rfl,ρ3,sB,yn,_⟩:=hx3
 have GI:live (dH h' (n+1)):=by rw [k5]; trivial
 obtain ⟨q',o',r1,r2,r3⟩:=yn.lv (n+1) GI
 have r4:=sB (n+1) _ (jw _ _ _)
 rw [r4] at r1
 cases r1
 rw [k5] at r3
 obtain ⟨L1,_,rfl⟩:=r3
 have hst:Rz st≠.busy:=by
  unfold Rz
  split
  ·intro hh; cases hh
  ·exact absurd rfl k6
  ·intro hh; cases hh
 refine ⟨sw j,_,run_endLoop r2 hst,?_⟩
 have zx:RH P Fr ρ3 (eL h' .x (n+1)) (w3.putObj (w.heap.size+1) (.loop {L1 with state:=.exhausted,pending:=sw j})):=yn.drop GI r4 tD
 have Dq:eI (w.heap.size::oX) nt e' {a with defers:=[{target:=.collected w.heap.size,args:=#[]}]++a.defers}:=⟨by rw [ha.defers]; rfl,ha.size,ha.get⟩
 have hle:Le ρ ρ3:=(le1.trans le2).trans sB
 have hz:PZ P Fr ρ nt e (eL h' .x (n+1)) (.cons n ds) {a with defers:=[{target:=.collected w.heap.size,args:=#[]}]++a.defers} (w3.putObj (w.heap.size+1) (.loop {L1 with state:=.exhausted,pending:=sw j})):=
  ⟨ρ3,_,e',hle,Dq,hE.mono hle,zx,⟨_,oX,sB _ _ (le2 _ _ (jw _ _ _)),rfl,hD.mono hle⟩⟩
 cases j with
 | no=>rw [<- k7]; exact hz
 | rt=>rw [<- k7]; exact wpIn_ret hz
 | ex id=>rw [<- k7]; exact wpIn_exit ⟨rfl,hz⟩
end
section
variable {P:Program} {eZ:xq} {Fr:lO} {ρ:Rn} {h:Hp} {w:World} {e:En} {e':Env} {n:Nat}
theorem Ej {m:Nat} {y:RR} {ds:NL} {x:Ex} (hh:Ru m y ds=x) (hx:x≠.no):∃ e1 h1 n1 n2,y = .ok e1 h1 n1/\x = .nx e1 h1 n2 ds:=by
 cases y with
 | no=>exact absurd hh.symm hx
 | any=>exact absurd hh.symm hx
 | ok e1 h1 n1=>exact ⟨e1,h1,n1,_,rfl,hh.symm⟩
theorem JH {F:Fence} {m:Nat} {Q:Exit->Act->World->Prop} {a:Act} {c:Code} (h:c.wpIn F m P (Exit.noGoto Q) a w):(Code.scope c).wpIn F m P Q a w:=by
 intro b k cs hro hb hr
 have h0:(lone (b.atR a (.code (.scope c)::k)) cs w).fenced P F:=fenced_calm hb hr rfl
 have s1:step P (lone (b.atR a (.code (.scope c)::k)) cs w) = .next (lone (b.atR a (.code c :: .inScope c::k)) cs w):=step_lone_go (by simp [stepG,stepG.exec,Frame.atR])
 have s2:∀ a w,step P (lone (b.atR a (.inScope c::k)) cs w) = .next (lone (b.atR a k) cs w):=λ a w=>step_lone_go (by simp [stepG,stepG.exec,Frame.atR])
 obtain ⟨e,a₁,w₁,hq,N7⟩:=h b (.inScope c::k) cs hro hb hr
 cases e with
 | normal=>exact ⟨.normal,a₁,w₁,hq,.head h0 s1 (StepsIn.trans N7 (.one (fenced_calm hb hr rfl) (s2 _ _)))⟩
 | exit id=>
  have hx:exitTo id (.inScope c::k)=exitTo id k:=by simp [exitTo]
  exact ⟨.exit id,a₁,w₁,hq,λ k' hk=>.head h0 s1 (N7.1 k' (by rw [hx]; exact hk)),λ Fa hk=>let ⟨k₁,h1,h2⟩:=N7.2 Fa (by rw [hx]; exact hk); ⟨k₁,h1,.head h0 s1 h2⟩⟩
 | goto l=>exact hq.elim
 | ret=>exact ⟨_,a₁,w₁,hq,.of_steps (.one h0 s1) N7⟩
 | panic ch=>exact ⟨_,a₁,w₁,hq,.of_steps (.one h0 s1) N7⟩
 | outgrown=>exact ⟨_,a₁,w₁,hq,.of_steps (.one h0 s1) N7⟩
theorem Az (hm:P.follows .mixedOrders=true) (hc:m6 P eZ) {nt:Nat} (U7:nt<=512) {pl:eh}:∀ c:Code,CS P eZ nt pl c:=by
 intro c
 induction c with
 | skip=>intro r e h n ds x Fr ρ oX e' a w hr ga hh hx ha hE hR hD; rw [<- hh]; exact wpIn_skip ⟨ρ,oX,e',Le.refl ρ,ha,hE,hR,hD⟩
 | ret=>intro r e h n ds x Fr ρ oX e' a w hr ga hh hx ha hE hR hD; rw [<- hh]; exact wpIn_ret ⟨ρ,oX,e',Le.refl ρ,ha,hE,hR,hD⟩
 | exit id=>intro r e h n ds x Fr ρ oX e' a w hr ga hh hx ha hE hR hD; rw [<- hh]; exact wpIn_exit ⟨rfl,ρ,oX,e',Le.refl ρ,ha,hE,hR,hD⟩
 | region id ops draw=>
  intro r e h n ds x Fr ρ oX e' a w hr ga hh hx ha hE hR hD
  cases draw with
  | false=>
   obtain ⟨e1,h1,n1,n2,g1,rfl⟩:=Ej (show Ru 0 (Rs (uu P ops.toList ops.toList) P eZ n e h n) ds=x from hh) hx
   exact R0 hc ga g1 ha hE hR λ e2 a2 w2 Dq ⟨ρ2,hle,zq,tS⟩=>⟨ρ2,oX,e2,hle,Dq,zq,tS,hD.mono hle⟩
  | true=>
   have hh:tu (bif (oV ops.toList.length (pl id)).many then .eB (Nat.succ ops.toList.length) (pJ P ops.toList true (oV ops.toList.length (pl id))) else .eB 0 (pJ P ops.toList false (oV ops.toList.length (pl id)))) P eZ e h n ds=x:=hh
   cases hb:(oV ops.toList.length (pl id)).many with
   | true=>
    rw [hb] at hh
    obtain ⟨e1,h1,n1,n2,g1,rfl⟩:=Ej (show Ru (Nat.succ ops.toList.length) (Rs (pJ P ops.toList true (oV ops.toList.length (pl id))) P eZ n e h n) ds=x from hh) hx
    exact GQ hm hc ga g1 ha hE hR λ e2 a2 w2 Dq ⟨ρ2,hle,zq,tS⟩=>⟨ρ2,oX,e2,hle,Dq,zq,tS,hD.mono hle⟩
   | false=>
    rw [hb] at hh
    obtain ⟨e1,h1,n1,n2,g1,rfl⟩:=Ej (show Ru 0 (Rs (pJ P ops.toList false (oV ops.toList.length (pl id))) P eZ n e h n) ds=x from hh) hx
    exact GQ hm hc ga g1 ha hE hR λ e2 a2 w2 Dq ⟨ρ2,hle,zq,tS⟩=>⟨ρ2,oX,e2,hle,Dq,zq,tS,hD.mono hle⟩
 | seq c1 c2 Dr yb=>
  intro r e h n ds x Fr ρ oX e' a w hr ga hh hx ha hE hR hD
  have BA:r=none\/dy c1=false:=hr.imp id λ h=>by have:(dy c1 || dy c2)=false:=h; rw [Bool.or_eq_false_iff] at this; exact this.1
  have Fc:r=none\/dy c2=false:=hr.imp id λ h=>by have:(dy c1 || dy c2)=false:=h; rw [Bool.or_eq_false_iff] at this; exact this.2
  have ga:(Bu P nt pl c1 && Bu P nt pl c2)=true:=ga
  rw [Bool.and_eq_true] at ga
  obtain ⟨g1,g2⟩:=GR (show Gq (tu (eX P nt pl c1) P eZ e h n ds) (tu (eX P nt pl c2) P eZ)=x from hh) hx
  refine wpIn_seq (wpIn_mono (Dr r e h n ds _ Fr ρ oX e' a w BA ga.1 rfl g1 ha hE hR hD) λ xt a' w' hp=>?_)
  refine hp.then g2 λ e1 h1 n1 ds1 hk hz=>?_
  obtain ⟨ρ2,dk2,e2,hle,Ft,zq,tS,Xe⟩:=hz
  exact wpIn_mono (yb r e1 h1 n1 ds1 x Fr ρ2 dk2 e2 a' w' Fc ga.2 hk hx Ft zq tS Xe) λ xt a2 w2 Vl=>Vl.mono hle
 | cond c c1 c2 Dr yb=>
  intro r e h n ds x Fr ρ oX e' a w hr ga hh hx ha hE hR hD
  have BA:r=none\/dy c1=false:=hr.imp id λ h=>by have:(dy c1 || dy c2)=false:=h; rw [Bool.or_eq_false_iff] at this; exact this.1
  have Fc:r=none\/dy c2=false:=hr.imp id λ h=>by have:(dy c1 || dy c2)=false:=h; rw [Bool.or_eq_false_iff] at this; exact this.2
  have ga:(Bu P nt pl c1 && Bu P nt pl c2)=true:=ga
  rw [Bool.and_eq_true] at ga
  unfold eX at hh
  split at hh
  case h_2=>exact absurd hh.symm hx
  rename_i q hq
  have hv:=bG hE hq
  have hh:(ek e q).Wx .no (λ t=>Bool.rec (motive:=λ _=>Ex) (tu (eX P nt pl c2) P eZ e h n ds) (tu (eX P nt pl c1) P eZ e h n ds) t)=x:=hh
  rcases V.Rf (ek e q) .no (λ t=>Bool.rec (motive:=λ _=>Ex) (tu (eX P nt pl c2) P eZ e h n ds) (tu (eX P nt pl c1) P eZ e h n ds) t) with h0 | ⟨t,h0,h1⟩
  ·exact absurd (hh.symm.trans h0) hx
  ·have hh:=h1.symm.trans hh
   rw [h0] at hv
   refine wpIn_cond (t:=t) (by rw [ha.eval]; exact hv) ?_
   cases t with
   | true=>exact Dr r e h n ds x Fr ρ oX e' a w BA ga.1 hh hx ha hE hR hD
   | false=>exact yb r e h n ds x Fr ρ oX e' a w Fc ga.2 hh hx ha hE hR hD
 | block id c ih=>
  intro r e h n ds x Fr ρ oX e' a w hr ga hh hx ha hE hR hD
  have hh:Rt id (tu (eX P nt pl c) P eZ e h n ds)=x:=hh
  have h0:tu (eX P nt pl c) P eZ e h n ds≠.no:=λ h0=>by rw [h0] at hh; exact hx hh.symm
  refine wpIn_block (wpIn_mono (ih r e h n ds _ Fr ρ oX e' a w hr ga rfl h0 ha hE hR hD) λ xt a' w' hp=>?_)
  cases hxa:tu (eX P nt pl c) P eZ e h n ds with
  | no=>exact absurd hxa h0
  | nx e1 h1 n1 ds1=>
   rw [hxa] at hp hh
   obtain ⟨rfl,hz⟩:=hp.nx
   rw [<- hh]; exact hz
  | rt e1 h1 n1 ds1=>
   rw [hxa] at hp hh
   obtain ⟨rfl,hz⟩:=hp.rt
   rw [<- hh]; exact hz
  | ex k e1 h1 n1 ds1=>
   rw [hxa] at hp hh
   obtain ⟨rfl,hz⟩:=hp.ex
   have hh:Bool.rec (motive:=λ _=>Ex) (.ex k e1 h1 n1 ds1) (.nx e1 h1 n1 ds1) (Nat.beq k id)=x:=hh
   simp only [Exit.inBlock]
   by_cases hk:k=id
   ·subst hk
    rw [jc] at hh
    rw [if_pos rfl,<- hh]
    exact hz
   ·rw [uG hk] at hh
    rw [if_neg hk,<- hh]
    exact ⟨rfl,hz⟩
 | loop c ih=>
  intro r e h n ds x Fr ρ oX e' a w hr ga hh hx ha hE hR hD
  have hh:LN 1000000 (tu (eX P nt pl c) P eZ) e h n ds=x:=hh
  refine JG (λ f a w=>∃ e h n ds ρ2 dk2 e',Le ρ ρ2/\LN f (tu (eX P nt pl c) P eZ) e h n ds=x/\eI dk2 nt e' a/\RE ρ2 e e'/\RH P Fr ρ2 h w/\DM ρ2 ds dk2) 1000000
   ⟨e,h,n,ds,ρ,oX,e',Le.refl ρ,hh,ha,hE,hR,hD⟩ ?_
  intro f a w ⟨e,h,n,ds,ρ2,dk2,e',hle,hh,ha,hE,hR,hD⟩
  cases f with
  | zero=>exact absurd hh.symm hx
  | succ f=>
   obtain ⟨g1,g2⟩:=GR (show Gq (tu (eX P nt pl c) P eZ e h n ds) (LN f (tu (eX P nt pl c) P eZ))=x from hh) hx
   refine wpIn_mono (ih r e h n ds _ Fr ρ2 dk2 e' a w hr ga rfl g1 ha hE hR hD) λ xt a' w' hp=>?_
   refine (hp.mono hle).then g2 λ e1 h1 n1 ds1 hk hz=>?_
   obtain ⟨ρ3,dk3,e3,sB,ha3,hE3,yn,L5⟩:=hz
   exact ⟨f,Nat.lt_succ_self f,e1,h1,n1,ds1,ρ3,dk3,e3,sB,hk,ha3,hE3,yn,L5⟩
 | rangeFunc g ps asx bd _ _=>exact aip hc U7
 | scope c ih=>
  intro r e h n ds x Fr ρ oX e' a w hr ga hh hx ha hE hR hD
  have ga:(!dy c && Bu P nt pl c)=true:=ga
  rw [Bool.and_eq_true,Bool.not_eq_true'] at ga
  refine JH (wpIn_mono (ih r e h n ds x Fr ρ oX e' a w (.inr ga.1) ga.2 hh hx ha hE hR hD) λ xt a' w' hp=>?_)
  cases xt with
  | goto l=>cases x <;> first | exact hp.elim | (obtain ⟨h0,_⟩:=hp.nx; cases h0) | (obtain ⟨h0,_⟩:=hp.rt; cases h0) | (obtain ⟨h0,_⟩:=hp.ex; cases h0)
  | _=>exact hp
 | label l=>intro r e h n ds x Fr ρ oX e' a w hr ga hh hx ha hE hR hD; rw [<- hh]; exact wpIn_label ⟨ρ,oX,e',Le.refl ρ,ha,hE,hR,hD⟩
 | _=>intro r e h n ds x Fr ρ oX e' a w hr ga hh hx ha hE hR hD; exact absurd hh.symm hx
theorem GU {a:OR} {k:V->Hp->Nat->OR} {v:V} {h':Hp} {n':Nat} (hh:LO a k = .ok v h' n'):∃ v1 h1 n1,a = .ok v1 h1 n1/\k v1 h1 n1 = .ok v h' n':=by
 cases a with
 | no=>cases hh
 | ok v1 h1 n1=>exact ⟨v1,h1,n1,rfl,hh⟩
theorem N9 {q:Oq} {v:V} {h':Hp} {n':Nat} (hh:WI e h n q = .ok v h' n'):h'=h:=by
 obtain ⟨b,o,_,hh⟩:=WR hh
 obtain ⟨m,es,t,_,hh⟩:=j9 hh
 obtain ⟨_,hh⟩:=dB hh
 rw [V.ri] at hh
 exact (cA hh).2.1.symm
theorem JI {q:Oq} {k:Nat} {v:V} {h':Hp} {n':Nat} (hh:LK e h n k q = .ok v h' n'):h'=h:=by
 obtain ⟨b,o,_,hh⟩:=WR hh
 obtain ⟨m,es,t,_,hh⟩:=j9 hh
 obtain ⟨_,hh⟩:=dB hh
 exact (cA hh).2.1.symm
theorem AA:∀ {rs:List ResultVar} {r:RS} {k:OK} {v:V} {h':Hp} {n':Nat} {ρ:Rn} {K:List Value->Prop},qF P rs=some r->Gr r P e h k = .ok v h' n'->RE ρ e e'->RH P Fr ρ h w->
  (∀ ρ2 l vs,Le ρ ρ2->RH P Fr ρ2 h w->iB ρ2 l vs->k l = .ok v h' n'->K vs)->BB P rs e' K w:=by
 intro rs
 induction rs with
 | nil=>intro r k v h' n' ρ K hr hh hE hR hK; cases hr; exact hK ρ .e [] (Le.refl ρ) hR rfl hh
 | cons x rs ih=>
  intro r k v h' n' ρ K hr hh hE hR hK
  cases x with
  | tmp t=>
   unfold qF at hr
   split at hr
   case h_2=>cases hr
   rename_i s r2 hs Fc
   cases hr
   have hh:((s.get e).fc λ v=>Gr r2 P e h λ l=>k (.c v l)) = .ok v h' n':=hh
   rw [V.ri] at hh
   exact ih Fc hh hE hR λ ρ2 l vs hle tS hl hk=>hK ρ2 (.c (s.get e) l) _ hle tS ⟨_,_,rfl,(hE t s hs).mono hle,hl⟩ hk
  | cell a t=>
   unfold qF at hr
   split at hr
   ·rename_i s ht hs
    obtain ⟨r2,Fc,rfl⟩:=Option.map_eq_some_iff.1 hr
    obtain ⟨v1,h1,n1,g1,g2⟩:=GU (show LO (WI e h 0 (.t s)) (λ v _ _=>Gr r2 P e h λ l=>k (.c v l)) = .ok v h' n' from hh)
    obtain ⟨y,hy,ρ2,hle,tS,hv⟩:=(ahN (q:=.t s) ht hR (hE a s hs) g1).ex
    have:=N9 g1; subst this
    exact ⟨y,hy,ih Fc g2 (hE.mono hle) tS λ ρ3 l vs sB yn hl hk=>hK ρ3 (.c v1 l) _ (hle.trans sB) yn ⟨_,_,rfl,hv.mono sB,hl⟩ hk⟩
   ·rename_i m s ht hs
    obtain ⟨r2,Fc,rfl⟩:=Option.map_eq_some_iff.1 hr
    obtain ⟨v1,h1,n1,g1,g2⟩:=GU (show LO (LK e h 0 m (.t s)) (λ v _ _=>Gr r2 P e h λ l=>k (.c v l)) = .ok v h' n' from hh)
    obtain ⟨y,hy,ρ2,hle,tS,hv⟩:=(aaD (q:=.t s) ht hR (hE a s hs) g1).ex
    have:=JI g1; subst this
    exact ⟨y,hy,ih Fc g2 (hE.mono hle) tS λ ρ3 l vs sB yn hl hk=>hK ρ3 (.c v1 l) _ (hle.trans sB) yn ⟨_,_,rfl,hv.mono sB,hl⟩ hk⟩
   ·cases hr
theorem Cw {l:V} {vs:List Value} (hl:iB ρ l vs):RV ρ (Rv l) (Fu vs):=by
 cases l with
 | e=>cases hl; exact ⟨[],rfl,rfl⟩
 | c x r=>
  obtain ⟨z,zs,rfl,h1,h2⟩:=hl
  cases r with
  | e=>cases h2; exact h1
  | c x2 r2=>
   obtain ⟨z2,zs2,rfl,h3,h4⟩:=h2
   exact ⟨z::z2::zs2,⟨z,_,rfl,h1,z2,_,rfl,h3,h4⟩,rfl⟩
  | _=>exact h2.elim
 | _=>exact hl.elim
theorem AB {k:Hp->OR} {v:V} {h':Hp} {n':Nat} {K:World->Prop}:∀ {ds:NL} {h:Hp} {w:World} {oX:List Nat},kill ds h k = .ok v h' n'->DM ρ ds oX->RH P Fr ρ h w->(∀ h2 w2,k h2 = .ok v h' n'->RH P Fr ρ h2 w2->K w2)->fo oX w K:=by
 intro ds
 induction ds with
 | nil=>intro h w oX hh hD hR hK; cases hD; exact hK h w hh hR
 | cons d r ih=>
  intro h w oX hh hD hR hK
  obtain ⟨q,ks',hq,rfl,hD⟩:=hD
  have hh:HB.onD (dH h d) .no (kill r (eL h .x d) k) = .ok v h' n':=hh
  rcases HB.WB (dH h d) .no (kill r (eL h .x d) k) with h0 | ⟨h0,h1⟩
  ·rw [h0] at hh; cases hh
  ·rw [h1] at hh
   have hl:live (dH h d):=by rw [h0]; trivial
   obtain ⟨q',o,e1,e2,e3⟩:=hR.lv d hl
   rw [hq] at e1; cases e1
   rw [h0] at e3
   have e3:o = .deferred (some []):=e3
   subst e3
   exact ⟨e2,ih hh hD (hR.drop hl hq tD) hK⟩
theorem Cx {xs:List Value}:∀ (m k:Nat) {args:V} {e:En} {e0:Env},iB ρ args xs->xs.length<=Am (ny k m)->RE ρ e e0->RE ρ (ic (ny k m) args e) (λ i=>if k<=i/\i<k+xs.length then xs.getD (i - k) undef else e0 i):=by
 induction xs with
 | nil=>
  intro m k args e e0 hA hl hE
  have:args = .e:=by cases args <;> first | rfl | exact hA.elim | (obtain ⟨_,_,hh,_⟩:=hA; cases hh)
  subst this
  have h1:ic (ny k m) .e e=e:=by
   cases m with
   | zero=>rfl
   | succ m=>unfold ny; split <;> rfl
  rw [h1]
  intro i s hs
  dsimp only
  rw [if_neg (by simp only [List.length_nil]; omega)]
  exact hE i s hs
 | cons x xs ih=>
  intro m k args e e0 hA hl hE
  have:∃ a r,args = .c a r/\RV ρ a x/\iB ρ r xs:=by
   cases args <;> first | (cases hA; done) | exact hA.elim | skip
   rename_i a r
   obtain ⟨_,_,hh,h1,h2⟩:=hA
   cases hh; exact ⟨a,r,rfl,h1,h2⟩
  obtain ⟨a,r,rfl,hx,hr⟩:=this
  cases m with
  | zero=>simp [ny,Am] at hl
  | succ m=>
   unfold ny at hl |-
   split at hl
   ·rename_i s hs
    have hl:(x::xs).length<=Am (ny (Nat.succ k) m)+1:=hl
    have h2:=ih m (Nat.succ k) (e:=s.put a e) (e0:=rz e0 k x) hr (by simp at hl; omega) (hE.rz hs hx)
    show RE ρ (ic (ny (Nat.succ k) m) r (s.put a e)) _
    intro i s2 Xf
    have h3:=h2 i s2 Xf
    dsimp only at h3 |-
    by_cases h4:Nat.succ k<=i/\i<Nat.succ k+xs.length
    ·rw [if_pos h4] at h3
     rw [if_pos (by simp; omega)]
     have:i - k=(i - Nat.succ k)+1:=by omega
     rw [this]
     simpa using h3
    ·rw [if_neg h4] at h3
     by_cases h5:i=k
     ·subst h5
      rw [ja] at h3
      rw [if_pos (by simp)]
      simpa using h3
     ·rw [jP _ _ h5] at h3
      rw [if_neg (by simp; omega)]
      exact h3
   ·simp [Am] at hl
theorem JJ {xs:List Value}:∀ {ps:List Nat} {pl:PS} {k:Nat} {args:V} {e:En} {e0:Env},Ao ps=some pl->iB ρ args (xs.drop k)->k+ps.length=xs.length->RE ρ e e0->RE ρ (ic pl args e) (ue xs ps k e0):=by
 intro ps
 induction ps with
 | nil=>intro pl k args e e0 hp hA hl hE; cases hp; exact hE
 | cons p ps ih=>
  intro pl k args e e0 hp hA hl hE
  unfold Ao at hp
  split at hp
  ·rename_i s r hs hr
   cases hp
   have eU:k<xs.length:=by simp at hl; omega
   rw [List.drop_eq_getElem_cons eU] at hA
   have:∃ a r,args = .c a r/\RV ρ a xs[k]/\iB ρ r (xs.drop (k+1)):=by
    cases args <;> first | (cases hA; done) | exact hA.elim | skip
    rename_i a r
    obtain ⟨_,_,hh,h1,h2⟩:=hA
    cases hh; exact ⟨a,r,rfl,h1,h2⟩
   obtain ⟨a,r',rfl,hx,Fa⟩:=this
   show RE ρ (ic r r' (s.put a e)) (ue xs ps (k+1) (rz e0 p (qh xs k)))
   refine ih hr Fa (by simp at hl; omega) (hE.rz hs ?_)
   have:qh xs k=xs[k]:=by
    clear ih hA hl hE hx Fa hr hs
    induction xs generalizing k with
    | nil=>simp at eU
    | cons v r yb=>cases k with
     | zero=>rfl
     | succ k=>exact yb (by simpa using eU)
   rw [this]; exact hx
  ·cases hp
theorem R2:∀ {ps:List Nat} {pl:PS},Ao ps=some pl->Am pl=ps.length:=by
 intro ps
 induction ps with
 | nil=>intro pl hp; cases hp; rfl
 | cons p ps ih=>
  intro pl hp
  unfold Ao at hp
  split at hp
  ·rename_i s r hs hr
   cases hp
   show Nat.succ (Am r)=_
   rw [ih hr]; rfl
  ·cases hp
theorem Xg (s:Sl):s.get LG=Ge:=by
 cases s with | mk a b c=>cases a <;> cases b <;> cases c <;> rfl
theorem RE0:RE ρ LG (λ _=>undef):=λ i s _=>by rw [Xg]; exact lB ρ
end
section
variable {P:Program} {eZ:xq} {Fr:lO} {ρ:Rn} {h h':Hp} {w:World} {n n':Nat} {v:V}
theorem Oa:∀ (m k:Nat),Am (ny k m)<=m:=by
 intro m
 induction m with
 | zero=>intro k; exact Nat.le_refl 0
 | succ m ih=>
  intro k
  unfold ny
  split
  ·exact Nat.succ_le_succ (ih (Nat.succ k))
  ·exact Nat.zero_le _
theorem L6 (xs:List Value):(λ i=>if 0<=i/\i<0+xs.length then xs.getD (i - 0) undef else undef)=rA xs:=by
 funext i
 rw [vu]
 by_cases hi:i<xs.length
 ·rw [if_pos (by omega)]; simp
 rw [if_neg (by omega)]
 have:xs[i]? = none:=by simp; omega
 rw [List.getD_eq_getElem?_getD,this]; rfl
theorem yo (hm:P.follows .mixedOrders=true) (hc:m6 P eZ) {nU:Nat->Nat->PT} {g:Nat} (ga:okF P nU g=true) {args:V} {xs:List Value} (hh:enter P eZ (il P nU g) args h n = .ok v h' n')
  (hA:iB ρ args xs) (hR:RH P Fr ρ h w):Plain P g/\Calls P g xs.toArray w (mW (jV P Fr ρ v h')):=by
 unfold okF at ga
 unfold il at hh
 cases hf:P.funcs[g]? with
 | none=>rw [hf] at ga; cases ga
 | some fn=>
 rw [hf] at ga hh
 dsimp only at ga hh
 cases hb:fn.body with
 | none=>rw [hb] at ga; cases ga
 | some c=>
 rw [hb] at ga hh
 dsimp only at ga hh
 simp only [Bool.and_eq_true,Bool.not_eq_true'] at ga
 obtain ⟨aiq,U7,aoa⟩:=ga
 have U7:=dQ U7
 refine ⟨⟨fn,hf,aiq,by rw [hb]; rfl⟩,?_⟩
 cases hr:qF P fn.results.toList with
 | none=>rw [hr] at hh; cases hh
 | some r=>
 rw [hr] at hh
 dsimp only at hh
 obtain ⟨hle,hh⟩:=dB (show dY (Nat.ble (qE args) (Am (ny 0 fn.ntmps))) (leave P r (tu (eX P fn.ntmps (nU g) c) P eZ (ic (ny 0 fn.ntmps) args LG) h n .nil)) .no = .ok v h' n' from hh)
 have hle:=dQ hle
 rw [hA.len] at hle
 have Xh:=Nat.le_trans hle (Oa fn.ntmps 0)
 have hE:RE ρ (ic (ny 0 fn.ntmps) args LG) (rA xs):=by
  have:=Cx fn.ntmps 0 hA hle RE0
  rw [L6] at this
  exact this
 refine lS.1 (callsIn_of_wp_marks (F:=FO none) (n:=0) hf hb trivial ?_)
 have ha:eI [] fn.ntmps (rA xs) {tmps:=xs.toArray++Array.replicate (fn.ntmps - xs.toArray.size) undef,defers:=[]}:=by
  refine ⟨rfl,by simp; omega,λ i=>?_⟩
  rw [vu,Array.getD_eq_getD_getElem?,Array.getElem?_append]
  simp only [List.size_toArray,List.getElem?_toArray,Array.getElem?_replicate]
  by_cases hi:i<xs.length
  ·rw [if_pos hi]; simp [hi]
  ·rw [if_neg hi]
   have:xs[i]? = none:=by simp; omega
   simp only [List.getD_eq_getElem?_getD,this,Option.getD_none]
   split <;> rfl
 generalize hx:tu (eX P fn.ntmps (nU g) c) P eZ (ic (ny 0 fn.ntmps) args LG) h n .nil=x at hh
 have Xh:x≠.no:=λ h0=>by rw [h0] at hh; cases hh
 refine wpIn_mono (Az hm hc U7 c none _ h n .nil x Fr ρ [] (rA xs) _ w (.inl rfl) aoa hx Xh ha hE hR rfl) λ xt a' w' hp=>?_
 have fin:∀ e1 h1 n1 ds1,PZ P Fr ρ fn.ntmps e1 h1 ds1 a' w'->(kill ds1 h1 λ h=>Gr r P e1 h λ l=>.ok (Rv l) h n1) = .ok v h' n'->LeavesInM (FO none) 0 P fn a'.tmps (mW (jV P Fr ρ v h')) a'.defers .returning w':=by
  intro e1 h1 n1 ds1 hz hk
  obtain ⟨ρ2,oX,e2,JK,Ft,zq,tS,Xe⟩:=hz
  rw [Ft.defers]
  refine qi oX w' ((AB (K:=λ w2=>BB P fn.results.toList e2 (λ vs=>jV P Fr ρ v h' (Fu vs) w2) w2) hk Xe tS λ h2 w2 wP yn=>?_).mono λ w1 hw1=>?_)
  ·refine AA hr wP zq yn λ ρ3 l vs sB zx hl hk3=>?_
   obtain ⟨q1,q2,_⟩:=cA hk3
   rw [<- q1,<- q2]
   exact ⟨ρ3,JK.trans sB,zx,Cw hl⟩
  ·obtain ⟨vs,g1,g2⟩:=zJ Ft fn.results.toList _ w1 hw1
   exact ⟨_,rK (by simp) g1,_,rfl,g2⟩
 cases x with
 | no=>exact absurd rfl Xh
 | nx e1 h1 n1 ds1=>obtain ⟨rfl,hz⟩:=hp.nx; exact fin e1 h1 n1 ds1 hz hh
 | rt e1 h1 n1 ds1=>obtain ⟨rfl,hz⟩:=hp.rt; exact fin e1 h1 n1 ds1 hz hh
 | ex id e1 h1 n1 ds1=>cases hh
theorem R3 {x:Ex} {l:Nat} {k:PS->En->CC->CC->Ex->OR} (hh:Gs x l k = .ok v h' n') :
  ∃ e1 h1 n1 ds1 j ps e2 a b,(x = .nx e1 h1 n1 ds1\/x = .rt e1 h1 n1 ds1\/∃ id,x = .ex id e1 h1 n1 ds1)/\dH h1 l = .lp 1 j ps e2 a b/\k ps e2 a b x = .ok v h' n':=by
 have key:∀ {h1:Hp} {y:Ex},(HB.Pr (dH h1 l) .no λ st _ ps e2 a b=>dY (Nat.beq st 1) (k ps e2 a b y) .no) = .ok v h' n'->∃ j ps e2 a b,dH h1 l = .lp 1 j ps e2 a b/\k ps e2 a b y = .ok v h' n':=by
  intro h1 y hh
  rcases HB.D8 (dH h1 l) .no (λ st _ ps e2 a b=>dY (Nat.beq st 1) (k ps e2 a b y) .no) with h0 | ⟨st,j,ps,e2,a,b,h0,h2⟩
  ·rw [h0] at hh; cases hh
  ·rw [h2] at hh
   obtain ⟨g1,g2⟩:=dB hh
   have:=fj g1; subst this
   exact ⟨j,ps,e2,a,b,h0,g2⟩
 cases x with
 | no=>cases hh
 | nx e1 h1 n1 ds1=>obtain ⟨j,ps,e2,a,b,g1,g2⟩:=key hh; exact ⟨e1,h1,n1,ds1,j,ps,e2,a,b,.inl rfl,g1,g2⟩
 | rt e1 h1 n1 ds1=>obtain ⟨j,ps,e2,a,b,g1,g2⟩:=key hh; exact ⟨e1,h1,n1,ds1,j,ps,e2,a,b,.inr (.inl rfl),g1,g2⟩
 | ex id e1 h1 n1 ds1=>obtain ⟨j,ps,e2,a,b,g1,g2⟩:=key hh; exact ⟨e1,h1,n1,ds1,j,ps,e2,a,b,.inr (.inr ⟨id,rfl⟩),g1,g2⟩
theorem R4 {l:Nat} {args:V} (hh:round P eZ l args h n = .ok v h' n'):∃ j ps e a b e1 h1 n1 ds1 j2 ps2 e2 a2 b2,dH h l = .lp 0 j ps e a b/\qE args=Am ps/\tu a P eZ (ic ps args e) h n .nil = .nx e1 h1 n1 ds1/\
  dH h1 l = .lp 0 j2 ps2 e2 a2 b2/\Gs (tu b P eZ e1 (eL h1 (.lp 1 j2 ps2 e2 a2 b2) l) n1 ds1) l (LP l) = .ok v h' n':=by
 unfold round at hh
 rcases HB.D8 (dH h l) .no _ with h0 | ⟨st,j,ps,e,a,b,h0,h2⟩
 ·have:=hh.symm.trans h0; cases this
 have hh:=h2.symm.trans hh
 obtain ⟨g1,g2⟩:=dB hh
 obtain ⟨g1,g3⟩:=dI g1
 have:=fj g1; subst this
 cases hx:tu a P eZ (ic ps args e) h n .nil with
 | no=>rw [hx] at g2; cases g2
 | rt e1 h1 n1 ds1=>rw [hx] at g2; cases g2
 | ex id e1 h1 n1 ds1=>rw [hx] at g2; cases g2
 | nx e1 h1 n1 ds1=>
  rw [hx] at g2
  have g2:(HB.Pr (dH h1 l) .no λ st j ps e a' b'=>dY (Nat.beq st 0) (Gs (tu b P eZ e1 (eL h1 (.lp 1 j ps e a' b') l) n1 ds1) l (LP l)) .no) = .ok v h' n':=g2
  rcases HB.D8 (dH h1 l) .no (λ st j ps e a' b'=>dY (Nat.beq st 0) (Gs (tu b P eZ e1 (eL h1 (.lp 1 j ps e a' b') l) n1 ds1) l (LP l)) .no) with k0 | ⟨st2,j2,ps2,e2,a2,b2,k0,k2⟩
  ·rw [k0] at g2; cases g2
  ·rw [k2] at g2
   obtain ⟨g4,g5⟩:=dB g2
   have:=fj g4; subst this
   exact ⟨j,ps,e,a,b,e1,h1,n1,ds1,j2,ps2,e2,a2,b2,h0,fj g3,hx,k0,g5⟩
theorem yp (hm:P.follows .mixedOrders=true) (hc:m6 P eZ) {l:Nat} {q:Pl} {args:V} {xs:List Value} (hh:round P eZ l args h n = .ok v h' n') (hq:ρ l=some q)
  (hA:iB ρ args xs) (hR:RH P Fr ρ h w):YieldAt (FO none) 0 P q.k xs.toArray w (mW (jV P Fr ρ v h')):=by
 obtain ⟨j,ps,e,a,b,e1,h1,n1,ds1,j2,ps2,e2,a2,b2,k1,k2,k3,k4,k5⟩:=R4 hh
 obtain ⟨q',o,r1,r2,r3⟩:=hR.lv l (by rw [k1]; trivial)
 rw [hq] at r1; cases r1
 rw [k1] at r3
 obtain ⟨L0,hL0,rfl⟩:=r3
 obtain ⟨nt,pl,e',_,_,U7,hps,eU,rfl,rfl,ac0,air,hrA,hrB,iN,sy,hE⟩:=hL0.ex
 have hlen:xs.length=L0.params.toList.length:=by rw [<- hA.len,k2,R2 hps]
 refine ⟨L0.fn,_,L0.assign,L0.body,run_yield (r:={L0 with state:=Rz 0,pending:=sw j}) r2 (by simpa using hlen),roundIn_of_wpIn trivial ?_⟩
 have Dq:eI [] nt (ue xs L0.params.toList 0 e') {tmps:=(L0.params.zip xs.toArray).foldl (λ t (q:Nat × Value)=>t.setIfInBounds q.1 q.2) L0.tmps,defers:=[]}:=by
  have h0:eI [] nt e' {tmps:=L0.tmps,defers:=[]}:=⟨rfl,iN,sy⟩
  have:=vr (args:=xs) L0.params.toList 0 e' _ eU h0 (by omega)
  have e1:(L0.params.zip xs.toArray).foldl (λ t (q:Nat × Value)=>t.setIfInBounds q.1 q.2) L0.tmps=(L0.params.toList.zip (xs.drop 0)).foldl (λ t (q:Nat × Value)=>t.setIfInBounds q.1 q.2) L0.tmps:=by
   rw [<- Array.foldl_toList,Array.toList_zip]; simp
  rw [e1]; exact this
 have hE1:RE ρ (ic ps args e) (ue xs L0.params.toList 0 e'):=JJ hps (by simpa using hA) (by omega) hE
 refine wpIn_mono (Az hm hc U7 L0.assign (some q.k) _ h n .nil _ Fr ρ [] _ _ w (.inr hrA) ac0 k3 (λ hh=>by cases hh) Dq hE1 hR rfl) λ xt a1 w1 hp=>?_
 obtain ⟨rfl,ρ2,dk2,e3,JK,Ft,zq,tS,Xe⟩:=hp.nx
 obtain ⟨q',o,r4,r5,r6⟩:=tS.lv l (by rw [k4]; trivial)
 rw [JK _ _ hq] at r4; cases r4
 rw [k4] at r6
 obtain ⟨L2,hL2,rfl⟩:=r6
 have aod:q.k<w1.heap.size:=(Array.getElem?_eq_some_iff.1 r5).1
 refine ⟨_,run_beginRound r5 rfl,?_⟩
 have yn:RH P Fr ρ2 (eL h1 (.lp 1 j2 ps2 e2 a2 b2) l) (w1.putObj q.k (.loop {L2 with state:=.busy,pending:=sw j2})):=
  tS.kV (by rw [k4]; trivial) (JK _ _ hq) (World.putObj_heap_same aod) ⟨L2,hL2,rfl⟩ tD
 obtain ⟨e5,h5,n5,ds5,j5,ps5,e6,a5,b5,g1,g2,g3⟩:=R3 k5
 generalize wQ:tu (eX P nt pl L0.body) P eZ e1 (eL h1 (.lp 1 j2 ps2 e2 a2 b2) l) n1 ds1=x2 at g1 g3
 have Xh:x2≠.no:=λ h0=>by rcases g1 with g1 | g1 | ⟨id,g1⟩ <;> rw [h0] at g1 <;> cases g1
 refine wpIn_mono (Az hm hc U7 L0.body (some q.k) e1 _ n1 ds1 x2 Fr ρ2 dk2 e3 a1 _ (.inr hrB) air wQ Xh Ft zq yn Xe) λ xt a3 w3 hp=>?_
 have fin:PZ P Fr ρ2 nt e5 h5 ds5 a3 w3->∃ L3 ρ3,LpB P ρ3 ps5 e6 a5 b5 L3/\Le ρ ρ3/\w3.heap[q.k]? = some (.loop {L3 with state:=.busy,pending:=sw j5})/\
   ∀ st j,RH P Fr ρ3 (eL h5 (.lp st j ps5 e6 a5 b5) l) (w3.putObj q.k (.loop {L3 with state:=Rz st,pending:=sw j})):=by
  intro ⟨ρ3,dk3,e7,sB,ha3,hE3,zx,L5⟩
  obtain ⟨q',o,r7,r8,r9⟩:=zx.lv l (by rw [g2]; trivial)
  have LZ:=sB _ _ (JK _ _ hq)
  rw [LZ] at r7; cases r7
  rw [g2] at r9
  obtain ⟨L3,hL3,rfl⟩:=r9
  exact ⟨L3,ρ3,hL3,JK.trans sB,r8,λ st j=>zx.kV (by rw [g2]; trivial) LZ (World.putObj_heap_same (Array.getElem?_eq_some_iff.1 r8).1) ⟨L3,hL3,rfl⟩ tD⟩
 rcases g1 with rfl | rfl | ⟨id,rfl⟩
 ·obtain ⟨rfl,hz⟩:=hp.nx
  obtain ⟨L3,ρ3,_,hle,r8,hk⟩:=fin hz
  obtain ⟨q1,q2,_⟩:=cA (show OR.ok (.b true) (eL h5 (.lp 0 .no ps5 e6 a5 b5) l) n5 = .ok v h' n' from g3)
  rw [<- q1,<- q2]
  exact ⟨_,_,run_endRound none r8,_,rfl,ρ3,hle,hk 0 .no,rfl⟩
 ·obtain ⟨rfl,hz⟩:=hp.rt
  obtain ⟨L3,ρ3,_,hle,r8,hk⟩:=fin hz
  obtain ⟨q1,q2,_⟩:=cA (show OR.ok (.b false) (eL h5 (.lp 2 .rt ps5 e6 a5 b5) l) n5 = .ok v h' n' from g3)
  rw [<- q1,<- q2]
  exact ⟨_,_,run_endRound (some .ret) r8,_,rfl,ρ3,hle,hk 2 .rt,rfl⟩
 obtain ⟨rfl,hz⟩:=hp.ex
 obtain ⟨L3,ρ3,_,hle,r8,hk⟩:=fin hz
 obtain ⟨q1,q2,_⟩:=cA (show OR.ok (.b false) (eL h5 (.lp 2 (.ex id) ps5 e6 a5 b5) l) n5 = .ok v h' n' from g3)
 rw [<- q1,<- q2]
 exact ⟨_,_,run_endRound (some (.exit id)) r8,_,rfl,ρ3,hle,hk 2 (.ex id),rfl⟩
end
theorem Cy {P:Program} (hm:P.follows .mixedOrders=true) {L:List Nat} {nU:Nat->Nat->PT} (iH:List.all L (okF P nU)=true):∀ f,m6 P (U3 P (im L (il P nU)) f):=by
 intro f
 induction f with
 | zero=>intro c args h n v h' n' hh; cases hh
 | succ f ih=>
  intro c args h n v h' n' hh Fr ρ w x xs hx hA hR
  have hh:c.Jp .no (λ g sq=>enter P (U3 P (im L (il P nU)) f) (im L (il P nU) g) (xp args sq) h n) (λ l=>round P (U3 P (im L (il P nU)) f) l args h n) = .ok v h' n':=hh
  rcases V.Gj c .no (λ g sq=>enter P (U3 P (im L (il P nU)) f) (im L (il P nU) g) (xp args sq) h n) (λ l=>round P (U3 P (im L (il P nU)) f) l args h n) with h0 | ⟨g,sq,h0,h1⟩ | ⟨l,h0,h1⟩
  ·rw [h0] at hh; cases hh
  ·rw [h1] at hh
   rw [h0] at hx
   obtain ⟨ys,hys,hx⟩:=hx
   cases tM:fb g L with
   | false=>unfold im at hh; rw [tM] at hh; cases hh
   | true=>
    have ga:=List.all_eq_true.1 iH g (nI.1 tM)
    have he:im L (il P nU) g=il P nU g:=by unfold im; rw [tM]; rfl
    rw [he] at hh
    obtain ⟨p1,p2⟩:=yo hm ih ga hh (iB.app hA hys) hR
    exact ⟨.inl ⟨g,#[],ys.toArray,hx,p1,by simpa using p2⟩⟩
  ·rw [h1] at hh
   rw [h0] at hx
   obtain ⟨q,hq,hx⟩:=hx
   exact ⟨.inr ⟨q.k,hx,yp hm ih hh hq hA hR⟩⟩
noncomputable def aoe (x:OR):Bool:=OR.rec (motive:=λ _=>Bool) false (λ v _ _=>V.rec (motive:=λ _=>Bool) (λ b=>b) (λ _ _=>false) (λ _ _=>false) false (λ _ _=>false) false (λ _ _ _ _=>false) (λ _ _ _ _=>false) false false (λ _=>false) false (λ _ _ _=>false) (λ _=>false) (λ _ _=>false) (λ _ _=>false) false (λ _ _ _ _=>false) v) x
noncomputable section
def xy (r:Nat->Nat) (v:V):V:=V.rec (motive:=λ _=>V) (λ x=>.b x) (λ k n=>.i k n) (λ n l=>.s n l) .np (λ b o=>.p (r b) o) .ns (λ b o l k=>.sl (r b) o l k) (λ b o l c=>.sx (r b) o l c) .se .nm (λ b=>.m (r b)) .nf (λ g _ ih=>.f g ih) (λ l=>.y (r l)) (λ _ ih=>.a ih) (λ _ ih=>.t ih) .e (λ _ _ i1 i2=>.c i1 i2) v
def Xi (r:Nat->Nat) (l:ML):ML:=ML.rec (motive:=λ _=>ML) .nil (λ k v b _ ih=>.cons (xy r k) (xy r v) b ih) l
def n8m {α:Type} (f:α->α) (t:N8 α):N8 α:=N8.rec (motive:=λ _=>N8 α) (λ x0 x1 x2 x3 x4 x5 x6 x7=>.mk (f x0) (f x1) (f x2) (f x3) (f x4) (f x5) (f x6) (f x7)) t
def Xj (r:Nat->Nat) (e:En):En:=n8m (n8m (n8m (xy r))) e
def mS (f:Nat->Bool) (n:Nat):Bool:=Nat.rec (motive:=λ _=>Bool) true (λ i ih=>dD (f i) ih) n
def aaP (r:Nat->Nat) (t1 t2:Tr V) (i:Nat):Bool:=V.eqs true (xy r (qD t2 i)) (qD t1 i)
def ait (r:Nat->Nat) (b2 b1:HB):Bool:=
 HB.rec (motive:=λ _=>HB->Bool) (λ _=>false) (λ _=>true)
  (λ n es t2 b1=>HB.rec (motive:=λ _=>Bool) false false (λ n1 es1 t1=>dD (Nat.beq n n1) (dD (Nat.beq es es1) (mS (aaP r t1 t2) n))) (λ _ _=>false) (λ _ _ _ _ _=>false) (λ _ _ _ _ _ _=>false) false b1)
  (λ c l2 b1=>HB.rec (motive:=λ _=>Bool) false false (λ _ _ _=>false) (λ c1 l1=>dD (Nat.beq c c1) (ML.eqv (Xi r l2) l1)) (λ _ _ _ _ _=>false) (λ _ _ _ _ _ _=>false) false b1)
  (λ _ _ _ _ _ _=>false) (λ _ _ _ _ _ _ _=>false) (λ _=>false) b2 b1
def GV (d:Nat) (l:List Nat):Nat->Nat:=List.rec (motive:=λ _=>Nat->Nat) (λ _=>d) (λ x _ ih b=>Nat.rec (motive:=λ _=>Nat) x (λ j _=>ih j) b) l
def L7 (x:Nat) (l:List Nat):Bool:=List.rec (motive:=λ _=>Bool) true (λ y _ ih=>Bool.rec (motive:=λ _=>Bool) ih false (Nat.beq x y)) l
def ac2 (l:List Nat):Bool:=List.rec (motive:=λ _=>Bool) true (λ x r ih=>dD (L7 x r) ih) l
def JL (l:List HB):Nat->Hp:=List.rec (motive:=λ _=>Nat->Hp) (λ _=>.lf) (λ y _ ih k=>eL (ih (Nat.succ k)) y k) l
def isZ (b:HB):Bool:=HB.rec (motive:=λ _=>Bool) true false (λ _ _ _=>false) (λ _ _=>false) (λ _ _ _ _ _=>false) (λ _ _ _ _ _ _=>false) false b
def JM (d:Nat) (l:List Nat) (e2:En) (bs:List HB) (e1:En) (h1:Hp):Bool:=
 dD (IN (IN (IN (V.eqs true))) (Xj (GV d l) e2) e1) (dD (isZ (dH h1 d)) (dD (ac2 l) (dD (Nat.beq bs.length l.length) (mS (λ b=>ait (GV d l) (dH (JL bs 0) b) (dH h1 (GV d l b))) l.length))))
def nxB (x:Ex) (k:En->Hp->Bool):Bool:=Ex.rec (motive:=λ _=>Bool) false (λ e h _ ds=>NL.rec (motive:=λ _=>Bool) (k e h) (λ _ _ _=>false) ds) (λ _ _ _ _=>false) (λ _ _ _ _ _=>false) x
end
section
variable {P:Program} {Fr:lO} {ρ:Rn} {h:Hp} {w:World}
theorem ac4 (r:Nat->Nat) (v:V):RP ρ (xy r v)=RP (λ b=>ρ (r b)) v:=by
 induction v with
 | f g c ih=>show RP ρ (.f g (xy r c))=_; simp only [RP,ih]
 | a c ih=>show RP ρ (.a (xy r c))=_; simp only [RP,ih]
 | t c ih=>show RP ρ (.t (xy r c))=_; simp only [RP,ih]
 | c a b i1 i2=>show RP ρ (.c (xy r a) (xy r b))=_; simp only [RP,i1,i2]
 | _=>rfl
theorem Ek {r:Nat->Nat} {v:V} {x:Value} (hv:RV ρ (xy r v) x):RV (λ b=>ρ (r b)) v x:=by
 unfold RV at hv |-; rw [ac4] at hv; exact hv
theorem ac5 {r:Nat->Nat}:∀ {l:ML} {es:List MapEntry},RM ρ (Xi r l) es->RM (λ b=>ρ (r b)) l es:=by
 intro l
 induction l with
 | nil=>intro es h; exact h
 | cons k v b t ih=>intro es ⟨e,mK,h1,h2,h3,h4,h5⟩; exact ⟨e,mK,h1,Ek h2,Ek h3,h4,ih h5⟩
theorem Xk {r:Nat->Nat}:∀ {l:ML} {sl:List (ByteArray × Int)},RMs (Xi r l) sl->RMs l sl:=by
 intro l
 induction l with
 | nil=>intro sl h; exact h
 | cons k v b t ih=>
  intro sl ⟨n,m,x,l',h1,h2,h3,h4⟩
  refine ⟨n,m,x,l',?_,?_,h3,ih h4⟩
  ·cases k <;> first | exact h1 | cases h1
  ·cases v <;> first | exact h2 | cases h2
theorem ac6 (f:V->V) (s:S8) (t:N8 V):Q8 s (n8m f t)=f (Q8 s t):=by cases t; cases s <;> rfl
theorem ac7 (f:N8 V->N8 V) (s:S8) (t:N8 (N8 V)):LF s (n8m f t)=f (LF s t):=by cases t; cases s <;> rfl
theorem ac8 (f:N8 (N8 V)->N8 (N8 V)) (s:S8) (t:N8 (N8 (N8 V))):Gg s (n8m f t)=f (Gg s t):=by cases t; cases s <;> rfl
theorem Xl (r:Nat->Nat) (s:Sl) (e:En):s.get (Xj r e)=xy r (s.get e):=by
 cases s with
 | mk a b c=>show Q8 c (LF b (Gg a (Xj r e)))=xy r (Q8 c (LF b (Gg a e))); unfold Xj; rw [ac8,ac7,ac6]
theorem El {f:Nat->Bool}:∀ {n:Nat},mS f n=true->∀ i,i<n->f i=true
 | 0,_,i,hi=>by omega
 | n+1,hh,i,hi=>by
  obtain ⟨h1,h2⟩:=dI (show dD (f n) (mS f n)=true from hh)
  by_cases e:i=n
  ·rw [e]; exact h1
  ·exact El h2 i (by omega)
theorem zz (d:Nat):∀ (l:List Nat) (b:Nat),GV d l b=l.getD b d
 | [],b=>by show d=_; simp
 | x::l,0=>by show x=_; simp
 | x::l,b+1=>by show GV d l b=_; rw [zz d l b]; simp
theorem GW {x:Nat}:∀ {l:List Nat},L7 x l=true->x ∉ l
 | [],_=>by simp
 | y::l,hh=>by
  have hh:(Bool.rec (motive:=λ _=>Bool) (L7 x l) false (Nat.beq x y):Bool)=true:=hh
  cases hb:Nat.beq x y with
  | true=>rw [hb] at hh; cases hh
  | false=>
   rw [hb] at hh
   have h1:=GW hh
   have h2:x≠y:=λ e=>by rw [e,Nat.beq_refl] at hb; cases hb
   simp [h1,h2]
theorem L8:∀ {l:List Nat},ac2 l=true->l.Nodup
 | [],_=>List.nodup_nil
 | x::l,hh=>by
  obtain ⟨h1,h2⟩:=dI (show dD (L7 x l) (ac2 l)=true from hh)
  exact List.nodup_cons.2 ⟨GW h1,L8 h2⟩
theorem L9:∀ {l:List Nat},l.Nodup->∀ {i j:Nat} (hi:i<l.length) (hj:j<l.length),l[i]=l[j]->i=j
 | [],_,i,j,hi,_,_=>by simp at hi
 | x::l,hn,i,j,hi,hj,e=>by
  obtain ⟨h1,h2⟩:=List.nodup_cons.1 hn
  cases i with
  | zero=>cases j with
   | zero=>rfl
   | succ j=>simp at e hj; exact absurd (e▸List.getElem_mem hj) h1
  | succ i=>cases j with
   | zero=>simp at e hi; exact absurd (e▸List.getElem_mem hi) h1
   | succ j=>simp at e hi hj; rw [L9 h2 hi hj e]
theorem GX:∀ (l:List HB) (k b:Nat),dH (JL l k) b=if k<=b/\b<k+l.length then l.getD (b - k) .z else .z
 | [],k,b=>by
  show HB.z=_
  split <;> simp
 | y::l,k,b=>by
  show dH (eL (JL l (k+1)) y k) b=_
  rw [gU,GX l (k+1) b]
  by_cases e:b=k
  ·subst e; rw [if_pos rfl,if_pos (by simp)]; simp
  ·rw [if_neg e]
   by_cases e2:k+1<=b/\b<k+1+l.length
   ·rw [if_pos e2,if_pos (by simp; omega),show b - k=(b - (k+1))+1 from by omega]; simp
   ·rw [if_neg e2,if_neg (by simp; omega)]
theorem Xm {r:Nat->Nat} {b2 b1:HB} (hh:ait r b2 b1=true):b2≠.z/\(live b2->live b1/\∀ {q:Pl} {o:Obj},Body P ρ b1 q o->Body P (λ b=>ρ (r b)) b2 q o):=by
 cases b2 with
 | z=>cases hh
 | x=>exact ⟨λ h=>(by cases h),λ h=>h.elim⟩
 | c n es t2=>
  refine ⟨λ h=>(by cases h),λ _=>?_⟩
  cases b1 with
  | c n1 es1 t1=>
   obtain ⟨h1,hh⟩:=dI (show dD (Nat.beq n n1) (dD (Nat.beq es es1) (mS (aaP r t1 t2) n))=true from hh)
   obtain ⟨h2,h3⟩:=dI hh
   have h1:=fj h1
   have h2:=fj h2
   subst h1 h2
   refine ⟨trivial,fun {q o} hB=>?_⟩
   obtain ⟨cs,ty,fz,g1,g2,g3,g4,g5,g6,g7⟩:=hB
   refine ⟨cs,ty,fz,g1,g2,g3,g4,g5,g6,λ i hi=>?_⟩
   obtain ⟨x,k1,k2,k3⟩:=g7 i hi
   have he:=(mB _ _ (El h3 i hi)).1
   rw [<- he] at k2
   exact ⟨x,k1,Ek k2,k3⟩
  | _=>cases hh
 | m c l2=>
  refine ⟨λ h=>(by cases h),λ _=>?_⟩
  cases b1 with
  | m c1 l1=>
   obtain ⟨h1,h2⟩:=dI (show dD (Nat.beq c c1) (ML.eqv (Xi r l2) l1)=true from hh)
   have h1:=fj h1
   subst h1
   refine ⟨trivial,fun {q o} hB=>?_⟩
   rcases hB with ⟨g0,es,g1,g2⟩ | ⟨g0,sl,g2,g3⟩
   ·rw [<- JE _ _ h2] at g2
    exact .inl ⟨g0,es,g1,ac5 g2⟩
   ·rw [<- JE _ _ h2] at g2
    exact .inr ⟨g0,sl,Xk g2,g3⟩
  | _=>cases hh
 | it a b c d e=>cases hh
 | lp a b c d e f=>cases hh
 | df=>cases hh
theorem R5 {b:HB} (hh:isZ b=true):b = .z:=by cases b <;> first | rfl | cases hh
def aog (P:Program) (Fr:lO) (nt:Nat) (e:En) (h:Hp) (a:Act) (w:World):Prop:=∃ ρ e',eI [] nt e' a/\RE ρ e e'/\RH P Fr ρ h w
theorem Ob {d:Nat} {l:List Nat} {e2 e1:En} {bs:List HB} {h1:Hp} {e':Env} (hh:JM d l e2 bs e1 h1=true) (hE:RE ρ e1 e') (hR:RH P Fr ρ h1 w):RE (λ b=>ρ (GV d l b)) e2 e'/\RH P Fr (λ b=>ρ (GV d l b)) (JL bs 0) w:=by
 obtain ⟨h1',hh⟩:=dI hh
 obtain ⟨h2,hh⟩:=dI hh
 obtain ⟨h3,hh⟩:=dI hh
 obtain ⟨h4,h5⟩:=dI hh
 have he:=RX _ _ h1'
 have hz:=R5 h2
 have hn:=L8 h3
 have hl:=fj h4
 have hbk:=λ b hb=>Xm (P:=P) (ρ:=ρ) (El h5 b hb)
 have rN:∀ b,live (dH (JL bs 0) b)->b<l.length:=λ b hb=>by
  rw [GX] at hb
  split at hb
  ·omega
  ·exact hb.elim
 refine ⟨λ i s hs=>?_,λ b hb=>?_,λ b hb=>?_,λ b b' q q' hb oE iS hq hq'=>?_,hR.qf,λ b q hb hq=>hR.off _ q ((hbk b (rN b hb)).2 hb).1 hq,hR.st⟩
 ·have:=hE i s hs
  rw [<- he,Xl] at this
  exact Ek this
 ·by_cases eU:b<l.length
  ·exact absurd hb (hbk b eU).1
  show ρ (GV d l b)=none
  rw [zz,List.getD_eq_getElem?_getD,List.getElem?_eq_none (by omega)]
  exact hR.fresh d hz
 ·have eU:=rN b hb
  obtain ⟨g1,g2⟩:=(hbk b eU).2 hb
  obtain ⟨q,o,k1,k2,k3⟩:=hR.lv _ g1
  exact ⟨q,o,k1,k2,g2 k3⟩
 have eU:=rN b hb
 have ada:=rN b' oE
 refine hR.sep _ _ q q' ((hbk b eU).2 hb).1 ((hbk b' ada).2 oE).1 (λ e=>iS ?_) hq hq'
 rw [zz,zz,List.getD_eq_getElem?_getD,List.getD_eq_getElem?_getD,List.getElem?_eq_getElem eU,List.getElem?_eq_getElem ada] at e
 exact L9 hn eU ada (by simpa using e)
theorem adb {x:Ex} {k:En->Hp->Bool} (hh:nxB x k=true):∃ e h n,x = .nx e h n .nil/\k e h=true:=by
 cases x with
 | nx e h n ds=>cases ds with
  | nil=>exact ⟨e,h,n,rfl,hh⟩
  | cons a b=>cases hh
 | _=>cases hh
def Fin (P:Program) (Fr:lO) (fn:Func) (a:Act) (w:World):Prop:=LeavesInM (FO none) 0 P fn a.tmps (mW λ v w2=>v = .bool true/\∃ ρ h,RH P Fr ρ h w2) a.defers .returning w
def Cz (P:Program) (fn:Func) (c:Code) (e:En) (h:Hp):Prop:=
 ∀ (Fr:lO) (Q:Exit->Act->World->Prop) (a:Act) (w:World),(∀ a' w',Fin P Fr fn a' w'->Q .normal a' w'/\Q .ret a' w')->aog P Fr fn.ntmps e h a w->c.wpIn (FO none) 0 P Q a w
variable {eZ:xq} {fn:Func} {pl:eh}
theorem Cz.part (hm:P.follows .mixedOrders=true) (hc:m6 P eZ) {c1 c2:Code} {e e2:En} {n d:Nat} {l:List Nat} {bs:List HB} (ga:(Nat.ble fn.ntmps 512 && Bu P fn.ntmps pl c1)=true)
  (hh:nxB (tu (eX P fn.ntmps pl c1) P eZ e h n .nil) (JM d l e2 bs)=true) (hn:Cz P fn c2 e2 (JL bs 0)):Cz P fn (.seq c1 c2) e h:=by
 intro Fr Q a w hQ ⟨ρ,e',ha,hE,hR⟩
 rw [Bool.and_eq_true] at ga
 obtain ⟨e1,h1,n1,hx,hk⟩:=adb hh
 refine wpIn_seq (wpIn_mono (Az hm hc (dQ ga.1) c1 none e h n .nil _ Fr ρ [] e' a w (.inl rfl) ga.2 hx (λ h0=>by cases h0) ha hE hR rfl) λ xt a' w' hp=>?_)
 obtain ⟨rfl,ρ2,oX,e3,_,Ft,zq,tS,Xe⟩:=hp.nx
 obtain rfl:oX=[]:=Xe
 obtain ⟨g1,g2⟩:=Ob hk zq tS
 exact hn Fr Q a' w' hQ ⟨_,e3,Ft,g1,g2⟩
theorem Cz.last (hm:P.follows .mixedOrders=true) (hc:m6 P eZ) {c:Code} {e:En} {n:Nat} {r:RS} (ga:(Nat.ble fn.ntmps 512 && Bu P fn.ntmps pl c)=true) (hr:qF P fn.results.toList=some r)
  (hh:aoe (leave P r (tu (eX P fn.ntmps pl c) P eZ e h n .nil))=true):Cz P fn c e h:=by
 intro Fr Q a w hQ ⟨ρ,e',ha,hE,hR⟩
 rw [Bool.and_eq_true] at ga
 generalize hx:tu (eX P fn.ntmps pl c) P eZ e h n .nil=x at hh
 have Xh:x≠.no:=λ h0=>by rw [h0] at hh; cases hh
 cases hy:leave P r x with
 | no=>rw [hy] at hh; cases hh
 | ok v h' n'=>
 rw [hy] at hh
 have hv:v = .b true:=by
  cases v <;> cases hh
  rfl
 subst hv
 refine wpIn_mono (Az hm hc (dQ ga.1) c none e h n .nil x Fr ρ [] e' a w (.inl rfl) ga.2 hx Xh ha hE hR rfl) λ xt a' w' hp=>?_
 have fin:∀ e1 h1 n1 ds1,PZ P Fr ρ fn.ntmps e1 h1 ds1 a' w'->(kill ds1 h1 λ h=>Gr r P e1 h λ l=>.ok (Rv l) h n1) = .ok (.b true) h' n'->Fin P Fr fn a' w':=by
  intro e1 h1 n1 ds1 hz hk
  obtain ⟨ρ2,oX,e2,JK,Ft,zq,tS,Xe⟩:=hz
  unfold Fin
  rw [Ft.defers]
  refine qi oX w' ((AB (K:=λ w2=>BB P fn.results.toList e2 (λ vs=>Fu vs = .bool true/\∃ ρ h,RH P Fr ρ h w2) w2) hk Xe tS λ h2 w2 wP yn=>?_).mono λ w1 hw1=>?_)
  ·refine AA hr wP zq yn λ ρ3 l vs sB zx hl hk3=>?_
   obtain ⟨q1,q2,_⟩:=cA hk3
   have:=Cw hl
   rw [q1] at this
   exact ⟨this,ρ3,_,zx⟩
  ·obtain ⟨vs,g1,g2⟩:=zJ Ft fn.results.toList _ w1 hw1
   exact ⟨_,rK (by simp) g1,_,rfl,g2⟩
 cases x with
 | no=>exact absurd rfl Xh
 | nx e1 h1 n1 ds1=>obtain ⟨rfl,hz⟩:=hp.nx; exact (hQ a' w' (fin e1 h1 n1 ds1 hz hy)).1
 | rt e1 h1 n1 ds1=>obtain ⟨rfl,hz⟩:=hp.rt; exact (hQ a' w' (fin e1 h1 n1 ds1 hz hy)).2
 | ex id e1 h1 n1 ds1=>cases hy
theorem Cz.run {g:Nat} {c:Code} (hf:P.funcs[g]? = some fn) (hb:fn.body=some c) (hg:Cz P fn c (ic (ny 0 fn.ntmps) .e LG) .lf) (w:World):Calls P g #[] w (mW fun (v:Value) (w':World)=>v = .bool true/\Ext w w'):=by
 have hR:RH P ⟨λ r=>w.heap[r]?,w⟩ (λ _=>none) .lf w:=⟨λ _ _=>rfl,λ _ hl=>hl.elim,λ _ _ _ _ hl=>hl.elim,λ _ _ hr=>hr,λ _ _ hl=>hl.elim,rfl,rfl,rfl⟩
 have hE:RE (λ _=>none) (ic (ny 0 fn.ntmps) .e LG) (rA []):=by
  have:=Cx (xs:=[]) (args:=.e) fn.ntmps 0 (ρ:=λ _=>none) rfl (Nat.zero_le _) RE0
  rw [L6] at this
  exact this
 have key:Calls P g #[] w (mW λ v w2=>v = .bool true/\∃ ρ h,RH P ⟨λ r=>w.heap[r]?,w⟩ ρ h w2):=by
  refine lS.1 (callsIn_of_wp_marks (F:=FO none) (n:=0) hf hb trivial ?_)
  refine hg ⟨λ r=>w.heap[r]?,w⟩ _ _ w (λ a' w' hh=>⟨hh,hh⟩) ⟨_,rA [],?_,hE,hR⟩
  refine ⟨rfl,by simp,λ i=>?_⟩
  rw [vu,Array.getD_eq_getD_getElem?]
  simp only [List.size_toArray,Array.getElem?_append,Array.getElem?_replicate]
  simp
  split <;> rfl
 refine key.mono λ x w' ⟨y,hx,hv,ρ',h',Em⟩=>⟨y,hx,hv,Em.st.1,Em.st.2.1,Em.st.2.2,?_,λ b hb _=>?_⟩
 ·rcases Nat.eq_zero_or_pos w.heap.size with h0 | h0
  ·omega
  have eU:w.heap.size - 1<w.heap.size:=by omega
  have:=(Array.getElem?_eq_some_iff.1 (Em.qf (w.heap.size - 1) _ (Array.getElem?_eq_getElem eU))).1
  omega
 rw [Em.qf b _ (Array.getElem?_eq_getElem hb),Array.getElem?_eq_getElem hb]
end
noncomputable def Oc (x:OR) (k:V->Hp->Bool):Bool:=OR.rec (motive:=λ _=>Bool) false (λ v h _=>k v h) x
theorem Ma {x:OR} {k:V->Hp->Bool} (hh:Oc x k=true):∃ v h n,x = .ok v h n/\k v h=true:=by
 cases x with
 | no=>cases hh
 | ok v h n=>exact ⟨v,h,n,rfl,hh⟩
theorem Xn {P:Program} (hm:P.follows .mixedOrders=true) {L:List Nat} {nU:Nat->Nat->PT} (iH:List.all L (okF P nU)=true) {f g:Nat} {k:V->Hp->Bool} (vt:Oc (U3 P (im L (il P nU)) f (.f g .e) .e .lf 0) k=true) (w:World) :
  Calls P g #[] w (mW fun (y:Value) (w':World)=>Ext w w'/\∃ v h ρ,k v h=true/\RH P ⟨λ r=>w.heap[r]?,w⟩ ρ h w'/\RV ρ v y):=by
 obtain ⟨v,h',n',hx,hk⟩:=Ma vt
 have hR:RH P ⟨λ r=>w.heap[r]?,w⟩ (λ _=>none) .lf w:=⟨λ _ _=>rfl,λ _ hl=>hl.elim,λ _ _ _ _ hl=>hl.elim,λ _ _ hr=>hr,λ _ _ hl=>hl.elim,rfl,rfl,rfl⟩
 have:=Cy hm iH f _ _ _ _ _ _ _ hx ⟨λ r=>w.heap[r]?,w⟩ (λ _=>none) w (.func (.func g) #[] #[]) [] ⟨[],rfl,rfl⟩ rfl hR
 rcases this.ex with ⟨g',first,cap,q1,_,q3⟩ | ⟨l,q1,_⟩
 case inr=>cases q1
 injection q1 with q1 q2 q4
 injection q1 with q1
 subst q1; subst q2; subst q4
 have q5:Calls P g #[] w (mW (jV P ⟨λ r=>w.heap[r]?,w⟩ (λ _=>none) v h')):=by simpa using q3
 refine q5.mono λ x w' ⟨y,hx,ρ',_,Em,hv⟩=>⟨y,hx,⟨Em.st.1,Em.st.2.1,Em.st.2.2,?_,λ b hb _=>?_⟩,v,h',ρ',hk,Em,hv⟩
 ·rcases Nat.eq_zero_or_pos w.heap.size with h0 | h0
  ·omega
  have eU:w.heap.size - 1<w.heap.size:=by omega
  have:=(Array.getElem?_eq_some_iff.1 (Em.qf (w.heap.size - 1) _ (Array.getElem?_eq_getElem eU))).1
  omega
 rw [Em.qf b _ (Array.getElem?_eq_getElem hb),Array.getElem?_eq_getElem hb]
open Go.MapKept (Stamped IsKey)
open Go.ChangeMaps (setBlock)
def jN (w:World) (b:Nat) (ks:List Int) (vs:List Value):Prop:=
 ∃ es clock,w.heap[b]? = some (.map es clock)/\Stamped es clock/\es.toList.map (·.key)=ks.map (Value.int .i64)/\es.toList.map (·.val)=vs
def iL:List Int->Int->Option Nat
 | [],_=>none
 | x::xs,k=>if x=k then some 0 else (iL xs k).map (· + 1)
theorem ie:∀ {ks:List Int} {k:Int} {j:Nat},iL ks k=some j->ks[j]? = some k
 | x::xs,k,j,h=>by
  unfold iL at h
  split at h
  ·rename_i e; cases h; simp [e]
  ·cases hh:iL xs k with
   | none=>rw [hh] at h; cases h
   | some i=>rw [hh] at h; simp at h; subst h; simpa using ie hh
theorem jx:∀ {ks:List Int} {k:Int},iL ks k=none↔k ∉ ks
 | [],_=>by simp [iL]
 | x::xs,k=>by
  unfold iL
  by_cases e:x=k
  ·simp [e]
  ·rw [if_neg e,Option.map_eq_none_iff,jx,List.mem_cons]
   exact ⟨λ h hh=>hh.elim (λ h2=>e h2.symm) h,λ h hh=>h (.inr hh)⟩
theorem nW:∀ {ks:List Int} {k:Int} {j:Nat},ks.Nodup->ks[j]? = some k->iL ks k=some j
 | x::xs,k,0,_,h=>by simp at h; simp [iL,h]
 | x::xs,k,j+1,hn,h=>by
  rw [List.getElem?_cons_succ] at h
  have hm:=List.mem_of_getElem? h
  have:x≠k:=λ e=>(List.nodup_cons.1 hn).1 (e▸hm)
  simp [iL,this,nW (List.nodup_cons.1 hn).2 h]
def look {β:Type} (ks:List Int) (vs:List β) (k:Int):Option β:=(iL ks k).bind (vs[·]?)
def lD {β:Type} (f:Int->β) (k:Int) (x:β):Int->β:=λ j=>if j=k then x else f j
section
variable {P:Program} {w w0 w':World} {A:Nat->Prop} {L:List HP} {b:Nat} {ks:List Int} {vs:List Value}
theorem jN.of_eq (h:jN w b ks vs) (hh:w'.heap[b]? = w.heap[b]?):jN w' b ks vs:=by
 obtain ⟨es,c,h1,h2⟩:=h; exact ⟨es,c,hh.trans h1,h2⟩
theorem jN.lt (h:jN w b ks vs):b<w.heap.size:=by obtain ⟨es,c,h1,_⟩:=h; exact gF h1
theorem jN.ext (h:jN w b ks vs) (e:Ext w w'):jN w' b ks vs:=h.of_eq (e.cP b h.lt λ h=>h)
theorem jN.len (h:jN w b ks vs):ks.length=vs.length:=by
 obtain ⟨es,c,_,_,h3,h4⟩:=h
 have:=congrArg List.length h3; have h5:=congrArg List.length h4
 simp at this h5; omega
theorem jN.nodup (h:jN w b ks vs):ks.Nodup:=by
 obtain ⟨es,c,_,h2,h3,h4⟩:=h
 have:=h2.2.2
 rw [h3] at this
 exact (List.pairwise_map.1 this).imp λ h e=>h (by rw [e])
def GY (b:Nat) (ks:List Int) (vs:List Value):HP where
 p w F:=jN w b ks vs/\∀ k,F k↔k=b
 loc w w' F h hh:=⟨h.1.of_eq (hh b ((h.2 b).2 rfl)),h.2⟩
 lt w F b' h hb:=by rw [(h.2 b').1 hb]; exact h.1.lt
theorem Od {es:Array MapEntry} (h3:es.toList.map (·.key)=ks.map (Value.int .i64)):∀ x∈es.toList,IsKey (.int .i64) x.key:=by
 intro x hx
 have:x.key∈es.toList.map (·.key):=List.mem_map.2 ⟨x,hx,rfl⟩
 rw [h3] at this
 obtain ⟨k,_,e⟩:=List.mem_map.1 this
 rw [<- e]; simp [IsKey]
theorem AD {T:TypeId} {k:Int} {es:Array MapEntry} (hT:P.underlying T=some (.int .i64)) (hn:ks.Nodup) (h3:es.toList.map (·.key)=ks.map (Value.int .i64)) :
  (iL ks k=none/\(Instr.findKey T (.int .i64 k) es.toList).run P w = .ok none w)\/∃ j e,iL ks k=some j/\es.toList[j]? = some e/\e.key = .int .i64 k/\(Instr.findKey T (.int .i64 k) es.toList).run P w = .ok (some (j,e.val)) w:=by
 rcases MapKept.findNow_spec (d:=.int .i64) (k:=.int .i64 k) (by simp [IsKey]) es.toList 0 (Od h3) with ⟨h1,h2⟩ | ⟨j,e,h1,h2,h4⟩
 ·refine .inl ⟨jx.2 λ hm=>?_,MapKept.run_findKey hT h1⟩
  have:Value.int .i64 k∈es.toList.map (·.key):=by rw [h3]; exact List.mem_map.2 ⟨k,hm,rfl⟩
  obtain ⟨x,hx,e⟩:=List.mem_map.1 this
  exact h2 x hx e
 refine .inr ⟨j,e,nW hn ?_,h2,h4,by rw [Nat.zero_add] at h1; exact MapKept.run_findKey hT h1⟩
 have:(es.toList.map (·.key))[j]? = some (.int .i64 k):=by rw [List.getElem?_map,h2]; simp [h4]
 rw [h3,List.getElem?_map] at this
 cases hk:ks[j]? with
 | none=>rw [hk] at this; cases this
 | some k'=>rw [hk] at this; simp at this; rw [this]
theorem uV {T Kt E:TypeId} {z:Value} {k:Int} (h:jN w b ks vs) (ht:P.underlying T=some (.map Kt E)) (hk:P.underlying Kt=some (.int .i64)) (hz:jI P E z) :
  (Instr.lookup T (.map (some b)) (.int .i64 k) false).run P w = .ok ((look ks vs k).getD z) w:=by
 have hn:=h.nodup
 obtain ⟨es,c,h1,h2,h3,h4⟩:=h
 have Ql:(zeroValue E).run P w = .ok z w:=by
  unfold jI cH at hz
  cases hi:P.info? E with
  | none=>rw [hi] at hz; cases hz
  | some i=>
   rw [hi] at hz
   simp only [Option.map_some,Option.some.injEq] at hz
   refine bM ?_ w
   unfold zeroValue; rw [aK,fS hi]; simp only [Option.bind_some,hz]; rfl
 have hc:=MapKept.run_checkKey (P:=P) (w:=w) (kt:=Kt) (k:=.int .i64 k) hk (by simp [IsKey]) es.isEmpty 9999
 rcases AD (w:=w) (k:=k) hk hn h3 with ⟨h5,h6⟩ | ⟨j,e,h5,h6,h7,h8⟩
 ·simp [Instr.lookup,run_underlying ht,MapKept.run_getObj_map h1,hc,h6,Ql,Result.andThen,look,h5]
 have:vs[j]? = some e.val:=by rw [<- h4,List.getElem?_map,h6]; rfl
 simp [Instr.lookup,run_underlying ht,MapKept.run_getObj_map h1,hc,h8,Result.andThen,look,h5,this]
theorem gV (o:Obj) (hb:b<w.heap.size):(setBlock w b o).heap[b]? = some o:=by simp [setBlock,hb]
theorem gM.setBlock (w:World) (b:Nat) (o:Obj):gM (· = b) w (setBlock w b o):=
 ⟨rfl,rfl,rfl,by simp [ChangeMaps.setBlock],λ k _ hn=>by simp only [ChangeMaps.setBlock]; rw [Array.getElem?_setIfInBounds_ne (λ h=>hn h.symm)]⟩
theorem kC {es:Array MapEntry} {clock:Nat} {o:Obj} (h1:w.heap[b]? = some (.map es clock)):(setObj b o).run P w = .ok () (setBlock w b o):=by
 simp [setObj,Sem.run,h1,setBlock]
theorem Xo {T Kt E:TypeId} {v:Value} {k:Int} (h:jN w b ks vs) (ht:P.underlying T=some (.map Kt E)) (hk:P.underlying Kt=some (.int .i64)) :
  ∃ w',(Instr.mapUpdate T (.map (some b)) (.int .i64 k) v).run P w = .ok () w'/\gM (· = b) w w'/\
   (match iL ks k with | some j=>jN w' b ks (vs.set j v) | none=>jN w' b (ks++[k]) (vs++[v])):=by
 have hn:=h.nodup
 have eU:=h.lt
 obtain ⟨es,c,h1,h2,h3,h4⟩:=h
 have hc:=MapKept.run_checkKey (P:=P) (w:=w) (kt:=Kt) (k:=.int .i64 k) hk (by simp [IsKey]) false 9999
 rcases AD (w:=w) (k:=k) hk hn h3 with ⟨h5,h6⟩ | ⟨j,e,h5,h6,h7,h8⟩
 ·refine ⟨_,?_,gM.setBlock w b (.map (es.push ⟨.int .i64 k,v,c⟩) (c+1)),?_⟩
  ·simp [Instr.mapUpdate,run_underlying ht,MapKept.run_getObj_map h1,hc,h6,kC h1,Result.andThen]
  rw [h5]
  refine ⟨_,_,gV _ eU,MapKept.stamped_push h2 λ x hx e=>?_,by simp [h3],by simp [h4]⟩
  have:x.key∈es.toList.map (·.key):=List.mem_map.2 ⟨x,hx,rfl⟩
  rw [h3,e] at this
  obtain ⟨k',Bs,e'⟩:=List.mem_map.1 this
  simp at e'
  exact jx.1 h5 (e'▸Bs)
 have Oe:es[j]? = some e:=by rw [<- Array.getElem?_toList]; exact h6
 have hst:(Instr.keyThatStays e.key (.int .i64 k)).run P w = .ok (.int .i64 k) w:=by
  rw [h7]; unfold Instr.keyThatStays; simp [Instr.sameBits]
 refine ⟨_,?_,gM.setBlock w b (.map (es.modify j λ e=>{e with key:=.int .i64 k,val:=v}) c),?_⟩
 ·simp [Instr.mapUpdate,run_underlying ht,MapKept.run_getObj_map h1,hc,h8,kC h1,Result.andThen,Oe,hst]
 rw [h5]
 have Bs:∀ e',es[j]? = some e'->({e' with key:=.int .i64 k,val:=v}:MapEntry).key=e'.key:=λ e' Xp=>by
  rw [Oe] at Xp; cases Xp; exact h7.symm
 refine ⟨_,_,gV _ eU,MapKept.stamped_modify h2 j _ (λ _ _=>rfl) (λ e' _ Xp=>Bs e' Xp),?_,?_⟩
 ·rw [MapKept.modify_keys j _ Bs,h3]
 rw [<- h4]
 apply List.ext_getElem?
 intro i
 simp only [List.getElem?_map,Array.getElem?_toList,Array.getElem?_modify,List.getElem?_set]
 by_cases Xq:j=i
 ·subst Xq; rw [Oe]; have:=(Array.getElem?_eq_some_iff.1 Oe).1; simp [this]
 simp [Xq]
theorem Xr {T Kt E R:TypeId} {A2:Array TypeId} {k:Int} (h:jN w b ks vs) (ha:A2[0]? = some T) (ht:P.underlying T=some (.map Kt E)) (hk:P.underlying Kt=some (.int .i64)) :
  ∃ w',(Builtin.delete_ A2 R [.map (some b),.int .i64 k].toArray).run P w = .ok (.tuple #[]) w'/\gM (· = b) w w'/\
   (match iL ks k with | some j=>jN w' b (ks.eraseIdx j) (vs.eraseIdx j) | none=>jN w' b ks vs):=by
 have hn:=h.nodup
 have eU:=h.lt
 obtain ⟨es,c,h1,h2,h3,h4⟩:=h
 have hc:=MapKept.run_checkKey (P:=P) (w:=w) (kt:=Kt) (k:=.int .i64 k) hk (by simp [IsKey]) es.isEmpty 9999
 rcases AD (w:=w) (k:=k) hk hn h3 with ⟨h5,h6⟩ | ⟨j,e,h5,h6,h7,h8⟩
 ·refine ⟨_,?_,gM.setBlock w b (.map es c),?_⟩
  ·simp [Builtin.delete_,ha,run_underlying ht,MapKept.run_getObj_map h1,hc,h6,kC h1,Result.andThen]
  rw [h5]
  exact ⟨_,_,gV _ eU,h2,h3,h4⟩
 have hj:j<es.size:=by have:=(List.getElem?_eq_some_iff.1 h6).1; simpa using this
 refine ⟨_,?_,gM.setBlock w b (.map (es.eraseIdxIfInBounds j) c),?_⟩
 ·simp [Builtin.delete_,ha,run_underlying ht,MapKept.run_getObj_map h1,hc,h8,kC h1,Result.andThen]
 rw [h5]
 have he:(es.eraseIdxIfInBounds j).toList=es.toList.eraseIdx j:=by
  unfold Array.eraseIdxIfInBounds; rw [dif_pos hj]; simp
 refine ⟨_,_,gV _ eU,MapKept.stamped_erase h2 j,?_,?_⟩
 ·rw [he,ChangeMaps.map_eraseIdx,h3,ChangeMaps.map_eraseIdx]
 rw [he,ChangeMaps.map_eraseIdx,h4]
theorem GZ {T:TypeId} {K:Value->World->Prop} (hs:St w0 A L w) (k:∀ b w',St w0 A (GY b [] []::L) w'->K (.map (some b)) w'):gd P (Instr.makeMap T none) w K:=
 ⟨_,_,rfl,k _ _ (hs.new (Ext.push w (.map #[] 0)) (F:=λ k=>k=w.heap.size) ⟨⟨#[],0,jX _ _,MapKept.stamped_empty 0,rfl,rfl⟩,λ _=>Iff.rfl⟩ λ b hb=>by rw [hb]; exact Nat.le_refl _)⟩
theorem St.G0 (hs:St w0 A (GY b ks vs::L) w):jN w b ks vs:=by obtain ⟨F,h,_⟩:=hs.head; exact h.1
end
section
variable {α:Type} [Flat α] {P:Program} {w w0 w':World} {A:Nat->Prop} {L:List HP} {b:Nat} {f:Int->List α}
abbrev yN (s:SV) (x:List α):HP:=bJ (Flat.val s) x
def m7 (b:Nat) (f:Int->List α):HP:=yJ λ ks=>yJ λ ss:List SV=>yJ λ oY:List (List α)=>fact (f=λ k=>(look ks oY k).getD []) (sep (GY b ks (ss.map Flat.val)) (gw yN ss oY))
def rk (w:World) (b:Nat) (f:Int->List α):Prop:=∃ ks,∃ ss:List SV,jN w b ks (ss.map Flat.val)/\(∀ (i:Nat) (k:Int) (s:SV),ks[i]? = some k->ss[i]? = some s->dx (λ _=>True) w (Flat.val s) (f k))/\∀ k,k ∉ ks->f k=[]
theorem rk.ext (h:rk w b f) (e:Ext w w'):rk w' b f:=by
 obtain ⟨ks,ss,h1,h2,h3⟩:=h; exact ⟨ks,ss,h1.ext e,λ i k s a c=>(h2 i k s a c).ext e,h3⟩
theorem mj {β:Type} {ks:List Int} {xs:List β} {k:Int} {i:Nat} {x:β} (hn:ks.Nodup) (h1:ks[i]? = some k) (h2:xs[i]? = some x):look ks xs k=some x:=by
 unfold look; rw [nW hn h1]; exact h2
theorem lY {β:Type} {ks:List Int} {xs:List β} {k:Int} (h:k ∉ ks):look ks xs k=none:=by unfold look; rw [jx.2 h]; rfl
theorem m7.rd {F:Nat->Prop} (h:(m7 b f).p w F):rk w b f:=by
 obtain ⟨ks,ss,oY,hf,F1,F2,h1,h2,_,_⟩:=h
 refine ⟨ks,ss,h1.1,λ i k s hk hs=>?_,λ k hk=>by rw [hf]; dsimp only; rw [lY hk]; rfl⟩
 have hl:=xh h2
 have hi:i<oY.length:=by have:=(List.getElem?_eq_some_iff.1 hs).1; omega
 have hx:oY[i]? = some oY[i]:=List.getElem?_eq_getElem hi
 have hst:St w F2 [gw yN ss oY] w:=St.begin h2
 have:=hst.ag3 hs hx (Φ:=λ w=>dx (λ _=>True) w (Flat.val s) oY[i]) λ h=>(bJ.rd h).mono λ _ _=>trivial
 rw [hf]; dsimp only
 rw [mj h1.1.nodup hk hx]; exact this
theorem St.R6 (hs:St w0 A (m7 b f::L) w):rk w b f:=by obtain ⟨F,h,_⟩:=hs.head; exact m7.rd h
theorem rk.look {T Kt E:TypeId} {k:Int} (h:rk w b f) (ht:P.underlying T=some (.map Kt E)) (hk:P.underlying Kt=some (.int .i64)) (hz:jI P E (.slice none 0 0)) :
  ∃ s:SV,(Instr.lookup T (.map (some b)) (.int .i64 k) false).run P w = .ok (Flat.val s) w/\dx (λ _=>True) w (Flat.val s) (f k):=by
 obtain ⟨ks,ss,h1,h2,h3⟩:=h
 have hr:=uV (P:=P) (k:=k) h1 ht hk hz
 cases oo:iL ks k with
 | none=>
  have:Fw.look ks (ss.map Flat.val) k=none:=by unfold Fw.look; rw [oo]; rfl
  rw [this] at hr
  exact ⟨⟨none,0,0⟩,hr,by rw [h3 k (jx.1 oo)]; exact dx.nil _ _⟩
 | some j=>
  have hj:=ie oo
  have hl:=h1.len
  have hjs:j<ss.length:=by have:=(List.getElem?_eq_some_iff.1 hj).1; simp at hl; omega
  have Mb:ss[j]? = some ss[j]:=List.getElem?_eq_getElem hjs
  have:Fw.look ks (ss.map Flat.val) k=some (Flat.val ss[j]):=by unfold Fw.look; rw [oo]; simp [Mb]
  rw [this] at hr
  exact ⟨_,hr,h2 j k _ hj Mb⟩
theorem rk.aiu {T Kt E:TypeId} {k:Int} (h:rk w0 b f) (ht:P.underlying T=some (.map Kt E)) (hk:P.underlying Kt=some (.int .i64)) (hz:jI P E (.slice none 0 0)) :
  ∃ s:SV,(∀ w,Ext w0 w->(Instr.lookup T (.map (some b)) (.int .i64 k) false).run P w = .ok (Flat.val s) w)/\dx (λ _=>True) w0 (Flat.val s) (f k):=by
 obtain ⟨ks,ss,h1,h2,h3⟩:=h
 have hr:∀ w,Ext w0 w->_:=λ w e=>uV (P:=P) (k:=k) (h1.ext e) ht hk hz
 cases oo:iL ks k with
 | none=>
  have:Fw.look ks (ss.map Flat.val) k=none:=by unfold Fw.look; rw [oo]; rfl
  rw [this] at hr
  exact ⟨⟨none,0,0⟩,hr,by rw [h3 k (jx.1 oo)]; exact dx.nil _ _⟩
 | some j=>
  have hj:=ie oo
  have hl:=h1.len
  have hjs:j<ss.length:=by have:=(List.getElem?_eq_some_iff.1 hj).1; simp at hl; omega
  have Mb:ss[j]? = some ss[j]:=List.getElem?_eq_getElem hjs
  have:Fw.look ks (ss.map Flat.val) k=some (Flat.val ss[j]):=by unfold Fw.look; rw [oo]; simp [Mb]
  rw [this] at hr
  exact ⟨_,hr,h2 j k _ hj Mb⟩
theorem xz {T Kt E:TypeId} {k:Int} {K:Value->Prop} (h:rk w0 b f) (e:Ext w0 w) (ht:P.underlying T=some (.map Kt E)) (hk:P.underlying Kt=some (.int .i64)) (hz:jI P E (.slice none 0 0))
  (kk:∀ s:SV,dx (λ _=>True) w0 (Flat.val s) (f k)->K (Flat.val s)):q7 P (Instr.lookup T (.map (some b)) (.int .i64 k) false) w K:=by
 obtain ⟨s,h1,h2⟩:=h.aiu (P:=P) (k:=k) ht hk hz; exact ⟨_,h1 w e,kk s h2⟩
def G3 (b:Nat) (f:Int->List α) (k:Int) (s:SV):HP:=yJ λ ks=>yJ λ ss:List SV=>yJ λ oY:List (List α)=>yJ λ vs:List Value=>
 fact ((∀ k',k'≠k->f k'=(look ks oY k').getD [])/\look ks vs k=(iL ks k).map (λ _=>Flat.val s)/\(iL ks k=none->s=⟨none,0,0⟩)/\vs.length=ss.length/\∀ (i:Nat) (k':Int),ks[i]? = some k'->k'≠k->vs[i]? = (ss[i]?).map Flat.val) (sep (GY b ks vs) (gw yN ss oY))
theorem St.G4 {k:Int} (hs:St w0 A (m7 b f::L) w):∃ s:SV,St w0 A (bJ (Flat.val s) (f k)::G3 b f k s::L) w:=by
 obtain ⟨ks,hs⟩:=hs.eH; obtain ⟨ss,hs⟩:=hs.eH; obtain ⟨oY,hs⟩:=hs.eH; obtain ⟨hf,hs⟩:=hs.vN
 replace hs:=hs.split
 have hm:=hs.G0
 have hl:=hm.len
 have vi:=hs.p1.js
 have hn:=hm.nodup
 rw [List.length_map] at hl
 cases oo:iL ks k with
 | none=>
  refine ⟨⟨none,0,0⟩,?_⟩
  have hx:look ks oY k=none:=by unfold look; rw [oo]; rfl
  have e:f k=[]:=by rw [hf]; dsimp only; rw [hx]; rfl
  rw [e]
  refine (St.eb ks (St.eb ss (St.eb oY (St.eb (ss.map Flat.val) (St.re ⟨λ k' _=>by rw [hf],by unfold look; rw [oo]; rfl,λ _=>rfl,by rw [List.length_map],λ i k' _ _=>by rw [List.getElem?_map]⟩ (St.join hs)))))).fy
 | some j=>
  have hj:=ie oo
  have hjk:=(List.getElem?_eq_some_iff.1 hj).1
  have Mb:ss[j]? = some (ss[j]'(by omega)):=List.getElem?_eq_getElem _
  have hxj:oY[j]? = some (oY[j]'(by omega)):=List.getElem?_eq_getElem _
  refine ⟨ss[j]'(by omega),?_⟩
  have e:f k=oY[j]'(by omega):=by rw [hf]; dsimp only; rw [mj hn hj hxj]; rfl
  rw [e]
  have h1:=(hs.p1.focus Mb hxj).p1
  have h2:=(h1.fy (α:=α)).p1
  have h3:St w0 A (yN (⟨none,0,0⟩:SV) ([]:List α)::m4 yN ss oY j::_::_::L) w:=h2.p1
  have h4:=h3.zZ (by omega) vi
  have h5:=h4.p2
  refine (St.eb ks (St.eb (ss.set j ⟨none,0,0⟩) (St.eb (oY.set j []) (St.eb (ss.map Flat.val) (St.re ⟨λ k' Bs=>?_,by unfold look; rw [oo]; simp [Mb],λ h=>(by cases oo.symm.trans h),(by simp),λ i k' hi Bs=>?_⟩ (St.join h5)))))).p1
  ·rw [hf]; dsimp only
   unfold look
   cases hq:iL ks k' with
   | none=>rfl
   | some i=>
    have:j≠i:=λ e=>Bs (by have:=ie hq; rw [<- e,hj] at this; exact (Option.some.inj this).symm)
    simp [this]
  ·rw [List.getElem?_map,List.getElem?_set_ne]
   rintro rfl
   rw [hj] at hi; exact Bs (Option.some.inj hi).symm
theorem St.xA {T Kt E:TypeId} {k:Int} {s:SV} (hs:St w0 A (G3 b f k s::L) w) (ht:P.underlying T=some (.map Kt E)) (hk:P.underlying Kt=some (.int .i64)) (hz:jI P E (.slice none 0 0)) :
  (Instr.lookup T (.map (some b)) (.int .i64 k) false).run P w = .ok (Flat.val s) w:=by
 obtain ⟨ks,hs⟩:=hs.eH; obtain ⟨ss,hs⟩:=hs.eH; obtain ⟨oY,hs⟩:=hs.eH; obtain ⟨vs,hs⟩:=hs.eH; obtain ⟨⟨_,h2,h3,_⟩,hs⟩:=hs.vN
 have:=uV (P:=P) (k:=k) hs.split.G0 ht hk hz
 rw [h2] at this
 cases oo:iL ks k with
 | none=>rw [oo] at this; rw [h3 oo]; exact this
 | some j=>rw [oo] at this; exact this
theorem St.R7 {k:Int} {s:SV} {xs:List α} (hs:St w0 A (bJ (Flat.val s) xs::G3 b f k s::L) w):St w0 A (m7 b (lD f k xs)::L) w:=by
 replace hs:=hs.p1
 obtain ⟨ks,hs⟩:=hs.eH; obtain ⟨ss,hs⟩:=hs.eH; obtain ⟨oY,hs⟩:=hs.eH; obtain ⟨vs,hs⟩:=hs.eH; obtain ⟨⟨hf,h2,h3,hvs,R8⟩,hs⟩:=hs.vN
 replace hs:=hs.split
 have hm:=hs.G0
 have hl:=hm.len
 have hn:=hm.nodup
 have vi:=hs.p1.js
 cases oo:iL ks k with
 | none=>
  have hnk:=jx.1 oo
  have hval:vs=ss.map Flat.val:=List.ext_getElem? λ i=>by
   cases hi:ks[i]? with
   | none=>rw [List.getElem?_eq_none_iff] at hi; rw [List.getElem?_eq_none (by omega),List.getElem?_eq_none (by rw [List.length_map]; omega)]
   | some k'=>rw [R8 i k' hi (λ e=>hnk (e▸List.mem_of_getElem? hi)),List.getElem?_map]
  have hx:xs=[]:=by
   obtain ⟨F,h,_⟩:=hs.p2.head
   rw [h3 oo] at h
   rcases h with ⟨_,h,_⟩ | ⟨b',cap,rest,h,_⟩
   ·exact h
   ·cases h
  subst hx
  refine St.eb ks (St.eb ss (St.eb oY (St.re ?_ (St.join ?_))))
  ·funext k'
   unfold lD
   by_cases e:k'=k
   ·subst e; rw [if_pos rfl,lY hnk]; rfl
   ·rw [if_neg e,hf k' e]
  ·rw [<- hval]; exact hs.p2.drop
 | some j=>
  have hj:=ie oo
  have hjk:=(List.getElem?_eq_some_iff.1 hj).1
  have Mb:ss[j]? = some (ss[j]'(by omega)):=List.getElem?_eq_getElem _
  have hxj:oY[j]? = some (oY[j]'(by omega)):=List.getElem?_eq_getElem _
  have hvj:vs[j]? = some (Flat.val s):=by unfold look at h2; rw [oo] at h2; exact h2
  have h6:=((hs.p1.focus Mb hxj).drop).p2
  have h7:St w0 A (yN s xs::m4 yN ss oY j::_::L) w:=h6.p0
  have h8:=h7.zZ (by omega) vi
  refine St.eb ks (St.eb (ss.set j s) (St.eb (oY.set j xs) (St.re ?_ (St.join ?_))))
  ·funext k'
   unfold lD
   by_cases e:k'=k
   ·subst e
    rw [if_pos rfl,mj hn hj (x:=xs) (by rw [List.getElem?_set_self (by omega)])]; rfl
   ·rw [if_neg e,hf k' e]
    unfold look
    cases hq:iL ks k' with
    | none=>rfl
    | some i=>
     have:j≠i:=λ e'=>e (by have:=ie hq; rw [<- e',hj] at this; exact (Option.some.inj this).symm)
     simp [this]
  ·have e:(ss.set j s).map Flat.val=vs:=by
    apply List.ext_getElem?
    intro i
    rw [List.getElem?_map]
    by_cases e:j=i
    ·subst e; rw [List.getElem?_set_self (by omega),hvj]; rfl
    ·rw [List.getElem?_set_ne e]
     cases hi:ks[i]? with
     | none=>rw [List.getElem?_eq_none_iff] at hi; rw [List.getElem?_eq_none (show vs.length<=i by omega),List.getElem?_eq_none (show ss.length<=i by omega)]; rfl
     | some k'=>rw [R8 i k' hi (λ e'=>e (by rw [e'] at hi; have h1:=nW hn hi; rw [oo] at h1; exact Option.some.inj h1))]
   rw [e]; exact h8.p1
omit [Flat α] in
theorem Of {f:Int->List α} {k:Int}:lD f k (f k)=f:=by
 funext j; unfold lD; split
 ·rename_i h; rw [h]
 rfl
theorem G5 {T Kt E:TypeId} {k:Int} {s s':SV} {xs:List α} {K:World->Prop} (hs:St w0 A (bJ (Flat.val s') xs::G3 b f k s::L) w) (ht:P.underlying T=some (.map Kt E)) (hk:P.underlying Kt=some (.int .i64))
  (kk:∀ w',St w0 A (m7 b (lD f k xs)::L) w'->K w'):BT P (Instr.mapUpdate T (.map (some b)) (.int .i64 k) (Flat.val s')) w K:=by
 replace hs:=hs.p1
 obtain ⟨ks,hs⟩:=hs.eH; obtain ⟨ss,hs⟩:=hs.eH; obtain ⟨oY,hs⟩:=hs.eH; obtain ⟨vs,hs⟩:=hs.eH; obtain ⟨⟨hf,h2,h3,hvs,R8⟩,hs⟩:=hs.vN
 replace hs:=hs.split
 have hm:=hs.G0
 have hl:=hm.len
 have hn:=hm.nodup
 have vi:=hs.p1.js
 obtain ⟨w',r1,r2,r3⟩:=Xo (P:=P) (v:=Flat.val s') (k:=k) hm ht hk
 refine ⟨w',r1,kk w' ?_⟩
 cases oo:iL ks k with
 | none=>
  rw [oo] at r3
  have h5:St w0 A (GY b (ks++[k]) (vs++[Flat.val s'])::_::_::L) w':=hs.kV λ F hF=>⟨F,⟨r3,hF.2⟩,λ b hb=>.inl hb,r2.mono λ k hk=>(hF.2 k).2 hk⟩
  have hnk:=jx.1 oo
  have hval:vs=ss.map Flat.val:=List.ext_getElem? λ i=>by
   cases hi:ks[i]? with
   | none=>rw [List.getElem?_eq_none_iff] at hi; rw [List.getElem?_eq_none (by omega),List.getElem?_eq_none (by rw [List.length_map]; omega)]
   | some k'=>rw [R8 i k' hi (λ e=>hnk (e▸List.mem_of_getElem? hi)),List.getElem?_map]
  have h6:=h5.p1
  have h7:St w0 A (gw yN (ss++[s']) (oY++[xs])::_::L) w':=St.F0 (H:=yN (α:=α)) (p:=s') (x:=xs) h6.p2.p1
  refine St.eb (ks++[k]) (St.eb (ss++[s']) (St.eb (oY++[xs]) (St.re ?_ (St.join ?_))))
  ·funext k'
   unfold lD
   by_cases e:k'=k
   ·subst e
    rw [if_pos rfl,mj (i:=ks.length) r3.nodup (by simp) (x:=xs) (by rw [List.getElem?_append_right (by omega)]; simp [show ks.length - oY.length=0 from by omega])]; rfl
   ·rw [if_neg e,hf k' e]
    by_cases rN:k'∈ks
    ·obtain ⟨i,hi,Ps⟩:=List.getElem_of_mem rN
     have US:ks[i]? = some k':=by rw [List.getElem?_eq_getElem hi,Ps]
     have N4:oY[i]? = some (oY[i]'(by omega)):=List.getElem?_eq_getElem _
     rw [mj hn US N4,mj (i:=i) r3.nodup (by rw [List.getElem?_append_left hi]; exact US) (by rw [List.getElem?_append_left (by omega)]; exact N4)]
    ·rw [lY rN,lY (by simp [rN,e])]
  ·have e:(ss++[s']).map Flat.val=vs++[Flat.val s']:=by rw [hval,List.map_append]; rfl
   rw [e]; exact h7.p1
 | some j=>
  rw [oo] at r3
  have h5:St w0 A (GY b ks (vs.set j (Flat.val s'))::_::_::L) w':=hs.kV λ F hF=>⟨F,⟨r3,hF.2⟩,λ b hb=>.inl hb,r2.mono λ k hk=>(hF.2 k).2 hk⟩
  have hj:=ie oo
  have hjk:=(List.getElem?_eq_some_iff.1 hj).1
  have Mb:ss[j]? = some (ss[j]'(by omega)):=List.getElem?_eq_getElem _
  have hxj:oY[j]? = some (oY[j]'(by omega)):=List.getElem?_eq_getElem _
  have h6:=((h5.p1.focus Mb hxj).drop).p2
  have h7:St w0 A (yN s' xs::m4 yN ss oY j::_::L) w':=h6.p0
  have h8:=h7.zZ (by omega) vi
  refine St.eb ks (St.eb (ss.set j s') (St.eb (oY.set j xs) (St.re ?_ (St.join ?_))))
  ·funext k'
   unfold lD
   by_cases e:k'=k
   ·subst e
    rw [if_pos rfl,mj hn hj (x:=xs) (by rw [List.getElem?_set_self (by omega)])]; rfl
   ·rw [if_neg e,hf k' e]
    unfold look
    cases hq:iL ks k' with
    | none=>rfl
    | some i=>
     have:j≠i:=λ e'=>e (by have:=ie hq; rw [<- e',hj] at this; exact (Option.some.inj this).symm)
     simp [this]
  ·have e:(ss.set j s').map Flat.val=vs.set j (Flat.val s'):=by
    apply List.ext_getElem?
    intro i
    rw [List.getElem?_map]
    by_cases e:j=i
    ·subst e; rw [List.getElem?_set_self (by omega),List.getElem?_set_self (by omega)]; rfl
    ·rw [List.getElem?_set_ne e,List.getElem?_set_ne e]
     cases hi:ks[i]? with
     | none=>rw [List.getElem?_eq_none_iff] at hi; rw [List.getElem?_eq_none (show vs.length<=i by omega),List.getElem?_eq_none (show ss.length<=i by omega)]; rfl
     | some k'=>rw [R8 i k' hi (λ e'=>e (by rw [e'] at hi; have h1:=nW hn hi; rw [oo] at h1; exact Option.some.inj h1))]
   rw [e]; exact h8.p1
theorem wk {T:TypeId} {K:Value->World->Prop} (hs:St w0 A L w) (k:∀ b w',St w0 A (m7 b (λ _=>([]:List α))::L) w'->K (.map (some b)) w'):gd P (Instr.makeMap T none) w K:=
 GZ hs λ b w' h=>k b w' (St.eb [] (St.eb [] (St.eb ([]:List (List α)) (St.re rfl (St.join ((h.new (Ext.refl w') (H:=gw yN [] []) (F:=bD) (λ _ h=>h) λ _ h=>h.elim).p1))))))
theorem G6 {T Kt E R:TypeId} {k:Int} {A2:Array TypeId} {K:Value->World->Prop} (hs:St w0 A (m7 b f::L) w) (ha:A2[0]? = some T) (ht:P.underlying T=some (.map Kt E)) (hk:P.underlying Kt=some (.int .i64))
  (kk:∀ v w',St w0 A (m7 b (lD f k [])::L) w'->K v w'):gd P (Builtin.delete_ A2 R [.map (some b),.int .i64 k].toArray) w K:=by
 obtain ⟨ks,hs⟩:=hs.eH; obtain ⟨ss,hs⟩:=hs.eH; obtain ⟨oY,hs⟩:=hs.eH; obtain ⟨hf,hs⟩:=hs.vN
 replace hs:=hs.split
 have hm:=hs.G0
 have hl:=hm.len
 have vi:=hs.p1.js
 have hn:=hm.nodup
 rw [List.length_map] at hl
 obtain ⟨w',r1,r2,r3⟩:=Xr (P:=P) (R:=R) (k:=k) hm ha ht hk
 refine ⟨_,w',r1,kk _ w' ?_⟩
 cases oo:iL ks k with
 | none=>
  rw [oo] at r3
  have h5:St w0 A (GY b ks (ss.map Flat.val)::_::L) w':=hs.kV λ F hF=>⟨F,⟨r3,hF.2⟩,λ b hb=>.inl hb,r2.mono λ k hk=>(hF.2 k).2 hk⟩
  refine St.eb ks (St.eb ss (St.eb oY (St.re ?_ (St.join h5))))
  funext k'
  unfold lD
  by_cases e:k'=k
  ·subst e; rw [if_pos rfl]; unfold look; rw [oo]; rfl
  ·rw [if_neg e,hf]
 | some j=>
  rw [oo] at r3
  have hj:=ie oo
  have hjk:=(List.getElem?_eq_some_iff.1 hj).1
  have h5:St w0 A (GY b (ks.eraseIdx j) ((ss.map Flat.val).eraseIdx j)::_::L) w':=hs.kV λ F hF=>⟨F,⟨r3,hF.2⟩,λ b hb=>.inl hb,r2.mono λ k hk=>(hF.2 k).2 hk⟩
  have Mb:ss[j]? = some (ss[j]'(by omega)):=List.getElem?_eq_getElem _
  have hxj:oY[j]? = some (oY[j]'(by omega)):=List.getElem?_eq_getElem _
  have h6:=(h5.p1.focus Mb hxj).drop.NB
  dsimp only at r3
  rw [<- ChangeMaps.map_eraseIdx] at h6 r3
  refine St.eb (ks.eraseIdx j) (St.eb (ss.eraseIdx j) (St.eb (oY.eraseIdx j) (St.re ?_ (St.join h6.p1))))
  funext k'
  unfold lD
  by_cases e:k'=k
  ·subst e
   rw [if_pos rfl,lY]; rfl
   intro tM
   obtain ⟨i,hi,Ps⟩:=List.getElem_of_mem tM
   rw [List.getElem_eraseIdx] at Ps
   split at Ps
   ·have:=nW (j:=i) hn (k:=k') (by rw [<- Ps]; exact List.getElem?_eq_getElem _); rw [oo] at this; have:=Option.some.inj this; omega
   ·have:=nW (j:=i+1) hn (k:=k') (by rw [<- Ps]; exact List.getElem?_eq_getElem _); rw [oo] at this; have:=Option.some.inj this; omega
  ·rw [if_neg e,hf]; dsimp only
   by_cases rN:k'∈ks
   ·obtain ⟨i,hi,Ps⟩:=List.getElem_of_mem rN
    have US:ks[i]? = some k':=by rw [List.getElem?_eq_getElem hi,Ps]
    have N4:oY[i]? = some (oY[i]'(by omega)):=List.getElem?_eq_getElem _
    have Xq:i≠j:=λ e'=>e (by rw [e',hj] at US; exact (Option.some.inj US).symm)
    rw [mj hn US N4]
    by_cases eU:i<j
    ·rw [mj (i:=i) r3.nodup (by rw [List.getElem?_eraseIdx_of_lt eU]; exact US) (by rw [List.getElem?_eraseIdx_of_lt eU]; exact N4)]
    ·rw [mj (i:=i - 1) r3.nodup (by rw [List.getElem?_eraseIdx_of_ge (by omega),show i - 1+1=i from by omega]; exact US) (by rw [List.getElem?_eraseIdx_of_ge (by omega),show i - 1+1=i from by omega]; exact N4)]
   ·rw [lY rN,lY (λ h=>rN ((List.eraseIdx_sublist ks j).subset h))]
end
section
variable {α:Type} [Flat α] {P:Program} {w w0 w':World} {A S:Nat->Prop} {L:List HP} {xs ys:List α}
theorem AE {T T2 E by' b o dn dc:Nat} {z:Option Nat} {R:TypeId} {src:Value} {cs:List Value} (ht:cT P T=some (E,Flat.sz α,by',z)) (hb:q9 w b cs) (pw:dx S w src ys)
  (hn:ys.length<=dn) (uK:o+ys.length * Flat.sz α<=cs.length) :
  ∃ w',(Builtin.copy_ #[T,T2] R [.slice (some ⟨b,o,none⟩) dn dc,src].toArray).run P w = .ok (.int .i64 ys.length) w'/\q9 w' b (eC cs o (flat ys))/\gM (· = b) w w':=by
 obtain ⟨hu,inf,hi,iN,nJ,_⟩:=dz ht
 have hf:=sU (α:=α) (P:=P) (sz:=Flat.sz α) rfl pw
 have rd:=pw
 obtain ⟨sa,Qm,rfl,hsc,hs3⟩:=rd
 obtain ⟨w',h1,h2,h3⟩:=jC (P:=P) (o:=o) (flat ys) 0 cs w hb (by rw [bZ]; omega) vz
 refine ⟨w',?_,by simpa using h2,h3⟩
 simp [Builtin.copy_,run_underlying hu,sizeOf,typeInfo,hi,Builtin.lenOf,Nat.min_eq_left hn,hf,iN,h1,goInt]
theorem G7 {T T2 E by':Nat} {z:Option Nat} {R:TypeId} {v src:Value} {K:Value->World->Prop} (hs:St w0 A (bJ v xs::L) w) (ht:cT P T=some (E,Flat.sz α,by',z)) (pw:dx S w src ys) (hn:ys.length<=xs.length)
  (k:∀ w',St w0 A (bJ v (ys++xs.drop ys.length)::L) w'->K (.int .i64 ys.length) w'):gd P (Builtin.copy_ #[T,T2] R [v,src].toArray) w K:=by
 obtain ⟨U,F,U',g1,g2,g3,g4,g5⟩:=hs.oO
 rcases g1 with ⟨rfl,rfl,hF⟩ | ⟨b,cap,rest,rfl,hb,hl,hF⟩
 ·obtain rfl:ys=[]:=by simpa using hn
  obtain ⟨hu,inf,hi,iN,nJ,_⟩:=dz ht
  have hf:=sU (α:=α) (P:=P) (sz:=Flat.sz α) rfl pw
  obtain ⟨sa,Qm,rfl,hsc,hs3⟩:=pw
  refine ⟨_,w,?_,k w hs⟩
  simp at hf
  simp [Builtin.copy_,run_underlying hu,sizeOf,typeInfo,hi,Builtin.lenOf,iN,hf,goInt]
 have hle:ys.length * Flat.sz α<=xs.length * Flat.sz α:=Nat.mul_le_mul_right _ hn
 obtain ⟨w',h1,h2,h3⟩:=AE (P:=P) (o:=0) (dn:=xs.length) (dc:=cap) (T2:=T2) (R:=R) ht hb pw hn (by rw [List.length_append,bZ]; omega)
 refine ⟨_,w',h1,k w' (hs.kV λ F' hF'=>?_)⟩
 rcases hF' with ⟨h,_⟩ | ⟨b',BC,rest',hv,oE,hl',hF'⟩
 ·cases h
 simp only [Value.slice.injEq,Option.some.injEq,Addr.mk.injEq,and_true,true_and] at hv
 obtain ⟨rfl,rfl⟩:=hv
 refine ⟨F',.inr ⟨b,cap,rest,?_,?_,?_,hF'⟩,λ b hb=>.inl hb,h3.mono λ k hk=>(hF' k).2 hk⟩
 ·congr 1; rw [List.length_append,List.length_drop]; omega
 ·have e:flat xs=[]++flat (xs.take ys.length)++flat (xs.drop ys.length):=by rw [List.nil_append,<- fJ,List.take_append_drop]
  have:=iU [] (flat (xs.take ys.length)) (flat (xs.drop ys.length)++rest) (flat ys) (by rw [bZ,bZ,List.length_take,Nat.min_eq_left hn])
  rw [List.length_nil] at this
  rw [e,List.append_assoc,this] at h2
  rw [fJ,List.append_assoc]; exact h2
 have e3:(ys++xs.drop ys.length).length=xs.length:=by rw [List.length_append,List.length_drop]; omega
 exact ⟨by rw [e3]; exact hl.1,by have:=hl.2; rw [List.length_append,bZ] at this |-; rw [e3]; exact this⟩
end
section
variable {P:Program} {w w0 w':World} {A:Nat->Prop} {L:List HP} {b r:Nat}
def CA (r m since:Nat) (seen:Array Nat):HP where
 p w F:=w.heap[r]? = some (.mapIter (some m) since seen since)/\∀ k,F k↔k=r
 loc w w' F h hh:=⟨(hh r ((h.2 r).2 rfl)).trans h.1,h.2⟩
 lt w F b' h hb:=by rw [(h.2 b').1 hb]; exact gF h.1
theorem Og {T Kt E:TypeId} {es:Array MapEntry} {clock:Nat} {K:Value->World->Prop} (hs:St w0 A L w) (ht:P.underlying T=some (.map Kt E)) (hb:w.heap[b]? = some (.map es clock))
  (k:∀ r w',St w0 A (CA r b clock #[]::L) w'->K (.pointer (some ⟨r,0,none⟩)) w'):gd P (Instr.range T (.map (some b))) w K:=
 ⟨_,_,run_range_map w T Kt E b es clock ht hb,k _ _ (hs.new (Ext.push w _) (F:=λ k=>k=w.heap.size) ⟨jX _ _,λ _=>Iff.rfl⟩ λ b hb=>by rw [hb]; exact Nat.le_refl _)⟩
theorem R9 {T since:Nat} {seen:Array Nat} {es:Array MapEntry} {K:Value->World->Prop} (hs:St w0 A (CA r b since seen::L) w) (hb:w.heap[b]? = some (.map es since)) (hold:∀ x∈es.toList,x.born<since)
  (k0:(leftOf es seen).size=0->K (.tuple #[.bool false]) w)
  (k1:∀ e w',e∈(leftOf es seen).toList->St w0 A (CA r b since (seen.push e.born)::L) w'->K (.tuple #[.bool true,e.key,e.val]) w'):gd P (Instr.next (.pointer (some ⟨r,0,none⟩)) false T) w K:=by
 obtain ⟨F,h,_⟩:=hs.head
 rcases run_next_at (P:=P) w T r b since since seen es since h.1 hb hold (Nat.le_refl _) with ⟨h1,h2⟩ | ⟨e,he,w1,hw,h2⟩
 ·exact ⟨_,w,h2,k0 h1⟩
 have e1:St w0 A (CA r b since seen::L) w1:=by
  rcases hw with rfl | rfl
  ·exact hs
  ·exact hs.ext ⟨rfl,rfl,rfl,Nat.le_refl _,λ _ _ _=>rfl⟩
 refine ⟨_,_,h2,k1 e _ he (e1.kV λ F hF=>⟨F,⟨gV _ (gF hF.1),hF.2⟩,λ b hb=>.inl hb,(gM.setBlock w1 r _).mono λ k hk=>(hF.2 k).2 hk⟩)⟩
theorem Oh {since:Nat} {seen:Array Nat} {es:Array MapEntry} {e:MapEntry} {K:Value->Prop} (hs:St w0 A (CA r b since (seen.push e.born)::L) w) (hb:w.heap[b]? = some (.map es since)) (he:e∈es.toList) (hn:(es.toList.map (·.born)).Nodup)
  (k:K (.tuple #[e.key,e.val])):q7 P (Instr.entry (.pointer (some ⟨r,0,none⟩))) w K:=by
 obtain ⟨F,h,_⟩:=hs.head
 exact ⟨_,run_entry_at w r b since seen es since e h.1 hb he hn,k⟩
theorem AF {o:Obj} (h:w.heap[b]? = some o) (e:Ext w w'):w'.heap[b]? = some o:=(e.cP b (gF h) λ h=>h).trans h
theorem sC {seen:Array Nat} {x y:Nat} (h:(seen.push x).contains y=true):seen.contains y=true\/y=x:=by
 simp at h |-; exact h
theorem born_inj {es:Array MapEntry} (hn:(es.toList.map (·.born)).Nodup) {e e':MapEntry} (h:e∈es.toList) (h':e'∈es.toList) (hb:e.born=e'.born):e=e':=by
 obtain ⟨i,hi,rfl⟩:=List.getElem_of_mem h
 obtain ⟨j,hj,rfl⟩:=List.getElem_of_mem h'
 have:=(List.getElem_inj (i:=i) (j:=j) (h₀:=by simpa using hi) (h₁:=by simpa using hj) hn).1 (by simpa using hb)
 subst this; rfl
end
section
variable {P:Program} {w w0 w':World} {A:Nat->Prop} {L:List HP} {b r:Nat}
def G8 (P:Program) (n T E:Nat):Prop:=P.underlying T=some (.array n E)/\P.underlying E=some (.int .i64)/\pr P (sizeOf E)=some 1
abbrev wm (xs:List Int):Value:=.agg (xs.map (Value.int .i64)).toArray
theorem G9 {β:Type} {f:Nat->β->Sem (ForInStep β)} {g:Nat->Bool} {x0 stop:β}:∀ l:List Nat,(∀ i∈l,pr P (f i x0)=some (if g i=true then .yield x0 else .done stop))->pr P (forIn l x0 f)=some (if l.all g=true then x0 else stop)
 | [],_=>by simp [cR]
 | i::l,h=>by
  rw [List.forIn_cons,aK,h i (by simp)]
  by_cases hg:g i=true
  ·rw [if_pos hg]
   simp only [Option.bind_some]
   rw [G9 l λ j hj=>h j (by simp [hj])]
   simp [hg]
  ·rw [if_neg hg]
   simp [hg,cR]
theorem uW {E:TypeId} {xs:List Int} {i:Nat} (hE:P.underlying E=some (.int .i64)) (hi:i<xs.length):pr P (part E (xs.map (Value.int .i64)).toArray i)=some (.int .i64 xs[i]):=
 Dz (n:=0) hE rfl (by simp [hi])
theorem Xs {n T E:Nat} {xs ys:List Int} (h:G8 P n T E) (hx:xs.length=n) (hy:ys.length=n):pr P (Op.equal T (wm xs) (wm ys))=some (decide (xs=ys)):=by
 obtain ⟨ht,he,hs⟩:=h
 have e:∀ x y:Int,pr P (Op.equalIn 9999 E (.int .i64 x) (.int .i64 y))=some (decide (x=y)):=λ x y=>by
  rw [ye (k:=9998) (n:=0) he rfl rfl rfl]; rfl
 show pr P (Op.equalIn (9999+1) T _ _)=_
 unfold Op.equalIn
 rw [aK,aM ht]
 simp only [Option.bind_some,aK,hs]
 simp only [Std.Legacy.Range.forIn_eq_forIn_range',Std.Legacy.Range.size,Nat.sub_zero,Nat.add_sub_cancel,Nat.div_one,Nat.mul_one]
 rw [G9 (g:=λ i=>decide (xs[i]? = ys[i]?)) (stop:=⟨some false,PUnit.unit⟩)]
 ·by_cases hxy:xs=ys
  ·subst hxy
   simp [cR]
  have:(List.range' 0 n).all (λ i=>decide (xs[i]? = ys[i]?))=false:=by
   rw [List.all_eq_false]
   apply Classical.byContradiction
   intro hc
   apply hxy
   apply List.ext_getElem?
   intro i
   apply Classical.byContradiction
   intro iS
   by_cases hi:i<n
   ·exact hc ⟨i,by simp [List.mem_range']; omega,by simpa using iS⟩
   ·exact iS (by rw [List.getElem?_eq_none (by omega),List.getElem?_eq_none (by omega)])
  simp [this,hxy,cR]
 intro i hi
 have yW:i<n:=by simp [List.mem_range'] at hi; omega
 simp only [aK,uW he (show i<xs.length by omega),uW he (show i<ys.length by omega),Option.bind_some,e]
 rw [List.getElem?_eq_getElem (show i<xs.length by omega),List.getElem?_eq_getElem (show i<ys.length by omega)]
 by_cases hq:xs[i]'(by omega)=ys[i]'(by omega)
 ·simp [hq,cR]
 simp [hq,cR]
def JN (b n:Nat) (ks:List (List Int)):HP where
 p w F:=(∃ es clock,w.heap[b]? = some (.map es clock)/\es.toList.map (·.key)=ks.map wm/\(∀ e∈es.toList,e.val = .bool true)/\∀ k∈ks,k.length=n)/\∀ k,F k↔k=b
 loc w w' F h hh:=by
  obtain ⟨⟨es,c,h1,h2⟩,h3⟩:=h; exact ⟨⟨es,c,(hh b ((h3 b).2 rfl)).trans h1,h2⟩,h3⟩
 lt w F b' h hb:=by obtain ⟨⟨es,c,h1,h2⟩,h3⟩:=h; rw [(h3 b').1 hb]; exact gF h1
theorem Ha {T n:TypeId} {K:Value->World->Prop} (hs:St w0 A L w) (k:∀ b w',St w0 A (JN b n []::L) w'->K (.map (some b)) w'):gd P (Instr.makeMap T none) w K:=
 ⟨_,_,rfl,k _ _ (hs.new (Ext.push w (.map #[] 0)) (F:=λ k=>k=w.heap.size) ⟨⟨#[],0,jX _ _,rfl,by simp,by simp⟩,λ _=>Iff.rfl⟩ λ b hb=>by rw [hb]; exact Nat.le_refl _)⟩
theorem Sa {T E n:Nat} {x:List Int} (h:G8 P n T E) (hx:x.length=n):∀ (es:List MapEntry) (ks:List (List Int)) (i:Nat),es.map (·.key)=ks.map wm->(∀ k∈ks,k.length=n)->(∀ e∈es,e.val = .bool true)->
  (x ∉ ks/\pr P (Instr.findAsking T (wm x) es i)=some none)\/(x∈ks/\∃ j,pr P (Instr.findAsking T (wm x) es i)=some (some (j,.bool true)))
 | [],ks,i,hk,_,_=>by
  have:ks=[]:=by simpa using hk.symm
  subst this
  exact .inl ⟨by simp,rfl⟩
 | e::es,[],i,hk,_,_=>by simp at hk
 | e::es,k::ks,i,hk,hl,hv=>by
  simp only [List.map_cons,List.cons.injEq] at hk
  have he:pr P (Op.equal T (wm x) e.key)=some (decide (x=k)):=by rw [hk.1]; exact Xs h hx (hl k (by simp))
  unfold Instr.findAsking
  rw [aK,he]
  simp only [Option.bind_some]
  by_cases hxk:x=k
  ·subst hxk
   refine .inr ⟨by simp,i,?_⟩
   simp [cR,hv e (by simp)]
  ·rcases Sa h hx es ks (i+1) hk.2 (λ k hk=>hl k (by simp [hk])) (λ e he=>hv e (by simp [he])) with ⟨h1,h2⟩ | ⟨h1,j,h2⟩
   ·exact .inl ⟨by simp [hxk,h1],by simp [hxk,h2]⟩
   ·exact .inr ⟨by simp [h1],j,by simp [hxk,h2]⟩
theorem Hb {E:TypeId} {x:Int} {em:Bool} (hE:P.underlying E=some (.int .i64)):pr P (Instr.checkKey em 9999 E (.int .i64 x))=some ():=by
 show pr P (Instr.checkKey em (9998+1) E _)=_
 unfold Instr.checkKey
 rw [aK,aM hE]; rfl
theorem AG {f:Nat->PUnit->Sem (ForInStep PUnit)}:∀ l:List Nat,(∀ i∈l,pr P (f i ⟨⟩)=some (.yield ⟨⟩))->pr P (forIn l PUnit.unit f)=some ⟨⟩
 | [],_=>by simp [cR]
 | i::l,h=>by
  rw [List.forIn_cons,aK,h i (by simp)]
  simp only [Option.bind_some]
  exact AG l λ j hj=>h j (by simp [hj])
theorem yq {T E n:Nat} {x:List Int} {em:Bool} (h:G8 P n T E) (hx:x.length=n):pr P (Instr.checkKey em 10000 T (wm x))=some ():=by
 obtain ⟨ht,he,hs⟩:=h
 show pr P (Instr.checkKey em (9999+1) T _)=_
 unfold Instr.checkKey
 rw [aK,aM ht]
 simp only [Option.bind_some,aK,hs]
 simp only [Std.Legacy.Range.forIn_eq_forIn_range',Std.Legacy.Range.size,Nat.sub_zero,Nat.add_sub_cancel,Nat.div_one,Nat.mul_one]
 rw [AG]
 ·rfl
 intro i hi
 have yW:i<n:=by simp [List.mem_range'] at hi; omega
 simp only [aK,hs,Option.bind_some,Nat.mul_one,uW he (show i<x.length by omega),Hb he,cR]
theorem Mc {T E n:Nat} {x:List Int} {es:List MapEntry} {ks:List (List Int)} (h:G8 P n T E) (hx:x.length=n) (hk:es.map (·.key)=ks.map wm) (hl:∀ k∈ks,k.length=n) (hv:∀ e∈es,e.val = .bool true) :
  (x ∉ ks/\pr P (Instr.findKey T (wm x) es)=some none)\/(x∈ks/\∃ j,pr P (Instr.findKey T (wm x) es)=some (some (j,.bool true))):=by
 unfold Instr.findKey
 rw [aK,aM h.1]
 simp only [Option.bind_some]
 cases es with
 | nil=>
  have:ks=[]:=by simpa using hk.symm
  subst this
  exact .inl ⟨by simp,rfl⟩
 | cons e es=>exact Sa h hx (e::es) ks 0 hk hl hv
theorem Xt {T Kt E Et n:Nat} {x:List Int} {ks:List (List Int)} {K:Value->Prop} (hs:St w0 A (JN b n ks::L) w) (ht:P.underlying T=some (.map Kt Et)) (h:G8 P n Kt E) (hz:jI P Et (.bool false)) (hx:x.length=n)
  (k:K (.bool (decide (x∈ks)))):q7 P (Instr.lookup T (.map (some b)) (wm x) false) w K:=by
 obtain ⟨F,⟨⟨es,c,h1,h2,h3,h4⟩,h5⟩,_⟩:=hs.head
 refine ⟨_,?_,k⟩
 have Ql:(zeroValue Et).run P w = .ok (.bool false) w:=by
  unfold jI cH at hz
  cases hi:P.info? Et with
  | none=>rw [hi] at hz; cases hz
  | some i=>
   rw [hi] at hz
   simp only [Option.map_some,Option.some.injEq] at hz
   refine bM ?_ w
   unfold zeroValue; rw [aK,fS hi]; simp only [Option.bind_some,hz]; rfl
 have hc:=bM (yq (em:=es.isEmpty) h hx) w
 rcases Mc h hx h2 h4 h3 with ⟨h6,h7⟩ | ⟨h6,j,h7⟩
 ·have h8:=bM h7 w
  simp [Instr.lookup,run_underlying ht,MapKept.run_getObj_map h1,hc,h8,Ql,Result.andThen,h6]
 have h8:=bM h7 w
 simp [Instr.lookup,run_underlying ht,MapKept.run_getObj_map h1,hc,h8,Result.andThen,h6]
theorem Xu {T Kt E Et n:Nat} {x:List Int} {ks:List (List Int)} {K:World->Prop} (hs:St w0 A (JN b n ks::L) w) (ht:P.underlying T=some (.map Kt Et)) (h:G8 P n Kt E) (hx:x.length=n) (cL:x ∉ ks)
  (k:∀ w',St w0 A (JN b n (ks++[x])::L) w'->K w'):BT P (Instr.mapUpdate T (.map (some b)) (wm x) (.bool true)) w K:=by
 obtain ⟨F,⟨⟨es,c,h1,h2,h3,h4⟩,h5⟩,_⟩:=hs.head
 have hc:=bM (yq (em:=false) h hx) w
 rcases Mc h hx h2 h4 h3 with ⟨h6,h7⟩ | ⟨h6,j,h7⟩
 ·have h8:=bM h7 w
  refine ⟨setBlock w b (.map (es.push ⟨wm x,.bool true,c⟩) (c+1)),?_,k _ (hs.kV λ F' hF=>⟨F',⟨⟨_,_,gV _ (gF h1),by simp [h2],?_,?_⟩,hF.2⟩,λ b hb=>.inl hb,(gM.setBlock w b _).mono λ k hk=>(hF.2 k).2 hk⟩)⟩
  ·simp [Instr.mapUpdate,run_underlying ht,MapKept.run_getObj_map h1,hc,h8,kC h1,Result.andThen]
  ·intro e he; simp at he; rcases he with he | rfl
   ·exact h3 e (by simpa using he)
   rfl
  intro q hq; simp at hq; rcases hq with hq | rfl
  ·exact h4 q hq
  exact hx
 exact absurd h6 cL
theorem cX {f:FuncId} {args:List Value} {H:HP} {H':Value->HP} {Φ:Value->World->Prop} {K:Value->World->Prop} (pl:Plain P f) (hs:St w0 A (H::L) w)
  (hc:∀ F,H.p w F->(∀ w',gM F w w'->St w0 A L w')->Calls P f args.toArray w (mW λ v w'=>Φ v w'/\ti F (H' v) w w')) (k:∀ v w',Φ v w'->St w0 A (H' v::L) w'->K v w'):xX P f args w K:=by
 obtain ⟨U,F,U',h1,h2,h3,h4,h5⟩:=hs.oO
 refine eW pl (hc F h1 λ w' hw=>⟨hs.aE.trans hw (λ _ h=>h) λ b hb hf=>(h2 b hf).elim id λ hh=>by omega,U',h5.loc λ b hb=>hw.cP b (h5.lt b hb) λ hf=>h3 b hf hb⟩) λ v w' ⟨hΦ,hM⟩=>k v w' hΦ (hs.Qy h2 h3 h5 hM)
theorem AH {g:FuncId} {args first cap:List Value} {H:HP} {H':Value->HP} {Φ:Value->World->Prop} {K:Value->World->Prop} (pl:Plain P g) (hs:St w0 A (H::L) w)
  (hc:∀ F,H.p w F->(∀ w',gM F w w'->St w0 A L w')->Calls P g (first++args++cap).toArray w (mW λ v w'=>Φ v w'/\ti F (H' v) w w')) (k:∀ v w',Φ v w'->St w0 A (H' v::L) w'->K v w'):eg P (.func (.func g) first.toArray cap.toArray) args w K:=by
 obtain ⟨U,F,U',h1,h2,h3,h4,h5⟩:=hs.oO
 refine ft pl (hc F h1 λ w' hw=>⟨hs.aE.trans hw (λ _ h=>h) λ b hb hf=>(h2 b hf).elim id λ hh=>by omega,U',h5.loc λ b hb=>hw.cP b (h5.lt b hb) λ hf=>h3 b hf hb⟩) λ v w' ⟨hΦ,hM⟩=>k v w' hΦ (hs.Qy h2 h3 h5 hM)
theorem Oi {T E n:Nat} {K:Value->Prop} (h:G8 P n T E) (k:K (.slice (some ⟨b,0,none⟩) n n)):cU P (Instr.sliceAt T (.pointer (some ⟨b,0,none⟩)) none none none) K:=by
 refine ⟨_,?_,k⟩
 unfold Instr.sliceAt
 rw [aK,aM h.1]
 simp only [Option.bind_some,Instr.sureAddr,aK,cR,Instr.sliceBounds,h.2.2]
 simp [dK]
theorem adf {xs:List Int} {n:Nat} (h:xs.length<=n):eC (List.replicate n (Value.int .i64 0)) 0 (flat xs)=(xs++List.replicate (n - xs.length) 0).map (Value.int .i64):=by
 have hf:flat xs=xs.map (Value.int .i64):=by
  induction xs with
  | nil=>rfl
  | cons x xs ih=>rw [gP,ih (by simp at h; omega)]; rfl
 have hl:(flat xs).length=xs.length:=by rw [hf,List.length_map]
 have:=iU [] (List.replicate xs.length (Value.int .i64 0)) (List.replicate (n - xs.length) (Value.int .i64 0)) (flat xs) (by rw [List.length_replicate,hl])
 rw [List.nil_append,List.nil_append,List.replicate_append_replicate,show xs.length+(n - xs.length)=n from by omega,List.length_nil] at this
 rw [this,hf,List.map_append,List.map_replicate]
theorem Hc {T T2 E by' n dc:Nat} {z:Option Nat} {R:TypeId} {src:Value} {cs:List Value} {ys:List Int} {S:Nat->Prop} {K:Value->World->Prop} (hs:St w0 A (cP b cs::L) w) (ht:cT P T=some (E,Flat.sz Int,by',z)) (pw:dx S w src ys) (hn:ys.length<=n) (uK:ys.length<=cs.length)
  (k:∀ w',St w0 A (cP b (eC cs 0 (flat ys))::L) w'->K (.int .i64 ys.length) w'):gd P (Builtin.copy_ #[T,T2] R [.slice (some ⟨b,0,none⟩) n dc,src].toArray) w K:=by
 obtain ⟨w',h1,h2,h3⟩:=AE (P:=P) (o:=0) (dn:=n) (dc:=dc) (T2:=T2) (R:=R) ht hs.hb pw hn (by change 0+ys.length * 1<=_; omega)
 exact ⟨_,w',h1,k w' (hs.kV λ F hF=>⟨F,⟨h2,hF.2⟩,λ b hb=>.inl hb,h3.mono λ k hk=>(hF.2 k).2 hk⟩)⟩
end
def Has (H:HP) (w:World):Prop:=∃ F,H.p w F
theorem St.has {w w0:World} {A:Nat->Prop} {L:List HP} {H:HP} (hs:St w0 A (H::L) w):Has H w:=by obtain ⟨F,h,_⟩:=hs.head; exact ⟨F,h⟩
theorem Has.ext {H:HP} {w w':World} (h:Has H w) (e:Ext w w'):Has H w':=by
 obtain ⟨F,h⟩:=h; exact ⟨F,H.loc _ _ _ h λ b hb=>e.cP b (H.lt _ _ _ h hb) λ x=>x⟩
theorem Has.st {H:HP} {w:World} (h:Has H w):∃ F,St w F [H] w:=by obtain ⟨F,h⟩:=h; exact ⟨F,St.begin h⟩
abbrev SI:=ByteArray × Int
def Md (p:SI):Value × Value:=(.string p.1,.int .i64 p.2)
def pL (w:World) (b:Nat) (l:List SI):Prop:=
 ∃ es clock,w.heap[b]? = some (.map es clock)/\Stamped es clock/\(es.toList.map λ e=>(e.key,e.val)).Perm (l.map Md)
def cY:List SI->ByteArray->Int
 | [],_=>0
 | p::r,k=>if p.1=k then p.2 else cY r k
theorem pM:∀ {l:List SI} {p:SI},(l.map (·.1)).Nodup->p∈l->cY l p.1=p.2
 | q::r,p,hn,hm=>by
  rw [List.map_cons,List.nodup_cons] at hn
  rcases List.mem_cons.1 hm with rfl | hm
  ·unfold cY; rw [if_pos rfl]
  ·have:q.1≠p.1:=λ e=>hn.1 (List.mem_map.2 ⟨p,hm,e.symm⟩)
   unfold cY; rw [if_neg this]; exact pM hn.2 hm
theorem qO:∀ {l:List SI} {k:ByteArray},(∀ p∈l,p.1≠k)->cY l k=0
 | [],_,_=>rfl
 | q::r,k,h=>by
  unfold cY; rw [if_neg (h q (List.mem_cons_self ..))]; exact qO λ p hp=>h p (List.mem_cons_of_mem _ hp)
theorem JO {l:List SI} {k:ByteArray} (hn:(l.map (·.1)).Nodup) (hz:∀ p∈l,p.2≠0) (h:cY l k=0):∀ p∈l,p.1≠k:=λ p hp e=>by
 subst e; exact hz p hp ((pM hn hp).symm.trans h)
section
variable {P:Program} {w w0 w':World} {A:Nat->Prop} {L:List HP} {b:Nat} {l:List SI}
theorem pL.of_eq (h:pL w b l) (hh:w'.heap[b]? = w.heap[b]?):pL w' b l:=by
 obtain ⟨es,c,h1,h2⟩:=h; exact ⟨es,c,hh.trans h1,h2⟩
theorem pL.lt (h:pL w b l):b<w.heap.size:=by obtain ⟨es,c,h1,_⟩:=h; exact gF h1
theorem pL.nodup (h:pL w b l):(l.map (·.1)).Nodup:=by
 obtain ⟨es,c,_,h2,h3⟩:=h
 have h4:=(h3.map Prod.fst)
 rw [List.map_map,List.map_map] at h4
 have h5:(l.map λ p=>Value.string p.1).Nodup:=h4.nodup_iff.1 h2.2.2
 exact (List.pairwise_map.1 h5).imp (λ h e=>h (by rw [e])) |> λ h=>List.pairwise_map.2 h
theorem pL.perm {l':List SI} (h:pL w b l) (hp:l.Perm l'):pL w b l':=by
 obtain ⟨es,c,h1,h2,h3⟩:=h; exact ⟨es,c,h1,h2,h3.trans (hp.map _)⟩
def jy (b:Nat) (l:List SI):HP where
 p w F:=pL w b l/\∀ k,F k↔k=b
 loc w w' F h hh:=⟨h.1.of_eq (hh b ((h.2 b).2 rfl)),h.2⟩
 lt w F b' h hb:=by rw [(h.2 b').1 hb]; exact h.1.lt
theorem Oj {es:Array MapEntry} (h3:(es.toList.map λ e=>(e.key,e.val)).Perm (l.map Md)) {e:MapEntry} (he:e∈es.toList):∃ p∈l,e.key = .string p.1/\e.val = .int .i64 p.2:=by
 have:(e.key,e.val)∈l.map Md:=h3.mem_iff.1 (List.mem_map.2 ⟨e,he,rfl⟩)
 obtain ⟨p,hp,hk⟩:=List.mem_map.1 this
 unfold Md at hk
 simp only [Prod.mk.injEq] at hk
 exact ⟨p,hp,hk.1.symm,hk.2.symm⟩
theorem Sb {es:Array MapEntry} (h3:(es.toList.map λ e=>(e.key,e.val)).Perm (l.map Md)) {p:SI} (hp:p∈l):∃ e∈es.toList,e.key = .string p.1/\e.val = .int .i64 p.2:=by
 have:Md p∈es.toList.map λ e=>(e.key,e.val):=h3.mem_iff.2 (List.mem_map.2 ⟨p,hp,rfl⟩)
 obtain ⟨e,he,hk⟩:=List.mem_map.1 this
 unfold Md at hk
 simp only [Prod.mk.injEq] at hk
 exact ⟨e,he,hk⟩
theorem CB {T:TypeId} {k:ByteArray} {es:Array MapEntry} (hT:P.underlying T=some .string) (h3:(es.toList.map λ e=>(e.key,e.val)).Perm (l.map Md)) :
  ((∀ p∈l,p.1≠k)/\(Instr.findKey T (.string k) es.toList).run P w = .ok none w)\/∃ j p,p∈l/\p.1=k/\(Instr.findKey T (.string k) es.toList).run P w = .ok (some (j,.int .i64 p.2)) w:=by
 rcases MapKept.findNow_spec (d:=.string) (k:=.string k) (by simp [IsKey]) es.toList 0 (λ x hx=>by obtain ⟨p,_,e,_⟩:=Oj h3 hx; rw [e]; simp [IsKey]) with ⟨h1,h2⟩ | ⟨j,e,h1,h2,h4⟩
 ·refine .inl ⟨λ p hp e=>?_,MapKept.run_findKey hT h1⟩
  obtain ⟨x,hx,e1,_⟩:=Sb h3 hp
  exact h2 x hx (by rw [e1,e])
 obtain ⟨p,hp,e1,e2⟩:=Oj h3 (List.mem_of_getElem? h2)
 rw [h4] at e1; injection e1 with e1
 refine .inr ⟨j,p,hp,e1.symm,?_⟩
 rw [Nat.zero_add,e2] at h1
 exact MapKept.run_findKey hT h1
theorem Hd {T Kt E:TypeId} {k:ByteArray} (h:pL w b l) (ht:P.underlying T=some (.map Kt E)) (hk:P.underlying Kt=some .string) (hz:jI P E (.int .i64 0)) :
  (Instr.lookup T (.map (some b)) (.string k) false).run P w = .ok (.int .i64 (cY l k)) w:=by
 have hn:=h.nodup
 obtain ⟨es,c,h1,h2,h3⟩:=h
 have Ql:(zeroValue E).run P w = .ok (.int .i64 0) w:=by
  unfold jI cH at hz
  cases hi:P.info? E with
  | none=>rw [hi] at hz; cases hz
  | some i=>
   rw [hi] at hz
   simp only [Option.map_some,Option.some.injEq] at hz
   refine bM ?_ w
   unfold zeroValue; rw [aK,fS hi]; simp only [Option.bind_some,hz]; rfl
 have hc:=MapKept.run_checkKey (P:=P) (w:=w) (kt:=Kt) (k:=.string k) hk (by simp [IsKey]) es.isEmpty 9999
 rcases CB (w:=w) (k:=k) hk h3 with ⟨h5,h6⟩ | ⟨j,p,h5,h6,h7⟩
 ·simp [Instr.lookup,run_underlying ht,MapKept.run_getObj_map h1,hc,h6,Ql,Result.andThen,qO h5]
 subst h6
 simp [Instr.lookup,run_underlying ht,MapKept.run_getObj_map h1,hc,h7,Result.andThen,pM hn h5]
theorem He {T Kt E:TypeId} {v:Int} {k:ByteArray} (h:pL w b l) (ht:P.underlying T=some (.map Kt E)) (hk:P.underlying Kt=some .string) (eA:∀ p∈l,p.1≠k) :
  ∃ w',(Instr.mapUpdate T (.map (some b)) (.string k) (.int .i64 v)).run P w = .ok () w'/\gM (· = b) w w'/\pL w' b (l++[(k,v)]):=by
 have eU:=h.lt
 obtain ⟨es,c,h1,h2,h3⟩:=h
 have hc:=MapKept.run_checkKey (P:=P) (w:=w) (kt:=Kt) (k:=.string k) hk (by simp [IsKey]) false 9999
 rcases CB (w:=w) (k:=k) hk h3 with ⟨h5,h6⟩ | ⟨j,p,h5,h6,h7⟩
 ·refine ⟨_,?_,gM.setBlock w b (.map (es.push ⟨.string k,.int .i64 v,c⟩) (c+1)),?_⟩
  ·simp [Instr.mapUpdate,run_underlying ht,MapKept.run_getObj_map h1,hc,h6,kC h1,Result.andThen]
  refine ⟨_,_,gV _ eU,MapKept.stamped_push h2 λ x hx e=>?_,?_⟩
  ·obtain ⟨p,hp,e1,_⟩:=Oj h3 hx
   rw [e1] at e; injection e with e
   exact eA p hp e
  rw [Array.toList_push,List.map_append,List.map_append]
  exact h3.append (List.Perm.refl _)
 exact absurd h6 (eA p h5)
theorem Hf {T:TypeId} {K:Value->World->Prop} (hs:St w0 A L w) (k:∀ b w',St w0 A (jy b []::L) w'->K (.map (some b)) w'):gd P (Instr.makeMap T none) w K:=
 ⟨_,_,rfl,k _ _ (hs.new (Ext.push w (.map #[] 0)) (F:=λ k=>k=w.heap.size) ⟨⟨#[],0,jX _ _,⟨by simp,by simp,by simp⟩,by simp⟩,λ _=>Iff.rfl⟩ λ b hb=>by rw [hb]; exact Nat.le_refl _)⟩
theorem St.jy (hs:St w0 A (jy b l::L) w):pL w b l:=by obtain ⟨F,h,_⟩:=hs.head; exact h.1
theorem tE {T Kt E:TypeId} {k:ByteArray} {K:Value->Prop} (h:pL w b l) (ht:P.underlying T=some (.map Kt E)) (hk:P.underlying Kt=some .string) (hz:jI P E (.int .i64 0)) (kk:K (.int .i64 (cY l k))):q7 P (Instr.lookup T (.map (some b)) (.string k) false) w K:=
 ⟨_,Hd h ht hk hz,kk⟩
theorem Hg {T Kt E:TypeId} {v:Int} {k:ByteArray} {K:World->Prop} (hs:St w0 A (Fw.jy b l::L) w) (ht:P.underlying T=some (.map Kt E)) (hk:P.underlying Kt=some .string) (eA:∀ p∈l,p.1≠k)
  (kk:∀ w',St w0 A (Fw.jy b (l++[(k,v)])::L) w'->K w'):BT P (Instr.mapUpdate T (.map (some b)) (.string k) (.int .i64 v)) w K:=by
 obtain ⟨w',h1,h2,h3⟩:=He (P:=P) (v:=v) (k:=k) hs.jy ht hk eA
 exact ⟨w',h1,kk w' (hs.kV λ F hF=>⟨F,⟨h3,hF.2⟩,λ b hb=>.inl hb,h2.mono λ k hk=>(hF.2 k).2 hk⟩)⟩
theorem key_inj {es:Array MapEntry} (hn:(es.toList.map (·.key)).Nodup) {e e':MapEntry} (h:e∈es.toList) (h':e'∈es.toList) (hb:e.key=e'.key):e=e':=by
 obtain ⟨i,hi,rfl⟩:=List.getElem_of_mem h
 obtain ⟨j,hj,rfl⟩:=List.getElem_of_mem h'
 have:=(List.getElem_inj (i:=i) (j:=j) (h₀:=by simpa using hi) (h₁:=by simpa using hj) hn).1 (by simpa using hb)
 subst this; rfl
theorem Sc {l:List SI} (hn:(l.map (·.1)).Nodup) {p q:SI} (hp:p∈l) (hq:q∈l) (h:p.1=q.1):p=q:=by
 have h1:=pM hn hp
 have h2:=pM hn hq
 rw [h] at h1
 exact Prod.ext h (h1.symm.trans h2)
end
open Go.MapKept (IsKey)
section
variable {P:Program} {w w':World} {b:Nat} {l:List ByteArray}
def adg (w:World) (b:Nat) (l:List ByteArray):Prop:=
 ∃ es clock,w.heap[b]? = some (.map es clock)/\(es.toList.map λ e=>(e.key,e.val))=l.map λ s=>(Value.string s,Value.bool true)
theorem Hh {T Kt E:TypeId} {k:ByteArray} (h:adg w b l) (ht:P.underlying T=some (.map Kt E)) (hk:P.underlying Kt=some .string) (hz:jI P E (.bool false)) :
  (Instr.lookup T (.map (some b)) (.string k) false).run P w = .ok (.bool (l.any λ y=>decide (y=k))) w:=by
 obtain ⟨es,c,h1,h2⟩:=h
 have Ql:(zeroValue E).run P w = .ok (.bool false) w:=by
  unfold jI cH at hz
  cases hi:P.info? E with
  | none=>rw [hi] at hz; cases hz
  | some i=>
   rw [hi] at hz
   simp only [Option.map_some,Option.some.injEq] at hz
   refine bM ?_ w
   unfold zeroValue; rw [aK,fS hi]; simp only [Option.bind_some,hz]; rfl
 have hc:=MapKept.run_checkKey (P:=P) (w:=w) (kt:=Kt) (k:=.string k) hk (by simp [IsKey]) es.isEmpty 9999
 have mem:∀ e∈es.toList,∃ s∈l,e.key = .string s/\e.val = .bool true:=λ e he=>by
  have:(e.key,e.val)∈l.map λ s=>(Value.string s,Value.bool true):=by rw [<- h2]; exact List.mem_map.2 ⟨e,he,rfl⟩
  obtain ⟨s,hs,e1⟩:=List.mem_map.1 this
  simp only [Prod.mk.injEq] at e1
  exact ⟨s,hs,e1.1.symm,e1.2.symm⟩
 rcases MapKept.findNow_spec (d:=.string) (k:=.string k) (by simp [IsKey]) es.toList 0 (λ x hx=>by obtain ⟨p,_,e,_⟩:=mem x hx; rw [e]; simp [IsKey]) with ⟨h3,h4⟩ | ⟨j,e,h3,h4,h5⟩
 ·have:(l.any λ y=>decide (y=k))=false:=by
   rw [List.any_eq_false]
   intro s hs
   have:(Value.string s,Value.bool true)∈es.toList.map λ e=>(e.key,e.val):=by rw [h2]; exact List.mem_map.2 ⟨s,hs,rfl⟩
   obtain ⟨e,he,e1⟩:=List.mem_map.1 this
   simp only [Prod.mk.injEq] at e1
   intro h
   exact h4 e he (by rw [e1.1,of_decide_eq_true h])
  rw [this]
  simp [Instr.lookup,run_underlying ht,MapKept.run_getObj_map h1,hc,MapKept.run_findKey hk h3,Ql,Result.andThen]
 obtain ⟨s,hs,e1,e2⟩:=mem e (List.mem_of_getElem? h4)
 rw [h5] at e1; injection e1 with e1
 have:(l.any λ y=>decide (y=k))=true:=List.any_eq_true.2 ⟨s,hs,decide_eq_true e1.symm⟩
 rw [this]
 rw [Nat.zero_add,e2] at h3
 simp [Instr.lookup,run_underlying ht,MapKept.run_getObj_map h1,hc,MapKept.run_findKey hk h3,Result.andThen]
theorem Hi {T Kt E:TypeId} {k:ByteArray} {K:Value->Prop} (h:adg w b l) (ht:P.underlying T=some (.map Kt E)) (hk:P.underlying Kt=some .string) (hz:jI P E (.bool false)) (kk:K (.bool (l.any λ y=>decide (y=k)))):q7 P (Instr.lookup T (.map (some b)) (.string k) false) w K:=
 ⟨_,Hh h ht hk hz,kk⟩
end
end Go.Fw
namespace Go.Proofs.YtfkgkbhbdffckaaGreatDoor
open Go.Fw
def aiv:Nat->Nat->PT
 | _,_=>.nil
def fsK:List Nat:=[198,223,248,250,251,252,253,254,255,257,259,260,261,263]
noncomputable def sEq (k:V) (p:Nat × Nat):Bool:=match k with | .s n l=>BJ n l p.1 p.2 | _=>false
def Me:List (Nat × Nat):=[(1701734764,4),(7106422,3),(1801678700,4),(110369476601972,6),(6776178,3),(1684107116,4),(435711603827,5),(7561571,3),(448613674086,5),(7630959,3),(111477728306803,6),(111477728306797,6),(1701536116,4),(1702259047,4),(26217,2),(1702063205,4),(1886351212,4),(461195539042,5),(461229090915,5),(32199706694346098,7),(126965163453537,6)]
noncomputable def Sd (ks:List (Nat × Nat)) (l:ML):Bool:=ML.rec (motive:=λ _=>List (Nat × Nat)->Bool) (λ ks=>List.rec (motive:=λ _=>Bool) true (λ _ _ _=>false) ks)
 (λ k v _ _ ih ks=>List.rec (motive:=λ _=>Bool) false (λ p r _=>dD (sEq k p) (dD (V.eqs true v (.b true)) (ih r))) ks) l ks
noncomputable def aaS (v:V) (h:Hp):Bool:=V.rec (motive:=λ _=>Bool) (λ _=>false) (λ _ _=>false) (λ _ _=>false) false (λ _ _=>false) false (λ _ _ _ _=>false) (λ _ _ _ _=>false) false false
 (λ b=>HB.rec (motive:=λ _=>Bool) false false (λ _ _ _=>false) (λ c l=>dD (Nat.blt c 4294967296) (Sd Me l)) (λ _ _ _ _ _=>false) (λ _ _ _ _ _ _=>false) false (dH h b)) false (λ _ _ _=>false) (λ _=>false) (λ _ _=>false) (λ _ _=>false) false (λ _ _ _ _=>false) v
theorem Se {k:V} {p:Nat × Nat} (h:sEq k p=true):∃ n m,k = .s n m/\strOf n m=strOf p.1 p.2:=by
 cases k with
 | s n m=>have h:BJ n m p.1 p.2=true:=h; rw [nz] at h; exact ⟨n,m,rfl,of_decide_eq_true h⟩
 | _=>cases h
theorem Xv {ρ:Rn}:∀ {l:ML} {ks:List (Nat × Nat)} {es:List MapEntry},Sd ks l=true->RM ρ l es->(es.map λ e=>(e.key,e.val))=ks.map λ p=>(Value.string (strOf p.1 p.2),Value.bool true):=by
 intro l
 induction l with
 | nil=>
  intro ks es h hm
  cases ks with
  | nil=>obtain rfl:es=[]:=hm; rfl
  | cons p r=>cases h
 | cons k v b r ih=>
  intro ks es h hm
  cases ks with
  | nil=>cases h
  | cons p ks=>
   obtain ⟨h1,h2⟩:=dI (show dD (sEq k p) (dD (V.eqs true v (.b true)) (Sd ks r))=true from h)
   obtain ⟨h2,h3⟩:=dI h2
   obtain ⟨e,mK,rfl,g1,g2,g3,g4⟩:=hm
   have e2:=(mB _ _ h2).1
   subst e2
   obtain ⟨n,m,rfl,h9⟩:=Se h1
   rw [List.map_cons,List.map_cons,ih h3 g4]
   have g1:e.key = .string (strOf n m):=g1
   rw [h9] at g1
   have g2:e.val = .bool true:=g2
   rw [g1,g2]
theorem aiw:List.all fsK (okF Tryz.prog aiv)=true:=by kernel_rfl
theorem runK:Oc (U3 Tryz.prog (im fsK (il Tryz.prog aiv)) 200 (.f 198 .e) .e .lf 0) aaS=true:=by kernel_rfl
theorem Sf {v:V} {h:Hp} (hh:aaS v h=true):∃ b c l,v = .m b/\dH h b = .m c l/\c<4294967296/\Sd Me l=true:=by
 cases v with
 | m b=>
  generalize hb:dH h b=o
  have hh:(HB.rec (motive:=λ _=>Bool) false false (λ _ _ _=>false) (λ c l=>dD (Nat.blt c 4294967296) (Sd Me l)) (λ _ _ _ _ _=>false) (λ _ _ _ _ _ _=>false) false o:Bool)=true:=by rw [<- hb]; exact hh
  cases o with
  | m c l=>obtain ⟨g1,g2⟩:=dI hh; exact ⟨b,c,l,rfl,hb,kz g1,g2⟩
  | _=>cases hh
 | _=>cases hh
theorem Xw:Me.map (λ p=>strOf p.1 p.2)=Ga:=by decide
theorem C198 (w:World):CR 198 [] w (λ v w'=>∃ b,v = .map (some b)/\adg w' b Ga/\Ext w w'):=
 (Xn mixed aiw runK w).mono λ e w' ⟨y,he,hext,v,h,ρ,hk,hR,hv⟩=>by
  obtain ⟨b,c,l,rfl,hb,hc,hs⟩:=Sf hk;obtain ⟨q,es,h1,h2,h3⟩:=hR.map hb hc;obtain ⟨q',hq',rfl⟩:=hv;rw [h1] at hq'; cases hq'
  refine ⟨_,he,q.k,rfl,⟨_,_,h2,?_⟩,hext⟩;have:=Xv hs h3;rw [<- Xw,List.map_map];exact this
theorem aix:PL 198:=dW Tryz.func198
def FnU (w:World) (f:Value) (g:UInt8->Bool):Prop:=∃ g0 first cap,f = .func (.func g0) (List.toArray first) (List.toArray cap)/\Plain Tryz.prog g0/\
 ∀ (c:UInt8) w1,Ext w w1->Calls Tryz.prog g0 (first++[Value.int .u8 c.toNat]++cap).toArray w1 (mW λ v w2=>v = .bool (g c)/\Ext w1 w2)
theorem Xx {g:UInt8->Bool} {l:List UInt8} {k:Nat} (eA:∀ y∈l.take k,g y=true) (hk:k<=l.length) (h:(match l[k]? with | some c=>g c | none=>false)=false):k=l.length↔l.all g=true:=by
 constructor
 ·intro e
  rw [e,List.take_length] at eA
  exact List.all_eq_true.2 eA
 intro ha
 by_cases e:k=l.length
 ·exact e
 have eU:k<l.length:=by omega
 rw [List.getElem?_eq_getElem eU] at h
 have h:g l[k]=false:=h
 have:=List.all_eq_true.1 ha _ (List.getElem_mem eU)
 rw [this] at h; cases h
def sD (s:ByteArray):Bool:=decide (s.size<1\/16<s.size) || (match (oR s)[0]? with | some c=>!lu c.toNat | none=>true) || Ga.any (λ y=>decide (y=s))
theorem Sg {s:ByteArray} (h:sD s=false):s.size<=1048576:=by
 unfold sD at h
 grind
theorem Sh {s:ByteArray} (h:sD s=true):gh s=false:=by
 show (!(sD s) && _)=false
 rw [h]; rfl
theorem Si {s:ByteArray} {n:Nat} (h:sD s=false) (hn:n=(oR s).length↔(oR s).all (λ c=>lu c.toNat || qB c.toNat)=true):decide ((n:Int)=(s.size:Int))=gh s:=by
 show _=(!(sD s) && !(oR s).any λ c=>!lu c.toNat && !qB c.toNat)
 rw [h,Bool.not_false,Bool.true_and,<- kh]
 have:(!(oR s).any λ c=>!lu c.toNat && !qB c.toNat)=(oR s).all (λ c=>lu c.toNat || qB c.toNat):=by
  rw [List.not_any_eq_all_not]; congr 1; funext c; simp
 rw [this]
 by_cases e:n=(oR s).length
 ·rw [hn.1 e]; exact decide_eq_true (by rw [e])
 rw [Bool.eq_false_iff.2 (λ h=>e (hn.2 h))]; exact decide_eq_false (by omega)
theorem adh {s:ByteArray} (h:s.size=0):s=ByteArray.mk #[]:=by
 cases s with
 | mk a=>cases a with
  | mk l=>cases l with
   | nil=>rfl
   | cons x r=>simp [ByteArray.size] at h
theorem C161 (c:Int) (w:World):CR 161 [.int .u8 c] w (λ v w'=>v = .bool (lu c)/\Ext w w'):=by
 have hs:=St.start w;refine V5 _ _ _ ?_;unfold S161;refine ⟨λ jv w'=>jv = .bool (decide (97<=c/\c<=122\/c=95))/\w=w',FW (aC (λ _=>FV (aC (λ _=>⟨Qe (by omega),rfl⟩) (λ _=>FX ⟨I5 (by omega),rfl⟩))) (λ _=>FX ⟨I5 (by omega),rfl⟩)),?_⟩;rintro _ _ ⟨rfl,hw⟩ _;subst hw;exact ⟨rfl,hs.aE⟩
theorem C165 (c:Int) (w:World):CR 165 [.int .u8 c] w (λ v w'=>v = .bool (qB c)/\Ext w w'):=by
 have hs:=St.start w;refine V6 _ _ _ ?_;unfold S165;refine ⟨λ jv w'=>jv = .bool (decide (48<=c/\c<=57))/\w=w',FW (aC (λ _=>FV ⟨I5 (by omega),rfl⟩) (λ _=>⟨jvF (by omega),rfl⟩)),?_⟩;rintro _ _ ⟨rfl,hw⟩ _;subst hw;exact ⟨rfl,hs.aE⟩
theorem C164 (c:Int) (w:World):CR 164 [.int .u8 c] w (λ v w'=>v = .bool (lu c || qB c)/\Ext w w'):=by
 have hs:=St.start w;refine V8 _ _ _ ?_;unfold S164;refine ⟨λ jv w'=>jv = .bool (lu c || qB c)/\St w bD [] w',bO aaa hs (C161 _ _) (λ _ _ hs=>bI (λ _=>⟨vb (by grind),hs⟩) (λ _=>bO ahf hs (C165 _ _) (λ _ _ hs=>⟨vb (by grind),hs⟩))),?_⟩;rintro _ _ ⟨rfl,hs⟩ _;exact ⟨rfl,hs.aE⟩
theorem C163 (s:ByteArray) (fv:Value) (g:UInt8->Bool) (w:World) (hf:FnU w fv g) (hn:s.size<=1048576):CR 163 [.string s,fv] w (λ v w'=>∃ n:Nat,v = .int .i64 (n:Int)/\(n=(oR s).length↔(oR s).all g=true)/\Ext w w'):=by
 obtain ⟨g0,first,cap,rfl,lT,gD⟩:=hf;have hs:=St.start w;refine V7 _ _ _ _ ?_;unfold S163;refine ⟨λ m x w1=>∃ k:Nat,x = .int .i64 (k:Int)/\m=(oR s).length - k/\k<=(oR s).length/\(∀ y∈(oR s).take k,g y=true)/\St w bD [] w1,⟨_,0,rfl,rfl,Nat.zero_le _,by simp,hs⟩,?_⟩;rintro m _ w1 ⟨k,rfl,rfl,hk,eA,hs⟩ _;have N5:=kh s;refine ⟨λ jv w'=>jv = .bool (match (oR s)[k]? with | some c=>g c | none=>false)/\St w bD [] w',j7 rR (aS (aC (λ qA=>?_) (λ _=>⟨vb (by grind),hs⟩))),?_⟩
 ·obtain ⟨jM,dG⟩:∃ xx,(oR (s))[((k:Int)).toNat]? = some xx:=⟨_,List.getElem?_eq_getElem (by rw [kh]; omega)⟩;refine Lr rR (by omega) dG (ft lT (gD jM _ hs.aE) ?_);rintro _ _ ⟨rfl,he⟩;have hs:=hs.ext he;exact ⟨vb (by grind),hs⟩
 rintro _ _ ⟨rfl,hs⟩ _;refine bI (λ dJ=>?_) (λ dJ=>⟨k,rfl,Xx eA hk (by simpa using dJ),hs.aE⟩);obtain ⟨jM,dG⟩:∃ xx,(oR s)[k]? = some xx:=by cases h:(oR s)[k]? with | none=>rw [h] at dJ; cases dJ | some x=>exact ⟨x,rfl⟩
 have Po:=(List.getElem?_eq_some_iff.1 dG).1;exact aT (by omega) ⟨_,by omega,k+1,rfl,rfl,by omega,fi eA dG (by grind),hs⟩
theorem C162 (s:ByteArray) (w:World):CR 162 [.string s] w (λ v w'=>v = .bool (Ga.any λ y=>decide (y=s))/\Ext w w'):=by
 have hs:=St.start w;refine V9 _ _ _ ?_;unfold S162;refine eW aix (C198 _) ?_;rintro _ _ ⟨bk,rfl,hK,he⟩;have hs:=hs.ext he;exact Hi hK Tryz.underlying281 Tryz.underlying9 La ⟨rfl,hs.aE⟩
theorem C118 (s:ByteArray) (w:World):CR 118 [.string s] w (λ v w'=>v = .bool (gh s)/\Ext w w'):=by
 have hs:=St.start w;refine Wa _ _ _ ?_;unfold S118;refine ⟨λ jv w'=>jv = .bool (sD s)/\St w bD [] w',nE (aC (λ Eo=>?_) (λ Eo=>?_)),?_⟩
 ·have hz:s.size=0:=by rw [Eo]; rfl
  exact ⟨vb (by unfold sD; grind),hs⟩
 ·have hz:s.size≠0:=λ h=>Eo (adh h);refine j7 rR (er (aC (λ _=>⟨vb (by unfold sD; grind),hs⟩) (λ kx=>?_)));obtain ⟨aiy,Sj⟩:∃ xx,(oR (s))[((0:Int)).toNat]? = some xx:=⟨_,List.getElem?_eq_getElem (by rw [kh]; omega)⟩;refine Lr rR (by omega) Sj ?_;have he0:(oR s)[0]? = some aiy:=Sj;have hz2:¬ (s.size<1\/16<s.size):=by omega
  exact bO aaa hs (C161 _ _) (λ _ _ hs=>bH (bI (λ _=>⟨vb (by unfold sD; grind),hs⟩) (λ _=>bO ahi hs (C162 _ _) (λ _ _ hs=>⟨vb (by unfold sD; grind),hs⟩))))
 rintro _ _ ⟨rfl,hs⟩ _;refine bI (λ nQ=>⟨vb (Sh nQ).symm,hs.aE⟩) (λ nQ=>eW ahg (C163 s _ (λ c=>lu c.toNat || qB c.toNat) _ ⟨164,[],[],rfl,ahh,λ _ w1 _=>C164 _ w1⟩ (Sg (by simpa using nQ))) ?_);rintro _ _ ⟨nr,rfl,hnr,he⟩;have hs:=hs.ext he;exact j7 rR (aI ⟨vb (Si (by simpa using nQ) hnr),hs.aE⟩)
def Ok (xs:List bL) (i:Int) (n:Nat):Int:=if n=0 then i else if i<0 then -1 else stP xs.length (skip n (xs.drop i.toNat))
theorem Xy (xs:List bL) (i:Int):Ok xs i 1=uP xs i:=by unfold Ok uP; rw [if_neg (by decide)]
theorem Sk (xs:List bL) (i:Int):Ok xs i 0=i:=rfl
theorem Xz {xs:List bL} {i:Int} {n:Nat} (hn:0<n) (h:i<0\/(xs.length:Int)<=i):Ok xs i n = -1:=by
 unfold Ok
 rw [if_neg (by omega)]
 split
 ·rfl
 rw [List.drop_eq_nil_of_le (by omega)]
 cases n with
 | zero=>omega
 | succ n=>rfl
theorem XA {xs:List bL} {i:Int} {n:Nat} {x:bL} (hn:0<n) (h0:0<=i) (hx:xs[i.toNat]? = some x) (hk:kids x.op<0):Ok xs i n = -1:=by
 unfold Ok
 obtain ⟨hl,he⟩:=List.getElem?_eq_some_iff.1 hx
 rw [if_neg (by omega),if_neg (by omega),List.drop_eq_getElem_cons hl,he]
 cases n with
 | zero=>omega
 | succ n=>
  show stP _ (if kids x.op<0 then none else _)=_
  rw [if_pos hk]; rfl
theorem Sn {xs:List bL} {i:Int} {n m:Nat} {x:bL} (hn:0<n) (h0:0<=i) (hx:xs[i.toNat]? = some x) (hk:0<=kids x.op) (hm:(m:Int)=n+kids x.op - 1):Ok xs i n=Ok xs (i+1) m:=by
 obtain ⟨hl,he⟩:=List.getElem?_eq_some_iff.1 hx
 have h1:Ok xs i n=stP xs.length (skip m (xs.drop (i+1).toNat)):=by
  unfold Ok
  rw [if_neg (by omega),if_neg (by omega),List.drop_eq_getElem_cons hl,he,show (i+1).toNat=i.toNat+1 from by omega]
  cases n with
  | zero=>omega
  | succ n=>
   show stP _ (if kids x.op<0 then none else skip (n+(kids x.op).toNat) _)=_
   rw [if_neg (by omega),show n+(kids x.op).toNat=m from by omega]
 rw [h1]
 unfold Ok
 by_cases hz:m=0
 ·rw [if_pos hz,hz,Aa]
  show (xs.length:Int) - ((xs.drop (i+1).toNat).length:Nat)=_
  rw [List.length_drop]; omega
 rw [if_neg hz,if_neg (by omega)]
def So (i:Int) (ks:List Ex) (k:Nat):List Int:=(List.range k).map λ j=>i+1+(rD ks j:Int)
theorem Sp (i:Int) (ks:List Ex) (k:Nat):So i ks (k+1)=So i ks k++[i+1+(rD ks k:Int)]:=by
 unfold So; rw [List.range_succ,List.map_append]; rfl
theorem Mf (i:Int) (ks:List Ex) (k:Nat):(So i ks k).length=k:=by simp [So]
theorem XB {i:Int} {ks:List Ex} {n k:Nat} {e:Int} (h:(So i ks n)[k]? = some e):e=i+1+(rD ks k:Int)/\k<n:=by
 unfold So at h
 rw [List.getElem?_map] at h
 obtain ⟨j,hj,rfl⟩:=Option.map_eq_some_iff.1 h
 obtain ⟨hk,he⟩:=List.getElem?_eq_some_iff.1 hj
 rw [List.getElem_range] at he
 exact ⟨by rw [he],by simpa using hk⟩
theorem C204 (k:Int) (w:World):CR 204 [.int .i64 k] w (λ v w'=>v = .int .i64 (kids k)/\Ext w w'):=by
 have hs:=St.start w;refine Wb _ _ _ ?_;unfold S204;refine ⟨λ jv w'=>jv = .bool (decide (k=1\/k=2))/\w=w',aI (aC (λ _=>⟨Qe (by omega),rfl⟩) (λ _=>aI ⟨I5 (by omega),rfl⟩)),?_⟩;rintro _ _ ⟨rfl,hw⟩ _;subst hw;refine aC (λ vS=>?_) (λ vS=>⟨λ jv w'=>jv = .bool (decide (k=3\/k=4))/\w=w',aI (aC (λ _=>⟨Qe (by omega),rfl⟩) (λ _=>aI ⟨I5 (by omega),rfl⟩)),?_⟩)
 ·unfold kids;exact ⟨congrArg (Value.int .i64) (by grind),hs.aE⟩
 rintro _ _ ⟨rfl,hw⟩ _;subst hw;refine aC (λ jl=>?_) (λ jl=>⟨λ jv w'=>jv = .bool (decide (5<=k/\k<=15))/\w=w',dO (aC (λ _=>ma ⟨I5 (by omega),rfl⟩) (λ _=>⟨jvF (by omega),rfl⟩)),?_⟩)
 ·unfold kids;exact ⟨congrArg (Value.int .i64) (by grind),hs.aE⟩
 rintro _ _ ⟨rfl,hw⟩ _;subst hw;refine aC (λ Mg=>?_) (λ Mg=>?_)
 ·unfold kids;exact ⟨congrArg (Value.int .i64) (by grind),hs.aE⟩
 unfold kids;exact ⟨congrArg (Value.int .i64) (by grind),hs.aE⟩
theorem C170 (x:bL) (w:World):CR 170 [Flat.val x] w (λ v w'=>v = .bool (!vX x)/\Ext w w'):=by
 have hs:=St.start w;refine Wc _ _ _ ?_;unfold S170;refine cZ hs (λ Ep _ hs=>⟨λ jv w'=>jv = .bool (decide (x.at_<0\/4000<x.at_))/\St w bD [cP Ep (Flat.enc x)] w',aA vE (aB (v:=.int .i64 ((x).at_)) cK hs.hb rfl (aS (aC (λ _=>⟨vb (by grind),hs⟩) (λ _=>aA vE (aB (v:=.int .i64 ((x).at_)) cK hs.hb rfl (er ⟨vb (by grind),hs⟩)))))),?_⟩);rintro _ _ ⟨rfl,hs⟩ _;refine bI (λ vS=>?_) (λ vS=>?_)
 ·refine ⟨vb ?_,hs.drop.aE⟩;unfold vX
  grind
 refine aA me (aB (v:=.int .i64 ((x).op)) cK hs.hb rfl (aI (aC (λ j8=>⟨λ jv w'=>jv = .bool (decide (0<=x.n/\x.n<=4294967296/\x.name=⟨#[]⟩))/\St w bD [cP Ep (Flat.enc x)] w',aA vD (aB (v:=.int .i64 ((x).n)) cK hs.hb rfl (dO (aC (λ _=>aA vD (aB (v:=.int .i64 ((x).n)) cK hs.hb rfl (ma (aC (λ _=>aA kW (aB (v:=.string ((x).name)) kp hs.hb rfl (nE ⟨vb (by grind),hs⟩))) (λ _=>⟨vb (by grind),hs⟩))))) (λ _=>⟨vb (by grind),hs⟩)))),?_⟩) (λ j8=>?_))))
 ·rintro _ _ ⟨rfl,hs⟩ _;refine ⟨vb ?_,hs.drop.aE⟩;unfold vX
  grind
 refine aA me (aB (v:=.int .i64 ((x).op)) cK hs.hb rfl (aI (aC (λ Hj=>⟨λ jv w'=>jv = .bool (decide (x.n=0) && gh x.name)/\St w bD [cP Ep (Flat.enc x)] w',aA vD (aB (v:=.int .i64 ((x).n)) cK hs.hb rfl (aI (aC (λ _=>aA kW (aB (v:=.string ((x).name)) kp hs.hb rfl (bO Gd hs (C118 _ _) (λ _ _ hs=>⟨vb (by grind),hs⟩)))) (λ _=>⟨vb (by grind),hs⟩)))),?_⟩) (λ Hj=>?_))))
 ·rintro _ _ ⟨rfl,hs⟩ _;refine ⟨vb ?_,hs.drop.aE⟩;unfold vX
  grind
 refine ⟨λ jv w'=>jv = .bool (decide (x.n=0/\x.name=⟨#[]⟩))/\St w bD [cP Ep (Flat.enc x)] w',aA vD (aB (v:=.int .i64 ((x).n)) cK hs.hb rfl (aI (aC (λ _=>aA kW (aB (v:=.string ((x).name)) kp hs.hb rfl (nE ⟨vb (by grind),hs⟩))) (λ _=>⟨vb (by grind),hs⟩)))),?_⟩;rintro _ _ ⟨rfl,hs⟩ _;refine ⟨vb ?_,hs.drop.aE⟩;unfold vX
 grind
theorem C169 (x:bL) (w:World):CR 169 [Flat.val x] w (λ v w'=>v = .bool (vX x)/\Ext w w'):=by
 have hs:=St.start w;refine Wd _ _ _ ?_;unfold S169;exact cZ hs (λ _ _ hs=>aF zQ hs.At (bO ahj hs (C170 _ _) (λ _ _ hs=>bH ⟨vb (by simp),hs.drop.aE⟩)))
theorem C203 (sv fv:Value) (xs:List bL) (g:bL->Bool) (w:World) (hL:dx (λ _=>True) w sv xs) (hf:rC w fv g) (hn:xs.length<=1073741824):CR 203 [sv,fv] w (λ v w'=>v = .int .i64 (pE g xs)/\Ext w w'):=by
 obtain ⟨g0,first,cap,rfl,lT,gD⟩:=hf;have hs:=St.start w;refine Wn _ _ _ _ ?_;unfold S203;refine aG kq (hL.ext hs.aE) ?_;refine ⟨λ m x w1=>∃ k:Nat,x = .int .i64 (k:Int)/\m=xs.length - k/\k<=xs.length/\(∀ y∈xs.take k,g y=false)/\St w bD [] w1,⟨_,0,rfl,rfl,Nat.zero_le _,by simp,hs⟩,?_⟩;rintro m _ w1 ⟨k,rfl,rfl,hk,eA,hs⟩ _;refine aS (aC (λ qA=>?_) (λ _=>⟨congrArg (Value.int .i64) (gB (by rw [List.take_of_length_le (by omega)] at eA; exact eA)).symm,hs.aE⟩));obtain ⟨jM,dG⟩:=gx (xs) (i:=((k:Int)).toNat) (by omega);refine aU kq hL (by omega) dG (λ _ gS=>aF zQ (gS.ext hs.aE) (ft lT (gD jM w1 hs.aE) ?_))
 rintro _ _ ⟨rfl,he⟩;have hs:=hs.ext he;exact bI (λ dJ=>⟨congrArg (Value.int .i64) (jE eA dG dJ).symm,hs.aE⟩) (λ dJ=>aT (by omega) ⟨xs.length - (k+1),by omega,k+1,rfl,rfl,by omega,fi eA dG dJ,hs⟩)
theorem C171 (sv fv:Value) (xs:List bL) (g:bL->Bool) (w:World) (hL:dx (λ _=>True) w sv xs) (hf:rC w fv g) (hn:xs.length<=1073741824):CR 171 [sv,fv] w (λ v w'=>v = .bool (xs.any g)/\Ext w w'):=by
 have hs:=St.start w;refine Wm _ _ _ _ ?_;unfold S171;exact bO ahq hs (C203 _ _ _ _ _ (hL.ext hs.aE) (hf.ext hs.aE) (by omega)) (λ _ _ hs=>dO ⟨vb (iK _ _),hs.aE⟩)
theorem C172 (lv:Value) (xs:List bL) (i:Int) (w:World) (hL:dx (λ _=>True) w lv xs) (hn:xs.length<=1048576):CR 172 [lv,.int .i64 i] w (λ v w'=>v = .int .i64 (uP xs i)/\Ext w w'):=by
 have hs:=St.start w;refine We _ _ _ _ ?_;unfold S172;refine ⟨λ m x y w1=>∃ (a:Int) (n:Nat),x = .int .i64 a/\y = .int .i64 (n:Int)/\m=xs.length - a.toNat/\n<=1+a.toNat/\Ok xs a n=uP xs i/\St w bD [] w1,⟨_,i,1,rfl,rfl,rfl,by omega,Xy _ _,hs⟩,?_⟩;rintro m _ _ w1 ⟨a,n,rfl,rfl,rfl,hna,hgo,hs⟩ _;refine er (aC (λ BF=>⟨λ jv w'=>jv = .bool (decide (a<0\/(xs.length:Int)<=a) || (match xs[a.toNat]? with | some x=>decide (kids x.op = -1) | none=>true))/\St w bD [] w',aS (aC (λ _=>⟨vb (by grind),hs⟩) (λ wo=>aG kq (hL.ext hs.aE) (dO (aC (λ _=>⟨vb (by grind),hs⟩) (λ dJ=>?_))))),?_⟩) (λ BF=>?_))
 ·obtain ⟨tF,yO⟩:∃ xx,xs[(a).toNat]? = some xx:=⟨_,List.getElem?_eq_getElem (by omega)⟩;have hkb:=xl tF.op;exact aU kq hL (by omega) yO (λ _ AI=>ee (tF).op me AI rfl rfl (λ _ Sq=>aF cK (Sq.ext hs.aE) (bO Q4 hs (C204 _ _) (λ _ _ hs=>aI ⟨vb (by grind),hs⟩))))
 ·rintro _ _ ⟨rfl,hs⟩ _;refine bI (λ aaT=>?_) (λ aaT=>?_)
  ·refine ⟨congrArg (Value.int .i64) ?_,hs.aE⟩;rw [<- hgo]
   by_cases hq:a<0\/(xs.length:Int)<=a
   ·exact (Xz (by omega) hq).symm
   have hl:a.toNat<xs.length:=by omega
   rw [List.getElem?_eq_getElem hl] at aaT;exact (XA (by omega) (by omega) (List.getElem?_eq_getElem hl) (by grind)).symm
  have h23:¬ (a<0\/(xs.length:Int)<=a):=by grind
  obtain ⟨tF,yO⟩:∃ xx,xs[(a).toNat]? = some xx:=⟨_,List.getElem?_eq_getElem (by omega)⟩;have hkb:=xl tF.op;have hke:0<=kids tF.op:=by grind
  exact aU kq hL (by omega) yO (λ _ aiz=>ee (tF).op me aiz rfl rfl (λ _ Hk=>aF cK (Hk.ext hs.aE) (bO Q4 hs (C204 _ _) (λ _ _ hs=>aT (by omega) (aT (by omega) (iT (by omega) ⟨_,by omega,a+1,((n:Int)+kids tF.op - 1).toNat,rfl,congrArg (Value.int .i64) (by omega),rfl,by omega,by rw [<- hgo]; exact (Sn (by omega) (by omega) yO hke (by omega)).symm,hs⟩))))))
 have hn0:n=0:=by omega
 rw [hn0,Sk] at hgo;exact ⟨congrArg (Value.int .i64) hgo,hs.aE⟩
theorem yr {l:List bL}:eF l=(decide (l.length<=40) && decide (uP l 0=l.length) && !l.any vX && decide (LA l<=12)):=by
 unfold eF; rw [Gb]
theorem C205 (lv:Value) (xs:List bL) (i:Int) (t:Ex) (w:World) (hL:dx (λ _=>True) w lv xs) (hn:xs.length<=1048576) (hT:Fe xs i t):CR 205 [lv,.int .i64 i] w (λ v w'=>mZ (bJ v (So i t.ej t.ej.length)) w w'):=by
 obtain ⟨tF,hq,yO⟩:∃ e,e=t.root/\xs[(i).toNat]? = some e:=⟨_,rfl,hT.root.1⟩;have hri:=hT.root.2;have hie:=hT.end;have hke:=Ex.Ab hT.2.1;rw [<- hq] at hke;have hkb:=xl tF.op;have hi0:=hT.1;have hs:=St.start w;refine Wf _ _ _ _ ?_;unfold S205;refine aT (by omega) (aU kq hL (by omega) yO (λ _ Hl=>ee (tF).op me Hl rfl rfl (λ _ Sr=>aF cK (Sr.ext hs.aE) (bO Q4 hs (C204 _ _) (λ w1 he hs=>?_)))));refine ⟨λ m Q2 a x w1=>∃ k:Nat,a = .int .i64 (i+1+rD t.ej k)/\x = .int .i64 (k:Int)/\m=t.ej.length - k/\k<=t.ej.length/\St w bD [bJ Q2 (So i t.ej k)] w1,⟨_,0,congrArg (Value.int .i64) (by simp [rD]),rfl,rfl,by omega,hs.fy (α:=Int)⟩,?_⟩
 rintro m Q2 _ _ _ ⟨k,rfl,rfl,rfl,hk,hs⟩ _;refine aS (aC (λ dJ=>?_) (λ dJ=>?_))
 ·obtain ⟨a,yP⟩:∃ a,t.ej[k]? = some a:=⟨_,List.getElem?_eq_getElem (by omega)⟩;have hka:=Ex.Ac hT.2.1 (List.mem_of_getElem? yP);have hAk:=hT.kid yP;have hen:=hAk.end;have XC:=a.tm;refine cO ([(i+1+rD t.ej k:Int)]) hs ei rfl rfl (fw rfl) (λ aaU _ hs=>?_);have Er:=(hs).gg;exact dw hs.p1 ei Er (by rw [Mf]; exact Nat.le_of_lt (by simp; omega)) (by decide) (λ _ _ hs=>have hs:=hs.p1.drop;bO Q5 hs (C172 _ _ _ _ (hL.ext hs.aE) (by omega)) (λ _ _ hs=>aT (by omega) ⟨_,by omega,k+1,congrArg (Value.int .i64) (by rw [hen.1,Cl yP]; omega),rfl,rfl,by omega,by rw [Sp]; exact hs⟩))
 rw [show t.ej.length=k from by omega];exact hs.fresh
theorem C173 (lv:Value) (xs:List bL) (i:Int) (t:Ex) (N:Nat) (w:World) (hL:dx (λ _=>True) w lv xs) (hn:xs.length<=1048576) (hT:Fe xs i t) (hN:t.size<N):CR 173 [lv,.int .i64 i] w (λ v w'=>v = .int .i64 t.depth/\Ext w w'):=by
 obtain ⟨tF,hq,yO⟩:∃ e,e=t.root/\xs[(i).toNat]? = some e:=⟨_,rfl,hT.root.1⟩;have hri:=hT.root.2;have hie:=hT.end;have hke:=Ex.Ab hT.2.1;rw [<- hq] at hke;have hkb:=xl tF.op;have hi0:=hT.1;have hs:=St.start w;refine Wg _ _ _ _ ?_;unfold S173;refine dA ahl hs (C205 _ _ _ t _ (hL.ext hs.aE) (by omega) hT) (λ x10 w1 cL hs=>?_);have N3:=Mf i t.ej t.ej.length;refine aG ei (hs).gg ?_;refine ⟨λ m n x w1=>∃ k:Nat,n = .int .i64 (Ad t.ej k)/\x = .int .i64 (k:Int)/\m=t.ej.length - k/\k<=t.ej.length/\St w bD [bJ x10 (So i t.ej t.ej.length)] w1,⟨_,0,rfl,rfl,rfl,by omega,hs⟩,?_⟩;rintro m _ _ _ ⟨k,rfl,rfl,rfl,hk,hs⟩ _
 have hdk:=QX (ks:=t.ej) (N:=(t.size:Int)) (by omega) (λ a ha=>by have:=(Ex.Ac hT.2.1 ha).2; have:=a.tm; omega) k;refine aS (aC (λ c_x13=>?_) (λ _=>aT (by omega) ⟨congrArg (Value.int .i64) (by rw [t.QY,show k=t.ej.length from by omega]),hs.aE⟩));obtain ⟨jM,dG⟩:=gx ((So i t.ej t.ej.length)) (i:=((k:Int)).toNat) (by omega);refine eS hs ei (by omega) (by omega) (λ _ gS=>qj hs cK gS dG ?_);obtain ⟨rfl,Ss⟩:=XB dG;obtain ⟨a,yP⟩:∃ a,t.ej[k]? = some a:=⟨_,List.getElem?_eq_getElem (by omega)⟩;have hka:=Ex.Ac hT.2.1 (List.mem_of_getElem? yP);have hAk:=hT.kid yP
 have hen:=hAk.end;have XC:=a.tm;exact bO aab hs (C173 _ _ _ _ (N - 1) _ (hL.ext hs.aE) hn hAk (by omega)) (λ _ _ hs=>DU (aT (by omega) ⟨_,by omega,k+1,by rw [Cm yP],rfl,rfl,by omega,hs⟩))
termination_by N
decreasing_by all_goals omega
theorem C123 (lv:Value) (xs:List bL) (w:World) (hL:dx (λ _=>True) w lv xs) (hn:xs.length<=1048576):CR 123 [lv] w (λ v w'=>v = .bool (eF xs)/\Ext w w'):=by
 have hs:=St.start w;refine Wh _ _ _ ?_;unfold S123;refine ⟨λ jv w'=>jv = .bool (decide (xs.length=0\/40<xs.length) || xs.any vX || decide (¬ uP xs 0=xs.length))/\St w bD [] w',aG kq (hL.ext hs.aE) (aI (aC (λ _=>⟨vb (by grind),hs⟩) (λ tQ=>aG kq (hL.ext hs.aE) (er (aC (λ _=>⟨vb (by grind),hs⟩) (λ jl=>?_)))))),?_⟩
 ·have hfn:rC w (.func (.func 169) [].toArray [].toArray) vX:=
   ⟨169,[],[],rfl,ahk,λ y w1 _=>C169 y w1⟩
  exact bO ahp hs (C171 _ _ _ _ _ (hL.ext hs.aE) hfn (by omega)) (λ _ _ hs=>bI (λ _=>⟨vb (by grind),hs⟩) (λ _=>bO Q5 hs (C172 _ _ _ _ (hL.ext hs.aE) (by omega)) (λ _ _ hs=>aG kq (hL.ext hs.aE) (cS ⟨vb (by grind),hs⟩))))
 rintro _ _ ⟨rfl,hs⟩ _;refine bI (λ yj=>?_) (λ yj=>?_)
 ·refine ⟨vb ?_,hs.aE⟩;rw [yr]
  by_cases h0:xs.length=0
  ·obtain rfl:=List.length_eq_zero_iff.1 h0; rfl
  grind
 have NW:uP xs 0=xs.length:=by grind
 obtain ⟨t,ht⟩:=Fe.of (xs:=xs) (i:=0) (by omega);have hz:=ht.zero NW;refine bO aab hs (C173 _ _ _ t (t.size+1) _ (hL.ext hs.aE) hn ht (by omega)) (λ _ he hs=>ma ?_);refine ⟨vb ?_,hs.aE⟩;rw [yr];unfold LA;rw [hz.2]
 grind
def iE (o:List ByteArray) (x:bL):List ByteArray:=if x.op=2/\o.any (λ y=>decide (y=x.name))=false then o++[x.name] else o
theorem Su {o:List ByteArray} {x:bL} (h:x.op=2/\o.any (λ y=>decide (y=x.name))=false):iE o x=o++[x.name]:=if_pos h
theorem Sv {o:List ByteArray} {x:bL} (h:¬ (x.op=2/\o.any (λ y=>decide (y=x.name))=false)):iE o x=o:=if_neg h
def ki (xs:List bL):List ByteArray:=xs.foldl iE []
theorem Hm {xs:List bL} {k:Nat} {x:bL} (h:xs[k]? = some x):ki (xs.take (k+1))=iE (ki (xs.take k)) x:=by
 unfold ki; rw [<- fY h,List.foldl_append]; rfl
theorem yt (xs:List bL):(ki xs).length<=xs.length:=by
 have:∀ (l:List bL) (o:List ByteArray),(l.foldl iE o).length<=o.length+l.length:=by
  intro l
  induction l with
  | nil=>intro o; exact Nat.le_refl _
  | cons x l ih=>
   intro o
   have h:=ih (iE o x)
   have h2:(iE o x).length<=o.length+1:=by unfold iE; split <;> simp
   show (l.foldl iE (iE o x)).length<=_
   rw [List.length_cons]; omega
 simpa [ki] using this xs []
theorem JP (g:ByteArray->Bool) (xs:List bL):(ki xs).any g=xs.any λ x=>decide (x.op=2) && g x.name:=by
 have:∀ (l:List bL) (o:List ByteArray),(l.foldl iE o).any g=(o.any g || l.any λ x=>decide (x.op=2) && g x.name):=by
  intro l
  induction l with
  | nil=>intro o; simp
  | cons x l ih=>
   intro o
   show (l.foldl iE (iE o x)).any g=_
   rw [ih]
   have h2:(iE o x).any g=(o.any g || (decide (x.op=2) && g x.name)):=by
    unfold iE
    by_cases h:x.op=2
    ·by_cases h3:o.any (λ y=>decide (y=x.name))=false
     ·rw [if_pos ⟨h,h3⟩]; simp [h]
     ·rw [if_neg (λ q=>h3 q.2)]
      rw [decide_eq_true h,Bool.true_and]
      obtain ⟨y,hy,he⟩:=List.any_eq_true.1 (by simpa using h3:o.any (λ y=>decide (y=x.name))=true)
      have he:=of_decide_eq_true he
      subst he
      cases hg:g x.name with
      | true=>rw [List.any_eq_true.2 ⟨_,hy,hg⟩]; rfl
      | false=>simp
    ·rw [if_neg (λ q=>h q.1)]; simp [h]
   rw [h2,List.any_cons,Bool.or_assoc]
 exact (this xs []).trans (by simp)
theorem xB (ns:List ByteArray) (s:ByteArray):decide (0<=cI ns s)=ns.any λ y=>decide (y=s):=iK _ _
theorem Ol (ns:List ByteArray) (s:ByteArray):decide (cI ns s<0) = !ns.any λ y=>decide (y=s):=by
 rw [<- xB]
 by_cases h:0<=cI ns s
 ·rw [decide_eq_true h,decide_eq_false (by omega)]; rfl
 rw [decide_eq_false h,decide_eq_true (by omega)]; rfl
theorem JQ {k:Int} (h:0<=kids k):eO k=kids k:=by unfold eO kids at *; grind
theorem XD {ns:List ByteArray} {xs:List bL} (h:eF xs=false):nR ns xs=8:=by unfold nR; rw [if_pos h]
theorem XE {ns:List ByteArray} {xs:List bL} (h:eF xs=true):nR ns xs=if (ki xs).any (λ s=>!ns.any λ y=>decide (y=s))=true then 9 else 0:=by
 unfold nR
 rw [if_neg (by simp [h]),JP]
 simp only [Ol]
theorem Hn {ns:List ByteArray} {xs:List bL} (h:¬ nR ns xs=0):uq ns xs=[]:=by unfold uq; rw [if_neg h]
def wq (ns:List ByteArray) (Es:List Int) (xs:List bL):Int × Int:=if ns.length=Es.length then (if nR ns xs=0 then runM (uq ns xs) Es else (0,nR ns xs)) else (0,1)
theorem C138 (sv:Value) (ns:List ByteArray) (s:ByteArray) (w:World) (hL:dx (λ _=>True) w sv ns) (hn:ns.length<=1048576):CR 138 [sv,.string s] w (λ v w'=>v = .int .i64 (cI ns s)/\Ext w w'):=by
 have hs:=St.start w;refine Wr _ _ _ _ ?_;unfold S138;refine aG nj (hL.ext hs.aE) ?_;refine ⟨λ m x w1=>∃ k:Nat,x = .int .i64 (k:Int)/\m=ns.length - k/\k<=ns.length/\(∀ y∈ns.take k,decide (y=s)=false)/\St w bD [] w1,⟨_,0,rfl,rfl,Nat.zero_le _,by simp,hs⟩,?_⟩;rintro m _ w1 ⟨k,rfl,rfl,hk,eA,hs⟩ _;refine aS (aC (λ qA=>?_) (λ _=>⟨congrArg (Value.int .i64) (gB (by rw [List.take_of_length_le (by omega)] at eA; exact eA)).symm,hs.aE⟩));obtain ⟨jM,dG⟩:=gx (ns) (i:=((k:Int)).toNat) (by omega);exact aU nj hL (by omega) dG (λ _ gS=>aF kp (gS.ext hs.aE) (nE (aC (λ dJ=>⟨congrArg (Value.int .i64) (jE eA dG (decide_eq_true dJ.symm)).symm,hs.aE⟩) (λ dJ=>aT (by omega) ⟨_,by omega,k+1,rfl,rfl,by omega,fi eA dG (decide_eq_false (λ h=>dJ h.symm)),hs⟩))))
theorem C186 (sv:Value) (ns:List ByteArray) (s:ByteArray) (w:World) (hL:dx (λ _=>True) w sv ns) (hn:ns.length<=1048576):CR 186 [sv,.string s] w (λ v w'=>v = .bool (ns.any λ y=>decide (y=s))/\Ext w w'):=by
 have hs:=St.start w;refine Wq _ _ _ _ ?_;unfold S186;exact bO Q6 hs (C138 _ _ _ _ (hL.ext hs.aE) (by omega)) (λ _ _ hs=>dO ⟨vb (xB _ _),hs.aE⟩)
theorem C199 (sv fv:Value) (xs:List ByteArray) (g:ByteArray->Bool) (w:World) (hL:dx (λ _=>True) w sv xs) (hf:rC w fv g) (hn:xs.length<=1073741824):CR 199 [sv,fv] w (λ v w'=>v = .int .i64 (pE g xs)/\Ext w w'):=by
 obtain ⟨g0,first,cap,rfl,lT,gD⟩:=hf;have hs:=St.start w;refine Wp _ _ _ _ ?_;unfold S199;refine aG nj (hL.ext hs.aE) ?_;refine ⟨λ m x w1=>∃ k:Nat,x = .int .i64 (k:Int)/\m=xs.length - k/\k<=xs.length/\(∀ y∈xs.take k,g y=false)/\St w bD [] w1,⟨_,0,rfl,rfl,Nat.zero_le _,by simp,hs⟩,?_⟩;rintro m _ w1 ⟨k,rfl,rfl,hk,eA,hs⟩ _;refine aS (aC (λ qA=>?_) (λ _=>⟨congrArg (Value.int .i64) (gB (by rw [List.take_of_length_le (by omega)] at eA; exact eA)).symm,hs.aE⟩));obtain ⟨jM,dG⟩:=gx (xs) (i:=((k:Int)).toNat) (by omega);refine aU nj hL (by omega) dG (λ _ gS=>aF kp (gS.ext hs.aE) (ft lT (gD jM w1 hs.aE) ?_))
 rintro _ _ ⟨rfl,he⟩;have hs:=hs.ext he;exact bI (λ dJ=>⟨congrArg (Value.int .i64) (jE eA dG dJ).symm,hs.aE⟩) (λ dJ=>aT (by omega) ⟨xs.length - (k+1),by omega,k+1,rfl,rfl,by omega,fi eA dG dJ,hs⟩)
theorem C167 (sv fv:Value) (xs:List ByteArray) (g:ByteArray->Bool) (w:World) (hL:dx (λ _=>True) w sv xs) (hf:rC w fv g) (hn:xs.length<=1073741824):CR 167 [sv,fv] w (λ v w'=>v = .bool (xs.any g)/\Ext w w'):=by
 have hs:=St.start w;refine Wo _ _ _ _ ?_;unfold S167;exact bO ahr hs (C199 _ _ _ _ _ (hL.ext hs.aE) (hf.ext hs.aE) (by omega)) (λ _ _ hs=>dO ⟨vb (iK _ _),hs.aE⟩)
theorem C187 (lv:Value) (xs:List bL) (w:World) (hL:dx (λ _=>True) w lv xs) (hn:xs.length<=1048576) (hr:eF xs=true):CR 187 [lv] w (λ v w'=>mZ (bJ v (ki xs)) w w'):=by
 have hs:=St.start w;refine Wi _ _ _ ?_;unfold S187;refine bO LC hs (C123 _ _ _ (hL.ext hs.aE) (by omega)) (λ w1 he hs=>bH (bI (λ kx=>?_) (λ kx=>?_)))
 ·rw [hr] at kx; cases kx
 refine aG kq (hL.ext hs.aE) ?_;refine ⟨λ m fp x w1=>∃ k:Nat,x = .int .i64 (k:Int)/\m=xs.length - k/\k<=xs.length/\St w bD [bJ fp (ki (xs.take k))] w1,⟨_,0,rfl,rfl,by omega,hs.fy (α:=ByteArray)⟩,?_⟩;rintro m fp _ _ ⟨k,rfl,rfl,hk,hs⟩ _;refine aS (aC (λ nO=>?_) (λ nO=>?_))
 ·obtain ⟨rh,xk⟩:∃ xx,(xs)[((k:Int)).toNat]? = some xx:=⟨_,List.getElem?_eq_getElem (by omega)⟩;refine ⟨λ jv w'=>St w bD [bJ jv (iE (ki (xs.take k)) rh)] w',?_,?_⟩
  ·have Dp:=yt (xs.take k);rw [List.length_take] at Dp;refine aU kq hL (by omega) xk (λ _ QO=>aF zQ (QO.ext hs.aE) (aN hs DC (λ adk _ hs=>aO (x:=rh) hs zQ rfl rfl (λ _ hs=>⟨λ jv w'=>jv = .bool (decide (rh.op=2) && !(ki (xs.take k)).any (λ y=>decide (y=rh.name)))/\St w bD [cP adk (Flat.enc rh),bJ fp (ki (xs.take k))] w',aA me (aB (v:=.int .i64 ((rh).op)) cK hs.hb rfl (aI (aC (λ _=>aA kW (aB (v:=.string ((rh).name)) kp hs.hb rfl (bO aae hs (C186 _ _ _ _ (hs.p1).gg (by omega)) (λ _ _ hs=>bH ⟨vb (by grind),hs⟩)))) (λ _=>⟨vb (by grind),hs⟩)))),?_⟩))))
   rintro _ _ ⟨rfl,hs⟩ _;refine bI (λ vT=>?_) (λ vT=>?_)
   ·refine aA kW (aB (v:=.string ((rh).name)) kp hs.hb rfl (cO ([rh.name]) hs nj rfl rfl (fw rfl) (λ s_x28 _ hs=>?_)));have adl:=(hs).gg;refine dw hs.p2 nj adl (by simp <;> omega) (by decide) (λ s_x29 _ hs=>?_);have hs:=hs.p1.drop;rw [Su (by simpa using vT)];exact hs.p1.drop
   rw [Sv (by simpa using vT)];exact hs.drop
  rintro mL _ hs _;exact aT (by omega) ⟨_,by omega,k+1,rfl,rfl,by omega,by rw [Hm (k:=k) xk]; exact hs⟩
 rw [List.take_of_length_le (by omega)] at hs;exact hs.fresh
theorem Eu {α:Type} [Flat α] {S:Nat->Prop} {w:World} {v:Value} {xs:List α} (h:dx S w v xs):fe v=true:=by obtain ⟨a,c,rfl,_⟩:=h; rfl
theorem Om (ns:List ByteArray) (xs:List bL):(uq ns xs).length<=xs.length:=by
 unfold uq
 split
 ·unfold D2
  cases h:vV xs with
  | none=>exact Nat.zero_le _
  | some t=>
   rw [Ex.tn,<- Ex.cJ,<- (uQ h).2]; exact Nat.le_refl _
 exact Nat.zero_le _
theorem C188 (lv nv:Value) (xs:List bL) (ns:List ByteArray) (i:Int) (t:Ex) (N:Nat) (w:World) (hL:dx (λ _=>True) w lv xs) (hN:dx (λ _=>True) w nv ns) (hn:xs.length<=1048576) (hns:ns.length<=1048576) (hT:Fe xs i t) (hNt:t.size<N):CR 188 [lv,.int .i64 i,nv] w (λ v w'=>mZ (bJ v (t.steps ns)) w w'):=by
 obtain ⟨tF,hq,yO⟩:∃ e,e=t.root/\xs[(i).toNat]? = some e:=⟨_,rfl,hT.root.1⟩;have hri:=hT.root.2;have hie:=hT.end;have hke:=Ex.Ab hT.2.1;rw [<- hq] at hke;have hkb:=xl tF.op;have hi0:=hT.1;have hwk:=JQ (k:=tF.op) (by omega);have hs:=St.start w;refine Wj _ _ _ _ _ ?_;unfold S188;refine aT (by omega) (aU kq hL (by omega) yO (λ _ gS=>ee (tF).op me gS rfl rfl (λ _ aiB=>aF cK (aiB.ext hs.aE) (bO Qh hs (C190 _ _) (λ w1 he hs=>?_)))));refine ⟨λ m NJ a x w1=>∃ k:Nat,a = .int .i64 (i+1+rD t.ej k)/\x = .int .i64 (k:Int)/\m=t.ej.length - k/\k<=t.ej.length/\St w bD [bJ NJ (V3 ns t.ej k)] w1,⟨_,0,congrArg (Value.int .i64) (by simp [rD]),rfl,rfl,by omega,hs.fy (α:=og)⟩,?_⟩
 rintro m NJ _ _ _ ⟨k,rfl,rfl,rfl,hk,hs⟩ _;refine aS (aC (λ nQ=>?_) (λ nQ=>?_))
 ·obtain ⟨a,yP⟩:∃ a,t.ej[k]? = some a:=⟨_,List.getElem?_eq_getElem (by omega)⟩;have hka:=Ex.Ac hT.2.1 (List.mem_of_getElem? yP);have hAk:=hT.kid yP;have hen:=hAk.end;have XC:=a.tm;have hsl:=Lz (ns:=ns) (ks:=t.ej) (k:=k);have hal:=Ex.tn ns a;refine dA aac hs (C188 _ _ _ _ _ _ (N - 1) _ (hL.ext hs.aE) (hN.ext hs.aE) hn hns hAk (by omega)) (λ x24 _ cL hs=>?_);have adm:=(hs).gg;exact dw hs.p1 ui adm (by omega) (by decide) (λ _ _ hs=>have hs:=hs.p1.drop;bO Q5 hs (C172 _ _ _ _ (hL.ext hs.aE) (by omega)) (λ _ _ hs=>aT (by omega) ⟨_,by omega,k+1,congrArg (Value.int .i64) (by rw [hen.1,Cl yP]; omega),rfl,rfl,by omega,by rw [QZ yP]; exact hs⟩))
 have hsl:=Lz (ns:=ns) (ks:=t.ej) (k:=k);refine aU kq hL (by omega) yO (λ _ Sw=>ee (tF).op me Sw rfl rfl (λ _ Mh=>have hs:=hs.drew;aF cK (Mh.ext hs.aE) (aU kq hL (by omega) yO (λ _ Sx=>ee (tF).n vD Sx rfl rfl (λ _ yu=>aF cK (yu.ext hs.aE) (pop (Jm _ _) (aN hs DO (λ VY _ hs=>?_))))))));refine ⟨fZ cK (Mh.ext hs.aE),?_⟩;refine ⟨fZ cK (yu.ext hs.aE),?_⟩;refine aO (x:=(⟨(tF).op,(tF).n⟩:og)) hs zT rfl rfl (λ _ hs=>⟨λ w'=>St w bD [cP VY (Flat.enc (⟨tF.op,Ex.numOf ns tF⟩:og)),bJ NJ (V3 ns t.ej k)] w',aA jZ (aB (v:=.int .i64 (((⟨(tF).op,(tF).n⟩:og)).kind)) cK hs.hb rfl (aI (aC (λ Mi=>?_) (λ Mi=>?_)))),?_⟩)
 ·refine aU kq hL (by omega) yO (λ _ Ho=>ee (tF).name kW Ho rfl rfl (λ _ aiC=>aF kp (aiC.ext hs.aE) (bO Q6 hs (C138 _ _ _ _ (hN.ext hs.aE) (by omega)) (λ _ he hs=>aA mz (bF hs cK (fw rfl) (rfl) (λ _ hs=>?_))))));have hs:=hs.enc (cs':=Flat.enc ({ (⟨(tF).op,(tF).n⟩:og) with n:=(cI ns (tF).name)}:og)) rfl;have hnm:Ex.numOf ns tF=cI ns (tF).name:=if_pos Mi;rw [<- hnm] at hs;exact hs
 ·have hnm:Ex.numOf ns tF=tF.n:=if_neg Mi;rw [<- hnm] at hs;exact hs
 rintro _ hs _;refine aF zT hs.At (cO ([(⟨tF.op,Ex.numOf ns tF⟩:og)]) hs ui rfl rfl (fw rfl) (λ aiD _ hs=>?_));have JR:=(hs).gg;refine dw hs.p2 ui JR (by rw [hsl,List.length_singleton]; have:(t.steps ns).length=t.size:=Ex.tn ns t; rw [Ex.Ae,List.length_append,List.length_singleton,<- show k=t.ej.length from by omega] at this; omega) (by decide) (λ aiE _ hs=>?_);have hs:=hs.p1.drop;rw [Ex.Ae,<- show k=t.ej.length from by omega,<- hq];exact hs.p1.drop.fresh
termination_by N
decreasing_by all_goals omega
theorem C185 (s:ByteArray) (b2:Nat) (nv:Value) (ns:List ByteArray) (w:World) (hc:Cell w b2 0 nv) (hN:dx (λ _=>True) w nv ns) (hns:ns.length<=1048576):CR 185 [.string s,.pointer (some ⟨b2,0,none⟩)] w (λ v w'=>v = .bool (!ns.any λ y=>decide (y=s))/\Ext w w'):=by
 have hs:=St.start w;refine Wl _ _ _ _ ?_;unfold S185;exact bW lL (hc.ext hs.aE) (bO aae hs (C186 _ _ _ _ (hN.ext hs.aE) (by omega)) (λ _ _ hs=>bH ⟨rfl,hs.aE⟩))
theorem C153 (lv nv:Value) (xs:List bL) (ns:List ByteArray) (w:World) (hL:dx (λ _=>True) w lv xs) (hN:dx (λ _=>True) w nv ns) (hn:xs.length<=1048576) (hns:ns.length<=1048576):CR 153 [lv,nv] w (λ v w'=>∃ s,v = .tuple #[s,.int .i64 (nR ns xs)]/\mZ (bJ s (uq ns xs)) w w'):=by
 have hs:=St.start w;refine Wk _ _ _ _ ?_;unfold S153;refine jY hs (Eu hN) (λ Hq w1 hs=>bO LC hs (C123 _ _ _ (hL.ext hs.aE) (by omega)) (λ _ he hs=>bH (bI (λ qA=>?_) (λ qA=>?_))))
 ·have h8:nR ns xs=8:=XD (by simpa using qA);refine ⟨_,by rw [h8],?_⟩;rw [Hn (by rw [h8]; decide)];exact (hs.drop.fy (α:=og)).fresh
 have hre:eF xs=true:=by simpa using qA
 have Dp:=yt xs;have FB:=XE (ns:=ns) hre;refine dA ahm hs (C187 _ _ _ (hL.ext hs.aE) hn hre) (λ x12 _ cL hs=>?_)
 have hfn:rC _ (.func (.func 185) [].toArray [.pointer (some ⟨Hq,0,none⟩)].toArray) (λ s=>!ns.any λ y=>decide (y=s)):=
  ⟨185,[],_,rfl,aho,λ y w1 e1=>C185 y Hq nv ns w1 ((hs.p1.hb.cell rfl).ext e1) ((hN.ext hs.aE).ext e1) hns⟩
 refine bO aad hs (C167 _ _ _ _ _ (hs).gg hfn (by omega)) (λ _ he hs=>bI (λ je=>?_) (λ je=>?_))
 ·have h9:nR ns xs=9:=by rw [FB,if_pos je]
  refine ⟨_,by rw [h9],?_⟩;rw [Hn (by rw [h9]; decide)];exact (hs.drop.drop.fy (α:=og)).fresh
 refine aB lL hs.p1.hb rfl ?_;have h0:nR ns xs=0:=by rw [FB,if_neg (by simpa using je)]
 have NW:=Jl hre;obtain ⟨t,ht⟩:=Fe.of (xs:=xs) (i:=0) (by omega);have hz:=ht.zero NW;refine dA aac hs (C188 _ _ _ _ _ t (t.size+1) _ (hL.ext hs.aE) (hN.ext hs.aE) hn hns ht (by omega)) (λ x17 _ cL hs=>?_);refine ⟨x17,by rw [h0],?_⟩;unfold uq D2;rw [if_pos h0,hz.2];exact hs.p1.drop.p1.drop.fresh
theorem C99 (lv nv mv:Value) (xs:List bL) (ns:List ByteArray) (Es:List Int) (w:World) (hL:dx (λ _=>True) w lv xs) (hN:dx (λ _=>True) w nv ns) (hM:dx (λ _=>True) w mv Es) (hn:xs.length<=1048576) (hns:ns.length<=1048576):CR 99 [lv,nv,mv] w (λ v w'=>v = .tuple #[.int .i64 (wq ns Es xs).1,.int .i64 (wq ns Es xs).2]/\Ext w w'):=by
 have hs:=St.start w;refine acg _ _ _ _ _ ?_;unfold S99;refine aG nj (hN.ext hs.aE) (aG ei (hM.ext hs.aE) (cS (aC (λ je=>?_) (λ je=>?_))))
 ·refine ⟨?_,hs.aE⟩;unfold wq;rw [if_neg (by omega)]
 refine eW ahn (C153 _ _ _ _ _ (hL.ext hs.aE) (hN.ext hs.aE) (by omega) (by omega)) ?_;rintro None _ ⟨aaW,rfl,cL⟩;have hs:=hs.made cL;refine aR rfl (aR rfl (cS (aC (λ pG=>?_) (λ pG=>?_))))
 ·refine ⟨?_,hs.aE⟩;unfold wq;rw [if_pos (by omega),if_neg pG]
 have hml:=Om ns xs;refine bO ags hs (C154 _ _ _ _ _ (hs).gg (hM.ext hs.aE) (by omega)) (λ _ he hs=>aR rfl (aR rfl ?_));refine ⟨?_,hs.aE⟩;unfold wq;rw [if_pos (by omega),if_pos (by simpa using pG)]
end Go.Proofs.YtfkgkbhbdffckaaGreatDoor
namespace Go.Fw
theorem Hr {P:Program} (hm:P.follows .mixedOrders=true) {L:List Nat} {nU:Nat->Nat->PT} (iH:List.all L (okF P nU)=true) {f g:Nat} {k:V->Hp->Bool} {args:V} {xs:List Value} (hA:iB (λ _=>none) args xs)
  (vt:Oc (U3 P (im L (il P nU)) f (.f g .e) args .lf 0) k=true) (w:World) :
  Calls P g xs.toArray w (mW fun (y:Value) (w':World)=>Ext w w'/\∃ v h ρ,k v h=true/\RH P ⟨λ r=>w.heap[r]?,w⟩ ρ h w'/\RV ρ v y):=by
 obtain ⟨v,h',n',hx,hk⟩:=Ma vt
 have hR:RH P ⟨λ r=>w.heap[r]?,w⟩ (λ _=>none) .lf w:=⟨λ _ _=>rfl,λ _ hl=>hl.elim,λ _ _ _ _ hl=>hl.elim,λ _ _ hr=>hr,λ _ _ hl=>hl.elim,rfl,rfl,rfl⟩
 have:=Cy hm iH f _ _ _ _ _ _ _ hx ⟨λ r=>w.heap[r]?,w⟩ (λ _=>none) w (.func (.func g) #[] #[]) xs ⟨[],rfl,rfl⟩ hA hR
 rcases this.ex with ⟨g',first,cap,q1,_,q3⟩ | ⟨l,q1,_⟩
 case inr=>cases q1
 injection q1 with q1 q2 q4
 injection q1 with q1
 subst q1; subst q2; subst q4
 have q5:Calls P g xs.toArray w (mW (jV P ⟨λ r=>w.heap[r]?,w⟩ (λ _=>none) v h')):=by simpa using q3
 refine q5.mono λ x w' ⟨y,hx,ρ',_,Em,hv⟩=>⟨y,hx,⟨Em.st.1,Em.st.2.1,Em.st.2.2,?_,λ b hb _=>?_⟩,v,h',ρ',hk,Em,hv⟩
 ·rcases Nat.eq_zero_or_pos w.heap.size with h0 | h0
  ·omega
  have eU:w.heap.size - 1<w.heap.size:=by omega
  have:=(Array.getElem?_eq_some_iff.1 (Em.qf (w.heap.size - 1) _ (Array.getElem?_eq_getElem eU))).1
  omega
 rw [Em.qf b _ (Array.getElem?_eq_getElem hb),Array.getElem?_eq_getElem hb]
end Go.Fw
