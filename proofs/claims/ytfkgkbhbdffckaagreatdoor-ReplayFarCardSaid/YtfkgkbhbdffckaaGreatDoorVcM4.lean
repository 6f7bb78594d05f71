/-
  Part 4.
-/
import Derived.Test.YtfkgkbhbdffckaaGreatDoorVcM3
set_option linter.all false
set_option maxHeartbeats 8000000
set_option maxRecDepth 100000
namespace Go.Fw
section
variable {P:Program} {Fr:Fram} {ρ:Rn} {h h':Hp} {w:World} {v:V} {n n':Nat} {e:En} {e':Env}
theorem overV_ok {b o c:Nat} {l u:V} {vs:List Value} (hR:RH P Fr ρ h w) (hl:RLs ρ l vs) (hone:∀ z∈vs,oneC z=true) (hc:vs.length=c) (hh:overV h n b o c l u = .ok v h' n') :
  ∃ q w',ρ b=some q/\(storeCells ⟨q.k,q.b+o,none⟩ vs 0).run P w = .ok () w'/\RH P Fr ρ h' w'/\v=u:=by
 obtain ⟨m,es,t,hg,hh⟩:=withC_ok hh
 obtain ⟨hle,hh⟩:=iffO_ok hh
 have hle:o+c<=m:=ble_le hle
 obtain ⟨rfl,rfl,_⟩:=ok_inj hh
 obtain ⟨q,w',g1,g2,g3⟩:=hR.sts (o:=o) hg hl hone (by rw [hc]; exact hle)
 exact ⟨q,w',g1,g2,g3,rfl⟩
theorem goN_spec (k:Nat):RV ρ (goN k) (goInt (k:Int)):=rfl
theorem minN_eq (a b:Nat):minN a b=Nat.min a b:=by
 unfold minN
 cases h:Nat.ble a b with
 | true=>exact (Nat.min_eq_left (ble_le h)).symm
 | false=>
  have:¬ a<=b:=λ hh=>by rw [Nat.ble_eq_true_of_le hh] at h; cases h
  exact (Nat.min_eq_right (Nat.le_of_not_le this)).symm
theorem srcL_ok {es:Nat} {y:V} {x:Value} {k:V->Nat->OR} (hR:RH P Fr ρ h w) (hy:RV ρ y x) (hh:srcL h es y k = .ok v h' n') :
  ∃ u cnt news,k u cnt = .ok v h' n'/\RLs ρ u news/\(∀ z∈news,oneC z=true)/\(∀ w,(Builtin.lenOf x).run P w = .ok cnt w)/\news.length=cnt * es/\∀ j,j<=cnt->(Builtin.firstCells es j x).run P w = .ok (List.toArray (news.take (j * es))) w:=by
 have sl:∀ {b o l cap:Nat} {q:Pl},ρ b=some q->srcC h b o l es k = .ok v h' n'->∃ u cnt news,k u cnt = .ok v h' n'/\RLs ρ u news/\(∀ z∈news,oneC z=true)/\
   (∀ w,(Builtin.lenOf (.slice (some ⟨q.k,q.b+o,none⟩) l cap)).run P w = .ok cnt w)/\news.length=cnt * es/\∀ j,j<=cnt->(Builtin.firstCells es j (.slice (some ⟨q.k,q.b+o,none⟩) l cap)).run P w = .ok (List.toArray (news.take (j * es))) w:=by
  intro b o l cap q hb hh
  obtain ⟨u,news,h1,h2,h3,h4,h5⟩:=srcC_ok hR hb hh
  refine ⟨u,l,news,h1,h2,h3,λ _=>rfl,h4,λ j hj=>?_⟩
  have hle:j * es<=l * es:=Nat.mul_le_mul_right _ hj
  exact run_firstCells_some w es j _ l cap (news.take (j * es)) (by rw [List.length_take]; omega) (λ i x hx=>by
   have hi:i<j * es:=by
    have:=(List.getElem?_eq_some_iff.1 hx).1
    rw [List.length_take] at this; omega
   rw [List.getElem?_take_of_lt hi] at hx
   rw [add_none]; exact h5 i x hx)
 have nl:∀ {a:Option Addr} {cap:Nat},k .e 0 = .ok v h' n'->∃ u cnt news,k u cnt = .ok v h' n'/\RLs ρ u news/\(∀ z∈news,oneC z=true)/\(∀ w,(Builtin.lenOf (.slice a 0 cap)).run P w = .ok cnt w)/\news.length=cnt * es/\
   ∀ j,j<=cnt->(Builtin.firstCells es j (.slice a 0 cap)).run P w = .ok (List.toArray (news.take (j * es))) w:=by
  intro a cap hh
  refine ⟨.e,0,[],hh,(show RLs ρ .e [] from rfl),λ z hz=>by simp at hz,λ _=>rfl,by simp,λ j hj=>?_⟩
  obtain rfl:j=0:=by omega
  cases a <;> simp [Builtin.firstCells,loadCells,loadCellsFrom]
 rcases okSl hh with hh | ⟨rfl,hh⟩ | ⟨b,o,l,d,rfl,hh⟩ | ⟨b,o,l,c,rfl,hh⟩ | ⟨rfl,hh⟩
 ·cases hh
 ·obtain rfl:x = .slice none 0 0:=hy
  exact nl hh
 ·obtain ⟨q,hb,_,rfl⟩:=hy
  exact sl hb hh
 ·obtain ⟨q,hb,_,rfl⟩:=hy
  exact sl hb hh
 obtain ⟨a,c,rfl⟩:=hy
 exact nl hh
theorem s_cpy {T E es by' tx R:Nat} {z:Option Nat} {p q:Oq} {x y:Value} (hf:slFact P T=some (E,es,by',z)) (hR:RH P Fr ρ h w) (hx:RV ρ (evq e p) x) (hy:RV ρ (evq e q) y) (hh:evCpy e h n es p q = .ok v h' n') :
  Eop P (Builtin.copy_ #[T,tx] R [x,y].toArray) w (Pst P Fr ρ v h'):=by
 obtain ⟨hu,inf,hi,hsz,_,_⟩:=slFact_spec hf
 obtain ⟨u,cnt,news,hh,hl,hone,hlen,hnl,hfc⟩:=srcL_ok hR hy hh
 have go:∀ {l cap:Nat} {a:Option Addr} {w':World},(match a with | some a=>(storeCells a (news.take (Nat.min cnt l * es)) 0).run P w = .ok () w' | none=>w'=w)->
   (Builtin.copy_ #[T,tx] R [.slice a l cap,y].toArray).run P w = .ok (goInt (Nat.min cnt l:Nat)) w':=by
  intro l cap a w' hw
  have:=hfc (Nat.min cnt l) (Nat.min_le_left _ _)
  cases a with
  | none=>subst hw; simp [Builtin.copy_,run_underlying hu,hlen,sizeOf,typeInfo,hi,hsz,this]
  | some a=>
   have hw:(storeCells a (news.take (Nat.min cnt l * es)) 0).run P w = .ok () w':=hw
   simp [Builtin.copy_,run_underlying hu,hlen,sizeOf,typeInfo,hi,hsz,this,hw]
 have sl:∀ {b o l cap:Nat} {q:Pl},ρ b=some q->overV h n b o (Nat.mul (minN cnt l) es) (takeV u (Nat.mul (minN cnt l) es)) (goN (minN cnt l)) = .ok v h' n'->Eop P (Builtin.copy_ #[T,tx] R [.slice (some ⟨q.k,q.b+o,none⟩) l cap,y].toArray) w (Pst P Fr ρ v h'):=by
  intro b o l cap q hb hh
  have hmin:Nat.min cnt l * es<=cnt * es:=Nat.mul_le_mul_right _ (Nat.min_le_left _ _)
  rw [minN_eq] at hh
  obtain ⟨q',w',g1,g2,g3,g4⟩:=overV_ok hR (hl.take (Nat.min cnt l * es)) (λ z hz=>hone z (List.mem_of_mem_take hz)) (by rw [List.length_take,hnl]; show min (Nat.min cnt l * es) (cnt * es)=Nat.min cnt l * es; omega) hh
  rw [hb] at g1; cases g1
  exact ⟨_,w',go (a:=some ⟨q.k,q.b+o,none⟩) g2,ρ,Le.refl _,g3,by rw [g4]; exact goN_spec _⟩
 rcases okSl hh with hh | ⟨e1,hh⟩ | ⟨b,o,l,d,e1,hh⟩ | ⟨b,o,l,c,e1,hh⟩ | ⟨e1,hh⟩
 ·cases hh
 ·obtain ⟨rfl,rfl,_⟩:=ok_inj hh
  rw [e1] at hx
  obtain rfl:x = .slice none 0 0:=hx
  exact ⟨_,w,go (a:=none) rfl,hR.post (by rw [show Nat.min cnt 0=0 from Nat.min_zero _]; exact goN_spec 0)⟩
 ·rw [e1] at hx
  obtain ⟨q,hb,_,rfl⟩:=hx
  exact sl hb hh
 ·rw [e1] at hx
  obtain ⟨q,hb,_,rfl⟩:=hx
  exact sl hb hh
 obtain ⟨rfl,rfl,_⟩:=ok_inj hh
 rw [e1] at hx
 obtain ⟨a,c,rfl⟩:=hx
 refine ⟨_,w,go (a:=some a) ?_,hR.post (by rw [show Nat.min cnt 0=0 from Nat.min_zero _]; exact goN_spec 0)⟩
 rw [show Nat.min cnt 0=0 from Nat.min_zero _,Nat.zero_mul,List.take_zero]; rfl
theorem s_clr {T E es by' R:Nat} {z:V} {p:Oq} {x:Value} (hf:slFact P T=some (E,es,by',some es)) (hz:zeroC P E=some z) (h1:1<=es) (hR:RH P Fr ρ h w) (hx:RV ρ (evq e p) x) (hh:evClr e h n es z p = .ok v h' n') :
  Eop P (Builtin.clear_ #[T] R [x].toArray) w (Pst P Fr ρ v h'):=by
 obtain ⟨hu,inf,hi,hsz,_,hzz⟩:=slFact_spec hf
 obtain ⟨zv,hzf,z1,z2,z3⟩:=pr_zero (ρ:=ρ) hz
 obtain ⟨hc,hh⟩:=iffO_ok hh
 have hc:=nb_eq hc
 have hzl:zv.cells.toList.length=es:=by rw [<- z2.len]; exact hc
 have e3:∀ k,(Builtin.zeroCells zv.cells k).toList=(List.replicate k zv.cells.toList).flatten:=by
  intro k
  have:=made_list zv.cells.toList k (by omega)
  rw [<- this,Array.toArray_toList,Array.length_toList]
  rfl
 have nil:∀ {a:Option Addr} {l c:Nat} ,a=none\/l=0->(Builtin.clear_ #[T] R [.slice a l c].toArray).run P w = .ok undef w:=by
  intro a l c hal
  rcases hal with rfl | rfl
  ·simp [Builtin.clear_,run_underlying hu]; rfl
  ·cases a <;> (simp [Builtin.clear_,run_underlying hu]; rfl)
 have sl:∀ {b o l cap:Nat} {q:Pl},ρ b=some q->overV h n b o (Nat.mul l es) (repV z l) und = .ok v h' n'->Eop P (Builtin.clear_ #[T] R [.slice (some ⟨q.k,q.b+o,none⟩) l cap].toArray) w (Pst P Fr ρ v h'):=by
  intro b o l cap q hb hh
  obtain ⟨q',w',g1,g2,g3,g4⟩:=overV_ok hR (z2.rep l) (one_flat z3) (by simp [hzl]) hh
  rw [hb] at g1; cases g1
  refine ⟨undef,w',?_,ρ,Le.refl _,g3,by rw [g4]; exact und_spec ρ⟩
  cases l with
  | zero=>
   have:w'=w:=by
    have g2:(storeCells ⟨q.k,q.b+o,none⟩ (List.replicate 0 zv.cells.toList).flatten 0).run P w = .ok () w':=g2
    simp [storeCells] at g2
    exact g2.symm
   rw [this]; exact nil (.inr rfl)
  | succ l=>
   rw [<- e3] at g2
   have hz1:=run_of_pr z1 w
   simp [Builtin.clear_,run_underlying hu,hz1]
   rw [g2]
   rfl
 rcases okSl hh with hh | ⟨e1,hh⟩ | ⟨b,o,l,d,e1,hh⟩ | ⟨b,o,l,c,e1,hh⟩ | ⟨e1,hh⟩
 ·cases hh
 ·obtain ⟨rfl,rfl,_⟩:=ok_inj hh
  rw [e1] at hx
  obtain rfl:x = .slice none 0 0:=hx
  exact ⟨_,w,nil (.inl rfl),hR.post (und_spec ρ)⟩
 ·rw [e1] at hx
  obtain ⟨q,hb,_,rfl⟩:=hx
  exact sl hb hh
 ·rw [e1] at hx
  obtain ⟨q,hb,_,rfl⟩:=hx
  exact sl hb hh
 obtain ⟨rfl,rfl,_⟩:=ok_inj hh
 rw [e1] at hx
 obtain ⟨a,c,rfl⟩:=hx
 exact ⟨_,w,nil (.inr rfl),hR.post (und_spec ρ)⟩
theorem s_toB {S D E by':Nat} {p:Oq} {x:Value} (h1:P.underlying S=some .string) (h2:P.underlying D=some (.slice E)) (h3:P.underlying E=some (.int .u8)) (hR:RH P Fr ρ h w) (hx:RV ρ (evq e p) x)
  (hh:evToB e h n p = .ok v h' n'):Eop P (convert S D x) w (Pst P Fr ρ v h'):=by
 obtain ⟨c,l,e1,hh⟩:=okS hh
 obtain ⟨hc,hh⟩:=iffO_ok hh
 obtain ⟨hn,hh⟩:=alloc_ok hh
 obtain ⟨rfl,rfl,_⟩:=ok_inj hh
 rw [e1] at hx
 obtain rfl:x = .string (strOf c l):=hx
 have hr:=Go.Lib.run_convert_string_bytes (P:=P) w S D E (strOf c l) h1 h2 h3
 rw [strOf_size] at hr
 have hge:=grownCap_ge w l 0 E
 have le:=ext_le (q:=⟨w.heap.size,0,grownCap w l 0 E,1⟩) (hR.fresh n hn)
 have hat:=Go.Lib.bytesWorld_at_new w E (strOf c l)
 have hcells:Go.Lib.bytesCells w E (strOf c l)=List.toArray (byteCells (strOf c l)++List.replicate (grownCap w l 0 E - l) (.int .u8 0)):=by
  unfold Go.Lib.bytesCells byteCells
  rw [strOf_size]
  apply Array.ext'
  simp
 have hbl:(byteCells (strOf c l)).length=l:=by rw [byteCells_length,strOf_size]
 have hlen:(byteCells (strOf c l)++List.replicate (grownCap w l 0 E - l) (Value.int .u8 0)).length=grownCap w l 0 E:=by rw [List.length_append,hbl,List.length_replicate]; omega
 rw [hcells] at hat
 have hrt:RT ρ (wr1 (bytesV c l 0) 0 .lf) 0 (byteCells (strOf c l)):=RT.wr0 (by rw [byteCells_str]; exact bytesV_spec c l 0) .lf 0
 have hRn:RH P Fr (ext ρ n ⟨w.heap.size,0,grownCap w l 0 E,1⟩) (putH h (.c (Nat.mul l 1) 1 (wr1 (bytesV c l 0) 0 .lf)) n) (Go.Lib.bytesWorld w E (strOf c l)):=by
  refine hR.add hn (λ b q' k1 k2=>?_) ?_ (λ r o' hr ho=>?_) hat ⟨_,E,_,rfl,λ j hj=>?_,rfl,by rw [hlen]; show 0+grownCap w l 0 E * 1<=grownCap w l 0 E; omega,λ _=>by show l * 1<=grownCap w l 0 E * 1; omega,by rw [hlen]; show 0+l * 1<=grownCap w l 0 E; omega,λ i hi=>?_⟩
  ·obtain ⟨q2,o2,j1,j2,_⟩:=hR.lv b k1
   rw [k2] at j1; cases j1
   have:=(Array.getElem?_eq_some_iff.1 j2).1
   show q'.k≠w.heap.size
   omega
  ·cases hF:Fr.f w.heap.size with
   | none=>rfl
   | some o'=>
    have:=hR.keep _ _ hF
    have:=(Array.getElem?_eq_some_iff.1 this).1
    omega
  ·have:=(Array.getElem?_eq_some_iff.1 ho).1
   rw [Go.Lib.bytesWorld_at_old w E _ r this]; exact ho
  ·dsimp only
   rw [List.size_toArray]
   omega
  ·have hi:i<l:=by simpa using hi
   have hg:(byteCells (strOf c l))[i]? = some (byteCells (strOf c l))[i]:=List.getElem?_eq_getElem (by omega)
   refine ⟨(byteCells (strOf c l))[i],?_,?_,?_⟩
   ·show (byteCells (strOf c l)++_)[0+i]? = _
    rw [Nat.zero_add,List.getElem?_append_left (by omega),hg]
   ·have:=hrt i _ hg
    rw [Nat.zero_add] at this
    exact this.mono le
   ·obtain ⟨b,_,hb⟩:=List.mem_map.1 (List.mem_of_getElem? hg)
    rw [<- hb]; rfl
 exact ⟨_,_,hr,_,le,hRn,⟨_,ext_at _ _ _,⟨by simp,by show l+0<=grownCap w l 0 E; omega⟩,rfl⟩⟩
theorem s_mkf {g:Nat} {l:OL} {xs:List Value} (hR:RH P Fr ρ h w) (hx:RLs ρ (evl e l) xs) (hh:evMkf e h n g l = .ok v h' n'):Pst P Fr ρ v h' (.func (.func g) #[] xs.toArray) w:=by
 obtain ⟨rfl,rfl,_⟩:=ok_inj hh
 exact hR.post ⟨xs,hx,rfl⟩
def kindOk (s:Bool) (d:TypeDesc):Prop:=match s,d with | false,.int _=>True | true,.string=>True | _,_=>False
theorem keyEq_ok {s:Bool} {d:TypeDesc} (hd:kindOk s d) {x y:V} {a b:Value} {k:Bool->OR} (hx:RV ρ x a) (hy:RV ρ y b) (hh0:keyEq s x y k = .ok v h' n') :
  ∃ r,k r = .ok v h' n'/\Instr.sameNow d a b=some r/\(r=true->Instr.sameBits 10000 b a=true):=by
 cases s with
 | false=>
  obtain ⟨t,i,rfl,hh1⟩:=okI (show x.onI .no _ = .ok v h' n' from hh0)
  obtain ⟨t',i',rfl,hh2⟩:=okI hh1
  obtain ⟨ht,hh⟩:=iffO_ok hh2
  obtain rfl:a = .int t i:=hx
  obtain rfl:b = .int t' i':=hy
  have:=kn_inj ht
  subst this
  cases d <;> first | exact hd.elim | skip
  refine ⟨_,hh,?_,λ hr=>?_⟩
  ·show (if t=t then some (i == i') else none)=_
   rw [if_pos rfl,eqI_dec]; rfl
  ·rw [eqI_dec] at hr
   have:=of_decide_eq_true hr
   subst this
   show (t == t && i == i)=true
   simp
 | true=>
  obtain ⟨t,i,rfl,hh1⟩:=okS (show x.onS .no _ = .ok v h' n' from hh0)
  obtain ⟨t',i',rfl,hh⟩:=okS hh1
  obtain rfl:a = .string (strOf t i):=hx
  obtain rfl:b = .string (strOf t' i'):=hy
  cases d <;> first | exact hd.elim | skip
  refine ⟨_,hh,?_,λ hr=>?_⟩
  ·show some (strOf t i == strOf t' i')=_
   rw [beqBA,eqS_dec]
  ·rw [eqS_dec] at hr
   have:=of_decide_eq_true hr
   show (strOf t' i' == strOf t i)=true
   rw [beqBA,this]; simp
theorem findV_ok {s:Bool} {d:TypeDesc} (hd:kindOk s d) {x:V} {a:Value} (hx:RV ρ x a) {k0:OR} {k1:OK}:∀ {l:ML} {es:List MapEntry} {i:Nat},RM ρ l es->findV s x l k0 k1 = .ok v h' n'->
  (k0 = .ok v h' n'/\Instr.findNow d a es i=some none)\/∃ u j y,k1 u = .ok v h' n'/\RV ρ u y/\Instr.findNow d a es i=some (some (j,y)):=by
 intro l
 induction l with
 | nil=>intro es i hm hh; obtain rfl:es=[]:=hm; exact .inl ⟨hh,rfl⟩
 | cons k u b r ih=>
  intro es i hm hh
  obtain ⟨en,es',rfl,h1,h2,_,h4⟩:=hm
  obtain ⟨rr,hh,hs,_⟩:=keyEq_ok hd hx h1 (show keyEq s x k (λ b=>iffO b (k1 u) (findV s x r k0 k1)) = .ok v h' n' from hh)
  cases rr with
  | true=>exact .inr ⟨u,i,en.val,hh,h2,by unfold Instr.findNow; rw [hs]⟩
  | false=>
   rcases ih (i:=i+1) h4 hh with ⟨g1,g2⟩ | ⟨u',j,y,g1,g2,g3⟩
   ·exact .inl ⟨g1,by unfold Instr.findNow; rw [hs]; exact g2⟩
   ·exact .inr ⟨u',j,y,g1,g2,by unfold Instr.findNow; rw [hs]; exact g3⟩
theorem setV_ok {s:Bool} {d:TypeDesc} (hd:kindOk s d) {x z:V} {a y:Value} (hx:RV ρ x a) (hz:RV ρ z y) {c:Nat}:∀ {l:ML} {es:List MapEntry} {i:Nat} {k1:Nat->ML->OR},RM ρ l es->setV s x z c l k1 = .ok v h' n'->
  ∃ c' l',k1 c' l' = .ok v h' n'/\((Instr.findNow d a es i=some none/\c'=c+1/\RM ρ l' (es++[⟨a,y,c⟩]))\/
   ∃ j en,Instr.findNow d a es i=some (some (i+j,en.val))/\es[j]? = some en/\Instr.sameBits 10000 en.key a=true/\c'=c/\RM ρ l' (es.modify j λ e=>{e with key:=a,val:=y})):=by
 intro l
 induction l with
 | nil=>intro es i k1 hm hh; obtain rfl:es=[]:=hm; exact ⟨c+1,_,hh,.inl ⟨rfl,rfl,⟨a,y,c⟩,[],rfl,hx,hz,rfl,rfl⟩⟩
 | cons k u b r ih=>
  intro es i k1 hm hh
  obtain ⟨en,es',rfl,h1,h2,h3,h4⟩:=hm
  obtain ⟨rr,hh,hs,hb⟩:=keyEq_ok hd hx h1 (show keyEq s x k (λ t=>iffO t (k1 c (.cons x z b r)) (setV s x z c r λ c l=>k1 c (.cons k u b l))) = .ok v h' n' from hh)
  cases rr with
  | true=>
   refine ⟨c,_,hh,.inr ⟨0,en,by unfold Instr.findNow; rw [hs]; rfl,rfl,hb rfl,rfl,?_⟩⟩
   exact ⟨{en with key:=a,val:=y},es',rfl,hx,hz,h3,h4⟩
  | false=>
   obtain ⟨c',l',g1,g2⟩:=ih (i:=i+1) h4 hh
   refine ⟨c',_,g1,?_⟩
   rcases g2 with ⟨g2,g3,g4⟩ | ⟨j,en',g2,g3,g4,g5,g6⟩
   ·exact .inl ⟨by unfold Instr.findNow; rw [hs]; exact g2,g3,⟨en,_,rfl,h1,h2,h3,g4⟩⟩
   ·refine .inr ⟨j+1,en',by unfold Instr.findNow; rw [hs]; rw [show i+(j+1)=i+1+j from by omega]; exact g2,by simpa using g3,g4,g5,⟨en,_,?_,h1,h2,h3,g6⟩⟩
    simp
theorem delV_ok {s:Bool} {d:TypeDesc} (hd:kindOk s d) {x:V} {a:Value} (hx:RV ρ x a):∀ {l:ML} {es:List MapEntry} {i:Nat} {k1:ML->OR},RM ρ l es->delV s x l k1 = .ok v h' n'->
  ∃ l',k1 l' = .ok v h' n'/\((Instr.findNow d a es i=some none/\RM ρ l' es)\/∃ j y,Instr.findNow d a es i=some (some (i+j,y))/\RM ρ l' (es.eraseIdx j)):=by
 intro l
 induction l with
 | nil=>intro es i k1 hm hh; obtain rfl:es=[]:=hm; exact ⟨_,hh,.inl ⟨rfl,rfl⟩⟩
 | cons k u b r ih=>
  intro es i k1 hm hh
  obtain ⟨en,es',rfl,h1,h2,h3,h4⟩:=hm
  obtain ⟨rr,hh,hs,hb⟩:=keyEq_ok hd hx h1 (show keyEq s x k (λ t=>iffO t (k1 r) (delV s x r λ l=>k1 (.cons k u b l))) = .ok v h' n' from hh)
  cases rr with
  | true=>exact ⟨_,hh,.inr ⟨0,en.val,by unfold Instr.findNow; rw [hs]; rfl,h4⟩⟩
  | false=>
   obtain ⟨l',g1,g2⟩:=ih (i:=i+1) h4 hh
   refine ⟨_,g1,?_⟩
   rcases g2 with ⟨g2,g4⟩ | ⟨j,y,g2,g6⟩
   ·exact .inl ⟨by unfold Instr.findNow; rw [hs]; exact g2,⟨en,_,rfl,h1,h2,h3,g4⟩⟩
   ·exact .inr ⟨j+1,y,by unfold Instr.findNow; rw [hs]; rw [show i+(j+1)=i+1+j from by omega]; exact g2,⟨en,_,by simp,h1,h2,h3,g6⟩⟩
theorem pr_check {s:Bool} {d:TypeDesc} (hd:kindOk s d) {kt:TypeId} (hk:P.underlying kt=some d) {em:Bool} {x:Value}:pr P (Instr.checkKey em 10000 kt x)=some ():=by
 unfold Instr.checkKey
 rw [pr_bind,pr_underlying hk]
 simp only [Option.bind_some]
 cases s <;> cases d <;> first | exact hd.elim | rfl
theorem pr_find {d:TypeDesc} {kt:TypeId} (hk:P.underlying kt=some d) {a:Value} {es:List MapEntry} {r:Option (Nat × Value)} (hf:Instr.findNow d a es 0=some r):pr P (Instr.findKey kt a es)=some r:=by
 unfold Instr.findKey
 rw [pr_bind,pr_underlying hk]
 simp only [Option.bind_some,hf]
 rfl
theorem live_m {c:Nat} {l:ML} {b:Nat} (hb:getH h b = .m c l):live (getH h b):=by rw [hb]; trivial
theorem RH.map0 {b c:Nat} {l:ML} (hR:RH P Fr ρ h w) (hb:getH h b = .m c l):∃ q o,ρ b=some q/\w.heap[q.k]? = some o/\MapO ρ c l o:=by
 obtain ⟨q,o,h1,h2,h3⟩:=hR.lv b (live_m hb)
 rw [hb] at h3
 exact ⟨q,o,h1,h2,h3⟩
theorem RH.map {b c:Nat} {l:ML} (hR:RH P Fr ρ h w) (hb:getH h b = .m c l) (hc:c<4294967296):∃ q es,ρ b=some q/\w.heap[q.k]? = some (.map (List.toArray es) c)/\RM ρ l es:=by
 obtain ⟨q,o,h1,h2,h3⟩:=hR.map0 hb
 rcases h3 with ⟨_,es,rfl,h4⟩ | ⟨h4,_⟩
 ·exact ⟨q,es,h1,h2,h4⟩
 omega
theorem len_m:∀ {l:ML} {es:List MapEntry},RM ρ l es->lenM l=es.length:=by
 intro l
 induction l with
 | nil=>intro es hm; obtain rfl:es=[]:=hm; rfl
 | cons k u b r ih=>intro es ⟨en,es',h1,_,_,_,h4⟩; rw [h1]; show Nat.succ (lenM r)=_; rw [ih h4]; rfl
theorem len_s:∀ {l:ML} {sl:List (ByteArray × Int)},RMs l sl->lenM l=sl.length:=by
 intro l
 induction l with
 | nil=>intro es hm; obtain rfl:es=[]:=hm; rfl
 | cons k u b r ih=>intro es ⟨_,_,_,es',_,_,h1,h4⟩; rw [h1]; show Nat.succ (lenM r)=_; rw [ih h4]; rfl
theorem findS_ok {s:Bool} {x:V} {k0:OR} {k1:OK}:∀ {l:ML} {sl:List (ByteArray × Int)},RMs l sl->findV s x l k0 k1 = .ok v h' n'->
  (k0 = .ok v h' n'/\∀ p∈sl,∃ n m,x = .s n m/\p.1≠strOf n m)\/∃ n m p,x = .s n m/\p∈sl/\p.1=strOf n m/\k1 (.i .i64 p.2) = .ok v h' n':=by
 intro l
 induction l with
 | nil=>intro sl hm hh; obtain rfl:sl=[]:=hm; exact .inl ⟨hh,λ p hp=>(by cases hp)⟩
 | cons k u b r ih=>
  intro sl hm hh
  obtain ⟨n1,m1,x1,sl',rfl,rfl,rfl,h4⟩:=hm
  cases s with
  | false=>
   obtain ⟨t,i,rfl,hh1⟩:=okI (show x.onI .no _ = .ok v h' n' from hh)
   cases hh1
  | true=>
   have hh0:keyEq true x (.s n1 m1) (λ b=>iffO b (k1 (.i .i64 x1)) (findV true x r k0 k1)) = .ok v h' n':=hh
   obtain ⟨n2,m2,rfl,hh1⟩:=okS (show x.onS .no _ = .ok v h' n' from hh0)
   obtain ⟨rr,hh2,hs,_⟩:=keyEq_ok (ρ:=λ _=>none) (s:=true) (d:=.string) trivial (show RV (λ _=>none) (.s n2 m2) (.string (strOf n2 m2)) from rfl) (show RV (λ _=>none) (.s n1 m1) (.string (strOf n1 m1)) from rfl) hh0
   obtain ⟨r',hr',hiff⟩:=MapKept.sameNow_of_keys (d:=.string) (a:=.string (strOf n2 m2)) (b:=.string (strOf n1 m1)) (by simp [MapKept.IsKey]) (by simp [MapKept.IsKey])
   rw [hs] at hr'; obtain rfl:=Option.some.inj hr'
   cases rr with
   | true=>
    have:=hiff.1 rfl
    injection this with this
    exact .inr ⟨n2,m2,_,rfl,List.mem_cons_self,this.symm,hh2⟩
   | false=>
    have hne:strOf n1 m1≠strOf n2 m2:=λ e=>by have:=hiff.2 (by rw [e]); cases this
    rcases ih h4 hh2 with ⟨g1,g2⟩ | ⟨n,m,p,g1,g2,g3,g4⟩
    ·refine .inl ⟨g1,λ p hp=>?_⟩
     rcases List.mem_cons.1 hp with rfl | hp
     ·exact ⟨n2,m2,rfl,hne⟩
     ·exact g2 p hp
    ·exact .inr ⟨n,m,p,g1,List.mem_cons_of_mem _ g2,g3,g4⟩
theorem run_get {r:Nat} {o:Obj} (hw:w.heap[r]? = some o) (ho:∀ c t f,o≠.cells c t f):(getObj r).run P w = .ok o w:=by
 show (Sem.getObj r .pure).run P w=_
 unfold Sem.run
 rw [hw]
 cases o <;> first | rfl | exact absurd rfl (ho _ _ _)
def setO (w:World) (r:Nat) (o:Obj):World:={w with heap:=w.heap.setIfInBounds r o}
theorem run_set {r:Nat} {o o':Obj} (hw:w.heap[r]? = some o) (ho:∀ c t f,o≠.cells c t f):(setObj r o').run P w = .ok () (setO w r o'):=by
 show (Sem.setObj r o' (.pure ())).run P w=_
 unfold Sem.run
 rw [hw]
 cases o <;> first | rfl | exact absurd rfl (ho _ _ _)
theorem setO_at {r:Nat} {o o':Obj} (hw:w.heap[r]? = some o):(setO w r o').heap[r]? = some o':=by
 have:=(Array.getElem?_eq_some_iff.1 hw).1
 unfold setO
 rw [Array.getElem?_setIfInBounds_self_of_lt this]
theorem setO_ne {r k:Nat} {o' o:Obj} (hk:k≠r) (hw:w.heap[k]? = some o):(setO w r o').heap[k]? = some o:=by
 unfold setO
 rw [Array.getElem?_setIfInBounds_ne (Ne.symm hk)]; exact hw
theorem RH.setM {b:Nat} {q:Pl} {hb:HB} {o o':Obj} (hR:RH P Fr ρ h w) (hl:live (getH h b)) (hq:ρ b=some q) (ho:w.heap[q.k]? = some o) (hB:Body P ρ hb q o') (hz:hb≠.z:=by exact λ hh=>by cases hh) :
  RH P Fr ρ (putH h hb b) (setO w q.k o'):=hR.turn hl hq (setO_at ho) hB (λ r x hr hx=>setO_ne hr hx) hz ⟨rfl,rfl,rfl⟩
theorem zeroV_ok {T:TypeId} {z:V} (hz:zeroV P T=some z):∃ y,pr P (zeroValue T)=some y/\RV ρ z y:=by
 have key:∀ {zv:Value},zeroFact P T=some (some zv)->pr P (zeroValue T)=some zv:=fun {zv} hzf=>by
  unfold zeroFact at hzf
  cases hi:P.info? T with
  | none=>rw [hi] at hzf; cases hzf
  | some inf=>
   rw [hi] at hzf
   simp only [Option.map_some,Option.some.injEq] at hzf
   unfold zeroValue; rw [pr_bind,pr_typeInfo hi]; simp only [Option.bind_some,hzf]; rfl
 unfold zeroV at hz
 split at hz
 ·rename_i c hf
  simp only [Option.map_eq_some_iff] at hz
  obtain ⟨l,h1,rfl⟩:=hz
  exact ⟨_,key hf,c.toList,ofCells_spec h1,ofCells_one h1,by simp⟩
 ·rename_i zv _ hf
  exact ⟨_,key hf,ofVal_spec hz⟩
 cases hz
end
section
variable {P:Program} {Fr:Fram} {ρ:Rn} {h h':Hp} {w:World} {v:V} {n n':Nat} {e:En} {e':Env}
theorem s_mkm {T:TypeId} (hR:RH P Fr ρ h w) (hh:evMkm h n = .ok v h' n'):Eop P (Instr.makeMap T none) w (Pst P Fr ρ v h'):=by
 obtain ⟨hn,hh⟩:=alloc_ok hh
 obtain ⟨rfl,rfl,_⟩:=ok_inj hh
 have le:=ext_le (q:=⟨w.heap.size,0,0,0⟩) (hR.fresh n hn)
 exact ⟨.map (some w.heap.size),push w (.map #[] 0),rfl,_,le,hR.new hn rfl rfl (.inl ⟨by decide,[],rfl,rfl⟩),⟨_,ext_at _ _ _,rfl⟩⟩
theorem s_look {T kt et:TypeId} {s ok:Bool} {d:TypeDesc} {z:V} {p q:Oq} {x y:Value} (hu:P.underlying T=some (.map kt et)) (hk:P.underlying kt=some d) (hd:kindOk s d) (hz:zeroV P et=some z)
  (hR:RH P Fr ρ h w) (hx:RV ρ (evq e p) x) (hy:RV ρ (evq e q) y) (hh:evLook e h n s z ok p q = .ok v h' n'):Qop P (Instr.lookup T x y ok) w λ y=>Pst P Fr ρ v h' y w:=by
 obtain ⟨r,e1,hh⟩:=okM hh
 obtain ⟨c,l,hb,hh⟩:=okHM hh
 rw [e1] at hx
 obtain ⟨qq,hq,rfl⟩:=hx
 obtain ⟨q2,o2,g1,g2,g3⟩:=hR.map0 hb
 rw [hq] at g1; cases g1
 have fin:∀ {b:Bool} {u:V} {yy:Value} {vv:Value × Bool},lookR h n ok b u = .ok v h' n'->RV ρ u yy->vv=(yy,b)->Pst P Fr ρ v h' (if ok then .tuple #[vv.1,.bool vv.2] else vv.1) w:=by
  intro b u yy vv hh hv he
  subst he
  cases ok with
  | true=>obtain ⟨rfl,rfl,_⟩:=ok_inj (show OR.ok (.t (.c u (.c (.b b) .e))) h n=_ from hh); exact hR.post ⟨[yy,.bool b],⟨_,_,rfl,hv,_,_,rfl,rfl,rfl⟩,rfl⟩
  | false=>
   have hh:u.fc (λ v=>.ok v h n) = .ok v h' n':=hh
   rw [V.fc_eq] at hh
   obtain ⟨rfl,rfl,_⟩:=ok_inj hh
   exact hR.post hv
 rcases g3 with ⟨_,es,rfl,g3⟩ | ⟨_,sl,g3,es,ck,rfl,g4,g5⟩
 case inr=>
  have hget:=run_get (P:=P) g2 (λ _ _ _ hh=>by cases hh)
  obtain ⟨zy,z1,z2⟩:=zeroV_ok (ρ:=ρ) hz
  have none':(∀ e∈es.toList,e.key≠y)->(Instr.findNow d y es.toList 0=some none)->lookR h n ok false z = .ok v h' n'->Qop P (Instr.lookup T (.map (some qq.k)) y ok) w λ y=>Pst P Fr ρ v h' y w:=λ _ hf h1=>
   ⟨_,by simp [Instr.lookup,run_underlying hu,hget,run_of_pr (pr_check hd hk) w,run_of_pr (pr_find hk hf) w,run_of_pr z1 w],fin (vv:=(zy,false)) h1 z2 rfl⟩
  have hkey:∀ e∈es.toList,∃ p∈sl,e.key = .string p.1/\e.val = .int .i64 p.2:=λ e he=>by
   have:(e.key,e.val)∈sl.map (λ p=>(Value.string p.1,Value.int .i64 p.2)):=g5.mem_iff.1 (List.mem_map.2 ⟨e,he,rfl⟩)
   obtain ⟨p,hp,hk⟩:=List.mem_map.1 this
   simp only [Prod.mk.injEq] at hk
   exact ⟨p,hp,hk.1.symm,hk.2.symm⟩
  have hkey':∀ p∈sl,∃ e∈es.toList,e.key = .string p.1/\e.val = .int .i64 p.2:=λ p hp=>by
   have:(Value.string p.1,Value.int .i64 p.2)∈es.toList.map λ e=>(e.key,e.val):=g5.mem_iff.2 (List.mem_map.2 ⟨p,hp,rfl⟩)
   obtain ⟨e,he,hk⟩:=List.mem_map.1 this
   simp only [Prod.mk.injEq] at hk
   exact ⟨e,he,hk⟩
  cases sl with
  | nil=>
   have h0:es.toList=[]:=by have:=g5.length_eq; simpa using this
   have hl:l = .nil:=by cases l with
    | nil=>rfl
    | cons _ _ _ _=>obtain ⟨_,_,_,_,_,_,h9,_⟩:=g3; cases h9
   subst hl
   exact none' (by rw [h0]; simp) (by rw [h0]; rfl) hh
  | cons p0 sl'=>
   have hstr:∃ n1 m1,evq e q = .s n1 m1/\s=true:=by
    cases l with
    | nil=>cases g3
    | cons k u b r=>
     obtain ⟨n1,m1,x1,_,rfl,_,_,_⟩:=g3
     cases s with
     | false=>obtain ⟨t,i,_,hh1⟩:=okI (show (evq e q).onI .no _ = .ok v h' n' from hh); cases hh1
     | true=>obtain ⟨n2,m2,e2,_⟩:=okS (show (evq e q).onS .no _ = .ok v h' n' from hh); exact ⟨n2,m2,e2,rfl⟩
   obtain ⟨n1,m1,hx1,rfl⟩:=hstr
   rw [hx1] at hy
   obtain rfl:y = .string (strOf n1 m1):=hy
   obtain rfl:d = .string:=by cases d <;> first | rfl | exact hd.elim
   have hik:∀ x∈es.toList,MapKept.IsKey .string x.key:=λ x hx=>by obtain ⟨p,_,e1,_⟩:=hkey x hx; rw [e1]; simp [MapKept.IsKey]
   have spec:=MapKept.findNow_spec (d:=.string) (k:=.string (strOf n1 m1)) (by simp [MapKept.IsKey]) es.toList 0 hik
   rcases findS_ok g3 hh with ⟨h1,h2⟩ | ⟨n2,m2,p,h2,h3,h4,h5⟩
   ·have hne:∀ e∈es.toList,e.key≠.string (strOf n1 m1):=λ e he hk=>by
     obtain ⟨p,hp,e1,_⟩:=hkey e he
     obtain ⟨n3,m3,e3,e4⟩:=h2 p hp
     rw [hx1] at e3; injection e3 with e5 e6; subst e5; subst e6
     rw [e1] at hk; injection hk with hk
     exact e4 hk
    rcases spec with ⟨s1,_⟩ | ⟨j,e,_,s2,s3⟩
    ·exact none' hne s1 h1
    ·exact absurd s3 (hne e (List.mem_of_getElem? s2))
   ·rw [hx1] at h2; injection h2 with e5 e6; subst e5; subst e6
    obtain ⟨e0,he0,k1,k2⟩:=hkey' p h3
    rcases spec with ⟨_,s2⟩ | ⟨j,e,s1,s2,s3⟩
    ·exact absurd (k1.trans (by rw [h4])) (s2 e0 he0)
    ·have he:=List.mem_of_getElem? s2
     have hee:e=e0:=by
      obtain ⟨i,hi,rfl⟩:=List.getElem_of_mem he
      obtain ⟨j',hj,rfl⟩:=List.getElem_of_mem he0
      have:=(List.getElem_inj (i:=i) (j:=j') (h₀:=by simpa using hi) (h₁:=by simpa using hj) g4.2.2).1 (by simp only [List.getElem_map]; rw [s3,k1,h4])
      subst this; rfl
     subst hee
     rw [k2] at s1
     exact ⟨_,by simp [Instr.lookup,run_underlying hu,hget,run_of_pr (pr_check hd hk) w,run_of_pr (pr_find hk s1) w],fin (vv:=(.int .i64 p.2,true)) h5 rfl rfl⟩
 have hget:=run_get (P:=P) g2 (λ _ _ _ hh=>by cases hh)
 rcases findV_ok (i:=0) hd hy g3 hh with ⟨h1,h2⟩ | ⟨u,j,yy,h1,h2,h3⟩
 ·obtain ⟨zy,z1,z2⟩:=zeroV_ok (ρ:=ρ) hz
  exact ⟨_,by simp [Instr.lookup,run_underlying hu,hget,run_of_pr (pr_check hd hk) w,run_of_pr (pr_find hk h2) w,run_of_pr z1 w],fin (vv:=(zy,false)) h1 z2 rfl⟩
 exact ⟨_,by simp [Instr.lookup,run_underlying hu,hget,run_of_pr (pr_check hd hk) w,run_of_pr (pr_find hk h3) w],fin (vv:=(yy,true)) h1 h2 rfl⟩
theorem s_mup {T kt et:TypeId} {s:Bool} {d:TypeDesc} {p q r:Oq} {x y z:Value} (hu:P.underlying T=some (.map kt et)) (hk:P.underlying kt=some d) (hd:kindOk s d)
  (hR:RH P Fr ρ h w) (hx:RV ρ (evq e p) x) (hy:RV ρ (evq e q) y) (hz:RV ρ (evq e r) z) (hh:evMup e h n s p q r = .ok v h' n'):Uop P (Instr.mapUpdate T x y z) w λ w'=>Pst P Fr ρ v h' undef w':=by
 obtain ⟨b,e1,hh⟩:=okM hh
 obtain ⟨c,l,hb,hclt,hh⟩:=okHMx hh
 rw [e1] at hx
 obtain ⟨qq,hq,rfl⟩:=hx
 obtain ⟨q2,es,g1,g2,g3⟩:=hR.map hb hclt
 rw [hq] at g1; cases g1
 have hget:=run_get (P:=P) g2 (λ _ _ _ hh=>by cases hh)
 rw [V.fc_eq] at hh
 obtain ⟨c',l',h1,h2⟩:=setV_ok (i:=0) hd hy hz g3 hh
 obtain ⟨hcl,h1⟩:=iffO_ok h1
 have hcl:=blt_lt hcl
 obtain ⟨rfl,rfl,_⟩:=ok_inj h1
 have key:∀ {o:Obj},Body P ρ (.m c' l') qq o->(Instr.mapUpdate T (.map (some qq.k)) y z).run P w = .ok () (setO w qq.k o)->Uop P (Instr.mapUpdate T (.map (some qq.k)) y z) w λ w'=>Pst P Fr ρ und (putH h (.m c' l') b) undef w':=
  λ hB hr=>⟨_,hr,ρ,Le.refl _,hR.setM (live_m hb) hq g2 hB,und_spec ρ⟩
 rcases h2 with ⟨h2,rfl,h3⟩ | ⟨j,en,h2,h3,h4,rfl,h5⟩
 ·refine key (.inl ⟨hcl,_,rfl,h3⟩) ?_
  unfold Instr.mapUpdate
  rw [run_bind_ok (run_of_pr (pr_underlying hu) w)]
  dsimp only
  rw [run_bind_ok hget]
  dsimp only
  rw [run_bind_ok (run_of_pr (pr_check hd hk) w),run_bind_ok (run_of_pr (pr_find hk h2) w)]
  dsimp only
  rw [show (List.toArray es).push ⟨y,z,c⟩=List.toArray (es++[⟨y,z,c⟩]) from by simp]
  exact run_set g2 (λ _ _ _ hh=>by cases hh)
 refine key (.inl ⟨hcl,_,rfl,h5⟩) ?_
 unfold Instr.mapUpdate
 rw [run_bind_ok (run_of_pr (pr_underlying hu) w)]
 dsimp only
 rw [run_bind_ok hget]
 dsimp only
 rw [run_bind_ok (run_of_pr (pr_check hd hk) w),run_bind_ok (run_of_pr (pr_find hk h2) w)]
 dsimp only
 rw [Nat.zero_add]
 have hkey:(Instr.keyThatStays ((((List.toArray es)[j]?).map (·.key)).getD y) y).run P w = .ok y w:=by
  rw [List.getElem?_toArray,h3]
  unfold Instr.keyThatStays
  show (if Instr.sameBits 10000 en.key y=true then _ else _:Sem Value).run P w=_
  rw [if_pos h4]; rfl
 rw [run_bind_ok hkey]
 rw [show (List.toArray es).modify j (λ e=>{e with key:=y,val:=z})=List.toArray (es.modify j λ e=>{e with key:=y,val:=z}) from by simp]
 exact run_set g2 (λ _ _ _ hh=>by cases hh)
theorem s_del {T U R kt et:TypeId} {s:Bool} {d:TypeDesc} {p q:Oq} {x y:Value} (hu:P.underlying T=some (.map kt et)) (hk:P.underlying kt=some d) (hd:kindOk s d)
  (hR:RH P Fr ρ h w) (hx:RV ρ (evq e p) x) (hy:RV ρ (evq e q) y) (hh:evDel e h n s p q = .ok v h' n'):Eop P (Builtin.delete_ #[T,U] R [x,y].toArray) w (Pst P Fr ρ v h'):=by
 obtain ⟨b,e1,hh⟩:=okM hh
 obtain ⟨c,l,hb,hclt,hh⟩:=okHMx hh
 rw [e1] at hx
 obtain ⟨qq,hq,rfl⟩:=hx
 obtain ⟨q2,es,g1,g2,g3⟩:=hR.map hb hclt
 rw [hq] at g1; cases g1
 have hget:=run_get (P:=P) g2 (λ _ _ _ hh=>by cases hh)
 obtain ⟨l',h1,h2⟩:=delV_ok (i:=0) hd hy g3 hh
 obtain ⟨rfl,rfl,_⟩:=ok_inj h1
 rcases h2 with ⟨h2,h3⟩ | ⟨j,yy,h2,h3⟩
 ·have hset:=run_set (P:=P) (o':=.map (List.toArray es) c) g2 (λ _ _ _ hh=>by cases hh)
  refine ⟨undef,_,?_,ρ,Le.refl _,hR.setM (live_m hb) hq g2 (.inl ⟨hclt,_,rfl,h3⟩),und_spec ρ⟩
  simp [Builtin.delete_,run_underlying hu,hget,run_of_pr (pr_check hd hk) w,run_of_pr (pr_find hk h2) w,hset]
  rfl
 rw [Nat.zero_add] at h2
 have hset:=run_set (P:=P) (o':=.map (List.toArray (es.eraseIdx j)) c) g2 (λ _ _ _ hh=>by cases hh)
 refine ⟨undef,_,?_,ρ,Le.refl _,hR.setM (live_m hb) hq g2 (.inl ⟨hclt,_,rfl,h3⟩),und_spec ρ⟩
 simp [Builtin.delete_,run_underlying hu,hget,run_of_pr (pr_check hd hk) w,run_of_pr (pr_find hk h2) w,hset]
 rfl
theorem s_lenM {T R kt et:TypeId} {p:Oq} {x:Value} (hu:P.underlying T=some (.map kt et)) (hR:RH P Fr ρ h w) (hx:RV ρ (evq e p) x) (hh:evLen e h n .map p = .ok v h' n') :
  Qop P (Builtin.len_ #[T] R [x].toArray) w λ y=>Pst P Fr ρ v h' y w:=by
 obtain ⟨b,e1,hh⟩:=okM hh
 obtain ⟨c,l,hb,hh⟩:=okHM hh
 obtain ⟨rfl,rfl,_⟩:=ok_inj hh
 rw [e1] at hx
 obtain ⟨qq,hq,rfl⟩:=hx
 obtain ⟨q2,o2,g1,g2,g3⟩:=hR.map0 hb
 rw [hq] at g1; cases g1
 have:∃ es ck,o2 = .map es ck/\es.size=lenM l:=by
  rcases g3 with ⟨_,es,rfl,g3⟩ | ⟨_,sl,g3,es,ck,rfl,g4,g5⟩
  ·exact ⟨_,_,rfl,by rw [len_m g3]; simp⟩
  ·exact ⟨_,_,rfl,by rw [len_s g3]; have:=g5.length_eq; simpa using this⟩
 obtain ⟨es,ck,rfl,hlen⟩:=this
 have hget:=run_get (P:=P) g2 (λ _ _ _ hh=>by cases hh)
 refine qopP (y:=goInt (es.size:Int)) ?_ hR (show _=_ by rw [hlen]; rfl)
 simp [Builtin.len_,run_underlying hu,hget]
theorem s_rng {T kt et:TypeId} {p:Oq} {x:Value} (hu:P.underlying T=some (.map kt et)) (hR:RH P Fr ρ h w) (hx:RV ρ (evq e p) x) (hh:evRng e h n p = .ok v h' n'):Eop P (Instr.range T x) w (Pst P Fr ρ v h'):=by
 obtain ⟨b,e1,hh⟩:=okM hh
 obtain ⟨c,l,hb,hclt,hh⟩:=okHMx hh
 obtain ⟨hn,hh⟩:=alloc_ok hh
 obtain ⟨rfl,rfl,_⟩:=ok_inj hh
 rw [e1] at hx
 obtain ⟨qq,hq,rfl⟩:=hx
 obtain ⟨q2,es,g1,g2,g3⟩:=hR.map hb hclt
 rw [hq] at g1; cases g1
 have hget:=run_get (P:=P) g2 (λ _ _ _ hh=>by cases hh)
 have le:=ext_le (q:=⟨w.heap.size,0,0,0⟩) (hR.fresh n hn)
 refine ⟨.pointer (some ⟨w.heap.size,0,none⟩),push w (.mapIter (some qq.k) c #[] c),?_,_,le,hR.new hn rfl rfl ⟨rfl,qq,le _ _ hq,rfl⟩,⟨_,ext_at _ _ _,rfl⟩⟩
 simp [Instr.range,run_underlying hu,hget,push]
theorem live_it {a b c d f r:Nat} (hb:getH h r = .it a b c d f):live (getH h r):=by rw [hb]; trivial
theorem RH.iter {r m c st b k c':Nat} {l:ML} (hR:RH P Fr ρ h w) (hb:getH h r = .it m c st b k) (hm:getH h m = .m c' l) (hclt:c'<4294967296):∃ q qm es,ρ r=some q/\q.b=0/\ρ m=some qm/\w.heap[q.k]? = some (.mapIter (some qm.k) c (if st=0 then #[] else #[b]) k)/\
  w.heap[qm.k]? = some (.map (List.toArray es) c')/\RM ρ l es:=by
 obtain ⟨q,o,h1,h2,h3⟩:=hR.lv r (live_it hb)
 rw [hb] at h3
 obtain ⟨h0,qm,h4,rfl⟩:=h3
 obtain ⟨q2,es,g1,g2,g3⟩:=hR.map hm hclt
 rw [h4] at g1; cases g1
 exact ⟨q,qm,es,h1,h0,h4,h2,g2,g3⟩
theorem s_ent {p:Oq} {x:Value} (hR:RH P Fr ρ h w) (hx:RV ρ (evq e p) x) (hh:evEnt e h n p = .ok v h' n'):Qop P (Instr.entry x) w λ y=>Pst P Fr ρ v h' y w:=by
 obtain ⟨r,o,e1,hh⟩:=okP hh
 obtain ⟨ho,hh⟩:=iffO_ok hh
 have ho:=nb_eq ho
 obtain ⟨m,c,st,b,k,hb,hh⟩:=okHT hh
 obtain ⟨c',l,hm,hclt,hh⟩:=okHMx hh
 obtain ⟨q,qm,es,g1,g0,g2,g3,g4,g5⟩:=hR.iter hb hm hclt
 rw [e1] at hx
 obtain ⟨q',hq,rfl⟩:=hx
 rw [g1] at hq; cases hq
 subst ho
 rw [g0]
 have get1:=run_get (P:=P) g3 (λ _ _ _ hh=>by cases hh)
 have get2:=run_get (P:=P) g4 (λ _ _ _ hh=>by cases hh)
 unfold one1 at hh
 cases l with
 | nil=>cases hh
 | cons kk u b' r'=>
  cases r' with
  | cons _ _ _ _=>cases hh
  | nil=>
   obtain ⟨en,es',rfl,h1,h2,h3,h4⟩:=g5
   obtain rfl:es'=[]:=h4
   obtain ⟨hc,hh5⟩:=iffO_ok (show iffO (andB (Nat.beq st 1) (andB (Nat.beq c' k) (Nat.beq b b'))) _ .no = .ok v h' n' from hh)
   obtain ⟨c1,hc⟩:=and_ok hc
   obtain ⟨c2,c3⟩:=and_ok hc
   have c1:=nb_eq c1
   have c2:=nb_eq c2
   have c3:=nb_eq c3
   obtain ⟨e1',e2',_⟩:=ok_inj hh5
   subst c1; subst c2; subst c3; subst e1'; subst e2'
   refine qopP (y:=.tuple #[en.key,en.val]) ?_ hR ⟨[en.key,en.val],⟨_,_,rfl,h1,_,_,rfl,h2,rfl⟩,rfl⟩
   subst h3
   simp [Instr.entry,get1,get2]
theorem s_nxt {T:TypeId} {p:Oq} {x:Value} (hR:RH P Fr ρ h w) (hx:RV ρ (evq e p) x) (hh:evNxt e h n p = .ok v h' n'):Eop P (Instr.next x false T) w (Pst P Fr ρ v h'):=by
 obtain ⟨r,o,e1,hh⟩:=okP hh
 obtain ⟨ho,hh⟩:=iffO_ok hh
 have ho:=nb_eq ho
 obtain ⟨m,c,st,b,k,hb,hh⟩:=okHT hh
 obtain ⟨c',l,hm,hclt,hh⟩:=okHMx hh
 obtain ⟨q,qm,es,g1,g0,g2,g3,g4,g5⟩:=hR.iter hb hm hclt
 rw [e1] at hx
 obtain ⟨q',hq,rfl⟩:=hx
 rw [g1] at hq; cases hq
 subst ho
 rw [g0]
 have get1:=run_get (P:=P) g3 (λ _ _ _ hh=>by cases hh)
 have get2:=run_get (P:=P) g4 (λ _ _ _ hh=>by cases hh)
 have over:∀ {v':V} {hh':Hp} {m':Nat},OR.ok over1 h n = .ok v' hh' m'->Pst P Fr ρ v' hh' (.tuple #[.bool false]) w:=λ hh=>by
  obtain ⟨rfl,rfl,_⟩:=ok_inj hh
  exact hR.post ⟨[.bool false],⟨_,_,rfl,rfl,rfl⟩,rfl⟩
 unfold one1 at hh
 cases l with
 | nil=>
  obtain rfl:es=[]:=g5
  refine ⟨_,w,?_,over hh⟩
  simp [Instr.next,get1,get2,Question.forced]
 | cons kk u b' r'=>
  cases r' with
  | cons _ _ _ _=>cases hh
  | nil=>
   obtain ⟨en,es',rfl,h1,h2,h3,h4⟩:=g5
   obtain rfl:es'=[]:=h4
   cases st with
   | zero=>
    obtain ⟨hlt,hh⟩:=iffO_ok (show iffO (Nat.blt b' c) _ .no = .ok v h' n' from hh)
    have hlt:=blt_lt hlt
    obtain ⟨rfl,rfl,_⟩:=ok_inj hh
    refine ⟨.tuple #[.bool true,en.key,en.val],setO w q.k (.mapIter (some qm.k) c #[b'] c'),?_,ρ,Le.refl _,hR.setM (live_it hb) g1 g3 ⟨g0,qm,g2,rfl⟩,⟨[.bool true,en.key,en.val],⟨_,_,rfl,rfl,_,_,rfl,h1,_,_,rfl,h2,rfl⟩,rfl⟩⟩
    subst h3
    have hset:=run_set (P:=P) (o':=.mapIter (some qm.k) c #[en.born] c') g3 (λ _ _ _ hh=>by cases hh)
    have hn:¬ c<=en.born:=by omega
    have get1:(getObj q.k).run P w = .ok (.mapIter (some qm.k) c #[] k) w:=get1
    simp [Instr.next,get1,get2,hlt,hn,Question.forced,hset]
   | succ st=>
    obtain ⟨hc,hh5⟩:=iffO_ok (show iffO (andB (Nat.beq b b') (Nat.blt b' k)) _ .no = .ok v h' n' from hh)
    obtain ⟨c1,c2⟩:=and_ok hc
    have c1:=nb_eq c1
    have c2:=blt_lt c2
    have ov:=over hh5
    subst c1
    refine ⟨_,w,?_,ov⟩
    subst h3
    simp [Instr.next,get1,get2,c2,Question.forced]
end
def CalOk (P:Program) (cal:Cal):Prop:=∀ (c args:V) (h:Hp) (n:Nat) (v:V) (h':Hp) (n':Nat),cal c args h n = .ok v h' n'->
 ∀ (Fr:Fram) (ρ:Rn) (w:World) (x:Value) (xs:List Value),RV ρ c x->RLs ρ args xs->RH P Fr ρ h w->CallV P x xs w (Pst P Fr ρ v h')
section
variable {P:Program} {cal:Cal} {Fr:Fram} {ρ:Rn} {h h':Hp} {w:World} {v:V} {n n':Nat} {e:En} {e':Env}
theorem q1_ok {x:Operand} {k:Oq->OpS} (hh:evOp (q1 x k) P cal e h n = .ok v h' n'):∃ q,oq x=some q/\evOp (k q) P cal e h n = .ok v h' n':=by
 unfold q1 at hh
 split at hh
 ·rename_i q hq; exact ⟨q,hq,hh⟩
 cases hh
theorem bif_ok {b:Bool} {q:OpS} (hh:evOp (bif b then q else .bad) P cal e h n = .ok v h' n'):b=true/\evOp q P cal e h n = .ok v h' n':=by
 cases b with
 | true=>exact ⟨rfl,hh⟩
 | false=>cases hh
theorem calF {f:FuncId} {xs:List Value} {K:Value->World->Prop} (hc:CallV P (.func (.func f) #[] #[]) xs w K):CallF P f xs w K:=by
 rcases hc.ex with ⟨g,first,cap,h1,h2,h3⟩ | ⟨l,h1,_⟩
 ·injection h1 with a b c
  injection a with a
  subst a; subst b; subst c
  exact ⟨.inl ⟨h2,by simpa using h3⟩⟩
 cases h1
theorem extK_spec {s : String} {e : Array Value -> Sem Value} (h : extK s = some e) {fn : Func} (hn : fn.name = s) (ho : fn.origin = "") : (fn.name == "runtime.NumGoroutine") = false /\ Extern.findNext fn = none /\ Extern.find fn = some e := by
 unfold extK at h
 cases h1 : s == "internal/bytealg.CountString" with
 | true=>
  rw [h1] at h; cases h
  have:=eq_of_beq h1; subst this
  unfold Extern.findNext Extern.find
  rw [hn,ho]
  exact ⟨by decide,by kernel_rfl,by kernel_rfl⟩
 | false=>
  rw [h1] at h
  cases h2 : s == "internal/bytealg.IndexByteString" with
  | true=>
   rw [h2] at h; cases h
   have:=eq_of_beq h2; subst this
   unfold Extern.findNext Extern.find
   rw [hn,ho]
   exact ⟨by decide,by kernel_rfl,by kernel_rfl⟩
  | false=>
   rw [h2] at h
   cases h3 : s == "internal/bytealg.IndexString" with
   | true=>
    rw [h3] at h; cases h
    have:=eq_of_beq h3; subst this
    unfold Extern.findNext Extern.find
    rw [hn,ho]
    exact ⟨by decide,by kernel_rfl,by kernel_rfl⟩
   | false=>rw [h3] at h; cases h
theorem run_ext {P:Program} {f:Nat} {e:Array Value->Sem Value} (h:extOf P f=some e) {args:Array Value} {v:Value} {w w':World} (hr:(e args).run P w = .ok v w'):(callFunc f args).run P w = .ok (.value v) w':=by
 unfold extOf at h
 split at h
 ·cases h
 rename_i fn hf
 cases hb : (fn.body.isNone && fn.origin == "") with
 | false=>rw [hb] at h; cases h
 | true=>
  rw [hb] at h
  rw [Bool.and_eq_true] at hb
  obtain ⟨a,b,c⟩:=extK_spec h rfl (eq_of_beq hb.2)
  show (match P.funcs[f]? with | none=>_ | some fn=>_:Sem Next).run P w=_
  rw [hf]
  simp only [a,hb.1,b,c]
  exact run_v hr
theorem op_sound (hc:CalOk P cal) {o:Oper} (hev:evOp (prepOp P o) P cal e h n = .ok v h' n') (hE:RE ρ e e') (hR:RH P Fr ρ h w):DOp P (opK P o (ev e')) (Pst P Fr ρ v h') w:=by
 unfold prepOp at hev
 unfold opK
 cases hop:o.op <;> rw [hop] at hev <;> dsimp only at hev |- <;> try (exact (show False by cases hev).elim)
 case move x=>
  obtain ⟨q,hq,hev⟩:=q1_ok hev
  have hev:(evq e q).fc (λ v=>.ok v h n) = .ok v h' n':=hev
  rw [V.fc_eq] at hev
  obtain ⟨rfl,rfl,_⟩:=ok_inj hev
  exact hR.post (oq_spec hE hq)
 case assign x=>
  obtain ⟨q,hq,hev⟩:=q1_ok hev
  have hev:(evq e q).fc (λ v=>.ok v h n) = .ok v h' n':=hev
  rw [V.fc_eq] at hev
  obtain ⟨rfl,rfl,_⟩:=ok_inj hev
  exact hR.post (oq_spec hE hq)
 case pick c a b=>
  obtain ⟨q1,hq1,hev⟩:=q1_ok hev
  obtain ⟨q2,hq2,hev⟩:=q1_ok hev
  obtain ⟨q3,hq3,hev⟩:=q1_ok hev
  exact s_pick hR (oq_spec hE hq1) (oq_spec hE hq2) (oq_spec hE hq3) hev
 case alloc t=>
  split at hev
  ·rename_i z hz; exact s_alloc hz hR hev
  ·cases hev
 case box t x=>
  obtain ⟨q,hq,hev⟩:=q1_ok hev
  exact s_box hR (oq_spec hE hq) hev
 case build t ps=>
  split at hev
  ·rename_i fs z l hu hz hl
   obtain ⟨hf,hev⟩:=bif_ok hev
   exact s_buildS hu hz hl hf hR hE hev
  ·rename_i k E z l hu hz
   split at hev
   ·rename_i l2 hl
    obtain ⟨hf,hev⟩:=bif_ok hev
    exact s_buildA hu hz hl hf hR hE hev
   ·cases hev
  ·cases hev
 case buildSlice t k ps=>
  split at hev
  ·rename_i E es by' k2 hf
   split at hev
   ·rename_i z l hz hl
    obtain ⟨hb,hev⟩:=bif_ok hev
    simp only [Bool.and_eq_true] at hb
    obtain ⟨b1,b2,b3⟩:=hb
    have b1:=nb_eq b1
    subst b1
    exact s_bsl hf hz hl (ble_le b2) (ble_le b3) hR hE hev
   ·cases hev
  ·cases hev
 case insert t m k x=>
  obtain ⟨q1,hq1,hev⟩:=q1_ok hev
  obtain ⟨q2,hq2,hev⟩:=q1_ok hev
  obtain ⟨q3,hq3,hev⟩:=q1_ok hev
  split at hev
  ·rename_i kt et hu
   split at hev
   ·rename_i kk hk; exact s_mup (s:=false) (d:=.int kk) hu hk trivial hR (oq_spec hE hq1) (oq_spec hE hq2) (oq_spec hE hq3) hev
   ·rename_i hk; exact s_mup (s:=true) (d:=.string) hu hk trivial hR (oq_spec hE hq1) (oq_spec hE hq2) (oq_spec hE hq3) hev
   ·cases hev
  ·cases hev
 case load t a=>
  split at hev
  ·rename_i ht
   obtain ⟨q,hq,hev⟩:=q1_ok hev
   exact s_ld ht hR (oq_spec hE hq) hev
  ·rename_i k ht
   obtain ⟨q,hq,hev⟩:=q1_ok hev
   exact s_lda ht hR (oq_spec hE hq) hev
  ·cases hev
 case store t a x=>
  obtain ⟨q1,hq1,hev⟩:=q1_ok hev
  obtain ⟨q2,hq2,hev⟩:=q1_ok hev
  split at hev
  ·rename_i ag k ht; exact s_st ht hR (oq_spec hE hq1) (oq_spec hE hq2) hev
  ·cases hev
 case nilCheck x=>
  obtain ⟨q,hq,hev⟩:=q1_ok hev
  exact s_nil hR (oq_spec hE hq) hev
 case binOp op t x y u=>
  obtain ⟨q1,hq1,hev⟩:=q1_ok hev
  obtain ⟨q2,hq2,hev⟩:=q1_ok hev
  obtain ⟨z,g1,g2,g3⟩:=s_bin (oq_spec hE hq1) (oq_spec hE hq2) hev
  subst g3
  split
  ·exact qopP (run_of_pr g1 w) hR g2
  ·exact popP g1 hR g2
 case unOp op t x=>
  obtain ⟨q,hq,hev⟩:=q1_ok hev
  cases op with
  | not=>exact s_not hR (oq_spec hE hq) hev
  | _=>exact s_gen (n:=n) hR (oq_spec hE hq) hev
 case convert s d x=>
  obtain ⟨q,hq,hev⟩:=q1_ok hev
  by_cases h0:convK P s d=0
  ·rw [h0] at hev |-
   exact s_gen hR (oq_spec hE hq) hev
  ·rw [show Nat.beq (convK P s d) 0=false from Bool.eq_false_iff.2 λ hh=>h0 (nb_eq hh)] at hev
   dsimp only [cond_false] at hev
   split at hev
   ·rename_i E h1 h2
    split at hev
    ·rename_i k h3 h4
     have:convK P s d=2:=by unfold convK; rw [h2]
     rw [this]
     exact s_toB (by':=0) h1 h2 h3 hR (oq_spec hE hq) hev
    ·cases hev
   ·cases hev
 case makeFunc fn first cap=>
  split at hev
  ·rename_i g l hf hl
   have e1:first.toList=[]:=hf
   rw [e1]
   exact s_mkf hR (olq_spec hE hl) hev
  ·cases hev
 case makeMap t r=>
  cases r with
  | none=>exact s_mkm hR hev
  | some _=>cases hev
 case makeSlice t l c=>
  obtain ⟨q1,hq1,hev⟩:=q1_ok hev
  obtain ⟨q2,hq2,hev⟩:=q1_ok hev
  split at hev
  ·rename_i E es by' k hf
   split at hev
   ·rename_i z hz
    obtain ⟨hb,hev⟩:=bif_ok hev
    simp only [Bool.and_eq_true] at hb
    obtain ⟨b1,b2,b3⟩:=hb
    have b1:=nb_eq b1
    subst b1
    exact s_mks hf hz (ble_le b2) (ble_le b3) hR (oq_spec hE hq1) (oq_spec hE hq2) hev
   ·cases hev
  ·cases hev
 case slice t x lo hi mx=>
  obtain ⟨q1,hq1,hev⟩:=q1_ok hev
  split at hev
  ·rename_i l u m hl hu hm
   split at hev
   ·rename_i hT
    cases mx with
    | none=>exact s_cut hT hR hE (oq_spec hE hq1) hl hu hev
    | some _=>cases hev
   ·rename_i E hT
    obtain ⟨hb,hev⟩:=bif_ok hev
    simp only [Bool.and_eq_true] at hb
    exact s_slc hT rfl (ble_le hb.1) hR hE (oq_spec hE hq1) hl hu hm hb.2 hev
   ·cases hev
  ·cases hev
 case fieldAddr s x f=>
  obtain ⟨q1,hq1,hev⟩:=q1_ok hev
  split at hev
  ·rename_i off ht; exact s_fa ht hR (oq_spec hE hq1) hev
  ·cases hev
 case field t x f=>
  obtain ⟨q1,hq1,hev⟩:=q1_ok hev
  split at hev
  ·rename_i fs hu
   split at hev
   ·rename_i fd hf
    split at hev
    ·rename_i m ht; exact s_fld hu hf ht hR (oq_spec hE hq1) hev
    ·rename_i m ht; exact s_flda hu hf ht hR (oq_spec hE hq1) hev
    ·cases hev
   ·cases hev
  ·cases hev
 case indexAddr t x i=>
  obtain ⟨q1,hq1,hev⟩:=q1_ok hev
  obtain ⟨q2,hq2,hev⟩:=q1_ok hev
  split at hev
  ·rename_i E hu
   obtain ⟨hb,hev⟩:=bif_ok hev
   exact s_ia hu rfl (ble_le hb) hR (oq_spec hE hq1) (oq_spec hE hq2) hev
  ·rename_i k E hu
   obtain ⟨hb,hev⟩:=bif_ok hev
   exact s_iaa hu rfl (ble_le hb) hR (oq_spec hE hq1) (oq_spec hE hq2) hev
  ·cases hev
 case index t x i=>
  obtain ⟨q1,hq1,hev⟩:=q1_ok hev
  obtain ⟨q2,hq2,hev⟩:=q1_ok hev
  split at hev
  ·rename_i hu; exact s_idx hu hR (oq_spec hE hq1) (oq_spec hE hq2) hev
  ·rename_i k E hu
   split at hev
   ·rename_i es ht; exact s_idxa hu ht hR (oq_spec hE hq1) (oq_spec hE hq2) hev
   ·rename_i es ht; exact s_idxg hu ht hR (oq_spec hE hq1) (oq_spec hE hq2) hev
   ·cases hev
  ·cases hev
 case lookup t x i ok=>
  obtain ⟨q1,hq1,hev⟩:=q1_ok hev
  obtain ⟨q2,hq2,hev⟩:=q1_ok hev
  split at hev
  ·rename_i kt et hu
   split at hev
   ·rename_i z kk hz hk; exact s_look (s:=false) (d:=.int kk) hu hk trivial hz hR (oq_spec hE hq1) (oq_spec hE hq2) hev
   ·rename_i z hz hk; exact s_look (s:=true) (d:=.string) hu hk trivial hz hR (oq_spec hE hq1) (oq_spec hE hq2) hev
   ·cases hev
  ·cases hev
 case mapUpdate t m k x=>
  obtain ⟨q1,hq1,hev⟩:=q1_ok hev
  obtain ⟨q2,hq2,hev⟩:=q1_ok hev
  obtain ⟨q3,hq3,hev⟩:=q1_ok hev
  split at hev
  ·rename_i kt et hu
   split at hev
   ·rename_i kk hk; exact s_mup (s:=false) (d:=.int kk) hu hk trivial hR (oq_spec hE hq1) (oq_spec hE hq2) (oq_spec hE hq3) hev
   ·rename_i hk; exact s_mup (s:=true) (d:=.string) hu hk trivial hR (oq_spec hE hq1) (oq_spec hE hq2) (oq_spec hE hq3) hev
   ·cases hev
  ·cases hev
 case range t x=>
  obtain ⟨q1,hq1,hev⟩:=q1_ok hev
  split at hev
  ·rename_i kt et hu; exact s_rng hu hR (oq_spec hE hq1) hev
  ·cases hev
 case next x s=>
  obtain ⟨q1,hq1,hev⟩:=q1_ok hev
  cases s with
  | true=>cases hev
  | false=>exact s_nxt hR (oq_spec hE hq1) hev
 case entry x=>
  obtain ⟨q1,hq1,hev⟩:=q1_ok hev
  exact s_ent hR (oq_spec hE hq1) hev
 case extract x i=>
  obtain ⟨q1,hq1,hev⟩:=q1_ok hev
  exact s_ext hR (oq_spec hE hq1) hev
 case call c=>
  split at hev
  ·rename_i f hf
   split at hev
   ·rename_i l hl
    rw [hf]
    split at hev
    ·rename_i g hg
     obtain ⟨y,h1,h2⟩:=(s_genl hR (olq_spec hE hl) hev).ex
     exact ⟨.inr ⟨y,w,run_ext hg (run_of_pr h1 w),h2⟩⟩
    ·exact calF (hc _ _ _ _ _ _ _ hev Fr ρ w _ _ ⟨[],rfl,rfl⟩ (olq_spec hE hl) hR)
   ·cases hev
  ·rename_i x hnf hf
   obtain ⟨q1,hq1,hev⟩:=q1_ok hev
   split at hev
   ·rename_i l hl
    rw [hf]
    have:=hc _ _ _ _ _ _ _ hev Fr ρ w _ _ (oq_spec hE hq1) (olq_spec hE hl) hR
    cases x <;> first | exact this | exact absurd rfl (hnf _)
   ·cases hev
  ·cases hev
  ·rename_i b hf
   rw [hf]
   dsimp only
   split at hev
   ·
    rename_i t x ht hx
    obtain ⟨q1,hq1,hev⟩:=q1_ok hev
    have e1:c.argTypes = #[t]:=by rw [<- Array.toArray_toList (xs:=c.argTypes),ht]
    rw [hx,e1]
    show DOp P (if isMap P t=true then _ else _) _ w
    split at hev
    ·rename_i hu
     rw [if_neg (by unfold isMap; rw [hu]; simp)]
     exact s_lenS hu hR (oq_spec hE hq1) hev
    ·rename_i E hu
     rw [if_neg (by unfold isMap; rw [hu]; simp)]
     split at hev
     ·rename_i r hf
      obtain ⟨E',m,by',z⟩:=r
      exact s_lenL hf hR (oq_spec hE hq1) hev
     ·cases hev
    ·rename_i kt et hu
     rw [if_pos (by unfold isMap; rw [hu])]
     exact s_lenM hu hR (oq_spec hE hq1) hev
    ·cases hev
   ·
    rename_i t x ht hx
    obtain ⟨q1,hq1,hev⟩:=q1_ok hev
    have e1:c.argTypes = #[t]:=by rw [<- Array.toArray_toList (xs:=c.argTypes),ht]
    rw [hx,e1]
    split at hev
    ·rename_i r hf
     obtain ⟨E',m,by',z⟩:=r
     exact s_cap hf hR (oq_spec hE hq1) hev
    ·cases hev
   ·
    split at hev
    ·rename_i l hl; exact s_genl hR (olq_spec hE hl) hev
    ·cases hev
   ·
    split at hev
    ·rename_i l hl; exact s_genl hR (olq_spec hE hl) hev
    ·cases hev
   ·
    rename_i t u x y ht hx
    obtain ⟨q1,hq1,hev⟩:=q1_ok hev
    obtain ⟨q2,hq2,hev⟩:=q1_ok hev
    have e1:c.argTypes = #[t,u]:=by rw [<- Array.toArray_toList (xs:=c.argTypes),ht]
    rw [hx,e1]
    split at hev
    ·rename_i E es by' k hf
     obtain ⟨hb,hev⟩:=bif_ok hev
     simp only [Bool.and_eq_true] at hb
     obtain ⟨b1,b2,b3⟩:=hb
     have b1:=nb_eq b1
     subst b1
     split at hev
     ·rename_i e2 he; exact s_app hf (ble_le b2) (ble_le b3) (.inl ⟨e2,he⟩) hR (oq_spec hE hq1) (oq_spec hE hq2) hev
     ·rename_i he; exact s_app hf (ble_le b2) (ble_le b3) (.inr he) hR (oq_spec hE hq1) (oq_spec hE hq2) hev
     ·rename_i kn he
      split at hev
      ·rename_i z hz; exact s_apz hf hz (ble_le b2) (ble_le b3) he hR (oq_spec hE hq1) (oq_spec hE hq2) hev
      ·cases hev
     ·cases hev
    ·cases hev
   ·
    rename_i t u x y ht hx
    obtain ⟨q1,hq1,hev⟩:=q1_ok hev
    obtain ⟨q2,hq2,hev⟩:=q1_ok hev
    have e1:c.argTypes = #[t,u]:=by rw [<- Array.toArray_toList (xs:=c.argTypes),ht]
    rw [hx,e1]
    split at hev
    ·rename_i E es by' k hf
     obtain ⟨hb,hev⟩:=bif_ok hev
     exact s_cpy hf hR (oq_spec hE hq1) (oq_spec hE hq2) hev
    ·cases hev
   ·
    rename_i t u x y ht hx
    obtain ⟨q1,hq1,hev⟩:=q1_ok hev
    obtain ⟨q2,hq2,hev⟩:=q1_ok hev
    have e1:c.argTypes = #[t,u]:=by rw [<- Array.toArray_toList (xs:=c.argTypes),ht]
    rw [hx,e1]
    split at hev
    ·rename_i kt et hu
     split at hev
     ·rename_i kk hk; exact s_del (s:=false) (d:=.int kk) hu hk trivial hR (oq_spec hE hq1) (oq_spec hE hq2) hev
     ·rename_i hk; exact s_del (s:=true) (d:=.string) hu hk trivial hR (oq_spec hE hq1) (oq_spec hE hq2) hev
     ·cases hev
    ·cases hev
   ·
    rename_i t x ht hx
    obtain ⟨q1,hq1,hev⟩:=q1_ok hev
    have e1:c.argTypes = #[t]:=by rw [<- Array.toArray_toList (xs:=c.argTypes),ht]
    rw [hx,e1]
    split at hev
    ·rename_i E es by' k hf
     split at hev
     ·rename_i z hz
      obtain ⟨hb,hev⟩:=bif_ok hev
      have hk:k=es:=by
       obtain ⟨hu,inf,hi,hsz,_,hzz⟩:=slFact_spec hf
       obtain ⟨hc',_⟩:=iffO_ok (show iffO (Nat.beq (lenV z) es) _ .no = .ok v h' n' from hev)
       have hc':=nb_eq hc'
       obtain ⟨zv,hzf,_,z2,_⟩:=pr_zero (ρ:=ρ) hz
       unfold zeroFact at hzf
       rw [hi] at hzf
       simp only [Option.map_some,Option.some.injEq] at hzf
       rw [hzf] at hzz
       have:zv.cells.size=k:=by simpa using hzz
       rw [<- this,<- hc',z2.len,Array.length_toList]
      subst hk
      exact s_clr hf hz (ble_le hb) hR (oq_spec hE hq1) hev
     ·cases hev
    ·cases hev
   ·cases hev
end
theorem TV_eqv:∀ t u:Tr V,TV.eqv t u=true->t=u:=by
 intro t
 induction t with
 | lf=>intro u h; cases u with
  | lf=>rfl
  | nd l v r=>cases h
 | nd l v r hl hr=>intro u h; cases u with
  | lf=>cases h
  | nd l' v' r'=>
   obtain ⟨h1,h2⟩:=and_ok (show andB (V.eqs true v v') (andB (TV.eqv l l') (TV.eqv r r'))=true from h)
   obtain ⟨h2,h3⟩:=and_ok h2
   rw [(eqs_spec _ _ h1).1,hl _ h2,hr _ h3]
theorem ML_eqv:∀ a b:ML,ML.eqv a b=true->a=b:=by
 intro a
 induction a with
 | nil=>intro b h; cases b with
  | nil=>rfl
  | cons k v t r=>cases h
 | cons k v t r ih=>intro b h; cases b with
  | nil=>cases h
  | cons k' v' t' r'=>
   obtain ⟨h1,h2⟩:=and_ok (show andB (V.eqs true k k') (andB (V.eqs true v v') (andB (Nat.beq t t') (ML.eqv r r')))=true from h)
   obtain ⟨h2,h3⟩:=and_ok h2
   obtain ⟨h3,h4⟩:=and_ok h3
   rw [(eqs_spec _ _ h1).1,(eqs_spec _ _ h2).1,nb_eq h3,ih _ h4]
theorem HB_eqv (a b:HB) (h:HB.eqv a b=true):a=b:=by
 cases a with
 | z=>cases b <;> first | rfl | cases h
 | x=>cases b <;> first | rfl | cases h
 | df=>cases b <;> first | rfl | cases h
 | c n es t=>
  cases b <;> first | cases h | skip
  rename_i n' es' t'
  obtain ⟨h1,h2⟩:=and_ok (show andB (Nat.beq n n') (andB (Nat.beq es es') (TV.eqv t t'))=true from h)
  obtain ⟨h2,h3⟩:=and_ok h2
  rw [nb_eq h1,nb_eq h2,TV_eqv _ _ h3]
 | m c l=>
  cases b <;> first | cases h | skip
  rename_i c' l'
  obtain ⟨h1,h2⟩:=and_ok (show andB (Nat.beq c c') (ML.eqv l l')=true from h)
  rw [nb_eq h1,ML_eqv _ _ h2]
 | it m c st b0 k=>
  cases b <;> first | cases h | skip
  rename_i m' c' st' b' k'
  obtain ⟨h1,h2⟩:=and_ok (show andB (Nat.beq m m') (andB (Nat.beq c c') (andB (Nat.beq st st') (andB (Nat.beq b0 b') (Nat.beq k k'))))=true from h)
  obtain ⟨h2,h3⟩:=and_ok h2
  obtain ⟨h3,h4⟩:=and_ok h3
  obtain ⟨h4,h5⟩:=and_ok h4
  rw [nb_eq h1,nb_eq h2,nb_eq h3,nb_eq h4,nb_eq h5]
 | lp st j ps e a b0=>cases h
theorem TH_eqv:∀ t u:Tr HB,TH.eqv t u=true->t=u:=by
 intro t
 induction t with
 | lf=>intro u h; cases u with
  | lf=>rfl
  | nd l v r=>cases h
 | nd l v r hl hr=>intro u h; cases u with
  | lf=>cases h
  | nd l' v' r'=>
   obtain ⟨h1,h2⟩:=and_ok (show andB (HB.eqv v v') (andB (TH.eqv l l') (TH.eqv r r'))=true from h)
   obtain ⟨h2,h3⟩:=and_ok h2
   rw [HB_eqv _ _ h1,hl _ h2,hr _ h3]
theorem eq8_eq {α:Type} {f:α->α->Bool} (hf:∀ a b,f a b=true->a=b) (a b:N8 α) (h:eq8 f a b=true):a=b:=by
 cases a with | mk x0 x1 x2 x3 x4 x5 x6 x7=>
 cases b with | mk y0 y1 y2 y3 y4 y5 y6 y7=>
 obtain ⟨h0,h⟩:=and_ok (show andB (f x0 y0) (andB (f x1 y1) (andB (f x2 y2) (andB (f x3 y3) (andB (f x4 y4) (andB (f x5 y5) (andB (f x6 y6) (f x7 y7)))))))=true from h)
 obtain ⟨h1,h⟩:=and_ok h
 obtain ⟨h2,h⟩:=and_ok h
 obtain ⟨h3,h⟩:=and_ok h
 obtain ⟨h4,h⟩:=and_ok h
 obtain ⟨h5,h⟩:=and_ok h
 obtain ⟨h6,h7⟩:=and_ok h
 rw [hf _ _ h0,hf _ _ h1,hf _ _ h2,hf _ _ h3,hf _ _ h4,hf _ _ h5,hf _ _ h6,hf _ _ h7]
theorem En_eqv (a b:En) (h:eq8 (eq8 (eq8 (V.eqs true))) a b=true):a=b:=eq8_eq (λ a b=>eq8_eq (λ a b=>eq8_eq (λ a b h=>(eqs_spec a b h).1) a b) a b) a b h
theorem both_ok {a b x:RR} (h:both a b=x) (hx:x≠.no):∃ e h' n,a = .ok e h' n/\x=a/\(b = .any\/∃ m,b = .ok e h' m):=by
 cases a with
 | no=>exact absurd h.symm hx
 | any=>exact absurd h.symm hx
 | ok e h1 n=>cases b with
  | no=>exact absurd h.symm hx
  | any=>exact ⟨e,h1,n,rfl,h.symm,.inl rfl⟩
  | ok e' h1' n'=>
   have hq:Bool.rec (motive:=λ _=>RR) .no (.ok e h1 n) (andB (Nat.beq n n') (andB (eq8 (eq8 (eq8 (V.eqs true))) e e') (TH.eqv h1 h1')))=x:=h
   cases hb:andB (Nat.beq n n') (andB (eq8 (eq8 (eq8 (V.eqs true))) e e') (TH.eqv h1 h1')) with
   | false=>rw [hb] at hq; exact absurd hq.symm hx
   | true=>
    rw [hb] at hq
    obtain ⟨_,g1⟩:=and_ok hb
    obtain ⟨g1,g2⟩:=and_ok g1
    have:=En_eqv _ _ g1; subst this
    have:=TH_eqv _ _ g2; subst this
    exact ⟨e,h1,n,rfl,hq.symm,.inr ⟨n',rfl⟩⟩
theorem thenR_ok {a:OR} {k:V->Hp->Nat->RR} {x:RR} (h:thenR a k=x) (hx:x≠.no):∃ v h' n',a = .ok v h' n'/\k v h' n'=x:=by
 cases a with
 | no=>exact absurd h.symm hx
 | ok v h' n'=>exact ⟨v,h',n',rfl,h⟩
section
variable {P:Program} {cal:Cal} {Fr:Fram} {ρ:Rn} {h:Hp} {w:World} {e:En} {e':Env} {n:Nat} {ops:List Oper}
theorem RV_bool {v:V} {t:Bool} (h:RV ρ v (.bool t)):v = .b t:=by
 cases v with
 | b x=>have h:Value.bool t = .bool x:=h; injection h with h; rw [h]
 | _=>simp [RV,RP] at h
theorem recR {s y:RR} (c:Bool):Bool.rec (motive:=λ _=>RR) s y c=if c=true then y else s:=by cases c <;> rfl
theorem evG_eq {o:Oper} {g:GS} (hg:prepG ops o=some g) (hE:RE ρ e e') (y s:RR):evG g e y s=if wantB ops o e'=true then y else s:=by
 unfold prepG at hg
 cases ho:o.guard with
 | none=>
  rw [ho] at hg; cases hg
  have hB:wantB ops o e'=true:=by unfold wantB; rw [ho]
  rw [if_pos hB]; rfl
 | some jb=>
  obtain ⟨j,b⟩:=jb
  rw [ho] at hg
  dsimp only at hg
  cases hs:slotOf ops j with
  | none=>rw [hs] at hg; cases hg
  | some s0=>
   rw [hs] at hg
   dsimp only at hg
   have hB:wantB ops o e'=(match e' s0 with | .bool b'=>b' == b | _=>false):=by simp only [wantB,ho,hs]; rfl
   cases hk:slOf s0 with
   | none=>rw [hk] at hg; cases hg
   | some k=>
    rw [hk] at hg
    cases hg
    have hr:=hE s0 k hk
    show (k.get e).onBR s (λ x=>Bool.rec (motive:=λ _=>RR) s y (eqB x b))=_
    rcases V.onBR_inv (k.get e) s (λ x=>Bool.rec (motive:=λ _=>RR) s y (eqB x b)) with h0 | ⟨x,h0,h1⟩
    ·by_cases hy:∃ t,e' s0 = .bool t
     ·obtain ⟨t,hy⟩:=hy
      rw [hy] at hr hB
      have hb:=RV_bool hr
      rw [hb,hB]
      show Bool.rec (motive:=λ _=>RR) s y (eqB t b)=_
      rw [eqB_eq]
      exact recR _
     ·have hF:wantB ops o e'=false:=by
       rw [hB]
       split
       ·rename_i b' hb'; exact absurd ⟨b',hb'⟩ hy
       ·rfl
      rw [h0,if_neg (by rw [hF]; simp)]
    ·rw [h1,eqB_eq]
     have hy:e' s0 = .bool x:=by rw [h0] at hr; exact hr
     rw [hy] at hB
     rw [hB]
     exact recR _
def QR (P:Program) (Fr:Fram) (ρ:Rn) (e1:En) (h1:Hp):Env->World->Prop:=λ e' w'=>∃ ρ',Le ρ ρ'/\RE ρ' e1 e'/\RH P Fr ρ' h1 w'
theorem QR.mono {ρ':Rn} {e1:En} {h1:Hp} (hl:Le ρ ρ') {e':Env} {w':World} (hq:QR P Fr ρ' e1 h1 e' w'):QR P Fr ρ e1 h1 e' w':=
 let ⟨r,a,b,c⟩:=hq; ⟨r,hl.trans a,b,c⟩
theorem keeps_sound (hc:CalOk P cal) (hE:RE ρ e e') (hR:RH P Fr ρ h w):∀ {is:List Nat} {ks:KL},prepK P ops is=some ks->∀ {k x:RR},keeps ks P cal e h n k=x->x≠.no->k=x/\∀ r∈is.map (nthO ops),keep1 P ops r e' w True:=by
 intro is
 induction is with
 | nil=>intro ks hk k x hh hx; cases hk; exact ⟨hh,by simp⟩
 | cons i is ih=>
  intro ks hk k x hh hx
  unfold prepK at hk
  split at hk
  ·rename_i g kr d hg hkr hd hrd
   cases hk
   have hh:evG g e (thenR (evOp (prepOp P (nthO ops i)) P cal e h n) λ v _ _=>Bool.rec (motive:=λ _=>RR) .no (keeps kr P cal e h n k) (V.eqs false v (d.get e))) (keeps kr P cal e h n k)=x:=hh
   rw [evG_eq hg hE] at hh
   have fin:keeps kr P cal e h n k=x->keep1 P ops (nthO ops i) e' w True->k=x/\∀ r∈(i::is).map (nthO ops),keep1 P ops r e' w True:=λ h1 h2=>by
    obtain ⟨a,b⟩:=ih hkr h1 hx
    refine ⟨a,λ r hr=>?_⟩
    rcases List.mem_cons.1 hr with rfl | hr
    ·exact h2
    ·exact b r hr
   by_cases hw:wantB ops (nthO ops i) e'=true
   ·rw [if_pos hw] at hh
    obtain ⟨v,h1,n1,hop,hh⟩:=thenR_ok hh hx
    cases hv:V.eqs false v (d.get e) with
    | false=>rw [hv] at hh; exact absurd hh.symm hx
    | true=>
     rw [hv] at hh
     refine fin hh ?_
     have hD:=op_sound hc hop hE hR
     have hrs:(opK P (nthO ops i) (ev e')).reads=true:=by rw [(opK_kind _ (λ _=>undef)).2]; exact hrd
     unfold keep1
     rw [hw]
     dsimp only [cond_true]
     cases hkk:opK P (nthO ops i) (ev e') <;> rw [hkk] at hrs hD <;> first | cases hrs | skip
     rename_i m
     obtain ⟨d0,hd0,hd1⟩:=Option.bind_eq_some_iff.1 hd
     rw [hd0]
     obtain ⟨y,hrun,ρ2,hle,_,hyv⟩:=(show Qop P m w (λ v'=>Pst P Fr ρ v h1 v' w) from hD).ex
     obtain ⟨q1,q2⟩:=eqs_spec _ _ hv
     have:=hE.mono hle d0 d hd1
     rw [<- q1] at this
     have e1:=(q2 rfl ρ2).1 _ _ hyv this
     exact ⟨by rw [<- e1]; exact hrun,trivial⟩
   ·rw [if_neg hw] at hh
    refine fin hh ?_
    unfold keep1
    rw [Bool.not_eq_true] at hw
    rw [hw]
    trivial
  ·cases hk
theorem step_sound (hc:CalOk P cal) {o:Oper} {g:GS} {d:Ds} {is:List Nat} {ks:KL} (hg:prepG ops o=some g) (hd:pdst o=some d) (hk:prepK P ops is=some ks) {ix B:Nat} {k:En->Hp->Nat->RR} {x:RR}
  (hh:stepR P cal ix g (prepOp P o) d ks k B e h n=x) (hx:x≠.no) (hE:RE ρ e e') (hR:RH P Fr ρ h w) {K:Env->World->Prop}
  (hK:∀ e2 h2 n2 ρ2 e2' w2,Le ρ ρ2->RE ρ2 e2 e2'->RH P Fr ρ2 h2 w2->k e2 h2 n2=x->K e2' w2) :
  Stp P ops o (λ e' w'=>(w'=w\/∀ r∈is.map (nthO ops),keep1 P ops r e' w' True)/\K e' w') e' w:=by
 unfold stepR at hh
 rw [evG_eq hg hE] at hh
 unfold Stp
 by_cases hw:wantB ops o e'=true
 ·rw [if_pos hw] at hh |-
  obtain ⟨v,h1,n1,hop,hh⟩:=thenR_ok hh hx
  refine (op_sound hc hop hE hR).mono λ y w' ⟨ρ2,hle,hR2,hv⟩=>?_
  have hE2:=(hE.mono hle).pd hd hv
  obtain ⟨a,b⟩:=keeps_sound hc hE2 hR2 hk hh hx
  exact ⟨.inr b,hK _ _ _ _ _ _ hle hE2 hR2 a⟩
 rw [if_neg hw] at hh |-
 exact ⟨.inl rfl,hK _ _ _ _ _ _ (Le.refl ρ) (hE.pd hd (und_spec ρ)) hR hh⟩
theorem evR_bad {B:Nat} {x:RR} (hh:evR (.q .bad .n .nil) P cal B e h n=x) (hx:x≠.no):False:=hx hh.symm
theorem DLs_mono {Q Q':Env->World->Prop} (hq:∀ e w,Q e w->Q' e w):∀ (l:List Oper) (e:Env) (w:World),DLs P ops l Q e w->DLs P ops l Q' e w:=by
 intro l
 induction l with
 | nil=>intro e w hh; exact hq e w hh
 | cons o l ih=>intro e w hh; exact Stp.mono (show Stp P ops o (λ e' w'=>DLs P ops l Q e' w') e w from hh) λ v w'=>ih _ _
theorem L_sound (hc:CalOk P cal) {B:Nat} {e1:En} {h1:Hp} {n1:Nat}:∀ (l:List Oper) {e:En} {h:Hp} {n:Nat} {e':Env} {w:World} {ρ:Rn},evR (prepL P ops l) P cal B e h n = .ok e1 h1 n1->RE ρ e e'->RH P Fr ρ h w->
  DLs P ops l (QR P Fr ρ e1 h1) e' w:=by
 intro l
 induction l with
 | nil=>
  intro e h n e' w ρ hh hE hR
  have hh:RR.ok e h n = .ok e1 h1 n1:=hh
  injection hh with a b c
  subst a; subst b
  exact ⟨ρ,Le.refl ρ,hE,hR⟩
 | cons o l ih=>
  intro e h n e' w ρ hh hE hR
  have fin:∀ {g d},prepG ops o=some g->pdst o=some d->stepR P cal 0 g (prepOp P o) d .nil (evR (prepL P ops l) P cal B) B e h n = .ok e1 h1 n1->DLs P ops (o::l) (QR P Fr ρ e1 h1) e' w:=λ hg hd hst=>by
   have:=step_sound hc hg hd (is:=[]) rfl hst (λ hh=>by cases hh) hE hR (K:=λ e2 w2=>DLs P ops l (QR P Fr ρ e1 h1) e2 w2) λ e2 h2 n2 ρ2 e2' w2 hle hE2 hR2 hk=>by
    have:=ih hk hE2 hR2
    exact DLs_mono (λ _ _ hq=>hq.mono hle) _ _ _ this
   exact this.mono λ v w' hh=>hh.2
  unfold prepL at hh
  split at hh
  ·rename_i d hg hd
   split at hh
   ·rename_i x hop
    refine fin hg hd ?_
    rw [hop]
    have hh:(evq e x).fcR (λ v=>evR (prepL P ops l) P cal B (pd d v e) h n) = .ok e1 h1 n1:=hh
    rw [V.fcR_eq] at hh
    show thenR ((evq e x).fc λ v=>.ok v h n) _=_
    rw [V.fc_eq]
    exact hh
   ·exact fin hg hd hh
  ·rename_i g d _ hg hd
   exact fin hg hd hh
  ·exact (evR_bad hh (by intro hh; cases hh)).elim
theorem T_sound (hc:CalOk P cal) {al:Bool} {B:Nat}:∀ (p:PT) {e:En} {h:Hp} {n:Nat} {e':Env} {w:World} {ρ:Rn} {x:RR} {Q:Env->World->Prop},evR (prepT P ops al p) P cal B e h n=x->x≠.no->
  (∀ e1 h1 n1,x = .ok e1 h1 n1->∀ e2 w2,QR P Fr ρ e1 h1 e2 w2->Q e2 w2)->RE ρ e e'->RH P Fr ρ h w->DQ P ops p Q e' w:=by
 intro p
 induction p with
 | nil=>
  intro e h n e' w ρ x Q hh hx hQ hE hR
  exact hQ e h n hh.symm _ _ ⟨ρ,Le.refl ρ,hE,hR⟩
 | stop=>intro e h n e' w ρ x Q hh hx hQ hE hR; trivial
 | op i ks p ih=>
  intro e h n e' w ρ x Q hh hx hQ hE hR
  unfold prepT at hh
  split at hh
  ·rename_i g d kl hg hd hk
   exact step_sound hc hg hd hk hh hx hE hR (K:=DQ P ops p Q) λ e2 h2 n2 ρ2 e2' w2 hle hE2 hR2 hk2=>
    ih hk2 hx (λ e1 h1 n1 hx1 e3 w3 hq=>hQ e1 h1 n1 hx1 e3 w3 (hq.mono hle)) hE2 hR2
  ·exact (evR_bad hh hx).elim
 | alt i ks p o ih ih2=>
  intro e h n e' w ρ x Q hh hx hQ hE hR
  unfold prepT at hh
  split at hh
  ·rename_i g d kl hg hd hk
   obtain ⟨ea,ha,na,g1,g2,g3⟩:=both_ok hh hx
   refine ⟨step_sound hc hg hd hk g2.symm hx hE hR (K:=DQ P ops p Q) λ e2 h2 n2 ρ2 e2' w2 hle hE2 hR2 hk2=>
    ih hk2 hx (λ e1 h1 n1 hx1 e3 w3 hq=>hQ e1 h1 n1 hx1 e3 w3 (hq.mono hle)) hE2 hR2,?_⟩
   have g4:=g2.trans g1
   rcases g3 with g3 | ⟨m,g3⟩
   ·exact ih2 g3 (λ hh=>by cases hh) (λ e1 h1 n1 hx1=>by cases hx1) hE hR
   ·refine ih2 g3 (λ hh=>by cases hh) (λ e1 h1 n1 hx1 e3 w3 hq=>?_) hE hR
    injection hx1 with a b c
    subst a; subst b
    exact hQ _ _ _ g4 e3 w3 hq
  ·exact (evR_bad hh hx).elim
theorem all_dst {nt:Nat} {l:List Oper} (h2:l.all (dstLt nt)=true):∀ o∈l,∀ d,o.dst=some d->d<nt:=λ o ho d hod=>by
 have:=List.all_eq_true.1 h2 o ho
 unfold dstLt at this
 rw [hod] at this
 exact Nat.blt_eq▸this
theorem reg_text (hc:CalOk P cal) {r:Option Nat} {ds:List Nat} {nt B id:Nat} {os:Array Oper} {e1:En} {h1:Hp} {n1:Nat} {Q':Exit->Act->World->Prop} {a:Act} (hok:os.toList.all (dstLt nt)=true)
  (hh:evR (prepL P os.toList os.toList) P cal B e h n = .ok e1 h1 n1) (ha:Agree ds nt e' a) (hE:RE ρ e e') (hR:RH P Fr ρ h w)
  (hQ:∀ e2 a2 w2,Agree ds nt e2 a2->QR P Fr ρ e1 h1 e2 w2->Q' .normal a2 w2):(Code.region id os false).wpIn (FO r) 0 P Q' a w:=by
 have:=wpIn_region_lit (id:=id) (DLs.list (r:=r) (λ e2 a2 w2 hag _ hq=>hQ e2 a2 w2 hag hq) os.toList e' a w (λ o ho=>⟨ho,all_dst hok o ho⟩) ha (λ _ _=>rfl) (L_sound hc os.toList hh hE hR))
 simpa using this
theorem reg_draw (hm:P.follows .mixedOrders=true) (hc:CalOk P cal) {r:Option Nat} {ds:List Nat} {nt B id:Nat} {os:Array Oper} {p:PT} {al:Bool} {e1:En} {h1:Hp} {n1:Nat} {Q':Exit->Act->World->Prop} {a:Act}
  (hok:(os.toList.all (dstLt nt) && (clsOk os.toList (clsOf os.toList) && okT P os.toList (clsOf os.toList) false os.toList.length 0 p))=true)
  (hh:evR (prepT P os.toList al p) P cal B e h n = .ok e1 h1 n1) (ha:Agree ds nt e' a) (hE:RE ρ e e') (hR:RH P Fr ρ h w)
  (hQ:∀ e2 a2 w2,Agree ds nt e2 a2->QR P Fr ρ e1 h1 e2 w2->Q' .normal a2 w2):(Code.region id os true).wpIn (FO r) 0 P Q' a w:=by
 simp only [Bool.and_eq_true] at hok
 obtain ⟨h2,h3,h4⟩:=hok
 have hd:∀ d∈wr os.toList,d<nt:=λ d hd=>by
  obtain ⟨o,ho,hod⟩:=List.mem_filterMap.1 hd
  exact all_dst h2 o ho d hod
 have hz:(bit 0)=λ _=>false:=by funext i; simp [bit]
 have hdq:=T_sound (Fr:=Fr) hc p (Q:=QR P Fr ρ e1 h1) hh (λ hh=>by cases hh) (λ e2 h2 n2 hx e3 w3 hq=>by injection hx with a b c; subst a; subst b; exact hq) hE hR.drew
 have hws:=(plan_WS (Q:=QR P Fr ρ e1 h1) h3 p os.toList.length 0 [] e' (drew w) (λ i o hi=>by simp [bit] at hi) (by constructor <;> simp) hdq).1 h4
 rw [hz] at hws
 have:=WS.region (r:=r) (id:=id) hm hd ha (λ e2 a2 w2 hag _ hq=>hQ e2 a2 w2 hag hq) hws
 simpa using this
end
section
variable {P:Program} {cal:Cal} {Fr:Fram} {ρ:Rn} {h:Hp} {w:World} {e:En} {e':Env} {n:Nat}
theorem RH.drop {b:Nat} {q:Pl} {w':World} (hR:RH P Fr ρ h w) (hl:live (getH h b)) (hq:ρ b=some q) (hw:∀ r o',r≠q.k->w.heap[r]? = some o'->w'.heap[r]? = some o') (hst:Sm w w':=by exact ⟨rfl,rfl,rfl⟩):RH P Fr ρ (putH h .x b) w':=by
 have key:∀ {b'},live (getH (putH h .x b) b')->b'≠b/\live (getH h b')/\getH (putH h .x b) b'=getH h b':=fun {b'} hh=>by
  rw [get_putH] at hh |-
  split at hh
  ·exact hh.elim
  ·rename_i hne; rw [if_neg hne]; exact ⟨hne,hh,rfl⟩
 refine ⟨λ b' hb'=>?_,λ b' hb'=>?_,λ b1 b2 q1 q2 h1 h2 hne e1 e2=>hR.sep b1 b2 q1 q2 (key h1).2.1 (key h2).2.1 hne e1 e2,λ r o hr=>?_,λ b' q' h1 h2=>hR.off b' q' (key h1).2.1 h2,hR.st.trans hst⟩
 ·rw [get_putH] at hb'
  split at hb'
  ·cases hb'
  exact hR.fresh b' hb'
 ·obtain ⟨k1,k2,k3⟩:=key hb'
  rw [k3]
  obtain ⟨q',o',e1,e2,e3⟩:=hR.lv b' k2
  exact ⟨q',o',e1,hw _ _ (hR.sep b' b q' q k2 hl k1 e1 hq) e2,e3⟩
 have:r≠q.k:=λ hh=>by rw [hh,hR.off b q hl hq] at hr; cases hr
 exact hw r o this (hR.keep r o hr)
theorem put_other {k:Nat} {o:Obj}:∀ r o',r≠k->w.heap[r]? = some o'->(w.putObj k o).heap[r]? = some o':=λ r o' hr ho=>by
 rw [World.putObj_heap_other hr]; exact ho
def DM (ρ:Rn):NL->List Nat->Prop
 | .nil,ks=>ks=[]
 | .cons d r,ks=>∃ q ks',ρ d=some q/\ks=q.k::ks'/\DM ρ r ks'
theorem DM.mono {ρ':Rn} (hl:Le ρ ρ'):∀ {ds:NL} {ks:List Nat},DM ρ ds ks->DM ρ' ds ks:=by
 intro ds
 induction ds with
 | nil=>intro ks hh; exact hh
 | cons d r ih=>intro ks ⟨q,ks',h1,h2,h3⟩; exact ⟨q,ks',hl _ _ h1,h2,ih h3⟩
def PZ (P:Program) (Fr:Fram) (ρ:Rn) (nt:Nat) (e1:En) (h1:Hp) (ds:NL) (a:Act) (w:World):Prop:=
 ∃ ρ' dks e',Le ρ ρ'/\Agree dks nt e' a/\RE ρ' e1 e'/\RH P Fr ρ' h1 w/\DM ρ' ds dks
def PX (P:Program) (Fr:Fram) (ρ:Rn) (nt:Nat):Ex->Exit->Act->World->Prop
 | .nx e1 h1 _ ds,.normal=>PZ P Fr ρ nt e1 h1 ds
 | .rt e1 h1 _ ds,.ret=>PZ P Fr ρ nt e1 h1 ds
 | .ex id e1 h1 _ ds,.exit k=>λ a w=>k=id/\PZ P Fr ρ nt e1 h1 ds a w
 | _,_=>λ _ _=>False
theorem PZ.mono {ρ':Rn} {nt:Nat} {e1:En} {h1:Hp} {ds:NL} {a:Act} {w:World} (hl:Le ρ ρ') (hh:PZ P Fr ρ' nt e1 h1 ds a w):PZ P Fr ρ nt e1 h1 ds a w:=by
 obtain ⟨r,k,e,a1,a2⟩:=hh; exact ⟨r,k,e,hl.trans a1,a2⟩
theorem PX.mono {ρ':Rn} {nt:Nat} {x:Ex} {xt:Exit} {a:Act} {w:World} (hl:Le ρ ρ') (hh:PX P Fr ρ' nt x xt a w):PX P Fr ρ nt x xt a w:=by
 cases x <;> cases xt <;> first | exact hh.elim | exact PZ.mono hl hh | exact ⟨hh.1,hh.2.mono hl⟩
theorem PX.nx {nt:Nat} {e1:En} {h1:Hp} {n1:Nat} {ds:NL} {xt:Exit} {a:Act} {w:World} (hh:PX P Fr ρ nt (.nx e1 h1 n1 ds) xt a w):xt = .normal/\PZ P Fr ρ nt e1 h1 ds a w:=by
 cases xt <;> first | exact ⟨rfl,hh⟩ | exact hh.elim
theorem PX.rt {nt:Nat} {e1:En} {h1:Hp} {n1:Nat} {ds:NL} {xt:Exit} {a:Act} {w:World} (hh:PX P Fr ρ nt (.rt e1 h1 n1 ds) xt a w):xt = .ret/\PZ P Fr ρ nt e1 h1 ds a w:=by
 cases xt <;> first | exact ⟨rfl,hh⟩ | exact hh.elim
theorem PX.ex {nt id:Nat} {e1:En} {h1:Hp} {n1:Nat} {ds:NL} {xt:Exit} {a:Act} {w:World} (hh:PX P Fr ρ nt (.ex id e1 h1 n1 ds) xt a w):xt = .exit id/\PZ P Fr ρ nt e1 h1 ds a w:=by
 cases xt <;> first | exact hh.elim | (obtain ⟨rfl,hh⟩:=hh; exact ⟨rfl,hh⟩)
theorem loop_ghost {F:Fence} {rm:Nat} {Q:Exit->Act->World->Prop} {a:Act} {w:World} {c:Code} (I:Nat->Act->World->Prop) (n₀:Nat) (h₀:I n₀ a w)
  (round:∀ n a w,I n a w->c.wpIn F rm P (Exit.then (λ a' w'=>∃ n',n'<n/\I n' a' w') Q) a w):(Code.loop c).wpIn F rm P Q a w:=by
 classical
 let J:Act->World->Prop:=λ a' w'=>∃ m,I m a' w'
 let μ:Act->World->Nat:=λ a' w'=>if h:∃ m,I m a' w' then Classical.choose (least h) else 0
 have hμ:∀ a' w',J a' w'->I (μ a' w') a' w'/\∀ k,I k a' w'->μ a' w'<=k:=λ a' w' hj=>by
  have e1:μ a' w'=Classical.choose (least hj):=dif_pos hj
  rw [e1]
  exact Classical.choose_spec (least hj)
 refine wpIn_loop J μ ⟨n₀,h₀⟩ λ a' w' hj=>?_
 refine wpIn_mono (round _ a' w' (hμ a' w' hj).1) λ x a2 w2 hp=>?_
 cases x with
 | normal=>
  obtain ⟨m',hm',hi'⟩:=hp
  exact ⟨⟨m',hi'⟩,Nat.lt_of_le_of_lt ((hμ a2 w2 ⟨m',hi'⟩).2 m' hi') hm'⟩
 | _=>exact hp
theorem thenX_ok {xa x:Ex} {k:En->Hp->Nat->NL->Ex} (hh:thenX xa k=x) (hx:x≠.no):xa≠.no/\((∃ e1 h1 n1 ds1,xa = .nx e1 h1 n1 ds1/\k e1 h1 n1 ds1=x)\/(x=xa/\∀ e1 h1 n1 ds1,xa≠.nx e1 h1 n1 ds1)):=by
 cases xa with
 | no=>exact absurd hh.symm hx
 | nx e1 h1 n1 ds1=>exact ⟨(by intro hh; cases hh),.inl ⟨e1,h1,n1,ds1,rfl,hh⟩⟩
 | rt e1 h1 n1 ds1=>exact ⟨(by intro hh; cases hh),.inr ⟨hh.symm,λ _ _ _ _ hh=>by cases hh⟩⟩
 | ex id e1 h1 n1 ds1=>exact ⟨(by intro hh; cases hh),.inr ⟨hh.symm,λ _ _ _ _ hh=>by cases hh⟩⟩
theorem PX.then {nt:Nat} {xa x:Ex} {xt:Exit} {a:Act} {w:World} {K:Act->World->Prop} {k:En->Hp->Nat->NL->Ex} (hp:PX P Fr ρ nt xa xt a w) (hh:(∃ e1 h1 n1 ds1,xa = .nx e1 h1 n1 ds1/\k e1 h1 n1 ds1=x)\/(x=xa/\∀ e1 h1 n1 ds1,xa≠.nx e1 h1 n1 ds1))
  (hk:∀ e1 h1 n1 ds1,k e1 h1 n1 ds1=x->PZ P Fr ρ nt e1 h1 ds1 a w->K a w):Exit.then K (PX P Fr ρ nt x) xt a w:=by
 rcases hh with ⟨e1,h1,n1,ds1,rfl,hh⟩ | ⟨rfl,hne⟩
 ·obtain ⟨rfl,hz⟩:=hp.nx
  exact hk _ _ _ _ hh hz
 cases x with
 | no=>exact hp.elim
 | nx e1 h1 n1 ds1=>exact absurd rfl (hne _ _ _ _)
 | rt e1 h1 n1 ds1=>obtain ⟨rfl,_⟩:=hp.rt; exact hp
 | ex id e1 h1 n1 ds1=>obtain ⟨rfl,_⟩:=hp.ex; exact hp
theorem rf_ok {g:Oq} {ps:PS} {A B:CC} {ds:NL} {x:Ex} (hh:evRf cal g ps A B e h n ds=x) (hx:x≠.no):∃ gf c v h' n' st j ps1 e1 a1 b1,evq e g = .f gf c/\getH h n = .z/\getH (putH h .df n) (n+1) = .z/\
  cal (.f gf c) (.c (.y (n+1)) .e) (putH (putH h .df n) (.lp 0 .no ps e A B) (n+1)) (n+1+1) = .ok v h' n'/\getH h' (n+1) = .lp st j ps1 e1 a1 b1/\st≠1/\jump j e (putH h' .x (n+1)) n' (.cons n ds)=x:=by
 unfold evRf at hh
 rcases V.onFX_inv (evq e g) .no _ with h0 | ⟨gf,c,h0,h1⟩
 ·exact absurd (hh.symm.trans h0) hx
 have hh:=h1.symm.trans hh
 rcases HB.onZX_inv (getH h n) .no _ with h2 | ⟨h2,h3⟩
 ·exact absurd (hh.symm.trans h2) hx
 have hh:=h3.symm.trans hh
 rcases HB.onZX_inv (getH (putH h .df n) (Nat.succ n)) .no _ with h4 | ⟨h4,h5⟩
 ·exact absurd (hh.symm.trans h4) hx
 have hh:=h5.symm.trans hh
 cases hc:cal (.f gf c) (.c (.y (Nat.succ n)) .e) (putH (putH h .df n) (.lp 0 .no ps e A B) (Nat.succ n)) (Nat.succ (Nat.succ n)) with
 | no=>rw [hc] at hh; exact absurd hh.symm hx
 | ok v h' n'=>
  rw [hc] at hh
  rcases HB.onLX_inv (getH h' (Nat.succ n)) .no (λ st j _ _ _ _=>Bool.rec (motive:=λ _=>Ex) (jump j e (putH h' .x (Nat.succ n)) n' (.cons n ds)) .no (Nat.beq st 1)) with h6 | ⟨st,j,ps1,e1,a1,b1,h6,h7⟩
  ·exact absurd (hh.symm.trans h6) hx
  ·have hh:=h7.symm.trans hh
   cases hst:Nat.beq st 1 with
   | true=>rw [hst] at hh; exact absurd hh.symm hx
   | false=>
    rw [hst] at hh
    exact ⟨gf,c,v,h',n',st,j,ps1,e1,a1,b1,h0,h2,h4,hc,h6,(λ hs=>by rw [hs] at hst; cases hst),hh⟩
def CS (P:Program) (cal:Cal) (nt:Nat) (pl:Plans) (c:Code):Prop:=
 ∀ (r:Option Nat) (e:En) (h:Hp) (n:Nat) (ds:NL) (x:Ex) (Fr:Fram) (ρ:Rn) (dks:List Nat) (e':Env) (a:Act) (w:World),(r=none\/hasRF c=false)->okC P nt pl c=true->
  evC (prepC P nt pl c) P cal e h n ds=x->x≠.no->Agree dks nt e' a->RE ρ e e'->RH P Fr ρ h w->DM ρ ds dks->c.wpIn (FO r) 0 P (PX P Fr ρ nt x) a w
theorem CS_rf (hc:CalOk P cal) {nt:Nat} (hnt:nt<=512) {pl:Plans} {g:Operand} {ps:Array Tmp} {asx bd:Code}:CS P cal nt pl (.rangeFunc g ps asx bd):=by
 intro r e h n ds x Fr ρ dks e' a w hr hok hh hx ha hE hR hD
 have hr0:r=none:=hr.resolve_right (by simp [hasRF])
 subst hr0
 have hok:((ps.toList.all (λ p=>Nat.blt p nt) && (!hasRF asx && !hasRF bd)) && (okC P nt pl asx && okC P nt pl bd))=true:=hok
 simp only [Bool.and_eq_true,Bool.not_eq_true'] at hok
 obtain ⟨⟨hps,hA,hB⟩,hokA,hokB⟩:=hok
 have hps':∀ p∈ps.toList,p<nt:=λ p hp=>Nat.blt_eq▸List.all_eq_true.1 hps p hp
 unfold prepC at hh
 split at hh
 case h_2=>exact absurd hh.symm hx
 rename_i gq l hg hl
 obtain ⟨gf,c,v,h',n',st,j,ps1,e1,a1,b1,k1,k2,k3,k4,k5,k6,k7⟩:=rf_ok (show evRf cal gq l (prepC P nt pl asx) (prepC P nt pl bd) e h n ds=x from hh) hx
 have hgv:=oq_spec hE hg
 rw [k1] at hgv
 obtain ⟨ys,hys,hgv⟩:=hgv
 refine wpIn_rangeFunc λ fn _=>?_
 let L0:Loop:={state:=.ready,pending:=none,fn,tmps:=a.tmps,params:=ps,assign:=asx,body:=bd,defers:=w.heap.size}
 have hR1:RH P Fr (ext ρ n ⟨w.heap.size,0,0,0⟩) (putH h .df n) (w.alloc (.deferred (some []))):=hR.new k2 rfl rfl rfl
 have le1:Le ρ (ext ρ n ⟨w.heap.size,0,0,0⟩):=ext_le (hR.fresh n k2)
 have le2:Le (ext ρ n ⟨w.heap.size,0,0,0⟩) (ext (ext ρ n ⟨w.heap.size,0,0,0⟩) (n+1) ⟨w.heap.size+1,0,0,0⟩):=ext_le (hR1.fresh (n+1) k3)
 have hR2:RH P Fr (ext (ext ρ n ⟨w.heap.size,0,0,0⟩) (n+1) ⟨w.heap.size+1,0,0,0⟩) (putH (putH h .df n) (.lp 0 .no l e (prepC P nt pl asx) (prepC P nt pl bd)) (n+1)) ((w.alloc (.deferred (some []))).alloc (.loop L0)):=
  hR1.new (q:=⟨w.heap.size+1,0,0,0⟩) k3 (World.size_alloc ..).symm rfl
   ⟨L0,⟨nt,pl,e',rfl,rfl,hnt,hl,hps',rfl,rfl,hokA,hokB,hA,hB,ha.size,ha.get,hE.mono (le1.trans le2)⟩,rfl⟩
 have hcall:=hc _ _ _ _ _ _ _ k4 Fr _ _ (.func (.func gf) #[] ys.toArray) [.func (.yield (w.heap.size+1)) #[] #[]] ⟨ys,RLs.mono hys (le1.trans le2),rfl⟩ ⟨_,[],rfl,⟨_,ext_at _ _ _,rfl⟩,rfl⟩ hR2
 rcases hcall.ex with ⟨g',first,cap,q1,hpl,q3⟩ | ⟨l2,q1,_⟩
 case inr=>cases q1
 injection q1 with q1 q2 q4
 injection q1 with q1
 subst q1; subst q2; subst q4
 have hC:=q3.mono (R':=rangePost (FO none) 0 P (w.heap.size+1) (PX P Fr ρ nt x) {a with defers:=[{target:=.collected w.heap.size,args:=#[]}]++a.defers}) (λ xx w3 hx3=>?_)
 ·have hC1:=(callsIn_FO (r:=none) (n:=0)).2 hC
  refine ⟨w.heap.size+1,[{target:=.collected w.heap.size,args:=#[]}],(w.alloc (.deferred (some []))).alloc (.loop L0),
   {target:=.fn (.func gf) ys.toArray,args:=#[.func (.yield (w.heap.size+1)) #[] #[]]},(w.alloc (.deferred (some []))).alloc (.loop L0),gf,#[.func (.yield (w.heap.size+1)) #[] #[]]++ys.toArray,
   (w.alloc (.deferred (some []))).alloc (.loop L0),run_enterLoop_outer ..,?_,λ _ _=>trivial,?_,FO_depth,?_⟩
  rotate_left 2
  ·simpa using hC1
  ·have hg2:a.eval g = .func (.func gf) #[] ys.toArray:=by rw [ha.eval]; exact hgv
   simp only [resolve,hg2]
   simp [go_sem]
  show (callFunc gf (#[.func (.yield (w.heap.size+1)) #[] #[]]++ys.toArray)).run P _=_
  exact run_callFunc hpl _ _
 obtain ⟨v3,rfl,ρ3,hle3,hR3,_⟩:=hx3
 have hlive:live (getH h' (n+1)):=by rw [k5]; trivial
 obtain ⟨q',o',r1,r2,r3⟩:=hR3.lv (n+1) hlive
 have r4:=hle3 (n+1) _ (ext_at _ _ _)
 rw [r4] at r1
 cases r1
 rw [k5] at r3
 obtain ⟨L1,_,rfl⟩:=r3
 have hst:stOf st≠.busy:=by
  unfold stOf
  split
  ·intro hh; cases hh
  ·exact absurd rfl k6
  ·intro hh; cases hh
 refine ⟨pendOf j,_,run_endLoop r2 hst,?_⟩
 have hR4:RH P Fr ρ3 (putH h' .x (n+1)) (w3.putObj (w.heap.size+1) (.loop {L1 with state:=.exhausted,pending:=pendOf j})):=hR3.drop hlive r4 put_other
 have hag:Agree (w.heap.size::dks) nt e' {a with defers:=[{target:=.collected w.heap.size,args:=#[]}]++a.defers}:=⟨by rw [ha.defers]; rfl,ha.size,ha.get⟩
 have hle:Le ρ ρ3:=(le1.trans le2).trans hle3
 have hz:PZ P Fr ρ nt e (putH h' .x (n+1)) (.cons n ds) {a with defers:=[{target:=.collected w.heap.size,args:=#[]}]++a.defers} (w3.putObj (w.heap.size+1) (.loop {L1 with state:=.exhausted,pending:=pendOf j})):=
  ⟨ρ3,_,e',hle,hag,hE.mono hle,hR4,⟨_,dks,hle3 _ _ (le2 _ _ (ext_at _ _ _)),rfl,hD.mono hle⟩⟩
 cases j with
 | no=>rw [<- k7]; exact hz
 | rt=>rw [<- k7]; exact wpIn_ret hz
 | ex id=>rw [<- k7]; exact wpIn_exit ⟨rfl,hz⟩
end
section
variable {P:Program} {cal:Cal} {Fr:Fram} {ρ:Rn} {h:Hp} {w:World} {e:En} {e':Env} {n:Nat}
theorem regX_ok {m:Nat} {y:RR} {ds:NL} {x:Ex} (hh:regX m y ds=x) (hx:x≠.no):∃ e1 h1 n1 n2,y = .ok e1 h1 n1/\x = .nx e1 h1 n2 ds:=by
 cases y with
 | no=>exact absurd hh.symm hx
 | any=>exact absurd hh.symm hx
 | ok e1 h1 n1=>exact ⟨e1,h1,n1,_,rfl,hh.symm⟩
theorem wpIn_scope {F:Fence} {m:Nat} {Q:Exit->Act->World->Prop} {a:Act} {c:Code} (h:c.wpIn F m P (Exit.noGoto Q) a w):(Code.scope c).wpIn F m P Q a w:=by
 intro b k cs hro hb hr
 have h0:(lone (b.atR a (.code (.scope c)::k)) cs w).fenced P F:=fenced_calm hb hr rfl
 have s1:step P (lone (b.atR a (.code (.scope c)::k)) cs w) = .next (lone (b.atR a (.code c :: .inScope c::k)) cs w):=step_lone_go (by simp [stepG,stepG.exec,Frame.atR])
 have s2:∀ a w,step P (lone (b.atR a (.inScope c::k)) cs w) = .next (lone (b.atR a k) cs w):=λ a w=>step_lone_go (by simp [stepG,stepG.exec,Frame.atR])
 obtain ⟨e,a₁,w₁,hq,harr⟩:=h b (.inScope c::k) cs hro hb hr
 cases e with
 | normal=>exact ⟨.normal,a₁,w₁,hq,.head h0 s1 (StepsIn.trans harr (.one (fenced_calm hb hr rfl) (s2 _ _)))⟩
 | exit id=>
  have hx:exitTo id (.inScope c::k)=exitTo id k:=by simp [exitTo]
  exact ⟨.exit id,a₁,w₁,hq,λ k' hk=>.head h0 s1 (harr.1 k' (by rw [hx]; exact hk)),λ hr' hk=>let ⟨k₁,h1,h2⟩:=harr.2 hr' (by rw [hx]; exact hk); ⟨k₁,h1,.head h0 s1 h2⟩⟩
 | goto l=>exact hq.elim
 | ret=>exact ⟨_,a₁,w₁,hq,.of_steps (.one h0 s1) harr⟩
 | panic ch=>exact ⟨_,a₁,w₁,hq,.of_steps (.one h0 s1) harr⟩
 | outgrown=>exact ⟨_,a₁,w₁,hq,.of_steps (.one h0 s1) harr⟩
theorem CS_all (hm:P.follows .mixedOrders=true) (hc:CalOk P cal) {nt:Nat} (hnt:nt<=512) {pl:Plans}:∀ c:Code,CS P cal nt pl c:=by
 intro c
 induction c with
 | skip=>intro r e h n ds x Fr ρ dks e' a w hr hok hh hx ha hE hR hD; rw [<- hh]; exact wpIn_skip ⟨ρ,dks,e',Le.refl ρ,ha,hE,hR,hD⟩
 | ret=>intro r e h n ds x Fr ρ dks e' a w hr hok hh hx ha hE hR hD; rw [<- hh]; exact wpIn_ret ⟨ρ,dks,e',Le.refl ρ,ha,hE,hR,hD⟩
 | exit id=>intro r e h n ds x Fr ρ dks e' a w hr hok hh hx ha hE hR hD; rw [<- hh]; exact wpIn_exit ⟨rfl,ρ,dks,e',Le.refl ρ,ha,hE,hR,hD⟩
 | region id ops draw=>
  intro r e h n ds x Fr ρ dks e' a w hr hok hh hx ha hE hR hD
  cases draw with
  | false=>
   obtain ⟨e1,h1,n1,n2,g1,rfl⟩:=regX_ok (show regX 0 (evR (prepL P ops.toList ops.toList) P cal n e h n) ds=x from hh) hx
   exact reg_text hc hok g1 ha hE hR λ e2 a2 w2 hag ⟨ρ2,hle,hE2,hR2⟩=>⟨ρ2,dks,e2,hle,hag,hE2,hR2,hD.mono hle⟩
  | true=>
   have hh:evC (bif (planOf ops.toList.length (pl id)).many then .reg (Nat.succ ops.toList.length) (prepT P ops.toList true (planOf ops.toList.length (pl id))) else .reg 0 (prepT P ops.toList false (planOf ops.toList.length (pl id)))) P cal e h n ds=x:=hh
   cases hb:(planOf ops.toList.length (pl id)).many with
   | true=>
    rw [hb] at hh
    obtain ⟨e1,h1,n1,n2,g1,rfl⟩:=regX_ok (show regX (Nat.succ ops.toList.length) (evR (prepT P ops.toList true (planOf ops.toList.length (pl id))) P cal n e h n) ds=x from hh) hx
    exact reg_draw hm hc hok g1 ha hE hR λ e2 a2 w2 hag ⟨ρ2,hle,hE2,hR2⟩=>⟨ρ2,dks,e2,hle,hag,hE2,hR2,hD.mono hle⟩
   | false=>
    rw [hb] at hh
    obtain ⟨e1,h1,n1,n2,g1,rfl⟩:=regX_ok (show regX 0 (evR (prepT P ops.toList false (planOf ops.toList.length (pl id))) P cal n e h n) ds=x from hh) hx
    exact reg_draw hm hc hok g1 ha hE hR λ e2 a2 w2 hag ⟨ρ2,hle,hE2,hR2⟩=>⟨ρ2,dks,e2,hle,hag,hE2,hR2,hD.mono hle⟩
 | seq c1 c2 ih1 ih2=>
  intro r e h n ds x Fr ρ dks e' a w hr hok hh hx ha hE hR hD
  have hr1:r=none\/hasRF c1=false:=hr.imp id λ h=>by have:(hasRF c1 || hasRF c2)=false:=h; rw [Bool.or_eq_false_iff] at this; exact this.1
  have hr2:r=none\/hasRF c2=false:=hr.imp id λ h=>by have:(hasRF c1 || hasRF c2)=false:=h; rw [Bool.or_eq_false_iff] at this; exact this.2
  have hok:(okC P nt pl c1 && okC P nt pl c2)=true:=hok
  rw [Bool.and_eq_true] at hok
  obtain ⟨g1,g2⟩:=thenX_ok (show thenX (evC (prepC P nt pl c1) P cal e h n ds) (evC (prepC P nt pl c2) P cal)=x from hh) hx
  refine wpIn_seq (wpIn_mono (ih1 r e h n ds _ Fr ρ dks e' a w hr1 hok.1 rfl g1 ha hE hR hD) λ xt a' w' hp=>?_)
  refine hp.then g2 λ e1 h1 n1 ds1 hk hz=>?_
  obtain ⟨ρ2,dk2,e2,hle,ha2,hE2,hR2,hD2⟩:=hz
  exact wpIn_mono (ih2 r e1 h1 n1 ds1 x Fr ρ2 dk2 e2 a' w' hr2 hok.2 hk hx ha2 hE2 hR2 hD2) λ xt a2 w2 hp2=>hp2.mono hle
 | cond c c1 c2 ih1 ih2=>
  intro r e h n ds x Fr ρ dks e' a w hr hok hh hx ha hE hR hD
  have hr1:r=none\/hasRF c1=false:=hr.imp id λ h=>by have:(hasRF c1 || hasRF c2)=false:=h; rw [Bool.or_eq_false_iff] at this; exact this.1
  have hr2:r=none\/hasRF c2=false:=hr.imp id λ h=>by have:(hasRF c1 || hasRF c2)=false:=h; rw [Bool.or_eq_false_iff] at this; exact this.2
  have hok:(okC P nt pl c1 && okC P nt pl c2)=true:=hok
  rw [Bool.and_eq_true] at hok
  unfold prepC at hh
  split at hh
  case h_2=>exact absurd hh.symm hx
  rename_i q hq
  have hv:=oq_spec hE hq
  have hh:(evq e q).onBX .no (λ t=>Bool.rec (motive:=λ _=>Ex) (evC (prepC P nt pl c2) P cal e h n ds) (evC (prepC P nt pl c1) P cal e h n ds) t)=x:=hh
  rcases V.onBX_inv (evq e q) .no (λ t=>Bool.rec (motive:=λ _=>Ex) (evC (prepC P nt pl c2) P cal e h n ds) (evC (prepC P nt pl c1) P cal e h n ds) t) with h0 | ⟨t,h0,h1⟩
  ·exact absurd (hh.symm.trans h0) hx
  ·have hh:=h1.symm.trans hh
   rw [h0] at hv
   refine wpIn_cond (t:=t) (by rw [ha.eval]; exact hv) ?_
   cases t with
   | true=>exact ih1 r e h n ds x Fr ρ dks e' a w hr1 hok.1 hh hx ha hE hR hD
   | false=>exact ih2 r e h n ds x Fr ρ dks e' a w hr2 hok.2 hh hx ha hE hR hD
 | block id c ih=>
  intro r e h n ds x Fr ρ dks e' a w hr hok hh hx ha hE hR hD
  have hh:blockX id (evC (prepC P nt pl c) P cal e h n ds)=x:=hh
  have h0:evC (prepC P nt pl c) P cal e h n ds≠.no:=λ h0=>by rw [h0] at hh; exact hx hh.symm
  refine wpIn_block (wpIn_mono (ih r e h n ds _ Fr ρ dks e' a w hr hok rfl h0 ha hE hR hD) λ xt a' w' hp=>?_)
  cases hxa:evC (prepC P nt pl c) P cal e h n ds with
  | no=>exact absurd hxa h0
  | nx e1 h1 n1 ds1=>
   rw [hxa] at hp hh
   obtain ⟨rfl,hz⟩:=hp.nx
   rw [<- hh]; exact hz
  | rt e1 h1 n1 ds1=>
   rw [hxa] at hp hh
   obtain ⟨rfl,hz⟩:=hp.rt
   rw [<- hh]; exact hz
  | ex k e1 h1 n1 ds1=>
   rw [hxa] at hp hh
   obtain ⟨rfl,hz⟩:=hp.ex
   have hh:Bool.rec (motive:=λ _=>Ex) (.ex k e1 h1 n1 ds1) (.nx e1 h1 n1 ds1) (Nat.beq k id)=x:=hh
   simp only [Exit.inBlock]
   by_cases hk:k=id
   ·subst hk
    rw [beq_self] at hh
    rw [if_pos rfl,<- hh]
    exact hz
   ·rw [beq_no hk] at hh
    rw [if_neg hk,<- hh]
    exact ⟨rfl,hz⟩
 | loop c ih=>
  intro r e h n ds x Fr ρ dks e' a w hr hok hh hx ha hE hR hD
  have hh:loopX 1000000 (evC (prepC P nt pl c) P cal) e h n ds=x:=hh
  refine loop_ghost (λ f a w=>∃ e h n ds ρ2 dk2 e',Le ρ ρ2/\loopX f (evC (prepC P nt pl c) P cal) e h n ds=x/\Agree dk2 nt e' a/\RE ρ2 e e'/\RH P Fr ρ2 h w/\DM ρ2 ds dk2) 1000000
   ⟨e,h,n,ds,ρ,dks,e',Le.refl ρ,hh,ha,hE,hR,hD⟩ ?_
  intro f a w ⟨e,h,n,ds,ρ2,dk2,e',hle,hh,ha,hE,hR,hD⟩
  cases f with
  | zero=>exact absurd hh.symm hx
  | succ f=>
   obtain ⟨g1,g2⟩:=thenX_ok (show thenX (evC (prepC P nt pl c) P cal e h n ds) (loopX f (evC (prepC P nt pl c) P cal))=x from hh) hx
   refine wpIn_mono (ih r e h n ds _ Fr ρ2 dk2 e' a w hr hok rfl g1 ha hE hR hD) λ xt a' w' hp=>?_
   refine (hp.mono hle).then g2 λ e1 h1 n1 ds1 hk hz=>?_
   obtain ⟨ρ3,dk3,e3,hle3,ha3,hE3,hR3,hD3⟩:=hz
   exact ⟨f,Nat.lt_succ_self f,e1,h1,n1,ds1,ρ3,dk3,e3,hle3,hk,ha3,hE3,hR3,hD3⟩
 | rangeFunc g ps asx bd _ _=>exact CS_rf hc hnt
 | scope c ih=>
  intro r e h n ds x Fr ρ dks e' a w hr hok hh hx ha hE hR hD
  have hok:(!hasRF c && okC P nt pl c)=true:=hok
  rw [Bool.and_eq_true,Bool.not_eq_true'] at hok
  refine wpIn_scope (wpIn_mono (ih r e h n ds x Fr ρ dks e' a w (.inr hok.1) hok.2 hh hx ha hE hR hD) λ xt a' w' hp=>?_)
  cases xt with
  | goto l=>cases x <;> first | exact hp.elim | (obtain ⟨h0,_⟩:=hp.nx; cases h0) | (obtain ⟨h0,_⟩:=hp.rt; cases h0) | (obtain ⟨h0,_⟩:=hp.ex; cases h0)
  | _=>exact hp
 | label l=>intro r e h n ds x Fr ρ dks e' a w hr hok hh hx ha hE hR hD; rw [<- hh]; exact wpIn_label ⟨ρ,dks,e',Le.refl ρ,ha,hE,hR,hD⟩
 | _=>intro r e h n ds x Fr ρ dks e' a w hr hok hh hx ha hE hR hD; exact absurd hh.symm hx
theorem thenO_ok {a:OR} {k:V->Hp->Nat->OR} {v:V} {h':Hp} {n':Nat} (hh:thenO a k = .ok v h' n'):∃ v1 h1 n1,a = .ok v1 h1 n1/\k v1 h1 n1 = .ok v h' n':=by
 cases a with
 | no=>cases hh
 | ok v1 h1 n1=>exact ⟨v1,h1,n1,rfl,hh⟩
theorem evLd_same {q:Oq} {v:V} {h':Hp} {n':Nat} (hh:evLd e h n q = .ok v h' n'):h'=h:=by
 obtain ⟨b,o,_,hh⟩:=okP hh
 obtain ⟨m,es,t,_,hh⟩:=withC_ok hh
 obtain ⟨_,hh⟩:=iffO_ok hh
 rw [V.fc_eq] at hh
 exact (ok_inj hh).2.1.symm
theorem evLda_same {q:Oq} {k:Nat} {v:V} {h':Hp} {n':Nat} (hh:evLda e h n k q = .ok v h' n'):h'=h:=by
 obtain ⟨b,o,_,hh⟩:=okP hh
 obtain ⟨m,es,t,_,hh⟩:=withC_ok hh
 obtain ⟨_,hh⟩:=iffO_ok hh
 exact (ok_inj hh).2.1.symm
theorem evRs_sound:∀ {rs:List ResultVar} {r:RS} {k:OK} {v:V} {h':Hp} {n':Nat} {ρ:Rn} {K:List Value->Prop},prepRs P rs=some r->evRs r P e h k = .ok v h' n'->RE ρ e e'->RH P Fr ρ h w->
  (∀ ρ2 l vs,Le ρ ρ2->RH P Fr ρ2 h w->RLs ρ2 l vs->k l = .ok v h' n'->K vs)->resR P rs e' K w:=by
 intro rs
 induction rs with
 | nil=>intro r k v h' n' ρ K hr hh hE hR hK; cases hr; exact hK ρ .e [] (Le.refl ρ) hR rfl hh
 | cons x rs ih=>
  intro r k v h' n' ρ K hr hh hE hR hK
  cases x with
  | tmp t=>
   unfold prepRs at hr
   split at hr
   case h_2=>cases hr
   rename_i s r2 hs hr2
   cases hr
   have hh:((s.get e).fc λ v=>evRs r2 P e h λ l=>k (.c v l)) = .ok v h' n':=hh
   rw [V.fc_eq] at hh
   exact ih hr2 hh hE hR λ ρ2 l vs hle hR2 hl hk=>hK ρ2 (.c (s.get e) l) _ hle hR2 ⟨_,_,rfl,(hE t s hs).mono hle,hl⟩ hk
  | cell a t=>
   unfold prepRs at hr
   split at hr
   ·rename_i s ht hs
    obtain ⟨r2,hr2,rfl⟩:=Option.map_eq_some_iff.1 hr
    obtain ⟨v1,h1,n1,g1,g2⟩:=thenO_ok (show thenO (evLd e h 0 (.t s)) (λ v _ _=>evRs r2 P e h λ l=>k (.c v l)) = .ok v h' n' from hh)
    obtain ⟨y,hy,ρ2,hle,hR2,hv⟩:=(s_ld (q:=.t s) ht hR (hE a s hs) g1).ex
    have:=evLd_same g1; subst this
    exact ⟨y,hy,ih hr2 g2 (hE.mono hle) hR2 λ ρ3 l vs hle3 hR3 hl hk=>hK ρ3 (.c v1 l) _ (hle.trans hle3) hR3 ⟨_,_,rfl,hv.mono hle3,hl⟩ hk⟩
   ·rename_i m s ht hs
    obtain ⟨r2,hr2,rfl⟩:=Option.map_eq_some_iff.1 hr
    obtain ⟨v1,h1,n1,g1,g2⟩:=thenO_ok (show thenO (evLda e h 0 m (.t s)) (λ v _ _=>evRs r2 P e h λ l=>k (.c v l)) = .ok v h' n' from hh)
    obtain ⟨y,hy,ρ2,hle,hR2,hv⟩:=(s_lda (q:=.t s) ht hR (hE a s hs) g1).ex
    have:=evLda_same g1; subst this
    exact ⟨y,hy,ih hr2 g2 (hE.mono hle) hR2 λ ρ3 l vs hle3 hR3 hl hk=>hK ρ3 (.c v1 l) _ (hle.trans hle3) hR3 ⟨_,_,rfl,hv.mono hle3,hl⟩ hk⟩
   ·cases hr
theorem oneV_spec {l:V} {vs:List Value} (hl:RLs ρ l vs):RV ρ (oneV l) (resV vs):=by
 cases l with
 | e=>cases hl; exact ⟨[],rfl,rfl⟩
 | c x r=>
  obtain ⟨z,zs,rfl,h1,h2⟩:=hl
  cases r with
  | e=>cases h2; exact h1
  | c x2 r2=>
   obtain ⟨z2,zs2,rfl,h3,h4⟩:=h2
   exact ⟨z::z2::zs2,⟨z,_,rfl,h1,z2,_,rfl,h3,h4⟩,rfl⟩
  | _=>exact h2.elim
 | _=>exact hl.elim
theorem kill_sound {k:Hp->OR} {v:V} {h':Hp} {n':Nat} {K:World->Prop}:∀ {ds:NL} {h:Hp} {w:World} {dks:List Nat},kill ds h k = .ok v h' n'->DM ρ ds dks->RH P Fr ρ h w->(∀ h2 w2,k h2 = .ok v h' n'->RH P Fr ρ h2 w2->K w2)->takeAll dks w K:=by
 intro ds
 induction ds with
 | nil=>intro h w dks hh hD hR hK; cases hD; exact hK h w hh hR
 | cons d r ih=>
  intro h w dks hh hD hR hK
  obtain ⟨q,ks',hq,rfl,hD⟩:=hD
  have hh:HB.onD (getH h d) .no (kill r (putH h .x d) k) = .ok v h' n':=hh
  rcases HB.onD_inv (getH h d) .no (kill r (putH h .x d) k) with h0 | ⟨h0,h1⟩
  ·rw [h0] at hh; cases hh
  ·rw [h1] at hh
   have hl:live (getH h d):=by rw [h0]; trivial
   obtain ⟨q',o,e1,e2,e3⟩:=hR.lv d hl
   rw [hq] at e1; cases e1
   rw [h0] at e3
   have e3:o = .deferred (some []):=e3
   subst e3
   exact ⟨e2,ih hh hD (hR.drop hl hq put_other) hK⟩
theorem slsN_spec {xs:List Value}:∀ (m k:Nat) {args:V} {e:En} {e0:Env},RLs ρ args xs->xs.length<=lenN (slsN k m)->RE ρ e e0->RE ρ (setPsV (slsN k m) args e) (λ i=>if k<=i/\i<k+xs.length then xs.getD (i - k) undef else e0 i):=by
 induction xs with
 | nil=>
  intro m k args e e0 hA hl hE
  have:args = .e:=by cases args <;> first | rfl | exact hA.elim | (obtain ⟨_,_,hh,_⟩:=hA; cases hh)
  subst this
  have h1:setPsV (slsN k m) .e e=e:=by
   cases m with
   | zero=>rfl
   | succ m=>unfold slsN; split <;> rfl
  rw [h1]
  intro i s hs
  dsimp only
  rw [if_neg (by simp only [List.length_nil]; omega)]
  exact hE i s hs
 | cons x xs ih=>
  intro m k args e e0 hA hl hE
  have:∃ a r,args = .c a r/\RV ρ a x/\RLs ρ r xs:=by
   cases args <;> first | (cases hA; done) | exact hA.elim | skip
   rename_i a r
   obtain ⟨_,_,hh,h1,h2⟩:=hA
   cases hh; exact ⟨a,r,rfl,h1,h2⟩
  obtain ⟨a,r,rfl,hx,hr⟩:=this
  cases m with
  | zero=>simp [slsN,lenN] at hl
  | succ m=>
   unfold slsN at hl |-
   split at hl
   ·rename_i s hs
    have hl:(x::xs).length<=lenN (slsN (Nat.succ k) m)+1:=hl
    have h2:=ih m (Nat.succ k) (e:=s.put a e) (e0:=upd e0 k x) hr (by simp at hl; omega) (hE.upd hs hx)
    show RE ρ (setPsV (slsN (Nat.succ k) m) r (s.put a e)) _
    intro i s2 hs2
    have h3:=h2 i s2 hs2
    dsimp only at h3 |-
    by_cases h4:Nat.succ k<=i/\i<Nat.succ k+xs.length
    ·rw [if_pos h4] at h3
     rw [if_pos (by simp; omega)]
     have:i - k=(i - Nat.succ k)+1:=by omega
     rw [this]
     simpa using h3
    ·rw [if_neg h4] at h3
     by_cases h5:i=k
     ·subst h5
      rw [upd_same] at h3
      rw [if_pos (by simp)]
      simpa using h3
     ·rw [upd_ne _ _ h5] at h3
      rw [if_neg (by simp; omega)]
      exact h3
   ·simp [lenN] at hl
theorem setPs_spec {xs:List Value}:∀ {ps:List Nat} {pl:PS} {k:Nat} {args:V} {e:En} {e0:Env},slsOf ps=some pl->RLs ρ args (xs.drop k)->k+ps.length=xs.length->RE ρ e e0->RE ρ (setPsV pl args e) (setPs xs ps k e0):=by
 intro ps
 induction ps with
 | nil=>intro pl k args e e0 hp hA hl hE; cases hp; exact hE
 | cons p ps ih=>
  intro pl k args e e0 hp hA hl hE
  unfold slsOf at hp
  split at hp
  ·rename_i s r hs hr
   cases hp
   have hlt:k<xs.length:=by simp at hl; omega
   rw [List.drop_eq_getElem_cons hlt] at hA
   have:∃ a r,args = .c a r/\RV ρ a xs[k]/\RLs ρ r (xs.drop (k+1)):=by
    cases args <;> first | (cases hA; done) | exact hA.elim | skip
    rename_i a r
    obtain ⟨_,_,hh,h1,h2⟩:=hA
    cases hh; exact ⟨a,r,rfl,h1,h2⟩
   obtain ⟨a,r',rfl,hx,hr'⟩:=this
   show RE ρ (setPsV r r' (s.put a e)) (setPs xs ps (k+1) (upd e0 p (nthV xs k)))
   refine ih hr hr' (by simp at hl; omega) (hE.upd hs ?_)
   have:nthV xs k=xs[k]:=by
    clear ih hA hl hE hx hr' hr hs
    induction xs generalizing k with
    | nil=>simp at hlt
    | cons v r ih2=>cases k with
     | zero=>rfl
     | succ k=>exact ih2 (by simpa using hlt)
   rw [this]; exact hx
  ·cases hp
theorem lenN_sls:∀ {ps:List Nat} {pl:PS},slsOf ps=some pl->lenN pl=ps.length:=by
 intro ps
 induction ps with
 | nil=>intro pl hp; cases hp; rfl
 | cons p ps ih=>
  intro pl hp
  unfold slsOf at hp
  split at hp
  ·rename_i s r hs hr
   cases hp
   show Nat.succ (lenN r)=_
   rw [ih hr]; rfl
  ·cases hp
theorem en0_get (s:Sl):s.get en0=und:=by
 cases s with | mk a b c=>cases a <;> cases b <;> cases c <;> rfl
theorem RE0:RE ρ en0 (λ _=>undef):=λ i s _=>by rw [en0_get]; exact und_spec ρ
end
section
variable {P:Program} {cal:Cal} {Fr:Fram} {ρ:Rn} {h h':Hp} {w:World} {n n':Nat} {v:V}
theorem lenN_slsN:∀ (m k:Nat),lenN (slsN k m)<=m:=by
 intro m
 induction m with
 | zero=>intro k; exact Nat.le_refl 0
 | succ m ih=>
  intro k
  unfold slsN
  split
  ·exact Nat.succ_le_succ (ih (Nat.succ k))
  ·exact Nat.zero_le _
theorem env0_eq (xs:List Value):(λ i=>if 0<=i/\i<0+xs.length then xs.getD (i - 0) undef else undef)=env0 xs:=by
 funext i
 rw [env0_get]
 by_cases hi:i<xs.length
 ·rw [if_pos (by omega)]; simp
 rw [if_neg (by omega)]
 have:xs[i]? = none:=by simp; omega
 rw [List.getD_eq_getElem?_getD,this]; rfl
theorem enter_sound (hm:P.follows .mixedOrders=true) (hc:CalOk P cal) {pls:Nat->Nat->PT} {g:Nat} (hok:okF P pls g=true) {args:V} {xs:List Value} (hh:enter P cal (prepF P pls g) args h n = .ok v h' n')
  (hA:RLs ρ args xs) (hR:RH P Fr ρ h w):Plain P g/\Calls P g xs.toArray w (Ret (Pst P Fr ρ v h')):=by
 unfold okF at hok
 unfold prepF at hh
 cases hf:P.funcs[g]? with
 | none=>rw [hf] at hok; cases hok
 | some fn=>
 rw [hf] at hok hh
 dsimp only at hok hh
 cases hb:fn.body with
 | none=>rw [hb] at hok; cases hok
 | some c=>
 rw [hb] at hok hh
 dsimp only at hok hh
 simp only [Bool.and_eq_true,Bool.not_eq_true'] at hok
 obtain ⟨hname,hnt,hokc⟩:=hok
 have hnt:=ble_le hnt
 refine ⟨⟨fn,hf,hname,by rw [hb]; rfl⟩,?_⟩
 cases hr:prepRs P fn.results.toList with
 | none=>rw [hr] at hh; cases hh
 | some r=>
 rw [hr] at hh
 dsimp only at hh
 obtain ⟨hle,hh⟩:=iffO_ok (show iffO (Nat.ble (lenV args) (lenN (slsN 0 fn.ntmps))) (leave P r (evC (prepC P fn.ntmps (pls g) c) P cal (setPsV (slsN 0 fn.ntmps) args en0) h n .nil)) .no = .ok v h' n' from hh)
 have hle:=ble_le hle
 rw [hA.len] at hle
 have hxn:=Nat.le_trans hle (lenN_slsN fn.ntmps 0)
 have hE:RE ρ (setPsV (slsN 0 fn.ntmps) args en0) (env0 xs):=by
  have:=slsN_spec fn.ntmps 0 hA hle RE0
  rw [env0_eq] at this
  exact this
 refine callsIn_FO.1 (callsIn_of_wp_marks (F:=FO none) (n:=0) hf hb trivial ?_)
 have ha:Agree [] fn.ntmps (env0 xs) {tmps:=xs.toArray++Array.replicate (fn.ntmps - xs.toArray.size) undef,defers:=[]}:=by
  refine ⟨rfl,by simp; omega,λ i=>?_⟩
  rw [env0_get,Array.getD_eq_getD_getElem?,Array.getElem?_append]
  simp only [List.size_toArray,List.getElem?_toArray,Array.getElem?_replicate]
  by_cases hi:i<xs.length
  ·rw [if_pos hi]; simp [hi]
  ·rw [if_neg hi]
   have:xs[i]? = none:=by simp; omega
   simp only [List.getD_eq_getElem?_getD,this,Option.getD_none]
   split <;> rfl
 generalize hx:evC (prepC P fn.ntmps (pls g) c) P cal (setPsV (slsN 0 fn.ntmps) args en0) h n .nil=x at hh
 have hxn:x≠.no:=λ h0=>by rw [h0] at hh; cases hh
 refine wpIn_mono (CS_all hm hc hnt c none _ h n .nil x Fr ρ [] (env0 xs) _ w (.inl rfl) hokc hx hxn ha hE hR rfl) λ xt a' w' hp=>?_
 have fin:∀ e1 h1 n1 ds1,PZ P Fr ρ fn.ntmps e1 h1 ds1 a' w'->(kill ds1 h1 λ h=>evRs r P e1 h λ l=>.ok (oneV l) h n1) = .ok v h' n'->LeavesInM (FO none) 0 P fn a'.tmps (Ret (Pst P Fr ρ v h')) a'.defers .returning w':=by
  intro e1 h1 n1 ds1 hz hk
  obtain ⟨ρ2,dks,e2,hle2,ha2,hE2,hR2,hD2⟩:=hz
  rw [ha2.defers]
  refine leaves_marks dks w' ((kill_sound (K:=λ w2=>resR P fn.results.toList e2 (λ vs=>Pst P Fr ρ v h' (resV vs) w2) w2) hk hD2 hR2 λ h2 w2 hk2 hR3=>?_).mono λ w1 hw1=>?_)
  ·refine evRs_sound hr hk2 hE2 hR3 λ ρ3 l vs hle3 hR4 hl hk3=>?_
   obtain ⟨q1,q2,_⟩:=ok_inj hk3
   rw [<- q1,<- q2]
   exact ⟨ρ3,hle2.trans hle3,hR4,oneV_spec hl⟩
  ·obtain ⟨vs,g1,g2⟩:=resR_run ha2 fn.results.toList _ w1 hw1
   exact ⟨_,run_results (by simp) g1,_,rfl,g2⟩
 cases x with
 | no=>exact absurd rfl hxn
 | nx e1 h1 n1 ds1=>obtain ⟨rfl,hz⟩:=hp.nx; exact fin e1 h1 n1 ds1 hz hh
 | rt e1 h1 n1 ds1=>obtain ⟨rfl,hz⟩:=hp.rt; exact fin e1 h1 n1 ds1 hz hh
 | ex id e1 h1 n1 ds1=>cases hh
theorem thenL_ok {x:Ex} {l:Nat} {k:PS->En->CC->CC->Ex->OR} (hh:thenL x l k = .ok v h' n') :
  ∃ e1 h1 n1 ds1 j ps e2 a b,(x = .nx e1 h1 n1 ds1\/x = .rt e1 h1 n1 ds1\/∃ id,x = .ex id e1 h1 n1 ds1)/\getH h1 l = .lp 1 j ps e2 a b/\k ps e2 a b x = .ok v h' n':=by
 have key:∀ {h1:Hp} {y:Ex},(HB.onL (getH h1 l) .no λ st _ ps e2 a b=>iffO (Nat.beq st 1) (k ps e2 a b y) .no) = .ok v h' n'->∃ j ps e2 a b,getH h1 l = .lp 1 j ps e2 a b/\k ps e2 a b y = .ok v h' n':=by
  intro h1 y hh
  rcases HB.onL_inv (getH h1 l) .no (λ st _ ps e2 a b=>iffO (Nat.beq st 1) (k ps e2 a b y) .no) with h0 | ⟨st,j,ps,e2,a,b,h0,h2⟩
  ·rw [h0] at hh; cases hh
  ·rw [h2] at hh
   obtain ⟨g1,g2⟩:=iffO_ok hh
   have:=nb_eq g1; subst this
   exact ⟨j,ps,e2,a,b,h0,g2⟩
 cases x with
 | no=>cases hh
 | nx e1 h1 n1 ds1=>obtain ⟨j,ps,e2,a,b,g1,g2⟩:=key hh; exact ⟨e1,h1,n1,ds1,j,ps,e2,a,b,.inl rfl,g1,g2⟩
 | rt e1 h1 n1 ds1=>obtain ⟨j,ps,e2,a,b,g1,g2⟩:=key hh; exact ⟨e1,h1,n1,ds1,j,ps,e2,a,b,.inr (.inl rfl),g1,g2⟩
 | ex id e1 h1 n1 ds1=>obtain ⟨j,ps,e2,a,b,g1,g2⟩:=key hh; exact ⟨e1,h1,n1,ds1,j,ps,e2,a,b,.inr (.inr ⟨id,rfl⟩),g1,g2⟩
theorem round_ok {l:Nat} {args:V} (hh:round P cal l args h n = .ok v h' n'):∃ j ps e a b e1 h1 n1 ds1 j2 ps2 e2 a2 b2,getH h l = .lp 0 j ps e a b/\lenV args=lenN ps/\evC a P cal (setPsV ps args e) h n .nil = .nx e1 h1 n1 ds1/\
  getH h1 l = .lp 0 j2 ps2 e2 a2 b2/\thenL (evC b P cal e1 (putH h1 (.lp 1 j2 ps2 e2 a2 b2) l) n1 ds1) l (shutL l) = .ok v h' n':=by
 unfold round at hh
 rcases HB.onL_inv (getH h l) .no _ with h0 | ⟨st,j,ps,e,a,b,h0,h2⟩
 ·have:=hh.symm.trans h0; cases this
 have hh:=h2.symm.trans hh
 obtain ⟨g1,g2⟩:=iffO_ok hh
 obtain ⟨g1,g3⟩:=and_ok g1
 have:=nb_eq g1; subst this
 cases hx:evC a P cal (setPsV ps args e) h n .nil with
 | no=>rw [hx] at g2; cases g2
 | rt e1 h1 n1 ds1=>rw [hx] at g2; cases g2
 | ex id e1 h1 n1 ds1=>rw [hx] at g2; cases g2
 | nx e1 h1 n1 ds1=>
  rw [hx] at g2
  have g2:(HB.onL (getH h1 l) .no λ st j ps e a' b'=>iffO (Nat.beq st 0) (thenL (evC b P cal e1 (putH h1 (.lp 1 j ps e a' b') l) n1 ds1) l (shutL l)) .no) = .ok v h' n':=g2
  rcases HB.onL_inv (getH h1 l) .no (λ st j ps e a' b'=>iffO (Nat.beq st 0) (thenL (evC b P cal e1 (putH h1 (.lp 1 j ps e a' b') l) n1 ds1) l (shutL l)) .no) with k0 | ⟨st2,j2,ps2,e2,a2,b2,k0,k2⟩
  ·rw [k0] at g2; cases g2
  ·rw [k2] at g2
   obtain ⟨g4,g5⟩:=iffO_ok g2
   have:=nb_eq g4; subst this
   exact ⟨j,ps,e,a,b,e1,h1,n1,ds1,j2,ps2,e2,a2,b2,h0,nb_eq g3,hx,k0,g5⟩
theorem round_sound (hm:P.follows .mixedOrders=true) (hc:CalOk P cal) {l:Nat} {q:Pl} {args:V} {xs:List Value} (hh:round P cal l args h n = .ok v h' n') (hq:ρ l=some q)
  (hA:RLs ρ args xs) (hR:RH P Fr ρ h w):YieldAt (FO none) 0 P q.k xs.toArray w (Ret (Pst P Fr ρ v h')):=by
 obtain ⟨j,ps,e,a,b,e1,h1,n1,ds1,j2,ps2,e2,a2,b2,k1,k2,k3,k4,k5⟩:=round_ok hh
 obtain ⟨q',o,r1,r2,r3⟩:=hR.lv l (by rw [k1]; trivial)
 rw [hq] at r1; cases r1
 rw [k1] at r3
 obtain ⟨L0,hL0,rfl⟩:=r3
 obtain ⟨nt,pl,e',_,_,hnt,hps,hlt,rfl,rfl,hokA,hyesB,hrA,hrB,hsz,hget,hE⟩:=hL0.ex
 have hlen:xs.length=L0.params.toList.length:=by rw [<- hA.len,k2,lenN_sls hps]
 refine ⟨L0.fn,_,L0.assign,L0.body,run_yield (r:={L0 with state:=stOf 0,pending:=pendOf j}) r2 (by simpa using hlen),roundIn_of_wpIn trivial ?_⟩
 have hag:Agree [] nt (setPs xs L0.params.toList 0 e') {tmps:=(L0.params.zip xs.toArray).foldl (λ t (q:Nat × Value)=>t.setIfInBounds q.1 q.2) L0.tmps,defers:=[]}:=by
  have h0:Agree [] nt e' {tmps:=L0.tmps,defers:=[]}:=⟨rfl,hsz,hget⟩
  have:=agree_params (args:=xs) L0.params.toList 0 e' _ hlt h0 (by omega)
  have e1:(L0.params.zip xs.toArray).foldl (λ t (q:Nat × Value)=>t.setIfInBounds q.1 q.2) L0.tmps=(L0.params.toList.zip (xs.drop 0)).foldl (λ t (q:Nat × Value)=>t.setIfInBounds q.1 q.2) L0.tmps:=by
   rw [<- Array.foldl_toList,Array.toList_zip]; simp
  rw [e1]; exact this
 have hE1:RE ρ (setPsV ps args e) (setPs xs L0.params.toList 0 e'):=setPs_spec hps (by simpa using hA) (by omega) hE
 refine wpIn_mono (CS_all hm hc hnt L0.assign (some q.k) _ h n .nil _ Fr ρ [] _ _ w (.inr hrA) hokA k3 (λ hh=>by cases hh) hag hE1 hR rfl) λ xt a1 w1 hp=>?_
 obtain ⟨rfl,ρ2,dk2,e3,hle2,ha2,hE2,hR2,hD2⟩:=hp.nx
 obtain ⟨q',o,r4,r5,r6⟩:=hR2.lv l (by rw [k4]; trivial)
 rw [hle2 _ _ hq] at r4; cases r4
 rw [k4] at r6
 obtain ⟨L2,hL2,rfl⟩:=r6
 have hlt1:q.k<w1.heap.size:=(Array.getElem?_eq_some_iff.1 r5).1
 refine ⟨_,run_beginRound r5 rfl,?_⟩
 have hR3:RH P Fr ρ2 (putH h1 (.lp 1 j2 ps2 e2 a2 b2) l) (w1.putObj q.k (.loop {L2 with state:=.busy,pending:=pendOf j2})):=
  hR2.turn (by rw [k4]; trivial) (hle2 _ _ hq) (World.putObj_heap_same hlt1) ⟨L2,hL2,rfl⟩ put_other
 obtain ⟨e5,h5,n5,ds5,j5,ps5,e6,a5,b5,g1,g2,g3⟩:=thenL_ok k5
 generalize hx2:evC (prepC P nt pl L0.body) P cal e1 (putH h1 (.lp 1 j2 ps2 e2 a2 b2) l) n1 ds1=x2 at g1 g3
 have hxn:x2≠.no:=λ h0=>by rcases g1 with g1 | g1 | ⟨id,g1⟩ <;> rw [h0] at g1 <;> cases g1
 refine wpIn_mono (CS_all hm hc hnt L0.body (some q.k) e1 _ n1 ds1 x2 Fr ρ2 dk2 e3 a1 _ (.inr hrB) hyesB hx2 hxn ha2 hE2 hR3 hD2) λ xt a3 w3 hp=>?_
 have fin:PZ P Fr ρ2 nt e5 h5 ds5 a3 w3->∃ L3 ρ3,LpB P ρ3 ps5 e6 a5 b5 L3/\Le ρ ρ3/\w3.heap[q.k]? = some (.loop {L3 with state:=.busy,pending:=pendOf j5})/\
   ∀ st j,RH P Fr ρ3 (putH h5 (.lp st j ps5 e6 a5 b5) l) (w3.putObj q.k (.loop {L3 with state:=stOf st,pending:=pendOf j})):=by
  intro ⟨ρ3,dk3,e7,hle3,ha3,hE3,hR4,hD3⟩
  obtain ⟨q',o,r7,r8,r9⟩:=hR4.lv l (by rw [g2]; trivial)
  have hq3:=hle3 _ _ (hle2 _ _ hq)
  rw [hq3] at r7; cases r7
  rw [g2] at r9
  obtain ⟨L3,hL3,rfl⟩:=r9
  exact ⟨L3,ρ3,hL3,hle2.trans hle3,r8,λ st j=>hR4.turn (by rw [g2]; trivial) hq3 (World.putObj_heap_same (Array.getElem?_eq_some_iff.1 r8).1) ⟨L3,hL3,rfl⟩ put_other⟩
 rcases g1 with rfl | rfl | ⟨id,rfl⟩
 ·obtain ⟨rfl,hz⟩:=hp.nx
  obtain ⟨L3,ρ3,_,hle,r8,hk⟩:=fin hz
  obtain ⟨q1,q2,_⟩:=ok_inj (show OR.ok (.b true) (putH h5 (.lp 0 .no ps5 e6 a5 b5) l) n5 = .ok v h' n' from g3)
  rw [<- q1,<- q2]
  exact ⟨_,_,run_endRound none r8,_,rfl,ρ3,hle,hk 0 .no,rfl⟩
 ·obtain ⟨rfl,hz⟩:=hp.rt
  obtain ⟨L3,ρ3,_,hle,r8,hk⟩:=fin hz
  obtain ⟨q1,q2,_⟩:=ok_inj (show OR.ok (.b false) (putH h5 (.lp 2 .rt ps5 e6 a5 b5) l) n5 = .ok v h' n' from g3)
  rw [<- q1,<- q2]
  exact ⟨_,_,run_endRound (some .ret) r8,_,rfl,ρ3,hle,hk 2 .rt,rfl⟩
 obtain ⟨rfl,hz⟩:=hp.ex
 obtain ⟨L3,ρ3,_,hle,r8,hk⟩:=fin hz
 obtain ⟨q1,q2,_⟩:=ok_inj (show OR.ok (.b false) (putH h5 (.lp 2 (.ex id) ps5 e6 a5 b5) l) n5 = .ok v h' n' from g3)
 rw [<- q1,<- q2]
 exact ⟨_,_,run_endRound (some (.exit id)) r8,_,rfl,ρ3,hle,hk 2 (.ex id),rfl⟩
end
theorem evF_sound {P:Program} (hm:P.follows .mixedOrders=true) {L:List Nat} {pls:Nat->Nat->PT} (hall:List.all L (okF P pls)=true):∀ f,CalOk P (evF P (onlyF L (prepF P pls)) f):=by
 intro f
 induction f with
 | zero=>intro c args h n v h' n' hh; cases hh
 | succ f ih=>
  intro c args h n v h' n' hh Fr ρ w x xs hx hA hR
  have hh:c.onFY .no (λ g caps=>enter P (evF P (onlyF L (prepF P pls)) f) (onlyF L (prepF P pls) g) (appV args caps) h n) (λ l=>round P (evF P (onlyF L (prepF P pls)) f) l args h n) = .ok v h' n':=hh
  rcases V.onFY_inv c .no (λ g caps=>enter P (evF P (onlyF L (prepF P pls)) f) (onlyF L (prepF P pls) g) (appV args caps) h n) (λ l=>round P (evF P (onlyF L (prepF P pls)) f) l args h n) with h0 | ⟨g,caps,h0,h1⟩ | ⟨l,h0,h1⟩
  ·rw [h0] at hh; cases hh
  ·rw [h1] at hh
   rw [h0] at hx
   obtain ⟨ys,hys,hx⟩:=hx
   cases hmem:memB g L with
   | false=>unfold onlyF at hh; rw [hmem] at hh; cases hh
   | true=>
    have hok:=List.all_eq_true.1 hall g (memB_iff.1 hmem)
    have he:onlyF L (prepF P pls) g=prepF P pls g:=by unfold onlyF; rw [hmem]; rfl
    rw [he] at hh
    obtain ⟨p1,p2⟩:=enter_sound hm ih hok hh (RLs.app hA hys) hR
    exact ⟨.inl ⟨g,#[],ys.toArray,hx,p1,by simpa using p2⟩⟩
  ·rw [h1] at hh
   rw [h0] at hx
   obtain ⟨q,hq,hx⟩:=hx
   exact ⟨.inr ⟨q.k,hx,round_sound hm ih hh hq hA hR⟩⟩
noncomputable def yesB (x:OR):Bool:=OR.rec (motive:=λ _=>Bool) false (λ v _ _=>V.rec (motive:=λ _=>Bool) (λ b=>b) (λ _ _=>false) (λ _ _=>false) false (λ _ _=>false) false (λ _ _ _ _=>false) (λ _ _ _ _=>false) false false (λ _=>false) false (λ _ _ _=>false) (λ _=>false) (λ _ _=>false) (λ _ _=>false) false (λ _ _ _ _=>false) v) x
noncomputable section
def renV (r:Nat->Nat) (v:V):V:=V.rec (motive:=λ _=>V) (λ x=>.b x) (λ k n=>.i k n) (λ n l=>.s n l) .np (λ b o=>.p (r b) o) .ns (λ b o l k=>.sl (r b) o l k) (λ b o l c=>.sx (r b) o l c) .se .nm (λ b=>.m (r b)) .nf (λ g _ ih=>.f g ih) (λ l=>.y (r l)) (λ _ ih=>.a ih) (λ _ ih=>.t ih) .e (λ _ _ i1 i2=>.c i1 i2) v
def renM (r:Nat->Nat) (l:ML):ML:=ML.rec (motive:=λ _=>ML) .nil (λ k v b _ ih=>.cons (renV r k) (renV r v) b ih) l
def n8m {α:Type} (f:α->α) (t:N8 α):N8 α:=N8.rec (motive:=λ _=>N8 α) (λ x0 x1 x2 x3 x4 x5 x6 x7=>.mk (f x0) (f x1) (f x2) (f x3) (f x4) (f x5) (f x6) (f x7)) t
def renE (r:Nat->Nat) (e:En):En:=n8m (n8m (n8m (renV r))) e
def allB (f:Nat->Bool) (n:Nat):Bool:=Nat.rec (motive:=λ _=>Bool) true (λ i ih=>andB (f i) ih) n
def cellB (r:Nat->Nat) (t1 t2:Tr V) (i:Nat):Bool:=V.eqs true (renV r (getV t2 i)) (getV t1 i)
def blkB (r:Nat->Nat) (b2 b1:HB):Bool:=
 HB.rec (motive:=λ _=>HB->Bool) (λ _=>false) (λ _=>true)
  (λ n es t2 b1=>HB.rec (motive:=λ _=>Bool) false false (λ n1 es1 t1=>andB (Nat.beq n n1) (andB (Nat.beq es es1) (allB (cellB r t1 t2) n))) (λ _ _=>false) (λ _ _ _ _ _=>false) (λ _ _ _ _ _ _=>false) false b1)
  (λ c l2 b1=>HB.rec (motive:=λ _=>Bool) false false (λ _ _ _=>false) (λ c1 l1=>andB (Nat.beq c c1) (ML.eqv (renM r l2) l1)) (λ _ _ _ _ _=>false) (λ _ _ _ _ _ _=>false) false b1)
  (λ _ _ _ _ _ _=>false) (λ _ _ _ _ _ _ _=>false) (λ _=>false) b2 b1
def rnum (d:Nat) (l:List Nat):Nat->Nat:=List.rec (motive:=λ _=>Nat->Nat) (λ _=>d) (λ x _ ih b=>Nat.rec (motive:=λ _=>Nat) x (λ j _=>ih j) b) l
def notIn (x:Nat) (l:List Nat):Bool:=List.rec (motive:=λ _=>Bool) true (λ y _ ih=>Bool.rec (motive:=λ _=>Bool) ih false (Nat.beq x y)) l
def nodB (l:List Nat):Bool:=List.rec (motive:=λ _=>Bool) true (λ x r ih=>andB (notIn x r) ih) l
def mkH (l:List HB):Nat->Hp:=List.rec (motive:=λ _=>Nat->Hp) (λ _=>.lf) (λ y _ ih k=>putH (ih (Nat.succ k)) y k) l
def isZ (b:HB):Bool:=HB.rec (motive:=λ _=>Bool) true false (λ _ _ _=>false) (λ _ _=>false) (λ _ _ _ _ _=>false) (λ _ _ _ _ _ _=>false) false b
def subB (d:Nat) (l:List Nat) (e2:En) (bs:List HB) (e1:En) (h1:Hp):Bool:=
 andB (eq8 (eq8 (eq8 (V.eqs true))) (renE (rnum d l) e2) e1) (andB (isZ (getH h1 d)) (andB (nodB l) (andB (Nat.beq bs.length l.length) (allB (λ b=>blkB (rnum d l) (getH (mkH bs 0) b) (getH h1 (rnum d l b))) l.length))))
def nxB (x:Ex) (k:En->Hp->Bool):Bool:=Ex.rec (motive:=λ _=>Bool) false (λ e h _ ds=>NL.rec (motive:=λ _=>Bool) (k e h) (λ _ _ _=>false) ds) (λ _ _ _ _=>false) (λ _ _ _ _ _=>false) x
end
section
variable {P:Program} {Fr:Fram} {ρ:Rn} {h:Hp} {w:World}
theorem RP_ren (r:Nat->Nat) (v:V):RP ρ (renV r v)=RP (λ b=>ρ (r b)) v:=by
 induction v with
 | f g c ih=>show RP ρ (.f g (renV r c))=_; simp only [RP,ih]
 | a c ih=>show RP ρ (.a (renV r c))=_; simp only [RP,ih]
 | t c ih=>show RP ρ (.t (renV r c))=_; simp only [RP,ih]
 | c a b i1 i2=>show RP ρ (.c (renV r a) (renV r b))=_; simp only [RP,i1,i2]
 | _=>rfl
theorem RV_ren {r:Nat->Nat} {v:V} {x:Value} (hv:RV ρ (renV r v) x):RV (λ b=>ρ (r b)) v x:=by
 unfold RV at hv |-; rw [RP_ren] at hv; exact hv
theorem RM_ren {r:Nat->Nat}:∀ {l:ML} {es:List MapEntry},RM ρ (renM r l) es->RM (λ b=>ρ (r b)) l es:=by
 intro l
 induction l with
 | nil=>intro es h; exact h
 | cons k v b t ih=>intro es ⟨e,es',h1,h2,h3,h4,h5⟩; exact ⟨e,es',h1,RV_ren h2,RV_ren h3,h4,ih h5⟩
theorem RMs_ren {r:Nat->Nat}:∀ {l:ML} {sl:List (ByteArray × Int)},RMs (renM r l) sl->RMs l sl:=by
 intro l
 induction l with
 | nil=>intro sl h; exact h
 | cons k v b t ih=>
  intro sl ⟨n,m,x,l',h1,h2,h3,h4⟩
  refine ⟨n,m,x,l',?_,?_,h3,ih h4⟩
  ·cases k <;> first | exact h1 | cases h1
  ·cases v <;> first | exact h2 | cases h2
theorem n8m_g1 (f:V->V) (s:S8) (t:N8 V):g81 s (n8m f t)=f (g81 s t):=by cases t; cases s <;> rfl
theorem n8m_g2 (f:N8 V->N8 V) (s:S8) (t:N8 (N8 V)):g82 s (n8m f t)=f (g82 s t):=by cases t; cases s <;> rfl
theorem n8m_g3 (f:N8 (N8 V)->N8 (N8 V)) (s:S8) (t:N8 (N8 (N8 V))):g83 s (n8m f t)=f (g83 s t):=by cases t; cases s <;> rfl
theorem get_ren (r:Nat->Nat) (s:Sl) (e:En):s.get (renE r e)=renV r (s.get e):=by
 cases s with
 | mk a b c=>show g81 c (g82 b (g83 a (renE r e)))=renV r (g81 c (g82 b (g83 a e))); unfold renE; rw [n8m_g3,n8m_g2,n8m_g1]
theorem allB_at {f:Nat->Bool}:∀ {n:Nat},allB f n=true->∀ i,i<n->f i=true
 | 0,_,i,hi=>by omega
 | n+1,hh,i,hi=>by
  obtain ⟨h1,h2⟩:=and_ok (show andB (f n) (allB f n)=true from hh)
  by_cases e:i=n
  ·rw [e]; exact h1
  ·exact allB_at h2 i (by omega)
theorem rnum_at (d:Nat):∀ (l:List Nat) (b:Nat),rnum d l b=l.getD b d
 | [],b=>by show d=_; simp
 | x::l,0=>by show x=_; simp
 | x::l,b+1=>by show rnum d l b=_; rw [rnum_at d l b]; simp
theorem notIn_ok {x:Nat}:∀ {l:List Nat},notIn x l=true->x ∉ l
 | [],_=>by simp
 | y::l,hh=>by
  have hh:(Bool.rec (motive:=λ _=>Bool) (notIn x l) false (Nat.beq x y):Bool)=true:=hh
  cases hb:Nat.beq x y with
  | true=>rw [hb] at hh; cases hh
  | false=>
   rw [hb] at hh
   have h1:=notIn_ok hh
   have h2:x≠y:=λ e=>by rw [e,Nat.beq_refl] at hb; cases hb
   simp [h1,h2]
theorem nodB_ok:∀ {l:List Nat},nodB l=true->l.Nodup
 | [],_=>List.nodup_nil
 | x::l,hh=>by
  obtain ⟨h1,h2⟩:=and_ok (show andB (notIn x l) (nodB l)=true from hh)
  exact List.nodup_cons.2 ⟨notIn_ok h1,nodB_ok h2⟩
theorem nod_inj:∀ {l:List Nat},l.Nodup->∀ {i j:Nat} (hi:i<l.length) (hj:j<l.length),l[i]=l[j]->i=j
 | [],_,i,j,hi,_,_=>by simp at hi
 | x::l,hn,i,j,hi,hj,e=>by
  obtain ⟨h1,h2⟩:=List.nodup_cons.1 hn
  cases i with
  | zero=>cases j with
   | zero=>rfl
   | succ j=>simp at e hj; exact absurd (e▸List.getElem_mem hj) h1
  | succ i=>cases j with
   | zero=>simp at e hi; exact absurd (e▸List.getElem_mem hi) h1
   | succ j=>simp at e hi hj; rw [nod_inj h2 hi hj e]
theorem getH_mkH:∀ (l:List HB) (k b:Nat),getH (mkH l k) b=if k<=b/\b<k+l.length then l.getD (b - k) .z else .z
 | [],k,b=>by
  show HB.z=_
  split <;> simp
 | y::l,k,b=>by
  show getH (putH (mkH l (k+1)) y k) b=_
  rw [get_putH,getH_mkH l (k+1) b]
  by_cases e:b=k
  ·subst e; rw [if_pos rfl,if_pos (by simp)]; simp
  ·rw [if_neg e]
   by_cases e2:k+1<=b/\b<k+1+l.length
   ·rw [if_pos e2,if_pos (by simp; omega),show b - k=(b - (k+1))+1 from by omega]; simp
   ·rw [if_neg e2,if_neg (by simp; omega)]
theorem blkB_ok {r:Nat->Nat} {b2 b1:HB} (hh:blkB r b2 b1=true):b2≠.z/\(live b2->live b1/\∀ {q:Pl} {o:Obj},Body P ρ b1 q o->Body P (λ b=>ρ (r b)) b2 q o):=by
 cases b2 with
 | z=>cases hh
 | x=>exact ⟨λ h=>(by cases h),λ h=>h.elim⟩
 | c n es t2=>
  refine ⟨λ h=>(by cases h),λ _=>?_⟩
  cases b1 with
  | c n1 es1 t1=>
   obtain ⟨h1,hh⟩:=and_ok (show andB (Nat.beq n n1) (andB (Nat.beq es es1) (allB (cellB r t1 t2) n))=true from hh)
   obtain ⟨h2,h3⟩:=and_ok hh
   have h1:=nb_eq h1
   have h2:=nb_eq h2
   subst h1 h2
   refine ⟨trivial,fun {q o} hB=>?_⟩
   obtain ⟨cs,ty,fz,g1,g2,g3,g4,g5,g6,g7⟩:=hB
   refine ⟨cs,ty,fz,g1,g2,g3,g4,g5,g6,λ i hi=>?_⟩
   obtain ⟨x,k1,k2,k3⟩:=g7 i hi
   have he:=(eqs_spec _ _ (allB_at h3 i hi)).1
   rw [<- he] at k2
   exact ⟨x,k1,RV_ren k2,k3⟩
  | _=>cases hh
 | m c l2=>
  refine ⟨λ h=>(by cases h),λ _=>?_⟩
  cases b1 with
  | m c1 l1=>
   obtain ⟨h1,h2⟩:=and_ok (show andB (Nat.beq c c1) (ML.eqv (renM r l2) l1)=true from hh)
   have h1:=nb_eq h1
   subst h1
   refine ⟨trivial,fun {q o} hB=>?_⟩
   rcases hB with ⟨g0,es,g1,g2⟩ | ⟨g0,sl,g2,g3⟩
   ·rw [<- ML_eqv _ _ h2] at g2
    exact .inl ⟨g0,es,g1,RM_ren g2⟩
   ·rw [<- ML_eqv _ _ h2] at g2
    exact .inr ⟨g0,sl,RMs_ren g2,g3⟩
  | _=>cases hh
 | it a b c d e=>cases hh
 | lp a b c d e f=>cases hh
 | df=>cases hh
theorem isZ_ok {b:HB} (hh:isZ b=true):b = .z:=by cases b <;> first | rfl | cases hh
def InvS (P:Program) (Fr:Fram) (nt:Nat) (e:En) (h:Hp) (a:Act) (w:World):Prop:=∃ ρ e',Agree [] nt e' a/\RE ρ e e'/\RH P Fr ρ h w
theorem sub_sound {d:Nat} {l:List Nat} {e2 e1:En} {bs:List HB} {h1:Hp} {e':Env} (hh:subB d l e2 bs e1 h1=true) (hE:RE ρ e1 e') (hR:RH P Fr ρ h1 w):RE (λ b=>ρ (rnum d l b)) e2 e'/\RH P Fr (λ b=>ρ (rnum d l b)) (mkH bs 0) w:=by
 obtain ⟨h1',hh⟩:=and_ok hh
 obtain ⟨h2,hh⟩:=and_ok hh
 obtain ⟨h3,hh⟩:=and_ok hh
 obtain ⟨h4,h5⟩:=and_ok hh
 have he:=En_eqv _ _ h1'
 have hz:=isZ_ok h2
 have hn:=nodB_ok h3
 have hl:=nb_eq h4
 have hbk:=λ b hb=>blkB_ok (P:=P) (ρ:=ρ) (allB_at h5 b hb)
 have hin:∀ b,live (getH (mkH bs 0) b)->b<l.length:=λ b hb=>by
  rw [getH_mkH] at hb
  split at hb
  ·omega
  ·exact hb.elim
 refine ⟨λ i s hs=>?_,λ b hb=>?_,λ b hb=>?_,λ b b' q q' hb hb' hne hq hq'=>?_,hR.keep,λ b q hb hq=>hR.off _ q ((hbk b (hin b hb)).2 hb).1 hq,hR.st⟩
 ·have:=hE i s hs
  rw [<- he,get_ren] at this
  exact RV_ren this
 ·by_cases hlt:b<l.length
  ·exact absurd hb (hbk b hlt).1
  show ρ (rnum d l b)=none
  rw [rnum_at,List.getD_eq_getElem?_getD,List.getElem?_eq_none (by omega)]
  exact hR.fresh d hz
 ·have hlt:=hin b hb
  obtain ⟨g1,g2⟩:=(hbk b hlt).2 hb
  obtain ⟨q,o,k1,k2,k3⟩:=hR.lv _ g1
  exact ⟨q,o,k1,k2,g2 k3⟩
 have hlt:=hin b hb
 have hlt':=hin b' hb'
 refine hR.sep _ _ q q' ((hbk b hlt).2 hb).1 ((hbk b' hlt').2 hb').1 (λ e=>hne ?_) hq hq'
 rw [rnum_at,rnum_at,List.getD_eq_getElem?_getD,List.getD_eq_getElem?_getD,List.getElem?_eq_getElem hlt,List.getElem?_eq_getElem hlt'] at e
 exact nod_inj hn hlt hlt' (by simpa using e)
theorem nxB_ok {x:Ex} {k:En->Hp->Bool} (hh:nxB x k=true):∃ e h n,x = .nx e h n .nil/\k e h=true:=by
 cases x with
 | nx e h n ds=>cases ds with
  | nil=>exact ⟨e,h,n,rfl,hh⟩
  | cons a b=>cases hh
 | _=>cases hh
def Fin (P:Program) (Fr:Fram) (fn:Func) (a:Act) (w:World):Prop:=LeavesInM (FO none) 0 P fn a.tmps (Ret λ v w2=>v = .bool true/\∃ ρ h,RH P Fr ρ h w2) a.defers .returning w
def GoS (P:Program) (fn:Func) (c:Code) (e:En) (h:Hp):Prop:=
 ∀ (Fr:Fram) (Q:Exit->Act->World->Prop) (a:Act) (w:World),(∀ a' w',Fin P Fr fn a' w'->Q .normal a' w'/\Q .ret a' w')->InvS P Fr fn.ntmps e h a w->c.wpIn (FO none) 0 P Q a w
variable {cal:Cal} {fn:Func} {pl:Plans}
theorem GoS.part (hm:P.follows .mixedOrders=true) (hc:CalOk P cal) {c1 c2:Code} {e e2:En} {n d:Nat} {l:List Nat} {bs:List HB} (hok:(Nat.ble fn.ntmps 512 && okC P fn.ntmps pl c1)=true)
  (hh:nxB (evC (prepC P fn.ntmps pl c1) P cal e h n .nil) (subB d l e2 bs)=true) (hn:GoS P fn c2 e2 (mkH bs 0)):GoS P fn (.seq c1 c2) e h:=by
 intro Fr Q a w hQ ⟨ρ,e',ha,hE,hR⟩
 rw [Bool.and_eq_true] at hok
 obtain ⟨e1,h1,n1,hx,hk⟩:=nxB_ok hh
 refine wpIn_seq (wpIn_mono (CS_all hm hc (ble_le hok.1) c1 none e h n .nil _ Fr ρ [] e' a w (.inl rfl) hok.2 hx (λ h0=>by cases h0) ha hE hR rfl) λ xt a' w' hp=>?_)
 obtain ⟨rfl,ρ2,dks,e3,_,ha2,hE2,hR2,hD2⟩:=hp.nx
 obtain rfl:dks=[]:=hD2
 obtain ⟨g1,g2⟩:=sub_sound hk hE2 hR2
 exact hn Fr Q a' w' hQ ⟨_,e3,ha2,g1,g2⟩
theorem GoS.last (hm:P.follows .mixedOrders=true) (hc:CalOk P cal) {c:Code} {e:En} {n:Nat} {r:RS} (hok:(Nat.ble fn.ntmps 512 && okC P fn.ntmps pl c)=true) (hr:prepRs P fn.results.toList=some r)
  (hh:yesB (leave P r (evC (prepC P fn.ntmps pl c) P cal e h n .nil))=true):GoS P fn c e h:=by
 intro Fr Q a w hQ ⟨ρ,e',ha,hE,hR⟩
 rw [Bool.and_eq_true] at hok
 generalize hx:evC (prepC P fn.ntmps pl c) P cal e h n .nil=x at hh
 have hxn:x≠.no:=λ h0=>by rw [h0] at hh; cases hh
 cases hy:leave P r x with
 | no=>rw [hy] at hh; cases hh
 | ok v h' n'=>
 rw [hy] at hh
 have hv:v = .b true:=by
  cases v <;> cases hh
  rfl
 subst hv
 refine wpIn_mono (CS_all hm hc (ble_le hok.1) c none e h n .nil x Fr ρ [] e' a w (.inl rfl) hok.2 hx hxn ha hE hR rfl) λ xt a' w' hp=>?_
 have fin:∀ e1 h1 n1 ds1,PZ P Fr ρ fn.ntmps e1 h1 ds1 a' w'->(kill ds1 h1 λ h=>evRs r P e1 h λ l=>.ok (oneV l) h n1) = .ok (.b true) h' n'->Fin P Fr fn a' w':=by
  intro e1 h1 n1 ds1 hz hk
  obtain ⟨ρ2,dks,e2,hle2,ha2,hE2,hR2,hD2⟩:=hz
  unfold Fin
  rw [ha2.defers]
  refine leaves_marks dks w' ((kill_sound (K:=λ w2=>resR P fn.results.toList e2 (λ vs=>resV vs = .bool true/\∃ ρ h,RH P Fr ρ h w2) w2) hk hD2 hR2 λ h2 w2 hk2 hR3=>?_).mono λ w1 hw1=>?_)
  ·refine evRs_sound hr hk2 hE2 hR3 λ ρ3 l vs hle3 hR4 hl hk3=>?_
   obtain ⟨q1,q2,_⟩:=ok_inj hk3
   have:=oneV_spec hl
   rw [q1] at this
   exact ⟨this,ρ3,_,hR4⟩
  ·obtain ⟨vs,g1,g2⟩:=resR_run ha2 fn.results.toList _ w1 hw1
   exact ⟨_,run_results (by simp) g1,_,rfl,g2⟩
 cases x with
 | no=>exact absurd rfl hxn
 | nx e1 h1 n1 ds1=>obtain ⟨rfl,hz⟩:=hp.nx; exact (hQ a' w' (fin e1 h1 n1 ds1 hz hy)).1
 | rt e1 h1 n1 ds1=>obtain ⟨rfl,hz⟩:=hp.rt; exact (hQ a' w' (fin e1 h1 n1 ds1 hz hy)).2
 | ex id e1 h1 n1 ds1=>cases hy
theorem GoS.run {g:Nat} {c:Code} (hf:P.funcs[g]? = some fn) (hb:fn.body=some c) (hg:GoS P fn c (setPsV (slsN 0 fn.ntmps) .e en0) .lf) (w:World):Calls P g #[] w (Ret fun (v:Value) (w':World)=>v = .bool true/\Ext w w'):=by
 have hR:RH P ⟨λ r=>w.heap[r]?,w⟩ (λ _=>none) .lf w:=⟨λ _ _=>rfl,λ _ hl=>hl.elim,λ _ _ _ _ hl=>hl.elim,λ _ _ hr=>hr,λ _ _ hl=>hl.elim,rfl,rfl,rfl⟩
 have hE:RE (λ _=>none) (setPsV (slsN 0 fn.ntmps) .e en0) (env0 []):=by
  have:=slsN_spec (xs:=[]) (args:=.e) fn.ntmps 0 (ρ:=λ _=>none) rfl (Nat.zero_le _) RE0
  rw [env0_eq] at this
  exact this
 have key:Calls P g #[] w (Ret λ v w2=>v = .bool true/\∃ ρ h,RH P ⟨λ r=>w.heap[r]?,w⟩ ρ h w2):=by
  refine callsIn_FO.1 (callsIn_of_wp_marks (F:=FO none) (n:=0) hf hb trivial ?_)
  refine hg ⟨λ r=>w.heap[r]?,w⟩ _ _ w (λ a' w' hh=>⟨hh,hh⟩) ⟨_,env0 [],?_,hE,hR⟩
  refine ⟨rfl,by simp,λ i=>?_⟩
  rw [env0_get,Array.getD_eq_getD_getElem?]
  simp only [List.size_toArray,Array.getElem?_append,Array.getElem?_replicate]
  simp
  split <;> rfl
 refine key.mono λ x w' ⟨y,hx,hv,ρ',h',hR'⟩=>⟨y,hx,hv,hR'.st.1,hR'.st.2.1,hR'.st.2.2,?_,λ b hb _=>?_⟩
 ·rcases Nat.eq_zero_or_pos w.heap.size with h0 | h0
  ·omega
  have hlt:w.heap.size - 1<w.heap.size:=by omega
  have:=(Array.getElem?_eq_some_iff.1 (hR'.keep (w.heap.size - 1) _ (Array.getElem?_eq_getElem hlt))).1
  omega
 rw [hR'.keep b _ (Array.getElem?_eq_getElem hb),Array.getElem?_eq_getElem hb]
end
noncomputable def okKB (x:OR) (k:V->Hp->Bool):Bool:=OR.rec (motive:=λ _=>Bool) false (λ v h _=>k v h) x
theorem okKB_ok {x:OR} {k:V->Hp->Bool} (hh:okKB x k=true):∃ v h n,x = .ok v h n/\k v h=true:=by
 cases x with
 | no=>cases hh
 | ok v h n=>exact ⟨v,h,n,rfl,hh⟩
theorem run_gen {P:Program} (hm:P.follows .mixedOrders=true) {L:List Nat} {pls:Nat->Nat->PT} (hall:List.all L (okF P pls)=true) {f g:Nat} {k:V->Hp->Bool} (hrun:okKB (evF P (onlyF L (prepF P pls)) f (.f g .e) .e .lf 0) k=true) (w:World) :
  Calls P g #[] w (Ret fun (y:Value) (w':World)=>Ext w w'/\∃ v h ρ,k v h=true/\RH P ⟨λ r=>w.heap[r]?,w⟩ ρ h w'/\RV ρ v y):=by
 obtain ⟨v,h',n',hx,hk⟩:=okKB_ok hrun
 have hR:RH P ⟨λ r=>w.heap[r]?,w⟩ (λ _=>none) .lf w:=⟨λ _ _=>rfl,λ _ hl=>hl.elim,λ _ _ _ _ hl=>hl.elim,λ _ _ hr=>hr,λ _ _ hl=>hl.elim,rfl,rfl,rfl⟩
 have:=evF_sound hm hall f _ _ _ _ _ _ _ hx ⟨λ r=>w.heap[r]?,w⟩ (λ _=>none) w (.func (.func g) #[] #[]) [] ⟨[],rfl,rfl⟩ rfl hR
 rcases this.ex with ⟨g',first,cap,q1,_,q3⟩ | ⟨l,q1,_⟩
 case inr=>cases q1
 injection q1 with q1 q2 q4
 injection q1 with q1
 subst q1; subst q2; subst q4
 have q5:Calls P g #[] w (Ret (Pst P ⟨λ r=>w.heap[r]?,w⟩ (λ _=>none) v h')):=by simpa using q3
 refine q5.mono λ x w' ⟨y,hx,ρ',_,hR',hv⟩=>⟨y,hx,⟨hR'.st.1,hR'.st.2.1,hR'.st.2.2,?_,λ b hb _=>?_⟩,v,h',ρ',hk,hR',hv⟩
 ·rcases Nat.eq_zero_or_pos w.heap.size with h0 | h0
  ·omega
  have hlt:w.heap.size - 1<w.heap.size:=by omega
  have:=(Array.getElem?_eq_some_iff.1 (hR'.keep (w.heap.size - 1) _ (Array.getElem?_eq_getElem hlt))).1
  omega
 rw [hR'.keep b _ (Array.getElem?_eq_getElem hb),Array.getElem?_eq_getElem hb]
open Go.MapKept (Stamped IsKey)
open Go.ChangeMaps (setBlock)
def MapAt (w:World) (b:Nat) (ks:List Int) (vs:List Value):Prop:=
 ∃ es clock,w.heap[b]? = some (.map es clock)/\Stamped es clock/\es.toList.map (·.key)=ks.map (Value.int .i64)/\es.toList.map (·.val)=vs
def keyAt:List Int->Int->Option Nat
 | [],_=>none
 | x::xs,k=>if x=k then some 0 else (keyAt xs k).map (· + 1)
theorem keyAt_some:∀ {ks:List Int} {k:Int} {j:Nat},keyAt ks k=some j->ks[j]? = some k
 | x::xs,k,j,h=>by
  unfold keyAt at h
  split at h
  ·rename_i e; cases h; simp [e]
  ·cases hh:keyAt xs k with
   | none=>rw [hh] at h; cases h
   | some i=>rw [hh] at h; simp at h; subst h; simpa using keyAt_some hh
theorem keyAt_none:∀ {ks:List Int} {k:Int},keyAt ks k=none↔k ∉ ks
 | [],_=>by simp [keyAt]
 | x::xs,k=>by
  unfold keyAt
  by_cases e:x=k
  ·simp [e]
  ·rw [if_neg e,Option.map_eq_none_iff,keyAt_none,List.mem_cons]
   exact ⟨λ h hh=>hh.elim (λ h2=>e h2.symm) h,λ h hh=>h (.inr hh)⟩
theorem keyAt_eq:∀ {ks:List Int} {k:Int} {j:Nat},ks.Nodup->ks[j]? = some k->keyAt ks k=some j
 | x::xs,k,0,_,h=>by simp at h; simp [keyAt,h]
 | x::xs,k,j+1,hn,h=>by
  rw [List.getElem?_cons_succ] at h
  have hm:=List.mem_of_getElem? h
  have:x≠k:=λ e=>(List.nodup_cons.1 hn).1 (e▸hm)
  simp [keyAt,this,keyAt_eq (List.nodup_cons.1 hn).2 h]
def look {β:Type} (ks:List Int) (vs:List β) (k:Int):Option β:=(keyAt ks k).bind (vs[·]?)
def updF {β:Type} (f:Int->β) (k:Int) (x:β):Int->β:=λ j=>if j=k then x else f j
section
variable {P:Program} {w w0 w':World} {A:Nat->Prop} {L:List HP} {b:Nat} {ks:List Int} {vs:List Value}
theorem MapAt.of_eq (h:MapAt w b ks vs) (hh:w'.heap[b]? = w.heap[b]?):MapAt w' b ks vs:=by
 obtain ⟨es,c,h1,h2⟩:=h; exact ⟨es,c,hh.trans h1,h2⟩
theorem MapAt.lt (h:MapAt w b ks vs):b<w.heap.size:=by obtain ⟨es,c,h1,_⟩:=h; exact lt_of_heap h1
theorem MapAt.ext (h:MapAt w b ks vs) (e:Ext w w'):MapAt w' b ks vs:=h.of_eq (e.blk b h.lt λ h=>h)
theorem MapAt.len (h:MapAt w b ks vs):ks.length=vs.length:=by
 obtain ⟨es,c,_,_,h3,h4⟩:=h
 have:=congrArg List.length h3; have h5:=congrArg List.length h4
 simp at this h5; omega
theorem MapAt.nodup (h:MapAt w b ks vs):ks.Nodup:=by
 obtain ⟨es,c,_,h2,h3,h4⟩:=h
 have:=h2.2.2
 rw [h3] at this
 exact (List.pairwise_map.1 this).imp λ h e=>h (by rw [e])
def mapB (b:Nat) (ks:List Int) (vs:List Value):HP where
 p w F:=MapAt w b ks vs/\∀ k,F k↔k=b
 loc w w' F h hh:=⟨h.1.of_eq (hh b ((h.2 b).2 rfl)),h.2⟩
 lt w F b' h hb:=by rw [(h.2 b').1 hb]; exact h.1.lt
theorem isKey_all {es:Array MapEntry} (h3:es.toList.map (·.key)=ks.map (Value.int .i64)):∀ x∈es.toList,IsKey (.int .i64) x.key:=by
 intro x hx
 have:x.key∈es.toList.map (·.key):=List.mem_map.2 ⟨x,hx,rfl⟩
 rw [h3] at this
 obtain ⟨k,_,e⟩:=List.mem_map.1 this
 rw [<- e]; simp [IsKey]
theorem find_key {T:TypeId} {k:Int} {es:Array MapEntry} (hT:P.underlying T=some (.int .i64)) (hn:ks.Nodup) (h3:es.toList.map (·.key)=ks.map (Value.int .i64)) :
  (keyAt ks k=none/\(Instr.findKey T (.int .i64 k) es.toList).run P w = .ok none w)\/∃ j e,keyAt ks k=some j/\es.toList[j]? = some e/\e.key = .int .i64 k/\(Instr.findKey T (.int .i64 k) es.toList).run P w = .ok (some (j,e.val)) w:=by
 rcases MapKept.findNow_spec (d:=.int .i64) (k:=.int .i64 k) (by simp [IsKey]) es.toList 0 (isKey_all h3) with ⟨h1,h2⟩ | ⟨j,e,h1,h2,h4⟩
 ·refine .inl ⟨keyAt_none.2 λ hm=>?_,MapKept.run_findKey hT h1⟩
  have:Value.int .i64 k∈es.toList.map (·.key):=by rw [h3]; exact List.mem_map.2 ⟨k,hm,rfl⟩
  obtain ⟨x,hx,e⟩:=List.mem_map.1 this
  exact h2 x hx e
 refine .inr ⟨j,e,keyAt_eq hn ?_,h2,h4,by rw [Nat.zero_add] at h1; exact MapKept.run_findKey hT h1⟩
 have:(es.toList.map (·.key))[j]? = some (.int .i64 k):=by rw [List.getElem?_map,h2]; simp [h4]
 rw [h3,List.getElem?_map] at this
 cases hk:ks[j]? with
 | none=>rw [hk] at this; cases this
 | some k'=>rw [hk] at this; simp at this; rw [this]
theorem run_lookup {T Kt E:TypeId} {z:Value} {k:Int} (h:MapAt w b ks vs) (ht:P.underlying T=some (.map Kt E)) (hk:P.underlying Kt=some (.int .i64)) (hz:ZeroT P E z) :
  (Instr.lookup T (.map (some b)) (.int .i64 k) false).run P w = .ok ((look ks vs k).getD z) w:=by
 have hn:=h.nodup
 obtain ⟨es,c,h1,h2,h3,h4⟩:=h
 have hz':(zeroValue E).run P w = .ok z w:=by
  unfold ZeroT zeroFact at hz
  cases hi:P.info? E with
  | none=>rw [hi] at hz; cases hz
  | some i=>
   rw [hi] at hz
   simp only [Option.map_some,Option.some.injEq] at hz
   refine run_of_pr ?_ w
   unfold zeroValue; rw [pr_bind,pr_typeInfo hi]; simp only [Option.bind_some,hz]; rfl
 have hc:=MapKept.run_checkKey (P:=P) (w:=w) (kt:=Kt) (k:=.int .i64 k) hk (by simp [IsKey]) es.isEmpty 9999
 rcases find_key (w:=w) (k:=k) hk hn h3 with ⟨h5,h6⟩ | ⟨j,e,h5,h6,h7,h8⟩
 ·simp [Instr.lookup,run_underlying ht,MapKept.run_getObj_map h1,hc,h6,hz',Result.andThen,look,h5]
 have:vs[j]? = some e.val:=by rw [<- h4,List.getElem?_map,h6]; rfl
 simp [Instr.lookup,run_underlying ht,MapKept.run_getObj_map h1,hc,h8,Result.andThen,look,h5,this]
theorem setBlock_eq (o:Obj) (hb:b<w.heap.size):(setBlock w b o).heap[b]? = some o:=by simp [setBlock,hb]
theorem Chg.setBlock (w:World) (b:Nat) (o:Obj):Chg (· = b) w (setBlock w b o):=
 ⟨rfl,rfl,rfl,by simp [ChangeMaps.setBlock],λ k _ hn=>by simp only [ChangeMaps.setBlock]; rw [Array.getElem?_setIfInBounds_ne (λ h=>hn h.symm)]⟩
theorem run_setMap {es:Array MapEntry} {clock:Nat} {o:Obj} (h1:w.heap[b]? = some (.map es clock)):(setObj b o).run P w = .ok () (setBlock w b o):=by
 simp [setObj,Sem.run,h1,setBlock]
theorem run_put {T Kt E:TypeId} {v:Value} {k:Int} (h:MapAt w b ks vs) (ht:P.underlying T=some (.map Kt E)) (hk:P.underlying Kt=some (.int .i64)) :
  ∃ w',(Instr.mapUpdate T (.map (some b)) (.int .i64 k) v).run P w = .ok () w'/\Chg (· = b) w w'/\
   (match keyAt ks k with | some j=>MapAt w' b ks (vs.set j v) | none=>MapAt w' b (ks++[k]) (vs++[v])):=by
 have hn:=h.nodup
 have hlt:=h.lt
 obtain ⟨es,c,h1,h2,h3,h4⟩:=h
 have hc:=MapKept.run_checkKey (P:=P) (w:=w) (kt:=Kt) (k:=.int .i64 k) hk (by simp [IsKey]) false 9999
 rcases find_key (w:=w) (k:=k) hk hn h3 with ⟨h5,h6⟩ | ⟨j,e,h5,h6,h7,h8⟩
 ·refine ⟨_,?_,Chg.setBlock w b (.map (es.push ⟨.int .i64 k,v,c⟩) (c+1)),?_⟩
  ·simp [Instr.mapUpdate,run_underlying ht,MapKept.run_getObj_map h1,hc,h6,run_setMap h1,Result.andThen]
  rw [h5]
  refine ⟨_,_,setBlock_eq _ hlt,MapKept.stamped_push h2 λ x hx e=>?_,by simp [h3],by simp [h4]⟩
  have:x.key∈es.toList.map (·.key):=List.mem_map.2 ⟨x,hx,rfl⟩
  rw [h3,e] at this
  obtain ⟨k',hk',e'⟩:=List.mem_map.1 this
  simp at e'
  exact keyAt_none.1 h5 (e'▸hk')
 have hes:es[j]? = some e:=by rw [<- Array.getElem?_toList]; exact h6
 have hst:(Instr.keyThatStays e.key (.int .i64 k)).run P w = .ok (.int .i64 k) w:=by
  rw [h7]; unfold Instr.keyThatStays; simp [Instr.sameBits]
 refine ⟨_,?_,Chg.setBlock w b (.map (es.modify j λ e=>{e with key:=.int .i64 k,val:=v}) c),?_⟩
 ·simp [Instr.mapUpdate,run_underlying ht,MapKept.run_getObj_map h1,hc,h8,run_setMap h1,Result.andThen,hes,hst]
 rw [h5]
 have hk':∀ e',es[j]? = some e'->({e' with key:=.int .i64 k,val:=v}:MapEntry).key=e'.key:=λ e' he'=>by
  rw [hes] at he'; cases he'; exact h7.symm
 refine ⟨_,_,setBlock_eq _ hlt,MapKept.stamped_modify h2 j _ (λ _ _=>rfl) (λ e' _ he'=>hk' e' he'),?_,?_⟩
 ·rw [MapKept.modify_keys j _ hk',h3]
 rw [<- h4]
 apply List.ext_getElem?
 intro i
 simp only [List.getElem?_map,Array.getElem?_toList,Array.getElem?_modify,List.getElem?_set]
 by_cases hij:j=i
 ·subst hij; rw [hes]; have:=(Array.getElem?_eq_some_iff.1 hes).1; simp [this]
 simp [hij]
theorem run_del {T Kt E R:TypeId} {A2:Array TypeId} {k:Int} (h:MapAt w b ks vs) (ha:A2[0]? = some T) (ht:P.underlying T=some (.map Kt E)) (hk:P.underlying Kt=some (.int .i64)) :
  ∃ w',(Builtin.delete_ A2 R [.map (some b),.int .i64 k].toArray).run P w = .ok (.tuple #[]) w'/\Chg (· = b) w w'/\
   (match keyAt ks k with | some j=>MapAt w' b (ks.eraseIdx j) (vs.eraseIdx j) | none=>MapAt w' b ks vs):=by
 have hn:=h.nodup
 have hlt:=h.lt
 obtain ⟨es,c,h1,h2,h3,h4⟩:=h
 have hc:=MapKept.run_checkKey (P:=P) (w:=w) (kt:=Kt) (k:=.int .i64 k) hk (by simp [IsKey]) es.isEmpty 9999
 rcases find_key (w:=w) (k:=k) hk hn h3 with ⟨h5,h6⟩ | ⟨j,e,h5,h6,h7,h8⟩
 ·refine ⟨_,?_,Chg.setBlock w b (.map es c),?_⟩
  ·simp [Builtin.delete_,ha,run_underlying ht,MapKept.run_getObj_map h1,hc,h6,run_setMap h1,Result.andThen]
  rw [h5]
  exact ⟨_,_,setBlock_eq _ hlt,h2,h3,h4⟩
 have hj:j<es.size:=by have:=(List.getElem?_eq_some_iff.1 h6).1; simpa using this
 refine ⟨_,?_,Chg.setBlock w b (.map (es.eraseIdxIfInBounds j) c),?_⟩
 ·simp [Builtin.delete_,ha,run_underlying ht,MapKept.run_getObj_map h1,hc,h8,run_setMap h1,Result.andThen]
 rw [h5]
 have he:(es.eraseIdxIfInBounds j).toList=es.toList.eraseIdx j:=by
  unfold Array.eraseIdxIfInBounds; rw [dif_pos hj]; simp
 refine ⟨_,_,setBlock_eq _ hlt,MapKept.stamped_erase h2 j,?_,?_⟩
 ·rw [he,ChangeMaps.map_eraseIdx,h3,ChangeMaps.map_eraseIdx]
 rw [he,ChangeMaps.map_eraseIdx,h4]
theorem eop_makeMap {T:TypeId} {K:Value->World->Prop} (hs:St w0 A L w) (k:∀ b w',St w0 A (mapB b [] []::L) w'->K (.map (some b)) w'):Eop P (Instr.makeMap T none) w K:=
 ⟨_,_,rfl,k _ _ (hs.new (Ext.push w (.map #[] 0)) (F:=λ k=>k=w.heap.size) ⟨⟨#[],0,push_new _ _,MapKept.stamped_empty 0,rfl,rfl⟩,λ _=>Iff.rfl⟩ λ b hb=>by rw [hb]; exact Nat.le_refl _)⟩
theorem St.mapAt (hs:St w0 A (mapB b ks vs::L) w):MapAt w b ks vs:=by obtain ⟨F,h,_⟩:=hs.head; exact h.1
end
section
variable {α:Type} [Flat α] {P:Program} {w w0 w':World} {A:Nat->Prop} {L:List HP} {b:Nat} {f:Int->List α}
abbrev rowO (s:SV) (x:List α):HP:=ownL (Flat.val s) x
def pendO (b:Nat) (f:Int->List α):HP:=exH λ ks=>exH λ ss:List SV=>exH λ xss:List (List α)=>fact (f=λ k=>(look ks xss k).getD []) (sep (mapB b ks (ss.map Flat.val)) (rowsP rowO ss xss))
def PendR (w:World) (b:Nat) (f:Int->List α):Prop:=∃ ks,∃ ss:List SV,MapAt w b ks (ss.map Flat.val)/\(∀ (i:Nat) (k:Int) (s:SV),ks[i]? = some k->ss[i]? = some s->RdL (λ _=>True) w (Flat.val s) (f k))/\∀ k,k ∉ ks->f k=[]
theorem PendR.ext (h:PendR w b f) (e:Ext w w'):PendR w' b f:=by
 obtain ⟨ks,ss,h1,h2,h3⟩:=h; exact ⟨ks,ss,h1.ext e,λ i k s a c=>(h2 i k s a c).ext e,h3⟩
theorem look_at {β:Type} {ks:List Int} {xs:List β} {k:Int} {i:Nat} {x:β} (hn:ks.Nodup) (h1:ks[i]? = some k) (h2:xs[i]? = some x):look ks xs k=some x:=by
 unfold look; rw [keyAt_eq hn h1]; exact h2
theorem look_none {β:Type} {ks:List Int} {xs:List β} {k:Int} (h:k ∉ ks):look ks xs k=none:=by unfold look; rw [keyAt_none.2 h]; rfl
theorem pendO.rd {F:Nat->Prop} (h:(pendO b f).p w F):PendR w b f:=by
 obtain ⟨ks,ss,xss,hf,F1,F2,h1,h2,_,_⟩:=h
 refine ⟨ks,ss,h1.1,λ i k s hk hs=>?_,λ k hk=>by rw [hf]; dsimp only; rw [look_none hk]; rfl⟩
 have hl:=rowsP_len h2
 have hi:i<xss.length:=by have:=(List.getElem?_eq_some_iff.1 hs).1; omega
 have hx:xss[i]? = some xss[i]:=List.getElem?_eq_getElem hi
 have hst:St w F2 [rowsP rowO ss xss] w:=St.begin h2
 have:=hst.rowP hs hx (Φ:=λ w=>RdL (λ _=>True) w (Flat.val s) xss[i]) λ h=>(ownL.rd h).mono λ _ _=>trivial
 rw [hf]; dsimp only
 rw [look_at h1.1.nodup hk hx]; exact this
theorem St.pendR (hs:St w0 A (pendO b f::L) w):PendR w b f:=by obtain ⟨F,h,_⟩:=hs.head; exact pendO.rd h
theorem PendR.look {T Kt E:TypeId} {k:Int} (h:PendR w b f) (ht:P.underlying T=some (.map Kt E)) (hk:P.underlying Kt=some (.int .i64)) (hz:ZeroT P E (.slice none 0 0)) :
  ∃ s:SV,(Instr.lookup T (.map (some b)) (.int .i64 k) false).run P w = .ok (Flat.val s) w/\RdL (λ _=>True) w (Flat.val s) (f k):=by
 obtain ⟨ks,ss,h1,h2,h3⟩:=h
 have hr:=run_lookup (P:=P) (k:=k) h1 ht hk hz
 cases hkk:keyAt ks k with
 | none=>
  have:Fw.look ks (ss.map Flat.val) k=none:=by unfold Fw.look; rw [hkk]; rfl
  rw [this] at hr
  exact ⟨⟨none,0,0⟩,hr,by rw [h3 k (keyAt_none.1 hkk)]; exact RdL.nil _ _⟩
 | some j=>
  have hj:=keyAt_some hkk
  have hl:=h1.len
  have hjs:j<ss.length:=by have:=(List.getElem?_eq_some_iff.1 hj).1; simp at hl; omega
  have hsj:ss[j]? = some ss[j]:=List.getElem?_eq_getElem hjs
  have:Fw.look ks (ss.map Flat.val) k=some (Flat.val ss[j]):=by unfold Fw.look; rw [hkk]; simp [hsj]
  rw [this] at hr
  exact ⟨_,hr,h2 j k _ hj hsj⟩
theorem PendR.lookB {T Kt E:TypeId} {k:Int} (h:PendR w0 b f) (ht:P.underlying T=some (.map Kt E)) (hk:P.underlying Kt=some (.int .i64)) (hz:ZeroT P E (.slice none 0 0)) :
  ∃ s:SV,(∀ w,Ext w0 w->(Instr.lookup T (.map (some b)) (.int .i64 k) false).run P w = .ok (Flat.val s) w)/\RdL (λ _=>True) w0 (Flat.val s) (f k):=by
 obtain ⟨ks,ss,h1,h2,h3⟩:=h
 have hr:∀ w,Ext w0 w->_:=λ w e=>run_lookup (P:=P) (k:=k) (h1.ext e) ht hk hz
 cases hkk:keyAt ks k with
 | none=>
  have:Fw.look ks (ss.map Flat.val) k=none:=by unfold Fw.look; rw [hkk]; rfl
  rw [this] at hr
  exact ⟨⟨none,0,0⟩,hr,by rw [h3 k (keyAt_none.1 hkk)]; exact RdL.nil _ _⟩
 | some j=>
  have hj:=keyAt_some hkk
  have hl:=h1.len
  have hjs:j<ss.length:=by have:=(List.getElem?_eq_some_iff.1 hj).1; simp at hl; omega
  have hsj:ss[j]? = some ss[j]:=List.getElem?_eq_getElem hjs
  have:Fw.look ks (ss.map Flat.val) k=some (Flat.val ss[j]):=by unfold Fw.look; rw [hkk]; simp [hsj]
  rw [this] at hr
  exact ⟨_,hr,h2 j k _ hj hsj⟩
theorem qop_lookB {T Kt E:TypeId} {k:Int} {K:Value->Prop} (h:PendR w0 b f) (e:Ext w0 w) (ht:P.underlying T=some (.map Kt E)) (hk:P.underlying Kt=some (.int .i64)) (hz:ZeroT P E (.slice none 0 0))
  (kk:∀ s:SV,RdL (λ _=>True) w0 (Flat.val s) (f k)->K (Flat.val s)):Qop P (Instr.lookup T (.map (some b)) (.int .i64 k) false) w K:=by
 obtain ⟨s,h1,h2⟩:=h.lookB (P:=P) (k:=k) ht hk hz; exact ⟨_,h1 w e,kk s h2⟩
def pendX (b:Nat) (f:Int->List α) (k:Int) (s:SV):HP:=exH λ ks=>exH λ ss:List SV=>exH λ xss:List (List α)=>exH λ vs:List Value=>
 fact ((∀ k',k'≠k->f k'=(look ks xss k').getD [])/\look ks vs k=(keyAt ks k).map (λ _=>Flat.val s)/\(keyAt ks k=none->s=⟨none,0,0⟩)/\vs.length=ss.length/\∀ (i:Nat) (k':Int),ks[i]? = some k'->k'≠k->vs[i]? = (ss[i]?).map Flat.val) (sep (mapB b ks vs) (rowsP rowO ss xss))
theorem St.pendTake {k:Int} (hs:St w0 A (pendO b f::L) w):∃ s:SV,St w0 A (ownL (Flat.val s) (f k)::pendX b f k s::L) w:=by
 obtain ⟨ks,hs⟩:=hs.openEx; obtain ⟨ss,hs⟩:=hs.openEx; obtain ⟨xss,hs⟩:=hs.openEx; obtain ⟨hf,hs⟩:=hs.openF
 replace hs:=hs.split
 have hm:=hs.mapAt
 have hl:=hm.len
 have hl2:=hs.p1.rowsPLen
 have hn:=hm.nodup
 rw [List.length_map] at hl
 cases hkk:keyAt ks k with
 | none=>
  refine ⟨⟨none,0,0⟩,?_⟩
  have hx:look ks xss k=none:=by unfold look; rw [hkk]; rfl
  have e:f k=[]:=by rw [hf]; dsimp only; rw [hx]; rfl
  rw [e]
  refine (St.shutEx ks (St.shutEx ss (St.shutEx xss (St.shutEx (ss.map Flat.val) (St.shutF ⟨λ k' _=>by rw [hf],by unfold look; rw [hkk]; rfl,λ _=>rfl,by rw [List.length_map],λ i k' _ _=>by rw [List.getElem?_map]⟩ (St.join hs)))))).ownNil
 | some j=>
  have hj:=keyAt_some hkk
  have hjk:=(List.getElem?_eq_some_iff.1 hj).1
  have hsj:ss[j]? = some (ss[j]'(by omega)):=List.getElem?_eq_getElem _
  have hxj:xss[j]? = some (xss[j]'(by omega)):=List.getElem?_eq_getElem _
  refine ⟨ss[j]'(by omega),?_⟩
  have e:f k=xss[j]'(by omega):=by rw [hf]; dsimp only; rw [look_at hn hj hxj]; rfl
  rw [e]
  have h1:=(hs.p1.focus hsj hxj).p1
  have h2:=(h1.ownNil (α:=α)).p1
  have h3:St w0 A (rowO (⟨none,0,0⟩:SV) ([]:List α)::rowsX rowO ss xss j::_::_::L) w:=h2.p1
  have h4:=h3.unfocus' (by omega) hl2
  have h5:=h4.p2
  refine (St.shutEx ks (St.shutEx (ss.set j ⟨none,0,0⟩) (St.shutEx (xss.set j []) (St.shutEx (ss.map Flat.val) (St.shutF ⟨λ k' hk'=>?_,by unfold look; rw [hkk]; simp [hsj],λ h=>(by cases hkk.symm.trans h),(by simp),λ i k' hi hk'=>?_⟩ (St.join h5)))))).p1
  ·rw [hf]; dsimp only
   unfold look
   cases hq:keyAt ks k' with
   | none=>rfl
   | some i=>
    have:j≠i:=λ e=>hk' (by have:=keyAt_some hq; rw [<- e,hj] at this; exact (Option.some.inj this).symm)
    simp [this]
  ·rw [List.getElem?_map,List.getElem?_set_ne]
   rintro rfl
   rw [hj] at hi; exact hk' (Option.some.inj hi).symm
theorem St.pendXlook {T Kt E:TypeId} {k:Int} {s:SV} (hs:St w0 A (pendX b f k s::L) w) (ht:P.underlying T=some (.map Kt E)) (hk:P.underlying Kt=some (.int .i64)) (hz:ZeroT P E (.slice none 0 0)) :
  (Instr.lookup T (.map (some b)) (.int .i64 k) false).run P w = .ok (Flat.val s) w:=by
 obtain ⟨ks,hs⟩:=hs.openEx; obtain ⟨ss,hs⟩:=hs.openEx; obtain ⟨xss,hs⟩:=hs.openEx; obtain ⟨vs,hs⟩:=hs.openEx; obtain ⟨⟨_,h2,h3,_⟩,hs⟩:=hs.openF
 have:=run_lookup (P:=P) (k:=k) hs.split.mapAt ht hk hz
 rw [h2] at this
 cases hkk:keyAt ks k with
 | none=>rw [hkk] at this; rw [h3 hkk]; exact this
 | some j=>rw [hkk] at this; exact this
theorem St.pendBack {k:Int} {s:SV} {xs:List α} (hs:St w0 A (ownL (Flat.val s) xs::pendX b f k s::L) w):St w0 A (pendO b (updF f k xs)::L) w:=by
 replace hs:=hs.p1
 obtain ⟨ks,hs⟩:=hs.openEx; obtain ⟨ss,hs⟩:=hs.openEx; obtain ⟨xss,hs⟩:=hs.openEx; obtain ⟨vs,hs⟩:=hs.openEx; obtain ⟨⟨hf,h2,h3,hvs,hoth⟩,hs⟩:=hs.openF
 replace hs:=hs.split
 have hm:=hs.mapAt
 have hl:=hm.len
 have hn:=hm.nodup
 have hl2:=hs.p1.rowsPLen
 cases hkk:keyAt ks k with
 | none=>
  have hnk:=keyAt_none.1 hkk
  have hval:vs=ss.map Flat.val:=List.ext_getElem? λ i=>by
   cases hi:ks[i]? with
   | none=>rw [List.getElem?_eq_none_iff] at hi; rw [List.getElem?_eq_none (by omega),List.getElem?_eq_none (by rw [List.length_map]; omega)]
   | some k'=>rw [hoth i k' hi (λ e=>hnk (e▸List.mem_of_getElem? hi)),List.getElem?_map]
  have hx:xs=[]:=by
   obtain ⟨F,h,_⟩:=hs.p2.head
   rw [h3 hkk] at h
   rcases h with ⟨_,h,_⟩ | ⟨b',cap,rest,h,_⟩
   ·exact h
   ·cases h
  subst hx
  refine St.shutEx ks (St.shutEx ss (St.shutEx xss (St.shutF ?_ (St.join ?_))))
  ·funext k'
   unfold updF
   by_cases e:k'=k
   ·subst e; rw [if_pos rfl,look_none hnk]; rfl
   ·rw [if_neg e,hf k' e]
  ·rw [<- hval]; exact hs.p2.drop
 | some j=>
  have hj:=keyAt_some hkk
  have hjk:=(List.getElem?_eq_some_iff.1 hj).1
  have hsj:ss[j]? = some (ss[j]'(by omega)):=List.getElem?_eq_getElem _
  have hxj:xss[j]? = some (xss[j]'(by omega)):=List.getElem?_eq_getElem _
  have hvj:vs[j]? = some (Flat.val s):=by unfold look at h2; rw [hkk] at h2; exact h2
  have h6:=((hs.p1.focus hsj hxj).drop).p2
  have h7:St w0 A (rowO s xs::rowsX rowO ss xss j::_::L) w:=h6.p0
  have h8:=h7.unfocus' (by omega) hl2
  refine St.shutEx ks (St.shutEx (ss.set j s) (St.shutEx (xss.set j xs) (St.shutF ?_ (St.join ?_))))
  ·funext k'
   unfold updF
   by_cases e:k'=k
   ·subst e
    rw [if_pos rfl,look_at hn hj (x:=xs) (by rw [List.getElem?_set_self (by omega)])]; rfl
   ·rw [if_neg e,hf k' e]
    unfold look
    cases hq:keyAt ks k' with
    | none=>rfl
    | some i=>
     have:j≠i:=λ e'=>e (by have:=keyAt_some hq; rw [<- e',hj] at this; exact (Option.some.inj this).symm)
     simp [this]
  ·have e:(ss.set j s).map Flat.val=vs:=by
    apply List.ext_getElem?
    intro i
    rw [List.getElem?_map]
    by_cases e:j=i
    ·subst e; rw [List.getElem?_set_self (by omega),hvj]; rfl
    ·rw [List.getElem?_set_ne e]
     cases hi:ks[i]? with
     | none=>rw [List.getElem?_eq_none_iff] at hi; rw [List.getElem?_eq_none (show vs.length<=i by omega),List.getElem?_eq_none (show ss.length<=i by omega)]; rfl
     | some k'=>rw [hoth i k' hi (λ e'=>e (by rw [e'] at hi; have h1:=keyAt_eq hn hi; rw [hkk] at h1; exact Option.some.inj h1))]
   rw [e]; exact h8.p1
omit [Flat α] in
theorem updF_same {f:Int->List α} {k:Int}:updF f k (f k)=f:=by
 funext j; unfold updF; split
 ·rename_i h; rw [h]
 rfl
theorem uop_pendPut {T Kt E:TypeId} {k:Int} {s s':SV} {xs:List α} {K:World->Prop} (hs:St w0 A (ownL (Flat.val s') xs::pendX b f k s::L) w) (ht:P.underlying T=some (.map Kt E)) (hk:P.underlying Kt=some (.int .i64))
  (kk:∀ w',St w0 A (pendO b (updF f k xs)::L) w'->K w'):Uop P (Instr.mapUpdate T (.map (some b)) (.int .i64 k) (Flat.val s')) w K:=by
 replace hs:=hs.p1
 obtain ⟨ks,hs⟩:=hs.openEx; obtain ⟨ss,hs⟩:=hs.openEx; obtain ⟨xss,hs⟩:=hs.openEx; obtain ⟨vs,hs⟩:=hs.openEx; obtain ⟨⟨hf,h2,h3,hvs,hoth⟩,hs⟩:=hs.openF
 replace hs:=hs.split
 have hm:=hs.mapAt
 have hl:=hm.len
 have hn:=hm.nodup
 have hl2:=hs.p1.rowsPLen
 obtain ⟨w',r1,r2,r3⟩:=run_put (P:=P) (v:=Flat.val s') (k:=k) hm ht hk
 refine ⟨w',r1,kk w' ?_⟩
 cases hkk:keyAt ks k with
 | none=>
  rw [hkk] at r3
  have h5:St w0 A (mapB b (ks++[k]) (vs++[Flat.val s'])::_::_::L) w':=hs.turn λ F hF=>⟨F,⟨r3,hF.2⟩,λ b hb=>.inl hb,r2.mono λ k hk=>(hF.2 k).2 hk⟩
  have hnk:=keyAt_none.1 hkk
  have hval:vs=ss.map Flat.val:=List.ext_getElem? λ i=>by
   cases hi:ks[i]? with
   | none=>rw [List.getElem?_eq_none_iff] at hi; rw [List.getElem?_eq_none (by omega),List.getElem?_eq_none (by rw [List.length_map]; omega)]
   | some k'=>rw [hoth i k' hi (λ e=>hnk (e▸List.mem_of_getElem? hi)),List.getElem?_map]
  have h6:=h5.p1
  have h7:St w0 A (rowsP rowO (ss++[s']) (xss++[xs])::_::L) w':=St.rowsPAdd (H:=rowO (α:=α)) (p:=s') (x:=xs) h6.p2.p1
  refine St.shutEx (ks++[k]) (St.shutEx (ss++[s']) (St.shutEx (xss++[xs]) (St.shutF ?_ (St.join ?_))))
  ·funext k'
   unfold updF
   by_cases e:k'=k
   ·subst e
    rw [if_pos rfl,look_at (i:=ks.length) r3.nodup (by simp) (x:=xs) (by rw [List.getElem?_append_right (by omega)]; simp [show ks.length - xss.length=0 from by omega])]; rfl
   ·rw [if_neg e,hf k' e]
    by_cases hin:k'∈ks
    ·obtain ⟨i,hi,hik⟩:=List.getElem_of_mem hin
     have hki:ks[i]? = some k':=by rw [List.getElem?_eq_getElem hi,hik]
     have hxi:xss[i]? = some (xss[i]'(by omega)):=List.getElem?_eq_getElem _
     rw [look_at hn hki hxi,look_at (i:=i) r3.nodup (by rw [List.getElem?_append_left hi]; exact hki) (by rw [List.getElem?_append_left (by omega)]; exact hxi)]
    ·rw [look_none hin,look_none (by simp [hin,e])]
  ·have e:(ss++[s']).map Flat.val=vs++[Flat.val s']:=by rw [hval,List.map_append]; rfl
   rw [e]; exact h7.p1
 | some j=>
  rw [hkk] at r3
  have h5:St w0 A (mapB b ks (vs.set j (Flat.val s'))::_::_::L) w':=hs.turn λ F hF=>⟨F,⟨r3,hF.2⟩,λ b hb=>.inl hb,r2.mono λ k hk=>(hF.2 k).2 hk⟩
  have hj:=keyAt_some hkk
  have hjk:=(List.getElem?_eq_some_iff.1 hj).1
  have hsj:ss[j]? = some (ss[j]'(by omega)):=List.getElem?_eq_getElem _
  have hxj:xss[j]? = some (xss[j]'(by omega)):=List.getElem?_eq_getElem _
  have h6:=((h5.p1.focus hsj hxj).drop).p2
  have h7:St w0 A (rowO s' xs::rowsX rowO ss xss j::_::L) w':=h6.p0
  have h8:=h7.unfocus' (by omega) hl2
  refine St.shutEx ks (St.shutEx (ss.set j s') (St.shutEx (xss.set j xs) (St.shutF ?_ (St.join ?_))))
  ·funext k'
   unfold updF
   by_cases e:k'=k
   ·subst e
    rw [if_pos rfl,look_at hn hj (x:=xs) (by rw [List.getElem?_set_self (by omega)])]; rfl
   ·rw [if_neg e,hf k' e]
    unfold look
    cases hq:keyAt ks k' with
    | none=>rfl
    | some i=>
     have:j≠i:=λ e'=>e (by have:=keyAt_some hq; rw [<- e',hj] at this; exact (Option.some.inj this).symm)
     simp [this]
  ·have e:(ss.set j s').map Flat.val=vs.set j (Flat.val s'):=by
    apply List.ext_getElem?
    intro i
    rw [List.getElem?_map]
    by_cases e:j=i
    ·subst e; rw [List.getElem?_set_self (by omega),List.getElem?_set_self (by omega)]; rfl
    ·rw [List.getElem?_set_ne e,List.getElem?_set_ne e]
     cases hi:ks[i]? with
     | none=>rw [List.getElem?_eq_none_iff] at hi; rw [List.getElem?_eq_none (show vs.length<=i by omega),List.getElem?_eq_none (show ss.length<=i by omega)]; rfl
     | some k'=>rw [hoth i k' hi (λ e'=>e (by rw [e'] at hi; have h1:=keyAt_eq hn hi; rw [hkk] at h1; exact Option.some.inj h1))]
   rw [e]; exact h8.p1
theorem eop_pendMake {T:TypeId} {K:Value->World->Prop} (hs:St w0 A L w) (k:∀ b w',St w0 A (pendO b (λ _=>([]:List α))::L) w'->K (.map (some b)) w'):Eop P (Instr.makeMap T none) w K:=
 eop_makeMap hs λ b w' h=>k b w' (St.shutEx [] (St.shutEx [] (St.shutEx ([]:List (List α)) (St.shutF rfl (St.join ((h.new (Ext.refl w') (H:=rowsP rowO [] []) (F:=none1) (λ _ h=>h) λ _ h=>h.elim).p1))))))
theorem eop_pendDel {T Kt E R:TypeId} {k:Int} {A2:Array TypeId} {K:Value->World->Prop} (hs:St w0 A (pendO b f::L) w) (ha:A2[0]? = some T) (ht:P.underlying T=some (.map Kt E)) (hk:P.underlying Kt=some (.int .i64))
  (kk:∀ v w',St w0 A (pendO b (updF f k [])::L) w'->K v w'):Eop P (Builtin.delete_ A2 R [.map (some b),.int .i64 k].toArray) w K:=by
 obtain ⟨ks,hs⟩:=hs.openEx; obtain ⟨ss,hs⟩:=hs.openEx; obtain ⟨xss,hs⟩:=hs.openEx; obtain ⟨hf,hs⟩:=hs.openF
 replace hs:=hs.split
 have hm:=hs.mapAt
 have hl:=hm.len
 have hl2:=hs.p1.rowsPLen
 have hn:=hm.nodup
 rw [List.length_map] at hl
 obtain ⟨w',r1,r2,r3⟩:=run_del (P:=P) (R:=R) (k:=k) hm ha ht hk
 refine ⟨_,w',r1,kk _ w' ?_⟩
 cases hkk:keyAt ks k with
 | none=>
  rw [hkk] at r3
  have h5:St w0 A (mapB b ks (ss.map Flat.val)::_::L) w':=hs.turn λ F hF=>⟨F,⟨r3,hF.2⟩,λ b hb=>.inl hb,r2.mono λ k hk=>(hF.2 k).2 hk⟩
  refine St.shutEx ks (St.shutEx ss (St.shutEx xss (St.shutF ?_ (St.join h5))))
  funext k'
  unfold updF
  by_cases e:k'=k
  ·subst e; rw [if_pos rfl]; unfold look; rw [hkk]; rfl
  ·rw [if_neg e,hf]
 | some j=>
  rw [hkk] at r3
  have hj:=keyAt_some hkk
  have hjk:=(List.getElem?_eq_some_iff.1 hj).1
  have h5:St w0 A (mapB b (ks.eraseIdx j) ((ss.map Flat.val).eraseIdx j)::_::L) w':=hs.turn λ F hF=>⟨F,⟨r3,hF.2⟩,λ b hb=>.inl hb,r2.mono λ k hk=>(hF.2 k).2 hk⟩
  have hsj:ss[j]? = some (ss[j]'(by omega)):=List.getElem?_eq_getElem _
  have hxj:xss[j]? = some (xss[j]'(by omega)):=List.getElem?_eq_getElem _
  have h6:=(h5.p1.focus hsj hxj).drop.rowsErase
  dsimp only at r3
  rw [<- ChangeMaps.map_eraseIdx] at h6 r3
  refine St.shutEx (ks.eraseIdx j) (St.shutEx (ss.eraseIdx j) (St.shutEx (xss.eraseIdx j) (St.shutF ?_ (St.join h6.p1))))
  funext k'
  unfold updF
  by_cases e:k'=k
  ·subst e
   rw [if_pos rfl,look_none]; rfl
   intro hmem
   obtain ⟨i,hi,hik⟩:=List.getElem_of_mem hmem
   rw [List.getElem_eraseIdx] at hik
   split at hik
   ·have:=keyAt_eq (j:=i) hn (k:=k') (by rw [<- hik]; exact List.getElem?_eq_getElem _); rw [hkk] at this; have:=Option.some.inj this; omega
   ·have:=keyAt_eq (j:=i+1) hn (k:=k') (by rw [<- hik]; exact List.getElem?_eq_getElem _); rw [hkk] at this; have:=Option.some.inj this; omega
  ·rw [if_neg e,hf]; dsimp only
   by_cases hin:k'∈ks
   ·obtain ⟨i,hi,hik⟩:=List.getElem_of_mem hin
    have hki:ks[i]? = some k':=by rw [List.getElem?_eq_getElem hi,hik]
    have hxi:xss[i]? = some (xss[i]'(by omega)):=List.getElem?_eq_getElem _
    have hij:i≠j:=λ e'=>e (by rw [e',hj] at hki; exact (Option.some.inj hki).symm)
    rw [look_at hn hki hxi]
    by_cases hlt:i<j
    ·rw [look_at (i:=i) r3.nodup (by rw [List.getElem?_eraseIdx_of_lt hlt]; exact hki) (by rw [List.getElem?_eraseIdx_of_lt hlt]; exact hxi)]
    ·rw [look_at (i:=i - 1) r3.nodup (by rw [List.getElem?_eraseIdx_of_ge (by omega),show i - 1+1=i from by omega]; exact hki) (by rw [List.getElem?_eraseIdx_of_ge (by omega),show i - 1+1=i from by omega]; exact hxi)]
   ·rw [look_none hin,look_none (λ h=>hin ((List.eraseIdx_sublist ks j).subset h))]
end
section
variable {α:Type} [Flat α] {P:Program} {w w0 w':World} {A S:Nat->Prop} {L:List HP} {xs ys:List α}
theorem run_copyTo {T T2 E by' b o dn dc:Nat} {z:Option Nat} {R:TypeId} {src:Value} {cs:List Value} (ht:slFact P T=some (E,Flat.sz α,by',z)) (hb:Blk w b cs) (hsrc:RdL S w src ys)
  (hn:ys.length<=dn) (hfit:o+ys.length * Flat.sz α<=cs.length) :
  ∃ w',(Builtin.copy_ #[T,T2] R [.slice (some ⟨b,o,none⟩) dn dc,src].toArray).run P w = .ok (.int .i64 ys.length) w'/\Blk w' b (setAll cs o (flat ys))/\Chg (· = b) w w':=by
 obtain ⟨hu,inf,hi,hsz,hbytes,_⟩:=slFact_spec ht
 have hf:=run_first (α:=α) (P:=P) (sz:=Flat.sz α) rfl hsrc
 have rd:=hsrc
 obtain ⟨sa,scap,rfl,hsc,hs3⟩:=rd
 obtain ⟨w',h1,h2,h3⟩:=run_storeRow (P:=P) (o:=o) (flat ys) 0 cs w hb (by rw [flat_length]; omega) flat_one
 refine ⟨w',?_,by simpa using h2,h3⟩
 simp [Builtin.copy_,run_underlying hu,sizeOf,typeInfo,hi,Builtin.lenOf,Nat.min_eq_left hn,hf,hsz,h1,goInt]
theorem eop_copy {T T2 E by':Nat} {z:Option Nat} {R:TypeId} {v src:Value} {K:Value->World->Prop} (hs:St w0 A (ownL v xs::L) w) (ht:slFact P T=some (E,Flat.sz α,by',z)) (hsrc:RdL S w src ys) (hn:ys.length<=xs.length)
  (k:∀ w',St w0 A (ownL v (ys++xs.drop ys.length)::L) w'->K (.int .i64 ys.length) w'):Eop P (Builtin.copy_ #[T,T2] R [v,src].toArray) w K:=by
 obtain ⟨U,F,U',g1,g2,g3,g4,g5⟩:=hs.seps
 rcases g1 with ⟨rfl,rfl,hF⟩ | ⟨b,cap,rest,rfl,hb,hl,hF⟩
 ·obtain rfl:ys=[]:=by simpa using hn
  obtain ⟨hu,inf,hi,hsz,hbytes,_⟩:=slFact_spec ht
  have hf:=run_first (α:=α) (P:=P) (sz:=Flat.sz α) rfl hsrc
  obtain ⟨sa,scap,rfl,hsc,hs3⟩:=hsrc
  refine ⟨_,w,?_,k w hs⟩
  simp at hf
  simp [Builtin.copy_,run_underlying hu,sizeOf,typeInfo,hi,Builtin.lenOf,hsz,hf,goInt]
 have hle:ys.length * Flat.sz α<=xs.length * Flat.sz α:=Nat.mul_le_mul_right _ hn
 obtain ⟨w',h1,h2,h3⟩:=run_copyTo (P:=P) (o:=0) (dn:=xs.length) (dc:=cap) (T2:=T2) (R:=R) ht hb hsrc hn (by rw [List.length_append,flat_length]; omega)
 refine ⟨_,w',h1,k w' (hs.turn λ F' hF'=>?_)⟩
 rcases hF' with ⟨h,_⟩ | ⟨b',cap',rest',hv,hb',hl',hF'⟩
 ·cases h
 simp only [Value.slice.injEq,Option.some.injEq,Addr.mk.injEq,and_true,true_and] at hv
 obtain ⟨rfl,rfl⟩:=hv
 refine ⟨F',.inr ⟨b,cap,rest,?_,?_,?_,hF'⟩,λ b hb=>.inl hb,h3.mono λ k hk=>(hF' k).2 hk⟩
 ·congr 1; rw [List.length_append,List.length_drop]; omega
 ·have e:flat xs=[]++flat (xs.take ys.length)++flat (xs.drop ys.length):=by rw [List.nil_append,<- flat_append,List.take_append_drop]
  have:=setAll_mid [] (flat (xs.take ys.length)) (flat (xs.drop ys.length)++rest) (flat ys) (by rw [flat_length,flat_length,List.length_take,Nat.min_eq_left hn])
  rw [List.length_nil] at this
  rw [e,List.append_assoc,this] at h2
  rw [flat_append,List.append_assoc]; exact h2
 have e3:(ys++xs.drop ys.length).length=xs.length:=by rw [List.length_append,List.length_drop]; omega
 exact ⟨by rw [e3]; exact hl.1,by have:=hl.2; rw [List.length_append,flat_length] at this |-; rw [e3]; exact this⟩
end
section
variable {P:Program} {w w0 w':World} {A:Nat->Prop} {L:List HP} {b r:Nat}
def iterB (r m since:Nat) (seen:Array Nat):HP where
 p w F:=w.heap[r]? = some (.mapIter (some m) since seen since)/\∀ k,F k↔k=r
 loc w w' F h hh:=⟨(hh r ((h.2 r).2 rfl)).trans h.1,h.2⟩
 lt w F b' h hb:=by rw [(h.2 b').1 hb]; exact lt_of_heap h.1
theorem eop_range {T Kt E:TypeId} {es:Array MapEntry} {clock:Nat} {K:Value->World->Prop} (hs:St w0 A L w) (ht:P.underlying T=some (.map Kt E)) (hb:w.heap[b]? = some (.map es clock))
  (k:∀ r w',St w0 A (iterB r b clock #[]::L) w'->K (.pointer (some ⟨r,0,none⟩)) w'):Eop P (Instr.range T (.map (some b))) w K:=
 ⟨_,_,run_range_map w T Kt E b es clock ht hb,k _ _ (hs.new (Ext.push w _) (F:=λ k=>k=w.heap.size) ⟨push_new _ _,λ _=>Iff.rfl⟩ λ b hb=>by rw [hb]; exact Nat.le_refl _)⟩
theorem eop_next {T since:Nat} {seen:Array Nat} {es:Array MapEntry} {K:Value->World->Prop} (hs:St w0 A (iterB r b since seen::L) w) (hb:w.heap[b]? = some (.map es since)) (hold:∀ x∈es.toList,x.born<since)
  (k0:(leftOf es seen).size=0->K (.tuple #[.bool false]) w)
  (k1:∀ e w',e∈(leftOf es seen).toList->St w0 A (iterB r b since (seen.push e.born)::L) w'->K (.tuple #[.bool true,e.key,e.val]) w'):Eop P (Instr.next (.pointer (some ⟨r,0,none⟩)) false T) w K:=by
 obtain ⟨F,h,_⟩:=hs.head
 rcases run_next_at (P:=P) w T r b since since seen es since h.1 hb hold (Nat.le_refl _) with ⟨h1,h2⟩ | ⟨e,he,w1,hw,h2⟩
 ·exact ⟨_,w,h2,k0 h1⟩
 have e1:St w0 A (iterB r b since seen::L) w1:=by
  rcases hw with rfl | rfl
  ·exact hs
  ·exact hs.ext ⟨rfl,rfl,rfl,Nat.le_refl _,λ _ _ _=>rfl⟩
 refine ⟨_,_,h2,k1 e _ he (e1.turn λ F hF=>⟨F,⟨setBlock_eq _ (lt_of_heap hF.1),hF.2⟩,λ b hb=>.inl hb,(Chg.setBlock w1 r _).mono λ k hk=>(hF.2 k).2 hk⟩)⟩
theorem qop_entry {since:Nat} {seen:Array Nat} {es:Array MapEntry} {e:MapEntry} {K:Value->Prop} (hs:St w0 A (iterB r b since (seen.push e.born)::L) w) (hb:w.heap[b]? = some (.map es since)) (he:e∈es.toList) (hn:(es.toList.map (·.born)).Nodup)
  (k:K (.tuple #[e.key,e.val])):Qop P (Instr.entry (.pointer (some ⟨r,0,none⟩))) w K:=by
 obtain ⟨F,h,_⟩:=hs.head
 exact ⟨_,run_entry_at w r b since seen es since e h.1 hb he hn,k⟩
theorem heap_ext {o:Obj} (h:w.heap[b]? = some o) (e:Ext w w'):w'.heap[b]? = some o:=(e.blk b (lt_of_heap h) λ h=>h).trans h
theorem contains_pushI {seen:Array Nat} {x y:Nat} (h:(seen.push x).contains y=true):seen.contains y=true\/y=x:=by
 simp at h |-; exact h
theorem born_inj {es:Array MapEntry} (hn:(es.toList.map (·.born)).Nodup) {e e':MapEntry} (h:e∈es.toList) (h':e'∈es.toList) (hb:e.born=e'.born):e=e':=by
 obtain ⟨i,hi,rfl⟩:=List.getElem_of_mem h
 obtain ⟨j,hj,rfl⟩:=List.getElem_of_mem h'
 have:=(List.getElem_inj (i:=i) (j:=j) (h₀:=by simpa using hi) (h₁:=by simpa using hj) hn).1 (by simpa using hb)
 subst this; rfl
end
section
variable {P:Program} {w w0 w':World} {A:Nat->Prop} {L:List HP} {b r:Nat}
theorem callMut2 {f:FuncId} {args:List Value} {H:HP} {H':Value->HP} {Φ:Value->World->Prop} {K:Value->World->Prop} (pl:Plain P f) (hs:St w0 A (H::L) w)
  (hc:∀ F,H.p w F->(∀ w',Chg F w w'->St w0 A L w')->Calls P f args.toArray w (Ret λ v w'=>Φ v w'/\Mut F (H' v) w w')) (k:∀ v w',Φ v w'->St w0 A (H' v::L) w'->K v w'):CallF P f args w K:=by
 obtain ⟨U,F,U',h1,h2,h3,h4,h5⟩:=hs.seps
 refine callF pl (hc F h1 λ w' hw=>⟨hs.chg.trans hw (λ _ h=>h) λ b hb hf=>(h2 b hf).elim id λ hh=>by omega,U',h5.loc λ b hb=>hw.blk b (h5.lt b hb) λ hf=>h3 b hf hb⟩) λ v w' ⟨hΦ,hM⟩=>k v w' hΦ (hs.muted h2 h3 h5 hM)
theorem callMutV {g:FuncId} {args first cap:List Value} {H:HP} {H':Value->HP} {Φ:Value->World->Prop} {K:Value->World->Prop} (pl:Plain P g) (hs:St w0 A (H::L) w)
  (hc:∀ F,H.p w F->(∀ w',Chg F w w'->St w0 A L w')->Calls P g (first++args++cap).toArray w (Ret λ v w'=>Φ v w'/\Mut F (H' v) w w')) (k:∀ v w',Φ v w'->St w0 A (H' v::L) w'->K v w'):CallV P (.func (.func g) first.toArray cap.toArray) args w K:=by
 obtain ⟨U,F,U',h1,h2,h3,h4,h5⟩:=hs.seps
 refine callV pl (hc F h1 λ w' hw=>⟨hs.chg.trans hw (λ _ h=>h) λ b hb hf=>(h2 b hf).elim id λ hh=>by omega,U',h5.loc λ b hb=>hw.blk b (h5.lt b hb) λ hf=>h3 b hf hb⟩) λ v w' ⟨hΦ,hM⟩=>k v w' hΦ (hs.muted h2 h3 h5 hM)
end
def Has (H:HP) (w:World):Prop:=∃ F,H.p w F
theorem St.has {w w0:World} {A:Nat->Prop} {L:List HP} {H:HP} (hs:St w0 A (H::L) w):Has H w:=by obtain ⟨F,h,_⟩:=hs.head; exact ⟨F,h⟩
theorem Has.ext {H:HP} {w w':World} (h:Has H w) (e:Ext w w'):Has H w':=by
 obtain ⟨F,h⟩:=h; exact ⟨F,H.loc _ _ _ h λ b hb=>e.blk b (H.lt _ _ _ h hb) λ x=>x⟩
theorem Has.st {H:HP} {w:World} (h:Has H w):∃ F,St w F [H] w:=by obtain ⟨F,h⟩:=h; exact ⟨F,St.begin h⟩
abbrev SI:=ByteArray × Int
def kvE (p:SI):Value × Value:=(.string p.1,.int .i64 p.2)
def MapP (w:World) (b:Nat) (l:List SI):Prop:=
 ∃ es clock,w.heap[b]? = some (.map es clock)/\Stamped es clock/\(es.toList.map λ e=>(e.key,e.val)).Perm (l.map kvE)
def lookS:List SI->ByteArray->Int
 | [],_=>0
 | p::r,k=>if p.1=k then p.2 else lookS r k
theorem lookS_mem:∀ {l:List SI} {p:SI},(l.map (·.1)).Nodup->p∈l->lookS l p.1=p.2
 | q::r,p,hn,hm=>by
  rw [List.map_cons,List.nodup_cons] at hn
  rcases List.mem_cons.1 hm with rfl | hm
  ·unfold lookS; rw [if_pos rfl]
  ·have:q.1≠p.1:=λ e=>hn.1 (List.mem_map.2 ⟨p,hm,e.symm⟩)
   unfold lookS; rw [if_neg this]; exact lookS_mem hn.2 hm
theorem lookS_none:∀ {l:List SI} {k:ByteArray},(∀ p∈l,p.1≠k)->lookS l k=0
 | [],_,_=>rfl
 | q::r,k,h=>by
  unfold lookS; rw [if_neg (h q (List.mem_cons_self ..))]; exact lookS_none λ p hp=>h p (List.mem_cons_of_mem _ hp)
theorem lookS_zero {l:List SI} {k:ByteArray} (hn:(l.map (·.1)).Nodup) (hz:∀ p∈l,p.2≠0) (h:lookS l k=0):∀ p∈l,p.1≠k:=λ p hp e=>by
 subst e; exact hz p hp ((lookS_mem hn hp).symm.trans h)
section
variable {P:Program} {w w0 w':World} {A:Nat->Prop} {L:List HP} {b:Nat} {l:List SI}
theorem MapP.of_eq (h:MapP w b l) (hh:w'.heap[b]? = w.heap[b]?):MapP w' b l:=by
 obtain ⟨es,c,h1,h2⟩:=h; exact ⟨es,c,hh.trans h1,h2⟩
theorem MapP.lt (h:MapP w b l):b<w.heap.size:=by obtain ⟨es,c,h1,_⟩:=h; exact lt_of_heap h1
theorem MapP.nodup (h:MapP w b l):(l.map (·.1)).Nodup:=by
 obtain ⟨es,c,_,h2,h3⟩:=h
 have h4:=(h3.map Prod.fst)
 rw [List.map_map,List.map_map] at h4
 have h5:(l.map λ p=>Value.string p.1).Nodup:=h4.nodup_iff.1 h2.2.2
 exact (List.pairwise_map.1 h5).imp (λ h e=>h (by rw [e])) |> λ h=>List.pairwise_map.2 h
theorem MapP.perm {l':List SI} (h:MapP w b l) (hp:l.Perm l'):MapP w b l':=by
 obtain ⟨es,c,h1,h2,h3⟩:=h; exact ⟨es,c,h1,h2,h3.trans (hp.map _)⟩
def mapP (b:Nat) (l:List SI):HP where
 p w F:=MapP w b l/\∀ k,F k↔k=b
 loc w w' F h hh:=⟨h.1.of_eq (hh b ((h.2 b).2 rfl)),h.2⟩
 lt w F b' h hb:=by rw [(h.2 b').1 hb]; exact h.1.lt
theorem entS {es:Array MapEntry} (h3:(es.toList.map λ e=>(e.key,e.val)).Perm (l.map kvE)) {e:MapEntry} (he:e∈es.toList):∃ p∈l,e.key = .string p.1/\e.val = .int .i64 p.2:=by
 have:(e.key,e.val)∈l.map kvE:=h3.mem_iff.1 (List.mem_map.2 ⟨e,he,rfl⟩)
 obtain ⟨p,hp,hk⟩:=List.mem_map.1 this
 unfold kvE at hk
 simp only [Prod.mk.injEq] at hk
 exact ⟨p,hp,hk.1.symm,hk.2.symm⟩
theorem entS' {es:Array MapEntry} (h3:(es.toList.map λ e=>(e.key,e.val)).Perm (l.map kvE)) {p:SI} (hp:p∈l):∃ e∈es.toList,e.key = .string p.1/\e.val = .int .i64 p.2:=by
 have:kvE p∈es.toList.map λ e=>(e.key,e.val):=h3.mem_iff.2 (List.mem_map.2 ⟨p,hp,rfl⟩)
 obtain ⟨e,he,hk⟩:=List.mem_map.1 this
 unfold kvE at hk
 simp only [Prod.mk.injEq] at hk
 exact ⟨e,he,hk⟩
theorem find_keyS {T:TypeId} {k:ByteArray} {es:Array MapEntry} (hT:P.underlying T=some .string) (h3:(es.toList.map λ e=>(e.key,e.val)).Perm (l.map kvE)) :
  ((∀ p∈l,p.1≠k)/\(Instr.findKey T (.string k) es.toList).run P w = .ok none w)\/∃ j p,p∈l/\p.1=k/\(Instr.findKey T (.string k) es.toList).run P w = .ok (some (j,.int .i64 p.2)) w:=by
 rcases MapKept.findNow_spec (d:=.string) (k:=.string k) (by simp [IsKey]) es.toList 0 (λ x hx=>by obtain ⟨p,_,e,_⟩:=entS h3 hx; rw [e]; simp [IsKey]) with ⟨h1,h2⟩ | ⟨j,e,h1,h2,h4⟩
 ·refine .inl ⟨λ p hp e=>?_,MapKept.run_findKey hT h1⟩
  obtain ⟨x,hx,e1,_⟩:=entS' h3 hp
  exact h2 x hx (by rw [e1,e])
 obtain ⟨p,hp,e1,e2⟩:=entS h3 (List.mem_of_getElem? h2)
 rw [h4] at e1; injection e1 with e1
 refine .inr ⟨j,p,hp,e1.symm,?_⟩
 rw [Nat.zero_add,e2] at h1
 exact MapKept.run_findKey hT h1
theorem run_lookupS {T Kt E:TypeId} {k:ByteArray} (h:MapP w b l) (ht:P.underlying T=some (.map Kt E)) (hk:P.underlying Kt=some .string) (hz:ZeroT P E (.int .i64 0)) :
  (Instr.lookup T (.map (some b)) (.string k) false).run P w = .ok (.int .i64 (lookS l k)) w:=by
 have hn:=h.nodup
 obtain ⟨es,c,h1,h2,h3⟩:=h
 have hz':(zeroValue E).run P w = .ok (.int .i64 0) w:=by
  unfold ZeroT zeroFact at hz
  cases hi:P.info? E with
  | none=>rw [hi] at hz; cases hz
  | some i=>
   rw [hi] at hz
   simp only [Option.map_some,Option.some.injEq] at hz
   refine run_of_pr ?_ w
   unfold zeroValue; rw [pr_bind,pr_typeInfo hi]; simp only [Option.bind_some,hz]; rfl
 have hc:=MapKept.run_checkKey (P:=P) (w:=w) (kt:=Kt) (k:=.string k) hk (by simp [IsKey]) es.isEmpty 9999
 rcases find_keyS (w:=w) (k:=k) hk h3 with ⟨h5,h6⟩ | ⟨j,p,h5,h6,h7⟩
 ·simp [Instr.lookup,run_underlying ht,MapKept.run_getObj_map h1,hc,h6,hz',Result.andThen,lookS_none h5]
 subst h6
 simp [Instr.lookup,run_underlying ht,MapKept.run_getObj_map h1,hc,h7,Result.andThen,lookS_mem hn h5]
theorem run_putS {T Kt E:TypeId} {v:Int} {k:ByteArray} (h:MapP w b l) (ht:P.underlying T=some (.map Kt E)) (hk:P.underlying Kt=some .string) (hno:∀ p∈l,p.1≠k) :
  ∃ w',(Instr.mapUpdate T (.map (some b)) (.string k) (.int .i64 v)).run P w = .ok () w'/\Chg (· = b) w w'/\MapP w' b (l++[(k,v)]):=by
 have hlt:=h.lt
 obtain ⟨es,c,h1,h2,h3⟩:=h
 have hc:=MapKept.run_checkKey (P:=P) (w:=w) (kt:=Kt) (k:=.string k) hk (by simp [IsKey]) false 9999
 rcases find_keyS (w:=w) (k:=k) hk h3 with ⟨h5,h6⟩ | ⟨j,p,h5,h6,h7⟩
 ·refine ⟨_,?_,Chg.setBlock w b (.map (es.push ⟨.string k,.int .i64 v,c⟩) (c+1)),?_⟩
  ·simp [Instr.mapUpdate,run_underlying ht,MapKept.run_getObj_map h1,hc,h6,run_setMap h1,Result.andThen]
  refine ⟨_,_,setBlock_eq _ hlt,MapKept.stamped_push h2 λ x hx e=>?_,?_⟩
  ·obtain ⟨p,hp,e1,_⟩:=entS h3 hx
   rw [e1] at e; injection e with e
   exact hno p hp e
  rw [Array.toList_push,List.map_append,List.map_append]
  exact h3.append (List.Perm.refl _)
 exact absurd h6 (hno p h5)
theorem eop_mapP {T:TypeId} {K:Value->World->Prop} (hs:St w0 A L w) (k:∀ b w',St w0 A (mapP b []::L) w'->K (.map (some b)) w'):Eop P (Instr.makeMap T none) w K:=
 ⟨_,_,rfl,k _ _ (hs.new (Ext.push w (.map #[] 0)) (F:=λ k=>k=w.heap.size) ⟨⟨#[],0,push_new _ _,⟨by simp,by simp,by simp⟩,by simp⟩,λ _=>Iff.rfl⟩ λ b hb=>by rw [hb]; exact Nat.le_refl _)⟩
theorem St.mapP (hs:St w0 A (mapP b l::L) w):MapP w b l:=by obtain ⟨F,h,_⟩:=hs.head; exact h.1
theorem qop_lookS {T Kt E:TypeId} {k:ByteArray} {K:Value->Prop} (h:MapP w b l) (ht:P.underlying T=some (.map Kt E)) (hk:P.underlying Kt=some .string) (hz:ZeroT P E (.int .i64 0)) (kk:K (.int .i64 (lookS l k))):Qop P (Instr.lookup T (.map (some b)) (.string k) false) w K:=
 ⟨_,run_lookupS h ht hk hz,kk⟩
theorem uop_putS {T Kt E:TypeId} {v:Int} {k:ByteArray} {K:World->Prop} (hs:St w0 A (Fw.mapP b l::L) w) (ht:P.underlying T=some (.map Kt E)) (hk:P.underlying Kt=some .string) (hno:∀ p∈l,p.1≠k)
  (kk:∀ w',St w0 A (Fw.mapP b (l++[(k,v)])::L) w'->K w'):Uop P (Instr.mapUpdate T (.map (some b)) (.string k) (.int .i64 v)) w K:=by
 obtain ⟨w',h1,h2,h3⟩:=run_putS (P:=P) (v:=v) (k:=k) hs.mapP ht hk hno
 exact ⟨w',h1,kk w' (hs.turn λ F hF=>⟨F,⟨h3,hF.2⟩,λ b hb=>.inl hb,h2.mono λ k hk=>(hF.2 k).2 hk⟩)⟩
theorem key_inj {es:Array MapEntry} (hn:(es.toList.map (·.key)).Nodup) {e e':MapEntry} (h:e∈es.toList) (h':e'∈es.toList) (hb:e.key=e'.key):e=e':=by
 obtain ⟨i,hi,rfl⟩:=List.getElem_of_mem h
 obtain ⟨j,hj,rfl⟩:=List.getElem_of_mem h'
 have:=(List.getElem_inj (i:=i) (j:=j) (h₀:=by simpa using hi) (h₁:=by simpa using hj) hn).1 (by simpa using hb)
 subst this; rfl
theorem si_inj {l:List SI} (hn:(l.map (·.1)).Nodup) {p q:SI} (hp:p∈l) (hq:q∈l) (h:p.1=q.1):p=q:=by
 have h1:=lookS_mem hn hp
 have h2:=lookS_mem hn hq
 rw [h] at h1
 exact Prod.ext h (h1.symm.trans h2)
end
open Go.MapKept (IsKey)
section
variable {P:Program} {w w':World} {b:Nat} {l:List ByteArray}
def SetP (w:World) (b:Nat) (l:List ByteArray):Prop:=
 ∃ es clock,w.heap[b]? = some (.map es clock)/\(es.toList.map λ e=>(e.key,e.val))=l.map λ s=>(Value.string s,Value.bool true)
theorem run_lookSet {T Kt E:TypeId} {k:ByteArray} (h:SetP w b l) (ht:P.underlying T=some (.map Kt E)) (hk:P.underlying Kt=some .string) (hz:ZeroT P E (.bool false)) :
  (Instr.lookup T (.map (some b)) (.string k) false).run P w = .ok (.bool (l.any λ y=>decide (y=k))) w:=by
 obtain ⟨es,c,h1,h2⟩:=h
 have hz':(zeroValue E).run P w = .ok (.bool false) w:=by
  unfold ZeroT zeroFact at hz
  cases hi:P.info? E with
  | none=>rw [hi] at hz; cases hz
  | some i=>
   rw [hi] at hz
   simp only [Option.map_some,Option.some.injEq] at hz
   refine run_of_pr ?_ w
   unfold zeroValue; rw [pr_bind,pr_typeInfo hi]; simp only [Option.bind_some,hz]; rfl
 have hc:=MapKept.run_checkKey (P:=P) (w:=w) (kt:=Kt) (k:=.string k) hk (by simp [IsKey]) es.isEmpty 9999
 have mem:∀ e∈es.toList,∃ s∈l,e.key = .string s/\e.val = .bool true:=λ e he=>by
  have:(e.key,e.val)∈l.map λ s=>(Value.string s,Value.bool true):=by rw [<- h2]; exact List.mem_map.2 ⟨e,he,rfl⟩
  obtain ⟨s,hs,e1⟩:=List.mem_map.1 this
  simp only [Prod.mk.injEq] at e1
  exact ⟨s,hs,e1.1.symm,e1.2.symm⟩
 rcases MapKept.findNow_spec (d:=.string) (k:=.string k) (by simp [IsKey]) es.toList 0 (λ x hx=>by obtain ⟨p,_,e,_⟩:=mem x hx; rw [e]; simp [IsKey]) with ⟨h3,h4⟩ | ⟨j,e,h3,h4,h5⟩
 ·have:(l.any λ y=>decide (y=k))=false:=by
   rw [List.any_eq_false]
   intro s hs
   have:(Value.string s,Value.bool true)∈es.toList.map λ e=>(e.key,e.val):=by rw [h2]; exact List.mem_map.2 ⟨s,hs,rfl⟩
   obtain ⟨e,he,e1⟩:=List.mem_map.1 this
   simp only [Prod.mk.injEq] at e1
   intro h
   exact h4 e he (by rw [e1.1,of_decide_eq_true h])
  rw [this]
  simp [Instr.lookup,run_underlying ht,MapKept.run_getObj_map h1,hc,MapKept.run_findKey hk h3,hz',Result.andThen]
 obtain ⟨s,hs,e1,e2⟩:=mem e (List.mem_of_getElem? h4)
 rw [h5] at e1; injection e1 with e1
 have:(l.any λ y=>decide (y=k))=true:=List.any_eq_true.2 ⟨s,hs,decide_eq_true e1.symm⟩
 rw [this]
 rw [Nat.zero_add,e2] at h3
 simp [Instr.lookup,run_underlying ht,MapKept.run_getObj_map h1,hc,MapKept.run_findKey hk h3,Result.andThen]
theorem qop_lookSet {T Kt E:TypeId} {k:ByteArray} {K:Value->Prop} (h:SetP w b l) (ht:P.underlying T=some (.map Kt E)) (hk:P.underlying Kt=some .string) (hz:ZeroT P E (.bool false)) (kk:K (.bool (l.any λ y=>decide (y=k)))):Qop P (Instr.lookup T (.map (some b)) (.string k) false) w K:=
 ⟨_,run_lookSet h ht hk hz,kk⟩
end
end Go.Fw
namespace Go.Proofs.YtfkgkbhbdffckaaGreatDoor
open Go.Fw
def plsK:Nat->Nat->PT
 | _,_=>.nil
def fsK:List Nat:=[198,223,248,250,251,252,253,254,255,257,259,260,261,263]
noncomputable def sEq (k:V) (p:Nat × Nat):Bool:=match k with | .s n l=>eqS n l p.1 p.2 | _=>false
def keptN:List (Nat × Nat):=[(1701734764,4),(7106422,3),(1801678700,4),(110369476601972,6),(6776178,3),(1684107116,4),(435711603827,5),(7561571,3),(448613674086,5),(7630959,3),(111477728306803,6),(111477728306797,6),(1701536116,4),(1702259047,4),(26217,2),(1702063205,4),(1886351212,4),(461195539042,5),(461229090915,5),(32199706694346098,7),(126965163453537,6)]
noncomputable def setT (ks:List (Nat × Nat)) (l:ML):Bool:=ML.rec (motive:=λ _=>List (Nat × Nat)->Bool) (λ ks=>List.rec (motive:=λ _=>Bool) true (λ _ _ _=>false) ks)
 (λ k v _ _ ih ks=>List.rec (motive:=λ _=>Bool) false (λ p r _=>andB (sEq k p) (andB (V.eqs true v (.b true)) (ih r))) ks) l ks
noncomputable def keptT (v:V) (h:Hp):Bool:=V.rec (motive:=λ _=>Bool) (λ _=>false) (λ _ _=>false) (λ _ _=>false) false (λ _ _=>false) false (λ _ _ _ _=>false) (λ _ _ _ _=>false) false false
 (λ b=>HB.rec (motive:=λ _=>Bool) false false (λ _ _ _=>false) (λ c l=>andB (Nat.blt c 4294967296) (setT keptN l)) (λ _ _ _ _ _=>false) (λ _ _ _ _ _ _=>false) false (getH h b)) false (λ _ _ _=>false) (λ _=>false) (λ _ _=>false) (λ _ _=>false) false (λ _ _ _ _=>false) v
theorem sEq_ok {k:V} {p:Nat × Nat} (h:sEq k p=true):∃ n m,k = .s n m/\strOf n m=strOf p.1 p.2:=by
 cases k with
 | s n m=>have h:eqS n m p.1 p.2=true:=h; rw [eqS_dec] at h; exact ⟨n,m,rfl,of_decide_eq_true h⟩
 | _=>cases h
theorem setT_ok {ρ:Rn}:∀ {l:ML} {ks:List (Nat × Nat)} {es:List MapEntry},setT ks l=true->RM ρ l es->(es.map λ e=>(e.key,e.val))=ks.map λ p=>(Value.string (strOf p.1 p.2),Value.bool true):=by
 intro l
 induction l with
 | nil=>
  intro ks es h hm
  cases ks with
  | nil=>obtain rfl:es=[]:=hm; rfl
  | cons p r=>cases h
 | cons k v b r ih=>
  intro ks es h hm
  cases ks with
  | nil=>cases h
  | cons p ks=>
   obtain ⟨h1,h2⟩:=and_ok (show andB (sEq k p) (andB (V.eqs true v (.b true)) (setT ks r))=true from h)
   obtain ⟨h2,h3⟩:=and_ok h2
   obtain ⟨e,es',rfl,g1,g2,g3,g4⟩:=hm
   have e2:=(eqs_spec _ _ h2).1
   subst e2
   obtain ⟨n,m,rfl,h9⟩:=sEq_ok h1
   rw [List.map_cons,List.map_cons,ih h3 g4]
   have g1:e.key = .string (strOf n m):=g1
   rw [h9] at g1
   have g2:e.val = .bool true:=g2
   rw [g1,g2]
theorem okFsK:List.all fsK (okF Tryz.prog plsK)=true:=by kernel_rfl
theorem runK:okKB (evF Tryz.prog (onlyF fsK (prepF Tryz.prog plsK)) 200 (.f 198 .e) .e .lf 0) keptT=true:=by kernel_rfl
theorem keptT_ok {v:V} {h:Hp} (hh:keptT v h=true):∃ b c l,v = .m b/\getH h b = .m c l/\c<4294967296/\setT keptN l=true:=by
 cases v with
 | m b=>
  generalize hb:getH h b=o
  have hh:(HB.rec (motive:=λ _=>Bool) false false (λ _ _ _=>false) (λ c l=>andB (Nat.blt c 4294967296) (setT keptN l)) (λ _ _ _ _ _=>false) (λ _ _ _ _ _ _=>false) false o:Bool)=true:=by rw [<- hb]; exact hh
  cases o with
  | m c l=>obtain ⟨g1,g2⟩:=and_ok hh; exact ⟨b,c,l,rfl,hb,blt_lt g1,g2⟩
  | _=>cases hh
 | _=>cases hh
theorem keptN_L:keptN.map (λ p=>strOf p.1 p.2)=keptL:=by decide
theorem C198 (w:World):CR 198 [] w (λ v w'=>∃ b,v = .map (some b)/\SetP w' b keptL/\Ext w w'):=
 (run_gen mixed okFsK runK w).mono λ e w' ⟨y,he,hext,v,h,ρ,hk,hR,hv⟩=>by
  obtain ⟨b,c,l,rfl,hb,hc,hs⟩:=keptT_ok hk;obtain ⟨q,es,h1,h2,h3⟩:=hR.map hb hc;obtain ⟨q',hq',rfl⟩:=hv;rw [h1] at hq'; cases hq'
  refine ⟨_,he,q.k,rfl,⟨_,_,h2,?_⟩,hext⟩;have:=setT_ok hs h3;rw [<- keptN_L,List.map_map];exact this
theorem pl198:PL 198:=plE Tryz.func198
def FnU (w:World) (f:Value) (g:UInt8->Bool):Prop:=∃ g0 first cap,f = .func (.func g0) (List.toArray first) (List.toArray cap)/\Plain Tryz.prog g0/\
 ∀ (c:UInt8) w1,Ext w w1->Calls Tryz.prog g0 (first++[Value.int .u8 c.toNat]++cap).toArray w1 (Ret λ v w2=>v = .bool (g c)/\Ext w1 w2)
theorem run_end {g:UInt8->Bool} {l:List UInt8} {k:Nat} (hno:∀ y∈l.take k,g y=true) (hk:k<=l.length) (h:(match l[k]? with | some c=>g c | none=>false)=false):k=l.length↔l.all g=true:=by
 constructor
 ·intro e
  rw [e,List.take_length] at hno
  exact List.all_eq_true.2 hno
 intro ha
 by_cases e:k=l.length
 ·exact e
 have hlt:k<l.length:=by omega
 rw [List.getElem?_eq_getElem hlt] at h
 have h:g l[k]=false:=h
 have:=List.all_eq_true.1 ha _ (List.getElem_mem hlt)
 rw [this] at h; cases h
def badNm (s:ByteArray):Bool:=decide (s.size<1\/16<s.size) || (match (bts s)[0]? with | some c=>!letterM c.toNat | none=>true) || keptL.any (λ y=>decide (y=s))
theorem badNm_sz {s:ByteArray} (h:badNm s=false):s.size<=1048576:=by
 unfold badNm at h
 grind
theorem nameM_no {s:ByteArray} (h:badNm s=true):nameM s=false:=by
 show (!(badNm s) && _)=false
 rw [h]; rfl
theorem nameM_eq {s:ByteArray} {n:Nat} (h:badNm s=false) (hn:n=(bts s).length↔(bts s).all (λ c=>letterM c.toNat || digitM c.toNat)=true):decide ((n:Int)=(s.size:Int))=nameM s:=by
 show _=(!(badNm s) && !(bts s).any λ c=>!letterM c.toNat && !digitM c.toNat)
 rw [h,Bool.not_false,Bool.true_and,<- bts_len]
 have:(!(bts s).any λ c=>!letterM c.toNat && !digitM c.toNat)=(bts s).all (λ c=>letterM c.toNat || digitM c.toNat):=by
  rw [List.not_any_eq_all_not]; congr 1; funext c; simp
 rw [this]
 by_cases e:n=(bts s).length
 ·rw [hn.1 e]; exact decide_eq_true (by rw [e])
 rw [Bool.eq_false_iff.2 (λ h=>e (hn.2 h))]; exact decide_eq_false (by omega)
theorem size_z {s:ByteArray} (h:s.size=0):s=ByteArray.mk #[]:=by
 cases s with
 | mk a=>cases a with
  | mk l=>cases l with
   | nil=>rfl
   | cons x r=>simp [ByteArray.size] at h
theorem C161 (c:Int) (w:World):CR 161 [.int .u8 c] w (λ v w'=>v = .bool (letterM c)/\Ext w w'):=by
 have hs:=St.start w;refine S161_ok _ _ _ ?_;unfold S161;refine ⟨λ jv w'=>jv = .bool (decide (97<=c/\c<=122\/c=95))/\w=w',pop_geqK (cond_d (λ _=>pop_leqK (cond_d (λ _=>⟨jvT (by omega),rfl⟩) (λ _=>pop_eqlK ⟨jvD (by omega),rfl⟩))) (λ _=>pop_eqlK ⟨jvD (by omega),rfl⟩)),?_⟩;rintro _ _ ⟨rfl,hw⟩ _;subst hw;exact ⟨rfl,hs.chg⟩
theorem C165 (c:Int) (w:World):CR 165 [.int .u8 c] w (λ v w'=>v = .bool (digitM c)/\Ext w w'):=by
 have hs:=St.start w;refine S165_ok _ _ _ ?_;unfold S165;refine ⟨λ jv w'=>jv = .bool (decide (48<=c/\c<=57))/\w=w',pop_geqK (cond_d (λ _=>pop_leqK ⟨jvD (by omega),rfl⟩) (λ _=>⟨jvF (by omega),rfl⟩)),?_⟩;rintro _ _ ⟨rfl,hw⟩ _;subst hw;exact ⟨rfl,hs.chg⟩
theorem C164 (c:Int) (w:World):CR 164 [.int .u8 c] w (λ v w'=>v = .bool (letterM c || digitM c)/\Ext w w'):=by
 have hs:=St.start w;refine S164_ok _ _ _ ?_;unfold S164;refine ⟨λ jv w'=>jv = .bool (letterM c || digitM c)/\St w none1 [] w',callP pl161 hs (C161 _ _) (λ _ _ hs=>cond_b (λ _=>⟨vb (by grind),hs⟩) (λ _=>callP pl165 hs (C165 _ _) (λ _ _ hs=>⟨vb (by grind),hs⟩))),?_⟩;rintro _ _ ⟨rfl,hs⟩ _;exact ⟨rfl,hs.chg⟩
theorem C163 (s:ByteArray) (fv:Value) (g:UInt8->Bool) (w:World) (hf:FnU w fv g) (hn:s.size<=1048576):CR 163 [.string s,fv] w (λ v w'=>∃ n:Nat,v = .int .i64 (n:Int)/\(n=(bts s).length↔(bts s).all g=true)/\Ext w w'):=by
 obtain ⟨g0,first,cap,rfl,hpl,hcall⟩:=hf;have hs:=St.start w;refine S163_ok _ _ _ _ ?_;unfold S163;refine ⟨λ m x w1=>∃ k:Nat,x = .int .i64 (k:Int)/\m=(bts s).length - k/\k<=(bts s).length/\(∀ y∈(bts s).take k,g y=true)/\St w none1 [] w1,⟨_,0,rfl,rfl,Nat.zero_le _,by simp,hs⟩,?_⟩;rintro m _ w1 ⟨k,rfl,rfl,hk,hno,hs⟩ _;have hbl:=bts_len s;refine ⟨λ jv w'=>jv = .bool (match (bts s)[k]? with | some c=>g c | none=>false)/\St w none1 [] w',pop_slen und9 (pop_lss (cond_d (λ c_x9=>?_) (λ _=>⟨vb (by grind),hs⟩))),?_⟩
 ·obtain ⟨e_x14,he_x14⟩:∃ xx,(bts (s))[((k:Int)).toNat]? = some xx:=⟨_,List.getElem?_eq_getElem (by rw [bts_len]; omega)⟩;refine pop_six und9 (by omega) he_x14 (callV hpl (hcall e_x14 _ hs.chg) ?_);rintro _ _ ⟨rfl,he⟩;have hs:=hs.ext he;exact ⟨vb (by grind),hs⟩
 rintro _ _ ⟨rfl,hs⟩ _;refine cond_b (λ c_x16=>?_) (λ c_x16=>⟨k,rfl,run_end hno hk (by simpa using c_x16),hs.chg⟩);obtain ⟨e_x14,he_x14⟩:∃ xx,(bts s)[k]? = some xx:=by cases h:(bts s)[k]? with | none=>rw [h] at c_x16; cases c_x16 | some x=>exact ⟨x,rfl⟩
 have hk1:=(List.getElem?_eq_some_iff.1 he_x14).1;exact pop_add (by omega) ⟨_,by omega,k+1,rfl,rfl,by omega,take_all hno he_x14 (by grind),hs⟩
theorem C162 (s:ByteArray) (w:World):CR 162 [.string s] w (λ v w'=>v = .bool (keptL.any λ y=>decide (y=s))/\Ext w w'):=by
 have hs:=St.start w;refine S162_ok _ _ _ ?_;unfold S162;refine callF pl198 (C198 _) ?_;rintro _ _ ⟨bk,rfl,hK,he⟩;have hs:=hs.ext he;exact qop_lookSet hK Tryz.underlying281 Tryz.underlying9 zero4 ⟨rfl,hs.chg⟩
theorem C118 (s:ByteArray) (w:World):CR 118 [.string s] w (λ v w'=>v = .bool (nameM s)/\Ext w w'):=by
 have hs:=St.start w;refine S118_ok _ _ _ ?_;unfold S118;refine ⟨λ jv w'=>jv = .bool (badNm s)/\St w none1 [] w',pop_streq (cond_d (λ c_x4=>?_) (λ c_x4=>?_)),?_⟩
 ·have hz:s.size=0:=by rw [c_x4]; rfl
  exact ⟨vb (by unfold badNm; grind),hs⟩
 ·have hz:s.size≠0:=λ h=>c_x4 (size_z h);refine pop_slen und9 (pop_gtr (cond_d (λ _=>⟨vb (by unfold badNm; grind),hs⟩) (λ c_x8=>?_)));obtain ⟨e_x12,he_x12⟩:∃ xx,(bts (s))[((0:Int)).toNat]? = some xx:=⟨_,List.getElem?_eq_getElem (by rw [bts_len]; omega)⟩;refine pop_six und9 (by omega) he_x12 ?_;have he0:(bts s)[0]? = some e_x12:=he_x12;have hz2:¬ (s.size<1\/16<s.size):=by omega
  exact callP pl161 hs (C161 _ _) (λ _ _ hs=>pop_not (cond_b (λ _=>⟨vb (by unfold badNm; grind),hs⟩) (λ _=>callP pl162 hs (C162 _ _) (λ _ _ hs=>⟨vb (by unfold badNm; grind),hs⟩))))
 rintro _ _ ⟨rfl,hs⟩ _;refine cond_b (λ c_x19=>⟨vb (nameM_no c_x19).symm,hs.chg⟩) (λ c_x19=>callF pl163 (C163 s _ (λ c=>letterM c.toNat || digitM c.toNat) _ ⟨164,[],[],rfl,pl164,λ _ w1 _=>C164 _ w1⟩ (badNm_sz (by simpa using c_x19))) ?_);rintro _ _ ⟨nr,rfl,hnr,he⟩;have hs:=hs.ext he;exact pop_slen und9 (pop_eql ⟨vb (nameM_eq (by simpa using c_x19) hnr),hs.chg⟩)
def goM (xs:List TNode) (i:Int) (n:Nat):Int:=if n=0 then i else if i<0 then -1 else stP xs.length (skip n (xs.drop i.toNat))
theorem goM_one (xs:List TNode) (i:Int):goM xs i 1=endM xs i:=by unfold goM endM; rw [if_neg (by decide)]
theorem goM_zero (xs:List TNode) (i:Int):goM xs i 0=i:=rfl
theorem goM_bad {xs:List TNode} {i:Int} {n:Nat} (hn:0<n) (h:i<0\/(xs.length:Int)<=i):goM xs i n = -1:=by
 unfold goM
 rw [if_neg (by omega)]
 split
 ·rfl
 rw [List.drop_eq_nil_of_le (by omega)]
 cases n with
 | zero=>omega
 | succ n=>rfl
theorem goM_kid {xs:List TNode} {i:Int} {n:Nat} {x:TNode} (hn:0<n) (h0:0<=i) (hx:xs[i.toNat]? = some x) (hk:kids x.op<0):goM xs i n = -1:=by
 unfold goM
 obtain ⟨hl,he⟩:=List.getElem?_eq_some_iff.1 hx
 rw [if_neg (by omega),if_neg (by omega),List.drop_eq_getElem_cons hl,he]
 cases n with
 | zero=>omega
 | succ n=>
  show stP _ (if kids x.op<0 then none else _)=_
  rw [if_pos hk]; rfl
theorem goM_step {xs:List TNode} {i:Int} {n m:Nat} {x:TNode} (hn:0<n) (h0:0<=i) (hx:xs[i.toNat]? = some x) (hk:0<=kids x.op) (hm:(m:Int)=n+kids x.op - 1):goM xs i n=goM xs (i+1) m:=by
 obtain ⟨hl,he⟩:=List.getElem?_eq_some_iff.1 hx
 have h1:goM xs i n=stP xs.length (skip m (xs.drop (i+1).toNat)):=by
  unfold goM
  rw [if_neg (by omega),if_neg (by omega),List.drop_eq_getElem_cons hl,he,show (i+1).toNat=i.toNat+1 from by omega]
  cases n with
  | zero=>omega
  | succ n=>
   show stP _ (if kids x.op<0 then none else skip (n+(kids x.op).toNat) _)=_
   rw [if_neg (by omega),show n+(kids x.op).toNat=m from by omega]
 rw [h1]
 unfold goM
 by_cases hz:m=0
 ·rw [if_pos hz,hz,skip_z]
  show (xs.length:Int) - ((xs.drop (i+1).toNat).length:Nat)=_
  rw [List.length_drop]; omega
 rw [if_neg hz,if_neg (by omega)]
def opP (i:Int) (ks:List Ex) (k:Nat):List Int:=(List.range k).map λ j=>i+1+(lenK ks j:Int)
theorem opP_succ (i:Int) (ks:List Ex) (k:Nat):opP i ks (k+1)=opP i ks k++[i+1+(lenK ks k:Int)]:=by
 unfold opP; rw [List.range_succ,List.map_append]; rfl
theorem opP_len (i:Int) (ks:List Ex) (k:Nat):(opP i ks k).length=k:=by simp [opP]
theorem opP_get {i:Int} {ks:List Ex} {n k:Nat} {e:Int} (h:(opP i ks n)[k]? = some e):e=i+1+(lenK ks k:Int)/\k<n:=by
 unfold opP at h
 rw [List.getElem?_map] at h
 obtain ⟨j,hj,rfl⟩:=Option.map_eq_some_iff.1 h
 obtain ⟨hk,he⟩:=List.getElem?_eq_some_iff.1 hj
 rw [List.getElem_range] at he
 exact ⟨by rw [he],by simpa using hk⟩
theorem C204 (k:Int) (w:World):CR 204 [.int .i64 k] w (λ v w'=>v = .int .i64 (kids k)/\Ext w w'):=by
 have hs:=St.start w;refine S204_ok _ _ _ ?_;unfold S204;refine ⟨λ jv w'=>jv = .bool (decide (k=1\/k=2))/\w=w',pop_eql (cond_d (λ _=>⟨jvT (by omega),rfl⟩) (λ _=>pop_eql ⟨jvD (by omega),rfl⟩)),?_⟩;rintro _ _ ⟨rfl,hw⟩ _;subst hw;refine cond_d (λ c_x3=>?_) (λ c_x3=>⟨λ jv w'=>jv = .bool (decide (k=3\/k=4))/\w=w',pop_eql (cond_d (λ _=>⟨jvT (by omega),rfl⟩) (λ _=>pop_eql ⟨jvD (by omega),rfl⟩)),?_⟩)
 ·unfold kids;exact ⟨congrArg (Value.int .i64) (by grind),hs.chg⟩
 rintro _ _ ⟨rfl,hw⟩ _;subst hw;refine cond_d (λ c_x10=>?_) (λ c_x10=>⟨λ jv w'=>jv = .bool (decide (5<=k/\k<=15))/\w=w',pop_geq (cond_d (λ _=>pop_leq ⟨jvD (by omega),rfl⟩) (λ _=>⟨jvF (by omega),rfl⟩)),?_⟩)
 ·unfold kids;exact ⟨congrArg (Value.int .i64) (by grind),hs.chg⟩
 rintro _ _ ⟨rfl,hw⟩ _;subst hw;refine cond_d (λ c_x17=>?_) (λ c_x17=>?_)
 ·unfold kids;exact ⟨congrArg (Value.int .i64) (by grind),hs.chg⟩
 unfold kids;exact ⟨congrArg (Value.int .i64) (by grind),hs.chg⟩
theorem C170 (x:TNode) (w:World):CR 170 [Flat.val x] w (λ v w'=>v = .bool (!oddN x)/\Ext w w'):=by
 have hs:=St.start w;refine S170_ok _ _ _ ?_;unfold S170;refine eop_boxV hs (λ b_x1 _ hs=>⟨λ jv w'=>jv = .bool (decide (x.at_<0\/4000<x.at_))/\St w none1 [blk b_x1 (Flat.enc x)] w',pop_field fld26_3 (qop_blk (v:=.int .i64 ((x).at_)) ty3 hs.hb rfl (pop_lss (cond_d (λ _=>⟨vb (by grind),hs⟩) (λ _=>pop_field fld26_3 (qop_blk (v:=.int .i64 ((x).at_)) ty3 hs.hb rfl (pop_gtr ⟨vb (by grind),hs⟩)))))),?_⟩);rintro _ _ ⟨rfl,hs⟩ _;refine cond_b (λ c_x3=>?_) (λ c_x3=>?_)
 ·refine ⟨vb ?_,hs.drop.chg⟩;unfold oddN
  grind
 refine pop_field fld26_0 (qop_blk (v:=.int .i64 ((x).op)) ty3 hs.hb rfl (pop_eql (cond_d (λ c_x15=>⟨λ jv w'=>jv = .bool (decide (0<=x.n/\x.n<=4294967296/\x.name=⟨#[]⟩))/\St w none1 [blk b_x1 (Flat.enc x)] w',pop_field fld26_1 (qop_blk (v:=.int .i64 ((x).n)) ty3 hs.hb rfl (pop_geq (cond_d (λ _=>pop_field fld26_1 (qop_blk (v:=.int .i64 ((x).n)) ty3 hs.hb rfl (pop_leq (cond_d (λ _=>pop_field fld26_2 (qop_blk (v:=.string ((x).name)) ty9 hs.hb rfl (pop_streq ⟨vb (by grind),hs⟩))) (λ _=>⟨vb (by grind),hs⟩))))) (λ _=>⟨vb (by grind),hs⟩)))),?_⟩) (λ c_x15=>?_))))
 ·rintro _ _ ⟨rfl,hs⟩ _;refine ⟨vb ?_,hs.drop.chg⟩;unfold oddN
  grind
 refine pop_field fld26_0 (qop_blk (v:=.int .i64 ((x).op)) ty3 hs.hb rfl (pop_eql (cond_d (λ c_x32=>⟨λ jv w'=>jv = .bool (decide (x.n=0) && nameM x.name)/\St w none1 [blk b_x1 (Flat.enc x)] w',pop_field fld26_1 (qop_blk (v:=.int .i64 ((x).n)) ty3 hs.hb rfl (pop_eql (cond_d (λ _=>pop_field fld26_2 (qop_blk (v:=.string ((x).name)) ty9 hs.hb rfl (callP pl118 hs (C118 _ _) (λ _ _ hs=>⟨vb (by grind),hs⟩)))) (λ _=>⟨vb (by grind),hs⟩)))),?_⟩) (λ c_x32=>?_))))
 ·rintro _ _ ⟨rfl,hs⟩ _;refine ⟨vb ?_,hs.drop.chg⟩;unfold oddN
  grind
 refine ⟨λ jv w'=>jv = .bool (decide (x.n=0/\x.name=⟨#[]⟩))/\St w none1 [blk b_x1 (Flat.enc x)] w',pop_field fld26_1 (qop_blk (v:=.int .i64 ((x).n)) ty3 hs.hb rfl (pop_eql (cond_d (λ _=>pop_field fld26_2 (qop_blk (v:=.string ((x).name)) ty9 hs.hb rfl (pop_streq ⟨vb (by grind),hs⟩))) (λ _=>⟨vb (by grind),hs⟩)))),?_⟩;rintro _ _ ⟨rfl,hs⟩ _;refine ⟨vb ?_,hs.drop.chg⟩;unfold oddN
 grind
theorem C169 (x:TNode) (w:World):CR 169 [Flat.val x] w (λ v w'=>v = .bool (oddN x)/\Ext w w'):=by
 have hs:=St.start w;refine S169_ok _ _ _ ?_;unfold S169;exact eop_boxV hs (λ _ _ hs=>qop_at ty26 hs.At (callP pl170 hs (C170 _ _) (λ _ _ hs=>pop_not ⟨vb (by simp),hs.drop.chg⟩)))
theorem C203 (sv fv:Value) (xs:List TNode) (g:TNode->Bool) (w:World) (hL:RdL (λ _=>True) w sv xs) (hf:FnOn w fv g) (hn:xs.length<=1073741824):CR 203 [sv,fv] w (λ v w'=>v = .int .i64 (idxF g xs)/\Ext w w'):=by
 obtain ⟨g0,first,cap,rfl,hpl,hcall⟩:=hf;have hs:=St.start w;refine S203_ok _ _ _ _ ?_;unfold S203;refine pop_len sl22 (hL.ext hs.chg) ?_;refine ⟨λ m x w1=>∃ k:Nat,x = .int .i64 (k:Int)/\m=xs.length - k/\k<=xs.length/\(∀ y∈xs.take k,g y=false)/\St w none1 [] w1,⟨_,0,rfl,rfl,Nat.zero_le _,by simp,hs⟩,?_⟩;rintro m _ w1 ⟨k,rfl,rfl,hk,hno,hs⟩ _;refine pop_lss (cond_d (λ c_x9=>?_) (λ _=>⟨congrArg (Value.int .i64) (idxF_none (by rw [List.take_of_length_le (by omega)] at hno; exact hno)).symm,hs.chg⟩));obtain ⟨e_x14,he_x14⟩:=gx (xs) (i:=((k:Int)).toNat) (by omega);refine pop_idx sl22 hL (by omega) he_x14 (λ _ h_x14=>qop_at ty26 (h_x14.ext hs.chg) ?_)
 refine callV hpl (hcall e_x14 w1 hs.chg) ?_;rintro _ _ ⟨rfl,he⟩;have hs:=hs.ext he;exact cond_b (λ c_x16=>⟨congrArg (Value.int .i64) (idxF_at hno he_x14 c_x16).symm,hs.chg⟩) (λ c_x16=>pop_add (by omega) ⟨xs.length - (k+1),by omega,k+1,rfl,rfl,by omega,take_all hno he_x14 c_x16,hs⟩)
theorem C171 (sv fv:Value) (xs:List TNode) (g:TNode->Bool) (w:World) (hL:RdL (λ _=>True) w sv xs) (hf:FnOn w fv g) (hn:xs.length<=1073741824):CR 171 [sv,fv] w (λ v w'=>v = .bool (xs.any g)/\Ext w w'):=by
 have hs:=St.start w;refine S171_ok _ _ _ _ ?_;unfold S171;exact callP pl203 hs (C203 _ _ _ _ _ (hL.ext hs.chg) (hf.ext hs.chg) (by omega)) (λ _ _ hs=>pop_geq ⟨vb (idxF_any _ _),hs.chg⟩)
theorem C172 (lv:Value) (xs:List TNode) (i:Int) (w:World) (hL:RdL (λ _=>True) w lv xs) (hn:xs.length<=1048576):CR 172 [lv,.int .i64 i] w (λ v w'=>v = .int .i64 (endM xs i)/\Ext w w'):=by
 have hs:=St.start w;refine S172_ok _ _ _ _ ?_;unfold S172;refine ⟨λ m x y w1=>∃ (a:Int) (n:Nat),x = .int .i64 a/\y = .int .i64 (n:Int)/\m=xs.length - a.toNat/\n<=1+a.toNat/\goM xs a n=endM xs i/\St w none1 [] w1,⟨_,i,1,rfl,rfl,rfl,by omega,goM_one _ _,hs⟩,?_⟩;rintro m _ _ w1 ⟨a,n,rfl,rfl,rfl,hna,hgo,hs⟩ _;refine pop_gtr (cond_d (λ c_x7=>⟨λ jv w'=>jv = .bool (decide (a<0\/(xs.length:Int)<=a) || (match xs[a.toNat]? with | some x=>decide (kids x.op = -1) | none=>true))/\St w none1 [] w',pop_lss (cond_d (λ _=>⟨vb (by grind),hs⟩) (λ c_x11=>pop_len sl22 (hL.ext hs.chg) (pop_geq (cond_d (λ _=>⟨vb (by grind),hs⟩) (λ c_x16=>?_))))),?_⟩) (λ c_x7=>?_))
 ·obtain ⟨e_q,he_q⟩:∃ xx,xs[(a).toNat]? = some xx:=⟨_,List.getElem?_eq_getElem (by omega)⟩;have hkb:=kids_b e_q.op;exact pop_idx sl22 hL (by omega) he_q (λ _ h_x21=>pop_atf (e_q).op fld26_0 h_x21 rfl rfl (λ _ h_x22=>qop_at ty3 (h_x22.ext hs.chg) (callP pl204 hs (C204 _ _) (λ _ _ hs=>pop_eql ⟨vb (by grind),hs⟩))))
 ·rintro _ _ ⟨rfl,hs⟩ _;refine cond_b (λ c_x26=>?_) (λ c_x26=>?_)
  ·refine ⟨congrArg (Value.int .i64) ?_,hs.chg⟩;rw [<- hgo]
   by_cases hq:a<0\/(xs.length:Int)<=a
   ·exact (goM_bad (by omega) hq).symm
   have hl:a.toNat<xs.length:=by omega
   rw [List.getElem?_eq_getElem hl] at c_x26;exact (goM_kid (by omega) (by omega) (List.getElem?_eq_getElem hl) (by grind)).symm
  have h23:¬ (a<0\/(xs.length:Int)<=a):=by grind
  obtain ⟨e_q,he_q⟩:∃ xx,xs[(a).toNat]? = some xx:=⟨_,List.getElem?_eq_getElem (by omega)⟩;have hkb:=kids_b e_q.op;have hke:0<=kids e_q.op:=by grind
  exact pop_idx sl22 hL (by omega) he_q (λ _ h_x30=>pop_atf (e_q).op fld26_0 h_x30 rfl rfl (λ _ h_x31=>qop_at ty3 (h_x31.ext hs.chg) (callP pl204 hs (C204 _ _) (λ _ _ hs=>pop_add (by omega) (pop_add (by omega) (pop_sub (by omega) ⟨_,by omega,a+1,((n:Int)+kids e_q.op - 1).toNat,rfl,congrArg (Value.int .i64) (by omega),rfl,by omega,by rw [<- hgo]; exact (goM_step (by omega) (by omega) he_q hke (by omega)).symm,hs⟩))))))
 have hn0:n=0:=by omega
 rw [hn0,goM_zero] at hgo;exact ⟨congrArg (Value.int .i64) hgo,hs.chg⟩
theorem rightE_end' {l:List TNode}:rightE l=(decide (l.length<=40) && decide (endM l 0=l.length) && !l.any oddN && decide (deepM l<=12)):=by
 unfold rightE; rw [exOf_end]
theorem C205 (lv:Value) (xs:List TNode) (i:Int) (t:Ex) (w:World) (hL:RdL (λ _=>True) w lv xs) (hn:xs.length<=1048576) (hT:AtT xs i t):CR 205 [lv,.int .i64 i] w (λ v w'=>New (ownL v (opP i t.kidsL t.kidsL.length)) w w'):=by
 obtain ⟨e_q,hq,he_q⟩:∃ e,e=t.root/\xs[(i).toNat]? = some e:=⟨_,rfl,hT.root.1⟩;have hri:=hT.root.2;have hie:=hT.end;have hke:=Ex.kids_len hT.2.1;rw [<- hq] at hke;have hkb:=kids_b e_q.op;have hi0:=hT.1;have hs:=St.start w;refine S205_ok _ _ _ _ ?_;unfold S205;refine pop_add (by omega) (pop_idx sl22 hL (by omega) he_q (λ _ h_x11=>?_));refine pop_atf (e_q).op fld26_0 h_x11 rfl rfl (λ _ h_x12=>qop_at ty3 (h_x12.ext hs.chg) ?_);refine callP pl204 hs (C204 _ _) (λ w1 he hs=>?_);refine ⟨λ m out5 a x w1=>∃ k:Nat,a = .int .i64 (i+1+lenK t.kidsL k)/\x = .int .i64 (k:Int)/\m=t.kidsL.length - k/\k<=t.kidsL.length/\St w none1 [ownL out5 (opP i t.kidsL k)] w1,⟨_,0,congrArg (Value.int .i64) (by simp [lenK]),rfl,rfl,by omega,hs.ownNil (α:=Int)⟩,?_⟩
 rintro m out5 _ _ _ ⟨k,rfl,rfl,rfl,hk,hs⟩ _;refine pop_lss (cond_d (λ c_x16=>?_) (λ c_x16=>?_))
 ·obtain ⟨a,he_a⟩:∃ a,t.kidsL[k]? = some a:=⟨_,List.getElem?_eq_getElem (by omega)⟩;have hka:=Ex.kid_wf hT.2.1 (List.mem_of_getElem? he_a);have hAk:=hT.kid he_a;have hen:=hAk.end;have hdb:=a.depth_b;refine eop_build ([(i+1+lenK t.kidsL k:Int)]) hs sl45 rfl rfl (leb rfl) (λ s_x19 _ hs=>?_);have hr_x20:=(hs).rd';exact eop_append hs.p1 sl45 hr_x20 (by rw [opP_len]; exact Nat.le_of_lt (by simp; omega)) (by decide) (λ _ _ hs=>have hs:=hs.p1.drop;callP pl172 hs (C172 _ _ _ _ (hL.ext hs.chg) (by omega)) (λ _ _ hs=>pop_add (by omega) ⟨_,by omega,k+1,congrArg (Value.int .i64) (by rw [hen.1,lenK_succ he_a]; omega),rfl,rfl,by omega,by rw [opP_succ]; exact hs⟩))
 rw [show t.kidsL.length=k from by omega];exact hs.fresh
theorem C173 (lv:Value) (xs:List TNode) (i:Int) (t:Ex) (N:Nat) (w:World) (hL:RdL (λ _=>True) w lv xs) (hn:xs.length<=1048576) (hT:AtT xs i t) (hN:t.size<N):CR 173 [lv,.int .i64 i] w (λ v w'=>v = .int .i64 t.depth/\Ext w w'):=by
 obtain ⟨e_q,hq,he_q⟩:∃ e,e=t.root/\xs[(i).toNat]? = some e:=⟨_,rfl,hT.root.1⟩;have hri:=hT.root.2;have hie:=hT.end;have hke:=Ex.kids_len hT.2.1;rw [<- hq] at hke;have hkb:=kids_b e_q.op;have hi0:=hT.1;have hs:=St.start w;refine S173_ok _ _ _ _ ?_;unfold S173;refine callN pl205 hs (C205 _ _ _ t _ (hL.ext hs.chg) (by omega) hT) (λ x10 w1 hnew hs=>?_);have hol:=opP_len i t.kidsL t.kidsL.length;refine pop_len sl45 (hs).rd' ?_;refine ⟨λ m n x w1=>∃ k:Nat,n = .int .i64 (depK t.kidsL k)/\x = .int .i64 (k:Int)/\m=t.kidsL.length - k/\k<=t.kidsL.length/\St w none1 [ownL x10 (opP i t.kidsL t.kidsL.length)] w1,⟨_,0,rfl,rfl,rfl,by omega,hs⟩,?_⟩;rintro m _ _ _ ⟨k,rfl,rfl,rfl,hk,hs⟩ _
 have hdk:=depK_b (ks:=t.kidsL) (N:=(t.size:Int)) (by omega) (λ a ha=>by have:=(Ex.kid_wf hT.2.1 ha).2; have:=a.depth_b; omega) k;refine pop_lss (cond_d (λ c_x13=>?_) (λ _=>pop_add (by omega) ⟨congrArg (Value.int .i64) (by rw [t.dep_kids,show k=t.kidsL.length from by omega]),hs.chg⟩));obtain ⟨e_x14,he_x14⟩:=gx ((opP i t.kidsL t.kidsL.length)) (i:=((k:Int)).toNat) (by omega);refine pop_own hs sl45 (by omega) (by omega) (λ _ h_x14=>qop_own hs ty3 h_x14 he_x14 ?_);obtain ⟨rfl,hkl⟩:=opP_get he_x14;obtain ⟨a,he_a⟩:∃ a,t.kidsL[k]? = some a:=⟨_,List.getElem?_eq_getElem (by omega)⟩;have hka:=Ex.kid_wf hT.2.1 (List.mem_of_getElem? he_a);have hAk:=hT.kid he_a
 have hen:=hAk.end;have hdb:=a.depth_b;exact callP pl173 hs (C173 _ _ _ _ (N - 1) _ (hL.ext hs.chg) hn hAk (by omega)) (λ _ _ hs=>pop_max (pop_add (by omega) ⟨_,by omega,k+1,by rw [depK_succ he_a],rfl,rfl,by omega,hs⟩))
termination_by N
decreasing_by all_goals omega
theorem C123 (lv:Value) (xs:List TNode) (w:World) (hL:RdL (λ _=>True) w lv xs) (hn:xs.length<=1048576):CR 123 [lv] w (λ v w'=>v = .bool (rightE xs)/\Ext w w'):=by
 have hs:=St.start w;refine S123_ok _ _ _ ?_;unfold S123;refine ⟨λ jv w'=>jv = .bool (decide (xs.length=0\/40<xs.length) || xs.any oddN || decide (¬ endM xs 0=xs.length))/\St w none1 [] w',pop_len sl22 (hL.ext hs.chg) (pop_eql (cond_d (λ _=>⟨vb (by grind),hs⟩) (λ c_x6=>pop_len sl22 (hL.ext hs.chg) (pop_gtr (cond_d (λ _=>⟨vb (by grind),hs⟩) (λ c_x10=>?_)))))),?_⟩
 ·have hfn:FnOn w (.func (.func 169) [].toArray [].toArray) oddN:=
   ⟨169,[],[],rfl,pl169,λ y w1 _=>C169 y w1⟩
  exact callP pl171 hs (C171 _ _ _ _ _ (hL.ext hs.chg) hfn (by omega)) (λ _ _ hs=>cond_b (λ _=>⟨vb (by grind),hs⟩) (λ _=>callP pl172 hs (C172 _ _ _ _ (hL.ext hs.chg) (by omega)) (λ _ _ hs=>pop_len sl22 (hL.ext hs.chg) (pop_neq ⟨vb (by grind),hs⟩))))
 rintro _ _ ⟨rfl,hs⟩ _;refine cond_b (λ c_x23=>?_) (λ c_x23=>?_)
 ·refine ⟨vb ?_,hs.chg⟩;rw [rightE_end']
  by_cases h0:xs.length=0
  ·obtain rfl:=List.length_eq_zero_iff.1 h0; rfl
  grind
 have h14:endM xs 0=xs.length:=by grind
 obtain ⟨t,ht⟩:=AtT.of (xs:=xs) (i:=0) (by omega);have hz:=ht.zero h14;refine callP pl173 hs (C173 _ _ _ t (t.size+1) _ (hL.ext hs.chg) hn ht (by omega)) (λ _ he hs=>pop_leq ?_);refine ⟨vb ?_,hs.chg⟩;rw [rightE_end'];unfold deepM;rw [hz.2]
 grind
def namesFq (o:List ByteArray) (x:TNode):List ByteArray:=if x.op=2/\o.any (λ y=>decide (y=x.name))=false then o++[x.name] else o
theorem namesF_y {o:List ByteArray} {x:TNode} (h:x.op=2/\o.any (λ y=>decide (y=x.name))=false):namesFq o x=o++[x.name]:=if_pos h
theorem namesF_n {o:List ByteArray} {x:TNode} (h:¬ (x.op=2/\o.any (λ y=>decide (y=x.name))=false)):namesFq o x=o:=if_neg h
def namesMq (xs:List TNode):List ByteArray:=xs.foldl namesFq []
theorem namesM_snoc {xs:List TNode} {k:Nat} {x:TNode} (h:xs[k]? = some x):namesMq (xs.take (k+1))=namesFq (namesMq (xs.take k)) x:=by
 unfold namesMq; rw [<- take_snoc h,List.foldl_append]; rfl
theorem namesMq_len (xs:List TNode):(namesMq xs).length<=xs.length:=by
 have:∀ (l:List TNode) (o:List ByteArray),(l.foldl namesFq o).length<=o.length+l.length:=by
  intro l
  induction l with
  | nil=>intro o; exact Nat.le_refl _
  | cons x l ih=>
   intro o
   have h:=ih (namesFq o x)
   have h2:(namesFq o x).length<=o.length+1:=by unfold namesFq; split <;> simp
   show (l.foldl namesFq (namesFq o x)).length<=_
   rw [List.length_cons]; omega
 simpa [namesMq] using this xs []
theorem namesM_any (g:ByteArray->Bool) (xs:List TNode):(namesMq xs).any g=xs.any λ x=>decide (x.op=2) && g x.name:=by
 have:∀ (l:List TNode) (o:List ByteArray),(l.foldl namesFq o).any g=(o.any g || l.any λ x=>decide (x.op=2) && g x.name):=by
  intro l
  induction l with
  | nil=>intro o; simp
  | cons x l ih=>
   intro o
   show (l.foldl namesFq (namesFq o x)).any g=_
   rw [ih]
   have h2:(namesFq o x).any g=(o.any g || (decide (x.op=2) && g x.name)):=by
    unfold namesFq
    by_cases h:x.op=2
    ·by_cases h3:o.any (λ y=>decide (y=x.name))=false
     ·rw [if_pos ⟨h,h3⟩]; simp [h]
     ·rw [if_neg (λ q=>h3 q.2)]
      rw [decide_eq_true h,Bool.true_and]
      obtain ⟨y,hy,he⟩:=List.any_eq_true.1 (by simpa using h3:o.any (λ y=>decide (y=x.name))=true)
      have he:=of_decide_eq_true he
      subst he
      cases hg:g x.name with
      | true=>rw [List.any_eq_true.2 ⟨_,hy,hg⟩]; rfl
      | false=>simp
    ·rw [if_neg (λ q=>h q.1)]; simp [h]
   rw [h2,List.any_cons,Bool.or_assoc]
 exact (this xs []).trans (by simp)
theorem place_any (ns:List ByteArray) (s:ByteArray):decide (0<=placeM ns s)=ns.any λ y=>decide (y=s):=idxF_any _ _
theorem place_neg (ns:List ByteArray) (s:ByteArray):decide (placeM ns s<0) = !ns.any λ y=>decide (y=s):=by
 rw [<- place_any]
 by_cases h:0<=placeM ns s
 ·rw [decide_eq_true h,decide_eq_false (by omega)]; rfl
 rw [decide_eq_false h,decide_eq_true (by omega)]; rfl
theorem wants_kids {k:Int} (h:0<=kids k):wantsM k=kids k:=by unfold wantsM kids at *; grind
theorem makeE_8 {ns:List ByteArray} {xs:List TNode} (h:rightE xs=false):makeE ns xs=8:=by unfold makeE; rw [if_pos h]
theorem makeE_n {ns:List ByteArray} {xs:List TNode} (h:rightE xs=true):makeE ns xs=if (namesMq xs).any (λ s=>!ns.any λ y=>decide (y=s))=true then 9 else 0:=by
 unfold makeE
 rw [if_neg (by simp [h]),namesM_any]
 simp only [place_neg]
theorem makeL_no {ns:List ByteArray} {xs:List TNode} (h:¬ makeE ns xs=0):makeL ns xs=[]:=by unfold makeL; rw [if_neg h]
def valN (ns:List ByteArray) (nums:List Int) (xs:List TNode):Int × Int:=if ns.length=nums.length then (if makeE ns xs=0 then runM (makeL ns xs) nums else (0,makeE ns xs)) else (0,1)
theorem C138 (sv:Value) (ns:List ByteArray) (s:ByteArray) (w:World) (hL:RdL (λ _=>True) w sv ns) (hn:ns.length<=1048576):CR 138 [sv,.string s] w (λ v w'=>v = .int .i64 (placeM ns s)/\Ext w w'):=by
 have hs:=St.start w;refine S138_ok _ _ _ _ ?_;unfold S138;refine pop_len sl32 (hL.ext hs.chg) ?_;refine ⟨λ m x w1=>∃ k:Nat,x = .int .i64 (k:Int)/\m=ns.length - k/\k<=ns.length/\(∀ y∈ns.take k,decide (y=s)=false)/\St w none1 [] w1,⟨_,0,rfl,rfl,Nat.zero_le _,by simp,hs⟩,?_⟩;rintro m _ w1 ⟨k,rfl,rfl,hk,hno,hs⟩ _;refine pop_lss (cond_d (λ c_x9=>?_) (λ _=>⟨congrArg (Value.int .i64) (idxF_none (by rw [List.take_of_length_le (by omega)] at hno; exact hno)).symm,hs.chg⟩));obtain ⟨e_x14,he_x14⟩:=gx (ns) (i:=((k:Int)).toNat) (by omega);exact pop_idx sl32 hL (by omega) he_x14 (λ _ h_x14=>qop_at ty9 (h_x14.ext hs.chg) (pop_streq (cond_d (λ c_x16=>⟨congrArg (Value.int .i64) (idxF_at hno he_x14 (decide_eq_true c_x16.symm)).symm,hs.chg⟩) (λ c_x16=>pop_add (by omega) ⟨_,by omega,k+1,rfl,rfl,by omega,take_all hno he_x14 (decide_eq_false (λ h=>c_x16 h.symm)),hs⟩))))
theorem C186 (sv:Value) (ns:List ByteArray) (s:ByteArray) (w:World) (hL:RdL (λ _=>True) w sv ns) (hn:ns.length<=1048576):CR 186 [sv,.string s] w (λ v w'=>v = .bool (ns.any λ y=>decide (y=s))/\Ext w w'):=by
 have hs:=St.start w;refine S186_ok _ _ _ _ ?_;unfold S186;exact callP pl138 hs (C138 _ _ _ _ (hL.ext hs.chg) (by omega)) (λ _ _ hs=>pop_geq ⟨vb (place_any _ _),hs.chg⟩)
theorem C199 (sv fv:Value) (xs:List ByteArray) (g:ByteArray->Bool) (w:World) (hL:RdL (λ _=>True) w sv xs) (hf:FnOn w fv g) (hn:xs.length<=1073741824):CR 199 [sv,fv] w (λ v w'=>v = .int .i64 (idxF g xs)/\Ext w w'):=by
 obtain ⟨g0,first,cap,rfl,hpl,hcall⟩:=hf;have hs:=St.start w;refine S199_ok _ _ _ _ ?_;unfold S199;refine pop_len sl32 (hL.ext hs.chg) ?_;refine ⟨λ m x w1=>∃ k:Nat,x = .int .i64 (k:Int)/\m=xs.length - k/\k<=xs.length/\(∀ y∈xs.take k,g y=false)/\St w none1 [] w1,⟨_,0,rfl,rfl,Nat.zero_le _,by simp,hs⟩,?_⟩;rintro m _ w1 ⟨k,rfl,rfl,hk,hno,hs⟩ _;refine pop_lss (cond_d (λ c_x9=>?_) (λ _=>⟨congrArg (Value.int .i64) (idxF_none (by rw [List.take_of_length_le (by omega)] at hno; exact hno)).symm,hs.chg⟩));obtain ⟨e_x14,he_x14⟩:=gx (xs) (i:=((k:Int)).toNat) (by omega);refine pop_idx sl32 hL (by omega) he_x14 (λ _ h_x14=>qop_at ty9 (h_x14.ext hs.chg) ?_)
 refine callV hpl (hcall e_x14 w1 hs.chg) ?_;rintro _ _ ⟨rfl,he⟩;have hs:=hs.ext he;exact cond_b (λ c_x16=>⟨congrArg (Value.int .i64) (idxF_at hno he_x14 c_x16).symm,hs.chg⟩) (λ c_x16=>pop_add (by omega) ⟨xs.length - (k+1),by omega,k+1,rfl,rfl,by omega,take_all hno he_x14 c_x16,hs⟩)
theorem C167 (sv fv:Value) (xs:List ByteArray) (g:ByteArray->Bool) (w:World) (hL:RdL (λ _=>True) w sv xs) (hf:FnOn w fv g) (hn:xs.length<=1073741824):CR 167 [sv,fv] w (λ v w'=>v = .bool (xs.any g)/\Ext w w'):=by
 have hs:=St.start w;refine S167_ok _ _ _ _ ?_;unfold S167;exact callP pl199 hs (C199 _ _ _ _ _ (hL.ext hs.chg) (hf.ext hs.chg) (by omega)) (λ _ _ hs=>pop_geq ⟨vb (idxF_any _ _),hs.chg⟩)
theorem C187 (lv:Value) (xs:List TNode) (w:World) (hL:RdL (λ _=>True) w lv xs) (hn:xs.length<=1048576) (hr:rightE xs=true):CR 187 [lv] w (λ v w'=>New (ownL v (namesMq xs)) w w'):=by
 have hs:=St.start w;refine S187_ok _ _ _ ?_;unfold S187;refine callP pl123 hs (C123 _ _ _ (hL.ext hs.chg) (by omega)) (λ w1 he hs=>pop_not (cond_b (λ c_x8=>?_) (λ c_x8=>?_)))
 ·rw [hr] at c_x8; cases c_x8
 refine pop_len sl22 (hL.ext hs.chg) ?_;refine ⟨λ m out3 x w1=>∃ k:Nat,x = .int .i64 (k:Int)/\m=xs.length - k/\k<=xs.length/\St w none1 [ownL out3 (namesMq (xs.take k))] w1,⟨_,0,rfl,rfl,by omega,hs.ownNil (α:=ByteArray)⟩,?_⟩;rintro m out3 _ _ ⟨k,rfl,rfl,hk,hs⟩ _;refine pop_lss (cond_d (λ c_x12=>?_) (λ c_x12=>?_))
 ·obtain ⟨e_x13,he_x13⟩:∃ xx,(xs)[((k:Int)).toNat]? = some xx:=⟨_,List.getElem?_eq_getElem (by omega)⟩;refine ⟨λ jv w'=>St w none1 [ownL jv (namesFq (namesMq (xs.take k)) e_x13)] w',?_,?_⟩
  ·have hnl:=namesMq_len (xs.take k);rw [List.length_take] at hnl;refine pop_idx sl22 hL (by omega) he_x13 (λ _ h_x13=>qop_at ty26 (h_x13.ext hs.chg) (eop_allocA hs zero26 (λ b_x5 _ hs=>uop_blkV (x:=e_x13) hs ty26 rfl rfl (λ _ hs=>⟨λ jv w'=>jv = .bool (decide (e_x13.op=2) && !(namesMq (xs.take k)).any (λ y=>decide (y=e_x13.name)))/\St w none1 [blk b_x5 (Flat.enc e_x13),ownL out3 (namesMq (xs.take k))] w',pop_field fld26_0 (qop_blk (v:=.int .i64 ((e_x13).op)) ty3 hs.hb rfl (pop_eql (cond_d (λ _=>pop_field fld26_2 (qop_blk (v:=.string ((e_x13).name)) ty9 hs.hb rfl (callP pl186 hs (C186 _ _ _ _ (hs.p1).rd' (by omega)) (λ _ _ hs=>pop_not ⟨vb (by grind),hs⟩)))) (λ _=>⟨vb (by grind),hs⟩)))),?_⟩))))
   rintro _ _ ⟨rfl,hs⟩ _;refine cond_b (λ c_x24=>?_) (λ c_x24=>?_)
   ·refine pop_field fld26_2 (qop_blk (v:=.string ((e_x13).name)) ty9 hs.hb rfl ?_);refine eop_build ([e_x13.name]) hs sl32 rfl rfl (leb rfl) (λ s_x28 _ hs=>?_);have hr_x29:=(hs).rd';refine eop_append hs.p2 sl32 hr_x29 (by simp <;> omega) (by decide) (λ s_x29 _ hs=>?_);have hs:=hs.p1.drop;rw [namesF_y (by simpa using c_x24)];exact hs.p1.drop
   rw [namesF_n (by simpa using c_x24)];exact hs.drop
  rintro out3_1 _ hs _;exact pop_add (by omega) ⟨_,by omega,k+1,rfl,rfl,by omega,by rw [namesM_snoc (k:=k) he_x13]; exact hs⟩
 rw [List.take_of_length_le (by omega)] at hs;exact hs.fresh
theorem rdl_one {α:Type} [Flat α] {S:Nat->Prop} {w:World} {v:Value} {xs:List α} (h:RdL S w v xs):oneC v=true:=by obtain ⟨a,c,rfl,_⟩:=h; rfl
theorem makeL_len (ns:List ByteArray) (xs:List TNode):(makeL ns xs).length<=xs.length:=by
 unfold makeL
 split
 ·unfold stepsM
  cases h:exOf xs with
  | none=>exact Nat.zero_le _
  | some t=>
   rw [Ex.steps_len,<- Ex.flat_len,<- (exOf_sound h).2]; exact Nat.le_refl _
 exact Nat.zero_le _
theorem C188 (lv nv:Value) (xs:List TNode) (ns:List ByteArray) (i:Int) (t:Ex) (N:Nat) (w:World) (hL:RdL (λ _=>True) w lv xs) (hN:RdL (λ _=>True) w nv ns) (hn:xs.length<=1048576) (hns:ns.length<=1048576) (hT:AtT xs i t) (hNt:t.size<N):CR 188 [lv,.int .i64 i,nv] w (λ v w'=>New (ownL v (t.steps ns)) w w'):=by
 obtain ⟨e_q,hq,he_q⟩:∃ e,e=t.root/\xs[(i).toNat]? = some e:=⟨_,rfl,hT.root.1⟩;have hri:=hT.root.2;have hie:=hT.end;have hke:=Ex.kids_len hT.2.1;rw [<- hq] at hke;have hkb:=kids_b e_q.op;have hi0:=hT.1;have hwk:=wants_kids (k:=e_q.op) (by omega);have hs:=St.start w;refine S188_ok _ _ _ _ _ ?_;unfold S188;refine pop_add (by omega) (pop_idx sl22 hL (by omega) he_q (λ _ h_x14=>?_));refine pop_atf (e_q).op fld26_0 h_x14 rfl rfl (λ _ h_x15=>qop_at ty3 (h_x15.ext hs.chg) ?_);refine callP pl190 hs (C190 _ _) (λ w1 he hs=>?_);refine ⟨λ m out7 a x w1=>∃ k:Nat,a = .int .i64 (i+1+lenK t.kidsL k)/\x = .int .i64 (k:Int)/\m=t.kidsL.length - k/\k<=t.kidsL.length/\St w none1 [ownL out7 (stK ns t.kidsL k)] w1,⟨_,0,congrArg (Value.int .i64) (by simp [lenK]),rfl,rfl,by omega,hs.ownNil (α:=TOp)⟩,?_⟩
 rintro m out7 _ _ _ ⟨k,rfl,rfl,rfl,hk,hs⟩ _;refine pop_lss (cond_d (λ c_x19=>?_) (λ c_x19=>?_))
 ·obtain ⟨a,he_a⟩:∃ a,t.kidsL[k]? = some a:=⟨_,List.getElem?_eq_getElem (by omega)⟩;have hka:=Ex.kid_wf hT.2.1 (List.mem_of_getElem? he_a);have hAk:=hT.kid he_a;have hen:=hAk.end;have hdb:=a.depth_b;have hsl:=stK_len (ns:=ns) (ks:=t.kidsL) (k:=k);have hal:=Ex.steps_len ns a;refine callN pl188 hs (C188 _ _ _ _ _ _ (N - 1) _ (hL.ext hs.chg) (hN.ext hs.chg) hn hns hAk (by omega)) (λ x24 _ hnew hs=>?_);have hr_x25:=(hs).rd';exact eop_append hs.p1 sl233 hr_x25 (by omega) (by decide) (λ _ _ hs=>have hs:=hs.p1.drop;callP pl172 hs (C172 _ _ _ _ (hL.ext hs.chg) (by omega)) (λ _ _ hs=>pop_add (by omega) ⟨_,by omega,k+1,congrArg (Value.int .i64) (by rw [hen.1,lenK_succ he_a]; omega),rfl,rfl,by omega,by rw [stK_succ he_a]; exact hs⟩))
 have hsl:=stK_len (ns:=ns) (ks:=t.kidsL) (k:=k);refine pop_idx sl22 hL (by omega) he_q (λ _ h_x32=>pop_atf (e_q).op fld26_0 h_x32 rfl rfl (λ _ h_x33=>?_));have hs:=hs.drew;refine qop_at ty3 (h_x33.ext hs.chg) (pop_idx sl22 hL (by omega) he_q (λ _ h_x37=>?_));refine pop_atf (e_q).n fld26_1 h_x37 rfl rfl (λ _ h_x38=>qop_at ty3 (h_x38.ext hs.chg) ?_);refine pop (bld274_0_1 _ _) (eop_allocA hs zero274 (λ b_x9 _ hs=>?_));refine ⟨run_at ty3 (h_x33.ext hs.chg),?_⟩;refine ⟨run_at ty3 (h_x38.ext hs.chg),?_⟩;refine uop_blkV (x:=(⟨(e_q).op,(e_q).n⟩:TOp)) hs ty274 rfl rfl (λ _ hs=>⟨λ w'=>St w none1 [blk b_x9 (Flat.enc (⟨e_q.op,Ex.numOf ns e_q⟩:TOp)),ownL out7 (stK ns t.kidsL k)] w',pop_field fld274_0 (qop_blk (v:=.int .i64 (((⟨(e_q).op,(e_q).n⟩:TOp)).kind)) ty3 hs.hb rfl (pop_eql (cond_d (λ c_x43=>?_) (λ c_x43=>?_)))),?_⟩)
 ·refine pop_idx sl22 hL (by omega) he_q (λ _ h_x47=>pop_atf (e_q).name fld26_2 h_x47 rfl rfl (λ _ h_x48=>?_));refine qop_at ty9 (h_x48.ext hs.chg) (callP pl138 hs (C138 _ _ _ _ (hN.ext hs.chg) (by omega)) (λ _ he hs=>?_));refine pop_field fld274_1 (uop_blk hs ty3 (leb rfl) (rfl) (λ _ hs=>?_));have hs:=hs.enc (cs':=Flat.enc ({ (⟨(e_q).op,(e_q).n⟩:TOp) with n:=(placeM ns (e_q).name)}:TOp)) rfl;have hnm:Ex.numOf ns e_q=placeM ns (e_q).name:=if_pos c_x43;rw [<- hnm] at hs;exact hs
 ·have hnm:Ex.numOf ns e_q=e_q.n:=if_neg c_x43;rw [<- hnm] at hs;exact hs
 rintro _ hs _;refine qop_at ty274 hs.At (eop_build ([(⟨e_q.op,Ex.numOf ns e_q⟩:TOp)]) hs sl233 rfl rfl (leb rfl) (λ s_x54 _ hs=>?_));have hr_x55:=(hs).rd';refine eop_append hs.p2 sl233 hr_x55 (by rw [hsl,List.length_singleton]; have:(t.steps ns).length=t.size:=Ex.steps_len ns t; rw [Ex.steps_kids,List.length_append,List.length_singleton,<- show k=t.kidsL.length from by omega] at this; omega) (by decide) (λ s_x55 _ hs=>?_);have hs:=hs.p1.drop;rw [Ex.steps_kids,<- show k=t.kidsL.length from by omega,<- hq];exact hs.p1.drop.fresh
termination_by N
decreasing_by all_goals omega
theorem C185 (s:ByteArray) (b2:Nat) (nv:Value) (ns:List ByteArray) (w:World) (hc:Cell w b2 0 nv) (hN:RdL (λ _=>True) w nv ns) (hns:ns.length<=1048576):CR 185 [.string s,.pointer (some ⟨b2,0,none⟩)] w (λ v w'=>v = .bool (!ns.any λ y=>decide (y=s))/\Ext w w'):=by
 have hs:=St.start w;refine S185_ok _ _ _ _ ?_;unfold S185;exact qop_cell ty32 (hc.ext hs.chg) (callP pl186 hs (C186 _ _ _ _ (hN.ext hs.chg) (by omega)) (λ _ _ hs=>pop_not ⟨rfl,hs.chg⟩))
theorem C153 (lv nv:Value) (xs:List TNode) (ns:List ByteArray) (w:World) (hL:RdL (λ _=>True) w lv xs) (hN:RdL (λ _=>True) w nv ns) (hn:xs.length<=1048576) (hns:ns.length<=1048576):CR 153 [lv,nv] w (λ v w'=>∃ s,v = .tuple #[s,.int .i64 (makeE ns xs)]/\New (ownL s (makeL ns xs)) w w'):=by
 have hs:=St.start w;refine S153_ok _ _ _ _ ?_;unfold S153;refine eop_box1 hs (rdl_one hN) (λ b_names3 w1 hs=>callP pl123 hs (C123 _ _ _ (hL.ext hs.chg) (by omega)) (λ _ he hs=>pop_not (cond_b (λ c_x9=>?_) (λ c_x9=>?_))))
 ·have h8:makeE ns xs=8:=makeE_8 (by simpa using c_x9);refine ⟨_,by rw [h8],?_⟩;rw [makeL_no (by rw [h8]; decide)];exact (hs.drop.ownNil (α:=TOp)).fresh
 have hre:rightE xs=true:=by simpa using c_x9
 have hnl:=namesMq_len xs;have hge:=makeE_n (ns:=ns) hre;refine callN pl187 hs (C187 _ _ _ (hL.ext hs.chg) hn hre) (λ x12 _ hnew hs=>?_)
 have hfn:FnOn _ (.func (.func 185) [].toArray [.pointer (some ⟨b_names3,0,none⟩)].toArray) (λ s=>!ns.any λ y=>decide (y=s)):=
  ⟨185,[],_,rfl,pl185,λ y w1 e1=>C185 y b_names3 nv ns w1 ((hs.p1.hb.cell rfl).ext e1) ((hN.ext hs.chg).ext e1) hns⟩
 refine callP pl167 hs (C167 _ _ _ _ _ (hs).rd' hfn (by omega)) (λ _ he hs=>cond_b (λ c_x14=>?_) (λ c_x14=>?_))
 ·have h9:makeE ns xs=9:=by rw [hge,if_pos c_x14]
  refine ⟨_,by rw [h9],?_⟩;rw [makeL_no (by rw [h9]; decide)];exact (hs.drop.drop.ownNil (α:=TOp)).fresh
 refine qop_blk ty32 hs.p1.hb rfl ?_;have h0:makeE ns xs=0:=by rw [hge,if_neg (by simpa using c_x14)]
 have h14:=rightE_end hre;obtain ⟨t,ht⟩:=AtT.of (xs:=xs) (i:=0) (by omega);have hz:=ht.zero h14;refine callN pl188 hs (C188 _ _ _ _ _ t (t.size+1) _ (hL.ext hs.chg) (hN.ext hs.chg) hn hns ht (by omega)) (λ x17 _ hnew hs=>?_);refine ⟨x17,by rw [h0],?_⟩;unfold makeL stepsM;rw [if_pos h0,hz.2];exact hs.p1.drop.p1.drop.fresh
theorem C99 (lv nv mv:Value) (xs:List TNode) (ns:List ByteArray) (nums:List Int) (w:World) (hL:RdL (λ _=>True) w lv xs) (hN:RdL (λ _=>True) w nv ns) (hM:RdL (λ _=>True) w mv nums) (hn:xs.length<=1048576) (hns:ns.length<=1048576):CR 99 [lv,nv,mv] w (λ v w'=>v = .tuple #[.int .i64 (valN ns nums xs).1,.int .i64 (valN ns nums xs).2]/\Ext w w'):=by
 have hs:=St.start w;refine S99_ok _ _ _ _ _ ?_;unfold S99;refine pop_len sl32 (hN.ext hs.chg) (pop_len sl45 (hM.ext hs.chg) (pop_neq (cond_d (λ c_x14=>?_) (λ c_x14=>?_))))
 ·refine ⟨?_,hs.chg⟩;unfold valN;rw [if_neg (by omega)]
 refine callF pl153 (C153 _ _ _ _ _ (hL.ext hs.chg) (hN.ext hs.chg) (by omega) (by omega)) ?_;rintro None _ ⟨s_x18,rfl,hnew⟩;have hs:=hs.made hnew;refine pop_ext rfl (pop_ext rfl (pop_neq (cond_d (λ c_x22=>?_) (λ c_x22=>?_))))
 ·refine ⟨?_,hs.chg⟩;unfold valN;rw [if_pos (by omega),if_neg c_x22]
 have hml:=makeL_len ns xs;refine callP pl154 hs (C154 _ _ _ _ _ (hs).rd' (hM.ext hs.chg) (by omega)) (λ _ he hs=>pop_ext rfl ?_);refine pop_ext rfl ?_;refine ⟨?_,hs.chg⟩;unfold valN;rw [if_pos (by omega),if_pos (by simpa using c_x22)]
end Go.Proofs.YtfkgkbhbdffckaaGreatDoor
namespace Go.Fw
theorem run_genA {P:Program} (hm:P.follows .mixedOrders=true) {L:List Nat} {pls:Nat->Nat->PT} (hall:List.all L (okF P pls)=true) {f g:Nat} {k:V->Hp->Bool} {args:V} {xs:List Value} (hA:RLs (λ _=>none) args xs)
  (hrun:okKB (evF P (onlyF L (prepF P pls)) f (.f g .e) args .lf 0) k=true) (w:World) :
  Calls P g xs.toArray w (Ret fun (y:Value) (w':World)=>Ext w w'/\∃ v h ρ,k v h=true/\RH P ⟨λ r=>w.heap[r]?,w⟩ ρ h w'/\RV ρ v y):=by
 obtain ⟨v,h',n',hx,hk⟩:=okKB_ok hrun
 have hR:RH P ⟨λ r=>w.heap[r]?,w⟩ (λ _=>none) .lf w:=⟨λ _ _=>rfl,λ _ hl=>hl.elim,λ _ _ _ _ hl=>hl.elim,λ _ _ hr=>hr,λ _ _ hl=>hl.elim,rfl,rfl,rfl⟩
 have:=evF_sound hm hall f _ _ _ _ _ _ _ hx ⟨λ r=>w.heap[r]?,w⟩ (λ _=>none) w (.func (.func g) #[] #[]) xs ⟨[],rfl,rfl⟩ hA hR
 rcases this.ex with ⟨g',first,cap,q1,_,q3⟩ | ⟨l,q1,_⟩
 case inr=>cases q1
 injection q1 with q1 q2 q4
 injection q1 with q1
 subst q1; subst q2; subst q4
 have q5:Calls P g xs.toArray w (Ret (Pst P ⟨λ r=>w.heap[r]?,w⟩ (λ _=>none) v h')):=by simpa using q3
 refine q5.mono λ x w' ⟨y,hx,ρ',_,hR',hv⟩=>⟨y,hx,⟨hR'.st.1,hR'.st.2.1,hR'.st.2.2,?_,λ b hb _=>?_⟩,v,h',ρ',hk,hR',hv⟩
 ·rcases Nat.eq_zero_or_pos w.heap.size with h0 | h0
  ·omega
  have hlt:w.heap.size - 1<w.heap.size:=by omega
  have:=(Array.getElem?_eq_some_iff.1 (hR'.keep (w.heap.size - 1) _ (Array.getElem?_eq_getElem hlt))).1
  omega
 rw [hR'.keep b _ (Array.getElem?_eq_getElem hb),Array.getElem?_eq_getElem hb]
end Go.Fw
namespace Go.Proofs.YtfkgkbhbdffckaaGreatDoor
open Go.Fw
variable (w:World) (K:Value->World->Prop)
def S225 (kind0:Value):Prop:=
 Join1 (λ K1=>bB .lss 3 kind0 (i 0) λ a=>cV a (K1 tt w) (bB .geq 3 kind0 (i 15) λ b=>K1 b w)) (λ c d=>∀ _:Env,
 cV c (K (Go.Value.string (ByteArray.mk (#[]))) d) (cF 249 [] d λ e f=>Pop Tryz.prog (Instr.index 314 e kind0) λ g=>K g f))
theorem S225_ok (kind0:Value) (h:S225 w K kind0):CR 225 [kind0] w K:=
 okG 12 (λ _=>.nil) 4 [.tmp 2] Tryz.func225 h
def S201 (a:Value):Prop:=
 Eop Tryz.prog (Instr.box 24 a) w λ b c=>fA 24 b 0 λ d=>lA 3 d c λ e=>cF 225 [e] c λ f g=>aL 9 g λ h3 h=>sA 9 h3 f h λ j=>fA 24 b 5 λ k=>lA 3 k j λ l=>bB .eql 3 l (i 0) λ n=>
 Join1 (λ K1=>CallV Tryz.prog (.func (Go.Fn.func 226) [].toArray [h3].toArray) [(Go.Value.string (ByteArray.mk (#[107])))] j λ o p=>cV o (fA 24 b 5 λ q=>lA 3 q p λ r=>bB .geq 3 r (i 1) λ s=>
 cV s (fA 24 b 5 λ t=>lA 3 t p λ u=>bB .leq 3 u (i 8) λ v=>K1 v p) (K1 ff p)) (K1 n p)) (λ rounds7 x=>∀ _:Env,
 Join1 (λ K2=>fA 24 b 0 λ y=>lA 3 y x λ z=>bB .geq 3 z (i 1) λ aa=>cV aa (fA 24 b 0 λ ab=>lA 3 ab x λ ac=>bB .lss 3 ac (i 15) λ ad=>cV ad (fA 24 b 8 λ ae=>lA 3 ae x λ af=>
 bB .geq 3 af (i 0) λ ag=>cV ag (fA 24 b 8 λ ah=>lA 3 ah x λ ai=>bB .leq 3 ai (i 4000) λ aj=>cV aj (K2 rounds7 x) (K2 ff x)) (K2 ff x)) (K2 ff x)) (K2 ff x)) (λ ok8 ak=>∀ _:Env,
 Join1 (λ K3=>Pop Tryz.prog (Op.unary .not ok8) λ al=>cV al (K3 tt (drew ak)) (fA 24 b 1 λ am=>lA 9 am (drew ak) λ an=>CallV Tryz.prog (.func (Go.Fn.func 226) [].toArray [h3].toArray) [(Go.Value.string (ByteArray.mk (#[114])))] (drew ak) λ ao ap=>
 kA 9 am an ap (CallV Tryz.prog (.func (.func 228) #[] #[]) [ao,an] ap λ aq ar=>Pop Tryz.prog (Op.unary .not aq) λ asx=>cV asx (K3 tt ar) (fA 24 b 2 λ au=>lA 9 au ar λ av=>
 CallV Tryz.prog (.func (Go.Fn.func 226) [].toArray [h3].toArray) [(Go.Value.string (ByteArray.mk (#[110])))] ar λ aw ax=>kA 9 au av ax (CallV Tryz.prog (.func (.func 228) #[] #[]) [aw,av] ax λ ay az=>
 Pop Tryz.prog (Op.unary .not ay) λ a0=>cV a0 (K3 tt az) (fA 24 b 3 λ a1=>lA 22 a1 az λ a2=>CallV Tryz.prog (.func (Go.Fn.func 226) [].toArray [h3].toArray) [(Go.Value.string (ByteArray.mk (#[101])))] az λ a3 a4=>
 kA 22 a1 a2 a4 (CallV Tryz.prog (.func (.func 229) #[] #[]) [a3,a2] a4 λ a5 a6=>Pop Tryz.prog (Op.unary .not a5) λ a7=>cV a7 (K3 tt a6) (fA 24 b 4 λ a8=>lA 22 a8 a6 λ a9=>
 CallV Tryz.prog (.func (Go.Fn.func 226) [].toArray [h3].toArray) [(Go.Value.string (ByteArray.mk (#[102])))] a6 λ ba bb=>kA 22 a8 a9 bb (CallV Tryz.prog (.func (.func 229) #[] #[]) [ba,a9] bb λ bc bd=>
 Pop Tryz.prog (Op.unary .not bc) λ be=>K3 be bd))))))))) (λ bf bg=>∀ _:Env,
 K bf bg)))
def P201:Plans:=λ i=>match i with
 | 9=>(.of [(0,[]),(1,[]),(2,[]),(3,[]),(4,[]),(6,[]),(7,[]),(5,[7]),(8,[]),(9,[]),(10,[]),(11,[]),(12,[]),(13,[]),(15,[]),(16,[]),(14,[16]),(17,[]),(18,[]),(19,[]),(20,[]),(21,[]),(22,[]),(24,[]),(25,[]),(23,[25]),(26,[]),(27,[]),(28,[]),(29,[]),(30,[]),(31,[]),(33,[]),(34,[]),(32,[34]),(35,[]),(36,[]),(37,[]),(38,[])])
 | _=>.nil
theorem S201_ok (x0:Value) (h:S201 w K x0):CR 201 [x0] w K:=
 okG 85 P201 4 [.tmp 2] Tryz.func201 h
def S226 (c0 a:Value):Prop:=
 lA 9 a w λ b=>cF 227 [b,c0] w λ c d=>K c d
theorem S226_ok (c0 x1:Value) (h:S226 w K c0 x1):CR 226 [c0,x1] w K:=
 okG 7 (λ _=>.nil) 8 [.tmp 3] Tryz.func226 h
def S228 (is0 s1:Value):Prop:=
 Join1 (λ K1=>cV is0 (cF 118 [s1] w λ a b=>cV a (K1 tt b) (Pop Tryz.prog (Op.unary .not is0) λ c=>cV c (Pop Tryz.prog (binS .eql 9 false true s1 (Go.Value.string (ByteArray.mk (#[])))) λ d=>
 K1 d b) (K1 ff b))) (Pop Tryz.prog (Op.unary .not is0) λ e=>cV e (Pop Tryz.prog (binS .eql 9 false true s1 (Go.Value.string (ByteArray.mk (#[])))) λ f=>K1 f w) (K1 ff w))) (λ g h=>∀ _:Env,
 K g h)
theorem S228_ok (is0 s1:Value) (h:S228 w K is0 s1):CR 228 [is0,s1] w K:=
 okG 18 (λ _=>.nil) 16 [.tmp 4] Tryz.func228 h
def S229 (is0 l1:Value):Prop:=
 Join1 (λ K1=>cV is0 (cF 123 [l1] w λ a b=>cV a (K1 tt b) (Pop Tryz.prog (Op.unary .not is0) λ c=>cV c (lN 22 l1 λ d=>bB .eql 3 d (i 0) λ e=>K1 e b) (K1 ff b))) (Pop Tryz.prog (Op.unary .not is0) λ f=>
 cV f (lN 22 l1 λ g=>bB .eql 3 g (i 0) λ h=>K1 h w) (K1 ff w))) (λ j k=>∀ _:Env,
 K j k)
theorem S229_ok (is0 l1:Value) (h:S229 w K is0 l1):CR 229 [is0,l1] w K:=
 okG 19 (λ _=>.nil) 16 [.tmp 4] Tryz.func229 h
def S202 (l0 loops1:Value):Prop:=
 Loop2 (λ K1 n5 i6 a=>∀ _:Env,
 lN 27 l0 λ b=>bA .lss 3 i6 b λ c=>cV c (iA 27 l0 i6 λ d=>lA 24 d a λ e=>aL 24 a λ f g=>sA 24 f e g λ h=>bB .add 3 i6 (i 1) λ j=>fA 24 f 6 λ k=>lA 3 k h λ l=>
 bA .add 3 j l λ n=>fA 24 f 7 λ o=>lA 3 o h λ p=>bA .add 3 n p λ q=>Join1 (λ K2=>fA 24 f 0 λ r=>lA 3 r h λ s=>bB .eql 3 s (i 11) λ t=>cV t (K2 tt h) (fA 24 f 0 λ u=>
 lA 3 u h λ v=>bB .eql 3 v (i 12) λ x=>K2 x h)) (λ blocks9 y=>∀ _:Env,
 Join1 (λ K3=>fA 24 f 6 λ z=>lA 3 z y λ aa=>bB .lss 3 aa (i 0) λ ab=>cV ab (K3 tt y) (fA 24 f 7 λ ac=>lA 3 ac y λ ad=>bB .lss 3 ad (i 0) λ ae=>cV ae (K3 tt y) (
 fA 24 f 6 λ af=>lA 3 af y λ ag=>lN 27 l0 λ ah=>bA .gtr 3 ag ah λ ai=>cV ai (K3 tt y) (fA 24 f 7 λ aj=>lA 3 aj y λ ak=>lN 27 l0 λ al=>bA .gtr 3 ak al λ am=>
 cV am (K3 tt y) (lN 27 l0 λ an=>bA .gtr 3 q an λ ao=>K3 ao y))))) (λ ap aq=>∀ _:Env,
 cV ap (K (i (-1)) aq) (Join1 (λ K4=>Join1 (λ K5=>Pop Tryz.prog (Op.unary .not blocks9) λ ar=>cV ar (fA 24 f 6 λ asx=>lA 3 asx aq λ au=>bB .gtr 3 au (i 0) λ av=>K5 av aq) (
 K5 ff aq)) (λ aw ax=>∀ _:Env,
 cV aw (K4 aw ax) (Join1 (λ K6=>fA 24 f 0 λ ay=>lA 3 ay ax λ az=>bB .neq 3 az (i 11) λ a0=>cV a0 (fA 24 f 7 λ a1=>lA 3 a1 ax λ a2=>bB .gtr 3 a2 (i 0) λ a3=>K6 a3 ax) (
 K6 ff ax)) (λ a4 a5=>∀ _:Env,
 cV a4 (K4 a4 a5) (fA 24 f 0 λ a6=>lA 3 a6 a5 λ a7=>bB .eql 3 a7 (i 13) λ a8=>cV a8 (bB .eql 3 loops1 (i 0) λ a9=>K4 a9 a5) (K4 ff a5)))))) (λ ba bb=>∀ _:Env,
 cV ba (K (i (-1)) bb) (Join1 (λ K7=>cV blocks9 (fA 24 f 0 λ bc=>lA 3 bc bb λ bd=>bB .eql 3 bd (i 12) λ be=>cF 220 [be] bb λ bf bg=>bA .add 3 loops1 bf λ bh=>bB .add 3 i6 (i 1) λ bi=>
 bB .add 3 i6 (i 1) λ bj=>fA 24 f 6 λ bk=>lA 3 bk (drew bg) λ bl=>bA .add 3 bj bl λ bm=>Pop Tryz.prog (Instr.sliceAt 27 l0 (some bi) (some bm) none) λ bn=>bB .add 3 i6 (i 1) λ bo=>
 fA 24 f 6 λ bp=>lA 3 bp (drew bg) λ bq=>bA .add 3 bo bq λ br=>Pop Tryz.prog (Instr.sliceAt 27 l0 (some br) (some q) none) λ bs=>cF 202 [bn,bh] (drew bg) λ bt bu=>kA 3 bp bq bu (
 cF 202 [bs,bh] bu λ bv bw=>Join1 (λ K8=>bB .eql 3 bt (i (-1)) λ bx=>cV bx (K8 tt bw) (bB .eql 3 bv (i (-1)) λ bz=>K8 bz bw)) (λ b0 b1=>∀ _:Env,
 cV b0 (K (i (-1)) b1) (bB .add 3 bt (i 1) λ b2=>bB .add 3 bv (i 1) λ b3=>Pop Tryz.prog (Builtin.max_ #[3,3,3] 3 [n5,b2,b3].toArray) λ b4=>K7 b4 b1)))) (K7 n5 bb)) (λ n5_1 b5=>∀ _:Env,
 K1 n5_1 q b5))))))) (K n5 a)) (λ K1=>K1 (i 0) (i 0) w)
def P202:Plans:=λ i=>match i with
 | 15=>(.of [(0,[]),(1,[]),(2,[]),(3,[]),(4,[]),(5,[]),(6,[]),(7,[]),(8,[]),(9,[]),(11,[]),(12,[]),(13,[]),(14,[]),(15,[]),(16,[]),(17,[]),(18,[]),(19,[]),(10,[15]),(20,[]),(21,[]),(22,[])])
 | _=>.nil
theorem S202_ok (l0 loops1:Value) (h:S202 w K l0 loops1):CR 202 [l0,loops1] w K:=
 okG 131 P202 16 [.tmp 4] Tryz.func202 h
def S168 (l0:Value):Prop:=
 Join1 (λ K1=>lN 27 l0 λ a=>bB .gtr 3 a (i 40) λ b=>cV b (K1 tt w) (cF 200 [l0,(.func (.func 201) #[] #[])] w λ c d=>K1 c d)) (λ e f=>∀ _:Env,
 cV e (K ff f) (cF 202 [l0,(i 0)] f λ g h=>Join1 (λ K2=>bB .neq 3 g (i (-1)) λ j=>cV j (bB .leq 3 g (i 12) λ k=>K2 k h) (K2 ff h)) (λ l n=>∀ _:Env,
 K l n)))
theorem S168_ok (l0:Value) (h:S168 w K l0):CR 168 [l0] w K:=
 okG 19 (λ _=>.nil) 4 [.tmp 2] Tryz.func168 h
def S63 (p0:Value):Prop:=
 Eop Tryz.prog (Instr.box 40 p0) w λ p1 a=>Join1 (λ K1=>fA 40 p1 0 λ b=>lA 36 b a λ c=>cF 124 [c,(.func (.func 115) #[] #[])] a λ d e=>cV d (K1 d e) (fA 40 p1 1 λ f=>
 lA 37 f e λ g=>cF 116 [g,(i 4294967296)] e λ h j=>Pop Tryz.prog (Op.unary .not h) λ k=>cV k (K1 k j) (fA 40 p1 2 λ l=>lA 37 l j λ n=>cF 116 [n,(i 0)] j λ o p=>
 Pop Tryz.prog (Op.unary .not o) λ q=>cV q (K1 q p) (fA 40 p1 4 λ r=>lA 35 r p λ s=>lN 35 s λ t=>bB .gtr 3 t (i 1) λ u=>K1 u p)))) (λ v x=>∀ _:Env,
 cV v (K ff x) (Join1 (λ K2=>fA 40 p1 3 λ y=>lA 35 y x λ z=>cF 125 [z,(.func (.func 117) #[] #[])] x λ aa ab=>Pop Tryz.prog (Op.unary .not aa) λ ac=>cV ac (fA 40 p1 4 λ ad=>
 lA 35 ad ab λ ae=>cF 125 [ae,(.func (.func 120) #[] #[])] ab λ af ag=>Pop Tryz.prog (Op.unary .not af) λ ah=>cV ah (fA 40 p1 5 λ ai=>lA 38 ai ag λ aj=>cF 126 [aj,(.func (.func 121) #[] #[])] ag λ ak al=>
 Pop Tryz.prog (Op.unary .not ak) λ am=>K2 am al) (K2 ff ag)) (K2 ff ab)) (λ an ao=>∀ _:Env,
 K an ao)))
theorem S63_ok (p0:Value) (h:S63 w K p0):CR 63 [p0] w K:=
 okG 43 (λ _=>.nil) 4 [.tmp 2] Tryz.func63 h
def S115 (l0:Value):Prop:=
 Join1 (λ K1=>lN 37 l0 λ a=>bB .eql 3 a (i 0) λ b=>cV b (K1 tt w) (cF 116 [l0,(i 4294967296)] w λ c d=>Pop Tryz.prog (Op.unary .not c) λ e=>K1 e d)) (λ f g=>∀ _:Env,
 K f g)
theorem S115_ok (l0:Value) (h:S115 w K l0):CR 115 [l0] w K:=
 okG 11 (λ _=>.nil) 4 [.tmp 2] Tryz.func115 h
def S117 (t0:Value):Prop:=
 Eop Tryz.prog (Instr.box 34 t0) w λ t1 a=>Join1 (λ K1=>fA 34 t1 0 λ b=>lA 9 b a λ c=>cF 118 [c] a λ d e=>Pop Tryz.prog (Op.unary .not d) λ f=>cV f (K1 tt e) (lA 34 t1 e λ g=>
 cF 119 [g] e λ h j=>Pop Tryz.prog (Op.unary .not h) λ k=>K1 k j)) (λ l n=>∀ _:Env,
 K l n)
theorem S117_ok (t0:Value) (h:S117 w K t0):CR 117 [t0] w K:=
 okG 12 (λ _=>.nil) 4 [.tmp 2] Tryz.func117 h
def S120 (t0:Value):Prop:=
 Eop Tryz.prog (Instr.box 34 t0) w λ t1 a=>Join1 (λ K1=>fA 34 t1 0 λ b=>lA 9 b a λ c=>Pop Tryz.prog (binS .neq 9 false true c (Go.Value.string (ByteArray.mk (#[])))) λ d=>
 cV d (K1 tt a) (lA 34 t1 a λ e=>cF 119 [e] a λ f g=>Pop Tryz.prog (Op.unary .not f) λ h=>K1 h g)) (λ j k=>∀ _:Env,
 K j k)
theorem S120_ok (t0:Value) (h:S120 w K t0):CR 120 [t0] w K:=
 okG 11 (λ _=>.nil) 4 [.tmp 2] Tryz.func120 h
def S121 (c0:Value):Prop:=
 Eop Tryz.prog (Instr.box 112 c0) w λ c1 a=>Join1 (λ K1=>fA 112 c1 1 λ b=>lA 3 b a λ c=>cF 122 [c] a λ d e=>Pop Tryz.prog (Op.unary .not d) λ f=>cV f (K1 tt e) (fA 112 c1 0 λ g=>
 lA 22 g e λ h=>cF 123 [h] e λ j k=>Pop Tryz.prog (Op.unary .not j) λ l=>K1 l k)) (λ n o=>∀ _:Env,
 K n o)
theorem S121_ok (c0:Value) (h:S121 w K c0):CR 121 [c0] w K:=
 okG 13 (λ _=>.nil) 4 [.tmp 2] Tryz.func121 h
def S116 (l0 most1:Value):Prop:=
 Eop Tryz.prog (Instr.box 3 most1) w λ most3 a=>cF 159 [l0,(.func (Go.Fn.func 160) [].toArray [most3].toArray)] a λ b c=>Pop Tryz.prog (Op.unary .not b) λ d=>K d c
theorem S116_ok (l0 most1:Value) (h:S116 w K l0 most1):CR 116 [l0,most1] w K:=
 okG 9 (λ _=>.nil) 16 [.tmp 4] Tryz.func116 h
def S160 (c0 a:Value):Prop:=
 Eop Tryz.prog (Instr.box 142 c0) w λ c2 b=>Join1 (λ K1=>fA 142 c2 0 λ c=>lA 9 c b λ d=>cF 118 [d] b λ e f=>Pop Tryz.prog (Op.unary .not e) λ g=>cV g (K1 tt f) (fA 142 c2 1 λ h=>
 lA 3 h f λ j=>bB .lss 3 j (i 0) λ k=>cV k (K1 tt f) (fA 142 c2 1 λ l=>lA 3 l f λ n=>lA 3 a f λ o=>bA .gtr 3 n o λ p=>cV p (K1 tt f) (fA 142 c2 2 λ q=>lA 3 q f λ r=>
 cF 122 [r] f λ s t=>Pop Tryz.prog (Op.unary .not s) λ u=>K1 u t)))) (λ v x=>∀ _:Env,
 K v x)
theorem S160_ok (c0 x1:Value) (h:S160 w K c0 x1):CR 160 [c0,x1] w K:=
 okG 25 (λ _=>.nil) 8 [.tmp 3] Tryz.func160 h
def S119 (t0:Value):Prop:=
 Eop Tryz.prog (Instr.box 34 t0) w λ t1 a=>Join1 (λ K1=>fA 34 t1 3 λ b=>lA 3 b a λ c=>cF 122 [c] a λ d e=>cV d (fA 34 t1 1 λ f=>lA 32 f e λ g=>cF 167 [g,(.func (.func 166) #[] #[])] e λ h j=>
 Pop Tryz.prog (Op.unary .not h) λ k=>cV k (fA 34 t1 2 λ l=>lA 27 l j λ n=>cF 168 [n] j λ o p=>K1 o p) (K1 ff j)) (K1 ff e)) (λ q r=>∀ _:Env,
 K q r)
theorem S119_ok (t0:Value) (h:S119 w K t0):CR 119 [t0] w K:=
 okG 19 (λ _=>.nil) 4 [.tmp 2] Tryz.func119 h
def S166 (s0:Value):Prop:=
 cF 118 [s0] w λ a b=>Pop Tryz.prog (Op.unary .not a) λ c=>K c b
theorem S166_ok (s0:Value) (h:S166 w K s0):CR 166 [s0] w K:=
 okG 6 (λ _=>.nil) 4 [.tmp 2] Tryz.func166 h
def S122 (n0:Value):Prop:=
 Join1 (λ K1=>bB .geq 3 n0 (i 0) λ a=>cV a (bB .leq 3 n0 (i 4000) λ b=>K1 b w) (K1 ff w)) (λ c d=>∀ _:Env,
 K c d)
theorem S122_ok (n0:Value) (h:S122 w K n0):CR 122 [n0] w K:=
 okG 9 (λ _=>.nil) 4 [.tmp 2] Tryz.func122 h
def S200 (s0 f1:Value):Prop:=
 cF 224 [s0,f1] w λ a b=>bB .geq 3 a (i 0) λ c=>K c b
theorem S200_ok (s0 f1:Value) (h:S200 w K s0 f1):CR 200 [s0,f1] w K:=
 okG 9 (λ _=>.nil) 16 [.tmp 4] Tryz.func200 h
def S224 (s0 f1:Value):Prop:=
 lN 27 s0 λ a=>Loop1 (λ K1 b c=>∀ _:Env,
 bA .lss 3 b a λ d=>cV d (iA 27 s0 b λ e=>lA 24 e c λ f=>CallV Tryz.prog f1 [f] c λ g h=>cV g (K b h) (bB .add 3 b (i 1) λ j=>K1 j h)) (K (i (-1)) c)) (λ K1=>K1 (i 0) w)
theorem S224_ok (s0 f1:Value) (h:S224 w K s0 f1):CR 224 [s0,f1] w K:=
 okG 19 (λ _=>.nil) 16 [.tmp 4] Tryz.func224 h
def S159 (s0 f1:Value):Prop:=
 cF 197 [s0,f1] w λ a b=>bB .geq 3 a (i 0) λ c=>K c b
theorem S159_ok (s0 f1:Value) (h:S159 w K s0 f1):CR 159 [s0,f1] w K:=
 okG 9 (λ _=>.nil) 16 [.tmp 4] Tryz.func159 h
def S197 (s0 f1:Value):Prop:=
 lN 37 s0 λ a=>Loop1 (λ K1 b c=>∀ _:Env,
 bA .lss 3 b a λ d=>cV d (iA 37 s0 b λ e=>lA 142 e c λ f=>CallV Tryz.prog f1 [f] c λ g h=>cV g (K b h) (bB .add 3 b (i 1) λ j=>K1 j h)) (K (i (-1)) c)) (λ K1=>K1 (i 0) w)
theorem S197_ok (s0 f1:Value) (h:S197 w K s0 f1):CR 197 [s0,f1] w K:=
 okG 19 (λ _=>.nil) 16 [.tmp 4] Tryz.func197 h
def S124 (s0 f1:Value):Prop:=
 cF 174 [s0,f1] w λ a b=>bB .geq 3 a (i 0) λ c=>K c b
theorem S124_ok (s0 f1:Value) (h:S124 w K s0 f1):CR 124 [s0,f1] w K:=
 okG 9 (λ _=>.nil) 16 [.tmp 4] Tryz.func124 h
def S174 (s0 f1:Value):Prop:=
 lN 36 s0 λ a=>Loop1 (λ K1 b c=>∀ _:Env,
 bA .lss 3 b a λ d=>cV d (iA 36 s0 b λ e=>lA 37 e c λ f=>CallV Tryz.prog f1 [f] c λ g h=>cV g (K b h) (bB .add 3 b (i 1) λ j=>K1 j h)) (K (i (-1)) c)) (λ K1=>K1 (i 0) w)
theorem S174_ok (s0 f1:Value) (h:S174 w K s0 f1):CR 174 [s0,f1] w K:=
 okG 19 (λ _=>.nil) 16 [.tmp 4] Tryz.func174 h
def S125 (s0 f1:Value):Prop:=
 cF 175 [s0,f1] w λ a b=>bB .geq 3 a (i 0) λ c=>K c b
theorem S125_ok (s0 f1:Value) (h:S125 w K s0 f1):CR 125 [s0,f1] w K:=
 okG 9 (λ _=>.nil) 16 [.tmp 4] Tryz.func125 h
def S175 (s0 f1:Value):Prop:=
 lN 35 s0 λ a=>Loop1 (λ K1 b c=>∀ _:Env,
 bA .lss 3 b a λ d=>cV d (iA 35 s0 b λ e=>lA 34 e c λ f=>CallV Tryz.prog f1 [f] c λ g h=>cV g (K b h) (bB .add 3 b (i 1) λ j=>K1 j h)) (K (i (-1)) c)) (λ K1=>K1 (i 0) w)
theorem S175_ok (s0 f1:Value) (h:S175 w K s0 f1):CR 175 [s0,f1] w K:=
 okG 19 (λ _=>.nil) 16 [.tmp 4] Tryz.func175 h
def S126 (s0 f1:Value):Prop:=
 cF 176 [s0,f1] w λ a b=>bB .geq 3 a (i 0) λ c=>K c b
theorem S126_ok (s0 f1:Value) (h:S126 w K s0 f1):CR 126 [s0,f1] w K:=
 okG 9 (λ _=>.nil) 16 [.tmp 4] Tryz.func126 h
def S176 (s0 f1:Value):Prop:=
 lN 38 s0 λ a=>Loop1 (λ K1 b c=>∀ _:Env,
 bA .lss 3 b a λ d=>cV d (iA 38 s0 b λ e=>lA 112 e c λ f=>CallV Tryz.prog f1 [f] c λ g h=>cV g (K b h) (bB .add 3 b (i 1) λ j=>K1 j h)) (K (i (-1)) c)) (λ K1=>K1 (i 0) w)
theorem S176_ok (s0 f1:Value) (h:S176 w K s0 f1):CR 176 [s0,f1] w K:=
 okG 19 (λ _=>.nil) 16 [.tmp 4] Tryz.func176 h
theorem pl225:PL 225:=plE Tryz.func225
theorem pl201:PL 201:=plE Tryz.func201
theorem pl226:PL 226:=plE Tryz.func226
theorem pl228:PL 228:=plE Tryz.func228
theorem pl229:PL 229:=plE Tryz.func229
theorem pl202:PL 202:=plE Tryz.func202
theorem pl168:PL 168:=plE Tryz.func168
theorem pl63:PL 63:=plE Tryz.func63
theorem pl115:PL 115:=plE Tryz.func115
theorem pl117:PL 117:=plE Tryz.func117
theorem pl120:PL 120:=plE Tryz.func120
theorem pl121:PL 121:=plE Tryz.func121
theorem pl116:PL 116:=plE Tryz.func116
theorem pl160:PL 160:=plE Tryz.func160
theorem pl119:PL 119:=plE Tryz.func119
theorem pl166:PL 166:=plE Tryz.func166
theorem pl122:PL 122:=plE Tryz.func122
theorem pl200:PL 200:=plE Tryz.func200
theorem pl224:PL 224:=plE Tryz.func224
theorem pl159:PL 159:=plE Tryz.func159
theorem pl197:PL 197:=plE Tryz.func197
theorem pl124:PL 124:=plE Tryz.func124
theorem pl174:PL 174:=plE Tryz.func174
theorem pl125:PL 125:=plE Tryz.func125
theorem pl175:PL 175:=plE Tryz.func175
theorem pl126:PL 126:=plE Tryz.func126
theorem pl176:PL 176:=plE Tryz.func176
end Go.Proofs.YtfkgkbhbdffckaaGreatDoor
