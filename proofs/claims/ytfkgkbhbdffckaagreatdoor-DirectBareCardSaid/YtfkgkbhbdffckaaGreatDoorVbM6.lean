/-
  Part 6.
-/
import Derived.Test.YtfkgkbhbdffckaaGreatDoorVbM5
set_option linter.all false
set_option maxHeartbeats 8000000
set_option maxRecDepth 100000
namespace Go.Proofs.YtfkgkbhbdffckaaGreatDoor
open Go.Fw
theorem A4 {α:Type} {l:List α} {f g:α->Bool} (h:∀ x∈l,f x=g x):l.any f=l.any g:=by
 induction l with
 | nil=>rfl
 | cons a r ih=>rw [List.any_cons,List.any_cons,h a (List.mem_cons_self ..),ih λ x hx=>h x (List.mem_cons_of_mem _ hx)]
theorem Oz {g:List SI} {n k:ByteArray} {v:Int} (hz:∀ e∈g,e.2≠0) (h:cY g n=0):cY (g++[(n,v)]) k=if n=k then v else cY g k:=by
 induction g with
 | nil=>show (if n=k then v else cY [] k)=_; rfl
 | cons e r ih=>
  have hez:=hz e (List.mem_cons_self ..)
  have hn:¬ e.1=n:=λ hh=>by
   have:cY (e::r) n=e.2:=by show (if e.1=n then e.2 else _)=_; rw [if_pos hh]
   rw [this] at h; exact hez h
  have hr:cY r n=0:=by
   have:cY (e::r) n=cY r n:=by show (if e.1=n then e.2 else _)=_; rw [if_neg hn]
   rw [<- this]; exact h
  show (if e.1=k then e.2 else cY (r++[(n,v)]) k)=if n=k then v else (if e.1=k then e.2 else cY r k)
  rw [ih (λ e he=>hz e (List.mem_cons_of_mem _ he)) hr]
  by_cases h1:e.1=k
  ·rw [if_pos h1,if_pos h1,if_neg λ hh=>hn (h1.trans hh.symm)]
  ·rw [if_neg h1,if_neg h1]
theorem CL:∀ (ns:List ByteArray) (g:List SI),(∀ e∈g,e.2≠0)->
  (xL g ns=none/\(¬ ns.Nodup\/∃ s∈ns,cY g s≠0))\/∃ g',xL g ns=some g'/\ns.Nodup/\(∀ s∈ns,cY g s=0)/\∀ s,cY g' s=if 0<=cI ns s then 5 else cY g s
 | [],g,_=>.inr ⟨g,rfl,List.nodup_nil,λ s h=>(by cases h),λ s=>by rw [if_neg]; exact λ h=>by cases cD.1 h⟩
 | n::r,g,hz=>by
  unfold xL
  split
  ·rename_i hl
   have hz2:∀ e∈g++[(n,(5:Int))],e.2≠0:=by
    intro e he
    rcases List.mem_append.1 he with h | h
    ·exact hz e h
    ·rw [List.mem_singleton.1 h]; exact (by decide:(5:Int)≠0)
   have hsn:=λ k=>Oz (k:=k) (v:=5) hz hl
   rcases CL r _ hz2 with ⟨h1,h2⟩ | ⟨g',h1,h2,h3,h4⟩
   ·refine .inl ⟨h1,?_⟩
    rw [List.nodup_cons]
    rcases h2 with h2 | ⟨s,hs,h2⟩
    ·exact .inl λ h=>h2 h.2
    ·rw [hsn] at h2
     split at h2
     ·rename_i e; exact .inl λ h=>h.1 (e▸hs)
     ·exact .inr ⟨s,List.mem_cons_of_mem _ hs,h2⟩
   ·have hnr:n ∉ r:=λ hm=>by have:=h3 n hm; rw [hsn,if_pos rfl] at this; cases this
    refine .inr ⟨g',h1,List.nodup_cons.2 ⟨hnr,h2⟩,λ s hs=>?_,λ s=>?_⟩
    ·rcases List.mem_cons.1 hs with rfl | hs
     ·exact hl
     ·have:=h3 s hs; rw [hsn,if_neg λ e:n=s=>hnr (e▸hs)] at this; exact this
    ·rw [h4,hsn]
     by_cases hs:s∈r
     ·rw [if_pos (cD.2 hs),if_pos (cD.2 (List.mem_cons_of_mem _ hs))]
     ·rw [if_neg λ h=>hs (cD.1 h)]
      by_cases hn:n=s
      ·rw [if_pos hn,if_pos (cD.2 (by rw [hn]; exact List.mem_cons_self ..))]
      ·rw [if_neg hn,if_neg λ h=>(List.mem_cons.1 (cD.1 h)).elim (λ e=>hn e.symm) hs]
  ·rename_i hl
   exact .inl ⟨rfl,.inr ⟨n,List.mem_cons_self ..,hl⟩⟩
theorem HM {l:List SI} (hn:(l.map (·.1)).Nodup) (s:ByteArray):cY (l.filter λ p=>decide (¬ p.2=4)) s=if cY l s=4 then 0 else cY l s:=by
 induction l with
 | nil=>rfl
 | cons e r ih=>
  rw [List.map_cons,List.nodup_cons] at hn
  have ih:=ih hn.2
  have hr:e.1=s->cY r s=0:=λ h=>qO λ q hq he=>hn.1 (List.mem_map.2 ⟨q,hq,by rw [h]; exact he⟩)
  have e1:cY (e::r) s=if e.1=s then e.2 else cY r s:=rfl
  rw [List.filter_cons,e1]
  by_cases h4:e.2=4
  ·rw [if_neg (by simp [h4]),ih]
   by_cases hs:e.1=s
   ·rw [if_pos hs,hr hs,h4]; rfl
   ·rw [if_neg hs]
  ·rw [if_pos (by simp [h4])]
   show (if e.1=s then e.2 else cY _ s)=_
   by_cases hs:e.1=s
   ·rw [if_pos hs,if_pos hs,if_neg h4]
   ·rw [if_neg hs,if_neg hs,ih]
theorem TF {l:List SI} {k:ByteArray} {v:Int} (h:(l.map (·.1)).Nodup):((u7 l k v).map (·.1)).Nodup:=by
 unfold u7
 split
 ·have:(l.map λ p=>if p.1=k then (k,v) else p).map (·.1)=l.map (·.1):=by
   rw [List.map_map]
   refine List.map_congr_left λ p _=>?_
   show (if p.1=k then (k,v) else p).1=p.1
   split
   ·rename_i e; exact e.symm
   ·rfl
  rw [this]; exact h
 rename_i hn
 rw [List.map_append,List.nodup_append]
 refine ⟨h,by simp,λ a ha b hb hab=>?_⟩
 obtain ⟨q,hq,rfl⟩:=List.mem_map.1 ha
 simp at hb
 exact hn (List.any_eq_true.2 ⟨q,hq,decide_eq_true (hab.trans hb)⟩)
theorem TG (p:bQ):((yx p).1.map (·.1)).Nodup:=by
 rw [MJ]
 have:∀ (l:List (ByteArray × Int × Int)) (st:List SI × Bool × Int),(st.1.map (·.1)).Nodup->((vk l st).1.map (·.1)).Nodup:=by
  intro l
  induction l with
  | nil=>intro st h; exact h
  | cons q r ih=>intro st h; exact ih (Tp st q) (TF h)
 exact this _ _ List.nodup_nil
theorem ER {p:bQ} (hn:jz (ig p)=false) (rs:List ByteArray) :
  (HJ (yx p).1 rs=none/\tT p rs=true)\/∃ g,HJ (yx p).1 rs=some g/\tT p rs=false/\(∀ s∈rs,s ∉ cM p/\s ∉ cC p)/\
   ∀ s,cY g s=if 0<=cI rs s then 5 else if 0<=cI (gG p) s then 1 else if 0<=cI (oK p) s then 2 else if 0<=cI (cC p) s then 3 else 0:=by
 have hf:∀ s,cY ((yx p).1.filter λ p=>decide (¬ p.2=4)) s=if 0<=cI (gG p) s then 1 else if 0<=cI (oK p) s then 2 else if 0<=cI (cC p) s then 3 else 0:=by
  intro s
  rw [HM (TG p),MM hn]
  repeat' split
  all_goals first | rfl | omega | simp_all
 have hc:∀ s,cY ((yx p).1.filter λ p=>decide (¬ p.2=4)) s≠0↔(s∈cM p\/s∈cC p):=by
  intro s
  rw [hf,mI,List.mem_append,<- cD (ns:=gG p),<- cD (ns:=oK p),<- cD (ns:=cC p)]
  repeat' split
  all_goals simp_all
 unfold HJ
 rcases CL rs ((yx p).1.filter λ p=>decide (¬ p.2=4)) (λ e he=>Ki p e (List.mem_filter.1 he).1) with ⟨h1,h2⟩ | ⟨g,h1,h2,h3,h4⟩
 ·refine .inl ⟨h1,(HK p rs).2 ?_⟩
  rcases h2 with h | ⟨s,hs,h⟩
  ·exact .inl h
  exact .inr ⟨s,hs,(hc s).1 h⟩
 have eA:∀ s∈rs,s ∉ cM p/\s ∉ cC p:=λ s hs=>by
  have h:=h3 s hs
  exact ⟨λ hm=>(hc s).2 (.inl hm) h,λ hm=>(hc s).2 (.inr hm) h⟩
 refine .inr ⟨g,h1,?_,eA,λ s=>by rw [h4,hf]⟩
 cases hr:tT p rs with
 | false=>rfl
 | true=>
  rcases (HK p rs).1 hr with h | ⟨s,hs,h⟩
  ·exact absurd h2 h
  ·rcases h with h | h
   ·exact absurd h (eA s hs).1
   ·exact absurd h (eA s hs).2
def yQ (g:List SI) (u:UU):Bool:=!u.2.2.any λ m=>decide (m=cY g u.1)
theorem HN {g:List SI} {rs:List ByteArray} (l:List bL) (h:∀ s,cY g s=5↔s∈rs):(xI l).any (yQ g)=rn l rs:=by
 rw [Bool.eq_iff_iff]
 unfold xI mH rn yQ
 simp only [List.any_map,List.any_eq_true,List.mem_filter,Function.comp_apply,List.any_cons,List.any_nil,Bool.or_false,Bool.not_eq_true',decide_eq_false_iff_not,Bool.and_eq_true,decide_eq_true_eq,wz]
 constructor
 ·rintro ⟨x,⟨h1,h2⟩,h3⟩; exact ⟨x,h1,h2,λ hm=>h3 ((h _).2 hm).symm⟩
 rintro ⟨x,h1,h2,h3⟩; exact ⟨x,⟨h1,h2⟩,λ hm=>h3 ((h _).1 hm.symm)⟩
theorem Kj (p:bQ) (s:ByteArray):s∈gG p↔0<=cI (cM p) s/\cI (cM p) s<dX p:=by
 rw [cD,show gG p=(cM p).take (dX p).toNat from rfl]
 have hs:0<=dX p:=by unfold dX; omega
 constructor
 ·intro h
  have hm:=List.mem_of_mem_take h
  have:=(l4 hm).2 h
  exact ⟨hm,by omega⟩
 rintro ⟨h1,h2⟩; exact (l4 h1).1 (by omega)
theorem aj1 (k:Int):dU (fP k) 110=decide (k=2\/k=3\/k=4\/k=5\/k=6\/k=9\/k=10):=by
 unfold fP
 split
 ·rw [decide_eq_false (by omega)]; decide
 rename_i h
 obtain rfl | rfl | rfl | rfl | rfl | rfl | rfl | rfl | rfl | rfl | rfl | rfl | rfl | rfl:k=1\/k=2\/k=3\/k=4\/k=5\/k=6\/k=7\/k=8\/k=9\/k=10\/k=11\/k=12\/k=13\/k=14:=by omega
 all_goals decide
theorem HO:gh ⟨#[]⟩=false:=by decide
theorem YS {p:bQ} {rs:List ByteArray} {g:List SI} (eA:∀ s∈rs,s ∉ cM p/\s ∉ cC p) (Eh:∀ s∈cM p,s ∉ cC p) (hsv:∀ s∈gG p,s ∉ oK p)
  (hg:∀ s,cY g s=if 0<=cI rs s then 5 else if 0<=cI (gG p) s then 1 else if 0<=cI (oK p) s then 2 else if 0<=cI (cC p) s then 3 else 0) {x:aX} (hx:ai2 x) :
  (xJ x).any (yQ g)=rp p rs x:=by
 have g5:∀ s,cY g s=5↔s∈rs:=λ s=>by
  rw [hg,<- cD]; repeat' split
  all_goals simp_all
 have g1:∀ s,cY g s=1↔s∈gG p:=λ s=>by
  rw [hg,<- cD]
  split
  ·rename_i h
   have:=eA s (cD.1 h)
   rw [mI,List.mem_append] at this
   refine ⟨λ h=>(by cases h),λ h=>absurd (cD.1 h) λ hh=>this.1 (.inl hh)⟩
  ·repeat' split
   all_goals simp_all
 have g2:∀ s,cY g s=2↔s∈oK p:=λ s=>by
  rw [hg]
  split
  ·rename_i h
   have:=eA s (cD.1 h)
   rw [mI,List.mem_append] at this
   exact ⟨λ h=>(by cases h),λ h=>absurd (.inr h) this.1⟩
  ·split
   ·rename_i h; exact ⟨λ h=>(by cases h),λ hh=>absurd hh (hsv s (cD.1 h))⟩
   ·rw [<- cD]; repeat' split
    all_goals simp_all
 have g3:∀ s,cY g s=3↔s∈cC p:=λ s=>by
  rw [hg]
  split
  ·rename_i h; exact ⟨λ h=>(by cases h),λ hh=>absurd hh (eA s (cD.1 h)).2⟩
  ·split
   ·rename_i h; exact ⟨λ h=>(by cases h),λ hh=>absurd hh (Eh s (by rw [mI]; exact List.mem_append_left _ (cD.1 h)))⟩
   ·split
    ·rename_i h; exact ⟨λ h=>(by cases h),λ hh=>absurd hh (Eh s (by rw [mI]; exact List.mem_append_right _ (cD.1 h)))⟩
    ·rw [<- cD]; split
     ·rename_i h; exact ⟨λ _=>h,λ _=>rfl⟩
     ·rename_i h; exact ⟨λ h=>(by cases h),λ hh=>absurd hh h⟩
 have hn:=hx.name
 rw [aj1] at hn
 rw [xK,List.any_append,List.any_append,List.any_append,HN x.e g5,HN x.f g5]
 have hA:(n6 x).any (yQ g)=(decide (¬ x.eB=⟨#[]⟩) && decide (cI rs x.eB<0)):=by
  unfold n6
  split
  ·rename_i h; simp [h]
  ·rename_i h
   rw [decide_eq_true h,Bool.true_and,Bool.eq_iff_iff]
   simp only [List.any_cons,List.any_nil,Bool.or_false,yQ,Bool.not_eq_true',decide_eq_false_iff_not,decide_eq_true_eq,wz]
   rw [<- g5,eq_comm]
 have hB:(o0 x).any (yQ g)=(((decide (x.kind=2) || decide (x.kind=3) || decide (x.kind=4)) && decide (cI (cM p) x.name<0)) ||
   ((decide (x.kind=5) || decide (x.kind=6)) && (decide (cI (cM p) x.name<0) || decide (dX p<=cI (cM p) x.name))) ||
   ((decide (x.kind=9) || decide (x.kind=10)) && decide (cI (cC p) x.name<0))):=by
  have hk:=hx.kind
  unfold o0
  split
  ·rename_i h
   have wP:¬ (x.kind=2\/x.kind=3\/x.kind=4\/x.kind=5\/x.kind=6\/x.kind=9\/x.kind=10):=by
    intro hh
    rcases hn with ⟨_,h2⟩ | ⟨h1,_⟩
    ·rw [h,HO] at h2; cases h2
    ·exact absurd hh (of_decide_eq_false h1)
   have d:∀ k:Int,(k=2\/k=3\/k=4\/k=5\/k=6\/k=9\/k=10)->decide (x.kind=k)=false:=λ k hk=>decide_eq_false λ e=>wP (by rw [e]; exact hk)
   rw [d 2 (by omega),d 3 (by omega),d 4 (by omega),d 5 (by omega),d 6 (by omega),d 9 (by omega),d 10 (by omega)]; rfl
  ·rename_i h
   have wP:x.kind=2\/x.kind=3\/x.kind=4\/x.kind=5\/x.kind=6\/x.kind=9\/x.kind=10:=by
    rcases hn with ⟨h1,_⟩ | ⟨_,h2⟩
    ·exact of_decide_eq_true h1
    ·exact absurd h2 h
   have hc:=Kj p x.name
   rw [Bool.eq_iff_iff]
   unfold EO
   simp only [List.any_cons,List.any_nil,Bool.or_false,yQ,Bool.not_eq_true',Bool.or_eq_true,Bool.and_eq_true,decide_eq_true_eq,wz]
   have e1:=g1 x.name; have e2:=g2 x.name; have e3:=g3 x.name
   have ec:x.name∈cM p↔x.name∈gG p\/x.name∈oK p:=by rw [mI,List.mem_append]
   have pn:=cD (ns:=cM p) (s:=x.name)
   by_cases k1:x.kind=5\/x.kind=6
   ·rw [if_pos k1]
    simp only [List.any_cons,List.any_nil,Bool.or_false,decide_eq_false_iff_not]
    rw [eq_comm,e1,hc,<- pn]
    constructor
    ·intro hh; exact .inl (.inr ⟨k1,by omega⟩)
    ·rintro ((⟨hh,_⟩ | ⟨_,hh⟩) | ⟨hh,_⟩) <;> omega
   ·rw [if_neg k1]
    by_cases k2:x.kind=9\/x.kind=10
    ·rw [if_pos k2]
     simp only [List.any_cons,List.any_nil,Bool.or_false,decide_eq_false_iff_not]
     rw [eq_comm,e3]
     constructor
     ·intro hh; exact .inr ⟨k2,hh⟩
     ·rintro ((⟨hh,_⟩ | ⟨hh,_⟩) | ⟨_,hh⟩)
      ·omega
      ·omega
      ·exact hh
    ·rw [if_neg k2]
     simp only [List.any_cons,List.any_nil,Bool.or_false,Bool.or_eq_false_iff,decide_eq_false_iff_not]
     rw [eq_comm,e1,eq_comm (a:=(2:Int)),e2,ec]
     constructor
     ·rintro ⟨h1,h2⟩; exact .inl (.inl ⟨by omega,λ hh=>hh.elim h1 h2⟩)
     ·rintro ((⟨_,hh⟩ | ⟨hh,_⟩) | ⟨hh,_⟩)
      ·exact ⟨λ h=>hh (.inl h),λ h=>hh (.inr h)⟩
      ·omega
      ·omega
 rw [hA,hB]
 unfold rp
 simp only [Bool.or_assoc]
theorem HQ {p:bQ} (hn:jz (ig p)=false):(∀ s∈cM p,s ∉ cC p)/\∀ s∈gG p,s ∉ oK p:=by
 have hd:((ig p).map bP.name).Nodup:=Classical.byContradiction λ h=>by rw [(u9 _).2 h] at hn; cases hn
 rw [MK,List.nodup_append] at hd
 obtain ⟨h1,h2,h3⟩:=hd
 rw [List.nodup_append] at h1
 exact ⟨λ s hs hl=>h3 s (by rw [<- mI]; exact hs) s (List.mem_append_left _ hl) rfl,λ s hs hv=>h1.2.2 s hs s hv rfl⟩
theorem TI {p:bQ} {t:bV} {g:List SI} (hn:jz (ig p)=false) (hg:HJ (yx p).1 t.cW=some g) (hx:∀ x∈t.body,nS x=true):(kR t.body).any (yQ g)=t.body.any (rp p t.cW):=by
 rcases ER hn t.cW with ⟨h1,_⟩ | ⟨g',h1,h2,h3,h4⟩
 ·rw [h1] at hg; cases hg
 rw [hg] at h1; cases h1
 obtain ⟨a1,a2⟩:=HQ hn
 unfold kR
 rw [List.any_flatMap]
 refine A4 λ x hm=>YS h3 a1 a2 h4 (xC (hx x hm))
theorem Kk {p:bQ} (hn:jz (ig p)=false) (l:List bL):(l.any λ x=>decide (x.op=2) && decide (¬ cY (yx p).1 x.name=1))=rn l (gG p):=by
 unfold rn
 refine A4 λ x _=>?_
 congr 1
 refine decide_eq_decide.2 ?_
 rw [wz,MM hn,<- cD]
 split
 ·rename_i h; exact ⟨λ hh=>absurd rfl hh,λ hh=>absurd h hh⟩
 rename_i h
 refine ⟨λ _=>h,λ _=>?_⟩
 repeat' split
 all_goals decide
variable (w:World) (K:Value->World->Prop)
def S22 (p0:Value):Prop:=
 gd Tryz.prog (Instr.box 40 p0) w λ p1 a=>aL 29 a λ b c=>aL 3 c λ d e=>lA 40 p1 e λ f=>cF 62 [f] e λ g h=>xT g 0 λ j=>xT g 1 λ k=>xT g 2 λ l=>lA 40 p1 h λ n=>
 cF 63 [n] h λ o p=>cU Tryz.prog (Op.unary .not o) λ q=>cV q (sA 29 b (i 8) p λ s=>sA 3 d (i 0) s λ t=>lA 29 b t λ r=>lA 3 d t λ Fv=>K (.tuple #[r,Fv]) t) (lA 40 p1 p λ u=>
 cF 64 [u] p λ v x=>cV v (sA 29 b (i 2) x λ y=>sA 3 d (i 0) y λ z=>lA 29 b z λ Qf=>lA 3 d z λ r_3=>K (.tuple #[Qf,r_3]) z) (lA 40 p1 x λ aa=>cF 65 [aa] x λ ab ac=>
 lN 35 ab λ ad=>fh (λ K1 ae af=>∀ _:Env,
 bA .lss 3 ae ad λ ag=>cV ag (iA 35 ab ae λ ah=>lA 34 ah af λ ai=>aL 34 af λ t8 aj=>sA 34 t8 ai aj λ ak=>fA 34 t8 2 λ al=>lA 27 al ak λ am=>cF 66 [am,(i 1)] ak λ an ao=>
 xT an 0 λ ap=>xT an 1 λ aq=>cV aq (sA 29 b (i 11) ao λ ar=>sA 3 d ap ar λ asx=>lA 29 b asx λ r_4=>lA 3 d asx λ r_5=>K (.tuple #[r_4,r_5]) asx) (bB .add 3 ae (i 1) λ au=>
 K1 au ao)) (cV l (sA 29 b (i 10) af λ av=>sA 3 d k av λ aw=>lA 29 b aw λ r_6=>lA 3 d aw λ r_7=>K (.tuple #[r_6,r_7]) aw) (lA 40 p1 af λ ax=>cF 65 [ax] af λ ay az=>
 lN 35 ay λ a0=>fh (λ K2 a2 a3=>∀ _:Env,
 bA .lss 3 a2 a0 λ a4=>cV a4 (iA 35 ay a2 λ a5=>lA 34 a5 a3 λ a6=>aL 34 a3 λ t12 a7=>sA 34 t12 a6 a7 λ a8=>lA 34 t12 a8 λ a9=>cF 67 [a9,j] a8 λ ba bb=>xT ba 0 λ _=>
 xT ba 1 λ bc=>cV bc (fA 34 t12 3 λ bd=>lA 3 bd (drew bb) λ be=>sA 29 b (i 10) (drew bb) λ bf=>kA 3 bd be bf (sA 3 d be bf λ bg=>lA 29 b bg λ r_8=>lA 3 d bg λ r_9=>
 K (.tuple #[r_8,r_9]) bg)) (bB .add 3 a2 (i 1) λ bh=>K2 bh bb)) (lA 40 p1 a3 λ bi=>cF 65 [bi] a3 λ bj bk=>lN 35 bj λ bl=>mn (λ K3 ds bm bn=>∀ _:Env,
 bA .lss 3 bm bl λ bo=>cV bo (iA 35 bj bm λ bp=>lA 34 bp bn λ bq=>aL 34 bn λ t16 br=>sA 34 t16 bq br λ bs=>lA 34 t16 bs λ bt=>cF 67 [bt,j] bs λ bu bv=>xT bu 0 λ bw=>
 xT bu 1 λ _=>aL 121 bv λ aj2 bx=>sA 121 aj2 bw bx λ bz=>fA 34 t16 2 λ b0=>lA 27 b0 bz λ b1=>cF 68 [b1] bz λ b2 b3=>l9 Tryz.prog b2 1 b3 (λ a1 b4 B1 R1=>
 aL 133 b4 λ u19 b5=>sA 133 u19 (qh a1 0) b5 λ b6=>B1 b6 λ b7=>fA 133 u19 2 λ b8=>lA 45 b8 b7 λ b9=>lA 121 aj2 b7 λ ca=>fA 133 u19 0 λ cb=>lA 9 cb b7 λ cc=>
 q7 Tryz.prog (Instr.lookup 121 ca cc false) b7 λ cd=>cF 69 [b9,cd] b7 λ ce cf=>cU Tryz.prog (Op.unary .not ce) λ cg=>cV cg (fA 133 u19 1 λ ch=>lA 3 ch (drew cf) λ ci=>
 sA 29 b (i 9) (drew cf) λ cj=>kA 3 ch ci cj (sA 3 d ci cj λ ck=>R1 (some .ret) ck)) (R1 none cf)) (Pm (λ D cl=>bB .add 3 bm (i 1) λ cm=>K3 (jd (D::(vq ds))) cm cl)
 (λ D cn=>fo (D::(vq ds)) cn λ co=>lA 29 b co λ apM=>lA 3 d co λ apN=>K (.tuple #[apM,apN]) co) (λ _ _ _=>False))) (fA 40 p1 5 λ cp=>lA 38 cp bn λ cq=>
 lN 38 cq λ cr=>fh (λ K4 cs ct=>∀ _:Env,
 bA .lss 3 cs cr λ cu=>cV cu (iA 38 cq cs λ cv=>lA 112 cv ct λ cw=>aL 112 ct λ c21 cx=>sA 112 c21 cw cx λ cy=>fA 112 c21 0 λ cz=>lA 22 cz cy λ c0=>lN 22 c0 λ c1=>
 fh (λ K5 c2 c3=>∀ _:Env,
 bA .lss 3 c2 c1 λ c4=>cV c4 (iA 22 c0 c2 λ c5=>lA 26 c5 c3 λ c6=>aL 26 c3 λ c7 c8=>sA 26 c7 c6 c8 λ c9=>cE (λ K6=>fA 26 c7 0 λ da=>lA 3 da c9 λ db=>bB .eql 3 db (i 2) λ dc=>
 cV dc (fA 26 c7 2 λ dd=>lA 9 dd c9 λ de=>q7 Tryz.prog (Instr.lookup 121 j de false) c9 λ df=>bB .neq 3 df (i 1) λ dg=>K6 dg c9) (K6 ff c9)) (λ dh di=>∀ _:Env,
 cV dh (fA 26 c7 3 λ dj=>lA 3 dj (drew di) λ dk=>sA 29 b (i 9) (drew di) λ dl=>kA 3 dj dk dl (sA 3 d dk dl λ dm=>fo (vq ds) dm λ dn=>lA 29 b dn λ apO=>lA 3 d dn λ apP=>
 K (.tuple #[apO,apP]) dn)) (bB .add 3 c2 (i 1) λ dp=>K5 dp di))) (bB .add 3 cs (i 1) λ dq=>K4 dq c3)) (λ K5=>K5 (i 0) cy)) (sA 29 b (i 0) ct λ dr=>sA 3 d (i 0) dr λ dt=>
 fo (vq ds) dt λ du=>lA 29 b du λ apQ=>lA 3 d du λ apR=>K (.tuple #[apQ,apR]) du)) (λ K4=>K4 (i 0) bn))) (λ K3=>K3 (jd []) (i 0) bk))) (λ K2=>K2 (i 0) az))))
 (λ K1=>K1 (i 0) ac)))
def P22:eh:=λ i=>match i with
 | 20=>(.of [(0,[]),(1,[]),(2,[1]),(3,[])])
 | 29=>(.of [(0,[]),(1,[]),(2,[1]),(3,[])])
 | 38=>(.of [(0,[]),(1,[]),(2,[1]),(3,[])])
 | _=>.nil
theorem ad4 (p0:Value) (h:S22 w K p0):CR 22 [p0] w K:=
 eN 128 P22 12 [.cell 2 29,.cell 3 3] Tryz.func22 h
def S69 (s0 v1:Value):Prop:=
 cF 132 [s0,v1] w λ a b=>bB .geq 3 a (i 0) λ c=>K c b
theorem ad5 (s0 v1:Value) (h:S69 w K s0 v1):CR 69 [s0,v1] w K:=
 eN 9 (λ _=>.nil) 16 [.tmp 4] Tryz.func69 h
def S132 (s0 v1:Value):Prop:=
 lN 45 s0 λ a=>fh (λ K1 b c=>∀ _:Env,
 bA .lss 3 b a λ d=>cV d (iA 45 s0 b λ e=>lA 3 e c λ f=>bA .eql 3 v1 f λ g=>cV g (K b c) (bB .add 3 b (i 1) λ h=>K1 h c)) (K (i (-1)) c)) (λ K1=>K1 (i 0) w)
theorem YT (s0 v1:Value) (h:S132 w K s0 v1):CR 132 [s0,v1] w K:=
 eN 19 (λ _=>.nil) 16 [.tmp 4] Tryz.func132 h
theorem apS:PL 22:=dW Tryz.func22
theorem apT:PL 69:=dW Tryz.func69
theorem aj3:PL 132:=dW Tryz.func132
end Go.Proofs.YtfkgkbhbdffckaaGreatDoor
namespace Go.Proofs.YtfkgkbhbdffckaaGreatDoor
open Go.Fw
theorem C132 (sv:Value) (ns:List Int) (s:Int) (w:World) (hL:dx (λ _=>True) w sv ns) (hn:ns.length<=1048576):CR 132 [sv,.int .i64 s] w (λ v w'=>v = .int .i64 (pE (λ y=>decide (y=s)) ns)/\Ext w w'):=by
 have hs:=St.start w;refine YT _ _ _ _ ?_;unfold S132;refine aG ei (hL.ext hs.aE) ?_;refine ⟨λ m x w1=>∃ k:Nat,x = .int .i64 (k:Int)/\m=ns.length - k/\k<=ns.length/\(∀ y∈ns.take k,decide (y=s)=false)/\St w bD [] w1,⟨_,0,rfl,rfl,Nat.zero_le _,by simp,hs⟩,?_⟩;rintro m _ w1 ⟨k,rfl,rfl,hk,eA,hs⟩ _;refine aS (aC (λ qA=>?_) (λ _=>⟨congrArg (Value.int .i64) (gB (by rw [List.take_of_length_le (by omega)] at eA; exact eA)).symm,hs.aE⟩));obtain ⟨jM,dG⟩:=gx (ns) (i:=((k:Int)).toNat) (by omega);exact aU ei hL (by omega) dG (λ _ gS=>aF cK (gS.ext hs.aE) (aI (aC (λ dJ=>⟨congrArg (Value.int .i64) (jE eA dG (decide_eq_true dJ.symm)).symm,hs.aE⟩) (λ dJ=>aT (by omega) ⟨_,by omega,k+1,rfl,rfl,by omega,fi eA dG (decide_eq_false (λ h=>dJ h.symm)),hs⟩))))
theorem C69 (sv:Value) (ns:List Int) (s:Int) (w:World) (hL:dx (λ _=>True) w sv ns) (hn:ns.length<=1048576):CR 69 [sv,.int .i64 s] w (λ v w'=>v = .bool (ns.any λ y=>decide (y=s))/\Ext w w'):=by
 have hs:=St.start w;refine ad5 _ _ _ _ ?_;unfold S69;exact bO aj3 hs (C132 _ _ _ _ (hL.ext hs.aE) (by omega)) (λ _ _ hs=>dO ⟨vb (iK _ _),hs.aE⟩)
theorem TJ {u:UU} {l:List aX} (h:u∈kR l):u.2.2.length<=1048576:=by
 have:u.2.2.length<=2:=by
  unfold kR at h
  obtain ⟨x,_,h⟩:=List.mem_flatMap.1 h
  rw [xK] at h
  unfold n6 o0 xI EO at h
  simp only [List.mem_append] at h
  rcases h with h | h | h | h
  ·split at h
   ·cases h
   ·rw [List.mem_singleton.1 h]; exact (by decide:([5]:List Int).length<=2)
  ·split at h
   ·cases h
   ·rw [List.mem_singleton.1 h]; dsimp only; repeat' split
    all_goals decide
  ·obtain ⟨_,_,rfl⟩:=List.mem_map.1 h; exact (by decide:([5]:List Int).length<=2)
  ·obtain ⟨_,_,rfl⟩:=List.mem_map.1 h; exact (by decide:([5]:List Int).length<=2)
 omega
theorem C22 (p:bQ) (pv:bE) (w:World) (hp:Deep.dr w pv p) (hz:PZ p):CR 22 [Flat.val pv] w (λ v w'=>∃ a:Int,v = .tuple #[.int .i64 (eP p),.int .i64 a]/\Ext w w'):=by
 have MI:=hp;have apq:=Mn hz.toPS;obtain ⟨bX,cN,cB,bK,bN,bU,rfl,ep,fQ,fI,dR,dS,eQ⟩:=hp;obtain ⟨uz,yn,L5⟩:=(dR).open;obtain ⟨wR,zx,U9⟩:=(dS).open;have hn3:=L5.1;have hn4:=U9.1;have hD:=L5.append U9;have apU:=hD.1
 change (uz++wR).length=(gL p).length at apU
 have hs:=St.start w;refine ad4 _ _ _ ?_;unfold S22;refine cZ hs (λ bp w1 hs=>fx hs abV rfl (λ b2 _ hs=>fx hs rQ rfl (λ b3 _ hs=>aF gR hs.p2.At (eW apG (C62 p _ _ (Deep.ext MI hs.aE) hz) ?_))));rintro _ _ ⟨bm,rfl,cL⟩;have hs:=hs.made cL;refine aR rfl (aR rfl (aR rfl (aF gR hs.p3.At (bO aoq hs (C63 p _ _ (Deep.ext MI hs.aE) hz) (λ _ he hs=>bH (bI (λ c=>?_) (λ c=>?_)))))))
 ·have h1:jU p=false:=by simpa using c
  have A5:eP p=8:=ce8 h1;exact bF hs.p2 tO (fw rfl) rfl (λ _ hs=>bF hs.p2 cK (fw rfl) rfl (λ _ hs=>aB tO hs.p1.hb rfl (aB cK hs.hb rfl ⟨_,by rw [A5],hs.aE⟩)))
 have h1:jU p=true:=by simpa using c
 refine aF gR hs.p3.At (bO apj hs (C64 p _ _ (Deep.ext MI hs.aE) hz) (λ _ he hs=>bI (λ c=>?_) (λ c=>?_)))
 ·have h2:tU p=true:=c;have A5:eP p=2:=ce2 h1 h2;exact bF hs.p2 tO (fw rfl) rfl (λ _ hs=>bF hs.p2 cK (fw rfl) rfl (λ _ hs=>aB tO hs.p1.hb rfl (aB cK hs.hb rfl ⟨_,by rw [A5],hs.aE⟩)))
 have h2:tU p=false:=c;refine aF gR hs.p3.At (dA Yx hs (C65 p _ uz wR _ (Deep.ext MI hs.aE) (yn.ext hs.aE) (zx.ext hs.aE) (by have:=hz.threads; omega) (by have:=hz.recover; omega)) (λ x38 w38 cL hs=>aG iO (hs).gg ?_));refine ⟨λ m x w1=>∃ k:Nat,x = .int .i64 (k:Int)/\m=(uz++wR).length - k/\k<=(uz++wR).length/\(∀ y∈(gL p).take k,oJ y.body=false)/\St w bD [bJ x38 (uz++wR),jy bm (yx p).1,cP b3 [.int .i64 0],cP b2 [.int .i64 0],cP bp (Flat.enc (⟨bX,cN,cB,bK,bN,bU⟩:bE))] w1,⟨_,0,rfl,rfl,Nat.zero_le _,by simp,hs⟩,?_⟩;rintro m _ _ ⟨k,rfl,rfl,hk,eA,hs⟩ _
 refine aS (aC (λ c=>?_) (λ c=>?_))
 ·obtain ⟨t,ht⟩:∃ t,(uz++wR)[((k:Nat):Int).toNat]? = some t:=⟨_,List.getElem?_eq_getElem (by omega)⟩;obtain ⟨r,hr⟩:∃ r,(gL p)[k]? = some r:=⟨_,List.getElem?_eq_getElem (by omega)⟩;have YU:=List.mem_of_getElem? hr;have hrz:=hz.uw YU;have hrr:=(oI h1).uw YU;obtain ⟨gr,gb,rfl,dr,db⟩:=hD.2 _ _ _ ht hr;have U5:=kN hrr.2.1;refine aU iO (hs).gg (by omega) ht (λ q hq=>aF py hq (aN hs rS (λ bt wt hs=>aO (x:=(⟨r.name,gr,gb,r.at_⟩:bR)) hs py rfl rfl (λ wu hs=>?_))));obtain ⟨apV,hbf,tb,hbt,hst,_,_⟩:=U5;have Qn:tb.len<=40:=by rw [<- Bk.cJ,<- hbt]; exact apV
  have hwl:oJ r.body=lE tb 1:=by rw [hbt]; exact AM hst
  refine aA sX (aB (v:=Flat.val gb) zR hs.hb rfl (eW ajG (C66 _ tb 1 (tb.len+1) _ (by rw [<- hbt]; exact DL.ext db hs.aE) hst (by rw [<- hbt]; exact λ x hx=>JT (hbf x hx)) (by omega) (by omega) (Nat.lt_succ_self _)) ?_));rintro _ _ ⟨aa,rfl,he⟩;have hs:=hs.ext he;refine aR rfl (aR rfl (bI (λ c9=>?_) (λ c9=>?_)))
  ·have h3:(gL p).any (λ t=>oJ t.body)=true:=uO hr (by rw [hwl]; exact c9);have A5:eP p=11:=aov h1 h2 h3;exact bF hs.p4 tO (fw rfl) rfl (λ _ hs=>bF hs.p4 cK (fw rfl) rfl (λ _ hs=>aB tO hs.p1.hb rfl (aB cK hs.hb rfl ⟨_,by rw [A5],hs.aE⟩)))
  exact aT (by omega) (have hs:=hs.drop;⟨_,by omega,k+1,rfl,rfl,by omega,fi eA hr (by rw [hwl]; exact c9),hs⟩)
 have h3:(gL p).any (λ t=>oJ t.body)=false:=xj (by rw [List.take_of_length_le (by omega)] at eA; exact eA);have hs:=hs.drop;refine bI (λ c10=>?_) (λ c10=>?_)
 ·have h4:jz (ig p)=true:=by rw [<- TB]; exact c10
  have A5:eP p=10:=aow h1 h2 h3 h4;exact bF hs.p2 tO (fw rfl) rfl (λ _ hs=>bF hs.p2 cK (fw rfl) rfl (λ _ hs=>aB tO hs.p1.hb rfl (aB cK hs.hb rfl ⟨_,by rw [A5],hs.aE⟩)))
 have h4:jz (ig p)=false:=by rw [<- TB]; exact c10
 refine aF gR hs.p3.At (dA Yx hs (C65 p _ uz wR _ (Deep.ext MI hs.aE) (yn.ext hs.aE) (zx.ext hs.aE) (by have:=hz.threads; omega) (by have:=hz.recover; omega)) (λ x56 _ cL hs=>aG iO (hs).gg ?_))
 clear eA
 refine ⟨λ m x w1=>∃ k:Nat,x = .int .i64 (k:Int)/\m=(uz++wR).length - k/\k<=(uz++wR).length/\(∀ y∈(gL p).take k,tT p y.cW=false)/\St w bD [bJ x56 (uz++wR),jy bm (yx p).1,cP b3 [.int .i64 0],cP b2 [.int .i64 0],cP bp (Flat.enc (⟨bX,cN,cB,bK,bN,bU⟩:bE))] w1,⟨_,0,rfl,rfl,Nat.zero_le _,by simp,hs⟩,?_⟩;rintro m _ _ ⟨k,rfl,rfl,hk,eA,hs⟩ _;refine aS (aC (λ c=>?_) (λ c=>?_))
 ·obtain ⟨t,ht⟩:∃ t,(uz++wR)[((k:Nat):Int).toNat]? = some t:=⟨_,List.getElem?_eq_getElem (by omega)⟩;obtain ⟨r,hr⟩:∃ r,(gL p)[k]? = some r:=⟨_,List.getElem?_eq_getElem (by omega)⟩;have YU:=List.mem_of_getElem? hr;have hrz:=hz.uw YU;have hrr:=(oI h1).uw YU;obtain ⟨gr,gb,rfl,dr,db⟩:=hD.2 _ _ _ ht hr;have U5:=kN hrr.2.1;refine aU iO (hs).gg (by omega) ht (λ q hq=>aF py hq (aN hs rS (λ bt wt hs=>aO (x:=(⟨r.name,gr,gb,r.at_⟩:bR)) hs py rfl rfl (λ wu hs=>aF py hs.At (eW ad1 (C67 (⟨r.name,gr,gb,r.at_⟩:bR) r.cW bm (yx p).1 _ (DL.flat (DL.ext dr hs.aE)) hs.p2.jy (Ki p) (by omega)) ?_)))))
  rcases ER h4 r.cW with ⟨u6,zu⟩ | ⟨g,u6,zu,_⟩
  ·rintro _ w24 (⟨_,rfl,he⟩ | ⟨g,bg,Pt,_⟩);rotate_left
   ·rw [u6] at Pt; cases Pt
   have hs:=hs.ext he;have h5:(gL p).any (λ t=>tT p t.cW)=true:=uO hr zu;refine aR rfl (aR rfl (gk (aA y9 (have hs:=hs.drew;aB (v:=.int .i64 r.at_) cK hs.hb rfl ?_))));have A5:eP p=10:=ai3 h1 h2 h3 h4 h5;refine bF hs.p4 tO (fw rfl) rfl (λ wa hs=>?_);refine ⟨aD cK (hs.p1.hb.cell rfl),?_⟩;exact bF hs.p4 cK (fw rfl) rfl (λ _ hs=>aB tO hs.p1.hb rfl (aB cK hs.hb rfl ⟨_,by rw [A5],hs.aE⟩))
  rintro _ w24 (⟨Pt,_⟩ | ⟨g2,bg,Pt,rfl,cL⟩)
  ·rw [u6] at Pt; cases Pt
  have hs:=(hs.made cL).drop.drop;exact aR rfl (aR rfl (eu (aT (by omega) ⟨_,by omega,k+1,rfl,rfl,by omega,fi eA hr zu,hs⟩)))
 have h5:(gL p).any (λ t=>tT p t.cW)=false:=xj (by rw [List.take_of_length_le (by omega)] at eA; exact eA);have hs:=hs.drop;refine aF gR hs.p3.At (dA Yx hs (C65 p _ uz wR _ (Deep.ext MI hs.aE) (yn.ext hs.aE) (zx.ext hs.aE) (by have:=hz.threads; omega) (by have:=hz.recover; omega)) (λ x73 _ cL hs=>aG iO (hs).gg ?_))
 clear eA
 have hs:=Kg.nil hs;refine ⟨λ m dv x w1=>∃ (k:Nat) (ds:List Nat),dv=jd ds/\x = .int .i64 (k:Int)/\m=(uz++wR).length - k/\k<=(uz++wR).length/\(∀ y∈(gL p).take k,y.body.any (rp p y.cW)=false)/\St w bD [Kg ds,bJ x73 (uz++wR),jy bm (yx p).1,cP b3 [.int .i64 0],cP b2 [.int .i64 0],cP bp (Flat.enc (⟨bX,cN,cB,bK,bN,bU⟩:bE))] w1,⟨_,0,[],rfl,rfl,rfl,Nat.zero_le _,by simp,hs⟩,?_⟩;rintro m _ _ _ ⟨k,ds,rfl,rfl,rfl,hk,eA,hs⟩ _;rw [wW];refine aS (aC (λ c=>?_) (λ c=>?_))
 ·obtain ⟨t,ht⟩:∃ t,(uz++wR)[((k:Nat):Int).toNat]? = some t:=⟨_,List.getElem?_eq_getElem (by omega)⟩;obtain ⟨r,hr⟩:∃ r,(gL p)[k]? = some r:=⟨_,List.getElem?_eq_getElem (by omega)⟩;have YU:=List.mem_of_getElem? hr;have hrz:=hz.uw YU;have hrr:=(oI h1).uw YU;obtain ⟨gr,gb,rfl,dr,db⟩:=hD.2 _ _ _ ht hr;have U5:=kN hrr.2.1;refine aU iO (hs.p1).gg (by omega) ht (λ q hq=>aF py hq (aN hs rS (λ bt wt hs=>aO (x:=(⟨r.name,gr,gb,r.at_⟩:bR)) hs py rfl rfl (λ wu hs=>?_))))
  have h5r:tT p r.cW=false:=by
   cases hh:tT p r.cW with
   | false=>rfl
   | true=>exact absurd (uO (g:=λ t:bV=>tT p t.cW) hr hh) (by rw [h5]; decide)
  refine aF py hs.At (eW ad1 (C67 (⟨r.name,gr,gb,r.at_⟩:bR) r.cW bm (yx p).1 _ (DL.flat (DL.ext dr hs.aE)) hs.p3.jy (Ki p) (by omega)) ?_)
  rcases ER h4 r.cW with ⟨_,zu⟩ | ⟨g,u6,zu,_⟩
  ·rw [zu] at h5r; cases h5r
  rintro _ w31 (⟨Pt,_⟩ | ⟨g2,bg,Pt,rfl,cL⟩)
  ·rw [u6] at Pt; cases Pt
  obtain rfl:g=g2:=Option.some.inj (u6.symm.trans Pt);have hs:=hs.made cL;refine aR rfl (aR rfl (fx hs Li rfl (λ b17 _ hs=>bF hs Cf (fw rfl) rfl (λ _ hs=>aA sX (aB (v:=Flat.val gb) zR hs.p2.hb rfl (eW apJ (C68 gb _) ?_))))));rintro _ _ ⟨bu,rfl,aj5⟩;have hs:=hs.made aj5;have hbz:=hrz.1.2.2;have aj6:=TI h4 u6 U5.2.1;obtain ⟨tsb,hRb,hDb⟩:=db.open
  refine Tq (cap:=[.pointer (some ⟨bu,0,none⟩)]) (kR r.body).length (MF (kR r.body)) ajW hs
   (λ j M=>(∀ i,i<j->∀ u,(kR r.body)[i]? = some u->yQ g u=false)/\M=[cP bu [Flat.val gb],cP b17 [.map (some bg)],jy bg g,cP bt (Flat.enc (⟨r.name,gr,gb,r.at_⟩:bR)),Kg ds,bJ x73 (uz++wR),jy bm (yx p).1,cP b3 [.int .i64 0],cP b2 [.int .i64 0],cP bp (Flat.enc (⟨bX,cN,cB,bK,bN,bU⟩:bE))])
   (λ cx M=>cx = .ret/\(kR r.body).any (yQ g)=true/\∃ a L,M=cP b3 [.int .i64 a]::cP b2 [.int .i64 9]::Kg ds::L) ⟨λ _ hi=>absurd hi (Nat.not_lt_zero _),rfl⟩ (by rintro j a Φ ⟨u,s,_,rfl,_⟩; rfl) ?_ ?_ ?_ ?_ ?_ ?_
  ·intro y Y Jx W h0 hy;refine (C130 y bu (Flat.val gb) tsb r.body w bD _ Jx W (by omega) (λ x hx=>⟨(hbz x hx).2.2.1,(hbz x hx).2.2.2.1⟩) ?_ ?_ hy).mono λ _ _ rr=>rr.mono λ v W' h=>?_
   ·rintro j _ W2 ⟨M,⟨_,rfl⟩,rfl⟩ Xf;exact ⟨Xf.p1.hb.cell rfl,hRb.ext Xf.aE,hDb.ext Xf.aE⟩
   ·obtain ⟨M,h1,h2⟩:=h0; exact ⟨_,⟨M,h1,rfl⟩,h2⟩
   rcases h with ⟨_,⟨M,h1,rfl⟩,h2⟩ | h
   ·exact .inl ⟨M,h1,h2⟩
   exact .inr h
  ·rintro j args Φ Y1 Y2 B Kr M W ⟨u,s,hu,rfl,hs1⟩ ⟨hjn,rfl⟩ hΦ hB hN hR hs;dsimp only [qh];refine aN hs VQ (λ b9 _ hs=>aO (x:=(⟨u.1,u.2.1,s⟩:EK)) hs agY rfl rfl (λ _ hs=>?_));refine hB _ _ _ hs.p1 (λ w38 hs=>?_);refine aA Qr (aB (v:=Flat.val s) fT hs.p1.hb rfl (aB Cf hs.p3.hb rfl (aA Qp (aB (v:=.string u.1) kp hs.p1.hb rfl (tE hs.p4.jy Tryz.underlying121 Tryz.underlying9 rQ ?_)))))
   have Fp:dx (λ _=>True) w38 (Flat.val s) u.2.2:=by
    obtain ⟨F,h1,_⟩:=hs.head;exact hs1 _ (hΦ _ _ h1)
   have hul:u.2.2.length<=1048576:=TJ (List.mem_of_getElem? hu);refine bO apT hs (C69 _ u.2.2 (cY g u.1) _ Fp hul) (λ _ he hs=>bH (bI (λ TK=>aA Qq (have hs:=hs.drew;aB (v:=.int .i64 u.2.1) cK hs.p1.hb rfl (have hs:=(hs.p2).drop;bF hs.p9 tO (fw rfl) rfl (λ _ hs=>⟨aD cK (hs.p2.hb.cell rfl),bF hs.p9 cK (fw rfl) rfl (λ _ hs=>hR .ret _ _ ((((hs.p7).p2).p2).p3) ⟨rfl,uO hu (by unfold yQ; exact TK),_,_,rfl⟩)⟩)))) (λ TK=>?_)));refine hN _ _ (hs.p1).drop ⟨λ i hi u2 hu2=>?_,rfl⟩
   rcases Nat.lt_or_ge i j with h | h
   ·exact hjn i h u2 hu2
   obtain rfl:i=j:=by omega
   rw [hu] at hu2; cases hu2
   unfold yQ; exact TK
  ·rintro D M W ⟨hjn,rfl⟩ hs;refine aT (by omega) ?_;have hs:=St.join (H1:=j6 D (.deferred (some []))) hs.p1.drop.p1.drop.p1.drop.p1.drop;refine ⟨_,by omega,k+1,D::ds,rfl,rfl,rfl,by omega,fi eA hr ?_,hs⟩;rw [<- aj6];refine xj λ u hu=>?_;obtain ⟨i,hi⟩:=List.mem_iff_getElem?.1 hu;exact hjn i (List.getElem?_eq_some_iff.1 hi).1 u hi
  ·rintro D M W ⟨_,ap0,a,L,rfl⟩ hs;have h6:(gL p).any (λ t=>t.body.any (rp p t.cW))=true:=uO hr (by rw [<- aj6]; exact ap0);have A5:eP p=9:=ce9 h1 h2 h3 h4 h5 h6;have hs:=St.join (H1:=j6 D (.deferred (some []))) (hs.p3.p1);refine Kg.take (D::ds) hs (λ _ hs=>?_);exact aB tO hs.p1.hb rfl (aB cK hs.hb rfl ⟨_,by rw [A5],hs.aE⟩)
  ·rintro id D M W ⟨h,_⟩; cases h
  rintro cx M ⟨h,_⟩; exact .inr h
 have h6:(gL p).any (λ t=>t.body.any (rp p t.cW))=false:=xj (by rw [List.take_of_length_le (by omega)] at eA; exact eA);have hs:=hs.p1.drop;have hzc:=hz.dF;obtain ⟨ts5,hR5,hD5⟩:=(eQ).open;have hn5:=hD5.1;refine aA kY (aB (v:=Flat.val bU) tP hs.p4.hb rfl (aG vF (hR5.ext hs.aE) ?_))
 clear eA
 refine ⟨λ m x w1=>∃ k:Nat,x = .int .i64 (k:Int)/\m=ts5.length - k/\k<=ts5.length/\(∀ y∈p.dF.take k,rn y.e (gG p)=false)/\St w bD [Kg ds,jy bm (yx p).1,cP b3 [.int .i64 0],cP b2 [.int .i64 0],cP bp (Flat.enc (⟨bX,cN,cB,bK,bN,bU⟩:bE))] w1,⟨_,0,rfl,rfl,Nat.zero_le _,by simp,hs⟩,?_⟩;rintro m _ _ ⟨k2,rfl,rfl,wP,eA,hs⟩ _;refine aS (aC (λ c12=>?_) (λ c12=>?_))
 ·obtain ⟨t,ht⟩:∃ t,ts5[((k2:Nat):Int).toNat]? = some t:=⟨_,List.getElem?_eq_getElem (by omega)⟩;obtain ⟨r,hr⟩:∃ r,p.dF[k2]? = some r:=⟨_,List.getElem?_eq_getElem (by omega)⟩;have hrz:=hz.zc r (List.mem_of_getElem? hr);obtain ⟨ge,rfl,de⟩:=hD5.2 _ _ _ ht hr;have dE:=DL.flat de;refine aU vF (hR5.ext hs.aE) (by omega) ht (λ q hq=>aF FI hq (aN hs Lg (λ bc _ hs=>aO (x:=(⟨ge,r.at_⟩:jD)) hs FI rfl rfl (λ _ hs=>aA vJ (aB (v:=Flat.val ge) m9 hs.hb rfl (aG kq (dE.ext hs.aE) ?_))))));have hvc:=Kk h4 r.e;refine ⟨λ m x w1=>∃ j:Nat,x = .int .i64 (j:Int)/\m=r.e.length - j/\j<=r.e.length/\(∀ y∈r.e.take j,(decide (y.op=2) && decide (¬ cY (yx p).1 y.name=1))=false)/\St w bD [cP bc (Flat.enc (⟨ge,r.at_⟩:jD)),Kg ds,jy bm (yx p).1,cP b3 [.int .i64 0],cP b2 [.int .i64 0],cP bp (Flat.enc (⟨bX,cN,cB,bK,bN,bU⟩:bE))] w1,⟨_,0,rfl,rfl,Nat.zero_le _,by simp,hs⟩,?_⟩
  rintro m _ _ ⟨j,rfl,rfl,hj,hnj,hs⟩ _;refine aS (aC (λ c13=>?_) (λ c13=>?_))
  ·obtain ⟨y,hy⟩:∃ y,r.e[((j:Nat):Int).toNat]? = some y:=⟨_,List.getElem?_eq_getElem (by omega)⟩;refine aU kq (dE.ext hs.aE) (by omega) hy (λ q hq=>aF zQ hq (aN hs DC (λ by_ _ hs=>aO (x:=y) hs zQ rfl rfl (λ w50 hs=>?_))));refine ⟨λ jv w'=>jv = .bool (decide (y.op=2) && decide (¬ cY (yx p).1 y.name=1))/\w'=w50,?_,?_⟩
   ·exact aA me (aB (v:=.int .i64 y.op) cK hs.hb rfl (aI (aC (λ c14=>aA kW (aB (v:=.string y.name) kp hs.hb rfl (tE hs.p3.jy Tryz.underlying121 Tryz.underlying9 rQ (cS ⟨vb (by rw [decide_eq_true c14,Bool.true_and]),rfl⟩)))) (λ c14=>⟨vb (by rw [decide_eq_false c14,Bool.false_and]),rfl⟩))))
   rintro _ _ ⟨rfl,rfl⟩ _;refine bI (λ c15=>?_) (λ c15=>aT (by omega) ⟨_,by omega,j+1,rfl,rfl,by omega,fi hnj hy c15,hs.drop⟩);have h7:p.dF.any (λ c=>rn c.e (gG p))=true:=uO hr (by rw [<- hvc]; exact uO hy c15);have A5:eP p=9:=aox h1 h2 h3 h4 h5 h6 h7;refine aA vE (have hs:=hs.drew;aB (v:=.int .i64 y.at_) cK hs.hb rfl (bF hs.p5 tO (fw rfl) rfl (λ wa hs=>?_)));refine ⟨aD cK (hs.p1.hb.cell rfl),?_⟩;refine bF hs.p5 cK (fw rfl) rfl (λ wb hs=>?_);refine Kg.take ds hs.p4 (λ w54 hs=>?_);exact aB tO hs.p1.hb rfl (aB cK hs.hb rfl ⟨_,by rw [A5],hs.aE⟩)
  refine aT (by omega) ?_;refine ⟨_,by omega,k2+1,rfl,rfl,by omega,fi eA hr ?_,hs.drop⟩;rw [<- hvc];exact xj (by rw [List.take_of_length_le (by omega)] at hnj; exact hnj)
 have h7:p.dF.any (λ c=>rn c.e (gG p))=false:=xj (by rw [List.take_of_length_le (by omega)] at eA; exact eA);have A5:eP p=0:=ce0 h1 h2 h3 h4 h5 h6 h7;refine bF hs.p3 tO (fw rfl) rfl (λ wa hs=>bF hs.p3 cK (fw rfl) rfl (λ wb hs=>?_));refine Kg.take ds hs.p2 (λ w54 hs=>?_);exact aB tO hs.p1.hb rfl (aB cK hs.hb rfl ⟨_,by rw [A5],hs.aE⟩)
theorem OA {α:Type} (l:List α) (n:Nat):l.take (min (l.length:Int) n).toNat=l.take n:=by
 rcases Nat.lt_or_ge l.length n with h | h
 ·rw [List.take_of_length_le (by omega),List.take_of_length_le (by omega)]
 rw [show (min (l.length:Int) n).toNat=n from by omega]
theorem C71 (sv:Value) (xs:List Int) (w:World) (hL:dx (λ _=>True) w sv xs) (hn:xs.length<=1000000):CR 71 [sv] w (λ v w'=>mZ (bJ v xs) w w'):=by
 have hs:=St.start w;refine tN Tryz.func71 ?_;refine pD Tryz.underlying45 (hL.ext hs.aE) (λ p hp=>bI (λ Eo=>?_) (λ Eo=>?_))
 ·have hx:=hp Eo;subst hx;exact (hs.fy (α:=Int)).fresh
 refine cO (([]:List Int)) hs ei rfl rfl (fw rfl) (λ ap4 _ hs=>?_);have TL:=(hL.ext hs.aE);exact dw hs ei TL (by simp; omega) (by decide) (λ _ _ hs=>hs.fresh)
def o7 (x y:aV):Bool:=decide (x.kind≠7/\y.kind≠7/\(x.kind=6\/y.kind=6)/\x.line≠y.line)
def right (x:aV):Bool:=decide ((x.kind=3/\0<=x.line/\0<=x.cell)\/((x.kind=5\/x.kind=6)/\0<=x.line/\x.cell=0/\x.n=0)\/(x.kind=7/\x.line=0/\x.cell=0/\x.n=0))
theorem C156 (x y:aV) (w:World):CR 156 [Flat.val x,Flat.val y] w (λ v w'=>v = .bool (o7 x y)/\Ext w w'):=by
 have hs:=St.start w;refine VC _ _ _ _ ?_;unfold S156;refine cZ hs (λ Jj _ hs=>cZ hs (λ aj7 _ hs=>?_));refine ⟨_,?_,λ _ _ h=>h⟩;refine aA nM (aB cK hs.p1.hb rfl (aI (aC (λ kx=>?_) (λ kx=>?_))))
 ·intro yh;refine ⟨_,?_,λ _ _ h=>h⟩;refine bH (eu ?_);intro yi;refine ⟨vb ?_,hs.aE⟩;unfold o7
  first | exact (decide_eq_true (by omega)).symm | exact (decide_eq_false (by omega)).symm | exact decide_eq_decide.2 (by omega) | exact decide_eq_decide.2 (aV.ext_iff.trans (by dsimp only; omega))
 refine aA nM (aB cK hs.hb rfl (aI ?_));intro yh;refine ⟨_,?_,λ _ _ h=>h⟩
 first | refine zL ?_ | refine bH ?_
 refine aC (λ j8=>aA nM (aB cK hs.p1.hb rfl (aI (aC (λ nQ=>?_) (λ nQ=>aA nM (aB cK hs.hb rfl (aI (aC (λ yj=>?_) (λ yj=>?_))))))))) (λ j8=>?_)
 ·refine aA kZ (aB cK hs.p1.hb rfl (aA kZ (aB cK hs.hb rfl (cS ?_))));intro yi;refine ⟨vb ?_,hs.aE⟩;unfold o7
  first | exact (decide_eq_true (by omega)).symm | exact (decide_eq_false (by omega)).symm | exact decide_eq_decide.2 (by omega) | exact decide_eq_decide.2 (aV.ext_iff.trans (by dsimp only; omega))
 ·refine aA kZ (aB cK hs.p1.hb rfl (aA kZ (aB cK hs.hb rfl (cS ?_))));intro yi;refine ⟨vb ?_,hs.aE⟩;unfold o7
  first | exact (decide_eq_true (by omega)).symm | exact (decide_eq_false (by omega)).symm | exact decide_eq_decide.2 (by omega) | exact decide_eq_decide.2 (aV.ext_iff.trans (by dsimp only; omega))
 ·intro yi;refine ⟨vb ?_,hs.aE⟩;unfold o7
  first | exact (decide_eq_true (by omega)).symm | exact (decide_eq_false (by omega)).symm | exact decide_eq_decide.2 (by omega) | exact decide_eq_decide.2 (aV.ext_iff.trans (by dsimp only; omega))
 intro yi;refine ⟨vb ?_,hs.aE⟩;unfold o7
 first | exact (decide_eq_true (by omega)).symm | exact (decide_eq_false (by omega)).symm | exact decide_eq_decide.2 (by omega) | exact decide_eq_decide.2 (aV.ext_iff.trans (by dsimp only; omega))
theorem eqE (x y:aV):lR (Flat.enc x) (Flat.enc y)=decide (x=y):=by
 obtain ⟨a,b,c,d⟩:=x
 obtain ⟨a2,b2,c2,d2⟩:=y
 simp [Flat.enc,lR,eqV,Bool.eq_iff_iff]
theorem C141 (x:aV) (w:World):CR 141 [Flat.val x] w (λ v w'=>v = .bool (right x)/\Ext w w'):=by
 have hs:=St.start w;refine Vz _ _ _ ?_;unfold S141;refine cZ hs (λ Ep _ hs=>aA nM (aB cK hs.hb rfl (aI (aC (λ tQ=>⟨_,aA kZ (aB cK hs.hb rfl (dO (aC (λ qA=>?_) (λ qA=>?_)))),λ _ _ h=>h⟩) (λ tQ=>⟨_,aI (aC (λ dJ=>?_) (λ dJ=>?_)),λ _ _ h=>h⟩)))))
 ·refine aA pA (aB cK hs.hb rfl (dO ?_));intro yh;refine ⟨vb ?_,hs.aE⟩;unfold right
  first | exact (decide_eq_true (by omega)).symm | exact (decide_eq_false (by omega)).symm | exact decide_eq_decide.2 (by omega) | exact decide_eq_decide.2 (aV.ext_iff.trans (by dsimp only; omega))
 ·intro yh;refine ⟨vb ?_,hs.aE⟩;unfold right
  first | exact (decide_eq_true (by omega)).symm | exact (decide_eq_false (by omega)).symm | exact decide_eq_decide.2 (by omega) | exact decide_eq_decide.2 (aV.ext_iff.trans (by dsimp only; omega))
 ·intro yi;refine aC (λ j8=>⟨_,aA kZ (aB cK hs.hb rfl (dO (aC (λ A1=>aA pA (aB cK hs.hb rfl (aI (aC (λ vT=>?_) (λ vT=>?_))))) (λ A1=>?_)))),λ _ _ h=>h⟩) (λ j8=>?_)
  ·refine aA rW (aB cK hs.hb rfl (aI ?_));intro Pp;refine ⟨vb ?_,hs.aE⟩;unfold right
   first | exact (decide_eq_true (by omega)).symm | exact (decide_eq_false (by omega)).symm | exact decide_eq_decide.2 (by omega) | exact decide_eq_decide.2 (aV.ext_iff.trans (by dsimp only; omega))
  ·intro Pp;refine ⟨vb ?_,hs.aE⟩;unfold right
   first | exact (decide_eq_true (by omega)).symm | exact (decide_eq_false (by omega)).symm | exact decide_eq_decide.2 (by omega) | exact decide_eq_decide.2 (aV.ext_iff.trans (by dsimp only; omega))
  ·intro Pp;refine ⟨vb ?_,hs.aE⟩;unfold right
   first | exact (decide_eq_true (by omega)).symm | exact (decide_eq_false (by omega)).symm | exact decide_eq_decide.2 (by omega) | exact decide_eq_decide.2 (aV.ext_iff.trans (by dsimp only; omega))
  refine aF jK hs.At (pop (zV _) (Cc Qx rfl rfl (eqE x ⟨7,0,0,0⟩) ?_));refine ⟨vb ?_,hs.aE⟩;unfold right
  first | exact (decide_eq_true (by omega)).symm | exact (decide_eq_false (by omega)).symm | exact decide_eq_decide.2 (by omega) | exact decide_eq_decide.2 (aV.ext_iff.trans (by dsimp only; omega))
 refine aI ?_;intro yi;refine aC (λ j8=>⟨_,aA kZ (aB cK hs.hb rfl (dO (aC (λ A1=>aA pA (aB cK hs.hb rfl (aI (aC (λ vT=>?_) (λ vT=>?_))))) (λ A1=>?_)))),λ _ _ h=>h⟩) (λ j8=>?_)
 ·refine aA rW (aB cK hs.hb rfl (aI ?_));intro Pp;refine ⟨vb ?_,hs.aE⟩;unfold right
  first | exact (decide_eq_true (by omega)).symm | exact (decide_eq_false (by omega)).symm | exact decide_eq_decide.2 (by omega) | exact decide_eq_decide.2 (aV.ext_iff.trans (by dsimp only; omega))
 ·intro Pp;refine ⟨vb ?_,hs.aE⟩;unfold right
  first | exact (decide_eq_true (by omega)).symm | exact (decide_eq_false (by omega)).symm | exact decide_eq_decide.2 (by omega) | exact decide_eq_decide.2 (aV.ext_iff.trans (by dsimp only; omega))
 ·intro Pp;refine ⟨vb ?_,hs.aE⟩;unfold right
  first | exact (decide_eq_true (by omega)).symm | exact (decide_eq_false (by omega)).symm | exact decide_eq_decide.2 (by omega) | exact decide_eq_decide.2 (aV.ext_iff.trans (by dsimp only; omega))
 refine aF jK hs.At (pop (zV _) (Cc Qx rfl rfl (eqE x ⟨7,0,0,0⟩) ?_));refine ⟨vb ?_,hs.aE⟩;unfold right
 first | exact (decide_eq_true (by omega)).symm | exact (decide_eq_false (by omega)).symm | exact decide_eq_decide.2 (by omega) | exact decide_eq_decide.2 (aV.ext_iff.trans (by dsimp only; omega))
def o8 (l:List aV) (i:Int):Bool:=decide (0<=i/\i<l.length) && (match l[i.toNat]? with | some x=>(l.take i.toNat).all (o7 x) | none=>false)
def sH (l:List aV):List Int:=((List.range l.length).map fun (k:Nat)=>(k:Int)).filter (o8 l)
theorem pR {l:List aV} {i:Int} (h:i<0\/(l.length:Int)<=i):o8 l i=false:=by
 unfold o8
 have:decide (0<=i/\i<l.length)=false:=by rw [decide_eq_false_iff_not]; omega
 rw [this]; rfl
theorem YV {l:List aV} {i:Int} {x:aV} (h0:0<=i) (h1:i<l.length) (hx:l[i.toNat]? = some x):o8 l i = !(l.take i.toNat).any λ y=>!o7 x y:=by
 unfold o8
 rw [hx,decide_eq_true (show 0<=i/\i<l.length from ⟨h0,h1⟩)]
 simp [List.all_eq_not_any_not]
def o9 (l:List aV) (k:Nat):List Int:=((List.range k).map fun (k:Nat)=>(k:Int)).filter (o8 l)
theorem CM (l:List aV) (k:Nat):(o9 l k).length<=k:=by
 unfold o9
 have:=List.length_filter_le (o8 l) ((List.range k).map fun (k:Nat)=>(k:Int)); simpa using this
theorem Kl {l:List aV} {k:Nat} (h:o8 l k=true):o9 l (k+1)=o9 l k++[(k:Int)]:=by
 unfold o9; rw [List.range_succ,List.map_append,List.filter_append]; simp [h]
theorem OB {l:List aV} {k:Nat} (h:o8 l k=false):o9 l (k+1)=o9 l k:=by
 unfold o9; rw [List.range_succ,List.map_append,List.filter_append]; simp [h]
theorem A6 (l:List aV) {k:Nat} (h:k=l.length):o9 l k=sH l:=by subst h; rfl
def tW (w:World) (p:Nat) (room:Int) (l:List aV):Prop:=∃ sv,Cell w p 0 (.int .i64 room)/\Cell w p 1 sv/\dx (λ _=>True) w sv l
def lF (p:Nat) (room:Int) (l:List aV):HP:=yJ λ sv=>sep (cP p [.int .i64 room,sv]) (bJ sv l)
theorem tW.ext {w w':World} {p:Nat} {room:Int} {l:List aV} (h:tW w p room l) (e:Ext w w'):tW w' p room l:=by
 obtain ⟨sv,h1,h2,h3⟩:=h; exact ⟨sv,h1.ext e,h2.ext e,h3.ext e⟩
theorem lF.rd {w:World} {F:Nat->Prop} {p:Nat} {room:Int} {l:List aV} (h:(lF p room l).p w F):tW w p room l:=by
 obtain ⟨sv,F1,F2,h1,h2,_⟩:=h
 exact ⟨sv,h1.1.cell rfl,h1.1.cell rfl,(bJ.rd h2).mono λ _ _=>trivial⟩
theorem C195 (sv fv:Value) (xs:List aV) (g:aV->Bool) (w:World) (hL:dx (λ _=>True) w sv xs) (hf:rC w fv g) (hn:xs.length<=1073741824):CR 195 [sv,fv] w (λ v w'=>v = .int .i64 (pE g xs)/\Ext w w'):=by
 obtain ⟨g0,first,cap,rfl,lT,gD⟩:=hf;have hs:=St.start w;refine VH _ _ _ _ ?_;unfold S195;refine aG iQ (hL.ext hs.aE) ?_;refine ⟨λ m x w1=>∃ k:Nat,x = .int .i64 (k:Int)/\m=xs.length - k/\k<=xs.length/\(∀ y∈xs.take k,g y=false)/\St w bD [] w1,⟨_,0,rfl,rfl,Nat.zero_le _,by simp,hs⟩,?_⟩;rintro m _ w1 ⟨k,rfl,rfl,hk,eA,hs⟩ _;refine aS (aC (λ qA=>?_) (λ _=>⟨congrArg (Value.int .i64) (gB (by rw [List.take_of_length_le (by omega)] at eA; exact eA)).symm,hs.aE⟩));obtain ⟨jM,dG⟩:=gx (xs) (i:=((k:Int)).toNat) (by omega);refine aU iQ (hL.ext hs.aE) (by omega) dG (λ _ gS=>aF jK (gS) (ft lT (gD jM w1 hs.aE) ?_))
 rintro _ _ ⟨rfl,he⟩;have hs:=hs.ext he;exact bI (λ dJ=>⟨congrArg (Value.int .i64) (jE eA dG dJ).symm,hs.aE⟩) (λ dJ=>aT (by omega) ⟨xs.length - (k+1),by omega,k+1,rfl,rfl,by omega,fi eA dG dJ,hs⟩)
theorem C157 (sv fv:Value) (xs:List aV) (g:aV->Bool) (w:World) (hL:dx (λ _=>True) w sv xs) (hf:rC w fv g) (hn:xs.length<=1073741824):CR 157 [sv,fv] w (λ v w'=>v = .bool (xs.any g)/\Ext w w'):=by
 have hs:=St.start w;refine VD _ _ _ _ ?_;unfold S157;exact bO agA hs (C195 _ _ _ _ _ (hL.ext hs.aE) (hf.ext hs.aE) (by omega)) (λ _ _ hs=>dO ⟨vb (iK _ _),hs.aE⟩)
theorem C155 (x y:aV) (p b2 b3:Nat) (i:Int) (room:Int) (l:List aV) (w:World) (h2:Cell w b2 0 (.pointer (some ⟨p,0,none⟩))) (h3:Cell w b3 0 (.int .i64 i)) (hb:tW w p room l) (h0:0<=i) (hx:l[i.toNat]? = some x):CR 155 [Flat.val y,.pointer (some ⟨b2,0,none⟩),.pointer (some ⟨b3,0,none⟩)] w (λ v w'=>v = .bool (!o7 x y)/\Ext w w'):=by
 obtain ⟨sv,ug,Bv,hL⟩:=hb;have eU:=(List.getElem?_eq_some_iff.1 hx).1;have hs:=St.start w;refine VB _ _ _ _ _ ?_;unfold S155;exact cZ hs (λ _ _ hs=>have hs:=hs.drew;bW vH (h2.ext hs.aE) (aH (aA iJ (bW mY (Bv.ext hs.aE) (bW cK (h3.ext hs.aE) (aU iQ (hL.ext hs.aE) h0 hx (λ _ TM=>aF jK (TM) (aF jK hs.At (bO agu hs (C156 x y _) (λ _ _ hs=>bH ⟨rfl,hs.aE⟩))))))))))
theorem C109 (p:Nat) (i:Int) (room:Int) (l:List aV) (w:World) (hb:tW w p room l) (hn:l.length<=1073741824):CR 109 [.pointer (some ⟨p,0,none⟩),.int .i64 i] w (λ v w'=>v = .bool (o8 l i)/\Ext w w'):=by
 have hb0:=hb;obtain ⟨sv,ug,Bv,hL⟩:=hb;have hs:=St.start w;refine Vv _ _ _ _ ?_;unfold S109;refine jY hs rfl (λ aj8 w1 hs=>jY hs rfl (λ aj9 _ hs=>?_));refine ⟨_,?_,λ _ _ h=>h⟩;have hs:=hs.drew;refine aB cK hs.hb rfl (aS (aC (λ BF=>?_) (λ BF=>?_)))
 ·intro yh;exact gk ⟨vb (pR (by omega)).symm,hs.aE⟩
 refine aB cK hs.hb rfl (aB vH hs.p1.hb rfl (aH (aA iJ (bW mY (Bv.ext hs.aE) (aG iQ (hL.ext hs.aE) (dO ?_))))));intro yh;refine aC (λ _=>⟨vb (pR (by omega)).symm,hs.aE⟩) (λ dJ=>have hs:=hs.drew;aB vH hs.p1.hb rfl (aH (aA iJ (bW mY (Bv.ext hs.aE) (aB cK hs.hb rfl (Nu iQ (hL.ext hs.aE) (by omega) (by omega) (λ s_x23 HR=>?_)))))));obtain ⟨x,hx⟩:∃ x,l[i.toNat]? = some x:=⟨_,List.getElem?_eq_getElem (by omega)⟩
 have hfn:rC _ (.func (.func 155) [].toArray [.pointer (some ⟨aj8,0,none⟩),.pointer (some ⟨aj9,0,none⟩)].toArray) (λ y=>!o7 x y):=
  ⟨155,[],_,rfl,agt,λ y w1 e1=>C155 x y p aj8 aj9 i room l w1 ((hs.p1.hb.cell rfl).ext e1) ((hs.hb.cell rfl).ext e1) ((hb0.ext hs.aE).ext e1) (by omega) hx⟩
 exact bO agv hs (C157 _ _ _ _ _ HR hfn (by rw [List.length_take]; omega)) (λ _ _ hs=>bH ⟨vb (YV (by omega) (by omega) hx).symm,hs.aE⟩)
theorem C108 (p:Nat) (room:Int) (l:List aV) (w:World) (hb:tW w p room l):CR 108 [.pointer (some ⟨p,0,none⟩)] w (λ v w'=>v = .bool (decide (room<=l.length))/\Ext w w'):=by
 obtain ⟨sv,ug,Bv,hL⟩:=hb;have hs:=St.start w;refine Vu _ _ _ ?_;unfold S108;exact aH (aA iJ (have hs:=hs.drew;bW mY (Bv.ext hs.aE) (aG iQ (hL.ext hs.aE) (aH (aA Qs (bW cK (ug.ext hs.aE) (dO ⟨rfl,hs.aE⟩)))))))
theorem C54 (p:Nat) (room:Int) (l:List aV) (w:World) (hb:tW w p room l) (hn:l.length<=1048576):CR 54 [.pointer (some ⟨p,0,none⟩)] w (λ v w'=>mZ (bJ v (sH l)) w w'):=by
 have hb0:=hb;obtain ⟨sv,ug,Bv,hL⟩:=hb;have hs:=St.start w;refine abJ _ _ _ ?_;unfold S54;refine aH (aA iJ (bW mY (Bv.ext hs.aE) (aG iQ (hL.ext hs.aE) ?_)));refine ⟨λ m o x w1=>∃ k:Nat,x = .int .i64 (k:Int)/\m=l.length - k/\k<=l.length/\St w bD [bJ o (o9 l k)] w1,⟨_,0,rfl,rfl,Nat.zero_le _,hs.fy⟩,?_⟩;rintro m o _ w1 ⟨k,rfl,rfl,hk,hs⟩ _;have Eh:=CM l k;refine aS (aC (λ wo=>⟨_,bO ZQ hs (C109 _ _ _ _ _ (hb0.ext hs.aE) (by omega)) (λ _ he hs=>bI (λ j8=>?_) (λ j8=>?_)),λ _ _ h=>h⟩) (λ wo=>?_))
 ·refine cO (([(k:Int)]:List Int)) hs ei rfl rfl (fw rfl) (λ aaW _ hs=>?_);have l3:=(hs).gg;refine dw hs.p1 ei l3 (by simp <;> omega) (by decide) (λ aaU _ hs=>?_);have hs:=hs.p1.drop;intro yi;exact aT (by omega) ⟨l.length - (k+1),by omega,k+1,rfl,rfl,by omega,by rw [Kl j8]; exact hs⟩
 ·intro yi;exact aT (by omega) ⟨l.length - (k+1),by omega,k+1,rfl,rfl,by omega,by rw [OB j8]; exact hs⟩
 rw [A6 l (by omega)] at hs;exact hs.fresh
def Km (room:Int) (l:List aV) (x:aV):Int:=if right x=true then (if room<=l.length then 2 else 0) else 1
def tX (room:Int) (l:List aV) (x:aV):List aV:=if right x=true/\¬ room<=l.length then l++[x] else l
def eo (l:List aV) (i:Int):aV:=if o8 l i=true then (l[i.toNat]?).getD ⟨0,0,0,0⟩ else ⟨0,0,0,0⟩
def wA (l:List aV) (i:Int):Int:=if 0<=i/\i<l.length then (if o8 l i=true then 0 else 13) else 1
def kf (l:List aV) (i:Int):List aV:=if o8 l i=true then l.eraseIdx i.toNat else l
theorem YW {l:List aV} {i:Int} (h:o8 l i=true):0<=i/\i<l.length:=by
 unfold o8 at h; rw [Bool.and_eq_true,decide_eq_true_eq] at h; exact h.1
theorem tW.mk' {w:World} {p:Nat} {room:Int} {sv:Value} {l:List aV} (h1:q9 w p [.int .i64 room,sv]) (h2:dx (λ _=>True) w sv l):tW w p room l:=
 ⟨sv,h1.cell rfl,h1.cell rfl,h2⟩
theorem lF.shut {w0 w:World} {A:Nat->Prop} {R:List HP} {p:Nat} {room:Int} {sv:Value} {l:List aV} (hs:St w0 A (cP p [.int .i64 room,sv]::bJ sv l::R) w):St w0 A (lF p room l::R) w:=
 St.eb (H:=λ sv=>sep (cP p [.int .i64 room,sv]) (bJ sv l)) sv (St.join hs)
theorem MN {w0 w:World} {A:Nat->Prop} {R:List HP} {p:Nat} {room:Int} {l:List aV} (hs:St w0 A (lF p room l::R) w):tW w p room l:=by
 obtain ⟨F,h,_⟩:=hs.head; exact lF.rd h
theorem C136 (v:Value) (i:Int) (xs:List aV) (F:Nat->Prop) (w:World) (hv:(bJ v xs).p w F) (h0:0<=i) (hi:i<xs.length) (hn:xs.length<=1073741824) :
  CR 136 [v,.int .i64 i,.int .i64 (i+1)] w (λ v' w'=>True/\ti F (bJ v' (xs.eraseIdx i.toNat)) w w'):=by
 obtain ⟨i,rfl⟩:=Int.eq_ofNat_of_zero_le h0;replace hi:i<xs.length:=by omega
 rw [Int.toNat_natCast];have Fp:=bJ.rd hv;obtain ⟨b,cap,rest,rfl,hb,hl,hF⟩:=nB hv hi;have hlen:(flat xs).length=xs.length * 4:=bZ xs;have vA:xs.length<=cap:=hl.1;replace hl:=hl.2
 change cap * 4<=_ at hl
 refine Vw _ _ _ _ _ ?_;unfold S136;refine pop (rM iQ) (Qz iQ (by omega) (by omega) (by omega) (by omega) (λ _=>aI (aC (λ c=>absurd c (by omega)) (λ _=>pop (rM iQ) ?_))))
 have e22:pr Tryz.prog (Instr.sliceAt 135 (.slice (some ⟨b,0,none⟩) xs.length cap) none (some (.int .i64 (i:Int))) none)=some (.slice (some ⟨b,0,none⟩) i cap):=by
  rw [rO iQ (l:=0) (h:=i) (kJ (.inl ⟨rfl,rfl⟩) (.inr ⟨_,rfl,by omega,by omega⟩) (by omega) (by omega))];simp [dK]
 refine pop e22 (Nv iQ Fp (by omega) (by omega) (λ s25 h25=>?_));rw [show ((i:Int)+1).toNat=i+1 from by omega] at h25;have hdl:(xs.drop (i+1)).length=xs.length - (i+1):=by simp
 obtain ⟨w1,r1,b1,g1⟩:=BE (P:=Tryz.prog) (R:=135) (n:=i) (cap:=cap) iQ (hb.of_eq (w':=drew w) rfl) (h25.ext (Ext.drew w)) (by omega) (by rw [List.length_append,hlen,hdl]; change i * 4+(xs.length - (i+1)) * 4<=_; omega);rw [hdl,show i+(xs.length - (i+1))=xs.length - 1 from by omega] at r1;refine ⟨_,w1,r1,?_⟩;refine pop (rM iQ) ?_
 have e31:pr Tryz.prog (Instr.sliceAt 135 (.slice (some ⟨b,0,none⟩) (xs.length - 1) cap) (some (.int .i64 ((xs.length - 1:Nat):Int))) (some (.int .i64 (xs.length:Int))) none)=some (.slice (some ⟨b,(xs.length - 1) * 4,none⟩) 1 (cap - (xs.length - 1))):=by
  rw [rO iQ (l:=xs.length - 1) (h:=xs.length) (kJ (.inr ⟨_,rfl,by omega,by omega⟩) (.inr ⟨_,rfl,by omega,by omega⟩) (by omega) (by omega)),if_neg (by omega)];simp [dK]; omega
 refine pop e31 ?_;have hx:xs[i]? = some xs[i]:=by simp [hi]
 have Nx:=uL hx;have hT:(flat (xs.take i)).length=i * 4:=by rw [bZ,List.length_take,Nat.min_eq_left (by omega)]; rfl
 have hD:(flat (xs.drop (i+1))).length=(xs.length - (i+1)) * 4:=by rw [bZ,hdl]; rfl
 have hX:(Flat.enc xs[i]).length=4:=rfl;have hZ:(flat (List.replicate 1 (⟨0,0,0,0⟩:aV))).length=4:=rfl
 have s1:eC (flat xs++rest) (i * Flat.sz aV) (flat (xs.drop (i+1))) =
   flat (xs.take i)++flat (xs.drop (i+1))++((Flat.enc xs[i]++flat (xs.drop (i+1))).drop (flat (xs.drop (i+1))).length++rest):=by
  have:=iU (flat (xs.take i)) ((Flat.enc xs[i]++flat (xs.drop (i+1))).take (flat (xs.drop (i+1))).length)
   ((Flat.enc xs[i]++flat (xs.drop (i+1))).drop (flat (xs.drop (i+1))).length++rest) (flat (xs.drop (i+1))) (by rw [List.length_take,List.length_append]; omega)
  rw [hT] at this
  change eC (flat xs++rest) (i * 4) _=_
  rw [<- this,Nx]
  have e0:∀ (a b c d:List Value) (n:Nat),a++(b++c)++d=a++(b++c).take n++((b++c).drop n++d):=λ a b c d n=>by
   rw [List.append_assoc a ((b++c).take n),<- List.append_assoc ((b++c).take n),List.take_append_drop,List.append_assoc a]
  exact congrArg (λ z=>eC z (i * 4) (flat (xs.drop (i+1)))) (by first | exact e0 _ _ _ _ _ | (rw [<- e0]; simp only [List.append_assoc]) | (simp only [List.append_assoc]; rw [<- List.append_assoc (List.take _ _),List.take_append_drop,List.append_assoc]))
 rw [s1] at b1
 obtain ⟨w2,r2,b2,g2⟩:=Nz (P:=Tryz.prog) (R:=0) (o:=(xs.length - 1) * 4) (n:=1) (c:=cap - (xs.length - 1)) (z:=(⟨0,0,0,0⟩:aV)) iQ tf b1
  (by simp only [List.length_append,List.length_drop,hT,hD,hX]; change _+1 * 4<=_; omega)
 refine ⟨_,w2,r2,?_⟩
 have s2:=iU (flat (xs.take i)++flat (xs.drop (i+1))) ((Flat.enc xs[i]++flat (xs.drop (i+1))).drop (flat (xs.drop (i+1))).length) rest (flat (List.replicate 1 (⟨0,0,0,0⟩:aV)))
  (by rw [List.length_drop,List.length_append,hX,hZ]; omega)
 rw [show (flat (xs.take i)++flat (xs.drop (i+1))).length=(xs.length - 1) * 4 from by rw [List.length_append,hT,hD]; omega,List.append_assoc _ _ rest] at s2;rw [s2] at b2;refine ⟨trivial,F,.inr ⟨b,cap,flat (List.replicate 1 (⟨0,0,0,0⟩:aV))++rest,?_,?_,?_,hF⟩,λ _ hb=>.inl hb,((Ext.drew w).aE (A:=F)).trans (g1.trans (C:=F) g2 (λ k hk=>(hF k).2 hk) λ k _ hk=>(hF k).2 hk) (λ _ h=>h) λ _ _ h=>h⟩
 ·rw [List.length_eraseIdx_of_lt hi]
 ·rw [List.eraseIdx_eq_take_drop_succ,fJ,<- List.append_assoc]; exact b2
 refine ⟨by rw [List.length_eraseIdx_of_lt hi]; omega,?_⟩;rw [List.eraseIdx_eq_take_drop_succ,fJ]
 change cap * 4<=_
 rw [List.length_append,hlen] at hl;simp only [List.length_append,hT,hD,hZ];omega
theorem C137 (sv:Value) (xs:List aV) (w:World) (hL:dx (λ _=>True) w sv xs) (hn:xs.length<=1073741824):CR 137 [sv] w (λ v w'=>mZ (bJ v xs) w w'):=by
 have hL0:=hL;obtain ⟨a,cap,rfl,vA,h3⟩:=hL;have hs:=St.start w;refine Vx _ _ _ ?_;unfold S137;refine Qo (dz iQ).1 (λ h0=>?_) ?_
 ·rcases h3 with ⟨h,hc⟩ | ⟨b,o,h,_⟩
  ·exact ⟨by rw [h]; rfl,hc⟩
  rw [h0] at h; cases h
 refine bI (λ Eo=>?_) (λ Eo=>?_)
 ·have ha:a=none:=by cases a with | none=>rfl | some _=>cases Eo
  have hx:xs=[]:=by
   rcases h3 with ⟨h,_⟩ | ⟨b,o,h,_⟩
   ·exact h
   ·rw [ha] at h; cases h
  subst hx;exact hs.fy.fresh
 refine cO (([]:List aV)) hs iQ rfl rfl (fw rfl) (λ ap4 _ hs=>?_);have TL:=(hL0.ext hs.aE);exact dw hs iQ TL (by simp <;> omega) (by decide) (λ _ _ hs=>hs.fresh)
theorem C87 (p:Nat) (room:Int) (l:List aV) (w:World) (hb:tW w p room l) (hn:l.length<=1073741824):CR 87 [.pointer (some ⟨p,0,none⟩)] w (λ v w'=>mZ (bJ v l) w w'):=by
 obtain ⟨sv,ug,Bv,hL⟩:=hb;have hs:=St.start w;refine abO _ _ _ ?_;unfold S87;refine aH (aA iJ (bW mY (Bv.ext hs.aE) (eW ZR (C137 _ _ _ (hL.ext hs.aE) (by omega)) ?_)));rintro _ _ cL;have hs:=hs.made cL;exact hs.fresh
theorem TN {room:Int} {l:List aV} {x:aV} (h:right x=false):Km room l x=1:=by unfold Km; rw [h]; rfl
theorem TO {room:Int} {l:List aV} {x:aV} (h:right x=false):tX room l x=l:=by unfold tX; rw [h]; rfl
theorem OC {room:Int} {l:List aV} {x:aV} (h:right x=true) (hf:room<=l.length):Km room l x=2:=by unfold Km; rw [h,if_pos rfl,if_pos hf]
theorem OD {room:Int} {l:List aV} {x:aV} (hf:room<=l.length):tX room l x=l:=by unfold tX; rw [if_neg (λ hh=>hh.2 hf)]
theorem YX {room:Int} {l:List aV} {x:aV} (h:right x=true) (hf:¬ room<=l.length):Km room l x=0:=by unfold Km; rw [h,if_pos rfl,if_neg hf]
theorem YY {room:Int} {l:List aV} {x:aV} (h:right x=true) (hf:¬ room<=l.length):tX room l x=l++[x]:=by unfold tX; rw [if_pos ⟨h,hf⟩]
theorem C84 (p:Nat) (room:Int) (l:List aV) (x:aV) (F:Nat->Prop) (w:World) (hF:(lF p room l).p w F) (hn:l.length<=1048576):CR 84 [.pointer (some ⟨p,0,none⟩),Flat.val x] w (λ v w'=>v = .int .i64 (Km room l x)/\ti F (lF p room (tX room l x)) w w'):=by
 have hs:=St.begin hF;obtain ⟨sv,hs⟩:=hs.eH;have hs:=hs.split;refine abN _ _ _ _ ?_;unfold S84;refine cZ hs (λ b_x3 _ hs=>aF jK hs.At (bO agr hs (C141 _ _) (λ _ he hs=>bH (bI (λ kx=>?_) (λ kx=>bO ZP hs (C108 _ _ _ _ (tW.mk' hs.p1.hb hs.p2.gg)) (λ _ he hs=>aC (λ wo=>?_) (λ wo=>?_)))))))
 ·have hs:=hs.p2.p2;rw [TN (by simpa using kx),TO (by simpa using kx)];exact ⟨rfl,(lF.shut hs).mut⟩
 ·have hs:=hs.p2.p2;rw [OC (by simpa using kx) wo,OD wo];exact ⟨rfl,(lF.shut hs).mut⟩
 refine aH (aA iJ (have hs:=hs.drew;aB mY hs.p1.hb rfl (aF jK hs.At (cO ([x]) hs iQ rfl rfl (fw rfl) (λ aaW _ hs=>?_)))));refine ⟨aD mY (hs.p2.hb.cell rfl),?_⟩;have l3:=(hs).gg;refine dw hs.p3 iQ l3 (by simp <;> omega) (by decide) (λ aaU _ hs=>have hs:=hs.p1.drop;aH (aA iJ (bF hs.p2 mY (fw rfl) ((hs).gg.one) (λ _ hs=>?_))));have hs:=hs.p1.p1;rw [YX (by simpa using kx) wo,YY (by simpa using kx) wo];exact ⟨rfl,(lF.shut hs).mut⟩
theorem xO {l:List aV} {i:Int} (h:o8 l i=false):eo l i=⟨0,0,0,0⟩:=by unfold eo; rw [h]; rfl
theorem xP {l:List aV} {i:Int} (h:o8 l i=false):kf l i=l:=by unfold kf; rw [h]; rfl
theorem CN {l:List aV} {i:Int} (h:i<0\/(l.length:Int)<=i):wA l i=1:=by unfold wA; rw [if_neg (by omega)]
theorem TP {l:List aV} {i:Int} (h0:0<=i/\i<l.length) (h:o8 l i=false):wA l i=13:=by unfold wA; rw [if_pos h0,h]; rfl
theorem TQ {l:List aV} {i:Int} (h:o8 l i=true):wA l i=0:=by unfold wA; rw [if_pos (YW h),h]; rfl
theorem TS {l:List aV} {i:Int} {x:aV} (h:o8 l i=true) (hx:l[i.toNat]? = some x):eo l i=x:=by unfold eo; rw [h,hx]; rfl
theorem TT {l:List aV} {i:Int} (h:o8 l i=true):kf l i=l.eraseIdx i.toNat:=by unfold kf; rw [h]; rfl
theorem C76 (p:Nat) (room:Int) (l:List aV) (i:Int) (F:Nat->Prop) (w:World) (hF:(lF p room l).p w F) (hn:l.length<=1048576):CR 76 [.pointer (some ⟨p,0,none⟩),.int .i64 i] w (λ v w'=>v = .tuple #[Flat.val (eo l i),.int .i64 (wA l i)]/\ti F (lF p room (kf l i)) w w'):=by
 have hs:=St.begin hF;obtain ⟨sv,hs⟩:=hs.eH;have hs:=hs.split;refine abL _ _ _ _ ?_;unfold S76;refine aN hs tf (λ b_x4 _ hs=>?_);refine ⟨_,?_,λ _ _ h=>h⟩;refine aS (aC (λ kx=>?_) (λ kx=>?_))
 ·intro yh;refine gk (pop (DP) (aO (x:=(⟨0,0,0,0⟩:aV)) hs jK rfl rfl (λ w3 hs=>aF jK hs.At ?_)));have hs:=hs.p2.p2;rw [xO (pR (by omega)),CN (by omega),xP (pR (by omega))];exact ⟨rfl,(lF.shut hs).mut⟩
 refine aH (aA iJ (aB mY hs.p1.hb rfl (aG iQ (hs.p2).gg (dO ?_))));intro yh;refine aC (λ Mg=>?_) (λ Mg=>bO ZQ hs (C109 _ _ _ _ _ (tW.mk' hs.p1.hb hs.p2.gg) (by omega)) (λ _ he hs=>bH (bI (λ pG=>?_) (λ pG=>?_))))
 ·refine pop (DP) (aO (x:=(⟨0,0,0,0⟩:aV)) hs jK rfl rfl (λ w3 hs=>aF jK hs.At ?_));have hs:=hs.p2.p2;rw [xO (pR (by omega)),CN (by omega),xP (pR (by omega))];exact ⟨rfl,(lF.shut hs).mut⟩
 ·refine pop (DP) (aO (x:=(⟨0,0,0,0⟩:aV)) hs jK rfl rfl (λ _ hs=>aF jK hs.At ?_));have hs:=hs.p2.p2;rw [xO (by simpa using pG),TP (by omega) (by simpa using pG),xP (by simpa using pG)];exact ⟨rfl,(lF.shut hs).mut⟩
 refine aH (aA iJ (aB mY hs.p1.hb rfl ?_));obtain ⟨MH,xM⟩:=gx (l) (i:=(i).toNat) (by omega);refine eS hs.p2 iQ (by omega) (by omega) (λ _ Ty=>qj hs.p2 jK Ty xM (aN hs tf (λ b_x6 _ hs=>aO (x:=MH) hs jK rfl rfl (λ _ hs=>aH (aA iJ (aB mY hs.p2.hb rfl (eW ZR (C137 _ _ _ (hs.p3).gg (by omega)) ?_)))))));rintro _ _ cL;have hs:=hs.made cL;refine aT (by omega) (mg agp hs (H':=λ v=>bJ v (l.eraseIdx i.toNat)) (Φ:=λ _ _=>True) (λ F hF=>?_) ?_)
 ·exact C136 _ i _ F _ hF (by omega) (by omega) (by omega)
 rintro x40 _ _ hs;refine aH (aA iJ (bF hs.p3 mY (fw rfl) ((hs).gg.one) (λ _ hs=>aF jK hs.p2.At (aO (x:=MH) hs.p3 jK rfl rfl (λ _ hs=>aF jK hs.At ?_)))));have hs:=hs.p2.p2;rw [TS (by simpa using pG) xM,TQ (by simpa using pG),TT (by simpa using pG)];exact ⟨rfl,(lF.shut hs).mut⟩
def n7 (l:List aV) (c:Int):Option Int:=(l.reverse.find? λ x=>decide (x.kind=3/\x.cell=c)).map (·.n)
theorem C206 (y sv:Value) (b:Nat) (xs:List aV) (J:Nat->World->Prop) (Jx:World->Prop) (w:World) (hn:xs.length<=1073741824)
  (hJ:∀ k W,J k W->Cell W b 0 sv/\dx (λ _=>True) W sv xs) (h0:J 0 w)
  (hy:∀ k x W,xs.reverse[k]? = some x->J k W->eg Tryz.prog y [.int .i64 ((xs.length:Int) - 1 - k),Flat.val x] W (λ v W'=>(v = .bool true/\J (k+1) W')\/(v = .bool false/\Jx W'))) :
  CR 206 [y,.pointer (some ⟨b,0,none⟩)] w (λ _ W=>J xs.length W\/Jx W):=by
 refine VI _ _ _ _ ?_;unfold S206;refine bW mY (hJ 0 w h0).1 (aG iQ (hJ 0 w h0).2 (iT (by omega) ?_));refine ⟨λ m x w1=>∃ k:Nat,x = .int .i64 ((xs.length:Int) - 1 - k)/\m=xs.length - k/\k<=xs.length/\J k w1,⟨_,0,by simp,rfl,Nat.zero_le _,h0⟩,?_⟩;rintro m _ w1 ⟨k,rfl,rfl,hk,hj⟩ _;refine dO (aC (λ c=>?_) (λ c=>?_))
 ·obtain ⟨h1,h2⟩:=hJ k w1 hj;have eU:k<xs.length:=by omega
  have hx:xs.reverse[k]? = some (xs[xs.length - 1 - k]'(by omega)):=by rw [List.getElem?_reverse eU,List.getElem?_eq_getElem]
  refine bW mY h1 (aU iQ h2 (by omega) (x:=xs[xs.length - 1 - k]'(by omega)) (by rw [List.getElem?_eq_getElem (by omega)]; congr 2; omega) (λ q hq=>?_));refine aF jK hq ?_;obtain hcv:=hy k _ w1 hx hj;refine eg.mono hcv ?_;rintro v w2 (⟨rfl,CG⟩ | ⟨rfl,wQ⟩)
  ·exact bH (eu (iT (by omega) ⟨xs.length - (k+1),by omega,k+1,by congr 1; omega,rfl,by omega,CG⟩))
  exact bH (gk (.inr wQ))
 have:k=xs.length:=by omega
 subst this;exact .inl hj
theorem C178 (sv:Value) (w:World) (h1:fe sv=true):CR 178 [sv] w (λ v w'=>∃ b,v = .func (.func 206) [].toArray [.pointer (some ⟨b,0,none⟩)].toArray/\mZ (cP b [sv]) w w'):=by
 have hs:=St.start w;refine VE _ _ _ ?_;unfold S178;exact jY hs h1 (λ b _ hs=>⟨b,rfl,hs.fresh⟩)
theorem OE {α:Type} {p:α->Bool} {l:List α} {k:Nat} {x:α} (eA:∀ y∈l.take k,p y=false) (hx:l[k]? = some x) (hp:p x=true):l.find? p=some x:=by
 rw [List.find?_eq_some_iff_getElem]
 have hk:=(List.getElem?_eq_some_iff.1 hx)
 obtain ⟨eU,he⟩:=hk
 refine ⟨hp,k,eU,he,λ j hj=>?_⟩
 have:=eA (l[j]'(by omega)) (List.mem_take_iff_getElem.2 ⟨j,by omega,rfl⟩)
 simp [this]
theorem C139 (p:Nat) (c room:Int) (l:List aV) (w:World) (hb:tW w p room l) (hn:l.length<=1048576) :
  CR 139 [.pointer (some ⟨p,0,none⟩),.int .i64 c] w (λ v w'=>v = .tuple #[.int .i64 ((n7 l c).getD 0),.bool (n7 l c).isSome]/\Ext w w'):=by
 obtain ⟨sv,ug,Bv,hL⟩:=hb;have hs:=St.start w;refine Vy _ _ _ _ ?_;unfold S139;refine jY hs rfl (λ b3 _ hs=>fx hs rQ rfl (λ b4 _ hs=>fx hs La rfl (λ b5 _ hs=>aH (aA iJ (bW mY (Bv.ext hs.aE) (eW agw (C178 sv _ hL.one) ?_))))));rintro _ _ ⟨b,rfl,cL⟩;have hs:=hs.made cL
 refine rY (cap:=[.pointer (some ⟨b,0,none⟩)]) (xs:=(List.range l.length).map fun (k:Nat)=>[Value.int .i64 ((l.length:Int) - 1 - k),Flat.val ((l.reverse[k]?).getD ⟨0,0,0,0⟩)]) agB hs
  (λ k M=>M=[cP b [sv],cP b5 [.bool false],cP b4 [.int .i64 0],cP b3 [.int .i64 c]]/\∀ y∈l.reverse.take k,decide (y.kind=3/\y.cell=c)=false)
  (λ cd M=>cd = .ret/\∃ x,n7 l c=some x/\M=[cP b5 [.bool true],cP b4 [.int .i64 x]])
  ⟨rfl,by simp⟩ (by simp) ?_ ?_ ?_ ?_ ?_ ?_
 ·
  intro y J Jx W hJ Tj NA hy;refine (C206 y sv b l J Jx W (by omega) (λ k W hk=>?_) NA (λ k x W hx hk=>?_)).mono λ _ _ r=>r.mono λ v W' h=>?_
  ·obtain ⟨Y,M,⟨rfl,_⟩,hS⟩:=hJ k W hk;exact ⟨hS.p1.hb.cell rfl,hL.ext hS.aE⟩
  ·have eU:=(List.getElem?_eq_some_iff.1 hx).1;rw [List.length_reverse] at eU;have:=hy k [Value.int .i64 ((l.length:Int) - 1 - k),Flat.val x] W (by rw [List.getElem?_map,List.getElem?_range eU]; simp [hx]) hk;exact this
  simpa using h
 ·
  rintro k args Y1 Y2 B Kr M W hk ⟨rfl,eA⟩ hB hN hR hs
  have eU:k<l.length:=by
   have:=(List.getElem?_eq_some_iff.1 hk).1
   simpa using this
  obtain ⟨x,hx⟩:∃ x,l.reverse[k]? = some x:=⟨_,List.getElem?_eq_getElem (by simpa using eU)⟩
  have ha:args=[Value.int .i64 ((l.length:Int) - 1 - k),Flat.val x]:=by
   rw [List.getElem?_map,List.getElem?_range eU] at hk;simp [hx] at hk;exact hk.symm
  subst ha;dsimp only [qh];refine aN hs tf (λ b7 _ hs=>zO hs jK rfl (by decide) (by simp [fe,eC]) (λ _ hs=>?_));refine hB _ _ _ hs.p1 (λ w8 hs=>?_);have e7:eC [Value.int IntKind.i64 0,.int .i64 0,.int .i64 0,.int .i64 0] 0 [Value.int .i64 x.kind,.int .i64 x.line,.int .i64 x.cell,.int .i64 x.n]=Flat.enc x:=rfl;refine ⟨_,?_,λ _ _ h=>h⟩;refine aA nM (aB cK hs.p1.hb rfl (aI ?_))
  have no:¬ (x.kind=3/\x.cell=c)->Kr none w8:=λ hh=>by
   refine hN _ _ (hs.p1.drop.p0) ⟨rfl,?_⟩;exact fi eA hx (by simpa using hh)
  refine aC (λ c1=>?_) (λ c1=>?_)
  ·refine aA pA (aB cK hs.p1.hb rfl (aB cK hs.p5.hb rfl (aI ?_)));intro yh;refine aC (λ c2=>aA rW (aB cK hs.p1.hb rfl (bF hs.p4 cK (Nat.le_of_ble_eq_true rfl) rfl (λ _ hs=>bF hs.p4 I9 (Nat.le_of_ble_eq_true rfl) rfl (λ _ hs=>hR _ [cP b5 [.bool true],cP b4 [.int .i64 x.n]] _ ((hs.p5.drop.p4.drop.p3.drop).p2) ⟨rfl,x.n,?_,rfl⟩))))) (λ c2=>no λ hh=>c2 hh.2);unfold n7;rw [OE eA hx (by simpa using ⟨c1,c2⟩)]; rfl
  intro yh;exact eu (no λ hh=>c1 hh.1)
 ·
  rintro D M W ⟨rfl,eA⟩ hs;refine bF hs.p3 cK (Nat.le_of_ble_eq_true rfl) rfl (λ _ hs=>bF hs.p3 I9 (Nat.le_of_ble_eq_true rfl) rfl (λ _ hs=>?_));refine zW hs.p2 (λ w15 hs=>?_);refine aB cK hs.p1.hb rfl (aB I9 hs.hb rfl ?_)
  have:n7 l c=none:=by
   unfold n7
   rw [show l.reverse.find? _=none from List.find?_eq_none.2 λ y hy=>by
    have:=eA y (by rw [List.take_of_length_le (by simp)]; exact hy);simp only [this]; exact Bool.false_ne_true]
   rfl
  rw [this];exact ⟨rfl,hs.aE⟩
 ·rintro D M W ⟨_,x,hl,rfl⟩ hs;refine zW hs (λ w15 hs=>?_);refine aB cK hs.p1.hb rfl (aB I9 hs.hb rfl ?_);rw [hl];exact ⟨rfl,hs.aE⟩
 ·rintro id D M W ⟨h,_⟩; cases h
 rintro c M ⟨h,_⟩; exact .inr h
theorem ES {α:Type} {xs ys:List α} {k:Nat} {e f:α} (h:xs.take k=ys.take k) (h1:xs[k]? = some e) (h2:ys[k]? = some f) (he:e=f):xs.take (k+1)=ys.take (k+1):=by
 rw [List.take_add_one,List.take_add_one,h,h1,h2,he]
theorem OF {α:Type} {xs ys:List α} {k:Nat} {e f:α} (h1:xs[k]? = some e) (h2:ys[k]? = some f) (he:¬ e=f):¬ xs=ys:=by
 rintro rfl; rw [h1] at h2; exact he (Option.some.inj h2)
theorem C23 (room:Int) (w:World):CR 23 [.int .i64 room] w (λ v w'=>((room<1\/16<room)/\v = .tuple #[.pointer none,.int .i64 1]/\Ext w w')\/(1<=room/\room<=16/\∃ b,v = .tuple #[.pointer (some ⟨b,0,none⟩),.int .i64 0]/\mZ (lF b room []) w w')):=by
 have hs:=St.start w;refine abF _ _ _ ?_;unfold S23;refine ⟨_,?_,λ _ _ h=>h⟩;refine aS (aC (λ ap6=>?_) (λ ap6=>?_))
 ·intro yh;exact gk (.inl ⟨by omega,rfl,hs.aE⟩)
 refine er ?_;intro yh;exact aC (λ _=>.inl ⟨by omega,rfl,hs.aE⟩) (λ _=>pop (Qw _) (vy hs (λ b _ hs=>have hs:=(hs.fy (α:=aV)).p1;.inr ⟨by omega,by omega,b,rfl,(lF.shut hs).fresh⟩)))
theorem C15 (av bv:Value) (xs ys:List Int) (w:World) (hA:dx (λ _=>True) w av xs) (hB:dx (λ _=>True) w bv ys) (hn:xs.length<=1073741824):CR 15 [av,bv] w (λ v w'=>v = .bool (decide (xs=ys))/\Ext w w'):=by
 have hs:=St.start w;refine abE _ _ _ _ ?_;unfold S15;refine aG ei (hA.ext hs.aE) (aG ei (hB.ext hs.aE) (cS (aC (λ _=>⟨vb (decide_eq_false (by rintro rfl; omega)).symm,hs.aE⟩) (λ jl=>?_))));refine ⟨λ m x w1=>∃ k:Nat,x = .int .i64 (k:Int)/\m=xs.length - k/\k<=xs.length/\xs.take k=ys.take k/\St w bD [] w1,⟨_,0,rfl,rfl,Nat.zero_le _,rfl,hs⟩,?_⟩;rintro m _ w1 ⟨k,rfl,rfl,hk,TU,hs⟩ _;refine aG ei (hA.ext hs.aE) (aS (aC (λ je=>?_) (λ _=>⟨vb (decide_eq_true (by rw [List.take_of_length_le (by omega),List.take_of_length_le (by omega)] at TU; exact TU)).symm,hs.aE⟩)));obtain ⟨iq,fE⟩:=gx (xs) (i:=((k:Int)).toNat) (by omega)
 refine aU ei (hA.ext hs.aE) (by omega) fE (λ _ mE=>have hs:=hs.drew;aF cK (mE) ?_);obtain ⟨sI,sJ⟩:=gx (ys) (i:=((k:Int)).toNat) (by omega);exact aU ei (hB.ext hs.aE) (by omega) sJ (λ _ HR=>aF cK (HR) (cS (aC (λ TW=>⟨vb (decide_eq_false (OF fE sJ TW)).symm,hs.aE⟩) (λ TW=>aT (by omega) ⟨xs.length - (k+1),by omega,k+1,rfl,rfl,by omega,ES TU fE sJ (Decidable.not_not.1 TW),hs⟩))))
structure Mem where
 of:List Int
 fM:List Int
 l:List Int
 kept:List Int
 fk:Int->List jt
def fU (of:List Int):Int:=if of.length=0 then 0 else of.getD (of.length - 1) 0+1
def tY (k:List Int) (ws:List jt):List Int:=ws.foldl (λ k w=>k.set w.cell.toNat w.n) k
theorem wB (ws:List jt):∀ k:List Int,(tY k ws).length=k.length:=by
 induction ws with
 | nil=>intro k; rfl
 | cons x ws ih=>intro k; show (tY (k.set x.cell.toNat x.n) ws).length=_; rw [ih,List.length_set]
theorem OG (ws:List jt) (x:jt) (k:List Int):tY k (ws++[x])=(tY k ws).set x.cell.toNat x.n:=by
 unfold tY; rw [List.foldl_append]; rfl
theorem CO {ws:List jt} {j:Nat} {x:jt} {k:List Int} (hx:ws[j]? = some x):tY k (ws.take (j+1))=(tY k (ws.take j)).set x.cell.toNat x.n:=by
 rw [List.take_add_one,hx]; exact OG _ _ _
def Kn (m:Mem) (cell:Int):Bool:=decide (0<=cell/\cell<m.l.length)
def fN (m:Mem) (cell n:Int):Mem:=if Kn m cell=true then {m with l:=m.l.set cell.toNat n,fk:=if cell<m.of.length then lD m.fk (m.of.getD cell.toNat 0) (m.fk (m.of.getD cell.toNat 0)++[⟨cell,n⟩]) else m.fk} else m
def OH (m:Mem) (line:Int):Bool:=decide (0<=line/\line<fU m.of)
def pa (m:Mem) (line:Int):Mem:=if OH m line=true then {m with kept:=tY m.kept (m.fk line),fk:=lD m.fk line []} else m
structure wS (m:Mem):Prop where
 Pw:m.of.length<=m.fM.length
 fl:m.fM.length<=20
 ll:m.l.length=m.fM.length
 kl:m.kept.length=m.of.length
 ofr:∀ n∈m.of,0<=n/\n<fU m.of
 lb:fU m.of<=20
 pc:∀ k,∀ x∈m.fk k,0<=x.cell/\x.cell<m.of.length
def MB (m:Mem) (n:Nat):Prop:=∀ k,(m.fk k).length<=n
def fb (p:Nat) (ov fv:Value) (m:Mem):HP:=yJ λ lv=>yJ λ kv=>yJ λ pm=>sep (cP p [ov,fv,lv,kv,.map (some pm)]) (sep (bJ lv m.l) (sep (bJ kv m.kept) (m7 pm m.fk)))
def wC (ov fv:Value) (m:Mem) (w:World):Prop:=dx (λ _=>True) w ov m.of/\dx (λ _=>True) w fv m.fM
def rE (w:World) (p:Nat) (m:Mem):Prop:=∃ ov fv lv kv pm,Cell w p 0 ov/\Cell w p 1 fv/\Cell w p 2 lv/\Cell w p 3 kv/\Cell w p 4 (.map (some pm))/\dx (λ _=>True) w ov m.of/\dx (λ _=>True) w fv m.fM/\dx (λ _=>True) w lv m.l/\dx (λ _=>True) w kv m.kept/\rk w pm m.fk
section
variable {w w' w0:World} {A F:Nat->Prop} {R:List HP} {p:Nat} {ov fv lv kv:Value} {m:Mem} {pm:Nat}
theorem rE.ext (h:rE w p m) (e:Ext w w'):rE w' p m:=by
 obtain ⟨ov,fv,lv,kv,pm,c0,c1,c2,c3,c4,h0,h1,h2,h3,h4⟩:=h
 exact ⟨ov,fv,lv,kv,pm,c0.ext e,c1.ext e,c2.ext e,c3.ext e,c4.ext e,h0.ext e,h1.ext e,h2.ext e,h3.ext e,h4.ext e⟩
theorem rE.mk' (h:q9 w p [ov,fv,lv,kv,.map (some pm)]) (hK:wC ov fv m w) (h2:dx (λ _=>True) w lv m.l) (h3:dx (λ _=>True) w kv m.kept) (h4:rk w pm m.fk):rE w p m:=
 ⟨ov,fv,lv,kv,pm,h.cell rfl,h.cell rfl,h.cell rfl,h.cell rfl,h.cell rfl,hK.1,hK.2,h2,h3,h4⟩
theorem fb.open (hs:St w0 A (fb p ov fv m::R) w):∃ lv kv pm,St w0 A (cP p [ov,fv,lv,kv,.map (some pm)]::bJ lv m.l::bJ kv m.kept::m7 pm m.fk::R) w:=by
 obtain ⟨lv,hs⟩:=hs.eH; obtain ⟨kv,hs⟩:=hs.eH; obtain ⟨pm,hs⟩:=hs.eH
 have h1:=hs.split
 have h2:=h1.p1.split
 have h3:=(h2.p1.split)
 exact ⟨lv,kv,pm,h3.p2.p3⟩
theorem fb.shut (hs:St w0 A (cP p [ov,fv,lv,kv,.map (some pm)]::bJ lv m.l::bJ kv m.kept::m7 pm m.fk::R) w):St w0 A (fb p ov fv m::R) w:=by
 have h1:St w0 A (sep (bJ kv m.kept) (m7 pm m.fk)::cP p [ov,fv,lv,kv,.map (some pm)]::bJ lv m.l::R) w:=St.join (hs.p3.p3)
 have h2:St w0 A (sep (bJ lv m.l) (sep (bJ kv m.kept) (m7 pm m.fk))::cP p [ov,fv,lv,kv,.map (some pm)]::R) w:=St.join h1.p2
 exact St.eb lv (St.eb kv (St.eb pm (St.join h2.p1)))
theorem ET (hs:St w0 A (fb p ov fv m::R) w) (hK:wC ov fv m w):rE w p m:=by
 obtain ⟨lv,kv,pm,hs⟩:=fb.open hs
 exact rE.mk' hs.hb hK hs.p1.gg hs.p2.gg hs.p3.R6
end
theorem C106 (p:Nat) (m:Mem) (w:World) (hm:rE w p m) (hk:wS m):CR 106 [(.pointer (some ⟨p,0,none⟩))] w (λ v w'=>v = .int .i64 (fU m.of)/\Ext w w'):=by
 have LR:=hm;obtain ⟨ov,fv,lv,kv,pm,c0,c1,c2,c3,c4,hO,Px,hL,hKp,hP⟩:=hm;have Vb:=hk.fl;have N3:=hk.Pw;have YC:=hk.ll;have Ss:=hk.kl;have Yl:=hk.lb;have hs:=St.start w;refine Vq Tryz.func106 (pl:=ang) ?_;refine aH (aA rV (bW fT (c0.ext hs.aE) (aG ei (hO.ext hs.aE) (aI (aC (λ _=>⟨congrArg (Value.int .i64) (by unfold fU; rw [if_pos (by omega)]),hs.aE⟩) (λ kx=>aH (aA rV (have hs:=hs.drew;bW fT (c0.ext hs.aE) (aH (aA rV (bW fT (c0.ext hs.aE) (aG ei (hO.ext hs.aE) (iT (by omega) ?_)))))))))))));obtain ⟨iq,fE⟩:=gx (m.of) (i:=((((m.of).length:Int) - 1)).toNat) (by omega)
 refine aU ei hO (by omega) fE (λ _ mE=>aF cK (mE.ext hs.aE) ?_);have hx20:=hk.ofr _ (List.mem_of_getElem? fE);exact aT (by omega) ⟨congrArg (Value.int .i64) (by unfold fU; rw [if_neg (by omega),List.getD_eq_getElem?_getD,show m.of.length - 1=((m.of.length:Int) - 1).toNat from by omega,fE]; rfl),hs.aE⟩
theorem C140 (p:Nat) (m:Mem) (cell:Int) (w:World) (hm:rE w p m) (hk:wS m):CR 140 [(.pointer (some ⟨p,0,none⟩)),.int .i64 cell] w (λ v w'=>v = .tuple #[.int .i64 (if Kn m cell=true then m.l.getD cell.toNat 0 else 0),.int .i64 (if Kn m cell=true then 0 else 1)]/\Ext w w'):=by
 have LR:=hm;obtain ⟨ov,fv,lv,kv,pm,c0,c1,c2,c3,c4,hO,Px,hL,hKp,hP⟩:=hm;have hs:=St.start w;refine tN Tryz.func140 ?_;refine ⟨λ jv w'=>jv = .bool (decide (cell<0\/m.l.length<=cell))/\w=w',aS (aC (λ _=>⟨Qe (by omega),rfl⟩) (λ _=>aH (aA nL (bW fT (c2.ext hs.aE) (aG ei (hL.ext hs.aE) (dO ⟨I5 (by omega),rfl⟩)))))),?_⟩;rintro _ _ ⟨rfl,hw⟩ _;subst hw;refine aC (λ dJ=>?_) (λ dJ=>?_)
 ·have rN:Kn m cell=false:=by unfold Kn; rw [decide_eq_false_iff_not]; omega
  rw [rN];exact ⟨rfl,hs.aE⟩
 refine aH (aA nL (bW fT (c2.ext hs.aE) ?_));obtain ⟨e_x22,TX⟩:=gx (m.l) (i:=(cell).toNat) (by omega);refine aU ei hL (by omega) TX (λ _ Sq=>aF cK (Sq.ext hs.aE) ?_);have rN:Kn m cell=true:=by unfold Kn; rw [decide_eq_true_eq]; omega
 rw [rN,List.getD_eq_getElem?_getD,TX];exact ⟨rfl,hs.aE⟩
theorem C55 (p:Nat) (m:Mem) (w:World) (hm:rE w p m) (hk:wS m):CR 55 [(.pointer (some ⟨p,0,none⟩))] w (λ v w'=>mZ (bJ v m.l) w w'):=by
 have LR:=hm;obtain ⟨ov,fv,lv,kv,pm,c0,c1,c2,c3,c4,hO,Px,hL,hKp,hP⟩:=hm;have Vb:=hk.fl;have N3:=hk.Pw;have YC:=hk.ll;have Ss:=hk.kl;have Yl:=hk.lb;have hs:=St.start w;refine tN Tryz.func55 ?_;exact aH (aA nL (bW fT (c2.ext hs.aE) (dA Fx hs (C71 _ _ _ (hL.ext hs.aE) (by omega)) (λ _ _ _ hs=>hs.fresh))))
theorem C100 (p:Nat) (m:Mem) (w:World) (hm:rE w p m) (hk:wS m):CR 100 [(.pointer (some ⟨p,0,none⟩))] w (λ v w'=>mZ (bJ v m.kept) w w'):=by
 have LR:=hm;obtain ⟨ov,fv,lv,kv,pm,c0,c1,c2,c3,c4,hO,Px,hL,hKp,hP⟩:=hm;have Vb:=hk.fl;have N3:=hk.Pw;have YC:=hk.ll;have Ss:=hk.kl;have Yl:=hk.lb;have hs:=St.start w;refine tN Tryz.func100 ?_;exact aH (aA vL (bW fT (c3.ext hs.aE) (dA Fx hs (C71 _ _ _ (hKp.ext hs.aE) (by omega)) (λ _ _ _ hs=>hs.fresh))))
theorem C77 (p:Nat) (ov fv:Value) (m:Mem) (F:Nat->Prop) (cell n:Int) (w:World) (hF:(fb p ov fv m).p w F) (hK:∀ w',gM F w w'->wC ov fv m w') (hk:wS m) (hb:MB m 1000000):CR 77 [(.pointer (some ⟨p,0,none⟩)),.int .i64 cell,.int .i64 n] w (λ v w'=>v = .int .i64 (if Kn m cell=true then 0 else 1)/\ti F (fb p ov fv (fN m cell n)) w w'):=by
 have hs:=St.begin hF;obtain ⟨lv,kv,pm,hs⟩:=fb.open hs;have Vb:=hk.fl;have N3:=hk.Pw;have YC:=hk.ll;have Ss:=hk.kl;have Yl:=hk.lb;refine abM _ _ _ _ _ ?_;unfold S77;refine ⟨λ jv w'=>jv = .bool (decide (cell<0\/m.l.length<=cell))/\w=w',aS (aC (λ _=>⟨Qe (by omega),rfl⟩) (λ _=>aH (aA nL (aB fT hs.hb rfl (aG ei (hs.p1).gg (dO ⟨I5 (by omega),rfl⟩)))))),?_⟩;rintro _ _ ⟨rfl,hw⟩ _;subst hw;refine aC (λ z7=>?_) (λ z7=>?_)
 ·have hs:=hs.p3.p3.p3.p3;have rN:Kn m cell=false:=by unfold Kn; rw [decide_eq_false_iff_not]; omega
  unfold fN;rw [rN];exact ⟨rfl,(fb.shut hs).mut⟩
 have rN:Kn m cell=true:=by unfold Kn; rw [decide_eq_true_eq]; omega
 refine aH (aA nL (aB fT hs.hb rfl ?_));obtain ⟨e_x25,ap7⟩:=gx (m.l) (i:=(cell).toNat) (by omega);refine eS hs.p1 ei (by omega) (by omega) (λ _ Hv=>mc _ hs.p1 cK Hv (by omega) (λ _ hs=>⟨λ w'=>St w F [fb p ov fv (fN m cell n)] w',aH (aA rV (aB fT hs.p1.hb rfl (aG ei (hK _ hs.aE).1 (aS (aC (λ Hj=>?_) (λ Hj=>?_)))))),?_⟩))
 ·refine aH (aA rV (aB fT hs.p1.hb rfl ?_));obtain ⟨MO,TY⟩:=gx (m.of) (i:=(cell).toNat) (by omega);refine aU ei (hK _ hs.aE).1 (by omega) TY (λ _ yu=>aF cK (yu) (aH (aA mw (have hs:=hs.drew;aB rU hs.p1.hb rfl (aH (aA mw (aB rU hs.p1.hb rfl ?_)))))));have hbx:=hb MO;obtain ⟨s_x50,hs⟩:=(hs.p3).G4 (k:=MO);refine ⟨_,(hs.p1).xA Tryz.underlying144 DB tg,?_⟩;refine pop (Jd _ _) (cO ([(⟨cell,n⟩:jt)]) hs vM rfl rfl (fw rfl) (λ aiD _ hs=>?_));refine ⟨aD rU (hs.p4.hb.cell rfl),?_⟩;refine ⟨aD rU (hs.p4.hb.cell rfl),?_⟩
  refine ⟨(hs.p2).xA Tryz.underlying144 DB tg,?_⟩;have JR:=(hs).gg;refine dw hs.p1 vM JR (by simp; omega) (by decide) (λ aiE _ hs=>?_);have hs:=hs.p1.drop;refine ⟨aD rU (hs.p3.hb.cell rfl),?_⟩;obtain ⟨ap8,rfl⟩:=(hs).eT;have hs:=hs.p1.p1;refine G5 hs Tryz.underlying144 DB (λ _ hs=>?_);have hs:=hs.p3.p2.p3;have hwm:fN m cell n={m with l:=m.l.set cell.toNat n,fk:=lD m.fk MO (m.fk MO++[⟨cell,n⟩])}:=by unfold fN; rw [if_pos rN,if_pos (by omega),List.getD_eq_getElem?_getD,TY]; rfl
  rw [hwm];exact fb.shut (m:={m with l:=_,fk:=_}) hs
 ·have hs:=hs.p3.p3.p2.p3;have hwm:fN m cell n={m with l:=m.l.set cell.toNat n}:=by unfold fN; rw [if_pos rN,if_neg (by omega)]
  rw [hwm];exact fb.shut (m:={m with l:=_,fk:=_}) hs
 intro _ hs _;exact ⟨by rw [rN]; rfl,hs.mut⟩
def MP (m:Mem) (cut:List Int):Bool:=decide ((cut.length:Int)=fU m.of) && (List.range cut.length).all λ i=>decide (0<=cut.getD i 0/\cut.getD i 0<=(m.fk i).length)
def wD (m:Mem) (cut:List Int) (k:Nat):List Int:=(List.range k).foldl (λ o (i:Nat)=>tY o ((m.fk i).take (cut.getD i 0).toNat)) m.kept
def gn (m:Mem) (cut:List Int):Option (List Int):=if MP m cut=true then some (wD m cut cut.length) else none
theorem CP (m:Mem) (cut:List Int) (k:Nat):wD m cut (k+1)=tY (wD m cut k) ((m.fk k).take (cut.getD k 0).toNat):=by
 unfold wD; rw [List.range_succ,List.foldl_append]; rfl
theorem pS (m:Mem) (cut:List Int):∀ k,(wD m cut k).length=m.kept.length
 | 0=>rfl
 | k+1=>by rw [CP,wB,pS]
theorem TZ {m:Mem} {cut:List Int} {k:Nat} {c:Int} (hc:cut[k]? = some c) (h:¬ (0<=c/\c<=(m.fk k).length)):gn m cut=none:=by
 unfold gn; rw [if_neg]
 intro hh
 unfold MP at hh
 rw [Bool.and_eq_true,List.all_eq_true] at hh
 have:=hh.2 k (List.mem_range.2 (List.getElem?_eq_some_iff.1 hc).1)
 rw [decide_eq_true_eq,List.getD_eq_getElem?_getD,hc] at this
 exact h this
theorem T0 {m:Mem} {cut:List Int} (h:(cut.length:Int)≠fU m.of):gn m cut=none:=by
 unfold gn MP; rw [decide_eq_false h]; rfl
theorem CQ {m:Mem} {cut:List Int} (h:(cut.length:Int)=fU m.of) (hc:∀ (k:Nat) (c:Int),k<cut.length->cut[k]? = some c->0<=c/\c<=(m.fk k).length):gn m cut=some (wD m cut cut.length):=by
 unfold gn; rw [if_pos]
 unfold MP
 rw [Bool.and_eq_true,List.all_eq_true]
 refine ⟨decide_eq_true h,λ k hk=>?_⟩
 have hk:=List.mem_range.1 hk
 rw [decide_eq_true_eq,List.getD_eq_getElem?_getD,List.getElem?_eq_getElem hk]
 exact hc k _ hk (List.getElem?_eq_getElem hk)
def IL:List Nat->List Int->Option (List Int)
 | p::ps,c::cs=>match IL ps cs with
  | some cs'=>some (c::cs')
  | none=>if c<p then some ((c+1)::List.replicate cs.length 0) else none
 | _,_=>none
theorem T1:∀ {ps:List Nat} {cs:List Int} {i:Nat} {p:Nat} {c:Int},ps[i]? = some p->cs[i]? = some c->IL (ps.drop (i+1)) (cs.drop (i+1))=none->c<p->
  IL ps cs=some (cs.take i++(c+1)::List.replicate (cs.length - (i+1)) 0)
 | p'::ps,c'::cs,0,p,c,hp,hc,hn,h=>by
  rw [List.getElem?_cons_zero] at hp hc
  obtain rfl:=Option.some.inj hp
  obtain rfl:=Option.some.inj hc
  have hn':IL ps cs=none:=hn
  simp [IL,hn',h]
 | p'::ps,c'::cs,i+1,p,c,hp,hc,hn,h=>by
  rw [List.getElem?_cons_succ] at hp hc
  have:=T1 hp hc hn h
  simp [IL,this]
 | [],_,_,_,_,hp,_,_,_=>by simp at hp
 | _::_,[],_,_,_,_,hc,_,_=>by simp at hc
theorem T3:∀ {ps:List Nat} {cs:List Int} {i:Nat} {p:Nat} {c:Int},ps[i]? = some p->cs[i]? = some c->IL (ps.drop (i+1)) (cs.drop (i+1))=none->¬ c<p->IL (ps.drop i) (cs.drop i)=none
 | p'::ps,c'::cs,0,p,c,hp,hc,hn,h=>by
  rw [List.getElem?_cons_zero] at hp hc
  obtain rfl:=Option.some.inj hp
  obtain rfl:=Option.some.inj hc
  have hn':IL ps cs=none:=hn
  simp [IL,hn',h]
 | p'::ps,c'::cs,i+1,p,c,hp,hc,hn,h=>by
  rw [List.getElem?_cons_succ] at hp hc
  have:=T3 hp hc hn h
  simpa using this
 | [],_,_,_,_,hp,_,_,_=>by simp at hp
 | _::_,[],_,_,_,_,hc,_,_=>by simp at hc
def lG (m:Mem) (n:Nat):List Nat:=(List.range n).map fun (i:Nat)=>(m.fk i).length
theorem A7 {m:Mem} {n i:Nat} (h:i<n):(lG m n)[i]? = some (m.fk i).length:=by
 unfold lG; rw [List.getElem?_map,List.getElem?_range h]; rfl
def T4 (m:Mem) (cut:List Int):Option (List Int):=IL (lG m cut.length) cut
def l5 (m:Mem) (mT:List Int):Mem:={m with kept:=mT,l:=mT++m.fM.drop mT.length,fk:=λ _=>[]}
theorem wE {cs:List Int} {t:Nat} {x:Int} (h:t<cs.length):(cs.take (t+1)++List.replicate (cs.length - (t+1)) 0).set t x=cs.take t++x::List.replicate (cs.length - (t+1)) (0:Int):=by
 have e:cs.take (t+1)=cs.take t++[cs[t]]:=by rw [List.take_add_one,List.getElem?_eq_getElem h]; rfl
 rw [e,List.append_assoc,List.set_append_right _ _ (by rw [List.length_take]; omega),List.length_take,Nat.min_eq_left (Nat.le_of_lt h),Nat.sub_self]
 rfl
theorem T5 {cs:List Int} {t:Nat} (h:t<cs.length):cs.take t++0::List.replicate (cs.length - (t+1)) (0:Int)=cs.take t++List.replicate (cs.length - t) 0:=by
 rw [show cs.length - t=(cs.length - (t+1))+1 from by omega,List.replicate_succ]
theorem C78 (p:Nat) (ov fv:Value) (m:Mem) (F:Nat->Prop) (line:Int) (w:World) (hF:(fb p ov fv m).p w F) (hK:∀ w',gM F w w'->wC ov fv m w') (hk:wS m) (hb:MB m 1000000):CR 78 [(.pointer (some ⟨p,0,none⟩)),.int .i64 line] w (λ v w'=>v = .int .i64 (if OH m line=true then 0 else 1)/\ti F (fb p ov fv (pa m line)) w w'):=by
 have hs:=St.begin hF;obtain ⟨lv,kv,pm,hs⟩:=fb.open hs;have Vb:=hk.fl;have N3:=hk.Pw;have YC:=hk.ll;have Ss:=hk.kl;have Yl:=hk.lb;refine Vq Tryz.func78 (pl:=P78) ?_;refine ⟨λ jv w'=>jv = .bool (decide (line<0\/fU m.of<=line))/\St w F [cP p [ov,fv,lv,kv,.map (some pm)],bJ lv m.l,bJ kv m.kept,m7 pm m.fk] w',aS (aC (λ _=>⟨vb (by first | exact (decide_eq_true (by omega)).symm | exact decide_eq_decide.2 (by omega)),hs⟩) (λ _=>bO Qg hs (C106 _ m _ (rE.mk' hs.hb (hK _ hs.aE) hs.p1.gg hs.p2.gg hs.p3.R6) hk) (λ _ _ hs=>dO ⟨vb (by first | exact (decide_eq_true (by omega)).symm | exact decide_eq_decide.2 (by omega)),hs⟩))),?_⟩
 rintro _ _ ⟨rfl,hs⟩ _;refine aC (λ je=>?_) (λ je=>?_)
 ·have hs:=hs.p3.p3.p3.p3;have rN:OH m line=false:=by unfold OH; rw [decide_eq_false_iff_not]; omega
  unfold pa;rw [rN];exact ⟨rfl,(fb.shut hs).mut⟩
 refine aH (aA mw (aB rU hs.hb rfl ?_));obtain ⟨abb,hs⟩:=(hs.p3).G4 (k:=line);refine ⟨_,(hs.p1).xA Tryz.underlying144 DB tg,?_⟩;have N5:=hb line;refine aG vM (hs).gg ?_;have hs:=hs.p3.p3.p4.p4.p4;refine ⟨λ mm x w1=>∃ k:Nat,x = .int .i64 (k:Int)/\mm=(m.fk line).length - k/\k<=(m.fk line).length/\St w F [bJ (Flat.val abb) (m.fk line),G3 pm m.fk line abb,bJ kv (tY m.kept ((m.fk line).take k)),cP p [ov,fv,lv,kv,.map (some pm)],bJ lv m.l] w1,⟨_,0,rfl,rfl,Nat.zero_le _,hs⟩,?_⟩;rintro mm _ _ ⟨k,rfl,rfl,wP,hs⟩ _;refine aS (aC (λ yj=>?_) (λ yj=>?_))
 ·obtain ⟨gT,ji⟩:=gx ((m.fk line)) (i:=((k:Int)).toNat) (by omega);refine eS hs vM (by omega) (by omega) (λ _ z9=>?_);have hpc:=hk.pc line _ (List.mem_of_getElem? ji);refine qj hs Lk z9 ji (aN hs Ll (λ b_w6 _ hs=>aO (x:=gT) hs Lk rfl rfl (λ _ hs=>aH (aA vL (have hs:=hs.drew;aB fT hs.p4.hb rfl (aA FL ?_))))));have hal:=wB ((m.fk line).take k) m.kept;refine aB (v:=.int .i64 ((gT).cell)) cK hs.hb rfl (aA FM (aB (v:=.int .i64 ((gT).n)) cK hs.hb rfl ?_));obtain ⟨e_x34,aqb⟩:=gx ((tY m.kept ((m.fk line).take k))) (i:=((gT).cell).toNat) (by omega)
  exact eS hs.p3 ei (by omega) (by omega) (λ _ sF=>mc _ hs.p3 cK sF (by omega) (λ _ hs=>aT (by omega) (have hs:=(hs.p1.drop.p4.p4.p2.p4).p4;⟨_,by omega,k+1,rfl,rfl,by omega,by rw [CO (j:=k) ji]; exact hs⟩)))
 rw [List.take_of_length_le (by omega)] at hs;refine aH (aA mw (aB rU hs.p3.hb rfl ?_));have hs:=hs.p1.p1.R7;rw [Of] at hs;refine G6 hs rfl Tryz.underlying144 DB (λ _ _ hs=>?_);have hs:=hs.p1.p3.p3;have rN:OH m line=true:=by unfold OH; rw [decide_eq_true_eq]; omega
 have hom:pa m line={m with kept:=tY m.kept (m.fk line),fk:=lD m.fk line []}:=by unfold pa; rw [if_pos rN]
 rw [hom,rN];exact ⟨rfl,(fb.shut (m:={m with kept:=_,fk:=_}) hs).mut⟩
theorem C74 (p:Nat) (m:Mem) (cut:List Int) (cv:Value) (w:World) (hm:rE w p m) (hk:wS m) (hb:MB m 1000000) (hC:dx (λ _=>True) w cv cut) (ad8:cut.length<=1000):CR 74 [(.pointer (some ⟨p,0,none⟩)),cv] w (λ v w'=>(gn m cut=none/\v = .tuple #[.slice none 0 0,.int .i64 1]/\Ext w w')\/∃ mT o,gn m cut=some mT/\v = .tuple #[o,.int .i64 0]/\mZ (bJ o mT) w w'):=by
 have LR:=hm;obtain ⟨ov,fv,lv,kv,pm,c0,c1,c2,c3,c4,hO,Px,hL,hKp,hP⟩:=hm;have Vb:=hk.fl;have N3:=hk.Pw;have YC:=hk.ll;have Ss:=hk.kl;have Yl:=hk.lb;have hs:=St.start w;refine abK _ _ _ _ ?_;unfold S74;refine aG ei (hC.ext hs.aE) (bO Qg hs (C106 _ m _ (LR.ext hs.aE) hk) (λ w1 he hs=>cS (aC (λ _=>.inl ⟨T0 (by omega),rfl,hs.aE⟩) (λ j8=>dA agn hs (C100 _ m _ (LR.ext hs.aE) hk) (λ x17 _ cL hs=>aG ei (hC.ext hs.aE) ?_)))));refine ⟨λ mm x w1=>∃ k:Nat,x = .int .i64 (k:Int)/\mm=cut.length - k/\k<=cut.length/\(∀ (i:Nat) (c:Int),i<k->cut[i]? = some c->0<=c/\c<=(m.fk i).length)/\St w bD [bJ x17 (wD m cut k)] w1,⟨_,0,rfl,rfl,Nat.zero_le _,λ _ _ h=>absurd h (by omega),hs⟩,?_⟩
 rintro mm _ w3 ⟨k,rfl,rfl,wP,ga,hs⟩ _;refine aS (aC (λ sf=>?_) (λ _=>.inr ⟨_,_,CQ (by omega) (λ i c _ hc=>ga i c (by omega) hc),rfl,by rw [show cut.length=k from by omega]; exact hs.fresh⟩));obtain ⟨sI,sJ⟩:=gx (cut) (i:=((k:Int)).toNat) (by omega);refine aU ei hC (by omega) sJ (λ _ HR=>aF cK (HR.ext hs.aE) ⟨λ jv w'=>jv = .bool (decide (sI<0\/(m.fk k).length<sI))/\w3=w',aS (aC (λ _=>⟨Qe (by omega),rfl⟩) (λ _=>aH (aA mw (bW rU (c4.ext hs.aE) (xz hP hs.aE Tryz.underlying144 DB tg (λ _ sF=>aG vM (sF.ext hs.aE) (er ⟨I5 (by omega),rfl⟩))))))),?_⟩)
 rintro _ _ ⟨rfl,hw⟩ _;subst hw;refine aC (λ _=>.inl ⟨TZ (k:=k) sJ (by omega),rfl,hs.aE⟩) (λ yv=>aH (aA mw (bW rU (c4.ext hs.aE) (xz hP hs.aE Tryz.underlying144 DB tg (λ s_x43 abc=>?_)))));have hbk:=hb k;have Qn:((m.fk k).take sI.toNat).length<=(m.fk k).length:=by rw [List.length_take]; omega
 refine nN vM (abc.ext hs.aE) (by omega) (by omega) (λ ajT Kc=>?_);have EF:=Kc _ abc;refine aG vM (EF.ext hs.aE) ?_;refine ⟨λ mm x w1=>∃ j:Nat,x = .int .i64 (j:Int)/\mm=((m.fk k).take sI.toNat).length - j/\j<=((m.fk k).take sI.toNat).length/\St w bD [bJ x17 (tY (wD m cut k) (((m.fk k).take sI.toNat).take j))] w1,⟨_,0,rfl,rfl,Nat.zero_le _,hs⟩,?_⟩;rintro mm _ _ ⟨j,rfl,rfl,hj,hs⟩ _;refine aS (aC (λ aa2=>?_) (λ aa2=>?_))
 ·obtain ⟨MQ,Ko⟩:=gx ((((m.fk (k:Int))).take (sI).toNat)) (i:=((j:Int)).toNat) (by omega);refine aU vM EF (by omega) Ko (λ _ T6=>?_);have hpc:=hk.pc k _ (List.mem_of_mem_take (List.mem_of_getElem? Ko));refine aF Lk (T6.ext hs.aE) (aN hs Ll (λ b_w10 _ hs=>aO (x:=MQ) hs Lk rfl rfl (λ _ hs=>aA FL ?_)));have hal:=wB (((m.fk k).take sI.toNat).take j) (wD m cut k);have hil:=pS m cut k;refine aB (v:=.int .i64 ((MQ).cell)) cK hs.hb rfl (aA FM (aB (v:=.int .i64 ((MQ).n)) cK hs.hb rfl ?_));obtain ⟨e_x56,aqc⟩:=gx ((tY (wD m cut k) (((m.fk k).take sI.toNat).take j))) (i:=((MQ).cell).toNat) (by omega)
  exact eS hs.p1 ei (by omega) (by omega) (λ _ akb=>mc _ hs.p1 cK akb (by omega) (λ _ hs=>aT (by omega) (have hs:=(hs.p1).drop;⟨_,by omega,j+1,rfl,rfl,by omega,by rw [CO (j:=j) Ko]; exact hs⟩)))
 rw [List.take_of_length_le (i:=j) (by omega)] at hs;refine aT (by omega) ⟨_,by omega,k+1,rfl,rfl,by omega,λ i c hi hc=>?_,?_⟩
 ·by_cases e:i=k
  ·subst e; obtain rfl:=Option.some.inj (hc.symm.trans sJ); omega
  exact ga i c (by omega) hc
 rw [CP,List.getD_eq_getElem?_getD,show cut[k]? = some sI from sJ]; exact hs
theorem C107 (p:Nat) (m:Mem) (cut:List Int) (cv:Value) (w:World) (hm:rE w p m) (hk:wS m) (hb:MB m 1000000) (hC:dx (λ _=>True) w cv cut) (ad8:cut.length<=1000) (ug:∀ c∈cut,0<=c):CR 107 [(.pointer (some ⟨p,0,none⟩)),cv] w (λ v w'=>(T4 m cut=none/\v = .tuple #[.slice none 0 0,.bool false]/\Ext w w')\/∃ c o,T4 m cut=some c/\v = .tuple #[o,.bool true]/\mZ (bJ o c) w w'):=by
 have LR:=hm;obtain ⟨ov,fv,lv,kv,pm,c0,c1,c2,c3,c4,hO,Px,hL,hKp,hP⟩:=hm;have hs:=St.start w;refine Vt _ _ _ _ ?_;unfold S107;refine dA Fx hs (C71 _ _ _ (hC.ext hs.aE) (by omega)) (λ x9 w1 cL hs=>?_);have hlx:cut.length=cut.length:=rfl;refine aG ei (hs).gg (iT (by omega) ?_);refine ⟨λ mm x w1=>∃ t:Nat,x = .int .i64 ((t:Int) - 1)/\mm=t/\t<=cut.length/\IL ((lG m cut.length).drop t) (cut.drop t)=none/\St w bD [bJ x9 (cut.take t++List.replicate (cut.length - t) 0)] w1,⟨_,cut.length,rfl,rfl,Nat.le_refl _,by rw [List.drop_eq_nil_of_le (Nat.le_refl _)]; cases (lG m cut.length).drop cut.length <;> rfl,by simpa using hs⟩,?_⟩
 rintro t _ _ ⟨_,rfl,rfl,ht,eA,hs⟩ _;refine dO (aC (λ je=>?_) (λ _=>.inl ⟨by unfold T4; rw [show t=0 from by omega] at eA; simpa using eA,rfl,hs.drop.aE⟩));have hlx:(cut.take t++List.replicate (cut.length - t) 0).length=cut.length:=by rw [List.length_append,List.length_take,List.length_replicate]; omega
 obtain ⟨iq,fE⟩:=gx ((cut.take t++List.replicate (cut.length - t) 0)) (i:=(((t:Int) - 1)).toNat) (by omega);refine eS hs ei (by omega) (by omega) (λ _ mE=>?_);have hs:=hs.drew
 have hct:cut[t - 1]? = some iq:=by
  have:=fE;rw [show ((t:Int) - 1).toNat=t - 1 from by omega,List.getElem?_append_left (by rw [List.length_take]; omega),List.getElem?_take,if_pos (by omega)] at this;exact this
 have hx0:=ug _ (List.mem_of_getElem? hct);have he:=rfl (a:=iq);refine qj hs cK mE fE (aH (aA mw (bW rU (c4.ext hs.aE) (xz hP hs.aE Tryz.underlying144 DB tg (λ s_x26 AV=>aG vM (AV.ext hs.aE) (aS (aC (λ Tx=>?_) (λ Tx=>?_))))))))
 ·refine eS hs ei (by omega) (by omega) (λ _ Hk=>qj hs cK Hk fE ?_);have hbx:=hb ((t:Int) - 1);refine aT (by omega) (eS hs ei (by omega) (by omega) (λ _ sF=>mc _ hs cK sF (by omega) (λ _ hs=>?_)));refine .inr ⟨_,_,T1 (i:=t - 1) (A7 (by omega)) hct (by rw [show t - 1+1=t from by omega]; exact eA) (by rw [show ((t - 1:Nat):Int)=(t:Int) - 1 from by omega]; omega),rfl,?_⟩;rw [he,show ((t:Int) - 1).toNat=t - 1 from by omega] at hs;have hst:=wE (cs:=cut) (t:=t - 1) (x:=iq+1) (by omega);rw [show t - 1+1=t from by omega] at hst |-;rw [hst] at hs;exact hs.fresh
 have hbx:=hb ((t:Int) - 1);refine eS hs ei (by omega) (by omega) (λ _ yu=>mc _ hs cK yu (by omega) (λ _ hs=>iT (by omega) ?_));refine ⟨_,by omega,t - 1,by congr 1; omega,rfl,by omega,T3 (i:=t - 1) (A7 (by omega)) hct (by rw [show t - 1+1=t from by omega]; exact eA) (by rw [show ((t - 1:Nat):Int)=(t:Int) - 1 from by omega]; omega),?_⟩;rw [show ((t:Int) - 1).toNat=t - 1 from by omega] at hs;have hst:=wE (cs:=cut) (t:=t - 1) (x:=0) (by omega);rw [show t - 1+1=t from by omega] at hst;rw [hst] at hs;have U5:=T5 (cs:=cut) (t:=t - 1) (by omega);rw [show t - 1+1=t from by omega] at U5;rw [U5] at hs
 exact hs
theorem C31 (p:Nat) (ov fv:Value) (m:Mem) (F:Nat->Prop) (cut:List Int) (cv:Value) (w:World) (hF:(fb p ov fv m).p w F) (hK:∀ w',gM F w w'->wC ov fv m w') (hk:wS m) (hb:MB m 1000000) (hC:∀ w',gM F w w'->dx (λ _=>True) w' cv cut) (ad8:cut.length<=1000):CR 31 [(.pointer (some ⟨p,0,none⟩)),cv] w (λ v w'=>(gn m cut=none/\v = .int .i64 1/\ti F (fb p ov fv m) w w')\/∃ mT,gn m cut=some mT/\v = .int .i64 0/\ti F (fb p ov fv (l5 m mT)) w w'):=by
 have hs:=St.begin hF;obtain ⟨lv,kv,pm,hs⟩:=fb.open hs;have Vb:=hk.fl;have N3:=hk.Pw;have YC:=hk.ll;have Ss:=hk.kl;have Yl:=hk.lb;refine Vq Tryz.func31 (pl:=P31) ?_;refine eW agj (C74 _ m cut _ _ (rE.mk' hs.hb (hK _ hs.aE) hs.p1.gg hs.p2.gg hs.p3.R6) hk hb (hC _ hs.aE) (by omega)) ?_;rintro v_x10 _ ad9
 rcases ad9 with ⟨n8,rfl,he⟩ | ⟨EU,o_x10,n8,rfl,cL⟩
 ·have hs:=hs.ext he;exact aR rfl (aR rfl (cS (oB (by decide) (have hs:=hs.p3.p3.p3.p3;.inl ⟨n8,rfl,(fb.shut hs).mut⟩))))
 have hs:=hs.made cL;refine aR rfl (aR rfl (cS (fB (by decide) (aH (aA vL (bF hs.p1 fT (fw rfl) ((hs).gg.one) (λ _ hs=>aH (aA nL (have hs:=hs.drew;aB fT hs.hb rfl (aH (aA Qt (aB fT hs.hb rfl ?_))))))))))));refine G7 hs.p2 ei (hK _ hs.aE).2 (by omega) (λ _ hs=>aH (aA nL (aB fT hs.p1.hb rfl (G7 hs ei (hs.p2).gg (by rw [List.length_append,List.length_drop]; have hil:EU.length=m.of.length:=(by unfold gn at n8; split at n8 <;> simp at n8; rw [<- n8,pS]; exact Ss); omega) (λ _ hs=>wk (α:=jt) hs (λ b_x36 _ hs=>aH (aA mw (bF hs.p2 rU (fw rfl) (rfl) (λ _ hs=>?_)))))))))
 have hs:=((hs.p4.drop.p4.drop.p1.p3).p3).p3;have hil:EU.length=m.of.length:=by unfold gn at n8; split at n8 <;> simp at n8; rw [<- n8,pS]; exact Ss
 rw [show m.l.drop m.fM.length=[] from List.drop_eq_nil_of_le (by omega),List.append_nil] at hs;exact .inr ⟨_,n8,rfl,(fb.shut (m:=l5 m EU) hs).mut⟩
def T7 (of:List Int) (stays:Int) (fM:List Int):Mem:=⟨of.take stays.toNat,fM,fM,fM.take stays.toNat,λ _=>[]⟩
def dP:List Nat->List (List Int)
 | []=>[[]]
 | p::ps=>(List.range (p+1)).flatMap fun (i:Nat)=>(dP ps).map λ t=>(i:Int)::t
theorem qS:∀ ps,(dP ps).head? = some (List.replicate ps.length 0)
 | []=>rfl
 | p::ps=>by
  have ih:=qS ps
  rw [dP,List.range_succ_eq_map,List.flatMap_cons]
  cases h:dP ps with
  | nil=>rw [h] at ih; cases ih
  | cons t ts=>
   rw [h] at ih; simp at ih
   simp [ih,List.replicate_succ]
theorem mJ:∀ {ps:List Nat} {c:List Int},c∈dP ps->c.length=ps.length
 | [],c,h=>by simp [dP] at h; subst h; rfl
 | p::ps,c,h=>by
  simp only [dP,List.mem_flatMap,List.mem_map] at h
  obtain ⟨i,_,t,ht,rfl⟩:=h
  simp [mJ ht]
theorem CT:∀ {ps:List Nat} {c:List Int} {i p:Nat} {n:Int},c∈dP ps->ps[i]? = some p->c[i]? = some n->0<=n/\n<=p
 | [],c,i,p,n,h,hp,_=>by simp at hp
 | q::ps,c,i,p,n,h,hp,hc=>by
  simp only [dP,List.mem_flatMap,List.mem_map,List.mem_range] at h
  obtain ⟨j,hj,t,ht,rfl⟩:=h
  cases i with
  | zero=>simp at hp hc; subst hp hc; omega
  | succ i=>
   rw [List.getElem?_cons_succ] at hp hc
   exact CT ht hp hc
theorem pe {α β:Type} {f:α->List β}:∀ {l:List α} {d:List β} {c:β} {r:List β},l.flatMap f=d++c::r->∃ l1 x l2 d' r',l=l1++x::l2/\f x=d'++c::r'/\r=r'++l2.flatMap f
 | [],d,c,r,h=>by simp at h
 | x::l,d,c,r,h=>by
  rw [List.flatMap_cons] at h
  rcases List.append_eq_append_iff.1 h with ⟨a',h1,h2⟩ | ⟨c',h1,h2⟩
  ·obtain ⟨l1,y,l2,d',r',e1,e2,e3⟩:=pe h2
   exact ⟨x::l1,y,l2,d',r',by rw [e1]; rfl,e2,e3⟩
  ·cases c' with
   | nil=>
    obtain ⟨l1,y,l2,d',r',e1,e2,e3⟩:=pe (f:=f) (l:=l) (d:=[]) (c:=c) (r:=r) (by simpa using h2.symm)
    exact ⟨x::l1,y,l2,d',r',by rw [e1]; rfl,e2,e3⟩
   | cons y ys=>
    simp at h2
    exact ⟨[],x,l,d,ys,rfl,by rw [h1,h2.1],h2.2⟩
theorem HS {n:Nat} {l1 l2:List Nat} {x:Nat} (h:List.range n=l1++x::l2):x<n/\l2.head? = if x+1<n then some (x+1) else none:=by
 have hx:(List.range n)[l1.length]? = some x:=by rw [h,List.getElem?_append_right (Nat.le_refl _)]; simp
 have eU:l1.length<n:=by have:=(List.getElem?_eq_some_iff.1 hx).1; simpa using this
 have hxl:x=l1.length:=by rw [List.getElem?_range eU] at hx; exact (Option.some.inj hx).symm
 refine ⟨by omega,?_⟩
 have h2:(List.range n)[l1.length+1]? = l2.head?:=by
  rw [h,List.getElem?_append_right (by omega),show l1.length+1 - l1.length=1 from by omega,List.getElem?_cons_succ]
  cases l2 <;> rfl
 rw [<- h2]
 by_cases hh:x+1<n
 ·rw [if_pos hh,List.getElem?_range (by omega)]; congr 1; omega
 rw [if_neg hh,List.getElem?_eq_none (by simp; omega)]
theorem MR:∀ {ps:List Nat} {d:List (List Int)} {c:List Int} {r:List (List Int)},dP ps=d++c::r->IL ps c=r.head?
 | [],d,c,r,h=>by
  simp [dP] at h
  cases d with
  | nil=>simp at h; obtain ⟨rfl,rfl⟩:=h; rfl
  | cons x d=>simp at h
 | p::ps,d,c,r,h=>by
  rw [dP] at h
  obtain ⟨l1,x,l2,d',r',e1,e2,e3⟩:=pe h
  obtain ⟨hx,vi⟩:=HS e1
  obtain ⟨a,b,ha,hb,hc⟩:=List.map_eq_append_iff.1 e2
  obtain ⟨t,ts,rfl,hct,hts⟩:=List.map_eq_cons_iff.1 hc
  subst hct
  have ih:=MR ha
  rw [e3,<- hts]
  show (match IL ps t with | some cs'=>some ((x:Int)::cs') | none=>if (x:Int)<p then some (((x:Int)+1)::List.replicate t.length 0) else none)=_
  rw [ih]
  cases ts with
  | cons t' ts=>rfl
  | nil=>
   simp only [List.head?_nil,List.map_nil,List.nil_append]
   cases l2 with
   | nil=>
    simp at vi
    rw [if_neg (by omega)]; rfl
   | cons y l2=>
    simp only [List.head?_cons] at vi
    split at vi
    ·obtain rfl:=Option.some.inj vi
     rw [if_pos (by omega),List.flatMap_cons]
     have Qn:t.length=ps.length:=mJ (ps:=ps) (by rw [ha]; simp)
     have hh:=qS ps
     cases hq:dP ps with
     | nil=>rw [hq] at hh; cases hh
     | cons u us=>
      rw [hq] at hh; simp at hh
      simp [hh,Qn]
    ·cases vi
def IT (f:List Int->List Int) (l:List (List Int)):List (List Int) × List (List Int):=l.foldl (λ s c=>if f c∈s.2 then s else (s.1++[c],s.2++[f c])) ([],[])
theorem HT (f:List Int->List Int) (l:List (List Int)) (c:List Int):IT f (l++[c])=if f c∈(IT f l).2 then IT f l else ((IT f l).1++[c],(IT f l).2++[f c]):=by
 unfold IT; rw [List.foldl_append]; rfl
theorem A8 (f:List Int->List Int):∀ (l:List (List Int)) (s:List (List Int) × List (List Int)),(l.foldl (λ s c=>if f c∈s.2 then s else (s.1++[c],s.2++[f c])) s).1.length<=s.1.length+l.length
 | [],s=>Nat.le_refl _
 | c::l,s=>by
  rw [List.foldl_cons]
  refine Nat.le_trans (A8 f l _) ?_
  split
  ·simp
  ·simp; omega
theorem MS (f:List Int->List Int) (l:List (List Int)):(IT f l).1.length<=l.length:=by
 have h:(IT f l).1.length<=([]:List (List Int)).length+l.length:=A8 f l ([],[])
 simpa using h
def akd (xs:List Int):List Int:=xs++List.replicate (20 - xs.length) 0
def pT (m:Mem) (c:List Int):List Int:=akd (wD m c c.length)
def BN (m:Mem):List Nat:=lG m (fU m.of).toNat
def yz (m:Mem):List (List Int):=(IT (pT m) (dP (BN m))).1
theorem wF (m:Mem):(BN m).length=(fU m.of).toNat:=by unfold BN lG; simp
theorem CU {m:Mem} (hk:wS m):0<=fU m.of:=by
 unfold fU; split
 ·omega
 rename_i h
 have hx:m.of.getD (m.of.length - 1) 0∈m.of:=by rw [List.getD_eq_getElem?_getD,List.getElem?_eq_getElem (by omega)]; exact List.getElem_mem _
 have:=(hk.ofr _ hx).1
 omega
theorem aea {m:Mem} (hk:wS m) {c:List Int} (h:c∈dP (BN m)):(c.length:Int)=fU m.of/\gn m c=some (wD m c c.length)/\(∀ n∈c,0<=n):=by
 have hl:=mJ h
 rw [wF] at hl
 have hn:=CU hk
 have hb:∀ (k:Nat) (n:Int),k<c.length->c[k]? = some n->0<=n/\n<=(m.fk k).length:=λ k n Ss hc=>by
  have:=CT h (i:=k) (p:=(m.fk k).length) (by unfold BN; exact A7 (by omega)) hc
  exact this
 refine ⟨by omega,CQ (by omega) hb,λ n hn=>?_⟩
 obtain ⟨i,hi,rfl⟩:=List.getElem_of_mem hn
 exact (hb i _ hi (List.getElem?_eq_getElem hi)).1
theorem HU {m:Mem} {d:List (List Int)} {c:List Int} {r:List (List Int)} (h:dP (BN m)=d++c::r):T4 m c=r.head?:=by
 have hl:c.length=(BN m).length:=mJ (by rw [h]; simp)
 rw [wF] at hl
 unfold T4
 rw [hl]; exact MR h
def YZ (v:Value):List (List Int)->HP
 | []=>emp
 | c::_=>bJ v c
theorem YZ.nil {w w0:World} {A:Nat->Prop} {L:List HP} {v:Value} (hs:St w0 A L w):St w0 A (YZ v []::L) w:=hs.new (Ext.refl w) (H:=emp) (F:=bD) (λ _ h=>h) λ _ h=>h.elim
theorem CV (ps:List Nat):dP ps=List.replicate ps.length 0::(dP ps).tail:=by
 have:=qS ps
 cases h:dP ps with
 | nil=>rw [h] at this; cases this
 | cons x xs=>rw [h] at this; simp at this; rw [this]; rfl
theorem Kp:G8 Tryz.prog 20 192 3:=⟨Tryz.underlying192,DB,(eD cK).2⟩
theorem C27 (of fM:List Int) (stays:Int) (av bv:Value) (w:World) (hO:dx (λ _=>True) w av of) (Px:dx (λ _=>True) w bv fM) (hlen:of.length=fM.length) (Vb:of.length<=20) (hst:0<=stays/\stays<=of.length) (hln:∀ (k:Nat) (n:Int),(k:Int)<stays->of[k]? = some n->(n=wv of k\/(0<k/\n=wv of k - 1))/\-10<=n/\n<=100):CR 27 [av,.int .i64 stays,bv] w (λ v w'=>∃ (p:Nat) (ov fv:SV),v = .tuple #[.pointer (some ⟨p,0,none⟩),.int .i64 0]/\mZ (sep (bJ (Flat.val ov) (of.take stays.toNat)) (sep (bJ (Flat.val fv) fM) (fb p (Flat.val ov) (Flat.val fv) (T7 of stays fM)))) w w'):=by
 have hs:=St.start w;refine tN Tryz.func27 ?_;refine ⟨λ jv w'=>jv = .bool (decide (of.length≠fM.length\/20<of.length\/stays<0\/of.length<stays))/\w=w',aG ei (hO.ext hs.aE) (aG ei (Px.ext hs.aE) (cS (aC (λ _=>⟨Qe (by omega),rfl⟩) (λ _=>aG ei (hO.ext hs.aE) (er (aC (λ _=>⟨Qe (by omega),rfl⟩) (λ _=>aS (aC (λ _=>⟨Qe (by omega),rfl⟩) (λ _=>aG ei (hO.ext hs.aE) (er ⟨I5 (by omega),rfl⟩)))))))))),?_⟩;rintro _ w1 ⟨rfl,hw⟩ _;subst hw;refine aC (λ Cj=>absurd Cj (by omega)) (λ Cj=>nN ei (hO.ext hs.aE) (by omega) (by omega) (λ s_x34 aeb=>?_));have T8:=aeb _ hO
 refine aG ei (T8.ext hs.aE) ?_;refine ⟨λ mm l x w1=>∃ (k:Nat) (last:Int),l = .int .i64 last/\x = .int .i64 (k:Int)/\mm=(of.take stays.toNat).length - k/\k<=(of.take stays.toNat).length/\last=wv of k - 1/\-200<=last/\last<=200/\St w bD [] w1,⟨_,0,-1,rfl,rfl,rfl,Nat.zero_le _,rfl,by omega,by omega,hs⟩,?_⟩;rintro mm _ _ w2 ⟨k,last,rfl,rfl,rfl,wP,hlast,hl7,hl8,hs⟩ _;have Qn:(of.take stays.toNat).length=stays.toNat:=by rw [List.length_take]; omega
 refine aS (aC (λ yv=>?_) (λ yv=>?_))
 ·obtain ⟨CW,T9⟩:=gx (((of).take (stays).toNat)) (i:=((k:Int)).toNat) (by omega);refine aU ei T8 (by omega) T9 (λ _ Hw=>?_)
  have aec:of[k]? = some CW:=by
   have h0:=T9;rw [List.getElem?_take] at h0
   split at h0
   ·exact h0
   ·cases h0
  obtain ⟨ZL,vi,hl3⟩:=hln k _ (by omega) aec;refine aF cK (Hw.ext hs.aE) ⟨λ jv w'=>jv = .bool (decide (CW≠last+1/\(k=0\/CW≠last)))/\w2=w',aT (by omega) (cS (aC (λ _=>aI (aC (λ _=>⟨Qe (by omega),rfl⟩) (λ _=>cS ⟨I5 (by omega),rfl⟩))) (λ _=>⟨jvF (by omega),rfl⟩))),?_⟩;rintro _ _ ⟨rfl,hw⟩ _;subst hw;refine aC (λ abd=>absurd abd (by have:=hln k CW (by omega) aec; simp; omega)) (λ abd=>?_);have hws:wv of (k+1)=CW+1:=by unfold wv; rw [if_neg (by omega),Nat.add_sub_cancel,List.getD_eq_getElem?_getD,aec]; rfl
  exact aT (by omega) ⟨_,by omega,k+1,CW,rfl,rfl,rfl,by omega,by omega,by omega,by omega,hs⟩
 refine nN ei (hO.ext hs.aE) (by omega) (by omega) (λ s_x58 aed=>?_);have aee:=aed _ hO;refine dA Fx hs (C71 _ _ _ (aee.ext hs.aE) (by first | omega | (rw [List.length_take]; omega))) (λ x59 _ cL hs=>dA Fx hs (C71 _ _ _ (Px.ext hs.aE) (by first | omega | (rw [List.length_take]; omega))) (λ x61 _ cL hs=>dA Fx hs (C71 _ _ _ (Px.ext hs.aE) (by first | omega | (rw [List.length_take]; omega))) (λ x63 _ cL hs=>wk (α:=jt) hs (λ b_x64 _ hs=>?_))));obtain ⟨aef,rfl⟩:=(hs.p3).eT;obtain ⟨aeg,rfl⟩:=(hs.p2).eT;obtain ⟨aqe,rfl⟩:=(hs.p1).eT;refine pop (zU _ _ _ _ _ _ _ _ _ _) (vy hs (λ ake _ hs=>nN ei (Px.ext hs.aE) (by omega) (by omega) (λ s_x70 aeh=>?_)))
 have aei:=aeh _ Px;exact dA Fx hs (C71 _ _ _ (aei.ext hs.aE) (by first | omega | (rw [List.length_take]; omega))) (λ _ _ _ hs=>aH (aA vL (bF hs.p1 fT (fw rfl) ((hs).gg.one) (λ _ hs=>have hs:=fb.shut (m:=T7 of stays fM) hs.p4.p5.p4.p4.p5.p5;⟨ake,aef,aeg,rfl,(St.join (St.join hs.p2).p1).fresh⟩))))
theorem C52 (p:Nat) (m:Mem) (w:World) (hm:rE w p m) (hk:wS m) (hb:MB m 1000000) (hC:(dP (BN m)).length<=1000000000):CR 52 [(.pointer (some ⟨p,0,none⟩))] w (λ v w'=>mZ (fq v (yz m)) w w'):=by
 have LR:=hm;obtain ⟨ov,fv,lv,kv,pm,c0,c1,c2,c3,c4,hO,Px,hL,hKp,hP⟩:=hm;have Vb:=hk.fl;have N3:=hk.Pw;have YC:=hk.ll;have Ss:=hk.kl;have Yl:=hk.lb;have hs:=St.start w;refine abH _ _ _ ?_;unfold S52;refine Ha (n:=20) hs (λ b10 w1 hs=>bO Qg hs (C106 _ m _ (LR.ext hs.aE) hk) (λ _ he hs=>?_));have hnn:=CU hk;refine FD (0:Int) hs ei rQ (by omega) (by omega) (by decide) (λ s_x13 _ hs=>?_);have hs:=(((hs.DZ (α:=List Int)).p1).p2).p2;refine ⟨λ mm fp jB is6 w1=>∃ (done rest:List (List Int)),dP (BN m)=done++rest/\is6 = .bool (!rest.isEmpty)/\mm=rest.length/\St w bD [fq fp (IT (pT m) done).1,JN b10 20 (IT (pT m) done).2,YZ jB rest] w1,⟨_,[],dP (BN m),rfl,by rw [CV (BN m)]; rfl,rfl,by rw [CV (BN m),wF]; exact hs⟩,?_⟩
 rintro mm fp jB _ _ ⟨done,rest,iH,rfl,rfl,hs⟩ _;refine bI (λ Ua=>?_) (λ Ua=>?_)
 ·obtain ⟨c,rest,rfl⟩:∃ c r,rest=c::r:=by cases rest with | nil=>cases Ua | cons c r=>exact ⟨c,r,rfl⟩
  change St w bD [fq fp (IT (pT m) done).1,JN b10 20 (IT (pT m) done).2,bJ jB c] _ at hs
  have hcm:c∈dP (BN m):=by rw [iH]; simp
  have hco:=aea hk hcm;have Eh:=hco.1;have hdl:=MS (pT m) done;have hdn:done.length<=(dP (BN m)).length:=by rw [iH]; simp
  have hil:(wD m c c.length).length<=20:=by rw [pS]; omega
  have lT:(pT m c).length=20:=by unfold pT akd; rw [List.length_append,List.length_replicate]; omega
  refine ⟨λ o w'=>St w bD [fq o (IT (pT m) (done++[c])).1,JN b10 20 (IT (pT m) (done++[c])).2,bJ jB c] w',?_,?_⟩
  ·refine eW agj (C74 _ m c _ _ (LR.ext hs.aE) hk hb (hs.p2).gg (by omega)) ?_;rintro v24 _ hh;obtain ⟨mT,o24,hi,rfl,cL⟩:=hh.resolve_left (λ h=>by rw [hco.2.1] at h; cases h.1);obtain rfl:mT=(wD m c c.length):=Option.some.inj (hi.symm.trans hco.2.1);have hs:=hs.made cL;refine aR rfl (aR rfl (aN hs VR (λ aqf _ hs=>Oi Kp (Hc hs ei (hs.p1).gg hil (by simp; omega) (λ _ hs=>have hs:=hs.enc (cs':=(pT m c).map (Value.int .i64)) (by exact adf (n:=20) hil);vx ZS hs.hb (by rw [List.length_map]; exact lT) (Xt hs.p3 Tryz.underlying188 Kp La lT ?_))))))
   first | refine zL ?_ | refine bH ?_
   refine aC (λ HG=>?_) (λ HG=>?_)
   ·refine vx ZS hs.hb (by rw [List.length_map]; exact lT) (Xu hs.p3 Tryz.underlying188 Kp lT HG (λ _ hs=>dA Fx hs (C71 _ _ _ (hs.p4).gg (by omega)) (λ x38 _ cL hs=>?_)));obtain ⟨Ub,rfl⟩:=(hs).eT;have hs:=hs.freeze.fC (Ψ:=λ w=>Deep.dr w Ub ((c))) (λ _ h=>DL.jS h);refine gu (s:=Ub) (x:=(c)) hs Lh (by decide) (λ ajn _ hs=>have hs:=hs.p4;gv hs Lh (by simp; omega) (by decide) (λ s_x40 _ hs=>?_));have hs:=((hs.p2.drop.p2.drop.p2).p2).p2;rw [HT,if_neg (by simpa using HG)];exact hs
   have hs:=(((((hs.drop)).drop).p2).p2).p2;rw [HT,if_pos (by simpa using HG)];exact hs
  rintro mL _ hs _;refine eW ago (C107 _ m c _ _ (LR.ext hs.aE) hk hb (hs.p2).gg (by omega) hco.2.2) ?_;rintro v_x18 _ aek
  rcases aek with ⟨hn,rfl,he⟩ | ⟨c2,o18,hn,rfl,cL⟩
  ·have hs:=hs.ext he;refine aR rfl (aR rfl ?_);rw [HU iH] at hn;have hs:=(hs.p2.drop.p1).p1;obtain rfl:rest=[]:=by simpa using hn
   exact ⟨_,by simp,done++[c],[],by rw [iH]; simp,rfl,rfl,(YZ.nil hs).p2.p2⟩
  have hs:=hs.made cL;refine aR rfl (aR rfl ?_);rw [HU iH] at hn;have hs:=(hs.p3.drop.p2).p2;obtain ⟨r2,rfl⟩:∃ r,rest=c2::r:=by cases rest with | nil=>cases hn | cons y r=>exact ⟨r,by simp at hn; rw [hn]⟩
  exact ⟨_,by simp,done++[c],c2::r2,by rw [iH]; simp,rfl,rfl,hs⟩
 have hs:=((hs.p1.drop).p1).drop;obtain rfl:rest=[]:=by cases rest with | nil=>rfl | cons c r=>cases Ua
 rw [List.append_nil] at iH;unfold yz;rw [iH];exact hs.fresh
def Y0:List Int->Int->Int
 | [],n=>n
 | c::cs,n=>Y0 cs (Bt (Bt (n * 10000)+c))
def wG (l:List Int) (k:Nat):Int:=Y0 (l.take k) 0
theorem CX:∀ (l:List Int) (c n:Int),Y0 (l++[c]) n=Bt (Bt (Y0 l n * 10000)+c)
 | [],_,_=>rfl
 | x::l,c,n=>CX l c _
theorem Kq {l:List Int} {k:Nat} {c:Int} (h:l[k]? = some c):wG l (k+1)=Bt (Bt (wG l k * 10000)+c):=by
 unfold wG; rw [List.take_add_one,h]; exact CX _ _ _
def ru (p q:ef):Bool:=decide (q.kind=p.kind) && decide (q.t=p.t) && decide (q.i=p.i) && decide (p.cut.length=0)
def pk3 (s:SV):dT:=⟨3,0,0,s⟩
theorem Y3 {w:World} {ss:List SV} {cs:List (List Int)} (h:jR ss cs w):jR (ss.map pk3) (cs.map λ c=>(⟨3,0,0,c⟩:ef)) w:=by
 refine ⟨by simp [h.1],λ i t x a b=>?_⟩
 rw [List.getElem?_map] at a b
 cases hs:ss[i]? with
 | none=>rw [hs] at a; cases a
 | some s=>
  cases hc:cs[i]? with
  | none=>rw [hc] at b; cases b
  | some c=>
   rw [hs] at a; rw [hc] at b
   simp at a b; subst a b
   exact ⟨s,rfl,h.2 i s c hs hc⟩
theorem C75 (sv fv:Value) (xs:List ef) (φ:ef->Prop) (g:ef->Bool) (w:World) (hL:DL w sv xs) (hf:oD Tryz.prog w fv φ g) (hφ:∀ x∈xs,φ x) (hn:xs.length<=1073741824):CR 75 [sv,fv] w (λ v w'=>v = .int .i64 (pE g xs)/\Ext w w'):=by
 obtain ⟨g0,first,cap,rfl,lT,gD⟩:=hf;have hs:=St.start w;refine tN Tryz.func75 ?_;obtain ⟨akg,abe,abf⟩:=(hL).open;have hn127:=abf.1;refine aG lV (abe.ext hs.aE) ?_;refine ⟨λ m x w1=>∃ k:Nat,x = .int .i64 (k:Int)/\m=xs.length - k/\k<=xs.length/\(∀ y∈xs.take k,g y=false)/\St w bD [] w1,⟨_,0,rfl,rfl,Nat.zero_le _,by simp,hs⟩,?_⟩;rintro m _ w1 ⟨k,rfl,rfl,hk,eA,hs⟩ _;refine aS (aC (λ qA=>?_) (λ _=>⟨congrArg (Value.int .i64) (gB (by rw [List.take_of_length_le (by omega)] at eA; exact eA)).symm,hs.aE⟩));obtain ⟨jM,dG⟩:=gx akg (i:=((k:Int)).toNat) (by omega);obtain ⟨uA,gm⟩:=gx (xs) (i:=((k:Int)).toNat) (by omega)
 obtain ⟨OI,rfl,OJ⟩:=abf.2 _ _ _ dG gm;refine aU lV abe (by omega) dG (λ _ gS=>aF qt (gS.ext hs.aE) (ft lT (gD _ uA w1 hs.aE ⟨OI,rfl,(OJ.ext hs.aE)⟩ (hφ _ (List.mem_of_getElem? gm))) ?_));rintro _ _ ⟨rfl,he⟩;have hs:=hs.ext he;exact bI (λ dJ=>⟨congrArg (Value.int .i64) (jE eA gm dJ).symm,hs.aE⟩) (λ dJ=>aT (by omega) ⟨_,by omega,k+1,rfl,rfl,by omega,fi eA gm dJ,hs⟩)
theorem C34 (sv fv:Value) (xs:List ef) (φ:ef->Prop) (g:ef->Bool) (w:World) (hL:DL w sv xs) (hf:oD Tryz.prog w fv φ g) (hφ:∀ x∈xs,φ x) (hn:xs.length<=1073741824):CR 34 [sv,fv] w (λ v w'=>v = .bool (xs.any g)/\Ext w w'):=by
 have hs:=St.start w;refine tN Tryz.func34 ?_;exact bO anc hs (C75 _ _ _ _ _ _ (hL.ext hs.aE) (hf.ext hs.aE) hφ (by omega)) (λ _ _ hs=>dO ⟨vb (iK _ _),hs.aE⟩)
def kQ (m:Mem) (c:Int):Int:=if Kn m c=true then m.l.getD c.toNat 0 else 0
theorem abg (p:Nat) (m:Mem) (c:Int) (w:World) (hm:rE w p m) (hk:wS m):CR 140 [.pointer (some ⟨p,0,none⟩),.int .i64 c] w (λ v w'=>v = .tuple #[.int .i64 (kQ m c),.int .i64 (if Kn m c=true then 0 else 1)]/\Ext w w'):=C140 p m c w hm hk
theorem tG (m:Mem) (c n:Int):(fN m c n).of=m.of:=by unfold fN; split <;> rfl
theorem pf (m:Mem) (c n:Int):(fN m c n).fM=m.fM:=by unfold fN; split <;> rfl
theorem MT (m:Mem) (c:Int):(pa m c).of=m.of:=by unfold pa; split <;> rfl
theorem yA (m:Mem) (c:Int):(pa m c).fM=m.fM:=by unfold pa; split <;> rfl
theorem wC.write {ov fv:Value} {m:Mem} {w:World} {c n:Int} (h:wC ov fv m w):wC ov fv (fN m c n) w:=by unfold wC; rw [tG,pf]; exact h
theorem wC.out {ov fv:Value} {m:Mem} {w:World} {c:Int} (h:wC ov fv m w):wC ov fv (pa m c) w:=by unfold wC; rw [MT,yA]; exact h
def jA (m:Mem) (x:aV):Mem:=if x.kind=3 then fN m x.cell x.n else if x.kind=7 then m else pa m x.line
def A9 (t:Int) (x:aV):dC:=if x.kind=3 then ⟨12,t,x.cell,x.n,0⟩ else if x.kind=7 then ⟨14,t,0,0,0⟩ else ⟨13,t,x.line,0,0⟩
end Go.Proofs.YtfkgkbhbdffckaaGreatDoor
namespace Go.Fw
def jW (F:Nat->Prop) (w0 w':World):Prop:=∀ b,F b->w'.heap[b]? = w0.heap[b]?
section
variable {α σ:Type} [Flat σ] [D:Deep α σ] {w w0:World} {A F:Nat->Prop} {L:List HP} {v:Value} {xs:List α} {ts us:List σ}
theorem St.MU {Φ:World->Prop} (hs:St w0 A (Fw.e9 Φ::L) w):∃ F,St w0 A (Fw.e9 (jW F w)::L) w/\∀ w',jW F w w'->Φ w':=by
 obtain ⟨U,F,U',g1,g2,g3,g4,g5⟩:=hs.oO
 exact ⟨F,⟨hs.aE,U,F,U',⟨λ w' h=>h,g1.2⟩,g2,g3,g4,g5⟩,λ w' h=>g1.1 w' h⟩
theorem jW.refl (F:Nat->Prop) (w:World):jW F w w:=λ _ _=>rfl
theorem HV (inj:∀ x y:σ,Flat.enc x=Flat.enc y->x=y):∀ {ts us:List σ},ts.length=us.length->flat ts=flat us->ts=us
 | [],[],_,_=>rfl
 | t::ts,u::us,hl,h=>by
  rw [gP,gP] at h
  have:=List.append_inj h (by rw [Flat.len,Flat.len])
  rw [inj _ _ this.1,HV inj (by simpa using hl) this.2]
 | [],_::_,hl,_=>by simp at hl
 | _::_,[],hl,_=>by simp at hl
theorem dx.func {S S':Nat->Prop} (inj:∀ x y:σ,Flat.enc x=Flat.enc y->x=y) (h:dx S w v ts) (h':dx S' w v us):ts=us:=by
 obtain ⟨a,cap,rfl,hc,h3⟩:=h
 obtain ⟨a',BC,hv,Cv,h3'⟩:=h'
 simp only [Value.slice.injEq] at hv
 obtain ⟨rfl,hl,rfl⟩:=hv
 refine HV inj hl (List.ext_getElem? λ j=>?_)
 have KY:(flat ts).length=(flat us).length:=by rw [bZ,bZ,hl]
 by_cases hj:j<(flat ts).length
 ·have hj':j<(flat us).length:=by omega
  rcases h3 with ⟨rfl,_⟩ | ⟨b,o,rfl,_,h5⟩
  ·simp [gQ] at hj
  rcases h3' with ⟨rfl,_⟩ | ⟨b',o',ha,_,h5'⟩
  ·simp [gQ] at hj'
  simp only [Option.some.injEq,Addr.mk.injEq,and_true] at ha
  obtain ⟨rfl,rfl⟩:=ha
  have c1:=h5 j _ (List.getElem?_eq_getElem hj)
  have c2:=h5' j _ (List.getElem?_eq_getElem hj')
  unfold Cell at c1 c2
  rw [List.getElem?_eq_getElem hj,List.getElem?_eq_getElem hj']
  exact c1.symm.trans c2
 rw [List.getElem?_eq_none (by omega),List.getElem?_eq_none (by omega)]
theorem jW.rd (h:∀ w',jW F w w'->DL w' v xs) (hr:dx (λ _=>True) w v ts) (hn:ts.length=xs.length):∀ w',jW F w w'->dx (λ _=>True) w' v ts:=by
 intro w' hw
 have Qd:=hr
 obtain ⟨a,cap,rfl,hc,h3⟩:=hr
 rcases h3 with ⟨h3,h4⟩ | ⟨b,o,rfl,h4,h5⟩
 ·exact ⟨a,cap,rfl,hc,.inl ⟨h3,h4⟩⟩
 cases ts with
 | nil=>exact ⟨_,cap,rfl,hc,.inr ⟨b,o,rfl,λ h=>absurd rfl h,λ j c hj=>by simp [gQ] at hj⟩⟩
 | cons t ts=>
  by_cases hF:F b
  ·exact ⟨_,cap,rfl,hc,.inr ⟨b,o,rfl,λ _=>trivial,λ j c hj=>(h5 j c hj).of_eq (hw b hF)⟩⟩
  ·exfalso
   have h6:DL (ChangeMaps.setBlock w b (.map #[] 0)) (.slice (some ⟨b,o,none⟩) (t::ts).length cap) xs:=h _ λ b' oE=>by
    simp only [ChangeMaps.setBlock]; exact Array.getElem?_setIfInBounds_ne (λ e=>hF (by rw [e]; exact oE))
   obtain ⟨us,⟨a',BC,hv,_,h7⟩,hul,_⟩:=h6
   simp only [Value.slice.injEq] at hv
   obtain ⟨rfl,hl,rfl⟩:=hv
   have uJ:0<(flat us).length:=by rw [bZ,<- hl]; exact Nat.mul_pos (by simp) (Flat.pos (α:=σ))
   rcases h7 with ⟨rfl,_⟩ | ⟨b',o',ha,_,h8⟩
   ·simp at hl
   ·simp only [Option.some.injEq,Addr.mk.injEq,and_true] at ha
    obtain ⟨rfl,rfl⟩:=ha
    have ug:=h8 0 _ (List.getElem?_eq_getElem uJ)
    have hb:=(h5 0 _ (List.getElem?_eq_getElem (by rw [bZ]; exact Nat.mul_pos (by simp) (Flat.pos (α:=σ))))).lt
    unfold Cell World.cell? at ug
    dsimp only at ug
    rw [gV _ hb] at ug
    simp at ug
theorem jW.fix (inj:∀ x y:σ,Flat.enc x=Flat.enc y->x=y) (h:∀ w',jW F w w'->DL w' v xs):∃ ts:List σ,ts.length=xs.length/\∀ w',jW F w w'->dx (λ _=>True) w' v ts/\jR ts xs w':=by
 obtain ⟨ts,hr,hd⟩:=(h w (jW.refl F w)).open
 refine ⟨ts,hd.1,λ w' hw=>?_⟩
 have h1:=jW.rd h hr hd.1 w' hw
 obtain ⟨us,Fa,hd'⟩:=(h w' hw).open
 rw [dx.func inj h1 Fa] at *
 exact ⟨Fa,hd'⟩
end
end Go.Fw
namespace Go.Proofs.YtfkgkbhbdffckaaGreatDoor
open Go.Fw
abbrev PD:=List (Bk × Bool)
def gW (b:Bk) (e:Bool) (p:PD):PD:=match b with
 | .nil=>p
 | .cons x c d r=>(.cons x c d r,e)::p
def fV:PD->PD
 | (.cons _ _ _ r,_)::p=>gW r false p
 | (.nil,_)::p=>p
 | []=>[]
def l6:PD->Option (aX × Bk × Bk)
 | (.cons x a b _,_)::_=>some (x,a,b)
 | _=>none
def kD (x:aX) (a:Bk) (p:PD):PD:=if x.n=0 then fV p else gW a false ((.cons {x with n:=x.n - 1} a .nil .nil,true)::fV p)
def ij:PD->PD
 | []=>[]
 | (_,e)::p=>if e=true then p else ij p
structure iC where
 names:List ByteArray
 cW:List Int
 aY:PD
 fault:Int
 buf:List aV
def dZ (t:iC) (l:List bL):Int × Bool:=if l.length=0 then (0,true) else ((wq t.names t.cW l).1,decide ((wq t.names t.cW l).2=0))
def pg (t:iC) (s:ByteArray) (n:Int):iC:={t with cW:=t.cW.set (cI t.names s).toNat n}
def kT (t:iC) (x:aX) (a b:Bk) (n:Int):iC × Bool:=
 if x.kind=1 then ({pg t x.eB n with aY:=fV t.aY},true)
 else if x.kind=11 then ({t with aY:=gW (if n=0 then b else a) false (fV t.aY)},true)
 else if x.kind=12 then ({t with aY:=kD x a t.aY},true)
 else if x.kind=13 then ({t with aY:=ij t.aY},true)
 else if x.kind=14 then (if n=0 then ({t with fault:=1},false) else ({t with aY:=fV t.aY},true))
 else (t,false)
def lP (t:iC):iC × Bool:=match l6 t.aY with
 | none=>(t,false)
 | some (x,a,b)=>if (dZ t x.e).2=true/\(dZ t x.f).2=true then kT t x a b (dZ t x.e).1 else ({t with fault:=2},false)
def ou:Nat->iC->Option iC
 | 0,_=>none
 | n+1,t=>if (lP t).2=true then ou n (lP t).1 else some (lP t).1
def fF:Bk->Nat
 | .nil=>0
 | .cons x a b r=>(if x.kind=12 then x.n.toNat * (fF a+1) else fF a+fF b)+fF r+1
def eY (p:PD):Nat:=(p.map λ q=>fF q.1).sum
theorem kF (q:Bk × Bool) (p:PD):eY (q::p)=fF q.1+eY p:=by simp [eY]
def mS (φ:aX->Prop):Bk->Prop
 | .nil=>True
 | .cons x a b r=>φ x/\mS φ a/\mS φ b/\mS φ r
theorem CY {φ:aX->Prop}:∀ t:Bk,mS φ t↔∀ x∈t.flat,φ x:=by
 intro t
 induction t with
 | nil=>simp [mS,Bk.flat]
 | cons x a b r sm sn IK=>
  simp only [mS,Bk.flat,sm,sn,IK,List.mem_cons,List.mem_append]
  grind
structure CZ (φ:aX->Prop) (p:PD):Prop where
 ne:∀ q∈p,q.1≠.nil
 st:∀ q∈p,q.1.str
 al:∀ q∈p,mS φ q.1
section
variable {φ:aX->Prop} {p:PD} {b:Bk} {e:Bool}
theorem CZ.tail {q:Bk × Bool} (h:CZ φ (q::p)):CZ φ p:=⟨λ q hq=>h.ne q (List.mem_cons_of_mem _ hq),λ q hq=>h.st q (List.mem_cons_of_mem _ hq),λ q hq=>h.al q (List.mem_cons_of_mem _ hq)⟩
theorem CZ.push (h:CZ φ p) (hs:b.str) (ha:mS φ b):CZ φ (gW b e p):=by
 cases b with
 | nil=>exact h
 | cons x c d r=>
  refine ⟨?_,?_,?_⟩ <;> intro q hq <;> rcases List.mem_cons.1 hq with rfl | hq
  ·intro hh; cases hh
  ·exact h.ne q hq
  ·exact hs
  ·exact h.st q hq
  ·exact ha
  ·exact h.al q hq
theorem CZ.pop (h:CZ φ p):CZ φ (fV p):=by
 match p,h with
 | [],h=>exact h
 | (.nil,_)::p,h=>exact h.tail
 | (.cons x a b r,_)::p,h=>
  have hs:=h.st _ (List.mem_cons_self ..)
  have ha:=h.al _ (List.mem_cons_self ..)
  exact h.tail.push hs.2.2.2.2.2.2 ha.2.2.2
theorem CZ.leave:∀ {p:PD},CZ φ p->CZ φ (ij p)
 | [],h=>h
 | (_,e)::p,h=>by
  unfold ij; split
  ·exact h.tail
  ·exact h.tail.leave
theorem OM {x:aX} {a b:Bk} (h:l6 p=some (x,a,b)):∃ r e p',p=(.cons x a b r,e)::p':=by
 match p,h with
 | (.cons y c d r,e)::p',h=>cases h; exact ⟨r,e,p',rfl⟩
theorem oa:eY (gW b e p)=fF b+eY p:=by
 cases b with
 | nil=>simp [gW,fF]
 | cons x c d r=>exact kF _ _
theorem HW:∀ p:PD,eY (ij p)<=eY p
 | []=>Nat.le_refl _
 | (b,e)::p=>by
  have:=HW p
  unfold ij
  rw [kF]
  split <;> omega
theorem ON (h:b≠.nil):1<=fF b:=by
 cases b with
 | nil=>exact absurd rfl h
 | cons x c d r=>unfold fF; omega
theorem zA (h:CZ φ p):p.length<=eY p:=by
 induction p with
 | nil=>simp
 | cons q p ih=>
  have:=ON (h.ne q (List.mem_cons_self ..))
  have:=ih h.tail
  rw [kF,List.length_cons]; omega
theorem qT {x:aX} {a b r:Bk}:fF (.cons x a b r)=(if x.kind=12 then x.n.toNat * (fF a+1) else fF a+fF b)+fF r+1:=rfl
theorem Ks {x:aX} {a b r:Bk} {p':PD} (h:p=(.cons x a b r,e)::p'):eY (fV p)+1<=eY p:=by
 subst h
 show eY (gW r false p')+1<=_
 rw [oa,kF,qT]; omega
end
structure ph (φ:aX->Prop) (t:iC):Prop where
 p:CZ φ t.aY
 rl:t.cW.length=t.names.length
 nb:t.names.length<=1000
 bl:t.buf.length<=1000
 cl:eY t.aY<=10000
structure StD (cs ls ns:List ByteArray) (x:aX):Prop where
 k:1<=x.kind/\x.kind<=14
 e:x.e.length<=1000/\x.f.length<=1000
 n:x.kind=12->0<=x.n/\x.n<=1000
 el:¬ x.kind=11->x.eG<=0
 rg:x.kind=1\/x.kind=2\/x.kind=4->0<=cI ns x.eB
 cl:x.kind=2\/x.kind=3\/x.kind=4->0<=cI cs x.name
 lk:x.kind=9\/x.kind=10->0<=cI ls x.name
abbrev wH (cs ls:List ByteArray) (t:iC):Prop:=ph (StD cs ls t.names) t
section
variable {φ:aX->Prop} {cs ls:List ByteArray} {t t' tR:iC} {x:aX} {a b:Bk} {n:Int} {k:Nat}
theorem ph.aY {p:PD} (h:ph φ t) (hp:CZ φ p) (hc:eY p<=eY t.aY):ph φ {t with aY:=p}:=⟨hp,h.rl,h.nb,h.bl,Nat.le_trans hc h.cl⟩
theorem ph.flt (h:ph φ t) (n:Int):ph φ {t with fault:=n}:=⟨h.p,h.rl,h.nb,h.bl,h.cl⟩
theorem ph.set (h:ph φ t) (s:ByteArray) (n:Int):ph φ (pg t s n):=⟨h.p,by simp [pg,h.rl],h.nb,h.bl,h.cl⟩
theorem ph.top (h:ph φ t) (ht:l6 t.aY=some (x,a,b)):φ x/\a.str/\b.str/\mS φ a/\mS φ b/\x.body=a.len/\x.eG=b.len/\a.len<=40/\∃ r e p,t.aY=(.cons x a b r,e)::p/\r.str/\mS φ r:=by
 obtain ⟨r,e,p,hp⟩:=OM ht
 have h1:=h.p
 rw [hp] at h1
 obtain ⟨g1,g2,g3,g4,g5,g6,g7⟩:=h1.st _ (List.mem_cons_self ..)
 obtain ⟨k1,k2,k3,k4⟩:=h1.al _ (List.mem_cons_self ..)
 exact ⟨k1,g5,g6,k2,k3,g1,g2,g3,r,e,p,hp,g7,k4⟩
theorem Y4 (h:wH cs ls t) (ht:l6 t.aY=some (x,a,b)):wH cs ls (kT t x a b n).1/\(kT t x a b n).1.names=t.names/\((kT t x a b n).2=true->eY (kT t x a b n).1.aY+1<=eY t.aY):=by
 obtain ⟨hx,sa,sb,aa,ab,hb,he,hal,r,e,p,hp,sr,ar⟩:=h.top ht
 have Ku:=h.p.pop
 have eU:=Ks (r:=r) hp
 have hcp:eY t.aY=fF (.cons x a b r)+eY p:=by rw [hp,kF]
 have hpp:fV t.aY=gW r false p:=by rw [hp]; rfl
 have cpp:eY (fV t.aY)=fF r+eY p:=by rw [hpp,oa]
 rw [qT] at hcp
 unfold kT
 split
 ·exact ⟨(h.set x.eB n).aY Ku (by show eY (fV t.aY)<=eY t.aY; omega),rfl,λ _=>eU⟩
 split
 ·rename_i RA
  rw [if_neg (by omega)] at hcp
  have hc:eY (gW (if n=0 then b else a) false (fV t.aY))+1<=eY t.aY:=by rw [oa]; split <;> omega
  refine ⟨h.aY (CZ.push Ku ?_ ?_) (by omega),rfl,λ _=>hc⟩ <;> split <;> assumption
 split
 ·rename_i RA
  rw [if_pos RA] at hcp
  have Xh:=hx.n RA
  have IH:=hx.el (by omega)
  unfold kD
  split
  ·exact ⟨h.aY Ku (by omega),rfl,λ _=>eU⟩
  rename_i hn0
  have hco:eY (gW a false ((.cons {x with n:=x.n - 1} a .nil .nil,true)::fV t.aY))+1<=eY t.aY:=by
   rw [oa,kF,qT,if_pos (by exact RA),hcp,cpp]
   have e:x.n.toNat=(x.n - 1).toNat+1:=by omega
   rw [e,Nat.succ_mul]
   show fF a+((x.n - 1).toNat * (fF a+1)+fF .nil+1+_)+1<=_
   simp only [fF]; omega
  refine ⟨h.aY (CZ.push ⟨?_,?_,?_⟩ sa aa) (by omega),rfl,λ _=>hco⟩ <;> intro q hq <;> rcases List.mem_cons.1 hq with rfl | hq
  ·intro hh; cases hh
  ·exact Ku.ne q hq
  ·exact ⟨hb,by show x.eG=((0:Nat):Int); omega,hal,Nat.zero_le _,sa,trivial,trivial⟩
  ·exact Ku.st q hq
  ·exact ⟨⟨hx.k,hx.e,λ hk=>⟨by have:=hx.n hk; show 0<=x.n - 1; omega,by have:=hx.n hk; show x.n - 1<=1000; omega⟩,hx.el,hx.rg,hx.cl,hx.lk⟩,aa,trivial,trivial⟩
  exact Ku.al q hq
 split
 ·have hl:eY (ij t.aY)+1<=eY t.aY:=by
   rw [hcp,hp]; unfold ij
   have:=HW p
   split <;> omega
  exact ⟨h.aY h.p.leave (by omega),rfl,λ _=>hl⟩
 split
 ·split
  ·exact ⟨h.flt 1,rfl,λ hh=>by cases hh⟩
  exact ⟨h.aY Ku (by omega),rfl,λ _=>eU⟩
 exact ⟨h,rfl,λ hh=>by cases hh⟩
theorem EV (h:wH cs ls t):wH cs ls (lP t).1/\(lP t).1.names=t.names/\((lP t).2=true->eY (lP t).1.aY+1<=eY t.aY):=by
 unfold lP
 cases ht:l6 t.aY with
 | none=>exact ⟨h,rfl,λ hh=>by cases hh⟩
 | some q=>
  obtain ⟨x,a,b⟩:=q
  dsimp only
  split
  ·exact Y4 h ht
  ·exact ⟨h.flt 2,rfl,λ hh=>by cases hh⟩
theorem C0:∀ (n:Nat) {t:iC},wH cs ls t->eY t.aY<n->∃ tR,ou n t=some tR/\wH cs ls tR/\tR.names=t.names
 | 0,_,_,hc=>by omega
 | n+1,t,h,hc=>by
  obtain ⟨h1,h2,h3⟩:=EV h
  unfold ou
  split
  ·rename_i hs
   have:=h3 hs
   have h4:wH cs ls (lP t).1:=by have:=h1; rw [wH,h2] at this |-; exact this
   obtain ⟨tR,g1,g2,g3⟩:=C0 n h4 (by omega)
   exact ⟨tR,g1,g2,g3.trans h2⟩
  ·exact ⟨_,rfl,by have:=h1; rw [wH,h2] at this |-; exact this,h2⟩
def Py (t:iC):iC:=(ou (eY t.aY+1) t).getD t
theorem pU (h:wH cs ls t):ou (eY t.aY+1) t=some (Py t)/\wH cs ls (Py t)/\(Py t).names=t.names:=by
 obtain ⟨tR,g1,g2,g3⟩:=C0 (eY t.aY+1) h (Nat.lt_succ_self _)
 unfold Py
 rw [g1]
 exact ⟨rfl,g2,g3⟩
theorem OO {n:Nat} (h:ou n t=some tR):∃ k,n=k+1:=by
 cases n with
 | zero=>cases h
 | succ k=>exact ⟨k,rfl⟩
theorem Y5 (h:ou (k+1) t=some tR) (hs:lP t=(t',true)):ou k t'=some tR:=by
 unfold ou at h; rw [hs] at h; exact h
theorem sK (h:ou (k+1) t=some tR) (hs:lP t=(t',false)):tR=t':=by
 unfold ou at h; rw [hs] at h; exact (Option.some.inj h).symm
theorem MV:∀ (n:Nat) {t tR:iC},ou n t=some tR->wH cs ls t->tR.fault=0->∀ x a b,l6 tR.aY=some (x,a,b)->(2<=x.kind/\x.kind<=10)/\(dZ tR x.e).2=true/\(dZ tR x.f).2=true
 | 0,_,_,hg,_,_,_,_,_,_=>by cases hg
 | n+1,t,tR,hg,h,hf,x,a,b,ht=>by
  obtain ⟨h1,h2,_⟩:=EV h
  unfold ou at hg
  split at hg
  ·exact MV n hg (by have:=h1; rw [wH,h2] at this |-; exact this) hf x a b ht
  ·rename_i hs
   cases hg
   have hb:(lP t).2=false:=by simpa using hs
   unfold lP at hb hf ht
   cases hq:l6 t.aY with
   | none=>rw [hq] at ht; dsimp only at ht; rw [hq] at ht; cases ht
   | some q=>
    obtain ⟨y,c,d⟩:=q
    rw [hq] at hb hf ht
    dsimp only at hb hf ht
    have hk:=(h.top hq).1.k
    split at hb
    ·rename_i hv
     rw [if_pos hv] at hf ht
     unfold kT at hb hf ht
     split at hb
     ·cases hb
     rename_i k1
     rw [if_neg k1] at hf ht
     split at hb
     ·cases hb
     rename_i k2
     rw [if_neg k2] at hf ht
     split at hb
     ·cases hb
     rename_i k3
     rw [if_neg k3] at hf ht
     split at hb
     ·cases hb
     rename_i k4
     rw [if_neg k4] at hf ht
     split at hb
     ·rename_i k5
      rw [if_pos k5] at hf
      split at hb
      ·rename_i k6; rw [if_pos k6] at hf; cases hf
      ·cases hb
     ·rename_i k5
      rw [if_neg k5] at ht
      rw [hq] at ht; cases ht
      have e:(lP t).1=t:=by unfold lP; rw [hq]; dsimp only; rw [if_pos hv]; unfold kT; rw [if_neg k1,if_neg k2,if_neg k3,if_neg k4,if_neg k5]
      rw [e]
      exact ⟨by omega,hv⟩
    ·rename_i hv
     rw [if_neg hv] at hf; cases hf
section
variable {e:Int}
theorem ael (h:x.kind=1):kT t x a b e=({pg t x.eB e with aY:=fV t.aY},true):=by unfold kT; rw [if_pos h]
theorem Y6 (h:x.kind=11):kT t x a b e=({t with aY:=gW (if e=0 then b else a) false (fV t.aY)},true):=by unfold kT; simp [h]
theorem Y7 (h:x.kind=12):kT t x a b e=({t with aY:=kD x a t.aY},true):=by unfold kT; simp [h]
theorem Y8 (h:x.kind=13):kT t x a b e=({t with aY:=ij t.aY},true):=by unfold kT; simp [h]
theorem Uc (h:x.kind=14) (he:e=0):kT t x a b e=({t with fault:=1},false):=by unfold kT; simp [h,he]
theorem Ud (h:x.kind=14) (he:¬ e=0):kT t x a b e=({t with aY:=fV t.aY},true):=by unfold kT; simp [h,he]
theorem Y9 (h1:¬ x.kind=1) (h2:¬ x.kind=11) (h3:¬ x.kind=12) (h4:¬ x.kind=13) (h5:¬ x.kind=14):kT t x a b e=(t,false):=by unfold kT; rw [if_neg h1,if_neg h2,if_neg h3,if_neg h4,if_neg h5]
end
theorem aem (h:l6 t.aY=none):lP t=(t,false):=by unfold lP; rw [h]
theorem aen (h:l6 t.aY=some (x,a,b)) (h2:(dZ t x.e).2=false):lP t=({t with fault:=2},false):=by unfold lP; rw [h]; dsimp only; rw [if_neg (by rw [h2]; simp)]
theorem aeo (h:l6 t.aY=some (x,a,b)) (h3:(dZ t x.f).2=false):lP t=({t with fault:=2},false):=by unfold lP; rw [h]; dsimp only; rw [if_neg (by rw [h3]; simp)]
theorem aep (h:l6 t.aY=some (x,a,b)) (h2:(dZ t x.e).2=true) (h3:(dZ t x.f).2=true):lP t=kT t x a b (dZ t x.e).1:=by unfold lP; rw [h]; dsimp only; rw [if_pos ⟨h2,h3⟩]
end
theorem Kv (a0:Option Addr) (n0 c0:Nat) (a1:Bool):pr Tryz.prog (Instr.build 183 [(0,.slice a0 n0 c0),(1,.bool a1)].toArray)=some (.agg [.slice a0 n0 c0,.bool a1].toArray):=by kernel_rfl
structure sL where
 l:SV
 EW:Bool
instance:Flat sL where
 agg:=true
 sz:=2
 enc e:=[.slice e.l.a e.l.n e.l.cap,.bool e.EW]
 val e:=.agg [.slice e.l.a e.l.n e.l.cap,.bool e.EW].toArray
 pos:=by decide
 len _:=rfl
 one a v h:=by simp at h; rcases h with rfl | rfl <;> rfl
 mo _ _:=rfl
 mM h:=by cases h
variable (w:World) (K:Value->World->Prop)
def S72 (t0 l1 pW:Value):Prop:=
 lN 27 l1 λ a=>bB .gtr 3 a (i 0) λ b=>cV b (nC t0 λ c=>fA 97 c 3 λ d=>lA 95 d w λ e=>cU Tryz.prog (Instr.build 183 [(0,l1),(1,pW)].toArray) λ f=>bS 95 1 [(0,f)] w λ g h=>
 aP 95 e g h λ j k=>nC t0 λ l=>fA 97 l 3 λ n=>sA 95 n j k λ o=>K (.tuple #[]) o) (K (.tuple #[]) w)
theorem aeq (t0 l1 pW:Value) (h:S72 w K t0 l1 pW):CR 72 [t0,l1,pW] w K:=
 eN 21 (λ _=>.nil) 0 [] Tryz.func72 h
def S80 (t0:Value):Prop:=
 aL 24 w λ a b=>nC t0 λ c=>fA 97 c 3 λ d=>lA 95 d b λ e=>lN 95 e λ f=>bB .eql 3 f (i 0) λ g=>cV g (cU Tryz.prog (Instr.build 24 [].toArray) λ h=>sA 24 a h b λ j=>
 lA 24 a j λ r=>K (.tuple #[r,(.slice none 0 0),(.slice none 0 0),ff]) j) (nC t0 λ k=>fA 97 k 3 λ l=>lA 95 l (drew b) λ n=>nC t0 λ o=>fA 97 o 3 λ p=>lA 95 p (drew b) λ q=>
 lN 95 q λ s=>bB .sub 3 s (i 1) λ t=>iA 95 n t λ u=>fA 183 u 0 λ v=>lA 27 v (drew b) λ x=>iA 27 x (i 0) λ y=>lA 24 y (drew b) λ z=>aL 24 (drew b) λ aa ab=>sA 24 aa z ab λ ac=>
 fA 24 aa 6 λ ad=>lA 3 ad ac λ ae=>bC .add 3 (i 1) ae λ af=>fA 24 aa 7 λ ag=>lA 3 ag ac λ ah=>bA .add 3 af ah λ ai=>lA 24 aa (drew ac) λ aj=>cU Tryz.prog (Instr.sliceAt 27 x (some (i 1)) (some af) (some af)) λ ak=>
 cU Tryz.prog (Instr.sliceAt 27 x (some af) (some ai) (some ai)) λ al=>sA 24 a aj (drew ac) λ am=>lA 24 a am λ Fv=>K (.tuple #[Fv,ak,al,tt]) am)
def P80:eh:=λ i=>match i with
 | 3=>.run 0 14
 | 7=>.run 0 14
 | _=>.nil
theorem aer (t0:Value) (h:S80 w K t0):CR 80 [t0] w K:=
 eN 50 P80 60 [.cell 2 24,.tmp 3,.tmp 4,.tmp 5] Tryz.func80 h
def S86 (t0:Value):Prop:=
 nC t0 λ a=>fA 97 a 3 λ b=>lA 95 b w λ c=>lN 95 c λ d=>bB .sub 3 d (i 1) λ e=>nC t0 λ f=>fA 97 f 3 λ g=>lA 95 g w λ h=>iA 95 h e λ j=>fA 183 j 0 λ k=>
 lA 27 k w λ l=>nC t0 λ n=>fA 97 n 3 λ o=>lA 95 o w λ p=>cU Tryz.prog (Instr.sliceAt 95 p none (some e) (some e)) λ q=>nC t0 λ r=>fA 97 r 3 λ s=>sA 95 s q w λ t=>
 iA 27 l (i 0) λ u=>fA 24 u 6 λ v=>lA 3 v (drew t) λ x=>bC .add 3 (i 1) x λ y=>iA 27 l (i 0) λ z=>fA 24 z 7 λ aa=>lA 3 aa (drew t) λ ab=>bA .add 3 y ab λ ac=>
 cU Tryz.prog (Instr.sliceAt 27 l (some ac) none none) λ ad=>cF 72 [t0,ad,ff] (drew t) λ _ ae=>K (.tuple #[]) ae
def P86:eh:=λ i=>match i with
 | 3=>.run 0 14
 | _=>.nil
theorem aes (t0:Value) (h:S86 w K t0):CR 86 [t0] w K:=
 eN 42 P86 0 [] Tryz.func86 h
def S134 (t0 a HX:Value):Prop:=
 gd Tryz.prog (Instr.box 24 a) w λ b c=>cF 86 [t0] c λ _ d=>fA 24 b 5 λ e=>lA 3 e d λ f=>bB .eql 3 f (i 0) λ g=>cV g (K (.tuple #[]) d) (lA 24 b d λ h=>bS 27 1 [(0,h)] d λ j k=>
 aP 27 j HX k λ l n=>iA 27 l (i 0) λ o=>fA 24 o 5 λ p=>lA 3 p n λ q=>bB .sub 3 q (i 1) λ r=>iA 27 l (i 0) λ s=>fA 24 s 5 λ t=>sA 3 t r n λ u=>cF 72 [t0,l,tt] u λ _ v=>
 cF 72 [t0,HX,ff] v λ _ x=>K (.tuple #[]) x)
theorem Za (t0 x1 HX:Value) (h:S134 w K t0 x1 HX):CR 134 [t0,x1,HX] w K:=
 eN 29 (λ _=>.nil) 0 [] Tryz.func134 h
def S135 (t0:Value):Prop:=
 fh (λ K1 pW a=>∀ _:Env,
 cE (λ K2=>cU Tryz.prog (Op.unary .not pW) λ b=>cV b (nC t0 λ c=>fA 97 c 3 λ d=>lA 95 d a λ e=>lN 95 e λ f=>bB .gtr 3 f (i 0) λ g=>K2 g a) (K2 ff a))
 (λ h j=>∀ _:Env,
 cV h (nC t0 λ k=>fA 97 k 3 λ l=>lA 95 l j λ n=>lN 95 n λ o=>bB .sub 3 o (i 1) λ p=>nC t0 λ q=>fA 97 q 3 λ r=>lA 95 r j λ s=>iA 95 s p λ t=>fA 183 t 1 λ u=>
 lA 4 u j λ v=>nC t0 λ x=>fA 97 x 3 λ y=>lA 95 y j λ z=>cU Tryz.prog (Instr.sliceAt 95 z none (some p) (some p)) λ aa=>nC t0 λ ab=>fA 97 ab 3 λ ac=>sA 95 ac aa j λ ad=>
 K1 v ad) (K (.tuple #[]) j))) (λ K1=>K1 ff w)
theorem Zb (t0:Value) (h:S135 w K t0):CR 135 [t0] w K:=
 eN 38 (λ _=>.nil) 0 [] Tryz.func135 h
def S83 (t0 l1:Value):Prop:=
 lN 22 l1 λ a=>bB .eql 3 a (i 0) λ b=>cV b (K (.tuple #[(i 0),tt]) w) (nC t0 λ c=>fA 97 c 1 λ d=>lA 32 d (drew w) λ e=>nC t0 λ f=>fA 97 f 2 λ g=>lA 45 g (drew w) λ h=>
 cF 99 [l1,e,h] (drew w) λ j k=>xT j 0 λ l=>xT j 1 λ n=>rI (λ K1=>bB .neq 29 n (i 0) λ o=>cV o (nC t0 λ p=>fA 97 p 4 λ q=>sA 3 q (i 2) k λ r=>K1 r) (K1 k))
 (λ s=>∀ _:Env,
 bB .eql 29 n (i 0) λ t=>K (.tuple #[l,t]) s))
def P83:eh:=λ i=>match i with
 | 3=>.run 0 15
 | _=>.nil
theorem aet (t0 l1:Value) (h:S83 w K t0 l1):CR 83 [t0,l1] w K:=
 eN 32 P83 48 [.tmp 4,.tmp 5] Tryz.func83 h
def S73 (t0:Value):Prop:=
 PR (λ K1 a=>∀ _:Env,
 cF 80 [t0] a λ b c=>xT b 0 λ d=>xT b 1 λ e=>xT b 2 λ f=>xT b 3 λ g=>aL 24 c λ h j=>sA 24 h d j λ k=>cU Tryz.prog (Op.unary .not g) λ l=>cV l (K (.tuple #[]) k) (
 fA 24 h 3 λ n=>lA 22 n k λ o=>cF 83 [t0,o] k λ p q=>xT p 0 λ r=>xT p 1 λ s=>cU Tryz.prog (Op.unary .not s) λ t=>cV t (K (.tuple #[]) q) (fA 24 h 4 λ u=>lA 22 u q λ v=>
 cF 83 [t0,v] q λ x y=>xT x 0 λ _=>xT x 1 λ z=>cU Tryz.prog (Op.unary .not z) λ aa=>cV aa (K (.tuple #[]) y) (fA 24 h 0 λ ab=>lA 3 ab y λ ac=>bB .eql 3 ac (i 1) λ ad=>
 cV ad (nC t0 λ ae=>fA 97 ae 2 λ af=>lA 45 af (drew y) λ ag=>nC t0 λ ah=>fA 97 ah 1 λ ai=>lA 32 ai (drew y) λ aj=>fA 24 h 1 λ ak=>lA 9 ak (drew y) λ al=>cF 81 [aj,al] (drew y) λ am an=>
 kA 45 af ag an (iA 45 ag am λ ao=>sA 3 ao r an λ ap=>cF 86 [t0] ap λ _ aq=>K1 aq)) (bB .eql 3 ac (i 11) λ ar=>cV ar (cF 86 [t0] y λ _ asx=>cE (λ K2=>bB .eql 3 r (i 0) λ au=>
 cV au (K2 f asx) (K2 e asx)) (λ akj av=>∀ _:Env,
 cF 72 [t0,akj,ff] av λ _ aw=>K1 aw)) (bB .eql 3 ac (i 12) λ ax=>cV ax (lA 24 h y λ ay=>cF 134 [t0,ay,e] y λ _ az=>K1 az) (bB .eql 3 ac (i 13) λ a0=>cV a0 (cF 135 [t0] y λ _ a1=>
 K1 a1) (bB .eql 3 ac (i 14) λ a2=>cV a2 (bB .eql 3 r (i 0) λ a3=>cV a3 (nC t0 λ a4=>fA 97 a4 4 λ a5=>sA 3 a5 (i 1) y λ a6=>K (.tuple #[]) a6) (cF 86 [t0] y λ _ a7=>
 K1 a7)) (K (.tuple #[]) y))))))))) (λ K1=>K1 w)
def P73:eh:=λ i=>match i with
 | 8=>(.of [(0,[]),(1,[]),(2,[]),(3,[]),(4,[]),(5,[]),(6,[]),(7,[]),(8,[]),(9,[]),(11,[]),(10,[3]),(12,[]),(13,[])])
 | _=>.nil
theorem aeu (t0:Value) (h:S73 w K t0):CR 73 [t0] w K:=
 eN 83 P73 0 [] Tryz.func73 h
def S38 (t0:Value):Prop:=
 nC t0 λ a=>fA 97 a 0 λ b=>lA 74 b w λ c=>cF 87 [c] w λ d e=>lN 135 d λ f=>bB .eql 3 f (i 0) λ g=>K g e
theorem aev (t0:Value) (h:S38 w K t0):CR 38 [t0] w K:=
 eN 10 (λ _=>.nil) 4 [.tmp 2] Tryz.func38 h
theorem Ue:PL 72:=dW Tryz.func72
theorem aew:PL 80:=dW Tryz.func80
theorem Uf:PL 86:=dW Tryz.func86
theorem akk:PL 134:=dW Tryz.func134
theorem akl:PL 135:=dW Tryz.func135
theorem Ug:PL 83:=dW Tryz.func83
theorem akm:PL 73:=dW Tryz.func73
theorem akn:PL 38:=dW Tryz.func38
end Go.Proofs.YtfkgkbhbdffckaaGreatDoor
namespace Go.Fw
section
variable {P:Program} {w w0:World} {A S:Nat->Prop} {L:List HP}
theorem Ba {n cap l h m:Nat} {lo hi mx:Option Value} (hl:lo=none/\l=0\/∃ i:Int,lo=some (.int .i64 i)/\0<=i/\l=i.toNat) (hh:∃ i:Int,hi=some (.int .i64 i)/\0<=i/\h=i.toNat) (hm:∃ i:Int,mx=some (.int .i64 i)/\0<=i/\m=i.toNat)
  (h1:l<=h) (h2:h<=m) (h3:m<=cap):pr P (Instr.sliceBounds true n cap lo hi mx)=some (l,h,m):=by
 obtain ⟨j,rfl,hj,rfl⟩:=hh
 obtain ⟨k,rfl,hk,rfl⟩:=hm
 rcases hl with ⟨rfl,rfl⟩ | ⟨i,rfl,h0,rfl⟩ <;> simp only [Instr.sliceBounds,aK,cR,Option.bind_some]
 ·rw [iI hk (by omega)]; simp only [Option.bind_some]; rw [iI hj (by omega)]; rfl
 rw [iI hk (by omega)]; simp only [Option.bind_some]; rw [iI hj (by omega)]; simp only [Option.bind_some]; rw [iI h0 (by omega)]; rfl
theorem MW {T E sz by':Nat} {z:Option Nat} {a:Option Addr} {n cap l h m:Nat} {lo hi mx:Option Value} (ht:cT P T=some (E,sz,by',z))
  (hb:pr P (Instr.sliceBounds true n cap lo hi mx)=some (l,h,m)) :
  pr P (Instr.sliceAt T (.slice a n cap) lo hi mx)=some (.slice (if m=l then a else a.map (·.add (l * sz))) (h - l) (m - l)):=by
 obtain ⟨hu,inf,yW,iN,_⟩:=dz ht
 unfold Instr.sliceAt
 rw [aK,aM hu]
 simp only [Option.bind_some]
 unfold Instr.slice
 rw [aK,aM hu]
 simp only [Option.bind_some]
 rw [aK,hb]
 simp only [Option.bind_some]
 rw [aK,fX yW,iN]
 rfl
variable {α:Type} [Flat α] {xs:List α}
theorem dx.aqh {v:Value} {a:Option Addr} {n cap l h:Nat} (hv:v = .slice a n cap) (hr:dx S w v xs) (h1:l<=h) (h2:h<=xs.length) :
  dx S w (.slice (if h=l then a else a.map (·.add (l * Flat.sz α))) (h - l) (h - l)) ((xs.take h).drop l):=by
 obtain ⟨a',BC,oP,vA,h3⟩:=hr
 rw [oP] at hv
 simp only [Value.slice.injEq] at hv
 obtain ⟨rfl,hn,rfl⟩:=hv
 have hlen:((xs.take h).drop l).length=h - l:=by simp; omega
 rcases h3 with ⟨hxs,ug⟩ | ⟨b,o,rfl,h4,h5⟩
 ·subst hxs
  exact ⟨_,h - l,by rw [hlen],by simp,.inl ⟨by simp,by simp at h2; omega⟩⟩
 refine ⟨_,h - l,by rw [hlen],by rw [hlen]; exact Nat.le_refl _,.inr ?_⟩
 have iS:(xs.take h).drop l≠[]->xs≠[]:=λ hh hx=>hh (by rw [hx]; simp)
 by_cases hh:h=l
 ·rw [if_pos hh]
  refine ⟨b,o,rfl,λ hx=>h4 (iS hx),λ j c hj=>?_⟩
  have:((xs.take h).drop l)=[]:=by rw [<- List.length_eq_zero_iff,hlen]; omega
  rw [this] at hj; simp [gQ] at hj
 rw [if_neg hh]
 refine ⟨b,o+l * Flat.sz α,by simp [dK],λ hx=>h4 (iS hx),λ j c hj=>?_⟩
 rw [B7,B6,List.getElem?_drop,List.getElem?_take] at hj
 split at hj
 ·have:=h5 _ c hj
  rwa [show o+(l * Flat.sz α+j)=o+l * Flat.sz α+j from by omega] at this
 cases hj
theorem HY {T E by':Nat} {z:Option Nat} {v:Value} {i j:Int} {K:Value->Prop} (ht:cT P T=some (E,Flat.sz α,by',z)) (hr:dx S w v xs)
  (h0:0<=i) (h1:i<=j) (h2:j<=xs.length) (k:∀ v',(∀ w' (ys:List α),dx S w' v ys->dx S w' v' ((ys.take j.toNat).drop i.toNat))->K v'):cU P (Instr.sliceAt T v (some (.int .i64 i)) (some (.int .i64 j)) (some (.int .i64 j))) K:=by
 obtain ⟨a,cap,rfl,vA,h3⟩:=hr
 refine ⟨_,MW ht (Ba (.inr ⟨i,rfl,h0,rfl⟩) ⟨j,rfl,by omega,rfl⟩ ⟨j,rfl,by omega,rfl⟩ (by omega) (Nat.le_refl _) (by omega)),k _ λ w' ys hw=>hw.aqh rfl (by omega) ?_⟩
 obtain ⟨_,_,h4,_⟩:=hw
 simp only [Value.slice.injEq] at h4
 omega
theorem Kw {T E by':Nat} {z:Option Nat} {v:Value} {i:Int} {K:Value->Prop} (ht:cT P T=some (E,Flat.sz α,by',z)) (hr:dx S w v xs)
  (h0:0<=i) (h2:i<=xs.length) (k:∀ v',(∀ w' (ys:List α),dx S w' v ys->dx S w' v' (ys.drop i.toNat))->K v'):cU P (Instr.sliceAt T v (some (.int .i64 i)) none none) K:=by
 obtain ⟨a,cap,rfl,vA,h3⟩:=hr
 refine ⟨_,rO ht (kJ (.inr ⟨i,rfl,h0,rfl⟩) (.inl ⟨rfl,rfl⟩) (by omega) (by omega)),k _ λ w' ys hw=>?_⟩
 have hl:ys.length=xs.length:=by
  obtain ⟨_,_,h4,_⟩:=hw
  simp only [Value.slice.injEq] at h4
  omega
 have:=hw.cut rfl (show i.toNat<=ys.length by omega) (Nat.le_refl _)
 rw [List.take_length,hl] at this; exact this
theorem yB {T E by':Nat} {z:Option Nat} {v:Value} {i:Int} {K:Value->Prop} (ht:cT P T=some (E,Flat.sz α,by',z))
  (hs:St w0 A (bJ v xs::L) w) (h0:0<=i) (h1:i<=xs.length) (k:∀ v',St w0 A (bJ v' (xs.take i.toNat)::L) w->K v'):cU P (Instr.sliceAt T v none (some (.int .i64 i)) (some (.int .i64 i))) K:=by
 obtain ⟨a,cap,hv,vA,_⟩:=hs.gg
 refine ⟨_,(by rw [hv]; exact MW ht (Ba (.inl ⟨rfl,rfl⟩) ⟨i,rfl,h0,rfl⟩ ⟨i,rfl,h0,rfl⟩ (Nat.zero_le _) (Nat.le_refl _) (by omega))),k _ ?_⟩
 refine hs.kV λ F hF=>?_
 rcases hF with ⟨hv0,hx,eA⟩ | ⟨b,BC,rest,oP,hb,hl,hF⟩
 ·rw [hv0] at hv
  subst hx
  simp only [Value.slice.injEq] at hv
  obtain ⟨rfl,_,rfl⟩:=hv
  have hi:i.toNat=0:=by simp at h1; omega
  refine ⟨F,.inl ⟨?_,by simp,eA⟩,λ b hb=>.inl hb,gM.refl _ _⟩
  rw [hi]; rfl
 rw [oP] at hv
 simp only [Value.slice.injEq] at hv
 obtain ⟨rfl,_,rfl⟩:=hv
 have vi:(xs.take i.toNat).length=i.toNat:=by rw [List.length_take]; omega
 refine ⟨F,.inr ⟨b,i.toNat,flat (xs.drop i.toNat)++rest,?_,?_,⟨by omega,?_⟩,hF⟩,λ b hb=>.inl hb,gM.refl _ _⟩
 ·rw [vi]
  simp [dK]
 ·rw [<- List.append_assoc,<- fJ,List.take_append_drop]; exact hb
 rw [List.length_append,bZ,vi]; omega
end
end Go.Fw
namespace Go.Proofs.YtfkgkbhbdffckaaGreatDoor
open Go.Fw
def oc (K:World->Prop) (sv:SV) (rows:List aW) (l:List aX) (w:World):Prop:=(∀ w',K w'->jR rows l w')/\(K w->dx (λ _=>True) w (Flat.val sv) rows)
abbrev PE:=List (sL × List aW)
def zB (K:World->Prop) (w:World):PE->PD->Prop
 | [],[]=>True
 | e::es,q::p=>(e.1.EW=q.2/\oc K e.1.l e.2 q.1.flat w)/\zB K w es p
 | _,_=>False
def MX (es:PE):List sL:=(es.map Prod.fst).reverse
theorem Bb (e:sL × List aW) (es:PE):MX (e::es)=MX es++[e.1]:=by simp [MX]
theorem kj (es:PE):(MX es).length=es.length:=by simp [MX]
theorem zB.len {K:World->Prop} {w:World}:∀ {es:PE} {p:PD},zB K w es p->es.length=p.length
 | [],[],_=>rfl
 | e::es,q::p,h=>by have:=zB.len h.2; simp [this]
 | [],_::_,h=>h.elim
 | _::_,[],h=>h.elim
def dM (K Φ:World->Prop) (p:Nat) (room:Int) (t:iC):HP:=yJ λ bp:Nat=>yJ λ nv:SV=>yJ λ rg=>yJ λ pl=>yJ λ es:PE=>fact (∀ w,K w->dx (λ _=>True) w (Flat.val nv) t.names)
 (sep (cP p [.pointer (some ⟨bp,0,none⟩),Flat.val nv,rg,pl,.int .i64 t.fault]) (sep (lF bp room t.buf) (sep (bJ rg t.cW) (sep (bJ pl (MX es)) (e9 λ w=>zB K w es t.aY/\Φ w)))))
abbrev nA (K:World->Prop) (p:Nat) (room:Int) (t:iC):HP:=dM K (λ _=>True) p room t
section
variable {w w0:World} {A:Nat->Prop} {R:List HP} {p:Nat} {K Φ Ψ:World->Prop} {room:Int} {t:iC}
theorem va {H1 H2 H3 H4 H5:HP} (hs:St w0 A (sep H1 (sep H2 (sep H3 (sep H4 H5)))::R) w):St w0 A (H1::H2::H3::H4::H5::R) w:=by
 have h1:=hs.split
 have h2:=h1.p1.split
 have h3:=h2.p1.split
 have h4:=h3.p1.split
 exact h4.p2.p3.p4
theorem vc {H1 H2 H3 H4 H5:HP} (hs:St w0 A (H1::H2::H3::H4::H5::R) w):St w0 A (sep H1 (sep H2 (sep H3 (sep H4 H5)))::R) w:=by
 have h4:=St.join (hs.p4.p4)
 have h3:=St.join h4.p3
 have h2:=St.join h3.p2
 exact St.join h2.p1
abbrev wI (bp:Nat) (nv:SV) (rg pl:Value) (f:Int):List Value:=[.pointer (some ⟨bp,0,none⟩),Flat.val nv,rg,pl,.int .i64 f]
theorem dM.open (hs:St w0 A (dM K Φ p room t::R) w):∃ bp nv rg pl es,(∀ w,K w->dx (λ _=>True) w (Flat.val nv) t.names)/\
  St w0 A (cP p (wI bp nv rg pl t.fault)::lF bp room t.buf::bJ rg t.cW::bJ pl (MX es)::e9 (λ w=>zB K w es t.aY/\Φ w)::R) w:=by
 obtain ⟨bp,hs⟩:=hs.eH; obtain ⟨nv,hs⟩:=hs.eH; obtain ⟨rg,hs⟩:=hs.eH; obtain ⟨pl,hs⟩:=hs.eH; obtain ⟨es,hs⟩:=hs.eH; obtain ⟨hk,hs⟩:=hs.vN
 exact ⟨bp,nv,rg,pl,es,hk,va hs⟩
theorem dM.shut {bp:Nat} {nv:SV} {rg pl:Value} {es:PE} (hk:∀ w,K w->dx (λ _=>True) w (Flat.val nv) t.names)
  (hs:St w0 A (cP p (wI bp nv rg pl t.fault)::lF bp room t.buf::bJ rg t.cW::bJ pl (MX es)::e9 (λ w=>zB K w es t.aY/\Φ w)::R) w):St w0 A (dM K Φ p room t::R) w:=
 St.eb bp (St.eb nv (St.eb rg (St.eb pl (St.eb es (St.re hk (vc hs))))))
theorem dM.mono (hs:St w0 A (dM K Φ p room t::R) w) (h:∀ w,Φ w->Ψ w):St w0 A (dM K Ψ p room t::R) w:=by
 obtain ⟨bp,nv,rg,pl,es,hk,hs⟩:=dM.open hs
 have h1:=(hs.p4).fC (Ψ:=λ w=>zB K w es t.aY/\Ψ w) λ w hh=>⟨hh.1,h w hh.2⟩
 exact dM.shut hk h1.p4.p4.p4.p4
theorem dM.now (hs:St w0 A (dM K Φ p room t::R) w):Φ w:=by
 obtain ⟨bp,nv,rg,pl,es,hk,hs⟩:=dM.open hs
 exact (hs.p4).e9.2
theorem dM.rd (h:Has (dM K Φ p room t) w):∃ bp nv rg pl es,(∀ w,K w->dx (λ _=>True) w (Flat.val nv) t.names)/\q9 w p (wI bp nv rg pl t.fault)/\tW w bp room t.buf/\dx (λ _=>True) w rg t.cW/\dx (λ _=>True) w pl (MX es)/\zB K w es t.aY/\Φ w:=by
 obtain ⟨F,hs⟩:=h.st
 obtain ⟨bp,nv,rg,pl,es,hk,hs⟩:=dM.open hs
 exact ⟨bp,nv,rg,pl,es,hk,hs.hb,MN hs.p1,hs.p2.gg,hs.p3.gg,hs.p4.e9.1,hs.p4.e9.2⟩
theorem lH {xv:aW} {x:aX} (h:Deep.dr w xv x):∃ ge gf:SV,xv=⟨x.kind,x.eB,x.name,ge,gf,x.n,x.body,x.eG,x.at_⟩/\dx (λ _=>True) w (Flat.val ge) x.e/\dx (λ _=>True) w (Flat.val gf) x.f:=by
 obtain ⟨ge,gf,h1,h2,h3⟩:=h
 exact ⟨ge,gf,h1,DL.flat h2,DL.flat h3⟩
theorem jR.cut {rows:List aW} {l:List aX} {i j:Nat} (h:jR rows l w):jR ((rows.take j).drop i) ((l.take j).drop i) w:=(h.take j).drop i
theorem ai5 {x:aX} {a b r:Bk} (h:(Bk.cons x a b r).str) {j:Int} (hj:j=1+x.body):(((Bk.cons x a b r).flat.take j.toNat).drop (1:Int).toNat)=a.flat:=by
 obtain ⟨g1,_⟩:=h
 have la:=a.cJ
 rw [uR _ (a:=1) (c:=(1:Int).toNat) (n:=a.flat.length) (by omega) rfl]
 show (a.flat++(b.flat++r.flat)).take _=_
 rw [List.take_left]
theorem ai6 {x:aX} {a b r:Bk} (h:(Bk.cons x a b r).str) {i j:Int} (hi:i=1+x.body) (hj:j=1+x.body+x.eG):(((Bk.cons x a b r).flat.take j.toNat).drop i.toNat)=b.flat:=by
 obtain ⟨g1,g2,_⟩:=h
 have la:=a.cJ
 have lb:=b.cJ
 rw [uR _ (a:=1+a.flat.length) (n:=b.flat.length) (by omega) (by omega),<- List.drop_drop]
 show ((a.flat++(b.flat++r.flat)).drop _).take _=_
 rw [List.drop_left,List.take_left]
theorem oc.cut {sv sv':SV} {rows:List aW} {l:List aX} {i j:Nat} (h:oc K sv rows l w) (hc:∀ w' (ys:List aW),dx (λ _=>True) w' (Flat.val sv) ys->dx (λ _=>True) w' (Flat.val sv') ((ys.take j).drop i)):oc K sv' ((rows.take j).drop i) ((l.take j).drop i) w:=
 ⟨λ w' hw=>jR.cut (h.1 w' hw),λ hw=>hc _ _ (h.2 hw)⟩
theorem oc.akp {sv sv':SV} {rows:List aW} {l:List aX} {i:Nat} (h:oc K sv rows l w) (hc:∀ w' (ys:List aW),dx (λ _=>True) w' (Flat.val sv) ys->dx (λ _=>True) w' (Flat.val sv') (ys.drop i)):oc K sv' (rows.drop i) (l.drop i) w:=
 ⟨λ w' hw=>(h.1 w' hw).drop i,λ hw=>hc _ _ (h.2 hw)⟩
theorem zB.top {es:PE} {q:Bk × Bool} {p:PD} (h:zB K w es (q::p)):∃ sv rows mK,es=(⟨sv,q.2⟩,rows)::mK/\oc K sv rows q.1.flat w/\zB K w mK p:=by
 match es,h with
 | [],h=>exact h.elim
 | e::es,h=>
  obtain ⟨⟨sv,en⟩,rows⟩:=e
  obtain ⟨⟨h1,h2⟩,h3⟩:=h
  cases h1
  exact ⟨sv,rows,es,rfl,h2,h3⟩
theorem zB.cons {sv:SV} {e:Bool} {rows:List aW} {es:PE} {q:Bk × Bool} {p:PD} (h:zB K w ((⟨sv,e⟩,rows)::es) (q::p)):oc K sv rows q.1.flat w/\zB K w es p:=⟨h.1.2,h.2⟩
theorem Bc {e:sL × List aW} {es:PE}:(MX (e::es))[es.length]? = some e.1:=by rw [Bb,List.getElem?_append_right (by rw [kj]; exact Nat.le_refl _),kj,Nat.sub_self]; rfl
theorem MY {e:sL × List aW} {es:PE}:(MX (e::es)).take es.length=MX es:=by rw [Bb]; exact List.take_left' (kj es)
end
theorem C72 (K Φ:World->Prop) (p:Nat) (room:Int) (t:iC) (F:Nat->Prop) (lv:SV) (rows:List aW) (b:Bk) (e:Bool) (w:World) (hF:(dM K Φ p room t).p w F) (hK:∀ w',gM F w w'->K w') (hΦ:∀ w,Φ w->oc K lv rows b.flat w) (lT:t.aY.length<=100000) :
    CR 72 [.pointer (some ⟨p,0,none⟩),Flat.val lv,.bool e] w (λ v w'=>v = .tuple #[]/\ti F (dM K Φ p room {t with aY:=gW b e t.aY}) w w'):=by
 have hs:=St.begin hF;refine aeq _ _ _ _ _ ?_;unfold S72;obtain ⟨U6,Qd⟩:=hΦ _ (dM.now hs);have hlen:=(U6 _ (hK _ hs.aE)).1;refine aG iV (Qd (hK _ hs.aE)) (er (aC (λ c=>?_) (λ c=>?_)));rotate_left
 ·have hb:b = .nil:=by
   cases b with
   | nil=>rfl
   | cons y a b' r=>simp [Bk.flat] at hlen; omega
  subst hb;exact ⟨rfl,hs.mut⟩
 obtain ⟨y,a,b',r,rfl⟩:=Bk.Mo (t:=b) (by omega);obtain ⟨bp,nv,rg,pl,es,hk,hs⟩:=dM.open hs;have IH:=hs.p4.e9.1.len;refine aH (aA iW (aB uN hs.hb rfl (pop (Kv lv.a lv.n lv.cap e) (cO (([(⟨lv,e⟩:sL)])) hs xe rfl rfl (fw rfl) (λ s17 _ hs=>?_)))));have Fc:=(hs).gg;refine dw hs.p4 xe Fc (by rw [kj]; simp; omega) (by decide) (λ s18 _ hs=>have hs:=(hs.p1).drop;aH (aA iW (bF hs.p1 uN (fw rfl) ((hs).gg.one) (λ _ hs=>?_))));have hs:=hs.p4.fC (Ψ:=λ w=>zB K w ((⟨lv,e⟩,rows)::es) ((.cons y a b' r,e)::t.aY)/\Φ w) (λ w h=>⟨⟨⟨rfl,hΦ w h.2⟩,h.1⟩,h.2⟩)
 have hs:=hs.p2;rw [<- Bb (⟨lv,e⟩,rows) es] at hs;have hs:=dM.shut (Φ:=Φ) (t:={t with aY:=(.cons y a b' r,e)::t.aY}) hk hs.p1.p1.p4.p4.p4;exact ⟨rfl,hs.mut⟩
theorem C86 (K Φ:World->Prop) (p:Nat) (room:Int) (t:iC) (F:Nat->Prop) (y:aX) (a b r:Bk) (e:Bool) (p':PD) (w:World) (hF:(dM K Φ p room t).p w F) (hK:∀ w',gM F w w'->K w') (yK:t.aY=(.cons y a b r,e)::p') (hst:(Bk.cons y a b r).str) (lT:t.aY.length<=100000) :
   CR 86 [.pointer (some ⟨p,0,none⟩)] w (λ v w'=>v = .tuple #[]/\ti F (dM K Φ p room {t with aY:=fV t.aY}) w w'):=by
 have hpp:fV t.aY=gW r false p':=by rw [yK]; rfl
 have aqi:p'.length<=100000:=by rw [yK,List.length_cons] at lT; omega
 have hs:=St.begin hF;refine aes _ _ _ ?_;unfold S86;obtain ⟨bp,nv,rg,pl,es,hk,hs⟩:=dM.open hs;have hfz:=hs.p4.e9.1;rw [yK] at hfz;obtain ⟨sv,rows,mK,rfl,⟨U6,Qd⟩,_⟩:=hfz.top;have IH:=hfz.len;rw [List.length_cons,List.length_cons] at IH;have Td:=U6 _ (hK _ hs.aE);have GH:=Td.1;have KY:=(Bk.cons y a b r).cJ
 change rows.length=(Bk.cons y a b r).flat.length at GH
 obtain ⟨VV,hb2,hb3,hb4,_⟩:=id hst;simp only [Bk.len] at KY;obtain ⟨t0,ht0⟩:∃ t0,rows[(0:Int).toNat]? = some t0:=⟨_,List.getElem?_eq_getElem (by simp; omega)⟩;obtain ⟨ge,gf,rfl,_,_⟩:=lH (Td.2 0 _ y ht0 rfl);refine aH (aA iW (aB uN hs.hb rfl (aG xe hs.p3.gg ?_)));rw [kj,List.length_cons];refine iT (by omega) ?_;rw [show ((mK.length+1:Nat):Int) - 1=(mK.length:Int) from by omega];refine aH (aA iW (aB uN hs.hb rfl (aU xe hs.p3.gg (by omega) (by rw [Int.toNat_natCast]; exact Bc) (λ q hq=>ee sv FK hq rfl rfl (λ q2 oe=>aF zR oe (aH (aA iW (aB uN hs.hb rfl (have hs:=hs.p3;yB xe hs (by omega) (by rw [kj,List.length_cons]; omega) (λ s25 hs=>?_))))))))))
 rw [Int.toNat_natCast,MY] at hs;refine aH (aA iW (bF hs.p1 uN (fw rfl) ((hs).gg.one) (λ _ hs=>?_)));have hs:=hs.drew.p4;rw [yK] at hs;have hs:=hs.fC (Ψ:=λ w=>zB K w mK p'/\(Φ w/\oc K sv rows (Bk.cons y a b r).flat w)) (λ _ h=>⟨h.1.2,h.2,h.1.1.2⟩);have BA:=hs.e9.2.2.2 (hK _ hs.aE);have hs:=dM.shut (Φ:=λ w=>Φ w/\oc K sv rows (Bk.cons y a b r).flat w) (t:={t with aY:=p'}) hk hs.p2.p4.p4.p4;refine aU iV BA (by omega) ht0 (λ q3 LZ=>ee y.body ni LZ rfl rfl (λ q4 hq4=>aF cK hq4 (aT (by omega) (aU iV BA (by omega) ht0 (λ q5 hq5=>ee y.eG qn hq5 rfl rfl (λ q6 hq6=>aF cK hq6 (aT (by omega) (Kw iV BA (by omega) (by omega) (λ s40 h40=>?_)))))))))
 obtain ⟨aqj,rfl⟩:=(h40 _ _ BA).eT;refine cX Ue hs (H':=λ _=>dM K (λ w=>Φ w/\oc K sv rows (Bk.cons y a b r).flat w) p room {t with aY:=gW r false p'}) (Φ:=λ _ _=>True) (λ F2 jq gz=>?_) ?_
 ·refine (C72 K _ p room {t with aY:=p'} F2 aqj (rows.drop (1+y.body+y.eG).toNat) r false _ jq (λ w' hc=>hK w' (gz w' hc).aE) (λ w h=>?_) aqi).mono λ _ _ r=>r.mono λ _ _ h=>⟨trivial,h.2⟩;have:=h.2.akp h40;rw [Bk.ai4 hst rfl] at this; exact this
 rintro _ _ _ hs;rw [<- hpp] at hs;exact ⟨rfl,(dM.mono hs (λ _ h=>h.1)).mut⟩
theorem C80 (K:World->Prop) (p:Nat) (t:iC) (bp:Nat) (nv:SV) (rg pl:Value) (es:PE) (φ:aX->Prop) (w:World) (Bd:q9 w p (wI bp nv rg pl t.fault)) (OP:dx (λ _=>True) w pl (MX es)) (EX:zB K w es t.aY)
   (hw:∀ w',Ext w w'->K w') (hpo:CZ φ t.aY) (hl:t.aY.length<=100000):CR 80 [.pointer (some ⟨p,0,none⟩)] w (λ v w'=>Ext w w'/\((l6 t.aY=none/\v = .tuple #[Flat.val (⟨0,⟨#[]⟩,⟨#[]⟩,⟨none,0,0⟩,⟨none,0,0⟩,0,0,0,0⟩:aW),.slice none 0 0,.slice none 0 0,.bool false])\/
    ∃ x a b xv av bv ra rb,l6 t.aY=some (x,a,b)/\v = .tuple #[Flat.val (xv:aW),Flat.val (av:SV),Flat.val (bv:SV),.bool true]/\(∀ w',K w'->Deep.dr w' xv x)/\∀ w2,zB K w2 es t.aY->oc K av ra a.flat w2/\oc K bv rb b.flat w2)):=by
 have c3:=Bd.cell (o:=3) rfl;have IH:=EX.len;have hs:=St.start w;refine aer _ _ _ ?_;unfold S80;refine aN hs nK (λ b2 _ hs=>have hs:=hs.enc (cs':=Flat.enc (⟨0,⟨#[]⟩,⟨#[]⟩,⟨none,0,0⟩,⟨none,0,0⟩,0,0,0,0⟩:aW)) rfl;aH (aA iW (bW uN (c3.ext hs.aE) (aG xe (OP.ext hs.aE) ?_))));rw [kj];refine aI (aC (λ c=>?_) (λ c=>?_))
 ·have MI:t.aY=[]:=List.length_eq_zero_iff.1 (by omega);exact pop (v:=Flat.val (⟨0,⟨#[]⟩,⟨#[]⟩,⟨none,0,0⟩,⟨none,0,0⟩,0,0,0,0⟩:aW)) (by kernel_rfl) (aO (x:=(⟨0,⟨#[]⟩,⟨#[]⟩,⟨none,0,0⟩,⟨none,0,0⟩,0,0,0,0⟩:aW)) hs mq rfl rfl (λ _ hs=>aF mq hs.At ⟨hs.drop.aE,.inl ⟨by rw [MI]; rfl,rfl⟩⟩))
 obtain ⟨aY,akq⟩:∃ q,q=t.aY:=⟨_,rfl⟩;rw [<- akq] at EX hpo IH hl |-;cases aY with
 | nil=>exact absurd (show ((es.length:Nat):Int)=0 by have h0:es.length=0:=IH; omega) c
 | cons q p'=>
 obtain ⟨q1,e⟩:=q;cases q1 with
 | nil=>exact absurd rfl (hpo.ne _ (List.mem_cons_self ..))
 | cons y a b r=>
 have hst:=hpo.st _ (List.mem_cons_self ..);obtain ⟨sv,rows,mK,rfl,⟨U6,Qd⟩,_⟩:=EX.top;have Td:=U6 _ (hw _ (Ext.refl _));have GH:=Td.1;have KY:=(Bk.cons y a b r).cJ
 change rows.length=(Bk.cons y a b r).flat.length at GH
 obtain ⟨VV,hb2,hb3,hb4,_⟩:=id hst;simp only [Bk.len] at KY;rw [List.length_cons] at IH c;rw [List.length_cons] at IH hl;obtain ⟨t0,ht0⟩:∃ t0,rows[(0:Int).toNat]? = some t0:=⟨_,List.getElem?_eq_getElem (by simp; omega)⟩;obtain ⟨ge,gf,rfl,_,_⟩:=lH (Td.2 0 _ y ht0 rfl);have BA:=Qd (hw _ (Ext.refl _));have hs:=hs.drew;refine aH (aA iW (bW uN (c3.ext hs.aE) (aH (aA iW (bW uN (c3.ext hs.aE) (aG xe (OP.ext hs.aE) ?_))))));rw [kj,List.length_cons];refine iT (by omega) ?_;rw [show ((mK.length+1:Nat):Int) - 1=(mK.length:Int) from by omega];refine aU xe (OP.ext hs.aE) (by omega) (by rw [Int.toNat_natCast]; exact Bc) (λ q hq=>ee sv FK hq rfl rfl (λ q2 oe=>aF zR oe (aU iV (BA.ext hs.aE) (by omega) ht0 (λ q3 LZ=>aF mq LZ (aN hs nK (λ b7 _ hs=>aO (x:=(⟨y.kind,y.eB,y.name,ge,gf,y.n,y.body,y.eG,y.at_⟩:aW)) hs mq rfl rfl (λ _ hs=>aA ni (aB (v:=.int .i64 y.body) cK hs.hb rfl (aT (by omega) (aA qn (aB (v:=.int .i64 y.eG) cK hs.hb rfl (aT (by omega) ?_))))))))))))
 have hs:=hs.drew;refine aF mq hs.At (HY iV (BA.ext hs.aE) (by omega) (by omega) (by omega) (λ s44 h44=>?_));obtain ⟨aql,rfl⟩:=(h44 _ _ BA).eT;refine HY iV (BA.ext hs.aE) (by omega) (by omega) (by omega) (λ s49 h49=>?_);obtain ⟨aqm,rfl⟩:=(h49 _ _ BA).eT;refine aO (x:=(⟨y.kind,y.eB,y.name,ge,gf,y.n,y.body,y.eG,y.at_⟩:aW)) hs.p1 mq rfl rfl (λ _ hs=>aF mq hs.At ?_);refine ⟨hs.drop.drop.aE,.inr ⟨y,a,b,_,aql,aqm,(rows.take (1+y.body).toNat).drop (1:Int).toNat,(rows.take (1+y.body+y.eG).toNat).drop (1+y.body).toNat,rfl,rfl,λ w' hk=>(U6 w' hk).2 0 _ y ht0 rfl,λ w2 h2=>?_⟩⟩;have h3:=h2.cons.1
 refine ⟨?_,?_⟩
 ·have:=h3.cut h44;rw [ai5 hst rfl] at this; exact this
 have:=h3.cut h49;rw [ai6 hst rfl rfl] at this; exact this
theorem C135 (K Φ:World->Prop) (p:Nat) (room:Int) (t:iC) (F:Nat->Prop) (w:World) (hF:(dM K Φ p room t).p w F) (hK:∀ w',gM F w w'->K w') (lT:t.aY.length<=100000) :
   CR 135 [.pointer (some ⟨p,0,none⟩)] w (λ v w'=>v = .tuple #[]/\ti F (dM K Φ p room {t with aY:=ij t.aY}) w w'):=by
 have hs:=St.begin hF;refine Zb _ _ _ ?_;unfold S135;refine ⟨λ m ev w1=>∃ (en:Bool) (pd:PD),ev = .bool en/\m=pd.length+(if en then 0 else 1)/\pd.length<=100000/\ij t.aY=(if en=true then pd else ij pd)/\St w F [dM K Φ p room {t with aY:=pd}] w1,⟨_,false,t.aY,rfl,rfl,lT,rfl,hs⟩,?_⟩;rintro m _ w1 ⟨en,pd,rfl,rfl,hpd,hlv,hs⟩ _;obtain ⟨bp,nv,rg,pl,es,hk,hs⟩:=dM.open hs;have hfz:=hs.p4.e9.1;have IH:=hfz.len
 change es.length=pd.length at IH
 refine ⟨λ jv w'=>jv = .bool (!en && decide (0<pd.length))/\w'=w1,?_,?_⟩
 ·refine bH ?_;cases en with
  | true=>exact eu ⟨rfl,rfl⟩
  | false=>
   refine gk (aH (aA iW (aB uN hs.hb rfl (aG xe hs.p3.gg ?_))));rw [kj];refine er ?_;exact ⟨vb (by rw [Bool.not_false,Bool.true_and]; exact decide_eq_decide.2 (by omega)),rfl⟩
 rintro _ _ ⟨rfl,rfl⟩ _;refine bI (λ c=>?_) (λ c=>?_);rotate_left
 ·have hd:ij t.aY=pd:=by
   rw [hlv];cases en with
   | true=>rfl
   | false=>
    have:pd=[]:=List.length_eq_zero_iff.1 (by have:=of_decide_eq_false (by simpa only [Bool.not_false,Bool.true_and] using c); omega);rw [this]; rfl
  rw [hd];exact ⟨rfl,(dM.shut (t:={t with aY:=pd}) hk hs).mut⟩
 rw [Bool.and_eq_true,Bool.not_eq_true',decide_eq_true_eq] at c;obtain ⟨rfl,uJ⟩:=c;cases pd with
 | nil=>simp at uJ
 | cons q p'=>
 obtain ⟨q1,e⟩:=q;obtain ⟨sv,rows,mK,rfl,_,_⟩:=hfz.top;rw [List.length_cons,List.length_cons] at IH;rw [List.length_cons] at hpd;refine aH (aA iW (aB uN hs.hb rfl (aG xe hs.p3.gg ?_)));rw [kj,List.length_cons];refine iT (by omega) ?_;rw [show ((mK.length+1:Nat):Int) - 1=(mK.length:Int) from by omega];refine aH (aA iW (aB uN hs.hb rfl (aU xe hs.p3.gg (by omega) (by rw [Int.toNat_natCast]; exact Bc) (λ q hq=>ee e Qu hq rfl rfl (λ q2 oe=>aF I9 oe (aH (aA iW (aB uN hs.hb rfl (have hs:=hs.p3;yB xe hs (by omega) (by rw [kj,List.length_cons]; omega) (λ s25 hs=>?_))))))))))
 rw [Int.toNat_natCast,MY] at hs;refine aH (aA iW (bF hs.p1 uN (fw rfl) ((hs).gg.one) (λ _ hs=>have hs:=hs.p4.fC (Ψ:=λ w=>zB K w mK p'/\Φ w) (λ _ h=>⟨h.1.2,h.2⟩);have hs:=dM.shut (Φ:=Φ) (t:={t with aY:=p'}) hk hs.p2.p4.p4.p4;⟨_,?_,e,p',rfl,rfl,by omega,?_,hs⟩)))
 ·show p'.length+(if e=true then 0 else 1)<p'.length+1+1
  split <;> omega
 rw [hlv]; rfl
theorem C83 (K Φ:World->Prop) (p:Nat) (room:Int) (t:iC) (F:Nat->Prop) (lv:Value) (xs:List bL) (w:World) (hF:(dM K Φ p room t).p w F) (hK:∀ w',gM F w w'->K w') (hL:dx (λ _=>True) w lv xs) (hn:xs.length<=1048576) (hns:t.names.length<=1048576) :
   CR 83 [.pointer (some ⟨p,0,none⟩),lv] w (λ v w'=>v = .tuple #[.int .i64 (dZ t xs).1,.bool (dZ t xs).2]/\ti F (dM K Φ p room {t with fault:=if (dZ t xs).2=true then t.fault else 2}) w w'):=by
 have hs:=St.begin hF;refine aet _ _ _ _ ?_;unfold S83;refine aG kq hL (aI (aC (λ c=>?_) (λ c=>?_)))
 ·have hv:dZ t xs=(0,true):=by unfold dZ; rw [if_pos (by omega)]
  rw [hv];exact ⟨rfl,hs.mut⟩
 have hv:dZ t xs=((wq t.names t.cW xs).1,decide ((wq t.names t.cW xs).2=0)):=by unfold dZ; rw [if_neg (by omega)]
 obtain ⟨bp,nv,rg,pl,es,hk,hs⟩:=dM.open hs;have hs:=hs.drew;refine aH (aA za (aB lL hs.hb rfl (aH (aA zb (aB fT hs.hb rfl (bO anH hs (C99 _ _ _ xs t.names t.cW _ (hL.ext (Ext.drew w)) (hk _ (hK _ hs.aE)) hs.p2.gg hn hns) (λ _ he hs=>aR rfl (aR rfl ⟨λ w'=>St w F [dM K Φ p room {t with fault:=if (dZ t xs).2=true then t.fault else 2}] w',cS (aC (λ c2=>?_) (λ c2=>?_)),?_⟩))))))))
 ·refine aH (aA vI (bF hs cK (fw rfl) rfl (λ _ hs=>?_)));have ht:{t with fault:=2}={t with fault:=if (dZ t xs).2=true then t.fault else 2}:=by rw [hv]; dsimp only; rw [decide_eq_false c2]; rfl
  rw [<- ht];exact dM.shut (t:={t with fault:=2}) hk hs
 ·have ht:t={t with fault:=if (dZ t xs).2=true then t.fault else 2}:=by rw [hv]; dsimp only; rw [decide_eq_true (by omega)]; rfl
  rw [<- ht];exact dM.shut hk hs
 intro _ hs _;exact aI ⟨by rw [hv],hs.mut⟩
theorem dM.aez {w w0:World} {A:Nat->Prop} {R:List HP} {p:Nat} {K Φ Ψ:World->Prop} {room:Int} {t:iC} (hs:St w0 A (e9 Ψ::dM K Φ p room t::R) w):St w0 A (dM K (λ w=>Φ w/\Ψ w) p room t::R) w:=by
 obtain ⟨bp,nv,rg,pl,es,hk,hs⟩:=dM.open hs.p1
 have h1:=((hs.p5).p5.ey).fC (Ψ:=λ w=>zB K w es t.aY/\Φ w/\Ψ w) λ w h=>⟨h.1.1,h.1.2,h.2⟩
 exact dM.shut hk h1.p4.p4.p4.p4
theorem jR.cons {w:World} {t:aW} {x:aX} {ts:List aW} {xs:List aX} (h:Deep.dr w t x) (hs:jR ts xs w):jR (t::ts) (x::xs) w:=by
 refine ⟨by simp [hs.1],λ i t' x' h1 h2=>?_⟩
 cases i with
 | zero=>simp at h1 h2; subst h1 h2; exact h
 | succ i=>exact hs.2 i t' x' (by simpa using h1) (by simpa using h2)
theorem Kx (x:aX) (a:Bk):(Bk.cons x a .nil .nil).flat=x::a.flat:=by simp [Bk.flat]
theorem C134 (K Φ:World->Prop) (p:Nat) (room:Int) (t:iC) (F:Nat->Prop) (x:aX) (xv:aW) (av:SV) (ra:List aW) (a b r:Bk) (e:Bool) (p':PD) (w:World) (hF:(dM K Φ p room t).p w F) (hK:∀ w',gM F w w'->K w') (yK:t.aY=(.cons x a b r,e)::p') (hst:(Bk.cons x a b r).str) (lT:t.aY.length<=90000)
   (Ff:∀ w,K w->Deep.dr w xv x) (hΦ:∀ w,Φ w->oc K av ra a.flat w) (hn:0<=x.n/\x.n<=1000) :
   CR 134 [.pointer (some ⟨p,0,none⟩),Flat.val xv,Flat.val av] w (λ v w'=>v = .tuple #[]/\ti F (dM K Φ p room {t with aY:=kD x a t.aY}) w w'):=by
 have hs:=St.begin hF;obtain ⟨ge,gf,rfl,_,_⟩:=lH (Ff _ (hK _ hs.aE));have hal:a.flat.length<=40:=by rw [Bk.cJ]; exact hst.2.2.1
 have hppl:(fV t.aY).length<=90001:=by
  rw [yK]; show (gW r false p').length<=_; rw [yK,List.length_cons] at lT;cases r with
  | nil=>show p'.length<=_; omega
  | cons _ _ _ _=>show p'.length+1<=_; omega
 refine Za _ _ _ _ _ ?_;unfold S134;refine cZ (x:=(⟨x.kind,x.eB,x.name,ge,gf,x.n,x.body,x.eG,x.at_⟩:aW)) hs (λ b4 _ hs=>cX Uf hs.p1 (H':=λ _=>dM K (Φ) p room {t with aY:=fV (t).aY}) (Φ:=λ _ _=>True) (λ F2 jq gz=>?_) ?_)
 ·exact (C86 K _ p room (t) F2 x a b r e p' _ jq (λ w' hc=>hK w' (gz w' hc).aE) yK hst (by omega)).mono λ _ _ r=>r.mono λ _ _ h=>⟨trivial,h.2⟩
 rintro _ _ _ hs;refine aA ql (aB (v:=.int .i64 x.n) cK hs.p1.hb rfl (aI (aC (λ c=>?_) (λ c=>?_))))
 ·rw [show kD x a t.aY=fV t.aY from by unfold kD; rw [if_pos c]];exact ⟨rfl,(hs.p1).drop.mut⟩
 rw [show kD x a t.aY=gW a false ((.cons {x with n:=x.n - 1} a .nil .nil,true)::fV t.aY) from by unfold kD; rw [if_neg c]];refine aF mq hs.p1.At (cO (([⟨x.kind,x.eB,x.name,ge,gf,x.n,x.body,x.eG,x.at_⟩]:List aW)) hs iV rfl rfl (fw rfl) (λ tZ _ hs=>?_));have hra:=hΦ _ (dM.now hs.p1);have hral:=(hra.1 _ (hK _ hs.aE)).1;refine dw hs iV (hra.2 (hK _ hs.aE)) (by simp; omega) (by decide) (λ s15 _ hs=>eS hs iV (by omega) (by simp) (λ q17 h17=>lg ql h17 (λ q18 h18=>vO (x.n:Int) hs cK h18 (x:=(⟨x.kind,x.eB,x.name,ge,gf,x.n,x.body,x.eG,x.at_⟩:aW)) rfl rfl (iT (by omega) (eS hs iV (by omega) (by simp) (λ q21 h21=>lg ql h21 (λ q22 h22=>pC (x:=(⟨x.kind,x.eB,x.name,ge,gf,x.n,x.body,x.eG,x.at_⟩:aW)) (⟨x.kind,x.eB,x.name,ge,gf,x.n - 1,x.body,x.eG,x.at_⟩:aW) (x.n - 1:Int) hs cK h22 rfl (by decide) rfl (λ _ hs=>?_))))))))
 obtain ⟨aeA,rfl⟩:=(hs).gg.eT;have hs:=dM.aez hs.freeze
 have FR:∀ w',K w'->jR (((⟨x.kind,x.eB,x.name,ge,gf,x.n,x.body,x.eG,x.at_⟩:aW)::ra).set (0:Int).toNat (⟨x.kind,x.eB,x.name,ge,gf,x.n - 1,x.body,x.eG,x.at_⟩:aW)) (Bk.cons {x with n:=x.n - 1} a .nil .nil).flat w':=λ w' hw=>by
  rw [Kx];obtain ⟨_,_,h4,h5,h6⟩:=Ff w' hw;cases h4
  exact jR.cons ⟨ge,gf,rfl,h5,h6⟩ (hra.1 w' hw)
 refine cX Ue hs (H':=λ _=>dM K (λ w=>Φ w/\dx (λ _=>True) w (Flat.val aeA) (([(⟨x.kind,x.eB,x.name,ge,gf,x.n,x.body,x.eG,x.at_⟩:aW)]++ra).set (0:Int).toNat (⟨x.kind,x.eB,x.name,ge,gf,x.n - 1,x.body,x.eG,x.at_⟩:aW))) p room { {t with aY:=fV t.aY} with aY:=gW (Bk.cons {x with n:=x.n - 1} a .nil .nil) true ({t with aY:=fV t.aY}).aY}) (Φ:=λ _ _=>True) (λ F2 jq gz=>?_) ?_
 ·exact (C72 K _ p room ({t with aY:=fV t.aY}) F2 aeA _ (Bk.cons {x with n:=x.n - 1} a .nil .nil) true _ jq (λ w' hc=>hK w' (gz w' hc).aE) (λ _ h=>⟨FR,λ _=>h.2⟩) (by show (fV t.aY).length<=_; omega)).mono λ _ _ r=>r.mono λ _ _ h=>⟨trivial,h.2⟩
 rintro _ _ _ hs;refine cX Ue hs (H':=λ _=>dM K (λ w=>Φ w/\dx (λ _=>True) w (Flat.val aeA) (([(⟨x.kind,x.eB,x.name,ge,gf,x.n,x.body,x.eG,x.at_⟩:aW)]++ra).set (0:Int).toNat (⟨x.kind,x.eB,x.name,ge,gf,x.n - 1,x.body,x.eG,x.at_⟩:aW))) p room { {t with aY:=(.cons {x with n:=x.n - 1} a .nil .nil,true)::fV t.aY} with aY:=gW a false ({t with aY:=(.cons {x with n:=x.n - 1} a .nil .nil,true)::fV t.aY}).aY}) (Φ:=λ _ _=>True) (λ F2 jq gz=>?_) ?_
 ·exact (C72 K _ p room ({t with aY:=(.cons {x with n:=x.n - 1} a .nil .nil,true)::fV t.aY}) F2 av ra a false _ jq (λ w' hc=>hK w' (gz w' hc).aE) (λ w h=>hΦ w h.1) (by show (fV t.aY).length+1<=_; omega)).mono λ _ _ r=>r.mono λ _ _ h=>⟨trivial,h.2⟩
 rintro _ _ _ hs;exact ⟨rfl,(dM.mono (hs.p1).drop (λ _ h=>h.1)).mut⟩
theorem C73 (K:World->Prop) (p:Nat) (room:Int) (t tR:iC) (n:Nat) (cs ls:List ByteArray) (F:Nat->Prop) (w:World) (hF:(nA K p room t).p w F) (hK:∀ w',gM F w w'->K w') (ga:wH cs ls t) (hg:ou n t=some tR) :
   CR 73 [.pointer (some ⟨p,0,none⟩)] w (λ v w'=>v = .tuple #[]/\ti F (nA K p room tR) w w'):=by
 have hs:=St.begin hF;refine aeu _ _ _ ?_;unfold S73;refine ⟨λ mm w'=>∃ t1:iC,ou mm t1=some tR/\wH cs ls t1/\St w F [nA K p room t1] w',⟨n,t,hg,ga,hs⟩,?_⟩;rintro mm _ ⟨t1,u6,EY,hs⟩ _;obtain ⟨k,rfl⟩:=OO u6;have lT:=zA EY.p;have Eh:=EY.cl;have hnb:=EY.nb;have GH:=EY.rl;obtain ⟨bp,nv,rg,pl,es,hk,hs⟩:=dM.open hs;refine eW aew (C80 K p t1 bp nv rg pl es _ _ hs.hb hs.p3.gg hs.p4.e9.1 (λ _ e=>hK _ (hs.aE.then e)) EY.p (by omega)) ?_;rintro v _ ⟨he,hv⟩;have hs:=hs.ext he
 rcases hv with ⟨eA,rfl⟩ | ⟨x,a,b,xv,av,bv,ra,rb,Uh,rfl,Ff,hab⟩
 ·refine aR rfl (aR rfl (aR rfl (aR rfl (aN hs nK (λ b2 w3 hs=>aO (x:=(⟨0,⟨#[]⟩,⟨#[]⟩,⟨none,0,0⟩,⟨none,0,0⟩,0,0,0,0⟩:aW)) hs mq rfl rfl (λ w4 hs=>bH (gk ?_)))))));rw [sK u6 (aem eA)];exact ⟨rfl,(dM.shut hk hs.drop).mut⟩
 obtain ⟨ge,gf,rfl,_,_⟩:=lH (Ff _ (hK _ hs.aE))
 have hxE:∀ w,K w->dx (λ _=>True) w (Flat.val ge) x.e/\dx (λ _=>True) w (Flat.val gf) x.f:=λ w hw=>by
  obtain ⟨_,_,h4,h5,h6⟩:=lH (Ff w hw);cases h4
  exact ⟨h5,h6⟩
 obtain ⟨hx,sa,sb,aa,ab,VV,hb2,hal,r,e,p',yK,sr,ar⟩:=EY.top Uh;have hst:(Bk.cons x a b r).str:=EY.p.st _ (by rw [yK]; exact List.mem_cons_self ..);have hxe:=hx.e;have hs:=(hs.p4).fC (Ψ:=λ w=>zB K w es t1.aY/\(oc K av ra a.flat w/\oc K bv rb b.flat w)) (λ w h=>⟨h.1,hab w h.1⟩);have hs:=dM.shut (Φ:=λ w=>oc K av ra a.flat w/\oc K bv rb b.flat w) (t:=t1) hk hs.p4.p4.p4.p4;refine aR rfl (aR rfl (aR rfl (aR rfl (aN hs nK (λ b2 w3 hs=>aO (x:=(⟨x.kind,x.eB,x.name,ge,gf,x.n,x.body,x.eG,x.at_⟩:aW)) hs mq rfl rfl (λ w4 hs=>bH (eu (aA nh (aB (v:=Flat.val ge) m9 hs.hb rfl (cX Ug hs.p1 (H':=λ _=>dM K (λ w=>oc K av ra a.flat w/\oc K bv rb b.flat w) p room {t1 with fault:=if (dZ t1 x.e).2=true then t1.fault else 2}) (Φ:=λ v _=>v = .tuple #[.int .i64 (dZ t1 x.e).1,.bool (dZ t1 x.e).2]) (λ F2 jq gz=>?_) ?_))))))))))
 ·exact C83 K _ p room t1 F2 _ x.e _ jq (λ w' hc=>hK w' (gz w' hc).aE) (hxE _ (hK _ hs.aE)).1 (by omega) (by omega)
 rintro _ w5 rfl hs;refine aR rfl (aR rfl (bH (bI (λ c1=>?_) (λ c1=>?_))))
 ·have h1:(dZ t1 x.e).2=false:=by simpa using c1
  rw [h1] at hs;rw [sK u6 (aen Uh h1)];exact ⟨rfl,(dM.mono (hs.p1).drop (λ _ _=>trivial)).mut⟩
 have h1:(dZ t1 x.e).2=true:=by simpa using c1
 replace hs:St w F [dM K (λ w=>oc K av ra a.flat w/\oc K bv rb b.flat w) p room t1,cP b2 (Flat.enc (⟨x.kind,x.eB,x.name,ge,gf,x.n,x.body,x.eG,x.at_⟩:aW))] w5:=by rw [h1] at hs; exact hs
 refine aA oy (aB (v:=Flat.val gf) m9 hs.p1.hb rfl (cX Ug hs (H':=λ _=>dM K (λ w=>oc K av ra a.flat w/\oc K bv rb b.flat w) p room {t1 with fault:=if (dZ t1 x.f).2=true then t1.fault else 2}) (Φ:=λ v _=>v = .tuple #[.int .i64 (dZ t1 x.f).1,.bool (dZ t1 x.f).2]) (λ F2 jq gz=>?_) ?_))
 ·exact C83 K _ p room t1 F2 _ x.f _ jq (λ w' hc=>hK w' (gz w' hc).aE) (hxE _ (hK _ hs.aE)).2 (by omega) (by omega)
 rintro _ w6 rfl hs;refine aR rfl (aR rfl (bH (bI (λ c2=>?_) (λ c2=>?_))))
 ·have h2:(dZ t1 x.f).2=false:=by simpa using c2
  rw [h2] at hs;rw [sK u6 (aeo Uh h2)];exact ⟨rfl,(dM.mono (hs.p1).drop (λ _ _=>trivial)).mut⟩
 have h2:(dZ t1 x.f).2=true:=by simpa using c2
 replace hs:St w F [dM K (λ w=>oc K av ra a.flat w/\oc K bv rb b.flat w) p room t1,cP b2 (Flat.enc (⟨x.kind,x.eB,x.name,ge,gf,x.n,x.body,x.eG,x.at_⟩:aW))] w6:=by rw [h2] at hs; exact hs
 have hgk:=aep Uh h1 h2
 have HZ:∀ (t2:iC) (w':World),kT t1 x a b (dZ t1 x.e).1=(t2,true)->St w F [dM K (λ w=>oc K av ra a.flat w/\oc K bv rb b.flat w) p room t2,cP b2 (Flat.enc (⟨x.kind,x.eB,x.name,ge,gf,x.n,x.body,x.eG,x.at_⟩:aW))] w'->∃ m',m'<k+1/\∃ t1:iC,ou m' t1=some tR/\wH cs ls t1/\St w F [nA K p room t1] w':=λ t2 w' h3 h4=>by
  have h5:=hgk.trans h3;obtain ⟨h6,h7,_⟩:=EV EY;rw [h5] at h6 h7;exact ⟨k,Nat.lt_succ_self k,t2,Y5 u6 h5,h6,dM.mono (h4.p1).drop (λ _ _=>trivial)⟩
 refine aA gI (aB (v:=.int .i64 x.kind) cK hs.p1.hb rfl (aI (aC (λ k1=>?_) (λ k1=>?_))))
 ·have Zc:=cD.1 (hx.rg (.inl k1));obtain ⟨j,hj,CG,_⟩:=pQ Zc;have Vk:=(List.getElem?_eq_some_iff.1 CG).1;obtain ⟨bp,nv,rg,pl,es,hk,hs⟩:=dM.open hs;have hs:=hs.drew;refine aH (aA zb (aB fT hs.hb rfl (aH (aA za (aB lL hs.hb rfl (aA nc (aB (v:=.string x.eB) kp hs.p5.hb rfl (bO Ou hs (C81 _ t1.names x.eB _ (hk _ (hK _ hs.aE)) (by omega)) (λ _ he hs=>?_)))))))));refine ⟨aD fT (hs.hb.cell rfl),?_⟩;refine eS hs.p2 ei (by omega) (by omega) (λ q51 h51=>mc (dZ t1 x.e).1 hs.p2 cK h51 (by omega) (λ _ hs=>have hs:=dM.shut (Φ:=λ w=>oc K av ra a.flat w/\oc K bv rb b.flat w) (t:=pg t1 x.eB (dZ t1 x.e).1) hk ((hs.p2).p2);cX Uf hs (H':=λ _=>dM K (λ w=>oc K av ra a.flat w/\oc K bv rb b.flat w) p room {pg t1 x.eB (dZ t1 x.e).1 with aY:=fV (pg t1 x.eB (dZ t1 x.e).1).aY}) (Φ:=λ _ _=>True) (λ F2 jq gz=>?_) ?_))
  ·exact (C86 K _ p room (pg t1 x.eB (dZ t1 x.e).1) F2 x a b r e p' _ jq (λ w' hc=>hK w' (gz w' hc).aE) yK hst (by show t1.aY.length<=_; omega)).mono λ _ _ r=>r.mono λ _ _ h=>⟨trivial,h.2⟩
  rintro _ _ _ hs;exact HZ _ _ (ael k1) hs
 refine aI (aC (λ k2=>?_) (λ k2=>?_))
 ·refine cX Uf hs (H':=λ _=>dM K (λ w=>oc K av ra a.flat w/\oc K bv rb b.flat w) p room {t1 with aY:=fV (t1).aY}) (Φ:=λ _ _=>True) (λ F2 jq gz=>?_) ?_
  ·exact (C86 K _ p room (t1) F2 x a b r e p' _ jq (λ w' hc=>hK w' (gz w' hc).aE) yK hst (by omega)).mono λ _ _ r=>r.mono λ _ _ h=>⟨trivial,h.2⟩
  rintro _ w10 _ hs;refine ⟨λ jv w'=>jv=(if (dZ t1 x.e).1=0 then Flat.val bv else Flat.val av)/\w'=w10,?_,?_⟩
  ·refine aI ?_;refine aC (λ c=>⟨(if_pos c).symm,rfl⟩) (λ c=>⟨(if_neg c).symm,rfl⟩)
  rintro _ _ ⟨rfl,rfl⟩ _
  have hpq:(fV t1.aY).length<=100000:=by
   have:=zA EY.p.pop;have:=Ks yK;omega
  have e1:(if (dZ t1 x.e).1=0 then Flat.val bv else Flat.val av)=Flat.val (if (dZ t1 x.e).1=0 then bv else av):=by split <;> rfl
  rw [e1];refine cX Ue hs (H':=λ _=>dM K (λ w=>oc K av ra a.flat w/\oc K bv rb b.flat w) p room { {t1 with aY:=fV t1.aY} with aY:=gW (if (dZ t1 x.e).1=0 then b else a) false ({t1 with aY:=fV t1.aY}).aY}) (Φ:=λ _ _=>True) (λ F2 jq gz=>?_) ?_
  ·exact (C72 K _ p room ({t1 with aY:=fV t1.aY}) F2 (if (dZ t1 x.e).1=0 then bv else av) (if (dZ t1 x.e).1=0 then rb else ra) (if (dZ t1 x.e).1=0 then b else a) false _ jq (λ w' hc=>hK w' (gz w' hc).aE) (λ _ h=>by split; exact h.2; exact h.1) (hpq)).mono λ _ _ r=>r.mono λ _ _ h=>⟨trivial,h.2⟩
  rintro _ _ _ hs;exact HZ _ _ (Y6 k2) hs
 refine aI (aC (λ k3=>?_) (λ k3=>?_))
 ·refine aF mq hs.p1.At (cX akk hs (H':=λ _=>dM K (λ w=>oc K av ra a.flat w/\oc K bv rb b.flat w) p room {t1 with aY:=kD x a t1.aY}) (Φ:=λ _ _=>True) (λ F2 jq gz=>?_) ?_)
  ·exact (C134 K _ p room t1 F2 x ⟨x.kind,x.eB,x.name,ge,gf,x.n,x.body,x.eG,x.at_⟩ av ra a b r e p' _ jq (λ w' hc=>hK w' (gz w' hc).aE) yK hst (by omega) Ff (λ _ h=>h.1) (hx.n k3)).mono λ _ _ r=>r.mono λ _ _ h=>⟨trivial,h.2⟩
  rintro _ _ _ hs;exact HZ _ _ (Y7 k3) hs
 refine aI (aC (λ k4=>?_) (λ k4=>?_))
 ·refine cX akl hs (H':=λ _=>dM K (λ w=>oc K av ra a.flat w/\oc K bv rb b.flat w) p room {t1 with aY:=ij t1.aY}) (Φ:=λ _ _=>True) (λ F2 jq gz=>?_) ?_
  ·exact (C135 K _ p room t1 F2 _ jq (λ w' hc=>hK w' (gz w' hc).aE) (by omega)).mono λ _ _ r=>r.mono λ _ _ h=>⟨trivial,h.2⟩
  rintro _ _ _ hs;exact HZ _ _ (Y8 k4) hs
 refine aI (aC (λ k5=>?_) (λ k5=>?_))
 ·refine aI (aC (λ c=>?_) (λ c=>?_))
  ·obtain ⟨bp,nv,rg,pl,es,hk,hs⟩:=dM.open hs;refine aH (aA vI (bF hs cK (fw rfl) rfl (λ _ hs=>?_)));have hs:=dM.shut (Φ:=λ w=>oc K av ra a.flat w/\oc K bv rb b.flat w) (t:={t1 with fault:=1}) hk hs;rw [sK u6 (hgk.trans (Uc k5 c))];exact ⟨rfl,(dM.mono (hs.p1).drop (λ _ _=>trivial)).mut⟩
  refine cX Uf hs (H':=λ _=>dM K (λ w=>oc K av ra a.flat w/\oc K bv rb b.flat w) p room {t1 with aY:=fV (t1).aY}) (Φ:=λ _ _=>True) (λ F2 jq gz=>?_) ?_
  ·exact (C86 K _ p room (t1) F2 x a b r e p' _ jq (λ w' hc=>hK w' (gz w' hc).aE) yK hst (by omega)).mono λ _ _ r=>r.mono λ _ _ h=>⟨trivial,h.2⟩
  rintro _ _ _ hs;exact HZ _ _ (Ud k5 c) hs
 rw [sK u6 (hgk.trans (Y9 k1 k2 k3 k4 k5))];exact ⟨rfl,(dM.mono (hs.p1).drop (λ _ _=>trivial)).mut⟩
variable (w:World) (K:Value->World->Prop)
def S53 (s0 t1:Value):Prop:=
 cF 80 [t1] w λ a b=>xT a 0 λ c=>xT a 1 λ _=>xT a 2 λ _=>xT a 3 λ d=>aL 24 b λ e f=>sA 24 e c f λ g=>cU Tryz.prog (Op.unary .not d) λ h=>cV h (K ff g) (cE (λ K1=>
 nC t1 λ j=>fA 97 j 4 λ k=>lA 3 k g λ l=>bB .neq 3 l (i 0) λ n=>cV n (K1 tt g) (fA 24 e 0 λ o=>lA 3 o g λ p=>bB .eql 3 p (i 2) λ q=>K1 q g)) (λ r s=>∀ _:Env,
 cV r (K tt s) (cE (λ K2=>fA 24 e 0 λ t=>lA 3 t s λ u=>bB .eql 3 u (i 3) λ v=>cV v (K2 tt s) (fA 24 e 0 λ x=>lA 3 x s λ y=>bB .eql 3 y (i 5) λ z=>cV z (K2 tt s) (
 fA 24 e 0 λ aa=>lA 3 aa s λ ab=>bB .eql 3 ab (i 6) λ ac=>cV ac (K2 tt s) (fA 24 e 0 λ ad=>lA 3 ad s λ ae=>bB .eql 3 ae (i 7) λ af=>K2 af s)))) (λ ag ah=>∀ _:Env,
 cV ag (nC t1 λ ai=>fA 97 ai 0 λ aj=>lA 74 aj ah λ ak=>cF 108 [ak] ah λ al am=>cU Tryz.prog (Op.unary .not al) λ an=>K an am) (cE (λ K3=>fA 24 e 0 λ ao=>lA 3 ao (drew ah) λ ap=>
 bB .eql 3 ap (i 9) λ aq=>cV aq (nC s0 λ ar=>fA 81 ar 5 λ asx=>lA 45 asx (drew ah) λ au=>nC s0 λ av=>fA 81 av 2 λ aw=>lA 32 aw (drew ah) λ ax=>fA 24 e 2 λ ay=>
 lA 9 ay (drew ah) λ az=>cF 81 [ax,az] (drew ah) λ a0 a1=>kA 45 asx au a1 (iA 45 au a0 λ a2=>lA 3 a2 a1 λ a3=>bB .neq 3 a3 (i (-1)) λ a4=>K3 a4 a1)) (K3 ff (drew ah)))
 (λ a5 a6=>∀ _:Env,
 cV a5 (K ff a6) (cF 38 [t1] a6 λ a7 a8=>K a7 a8)))))))
def P53:eh:=λ i=>match i with
 | 8=>(.of [(0,[]),(1,[]),(2,[]),(3,[]),(4,[]),(5,[]),(6,[]),(7,[]),(8,[]),(9,[]),(10,[]),(11,[]),(12,[]),(13,[]),(14,[7]),(15,[]),(16,[]),(17,[]),(18,[]),(19,[])])
 | _=>.nil
theorem aeC (s0 t1:Value) (h:S53 w K s0 t1):CR 53 [s0,t1] w K:=
 eN 77 P53 16 [.tmp 4] Tryz.func53 h
def S13 (s0:Value):Prop:=
 nC s0 λ a=>fA 81 a 8 λ b=>lA 3 b w λ c=>bB .neq 3 c (i 0) λ d=>cV d (K (.slice none 0 0) w) (nC s0 λ e=>fA 81 e 6 λ f=>lA 79 f w λ g=>lN 79 g λ h=>mn (λ K1 fp j k=>∀ _:Env,
 bA .lss 3 j h λ l=>cV l (iA 79 g j λ n=>lA 94 n k λ o=>cE (λ K2=>cF 53 [s0,o] k λ p q=>cV p (cU Tryz.prog (Instr.build 47 [(0,(i 1)),(1,j)].toArray) λ r=>
 bS 55 1 [(0,r)] q λ s t=>aP 55 fp s t λ u v=>K2 u v) (K2 fp q)) (λ mL x=>∀ _:Env,
 nC o λ y=>fA 97 y 0 λ z=>lA 74 z x λ aa=>cF 54 [aa] x λ ab ac=>lN 45 ab λ ad=>mn (λ K3 Ui ae af=>∀ _:Env,
 bA .lss 3 ae ad λ ag=>cV ag (iA 45 ab ae λ ah=>lA 3 ah af λ ai=>cU Tryz.prog (Instr.build 47 [(0,(i 2)),(1,j),(2,ai)].toArray) λ aj=>bS 55 1 [(0,aj)] af λ ak al=>
 aP 55 Ui ak al λ am an=>bB .add 3 ae (i 1) λ ao=>K3 am ao an) (bB .add 3 j (i 1) λ ap=>K1 Ui ap af)) (λ K3=>K3 mL (i 0) ac))) (K fp k)) (λ K1=>K1 (.slice none 0 0) (i 0) w))
theorem aeD (s0:Value) (h:S13 w K s0):CR 13 [s0] w K:=
 eN 50 (λ _=>.nil) 4 [.tmp 2] Tryz.func13 h
def S12 (s0:Value):Prop:=
 nC s0 λ a=>fA 81 a 8 λ b=>lA 3 b w λ c=>bB .neq 3 c (i 0) λ d=>cV d (K (.slice none 0 0) w) (nC s0 λ e=>fA 81 e 4 λ f=>lA 78 f w λ g=>cF 52 [g] w λ h j=>lN 113 h λ k=>
 mn (λ K1 fp l n=>∀ _:Env,
 bA .lss 3 l k λ o=>cV o (iA 113 h l λ p=>lA 45 p n λ q=>cU Tryz.prog (Instr.build 47 [(0,(i 3)),(3,q)].toArray) λ r=>bS 55 1 [(0,r)] n λ s t=>aP 55 fp s t λ u v=>
 bB .add 3 l (i 1) λ x=>K1 u x v) (K fp n)) (λ K1=>K1 (.slice none 0 0) (i 0) j))
theorem aeE (s0:Value) (h:S12 w K s0):CR 12 [s0] w K:=
 eN 28 (λ _=>.nil) 4 [.tmp 2] Tryz.func12 h
def S79 (s0 i1 H0:Value):Prop:=
 aL 42 w λ a b=>nC s0 λ c=>fA 81 c 8 λ d=>sA 3 d H0 b λ e=>nC s0 λ f=>fA 81 f 9 λ g=>sA 3 g i1 e λ h=>cU Tryz.prog (Instr.build 42 [(0,(i 16)),(1,i1),(2,H0)].toArray) λ j=>
 sA 42 a j h λ k=>lA 42 a k λ r=>K r k
theorem aeF (s0 i1 H0:Value) (h:S79 w K s0 i1 H0):CR 79 [s0,i1,H0] w K:=
 eN 18 (λ _=>.nil) 64 [.cell 6 42] Tryz.func79 h
def S82 (s0 t1 a lQ:Value):Prop:=
 gd Tryz.prog (Instr.box 24 a) w λ b c=>aL 42 c λ d e=>nC t1 λ f=>fA 97 f 0 λ g=>lA 74 g e λ h=>cF 139 [h,lQ] e λ j k=>xT j 0 λ l=>xT j 1 λ n=>ZK (λ K1=>
 cU Tryz.prog (Op.unary .not n) λ o=>cV o (nC s0 λ p=>fA 81 p 4 λ q=>lA 78 q k λ s=>cF 140 [s,lQ] k λ t u=>xT t 0 λ v=>xT t 1 λ _=>K1 v (i 1) u) (K1 l (i 2) k))
 (λ n9 aeG x=>∀ _:Env,
 nC t1 λ y=>fA 97 y 2 λ z=>lA 45 z (drew x) λ aa=>nC t1 λ ab=>fA 97 ab 1 λ ac=>lA 32 ac (drew x) λ ad=>fA 24 b 1 λ ae=>lA 9 ae (drew x) λ af=>cF 81 [ad,af] (drew x) λ ag ah=>
 kA 45 z aa ah (iA 45 aa ag λ ai=>sA 3 ai n9 ah λ aj=>cU Tryz.prog (Instr.build 42 [(0,aeG),(2,lQ),(3,n9)].toArray) λ ak=>sA 42 d ak aj λ al=>lA 42 d al λ r=>
 K r al))
def P82:eh:=λ i=>match i with
 | 6=>(.of [(0,[]),(1,[]),(2,[]),(3,[]),(4,[]),(5,[]),(6,[]),(7,[]),(8,[]),(9,[]),(11,[]),(10,[3]),(12,[]),(13,[])])
 | _=>.nil
theorem aeH (s0 t1 x2 lQ:Value) (h:S82 w K s0 t1 x2 lQ):CR 82 [s0,t1,x2,lQ] w K:=
 eN 49 P82 256 [.cell 8 42] Tryz.func82 h
def S85 (s0 t1 a lQ:Value):Prop:=
 gd Tryz.prog (Instr.box 24 a) w λ b c=>aL 42 c λ d e=>nC s0 λ f=>fA 81 f 4 λ g=>lA 78 g e λ h=>cF 140 [h,lQ] e λ j k=>xT j 0 λ l=>xT j 1 λ _=>fA 24 b 3 λ n=>
 lA 22 n k λ o=>cF 83 [t1,o] k λ p q=>xT p 0 λ s=>xT p 1 λ _=>fA 24 b 4 λ t=>lA 22 t q λ u=>cF 83 [t1,u] q λ v x=>xT v 0 λ y=>xT v 1 λ _=>nC t1 λ z=>
 fA 97 z 2 λ aa=>lA 45 aa (drew x) λ ab=>nC t1 λ ac=>fA 97 ac 1 λ ad=>lA 32 ad (drew x) λ ae=>fA 24 b 1 λ af=>lA 9 af (drew x) λ ag=>cF 81 [ae,ag] (drew x) λ ah ai=>
 kA 45 aa ab ai (iA 45 ab ah λ aj=>sA 3 aj l ai λ ak=>bA .neq 3 l s λ al=>cV al (cU Tryz.prog (Instr.build 42 [(0,(i 9)),(2,lQ),(3,l)].toArray) λ am=>sA 42 d am ak λ an=>
 lA 42 d an λ r=>K r an) (nC s0 λ ao=>fA 81 ao 4 λ ap=>lA 78 ap ak λ aq=>cF 77 [aq,lQ,y] ak λ _ ar=>cU Tryz.prog (Instr.build 42 [(0,(i 8)),(2,lQ),(3,l),(4,y)].toArray) λ asx=>
 sA 42 d asx ar λ au=>lA 42 d au λ Fv=>K Fv au))
def P85:eh:=λ i=>match i with
 | 4=>(.of [(0,[]),(1,[]),(2,[]),(3,[]),(4,[]),(5,[]),(6,[]),(7,[]),(8,[]),(9,[]),(11,[]),(10,[3]),(12,[]),(13,[])])
 | _=>.nil
theorem aeI (s0 t1 x2 lQ:Value) (h:S85 w K s0 t1 x2 lQ):CR 85 [s0,t1,x2,lQ] w K:=
 eN 68 P85 256 [.cell 8 42] Tryz.func85 h
def S36 (s0 i1:Value):Prop:=
 aL 42 w λ a b=>nC s0 λ c=>fA 81 c 6 λ d=>lA 79 d b λ e=>iA 79 e i1 λ f=>lA 94 f b λ g=>nC g λ h=>fA 97 h 4 λ j=>lA 3 j b λ k=>bB .neq 3 k (i 0) λ l=>
 cV l (nC g λ n=>fA 97 n 4 λ o=>lA 3 o b λ p=>cF 79 [s0,i1,p] b λ q s=>sA 42 a q s λ t=>lA 42 a t λ r=>K r t) (cF 80 [g] b λ u v=>xT u 0 λ x=>xT u 1 λ _=>
 xT u 2 λ _=>xT u 3 λ _=>aL 24 v λ y z=>sA 24 y x z λ aa=>nC s0 λ ab=>fA 81 ab 1 λ ac=>lA 32 ac (drew aa) λ ad=>fA 24 y 2 λ ae=>lA 9 ae (drew aa) λ af=>nC s0 λ ag=>
 fA 81 ag 2 λ ah=>lA 32 ah (drew aa) λ ai=>fA 24 y 2 λ aj=>lA 9 aj (drew aa) λ ak=>cF 81 [ad,af] (drew aa) λ al am=>kA 32 ah ai am (kA 9 aj ak am (cF 81 [ai,ak] am λ an ao=>
 nC s0 λ ap=>fA 81 ap 0 λ aq=>lA 40 aq ao λ ar=>cF 26 [ar,al] ao λ asx au=>aL 42 au λ Uj av=>rI (λ K1=>fA 24 y 0 λ aw=>lA 3 aw av λ ax=>bB .eql 3 ax (i 2) λ ay=>
 cV ay (lA 24 y av λ az=>cF 82 [s0,g,az,al] av λ a0 a1=>sA 42 Uj a0 a1 λ a2=>K1 a2) (bB .eql 3 ax (i 3) λ a3=>cV a3 (fA 24 y 3 λ a4=>lA 22 a4 av λ a5=>cF 83 [g,a5] av λ a6 a7=>
 xT a6 0 λ a8=>xT a6 1 λ _=>nC g λ a9=>fA 97 a9 0 λ ba=>lA 74 ba a7 λ bb=>cU Tryz.prog (Instr.build 152 [(0,(i 3)),(1,asx),(2,al),(3,a8)].toArray) λ bc=>cF 84 [bb,bc] a7 λ _ bd=>
 cU Tryz.prog (Instr.build 42 [(0,(i 3)),(2,al),(3,a8)].toArray) λ be=>sA 42 Uj be bd λ bf=>K1 bf) (bB .eql 3 ax (i 5) λ bg=>cV bg (nC g λ bh=>fA 97 bh 0 λ bi=>
 lA 74 bi av λ bj=>cU Tryz.prog (Instr.build 152 [(0,(i 5)),(1,asx)].toArray) λ bk=>cF 84 [bj,bk] av λ _ bl=>cU Tryz.prog (Instr.build 42 [(0,(i 4)),(2,asx)].toArray) λ bm=>
 sA 42 Uj bm bl λ bn=>K1 bn) (bB .eql 3 ax (i 6) λ bo=>cV bo (nC g λ bp=>fA 97 bp 0 λ bq=>lA 74 bq av λ br=>cU Tryz.prog (Instr.build 152 [(0,(i 6)),(1,asx)].toArray) λ bs=>
 cF 84 [br,bs] av λ _ bt=>cU Tryz.prog (Instr.build 42 [(0,(i 5)),(2,asx)].toArray) λ bu=>sA 42 Uj bu bt λ bv=>K1 bv) (bB .eql 3 ax (i 7) λ bw=>cV bw (nC g λ bx=>
 fA 97 bx 0 λ bz=>lA 74 bz av λ b0=>cU Tryz.prog (Instr.build 152 [(0,(i 7))].toArray) λ b1=>cF 84 [b0,b1] av λ _ b2=>cU Tryz.prog (Instr.build 42 [(0,(i 6))].toArray) λ b3=>
 sA 42 Uj b3 b2 λ b4=>K1 b4) (bB .eql 3 ax (i 8) λ b5=>cV b5 (cU Tryz.prog (Instr.build 42 [(0,(i 7))].toArray) λ b6=>sA 42 Uj b6 av λ b7=>K1 b7) (bB .eql 3 ax (i 4) λ b8=>
 cV b8 (lA 24 y av λ b9=>cF 85 [s0,g,b9,al] av λ ca cb=>sA 42 Uj ca cb λ cc=>K1 cc) (bB .eql 3 ax (i 9) λ cd=>cV cd (nC s0 λ ce=>fA 81 ce 5 λ cf=>lA 45 cf av λ cg=>
 iA 45 cg an λ ch=>sA 3 ch i1 av λ ci=>cU Tryz.prog (Instr.build 42 [(0,(i 10)),(2,an)].toArray) λ cj=>sA 42 Uj cj ci λ ck=>K1 ck) (nC s0 λ cl=>fA 81 cl 5 λ cm=>
 lA 45 cm av λ cn=>iA 45 cn an λ co=>lA 3 co av λ cp=>bA .neq 3 cp i1 λ cq=>cV cq (cF 79 [s0,i1,(i 3)] av λ cr cs=>sA 42 a cr cs λ ct=>lA 42 a ct λ Fv=>K Fv ct) (
 nC s0 λ cu=>fA 81 cu 5 λ cv=>lA 45 cv av λ cw=>iA 45 cw an λ cx=>sA 3 cx (i (-1)) av λ cy=>cU Tryz.prog (Instr.build 42 [(0,(i 11)),(2,an)].toArray) λ cz=>sA 42 Uj cz cy λ c0=>
 K1 c0)))))))))) (λ c1=>∀ _:Env,
 fA 42 Uj 1 λ c2=>sA 3 c2 i1 c1 λ c3=>cF 86 [g] c3 λ _ c4=>cF 73 [g] c4 λ _ c5=>lA 42 Uj c5 λ c6=>sA 42 a c6 c5 λ c7=>lA 42 a c7 λ Qf=>K Qf c7))))
def P36:eh:=λ i=>match i with
 | 5=>(.of [(0,[]),(1,[]),(2,[]),(3,[]),(4,[]),(5,[]),(7,[]),(8,[]),(9,[]),(10,[]),(11,[]),(12,[]),(6,[10,12]),(13,[]),(14,[]),(15,[])])
 | _=>.nil
theorem aeJ (s0 i1:Value) (h:S36 w K s0 i1):CR 36 [s0,i1] w K:=
 eN 171 P36 16 [.cell 4 42] Tryz.func36 h
def S35 (s0 p1:Value):Prop:=
 gd Tryz.prog (Instr.box 47 p1) w λ p3 a=>aL 42 a λ b c=>cE (λ K1=>nC s0 λ d=>fA 81 d 6 λ e=>lA 79 e (drew c) λ f=>fA 47 p3 1 λ g=>lA 3 g (drew c) λ h=>
 iA 79 f h λ j=>lA 94 j (drew c) λ k=>nC k λ l=>fA 97 l 0 λ n=>lA 74 n (drew c) λ o=>fA 47 p3 2 λ p=>lA 3 p (drew c) λ q=>((cF 76 [o,q] (drew c) λ s t=>xT s 0 λ u=>
 xT s 1 λ _=>aL 152 t λ v x=>kA 79 e f x (kA 3 g h x (kA 94 j k x (kA 74 n o x (kA 3 p q x (sA 152 v u x λ y=>K1 v y))))))
 /\((aL 152 (drew c) λ z aa=>kA 79 e f aa (kA 3 g h aa (kA 94 j k aa (kA 74 n o aa (kA 3 p q aa (cF 76 [o,q] aa λ ab ac=>xT ab 0 λ ad=>xT ab 1 λ _=>sA 152 z ad ac λ ae=>
 K1 z ae))))))
 /\
 True))) (λ af ag=>∀ _:Env,
 fA 152 af 0 λ ah=>lA 3 ah ag λ ai=>bB .eql 3 ai (i 3) λ aj=>cV aj (nC s0 λ ak=>fA 81 ak 4 λ al=>lA 78 al (drew ag) λ am=>fA 152 af 2 λ an=>lA 3 an (drew ag) λ ao=>
 fA 152 af 3 λ ap=>lA 3 ap (drew ag) λ aq=>cF 77 [am,ao,aq] (drew ag) λ _ ar=>fA 47 p3 1 λ asx=>lA 3 asx ar λ au=>fA 152 af 2 λ av=>lA 3 av ar λ aw=>fA 152 af 3 λ ax=>
 lA 3 ax ar λ ay=>cU Tryz.prog (Instr.build 42 [(0,(i 12)),(1,au),(2,aw),(3,ay)].toArray) λ az=>sA 42 b az ar λ a0=>lA 42 b a0 λ r=>K r a0) (bB .eql 3 ai (i 7) λ a1=>
 cV a1 (fA 47 p3 1 λ a2=>lA 3 a2 ag λ a3=>cU Tryz.prog (Instr.build 42 [(0,(i 14)),(1,a3)].toArray) λ a4=>sA 42 b a4 ag λ a5=>lA 42 b a5 λ Fv=>K Fv a5) (nC s0 λ a6=>
 fA 81 a6 4 λ a7=>lA 78 a7 (drew ag) λ a8=>fA 152 af 1 λ a9=>lA 3 a9 (drew ag) λ ba=>cF 78 [a8,ba] (drew ag) λ _ bb=>fA 47 p3 1 λ bc=>lA 3 bc bb λ bd=>fA 152 af 1 λ be=>
 lA 3 be bb λ bf=>cU Tryz.prog (Instr.build 42 [(0,(i 13)),(1,bd),(2,bf)].toArray) λ bg=>sA 42 b bg bb λ bh=>lA 42 b bh λ Qf=>K Qf bh)))
def P35:eh:=λ i=>match i with
 | 1=>(.op 0 [] (.op 1 [] (.op 2 [] (.op 3 [] (.op 4 [] (.op 5 [] (.op 6 [] (.op 7 [] (.op 8 [] (.op 9 [] (.op 10 [] (.op 11 [] (.op 12 [] (.alt 13 [] (.of [(14,[]),(15,[]),(16,[]),(17,[3,5,7,10,12]),(18,[]),(19,[])]) (.alt 17 [3,5,7,10,12] (.of [(13,[]),(14,[]),(15,[]),(16,[]),(18,[]),(19,[])]) .stop)))))))))))))))
 | 4=>.run 0 9
 | 8=>.run 0 7
 | _=>.nil
theorem aeK (s0 p1:Value) (h:S35 w K s0 p1):CR 35 [s0,p1] w K:=
 eN 61 P35 16 [.cell 4 42] Tryz.func35 h
def S30 (s0 l1:Value):Prop:=
 nC s0 λ a=>fA 81 a 6 λ b=>sA 79 b (.slice none 0 0) w λ c=>nC s0 λ d=>fA 81 d 5 λ e=>sA 45 e (.slice none 0 0) c λ f=>nC s0 λ g=>fA 81 g 2 λ h=>lA 32 h f λ j=>
 lN 32 j λ k=>fh (λ K1 l n=>∀ _:Env,
 bA .lss 3 l k λ o=>cV o (nC s0 λ p=>fA 81 p 5 λ q=>lA 45 q n λ r=>bS 45 1 [(0,(i (-1)))] n λ s t=>aP 45 r s t λ u v=>nC s0 λ x=>fA 81 x 5 λ y=>sA 45 y u v λ z=>
 bB .add 3 l (i 1) λ aa=>K1 aa z) (lN 35 l1 λ ab=>fh (λ K2 ac ad=>∀ _:Env,
 bA .lss 3 ac ab λ ae=>cV ae (iA 35 l1 ac λ af=>lA 34 af ad λ ag=>aL 34 ad λ ah ai=>sA 34 ah ag ai λ aj=>nC s0 λ ak=>fA 81 ak 3 λ al=>lA 3 al aj λ am=>cF 23 [am] aj λ an ao=>
 xT an 0 λ ap=>xT an 1 λ _=>fA 34 ah 1 λ aq=>lA 32 aq (drew ao) λ ar=>fA 34 ah 1 λ asx=>lA 32 asx (drew ao) λ au=>lN 32 au λ av=>gd Tryz.prog (Instr.makeSlice 45 av av) (drew ao) λ aw ax=>
 kA 32 aq ar ax (cU Tryz.prog (Instr.build 97 [(0,ap),(1,ar),(2,aw)].toArray) λ ay=>gd Tryz.prog (Instr.box 97 ay) ax λ az a0=>fA 34 ah 2 λ a1=>lA 27 a1 a0 λ a2=>
 cF 72 [az,a2,ff] a0 λ _ a3=>cF 73 [az] a3 λ _ a4=>nC s0 λ a5=>fA 81 a5 6 λ a6=>lA 79 a6 a4 λ a7=>bS 79 1 [(0,az)] a4 λ a8 a9=>aP 79 a7 a8 a9 λ ba bb=>nC s0 λ bc=>
 fA 81 bc 6 λ bd=>sA 79 bd ba bb λ be=>bB .add 3 ac (i 1) λ bf=>K2 bf be)) (K (.tuple #[]) ad)) (λ K2=>K2 (i 0) n))) (λ K1=>K1 (i 0) f)
def P30:eh:=λ i=>match i with
 | 9=>(.of [(0,[]),(1,[]),(2,[]),(3,[]),(4,[]),(5,[]),(6,[2]),(7,[]),(8,[]),(9,[])])
 | _=>.nil
theorem aeL (s0 l1:Value) (h:S30 w K s0 l1):CR 30 [s0,l1] w K:=
 eN 72 P30 0 [] Tryz.func30 h
def S7 (s0 p1:Value):Prop:=
 gd Tryz.prog (Instr.box 47 p1) w λ p3 a=>aL 42 a λ b c=>cE (λ K1=>fA 47 p3 0 λ d=>lA 3 d (drew c) λ e=>bB .eql 3 e (i 3) λ f=>cV f (fA 47 p3 1 λ g=>lA 3 g (drew c) λ h=>
 bB .eql 3 h (i 0) λ j=>cV j (fA 47 p3 2 λ k=>lA 3 k (drew c) λ l=>bB .eql 3 l (i 0) λ n=>cV n (nC s0 λ o=>fA 81 o 8 λ p=>lA 3 p (drew c) λ q=>bB .eql 3 q (i 0) λ s=>
 cV s (nC s0 λ t=>fA 81 t 4 λ u=>lA 78 u (drew c) λ v=>fA 47 p3 3 λ x=>lA 45 x (drew c) λ y=>cF 31 [v,y] (drew c) λ z aa=>bB .eql 29 z (i 0) λ ab=>K1 ab aa) (
 K1 ff (drew c))) (K1 ff (drew c))) (K1 ff (drew c))) (K1 ff (drew c))) (λ ac ad=>∀ _:Env,
 cV ac (nC s0 λ ae=>fA 81 ae 7 λ af=>lA 3 af ad λ ag=>bB .add 3 ag (i 1) λ ah=>nC s0 λ ai=>fA 81 ai 7 λ aj=>sA 3 aj ah ad λ ak=>nC s0 λ al=>fA 81 al 0 λ am=>
 fA 40 am 4 λ an=>lA 35 an ak λ ao=>cE (λ K2=>lN 35 ao λ ap=>bB .eql 3 ap (i 0) λ aq=>cV aq (cU Tryz.prog (Instr.build 34 [].toArray) λ ar=>bS 35 1 [(0,ar)] ak λ asx au=>
 K2 asx au) (K2 ao ak)) (λ aqo av=>∀ _:Env,
 cF 30 [s0,aqo] av λ _ aw=>fA 47 p3 3 λ ax=>lA 45 ax aw λ ay=>cF 32 [ay] aw λ az a0=>cU Tryz.prog (Instr.build 42 [(0,(i 15)),(3,az)].toArray) λ a1=>sA 42 b a1 a0 λ a2=>
 lA 42 b a2 λ r=>K (.tuple #[r,(i 0)]) a2)) (cF 13 [s0] ad λ a3 a4=>cF 34 [a3,(.func (Go.Fn.func 33) [].toArray [p3].toArray)] a4 λ a5 a6=>cU Tryz.prog (Op.unary .not a5) λ a7=>
 cV a7 (cU Tryz.prog (Instr.build 42 [].toArray) λ a8=>sA 42 b a8 a6 λ a9=>lA 42 b a9 λ Fv=>K (.tuple #[Fv,(i 13)]) a9) (fA 47 p3 0 λ ba=>lA 3 ba a6 λ bb=>bB .eql 3 bb (i 2) λ bc=>
 cV bc (lA 47 p3 a6 λ bd=>cF 35 [s0,bd] a6 λ be bf=>sA 42 b be bf λ bg=>lA 42 b bg λ Qf=>K (.tuple #[Qf,(i 0)]) bg) (fA 47 p3 1 λ bh=>lA 3 bh a6 λ bi=>cF 36 [s0,bi] a6 λ bj bk=>
 sA 42 b bj bk λ bl=>lA 42 b bl λ r_3=>K (.tuple #[r_3,(i 0)]) bl))))
def P7:eh:=λ i=>match i with
 | 1=>.run 0 30
 | _=>.nil
theorem akr (s0 p1:Value) (h:S7 w K s0 p1):CR 7 [s0,p1] w K:=
 eN 79 P7 48 [.cell 4 42,.tmp 5] Tryz.func7 h
def S33 (q0 a:Value):Prop:=
 gd Tryz.prog (Instr.box 47 q0) w λ q2 b=>cE (λ K1=>fA 47 q2 0 λ c=>lA 3 c b λ d=>fA 47 a 0 λ e=>lA 3 e b λ f=>bA .eql 3 d f λ g=>cV g (fA 47 q2 1 λ h=>
 lA 3 h b λ j=>fA 47 a 1 λ k=>lA 3 k b λ l=>bA .eql 3 j l λ n=>cV n (fA 47 q2 2 λ o=>lA 3 o b λ p=>fA 47 a 2 λ q=>lA 3 q b λ r=>bA .eql 3 p r λ s=>cV s (
 fA 47 a 3 λ t=>lA 45 t b λ u=>lN 45 u λ v=>bB .eql 3 v (i 0) λ x=>K1 x b) (K1 ff b)) (K1 ff b)) (K1 ff b)) (λ y z=>∀ _:Env,
 K y z)
theorem aeM (q0 x1:Value) (h:S33 w K q0 x1):CR 33 [q0,x1] w K:=
 eN 29 (λ _=>.nil) 8 [.tmp 3] Tryz.func33 h
def S8 (s0:Value):Prop:=
 aL 49 w λ a b=>nC s0 λ c=>fA 81 c 7 λ d=>lA 3 d (drew b) λ e=>nC s0 λ f=>fA 81 f 8 λ g=>lA 3 g (drew b) λ h=>nC s0 λ j=>fA 81 j 9 λ k=>lA 3 k (drew b) λ l=>
 cU Tryz.prog (Instr.build 49 [(0,e),(1,h),(2,l)].toArray) λ n=>aL 49 (drew b) λ o p=>kA 3 d e p (kA 3 g h p (kA 3 k l p (sA 49 o n p λ q=>rI (λ K1=>nC s0 λ s=>
 fA 81 s 8 λ t=>lA 3 t q λ u=>bB .eql 3 u (i 0) λ v=>cV v (nC s0 λ x=>fA 81 x 6 λ y=>lA 79 y q λ z=>cF 39 [z,(.func (.func 37) #[] #[])] q λ aa ab=>cU Tryz.prog (Op.unary .not aa) λ ac=>
 fA 49 o 3 λ ad=>sA 4 ad ac ab λ ae=>K1 ae) (fA 49 o 3 λ af=>sA 4 af ff q λ ag=>K1 ag)) (λ ah=>∀ _:Env,
 rI (λ K2=>nC s0 λ ai=>fA 81 ai 8 λ aj=>lA 3 aj ah λ ak=>bB .eql 3 ak (i 0) λ al=>cV al (fA 49 o 3 λ am=>lA 4 am ah λ an=>cU Tryz.prog (Op.unary .not an) λ ao=>
 cV ao (cF 13 [s0] ah λ ap aq=>lN 55 ap λ ar=>bB .eql 3 ar (i 0) λ asx=>fA 49 o 4 λ au=>sA 4 au asx aq λ av=>K2 av) (fA 49 o 4 λ aw=>sA 4 aw ff ah λ ax=>K2 ax)) (
 fA 49 o 4 λ ay=>sA 4 ay ff ah λ az=>K2 az)) (λ a0=>∀ _:Env,
 lA 49 o a0 λ a1=>sA 49 a a1 a0 λ a2=>lA 49 a a2 λ r=>K r a2)))))
def P8:eh:=λ i=>match i with
 | 2=>(.of [(0,[]),(1,[]),(2,[]),(3,[]),(4,[]),(5,[]),(6,[]),(7,[]),(8,[]),(9,[]),(10,[]),(11,[]),(12,[]),(13,[3,7,11]),(14,[])])
 | _=>.nil
theorem aks (s0:Value) (h:S8 w K s0):CR 8 [s0] w K:=
 eN 51 P8 4 [.cell 2 49] Tryz.func8 h
def S37 (t0:Value):Prop:=
 cE (λ K1=>nC t0 λ a=>fA 97 a 3 λ b=>lA 95 b w λ c=>lN 95 c λ d=>bB .gtr 3 d (i 0) λ e=>cV e (K1 tt w) (cF 38 [t0] w λ f g=>cU Tryz.prog (Op.unary .not f) λ h=>
 K1 h g)) (λ j k=>∀ _:Env,
 K j k)
theorem aeN (t0:Value) (h:S37 w K t0):CR 37 [t0] w K:=
 eN 14 (λ _=>.nil) 4 [.tmp 2] Tryz.func37 h
def S16 (s0:Value):Prop:=
 nC s0 λ a=>fA 81 a 4 λ b=>lA 78 b w λ c=>cF 55 [c] w λ d e=>K d e
theorem aeO (s0:Value) (h:S16 w K s0):CR 16 [s0] w K:=
 eN 8 (λ _=>.nil) 4 [.tmp 2] Tryz.func16 h
def S6 (p0 H6:Value):Prop:=
 gd Tryz.prog (Instr.box 40 p0) w λ p2 a=>lA 40 p2 a λ b=>cF 22 [b] a λ c d=>xT c 0 λ e=>xT c 1 λ _=>bB .neq 29 e (i 0) λ f=>cV f (K (.tuple #[(.pointer none),e]) d) (
 cF 23 [H6] d λ g h=>xT g 0 λ _=>xT g 1 λ j=>bB .neq 29 j (i 0) λ k=>cV k (K (.tuple #[(.pointer none),j]) h) (lA 40 p2 (drew h) λ l=>lA 40 p2 (drew h) λ n=>lA 40 p2 (drew h) λ o=>
 cF 24 [n] (drew h) λ p q=>kA 40 p2 l q (kA 40 p2 o q (cF 25 [o] q λ r s=>kA 40 p2 l s (cU Tryz.prog (Instr.build 81 [(0,l),(1,p),(2,r),(3,H6)].toArray) λ t=>gd Tryz.prog (Instr.box 81 t) s λ u v=>
 nC u λ x=>fA 81 x 1 λ y=>lA 32 y v λ z=>lN 32 z λ aa=>mn (λ K1 akt ab ac=>∀ _:Env,
 bA .lss 3 ab aa λ ad=>cV ad (lA 40 p2 ac λ ae=>cF 26 [ae,ab] ac λ af ag=>bS 45 1 [(0,af)] ag λ ah ai=>aP 45 akt ah ai λ aj ak=>bB .add 3 ab (i 1) λ al=>K1 aj al ak) (
 lA 40 p2 (drew ac) λ am=>lA 40 p2 (drew ac) λ an=>cF 28 [am] (drew ac) λ ao ap=>kA 40 p2 an ap (cF 29 [an] ap λ aq ar=>cF 27 [akt,ao,aq] ar λ asx au=>xT asx 0 λ av=>
 xT asx 1 λ _=>nC u λ aw=>fA 81 aw 4 λ ax=>sA 78 ax av au λ ay=>fA 40 p2 3 λ az=>lA 35 az ay λ a0=>cF 30 [u,a0] ay λ _ a1=>K (.tuple #[u,(i 0)]) a1))) (λ K1=>K1 (.slice none 0 0) (i 0) v))))))
def P6:eh:=λ i=>match i with
 | 7=>(.of [(0,[]),(1,[]),(3,[]),(5,[]),(2,[0,3]),(4,[0]),(6,[]),(7,[]),(8,[])])
 | 14=>(.of [(0,[]),(1,[]),(2,[]),(4,[]),(3,[4]),(5,[]),(6,[]),(7,[]),(8,[]),(9,[]),(10,[]),(11,[]),(12,[])])
 | _=>.nil
theorem aku (p0 H6:Value) (h:S6 w K p0 H6):CR 6 [p0,H6] w K:=
 eN 69 P6 48 [.tmp 4,.tmp 5] Tryz.func6 h
def S32 (Uk:Value):Prop:=
 lN 45 Uk λ a=>mn (λ K1 n3 b c=>∀ _:Env,
 bA .lss 3 b a λ d=>cV d (iA 45 Uk b λ e=>lA 3 e c λ f=>bB .mul 3 n3 (i 10000) λ g=>bA .add 3 g f λ h=>bB .add 3 b (i 1) λ j=>K1 h j c) (K n3 c)) (λ K1=>K1 (i 0) (i 0) w)
theorem aeP (Uk:Value) (h:S32 w K Uk):CR 32 [Uk] w K:=
 eN 18 (λ _=>.nil) 4 [.tmp 2] Tryz.func32 h
def S39 (s0 f1:Value):Prop:=
 cF 88 [s0,f1] w λ a b=>bB .geq 3 a (i 0) λ c=>K c b
theorem aeQ (s0 f1:Value) (h:S39 w K s0 f1):CR 39 [s0,f1] w K:=
 eN 9 (λ _=>.nil) 16 [.tmp 4] Tryz.func39 h
def S88 (s0 f1:Value):Prop:=
 lN 79 s0 λ a=>fh (λ K1 b c=>∀ _:Env,
 bA .lss 3 b a λ d=>cV d (iA 79 s0 b λ e=>lA 94 e c λ f=>eg Tryz.prog f1 [f] c λ g h=>cV g (K b h) (bB .add 3 b (i 1) λ j=>K1 j h)) (K (i (-1)) c)) (λ K1=>K1 (i 0) w)
theorem aeR (s0 f1:Value) (h:S88 w K s0 f1):CR 88 [s0,f1] w K:=
 eN 19 (λ _=>.nil) 16 [.tmp 4] Tryz.func88 h
theorem aqp:PL 53:=dW Tryz.func53
theorem Zd:PL 13:=dW Tryz.func13
theorem aqq:PL 12:=dW Tryz.func12
theorem akv:PL 79:=dW Tryz.func79
theorem aqr:PL 82:=dW Tryz.func82
theorem aqs:PL 85:=dW Tryz.func85
theorem aqt:PL 36:=dW Tryz.func36
theorem aqu:PL 35:=dW Tryz.func35
theorem akw:PL 30:=dW Tryz.func30
theorem pl7:PL 7:=dW Tryz.func7
theorem aqv:PL 33:=dW Tryz.func33
theorem pl8:PL 8:=dW Tryz.func8
theorem aqw:PL 37:=dW Tryz.func37
theorem akx:PL 16:=dW Tryz.func16
theorem pl6:PL 6:=dW Tryz.func6
theorem aqy:PL 32:=dW Tryz.func32
theorem aqz:PL 39:=dW Tryz.func39
theorem aqA:PL 88:=dW Tryz.func88
end Go.Proofs.YtfkgkbhbdffckaaGreatDoor
namespace Go.Proofs.YtfkgkbhbdffckaaGreatDoor
open Go.Fw
theorem aeS:pr Tryz.prog (Instr.build 42 [].toArray)=some (.agg [.int .i64 0,.int .i64 0,.int .i64 0,.int .i64 0,.int .i64 0].toArray):=by kernel_rfl
theorem MZ (a0:Int):pr Tryz.prog (Instr.build 42 [(0,.int .i64 a0)].toArray)=some (.agg [.int .i64 a0,.int .i64 0,.int .i64 0,.int .i64 0,.int .i64 0].toArray):=by kernel_rfl
theorem OQ (a0:Int) (a1:Int):pr Tryz.prog (Instr.build 42 [(0,.int .i64 a0),(1,.int .i64 a1)].toArray)=some (.agg [.int .i64 a0,.int .i64 a1,.int .i64 0,.int .i64 0,.int .i64 0].toArray):=by kernel_rfl
theorem yC (a0:Int) (a1:Int) (a2:Int):pr Tryz.prog (Instr.build 42 [(0,.int .i64 a0),(1,.int .i64 a1),(2,.int .i64 a2)].toArray)=some (.agg [.int .i64 a0,.int .i64 a1,.int .i64 a2,.int .i64 0,.int .i64 0].toArray):=by kernel_rfl
theorem BO (a0:Int) (a1:Int) (a2:Int) (a3:Int):pr Tryz.prog (Instr.build 42 [(0,.int .i64 a0),(1,.int .i64 a1),(2,.int .i64 a2),(3,.int .i64 a3)].toArray)=some (.agg [.int .i64 a0,.int .i64 a1,.int .i64 a2,.int .i64 a3,.int .i64 0].toArray):=by kernel_rfl
theorem tH (a0:Int) (a2:Int):pr Tryz.prog (Instr.build 42 [(0,.int .i64 a0),(2,.int .i64 a2)].toArray)=some (.agg [.int .i64 a0,.int .i64 0,.int .i64 a2,.int .i64 0,.int .i64 0].toArray):=by kernel_rfl
theorem sM (a0:Int) (a2:Int) (a3:Int):pr Tryz.prog (Instr.build 42 [(0,.int .i64 a0),(2,.int .i64 a2),(3,.int .i64 a3)].toArray)=some (.agg [.int .i64 a0,.int .i64 0,.int .i64 a2,.int .i64 a3,.int .i64 0].toArray):=by kernel_rfl
theorem BP (a0:Int) (a2:Int) (a3:Int) (a4:Int):pr Tryz.prog (Instr.build 42 [(0,.int .i64 a0),(2,.int .i64 a2),(3,.int .i64 a3),(4,.int .i64 a4)].toArray)=some (.agg [.int .i64 a0,.int .i64 0,.int .i64 a2,.int .i64 a3,.int .i64 a4].toArray):=by kernel_rfl
theorem OS (a0:Int) (a3:Int):pr Tryz.prog (Instr.build 42 [(0,.int .i64 a0),(3,.int .i64 a3)].toArray)=some (.agg [.int .i64 a0,.int .i64 0,.int .i64 0,.int .i64 a3,.int .i64 0].toArray):=by kernel_rfl
theorem OT (a0:Int) (a1:Int):pr Tryz.prog (Instr.build 47 [(0,.int .i64 a0),(1,.int .i64 a1)].toArray)=some (.agg [.int .i64 a0,.int .i64 a1,.int .i64 0,.slice none 0 0].toArray):=by kernel_rfl
theorem H7 (a0:Int) (a1:Int) (a2:Int):pr Tryz.prog (Instr.build 47 [(0,.int .i64 a0),(1,.int .i64 a1),(2,.int .i64 a2)].toArray)=some (.agg [.int .i64 a0,.int .i64 a1,.int .i64 a2,.slice none 0 0].toArray):=by kernel_rfl
theorem OU (a0:Int) (a3:Option Addr) (n3 c3:Nat):pr Tryz.prog (Instr.build 47 [(0,.int .i64 a0),(3,.slice a3 n3 c3)].toArray)=some (.agg [.int .i64 a0,.int .i64 0,.int .i64 0,.slice a3 n3 c3].toArray):=by kernel_rfl
theorem H8 (a0:Int) (a1:Int) (a2:Int):pr Tryz.prog (Instr.build 49 [(0,.int .i64 a0),(1,.int .i64 a1),(2,.int .i64 a2)].toArray)=some (.agg [.int .i64 a0,.int .i64 a1,.int .i64 a2,.bool false,.bool false].toArray):=by kernel_rfl
theorem BQ (aky:Option Addr) (akz akA:Nat) (akB:Option Addr) (akC akD:Nat) (akE:Option Addr) (akF akG:Nat) (akH:Option Addr) (akI akJ:Nat) (akK:Option Addr) (akL akM:Nat) (akN:Option Addr) (akO akP:Nat) (a1:Option Addr) (n1 c1:Nat) (a2:Option Addr) (n2 c2:Nat) (a3:Int):pr Tryz.prog (Instr.build 81 [(0,.agg [.slice aky akz akA,.slice akB akC akD,.slice akE akF akG,.slice akH akI akJ,.slice akK akL akM,.slice akN akO akP].toArray),(1,.slice a1 n1 c1),(2,.slice a2 n2 c2),(3,.int .i64 a3)].toArray)=some (.agg [.slice aky akz akA,.slice akB akC akD,.slice akE akF akG,.slice akH akI akJ,.slice akK akL akM,.slice akN akO akP,.slice a1 n1 c1,.slice a2 n2 c2,.int .i64 a3,.pointer none,.slice none 0 0,.slice none 0 0,.int .i64 0,.int .i64 0,.int .i64 0].toArray):=by kernel_rfl
theorem H9 (a0:Option Addr) (a1:Option Addr) (n1 c1:Nat) (a2:Option Addr) (n2 c2:Nat):pr Tryz.prog (Instr.build 97 [(0,.pointer a0),(1,.slice a1 n1 c1),(2,.slice a2 n2 c2)].toArray)=some (.agg [.pointer a0,.slice a1 n1 c1,.slice a2 n2 c2,.slice none 0 0,.int .i64 0].toArray):=by kernel_rfl
theorem Be (a0:Int) (a1:Int):pr Tryz.prog (Instr.build 152 [(0,.int .i64 a0),(1,.int .i64 a1)].toArray)=some (.agg [.int .i64 a0,.int .i64 a1,.int .i64 0,.int .i64 0].toArray):=by kernel_rfl
theorem Bf (a0:Int) (a1:Int) (a2:Int) (a3:Int):pr Tryz.prog (Instr.build 152 [(0,.int .i64 a0),(1,.int .i64 a1),(2,.int .i64 a2),(3,.int .i64 a3)].toArray)=some (.agg [.int .i64 a0,.int .i64 a1,.int .i64 a2,.int .i64 a3].toArray):=by kernel_rfl
structure iu where
 p:bQ
 room:Int
 mem:Mem
 eM:List Int
 l:List iC
 bY:Int
 fault:Int
 lI:Int
structure DA where
 pv:bE
 cv:SV
 kv:SV
 q:Nat
 ov:Value
 fv:Value
 ow:Value
 ll:Value
 ps:List Ptr
@[reducible] def mU (a:DA) (s:iu):List Value:=[Flat.val a.pv.lines,Flat.val a.pv.fr,Flat.val a.pv.dL,Flat.val a.pv.threads,Flat.val a.pv.recover,Flat.val a.pv.dF,Flat.val a.cv,Flat.val a.kv,.int .i64 s.room,.pointer (some ⟨a.q,0,none⟩),a.ow,a.ll,.int .i64 s.bY,.int .i64 s.fault,.int .i64 s.lI]
def ThK (K:World->Prop) (tv:bR) (t:bV):Prop:=∃ (gr gb:SV) (rows:List aW),tv=⟨t.name,gr,gb,t.at_⟩/\(∀ w,K w->dx (λ _=>True) w (Flat.val gr) t.cW)/\∀ w,oc K gb rows t.body w
def Ia (K:World->Prop) (vl:List bR) (uw:List bV):Prop:=vl.length=uw.length/\∀ (j:Nat) (tv:bR) (t:bV),vl[j]? = some tv->uw[j]? = some t->ThK K tv t
structure DUK (K:World->Prop) (a:DA) (s:iu):Prop where
 pr:∀ w,K w->Deep.dr w a.pv s.p
 cs:∀ w,K w->dx (λ _=>True) w (Flat.val a.cv) (cM s.p)
 ks:∀ w,K w->dx (λ _=>True) w (Flat.val a.kv) (cC s.p)
 mem:∀ w,K w->wC a.ov a.fv s.mem w
 rc:∃ vl,(∀ w,K w->dx (λ _=>True) w (Flat.val a.pv.recover) vl)/\Ia K vl s.p.recover
abbrev ua (K:World->Prop) (room:Int) (s:Ptr) (t:iC):HP:=nA K s.b room t
def eR (K:World->Prop) (p:Nat) (m:iu):HP:=yJ λ a:DA=>fact (DUK K a m) (sep (cP p (mU a m)) (sep (fb a.q a.ov a.fv m.mem) (sep (bJ a.ow m.eM) (sep (bJ a.ll a.ps) (gw (ua K m.room) a.ps m.l)))))
def jG (K:World->Prop) (p:Nat) (m:iu) (i:Nat) (tp:Ptr):HP:=yJ λ a:DA=>fact (DUK K a m/\a.ps[i]? = some tp/\a.ps.length=m.l.length/\i<m.l.length) (sep (cP p (mU a m)) (sep (fb a.q a.ov a.fv m.mem) (sep (bJ a.ow m.eM) (sep (bJ a.ll a.ps) (m4 (ua K m.room) a.ps m.l i)))))
section
variable {w w' w0:World} {A:Nat->Prop} {R:List HP} {p:Nat} {K:World->Prop} {m:iu} {a:DA} {i:Nat} {tp:Ptr} {t:iC}
theorem eR.open (hs:St w0 A (eR K p m::R) w):∃ a,DUK K a m/\St w0 A (cP p (mU a m)::fb a.q a.ov a.fv m.mem::bJ a.ow m.eM::bJ a.ll a.ps::gw (ua K m.room) a.ps m.l::R) w:=by
 obtain ⟨a,hs⟩:=hs.eH; obtain ⟨hu,hs⟩:=hs.vN; exact ⟨a,hu,va hs⟩
theorem eR.shut (hu:DUK K a m) (hs:St w0 A (cP p (mU a m)::fb a.q a.ov a.fv m.mem::bJ a.ow m.eM::bJ a.ll a.ps::gw (ua K m.room) a.ps m.l::R) w):St w0 A (eR K p m::R) w:=
 St.eb a (St.re hu (vc hs))
theorem jG.open (hs:St w0 A (jG K p m i tp::R) w):∃ a,(DUK K a m/\a.ps[i]? = some tp/\a.ps.length=m.l.length/\i<m.l.length)/\St w0 A (cP p (mU a m)::fb a.q a.ov a.fv m.mem::bJ a.ow m.eM::bJ a.ll a.ps::m4 (ua K m.room) a.ps m.l i::R) w:=by
 obtain ⟨a,hs⟩:=hs.eH; obtain ⟨hu,hs⟩:=hs.vN; exact ⟨a,hu,va hs⟩
theorem jG.shut (hu:DUK K a m/\a.ps[i]? = some tp/\a.ps.length=m.l.length/\i<m.l.length) (hs:St w0 A (cP p (mU a m)::fb a.q a.ov a.fv m.mem::bJ a.ow m.eM::bJ a.ll a.ps::m4 (ua K m.room) a.ps m.l i::R) w):St w0 A (jG K p m i tp::R) w:=
 St.eb a (St.re hu (vc hs))
structure akQ (K:World->Prop) (w:World) (p:Nat) (m:iu) (a:DA):Prop where
 uk:DUK K a m
 b:q9 w p (mU a m)
 mem:rE w a.q m.mem
 ow:dx (λ _=>True) w a.ow m.eM
 ll:dx (λ _=>True) w a.ll a.ps
 th:∀ (i:Nat) (s:Ptr) (t:iC),a.ps[i]? = some s->m.l[i]? = some t->Has (nA K s.b m.room t) w
 len:a.ps.length=m.l.length
theorem eR.rd (h:Has (eR K p m) w) (hK:K w):∃ a,akQ K w p m a:=by
 obtain ⟨F,hs⟩:=h.st
 obtain ⟨a,hu,hs⟩:=eR.open hs
 exact ⟨a,hu,hs.hb,ET hs.p1 (hu.mem _ hK),hs.p2.gg,hs.p3.gg,λ i s t h1 h2=>hs.p4.ag3 h1 h2 (Φ:=λ w=>Has (nA K s.b m.room t) w) λ h=>⟨_,h⟩,hs.p4.js⟩
theorem Ul {ps:List Ptr} (hs:St w0 A (gw (ua K m.room) ps m.l::R) w) (hp:ps[i]? = some tp) (ht:m.l[i]? = some t):St w0 A (nA K tp.b m.room t::m4 (ua K m.room) ps m.l i::R) w:=hs.focus hp ht
theorem sN (hs:St w0 A (nA K tp.b m.room t::jG K p m i tp::R) w):St w0 A (eR K p {m with l:=m.l.set i t}::R) w:=by
 obtain ⟨a,⟨hu,hp,hl,hi⟩,hs⟩:=jG.open hs.p1
 have h1:St w0 A (ua K m.room tp t::m4 (ua K m.room) a.ps m.l i::_) w:=(hs.p4).p5
 have h2:=h1.Ls hi hl hp
 have h3:=h2.p4.p4.p4.p4
 exact eR.shut (m:={m with l:=m.l.set i t}) ⟨hu.pr,hu.cs,hu.ks,hu.mem,hu.rc⟩ h3
end
def vd (m:iu) (t:iC):Bool:=match l6 t.aY with
 | none=>false
 | some (x,_,_)=>if t.fault≠0\/x.kind=2 then true else if x.kind=3\/x.kind=5\/x.kind=6\/x.kind=7 then !decide (m.room<=t.buf.length)
  else if x.kind=9/\m.eM.getD (cI (cC m.p) x.name).toNat 0≠-1 then false else decide (t.buf.length=0)
def km (m:iu) (i:Nat) (t:iC):List ef:=(if vd m t=true then [⟨1,i,0,[]⟩] else [])++(sH t.buf).map λ k=>⟨2,i,k,[]⟩
def fm (m:iu) (k:Nat):List ef:=(List.range k).flatMap λ i=>match m.l[i]? with | some t=>km m i t | none=>[]
def fG (m:iu):List ef:=if m.fault≠0 then [] else fm m m.l.length
def lJ (m:iu):List ef:=if m.fault≠0 then [] else (yz m.mem).map λ c=>⟨3,0,0,c⟩
theorem uB {m:iu} {k:Nat} {t:iC} (h:m.l[k]? = some t):fm m (k+1)=fm m k++km m k t:=by
 unfold fm; rw [List.range_succ,List.flatMap_append]; simp [h]
def Um (t:iC):Prop:=t.fault=0->∀ x a b,l6 t.aY=some (x,a,b)->(2<=x.kind/\x.kind<=10)/\(dZ t x.e).2=true/\(dZ t x.f).2=true
structure pj (m:iu):Prop where
 mem:wS m.mem
 th:∀ t∈m.l,wH (cM m.p) (cC m.p) t
 tl:m.l.length<=1000
 ow:m.eM.length=(cC m.p).length
 rm:1<=m.room/\m.room<=16
 st:∀ t∈m.l,Um t
 pz:PZ m.p
theorem Bg (l:List aV):(sH l).length<=l.length:=by have:=CM l l.length; rw [A6 l rfl] at this; exact this
theorem Ib (m:iu) (i:Nat) (t:iC):(km m i t).length<=1+t.buf.length:=by
 have:=Bg t.buf
 unfold km; split <;> simp <;> omega
theorem qU {m:iu} (h:pj m):∀ k,(fm m k).length<=k * 1001
 | 0=>by simp [fm]
 | k+1=>by
  have ih:=qU h k
  cases ht:m.l[k]? with
  | none=>
   have e:fm m (k+1)=fm m k:=by unfold fm; rw [List.range_succ,List.flatMap_append]; simp [ht]
   rw [e]; exact Nat.le_trans ih (Nat.mul_le_mul_right 1001 (Nat.le_succ k))
  | some t=>
   rw [uB ht,List.length_append]
   have:=Ib m k t
   have:=(h.th t (List.mem_of_getElem? ht)).bl
   omega
theorem Bh {m:iu} (h:pj m):(fG m).length<=1001000:=by
 unfold fG; split
 ·simp
 exact Nat.le_trans (qU h _) (Nat.mul_le_mul_right 1001 h.tl)
def l7 (m:iu) (t:iC) (c:Int):Int:=if (n7 t.buf c).isSome=true then (n7 t.buf c).getD 0 else kQ m.mem c
def fR (m:iu) (x:aX):Int:=cI (cM m.p) x.name
def gj (m:iu) (x:aX):Int:=cI (cC m.p) x.name
def gN (m:iu) (x:aX):Int:=mD m.p (fR m x)
def ve (m:iu) (t:iC) (y:aV):iC:={t with buf:=tX m.room t.buf y}
def Bi (m:iu) (t:iC) (x:aX):dC:=⟨if (n7 t.buf (fR m x)).isSome=true then 2 else 1,0,fR m x,l7 m t (fR m x),0⟩
def pX (m:iu) (t:iC) (x:aX):iu:=if kQ m.mem (fR m x)=(dZ t x.e).1 then {m with mem:=fN m.mem (fR m x) (dZ t x.f).1} else m
def uC (m:iu) (t:iC) (x:aX):dC:=if kQ m.mem (fR m x)=(dZ t x.e).1 then ⟨8,0,fR m x,kQ m.mem (fR m x),(dZ t x.f).1⟩ else ⟨9,0,fR m x,kQ m.mem (fR m x),0⟩
def oL (m:iu) (x:aX) (i:Int):iu:={m with eM:=m.eM.set (gj m x).toNat i}
def dV (m:iu) (t:iC) (i:Int) (x:aX):iu × iC × dC:=
 if x.kind=2 then (m,pg t x.eB (l7 m t (fR m x)),Bi m t x)
 else if x.kind=3 then (m,ve m t ⟨3,gN m x,fR m x,(dZ t x.e).1⟩,⟨3,0,fR m x,(dZ t x.e).1,0⟩)
 else if x.kind=5 then (m,ve m t ⟨5,gN m x,0,0⟩,⟨4,0,gN m x,0,0⟩)
 else if x.kind=6 then (m,ve m t ⟨6,gN m x,0,0⟩,⟨5,0,gN m x,0,0⟩)
 else if x.kind=7 then (m,ve m t ⟨7,0,0,0⟩,⟨6,0,0,0,0⟩)
 else if x.kind=8 then (m,t,⟨7,0,0,0,0⟩)
 else if x.kind=4 then (pX m t x,pg t x.eB (kQ m.mem (fR m x)),uC m t x)
 else if x.kind=9 then (oL m x i,t,⟨10,0,gj m x,0,0⟩)
 else (oL m x (-1),t,⟨11,0,gj m x,0,0⟩)
def mV (m:iu) (t:iC) (i:Int) (x:aX):iC:=Py { (dV m t i x).2.1 with aY:=fV (dV m t i x).2.1.aY}
def gH (m:iu) (i:Int):iu × dC:=match m.l[i.toNat]? with
 | none=>(m,⟨0,0,0,0,0⟩)
 | some t=>if t.fault≠0 then ({m with fault:=t.fault,lI:=i},⟨16,i,t.fault,0,0⟩) else match l6 t.aY with
  | none=>(m,⟨0,0,0,0,0⟩)
  | some (x,_,_)=>if x.kind=10/\m.eM.getD (gj m x).toNat 0≠i then ({m with fault:=3,lI:=i},⟨16,i,3,0,0⟩)
   else ({ (dV m t i x).1 with l:=m.l.set i.toNat (mV m t i x)},{ (dV m t i x).2.2 with t:=i})
def ub (m:iu) (t:iC) (q:ef):iu:={m with mem:=jA m.mem (eo t.buf q.i),l:=m.l.set q.t.toNat {t with buf:=kf t.buf q.i}}
def Ky (l:List aX):Bk:=(lM l).getD .nil
def wJ (t:bV):iC:=⟨t.cW,List.replicate t.cW.length 0,gW (Ky t.body) false [],0,[]⟩
def OV (t:bV):iC:=Py (wJ t)
def l8 (m:iu) (l:List bV):iu:={m with eM:=List.replicate (cC m.p).length (-1),l:=l.map OV}
def jH (m:iu) (q:ef):Option (List Int):=if q.kind=3/\q.t=0/\q.i=0/\m.fault=0 then gn m.mem q.cut else none
def qV (m:iu) (mT:List Int):iu:={m with mem:=l5 m.mem mT,bY:=m.bY+1}
def sO (m:iu):List bV:=if m.p.recover.length=0 then [⟨⟨#[]⟩,[],[],0⟩] else m.p.recover
def qd (m:iu) (q:ef):iu × dC × Int:=match jH m q with
 | some mT=>(l8 (qV m mT) (sO m),⟨15,0,0,wG q.cut q.cut.length,0⟩,0)
 | none=>if (fG m).any (ru q)=true then
   (if q.kind=2 then (match m.l[q.t.toNat]? with | some t=>(ub m t q,A9 q.t (eo t.buf q.i),0) | none=>(m,⟨0,0,0,0,0⟩,13)) else ((gH m q.t).1,(gH m q.t).2,0))
  else (m,⟨0,0,0,0,0⟩,13)
def pk (t:iC):Bool:=decide (t.aY.length=0) && decide (t.buf.length=0)
def oM (m:iu):Bool:=decide (m.fault=0) && !(List.range m.l.length).any λ i=>match m.l[i]? with | some t=>!pk t | none=>false
def xQ (m:iu):Bool:=decide (m.fault=0) && (!oM m && decide (((fG m).length:Int)=0))
def iZ (m:iu):iD:=⟨m.bY,m.fault,m.lI,oM m,xQ m⟩
def uD (p:bQ):List Int:=(List.range (cM p).length).map fun (i:Nat)=>mD p (i:Int)
def sP (p:bQ) (room:Int):iu:=⟨p,room,T7 (uD p) (dX p) (iY p),[],[],0,0,0⟩
def xR (p:bQ) (room:Int):iu:=l8 (sP p room) p.threads
end Go.Proofs.YtfkgkbhbdffckaaGreatDoor
