/-
  Part 5.
-/
import Derived.Test.YtfkgkbhbdffckaaGreatDoorVcM4
set_option linter.all false
set_option maxHeartbeats 8000000
set_option maxRecDepth 100000
namespace Go.Proofs.YtfkgkbhbdffckaaGreatDoor
open Go.Fw
def plsH:Nat->Nat->PT
 | _,_=>.nil
def fsH:List Nat:=[225,227,249,250,253,257,259,260,263]
theorem okFsH:List.all fsH (okF Tryz.prog plsH)=true:=by kernel_rfl
def hasN:List (Nat × Nat):=[(0,0),(25970,2),(28274,2),(25966,2),(1717923442,4),(110,1),(110,1),(0,0),(0,0),(110,1),(110,1),(25189,2),(25195,2),(0,0),(101,1)]
def letN:List Nat:=[107,114,110,101,102]
noncomputable def hasR (k:Nat) (p:Nat × Nat):Bool:=okKB (evF Tryz.prog (onlyF fsH (prepF Tryz.prog plsH)) 200 (.f 225 .e) (.c (.i .i64 (k:Int)) .e) .lf 0) (λ v _=>sEq v p)
noncomputable def conR (p:Nat × Nat) (c:Nat) (b:Bool):Bool:=okKB (evF Tryz.prog (onlyF fsH (prepF Tryz.prog plsH)) 200 (.f 227 .e) (.c (.s p.1 p.2) (.c (.s c 1) .e)) .lf 0) (λ v _=>V.eqs true v (.b b))
def amN (p:Nat × Nat) (c:Nat):Bool:=(bts (strOf p.1 p.2)).any λ b=>decide ((b.toNat:Int)=(c:Int))
noncomputable def hasA (k:Nat) (l:List (Nat × Nat)):Bool:=List.rec (motive:=λ _=>Nat->Bool) (λ _=>true) (λ p _ ih k=>andB (hasR k p) (ih (Nat.succ k))) l k
theorem runHas:hasA 0 hasN=true:=by kernel_rfl
noncomputable def conA (l:List (Nat × Nat)):Bool:=List.all l λ p=>List.all letN λ c=>conR p c (amN p c)
theorem runCon:conA hasN=true:=by kernel_rfl
theorem hasA_at:∀ (l:List (Nat × Nat)) (k j:Nat) (p:Nat × Nat),hasA k l=true->l[j]? = some p->hasR (k+j) p=true
 | [],_,_,_,_,h=>by simp at h
 | q::l,k,0,p,h,hj=>by
  obtain ⟨h1,_⟩:=and_ok (show andB (hasR k q) (hasA (Nat.succ k) l)=true from h)
  simp at hj; subst hj; exact h1
 | q::l,k,j+1,p,h,hj=>by
  obtain ⟨_,h1⟩:=and_ok (show andB (hasR k q) (hasA (Nat.succ k) l)=true from h)
  have:=hasA_at l (Nat.succ k) j p h1 (by simpa using hj)
  rw [show k+(j+1)=Nat.succ k+j from by omega]; exact this
theorem hasN_S:hasN.map (λ p=>strOf p.1 p.2)=hasL:=by decide
theorem hasS_at {k:Int} (h0:0<=k) (h1:k<15):∃ p,hasN[k.toNat]? = some p/\strOf p.1 p.2=hasS k:=by
 have hl:k.toNat<hasN.length:=by show _<15; omega
 refine ⟨_,List.getElem?_eq_getElem hl,?_⟩
 have h2:(hasN.map (λ p=>strOf p.1 p.2))[k.toNat]? = some (strOf (hasN[k.toNat]).1 (hasN[k.toNat]).2):=by rw [List.getElem?_map,List.getElem?_eq_getElem hl]; rfl
 rw [hasN_S] at h2
 unfold hasS
 split
 ·obtain rfl:k=0:=by omega
  cases h2; rfl
 rw [List.getD_eq_getElem?_getD,h2]; rfl
theorem C225 (k:Int) (w:World):CR 225 [.int .i64 k] w (λ v w'=>v = .string (hasS k)/\Ext w w'):=by
 by_cases hk:0<=k/\k<15
 ·obtain ⟨p,hp,hs⟩:=hasS_at hk.1 hk.2;have h:=hasA_at hasN 0 k.toNat p runHas hp;rw [Nat.zero_add] at h;have hkk:((k.toNat:Nat):Int)=k:=by omega
  have key:=run_genA mixed okFsH (args:=.c (.i .i64 (k.toNat:Int)) .e) (xs:=[.int .i64 (k.toNat:Int)]) ⟨_,_,rfl,rfl,rfl⟩ h w;rw [hkk] at key;refine key.mono λ e w' ⟨y,he,hext,v,h,ρ,hk2,hR,hv⟩=>?_;obtain ⟨n,m,rfl,h9⟩:=sEq_ok hk2;refine ⟨_,he,?_,hext⟩;rw [<- hs,<- h9]; exact hv
 refine S225_ok _ _ _ ?_;unfold S225;refine ⟨λ jv w'=>jv = .bool true/\Ext w w',pop_lss (cond_d (λ _=>⟨rfl,Ext.refl w⟩) (λ _=>pop_geq ⟨vb (decide_eq_true (by omega)),Ext.refl w⟩)),?_⟩;rintro _ _ ⟨rfl,he⟩ _;refine cond_b (λ _=>⟨?_,he⟩) (λ h=>by cases h);unfold hasS; rw [if_pos (by omega)]
theorem hasS_all (k:Int):∃ p∈hasN,strOf p.1 p.2=hasS k:=by
 by_cases hk:0<=k/\k<15
 ·obtain ⟨p,hp,hs⟩:=hasS_at hk.1 hk.2
  exact ⟨p,List.mem_of_getElem? hp,hs⟩
 refine ⟨(0,0),by decide,?_⟩
 unfold hasS; rw [if_pos (by omega)]; decide
def letS (c:Nat):ByteArray:=⟨#[c.toUInt8]⟩
theorem letS_e:∀ c∈letN,strOf c 1=letS c:=by decide
theorem C227 (k:Int) (c:Nat) (hc:c∈letN) (w:World):CR 227 [.string (hasS k),.string (letS c)] w (λ v w'=>v = .bool (amongM (hasS k) c)/\Ext w w'):=by
 obtain ⟨p,hp,hs⟩:=hasS_all k;have h:=List.all_eq_true.1 (List.all_eq_true.1 runCon p hp) c hc;have key:=run_genA mixed okFsH (args:=.c (.s p.1 p.2) (.c (.s c 1) .e)) (xs:=[.string (strOf p.1 p.2),.string (strOf c 1)]) ⟨_,_,rfl,rfl,_,_,rfl,rfl,rfl⟩ h w;rw [hs,letS_e c hc] at key;refine key.mono λ e w' ⟨y,he,hext,v,h,ρ,hk2,hR,hv⟩=>?_;have e2:=(eqs_spec _ _ hk2).1;subst e2;refine ⟨_,he,?_,hext⟩;rw [show y = .bool (amN p c) from hv];unfold amN amongM;rw [hs]
theorem pl227:PL 227:=plE Tryz.func227
theorem C226 (k:Int) (c b2:Nat) (w:World) (hc:Cell w b2 0 (.string (hasS k))) (hm:c∈letN):CR 226 [.string (letS c),.pointer (some ⟨b2,0,none⟩)] w (λ v w'=>v = .bool (amongM (hasS k) c)/\Ext w w'):=by
 have hs:=St.start w;refine S226_ok _ _ _ _ ?_;unfold S226;exact qop_cell ty9 (hc.ext hs.chg) (callP pl227 hs (C227 k c hm _) (λ _ _ hs=>⟨rfl,hs.chg⟩))
theorem C228 (b:Bool) (s:ByteArray) (w:World):CR 228 [.bool b,.string s] w (λ v w'=>v = .bool ((b && nameM s) || (!b && decide (s=⟨#[]⟩)))/\Ext w w'):=by
 have hs:=St.start w;refine S228_ok _ _ _ _ ?_;unfold S228;refine ⟨λ jv w'=>jv = .bool ((b && nameM s) || (!b && decide (s=⟨#[]⟩)))/\St w none1 [] w',cond_b (λ _=>callP pl118 hs (C118 _ _) (λ _ _ hs=>cond_b (λ _=>⟨vb (by grind),hs⟩) (λ _=>pop_not (cond_b (λ _=>pop_streq ⟨vb (by grind),hs⟩) (λ _=>⟨vb (by grind),hs⟩))))) (λ _=>pop_not (cond_b (λ _=>pop_streq ⟨vb (by grind),hs⟩) (λ _=>⟨vb (by grind),hs⟩))),?_⟩;rintro _ _ ⟨rfl,hs⟩ _;exact ⟨rfl,hs.chg⟩
theorem C229 (b:Bool) (lv:Value) (xs:List TNode) (w:World) (hL:RdL (λ _=>True) w lv xs) (hn:xs.length<=1048576):CR 229 [.bool b,lv] w (λ v w'=>v = .bool ((b && rightE xs) || (!b && decide (xs.length=0)))/\Ext w w'):=by
 have hs:=St.start w;refine S229_ok _ _ _ _ ?_;unfold S229;refine ⟨λ jv w'=>jv = .bool ((b && rightE xs) || (!b && decide (xs.length=0)))/\St w none1 [] w',cond_b (λ _=>callP pl123 hs (C123 _ _ _ (hL.ext hs.chg) (by omega)) (λ _ _ hs=>cond_b (λ _=>⟨vb (by grind),hs⟩) (λ _=>pop_not (cond_b (λ _=>pop_len sl22 (hL.ext hs.chg) (pop_eql ⟨vb (by grind),hs⟩)) (λ _=>⟨vb (by grind),hs⟩))))) (λ _=>pop_not (cond_b (λ _=>pop_len sl22 (hL.ext hs.chg) (pop_eql ⟨vb (by grind),hs⟩)) (λ _=>⟨vb (by grind),hs⟩))),?_⟩;rintro _ _ ⟨rfl,hs⟩ _;exact ⟨rfl,hs.chg⟩
theorem odd_e {x:TStmt} {ro:Bool} (h:ro=(if amongM (hasS x.kind) 107=true then decide (1<=x.n/\x.n<=8) else decide (x.n=0))) :
  (!(decide (1<=x.kind/\x.kind<15/\0<=x.at_/\x.at_<=4000) && ro) || (!(amongM (hasS x.kind) 114 && nameM x.reg || !amongM (hasS x.kind) 114 && decide (x.reg=⟨#[]⟩)) || (!(amongM (hasS x.kind) 110 && nameM x.name || !amongM (hasS x.kind) 110 && decide (x.name=⟨#[]⟩)) ||
  (!(amongM (hasS x.kind) 101 && rightE x.e || !amongM (hasS x.kind) 101 && decide (x.e.length=0)) || !(amongM (hasS x.kind) 102 && rightE x.f || !amongM (hasS x.kind) 102 && decide (x.f.length=0)))))) = !fitsM x:=by
 subst h
 have hr:nameM x.reg=true->¬ x.reg=⟨#[]⟩:=λ h e=>by rw [e] at h; exact absurd h (by decide)
 have hm:nameM x.name=true->¬ x.name=⟨#[]⟩:=λ h e=>by rw [e] at h; exact absurd h (by decide)
 have he:rightE x.e=true->¬ x.e.length=0:=λ h e=>by rw [List.length_eq_zero_iff.1 e] at h; exact absurd h (by decide)
 have hf:rightE x.f=true->¬ x.f.length=0:=λ h e=>by rw [List.length_eq_zero_iff.1 e] at h; exact absurd h (by decide)
 unfold fitsM
 cases h1:amongM (hasS x.kind) 114 <;> cases h2:amongM (hasS x.kind) 110 <;> cases h3:amongM (hasS x.kind) 101 <;> cases h4:amongM (hasS x.kind) 102 <;> cases h5:amongM (hasS x.kind) 107 <;> simp <;> grind
theorem C201 (x:TStmt) (xv:TStmtV) (w:World) (hx:Deep.dr w xv x) (he0:x.e.length<=1048576) (hf0:x.f.length<=1048576):CR 201 [Flat.val xv] w (λ v w'=>v = .bool (!fitsM x)/\Ext w w'):=by
 obtain ⟨g_e_x,g_f_x,rfl,d_e_x,d_f_x⟩:=hx;have hs:=St.start w;refine S201_ok _ _ _ ?_;unfold S201;refine eop_boxV hs (λ b_x1 _ hs=>pop_field fld24_0 (qop_blk (v:=.int .i64 ((x).kind)) ty3 hs.hb rfl (callP pl225 hs (C225 _ _) (λ _ he hs=>eop_alloc1 hs zero9 rfl (λ b_h3 _ hs=>uop_blk hs ty9 (leb rfl) (rfl) (λ _ hs=>pop_field fld24_5 (qop_blk (v:=.int .i64 ((x).n)) ty3 hs.p1.hb rfl (pop_eql ⟨λ jv w'=>jv = .bool ((if amongM (hasS x.kind) 107=true then decide (1<=x.n/\x.n<=8) else decide (x.n=0)))/\St w none1 [blk b_h3 [.string (hasS x.kind)],blk b_x1 (Flat.enc (⟨(x).kind,(x).reg,(x).name,g_e_x,g_f_x,(x).n,(x).body,(x).els,(x).at_⟩:TStmtV))] w',?_,?_⟩))))))))
 ·refine callV pl226 (C226 x.kind 107 b_h3 _ (hs.hb.cell rfl) (by decide)) ?_;rintro _ _ ⟨rfl,he⟩;have hs:=hs.ext he;exact cond_b (λ _=>pop_field fld24_5 (qop_blk (v:=.int .i64 ((x).n)) ty3 hs.p1.hb rfl (pop_geq (cond_d (λ _=>pop_field fld24_5 (qop_blk (v:=.int .i64 ((x).n)) ty3 hs.p1.hb rfl (pop_leq ⟨vb (by grind),hs⟩))) (λ _=>⟨vb (by grind),hs⟩))))) (λ _=>⟨vb (by grind),hs⟩)
 rintro _ _ ⟨rfl,hs⟩ _;refine ⟨λ jv w'=>jv = .bool (decide (1<=x.kind/\x.kind<15/\0<=x.at_/\x.at_<=4000) && (if amongM (hasS x.kind) 107=true then decide (1<=x.n/\x.n<=8) else decide (x.n=0)))/\St w none1 [blk b_h3 [.string (hasS x.kind)],blk b_x1 (Flat.enc (⟨(x).kind,(x).reg,(x).name,g_e_x,g_f_x,(x).n,(x).body,(x).els,(x).at_⟩:TStmtV))] w',?_,?_⟩
 ·refine pop_field fld24_0 (qop_blk (v:=.int .i64 ((x).kind)) ty3 hs.p1.hb rfl ?_);refine pop_geq ?_;exact cond_d (λ _=>pop_field fld24_0 (qop_blk (v:=.int .i64 ((x).kind)) ty3 hs.p1.hb rfl (pop_lss (cond_d (λ _=>pop_field fld24_8 (qop_blk (v:=.int .i64 ((x).at_)) ty3 hs.p1.hb rfl (pop_geq (cond_d (λ _=>pop_field fld24_8 (qop_blk (v:=.int .i64 ((x).at_)) ty3 hs.p1.hb rfl (pop_leq (cond_d (λ _=>⟨vb (by grind),hs⟩) (λ _=>⟨vb (by grind),hs⟩))))) (λ _=>⟨vb (by grind),hs⟩))))) (λ _=>⟨vb (by grind),hs⟩))))) (λ _=>⟨vb (by grind),hs⟩)
 rintro _ _ ⟨rfl,hs⟩ _;refine ⟨λ jv w'=>jv = .bool (!fitsM x)/\St w none1 [blk b_h3 [.string (hasS x.kind)],blk b_x1 (Flat.enc (⟨(x).kind,(x).reg,(x).name,g_e_x,g_f_x,(x).n,(x).body,(x).els,(x).at_⟩:TStmtV))] w',pop_not (cond_b (λ _=>have hs:=hs.drew;⟨vb (by rw [<- odd_e rfl]; grind),hs⟩) (λ c_x48=>?_)),?_⟩
 ·refine pop_field fld24_1 ?_;have hs:=hs.drew;refine qop_blk (v:=.string ((x).reg)) ty9 hs.p1.hb rfl (callV pl226 (C226 x.kind 114 b_h3 _ (hs.hb.cell rfl) (by decide)) ?_);rintro _ _ ⟨rfl,he⟩;have hs:=hs.ext he;refine ⟨run_loadOne ty9 (hs.p1.hb.cell rfl),?_⟩;refine callV pl228 (C228 _ x.reg _) ?_;rintro _ _ ⟨rfl,he⟩;have hs:=hs.ext he;refine pop_not (cond_b (λ _=>⟨vb (by rw [<- odd_e rfl]; grind),hs⟩) (λ c_x56=>pop_field fld24_2 ?_));refine qop_blk (v:=.string ((x).name)) ty9 hs.p1.hb rfl (callV pl226 (C226 x.kind 110 b_h3 _ (hs.hb.cell rfl) (by decide)) ?_);rintro _ _ ⟨rfl,he⟩;have hs:=hs.ext he;refine ⟨run_loadOne ty9 (hs.p1.hb.cell rfl),?_⟩;refine callV pl228 (C228 _ x.name _) ?_
  rintro _ _ ⟨rfl,he⟩;have hs:=hs.ext he;refine pop_not (cond_b (λ _=>⟨vb (by rw [<- odd_e rfl]; grind),hs⟩) (λ c_x65=>pop_field fld24_3 ?_));refine qop_blk ty22 hs.p1.hb rfl ?_;have hf1:=DL.flat (d_e_x);refine callV pl226 (C226 x.kind 101 b_h3 _ (hs.hb.cell rfl) (by decide)) ?_;rintro _ _ ⟨rfl,he⟩;have hs:=hs.ext he;refine ⟨run_loadOne ty22 (hs.p1.hb.cell rfl),?_⟩;refine callV pl229 (C229 _ _ x.e _ (hf1.ext hs.chg) he0) ?_;rintro _ _ ⟨rfl,he⟩;have hs:=hs.ext he;refine pop_not (cond_b (λ _=>⟨vb (by rw [<- odd_e rfl]; grind),hs⟩) (λ c_x74=>pop_field fld24_4 ?_));refine qop_blk ty22 hs.p1.hb rfl ?_;have hf2:=DL.flat (d_f_x);refine callV pl226 (C226 x.kind 102 b_h3 _ (hs.hb.cell rfl) (by decide)) ?_
  rintro _ _ ⟨rfl,he⟩;have hs:=hs.ext he;refine ⟨run_loadOne ty22 (hs.p1.hb.cell rfl),?_⟩;refine callV pl229 (C229 _ _ x.f _ (hf2.ext hs.chg) hf0) ?_;rintro _ _ ⟨rfl,he⟩;have hs:=hs.ext he;exact pop_not ⟨vb (by rw [<- odd_e rfl]; grind),hs⟩
 rintro _ _ ⟨rfl,hs⟩ _;exact ⟨rfl,hs.drop.drop.chg⟩
structure FitX (x:TStmt):Prop where
 kind:1<=x.kind/\x.kind<=14
 at0:0<=x.at_/\x.at_<=4000
 e:(amongM (hasS x.kind) 101=true/\rightE x.e=true)\/(amongM (hasS x.kind) 101=false/\x.e=[])
 f:(amongM (hasS x.kind) 102=true/\rightE x.f=true)\/(amongM (hasS x.kind) 102=false/\x.f=[])
 reg:(amongM (hasS x.kind) 114=true/\nameM x.reg=true)\/(amongM (hasS x.kind) 114=false/\x.reg=⟨#[]⟩)
 name:(amongM (hasS x.kind) 110=true/\nameM x.name=true)\/(amongM (hasS x.kind) 110=false/\x.name=⟨#[]⟩)
 n:(amongM (hasS x.kind) 107=true/\1<=x.n/\x.n<=8)\/(amongM (hasS x.kind) 107=false/\x.n=0)
theorem fits_spec {x:TStmt} (h:fitsM x=true):FitX x:=by
 unfold fitsM at h
 simp only [Bool.and_eq_true,Bool.not_eq_true',Bool.or_eq_false_iff,decide_eq_false_iff_not,bne_eq_false_iff_eq,Bool.and_eq_false_iff,Bool.not_eq_false',Decidable.not_not] at h
 obtain ⟨⟨⟨h1,h2⟩,h3⟩,h4⟩:=h
 constructor
 ·omega
 ·omega
 ·cases hh:amongM (hasS x.kind) 101 <;> grind
 ·cases hh:amongM (hasS x.kind) 102 <;> grind
 ·cases hh:amongM (hasS x.kind) 114 <;> grind
 ·cases hh:amongM (hasS x.kind) 110 <;> grind
 cases hh:amongM (hasS x.kind) 107 <;> grind
theorem has_12:amongM (hasS 12) 107=true:=by decide
theorem rightS_spec {l:List TStmt} (h:rightS l=true):l.length<=40/\(∀ x∈l,fitsM x=true)/\∃ t:Bk,l=t.flat/\t.str/\t.ok 0=true/\t.depth<=12:=by
 unfold rightS at h
 simp only [Bool.and_eq_true,decide_eq_true_eq,Bool.not_eq_true'] at h
 obtain ⟨⟨h1,h2⟩,h3⟩:=h
 rw [List.any_eq_false] at h2
 refine ⟨h1,λ x hx=>by simpa using h2 x hx,?_⟩
 unfold deepS at h3
 cases hb:bkOf l with
 | none=>rw [hb] at h3; simp only [] at h3; omega
 | some t=>
  rw [hb] at h3
  obtain ⟨g1,g2⟩:=bkOf_sound hb
  refine ⟨t,g1,g2,?_⟩
  cases ho:t.ok 0 with
  | true=>simp only [ho,if_true] at h3; exact ⟨rfl,h3.2⟩
  | false=>simp [ho] at h3
structure PF (p:TProg):Prop where
 lines:∀ l∈p.lines,l≠[]/\∀ c∈l,oddCell 4294967296 c=false
 vols:∀ c∈p.vols,oddCell 4294967296 c=false
 locks:∀ c∈p.locks,oddCell 0 c=false
 th:∀ t∈p.threads,oddTh true t=false
 rc:∀ t∈p.recover,oddTh false t=false
 cl:∀ c∈p.claims,0<=c.at_/\rightE c.e=true
 one:p.recover.length<=1
theorem rightP_spec {p:TProg} (h:rightP p=true):PF p:=by
 unfold rightP cellsM threadsM at h
 simp only [Bool.and_eq_true,Bool.not_eq_true',List.any_eq_false,decide_eq_true_eq] at h
 obtain ⟨⟨h1,h2⟩,⟨⟨h3,h4⟩,h5⟩,h6⟩:=h
 refine ⟨λ l hl=>?_,λ c hc=>by simpa using h3.1 c hc,λ c hc=>by simpa using h3.2 c hc,λ t ht=>by simpa using h4 t ht,λ t ht=>by simpa using h5 t ht,λ c hc=>?_,h6⟩
 ·have:=h1 l hl
  unfold oddLine cellsM at this
  simp only [Bool.or_eq_true,decide_eq_true_eq,not_or,Bool.not_not,List.any_eq_true,not_exists,not_and,Bool.not_eq_true] at this
  exact ⟨λ h=>this.1 (by rw [h]; rfl),this.2⟩
 have:=h2 c hc
 unfold oddClaim placeOk at this
 simp only [Bool.or_eq_true,Bool.not_eq_true',not_or,Bool.not_eq_false,decide_eq_true_eq,decide_eq_false_iff_not,Decidable.not_not] at this
 exact ⟨this.1.1,by simpa using this.2⟩
theorem oddTh_spec {nb:Bool} {t:TThread} (h:oddTh nb t=false):0<=t.at_/\rightS t.body=true/\(∀ s∈t.regs,nameM s=true)/\nameM t.name=nb:=by
 unfold oddTh oddTh0 placeOk at h
 simp only [Bool.or_eq_false_iff,Bool.not_eq_false',decide_eq_true_eq,List.any_eq_false,bne_eq_false_iff_eq] at h
 obtain ⟨⟨⟨⟨h1,_⟩,h2⟩,h3⟩,h4⟩:=h
 exact ⟨h2.1,h3,λ s hs=>by simpa using h4 s hs,h1.symm⟩
def thsM (p:TProg):List TThread:=p.threads++p.recover
theorem PF.ths {p:TProg} (h:PF p) {t:TThread} (ht:t∈thsM p):0<=t.at_/\rightS t.body=true/\∀ s∈t.regs,nameM s=true:=by
 unfold thsM at ht
 rcases List.mem_append.1 ht with ht | ht
 ·have:=oddTh_spec (h.th t ht); exact ⟨this.1,this.2.1,this.2.2.1⟩
 have:=oddTh_spec (h.rc t ht); exact ⟨this.1,this.2.1,this.2.2.1⟩
def firstsM (p:TProg):List Int:=(allC p).map TCell.n
def staysM (p:TProg):Int:=(p.lines.flatten.length:Int)
def cellNs (p:TProg):List ByteArray:=(allC p).map TCell.name
def lockNs (p:TProg):List ByteArray:=p.locks.map TCell.name
def lineF:List (List TCell)->Int->Int->Int
 | [],i,a=>i+a
 | l::r,i,a=>if a<l.length then i else lineF r (i+1) (a - l.length)
def lineM (p:TProg) (c:Int):Int:=if c<0\/(allC p).length<=c then -1 else lineF p.lines 0 c
def varsB (l:List TNode) (ns:List ByteArray):Bool:=l.any λ x=>decide (x.op=2) && decide (placeM ns x.name<0)
def wildN (x:TStmt) (n:Int):Int:=if x.kind=12 then n * x.n else n
def wildB:Bk->Int->Bool
 | .nil,_=>false
 | .cons x a b r,n=>decide (64<wildN x n) || (wildB a (wildN x n) || wildB b (wildN x n)) || wildB r n
def Bk.app:Bk->Bk->Bk
 | .nil,t=>t
 | .cons x a b r,t=>.cons x a b (r.app t)
theorem Bk.app_flat (a b:Bk):(a.app b).flat=a.flat++b.flat:=by
 induction a with
 | nil=>rfl
 | cons x c d r _ _ ih=>simp only [Bk.app,Bk.flat,ih,List.cons_append,List.append_assoc]
theorem Bk.app_str {a b:Bk} (ha:a.str) (hb:b.str):(a.app b).str:=by
 induction a with
 | nil=>exact hb
 | cons x c d r _ _ ih=>
  obtain ⟨h1,h2,h3,h4,h5,h6,h7⟩:=ha
  exact ⟨h1,h2,h3,h4,h5,h6,ih h7⟩
theorem wildB_app (a b:Bk) (n:Int):wildB (a.app b) n=(wildB a n || wildB b n):=by
 induction a with
 | nil=>simp [Bk.app,wildB]
 | cons x c d r _ _ ih=>simp only [Bk.app,wildB,ih,Bool.or_assoc]
def wildL (l:List TStmt):Bool:=match bkOf l with | some t=>wildB t 1 | none=>false
theorem wildL_flat {t:Bk} (h:t.str):wildL t.flat=wildB t 1:=by unfold wildL; rw [bkOf_flat h]
def declsM (p:TProg):List TCell:=allC p++p.locks++p.threads.map (λ t=>⟨t.name,0,t.at_⟩)
def twiceAt (l:List TCell) (j:Nat):Bool:=match l[j]? with | some c=>decide (placeM (l.map TCell.name) c.name<j) | none=>false
def twiceB (l:List TCell):Bool:=(List.range l.length).any (twiceAt l)
def regAt (p:TProg) (rs:List ByteArray) (j:Nat):Bool:=match rs[j]? with | some s=>decide (placeM rs s<j) || decide (0<=placeM (cellNs p) s) || decide (0<=placeM (lockNs p) s) | none=>false
def regB (p:TProg) (rs:List ByteArray):Bool:=(List.range rs.length).any (regAt p rs)
def stmtB (p:TProg) (rs:List ByteArray) (x:TStmt):Bool:=
 (decide (¬ x.reg=⟨#[]⟩) && decide (placeM rs x.reg<0)) ||
 ((decide (x.kind=2) || decide (x.kind=3) || decide (x.kind=4)) && decide (placeM (cellNs p) x.name<0)) ||
 ((decide (x.kind=5) || decide (x.kind=6)) && (decide (placeM (cellNs p) x.name<0) || decide (staysM p<=placeM (cellNs p) x.name))) ||
 ((decide (x.kind=9) || decide (x.kind=10)) && decide (placeM (lockNs p) x.name<0)) || varsB x.e rs || varsB x.f rs
def bigM (p:TProg):Bool:=p.lines.any (λ l=>decide (4<(l.length:Int))) || (thsM p).any (λ t=>decide (4<(t.regs.length:Int))) ||
 (decide (4<(p.lines.length:Int)) || decide (4<(p.vols.length:Int)) || decide (2<(p.locks.length:Int)) || decide ((p.threads.length:Int)<1) || decide (3<(p.threads.length:Int)) || decide (4<(p.claims.length:Int)))
def stayNs (p:TProg):List ByteArray:=(cellNs p).take (staysM p).toNat
def checkE (p:TProg):Int:=
 if rightP p=false then 8 else if bigM p=true then 2 else if (thsM p).any (λ t=>wildL t.body)=true then 11 else if twiceB (declsM p)=true then 10
 else if (thsM p).any (λ t=>regB p t.regs)=true then 10 else if (thsM p).any (λ t=>t.body.any (stmtB p t.regs))=true then 9
 else if p.claims.any (λ c=>varsB c.e (stayNs p))=true then 9 else 0
theorem fits_q {x:TStmt} (h:fitsM x=true):0<=x.at_/\(x.kind=12->1<=x.n/\x.n<=8):=by
 have h:=fits_spec h
 refine ⟨h.at0.1,λ hk=>?_⟩
 rcases h.n with h | h
 ·exact h.2
 rw [hk,has_12] at h; exact absurd h.1 (by decide)
section
variable {p:TProg}
theorem ce8 (h1:rightP p=false):checkE p=8:=by unfold checkE; rw [if_pos h1]
theorem ce2 (h1:rightP p=true) (h2:bigM p=true):checkE p=2:=by unfold checkE; rw [if_neg (by rw [h1]; decide),if_pos h2]
theorem ce11 (h1:rightP p=true) (h2:bigM p=false) (h3:(thsM p).any (λ t=>wildL t.body)=true):checkE p=11:=by unfold checkE; rw [if_neg (by rw [h1]; decide),if_neg (by rw [h2]; decide),if_pos h3]
theorem ce10 (h1:rightP p=true) (h2:bigM p=false) (h3:(thsM p).any (λ t=>wildL t.body)=false) (h4:twiceB (declsM p)=true):checkE p=10:=by
 unfold checkE; rw [if_neg (by rw [h1]; decide),if_neg (by rw [h2]; decide),if_neg (by rw [h3]; decide),if_pos h4]
theorem ce10' (h1:rightP p=true) (h2:bigM p=false) (h3:(thsM p).any (λ t=>wildL t.body)=false) (h4:twiceB (declsM p)=false) (h5:(thsM p).any (λ t=>regB p t.regs)=true):checkE p=10:=by
 unfold checkE; rw [if_neg (by rw [h1]; decide),if_neg (by rw [h2]; decide),if_neg (by rw [h3]; decide),if_neg (by rw [h4]; decide),if_pos h5]
theorem ce9 (h1:rightP p=true) (h2:bigM p=false) (h3:(thsM p).any (λ t=>wildL t.body)=false) (h4:twiceB (declsM p)=false) (h5:(thsM p).any (λ t=>regB p t.regs)=false)
  (h6:(thsM p).any (λ t=>t.body.any (stmtB p t.regs))=true):checkE p=9:=by
 unfold checkE; rw [if_neg (by rw [h1]; decide),if_neg (by rw [h2]; decide),if_neg (by rw [h3]; decide),if_neg (by rw [h4]; decide),if_neg (by rw [h5]; decide),if_pos h6]
theorem ce9' (h1:rightP p=true) (h2:bigM p=false) (h3:(thsM p).any (λ t=>wildL t.body)=false) (h4:twiceB (declsM p)=false) (h5:(thsM p).any (λ t=>regB p t.regs)=false)
  (h6:(thsM p).any (λ t=>t.body.any (stmtB p t.regs))=false) (h7:p.claims.any (λ c=>varsB c.e (stayNs p))=true):checkE p=9:=by
 unfold checkE; rw [if_neg (by rw [h1]; decide),if_neg (by rw [h2]; decide),if_neg (by rw [h3]; decide),if_neg (by rw [h4]; decide),if_neg (by rw [h5]; decide),if_neg (by rw [h6]; decide),if_pos h7]
theorem ce0 (h1:rightP p=true) (h2:bigM p=false) (h3:(thsM p).any (λ t=>wildL t.body)=false) (h4:twiceB (declsM p)=false) (h5:(thsM p).any (λ t=>regB p t.regs)=false)
  (h6:(thsM p).any (λ t=>t.body.any (stmtB p t.regs))=false) (h7:p.claims.any (λ c=>varsB c.e (stayNs p))=false):checkE p=0:=by
 unfold checkE; rw [if_neg (by rw [h1]; decide),if_neg (by rw [h2]; decide),if_neg (by rw [h3]; decide),if_neg (by rw [h4]; decide),if_neg (by rw [h5]; decide),if_neg (by rw [h6]; decide),if_neg (by rw [h7]; decide)]
theorem cellNs_len (hz:PS p):(cellNs p).length<=250500:=by unfold cellNs; rw [List.length_map]; exact allC_len hz
theorem ths_len (hz:PS p):(thsM p).length<=1000:=by
 have:=hz.threads
 have:=hz.recover
 unfold thsM; rw [List.length_append]; omega
theorem PZ.ths (hz:PZ p) {t:TThread} (ht:t∈thsM p):SzT t/\t.regs.length<=500/\t.body.length<=500:=by
 refine ⟨?_,hz.regs t ht,hz.body t ht⟩
 rcases List.mem_append.1 ht with h | h
 ·exact hz.zt t h
 exact hz.zr t h
end
theorem wild_m {x:TStmt} {n m:Int} (hn:1<=n/\n<=64) (h:x.kind=12->1<=x.n/\x.n<=8) (hm:m=wildN x n):1<=m/\m<=512:=by
 rw [hm]; unfold wildN
 split
 ·rename_i hk
  have:=h hk
  have h1:=Int.mul_le_mul (a:=1) (b:=1) hn.1 this.1 (by omega) (by omega)
  have h2:=Int.mul_le_mul (c:=64) (d:=8) hn.2 this.2 (by omega) (by omega)
  omega
 omega
theorem Bk.cons_of {t:Bk} (h:¬ (t.flat.length:Int)=0):∃ x a b r,t = .cons x a b r:=by
 cases t with
 | nil=>exact absurd rfl h
 | cons x a b r=>exact ⟨x,a,b,r,rfl⟩
theorem Bk.cut1 {x:TStmt} {a b r:Bk} (h:(Bk.cons x a b r).str) {hi lo:Int} (h1:hi=1+x.body+x.els) (h2:lo=1):((Bk.cons x a b r).flat.take hi.toNat).drop lo.toNat=(a.app b).flat:=by
 obtain ⟨g1,g2,_⟩:=h
 have la:=a.flat_len
 have lb:=b.flat_len
 rw [Bk.app_flat,cut_at _ (a:=1) (n:=(a.flat++b.flat).length) (by rw [List.length_append]; omega) (by omega)]
 show (a.flat++(b.flat++r.flat)).take _=_
 rw [<- List.append_assoc,List.take_left]
theorem Bk.cut2 {x:TStmt} {a b r:Bk} (h:(Bk.cons x a b r).str) {hi:Int} (h1:hi=1+x.body+x.els):(Bk.cons x a b r).flat.drop hi.toNat=r.flat:=by
 obtain ⟨g1,g2,_⟩:=h
 have la:=a.flat_len
 have lb:=b.flat_len
 have e:(Bk.cons x a b r).flat=(x::(a.flat++b.flat))++r.flat:=by simp [Bk.flat]
 rw [e,show hi.toNat=(x::(a.flat++b.flat)).length from by simp; omega,List.drop_left]
theorem twiceAt_e {l:List TCell} {k:Nat} {c:TCell} (h:l[k]? = some c):twiceAt l k=decide (placeM (l.map TCell.name) c.name<k):=by unfold twiceAt; rw [h]
theorem regAt_e {p:TProg} {l:List ByteArray} {k:Nat} {c:ByteArray} (h:l[k]? = some c):regAt p l k=(decide (placeM l c<k) || decide (0<=placeM (cellNs p) c) || decide (0<=placeM (lockNs p) c)):=by unfold regAt; rw [h]
theorem app_len (a b:Bk):(a.app b).len=a.len+b.len:=by rw [<- Bk.flat_len,Bk.app_flat,List.length_append,Bk.flat_len,Bk.flat_len]
theorem Bk.cutA {x:TStmt} {a b r:Bk} (h:(Bk.cons x a b r).str) {hi lo:Int} (h1:hi=1+x.body) (h2:lo=1):((Bk.cons x a b r).flat.take hi.toNat).drop lo.toNat=a.flat:=by
 obtain ⟨g1,g2,_⟩:=h
 have la:=a.flat_len
 rw [cut_at _ (a:=1) (n:=a.flat.length) (by omega) (by omega)]
 show (a.flat++(b.flat++r.flat)).take _=_
 rw [List.take_left]
theorem Bk.cutB {x:TStmt} {a b r:Bk} (h:(Bk.cons x a b r).str) {hi lo:Int} (h1:hi=1+x.body+x.els) (h2:lo=1+x.body):((Bk.cons x a b r).flat.take hi.toNat).drop lo.toNat=b.flat:=by
 obtain ⟨g1,g2,_⟩:=h
 have la:=a.flat_len
 have lb:=b.flat_len
 rw [cut_at _ (a:=1+a.flat.length) (n:=b.flat.length) (by omega) (by omega)]
 have e:(Bk.cons x a b r).flat=(x::a.flat)++(b.flat++r.flat):=by simp [Bk.flat]
 rw [e,show 1+a.flat.length=(x::a.flat).length from by simp; omega,List.drop_left,List.take_left]
def cut40 (s:ByteArray):ByteArray:=s.extract 0 (min (s.size:Int) 40).toNat
theorem cut40_size (s:ByteArray):(cut40 s).size<=40:=by
 unfold cut40
 rw [ByteArray.size_extract]; omega
def cutN (x:TNode):TNode:={x with name:=cut40 x.name}
def cut3 (l:List TNode):List TNode:=(l.take 60).map cutN
def cutSt (x:TStmt):TStmt:=⟨x.kind,cut40 x.reg,cut40 x.name,cut3 x.e,cut3 x.f,x.n,x.body,x.els,x.at_⟩
def cut4 (l:List TStmt):List TStmt:=(l.take 50).map cutSt
def cutC (c:TCell):TCell:={c with name:=cut40 c.name}
def cutCs (l:List TCell):List TCell:=(l.take 8).map cutC
def cutTh (t:TThread):TThread:=⟨cut40 t.name,(t.regs.take 6).map cut40,cut4 t.body,t.at_⟩
def cutThs (l:List TThread):List TThread:=(l.take 4).map cutTh
def cutCl (c:TClaim):TClaim:=⟨cut3 c.e,c.at_⟩
def cut5 (p:TProg):TProg:=⟨(p.lines.take 6).map cutCs,cutCs p.vols,cutCs p.locks,cutThs p.threads,cutThs p.recover,(p.claims.take 6).map cutCl⟩
theorem take_min {α:Type} {xs:List α} {k m:Nat} (h:k<=m) (h2:k<=xs.length) (h3:¬ (k<xs.length/\k<m)):xs.take k=xs.take m:=by
 rcases Nat.lt_or_ge k m with h4 | h4
 ·rw [List.take_of_length_le (by omega),List.take_of_length_le (by omega)]
 rw [show k=m from by omega]
theorem cut3_len (l:List TNode):(cut3 l).length<=60:=by unfold cut3; rw [List.length_map,List.length_take]; omega
theorem cut3_sz (l:List TNode):∀ y∈cut3 l,y.name.size<=1048576:=by
 intro y hy
 obtain ⟨x,_,rfl⟩:=List.mem_map.1 hy
 have:=cut40_size x.name
 show (cut40 x.name).size<=_
 omega
theorem cutCs_sz (l:List TCell):∀ y∈cutCs l,y.name.size<=1048576:=by
 intro y hy
 obtain ⟨x,_,rfl⟩:=List.mem_map.1 hy
 have:=cut40_size x.name
 show (cut40 x.name).size<=_
 omega
theorem cutCs_len (l:List TCell):(cutCs l).length<=8:=by unfold cutCs; rw [List.length_map,List.length_take]; omega
theorem cut4_len (l:List TStmt):(cut4 l).length<=50:=by unfold cut4; rw [List.length_map,List.length_take]; omega
theorem cutThs_len (l:List TThread):(cutThs l).length<=4:=by unfold cutThs; rw [List.length_map,List.length_take]; omega
theorem cut4_sz (l:List TStmt):∀ y∈cut4 l,SzS y:=by
 intro y hy
 obtain ⟨x,_,rfl⟩:=List.mem_map.1 hy
 have h1:=cut40_size x.reg
 have h2:=cut40_size x.name
 have h3:=cut3_len x.e
 have h4:=cut3_len x.f
 exact ⟨by show (cut40 x.reg).size<=_; omega,by show (cut40 x.name).size<=_; omega,by show (cut3 x.e).length<=_; omega,by show (cut3 x.f).length<=_; omega,cut3_sz _,cut3_sz _⟩
theorem cutTh_regs (t:TThread):(cutTh t).regs.length<=6:=by show ((t.regs.take 6).map cut40).length<=6; rw [List.length_map,List.length_take]; omega
theorem cutThs_sz (l:List TThread):∀ y∈cutThs l,SzT y/\y.regs.length<=500/\y.body.length<=500:=by
 intro y hy
 obtain ⟨x,_,rfl⟩:=List.mem_map.1 hy
 have h1:=cut40_size x.name
 have h2:=cutTh_regs x
 have h3:=cut4_len x.body
 refine ⟨⟨by show (cut40 x.name).size<=_; omega,λ s hs=>?_,cut4_sz _⟩,by omega,by show (cut4 x.body).length<=_; omega⟩
 obtain ⟨z,_,rfl⟩:=List.mem_map.1 (show s∈(x.regs.take 6).map cut40 from hs)
 have:=cut40_size z
 omega
theorem cut5_sz (p:TProg):PZ (cut5 p):=by
 have hl:(cut5 p).lines.length<=6:=by show ((p.lines.take 6).map cutCs).length<=6; rw [List.length_map,List.length_take]; omega
 have hc:(cut5 p).claims.length<=6:=by show ((p.claims.take 6).map cutCl).length<=6; rw [List.length_map,List.length_take]; omega
 have h1:=cutCs_len p.vols
 have h2:=cutCs_len p.locks
 have h3:=cutThs_len p.threads
 have h4:=cutThs_len p.recover
 have hth:∀ t∈(cut5 p).threads++(cut5 p).recover,SzT t/\t.regs.length<=500/\t.body.length<=500:=by
  intro t ht
  rcases List.mem_append.1 ht with h | h
  ·exact cutThs_sz _ t h
  ·exact cutThs_sz _ t h
 refine {lines:=by omega,line:=λ l h=>?_,vols:=by show (cutCs p.vols).length<=500; omega,locks:=by show (cutCs p.locks).length<=500; omega,threads:=by show (cutThs p.threads).length<=500; omega,recover:=by show (cutThs p.recover).length<=500; omega,claims:=by omega,regs:=λ t ht=>(hth t ht).2.1,body:=λ t ht=>(hth t ht).2.2,zl:=λ l h c hc=>?_,zv:=cutCs_sz _,zk:=cutCs_sz _,zt:=λ t ht=>(hth t (List.mem_append_left _ ht)).1,zr:=λ t ht=>(hth t (List.mem_append_right _ ht)).1,zc:=λ c h=>?_}
 ·obtain ⟨x,_,rfl⟩:=List.mem_map.1 (show l∈(p.lines.take 6).map cutCs from h)
  have:=cutCs_len x; omega
 ·obtain ⟨x,_,rfl⟩:=List.mem_map.1 (show l∈(p.lines.take 6).map cutCs from h)
  exact cutCs_sz x c hc
 obtain ⟨x,_,rfl⟩:=List.mem_map.1 (show c∈(p.claims.take 6).map cutCl from h)
 have:=cut3_len x.e
 exact ⟨by show (cut3 x.e).length<=_; omega,cut3_sz _⟩
theorem C48 (lv:Value) (xs:List TNode) (w:World) (hL:RdL (λ _=>True) w lv xs):CR 48 [lv] w (λ v w'=>New (ownL v (cut3 xs)) w w'):=by
 have hs:=St.start w;refine sk0 Tryz.func48 ?_;refine eop_build (([]:List TNode)) hs sl22 rfl rfl (leb rfl) (λ s_x6 w1 hs=>?_);refine ⟨λ m out3 x w1=>∃ k:Nat,x = .int .i64 (k:Int)/\m=60 - k/\k<=60/\k<=xs.length/\St w none1 [ownL out3 ((xs.take k).map cutN)] w1,⟨_,0,rfl,rfl,by omega,by omega,hs⟩,?_⟩;rintro m out3 _ _ ⟨k,rfl,rfl,hk,hk2,hs⟩ _;have hmlk:((xs.take k).map cutN).length=k:=by rw [List.length_map,List.length_take]; omega
 refine ⟨λ jv w'=>jv = .bool (decide (k<xs.length/\k<60))/\St w none1 [ownL out3 ((xs.take k).map cutN)] w',pop_len sl22 (hL.ext hs.chg) (pop_lss (cond_d (λ _=>pop_lss ⟨vb (by grind),hs⟩) (λ _=>⟨vb (by grind),hs⟩))),?_⟩;rintro _ _ ⟨rfl,hs⟩ _;refine cond_b (λ c_x14=>?_) (λ c_x14=>?_)
 ·have hc14:k<xs.length/\k<60:=by simpa using c_x14
  obtain ⟨e_x19,he_x19⟩:=gx (xs) (i:=((k:Int)).toNat) (by omega);refine pop_idx sl22 hL (by omega) he_x19 (λ _ h_x19=>qop_at ty26 (h_x19.ext hs.chg) ?_);refine eop_allocA hs zero26 (λ b_x5 _ hs=>uop_blkV (x:=e_x19) hs ty26 rfl rfl (λ _ hs=>?_));refine pop_field fld26_2 (qop_blk (v:=.string ((e_x19).name)) ty9 hs.hb rfl ?_);refine pop_field fld26_2 (qop_blk (v:=.string ((e_x19).name)) ty9 hs.hb rfl ?_);refine pop_slen und9 (pop_min ?_);refine pop_scutHi und9 (by omega) (by omega) (pop_field fld26_2 ?_);refine uop_blk hs ty9 (leb rfl) (rfl) (λ _ hs=>?_);have hs:=hs.enc (cs':=Flat.enc ({e_x19 with name:=(((e_x19).name).extract 0 ((min (((e_x19).name).size:Int) 40)).toNat)}:TNode)) rfl
  refine qop_at ty26 hs.At (eop_build ([({e_x19 with name:=(((e_x19).name).extract 0 ((min (((e_x19).name).size:Int) 40)).toNat)}:TNode)]) hs sl22 rfl rfl (leb rfl) (λ s_x31 _ hs=>?_));have hr_x32:=(hs).rd';exact eop_append hs.p2 sl22 hr_x32 (by rw [hmlk,List.length_singleton]; omega) (by decide) (λ _ _ hs=>have hs:=hs.p1.drop;pop_add (by omega) (have hs:=(hs.p1).drop;⟨_,by omega,k+1,rfl,rfl,by omega,by omega,by rw [<- map_snoc (k:=k) he_x19]; exact hs⟩))
 rw [take_min (xs:=xs) (k:=k) (m:=60) (by omega) (by omega) (of_decide_eq_false c_x14)] at hs;exact hs.fresh
theorem C46 (lv:Value) (xs:List TCell) (w:World) (hL:RdL (λ _=>True) w lv xs):CR 46 [lv] w (λ v w'=>New (ownL v (cutCs xs)) w w'):=by
 have hs:=St.start w;refine sk0 Tryz.func46 ?_;refine eop_build (([]:List TCell)) hs sl37 rfl rfl (leb rfl) (λ s_x6 w1 hs=>?_);refine ⟨λ m out3 x w1=>∃ k:Nat,x = .int .i64 (k:Int)/\m=8 - k/\k<=8/\k<=xs.length/\St w none1 [ownL out3 ((xs.take k).map cutC)] w1,⟨_,0,rfl,rfl,by omega,by omega,hs⟩,?_⟩;rintro m out3 _ _ ⟨k,rfl,rfl,hk,hk2,hs⟩ _;have hmlk:((xs.take k).map cutC).length=k:=by rw [List.length_map,List.length_take]; omega
 refine ⟨λ jv w'=>jv = .bool (decide (k<xs.length/\k<8))/\St w none1 [ownL out3 ((xs.take k).map cutC)] w',pop_len sl37 (hL.ext hs.chg) (pop_lss (cond_d (λ _=>pop_lss ⟨vb (by grind),hs⟩) (λ _=>⟨vb (by grind),hs⟩))),?_⟩;rintro _ _ ⟨rfl,hs⟩ _;refine cond_b (λ c_x14=>?_) (λ c_x14=>?_)
 ·have hc14:k<xs.length/\k<8:=by simpa using c_x14
  obtain ⟨e_x19,he_x19⟩:=gx (xs) (i:=((k:Int)).toNat) (by omega);refine pop_idx sl37 hL (by omega) he_x19 (λ _ h_x19=>qop_at ty142 (h_x19.ext hs.chg) ?_);refine eop_allocA hs zero142 (λ b_c5 _ hs=>uop_blkV (x:=e_x19) hs ty142 rfl rfl (λ _ hs=>?_));refine pop_field fld142_0 (qop_blk (v:=.string ((e_x19).name)) ty9 hs.hb rfl ?_);refine pop_field fld142_0 (qop_blk (v:=.string ((e_x19).name)) ty9 hs.hb rfl ?_);refine pop_slen und9 (pop_min ?_);refine pop_scutHi und9 (by omega) (by omega) (pop_field fld142_0 ?_);refine uop_blk hs ty9 (leb rfl) (rfl) (λ _ hs=>?_);have hs:=hs.enc (cs':=Flat.enc ({e_x19 with name:=(((e_x19).name).extract 0 ((min (((e_x19).name).size:Int) 40)).toNat)}:TCell)) rfl
  refine qop_at ty142 hs.At (eop_build ([({e_x19 with name:=(((e_x19).name).extract 0 ((min (((e_x19).name).size:Int) 40)).toNat)}:TCell)]) hs sl37 rfl rfl (leb rfl) (λ s_x31 _ hs=>?_));have hr_x32:=(hs).rd';exact eop_append hs.p2 sl37 hr_x32 (by rw [hmlk,List.length_singleton]; omega) (by decide) (λ _ _ hs=>have hs:=hs.p1.drop;pop_add (by omega) (have hs:=(hs.p1).drop;⟨_,by omega,k+1,rfl,rfl,by omega,by omega,by rw [<- map_snoc (k:=k) he_x19]; exact hs⟩))
 rw [take_min (xs:=xs) (k:=k) (m:=8) (by omega) (by omega) (of_decide_eq_false c_x14)] at hs;exact hs.fresh
theorem C101 (lv:Value) (xs:List TStmt) (w:World) (hL:DL w lv xs):CR 101 [lv] w (λ v w'=>New (ownD v (cut4 xs)) w w'):=by
 have hs:=St.start w;refine sk0 Tryz.func101 ?_;refine eop_buildD0 (α:=TStmt) hs sl27 (λ s_x6 w1 hs=>?_);refine ⟨λ m out3 x w1=>∃ k:Nat,x = .int .i64 (k:Int)/\m=50 - k/\k<=50/\k<=xs.length/\St w none1 [ownD out3 ((xs.take k).map cutSt)] w1,⟨_,0,rfl,rfl,by omega,by omega,hs⟩,?_⟩;rintro m out3 _ _ ⟨k,rfl,rfl,hk,hk2,hs⟩ _;have hmlk:((xs.take k).map cutSt).length=k:=by rw [List.length_map,List.length_take]; omega
 refine ⟨λ jv w'=>jv = .bool (decide (k<xs.length/\k<50))/\St w none1 [ownD out3 ((xs.take k).map cutSt)] w',?_,?_⟩
 ·obtain ⟨ts60,hR60,hD60⟩:=(hL).open;have hn60:=hD60.1;exact pop_len sl27 (hR60.ext hs.chg) (pop_lss (cond_d (λ _=>pop_lss ⟨vb (by grind),hs⟩) (λ _=>⟨vb (by grind),hs⟩)))
 rintro _ _ ⟨rfl,hs⟩ _;refine cond_b (λ c_x14=>?_) (λ c_x14=>?_)
 ·have hc14:k<xs.length/\k<50:=by simpa using c_x14
  obtain ⟨ts61,hR61,hD61⟩:=(hL).open;have hn61:=hD61.1;obtain ⟨e_x19,he_x19⟩:=gx ts61 (i:=((k:Int)).toNat) (by omega);obtain ⟨r_x19,hr_x19⟩:=gx (xs) (i:=((k:Int)).toNat) (by omega);obtain ⟨g_e_x19,g_f_x19,rfl,d_e_x19,d_f_x19⟩:=hD61.2 _ _ _ he_x19 hr_x19;refine pop_idx sl27 hR61 (by omega) he_x19 (λ _ h_x19=>qop_at ty24 (h_x19.ext hs.chg) ?_);refine eop_allocA hs zero24 (λ b_x5 _ hs=>?_);have hs:=hs.enc (cs':=Flat.enc (⟨0,(ByteArray.mk #[]),(ByteArray.mk #[]),⟨none,0,0⟩,⟨none,0,0⟩,0,0,0,0⟩:TStmtV)) rfl;refine uop_blkV (x:=(⟨(r_x19).kind,(r_x19).reg,(r_x19).name,g_e_x19,g_f_x19,(r_x19).n,(r_x19).body,(r_x19).els,(r_x19).at_⟩:TStmtV)) hs ty24 rfl rfl (λ _ hs=>pop_field fld24_1 ?_)
  refine qop_blk (v:=.string ((r_x19).reg)) ty9 hs.hb rfl (pop_field fld24_1 ?_);refine qop_blk (v:=.string ((r_x19).reg)) ty9 hs.hb rfl (pop_slen und9 ?_);refine pop_min (pop_scutHi und9 (by omega) (by omega) ?_);refine pop_field fld24_1 ?_;have hf62:=DL.flat (d_e_x19);have hf63:=DL.flat (d_f_x19);refine uop_blk hs ty9 (leb rfl) (rfl) (λ _ hs=>?_);have hs:=hs.enc (cs':=Flat.enc (⟨(r_x19).kind,(((r_x19).reg).extract 0 ((min (((r_x19).reg).size:Int) 40)).toNat),(r_x19).name,g_e_x19,g_f_x19,(r_x19).n,(r_x19).body,(r_x19).els,(r_x19).at_⟩:TStmtV)) rfl;refine pop_field fld24_2 (qop_blk (v:=.string (r_x19).name) ty9 hs.hb rfl ?_);refine pop_field fld24_2 (qop_blk (v:=.string (r_x19).name) ty9 hs.hb rfl ?_)
  refine pop_slen und9 (pop_min ?_);refine pop_scutHi und9 (by omega) (by omega) (pop_field fld24_2 ?_);refine uop_blk hs ty9 (leb rfl) (rfl) (λ _ hs=>?_);have hs:=hs.enc (cs':=Flat.enc (⟨(r_x19).kind,(((r_x19).reg).extract 0 ((min (((r_x19).reg).size:Int) 40)).toNat),(((r_x19).name).extract 0 ((min (((r_x19).name).size:Int) 40)).toNat),g_e_x19,g_f_x19,(r_x19).n,(r_x19).body,(r_x19).els,(r_x19).at_⟩:TStmtV)) rfl;refine pop_field fld24_3 (qop_blk (v:=Flat.val (g_e_x19:SV)) ty22 hs.hb rfl ?_);refine callN pl48 hs (C48 _ _ _ (hf62.ext hs.chg)) (λ x39 _ hnew hs=>pop_field fld24_3 ?_);obtain ⟨sv_x39,rfl⟩:=(hs).isSV;refine uop_blk hs.p1 ty22 (leb rfl) (rfl) (λ _ hs=>?_)
  have hs:=hs.enc (cs':=Flat.enc (⟨(r_x19).kind,(((r_x19).reg).extract 0 ((min (((r_x19).reg).size:Int) 40)).toNat),(((r_x19).name).extract 0 ((min (((r_x19).name).size:Int) 40)).toNat),sv_x39,g_f_x19,(r_x19).n,(r_x19).body,(r_x19).els,(r_x19).at_⟩:TStmtV)) rfl;refine pop_field fld24_4 (qop_blk (v:=Flat.val (g_f_x19:SV)) ty22 hs.hb rfl ?_);refine callN pl48 hs (C48 _ _ _ (hf63.ext hs.chg)) (λ x43 _ hnew hs=>pop_field fld24_4 ?_);obtain ⟨sv_x43,rfl⟩:=(hs).isSV;exact uop_blk hs.p1 ty22 (leb rfl) (rfl) (λ _ hs=>have hs:=hs.enc (cs':=Flat.enc (⟨(r_x19).kind,(((r_x19).reg).extract 0 ((min (((r_x19).reg).size:Int) 40)).toNat),(((r_x19).name).extract 0 ((min (((r_x19).name).size:Int) 40)).toNat),sv_x39,sv_x43,(r_x19).n,(r_x19).body,(r_x19).els,(r_x19).at_⟩:TStmtV)) rfl;qop_at ty24 hs.At (have hs:=hs.p2.freeze.p2.freeze.p1.frzAnd.frzMono (Ψ:=(λ w=>Deep.dr w (⟨(r_x19).kind,(((r_x19).reg).extract 0 ((min (((r_x19).reg).size:Int) 40)).toNat),(((r_x19).name).extract 0 ((min (((r_x19).name).size:Int) 40)).toNat),sv_x39,sv_x43,(r_x19).n,(r_x19).body,(r_x19).els,(r_x19).at_⟩:TStmtV) (⟨(r_x19).kind,(((r_x19).reg).extract 0 ((min (((r_x19).reg).size:Int) 40)).toNat),(((r_x19).name).extract 0 ((min (((r_x19).name).size:Int) 40)).toNat),(cut3 (r_x19).e),(cut3 (r_x19).f),(r_x19).n,(r_x19).body,(r_x19).els,(r_x19).at_⟩:TStmt))) (λ _ h=>⟨_,_,rfl,DL.unflat h.1,DL.unflat h.2⟩);eop_buildD1 (s:=(⟨(r_x19).kind,(((r_x19).reg).extract 0 ((min (((r_x19).reg).size:Int) 40)).toNat),(((r_x19).name).extract 0 ((min (((r_x19).name).size:Int) 40)).toNat),sv_x39,sv_x43,(r_x19).n,(r_x19).body,(r_x19).els,(r_x19).at_⟩:TStmtV)) (x:=(⟨(r_x19).kind,(((r_x19).reg).extract 0 ((min (((r_x19).reg).size:Int) 40)).toNat),(((r_x19).name).extract 0 ((min (((r_x19).name).size:Int) 40)).toNat),(cut3 (r_x19).e),(cut3 (r_x19).f),(r_x19).n,(r_x19).body,(r_x19).els,(r_x19).at_⟩:TStmt)) hs sl27 (by decide) (λ _ _ hs=>have hs:=hs.p2;eop_appendD hs sl27 (by rw [hmlk,List.length_singleton]; omega) (by decide) (λ _ _ hs=>pop_add (by omega) (have hs:=(hs.p1).drop;⟨_,by omega,k+1,rfl,rfl,by omega,by omega,by rw [<- map_snoc (k:=k) hr_x19]; exact hs⟩)))))
 rw [take_min (xs:=xs) (k:=k) (m:=50) (by omega) (by omega) (of_decide_eq_false c_x14)] at hs;exact hs.fresh
theorem C47 (lv:Value) (xs:List TThread) (w:World) (hL:DL w lv xs):CR 47 [lv] w (λ v w'=>New (ownD v (cutThs xs)) w w'):=by
 have hs:=St.start w;refine sok Tryz.func47 (pl:=P47) ?_;refine eop_buildD0 (α:=TThread) hs sl35 (λ s_x7 w1 hs=>?_);refine ⟨λ m out3 x w1=>∃ k:Nat,x = .int .i64 (k:Int)/\m=4 - k/\k<=4/\k<=xs.length/\St w none1 [ownD out3 ((xs.take k).map cutTh)] w1,⟨_,0,rfl,rfl,by omega,by omega,hs⟩,?_⟩;rintro m out3 _ _ ⟨k,rfl,rfl,hk,hk2,hs⟩ _;have hmlk:((xs.take k).map cutTh).length=k:=by rw [List.length_map,List.length_take]; omega
 refine ⟨λ jv w'=>jv = .bool (decide (k<xs.length/\k<4))/\St w none1 [ownD out3 ((xs.take k).map cutTh)] w',?_,?_⟩
 ·obtain ⟨ts64,hR64,hD64⟩:=(hL).open;have hn64:=hD64.1;exact pop_len sl35 (hR64.ext hs.chg) (pop_lss (cond_d (λ _=>pop_lss ⟨vb (by grind),hs⟩) (λ _=>⟨vb (by grind),hs⟩)))
 rintro _ _ ⟨rfl,hs⟩ _;refine cond_b (λ c_x15=>?_) (λ c_x15=>?_)
 ·have hc15:k<xs.length/\k<4:=by simpa using c_x15
  obtain ⟨ts65,hR65,hD65⟩:=(hL).open;have hn65:=hD65.1;obtain ⟨e_x20,he_x20⟩:∃ xx,ts65[((k:Int)).toNat]? = some xx:=⟨_,List.getElem?_eq_getElem (by omega)⟩;obtain ⟨r_x20,hr_x20⟩:∃ xx,(xs)[((k:Int)).toNat]? = some xx:=⟨_,List.getElem?_eq_getElem (by omega)⟩;obtain ⟨g_regs_x20,g_body_x20,rfl,d_regs_x20,d_body_x20⟩:=hD65.2 _ _ _ he_x20 hr_x20;refine ⟨λ out3_1 w'=>St w none1 [ownD out3_1 ((xs.take k).map cutTh++[cutTh r_x20])] w',⟨λ jv w'=>∃ (b_t5_2:Nat) (sv_b:SV),jv = .pointer (some ⟨b_t5_2,0,none⟩)/\St w none1 [blk b_t5_2 (Flat.enc (⟨((r_x20).name.extract 0 (min (((r_x20).name).size:Int) 40).toNat),⟨none,0,0⟩,sv_b,(r_x20).at_⟩:TThreadV)),ownD (Flat.val sv_b) (cut4 (r_x20).body),ownD out3 ((xs.take k).map cutTh)] w',?_,?_⟩,?_⟩
  ·refine pop_idx sl35 hR65 (by omega) he_x20 (λ _ h_x20=>pop_atf (r_x20).name fld34_0 h_x20 rfl rfl (λ _ h_x21=>?_));have hs:=hs.drew;refine qop_at ty9 (h_x21.ext hs.chg) (pop_idx sl35 hR65 (by omega) he_x20 (λ _ h_x25=>pop_atf (r_x20).name fld34_0 h_x25 rfl rfl (λ _ h_x26=>qop_at ty9 (h_x26.ext hs.chg) (pop_slen und9 (pop_min (pop_scutHi und9 (by omega) (by omega) (pop_idx sl35 hR65 (by omega) he_x20 (λ _ h_x33=>pop_atf (r_x20).at_ fld34_3 h_x33 rfl rfl (λ _ h_x34=>qop_at ty3 (h_x34.ext hs.chg) (pop_idx sl35 hR65 (by omega) he_x20 (λ _ h_x38=>pop_atf g_body_x20 fld34_2 h_x38 rfl rfl (λ _ h_x39=>qop_at ty27 (h_x39.ext hs.chg) ⟨?_,⟨?_,?_⟩⟩))))))))))))
   ·refine callN pl101 hs (C101 _ _ _ (d_body_x20.ext hs.chg)) (λ x41 _ hnew hs=>?_);refine ⟨run_at ty9 (h_x21.ext hs.chg),?_⟩;refine ⟨run_at ty9 (h_x26.ext hs.chg),?_⟩;refine ⟨run_at ty3 (h_x34.ext hs.chg),?_⟩;obtain ⟨sv_x41,rfl⟩:=(hs).isSVd;refine pop (bld34_0_3_2 _ _ _ _ _) (eop_allocA hs zero34 (λ b_t5 _ hs=>?_));have hs:=hs.enc (cs':=Flat.enc (⟨(ByteArray.mk #[]),⟨none,0,0⟩,⟨none,0,0⟩,0⟩:TThreadV)) rfl;refine ⟨run_at ty9 (h_x21.ext hs.chg),?_⟩;refine ⟨run_at ty9 (h_x26.ext hs.chg),?_⟩;refine ⟨run_at ty3 (h_x34.ext hs.chg),?_⟩;refine ⟨run_at ty27 (h_x39.ext hs.chg),?_⟩;exact uop_blkV (x:=(⟨(((r_x20).name).extract 0 ((min (((r_x20).name).size:Int) 40)).toNat),⟨none,0,0⟩,sv_x41,(r_x20).at_⟩:TThreadV)) hs ty34 rfl rfl (λ _ hs=>have hs:=hs.p2.p2.p2;⟨_,_,rfl,hs⟩)
   ·refine eop_allocA hs zero34 (λ b_t5_1 _ hs=>?_);have hs:=hs.enc (cs':=Flat.enc (⟨(ByteArray.mk #[]),⟨none,0,0⟩,⟨none,0,0⟩,0⟩:TThreadV)) rfl;refine ⟨run_at ty9 (h_x21.ext hs.chg),?_⟩;refine ⟨run_at ty9 (h_x26.ext hs.chg),?_⟩;refine ⟨run_at ty3 (h_x34.ext hs.chg),?_⟩;refine ⟨run_at ty27 (h_x39.ext hs.chg),?_⟩;refine callN pl101 hs (C101 _ _ _ (d_body_x20.ext hs.chg)) (λ x41_1 _ hnew hs=>?_);refine ⟨run_at ty9 (h_x21.ext hs.chg),?_⟩;refine ⟨run_at ty9 (h_x26.ext hs.chg),?_⟩;refine ⟨run_at ty3 (h_x34.ext hs.chg),?_⟩;obtain ⟨sv_x41_1,rfl⟩:=(hs).isSVd;exact pop (bld34_0_3_2 _ _ _ _ _) (uop_blkV (x:=(⟨(((r_x20).name).extract 0 ((min (((r_x20).name).size:Int) 40)).toNat),⟨none,0,0⟩,sv_x41_1,(r_x20).at_⟩:TThreadV)) hs.p1 ty34 rfl rfl (λ _ hs=>have hs:=hs.p2.p2.p2;⟨_,_,rfl,hs⟩))
   trivial
  ·rintro _ _ ⟨b_t5_2,sv_b,rfl,hs⟩ _;have hs:=((((hs.ownNil (α:=ByteArray)).p3).p3).p2).p3;refine ⟨λ m x w1=>∃ (j:Nat) (sv_r:SV),x = .int .i64 (j:Int)/\m=6 - j/\j<=6/\j<=(r_x20).regs.length/\St w none1 [blk b_t5_2 (Flat.enc (⟨((r_x20).name.extract 0 (min (((r_x20).name).size:Int) 40).toNat),sv_r,sv_b,(r_x20).at_⟩:TThreadV)),ownL (Flat.val sv_r) (((r_x20).regs.take j).map cut40),ownD (Flat.val sv_b) (cut4 (r_x20).body),ownD out3 ((xs.take k).map cutTh)] w1,⟨_,0,⟨none,0,0⟩,rfl,rfl,by omega,by omega,hs⟩,?_⟩;rintro m _ _ ⟨j,sv_r,rfl,rfl,hj,hj2,hs⟩ _;have hmlj:(((r_x20).regs.take j).map cut40).length=j:=by rw [List.length_map,List.length_take]; omega
   refine ⟨λ jv w'=>jv = .bool (decide (j<(r_x20).regs.length/\j<6))/\St w none1 [blk b_t5_2 (Flat.enc (⟨((r_x20).name.extract 0 (min (((r_x20).name).size:Int) 40).toNat),sv_r,sv_b,(r_x20).at_⟩:TThreadV)),ownL (Flat.val sv_r) (((r_x20).regs.take j).map cut40),ownD (Flat.val sv_b) (cut4 (r_x20).body),ownD out3 ((xs.take k).map cutTh)] w',?_,?_⟩
   ·refine pop_idx sl35 hR65 (by omega) he_x20 (λ _ h_x46=>pop_atf g_regs_x20 fld34_1 h_x46 rfl rfl (λ _ h_x47=>?_));refine qop_at ty32 (h_x47.ext hs.chg) ?_;have hf66:=DL.flat (d_regs_x20);exact pop_len sl32 (hf66.ext hs.chg) (pop_lss (cond_d (λ _=>pop_lss ⟨vb (by grind),hs⟩) (λ _=>⟨vb (by grind),hs⟩)))
   rintro _ _ ⟨rfl,hs⟩ _;refine cond_b (λ c_x54=>?_) (λ c_x54=>?_)
   ·have hc54:j<(r_x20).regs.length/\j<6:=by simpa using c_x54
    refine pop_field fld34_1 ?_;have hs:=hs.drew;refine qop_blk (v:=Flat.val (sv_r:SV)) ty32 hs.hb rfl (pop_idx sl35 hR65 (by omega) he_x20 (λ _ h_x61=>?_));refine pop_atf g_regs_x20 fld34_1 h_x61 rfl rfl (λ _ h_x62=>qop_at ty32 (h_x62.ext hs.chg) ?_);have hf67:=DL.flat (d_regs_x20);obtain ⟨e_x65,he_x65⟩:=gx ((r_x20).regs) (i:=((j:Int)).toNat) (by omega);refine pop_idx sl32 hf67 (by omega) he_x65 (λ _ h_x65=>qop_at ty9 (h_x65.ext hs.chg) ?_);refine pop_idx sl35 hR65 (by omega) he_x20 (λ _ h_x69=>pop_atf g_regs_x20 fld34_1 h_x69 rfl rfl (λ _ h_x70=>?_));refine qop_at ty32 (h_x70.ext hs.chg) (pop_idx sl32 hf67 (by omega) he_x65 (λ _ h_x73=>?_));refine qop_at ty9 (h_x73.ext hs.chg) (pop_slen und9 ?_)
    refine pop_min (pop_scutHi und9 (by omega) (by omega) ?_);refine eop_build ([((e_x65).extract 0 ((min ((e_x65).size:Int) 40)).toNat)]) hs sl32 rfl rfl (leb rfl) (λ s_x78 _ hs=>?_);refine ⟨run_loadOne ty32 (hs.p1.hb.cell rfl),?_⟩;have hr_x79:=(hs).rd';refine eop_append hs.p2 sl32 hr_x79 (by rw [hmlj,List.length_singleton]; omega) (by decide) (λ s_x79 _ hs=>?_);have hs:=hs.p1.drop;refine pop_field fld34_1 ?_;obtain ⟨sv_x79,rfl⟩:=(hs).isSV;exact uop_blk hs.p1 ty32 (leb rfl) (rfl) (λ _ hs=>have hs:=hs.enc (cs':=Flat.enc (⟨((r_x20).name.extract 0 (min (((r_x20).name).size:Int) 40).toNat),sv_x79,sv_b,(r_x20).at_⟩:TThreadV)) rfl;pop_add (by omega) (have hs:=hs.p3.p3.p3.p3;⟨_,by omega,j+1,sv_x79,rfl,rfl,by omega,by omega,by rw [<- map_snoc (k:=j) he_x65]; exact hs⟩))
   refine qop_at ty34 hs.At ?_;have hs:=hs.p1.freeze.p2.dFreeze.p1.frzAnd.frzMono (Ψ:=(λ w=>Deep.dr w (⟨((r_x20).name.extract 0 (min (((r_x20).name).size:Int) 40).toNat),sv_r,sv_b,(r_x20).at_⟩:TThreadV) (⟨((r_x20).name.extract 0 (min (((r_x20).name).size:Int) 40).toNat),(((r_x20).regs.take j).map cut40),(cut4 (r_x20).body),(r_x20).at_⟩:TThread))) (λ _ h=>⟨_,_,rfl,DL.unflat h.1,h.2⟩);refine eop_buildD1 (s:=(⟨((r_x20).name.extract 0 (min (((r_x20).name).size:Int) 40).toNat),sv_r,sv_b,(r_x20).at_⟩:TThreadV)) (x:=(⟨((r_x20).name.extract 0 (min (((r_x20).name).size:Int) 40).toNat),(((r_x20).regs.take j).map cut40),(cut4 (r_x20).body),(r_x20).at_⟩:TThread)) hs sl35 (by decide) (λ s_x83 _ hs=>?_)
   have hs:=hs.p2;refine eop_appendD hs sl35 (by rw [hmlk,List.length_singleton]; omega) (by decide) (λ s_x84 _ hs=>?_);have hs:=(hs.p1).drop;rw [take_min (xs:=(r_x20).regs) (k:=j) (m:=6) (by omega) (by omega) (of_decide_eq_false c_x54)] at hs;exact hs
  rintro out3_1 _ hs _;exact pop_add (by omega) ⟨_,by omega,k+1,rfl,rfl,by omega,by omega,by rw [<- map_snoc (k:=k) hr_x20]; exact hs⟩
 rw [take_min (xs:=xs) (k:=k) (m:=4) (by omega) (by omega) (of_decide_eq_false c_x15)] at hs;exact hs.fresh
theorem C10 (p:TProg) (pv:TProgV) (w:World) (hp:Deep.dr w pv p):CR 10 [Flat.val pv] w (λ v w'=>∃ qv:TProgV,v=Flat.val qv/\New (frz (λ w=>Deep.dr w qv (cut5 p))) w w'):=by
 obtain ⟨g_lines_p,g_vols_p,g_locks_p,g_threads_p,g_recover_p,g_claims_p,rfl,d_lines_p,d_vols_p,d_locks_p,d_threads_p,d_recover_p,d_claims_p⟩:=hp;have hs:=St.start w;refine sok Tryz.func10 (pl:=P10) ?_;refine eop_boxV hs (λ b_p1 w1 hs=>eop_allocA hs zero40 (λ b_x2 _ hs=>have hs:=hs.enc (cs':=Flat.enc (⟨⟨none,0,0⟩,⟨none,0,0⟩,⟨none,0,0⟩,⟨none,0,0⟩,⟨none,0,0⟩,⟨none,0,0⟩⟩:TProgV)) rfl;⟨λ jv w'=>∃ (b_q3_5:Nat) (sv1 sv2 sv3 sv4:SV),jv = .pointer (some ⟨b_q3_5,0,none⟩)/\St w none1 [blk b_q3_5 (Flat.enc (⟨⟨none,0,0⟩,sv1,sv2,sv3,sv4,⟨none,0,0⟩⟩:TProgV)),ownL (Flat.val sv1) (cutCs p.vols),ownL (Flat.val sv2) (cutCs p.locks),ownD (Flat.val sv3) (cutThs p.threads),ownD (Flat.val sv4) (cutThs p.recover),blk b_p1 (Flat.enc (⟨g_lines_p,g_vols_p,g_locks_p,g_threads_p,g_recover_p,g_claims_p⟩:TProgV)),blk b_x2 (Flat.enc (⟨⟨none,0,0⟩,⟨none,0,0⟩,⟨none,0,0⟩,⟨none,0,0⟩,⟨none,0,0⟩,⟨none,0,0⟩⟩:TProgV))] w',?_,?_⟩))
 ·refine pop_field fld40_1 ?_;have hs:=hs.drew;refine qop_blk ty37 hs.p1.hb rfl ?_;have hf68:=DL.flat (d_vols_p);refine pop_field fld40_2 (qop_blk ty37 hs.p1.hb rfl ?_);have hf69:=DL.flat (d_locks_p);refine pop_field fld40_3 (qop_blk ty35 hs.p1.hb rfl (pop_field fld40_4 (qop_blk ty35 hs.p1.hb rfl ⟨callN pl46 hs (C46 _ _ _ (hf68.ext hs.chg)) (λ x8 _ hnew hs=>⟨run_loadOne ty37 (hs.p2.hb.cell rfl),⟨run_loadOne ty35 (hs.p2.hb.cell rfl),⟨run_loadOne ty35 (hs.p2.hb.cell rfl),⟨callN pl46 hs (C46 _ _ _ (hf69.ext hs.chg)) (λ x11 _ hnew hs=>⟨run_loadOne ty35 (hs.p3.hb.cell rfl),⟨run_loadOne ty35 (hs.p3.hb.cell rfl),⟨callN pl47 hs (C47 _ _ _ (d_threads_p.ext hs.chg)) (λ x14 _ hnew hs=>⟨run_loadOne ty35 (hs.p4.hb.cell rfl),⟨?_,⟨?_,?_⟩⟩⟩),⟨?_,?_⟩⟩⟩⟩),⟨?_,?_⟩⟩⟩⟩⟩),⟨?_,?_⟩⟩)))
  ·refine callN pl47 hs (C47 _ _ _ (d_recover_p.ext hs.chg)) (λ x17 _ hnew hs=>?_);obtain ⟨sv_x8,rfl⟩:=(hs.p3).isSV;obtain ⟨sv_x11,rfl⟩:=(hs.p2).isSV;obtain ⟨sv_x14,rfl⟩:=(hs.p1).isSVd;obtain ⟨sv_x17,rfl⟩:=(hs).isSVd;refine pop (bld40_1_2_3_4 _ _ _ _ _ _ _ _ _ _ _ _) (eop_allocA hs zero40 (λ b_q3 _ hs=>?_));have hs:=hs.enc (cs':=Flat.enc (⟨⟨none,0,0⟩,⟨none,0,0⟩,⟨none,0,0⟩,⟨none,0,0⟩,⟨none,0,0⟩,⟨none,0,0⟩⟩:TProgV)) rfl;refine ⟨run_loadOne ty37 (hs.p6.hb.cell rfl),?_⟩;refine ⟨run_loadOne ty37 (hs.p6.hb.cell rfl),?_⟩;refine ⟨run_loadOne ty35 (hs.p6.hb.cell rfl),?_⟩;refine ⟨run_loadOne ty35 (hs.p6.hb.cell rfl),?_⟩;exact uop_blkV (x:=(⟨⟨none,0,0⟩,sv_x8,sv_x11,sv_x14,sv_x17,⟨none,0,0⟩⟩:TProgV)) hs ty40 rfl rfl (λ _ hs=>have hs:=hs.p5.p6.p3.p4.p5.p6.p6;⟨_,_,_,_,_,rfl,hs⟩)
  ·refine eop_allocA hs zero40 (λ b_q3_1 _ hs=>?_);have hs:=hs.enc (cs':=Flat.enc (⟨⟨none,0,0⟩,⟨none,0,0⟩,⟨none,0,0⟩,⟨none,0,0⟩,⟨none,0,0⟩,⟨none,0,0⟩⟩:TProgV)) rfl;refine ⟨run_loadOne ty37 (hs.p5.hb.cell rfl),?_⟩;refine ⟨run_loadOne ty37 (hs.p5.hb.cell rfl),?_⟩;refine ⟨run_loadOne ty35 (hs.p5.hb.cell rfl),?_⟩;refine ⟨run_loadOne ty35 (hs.p5.hb.cell rfl),?_⟩;refine callN pl47 hs (C47 _ _ _ (d_recover_p.ext hs.chg)) (λ x17_1 _ hnew hs=>?_);obtain ⟨sv_x8,rfl⟩:=(hs.p4).isSV;obtain ⟨sv_x11,rfl⟩:=(hs.p3).isSV;obtain ⟨sv_x14,rfl⟩:=(hs.p2).isSVd;obtain ⟨sv_x17_1,rfl⟩:=(hs).isSVd;exact pop (bld40_1_2_3_4 _ _ _ _ _ _ _ _ _ _ _ _) (uop_blkV (x:=(⟨⟨none,0,0⟩,sv_x8,sv_x11,sv_x14,sv_x17_1,⟨none,0,0⟩⟩:TProgV)) hs.p1 ty40 rfl rfl (λ _ hs=>have hs:=hs.p5.p6.p3.p4.p5.p6.p6;⟨_,_,_,_,_,rfl,hs⟩))
  ·trivial
  ·refine eop_allocA hs zero40 (λ b_q3_2 _ hs=>?_);have hs:=hs.enc (cs':=Flat.enc (⟨⟨none,0,0⟩,⟨none,0,0⟩,⟨none,0,0⟩,⟨none,0,0⟩,⟨none,0,0⟩,⟨none,0,0⟩⟩:TProgV)) rfl;refine ⟨run_loadOne ty37 (hs.p4.hb.cell rfl),?_⟩;refine ⟨run_loadOne ty37 (hs.p4.hb.cell rfl),?_⟩;refine ⟨run_loadOne ty35 (hs.p4.hb.cell rfl),?_⟩;refine ⟨run_loadOne ty35 (hs.p4.hb.cell rfl),?_⟩;refine callN pl47 hs (C47 _ _ _ (d_threads_p.ext hs.chg)) (λ x14_1 _ hnew hs=>?_);refine ⟨run_loadOne ty35 (hs.p5.hb.cell rfl),?_⟩;refine callN pl47 hs (C47 _ _ _ (d_recover_p.ext hs.chg)) (λ x17_2 _ hnew hs=>?_);obtain ⟨sv_x8,rfl⟩:=(hs.p4).isSV;obtain ⟨sv_x11,rfl⟩:=(hs.p3).isSV;obtain ⟨sv_x14_1,rfl⟩:=(hs.p1).isSVd
   obtain ⟨sv_x17_2,rfl⟩:=(hs).isSVd;exact pop (bld40_1_2_3_4 _ _ _ _ _ _ _ _ _ _ _ _) (uop_blkV (x:=(⟨⟨none,0,0⟩,sv_x8,sv_x11,sv_x14_1,sv_x17_2,⟨none,0,0⟩⟩:TProgV)) hs.p2 ty40 rfl rfl (λ _ hs=>have hs:=hs.p5.p6.p3.p4.p5.p6.p6;⟨_,_,_,_,_,rfl,hs⟩))
  ·trivial
  ·refine eop_allocA hs zero40 (λ b_q3_3 _ hs=>?_);have hs:=hs.enc (cs':=Flat.enc (⟨⟨none,0,0⟩,⟨none,0,0⟩,⟨none,0,0⟩,⟨none,0,0⟩,⟨none,0,0⟩,⟨none,0,0⟩⟩:TProgV)) rfl;refine ⟨run_loadOne ty37 (hs.p3.hb.cell rfl),?_⟩;refine ⟨run_loadOne ty37 (hs.p3.hb.cell rfl),?_⟩;refine ⟨run_loadOne ty35 (hs.p3.hb.cell rfl),?_⟩;refine ⟨run_loadOne ty35 (hs.p3.hb.cell rfl),?_⟩;refine callN pl46 hs (C46 _ _ _ (hf69.ext hs.chg)) (λ x11_1 _ hnew hs=>?_);refine ⟨run_loadOne ty35 (hs.p4.hb.cell rfl),?_⟩;refine ⟨run_loadOne ty35 (hs.p4.hb.cell rfl),?_⟩;refine callN pl47 hs (C47 _ _ _ (d_threads_p.ext hs.chg)) (λ x14_2 _ hnew hs=>?_);refine ⟨run_loadOne ty35 (hs.p5.hb.cell rfl),?_⟩
   refine callN pl47 hs (C47 _ _ _ (d_recover_p.ext hs.chg)) (λ x17_3 _ hnew hs=>?_);obtain ⟨sv_x8,rfl⟩:=(hs.p4).isSV;obtain ⟨sv_x11_1,rfl⟩:=(hs.p2).isSV;obtain ⟨sv_x14_2,rfl⟩:=(hs.p1).isSVd;obtain ⟨sv_x17_3,rfl⟩:=(hs).isSVd;exact pop (bld40_1_2_3_4 _ _ _ _ _ _ _ _ _ _ _ _) (uop_blkV (x:=(⟨⟨none,0,0⟩,sv_x8,sv_x11_1,sv_x14_2,sv_x17_3,⟨none,0,0⟩⟩:TProgV)) hs.p3 ty40 rfl rfl (λ _ hs=>have hs:=hs.p5.p6.p3.p4.p5.p6.p6;⟨_,_,_,_,_,rfl,hs⟩))
  ·trivial
  ·refine eop_allocA hs zero40 (λ b_q3_4 _ hs=>?_);have hs:=hs.enc (cs':=Flat.enc (⟨⟨none,0,0⟩,⟨none,0,0⟩,⟨none,0,0⟩,⟨none,0,0⟩,⟨none,0,0⟩,⟨none,0,0⟩⟩:TProgV)) rfl;refine ⟨run_loadOne ty37 (hs.p2.hb.cell rfl),?_⟩;refine ⟨run_loadOne ty37 (hs.p2.hb.cell rfl),?_⟩;refine ⟨run_loadOne ty35 (hs.p2.hb.cell rfl),?_⟩;refine ⟨run_loadOne ty35 (hs.p2.hb.cell rfl),?_⟩;refine callN pl46 hs (C46 _ _ _ (hf68.ext hs.chg)) (λ x8_1 _ hnew hs=>?_);refine ⟨run_loadOne ty37 (hs.p3.hb.cell rfl),?_⟩;refine ⟨run_loadOne ty35 (hs.p3.hb.cell rfl),?_⟩;refine ⟨run_loadOne ty35 (hs.p3.hb.cell rfl),?_⟩;refine callN pl46 hs (C46 _ _ _ (hf69.ext hs.chg)) (λ x11_2 _ hnew hs=>?_);refine ⟨run_loadOne ty35 (hs.p4.hb.cell rfl),?_⟩
   refine ⟨run_loadOne ty35 (hs.p4.hb.cell rfl),?_⟩;refine callN pl47 hs (C47 _ _ _ (d_threads_p.ext hs.chg)) (λ x14_3 _ hnew hs=>?_);refine ⟨run_loadOne ty35 (hs.p5.hb.cell rfl),?_⟩;refine callN pl47 hs (C47 _ _ _ (d_recover_p.ext hs.chg)) (λ x17_4 _ hnew hs=>?_);obtain ⟨sv_x8_1,rfl⟩:=(hs.p3).isSV;obtain ⟨sv_x11_2,rfl⟩:=(hs.p2).isSV;obtain ⟨sv_x14_3,rfl⟩:=(hs.p1).isSVd;obtain ⟨sv_x17_4,rfl⟩:=(hs).isSVd;exact pop (bld40_1_2_3_4 _ _ _ _ _ _ _ _ _ _ _ _) (uop_blkV (x:=(⟨⟨none,0,0⟩,sv_x8_1,sv_x11_2,sv_x14_3,sv_x17_4,⟨none,0,0⟩⟩:TProgV)) hs.p4 ty40 rfl rfl (λ _ hs=>have hs:=hs.p5.p6.p3.p4.p5.p6.p6;⟨_,_,_,_,_,rfl,hs⟩))
  trivial
 rintro _ _ ⟨b_q3_5,sv1,sv2,sv3,sv4,rfl,hs⟩ _;have hs:=((((((((hs.dNil (α:=(List TCell))).p7).p7).p7).p7).p7).p7).p6).p7;refine ⟨λ m x w1=>∃ (k:Nat) (sl:SV),x = .int .i64 (k:Int)/\m=6 - k/\k<=6/\k<=p.lines.length/\St w none1 [blk b_q3_5 (Flat.enc (⟨sl,sv1,sv2,sv3,sv4,⟨none,0,0⟩⟩:TProgV)),ownD (Flat.val sl) ((p.lines.take k).map cutCs),ownL (Flat.val sv1) (cutCs p.vols),ownL (Flat.val sv2) (cutCs p.locks),ownD (Flat.val sv3) (cutThs p.threads),ownD (Flat.val sv4) (cutThs p.recover),blk b_p1 (Flat.enc (⟨g_lines_p,g_vols_p,g_locks_p,g_threads_p,g_recover_p,g_claims_p⟩:TProgV)),blk b_x2 (Flat.enc (⟨⟨none,0,0⟩,⟨none,0,0⟩,⟨none,0,0⟩,⟨none,0,0⟩,⟨none,0,0⟩,⟨none,0,0⟩⟩:TProgV))] w1,⟨_,0,⟨none,0,0⟩,rfl,rfl,by omega,by omega,hs⟩,?_⟩
 rintro m _ _ ⟨k,sl,rfl,rfl,hk,hk2,hs⟩ _;have hmlk:((p.lines.take k).map cutCs).length=k:=by rw [List.length_map,List.length_take]; omega
 refine ⟨λ jv w'=>jv = .bool (decide (k<p.lines.length/\k<6))/\St w none1 [blk b_q3_5 (Flat.enc (⟨sl,sv1,sv2,sv3,sv4,⟨none,0,0⟩⟩:TProgV)),ownD (Flat.val sl) ((p.lines.take k).map cutCs),ownL (Flat.val sv1) (cutCs p.vols),ownL (Flat.val sv2) (cutCs p.locks),ownD (Flat.val sv3) (cutThs p.threads),ownD (Flat.val sv4) (cutThs p.recover),blk b_p1 (Flat.enc (⟨g_lines_p,g_vols_p,g_locks_p,g_threads_p,g_recover_p,g_claims_p⟩:TProgV)),blk b_x2 (Flat.enc (⟨⟨none,0,0⟩,⟨none,0,0⟩,⟨none,0,0⟩,⟨none,0,0⟩,⟨none,0,0⟩,⟨none,0,0⟩⟩:TProgV))] w',?_,?_⟩
 ·refine pop_field fld40_0 (qop_blk ty36 hs.p6.hb rfl ?_);obtain ⟨ts70,hR70,hD70⟩:=(d_lines_p).open;have hn70:=hD70.1;exact pop_len sl36 (hR70.ext hs.chg) (pop_lss (cond_d (λ _=>pop_lss ⟨vb (by grind),hs⟩) (λ _=>⟨vb (by grind),hs⟩)))
 rintro _ _ ⟨rfl,hs⟩ _;refine cond_b (λ c_x27=>?_) (λ c_x27=>?_)
 ·have hc27:k<p.lines.length/\k<6:=by simpa using c_x27
  refine pop_field fld40_0 ?_;have hs:=hs.drew;refine qop_blk (v:=Flat.val (sl:SV)) ty36 hs.hb rfl (pop_field fld40_0 ?_);refine qop_blk ty36 hs.p6.hb rfl ?_;obtain ⟨ts71,hR71,hD71⟩:=(d_lines_p).open;have hn71:=hD71.1;obtain ⟨e_x35,he_x35⟩:=gx ts71 (i:=((k:Int)).toNat) (by omega);obtain ⟨r_x35,hr_x35⟩:=gx ((p).lines) (i:=((k:Int)).toNat) (by omega);have d_x35:DL w (Flat.val e_x35) r_x35:=hD71.2 _ _ _ he_x35 hr_x35;refine pop_idx sl36 hR71 (by omega) he_x35 (λ _ h_x35=>qop_at ty37 (h_x35.ext hs.chg) ?_);have hf72:=DL.flat (d_x35);refine callN pl46 hs (C46 _ _ _ (hf72.ext hs.chg)) (λ x37 _ hnew hs=>?_);refine ⟨run_loadOne ty36 (hs.p1.hb.cell rfl),?_⟩;obtain ⟨sv_x37,rfl⟩:=(hs).isSV
  have hs:=hs.freeze.frzMono (Ψ:=λ w=>Deep.dr w sv_x37 ((cutCs r_x35))) (λ _ h=>DL.unflat h);refine eop_buildD1 (s:=sv_x37) (x:=(cutCs r_x35)) hs sl36 (by decide) (λ s_x38 _ hs=>?_);refine ⟨run_loadOne ty36 (hs.p1.hb.cell rfl),?_⟩;have hs:=hs.p2;refine eop_appendD hs sl36 (by rw [hmlk,List.length_singleton]; omega) (by decide) (λ s_x39 _ hs=>pop_field fld40_0 ?_);obtain ⟨sv_x39,rfl⟩:=(hs).isSVd;exact uop_blk hs.p1 ty36 (leb rfl) (rfl) (λ _ hs=>have hs:=hs.enc (cs':=Flat.enc (⟨sv_x39,sv1,sv2,sv3,sv4,⟨none,0,0⟩⟩:TProgV)) rfl;pop_add (by omega) (have hs:=hs.p7.p7.p7.p7.p7.p7.p7.p7;⟨_,by omega,k+1,sv_x39,rfl,rfl,by omega,by omega,by rw [<- map_snoc (k:=k) hr_x35]; exact hs⟩))
 rw [take_min (xs:=p.lines) (k:=k) (m:=6) (by omega) (by omega) (of_decide_eq_false c_x27)] at hs;have hs:=(((((((((hs.dNil (α:=TClaim)).p8).p8).p8).p8).p8).p8).p8).p7).p8;refine ⟨λ m x w1=>∃ (j:Nat) (sc:SV),x = .int .i64 (j:Int)/\m=6 - j/\j<=6/\j<=p.claims.length/\St w none1 [blk b_q3_5 (Flat.enc (⟨sl,sv1,sv2,sv3,sv4,sc⟩:TProgV)),ownD (Flat.val sc) ((p.claims.take j).map cutCl),ownD (Flat.val sl) ((p.lines.take 6).map cutCs),ownL (Flat.val sv1) (cutCs p.vols),ownL (Flat.val sv2) (cutCs p.locks),ownD (Flat.val sv3) (cutThs p.threads),ownD (Flat.val sv4) (cutThs p.recover),blk b_p1 (Flat.enc (⟨g_lines_p,g_vols_p,g_locks_p,g_threads_p,g_recover_p,g_claims_p⟩:TProgV)),blk b_x2 (Flat.enc (⟨⟨none,0,0⟩,⟨none,0,0⟩,⟨none,0,0⟩,⟨none,0,0⟩,⟨none,0,0⟩,⟨none,0,0⟩⟩:TProgV))] w1,⟨_,0,⟨none,0,0⟩,rfl,rfl,by omega,by omega,hs⟩,?_⟩
 rintro m _ _ ⟨j,sc,rfl,rfl,hj,hj2,hs⟩ _;have hmlj:((p.claims.take j).map cutCl).length=j:=by rw [List.length_map,List.length_take]; omega
 refine ⟨λ jv w'=>jv = .bool (decide (j<p.claims.length/\j<6))/\St w none1 [blk b_q3_5 (Flat.enc (⟨sl,sv1,sv2,sv3,sv4,sc⟩:TProgV)),ownD (Flat.val sc) ((p.claims.take j).map cutCl),ownD (Flat.val sl) ((p.lines.take 6).map cutCs),ownL (Flat.val sv1) (cutCs p.vols),ownL (Flat.val sv2) (cutCs p.locks),ownD (Flat.val sv3) (cutThs p.threads),ownD (Flat.val sv4) (cutThs p.recover),blk b_p1 (Flat.enc (⟨g_lines_p,g_vols_p,g_locks_p,g_threads_p,g_recover_p,g_claims_p⟩:TProgV)),blk b_x2 (Flat.enc (⟨⟨none,0,0⟩,⟨none,0,0⟩,⟨none,0,0⟩,⟨none,0,0⟩,⟨none,0,0⟩,⟨none,0,0⟩⟩:TProgV))] w',?_,?_⟩
 ·refine pop_field fld40_5 (qop_blk ty38 hs.p7.hb rfl ?_);obtain ⟨ts73,hR73,hD73⟩:=(d_claims_p).open;have hn73:=hD73.1;exact pop_len sl38 (hR73.ext hs.chg) (pop_lss (cond_d (λ _=>pop_lss ⟨vb (by grind),hs⟩) (λ _=>⟨vb (by grind),hs⟩)))
 rintro _ _ ⟨rfl,hs⟩ _;refine cond_b (λ c_x49=>?_) (λ c_x49=>?_)
 ·have hc49:j<p.claims.length/\j<6:=by simpa using c_x49
  refine pop_field fld40_5 ?_;have hs:=hs.drew;refine qop_blk (v:=Flat.val (sc:SV)) ty38 hs.hb rfl (pop_field fld40_5 ?_);refine qop_blk ty38 hs.p7.hb rfl ?_;obtain ⟨ts74,hR74,hD74⟩:=(d_claims_p).open;have hn74:=hD74.1;obtain ⟨e_x57,he_x57⟩:=gx ts74 (i:=((j:Int)).toNat) (by omega);obtain ⟨r_x57,hr_x57⟩:=gx ((p).claims) (i:=((j:Int)).toNat) (by omega);obtain ⟨g_e_x57,rfl,d_e_x57⟩:=hD74.2 _ _ _ he_x57 hr_x57;refine pop_idx sl38 hR74 (by omega) he_x57 (λ _ h_x57=>pop_atf g_e_x57 fld112_0 h_x57 rfl rfl (λ _ h_x58=>?_));refine qop_at ty22 (h_x58.ext hs.chg) ?_;have hf75:=DL.flat (d_e_x57);refine pop_field fld40_5 (qop_blk ty38 hs.p7.hb rfl ?_);refine pop_idx sl38 hR74 (by omega) he_x57 (λ _ h_x64=>pop_atf (r_x57).at_ fld112_1 h_x64 rfl rfl (λ _ h_x65=>?_))
  refine qop_at ty3 (h_x65.ext hs.chg) (callN pl48 hs (C48 _ _ _ (hf75.ext hs.chg)) (λ x60 _ hnew hs=>?_));refine ⟨run_loadOne ty38 (hs.p1.hb.cell rfl),?_⟩;refine ⟨run_loadOne ty38 (hs.p8.hb.cell rfl),?_⟩;refine ⟨run_at ty3 (h_x65.ext hs.chg),?_⟩;obtain ⟨sv_x60,rfl⟩:=(hs).isSV;refine pop (bld112_0_1 _ _ _ _) ?_;have hs:=hs.freeze.frzMono (Ψ:=(λ w=>Deep.dr w (⟨sv_x60,(r_x57).at_⟩:TClaimV) (⟨(cut3 (r_x57).e),(r_x57).at_⟩:TClaim))) (λ _ h=>⟨_,rfl,DL.unflat h⟩);refine eop_buildD1 (s:=(⟨sv_x60,(r_x57).at_⟩:TClaimV)) (x:=(⟨(cut3 (r_x57).e),(r_x57).at_⟩:TClaim)) hs sl38 (by decide) (λ s_x68 _ hs=>?_);refine ⟨run_loadOne ty38 (hs.p1.hb.cell rfl),?_⟩;have hs:=hs.p2
  refine eop_appendD hs sl38 (by rw [hmlj,List.length_singleton]; omega) (by decide) (λ s_x69 _ hs=>pop_field fld40_5 ?_);obtain ⟨sv_x69,rfl⟩:=(hs).isSVd;exact uop_blk hs.p1 ty38 (leb rfl) (rfl) (λ _ hs=>have hs:=hs.enc (cs':=Flat.enc (⟨sl,sv1,sv2,sv3,sv4,sv_x69⟩:TProgV)) rfl;pop_add (by omega) (have hs:=hs.p8.p8.p8.p8.p8.p8.p8.p8.p8;⟨_,by omega,j+1,sv_x69,rfl,rfl,by omega,by omega,by rw [<- map_snoc (k:=j) hr_x57]; exact hs⟩))
 refine qop_at ty40 hs.At (uop_blkV (x:=(⟨sl,sv1,sv2,sv3,sv4,sc⟩:TProgV)) hs.p8 ty40 rfl rfl (λ _ hs=>?_));refine qop_at ty40 hs.At ?_;rw [take_min (xs:=p.claims) (k:=j) (m:=6) (by omega) (by omega) (of_decide_eq_false c_x49)] at hs;have hs:=hs.p3.dFreeze.p4.freeze.p1.frzAnd.p4.freeze.p1.frzAnd.p4.dFreeze.p1.frzAnd.p4.dFreeze.p1.frzAnd;have hs:=hs.p3.dFreeze.p1.frzAnd.frzMono (Ψ:=(λ w=>Deep.dr w (⟨sl,sv1,sv2,sv3,sv4,sc⟩:TProgV) (⟨((p.lines.take 6).map cutCs),(cutCs p.vols),(cutCs p.locks),(cutThs p.threads),(cutThs p.recover),((p.claims.take 6).map cutCl)⟩:TProg))) (λ _ h=>⟨_,_,_,_,_,_,rfl,h.1.1.1.1.1,DL.unflat h.1.1.1.1.2,DL.unflat h.1.1.1.2,h.1.1.2,h.1.2,h.2⟩)
 have hs:=(((hs.p1.drop.p1).drop).p1).drop;exact ⟨_,rfl,hs.fresh⟩
def wantM (l:List Int) (i:Nat):Int:=if i=0 then 0 else l.getD (i - 1) 0+1
theorem b01_in (x:TStmt) (loops:Int):loops+b01 (decide (x.kind=12))=Bk.inn x loops:=by
 unfold Bk.inn b01
 by_cases h:x.kind=12
 ·rw [if_pos h,decide_eq_true h]; rfl
 rw [if_neg h,decide_eq_false h]; simp
theorem b01_b (b:Bool):0<=b01 b/\b01 b<=1:=by cases b <;> decide
theorem C224 (sv fv:Value) (xs:List TStmt) (φ:TStmt->Prop) (g:TStmt->Bool) (w:World) (hL:DL w sv xs) (hf:FnOnD Tryz.prog w fv φ g) (hφ:∀ x∈xs,φ x) (hn:xs.length<=1073741824):CR 224 [sv,fv] w (λ v w'=>v = .int .i64 (idxF g xs)/\Ext w w'):=by
 obtain ⟨g0,first,cap,rfl,hpl,hcall⟩:=hf;have hs:=St.start w;refine S224_ok _ _ _ _ ?_;unfold S224;obtain ⟨ts3,hR3,hD3⟩:=(hL).open;have hn3:=hD3.1;refine pop_len sl27 (hR3.ext hs.chg) ?_;refine ⟨λ m x w1=>∃ k:Nat,x = .int .i64 (k:Int)/\m=xs.length - k/\k<=xs.length/\(∀ y∈xs.take k,g y=false)/\St w none1 [] w1,⟨_,0,rfl,rfl,Nat.zero_le _,by simp,hs⟩,?_⟩;rintro m _ w1 ⟨k,rfl,rfl,hk,hno,hs⟩ _;refine pop_lss (cond_d (λ c_x9=>?_) (λ _=>⟨congrArg (Value.int .i64) (idxF_none (by rw [List.take_of_length_le (by omega)] at hno; exact hno)).symm,hs.chg⟩));obtain ⟨e_x14,he_x14⟩:=gx ts3 (i:=((k:Int)).toNat) (by omega);obtain ⟨r_x14,hr_x14⟩:=gx (xs) (i:=((k:Int)).toNat) (by omega)
 obtain ⟨g_e_x14,g_f_x14,rfl,d_e_x14,d_f_x14⟩:=hD3.2 _ _ _ he_x14 hr_x14;refine pop_idx sl27 hR3 (by omega) he_x14 (λ _ h_x14=>qop_at ty24 (h_x14.ext hs.chg) ?_);refine callV hpl (hcall _ r_x14 w1 hs.chg ⟨g_e_x14,g_f_x14,rfl,(d_e_x14.ext hs.chg),(d_f_x14.ext hs.chg)⟩ (hφ _ (List.mem_of_getElem? hr_x14))) ?_;rintro _ _ ⟨rfl,he⟩;have hs:=hs.ext he;exact cond_b (λ c_x16=>⟨congrArg (Value.int .i64) (idxF_at hno hr_x14 c_x16).symm,hs.chg⟩) (λ c_x16=>pop_add (by omega) ⟨_,by omega,k+1,rfl,rfl,by omega,take_all hno hr_x14 c_x16,hs⟩)
theorem C200 (sv fv:Value) (xs:List TStmt) (φ:TStmt->Prop) (g:TStmt->Bool) (w:World) (hL:DL w sv xs) (hf:FnOnD Tryz.prog w fv φ g) (hφ:∀ x∈xs,φ x) (hn:xs.length<=1073741824):CR 200 [sv,fv] w (λ v w'=>v = .bool (xs.any g)/\Ext w w'):=by
 have hs:=St.start w;refine S200_ok _ _ _ _ ?_;unfold S200;exact callP pl224 hs (C224 _ _ _ _ _ _ (hL.ext hs.chg) (hf.ext hs.chg) hφ (by omega)) (λ _ _ hs=>pop_geq ⟨vb (idxF_any _ _),hs.chg⟩)
theorem C202 (lv:Value) (xs:List TStmt) (loops:Int) (N:Nat) (w:World) (hL:DL w lv xs) (hn:xs.length<=40) (hlo:0<=loops) (hlb:loops+N<=4194304) (hN:xs.length<N):CR 202 [lv,.int .i64 loops] w (λ v w'=>v = .int .i64 (deepS xs loops)/\Ext w w'):=by
 have hs:=St.start w;refine S202_ok _ _ _ _ ?_;unfold S202;refine ⟨λ m y x w1=>∃ (k:Nat) (n:Int),y = .int .i64 n/\x = .int .i64 (k:Int)/\m=xs.length - k/\k<=xs.length/\0<=n/\n<=41/\deepS xs loops=combD n (deepS (xs.drop k) loops)/\St w none1 [] w1,⟨_,0,0,rfl,rfl,rfl,by omega,by omega,by omega,by have:=deepS_b xs loops; rw [List.drop_zero]; unfold combD; split <;> omega,hs⟩,?_⟩;rintro m _ _ w1 ⟨k,n,rfl,rfl,rfl,hk,hn0,hn1,hinv,hs⟩ _;obtain ⟨ts4,hR4,hD4⟩:=(hL).open;have hn4:=hD4.1;refine pop_len sl27 (hR4.ext hs.chg) (pop_lss (cond_d (λ c_x16=>?_) (λ c_x16=>?_)))
 ·obtain ⟨e_x19,he_x19⟩:=gx ts4 (i:=((k:Int)).toNat) (by omega);obtain ⟨r_x19,hr_x19⟩:=gx (xs) (i:=((k:Int)).toNat) (by omega);obtain ⟨g_e_x19,g_f_x19,rfl,d_e_x19,d_f_x19⟩:=hD4.2 _ _ _ he_x19 hr_x19;refine pop_idx sl27 hR4 (by omega) he_x19 (λ _ h_x19=>?_);have hdk:=drop_cons (xs:=xs) (k:=k) hr_x19;rw [hdk] at hinv;have hdl:(xs.drop (k+1)).length=xs.length - (k+1):=List.length_drop;refine qop_at ty24 (h_x19.ext hs.chg) (eop_allocA hs zero24 (λ b_x7 _ hs=>?_));have hs:=hs.enc (cs':=Flat.enc (⟨0,(ByteArray.mk #[]),(ByteArray.mk #[]),⟨none,0,0⟩,⟨none,0,0⟩,0,0,0,0⟩:TStmtV)) rfl;refine uop_blkV (x:=(⟨(r_x19).kind,(r_x19).reg,(r_x19).name,g_e_x19,g_f_x19,(r_x19).n,(r_x19).body,(r_x19).els,(r_x19).at_⟩:TStmtV)) hs ty24 rfl rfl (λ _ hs=>pop_add (by omega) ?_)
  refine pop_field fld24_6 (qop_blk (v:=.int .i64 ((r_x19).body)) ty3 hs.hb rfl ?_);refine pop_addW ?_;obtain ⟨W1,hW1⟩:∃ W,W=w64 (((k:Int)+1)+(r_x19).body):=⟨_,rfl⟩;rw [<- hW1];refine pop_field fld24_7 (qop_blk (v:=.int .i64 ((r_x19).els)) ty3 hs.hb rfl ?_);refine pop_addW ?_;obtain ⟨W2,hW2⟩:∃ W,W=w64 (W1+(r_x19).els):=⟨_,rfl⟩;rw [<- hW2];refine ⟨λ jv w'=>jv = .bool (Bk.blkK r_x19)/\St w none1 [blk b_x7 (Flat.enc (⟨(r_x19).kind,(r_x19).reg,(r_x19).name,g_e_x19,g_f_x19,(r_x19).n,(r_x19).body,(r_x19).els,(r_x19).at_⟩:TStmtV))] w',pop_field fld24_0 (qop_blk (v:=.int .i64 ((r_x19).kind)) ty3 hs.hb rfl (pop_eql (cond_d (λ _=>⟨vb (by unfold Bk.blkK; grind),hs⟩) (λ _=>pop_field fld24_0 (qop_blk (v:=.int .i64 ((r_x19).kind)) ty3 hs.hb rfl (pop_eql ⟨vb (by unfold Bk.blkK; grind),hs⟩)))))),?_⟩
  rintro _ _ ⟨rfl,hs⟩ _;refine ⟨λ jv w'=>jv = .bool (decide (r_x19.body<0\/r_x19.els<0\/(xs.length:Int)<r_x19.body\/(xs.length:Int)<r_x19.els\/(xs.length:Int)<W2))/\St w none1 [blk b_x7 (Flat.enc (⟨(r_x19).kind,(r_x19).reg,(r_x19).name,g_e_x19,g_f_x19,(r_x19).n,(r_x19).body,(r_x19).els,(r_x19).at_⟩:TStmtV))] w',pop_field fld24_6 (qop_blk (v:=.int .i64 ((r_x19).body)) ty3 hs.hb rfl (pop_lss (cond_d (λ _=>⟨vb (by grind),hs⟩) (λ c_x40=>?_)))),?_⟩
  ·refine pop_field fld24_7 (qop_blk (v:=.int .i64 ((r_x19).els)) ty3 hs.hb rfl ?_);refine pop_lss ?_;exact cond_d (λ _=>⟨vb (by grind),hs⟩) (λ _=>pop_field fld24_6 (qop_blk (v:=.int .i64 ((r_x19).body)) ty3 hs.hb rfl (pop_len sl27 (hR4.ext hs.chg) (pop_gtr (cond_d (λ _=>⟨vb (by grind),hs⟩) (λ _=>pop_field fld24_7 (qop_blk (v:=.int .i64 ((r_x19).els)) ty3 hs.hb rfl (pop_len sl27 (hR4.ext hs.chg) (pop_gtr (cond_d (λ _=>⟨vb (by grind),hs⟩) (λ _=>pop_len sl27 (hR4.ext hs.chg) (pop_gtr ⟨vb (by grind),hs⟩))))))))))))
  rintro _ _ ⟨rfl,hs⟩ _;refine cond_b (λ c_x37=>?_) (λ c_x37=>?_)
  ·have hW:0<=r_x19.body/\r_x19.body<=40/\0<=r_x19.els/\r_x19.els<=40->W2=(k:Int)+1+r_x19.body+r_x19.els:=λ h=>by
    have h1:W1=(k:Int)+1+r_x19.body:=by rw [hW1]; exact w64_in (by omega)
    rw [hW2,w64_in (by omega)]; omega
   exact ⟨congrArg (Value.int .i64) (dS_bad hinv (by unfold sizeX; grind)).symm,hs.drop.chg⟩
  have hq:=of_decide_eq_false c_x37
  have hW:W2=(k:Int)+1+r_x19.body+r_x19.els:=by
   have h1:W1=(k:Int)+1+r_x19.body:=by rw [hW1]; exact w64_in (by omega)
   rw [hW2,w64_in (by omega)]; omega
  have hsz:sizeX r_x19 (xs.drop (k+1)):=by unfold sizeX; omega
  refine ⟨λ jv w'=>jv = .bool (!Bk.okX r_x19 loops)/\St w none1 [blk b_x7 (Flat.enc (⟨(r_x19).kind,(r_x19).reg,(r_x19).name,g_e_x19,g_f_x19,(r_x19).n,(r_x19).body,(r_x19).els,(r_x19).at_⟩:TStmtV))] w',⟨λ jv w'=>jv = .bool (!Bk.blkK r_x19 && decide (0<r_x19.body))/\St w none1 [blk b_x7 (Flat.enc (⟨(r_x19).kind,(r_x19).reg,(r_x19).name,g_e_x19,g_f_x19,(r_x19).n,(r_x19).body,(r_x19).els,(r_x19).at_⟩:TStmtV))] w',pop_not (cond_b (λ _=>pop_field fld24_6 (qop_blk (v:=.int .i64 ((r_x19).body)) ty3 hs.hb rfl (pop_gtr ⟨vb (by grind),hs⟩))) (λ _=>⟨vb (by grind),hs⟩)),?_⟩,?_⟩
  ·rintro _ _ ⟨rfl,hs⟩ _;refine cond_b (λ _=>⟨vb (by unfold Bk.okX; unfold Bk.blkK at *; grind),hs⟩) (λ c_x66=>⟨λ jv w'=>jv = .bool (decide (¬ r_x19.kind=11/\0<r_x19.els))/\St w none1 [blk b_x7 (Flat.enc (⟨(r_x19).kind,(r_x19).reg,(r_x19).name,g_e_x19,g_f_x19,(r_x19).n,(r_x19).body,(r_x19).els,(r_x19).at_⟩:TStmtV))] w',pop_field fld24_0 (qop_blk (v:=.int .i64 ((r_x19).kind)) ty3 hs.hb rfl (pop_neq (cond_d (λ _=>pop_field fld24_7 (qop_blk (v:=.int .i64 ((r_x19).els)) ty3 hs.hb rfl (pop_gtr ⟨vb (by grind),hs⟩))) (λ _=>⟨vb (by grind),hs⟩)))),?_⟩);rintro _ _ ⟨rfl,hs⟩ _;exact cond_b (λ _=>⟨vb (by unfold Bk.okX; unfold Bk.blkK at *; grind),hs⟩) (λ _=>pop_field fld24_0 (qop_blk (v:=.int .i64 ((r_x19).kind)) ty3 hs.hb rfl (pop_eql (cond_d (λ _=>pop_eql ⟨vb (by unfold Bk.okX; unfold Bk.blkK at *; grind),hs⟩) (λ _=>⟨vb (by unfold Bk.okX; unfold Bk.blkK at *; grind),hs⟩)))))
  rintro _ _ ⟨rfl,hs⟩ _;refine cond_b (λ _=>⟨congrArg (Value.int .i64) (dS_bad hinv (by grind)).symm,hs.drop.chg⟩) (λ c_x66_2=>?_);have hok:Bk.okX r_x19 loops=true:=by grind
  have hsz2:=hsz;unfold sizeX at hsz2;refine ⟨λ jv w'=>∃ n':Int,jv = .int .i64 n'/\0<=n'/\n'<=41/\deepS xs loops=combD n' (deepS (xs.drop (k+1+(r_x19.body.toNat+r_x19.els.toNat))) loops)/\St w none1 [blk b_x7 (Flat.enc (⟨(r_x19).kind,(r_x19).reg,(r_x19).name,g_e_x19,g_f_x19,(r_x19).n,(r_x19).body,(r_x19).els,(r_x19).at_⟩:TStmtV))] w',cond_b (λ c_blocks9=>?_) (λ c_blocks9=>?_),?_⟩
  ·have hb01:=b01_in r_x19 loops;have hbb:=b01_b (decide (r_x19.kind=12));have hcA:(((xs).take (((k:Int)+1)+(r_x19).body).toNat).drop ((k:Int)+1).toNat)=(xs.drop (k+1)).take (r_x19).body.toNat:=cut_at xs (by omega) (by omega);have hcB:(((xs).take (W2).toNat).drop (((k:Int)+1)+(r_x19).body).toNat)=((xs.drop (k+1)).drop (r_x19).body.toNat).take (r_x19).els.toNat:=by rw [List.drop_drop]; exact cut_at xs (by omega) (by omega)
   have hlA:(((xs).take (((k:Int)+1)+(r_x19).body).toNat).drop ((k:Int)+1).toNat).length<=xs.length - 1/\(((xs).take (((k:Int)+1)+(r_x19).body).toNat).drop ((k:Int)+1).toNat).length<=40:=by rw [hcA,List.length_take]; omega
   have hlB:(((xs).take (W2).toNat).drop (((k:Int)+1)+(r_x19).body).toNat).length<=xs.length - 1/\(((xs).take (W2).toNat).drop (((k:Int)+1)+(r_x19).body).toNat).length<=40:=by rw [hcB,List.length_take,List.length_drop]; omega
   refine pop_field fld24_0 (qop_blk (v:=.int .i64 ((r_x19).kind)) ty3 hs.hb rfl ?_);refine pop_eql (callP pl220 hs (C220 _ _) (λ _ he hs=>?_));refine pop_add (by omega) (pop_add (by omega) ?_);refine pop_add (by omega) (pop_field fld24_6 ?_);have hs:=hs.drew;refine qop_blk (v:=.int .i64 ((r_x19).body)) ty3 hs.hb rfl (pop_add (by omega) ?_);refine pop_cutLH sl27 (hR4.ext hs.chg) (by omega) (by omega) (by omega) (λ s_x104 hq_x104=>?_);have hc_x104:=DL.cut hq_x104 hR4 hD4;refine pop_add (by omega) (pop_field fld24_6 ?_);refine qop_blk (v:=.int .i64 ((r_x19).body)) ty3 hs.hb rfl (pop_add (by omega) ?_);refine pop_cutLH sl27 (hR4.ext hs.chg) (by omega) (by omega) (by omega) (λ s_x114 hq_x114=>?_)
   have hc_x114:=DL.cut hq_x114 hR4 hD4;refine callP pl202 hs (C202 _ _ _ (N - 1) _ (hc_x104.ext hs.chg) (by omega) (by omega) (by omega) (by omega)) (λ _ he hs=>?_);refine ⟨run_loadOne ty3 (hs.hb.cell rfl),?_⟩;refine callF pl202 (C202 _ _ _ (N - 1) _ (hc_x114.ext hs.chg) (by omega) (by omega) (by omega) (by omega)) ?_;rintro _ _ ⟨rfl,he⟩;have hs:=hs.ext he;obtain ⟨A,hA⟩:∃ A,A=deepS (((xs).take (((k:Int)+1)+(r_x19).body).toNat).drop ((k:Int)+1).toNat) (Bk.inn r_x19 loops):=⟨_,rfl⟩;obtain ⟨B,hB⟩:∃ B,B=deepS (((xs).take (W2).toNat).drop (((k:Int)+1)+(r_x19).body).toNat) (Bk.inn r_x19 loops):=⟨_,rfl⟩;have hAb:=deepS_b (((xs).take (((k:Int)+1)+(r_x19).body).toNat).drop ((k:Int)+1).toNat) (Bk.inn r_x19 loops)
   have hBb:=deepS_b (((xs).take (W2).toNat).drop (((k:Int)+1)+(r_x19).body).toNat) (Bk.inn r_x19 loops);rw [<- hA] at hAb;rw [<- hB] at hBb;rw [b01_in,<- hA,<- hB];have hdb:=dS_blk hinv hsz hok c_blocks9 A B (by rw [hA,hcA]) (by rw [hB,hcB]);refine ⟨λ jv w'=>jv = .bool (decide (A<0\/B<0))/\St w none1 [blk b_x7 (Flat.enc (⟨(r_x19).kind,(r_x19).reg,(r_x19).name,g_e_x19,g_f_x19,(r_x19).n,(r_x19).body,(r_x19).els,(r_x19).at_⟩:TStmtV))] w',pop_eql (cond_d (λ _=>⟨vb (by grind),hs⟩) (λ _=>pop_eql ⟨vb (by grind),hs⟩)),?_⟩;rintro _ _ ⟨rfl,hs⟩ _;refine cond_b (λ c_x122=>⟨congrArg (Value.int .i64) (hdb.1 (of_decide_eq_true c_x122)).symm,hs.drop.chg⟩) (λ c_x122=>pop_add (by omega) ?_)
   refine pop_add (by omega) (pop_max3 ?_);have hdb2:=hdb.2 (of_decide_eq_false c_x122);rw [List.drop_drop,Int.add_comm 1 A,Int.add_comm 1 B] at hdb2;exact ⟨_,rfl,by omega,by omega,hdb2,hs⟩
  ·have hdn:=dS_no hinv hsz hok c_blocks9;rw [List.drop_drop] at hdn;exact ⟨_,rfl,hn0,hn1,hdn,hs⟩
  rintro _ _ ⟨n',rfl,hn0',hn1',hinv',hs⟩ _;exact ⟨_,by omega,k+1+((r_x19).body.toNat+(r_x19).els.toNat),n',rfl,congrArg (Value.int .i64) (by omega),rfl,by omega,hn0',hn1',hinv',hs.drop⟩
 rw [List.drop_eq_nil_of_le (by omega),deepS_nil] at hinv;exact ⟨congrArg (Value.int .i64) (by rw [hinv]; unfold combD; omega),hs.chg⟩
termination_by N
decreasing_by all_goals omega
theorem rightS_e (xs:List TStmt):rightS xs=(!(decide (40<xs.length) || xs.any (λ y=>!fitsM y)) && decide (¬ deepS xs 0 = -1/\deepS xs 0<=12)):=by
 have:=deepS_b xs 0
 unfold rightS
 rw [show decide (0<=deepS xs 0/\deepS xs 0<=12)=decide (¬ deepS xs 0 = -1/\deepS xs 0<=12) from decide_eq_decide.2 (by omega),show decide (xs.length<=40) = !decide (40<xs.length) from by rw [<- decide_not]; exact decide_eq_decide.2 (by omega)]
 cases decide (40<xs.length) <;> cases xs.any (λ y=>!fitsM y) <;> rfl
theorem C168 (lv:Value) (xs:List TStmt) (w:World) (hL:DL w lv xs) (hn:xs.length<=1048576) (hz:∀ x∈xs,x.e.length<=1048576/\x.f.length<=1048576):CR 168 [lv] w (λ v w'=>v = .bool (rightS xs)/\Ext w w'):=by
 have hs:=St.start w;refine S168_ok _ _ _ ?_;unfold S168;refine ⟨λ jv w'=>jv = .bool (decide (40<xs.length) || xs.any (λ y=>!fitsM y))/\St w none1 [] w',?_,?_⟩
 ·obtain ⟨ts5,hR5,hD5⟩:=(hL).open;have hn5:=hD5.1;exact pop_len sl27 (hR5.ext hs.chg) (pop_gtr (cond_d (λ _=>⟨vb (by grind),hs⟩) (λ _=>callP pl200 hs (C200 _ _ _ (λ x=>x.e.length<=1048576/\x.f.length<=1048576) _ _ (hL.ext hs.chg) ⟨201,[],[],rfl,pl201,λ sv y w1 _ hd hp=>C201 y sv w1 hd hp.1 hp.2⟩ hz (by omega)) (λ _ _ hs=>⟨vb (by grind),hs⟩))))
 rintro _ _ ⟨rfl,hs⟩ _;refine cond_b (λ c_x10=>?_) (λ c_x10=>?_)
 ·refine ⟨vb ?_,hs.chg⟩;rw [rightS_e,c_x10]; rfl
 have h40:xs.length<=40:=by grind
 refine callP pl202 hs (C202 _ _ _ (xs.length+1) _ (hL.ext hs.chg) (by omega) (by omega) (by omega) (by omega)) (λ _ he hs=>⟨λ jv w'=>jv = .bool (decide (¬ deepS xs 0 = -1/\deepS xs 0<=12))/\St w none1 [] w',pop_neq (cond_d (λ _=>pop_leq ⟨vb (by grind),hs⟩) (λ _=>⟨vb (by grind),hs⟩)),?_⟩);rintro _ _ ⟨rfl,hs⟩ _;refine ⟨vb ?_,hs.chg⟩;rw [rightS_e,c_x10]; rfl
def thOk (t:TThread):Bool:=placeOk t.at_ && !t.regs.any (λ s=>!nameM s) && rightS t.body
theorem oddTh_t (t:TThread):(!nameM t.name || !thOk t)=oddTh true t:=by
 unfold oddTh oddTh0 thOk
 cases nameM t.name <;> cases placeOk t.at_ <;> cases rightS t.body <;> cases t.regs.any (λ s=>!nameM s) <;> rfl
theorem oddTh_f (t:TThread):(decide (¬ t.name=⟨#[]⟩) || !thOk t)=oddTh false t:=by
 unfold oddTh oddTh0 thOk
 by_cases h:t.name=⟨#[]⟩
 ·rw [h,show nameM (⟨#[]⟩:ByteArray)=false from by decide]
  cases placeOk t.at_ <;> cases rightS t.body <;> cases t.regs.any (λ s=>!nameM s) <;> rfl
 rw [decide_eq_true h]
 cases nameM t.name <;> cases placeOk t.at_ <;> cases rightS t.body <;> cases t.regs.any (λ s=>!nameM s) <;> rfl
theorem rightP_e (p:TProg):(!(p.lines.any oddLine || !cellsM 4294967296 p.vols || !cellsM 0 p.locks || decide (1<p.recover.length)) && (!p.threads.any (oddTh true) && !p.recover.any (oddTh false) && !p.claims.any oddClaim))=rightP p:=by
 unfold rightP threadsM
 rw [show decide (p.recover.length<=1) = !decide (1<p.recover.length) from by rw [<- decide_not]; exact decide_eq_decide.2 (by omega)]
 cases p.lines.any oddLine <;> cases cellsM 4294967296 p.vols <;> cases cellsM 0 p.locks <;> cases decide (1<p.recover.length) <;> cases p.threads.any (oddTh true) <;> cases p.recover.any (oddTh false) <;> cases p.claims.any oddClaim <;> rfl
theorem SzS.ok {xs:List TStmt} (h:∀ x∈xs,SzS x):∀ x∈xs,x.e.length<=1048576/\x.f.length<=1048576:=λ x hx=>⟨(h x hx).2.2.1,(h x hx).2.2.2.1⟩
theorem C122 (n:Int) (w:World):CR 122 [.int .i64 n] w (λ v w'=>v = .bool (placeOk n)/\Ext w w'):=by
 have hs:=St.start w;refine S122_ok _ _ _ ?_;unfold S122;refine ⟨λ jv w'=>jv = .bool (decide (0<=n/\n<=4000))/\w=w',pop_geq (cond_d (λ _=>pop_leq ⟨jvD (by omega),rfl⟩) (λ _=>⟨jvF (by omega),rfl⟩)),?_⟩;rintro _ _ ⟨rfl,hw⟩ _;subst hw;exact ⟨rfl,hs.chg⟩
theorem C160 (c:TCell) (b2:Nat) (most:Int) (w:World) (hc:Cell w b2 0 (.int .i64 most)):CR 160 [Flat.val c,.pointer (some ⟨b2,0,none⟩)] w (λ v w'=>v = .bool (oddCell most c)/\Ext w w'):=by
 have hs:=St.start w;refine S160_ok _ _ _ _ ?_;unfold S160;refine eop_boxV hs (λ b_c2 _ hs=>⟨λ jv w'=>jv = .bool (oddCell most c)/\St w none1 [blk b_c2 (Flat.enc c)] w',pop_field fld142_0 (qop_blk (v:=.string ((c).name)) ty9 hs.hb rfl (callP pl118 hs (C118 _ _) (λ _ he hs=>pop_not (cond_b (λ _=>⟨vb (by unfold oddCell; grind),hs⟩) (λ c_x7=>?_))))),?_⟩)
 ·exact pop_field fld142_1 (qop_blk (v:=.int .i64 ((c).n)) ty3 hs.hb rfl (pop_lss (cond_d (λ _=>⟨vb (by unfold oddCell; grind),hs⟩) (λ _=>pop_field fld142_1 (qop_blk (v:=.int .i64 ((c).n)) ty3 hs.hb rfl (qop_cell ty3 (hc.ext hs.chg) (pop_gtr (cond_d (λ _=>⟨vb (by unfold oddCell; grind),hs⟩) (λ _=>pop_field fld142_2 (qop_blk (v:=.int .i64 ((c).at_)) ty3 hs.hb rfl (callP pl122 hs (C122 _ _) (λ _ _ hs=>pop_not ⟨vb (by unfold oddCell; grind),hs⟩))))))))))))
 rintro _ _ ⟨rfl,hs⟩ _;exact ⟨rfl,hs.drop.chg⟩
theorem C197 (sv fv:Value) (xs:List TCell) (g:TCell->Bool) (w:World) (hL:RdL (λ _=>True) w sv xs) (hf:FnOn w fv g) (hn:xs.length<=1073741824):CR 197 [sv,fv] w (λ v w'=>v = .int .i64 (idxF g xs)/\Ext w w'):=by
 obtain ⟨g0,first,cap,rfl,hpl,hcall⟩:=hf;have hs:=St.start w;refine S197_ok _ _ _ _ ?_;unfold S197;refine pop_len sl37 (hL.ext hs.chg) ?_;refine ⟨λ m x w1=>∃ k:Nat,x = .int .i64 (k:Int)/\m=xs.length - k/\k<=xs.length/\(∀ y∈xs.take k,g y=false)/\St w none1 [] w1,⟨_,0,rfl,rfl,Nat.zero_le _,by simp,hs⟩,?_⟩;rintro m _ w1 ⟨k,rfl,rfl,hk,hno,hs⟩ _;refine pop_lss (cond_d (λ c_x9=>?_) (λ _=>⟨congrArg (Value.int .i64) (idxF_none (by rw [List.take_of_length_le (by omega)] at hno; exact hno)).symm,hs.chg⟩));obtain ⟨e_x14,he_x14⟩:=gx (xs) (i:=((k:Int)).toNat) (by omega);refine pop_idx sl37 hL (by omega) he_x14 (λ _ h_x14=>qop_at ty142 (h_x14.ext hs.chg) ?_)
 refine callV hpl (hcall e_x14 w1 hs.chg) ?_;rintro _ _ ⟨rfl,he⟩;have hs:=hs.ext he;exact cond_b (λ c_x16=>⟨congrArg (Value.int .i64) (idxF_at hno he_x14 c_x16).symm,hs.chg⟩) (λ c_x16=>pop_add (by omega) ⟨xs.length - (k+1),by omega,k+1,rfl,rfl,by omega,take_all hno he_x14 c_x16,hs⟩)
theorem C159 (sv fv:Value) (xs:List TCell) (g:TCell->Bool) (w:World) (hL:RdL (λ _=>True) w sv xs) (hf:FnOn w fv g) (hn:xs.length<=1073741824):CR 159 [sv,fv] w (λ v w'=>v = .bool (xs.any g)/\Ext w w'):=by
 have hs:=St.start w;refine S159_ok _ _ _ _ ?_;unfold S159;exact callP pl197 hs (C197 _ _ _ _ _ (hL.ext hs.chg) (hf.ext hs.chg) (by omega)) (λ _ _ hs=>pop_geq ⟨vb (idxF_any _ _),hs.chg⟩)
theorem C116 (lv:Value) (xs:List TCell) (most:Int) (w:World) (hL:RdL (λ _=>True) w lv xs) (hn:xs.length<=1048576):CR 116 [lv,.int .i64 most] w (λ v w'=>v = .bool (cellsM most xs)/\Ext w w'):=by
 have hs:=St.start w;refine S116_ok _ _ _ _ ?_;unfold S116;refine eop_box1 hs rfl (λ b_most3 w1 hs=>?_)
 have hfn:FnOn _ (.func (.func 160) [].toArray [.pointer (some ⟨b_most3,0,none⟩)].toArray) (oddCell most):=
  ⟨160,[],_,rfl,pl160,λ y w1 e1=>C160 y b_most3 most w1 ((hs.hb.cell rfl).ext e1)⟩
 exact callP pl159 hs (C159 _ _ _ _ _ (hL.ext hs.chg) hfn (by omega)) (λ _ _ hs=>pop_not ⟨rfl,hs.drop.chg⟩)
theorem C166 (s:ByteArray) (w:World):CR 166 [.string s] w (λ v w'=>v = .bool (!nameM s)/\Ext w w'):=by
 have hs:=St.start w;refine S166_ok _ _ _ ?_;unfold S166;exact callP pl118 hs (C118 _ _) (λ _ _ hs=>pop_not ⟨rfl,hs.chg⟩)
theorem C119 (t:TThread) (tv:TThreadV) (w:World) (ht:Deep.dr w tv t) (hz:SzT t/\t.regs.length<=500/\t.body.length<=500):CR 119 [Flat.val tv] w (λ v w'=>v = .bool (thOk t)/\Ext w w'):=by
 obtain ⟨g_regs_t,g_body_t,rfl,d_regs_t,d_body_t⟩:=ht;have hs:=St.start w;refine S119_ok _ _ _ ?_;unfold S119;refine eop_boxV hs (λ b_t1 w1 hs=>⟨λ jv w'=>jv = .bool (thOk t)/\St w none1 [blk b_t1 (Flat.enc (⟨(t).name,g_regs_t,g_body_t,(t).at_⟩:TThreadV))] w',pop_field fld34_3 (qop_blk (v:=.int .i64 ((t).at_)) ty3 hs.hb rfl (callP pl122 hs (C122 _ _) (λ _ he hs=>cond_b (λ c_x6=>?_) (λ _=>⟨vb (by unfold thOk; grind),hs⟩)))),?_⟩)
 ·refine pop_field fld34_1 (qop_blk ty32 hs.hb rfl ?_);have hf6:=DL.flat (d_regs_t);exact callP pl167 hs (C167 _ _ _ (λ s=>!nameM s) _ (hf6.ext hs.chg) ⟨166,[],[],rfl,pl166,λ y w1 _=>C166 y w1⟩ (by omega)) (λ _ _ hs=>pop_not (cond_b (λ _=>pop_field fld34_2 (qop_blk ty27 hs.hb rfl (callP pl168 hs (C168 _ _ _ (d_body_t.ext hs.chg) (by omega) (SzS.ok hz.1.2.2)) (λ _ _ hs=>⟨vb (by unfold thOk; grind),hs⟩)))) (λ _=>⟨vb (by unfold thOk; grind),hs⟩)))
 rintro _ _ ⟨rfl,hs⟩ _;exact ⟨rfl,hs.drop.chg⟩
theorem C117 (t:TThread) (tv:TThreadV) (w:World) (ht:Deep.dr w tv t) (hz:SzT t/\t.regs.length<=500/\t.body.length<=500):CR 117 [Flat.val tv] w (λ v w'=>v = .bool (oddTh true t)/\Ext w w'):=by
 obtain ⟨g_regs_t,g_body_t,rfl,d_regs_t,d_body_t⟩:=ht;have hs:=St.start w;refine S117_ok _ _ _ ?_;unfold S117;refine eop_boxV hs (λ b_t1 _ hs=>⟨λ jv w'=>jv = .bool (oddTh true t)/\St w none1 [blk b_t1 (Flat.enc (⟨(t).name,g_regs_t,g_body_t,(t).at_⟩:TThreadV))] w',pop_field fld34_0 (qop_blk (v:=.string ((t).name)) ty9 hs.hb rfl (callP pl118 hs (C118 _ _) (λ _ _ hs=>pop_not (cond_b (λ _=>⟨vb (by rw [<- oddTh_t]; grind),hs⟩) (λ _=>qop_at ty34 hs.At (callP pl119 hs (C119 t _ _ ⟨g_regs_t,g_body_t,rfl,(d_regs_t.ext hs.chg),(d_body_t.ext hs.chg)⟩ hz) (λ _ _ hs=>pop_not ⟨vb (by rw [<- oddTh_t]; grind),hs⟩))))))),?_⟩);rintro _ _ ⟨rfl,hs⟩ _;exact ⟨rfl,hs.drop.chg⟩
theorem C120 (t:TThread) (tv:TThreadV) (w:World) (ht:Deep.dr w tv t) (hz:SzT t/\t.regs.length<=500/\t.body.length<=500):CR 120 [Flat.val tv] w (λ v w'=>v = .bool (oddTh false t)/\Ext w w'):=by
 obtain ⟨g_regs_t,g_body_t,rfl,d_regs_t,d_body_t⟩:=ht;have hs:=St.start w;refine S120_ok _ _ _ ?_;unfold S120;refine eop_boxV hs (λ b_t1 _ hs=>⟨λ jv w'=>jv = .bool (oddTh false t)/\St w none1 [blk b_t1 (Flat.enc (⟨(t).name,g_regs_t,g_body_t,(t).at_⟩:TThreadV))] w',pop_field fld34_0 (qop_blk (v:=.string ((t).name)) ty9 hs.hb rfl (pop_strne (cond_d (λ _=>⟨vb (by rw [<- oddTh_f]; grind),hs⟩) (λ _=>qop_at ty34 hs.At (callP pl119 hs (C119 t _ _ ⟨g_regs_t,g_body_t,rfl,(d_regs_t.ext hs.chg),(d_body_t.ext hs.chg)⟩ hz) (λ _ _ hs=>pop_not ⟨vb (by rw [<- oddTh_f]; grind),hs⟩)))))),?_⟩);rintro _ _ ⟨rfl,hs⟩ _;exact ⟨rfl,hs.drop.chg⟩
theorem C115 (lv:Value) (xs:List TCell) (w:World) (hL:RdL (λ _=>True) w lv xs) (hn:xs.length<=1048576):CR 115 [lv] w (λ v w'=>v = .bool (oddLine xs)/\Ext w w'):=by
 have hs:=St.start w;refine S115_ok _ _ _ ?_;unfold S115;refine ⟨λ jv w'=>jv = .bool (oddLine xs)/\St w none1 [] w',pop_len sl37 (hL.ext hs.chg) (pop_eql (cond_d (λ _=>⟨vb (by unfold oddLine; grind),hs⟩) (λ _=>callP pl116 hs (C116 _ _ _ _ (hL.ext hs.chg) (by omega)) (λ _ _ hs=>pop_not ⟨vb (by unfold oddLine; grind),hs⟩)))),?_⟩;rintro _ _ ⟨rfl,hs⟩ _;exact ⟨rfl,hs.chg⟩
theorem C121 (c:TClaim) (cv:TClaimV) (w:World) (hc:Deep.dr w cv c) (hz:c.e.length<=1048576):CR 121 [Flat.val cv] w (λ v w'=>v = .bool (oddClaim c)/\Ext w w'):=by
 obtain ⟨g_e_c,rfl,d_e_c⟩:=hc;have hs:=St.start w;refine S121_ok _ _ _ ?_;unfold S121;refine eop_boxV hs (λ b_c1 _ hs=>⟨λ jv w'=>jv = .bool (oddClaim c)/\St w none1 [blk b_c1 (Flat.enc (⟨g_e_c,(c).at_⟩:TClaimV))] w',pop_field fld112_1 (qop_blk (v:=.int .i64 ((c).at_)) ty3 hs.hb rfl (callP pl122 hs (C122 _ _) (λ _ he hs=>pop_not (cond_b (λ _=>⟨vb (by unfold oddClaim; grind),hs⟩) (λ c_x6=>?_))))),?_⟩)
 ·refine pop_field fld112_0 (qop_blk ty22 hs.hb rfl ?_);have hf7:=DL.flat (d_e_c);exact callP pl123 hs (C123 _ _ _ (hf7.ext hs.chg) (by omega)) (λ _ _ hs=>pop_not ⟨vb (by unfold oddClaim; grind),hs⟩)
 rintro _ _ ⟨rfl,hs⟩ _;exact ⟨rfl,hs.drop.chg⟩
theorem C174 (sv fv:Value) (xs:List (List TCell)) (φ:(List TCell)->Prop) (g:(List TCell)->Bool) (w:World) (hL:DL w sv xs) (hf:FnOnD Tryz.prog w fv φ g) (hφ:∀ x∈xs,φ x) (hn:xs.length<=1073741824):CR 174 [sv,fv] w (λ v w'=>v = .int .i64 (idxF g xs)/\Ext w w'):=by
 obtain ⟨g0,first,cap,rfl,hpl,hcall⟩:=hf;have hs:=St.start w;refine S174_ok _ _ _ _ ?_;unfold S174;obtain ⟨ts8,hR8,hD8⟩:=(hL).open;have hn8:=hD8.1;refine pop_len sl36 (hR8.ext hs.chg) ?_;refine ⟨λ m x w1=>∃ k:Nat,x = .int .i64 (k:Int)/\m=xs.length - k/\k<=xs.length/\(∀ y∈xs.take k,g y=false)/\St w none1 [] w1,⟨_,0,rfl,rfl,Nat.zero_le _,by simp,hs⟩,?_⟩;rintro m _ w1 ⟨k,rfl,rfl,hk,hno,hs⟩ _;refine pop_lss (cond_d (λ c_x9=>?_) (λ _=>⟨congrArg (Value.int .i64) (idxF_none (by rw [List.take_of_length_le (by omega)] at hno; exact hno)).symm,hs.chg⟩));obtain ⟨e_x14,he_x14⟩:=gx ts8 (i:=((k:Int)).toNat) (by omega);obtain ⟨r_x14,hr_x14⟩:=gx (xs) (i:=((k:Int)).toNat) (by omega)
 have d_x14:DL w (Flat.val e_x14) r_x14:=hD8.2 _ _ _ he_x14 hr_x14;refine pop_idx sl36 hR8 (by omega) he_x14 (λ _ h_x14=>qop_at ty37 (h_x14.ext hs.chg) ?_);have hf9:=DL.flat (d_x14);refine callV hpl (hcall _ r_x14 w1 hs.chg (d_x14.ext hs.chg) (hφ _ (List.mem_of_getElem? hr_x14))) ?_;rintro _ _ ⟨rfl,he⟩;have hs:=hs.ext he;exact cond_b (λ c_x16=>⟨congrArg (Value.int .i64) (idxF_at hno hr_x14 c_x16).symm,hs.chg⟩) (λ c_x16=>pop_add (by omega) ⟨_,by omega,k+1,rfl,rfl,by omega,take_all hno hr_x14 c_x16,hs⟩)
theorem C124 (sv fv:Value) (xs:List (List TCell)) (φ:(List TCell)->Prop) (g:(List TCell)->Bool) (w:World) (hL:DL w sv xs) (hf:FnOnD Tryz.prog w fv φ g) (hφ:∀ x∈xs,φ x) (hn:xs.length<=1073741824):CR 124 [sv,fv] w (λ v w'=>v = .bool (xs.any g)/\Ext w w'):=by
 have hs:=St.start w;refine S124_ok _ _ _ _ ?_;unfold S124;exact callP pl174 hs (C174 _ _ _ _ _ _ (hL.ext hs.chg) (hf.ext hs.chg) hφ (by omega)) (λ _ _ hs=>pop_geq ⟨vb (idxF_any _ _),hs.chg⟩)
theorem C175 (sv fv:Value) (xs:List TThread) (φ:TThread->Prop) (g:TThread->Bool) (w:World) (hL:DL w sv xs) (hf:FnOnD Tryz.prog w fv φ g) (hφ:∀ x∈xs,φ x) (hn:xs.length<=1073741824):CR 175 [sv,fv] w (λ v w'=>v = .int .i64 (idxF g xs)/\Ext w w'):=by
 obtain ⟨g0,first,cap,rfl,hpl,hcall⟩:=hf;have hs:=St.start w;refine S175_ok _ _ _ _ ?_;unfold S175;obtain ⟨ts10,hR10,hD10⟩:=(hL).open;have hn10:=hD10.1;refine pop_len sl35 (hR10.ext hs.chg) ?_;refine ⟨λ m x w1=>∃ k:Nat,x = .int .i64 (k:Int)/\m=xs.length - k/\k<=xs.length/\(∀ y∈xs.take k,g y=false)/\St w none1 [] w1,⟨_,0,rfl,rfl,Nat.zero_le _,by simp,hs⟩,?_⟩;rintro m _ w1 ⟨k,rfl,rfl,hk,hno,hs⟩ _;refine pop_lss (cond_d (λ c_x9=>?_) (λ _=>⟨congrArg (Value.int .i64) (idxF_none (by rw [List.take_of_length_le (by omega)] at hno; exact hno)).symm,hs.chg⟩));obtain ⟨e_x14,he_x14⟩:=gx ts10 (i:=((k:Int)).toNat) (by omega);obtain ⟨r_x14,hr_x14⟩:=gx (xs) (i:=((k:Int)).toNat) (by omega)
 obtain ⟨g_regs_x14,g_body_x14,rfl,d_regs_x14,d_body_x14⟩:=hD10.2 _ _ _ he_x14 hr_x14;refine pop_idx sl35 hR10 (by omega) he_x14 (λ _ h_x14=>qop_at ty34 (h_x14.ext hs.chg) ?_);refine callV hpl (hcall _ r_x14 w1 hs.chg ⟨g_regs_x14,g_body_x14,rfl,(d_regs_x14.ext hs.chg),(d_body_x14.ext hs.chg)⟩ (hφ _ (List.mem_of_getElem? hr_x14))) ?_;rintro _ _ ⟨rfl,he⟩;have hs:=hs.ext he;exact cond_b (λ c_x16=>⟨congrArg (Value.int .i64) (idxF_at hno hr_x14 c_x16).symm,hs.chg⟩) (λ c_x16=>pop_add (by omega) ⟨_,by omega,k+1,rfl,rfl,by omega,take_all hno hr_x14 c_x16,hs⟩)
theorem C125 (sv fv:Value) (xs:List TThread) (φ:TThread->Prop) (g:TThread->Bool) (w:World) (hL:DL w sv xs) (hf:FnOnD Tryz.prog w fv φ g) (hφ:∀ x∈xs,φ x) (hn:xs.length<=1073741824):CR 125 [sv,fv] w (λ v w'=>v = .bool (xs.any g)/\Ext w w'):=by
 have hs:=St.start w;refine S125_ok _ _ _ _ ?_;unfold S125;exact callP pl175 hs (C175 _ _ _ _ _ _ (hL.ext hs.chg) (hf.ext hs.chg) hφ (by omega)) (λ _ _ hs=>pop_geq ⟨vb (idxF_any _ _),hs.chg⟩)
theorem C176 (sv fv:Value) (xs:List TClaim) (φ:TClaim->Prop) (g:TClaim->Bool) (w:World) (hL:DL w sv xs) (hf:FnOnD Tryz.prog w fv φ g) (hφ:∀ x∈xs,φ x) (hn:xs.length<=1073741824):CR 176 [sv,fv] w (λ v w'=>v = .int .i64 (idxF g xs)/\Ext w w'):=by
 obtain ⟨g0,first,cap,rfl,hpl,hcall⟩:=hf;have hs:=St.start w;refine S176_ok _ _ _ _ ?_;unfold S176;obtain ⟨ts11,hR11,hD11⟩:=(hL).open;have hn11:=hD11.1;refine pop_len sl38 (hR11.ext hs.chg) ?_;refine ⟨λ m x w1=>∃ k:Nat,x = .int .i64 (k:Int)/\m=xs.length - k/\k<=xs.length/\(∀ y∈xs.take k,g y=false)/\St w none1 [] w1,⟨_,0,rfl,rfl,Nat.zero_le _,by simp,hs⟩,?_⟩;rintro m _ w1 ⟨k,rfl,rfl,hk,hno,hs⟩ _;refine pop_lss (cond_d (λ c_x9=>?_) (λ _=>⟨congrArg (Value.int .i64) (idxF_none (by rw [List.take_of_length_le (by omega)] at hno; exact hno)).symm,hs.chg⟩));obtain ⟨e_x14,he_x14⟩:=gx ts11 (i:=((k:Int)).toNat) (by omega);obtain ⟨r_x14,hr_x14⟩:=gx (xs) (i:=((k:Int)).toNat) (by omega)
 obtain ⟨g_e_x14,rfl,d_e_x14⟩:=hD11.2 _ _ _ he_x14 hr_x14;refine pop_idx sl38 hR11 (by omega) he_x14 (λ _ h_x14=>qop_at ty112 (h_x14.ext hs.chg) ?_);refine callV hpl (hcall _ r_x14 w1 hs.chg ⟨g_e_x14,rfl,(d_e_x14.ext hs.chg)⟩ (hφ _ (List.mem_of_getElem? hr_x14))) ?_;rintro _ _ ⟨rfl,he⟩;have hs:=hs.ext he;exact cond_b (λ c_x16=>⟨congrArg (Value.int .i64) (idxF_at hno hr_x14 c_x16).symm,hs.chg⟩) (λ c_x16=>pop_add (by omega) ⟨_,by omega,k+1,rfl,rfl,by omega,take_all hno hr_x14 c_x16,hs⟩)
theorem C126 (sv fv:Value) (xs:List TClaim) (φ:TClaim->Prop) (g:TClaim->Bool) (w:World) (hL:DL w sv xs) (hf:FnOnD Tryz.prog w fv φ g) (hφ:∀ x∈xs,φ x) (hn:xs.length<=1073741824):CR 126 [sv,fv] w (λ v w'=>v = .bool (xs.any g)/\Ext w w'):=by
 have hs:=St.start w;refine S126_ok _ _ _ _ ?_;unfold S126;exact callP pl176 hs (C176 _ _ _ _ _ _ (hL.ext hs.chg) (hf.ext hs.chg) hφ (by omega)) (λ _ _ hs=>pop_geq ⟨vb (idxF_any _ _),hs.chg⟩)
theorem C63 (p:TProg) (pv:TProgV) (w:World) (hp:Deep.dr w pv p) (hz:PZ p):CR 63 [Flat.val pv] w (λ v w'=>v = .bool (rightP p)/\Ext w w'):=by
 obtain ⟨g_lines_p,g_vols_p,g_locks_p,g_threads_p,g_recover_p,g_claims_p,rfl,d_lines_p,d_vols_p,d_locks_p,d_threads_p,d_recover_p,d_claims_p⟩:=hp;have hs:=St.start w;refine S63_ok _ _ _ ?_;unfold S63;refine eop_boxV hs (λ b_p1 w1 hs=>⟨λ jv w'=>jv = .bool (p.lines.any oddLine || !cellsM 4294967296 p.vols || !cellsM 0 p.locks || decide (1<p.recover.length))/\St w none1 [blk b_p1 (Flat.enc (⟨g_lines_p,g_vols_p,g_locks_p,g_threads_p,g_recover_p,g_claims_p⟩:TProgV))] w',pop_field fld40_0 (qop_blk ty36 hs.hb rfl (callP pl124 hs (C124 _ _ _ (λ l=>l.length<=1048576) _ _ (d_lines_p.ext hs.chg) ⟨115,[],[],rfl,pl115,λ _ y w1 _ hd hp=>C115 _ y w1 (DL.flat hd) hp⟩ (λ l hl=>by have:=hz.line l hl; omega) (by have:=hz.lines; omega)) (λ _ he hs=>cond_b (λ _=>⟨vb (by grind),hs⟩) (λ c_x11=>?_)))),?_⟩)
 ·refine pop_field fld40_1 (qop_blk ty37 hs.hb rfl ?_);have hf12:=DL.flat (d_vols_p);refine callP pl116 hs (C116 _ _ _ _ (hf12.ext hs.chg) (by have:=hz.vols; omega)) (λ _ he hs=>pop_not (cond_b (λ _=>⟨vb (by grind),hs⟩) (λ c_x15=>pop_field fld40_2 ?_)));refine qop_blk ty37 hs.hb rfl ?_;have hf13:=DL.flat (d_locks_p);refine callP pl116 hs (C116 _ _ _ _ (hf13.ext hs.chg) (by have:=hz.locks; omega)) (λ _ he hs=>pop_not (cond_b (λ _=>⟨vb (by grind),hs⟩) (λ c_x19=>pop_field fld40_4 ?_)));refine qop_blk ty35 hs.hb rfl ?_;have hzr:=hz.recover;obtain ⟨ts14,hR14,hD14⟩:=(d_recover_p).open;have hn14:=hD14.1;exact pop_len sl35 (hR14.ext hs.chg) (pop_gtr ⟨vb (by grind),hs⟩)
 rintro _ _ ⟨rfl,hs⟩ _;refine cond_b (λ c_x7=>?_) (λ c_x7=>⟨λ jv w'=>jv = .bool (!p.threads.any (oddTh true) && !p.recover.any (oddTh false) && !p.claims.any oddClaim)/\St w none1 [blk b_p1 (Flat.enc (⟨g_lines_p,g_vols_p,g_locks_p,g_threads_p,g_recover_p,g_claims_p⟩:TProgV))] w',?_,?_⟩)
 ·refine ⟨vb ?_,hs.drop.chg⟩;rw [<- rightP_e,c_x7]; simp
 ·refine pop_field fld40_3 ?_;exact qop_blk ty35 hs.hb rfl (callP pl125 hs (C125 _ _ _ (λ t=>SzT t/\t.regs.length<=500/\t.body.length<=500) _ _ (d_threads_p.ext hs.chg) ⟨117,[],[],rfl,pl117,λ sv y w1 _ hd hp=>C117 y sv w1 hd hp⟩ (λ _ ht=>hz.ths (List.mem_append_left _ ht)) (by have:=hz.threads; omega)) (λ _ _ hs=>pop_not (cond_b (λ _=>pop_field fld40_4 (qop_blk ty35 hs.hb rfl (callP pl125 hs (C125 _ _ _ (λ t=>SzT t/\t.regs.length<=500/\t.body.length<=500) _ _ (d_recover_p.ext hs.chg) ⟨120,[],[],rfl,pl120,λ sv y w1 _ hd hp=>C120 y sv w1 hd hp⟩ (λ _ ht=>hz.ths (List.mem_append_right _ ht)) (by have:=hz.recover; omega)) (λ _ _ hs=>pop_not (cond_b (λ _=>pop_field fld40_5 (qop_blk ty38 hs.hb rfl (callP pl126 hs (C126 _ _ _ (λ c=>c.e.length<=1048576) _ _ (d_claims_p.ext hs.chg) ⟨121,[],[],rfl,pl121,λ sv y w1 _ hd hp=>C121 y sv w1 hd hp⟩ (λ c hc=>(hz.zc c hc).1) (by have:=hz.claims; omega)) (λ _ _ hs=>pop_not ⟨vb (by grind),hs⟩)))) (λ _=>⟨vb (by grind),hs⟩)))))) (λ _=>⟨vb (by grind),hs⟩))))
 rintro _ _ ⟨rfl,hs⟩ _;refine ⟨vb ?_,hs.drop.chg⟩;rw [<- rightP_e,c_x7]; simp
variable (w:World) (K:Value->World->Prop)
def S70 (p0:Value):Prop:=
 Eop Tryz.prog (Instr.box 40 p0) w λ p1 a=>K (.func (Go.Fn.func 133) [].toArray [p1].toArray) a
theorem S70_ok (p0:Value) (h:S70 w K p0):CR 70 [p0] w K:=
 okG 4 (λ _=>.nil) 4 [.tmp 2] Tryz.func70 h
def S133 (yield0 a:Value):Prop:=
 fA 40 a 0 λ b=>lA 36 b w λ c=>lN 36 c λ d=>Loop1 (λ K1 e f=>∀ _:Env,
 bA .lss 3 e d λ g=>cV g (iA 36 c e λ h=>lA 37 h f λ j=>lN 37 j λ k=>Loop1 (λ K2 l n=>∀ _:Env,
 bA .lss 3 l k λ o=>cV o (iA 37 j l λ p=>lA 142 p n λ q=>aL 142 n λ c6 r=>sA 142 c6 q r λ s=>lA 142 c6 s λ t=>CallV Tryz.prog yield0 [t,e] s λ u v=>Pop Tryz.prog (Op.unary .not u) λ x=>
 cV x (K (.tuple #[]) v) (bB .add 3 l (i 1) λ y=>K2 y v)) (bB .add 3 e (i 1) λ z=>K1 z n)) (λ K2=>K2 (i 0) f)) (fA 40 a 1 λ aa=>lA 37 aa f λ ab=>lN 37 ab λ ac=>Loop1 (λ K3 ad ae=>∀ _:Env,
 bA .lss 3 ad ac λ af=>cV af (iA 37 ab ad λ ag=>lA 142 ag ae λ ah=>aL 142 ae λ c8 ai=>sA 142 c8 ah ai λ aj=>lA 142 c8 aj λ ak=>fA 40 a 0 λ al=>lA 36 al aj λ am=>
 lN 36 am λ an=>bA .add 3 an ad λ ao=>CallV Tryz.prog yield0 [ak,ao] aj λ ap aq=>Pop Tryz.prog (Op.unary .not ap) λ ar=>cV ar (K (.tuple #[]) aq) (bB .add 3 ad (i 1) λ asx=>
 K3 asx aq)) (K (.tuple #[]) ae)) (λ K3=>K3 (i 0) f))) (λ K1=>K1 (i 0) w)
theorem S133_ok (yield0 x1:Value) (h:S133 w K yield0 x1):CR 133 [yield0,x1] w K:=
 okG 48 (λ _=>.nil) 0 [] Tryz.func133 h
def S24 (p0:Value):Prop:=
 Eop Tryz.prog (Instr.box 40 p0) w λ p1 a=>aL 32 a λ out3 b=>lA 40 p1 b λ c=>cF 70 [c] b λ d e=>RangeFn Tryz.prog d 2 e (λ a1 f B1 R1=>aL 142 f λ c4 g=>sA 142 c4 (nthV a1 0) g λ h=>
 B1 h λ j=>lA 32 out3 j λ k=>fA 142 c4 0 λ l=>lA 9 l j λ n=>bS 32 1 [(0,n)] j λ o p=>aP 32 k o p λ q r=>sA 32 out3 q r λ s=>R1 none s) (aft (λ D t=>lA 32 out3 t λ u=>
 takeAll (D::[]) t λ v=>K u v) (λ D x=>takeAll (D::[]) x λ y=>K (.slice none 0 0) y) (λ _ _ _=>False))
theorem S24_ok (p0:Value) (h:S24 w K p0):CR 24 [p0] w K:=
 okG 15 (λ _=>.nil) 4 [.tmp 2] Tryz.func24 h
def S28 (p0:Value):Prop:=
 Eop Tryz.prog (Instr.box 40 p0) w λ p1 a=>fA 40 p1 0 λ b=>lA 36 b a λ c=>lN 36 c λ d=>Loop2 (λ K1 n3 e f=>∀ _:Env,
 bA .lss 3 e d λ g=>cV g (iA 36 c e λ h=>lA 37 h f λ j=>lN 37 j λ k=>bA .add 3 n3 k λ l=>bB .add 3 e (i 1) λ n=>K1 l n f) (K n3 f)) (λ K1=>K1 (i 0) (i 0) a)
theorem S28_ok (p0:Value) (h:S28 w K p0):CR 28 [p0] w K:=
 okG 19 (λ _=>.nil) 4 [.tmp 2] Tryz.func28 h
def S26 (p0 cell1:Value):Prop:=
 Eop Tryz.prog (Instr.box 40 p0) w λ p2 a=>Eop Tryz.prog (Instr.box 3 cell1) a λ cell3 b=>aL 3 b λ c d=>aL 3 d λ at5 e=>sA 3 at5 (i 0) e λ f=>lA 40 p2 f λ g=>cF 70 [g] f λ h j=>
 RangeFn Tryz.prog h 2 j (λ a1 k B1 R1=>B1 k λ l=>lA 3 at5 l λ n=>lA 3 cell3 l λ o=>bA .eql 3 n o λ p=>cV p (sA 3 c (nthV a1 1) l λ q=>R1 (some .ret) q) (lA 3 at5 l λ s=>
 bB .add 3 s (i 1) λ t=>sA 3 at5 t l λ u=>R1 none u)) (aft (λ D v=>sA 3 c (i (-1)) v λ x=>takeAll (D::[]) x λ y=>lA 3 c y λ r=>K r y) (λ D z=>takeAll (D::[]) z λ aa=>
 lA 3 c aa λ r_1=>K r_1 aa) (λ _ _ _=>False))
theorem S26_ok (p0 cell1:Value) (h:S26 w K p0 cell1):CR 26 [p0,cell1] w K:=
 okG 18 (λ _=>.nil) 16 [.cell 4 3] Tryz.func26 h
def S25 (p0:Value):Prop:=
 Eop Tryz.prog (Instr.box 40 p0) w λ p1 a=>fA 40 p1 2 λ b=>lA 37 b a λ c=>lN 37 c λ d=>Loop2 (λ K1 out3 e f=>∀ _:Env,
 bA .lss 3 e d λ g=>cV g (iA 37 c e λ h=>lA 142 h f λ j=>aL 142 f λ c5 k=>sA 142 c5 j k λ l=>fA 142 c5 0 λ n=>lA 9 n l λ o=>bS 32 1 [(0,o)] l λ p q=>aP 32 out3 p q λ r s=>
 bB .add 3 e (i 1) λ t=>K1 r t s) (K out3 f)) (λ K1=>K1 (.slice none 0 0) (i 0) a)
theorem S25_ok (p0:Value) (h:S25 w K p0):CR 25 [p0] w K:=
 okG 20 (λ _=>.nil) 4 [.tmp 2] Tryz.func25 h
def S29 (p0:Value):Prop:=
 Eop Tryz.prog (Instr.box 40 p0) w λ p1 a=>aL 45 a λ out3 b=>lA 40 p1 b λ c=>cF 70 [c] b λ d e=>RangeFn Tryz.prog d 2 e (λ a1 f B1 R1=>aL 142 f λ c4 g=>sA 142 c4 (nthV a1 0) g λ h=>
 B1 h λ j=>lA 45 out3 j λ k=>fA 142 c4 1 λ l=>lA 3 l j λ n=>bS 45 1 [(0,n)] j λ o p=>aP 45 k o p λ q r=>sA 45 out3 q r λ s=>R1 none s) (aft (λ D t=>lA 45 out3 t λ u=>
 takeAll (D::[]) t λ v=>K u v) (λ D x=>takeAll (D::[]) x λ y=>K (.slice none 0 0) y) (λ _ _ _=>False))
theorem S29_ok (p0:Value) (h:S29 w K p0):CR 29 [p0] w K:=
 okG 15 (λ _=>.nil) 4 [.tmp 2] Tryz.func29 h
def S81 (l0 s1:Value):Prop:=
 cF 138 [l0,s1] w λ a b=>K a b
theorem S81_ok (l0 s1:Value) (h:S81 w K l0 s1):CR 81 [l0,s1] w K:=
 okG 8 (λ _=>.nil) 16 [.tmp 4] Tryz.func81 h
def S65 (p0:Value):Prop:=
 Eop Tryz.prog (Instr.box 40 p0) w λ p1 a=>fA 40 p1 3 λ b=>lA 35 b a λ c=>fA 40 p1 4 λ d=>lA 35 d a λ e=>bS 252 2 [(0,c),(1,e)] a λ f g=>cF 129 [f] g λ h j=>
 K h j
theorem S65_ok (p0:Value) (h:S65 w K p0):CR 65 [p0] w K:=
 okG 9 (λ _=>.nil) 4 [.tmp 2] Tryz.func65 h
def S64 (p0:Value):Prop:=
 Eop Tryz.prog (Instr.box 40 p0) w λ p1 a=>fA 40 p1 3 λ b=>lA 35 b a λ c=>lN 35 c λ d=>Join1 (λ K1=>fA 40 p1 0 λ e=>lA 36 e a λ f=>lN 36 f λ g=>bB .gtr 3 g (i 4) λ h=>
 cV h (K1 tt a) (fA 40 p1 0 λ j=>lA 36 j a λ k=>cF 124 [k,(.func (.func 127) #[] #[])] a λ l n=>cV l (K1 tt n) (fA 40 p1 1 λ o=>lA 37 o n λ p=>lN 37 p λ q=>bB .gtr 3 q (i 4) λ r=>
 cV r (K1 tt n) (fA 40 p1 2 λ s=>lA 37 s n λ t=>lN 37 t λ u=>bB .gtr 3 u (i 2) λ v=>cV v (K1 tt n) (bB .eql 3 d (i 0) λ x=>cV x (K1 tt n) (bB .gtr 3 d (i 3) λ y=>
 cV y (K1 tt n) (lA 40 p1 n λ z=>cF 65 [z] n λ aa ab=>cF 125 [aa,(.func (.func 128) #[] #[])] ab λ ac ad=>cV ac (K1 tt ad) (fA 40 p1 5 λ ae=>lA 38 ae ad λ af=>lN 38 af λ ag=>
 bB .gtr 3 ag (i 4) λ ah=>K1 ah ad)))))))) (λ ai aj=>∀ _:Env,
 K ai aj)
theorem S64_ok (p0:Value) (h:S64 w K p0):CR 64 [p0] w K:=
 okG 51 (λ _=>.nil) 4 [.tmp 2] Tryz.func64 h
def S127 (l0:Value):Prop:=
 lN 37 l0 λ a=>bB .gtr 3 a (i 4) λ b=>K b w
theorem S127_ok (l0:Value) (h:S127 w K l0):CR 127 [l0] w K:=
 okG 6 (λ _=>.nil) 4 [.tmp 2] Tryz.func127 h
def S128 (t0:Value):Prop:=
 Eop Tryz.prog (Instr.box 34 t0) w λ t1 a=>fA 34 t1 1 λ b=>lA 32 b a λ c=>lN 32 c λ d=>bB .gtr 3 d (i 4) λ e=>K e a
theorem S128_ok (t0:Value) (h:S128 w K t0):CR 128 [t0] w K:=
 okG 7 (λ _=>.nil) 4 [.tmp 2] Tryz.func128 h
def S66 (l0 rounds1:Value):Prop:=
 Loop1 (λ K1 i6 a=>∀ _:Env,
 lN 27 l0 λ b=>bA .lss 3 i6 b λ c=>cV c (iA 27 l0 i6 λ d=>lA 24 d a λ e=>aL 24 a λ f g=>sA 24 f e g λ h=>bB .add 3 i6 (i 1) λ j=>fA 24 f 6 λ k=>lA 3 k h λ l=>
 bA .add 3 j l λ n=>fA 24 f 7 λ o=>lA 3 o h λ p=>bA .add 3 n p λ q=>Join1 (λ K2=>fA 24 f 0 λ r=>lA 3 r h λ s=>bB .eql 3 s (i 12) λ t=>cV t (fA 24 f 5 λ u=>
 lA 3 u h λ v=>bA .mul 3 rounds1 v λ x=>K2 x h) (K2 rounds1 h)) (λ n9 y=>∀ _:Env,
 bB .gtr 3 n9 (i 64) λ z=>cV z (fA 24 f 8 λ aa=>lA 3 aa y λ ab=>K (.tuple #[ab,tt]) y) (bB .add 3 i6 (i 1) λ ac=>Pop Tryz.prog (Instr.sliceAt 27 l0 (some ac) (some q) none) λ ad=>
 cF 66 [ad,n9] y λ ae af=>xT ae 0 λ ag=>xT ae 1 λ ah=>cV ah (K (.tuple #[ag,tt]) af) (K1 q af)))) (K (.tuple #[(i 0),ff]) a)) (λ K1=>K1 (i 0) w)
theorem S66_ok (l0 rounds1:Value) (h:S66 w K l0 rounds1):CR 66 [l0,rounds1] w K:=
 okG 53 (λ _=>.nil) 48 [.tmp 4,.tmp 5] Tryz.func66 h
def S129 (slices0:Value):Prop:=
 lN 252 slices0 λ a=>Loop2 (λ K1 size3 b c=>∀ _:Env,
 bA .lss 3 b a λ d=>cV d (Join1 (λ K2=>iA 252 slices0 b λ e=>lA 35 e c λ f=>lN 35 f λ g=>bA .add 3 size3 g λ h=>bB .lss 3 h (i 0) λ j=>cV j (Qop Tryz.prog (Instr.makeInterface 9 (Go.Value.string (ByteArray.mk (#[108,101,110,32,111,117,116,32,111,102,32,114,97,110,103,101])))) c λ _=>
 False) (K2 h c)) (λ size3_1 k=>∀ _:Env,
 bB .add 3 b (i 1) λ l=>K1 size3_1 l k)) (cF 177 [(.slice none 0 0),size3] c λ n o=>lN 252 slices0 λ p=>Loop2 (λ K3 newslice6 q r=>∀ _:Env,
 bA .lss 3 q p λ s=>cV s (iA 252 slices0 q λ t=>lA 35 t r λ u=>aP 35 newslice6 u r λ v x=>bB .add 3 q (i 1) λ y=>K3 v y x) (K newslice6 r)) (λ K3=>K3 n (i 0) o)))
 (λ K1=>K1 (i 0) (i 0) w)
theorem S129_ok (slices0:Value) (h:S129 w K slices0):CR 129 [slices0] w K:=
 okG 36 (λ _=>.nil) 4 [.tmp 2] Tryz.func129 h
def S177 (s0 n1:Value):Prop:=
 Join0 (λ K1=>bB .lss 3 n1 (i 0) λ a=>cV a (Qop Tryz.prog (Instr.makeInterface 9 (Go.Value.string (ByteArray.mk (#[99,97,110,110,111,116,32,98,101,32,110,101,103,97,116,105,118,101])))) w λ _=>
 False) (K1 w)) (λ b=>∀ _:Env,
 Join1 (λ K2=>Pop Tryz.prog (Builtin.cap_ #[35] 3 [s0].toArray) λ c=>lN 35 s0 λ d=>bA .sub 3 c d λ e=>bA .sub 3 n1 e λ f=>bB .gtr 3 f (i 0) λ g=>cV g (Pop Tryz.prog (Builtin.cap_ #[35] 3 [s0].toArray) λ h=>
 Pop Tryz.prog (Instr.sliceAt 35 s0 none (some h) none) λ j=>Eop Tryz.prog (Builtin.append_ #[35,3] 35 [j,f].toArray) b λ k l=>lN 35 s0 λ n=>Pop Tryz.prog (Instr.sliceAt 35 k none (some n) none) λ o=>
 K2 o l) (K2 s0 b)) (λ s0_1 p=>∀ _:Env,
 K s0_1 p))
theorem S177_ok (s0 n1:Value) (h:S177 w K s0 n1):CR 177 [s0,n1] w K:=
 okG 27 (λ _=>.nil) 16 [.tmp 4] Tryz.func177 h
theorem pl70:PL 70:=plE Tryz.func70
theorem pl133:PL 133:=plE Tryz.func133
theorem pl24:PL 24:=plE Tryz.func24
theorem pl28:PL 28:=plE Tryz.func28
theorem pl26:PL 26:=plE Tryz.func26
theorem pl25:PL 25:=plE Tryz.func25
theorem pl29:PL 29:=plE Tryz.func29
theorem pl81:PL 81:=plE Tryz.func81
theorem pl65:PL 65:=plE Tryz.func65
theorem pl64:PL 64:=plE Tryz.func64
theorem pl127:PL 127:=plE Tryz.func127
theorem pl128:PL 128:=plE Tryz.func128
theorem pl66:PL 66:=plE Tryz.func66
theorem pl129:PL 129:=plE Tryz.func129
theorem pl177:PL 177:=plE Tryz.func177
end Go.Proofs.YtfkgkbhbdffckaaGreatDoor
namespace Go.Fw
section
variable {α:Type} [Flat α] {P:Program} {w w0:World} {A:Nat->Prop} {L:List HP}
theorem eop_appendZ {T E by' tx R:Nat} {kn k0:IntKind} {K:Value->World->Prop} (hs:St w0 A L w) (ht:SlT P T E (Flat.sz α) by') (hk:P.underlying tx=some (.int kn)) (h1:1<=Flat.sz α) (n:Nat) (hn:0<n) (hn2:n<=1048576) (hby:by'<=8192)
  (k:∀ b cap w',n<=cap->St w0 A (ownL (.slice (some ⟨b,0,none⟩) 0 cap) ([]:List α)::L) w'->K (.slice (some ⟨b,0,none⟩) n cap) w'):Eop P (Builtin.append_ #[T,tx] R [.slice none 0 0,.int k0 (n:Int)].toArray) w K:=by
 obtain ⟨hu,inf,hi,hsz,hbytes,hzz⟩:=slFact_spec ht
 obtain ⟨z,hz,hzc⟩:∃ z,inf.zero=some z/\z.cells.size=Flat.sz α:=by
  cases h:inf.zero with
  | none=>rw [h] at hzz; cases hzz
  | some z=>rw [h] at hzz; exact ⟨z,rfl,by simpa using hzz⟩
 have h48:n * inf.bytes<=281474976710656:=by
  have:=Nat.mul_le_mul hn2 (show inf.bytes<=8192 by omega)
  omega
 have hr:=Lib.run_append_nil_zeros (P:=P) w T tx R E inf z k0 kn hu hk hi hz n hn (by omega) (by omega) h48
 have hge:=grownCap_ge w n 0 E
 refine ⟨_,_,hr,k _ _ _ (by omega) ?_⟩
 refine hs.drew.new (F:=(· = w.heap.size)) (Ext.alloc _ _) (.inr ⟨_,_,(Builtin.zeroCells z.cells n++Builtin.zeroCells z.cells (grownCap w n 0 E - n)).toList,rfl,?_,?_,λ _=>Iff.rfl⟩) λ b hb=>Nat.le_of_eq hb.symm
 ·exact ⟨E,by rw [show flat ([]:List α)=[] from rfl,List.nil_append,Array.toArray_toList]; exact push_new _ _⟩
 refine ⟨Nat.zero_le _,Nat.le_of_eq (Eq.symm ?_)⟩
 show ([]++_).length=_
 rw [List.nil_append,Array.length_toList,Array.size_append,size_zeroCells,size_zeroCells,hzc,<- Nat.add_mul]
 congr 1; omega
theorem pop_capS {T E sz by' R n c:Nat} {z:Option Nat} {a:Option Addr} {K:Value->Prop} (ht:slFact P T=some (E,sz,by',z)) (k:K (.int .i64 (c:Int))):Pop P (Builtin.cap_ #[T] R [Value.slice a n c].toArray) K:=by
 obtain ⟨hu,_⟩:=slFact_spec ht
 refine ⟨_,?_,k⟩
 unfold Builtin.cap_
 simp [pr_bind,pr_underlying hu]
 rfl
theorem pop_cutZ {T E sz by' n c:Nat} {z:Option Nat} {a:Option Addr} {K:Value->Prop} (ht:slFact P T=some (E,sz,by',z)) (ha:a.map (·.add (0 * sz))=a) (k:K (.slice a 0 c)):Pop P (Instr.sliceAt T (.slice a n c) none (some (.int .i64 0)) none) K:=by
 refine ⟨_,pr_cut ht (pr_bounds (.inl ⟨rfl,rfl⟩) (.inr ⟨0,rfl,Int.le_refl _,rfl⟩) (Nat.le_refl _) (Nat.zero_le _)),?_⟩
 rw [ha,ite_self]
 exact k
end
end Go.Fw
namespace Go.Proofs.YtfkgkbhbdffckaaGreatDoor
open Go.Fw
theorem flt_succ {α:Type} {ls:List (List α)} {k:Nat} {l:List α} (h:ls[k]? = some l):(ls.take (k+1)).flatten=(ls.take k).flatten++l:=by
 rw [<- take_snoc h]; simp
theorem flt_len {α:Type} (ls:List (List α)) (k:Nat):(ls.take k).flatten.length<=ls.flatten.length:=by
 conv=>rhs; rw [<- List.take_append_drop k ls,List.flatten_append,List.length_append]
 omega
theorem rdnil {α:Type} [Flat α] (w:World):RdL (λ _=>True) w (.slice none 0 0) ([]:List α):=⟨none,0,rfl,Nat.zero_le _,.inl ⟨rfl,rfl⟩⟩
theorem C177 (n:Nat) (w:World) (hn:n<=1048576):CR 177 [.slice none 0 0,.int .i64 (n:Int)] w (λ v w'=>New (ownL v ([]:List TThreadV)) w w'):=by
 have hs:=St.start w;refine S177_ok _ _ _ _ ?_;unfold S177;refine ⟨λ w'=>w'=w,pop_lss (cond_d (λ c=>absurd c (by omega)) (λ _=>rfl)),?_⟩;rintro w1 hw _;subst hw;refine ⟨λ jv w'=>St w1 none1 [ownL jv ([]:List TThreadV)] w',?_,?_⟩
 ·refine pop_capS sl35 (pop_len sl35 (rdnil (α:=TThreadV) w1) ?_);refine pop_sub (by simp) (pop_sub (by simp; omega) ?_);refine pop_gtr (cond_d (λ c=>?_) (λ _=>hs.ownNil));refine pop_capS sl35 (pop_cutZ sl35 rfl ?_);have e:(n:Int) - (((0:Nat):Int) - (([]:List TThreadV).length:Int))=(n:Int):=by simp
  rw [e] at c |-;exact eop_appendZ (α:=TThreadV) (kn:=.i64) hs sl35 (by kernel_rfl) (by decide) n (by omega) hn (by decide) (λ _ _ _ _ hs=>pop_len sl35 (rdnil (α:=TThreadV) w1) (pop_cutZ sl35 (by simp [Addr.add]) hs))
 rintro v _ hs _;exact hs.fresh
theorem C129 (lv:Value) (tss:List (List TThreadV)) (w:World) (hL:RdLL w lv tss) (hn:tss.length<=1000) (hf:tss.flatten.length<=100000):CR 129 [lv] w (λ v w'=>New (ownL v tss.flatten) w w'):=by
 obtain ⟨ss,hR,hl,hx⟩:=hL;have hs:=St.start w;refine S129_ok _ _ _ ?_;unfold S129;refine pop_len sl252 (hR.ext hs.chg) ?_;refine ⟨λ m y x w1=>∃ k:Nat,y = .int .i64 ((tss.take k).flatten.length:Int)/\x = .int .i64 (k:Int)/\m=ss.length - k/\k<=ss.length/\St w none1 [] w1,⟨_,0,rfl,rfl,rfl,Nat.zero_le _,hs⟩,?_⟩;rintro m _ _ w1 ⟨k,rfl,rfl,rfl,hk,hs⟩ _;refine pop_lss (cond_d (λ c=>?_) (λ c=>?_))
 ·obtain ⟨s,hsk⟩:∃ s,ss[((k:Int)).toNat]? = some s:=⟨_,List.getElem?_eq_getElem (by omega)⟩;obtain ⟨t,htk⟩:∃ t,tss[k]? = some t:=⟨_,List.getElem?_eq_getElem (by omega)⟩;have hst:=hx k s t hsk htk;have hfk:=flt_len tss (k+1);have hsu:=flt_succ htk;rw [hsu,List.length_append] at hfk;refine ⟨λ jv w'=>jv = .int .i64 ((tss.take (k+1)).flatten.length:Int)/\St w none1 [] w',pop_idx sl252 hR (by omega) hsk (λ _ hq=>qop_at ty35 (hq.ext hs.chg) (pop_len sl35 (hst.ext hs.chg) (pop_add (by omega) (pop_lss (cond_d (λ c=>absurd c (by omega)) (λ _=>⟨congrArg (Value.int .i64) (by rw [hsu,List.length_append]; omega),hs⟩)))))),?_⟩;rintro _ _ ⟨rfl,hs⟩ _;exact pop_add (by omega) ⟨_,by omega,k+1,rfl,rfl,rfl,by omega,hs⟩
 have hkk:tss.take k=tss:=List.take_of_length_le (by omega);rw [hkk];refine callN pl177 hs (C177 _ _ (by omega)) (λ x24 _ hnew hs=>pop_len sl252 (hR.ext hs.chg) ?_);refine ⟨λ m v x w1=>∃ k:Nat,x = .int .i64 (k:Int)/\m=ss.length - k/\k<=ss.length/\St w none1 [ownL v ((tss.take k).flatten)] w1,⟨_,0,rfl,rfl,Nat.zero_le _,hs⟩,?_⟩;rintro m v _ _ ⟨k,rfl,rfl,hk,hs⟩ _;refine pop_lss (cond_d (λ c=>?_) (λ c=>?_))
 ·obtain ⟨s,hsk⟩:∃ s,ss[((k:Int)).toNat]? = some s:=⟨_,List.getElem?_eq_getElem (by omega)⟩;obtain ⟨t,htk⟩:∃ t,tss[k]? = some t:=⟨_,List.getElem?_eq_getElem (by omega)⟩;have hst:=hx k s t hsk htk;have hfk:=flt_len tss (k+1);have hsu:=flt_succ htk;rw [hsu,List.length_append] at hfk;exact pop_idx sl252 hR (by omega) hsk (λ _ hq=>qop_at ty35 (hq.ext hs.chg) (eop_append hs sl35 (hst.ext hs.chg) (by omega) (by decide) (λ _ _ hs=>pop_add (by omega) ⟨_,by omega,k+1,rfl,rfl,by omega,by rw [hsu]; exact hs⟩)))
 rw [show tss.take k=tss from List.take_of_length_le (by omega)] at hs;exact hs.fresh
theorem two_rd {w:World} {a b:SV} {x y:List TThreadV} (h1:RdL (λ _=>True) w (Flat.val a) x) (h2:RdL (λ _=>True) w (Flat.val b) y):∀ (i:Nat) (s:SV) (t:List TThreadV),[a,b][i]? = some s->[x,y][i]? = some t->RdL (λ _=>True) w (Flat.val s) t:=by
 intro i s t hs ht
 rcases i with _ | _ | i
 ·cases hs; cases ht; exact h1
 ·cases hs; cases ht; exact h2
 simp at hs
theorem C65 (p:TProg) (pv:TProgV) (ts3 ts4:List TThreadV) (w:World) (hp:Deep.dr w pv p) (h3:RdL (λ _=>True) w (Flat.val pv.threads) ts3) (h4:RdL (λ _=>True) w (Flat.val pv.recover) ts4) (hz3:ts3.length<=500) (hz4:ts4.length<=500):CR 65 [Flat.val pv] w (λ v w'=>New (ownL v (ts3++ts4)) w w'):=by
 obtain ⟨g_lines_p,g_vols_p,g_locks_p,g_threads_p,g_recover_p,g_claims_p,rfl,d_lines_p,d_vols_p,d_locks_p,d_threads_p,d_recover_p,d_claims_p⟩:=hp;have hs:=St.start w;refine S65_ok _ _ _ ?_;unfold S65;refine eop_boxV hs (λ b_p1 _ hs=>pop_field fld40_3 ?_);refine qop_blk ty35 hs.hb rfl (pop_field fld40_4 ?_);refine qop_blk ty35 hs.hb rfl (eop_build ([g_threads_p,g_recover_p]) hs sl252 rfl rfl (leb rfl) (λ s_x7 _ hs=>?_));refine callN pl129 hs (C129 _ [ts3,ts4] _ ⟨_,(hs).rd',rfl,two_rd (h3.ext hs.chg) (h4.ext hs.chg)⟩ (by simp) (by simp; omega)) (λ x8 _ hnew hs=>?_);have hs9:=hs.p1.drop.p1.drop;rw [show [ts3,ts4].flatten=ts3++ts4 from by simp] at hs9;exact hs9.fresh
theorem bigM_e (p:TProg):(decide (4<(p.lines.length:Int)) || p.lines.any (λ l=>decide (4<(l.length:Int))) || decide (4<(p.vols.length:Int)) || decide (2<(p.locks.length:Int)) || decide ((p.threads.length:Int)=0) || decide (3<(p.threads.length:Int)) || (thsM p).any (λ t=>decide (4<(t.regs.length:Int))) || decide (4<(p.claims.length:Int)))=bigM p:=by
 unfold bigM
 rw [show decide ((p.threads.length:Int)=0)=decide ((p.threads.length:Int)<1) from decide_eq_decide.2 (by omega)]
 generalize p.lines.any (λ l=>decide (4<(l.length:Int)))=a
 generalize (thsM p).any (λ t=>decide (4<(t.regs.length:Int)))=b
 cases a <;> cases b <;> cases decide (4<(p.lines.length:Int)) <;> cases decide (4<(p.vols.length:Int)) <;> cases decide (2<(p.locks.length:Int)) <;> cases decide ((p.threads.length:Int)<1) <;> cases decide (3<(p.threads.length:Int)) <;> simp
theorem stays_k {p:TProg} (h:∀ l∈p.lines,l.length<=500) (hl:p.lines.length<=500) (k:Nat):(p.lines.take k).flatten.length<=250000:=by
 have h1:=flt_len p.lines k
 have h2:=flat_len h
 have:=Nat.mul_le_mul_left 500 hl
 omega
theorem C81 (sv:Value) (ns:List ByteArray) (s:ByteArray) (w:World) (hL:RdL (λ _=>True) w sv ns) (hn:ns.length<=1048576):CR 81 [sv,.string s] w (λ v w'=>v = .int .i64 (placeM ns s)/\Ext w w'):=by
 have hs:=St.start w;refine S81_ok _ _ _ _ ?_;unfold S81;exact callP pl138 hs (C138 _ _ _ _ (hL.ext hs.chg) (by omega)) (λ _ _ hs=>⟨rfl,hs.chg⟩)
theorem C28 (p:TProg) (pv:TProgV) (w:World) (hp:Deep.dr w pv p) (hz:PZ p):CR 28 [Flat.val pv] w (λ v w'=>v = .int .i64 (staysM p)/\Ext w w'):=by
 obtain ⟨g_lines_p,g_vols_p,g_locks_p,g_threads_p,g_recover_p,g_claims_p,rfl,d_lines_p,d_vols_p,d_locks_p,d_threads_p,d_recover_p,d_claims_p⟩:=hp;have hs:=St.start w;refine S28_ok _ _ _ ?_;unfold S28;refine eop_boxV hs (λ b_p1 w1 hs=>pop_field fld40_0 ?_);refine qop_blk ty36 hs.hb rfl ?_;obtain ⟨ts15,hR15,hD15⟩:=(d_lines_p).open;have hn15:=hD15.1;refine pop_len sl36 (hR15.ext hs.chg) ?_;refine ⟨λ m y x w1=>∃ k:Nat,y = .int .i64 (((p.lines.take k).flatten.length:Nat):Int)/\x = .int .i64 (k:Int)/\m=p.lines.length - k/\k<=p.lines.length/\St w none1 [blk b_p1 (Flat.enc (⟨g_lines_p,g_vols_p,g_locks_p,g_threads_p,g_recover_p,g_claims_p⟩:TProgV))] w1,⟨_,0,rfl,rfl,rfl,by omega,hs⟩,?_⟩
 rintro m _ _ _ ⟨k,rfl,rfl,rfl,hk,hs⟩ _;have hsk:=stays_k hz.line hz.lines k;have hsk1:=stays_k hz.line hz.lines (k+1);have hzl:=hz.lines;refine pop_lss (cond_d (λ c_x10=>?_) (λ c_x10=>?_))
 ·obtain ⟨e_x11,he_x11⟩:=gx ts15 (i:=((k:Int)).toNat) (by omega);obtain ⟨r_x11,hr_x11⟩:=gx ((p).lines) (i:=((k:Int)).toNat) (by omega);have d_x11:DL w (Flat.val e_x11) r_x11:=hD15.2 _ _ _ he_x11 hr_x11;refine pop_idx sl36 hR15 (by omega) he_x11 (λ _ h_x11=>?_);have hfs:=flt_succ (k:=k) hr_x11;rw [hfs,List.length_append] at hsk1;refine qop_at ty37 (h_x11.ext hs.chg) ?_;have hf16:=DL.flat (d_x11);exact pop_len sl37 (hf16.ext hs.chg) (pop_add (by omega) (pop_add (by omega) ⟨_,by omega,k+1,congrArg (Value.int .i64) (by rw [flt_succ (k:=k) hr_x11,List.length_append]; omega),rfl,rfl,by omega,hs⟩))
 rw [List.take_of_length_le (by omega)];exact ⟨rfl,hs.drop.chg⟩
theorem C25 (p:TProg) (pv:TProgV) (w:World) (hp:Deep.dr w pv p) (hz:PZ p):CR 25 [Flat.val pv] w (λ v w'=>New (ownL v (lockNs p)) w w'):=by
 obtain ⟨g_lines_p,g_vols_p,g_locks_p,g_threads_p,g_recover_p,g_claims_p,rfl,d_lines_p,d_vols_p,d_locks_p,d_threads_p,d_recover_p,d_claims_p⟩:=hp;have hs:=St.start w;refine S25_ok _ _ _ ?_;unfold S25;refine eop_boxV hs (λ b_p1 w1 hs=>pop_field fld40_2 ?_);refine qop_blk ty37 hs.hb rfl ?_;have hf17:=DL.flat (d_locks_p);refine pop_len sl37 (hf17.ext hs.chg) ?_;refine ⟨λ m y x w1=>∃ k:Nat,x = .int .i64 (k:Int)/\m=p.locks.length - k/\k<=p.locks.length/\St w none1 [ownL y ((p.locks.take k).map TCell.name),blk b_p1 (Flat.enc (⟨g_lines_p,g_vols_p,g_locks_p,g_threads_p,g_recover_p,g_claims_p⟩:TProgV))] w1,⟨_,0,rfl,rfl,by omega,hs.ownNil (α:=ByteArray)⟩,?_⟩
 rintro m out3 _ _ ⟨k,rfl,rfl,hk,hs⟩ _;have hml:((p.locks.take k).map TCell.name).length=k:=by rw [List.length_map,List.length_take]; omega
 have hzk:=hz.locks;refine pop_lss (cond_d (λ c_x10=>?_) (λ c_x10=>?_))
 ·obtain ⟨e_x11,he_x11⟩:=gx ((p).locks) (i:=((k:Int)).toNat) (by omega);refine pop_idx sl37 hf17 (by omega) he_x11 (λ _ h_x11=>qop_at ty142 (h_x11.ext hs.chg) ?_);refine eop_allocA hs zero142 (λ b_c5 _ hs=>uop_blkV (x:=e_x11) hs ty142 rfl rfl (λ _ hs=>?_));refine pop_field fld142_0 (qop_blk (v:=.string ((e_x11).name)) ty9 hs.hb rfl ?_);refine eop_build ([e_x11.name]) hs sl32 rfl rfl (leb rfl) (λ s_x16 _ hs=>?_);have hr_x17:=(hs).rd';exact eop_append hs.p2 sl32 hr_x17 (by simp <;> omega) (by decide) (λ _ _ hs=>have hs:=hs.p1.drop;pop_add (by omega) (have hs:=(hs.p1.drop.p1).p1;⟨_,by omega,k+1,rfl,rfl,by omega,by rw [<- map_snoc (k:=k) he_x11]; exact hs⟩))
 have hs:=hs.p1.drop;rw [List.take_of_length_le (by omega)] at hs;exact hs.fresh
theorem C127 (lv:Value) (xs:List TCell) (w:World) (hL:RdL (λ _=>True) w lv xs) (hn:xs.length<=1048576):CR 127 [lv] w (λ v w'=>v = .bool (decide (4<(xs.length:Int)))/\Ext w w'):=by
 have hs:=St.start w;refine S127_ok _ _ _ ?_;unfold S127;exact pop_len sl37 (hL.ext hs.chg) (pop_gtr ⟨rfl,hs.chg⟩)
theorem C128 (t:TThread) (tv:TThreadV) (w:World) (ht:Deep.dr w tv t) (hz:t.regs.length<=500):CR 128 [Flat.val tv] w (λ v w'=>v = .bool (decide (4<(t.regs.length:Int)))/\Ext w w'):=by
 obtain ⟨g_regs_t,g_body_t,rfl,d_regs_t,d_body_t⟩:=ht;have hs:=St.start w;refine S128_ok _ _ _ ?_;unfold S128;refine eop_boxV hs (λ b_t1 _ hs=>pop_field fld34_1 ?_);refine qop_blk ty32 hs.hb rfl ?_;have hf18:=DL.flat (d_regs_t);exact pop_len sl32 (hf18.ext hs.chg) (pop_gtr ⟨rfl,hs.drop.chg⟩)
theorem C64 (p:TProg) (pv:TProgV) (w:World) (hp:Deep.dr w pv p) (hz:PZ p):CR 64 [Flat.val pv] w (λ v w'=>v = .bool (bigM p)/\Ext w w'):=by
 obtain ⟨g_lines_p,g_vols_p,g_locks_p,g_threads_p,g_recover_p,g_claims_p,rfl,d_lines_p,d_vols_p,d_locks_p,d_threads_p,d_recover_p,d_claims_p⟩:=hp;have hs:=St.start w;refine S64_ok _ _ _ ?_;unfold S64;refine eop_boxV hs (λ b_p1 w1 hs=>?_);have hz1:=hz.lines;have hz2:=hz.vols;have hz3:=hz.locks;have hz4:=hz.threads;have hz5:=hz.claims;obtain ⟨ts3,hR3,hD3⟩:=(d_threads_p).open;obtain ⟨ts4,hR4,hD4⟩:=(d_recover_p).open;have hn3:=hD3.1;have hn4:=hD4.1;have hl99:=ths_len hz.toPS;refine pop_field fld40_3 (qop_blk ty35 hs.hb rfl ?_);obtain ⟨ts19,hR19,hD19⟩:=(d_threads_p).open;have hn19:=hD19.1;refine pop_len sl35 (hR19.ext hs.chg) ⟨λ jv w'=>jv = .bool (decide (4<(p.lines.length:Int)) || p.lines.any (λ l=>decide (4<(l.length:Int))) || decide (4<(p.vols.length:Int)) || decide (2<(p.locks.length:Int)) || decide ((p.threads.length:Int)=0) || decide (3<(p.threads.length:Int)) || (thsM p).any (λ t=>decide (4<(t.regs.length:Int))) || decide (4<(p.claims.length:Int)))/\St w none1 [blk b_p1 (Flat.enc (⟨g_lines_p,g_vols_p,g_locks_p,g_threads_p,g_recover_p,g_claims_p⟩:TProgV))] w',?_,?_⟩
 ·refine pop_field fld40_0 (qop_blk ty36 hs.hb rfl ?_);obtain ⟨ts20,hR20,hD20⟩:=(d_lines_p).open;have hn20:=hD20.1;refine pop_len sl36 (hR20.ext hs.chg) (pop_gtr (cond_d (λ _=>⟨vb (by grind),hs⟩) (λ c_x12=>pop_field fld40_0 (qop_blk ty36 hs.hb rfl (callP pl124 hs (C124 _ _ _ (λ l=>l.length<=1048576) _ _ (d_lines_p.ext hs.chg) ⟨127,[],[],rfl,pl127,λ _ y w1 _ hd hp=>C127 _ y w1 (DL.flat hd) hp⟩ (λ l hl=>by have:=hz.line l hl; omega) (by have:=hz.lines; omega)) (λ _ he hs=>cond_b (λ _=>⟨vb (by grind),hs⟩) (λ c_x17=>pop_field fld40_1 ?_)))))));refine qop_blk ty37 hs.hb rfl ?_;have hf21:=DL.flat (d_vols_p);refine pop_len sl37 (hf21.ext hs.chg) (pop_gtr (cond_d (λ _=>⟨vb (by grind),hs⟩) (λ c_x23=>pop_field fld40_2 ?_)))
  refine qop_blk ty37 hs.hb rfl ?_;have hf22:=DL.flat (d_locks_p);refine pop_len sl37 (hf22.ext hs.chg) (pop_gtr (cond_d (λ _=>⟨vb (by grind),hs⟩) (λ c_x29=>pop_eql (cond_d (λ _=>⟨vb (by grind),hs⟩) (λ c_x33=>pop_gtr (cond_d (λ _=>⟨vb (by grind),hs⟩) (λ c_x37=>qop_at ty40 hs.At ?_)))))));refine callF pl65 (C65 p _ ts3 ts4 _ ⟨g_lines_p,g_vols_p,g_locks_p,g_threads_p,g_recover_p,g_claims_p,rfl,(d_lines_p.ext hs.chg),(d_vols_p.ext hs.chg),(d_locks_p.ext hs.chg),(d_threads_p.ext hs.chg),(d_recover_p.ext hs.chg),(d_claims_p.ext hs.chg)⟩ (hR3.ext hs.chg) (hR4.ext hs.chg) (by have:=hz.threads; omega) (by have:=hz.recover; omega)) ?_;rintro x41 _ hnew;have hs:=hs.made hnew
  have hT_x41:DL _ _ (thsM p):=DL.of (hs).rd' ((hD3.append hD4).ext hs.chg);refine callP pl125 hs (C125 _ _ _ (λ t=>t.regs.length<=500) _ _ hT_x41 ⟨128,[],[],rfl,pl128,λ sv y w1 _ hd hp=>C128 y sv w1 hd hp⟩ (λ _ ht=>(hz.ths ht).2.1) (by omega)) (λ _ he hs=>cond_b (λ _=>have hs:=(hs).drop;⟨vb (by grind),hs⟩) (λ c_x43=>pop_field fld40_5 ?_));refine qop_blk ty38 hs.p1.hb rfl ?_;obtain ⟨ts23,hR23,hD23⟩:=(d_claims_p).open;have hn23:=hD23.1;exact pop_len sl38 (hR23.ext hs.chg) (pop_gtr (have hs:=(hs).drop;⟨vb (by grind),hs⟩))
 rintro _ _ ⟨rfl,hs⟩ _;exact ⟨vb (bigM_e p),hs.drop.chg⟩
theorem wildB_cons (x:TStmt) (a b r:Bk) (n:Int):wildB (.cons x a b r) n=(decide (64<wildN x n) || (wildB a (wildN x n) || wildB b (wildN x n)) || wildB r n):=rfl
theorem wild_in {xs:List TStmt} {k:Nat} {x:TStmt} {a b r:Bk} (h:xs.drop k=(Bk.cons x a b r).flat) (hst:(Bk.cons x a b r).str) {hi lo:Int} (h1:hi=k+1+x.body+x.els) (h2:lo=k+1):(xs.take hi.toNat).drop lo.toNat=(a.app b).flat:=by
 have hst2:=hst
 obtain ⟨g1,g2,_⟩:=hst2
 have e:=Bk.cut1 hst (hi:=1+x.body+x.els) (lo:=1) rfl rfl
 rw [<- e,<- h,List.take_drop,List.drop_drop]
 congr 1
 ·omega
 congr 1; omega
theorem wild_out {xs:List TStmt} {k:Nat} {x:TStmt} {a b r:Bk} (h:xs.drop k=(Bk.cons x a b r).flat) (hst:(Bk.cons x a b r).str):xs.drop (k+1+a.len+b.len)=r.flat:=by
 have hst2:=hst
 obtain ⟨g1,g2,_⟩:=hst2
 rw [<- Bk.cut2 hst (hi:=1+x.body+x.els) rfl,<- h,List.drop_drop]
 congr 1; omega
theorem drop_atq {α:Type} {xs l:List α} {k:Nat} {x:α} (h:xs.drop k=x::l):xs[k]? = some x:=by
 have:=congrArg (λ l=>l[0]?) h
 simpa using this
theorem C66 (lv:Value) (t:Bk) (n:Int) (N:Nat) (w:World) (hL:DL w lv t.flat) (hst:t.str) (hq:∀ x∈t.flat,0<=x.at_/\(x.kind=12->1<=x.n/\x.n<=8)) (hn:1<=n/\n<=64) (hl:t.len<=1048576) (hN:t.len<N):CR 66 [lv,.int .i64 n] w (λ v w'=>∃ a:Int,v = .tuple #[.int .i64 a,.bool (wildB t n)]/\Ext w w'):=by
 have hfl:=t.flat_len;have hs:=St.start w;refine S66_ok _ _ _ _ ?_;unfold S66;refine ⟨λ m y w1=>∃ (k:Nat) (u:Bk),y = .int .i64 (k:Int)/\m=t.len - k/\t.flat.drop k=u.flat/\k+u.len=t.len/\u.str/\(∀ x∈u.flat,0<=x.at_/\(x.kind=12->1<=x.n/\x.n<=8))/\wildB t n=wildB u n/\St w none1 [] w1,⟨_,0,t,rfl,rfl,rfl,by omega,hst,hq,rfl,hs⟩,?_⟩;rintro m _ w1 ⟨k,u,rfl,rfl,hdr,hku,hsu,hqu,hwb,hs⟩ _;obtain ⟨ts24,hR24,hD24⟩:=(hL).open;have hn24:=hD24.1;refine pop_len sl27 (hR24.ext hs.chg) (pop_lss (cond_d (λ c_x15=>?_) (λ c_x15=>?_)))
 ·obtain ⟨x,a,b,r,rfl⟩:=Bk.cons_of (t:=u) (by rw [Bk.flat_len]; omega);obtain ⟨e_x18,he_x18⟩:=gx ts24 (i:=((k:Int)).toNat) (by omega);obtain ⟨r_x18,hr_x18⟩:=gx (t.flat) (i:=((k:Int)).toNat) (by omega);obtain ⟨g_e_x18,g_f_x18,rfl,d_e_x18,d_f_x18⟩:=hD24.2 _ _ _ he_x18 hr_x18;refine pop_idx sl27 hR24 (by omega) he_x18 (λ _ h_x18=>?_);obtain rfl:r_x18=x:=Option.some.inj (hr_x18.symm.trans (drop_atq hdr));have hqx:=hqu r_x18 (by simp [Bk.flat]);have hsu2:=hsu;obtain ⟨hg1,hg2,hg3,hg4,hga,hgb,hgr⟩:=hsu2;have hln:k+(a.len+b.len+r.len+1)=t.len:=hku;have hla:=a.flat_len;have hlb:=b.flat_len;have hlr:=r.flat_len;have hin:=wild_in hdr hsu (hi:=(k:Int)+1+r_x18.body+r_x18.els) (lo:=(k:Int)+1) rfl rfl
  have hout:=wild_out hdr hsu;refine qop_at ty24 (h_x18.ext hs.chg) (eop_allocA hs zero24 (λ b_x7 _ hs=>?_));have hs:=hs.enc (cs':=Flat.enc (⟨0,(ByteArray.mk #[]),(ByteArray.mk #[]),⟨none,0,0⟩,⟨none,0,0⟩,0,0,0,0⟩:TStmtV)) rfl;refine uop_blkV (x:=(⟨(r_x18).kind,(r_x18).reg,(r_x18).name,g_e_x18,g_f_x18,(r_x18).n,(r_x18).body,(r_x18).els,(r_x18).at_⟩:TStmtV)) hs ty24 rfl rfl (λ _ hs=>pop_add (by omega) ?_);refine pop_field fld24_6 (qop_blk (v:=.int .i64 ((r_x18).body)) ty3 hs.hb rfl (pop_add (by omega) (pop_field fld24_7 (qop_blk (v:=.int .i64 ((r_x18).els)) ty3 hs.hb rfl (pop_add (by omega) ⟨λ jv w'=>∃ m:Int,jv = .int .i64 m/\m=wildN r_x18 n/\St w none1 [blk b_x7 (Flat.enc (⟨(r_x18).kind,(r_x18).reg,(r_x18).name,g_e_x18,g_f_x18,(r_x18).n,(r_x18).body,(r_x18).els,(r_x18).at_⟩:TStmtV))] w',pop_field fld24_0 (qop_blk (v:=.int .i64 ((r_x18).kind)) ty3 hs.hb rfl (pop_eql (cond_d (λ c_x31=>pop_field fld24_5 (qop_blk (v:=.int .i64 ((r_x18).n)) ty3 hs.hb rfl (pop_mul (by have h12:=hqx.2 c_x31; have h1:=Int.mul_le_mul (a:=1) (b:=1) hn.1 h12.1 (by omega) (by omega); have h2:=Int.mul_le_mul (c:=64) (d:=8) hn.2 h12.2 (by omega) (by omega); omega) ⟨_,rfl,by grind [wildN],hs⟩))) (λ _=>⟨_,rfl,by grind [wildN],hs⟩)))),?_⟩)))))
  rintro _ _ ⟨m,rfl,hm,hs⟩ _;have hm8:=wild_m hn hqx.2 hm;refine pop_gtr (cond_d (λ c_x37=>?_) (λ c_x37=>?_))
  ·refine pop_field fld24_8 (qop_blk (v:=.int .i64 ((r_x18).at_)) ty3 hs.hb rfl ?_);refine ⟨r_x18.at_,?_,hs.drop.chg⟩;rw [hwb,wildB_cons,<- hm,decide_eq_true (show (64:Int)<m by omega)]; rfl
  refine pop_add (by omega) (pop_cutLH sl27 (hR24.ext hs.chg) (by omega) (by omega) (by omega) (λ s_x45 hq_x45=>?_));have hc_x45:=DL.cut hq_x45 hR24 hD24;refine callF pl66 (C66 _ (a.app b) m (N - 1) _ (by have h:=(hc_x45.ext hs.chg); rw [hin] at h; exact h) (Bk.app_str hga hgb) (λ y hy=>hqu y (by rw [Bk.app_flat] at hy; simp only [Bk.flat,List.mem_cons,List.mem_append]; rcases List.mem_append.1 hy with h | h <;> simp [h])) (by omega) (by rw [app_len]; omega) (by rw [app_len]; omega)) ?_;rintro _ _ ⟨a1,rfl,he⟩;have hs:=hs.ext he;rw [wildB_app];refine pop_ext rfl (pop_ext rfl (cond_b (λ c_x49=>?_) (λ c_x49=>⟨_,by omega,k+1+a.len+b.len,r,congrArg (Value.int .i64) (by omega),rfl,hout,by omega,hgr,(λ y hy=>hqu y (by simp [Bk.flat,hy])),by rw [hwb,wildB_cons,<- hm,decide_eq_false (show ¬ (64:Int)<m by omega),c_x49]; rfl,hs.drop⟩)))
  refine ⟨a1,?_,hs.drop.chg⟩;rw [hwb,wildB_cons,<- hm,c_x49]; simp
 cases u with
 | nil=>exact ⟨_,by rw [hwb]; rfl,hs.chg⟩
 | cons x a b r=>exact absurd hku (by show ¬ k+(a.len+b.len+r.len+1)=_; omega)
termination_by N
decreasing_by all_goals omega
def lnP:Int->List (List TCell)->List (TCell × Int)
 | _,[]=>[]
 | k,l::r=>l.map (λ c=>(c,k))++lnP (k+1) r
def vlP:Int->List TCell->List (TCell × Int)
 | _,[]=>[]
 | k,c::r=>(c,k)::vlP (k+1) r
def allP (p:TProg):List (TCell × Int):=lnP 0 p.lines++vlP p.lines.length p.vols
theorem lnP_len:∀ (ls:List (List TCell)) (k:Int),(lnP k ls).length=ls.flatten.length
 | [],_=>rfl
 | l::r,k=>by simp [lnP,lnP_len r]
theorem vlP_len:∀ (vs:List TCell) (k:Int),(vlP k vs).length=vs.length
 | [],_=>rfl
 | c::r,k=>by simp [vlP,vlP_len r]
theorem lnP_fst:∀ (ls:List (List TCell)) (k:Int),(lnP k ls).map Prod.fst=ls.flatten
 | [],_=>rfl
 | l::r,k=>by simp [lnP,lnP_fst r,Function.comp_def]
theorem vlP_fst:∀ (vs:List TCell) (k:Int),(vlP k vs).map Prod.fst=vs
 | [],_=>rfl
 | c::r,k=>by simp [vlP,vlP_fst r]
theorem lnP_at {l:List TCell} {c:TCell} {j:Nat} (hj:l[j]? = some c):∀ (ls:List (List TCell)) (k:Int) (i:Nat),ls[i]? = some l->(lnP k ls)[(ls.take i).flatten.length+j]? = some (c,k+i)
 | [],_,_,h=>by simp at h
 | a::r,k,0,h=>by
  simp at h; subst h
  have:=(List.getElem?_eq_some_iff.1 hj).1
  simp only [List.take_zero,List.flatten_nil,List.length_nil,Nat.zero_add,lnP]
  rw [List.getElem?_append_left (by simpa using this),List.getElem?_map,hj]; simp
 | a::r,k,i+1,h=>by
  have ih:=lnP_at hj r (k+1) i (by simpa using h)
  simp only [List.take_succ_cons,List.flatten_cons,List.length_append,lnP]
  rw [List.getElem?_append_right (by simp; omega),List.length_map,show a.length+(r.take i).flatten.length+j - a.length=(r.take i).flatten.length+j from by omega,ih]
  congr 2; omega
theorem vlP_at:∀ (vs:List TCell) (k:Int) (j:Nat) (c:TCell),vs[j]? = some c->(vlP k vs)[j]? = some (c,k+j)
 | [],_,_,_,h=>by simp at h
 | a::r,k,0,c,h=>by simp at h; subst h; simp [vlP]
 | a::r,k,j+1,c,h=>by
  have ih:=vlP_at r (k+1) j c (by simpa using h)
  simp only [vlP,List.getElem?_cons_succ]
  rw [ih]; congr 2; omega
theorem allP_fst (p:TProg):(allP p).map Prod.fst=allC p:=by unfold allP allC; rw [List.map_append,lnP_fst,vlP_fst]
theorem allP_len (p:TProg):(allP p).length=(allC p).length:=by rw [<- allP_fst,List.length_map]
theorem allP_line {p:TProg} {l:List TCell} {c:TCell} {i j:Nat} (hl:p.lines[i]? = some l) (hj:l[j]? = some c):(allP p)[(p.lines.take i).flatten.length+j]? = some (c,(i:Int)):=by
 have h:=lnP_at hj p.lines 0 i hl
 unfold allP
 rw [List.getElem?_append_left (List.getElem?_eq_some_iff.1 h).1,h,Int.zero_add]
theorem allP_vol {p:TProg} {c:TCell} {j:Nat} (hj:p.vols[j]? = some c):(allP p)[p.lines.flatten.length+j]? = some (c,(p.lines.length:Int)+j):=by
 unfold allP
 rw [List.getElem?_append_right (by rw [lnP_len]; omega),lnP_len,Nat.add_sub_cancel_left,vlP_at _ _ _ _ hj]
theorem C133 (y:Value) (b:Nat) (g0 g1:SV) (p:TProg) (J:Nat->World->Prop) (Jx:World->Prop) (w0 w:World) (hz:PS p) (hL:DL w0 (Flat.val g0) p.lines) (hV:RdL (λ _=>True) w0 (Flat.val g1) p.vols)
  (hJ:∀ k W,J k W->Cell W b 0 (Flat.val g0)/\Cell W b 1 (Flat.val g1)/\Ext w0 W) (hJe:∀ k W W',J k W->Ext W W'->J k W') (h0:J 0 w)
  (hy:∀ k c i W,(allP p)[k]? = some (c,i)->J k W->CallV Tryz.prog y [Flat.val c,.int .i64 i] W (λ v W'=>(v = .bool true/\J (k+1) W')\/(v = .bool false/\Jx W'))) :
  CR 133 [y,.pointer (some ⟨b,0,none⟩)] w (λ _ W=>J (allP p).length W\/Jx W):=by
 obtain ⟨ts,hR,hD⟩:=hL.open;have hn:=hD.1;have hzl:=hz.lines;have hzv:=hz.vols;refine S133_ok _ _ _ _ ?_;unfold S133;obtain ⟨hc0,hc1,he0⟩:=hJ 0 w h0;refine pop_field fld40_0 (qop_cell ty36 hc0 ?_);refine pop_len sl36 (hR.ext he0) ?_;refine ⟨λ m x w1=>∃ i:Nat,x = .int .i64 (i:Int)/\m=p.lines.length - i/\i<=p.lines.length/\J ((p.lines.take i).flatten.length) w1,⟨_,0,rfl,rfl,Nat.zero_le _,h0⟩,?_⟩;rintro m _ w1 ⟨i,rfl,rfl,hi,hj⟩ _;refine pop_lss (cond_d (λ c=>?_) (λ c=>?_))
 ·obtain ⟨l,hl⟩:∃ l,p.lines[i]? = some l:=⟨_,List.getElem?_eq_getElem (by omega)⟩;obtain ⟨t,ht⟩:∃ t,ts[((i:Nat):Int).toNat]? = some t:=⟨_,List.getElem?_eq_getElem (by omega)⟩;have hdt:DL w0 (Flat.val t) l:=hD.2 _ _ _ ht hl;have hrt:=DL.flat hdt;have hll:=hz.line l (List.mem_of_getElem? hl);have e1:=(hJ _ _ hj).2.2;refine pop_idx sl36 hR (by omega) ht (λ q hq=>qop_at ty37 (hq.ext e1) ?_);refine pop_len sl37 (hrt.ext e1) ?_;refine ⟨λ m x w1=>∃ j:Nat,x = .int .i64 (j:Int)/\m=l.length - j/\j<=l.length/\J ((p.lines.take i).flatten.length+j) w1,⟨_,0,rfl,rfl,Nat.zero_le _,hj⟩,?_⟩;rintro m _ w2 ⟨j,rfl,rfl,hjl,hj⟩ _;refine pop_lss (cond_d (λ c=>?_) (λ _=>pop_add (by omega) ⟨_,by omega,i+1,rfl,rfl,by omega,by rw [flt_succ hl,List.length_append,show l.length=j from by omega]; exact hj⟩))
  obtain ⟨x,hx⟩:∃ x,l[((j:Nat):Int).toNat]? = some x:=⟨_,List.getElem?_eq_getElem (by omega)⟩;have e2:=(hJ _ _ hj).2.2;have hs:=St.start w2;refine pop_idx sl37 hrt (by omega) hx (λ q hq=>qop_at ty142 (hq.ext e2) ?_);refine eop_allocA hs zero142 (λ b6 _ hs=>uop_blkV (x:=x) hs ty142 rfl rfl (λ w4 hs=>?_));refine qop_at ty142 hs.At ?_;refine CallV.mono (hy _ x i w4 (allP_line hl hx) (hJe _ _ _ hj hs.chg)) ?_;rintro v w5 (⟨rfl,hj2⟩ | ⟨rfl,hx2⟩)
  ·exact pop_not (cond_f (pop_add (by omega) ⟨_,by omega,j+1,rfl,rfl,by omega,hj2⟩))
  exact pop_not (cond_t (.inr hx2))
 rw [show p.lines.take i=p.lines from List.take_of_length_le (by omega)] at hj;obtain ⟨hc0,hc1,e1⟩:=hJ _ _ hj;refine pop_field fld40_1 (qop_cell ty37 hc1 ?_);refine pop_len sl37 (hV.ext e1) ?_;refine ⟨λ m x w1=>∃ j:Nat,x = .int .i64 (j:Int)/\m=p.vols.length - j/\j<=p.vols.length/\J (p.lines.flatten.length+j) w1,⟨_,0,rfl,rfl,Nat.zero_le _,hj⟩,?_⟩;rintro m _ w6 ⟨j,rfl,rfl,hjl,hj⟩ _;refine pop_lss (cond_d (λ c=>?_) (λ c=>?_))
 ·obtain ⟨x,hx⟩:∃ x,p.vols[((j:Nat):Int).toNat]? = some x:=⟨_,List.getElem?_eq_getElem (by omega)⟩;obtain ⟨hc0,hc1,e2⟩:=hJ _ _ hj;have hs:=St.start w6;refine pop_idx sl37 hV (by omega) hx (λ q hq=>qop_at ty142 (hq.ext e2) ?_);refine eop_allocA hs zero142 (λ b8 _ hs=>uop_blkV (x:=x) hs ty142 rfl rfl (λ w8 hs=>?_));refine qop_at ty142 hs.At (pop_field fld40_0 ?_);refine qop_cell ty36 (hc0.ext hs.chg) (pop_len sl36 (hR.ext (e2.trans hs.chg)) ?_);refine pop_add (by omega) ?_;rw [hn];refine CallV.mono (hy _ x _ w8 (allP_vol hx) (hJe _ _ _ hj hs.chg)) ?_;rintro v w9 (⟨rfl,hj2⟩ | ⟨rfl,hx2⟩)
  ·exact pop_not (cond_f (pop_add (by omega) ⟨_,by omega,j+1,rfl,rfl,by omega,hj2⟩))
  exact pop_not (cond_t (.inr hx2))
 refine .inl ?_;rw [allP_len];unfold allC;rw [List.length_append,show p.vols.length=j from by omega];exact hj
theorem C70 (pv:TProgV) (w:World):CR 70 [Flat.val pv] w (λ v w'=>∃ b,v = .func (.func 133) [].toArray [.pointer (some ⟨b,0,none⟩)].toArray/\New (blk b (Flat.enc pv)) w w'):=by
 have hs:=St.start w;refine S70_ok _ _ _ ?_;unfold S70;exact eop_boxV hs (λ b _ hs=>⟨b,rfl,hs.fresh⟩)
theorem C24 (p:TProg) (pv:TProgV) (w:World) (hp:Deep.dr w pv p) (hz:PZ p):CR 24 [Flat.val pv] w (λ v w'=>New (ownL v (cellNs p)) w w'):=by
 have hac:=allC_len hz.toPS;have hsz:(allP p).length=(allC p).length:=allP_len p;obtain ⟨g_lines_p,g_vols_p,g_locks_p,g_threads_p,g_recover_p,g_claims_p,rfl,d_lines_p,d_vols_p,d_locks_p,d_threads_p,d_recover_p,d_claims_p⟩:=hp;have hs:=St.start w;refine S24_ok _ _ _ ?_;unfold S24;refine eop_boxV hs (λ bp _ hs=>eop_alloc1 hs zero32 rfl (λ b3 _ hs=>?_));refine qop_at ty40 hs.p1.At (callF pl70 (C70 _ _) ?_);rintro _ _ ⟨b,rfl,hnew⟩;have hs:=(hs.made hnew).ownNil (α:=ByteArray)
 refine range_st (cap:=[.pointer (some ⟨b,0,none⟩)]) (xs:=(allP p).map λ q=>[Flat.val q.1,.int .i64 q.2]) pl133 hs
  (λ k M=>∃ sv,M=[ownL sv (((allC p).take k).map TCell.name),blk b (Flat.enc (⟨g_lines_p,g_vols_p,g_locks_p,g_threads_p,g_recover_p,g_claims_p⟩:TProgV)),blk b3 [sv],blk bp (Flat.enc (⟨g_lines_p,g_vols_p,g_locks_p,g_threads_p,g_recover_p,g_claims_p⟩:TProgV))]) (λ _ _=>False) ⟨_,rfl⟩ (by intro x hx; obtain ⟨q,_,rfl⟩:=List.mem_map.1 hx; rfl) ?_ ?_ ?_ ?_ ?_ ?_
 ·intro y J Jx W hJ hJe hJ0 hy;refine (C133 y b g_lines_p g_vols_p p J Jx w W hz.toPS d_lines_p (DL.flat d_vols_p) (λ k W hk=>?_) hJe hJ0 (λ k c i W hx hk=>hy k [Flat.val c,.int .i64 i] W (by rw [List.getElem?_map,hx]; rfl) hk)).mono λ _ _ r=>r.mono λ v W' h=>?_
  ·obtain ⟨Y,M,⟨sv,rfl⟩,hS⟩:=hJ k W hk;exact ⟨hS.p2.hb.cell rfl,hS.p2.hb.cell rfl,hS.chg⟩
  simpa using h
 ·rintro k args Y1 Y2 B Kr M W hk ⟨sv,rfl⟩ hB hN hR hs;rw [List.getElem?_map] at hk;obtain ⟨q,hq,rfl⟩:=Option.map_eq_some_iff.1 hk;have hlt:=(List.getElem?_eq_some_iff.1 hq).1;have hc:(allC p)[k]? = some q.1:=by rw [<- allP_fst,List.getElem?_map,hq]; rfl
  have hml:(((allC p).take k).map TCell.name).length=k:=by rw [List.length_map,List.length_take]; omega
  dsimp only [nthV];refine eop_allocA hs zero142 (λ b4 _ hs=>uop_blkV (x:=q.1) hs ty142 rfl rfl (λ _ hs=>?_));refine hB _ _ _ hs.p1 (λ _ hs=>?_);refine qop_blk ty32 hs.p4.hb rfl (pop_field fld142_0 ?_);refine qop_blk (v:=.string q.1.name) ty9 hs.p1.hb rfl (eop_build ([TCell.name q.1]) hs sl32 rfl rfl (leb rfl) (λ s8 _ hs=>?_));have hr:=(hs).rd';refine eop_append hs.p3 sl32 hr (by rw [hml,List.length_singleton]; omega) (by decide) (λ s9 _ hs=>uop_blk hs.p5 ty32 (leb rfl) (rdl_one (hs).rd') (λ _ hs=>?_));refine hN _ _ ?_ ⟨s9,rfl⟩;rw [<- map_snoc (k:=k) hc];exact (((hs.p2.drop.p3.drop).p3).p2).p3
 ·rintro D M W ⟨sv,rfl⟩ hs;refine qop_blk ty32 hs.p3.hb rfl ?_;refine take1 hs (λ _ hs=>?_);rw [List.length_map,hsz,List.take_length] at hs;exact (hs.p1.drop.p1.drop.p1.drop).fresh
 ·rintro D M W h; exact h.elim
 ·rintro id D M W h; exact h.elim
 rintro c M h; exact h.elim
theorem C29 (p:TProg) (pv:TProgV) (w:World) (hp:Deep.dr w pv p) (hz:PZ p):CR 29 [Flat.val pv] w (λ v w'=>New (ownL v (firstsM p)) w w'):=by
 have hac:=allC_len hz.toPS;have hsz:(allP p).length=(allC p).length:=allP_len p;obtain ⟨g_lines_p,g_vols_p,g_locks_p,g_threads_p,g_recover_p,g_claims_p,rfl,d_lines_p,d_vols_p,d_locks_p,d_threads_p,d_recover_p,d_claims_p⟩:=hp;have hs:=St.start w;refine S29_ok _ _ _ ?_;unfold S29;refine eop_boxV hs (λ bp _ hs=>eop_alloc1 hs zero45 rfl (λ b3 _ hs=>?_));refine qop_at ty40 hs.p1.At (callF pl70 (C70 _ _) ?_);rintro _ _ ⟨b,rfl,hnew⟩;have hs:=(hs.made hnew).ownNil (α:=Int)
 refine range_st (cap:=[.pointer (some ⟨b,0,none⟩)]) (xs:=(allP p).map λ q=>[Flat.val q.1,.int .i64 q.2]) pl133 hs
  (λ k M=>∃ sv,M=[ownL sv (((allC p).take k).map TCell.n),blk b (Flat.enc (⟨g_lines_p,g_vols_p,g_locks_p,g_threads_p,g_recover_p,g_claims_p⟩:TProgV)),blk b3 [sv],blk bp (Flat.enc (⟨g_lines_p,g_vols_p,g_locks_p,g_threads_p,g_recover_p,g_claims_p⟩:TProgV))]) (λ _ _=>False) ⟨_,rfl⟩ (by intro x hx; obtain ⟨q,_,rfl⟩:=List.mem_map.1 hx; rfl) ?_ ?_ ?_ ?_ ?_ ?_
 ·intro y J Jx W hJ hJe hJ0 hy;refine (C133 y b g_lines_p g_vols_p p J Jx w W hz.toPS d_lines_p (DL.flat d_vols_p) (λ k W hk=>?_) hJe hJ0 (λ k c i W hx hk=>hy k [Flat.val c,.int .i64 i] W (by rw [List.getElem?_map,hx]; rfl) hk)).mono λ _ _ r=>r.mono λ v W' h=>?_
  ·obtain ⟨Y,M,⟨sv,rfl⟩,hS⟩:=hJ k W hk;exact ⟨hS.p2.hb.cell rfl,hS.p2.hb.cell rfl,hS.chg⟩
  simpa using h
 ·rintro k args Y1 Y2 B Kr M W hk ⟨sv,rfl⟩ hB hN hR hs;rw [List.getElem?_map] at hk;obtain ⟨q,hq,rfl⟩:=Option.map_eq_some_iff.1 hk;have hlt:=(List.getElem?_eq_some_iff.1 hq).1;have hc:(allC p)[k]? = some q.1:=by rw [<- allP_fst,List.getElem?_map,hq]; rfl
  have hml:(((allC p).take k).map TCell.n).length=k:=by rw [List.length_map,List.length_take]; omega
  dsimp only [nthV];refine eop_allocA hs zero142 (λ b4 _ hs=>uop_blkV (x:=q.1) hs ty142 rfl rfl (λ _ hs=>?_));refine hB _ _ _ hs.p1 (λ _ hs=>?_);refine qop_blk ty45 hs.p4.hb rfl (pop_field fld142_1 ?_);refine qop_blk (v:=.int .i64 q.1.n) ty3 hs.p1.hb rfl (eop_build ([TCell.n q.1]) hs sl45 rfl rfl (leb rfl) (λ s8 _ hs=>?_));have hr:=(hs).rd';refine eop_append hs.p3 sl45 hr (by rw [hml,List.length_singleton]; omega) (by decide) (λ s9 _ hs=>uop_blk hs.p5 ty45 (leb rfl) (rdl_one (hs).rd') (λ _ hs=>?_));refine hN _ _ ?_ ⟨s9,rfl⟩;rw [<- map_snoc (k:=k) hc];exact (((hs.p2.drop.p3.drop).p3).p2).p3
 ·rintro D M W ⟨sv,rfl⟩ hs;refine qop_blk ty45 hs.p3.hb rfl ?_;refine take1 hs (λ _ hs=>?_);rw [List.length_map,hsz,List.take_length] at hs;exact (hs.p1.drop.p1.drop.p1.drop).fresh
 ·rintro D M W h; exact h.elim
 ·rintro id D M W h; exact h.elim
 rintro c M h; exact h.elim
theorem vlP_snd:∀ (vs:List TCell) (k:Int) (j:Nat) (q:TCell × Int),(vlP k vs)[j]? = some q->q.2=k+j
 | [],_,_,_,h=>by simp [vlP] at h
 | c::r,k,0,q,h=>by simp [vlP] at h; subst h; simp
 | c::r,k,j+1,q,h=>by
  have:=vlP_snd r (k+1) j q (by simpa [vlP] using h)
  rw [this]; omega
theorem lineF_at (vs:List TCell):∀ (ls:List (List TCell)) (i:Int) (a:Nat) (q:TCell × Int),(lnP i ls++vlP (i+ls.length) vs)[a]? = some q->lineF ls i a=q.2
 | [],i,a,q,h=>by
  have:=vlP_snd vs (i+0) a q (by simpa [lnP] using h)
  unfold lineF; rw [this]; omega
 | l::r,i,a,q,h=>by
  unfold lineF
  by_cases hlt:a<l.length
  ·rw [if_pos (by omega)]
   rw [lnP,List.append_assoc,List.getElem?_append_left (by simpa using hlt),List.getElem?_map] at h
   obtain ⟨x,_,rfl⟩:=Option.map_eq_some_iff.1 h
   rfl
  ·rw [if_neg (by omega)]
   rw [lnP,List.append_assoc,List.getElem?_append_right (by simp; omega),List.length_map] at h
   have e:(i+((l::r).length:Nat):Int)=i+1+(r.length:Nat):=by rw [List.length_cons]; omega
   rw [e] at h
   have:=lineF_at vs r (i+1) (a - l.length) q h
   rw [<- this]; congr 1; omega
theorem lineM_at {p:TProg} {k:Nat} {q:TCell × Int} (h:(allP p)[k]? = some q):lineM p k=q.2:=by
 have hlt:=(List.getElem?_eq_some_iff.1 h).1
 rw [allP_len] at hlt
 unfold lineM
 rw [if_neg (by omega)]
 exact lineF_at p.vols p.lines 0 k q (by unfold allP at h; rw [Int.zero_add]; exact h)
theorem C26 (p:TProg) (pv:TProgV) (c:Int) (w:World) (hp:Deep.dr w pv p) (hz:PZ p):CR 26 [Flat.val pv,.int .i64 c] w (λ v w'=>v = .int .i64 (lineM p c)/\Ext w w'):=by
 have hac:=allC_len hz.toPS;have hsz:(allP p).length=(allC p).length:=allP_len p;obtain ⟨g_lines_p,g_vols_p,g_locks_p,g_threads_p,g_recover_p,g_claims_p,rfl,d_lines_p,d_vols_p,d_locks_p,d_threads_p,d_recover_p,d_claims_p⟩:=hp;have hs:=St.start w;refine S26_ok _ _ _ _ ?_;unfold S26;refine eop_boxV hs (λ bp _ hs=>eop_box1 hs rfl (λ b3 _ hs=>?_));refine eop_alloc1 hs zero3 rfl (λ b4 _ hs=>eop_alloc1 hs zero3 rfl (λ b5 _ hs=>?_));refine uop_blk hs ty3 (leb rfl) rfl (λ _ hs=>qop_at ty40 hs.p3.At ?_);refine callF pl70 (C70 _ _) ?_;rintro _ _ ⟨b,rfl,hnew⟩;have hs:=hs.made hnew
 refine range_st (cap:=[.pointer (some ⟨b,0,none⟩)]) (xs:=(allP p).map λ q=>[Flat.val q.1,.int .i64 q.2]) pl133 hs
  (λ k M=>(∀ j:Nat,j<k->¬ (j:Int)=c)/\M=[blk b (Flat.enc (⟨g_lines_p,g_vols_p,g_locks_p,g_threads_p,g_recover_p,g_claims_p⟩:TProgV)),blk b5 [.int .i64 (k:Int)],blk b4 [.int .i64 0],blk b3 [.int .i64 c],blk bp (Flat.enc (⟨g_lines_p,g_vols_p,g_locks_p,g_threads_p,g_recover_p,g_claims_p⟩:TProgV))])
  (λ cd M=>cd = .ret/\M=[blk b4 [.int .i64 (lineM p c)]]) ⟨by omega,rfl⟩ (by intro x hx; obtain ⟨q,_,rfl⟩:=List.mem_map.1 hx; rfl) ?_ ?_ ?_ ?_ ?_ ?_
 ·intro y J Jx W hJ hJe hJ0 hy;refine (C133 y b g_lines_p g_vols_p p J Jx w W hz.toPS d_lines_p (DL.flat d_vols_p) (λ k W hk=>?_) hJe hJ0 (λ k c i W hx hk=>hy k [Flat.val c,.int .i64 i] W (by rw [List.getElem?_map,hx]; rfl) hk)).mono λ _ _ r=>r.mono λ v W' h=>?_
  ·obtain ⟨Y,M,⟨_,rfl⟩,hS⟩:=hJ k W hk;exact ⟨hS.p1.hb.cell rfl,hS.p1.hb.cell rfl,hS.chg⟩
  simpa using h
 ·rintro k args Y1 Y2 B Kr M W hk ⟨hno,rfl⟩ hB hN hR hs;rw [List.getElem?_map] at hk;obtain ⟨q,hq,rfl⟩:=Option.map_eq_some_iff.1 hk;have hlt:=(List.getElem?_eq_some_iff.1 hq).1;dsimp only [nthV];refine hB _ _ _ hs (λ _ hs=>?_);refine qop_blk ty3 hs.p2.hb rfl (qop_blk ty3 hs.p4.hb rfl (pop_eql (cond_d (λ c1=>?_) (λ c1=>qop_blk ty3 hs.p2.hb rfl (pop_add (by omega) (uop_blk hs.p2 ty3 (leb rfl) rfl (λ _ hs=>hN _ _ ((hs.p2).p2.p0) ⟨λ j hj=>?_,rfl⟩)))))))
  ·refine uop_blk hs.p3 ty3 (leb rfl) rfl (λ _ hs=>?_);refine hR _ [blk b4 [.int .i64 (lineM p c)]] _ ?_ ⟨rfl,rfl⟩;rw [<- c1,lineM_at hq];exact (hs.p2.drop.p2.drop.p2.drop.p2.drop).p1
  rcases Nat.lt_or_ge j k with h | h
  ·exact hno j h
  rw [show j=k from by omega]; exact c1
 ·rintro D M W ⟨hno,rfl⟩ hs;refine uop_blk hs.p3 ty3 (leb rfl) rfl (λ _ hs=>?_);refine take1 hs.p1 (λ _ hs=>?_);refine qop_blk ty3 hs.hb rfl ?_;refine ⟨congrArg (Value.int .i64) ?_,hs.chg⟩;unfold lineM;rw [List.length_map] at hno
  rw [if_pos (by
   rcases Int.lt_or_le c 0 with h | h
   ·exact .inl h
   ·refine .inr ?_;have:=hno c.toNat;omega)]
 ·rintro D M W ⟨_,rfl⟩ hs;refine take1 hs (λ _ hs=>?_);exact qop_blk ty3 hs.hb rfl ⟨rfl,hs.chg⟩
 ·rintro id D M W ⟨h,_⟩; cases h
 rintro c M ⟨h,_⟩; exact .inr h
variable (w:World) (K:Value->World->Prop)
def S62 (p0:Value):Prop:=
 Eop Tryz.prog (Instr.box 40 p0) w λ p1 a=>Eop Tryz.prog (Instr.makeMap 121 none) a λ b c=>aL 121 c λ is5 d=>sA 121 is5 b d λ e=>aL 3 e λ at6 f=>aL 4 f λ twice7 g=>
 sA 4 twice7 ff g λ h=>aL 201 h λ put8 j=>sA 201 put8 (.func (Go.Fn.func 114) [].toArray [is5,twice7,at6].toArray) j λ k=>lA 40 p1 k λ l=>cF 70 [l] k λ n o=>RangeFn Tryz.prog n 2 o (λ a1 p B1 R1=>
 aL 142 p λ c9 q=>sA 142 c9 (nthV a1 0) q λ r=>B1 r λ s=>Join1 (λ K1=>fA 40 p1 0 λ t=>lA 36 t s λ u=>lN 36 u λ v=>bA .geq 3 (nthV a1 1) v λ x=>cV x (K1 (i 2) s) (
 K1 (i 1) s)) (λ what11 y=>∀ _:Env,
 lA 201 put8 y λ z=>fA 142 c9 0 λ aa=>lA 9 aa y λ ab=>fA 142 c9 2 λ ac=>lA 3 ac y λ ad=>CallV Tryz.prog z [ab,what11,ad] y λ _ ae=>R1 none ae)) (aft (λ D af=>
 fA 40 p1 2 λ ag=>lA 37 ag af λ ah=>lN 37 ah λ ai=>Loop1 (λ K2 aj ak=>∀ _:Env,
 bA .lss 3 aj ai λ al=>cV al (iA 37 ah aj λ am=>lA 142 am ak λ an=>aL 142 ak λ c13 ao=>sA 142 c13 an ao λ ap=>lA 201 put8 ap λ aq=>fA 142 c13 0 λ ar=>lA 9 ar ap λ asx=>
 fA 142 c13 2 λ au=>lA 3 au ap λ av=>CallV Tryz.prog aq [asx,(i 3),av] ap λ _ aw=>bB .add 3 aj (i 1) λ ax=>K2 ax aw) (fA 40 p1 3 λ ay=>lA 35 ay ak λ az=>lN 35 az λ a0=>
 Loop1 (λ K3 a2 a3=>∀ _:Env,
 bA .lss 3 a2 a0 λ a4=>cV a4 (iA 35 az a2 λ a5=>lA 34 a5 a3 λ a6=>aL 34 a3 λ t15 a7=>sA 34 t15 a6 a7 λ a8=>lA 201 put8 a8 λ a9=>fA 34 t15 0 λ ba=>lA 9 ba a8 λ bb=>
 fA 34 t15 3 λ bc=>lA 3 bc a8 λ bd=>CallV Tryz.prog a9 [bb,(i 4),bd] a8 λ _ be=>bB .add 3 a2 (i 1) λ bf=>K3 bf be) (lA 121 is5 (drew a3) λ bg=>lA 3 at6 (drew a3) λ bh=>
 lA 4 twice7 (drew a3) λ bi=>takeAll (D::[]) (drew a3) λ bj=>K (.tuple #[bg,bh,bi]) bj)) (λ K3=>K3 (i 0) ak))) (λ K2=>K2 (i 0) af)) (λ D bk=>takeAll (D::[]) bk λ bl=>
 K (.tuple #[(Go.Value.map none),(i 0),ff]) bl) (λ _ _ _=>False))
def P62:Plans:=λ i=>match i with
 | 22=>.run 0 6
 | _=>.nil
theorem S62_ok (p0:Value) (h:S62 w K p0):CR 62 [p0] w K:=
 okG 65 P62 28 [.tmp 2,.tmp 3,.tmp 4] Tryz.func62 h
def S114 (name0 what1 place2 a b c:Value):Prop:=
 Join0 (λ K1=>Join1 (λ K2=>lA 121 a w λ d=>Qop Tryz.prog (Instr.lookup 121 d name0 false) w λ e=>bB .neq 3 e (i 0) λ f=>cV f (lA 4 b w λ g=>Pop Tryz.prog (Op.unary .not g) λ h=>
 K2 h w) (K2 ff w)) (λ j k=>∀ _:Env,
 cV j (sA 3 c place2 k λ l=>sA 4 b tt l λ n=>K1 n) (K1 k))) (λ o=>∀ _:Env,
 lA 121 a o λ p=>Uop Tryz.prog (Instr.mapUpdate 121 p name0 what1) o λ q=>K (.tuple #[]) q)
theorem S114_ok (name0 what1 place2 x3 x4 x5:Value) (h:S114 w K name0 what1 place2 x3 x4 x5):CR 114 [name0,what1,place2,x3,x4,x5] w K:=
 okG 21 (λ _=>.nil) 0 [] Tryz.func114 h
theorem pl62:PL 62:=plE Tryz.func62
theorem pl114:PL 114:=plE Tryz.func114
end Go.Proofs.YtfkgkbhbdffckaaGreatDoor
namespace Go.Fw
open Go.MapKept (Stamped IsKey)
open Go.ChangeMaps (setBlock)
def updS (l:List SI) (k:ByteArray) (v:Int):List SI:=if l.any (λ p=>decide (p.1=k)) then l.map (λ p=>if p.1=k then (k,v) else p) else l++[(k,v)]
theorem lookS_app:∀ (l:List SI) (k k':ByteArray) (v:Int),(∀ p∈l,p.1≠k)->lookS (l++[(k,v)]) k'=if k=k' then v else lookS l k'
 | [],k,k',v,_=>rfl
 | p::r,k,k',v,h=>by
  have ih:=lookS_app r k k' v (λ q hq=>h q (List.mem_cons_of_mem _ hq))
  have hp:=h p (List.mem_cons_self ..)
  show (if p.1=k' then p.2 else lookS (r++[(k,v)]) k')=_
  rw [ih]
  show _=if k=k' then v else (if p.1=k' then p.2 else lookS r k')
  by_cases h1:p.1=k'
  ·rw [if_pos h1,if_pos h1,if_neg (λ e=>hp (h1.trans e.symm))]
  ·rw [if_neg h1,if_neg h1]
theorem lookS_map:∀ (l:List SI) (k k':ByteArray) (v:Int),l.any (λ p=>decide (p.1=k))=true->lookS (l.map (λ p=>if p.1=k then (k,v) else p)) k'=if k=k' then v else lookS l k'
 | [],_,_,_,h=>by simp at h
 | p::r,k,k',v,h=>by
  rw [List.map_cons]
  by_cases h1:p.1=k
  ·rw [if_pos h1]
   show (if k=k' then v else lookS (r.map _) k')=if k=k' then v else (if p.1=k' then p.2 else lookS r k')
   by_cases h2:k=k'
   ·rw [if_pos h2,if_pos h2]
   ·rw [if_neg h2,if_neg h2,if_neg (λ e=>h2 (h1.symm.trans e))]
    by_cases h3:r.any (λ p=>decide (p.1=k))=true
    ·rw [lookS_map r k k' v h3,if_neg h2]
    ·congr 1
     have:∀ q∈r,q.1≠k:=λ q hq e=>h3 (List.any_eq_true.2 ⟨q,hq,decide_eq_true e⟩)
     conv=>rhs; rw [<- List.map_id r]
     exact List.map_congr_left λ q hq=>if_neg (this q hq)
  ·rw [if_neg h1]
   have h3:r.any (λ p=>decide (p.1=k))=true:=by
    rw [List.any_cons,decide_eq_false h1,Bool.false_or] at h; exact h
   show (if p.1=k' then p.2 else lookS (r.map _) k')=if k=k' then v else (if p.1=k' then p.2 else lookS r k')
   rw [lookS_map r k k' v h3]
   by_cases h2:p.1=k'
   ·rw [if_pos h2,if_pos h2,if_neg (λ e=>h1 (h2.trans e.symm))]
   ·rw [if_neg h2,if_neg h2]
theorem lookS_upd (l:List SI) (k k':ByteArray) (v:Int):lookS (updS l k v) k'=if k=k' then v else lookS l k':=by
 unfold updS
 by_cases h:l.any (λ p=>decide (p.1=k))=true
 ·rw [if_pos h,lookS_map l k k' v h]
 rw [if_neg h,lookS_app l k k' v λ p hp e=>h (List.any_eq_true.2 ⟨p,hp,decide_eq_true e⟩)]
theorem updS_nz {l:List SI} {k:ByteArray} {v:Int} (h:∀ p∈l,p.2≠0) (hv:v≠0):∀ p∈updS l k v,p.2≠0:=by
 intro p hp
 unfold updS at hp
 split at hp
 ·obtain ⟨q,hq,rfl⟩:=List.mem_map.1 hp
  split
  ·exact hv
  exact h q hq
 rcases List.mem_append.1 hp with hp | hp
 ·exact h p hp
 rw [List.mem_singleton.1 hp]; exact hv
section
variable {P:Program} {w w0 w':World} {A:Nat->Prop} {L:List HP} {b:Nat} {l:List SI}
theorem run_setS {T Kt E:TypeId} {v:Int} {k:ByteArray} (h:MapP w b l) (ht:P.underlying T=some (.map Kt E)) (hk:P.underlying Kt=some .string) :
  ∃ w',(Instr.mapUpdate T (.map (some b)) (.string k) (.int .i64 v)).run P w = .ok () w'/\Chg (· = b) w w'/\MapP w' b (updS l k v):=by
 by_cases hno:∀ p∈l,p.1≠k
 ·have:l.any (λ p=>decide (p.1=k))=false:=by
   rw [List.any_eq_false]; intro p hp; simpa using hno p hp
  unfold updS
  rw [if_neg (by rw [this]; decide)]
  exact run_putS h ht hk hno
 have hany:l.any (λ p=>decide (p.1=k))=true:=by
  cases ha:l.any (λ p=>decide (p.1=k)) with
  | true=>rfl
  | false=>rw [List.any_eq_false] at ha; exact absurd (λ p hp=>by simpa using ha p hp) hno
 unfold updS
 rw [if_pos hany]
 have hlt:=h.lt
 obtain ⟨es,c,h1,h2,h3⟩:=h
 have hc:=MapKept.run_checkKey (P:=P) (w:=w) (kt:=Kt) (k:=.string k) hk (by simp [IsKey]) false 9999
 rcases MapKept.findNow_spec (d:=.string) (k:=.string k) (by simp [IsKey]) es.toList 0 (λ x hx=>by obtain ⟨p,_,e,_⟩:=entS h3 hx; rw [e]; simp [IsKey]) with ⟨g1,g2⟩ | ⟨j,e,g1,g2,g4⟩
 ·obtain ⟨p,hp,he⟩:=List.any_eq_true.1 hany
  obtain ⟨x,hx,e1,_⟩:=entS' h3 hp
  exact absurd (by rw [e1,of_decide_eq_true he]) (g2 x hx)
 have h8:=MapKept.run_findKey (P:=P) (w:=w) hk g1
 rw [Nat.zero_add] at h8
 have hes:es[j]? = some e:=by rw [<- Array.getElem?_toList]; exact g2
 have hst:(Instr.keyThatStays e.key (.string k)).run P w = .ok (.string k) w:=by
  have hkk:(k == k)=true:=by cases k with | mk d=>exact beq_self_eq_true d
  rw [g4]; unfold Instr.keyThatStays; simp [Instr.sameBits,hkk]
 refine ⟨_,?_,Chg.setBlock w b (.map (es.modify j λ e=>{e with key:=.string k,val:=.int .i64 v}) c),?_⟩
 ·simp [Instr.mapUpdate,run_underlying ht,MapKept.run_getObj_map h1,hc,h8,run_setMap h1,Result.andThen,hes,hst]
 have hk':∀ e',es[j]? = some e'->({e' with key:=.string k,val:=.int .i64 v}:MapEntry).key=e'.key:=λ e' he'=>by
  rw [hes] at he'; cases he'; exact g4.symm
 refine ⟨_,_,setBlock_eq _ hlt,MapKept.stamped_modify h2 j _ (λ _ _=>rfl) (λ e' _ he'=>hk' e' he'),?_⟩
 let g:Value × Value->Value × Value:=λ q=>match q.1 with | .string s=>if s=k then (.string k,.int .i64 v) else q | _=>q
 have hg:(es.modify j λ e=>{e with key:=.string k,val:=.int .i64 v}).toList.map (λ e=>(e.key,e.val))=(es.toList.map λ e=>(e.key,e.val)).map g:=by
  apply List.ext_getElem?
  intro i
  simp only [List.getElem?_map,Array.getElem?_toList,Array.getElem?_modify]
  by_cases hij:j=i
  ·subst hij; rw [hes]; simp [g,g4]
  ·rw [if_neg hij]
   cases hx:es[i]? with
   | none=>rfl
   | some x=>
    have hne:x.key≠.string k:=λ hxk=>by
     have hi:=(Array.getElem?_eq_some_iff.1 hx)
     have hj:=(Array.getElem?_eq_some_iff.1 hes)
     obtain ⟨hi1,hi2⟩:=hi
     obtain ⟨hj1,hj2⟩:=hj
     have hp:=List.pairwise_iff_getElem.1 h2.2.2
     rcases Nat.lt_or_gt_of_ne hij with hh | hh
     ·have:=hp j i (by simpa using hj1) (by simpa using hi1) hh
      exact this (by simp only [List.getElem_map,Array.getElem_toList,hi2,hj2]; exact g4.trans hxk.symm)
     ·have:=hp i j (by simpa using hi1) (by simpa using hj1) hh
      exact this (by simp only [List.getElem_map,Array.getElem_toList,hi2,hj2]; exact hxk.trans g4.symm)
    obtain ⟨p,hp,e1,_⟩:=entS h3 (List.mem_of_getElem? (by rw [Array.getElem?_toList]; exact hx))
    have hpk:¬ p.1=k:=λ e=>hne (by rw [e1,e])
    simp [g,e1,hpk]
 have hl:(l.map (λ p=>if p.1=k then (k,v) else p)).map kvE=(l.map kvE).map g:=by
  rw [List.map_map,List.map_map]
  refine List.map_congr_left λ p _=>?_
  show kvE (if p.1=k then (k,v) else p)=g (kvE p)
  by_cases hpk:p.1=k
  ·rw [if_pos hpk]; simp [g,kvE,hpk]
  ·rw [if_neg hpk]; simp [g,kvE,hpk]
 rw [hg,hl]
 exact h3.map g
theorem uop_setS {T Kt E:TypeId} {v:Int} {k:ByteArray} {K:World->Prop} (hs:St w0 A (Fw.mapP b l::L) w) (ht:P.underlying T=some (.map Kt E)) (hk:P.underlying Kt=some .string)
  (kk:∀ w',St w0 A (Fw.mapP b (updS l k v)::L) w'->K w'):Uop P (Instr.mapUpdate T (.map (some b)) (.string k) (.int .i64 v)) w K:=by
 obtain ⟨w',h1,h2,h3⟩:=run_setS (P:=P) (v:=v) (k:=k) hs.mapP ht hk
 exact ⟨w',h1,kk w' (hs.turn λ F hF=>⟨F,⟨h3,hF.2⟩,λ b hb=>.inl hb,h2.mono λ k hk=>(hF.2 k).2 hk⟩)⟩
end
end Go.Fw
namespace Go.Proofs.YtfkgkbhbdffckaaGreatDoor
open Go.Fw
def namesO (b3 b4 b5 bm:Nat) (l:List SI) (tw:Bool) (a:Int):HP:=sep (blk b3 [.map (some bm)]) (sep (blk b4 [.bool tw]) (sep (blk b5 [.int .i64 a]) (mapP bm l)))
theorem namesO.shut {w0 w:World} {A:Nat->Prop} {L:List HP} {b3 b4 b5 bm:Nat} {l:List SI} {tw:Bool} {a:Int} (hs:St w0 A (mapP bm l::blk b5 [.int .i64 a]::blk b4 [.bool tw]::blk b3 [.map (some bm)]::L) w):St w0 A (namesO b3 b4 b5 bm l tw a::L) w:=
 St.join (St.join (St.join hs.p1).p1).p1
theorem namesO.open {w0 w:World} {A:Nat->Prop} {L:List HP} {b3 b4 b5 bm:Nat} {l:List SI} {tw:Bool} {a:Int} (hs:St w0 A (namesO b3 b4 b5 bm l tw a::L) w):St w0 A (mapP bm l::blk b5 [.int .i64 a]::blk b4 [.bool tw]::blk b3 [.map (some bm)]::L) w:=
 (hs.split.p1.split.p1.split).p1
def atN (l:List SI) (name:ByteArray) (tw:Bool) (place a:Int):Int:=if lookS l name≠0/\tw=false then place else a
def twN (l:List SI) (name:ByteArray) (tw:Bool):Bool:=tw || decide (lookS l name≠0)
theorem C114 (name:ByteArray) (what place:Int) (b3 b4 b5 bm:Nat) (l:List SI) (tw:Bool) (a:Int) (F:Nat->Prop) (w:World) (hF:(namesO b3 b4 b5 bm l tw a).p w F) :
  CR 114 [.string name,.int .i64 what,.int .i64 place,.pointer (some ⟨b3,0,none⟩),.pointer (some ⟨b4,0,none⟩),.pointer (some ⟨b5,0,none⟩)] w (λ v w'=>v = .tuple #[]/\Mut F (namesO b3 b4 b5 bm (updS l name what) (twN l name tw) (atN l name tw place a)) w w'):=by
 have hs:=namesO.open (St.begin hF);refine S114_ok _ _ _ _ _ _ _ _ ?_;unfold S114;refine ⟨λ w'=>St w F [mapP bm l,blk b5 [.int .i64 (atN l name tw place a)],blk b4 [.bool (twN l name tw)],blk b3 [.map (some bm)]] w',⟨λ jv w'=>jv = .bool (decide (lookS l name≠0) && !tw)/\w'=w,qop_blk ty121 hs.p3.hb rfl (qop_lookS hs.mapP Tryz.underlying121 Tryz.underlying9 zero3 (pop_neq (cond_d (λ c=>qop_blk ty4 hs.p2.hb rfl (pop_not ⟨vb (by rw [decide_eq_true c,Bool.true_and]),rfl⟩)) (λ c=>⟨vb (by rw [decide_eq_false c,Bool.false_and]),rfl⟩)))),?_⟩,?_⟩
 ·rintro _ _ ⟨rfl,rfl⟩ _;refine cond_b (λ c=>?_) (λ c=>?_)
  ·have hc:lookS l name≠0/\tw=false:=by simpa using c
   refine uop_blk hs.p1 ty3 (leb rfl) rfl (λ _ hs=>uop_blk hs.p2 ty4 (leb rfl) rfl (λ _ hs=>?_));have e1:atN l name tw place a=place:=if_pos hc;have e2:twN l name tw=true:=by unfold twN; rw [decide_eq_true hc.1,Bool.or_true]
   rw [e1,e2];exact (hs.p1).p2
  have hc:¬ (lookS l name≠0/\tw=false):=by simpa using c
  have e1:atN l name tw place a=a:=if_neg hc
  have e2:twN l name tw=tw:=by
   unfold twN;cases tw with
   | true=>rfl
   | false=>rw [Bool.false_or]; exact decide_eq_false λ h=>hc ⟨h,rfl⟩
  rw [e1,e2];exact hs
 rintro _ hs _;exact qop_blk ty121 hs.p3.hb rfl (uop_setS hs Tryz.underlying121 Tryz.underlying9 (λ _ hs=>⟨rfl,(namesO.shut hs).mut⟩))
def nmF (st:List SI × Bool × Int) (q:ByteArray × Int × Int):List SI × Bool × Int:=(updS st.1 q.1 q.2.1,twN st.1 q.1 st.2.1,atN st.1 q.1 st.2.1 q.2.2 st.2.2)
def whatL (p:TProg) (i:Int):Int:=if (p.lines.length:Int)<=i then 2 else 1
def nmC (p:TProg):List (ByteArray × Int × Int):=(allP p).map λ q=>(q.1.name,whatL p q.2,q.1.at_)
def nmK (p:TProg):List (ByteArray × Int × Int):=p.locks.map λ c=>(c.name,3,c.at_)
def nmT (p:TProg):List (ByteArray × Int × Int):=p.threads.map λ t=>(t.name,4,t.at_)
def nmS (l:List (ByteArray × Int × Int)) (st:List SI × Bool × Int):List SI × Bool × Int:=l.foldl nmF st
def nmM (p:TProg):List SI × Bool × Int:=nmS (nmT p) (nmS (nmK p) (nmS (nmC p) ([],false,0)))
theorem nmS_succ {l:List (ByteArray × Int × Int)} {st:List SI × Bool × Int} {k:Nat} {q:ByteArray × Int × Int} (h:l[k]? = some q):nmS (l.take (k+1)) st=nmF (nmS (l.take k) st) q:=by
 unfold nmS; rw [<- take_snoc h,List.foldl_append]; rfl
abbrev NO (b3 b4 b5 bm:Nat) (st:List SI × Bool × Int):HP:=namesO b3 b4 b5 bm st.1 st.2.1 st.2.2
theorem C62 (p:TProg) (pv:TProgV) (w:World) (hp:Deep.dr w pv p) (hz:PZ p):CR 62 [Flat.val pv] w (λ v w'=>∃ bm,v = .tuple #[.map (some bm),.int .i64 (nmM p).2.2,.bool (nmM p).2.1]/\New (mapP bm (nmM p).1) w w'):=by
 have hac:=allC_len hz.toPS;have hsz:(allP p).length=(allC p).length:=allP_len p;have hzl:=hz.lines;have hzk:=hz.locks;have hzt:=hz.threads;obtain ⟨g_lines_p,g_vols_p,g_locks_p,g_threads_p,g_recover_p,g_claims_p,rfl,d_lines_p,d_vols_p,d_locks_p,d_threads_p,d_recover_p,d_claims_p⟩:=hp;obtain ⟨ts1,hR1,hD1⟩:=(d_lines_p).open;have hn1:=hD1.1;obtain ⟨ts3,hR3,hD3⟩:=(d_threads_p).open;have hn3:=hD3.1;have hKr:=DL.flat (d_locks_p);have hs:=St.start w;refine S62_ok _ _ _ ?_;unfold S62;refine eop_boxV hs (λ bp w1 hs=>eop_mapP hs (λ bm _ hs=>?_));refine eop_alloc1 hs zero121 rfl (λ b3 _ hs=>uop_blk hs ty121 (leb rfl) rfl (λ _ hs=>?_));refine eop_alloc1 hs zero3 rfl (λ b5 _ hs=>eop_alloc1 hs zero4 rfl (λ b4 _ hs=>?_))
 refine uop_blk hs ty4 (leb rfl) rfl (λ _ hs=>eop_alloc1 hs zero201 rfl (λ b8 _ hs=>?_));refine uop_blk hs ty201 (leb rfl) rfl (λ _ hs=>qop_at ty40 hs.p5.At ?_);have hs:=namesO.shut (a:=0) (tw:=false) (((hs.p3).p2).p3).p4;refine callF pl70 (C70 _ _) ?_;rintro _ _ ⟨b,rfl,hnew⟩;have hs:=hs.made hnew
 refine range_st (cap:=[.pointer (some ⟨b,0,none⟩)]) (xs:=(allP p).map λ q=>[Flat.val q.1,.int .i64 q.2]) pl133 hs
  (λ k M=>M=[blk b (Flat.enc (⟨g_lines_p,g_vols_p,g_locks_p,g_threads_p,g_recover_p,g_claims_p⟩:TProgV)),NO b3 b4 b5 bm (nmS ((nmC p).take k) ([],false,0)),blk b8 [(.func (.func 114) [].toArray [.pointer (some ⟨b3,0,none⟩),.pointer (some ⟨b4,0,none⟩),.pointer (some ⟨b5,0,none⟩)].toArray)],blk bp (Flat.enc (⟨g_lines_p,g_vols_p,g_locks_p,g_threads_p,g_recover_p,g_claims_p⟩:TProgV))]) (λ _ _=>False) rfl (by intro x hx; obtain ⟨q,_,rfl⟩:=List.mem_map.1 hx; rfl) ?_ ?_ ?_ ?_ ?_ ?_
 ·intro y J Jx W hJ hJe hJ0 hy;refine (C133 y b g_lines_p g_vols_p p J Jx w W hz.toPS d_lines_p (DL.flat d_vols_p) (λ k W hk=>?_) hJe hJ0 (λ k c i W hx hk=>hy k [Flat.val c,.int .i64 i] W (by rw [List.getElem?_map,hx]; rfl) hk)).mono λ _ _ r=>r.mono λ v W' h=>?_
  ·obtain ⟨Y,M,rfl,hS⟩:=hJ k W hk;exact ⟨hS.p1.hb.cell rfl,hS.p1.hb.cell rfl,hS.chg⟩
  simpa using h
 ·rintro k args Y1 Y2 B Kr M W hk rfl hB hN hR hs;rw [List.getElem?_map] at hk;obtain ⟨q,hq,rfl⟩:=Option.map_eq_some_iff.1 hk;have hc:(nmC p)[k]? = some (q.1.name,whatL p q.2,q.1.at_):=by unfold nmC; rw [List.getElem?_map,hq]; rfl
  dsimp only [nthV];refine eop_allocA hs zero142 (λ b9 _ hs=>uop_blkV (x:=q.1) hs ty142 rfl rfl (λ _ hs=>?_));refine hB _ _ _ hs.p1 (λ w14 hs=>?_);refine ⟨λ jv w'=>jv = .int .i64 (whatL p q.2)/\w'=w14,pop_field fld40_0 (qop_blk (v:=Flat.val g_lines_p) ty36 hs.p5.hb rfl (pop_len sl36 (hR1.ext hs.chg) (pop_geq (cond_d (λ _=>⟨congrArg (Value.int .i64) (if_pos (by omega)).symm,rfl⟩) (λ _=>⟨congrArg (Value.int .i64) (if_neg (by omega)).symm,rfl⟩))))),?_⟩;rintro _ _ ⟨rfl,rfl⟩ _;refine qop_blk ty201 hs.p4.hb rfl (pop_field fld142_0 ?_);refine qop_blk (v:=.string q.1.name) ty9 hs.p1.hb rfl (pop_field fld142_2 ?_);refine qop_blk (v:=.int .i64 q.1.at_) ty3 hs.p1.hb rfl (callMutV (first:=[]) (cap:=[.pointer (some ⟨b3,0,none⟩),.pointer (some ⟨b4,0,none⟩),.pointer (some ⟨b5,0,none⟩)]) (H':=λ _=>NO b3 b4 b5 bm (nmF (nmS ((nmC p).take k) ([],false,0)) (q.1.name,(whatL p q.2),q.1.at_))) (Φ:=λ v _=>v = .tuple #[]) pl114 hs.p3 (λ F hF _=>C114 q.1.name (whatL p q.2) q.1.at_ b3 b4 b5 bm _ _ _ F _ hF) (λ v _ _ hs=>?_))
  refine hN _ _ ?_ rfl;rw [nmS_succ hc];exact ((hs.p2.drop).p2).p2
 ·rintro D M W rfl hs;rw [List.length_map,show (nmC p).take (allP p).length=nmC p from List.take_of_length_le (by unfold nmC; rw [List.length_map]; exact Nat.le_refl _)] at hs;obtain ⟨s0,hs0⟩:∃ s,s=nmS (nmC p) ([],false,0):=⟨_,rfl⟩;rw [<- hs0] at hs;refine pop_field fld40_2 (qop_blk (v:=Flat.val g_locks_p) ty37 hs.p4.hb rfl ?_);refine pop_len sl37 (hKr.ext hs.chg) ?_;refine ⟨λ m x w1=>∃ k:Nat,x = .int .i64 (k:Int)/\m=p.locks.length - k/\k<=p.locks.length/\St w none1 [objH D (.deferred (some [])),blk b (Flat.enc (⟨g_lines_p,g_vols_p,g_locks_p,g_threads_p,g_recover_p,g_claims_p⟩:TProgV)),NO b3 b4 b5 bm (nmS ((nmK p).take k) s0),blk b8 [(.func (.func 114) [].toArray [.pointer (some ⟨b3,0,none⟩),.pointer (some ⟨b4,0,none⟩),.pointer (some ⟨b5,0,none⟩)].toArray)],blk bp (Flat.enc (⟨g_lines_p,g_vols_p,g_locks_p,g_threads_p,g_recover_p,g_claims_p⟩:TProgV))] w1,⟨_,0,rfl,rfl,Nat.zero_le _,(by rw [show nmS ((nmK p).take 0) s0=s0 from rfl]; exact hs)⟩,?_⟩
  rintro m _ _ ⟨k,rfl,rfl,hk,hs⟩ _;refine pop_lss (cond_d (λ c=>?_) (λ c=>?_))
  ·obtain ⟨x,hx⟩:∃ x,p.locks[((k:Nat):Int).toNat]? = some x:=⟨_,List.getElem?_eq_getElem (by omega)⟩;have hx':p.locks[k]? = some x:=hx;have hc:(nmK p)[k]? = some (x.name,3,x.at_):=by unfold nmK; rw [List.getElem?_map,hx']; rfl
   refine pop_idx sl37 hKr (by omega) hx (λ q hq=>qop_at ty142 (hq.ext hs.chg) ?_);refine eop_allocA hs zero142 (λ b9 _ hs=>uop_blkV (x:=x) hs ty142 rfl rfl (λ _ hs=>?_));refine qop_blk ty201 hs.p4.hb rfl (pop_field fld142_0 ?_);refine qop_blk (v:=.string x.name) ty9 hs.hb rfl (pop_field fld142_2 ?_);refine qop_blk (v:=.int .i64 x.at_) ty3 hs.hb rfl (callMutV (first:=[]) (cap:=[.pointer (some ⟨b3,0,none⟩),.pointer (some ⟨b4,0,none⟩),.pointer (some ⟨b5,0,none⟩)]) (H':=λ _=>NO b3 b4 b5 bm (nmF (nmS ((nmK p).take k) s0) (x.name,3,x.at_))) (Φ:=λ v _=>v = .tuple #[]) pl114 hs.p3 (λ F hF _=>C114 x.name 3 x.at_ b3 b4 b5 bm _ _ _ F _ hF) (λ v _ _ hs=>?_))
   refine pop_add (by omega) ?_;refine ⟨_,by omega,k+1,rfl,rfl,by omega,?_⟩;rw [nmS_succ hc];exact ((hs.p1.drop).p2).p2
  rw [show (nmK p).take k=nmK p from List.take_of_length_le (by unfold nmK; rw [List.length_map]; omega)] at hs;obtain ⟨s1,hs1⟩:∃ s,s=nmS (nmK p) s0:=⟨_,rfl⟩;rw [<- hs1] at hs;refine pop_field fld40_3 (qop_blk (v:=Flat.val g_threads_p) ty35 hs.p4.hb rfl ?_);refine pop_len sl35 (hR3.ext hs.chg) ?_;refine ⟨λ m x w1=>∃ k:Nat,x = .int .i64 (k:Int)/\m=ts3.length - k/\k<=ts3.length/\St w none1 [objH D (.deferred (some [])),blk b (Flat.enc (⟨g_lines_p,g_vols_p,g_locks_p,g_threads_p,g_recover_p,g_claims_p⟩:TProgV)),NO b3 b4 b5 bm (nmS ((nmT p).take k) s1),blk b8 [(.func (.func 114) [].toArray [.pointer (some ⟨b3,0,none⟩),.pointer (some ⟨b4,0,none⟩),.pointer (some ⟨b5,0,none⟩)].toArray)],blk bp (Flat.enc (⟨g_lines_p,g_vols_p,g_locks_p,g_threads_p,g_recover_p,g_claims_p⟩:TProgV))] w1,⟨_,0,rfl,rfl,Nat.zero_le _,(by rw [show nmS ((nmT p).take 0) s1=s1 from rfl]; exact hs)⟩,?_⟩
  rintro m _ _ ⟨k,rfl,rfl,hk,hs⟩ _;refine pop_lss (cond_d (λ c=>?_) (λ c=>?_))
  ·obtain ⟨t,ht⟩:∃ t,ts3[((k:Nat):Int).toNat]? = some t:=⟨_,List.getElem?_eq_getElem (by omega)⟩;obtain ⟨r,hr⟩:∃ r,p.threads[k]? = some r:=⟨_,List.getElem?_eq_getElem (by omega)⟩;obtain ⟨gr,gb,rfl,_,_⟩:=hD3.2 _ _ _ ht hr;have hc:(nmT p)[k]? = some (r.name,4,r.at_):=by unfold nmT; rw [List.getElem?_map,hr]; rfl
   refine pop_idx sl35 hR3 (by omega) ht (λ q hq=>qop_at ty34 (hq.ext hs.chg) ?_);refine eop_allocA hs zero34 (λ b9 _ hs=>uop_blkV hs ty34 rfl rfl (λ _ hs=>?_));refine qop_blk ty201 hs.p4.hb rfl (pop_field fld34_0 ?_);refine qop_blk (v:=.string r.name) ty9 hs.hb rfl (pop_field fld34_3 ?_);refine qop_blk (v:=.int .i64 r.at_) ty3 hs.hb rfl (callMutV (first:=[]) (cap:=[.pointer (some ⟨b3,0,none⟩),.pointer (some ⟨b4,0,none⟩),.pointer (some ⟨b5,0,none⟩)]) (H':=λ _=>NO b3 b4 b5 bm (nmF (nmS ((nmT p).take k) s1) (r.name,4,r.at_))) (Φ:=λ v _=>v = .tuple #[]) pl114 hs.p3 (λ F hF _=>C114 r.name 4 r.at_ b3 b4 b5 bm _ _ _ F _ hF) (λ v _ _ hs=>?_));refine pop_add (by omega) ?_
   refine ⟨_,by omega,k+1,rfl,rfl,by omega,?_⟩;rw [nmS_succ hc];exact ((hs.p1.drop).p2).p2
  rw [show (nmT p).take k=nmT p from List.take_of_length_le (by unfold nmT; rw [List.length_map]; omega),hs1,hs0] at hs;have hs:=namesO.open hs.drew.p2;refine qop_blk ty121 hs.p3.hb rfl (qop_blk ty3 hs.p1.hb rfl ?_);refine qop_blk ty4 hs.p2.hb rfl ?_;refine take1 hs.p4 (λ _ hs=>?_);exact ⟨bm,rfl,(hs.p1.drop.p1.drop.p1.drop.p1.drop.p1.drop.p1.drop).fresh⟩
 ·rintro D M W h; exact h.elim
 ·rintro id D M W h; exact h.elim
 rintro c M h; exact h.elim
theorem bld133_0_1_2 (a0:ByteArray) (a1:Int) (a2:Option Addr) (n2 c2:Nat):pr Tryz.prog (Instr.build 133 [(0,.string a0),(1,.int .i64 a1),(2,.slice a2 n2 c2)].toArray)=some (.agg [.string a0,.int .i64 a1,.slice a2 n2 c2].toArray):=by kernel_rfl
structure TNmUseV where
 name:ByteArray
 at_:Int
 may:SV
instance:Flat TNmUseV where
 agg:=true
 sz:=3
 enc e:=[.string e.name,.int .i64 e.at_,.slice e.may.a e.may.n e.may.cap]
 val e:=.agg [.string e.name,.int .i64 e.at_,.slice e.may.a e.may.n e.may.cap].toArray
 pos:=by decide
 len _:=rfl
 one a v h:=by simp at h; rcases h with rfl | rfl | rfl <;> rfl
 vagg _ _:=rfl
 vone h:=by cases h
variable (w:World) (K:Value->World->Prop)
def S131 (l0 may1 yield2:Value):Prop:=
 lN 22 l0 λ a=>Loop1 (λ K1 b c=>∀ _:Env,
 bA .lss 3 b a λ d=>cV d (iA 22 l0 b λ e=>lA 26 e c λ f=>aL 26 c λ g h=>sA 26 g f h λ j=>Join1 (λ K2=>fA 26 g 0 λ k=>lA 3 k j λ l=>bB .eql 3 l (i 2) λ n=>
 cV n (fA 26 g 2 λ o=>lA 9 o j λ p=>fA 26 g 3 λ q=>lA 3 q j λ r=>bS 45 1 [(0,may1)] j λ s t=>Pop Tryz.prog (Instr.build 133 [(0,p),(1,r),(2,s)].toArray) λ u=>
 CallV Tryz.prog yield2 [u] t λ v x=>Pop Tryz.prog (Op.unary .not v) λ y=>K2 y x) (K2 ff j)) (λ z aa=>∀ _:Env,
 cV z (K ff aa) (bB .add 3 b (i 1) λ ab=>K1 ab aa))) (K tt c)) (λ K1=>K1 (i 0) w)
theorem S131_ok (l0 may1 yield2:Value) (h:S131 w K l0 may1 yield2):CR 131 [l0,may1,yield2] w K:=
 okG 31 (λ _=>.nil) 64 [.tmp 6] Tryz.func131 h
def S68 (l0:Value):Prop:=
 Eop Tryz.prog (Instr.box 27 l0) w λ l1 a=>K (.func (Go.Fn.func 130) [].toArray [l1].toArray) a
theorem S68_ok (l0:Value) (h:S68 w K l0):CR 68 [l0] w K:=
 okG 4 (λ _=>.nil) 4 [.tmp 2] Tryz.func68 h
def S130 (yield0 a:Value):Prop:=
 lA 27 a w λ b=>lN 27 b λ c=>Loop1 (λ K1 d e=>∀ _:Env,
 bA .lss 3 d c λ f=>cV f (iA 27 b d λ g=>lA 24 g e λ h=>aL 24 e λ j k=>sA 24 j h k λ l=>Join1 (λ K2=>fA 24 j 1 λ n=>lA 9 n l λ o=>Pop Tryz.prog (binS .neq 9 false true o (Go.Value.string (ByteArray.mk (#[])))) λ p=>
 cV p (fA 24 j 1 λ q=>lA 9 q l λ r=>fA 24 j 8 λ s=>lA 3 s l λ t=>bS 45 1 [(0,(i 5))] l λ u v=>Pop Tryz.prog (Instr.build 133 [(0,r),(1,t),(2,u)].toArray) λ x=>
 CallV Tryz.prog yield0 [x] v λ y z=>Pop Tryz.prog (Op.unary .not y) λ aa=>K2 aa z) (K2 ff l)) (λ ab ac=>∀ _:Env,
 cV ab (K (.tuple #[]) ac) (bS 45 2 [(0,(i 1)),(1,(i 2))] ac λ ad ae=>Join1 (λ K3=>fA 24 j 0 λ af=>lA 3 af ae λ ag=>Join1 (λ K4=>bB .eql 3 ag (i 5) λ ah=>cV ah (
 K4 ah ae) (bB .eql 3 ag (i 6) λ ai=>K4 ai ae)) (λ aj ak=>∀ _:Env,
 cV aj (bS 45 1 [(0,(i 1))] ak λ al am=>K3 al am) (Join1 (λ K5=>bB .eql 3 ag (i 9) λ an=>cV an (K5 an ak) (bB .eql 3 ag (i 10) λ ao=>K5 ao ak)) (λ ap aq=>∀ _:Env,
 cV ap (bS 45 1 [(0,(i 3))] aq λ ar asx=>K3 ar asx) (K3 ad aq))))) (λ may5 au=>∀ _:Env,
 Join1 (λ K6=>fA 24 j 2 λ av=>lA 9 av au λ aw=>Pop Tryz.prog (binS .neq 9 false true aw (Go.Value.string (ByteArray.mk (#[])))) λ ax=>cV ax (fA 24 j 2 λ ay=>lA 9 ay au λ az=>
 fA 24 j 8 λ a0=>lA 3 a0 au λ a1=>Pop Tryz.prog (Instr.build 133 [(0,az),(1,a1),(2,may5)].toArray) λ a2=>CallV Tryz.prog yield0 [a2] au λ a3 a4=>Pop Tryz.prog (Op.unary .not a3) λ a5=>
 K6 a5 a4) (K6 ff au)) (λ a6 a7=>∀ _:Env,
 cV a6 (K (.tuple #[]) a7) (Join1 (λ K7=>fA 24 j 3 λ a8=>lA 22 a8 a7 λ a9=>cF 131 [a9,(i 5),yield0] a7 λ ba bb=>Pop Tryz.prog (Op.unary .not ba) λ bc=>cV bc (K7 tt bb) (
 fA 24 j 4 λ bd=>lA 22 bd bb λ be=>cF 131 [be,(i 5),yield0] bb λ bf bg=>Pop Tryz.prog (Op.unary .not bf) λ bh=>K7 bh bg)) (λ bi bj=>∀ _:Env,
 cV bi (K (.tuple #[]) bj) (bB .add 3 d (i 1) λ bk=>K1 bk bj)))))))) (K (.tuple #[]) e)) (λ K1=>K1 (i 0) w)
theorem S130_ok (yield0 x1:Value) (h:S130 w K yield0 x1):CR 130 [yield0,x1] w K:=
 okG 64 (λ _=>.nil) 0 [] Tryz.func130 h
theorem pl131:PL 131:=plE Tryz.func131
theorem pl68:PL 68:=plE Tryz.func68
theorem pl130:PL 130:=plE Tryz.func130
end Go.Proofs.YtfkgkbhbdffckaaGreatDoor
namespace Go.Fw
def dsB:List Nat->HP
 | []=>frz λ _=>True
 | D::r=>sep (objH D (.deferred (some []))) (dsB r)
def YldF (P:Program) (w0:World) (A:Nat->Prop) (I:Nat->List HP->Prop) (Jx:World->Prop) (y:Value) (Ar:Nat->List Value->(World->Prop)->Prop):Prop:=
 ∀ k args Φ W (R:HP) L,Ar k args Φ->(∀ F W',R.p W' F->Φ W')->I k L->St w0 A (R::L) W->CallV P y args W (λ v W'=>(v = .bool true/\∃ L',I (k+1) L'/\St w0 A (R::L') W')\/(v = .bool false/\Jx W'))
section
variable {P:Program} {w w0 w':World} {A:Nat->Prop} {L:List HP}
theorem dsB.nil (hs:St w0 A L w):St w0 A (dsB []::L) w:=hs.frzNil λ _=>trivial
theorem dsB.take {K:World->Prop}:∀ (ds:List Nat) {w:World},St w0 A (dsB ds::L) w->(∀ w',St w0 A L w'->K w')->takeAll ds w K
 | [],_,hs,k=>k _ hs.drop
 | D::r,_,hs,k=>by
  have h1:=hs.split
  exact ⟨h1.obj,dsB.take r (h1.putObj _).drop k⟩
theorem range_fr {gf np:Nat} {cap:List Value} (n:Nat) (Ar:Nat->List Value->(World->Prop)->Prop) {round:List Value->World->(World->(World->Prop)->Prop)->(Option Code->World->Prop)->Prop}
  {N R:Nat->World->Prop} {X:Nat->Nat->World->Prop} (pl:Plain P gf) (hs:St w0 A L w) (I:Nat->List HP->Prop) (Ix:Code->List HP->Prop) (h0:I 0 L) (hnp:∀ k a Φ,Ar k a Φ->a.length=np)
  (hgf:∀ (y:Value) (Y:HP) (Jx:World->Prop) (W:World),(∃ M,I 0 M/\St w0 A (Y::M) W)->YldF P w0 A (λ k L=>∃ M,I k M/\L=Y::M) Jx y Ar->
   Calls P gf ([y]++cap).toArray W (Ret λ _ W'=>(∃ M,I n M/\St w0 A (Y::M) W')\/Jx W'))
  (hround:∀ k args Φ (Y1 Y2:HP) (B:World->(World->Prop)->Prop) (Kr:Option Code->World->Prop) M W,Ar k args Φ->I k M->(∀ F W',Y2.p W' F->Φ W')->
   (∀ M w1 (kk:World->Prop),St w0 A (Y1::M) w1->(∀ w2,St w0 A (Y2::M) w2->kk w2)->B w1 kk)->
   (∀ M w1,St w0 A (Y2::M) w1->I (k+1) M->Kr none w1)->(∀ c M w1,St w0 A (Y2::M) w1->Ix c M->Kr (some c) w1)->
   St w0 A (Y1::M) W->round args W B Kr)
  (hdone:∀ D M W,I n M->St w0 A (objH D (.deferred (some []))::M) W->N D W)
  (hret:∀ D M W,Ix .ret M->St w0 A (objH D (.deferred (some []))::M) W->R D W)
  (hexit:∀ id D M W,Ix (.exit id) M->St w0 A (objH D (.deferred (some []))::M) W->X id D W)
  (hother:∀ c M,Ix c M->(∃ id,c = .exit id)\/c = .ret) :
  RangeFn P (.func (.func gf) #[] cap.toArray) np w round (aft N R X):=by
 refine ⟨gf,cap.toArray,rfl,pl,λ L0 hst hpe hy=>?_⟩
 obtain ⟨l,hl⟩:∃ l,l=w.heap.size+1:=⟨_,rfl⟩
 obtain ⟨D,hD⟩:∃ D,D=w.heap.size:=⟨_,rfl⟩
 rw [<- hl] at hy |-
 rw [<- hD]
 let Y:HP:=sep (objH l (.loop L0)) (objH D (.deferred (some [])))
 let Jx:World->Prop:=λ W=>∃ c M,Ix c M/\St w0 A (objH l (.loop {L0 with state:=.done,pending:=some c})::objH D (.deferred (some []))::M) W
 have hJ0:∃ M,I 0 M/\St w0 A (Y::M) ((w.alloc (.deferred (some []))).alloc (.loop L0)):=by
  refine ⟨L,h0,?_⟩
  have h1:=(hs.alloc (o:=.deferred (some []))).alloc (o:=.loop L0)
  rw [show (w.alloc (.deferred (some []))).heap.size=l from by rw [hl]; exact push_size w _,<- hD] at h1
  exact St.join h1
 have:=hgf (.func (.yield l) #[] #[]) Y Jx _ hJ0 ?_
 ·have e:([Value.func (.yield l) #[] #[]]++cap).toArray = #[.func (.yield l) #[] #[]]++cap.toArray:=by simp
  rw [e] at this
  refine this.mono λ x W' ⟨v,hx,hv⟩=>⟨v,hx,?_⟩
  rcases hv with ⟨M,hI,hS⟩ | ⟨c,M,hI,hS⟩
  ·have hS:=hS.split
   refine ⟨.ready,none,by simp,?_,?_⟩
   ·rw [<- hst,<- hpe]; exact hS.obj
   exact hdone D M _ hI (hS.putObj _).drop
  refine ⟨.done,some c,by simp,hS.obj,?_⟩
  rcases hother c M hI with ⟨id,rfl⟩ | rfl
  ·exact hexit id D M _ hI (hS.putObj _).drop
  exact hret D M _ hI (hS.putObj _).drop
 rintro k args Φ W R _ hk hR ⟨M,hI,rfl⟩ hS
 have hS1:=(hS.p1).split
 refine ⟨.inr ⟨l,rfl,?_⟩⟩
 refine hy args W _ (hnp k args Φ hk) hS1.obj ?_
 refine hround k args Φ (sep (sep (objH l (.loop L0)) (objH D (.deferred (some [])))) R) (sep (sep (objH l (.loop {L0 with state:=.busy})) (objH D (.deferred (some [])))) R) _ _ M W hk hI (λ F W2 ⟨_,F2,_,h2,_⟩=>hR F2 W2 h2)
  (λ M w1 kk h1 h2=>?_) (λ M w1 h1 h2=>?_) (λ c M w1 h1 h2=>?_) (St.join (St.join hS1))
 ·have h1:=h1.split.split
  exact ⟨h1.obj,h2 _ (h1.putObj _).join.join⟩
 ·have h1:=h1.split.split
  refine ⟨h1.obj,.inl ⟨rfl,_,⟨M,h2,rfl⟩,?_⟩⟩
  have:=h1.putObj (.loop {L0 with state:=if (none:Option Code).isNone=true then LoopState.ready else LoopState.done,pending:=none})
  rw [loop_ready L0 hst hpe] at this |-
  exact (St.join this).p1
 have h1:=h1.split.split
 refine ⟨h1.obj,.inr ⟨rfl,c,M,h2,?_⟩⟩
 exact (h1.putObj _).p2.drop
end
end Go.Fw
namespace Go.Proofs.YtfkgkbhbdffckaaGreatDoor
open Go.Fw
abbrev UU:=ByteArray × Int × List Int
def varU (xs:List TNode):List TNode:=xs.filter λ x=>decide (x.op=2)
theorem varU_succ {xs:List TNode} {k:Nat} {x:TNode} (h:xs[k]? = some x):varU (xs.take (k+1))=varU (xs.take k)++(if x.op=2 then [x] else []):=by
 unfold varU; rw [<- take_snoc h,List.filter_append]; congr 1
 by_cases hx:x.op=2
 ·rw [if_pos hx]; simp [hx]
 rw [if_neg hx]; simp [hx]
theorem varU_at {xs:List TNode} {k:Nat} {x:TNode} (h:xs[k]? = some x) (hx:x.op=2):(varU xs)[(varU (xs.take k)).length]? = some x:=by
 have h1:=drop_cons h
 have e:varU xs=varU (xs.take k)++varU (xs.drop k):=by unfold varU; rw [<- List.filter_append,List.take_append_drop]
 rw [e,List.getElem?_append_right (Nat.le_refl _),Nat.sub_self,h1]
 simp [varU,hx]
def useA1 (l:List UU) (k:Nat) (args:List Value) (Φ:World->Prop):Prop:=∃ u s,l[k]? = some u/\args=[Flat.val (⟨u.1,u.2.1,s⟩:TNmUseV)]/\∀ W,Φ W->RdL (λ _=>True) W (Flat.val s) u.2.2
theorem sepL {H H':HP} {Φ:World->Prop} (h:∀ F W,H.p W F->Φ W):∀ F W,(sep H H').p W F->Φ W:=λ _ _ ⟨_,_,h1,_⟩=>h _ _ h1
theorem own_rdF {α:Type} [Flat α] {v:Value} {xs:List α}:∀ F W,(ownL v xs).p W F->RdL (λ _=>True) W v xs:=λ _ _ h=>(ownL.rd h).mono λ _ _=>trivial
theorem C131 (lv y:Value) (xs:List TNode) (may:Int) (ul:List UU) (j0:Nat) (w0:World) (A:Nat->Prop) (I:Nat->List HP->Prop) (Jx:World->Prop) (w:World) (hn:xs.length<=1048576)
  (hE:∀ k L W,I k L->St w0 A L W->RdL (λ _=>True) W lv xs) (h0:∃ L,I j0 L/\St w0 A L w) (hu:∀ (j:Nat) (x:TNode),(varU xs)[j]? = some x->ul[j0+j]? = some (x.name,x.at_,[may])) (hy:YldF Tryz.prog w0 A I Jx y (useA1 ul)) :
  CR 131 [lv,.int .i64 may,y] w (λ v W=>(v = .bool true/\∃ L,I (j0+(varU xs).length) L/\St w0 A L W)\/(v = .bool false/\Jx W)):=by
 refine S131_ok _ _ _ _ _ ?_;unfold S131;obtain ⟨L0,hI0,hS0⟩:=h0;refine pop_len sl22 (hE _ _ _ hI0 hS0) ?_;refine ⟨λ m x w1=>∃ k:Nat,x = .int .i64 (k:Int)/\m=xs.length - k/\k<=xs.length/\∃ L,I (j0+(varU (xs.take k)).length) L/\St w0 A L w1,⟨_,0,rfl,rfl,Nat.zero_le _,L0,hI0,hS0⟩,?_⟩;rintro m _ w1 ⟨k,rfl,rfl,hk,L1,hI,hs⟩ _;refine pop_lss (cond_d (λ c=>?_) (λ c=>?_))
 ·obtain ⟨x,hx⟩:∃ x,xs[((k:Nat):Int).toNat]? = some x:=⟨_,List.getElem?_eq_getElem (by omega)⟩;refine pop_idx sl22 (hE _ _ _ hI hs) (by omega) hx (λ q hq=>qop_at ty26 hq (eop_allocA hs zero26 (λ b8 _ hs=>uop_blkV (x:=x) hs ty26 rfl rfl (λ _ hs=>⟨λ jv w'=>(jv = .bool false/\∃ L,I (j0+(varU (xs.take (k+1))).length) L/\St w0 A L w')\/(jv = .bool true/\Jx w'),pop_field fld26_0 (qop_blk (v:=.int .i64 x.op) ty3 hs.hb rfl (pop_eql (cond_d (λ c2=>?_) (λ c2=>?_)))),?_⟩))))
  ·refine pop_field fld26_2 (qop_blk (v:=.string x.name) ty9 hs.hb rfl ?_);refine pop_field fld26_3 (qop_blk (v:=.int .i64 x.at_) ty3 hs.hb rfl ?_);refine eop_build (([may]:List Int)) hs.drop sl45 rfl rfl (leb rfl) (λ s25 w4 hs=>?_);obtain ⟨sv,rfl⟩:=(hs).rd'.isSV;refine pop (bld133_0_1_2 x.name x.at_ sv.a sv.n sv.cap) ?_;refine CallV.mono (hy _ _ _ w4 _ _ ⟨_,sv,hu _ x (varU_at hx c2),rfl,λ _ h=>h⟩ own_rdF hI hs) ?_;rintro v w5 (⟨rfl,L2,hI2,hs2⟩ | ⟨rfl,hx2⟩)
   ·exact pop_not (.inl ⟨rfl,L2,by rw [varU_succ (k:=k) hx,if_pos c2,List.length_append]; exact hI2,hs2.drop⟩)
   exact pop_not (.inr ⟨rfl,hx2⟩)
  ·refine .inl ⟨rfl,L1,?_,hs.drop⟩;rw [varU_succ (k:=k) hx,if_neg c2,List.append_nil];exact hI
  rintro _ w6 (⟨rfl,L2,hI2,hs⟩ | ⟨rfl,hx2⟩) _
  ·exact cond_f (pop_add (by omega) ⟨_,by omega,k+1,rfl,rfl,by omega,L2,hI2,hs⟩)
  exact cond_t (.inr ⟨rfl,hx2⟩)
 rw [List.take_of_length_le (by omega)] at hI;exact .inl ⟨rfl,L1,hI,hs⟩
def mayX (k:Int):List Int:=if k=5\/k=6 then [1] else if k=9\/k=10 then [3] else [1,2]
def useV (l:List TNode):List UU:=(varU l).map λ y=>(y.name,y.at_,[5])
def useX (x:TStmt):List UU:=(if x.reg=⟨#[]⟩ then [] else [(x.reg,x.at_,[5])])++((if x.name=⟨#[]⟩ then [] else [(x.name,x.at_,mayX x.kind)])++(useV x.e++useV x.f))
def useL (xs:List TStmt):List UU:=xs.flatMap useX
theorem useL_succ {xs:List TStmt} {k:Nat} {x:TStmt} (h:xs[k]? = some x):useL (xs.take (k+1))=useL (xs.take k)++useX x:=by
 unfold useL; rw [<- take_snoc h,List.flatMap_append]; simp
theorem useL_at {xs:List TStmt} {k i:Nat} {x:TStmt} {u:UU} (h:xs[k]? = some x) (hi:(useX x)[i]? = some u):(useL xs)[(useL (xs.take k)).length+i]? = some u:=by
 have e:useL xs=useL (xs.take k)++(useX x++useL (xs.drop (k+1))):=by
  rw [<- List.append_assoc,<- useL_succ h]; unfold useL; rw [<- List.flatMap_append,List.take_append_drop]
 rw [e,List.getElem?_append_right (by omega),Nat.add_sub_cancel_left,List.getElem?_append_left (List.getElem?_eq_some_iff.1 hi).1,hi]
theorem useV_at {l:List TNode} {j:Nat} {y:TNode} (h:(varU l)[j]? = some y):(useV l)[j]? = some (y.name,y.at_,[5]):=by unfold useV; rw [List.getElem?_map,h]; rfl
def useA (x:TStmt):List UU:=if x.reg=⟨#[]⟩ then [] else [(x.reg,x.at_,[5])]
def useB (x:TStmt):List UU:=if x.name=⟨#[]⟩ then [] else [(x.name,x.at_,mayX x.kind)]
theorem useX_e (x:TStmt):useX x=useA x++(useB x++(useV x.e++useV x.f)):=rfl
theorem useA_1 {x:TStmt} (h:¬ x.reg=⟨#[]⟩):(useA x).length=1:=by unfold useA; rw [if_neg h]; rfl
theorem useA_0 {x:TStmt} (h:x.reg=⟨#[]⟩):(useA x).length=0:=by unfold useA; rw [if_pos h]; rfl
theorem useB_1 {x:TStmt} {n:Nat} (h:¬ x.name=⟨#[]⟩):(n+(useB x).length)=n+1:=by unfold useB; rw [if_neg h]; rfl
theorem useB_0 {x:TStmt} {n:Nat} (h:x.name=⟨#[]⟩):(n+(useB x).length)=n:=by unfold useB; rw [if_pos h]; rfl
theorem useX_at0 {x:TStmt} (h:¬ x.reg=⟨#[]⟩):(useX x)[0]? = some (x.reg,x.at_,[5]):=by unfold useX; rw [if_neg h]; rfl
theorem useX_at1 {x:TStmt} (h:¬ x.name=⟨#[]⟩):(useX x)[(useA x).length]? = some (x.name,x.at_,mayX x.kind):=by
 rw [useX_e,List.getElem?_append_right (Nat.le_refl _),Nat.sub_self]; unfold useB; rw [if_neg h]; rfl
theorem useX_atE {x:TStmt} {j:Nat} {y:TNode} (h:(varU x.e)[j]? = some y):(useX x)[(useA x).length+(useB x).length+j]? = some (y.name,y.at_,[5]):=by
 have h1:=useV_at h
 rw [useX_e,List.getElem?_append_right (by omega),show (useA x).length+(useB x).length+j - (useA x).length=(useB x).length+j from by omega,List.getElem?_append_right (by omega),Nat.add_sub_cancel_left,List.getElem?_append_left (List.getElem?_eq_some_iff.1 h1).1,h1]
theorem useX_atF {x:TStmt} {j:Nat} {y:TNode} (h:(varU x.f)[j]? = some y):(useX x)[(useA x).length+(useB x).length+(varU x.e).length+j]? = some (y.name,y.at_,[5]):=by
 have h1:=useV_at h
 have h2:(useV x.e).length=(varU x.e).length:=by unfold useV; rw [List.length_map]
 rw [useX_e,List.getElem?_append_right (by omega),show (useA x).length+(useB x).length+(varU x.e).length+j - (useA x).length=(useB x).length+((useV x.e).length+j) from by omega,List.getElem?_append_right (by omega),Nat.add_sub_cancel_left,List.getElem?_append_right (by omega),Nat.add_sub_cancel_left,h1]
theorem useX_len (x:TStmt):(useX x).length=(useA x).length+(useB x).length+(varU x.e).length+(varU x.f).length:=by
 rw [useX_e]; unfold useV; simp only [List.length_append,List.length_map]; omega
theorem C130 (y:Value) (b:Nat) (lv:Value) (ts:List TStmtV) (xs:List TStmt) (w0:World) (A:Nat->Prop) (I:Nat->List HP->Prop) (Jx:World->Prop) (w:World) (hn:xs.length<=1048576) (hz:∀ x∈xs,x.e.length<=1048576/\x.f.length<=1048576)
  (hE:∀ k L W,I k L->St w0 A L W->Cell W b 0 lv/\RdL (λ _=>True) W lv ts/\drs ts xs W) (h0:∃ L,I 0 L/\St w0 A L w) (hy:YldF Tryz.prog w0 A I Jx y (useA1 (useL xs))) :
  CR 130 [y,.pointer (some ⟨b,0,none⟩)] w (λ _ W=>(∃ L,I (useL xs).length L/\St w0 A L W)\/Jx W):=by
 have hyF:∀ b4 (cs:List Value),YldF Tryz.prog w0 A (λ j L=>∃ M,I j M/\L=blk b4 cs::M) Jx y (useA1 (useL xs)):=by
  rintro b4 cs k args Φ W R _ h1 h2 ⟨M,h3,rfl⟩ h4;refine CallV.mono (hy k args Φ W _ M h1 (sepL h2) h3 (St.join h4)) ?_;rintro v W' (⟨rfl,L',h5,h6⟩ | h5)
  ·exact .inl ⟨rfl,_,⟨L',h5,rfl⟩,h6.split⟩
  ·exact .inr h5
 refine S130_ok _ _ _ _ ?_;unfold S130;obtain ⟨M0,hI0,hS0⟩:=h0;obtain ⟨hc0,hr0,hd0⟩:=hE _ _ _ hI0 hS0;have hnl:=hd0.1;refine qop_cell ty27 hc0 (pop_len sl27 hr0 ?_);refine ⟨λ m x w1=>∃ k:Nat,x = .int .i64 (k:Int)/\m=ts.length - k/\k<=ts.length/\∃ L,I (useL (xs.take k)).length L/\St w0 A L w1,⟨_,0,rfl,rfl,Nat.zero_le _,M0,hI0,hS0⟩,?_⟩;rintro m _ w1 ⟨k,rfl,rfl,hk,M1,hI,hs⟩ _;refine pop_lss (cond_d (λ c=>?_) (λ c=>?_))
 ·obtain ⟨t,ht⟩:∃ t,ts[((k:Nat):Int).toNat]? = some t:=⟨_,List.getElem?_eq_getElem (by omega)⟩;obtain ⟨x,hx⟩:∃ x,xs[k]? = some x:=⟨_,List.getElem?_eq_getElem (by omega)⟩;have hxz:=hz x (List.mem_of_getElem? hx);obtain ⟨hc1,hr1,hd1⟩:=hE _ _ _ hI hs;obtain ⟨ge,gf,rfl,_,_⟩:=hd1.2 _ _ _ ht hx
  have hE1:∀ k' M W,I k' M->St w0 A M W->RdL (λ _=>True) W (Flat.val ge) x.e/\RdL (λ _=>True) W (Flat.val gf) x.f:=λ k' M W h1 h2=>by
   obtain ⟨_,_,h3⟩:=hE k' M W h1 h2;obtain ⟨_,_,h4,h5,h6⟩:=h3.2 _ _ _ ht hx;cases h4
   exact ⟨DL.flat h5,DL.flat h6⟩
  have hat:∀ {i:Nat} {u:UU},(useX x)[i]? = some u->(useL xs)[(useL (xs.take k)).length+i]? = some u:=useL_at hx;refine pop_idx sl27 hr1 (by omega) ht (λ q hq=>qop_at ty24 hq ?_);refine eop_allocA hs zero24 (λ b4 _ hs=>uop_blkV (x:=(⟨x.kind,x.reg,x.name,ge,gf,x.n,x.body,x.els,x.at_⟩:TStmtV)) hs ty24 rfl rfl (λ _ hs=>?_));refine ⟨λ jv w'=>(jv = .bool false/\∃ L,I ((useL (xs.take k)).length+(useA x).length) L/\St w0 A ((blk b4 (Flat.enc (⟨x.kind,x.reg,x.name,ge,gf,x.n,x.body,x.els,x.at_⟩:TStmtV)))::L) w')\/(jv = .bool true/\Jx w'),?_,?_⟩
  ·refine pop_field fld24_1 (qop_blk (v:=.string x.reg) ty9 hs.hb rfl (pop_strne (cond_d (λ c2=>?_) (λ c2=>.inl ⟨rfl,M1,by rw [useA_0 (by simpa using c2)]; exact hI,hs⟩))));refine pop_field fld24_1 (qop_blk (v:=.string x.reg) ty9 hs.hb rfl ?_);refine pop_field fld24_8 (qop_blk (v:=.int .i64 x.at_) ty3 hs.hb rfl ?_);refine eop_build (([5]:List Int)) hs sl45 rfl rfl (leb rfl) (λ s25 _ hs=>?_);obtain ⟨sv,rfl⟩:=(hs).rd'.isSV;refine pop (bld133_0_1_2 x.reg x.at_ sv.a sv.n sv.cap) ?_;refine CallV.mono (hyF b4 _ _ _ _ _ _ _ ⟨_,sv,hat (i:=0) (useX_at0 c2),rfl,λ _ h=>h⟩ own_rdF ⟨_,hI,rfl⟩ hs) ?_;rintro v w5 (⟨rfl,_,⟨M2,hI2,rfl⟩,hs2⟩ | ⟨rfl,hx2⟩)
   ·exact pop_not (.inl ⟨rfl,M2,by rw [useA_1 c2]; exact hI2,hs2.drop⟩)
   exact pop_not (.inr ⟨rfl,hx2⟩)
  rintro _ w6 (⟨rfl,M2,hI2,hs⟩ | ⟨rfl,hx2⟩) _;rotate_left
  ·exact cond_t (.inr hx2)
  refine cond_f (eop_build (([1,2]:List Int)) hs sl45 rfl rfl (leb rfl) (λ s26 w7 hs=>?_));refine ⟨λ jv w'=>∃ sv:SV,jv=Flat.val sv/\St w0 A (ownL (Flat.val sv) (mayX x.kind)::(blk b4 (Flat.enc (⟨x.kind,x.reg,x.name,ge,gf,x.n,x.body,x.els,x.at_⟩:TStmtV)))::M2) w',?_,?_⟩
  ·refine pop_field fld24_0 (qop_blk (v:=.int .i64 x.kind) ty3 hs.p1.hb rfl ⟨λ jv w'=>jv = .bool (decide (x.kind=5\/x.kind=6))/\w'=w7,pop_eql (cond_d (λ c3=>⟨vb (by simp [c3]),rfl⟩) (λ c3=>pop_eql ⟨vb (by simp [c3]),rfl⟩)),?_⟩);rintro _ w8 ⟨rfl,rfl⟩ _;refine cond_d (λ c3=>?_) (λ c3=>⟨λ jv w'=>jv = .bool (decide (x.kind=9\/x.kind=10))/\w'=w8,pop_eql (cond_d (λ c4=>⟨vb (by simp [c4]),rfl⟩) (λ c4=>pop_eql ⟨vb (by simp [c4]),rfl⟩)),?_⟩)
   ·refine eop_build (([1]:List Int)) hs sl45 rfl rfl (leb rfl) (λ s32 _ hs=>?_);obtain ⟨sv,rfl⟩:=(hs).rd'.isSV;exact ⟨sv,rfl,by rw [mayX,if_pos c3]; exact (hs.p1).drop⟩
   rintro _ _ ⟨rfl,rfl⟩ _;refine cond_d (λ c4=>?_) (λ c4=>?_)
   ·refine eop_build (([3]:List Int)) hs sl45 rfl rfl (leb rfl) (λ s36 _ hs=>?_);obtain ⟨sv,rfl⟩:=(hs).rd'.isSV;exact ⟨sv,rfl,by rw [mayX,if_neg c3,if_pos c4]; exact (hs.p1).drop⟩
   obtain ⟨sv,rfl⟩:=(hs).rd'.isSV;exact ⟨sv,rfl,by rw [mayX,if_neg c3,if_neg c4]; exact hs⟩
  rintro _ _ ⟨sv,rfl,hs⟩ _;refine ⟨λ jv w'=>(jv = .bool false/\∃ L,I ((useL (xs.take k)).length+((useA x).length+(useB x).length)) L/\St w0 A ((blk b4 (Flat.enc (⟨x.kind,x.reg,x.name,ge,gf,x.n,x.body,x.els,x.at_⟩:TStmtV)))::L) w')\/(jv = .bool true/\Jx w'),?_,?_⟩
  ·refine pop_field fld24_2 (qop_blk (v:=.string x.name) ty9 hs.p1.hb rfl (pop_strne (cond_d (λ c2=>?_) (λ c2=>.inl ⟨rfl,M2,by rw [useB_0 (by simpa using c2)]; exact hI2,hs.drop⟩))));refine pop_field fld24_2 (qop_blk (v:=.string x.name) ty9 hs.p1.hb rfl ?_);refine pop_field fld24_8 (qop_blk (v:=.int .i64 x.at_) ty3 hs.p1.hb rfl ?_);refine pop (bld133_0_1_2 x.name x.at_ sv.a sv.n sv.cap) ?_;refine CallV.mono (hyF b4 _ _ _ _ _ _ _ ⟨_,sv,hat (i:=(useA x).length) (useX_at1 c2),rfl,λ _ h=>h⟩ own_rdF ⟨_,hI2,rfl⟩ hs) ?_;rintro v w13 (⟨rfl,_,⟨M3,hI3,rfl⟩,hs3⟩ | ⟨rfl,hx2⟩)
   ·exact pop_not (.inl ⟨rfl,M3,by rw [useB_1 c2]; exact hI3,hs3.drop⟩)
   exact pop_not (.inr ⟨rfl,hx2⟩)
  rintro _ w14 (⟨rfl,M2,hI2,hs⟩ | ⟨rfl,hx2⟩) _;rotate_left
  ·exact cond_t (.inr hx2)
  refine cond_f ?_;refine ⟨λ jv w'=>(jv = .bool false/\∃ L,I ((useL (xs.take (k+1))).length) L/\St w0 A ((blk b4 (Flat.enc (⟨x.kind,x.reg,x.name,ge,gf,x.n,x.body,x.els,x.at_⟩:TStmtV)))::L) w')\/(jv = .bool true/\Jx w'),?_,?_⟩
  ·refine pop_field fld24_3 (qop_blk (v:=Flat.val ge) ty22 hs.hb rfl ?_);refine callF pl131 (C131 _ y x.e 5 (useL xs) ((useL (xs.take k)).length+(((useA x).length+(useB x).length))) w0 A (λ j L=>∃ M,I j M/\L=(blk b4 (Flat.enc (⟨x.kind,x.reg,x.name,ge,gf,x.n,x.body,x.els,x.at_⟩:TStmtV)))::M) Jx _ (by have:=hxz.1; omega) (λ j L W ⟨M,h1,h2⟩ h3=>(hE1 _ _ _ h1 (h2▸h3).drop).1) ⟨_,⟨_,hI2,rfl⟩,hs⟩ (λ j _ hz1=>by rw [Nat.add_assoc]; exact hat (i:=((useA x).length+(useB x).length)+j) (useX_atE hz1)) (hyF b4 _)) ?_;rintro v _ hv;rw [Nat.add_assoc] at hv
   rcases hv with ⟨rfl,_,⟨M2,hI2,rfl⟩,hs⟩ | ⟨rfl,hv⟩
   ·refine pop_not (cond_f ?_);refine pop_field fld24_4 (qop_blk (v:=Flat.val gf) ty22 hs.hb rfl ?_);refine callF pl131 (C131 _ y x.f 5 (useL xs) ((useL (xs.take k)).length+(((useA x).length+(useB x).length+(varU x.e).length))) w0 A (λ j L=>∃ M,I j M/\L=(blk b4 (Flat.enc (⟨x.kind,x.reg,x.name,ge,gf,x.n,x.body,x.els,x.at_⟩:TStmtV)))::M) Jx _ (by have:=hxz.2; omega) (λ j L W ⟨M,h1,h2⟩ h3=>(hE1 _ _ _ h1 (h2▸h3).drop).2) ⟨_,⟨_,hI2,rfl⟩,hs⟩ (λ j _ hz1=>by rw [Nat.add_assoc]; exact hat (i:=((useA x).length+(useB x).length+(varU x.e).length)+j) (useX_atF hz1)) (hyF b4 _)) ?_;rintro v _ hv;rw [Nat.add_assoc] at hv
    rcases hv with ⟨rfl,_,⟨M2,hI2,rfl⟩,hs⟩ | ⟨rfl,hv⟩
    ·exact pop_not (.inl ⟨rfl,M2,by rw [useL_succ hx,List.length_append,useX_len]; exact hI2,hs⟩)
    exact pop_not (.inr ⟨rfl,hv⟩)
   exact pop_not (cond_t (.inr ⟨rfl,hv⟩))
  rintro _ w17 (⟨rfl,M2,hI2,hs⟩ | ⟨rfl,hx2⟩) _;rotate_left
  ·exact cond_t (.inr hx2)
  exact cond_f (pop_add (by omega) ⟨_,by omega,k+1,rfl,rfl,by omega,M2,hI2,hs.drop⟩)
 rw [List.take_of_length_le (by omega)] at hI;exact .inl ⟨M1,hI,hs⟩
theorem C68 (lv:SV) (w:World):CR 68 [Flat.val lv] w (λ v w'=>∃ b,v = .func (.func 130) [].toArray [.pointer (some ⟨b,0,none⟩)].toArray/\New (blk b [Flat.val lv]) w w'):=by
 have hs:=St.start w;refine S68_ok _ _ _ ?_;unfold S68;exact eop_box1 hs rfl (λ b _ hs=>⟨b,rfl,hs.fresh⟩)
variable (w:World) (K:Value->World->Prop)
def S67 (t0 is1:Value):Prop:=
 Eop Tryz.prog (Instr.box 34 t0) w λ t2 a=>Eop Tryz.prog (Instr.makeMap 121 none) a λ b c=>Eop Tryz.prog (Instr.range 121 is1) c λ d e=>Loop0 (λ K1 f=>∀ _:Env,
 Eop Tryz.prog (Instr.next d false 0) f λ g h=>xT g 0 λ j=>cV j (Qop Tryz.prog (Instr.entry d) h λ k=>xT k 0 λ l=>xT k 1 λ n=>bB .neq 3 n (i 4) λ o=>cV o (Uop Tryz.prog (Instr.mapUpdate 121 b l n) h λ p=>
 K1 p) (K1 h)) (fA 34 t2 1 λ q=>lA 32 q h λ r=>lN 32 r λ s=>Loop1 (λ K2 t u=>∀ _:Env,
 bA .lss 3 t s λ v=>cV v (iA 32 r t λ x=>lA 9 x u λ y=>Qop Tryz.prog (Instr.lookup 121 b y false) u λ z=>bB .neq 3 z (i 0) λ aa=>cV aa (K (.tuple #[(Go.Value.map none),tt]) u) (
 Uop Tryz.prog (Instr.mapUpdate 121 b y (i 5)) u λ ab=>bB .add 3 t (i 1) λ ac=>K2 ac ab)) (K (.tuple #[b,ff]) u)) (λ K2=>K2 (i 0) h))) (λ K1=>K1 e)
theorem S67_ok (t0 is1:Value) (h:S67 w K t0 is1):CR 67 [t0,is1] w K:=
 okG 39 (λ _=>.nil) 48 [.tmp 4,.tmp 5] Tryz.func67 h
theorem pl67:PL 67:=plE Tryz.func67
end Go.Proofs.YtfkgkbhbdffckaaGreatDoor
namespace Go.Proofs.YtfkgkbhbdffckaaGreatDoor
open Go.Fw
def rgsG:List SI->List ByteArray->Option (List SI)
 | g,[]=>some g
 | g,n::r=>if lookS g n=0 then rgsG (g++[(n,5)]) r else none
def rgsM (l:List SI) (names:List ByteArray):Option (List SI):=rgsG (l.filter λ p=>decide (¬ p.2=4)) names
theorem rgsG_go {g:List SI} {ns:List ByteArray} {k:Nat} {n:ByteArray} (h:ns[k]? = some n) (hz:lookS g n=0):rgsG g (ns.drop k)=rgsG (g++[(n,5)]) (ns.drop (k+1)):=by
 rw [drop_cons h,rgsG,if_pos hz]
theorem rgsG_at {g:List SI} {ns:List ByteArray} {k:Nat} {n:ByteArray} (h:ns[k]? = some n) (hz:¬ lookS g n=0):rgsG g (ns.drop k)=none:=by
 rw [drop_cons h,rgsG,if_neg hz]
def RegsP (r:Option (List SI)) (v:Value) (w w':World):Prop:=
 (r=none/\v = .tuple #[.map none,.bool true]/\Ext w w')\/∃ g b,r=some g/\v = .tuple #[.map (some b),.bool false]/\New (mapP b g) w w'
theorem C67 (tv:TThreadV) (names:List ByteArray) (bm:Nat) (l:List SI) (w:World) (hf:RdL (λ _=>True) w (Flat.val tv.regs) names) (hm:MapP w bm l) (hz:∀ p∈l,p.2≠0) (hn:names.length<=1073741824) :
  CR 67 [Flat.val tv,.map (some bm)] w (λ v w'=>RegsP (rgsM l names) v w w'):=by
 have hs:=St.start w;have hnl:=hm.nodup;obtain ⟨es,clock,hes,hst,hperm⟩:=hm;refine S67_ok _ _ _ _ ?_;unfold S67;refine eop_boxV hs (λ b_t2 w1 hs=>eop_mapP hs (λ b_x _ hs=>?_));refine eop_range hs Tryz.underlying121 (heap_ext hes hs.chg) (λ r13 _ hs=>?_);refine ⟨λ mm w1=>∃ (seen:Array Nat) (l1:List SI),mm=(leftOf es seen).size/\(∀ p,p∈l1↔(p∈l/\¬ p.2=4/\∃ e∈es.toList,seen.contains e.born=true/\e.key = .string p.1))/\St w none1 [iterB r13 bm clock seen,mapP b_x l1,blk b_t2 (Flat.enc tv)] w1,⟨_,#[],[],rfl,λ _=>⟨λ h=>(by cases h),λ ⟨_,_,e,_,h,_⟩=>(by simp at h)⟩,hs⟩,?_⟩;rintro mm w4 ⟨seen,l1,rfl,hl1,hs⟩ _;refine eop_next hs (heap_ext hes hs.chg) hst.1 (λ h0=>?_) (λ e _ he hs=>?_)
 ·refine pop_ext rfl (cond_f ?_);have hs:=hs.drop
  have hg:l1.Perm (l.filter λ p=>decide (¬ p.2=4)):=by
   have n1:l1.Nodup:=(List.pairwise_map.1 hs.mapP.nodup).imp λ h e=>h (by rw [e]);have n2:l.Nodup:=(List.pairwise_map.1 hnl).imp λ h e=>h (by rw [e]);refine (List.perm_ext_iff_of_nodup n1 (n2.filter _)).2 λ p=>?_;rw [hl1,List.mem_filter];refine ⟨λ ⟨h1,h2,_⟩=>⟨h1,decide_eq_true h2⟩,λ ⟨h1,h2⟩=>⟨h1,of_decide_eq_true h2,?_⟩⟩;obtain ⟨e,he,h3,_⟩:=entS' hperm h1;exact ⟨e,he,all_seen es seen h0 e he,h3⟩
  have hs:St w none1 [mapP b_x (l.filter λ p=>decide (¬ p.2=4)),blk b_t2 (Flat.enc tv)] w4:=hs.turn λ F hF=>⟨F,⟨hF.1.perm hg,hF.2⟩,λ _ hb=>.inl hb,Chg.refl _ _⟩;refine pop_field fld34_1 (qop_blk ty32 hs.p1.hb rfl ?_);refine pop_len sl32 (hf.ext hs.chg) ?_;refine ⟨λ mm i w'=>∃ (k:Nat) (g:List SI),i = .int .i64 (k:Int)/\mm=names.length - k/\k<=names.length/\rgsM l names=rgsG g (names.drop k)/\(∀ p∈g,p.2≠0)/\St w none1 [mapP b_x g,blk b_t2 (Flat.enc tv)] w',⟨_,0,_,rfl,rfl,Nat.zero_le _,rfl,λ p hp=>hz p (List.mem_filter.1 hp).1,hs⟩,?_⟩;rintro mm _ _ ⟨k,g,rfl,rfl,hk,hg2,hzg,hs⟩ _;refine pop_lss (cond_d (λ c_x28=>?_) (λ c_x28=>?_))
  ·obtain ⟨e_x29,he_x29⟩:=gx (names) (i:=((k:Int)).toNat) (by omega);refine pop_idx sl32 (hf.ext hs.chg) (by omega) he_x29 (λ _ h_x29=>qop_at ty9 h_x29 (qop_lookS hs.mapP Tryz.underlying121 Tryz.underlying9 zero3 (pop_neq (cond_d (λ c_x34=>.inl ⟨hg2.trans (rgsG_at he_x29 c_x34),rfl,hs.drop.drop.chg⟩) (λ c_x34=>?_)))));have hz0:lookS g e_x29=0:=by omega
   refine uop_putS hs Tryz.underlying121 Tryz.underlying9 (lookS_zero hs.mapP.nodup hzg hz0) (λ _ hs=>pop_add (by omega) ?_)
   exact ⟨_,by omega,k+1,_,rfl,rfl,by omega,hg2.trans (rgsG_go he_x29 hz0),λ p hp=>by
    rcases List.mem_append.1 hp with h | h
    ·exact hzg p h
    ·rw [List.mem_singleton.1 h]; exact (by decide:(5:Int)≠0),hs⟩
  refine .inr ⟨g,b_x,?_,rfl,hs.p1.drop.fresh⟩;rw [hg2,List.drop_eq_nil_of_le (by omega)]; rfl
 refine pop_ext rfl (cond_t ?_);have hm:=mem_left he;refine qop_entry hs (heap_ext hes hs.chg) hm.1 hst.2.1 ?_;obtain ⟨p0,hp0,hek,hev⟩:=entS hperm hm.1;rw [hek,hev];refine pop_ext rfl (pop_ext rfl ?_);refine pop_neq ?_
 have old:∀ q∈l1,q.1≠p0.1:=λ q hq e=>by
  obtain ⟨_,_,e2,he2,h1,h2⟩:=(hl1 q).1 hq;rw [e,<- hek] at h2;obtain rfl:=key_inj hst.2.2 he2 hm.1 h2;exact absurd h1 (by simpa using hm.2)
 refine cond_d (λ c_x20=>?_) (λ c_x20=>?_)
 ·have hs:=hs.p1;refine uop_putS hs Tryz.underlying121 Tryz.underlying9 old (λ _ hs=>?_);have hs:=hs.p1;refine ⟨_,left_shrinks es seen e he,seen.push e.born,_,rfl,λ p=>?_,hs⟩;rw [List.mem_append,List.mem_singleton,hl1]
  constructor
  ·rintro (⟨h1,h2,e2,h3,h4,h5⟩ | rfl)
   ·exact ⟨h1,h2,e2,h3,by simp at h4 |-; exact .inl h4,h5⟩
   exact ⟨hp0,c_x20,e,hm.1,by simp,hek⟩
  rintro ⟨h1,h2,e2,h3,h4,h5⟩
  rcases contains_pushI h4 with h | h
  ·exact .inl ⟨h1,h2,e2,h3,h,h5⟩
  obtain rfl:=born_inj hst.2.1 h3 hm.1 h;rw [hek] at h5; injection h5 with h5;exact .inr (si_inj hnl h1 hp0 h5.symm)
 refine ⟨_,left_shrinks es seen e he,seen.push e.born,l1,rfl,λ p=>?_,hs⟩;rw [hl1]
 constructor
 ·rintro ⟨h1,h2,e2,h3,h4,h5⟩;exact ⟨h1,h2,e2,h3,by simp at h4 |-; exact .inl h4,h5⟩
 rintro ⟨h1,h2,e2,h3,h4,h5⟩
 rcases contains_pushI h4 with h | h
 ·exact ⟨h1,h2,e2,h3,h,h5⟩
 obtain rfl:=born_inj hst.2.1 h3 hm.1 h;rw [hek] at h5; injection h5 with h5;obtain rfl:=si_inj hnl h1 hp0 h5.symm;exact absurd h2 c_x20
theorem place_mem {ns:List ByteArray} {s:ByteArray}:0<=placeM ns s↔s∈ns:=by
 have h:=place_any ns s
 rw [<- decide_eq_true_iff (p:=0<=placeM ns s),h,List.any_eq_true]
 constructor
 ·rintro ⟨y,hy,e⟩; rw [<- of_decide_eq_true e]; exact hy
 intro hs; exact ⟨s,hs,decide_eq_true rfl⟩
theorem place_no {ns:List ByteArray} {s:ByteArray}:placeM ns s<0↔s ∉ ns:=by rw [<- place_mem]; omega
theorem place_at {ns:List ByteArray} {s:ByteArray} (h:s∈ns):∃ k:Nat,placeM ns s=k/\ns[k]? = some s/\∀ j,j<k->ns[j]?≠some s:=by
 unfold placeM idxF
 cases hf:ns.findIdx? (λ y=>decide (y=s)) with
 | none=>rw [List.findIdx?_eq_none_iff] at hf; have:=hf s h; simp at this
 | some k=>
  obtain ⟨h1,h2,h3⟩:=List.findIdx?_eq_some_iff_getElem.1 hf
  refine ⟨k,rfl,?_,λ j hj he=>?_⟩
  ·rw [List.getElem?_eq_getElem h1]; exact congrArg some (of_decide_eq_true h2)
  ·have:=h3 j hj
   rw [List.getElem?_eq_getElem (by omega)] at he
   exact this (decide_eq_true (Option.some.inj he))
theorem place_take {ns:List ByteArray} {s:ByteArray} {k:Nat} (h:s∈ns):placeM ns s<k↔s∈ns.take k:=by
 obtain ⟨j,h1,h2,h3⟩:=place_at h
 rw [h1]
 constructor
 ·intro hj; exact List.mem_iff_getElem?.2 ⟨j,by rw [List.getElem?_take,if_pos (by omega)]; exact h2⟩
 intro hm
 obtain ⟨i,hi⟩:=List.mem_iff_getElem?.1 hm
 rw [List.getElem?_take] at hi
 split at hi
 ·exact Classical.byContradiction λ hn=>h3 i (by omega) hi
 cases hi
theorem nodup_iff (ns:List ByteArray):ns.Nodup↔∀ (k:Nat) (s:ByteArray),ns[k]? = some s->s ∉ ns.take k:=by
 unfold List.Nodup
 rw [List.pairwise_iff_getElem]
 constructor
 ·intro h k s hk hm
  obtain ⟨i,hi⟩:=List.mem_iff_getElem?.1 hm
  rw [List.getElem?_take] at hi
  split at hi
  ·rename_i hik
   obtain ⟨h1,h2⟩:=List.getElem?_eq_some_iff.1 hi
   obtain ⟨h3,h4⟩:=List.getElem?_eq_some_iff.1 hk
   exact h i k h1 h3 hik (h2.trans h4.symm)
  cases hi
 intro h i j hi hj hij he
 exact h j _ (List.getElem?_eq_getElem hj) (List.mem_iff_getElem?.2 ⟨i,by rw [List.getElem?_take,if_pos hij,List.getElem?_eq_getElem hi,he]⟩)
theorem twiceB_iff (l:List TCell):twiceB l=true↔¬ (l.map TCell.name).Nodup:=by
 rw [nodup_iff]
 unfold twiceB
 rw [List.any_eq_true]
 constructor
 ·rintro ⟨j,hj,h⟩ hn
  have hj:=List.mem_range.1 hj
  have hl:l[j]? = some l[j]:=List.getElem?_eq_getElem hj
  rw [twiceAt_e hl,decide_eq_true_iff] at h
  have hm:(l[j]).name∈l.map TCell.name:=List.mem_map.2 ⟨_,List.getElem_mem hj,rfl⟩
  exact hn j _ (by rw [List.getElem?_map,hl]; rfl) ((place_take hm).1 h)
 intro hn
 apply Classical.byContradiction
 intro hc
 refine hn λ k s hk hm=>hc ⟨k,?_,?_⟩
 ·have:=(List.getElem?_eq_some_iff.1 hk).1; rw [List.length_map] at this; exact List.mem_range.2 this
 rw [List.getElem?_map] at hk
 obtain ⟨c,hc2,rfl⟩:=Option.map_eq_some_iff.1 hk
 rw [twiceAt_e hc2,decide_eq_true_iff]
 exact (place_take (List.mem_of_mem_take hm)).2 hm
theorem regB_iff (p:TProg) (rs:List ByteArray):regB p rs=true↔¬ rs.Nodup\/∃ s∈rs,s∈cellNs p\/s∈lockNs p:=by
 rw [nodup_iff]
 unfold regB
 rw [List.any_eq_true]
 constructor
 ·rintro ⟨j,hj,h⟩
  have hj:=List.mem_range.1 hj
  have hl:rs[j]? = some rs[j]:=List.getElem?_eq_getElem hj
  have hm:=List.getElem_mem hj
  rw [regAt_e hl] at h
  simp only [Bool.or_eq_true,decide_eq_true_eq,place_mem] at h
  rcases h with (h | h) | h
  ·exact .inl λ hn=>hn j _ hl ((place_take hm).1 h)
  ·exact .inr ⟨_,hm,.inl h⟩
  exact .inr ⟨_,hm,.inr h⟩
 intro hn
 rcases hn with hn | ⟨s,hs,hc⟩
 ·apply Classical.byContradiction
  intro hc
  refine hn λ k s hk hm=>hc ⟨k,List.mem_range.2 (List.getElem?_eq_some_iff.1 hk).1,?_⟩
  rw [regAt_e hk]
  simp only [Bool.or_eq_true,decide_eq_true_eq]
  exact .inl (.inl ((place_take (List.mem_of_mem_take hm)).2 hm))
 obtain ⟨j,hj⟩:=List.mem_iff_getElem?.1 hs
 refine ⟨j,List.mem_range.2 (List.getElem?_eq_some_iff.1 hj).1,?_⟩
 rw [regAt_e hj]
 simp only [Bool.or_eq_true,decide_eq_true_eq,place_mem]
 rcases hc with hc | hc
 ·exact .inl (.inr hc)
 exact .inr hc
def nmQ (p:TProg):List (ByteArray × Int × Int):=nmC p++(nmK p++nmT p)
theorem nmM_q (p:TProg):nmM p=nmS (nmQ p) ([],false,0):=by unfold nmM nmQ nmS; rw [List.foldl_append,List.foldl_append]
theorem nmQ_names (p:TProg):(nmQ p).map (·.1)=(declsM p).map TCell.name:=by
 unfold nmQ nmC nmK nmT declsM
 rw [<- allP_fst]
 simp only [List.map_append,List.map_map,List.append_assoc]
 rfl
theorem nmQ_nz (p:TProg):∀ q∈nmQ p,q.2.1≠0:=by
 intro q hq
 unfold nmQ nmC nmK nmT whatL at hq
 rcases List.mem_append.1 hq with hq | hq
 ·obtain ⟨c,_,rfl⟩:=List.mem_map.1 hq; dsimp only; split <;> decide
 rcases List.mem_append.1 hq with hq | hq
 ·obtain ⟨c,_,rfl⟩:=List.mem_map.1 hq; exact (by decide:(3:Int)≠0)
 obtain ⟨c,_,rfl⟩:=List.mem_map.1 hq; exact (by decide:(4:Int)≠0)
theorem nmS_tw:∀ (l:List (ByteArray × Int × Int)) (st:List SI × Bool × Int),(∀ q∈l,q.2.1≠0)->
  ((nmS l st).2.1=true↔st.2.1=true\/¬ (l.map (·.1)).Nodup\/∃ q∈l,lookS st.1 q.1≠0)
 | [],st,_=>by simp [nmS]
 | q::r,st,hz=>by
  have ih:=nmS_tw r (nmF st q) λ q hq=>hz q (List.mem_cons_of_mem _ hq)
  have hq0:=hz q (List.mem_cons_self ..)
  have e:nmS (q::r) st=nmS r (nmF st q):=rfl
  rw [e,ih]
  show twN st.1 q.1 st.2.1=true\/_\/(∃ x∈r,lookS (updS st.1 q.1 q.2.1) x.1≠0)↔_
  unfold twN
  rw [List.map_cons,List.nodup_cons]
  simp only [Bool.or_eq_true,decide_eq_true_eq,lookS_upd,List.mem_map,List.mem_cons]
  constructor
  ·rintro ((h | h) | h | ⟨x,hx,h⟩)
   ·exact .inl h
   ·exact .inr (.inr ⟨q,.inl rfl,h⟩)
   ·exact .inr (.inl λ hh=>h hh.2)
   ·by_cases hxq:q.1=x.1
    ·exact .inr (.inl λ hh=>hh.1 ⟨x,hx,hxq.symm⟩)
    ·rw [if_neg hxq] at h; exact .inr (.inr ⟨x,.inr hx,h⟩)
  ·rintro (h | h | ⟨x,rfl | hx,h⟩)
   ·exact .inl (.inl h)
   ·by_cases hn:(r.map (·.1)).Nodup
    ·have:∃ x∈r,x.1=q.1:=Classical.byContradiction λ hc=>h ⟨hc,hn⟩
     obtain ⟨x,hx,he⟩:=this
     exact .inr (.inr ⟨x,hx,by rw [if_pos he.symm]; exact hq0⟩)
    ·exact .inr (.inl hn)
   ·exact .inl (.inr h)
   ·refine .inr (.inr ⟨x,hx,?_⟩)
    split
    ·exact hq0
    ·exact h
theorem tw_iff (p:TProg):(nmM p).2.1=twiceB (declsM p):=by
 rw [Bool.eq_iff_iff,nmM_q,nmS_tw _ _ (nmQ_nz p),twiceB_iff,nmQ_names]
 simp [lookS]
theorem nmS_no:∀ (l:List (ByteArray × Int × Int)) (st:List SI × Bool × Int) (n:ByteArray),n ∉ l.map (·.1)->lookS (nmS l st).1 n=lookS st.1 n
 | [],_,_,_=>rfl
 | q::r,st,n,h=>by
  rw [List.map_cons,List.mem_cons,not_or] at h
  have e:nmS (q::r) st=nmS r (nmF st q):=rfl
  rw [e,nmS_no r _ n h.2]
  show lookS (updS st.1 q.1 q.2.1) n=_
  rw [lookS_upd,if_neg λ hh=>h.1 hh.symm]
theorem nmS_in:∀ (l:List (ByteArray × Int × Int)) (st:List SI × Bool × Int) (q:ByteArray × Int × Int),(l.map (·.1)).Nodup->q∈l->lookS (nmS l st).1 q.1=q.2.1
 | x::r,st,q,hn,h=>by
  rw [List.map_cons,List.nodup_cons] at hn
  have e:nmS (x::r) st=nmS r (nmF st x):=rfl
  rw [e]
  rcases List.mem_cons.1 h with rfl | h
  ·rw [nmS_no r _ _ hn.1]
   show lookS (updS st.1 q.1 q.2.1) q.1=_
   rw [lookS_upd,if_pos rfl]
  ·exact nmS_in r _ q hn.2 h
theorem nmS_nz:∀ (l:List (ByteArray × Int × Int)) (st:List SI × Bool × Int),(∀ q∈l,q.2.1≠0)->(∀ e∈st.1,e.2≠0)->∀ e∈(nmS l st).1,e.2≠0
 | [],_,_,h=>h
 | q::r,st,hz,h=>nmS_nz r (nmF st q) (λ q hq=>hz q (List.mem_cons_of_mem _ hq)) (updS_nz h (hz q (List.mem_cons_self ..)))
theorem nmM_nz (p:TProg):∀ e∈(nmM p).1,e.2≠0:=by
 rw [nmM_q]; exact nmS_nz _ _ (nmQ_nz p) λ e he=>by cases he
theorem lnP_lt:∀ (ls:List (List TCell)) (k:Int) (q:TCell × Int),q∈lnP k ls->k<=q.2/\q.2<k+ls.length
 | [],_,_,h=>by cases h
 | l::r,k,q,h=>by
  unfold lnP at h
  rcases List.mem_append.1 h with h | h
  ·obtain ⟨c,_,rfl⟩:=List.mem_map.1 h; simp; omega
  ·have:=lnP_lt r (k+1) q h; simp; omega
theorem vlP_ge:∀ (vs:List TCell) (k:Int) (q:TCell × Int),q∈vlP k vs->k<=q.2
 | [],_,_,h=>by cases h
 | v::r,k,q,h=>by
  unfold vlP at h
  rcases List.mem_cons.1 h with rfl | h
  ·exact Int.le_refl _
  ·have:=vlP_ge r (k+1) q h; omega
def volNs (p:TProg):List ByteArray:=p.vols.map TCell.name
def thNs (p:TProg):List ByteArray:=p.threads.map TThread.name
theorem stayNs_e (p:TProg):stayNs p=p.lines.flatten.map TCell.name:=by
 unfold stayNs cellNs allC staysM
 rw [List.map_append,Int.toNat_natCast,List.take_left' (by rw [List.length_map])]
theorem cellNs_e (p:TProg):cellNs p=stayNs p++volNs p:=by
 rw [stayNs_e]; unfold cellNs allC volNs; rw [List.map_append]
theorem decls_e (p:TProg):(declsM p).map TCell.name=stayNs p++volNs p++(lockNs p++thNs p):=by
 rw [<- cellNs_e]; unfold declsM cellNs lockNs thNs
 simp only [List.map_append,List.map_map,List.append_assoc]; rfl
theorem nm_look {p:TProg} (hn:twiceB (declsM p)=false) (s:ByteArray) :
  lookS (nmM p).1 s=if 0<=placeM (stayNs p) s then 1 else if 0<=placeM (volNs p) s then 2 else if 0<=placeM (lockNs p) s then 3 else if 0<=placeM (thNs p) s then 4 else 0:=by
 have hd:((declsM p).map TCell.name).Nodup:=Classical.byContradiction λ h=>by rw [(twiceB_iff _).2 h] at hn; cases hn
 have hq:((nmQ p).map (·.1)).Nodup:=by rw [nmQ_names]; exact hd
 rw [nmM_q]
 by_cases h1:s∈stayNs p
 ·rw [if_pos (place_mem.2 h1)]
  rw [stayNs_e,<- lnP_fst p.lines 0] at h1
  obtain ⟨c,hc,rfl⟩:=List.mem_map.1 h1
  obtain ⟨q,hq2,rfl⟩:=List.mem_map.1 hc
  have hm:(q.1.name,whatL p q.2,q.1.at_)∈nmQ p:=List.mem_append_left _ (List.mem_map.2 ⟨q,List.mem_append_left _ hq2,rfl⟩)
  have hlt:=lnP_lt _ _ _ hq2
  exact (nmS_in _ _ _ hq hm).trans (if_neg (by omega))
 rw [if_neg λ h=>h1 (place_mem.1 h)]
 by_cases h2:s∈volNs p
 ·rw [if_pos (place_mem.2 h2)]
  unfold volNs at h2
  rw [<- vlP_fst p.vols p.lines.length] at h2
  obtain ⟨c,hc,rfl⟩:=List.mem_map.1 h2
  obtain ⟨q,hq2,rfl⟩:=List.mem_map.1 hc
  have hm:(q.1.name,whatL p q.2,q.1.at_)∈nmQ p:=List.mem_append_left _ (List.mem_map.2 ⟨q,List.mem_append_right _ hq2,rfl⟩)
  have hge:=vlP_ge _ _ _ hq2
  exact (nmS_in _ _ _ hq hm).trans (if_pos hge)
 rw [if_neg λ h=>h2 (place_mem.1 h)]
 by_cases h3:s∈lockNs p
 ·rw [if_pos (place_mem.2 h3)]
  obtain ⟨c,hc,rfl⟩:=List.mem_map.1 h3
  exact nmS_in _ _ (c.name,3,c.at_) hq (List.mem_append_right _ (List.mem_append_left _ (List.mem_map.2 ⟨c,hc,rfl⟩)))
 rw [if_neg λ h=>h3 (place_mem.1 h)]
 by_cases h4:s∈thNs p
 ·rw [if_pos (place_mem.2 h4)]
  obtain ⟨t,ht,rfl⟩:=List.mem_map.1 h4
  exact nmS_in _ _ (t.name,4,t.at_) hq (List.mem_append_right _ (List.mem_append_right _ (List.mem_map.2 ⟨t,ht,rfl⟩)))
 rw [if_neg λ h=>h4 (place_mem.1 h),nmS_no _ _ _ (by rw [nmQ_names,decls_e]; simp [h1,h2,h3,h4])]
 rfl
theorem any_congrM {α:Type} {l:List α} {f g:α->Bool} (h:∀ x∈l,f x=g x):l.any f=l.any g:=by
 induction l with
 | nil=>rfl
 | cons a r ih=>rw [List.any_cons,List.any_cons,h a (List.mem_cons_self ..),ih λ x hx=>h x (List.mem_cons_of_mem _ hx)]
theorem look_snoc {g:List SI} {n k:ByteArray} {v:Int} (hz:∀ e∈g,e.2≠0) (h:lookS g n=0):lookS (g++[(n,v)]) k=if n=k then v else lookS g k:=by
 induction g with
 | nil=>show (if n=k then v else lookS [] k)=_; rfl
 | cons e r ih=>
  have hez:=hz e (List.mem_cons_self ..)
  have hn:¬ e.1=n:=λ hh=>by
   have:lookS (e::r) n=e.2:=by show (if e.1=n then e.2 else _)=_; rw [if_pos hh]
   rw [this] at h; exact hez h
  have hr:lookS r n=0:=by
   have:lookS (e::r) n=lookS r n:=by show (if e.1=n then e.2 else _)=_; rw [if_neg hn]
   rw [<- this]; exact h
  show (if e.1=k then e.2 else lookS (r++[(n,v)]) k)=if n=k then v else (if e.1=k then e.2 else lookS r k)
  rw [ih (λ e he=>hz e (List.mem_cons_of_mem _ he)) hr]
  by_cases h1:e.1=k
  ·rw [if_pos h1,if_pos h1,if_neg λ hh=>hn (h1.trans hh.symm)]
  ·rw [if_neg h1,if_neg h1]
theorem rgsG_spec:∀ (ns:List ByteArray) (g:List SI),(∀ e∈g,e.2≠0)->
  (rgsG g ns=none/\(¬ ns.Nodup\/∃ s∈ns,lookS g s≠0))\/∃ g',rgsG g ns=some g'/\ns.Nodup/\(∀ s∈ns,lookS g s=0)/\∀ s,lookS g' s=if 0<=placeM ns s then 5 else lookS g s
 | [],g,_=>.inr ⟨g,rfl,List.nodup_nil,λ s h=>(by cases h),λ s=>by rw [if_neg]; exact λ h=>by cases place_mem.1 h⟩
 | n::r,g,hz=>by
  unfold rgsG
  split
  ·rename_i hl
   have hz2:∀ e∈g++[(n,(5:Int))],e.2≠0:=by
    intro e he
    rcases List.mem_append.1 he with h | h
    ·exact hz e h
    ·rw [List.mem_singleton.1 h]; exact (by decide:(5:Int)≠0)
   have hsn:=λ k=>look_snoc (k:=k) (v:=5) hz hl
   rcases rgsG_spec r _ hz2 with ⟨h1,h2⟩ | ⟨g',h1,h2,h3,h4⟩
   ·refine .inl ⟨h1,?_⟩
    rw [List.nodup_cons]
    rcases h2 with h2 | ⟨s,hs,h2⟩
    ·exact .inl λ h=>h2 h.2
    ·rw [hsn] at h2
     split at h2
     ·rename_i e; exact .inl λ h=>h.1 (e▸hs)
     ·exact .inr ⟨s,List.mem_cons_of_mem _ hs,h2⟩
   ·have hnr:n ∉ r:=λ hm=>by have:=h3 n hm; rw [hsn,if_pos rfl] at this; cases this
    refine .inr ⟨g',h1,List.nodup_cons.2 ⟨hnr,h2⟩,λ s hs=>?_,λ s=>?_⟩
    ·rcases List.mem_cons.1 hs with rfl | hs
     ·exact hl
     ·have:=h3 s hs; rw [hsn,if_neg λ e:n=s=>hnr (e▸hs)] at this; exact this
    ·rw [h4,hsn]
     by_cases hs:s∈r
     ·rw [if_pos (place_mem.2 hs),if_pos (place_mem.2 (List.mem_cons_of_mem _ hs))]
     ·rw [if_neg λ h=>hs (place_mem.1 h)]
      by_cases hn:n=s
      ·rw [if_pos hn,if_pos (place_mem.2 (by rw [hn]; exact List.mem_cons_self ..))]
      ·rw [if_neg hn,if_neg λ h=>(List.mem_cons.1 (place_mem.1 h)).elim (λ e=>hn e.symm) hs]
  ·rename_i hl
   exact .inl ⟨rfl,.inr ⟨n,List.mem_cons_self ..,hl⟩⟩
theorem look_filter {l:List SI} (hn:(l.map (·.1)).Nodup) (s:ByteArray):lookS (l.filter λ p=>decide (¬ p.2=4)) s=if lookS l s=4 then 0 else lookS l s:=by
 induction l with
 | nil=>rfl
 | cons e r ih=>
  rw [List.map_cons,List.nodup_cons] at hn
  have ih:=ih hn.2
  have hr:e.1=s->lookS r s=0:=λ h=>lookS_none λ q hq he=>hn.1 (List.mem_map.2 ⟨q,hq,by rw [h]; exact he⟩)
  have e1:lookS (e::r) s=if e.1=s then e.2 else lookS r s:=rfl
  rw [List.filter_cons,e1]
  by_cases h4:e.2=4
  ·rw [if_neg (by simp [h4]),ih]
   by_cases hs:e.1=s
   ·rw [if_pos hs,hr hs,h4]; rfl
   ·rw [if_neg hs]
  ·rw [if_pos (by simp [h4])]
   show (if e.1=s then e.2 else lookS _ s)=_
   by_cases hs:e.1=s
   ·rw [if_pos hs,if_pos hs,if_neg h4]
   ·rw [if_neg hs,if_neg hs,ih]
theorem keys_upd {l:List SI} {k:ByteArray} {v:Int} (h:(l.map (·.1)).Nodup):((updS l k v).map (·.1)).Nodup:=by
 unfold updS
 split
 ·have:(l.map λ p=>if p.1=k then (k,v) else p).map (·.1)=l.map (·.1):=by
   rw [List.map_map]
   refine List.map_congr_left λ p _=>?_
   show (if p.1=k then (k,v) else p).1=p.1
   split
   ·rename_i e; exact e.symm
   ·rfl
  rw [this]; exact h
 rename_i hn
 rw [List.map_append,List.nodup_append]
 refine ⟨h,by simp,λ a ha b hb hab=>?_⟩
 obtain ⟨q,hq,rfl⟩:=List.mem_map.1 ha
 simp at hb
 exact hn (List.any_eq_true.2 ⟨q,hq,decide_eq_true (hab.trans hb)⟩)
theorem nmM_keys (p:TProg):((nmM p).1.map (·.1)).Nodup:=by
 rw [nmM_q]
 have:∀ (l:List (ByteArray × Int × Int)) (st:List SI × Bool × Int),(st.1.map (·.1)).Nodup->((nmS l st).1.map (·.1)).Nodup:=by
  intro l
  induction l with
  | nil=>intro st h; exact h
  | cons q r ih=>intro st h; exact ih (nmF st q) (keys_upd h)
 exact this _ _ List.nodup_nil
theorem rg_spec {p:TProg} (hn:twiceB (declsM p)=false) (rs:List ByteArray) :
  (rgsM (nmM p).1 rs=none/\regB p rs=true)\/∃ g,rgsM (nmM p).1 rs=some g/\regB p rs=false/\(∀ s∈rs,s ∉ cellNs p/\s ∉ lockNs p)/\
   ∀ s,lookS g s=if 0<=placeM rs s then 5 else if 0<=placeM (stayNs p) s then 1 else if 0<=placeM (volNs p) s then 2 else if 0<=placeM (lockNs p) s then 3 else 0:=by
 have hf:∀ s,lookS ((nmM p).1.filter λ p=>decide (¬ p.2=4)) s=if 0<=placeM (stayNs p) s then 1 else if 0<=placeM (volNs p) s then 2 else if 0<=placeM (lockNs p) s then 3 else 0:=by
  intro s
  rw [look_filter (nmM_keys p),nm_look hn]
  repeat' split
  all_goals first | rfl | omega | simp_all
 have hc:∀ s,lookS ((nmM p).1.filter λ p=>decide (¬ p.2=4)) s≠0↔(s∈cellNs p\/s∈lockNs p):=by
  intro s
  rw [hf,cellNs_e,List.mem_append,<- place_mem (ns:=stayNs p),<- place_mem (ns:=volNs p),<- place_mem (ns:=lockNs p)]
  repeat' split
  all_goals simp_all
 unfold rgsM
 rcases rgsG_spec rs ((nmM p).1.filter λ p=>decide (¬ p.2=4)) (λ e he=>nmM_nz p e (List.mem_filter.1 he).1) with ⟨h1,h2⟩ | ⟨g,h1,h2,h3,h4⟩
 ·refine .inl ⟨h1,(regB_iff p rs).2 ?_⟩
  rcases h2 with h | ⟨s,hs,h⟩
  ·exact .inl h
  exact .inr ⟨s,hs,(hc s).1 h⟩
 have hno:∀ s∈rs,s ∉ cellNs p/\s ∉ lockNs p:=λ s hs=>by
  have h:=h3 s hs
  exact ⟨λ hm=>(hc s).2 (.inl hm) h,λ hm=>(hc s).2 (.inr hm) h⟩
 refine .inr ⟨g,h1,?_,hno,λ s=>by rw [h4,hf]⟩
 cases hr:regB p rs with
 | false=>rfl
 | true=>
  rcases (regB_iff p rs).1 hr with h | ⟨s,hs,h⟩
  ·exact absurd h2 h
  ·rcases h with h | h
   ·exact absurd h (hno s hs).1
   ·exact absurd h (hno s hs).2
def badU (g:List SI) (u:UU):Bool:=!u.2.2.any λ m=>decide (m=lookS g u.1)
theorem any_vars {g:List SI} {rs:List ByteArray} (l:List TNode) (h:∀ s,lookS g s=5↔s∈rs):(useV l).any (badU g)=varsB l rs:=by
 rw [Bool.eq_iff_iff]
 unfold useV varU varsB badU
 simp only [List.any_map,List.any_eq_true,List.mem_filter,Function.comp_apply,List.any_cons,List.any_nil,Bool.or_false,Bool.not_eq_true',decide_eq_false_iff_not,Bool.and_eq_true,decide_eq_true_eq,place_no]
 constructor
 ·rintro ⟨x,⟨h1,h2⟩,h3⟩; exact ⟨x,h1,h2,λ hm=>h3 ((h _).2 hm).symm⟩
 rintro ⟨x,h1,h2,h3⟩; exact ⟨x,⟨h1,h2⟩,λ hm=>h3 ((h _).1 hm.symm)⟩
theorem place_stay (p:TProg) (s:ByteArray):s∈stayNs p↔0<=placeM (cellNs p) s/\placeM (cellNs p) s<staysM p:=by
 rw [place_mem,show stayNs p=(cellNs p).take (staysM p).toNat from rfl]
 have hs:0<=staysM p:=by unfold staysM; omega
 constructor
 ·intro h
  have hm:=List.mem_of_mem_take h
  have:=(place_take hm).2 h
  exact ⟨hm,by omega⟩
 rintro ⟨h1,h2⟩; exact (place_take h1).1 (by omega)
theorem has_n (k:Int):amongM (hasS k) 110=decide (k=2\/k=3\/k=4\/k=5\/k=6\/k=9\/k=10):=by
 unfold hasS
 split
 ·rw [decide_eq_false (by omega)]; decide
 rename_i h
 obtain rfl | rfl | rfl | rfl | rfl | rfl | rfl | rfl | rfl | rfl | rfl | rfl | rfl | rfl:k=1\/k=2\/k=3\/k=4\/k=5\/k=6\/k=7\/k=8\/k=9\/k=10\/k=11\/k=12\/k=13\/k=14:=by omega
 all_goals decide
theorem name_nil:nameM ⟨#[]⟩=false:=by decide
theorem any_use {p:TProg} {rs:List ByteArray} {g:List SI} (hno:∀ s∈rs,s ∉ cellNs p/\s ∉ lockNs p) (hcl:∀ s∈cellNs p,s ∉ lockNs p) (hsv:∀ s∈stayNs p,s ∉ volNs p)
  (hg:∀ s,lookS g s=if 0<=placeM rs s then 5 else if 0<=placeM (stayNs p) s then 1 else if 0<=placeM (volNs p) s then 2 else if 0<=placeM (lockNs p) s then 3 else 0) {x:TStmt} (hx:FitX x) :
  (useX x).any (badU g)=stmtB p rs x:=by
 have g5:∀ s,lookS g s=5↔s∈rs:=λ s=>by
  rw [hg,<- place_mem]; repeat' split
  all_goals simp_all
 have g1:∀ s,lookS g s=1↔s∈stayNs p:=λ s=>by
  rw [hg,<- place_mem]
  split
  ·rename_i h
   have:=hno s (place_mem.1 h)
   rw [cellNs_e,List.mem_append] at this
   refine ⟨λ h=>(by cases h),λ h=>absurd (place_mem.1 h) λ hh=>this.1 (.inl hh)⟩
  ·repeat' split
   all_goals simp_all
 have g2:∀ s,lookS g s=2↔s∈volNs p:=λ s=>by
  rw [hg]
  split
  ·rename_i h
   have:=hno s (place_mem.1 h)
   rw [cellNs_e,List.mem_append] at this
   exact ⟨λ h=>(by cases h),λ h=>absurd (.inr h) this.1⟩
  ·split
   ·rename_i h; exact ⟨λ h=>(by cases h),λ hh=>absurd hh (hsv s (place_mem.1 h))⟩
   ·rw [<- place_mem]; repeat' split
    all_goals simp_all
 have g3:∀ s,lookS g s=3↔s∈lockNs p:=λ s=>by
  rw [hg]
  split
  ·rename_i h; exact ⟨λ h=>(by cases h),λ hh=>absurd hh (hno s (place_mem.1 h)).2⟩
  ·split
   ·rename_i h; exact ⟨λ h=>(by cases h),λ hh=>absurd hh (hcl s (by rw [cellNs_e]; exact List.mem_append_left _ (place_mem.1 h)))⟩
   ·split
    ·rename_i h; exact ⟨λ h=>(by cases h),λ hh=>absurd hh (hcl s (by rw [cellNs_e]; exact List.mem_append_right _ (place_mem.1 h)))⟩
    ·rw [<- place_mem]; split
     ·rename_i h; exact ⟨λ _=>h,λ _=>rfl⟩
     ·rename_i h; exact ⟨λ h=>(by cases h),λ hh=>absurd hh h⟩
 have hn:=hx.name
 rw [has_n] at hn
 rw [useX_e,List.any_append,List.any_append,List.any_append,any_vars x.e g5,any_vars x.f g5]
 have hA:(useA x).any (badU g)=(decide (¬ x.reg=⟨#[]⟩) && decide (placeM rs x.reg<0)):=by
  unfold useA
  split
  ·rename_i h; simp [h]
  ·rename_i h
   rw [decide_eq_true h,Bool.true_and,Bool.eq_iff_iff]
   simp only [List.any_cons,List.any_nil,Bool.or_false,badU,Bool.not_eq_true',decide_eq_false_iff_not,decide_eq_true_eq,place_no]
   rw [<- g5,eq_comm]
 have hB:(useB x).any (badU g)=(((decide (x.kind=2) || decide (x.kind=3) || decide (x.kind=4)) && decide (placeM (cellNs p) x.name<0)) ||
   ((decide (x.kind=5) || decide (x.kind=6)) && (decide (placeM (cellNs p) x.name<0) || decide (staysM p<=placeM (cellNs p) x.name))) ||
   ((decide (x.kind=9) || decide (x.kind=10)) && decide (placeM (lockNs p) x.name<0))):=by
  have hk:=hx.kind
  unfold useB
  split
  ·rename_i h
   have hk2:¬ (x.kind=2\/x.kind=3\/x.kind=4\/x.kind=5\/x.kind=6\/x.kind=9\/x.kind=10):=by
    intro hh
    rcases hn with ⟨_,h2⟩ | ⟨h1,_⟩
    ·rw [h,name_nil] at h2; cases h2
    ·exact absurd hh (of_decide_eq_false h1)
   have d:∀ k:Int,(k=2\/k=3\/k=4\/k=5\/k=6\/k=9\/k=10)->decide (x.kind=k)=false:=λ k hk=>decide_eq_false λ e=>hk2 (by rw [e]; exact hk)
   rw [d 2 (by omega),d 3 (by omega),d 4 (by omega),d 5 (by omega),d 6 (by omega),d 9 (by omega),d 10 (by omega)]; rfl
  ·rename_i h
   have hk2:x.kind=2\/x.kind=3\/x.kind=4\/x.kind=5\/x.kind=6\/x.kind=9\/x.kind=10:=by
    rcases hn with ⟨h1,_⟩ | ⟨_,h2⟩
    ·exact of_decide_eq_true h1
    ·exact absurd h2 h
   have hc:=place_stay p x.name
   rw [Bool.eq_iff_iff]
   unfold mayX
   simp only [List.any_cons,List.any_nil,Bool.or_false,badU,Bool.not_eq_true',Bool.or_eq_true,Bool.and_eq_true,decide_eq_true_eq,place_no]
   have e1:=g1 x.name; have e2:=g2 x.name; have e3:=g3 x.name
   have ec:x.name∈cellNs p↔x.name∈stayNs p\/x.name∈volNs p:=by rw [cellNs_e,List.mem_append]
   have pn:=place_mem (ns:=cellNs p) (s:=x.name)
   by_cases k1:x.kind=5\/x.kind=6
   ·rw [if_pos k1]
    simp only [List.any_cons,List.any_nil,Bool.or_false,decide_eq_false_iff_not]
    rw [eq_comm,e1,hc,<- pn]
    constructor
    ·intro hh; exact .inl (.inr ⟨k1,by omega⟩)
    ·rintro ((⟨hh,_⟩ | ⟨_,hh⟩) | ⟨hh,_⟩) <;> omega
   ·rw [if_neg k1]
    by_cases k2:x.kind=9\/x.kind=10
    ·rw [if_pos k2]
     simp only [List.any_cons,List.any_nil,Bool.or_false,decide_eq_false_iff_not]
     rw [eq_comm,e3]
     constructor
     ·intro hh; exact .inr ⟨k2,hh⟩
     ·rintro ((⟨hh,_⟩ | ⟨hh,_⟩) | ⟨_,hh⟩)
      ·omega
      ·omega
      ·exact hh
    ·rw [if_neg k2]
     simp only [List.any_cons,List.any_nil,Bool.or_false,Bool.or_eq_false_iff,decide_eq_false_iff_not]
     rw [eq_comm,e1,eq_comm (a:=(2:Int)),e2,ec]
     constructor
     ·rintro ⟨h1,h2⟩; exact .inl (.inl ⟨by omega,λ hh=>hh.elim h1 h2⟩)
     ·rintro ((⟨_,hh⟩ | ⟨hh,_⟩) | ⟨hh,_⟩)
      ·exact ⟨λ h=>hh (.inl h),λ h=>hh (.inr h)⟩
      ·omega
      ·omega
 rw [hA,hB]
 unfold stmtB
 simp only [Bool.or_assoc]
theorem nodup_apart {p:TProg} (hn:twiceB (declsM p)=false):(∀ s∈cellNs p,s ∉ lockNs p)/\∀ s∈stayNs p,s ∉ volNs p:=by
 have hd:((declsM p).map TCell.name).Nodup:=Classical.byContradiction λ h=>by rw [(twiceB_iff _).2 h] at hn; cases hn
 rw [decls_e,List.nodup_append] at hd
 obtain ⟨h1,h2,h3⟩:=hd
 rw [List.nodup_append] at h1
 exact ⟨λ s hs hl=>h3 s (by rw [<- cellNs_e]; exact hs) s (List.mem_append_left _ hl) rfl,λ s hs hv=>h1.2.2 s hs s hv rfl⟩
theorem any_uses {p:TProg} {t:TThread} {g:List SI} (hn:twiceB (declsM p)=false) (hg:rgsM (nmM p).1 t.regs=some g) (hx:∀ x∈t.body,fitsM x=true):(useL t.body).any (badU g)=t.body.any (stmtB p t.regs):=by
 rcases rg_spec hn t.regs with ⟨h1,_⟩ | ⟨g',h1,h2,h3,h4⟩
 ·rw [h1] at hg; cases hg
 rw [hg] at h1; cases h1
 obtain ⟨a1,a2⟩:=nodup_apart hn
 unfold useL
 rw [List.any_flatMap]
 refine any_congrM λ x hm=>any_use h3 a1 a2 h4 (fits_spec (hx x hm))
theorem vars_claim {p:TProg} (hn:twiceB (declsM p)=false) (l:List TNode):(l.any λ x=>decide (x.op=2) && decide (¬ lookS (nmM p).1 x.name=1))=varsB l (stayNs p):=by
 unfold varsB
 refine any_congrM λ x _=>?_
 congr 1
 refine decide_eq_decide.2 ?_
 rw [place_no,nm_look hn,<- place_mem]
 split
 ·rename_i h; exact ⟨λ hh=>absurd rfl hh,λ hh=>absurd h hh⟩
 rename_i h
 refine ⟨λ _=>h,λ _=>?_⟩
 repeat' split
 all_goals decide
variable (w:World) (K:Value->World->Prop)
def S22 (p0:Value):Prop:=
 Eop Tryz.prog (Instr.box 40 p0) w λ p1 a=>aL 29 a λ b c=>aL 3 c λ d e=>lA 40 p1 e λ f=>cF 62 [f] e λ g h=>xT g 0 λ j=>xT g 1 λ k=>xT g 2 λ l=>lA 40 p1 h λ n=>
 cF 63 [n] h λ o p=>Pop Tryz.prog (Op.unary .not o) λ q=>cV q (sA 29 b (i 8) p λ s=>sA 3 d (i 0) s λ t=>lA 29 b t λ r=>lA 3 d t λ r_1=>K (.tuple #[r,r_1]) t) (lA 40 p1 p λ u=>
 cF 64 [u] p λ v x=>cV v (sA 29 b (i 2) x λ y=>sA 3 d (i 0) y λ z=>lA 29 b z λ r_2=>lA 3 d z λ r_3=>K (.tuple #[r_2,r_3]) z) (lA 40 p1 x λ aa=>cF 65 [aa] x λ ab ac=>
 lN 35 ab λ ad=>Loop1 (λ K1 ae af=>∀ _:Env,
 bA .lss 3 ae ad λ ag=>cV ag (iA 35 ab ae λ ah=>lA 34 ah af λ ai=>aL 34 af λ t8 aj=>sA 34 t8 ai aj λ ak=>fA 34 t8 2 λ al=>lA 27 al ak λ am=>cF 66 [am,(i 1)] ak λ an ao=>
 xT an 0 λ ap=>xT an 1 λ aq=>cV aq (sA 29 b (i 11) ao λ ar=>sA 3 d ap ar λ asx=>lA 29 b asx λ r_4=>lA 3 d asx λ r_5=>K (.tuple #[r_4,r_5]) asx) (bB .add 3 ae (i 1) λ au=>
 K1 au ao)) (cV l (sA 29 b (i 10) af λ av=>sA 3 d k av λ aw=>lA 29 b aw λ r_6=>lA 3 d aw λ r_7=>K (.tuple #[r_6,r_7]) aw) (lA 40 p1 af λ ax=>cF 65 [ax] af λ ay az=>
 lN 35 ay λ a0=>Loop1 (λ K2 a2 a3=>∀ _:Env,
 bA .lss 3 a2 a0 λ a4=>cV a4 (iA 35 ay a2 λ a5=>lA 34 a5 a3 λ a6=>aL 34 a3 λ t12 a7=>sA 34 t12 a6 a7 λ a8=>lA 34 t12 a8 λ a9=>cF 67 [a9,j] a8 λ ba bb=>xT ba 0 λ _=>
 xT ba 1 λ bc=>cV bc (fA 34 t12 3 λ bd=>lA 3 bd (drew bb) λ be=>sA 29 b (i 10) (drew bb) λ bf=>kA 3 bd be bf (sA 3 d be bf λ bg=>lA 29 b bg λ r_8=>lA 3 d bg λ r_9=>
 K (.tuple #[r_8,r_9]) bg)) (bB .add 3 a2 (i 1) λ bh=>K2 bh bb)) (lA 40 p1 a3 λ bi=>cF 65 [bi] a3 λ bj bk=>lN 35 bj λ bl=>Loop2 (λ K3 ds bm bn=>∀ _:Env,
 bA .lss 3 bm bl λ bo=>cV bo (iA 35 bj bm λ bp=>lA 34 bp bn λ bq=>aL 34 bn λ t16 br=>sA 34 t16 bq br λ bs=>lA 34 t16 bs λ bt=>cF 67 [bt,j] bs λ bu bv=>xT bu 0 λ bw=>
 xT bu 1 λ _=>aL 121 bv λ in17 bx=>sA 121 in17 bw bx λ bz=>fA 34 t16 2 λ b0=>lA 27 b0 bz λ b1=>cF 68 [b1] bz λ b2 b3=>RangeFn Tryz.prog b2 1 b3 (λ a1 b4 B1 R1=>
 aL 133 b4 λ u19 b5=>sA 133 u19 (nthV a1 0) b5 λ b6=>B1 b6 λ b7=>fA 133 u19 2 λ b8=>lA 45 b8 b7 λ b9=>lA 121 in17 b7 λ ca=>fA 133 u19 0 λ cb=>lA 9 cb b7 λ cc=>
 Qop Tryz.prog (Instr.lookup 121 ca cc false) b7 λ cd=>cF 69 [b9,cd] b7 λ ce cf=>Pop Tryz.prog (Op.unary .not ce) λ cg=>cV cg (fA 133 u19 1 λ ch=>lA 3 ch (drew cf) λ ci=>
 sA 29 b (i 9) (drew cf) λ cj=>kA 3 ch ci cj (sA 3 d ci cj λ ck=>R1 (some .ret) ck)) (R1 none cf)) (aft (λ D cl=>bB .add 3 bm (i 1) λ cm=>K3 (encDs (D::(decDs ds))) cm cl)
 (λ D cn=>takeAll (D::(decDs ds)) cn λ co=>lA 29 b co λ r_10=>lA 3 d co λ r_11=>K (.tuple #[r_10,r_11]) co) (λ _ _ _=>False))) (fA 40 p1 5 λ cp=>lA 38 cp bn λ cq=>
 lN 38 cq λ cr=>Loop1 (λ K4 cs ct=>∀ _:Env,
 bA .lss 3 cs cr λ cu=>cV cu (iA 38 cq cs λ cv=>lA 112 cv ct λ cw=>aL 112 ct λ c21 cx=>sA 112 c21 cw cx λ cy=>fA 112 c21 0 λ cz=>lA 22 cz cy λ c0=>lN 22 c0 λ c1=>
 Loop1 (λ K5 c2 c3=>∀ _:Env,
 bA .lss 3 c2 c1 λ c4=>cV c4 (iA 22 c0 c2 λ c5=>lA 26 c5 c3 λ c6=>aL 26 c3 λ c7 c8=>sA 26 c7 c6 c8 λ c9=>Join1 (λ K6=>fA 26 c7 0 λ da=>lA 3 da c9 λ db=>bB .eql 3 db (i 2) λ dc=>
 cV dc (fA 26 c7 2 λ dd=>lA 9 dd c9 λ de=>Qop Tryz.prog (Instr.lookup 121 j de false) c9 λ df=>bB .neq 3 df (i 1) λ dg=>K6 dg c9) (K6 ff c9)) (λ dh di=>∀ _:Env,
 cV dh (fA 26 c7 3 λ dj=>lA 3 dj (drew di) λ dk=>sA 29 b (i 9) (drew di) λ dl=>kA 3 dj dk dl (sA 3 d dk dl λ dm=>takeAll (decDs ds) dm λ dn=>lA 29 b dn λ r_12=>lA 3 d dn λ r_13=>
 K (.tuple #[r_12,r_13]) dn)) (bB .add 3 c2 (i 1) λ dp=>K5 dp di))) (bB .add 3 cs (i 1) λ dq=>K4 dq c3)) (λ K5=>K5 (i 0) cy)) (sA 29 b (i 0) ct λ dr=>sA 3 d (i 0) dr λ dt=>
 takeAll (decDs ds) dt λ du=>lA 29 b du λ r_14=>lA 3 d du λ r_15=>K (.tuple #[r_14,r_15]) du)) (λ K4=>K4 (i 0) bn))) (λ K3=>K3 (encDs []) (i 0) bk))) (λ K2=>K2 (i 0) az))))
 (λ K1=>K1 (i 0) ac)))
def P22:Plans:=λ i=>match i with
 | 20=>(.of [(0,[]),(1,[]),(2,[1]),(3,[])])
 | 29=>(.of [(0,[]),(1,[]),(2,[1]),(3,[])])
 | 38=>(.of [(0,[]),(1,[]),(2,[1]),(3,[])])
 | _=>.nil
theorem S22_ok (p0:Value) (h:S22 w K p0):CR 22 [p0] w K:=
 okG 128 P22 12 [.cell 2 29,.cell 3 3] Tryz.func22 h
def S69 (s0 v1:Value):Prop:=
 cF 132 [s0,v1] w λ a b=>bB .geq 3 a (i 0) λ c=>K c b
theorem S69_ok (s0 v1:Value) (h:S69 w K s0 v1):CR 69 [s0,v1] w K:=
 okG 9 (λ _=>.nil) 16 [.tmp 4] Tryz.func69 h
def S132 (s0 v1:Value):Prop:=
 lN 45 s0 λ a=>Loop1 (λ K1 b c=>∀ _:Env,
 bA .lss 3 b a λ d=>cV d (iA 45 s0 b λ e=>lA 3 e c λ f=>bA .eql 3 v1 f λ g=>cV g (K b c) (bB .add 3 b (i 1) λ h=>K1 h c)) (K (i (-1)) c)) (λ K1=>K1 (i 0) w)
theorem S132_ok (s0 v1:Value) (h:S132 w K s0 v1):CR 132 [s0,v1] w K:=
 okG 19 (λ _=>.nil) 16 [.tmp 4] Tryz.func132 h
theorem pl22:PL 22:=plE Tryz.func22
theorem pl69:PL 69:=plE Tryz.func69
theorem pl132:PL 132:=plE Tryz.func132
end Go.Proofs.YtfkgkbhbdffckaaGreatDoor
