/-
  Part 3.
-/
import Derived.Test.YtnjcingfdhjfkaaGreatR6x2
set_option maxHeartbeats 8000000
set_option linter.all false
set_option maxRecDepth 100000
open Go.Fw.Flat renaming val->j6,enc->kp
open List renaming mem_of_getElem?->ld,getElem?_eq_some_iff->l0,take_of_length_le->mE,getElem?_eq_getElem->nT,length_append->n0,length_singleton->n6,getD_eq_getElem?_getD->oi,length_take->oj,length_map->qE,append_assoc->qF,range->rv,mem_append->r3,take_append_drop->s6,length_drop->ta,drop_eq_nil_of_le->vV,take_add_one->xp,drop_eq_getElem_cons->xD,map_append->yU,mem_cons->zZ,any_eq_true->z6,any_eq_false->Av,length_eq_zero_iff->AY,drop_drop->Cl,mem_of_mem_take->CP,take_take->Js,drop_left->KZ,foldl_append->LA,take_length->Qe,map_map->TN,take_left->TR,toArray->W0,length_flatten->aai,cons->abp
open Bool renaming and_eq_true->oG,not_eq_true'->uw
open Nat renaming zero_le->o6,le_refl->r4,zero_add->ve,min_eq_left->xr,mod_le->adl
open Go.Fw.Deep renaming dr->py,ext->Ov
open Option renaming some->qa
open Go.Value renaming int->qs,tuple->KS
open Decidable renaming not_not->FE
open Int renaming mul_le_mul->ME,tmod_nonneg->QV,natAbs_tmod->W6,le_total->aa9,natAbs_tdiv->abC,toNat->acD,neg_tmod->acO
namespace Go.Proofs.YtnjcingfdhjfkaaGreat
open Go.Fw
@[ext] structure dW where
 name:ByteArray
 n:Int
 at_:Int
deriving DecidableEq
instance:Flat dW where
 agg:=true
 sz:=3
 enc e:=[.string e.name,jK e.n,jK e.at_]
 val e:=.agg [.string e.name,jK e.n,jK e.at_].toArray
 pos:=dO
 len _:=rfl
 one a v h:=by simp at h;rcases h with rfl|rfl|rfl<;>rfl
 qo _ _:=rfl
 qp h:=by cases h
instance:Deep dW dW:=kD
def Bw(x:dW):Prop:=x.name.size<=maxLen/\gb x.n/\gb x.at_
@[ext] structure dP where
 op:Int
 n:Int
 name:ByteArray
 at_:Int
deriving DecidableEq
instance:Flat dP where
 agg:=true
 sz:=4
 enc e:=[jK e.op,jK e.n,.string e.name,jK e.at_]
 val e:=.agg [jK e.op,jK e.n,.string e.name,jK e.at_].toArray
 pos:=dO
 len _:=rfl
 one a v h:=by simp at h;rcases h with rfl|rfl|rfl|rfl<;>rfl
 qo _ _:=rfl
 qp h:=by cases h
instance:Deep dP dP:=kD
def DH(x:dP):Prop:=gb x.op/\gb x.n/\x.name.size<=maxLen/\gb x.at_
structure cR where
 kind:Int
 jJ:ByteArray
 name:ByteArray
 e:(List dP)
 f:(List dP)
 n:Int
 body:Int
 ib:Int
 at_:Int
deriving DecidableEq
structure cL where
 kind:Int
 jJ:ByteArray
 name:ByteArray
 e:SV
 f:SV
 n:Int
 body:Int
 ib:Int
 at_:Int
instance:Flat cL where
 agg:=true
 sz:=9
 enc e:=[jK e.kind,.string e.jJ,.string e.name,.slice e.e.a e.e.n e.e.cap,.slice e.f.a e.f.n e.f.cap,jK e.n,jK e.body,jK e.ib,jK e.at_]
 val e:=.agg [jK e.kind,.string e.jJ,.string e.name,.slice e.e.a e.e.n e.e.cap,.slice e.f.a e.f.n e.f.cap,jK e.n,jK e.body,jK e.ib,jK e.at_].toArray
 pos:=dO
 len _:=rfl
 one a v h:=by simp at h;rcases h with rfl|rfl|rfl|rfl|rfl|rfl|rfl|rfl|rfl<;>rfl
 qo _ _:=rfl
 qp h:=by cases h
instance:Deep cR cL where
 dr w s x:=∃(B:SV) (E:SV),s=(⟨x.kind,x.jJ,x.name,B,E,x.n,x.body,x.ib,x.at_⟩:cL)/\DL w (j6 B) x.e/\DL w (j6 E) x.f
 ext h e:=by
  obtain⟨I,M,rfl,J,h1⟩:=h
  exact⟨I,M,rfl,J.ext e,h1.ext e⟩
def Ny(x:cR):Prop:=gb x.kind/\x.jJ.size<=maxLen/\x.name.size<=maxLen/\(∀y∈x.e,DH y)/\(∀y∈x.f,DH y)/\gb x.n/\gb x.body/\gb x.ib/\gb x.at_
structure eH where
 name:ByteArray
 aJ:(List ByteArray)
 body:(List cR)
 at_:Int
deriving DecidableEq
structure fE where
 name:ByteArray
 aJ:SV
 body:SV
 at_:Int
instance:Flat fE where
 agg:=true
 sz:=4
 enc e:=[.string e.name,.slice e.aJ.a e.aJ.n e.aJ.cap,.slice e.body.a e.body.n e.body.cap,jK e.at_]
 val e:=.agg [.string e.name,.slice e.aJ.a e.aJ.n e.aJ.cap,.slice e.body.a e.body.n e.body.cap,jK e.at_].toArray
 pos:=dO
 len _:=rfl
 one a v h:=by simp at h;rcases h with rfl|rfl|rfl|rfl<;>rfl
 qo _ _:=rfl
 qp h:=by cases h
instance:Deep eH fE where
 dr w s x:=∃(E:SV) (B:SV),s=(⟨x.name,E,B,x.at_⟩:fE)/\DL w (j6 E) x.aJ/\DL w (j6 B) x.body
 ext h e:=by
  obtain⟨I,M,rfl,J,h1⟩:=h
  exact⟨I,M,rfl,J.ext e,h1.ext e⟩
def Bx(x:eH):Prop:=x.name.size<=maxLen/\(∀y∈x.aJ,(λy:ByteArray=>y.size<=maxLen) y)/\(∀y∈x.body,Ny y)/\gb x.at_
structure lW where
 e:(List dP)
 at_:Int
deriving DecidableEq
structure nZ where
 e:SV
 at_:Int
instance:Flat nZ where
 agg:=true
 sz:=2
 enc e:=[.slice e.e.a e.e.n e.e.cap,jK e.at_]
 val e:=.agg [.slice e.e.a e.e.n e.e.cap,jK e.at_].toArray
 pos:=dO
 len _:=rfl
 one a v h:=by simp at h;rcases h with rfl|rfl<;>rfl
 qo _ _:=rfl
 qp h:=by cases h
instance:Deep lW nZ where
 dr w s x:=∃(B:SV),s=(⟨B,x.at_⟩:nZ)/\DL w (j6 B) x.e
 ext h e:=by
  obtain⟨I,rfl,E⟩:=h
  exact⟨I,rfl,E.ext e⟩
def Iu(x:lW):Prop:=(∀y∈x.e,DH y)/\gb x.at_
structure dM where
 lines:(List (List dW))
 mu:(List dW)
 locks:(List dW)
 threads:(List eH)
 recover:(List eH)
 cD:(List lW)
deriving DecidableEq
structure bX where
 lines:SV
 mu:SV
 locks:SV
 threads:SV
 recover:SV
 cD:SV
instance:Flat bX where
 agg:=true
 sz:=6
 enc e:=[.slice e.lines.a e.lines.n e.lines.cap,.slice e.mu.a e.mu.n e.mu.cap,.slice e.locks.a e.locks.n e.locks.cap,.slice e.threads.a e.threads.n e.threads.cap,.slice e.recover.a e.recover.n e.recover.cap,.slice e.cD.a e.cD.n e.cD.cap]
 val e:=.agg [.slice e.lines.a e.lines.n e.lines.cap,.slice e.mu.a e.mu.n e.mu.cap,.slice e.locks.a e.locks.n e.locks.cap,.slice e.threads.a e.threads.n e.threads.cap,.slice e.recover.a e.recover.n e.recover.cap,.slice e.cD.a e.cD.n e.cD.cap].toArray
 pos:=dO
 len _:=rfl
 one a v h:=by simp at h;rcases h with rfl|rfl|rfl|rfl|rfl|rfl<;>rfl
 qo _ _:=rfl
 qp h:=by cases h
instance:Deep dM bX where
 dr w s x:=∃(M:SV) (E:SV) (B:SV) (I:SV) (O:SV) (J:SV),s=(⟨M,E,B,I,O,J⟩:bX)/\DL w (j6 M) x.lines/\DL w (j6 E) x.mu/\DL w (j6 B) x.locks/\DL w (j6 I) x.threads/\DL w (j6 O) x.recover/\DL w (j6 J) x.cD
 ext h e:=by
  obtain⟨U,g1,g2,g3,g4,W,rfl,V,h1,h2,h3,h4,h5⟩:=h
  exact⟨U,g1,g2,g3,g4,W,rfl,V.ext e,h1.ext e,h2.ext e,h3.ext e,h4.ext e,h5.ext e⟩
def ahg(x:dM):Prop:=(∀y∈x.lines,(λys:(List dW)=>∀y∈ys,Bw y) y)/\(∀y∈x.mu,Bw y)/\(∀y∈x.locks,Bw y)/\(∀y∈x.threads,Bx y)/\(∀y∈x.recover,Bx y)/\(∀y∈x.cD,Iu y)
structure aba where
 p:dM
 aJ:(List ByteArray)
deriving DecidableEq
structure Aq where
 p:bX
 aJ:SV
instance:Flat Aq where
 agg:=true
 sz:=7
 enc e:=[.slice e.p.lines.a e.p.lines.n e.p.lines.cap,.slice e.p.mu.a e.p.mu.n e.p.mu.cap,.slice e.p.locks.a e.p.locks.n e.p.locks.cap,.slice e.p.threads.a e.p.threads.n e.p.threads.cap,.slice e.p.recover.a e.p.recover.n e.p.recover.cap,.slice e.p.cD.a e.p.cD.n e.p.cD.cap,.slice e.aJ.a e.aJ.n e.aJ.cap]
 val e:=.agg [.slice e.p.lines.a e.p.lines.n e.p.lines.cap,.slice e.p.mu.a e.p.mu.n e.p.mu.cap,.slice e.p.locks.a e.p.locks.n e.p.locks.cap,.slice e.p.threads.a e.p.threads.n e.p.threads.cap,.slice e.p.recover.a e.p.recover.n e.p.recover.cap,.slice e.p.cD.a e.p.cD.n e.p.cD.cap,.slice e.aJ.a e.aJ.n e.aJ.cap].toArray
 pos:=dO
 len _:=rfl
 one a v h:=by simp at h;rcases h with rfl|rfl|rfl|rfl|rfl|rfl|rfl<;>rfl
 qo _ _:=rfl
 qp h:=by cases h
instance:Deep aba Aq where
 dr w s x:=∃(B:bX) (E:SV),s=(⟨B,E⟩:Aq)/\py w B x.p/\DL w (j6 E) x.aJ
 ext h e:=by
  obtain⟨I,M,rfl,J,h1⟩:=h
  exact⟨I,M,rfl,Ov J e,h1.ext e⟩
@[ext] structure nQ where
 kind:Int
 n:Int
deriving DecidableEq
instance:Flat nQ where
 agg:=true
 sz:=2
 enc e:=[jK e.kind,jK e.n]
 val e:=.agg [jK e.kind,jK e.n].toArray
 pos:=dO
 len _:=rfl
 one a v h:=by simp at h;rcases h with rfl|rfl<;>rfl
 qo _ _:=rfl
 qp h:=by cases h
instance:Deep nQ nQ:=kD
structure bF where
 kind:Int
 a:Int
 b:Int
 e:(List nQ)
 f:(List nQ)
 to:Int
deriving DecidableEq
structure bN where
 kind:Int
 a:Int
 b:Int
 e:SV
 f:SV
 to:Int
instance:Flat bN where
 agg:=true
 sz:=6
 enc e:=[jK e.kind,jK e.a,jK e.b,.slice e.e.a e.e.n e.e.cap,.slice e.f.a e.f.n e.f.cap,jK e.to]
 val e:=.agg [jK e.kind,jK e.a,jK e.b,.slice e.e.a e.e.n e.e.cap,.slice e.f.a e.f.n e.f.cap,jK e.to].toArray
 pos:=dO
 len _:=rfl
 one a v h:=by simp at h;rcases h with rfl|rfl|rfl|rfl|rfl|rfl<;>rfl
 qo _ _:=rfl
 qp h:=by cases h
instance:Deep bF bN where
 dr w s x:=∃(B:SV) (E:SV),s=(⟨x.kind,x.a,x.b,B,E,x.to⟩:bN)/\DL w (j6 B) x.e/\DL w (j6 E) x.f
 ext h e:=by
  obtain⟨I,M,rfl,J,h1⟩:=h
  exact⟨I,M,rfl,J.ext e,h1.ext e⟩
structure gp where
 aJ:Int
 counts:Int
 l:(List bF)
deriving DecidableEq
structure bY where
 aJ:Int
 counts:Int
 l:SV
instance:Flat bY where
 agg:=true
 sz:=3
 enc e:=[jK e.aJ,jK e.counts,.slice e.l.a e.l.n e.l.cap]
 val e:=.agg [jK e.aJ,jK e.counts,.slice e.l.a e.l.n e.l.cap].toArray
 pos:=dO
 len _:=rfl
 one a v h:=by simp at h;rcases h with rfl|rfl|rfl<;>rfl
 qo _ _:=rfl
 qp h:=by cases h
instance:Deep gp bY where
 dr w s x:=∃(B:SV),s=(⟨x.aJ,x.counts,B⟩:bY)/\DL w (j6 B) x.l
 ext h e:=by
  obtain⟨I,rfl,E⟩:=h
  exact⟨I,rfl,E.ext e⟩
structure iz where
 lines:(List Int)
 stays:Int
 cO:(List Int)
 locks:Int
 threads:(List gp)
 recover:gp
 cD:(List (List nQ))
deriving DecidableEq
structure dH where
 lines:SV
 stays:Int
 cO:SV
 locks:Int
 threads:SV
 recover:bY
 cD:SV
instance:Flat dH where
 agg:=true
 sz:=9
 enc e:=[.slice e.lines.a e.lines.n e.lines.cap,jK e.stays,.slice e.cO.a e.cO.n e.cO.cap,jK e.locks,.slice e.threads.a e.threads.n e.threads.cap,jK e.recover.aJ,jK e.recover.counts,.slice e.recover.l.a e.recover.l.n e.recover.l.cap,.slice e.cD.a e.cD.n e.cD.cap]
 val e:=.agg [.slice e.lines.a e.lines.n e.lines.cap,jK e.stays,.slice e.cO.a e.cO.n e.cO.cap,jK e.locks,.slice e.threads.a e.threads.n e.threads.cap,jK e.recover.aJ,jK e.recover.counts,.slice e.recover.l.a e.recover.l.n e.recover.l.cap,.slice e.cD.a e.cD.n e.cD.cap].toArray
 pos:=dO
 len _:=rfl
 one a v h:=by simp at h;rcases h with rfl|rfl|rfl|rfl|rfl|rfl|rfl|rfl|rfl<;>rfl
 qo _ _:=rfl
 qp h:=by cases h
instance:Deep iz dH where
 dr w s x:=∃(E:SV) (J:SV) (B:SV) (I:bY) (M:SV),s=(⟨E,x.stays,J,x.locks,B,I,M⟩:dH)/\DL w (j6 E) x.lines/\DL w (j6 J) x.cO/\DL w (j6 B) x.threads/\py w I x.recover/\DL w (j6 M) x.cD
 ext h e:=by
  obtain⟨O,V,g2,g3,W,rfl,U,h1,h2,h3,h4⟩:=h
  exact⟨O,V,g2,g3,W,rfl,U.ext e,h1.ext e,h2.ext e,Ov h3 e,h4.ext e⟩
structure dY where
 kind:Int
 t:Int
 i:Int
 cut:(List Int)
deriving DecidableEq
structure dN where
 kind:Int
 t:Int
 i:Int
 cut:SV
instance:Flat dN where
 agg:=true
 sz:=4
 enc e:=[jK e.kind,jK e.t,jK e.i,.slice e.cut.a e.cut.n e.cut.cap]
 val e:=.agg [jK e.kind,jK e.t,jK e.i,.slice e.cut.a e.cut.n e.cut.cap].toArray
 pos:=dO
 len _:=rfl
 one a v h:=by simp at h;rcases h with rfl|rfl|rfl|rfl<;>rfl
 qo _ _:=rfl
 qp h:=by cases h
instance:Deep dY dN where
 dr w s x:=∃(B:SV),s=(⟨x.kind,x.t,x.i,B⟩:dN)/\DL w (j6 B) x.cut
 ext h e:=by
  obtain⟨I,rfl,E⟩:=h
  exact⟨I,rfl,E.ext e⟩
def V0(x:dY):Prop:=gb x.kind/\gb x.t/\gb x.i/\(∀y∈x.cut,gb y)
structure KR where
 kind:Int
 n:Int
 p:dY
deriving DecidableEq
structure Ar where
 kind:Int
 n:Int
 p:dN
instance:Flat Ar where
 agg:=true
 sz:=6
 enc e:=[jK e.kind,jK e.n,jK e.p.kind,jK e.p.t,jK e.p.i,.slice e.p.cut.a e.p.cut.n e.p.cut.cap]
 val e:=.agg [jK e.kind,jK e.n,jK e.p.kind,jK e.p.t,jK e.p.i,.slice e.p.cut.a e.p.cut.n e.p.cut.cap].toArray
 pos:=dO
 len _:=rfl
 one a v h:=by simp at h;rcases h with rfl|rfl|rfl|rfl|rfl|rfl<;>rfl
 qo _ _:=rfl
 qp h:=by cases h
instance:Deep KR Ar where
 dr w s x:=∃(B:dN),s=(⟨x.kind,x.n,B⟩:Ar)/\py w B x.p
 ext h e:=by
  obtain⟨I,rfl,E⟩:=h
  exact⟨I,rfl,Ov E e⟩
def anQ(x:KR):Prop:=gb x.kind/\gb x.n/\V0 x.p
@[ext] structure bU where
 kind:Int
 t:Int
 a:Int
 n:Int
 m:Int
deriving DecidableEq
instance:Flat bU where
 agg:=true
 sz:=5
 enc e:=[jK e.kind,jK e.t,jK e.a,jK e.n,jK e.m]
 val e:=.agg [jK e.kind,jK e.t,jK e.a,jK e.n,jK e.m].toArray
 pos:=dO
 len _:=rfl
 one a v h:=by simp at h;rcases h with rfl|rfl|rfl|rfl|rfl<;>rfl
 qo _ _:=rfl
 qp h:=by cases h
instance:Deep bU bU:=kD
@[ext] structure gk where
 cS:Int
 fault:Int
 t:Int
 done:Bool
 stuck:Bool
deriving DecidableEq
instance:Flat gk where
 agg:=true
 sz:=5
 enc e:=[jK e.cS,jK e.fault,jK e.t,.bool e.done,.bool e.stuck]
 val e:=.agg [jK e.cS,jK e.fault,jK e.t,.bool e.done,.bool e.stuck].toArray
 pos:=dO
 len _:=rfl
 one a v h:=by simp at h;rcases h with rfl|rfl|rfl|rfl|rfl<;>rfl
 qo _ _:=rfl
 qp h:=by cases h
instance:Deep gk gk:=kD
@[ext] structure aX where
 kind:Int
 line:Int
 cell:Int
 n:Int
deriving DecidableEq
instance:Flat aX where
 agg:=true
 sz:=4
 enc e:=[jK e.kind,jK e.line,jK e.cell,jK e.n]
 val e:=.agg [jK e.kind,jK e.line,jK e.cell,jK e.n].toArray
 pos:=dO
 len _:=rfl
 one a v h:=by simp at h;rcases h with rfl|rfl|rfl|rfl<;>rfl
 qo _ _:=rfl
 qp h:=by cases h
instance:Deep aX aX:=kD
@[ext] structure bP where
 kind:Int
 text:ByteArray
 n:Int
 at_:Int
deriving DecidableEq
instance:Flat bP where
 agg:=true
 sz:=4
 enc e:=[jK e.kind,.string e.text,jK e.n,jK e.at_]
 val e:=.agg [jK e.kind,.string e.text,jK e.n,jK e.at_].toArray
 pos:=dO
 len _:=rfl
 one a v h:=by simp at h;rcases h with rfl|rfl|rfl|rfl<;>rfl
 qo _ _:=rfl
 qp h:=by cases h
instance:Deep bP bP:=kD
@[ext] structure o7 where
 line:Int
 cell:Int
 n:Int
deriving DecidableEq
instance:Flat o7 where
 agg:=true
 sz:=3
 enc e:=[jK e.line,jK e.cell,jK e.n]
 val e:=.agg [jK e.line,jK e.cell,jK e.n].toArray
 pos:=dO
 len _:=rfl
 one a v h:=by simp at h;rcases h with rfl|rfl|rfl<;>rfl
 qo _ _:=rfl
 qp h:=by cases h
instance:Deep o7 o7:=kD
@[ext] structure jV where
 cell:Int
 n:Int
deriving DecidableEq
instance:Flat jV where
 agg:=true
 sz:=2
 enc e:=[jK e.cell,jK e.n]
 val e:=.agg [jK e.cell,jK e.n].toArray
 pos:=dO
 len _:=rfl
 one a v h:=by simp at h;rcases h with rfl|rfl<;>rfl
 qo _ _:=rfl
 qp h:=by cases h
instance:Deep jV jV:=kD
structure V1 where
 of:SV
 cO:SV
 l:SV
 k:SV
 w:SV
instance:Flat V1 where
 agg:=true
 sz:=5
 enc e:=[.slice e.of.a e.of.n e.of.cap,.slice e.cO.a e.cO.n e.cO.cap,.slice e.l.a e.l.n e.l.cap,.slice e.k.a e.k.n e.k.cap,.slice e.w.a e.w.n e.w.cap]
 val e:=.agg [.slice e.of.a e.of.n e.of.cap,.slice e.cO.a e.cO.n e.cO.cap,.slice e.l.a e.l.n e.l.cap,.slice e.k.a e.k.n e.k.cap,.slice e.w.a e.w.n e.w.cap].toArray
 pos:=dO
 len _:=rfl
 one a v h:=by simp at h;rcases h with rfl|rfl|rfl|rfl|rfl<;>rfl
 qo _ _:=rfl
 qp h:=by cases h
def Td(p:Bool):Int:=if p then 1 else 0
def Iw(a b:Int):Int:=qj (a.tdiv b)
def BZ(op a:Int):Int:=if op=3 then qj (0-a)else if op=4 then Td (decide (a=0))else 0
def Qf(op:Int):Int:=if op=3\/op=4 then 0 else 1
def nH(op a b:Int):Int:=
 if op=5 then qj (a+b)else if op=6 then qj (a-b)else if op=7 then qj (a*b)else if op=8 then Iw a b else if op=9 then a.tmod b
 else if op=10 then Td (decide (a=b))else if op=11 then Td (decide (¬ a=b))else if op=12 then Td (decide (a<b))else if op=13 then Td (decide (a<=b))
 else if op=14 then Td (decide (¬ a=0)&&decide (¬ b=0))else if op=15 then Td (decide (¬ a=0)||decide (¬ b=0))else 0
def jq(op b:Int):Int:=if op<5\/15<op then 1 else if (op=8\/op=9)/\b=0 then 12 else 0
def jk(op a b:Int):Int:=if jq op b=0 then nH op a b else 0
theorem Fe:Iw (-9223372036854775808) (-1) = -9223372036854775808:=dO
theorem ahh{a b:Int}(V : -9223372036854775808<=a/\a<=9223372036854775807)(hb : -9223372036854775808<=b/\b<=9223372036854775807)(h0:b≠0):qj (a-qj (b*Iw a b))=a.tmod b:=by
 have h1:=Int.mul_tdiv_add_tmod a b
 by_cases hc:a = -9223372036854775808/\b = -1
 .obtain⟨rfl,rfl⟩:=hc
  decide
 have O : -9223372036854775808<=a.tdiv b/\a.tdiv b<=9223372036854775807:=by
  have h2:(a.tdiv b).natAbs<=a.natAbs:=by rw[abC];exact Nat.div_le_self _ _
  by_cases E:a = -9223372036854775808
  .subst E
   have U:b≠-1:=λh=>hc ⟨rfl,h⟩
   by_cases M:b=1
   .grind
   .have h3:(Int.tdiv (-9223372036854775808) b).natAbs<=9223372036854775808 / 2:=by
     rw[abC]
     exact Nat.div_le_div_left cW cW
    omega
  .omega
 have hr:(a.tmod b).natAbs<b.natAbs:=by rw[W6];exact Nat.mod_lt _ cW
 unfold Iw
 rw[Ta O]
 have E:b*a.tdiv b=a-a.tmod b:=cW
 have W:(a.tmod b).natAbs<=a.natAbs:=by rw[W6];exact adl _ _
 have I:(0<=a->0<=a.tmod b):=λh=>QV b h
 have J:(a<=0->a.tmod b<=0):=λh=>by
  have:=QV (a:=-a) b cW
  rw[acO]at this;omega
 have B:(-9223372036854775808<=a-a.tmod b/\a-a.tmod b<=9223372036854775807)/\-9223372036854775808<=a.tmod b/\a.tmod b<=9223372036854775807:=by
  rcases aa9 0 a with h|h
  .have:=I h;omega
  .have:=J h;omega
 rw[E,Ta B.1,show a-(a-a.tmod b)=a.tmod b from cW,Ta B.2]
def C228(p:Bool)(w:World):CR 228 [.bool p] w (λv w'=>v=jK (Td p)/\Ext w w'):=by
 have E:=St.start w;refine lx Tryz.func228 ?_;refine aW (λB=>?_) (λB=>?_)
 .rw[B];exact⟨rfl,E.aE⟩
 rw[B];exact⟨rfl,E.aE⟩
def C217(p:Bool)(w:World):CR 217 [.bool p] w (λv w'=>v=jK (Td p)/\Ext w w'):=by
 have E:=St.start w;refine lx Tryz.func217 ?_;refine aW (λB=>?_) (λB=>?_)
 .rw[B];exact⟨rfl,E.aE⟩
 rw[B];exact⟨rfl,E.aE⟩
def C218(a:Int)(w:World):CR 218 [jK a] w (λv w'=>v=.bool (decide (¬ a=0))/\Ext w w'):=by
 have B:=St.start w;refine lx Tryz.func218 ?_;exact bQ ⟨rfl,B.aE⟩
def C229(a b:Int)(w:World)(h:b≠0):CR 229 [jK a,jK b] w (λv w'=>v=jK (Iw a b)/\Ext w w'):=by
 have B:=St.start w;refine lx Tryz.func229 ?_;refine⟨_,?_,λ_ _ h=>h⟩;refine aH (aC (λI=>?_) λI=>?_)
 .refine aH ?_;intro J;refine aC (λE=>?_) (λE=>?_)
  .first|exact⟨rfl,B.aE⟩|(exfalso;simp_all;done)|(rw[I,E,Fe];exact⟨rfl,B.aE⟩)
  refine Io h ?_
  first|exact⟨rfl,B.aE⟩|(exfalso;simp_all;done)|(rw[I,E,Fe];exact⟨rfl,B.aE⟩)
 intro J;refine fM (Io h ?_)
 first|exact⟨rfl,B.aE⟩|(exfalso;simp_all;done)|(rw[I,E,Fe];exact⟨rfl,B.aE⟩)
def C201(op a:Int)(w:World):CR 201 [jK op,jK a] w (λv w'=>v=.tuple #[jK (BZ op a),jK (Qf op)]/\Ext w w'):=by
 have E:=St.start w;refine agC _ _ _ _ ?_;unfold S201;refine aH (aC (λB=>?_) λB=>aH (aC (λI=>?_) λI=>?_))
 .refine xU ?_;unfold BZ Qf
  first|(rw[fV B,fV (.inl B)];exact⟨rfl,E.aE⟩)|(rw[fU B,fV I,fV (.inr I)];exact⟨rfl,E.aE⟩)|(rw[fU B,fU I,fU cW];exact⟨rfl,E.aE⟩)
 .refine aH (aZ Dn E (C228 _ _) λ_ J E=>?_);unfold BZ Qf
  first|(rw[fV B,fV (.inl B)];exact⟨rfl,E.aE⟩)|(rw[fU B,fV I,fV (.inr I)];exact⟨rfl,E.aE⟩)|(rw[fU B,fU I,fU cW];exact⟨rfl,E.aE⟩)
 unfold BZ Qf
 first|(rw[fV B,fV (.inl B)];exact⟨rfl,E.aE⟩)|(rw[fU B,fV I,fV (.inr I)];exact⟨rfl,E.aE⟩)|(rw[fU B,fU I,fU cW];exact⟨rfl,E.aE⟩)
def C173(op a:Int)(w:World):CR 173 [jK op,jK a] w (λv w'=>v=.tuple #[jK (BZ op a),jK (Qf op)]/\Ext w w'):=by
 have B:=St.start w;refine ago _ _ _ _ ?_;unfold S173;refine aH (aC (λE=>?_) λE=>aH (aC (λI=>?_) λI=>?_))
 .refine aa4 ?_;unfold BZ Qf
  first|(rw[fV E,fV (.inl E)];exact⟨rfl,B.aE⟩)|(rw[fU E,fV I,fV (.inr I)];exact⟨hM (λp=>KS #[jK (Td p),jK 0]) eU,B.aE⟩)|(rw[fU E,fU I,fU cW];exact⟨rfl,B.aE⟩)
 .refine aZ Pj B (C218 _ _) (λ_ J B=>?_)
  first|refine HS ?_|refine bV ?_
  refine aZ akA B (C217 _ _) (λ_ J B=>?_);unfold BZ Qf
  first|(rw[fV E,fV (.inl E)];exact⟨rfl,B.aE⟩)|(rw[fU E,fV I,fV (.inr I)];exact⟨hM (λp=>KS #[jK (Td p),jK 0]) eU,B.aE⟩)|(rw[fU E,fU I,fU cW];exact⟨rfl,B.aE⟩)
 unfold BZ Qf
 first|(rw[fV E,fV (.inl E)];exact⟨rfl,B.aE⟩)|(rw[fU E,fV I,fV (.inr I)];exact⟨hM (λp=>KS #[jK (Td p),jK 0]) eU,B.aE⟩)|(rw[fU E,fU I,fU cW];exact⟨rfl,B.aE⟩)
def C202(op a b:Int)(w:World)(V:gb a)(hb:gb b):CR 202 [jK op,jK a,jK b] w (λv w'=>v=.tuple #[jK (jk op a b),jK (jq op b)]/\Ext w w'):=by
 have B:=St.start w;refine agD _ _ _ _ _ ?_;unfold S202;refine aH (aC (λiE=>?_) λiE=>?_)
 .refine DF ?_
  first|(unfold jk jq;rw[fV (show op<5\/15<op by omega)];exact⟨rfl,B.aE⟩)|(subst_vars;first|exact⟨rfl,B.aE⟩|(unfold jk jq nH;simp_all<;>exact B.aE))
 refine aH (aC (λj4=>?_) λj4=>aH (aC (λW=>?_) λW=>aH (aC (λfX=>aH (aC (λM=>?_) λM=>?_)) λfX=>aH (aC (λj5=>aH (aC (λJ=>?_) λJ=>?_)) λj5=>aH (aC (λzA=>?_) λzA=>?_)))))
 .refine xU ?_
  first|(unfold jk jq;rw[fV (show op<5\/15<op by omega)];exact⟨rfl,B.aE⟩)|(subst_vars;first|exact⟨rfl,B.aE⟩|(unfold jk jq nH;simp_all<;>exact B.aE))
 .refine Am ?_
  first|(unfold jk jq;rw[fV (show op<5\/15<op by omega)];exact⟨rfl,B.aE⟩)|(subst_vars;first|exact⟨rfl,B.aE⟩|(unfold jk jq nH;simp_all<;>exact B.aE))
 .first|(unfold jk jq;rw[fV (show op<5\/15<op by omega)];exact⟨rfl,B.aE⟩)|(subst_vars;first|exact⟨rfl,B.aE⟩|(unfold jk jq nH;simp_all<;>exact B.aE))
 .refine aZ akB B (C229 _ _ _ M) (λ_ E B=>?_)
  first|(unfold jk jq;rw[fV (show op<5\/15<op by omega)];exact⟨rfl,B.aE⟩)|(subst_vars;first|exact⟨rfl,B.aE⟩|(unfold jk jq nH;simp_all<;>exact B.aE))
 .first|(unfold jk jq;rw[fV (show op<5\/15<op by omega)];exact⟨rfl,B.aE⟩)|(subst_vars;first|exact⟨rfl,B.aE⟩|(unfold jk jq nH;simp_all<;>exact B.aE))
 .refine aZ akB B (C229 _ _ _ J) (λ_ E B=>Am (xU ?_));rw[ahh V hb J]
  first|(unfold jk jq;rw[fV (show op<5\/15<op by omega)];exact⟨rfl,B.aE⟩)|(subst_vars;first|exact⟨rfl,B.aE⟩|(unfold jk jq nH;simp_all<;>exact B.aE))
 .refine aH (aZ Dn B (C228 _ _) λ_ E B=>?_)
  first|(unfold jk jq;rw[fV (show op<5\/15<op by omega)];exact⟨rfl,B.aE⟩)|(subst_vars;first|exact⟨rfl,B.aE⟩|(unfold jk jq nH;simp_all<;>exact B.aE))
 refine aH (aC (λnI=>?_) λnI=>aH (aC (λLQ=>?_) λLQ=>aH (aC (λO=>?_) λO=>aH (aC (λvu=>⟨_,bQ (aC (λU=>?_) λU=>?_),λ_ _ _ h=>h⟩) λvu=>aH (aC (λI=>⟨_,bQ (aC (λQg=>?_) λQg=>?_),λ_ _ _ h=>h⟩) λI=>?_)))))
 .refine bQ (aZ Dn B (C228 _ _) λ_ E B=>?_)
  first|(unfold jk jq;rw[fV (show op<5\/15<op by omega)];exact⟨rfl,B.aE⟩)|(subst_vars;first|exact⟨rfl,B.aE⟩|(unfold jk jq nH;simp_all<;>exact B.aE))
 .refine aK (aZ Dn B (C228 _ _) λ_ E B=>?_)
  first|(unfold jk jq;rw[fV (show op<5\/15<op by omega)];exact⟨rfl,B.aE⟩)|(subst_vars;first|exact⟨rfl,B.aE⟩|(unfold jk jq nH;simp_all<;>exact B.aE))
 .refine gL (aZ Dn B (C228 _ _) λ_ E B=>?_)
  first|(unfold jk jq;rw[fV (show op<5\/15<op by omega)];exact⟨rfl,B.aE⟩)|(subst_vars;first|exact⟨rfl,B.aE⟩|(unfold jk jq nH;simp_all<;>exact B.aE))
 .refine bQ (aZ Dn B (C228 _ _) λ_ E B=>?_);intro qk
  first|(unfold jk jq;rw[fV (show op<5\/15<op by omega)];exact⟨rfl,B.aE⟩)|(subst_vars;first|exact⟨rfl,B.aE⟩|(unfold jk jq nH;simp_all<;>exact B.aE))
 .refine aZ Dn B (C228 _ _) (λ_ E B=>?_);intro qk
  first|(unfold jk jq;rw[fV (show op<5\/15<op by omega)];exact⟨rfl,B.aE⟩)|(subst_vars;first|exact⟨rfl,B.aE⟩|(unfold jk jq nH;simp_all<;>exact B.aE))
 .refine aZ Dn B (C228 _ _) (λ_ E B=>?_);intro se
  first|(unfold jk jq;rw[fV (show op<5\/15<op by omega)];exact⟨rfl,B.aE⟩)|(subst_vars;first|exact⟨rfl,B.aE⟩|(unfold jk jq nH;simp_all<;>exact B.aE))
 .refine bQ (aZ Dn B (C228 _ _) λ_ E B=>?_);intro se
  first|(unfold jk jq;rw[fV (show op<5\/15<op by omega)];exact⟨rfl,B.aE⟩)|(subst_vars;first|exact⟨rfl,B.aE⟩|(unfold jk jq nH;simp_all<;>exact B.aE))
 first|(unfold jk jq;rw[fV (show op<5\/15<op by omega)];exact⟨rfl,B.aE⟩)|(subst_vars;first|exact⟨rfl,B.aE⟩|(unfold jk jq nH;simp_all<;>exact B.aE))
def vv:auV ji 289 16 288:=⟨by kernel_rfl,by kernel_rfl⟩
def auZ(b1 b2 b3 b4 B b6:Nat)(w:World):Prop:=
 Cell w b1 0 (.func (.func 243) #[] #[])/\Cell w b2 0 (.func (.func 244) #[] #[])/\Cell w b3 0 (.func (.func 245) #[] #[])/\Cell w b4 0 (.func (.func 246) #[] #[])/\Cell w B 0 (.func (.func 247) #[] #[])/\Cell w b6 0 (.func (.func 248) #[] #[])
def opsV(b1 b2 b3 b4 B b6:Nat):Value:=
 .agg [.nilFunc,.nilFunc,.nilFunc,.nilFunc,.nilFunc,.func (.func 238) #[] #[],.func (.func 239) #[] #[],.func (.func 240) #[] #[],.func (.func 241) #[] #[],.func (.func 242) #[] #[],
  .func (.func 237) #[] #[.pointer (some ⟨b1,0,none⟩)],.func (.func 237) #[] #[.pointer (some ⟨b2,0,none⟩)],.func (.func 237) #[] #[.pointer (some ⟨b3,0,none⟩)],.func (.func 237) #[] #[.pointer (some ⟨b4,0,none⟩)],
  .func (.func 237) #[] #[.pointer (some ⟨B,0,none⟩)],.func (.func 237) #[] #[.pointer (some ⟨b6,0,none⟩)]].toArray
def Fb2(f:Value)(g:Int->Int->Bool):Prop:=∃B,f=.func (.func B) #[] #[]/\Plain ji B/\
 ∀a b E,Calls ji B [jK a,jK b].toArray E (qZ λv I=>v=.bool (g a b)/\Ext E I)
def C238(a b:Int)(w:World):CR 238 [jK a,jK b] w (λv w'=>v=jK (qj (a+b))/\Ext w w'):=by
 have B:=St.start w;refine lx Tryz.func238 ?_;exact DF ⟨rfl,B.aE⟩
def C239(a b:Int)(w:World):CR 239 [jK a,jK b] w (λv w'=>v=jK (qj (a-b))/\Ext w w'):=by
 have B:=St.start w;refine lx Tryz.func239 ?_;exact xU ⟨rfl,B.aE⟩
def C240(a b:Int)(w:World):CR 240 [jK a,jK b] w (λv w'=>v=jK (qj (a*b))/\Ext w w'):=by
 have B:=St.start w;refine lx Tryz.func240 ?_;exact Am ⟨rfl,B.aE⟩
def C241(a b:Int)(w:World)(h:b≠0):CR 241 [jK a,jK b] w (λv w'=>v=jK (Iw a b)/\Ext w w'):=by
 have B:=St.start w;refine lx Tryz.func241 ?_;exact Io h ⟨rfl,B.aE⟩
def C242(a b:Int)(w:World)(h:b≠0):CR 242 [jK a,jK b] w (λv w'=>v=jK (a.tmod b)/\Ext w w'):=by
 have B:=St.start w;refine lx Tryz.func242 ?_;exact aa5 h ⟨rfl,B.aE⟩
def C243(a b:Int)(w:World):CR 243 [jK a,jK b] w (λv w'=>v=.bool (decide (a=b))/\Ext w w'):=by
 have B:=St.start w;refine lx Tryz.func243 ?_;exact aH ⟨rfl,B.aE⟩
def C244(a b:Int)(w:World):CR 244 [jK a,jK b] w (λv w'=>v=.bool (decide (¬ a=b))/\Ext w w'):=by
 have B:=St.start w;refine lx Tryz.func244 ?_;exact bQ ⟨rfl,B.aE⟩
def C245(a b:Int)(w:World):CR 245 [jK a,jK b] w (λv w'=>v=.bool (decide (a<b))/\Ext w w'):=by
 have B:=St.start w;refine lx Tryz.func245 ?_;exact aK ⟨rfl,B.aE⟩
def C246(a b:Int)(w:World):CR 246 [jK a,jK b] w (λv w'=>v=.bool (decide (a<=b))/\Ext w w'):=by
 have B:=St.start w;refine lx Tryz.func246 ?_;exact gL ⟨rfl,B.aE⟩
def C247(a b:Int)(w:World):CR 247 [jK a,jK b] w (λv w'=>v=.bool (decide (¬ a=0)&&decide (¬ b=0))/\Ext w w'):=by
 have B:=St.start w;refine lx Tryz.func247 ?_;refine⟨_,?_,λ_ _ h=>h⟩;refine aZ Pj B (C218 _ _) (λ_ J B=>aC (λE=>?_) λE=>?_)
 .refine aZ Pj B (C218 _ _) (λ_ J B=>?_);intro I
  first|(rw[gq E];exact⟨rfl,B.aE⟩)|(rw[gD E];exact⟨rfl,B.aE⟩)
 intro I
 first|(rw[gq E];exact⟨rfl,B.aE⟩)|(rw[gD E];exact⟨rfl,B.aE⟩)
def C248(a b:Int)(w:World):CR 248 [jK a,jK b] w (λv w'=>v=.bool (decide (¬ a=0)||decide (¬ b=0))/\Ext w w'):=by
 have B:=St.start w;refine lx Tryz.func248 ?_;refine⟨_,?_,λ_ _ h=>h⟩;refine aZ Pj B (C218 _ _) (λ_ J B=>aC (λE=>?_) λE=>?_)
 .intro I
  first|(rw[gq E];exact⟨rfl,B.aE⟩)|(rw[gD E];exact⟨rfl,B.aE⟩)
 refine aZ Pj B (C218 _ _) (λ_ J B=>?_);intro I
 first|(rw[gq E];exact⟨rfl,B.aE⟩)|(rw[gD E];exact⟨rfl,B.aE⟩)
def C236(g:Nat)(w:World):CR 236 [.func (.func g) #[] #[]] w (λv w'=>∃b,v=.func (.func 237) #[] #[.pointer (some ⟨b,0,none⟩)]/\mr (cI b [.func (.func g) #[] #[]]) w w'):=by
 have B:=St.start w;refine lx Tryz.func236 ?_;exact xF B rfl (λE _ B=>⟨E,rfl,B.fresh⟩)
def C237(a b:Int)(b2:Nat)(fv:Value)(g:Int->Int->Bool)(w:World)(hc:Cell w b2 0 fv)(I:Fb2 fv g):CR 237 [jK a,jK b,.pointer (some ⟨b2,0,none⟩)] w (λv w'=>v=jK (Td (g a b))/\Ext w w'):=by
 obtain⟨M,rfl,uf,E⟩:=I;have B:=St.start w;refine lx Tryz.func237 ?_;refine aU auG (hc.ext B.aE) (iH (first:=[]) (cap:=[]) uf (E a b _) ?_);rintro _ _ ⟨rfl,J⟩;have B:=B.ext J;exact aZ akA B (C217 _ _) (λ_ _ B=>⟨rfl,B.aE⟩)
def C219(w:World):CR 219 [] w (λv w'=>∃b1 b2 b3 b4 b5 b6,v=opsV b1 b2 b3 b4 b5 b6/\mr (fB (auZ b1 b2 b3 b4 b5 b6)) w w'):=by
 have B:=St.start w;refine agH _ _ ?_;unfold S219;refine aR B VW (λb_x0 _ B=>aR B VW λW _ B=>rq vv cW cW (aS B Ah (dV rfl) (rfl) λ_ B=>rq vv cW cW (aS B Ah (dV rfl) (rfl) λ_ B=>rq vv cW cW (aS B Ah (dV rfl) (rfl) λ_ B=>rq vv cW cW (aS B Ah (dV rfl) (rfl) λ_ B=>rq vv cW cW (aS B Ah (dV rfl) (rfl) λ_ B=>iH (first:=[]) (cap:=[]) LD (C236 243 _) ?_))))));rintro _ _ ⟨M,rfl,E⟩;have B:=B.made E;refine rq vv cW cW (aS B.p1 Ah (dV rfl) (rfl) λ_ B=>iH (first:=[]) (cap:=[]) LD (C236 244 _) ?_)
 rintro _ _ ⟨U,rfl,E⟩;have B:=B.made E;refine rq vv cW cW (aS B.p1 Ah (dV rfl) (rfl) λ_ B=>iH (first:=[]) (cap:=[]) LD (C236 245 _) ?_);rintro _ _ ⟨I,rfl,E⟩;have B:=B.made E;refine rq vv cW cW (aS B.p1 Ah (dV rfl) (rfl) λ_ B=>iH (first:=[]) (cap:=[]) LD (C236 246 _) ?_);rintro _ _ ⟨O,rfl,E⟩;have B:=B.made E;refine rq vv cW cW (aS B.p1 Ah (dV rfl) (rfl) λ_ B=>iH (first:=[]) (cap:=[]) LD (C236 247 _) ?_);rintro _ _ ⟨J,rfl,E⟩;have B:=B.made E;refine rq vv cW cW (aS B.p1 Ah (dV rfl) (rfl) λ_ B=>iH (first:=[]) (cap:=[]) LD (C236 248 _) ?_)
 rintro _ _ ⟨V,rfl,E⟩;have B:=B.made E;refine rq vv cW cW (aS B.p1 Ah (dV rfl) (rfl) λ_ B=>vi aaL B.hb rfl (tx B.p7 aaL rfl dO (by simp[vh,jI]) λ_ B=>vi aaL B.hb rfl ?_));have B:=B.drop.drop.p1.p2.p3.p4.p5.uY.p1.uY.p2.uY.p3;have B:=B.uY.p4.uY.p5.uY.gU.gU.gU.gU.gU;refine⟨M,U,I,O,J,V,rfl,(B.dT (Ψ:=auZ M U I O J V) λw h=>?_).fresh⟩;obtain⟨⟨⟨⟨⟨h6,h5⟩,h4⟩,h3⟩,h2⟩,h1⟩:=h;exact⟨h1.cell rfl,h2.cell rfl,h3.cell rfl,h4.cell rfl,h5.cell rfl,h6.cell rfl⟩
def fb1:Fb2 (.func (.func 243) #[] #[]) (λa b=>decide (a=b)):=⟨243,rfl,aun,λa b B=>C243 a b B⟩
def fb2:Fb2 (.func (.func 244) #[] #[]) (λa b=>decide (¬ a=b)):=⟨244,rfl,auo,λa b B=>C244 a b B⟩
def fb3:Fb2 (.func (.func 245) #[] #[]) (λa b=>decide (a<b)):=⟨245,rfl,aup,λa b B=>C245 a b B⟩
def fb4:Fb2 (.func (.func 246) #[] #[]) (λa b=>decide (a<=b)):=⟨246,rfl,auq,λa b B=>C246 a b B⟩
def fb5:Fb2 (.func (.func 247) #[] #[]) (λa b=>decide (¬ a=0)&&decide (¬ b=0)):=⟨247,rfl,aur,λa b B=>C247 a b B⟩
def fb6:Fb2 (.func (.func 248) #[] #[]) (λa b=>decide (¬ a=0)||decide (¬ b=0)):=⟨248,rfl,aus,λa b B=>C248 a b B⟩
def C175(op a b:Int)(w:World):CR 175 [jK op,jK a,jK b] w (λv w'=>v=.tuple #[jK (jk op a b),jK (jq op b)]/\Ext w w'):=by
 have B:=St.start w;refine agp _ _ _ _ _ ?_;unfold S175;refine⟨_,?_,λ_ _ h=>h⟩;refine aK (aC (λiE=>?_) λiE=>?_)
 .intro qk;refine jt ?_
  first|exact⟨rfl,B.aE⟩|(subst_vars;exact⟨rfl,B.aE⟩)|(refine⟨?_,B.aE⟩;unfold jk jq nH;first|(rw[fV (show op<5\/15<op by omega)];rfl)|simp[*])
 refine cN ?_;intro qk;refine aC (λkn=>?_) (λkn=>?_)
 .first|exact⟨rfl,B.aE⟩|(subst_vars;exact⟨rfl,B.aE⟩)|(refine⟨?_,B.aE⟩;unfold jk jq nH;first|(rw[fV (show op<5\/15<op by omega)];rfl)|simp[*])
 refine eR at7 (C219 _) ?_;rintro _ _ ⟨b1,b2,b3,b4,b5,b6,rfl,cJ⟩;have B:=B.made cJ;obtain rfl|rfl|rfl|rfl|rfl|rfl|rfl|rfl|rfl|rfl|rfl|rfl|rfl|rfl|rfl|rfl:op=0\/op=1\/op=2\/op=3\/op=4\/op=5\/op=6\/op=7\/op=8\/op=9\/op=10\/op=11\/op=12\/op=13\/op=14\/op=15:=cW
 .refine pop (v:=.nilFunc) (by kernel_rfl) (pop (v:=.bool true) (by kernel_rfl) (jt ?_))
  first|exact⟨rfl,B.aE⟩|(subst_vars;exact⟨rfl,B.aE⟩)|(refine⟨?_,B.aE⟩;unfold jk jq nH;first|(rw[fV (show op<5\/15<op by omega)];rfl)|simp[*])
 .refine pop (v:=.nilFunc) (by kernel_rfl) (pop (v:=.bool true) (by kernel_rfl) (jt ?_))
  first|exact⟨rfl,B.aE⟩|(subst_vars;exact⟨rfl,B.aE⟩)|(refine⟨?_,B.aE⟩;unfold jk jq nH;first|(rw[fV (show op<5\/15<op by omega)];rfl)|simp[*])
 .refine pop (v:=.nilFunc) (by kernel_rfl) (pop (v:=.bool true) (by kernel_rfl) (jt ?_))
  first|exact⟨rfl,B.aE⟩|(subst_vars;exact⟨rfl,B.aE⟩)|(refine⟨?_,B.aE⟩;unfold jk jq nH;first|(rw[fV (show op<5\/15<op by omega)];rfl)|simp[*])
 .refine pop (v:=.nilFunc) (by kernel_rfl) (pop (v:=.bool true) (by kernel_rfl) (jt ?_))
  first|exact⟨rfl,B.aE⟩|(subst_vars;exact⟨rfl,B.aE⟩)|(refine⟨?_,B.aE⟩;unfold jk jq nH;first|(rw[fV (show op<5\/15<op by omega)];rfl)|simp[*])
 .refine pop (v:=.nilFunc) (by kernel_rfl) (pop (v:=.bool true) (by kernel_rfl) (jt ?_))
  first|exact⟨rfl,B.aE⟩|(subst_vars;exact⟨rfl,B.aE⟩)|(refine⟨?_,B.aE⟩;unfold jk jq nH;first|(rw[fV (show op<5\/15<op by omega)];rfl)|simp[*])
 .refine pop (v:=.func (.func 238) #[] #[]) (by kernel_rfl) (pop (v:=.bool false) (by kernel_rfl) (fM ?_));refine⟨_,?_,λ_ _ h=>h⟩;refine aH (fI dO (aH (fI dO ?_)));intro I;refine fM (iH (first:=[]) (cap:=[]) aui (C238 a b _) ?_);rintro _ J ⟨rfl,E⟩;have B:=B.ext E
  first|exact⟨rfl,B.aE⟩|(subst_vars;exact⟨rfl,B.aE⟩)|(refine⟨?_,B.aE⟩;unfold jk jq nH;first|(rw[fV (show op<5\/15<op by omega)];rfl)|simp[*])
 .refine pop (v:=.func (.func 239) #[] #[]) (by kernel_rfl) (pop (v:=.bool false) (by kernel_rfl) (fM ?_));refine⟨_,?_,λ_ _ h=>h⟩;refine aH (fI dO (aH (fI dO ?_)));intro I;refine fM (iH (first:=[]) (cap:=[]) auj (C239 a b _) ?_);rintro _ J ⟨rfl,E⟩;have B:=B.ext E
  first|exact⟨rfl,B.aE⟩|(subst_vars;exact⟨rfl,B.aE⟩)|(refine⟨?_,B.aE⟩;unfold jk jq nH;first|(rw[fV (show op<5\/15<op by omega)];rfl)|simp[*])
 .refine pop (v:=.func (.func 240) #[] #[]) (by kernel_rfl) (pop (v:=.bool false) (by kernel_rfl) (fM ?_));refine⟨_,?_,λ_ _ h=>h⟩;refine aH (fI dO (aH (fI dO ?_)));intro I;refine fM (iH (first:=[]) (cap:=[]) auk (C240 a b _) ?_);rintro _ J ⟨rfl,E⟩;have B:=B.ext E
  first|exact⟨rfl,B.aE⟩|(subst_vars;exact⟨rfl,B.aE⟩)|(refine⟨?_,B.aE⟩;unfold jk jq nH;first|(rw[fV (show op<5\/15<op by omega)];rfl)|simp[*])
 .refine pop (v:=.func (.func 241) #[] #[]) (by kernel_rfl) (pop (v:=.bool false) (by kernel_rfl) (fM ?_));refine⟨_,?_,λ_ _ h=>h⟩;refine aH (il dO (aH ?_));intro I;refine aC (λiM=>?_) (λiM=>?_)
  .first|exact⟨rfl,B.aE⟩|(subst_vars;exact⟨rfl,B.aE⟩)|(refine⟨?_,B.aE⟩;unfold jk jq nH;first|(rw[fV (show op<5\/15<op by omega)];rfl)|simp[*])
  refine iH (first:=[]) (cap:=[]) aul (C241 a b _ iM) ?_;rintro _ J ⟨rfl,E⟩;have B:=B.ext E
  first|exact⟨rfl,B.aE⟩|(subst_vars;exact⟨rfl,B.aE⟩)|(refine⟨?_,B.aE⟩;unfold jk jq nH;first|(rw[fV (show op<5\/15<op by omega)];rfl)|simp[*])
 .refine pop (v:=.func (.func 242) #[] #[]) (by kernel_rfl) (pop (v:=.bool false) (by kernel_rfl) (fM ?_));refine⟨_,?_,λ_ _ h=>h⟩;refine aH (fI dO (aH (il dO (aH ?_))));intro I;refine aC (λiM=>?_) (λiM=>?_)
  .first|exact⟨rfl,B.aE⟩|(subst_vars;exact⟨rfl,B.aE⟩)|(refine⟨?_,B.aE⟩;unfold jk jq nH;first|(rw[fV (show op<5\/15<op by omega)];rfl)|simp[*])
  refine iH (first:=[]) (cap:=[]) aum (C242 a b _ iM) ?_;rintro _ J ⟨rfl,E⟩;have B:=B.ext E
  first|exact⟨rfl,B.aE⟩|(subst_vars;exact⟨rfl,B.aE⟩)|(refine⟨?_,B.aE⟩;unfold jk jq nH;first|(rw[fV (show op<5\/15<op by omega)];rfl)|simp[*])
 .refine pop (v:=.func (.func 237) #[] #[.pointer (some ⟨b1,0,none⟩)]) (by kernel_rfl) (pop (v:=.bool false) (by kernel_rfl) (fM ?_));refine⟨_,?_,λ_ _ h=>h⟩;refine aH (fI dO (aH (fI dO ?_)));intro I;refine fM ?_;obtain⟨o1,M,O,V,W,U⟩:=B.fB;refine iH (first:=[]) (cap:=[.pointer (some ⟨b1,0,none⟩)]) LF (C237 a b b1 _ _ _ o1 fb1) ?_;rintro _ J ⟨rfl,E⟩;have B:=B.ext E
  first|exact⟨rfl,B.aE⟩|(subst_vars;exact⟨rfl,B.aE⟩)|(refine⟨?_,B.aE⟩;unfold jk jq nH;first|(rw[fV (show op<5\/15<op by omega)];rfl)|simp[*])
 .refine pop (v:=.func (.func 237) #[] #[.pointer (some ⟨b2,0,none⟩)]) (by kernel_rfl) (pop (v:=.bool false) (by kernel_rfl) (fM ?_));refine⟨_,?_,λ_ _ h=>h⟩;refine aH (fI dO (aH (fI dO ?_)));intro I;refine fM ?_;obtain⟨o1,M,O,V,W,U⟩:=B.fB;refine iH (first:=[]) (cap:=[.pointer (some ⟨b2,0,none⟩)]) LF (C237 a b b2 _ _ _ M fb2) ?_;rintro _ J ⟨rfl,E⟩;have B:=B.ext E
  first|exact⟨rfl,B.aE⟩|(subst_vars;exact⟨rfl,B.aE⟩)|(refine⟨?_,B.aE⟩;unfold jk jq nH;first|(rw[fV (show op<5\/15<op by omega)];rfl)|simp[*])
 .refine pop (v:=.func (.func 237) #[] #[.pointer (some ⟨b3,0,none⟩)]) (by kernel_rfl) (pop (v:=.bool false) (by kernel_rfl) (fM ?_));refine⟨_,?_,λ_ _ h=>h⟩;refine aH (fI dO (aH (fI dO ?_)));intro I;refine fM ?_;obtain⟨o1,M,O,V,W,U⟩:=B.fB;refine iH (first:=[]) (cap:=[.pointer (some ⟨b3,0,none⟩)]) LF (C237 a b b3 _ _ _ O fb3) ?_;rintro _ J ⟨rfl,E⟩;have B:=B.ext E
  first|exact⟨rfl,B.aE⟩|(subst_vars;exact⟨rfl,B.aE⟩)|(refine⟨?_,B.aE⟩;unfold jk jq nH;first|(rw[fV (show op<5\/15<op by omega)];rfl)|simp[*])
 .refine pop (v:=.func (.func 237) #[] #[.pointer (some ⟨b4,0,none⟩)]) (by kernel_rfl) (pop (v:=.bool false) (by kernel_rfl) (fM ?_));refine⟨_,?_,λ_ _ h=>h⟩;refine aH (fI dO (aH (fI dO ?_)));intro I;refine fM ?_;obtain⟨o1,M,O,V,W,U⟩:=B.fB;refine iH (first:=[]) (cap:=[.pointer (some ⟨b4,0,none⟩)]) LF (C237 a b b4 _ _ _ V fb4) ?_;rintro _ J ⟨rfl,E⟩;have B:=B.ext E
  first|exact⟨rfl,B.aE⟩|(subst_vars;exact⟨rfl,B.aE⟩)|(refine⟨?_,B.aE⟩;unfold jk jq nH;first|(rw[fV (show op<5\/15<op by omega)];rfl)|simp[*])
 .refine pop (v:=.func (.func 237) #[] #[.pointer (some ⟨b5,0,none⟩)]) (by kernel_rfl) (pop (v:=.bool false) (by kernel_rfl) (fM ?_));refine⟨_,?_,λ_ _ h=>h⟩;refine aH (fI dO (aH (fI dO ?_)));intro I;refine fM ?_;obtain⟨o1,M,O,V,W,U⟩:=B.fB;refine iH (first:=[]) (cap:=[.pointer (some ⟨b5,0,none⟩)]) LF (C237 a b b5 _ _ _ W fb5) ?_;rintro _ J ⟨rfl,E⟩;have B:=B.ext E
  first|exact⟨rfl,B.aE⟩|(subst_vars;exact⟨rfl,B.aE⟩)|(refine⟨?_,B.aE⟩;unfold jk jq nH;first|(rw[fV (show op<5\/15<op by omega)];rfl)|simp[*])
 refine pop (v:=.func (.func 237) #[] #[.pointer (some ⟨b6,0,none⟩)]) (by kernel_rfl) (pop (v:=.bool false) (by kernel_rfl) (fM ?_));refine⟨_,?_,λ_ _ h=>h⟩;refine aH (fI dO (aH (fI dO ?_)));intro I;refine fM ?_;obtain⟨o1,M,O,V,W,U⟩:=B.fB;refine iH (first:=[]) (cap:=[.pointer (some ⟨b6,0,none⟩)]) LF (C237 a b b6 _ _ _ U fb6) ?_;rintro _ J ⟨rfl,E⟩;have B:=B.ext E
 first|exact⟨rfl,B.aE⟩|(subst_vars;exact⟨rfl,B.aE⟩)|(refine⟨?_,B.aE⟩;unfold jk jq nH;first|(rw[fV (show op<5\/15<op by omega)];rfl)|simp[*])
theorem ja{α:Type}{l:List α}{k:Nat}{e:α}(h:l[k]?=some e):l.take k++[e]=l.take (k+1):=by rw[xp,h];rfl
def eY{α:Type}{φ:α->Prop}{l:List α}{k:Nat}{e:α}(h:∀y∈l.take k,φ y)(E:l[k]?=some e)(I:φ e):∀y∈l.take (k+1),φ y:=by
 intro y B
 rw[<- ja E]at B
 grind
theorem ko{α:Type}{g:α->Bool}{l:List α}{k:Nat}{e:α}(B:l[k]?=some e)(E:g e=true):l.any g=true:=z6.2 ⟨e,ld B,E⟩
theorem iX{α:Type}{g:α->Bool}{l:List α}(h:∀y∈l,g y=false):l.any g=false:=by
 grind
def yO{α:Type}(g:α->Bool)(l:List α):Int:=match l.findIdx? g with|some k=>k|none=>-1
def ti{α:Type}{g:α->Bool}{l:List α}{k:Nat}{e:α}(B:∀y∈l.take k,g y=false)(I:l[k]?=some e)(M:g e=true):yO g l=k:=by
 have:l.findIdx? g=some k:=by
  rw[List.findIdx?_eq_some_iff_getElem]
  have E:=(l0.1 I).1
  refine⟨E,eS,λj J=>?_⟩
  have:=B (l[j]'(cW)) (List.mem_take_iff_getElem.2 ⟨j,cW,rfl⟩)
  simp[this]
 unfold yO;rw[this]
def mU{α:Type}{g:α->Bool}{l:List α}(B:∀y∈l,g y=false):yO g l = -1:=by
 grind[yO]
def rA{α:Type}(g:α->Bool)(l:List α):decide (0<=yO g l)=l.any g:=by
 grind[yO]
def GF{α:Type}[Flat α](w:World)(f:Value)(g:α->Bool):Prop:=∃E first cap,f=.func (.func E) (W0 first) (W0 cap)/\Plain ji E/\
 ∀x B,Ext w B->Calls ji E (first++[j6 x]++cap).toArray B (qZ λv I=>v=.bool (g x)/\Ext B I)
theorem GF.ext{α:Type}[Flat α]{w w':World}{f:Value}{g:α->Bool}(h:GF w f g)(e:Ext w w'):GF w' f g:=by
 obtain⟨E,first,cap,h1,h2,h3⟩:=h;exact⟨E,first,cap,h1,h2,λx B e1=>h3 x B (e.trans e1)⟩
def eP(k:Int):Int:=if k=3\/k=4 then 1 else if 5<=k/\k<=15 then 2 else 0
def ZO(st:Option (Int×Int))(x:nQ):Option (Int×Int):=match st with
 | none=>none
 | some (n,h)=>if n-eP x.kind<0 then none else some (n-eP x.kind+1,max h (n-eP x.kind+1))
def ht(l:List nQ):Option (Int×Int):=l.foldl ZO (some (0,0))
def htN(l:List nQ):Int:=match ht l with|some p=>p.1|none=>0
def htH(l:List nQ):Int:=match ht l with|some p=>p.2|none=>0
theorem DJ{l:List nQ}{k:Nat}{x:nQ}(h:l[k]?=some x):ht (l.take (k+1))=ZO (ht (l.take k)) x:=by
 unfold ht;rw[<- ja h,LA];rfl
def rB{l:List nQ}{k:Nat}(h:ht (l.take k)=none):ht l=none:=by
 have B:∀m:List nQ,m.foldl ZO none=none:=λm=>by induction m with|nil=>rfl|cons y m E=>exact E
 have e:l=l.take k++l.drop k:=(s6 k l).symm
 grind[ht]
def V5(k:Int):0<=eP k/\eP k<=2:=by
 grind[eP]
theorem Yd{l:List nQ}:∀k n h,k<=l.length->ht (l.take k)=some (n,h)->0<=n/\n<=(k:Int)/\0<=h/\h<=(k:Int)
 | 0,n,h,_,e=>by
  have:ht ([]:List nQ)=some (0,0):=rfl
  grind
 | k+1,n,h,I,e=>by
  obtain⟨x,B⟩:=gx l (i:=k) cW
  rw[DJ B]at e
  cases hp:ht (l.take k)with
  | none=>rw[hp]at e;cases e
  | some p=>
   obtain⟨a,b⟩:=p
   have E:=Yd k a b cW hp
   have J:=V5 x.kind
   rw[hp]at e
   unfold ZO at e
   grind
def tj{l:List nQ}{k:Nat}{x:nQ}{n h m:Int}(B:l[k]?=some x)(E:ht (l.take k)=some (n,h))(I:m=n-eP x.kind)(J:¬ m<0):ht (l.take (k+1))=some (m+1,max h (m+1)):=by
 rw[DJ B,E];grind[ZO]
def xf{l:List nQ}{k:Nat}{x:nQ}{n h m:Int}(B:l[k]?=some x)(E:ht (l.take k)=some (n,h))(I:m=n-eP x.kind)(J:m<0):ht (l.take (k+1))=none:=by
 rw[DJ B,E];grind[ZO]
def kq(many:Int)(x:nQ):Bool:=decide ((x.kind=1/\(x.n<0\/4294967296<x.n))\/(x.kind=2/\(x.n<0\/many<=x.n))\/(¬ x.kind=1/\¬ x.kind=2/\(¬ x.n=0\/x.kind<1\/16<=x.kind)))
def eJ(l:List nQ)(many:Int):Bool:=decide (l.length<=40)&&(ht l).isSome&&decide (htN l=1)&&!l.any (kq many)
def C171(k:Int)(w:World):CR 171 [jK k] w (λv w'=>v=jK (eP k)/\Ext w w'):=by
 have E:=St.start w;refine lx Tryz.func171 ?_;refine⟨λJ w'=>J=.bool (decide (k=3\/k=4))/\w=w',aH (aC (λ_=>⟨Ky cW,rfl⟩) λ_=>aH ⟨uS cW,rfl⟩),?_⟩;rintro _ _ ⟨rfl,M⟩ _;subst M;refine aC (λB=>?_) (λB=>⟨λJ w'=>J=.bool (decide (5<=k/\k<=15))/\w=w',cN (aC (λ_=>gL ⟨uS cW,rfl⟩) λ_=>⟨jvF cW,rfl⟩),?_⟩)
 .unfold eP
  first|(rw[fV B];exact⟨rfl,E.aE⟩)|(rw[fU B,fV I];exact⟨rfl,E.aE⟩)|(rw[fU B,fU I];exact⟨rfl,E.aE⟩)
 rintro _ _ ⟨rfl,M⟩ _;subst M;refine aC (λI=>?_) (λI=>?_)
 .unfold eP
  first|(rw[fV B];exact⟨rfl,E.aE⟩)|(rw[fU B,fV I];exact⟨rfl,E.aE⟩)|(rw[fU B,fU I];exact⟨rfl,E.aE⟩)
 unfold eP
 first|(rw[fV B];exact⟨rfl,E.aE⟩)|(rw[fU B,fV I];exact⟨rfl,E.aE⟩)|(rw[fU B,fU I];exact⟨rfl,E.aE⟩)
def C183(V:Value)(xs:List nQ)(w:World)(O:eN (λ_=>True) w V xs)(hn:xs.length<=1048576):CR 183 [V] w (λv w'=>v=.tuple #[jK (htN xs),jK (htH xs),.bool (ht xs).isSome]/\Ext w w'):=by
 have B:=St.start w;refine lx Tryz.func183 ?_;refine aI lD (O.ext B.aE) ?_;refine⟨λm y z x U=>∃(k:Nat) (n h:Int),y=jK n/\z=jK h/\x=jK (k:Int)/\m=xs.length-k/\k<=xs.length/\ht (xs.take k)=some (n,h)/\St w aY [] U,⟨_,0,0,0,rfl,rfl,rfl,rfl,cW,rfl,B⟩,?_⟩;rintro m _ _ _ U ⟨k,n,h,rfl,rfl,rfl,rfl,hk,E,B⟩ _;refine aK (aC (λkm=>?_) λkm=>?_)
 .obtain⟨I,J⟩:=gx xs (i:=(k:Int).toNat) cW;refine aQ lD (O.ext B.aE) cW J (λ_ Qh=>aF Pz Qh (aR B VT λFg _ B=>aO (x:=I) B Pz rfl rfl λ_ B=>aA jx (aB aV B.hb rfl (aZ aks B (C171 _ _) λ_ he B=>?_))));have hw:=V5 I.kind;have hhb:=Yd k n h cW E;refine eW cW (aK (aC (λM=>?_) λM=>aN cW (Bt (aN cW ⟨_,cW,k+1,_,_,rfl,rfl,rfl,rfl,cW,by rw[DJ (k:=k) J,E];unfold ZO;simp only[];rw[fU M],B.drop⟩))));have W:ht xs=none:=rB (k:=k+1) (by rw[DJ (k:=k) J,E];unfold ZO;simp only[];rw[fV M])
  unfold htN htH;rw[W];exact⟨rfl,B.aE⟩
 rw[mE cW]at E;unfold htN htH;rw[E];exact⟨rfl,B.aE⟩
def C182(x:nQ)(b2:Nat)(many:Int)(w:World)(hc:Cell w b2 0 (jK many)):CR 182 [j6 x,.pointer (some ⟨b2,0,none⟩)] w (λv w'=>v=.bool (kq many x)/\Ext w w'):=by
 have B:=St.start w;refine lx Tryz.func182 ?_;refine cU B (λmV _ B=>aA jx (aB aV B.hb rfl (aH (aC (λV=>⟨_,aA pO (aB aV B.hb rfl (aK (aC (λW=>?_) λW=>?_))),λ_ _ h=>h⟩) λV=>aA jx (aB aV B.hb rfl (aH (aC (λI=>⟨_,aA pO (aB aV B.hb rfl (aK (aC (λU=>?_) λU=>?_))),λ_ _ h=>h⟩) λI=>?_)))))))
 .intro O;refine⟨vb ?_,B.aE⟩;unfold kq
  first|exact(gq cW).symm|exact(gD cW).symm|exact hI.2 cW
 .refine aA pO (aB aV B.hb rfl (cG ?_));intro O;refine⟨vb ?_,B.aE⟩;unfold kq
  first|exact(gq cW).symm|exact(gD cW).symm|exact hI.2 cW
 .intro M;refine⟨vb ?_,B.aE⟩;unfold kq
  first|exact(gq cW).symm|exact(gD cW).symm|exact hI.2 cW
 .refine aA pO (aB aV B.hb rfl (aU aV (hc.ext B.aE) (cN ?_)));intro M;refine⟨vb ?_,B.aE⟩;unfold kq
  first|exact(gq cW).symm|exact(gD cW).symm|exact hI.2 cW
 refine⟨_,?_,λ_ _ h=>h⟩;refine aA pO (aB aV B.hb rfl (bQ (aC (λmW=>?_) λmW=>aA jx (aB aV B.hb rfl (aK (aC (λJ=>?_) λJ=>?_))))))
 .intro E;refine⟨vb ?_,B.aE⟩;unfold kq
  first|exact(gq cW).symm|exact(gD cW).symm|exact hI.2 cW
 .intro E;refine⟨vb ?_,B.aE⟩;unfold kq
  first|exact(gq cW).symm|exact(gD cW).symm|exact hI.2 cW
 refine aA jx (aB aV B.hb rfl (cN ?_));intro E;refine⟨vb ?_,B.aE⟩;unfold kq
 first|exact(gq cW).symm|exact(gD cW).symm|exact hI.2 cW
def C223(U fv:Value)(xs:List nQ)(g:nQ->Bool)(w:World)(O:eN (λ_=>True) w U xs)(hf:GF w fv g)(hn:xs.length<=1073741824):CR 223 [U,fv] w (λv w'=>v=jK (yO g xs)/\Ext w w'):=by
 obtain⟨g0,first,cap,rfl,uf,W⟩:=hf;have B:=St.start w;refine lx Tryz.func223 ?_;refine aI lD (O.ext B.aE) ?_;refine⟨λm x J=>∃k:Nat,x=jK (k:Int)/\m=xs.length-k/\k<=xs.length/\(∀y∈xs.take k,g y=false)/\St w aY [] J,⟨_,0,rfl,rfl,o6 _,eU,B⟩,?_⟩;rintro m _ J ⟨k,rfl,rfl,hk,E,B⟩ _;refine aK (aC (λkG=>?_) λ_=>⟨hM (qs .i64) (mU (by rw[mE cW]at E;exact E)).symm,B.aE⟩);obtain⟨jm,I⟩:=gx xs (i:=(k:Int).toNat) cW;refine aQ lD (O.ext B.aE) cW I (λ_ V=>aF Pz V (iH uf (W jm J B.aE) ?_))
 rintro _ _ ⟨rfl,he⟩;have B:=B.ext he;exact aW (λM=>⟨hM (qs .i64) (ti E I M).symm,B.aE⟩) (λM=>aN cW ⟨xs.length-(k+1),cW,k+1,rfl,rfl,cW,eY E I M,B⟩)
def C184(E fv:Value)(xs:List nQ)(g:nQ->Bool)(w:World)(J:eN (λ_=>True) w E xs)(I:GF w fv g)(M:xs.length<=1073741824):CR 184 [E,fv] w (λv w'=>v=.bool (xs.any g)/\Ext w w'):=by
 have B:=St.start w;refine lx Tryz.func184 ?_;exact aZ aud B (C223 _ _ _ _ _ (J.ext B.aE) (I.ext B.aE) cW) (λ_ _ B=>cN ⟨vb (rA _ _),B.aE⟩)
def C116(O:Value)(xs:List nQ)(many:Int)(w:World)(E:eN (λ_=>True) w O xs)(hn:xs.length<=1048576):CR 116 [O,jK many] w (λv w'=>v=.bool (eJ xs many)/\Ext w w'):=by
 have B:=St.start w;refine lx Tryz.func116 ?_;refine xF B rfl (λJ M B=>aZ atF B (C183 _ _ _ (E.ext B.aE) cW) λ_ he B=>bD rfl (bD rfl (bD rfl ?_)));refine⟨_,?_,λ_ _ h=>h⟩;refine aI lD (E.ext B.aE) (gL (aC (λU=>aW (λj4=>aH (aC (λV=>?_) λV=>?_)) λj4=>?_) λU=>?_))
 .have W:GF _ (.func (.func 182) [].toArray [.pointer (some ⟨J,0,none⟩)].toArray) (kq many):=
   ⟨182,[],_,rfl,atE,λy M e1=>C182 y J many M ((B.hb.cell rfl).ext e1)⟩
  refine aZ atG B (C184 _ _ _ _ _ (E.ext B.aE) W cW) (λ_ he B=>bV ?_);intro I;refine⟨vb ?_,B.aE⟩;unfold eJ
  simp_all<;>omega
 .intro I;refine⟨vb ?_,B.aE⟩;unfold eJ
  simp_all<;>omega
 .intro I;refine⟨vb ?_,B.aE⟩;unfold eJ
  simp_all<;>omega
 intro I;refine⟨vb ?_,B.aE⟩;unfold eJ
 simp_all<;>omega
def C200(sv:Value)(xs:List nQ)(q:Nat)(w:World)(O:eN (λ_=>True) w sv xs)(hq:q<=xs.length)(hn:xs.length<=1048576):CR 200 [sv,jK (q:Int)] w (λv w'=>v=jK (match ht (xs.take q)with|some p=>p.1|none=>-1)/\Ext w w'):=by
 have B:=St.start w;refine agB _ _ _ _ ?_;unfold S200;refine⟨λm y x w1=>∃(k:Nat) (n h:Int),y=jK n/\x=jK (k:Int)/\m=q-k/\k<=q/\ht (xs.take k)=some (n,h)/\St w aY [] w1,⟨_,0,0,0,rfl,rfl,rfl,cW,rfl,B⟩,?_⟩;rintro m _ _ w1 ⟨k,n,h,rfl,rfl,rfl,hk,I,B⟩ _;have hhb:=Yd k n h cW I;refine aK (aC (λkG=>?_) λkG=>?_)
 .refine⟨_,?_,λ_ _ h=>h⟩;refine⟨_,?_,λ_ _ h=>h⟩;obtain⟨V,E⟩:=gx xs (i:=(k:Int).toNat) cW;refine aQ lD (O.ext B.aE) cW E (λ_ kr=>bO V.kind jx kr rfl rfl λ_ pS=>aF aV pS (aH (aC (λlS=>?_) λlS=>?_)))
  .intro se;refine jt (eW cW ?_);intro uj;refine⟨_,?_,λ_ _ h=>h⟩;refine⟨_,?_,λ_ _ h=>h⟩;refine aQ lD (O.ext B.aE) cW E (λak1 kM=>bO V.kind jx kM rfl rfl λak2 nf=>aF aV nf (cN (aC (λng=>?_) λng=>?_)))
   .refine aQ lD (O.ext B.aE) cW E (λak3 rD=>bO V.kind jx rD rfl rfl λak4 vw=>aF aV vw (gL ?_));intro M;refine aC (λkN=>?_) (λkN=>?_)
    .refine eW cW ?_;intro U;refine aK (aC (λW=>?_) λ_=>aN cW (aN cW ⟨_,cW,k+1,_,_,rfl,rfl,rfl,cW,tj (k:=k) E I (by unfold eP;repeat' split;all_goals omega) cW,B⟩));have J:ht (xs.take q)=none:=rB (l:=xs.take q) (k:=k+1) (by rw[Js,xr cW];exact xf (k:=k) E I (m:=((n-1)-2)) (by unfold eP;repeat' split;all_goals omega) cW);rw[J];exact⟨rfl,B.aE⟩
    intro U;refine aK (aC (λW=>?_) λ_=>aN cW (aN cW ⟨_,cW,k+1,_,_,rfl,rfl,rfl,cW,tj (k:=k) E I (by unfold eP;repeat' split;all_goals omega) cW,B⟩));have J:ht (xs.take q)=none:=rB (l:=xs.take q) (k:=k+1) (by rw[Js,xr cW];exact xf (k:=k) E I (m:=(n-1)) (by unfold eP;repeat' split;all_goals omega) cW);rw[J];exact⟨rfl,B.aE⟩
   intro M;refine fM ?_;intro U;refine aK (aC (λW=>?_) λ_=>aN cW (aN cW ⟨_,cW,k+1,_,_,rfl,rfl,rfl,cW,tj (k:=k) E I (by unfold eP;repeat' split;all_goals omega) cW,B⟩));have J:ht (xs.take q)=none:=rB (l:=xs.take q) (k:=k+1) (by rw[Js,xr cW];exact xf (k:=k) E I (m:=(n-1)) (by unfold eP;repeat' split;all_goals omega) cW);rw[J];exact⟨rfl,B.aE⟩
  refine aQ lD (O.ext B.aE) cW E (λ_ vx=>bO V.kind jx vx rfl rfl λ_ As=>aF aV As (aH ?_));intro se;refine aC (λfX=>?_) (λfX=>?_)
  .refine eW cW ?_;intro uj;refine⟨_,?_,λ_ _ h=>h⟩;refine⟨_,?_,λ_ _ h=>h⟩;refine aQ lD (O.ext B.aE) cW E (λak1 kM=>bO V.kind jx kM rfl rfl λak2 nf=>aF aV nf (cN (aC (λng=>?_) λng=>?_)))
   .refine aQ lD (O.ext B.aE) cW E (λak3 rD=>bO V.kind jx rD rfl rfl λak4 vw=>aF aV vw (gL ?_));intro M;refine aC (λkN=>?_) (λkN=>?_)
    .refine eW cW ?_;intro U;refine aK (aC (λW=>?_) λ_=>aN cW (aN cW ⟨_,cW,k+1,_,_,rfl,rfl,rfl,cW,tj (k:=k) E I (by unfold eP;repeat' split;all_goals omega) cW,B⟩));have J:ht (xs.take q)=none:=rB (l:=xs.take q) (k:=k+1) (by rw[Js,xr cW];exact xf (k:=k) E I (m:=((n-1)-2)) (by unfold eP;repeat' split;all_goals omega) cW);rw[J];exact⟨rfl,B.aE⟩
    intro U;refine aK (aC (λW=>?_) λ_=>aN cW (aN cW ⟨_,cW,k+1,_,_,rfl,rfl,rfl,cW,tj (k:=k) E I (by unfold eP;repeat' split;all_goals omega) cW,B⟩));have J:ht (xs.take q)=none:=rB (l:=xs.take q) (k:=k+1) (by rw[Js,xr cW];exact xf (k:=k) E I (m:=(n-1)) (by unfold eP;repeat' split;all_goals omega) cW);rw[J];exact⟨rfl,B.aE⟩
   intro M;refine fM ?_;intro U;refine aK (aC (λW=>?_) λ_=>aN cW (aN cW ⟨_,cW,k+1,_,_,rfl,rfl,rfl,cW,tj (k:=k) E I (by unfold eP;repeat' split;all_goals omega) cW,B⟩));have J:ht (xs.take q)=none:=rB (l:=xs.take q) (k:=k+1) (by rw[Js,xr cW];exact xf (k:=k) E I (m:=(n-1)) (by unfold eP;repeat' split;all_goals omega) cW);rw[J];exact⟨rfl,B.aE⟩
  intro uj;refine⟨_,?_,λ_ _ h=>h⟩;refine⟨_,?_,λ_ _ h=>h⟩;refine aQ lD (O.ext B.aE) cW E (λak1 kM=>bO V.kind jx kM rfl rfl λak2 nf=>aF aV nf (cN (aC (λng=>?_) λng=>?_)))
  .refine aQ lD (O.ext B.aE) cW E (λak3 rD=>bO V.kind jx rD rfl rfl λak4 vw=>aF aV vw (gL ?_));intro M;refine aC (λkN=>?_) (λkN=>?_)
   .refine eW cW ?_;intro U;refine aK (aC (λW=>?_) λ_=>aN cW (aN cW ⟨_,cW,k+1,_,_,rfl,rfl,rfl,cW,tj (k:=k) E I (by unfold eP;repeat' split;all_goals omega) cW,B⟩));have J:ht (xs.take q)=none:=rB (l:=xs.take q) (k:=k+1) (by rw[Js,xr cW];exact xf (k:=k) E I (m:=(n-2)) (by unfold eP;repeat' split;all_goals omega) cW);rw[J];exact⟨rfl,B.aE⟩
   intro U;refine aK (aC (λW=>?_) λ_=>aN cW (aN cW ⟨_,cW,k+1,_,_,rfl,rfl,rfl,cW,tj (k:=k) E I (by unfold eP;repeat' split;all_goals omega) cW,B⟩));have J:ht (xs.take q)=none:=rB (l:=xs.take q) (k:=k+1) (by rw[Js,xr cW];exact xf (k:=k) E I (m:=n) (by unfold eP;repeat' split;all_goals omega) cW);rw[J];exact⟨rfl,B.aE⟩
  intro M;refine fM ?_;intro U;refine aK (aC (λW=>?_) λ_=>aN cW (aN cW ⟨_,cW,k+1,_,_,rfl,rfl,rfl,cW,tj (k:=k) E I (by unfold eP;repeat' split;all_goals omega) cW,B⟩));have J:ht (xs.take q)=none:=rB (l:=xs.take q) (k:=k+1) (by rw[Js,xr cW];exact xf (k:=k) E I (m:=n) (by unfold eP;repeat' split;all_goals omega) cW);rw[J];exact⟨rfl,B.aE⟩
 rw[show q=k from cW,I];exact⟨rfl,B.aE⟩
theorem C140(sv:Value)(xs:List nQ)(many:Int)(w:World)(I:eN (λ_=>True) w sv xs)(hn:xs.length<=1048576):CR 140 [sv,jK many] w (λv w'=>v=.bool (eJ xs many)/\Ext w w'):=by
 have B:=St.start w;refine af6 _ _ _ _ ?_;unfold S140;refine⟨λm x w1=>∃k:Nat,x=jK (k:Int)/\m=xs.length-k/\k<=xs.length/\(∀y∈xs.take k,kq many y=false)/\St w aY [] w1,⟨_,0,rfl,rfl,o6 _,eU,B⟩,?_⟩;rintro m _ w1 ⟨k,rfl,rfl,hk,J,B⟩ _;refine aI lD (I.ext B.aE) (aK (aC (λjz=>?_) λjz=>⟨_,aI lD (I.ext B.aE) (cN (aC (λpU=>aI lD (I.ext B.aE) (gL (aC (λV2=>?_) λV2=>?_))) λpU=>?_)),λ_ _ h=>h⟩))
 .obtain⟨V,O⟩:=gx xs (i:=(k:Int).toNat) cW;refine aQ lD (I.ext B.aE) cW O (λ_ vy=>bO V.kind jx vy rfl rfl λ_ IA=>have B:=B.drew;aF aV IA (aQ lD (I.ext B.aE) cW O λ_ vx=>bO V.n pO vx rfl rfl λ_ As=>aF aV As ⟨λjv w'=>jv=.bool (kq many V)/\St w aY [] w',aK (aC (λfX=>?_) λfX=>?_),?_⟩))
  .refine⟨vb ?_,B⟩;unfold kq
   first|exact(gq cW).symm|exact(gD cW).symm|exact hI.2 cW
  .refine cG (aC (λDK=>?_) λDK=>aH (aC (λj5=>?_) λj5=>aH (aC (λahj=>aK (aC (λU=>?_) λU=>cN (aC (λW=>?_) λW=>cG (aC (λahm=>?_) λahm=>?_)))) λahj=>cG (aC (λahn=>?_) λahn=>?_))))
   .refine⟨vb ?_,B⟩;unfold kq
    first|exact(gq cW).symm|exact(gD cW).symm|exact hI.2 cW
   .refine aK (aC (λlj=>?_) λlj=>cG (aC (λpW=>?_) λpW=>aH (aC (λqO=>aK (aC (λAu=>?_) λAu=>cN (aC (λum=>?_) λum=>cG (aC (λGa=>?_) λGa=>?_)))) λqO=>cG (aC (λaho=>?_) λaho=>?_))))
    .refine⟨vb ?_,B⟩;unfold kq
     first|exact(gq cW).symm|exact(gD cW).symm|exact hI.2 cW
    .refine⟨vb ?_,B⟩;unfold kq
     first|exact(gq cW).symm|exact(gD cW).symm|exact hI.2 cW
    .refine⟨vb ?_,B⟩;unfold kq
     first|exact(gq cW).symm|exact(gD cW).symm|exact hI.2 cW
    .refine⟨vb ?_,B⟩;unfold kq
     first|exact(gq cW).symm|exact(gD cW).symm|exact hI.2 cW
    .refine bQ ?_;refine⟨vb ?_,B⟩;unfold kq
     first|exact(gq cW).symm|exact(gD cW).symm|exact hI.2 cW
    .refine⟨vb ?_,B⟩;unfold kq
     first|exact(gq cW).symm|exact(gD cW).symm|exact hI.2 cW
    .refine bQ ?_;refine⟨vb ?_,B⟩;unfold kq
     first|exact(gq cW).symm|exact(gD cW).symm|exact hI.2 cW
    refine⟨vb ?_,B⟩;unfold kq
    first|exact(gq cW).symm|exact(gD cW).symm|exact hI.2 cW
   .refine⟨vb ?_,B⟩;unfold kq
    first|exact(gq cW).symm|exact(gD cW).symm|exact hI.2 cW
   .refine⟨vb ?_,B⟩;unfold kq
    first|exact(gq cW).symm|exact(gD cW).symm|exact hI.2 cW
   .refine bQ ?_;refine⟨vb ?_,B⟩;unfold kq
    first|exact(gq cW).symm|exact(gD cW).symm|exact hI.2 cW
   .refine⟨vb ?_,B⟩;unfold kq
    first|exact(gq cW).symm|exact(gD cW).symm|exact hI.2 cW
   .refine bQ ?_;refine⟨vb ?_,B⟩;unfold kq
    first|exact(gq cW).symm|exact(gD cW).symm|exact hI.2 cW
   refine⟨vb ?_,B⟩;unfold kq
   first|exact(gq cW).symm|exact(gD cW).symm|exact hI.2 cW
  rintro _ _ ⟨rfl,B⟩ _;refine aW (λtK=>?_) (λtK=>aN cW ⟨xs.length-(k+1),cW,k+1,rfl,rfl,cW,eY J O tK,B⟩);refine⟨vb ?_,B.aE⟩;unfold eJ;rw[ko O tK];simp
 .refine aI lD (I.ext B.aE) (aZ atU B (C200 _ _ xs.length _ (I.ext B.aE) (r4 _) cW) λ_ he B=>aH ?_);intro uj;rw[mE cW]at J;refine⟨vb ?_,B.aE⟩;unfold eJ htN;rw[iX J]
  by_cases E:xs.length<=40
  rotate_left
  .rw[gD E];first|rfl|(exfalso;omega)
  cases rC:ht xs with
  | none=>first|rfl|(rw[mE (r4 _),rC];simp)|(have:ht ([]:List nQ)=some (0,0):=rfl;simp_all;done)|(simp;omega)
  | some p=>first|(rw[mE (r4 _),rC];simp;omega)|(have M:ht ([]:List nQ)=some (0,0):=rfl;obtain rfl:xs=[]:=AY.1 cW;rw[M]at rC;rw[<- qa.inj rC];rfl)|(simp;omega)
 .intro uj;rw[mE cW]at J;refine⟨vb ?_,B.aE⟩;unfold eJ htN;rw[iX J]
  by_cases E:xs.length<=40
  rotate_left
  .rw[gD E];first|rfl|(exfalso;omega)
  cases rC:ht xs with
  | none=>first|rfl|(rw[mE (r4 _),rC];simp)|(have:ht ([]:List nQ)=some (0,0):=rfl;simp_all;done)|(simp;omega)
  | some p=>first|(rw[mE (r4 _),rC];simp;omega)|(have M:ht ([]:List nQ)=some (0,0):=rfl;obtain rfl:xs=[]:=AY.1 cW;rw[M]at rC;rw[<- qa.inj rC];rfl)|(simp;omega)
 intro uj;rw[mE cW]at J;refine⟨vb ?_,B.aE⟩;unfold eJ htN;rw[iX J]
 by_cases E:xs.length<=40
 rotate_left
 .rw[gD E];first|rfl|(exfalso;omega)
 cases rC:ht xs with
 | none=>first|rfl|(rw[mE (r4 _),rC];simp)|(have:ht ([]:List nQ)=some (0,0):=rfl;simp_all;done)|(simp;omega)
 | some p=>first|(rw[mE (r4 _),rC];simp;omega)|(have M:ht ([]:List nQ)=some (0,0):=rfl;obtain rfl:xs=[]:=AY.1 cW;rw[M]at rC;rw[<- qa.inj rC];rfl)|(simp;omega)
def rE(b:Nat)(rest:List Value)(l:List Int):HP:=uI λB=>sep (cI b (B::rest)) (bE B l)
def rE.shut{w0 w:World}{A:Nat->Prop}{R:List HP}{b:Nat}{rest:List Value}{B:Value}{l:List Int}(E:St w0 A (cI b (B::rest)::bE B l::R) w):St w0 A (rE b rest l::R) w:=
 St.fD (H:=λB=>sep (cI b (B::rest)) (bE B l)) B (St.join E)
def rE.open{w0 w:World}{A:Nat->Prop}{R:List HP}{b:Nat}{rest:List Value}{l:List Int}(E:St w0 A (rE b rest l::R) w):∃B,St w0 A (cI b (B::rest)::bE B l::R) w:=by
 obtain⟨B,E⟩:=E.fH;exact⟨B,E.split⟩
def ku(l:List Int):Int:=l.getD (l.length-1) 0
theorem xW{l:List Int}{e:Int}(h:l[((l.length:Int)-1).toNat]?=some e):e=ku l:=by
 simp_all[ku]
def C216(b:Nat)(n:Int)(rest:List Value)(l:List Int)(F:Nat->Prop)(w:World)(J:(rE b rest l).p w F)(O:l.length<=1048576):CR 216 [.pointer (some ⟨b,0,none⟩),jK n] w (λv w'=>v=.tuple #[]/\pk F (rE b rest (l++[n])) w w'):=by
 have B:=St.begin J;obtain⟨M,B⟩:=B.fH;have B:=B.split;refine lx Tryz.func216 ?_;refine aD (aA tH (aB cZ B.hb rfl (bJ ([n]:List Int) B cE rfl rfl (dV rfl) λI _ B=>?_)));have E:=B.fu;exact bW B.p2 cE E (by simp<;>omega) dO (λ_ _ B=>have B:=B.p1.drop;aD (aA tH (aS B.p1 cZ (dV rfl) B.fu.one λ_ B=>have B:=B.p1.p1;⟨rfl,(rE.shut B).mut⟩)))
def C174(b:Nat)(rest:List Value)(l:List Int)(F:Nat->Prop)(w:World)(I:(rE b rest l).p w F)(V:l.length<=1048576)(O:0<l.length):CR 174 [.pointer (some ⟨b,0,none⟩)] w (λv w'=>v=jK (ku l)/\pk F (rE b rest (l.take (l.length-1))) w w'):=by
 have B:=St.begin I;obtain⟨U,B⟩:=B.fH;have B:=B.split;refine uT Tryz.func174 (pl:=aCT) ?_;refine aD (aA tH (have B:=B.drew;aB cZ B.hb rfl (aD (aA tH (aB cZ B.hb rfl (aI cE B.p1.fu (eW cW ?_)))))));obtain⟨W,E⟩:=gx l (i:=((l.length:Int)-1).toNat) cW;refine cH B.p1 cE cW cW (λ_ J=>eK B.p1 aV J E (aD (aA tH (have B:=B.drew;aB cZ B.hb rfl (aD (aA tH (aB cZ B.hb rfl (aI cE B.p1.fu (eW cW (have B:=B.p1;Ip cE B cW cW λM B=>aD (aA tH ?_)))))))))))
 refine aS B.p1 cZ (dV rfl) B.fu.one (λ_ B=>?_);have B:=B.p1.p1;rw[show((l.length:Int)-1).toNat=l.length-1 from cW]at B;rw[xW E];exact⟨rfl,(rE.shut B).mut⟩
def C172(b:Nat)(n I:Int)(l:List Int)(F:Nat->Prop)(w:World)(E:(rE b [jK I] l).p w F)(M:l.length<=1048576):CR 172 [.pointer (some ⟨b,0,none⟩),jK n] w (λv w'=>v=.tuple #[]/\∃J,pk F (rE b [jK J] (l++[n])) w w'):=by
 have B:=St.begin E;refine uT Tryz.func172 (pl:=aCS) ?_;refine aD (aA xR (tg at5 B (H':=λ_=>rE b [jK I] (l++[n])) (Φ:=λv _=>v=.tuple #[]) (λF E=>?_) ?_))
 .exact C216 b n _ l F _ E cW
 rintro _ _ rfl B;obtain⟨O,B⟩:=rE.open B;exact aD (aA PD (have B:=B.drew;aB aV B.hb rfl (aD (aA xR (aA tH (aB cZ B.hb rfl (aI cE B.p1.fu (Bt (aD (aA PD (aS B aV (dV rfl) (rfl) λ_ B=>have B:=B.p1.p1;⟨rfl,_,(rE.shut B).mut⟩)))))))))))
def n7(ns S:List Int)(x:nQ):List Int:=
 if eP x.kind=0 then S++[if x.kind=2 then ns.getD x.n.toNat 0 else x.n]
 else if eP x.kind=1 then S.take (S.length-1)++[BZ x.kind (ku S)]
 else S.take (S.length-2)++[jk x.kind (ku (S.take (S.length-1))) (ku S)]
def IB(S:List Int)(x:nQ):Int:=if eP x.kind=2 then jq x.kind (ku S)else 0
def Fh(ns:List Int):List nQ->List Int->Int×Int
 | [],S=>(ku S,0)
 | x::r,S=>if IB S x=0 then Fh ns r (n7 ns S x)else(0,IB S x)
def runM(l:List nQ)(ns:List Int):Int×Int:=if eJ l ns.length=true then Fh ns l []else(0,8)
def DM(k:Int):eP k=0\/eP k=1\/eP k=2:=by
 grind[eP]
section
variable {xs:List nQ}{ns S:List Int}{k:Nat}{x:nQ}{n h:Int}
theorem uL(E:xs[k]?=some x)(h:IB S x=0):Fh ns (xs.drop k) S=Fh ns (xs.drop (k+1)) (n7 ns S x):=by
 obtain⟨B,I⟩:=l0.1 E
 rw[xD B,I,Fh,fV h]
theorem Qj(E:xs[k]?=some x)(h:¬ IB S x=0):Fh ns (xs.drop k) S=(0,IB S x):=by
 obtain⟨B,I⟩:=l0.1 E
 rw[xD B,I,Fh,fU h]
theorem xg{many:Int}(h:eJ xs many=true):xs.length<=40/\(∃a,ht xs=some (1,a))/\∀x∈xs,kq many x=false:=by
 unfold eJ at h
 rw[oG,oG,oG,decide_eq_true_eq,decide_eq_true_eq]at h
 obtain⟨⟨⟨h1,h2⟩,h3⟩,h4⟩:=h
 refine⟨h1,?_,λx B=>?_⟩
 .unfold htN at h3
  grind
 grind
theorem Ye(B:eP x.kind<=(S.length:Int)):((n7 ns S x).length:Int)=S.length-eP x.kind+1:=by
 unfold n7
 rcases DM x.kind with h|h|h
 .grind
 .grind
 grind
theorem LR{a:Int}(M:ht xs=some (1,a))(E:ht (xs.take k)=some ((S.length:Int),h))(B:xs[k]?=some x) :
  eP x.kind<=(S.length:Int)/\∃J,ht (xs.take (k+1))=some (((n7 ns S x).length:Int),J):=by
 have I:eP x.kind<=(S.length:Int):=by
  rcases Int.lt_or_le ((S.length:Int)-eP x.kind) 0 with h1|h1
  .have:=rB (xf B E rfl h1);grind
  .omega
 exact⟨I,_,(tj B E rfl cW).trans (by rw[Ye I])⟩
theorem abc(B:eP x.kind=0)(h2:¬ x.kind=2):n7 ns S x=S++[x.n]:=by unfold n7;grind
theorem abd{e:Int}(B:eP x.kind=0)(h2:x.kind=2)(E:ns[x.n.toNat]?=some e):n7 ns S x=S++[e]:=by
 grind[n7]
theorem Te(B:eP x.kind=1):n7 ns S x=S.take (S.length-1)++[BZ x.kind (ku S)]:=by unfold n7;rw[fU cW,fV B]
theorem abe(B:eP x.kind=2):n7 ns S x=S.take (S.length-2)++[jk x.kind (ku (S.take (S.length-1))) (ku S)]:=by unfold n7;rw[fU cW,fU cW]
theorem IC(B:¬ eP x.kind=2):IB S x=0:=by unfold IB;omega
theorem V7(B:eP x.kind=2):IB S x=jq x.kind (ku S):=by unfold IB;omega
theorem Tf(h:2<=S.length):(S.take (S.length-1)).take ((S.take (S.length-1)).length-1)=S.take (S.length-2):=by
 grind
end
def pn(b:Nat)(l:List Int):HP:=uI fun (B:Int)=>rE b [jK B] l
def pn.shut{w0 w:World}{A:Nat->Prop}{R:List HP}{b:Nat}{B:Int}{l:List Int}(E:St w0 A (rE b [jK B] l::R) w):St w0 A (pn b l::R) w:=
 St.fD (H:=fun (B:Int)=>rE b [jK B] l) B E
def ahq(b:Nat)(n:Int)(l:List Int)(F:Nat->Prop)(w:World)(B:(pn b l).p w F)(J:l.length<=1048576) :
  Calls ji 172 [.pointer (some ⟨b,0,none⟩),jK n].toArray w (qZ λv w'=>v=.tuple #[]/\pk F (pn b (l++[n])) w w'):=by
 obtain⟨M,B⟩:=B
 refine(C172 b n M l F w B J).mono λe w' ⟨v,O,E,U,I,h1,h2⟩=>⟨v,O,E,I,⟨U,h1⟩,h2⟩
def ahr(b:Nat)(l:List Int)(F:Nat->Prop)(w:World)(B:(pn b l).p w F)(O:l.length<=1048576)(M:0<l.length) :
  Calls ji 174 [.pointer (some ⟨b,0,none⟩)].toArray w (qZ λv w'=>v=jK (ku l)/\pk F (pn b (l.take (l.length-1))) w w'):=by
 obtain⟨E,B⟩:=B
 refine(C174 b [jK E] l F w B O M).mono λe w' ⟨v,U,I,J,h1,h2⟩=>⟨v,U,I,J,⟨E,h1⟩,h2⟩
def C110(sv nv:Value)(xs:List nQ)(ns:List Int)(w:World)(hL:eN (λ_=>True) w sv xs)(hN:eN (λ_=>True) w nv ns)(hn:xs.length<=1048576):CR 110 [sv,nv] w (λv w'=>v=.tuple #[jK (runM xs ns).1,jK (runM xs ns).2]/\Ext w w'):=by
 have B:=St.start w;refine afS _ _ _ _ ?_;unfold S110;refine aI cE (hN.ext B.aE) (aZ Vw B (C116 _ _ _ _ (hL.ext B.aE) hn) λw1 he B=>bV (aW (λgI=>?_) λgI=>?_))
 .unfold runM;rw[fU (by simpa using gI)];exact⟨rfl,B.aE⟩
 refine aR B ag7 (λI _ B=>?_);have B:=pn.shut (rE.shut (B.gA (α:=Int)).p1);have g9:eJ xs (ns.length:Int)=true:=by simpa using gI
 obtain⟨h40,⟨a0,r9⟩,anT⟩:=xg g9;refine aI lD (hL.ext B.aE) ?_;refine⟨λm x w1=>∃(k:Nat) (S:List Int) (h:Int),x=jK (k:Int)/\m=xs.length-k/\k<=xs.length/\Fh ns xs []=Fh ns (xs.drop k) S/\ht (xs.take k)=some ((S.length:Int),h)/\St w aY [pn I S] w1,⟨_,0,[],0,rfl,rfl,cW,rfl,rfl,B⟩,?_⟩;rintro m _ _ ⟨k,S,h,rfl,rfl,hk,O,rC,B⟩ _;refine aK (aC (λjR=>?_) λjR=>?_)
 .refine⟨_,?_,λ_ h=>h⟩;obtain⟨E,M⟩:=gx xs (i:=(k:Int).toNat) cW;refine aQ lD (hL.ext B.aE) cW M (λ_ vz=>aF Pz vz (aR B VT λFg _ B=>aO (x:=E) B Pz rfl rfl λ_ B=>aA jx (aB aV B.hb rfl (aZ aks B (C171 _ _) λ_ he B=>?_))));have U:=anT _ (ld M);unfold kq at U;have ho:=ij U;obtain⟨hw0,h2,W⟩:=LR (ns:=ns) (k:=k) r9 rC M;have hwk:eP E.kind=0->E.kind=1\/E.kind=2\/¬ (E.kind=1\/E.kind=2):=λ_=>cW
  have hSk:=Yd k _ _ cW rC;have hw3:=DM E.kind;refine aH (aC (λAw=>aA pO (aB aV B.hb rfl ⟨_,aA jx (aB aV B.hb rfl (aH (aC (λum=>?_) λum=>?_))),λ_ _ h=>h⟩)) λAw=>aH (aC (λDN=>?_) λDN=>?_))
  .refine aA pO (aB aV B.hb rfl ?_);obtain⟨V,Tg⟩:=gx ns (i:=E.n.toNat) cW;refine aQ cE (hN.ext B.aE) cW Tg (λ_ xX=>aF aV xX ?_);intro se;refine tg VF B.p1 (H':=λ_=>pn I (S++[V])) (Φ:=λv _=>v=.tuple #[]) (λF J=>?_) ?_
   .exact ahq I V S F _ J (by first|omega|(simp only[oj,n0,n6];omega))
   rintro _ w8 rfl B;intro uj;refine aN cW ?_;have B:=B.p1.drop;have gj:n7 ns S E=_:=abd Aw um Tg;exact⟨_,cW,k+1,_,_,rfl,rfl,cW,O.trans (uL (k:=k) M (IC cW)),W,by rw[gj];exact B⟩
  .intro se;refine tg VF B.p1 (H':=λ_=>pn I (S++[E.n])) (Φ:=λv _=>v=.tuple #[]) (λF J=>?_) ?_
   .exact ahq I E.n S F _ J (by first|omega|(simp only[oj,n0,n6];omega))
   rintro _ w8 rfl B;intro uj;refine aN cW ?_;have B:=B.p1.drop;have gj:n7 ns S E=_:=abc Aw um;exact⟨_,cW,k+1,_,_,rfl,rfl,cW,O.trans (uL (k:=k) M (IC cW)),W,by rw[gj];exact B⟩
  .refine aA jx (have B:=B.drew;aB aV B.hb rfl (aA xR (tg VG B.p1 (H':=λ_=>pn I (S.take (S.length-1))) (Φ:=λv _=>v=jK (ku S)) (λF J=>?_) ?_)))
   .exact ahr I S F _ J (by first|omega|(simp only[oj,n0,n6];omega)) (by first|omega|(simp only[oj,n0,n6];omega))
   rintro _ _ rfl B;refine⟨aG aV (B.p1.hb.cell rfl),?_⟩;refine aZ atz B (C173 _ _ _) (λ_ he B=>bD rfl (bD rfl (tg VF B (H':=λ_=>pn I ((S.take (S.length-1))++[(BZ E.kind (ku S))])) (Φ:=λv _=>v=.tuple #[]) (λF J=>?_) ?_)))
   .exact ahq I (BZ E.kind (ku S)) (S.take (S.length-1)) F _ J (by first|omega|(simp only[oj,n0,n6];omega))
   rintro _ _ rfl B;intro uj;refine aN cW ?_;have B:=B.p1.drop;have gj:n7 ns S E=_:=Te DN;exact⟨_,cW,k+1,_,_,rfl,rfl,cW,O.trans (uL (k:=k) M (IC cW)),W,by rw[gj];exact B⟩
  refine aA xR (tg VG B.p1 (H':=λ_=>pn I (S.take (S.length-1))) (Φ:=λv _=>v=jK (ku S)) (λF J=>?_) ?_)
  .exact ahr I S F _ J (by first|omega|(simp only[oj,n0,n6];omega)) (by first|omega|(simp only[oj,n0,n6];omega))
  rintro _ _ rfl B;refine aA jx (have B:=B.drew;aB aV B.p1.hb rfl (aA xR (tg VG B (H':=λ_=>pn I ((S.take (S.length-1)).take ((S.take (S.length-1)).length-1))) (Φ:=λv _=>v=jK (ku (S.take (S.length-1)))) (λF J=>?_) ?_)))
  .exact ahr I (S.take (S.length-1)) F _ J (by first|omega|(simp only[oj,n0,n6];omega)) (by first|omega|(simp only[oj,n0,n6];omega))
  rintro _ _ rfl B;refine⟨aG aV (B.p1.hb.cell rfl),?_⟩;refine aZ atA B (C175 _ _ _ _) (λ_ he B=>bD rfl (bD rfl (bQ (aC (λkN=>?_) λkN=>?_))))
  .have hz:IB S E=jq E.kind (ku S):=V7 (by have:=DM E.kind;omega);unfold runM;rw[fV g9,O,Qj (k:=k) M (by rw[hz];exact kN),hz];exact⟨rfl,B.aE⟩
  refine tg VF B (H':=λ_=>pn I (((S.take (S.length-1)).take ((S.take (S.length-1)).length-1))++[(jk E.kind (ku (S.take (S.length-1))) (ku S))])) (Φ:=λv _=>v=.tuple #[]) (λF J=>?_) ?_
  .exact ahq I (jk E.kind (ku (S.take (S.length-1))) (ku S)) ((S.take (S.length-1)).take ((S.take (S.length-1)).length-1)) F _ J (by first|omega|(simp only[oj,n0,n6];omega))
  rintro _ _ rfl B;intro uj;refine aN cW ?_;have B:=B.p1.drop;rw[Tf cW]at B;have gj:n7 ns S E=_:=abe (by have:=DM E.kind;omega);exact⟨_,cW,k+1,_,_,rfl,rfl,cW,O.trans (uL (k:=k) M ((V7 (by have:=DM E.kind;omega)).trans (FE.1 kN))),W,by rw[gj];exact B⟩
 refine aA xR ?_
 have hS1:S.length=1:=by
  rw[mE cW,r9]at rC;have:=(Prod.mk.inj (qa.inj rC)).1;omega
 refine tg VG B (H':=λ_=>pn I (S.take (S.length-1))) (Φ:=λv _=>v=jK (ku S)) (λF J=>?_) ?_
 .exact ahr I S F _ J (by first|omega|(simp only[oj,n0,n6];omega)) (by first|omega|(simp only[oj,n0,n6];omega))
 rintro _ _ rfl B;unfold runM;rw[fV g9,O,vV cW];exact⟨rfl,B.aE⟩
def abh(x:Int):gb (qj x):=by unfold gb qj;rw[IntKind.wrap_i64];omega
def ahs{a:Int}(b:Int)(B:gb a):gb (a.tmod b):=by
 have E:(a.tmod b).natAbs<=a.natAbs:=by rw[W6];exact adl _ _
 unfold gb at *
 rcases aa9 0 a with h|h
 .have:=QV b h;omega
 have:=QV (a:=-a) b cW
 rw[acO]at this;omega
def abi(p:Bool):gb (Td p):=by cases p<;>(unfold gb Td;decide)
def mg:gb 0:=by unfold gb;decide
def anU{op a b:Int}(B:gb a):gb (jk op a b):=by
 unfold jk
 by_cases h:jq op b=0
 .rw[fV h]
  unfold nH Iw
  repeat' split
  all_goals first|exact abh _|exact abi _|exact mg|exact ahs _ B
 rw[fU h];exact mg
def anV{op a:Int}:gb (BZ op a):=by
 unfold BZ
 repeat' split
 all_goals first|exact abh _|exact abi _|exact mg
def yD(S:List Int):Prop:=∀v∈S,gb v
theorem Qk{S:List Int}(h:yD S):gb (ku S):=by
 unfold ku
 rw[oi]
 cases hh:S[S.length-1]? with
 | none=>exact mg
 | some e=>exact h e (ld hh)
def yD.take{S:List Int}(h:yD S)(k:Nat):yD (S.take k):=λv B=>h v (CP B)
def yD.snoc{S:List Int}{e:Int}(h:yD S)(E:gb e):yD (S++[e]):=λv B=>by
 rcases r3.1 B with B|B
 .exact h v B
 grind
theorem Ql{ns S:List Int}{x:nQ}{many:Int}(I:yD ns)(B:yD S)(E:kq many x=false):yD (n7 ns S x):=by
 unfold kq at E
 have E:=ij E
 unfold n7
 split
 .rename_i hw
  split
  .rw[oi]
   cases hh:ns[x.n.toNat]? with
   | none=>exact B.snoc mg
   | some e=>grind[yD]
  refine B.snoc ?_
  unfold eP at hw
  unfold gb
  omega
 split
 .exact(B.take _).snoc anV
 exact(B.take _).snoc (anU (Qk (B.take _)))
def ID{S:List Int}{m:Nat}{v:Int}(E:0<m)(B:m<=S.length):(S.take m).set (m-1) v=S.take (m-1)++[v]:=by
 refine List.ext_getElem? λi=>?_
 grind
theorem Th{l:List Int}{e:Int}(h2:2<=l.length)(h:l[((l.length:Int)-1-1).toNat]?=some e):e=ku (l.take (l.length-1)):=by
 unfold ku
 rw[oi,oj,List.getElem?_take,fV cW,show min (l.length-1) l.length-1=((l.length:Int)-1-1).toNat from cW,h];rfl
theorem Yf{l:List Int}{e:Int}(h1:l.length=1)(h:l[(0:Int).toNat]?=some e):e=ku l:=by
 grind[ku]
def C142(sv nv:Value)(xs:List nQ)(ns:List Int)(w:World)(hL:eN (λ_=>True) w sv xs)(hN:eN (λ_=>True) w nv ns)(hn:xs.length<=1048576)(Su:yD ns):CR 142 [sv,nv] w (λv w'=>v=.tuple #[jK (runM xs ns).1,jK (runM xs ns).2]/\Ext w w'):=by
 have B:=St.start w;refine af8 _ _ _ _ ?_;unfold S142;refine aI cE (hN.ext B.aE) (aZ HM B (C140 _ _ _ _ (hL.ext B.aE) hn) λw1 he B=>bV (aW (λg9=>?_) λg9=>?_))
 .unfold runM;rw[fU (by simpa using g9)];exact⟨rfl,B.aE⟩
 have O:eJ xs (ns.length:Int)=true:=by simpa using g9
 obtain⟨h40,⟨a0,r9⟩,anT⟩:=xg O;refine bJ ([]:List Int) B cE rfl rfl (dV rfl) (λabj _ B=>?_);refine⟨λm y x w1=>∃(k:Nat) (S:List Int) (h:Int),x=jK (k:Int)/\m=xs.length-k/\k<=xs.length/\Fh ns xs []=Fh ns (xs.drop k) S/\ht (xs.take k)=some ((S.length:Int),h)/\yD S/\St w aY [bE y S] w1,⟨_,0,[],0,rfl,rfl,cW,rfl,rfl,λ_ hv=>by simp at hv,B⟩,?_⟩;rintro m p6 _ _ ⟨k,S,h,rfl,rfl,hk,M,rC,hS,B⟩ _;refine aI lD (hL.ext B.aE) (aK (aC (λjR=>?_) λjR=>?_))
 .refine⟨_,?_,λ_ _ h=>h⟩;obtain⟨E,I⟩:=gx xs (i:=(k:Int).toNat) cW;refine aQ lD (hL.ext B.aE) cW I (λ_ si=>bO E.kind jx si rfl rfl λ_ DO=>aF aV DO (aI cE B.fu ?_));have hSk0:=Yd k _ _ cW rC;refine eW cW ?_;have hod:=anT _ (ld I);have aDu:=hod;unfold kq at hod;have ho:=ij hod;obtain⟨hw0,h2,KT⟩:=LR (ns:=ns) (k:=k) r9 rC I;have hSk:=Yd k _ _ cW rC;have J:=Ql Su hS aDu
  have hwk:((E.kind=1\/E.kind=2)/\eP E.kind=0)\/((E.kind=3\/E.kind=4)/\eP E.kind=1)\/(5<=E.kind/\E.kind<=15/\eP E.kind=2):=by
   unfold eP
   repeat' split
   all_goals omega
  refine aH (aC (λlj=>?_) λlj=>aH (aC (λgO=>?_) λgO=>⟨_,aH (aC (λzB=>?_) λzB=>?_),λ_ _ h=>h⟩))
  .refine aQ lD (hL.ext B.aE) cW I (λ_ tL=>bO E.n pO tL rfl rfl λ_ Qm=>aF aV Qm (bJ ([E.n]:List Int) B cE rfl rfl (dV rfl) λau3 _ B=>?_));have Ti:=B.fu;refine bW B.p1 cE Ti (by simp<;>omega) dO (λabk _ B=>?_);have B:=B.p1.drop;intro uj;refine aN cW ?_;have gj:n7 ns S E=_:=abc cW cW;exact⟨_,cW,k+1,_,_,rfl,rfl,cW,M.trans (uL (k:=k) I (IC cW)),KT,J,by rw[gj];exact B⟩
  .refine aQ lD (hL.ext B.aE) cW I (λ_ IE=>bO E.n pO IE rfl rfl λ_ IF=>aF aV IF ?_);obtain⟨au4,abl⟩:=gx ns (i:=E.n.toNat) cW;refine aQ cE (hN.ext B.aE) cW abl (λ_ abm=>aF aV abm (bJ ([au4]:List Int) B cE rfl rfl (dV rfl) λak5 _ B=>?_));have Tj:=B.fu;refine bW B.p1 cE Tj (by simp<;>omega) dO (λak6 _ B=>?_);have B:=B.p1.drop;intro uj;refine aN cW ?_;have gj:n7 ns S E=_:=abd cW gO abl;exact⟨_,cW,k+1,_,_,rfl,rfl,cW,M.trans (uL (k:=k) I (IC cW)),KT,J,by rw[gj];exact B⟩
  .intro se;refine jt ?_;obtain⟨ak7,xh⟩:=gx S (i:=((S.length:Int)-1).toNat) cW;refine cH B cE cW cW (λau5 Qn=>eK B aV Qn xh (aZ akw B (C201 _ _ _) λw9 he B=>bD rfl (bD rfl (cH B cE cW cW λau6 W=>gY _ B aV W cW λZQ B=>?_))));intro uj;refine aN cW ?_;rw[xW xh]at B;have U:=ID (S:=S) (m:=S.length) (v:=BZ E.kind (ku S)) cW (r4 _);rw[Qe]at U;rw[show((S.length:Int)-1).toNat=S.length-1 from cW,U]at B;have gj:n7 ns S E=_:=Te cW
   exact⟨_,cW,k+1,_,_,rfl,rfl,cW,M.trans (uL (k:=k) I (IC cW)),KT,J,by rw[gj];exact B⟩
  refine aH ?_;intro se;refine aC (λtK=>?_) (λtK=>?_)
  .obtain⟨ak7,xh⟩:=gx S (i:=((S.length:Int)-1).toNat) cW;refine cH B cE cW cW (λau5 Qn=>eK B aV Qn xh (aZ akw B (C201 _ _ _) λw9 he B=>bD rfl (bD rfl (cH B cE cW cW λau6 W=>gY _ B aV W cW λZQ B=>?_))));intro uj;refine aN cW ?_;rw[xW xh]at B;have U:=ID (S:=S) (m:=S.length) (v:=BZ E.kind (ku S)) cW (r4 _);rw[Qe]at U;rw[show((S.length:Int)-1).toNat=S.length-1 from cW,U]at B;have gj:n7 ns S E=_:=Te cW
   exact⟨_,cW,k+1,_,_,rfl,rfl,cW,M.trans (uL (k:=k) I (IC cW)),KT,J,by rw[gj];exact B⟩
  refine eW cW ?_;obtain⟨e_x81,Tl⟩:=gx S (i:=(((S.length:Int)-1)-1).toNat) cW;refine cH B cE cW cW (λ_ Qo=>have B:=B.drew;eK B aV Qo Tl ?_);obtain⟨au7,Ax⟩:=gx S (i:=((S.length:Int)-1).toNat) cW;refine cH B cE cW cW (λ_ abo=>eK B aV abo Ax (aZ atX B (C202 _ _ _ _ (hS _ (ld Tl)) (hS _ (ld Ax))) λ_ he B=>bD rfl (bD rfl (bQ (aC (λV=>?_) λV=>?_)))))
  .have hz:IB S E=jq E.kind (ku S):=V7 cW;rw[<- xW Ax]at hz;unfold runM;rw[fV O,M,Qj (k:=k) I (by rw[hz];exact V),hz];exact⟨rfl,B.aE⟩
  refine Ip cE B cW cW (λau8 B=>?_);have GG:(S.take ((S.length:Int)-1).toNat).length=S.length-1:=by rw[oj];omega
  refine eW cW ?_;obtain⟨aDv,azB⟩:=gx (S.take ((S.length:Int)-1).toNat) (i:=(((S.length:Int)-1)-1).toNat) cW;refine cH B cE cW cW (λ_ xi=>gY _ B aV xi cW λ_ B=>?_);intro uj;refine aN cW ?_;have U:=ID (S:=S) (m:=S.length-1) (v:=jk E.kind (ku (S.take (S.length-1))) (ku S)) cW cW;rw[Th cW Tl,xW Ax,show((S.length:Int)-1).toNat=S.length-1 from cW,show((S.length:Int)-1-1).toNat=S.length-1-1 from cW,U]at B;have gj:n7 ns S E=_:=abe cW
  exact⟨_,cW,k+1,_,_,rfl,rfl,cW,M.trans (uL (k:=k) I ((V7 cW).trans (by rw[<- xW Ax];exact FE.1 V))),KT,J,by rw[gj];exact B⟩
 have hS1:S.length=1:=by
  rw[mE cW,r9]at rC;have:=(Prod.mk.inj (qa.inj rC)).1;omega
 obtain⟨aDw,V8⟩:=gx S (i:=(0:Int).toNat) cW;refine cH B cE cW cW (λ_ Tm=>eK B aV Tm V8 ?_);unfold runM;rw[fV O,M,vV cW,Yf hS1 V8];exact⟨rfl,B.aE⟩
def eD(ns:List ByteArray)(s:ByteArray):Int:=yO (λy=>decide (y=s)) ns
def jB(p:dM):List dW:=p.lines.flatten++p.mu
structure PS(p:dM):Prop where
 lines:p.lines.length<=500
 line:∀l∈p.lines,l.length<=500
 mu:p.mu.length<=500
 locks:p.locks.length<=500
 threads:p.threads.length<=500
 recover:p.recover.length<=500
 cD:p.cD.length<=500
 aJ:∀t∈p.threads++p.recover,t.aJ.length<=500
 body:∀t∈p.threads++p.recover,t.body.length<=500
theorem dI{ls:List (List dW)}(h:∀l∈ls,l.length<=500):ls.flatten.length<=500*ls.length:=by
 induction ls with
 | nil=>simp
 | cons a ls B=>
  grind
def pX{p:dM}(h:PS p):(jB p).length<=250500:=by
 have h1:=dI h.line
 have h2:=h.lines
 have h3:=h.mu
 grind[jB]
theorem Yg{α:Type}{ls:List (List α)}{k:Nat}{l:List α}(h:ls[k]?=some l):(ls.take k).flatten++l=(ls.take (k+1)).flatten:=by rw[<- ja h,List.flatten_append];simp
theorem jb{α β:Type}{f:α->β}{l:List α}{k:Nat}{e:α}(h:l[k]?=some e):(l.take k).map f++[f e]=(l.take (k+1)).map f:=by rw[<- ja h,yU];rfl
def C98(lv:Value)(ns:List ByteArray)(q:ByteArray)(w:World)(M:eN (λ_=>True) w lv ns)(hn:ns.length<=1048576):CR 98 [lv,.string q] w (λv w'=>v=jK (eD ns q)/\Ext w w'):=by
 have B:=St.start w;refine lx Tryz.func98 ?_;refine⟨λm x O=>∃k:Nat,x=jK (k:Int)/\m=ns.length-k/\k<=ns.length/\(∀y∈ns.take k,decide (y=q)=false)/\St w aY [] O,⟨_,0,rfl,rfl,o6 _,eU,B⟩,?_⟩;rintro m _ O ⟨k,rfl,rfl,hk,E,B⟩ _;refine aI pK (M.ext B.aE) (aK (aC (λV=>?_) λ_=>⟨hM (qs .i64) (mU (by rw[mE cW]at E;exact E)).symm,B.aE⟩));obtain⟨W,I⟩:=gx ns (i:=(k:Int).toNat) cW;exact aQ pK (M.ext B.aE) cW I (λ_ U=>aF mJ U (xV (aC (λJ=>⟨hM (qs .i64) (ti E I (gq J)).symm,B.aE⟩) λJ=>aN cW ⟨ns.length-(k+1),cW,k+1,rfl,rfl,cW,eY E I (gD J),B⟩)))
def C107(lv:Value)(cs:List dW)(w:World)(I:eN (λ_=>True) w lv cs)(hn:cs.length<=1048576):CR 107 [lv] w (λv w'=>mr (bE v (cs.map dW.name)) w w'):=by
 have B:=St.start w;refine lx Tryz.func107 ?_;refine bJ ([]:List ByteArray) B pK rfl rfl (dV rfl) (λNA M B=>?_);refine⟨λm y x M=>∃k:Nat,x=jK (k:Int)/\m=cs.length-k/\k<=cs.length/\St w aY [bE y ((cs.take k).map dW.name)] M,⟨_,0,rfl,rfl,cW,B⟩,?_⟩;rintro m iW _ _ ⟨k,rfl,rfl,hk,B⟩ _;have hml:((cs.take k).map dW.name).length=k:=by rw[qE,oj];omega
 refine aI mG (I.ext B.aE) (aK (aC (λO=>?_) λO=>?_))
 .obtain⟨E,J⟩:=gx cs (i:=(k:Int).toNat) cW;refine aQ mG (I.ext B.aE) cW J (λ_ pS=>bO E.name tG pS rfl rfl λ_ V=>aF mJ V (bJ ([E.name]) B pK rfl rfl (dV rfl) λU _ B=>?_));have W:=B.fu;exact bW B.p1 pK W (by simp<;>omega) dO (λ_ _ B=>have B:=B.p1.drop;aN cW ⟨_,cW,k+1,rfl,rfl,cW,by rw[<- jb (k:=k) J];exact B⟩)
 rw[mE cW]at B;exact B.fresh
def C102(p:dM)(pv:bX)(w:World)(hp:py w pv p)(E:PS p):CR 102 [j6 pv] w (λv w'=>mr (bE v (jB p)) w w'):=by
 obtain⟨bR,cA,bT,bG,bH,bK,rfl,dA,dQ,dB,cB,bZ,cM⟩:=hp;have B:=St.start w;refine lx Tryz.func102 ?_;refine cU B (λnt w1 B=>bJ ([]:List dW) B mG rfl rfl (dV rfl) λNA _ B=>?_);refine⟨λm y x w1=>∃k:Nat,x=jK (k:Int)/\m=p.lines.length-k/\k<=p.lines.length/\St w aY [bE y (p.lines.take k).flatten,cI nt (kp (⟨bR,cA,bT,bG,bH,bK⟩:bX))] w1,⟨_,0,rfl,rfl,cW,B⟩,?_⟩;rintro m iW _ _ ⟨k,rfl,rfl,hk,B⟩ _;have I:=E.lines;refine aA lM (aB wo B.p1.hb rfl ?_)
 obtain⟨W,M,O⟩:=dA.open;have hn1:=O.1;refine aI zN (M.ext B.aE) (aK (aC (λiE=>?_) λiE=>?_))
 .refine aA lM (aB wo B.p1.hb rfl ?_);obtain⟨au9,J⟩:=gx W (i:=(k:Int).toNat) cW;obtain⟨ava,Tn⟩:=gx p.lines (i:=(k:Int).toNat) cW;have avb:DL w (j6 au9) ava:=O.2 _ _ _ J Tn;refine aQ zN (M.ext B.aE) cW J (λ_ IA=>aF lV IA ?_);have XV:=DL.flat avb;have IG:=E.line _ (ld Tn);have F3:=dI (ls:=p.lines.take k) (λl hl=>E.line l (CP hl));rw[oj]at F3;have I:=E.lines;have po:=(XV.ext B.aE);exact bW B mG po cW dO (λ_ _ B=>aN cW ⟨_,cW,k+1,rfl,rfl,cW,by rw[<- Yg (k:=k) Tn];exact B⟩)
 refine aA yI (aB lV B.p1.hb rfl ?_);have U:=DL.flat dQ;have F3:=dI (ls:=p.lines.take k) (λl hl=>E.line l (CP hl));rw[oj]at F3;have I:=E.lines;have hz2:=E.mu;have V:=(U.ext B.aE);refine bW B mG V cW dO (λavc _ B=>?_);rw[mE cW]at B;exact B.p1.drop.fresh
def kids(k:Int):Int:=if k=1\/k=2 then 0 else if k=3\/k=4 then 1 else if 5<=k/\k<=15 then 2 else -1
def NB(k:Int) : -1<=kids k/\kids k<=2:=by
 grind[kids]
def lP(c:Int):Bool:=decide (97<=c/\c<=122\/c=95)
def qu(c:Int):Bool:=decide (48<=c/\c<=57)
def Ay:List ByteArray:=[⟨#[108,105,110,101]⟩,⟨#[118,111,108]⟩,⟨#[108,111,99,107]⟩,⟨#[116,104,114,101,97,100]⟩,⟨#[114,101,103]⟩,⟨#[108,111,97,100]⟩,⟨#[115,116,111,114,101]⟩,⟨#[99,97,115]⟩,⟨#[102,108,117,115,104]⟩,⟨#[111,112,116]⟩,⟨#[115,102,101,110,99,101]⟩,⟨#[109,102,101,110,99,101]⟩,⟨#[116,97,107,101]⟩,⟨#[103,105,118,101]⟩,⟨#[105,102]⟩,⟨#[101,108,115,101]⟩,⟨#[108,111,111,112]⟩,⟨#[98,114,101,97,107]⟩,⟨#[99,104,101,99,107]⟩,⟨#[114,101,99,111,118,101,114]⟩,⟨#[97,108,119,97,121,115]⟩]
def mD(s:ByteArray):Bool:=!(decide (s.size<1\/16<s.size)||(match (nB s)[0]? with|some c=>!lP c.toNat|none=>true)||Ay.any λy=>decide (y=s))&&!(nB s).any (λc=>!lP c.toNat&&!qu c.toNat)
def skip:Nat->List dP->Option (List dP)
 | 0,l=>some l
 | _+1,[]=>none
 | n+1,x::l=>if kids x.op<0 then none else skip (n+(kids x.op).toNat) l
theorem CE(l:List dP):skip 0 l=some l:=by cases l<;>rfl
theorem IH(l:List dP):∀a b,skip (a+b) l=(skip a l).bind (skip b):=by
 induction l with
 | nil=>
  intro a b
  cases a with
  | zero=>rw[ve,CE];rfl
  | succ a=>grind[skip]
 | cons x l B=>
  intro a b
  cases a with
  | zero=>rw[ve,CE];rfl
  | succ a=>
   grind[skip]
theorem II(l:List dP):∀n r,skip n l=some r->r=l.drop (l.length-r.length)/\r.length+min n 1<=l.length:=by
 induction l with
 | nil=>
  intro n r h
  cases n with
  | zero=>rw[CE]at h;grind
  | succ n=>cases h
 | cons x l B=>
  intro n r h
  cases n with
  | zero=>rw[CE]at h;simp_all
  | succ n=>
   have h:(if kids x.op<0 then none else skip (n+(kids x.op).toNat) l)=some r:=h
   split at h
   .cases h
   .obtain⟨h1,h2⟩:=B _ _ h
    refine⟨?_,eS⟩
    rw[show(x::l).length-r.length=(l.length-r.length)+1 from eS]
    exact h1
def LS(n:Nat)(o:Option (List dP)):Int:=match o with|some r=>(n:Int)-r.length|none=>-1
def yQ(xs:List dP)(i:Int):Int:=if i<0 then -1 else LS xs.length (skip 1 (xs.drop i.toNat))
def abt{xs:List dP}{i:Int}{x:dP}(J:0<=i)(B:xs[i.toNat]?=some x)(M:0<=kids x.op):yQ xs i=LS xs.length (skip (kids x.op).toNat (xs.drop (i.toNat+1))):=by
 unfold yQ
 obtain⟨E,I⟩:=l0.1 B
 rw[fU cW,xD E,I]
 show LS _ (if kids x.op<0 then none else skip (0+(kids x.op).toNat) _)=_
 grind
theorem aht{xs:List dP}{i:Int}{x:dP}(J:0<=i)(B:xs[i.toNat]?=some x)(M:kids x.op<0):yQ xs i = -1:=by
 unfold yQ
 obtain⟨E,I⟩:=l0.1 B
 rw[fU cW,xD E,I]
 grind[LS,skip]
theorem ahu{xs:List dP}{i:Int}(h:i<0\/xs.length<=i):yQ xs i = -1:=by
 unfold yQ
 split
 .rfl
 rw[vV cW];rfl
theorem avd{xs:List dP}{j k:Nat}{a:Int}(h:LS xs.length (skip k (xs.drop j))=a)(B:0<=a):yQ xs a=LS xs.length (skip (k+1) (xs.drop j))/\((j:Int)<=a\/xs.length<=a):=by
 cases hs:skip k (xs.drop j)with
 | none=>rw[hs]at h;unfold LS at h;simp only[]at h;omega
 | some r=>
  rw[hs]at h
  have h:(xs.length:Int)-r.length=a:=h
  obtain⟨h1,h2⟩:=II _ _ _ hs
  rw[ta]at h1 h2
  rw[IH,hs]
  show _=LS _ (skip 1 r)/\_
  refine⟨?_,cW⟩
  unfold yQ
  rw[fU cW]
  by_cases E:j<=xs.length
  .have:xs.drop a.toNat=r:=by
    rw[h1,Cl,show j+(xs.length-j-r.length)=a.toNat from cW]
   rw[this]
  .have:r=[]:=AY.1 cW
   subst this
   rw[vV (by simp at h;omega)]
theorem anY{xs l:List dP}{k j:Nat}(E:l.length<=xs.length)(h:¬ 0<=LS xs.length (skip k l))(B:k<=j):LS xs.length (skip k l)=LS xs.length (skip j l):=by
 cases hs:skip k l with
 | none=>rw[show j=k+(j-k)from cW,IH,hs];rfl
 | some r=>
  obtain⟨_,h2⟩:=II _ _ _ hs
  rw[hs]at h;unfold LS at h;simp only[]at h;omega
theorem aDz{xs l:List dP}{k:Nat}(B:l.length<=xs.length) : -1<=LS xs.length (skip k l)/\LS xs.length (skip k l)<=xs.length:=by
 cases hs:skip k l with
 | none=>unfold LS;simp only[];omega
 | some r=>
  obtain⟨_,h2⟩:=II _ _ _ hs
  unfold LS;simp only[];omega
def C163(k:Int)(w:World):CR 163 [jK k] w (λv w'=>v=jK (kids k)/\Ext w w'):=by
 have I:=St.start w;refine lx Tryz.func163 ?_;refine⟨λB w'=>B=.bool (decide (k=1\/k=2))/\w=w',aH (aC (λ_=>⟨Ky cW,rfl⟩) λ_=>aH ⟨uS cW,rfl⟩),?_⟩;rintro _ _ ⟨rfl,E⟩ _;subst E;refine aC (λM=>?_) (λM=>⟨λB w'=>B=.bool (decide (k=3\/k=4))/\w=w',aH (aC (λ_=>⟨Ky cW,rfl⟩) λ_=>aH ⟨uS cW,rfl⟩),?_⟩)
 .unfold kids;exact⟨hM (qs .i64) eS,I.aE⟩
 rintro _ _ ⟨rfl,E⟩ _;subst E;refine aC (λJ=>?_) (λJ=>⟨λB w'=>B=.bool (decide (5<=k/\k<=15))/\w=w',cN (aC (λ_=>gL ⟨uS cW,rfl⟩) λ_=>⟨jvF cW,rfl⟩),?_⟩)
 .unfold kids;exact⟨hM (qs .i64) eS,I.aE⟩
 rintro _ _ ⟨rfl,E⟩ _;subst E;refine aC (λO=>?_) (λO=>?_)
 .unfold kids;exact⟨hM (qs .i64) eS,I.aE⟩
 unfold kids;exact⟨hM (qs .i64) eS,I.aE⟩
def C206(c:Int)(w:World):CR 206 [.int .u8 c] w (λv w'=>v=.bool (lP c)/\Ext w w'):=by
 have B:=St.start w;refine lx Tryz.func206 ?_;refine⟨λE w'=>E=.bool (decide (97<=c/\c<=122\/c=95))/\w=w',Qd (aC (λ_=>Qc (aC (λ_=>⟨Ky cW,rfl⟩) λ_=>ry ⟨uS cW,rfl⟩)) λ_=>ry ⟨uS cW,rfl⟩),?_⟩;rintro _ _ ⟨rfl,I⟩ _;subst I;exact⟨rfl,B.aE⟩
def C208(c:Int)(w:World):CR 208 [.int .u8 c] w (λv w'=>v=.bool (qu c)/\Ext w w'):=by
 have B:=St.start w;refine lx Tryz.func208 ?_;refine⟨λE w'=>E=.bool (decide (48<=c/\c<=57))/\w=w',Qd (aC (λ_=>Qc ⟨uS cW,rfl⟩) λ_=>⟨jvF cW,rfl⟩),?_⟩;rintro _ _ ⟨rfl,I⟩ _;subst I;exact⟨rfl,B.aE⟩
def C207(s:ByteArray)(w:World):CR 207 [.string s] w (λv w'=>v=.bool (Ay.any λy=>decide (y=s))/\Ext w w'):=by
 have B:=St.start w;refine lx Tryz.func207 ?_;refine bJ Ay B pK rfl rfl (dV rfl) (λO M B=>?_);refine⟨λm x M=>∃k:Nat,x=jK (k:Int)/\m=Ay.length-k/\k<=Ay.length/\(∀y∈Ay.take k,decide (y=s)=false)/\St w aY [bE O Ay] M,⟨_,0,rfl,rfl,o6 _,eU,B⟩,?_⟩;rintro m _ _ ⟨k,rfl,rfl,hk,J,B⟩ _;have W:Ay.length=21:=rfl;refine aI pK B.fu (aK (aC (λU=>?_) λU=>?_))
 .skip;obtain⟨jm,E⟩:=gx Ay (i:=(k:Int).toNat) cW;exact cH B pK cW cW (λ_ V=>eK B mJ V E (xV (aC (λI=>⟨vb (ko E (gq I)).symm,B.aE⟩) λI=>aN cW ⟨_,cW,k+1,rfl,rfl,cW,eY J E (gD I),B⟩)))
 rw[mE cW]at J;exact⟨vb (iX J).symm,B.aE⟩
def C161(s:ByteArray)(w:World)(hn:s.size<=1048576):CR 161 [.string s] w (λv w'=>v=.bool (mD s)/\Ext w w'):=by
 have B:=St.start w;refine lx Tryz.func161 ?_;refine⟨λM w'=>M=.bool (decide (s.size<1\/16<s.size)||(match (nB s)[0]? with|some c=>!lP c.toNat|none=>true)||Ay.any λy=>decide (y=s))/\St w aY [] w',iL jD (aK (aC (λ_=>⟨vb eS,B⟩) λuK=>iL jD (cG (aC (λ_=>⟨vb eS,B⟩) λiE=>?_)))),?_⟩
 .obtain⟨jm,W⟩:∃I,(nB s)[(0:Int).toNat]?=some I:=⟨_,nT (by rw[eX];omega)⟩;exact nW jD cW W (aZ VI B (C206 _ _) λ_ _ B=>bV (aW (λ_=>⟨vb eS,B⟩) λ_=>aZ at1 B (C207 _ _) λ_ _ B=>⟨vb eS,B⟩))
 rintro _ _ ⟨rfl,B⟩ _;refine aW (λU=>?_) (λU=>?_)
 .refine⟨vb ?_,B.aE⟩;unfold mD;rw[U];rfl
 refine⟨λm x w1=>∃k:Nat,x=jK (k:Int)/\m=(nB s).length-k/\k<=(nB s).length/\(∀y∈(nB s).take k,(!lP y.toNat&&!qu y.toNat)=false)/\St w aY [] w1,⟨_,0,rfl,rfl,o6 _,eU,B⟩,?_⟩;rintro m _ _ ⟨k,rfl,rfl,hk,O,B⟩ _;rw[eX]at hk;have zV:=eX s;refine iL jD (aK (aC (λfX=>?_) λfX=>?_))
 .obtain⟨V,E⟩:∃I,(nB s)[(k:Int).toNat]?=some I:=⟨_,nT (by rw[eX];omega)⟩;refine⟨λM w'=>M=.bool (!lP V.toNat&&!qu V.toNat)/\St w aY [] w',nW jD cW E (aZ VI B (C206 _ _) λ_ _ B=>bV (aW (λ_=>nW jD cW E (aZ VJ B (C208 _ _) λ_ _ B=>bV ⟨vb eS,B⟩)) λ_=>⟨vb eS,B⟩)),?_⟩;rintro _ _ ⟨rfl,B⟩ _;refine aW (λJ=>?_) (λJ=>aN cW ⟨_,cW,k+1,rfl,rfl,cW,eY O E (by simpa using J),B⟩);refine⟨vb ?_,B.aE⟩;unfold mD;rw[ko E J];simp
 rw[mE cW]at O;refine⟨vb ?_,B.aE⟩;unfold mD;rw[iX O]
 revert U
 cases (decide (s.size<1\/16<s.size)||(match (nB s)[0]? with|some c=>!lP c.toNat|none=>true)||Ay.any λy=>decide (y=s))<;>simp
theorem C160(lv:Value)(xs:List dP)(i:Int)(N:Nat)(w:World)(I:eN (λ_=>True) w lv xs)(hn:xs.length<=1048576)(hi : -9223372036854775808<=i)(hN:(xs.length:Int)-i<N):CR 160 [lv,jK i] w (λv w'=>v=jK (yQ xs i)/\Ext w w'):=by
 have B:=St.start w;refine lx Tryz.func160 ?_;refine⟨λO w'=>O=.bool (decide (i<0\/(xs.length:Int)<=i)||(match xs[i.toNat]? with|some x=>decide (kids x.op<0)|none=>true))/\St w aY [] w',aK (aC (λ_=>⟨vb eS,B⟩) λjr=>aI oh (I.ext B.aE) (cN (aC (λ_=>⟨vb eS,B⟩) λlq=>?_))),?_⟩
 .obtain⟨uo,jY⟩:=gx xs (i:=(i).toNat) cW;exact aQ oh (I.ext B.aE) cW jY (λ_ xY=>bO uo.op lF xY rfl rfl λ_ jS=>aF aV jS (aZ VC B (C163 _ _) λ_ _ B=>aK ⟨vb eS,B⟩))
 rintro _ _ ⟨rfl,B⟩ _;refine aW (λ_=>⟨hM (qs .i64) (by grind[ahu,aht]),B.aE⟩) (λjR=>?_);have h23:¬ (i<0\/(xs.length:Int)<=i):=eS
 obtain⟨E,W⟩:=gx xs (i:=(i).toNat) cW;have M:0<=kids E.op:=eS
 have hkb:=NB E.op;have J:=abt cW W M;refine aN cW ?_;refine⟨λm y x w1=>∃(k:Nat) (a:Int),x=jK (k:Int)/\y=jK a/\m=(kids E.op).toNat-k/\k<=(kids E.op).toNat/\LS xs.length (skip k (xs.drop (i.toNat+1)))=a/\St w aY [] w1,⟨_,0,i+1,rfl,rfl,rfl,cW,by rw[CE];unfold LS;simp only[ta];omega,B⟩,?_⟩;rintro m _ _ _ ⟨k,a,rfl,rfl,rfl,hk,gj,B⟩ _;have V:=aDz (xs:=xs) (l:=xs.drop (i.toNat+1)) (k:=k) (by rw[ta];omega);rw[gj]at V;refine⟨λO w'=>O=.bool (decide ((k:Int)<kids E.op/\0<=a))/\St w aY [] w',aQ oh (I.ext B.aE) cW W (λ_ DO=>bO E.op lF DO rfl rfl λ_ kM=>aF aV kM (aZ VC B (C163 _ _) λ_ _ B=>aK (aC (λ_=>cN ⟨vb eS,B⟩) λ_=>⟨vb eS,B⟩))),?_⟩
 rintro _ _ ⟨rfl,B⟩ _;refine aC (λrH=>?_) (λ_=>⟨hM (qs .i64) (by have:=anY (xs:=xs) (l:=xs.drop (i.toNat+1)) (k:=k) (j:=(kids E.op).toNat) (by rw[ta];omega);rw[J];by_cases h0:0<=a<;>grind),B.aE⟩);have U:=avd gj cW;exact aZ VB B (C160 _ _ _ (N-1) _ (I.ext B.aE) hn cW cW) (λ_ _ B=>aN cW ⟨_,cW,k+1,_,rfl,rfl,rfl,cW,U.1.symm,B⟩)
termination_by N
decreasing_by omega
inductive Ex where
 | leaf (x:dP)
 | un (x:dP) (a:Ex)
 | bin (x:dP) (a b:Ex)
namespace Ex
def root:Ex->dP|leaf x=>x|un x _=>x|bin x _ _=>x
def jc:Ex->List Ex|leaf _=>[]|un _ a=>[a]|bin _ a b=>[a,b]
def flat:Ex->List dP|leaf x=>[x]|un x a=>x::a.flat|bin x a b=>x::(a.flat++b.flat)
def wf:Ex->Prop|leaf x=>kids x.op=0|un x a=>kids x.op=1/\a.wf|bin x a b=>kids x.op=2/\a.wf/\b.wf
def depth:Ex->Int|leaf _=>1|un _ a=>a.depth+1|bin _ a b=>max a.depth b.depth+1
def size:Ex->Nat|leaf _=>1|un _ a=>a.size+1|bin _ a b=>a.size+b.size+1
def numOf(ns:List ByteArray)(x:dP):Int:=if x.op=2 then eD ns x.name else x.n
def steps(ns:List ByteArray):Ex->List nQ
 | leaf x=>[⟨x.op,numOf ns x⟩]
 | un x a=>a.steps ns++[⟨x.op,numOf ns x⟩]
 | bin x a b=>a.steps ns++b.steps ns++[⟨x.op,numOf ns x⟩]
end Ex
theorem Ex.dI(t:Ex):t.flat.length=t.size:=by
 induction t with
 | leaf x=>rfl
 | un x a B=>simp[Ex.flat,Ex.size,B]
 | bin x a b I E=>simp[Ex.flat,Ex.size,I,E]
theorem Ex.LV(t:Ex):t.flat=t.root::(t.jc.map Ex.flat).flatten:=by
 cases t<;>simp[Ex.flat,Ex.root,Ex.jc]
theorem Ex.Qp{t:Ex}(h:t.wf):kids t.root.op=t.jc.length:=by
 cases t with
 | leaf x=>exact h
 | un x a=>exact h.1
 | bin x a b=>exact h.1
theorem Ex.NC{t a:Ex}(h:t.wf)(B:a∈t.jc):a.wf/\a.size<t.size:=by
 cases t with
 | leaf x=>cases B
 | un x b=>rw[List.mem_singleton.1 B];exact⟨h.2,by simp[Ex.size]⟩
 | bin x b c=>
  rcases zZ.1 B with rfl|B
  .grind[wf,size]
  grind[wf,size]
theorem Ex.DP(t:Ex):1<=t.depth/\t.depth<=t.size:=by
 induction t with
 | leaf x=>simp[Ex.depth,Ex.size]
 | un x a B=>simp only[Ex.depth,Ex.size];omega
 | bin x a b I E=>simp only[Ex.depth,Ex.size];omega
theorem Ex.By(ns:List ByteArray)(t:Ex):(t.steps ns).length=t.size:=by
 induction t with
 | leaf x=>rfl
 | un x a B=>simp[Ex.steps,Ex.size,B]
 | bin x a b E I=>grind[steps,size]
theorem Yh(t:Ex)(h:t.wf):∀n r,skip (n+1) (t.flat++r)=skip n r:=by
 induction t with
 | leaf x=>
  intro n r
  show(if kids x.op<0 then none else skip (n+(kids x.op).toNat) r)=_
  rw[show kids x.op=0 from h];rfl
 | un x a E=>
  intro n r
  show(if kids x.op<0 then none else skip (n+(kids x.op).toNat) (a.flat++r))=_
  rw[show kids x.op=1 from h.1,fU cW];exact E h.2 n r
 | bin x a b B I=>
  intro n r
  show(if kids x.op<0 then none else skip (n+(kids x.op).toNat) (a.flat++b.flat++r))=_
  rw[show kids x.op=2 from h.1,fU cW,qF]
  show skip (n+1+1) _=_
  rw[B h.2.1 (n+1),I h.2.2 n]
theorem V9:∀(k:Nat) (l r:List dP),l.length<=k->skip 1 l=some r->∃t:Ex,t.wf/\l=t.flat++r
 | k,[],r,_,h=>by cases h
 | 0,x::l,r,B,_=>by simp at B
 | k+1,x::l,r,B,h=>by
  have B:l.length<=k:=eS
  have h:(if kids x.op<0 then none else skip (0+(kids x.op).toNat) l)=some r:=h
  have hb:=NB x.op
  split at h
  .cases h
  .rcases(show kids x.op=0\/kids x.op=1\/kids x.op=2 by omega)with h0|h0|h0
   .rw[h0]at h
    have h:skip 0 l=some r:=h
    rw[CE]at h;cases h
    exact⟨.leaf x,h0,rfl⟩
   .rw[h0]at h
    obtain⟨a,I,rfl⟩:=V9 k l r B h
    exact⟨.un x a,⟨h0,I⟩,rfl⟩
   .rw[h0]at h
    have h:skip (1+1) l=some r:=h
    rw[IH]at h
    obtain⟨m,h1,h2⟩:=Option.bind_eq_some_iff.1 h
    obtain⟨a,I,rfl⟩:=V9 k l m B h1
    obtain⟨b,E,rfl⟩:=V9 k m r eS h2
    exact⟨.bin x a b,⟨h0,I,E⟩,by simp[Ex.flat]⟩
def OK(xs:List dP)(i:Int)(t:Ex):Prop:=0<=i/\t.wf/\∃r,xs.drop i.toNat=t.flat++r
def OK.root{xs:List dP}{i:Int}{t:Ex}(h:OK xs i t):xs[i.toNat]?=some t.root/\i<xs.length:=by
 obtain⟨B,_,r,h⟩:=h
 have:(xs.drop i.toNat)[0]?=some t.root:=by rw[h,Ex.LV];rfl
 rw[List.getElem?_drop,Nat.add_zero]at this
 exact⟨this,by have:=(l0.1 this).1;omega⟩
def OK.end{xs:List dP}{i:Int}{t:Ex}(h:OK xs i t):yQ xs i=i+t.size/\i+t.size<=xs.length:=by
 have J:=h.root.2
 obtain⟨I,B,r,h⟩:=h
 have E:=hM List.length h
 rw[ta,n0,Ex.dI]at E
 refine⟨?_,cW⟩
 unfold yQ
 rw[fU cW,h,Yh t B 0 r,CE]
 unfold LS;grind
theorem OK.of{xs:List dP}{i:Int}(h:0<=yQ xs i):∃t,OK xs i t:=by
 unfold yQ at h
 split at h
 .omega
 cases hs:skip 1 (xs.drop i.toNat)with
 | none=>rw[hs]at h;unfold LS at h;simp only[]at h;omega
 | some r=>
  obtain⟨t,B,E⟩:=V9 _ _ r (r4 _) hs
  exact⟨t,cW,B,r,E⟩
def DU(ks:List Ex)(k:Nat):Nat:=((ks.take k).map Ex.size).sum
theorem LW{ks:List Ex}{k:Nat}{a:Ex}(h:ks[k]?=some a):DU ks (k+1)=DU ks k+a.size:=by
 unfold DU;rw[<- ja h];simp
def OK.kid{xs:List dP}{i:Int}{t a:Ex}{k:Nat}(h:OK xs i t)(B:t.jc[k]?=some a):OK xs (i+1+DU t.jc k) a:=by
 obtain⟨O,M,r,h⟩:=h
 refine⟨cW,(Ex.NC M (ld B)).1,?_⟩
 have E:t.jc=t.jc.take k++a::t.jc.drop (k+1):=by
  obtain⟨U,J⟩:=l0.1 B
  rw[<- J,List.getElem_cons_drop,s6]
 have I:(((t.jc.take k).map Ex.flat).flatten).length=DU t.jc k:=by
  unfold DU
  rw[aai,TN]
  congr 2
  exact funext λx=>Ex.dI x
 have h2:xs.drop (i.toNat+1)=((t.jc.take k).map Ex.flat).flatten++(a.flat++(((t.jc.drop (k+1)).map Ex.flat).flatten++r)):=by
  rw[<- Cl,h,Ex.LV t]
  show(t.jc.map Ex.flat).flatten++r=_
  conv=>lhs;rw[E]
  simp
 refine⟨((t.jc.drop (k+1)).map Ex.flat).flatten++r,?_⟩
 rw[show(i+1+(DU t.jc k:Int)).toNat=i.toNat+1+DU t.jc k from cW,<- Cl,h2,<- I,KZ]
def IJ(ks:List Ex)(k:Nat):Int:=((ks.take k).map Ex.depth).foldl max 0
theorem LX{ks:List Ex}{k:Nat}{a:Ex}(h:ks[k]?=some a):IJ ks (k+1)=max (IJ ks k) a.depth:=by
 unfold IJ;rw[<- ja h,yU,LA];rfl
theorem abv{ks:List Ex}{N:Int}(B:0<=N)(h:∀a∈ks,a.depth<=N):∀k,0<=IJ ks k/\IJ ks k<=N
 | 0=>by simp[IJ,B]
 | k+1=>by
  have E:=abv B h k
  cases hx:ks[k]? with
  | none=>
   have e:ks.take (k+1)=ks.take k:=by rw[xp,hx];simp
   unfold IJ at *;grind
  | some a=>rw[LX hx];grind
theorem Ex.abw(t:Ex):t.depth=IJ t.jc t.jc.length+1:=by
 cases t with
 | leaf x=>rfl
 | un x a=>have:=a.DP;grind[depth,IJ,jc]
 | bin x a b=>have:=a.DP;grind[depth,IJ,jc]
def stK(ns:List ByteArray)(ks:List Ex)(k:Nat):List nQ:=((ks.take k).map (Ex.steps ns)).flatten
theorem abx{ns:List ByteArray}{ks:List Ex}{k:Nat}{a:Ex}(h:ks[k]?=some a):stK ns ks (k+1)=stK ns ks k++a.steps ns:=by
 unfold stK;rw[<- ja h];simp
def Wa{ns:List ByteArray}{ks:List Ex}{k:Nat}:(stK ns ks k).length=DU ks k:=by
 unfold stK DU
 rw[aai,TN]
 congr 2
 exact funext λx=>Ex.By ns x
theorem Ex.IK(ns:List ByteArray)(t:Ex):t.steps ns=stK ns t.jc t.jc.length++[⟨t.root.op,Ex.numOf ns t.root⟩]:=by
 cases t<;>simp[Ex.steps,Ex.jc,stK,Ex.root]
def pt:Nat->List dP->Option (Ex×List dP)
 | 0,_=>none
 | _+1,[]=>none
 | n+1,x::l=>
  if kids x.op=0 then some (.leaf x,l)else if kids x.op=1 then(match pt n l with|some p=>some (.un x p.1,p.2)|none=>none)
  else if kids x.op=2 then(match pt n l with|some p=>(match pt n p.2 with|some q=>some (.bin x p.1 q.1,q.2)|none=>none)|none=>none)else none
theorem ahw(t:Ex)(h:t.wf):∀n r,t.size<=n->pt n (t.flat++r)=some (t,r):=by
 induction t with
 | leaf x=>
  intro n r B
  cases n with
  | zero=>simp[Ex.size]at B
  | succ n=>show(if kids x.op=0 then _ else _)=_;rw[fV (show kids x.op=0 from h)];rfl
 | un x a I=>
  intro n r B
  cases n with
  | zero=>simp[Ex.size]at B
  | succ n=>
   have h1:kids x.op=1:=h.1
   show(if kids x.op=0 then _ else if kids x.op=1 then(match pt n (a.flat++r)with|some p=>some (Ex.un x p.1,p.2)|none=>none)else _)=_
   rw[fU cW,fV h1,I h.2 n r (by simp[Ex.size]at B;omega)]
 | bin x a b E J=>
  intro n r B
  cases n with
  | zero=>simp[Ex.size]at B
  | succ n=>
   have h1:kids x.op=2:=h.1
   show(if kids x.op=0 then _ else if kids x.op=1 then _ else if kids x.op=2 then(match pt n (a.flat++b.flat++r)with|some p=>(match pt n p.2 with|some q=>some (Ex.bin x p.1 q.1,q.2)|none=>none)|none=>none)else _)=_
   rw[fU cW,fU cW,fV h1,qF,E h.2.1 n _ (by simp[Ex.size]at B;omega)]
   simp only[]
   rw[J h.2.2 n _ (by simp[Ex.size]at B;omega)]
def DV(l:List dP):Option Ex:=match pt l.length l with|some p=>if p.2=[]then some p.1 else none|none=>none
def Yi{t:Ex}(h:t.wf):DV t.flat=some t:=by
 unfold DV
 have:=ahw t h t.flat.length [] (by rw[Ex.dI];omega)
 grind
def OK.zero{l:List dP}{t:Ex}(h:OK l 0 t)(I:yQ l 0=l.length):l=t.flat/\DV l=some t:=by
 have h1:=h.end
 obtain⟨_,E,r,h⟩:=h
 have B:=hM List.length h
 rw[n0,Ex.dI]at B
 simp at B
 have:r=[]:=AY.1 cW
 subst this
 have h:l=t.flat:=eS
 exact⟨h,by rw[h];exact Yi E⟩
theorem DW:∀n l t r,pt n l=some (t,r)->t.wf/\l=t.flat++r
 | 0,l,t,r,h=>by cases h
 | n+1,[],t,r,h=>by cases h
 | n+1,x::l,t,r,h=>by
  have h:(if kids x.op=0 then some (Ex.leaf x,l)else if kids x.op=1 then(match pt n l with|some p=>some (Ex.un x p.1,p.2)|none=>none)
   else if kids x.op=2 then(match pt n l with|some p=>(match pt n p.2 with|some q=>some (Ex.bin x p.1 q.1,q.2)|none=>none)|none=>none)else none)=some (t,r):=h
  split at h
  .rename_i hk;cases h;exact⟨hk,rfl⟩
  .split at h
   .rename_i hk
    cases ha:pt n l with
    | none=>grind
    | some p=>
     rw[ha]at h
     obtain⟨a,m⟩:=p
     cases h
     obtain⟨h1,rfl⟩:=DW n l a _ ha
     exact⟨⟨hk,h1⟩,rfl⟩
   .split at h
    .rename_i hk
     cases ha:pt n l with
     | none=>grind
     | some p=>
      rw[ha]at h
      obtain⟨a,m⟩:=p
      simp only[]at h
      cases hb:pt n m with
      | none=>grind
      | some q=>
       rw[hb]at h
       obtain⟨b,B⟩:=q
       cases h
       obtain⟨h1,rfl⟩:=DW n l a _ ha
       obtain⟨h2,rfl⟩:=DW n m b _ hb
       exact⟨⟨hk,h1,h2⟩,by simp[Ex.flat]⟩
    .cases h
theorem CG{l:List dP}{t:Ex}(h:DV l=some t):t.wf/\l=t.flat:=by
 unfold DV at h
 cases hp:pt l.length l with
 | none=>grind
 | some p=>
  rw[hp]at h
  obtain⟨a,r⟩:=p
  simp only[]at h
  split at h
  .rename_i hr;cases h
   obtain⟨h1,h2⟩:=DW _ _ _ _ hp
   grind
  .cases h
theorem Qq{l:List dP}:(DV l).isSome=decide (yQ l 0=l.length):=by
 by_cases h:yQ l 0=l.length
 .obtain⟨t,ht⟩:=OK.of (xs:=l) (i:=0) cW
  rw[(ht.zero h).2,gq h];rfl
 rw[gD h]
 cases he:DV l with
 | none=>rfl
 | some t=>
  obtain⟨h1,rfl⟩:=CG he
  exact absurd (by have:=(show OK t.flat 0 t from⟨cW,h1,[],eU⟩).end.1;rw[this,Ex.dI];omega) h
def sH(x:dP):Bool:=decide (x.at_<0\/4000<x.at_)||decide (¬ x.op=1/\¬ x.n=0)||decide (¬ x.op=2/\¬ x.name=⟨#[]⟩)||decide (x.n<0\/4294967296<x.n)||(decide (x.op=2)&&!mD x.name)
def ak9(l:List dP):Int:=match DV l with|some t=>t.depth|none=>0
def lX(l:List dP):Bool:=decide (l.length<=40)&&(DV l).isSome&&!l.any sH&&decide (ak9 l<=12)
def Tp(ns:List ByteArray)(l:List dP):List nQ:=match DV l with|some t=>t.steps ns|none=>[]
def Cd(ns:List ByteArray)(l:List dP):Int:=if lX l=false then 8 else if l.any (λx=>decide (x.op=2)&&decide (eD ns x.name<0))then 9 else 0
def iN(ns:List ByteArray)(l:List dP):List nQ:=if Cd ns l=0 then Tp ns l else []
def Tq{l:List dP}(h:lX l=true):yQ l 0=l.length:=by
 unfold lX at h
 rw[Qq]at h
 grind
theorem C162(lv:Value)(xs:List dP)(i:Int)(t:Ex)(N:Nat)(w:World)(M:eN (λ_=>True) w lv xs)(hn:xs.length<=1048576)(E:OK xs i t)(hN:t.size<N):CR 162 [lv,jK i] w (λv w'=>v=jK t.depth/\Ext w w'):=by
 obtain⟨W,hq,KU⟩:∃e,e=t.root/\xs[(i).toNat]?=some e:=⟨_,rfl,E.root.1⟩;have hri:=E.root.2;have hie:=E.end;have O:=Ex.Qp E.2.1;rw[<- hq]at O;have hkb:=NB W.op;have hi0:=E.1;have B:=St.start w;refine agm _ _ _ _ ?_;unfold S162;refine aN cW ?_;refine⟨λm n a x V=>∃k:Nat,n=jK (IJ t.jc k)/\a=jK (i+1+DU t.jc k)/\x=jK (k:Int)/\m=t.jc.length-k/\k<=t.jc.length/\St w aY [] V,⟨_,0,rfl,hM (qs .i64) (by simp[DU]),rfl,rfl,cW,B⟩,?_⟩;rintro m _ _ _ V ⟨k,rfl,rfl,rfl,rfl,hk,B⟩ _;have hdk:=abv (ks:=t.jc) (N:=(t.size:Int)) cW (λa ha=>by have:=(Ex.NC E.2.1 ha).2;have:=a.DP;omega) k
 refine aQ oh (M.ext B.aE) cW KU (λ_ Qh=>bO (W).op lF Qh rfl rfl λ_ kr=>aF aV kr (aZ VC B (C163 _ _) λ_ he B=>aK (aC (λlS=>?_) λ_=>aN cW ⟨hM (qs .i64) (by rw[t.abw,show k=t.jc.length from cW]),B.aE⟩)));obtain⟨a,J⟩:=gx t.jc (i:=k) cW;have hka:=Ex.NC E.2.1 (ld J);have I:=E.kid J;have U:=I.end;have hdb:=a.DP;exact aZ aaz B (C162 _ _ _ _ (N-1) _ (M.ext B.aE) hn I cW) (λ_ _ B=>Bt (aZ VB B (C160 _ _ _ (xs.length+1) _ (M.ext B.aE) cW cW cW) λ_ _ B=>aN cW ⟨_,cW,k+1,by rw[LX J],hM (qs .i64) (by rw[U.1,LW J];omega),rfl,rfl,cW,B⟩))
termination_by N
decreasing_by omega
def C105(lv:Value)(xs:List dP)(w:World)(J:eN (λ_=>True) w lv xs)(hn:xs.length<=1048576)(E:∀x∈xs,x.name.size<=1048576):CR 105 [lv] w (λv w'=>v=.bool (lX xs)/\Ext w w'):=by
 have B:=St.start w;refine lx Tryz.func105 ?_;refine⟨λU w'=>U=.bool (decide (40<xs.length)||decide (¬ yQ xs 0=xs.length))/\St w aY [] w',aI oh (J.ext B.aE) (cG (aC (λ_=>⟨vb eS,B⟩) λ_=>aZ VB B (C160 _ _ _ (xs.length+1) _ (J.ext B.aE) cW cW cW) λ_ _ B=>aI oh (J.ext B.aE) (bQ ⟨vb eS,B⟩))),?_⟩;rintro _ _ ⟨rfl,B⟩ _;refine aW (λkn=>?_) (λkn=>?_)
 .refine⟨vb ?_,B.aE⟩;unfold lX;rw[Qq]
  grind
 refine⟨λm x w1=>∃k:Nat,x=jK (k:Int)/\m=xs.length-k/\k<=xs.length/\(∀y∈xs.take k,sH y=false)/\St w aY [] w1,⟨_,0,rfl,rfl,o6 _,eU,B⟩,?_⟩;rintro m _ _ ⟨k,rfl,rfl,hk,V,B⟩ _;refine aI oh (J.ext B.aE) (aK (aC (λg9=>?_) λg9=>?_))
 .obtain⟨qP,I⟩:=gx xs (i:=(k:Int).toNat) cW;refine aQ oh (J.ext B.aE) cW I (λ_ oC=>aF Px oC (aR B VS λxZ _ B=>aO (x:=qP) B Px rfl rfl λ_ B=>⟨λU w'=>U=.bool (sH qP)/\St w aY [] w',aA HZ (aB aV B.hb rfl (aK (aC (λ_=>⟨vb (by unfold sH;grind),B.drop⟩) λiV=>aA HZ (aB aV B.hb rfl (cG (aC (λ_=>⟨vb (by unfold sH;grind),B.drop⟩) λmW=>?_)))))),?_⟩))
  .refine aA lF (aB aV B.hb rfl (bQ (aC (λnh=>aA pM (aB aV B.hb rfl (bQ (aC (λ_=>⟨vb (by unfold sH;grind),B.drop⟩) λuq=>aA lF (aB aV B.hb rfl (bQ (aC (λAw=>aA nE (aB mJ B.hb rfl (sF (aC (λ_=>⟨vb (by unfold sH;grind),B.drop⟩) λIL=>?_)))) λAw=>?_))))))) λnh=>?_)))
   .refine aA pM (aB aV B.hb rfl (aK ?_));exact aC (λ_=>⟨vb (by unfold sH;grind),B.drop⟩) (λ_=>aA pM (aB aV B.hb rfl (cG (aC (λ_=>⟨vb (by unfold sH;grind),B.drop⟩) λ_=>aA lF (aB aV B.hb rfl (aH (aC (λ_=>aA nE (aB mJ B.hb rfl (aZ xE B (C161 _ _ (E _ (ld I))) λ_ _ B=>bV ⟨vb (by unfold sH;grind),B.drop⟩))) λ_=>⟨vb (by unfold sH;grind),B.drop⟩)))))))
   .refine aA pM (aB aV B.hb rfl (aK ?_));exact aC (λ_=>⟨vb (by unfold sH;grind),B.drop⟩) (λ_=>aA pM (aB aV B.hb rfl (cG (aC (λ_=>⟨vb (by unfold sH;grind),B.drop⟩) λ_=>aA lF (aB aV B.hb rfl (aH (aC (λ_=>aA nE (aB mJ B.hb rfl (aZ xE B (C161 _ _ (E _ (ld I))) λ_ _ B=>bV ⟨vb (by unfold sH;grind),B.drop⟩))) λ_=>⟨vb (by unfold sH;grind),B.drop⟩)))))))
   refine aA lF (aB aV B.hb rfl (bQ (aC (λW=>aA nE (aB mJ B.hb rfl (sF (aC (λ_=>⟨vb (by unfold sH;grind),B.drop⟩) λazD=>?_)))) λW=>?_)))
   .refine aA pM (aB aV B.hb rfl (aK ?_));exact aC (λ_=>⟨vb (by unfold sH;grind),B.drop⟩) (λ_=>aA pM (aB aV B.hb rfl (cG (aC (λ_=>⟨vb (by unfold sH;grind),B.drop⟩) λ_=>aA lF (aB aV B.hb rfl (aH (aC (λ_=>aA nE (aB mJ B.hb rfl (aZ xE B (C161 _ _ (E _ (ld I))) λ_ _ B=>bV ⟨vb (by unfold sH;grind),B.drop⟩))) λ_=>⟨vb (by unfold sH;grind),B.drop⟩)))))))
   refine aA pM (aB aV B.hb rfl (aK ?_));exact aC (λ_=>⟨vb (by unfold sH;grind),B.drop⟩) (λ_=>aA pM (aB aV B.hb rfl (cG (aC (λ_=>⟨vb (by unfold sH;grind),B.drop⟩) λ_=>aA lF (aB aV B.hb rfl (aH (aC (λ_=>aA nE (aB mJ B.hb rfl (aZ xE B (C161 _ _ (E _ (ld I))) λ_ _ B=>bV ⟨vb (by unfold sH;grind),B.drop⟩))) λ_=>⟨vb (by unfold sH;grind),B.drop⟩)))))))
  rintro _ _ ⟨rfl,B⟩ _;refine aW (λM=>?_) (λM=>aN cW ⟨_,cW,k+1,rfl,rfl,cW,eY V I M,B⟩);refine⟨vb ?_,B.aE⟩;unfold lX;rw[ko I M];simp
 have Wb:yQ xs 0=xs.length:=eS
 have O:xs.length<=40:=eS
 obtain⟨t,ht⟩:=OK.of (xs:=xs) (i:=0) cW;have hz:=ht.zero Wb;refine aZ aaz B (C162 _ _ _ t (t.size+1) _ (J.ext B.aE) hn ht cW) (λ_ he B=>gL ?_);rw[mE cW]at V;refine⟨vb ?_,B.aE⟩;unfold lX ak9;rw[iX V,hz.2];simp[O]
theorem C106(lv nv:Value)(xs:List dP)(ns:List ByteArray)(i:Int)(t:Ex)(N:Nat)(w:World)(I:eN (λ_=>True) w lv xs)(hN:eN (λ_=>True) w nv ns)(hn:xs.length<=1048576)(Su:ns.length<=1048576)(J:OK xs i t)(hNt:t.size<N):CR 106 [lv,jK i,nv] w (λv w'=>mr (bE v (t.steps ns)) w w'):=by
 obtain⟨E,hq,M⟩:∃e,e=t.root/\xs[(i).toNat]?=some e:=⟨_,rfl,J.root.1⟩;have hri:=J.root.2;have hie:=J.end;have hke:=Ex.Qp J.2.1;rw[<- hq]at hke;have hkb:=NB E.op;have hi0:=J.1;have B:=St.start w;refine afR _ _ _ _ _ ?_;unfold S106;refine bJ ([]:List nQ) B lD rfl rfl (dV rfl) (λs_x11 w1 B=>aN cW ?_);refine⟨λm W a x w1=>∃k:Nat,a=jK (i+1+DU t.jc k)/\x=jK (k:Int)/\m=t.jc.length-k/\k<=t.jc.length/\St w aY [bE W (stK ns t.jc k)] w1,⟨_,0,hM (qs .i64) (by simp[DU]),rfl,rfl,cW,B⟩,?_⟩;rintro m W _ _ _ ⟨k,rfl,rfl,rfl,hk,B⟩ _
 refine aQ oh (I.ext B.aE) cW M (λ_ IA=>bO E.op lF IA rfl rfl λ_ xY=>aF aV xY (aZ VC B (C163 _ _) λ_ he B=>aK (aC (λiM=>?_) λiM=>?_)))
 .obtain⟨a,U⟩:=gx t.jc (i:=k) cW;have hka:=Ex.NC J.2.1 (ld U);have O:=J.kid U;have hen:=O.end;have hdb:=a.DP;have Nz:=Wa (ns:=ns) (ks:=t.jc) (k:=k);have hal:=Ex.By ns a;refine dF aj5 B (C106 _ _ _ _ _ _ (N-1) _ (I.ext B.aE) (hN.ext B.aE) hn Su O cW) (λx28 _ cJ B=>?_);have an0:=B.fu;exact bW B.p1 lD an0 cW dO (λ_ _ B=>have B:=B.p1.drop;aZ VB B (C160 _ _ _ (xs.length+1) _ (I.ext B.aE) cW cW cW) λ_ _ B=>aN cW ⟨_,cW,k+1,hM (qs .i64) (by rw[hen.1,LW U];omega),rfl,rfl,cW,by rw[abx U];exact B⟩)
 have Nz:=Wa (ns:=ns) (ks:=t.jc) (k:=k);refine aQ oh (I.ext B.aE) cW M (λ_ DX=>bO E.n pM DX rfl rfl λ_ ya=>aF aV ya ⟨λjv w'=>jv=jK (Ex.numOf ns E)/\St w aY [bE W (stK ns t.jc k)] w',aQ oh (I.ext B.aE) cW M (λ_ Qm=>bO E.op lF Qm rfl rfl λ_ IM=>aF aV IM (aH (aC (λ_=>aQ oh (I.ext B.aE) cW M λ_ AB=>bO E.name nE AB rfl rfl λ_ V=>aF mJ V (aZ EY B (C98 _ ns _ _ (hN.ext B.aE) cW) λ_ _ B=>⟨hM (qs .i64) (by grind[Ex.numOf]),B⟩)) λ_=>⟨hM (qs .i64) (by grind[Ex.numOf]),B⟩))),?_⟩)
 rintro _ _ ⟨rfl,B⟩ _;refine aQ oh (I.ext B.aE) cW M (λ_ Qr=>bO E.op lF Qr rfl rfl λ_ xX=>aF aV xX (pop (S1 _ _) (bJ ([(⟨E.op,(Ex.numOf ns E)⟩:nQ)]) B lD rfl rfl (dV rfl) λavg _ B=>?_)));have an1:=B.fu;refine bW B.p1 lD an1 (by rw[Nz,n6];have:(t.steps ns).length=t.size:=Ex.By ns t;rw[Ex.IK,n0,n6,<- show k=t.jc.length from cW]at this;omega) dO (λavh _ B=>?_);have B:=B.p1.drop;rw[Ex.IK,<- show k=t.jc.length from cW,<- hq];exact B.fresh
termination_by N
decreasing_by omega
def C45(lv nv:Value)(xs:List dP)(ns:List ByteArray)(w:World)(I:eN (λ_=>True) w lv xs)(hN:eN (λ_=>True) w nv ns)(hn:xs.length<=1048576)(Su:ns.length<=1048576)(U:∀x∈xs,x.name.size<=1048576):CR 45 [lv,nv] w (λv w'=>∃s,v=.tuple #[s,jK (Cd ns xs)]/\mr (bE s (iN ns xs)) w w'):=by
 have B:=St.start w;refine am0 _ _ _ _ ?_;unfold S45;refine aZ Pc B (C105 _ _ _ (I.ext B.aE) hn U) (λw1 he B=>bV (aW (λE=>?_) λE=>?_))
 .have h8:Cd ns xs=8:=by unfold Cd;rw[fV (by simpa using E)]
  refine⟨_,by rw[h8],?_⟩;unfold iN;rw[h8,fU dO];exact(B.gA (α:=nQ)).fresh
 refine⟨λm x w1=>∃k:Nat,x=jK (k:Int)/\m=xs.length-k/\k<=xs.length/\(∀y∈xs.take k,(decide (y.op=2)&&decide (eD ns y.name<0))=false)/\St w aY [] w1,⟨_,0,rfl,rfl,o6 _,eU,B⟩,?_⟩;rintro m _ _ ⟨k,rfl,rfl,hk,W,B⟩ _;refine aI oh (I.ext B.aE) (aK (aC (λlq=>?_) λlq=>?_))
 .obtain⟨M,J⟩:=gx xs (i:=(k:Int).toNat) cW;refine⟨λjv w'=>jv=.bool (decide (M.op=2)&&decide (eD ns M.name<0))/\St w aY [] w',aQ oh (I.ext B.aE) cW J (λ_ xY=>bO M.op lF xY rfl rfl λ_ jS=>aF aV jS (aH (aC (λ_=>aQ oh (I.ext B.aE) cW J λ_ sj=>bO M.name nE sj rfl rfl λ_ tM=>aF mJ tM (aZ EY B (C98 _ ns _ _ (hN.ext B.aE) cW) λ_ _ B=>aK ⟨vb eS,B⟩)) λ_=>⟨vb eS,B⟩))),?_⟩;rintro _ _ ⟨rfl,B⟩ _;refine aW (λmW=>?_) (λmW=>aN cW ⟨_,cW,k+1,rfl,rfl,cW,eY W J mW,B⟩)
  have h9:Cd ns xs=9:=by unfold Cd;rw[fU (by simpa using E),fV (ko J mW)]
  refine⟨_,by rw[h9],?_⟩;unfold iN;rw[h9,fU dO];exact(B.gA (α:=nQ)).fresh
 have V:lX xs=true:=by simpa using E
 have Wb:=Tq V;obtain⟨t,ht⟩:=OK.of (xs:=xs) (i:=0) cW;have hz:=ht.zero Wb;refine dF aj5 B (C106 _ _ _ _ _ t (t.size+1) _ (I.ext B.aE) (hN.ext B.aE) hn Su ht cW) (λO _ cJ B=>?_);rw[mE cW]at W;have h0:Cd ns xs=0:=by unfold Cd;rw[fU (by simpa using E),fU (by rw[iX W];simp)]
 refine⟨O,by rw[h0],?_⟩;unfold iN Tp;rw[fV h0,hz.2];exact B.fresh
inductive Bk where
 | nil
 | cons (x:cR) (a b r:Bk)
namespace Bk
def flat:Bk->List cR|nil=>[]|cons x a b r=>x::(a.flat++(b.flat++r.flat))
def len:Bk->Nat|nil=>0|cons _ a b r=>a.len+b.len+r.len+1
def str:Bk->Prop|nil=>True|cons x a b r=>x.body=a.len/\x.ib=b.len/\a.len<=40/\b.len<=40/\a.str/\b.str/\r.str
def Gb(x:cR)(loops:Int):Int:=if x.kind=12 then loops+1 else loops
def IN(x:cR):Bool:=decide (x.kind=11\/x.kind=12)
def Db(x:cR)(loops:Int):Bool:=decide ((x.body<=0\/x.kind=11\/x.kind=12)/\(x.ib<=0\/x.kind=11)/\(¬ x.kind=13\/¬ loops=0))
def ok:Bk->Int->Bool|nil,_=>true|cons x a b r,n=>Db x n&&a.ok (Gb x n)&&b.ok (Gb x n)&&r.ok n
def depth:Bk->Int|nil=>0|cons x a b r=>if IN x then max (max (1+a.depth) (1+b.depth)) r.depth else r.depth
end Bk
theorem Bk.dI(t:Bk):t.flat.length=t.len:=by
 induction t with
 | nil=>rfl
 | cons x a b r I B E=>grind[flat,len]
theorem Bk.vA(t:Bk):0<=t.depth/\t.depth<=t.len:=by
 induction t with
 | nil=>simp[Bk.depth,Bk.len]
 | cons x a b r I B E=>
  grind[depth,len]
def ZR:Nat->List cR->Option Bk
 | _,[]=>some .nil
 | 0,_::_=>none
 | n+1,x::l=>
  if 0<=x.body/\0<=x.ib/\x.body<=40/\x.ib<=40/\x.body+x.ib<=l.length then
   match ZR n (l.take x.body.toNat),ZR n ((l.drop x.body.toNat).take x.ib.toNat),ZR n (l.drop (x.body.toNat+x.ib.toNat))with
   | some a,some b,some r=>some (.cons x a b r)
   | _,_,_=>none
  else none
theorem Bz:∀n l t,ZR n l=some t->l=t.flat/\t.str
 | _,[],t,h=>by
  have h:some Bk.nil=some t:=by unfold ZR at h;exact h
  cases h;exact⟨rfl,trivial⟩
 | 0,x::l,t,h=>by cases h
 | n+1,x::l,t,h=>by
  unfold ZR at h
  split at h
  .rename_i hb
   obtain⟨h1,h2,h3,h4,h5⟩:=hb
   cases ha:ZR n (l.take x.body.toNat)with
   | none=>grind
   | some a=>
    cases hb:ZR n ((l.drop x.body.toNat).take x.ib.toNat)with
    | none=>grind
    | some b=>
     cases hr:ZR n (l.drop (x.body.toNat+x.ib.toNat))with
     | none=>grind
     | some r=>
      rw[ha,hb,hr]at h
      cases h
      obtain⟨a1,E⟩:=Bz n _ _ ha
      obtain⟨b1,b2⟩:=Bz n _ _ hb
      obtain⟨r1,B⟩:=Bz n _ _ hr
      have I:=hM List.length a1
      have lb:=hM List.length b1
      rw[Bk.dI,oj]at I
      rw[Bk.dI,oj,ta]at lb
      refine⟨?_,cW,cW,cW,cW,E,b2,B⟩
      unfold Bk.flat
      rw[<- a1,<- b1,<- r1,<- Cl,s6,s6]
  .cases h
theorem abz(t:Bk):t.str->∀n,t.len<=n->ZR n t.flat=some t:=by
 induction t with
 | nil=>intro _ n _;cases n<;>rfl
 | cons x a b r I M E=>
  intro h n B
  obtain⟨h1,h2,h3,h4,O,hb,J⟩:=h
  cases n with
  | zero=>simp[Bk.len]at B
  | succ n=>
   have B:a.len+b.len+r.len<=n:=by simp[Bk.len]at B;omega
   have U:=a.dI
   have lb:=b.dI
   unfold Bk.flat ZR
   rw[fV ⟨cW,cW,cW,cW,eS⟩,show x.body.toNat=a.flat.length from cW,TR,KZ,show x.ib.toNat=b.flat.length from cW,TR,<- Cl,KZ,KZ,
    I O n cW,M hb n cW,E J n cW]
def sI(l:List cR):Option Bk:=ZR l.length l
def qw{l:List cR}{t:Bk}(h:sI l=some t):l=t.flat/\t.str:=Bz _ _ _ h
theorem sJ{t:Bk}(h:t.str):sI t.flat=some t:=abz t h _ (by rw[Bk.dI];omega)
def jn(l:List cR)(loops:Int):Int:=match sI l with|some t=>if t.ok loops then t.depth else -1|none=>-1
theorem LY(loops:Int):jn [] loops=0:=rfl
theorem GY(l:List cR)(loops:Int) : -1<=jn l loops/\jn l loops<=l.length:=by
 unfold jn
 cases h:sI l with
 | none=>grind
 | some t=>
  obtain⟨rfl,_⟩:=qw h
  have:=t.vA
  simp only[Bk.dI]
  omega
def DY(x:cR)(l:List cR):Prop:=0<=x.body/\0<=x.ib/\x.body<=40/\x.ib<=40/\x.body+x.ib<=l.length
theorem Yj{x:cR}{l:List cR}{loops:Int}(h:¬ (DY x l/\Bk.Db x loops=true)):jn (x::l) loops = -1:=by
 unfold jn
 cases hb:sI (x::l)with
 | none=>rfl
 | some t=>
  obtain⟨B,E⟩:=qw hb
  cases t with
  | nil=>cases B
  | cons y a b r=>
   obtain⟨rfl,rfl⟩:=abp.inj B
   obtain⟨h1,h2,h3,h4,_⟩:=E
   have:Bk.Db x loops=false:=by
    cases hk:Bk.Db x loops with
    | false=>rfl
    | true=>exact absurd ⟨⟨cW,cW,cW,cW,by simp[Bk.dI];omega⟩,hk⟩ h
   have h:(Bk.cons x a b r).ok loops=false:=by unfold Bk.ok;grind
   grind
theorem IP{x:cR}{l:List cR}{loops:Int}(h:DY x l)(V:Bk.Db x loops=true) :
  jn (x::l) loops=(let A:=jn (l.take x.body.toNat) (Bk.Gb x loops);let B:=jn ((l.drop x.body.toNat).take x.ib.toNat) (Bk.Gb x loops);let R:=jn (l.drop (x.body.toNat+x.ib.toNat)) loops
   if A<0\/B<0\/R<0 then -1 else if Bk.IN x then max (max (1+A) (1+B)) R else R):=by
 obtain⟨h1,h2,h3,h4,h5⟩:=h
 have e:l=l.take x.body.toNat++((l.drop x.body.toNat).take x.ib.toNat++l.drop (x.body.toNat+x.ib.toNat)):=by
  rw[<- Cl,s6,s6]
 have la:(l.take x.body.toNat).length=x.body.toNat:=eS
 have lb:((l.drop x.body.toNat).take x.ib.toNat).length=x.ib.toNat:=by rw[oj,ta];omega
 simp only[]
 have key:∀t,sI (x::l)=some t->∃a b r,t=.cons x a b r/\sI (l.take x.body.toNat)=some a/\sI ((l.drop x.body.toNat).take x.ib.toNat)=some b/\sI (l.drop (x.body.toNat+x.ib.toNat))=some r:=by
  intro t ht
  obtain⟨O,hs⟩:=qw ht
  cases t with
  | nil=>cases O
  | cons y a b r=>
   obtain⟨rfl,I⟩:=abp.inj O
   obtain⟨g1,g2,_,_,E,hb,J⟩:=hs
   have M:x.body.toNat=a.flat.length:=by rw[Bk.dI];omega
   have U:x.ib.toNat=b.flat.length:=by rw[Bk.dI];omega
   refine⟨a,b,r,rfl,?_,?_,?_⟩
   .rw[I,M,TR];exact sJ E
   .rw[I,M,U,KZ,TR];exact sJ hb
   .rw[I,<- Cl,M,U,KZ,KZ];exact sJ J
 cases E:sI (l.take x.body.toNat)with
 | none=>
  have:sI (x::l)=none:=by
   cases hh:sI (x::l)with
   | none=>rfl
   | some t=>grind
  unfold jn;rw[this,E];simp
 | some a=>
  cases hb:sI ((l.drop x.body.toNat).take x.ib.toNat)with
  | none=>
   have:sI (x::l)=none:=by
    cases hh:sI (x::l)with
    | none=>rfl
    | some t=>grind
   unfold jn;rw[this,hb];simp
  | some b=>
   cases J:sI (l.drop (x.body.toNat+x.ib.toNat))with
   | none=>
    have:sI (x::l)=none:=by
     cases hh:sI (x::l)with
     | none=>rfl
     | some t=>grind
    unfold jn;rw[this,J];simp
   | some r=>
    obtain⟨a1,a2⟩:=qw E
    obtain⟨b1,b2⟩:=qw hb
    obtain⟨r1,W⟩:=qw J
    have I:x::l=(Bk.cons x a b r).flat:=by unfold Bk.flat;grind
    rw[a1,Bk.dI]at la
    rw[b1,Bk.dI]at lb
    have:sI (x::l)=some (.cons x a b r):=by rw[I];exact sJ ⟨cW,cW,cW,cW,a2,b2,W⟩
    have na:=a.vA
    have nb:=b.vA
    have nr:=r.vA
    unfold jn
    rw[this,E,hb,J]
    simp only[Bk.ok,V,Bool.true_and]
    cases h1:a.ok (Bk.Gb x loops)<;>cases h2:b.ok (Bk.Gb x loops)<;>cases h3:r.ok loops<;>simp[Bk.depth]
    omega
def AD(n d:Int):Int:=if d<0 then -1 else max n d
def abA{xs l:List cR}{x:cR}{loops n:Int}(h:jn xs loops=AD n (jn (x::l) loops))(hb:¬ (DY x l/\Bk.Db x loops=true)):jn xs loops = -1:=by
 rw[h,Yj hb];rfl
def an2{xs l:List cR}{x:cR}{loops n:Int}(h:jn xs loops=AD n (jn (x::l) loops))(E:DY x l)(I:Bk.Db x loops=true)(hb:Bk.IN x=true)(A B:Int)
  (M:A=jn (l.take x.body.toNat) (Bk.Gb x loops)) (J:B=jn ((l.drop x.body.toNat).take x.ib.toNat) (Bk.Gb x loops)) :
  (A<0\/B<0->jn xs loops = -1)/\(¬ (A<0\/B<0)->jn xs loops=AD (max (max n (1+A)) (1+B)) (jn (l.drop (x.body.toNat+x.ib.toNat)) loops)):=by
 have O:=GY (l.drop (x.body.toNat+x.ib.toNat)) loops
 rw[h,IP E I]
 simp only[<- M,<- J,hb,if_true]
 unfold AD
 constructor<;>intro h<;>repeat' split
 all_goals omega
def avi{xs l:List cR}{x:cR}{loops n:Int}(h:jn xs loops=AD n (jn (x::l) loops))(B:DY x l)(E:Bk.Db x loops=true)(hb:Bk.IN x=false) :
  jn xs loops=AD n (jn (l.drop (x.body.toNat+x.ib.toNat)) loops):=by
 have I:x.body=0/\x.ib=0:=by
  unfold Bk.Db at E
  unfold Bk.IN at hb
  obtain⟨h1,h2,_⟩:=B
  grind
 rw[h,IP B E,I.1,I.2]
 have e1:l.take (acD 0)=[]:=rfl
 have J:(l.drop (acD 0)).take (acD 0)=[]:=rfl
 simp only[hb,e1,J,LY]
 unfold AD
 repeat' split
 all_goals first|omega|simp_all
theorem drop_cons{α:Type}{xs:List α}{k:Nat}{x:α}(h:xs[k]?=some x):xs.drop k=x::xs.drop (k+1):=by
 obtain⟨h1,h2⟩:=l0.1 h
 rw[xD h1,h2]
theorem IQ{α:Type}(xs:List α){a b c n:Nat}(h:b=a+n)(hc:c=a):(xs.take b).drop c=(xs.drop a).take n:=by
 subst h hc;rw[List.drop_take,Nat.add_sub_cancel_left]
def ahz:List ByteArray:=[⟨#[]⟩,⟨#[114,101]⟩,⟨#[114,110]⟩,⟨#[110,101]⟩,⟨#[114,110,101,102]⟩,⟨#[110]⟩,⟨#[110]⟩,⟨#[]⟩,⟨#[]⟩,⟨#[110]⟩,⟨#[110]⟩,⟨#[101,98]⟩,⟨#[107,98]⟩,⟨#[]⟩,⟨#[101]⟩]
def nR(k:Int):ByteArray:=if k<1\/14<k then⟨#[]⟩else ahz.getD k.toNat ⟨#[]⟩
def fS(s:ByteArray)(c:Int):Bool:=(nB s).any λb=>decide ((b.toNat:Int)=c)
def vB(x:cR):Bool:=
 !(decide (x.kind<1)||decide (14<x.kind)||decide (x.at_<0)||decide (4000<x.at_)) &&
 !((fS (nR x.kind) 114 != mD x.jJ)||(!fS (nR x.kind) 114&&decide (¬ x.jJ=⟨#[]⟩))||(fS (nR x.kind) 110 != mD x.name)||(!fS (nR x.kind) 110&&decide (¬ x.name=⟨#[]⟩))) &&
 !((fS (nR x.kind) 101 != lX x.e)||(!fS (nR x.kind) 101&&decide (0<x.e.length))||(fS (nR x.kind) 102 != lX x.f)||(!fS (nR x.kind) 102&&decide (0<x.f.length))) &&
 (if fS (nR x.kind) 107=true then decide (1<=x.n/\x.n<=8)else decide (x.n=0))
def yR(l:List cR):Bool:=decide (l.length<=40)&&!l.any (λx=>!vB x)&&decide (0<=jn l 0/\jn l 0<=12)
def yS(n:Int):Bool:=decide (0<=n/\n<=4000)
def ql(B:Int)(c:dW):Bool:=!mD c.name||decide (c.n<0)||decide (B<c.n)||!yS c.at_
def xj(B:Int)(l:List dW):Bool:=!l.any (ql B)
def yT(nb:Bool)(t:eH):Bool:=(nb != mD t.name)||(!nb&&decide (¬ t.name=⟨#[]⟩))||!yS t.at_||!yR t.body
def AE(nb:Bool)(t:eH):Bool:=yT nb t||t.aJ.any (λs=>!mD s)
def rI(nb:Bool)(l:List eH):Bool:=!l.any (AE nb)
def BA(l:List dW):Bool:=decide ((l.length:Int)=0)||!xj 4294967296 l
def yb(c:lW):Bool:=!yS c.at_||!lX c.e
def oD(p:dM):Bool:=!p.lines.any BA&&!p.cD.any yb&&(xj 4294967296 p.mu&&xj 0 p.locks&&rI true p.threads&&rI false p.recover&&decide (p.recover.length<=1))
def SzS(x:cR):Prop:=x.jJ.size<=1048576/\x.name.size<=1048576/\x.e.length<=1048576/\x.f.length<=1048576/\(∀y∈x.e,y.name.size<=1048576)/\(∀y∈x.f,y.name.size<=1048576)
def SzT(t:eH):Prop:=t.name.size<=1048576/\(∀s∈t.aJ,s.size<=1048576)/\(∀x∈t.body,SzS x)
structure PZ(p:dM):Prop extends PS p where
 zl:∀l∈p.lines,∀c∈l,c.name.size<=1048576
 zv:∀c∈p.mu,c.name.size<=1048576
 zk:∀c∈p.locks,c.name.size<=1048576
 zt:∀t∈p.threads,SzT t
 zr:∀t∈p.recover,SzT t
 zc:∀c∈p.cD,c.e.length<=1048576/\∀y∈c.e,y.name.size<=1048576
def IS(k:Int):(nR k).size<=1048576:=by
 unfold nR
 split
 .decide
 rename_i h
 obtain rfl|rfl|rfl|rfl|rfl|rfl|rfl|rfl|rfl|rfl|rfl|rfl|rfl|rfl:k=1\/k=2\/k=3\/k=4\/k=5\/k=6\/k=7\/k=8\/k=9\/k=10\/k=11\/k=12\/k=13\/k=14:=cW
 all_goals decide
def C251(k:Int)(w:World):CR 251 [jK k] w (λv w'=>v=.string (nR k)/\Ext w w'):=by
 have B:=St.start w;refine agR _ _ _ ?_;unfold S251;refine⟨λJ w'=>J=.bool (decide (k<1\/14<k))/\w=w',aK (aC (λ_=>⟨Ky cW,rfl⟩) λ_=>cG ⟨uS cW,rfl⟩),?_⟩;rintro _ _ ⟨rfl,V⟩ _;subst V;refine aC (λE=>?_) (λE=>?_)
 .refine⟨?_,B.aE⟩;unfold nR;rw[fV E]
 refine bJ ahz B pK rfl rfl (dV rfl) (λO _ B=>?_);have W:ahz.length=15:=rfl;obtain⟨U,I⟩:=gx ahz (i:=k.toNat) cW;refine cH B pK cW cW (λ_ M=>eK B mJ M I ?_);refine⟨?_,B.aE⟩;unfold nR;rw[fU E,oi,I];rfl
def C252(s:ByteArray)(c:Int)(w:World)(hn:s.size<=1048576):CR 252 [.string s,.int .u8 c] w (λv w'=>v=.bool (fS s c)/\Ext w w'):=by
 have B:=St.start w;refine lx Tryz.func252 ?_;refine⟨λm x M=>∃k:Nat,x=jK (k:Int)/\m=(nB s).length-k/\k<=(nB s).length/\(∀y∈(nB s).take k,decide ((y.toNat:Int)=c)=false)/\St w aY [] M,⟨_,0,rfl,rfl,o6 _,eU,B⟩,?_⟩;rintro m _ M ⟨k,rfl,rfl,V,J,B⟩ _;rw[eX]at V;have W:=eX s;refine iL jD (aK (aC (λO=>?_) λO=>?_))
 .obtain⟨jm,E⟩:∃U,(nB s)[(k:Int).toNat]?=some U:=⟨_,nT (by rw[eX];omega)⟩;exact nW jD cW E (ry (aC (λI=>⟨vb (ko E (gq I)).symm,B.aE⟩) λI=>aN cW ⟨_,cW,k+1,rfl,rfl,cW,eY J E (gD I),B⟩))
 rw[mE cW]at J;exact⟨vb (iX J).symm,B.aE⟩
def C230(x:cR)(xv:cL)(w:World)(hx:py w xv x)(E:SzS x):CR 230 [j6 xv] w (λv w'=>v=.bool (vB x)/\Ext w w'):=by
 obtain⟨W,uu,rfl,Gc,vC⟩:=hx;have B:=St.start w;refine lx Tryz.func230 ?_;refine cU B (λV _ B=>⟨λI w'=>I=.bool (decide (x.kind<1)||decide (14<x.kind)||decide (x.at_<0)||decide (4000<x.at_))/\St w aY [cI V (kp (⟨x.kind,x.jJ,x.name,W,uu,x.n,x.body,x.ib,x.at_⟩:cL))] w',?_,?_⟩)
 .refine aA gT (aB (v:=jK x.kind) aV B.hb rfl ?_);exact aK (aC (λ_=>⟨vb eS,B⟩) λ_=>aA gT (aB (v:=jK x.kind) aV B.hb rfl (cG (aC (λ_=>⟨vb eS,B⟩) λ_=>aA vo (aB (v:=jK x.at_) aV B.hb rfl (aK (aC (λ_=>⟨vb eS,B⟩) λ_=>aA vo (aB (v:=jK x.at_) aV B.hb rfl (cG ⟨vb eS,B⟩)))))))))
 rintro _ _ ⟨rfl,B⟩ _;refine aW (λfX=>?_) (λfX=>aA gT (aB (v:=jK x.kind) aV B.hb rfl (aZ auv B (C251 _ _) λ_ J B=>aZ Pl B (C252 _ _ _ (IS _)) λ_ J B=>aZ Pl B (C252 _ _ _ (IS _)) λ_ J B=>aZ Pl B (C252 _ _ _ (IS _)) λ_ J B=>aZ Pl B (C252 _ _ _ (IS _)) λ_ J B=>⟨λI w'=>I=.bool ((fS (nR x.kind) 114 != mD x.jJ)||(!fS (nR x.kind) 114&&decide (¬ x.jJ=⟨#[]⟩))||(fS (nR x.kind) 110 != mD x.name)||(!fS (nR x.kind) 110&&decide (¬ x.name=⟨#[]⟩)))/\St w aY [cI V (kp (⟨x.kind,x.jJ,x.name,W,uu,x.n,x.body,x.ib,x.at_⟩:cL))] w',?_,?_⟩)))
 .refine⟨vb ?_,B.drop.aE⟩;unfold vB;simp only[*]
  first|done|rfl|simp
 .refine aA ow (aB (v:=.string x.jJ) mJ B.hb rfl (aZ xE B (C161 _ _ E.1) λ_ J B=>tz Pt (aW (λ_=>⟨vb eS,B⟩) λkN=>bV (aW (λqO=>?_) λ_=>aA lG (aB (v:=.string x.name) mJ B.hb rfl (aZ xE B (C161 _ _ E.2.1) λ_ _ B=>tz Pt (aW (λ_=>⟨vb eS,B⟩) λ_=>bV (aW (λ_=>aA lG (aB (v:=.string x.name) mJ B.hb rfl (sF ⟨vb eS,B⟩))) λ_=>⟨vb eS,B⟩))))))));refine aA ow ?_;exact aB (v:=.string x.jJ) mJ B.hb rfl (sF (aC (λ_=>⟨vb eS,B⟩) λ_=>aA lG (aB (v:=.string x.name) mJ B.hb rfl (aZ xE B (C161 _ _ E.2.1) λ_ _ B=>tz Pt (aW (λ_=>⟨vb eS,B⟩) λ_=>bV (aW (λ_=>aA lG (aB (v:=.string x.name) mJ B.hb rfl (sF ⟨vb eS,B⟩))) λ_=>⟨vb eS,B⟩))))))
 rintro _ _ ⟨rfl,B⟩ _;refine aW (λGd=>?_) (λGd=>⟨λI w'=>I=.bool ((fS (nR x.kind) 101 != lX x.e)||(!fS (nR x.kind) 101&&decide (0<x.e.length))||(fS (nR x.kind) 102 != lX x.f)||(!fS (nR x.kind) 102&&decide (0<x.f.length)))/\St w aY [cI V (kp (⟨x.kind,x.jJ,x.name,W,uu,x.n,x.body,x.ib,x.at_⟩:cL))] w',?_,?_⟩)
 .refine⟨vb ?_,B.drop.aE⟩;unfold vB;simp only[*]
  first|done|rfl|simp
 .refine aA ox (aB pJ B.hb rfl ?_);have M:=DL.flat Gc;refine aZ Pc B (C105 _ _ _ (M.ext B.aE) E.2.2.1 E.2.2.2.2.1) (λ_ J B=>tz Pt (aW (λ_=>⟨vb eS,B⟩) λrJ=>bV (aW (λavk=>aA ox (aB pJ B.hb rfl (aI oh (M.ext B.aE) (cG (aC (λ_=>⟨vb eS,B⟩) λWc=>?_))))) λavk=>?_)))
  .refine aA rn (aB pJ B.hb rfl ?_);have U:=DL.flat vC;exact aZ Pc B (C105 _ _ _ (U.ext B.aE) E.2.2.2.1 E.2.2.2.2.2) (λ_ _ B=>tz Pt (aW (λ_=>⟨vb eS,B⟩) λ_=>bV (aW (λ_=>aA rn (aB pJ B.hb rfl (aI oh (U.ext B.aE) (cG ⟨vb eS,B⟩)))) λ_=>⟨vb eS,B⟩)))
  refine aA rn (aB pJ B.hb rfl ?_);have O:=DL.flat vC;exact aZ Pc B (C105 _ _ _ (O.ext B.aE) E.2.2.2.1 E.2.2.2.2.2) (λ_ _ B=>tz Pt (aW (λ_=>⟨vb eS,B⟩) λ_=>bV (aW (λ_=>aA rn (aB pJ B.hb rfl (aI oh (O.ext B.aE) (cG ⟨vb eS,B⟩)))) λ_=>⟨vb eS,B⟩)))
 rintro _ _ ⟨rfl,B⟩ _;refine aW (λIT=>?_) (λIT=>aZ Pl B (C252 _ _ _ (IS _)) λ_ J B=>aW (λFi=>⟨λI w'=>I=.bool (decide (1<=x.n/\x.n<=8))/\St w aY [cI V (kp (⟨x.kind,x.jJ,x.name,W,uu,x.n,x.body,x.ib,x.at_⟩:cL))] w',aA xP (aB (v:=jK x.n) aV B.hb rfl (cN (aC (λ_=>aA xP (aB (v:=jK x.n) aV B.hb rfl (gL ⟨vb eS,B⟩))) λ_=>⟨vb eS,B⟩))),?_⟩) λFi=>?_)
 .refine⟨vb ?_,B.drop.aE⟩;unfold vB;simp only[*]
  first|done|rfl|simp
 .rintro _ _ ⟨rfl,B⟩ _;refine⟨vb ?_,B.drop.aE⟩;unfold vB;simp only[*]
  first|done|rfl|simp
 refine aA xP (aB (v:=jK x.n) aV B.hb rfl (aH ?_));refine⟨vb ?_,B.drop.aE⟩;unfold vB;simp only[*]
 first|done|rfl|simp
theorem C231(lv:Value)(xs:List cR)(loops:Int)(N:Nat)(w:World)(hL:DL w lv xs)(hn:xs.length<=1048576)(hlo:0<=loops)(Kz:loops+N<=4194304)(hN:xs.length<N):CR 231 [lv,jK loops] w (λv w'=>v=jK (jn xs loops)/\Ext w w'):=by
 have I:=St.start w;refine agM _ _ _ _ ?_;unfold S231;refine⟨λm y x w1=>∃(k:Nat) (n:Int),y=jK n/\x=jK (k:Int)/\m=xs.length-k/\k<=xs.length/\0<=n/\n<=41/\jn xs loops=AD n (jn (xs.drop k) loops)/\St w aY [] w1,⟨_,0,0,rfl,rfl,rfl,cW,cW,cW,by have:=GY xs loops;rw[List.drop_zero];unfold AD;split<;>omega,I⟩,?_⟩;rintro m _ _ w1 ⟨k,n,rfl,rfl,rfl,hk,hn0,hn1,hinv,I⟩ _;obtain⟨ts7,J,O⟩:=hL.open;have hn7:=O.1;refine aI mH (J.ext I.aE) (aK (aC (λj4=>?_) λj4=>?_))
 .obtain⟨uo,jY⟩:=gx ts7 (i:=(k:Int).toNat) cW;obtain⟨E,abD⟩:=gx xs (i:=(k:Int).toNat) cW;obtain⟨U,V,rfl,azG,azH⟩:=O.2 _ _ _ jY abD;refine aQ mH (J.ext I.aE) cW jY (λ_ xY=>?_);have hdk:=drop_cons (xs:=xs) (k:=k) abD;rw[hdk]at hinv;have hdl:(xs.drop (k+1)).length=xs.length-(k+1):=ta;refine aF iy xY (aR I uH λDZ _ I=>aO (x:=(⟨E.kind,E.jJ,E.name,U,V,E.n,E.body,E.ib,E.at_⟩:cL)) I iy rfl rfl λ_ I=>⟨λM w'=>M=.bool (decide (E.body<0)||decide (E.ib<0)||decide (40<E.body)||decide (40<E.ib)||decide ((xs.length:Int)<k+1+E.body+E.ib))/\St w aY [cI DZ (kp (⟨E.kind,E.jJ,E.name,U,V,E.n,E.body,E.ib,E.at_⟩:cL))] w',aA pN (aB (v:=jK E.body) aV I.hb rfl (aK (aC (λ_=>⟨vb eS,I⟩) λiF=>aA kJ (aB (v:=jK E.ib) aV I.hb rfl (aK (aC (λ_=>⟨vb eS,I⟩) λtN=>aA pN (aB (v:=jK E.body) aV I.hb rfl (cG (aC (λ_=>⟨vb eS,I⟩) λmW=>?_))))))))),?_⟩)
  .exact aA kJ (aB (v:=jK E.ib) aV I.hb rfl (cG (aC (λ_=>⟨vb eS,I⟩) λ_=>aN cW (aA pN (aB (v:=jK E.body) aV I.hb rfl (aN cW (aA kJ (aB (v:=jK E.ib) aV I.hb rfl (aN cW (aI mH (J.ext I.aE) (cG ⟨vb eS,I⟩)))))))))))
  rintro _ _ ⟨rfl,I⟩ _;refine aW (λ_=>⟨hM (qs .i64) (abA hinv (by unfold DY;grind)).symm,I.drop.aE⟩) (λIL=>?_);have oq:DY E (xs.drop (k+1)):=by unfold DY;grind
  refine⟨λM w'=>M=.bool (!Bk.Db E loops)/\St w aY [cI DZ (kp (⟨E.kind,E.jJ,E.name,U,V,E.n,E.body,E.ib,E.at_⟩:cL))] w',aA pN (aB (v:=jK E.body) aV I.hb rfl (cG (aC (λGe=>aA gT (aB (v:=jK E.kind) aV I.hb rfl (bQ (aC (λGa=>aA gT (aB (v:=jK E.kind) aV I.hb rfl (bQ (aC (λ_=>⟨vb (by unfold Bk.Db;grind),I⟩) λtK=>?_)))) λGa=>?_)))) λGe=>?_))),?_⟩
  .refine aA kJ (aB (v:=jK E.ib) aV I.hb rfl (cG (aC (λ_=>aA gT (aB (v:=jK E.kind) aV I.hb rfl (bQ (aC (λ_=>⟨vb (by unfold Bk.Db;grind),I⟩) λ_=>aA gT (aB (v:=jK E.kind) aV I.hb rfl (aH (aC (λ_=>aH ⟨vb (by unfold Bk.Db;grind),I⟩) λ_=>⟨vb (by unfold Bk.Db;grind),I⟩))))))) λvu=>?_)));exact aA gT (aB (v:=jK E.kind) aV I.hb rfl (aH (aC (λ_=>aH ⟨vb (by unfold Bk.Db;grind),I⟩) λ_=>⟨vb (by unfold Bk.Db;grind),I⟩)))
  .refine aA kJ (aB (v:=jK E.ib) aV I.hb rfl (cG (aC (λ_=>aA gT (aB (v:=jK E.kind) aV I.hb rfl (bQ (aC (λ_=>⟨vb (by unfold Bk.Db;grind),I⟩) λ_=>aA gT (aB (v:=jK E.kind) aV I.hb rfl (aH (aC (λ_=>aH ⟨vb (by unfold Bk.Db;grind),I⟩) λ_=>⟨vb (by unfold Bk.Db;grind),I⟩))))))) λazI=>?_)));exact aA gT (aB (v:=jK E.kind) aV I.hb rfl (aH (aC (λ_=>aH ⟨vb (by unfold Bk.Db;grind),I⟩) λ_=>⟨vb (by unfold Bk.Db;grind),I⟩)))
  .refine aA kJ (aB (v:=jK E.ib) aV I.hb rfl (cG (aC (λ_=>aA gT (aB (v:=jK E.kind) aV I.hb rfl (bQ (aC (λ_=>⟨vb (by unfold Bk.Db;grind),I⟩) λ_=>aA gT (aB (v:=jK E.kind) aV I.hb rfl (aH (aC (λ_=>aH ⟨vb (by unfold Bk.Db;grind),I⟩) λ_=>⟨vb (by unfold Bk.Db;grind),I⟩))))))) λazJ=>?_)));exact aA gT (aB (v:=jK E.kind) aV I.hb rfl (aH (aC (λ_=>aH ⟨vb (by unfold Bk.Db;grind),I⟩) λ_=>⟨vb (by unfold Bk.Db;grind),I⟩)))
  rintro _ _ ⟨rfl,I⟩ _;refine aW (λ_=>⟨hM (qs .i64) (abA hinv eS).symm,I.drop.aE⟩) (λGf=>?_);have mL:Bk.Db E loops=true:=eS
  have aDD:=oq;unfold DY at aDD;refine aN cW (aA pN (have I:=I.drew;aB (v:=jK E.body) aV I.hb rfl (aN cW ⟨λM w'=>M=jK (Bk.Gb E loops)/\St w aY [cI DZ (kp (⟨E.kind,E.jJ,E.name,U,V,E.n,E.body,E.ib,E.at_⟩:cL))] w',aA gT (aB (v:=jK E.kind) aV I.hb rfl (aH (aC (λ_=>aN cW ⟨hM (qs .i64) (by unfold Bk.Gb;grind),I⟩) λ_=>⟨hM (qs .i64) (by unfold Bk.Gb;grind),I⟩))),?_⟩)));rintro _ _ ⟨rfl,I⟩ _;have uh:loops<=Bk.Gb E loops/\Bk.Gb E loops<=loops+1:=by unfold Bk.Gb;split<;>omega
  refine⟨λM w'=>∃W:Int,M=jK W/\0<=W/\W<=41/\jn xs loops=AD W (jn (xs.drop (k+1+(E.body.toNat+E.ib.toNat))) loops)/\St w aY [cI DZ (kp (⟨E.kind,E.jJ,E.name,U,V,E.n,E.body,E.ib,E.at_⟩:cL))] w',⟨λM w'=>M=.bool (decide (E.kind=11)||decide (E.kind=12))/\St w aY [cI DZ (kp (⟨E.kind,E.jJ,E.name,U,V,E.n,E.body,E.ib,E.at_⟩:cL))] w',aA gT (aB (v:=jK E.kind) aV I.hb rfl (aH (aC (λ_=>⟨vb eS,I⟩) λ_=>aA gT (aB (v:=jK E.kind) aV I.hb rfl (aH ⟨vb eS,I⟩))))),?_⟩,?_⟩
  .rintro _ _ ⟨rfl,I⟩ _;refine aW (λNG=>?_) (λNG=>?_)
   .refine aN cW (mT mH (J.ext I.aE) cW cW cW λaDE ahA=>?_);have ahB:=DL.cut ahA J O;refine aA kJ (have I:=I.drew;aB (v:=jK E.ib) aV I.hb rfl (aN cW (mT mH (J.ext I.aE) cW cW cW λaDF ahC=>?_)));have ahD:=DL.cut ahC J O;have hcA:((xs.take (((k:Int)+1)+E.body).toNat).drop ((k:Int)+1).toNat)=(xs.drop (k+1)).take E.body.toNat:=IQ xs cW cW;have hcB:((xs.take ((((k:Int)+1)+E.body)+E.ib).toNat).drop (((k:Int)+1)+E.body).toNat)=((xs.drop (k+1)).drop E.body.toNat).take E.ib.toNat:=by rw[Cl];exact IQ xs cW cW
    have hlA:((xs.take (((k:Int)+1)+E.body).toNat).drop ((k:Int)+1).toNat).length<=xs.length-1/\((xs.take (((k:Int)+1)+E.body).toNat).drop ((k:Int)+1).toNat).length<=40:=by rw[hcA,oj];omega
    have hlB:((xs.take ((((k:Int)+1)+E.body)+E.ib).toNat).drop (((k:Int)+1)+E.body).toNat).length<=xs.length-1/\((xs.take ((((k:Int)+1)+E.body)+E.ib).toNat).drop (((k:Int)+1)+E.body).toNat).length<=40:=by rw[hcB,oj,ta];omega
    refine aZ aaC I (C231 _ _ _ (N-1) _ (ahB.ext I.aE) cW cW cW cW) (λ_ he I=>?_);refine⟨aG aV (I.hb.cell rfl),?_⟩;refine eR aaC (C231 _ _ _ (N-1) _ (ahD.ext I.aE) cW cW cW cW) ?_;rintro _ _ ⟨rfl,he⟩;have I:=I.ext he;obtain⟨A,hA⟩:∃A,A=jn ((xs.take (((k:Int)+1)+E.body).toNat).drop ((k:Int)+1).toNat) (Bk.Gb E loops):=⟨_,rfl⟩;obtain⟨B,hB⟩:∃B,B=jn ((xs.take ((((k:Int)+1)+E.body)+E.ib).toNat).drop (((k:Int)+1)+E.body).toNat) (Bk.Gb E loops):=⟨_,rfl⟩;have hAb:=GY ((xs.take (((k:Int)+1)+E.body).toNat).drop ((k:Int)+1).toNat) (Bk.Gb E loops)
    have hBb:=GY ((xs.take ((((k:Int)+1)+E.body)+E.ib).toNat).drop (((k:Int)+1)+E.body).toNat) (Bk.Gb E loops);rw[<- hA]at hAb;rw[<- hB]at hBb;rw[<- hA,<- hB];have hdb:=an2 hinv oq mL (by unfold Bk.IN;grind) A B (by rw[hA,hcA]) (by rw[hB,hcB]);refine⟨λM w'=>M=.bool (decide (A<0\/B<0))/\St w aY [cI DZ (kp (⟨E.kind,E.jJ,E.name,U,V,E.n,E.body,E.ib,E.at_⟩:cL))] w',aK (aC (λ_=>⟨vb eS,I⟩) λ_=>aK ⟨vb eS,I⟩),?_⟩;rintro _ _ ⟨rfl,I⟩ _;refine aW (λyW=>⟨hM (qs .i64) (hdb.1 (hU yW)).symm,I.drop.aE⟩) (λyW=>aN cW (aN cW (aa7 ?_)))
    have avl:=hdb.2 (ij yW);rw[Cl]at avl;exact⟨_,rfl,cW,cW,avl,I⟩
   have hdn:=avi hinv oq mL (by unfold Bk.IN;grind);rw[Cl]at hdn;exact⟨_,rfl,hn0,hn1,hdn,I⟩
  rintro _ _ ⟨W,rfl,aDH,aDI,avm,I⟩ _;exact aA kJ (aB (v:=jK E.ib) aV I.hb rfl (aN cW ⟨_,cW,k+1+(E.body.toNat+E.ib.toNat),W,rfl,hM (qs .i64) cW,rfl,cW,aDH,aDI,avm,I.drop⟩))
 rw[vV cW,LY]at hinv;exact⟨hM (qs .i64) (by rw[hinv];unfold AD;omega),I.aE⟩
termination_by N
decreasing_by all_goals omega
def C205(lv:Value)(xs:List cR)(w:World)(hL:DL w lv xs)(hn:xs.length<=1048576)(hz:∀x∈xs,SzS x):CR 205 [lv] w (λv w'=>v=.bool (yR xs)/\Ext w w'):=by
 have B:=St.start w;refine agG _ _ _ ?_;unfold S205;obtain⟨ts8,E,I⟩:=hL.open;have hn8:=I.1;refine aI mH (E.ext B.aE) (cG (aC (λj8=>?_) λj8=>?_))
 .refine⟨vb ?_,B.aE⟩;unfold yR;rw[gD cW];rfl
 refine⟨λm x w1=>∃k:Nat,x=jK (k:Int)/\m=xs.length-k/\k<=xs.length/\(∀y∈xs.take k,(!vB y)=false)/\St w aY [] w1,⟨_,0,rfl,rfl,o6 _,eU,B⟩,?_⟩;rintro m _ w1 ⟨k,rfl,rfl,hk,gG,B⟩ _;refine aI mH (E.ext B.aE) (aK (aC (λjz=>?_) λjz=>aZ aaC B (C231 _ _ _ (xs.length+1) _ (hL.ext B.aE) cW cW cW cW) λ_ he B=>⟨λjv w'=>jv=.bool (decide (0<=jn xs 0/\jn xs 0<=12))/\St w aY [] w',cN (aC (λ_=>gL ⟨vb eS,B⟩) λ_=>⟨vb eS,B⟩),?_⟩))
 .obtain⟨Cc,kW⟩:=gx ts8 (i:=(k:Int).toNat) cW;obtain⟨pe,J⟩:=gx xs (i:=(k:Int).toNat) cW;obtain⟨O,W,rfl,U,V⟩:=I.2 _ _ _ kW J;refine aQ mH (E.ext B.aE) cW kW (λ_ vy=>aF iy vy (aZ auh B (C230 pe _ _ ⟨O,W,rfl,U.ext B.aE,V.ext B.aE⟩ (hz _ (ld J))) λ_ he B=>bV (aW (λM=>?_) λM=>aN cW ⟨_,cW,k+1,rfl,rfl,cW,eY gG J M,B⟩)));refine⟨vb ?_,B.aE⟩;unfold yR;rw[ko J M];simp
 rintro _ _ ⟨rfl,B⟩ _;rw[mE cW]at gG;refine⟨vb ?_,B.aE⟩;unfold yR;rw[iX gG,gq (show xs.length<=40 by omega)];rfl
def C156(n:Int)(w:World):CR 156 [jK n] w (λv w'=>v=.bool (yS n)/\Ext w w'):=by
 have B:=St.start w;refine lx Tryz.func156 ?_;refine⟨λE w'=>E=.bool (decide (0<=n/\n<=4000))/\w=w',cN (aC (λ_=>gL ⟨uS cW,rfl⟩) λ_=>⟨jvF cW,rfl⟩),?_⟩;rintro _ _ ⟨rfl,I⟩ _;subst I;exact⟨rfl,B.aE⟩
def C155(lv:Value)(xs:List dW)(M:Int)(w:World)(I:eN (λ_=>True) w lv xs)(hn:xs.length<=1048576)(hz:∀c∈xs,c.name.size<=1048576):CR 155 [lv,jK M] w (λv w'=>v=.bool (xj M xs)/\Ext w w'):=by
 have B:=St.start w;refine lx Tryz.func155 ?_;refine⟨λm x V=>∃k:Nat,x=jK (k:Int)/\m=xs.length-k/\k<=xs.length/\(∀y∈xs.take k,ql M y=false)/\St w aY [] V,⟨_,0,rfl,rfl,o6 _,eU,B⟩,?_⟩;rintro m _ V ⟨k,rfl,rfl,hk,U,B⟩ _;refine aI mG (I.ext B.aE) (aK (aC (λkG=>?_) λkG=>?_))
 .obtain⟨J,E⟩:=gx xs (i:=(k:Int).toNat) cW;refine⟨λjv w'=>jv=.bool (ql M J)/\St w aY [] w',aQ mG (I.ext B.aE) cW E (λ_ kr=>bO J.name tG kr rfl rfl λ_ pS=>aF mJ pS (aZ xE B (C161 _ _ (hz _ (ld E))) λ_ he B=>bV (aW (λ_=>⟨vb (by unfold ql;grind),B⟩) λg9=>?_))),?_⟩
  .refine aQ mG (I.ext B.aE) cW E (λ_ W=>bO J.n DA W rfl rfl λ_ oC=>?_);exact aF aV oC (aK (aC (λ_=>⟨vb (by unfold ql;grind),B⟩) λ_=>aQ mG (I.ext B.aE) cW E λ_ kM=>bO J.n DA kM rfl rfl λ_ nf=>aF aV nf (cG (aC (λ_=>⟨vb (by unfold ql;grind),B⟩) λ_=>aQ mG (I.ext B.aE) cW E λ_ tL=>bO J.at_ HY tL rfl rfl λ_ Qm=>aF aV Qm (aZ VA B (C156 _ _) λ_ _ B=>bV ⟨vb (by unfold ql;grind),B⟩)))))
  rintro _ _ ⟨rfl,B⟩ _;refine aW (λO=>?_) (λO=>aN cW ⟨_,cW,k+1,rfl,rfl,cW,eY U E O,B⟩);refine⟨vb ?_,B.aE⟩;unfold xj;rw[ko E O];rfl
 rw[mE cW]at U;refine⟨vb ?_,B.aE⟩;unfold xj;rw[iX U];rfl
def C157(lv:Value)(xs:List eH)(nb:Bool)(w:World)(hL:DL w lv xs)(hn:xs.length<=1048576)(hz:∀t∈xs,SzT t/\t.aJ.length<=500/\t.body.length<=500):CR 157 [lv,.bool nb] w (λv w'=>v=.bool (rI nb xs)/\Ext w w'):=by
 have B:=St.start w;refine agl _ _ _ _ ?_;unfold S157;refine⟨λm x w1=>∃k:Nat,x=jK (k:Int)/\m=xs.length-k/\k<=xs.length/\(∀y∈xs.take k,AE nb y=false)/\St w aY [] w1,⟨_,0,rfl,rfl,o6 _,eU,B⟩,?_⟩;rintro m _ w1 ⟨k,rfl,rfl,hk,gG,B⟩ _;obtain⟨ts9,I,U⟩:=hL.open;have hn9:=U.1;refine aI kI (I.ext B.aE) (aK (aC (λiE=>?_) λiE=>?_))
 .obtain⟨Cc,J⟩:=gx ts9 (i:=(k:Int).toNat) cW;obtain⟨E,O⟩:=gx xs (i:=(k:Int).toNat) cW;obtain⟨IU,IV,rfl,Ts,IW⟩:=U.2 _ _ _ J O;have Qu:=hz _ (ld O);refine⟨λjv w'=>jv=.bool (yT nb E)/\St w aY [] w',aQ kI (I.ext B.aE) cW J (λ_ vy=>bO E.name Dw vy rfl rfl λ_ IA=>aF mJ IA (aZ xE B (C161 _ _ Qu.1.1) λ_ he B=>tz Pt (aW (λ_=>⟨vb (by unfold yT;grind),B⟩) λlJ=>?_))),?_⟩
  .refine bV (aW (λjR=>?_) λ_=>aQ kI (I.ext B.aE) cW J λ_ ahI=>bO E.at_ Dx ahI rfl rfl λ_ ahJ=>aF aV ahJ (aZ VA B (C156 _ _) λ_ _ B=>bV (aW (λ_=>⟨vb (by unfold yT;grind),B⟩) λ_=>aQ kI (I.ext B.aE) cW J λ_ ahK=>bO IV uG ahK rfl rfl λ_ ahL=>aF xd ahL (aZ akx B (C205 _ _ _ (IW.ext B.aE) cW Qu.1.2.2) λ_ _ B=>bV ⟨vb (by unfold yT;grind),B⟩))));refine aQ kI (I.ext B.aE) cW J (λ_ tM=>bO E.name Dw tM rfl rfl λ_ si=>aF mJ si ?_)
   exact sF (aC (λ_=>⟨vb (by unfold yT;grind),B⟩) λ_=>aQ kI (I.ext B.aE) cW J λ_ ya=>bO E.at_ Dx ya rfl rfl λ_ rD=>aF aV rD (aZ VA B (C156 _ _) λ_ _ B=>bV (aW (λ_=>⟨vb (by unfold yT;grind),B⟩) λ_=>aQ kI (I.ext B.aE) cW J λ_ IX=>bO IV uG IX rfl rfl λ_ Qv=>aF xd Qv (aZ akx B (C205 _ _ _ (IW.ext B.aE) cW Qu.1.2.2) λ_ _ B=>bV ⟨vb (by unfold yT;grind),B⟩))))
  rintro _ _ ⟨rfl,B⟩ _;refine aW (λIL=>?_) (λIL=>?_)
  .refine⟨vb ?_,B.aE⟩;unfold rI;rw[ko O (show AE nb E=true by unfold AE;rw[IL];rfl)];rfl
  refine⟨λm x w1=>∃M:Nat,x=jK (M:Int)/\m=E.aJ.length-M/\M<=E.aJ.length/\(∀s∈E.aJ.take M,(!mD s)=false)/\St w aY [] w1,⟨_,0,rfl,rfl,o6 _,eU,B⟩,?_⟩;rintro m _ _ ⟨M,rfl,rfl,xk,D0,B⟩ _;refine aQ kI (I.ext B.aE) cW J (λ_ Qr=>bO IU lO Qr rfl rfl λ_ xX=>aF tA xX ?_);have V:=DL.flat Ts;refine aI pK (V.ext B.aE) (aK (aC (λzB=>?_) λ_=>aN cW ⟨_,cW,k+1,rfl,rfl,cW,eY gG O (by unfold AE;rw[IL,iX (by rw[mE cW]at D0;exact D0)];rfl),B⟩))
  refine aQ kI (I.ext B.aE) cW J (λ_ Qw=>bO IU lO Qw rfl rfl λ_ D1=>aF tA D1 ?_);obtain⟨ak7,W⟩:=gx E.aJ (i:=(M:Int).toNat) cW;refine aQ pK (V.ext B.aE) cW W (λ_ Qn=>aF mJ Qn (aZ xE B (C161 _ _ (Qu.1.2.1 _ (ld W))) λ_ he B=>bV (aW (λIY=>?_) λIY=>aN cW ⟨_,cW,M+1,rfl,rfl,cW,eY D0 W IY,B⟩)));refine⟨vb ?_,B.aE⟩;unfold rI;rw[ko O (show AE nb E=true by unfold AE;rw[ko W IY];simp)];rfl
 rw[mE cW]at gG;refine⟨vb ?_,B.aE⟩;unfold rI;rw[iX gG];rfl
def Fj{l:List dP}(h:lX l=true):∀y∈l,0<=y.at_:=by
 intro y E
 unfold lX at h
 have B:l.any sH=false:=eS
 rw[Av]at B
 have:=B y E
 unfold sH at this
 grind
structure aDJ(x:cR):Prop where
 kind:1<=x.kind/\x.kind<=14
 Sv:0<=x.at_/\x.at_<=4000
 e:(fS (nR x.kind) 101=true/\lX x.e=true)\/(fS (nR x.kind) 101=false/\x.e=[])
 f:(fS (nR x.kind) 102=true/\lX x.f=true)\/(fS (nR x.kind) 102=false/\x.f=[])
 jJ:(fS (nR x.kind) 114=true/\mD x.jJ=true)\/(fS (nR x.kind) 114=false/\x.jJ=⟨#[]⟩)
 name:(fS (nR x.kind) 110=true/\mD x.name=true)\/(fS (nR x.kind) 110=false/\x.name=⟨#[]⟩)
 n:(fS (nR x.kind) 107=true/\1<=x.n/\x.n<=8)\/(fS (nR x.kind) 107=false/\x.n=0)
def Fk{x:cR}(h:vB x=true):aDJ x:=by
 unfold vB at h
 simp only[oG,uw,Bool.or_eq_false_iff,decide_eq_false_iff_not,bne_eq_false_iff_eq,Bool.and_eq_false_iff,Bool.not_eq_false',FE]at h
 obtain⟨⟨⟨h1,h2⟩,h3⟩,h4⟩:=h
 constructor
 .omega
 .omega
 .grind
 .grind
 .grind
 .grind
 grind
def ahM{x:cR}(h:vB x=true):0<=x.at_/\(∀y∈x.e,0<=y.at_)/\(∀y∈x.f,0<=y.at_):=by
 have h:=Fk h
 refine⟨h.Sv.1,?_,?_⟩
 .rcases h.e with h|h
  .exact Fj h.2
  grind
 rcases h.f with h|h
 .exact Fj h.2
 grind
theorem an7:fS (nR 12) 107=true:=dO
theorem qQ{l:List cR}(h:yR l=true):l.length<=40/\(∀x∈l,vB x=true)/\∃t:Bk,l=t.flat/\t.str/\t.ok 0=true/\t.depth<=12:=by
 unfold yR at h
 simp only[oG,decide_eq_true_eq,uw]at h
 obtain⟨⟨h1,h2⟩,h3⟩:=h
 rw[Av]at h2
 refine⟨h1,λx B=>eS,?_⟩
 unfold jn at h3
 cases hb:sI l with
 | none=>grind
 | some t=>
  rw[hb]at h3
  obtain⟨E,I⟩:=qw hb
  grind
structure PF(p:dM):Prop where
 lines:∀l∈p.lines,l≠[]/\∀c∈l,ql 4294967296 c=false
 mu:∀c∈p.mu,ql 4294967296 c=false
 locks:∀c∈p.locks,ql 0 c=false
 th:∀t∈p.threads,AE true t=false
 rc:∀t∈p.recover,AE false t=false
 cl:∀c∈p.cD,0<=c.at_/\lX c.e=true
 one:p.recover.length<=1
def AG{p:dM}(h:oD p=true):PF p:=by
 unfold oD xj rI at h
 simp only[oG,uw,Av,decide_eq_true_eq]at h
 obtain⟨⟨h1,h2⟩,⟨⟨h3,h4⟩,h5⟩,h6⟩:=h
 refine⟨λl B=>?_,λc hc=>eS,λc hc=>eS,λt ht=>eS,λt ht=>eS,λc hc=>?_,h6⟩
 .have:=h1 l B
  unfold BA xj at this
  grind
 have:=h2 c hc
 unfold yb yS at this
 grind
def CH{nb:Bool}{t:eH}(h:AE nb t=false):0<=t.at_/\yR t.body=true/\(∀s∈t.aJ,mD s=true)/\mD t.name=nb:=by
 unfold AE yT yS at h
 grind
def vD{m:Int}{c:dW}(h:ql m c=false):0<=c.at_/\mD c.name=true/\0<=c.n/\c.n<=m:=by
 unfold ql yS at h
 grind
def kH(p:dM):List eH:=p.threads++p.recover
def PF.mv{p:dM}(h:PF p){t:eH}(ht:t∈kH p):0<=t.at_/\yR t.body=true/\∀s∈t.aJ,mD s=true:=by
 unfold kH at ht
 rcases r3.1 ht with ht|ht
 .have:=CH (h.th t ht);grind
 have:=CH (h.rc t ht);grind
def tm(p:dM):List Int:=(jB p).map dW.n
def fw(p:dM):Int:=(p.lines.flatten.length:Int)
def abE(p:dM):((jB p).length:Int)-p.mu.length=fw p:=by unfold jB fw;rw[n0];omega
def gv(p:dM):List ByteArray:=(jB p).map dW.name
def jZ(p:dM):List ByteArray:=p.locks.map dW.name
def kx:List (List dW)->Int->Int->Int
 | [],i,a=>i+a
 | l::r,i,a=>if a<l.length then i else kx r (i+1) (a-l.length)
def n8(p:dM)(c:Int):Int:=if c<0\/(jB p).length<=c then -1 else kx p.lines 0 c
def zD(l:List dP)(ns:List ByteArray):Bool:=l.any λx=>decide (x.op=2)&&decide (eD ns x.name<0)
def wL(x:cR)(n:Int):Int:=if x.kind=12 then n*x.n else n
def sm:Bk->Int->Bool
 | .nil,_=>false
 | .cons x a b r,n=>decide (64<wL x n)||(sm a (wL x n)||sm b (wL x n))||sm r n
def Bk.app:Bk->Bk->Bk
 | .nil,t=>t
 | .cons x a b r,t=>.cons x a b (r.app t)
theorem Bk.IZ(a b:Bk):(a.app b).flat=a.flat++b.flat:=by
 induction a with
 | nil=>rfl
 | cons x c d r _ _ B=>grind[flat,app]
theorem Bk.ahN{a b:Bk}(E:a.str)(hb:b.str):(a.app b).str:=by
 induction a with
 | nil=>exact hb
 | cons x c d r _ _ B=>
  grind[str,app]
theorem Ym(a b:Bk)(n:Int):sm (a.app b) n=(sm a n||sm b n):=by
 induction a with
 | nil=>simp[Bk.app,sm]
 | cons x c d r _ _ B=>simp only[Bk.app,sm,B,Bool.or_assoc]
def zE(l:List cR):Bool:=match sI l with|some t=>sm t 1|none=>false
theorem CI{t:Bk}(h:t.str):zE t.flat=sm t 1:=by unfold zE;rw[sJ h]
def lY(p:dM):List dW:=jB p++p.locks++p.threads.map (λt=>⟨t.name,0,t.at_⟩)
def GZ(l:List dW)(j:Nat):Bool:=match l[j]? with|some c=>decide (eD (l.map dW.name) c.name<j)|none=>false
def vE(l:List dW):Bool:=(rv l.length).any (GZ l)
def We(p:dM)(rs:List ByteArray)(j:Nat):Bool:=match rs[j]? with|some s=>decide (eD rs s<j)||decide (0<=eD (gv p) s)||decide (0<=eD (jZ p) s)|none=>false
def KV(p:dM)(rs:List ByteArray):Bool:=(rv rs.length).any (We p rs)
theorem mh{f:Nat->Bool}{n:Nat}(h:∀j,j<n->f j=false):(rv n).any f=false:=by
 grind
theorem oE{f:Nat->Bool}{n j:Nat}(B:j<n)(h:f j=true):(rv n).any f=true:=z6.2 ⟨j,List.mem_range.2 B,h⟩
def uM{f:Nat->Bool}{k:Nat}(h:∀j,j<k->f j=false)(E:f k=false):∀j,j<k+1->f j=false:=λj B=>by
 grind
def rK(p:dM)(rs:List ByteArray)(x:cR):Bool:=
 (decide (¬ x.jJ=⟨#[]⟩)&&decide (eD rs x.jJ<0)) ||
 ((decide (x.kind=2)||decide (x.kind=3)||decide (x.kind=4))&&decide (eD (gv p) x.name<0)) ||
 ((decide (x.kind=5)||decide (x.kind=6))&&(decide (eD (gv p) x.name<0)||decide (fw p<=eD (gv p) x.name))) ||
 ((decide (x.kind=9)||decide (x.kind=10))&&decide (eD (jZ p) x.name<0))||zD x.e rs||zD x.f rs
def D2(p:dM):Bool:=p.lines.any (λl=>decide (4<(l.length:Int)))||(kH p).any (λt=>decide (4<(t.aJ.length:Int))) ||
 (decide (4<(p.lines.length:Int))||decide (4<(p.mu.length:Int))||decide (2<(p.locks.length:Int))||decide ((p.threads.length:Int)<1)||decide (3<(p.threads.length:Int))||decide (4<(p.cD.length:Int)))
def sK(p:dM):List ByteArray:=(gv p).take (fw p).toNat
def jL(p:dM):Int:=
 if oD p=false then 8 else if D2 p=true then 2 else if (kH p).any (λt=>zE t.body)=true then 11 else if vE (lY p)=true then 10
 else if (kH p).any (λt=>KV p t.aJ)=true then 10 else if (kH p).any (λt=>t.body.any (rK p t.aJ))=true then 9
 else if p.cD.any (λc=>zD c.e (sK p))=true then 9 else 0
def Tt{x:cR}(h:vB x=true):0<=x.at_/\(x.kind=12->1<=x.n/\x.n<=8):=by
 have h:=Fk h
 refine⟨h.Sv.1,λB=>?_⟩
 rcases h.n with h|h
 .exact h.2
 rw[B,an7]at h;grind
section
variable {p:dM}
theorem ce8(h1:oD p=false):jL p=8:=by unfold jL;grind
theorem ce2(h1:oD p=true)(h2:D2 p=true):jL p=2:=by grind[jL]
theorem aDK(h1:oD p=true)(h2:D2 p=false)(h3:(kH p).any (λt=>zE t.body)=true):jL p=11:=by grind[jL]
theorem aDL(h1:oD p=true)(h2:D2 p=false)(h3:(kH p).any (λt=>zE t.body)=false)(h4:vE (lY p)=true):jL p=10:=by
 grind[jL]
theorem avq(h1:oD p=true)(h2:D2 p=false)(h3:(kH p).any (λt=>zE t.body)=false)(h4:vE (lY p)=false)(h5:(kH p).any (λt=>KV p t.aJ)=true):jL p=10:=by
 grind[jL]
theorem ce9(h1:oD p=true)(h2:D2 p=false)(h3:(kH p).any (λt=>zE t.body)=false)(h4:vE (lY p)=false)(h5:(kH p).any (λt=>KV p t.aJ)=false)
  (h6:(kH p).any (λt=>t.body.any (rK p t.aJ))=true):jL p=9:=by
 grind[jL]
theorem aDM(h1:oD p=true)(h2:D2 p=false)(h3:(kH p).any (λt=>zE t.body)=false)(h4:vE (lY p)=false)(h5:(kH p).any (λt=>KV p t.aJ)=false)
  (h6:(kH p).any (λt=>t.body.any (rK p t.aJ))=false) (B:p.cD.any (λc=>zD c.e (sK p))=true):jL p=9:=by
 grind[jL]
theorem ce0(h1:oD p=true)(h2:D2 p=false)(h3:(kH p).any (λt=>zE t.body)=false)(h4:vE (lY p)=false)(h5:(kH p).any (λt=>KV p t.aJ)=false)
  (h6:(kH p).any (λt=>t.body.any (rK p t.aJ))=false) (B:p.cD.any (λc=>zD c.e (sK p))=false):jL p=0:=by
 grind[jL]
theorem PF.decl(h:PF p):∀c∈lY p,0<=c.at_:=by
 intro c hc
 unfold lY jB at hc
 rcases r3.1 hc with hc|hc
 .rcases r3.1 hc with hc|hc
  .rcases r3.1 hc with hc|hc
   .obtain⟨l,B,hc⟩:=List.mem_flatten.1 hc
    exact(vD ((h.lines l B).2 c hc)).1
   exact(vD (h.mu c hc)).1
  exact(vD (h.locks c hc)).1
 obtain⟨t,ht,rfl⟩:=List.mem_map.1 hc
 exact(CH (h.th t ht)).1
theorem Yn(B:PS p):(lY p).length<=252000:=by
 have:=pX B
 have:=B.locks
 have:=B.threads
 grind[lY]
theorem oF(B:PS p):(gv p).length<=250500:=by unfold gv;rw[qE];exact pX B
theorem Wf(B:PS p):(kH p).length<=1000:=by
 have:=B.threads
 have:=B.recover
 grind[kH]
theorem PZ.mv(B:PZ p){t:eH}(ht:t∈kH p):SzT t/\t.aJ.length<=500/\t.body.length<=500:=by
 refine⟨?_,B.aJ t ht,B.body t ht⟩
 rcases r3.1 ht with h|h
 .exact B.zt t h
 exact B.zr t h
end
def C93(p:dM)(pv:bX)(w:World)(hp:py w pv p)(E:PZ p):CR 93 [j6 pv] w (λv w'=>v=.bool (oD p)/\Ext w w'):=by
 obtain⟨bR,cA,bT,bG,bH,bK,rfl,dA,dQ,dB,cB,bZ,cM⟩:=hp;have B:=St.start w;refine lx Tryz.func93 ?_;refine cU B (λO w1 B=>?_);refine⟨λm x w1=>∃k:Nat,x=jK (k:Int)/\m=p.lines.length-k/\k<=p.lines.length/\(∀y∈p.lines.take k,BA y=false)/\St w aY [cI O (kp (⟨bR,cA,bT,bG,bH,bK⟩:bX))] w1,⟨_,0,rfl,rfl,o6 _,eU,B⟩,?_⟩;rintro m _ _ ⟨k,rfl,rfl,hk,gG,B⟩ _;have hzl:=E.lines;refine aA lM (aB wo B.hb rfl ?_);obtain⟨aDN,J,avr⟩:=dA.open
 have avs:=avr.1;refine aI zN (J.ext B.aE) (aK (aC (λkG=>?_) λkG=>?_))
 .obtain⟨rF,jl⟩:=gx aDN (i:=(k:Int).toNat) cW;obtain⟨pg,sL⟩:=gx p.lines (i:=(k:Int).toNat) cW;have avt:DL w (j6 rF) pg:=avr.2 _ _ _ jl sL;refine⟨λV w'=>V=.bool (BA pg)/\St w aY [cI O (kp (⟨bR,cA,bT,bG,bH,bK⟩:bX))] w',?_,?_⟩
  .refine aA lM (aB wo B.hb rfl (aQ zN (J.ext B.aE) cW jl λ_ pS=>aF lV pS ?_));have U:=DL.flat avt;exact aI mG (U.ext B.aE) (aH (aC (λ_=>⟨vb (by unfold BA;grind),B⟩) λ_=>aA lM (aB wo B.hb rfl (aQ zN (J.ext B.aE) cW jl λ_ oC=>aF lV oC (aZ aay B (C155 _ _ _ _ (U.ext B.aE) (by have:=E.line _ (ld sL);omega) (E.zl _ (ld sL))) λ_ _ B=>bV ⟨vb (by unfold BA;grind),B⟩)))))
  rintro _ _ ⟨rfl,B⟩ _;refine aW (λiV=>?_) (λiV=>aN cW ⟨_,cW,k+1,rfl,rfl,cW,eY gG sL iV,B⟩);refine⟨vb ?_,B.drop.aE⟩;unfold oD;rw[ko sL iV];rfl
 have avv:=gG;refine⟨λm x w1=>∃I:Nat,x=jK (I:Int)/\m=p.cD.length-I/\I<=p.cD.length/\(∀y∈p.cD.take I,yb y=false)/\St w aY [cI O (kp (⟨bR,cA,bT,bG,bH,bK⟩:bX))] w1,⟨_,0,rfl,rfl,o6 _,eU,B⟩,?_⟩;rintro m _ _ ⟨I,rfl,rfl,hkb,Tu,B⟩ _;have hzc:=E.cD;refine aA nn (aB xc B.hb rfl ?_);obtain⟨aDO,M,avw⟩:=cM.open;have hn13:=avw.1;refine aI Cz (M.ext B.aE) (aK (aC (λj5=>?_) λj5=>⟨λV w'=>V=.bool (xj 4294967296 p.mu&&xj 0 p.locks&&rI true p.threads&&rI false p.recover&&decide (p.recover.length<=1))/\St w aY [cI O (kp (⟨bR,cA,bT,bG,bH,bK⟩:bX))] w',?_,?_⟩))
 .obtain⟨Qx,Fl⟩:=gx aDO (i:=(I:Int).toNat) cW;obtain⟨W,I0⟩:=gx p.cD (i:=(I:Int).toNat) cW;obtain⟨ahO,rfl,ahP⟩:=avw.2 _ _ _ Fl I0;refine⟨λV w'=>V=.bool (yb W)/\St w aY [cI O (kp (⟨bR,cA,bT,bG,bH,bK⟩:bX))] w',aA nn (aB xc B.hb rfl (aQ Cz (M.ext B.aE) cW Fl λ_ vw=>bO (W).at_ VR vw rfl rfl λ_ tL=>aF aV tL (aZ VA B (C156 _ _) λ_ he B=>bV (aW (λ_=>⟨vb (by unfold yb;grind),B⟩) λpY=>?_)))),?_⟩
  .refine aA nn (aB xc B.hb rfl (aQ Cz (M.ext B.aE) cW Fl λ_ AB=>bO ahO GV AB rfl rfl λ_ aby=>aF pJ aby ?_));have aDP:=DL.flat ahP;exact aZ Pc B (C105 _ _ _ (aDP.ext B.aE) (E.zc _ (ld I0)).1 (E.zc _ (ld I0)).2) (λ_ _ B=>bV ⟨vb (by unfold yb;grind),B⟩)
  rintro _ _ ⟨rfl,B⟩ _;refine aW (λvF=>?_) (λvF=>aN cW ⟨_,cW,I+1,rfl,rfl,cW,eY Tu I0 vF,B⟩);refine⟨vb ?_,B.drop.aE⟩;unfold oD;rw[ko I0 vF];simp
 .refine aA yI (aB lV B.hb rfl ?_);have aDQ:=DL.flat dQ;refine aZ aay B (C155 _ _ _ _ (aDQ.ext B.aE) (by have:=E.mu;omega) E.zv) (λ_ he B=>aW (λLQ=>?_) λ_=>⟨vb eS,B⟩);refine aA wC (aB lV B.hb rfl ?_);have aDR:=DL.flat dB;refine aZ aay B (C155 _ _ _ _ (aDR.ext B.aE) (by have:=E.locks;omega) E.zk) (λ_ he B=>aW (λWg=>aA qg (aB lz B.hb rfl (aZ akp B (C157 _ _ true _ (cB.ext B.aE) (by have:=E.threads;omega) λ_ ht=>E.mv (List.mem_append_left _ ht)) λ_ he B=>aW (λyc=>aA wD (aB lz B.hb rfl (aZ akp B (C157 _ _ false _ (bZ.ext B.aE) (by have:=E.recover;omega) λ_ ht=>E.mv (List.mem_append_right _ ht)) λ_ he B=>aW (λV2=>?_) λ_=>⟨vb eS,B⟩))) λ_=>⟨vb eS,B⟩))) λ_=>⟨vb eS,B⟩)
  refine aA wD (aB lz B.hb rfl ?_);obtain⟨ts17,aDS,aDT⟩:=bZ.open;have hn17:=aDT.1;exact aI kI (aDS.ext B.aE) (gL ⟨vb eS,B⟩)
 rintro _ _ ⟨rfl,B⟩ _;refine⟨vb ?_,B.drop.aE⟩;unfold oD;rw[iX (by rw[mE cW]at avv;exact avv),iX (by rw[mE cW]at Tu;exact Tu)];rfl
def C42(p:dM)(I:bX)(w:World)(hp:py w I p)(M:PZ p):CR 42 [j6 I] w (λv w'=>mr (bE v (tm p)) w w'):=by
 obtain⟨J,W,U,bG,bH,O,rfl,dA,dQ,dB,cB,bZ,cM⟩:=hp;have B:=St.start w;refine lx Tryz.func42 ?_;refine cU B (λnt V B=>bJ ([]:List Int) B cE rfl rfl (dV rfl) λabF _ B=>aF jE B.p1.At (dF Pa B (C102 p _ _ ⟨J,W,U,bG,bH,O,rfl,dA.ext B.aE,dQ.ext B.aE,dB.ext B.aE,cB.ext B.aE,bZ.ext B.aE,cM.ext B.aE⟩ M.toPS) λx8 _ cJ B=>?_));have B:=B.p2.p1.p2;refine⟨λm y x V=>∃k:Nat,x=jK (k:Int)/\m=(jB p).length-k/\k<=(jB p).length/\St w aY [bE y (((jB p).take k).map dW.n),bE x8 (jB p),cI nt (kp (⟨J,W,U,bG,bH,O⟩:bX))] V,⟨_,0,rfl,rfl,cW,B⟩,?_⟩
 rintro m iW _ _ ⟨k,rfl,rfl,hk,B⟩ _;have hac:=pX M.toPS;have hml:(((jB p).take k).map dW.n).length=k:=by rw[qE,oj];omega
 refine aI mG B.p1.fu (aK (aC (λkm=>?_) λkm=>?_))
 .obtain⟨uo,jY⟩:=gx (jB p) (i:=(k:Int).toNat) cW;refine cH B.p1 mG cW cW (λ_ xY=>kL DA xY λ_ jS=>lH uo.n B.p1 aV jS jY rfl (bJ ([uo.n]:List Int) B cE rfl rfl (dV rfl) λavx _ B=>?_));have E:=B.fu;exact bW B.p1 cE E (by simp<;>omega) dO (λ_ _ B=>have B:=B.p1.drop;aN cW (have B:=B.p2.p2.p2;⟨_,cW,k+1,rfl,rfl,cW,by rw[<- jb (k:=k) jY];exact B⟩))
 have B:=B.p1.drop.p1.drop;rw[mE cW]at B;exact B.fresh
def C46(p:dM)(E:bX)(w:World)(hp:py w E p)(I:PZ p):CR 46 [j6 E] w (λv w'=>mr (bE v (gv p)) w w'):=by
 obtain⟨U,cA,W,bG,bH,V,rfl,O,dQ,dB,cB,M,J⟩:=hp;have B:=St.start w;refine lx Tryz.func46 ?_;exact cU B (λ_ _ B=>aF jE B.At (dF Pa B (C102 p _ _ ⟨U,cA,W,bG,bH,V,rfl,O.ext B.aE,dQ.ext B.aE,dB.ext B.aE,cB.ext B.aE,M.ext B.aE,J.ext B.aE⟩ I.toPS) λ_ _ _ B=>dF aau B (C107 _ _ _ B.fu (by have:=pX I.toPS;omega)) λ_ _ _ B=>have B:=B.p1.drop.p1.drop;B.fresh))
def C99(p:dM)(I:bX)(w:World)(O:py w I p)(J:PZ p):CR 99 [j6 I] w (λv w'=>mr (bE v (jZ p)) w w'):=by
 obtain⟨bR,cA,bT,bG,bH,bK,rfl,dA,dQ,M,cB,W,U⟩:=O;have B:=St.start w;refine lx Tryz.func99 ?_;refine cU B (λV _ B=>aA wC (aB lV B.hb rfl ?_));have E:=DL.flat M;exact dF aau B (C107 _ _ _ (E.ext B.aE) (by have:=J.locks;omega)) (λ_ _ _ B=>have B:=B.p1.drop;B.fresh)
def C41(p:dM)(J:bX)(w:World)(hp:py w J p)(E:PZ p):CR 41 [j6 J] w (λv w'=>v=jK (fw p)/\Ext w w'):=by
 obtain⟨W,cA,bT,bG,bH,bK,rfl,V,M,dB,cB,U,O⟩:=hp;have B:=St.start w;refine uT Tryz.func41 (pl:=P41) ?_;refine cU B (λnt _ B=>have B:=B.drew;aF jE B.At (aA yI (aB lV B.hb rfl ?_)));have I:=DL.flat M;refine aI mG (I.ext B.aE) (dF Pa B (C102 p _ _ ⟨W,cA,bT,bG,bH,bK,rfl,V.ext B.aE,M.ext B.aE,dB.ext B.aE,cB.ext B.aE,U.ext B.aE,O.ext B.aE⟩ E.toPS) λx4 _ cJ B=>?_);refine⟨aG lV (B.p1.hb.cell rfl),?_⟩
 refine aI mG B.fu ?_;have hac:=pX E.toPS;have hzv:=E.mu;exact eW cW (have B:=B.drop.drop;⟨hM (qs .i64) (abE p),B.aE⟩)
theorem abG{l:List dW}{r:List (List dW)}{i a:Int}(h:¬ a<l.length):kx (l::r) i a=kx r (i+1) (a-l.length):=by rw[kx,fU h]
def aob{x:cR}{n m:Int}(B:1<=n/\n<=64)(h:x.kind=12->1<=x.n/\x.n<=8)(E:m=wL x n):1<=m/\m<=512:=by
 rw[E];unfold wL
 split
 .rename_i hk
  have:=h hk
  have h1:=ME (a:=1) (b:=1) B.1 this.1 cW cW
  have h2:=ME (c:=64) (d:=8) B.2 this.2 cW cW
  omega
 omega
theorem Bk.G0{t:Bk}(h:¬ (t.flat.length:Int)=0):∃x a b r,t=.cons x a b r:=by
 cases t with
 | nil=>exact absurd rfl h
 | cons x a b r=>grind
theorem Bk.sd{x:cR}{a b r:Bk}(h:(Bk.cons x a b r).str){B E:Int}(h1:B=1+x.body+x.ib)(h2:E=1):((Bk.cons x a b r).flat.take B.toNat).drop E.toNat=(a.app b).flat:=by
 obtain⟨I,M,_⟩:=h
 have J:=a.dI
 have lb:=b.dI
 rw[Bk.IZ,IQ _ (a:=1) (n:=(a.flat++b.flat).length) eS cW]
 grind[flat]
theorem Bk.ahQ{x:cR}{a b r:Bk}(h:(Bk.cons x a b r).str){B:Int}(h1:B=1+x.body+x.ib):(Bk.cons x a b r).flat.drop B.toNat=r.flat:=by
 obtain⟨I,E,_⟩:=h
 have J:=a.dI
 have lb:=b.dI
 have e:(Bk.cons x a b r).flat=(x::(a.flat++b.flat))++r.flat:=by simp[Bk.flat]
 rw[e,show B.toNat=(x::(a.flat++b.flat)).length from by simp;omega,KZ]
theorem LZ{l:List dW}{k:Nat}{c:dW}(h:l[k]?=some c):GZ l k=decide (eD (l.map dW.name) c.name<k):=by unfold GZ;rw[h]
theorem Wh{p:dM}{l:List ByteArray}{k:Nat}{c:ByteArray}(h:l[k]?=some c):We p l k=(decide (eD l c<k)||decide (0<=eD (gv p) c)||decide (0<=eD (jZ p) c)):=by unfold We;rw[h]
theorem Wi(a b:Bk):(a.app b).len=a.len+b.len:=by rw[<- Bk.dI,Bk.IZ,n0,Bk.dI,Bk.dI]
def C43(p:dM)(pv:bX)(c:Int)(w:World)(hp:py w pv p)(W:PZ p):CR 43 [j6 pv,jK c] w (λv w'=>v=jK (n8 p c)/\Ext w w'):=by
 obtain⟨V,cA,bT,bG,bH,bK,rfl,dA,dQ,dB,cB,bZ,cM⟩:=hp;have B:=St.start w;refine lx Tryz.func43 ?_;refine cU B (λM w1 B=>⟨λjv w'=>jv=.bool (decide (c<0)||decide (((jB p).length:Int)<=c))/\St w aY [cI M (kp (⟨V,cA,bT,bG,bH,bK⟩:bX))] w',aK (aC (λ_=>⟨vb eS,B⟩) λ_=>aF jE B.At (dF Pa B (C102 p _ _ ⟨V,cA,bT,bG,bH,bK,rfl,dA.ext B.aE,dQ.ext B.aE,dB.ext B.aE,cB.ext B.aE,bZ.ext B.aE,cM.ext B.aE⟩ W.toPS) λ_ _ _ B=>aI mG B.fu (cN (have B:=B.drop;⟨vb eS,B⟩)))),?_⟩)
 rintro _ _ ⟨rfl,B⟩ _;have hac:=pX W.toPS;refine aW (λj4=>?_) (λj4=>?_)
 .refine⟨hM (qs .i64) ?_,B.drop.aE⟩;unfold n8;rw[fV eS]
 have hc2:0<=c/\c<(jB p).length:=eS
 refine⟨λm y x w1=>∃(k:Nat) (a:Int),y=jK a/\x=jK (k:Int)/\m=p.lines.length-k/\k<=p.lines.length/\0<=a/\a<=c/\kx p.lines 0 c=kx (p.lines.drop k) k a/\St w aY [cI M (kp (⟨V,cA,bT,bG,bH,bK⟩:bX))] w1,⟨_,0,c,rfl,rfl,rfl,cW,cW,cW,rfl,B⟩,?_⟩;rintro m _ _ _ ⟨k,a,rfl,rfl,rfl,hk,ha0,hac1,I,B⟩ _;have hzl:=W.lines;refine aA lM (aB wo B.hb rfl ?_);obtain⟨U,E,J⟩:=dA.open;have aDY:=J.1;refine aI zN (E.ext B.aE) (aK (aC (λiM=>?_) λiM=>?_))
 .refine aA lM (aB wo B.hb rfl ?_);obtain⟨jA,jX⟩:=gx U (i:=(k:Int).toNat) cW;obtain⟨avz,xl⟩:=gx p.lines (i:=(k:Int).toNat) cW;have avA:DL w (j6 jA) avz:=J.2 _ _ _ jX xl;refine aQ zN (E.ext B.aE) cW jX (λ_ si=>aF lV si ?_);have O:=DL.flat avA;refine aI mG (O.ext B.aE) (aK (aC (λmW=>?_) λmW=>?_))
  .refine⟨hM (qs .i64) ?_,B.drop.aE⟩;rw[drop_cons (k:=k) xl]at I;unfold n8;rw[fU cW,I];unfold kx;rw[fV cW]
  refine aA lM (aB wo B.hb rfl (aQ zN (E.ext B.aE) cW jX λ_ rD=>aF lV rD (aI mG (O.ext B.aE) (eW cW (aN cW ?_)))));rw[drop_cons (k:=k) xl,abG cW]at I;exact⟨_,cW,k+1,_,rfl,rfl,rfl,cW,cW,cW,I,B⟩
 refine aA lM (aB wo B.hb rfl (aI zN (E.ext B.aE) (aN cW ?_)));refine⟨hM (qs .i64) ?_,B.drop.aE⟩;rw[vV cW]at I;unfold n8;rw[fU cW,I];unfold kx;omega
def C101(lv V:Value)(xs:List dP)(ns:List ByteArray)(w:World)(J:eN (λ_=>True) w lv xs)(hN:eN (λ_=>True) w V ns)(hn:xs.length<=1048576)(Su:ns.length<=1048576)(vG:∀y∈xs,0<=y.at_):CR 101 [lv,V] w (λv w'=>∃a:Int,v=jK a/\decide (0<=a)=zD xs ns/\Ext w w'):=by
 have B:=St.start w;refine lx Tryz.func101 ?_;refine⟨λm x U=>∃k:Nat,x=jK (k:Int)/\m=xs.length-k/\k<=xs.length/\(∀y∈xs.take k,(decide (y.op=2)&&decide (eD ns y.name<0))=false)/\St w aY [] U,⟨_,0,rfl,rfl,o6 _,eU,B⟩,?_⟩;rintro m _ U ⟨k,rfl,rfl,hk,O,B⟩ _;refine aI oh (J.ext B.aE) (aK (aC (λkG=>?_) λkG=>?_))
 .obtain⟨I,E⟩:=gx xs (i:=(k:Int).toNat) cW;refine⟨λjv w'=>jv=.bool (decide (I.op=2)&&decide (eD ns I.name<0))/\St w aY [] w',aQ oh (J.ext B.aE) cW E (λ_ kr=>bO I.op lF kr rfl rfl λ_ pS=>aF aV pS (aH (aC (λ_=>aQ oh (J.ext B.aE) cW E λ_ W=>bO I.name nE W rfl rfl λ_ oC=>aF mJ oC (aZ EY B (C98 _ ns _ _ (hN.ext B.aE) cW) λ_ _ B=>aK ⟨vb eS,B⟩)) λ_=>⟨vb eS,B⟩))),?_⟩;rintro _ _ ⟨rfl,B⟩ _;exact aW (λM=>aQ oh (J.ext B.aE) cW E λ_ kM=>bO I.at_ HZ kM rfl rfl λ_ nf=>aF aV nf ⟨_,rfl,by unfold zD;rw[ko E M];exact gq (vG _ (ld E)),B.aE⟩) (λM=>aN cW ⟨_,cW,k+1,rfl,rfl,cW,eY O E M,B⟩)
 rw[mE cW]at O;exact⟨_,rfl,by unfold zD;rw[iX O];rfl,B.aE⟩
theorem C96(lv:Value)(t:Bk)(n:Int)(N:Nat)(w:World)(hL:DL w lv t.flat)(gj:t.str)(hq:∀x∈t.flat,0<=x.at_/\(x.kind=12->1<=x.n/\x.n<=8))(hn:1<=n/\n<=64)(hl:t.len<=1048576)(hN:t.len<N):CR 96 [lv,jK n] w (λv w'=>∃a:Int,v=jK a/\decide (0<=a)=sm t n/\Ext w w'):=by
 have F3:=t.dI;have B:=St.start w;refine lx Tryz.func96 ?_;obtain⟨aDZ,O,I⟩:=hL.open;have hn22:=I.1;refine aI mH (O.ext B.aE) (aH (aC (λjz=>?_) λjz=>?_))
 .cases t with
  | nil=>exact⟨_,rfl,rfl,B.aE⟩
  | cons x a b r=>exact absurd F3 (by rw[show(Bk.cons x a b r).len=a.len+b.len+r.len+1 from rfl];omega)
 obtain⟨x,a,b,r,rfl⟩:=Bk.G0 (t:=t) cW;obtain⟨abb,Ff⟩:=gx aDZ (i:=(0:Int).toNat) cW;obtain⟨E,U⟩:=gx ((Bk.cons x a b r).flat) (i:=(0:Int).toNat) cW;obtain⟨Wk,Wl,rfl,azK,azL⟩:=I.2 _ _ _ Ff U;refine aQ mH (O.ext B.aE) cW Ff (λ_ Qh=>?_);obtain rfl:E=x:=(qa.inj U).symm;have M:=hq E (by simp[Bk.flat]);have Qy:=gj;obtain⟨zW,hg2,hg3,hg4,hga,hgb,hgr⟩:=Qy;have KA:a.len+b.len+r.len+1<=1048576:=hl;have hNn:a.len+b.len+r.len+1<N:=hN;have Sw:=a.dI;have Kz:=b.dI;have hlr:=r.dI
 have Wj:(Bk.cons E a b r).flat.length=a.len+b.len+r.len+1:=Bk.dI _;refine aF iy Qh (aR B uH λpq _ B=>aO (x:=(⟨E.kind,E.jJ,E.name,Wk,Wl,E.n,E.body,E.ib,E.at_⟩:cL)) B iy rfl rfl λ_ B=>⟨λjv w'=>∃m:Int,jv=jK m/\m=wL E n/\St w aY [cI pq (kp (⟨E.kind,E.jJ,E.name,Wk,Wl,E.n,E.body,E.ib,E.at_⟩:cL))] w',aA gT (aB (v:=jK E.kind) aV B.hb rfl (aH (aC (λg9=>aA xP (aB (v:=jK E.n) aV B.hb rfl (Na (by have B0:=M.2 g9;have h1:=ME (a:=1) (b:=1) hn.1 B0.1 cW cW;have h2:=ME (c:=64) (d:=8) hn.2 B0.2 cW cW;omega) ⟨_,rfl,by grind[wL],B⟩))) λ_=>⟨_,rfl,by grind[wL],B⟩))),?_⟩)
 rintro _ _ ⟨m,rfl,V,B⟩ _;have hm8:=aob hn M.2 V;refine cG (aC (λ_=>aA vo (aB (v:=jK E.at_) aV B.hb rfl ⟨_,rfl,by unfold sm;rw[<- V,gq (show(64:Int)<m by omega)];exact gq M.1,B.drop.aE⟩)) λlK=>aA pN (aB (v:=jK E.body) aV B.hb rfl (aN cW (aA kJ (aB (v:=jK E.ib) aV B.hb rfl (aN cW (mT mH (O.ext B.aE) cW cW cW λavC aog=>?_)))))));have aoh:=DL.cut aog O I;refine eR anC (C96 _ (a.app b) m (N-1) _ (by have h:=aoh.ext B.aE;rw[Bk.sd gj cW cW]at h;exact h) (Bk.ahN hga hgb) (λy hy=>hq y (by rw[Bk.IZ]at hy;simp only[Bk.flat,zZ,r3];rcases r3.1 hy with h|h<;>simp[h])) cW (by rw[Wi];omega) (by rw[Wi];omega)) ?_
 rintro _ _ ⟨a1,rfl,J,he⟩;have B:=B.ext he;rw[Ym]at J;refine cN (aC (λW=>⟨_,rfl,by unfold sm;rw[<- V];rw[gq W]at J;rw[<- J,gq W];simp,B.drop.aE⟩) λW=>vt mH (O.ext B.aE) cW cW λabk aoi=>?_);have aoj:=DL.VY aoi O I;refine eR anC (C96 _ r n (N-1) _ (by have h:=aoj.ext B.aE;rw[Bk.ahQ gj cW]at h;exact h) hgr (λy hy=>hq y (by simp[Bk.flat,hy])) hn cW cW) ?_;rintro _ _ ⟨a2,rfl,ha2,he⟩;have B:=B.ext he;exact⟨_,rfl,by unfold sm;rw[<- V];rw[<- J,ha2,gD (show ¬ (64:Int)<m by omega),gD W];rfl,B.drop.aE⟩
termination_by N
decreasing_by all_goals omega
def C95(p:dM)(J:bX)(E I:List fE)(w:World)(hp:py w J p)(h3:eN (λ_=>True) w (j6 J.threads) E)(h4:eN (λ_=>True) w (j6 J.recover) I)(W:E.length<=500)(hz4:I.length<=500):CR 95 [j6 J] w (λv w'=>mr (bE v (E++I)) w w'):=by
 obtain⟨bR,cA,bT,bG,bH,bK,rfl,dA,dQ,dB,cB,bZ,cM⟩:=hp;have B:=St.start w;refine lx Tryz.func95 ?_;refine cU B (λnt _ B=>bJ ([]:List fE) B kI rfl rfl (dV rfl) λU _ B=>aA qg (aB lz B.p1.hb rfl ?_));have M:=(h3.ext B.aE);refine bW B kI M (by simp<;>omega) dO (λV _ B=>aA wD (aB lz B.p1.hb rfl ?_));have O:=(h4.ext B.aE);exact bW B kI O (by simp;omega) dO (λ_ _ B=>have B:=B.p1.drop;B.fresh)
def C97(p:dM)(pv:bX)(w:World)(hp:py w pv p)(E:PZ p)(vG:∀c∈lY p,0<=c.at_):CR 97 [j6 pv] w (λv w'=>∃a:Int,v=jK a/\decide (0<=a)=vE (lY p)/\Ext w w'):=by
 obtain⟨U,cA,W,bG,bH,V,rfl,dA,dQ,dB,cB,bZ,cM⟩:=hp;have B:=St.start w;refine anx _ _ _ ?_;unfold S97;refine cU B (λnt w1 B=>bJ ([]:List dW) B mG rfl rfl (dV rfl) λabJ _ B=>aF jE B.p1.At (dF Pa B (C102 p _ _ ⟨U,cA,W,bG,bH,V,rfl,dA.ext B.aE,dQ.ext B.aE,dB.ext B.aE,cB.ext B.aE,bZ.ext B.aE,cM.ext B.aE⟩ E.toPS) λx9 _ cJ B=>?_));have aok:=B.fu;refine bW B.p1 mG aok (by simp;have:=pX E.toPS;omega) dO (λau1 _ B=>have B:=B.p1.drop;aA wC (aB lV B.p1.hb rfl ?_))
 have aD6:=DL.flat dB;have mw:=(aD6.ext B.aE);refine bW B mG mw (by simp;have:=pX E.toPS;have:=E.locks;omega) dO (λs_x14 _ B=>?_);have B:=B.p1.p1;refine⟨λm y x w1=>∃k:Nat,x=jK (k:Int)/\m=p.threads.length-k/\k<=p.threads.length/\St w aY [bE y (jB p++p.locks++(p.threads.take k).map λt=>(⟨t.name,0,t.at_⟩:dW)),cI nt (kp (⟨U,cA,W,bG,bH,V⟩:bX))] w1,⟨_,0,rfl,rfl,cW,by simpa using B⟩,?_⟩;rintro m l3 _ _ ⟨k,rfl,rfl,hk,B⟩ _;have Qu:=E.threads;refine aA qg (aB lz B.p1.hb rfl ?_)
 obtain⟨aD7,I,J⟩:=cB.open;have hn24:=J.1;refine aI kI (I.ext B.aE) (aK (aC (λgI=>?_) λgI=>?_))
 .refine aA qg (have B:=B.drew;aB lz B.p1.hb rfl ?_);obtain⟨alf,yX⟩:=gx aD7 (i:=(k:Int).toNat) cW;obtain⟨O,yY⟩:=gx p.threads (i:=(k:Int).toNat) cW;obtain⟨aom,aon,rfl,aoo,aop⟩:=J.2 _ _ _ yX yY;refine aQ kI (I.ext B.aE) cW yX (λ_ sj=>bO O.name Dw sj rfl rfl λ_ tM=>aF mJ tM (aA qg (aB lz B.p1.hb rfl (aQ kI (I.ext B.aE) cW yX λ_ AH=>bO O.at_ Dx AH rfl rfl λ_ vH=>aF aV vH (pop (Ih _ _) (bJ ([(⟨O.name,0,O.at_⟩:dW)]) B mG rfl rfl (dV rfl) λabK _ B=>?_))))))
  have aoq:=B.fu;exact bW B.p1 mG aoq (by have:=pX E.toPS;have:=E.locks;have:=E.threads;simp;omega) dO (λ_ _ B=>have B:=B.p1.drop;aN cW (have B:=B.p1.p1;⟨_,cW,k+1,rfl,rfl,cW,by rw[<- jb (k:=k) yY,<- qF];exact B⟩))
 rw[mE cW]at B;have hdl:=Yn E.toPS;have B:St w aY [bE l3 (lY p),cI nt (kp (⟨U,cA,W,bG,bH,V⟩:bX))] _:=B;refine dF aau B (C107 _ _ _ B.fu cW) (λx39 _ cJ B=>?_);have B:=B.p2.p2.p2;refine⟨λm x w1=>∃k:Nat,x=jK (k:Int)/\m=(lY p).length-k/\k<=(lY p).length/\(∀j,j<k->GZ (lY p) j=false)/\St w aY [bE x39 ((lY p).map dW.name),bE l3 (lY p),cI nt (kp (⟨U,cA,W,bG,bH,V⟩:bX))] w1,⟨_,0,rfl,rfl,cW,eU,B⟩,?_⟩
 rintro m _ _ ⟨k,rfl,rfl,hk,gG,B⟩ _;refine aI mG B.p1.fu (aK (aC (λzA=>?_) λ_=>have B:=B.drop.drop.drop;⟨_,rfl,by unfold vE;rw[mh λj _=>gG j cW];rfl,B.aE⟩));obtain⟨Gg,M⟩:=gx (lY p) (i:=(k:Int).toNat) cW;exact cH B.p1 mG cW cW (λ_ yd=>kL tG yd λ_ IE=>lH Gg.name B.p1 mJ IE M rfl (aZ EY B (C98 _ ((lY p).map dW.name) _ _ B.fu (by rw[qE];omega)) λ_ _ B=>aK (aC (λtO=>cH B.p1 mG cW cW λ_ AI=>kL HY AI λ_ D4=>lH Gg.at_ B.p1 aV D4 M rfl (have B:=B.drop.drop.drop;⟨_,rfl,by unfold vE;rw[oE (j:=k) cW (by rw[LZ (k:=k) M];exact gq tO)];exact gq (vG _ (ld M)),B.aE⟩)) λtO=>aN cW ⟨_,cW,k+1,rfl,rfl,cW,uM gG (by rw[LZ (k:=k) M];exact gD tO),B⟩)))
def C100(p:dM)(pv:bX)(t:eH)(tv:fE)(x:cR)(xv:cL)(w:World)(hp:py w pv p)(ht:py w tv t)(hx:py w xv x)(hz:PZ p)(Qu:t.aJ.length<=500)(hzx:SzS x)(vG:0<=x.at_/\(∀y∈x.e,0<=y.at_)/\(∀y∈x.f,0<=y.at_)):CR 100 [j6 pv,j6 tv,j6 xv] w (λv w'=>∃a:Int,v=jK a/\decide (0<=a)=rK p t.aJ x/\Ext w w'):=by
 obtain⟨J,U,O,W,V,M,rfl,dA,dQ,dB,cB,bZ,cM⟩:=hp;obtain⟨ye,D5,rfl,D6,I1⟩:=ht;obtain⟨ur,uu,rfl,Gc,vC⟩:=hx;have GG:=oF hz.toPS;have Da:(jZ p).length<=500:=by unfold jZ;rw[qE];exact hz.locks
 have B:=St.start w;refine uT Tryz.func100 (pl:=aB0) ?_;refine cU B (λwu _ B=>cU B λI _ B=>cU B λpq _ B=>⟨λE w'=>E=.bool (decide (¬ x.jJ=⟨#[]⟩)&&decide (eD t.aJ x.jJ<0))/\St w aY [cI pq (kp (⟨x.kind,x.jJ,x.name,ur,uu,x.n,x.body,x.ib,x.at_⟩:cL)),cI I (kp (⟨t.name,ye,D5,t.at_⟩:fE)),cI wu (kp (⟨J,U,O,W,V,M⟩:bX))] w',aA ow (aB (v:=.string x.jJ) mJ B.hb rfl (sF (aC (λjz=>?_) λ_=>⟨vb eS,B⟩))),?_⟩)
 .refine aA lO (aB tA B.p1.hb rfl ?_);have aD8:=DL.flat D6;exact aA ow (aB (v:=.string x.jJ) mJ B.hb rfl (aZ EY B (C98 _ t.aJ _ _ (aD8.ext B.aE) cW) λ_ _ B=>aK ⟨vb eS,B⟩))
 rintro _ _ ⟨rfl,B⟩ _;refine aW (λ_=>aA vo (aB (v:=jK x.at_) aV B.hb rfl (have B:=B.drop.drop.drop;⟨_,rfl,by rw[gq vG.1];unfold rK;grind,B.aE⟩))) (λgI=>have B:=B.drew;aF jE B.p2.At (aA lG (aB (v:=.string x.name) mJ B.hb rfl (dF aak B (C46 p _ _ ⟨J,U,O,W,V,M,rfl,dA.ext B.aE,dQ.ext B.aE,dB.ext B.aE,cB.ext B.aE,bZ.ext B.aE,cM.ext B.aE⟩ hz) λx23 _ cJ B=>?_))));refine⟨aG mJ (B.p1.hb.cell rfl),?_⟩;refine aZ EY B (C98 _ (gv p) _ _ B.fu cW) (λw7 he B=>⟨λw'=>(((decide (x.kind=2)||decide (x.kind=3)||decide (x.kind=4))&&decide (eD (gv p) x.name<0))||((decide (x.kind=5)||decide (x.kind=6))&&(decide (eD (gv p) x.name<0)||decide (fw p<=eD (gv p) x.name)))||((decide (x.kind=9)||decide (x.kind=10))&&decide (eD (jZ p) x.name<0)))=false/\St w aY [cI pq (kp (⟨x.kind,x.jJ,x.name,ur,uu,x.n,x.body,x.ib,x.at_⟩:cL)),cI I (kp (⟨t.name,ye,D5,t.at_⟩:fE)),cI wu (kp (⟨J,U,O,W,V,M⟩:bX))] w',aA gT (aB (v:=jK x.kind) aV B.p1.hb rfl ⟨λE w'=>E=.bool (decide (x.kind=2\/x.kind=3\/x.kind=4))/\w7=w',aH (aC (λ_=>⟨uS cW,rfl⟩) λ_=>aH (aC (λ_=>⟨uS cW,rfl⟩) λ_=>aH ⟨uS cW,rfl⟩)),?_⟩),?_⟩)
 .rintro _ _ ⟨rfl,hw⟩ _;subst hw;refine aC (λ_=>aK (aC (λ_=>aA vo (aB (v:=jK x.at_) aV B.p1.hb rfl (have B:=B.drop.drop.drop.drop;⟨_,rfl,by rw[gq vG.1];unfold rK;grind,B.aE⟩))) λ_=>have B:=B.drop.p2.p2.p2;⟨eS,B⟩)) (λL3=>⟨λE w'=>E=.bool (decide (x.kind=5\/x.kind=6))/\w7=w',aH (aC (λ_=>⟨uS cW,rfl⟩) λ_=>aH ⟨uS cW,rfl⟩),?_⟩);rintro _ _ ⟨rfl,hw⟩ _;subst hw;refine aC (λrH=>⟨λE w'=>E=.bool (decide (eD (gv p) x.name<0)||decide (fw p<=eD (gv p) x.name))/\St w aY [bE x23 (gv p),cI pq (kp (⟨x.kind,x.jJ,x.name,ur,uu,x.n,x.body,x.ib,x.at_⟩:cL)),cI I (kp (⟨t.name,ye,D5,t.at_⟩:fE)),cI wu (kp (⟨J,U,O,W,V,M⟩:bX))] w',aK (aC (λ_=>⟨vb eS,B⟩) λ_=>aF jE B.p3.At (aZ afM B (C41 p _ _ ⟨J,U,O,W,V,M,rfl,dA.ext B.aE,dQ.ext B.aE,dB.ext B.aE,cB.ext B.aE,bZ.ext B.aE,cM.ext B.aE⟩ hz) λ_ _ B=>cN ⟨vb eS,B⟩)),?_⟩) (λrH=>⟨λE w'=>E=.bool (decide (x.kind=9\/x.kind=10))/\w7=w',aH (aC (λ_=>⟨uS cW,rfl⟩) λ_=>aH ⟨uS cW,rfl⟩),?_⟩)
  .rintro _ _ ⟨rfl,B⟩ _;exact aW (λ_=>aA vo (aB (v:=jK x.at_) aV B.p1.hb rfl (have B:=B.drop.drop.drop.drop;⟨_,rfl,by rw[gq vG.1];unfold rK;grind,B.aE⟩))) (λ_=>have B:=B.drop.p2.p2.p2;⟨eS,B⟩)
  rintro _ _ ⟨rfl,hw⟩ _;subst hw;exact aC (λ_=>have B:=B.drew;aF jE B.p3.At (aA lG (aB (v:=.string x.name) mJ B.p1.hb rfl (dF anD B (C99 p _ _ ⟨J,U,O,W,V,M,rfl,dA.ext B.aE,dQ.ext B.aE,dB.ext B.aE,cB.ext B.aE,bZ.ext B.aE,cM.ext B.aE⟩ hz) λ_ _ _ B=>⟨aG mJ (B.p2.hb.cell rfl),aZ EY B (C98 _ (jZ p) _ _ B.fu cW) λ_ _ B=>aK (aC (λ_=>aA vo (aB (v:=jK x.at_) aV B.p2.hb rfl (have B:=B.drop.drop.drop.drop.drop;⟨_,rfl,by rw[gq vG.1];unfold rK;grind,B.aE⟩))) λ_=>have B:=B.drop.drop.p2.p2.p2;⟨eS,B⟩)⟩)))) (λ_=>have B:=B.drop.p2.p2.p2;⟨eS,B⟩)
 rintro _ ⟨hmid,B⟩ _;refine aA ox (aB pJ B.hb rfl ?_);have aD9:=DL.flat Gc;refine aA lO (aB tA B.p1.hb rfl ?_);have avE:=DL.flat D6;refine eR aat (C101 _ _ _ _ _ (aD9.ext B.aE) (avE.ext B.aE) hzx.2.2.1 cW vG.2.1) ?_;rintro _ _ ⟨a_x65,rfl,aEa,he⟩;have B:=B.ext he;refine cN (aC (λ_=>have B:=B.drop.drop.drop;⟨_,rfl,by unfold rK;grind,B.aE⟩) λvu=>aA rn (aB pJ B.hb rfl ?_));have aEb:=DL.flat vC;refine aA lO (aB tA B.p1.hb rfl (eR aat (C101 _ _ _ _ _ (aEb.ext B.aE) (avE.ext B.aE) hzx.2.2.2.1 cW vG.2.2) ?_))
 rintro _ _ ⟨a_x73,rfl,aEc,he⟩;have B:=(((B.ext he).drop).drop).drop;exact⟨_,rfl,by unfold rK;grind,B.aE⟩
def C94(p:dM)(pv:bX)(w:World)(hp:py w pv p)(hz:PZ p):CR 94 [j6 pv] w (λv w'=>v=.bool (D2 p)/\Ext w w'):=by
 obtain⟨bR,cA,bT,bG,bH,bK,rfl,dA,dQ,dB,cB,bZ,cM⟩:=hp;have B:=St.start w;refine anw _ _ _ ?_;unfold S94;refine cU B (λnt w1 B=>?_);refine⟨λm x w1=>∃k:Nat,x=jK (k:Int)/\m=p.lines.length-k/\k<=p.lines.length/\(∀y∈p.lines.take k,decide (4<(y.length:Int))=false)/\St w aY [cI nt (kp (⟨bR,cA,bT,bG,bH,bK⟩:bX))] w1,⟨_,0,rfl,rfl,o6 _,eU,B⟩,?_⟩;rintro m _ _ ⟨k,rfl,rfl,hk,gG,B⟩ _;have hzl:=hz.lines;refine aA lM (aB wo B.hb rfl ?_)
 obtain⟨aEd,J,V⟩:=dA.open;have hn29:=V.1;refine aI zN (J.ext B.aE) (aK (aC (λiE=>?_) λiE=>?_))
 .refine aA lM (aB wo B.hb rfl ?_);obtain⟨Cc,kW⟩:=gx aEd (i:=(k:Int).toNat) cW;obtain⟨pe,nu⟩:=gx p.lines (i:=(k:Int).toNat) cW;have abL:DL w (j6 Cc) pe:=V.2 _ _ _ kW nu;refine aQ zN (J.ext B.aE) cW kW (λ_ vy=>aF lV vy ?_);have aEe:=DL.flat abL;refine aI mG (aEe.ext B.aE) (cG (aC (λgI=>?_) λgI=>aN cW ⟨_,cW,k+1,rfl,rfl,cW,eY gG nu (gD gI),B⟩));have B:=B.drop;refine⟨vb ?_,B.aE⟩;unfold D2;rw[ko nu (gq cW)];rfl
 refine aF jE B.At ?_;obtain⟨O,I,W⟩:=cB.open;have hn31:=W.1;obtain⟨U,aEf,M⟩:=bZ.open;have hn32:=M.1;refine eR as7 (C95 p _ O U _ ⟨bR,cA,bT,bG,bH,bK,rfl,dA.ext B.aE,dQ.ext B.aE,dB.ext B.aE,cB.ext B.aE,bZ.ext B.aE,cM.ext B.aE⟩ (I.ext B.aE) (aEf.ext B.aE) (by have:=hz.threads;omega) (by have:=hz.recover;omega)) ?_;rintro ZS _ cJ;have B:=B.made cJ;obtain⟨B2,Qz⟩:∃t,t=O++U:=⟨_,rfl⟩;rw[<- Qz]at B;have KW:jF B2 (kH p) w:=by rw[Qz];exact jF.append W M
 have avK:=KW.1;have aEg:=Wf hz.toPS;have B:=B.p1.p1;refine⟨λm x w1=>∃E:Nat,x=jK (E:Int)/\m=(kH p).length-E/\E<=(kH p).length/\(∀y∈(kH p).take E,decide (4<(y.aJ.length:Int))=false)/\St w aY [bE ZS B2,cI nt (kp (⟨bR,cA,bT,bG,bH,bK⟩:bX))] w1,⟨_,0,rfl,rfl,o6 _,eU,B⟩,?_⟩;rintro m _ _ ⟨E,rfl,rfl,hkb,Tu,B⟩ _;refine aI kI B.fu (aK (aC (λfX=>?_) λfX=>⟨λjv w'=>jv=.bool (decide (4<(p.lines.length:Int))||decide (4<(p.mu.length:Int))||decide (2<(p.locks.length:Int))||decide ((p.threads.length:Int)<1)||decide (3<(p.threads.length:Int))||decide (4<(p.cD.length:Int)))/\St w aY [] w',aA lM (aB wo B.p1.hb rfl (aI zN (J.ext B.aE) (cG (aC (λ_=>have B:=B.drop.drop;⟨vb eS,B⟩) λpW=>?_)))),?_⟩))
 .obtain⟨rG,gV⟩:=gx B2 (i:=(E:Int).toNat) cW;obtain⟨avL,xm⟩:=gx (kH p) (i:=(E:Int).toNat) cW;obtain⟨I2,I3,rfl,I4,I5⟩:=KW.2 _ _ _ gV xm;refine aQ kI B.fu cW gV (λ_ kM=>bO I2 lO kM rfl rfl λ_ nf=>aF tA nf ?_);have aEh:=DL.flat I4;refine aI pK (aEh.ext B.aE) (cG (aC (λjG=>?_) λ_=>aN cW ⟨_,cW,E+1,rfl,rfl,cW,eY Tu xm (gD cW),B⟩));have B:=B.drop.drop;refine⟨vb ?_,B.aE⟩;unfold D2;rw[ko xm (gq cW)];simp
 .refine aA yI (aB lV B.p1.hb rfl ?_);have aEi:=DL.flat dQ;refine aI mG (aEi.ext B.aE) (cG (aC (λ_=>have B:=B.drop.drop;⟨vb eS,B⟩) λzA=>aA wC (aB lV B.p1.hb rfl ?_)));have aEj:=DL.flat dB;refine aI mG (aEj.ext B.aE) (cG (aC (λ_=>have B:=B.drop.drop;⟨vb eS,B⟩) λnI=>aA qg (aB lz B.p1.hb rfl (aI kI (I.ext B.aE) (aK (aC (λ_=>have B:=B.drop.drop;⟨vb eS,B⟩) λLQ=>aA qg (aB lz B.p1.hb rfl (aI kI (I.ext B.aE) (cG (aC (λ_=>have B:=B.drop.drop;⟨vb eS,B⟩) λmC=>aA nn (aB xc B.p1.hb rfl ?_)))))))))))
  obtain⟨ts36,aEk,aEl⟩:=cM.open;have hn36:=aEl.1;exact aI Cz (aEk.ext B.aE) (cG (have B:=B.drop.drop;⟨vb eS,B⟩))
 rintro _ _ ⟨rfl,B⟩ _;refine⟨vb ?_,B.aE⟩;unfold D2;rw[iX (by rw[mE cW]at gG;exact gG),iX (by rw[mE cW]at Tu;exact Tu)];rfl
end Go.Proofs.YtnjcingfdhjfkaaGreat
