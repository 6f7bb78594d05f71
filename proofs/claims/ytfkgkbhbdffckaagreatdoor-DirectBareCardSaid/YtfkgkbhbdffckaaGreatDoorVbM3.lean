/-
  Part 3.
-/
import Derived.Test.YtfkgkbhbdffckaaGreatDoorVbM2
set_option linter.all false
set_option maxHeartbeats 8000000
namespace Go.Fw
noncomputable section
inductive Tr (α:Type) where
 | lf
 | nd (l:Tr α) (v:α) (r:Tr α)
section
variable {α:Type} (d:α)
def Tr.get (t:Tr α):Nat->α:=
 Tr.rec (motive:=λ _=>Nat->α) (λ _=>d)
  (λ _ v _ gl gr i=>Nat.rec (motive:=λ _=>α) v (λ j _=>Bool.rec (motive:=λ _=>α) (gl (Nat.div j 2)) (gr (Nat.div j 2)) (Nat.beq (Nat.mod j 2) 1)) i) t
def Tr.Jn (x:α) (f:Nat):Nat->Tr α:=
 Nat.rec (motive:=λ _=>Nat->Tr α) (λ _=>.lf) (λ _ ih i=>Nat.rec (motive:=λ _=>Tr α) (.nd .lf x .lf) (λ j _=>Bool.rec (motive:=λ _=>Tr α) (.nd (ih (Nat.div j 2)) d .lf) (.nd .lf d (ih (Nat.div j 2))) (Nat.beq (Nat.mod j 2) 1)) i) f
def Tr.put (t:Tr α) (x:α):Nat->Tr α:=
 Tr.rec (motive:=λ _=>α->Nat->Tr α) (λ x i=>Tr.Jn d x (Nat.succ i) i)
  (λ l v r pl pr x i=>Nat.rec (motive:=λ _=>Tr α) (.nd l x r) (λ j _=>Bool.rec (motive:=λ _=>Tr α) (.nd (pl x (Nat.div j 2)) v r) (.nd l v (pr x (Nat.div j 2))) (Nat.beq (Nat.mod j 2) 1)) i) t x
theorem Ws {j:Nat} {b:Bool} (h:Nat.beq (Nat.mod j 2) 1=b):(b=true->j % 2=1)/\(b=false->j % 2=0):=by
 refine ⟨λ hb=>Nat.eq_of_beq_eq_true (h.trans hb),λ hb=>?_⟩
 have:j % 2≠1:=λ hm=>by
  have h1:Nat.beq (Nat.mod j 2) 1=true:=by show Nat.beq (j % 2) 1=true; rw [hm]; rfl
  rw [hb,h1] at h
  cases h
 omega
theorem Tr.Q7 (x:α):∀ f i k,i<f->(Tr.Jn d x f i).get d k=if k=i then x else d:=by
 intro f
 induction f with
 | zero=>intro i k h; omega
 | succ f ih=>
  intro i k h
  cases i with
  | zero=>cases k with
   | zero=>rfl
   | succ k=>show Bool.rec (motive:=λ _=>α) d d _=_; rw [if_neg (by omega)]; cases Nat.beq (Nat.mod k 2) 1 <;> rfl
  | succ j=>
   have hd:Nat.div j 2<f:=by show j / 2<f; omega
   have ih':=λ k=>ih (Nat.div j 2) (Nat.div k 2) hd
   generalize hj:Nat.beq (Nat.mod j 2) 1=b
   have e:Tr.Jn d x (f+1) (j+1)=Bool.rec (motive:=λ _=>Tr α) (.nd (Tr.Jn d x f (Nat.div j 2)) d .lf) (.nd .lf d (Tr.Jn d x f (Nat.div j 2))) b:=by rw [<- hj]; rfl
   rw [e]
   have m1:=Ws hj
   cases k with
   | zero=>rw [if_neg (by omega)]; cases b <;> rfl
   | succ k=>
    generalize hk:Nat.beq (Nat.mod k 2) 1=c
    have m2:=Ws hk
    cases b with
    | false=>
     show Bool.rec (motive:=λ _=>α) ((Tr.Jn d x f (Nat.div j 2)).get d (Nat.div k 2)) d (Nat.beq (Nat.mod k 2) 1)=_
     rw [hk,ih']
     cases c with
     | false=>
      have:=m1.2 rfl; have:=m2.2 rfl
      show (if k / 2=j / 2 then x else d)=_
      by_cases hc:k=j
      ·rw [if_pos (by omega),if_pos (by omega)]
      ·rw [if_neg (by omega),if_neg (by omega)]
     | true=>have:=m1.2 rfl; have:=m2.1 rfl; show d=_; rw [if_neg (by omega)]
    | true=>
     show Bool.rec (motive:=λ _=>α) d ((Tr.Jn d x f (Nat.div j 2)).get d (Nat.div k 2)) (Nat.beq (Nat.mod k 2) 1)=_
     rw [hk,ih']
     cases c with
     | false=>have:=m1.1 rfl; have:=m2.2 rfl; show d=_; rw [if_neg (by omega)]
     | true=>
      have:=m1.1 rfl; have:=m2.1 rfl
      show (if k / 2=j / 2 then x else d)=_
      by_cases hc:k=j
      ·rw [if_pos (by omega),if_pos (by omega)]
      ·rw [if_neg (by omega),if_neg (by omega)]
theorem Tr.LD (x:α):∀ (t:Tr α) i k,(t.put d x i).get d k=if k=i then x else t.get d k:=by
 intro t
 induction t with
 | lf=>intro i k; exact Tr.Q7 d x _ i k (Nat.lt_succ_self i)
 | nd l v r ihl IK=>
  intro i k
  cases i with
  | zero=>cases k with
   | zero=>rfl
   | succ k=>rw [if_neg (by omega)]; rfl
  | succ j=>
   generalize hj:Nat.beq (Nat.mod j 2) 1=b
   have e:(Tr.nd l v r).put d x (j+1)=Bool.rec (motive:=λ _=>Tr α) (.nd (l.put d x (Nat.div j 2)) v r) (.nd l v (r.put d x (Nat.div j 2))) b:=by rw [<- hj]; rfl
   rw [e]
   have m1:=Ws hj
   cases k with
   | zero=>rw [if_neg (by omega)]; cases b <;> rfl
   | succ k=>
    generalize hk:Nat.beq (Nat.mod k 2) 1=c
    have m2:=Ws hk
    have e2:(Tr.nd l v r).get d (k+1)=Bool.rec (motive:=λ _=>α) (l.get d (Nat.div k 2)) (r.get d (Nat.div k 2)) c:=by rw [<- hk]; rfl
    rw [e2]
    cases b with
    | false=>
     show Bool.rec (motive:=λ _=>α) ((l.put d x (Nat.div j 2)).get d (Nat.div k 2)) (r.get d (Nat.div k 2)) (Nat.beq (Nat.mod k 2) 1)=_
     rw [hk,ihl]
     cases c with
     | false=>
      have:=m1.2 rfl; have:=m2.2 rfl
      show (if k / 2=j / 2 then x else _)=_
      by_cases hc:k=j
      ·rw [if_pos (by omega),if_pos (by omega)]
      ·rw [if_neg (by omega),if_neg (by omega)]
     | true=>have:=m1.2 rfl; have:=m2.1 rfl; show r.get d (Nat.div k 2)=_; rw [if_neg (by omega)]
    | true=>
     show Bool.rec (motive:=λ _=>α) (l.get d (Nat.div k 2)) ((r.put d x (Nat.div j 2)).get d (Nat.div k 2)) (Nat.beq (Nat.mod k 2) 1)=_
     rw [hk,IK]
     cases c with
     | false=>have:=m1.1 rfl; have:=m2.2 rfl; show l.get d (Nat.div k 2)=_; rw [if_neg (by omega)]
     | true=>
      have:=m1.1 rfl; have:=m2.1 rfl
      show (if k / 2=j / 2 then x else _)=_
      by_cases hc:k=j
      ·rw [if_pos (by omega),if_pos (by omega)]
      ·rw [if_neg (by omega),if_neg (by omega)]
end
inductive V where
 | b (x:Bool)
 | i (k:IntKind) (n:Int)
 | s (n:Nat) (l:Nat)
 | np
 | p (b:Nat) (o:Nat)
 | ns
 | sl (b:Nat) (o:Nat) (l:Nat) (k:Nat)
 | sx (b:Nat) (o:Nat) (l:Nat) (c:Nat)
 | se
 | nm
 | m (r:Nat)
 | nf
 | f (g:Nat) (c:V)
 | y (l:Nat)
 | a (c:V)
 | t (c:V)
 | e
 | c (h:V) (r:V)
def Ge:V:=.t .e
def v8:List UInt8->Nat
 | []=>0
 | b::r=>b.toNat+256 * v8 r
def ky (n i:Nat):UInt8:=UInt8.ofNat (Nat.mod (Nat.shiftRight n (Nat.mul 8 i)) 256)
def strOf (n l:Nat):ByteArray:=⟨((List.range l).map λ i=>ky n i).toArray⟩
def pH:Value->Option V
 | .bool b=>some (.b b)
 | .int k n=>some (.i k n)
 | .string s=>some (.s (v8 s.data.toList) s.data.toList.length)
 | .pointer none=>some .np
 | .slice none 0 0=>some .ns
 | .map none=>some .nm
 | .nilFunc=>some .nf
 | _=>none
def qC:List Value->Option V
 | []=>some .e
 | x::r=>match pH x,qC r with | some v,some l=>some (.c v l) | _,_=>none
def BI:V->Option Value × Option (List Value)
 | .b x=>(some (.bool x),none)
 | .i k n=>(some (.int k n),none)
 | .s n l=>(some (.string (strOf n l)),none)
 | .np=>(some (.pointer none),none)
 | .ns=>(some (.slice none 0 0),none)
 | .nm=>(some (.map none),none)
 | .nf=>(some .nilFunc,none)
 | .a l=>(((BI l).2).map λ l=>.agg l.toArray,none)
 | .e=>(none,some [])
 | .c h r=>(none,match (BI h).1,(BI r).2 with | some x,some l=>some (x::l) | _,_=>none)
 | _=>(none,none)
inductive N8 (α:Type) where
 | mk (x0 x1 x2 x3 x4 x5 x6 x7:α)
inductive S8 where
 | k0 | k1 | k2 | k3 | k4 | k5 | k6 | k7
def S8.of:Nat->S8
 | 0=>.k0 | 1=>.k1 | 2=>.k2 | 3=>.k3 | 4=>.k4 | 5=>.k5 | 6=>.k6 | _=>.k7
inductive Sl where
 | mk (a b c:S8)
def Q8 (s:S8) (t:N8 V):V:=S8.rec (motive:=λ _=>N8 V->V) (N8.rec (motive:=λ _=>V) (λ x _ _ _ _ _ _ _=>x)) (N8.rec (motive:=λ _=>V) (λ _ x _ _ _ _ _ _=>x)) (N8.rec (motive:=λ _=>V) (λ _ _ x _ _ _ _ _=>x)) (N8.rec (motive:=λ _=>V) (λ _ _ _ x _ _ _ _=>x)) (N8.rec (motive:=λ _=>V) (λ _ _ _ _ x _ _ _=>x)) (N8.rec (motive:=λ _=>V) (λ _ _ _ _ _ x _ _=>x)) (N8.rec (motive:=λ _=>V) (λ _ _ _ _ _ _ x _=>x)) (N8.rec (motive:=λ _=>V) (λ _ _ _ _ _ _ _ x=>x)) s t
def p81 (s:S8) (x:V) (t:N8 V):N8 V:=S8.rec (motive:=λ _=>V->N8 V->N8 V) (λ x t=>N8.rec (motive:=λ _=>V->N8 V) (λ _ x1 x2 x3 x4 x5 x6 x7 x=>.mk x x1 x2 x3 x4 x5 x6 x7) t x) (λ x t=>N8.rec (motive:=λ _=>V->N8 V) (λ x0 _ x2 x3 x4 x5 x6 x7 x=>.mk x0 x x2 x3 x4 x5 x6 x7) t x) (λ x t=>N8.rec (motive:=λ _=>V->N8 V) (λ x0 x1 _ x3 x4 x5 x6 x7 x=>.mk x0 x1 x x3 x4 x5 x6 x7) t x) (λ x t=>N8.rec (motive:=λ _=>V->N8 V) (λ x0 x1 x2 _ x4 x5 x6 x7 x=>.mk x0 x1 x2 x x4 x5 x6 x7) t x) (λ x t=>N8.rec (motive:=λ _=>V->N8 V) (λ x0 x1 x2 x3 _ x5 x6 x7 x=>.mk x0 x1 x2 x3 x x5 x6 x7) t x) (λ x t=>N8.rec (motive:=λ _=>V->N8 V) (λ x0 x1 x2 x3 x4 _ x6 x7 x=>.mk x0 x1 x2 x3 x4 x x6 x7) t x) (λ x t=>N8.rec (motive:=λ _=>V->N8 V) (λ x0 x1 x2 x3 x4 x5 _ x7 x=>.mk x0 x1 x2 x3 x4 x5 x x7) t x) (λ x t=>N8.rec (motive:=λ _=>V->N8 V) (λ x0 x1 x2 x3 x4 x5 x6 _ x=>.mk x0 x1 x2 x3 x4 x5 x6 x) t x) s x t
theorem Q9 (s:S8) (x:V) (t:N8 V):Q8 s (p81 s x t)=x:=by cases t; cases s <;> rfl
theorem ach (s s':S8) (x:V) (t:N8 V) (h:s'≠s):Q8 s' (p81 s x t)=Q8 s' t:=by cases t; cases s <;> cases s' <;> first | rfl | exact absurd rfl h
def LF (s:S8) (t:N8 (N8 V)):(N8 V):=S8.rec (motive:=λ _=>N8 (N8 V)->(N8 V)) (N8.rec (motive:=λ _=>(N8 V)) (λ x _ _ _ _ _ _ _=>x)) (N8.rec (motive:=λ _=>(N8 V)) (λ _ x _ _ _ _ _ _=>x)) (N8.rec (motive:=λ _=>(N8 V)) (λ _ _ x _ _ _ _ _=>x)) (N8.rec (motive:=λ _=>(N8 V)) (λ _ _ _ x _ _ _ _=>x)) (N8.rec (motive:=λ _=>(N8 V)) (λ _ _ _ _ x _ _ _=>x)) (N8.rec (motive:=λ _=>(N8 V)) (λ _ _ _ _ _ x _ _=>x)) (N8.rec (motive:=λ _=>(N8 V)) (λ _ _ _ _ _ _ x _=>x)) (N8.rec (motive:=λ _=>(N8 V)) (λ _ _ _ _ _ _ _ x=>x)) s t
def p82 (s:S8) (x:(N8 V)) (t:N8 (N8 V)):N8 (N8 V):=S8.rec (motive:=λ _=>(N8 V)->N8 (N8 V)->N8 (N8 V)) (λ x t=>N8.rec (motive:=λ _=>(N8 V)->N8 (N8 V)) (λ _ x1 x2 x3 x4 x5 x6 x7 x=>.mk x x1 x2 x3 x4 x5 x6 x7) t x) (λ x t=>N8.rec (motive:=λ _=>(N8 V)->N8 (N8 V)) (λ x0 _ x2 x3 x4 x5 x6 x7 x=>.mk x0 x x2 x3 x4 x5 x6 x7) t x) (λ x t=>N8.rec (motive:=λ _=>(N8 V)->N8 (N8 V)) (λ x0 x1 _ x3 x4 x5 x6 x7 x=>.mk x0 x1 x x3 x4 x5 x6 x7) t x) (λ x t=>N8.rec (motive:=λ _=>(N8 V)->N8 (N8 V)) (λ x0 x1 x2 _ x4 x5 x6 x7 x=>.mk x0 x1 x2 x x4 x5 x6 x7) t x) (λ x t=>N8.rec (motive:=λ _=>(N8 V)->N8 (N8 V)) (λ x0 x1 x2 x3 _ x5 x6 x7 x=>.mk x0 x1 x2 x3 x x5 x6 x7) t x) (λ x t=>N8.rec (motive:=λ _=>(N8 V)->N8 (N8 V)) (λ x0 x1 x2 x3 x4 _ x6 x7 x=>.mk x0 x1 x2 x3 x4 x x6 x7) t x) (λ x t=>N8.rec (motive:=λ _=>(N8 V)->N8 (N8 V)) (λ x0 x1 x2 x3 x4 x5 _ x7 x=>.mk x0 x1 x2 x3 x4 x5 x x7) t x) (λ x t=>N8.rec (motive:=λ _=>(N8 V)->N8 (N8 V)) (λ x0 x1 x2 x3 x4 x5 x6 _ x=>.mk x0 x1 x2 x3 x4 x5 x6 x) t x) s x t
theorem Gf (s:S8) (x:(N8 V)) (t:N8 (N8 V)):LF s (p82 s x t)=x:=by cases t; cases s <;> rfl
theorem aci (s s':S8) (x:(N8 V)) (t:N8 (N8 V)) (h:s'≠s):LF s' (p82 s x t)=LF s' t:=by cases t; cases s <;> cases s' <;> first | rfl | exact absurd rfl h
def Gg (s:S8) (t:N8 (N8 (N8 V))):(N8 (N8 V)):=S8.rec (motive:=λ _=>N8 (N8 (N8 V))->(N8 (N8 V))) (N8.rec (motive:=λ _=>(N8 (N8 V))) (λ x _ _ _ _ _ _ _=>x)) (N8.rec (motive:=λ _=>(N8 (N8 V))) (λ _ x _ _ _ _ _ _=>x)) (N8.rec (motive:=λ _=>(N8 (N8 V))) (λ _ _ x _ _ _ _ _=>x)) (N8.rec (motive:=λ _=>(N8 (N8 V))) (λ _ _ _ x _ _ _ _=>x)) (N8.rec (motive:=λ _=>(N8 (N8 V))) (λ _ _ _ _ x _ _ _=>x)) (N8.rec (motive:=λ _=>(N8 (N8 V))) (λ _ _ _ _ _ x _ _=>x)) (N8.rec (motive:=λ _=>(N8 (N8 V))) (λ _ _ _ _ _ _ x _=>x)) (N8.rec (motive:=λ _=>(N8 (N8 V))) (λ _ _ _ _ _ _ _ x=>x)) s t
def p83 (s:S8) (x:(N8 (N8 V))) (t:N8 (N8 (N8 V))):N8 (N8 (N8 V)):=S8.rec (motive:=λ _=>(N8 (N8 V))->N8 (N8 (N8 V))->N8 (N8 (N8 V))) (λ x t=>N8.rec (motive:=λ _=>(N8 (N8 V))->N8 (N8 (N8 V))) (λ _ x1 x2 x3 x4 x5 x6 x7 x=>.mk x x1 x2 x3 x4 x5 x6 x7) t x) (λ x t=>N8.rec (motive:=λ _=>(N8 (N8 V))->N8 (N8 (N8 V))) (λ x0 _ x2 x3 x4 x5 x6 x7 x=>.mk x0 x x2 x3 x4 x5 x6 x7) t x) (λ x t=>N8.rec (motive:=λ _=>(N8 (N8 V))->N8 (N8 (N8 V))) (λ x0 x1 _ x3 x4 x5 x6 x7 x=>.mk x0 x1 x x3 x4 x5 x6 x7) t x) (λ x t=>N8.rec (motive:=λ _=>(N8 (N8 V))->N8 (N8 (N8 V))) (λ x0 x1 x2 _ x4 x5 x6 x7 x=>.mk x0 x1 x2 x x4 x5 x6 x7) t x) (λ x t=>N8.rec (motive:=λ _=>(N8 (N8 V))->N8 (N8 (N8 V))) (λ x0 x1 x2 x3 _ x5 x6 x7 x=>.mk x0 x1 x2 x3 x x5 x6 x7) t x) (λ x t=>N8.rec (motive:=λ _=>(N8 (N8 V))->N8 (N8 (N8 V))) (λ x0 x1 x2 x3 x4 _ x6 x7 x=>.mk x0 x1 x2 x3 x4 x x6 x7) t x) (λ x t=>N8.rec (motive:=λ _=>(N8 (N8 V))->N8 (N8 (N8 V))) (λ x0 x1 x2 x3 x4 x5 _ x7 x=>.mk x0 x1 x2 x3 x4 x5 x x7) t x) (λ x t=>N8.rec (motive:=λ _=>(N8 (N8 V))->N8 (N8 (N8 V))) (λ x0 x1 x2 x3 x4 x5 x6 _ x=>.mk x0 x1 x2 x3 x4 x5 x6 x) t x) s x t
theorem Gh (s:S8) (x:(N8 (N8 V))) (t:N8 (N8 (N8 V))):Gg s (p83 s x t)=x:=by cases t; cases s <;> rfl
theorem acj (s s':S8) (x:(N8 (N8 V))) (t:N8 (N8 (N8 V))) (h:s'≠s):Gg s' (p83 s x t)=Gg s' t:=by cases t; cases s <;> cases s' <;> first | rfl | exact absurd rfl h
abbrev En:=N8 (N8 (N8 V))
def Sl.get (s:Sl) (e:En):V:=Sl.rec (motive:=λ _=>En->V) (λ a b c e=>Q8 c (LF b (Gg a e))) s e
def Sl.put (s:Sl) (x:V) (e:En):En:=Sl.rec (motive:=λ _=>V->En->En) (λ a b c x e=>p83 a (p82 b (p81 c x (LF b (Gg a e))) (Gg a e)) e) s x e
def v9 (i:Nat):Option Sl:=bif Nat.blt i 512 then some (.mk (S8.of (Nat.div i 64)) (S8.of (Nat.mod (Nat.div i 8) 8)) (S8.of (Nat.mod i 8))) else none
def ack {α:Type} (x:α):N8 α:=.mk x x x x x x x x
def LG:En:=ack (ack (ack Ge))
inductive Oq where
 | t (i:Sl)
 | k (v:V)
def ek (e:En) (o:Oq):V:=Oq.rec (motive:=λ _=>En->V) (λ i e=>i.get e) (λ v _=>v) o e
inductive OL where
 | nil
 | cons (x:Oq) (r:OL)
def UY (e:En) (l:OL):V:=OL.rec (motive:=λ _=>En->V) (λ _=>.e) (λ x _ ih e=>.c (ek e x) (ih e)) l e
inductive PL where
 | nil
 | cons (o n:Nat) (x:Oq) (r:PL)
inductive Kd where
 | no | bool | ptr | slice | map | func
 | rows (l:List Nat)
inductive NK where
 | bad
 | mv (x:Oq)
 | pick (c a b:Oq)
 | new (z:V)
 | box (x:Oq)
 | build (z:V) (ps:PL)
 | bsl (es n:Nat) (z:V) (ps:PL)
 | ld (x:Oq)
 | lda (n:Nat) (x:Oq)
 | st (n:Nat) (a x:Oq)
 | anI (x:Oq)
 | bin (op:BinOp) (g:Value->Value->Sem Value) (kd:Kd) (x y:Oq)
 | not (x:Oq)
 | gen (f:Value->Sem Value) (x:Oq)
 | acm (f:List Value->Sem Value) (l:OL)
 | fa (off:Nat) (x:Oq)
 | ia (es:Nat) (x i:Oq)
 | iaa (n es:Nat) (x i:Oq)
 | fld (off:Nat) (x:Oq)
 | anJ (off n:Nat) (x:Oq)
 | idx (x i:Oq)
 | anK (k es:Nat) (x i:Oq)
 | anL (k es:Nat) (x i:Oq)
 | toB (x:Oq)
 | slc (es:Nat) (x lo hi mx:Oq)
 | anM (x lo hi:Oq)
 | len (kd:Kd) (x:Oq)
 | ext (i:Nat) (x:Oq)
 | call (g:Nat) (l:OL)
 | BU (f:Oq) (l:OL)
 | app (es:Nat) (x y:Oq)
 | mkf (g:Nat) (l:OL)
 | mkm
 | mks (es:Nat) (z:V) (l c:Oq)
 | look (s:Bool) (z:V) (ok:Bool) (m k:Oq)
 | mup (s:Bool) (m k x:Oq)
 | cpy (es:Nat) (x y:Oq)
 | clr (es:Nat) (z:V) (x:Oq)
 | del (s:Bool) (m k:Oq)
 | rng (m:Oq)
 | IL (i:Oq)
 | ent (i:Oq)
 | apz (es:Nat) (z:V) (x k:Oq)
inductive GS where
 | a
 | w (s:Sl) (b:Bool)
inductive Ds where
 | n
 | s (x:Sl)
inductive KL where
 | nil
 | cons (g:GS) (q:NK) (d:Sl) (r:KL)
inductive RL where
 | nil
 | stop
 | mv (x:Oq) (d:Ds) (r:RL)
 | q (q:NK) (d:Ds) (r:RL)
 | op (ix:Nat) (g:GS) (q:NK) (d:Ds) (ks:KL) (r:RL)
 | alt (ix:Nat) (g:GS) (q:NK) (d:Ds) (ks:KL) (r o:RL)
inductive NL where
 | nil
 | cons (x:Nat) (r:NL)
inductive ML where
 | nil
 | cons (k v:V) (b:Nat) (r:ML)
inductive PS where
 | nil
 | cons (x:Sl) (r:PS)
inductive CC where
 | bad | skip | ret
 | exit (id:Nat)
 | eB (m:Nat) (r:RL)
 | seq (a b:CC)
 | cond (c:Oq) (a b:CC)
 | block (id:Nat) (c:CC)
 | loop (c:CC)
 | rf (g:Oq) (ps:PS) (a b:CC)
inductive JS where
 | no | rt
 | ex (id:Nat)
inductive HB where
 | z | x
 | c (n es:Nat) (t:Tr V)
 | m (c:Nat) (l:ML)
 | it (m c st b k:Nat)
 | lp (st:Nat) (j:JS) (ps:PS) (e:En) (a b:CC)
 | df
abbrev Hp:=Tr HB
inductive OR where
 | no
 | ok (v:V) (h:Hp) (n:Nat)
inductive RR where
 | no | any
 | ok (e:En) (h:Hp) (n:Nat)
inductive Ex where
 | no
 | nx (e:En) (h:Hp) (n:Nat) (ds:NL)
 | rt (e:En) (h:Hp) (n:Nat) (ds:NL)
 | ex (id:Nat) (e:En) (h:Hp) (n:Nat) (ds:NL)
def qD (t:Tr V):Nat->V:=
 Tr.rec (motive:=λ _=>Nat->V) (λ _=>Ge)
  (λ _ v _ gl gr i=>Nat.rec (motive:=λ _=>V) v (λ j _=>Bool.rec (motive:=λ _=>V) (gl (Nat.div j 2)) (gr (Nat.div j 2)) (Nat.beq (Nat.mod j 2) 1)) i) t
def ahv (x:V) (f:Nat):Nat->Tr V:=
 Nat.rec (motive:=λ _=>Nat->Tr V) (λ _=>.lf) (λ _ ih i=>Nat.rec (motive:=λ _=>Tr V) (.nd .lf x .lf) (λ j _=>Bool.rec (motive:=λ _=>Tr V) (.nd (ih (Nat.div j 2)) Ge .lf) (.nd .lf Ge (ih (Nat.div j 2))) (Nat.beq (Nat.mod j 2) 1)) i) f
def Wt (t:Tr V) (x:V):Nat->Tr V:=
 Tr.rec (motive:=λ _=>V->Nat->Tr V) (λ x i=>ahv x (Nat.succ i) i)
  (λ l v r pl pr x i=>Nat.rec (motive:=λ _=>Tr V) (.nd l x r) (λ j _=>Bool.rec (motive:=λ _=>Tr V) (.nd (pl x (Nat.div j 2)) v r) (.nd l v (pr x (Nat.div j 2))) (Nat.beq (Nat.mod j 2) 1)) i) t x
theorem Gi (t:Tr V) (x:V) (i k:Nat):qD (Wt t x i) k=if k=i then x else qD t k:=Tr.LD Ge x t i k
def dH (t:Tr HB):Nat->HB:=
 Tr.rec (motive:=λ _=>Nat->HB) (λ _=>HB.z)
  (λ _ v _ gl gr i=>Nat.rec (motive:=λ _=>HB) v (λ j _=>Bool.rec (motive:=λ _=>HB) (gl (Nat.div j 2)) (gr (Nat.div j 2)) (Nat.beq (Nat.mod j 2) 1)) i) t
def ahw (y:HB) (f:Nat):Nat->Tr HB:=
 Nat.rec (motive:=λ _=>Nat->Tr HB) (λ _=>.lf) (λ _ ih i=>Nat.rec (motive:=λ _=>Tr HB) (.nd .lf y .lf) (λ j _=>Bool.rec (motive:=λ _=>Tr HB) (.nd (ih (Nat.div j 2)) HB.z .lf) (.nd .lf HB.z (ih (Nat.div j 2))) (Nat.beq (Nat.mod j 2) 1)) i) f
def eL (t:Tr HB) (y:HB):Nat->Tr HB:=
 Tr.rec (motive:=λ _=>HB->Nat->Tr HB) (λ y i=>ahw y (Nat.succ i) i)
  (λ l v r pl pr y i=>Nat.rec (motive:=λ _=>Tr HB) (.nd l y r) (λ j _=>Bool.rec (motive:=λ _=>Tr HB) (.nd (pl y (Nat.div j 2)) v r) (.nd l v (pr y (Nat.div j 2))) (Nat.beq (Nat.mod j 2) 1)) i) t y
theorem gU (t:Tr HB) (y:HB) (i k:Nat):dH (eL t y i) k=if k=i then y else dH t k:=Tr.LD HB.z y t i k
def V.NM (v:V) (d:OR) (k:Bool->OR):OR:=
 V.rec (motive:=λ _=>OR->(Bool->OR)->OR) (λ x0 _ k=>k x0) (λ _ _ d _=>d) (λ _ _ d _=>d) (λ d _=>d) (λ _ _ d _=>d) (λ d _=>d) (λ _ _ _ _ d _=>d) (λ _ _ _ _ d _=>d) (λ d _=>d) (λ d _=>d) (λ _ d _=>d) (λ d _=>d) (λ _ _ _ d _=>d) (λ _ d _=>d) (λ _ _ d _=>d) (λ _ _ d _=>d) (λ d _=>d) (λ _ _ _ _ d _=>d) v d k
theorem V.wc (v:V) (d:OR) (k:Bool->OR):v.NM d k=d\/(∃ x0,v = .b x0/\v.NM d k=k x0):=by
 cases v <;> first | exact .inl rfl | exact .inr ⟨_,rfl,rfl⟩
def V.Jo (v:V) (d:OR) (k:IntKind->Int->OR):OR:=
 V.rec (motive:=λ _=>OR->(IntKind->Int->OR)->OR) (λ _ d _=>d) (λ x0 x1 _ k=>k x0 x1) (λ _ _ d _=>d) (λ d _=>d) (λ _ _ d _=>d) (λ d _=>d) (λ _ _ _ _ d _=>d) (λ _ _ _ _ d _=>d) (λ d _=>d) (λ d _=>d) (λ _ d _=>d) (λ d _=>d) (λ _ _ _ d _=>d) (λ _ d _=>d) (λ _ _ d _=>d) (λ _ _ d _=>d) (λ d _=>d) (λ _ _ _ _ d _=>d) v d k
theorem V.ze (v:V) (d:OR) (k:IntKind->Int->OR):v.Jo d k=d\/(∃ x0 x1,v = .i x0 x1/\v.Jo d k=k x0 x1):=by
 cases v <;> first | exact .inl rfl | exact .inr ⟨_,_,rfl,rfl⟩
def V.D4 (v:V) (d:OR) (k:Nat->Nat->OR):OR:=
 V.rec (motive:=λ _=>OR->(Nat->Nat->OR)->OR) (λ _ d _=>d) (λ _ _ d _=>d) (λ x0 x1 _ k=>k x0 x1) (λ d _=>d) (λ _ _ d _=>d) (λ d _=>d) (λ _ _ _ _ d _=>d) (λ _ _ _ _ d _=>d) (λ d _=>d) (λ d _=>d) (λ _ d _=>d) (λ d _=>d) (λ _ _ _ d _=>d) (λ _ d _=>d) (λ _ _ d _=>d) (λ _ _ d _=>d) (λ d _=>d) (λ _ _ _ _ d _=>d) v d k
theorem V.zh (v:V) (d:OR) (k:Nat->Nat->OR):v.D4 d k=d\/(∃ x0 x1,v = .s x0 x1/\v.D4 d k=k x0 x1):=by
 cases v <;> first | exact .inl rfl | exact .inr ⟨_,_,rfl,rfl⟩
def V.UZ (v:V) (d:OR) (k:Nat->Nat->OR):OR:=
 V.rec (motive:=λ _=>OR->(Nat->Nat->OR)->OR) (λ _ d _=>d) (λ _ _ d _=>d) (λ _ _ d _=>d) (λ d _=>d) (λ x0 x1 _ k=>k x0 x1) (λ d _=>d) (λ _ _ _ _ d _=>d) (λ _ _ _ _ d _=>d) (λ d _=>d) (λ d _=>d) (λ _ d _=>d) (λ d _=>d) (λ _ _ _ d _=>d) (λ _ d _=>d) (λ _ _ d _=>d) (λ _ _ d _=>d) (λ d _=>d) (λ _ _ _ _ d _=>d) v d k
theorem V.Wu (v:V) (d:OR) (k:Nat->Nat->OR):v.UZ d k=d\/(∃ x0 x1,v = .p x0 x1/\v.UZ d k=k x0 x1):=by
 cases v <;> first | exact .inl rfl | exact .inr ⟨_,_,rfl,rfl⟩
def V.Ra (v:V) (d:OR) (k:V->OR):OR:=
 V.rec (motive:=λ _=>OR->(V->OR)->OR) (λ _ d _=>d) (λ _ _ d _=>d) (λ _ _ d _=>d) (λ d _=>d) (λ _ _ d _=>d) (λ d _=>d) (λ _ _ _ _ d _=>d) (λ _ _ _ _ d _=>d) (λ d _=>d) (λ d _=>d) (λ _ d _=>d) (λ d _=>d) (λ _ _ _ d _=>d) (λ _ d _=>d) (λ x0 _ _ k=>k x0) (λ _ _ d _=>d) (λ d _=>d) (λ _ _ _ _ d _=>d) v d k
theorem V.D5 (v:V) (d:OR) (k:V->OR):v.Ra d k=d\/(∃ x0,v = .a x0/\v.Ra d k=k x0):=by
 cases v <;> first | exact .inl rfl | exact .inr ⟨_,rfl,rfl⟩
def V.U1 (v:V) (d:OR) (k:V->OR):OR:=
 V.rec (motive:=λ _=>OR->(V->OR)->OR) (λ _ d _=>d) (λ _ _ d _=>d) (λ _ _ d _=>d) (λ d _=>d) (λ _ _ d _=>d) (λ d _=>d) (λ _ _ _ _ d _=>d) (λ _ _ _ _ d _=>d) (λ d _=>d) (λ d _=>d) (λ _ d _=>d) (λ d _=>d) (λ _ _ _ d _=>d) (λ _ d _=>d) (λ _ _ d _=>d) (λ x0 _ _ k=>k x0) (λ d _=>d) (λ _ _ _ _ d _=>d) v d k
theorem V.D6 (v:V) (d:OR) (k:V->OR):v.U1 d k=d\/(∃ x0,v = .t x0/\v.U1 d k=k x0):=by
 cases v <;> first | exact .inl rfl | exact .inr ⟨_,rfl,rfl⟩
def V.onC (v:V) (d:OR) (k:V->V->OR):OR:=
 V.rec (motive:=λ _=>OR->(V->V->OR)->OR) (λ _ d _=>d) (λ _ _ d _=>d) (λ _ _ d _=>d) (λ d _=>d) (λ _ _ d _=>d) (λ d _=>d) (λ _ _ _ _ d _=>d) (λ _ _ _ _ d _=>d) (λ d _=>d) (λ d _=>d) (λ _ d _=>d) (λ d _=>d) (λ _ _ _ d _=>d) (λ _ d _=>d) (λ _ _ d _=>d) (λ _ _ d _=>d) (λ d _=>d) (λ x0 x1 _ _ _ k=>k x0 x1) v d k
def V.IM (v:V) (d:OR) (k:Nat->OR):OR:=
 V.rec (motive:=λ _=>OR->(Nat->OR)->OR) (λ _ d _=>d) (λ _ _ d _=>d) (λ _ _ d _=>d) (λ d _=>d) (λ _ _ d _=>d) (λ d _=>d) (λ _ _ _ _ d _=>d) (λ _ _ _ _ d _=>d) (λ d _=>d) (λ d _=>d) (λ x0 _ k=>k x0) (λ d _=>d) (λ _ _ _ d _=>d) (λ _ d _=>d) (λ _ _ d _=>d) (λ _ _ d _=>d) (λ d _=>d) (λ _ _ _ _ d _=>d) v d k
theorem V.D7 (v:V) (d:OR) (k:Nat->OR):v.IM d k=d\/(∃ x0,v = .m x0/\v.IM d k=k x0):=by
 cases v <;> first | exact .inl rfl | exact .inr ⟨_,rfl,rfl⟩
def V.Jp (v:V) (d:OR) (k1:Nat->V->OR) (k2:Nat->OR):OR:=
 V.rec (motive:=λ _=>OR->(Nat->V->OR)->(Nat->OR)->OR) (λ _ d _ _=>d) (λ _ _ d _ _=>d) (λ _ _ d _ _=>d) (λ d _ _=>d) (λ _ _ d _ _=>d) (λ d _ _=>d) (λ _ _ _ _ d _ _=>d) (λ _ _ _ _ d _ _=>d) (λ d _ _=>d) (λ d _ _=>d) (λ _ d _ _=>d) (λ d _ _=>d) (λ x0 x1 _ _ k1 _=>k1 x0 x1) (λ x0 _ _ k2=>k2 x0) (λ _ _ d _ _=>d) (λ _ _ d _ _=>d) (λ d _ _=>d) (λ _ _ _ _ d _ _=>d) v d k1 k2
theorem V.Gj (v:V) (d:OR) (k1:Nat->V->OR) (k2:Nat->OR):v.Jp d k1 k2=d\/(∃ x0 x1,v = .f x0 x1/\v.Jp d k1 k2=k1 x0 x1)\/(∃ x0,v = .y x0/\v.Jp d k1 k2=k2 x0):=by
 cases v <;> first | exact .inl rfl | exact .inr (.inl ⟨_,_,rfl,rfl⟩) | exact .inr (.inr ⟨_,rfl,rfl⟩)
def V.Wv (v:V) (d:OR) (k1:Nat->Nat->OR) (k2:Nat->V->OR):OR:=
 V.rec (motive:=λ _=>OR->(Nat->Nat->OR)->(Nat->V->OR)->OR) (λ _ d _ _=>d) (λ _ _ d _ _=>d) (λ _ _ d _ _=>d) (λ d _ _=>d) (λ x0 x1 _ k1 _=>k1 x0 x1) (λ d _ _=>d) (λ _ _ _ _ d _ _=>d) (λ _ _ _ _ d _ _=>d) (λ d _ _=>d) (λ d _ _=>d) (λ _ d _ _=>d) (λ d _ _=>d) (λ x0 x1 _ _ _ k2=>k2 x0 x1) (λ _ d _ _=>d) (λ _ _ d _ _=>d) (λ _ _ d _ _=>d) (λ d _ _=>d) (λ _ _ _ _ d _ _=>d) v d k1 k2
theorem V.Rb (v:V) (d:OR) (k1:Nat->Nat->OR) (k2:Nat->V->OR):v.Wv d k1 k2=d\/(∃ x0 x1,v = .p x0 x1/\v.Wv d k1 k2=k1 x0 x1)\/(∃ x0 x1,v = .f x0 x1/\v.Wv d k1 k2=k2 x0 x1):=by
 cases v <;> first | exact .inl rfl | exact .inr (.inl ⟨_,_,rfl,rfl⟩) | exact .inr (.inr ⟨_,_,rfl,rfl⟩)
def V.Pr (v:V) (d:OR) (k0:OR) (k:V->V->OR):OR:=
 V.rec (motive:=λ _=>OR->OR->(V->V->OR)->OR) (λ _ d _ _=>d) (λ _ _ d _ _=>d) (λ _ _ d _ _=>d) (λ d _ _=>d) (λ _ _ d _ _=>d) (λ d _ _=>d) (λ _ _ _ _ d _ _=>d) (λ _ _ _ _ d _ _=>d) (λ d _ _=>d) (λ d _ _=>d) (λ _ d _ _=>d) (λ d _ _=>d) (λ _ _ _ d _ _=>d) (λ _ d _ _=>d) (λ _ _ d _ _=>d) (λ _ _ d _ _=>d) (λ _ k0 _=>k0) (λ x0 x1 _ _ _ _ k=>k x0 x1) v d k0 k
def V.pI (v:V) (d:OR) (k0:OR) (k1:Nat->Nat->Nat->Nat->OR) (k2:Nat->Nat->Nat->Nat->OR) (k3:OR):OR:=
 V.rec (motive:=λ _=>OR->OR->(Nat->Nat->Nat->Nat->OR)->(Nat->Nat->Nat->Nat->OR)->OR->OR) (λ _ d _ _ _ _=>d) (λ _ _ d _ _ _ _=>d) (λ _ _ d _ _ _ _=>d) (λ d _ _ _ _=>d) (λ _ _ d _ _ _ _=>d) (λ _ k0 _ _ _=>k0) (λ x0 x1 x2 x3 _ _ k1 _ _=>k1 x0 x1 x2 x3) (λ x0 x1 x2 x3 _ _ _ k2 _=>k2 x0 x1 x2 x3) (λ _ _ _ _ k3=>k3) (λ d _ _ _ _=>d) (λ _ d _ _ _ _=>d) (λ d _ _ _ _=>d) (λ _ _ _ d _ _ _ _=>d) (λ _ d _ _ _ _=>d) (λ _ _ d _ _ _ _=>d) (λ _ _ d _ _ _ _=>d) (λ d _ _ _ _=>d) (λ _ _ _ _ d _ _ _ _=>d) v d k0 k1 k2 k3
theorem V.Rc (v:V) (d:OR) (k0:OR) (k1:Nat->Nat->Nat->Nat->OR) (k2:Nat->Nat->Nat->Nat->OR) (k3:OR):v.pI d k0 k1 k2 k3=d\/(v = .ns/\v.pI d k0 k1 k2 k3=k0)\/(∃ x0 x1 x2 x3,v = .sl x0 x1 x2 x3/\v.pI d k0 k1 k2 k3=k1 x0 x1 x2 x3)\/(∃ x0 x1 x2 x3,v = .sx x0 x1 x2 x3/\v.pI d k0 k1 k2 k3=k2 x0 x1 x2 x3)\/(v = .se/\v.pI d k0 k1 k2 k3=k3):=by
 cases v <;> first | exact .inl rfl | exact .inr (.inl ⟨rfl,rfl⟩) | exact .inr (.inr (.inl ⟨_,_,_,_,rfl,rfl⟩)) | exact .inr (.inr (.inr (.inl ⟨_,_,_,_,rfl,rfl⟩))) | exact .inr (.inr (.inr (.inr ⟨rfl,rfl⟩)))
def V.NN (v:V) (d:OR) (k0:OR) (k:IntKind->Int->OR):OR:=
 V.rec (motive:=λ _=>OR->OR->(IntKind->Int->OR)->OR) (λ _ d _ _=>d) (λ x0 x1 _ _ k=>k x0 x1) (λ _ _ d _ _=>d) (λ d _ _=>d) (λ _ _ d _ _=>d) (λ d _ _=>d) (λ _ _ _ _ d _ _=>d) (λ _ _ _ _ d _ _=>d) (λ d _ _=>d) (λ d _ _=>d) (λ _ d _ _=>d) (λ d _ _=>d) (λ _ _ _ d _ _=>d) (λ _ d _ _=>d) (λ _ _ d _ _=>d) (λ _ _ d _ _=>d) (λ _ k0 _=>k0) (λ _ _ _ _ d _ _=>d) v d k0 k
theorem V.Rd (v:V) (d:OR) (k0:OR) (k:IntKind->Int->OR):v.NN d k0 k=d\/(v = .e/\v.NN d k0 k=k0)\/(∃ x0 x1,v = .i x0 x1/\v.NN d k0 k=k x0 x1):=by
 cases v <;> first | exact .inl rfl | exact .inr (.inl ⟨rfl,rfl⟩) | exact .inr (.inr ⟨_,_,rfl,rfl⟩)
def V.Ww (v:V) (d:RR) (k:Bool->RR):RR:=
 V.rec (motive:=λ _=>RR->(Bool->RR)->RR) (λ x0 _ k=>k x0) (λ _ _ d _=>d) (λ _ _ d _=>d) (λ d _=>d) (λ _ _ d _=>d) (λ d _=>d) (λ _ _ _ _ d _=>d) (λ _ _ _ _ d _=>d) (λ d _=>d) (λ d _=>d) (λ _ d _=>d) (λ d _=>d) (λ _ _ _ d _=>d) (λ _ d _=>d) (λ _ _ d _=>d) (λ _ _ d _=>d) (λ d _=>d) (λ _ _ _ _ d _=>d) v d k
theorem V.Re (v:V) (d:RR) (k:Bool->RR):v.Ww d k=d\/(∃ x0,v = .b x0/\v.Ww d k=k x0):=by
 cases v <;> first | exact .inl rfl | exact .inr ⟨_,rfl,rfl⟩
def V.Wx (v:V) (d:Ex) (k:Bool->Ex):Ex:=
 V.rec (motive:=λ _=>Ex->(Bool->Ex)->Ex) (λ x0 _ k=>k x0) (λ _ _ d _=>d) (λ _ _ d _=>d) (λ d _=>d) (λ _ _ d _=>d) (λ d _=>d) (λ _ _ _ _ d _=>d) (λ _ _ _ _ d _=>d) (λ d _=>d) (λ d _=>d) (λ _ d _=>d) (λ d _=>d) (λ _ _ _ d _=>d) (λ _ d _=>d) (λ _ _ d _=>d) (λ _ _ d _=>d) (λ d _=>d) (λ _ _ _ _ d _=>d) v d k
theorem V.Rf (v:V) (d:Ex) (k:Bool->Ex):v.Wx d k=d\/(∃ x0,v = .b x0/\v.Wx d k=k x0):=by
 cases v <;> first | exact .inl rfl | exact .inr ⟨_,rfl,rfl⟩
def V.acn (v:V) (d:Ex) (k:Nat->V->Ex):Ex:=
 V.rec (motive:=λ _=>Ex->(Nat->V->Ex)->Ex) (λ _ d _=>d) (λ _ _ d _=>d) (λ _ _ d _=>d) (λ d _=>d) (λ _ _ d _=>d) (λ d _=>d) (λ _ _ _ _ d _=>d) (λ _ _ _ _ d _=>d) (λ d _=>d) (λ d _=>d) (λ _ d _=>d) (λ d _=>d) (λ x0 x1 _ _ k=>k x0 x1) (λ _ d _=>d) (λ _ _ d _=>d) (λ _ _ d _=>d) (λ d _=>d) (λ _ _ _ _ d _=>d) v d k
theorem V.Rg (v:V) (d:Ex) (k:Nat->V->Ex):v.acn d k=d\/(∃ x0 x1,v = .f x0 x1/\v.acn d k=k x0 x1):=by
 cases v <;> first | exact .inl rfl | exact .inr ⟨_,_,rfl,rfl⟩
def V.anN (v:V) (d:En) (k:V->V->En):En:=
 V.rec (motive:=λ _=>En->(V->V->En)->En) (λ _ d _=>d) (λ _ _ d _=>d) (λ _ _ d _=>d) (λ d _=>d) (λ _ _ d _=>d) (λ d _=>d) (λ _ _ _ _ d _=>d) (λ _ _ _ _ d _=>d) (λ d _=>d) (λ d _=>d) (λ _ d _=>d) (λ d _=>d) (λ _ _ _ d _=>d) (λ _ d _=>d) (λ _ _ d _=>d) (λ _ _ d _=>d) (λ d _=>d) (λ x0 x1 _ _ _ k=>k x0 x1) v d k
def V.Wy (v:V) (d:V) (k:V->V->V):V:=
 V.rec (motive:=λ _=>V->(V->V->V)->V) (λ _ d _=>d) (λ _ _ d _=>d) (λ _ _ d _=>d) (λ d _=>d) (λ _ _ d _=>d) (λ d _=>d) (λ _ _ _ _ d _=>d) (λ _ _ _ _ d _=>d) (λ d _=>d) (λ d _=>d) (λ _ d _=>d) (λ d _=>d) (λ _ _ _ d _=>d) (λ _ d _=>d) (λ _ _ d _=>d) (λ _ _ d _=>d) (λ d _=>d) (λ x0 x1 _ _ _ k=>k x0 x1) v d k
def V.fc (v:V) (k:V->OR):OR:=
 V.rec (motive:=λ _=>(V->OR)->OR) (λ x0 k=>k (.b x0)) (λ x0 x1 k=>k (.i x0 x1)) (λ x0 x1 k=>k (.s x0 x1)) (λ k=>k .np) (λ x0 x1 k=>k (.p x0 x1)) (λ k=>k .ns) (λ x0 x1 x2 x3 k=>k (.sl x0 x1 x2 x3)) (λ x0 x1 x2 x3 k=>k (.sx x0 x1 x2 x3)) (λ k=>k .se) (λ k=>k .nm) (λ x0 k=>k (.m x0)) (λ k=>k .nf) (λ x0 x1 _ k=>k (.f x0 x1)) (λ x0 k=>k (.y x0)) (λ x0 _ k=>k (.a x0)) (λ x0 _ k=>k (.t x0)) (λ k=>k .e) (λ x0 x1 _ _ k=>k (.c x0 x1)) v k
theorem V.ri (v:V) (k:V->OR):v.fc k=k v:=by cases v <;> rfl
def V.fcR (v:V) (k:V->RR):RR:=
 V.rec (motive:=λ _=>(V->RR)->RR) (λ x0 k=>k (.b x0)) (λ x0 x1 k=>k (.i x0 x1)) (λ x0 x1 k=>k (.s x0 x1)) (λ k=>k .np) (λ x0 x1 k=>k (.p x0 x1)) (λ k=>k .ns) (λ x0 x1 x2 x3 k=>k (.sl x0 x1 x2 x3)) (λ x0 x1 x2 x3 k=>k (.sx x0 x1 x2 x3)) (λ k=>k .se) (λ k=>k .nm) (λ x0 k=>k (.m x0)) (λ k=>k .nf) (λ x0 x1 _ k=>k (.f x0 x1)) (λ x0 k=>k (.y x0)) (λ x0 _ k=>k (.a x0)) (λ x0 _ k=>k (.t x0)) (λ k=>k .e) (λ x0 x1 _ _ k=>k (.c x0 x1)) v k
theorem V.aco (v:V) (k:V->RR):v.fcR k=k v:=by cases v <;> rfl
def HB.onC (h:HB) (d:OR) (k:Nat->Nat->(Tr V)->OR):OR:=
 HB.rec (motive:=λ _=>OR->(Nat->Nat->(Tr V)->OR)->OR) (λ d _=>d) (λ d _=>d) (λ x0 x1 x2 _ k=>k x0 x1 x2) (λ _ _ d _=>d) (λ _ _ _ _ _ d _=>d) (λ _ _ _ _ _ _ d _=>d) (λ d _=>d) h d k
theorem HB.Wz (h:HB) (d:OR) (k:Nat->Nat->(Tr V)->OR):h.onC d k=d\/∃ x0 x1 x2,h = .c x0 x1 x2/\h.onC d k=k x0 x1 x2:=by
 cases h <;> first | exact .inl rfl | exact .inr ⟨_,_,_,rfl,rfl⟩
def HB.IM (h:HB) (d:OR) (k:Nat->ML->OR):OR:=
 HB.rec (motive:=λ _=>OR->(Nat->ML->OR)->OR) (λ d _=>d) (λ d _=>d) (λ _ _ _ d _=>d) (λ x0 x1 _ k=>k x0 x1) (λ _ _ _ _ _ d _=>d) (λ _ _ _ _ _ _ d _=>d) (λ d _=>d) h d k
theorem HB.D7 (h:HB) (d:OR) (k:Nat->ML->OR):h.IM d k=d\/∃ x0 x1,h = .m x0 x1/\h.IM d k=k x0 x1:=by
 cases h <;> first | exact .inl rfl | exact .inr ⟨_,_,rfl,rfl⟩
def HB.U1 (h:HB) (d:OR) (k:Nat->Nat->Nat->Nat->Nat->OR):OR:=
 HB.rec (motive:=λ _=>OR->(Nat->Nat->Nat->Nat->Nat->OR)->OR) (λ d _=>d) (λ d _=>d) (λ _ _ _ d _=>d) (λ _ _ d _=>d) (λ x0 x1 x2 x3 x4 _ k=>k x0 x1 x2 x3 x4) (λ _ _ _ _ _ _ d _=>d) (λ d _=>d) h d k
theorem HB.D6 (h:HB) (d:OR) (k:Nat->Nat->Nat->Nat->Nat->OR):h.U1 d k=d\/∃ x0 x1 x2 x3 x4,h = .it x0 x1 x2 x3 x4/\h.U1 d k=k x0 x1 x2 x3 x4:=by
 cases h <;> first | exact .inl rfl | exact .inr ⟨_,_,_,_,_,rfl,rfl⟩
def HB.Pr (h:HB) (d:OR) (k:Nat->JS->PS->En->CC->CC->OR):OR:=
 HB.rec (motive:=λ _=>OR->(Nat->JS->PS->En->CC->CC->OR)->OR) (λ d _=>d) (λ d _=>d) (λ _ _ _ d _=>d) (λ _ _ d _=>d) (λ _ _ _ _ _ d _=>d) (λ x0 x1 x2 x3 x4 x5 _ k=>k x0 x1 x2 x3 x4 x5) (λ d _=>d) h d k
theorem HB.D8 (h:HB) (d:OR) (k:Nat->JS->PS->En->CC->CC->OR):h.Pr d k=d\/∃ x0 x1 x2 x3 x4 x5,h = .lp x0 x1 x2 x3 x4 x5/\h.Pr d k=k x0 x1 x2 x3 x4 x5:=by
 cases h <;> first | exact .inl rfl | exact .inr ⟨_,_,_,_,_,_,rfl,rfl⟩
def HB.onZ (h:HB) (d:OR) (k:OR):OR:=
 HB.rec (motive:=λ _=>OR->OR->OR) (λ _ k=>k) (λ d _=>d) (λ _ _ _ d _=>d) (λ _ _ d _=>d) (λ _ _ _ _ _ d _=>d) (λ _ _ _ _ _ _ d _=>d) (λ d _=>d) h d k
theorem HB.WA (h:HB) (d:OR) (k:OR):h.onZ d k=d\/(h = .z/\h.onZ d k=k):=by
 cases h <;> first | exact .inl rfl | exact .inr ⟨rfl,rfl⟩
def HB.onD (h:HB) (d:OR) (k:OR):OR:=
 HB.rec (motive:=λ _=>OR->OR->OR) (λ d _=>d) (λ d _=>d) (λ _ _ _ d _=>d) (λ _ _ d _=>d) (λ _ _ _ _ _ d _=>d) (λ _ _ _ _ _ _ d _=>d) (λ _ k=>k) h d k
theorem HB.WB (h:HB) (d:OR) (k:OR):h.onD d k=d\/(h = .df/\h.onD d k=k):=by
 cases h <;> first | exact .inl rfl | exact .inr ⟨rfl,rfl⟩
def HB.WC (h:HB) (d:Ex) (k:Ex):Ex:=
 HB.rec (motive:=λ _=>Ex->Ex->Ex) (λ _ k=>k) (λ d _=>d) (λ _ _ _ d _=>d) (λ _ _ d _=>d) (λ _ _ _ _ _ d _=>d) (λ _ _ _ _ _ _ d _=>d) (λ d _=>d) h d k
theorem HB.Gk (h:HB) (d:Ex) (k:Ex):h.WC d k=d\/(h = .z/\h.WC d k=k):=by
 cases h <;> first | exact .inl rfl | exact .inr ⟨rfl,rfl⟩
def HB.acp (h:HB) (d:Ex) (k:Nat->JS->PS->En->CC->CC->Ex):Ex:=
 HB.rec (motive:=λ _=>Ex->(Nat->JS->PS->En->CC->CC->Ex)->Ex) (λ d _=>d) (λ d _=>d) (λ _ _ _ d _=>d) (λ _ _ d _=>d) (λ _ _ _ _ _ d _=>d) (λ x0 x1 x2 x3 x4 x5 _ k=>k x0 x1 x2 x3 x4 x5) (λ d _=>d) h d k
theorem HB.Rh (h:HB) (d:Ex) (k:Nat->JS->PS->En->CC->CC->Ex):h.acp d k=d\/∃ x0 x1 x2 x3 x4 x5,h = .lp x0 x1 x2 x3 x4 x5/\h.acp d k=k x0 x1 x2 x3 x4 x5:=by
 cases h <;> first | exact .inl rfl | exact .inr ⟨_,_,_,_,_,_,rfl,rfl⟩
def dY (b:Bool) (t e:OR):OR:=Bool.rec (motive:=λ _=>OR) e t b
def xn (b:Bool):Bool:=Bool.rec (motive:=λ _=>Bool) true false b
def NP (a b:Bool):Bool:=Bool.rec (motive:=λ _=>Bool) (xn b) b a
def dD (a b:Bool):Bool:=Bool.rec (motive:=λ _=>Bool) false b a
def kn (k:IntKind):Nat:=IntKind.rec (motive:=λ _=>Nat) 0 1 2 3 4 5 6 7 k
def Ri (a b:Int):Bool:=
 Int.rec (motive:=λ _=>Bool) (λ x=>Int.rec (motive:=λ _=>Bool) (λ y=>Nat.beq x y) (λ _=>false) b) (λ x=>Int.rec (motive:=λ _=>Bool) (λ _=>false) (λ y=>Nat.beq x y) b) a
def V.eqs (s:Bool) (v:V):V->Bool:=
 V.rec (motive:=λ _=>V->Bool)
 (λ x0=>λ v=>V.rec (motive:=λ _=>Bool) (λ y0=>NP x0 y0) (λ _ _=>false) (λ _ _=>false) false (λ _ _=>false) false (λ _ _ _ _=>false) (λ _ _ _ _=>false) false false (λ _=>false) false (λ _ _ _=>false) (λ _=>false) (λ _ _=>false) (λ _ _=>false) false (λ _ _ _ _=>false) v)
 (λ x0 x1=>λ v=>V.rec (motive:=λ _=>Bool) (λ _=>false) (λ y0 y1=>dD (Nat.beq (kn x0) (kn y0)) (Ri x1 y1)) (λ _ _=>false) false (λ _ _=>false) false (λ _ _ _ _=>false) (λ _ _ _ _=>false) false false (λ _=>false) false (λ _ _ _=>false) (λ _=>false) (λ _ _=>false) (λ _ _=>false) false (λ _ _ _ _=>false) v)
 (λ x0 x1=>λ v=>V.rec (motive:=λ _=>Bool) (λ _=>false) (λ _ _=>false) (λ y0 y1=>dD (Nat.beq x0 y0) (Nat.beq x1 y1)) false (λ _ _=>false) false (λ _ _ _ _=>false) (λ _ _ _ _=>false) false false (λ _=>false) false (λ _ _ _=>false) (λ _=>false) (λ _ _=>false) (λ _ _=>false) false (λ _ _ _ _=>false) v)
 (λ v=>V.rec (motive:=λ _=>Bool) (λ _=>false) (λ _ _=>false) (λ _ _=>false) true (λ _ _=>false) false (λ _ _ _ _=>false) (λ _ _ _ _=>false) false false (λ _=>false) false (λ _ _ _=>false) (λ _=>false) (λ _ _=>false) (λ _ _=>false) false (λ _ _ _ _=>false) v)
 (λ x0 x1=>λ v=>V.rec (motive:=λ _=>Bool) (λ _=>false) (λ _ _=>false) (λ _ _=>false) false (λ y0 y1=>dD (Nat.beq x0 y0) (Nat.beq x1 y1)) false (λ _ _ _ _=>false) (λ _ _ _ _=>false) false false (λ _=>false) false (λ _ _ _=>false) (λ _=>false) (λ _ _=>false) (λ _ _=>false) false (λ _ _ _ _=>false) v)
 (λ v=>V.rec (motive:=λ _=>Bool) (λ _=>false) (λ _ _=>false) (λ _ _=>false) false (λ _ _=>false) true (λ _ _ _ _=>false) (λ _ _ _ _=>false) false false (λ _=>false) false (λ _ _ _=>false) (λ _=>false) (λ _ _=>false) (λ _ _=>false) false (λ _ _ _ _=>false) v)
 (λ x0 x1 x2 x3=>λ v=>V.rec (motive:=λ _=>Bool) (λ _=>false) (λ _ _=>false) (λ _ _=>false) false (λ _ _=>false) false (λ y0 y1 y2 y3=>dD (Nat.beq x0 y0) (dD (Nat.beq x1 y1) (dD (Nat.beq x2 y2) (Nat.beq x3 y3)))) (λ _ _ _ _=>false) false false (λ _=>false) false (λ _ _ _=>false) (λ _=>false) (λ _ _=>false) (λ _ _=>false) false (λ _ _ _ _=>false) v)
 (λ x0 x1 x2 x3=>λ v=>V.rec (motive:=λ _=>Bool) (λ _=>false) (λ _ _=>false) (λ _ _=>false) false (λ _ _=>false) false (λ _ _ _ _=>false) (λ y0 y1 y2 y3=>dD (Nat.beq x0 y0) (dD (Nat.beq x1 y1) (dD (Nat.beq x2 y2) (Nat.beq x3 y3)))) false false (λ _=>false) false (λ _ _ _=>false) (λ _=>false) (λ _ _=>false) (λ _ _=>false) false (λ _ _ _ _=>false) v)
 (λ v=>V.rec (motive:=λ _=>Bool) (λ _=>false) (λ _ _=>false) (λ _ _=>false) false (λ _ _=>false) false (λ _ _ _ _=>false) (λ _ _ _ _=>false) s false (λ _=>false) false (λ _ _ _=>false) (λ _=>false) (λ _ _=>false) (λ _ _=>false) false (λ _ _ _ _=>false) v)
 (λ v=>V.rec (motive:=λ _=>Bool) (λ _=>false) (λ _ _=>false) (λ _ _=>false) false (λ _ _=>false) false (λ _ _ _ _=>false) (λ _ _ _ _=>false) false true (λ _=>false) false (λ _ _ _=>false) (λ _=>false) (λ _ _=>false) (λ _ _=>false) false (λ _ _ _ _=>false) v)
 (λ x0=>λ v=>V.rec (motive:=λ _=>Bool) (λ _=>false) (λ _ _=>false) (λ _ _=>false) false (λ _ _=>false) false (λ _ _ _ _=>false) (λ _ _ _ _=>false) false false (λ y0=>Nat.beq x0 y0) false (λ _ _ _=>false) (λ _=>false) (λ _ _=>false) (λ _ _=>false) false (λ _ _ _ _=>false) v)
 (λ v=>V.rec (motive:=λ _=>Bool) (λ _=>false) (λ _ _=>false) (λ _ _=>false) false (λ _ _=>false) false (λ _ _ _ _=>false) (λ _ _ _ _=>false) false false (λ _=>false) true (λ _ _ _=>false) (λ _=>false) (λ _ _=>false) (λ _ _=>false) false (λ _ _ _ _=>false) v)
 (λ x0 _ h1=>λ v=>V.rec (motive:=λ _=>Bool) (λ _=>false) (λ _ _=>false) (λ _ _=>false) false (λ _ _=>false) false (λ _ _ _ _=>false) (λ _ _ _ _=>false) false false (λ _=>false) false (λ y0 y1 _=>dD (Nat.beq x0 y0) (h1 y1)) (λ _=>false) (λ _ _=>false) (λ _ _=>false) false (λ _ _ _ _=>false) v)
 (λ x0=>λ v=>V.rec (motive:=λ _=>Bool) (λ _=>false) (λ _ _=>false) (λ _ _=>false) false (λ _ _=>false) false (λ _ _ _ _=>false) (λ _ _ _ _=>false) false false (λ _=>false) false (λ _ _ _=>false) (λ y0=>Nat.beq x0 y0) (λ _ _=>false) (λ _ _=>false) false (λ _ _ _ _=>false) v)
 (λ _ h0=>λ v=>V.rec (motive:=λ _=>Bool) (λ _=>false) (λ _ _=>false) (λ _ _=>false) false (λ _ _=>false) false (λ _ _ _ _=>false) (λ _ _ _ _=>false) false false (λ _=>false) false (λ _ _ _=>false) (λ _=>false) (λ y0 _=>h0 y0) (λ _ _=>false) false (λ _ _ _ _=>false) v)
 (λ _ h0=>λ v=>V.rec (motive:=λ _=>Bool) (λ _=>false) (λ _ _=>false) (λ _ _=>false) false (λ _ _=>false) false (λ _ _ _ _=>false) (λ _ _ _ _=>false) false false (λ _=>false) false (λ _ _ _=>false) (λ _=>false) (λ _ _=>false) (λ y0 _=>h0 y0) false (λ _ _ _ _=>false) v)
 (λ v=>V.rec (motive:=λ _=>Bool) (λ _=>false) (λ _ _=>false) (λ _ _=>false) false (λ _ _=>false) false (λ _ _ _ _=>false) (λ _ _ _ _=>false) false false (λ _=>false) false (λ _ _ _=>false) (λ _=>false) (λ _ _=>false) (λ _ _=>false) true (λ _ _ _ _=>false) v)
 (λ _ _ h0 h1=>λ v=>V.rec (motive:=λ _=>Bool) (λ _=>false) (λ _ _=>false) (λ _ _=>false) false (λ _ _=>false) false (λ _ _ _ _=>false) (λ _ _ _ _=>false) false false (λ _=>false) false (λ _ _ _=>false) (λ _=>false) (λ _ _=>false) (λ _ _=>false) false (λ y0 y1 _ _=>dD (h0 y0) (h1 y1)) v) v
def TV.eqv (t:Tr V):Tr V->Bool:=
 Tr.rec (motive:=λ _=>Tr V->Bool) (λ u=>Tr.rec (motive:=λ _=>Bool) true (λ _ _ _ _ _=>false) u) (λ _ v _ hl hr u=>Tr.rec (motive:=λ _=>Bool) false (λ l' v' r' _ _=>dD (V.eqs true v v') (dD (hl l') (hr r'))) u) t
def ML.eqv (a:ML):ML->Bool:=
 ML.rec (motive:=λ _=>ML->Bool) (λ b=>ML.rec (motive:=λ _=>Bool) true (λ _ _ _ _ _=>false) b) (λ k v t _ ih b=>ML.rec (motive:=λ _=>Bool) false (λ k' v' t' r' _=>dD (V.eqs true k k') (dD (V.eqs true v v') (dD (Nat.beq t t') (ih r')))) b) a
def HB.eqv (a b:HB):Bool:=
 HB.rec (motive:=λ _=>Bool) (HB.rec (motive:=λ _=>Bool) true false (λ _ _ _=>false) (λ _ _=>false) (λ _ _ _ _ _=>false) (λ _ _ _ _ _ _=>false) false b) (HB.rec (motive:=λ _=>Bool) false true (λ _ _ _=>false) (λ _ _=>false) (λ _ _ _ _ _=>false) (λ _ _ _ _ _ _=>false) false b)
  (λ n es t=>HB.rec (motive:=λ _=>Bool) false false (λ n' mK t'=>dD (Nat.beq n n') (dD (Nat.beq es mK) (TV.eqv t t'))) (λ _ _=>false) (λ _ _ _ _ _=>false) (λ _ _ _ _ _ _=>false) false b)
  (λ c l=>HB.rec (motive:=λ _=>Bool) false false (λ _ _ _=>false) (λ c' l'=>dD (Nat.beq c c') (ML.eqv l l')) (λ _ _ _ _ _=>false) (λ _ _ _ _ _ _=>false) false b)
  (λ m c st b' k=>HB.rec (motive:=λ _=>Bool) false false (λ _ _ _=>false) (λ _ _=>false) (λ m' c' st' b'' k'=>dD (Nat.beq m m') (dD (Nat.beq c c') (dD (Nat.beq st st') (dD (Nat.beq b' b'') (Nat.beq k k'))))) (λ _ _ _ _ _ _=>false) false b) (λ _ _ _ _ _ _=>false)
  (HB.rec (motive:=λ _=>Bool) false false (λ _ _ _=>false) (λ _ _=>false) (λ _ _ _ _ _=>false) (λ _ _ _ _ _ _=>false) true b) a
def TH.eqv (t:Tr HB):Tr HB->Bool:=
 Tr.rec (motive:=λ _=>Tr HB->Bool) (λ u=>Tr.rec (motive:=λ _=>Bool) true (λ _ _ _ _ _=>false) u) (λ _ v _ hl hr u=>Tr.rec (motive:=λ _=>Bool) false (λ l' v' r' _ _=>dD (HB.eqv v v') (dD (hl l') (hr r'))) u) t
def IN {α:Type} (f:α->α->Bool) (a b:N8 α):Bool:=
 N8.rec (motive:=λ _=>Bool) (λ x0 x1 x2 x3 x4 x5 x6 x7=>N8.rec (motive:=λ _=>Bool) (λ y0 y1 y2 y3 y4 y5 y6 y7=>dD (f x0 y0) (dD (f x1 y1) (dD (f x2 y2) (dD (f x3 y3) (dD (f x4 y4) (dD (f x5 y5) (dD (f x6 y6) (f x7 y7)))))))) b) a
def acq (k:IntKind):Nat:=IntKind.rec (motive:=λ _=>Nat) 127 32767 2147483647 9223372036854775807 255 65535 4294967295 18446744073709551615 k
def we (k:IntKind) (n:Nat):Int:=Bool.rec (motive:=λ _=>Int) (k.wrap (Int.ofNat n)) (Int.ofNat n) (Nat.ble n (acq k))
def acr (k:IntKind) (a b:Int):Int:=
 Int.rec (motive:=λ _=>Int) (λ x=>Int.rec (motive:=λ _=>Int) (λ y=>we k (Nat.add x y)) (λ y=>Bool.rec (motive:=λ _=>Int) (k.wrap (Int.ofNat x+Int.negSucc y)) (we k (Nat.sub x (Nat.succ y))) (Nat.ble (Nat.succ y) x)) b) (λ x=>k.wrap (Int.negSucc x+b)) a
def acs (k:IntKind) (a b:Int):Int:=
 Int.rec (motive:=λ _=>Int) (λ x=>Int.rec (motive:=λ _=>Int) (λ y=>Bool.rec (motive:=λ _=>Int) (k.wrap (Int.ofNat x - Int.ofNat y)) (we k (Nat.sub x y)) (Nat.ble y x)) (λ y=>k.wrap (Int.ofNat x - Int.negSucc y)) b) (λ x=>k.wrap (Int.negSucc x - b)) a
def WD (a b:Int):Bool:=
 Int.rec (motive:=λ _=>Bool) (λ x=>Int.rec (motive:=λ _=>Bool) (λ y=>Nat.blt x y) (λ _=>false) b) (λ x=>Int.rec (motive:=λ _=>Bool) (λ _=>true) (λ y=>Nat.blt y x) b) a
def BJ (n l n' l':Nat):Bool:=Bool.rec (motive:=λ _=>Bool) false (Nat.beq (Nat.mod n (Nat.pow 2 (Nat.mul 8 l))) (Nat.mod n' (Nat.pow 2 (Nat.mul 8 l)))) (Nat.beq l l')
abbrev OK:=V->OR
def kB (k:OK) (b:Bool):OR:=Bool.rec (motive:=λ _=>OK->OR) (λ k=>k (.b false)) (λ k=>k (.b true)) b k
def kI (k:OK) (t:IntKind) (n:Int):OR:=Int.rec (motive:=λ _=>OK->IntKind->OR) (λ x k t=>k (.i t (.ofNat x))) (λ x k t=>k (.i t (.negSucc x))) n k t
def kS (k:OK) (n l:Nat):OR:=Bool.rec (motive:=λ _=>OR) (k (.s n l)) (k (.s n l)) (Nat.ble n 0)
def WE (op:BinOp) (k:IntKind) (a b:Int) (d:OR) (c:OK):OR:=
 BinOp.rec (motive:=λ _=>IntKind->Int->Int->OR->OK->OR) (λ k a b _ c=>kI c k (acr k a b)) (λ k a b _ c=>kI c k (acs k a b)) (λ _ _ _ d _=>d) (λ _ _ _ d _=>d) (λ _ _ _ d _=>d) (λ _ _ _ d _=>d) (λ _ _ _ d _=>d) (λ _ _ _ d _=>d) (λ _ _ _ d _=>d) (λ _ _ _ d _=>d) (λ _ _ _ d _=>d)
  (λ _ a b _ c=>kB c (Ri a b)) (λ _ a b _ c=>kB c (xn (Ri a b))) (λ _ a b _ c=>kB c (WD a b)) (λ _ a b _ c=>kB c (xn (WD b a))) (λ _ a b _ c=>kB c (WD b a)) (λ _ a b _ c=>kB c (xn (WD a b))) op k a b d c
def WG (op:BinOp) (n l n' l':Nat) (d:OR) (c:OK):OR:=
 BinOp.rec (motive:=λ _=>Nat->Nat->Nat->Nat->OR->OK->OR) (λ n l n' l' d c=>dY (Nat.ble (Nat.add l l') 1073741824) (kS c (Nat.add (Nat.mod n (Nat.pow 2 (Nat.mul 8 l))) (Nat.shiftLeft n' (Nat.mul 8 l))) (Nat.add l l')) d)
  (λ _ _ _ _ d _=>d) (λ _ _ _ _ d _=>d) (λ _ _ _ _ d _=>d) (λ _ _ _ _ d _=>d) (λ _ _ _ _ d _=>d) (λ _ _ _ _ d _=>d) (λ _ _ _ _ d _=>d) (λ _ _ _ _ d _=>d) (λ _ _ _ _ d _=>d) (λ _ _ _ _ d _=>d)
  (λ n l n' l' _ c=>kB c (BJ n l n' l')) (λ n l n' l' _ c=>kB c (xn (BJ n l n' l'))) (λ _ _ _ _ d _=>d) (λ _ _ _ _ d _=>d) (λ _ _ _ _ d _=>d) (λ _ _ _ _ d _=>d) op n l n' l' d c
def LH (op:BinOp) (b:Bool) (d:OR) (c:OK):OR:=
 BinOp.rec (motive:=λ _=>Bool->OR->OK->OR) (λ _ d _=>d) (λ _ d _=>d) (λ _ d _=>d) (λ _ d _=>d) (λ _ d _=>d) (λ _ d _=>d) (λ _ d _=>d) (λ _ d _=>d) (λ _ d _=>d) (λ _ d _=>d) (λ _ d _=>d)
  (λ b _ c=>kB c b) (λ b _ c=>kB c (xn b)) (λ _ d _=>d) (λ _ d _=>d) (λ _ d _=>d) (λ _ d _=>d) op b d c
def D9 (k:Nat) (x y:V) (d:OR) (c:Bool->OR):OR:=
 Nat.rec (motive:=λ _=>V->V->OR->(Bool->OR)->OR) (λ x y d c=>x.Jo d λ k a=>y.Jo d λ k' a'=>dY (dD (Nat.beq (kn k) 3) (Nat.beq (kn k') 3)) (c (Ri a a')) d)
  (λ k _ x y d c=>Nat.rec (motive:=λ _=>V->V->OR->(Bool->OR)->OR) (λ x y d c=>x.NM d λ a=>y.NM d λ a'=>c (NP a a'))
   (λ k _ x y d c=>Nat.rec (motive:=λ _=>V->V->OR->(Bool->OR)->OR) (λ x y d c=>x.D4 d λ n l=>y.D4 d λ n' l'=>c (BJ n l n' l')) (λ _ _ _ _ d _=>d) k x y d c) k x y d c) k x y d c
def oF (l:List Nat):V->V->OR->(Bool->OR)->OR:=
 List.rec (motive:=λ _=>V->V->OR->(Bool->OR)->OR) (λ x y d c=>x.Pr d (y.Pr d (c true) (λ _ _=>d)) (λ _ _=>d))
  (λ k _ ih x y d c=>x.onC d λ h r=>y.onC d λ h' r'=>D9 k h h' d λ b=>ih r r' d λ b'=>c (dD b b')) l
def Jq (v:V) (d:OR) (c:Bool->OR):OR:=V.rec (motive:=λ _=>OR->(Bool->OR)->OR) (λ _ d _=>d) (λ _ _ d _=>d) (λ _ _ d _=>d) (λ _ c=>c true) (λ _ _ _ c=>c false) (λ d _=>d) (λ _ _ _ _ d _=>d) (λ _ _ _ _ d _=>d) (λ d _=>d) (λ d _=>d) (λ _ d _=>d) (λ d _=>d) (λ _ _ _ d _=>d) (λ _ d _=>d) (λ _ _ d _=>d) (λ _ _ d _=>d) (λ d _=>d) (λ _ _ _ _ d _=>d) v d c
def Jr (v:V) (d:OR) (c:Bool->OR):OR:=V.rec (motive:=λ _=>OR->(Bool->OR)->OR) (λ _ d _=>d) (λ _ _ d _=>d) (λ _ _ d _=>d) (λ d _=>d) (λ _ _ d _=>d) (λ _ c=>c true) (λ _ _ _ _ _ c=>c false) (λ _ _ _ _ _ c=>c false) (λ _ c=>c false) (λ d _=>d) (λ _ d _=>d) (λ d _=>d) (λ _ _ _ d _=>d) (λ _ d _=>d) (λ _ _ d _=>d) (λ _ _ d _=>d) (λ d _=>d) (λ _ _ _ _ d _=>d) v d c
def Js (v:V) (d:OR) (c:Bool->OR):OR:=V.rec (motive:=λ _=>OR->(Bool->OR)->OR) (λ _ d _=>d) (λ _ _ d _=>d) (λ _ _ d _=>d) (λ d _=>d) (λ _ _ d _=>d) (λ d _=>d) (λ _ _ _ _ d _=>d) (λ _ _ _ _ d _=>d) (λ d _=>d) (λ _ c=>c true) (λ _ _ c=>c false) (λ d _=>d) (λ _ _ _ d _=>d) (λ _ d _=>d) (λ _ _ d _=>d) (λ _ _ d _=>d) (λ d _=>d) (λ _ _ _ _ d _=>d) v d c
def Jt (v:V) (d:OR) (c:Bool->OR):OR:=V.rec (motive:=λ _=>OR->(Bool->OR)->OR) (λ _ d _=>d) (λ _ _ d _=>d) (λ _ _ d _=>d) (λ d _=>d) (λ _ _ d _=>d) (λ d _=>d) (λ _ _ _ _ d _=>d) (λ _ _ _ _ d _=>d) (λ d _=>d) (λ d _=>d) (λ _ d _=>d) (λ _ c=>c true) (λ _ _ _ _ c=>c false) (λ _ _ c=>c false) (λ _ _ d _=>d) (λ _ _ d _=>d) (λ d _=>d) (λ _ _ _ _ d _=>d) v d c
def toV (v:V):Option Value:=(BI v).1
def okO (o:Option V) (d:OR) (k:OK):OR:=Option.rec (motive:=λ _=>OR) d (λ v=>k v) o
def Rj (P:Program) (g:Value->Value->Sem Value) (x y:V) (k:OK):OR:=
 Option.rec (motive:=λ _=>OR) .no (λ a=>Option.rec (motive:=λ _=>OR) .no (λ b=>Option.rec (motive:=λ _=>OR) .no (λ r=>okO (pH r) .no k) (pr P (g a b))) (toV y)) (toV x)
def acu (P:Program) (g:Value->Sem Value) (x:V) (k:OK):OR:=
 Option.rec (motive:=λ _=>OR) .no (λ a=>Option.rec (motive:=λ _=>OR) .no (λ r=>okO (pH r) .no k) (pr P (g a))) (toV x)
def Rk (P:Program) (g:List Value->Sem Value) (l:V) (k:OK):OR:=
 Option.rec (motive:=λ _=>OR) .no (λ a=>Option.rec (motive:=λ _=>OR) .no (λ r=>okO (pH r) .no k) (pr P (g a))) (BI l).2
def Cp (isNil:V->OR->(Bool->OR)->OR) (op:BinOp) (x y:V) (d:OR) (c:OK):OR:=isNil x d λ a=>isNil y d λ b=>dY a (LH op b d c) (dY b (LH op a d c) d)
def xo (op:BinOp) (kd:Kd) (x y:V) (d:OR) (c:OK):OR:=
 Kd.rec (motive:=λ _=>BinOp->V->V->OR->OK->OR) (λ _ _ _ d _=>d) (λ op x y d c=>x.NM d λ a=>y.NM d λ b=>LH op (NP a b) d c) (Cp Jq) (Cp Jr) (Cp Js) (Cp Jt)
  (λ l op x y d c=>x.Ra d λ a=>y.Ra d λ b=>oF l a b d λ r=>LH op r d c) kd op x y d c
def acv (op:BinOp) (kd:Kd) (x y:V) (d:OR) (c:OK):OR:=
 V.rec (motive:=λ _=>BinOp->Kd->V->V->OR->OK->OR) (λ _ op kd x y d c=>xo op kd x y d c) (λ x0 x1 op _ _ y d c=>y.Jo d λ k' b=>dY (Nat.beq (kn x0) (kn k')) (WE op x0 x1 b d c) d) (λ x0 x1 op _ _ y d c=>y.D4 d λ n' l'=>WG op x0 x1 n' l' d c) (λ op kd x y d c=>xo op kd x y d c) (λ _ _ op kd x y d c=>xo op kd x y d c) (λ op kd x y d c=>xo op kd x y d c) (λ _ _ _ _ op kd x y d c=>xo op kd x y d c) (λ _ _ _ _ op kd x y d c=>xo op kd x y d c) (λ op kd x y d c=>xo op kd x y d c) (λ op kd x y d c=>xo op kd x y d c) (λ _ op kd x y d c=>xo op kd x y d c) (λ op kd x y d c=>xo op kd x y d c) (λ _ _ _ op kd x y d c=>xo op kd x y d c) (λ _ _ _ _ _ d _=>d) (λ _ _ op kd x y d c=>xo op kd x y d c) (λ _ _ _ _ _ _ d _=>d) (λ _ _ _ _ d _=>d) (λ _ _ _ _ _ _ _ _ d _=>d) x op kd x y d c
def ahx (P:Program) (op:BinOp) (g:Value->Value->Sem Value) (kd:Kd) (x y:V) (k:OK):OR:=acv op kd x y (Rj P g x y k) k
def V.cells (v:V) (d:OR) (k:OK):OR:=V.rec (motive:=λ _=>V->OR->OK->OR) (λ _ v _ k=>k (.c v .e)) (λ _ _ v _ k=>k (.c v .e)) (λ _ _ v _ k=>k (.c v .e)) (λ v _ k=>k (.c v .e)) (λ _ _ v _ k=>k (.c v .e)) (λ v _ k=>k (.c v .e)) (λ _ _ _ _ v _ k=>k (.c v .e)) (λ _ _ _ _ v _ k=>k (.c v .e)) (λ v _ k=>k (.c v .e)) (λ v _ k=>k (.c v .e)) (λ _ v _ k=>k (.c v .e)) (λ v _ k=>k (.c v .e)) (λ _ _ _ v _ k=>k (.c v .e)) (λ _ v _ k=>k (.c v .e)) (λ x0 _ _ _ k=>k x0) (λ _ _ _ d _=>d) (λ _ d _=>d) (λ _ _ _ _ _ d _=>d) v v d k
def qE (v:V):Nat:=V.rec (motive:=λ _=>Nat) (λ _=>0) (λ _ _=>0) (λ _ _=>0) (0) (λ _ _=>0) (0) (λ _ _ _ _=>0) (λ _ _ _ _=>0) (0) (0) (λ _=>0) (0) (λ _ _ _=>0) (λ _=>0) (λ _ _=>0) (λ _ _=>0) (0) (λ _ _ _ Dr=>Nat.succ Dr) v
def rd (t:Tr V) (n:Nat):Nat->V:=Nat.rec (motive:=λ _=>Tr V->Nat->V) (λ _ _=>.e) (λ _ ih t o=>.c (qD t o) (ih t (Nat.succ o))) n t
def tr (l:V) (o:Nat) (t:Tr V):Tr V:=V.rec (motive:=λ _=>Nat->Tr V->Tr V) (λ _ _ t=>t) (λ _ _ _ t=>t) (λ _ _ _ t=>t) (λ _ t=>t) (λ _ _ _ t=>t) (λ _ t=>t) (λ _ _ _ _ _ t=>t) (λ _ _ _ _ _ t=>t) (λ _ t=>t) (λ _ t=>t) (λ _ _ t=>t) (λ _ t=>t) (λ _ _ _ _ t=>t) (λ _ _ t=>t) (λ _ _ _ t=>t) (λ _ _ _ t=>t) (λ _ t=>t) (λ x0 _ _ Dr o t=>Dr (Nat.succ o) (Wt t x0 o)) l o t
def xp (l r:V):V:=V.rec (motive:=λ _=>V->V) (λ _ r=>r) (λ _ _ r=>r) (λ _ _ r=>r) (λ r=>r) (λ _ _ r=>r) (λ r=>r) (λ _ _ _ _ r=>r) (λ _ _ _ _ r=>r) (λ r=>r) (λ r=>r) (λ _ r=>r) (λ r=>r) (λ _ _ _ r=>r) (λ _ r=>r) (λ _ _ r=>r) (λ _ _ r=>r) (λ r=>r) (λ x0 _ _ Dr r=>.c x0 (Dr r)) l r
def LI (l:V) (n:Nat):V:=Nat.rec (motive:=λ _=>V->V) (λ l=>l) (λ _ ih l=>l.Wy .e λ _ r=>ih r) n l
def Ah (l:V) (n:Nat):V:=Nat.rec (motive:=λ _=>V->V) (λ _=>.e) (λ _ ih l=>l.Wy .e λ h r=>.c h (ih r)) n l
def Ju (l:V) (n:Nat) (k:OK):OR:=Nat.rec (motive:=λ _=>V->OK->OR) (λ l k=>l.onC .no λ h _=>k h) (λ _ ih l k=>l.onC .no λ _ r=>ih r k) n l k
def alloc (hb:HB) (h:Hp) (n:Nat) (k:Hp->OR):OR:=HB.onZ (dH h n) .no (k (eL h hb n))
def ur (h:Hp) (b:Nat) (k:Nat->Nat->Tr V->OR):OR:=HB.onC (dH h b) .no k
def LJ (e:En) (ps:PL) (n:Nat) (t:Tr V) (k:Tr V->OR):OR:=
 PL.rec (motive:=λ _=>En->Nat->Tr V->(Tr V->OR)->OR) (λ _ _ t k=>k t)
  (λ o m x _ ih e n t k=>(ek e x).cells .no λ l=>dY (dD (Nat.beq (qE l) m) (Nat.ble (Nat.add o m) n)) (ih e n (tr l o t) k) .no) ps e n t k
def WH (n:Int) (k:Nat->OR):OR:=Int.rec (motive:=λ _=>(Nat->OR)->OR) (λ x k=>k x) (λ _ _=>.no) n k
def Ea (v:V) (k:Nat->OR):OR:=v.Jo .no λ _ n=>WH n k
def Ai (v:V) (x:Nat) (k:Nat->OR):OR:=v.NN .no (k x) λ _ n=>WH n k
def yk (s:Bool) (x y:V) (k:Bool->OR):OR:=
 Bool.rec (motive:=λ _=>V->V->(Bool->OR)->OR) (λ x y k=>x.Jo .no λ t a=>y.Jo .no λ t' b=>dY (Nat.beq (kn t) (kn t')) (k (Ri a b)) .no) (λ x y k=>x.D4 .no λ n l=>y.D4 .no λ n' l'=>k (BJ n l n' l')) s x y k
def Gl (s:Bool) (key:V) (l:ML) (k0:OR) (k1:OK):OR:=
 ML.rec (motive:=λ _=>Bool->V->OR->OK->OR) (λ _ _ k0 _=>k0) (λ k v _ _ ih s key k0 k1=>yk s key k λ b=>dY b (k1 v) (ih s key k0 k1)) l s key k0 k1
def acw (s:Bool) (key x:V) (c:Nat) (l:ML) (k1:Nat->ML->OR):OR:=
 ML.rec (motive:=λ _=>Bool->V->V->Nat->(Nat->ML->OR)->OR) (λ _ key x c k1=>k1 (Nat.succ c) (.cons key x c .nil))
  (λ k v b r ih s key x c k1=>yk s key k λ t=>dY t (k1 c (.cons key x b r)) (ih s key x c λ c l=>k1 c (.cons k v b l))) l s key x c k1
def acx (s:Bool) (key:V) (l:ML) (k1:ML->OR):OR:=
 ML.rec (motive:=λ _=>Bool->V->(ML->OR)->OR) (λ _ _ k1=>k1 .nil) (λ k v b r ih s key k1=>yk s key k λ t=>dY t (k1 r) (ih s key λ l=>k1 (.cons k v b l))) l s key k1
def NQ (l:ML):Nat:=ML.rec (motive:=λ _=>Nat) 0 (λ _ _ _ _ ih=>Nat.succ ih) l
abbrev xq:=V->V->Hp->Nat->OR
section
variable (e:En) (h:Hp) (n:Nat)
def WI (x:Oq):OR:=(ek e x).UZ .no λ b o=>ur h b λ m _ t=>dY (Nat.blt o m) ((qD t o).fc λ v=>.ok v h n) .no
def LK (k:Nat) (x:Oq):OR:=(ek e x).UZ .no λ b o=>ur h b λ m _ t=>dY (Nat.ble (Nat.add o k) m) (.ok (.a (rd t k o)) h n) .no
def ahy (k:Nat) (a x:Oq):OR:=(ek e a).UZ .no λ b o=>ur h b λ m es t=>(ek e x).cells .no λ l=>
 dY (dD (Nat.beq (qE l) k) (Nat.ble (Nat.add o k) m)) (.ok Ge (eL h (.c m es (tr l o t)) b) n) .no
def LL (z:V):OR:=alloc (.c (qE z) 0 (tr z 0 .lf)) h n λ h'=>.ok (.p n 0) h' (Nat.succ n)
def aag (x:Oq):OR:=(ek e x).cells .no λ l=>LL h n l
def Eb (z:V) (ps:PL):OR:=LJ e ps (qE z) (tr z 0 .lf) λ t=>.ok (.a (rd t (qE z) 0)) h n
def aah (es k:Nat) (z:V) (ps:PL):OR:=LJ e ps (qE z) (tr z 0 .lf) λ t=>alloc (.c (qE z) es t) h n λ h'=>.ok (.sx n 0 k k) h' (Nat.succ n)
def Gm (x:Oq):OR:=(ek e x).Wv .no (λ b o=>.ok (.p b o) h n) λ g c=>.ok (.f g c) h n
def Rl (c a b:Oq):OR:=(ek e c).NM .no λ t=>dY t ((ek e a).fc λ v=>.ok v h n) ((ek e b).fc λ v=>.ok v h n)
def aai (x:Oq):OR:=(ek e x).NM .no λ t=>.ok (.b (xn t)) h n
def ahz (off:Nat) (x:Oq):OR:=(ek e x).UZ .no λ b o=>.ok (.p b (Nat.add o off)) h n
def ahA (es:Nat) (x i:Oq):OR:=Ea (ek e i) λ j=>
 (ek e x).pI .no .no (λ b o l _=>dY (Nat.blt j l) (.ok (.p b (Nat.add o (Nat.mul j es))) h n) .no) (λ b o l _=>dY (Nat.blt j l) (.ok (.p b (Nat.add o (Nat.mul j es))) h n) .no) .no
def aaj (k es:Nat) (x i:Oq):OR:=Ea (ek e i) λ j=>(ek e x).UZ .no λ b o=>dY (Nat.blt j k) (.ok (.p b (Nat.add o (Nat.mul j es))) h n) .no
def aak (off:Nat) (x:Oq):OR:=(ek e x).Ra .no λ l=>Ju l off λ v=>.ok v h n
def Rm (off k:Nat) (x:Oq):OR:=(ek e x).Ra .no λ l=>.ok (.a (Ah (LI l off) k)) h n
def aal (x i:Oq):OR:=Ea (ek e i) λ j=>(ek e x).D4 .no λ k l=>dY (Nat.blt j l) (.ok (.i .u8 (Int.ofNat (Nat.mod (Nat.shiftRight k (Nat.mul 8 j)) 256))) h n) .no
def Ro (k es:Nat) (x i:Oq):OR:=Ea (ek e i) λ j=>(ek e x).Ra .no λ l=>dY (Nat.blt j k) (Ju l (Nat.mul j es) λ v=>v.fc λ v=>.ok v h n) .no
def Rp (k es:Nat) (x i:Oq):OR:=Ea (ek e i) λ j=>(ek e x).Ra .no λ l=>dY (Nat.blt j k) (.ok (.a (Ah (LI l (Nat.mul j es)) es)) h n) .no
def acy (b o es c j k m:Nat):OR:=dY (dD (Nat.ble j k) (dD (Nat.ble k m) (Nat.ble m c)))
 (dY (Nat.beq m j) (.ok (.sx b o (Nat.sub k j) 0) h n) (.ok (.sx b (Nat.add o (Nat.mul j es)) (Nat.sub k j) (Nat.sub m j)) h n)) .no
def anR (b o d es c j k:Nat):OR:=dY (dD (Nat.ble j k) (Nat.ble (Nat.add o (Nat.mul k es)) c))
 (dY (Nat.beq j 0) (.ok (.sl b o k d) h n) (dY (Nat.blt (Nat.add o (Nat.mul j es)) c) (.ok (.sl b (Nat.add o (Nat.mul j es)) (Nat.sub k j) (Nat.add d j)) h n) (.ok .se h n))) .no
def aam (es:Nat) (x lo hi mx:Oq):OR:=(ek e x).pI .no
 (Ai (ek e mx) 0 λ m=>Ai (ek e hi) 0 λ k=>Ai (ek e lo) 0 λ j=>dY (Nat.beq (Nat.add (Nat.add j k) m) 0) (.ok .ns h n) .no)
 (λ b o l d=>ur h b λ c mK _=>dY (Nat.beq es mK) (Ai (ek e hi) l λ k=>Ai (ek e lo) 0 λ j=>
  (ek e mx).NN .no (anR h n b o d es c j k) λ _ m=>WH m λ m=>dY (Nat.ble (Nat.add o (Nat.mul m es)) c) (acy h n b o es m j k m) .no) .no)
 (λ b o l c=>Ai (ek e hi) l λ k=>Ai (ek e lo) 0 λ j=>Ai (ek e mx) c λ m=>acy h n b o es c j k m)
 .no
def aan (x lo hi:Oq):OR:=(ek e x).D4 .no λ c l=>Ai (ek e hi) l λ k=>Ai (ek e lo) 0 λ j=>dY (dD (Nat.ble j k) (Nat.ble k l)) (.ok (.s (Nat.shiftRight c (Nat.mul 8 j)) (Nat.sub k j)) h n) .no
def goN (k:Nat):V:=.i .i64 (Int.ofNat k)
def Gn (kd:Kd) (x:Oq):OR:=Kd.rec (motive:=λ _=>V->Hp->Nat->OR) (λ x h n=>x.D4 .no λ _ l=>.ok (goN l) h n) (λ _ _ _=>.no) (λ _ _ _=>.no)
 (λ x h n=>x.pI .no (.ok (goN 0) h n) (λ _ _ l _=>.ok (goN l) h n) (λ _ _ l _=>.ok (goN l) h n) (.ok (goN 0) h n))
 (λ x h n=>x.IM .no λ r=>HB.IM (dH h r) .no λ _ l=>.ok (goN (NQ l)) h n) (λ x h n=>x.pI .no (.ok (goN 0) h n) (λ _ _ _ _=>.no) (λ _ _ _ c=>.ok (goN c) h n) .no) (λ _ _ _ _=>.no) kd (ek e x) h n
def aao (i:Nat) (x:Oq):OR:=(ek e x).U1 .no λ l=>Ju l i λ v=>v.fc λ v=>.ok v h n
def Aj (k l:Nat) (j:Nat):V:=Nat.rec (motive:=λ _=>Nat->Nat->V) (λ _ _=>.e) (λ _ ih k j=>.c (.i .u8 (Int.ofNat (Nat.mod (Nat.shiftRight k (Nat.mul 8 j)) 256))) (ih k (Nat.succ j))) l k j
def Jv (b o l es:Nat) (k:V->Nat->OR):OR:=ur h b λ m _ t=>dY (Nat.ble (Nat.add o (Nat.mul l es)) m) (k (rd t (Nat.mul l es) o) l) .no
def src (es:Nat) (y:V) (k:V->Nat->OR):OR:=y.pI (y.D4 .no λ c l=>dY (Nat.beq es 1) (k (Aj c l 0) l) .no) (k .e 0)
 (λ b o l _=>Jv h b o l es k) (λ b o l _=>Jv h b o l es k) (k .e 0)
def Cq (es k:Nat) (t:Tr V) (h:Hp):OR:=alloc (.c (Nat.mul k es) es t) h n λ h'=>.ok (.sl n 0 k 0) h' (Nat.succ n)
def aap (x:Oq):OR:=(ek e x).D4 .no λ c l=>dY (Nat.ble l 1073741824) (Cq n 1 l (tr (Aj c l 0) 0 .lf) h) .no
def aaq (es:Nat) (x y:Oq):OR:=src h es (ek e y) λ new k=>dY (Nat.beq k 0) ((ek e x).pI .no (.ok .ns h n) (λ b o l d=>.ok (.sl b o l d) h n) (λ b o l c=>.ok (.sx b o l c) h n) .no)
 ((ek e x).pI .no
  (dY (Nat.ble k 1073741824) (Cq n es k (tr new 0 .lf) h) .no)
  (λ b o l d=>ur h b λ m mK t=>dY (dD (Nat.beq es mK) (Nat.ble (Nat.add l k) 1073741824))
   (dY (Nat.ble (Nat.add o (Nat.mul (Nat.add l k) es)) m) (.ok (.sl b o (Nat.add l k) d) (eL h (.c m es (tr new (Nat.add o (Nat.mul l es)) t)) b) n)
    (dY (Nat.ble (Nat.add o (Nat.mul l es)) m)
     (Cq n es (Nat.add l k) (tr new (Nat.mul l es) (Bool.rec (motive:=λ _=>Tr V) (tr (rd t (Nat.mul l es) o) 0 .lf) t (Nat.beq o 0))) (eL h .x b)) .no)) .no)
  (λ b o l c=>ur h b λ m mK t=>dY (Nat.ble (Nat.add l k) 1073741824)
   (dY (Nat.ble (Nat.add l k) c)
    (dY (Nat.ble (Nat.add o (Nat.mul (Nat.add l k) es)) m) (.ok (.sx b o (Nat.add l k) c) (eL h (.c m mK (tr new (Nat.add o (Nat.mul l es)) t)) b) n) .no)
    (dY (Nat.ble (Nat.add o (Nat.mul l es)) m) (Cq n es (Nat.add l k) (tr new (Nat.mul l es) (tr (rd t (Nat.mul l es) o) 0 .lf)) h) .no)) .no)
  .no)
def aar (g:Nat) (l:OL):OR:=.ok (.f g (UY e l)) h n
def aas:OR:=alloc (.m 0 .nil) h n λ h'=>.ok (.m n) h' (Nat.succ n)
def yM (z:V) (k:Nat):V:=Nat.rec (motive:=λ _=>V->V) (λ _=>.e) (λ _ ih z=>xp z (ih z)) k z
def aat (es:Nat) (z:V) (l c:Oq):OR:=Ea (ek e l) λ j=>Ea (ek e c) λ k=>dY (dD (Nat.beq (qE z) es) (dD (Nat.ble j k) (Nat.ble k 1073741824)))
 (alloc (.c (Nat.mul k es) es (tr (yM z k) 0 .lf)) h n λ h'=>.ok (.sx n 0 j k) h' (Nat.succ n)) .no
def aau (es:Nat) (z:V) (x k:Oq):OR:=(ek e x).pI .no (Ea (ek e k) λ j=>dY (dD (Nat.beq (qE z) es) (dD (Nat.ble 1 j) (Nat.ble j 1073741824))) (Cq n es j (tr (yM z j) 0 .lf) h) .no) (λ _ _ _ _=>.no) (λ _ _ _ _=>.no) .no
def LM (ok:Bool) (b:Bool) (v:V):OR:=dY ok (.ok (.t (.c v (.c (.b b) .e))) h n) (v.fc λ v=>.ok v h n)
def Rq (s:Bool) (z:V) (ok:Bool) (m k:Oq):OR:=(ek e m).IM .no λ r=>HB.IM (dH h r) .no λ _ l=>Gl s (ek e k) l (LM h n ok false z) (LM h n ok true)
def HB.NR (r:HB) (k:Nat->ML->OR):OR:=HB.IM r .no λ c l=>dY (Nat.blt c 4294967296) (k c l) .no
def aav (s:Bool) (m k x:Oq):OR:=(ek e m).IM .no λ r=>HB.NR (dH h r) λ c l=>(ek e x).fc λ v=>acw s (ek e k) v c l λ c l=>dY (Nat.blt c 4294967296) (.ok Ge (eL h (.m c l) r) n) .no
def aaw (s:Bool) (m k:Oq):OR:=(ek e m).IM .no λ r=>HB.NR (dH h r) λ c l=>acx s (ek e k) l λ l=>.ok Ge (eL h (.m c l) r) n
def aax (m:Oq):OR:=(ek e m).IM .no λ r=>HB.NR (dH h r) λ c _=>alloc (.it r c 0 0 c) h n λ h'=>.ok (.p n 0) h' (Nat.succ n)
def Rr:V:=.t (.c (.b false) .e)
def WJ (l:ML) (k0:OR) (k1:V->V->Nat->OR):OR:=ML.rec (motive:=λ _=>OR) k0 (λ k v b r _=>ML.rec (motive:=λ _=>OR) (k1 k v b) (λ _ _ _ _ _=>.no) r) l
def aay (i:Oq):OR:=(ek e i).UZ .no λ r o=>dY (Nat.beq o 0) (HB.U1 (dH h r) .no λ m c st b k=>HB.NR (dH h m) λ c' l=>WJ l (.ok Rr h n) λ x v b'=>
 Nat.rec (motive:=λ _=>OR) (dY (Nat.blt b' c) (.ok (.t (.c (.b true) (.c x (.c v .e)))) (eL h (.it m c 1 b' c') r) n) .no) (λ _ _=>dY (dD (Nat.beq b b') (Nat.blt b' k)) (.ok Rr h n) .no) st) .no
def aaz (i:Oq):OR:=(ek e i).UZ .no λ r o=>dY (Nat.beq o 0) (HB.U1 (dH h r) .no λ m _ st b k=>HB.NR (dH h m) λ c' l=>WJ l .no λ x v b'=>
 dY (dD (Nat.beq st 1) (dD (Nat.beq c' k) (Nat.beq b b'))) (.ok (.t (.c x (.c v .e))) h n) .no) .no
def Ak (a b:Nat):Nat:=Bool.rec (motive:=λ _=>Nat) b a (Nat.ble a b)
def Al (b o l:Nat) (new:V) (v:V):OR:=ur h b λ m es t=>dY (Nat.ble (Nat.add o l) m) (.ok v (eL h (.c m es (tr new o t)) b) n) .no
def ahB (es:Nat) (y:V) (k:V->Nat->OR):OR:=y.pI .no (k .e 0) (λ b o l _=>Jv h b o l es k) (λ b o l _=>Jv h b o l es k) (k .e 0)
def aaA (es:Nat) (x y:Oq):OR:=ahB h es (ek e y) λ new k=>(ek e x).pI .no (.ok (goN 0) h n)
 (λ b o l _=>Al h n b o (Nat.mul (Ak k l) es) (Ah new (Nat.mul (Ak k l) es)) (goN (Ak k l)))
 (λ b o l _=>Al h n b o (Nat.mul (Ak k l) es) (Ah new (Nat.mul (Ak k l) es)) (goN (Ak k l)))
 (.ok (goN 0) h n)
def aaB (es:Nat) (z:V) (x:Oq):OR:=dY (Nat.beq (qE z) es) ((ek e x).pI .no (.ok Ge h n)
 (λ b o l _=>Al h n b o (Nat.mul l es) (yM z l) Ge) (λ b o l _=>Al h n b o (Nat.mul l es) (yM z l) Ge) (.ok Ge h n)) .no
end
def BK (q:NK) (P:Program) (eZ:xq):En->Hp->Nat->OR:=
 NK.rec (motive:=λ _=>Program->xq->En->Hp->Nat->OR) (λ _ _ _ _ _=>.no) (λ x _ _ e h n=>(ek e x).fc λ v=>.ok v h n) (λ c a b _ _ e h n=>Rl e h n c a b) (λ z _ _ _ h n=>LL h n z) (λ x _ _ e h n=>aag e h n x)
  (λ z ps _ _ e h n=>Eb e h n z ps) (λ es k z ps _ _ e h n=>aah e h n es k z ps) (λ x _ _ e h n=>WI e h n x) (λ k x _ _ e h n=>LK e h n k x) (λ k a x _ _ e h n=>ahy e h n k a x) (λ x _ _ e h n=>Gm e h n x)
  (λ op g kd x y P _ e h n=>ahx P op g kd (ek e x) (ek e y) λ v=>.ok v h n) (λ x _ _ e h n=>aai e h n x) (λ f x P _ e h n=>acu P f (ek e x) λ v=>.ok v h n) (λ f l P _ e h n=>Rk P f (UY e l) λ v=>.ok v h n)
  (λ off x _ _ e h n=>ahz e h n off x) (λ es x i _ _ e h n=>ahA e h n es x i) (λ k es x i _ _ e h n=>aaj e h n k es x i) (λ off x _ _ e h n=>aak e h n off x) (λ off k x _ _ e h n=>Rm e h n off k x)
  (λ x i _ _ e h n=>aal e h n x i) (λ k es x i _ _ e h n=>Ro e h n k es x i) (λ k es x i _ _ e h n=>Rp e h n k es x i) (λ x _ _ e h n=>aap e h n x) (λ es x lo hi mx _ _ e h n=>aam e h n es x lo hi mx) (λ x lo hi _ _ e h n=>aan e h n x lo hi) (λ kd x _ _ e h n=>Gn e h n kd x) (λ i x _ _ e h n=>aao e h n i x)
  (λ g l _ eZ e h n=>eZ (.f g .e) (UY e l) h n) (λ f l _ eZ e h n=>eZ (ek e f) (UY e l) h n) (λ es x y _ _ e h n=>aaq e h n es x y) (λ g l _ _ e h n=>aar e h n g l) (λ _ _ _ h n=>aas h n)
  (λ es z l c _ _ e h n=>aat e h n es z l c) (λ s z ok m k _ _ e h n=>Rq e h n s z ok m k) (λ s m k x _ _ e h n=>aav e h n s m k x) (λ es x y _ _ e h n=>aaA e h n es x y) (λ es z x _ _ e h n=>aaB e h n es z x) (λ s m k _ _ e h n=>aaw e h n s m k) (λ m _ _ e h n=>aax e h n m) (λ i _ _ e h n=>aay e h n i) (λ i _ _ e h n=>aaz e h n i) (λ es z x k _ _ e h n=>aau e h n es z x k) q P eZ
def pd (d:Ds) (v:V) (e:En):En:=Ds.rec (motive:=λ _=>V->En->En) (λ _ e=>e) (λ k v e=>k.put v e) d v e
def evG (g:GS) (e:En) (y s:RR):RR:=GS.rec (motive:=λ _=>En->RR->RR->RR) (λ _ y _=>y) (λ k b e y s=>(k.get e).Ww s λ x=>Bool.rec (motive:=λ _=>RR) s y (NP x b)) g e y s
def Cr (x:OR) (k:V->Hp->Nat->RR):RR:=OR.rec (motive:=λ _=>(V->Hp->Nat->RR)->RR) (λ _=>.no) (λ v h n k=>k v h n) x k
def keeps (ks:KL) (P:Program) (eZ:xq) (e:En) (h:Hp) (n:Nat) (k:RR):RR:=
 KL.rec (motive:=λ _=>Program->xq->En->Hp->Nat->RR->RR) (λ _ _ _ _ _ k=>k) (λ g q d _ ih P eZ e h n k=>evG g e (Cr (BK q P eZ e h n) λ v _ _=>Bool.rec (motive:=λ _=>RR) .no (ih P eZ e h n k) (V.eqs false v (d.get e))) (ih P eZ e h n k)) ks P eZ e h n k
def both (a b:RR):RR:=RR.rec (motive:=λ _=>RR) .no .no
 (λ e h n=>RR.rec (motive:=λ _=>RR) .no a (λ e' h' n'=>Bool.rec (motive:=λ _=>RR) .no a (dD (Nat.beq n n') (dD (IN (IN (IN (V.eqs true))) e e') (TH.eqv h h')))) b) a
def Gp (P:Program) (eZ:xq) (ix:Nat) (g:GS) (q:NK) (d:Ds) (ks:KL) (k:En->Hp->Nat->RR) (B:Nat) (e:En) (h:Hp) (n:Nat):RR:=
 evG g e
  (Cr (BK q P eZ e h (Nat.rec (motive:=λ _=>Nat) n (λ i _=>Nat.add B (Nat.mul i 512)) ix)) λ v h' n'=>keeps ks P eZ (pd d v e) h' n' (k (pd d v e) h' (Nat.rec (motive:=λ _=>Nat) n' (λ _ _=>n) ix)))
  (k (pd d Ge e) h n)
def Rs (r:RL):Program->xq->Nat->En->Hp->Nat->RR:=
 RL.rec (motive:=λ _=>Program->xq->Nat->En->Hp->Nat->RR) (λ _ _ _ e h n=>.ok e h n) (λ _ _ _ _ _ _=>.any)
  (λ x d _ ih P eZ B e h n=>(ek e x).fcR λ v=>ih P eZ B (pd d v e) h n)
  (λ q d _ ih P eZ B e h n=>Cr (BK q P eZ e h n) λ v h' n'=>ih P eZ B (pd d v e) h' n')
  (λ ix g q d ks _ ih P eZ B e h n=>Gp P eZ ix g q d ks (ih P eZ B) B e h n)
  (λ ix g q d ks _ _ ih iho P eZ B e h n=>both (Gp P eZ ix g q d ks (ih P eZ B) B e h n) (iho P eZ B e h n)) r
def ic (ps:PS):V->En->En:=PS.rec (motive:=λ _=>V->En->En) (λ _ e=>e) (λ p _ ih l e=>l.anN e λ x r=>ih r (p.put x e)) ps
def Am (l:PS):Nat:=PS.rec (motive:=λ _=>Nat) 0 (λ _ _ ih=>Nat.succ ih) l
def jump (j:JS) (e:En) (h:Hp) (n:Nat) (ds:NL):Ex:=JS.rec (motive:=λ _=>Ex) (.nx e h n ds) (.rt e h n ds) (λ id=>.ex id e h n ds) j
def WK (eZ:xq) (g:Oq) (ps:PS) (a b:CC) (e:En) (h:Hp) (n:Nat) (ds:NL):Ex:=
 (ek e g).acn .no λ gf c=>HB.WC (dH h n) .no (HB.WC (dH (eL h .df n) (Nat.succ n)) .no
  (OR.rec (motive:=λ _=>Ex) .no (λ _ h' n'=>HB.acp (dH h' (Nat.succ n)) .no λ st j _ _ _ _=>Bool.rec (motive:=λ _=>Ex) (jump j e (eL h' .x (Nat.succ n)) n' (.cons n ds)) .no (Nat.beq st 1))
   (eZ (.f gf c) (.c (.y (Nat.succ n)) .e) (eL (eL h .df n) (.lp 0 .no ps e a b) (Nat.succ n)) (Nat.succ (Nat.succ n)))))
def Gq (x:Ex) (k:En->Hp->Nat->NL->Ex):Ex:=
 Ex.rec (motive:=λ _=>(En->Hp->Nat->NL->Ex)->Ex) (λ _=>.no) (λ e h n ds k=>k e h n ds) (λ e h n ds _=>.rt e h n ds) (λ id e h n ds _=>.ex id e h n ds) x k
def Rt (id:Nat) (x:Ex):Ex:=
 Ex.rec (motive:=λ _=>Nat->Ex) (λ _=>.no) (λ e h n ds _=>.nx e h n ds) (λ e h n ds _=>.rt e h n ds) (λ k e h n ds id=>Bool.rec (motive:=λ _=>Ex) (.ex k e h n ds) (.nx e h n ds) (Nat.beq k id)) x id
def LN (f:Nat) (k:En->Hp->Nat->NL->Ex):En->Hp->Nat->NL->Ex:=
 Nat.rec (motive:=λ _=>(En->Hp->Nat->NL->Ex)->En->Hp->Nat->NL->Ex) (λ _ _ _ _ _=>.no) (λ _ go k e h n ds=>Gq (k e h n ds) (go k)) f k
def Ru (m:Nat) (x:RR) (ds:NL):Ex:=
 RR.rec (motive:=λ _=>Nat->NL->Ex) (λ _ _=>.no) (λ _ _=>.no) (λ e h n m ds=>.nx e h (Nat.add n (Nat.mul m 512)) ds) x m ds
def tu (c:CC):Program->xq->En->Hp->Nat->NL->Ex:=
 CC.rec (motive:=λ _=>Program->xq->En->Hp->Nat->NL->Ex) (λ _ _ _ _ _ _=>.no) (λ _ _ e h n ds=>.nx e h n ds) (λ _ _ e h n ds=>.rt e h n ds) (λ id _ _ e h n ds=>.ex id e h n ds)
  (λ m r P eZ e h n ds=>Ru m (Rs r P eZ n e h n) ds)
  (λ _ _ sm sn P eZ e h n ds=>Gq (sm P eZ e h n ds) (sn P eZ))
  (λ c _ _ sm sn P eZ e h n ds=>(ek e c).Wx .no λ t=>Bool.rec (motive:=λ _=>Ex) (sn P eZ e h n ds) (sm P eZ e h n ds) t)
  (λ id _ ih P eZ e h n ds=>Rt id (ih P eZ e h n ds))
  (λ _ ih P eZ e h n ds=>LN 1000000 (ih P eZ) e h n ds)
  (λ g ps a b _ _ _ eZ e h n ds=>WK eZ g ps a b e h n ds) c
inductive RS where
 | nil
 | tmp (t:Sl) (r:RS)
 | cell (q:NK) (r:RS)
def LO (x:OR) (k:V->Hp->Nat->OR):OR:=OR.rec (motive:=λ _=>(V->Hp->Nat->OR)->OR) (λ _=>.no) (λ v h n k=>k v h n) x k
def Gr (r:RS) (P:Program) (e:En) (h:Hp) (k:OK):OR:=
 RS.rec (motive:=λ _=>Program->En->Hp->OK->OR) (λ _ _ _ k=>k .e) (λ t _ ih P e h k=>(t.get e).fc λ v=>ih P e h λ l=>k (.c v l))
  (λ q _ ih P e h k=>LO (BK q P (λ _ _ _ _=>.no) e h 0) λ v _ _=>ih P e h λ l=>k (.c v l)) r P e h k
def Rv (l:V):V:=l.Wy (.t l) λ x r=>r.Wy x λ _ _=>.t l
def kill (ds:NL) (h:Hp) (k:Hp->OR):OR:=
 NL.rec (motive:=λ _=>Hp->(Hp->OR)->OR) (λ h k=>k h) (λ d _ ih h k=>HB.onD (dH h d) .no (ih (eL h .x d) k)) ds h k
inductive FSx where
 | no
 | mk (c:CC) (r:RS) (ps:PS)
def leave (P:Program) (r:RS) (x:Ex):OR:=
 Ex.rec (motive:=λ _=>Program->RS->OR) (λ _ _=>.no) (λ e h n ds P r=>kill ds h λ h=>Gr r P e h λ l=>.ok (Rv l) h n) (λ e h n ds P r=>kill ds h λ h=>Gr r P e h λ l=>.ok (Rv l) h n) (λ _ _ _ _ _ _ _=>.no) x P r
def enter (P:Program) (eZ:xq) (f:FSx) (args:V) (h:Hp) (n:Nat):OR:=
 FSx.rec (motive:=λ _=>Program->xq->V->Hp->Nat->OR) (λ _ _ _ _ _=>.no) (λ c r ps P eZ args h n=>dY (Nat.ble (qE args) (Am ps)) (leave P r (tu c P eZ (ic ps args LG) h n .nil)) .no) f P eZ args h n
def LP (l:Nat) (ps:PS) (e:En) (a b:CC) (x:Ex):OR:=
 Ex.rec (motive:=λ _=>OR) .no (λ _ h n _=>.ok (.b true) (eL h (.lp 0 .no ps e a b) l) n) (λ _ h n _=>.ok (.b false) (eL h (.lp 2 .rt ps e a b) l) n) (λ id _ h n _=>.ok (.b false) (eL h (.lp 2 (.ex id) ps e a b) l) n) x
def Gs (x:Ex) (l:Nat) (k:PS->En->CC->CC->Ex->OR):OR:=
 Ex.rec (motive:=λ _=>OR) .no (λ e h n ds=>HB.Pr (dH h l) .no λ st _ ps e2 a b=>dY (Nat.beq st 1) (k ps e2 a b (.nx e h n ds)) .no) (λ e h n ds=>HB.Pr (dH h l) .no λ st _ ps e2 a b=>dY (Nat.beq st 1) (k ps e2 a b (.rt e h n ds)) .no)
  (λ id e h n ds=>HB.Pr (dH h l) .no λ st _ ps e2 a b=>dY (Nat.beq st 1) (k ps e2 a b (.ex id e h n ds)) .no) x
def acz (P:Program) (eZ:xq) (l:Nat) (c:CC) (e1:En) (h1:Hp) (n1:Nat) (ds:NL):OR:=
 HB.Pr (dH h1 l) .no λ st j ps e a b=>dY (Nat.beq st 0) (Gs (tu c P eZ e1 (eL h1 (.lp 1 j ps e a b) l) n1 ds) l (LP l)) .no
def round (P:Program) (eZ:xq) (l:Nat) (args:V) (h:Hp) (n:Nat):OR:=
 HB.Pr (dH h l) .no λ st _ ps e a b=>dY (dD (Nat.beq st 0) (Nat.beq (qE args) (Am ps)))
  (Ex.rec (motive:=λ _=>OR) .no (λ e1 h1 n1 ds=>acz P eZ l b e1 h1 n1 ds) (λ _ _ _ _=>.no) (λ _ _ _ _ _=>.no) (tu a P eZ (ic ps args e) h n .nil)) .no
def U3 (P:Program) (fs:Nat->FSx) (f:Nat):xq:=
 Nat.rec (motive:=λ _=>Program->(Nat->FSx)->xq) (λ _ _ _ _ _ _=>.no)
  (λ _ ih P fs c args h n=>c.Jp .no (λ g sq=>enter P (ih P fs) (fs g) (xp args sq) h n) (λ l=>round P (ih P fs) l args h n)) f P fs
def oq:Operand->Option Oq
 | .tmp t=>(v9 t).map .t
 | .const v=>(pH v).map .k
 | .func f=>some (.k (.f f .e))
 | .global _=>none
def q1 (x:Operand) (k:Oq->NK):NK:=match oq x with | some x=>k x | none=>.bad
def U4:Option Operand->Option Oq
 | none=>some (.k .e)
 | some x=>oq x
def olq:List Operand->Option OL
 | []=>some .nil
 | x::r=>match oq x,olq r with | some x,some r=>some (.cons x r) | _,_=>none
def NS (P:Program) (op:BinOp) (t:TypeId):Kd:=
 match P.underlying t with
 | some .bool=>.bool
 | some (.pointer _)=>.ptr
 | some (.slice _)=>.slice
 | some (.map _ _)=>.map
 | some (.func _ _ _)=>.func
 | some (.struct _)=>match oQ P t with | some l=>.rows l | none=>.no
 | _=>.no
def nT (P:Program) (t:TypeId):Nat:=((P.info? t).map (·.size)).getD 0
def zeroV (P:Program) (t:TypeId):Option V:=
 match cH P t with
 | some (some (.agg c))=>(qC c.toList).map .a
 | some (some v)=>pH v
 | _=>none
def m5 (P:Program) (t:TypeId):Option V:=
 match cH P t with
 | some (some v)=>qC v.cells.toList
 | _=>none
def An (P:Program) (t:TypeId):List (Nat × Operand)->Option PL
 | []=>some .nil
 | (i,x)::r=>match P.underlying t with
  | some (.struct fs)=>match fs[i]?,oq x,An P t r with
   | some f,some x,some r=>some (.cons f.offset (nT P f.type) x r)
   | _,_,_=>none
  | _=>none
def uS (es:Nat):List (Nat × Operand)->Option PL
 | []=>some .nil
 | (i,x)::r=>match oq x,uS es r with | some x,some r=>some (.cons (Nat.mul i es) es x r) | _,_=>none
def anS (z:V):Nat->V
 | 0=>.e
 | n+1=>xp z (anS z n)
def acA (s:String):Option (Array Value->Sem Value):=
 bif s == "internal/bytealg.CountString" then some Extern.BytealgCount.count else
 bif s == "internal/bytealg.IndexByteString" then some Extern.BytealgIndexByte.indexByte else
 bif s == "internal/bytealg.IndexString" then some Extern.BytealgIndex.index else none
def Rw (P:Program) (f:Nat):Option (Array Value->Sem Value):=
 match P.funcs[f]? with
 | none=>none
 | some fn => bif fn.body.isNone && fn.origin == "" then acA fn.name else none
def oU (P:Program) (o:Oper):NK:=
 match o.op with
 | .move x=>q1 x .mv
 | .assign x=>q1 x .mv
 | .pick c a b=>q1 c λ c=>q1 a λ a=>q1 b λ b=>.pick c a b
 | .alloc t=>match m5 P t with | some z=>.new z | none=>.bad
 | .box _ x=>q1 x .box
 | .build t ps=>match P.underlying t,m5 P t,An P t ps.toList with
  | some (.struct fs),some z,some l=>bif fs.toList.all (λ f=>(P.info? f.type).isSome) then .build z l else .bad
  | some (.array _ E),some z,_=>match uS (nT P E) ps.toList with | some l=>bif (P.info? E).isSome then .build z l else .bad | none=>.bad
  | _,_,_=>.bad
 | .buildSlice t n ps=>match cT P t with
  | some (E,es,_,some k)=>match m5 P E,uS es ps.toList with
   | some z,some l=>bif Nat.beq k es && (Nat.ble 1 es && Nat.ble (Nat.mul n es) 16777216) then .bsl es n (yM z n) l else .bad
   | _,_=>.bad
  | _=>.bad
 | .load t a=>match bT P t with
  | some (false,1)=>q1 a .ld
  | some (true,n)=>q1 a (.lda n)
  | _=>.bad
 | .store t a x=>q1 a λ a=>q1 x λ x=>match bT P t with | some (_,n)=>.st n a x | none=>.bad
 | .nilCheck x=>q1 x .anI
 | .binOp op t x y _=>q1 x λ a=>q1 y λ b=>.bin op (fL op t (ID x) (ID y)) (NS P op t) a b
 | .unOp op _ x=>q1 x λ a=>match op with | .not=>.not a | op=>.gen (Op.unary op) a
 | .convert s d x=>q1 x λ a=>bif Nat.beq (BV P s d) 0 then .gen (convert s d) a else match P.underlying s,P.underlying d with
  | some .string,some (.slice E)=>match P.underlying E,cT P d with | some (.int .u8),some (_,1,_,some 1)=>.toB a | _,_=>.bad
  | _,_=>.bad
 | .makeFunc fn first cap=>match fn,first.toList,olq cap.toList with
  | .func g,[],some l=>.mkf g l
  | _,_,_=>.bad
 | .makeMap t none=>.mkm
 | .makeSlice t l c=>q1 l λ l=>q1 c λ c=>match cT P t with
  | some (E,es,by',some k)=>match m5 P E with | some z=>bif Nat.beq k es && (Nat.ble 1 es && Nat.ble by' 8192) then .mks es z l c else .bad | none=>.bad
  | _=>.bad
 | .slice t x lo yW mx=>q1 x λ x=>match U4 lo,U4 yW,U4 mx with
  | some lo,some hi,some mx'=>match P.underlying t with
   | some .string=>match mx with | none=>.anM x lo hi | some _=>.bad
   | some (.slice E)=>bif Nat.ble 1 (nT P E) && (mx.isNone || yW.isSome) then .slc (nT P E) x lo hi mx' else .bad
   | _=>.bad
  | _,_,_=>.bad
 | .fieldAddr s x f=>q1 x λ x=>match aQ P s f with | some (off,some true)=>.fa off x | _=>.bad
 | .field t x f=>q1 x λ x=>match P.underlying t with
  | some (.struct fs)=>match fs[f]? with
   | some fd=>match bT P fd.type with
    | some (false,_)=>.fld fd.offset x
    | some (true,n)=>.anJ fd.offset n x
    | none=>.bad
   | none=>.bad
  | _=>.bad
 | .indexAddr t x i=>q1 x λ x=>q1 i λ i=>match P.underlying t with
  | some (.slice E)=>bif Nat.ble 1 (nT P E) then .ia (nT P E) x i else .bad
  | some (.array n E)=>bif Nat.ble 1 (nT P E) then .iaa n (nT P E) x i else .bad
  | _=>.bad
 | .index t x i=>q1 x λ x=>q1 i λ i=>match P.underlying t with
  | some .string=>.idx x i
  | some (.array k E)=>match bT P E with
   | some (false,es)=>.anK k es x i
   | some (true,es)=>.anL k es x i
   | none=>.bad
  | _=>.bad
 | .lookup t x i ok=>q1 x λ x=>q1 i λ i=>match P.underlying t with
  | some (.map k e)=>match zeroV P e,P.underlying k with
   | some z,some (.int _)=>.look false z ok x i
   | some z,some .string=>.look true z ok x i
   | _,_=>.bad
  | _=>.bad
 | .mapUpdate t m k x=>q1 m λ m=>q1 k λ k=>q1 x λ x=>match P.underlying t with
  | some (.map kt _)=>match P.underlying kt with
   | some (.int _)=>.mup false m k x
   | some .string=>.mup true m k x
   | _=>.bad
  | _=>.bad
 | .insert t m k x=>q1 m λ m=>q1 k λ k=>q1 x λ x=>match P.underlying t with
  | some (.map kt _)=>match P.underlying kt with
   | some (.int _)=>.mup false m k x
   | some .string=>.mup true m k x
   | _=>.bad
  | _=>.bad
 | .range t x=>q1 x λ x=>match P.underlying t with | some (.map _ _)=>.rng x | _=>.bad
 | .next x s=>q1 x λ x=>bif s then .bad else .IL x
 | .entry x=>q1 x .ent
 | .extract t i=>q1 t (.ext i)
 | .call c=>match c.callee with
  | .value (.func f)=>match olq c.args.toList with
   | some l=>match Rw P f with | some e=>.acm (λ vs=>e vs.toArray) l | none=>.call f l
   | none=>.bad
  | .value x=>q1 x λ x=>match olq c.args.toList with | some l=>.BU x l | none=>.bad
  | .invoke _ _=>.bad
  | .builtin b=>match b,c.argTypes.toList,c.args.toList with
   | .len,[t],[x]=>q1 x λ x=>match P.underlying t with
    | some .string=>.len .no x
    | some (.slice _)=>match cT P t with | some _=>.len .slice x | none=>.bad
    | some (.map _ _)=>.len .map x
    | _=>.bad
   | .cap,[t],[x]=>q1 x λ x=>match cT P t with | some _=>.len .func x | none=>.bad
   | .min,_,xs=>match olq xs with | some l=>.acm (λ vs=>Builtin.min_ c.argTypes o.type vs.toArray) l | none=>.bad
   | .max,_,xs=>match olq xs with | some l=>.acm (λ vs=>Builtin.max_ c.argTypes o.type vs.toArray) l | none=>.bad
   | .append,[t,u],[x,y]=>q1 x λ a=>q1 y λ b=>match cT P t with
    | some (E,es,by',some k)=>bif Nat.beq k es && (Nat.ble 1 es && Nat.ble by' 8192) then (match P.underlying u with | some (.slice _)=>.app es a b | some .string=>.app es a b | some (.int _)=>(match m5 P E with | some z=>.apz es z a b | none=>.bad) | _=>.bad) else .bad
    | _=>.bad
   | .copy,[t,_],[x,y]=>q1 x λ a=>q1 y λ b=>match cT P t with
    | some (_,es,_,some k)=>bif Nat.ble 1 es then .cpy es a b else .bad
    | _=>.bad
   | .delete,[t,_],[x,y]=>q1 x λ a=>q1 y λ b=>match P.underlying t with
    | some (.map kt _)=>match P.underlying kt with
     | some (.int _)=>.del false a b
     | some .string=>.del true a b
     | _=>.bad
    | _=>.bad
   | .clear,[t],[x]=>q1 x λ a=>match cT P t with
    | some (E,es,_,some k)=>match m5 P E with | some z=>bif Nat.ble 1 es then .clr es z a else .bad | none=>.bad
    | _=>.bad
   | _,_,_=>.bad
 | _=>.bad
def yl (ops:List Oper) (o:Oper):Option GS:=
 match o.guard with
 | none=>some .a
 | some (j,b)=>match rH ops j with | some s=>(v9 s).map λ s=>.w s b | none=>none
def Jw (o:Oper):Option Ds:=match o.dst with | none=>some .n | some d=>(v9 d).map .s
def uu (P:Program) (ops:List Oper):List Oper->RL
 | []=>.nil
 | o::r=>match yl ops o,Jw o with
  | some .a,some d=>match oU P o with | .mv x=>.mv x d (uu P ops r) | q=>.q q d (uu P ops r)
  | some g,some d=>.op 0 g (oU P o) d .nil (uu P ops r)
  | _,_=>.q .bad .n .nil
def Cs (P:Program) (ops:List Oper):List Nat->Option KL
 | []=>some .nil
 | i::r=>match yl ops (jo ops i),Cs P ops r,(jo ops i).dst.bind v9,zF P (jo ops i) with
  | some g,some r,some d,true=>some (.cons g (oU P (jo ops i)) d r)
  | _,_,_,_=>none
def pJ (P:Program) (ops:List Oper) (al:Bool):PT->RL
 | .nil=>.nil
 | .stop=>.stop
 | .op i ks r=>match yl ops (jo ops i),Jw (jo ops i),Cs P ops ks with
  | some g,some d,some ks=>.op (bif al then Nat.succ i else 0) g (oU P (jo ops i)) d ks (pJ P ops al r)
  | _,_,_=>.q .bad .n .nil
 | .alt i ks r o=>match yl ops (jo ops i),Jw (jo ops i),Cs P ops ks with
  | some g,some d,some ks=>.alt (bif al then Nat.succ i else 0) g (oU P (jo ops i)) d ks (pJ P ops al r) (pJ P ops al o)
  | _,_,_=>.q .bad .n .nil
def Ao:List Nat->Option PS
 | []=>some .nil
 | x::r=>match v9 x,Ao r with | some s,some r=>some (.cons s r) | _,_=>none
def ny (k:Nat):Nat->PS
 | 0=>.nil
 | n+1=>match v9 k with | some s=>.cons s (ny (Nat.succ k) n) | none=>.nil
def oV (n:Nat):PT->PT
 | .nil=>.run 0 n
 | p=>p
def eX (P:Program) (n:Nat) (pl:eh):Code->CC
 | .skip=>.skip
 | .ret=>.ret
 | .exit id=>.exit id
 | .region _ ops false=>.eB 0 (uu P ops.toList ops.toList)
 | .region id ops true=>bif (oV ops.toList.length (pl id)).many then .eB (Nat.succ ops.toList.length) (pJ P ops.toList true (oV ops.toList.length (pl id))) else .eB 0 (pJ P ops.toList false (oV ops.toList.length (pl id)))
 | .seq a b=>.seq (eX P n pl a) (eX P n pl b)
 | .cond c a b=>match oq c with | some c=>.cond c (eX P n pl a) (eX P n pl b) | none=>.bad
 | .block id c=>.block id (eX P n pl c)
 | .loop c=>.loop (eX P n pl c)
 | .scope c=>eX P n pl c
 | .label _=>.skip
 | .rangeFunc g ps a b=>match oq g,Ao ps.toList with
  | some g,some l=>.rf g l (eX P n pl a) (eX P n pl b)
  | _,_=>.bad
 | _=>.bad
def Bu (P:Program) (n:Nat) (pl:eh):Code->Bool
 | .region _ ops false=>ops.toList.all (po n)
 | .region id ops true=>ops.toList.all (po n) && (ya ops.toList (ud ops.toList) && IF P ops.toList (ud ops.toList) false ops.toList.length 0 (oV ops.toList.length (pl id)))
 | .seq a b=>Bu P n pl a && Bu P n pl b
 | .cond _ a b=>Bu P n pl a && Bu P n pl b
 | .block _ c=>Bu P n pl c
 | .loop c=>Bu P n pl c
 | .scope c=>!dy c && Bu P n pl c
 | .rangeFunc _ ps a b=>(ps.toList.all (λ p=>Nat.blt p n) && (!dy a && !dy b)) && (Bu P n pl a && Bu P n pl b)
 | _=>true
def qF (P:Program):List ResultVar->Option RS
 | []=>some .nil
 | .tmp t::r=>match v9 t,qF P r with | some t,some r=>some (.tmp t r) | _,_=>none
 | .cell a t::r=>match bT P t,v9 a with
  | some (false,1),some a=>(qF P r).map (.cell (.ld (.t a)))
  | some (true,n),some a=>(qF P r).map (.cell (.lda n (.t a)))
  | _,_=>none
def il (P:Program) (nU:Nat->Nat->PT) (g:Nat):FSx:=
 match P.funcs[g]? with
 | none=>.no
 | some fn=>match fn.body,qF P fn.results.toList with
  | some c,some r=>.mk (eX P fn.ntmps (nU g) c) r (ny 0 fn.ntmps)
  | _,_=>.no
def okF (P:Program) (nU:Nat->Nat->PT) (g:Nat):Bool:=
 match P.funcs[g]? with
 | none=>false
 | some fn=>match fn.body with
  | some c => !(fn.name == "runtime.NumGoroutine") && (Nat.ble fn.ntmps 512 && Bu P fn.ntmps (nU g) c)
  | none=>false
def im (l:List Nat) (fs:Nat->FSx) (g:Nat):FSx:=bif fb g l then fs g else .no
end
structure Pl where
 k:Nat
 b:Nat
 c:Nat
 s:Nat
abbrev Rn:=Nat->Option Pl
def Le (ρ ρ':Rn):Prop:=∀ b q,ρ b=some q->ρ' b=some q
theorem Le.refl (ρ:Rn):Le ρ ρ:=λ _ _ h=>h
theorem Le.trans {a b c:Rn} (h:Le a b) (k:Le b c):Le a c:=λ _ _ x=>k _ _ (h _ _ x)
def RP (ρ:Rn):V->(Value->Prop) × (List Value->Prop)
 | .b x=>(λ y=>y = .bool x,λ _=>False)
 | .i k n=>(λ y=>y = .int k n,λ _=>False)
 | .s n l=>(λ y=>y = .string (strOf n l),λ _=>False)
 | .np=>(λ y=>y = .pointer none,λ _=>False)
 | .p b o=>(λ y=>∃ q,ρ b=some q/\y = .pointer (some ⟨q.k,q.b+o,none⟩),λ _=>False)
 | .ns=>(λ y=>y = .slice none 0 0,λ _=>False)
 | .sl b o l d=>(λ y=>∃ q,ρ b=some q/\(o=d * q.s/\l+d<=q.c)/\y = .slice (some ⟨q.k,q.b+o,none⟩) l (q.c - d),λ _=>False)
 | .sx b o l c=>(λ y=>∃ q,ρ b=some q/\l<=c/\y = .slice (some ⟨q.k,q.b+o,none⟩) l c,λ _=>False)
 | .se=>(λ y=>∃ a c,y = .slice (some a) 0 c,λ _=>False)
 | .nm=>(λ y=>y = .map none,λ _=>False)
 | .m r=>(λ y=>∃ q,ρ r=some q/\y = .map (some q.k),λ _=>False)
 | .nf=>(λ y=>y = .nilFunc,λ _=>False)
 | .f g c=>(λ y=>∃ ys,(RP ρ c).2 ys/\y = .func (.func g) #[] ys.toArray,λ _=>False)
 | .y l=>(λ y=>∃ q,ρ l=some q/\y = .func (.yield q.k) #[] #[],λ _=>False)
 | .a c=>(λ y=>∃ ys,(RP ρ c).2 ys/\(∀ z∈ys,fe z=true)/\y = .agg ys.toArray,λ _=>False)
 | .t c=>(λ y=>∃ ys,(RP ρ c).2 ys/\y = .tuple ys.toArray,λ _=>False)
 | .e=>(λ _=>False,λ ys=>ys=[])
 | .c h r=>(λ _=>False,λ ys=>∃ z zs,ys=z::zs/\(RP ρ h).1 z/\(RP ρ r).2 zs)
abbrev RV (ρ:Rn) (v:V) (y:Value):Prop:=(RP ρ v).1 y
abbrev iB (ρ:Rn) (v:V) (ys:List Value):Prop:=(RP ρ v).2 ys
theorem RP.mono {ρ ρ':Rn} (h:Le ρ ρ'):∀ v,(∀ y,RV ρ v y->RV ρ' v y)/\∀ ys,iB ρ v ys->iB ρ' v ys:=by
 intro v
 induction v with
 | p b o=>exact ⟨λ y ⟨q,h1,h2⟩=>⟨q,h _ _ h1,h2⟩,λ _ h=>h.elim⟩
 | sl b o l d=>exact ⟨λ y ⟨q,h1,h2⟩=>⟨q,h _ _ h1,h2⟩,λ _ h=>h.elim⟩
 | sx b o l d=>exact ⟨λ y ⟨q,h1,h2⟩=>⟨q,h _ _ h1,h2⟩,λ _ h=>h.elim⟩
 | m r=>exact ⟨λ y ⟨q,h1,h2⟩=>⟨q,h _ _ h1,h2⟩,λ _ h=>h.elim⟩
 | y r=>exact ⟨λ y ⟨q,h1,h2⟩=>⟨q,h _ _ h1,h2⟩,λ _ h=>h.elim⟩
 | f g c ih=>exact ⟨λ y ⟨ys,h1,h2⟩=>⟨ys,ih.2 _ h1,h2⟩,λ _ h=>h.elim⟩
 | a c ih=>exact ⟨λ y ⟨ys,h1,h2⟩=>⟨ys,ih.2 _ h1,h2⟩,λ _ h=>h.elim⟩
 | t c ih=>exact ⟨λ y ⟨ys,h1,h2⟩=>⟨ys,ih.2 _ h1,h2⟩,λ _ h=>h.elim⟩
 | c x r Dr yb=>exact ⟨λ _ h=>h.elim,λ ys ⟨z,zs,h1,h2,h3⟩=>⟨z,zs,h1,Dr.1 _ h2,yb.2 _ h3⟩⟩
 | _=>exact ⟨λ _ h=>h,λ _ h=>h⟩
theorem RV.mono {ρ ρ':Rn} {v:V} {y:Value} (h:RV ρ v y) (k:Le ρ ρ'):RV ρ' v y:=(RP.mono k v).1 y h
theorem iB.mono {ρ ρ':Rn} {v:V} {y:List Value} (h:iB ρ v y) (k:Le ρ ρ'):iB ρ' v y:=(RP.mono k v).2 y h
theorem Ap {a b:IntKind} (h:Nat.beq (kn a) (kn b)=true):a=b:=by cases a <;> cases b <;> first | rfl | cases h
theorem Aq {a b:Bool}:NP a b=(a == b):=by cases a <;> cases b <;> rfl
theorem qG {a:Bool}:xn a = !a:=by cases a <;> rfl
theorem WL {a b:Bool}:dD a b=(a && b):=by cases a <;> rfl
theorem zi (x y:Nat):Nat.beq x y=decide (x=y):=by
 cases h:Nat.beq x y
 ·rw [decide_eq_false λ hh=>by rw [hh,jc] at h; cases h]
 rw [decide_eq_true (Nat.eq_of_beq_eq_true h)]
theorem zj (x y:Nat):Nat.blt x y=decide (x<y):=by
 cases h:Nat.blt x y
 ·refine (decide_eq_false λ hh=>?_).symm
  have:Nat.blt x y=true:=by rw [Nat.blt_eq]; exact hh
  rw [h] at this; cases this
 refine (decide_eq_true ?_).symm
 rw [Nat.blt_eq] at h; exact h
theorem tz (a b:Int):Ri a b=decide (a=b):=by
 cases a with
 | ofNat x=>cases b with
  | ofNat y=>show Nat.beq x y=_; rw [zi]; exact decide_eq_decide.2 ⟨λ h=>by rw [h],λ h=>by cases h; rfl⟩
  | negSucc y=>show false=_; rw [decide_eq_false (λ h=>by cases h)]
 | negSucc x=>cases b with
  | ofNat y=>show false=_; rw [decide_eq_false (λ h=>by cases h)]
  | negSucc y=>show Nat.beq x y=_; rw [zi]; exact decide_eq_decide.2 ⟨λ h=>by rw [h],λ h=>by cases h; rfl⟩
theorem zn (a b:Int):WD a b=decide (a<b):=by
 cases a with
 | ofNat x=>cases b with
  | ofNat y=>show Nat.blt x y=_; rw [zj]; exact decide_eq_decide.2 ⟨λ h=>by show (x:Int)<y; omega,λ h=>by have:(x:Int)<y:=h; omega⟩
  | negSucc y=>show false=_; rw [decide_eq_false (λ h=>by have:(x:Int)<Int.negSucc y:=h; omega)]
 | negSucc x=>cases b with
  | ofNat y=>show true=_; rw [decide_eq_true (by show Int.negSucc x<(y:Int); omega)]
  | negSucc y=>show Nat.blt y x=_; rw [zj]; exact decide_eq_decide.2 ⟨λ h=>by omega,λ h=>by omega⟩
theorem mB {s:Bool}:∀ v v':V,V.eqs s v v'=true->v=v'/\(s=false->∀ ρ,(∀ y y',RV ρ v y->RV ρ v y'->y=y')/\∀ ys ys',iB ρ v ys->iB ρ v ys'->ys=ys'):=by
 intro v
 have As:∀ {a b:Bool},dD a b=true->a=true/\b=true:=fun {a b} h=>by cases a <;> cases b <;> first | exact ⟨rfl,rfl⟩ | cases h
 have nb:∀ {a b:Nat},Nat.beq a b=true->a=b:=λ h=>Nat.eq_of_beq_eq_true h
 have det:∀ {ρ:Rn} {b:Nat} {q q':Pl},ρ b=some q->ρ b=some q'->q=q':=λ h h'=>Option.some.inj (h.symm.trans h')
 induction v with
 | b x=>
  intro v' h; cases v' <;> first | cases h | skip
  rename_i y; have:x=y:=by have h:NP x y=true:=h; rw [Aq] at h; exact beq_iff_eq.1 h
  subst this; exact ⟨rfl,λ hs ρ=>⟨λ _ _ h h'=>Eq.trans h (Eq.symm h'),λ _ _ h=>h.elim⟩⟩
 | i k n=>
  intro v' h; cases v' <;> first | cases h | skip
  rename_i k' n'; obtain ⟨h1,h2⟩:=As h; have:=Ap h1; subst this; rw [tz] at h2; have:=of_decide_eq_true h2; subst this
  exact ⟨rfl,λ hs ρ=>⟨λ _ _ h h'=>Eq.trans h (Eq.symm h'),λ _ _ h=>h.elim⟩⟩
 | s n l=>
  intro v' h; cases v' <;> first | cases h | skip
  obtain ⟨h1,h2⟩:=As h; have:=nb h1; subst this; have:=nb h2; subst this
  exact ⟨rfl,λ hs ρ=>⟨λ _ _ h h'=>Eq.trans h (Eq.symm h'),λ _ _ h=>h.elim⟩⟩
 | p b o=>
  intro v' h; cases v' <;> first | cases h | skip
  obtain ⟨h1,h2⟩:=As h; have:=nb h1; subst this; have:=nb h2; subst this
  exact ⟨rfl,λ hs ρ=>⟨λ _ _ ⟨q,a,b⟩ ⟨q',a',b'⟩=>by rw [b,b',det a a'],λ _ _ h=>h.elim⟩⟩
 | sl b o l d=>
  intro v' h; cases v' <;> first | cases h | skip
  obtain ⟨h1,h2⟩:=As h; obtain ⟨h2,h3⟩:=As h2; obtain ⟨h3,h4⟩:=As h3
  have:=nb h1; subst this; have:=nb h2; subst this; have:=nb h3; subst this; have:=nb h4; subst this
  exact ⟨rfl,λ hs ρ=>⟨λ _ _ ⟨q,a,_,b⟩ ⟨q',a',_,b'⟩=>by rw [b,b',det a a'],λ _ _ h=>h.elim⟩⟩
 | sx b o l d=>
  intro v' h; cases v' <;> first | cases h | skip
  obtain ⟨h1,h2⟩:=As h; obtain ⟨h2,h3⟩:=As h2; obtain ⟨h3,h4⟩:=As h3
  have:=nb h1; subst this; have:=nb h2; subst this; have:=nb h3; subst this; have:=nb h4; subst this
  exact ⟨rfl,λ hs ρ=>⟨λ _ _ ⟨q,a,_,b⟩ ⟨q',a',_,b'⟩=>by rw [b,b',det a a'],λ _ _ h=>h.elim⟩⟩
 | se=>intro v' h; cases v' <;> first | (cases h; done) | exact ⟨rfl,λ hs=>by subst hs; cases h⟩
 | m r=>
  intro v' h; cases v' <;> first | cases h | skip
  have:=nb h; subst this
  exact ⟨rfl,λ hs ρ=>⟨λ _ _ ⟨q,a,b⟩ ⟨q',a',b'⟩=>by rw [b,b',det a a'],λ _ _ h=>h.elim⟩⟩
 | y r=>
  intro v' h; cases v' <;> first | cases h | skip
  have:=nb h; subst this
  exact ⟨rfl,λ hs ρ=>⟨λ _ _ ⟨q,a,b⟩ ⟨q',a',b'⟩=>by rw [b,b',det a a'],λ _ _ h=>h.elim⟩⟩
 | f g c ih=>
  intro v' h; cases v' <;> first | cases h | skip
  obtain ⟨h1,h2⟩:=As h; have:=nb h1; subst this; obtain ⟨e,hd⟩:=ih _ h2; subst e
  exact ⟨rfl,λ hs ρ=>⟨λ _ _ ⟨ys,a,b⟩ ⟨ys',a',b'⟩=>by rw [b,b',(hd hs ρ).2 _ _ a a'],λ _ _ h=>h.elim⟩⟩
 | a c ih=>
  intro v' h; cases v' <;> first | cases h | skip
  obtain ⟨e,hd⟩:=ih _ h; subst e
  exact ⟨rfl,λ hs ρ=>⟨λ _ _ ⟨ys,a,_,b⟩ ⟨ys',a',_,b'⟩=>by rw [b,b',(hd hs ρ).2 _ _ a a'],λ _ _ h=>h.elim⟩⟩
 | t c ih=>
  intro v' h; cases v' <;> first | cases h | skip
  obtain ⟨e,hd⟩:=ih _ h; subst e
  exact ⟨rfl,λ hs ρ=>⟨λ _ _ ⟨ys,a,b⟩ ⟨ys',a',b'⟩=>by rw [b,b',(hd hs ρ).2 _ _ a a'],λ _ _ h=>h.elim⟩⟩
 | c x r Dr yb=>
  intro v' h; cases v' <;> first | cases h | skip
  obtain ⟨h1,h2⟩:=As h; obtain ⟨e,hd⟩:=Dr _ h1; subst e; obtain ⟨e,hd'⟩:=yb _ h2; subst e
  exact ⟨rfl,λ hs ρ=>⟨λ _ _ h=>h.elim,λ _ _ ⟨z,zs,a,b,c⟩ ⟨z',zs',a',b',c'⟩=>by rw [a,a',(hd hs ρ).1 _ _ b b',(hd' hs ρ).2 _ _ c c']⟩⟩
 | e=>intro v' h; cases v' <;> first | exact ⟨rfl,λ hs ρ=>⟨λ _ _ h=>h.elim,λ _ _ h h'=>Eq.trans h (Eq.symm h')⟩⟩ | cases h
 | _=>intro v' h; cases v' <;> first | exact ⟨rfl,λ hs ρ=>⟨λ _ _ h h'=>Eq.trans h (Eq.symm h'),λ _ _ h=>h.elim⟩⟩ | cases h
section
variable {ρ:Rn}
theorem iB.qH {ys:List Value} (h:iB ρ .e ys):ys=[]:=h
theorem iB.len:∀ {v:V} {ys:List Value},iB ρ v ys->qE v=ys.length:=by
 intro v
 induction v with
 | e=>intro ys h; rw [iB.qH h]; rfl
 | c x r _ ih=>intro ys ⟨z,zs,h1,_,h3⟩; rw [h1]; show Nat.succ (qE r)=_; rw [ih h3]; rfl
 | _=>intro ys h; exact h.elim
theorem iB.app:∀ {l:V} {xs:List Value},iB ρ l xs->∀ {r:V} {ys:List Value},iB ρ r ys->iB ρ (xp l r) (xs++ys):=by
 intro l
 induction l with
 | e=>intro xs h r ys h'; rw [iB.qH h]; exact h'
 | c x t _ ih=>intro xs ⟨z,zs,h1,h2,h3⟩ r ys h'; rw [h1]; exact ⟨z,zs++ys,rfl,h2,ih h3 h'⟩
 | _=>intro xs h; exact h.elim
theorem iB.drop:∀ (n:Nat) {l:V} {xs:List Value},iB ρ l xs->iB ρ (LI l n) (xs.drop n):=by
 intro n
 induction n with
 | zero=>intro l xs h; exact h
 | succ n ih=>
  intro l xs h
  cases l <;> first | exact h.elim | skip
  ·rw [iB.qH h,List.drop_nil]; exact (show iB ρ .e [] from rfl)
  ·obtain ⟨z,zs,h1,_,h3⟩:=h; rw [h1]; exact ih h3
theorem iB.take:∀ (n:Nat) {l:V} {xs:List Value},iB ρ l xs->iB ρ (Ah l n) (xs.take n):=by
 intro n
 induction n with
 | zero=>intro l xs h; exact (show iB ρ .e [] from rfl)
 | succ n ih=>
  intro l xs h
  cases l <;> first | exact h.elim | skip
  ·rw [iB.qH h,List.take_nil]; exact (show iB ρ .e [] from rfl)
  ·obtain ⟨z,zs,h1,h2,h3⟩:=h; rw [h1]; exact ⟨z,zs.take n,rfl,h2,ih h3⟩
theorem xr {k:OK}:∀ (n:Nat) {l:V} {xs:List Value},iB ρ l xs->Ju l n k = .no\/∃ v x,Ju l n k=k v/\xs[n]? = some x/\RV ρ v x:=by
 intro n
 induction n with
 | zero=>
  intro l xs h
  cases l <;> first | exact h.elim | exact .inl rfl | skip
  obtain ⟨z,zs,h1,h2,_⟩:=h
  exact .inr ⟨_,z,rfl,by rw [h1]; rfl,h2⟩
 | succ n ih=>
  intro l xs h
  cases l <;> first | exact h.elim | exact .inl rfl | skip
  obtain ⟨z,zs,h1,_,h3⟩:=h
  rw [h1]; exact ih h3
theorem iB.rep {z:V} {zs:List Value} (h:iB ρ z zs):∀ n,iB ρ (yM z n) (List.replicate n zs).flatten:=by
 intro n
 induction n with
 | zero=>exact (show iB ρ .e [] from rfl)
 | succ n ih=>rw [List.replicate_succ,List.flatten_cons]; exact h.app ih
def RT (ρ:Rn) (t:Tr V) (o:Nat) (xs:List Value):Prop:=∀ j x,xs[j]? = some x->RV ρ (qD t (o+j)) x
theorem RT.rd:∀ {n:Nat} {t:Tr V} {o:Nat} {xs:List Value},xs.length=n->RT ρ t o xs->iB ρ (rd t n o) xs:=by
 intro n
 induction n with
 | zero=>intro t o xs h _; rw [List.length_eq_zero_iff.1 h]; exact (show iB ρ .e [] from rfl)
 | succ n ih=>
  intro t o xs h hr
  match xs,h with
  | x::xs,h=>exact ⟨x,xs,rfl,hr 0 x rfl,ih (by simpa using h) λ j y hy=>by have:=hr (j+1) y (by simpa using hy); rwa [show o+(j+1)=Nat.succ o+j from by omega] at this⟩
theorem zo:∀ {l:V} {xs:List Value},iB ρ l xs->∀ (o:Nat) (t:Tr V) (i:Nat),(i<o\/o+xs.length<=i->qD (tr l o t) i=qD t i)/\∀ j x,xs[j]? = some x->i=o+j->RV ρ (qD (tr l o t) i) x:=by
 intro l
 induction l with
 | e=>intro xs h o t i; rw [iB.qH h]; exact ⟨λ _=>rfl,λ j x hx=>by simp at hx⟩
 | c v r _ ih=>
  intro xs ⟨z,zs,h1,h2,h3⟩ o t i
  subst h1
  obtain ⟨a,b⟩:=ih h3 (Nat.succ o) (Wt t v o) i
  refine ⟨λ hi=>?_,λ j x hx hi=>?_⟩
  ·have hl:(z::zs).length=zs.length+1:=rfl
   refine (a (by omega)).trans ?_
   rw [Gi,if_neg (by omega)]
  ·cases j with
   | zero=>
    have:x=z:=by simpa using hx.symm
    subst this
    have e:=a (.inl (by omega))
    show RV ρ (qD (tr r (Nat.succ o) (Wt t v o)) i) x
    rw [e,Gi,if_pos (by omega)]; exact h2
   | succ j=>exact b j x (by simpa using hx) (by omega)
 | _=>intro xs h; exact h.elim
theorem RT.WM {l:V} {xs:List Value} (h:iB ρ l xs) (t:Tr V) (o:Nat):RT ρ (tr l o t) o xs:=λ j x hj=>(zo h o t (o+j)).2 j x hj rfl
end
theorem Au (k:IntKind) (n:Nat):we k n=k.wrap n:=by
 unfold we
 cases h:Nat.ble n (acq k) with
 | false=>rfl
 | true=>
  have h:=Nat.le_of_ble_eq_true h
  show (n:Int)=k.wrap n
  cases k <;> simp only [acq] at h <;> simp [IntKind.wrap,IntKind.bits,IntKind.signed] <;> omega
theorem WN (k:IntKind) (a b:Int):acr k a b=k.wrap (a+b):=by
 cases a with
 | ofNat x=>cases b with
  | ofNat y=>exact Au k (x+y)
  | negSucc y=>
   show Bool.rec (motive:=λ _=>Int) _ (we k (x - (y+1))) (Nat.ble (Nat.succ y) x)=_
   cases h:Nat.ble (Nat.succ y) x with
   | false=>rfl
   | true=>
    have h:=Nat.le_of_ble_eq_true h
    show we k (x - (y+1))=_
    rw [Au]
    congr 1
    show ((x - (y+1):Nat):Int)=(x:Int)+Int.negSucc y
    omega
 | negSucc x=>rfl
theorem WO (k:IntKind) (a b:Int):acs k a b=k.wrap (a - b):=by
 cases a with
 | ofNat x=>cases b with
  | ofNat y=>
   show Bool.rec (motive:=λ _=>Int) _ (we k (x - y)) (Nat.ble y x)=_
   cases h:Nat.ble y x with
   | false=>rfl
   | true=>
    have h:=Nat.le_of_ble_eq_true h
    show we k (x - y)=_
    rw [Au]
    congr 1
    show ((x - y:Nat):Int)=(x:Int) - (y:Int)
    omega
  | negSucc y=>rfl
 | negSucc x=>rfl
theorem fD (n i:Nat):(ky n i).toNat=n / 2 ^ (8 * i) % 256:=by
 show (UInt8.ofNat ((n >>> (8 * i)) % 256)).toNat=_
 rw [Nat.shiftRight_eq_div_pow]
 simp [UInt8.toNat_ofNat']
theorem iR (n l:Nat):oR (strOf n l)=(List.range l).map λ i=>ky n i:=by simp [oR,strOf]
theorem ed (n l:Nat):(strOf n l).size=l:=by rw [<- kh,iR]; simp
theorem kM {n l j:Nat} (h:j<l):(oR (strOf n l))[j]? = some (ky n j):=by rw [iR]; simp [h]
theorem zp {a b:ByteArray} (h:oR a=oR b):a=b:=by
 obtain ⟨a⟩:=a
 obtain ⟨b⟩:=b
 simp only [ByteArray.mk.injEq]
 exact Array.toList_inj.1 h
theorem Ec:∀ (l:List UInt8) (j:Nat) (b:UInt8),l[j]? = some b->ky (v8 l) j=b:=by
 intro l
 induction l with
 | nil=>intro j b h; simp at h
 | cons x r ih=>
  intro j b h
  have hx:=x.toNat_lt
  cases j with
  | zero=>
   have:x=b:=by simpa using h
   subst this
   apply UInt8.toNat.inj
   rw [fD]
   show (x.toNat+256 * v8 r) / 2 ^ (8 * 0) % 256=x.toNat
   simp only [Nat.mul_zero,Nat.pow_zero,Nat.div_one]
   omega
  | succ j=>
   rw [<- ih j b (by simpa using h)]
   apply UInt8.toNat.inj
   rw [fD,fD]
   show (x.toNat+256 * v8 r) / 2 ^ (8 * (j+1)) % 256=_
   have e:2 ^ (8 * (j+1))=256 * 2 ^ (8 * j):=by rw [show 8 * (j+1)=8+8 * j from by omega,Nat.pow_add]
   rw [e,<- Nat.div_div_eq_div_mul]
   congr 2
   omega
theorem Gt (s:ByteArray):strOf (v8 s.data.toList) s.data.toList.length=s:=by
 apply zp
 apply List.ext_getElem?
 intro j
 by_cases h:j<s.data.toList.length
 ·rw [kM h]
  have hs:s.data.toList[j]? = some s.data.toList[j]:=List.getElem?_eq_getElem h
  rw [Ec _ j _ hs]
  exact hs.symm
 rw [List.getElem?_eq_none (by rw [kh,ed]; omega),List.getElem?_eq_none (by show s.data.toList.length<=j; omega)]
theorem uT {n l j:Nat} (h:j<l):ky (n % 2 ^ (8 * l)) j=ky n j:=by
 apply UInt8.toNat.inj
 rw [fD,fD]
 apply Nat.eq_of_testBit_eq
 intro i
 rw [show (256:Nat)=2 ^ 8 from rfl]
 simp only [Nat.testBit_mod_two_pow,Nat.testBit_div_two_pow]
 by_cases hi:i<8
 ·simp only [hi,decide_true,Bool.true_and]
  rw [decide_eq_true (show i+8 * j<8 * l by omega),Bool.true_and]
 simp [hi]
theorem Ct (n l:Nat):strOf (n % 2 ^ (8 * l)) l=strOf n l:=by
 apply zp
 rw [iR,iR]
 exact List.map_congr_left λ i hi=>uT (List.mem_range.1 hi)
theorem wg {n l:Nat}:n % 2 ^ (8 * l)=v8 (oR (strOf n l)):=by
 induction l generalizing n with
 | zero=>simp [iR,v8,Nat.mod_one]
 | succ l ih=>
  have e:oR (strOf n (l+1))=ky n 0::oR (strOf (n / 256) l):=by
   rw [iR,iR,List.range_succ_eq_map,List.map_cons,List.map_map]
   congr 1
   refine List.map_congr_left λ i _=>?_
   apply UInt8.toNat.inj
   show (ky n (i+1)).toNat=_
   rw [fD,fD,Nat.div_div_eq_div_mul,show 8 * (i+1)=8+8 * i from by omega,Nat.pow_add]
  rw [e]
  show _=(ky n 0).toNat+256 * v8 (oR (strOf (n / 256) l))
  rw [<- ih,fD,show 8 * (l+1)=8+8 * l from by omega,Nat.pow_add,Nat.mod_mul]
  simp
theorem nz (n l n' l':Nat):BJ n l n' l'=decide (strOf n l=strOf n' l'):=by
 unfold BJ
 show Bool.rec (motive:=λ _=>Bool) false (Nat.beq (n % 2 ^ (8 * l)) (n' % 2 ^ (8 * l))) (Nat.beq l l')=_
 rw [zi l l']
 by_cases hl:l=l'
 ·subst hl
  rw [decide_eq_true rfl]
  show Nat.beq _ _=_
  rw [zi]
  refine decide_eq_decide.2 ⟨λ h=>?_,λ h=>?_⟩
  ·rw [<- Ct n l,<- Ct n' l,h]
  rw [wg,wg,h]
 rw [decide_eq_false hl]
 show false=_
 rw [decide_eq_false]
 intro h
 have:=congrArg ByteArray.size h
 rw [ed,ed] at this
 exact hl this
theorem NT {n l j k:Nat} (h1:j<=k) (h2:k<=l):strOf (n >>> (8 * j)) (k - j)=(strOf n l).extract j k:=by
 apply zp
 have e:oR ((strOf n l).extract j k)=((oR (strOf n l)).drop j).take (k - j):=by
  show ((strOf n l).extract j k).data.toList=_
  rw [ByteArray.data_extract,Array.toList_extract]
  rfl
 rw [e]
 apply List.ext_getElem?
 intro i
 by_cases hi:i<k - j
 ·rw [kM hi,List.getElem?_take_of_lt hi,List.getElem?_drop,kM (by omega)]
  congr 1
  apply UInt8.toNat.inj
  rw [fD,fD,Nat.shiftRight_eq_div_pow,Nat.div_div_eq_div_mul,<- Nat.pow_add,Nat.mul_add]
 rw [List.getElem?_eq_none (by rw [kh,ed]; omega),List.getElem?_eq_none (by rw [List.length_take]; omega)]
theorem NU (n l n' l':Nat):strOf (n % 2 ^ (8 * l)+n' <<< (8 * l)) (l+l')=strOf n l++strOf n' l':=by
 apply zp
 have e:oR (strOf n l++strOf n' l')=oR (strOf n l)++oR (strOf n' l'):=by
  show (strOf n l++strOf n' l').data.toList=_
  rw [ByteArray.data_append,Array.toList_append]; rfl
 rw [e]
 have hm:n % 2 ^ (8 * l)<2 ^ (8 * l):=Nat.mod_lt _ (Nat.two_pow_pos _)
 apply List.ext_getElem?
 intro i
 by_cases h1:i<l
 ·rw [kM (by omega),List.getElem?_append_left (by rw [kh,ed]; exact h1),kM h1]
  congr 1
  rw [<- uT (n:=n % 2 ^ (8 * l)+n' <<< (8 * l)) h1,Nat.shiftLeft_eq,Nat.add_mul_mod_self_right,Nat.mod_mod,uT h1]
 rw [List.getElem?_append_right (by rw [kh,ed]; omega),kh,ed]
 by_cases h2:i<l+l'
 ·rw [kM h2,kM (by omega)]
  congr 1
  apply UInt8.toNat.inj
  rw [fD,fD]
  have e2:2 ^ (8 * i)=2 ^ (8 * l) * 2 ^ (8 * (i - l)):=by rw [<- Nat.pow_add]; congr 1; omega
  rw [e2,<- Nat.div_div_eq_div_mul,Nat.shiftLeft_eq,Nat.add_mul_div_right _ _ (Nat.two_pow_pos _),Nat.div_eq_of_lt hm,Nat.zero_add]
 rw [List.getElem?_eq_none (by rw [kh,ed]; omega),List.getElem?_eq_none (by rw [kh,ed]; omega)]
theorem lX {ρ:Rn} {x:Value} {v:V} (h:pH x=some v):RV ρ v x:=by
 unfold pH at h
 split at h <;> first | cases h | skip
 all_goals first | exact (show _=_ from rfl) | skip
 rename_i s; show _=_; rw [Gt]
theorem qI {ρ:Rn}:∀ {xs:List Value} {l:V},qC xs=some l->iB ρ l xs:=by
 intro xs
 induction xs with
 | nil=>intro l h; cases h; exact (show iB ρ .e [] from rfl)
 | cons x r ih=>
  intro l h
  unfold qC at h
  split at h
  ·rename_i v l' h1 h2; cases h; exact ⟨x,r,rfl,lX h1,ih h2⟩
  ·cases h
theorem NV {x:Value} {v:V} (h:pH x=some v):fe x=true:=by
 unfold pH at h
 split at h <;> first | (cases h; rfl) | cases h
theorem su:∀ {xs:List Value} {l:V},qC xs=some l->∀ z∈xs,fe z=true:=by
 intro xs
 induction xs with
 | nil=>intro l _ z hz; simp at hz
 | cons x r ih=>
  intro l h z hz
  unfold qC at h
  split at h
  ·rename_i v l' h1 h2
   rcases List.mem_cons.1 hz with rfl | hz
   ·exact NV h1
   ·exact ih h2 z hz
  ·cases h
theorem tA {ρ:Rn}:∀ v:V,(∀ x y,(BI v).1=some x->RV ρ v y->y=x)/\∀ xs ys,(BI v).2=some xs->iB ρ v ys->ys=xs:=by
 intro v
 induction v with
 | a c ih=>
  refine ⟨λ x y h h'=>?_,λ xs ys h=>(by cases h)⟩
  obtain ⟨ys,h1,_,rfl⟩:=h'
  simp only [BI,Option.map_eq_some_iff] at h
  obtain ⟨l,h2,rfl⟩:=h
  rw [ih.2 _ _ h2 h1]
 | c x r Dr yb=>
  refine ⟨λ x y h=>(by cases h),λ xs ys h h'=>?_⟩
  obtain ⟨z,zs,rfl,h2,h3⟩:=h'
  simp only [BI] at h
  split at h
  ·rename_i x' l h4 h5; cases h; rw [Dr.1 _ _ h4 h2,yb.2 _ _ h5 h3]
  ·cases h
 | e=>exact ⟨λ x y h=>(by cases h),λ xs ys h h'=>(by cases h; exact h')⟩
 | b x=>exact ⟨λ x y h h'=>(by cases h; exact h'),λ xs ys h=>(by cases h)⟩
 | i k n=>exact ⟨λ x y h h'=>(by cases h; exact h'),λ xs ys h=>(by cases h)⟩
 | s k n=>exact ⟨λ x y h h'=>(by cases h; exact h'),λ xs ys h=>(by cases h)⟩
 | np=>exact ⟨λ x y h h'=>(by cases h; exact h'),λ xs ys h=>(by cases h)⟩
 | ns=>exact ⟨λ x y h h'=>(by cases h; exact h'),λ xs ys h=>(by cases h)⟩
 | nm=>exact ⟨λ x y h h'=>(by cases h; exact h'),λ xs ys h=>(by cases h)⟩
 | nf=>exact ⟨λ x y h h'=>(by cases h; exact h'),λ xs ys h=>(by cases h)⟩
 | _=>exact ⟨λ x y h=>(by cases h),λ xs ys h=>(by cases h)⟩
theorem S8.Jy {a b:Nat} (ha:a<8) (hb:b<8) (h:S8.of a=S8.of b):a=b:=by
 have:∀ a:Fin 8,∀ b:Fin 8,S8.of a.1=S8.of b.1->a=b:=by
  intro a b h
  match a,b with
  | ⟨0,_⟩,⟨0,_⟩ | ⟨1,_⟩,⟨1,_⟩ | ⟨2,_⟩,⟨2,_⟩ | ⟨3,_⟩,⟨3,_⟩ | ⟨4,_⟩,⟨4,_⟩ | ⟨5,_⟩,⟨5,_⟩ | ⟨6,_⟩,⟨6,_⟩ | ⟨7,_⟩,⟨7,_⟩=>rfl
  | ⟨0,_⟩,⟨1,_⟩ | ⟨0,_⟩,⟨2,_⟩ | ⟨0,_⟩,⟨3,_⟩ | ⟨0,_⟩,⟨4,_⟩ | ⟨0,_⟩,⟨5,_⟩ | ⟨0,_⟩,⟨6,_⟩ | ⟨0,_⟩,⟨7,_⟩=>cases h
  | ⟨1,_⟩,⟨0,_⟩ | ⟨1,_⟩,⟨2,_⟩ | ⟨1,_⟩,⟨3,_⟩ | ⟨1,_⟩,⟨4,_⟩ | ⟨1,_⟩,⟨5,_⟩ | ⟨1,_⟩,⟨6,_⟩ | ⟨1,_⟩,⟨7,_⟩=>cases h
  | ⟨2,_⟩,⟨0,_⟩ | ⟨2,_⟩,⟨1,_⟩ | ⟨2,_⟩,⟨3,_⟩ | ⟨2,_⟩,⟨4,_⟩ | ⟨2,_⟩,⟨5,_⟩ | ⟨2,_⟩,⟨6,_⟩ | ⟨2,_⟩,⟨7,_⟩=>cases h
  | ⟨3,_⟩,⟨0,_⟩ | ⟨3,_⟩,⟨1,_⟩ | ⟨3,_⟩,⟨2,_⟩ | ⟨3,_⟩,⟨4,_⟩ | ⟨3,_⟩,⟨5,_⟩ | ⟨3,_⟩,⟨6,_⟩ | ⟨3,_⟩,⟨7,_⟩=>cases h
  | ⟨4,_⟩,⟨0,_⟩ | ⟨4,_⟩,⟨1,_⟩ | ⟨4,_⟩,⟨2,_⟩ | ⟨4,_⟩,⟨3,_⟩ | ⟨4,_⟩,⟨5,_⟩ | ⟨4,_⟩,⟨6,_⟩ | ⟨4,_⟩,⟨7,_⟩=>cases h
  | ⟨5,_⟩,⟨0,_⟩ | ⟨5,_⟩,⟨1,_⟩ | ⟨5,_⟩,⟨2,_⟩ | ⟨5,_⟩,⟨3,_⟩ | ⟨5,_⟩,⟨4,_⟩ | ⟨5,_⟩,⟨6,_⟩ | ⟨5,_⟩,⟨7,_⟩=>cases h
  | ⟨6,_⟩,⟨0,_⟩ | ⟨6,_⟩,⟨1,_⟩ | ⟨6,_⟩,⟨2,_⟩ | ⟨6,_⟩,⟨3,_⟩ | ⟨6,_⟩,⟨4,_⟩ | ⟨6,_⟩,⟨5,_⟩ | ⟨6,_⟩,⟨7,_⟩=>cases h
  | ⟨7,_⟩,⟨0,_⟩ | ⟨7,_⟩,⟨1,_⟩ | ⟨7,_⟩,⟨2,_⟩ | ⟨7,_⟩,⟨3,_⟩ | ⟨7,_⟩,⟨4,_⟩ | ⟨7,_⟩,⟨5,_⟩ | ⟨7,_⟩,⟨6,_⟩=>cases h
 exact congrArg Fin.val (this ⟨a,ha⟩ ⟨b,hb⟩ h)
theorem Rx {i j:Nat} {s:Sl} (hi:v9 i=some s) (hj:v9 j=some s):i=j:=by
 unfold v9 at hi hj
 cases h1:Nat.blt i 512 with
 | false=>rw [h1] at hi; cases hi
 | true=>cases h2:Nat.blt j 512 with
  | false=>rw [h2] at hj; cases hj
  | true=>
   rw [h1] at hi
   rw [h2] at hj
   rw [zj] at h1 h2
   have h1:=of_decide_eq_true h1
   have h2:=of_decide_eq_true h2
   have:=Option.some.inj (hi.trans hj.symm)
   injection this with a b c
   have a:=S8.Jy (show i / 64<8 by omega) (show j / 64<8 by omega) a
   have b:=S8.Jy (show i / 8 % 8<8 by omega) (show j / 8 % 8<8 by omega) b
   have c:=S8.Jy (show i % 8<8 by omega) (show j % 8<8 by omega) c
   omega
theorem Sl.Ry (s:Sl) (x:V) (e:En):s.get (s.put x e)=x:=by
 cases s with
 | mk a b c=>show Q8 c (LF b (Gg a (p83 a (p82 b (p81 c x (LF b (Gg a e))) (Gg a e)) e)))=x; rw [Gh,Gf,Q9]
theorem Sl.acB (s s':Sl) (x:V) (e:En) (h:s'≠s):s'.get (s.put x e)=s'.get e:=by
 cases s with
 | mk a b c=>cases s' with
  | mk a' b' c'=>
   show Q8 c' (LF b' (Gg a' (p83 a (p82 b (p81 c x (LF b (Gg a e))) (Gg a e)) e)))=Q8 c' (LF b' (Gg a' e))
   by_cases h1:a'=a
   ·subst h1
    rw [Gh]
    by_cases h2:b'=b
    ·subst h2
     rw [Gf]
     by_cases h3:c'=c
     ·subst h3; exact absurd rfl h
     ·rw [ach _ _ _ _ h3]
    ·rw [aci _ _ _ _ h2]
   ·rw [acj _ _ _ _ h1]
def RE (ρ:Rn) (e:En) (e':Env):Prop:=∀ i s,v9 i=some s->RV ρ (s.get e) (e' i)
theorem RE.mono {ρ ρ':Rn} {e:En} {e':Env} (h:RE ρ e e') (k:Le ρ ρ'):RE ρ' e e':=λ i s hs=>(h i s hs).mono k
theorem RE.rz {ρ:Rn} {e:En} {e':Env} (h:RE ρ e e') {d:Nat} {s:Sl} (hd:v9 d=some s) {v:V} {x:Value} (hv:RV ρ v x):RE ρ (s.put v e) (rz e' d x):=by
 intro i s' hs
 by_cases hi:i=d
 ·subst hi
  have:s'=s:=Option.some.inj (hs.symm.trans hd)
  subst this
  rw [Sl.Ry,ja]; exact hv
 rw [Sl.acB _ _ _ _ λ hh=>hi (Rx hs (by rw [hh]; exact hd)),jP _ _ hi]; exact h i s' hs
theorem lB (ρ:Rn):RV ρ Ge undef:=⟨[],rfl,rfl⟩
theorem RE.pd {ρ:Rn} {e:En} {e':Env} (h:RE ρ e e') {o:Oper} {d:Ds} (hd:Jw o=some d) {v:V} {x:Value} (hv:RV ρ v x):RE ρ (pd d v e) (gC e' o.dst x):=by
 unfold Jw at hd
 cases ho:o.dst with
 | none=>rw [ho] at hd; cases hd; exact h
 | some k=>
  rw [ho] at hd
  simp only [Option.map_eq_some_iff] at hd
  obtain ⟨s,hs,rfl⟩:=hd
  exact h.rz hs hv
theorem bG {ρ:Rn} {e:En} {e':Env} (h:RE ρ e e') {x:Operand} {q:Oq} (hq:oq x=some q):RV ρ (ek e q) (ev e' x):=by
 cases x with
 | tmp t=>
  simp only [oq,Option.map_eq_some_iff] at hq
  obtain ⟨s,hs,rfl⟩:=hq
  exact h t s hs
 | const v=>
  simp only [oq,Option.map_eq_some_iff] at hq
  obtain ⟨s,hs,rfl⟩:=hq
  exact lX hs
 | func f=>cases hq; exact ⟨[],rfl,rfl⟩
 | global g=>cases hq
theorem pK {ρ:Rn} {e:En} {e':Env} (h:RE ρ e e'):∀ {xs:List Operand} {l:OL},olq xs=some l->iB ρ (UY e l) (xs.map (ev e')):=by
 intro xs
 induction xs with
 | nil=>intro l hl; cases hl; exact (show iB ρ .e [] from rfl)
 | cons x r ih=>
  intro l hl
  unfold olq at hl
  split at hl
  ·rename_i q l' h1 h2; cases hl; exact ⟨_,_,rfl,bG h h1,ih h2⟩
  ·cases hl
def RM (ρ:Rn):ML->List MapEntry->Prop
 | .nil,es=>es=[]
 | .cons k v b r,es=>∃ e mK,es=e::mK/\RV ρ k e.key/\RV ρ v e.val/\e.born=b/\RM ρ r mK
def RMs:ML->List (ByteArray × Int)->Prop
 | .nil,l=>l=[]
 | .cons k v _ r,l=>∃ n m x l',k = .s n m/\v = .i .i64 x/\l=(strOf n m,x)::l'/\RMs r l'
def acD (sl:List (ByteArray × Int)) (o:Obj):Prop:=∃ es ck,o = .map es ck/\MapKept.Stamped es ck/\(es.toList.map λ e=>(e.key,e.val)).Perm (sl.map λ p=>(Value.string p.1,Value.int .i64 p.2))
def ahE (ρ:Rn) (c:Nat) (l:ML) (o:Obj):Prop:=(c<4294967296/\∃ es,o = .map (List.toArray es) c/\RM ρ l es)\/(c=4294967296/\∃ sl,RMs l sl/\acD sl o)
def Rz:Nat->LoopState
 | 0=>.ready
 | 1=>.busy
 | _=>.done
def sw:JS->Option Code
 | .no=>none
 | .rt=>some .ret
 | .ex id=>some (.exit id)
structure LpB (P:Program) (ρ:Rn) (ps:PS) (e:En) (a b:CC) (L0:Loop):Prop where
 ex:∃ n pl e',L0.state = .ready/\L0.pending=none/\n<=512/\Ao L0.params.toList=some ps/\(∀ p∈L0.params.toList,p<n)/\a=eX P n pl L0.assign/\b=eX P n pl L0.body/\
  Bu P n pl L0.assign=true/\Bu P n pl L0.body=true/\dy L0.assign=false/\dy L0.body=false/\L0.tmps.size=n/\(∀ i,L0.tmps.getD i undef=e' i)/\RE ρ e e'
def Body (P:Program) (ρ:Rn):HB->Pl->Obj->Prop
 | .c n es t,q,o=>∃ cs ty fz,o = .cells (List.toArray cs) ty fz/\(∀ j,j<cs.length->¬ (fz.1<=j/\j<fz.2))/\q.s=es/\q.b+q.c * es<=cs.length/\(0<es->n<=q.c * es)/\q.b+n<=cs.length/\
   ∀ i,i<n->∃ x,cs[q.b+i]? = some x/\RV ρ (qD t i) x/\fe x=true
 | .m c l,_,o=>ahE ρ c l o
 | .it m c st b k,q,o=>q.b=0/\∃ qm,ρ m=some qm/\o = .mapIter (some qm.k) c (if st=0 then #[] else #[b]) k
 | .lp st j ps e a b,_,o=>∃ L0,LpB P ρ ps e a b L0/\o = .loop {L0 with state:=Rz st,pending:=sw j}
 | .df,_,o=>o = .deferred (some [])
 | _,_,_=>False
theorem RM.mono {ρ ρ':Rn} (h:Le ρ ρ'):∀ {l:ML} {es:List MapEntry},RM ρ l es->RM ρ' l es:=by
 intro l
 induction l with
 | nil=>intro es h; exact h
 | cons k v b r ih=>intro es ⟨e,mK,h1,h2,h3,h4,h5⟩; exact ⟨e,mK,h1,h2.mono h,h3.mono h,h4,ih h5⟩
theorem LpB.mono {P:Program} {ρ ρ':Rn} (h:Le ρ ρ') {ps:PS} {e:En} {a b:CC} {L0:Loop} (hh:LpB P ρ ps e a b L0):LpB P ρ' ps e a b L0:=by
 obtain ⟨n,pl,e',h1,h2,h3,h4,h5,h6,h7,h8,h9,h10,h11,RA,h13,NW⟩:=hh.ex
 exact ⟨n,pl,e',h1,h2,h3,h4,h5,h6,h7,h8,h9,h10,h11,RA,h13,NW.mono h⟩
theorem Body.mono {P:Program} {ρ ρ':Rn} (h:Le ρ ρ') {hb:HB} {q:Pl} {o:Obj} (hh:Body P ρ hb q o):Body P ρ' hb q o:=by
 cases hb with
 | c n es t=>
  obtain ⟨cs,ty,fz,h1,h2,h3,h4,h5,h6,h7⟩:=hh
  exact ⟨cs,ty,fz,h1,h2,h3,h4,h5,h6,λ i hi=>let ⟨x,a,b,c⟩:=h7 i hi; ⟨x,a,b.mono h,c⟩⟩
 | m c l=>
  rcases hh with ⟨h0,es,h1,h2⟩ | hh
  ·exact .inl ⟨h0,es,h1,h2.mono h⟩
  ·exact .inr hh
 | it m c st b k=>obtain ⟨h0,qm,h1,h2⟩:=hh; exact ⟨h0,qm,h _ _ h1,h2⟩
 | lp st j ps e a b=>obtain ⟨L0,h1,h2⟩:=hh; exact ⟨L0,h1.mono h,h2⟩
 | df=>exact hh
 | z=>exact hh
 | x=>exact hh
def live:HB->Prop
 | .z=>False
 | .x=>False
 | _=>True
structure lO where
 f:Nat->Option Obj
 w:World
def Sm (w w':World):Prop:=w'.os=w.os/\w'.tape=w.tape/\w'.output=w.output
theorem Sm.trans {a b c:World} (h:Sm a b) (k:Sm b c):Sm a c:=⟨k.1.trans h.1,k.2.1.trans h.2.1,k.2.2.trans h.2.2⟩
structure RH (P:Program) (Fr:lO) (ρ:Rn) (h:Hp) (w:World):Prop where
 fresh:∀ b,dH h b = .z->ρ b=none
 lv:∀ b,live (dH h b)->∃ q o,ρ b=some q/\w.heap[q.k]? = some o/\Body P ρ (dH h b) q o
 sep:∀ b b' q q',live (dH h b)->live (dH h b')->b≠b'->ρ b=some q->ρ b'=some q'->q.k≠q'.k
 qf:∀ r o,Fr.f r=some o->w.heap[r]? = some o
 off:∀ b q,live (dH h b)->ρ b=some q->Fr.f q.k=none
 st:Sm Fr.w w
section
variable {P:Program} {Fr:lO} {ρ:Rn} {h:Hp} {w:World}
theorem RH.same {w':World} (hR:RH P Fr ρ h w) (he:w'.heap=w.heap) (hst:Sm w w':=by exact ⟨rfl,rfl,rfl⟩):RH P Fr ρ h w':=
 ⟨hR.fresh,λ b hb=>by rw [he]; exact hR.lv b hb,hR.sep,λ r o hr=>by rw [he]; exact hR.qf r o hr,hR.off,hR.st.trans hst⟩
theorem RH.drew (hR:RH P Fr ρ h w):RH P Fr ρ h (Fw.drew w):=hR.same rfl
theorem RH.kV {b:Nat} {q:Pl} {hb:HB} {o:Obj} {w':World} (hR:RH P Fr ρ h w) (hl:live (dH h b)) (hq:ρ b=some q) (ho:w'.heap[q.k]? = some o) (hB:Body P ρ hb q o)
  (hw:∀ r o',r≠q.k->w.heap[r]? = some o'->w'.heap[r]? = some o') (hz:hb≠.z:=by exact λ hh=>by cases hh) (hst:Sm w w':=by exact ⟨rfl,rfl,rfl⟩):RH P Fr ρ (eL h hb b) w':=by
 have lv':∀ {b'},b'≠b->live (dH (eL h hb b) b')->live (dH h b'):=λ iS hh=>by rw [gU,if_neg iS] at hh; exact hh
 have lv2:∀ {b'},live (dH (eL h hb b) b')->live (dH h b'):=fun {b'} hh=>by
  by_cases iS:b'=b
  ·subst iS; exact hl
  ·exact lv' iS hh
 refine ⟨λ b' oE=>?_,λ b' oE=>?_,λ b1 b2 q1 q2 h1 h2 iS e1 e2=>hR.sep b1 b2 q1 q2 (lv2 h1) (lv2 h2) iS e1 e2,λ r o' hr=>?_,λ b' q' h1 h2=>hR.off b' q' (lv2 h1) h2,hR.st.trans hst⟩
 ·rw [gU] at oE
  split at oE
  ·exact absurd oE hz
  exact hR.fresh b' oE
 ·by_cases iS:b'=b
  ·subst iS
   rw [gU,if_pos rfl]
   exact ⟨q,o,hq,ho,hB⟩
  have h1:=lv' iS oE
  rw [gU,if_neg iS]
  obtain ⟨q',o',e1,e2,e3⟩:=hR.lv b' h1
  exact ⟨q',o',e1,hw _ _ (hR.sep b' b q' q h1 hl iS e1 hq) e2,e3⟩
 have:r≠q.k:=λ hh=>by rw [hh,hR.off b q hl hq] at hr; cases hr
 exact hw r o' this (hR.qf r o' hr)
theorem RH.kill (hR:RH P Fr ρ h w) (b:Nat):RH P Fr ρ (eL h .x b) w:=by
 have key:∀ {b'},live (dH (eL h .x b) b')->live (dH h b')/\dH (eL h .x b) b'=dH h b':=fun {b'} hh=>by
  rw [gU] at hh |-
  split at hh
  ·exact hh.elim
  ·rename_i iS; rw [if_neg iS]; exact ⟨hh,rfl⟩
 refine ⟨λ b' oE=>?_,λ b' oE=>?_,λ b1 b2 q1 q2 h1 h2 iS e1 e2=>hR.sep b1 b2 q1 q2 (key h1).1 (key h2).1 iS e1 e2,hR.qf,λ b' q' h1 h2=>hR.off b' q' (key h1).1 h2,hR.st⟩
 ·rw [gU] at oE
  split at oE
  ·cases oE
  exact hR.fresh b' oE
 rw [(key oE).2]; exact hR.lv b' (key oE).1
def ext (ρ:Rn) (n:Nat) (q:Pl):Rn:=λ b=>if b=n then some q else ρ b
theorem qJ {n:Nat} {q:Pl} (hn:ρ n=none):Le ρ (ext ρ n q):=λ b q' hb=>by
 unfold ext; split
 ·rename_i e; rw [e,hn] at hb; cases hb
 ·exact hb
theorem jw (ρ:Rn) (n:Nat) (q:Pl):ext ρ n q n=some q:=if_pos rfl
theorem RH.add {n:Nat} {q:Pl} {hb:HB} {o:Obj} {w':World} (hR:RH P Fr ρ h w) (hn:dH h n = .z) (hk:∀ b q',live (dH h b)->ρ b=some q'->q'.k≠q.k) (hf:Fr.f q.k=none)
  (hw:∀ r o',r≠q.k->w.heap[r]? = some o'->w'.heap[r]? = some o') (ho:w'.heap[q.k]? = some o) (hB:Body P (ext ρ n q) hb q o) (hz:hb≠.z:=by exact λ hh=>by cases hh) (hst:Sm w w':=by exact ⟨rfl,rfl,rfl⟩) :
  RH P Fr (ext ρ n q) (eL h hb n) w':=by
 have le:=qJ (q:=q) (hR.fresh n hn)
 have key:∀ {b'},b'≠n->live (dH (eL h hb n) b')->live (dH h b')/\dH (eL h hb n) b'=dH h b':=fun {b'} iS hh=>by
  rw [gU,if_neg iS] at hh |-; exact ⟨hh,rfl⟩
 have back:∀ {b' q'},b'≠n->ext ρ n q b'=some q'->ρ b'=some q':=λ iS hh=>by unfold ext at hh; rwa [if_neg iS] at hh
 refine ⟨λ b' oE=>?_,λ b' oE=>?_,λ b1 b2 q1 q2 h1 h2 iS e1 e2=>?_,λ r o' hr=>?_,λ b' q' h1 h2=>?_,hR.st.trans hst⟩
 ·rw [gU] at oE
  split at oE
  ·exact absurd oE hz
  rename_i iS; unfold ext; rw [if_neg iS]; exact hR.fresh b' oE
 ·by_cases iS:b'=n
  ·subst iS
   rw [gU,if_pos rfl]
   exact ⟨q,o,jw _ _ _,ho,hB⟩
  obtain ⟨h1,h2⟩:=key iS oE
  rw [h2]
  obtain ⟨q',o',e1,e2,e3⟩:=hR.lv b' h1
  exact ⟨q',o',le _ _ e1,hw _ _ (hk b' q' h1 e1) e2,e3.mono le⟩
 ·by_cases n1:b1=n
  ·subst n1
   have n2:b2≠b1:=λ hh=>iS hh.symm
   have:=jw ρ b1 q
   rw [this] at e1; cases e1
   exact (hk b2 q2 (key n2 h2).1 (back n2 e2)).symm
  by_cases n2:b2=n
  ·subst n2
   have:=jw ρ b2 q
   rw [this] at e2; cases e2
   exact hk b1 q1 (key n1 h1).1 (back n1 e1)
  exact hR.sep b1 b2 q1 q2 (key n1 h1).1 (key n2 h2).1 iS (back n1 e1) (back n2 e2)
 ·have:r≠q.k:=λ hh=>by rw [hh,hf] at hr; cases hr
  exact hw r o' this (hR.qf r o' hr)
 by_cases iS:b'=n
 ·subst iS
  have:=jw ρ b' q
  rw [this] at h2; cases h2
  exact hf
 exact hR.off b' q' (key iS h1).1 (back iS h2)
theorem RH.new {n:Nat} {q:Pl} {hb:HB} {o:Obj} {w':World} (hR:RH P Fr ρ h w) (hn:dH h n = .z) (hq:q.k=w.heap.size) (hw:w'.heap=w.heap.push o)
  (hB:Body P (ext ρ n q) hb q o) (hz:hb≠.z:=by exact λ hh=>by cases hh) (hst:Sm w w':=by exact ⟨rfl,rfl,rfl⟩):RH P Fr (ext ρ n q) (eL h hb n) w':=by
 refine hR.add hn (λ b q' h1 h2=>?_) ?_ (λ r o' hr ho=>?_) ?_ hB hz hst
 ·obtain ⟨q2,o2,e1,e2,_⟩:=hR.lv b h1
  rw [h2] at e1; cases e1
  have:=(Array.getElem?_eq_some_iff.1 e2).1
  omega
 ·cases hF:Fr.f q.k with
  | none=>rfl
  | some o'=>
   have:=hR.qf _ _ hF
   have:=(Array.getElem?_eq_some_iff.1 this).1
   omega
 ·rw [hw,Array.getElem?_push,if_neg]
  ·exact ho
  have:=(Array.getElem?_eq_some_iff.1 ho).1
  omega
 rw [hw,hq,Array.getElem?_push,if_pos rfl]
theorem Jz {n es:Nat} {t:Tr V} {b:Nat} (hb:dH h b = .c n es t):live (dH h b):=by rw [hb]; trivial
theorem RH.cells {b n es:Nat} {t:Tr V} (hR:RH P Fr ρ h w) (hb:dH h b = .c n es t):∃ q cs ty fz,ρ b=some q/\w.heap[q.k]? = some (.cells (List.toArray cs) ty fz)/\(∀ j,j<cs.length->¬ (fz.1<=j/\j<fz.2))/\
  q.s=es/\q.b+q.c * es<=cs.length/\(0<es->n<=q.c * es)/\q.b+n<=cs.length/\∀ i,i<n->∃ x,cs[q.b+i]? = some x/\RV ρ (qD t i) x/\fe x=true:=by
 obtain ⟨q,o,h1,h2,h3⟩:=hR.lv b (Jz hb)
 rw [hb] at h3
 obtain ⟨cs,ty,fz,rfl,r⟩:=h3
 exact ⟨q,cs,ty,fz,h1,h2,r⟩
theorem cell_of {k o:Nat} {cs:List Value} {ty:TypeId} {fz:Nat × Nat} {x:Value} (hw:w.heap[k]? = some (.cells (List.toArray cs) ty fz)) (hx:cs[o]? = some x):Cell w k o x:=by
 unfold Cell World.cell?
 dsimp only
 rw [hw]
 simpa using hx
theorem Ed {k b n:Nat} {cs:List Value} {ty:TypeId} {fz:Nat × Nat} {t:Tr V} (hw:w.heap[k]? = some (.cells (List.toArray cs) ty fz)) (hl:b+n<=cs.length)
  (hc:∀ i,i<n->∃ x,cs[b+i]? = some x/\RV ρ (qD t i) x/\fe x=true) {o m:Nat} (hm:o+m<=n) :
  ∃ xs:List Value,xs.length=m/\xs=(cs.drop (b+o)).take m/\RT ρ t o xs/\(∀ z∈xs,fe z=true)/\∀ j c,xs[j]? = some c->Cell w k (b+o+j) c:=by
 have get:∀ j x,((cs.drop (b+o)).take m)[j]? = some x->j<m/\cs[b+(o+j)]? = some x:=λ j x hx=>by
  have hj:j<m:=by
   have:=(List.getElem?_eq_some_iff.1 hx).1
   rw [List.length_take] at this; omega
  rw [List.getElem?_take_of_lt hj,List.getElem?_drop] at hx
  exact ⟨hj,by rwa [show b+(o+j)=b+o+j from by omega]⟩
 refine ⟨_,by rw [List.length_take,List.length_drop]; omega,rfl,λ j x hx=>?_,λ z hz=>?_,λ j x hx=>?_⟩
 ·obtain ⟨hj,h1⟩:=get j x hx
  obtain ⟨y,h2,h3,_⟩:=hc (o+j) (by omega)
  rw [h1] at h2; cases h2
  exact h3
 ·obtain ⟨j,hj⟩:=List.getElem?_of_mem hz
  obtain ⟨hj',h1⟩:=get j z hj
  obtain ⟨y,h2,_,h3⟩:=hc (o+j) (by omega)
  rw [h1] at h2; cases h2
  exact h3
 obtain ⟨hj,h1⟩:=get j x hx
 exact cell_of hw (by rwa [show b+o+j=b+(o+j) from by omega])
theorem LQ {k:Nat} {ty:TypeId} {fz:Nat × Nat}:∀ (vs:List Value) (o i:Nat) (cs:List Value) (w:World),w.heap[k]? = some (.cells (List.toArray cs) ty fz)->(∀ j,j<cs.length->¬ (fz.1<=j/\j<fz.2))->
  o+i+vs.length<=cs.length->(∀ v∈vs,fe v=true)->
  ∃ w',(storeCells ⟨k,o,none⟩ vs i).run P w = .ok () w'/\w'.heap[k]? = some (.cells (List.toArray (eC cs (o+i) vs)) ty fz)/\(∀ r o',r≠k->w.heap[r]? = some o'->w'.heap[r]? = some o')/\Sm w w':=by
 intro vs
 induction vs with
 | nil=>intro o i cs w hw _ _ _; exact ⟨w,rfl,hw,λ _ _ _ h=>h,rfl,rfl,rfl⟩
 | cons v r ih=>
  intro o i cs w hw hz hl hv
  have hl':o+i+(r.length+1)<=cs.length:=by simpa using hl
  have hv1:=hv v (by simp)
  have h1:(store ⟨k,o+i,none⟩ v).run P w = .ok () (w.setCell ⟨k,o+i,none⟩ v):=by
   have c1:w.cell? ⟨k,o+i,none⟩=some cs[o+i]:=cell_of hw (by simp)
   have c2:w.frozen? ⟨k,o+i,none⟩=false:=by
    unfold World.frozen?
    dsimp only
    rw [hw]
    have:=hz (o+i) (by omega)
    simp only [Bool.and_eq_false_imp,decide_eq_true_eq]
    intro h; simp; omega
   unfold store
   cases v <;> first | cases hv1 | skip
   all_goals
    simp only [Sem.run,c1,c2]
    rfl
  have hw1:(w.setCell ⟨k,o+i,none⟩ v).heap[k]? = some (.cells (List.toArray (cs.set (o+i) v)) ty fz):=by
   simp only [World.setCell,Array.getElem?_modify,if_true,hw]
   simp
  obtain ⟨w',h2,h3,h4,h5⟩:=ih o (i+1) (cs.set (o+i) v) _ hw1 (λ j hj=>hz j (by simpa using hj)) (by simp; omega) (λ x hx=>hv x (by simp [hx]))
  refine ⟨w',?_,by rw [show o+(i+1)=o+i+1 from by omega] at h3; exact h3,λ r' o' hr ho=>h4 r' o' hr (by rw [vw _ _ _ _ _ hr]; exact ho),h5⟩
  show (do store ((Addr.mk k o none).add i) v; storeCells ⟨k,o,none⟩ r (i+1):Sem Unit).run P w=_
  rw [dK,aZ h1,h2]
theorem qK:∀ (vs:List Value) (cs:List Value) (o j:Nat),o+vs.length<=cs.length->(j<o\/o+vs.length<=j->(eC cs o vs)[j]? = cs[j]?)/\∀ i,i<vs.length->(eC cs o vs)[o+i]? = vs[i]?:=by
 intro vs
 induction vs with
 | nil=>intro cs o j _; exact ⟨λ _=>rfl,λ i hi=>by simp at hi⟩
 | cons v r ih=>
  intro cs o j hl
  have hl':o+(r.length+1)<=cs.length:=by simpa using hl
  obtain ⟨a,b⟩:=ih (cs.set o v) (o+1) j (by simp; omega)
  refine ⟨λ hj=>?_,λ i hi=>?_⟩
  ·have hj':j<o\/o+(r.length+1)<=j:=by simpa using hj
   have e:(eC (cs.set o v) (o+1) r)[j]? = (cs.set o v)[j]?:=a (by omega)
   exact e.trans (List.getElem?_set_ne (by omega))
  ·cases i with
   | zero=>
    have:=(ih (cs.set o v) (o+1) o (by simp; omega)).1 (.inl (by omega))
    refine (show (eC cs o (v::r))[o+0]? = (cs.set o v)[o]? from this).trans ?_
    rw [List.getElem?_set_self (by omega)]; rfl
   | succ i=>
    have:=b i (by simpa using hi)
    rw [show o+(i+1)=o+1+i from by omega]
    exact this.trans (by simp)
theorem JA {b n o:Nat} {cs:List Value} {t:Tr V} {l:V} {vs:List Value} (hl:b+n<=cs.length) (hc:∀ i,i<n->∃ x,cs[b+i]? = some x/\RV ρ (qD t i) x/\fe x=true)
  (hv:iB ρ l vs) (nV:∀ v∈vs,fe v=true) (hm:o+vs.length<=n) :
  ∀ i,i<n->∃ x,(eC cs (b+o) vs)[b+i]? = some x/\RV ρ (qD (tr l o t) i) x/\fe x=true:=by
 intro i hi
 obtain ⟨a,c⟩:=qK vs cs (b+o) (b+i) (by omega)
 obtain ⟨a',c'⟩:=zo hv o t i
 by_cases h1:i<o\/o+vs.length<=i
 ·rw [a (by omega),a' h1]; exact hc i hi
 obtain ⟨x,hx⟩:∃ x,vs[i - o]? = some x:=⟨_,List.getElem?_eq_getElem (by omega)⟩
 refine ⟨x,?_,c' _ x hx (by omega),nV x (List.mem_of_getElem? hx)⟩
 have:=c (i - o) (by omega)
 rw [show b+o+(i - o)=b+i from by omega] at this
 rw [this,hx]
end
section
variable {v0 v:V} {h0 h:Hp} {n0 n:Nat}
theorem dB {c:Bool} {a:OR} (hh:dY c a .no = .ok v h n):c=true/\a = .ok v h n:=by cases c <;> first | exact ⟨rfl,hh⟩ | cases hh
theorem dI {a b:Bool} (hh:dD a b=true):a=true/\b=true:=by cases a <;> cases b <;> first | exact ⟨rfl,rfl⟩ | cases hh
theorem fj {a b:Nat} (hh:Nat.beq a b=true):a=b:=Nat.eq_of_beq_eq_true hh
theorem dQ {a b:Nat} (hh:Nat.ble a b=true):a<=b:=Nat.le_of_ble_eq_true hh
theorem kz {a b:Nat} (hh:Nat.blt a b=true):a<b:=by rw [Nat.blt_eq] at hh; exact hh
theorem okB {k:Bool->OR} (hh:v0.NM .no k = .ok v h n):∃ b,v0 = .b b/\k b = .ok v h n:=by
 rcases V.wc v0 .no k with e | ⟨b,e1,e2⟩
 ·rw [e] at hh; cases hh
 exact ⟨b,e1,e2▸hh⟩
theorem okI {k:IntKind->Int->OR} (hh:v0.Jo .no k = .ok v h n):∃ t b,v0 = .i t b/\k t b = .ok v h n:=by
 rcases V.ze v0 .no k with e | ⟨t,b,e1,e2⟩
 ·rw [e] at hh; cases hh
 exact ⟨t,b,e1,e2▸hh⟩
theorem WQ {k:Nat->Nat->OR} (hh:v0.D4 .no k = .ok v h n):∃ t b,v0 = .s t b/\k t b = .ok v h n:=by
 rcases V.zh v0 .no k with e | ⟨t,b,e1,e2⟩
 ·rw [e] at hh; cases hh
 exact ⟨t,b,e1,e2▸hh⟩
theorem WR {k:Nat->Nat->OR} (hh:v0.UZ .no k = .ok v h n):∃ t b,v0 = .p t b/\k t b = .ok v h n:=by
 rcases V.Wu v0 .no k with e | ⟨t,b,e1,e2⟩
 ·rw [e] at hh; cases hh
 exact ⟨t,b,e1,e2▸hh⟩
theorem okA {k:V->OR} (hh:v0.Ra .no k = .ok v h n):∃ b,v0 = .a b/\k b = .ok v h n:=by
 rcases V.D5 v0 .no k with e | ⟨b,e1,e2⟩
 ·rw [e] at hh; cases hh
 exact ⟨b,e1,e2▸hh⟩
theorem ahJ {k:V->OR} (hh:v0.U1 .no k = .ok v h n):∃ b,v0 = .t b/\k b = .ok v h n:=by
 rcases V.D6 v0 .no k with e | ⟨b,e1,e2⟩
 ·rw [e] at hh; cases hh
 exact ⟨b,e1,e2▸hh⟩
theorem okM {k:Nat->OR} (hh:v0.IM .no k = .ok v h n):∃ b,v0 = .m b/\k b = .ok v h n:=by
 rcases V.D7 v0 .no k with e | ⟨b,e1,e2⟩
 ·rw [e] at hh; cases hh
 exact ⟨b,e1,e2▸hh⟩
theorem Av {d k0 k3:OR} {k1 k2:Nat->Nat->Nat->Nat->OR} (hh:v0.pI d k0 k1 k2 k3 = .ok v h n):d = .ok v h n\/(v0 = .ns/\k0 = .ok v h n)\/(∃ b o l c,v0 = .sl b o l c/\k1 b o l c = .ok v h n)\/
  (∃ b o l c,v0 = .sx b o l c/\k2 b o l c = .ok v h n)\/(v0 = .se/\k3 = .ok v h n):=by
 rcases V.Rc v0 d k0 k1 k2 k3 with e | ⟨e1,e2⟩ | ⟨b,o,l,c,e1,e2⟩ | ⟨b,o,l,c,e1,e2⟩ | ⟨e1,e2⟩
 ·exact .inl (e▸hh)
 ·exact .inr (.inl ⟨e1,e2▸hh⟩)
 ·exact .inr (.inr (.inl ⟨b,o,l,c,e1,e2▸hh⟩))
 ·exact .inr (.inr (.inr (.inl ⟨b,o,l,c,e1,e2▸hh⟩)))
 exact .inr (.inr (.inr (.inr ⟨e1,e2▸hh⟩)))
theorem Ee {m:Int} {k:Nat->OR} (hh:WH m k = .ok v h n):∃ j:Nat,m=(j:Int)/\k j = .ok v h n:=by
 cases m with
 | ofNat j=>exact ⟨j,rfl,hh⟩
 | negSucc j=>cases hh
theorem oG {k:Nat->OR} (hh:Ea v0 k = .ok v h n):∃ (t:IntKind) (j:Nat),v0 = .i t (j:Int)/\k j = .ok v h n:=by
 obtain ⟨t,b,e,hh⟩:=okI hh
 obtain ⟨j,e2,hh⟩:=Ee hh
 exact ⟨t,j,by rw [e,e2],hh⟩
theorem ahL {k0:OR} {k:IntKind->Int->OR} (hh:v0.NN .no k0 k = .ok v h n):(v0 = .e/\k0 = .ok v h n)\/∃ t b,v0 = .i t b/\k t b = .ok v h n:=by
 rcases V.Rd v0 .no k0 k with e | ⟨e1,e2⟩ | ⟨t,b,e1,e2⟩
 ·rw [e] at hh; cases hh
 ·exact .inl ⟨e1,e2▸hh⟩
 exact .inr ⟨t,b,e1,e2▸hh⟩
theorem mi {x:Nat} {k:Nat->OR} (hh:Ai v0 x k = .ok v h n):∃ j,k j = .ok v h n/\((v0 = .e/\j=x)\/∃ t,v0 = .i t (j:Int)):=by
 rcases ahL hh with ⟨e,hh⟩ | ⟨t,b,e,hh⟩
 ·exact ⟨x,hh,.inl ⟨e,rfl⟩⟩
 obtain ⟨j,e2,hh⟩:=Ee hh
 exact ⟨j,hh,.inr ⟨t,by rw [e,e2]⟩⟩
theorem j9 {b:Nat} {k:Nat->Nat->Tr V->OR} (hh:ur h0 b k = .ok v h n):∃ m es t,dH h0 b = .c m es t/\k m es t = .ok v h n:=by
 rcases HB.Wz (dH h0 b) .no k with e | ⟨m,es,t,e1,e2⟩
 ·rw [show ur h0 b k=_ from e] at hh; cases hh
 exact ⟨m,es,t,e1,e2▸hh⟩
theorem lC {hb:HB} {k:Hp->OR} (hh:alloc hb h0 n0 k = .ok v h n):dH h0 n0 = .z/\k (eL h0 hb n0) = .ok v h n:=by
 rcases HB.WA (dH h0 n0) .no (k (eL h0 hb n0)) with e | ⟨e1,e2⟩
 ·rw [show alloc hb h0 n0 k=_ from e] at hh; cases hh
 exact ⟨e1,e2▸hh⟩
theorem acE {r:HB} {k:Nat->ML->OR} (hh:r.IM .no k = .ok v h n):∃ c l,r = .m c l/\k c l = .ok v h n:=by
 rcases HB.D7 r .no k with e | ⟨c,l,e1,e2⟩
 ·rw [e] at hh; cases hh
 exact ⟨c,l,e1,e2▸hh⟩
theorem Gu {r:HB} {k:Nat->ML->OR} (hh:r.NR k = .ok v h n):∃ c l,r = .m c l/\c<4294967296/\k c l = .ok v h n:=by
 obtain ⟨c,l,e1,e2⟩:=acE (show r.IM .no (λ c l=>dY (Nat.blt c 4294967296) (k c l) .no) = .ok v h n from hh)
 obtain ⟨e3,e4⟩:=dB e2
 exact ⟨c,l,e1,kz e3,e4⟩
theorem ahM {r:HB} {k:Nat->Nat->Nat->Nat->Nat->OR} (hh:r.U1 .no k = .ok v h n):∃ a b c d e,r = .it a b c d e/\k a b c d e = .ok v h n:=by
 rcases HB.D6 r .no k with e | ⟨a,b,c,d,f,e1,e2⟩
 ·rw [e] at hh; cases hh
 exact ⟨a,b,c,d,f,e1,e2▸hh⟩
theorem cA {v v':V} {h h':Hp} {n n':Nat} (hh:OR.ok v h n = .ok v' h' n'):v=v'/\h=h'/\n=n':=by injection hh with a b c; exact ⟨a,b,c⟩
end
def jV (P:Program) (Fr:lO) (ρ:Rn) (v:V) (h:Hp):Value->World->Prop:=λ y w'=>∃ ρ',Le ρ ρ'/\RH P Fr ρ' h w'/\RV ρ' v y
section
variable {P:Program} {Fr:lO} {ρ:Rn} {h h':Hp} {w:World} {v:V} {n n':Nat} {e:En} {e':Env}
theorem RH.post (hR:RH P Fr ρ h w) {y:Value} (hv:RV ρ v y):jV P Fr ρ v h y w:=⟨ρ,Le.refl ρ,hR,hv⟩
theorem kc {m:Sem Value} {y:Value} (hp:pr P m=some y) (hR:RH P Fr ρ h w) (hv:RV ρ v y):cU P m λ y=>jV P Fr ρ v h y w:=⟨y,hp,hR.post hv⟩
theorem RB {m:Sem Value} {y:Value} (hp:m.run P w = .ok y w) (hR:RH P Fr ρ h w) (hv:RV ρ v y):q7 P m w λ y=>jV P Fr ρ v h y w:=⟨y,hp,hR.post hv⟩
theorem Aw {k:OK} {x:Value} (hv:RV ρ v x) {u:V} (hh:v.cells .no k = .ok u h n):∃ l,k l = .ok u h n/\iB ρ l x.cells.toList/\∀ z∈x.cells.toList,fe z=true:=by
 cases v with
 | a l=>
  obtain ⟨ys,h1,h2,rfl⟩:=hv
  exact ⟨l,hh,by simpa [Value.cells] using h1,by simpa [Value.cells] using h2⟩
 | t l=>cases hh
 | e=>cases hh
 | c x r=>cases hh
 | b x=>subst hv; exact ⟨_,hh,⟨_,_,rfl,rfl,rfl⟩,by simp [Value.cells,fe]⟩
 | i k x=>subst hv; exact ⟨_,hh,⟨_,_,rfl,rfl,rfl⟩,by simp [Value.cells,fe]⟩
 | s k x=>subst hv; exact ⟨_,hh,⟨_,_,rfl,rfl,rfl⟩,by simp [Value.cells,fe]⟩
 | np=>subst hv; exact ⟨_,hh,⟨_,_,rfl,rfl,rfl⟩,by simp [Value.cells,fe]⟩
 | ns=>subst hv; exact ⟨_,hh,⟨_,_,rfl,rfl,rfl⟩,by simp [Value.cells,fe]⟩
 | nm=>subst hv; exact ⟨_,hh,⟨_,_,rfl,rfl,rfl⟩,by simp [Value.cells,fe]⟩
 | nf=>subst hv; exact ⟨_,hh,⟨_,_,rfl,rfl,rfl⟩,by simp [Value.cells,fe]⟩
 | p b o=>have oP:=hv; obtain ⟨q,_,rfl⟩:=hv; exact ⟨_,hh,⟨_,_,rfl,oP,rfl⟩,by simp [Value.cells,fe]⟩
 | sl b o l d=>have oP:=hv; obtain ⟨q,_,_,rfl⟩:=hv; exact ⟨_,hh,⟨_,_,rfl,oP,rfl⟩,by simp [Value.cells,fe]⟩
 | sx b o l d=>have oP:=hv; obtain ⟨q,_,_,rfl⟩:=hv; exact ⟨_,hh,⟨_,_,rfl,oP,rfl⟩,by simp [Value.cells,fe]⟩
 | se=>have oP:=hv; obtain ⟨a,c,rfl⟩:=hv; exact ⟨_,hh,⟨_,_,rfl,oP,rfl⟩,by simp [Value.cells,fe]⟩
 | m r=>have oP:=hv; obtain ⟨q,_,rfl⟩:=hv; exact ⟨_,hh,⟨_,_,rfl,oP,rfl⟩,by simp [Value.cells,fe]⟩
 | f g c=>have oP:=hv; obtain ⟨q,_,rfl⟩:=hv; exact ⟨_,hh,⟨_,_,rfl,oP,rfl⟩,by simp [Value.cells,fe]⟩
 | y l=>have oP:=hv; obtain ⟨q,_,rfl⟩:=hv; exact ⟨_,hh,⟨_,_,rfl,oP,rfl⟩,by simp [Value.cells,fe]⟩
theorem ahN {q:Oq} {T:TypeId} {x:Value} (ht:Nt P T) (hR:RH P Fr ρ h w) (hx:RV ρ (ek e q) x) (hh:WI e h n q = .ok v h' n'):q7 P (Instr.loadAt T x) w λ y=>jV P Fr ρ v h' y w:=by
 obtain ⟨b,o,e1,hh⟩:=WR hh
 obtain ⟨m,es,t,hb,hh⟩:=j9 hh
 obtain ⟨eU,hh⟩:=dB hh
 rw [V.ri] at hh
 obtain ⟨rfl,rfl,_⟩:=cA hh
 rw [e1] at hx
 obtain ⟨q,h1,rfl⟩:=hx
 obtain ⟨q',cs,ty,fz,g1,g2,_,_,_,_,_,g8⟩:=hR.cells hb
 rw [h1] at g1; cases g1
 obtain ⟨y,g9,g10,_⟩:=g8 o (kz eU)
 exact RB (aD ht (cell_of g2 g9)) hR g10
theorem aaD {q:Oq} {T:TypeId} {x:Value} {k:Nat} (ht:Qj P T k) (hR:RH P Fr ρ h w) (hx:RV ρ (ek e q) x) (hh:LK e h n k q = .ok v h' n'):q7 P (Instr.loadAt T x) w λ y=>jV P Fr ρ v h' y w:=by
 obtain ⟨b,o,e1,hh⟩:=WR hh
 obtain ⟨m,es,t,hb,hh⟩:=j9 hh
 obtain ⟨hle,hh⟩:=dB hh
 obtain ⟨rfl,rfl,_⟩:=cA hh
 rw [e1] at hx
 obtain ⟨q,h1,rfl⟩:=hx
 obtain ⟨q',cs,ty,fz,g1,g2,_,_,_,_,g7,g8⟩:=hR.cells hb
 rw [h1] at g1; cases g1
 obtain ⟨xs,k1,_,k3,k4,k5⟩:=Ed (w:=w) g2 g7 g8 (show o+k<=m from dQ hle)
 exact RB (rL (by rw [k1]; exact ht) k5) hR ⟨xs,k3.rd k1,k4,rfl⟩
theorem anV {q:Oq} {s f off:Nat} {x:Value} (ht:uI P s f off) (hR:RH P Fr ρ h w) (hx:RV ρ (ek e q) x) (hh:ahz e h n off q = .ok v h' n'):cU P (Instr.fieldAt s x f) λ y=>jV P Fr ρ v h' y w:=by
 obtain ⟨b,o,e1,hh⟩:=WR hh
 obtain ⟨rfl,rfl,_⟩:=cA hh
 rw [e1] at hx
 obtain ⟨q,h1,rfl⟩:=hx
 exact kc (zM ht) hR ⟨q,h1,by rw [Nat.add_assoc]; rfl⟩
theorem ahO {q:Oq} {x:Value} (hR:RH P Fr ρ h w) (hx:RV ρ (ek e q) x) (hh:Gm e h n q = .ok v h' n'):cU P (IU x) λ y=>jV P Fr ρ v h' y w:=by
 rcases V.Rb (ek e q) .no (λ b o=>OR.ok (.p b o) h n) (λ g c=>OR.ok (.f g c) h n) with e1 | ⟨b,o,e1,e2⟩ | ⟨g,c,e1,e2⟩
 ·rw [show Gm e h n q=_ from e1] at hh; cases hh
 ·rw [show Gm e h n q=_ from e2] at hh
  obtain ⟨rfl,rfl,_⟩:=cA hh
  rw [e1] at hx
  have Nn:=hx
  obtain ⟨q,h1,rfl⟩:=hx
  exact kc rfl hR Nn
 rw [show Gm e h n q=_ from e2] at hh
 obtain ⟨rfl,rfl,_⟩:=cA hh
 rw [e1] at hx
 have Nn:=hx
 obtain ⟨ys,h1,rfl⟩:=hx
 exact kc rfl hR Nn
theorem acF {c a b:Oq} {x y z:Value} (hR:RH P Fr ρ h w) (hx:RV ρ (ek e c) x) (hy:RV ρ (ek e a) y) (hz:RV ρ (ek e b) z) (hh:Rl e h n c a b = .ok v h' n'):cU P (KP x y z) λ y=>jV P Fr ρ v h' y w:=by
 obtain ⟨t,e1,hh⟩:=okB hh
 rw [e1] at hx
 obtain rfl:x = .bool t:=hx
 cases t with
 | true=>change (ek e a).fc (λ v=>.ok v h n)=_ at hh; rw [V.ri] at hh; obtain ⟨rfl,rfl,_⟩:=cA hh; exact kc rfl hR hy
 | false=>change (ek e b).fc (λ v=>.ok v h n)=_ at hh; rw [V.ri] at hh; obtain ⟨rfl,rfl,_⟩:=cA hh; exact kc rfl hR hz
theorem ahP {q:Oq} {x:Value} (hR:RH P Fr ρ h w) (hx:RV ρ (ek e q) x) (hh:aai e h n q = .ok v h' n'):cU P (Op.unary .not x) λ y=>jV P Fr ρ v h' y w:=by
 obtain ⟨t,e1,hh⟩:=okB hh
 obtain ⟨rfl,rfl,_⟩:=cA hh
 rw [e1] at hx
 obtain rfl:x = .bool t:=hx
 exact kc (y:=.bool (!t)) rfl hR (show _=_ by rw [qG])
theorem aaE {q:Oq} {f:Value->Sem Value} {x:Value} (hR:RH P Fr ρ h w) (hx:RV ρ (ek e q) x) (hh:(acu P f (ek e q) λ v=>.ok v h n) = .ok v h' n'):cU P (f x) λ y=>jV P Fr ρ v h' y w:=by
 unfold acu at hh
 cases h1:toV (ek e q) with
 | none=>rw [h1] at hh; cases hh
 | some a=>
  rw [h1] at hh
  dsimp only at hh
  have:x=a:=(tA (ek e q)).1 _ _ h1 hx
  subst this
  cases h2:pr P (f x) with
  | none=>rw [h2] at hh; cases hh
  | some r=>
   rw [h2] at hh
   dsimp only [okO] at hh
   cases h3:pH r with
   | none=>rw [h3] at hh; cases hh
   | some u=>
    rw [h3] at hh
    obtain ⟨rfl,rfl,_⟩:=cA hh
    exact kc h2 hR (lX h3)
theorem JB {q:OL} {f:List Value->Sem Value} {xs:List Value} (hR:RH P Fr ρ h w) (hx:iB ρ (UY e q) xs) (hh:(Rk P f (UY e q) λ v=>.ok v h n) = .ok v h' n'):cU P (f xs) λ y=>jV P Fr ρ v h' y w:=by
 unfold Rk at hh
 cases h1:(BI (UY e q)).2 with
 | none=>rw [h1] at hh; cases hh
 | some a=>
  rw [h1] at hh
  dsimp only at hh
  have:xs=a:=(tA (UY e q)).2 _ _ h1 hx
  subst this
  cases h2:pr P (f xs) with
  | none=>rw [h2] at hh; cases hh
  | some r=>
   rw [h2] at hh
   dsimp only [okO] at hh
   cases h3:pH r with
   | none=>rw [h3] at hh; cases hh
   | some u=>
    rw [h3] at hh
    obtain ⟨rfl,rfl,_⟩:=cA hh
    exact kc h2 hR (lX h3)
theorem ahQ {q:Oq} {i:Nat} {x:Value} (hR:RH P Fr ρ h w) (hx:RV ρ (ek e q) x) (hh:aao e h n i q = .ok v h' n'):cU P (Instr.extract x i) λ y=>jV P Fr ρ v h' y w:=by
 obtain ⟨l,e1,hh⟩:=ahJ hh
 rw [e1] at hx
 obtain ⟨ys,h1,rfl⟩:=hx
 rcases xr (k:=λ v=>v.fc λ v=>.ok v h n) i h1 with h2 | ⟨u,x,h2,h3,h4⟩
 ·rw [h2] at hh; cases hh
 rw [h2,V.ri] at hh
 obtain ⟨rfl,rfl,_⟩:=cA hh
 obtain ⟨y,p1,p2⟩:=(aR (P:=P) (K:=λ y=>y=x) h3 rfl).ex
 exact kc p1 hR (p2▸h4)
theorem ahR {q lo hi:Oq} {T:TypeId} {x:Value} {ol oh:Option Operand} (hT:P.underlying T=some .string) (hR:RH P Fr ρ h w) (hE:RE ρ e e') (hx:RV ρ (ek e q) x)
  (hlo:U4 ol=some lo) (hhi:U4 oh=some hi) (hh:aan e h n q lo hi = .ok v h' n'):cU P (Instr.sliceAt T x (ol.map (ev e')) (oh.map (ev e')) none) λ y=>jV P Fr ρ v h' y w:=by
 obtain ⟨c,l,e1,hh⟩:=WQ hh
 obtain ⟨k,hh,hk⟩:=mi hh
 obtain ⟨j,hh,hj⟩:=mi hh
 obtain ⟨hc,hh⟩:=dB hh
 obtain ⟨Bv,Np⟩:=dI hc
 have Bv:=dQ Bv
 have Np:=dQ Np
 obtain ⟨rfl,rfl,_⟩:=cA hh
 rw [e1] at hx
 obtain rfl:x = .string (strOf c l):=hx
 have bnd:∀ {o:Option Operand} {q:Oq} {d i:Nat},U4 o=some q->((ek e q = .e/\i=d)\/∃ t,ek e q = .i t (i:Int))->(o=none/\i=d)\/∃ t,o.map (ev e')=some (.int t (i:Int)):=by
  intro o q d i ho hi
  cases o with
  | none=>
   cases ho
   rcases hi with ⟨_,hi⟩ | ⟨t,hi⟩
   ·exact .inl ⟨rfl,hi⟩
   ·cases hi
  | some y=>
   have:=bG hE (q:=q) ho
   rcases hi with ⟨hi,_⟩ | ⟨t,hi⟩
   ·rw [hi] at this; exact this.elim
   ·rw [hi] at this; exact .inr ⟨t,congrArg some this⟩
 have pb:∀ {t:IntKind} {y i:Nat} {code:BoundsCode},i<=y->pr P (Instr.sliceBound (.int t (i:Int)) y code)=some i:=by
  intro t y i code hi
  show pr P (if 0<=(i:Int)/\(i:Int)<=(y:Int) then pure ((i:Int)).toNat else _)=_
  rw [if_pos ⟨by omega,by omega⟩]; rfl
 have hb:pr P (Instr.sliceBounds false (strOf c l).size (strOf c l).size (ol.map (ev e')) (oh.map (ev e')) none)=some (j,k,l):=by
  rw [ed]
  rcases bnd hhi hk with ⟨rfl,rfl⟩ | ⟨t,e2⟩
  ·rcases bnd hlo hj with ⟨rfl,rfl⟩ | ⟨t',e3⟩
   ·rfl
   ·rw [e3]
    simp only [Instr.sliceBounds,aK,cR,Option.bind_some,Option.map_none]
    rw [pb (by omega)]; rfl
  ·rw [e2]
   rcases bnd hlo hj with ⟨rfl,rfl⟩ | ⟨t',e3⟩
   ·simp only [Instr.sliceBounds,aK,cR,Option.bind_some,Option.map_none]
    rw [pb (by omega)]; rfl
   ·rw [e3]
    simp only [Instr.sliceBounds,aK,cR,Option.bind_some]
    rw [pb (by omega)]
    simp only [Option.bind_some]
    rw [pb (by omega)]; rfl
 refine kc (y:=.string ((strOf c l).extract j k)) ?_ hR (show _=_ by rw [<- NT Bv Np]; rfl)
 unfold Instr.sliceAt
 rw [aK,aM hT]
 simp only [Option.bind_some]
 unfold Instr.slice
 rw [aK,aM hT]
 simp only [Option.bind_some]
 rw [if_neg (by decide),aK,hb]; rfl
theorem ahT {q i:Oq} {T:TypeId} {x y:Value} (hT:P.underlying T=some .string) (hR:RH P Fr ρ h w) (hx:RV ρ (ek e q) x) (hy:RV ρ (ek e i) y) (hh:aal e h n q i = .ok v h' n'):cU P (Instr.index T x y) λ y=>jV P Fr ρ v h' y w:=by
 obtain ⟨t,j,e1,hh⟩:=oG hh
 obtain ⟨c,l,e2,hh⟩:=WQ hh
 obtain ⟨eU,hh⟩:=dB hh
 have eU:=kz eU
 obtain ⟨rfl,rfl,_⟩:=cA hh
 rw [e1] at hy
 rw [e2] at hx
 obtain rfl:y = .int t (j:Int):=hy
 obtain rfl:x = .string (strOf c l):=hx
 have hs:(strOf c l)[j]? = some (ky c j):=by
  have:=kM (n:=c) eU
  rw [Lq] at this
  by_cases hj:j<(strOf c l).size
  ·rw [dif_pos hj] at this; rw [ByteArray.getElem?_lt' _ _ hj,this]
  ·rw [ed] at hj; exact absurd eU hj
 refine kc (y:=.int .u8 ((ky c j).toNat:Int)) ?_ hR (show _=_ by
  rw [fD]
  show Value.int .u8 _=Value.int .u8 ((c >>> (8 * j) % 256:Nat):Int)
  rw [Nat.shiftRight_eq_div_pow])
 have h3:(if 0<=(j:Int) then (strOf c l)[(j:Int).toNat]? else none)=some (ky c j):=by rw [if_pos (by omega)]; exact hs
 unfold Instr.index
 simp only [asIntOf,aK,aM hT,Option.bind_some,cR,h3]
theorem anX {q i:Oq} {T E es:Nat} {x y:Value} (hT:P.underlying T=some (.slice E)) (hs:nT P E=es) (h1:1<=es) (hR:RH P Fr ρ h w) (hx:RV ρ (ek e q) x) (hy:RV ρ (ek e i) y) (hh:ahA e h n es q i = .ok v h' n') :
  cU P (Instr.indexAt T x y) λ y=>jV P Fr ρ v h' y w:=by
 have iN:pr P (sizeOf E)=some es:=by
  unfold nT at hs
  cases hi:P.info? E with
  | none=>rw [hi] at hs; simp at hs; omega
  | some inf=>rw [hi] at hs; rw [fX hi]; simpa using hs
 obtain ⟨t,j,e1,hh⟩:=oG hh
 rw [e1] at hy
 obtain rfl:y = .int t (j:Int):=hy
 have key:∀ {b o l:Nat} {q:Pl} {c:Nat},j<l->ρ b=some q->v = .p b (o+j * es)->cU P (Instr.indexAt T (.slice (some ⟨q.k,q.b+o,none⟩) l c) (.int t (j:Int))) λ y=>jV P Fr ρ v h y w:=by
  intro b o l q c eU hb hv
  refine kc (y:=.pointer (some ⟨q.k,q.b+o+j * es,none⟩)) ?_ hR (by rw [hv]; exact ⟨q,hb,by rw [Nat.add_assoc]⟩)
  unfold Instr.indexAt
  simp only [asIntOf,aK,aM hT,Option.bind_some,cR]
  rw [if_pos (show 0<=(j:Int)/\(j:Int)<(l:Int) by omega),aK,iN]
  show some (Value.pointer (some ((⟨q.k,q.b+o,none⟩:Addr).add ((j:Int).toNat * es))))=_
  rw [dK]; rfl
 rcases Av hh with hh | ⟨_,hh⟩ | ⟨b,o,l,c,e2,hh⟩ | ⟨b,o,l,c,e2,hh⟩ | ⟨_,hh⟩
 ·cases hh
 ·cases hh
 ·obtain ⟨eU,hh⟩:=dB hh
  obtain ⟨rfl,rfl,_⟩:=cA hh
  rw [e2] at hx
  obtain ⟨q,hb,_,rfl⟩:=hx
  exact key (kz eU) hb rfl
 ·obtain ⟨eU,hh⟩:=dB hh
  obtain ⟨rfl,rfl,_⟩:=cA hh
  rw [e2] at hx
  obtain ⟨q,hb,_,rfl⟩:=hx
  exact key (kz eU) hb rfl
 cases hh
theorem ahU {q i:Oq} {T E es k:Nat} {x y:Value} (hT:P.underlying T=some (.array k E)) (hs:nT P E=es) (h1:1<=es) (hR:RH P Fr ρ h w) (hx:RV ρ (ek e q) x) (hy:RV ρ (ek e i) y) (hh:aaj e h n k es q i = .ok v h' n') :
  cU P (Instr.indexAt T x y) λ y=>jV P Fr ρ v h' y w:=by
 have iN:pr P (sizeOf E)=some es:=by
  unfold nT at hs
  cases hi:P.info? E with
  | none=>rw [hi] at hs; simp at hs; omega
  | some inf=>rw [hi] at hs; rw [fX hi]; simpa using hs
 obtain ⟨t,j,e1,hh⟩:=oG hh
 rw [e1] at hy
 obtain rfl:y = .int t (j:Int):=hy
 obtain ⟨b,o,e2,hh⟩:=WR hh
 obtain ⟨eU,hh⟩:=dB hh
 have eU:=kz eU
 obtain ⟨rfl,rfl,_⟩:=cA hh
 rw [e2] at hx
 obtain ⟨q,hb,rfl⟩:=hx
 refine kc (y:=.pointer (some ⟨q.k,q.b+o+j * es,none⟩)) ?_ hR ⟨q,hb,by rw [Nat.add_assoc]; rfl⟩
 unfold Instr.indexAt
 simp only [asIntOf,aK,aM hT,Option.bind_some,cR,Instr.sureAddr]
 rw [if_pos (show 0<=(j:Int)/\(j:Int)<(k:Int) by omega),aK,iN]
 show some (Value.pointer (some ((⟨q.k,q.b+o,none⟩:Addr).add ((j:Int).toNat * es))))=_
 rw [dK]; rfl
end
section
variable {P:Program} {Fr:lO} {ρ:Rn} {h h':Hp} {w:World} {v:V} {n n':Nat} {e:En} {e':Env}
theorem aaF (k:OK) (t:IntKind) (m:Int):kI k t m=k (.i t m):=by cases m <;> rfl
theorem rj (k:OK) (b:Bool):kB k b=k (.b b):=by cases b <;> rfl
theorem ahV (k:OK) (a b:Nat):kS k a b=k (.s a b):=by unfold kS; cases Nat.ble a 0 <;> rfl
def vj (P:Program) (ρ:Rn) (m:Sem Value) (d:OR) (c:OK) (r:OR):Prop:=r=d\/r = .no\/∃ u y,r=c u/\pr P m=some y/\RV ρ u y
theorem vj.yes {m:Sem Value} {d:OR} {c:OK} {u:V} {y:Value} (hp:pr P m=some y) (hv:RV ρ u y):vj P ρ m d c (c u):=.inr (.inr ⟨u,y,rfl,hp,hv⟩)
theorem NX {op:BinOp} {t:TypeId} {cx cy:Bool} {k:IntKind} {a b:Int} {d:OR} {c:OK}:vj P ρ (fL op t cx cy (.int k a) (.int k b)) d c (WE op k a b d c):=by
 have Gv:∀ {A B:Sem Value},(if k≠k then A else B)=B:=fun {A B}=>if_neg (by simp)
 cases op <;> try exact .inl rfl
 ·show vj P ρ _ d c (kI c k (acr k a b))
  rw [aaF]; exact .yes (y:=.int k (k.wrap (a+b))) (by show pr P (if k≠k then _ else _)=_; rw [Gv]; rfl) (show _=_ by rw [WN])
 ·show vj P ρ _ d c (kI c k (acs k a b))
  rw [aaF]; exact .yes (y:=.int k (k.wrap (a - b))) (by show pr P (if k≠k then _ else _)=_; rw [Gv]; rfl) (show _=_ by rw [WO])
 ·show vj P ρ _ d c (kB c (Ri a b))
  rw [rj]; exact .yes (y:=.bool (a == b)) (by show pr P (if k≠k then _ else _)=_; rw [Gv]; rfl) (show _=_ by rw [tz]; rfl)
 ·show vj P ρ _ d c (kB c (xn (Ri a b)))
  rw [rj]; exact .yes (y:=.bool (a != b)) (by show pr P (if k≠k then _ else _)=_; rw [Gv]; rfl) (show _=_ by rw [qG,tz]; rfl)
 ·show vj P ρ _ d c (kB c (WD a b))
  rw [rj]; exact .yes (y:=.bool (decide (a<b))) (by show pr P (if k≠k then _ else _)=_; rw [Gv]; rfl) (show _=_ by rw [zn])
 ·show vj P ρ _ d c (kB c (xn (WD b a)))
  rw [rj]; exact .yes (y:=.bool (decide (a<=b))) (by show pr P (if k≠k then _ else _)=_; rw [Gv]; rfl) (show _=_ by rw [qG,zn]; by_cases hh:b<a <;> simp [hh] <;> omega)
 ·show vj P ρ _ d c (kB c (WD b a))
  rw [rj]; exact .yes (y:=.bool (decide (a > b))) (by show pr P (if k≠k then _ else _)=_; rw [Gv]; rfl) (show _=_ by rw [zn])
 show vj P ρ _ d c (kB c (xn (WD a b)))
 rw [rj]; exact .yes (y:=.bool (decide (a >= b))) (by show pr P (if k≠k then _ else _)=_; rw [Gv]; rfl) (show _=_ by rw [qG,zn]; by_cases hh:a<b <;> simp [hh] <;> omega)
theorem NY {op:BinOp} {t:TypeId} {cx cy:Bool} {a l a' l':Nat} {d:OR} {c:OK}:vj P ρ (fL op t cx cy (.string (strOf a l)) (.string (strOf a' l'))) d c (WG op a l a' l' d c):=by
 cases op <;> try exact .inl rfl
 ·show vj P ρ _ d c (dY (Nat.ble (l+l') 1073741824) _ d)
  cases hl:Nat.ble (l+l') 1073741824 with
  | false=>exact .inl rfl
  | true=>
   have hl:=dQ hl
   show vj P ρ _ d c (kS c _ _)
   rw [ahV]
   refine .yes (y:=.string (strOf a l++strOf a' l')) ?_ (show _=_ by rw [<- NU]; rfl)
   show pr P (if (((strOf a l).size+(strOf a' l').size:Nat):Int) > IntKind.i64.max then _ else _)=_
   rw [if_neg]
   ·rfl
   ·rw [ed,ed,show IntKind.i64.max=9223372036854775807 from by decide]; omega
 ·show vj P ρ _ d c (kB c (BJ a l a' l'))
  rw [rj]; exact .yes (y:=.bool ((strOf a l).toList == (strOf a' l').toList)) rfl (show _=_ by rw [nz,qz])
 show vj P ρ _ d c (kB c (xn (BJ a l a' l')))
 rw [rj]; exact .yes (y:=.bool (!((strOf a l).toList == (strOf a' l').toList))) rfl (show _=_ by rw [qG,nz,qz])
theorem Gw {op:BinOp} {t:TypeId} {x y:Value} {r:Bool} {d:OR} {c:OK} {m:Sem Value} (hp:pr P (Op.equal t x y)=some r)
  (h1:op = .eql->m=do pure (.bool (<- Op.equal t x y))) (h2:op = .neq->m=do pure (.bool (!(<- Op.equal t x y)))):vj P ρ m d c (LH op r d c):=by
 cases op <;> try exact .inl rfl
 ·show vj P ρ _ d c (kB c r)
  rw [rj]; exact .yes (y:=.bool r) (by rw [h1 rfl,m8,hp]; rfl) rfl
 show vj P ρ _ d c (kB c (xn r))
 rw [rj]; exact .yes (y:=.bool (!r)) (by rw [h2 rfl,m8 _ (λ b=>Value.bool (!b)),hp]; rfl) (show _=_ by rw [qG])
theorem RC (a b:ByteArray):(a == b)=decide (a=b):=by
 obtain ⟨a⟩:=a
 obtain ⟨b⟩:=b
 show (a == b)=_
 rw [Bool.eq_iff_iff,beq_iff_eq,decide_eq_true_eq,ByteArray.mk.injEq]
theorem Gx {k:Nat} {x y:V} {a b:Value} {d:OR} {c:Bool->OR} (hx:RV ρ x a) (hy:RV ρ y b):D9 k x y d c=d\/(D9 k x y d c=c (eqV a b)/\jj a=some k/\jj b=some k):=by
 match k with
 | 0=>
  show x.Jo d _=d\/_
  rcases V.ze x d (λ k a=>y.Jo d λ k' a'=>dY (dD (Nat.beq (kn k) 3) (Nat.beq (kn k') 3)) (c (Ri a a')) d) with h1 | ⟨t,i,rfl,h1⟩
  ·exact .inl h1
  rcases V.ze y d (λ k' a'=>dY (dD (Nat.beq (kn t) 3) (Nat.beq (kn k') 3)) (c (Ri i a')) d) with h2 | ⟨t',i',rfl,h2⟩
  ·exact .inl (h1.trans h2)
  obtain rfl:a = .int t i:=hx
  obtain rfl:b = .int t' i':=hy
  have e:=h1.trans h2
  cases ht:Nat.beq (kn t) 3 with
  | false=>exact .inl (e.trans (by rw [ht]; rfl))
  | true=>cases ht':Nat.beq (kn t') 3 with
   | false=>exact .inl (e.trans (by rw [ht,ht']; rfl))
   | true=>
    have e1:t = .i64:=Ap (b:=.i64) ht
    have e2:t' = .i64:=Ap (b:=.i64) ht'
    subst e1; subst e2
    exact .inr ⟨e.trans (by show c (Ri i i')=_; rw [tz]; rfl),rfl,rfl⟩
 | 1=>
  show x.NM d _=d\/_
  rcases V.wc x d (λ a=>y.NM d λ a'=>c (NP a a')) with h1 | ⟨i,rfl,h1⟩
  ·exact .inl h1
  rcases V.wc y d (λ a'=>c (NP i a')) with h2 | ⟨i',rfl,h2⟩
  ·exact .inl (h1.trans h2)
  obtain rfl:a = .bool i:=hx
  obtain rfl:b = .bool i':=hy
  exact .inr ⟨(h1.trans h2).trans (by rw [Aq]; rfl),rfl,rfl⟩
 | 2=>
  show x.D4 d _=d\/_
  rcases V.zh x d (λ n l=>y.D4 d λ n' l'=>c (BJ n l n' l')) with h1 | ⟨t,i,rfl,h1⟩
  ·exact .inl h1
  rcases V.zh y d (λ n' l'=>c (BJ t i n' l')) with h2 | ⟨t',i',rfl,h2⟩
  ·exact .inl (h1.trans h2)
  obtain rfl:a = .string (strOf t i):=hx
  obtain rfl:b = .string (strOf t' i'):=hy
  exact .inr ⟨(h1.trans h2).trans (by rw [nz]; exact congrArg c (RC _ _).symm),rfl,rfl⟩
 | k+3=>exact .inl rfl
theorem Ef:∀ {ks:List Nat} {x y:V} {xs ys:List Value} {d:OR} {c:Bool->OR},iB ρ x xs->iB ρ y ys->
  oF ks x y d c=d\/(oF ks x y d c=c (lR xs ys)/\xs.map jj=ks.map some/\ys.map jj=ks.map some):=by
 intro ks
 induction ks with
 | nil=>
  intro x y xs ys d c hx hy
  cases x <;> first | exact hx.elim | exact .inl rfl | skip
  cases y <;> first | exact hy.elim | exact .inl rfl | skip
  rw [iB.qH hx,iB.qH hy]
  exact .inr ⟨rfl,rfl,rfl⟩
 | cons k ks ih=>
  intro x y xs ys d c hx hy
  cases x <;> first | exact hx.elim | exact .inl rfl | skip
  cases y <;> first | exact hy.elim | exact .inl rfl | skip
  rename_i hh rr hh' rr'
  obtain ⟨z,zs,rfl,h2,h3⟩:=hx
  obtain ⟨z',zs',rfl,h2',h3'⟩:=hy
  have e:oF (k::ks) (.c hh rr) (.c hh' rr') d c=D9 k hh hh' d λ b=>oF ks rr rr' d λ b'=>c (dD b b'):=rfl
  rcases Gx (k:=k) (d:=d) (c:=λ b=>oF ks rr rr' d λ b'=>c (dD b b')) h2 h2' with h4 | ⟨h4,h5,h6⟩
  ·exact .inl (e.trans h4)
  ·rcases ih (d:=d) (c:=λ b'=>c (dD (eqV z z') b')) h3 h3' with h7 | ⟨h7,h8,h9⟩
   ·exact .inl ((e.trans h4).trans h7)
   ·exact .inr ⟨((e.trans h4).trans h7).trans (by rw [WL]; rfl),by simp [h5,h8],by simp [h6,h9]⟩
theorem vj.ok {m:Sem Value} {d:OR} {u:V} {hh:Hp} (ha:vj P ρ m d (λ v=>.ok v h n) (.ok u hh n')) (hd:d = .ok u hh n'->∃ y,pr P m=some y/\RV ρ u y/\hh=h):∃ y,pr P m=some y/\RV ρ u y/\hh=h:=by
 rcases ha with h1 | h1 | ⟨u',y,h1,h2,h3⟩
 ·exact hd h1.symm
 ·cases h1
 obtain ⟨rfl,rfl,_⟩:=cA h1; exact ⟨y,h2,h3,rfl⟩
theorem qL {f:V->OR->(Bool->OR)->OR} {op:BinOp} {t:TypeId} {x y:V} {a b:Value} {d:OR} {c:OK} {m:Sem Value} {nl:Value->Bool->Prop}
  (hf:∀ (v:V) (a:Value) (d:OR) (c:Bool->OR),RV ρ v a->f v d c=d\/∃ r,f v d c=c r/\nl a r)
  (he:∀ r r',nl a r->nl b r'->r=true\/r'=true->pr P (Op.equal t a b)=some (r && r')) (hx:RV ρ x a) (hy:RV ρ y b)
  (h1:op = .eql->(∃ r,nl a r)->(∃ r,nl b r)->m=do pure (.bool (<- Op.equal t a b))) (h2:op = .neq->(∃ r,nl a r)->(∃ r,nl b r)->m=do pure (.bool (!(<- Op.equal t a b)))):vj P ρ m d c (Cp f op x y d c):=by
 unfold Cp
 rcases hf x a d (λ a=>f y d λ b=>dY a (LH op b d c) (dY b (LH op a d c) d)) hx with e1 | ⟨r,e1,n1⟩
 ·exact .inl e1
 rw [e1]
 rcases hf y b d (λ b=>dY r (LH op b d c) (dY b (LH op r d c) d)) hy with e2 | ⟨r',e2,n2⟩
 ·exact .inl e2
 rw [e2]
 have key:=λ hr=>Gw (ρ:=ρ) (d:=d) (c:=c) (he r r' n1 n2 hr) (λ ho=>h1 ho ⟨r,n1⟩ ⟨r',n2⟩) (λ ho=>h2 ho ⟨r,n1⟩ ⟨r',n2⟩)
 cases r with
 | true=>have:=key (.inl rfl); rwa [Bool.true_and] at this
 | false=>cases r' with
  | true=>exact key (.inr rfl)
  | false=>exact .inl rfl
def nlP (a:Value) (r:Bool):Prop:=∃ p,a = .pointer p/\r=p.isNone
def nlS (a:Value) (r:Bool):Prop:=∃ p l c,a = .slice p l c/\r=p.isNone
def nlM (a:Value) (r:Bool):Prop:=∃ p,a = .map p/\r=p.isNone
def nlF (a:Value) (r:Bool):Prop:=(a = .nilFunc/\r=true)\/∃ g x y,a = .func g x y/\r=false
theorem Gy (v:V) (a:Value) (d:OR) (c:Bool->OR) (hv:RV ρ v a):Jq v d c=d\/∃ r,Jq v d c=c r/\nlP a r:=by
 cases v <;> try exact .inl rfl
 ·exact .inr ⟨true,rfl,none,hv,rfl⟩
 obtain ⟨q,_,h2⟩:=hv; exact .inr ⟨false,rfl,_,h2,rfl⟩
theorem Gz (v:V) (a:Value) (d:OR) (c:Bool->OR) (hv:RV ρ v a):Jr v d c=d\/∃ r,Jr v d c=c r/\nlS a r:=by
 cases v <;> try exact .inl rfl
 ·exact .inr ⟨true,rfl,none,_,_,hv,rfl⟩
 ·obtain ⟨q,_,_,h2⟩:=hv; exact .inr ⟨false,rfl,_,_,_,h2,rfl⟩
 ·obtain ⟨q,_,_,h2⟩:=hv; exact .inr ⟨false,rfl,_,_,_,h2,rfl⟩
 obtain ⟨q,_,h2⟩:=hv; exact .inr ⟨false,rfl,_,_,_,h2,rfl⟩
theorem GA (v:V) (a:Value) (d:OR) (c:Bool->OR) (hv:RV ρ v a):Js v d c=d\/∃ r,Js v d c=c r/\nlM a r:=by
 cases v <;> try exact .inl rfl
 ·exact .inr ⟨true,rfl,none,hv,rfl⟩
 obtain ⟨q,_,h2⟩:=hv; exact .inr ⟨false,rfl,_,h2,rfl⟩
theorem GB (v:V) (a:Value) (d:OR) (c:Bool->OR) (hv:RV ρ v a):Jt v d c=d\/∃ r,Jt v d c=c r/\nlF a r:=by
 cases v <;> try exact .inl rfl
 ·exact .inr ⟨true,rfl,.inl ⟨hv,rfl⟩⟩
 ·obtain ⟨q,_,h2⟩:=hv; exact .inr ⟨false,rfl,.inr ⟨_,_,_,h2,rfl⟩⟩
 obtain ⟨q,_,h2⟩:=hv; exact .inr ⟨false,rfl,.inr ⟨_,_,_,h2,rfl⟩⟩
theorem NZ {op:BinOp} {t:TypeId} {cx cy:Bool} {x y:V} {a b:Value} {d:OR} {c:OK} (hx:RV ρ x a) (hy:RV ρ y b):vj P ρ (fL op t cx cy a b) d c (xo op (NS P op t) x y d c):=by
 unfold NS
 split
 ·rename_i hu
  show vj P ρ _ d c (x.NM d _)
  rcases V.wc x d (λ a=>y.NM d λ b=>LH op (NP a b) d c) with h1 | ⟨i,rfl,h1⟩
  ·exact .inl h1
  rw [h1]
  rcases V.wc y d (λ b=>LH op (NP i b) d c) with h2 | ⟨i',rfl,h2⟩
  ·exact .inl h2
  rw [h2]
  obtain rfl:a = .bool i:=hx
  obtain rfl:b = .bool i':=hy
  exact Gw (by rw [Aq]; exact uh hu) (λ ho=>by rw [ho]; rfl) (λ ho=>by rw [ho]; rfl)
 ·rename_i el hu
  refine qL (t:=t) (nl:=nlP) Gy ?_ hx hy ?_ ?_
  ·rintro r r' ⟨p,rfl,rfl⟩ ⟨p',rfl,rfl⟩ hr
   show pr P (Op.equalIn 10000 t _ _)=_
   unfold Op.equalIn
   rw [aK,aM hu]
   cases p with
   | none=>rfl
   | some p=>cases p' with
    | none=>rfl
    | some p'=>rcases hr with hr | hr <;> cases hr
  ·rintro ho ⟨_,p,rfl,_⟩ ⟨_,p',rfl,_⟩; rw [ho]; rfl
  rintro ho ⟨_,p,rfl,_⟩ ⟨_,p',rfl,_⟩; rw [ho]; rfl
 ·rename_i el hu
  refine qL (t:=t) (nl:=nlS) Gz ?_ hx hy ?_ ?_
  ·rintro r r' ⟨p,_,_,rfl,rfl⟩ ⟨p',_,_,rfl,rfl⟩ hr
   show pr P (Op.equalIn 10000 t _ _)=_
   unfold Op.equalIn
   rw [aK,aM hu]
   cases p with
   | none=>rfl
   | some p=>cases p' with
    | none=>rfl
    | some p'=>rcases hr with hr | hr <;> cases hr
  ·rintro ho ⟨_,p,_,_,rfl,_⟩ ⟨_,p',_,_,rfl,_⟩; rw [ho]; rfl
  rintro ho ⟨_,p,_,_,rfl,_⟩ ⟨_,p',_,_,rfl,_⟩; rw [ho]; rfl
 ·rename_i el hu
  refine qL (t:=t) (nl:=nlM) GA ?_ hx hy ?_ ?_
  ·rintro r r' ⟨p,rfl,rfl⟩ ⟨p',rfl,rfl⟩ hr
   show pr P (Op.equalIn 10000 t _ _)=_
   unfold Op.equalIn
   rw [aK,aM hu]
   cases p with
   | none=>rfl
   | some p=>cases p' with
    | none=>rfl
    | some p'=>rcases hr with hr | hr <;> cases hr
  ·rintro ho ⟨_,p,rfl,_⟩ ⟨_,p',rfl,_⟩; rw [ho]; rfl
  rintro ho ⟨_,p,rfl,_⟩ ⟨_,p',rfl,_⟩; rw [ho]; rfl
 ·rename_i hu
  refine qL (t:=t) (nl:=nlF) GB ?_ hx hy ?_ ?_
  ·rintro r r' (⟨rfl,rfl⟩ | ⟨g,_,_,rfl,rfl⟩) (⟨rfl,rfl⟩ | ⟨g',_,_,rfl,rfl⟩) hr
   ·show pr P (Op.equalIn 10000 t _ _)=_; unfold Op.equalIn; rw [aK,aM hu]; rfl
   ·show pr P (Op.equalIn 10000 t _ _)=_; unfold Op.equalIn; rw [aK,aM hu]; rfl
   ·show pr P (Op.equalIn 10000 t _ _)=_; unfold Op.equalIn; rw [aK,aM hu]; rfl
   rcases hr with hr | hr <;> cases hr
  ·rintro ho ⟨_,⟨rfl,_⟩ | ⟨g,_,_,rfl,_⟩⟩ ⟨_,⟨rfl,_⟩ | ⟨g',_,_,rfl,_⟩⟩ <;> (rw [ho]; rfl)
  rintro ho ⟨_,⟨rfl,_⟩ | ⟨g,_,_,rfl,_⟩⟩ ⟨_,⟨rfl,_⟩ | ⟨g',_,_,rfl,_⟩⟩ <;> (rw [ho]; rfl)
 ·split
  ·rename_i l hl
   show vj P ρ _ d c (x.Ra d _)
   rcases V.D5 x d (λ a=>y.Ra d λ b=>oF l a b d λ r=>LH op r d c) with h1 | ⟨i,rfl,h1⟩
   ·exact .inl h1
   rw [h1]
   rcases V.D5 y d (λ b=>oF l i b d λ r=>LH op r d c) with h2 | ⟨i',rfl,h2⟩
   ·exact .inl h2
   rw [h2]
   obtain ⟨xs,g1,_,rfl⟩:=hx
   obtain ⟨ys,g2,_,rfl⟩:=hy
   rcases Ef (d:=d) (c:=λ r=>LH op r d c) g1 g2 with h3 | ⟨h3,h4,h5⟩
   ·exact .inl h3
   rw [h3]
   obtain ⟨p1,p2⟩:=qk hl h4 h5
   cases op <;> try exact .inl rfl
   ·show vj P ρ _ d c (kB c _)
    rw [rj]
    obtain ⟨r,q1,q2⟩:=(Ca (P:=P) (T:=t) (cx:=cx) (cy:=cy) (K:=λ y=>y = .bool (lR xs ys)) hl h4 h5 rfl).ex
    exact .yes q1 (by rw [q2]; rfl)
   show vj P ρ _ d c (kB c _)
   rw [rj]
   obtain ⟨r,q1,q2⟩:=(Cb (P:=P) (T:=t) (cx:=cx) (cy:=cy) (K:=λ y=>y = .bool (!lR xs ys)) hl h4 h5 rfl).ex
   exact .yes q1 (by rw [q2,qG]; rfl)
  exact .inl rfl
 exact .inl rfl
theorem N0 {op:BinOp} {t:TypeId} {cx cy:Bool} {x y:V} {a b:Value} {d:OR} {c:OK} (hx:RV ρ x a) (hy:RV ρ y b):vj P ρ (fL op t cx cy a b) d c (acv op (NS P op t) x y d c):=by
 cases x <;> try exact .inl rfl
 case i k i=>
  show vj P ρ _ d c (y.Jo d λ k' b=>dY (Nat.beq (kn k) (kn k')) (WE op k i b d c) d)
  rcases V.ze y d (λ k' b=>dY (Nat.beq (kn k) (kn k')) (WE op k i b d c) d) with h1 | ⟨k',i',rfl,h1⟩
  ·exact .inl h1
  rw [h1]
  obtain rfl:a = .int k i:=hx
  obtain rfl:b = .int k' i':=hy
  cases hk:Nat.beq (kn k) (kn k') with
  | false=>exact .inl rfl
  | true=>have:=Ap hk; subst this; exact NX
 case s m l=>
  show vj P ρ _ d c (y.D4 d λ n' l'=>WG op m l n' l' d c)
  rcases V.zh y d (λ n' l'=>WG op m l n' l' d c) with h1 | ⟨m',l',rfl,h1⟩
  ·exact .inl h1
  rw [h1]
  obtain rfl:a = .string (strOf m l):=hx
  obtain rfl:b = .string (strOf m' l'):=hy
  exact NY
 all_goals exact NZ hx hy
theorem ahX {op:BinOp} {t:TypeId} {cx cy:Bool} {p q:Oq} {a b:Value} (hx:RV ρ (ek e p) a) (hy:RV ρ (ek e q) b)
  (hh:(ahx P op (fL op t cx cy) (NS P op t) (ek e p) (ek e q) λ v=>.ok v h n) = .ok v h' n'):∃ y,pr P (fL op t cx cy a b)=some y/\RV ρ v y/\h'=h:=by
 have:=N0 (P:=P) (ρ:=ρ) (op:=op) (t:=t) (cx:=cx) (cy:=cy) (d:=Rj P (fL op t cx cy) (ek e p) (ek e q) λ v=>.ok v h n) (c:=λ v=>.ok v h n) hx hy
 rw [show acv op (NS P op t) (ek e p) (ek e q) _ _=_ from hh] at this
 refine this.ok λ hd=>?_
 unfold Rj at hd
 cases h1:toV (ek e p) with
 | none=>rw [h1] at hd; cases hd
 | some x=>
  rw [h1] at hd
  dsimp only at hd
  have:a=x:=(tA (ek e p)).1 _ _ h1 hx
  subst this
  cases h2:toV (ek e q) with
  | none=>rw [h2] at hd; cases hd
  | some y=>
   rw [h2] at hd
   dsimp only at hd
   have:b=y:=(tA (ek e q)).1 _ _ h2 hy
   subst this
   cases h3:pr P (fL op t cx cy a b) with
   | none=>rw [h3] at hd; cases hd
   | some r=>
    rw [h3] at hd
    dsimp only [okO] at hd
    cases h4:pH r with
    | none=>rw [h4] at hd; cases hd
    | some u=>
     rw [h4] at hd
     obtain ⟨rfl,rfl,_⟩:=cA hd
     exact ⟨r,rfl,lX h4,rfl⟩
end
section
variable {P:Program} {Fr:lO} {ρ:Rn} {h h':Hp} {w:World} {v:V} {n n':Nat} {e:En} {e':Env}
theorem WT {E es:Nat} (hs:nT P E=es) (h1:1<=es):pr P (sizeOf E)=some es:=by
 unfold nT at hs
 cases hi:P.info? E with
 | none=>rw [hi] at hs; simp at hs; omega
 | some inf=>rw [hi] at hs; rw [fX hi]; simpa using hs
theorem GC {T m off:Nat} {xs:List Value} {y:Value} (ht:bT P T=some (false,m)) (hy:xs[off]? = some y):pr P (part T (List.toArray xs) off)=some y:=by
 unfold part
 rw [aK,(eD ht).1]
 show pr P (match (List.toArray xs)[off]? with | some v => pure v | none => stuck "part: no such cell") = _
 rw [List.getElem?_toArray,hy]; rfl
theorem GD {T m off:Nat} {xs:List Value} (ht:bT P T=some (true,m)):pr P (part T (List.toArray xs) off)=some (.agg (List.toArray ((xs.drop off).take m))):=by
 unfold part
 rw [aK,(eD ht).1]
 simp only [Option.bind_some,if_true]
 rw [aK,(eD ht).2]
 simp only [Option.bind_some,cR]
 congr 2
 apply Array.ext'
 rw [Array.toList_extract]
 simp [List.extract]
theorem GF {l:V} {ys:List Value} (h1:iB ρ l ys) (h2:∀ z∈ys,fe z=true) (o k:Nat):RV ρ (.a (Ah (LI l o) k)) (.agg (List.toArray ((ys.drop o).take k))):=
 ⟨_,(h1.drop o).take k,λ z hz=>h2 z (List.mem_of_mem_drop (List.mem_of_mem_take hz)),rfl⟩
theorem ahY {q:Oq} {t f m:Nat} {fs:Array Field} {fd:Field} {x:Value} (hu:P.underlying t=some (.struct fs)) (hf:fs[f]? = some fd) (ht:bT P fd.type=some (false,m)) (hR:RH P Fr ρ h w) (hx:RV ρ (ek e q) x)
  (hh:aak e h n fd.offset q = .ok v h' n'):cU P (Instr.field t x f) λ y=>jV P Fr ρ v h' y w:=by
 obtain ⟨l,e1,hh⟩:=okA hh
 rw [e1] at hx
 obtain ⟨ys,h1,_,rfl⟩:=hx
 rcases xr (k:=λ v=>.ok v h n) fd.offset h1 with h2 | ⟨u,y,h2,h3,h4⟩
 ·rw [h2] at hh; cases hh
 rw [h2] at hh
 obtain ⟨rfl,rfl,_⟩:=cA hh
 refine kc (y:=y) ?_ hR h4
 unfold Instr.field
 rw [aK,aM hu]
 simp only [Option.bind_some,hf,asAgg]
 exact GC ht h3
theorem acH {q:Oq} {t f m:Nat} {fs:Array Field} {fd:Field} {x:Value} (hu:P.underlying t=some (.struct fs)) (hf:fs[f]? = some fd) (ht:bT P fd.type=some (true,m)) (hR:RH P Fr ρ h w) (hx:RV ρ (ek e q) x)
  (hh:Rm e h n fd.offset m q = .ok v h' n'):cU P (Instr.field t x f) λ y=>jV P Fr ρ v h' y w:=by
 obtain ⟨l,e1,hh⟩:=okA hh
 rw [e1] at hx
 obtain ⟨ys,h1,h2,rfl⟩:=hx
 obtain ⟨rfl,rfl,_⟩:=cA hh
 refine kc ?_ hR (GF h1 h2 _ _)
 unfold Instr.field
 rw [aK,aM hu]
 simp only [Option.bind_some,hf,asAgg]
 exact GD ht
theorem acI {q i:Oq} {t k E es:Nat} {x y:Value} (hu:P.underlying t=some (.array k E)) (ht:bT P E=some (false,es)) (hR:RH P Fr ρ h w) (hx:RV ρ (ek e q) x) (hy:RV ρ (ek e i) y)
  (hh:Ro e h n k es q i = .ok v h' n'):cU P (Instr.index t x y) λ y=>jV P Fr ρ v h' y w:=by
 obtain ⟨tt,j,e1,hh⟩:=oG hh
 obtain ⟨l,e2,hh⟩:=okA hh
 obtain ⟨eU,hh⟩:=dB hh
 have eU:=kz eU
 rw [e1] at hy
 obtain rfl:y = .int tt (j:Int):=hy
 rw [e2] at hx
 obtain ⟨ys,h1,_,rfl⟩:=hx
 rcases xr (k:=λ v=>v.fc λ v=>.ok v h n) (j * es) h1 with h2 | ⟨u,y,h2,h3,h4⟩
 ·rw [show Ju l (Nat.mul j es) _=_ from h2] at hh; cases hh
 rw [show Ju l (Nat.mul j es) _=_ from h2,V.ri] at hh
 obtain ⟨rfl,rfl,_⟩:=cA hh
 refine kc (y:=y) ?_ hR h4
 unfold Instr.index
 simp only [asIntOf,aK,aM hu,Option.bind_some,cR]
 rw [if_pos (show 0<=(j:Int)/\(j:Int)<(k:Int) by omega),aK,(eD ht).2]
 exact GC ht h3
theorem acJ {q i:Oq} {t k E es:Nat} {x y:Value} (hu:P.underlying t=some (.array k E)) (ht:bT P E=some (true,es)) (hR:RH P Fr ρ h w) (hx:RV ρ (ek e q) x) (hy:RV ρ (ek e i) y)
  (hh:Rp e h n k es q i = .ok v h' n'):cU P (Instr.index t x y) λ y=>jV P Fr ρ v h' y w:=by
 obtain ⟨tt,j,e1,hh⟩:=oG hh
 obtain ⟨l,e2,hh⟩:=okA hh
 obtain ⟨eU,hh⟩:=dB hh
 have eU:=kz eU
 rw [e1] at hy
 obtain rfl:y = .int tt (j:Int):=hy
 rw [e2] at hx
 obtain ⟨ys,h1,h2,rfl⟩:=hx
 obtain ⟨rfl,rfl,_⟩:=cA hh
 refine kc ?_ hR (GF h1 h2 _ _)
 unfold Instr.index
 simp only [asIntOf,aK,aM hu,Option.bind_some,cR]
 rw [if_pos (show 0<=(j:Int)/\(j:Int)<(k:Int) by omega),aK,(eD ht).2]
 exact GD ht
theorem ke (hE:RE ρ e e') {o:Option Operand} {q:Oq} {d i:Nat} (ho:U4 o=some q) (hi:(ek e q = .e/\i=d)\/∃ t,ek e q = .i t (i:Int)):(o.map (ev e')=none/\o=none/\i=d)\/∃ t,o.map (ev e')=some (.int t (i:Int)):=by
 cases o with
 | none=>
  cases ho
  rcases hi with ⟨_,hi⟩ | ⟨t,hi⟩
  ·exact .inl ⟨rfl,rfl,hi⟩
  ·cases hi
 | some y=>
  have:=bG hE (q:=q) ho
  rcases hi with ⟨hi,_⟩ | ⟨t,hi⟩
  ·rw [hi] at this; exact this.elim
  ·rw [hi] at this; exact .inr ⟨t,congrArg some this⟩
theorem qM {t:IntKind} {y i:Nat} {code:BoundsCode} (hi:i<=y):pr P (Instr.sliceBound (.int t (i:Int)) y code)=some i:=by
 show pr P (if 0<=(i:Int)/\(i:Int)<=(y:Int) then pure ((i:Int)).toNat else _)=_
 rw [if_pos ⟨by omega,by omega⟩]; rfl
theorem RD {l c j k m:Nat} {lo hi mx:Option Value} (hm:(mx=none/\m=c)\/∃ t,mx=some (.int t (m:Int))/\m<=c) (hk:(hi=none/\k=l/\mx=none)\/∃ t,hi=some (.int t (k:Int))/\k<=m)
  (hj:(lo=none/\j=0)\/∃ t,lo=some (.int t (j:Int))/\j<=k):pr P (Instr.sliceBounds true l c lo hi mx)=some (j,k,m):=by
 rcases hm with ⟨rfl,rfl⟩ | ⟨t1,rfl,hm⟩
 ·rcases hk with ⟨rfl,rfl,_⟩ | ⟨t2,rfl,hk⟩
  ·rcases hj with ⟨rfl,rfl⟩ | ⟨t3,rfl,hj⟩
   ·rfl
   simp only [Instr.sliceBounds,aK,cR,Option.bind_some,qM hj]
  rcases hj with ⟨rfl,rfl⟩ | ⟨t3,rfl,hj⟩
  ·simp only [Instr.sliceBounds,aK,cR,Option.bind_some,qM hk]
  simp only [Instr.sliceBounds,aK,cR,Option.bind_some,qM hk,qM hj]
 rcases hk with ⟨_,_,hk⟩ | ⟨t2,rfl,hk⟩
 ·cases hk
 rcases hj with ⟨rfl,rfl⟩ | ⟨t3,rfl,hj⟩
 ·simp only [Instr.sliceBounds,aK,cR,Option.bind_some,qM hm,qM hk]
 simp only [Instr.sliceBounds,aK,cR,Option.bind_some,qM hm,qM hk,qM hj]
theorem Ax {T E es l c j k m:Nat} {a:Option Addr} {lo hi mx:Option Value} (hT:P.underlying T=some (.slice E)) (hs:nT P E=es) (h1:1<=es) (hb:pr P (Instr.sliceBounds true l c lo hi mx)=some (j,k,m)) :
  pr P (Instr.sliceAt T (.slice a l c) lo hi mx)=some (.slice (if m=j then a else a.map (·.add (j * es))) (k - j) (m - j)):=by
 unfold Instr.sliceAt
 rw [aK,aM hT]
 simp only [Option.bind_some]
 unfold Instr.slice
 rw [aK,aM hT]
 simp only [Option.bind_some]
 rw [aK,hb]
 simp only [Option.bind_some]
 rw [aK,WT hs h1]
 rfl
theorem ahZ {q lo hi mx:Oq} {T E es:Nat} {x:Value} {ol oh om:Option Operand} (hT:P.underlying T=some (.slice E)) (hs:nT P E=es) (h1:1<=es) (hR:RH P Fr ρ h w) (hE:RE ρ e e') (hx:RV ρ (ek e q) x)
  (hlo:U4 ol=some lo) (hhi:U4 oh=some hi) (hmx:U4 om=some mx) (hmh:om.isNone || oh.isSome) (hh:aam e h n es q lo hi mx = .ok v h' n') :
  cU P (Instr.sliceAt T x (ol.map (ev e')) (oh.map (ev e')) (om.map (ev e'))) λ y=>jV P Fr ρ v h' y w:=by
 have hmn:om.map (ev e')=none\/oh≠none:=by
  cases om with
  | none=>exact .inl rfl
  | some _=>refine .inr λ hh=>?_; rw [hh] at hmh; cases hmh
 have ah0:∀ {b o c l j k m cap:Nat} {q:Pl},ρ b=some q->acy h n b o es c j k m = .ok v h' n'->c<=cap->
   ((om.map (ev e')=none/\m=cap)\/∃ t,om.map (ev e')=some (.int t (m:Int)))->((ek e hi = .e/\k=l)\/∃ t,ek e hi = .i t (k:Int))->((ek e lo = .e/\j=0)\/∃ t,ek e lo = .i t (j:Int))->
   cU P (Instr.sliceAt T (.slice (some ⟨q.k,q.b+o,none⟩) l cap) (ol.map (ev e')) (oh.map (ev e')) (om.map (ev e'))) λ y=>jV P Fr ρ v h' y w:=by
  intro b o c l j k m cap q hb hh vA hm hk hj
  obtain ⟨hc,hh⟩:=dB hh
  obtain ⟨c1,hc⟩:=dI hc
  obtain ⟨c2,c3⟩:=dI hc
  have c1:=dQ c1
  have c2:=dQ c2
  have c3:=dQ c3
  have oE:pr P (Instr.sliceBounds true l cap (ol.map (ev e')) (oh.map (ev e')) (om.map (ev e')))=some (j,k,m):=by
   refine RD ?_ ?_ ?_
   ·rcases hm with hm | ⟨t,hm⟩
    ·exact .inl hm
    ·exact .inr ⟨t,hm,by omega⟩
   ·rcases ke hE hhi hk with ⟨k1,k2,k3⟩ | ⟨t,k1⟩
    ·exact .inl ⟨k1,k3,hmn.resolve_right λ hh=>hh k2⟩
    ·exact .inr ⟨t,k1,c2⟩
   ·rcases ke hE hlo hj with ⟨k1,k2,k3⟩ | ⟨t,k1⟩
    ·exact .inl ⟨k1,k3⟩
    ·exact .inr ⟨t,k1,c1⟩
  have hp:=Ax (a:=some ⟨q.k,q.b+o,none⟩) hT hs h1 oE
  cases hmj:Nat.beq m j with
  | true=>
   have:m=j:=fj hmj
   rw [hmj] at hh
   obtain ⟨rfl,rfl,_⟩:=cA (show OR.ok (.sx b o (k - j) 0) h n=_ from hh)
   rw [if_pos this] at hp
   exact kc hp hR ⟨q,hb,by omega,by rw [show m - j=0 from by omega]⟩
  | false=>
   have:m≠j:=λ he=>by rw [he,jc] at hmj; cases hmj
   rw [hmj] at hh
   obtain ⟨rfl,rfl,_⟩:=cA (show OR.ok (.sx b (o+j * es) (k - j) (m - j)) h n=_ from hh)
   rw [if_neg this,Option.map_some,dK] at hp
   exact kc hp hR ⟨q,hb,by omega,by rw [Nat.add_assoc]⟩
 rcases Av hh with hh | ⟨e1,hh⟩ | ⟨b,o,l,d,e1,hh⟩ | ⟨b,o,l,c,e1,hh⟩ | ⟨_,hh⟩
 ·cases hh
 ·
  obtain ⟨m,hh,hm⟩:=mi hh
  obtain ⟨k,hh,hk⟩:=mi hh
  obtain ⟨j,hh,hj⟩:=mi hh
  obtain ⟨hc,hh⟩:=dB hh
  have hc:j+k+m=0:=fj hc
  obtain rfl:j=0:=by omega
  obtain rfl:k=0:=by omega
  obtain rfl:m=0:=by omega
  obtain ⟨rfl,rfl,_⟩:=cA hh
  rw [e1] at hx
  obtain rfl:x = .slice none 0 0:=hx
  have oE:pr P (Instr.sliceBounds true 0 0 (ol.map (ev e')) (oh.map (ev e')) (om.map (ev e')))=some (0,0,0):=by
   refine RD ?_ ?_ ?_
   ·rcases ke hE hmx hm with ⟨k1,k2,k3⟩ | ⟨t,k1⟩
    ·exact .inl ⟨k1,rfl⟩
    ·exact .inr ⟨t,k1,by omega⟩
   ·rcases ke hE hhi hk with ⟨k1,k2,k3⟩ | ⟨t,k1⟩
    ·exact .inl ⟨k1,rfl,hmn.resolve_right λ hh=>hh k2⟩
    ·exact .inr ⟨t,k1,by omega⟩
   ·rcases ke hE hlo hj with ⟨k1,k2,k3⟩ | ⟨t,k1⟩
    ·exact .inl ⟨k1,rfl⟩
    ·exact .inr ⟨t,k1,by omega⟩
  have hp:=Ax (a:=none) hT hs h1 oE
  exact kc hp hR (by simp [RV,RP])
 ·
  obtain ⟨c,mK,t,hb,hh⟩:=j9 hh
  obtain ⟨he,WU⟩:=dB hh
  clear hh
  have he:es=mK:=fj he
  subst he
  rw [e1] at hx
  obtain ⟨q,hq,⟨ho,hl⟩,rfl⟩:=hx
  obtain ⟨q',cs,ty,fz,g1,g2,g3,g4,g5,g6,g7,g8⟩:=hR.cells hb
  rw [hq] at g1; cases g1
  have g6:=g6 (by omega)
  rw [g4] at ho
  have fit:∀ i,o+i * es<=c->i+d<=q.c:=λ i hi=>by
   have:(d+i) * es<=q.c * es:=by rw [Nat.add_mul]; omega
   have:=Nat.le_of_mul_le_mul_right this (by omega:0<es)
   omega
  obtain ⟨k,hh,hk⟩:=mi WU
  obtain ⟨j,hh,hj⟩:=mi hh
  rcases ahL hh with ⟨e2,hh⟩ | ⟨t2,m',e2,hh⟩
  ·
   have LR:om.map (ev e')=none:=by
    rcases ke (d:=0) (i:=0) hE hmx (.inl ⟨e2,rfl⟩) with ⟨k1,_,_⟩ | ⟨t3,k1⟩
    ·exact k1
    ·cases om with
     | none=>rfl
     | some y=>have:=bG hE (q:=mx) hmx; rw [e2] at this; exact this.elim
   obtain ⟨hc,hh⟩:=dB hh
   obtain ⟨c1,c2⟩:=dI hc
   have c1:=dQ c1
   have c2:o+k * es<=c:=dQ c2
   have hkc:=fit k c2
   have oE:pr P (Instr.sliceBounds true l (q.c - d) (ol.map (ev e')) (oh.map (ev e')) (om.map (ev e')))=some (j,k,q.c - d):=by
    refine RD (.inl ⟨LR,rfl⟩) ?_ ?_
    ·rcases ke hE hhi hk with ⟨k1,k2,k3⟩ | ⟨t,k1⟩
     ·exact .inl ⟨k1,k3,LR⟩
     ·exact .inr ⟨t,k1,by omega⟩
    ·rcases ke hE hlo hj with ⟨k1,k2,k3⟩ | ⟨t,k1⟩
     ·exact .inl ⟨k1,k3⟩
     ·exact .inr ⟨t,k1,c1⟩
   have hp:=Ax (a:=some ⟨q.k,q.b+o,none⟩) hT hs h1 oE
   cases hj0:Nat.beq j 0 with
   | true=>
    have:j=0:=fj hj0
    subst this
    rw [hj0] at hh
    obtain ⟨rfl,rfl,_⟩:=cA (show OR.ok (.sl b o k d) h n=_ from hh)
    refine kc (y:=.slice (some ⟨q.k,q.b+o,none⟩) k (q.c - d)) ?_ hR ⟨q,hq,⟨by rw [g4]; exact ho,by omega⟩,rfl⟩
    rw [hp]
    split
    ·rfl
    ·rw [Option.map_some,dK]; simp
   | false=>
    rw [hj0] at hh
    have hh:dY (Nat.blt (o+j * es) c) (.ok (.sl b (o+j * es) (k - j) (d+j)) h n) (.ok .se h n) = .ok v h' n':=hh
    cases eU:Nat.blt (o+j * es) c with
    | true=>
     rw [eU] at hh
     obtain ⟨rfl,rfl,_⟩:=cA (show OR.ok (.sl b (o+j * es) (k - j) (d+j)) h n=_ from hh)
     have eU:=kz eU
     have iS:q.c - d≠j:=λ iS=>by
      have:(d+j) * es<q.c * es:=by rw [Nat.add_mul]; omega
      have:=Nat.lt_of_mul_lt_mul_right this
      omega
     rw [if_neg iS,Option.map_some,dK] at hp
     refine kc hp hR ⟨q,hq,⟨by rw [g4,Nat.add_mul]; omega,by omega⟩,by rw [Nat.add_assoc,Nat.sub_sub]⟩
    | false=>
     rw [eU] at hh
     obtain ⟨rfl,rfl,_⟩:=cA (show OR.ok .se h n=_ from hh)
     have FB:¬ (o+j * es<c):=λ hx=>by rw [zj,decide_eq_true hx] at eU; cases eU
     have hkj:k * es<=j * es:=by omega
     have hkj:=Nat.le_of_mul_le_mul_right hkj (by omega:0<es)
     have hk0:k - j=0:=by omega
     refine kc hp hR ?_
     rw [hk0]
     split
     ·exact ⟨_,_,rfl⟩
     ·exact ⟨_,_,rfl⟩
  obtain ⟨m,e3,hh⟩:=Ee hh
  obtain ⟨c1,hh⟩:=dB hh
  have c1:o+m * es<=c:=dQ c1
  have:=fit m c1
  refine ah0 hq hh (by omega) ?_ hk hj
  rcases ke (d:=0) (i:=m) hE hmx (.inr ⟨t2,by rw [e2,e3]⟩) with ⟨k1,k2,_⟩ | k1
  ·rw [k2] at hmx; cases hmx; cases e2
  exact .inr k1
 ·
  rw [e1] at hx
  obtain ⟨q,hq,hl,rfl⟩:=hx
  obtain ⟨k,hh,hk⟩:=mi hh
  obtain ⟨j,hh,hj⟩:=mi hh
  obtain ⟨m,hh,hm⟩:=mi hh
  refine ah0 hq hh (Nat.le_refl _) ?_ hk hj
  rcases ke hE hmx hm with ⟨k1,k2,k3⟩ | k1
  ·exact .inl ⟨k1,k3⟩
  exact .inr k1
 cases hh
theorem acL {q:Oq} {T R:Nat} {x:Value} (hT:P.underlying T=some .string) (hR:RH P Fr ρ h w) (hx:RV ρ (ek e q) x) (hh:Gn e h n .no q = .ok v h' n'):cU P (Builtin.len_ #[T] R [x].toArray) λ y=>jV P Fr ρ v h' y w:=by
 obtain ⟨c,l,e1,hh⟩:=WQ hh
 obtain ⟨rfl,rfl,_⟩:=cA hh
 rw [e1] at hx
 obtain rfl:x = .string (strOf c l):=hx
 exact j7 hT (hR.post (show _=_ by rw [ed]; rfl))
theorem acM {q:Oq} {T R E m by':Nat} {z:Option Nat} {x:Value} (hT:cT P T=some (E,m,by',z)) (hR:RH P Fr ρ h w) (hx:RV ρ (ek e q) x) (hh:Gn e h n .slice q = .ok v h' n'):cU P (Builtin.len_ #[T] R [x].toArray) λ y=>jV P Fr ρ v h' y w:=by
 rcases Av hh with hh | ⟨e1,hh⟩ | ⟨b,o,l,d,e1,hh⟩ | ⟨b,o,l,c,e1,hh⟩ | ⟨e1,hh⟩
 ·cases hh
 all_goals
  obtain ⟨rfl,rfl,_⟩:=cA hh
  rw [e1] at hx
 ·obtain rfl:x = .slice none 0 0:=hx
  exact kc (rM hT) hR rfl
 ·obtain ⟨q,hq,_,rfl⟩:=hx
  exact kc (rM hT) hR rfl
 ·obtain ⟨q,hq,_,rfl⟩:=hx
  exact kc (rM hT) hR rfl
 obtain ⟨a,c,rfl⟩:=hx
 exact kc (rM hT) hR rfl
theorem RF {T R E n by':Nat} {z:Option Nat} {a:Option Addr} {l c:Nat} (ht:cT P T=some (E,n,by',z)):pr P (Builtin.cap_ #[T] R [Value.slice a l c].toArray)=some (.int .i64 c):=by
 show pr P (do
  match <- underlying T,Value.slice a l c with
  | .array n _,_=>pure (goInt n)
  | .pointer arr,_=>
   let .array n _ <- underlying arr | stuck "cap: pointer to array expected"
   pure (goInt n)
  | .slice _,.slice _ _ n=>pure (goInt n)
  | .chan _ _,.chan none=>pure (goInt 0)
  | .chan _ _,.chan (some r)=>
   let .chan n _ _ _ _ timer <- getObj r | stuck "cap: channel expected"
   pure (goInt (if timer then 0 else n))
  | _, _ => stuck "cap: array, pointer to array, slice or channel expected") = _
 rw [aK,aM (dz ht).1]
 rfl
theorem ah2 {q:Oq} {T R E m by':Nat} {z:Option Nat} {x:Value} (hT:cT P T=some (E,m,by',z)) (hR:RH P Fr ρ h w) (hx:RV ρ (ek e q) x) (hh:Gn e h n .func q = .ok v h' n'):cU P (Builtin.cap_ #[T] R [x].toArray) λ y=>jV P Fr ρ v h' y w:=by
 rcases Av hh with hh | ⟨e1,hh⟩ | ⟨b,o,l,d,e1,hh⟩ | ⟨b,o,l,c,e1,hh⟩ | ⟨e1,hh⟩
 ·cases hh
 ·obtain ⟨rfl,rfl,_⟩:=cA hh
  rw [e1] at hx
  obtain rfl:x = .slice none 0 0:=hx
  exact kc (RF hT) hR rfl
 ·cases hh
 ·obtain ⟨rfl,rfl,_⟩:=cA hh
  rw [e1] at hx
  obtain ⟨q,hq,_,rfl⟩:=hx
  exact kc (RF hT) hR rfl
 cases hh
end
section
variable {P:Program} {Fr:lO} {ρ:Rn} {h h':Hp} {w:World} {v:V} {n n':Nat} {e:En} {e':Env}
theorem RT.app {t:Tr V} {xs ys:List Value} {l:V} (ht:RT ρ t 0 xs) (hl:iB ρ l ys):RT ρ (tr l xs.length t) 0 (xs++ys):=by
 intro j x hj
 obtain ⟨a,c⟩:=zo hl xs.length t (0+j)
 by_cases h1:j<xs.length
 ·rw [a (.inl (by omega))]
  rw [List.getElem?_append_left h1] at hj
  exact ht j x hj
 rw [List.getElem?_append_right (by omega)] at hj
 exact c _ x hj (by omega)
theorem LS {xs ys:List Value} (h1:∀ z∈xs,fe z=true) (h2:∀ z∈ys,fe z=true):∀ z∈xs++ys,fe z=true:=λ z hz=>(List.mem_append.1 hz).elim (h1 z) (h2 z)
theorem RH.RG {t:Tr V} {cs rest:List Value} {T:TypeId} {c es m:Nat} {w':World} (hR:RH P Fr ρ h w) (hn:dH h n = .z) (ht:RT ρ t 0 cs) (nV:∀ z∈cs,fe z=true) (hm:m=cs.length)
  (hc:c * es<=(cs++rest).length) (hx:0<es->m<=c * es) (hw:w'.heap=w.heap.push (.cells (List.toArray (cs++rest)) T)) (hst:Sm w w':=by exact ⟨rfl,rfl,rfl⟩) :
  Le ρ (ext ρ n ⟨w.heap.size,0,c,es⟩)/\RH P Fr (ext ρ n ⟨w.heap.size,0,c,es⟩) (eL h (.c m es t) n) w':=by
 have le:=qJ (q:=⟨w.heap.size,0,c,es⟩) (hR.fresh n hn)
 subst hm
 refine ⟨le,hR.new (hst:=hst) hn rfl hw ⟨cs++rest,T,(0,0),rfl,λ j _=>by omega,rfl,by show 0+c * es<=_; omega,hx,by show 0+cs.length<=_; rw [List.length_append]; omega,λ i hi=>?_⟩⟩
 have hg:cs[i]? = some cs[i]:=List.getElem?_eq_getElem hi
 refine ⟨cs[i],by show (cs++rest)[0+i]? = _; rw [Nat.zero_add,List.getElem?_append_left hi,hg],?_,nV _ (List.getElem_mem hi)⟩
 have:=ht i _ hg
 rw [Nat.zero_add] at this
 exact this.mono le
theorem RH.sts {b m es o:Nat} {t:Tr V} {l:V} {vs:List Value} (hR:RH P Fr ρ h w) (hb:dH h b = .c m es t) (hl:iB ρ l vs) (nV:∀ z∈vs,fe z=true) (hm:o+vs.length<=m) :
  ∃ q w',ρ b=some q/\(storeCells ⟨q.k,q.b+o,none⟩ vs 0).run P w = .ok () w'/\RH P Fr ρ (eL h (.c m es (tr l o t)) b) w':=by
 obtain ⟨q,cs,ty,fz,g1,g2,g3,g4,g5,g6,g7,g8⟩:=hR.cells hb
 obtain ⟨w',k1,k2,k3,k4⟩:=LQ (P:=P) vs (q.b+o) 0 cs w g2 g3 (by omega) nV
 rw [Nat.add_zero] at k2
 refine ⟨q,w',g1,k1,hR.kV (Jz hb) g1 k2 ⟨_,ty,fz,rfl,λ j hj=>g3 j (by rwa [hG] at hj),g4,by rw [hG]; exact g5,g6,by rw [hG]; exact g7,JA g7 g8 hl nV hm⟩ k3 (hst:=k4)⟩
theorem GG {q:Pl} {y:Value} {u:V} {hh:Hp} {w':World} (LU:Le ρ (ext ρ n q)/\RH P Fr (ext ρ n q) hh w') (hv:RV (ext ρ n q) u y):jV P Fr ρ u hh y w':=⟨_,LU.1,LU.2,hv⟩
theorem aaG {q:V} {cs:List Value} {T:TypeId} {m:Sem Value} (hR:RH P Fr ρ h w) (hq:iB ρ q cs) (nV:∀ z∈cs,fe z=true) (hm:m.run P w = .ok (.pointer (some ⟨w.heap.size,0,none⟩)) (push w (.cells (List.toArray cs) T)))
  (hh:LL h n q = .ok v h' n'):gd P m w (jV P Fr ρ v h'):=by
 obtain ⟨hn,hh⟩:=lC hh
 obtain ⟨rfl,rfl,_⟩:=cA hh
 refine ⟨_,_,hm,GG (hR.RG (rest:=[]) (c:=0) hn (RT.WM hq .lf 0) nV hq.len (by omega) (λ hx=>by omega) (by rw [List.append_nil]; rfl)) ⟨_,jw _ _ _,rfl⟩⟩
theorem ah3 {q:Oq} {T:TypeId} {x:Value} (hR:RH P Fr ρ h w) (hx:RV ρ (ek e q) x) (hh:aag e h n q = .ok v h' n'):gd P (Instr.box T x) w (jV P Fr ρ v h'):=by
 obtain ⟨l,hh,hl,nV⟩:=Aw hx hh
 exact aaG hR hl nV (by rw [yY]) hh
theorem WV {T:TypeId} {z:V} (hz:m5 P T=some z) (hR:RH P Fr ρ h w) (hh:LL h n z = .ok v h' n'):gd P (Instr.alloc T true (.tuple #[])) w (jV P Fr ρ v h'):=by
 unfold m5 at hz
 split at hz
 ·rename_i zv qc
  refine aaG (cs:=zv.cells.toList) (T:=T) hR (qI hz) (su hz) ?_ hh
  unfold cH at qc
  cases hi:P.info? T with
  | none=>rw [hi] at qc; cases qc
  | some inf=>
   rw [hi] at qc
   simp only [Option.map_some,Option.some.injEq] at qc
   have h1:pr P (zeroValue T)=some zv:=by unfold zeroValue; rw [aK,fS hi]; simp only [Option.bind_some,qc]; rfl
   unfold Instr.alloc
   rw [aZ (bM h1 w),Array.toArray_toList]
   rfl
 cases hz
theorem an3 {a q:Oq} {T:TypeId} {x y:Value} {ag:Bool} {k:Nat} (ht:bT P T=some (ag,k)) (hR:RH P Fr ρ h w) (hx:RV ρ (ek e a) x) (hy:RV ρ (ek e q) y) (hh:ahy e h n k a q = .ok v h' n') :
  BT P (Instr.storeAt T x y) w λ w'=>jV P Fr ρ v h' undef w':=by
 obtain ⟨b,o,e1,hh⟩:=WR hh
 obtain ⟨m,es,t,hb,hh⟩:=j9 hh
 obtain ⟨l,hh,hl,nV⟩:=Aw hy hh
 obtain ⟨hc,hh⟩:=dB hh
 obtain ⟨c1,c2⟩:=dI hc
 have c1:=fj c1
 have c2:o+k<=m:=dQ c2
 obtain ⟨rfl,rfl,_⟩:=cA hh
 have hlen:=hl.len
 have hm:o+y.cells.toList.length<=m:=by rw [<- hlen,c1]; exact c2
 obtain ⟨qq,w',g1,g2,g3⟩:=hR.sts hb hl nV hm
 rw [e1] at hx
 obtain ⟨q',h1,rfl⟩:=hx
 rw [g1] at h1; cases h1
 refine ⟨w',?_,ρ,Le.refl _,g3,lB _⟩
 show (storeVar T ⟨qq.k,qq.b+o,none⟩ y).run P w=_
 unfold storeVar
 rw [aZ (bM (eD ht).2 w),if_neg (by rw [<- Array.length_toList]; omega)]
 exact g2
def tB (place:Nat->Option (Nat × Nat)):PL->List (Nat × Operand)->Prop
 | .nil,ps=>ps=[]
 | .cons o m q l,ps=>∃ i x r,ps=(i,x)::r/\place i=some (o,m)/\oq x=some q/\tB place l r
theorem xu {place:Nat->Option (Nat × Nat)} (hE:RE ρ e e'):∀ {ps:PL} {parts:List (Nat × Operand)} {t:Tr V} {m:Nat} {k:Tr V->OR},tB place ps parts->LJ e ps m t k = .ok v h' n'->
  ∃ t',k t' = .ok v h' n'/\∀ cs:List Value,RT ρ t 0 cs->cs.length=m->(∀ z∈cs,fe z=true)->
   ∃ cs',Instr.fill place (List.toArray cs) (parts.map λ q=>(q.1,ev e' q.2))=some (List.toArray cs')/\RT ρ t' 0 cs'/\cs'.length=m/\∀ z∈cs',fe z=true:=by
 intro ps
 induction ps with
 | nil=>
  intro parts t m k hp hh
  obtain rfl:parts=[]:=hp
  exact ⟨t,hh,λ cs h1 h2 h3=>⟨cs,rfl,h1,h2,h3⟩⟩
 | cons o k q l ih=>
  intro parts t m kk hp hh
  obtain ⟨i,x,r,rfl,lT,hq,hr⟩:=hp
  obtain ⟨lv,hh,hl,nV⟩:=Aw (bG hE hq) (show (ek e q).cells .no (λ lv=>dY (dD (Nat.beq (qE lv) k) (Nat.ble (Nat.add o k) m)) (LJ e l m (tr lv o t) kk) .no) = .ok v h' n' from hh)
  obtain ⟨hc,hh⟩:=dB hh
  obtain ⟨c1,c2⟩:=dI hc
  have c1:=fj c1
  have c2:o+k<=m:=dQ c2
  obtain ⟨t',h1,h2⟩:=ih hr hh
  refine ⟨t',h1,λ cs k1 k2 k3=>?_⟩
  have hlen:=hl.len
  rw [Array.length_toList] at hlen
  have WW:RT ρ (tr lv o t) 0 (eC cs o (ev e' x).cells.toList):=by
   intro j y hj
   obtain ⟨a,c⟩:=zo hl o t (0+j)
   obtain ⟨a',c'⟩:=qK (ev e' x).cells.toList cs o j (by rw [Array.length_toList]; omega)
   by_cases hi:j<o\/o+(ev e' x).cells.toList.length<=j
   ·rw [a (by omega)]
    rw [a' hi] at hj
    exact k1 j y hj
   ·have:=c' (j - o) (by omega)
    rw [show o+(j - o)=j from by omega] at this
    rw [this] at hj
    exact c _ y hj (by omega)
  obtain ⟨cs',g1,g2,g3,g4⟩:=h2 _ WW (by rw [hG]; exact k2) (λ z hz=>by
   obtain ⟨j,hj⟩:=List.getElem?_of_mem hz
   obtain ⟨a',c'⟩:=qK (ev e' x).cells.toList cs o j (by rw [Array.length_toList]; omega)
   by_cases hi:j<o\/o+(ev e' x).cells.toList.length<=j
   ·rw [a' hi] at hj; exact k3 z (List.mem_of_getElem? hj)
   ·have:=c' (j - o) (by omega)
    rw [show o+(j - o)=j from by omega] at this
    rw [this] at hj
    exact nV z (List.mem_of_getElem? hj))
  refine ⟨cs',?_,g2,g3,g4⟩
  have step:Instr.fill place (List.toArray cs) ((i,ev e' x)::r.map λ q=>(q.1,ev e' q.2))=Instr.fill place (List.toArray (eC cs o (ev e' x).cells.toList)) (r.map λ q=>(q.1,ev e' q.2)):=by
   conv=>lhs; unfold Instr.fill
   simp only [lT]
   rw [if_neg]
   ·congr 1
    apply Array.ext'
    rw [<- Array.foldl_toList,Array.toList_zipIdx]
    exact yd o (ev e' x).cells.toList 0 (List.toArray cs)
   ·simp only [List.size_toArray,Bool.or_eq_true,decide_eq_true_eq]
    omega
  exact step.trans g1
theorem Cu {es:Nat}:∀ {parts:List (Nat × Operand)} {l:PL},uS es parts=some l->tB (λ i=>some (i * es,es)) l parts:=by
 intro parts
 induction parts with
 | nil=>intro l hl; cases hl; exact (show tB _ .nil [] from rfl)
 | cons p r ih=>
  intro l hl
  obtain ⟨i,x⟩:=p
  unfold uS at hl
  split at hl
  ·rename_i q l' h1 h2; cases hl; exact ⟨i,x,r,rfl,rfl,h1,ih h2⟩
  ·cases hl
theorem N1 {t:TypeId} {fs:Array Field} (hu:P.underlying t=some (.struct fs)):∀ {parts:List (Nat × Operand)} {l:PL},An P t parts=some l->
  tB (λ i=>(fs.map λ f=>(f.offset,nT P f.type))[i]?) l parts:=by
 intro parts
 induction parts with
 | nil=>intro l hl; cases hl; exact (show tB _ .nil [] from rfl)
 | cons p r ih=>
  intro l hl
  obtain ⟨i,x⟩:=p
  unfold An at hl
  rw [hu] at hl
  dsimp only at hl
  split at hl
  ·rename_i f q l' h0 h1 h2; cases hl; exact ⟨i,x,r,rfl,by show (Array.map _ fs)[i]? = _; rw [Array.getElem?_map,h0]; rfl,h1,ih h2⟩
  ·cases hl
theorem WX {α β:Type} (f:α->Sem β) (g:α->β):∀ l:List α,(∀ x∈l,pr P (f x)=some (g x))->pr P (l.mapM f)=some (l.map g):=by
 intro l
 induction l with
 | nil=>intro _; rfl
 | cons x r ih=>
  intro hl
  rw [List.mapM_cons,aK,hl x (by simp)]
  simp only [Option.bind_some]
  rw [aK,ih λ y hy=>hl y (by simp [hy])]
  rfl
theorem qN {T:TypeId} {z:V} (hz:m5 P T=some z):∃ zv,cH P T=some (some zv)/\pr P (zeroValue T)=some zv/\iB ρ z zv.cells.toList/\(∀ x∈zv.cells.toList,fe x=true):=by
 unfold m5 at hz
 split at hz
 ·rename_i zv qc
  refine ⟨zv,qc,?_,qI hz,su hz⟩
  unfold cH at qc
  cases hi:P.info? T with
  | none=>rw [hi] at qc; cases qc
  | some inf=>
   rw [hi] at qc
   simp only [Option.map_some,Option.some.injEq] at qc
   unfold zeroValue; rw [aK,fS hi]; simp only [Option.bind_some,qc]; rfl
 cases hz
theorem RI {t:TypeId} {fs:Array Field} {z:V} {l:PL} {ps:Array (Nat × Operand)} (hu:P.underlying t=some (.struct fs)) (hz:m5 P t=some z) (hl:An P t ps.toList=some l)
  (hf:fs.toList.all (λ f=>(P.info? f.type).isSome)=true) (hR:RH P Fr ρ h w) (hE:RE ρ e e') (hh:Eb e h n z l = .ok v h' n') :
  cU P (Instr.build t (ps.toList.map λ q=>(q.1,ev e' q.2)).toArray) λ y=>jV P Fr ρ v h' y w:=by
 obtain ⟨zv,_,z1,z2,z3⟩:=qN (ρ:=ρ) hz
 obtain ⟨t',h1,h2⟩:=xu hE (N1 hu hl) hh
 obtain ⟨cs',g1,g2,g3,g4⟩:=h2 zv.cells.toList (RT.WM z2 .lf 0) z2.len.symm z3
 obtain ⟨rfl,rfl,_⟩:=cA h1
 refine kc (y:=.agg (List.toArray cs')) ?_ hR ⟨cs',g2.rd g3,g4,rfl⟩
 unfold Instr.build
 rw [aK,z1]
 simp only [Option.bind_some]
 rw [aK,aM hu]
 simp only [Option.bind_some]
 have hm:pr P (fs.mapM λ f=>(do pure (f.offset,<- sizeOf f.type):Sem (Nat × Nat)))=some (fs.map λ f=>(f.offset,nT P f.type)):=by
  have:=WX (P:=P) (λ f:Field=>(do pure (f.offset,<- sizeOf f.type):Sem (Nat × Nat))) (λ f=>(f.offset,nT P f.type)) fs.toList (λ f hfm=>by
   have hs:=List.all_eq_true.1 hf f hfm
   cases hi:P.info? f.type with
   | none=>rw [hi] at hs; cases hs
   | some inf=>
    rw [aK,fX hi]
    show some _=_
    unfold nT; rw [hi]; rfl)
  obtain ⟨l0⟩:=fs
  show pr P ((List.toArray l0).mapM _)=_
  rw [List.mapM_toArray,<- bind_pure_comp,aK,this]
  simp [cR]
 rw [aK,hm]
 simp only [Option.bind_some]
 rw [show Instr.fill _ zv.cells _=some (List.toArray cs') from by rw [<- g1,Array.toArray_toList]]
 rfl
theorem RJ {t k E:Nat} {z:V} {l:PL} {ps:Array (Nat × Operand)} (hu:P.underlying t=some (.array k E)) (hz:m5 P t=some z) (hl:uS (nT P E) ps.toList=some l)
  (hf:(P.info? E).isSome=true) (hR:RH P Fr ρ h w) (hE:RE ρ e e') (hh:Eb e h n z l = .ok v h' n') :
  cU P (Instr.build t (ps.toList.map λ q=>(q.1,ev e' q.2)).toArray) λ y=>jV P Fr ρ v h' y w:=by
 obtain ⟨zv,_,z1,z2,z3⟩:=qN (ρ:=ρ) hz
 obtain ⟨t',h1,h2⟩:=xu hE (Cu hl) hh
 obtain ⟨cs',g1,g2,g3,g4⟩:=h2 zv.cells.toList (RT.WM z2 .lf 0) z2.len.symm z3
 obtain ⟨rfl,rfl,_⟩:=cA h1
 refine kc (y:=.agg (List.toArray cs')) ?_ hR ⟨cs',g2.rd g3,g4,rfl⟩
 have hs:pr P (sizeOf E)=some (nT P E):=by
  cases hi:P.info? E with
  | none=>rw [hi] at hf; cases hf
  | some inf=>rw [fX hi]; unfold nT; rw [hi]; rfl
 unfold Instr.build
 rw [aK,z1]
 simp only [Option.bind_some]
 rw [aK,aM hu]
 simp only [Option.bind_some]
 rw [aK,hs]
 simp only [Option.bind_some]
 rw [show Instr.fill _ zv.cells _=some (List.toArray cs') from by rw [<- g1,Array.toArray_toList]]
 rfl
theorem N2 {zs:List Value}:∀ (k i:Nat),i<k * zs.length->(List.replicate k zs).flatten[i]? = zs[i % zs.length]?:=by
 intro k
 induction k with
 | zero=>intro i hi; omega
 | succ k ih=>
  intro i hi
  rw [List.replicate_succ,List.flatten_cons]
  by_cases h1:i<zs.length
  ·rw [List.getElem?_append_left h1,Nat.mod_eq_of_lt h1]
  ·rw [Nat.succ_mul] at hi
   rw [List.getElem?_append_right (by omega),ih _ (by omega),<- Nat.mod_eq_sub_mod (by omega)]
theorem tC (zs:List Value) (k:Nat) (hz:0<zs.length):(madeCells (List.toArray zs) (k * zs.length)).toList=(List.replicate k zs).flatten:=by
 apply List.ext_getElem?
 intro i
 by_cases hi:i<k * zs.length
 ·rw [N2 k i hi]
  have h2:i % zs.length<zs.length:=Nat.mod_lt _ hz
  unfold madeCells
  simp [hi,h2]
 rw [List.getElem?_eq_none (by rw [Array.length_toList,size_madeCells]; omega),List.getElem?_eq_none]
 simp; omega
theorem wh {zs:List Value} {k:Nat} (hz:∀ z∈zs,fe z=true):∀ z∈(List.replicate k zs).flatten,fe z=true:=λ z h=>by
 obtain ⟨l,h1,h2⟩:=List.mem_flatten.1 h
 rw [(List.mem_replicate.1 h1).2] at h2
 exact hz z h2
theorem ah4 {t E es by' k:Nat} {z:V} {l:PL} {ps:Array (Nat × Operand)} (hf:cT P t=some (E,es,by',some es)) (hz:m5 P E=some z) (hl:uS es ps.toList=some l) (h1:1<=es) (hk:k * es<=16777216)
  (hR:RH P Fr ρ h w) (hE:RE ρ e e') (hh:aah e h n es k (yM z k) l = .ok v h' n') :
  gd P (Instr.buildSlice t k (ps.toList.map λ q=>(q.1,ev e' q.2)).toArray) w (jV P Fr ρ v h'):=by
 obtain ⟨hu,inf,hi,iN,nJ,yZ⟩:=dz hf
 obtain ⟨zv,qc,z1,z2,z3⟩:=qN (ρ:=ρ) hz
 have DW:zv.cells.toList.length=es:=by
  unfold cH at qc
  rw [hi] at qc
  simp only [Option.map_some,Option.some.injEq] at qc
  rw [qc] at yZ
  simpa using yZ
 obtain ⟨t',g0,g1⟩:=xu hE (Cu hl) hh
 have GH:iB ρ (yM z k) (List.replicate k zv.cells.toList).flatten:=z2.rep k
 obtain ⟨cs',k1,k2,k3,k4⟩:=g1 _ (RT.WM GH .lf 0) GH.len.symm (wh z3)
 obtain ⟨hn,g0⟩:=lC g0
 obtain ⟨rfl,rfl,_⟩:=cA g0
 have hlen:cs'.length=k * es:=by rw [k3,GH.len]; simp [DW]
 have hm:=hR.RG (t:=t') (cs:=cs') (rest:=[]) (T:=E) (c:=k) (es:=es) (w':=push w (.cells (List.toArray cs') E)) hn k2 k4 (m:=qE (yM z k)) k3.symm (by rw [List.append_nil,hlen]; exact Nat.le_refl _) (λ _=>by rw [<- k3,hlen]; exact Nat.le_refl _) (by rw [List.append_nil]; rfl)
 refine ⟨.slice (some ⟨w.heap.size,0,none⟩) k k,push w (.cells (List.toArray cs') E),?_,GG hm ⟨_,jw _ _ _,Nat.le_refl _,rfl⟩⟩
 unfold Instr.buildSlice
 rw [aZ (bM (aM hu) w)]
 dsimp only
 rw [aZ (bM (fX hi) w),iN,if_neg (by omega)]
 by_cases h0:k * es=0
 ·simp only [if_pos h0]
  have hk0:k=0:=by
   rcases Nat.mul_eq_zero.1 h0 with h | h
   ·exact h
   ·omega
  rw [aZ (run_pure _ w)]
  rw [show Instr.fill _ ((Array.range (k * es)).map _) _=some (List.toArray cs') from by rw [<- k1]; subst hk0; rw [show Array.range (0 * es) = #[] from by rw [Nat.zero_mul]; rfl,Array.map_empty]; rfl]
  rfl
 simp only [if_neg h0]
 rw [aZ (bM z1 w),aZ (run_pure _ w)]
 have e1:((Array.range (k * es)).map (zv.cells[· % zv.cells.size]!))=List.toArray (List.replicate k zv.cells.toList).flatten:=by
  have:=tC zv.cells.toList k (by omega)
  rw [DW,Array.toArray_toList] at this
  rw [<- this,Array.toArray_toList]; rfl
 rw [show Instr.fill _ ((Array.range (k * es)).map (zv.cells[· % zv.cells.size]!)) _=some (List.toArray cs') from by rw [e1,<- k1]]
 rfl
theorem ah5 {t E es by':Nat} {z:V} {lq cq:Oq} {x y:Value} (hf:cT P t=some (E,es,by',some es)) (hz:m5 P E=some z) (h1:1<=es) (UX:by'<=8192) (hR:RH P Fr ρ h w) (hx:RV ρ (ek e lq) x) (hy:RV ρ (ek e cq) y)
  (hh:aat e h n es z lq cq = .ok v h' n'):gd P (Instr.makeSlice t x y) w (jV P Fr ρ v h'):=by
 obtain ⟨hu,inf,hi,iN,nJ,yZ⟩:=dz hf
 obtain ⟨zv,qc,z1,z2,z3⟩:=qN (ρ:=ρ) hz
 have acN:inf.zero=some zv:=by
  unfold cH at qc
  rw [hi] at qc
  simpa using qc
 obtain ⟨t1,j,e1,hh⟩:=oG hh
 obtain ⟨t2,k,e2,hh⟩:=oG hh
 rw [e1] at hx
 rw [e2] at hy
 obtain rfl:x = .int t1 (j:Int):=hx
 obtain rfl:y = .int t2 (k:Int):=hy
 obtain ⟨hc,hh⟩:=dB hh
 obtain ⟨c1,hc⟩:=dI hc
 obtain ⟨c2,c3⟩:=dI hc
 have c1:=fj c1
 have c2:=dQ c2
 have c3:=dQ c3
 obtain ⟨hn,hh⟩:=lC hh
 obtain ⟨rfl,rfl,_⟩:=cA hh
 have DW:zv.cells.toList.length=es:=by rw [<- z2.len]; exact c1
 have hb:(inf.bytes:Int) * (k:Int)<=281474976710656:=by
  have h3:inf.bytes * k<=8192 * 1073741824:=Nat.mul_le_mul (by omega) c3
  have:((inf.bytes * k:Nat):Int)<=281474976710656:=by omega
  rwa [Int.natCast_mul] at this
 have hr:=run_make (P:=P) w t E inf zv hu hi acN t1 t2 (j:Int) (k:Int) (by omega) (by omega) hb (by omega)
 rw [iN] at hr
 simp only [Int.toNat_natCast] at hr
 have GH:iB ρ (yM z k) (List.replicate k zv.cells.toList).flatten:=z2.rep k
 have hlen:(List.replicate k zv.cells.toList).flatten.length=k * es:=by simp [DW]
 have e3:madeCells zv.cells (k * es)=List.toArray (List.replicate k zv.cells.toList).flatten:=by
  have:=tC zv.cells.toList k (by omega)
  rw [DW,Array.toArray_toList] at this
  rw [<- this,Array.toArray_toList]
 rw [e3] at hr
 refine ⟨_,_,hr,GG (hR.RG (rest:=[]) (c:=k) hn (RT.WM GH .lf 0) (wh z3) hlen.symm (by rw [List.append_nil,hlen]; exact Nat.le_refl _) (λ _=>Nat.le_refl _) (by rw [List.append_nil]; rfl)) ⟨_,jw _ _ _,c2,rfl⟩⟩
end
section
variable {P:Program} {Fr:lO} {ρ:Rn} {h h':Hp} {w:World} {v:V} {n n':Nat} {e:En} {e':Env}
theorem RK {x:Value} (hx:fe x=true):x.oneCell'=true:=by cases x <;> first | rfl | cases hx
theorem ym (c:Nat):∀ m j,iB ρ (Aj c m j) ((List.range' j m).map λ i=>Value.int .u8 ((ky c i).toNat:Int)):=by
 intro m
 induction m with
 | zero=>intro j; exact (show iB ρ .e [] from rfl)
 | succ m ih=>
  intro j
  refine ⟨_,_,rfl,?_,ih (Nat.succ j)⟩
  show Value.int .u8 _=Value.int .u8 ((c >>> (8 * j) % 256:Nat):Int)
  rw [fD,Nat.shiftRight_eq_div_pow]
theorem uv (c l:Nat):byteCells (strOf c l)=(List.range' 0 l).map λ i=>Value.int .u8 ((ky c i).toNat:Int):=by
 show (oR (strOf c l)).map _=_
 rw [iR,List.map_map,List.range_eq_range']
 rfl
theorem LV {b o l es:Nat} {k:V->Nat->OR} {q:Pl} (hR:RH P Fr ρ h w) (hb:ρ b=some q) (hh:Jv h b o l es k = .ok v h' n') :
  ∃ u news,k u l = .ok v h' n'/\iB ρ u news/\(∀ z∈news,fe z=true)/\news.length=l * es/\∀ j x,news[j]? = some x->Cell w q.k (q.b+o+j) x:=by
 obtain ⟨m,mK,t,g,hh⟩:=j9 hh
 obtain ⟨hle,hh⟩:=dB hh
 obtain ⟨q',cs,ty,fz,g1,g2,_,_,_,_,g7,g8⟩:=hR.cells g
 rw [hb] at g1; cases g1
 obtain ⟨xs,k1,_,k3,k4,k5⟩:=Ed (w:=w) g2 g7 g8 (show o+l * es<=m from dQ hle)
 exact ⟨_,xs,hh,k3.rd k1,k4,k1,k5⟩
theorem acO {es:Nat} {y:V} {x:Value} {k:V->Nat->OR} {tx:TypeId} (hk:(∃ e',P.underlying tx=some (.slice e'))\/P.underlying tx=some .string) (hR:RH P Fr ρ h w) (hy:RV ρ y x) (hh:src h es y k = .ok v h' n') :
  ∃ u gK news,k u gK = .ok v h' n'/\iB ρ u news/\(∀ z∈news,fe z=true)/\Src P es tx x gK news w:=by
 have sl:∀ {b o l cap:Nat} {q:Pl},ρ b=some q->Jv h b o l es k = .ok v h' n'->∃ u gK news,k u gK = .ok v h' n'/\iB ρ u news/\(∀ z∈news,fe z=true)/\Src P es tx (.slice (some ⟨q.k,q.b+o,none⟩) l cap) gK news w:=by
  intro b o l cap q hb hh
  obtain ⟨u,news,h1,h2,h3,h4,h5⟩:=LV hR hb hh
  refine ⟨u,l,news,h1,h2,h3,hk,λ _=>rfl,run_firstCells_some w es l _ l cap news h4 (λ j x hx=>by rw [dK]; exact h5 j x hx),run_firstCells_some w.drew es l _ l cap news h4 (λ j x hx=>by rw [dK]; exact h5 j x hx),h4,λ u hu=>RK (h3 u hu)⟩
 have nl:∀ {a:Option Addr} {cap:Nat},k .e 0 = .ok v h' n'->∃ u gK news,k u gK = .ok v h' n'/\iB ρ u news/\(∀ z∈news,fe z=true)/\Src P es tx (.slice a 0 cap) gK news w:=by
  intro a cap hh
  refine ⟨.e,0,[],hh,(show iB ρ .e [] from rfl),λ z hz=>by simp at hz,hk,λ _=>rfl,?_,?_,by simp,λ z hz=>by simp at hz⟩
  ·cases a <;> simp [Builtin.firstCells,loadCells,loadCellsFrom]
  ·cases a <;> simp [Builtin.firstCells,loadCells,loadCellsFrom]
 rcases Av hh with hh | ⟨rfl,hh⟩ | ⟨b,o,l,d,rfl,hh⟩ | ⟨b,o,l,c,rfl,hh⟩ | ⟨rfl,hh⟩
 ·obtain ⟨c,l,rfl,hh⟩:=WQ hh
  obtain ⟨he,hh⟩:=dB hh
  obtain rfl:es=1:=fj he
  obtain rfl:x = .string (strOf c l):=hy
  refine ⟨_,l,byteCells (strOf c l),hh,by rw [uv]; exact ym c l 0,λ z hz=>?_,hk,λ _=>by show Result.ok (strOf c l).size _=_; rw [ed],?_,?_,by rw [byteCells_length,ed]; omega,λ z hz=>?_⟩
  ·obtain ⟨_,_,rfl⟩:=List.mem_map.1 hz; rfl
  ·have:=firstCells_string (P:=P) (strOf c l) w; rwa [ed] at this
  ·have:=firstCells_string (P:=P) (strOf c l) w.drew; rwa [ed] at this
  obtain ⟨_,_,rfl⟩:=List.mem_map.1 hz; rfl
 ·obtain rfl:x = .slice none 0 0:=hy
  exact nl hh
 ·obtain ⟨q,hb,_,rfl⟩:=hy
  exact sl hb hh
 ·obtain ⟨q,hb,_,rfl⟩:=hy
  exact sl hb hh
 obtain ⟨a,c,rfl⟩:=hy
 exact nl hh
theorem wi {T E es tx R l c gK:Nat} {i:TypeInfo} {x:Value} {news:List Value} {a:Addr} {w':World} (hu:P.underlying T=some (.slice E)) (hi:P.info? E=some i) (iN:i.size=es) (hs:Src P es tx x gK news w) (jJ:l+gK<=c)
  (hst:(storeCells (a.add (l * es)) news 0).run P w = .ok () w'):(Builtin.append_ #[T,tx] R [.slice (some a) l c,x].toArray).run P w = .ok (.slice (some a) (l+gK) c) w':=by
 subst iN
 rcases hs.kind with ⟨e',hk⟩ | hk <;> simp [Builtin.append_,run_underlying hu,run_underlying hk,sizeOf,typeInfo,hi,hs.len,jJ,hs.cells,hst]
theorem aaH {T E es by' tx R:Nat} {p q:Oq} {x y:Value} (hf:cT P T=some (E,es,by',some es)) (h1:1<=es) (UX:by'<=8192) (hk:(∃ e',P.underlying tx=some (.slice e'))\/P.underlying tx=some .string)
  (hR:RH P Fr ρ h w) (hx:RV ρ (ek e p) x) (hy:RV ρ (ek e q) y) (hh:aaq e h n es p q = .ok v h' n'):gd P (Builtin.append_ #[T,tx] R [x,y].toArray) w (jV P Fr ρ v h'):=by
 obtain ⟨hu,inf,hi,iN,nJ,yZ⟩:=dz hf
 obtain ⟨zv,hzv,hzs⟩:∃ zv,inf.zero=some zv/\zv.cells.size=es:=by
  cases hz:inf.zero with
  | none=>rw [hz] at yZ; cases yZ
  | some zv=>rw [hz] at yZ; exact ⟨zv,rfl,by simpa using yZ⟩
 obtain ⟨u,gK,news,hh,hl,nV,hs⟩:=acO hk hR hy hh
 have Dp:=hs.newsLen
 have fits:∀ {acP old:Nat},old<acP->acP<=1073741824->Builtin.nextslicecap acP old * inf.bytes<=281474976710656:=λ ho hn=>by
  refine growslice_fits ho ?_
  have:=Nat.mul_le_mul hn (show inf.bytes<=8192 by omega)
  omega
 have grow:∀ {a:Option Addr} {l c:Nat} {olds:List Value} {t:Tr V} {WY:Hp},RH P Fr ρ WY w->(Builtin.firstCells es l (.slice a l c)).run P w.drew = .ok olds.toArray w.drew->olds.length=l * es->c<l+gK->l+gK<=1073741824->
   RT ρ t 0 olds->(∀ z∈olds,fe z=true)->Cq n es (l+gK) (tr u (l * es) t) WY = .ok v h' n'->gd P (Builtin.append_ #[T,tx] R [.slice a l c,y].toArray) w (jV P Fr ρ v h'):=by
  intro a l c olds t WY hR0 ho N3 eU hle ht ah6 hh
  obtain ⟨hn,hh⟩:=lC hh
  obtain ⟨rfl,rfl,_⟩:=cA hh
  have FB:=grownCap_ge w (l+gK) c E
  subst iN
  have hr:=run_append_grow_src (P:=P) w T tx R E inf zv hu hi hzv a l c olds ho y gK news hs eU (by omega) (fits eU hle)
  have DW:(Builtin.zeroCells zv.cells (grownCap w (l+gK) c E - (l+gK))).toList.length=(grownCap w (l+gK) c E - (l+gK)) * inf.size:=by rw [Array.length_toList,size_zeroCells,hzs]
  have hlen:(olds++news).length=(l+gK) * inf.size:=by rw [List.length_append,N3,Dp,Nat.add_mul]
  have hm:=hR0.RG (t:=tr u (l * inf.size) t) (cs:=olds++news) (rest:=(Builtin.zeroCells zv.cells (grownCap w (l+gK) c E - (l+gK))).toList) (T:=E) (c:=grownCap w (l+gK) c E) (es:=inf.size) (m:=(l+gK) * inf.size)
   (w':=w.drew.alloc (.cells ((olds++news).toArray++Builtin.zeroCells zv.cells (grownCap w (l+gK) c E - (l+gK))) E)) hn (by rw [<- N3]; exact ht.app hl) (LS ah6 nV) hlen.symm
   (by rw [List.length_append,hlen,DW,<- Nat.add_mul]; exact Nat.mul_le_mul_right _ (by omega)) (λ _=>Nat.mul_le_mul_right _ FB) (by
    show w.heap.push _=w.heap.push _
    congr 2
    apply Array.ext'
    simp)
  refine ⟨_,_,hr,GG hm ⟨_,jw _ _ _,⟨by simp,by show l+gK+0<=grownCap w (l+gK) c E; omega⟩,rfl⟩⟩
 have room:∀ {b o l c m:Nat} {t:Tr V} {u':V} {mK:Nat} {q:Pl} ,ρ b=some q->dH h b = .c m mK t->l+gK<=c->o+(l+gK) * es<=m->(RV ρ u' (.slice (some ⟨q.k,q.b+o,none⟩) (l+gK) c))->
   OR.ok u' (eL h (.c m mK (tr u (o+l * es) t)) b) n = .ok v h' n'->gd P (Builtin.append_ #[T,tx] R [.slice (some ⟨q.k,q.b+o,none⟩) l c,y].toArray) w (jV P Fr ρ v h'):=by
  intro b o l c m t u' mK q hb hg jJ uK hv hh
  obtain ⟨rfl,rfl,_⟩:=cA hh
  obtain ⟨q',w',g1,g2,g3⟩:=hR.sts (o:=o+l * es) hg hl nV (by rw [Dp,Nat.add_assoc,<- Nat.add_mul]; exact uK)
  rw [hb] at g1; cases g1
  exact ⟨_,w',wi hu hi iN hs jJ (by rw [dK,Nat.add_assoc]; exact g2),ρ,Le.refl _,g3,hv⟩
 by_cases ug:Nat.beq gK 0=true
 ·
  rw [ug] at hh
  have:gK=0:=fj ug
  subst this
  have hn0:news=[]:=List.length_eq_zero_iff.1 (by omega)
  subst hn0
  have hh:(ek e p).pI .no (.ok .ns h n) (λ b o l d=>.ok (.sl b o l d) h n) (λ b o l c=>.ok (.sx b o l c) h n) .no = .ok v h' n':=hh
  rcases Av hh with hh | ⟨e1,hh⟩ | ⟨b,o,l,d,e1,hh⟩ | ⟨b,o,l,c,e1,hh⟩ | ⟨e1,hh⟩
  ·cases hh
  ·obtain ⟨rfl,rfl,_⟩:=cA hh
   rw [e1] at hx
   obtain rfl:x = .slice none 0 0:=hx
   refine ⟨.slice none 0 0,w,?_,hR.post rfl⟩
   subst iN
   rcases hs.kind with ⟨e',hk⟩ | hk <;> simp [Builtin.append_,run_underlying hu,run_underlying hk,sizeOf,typeInfo,hi,hs.len,hs.cells]
  ·obtain ⟨rfl,rfl,_⟩:=cA hh
   rw [e1] at hx
   have Nn:=hx
   obtain ⟨q,hb,⟨_,hle⟩,rfl⟩:=hx
   exact ⟨_,w,wi (w':=w) hu hi iN hs (by omega) rfl,hR.post Nn⟩
  ·obtain ⟨rfl,rfl,_⟩:=cA hh
   rw [e1] at hx
   have Nn:=hx
   obtain ⟨q,hb,hle,rfl⟩:=hx
   exact ⟨_,w,wi (w':=w) hu hi iN hs (by omega) rfl,hR.post Nn⟩
  cases hh
 have ug:Nat.beq gK 0=false:=Bool.eq_false_iff.2 ug
 have uJ:0<gK:=by
  rcases Nat.eq_zero_or_pos gK with h | h
  ·rw [h] at ug; cases ug
  ·exact h
 rw [ug] at hh
 rcases Av (show (ek e p).pI .no _ _ _ _ = .ok v h' n' from hh) with hh | ⟨e1,hh⟩ | ⟨b,o,l,d,e1,hh⟩ | ⟨b,o,l,c,e1,hh⟩ | ⟨e1,hh⟩
 ·cases hh
 ·obtain ⟨hle,hh⟩:=dB hh
  have hle:=dQ hle
  rw [e1] at hx
  obtain rfl:x = .slice none 0 0:=hx
  refine grow (olds:=[]) (l:=0) (t:=.lf) hR (by rfl) (by simp) (by omega) (by omega) (λ j x hj=>by simp at hj) (λ z hz=>by simp at hz) ?_
  rw [Nat.zero_add,Nat.zero_mul]; exact hh
 ·
  rw [e1] at hx
  obtain ⟨q,hq,⟨ho,hlc⟩,rfl⟩:=hx
  obtain ⟨m,mK,t,hg,LU⟩:=j9 hh
  obtain ⟨hc,WU⟩:=dB LU
  clear hh LU
  obtain ⟨c1,c2⟩:=dI hc
  have c1:es=mK:=fj c1
  have c2:l+gK<=1073741824:=dQ c2
  subst c1
  have hh:=WU
  clear WU
  obtain ⟨q',cs,ty,fz,g1,g2,g3,g4,g5,g6,g7,g8⟩:=hR.cells hg
  rw [hq] at g1; cases g1
  have g6:=g6 (by omega)
  rw [g4] at ho
  by_cases uK:Nat.ble (o+(l+gK) * es) m=true
  ·rw [show Nat.ble (Nat.add o (Nat.mul (Nat.add l gK) es)) m=true from uK] at hh
   have uK:=dQ uK
   have:(l+gK)+d<=q.c:=by
    have:(d+(l+gK)) * es<=q.c * es:=by rw [Nat.add_mul]; omega
    have:=Nat.le_of_mul_le_mul_right this (by omega:0<es)
    omega
   exact room (u':=.sl b o (l+gK) d) hq hg (by omega) uK ⟨q,hq,⟨by rw [g4]; exact ho,this⟩,rfl⟩ hh
  have ah7:Nat.ble (o+(l+gK) * es) m=false:=Bool.eq_false_iff.2 uK
  rw [show Nat.ble (Nat.add o (Nat.mul (Nat.add l gK) es)) m=false from ah7] at hh
  obtain ⟨hle,hh⟩:=dB (show dY (Nat.ble (o+l * es) m) _ .no = .ok v h' n' from hh)
  have hle:=dQ hle
  obtain ⟨xs,k1,k2,k3,k4,k5⟩:=Ed (w:=w) g2 g7 g8 (show o+l * es<=m from hle)
  have ht:RT ρ (Bool.rec (motive:=λ _=>Tr V) (tr (rd t (l * es) o) 0 .lf) t (Nat.beq o 0)) 0 xs:=by
   cases ho0:Nat.beq o 0 with
   | true=>have:=fj ho0; subst this; exact k3
   | false=>exact RT.WM (k3.rd k1) .lf 0
  have hR1:=hR.kill b
  by_cases jJ:l+gK<=q.c - d
  ·
   obtain ⟨w',j1,j2,j3,j4⟩:=LQ (P:=P) news (q.b+(o+l * es)) 0 cs w g2 g3 (by
    have:(d+(l+gK)) * es<=q.c * es:=Nat.mul_le_mul_right _ (by omega)
    rw [Nat.add_mul,Nat.add_mul,<- ho] at this
    rw [Dp]; omega) nV
   rw [Nat.add_zero] at j2
   obtain ⟨hn,hh⟩:=lC hh
   obtain ⟨rfl,rfl,_⟩:=cA hh
   have le:=qJ (q:=⟨q.k,q.b+o,q.c - d,es⟩) (hR1.fresh n hn)
   have GI:=Jz hg
   have vA:q.b+o+(q.c - d) * es=q.b+q.c * es:=by
    have:d * es<=q.c * es:=Nat.mul_le_mul_right _ (by omega)
    rw [Nat.sub_mul]; omega
   have aaJ:(l+gK) * es<=(q.c - d) * es:=Nat.mul_le_mul_right _ jJ
   have WW:=ht.app hl
   rw [k1] at WW
   have hRn:RH P Fr (ext ρ n ⟨q.k,q.b+o,q.c - d,es⟩) (eL (eL h .x b) (.c ((l+gK) * es) es (tr u (l * es) (Bool.rec (motive:=λ _=>Tr V) (tr (rd t (l * es) o) 0 .lf) t (Nat.beq o 0)))) n) w':=by
    refine hR1.add (hst:=j4) hn (λ b' q' VV hb2=>?_) (hR.off b q GI hq) (λ r o' hr Fb=>j3 r o' hr Fb) j2 ⟨_,ty,fz,rfl,λ j hj=>g3 j (by rwa [hG] at hj),rfl,by rw [hG]; show q.b+o+(q.c - d) * es<=_; omega,λ _=>aaJ,by rw [hG]; show q.b+o+(l+gK) * es<=_; omega,λ i hi=>?_⟩
    ·have iS:b'≠b:=λ hh=>by rw [hh,gU,if_pos rfl] at VV; exact VV
     rw [gU,if_neg iS] at VV
     exact hR.sep b' b q' q VV GI iS hb2 hq
    ·show ∃ x,(eC cs (q.b+(o+l * es)) news)[q.b+o+i]? = some x/\_
     have hlx:(xs++news).length=(l+gK) * es:=by rw [List.length_append,k1,Dp,Nat.add_mul]
     obtain ⟨x,N4⟩:∃ x,(xs++news)[i]? = some x:=⟨_,List.getElem?_eq_getElem (by omega)⟩
     have hri:=WW i x N4
     rw [Nat.zero_add] at hri
     obtain ⟨a,c⟩:=qK news cs (q.b+(o+l * es)) (q.b+o+i) (by rw [Dp]; rw [Nat.add_mul] at aaJ; omega)
     refine ⟨x,?_,hri.mono le,LS k4 nV x (List.mem_of_getElem? N4)⟩
     by_cases hil:i<l * es
     ·rw [a (.inl (by omega))]
      rw [List.getElem?_append_left (by omega),k2,List.getElem?_take_of_lt hil,List.getElem?_drop] at N4
      exact N4
     ·rw [List.getElem?_append_right (by omega),k1] at N4
      have:=c (i - l * es) (by rw [Dp]; rw [Nat.add_mul] at hi; omega)
      rw [show q.b+(o+l * es)+(i - l * es)=q.b+o+i from by omega] at this
      rw [this]; exact N4
   exact ⟨_,w',wi hu hi iN hs jJ (by rw [dK,Nat.add_assoc]; exact j1),_,le,hRn,⟨_,jw _ _ _,⟨by simp,by show l+gK+0<=q.c - d; omega⟩,rfl⟩⟩
  exact grow hR1 (run_firstCells_some w.drew es l _ l (q.c - d) xs k1 (λ j x hx=>by rw [dK]; exact k5 j x hx)) k1 (by omega) c2 ht k4 hh
 ·
  rw [e1] at hx
  obtain ⟨q,hq,hlc,rfl⟩:=hx
  obtain ⟨m,mK,t,hg,hh⟩:=j9 hh
  obtain ⟨c2,hh⟩:=dB hh
  have c2:l+gK<=1073741824:=dQ c2
  by_cases jJ:Nat.ble (l+gK) c=true
  ·rw [show Nat.ble (Nat.add l gK) c=true from jJ] at hh
   have jJ:=dQ jJ
   obtain ⟨uK,hh⟩:=dB (show dY (Nat.ble (o+(l+gK) * es) m) _ .no = .ok v h' n' from hh)
   exact room (u':=.sx b o (l+gK) c) hq hg jJ (dQ uK) ⟨q,hq,jJ,rfl⟩ hh
  have JC:Nat.ble (l+gK) c=false:=Bool.eq_false_iff.2 jJ
  rw [show Nat.ble (Nat.add l gK) c=false from JC] at hh
  obtain ⟨hle,hh⟩:=dB (show dY (Nat.ble (o+l * es) m) _ .no = .ok v h' n' from hh)
  have hle:=dQ hle
  have eU:¬ (l+gK<=c):=λ hle=>by rw [Nat.ble_eq_true_of_le hle] at JC; cases JC
  obtain ⟨q',cs,ty,fz,g1,g2,g3,g4,g5,g6,g7,g8⟩:=hR.cells hg
  rw [hq] at g1; cases g1
  obtain ⟨xs,k1,k2,k3,k4,k5⟩:=Ed (w:=w) g2 g7 g8 (show o+l * es<=m from hle)
  exact grow hR (run_firstCells_some w.drew es l _ l c xs k1 (λ j x hx=>by rw [dK]; exact k5 j x hx)) k1 (by omega) c2 (RT.WM (k3.rd k1) .lf 0) k4 hh
 cases hh
theorem ah8 {T E es by' tx R:Nat} {kn:IntKind} {z:V} {p q:Oq} {x y:Value} (hf:cT P T=some (E,es,by',some es)) (hz:m5 P E=some z) (h1:1<=es) (UX:by'<=8192) (hk:P.underlying tx=some (.int kn))
  (hR:RH P Fr ρ h w) (hx:RV ρ (ek e p) x) (hy:RV ρ (ek e q) y) (hh:aau e h n es z p q = .ok v h' n'):gd P (Builtin.append_ #[T,tx] R [x,y].toArray) w (jV P Fr ρ v h'):=by
 obtain ⟨hu,inf,hi,iN,nJ,yZ⟩:=dz hf
 obtain ⟨zv,qc,z1,z2,z3⟩:=qN (ρ:=ρ) hz
 have acN:inf.zero=some zv:=by
  unfold cH at qc
  rw [hi] at qc
  simpa using qc
 rcases Av (show (ek e p).pI .no _ _ _ _ = .ok v h' n' from hh) with hh | ⟨e1,hh⟩ | ⟨b,o,l,d,e1,hh⟩ | ⟨b,o,l,c,e1,hh⟩ | ⟨e1,hh⟩
 ·cases hh
 ·rw [e1] at hx
  obtain rfl:x = .slice none 0 0:=hx
  obtain ⟨t1,j,e2,hh⟩:=oG hh
  rw [e2] at hy
  obtain rfl:y = .int t1 (j:Int):=hy
  obtain ⟨hc,hh⟩:=dB hh
  obtain ⟨c1,hc⟩:=dI hc
  obtain ⟨c2,c3⟩:=dI hc
  have c1:=fj c1
  have c2:=dQ c2
  have c3:=dQ c3
  obtain ⟨hn,hh⟩:=lC hh
  obtain ⟨rfl,rfl,_⟩:=cA hh
  have DW:zv.cells.toList.length=es:=by rw [<- z2.len]; exact c1
  have hzs:zv.cells.size=es:=by rw [<- Array.length_toList]; exact DW
  have h48:j * inf.bytes<=281474976710656:=by
   have:=Nat.mul_le_mul c3 (show inf.bytes<=8192 by omega)
   omega
  have hr:=Lib.run_append_nil_zeros (P:=P) w T tx R E inf zv t1 kn hu hk hi acN j (by omega) (by omega) (by omega) h48
  have FB:=grownCap_ge w j 0 E
  have hlen:(List.replicate j zv.cells.toList).flatten.length=j * es:=by simp [DW]
  have e3:Builtin.zeroCells zv.cells j=List.toArray (List.replicate j zv.cells.toList).flatten:=by
   have:=tC zv.cells.toList j (by omega)
   rw [DW,Array.toArray_toList] at this
   rw [<- this,Array.toArray_toList,<- hzs]
   rfl
  have hz2:(Builtin.zeroCells zv.cells (grownCap w j 0 E - j)).toList.length=(grownCap w j 0 E - j) * es:=by rw [Array.length_toList,size_zeroCells,hzs]
  rw [e3] at hr
  refine ⟨_,_,hr,GG (hR.RG (t:=tr (yM z j) 0 .lf) (rest:=(Builtin.zeroCells zv.cells (grownCap w j 0 E - j)).toList) (c:=grownCap w j 0 E) hn (RT.WM (z2.rep j) .lf 0) (wh z3) hlen.symm
   (by rw [List.length_append,hlen,hz2,<- Nat.add_mul]; exact Nat.mul_le_mul_right _ (by omega)) (λ _=>Nat.mul_le_mul_right _ FB) (by
    show w.heap.push _=w.heap.push _
    congr 2
    apply Array.ext'
    simp)) ⟨_,jw _ _ _,⟨by simp,by show j+0<=grownCap w j 0 E; omega⟩,rfl⟩⟩
 ·cases hh
 ·cases hh
 cases hh
end
end Go.Fw
