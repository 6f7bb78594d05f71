/-
  The data of this seat: what their cells are, what they read as.
-/
import Derived.Test.YtddeoncipdpkfaaGreatDoorZTy
import Derived.Test.YtddeoncipdpkfaaGreatDoorZFw22
import Derived.Test.YtddeoncipdpkfaaGreatDoorZFw29
import Derived.Test.YtddeoncipdpkfaaGreatDoorZFw22
import Derived.KernelRfl
set_option linter.all false
namespace Go.Proofs.YtddeoncipdpkfaaGreatDoor
open Go.Fw

@[ext] structure TUse where
  what : Int
  n : Int
  write : Bool
deriving DecidableEq
instance : Flat TUse where
  agg := true
  sz := 3
  enc e := [.int .i64 e.what, .int .i64 e.n, .bool e.write]
  val e := .agg [.int .i64 e.what, .int .i64 e.n, .bool e.write].toArray
  pos := by decide
  len _ := rfl
  one a v h := by simp at h; rcases h with rfl | rfl | rfl <;> rfl
  vagg _ _ := rfl
  vone h := by cases h
instance : Deep TUse TUse := plainDeep
def TUseOk (x : TUse) : Prop := i64ok x.what ∧ i64ok x.n ∧ True
@[ext] structure TEvent where
  kind : Int
  t : Int
  a : Int
  n : Int
  m : Int
deriving DecidableEq
instance : Flat TEvent where
  agg := true
  sz := 5
  enc e := [.int .i64 e.kind, .int .i64 e.t, .int .i64 e.a, .int .i64 e.n, .int .i64 e.m]
  val e := .agg [.int .i64 e.kind, .int .i64 e.t, .int .i64 e.a, .int .i64 e.n, .int .i64 e.m].toArray
  pos := by decide
  len _ := rfl
  one a v h := by simp at h; rcases h with rfl | rfl | rfl | rfl | rfl <;> rfl
  vagg _ _ := rfl
  vone h := by cases h
instance : Deep TEvent TEvent := plainDeep
def TEventOk (x : TEvent) : Prop := i64ok x.kind ∧ i64ok x.t ∧ i64ok x.a ∧ i64ok x.n ∧ i64ok x.m
structure TPick where
  kind : Int
  t : Int
  i : Int
  cut : (List Int)
deriving DecidableEq
structure TPickV where
  kind : Int
  t : Int
  i : Int
  cut : SV
instance : Flat TPickV where
  agg := true
  sz := 4
  enc e := [.int .i64 e.kind, .int .i64 e.t, .int .i64 e.i, .slice e.cut.a e.cut.n e.cut.cap]
  val e := .agg [.int .i64 e.kind, .int .i64 e.t, .int .i64 e.i, .slice e.cut.a e.cut.n e.cut.cap].toArray
  pos := by decide
  len _ := rfl
  one a v h := by simp at h; rcases h with rfl | rfl | rfl | rfl <;> rfl
  vagg _ _ := rfl
  vone h := by cases h
instance : Deep TPick TPickV where
  dr w s x := ∃ (cut_ : SV), s = (⟨x.kind, x.t, x.i, cut_⟩ : TPickV) ∧ DL w (Flat.val cut_) x.cut
  ext h e := by
    obtain ⟨g0, rfl, h0⟩ := h
    exact ⟨g0, rfl, h0.ext e⟩
def TPickOk (x : TPick) : Prop := i64ok x.kind ∧ i64ok x.t ∧ i64ok x.i ∧ (∀ y ∈ x.cut, i64ok y)
@[ext] structure TNode where
  op : Int
  n : Int
  name : ByteArray
  at_ : Int
deriving DecidableEq
instance : Flat TNode where
  agg := true
  sz := 4
  enc e := [.int .i64 e.op, .int .i64 e.n, .string e.name, .int .i64 e.at_]
  val e := .agg [.int .i64 e.op, .int .i64 e.n, .string e.name, .int .i64 e.at_].toArray
  pos := by decide
  len _ := rfl
  one a v h := by simp at h; rcases h with rfl | rfl | rfl | rfl <;> rfl
  vagg _ _ := rfl
  vone h := by cases h
instance : Deep TNode TNode := plainDeep
def TNodeOk (x : TNode) : Prop := i64ok x.op ∧ i64ok x.n ∧ (x.name).size ≤ maxLen ∧ i64ok x.at_
structure TStmt where
  kind : Int
  reg : ByteArray
  name : ByteArray
  e : (List TNode)
  f : (List TNode)
  n : Int
  body : Int
  els : Int
  at_ : Int
deriving DecidableEq
structure TStmtV where
  kind : Int
  reg : ByteArray
  name : ByteArray
  e : SV
  f : SV
  n : Int
  body : Int
  els : Int
  at_ : Int
instance : Flat TStmtV where
  agg := true
  sz := 9
  enc e := [.int .i64 e.kind, .string e.reg, .string e.name, .slice e.e.a e.e.n e.e.cap, .slice e.f.a e.f.n e.f.cap, .int .i64 e.n, .int .i64 e.body, .int .i64 e.els, .int .i64 e.at_]
  val e := .agg [.int .i64 e.kind, .string e.reg, .string e.name, .slice e.e.a e.e.n e.e.cap, .slice e.f.a e.f.n e.f.cap, .int .i64 e.n, .int .i64 e.body, .int .i64 e.els, .int .i64 e.at_].toArray
  pos := by decide
  len _ := rfl
  one a v h := by simp at h; rcases h with rfl | rfl | rfl | rfl | rfl | rfl | rfl | rfl | rfl <;> rfl
  vagg _ _ := rfl
  vone h := by cases h
instance : Deep TStmt TStmtV where
  dr w s x := ∃ (e_ : SV) (f_ : SV), s = (⟨x.kind, x.reg, x.name, e_, f_, x.n, x.body, x.els, x.at_⟩ : TStmtV) ∧ DL w (Flat.val e_) x.e ∧ DL w (Flat.val f_) x.f
  ext h e := by
    obtain ⟨g0, g1, rfl, h0, h1⟩ := h
    exact ⟨g0, g1, rfl, h0.ext e, h1.ext e⟩
def TStmtOk (x : TStmt) : Prop := i64ok x.kind ∧ (x.reg).size ≤ maxLen ∧ (x.name).size ≤ maxLen ∧ (∀ y ∈ x.e, TNodeOk y) ∧ (∀ y ∈ x.f, TNodeOk y) ∧ i64ok x.n ∧ i64ok x.body ∧ i64ok x.els ∧ i64ok x.at_
structure TThread where
  name : ByteArray
  regs : (List ByteArray)
  body : (List TStmt)
  at_ : Int
deriving DecidableEq
structure TThreadV where
  name : ByteArray
  regs : SV
  body : SV
  at_ : Int
instance : Flat TThreadV where
  agg := true
  sz := 4
  enc e := [.string e.name, .slice e.regs.a e.regs.n e.regs.cap, .slice e.body.a e.body.n e.body.cap, .int .i64 e.at_]
  val e := .agg [.string e.name, .slice e.regs.a e.regs.n e.regs.cap, .slice e.body.a e.body.n e.body.cap, .int .i64 e.at_].toArray
  pos := by decide
  len _ := rfl
  one a v h := by simp at h; rcases h with rfl | rfl | rfl | rfl <;> rfl
  vagg _ _ := rfl
  vone h := by cases h
instance : Deep TThread TThreadV where
  dr w s x := ∃ (regs_ : SV) (body_ : SV), s = (⟨x.name, regs_, body_, x.at_⟩ : TThreadV) ∧ DL w (Flat.val regs_) x.regs ∧ DL w (Flat.val body_) x.body
  ext h e := by
    obtain ⟨g0, g1, rfl, h0, h1⟩ := h
    exact ⟨g0, g1, rfl, h0.ext e, h1.ext e⟩
def TThreadOk (x : TThread) : Prop := (x.name).size ≤ maxLen ∧ (∀ y ∈ x.regs, (fun y : ByteArray => y.size ≤ maxLen) y) ∧ (∀ y ∈ x.body, TStmtOk y) ∧ i64ok x.at_
end Go.Proofs.YtddeoncipdpkfaaGreatDoor
