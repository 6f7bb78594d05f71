/-
  The shallow forms of functions of this seat, printed by a program of ours out of the seat's own program; each is checked by the kernel against the framework's D. Nothing here is trusted.
-/
import Derived.Test.YtddeoncipdpkfaaGreatDoorProg
import Derived.Test.YtddeoncipdpkfaaGreatDoorZFw4
import Derived.KernelRfl
set_option linter.all false
namespace Go.Proofs.YtddeoncipdpkfaaGreatDoor
open Go.Fw
set_option maxRecDepth 100000
variable (w : World) (K : Value → World → Prop)
abbrev i (n : Int) : Value := .int .i64 n
abbrev tt : Value := .bool true
abbrev ff : Value := .bool false
abbrev fA (T : Nat) (v : Value) (f : Nat) (K : Value → Prop) : Prop := Pop Tryz.prog (Instr.fieldAt T v f) K
abbrev iA (T : Nat) (v j : Value) (K : Value → Prop) : Prop := Pop Tryz.prog (Instr.indexAt T v j) K
abbrev lA (T : Nat) (p : Value) (w : World) (K : Value → Prop) : Prop := Qop Tryz.prog (Instr.loadAt T p) w K
abbrev sA (T : Nat) (p v : Value) (w : World) (K : World → Prop) : Prop := Uop Tryz.prog (Instr.storeAt T p v) w K
abbrev bA (o : BinOp) (T : Nat) (x y : Value) (K : Value → Prop) : Prop := Pop Tryz.prog (binS o T false false x y) K
abbrev bB (o : BinOp) (T : Nat) (x y : Value) (K : Value → Prop) : Prop := Pop Tryz.prog (binS o T false true x y) K
abbrev bC (o : BinOp) (T : Nat) (x y : Value) (K : Value → Prop) : Prop := Pop Tryz.prog (binS o T true false x y) K
abbrev cF (f : Nat) (args : List Value) (w : World) (K : Value → World → Prop) : Prop := CallF Tryz.prog f args w K
abbrev nC (v : Value) (K : Value → Prop) : Prop := Pop Tryz.prog (nilS v) K
abbrev lN (T : Nat) (v : Value) (K : Value → Prop) : Prop := Pop Tryz.prog (Builtin.len_ #[T] 3 [v].toArray) K
abbrev aL (T : Nat) (w : World) (K : Value → World → Prop) : Prop := Eop Tryz.prog (Instr.alloc T true (.tuple #[])) w K
abbrev xT (v : Value) (k : Nat) (K : Value → Prop) : Prop := Pop Tryz.prog (Instr.extract v k) K
abbrev kA (T : Nat) (p v : Value) (w : World) (R : Prop) : Prop := KeepAnd Tryz.prog (Instr.loadAt T p) v w R
abbrev aP (T : Nat) (a b : Value) (w : World) (K : Value → World → Prop) : Prop := Eop Tryz.prog (Builtin.append_ #[T, T] T [a, b].toArray) w K
abbrev bS (T n : Nat) (l : List (Nat × Value)) (w : World) (K : Value → World → Prop) : Prop := Eop Tryz.prog (Instr.buildSlice T n l.toArray) w K
abbrev cV (v : Value) (a b : Prop) : Prop := CondV v a b
theorem mixed : Tryz.prog.follows .mixedOrders = true := by kernel_rfl
def rlOf : List ResultVar → Nat
  | [] => 0
  | .tmp t :: r => setB (rlOf r) t
  | .cell a _ :: r => setB (rlOf r) a
theorem sok {f : FuncId} {fn : Func} (hf : Tryz.prog.funcs[f]? = some fn) {args : List Value} {w : World} {K : Value → World → Prop} {pl : Plans}
    (h : D Tryz.prog fn.ntmps pl (rlOf fn.results.toList) (fn.body.getD .skip) [] (rlOf fn.results.toList) (retQ Tryz.prog fn.results.toList K) [] (env0 args) w)
    (hc : (fn.body.isSome, Nat.ble args.length fn.ntmps) = (true, true) := by kernel_rfl) : Calls Tryz.prog f args.toArray w (Ret K) := by
  have h1 : fn.body.isSome = true := congrArg (fun x => x.1) hc
  have h5 : fn.body = some (fn.body.getD .skip) := by
    cases hb : fn.body with
    | none => rw [hb] at h1; cases h1
    | some c => rfl
  exact calls_of_D mixed hf h5 rfl (by simp) (Nat.le_of_ble_eq_true (congrArg (fun x => x.2) hc)) h
theorem sk0 {f : FuncId} {fn : Func} (hf : Tryz.prog.funcs[f]? = some fn) {args : List Value} {w : World} {K : Value → World → Prop}
    (h : D Tryz.prog fn.ntmps (fun _ => .nil) (rlOf fn.results.toList) (fn.body.getD .skip) [] (rlOf fn.results.toList) (retQ Tryz.prog fn.results.toList K) [] (env0 args) w)
    (hc : (fn.body.isSome, Nat.ble args.length fn.ntmps) = (true, true) := by kernel_rfl) : Calls Tryz.prog f args.toArray w (Ret K) := sok hf h hc

def S5 (l0 v1 done2 : Value) : Prop :=
 Eop Tryz.prog (Instr.box 42 done2) w fun done5 w1 =>
 lN 58 l0 fun x14 =>
 Pop Tryz.prog (Builtin.min_ #[3, 3] 3 [x14, (i 30)].toArray) fun x15 =>
 Pop Tryz.prog (Instr.sliceAt 58 l0 none (some x15) none) fun x16 =>
 lN 69 v1 fun x19 =>
 Pop Tryz.prog (Builtin.min_ #[3, 3] 3 [x19, (i 30)].toArray) fun x20 =>
 Pop Tryz.prog (Instr.sliceAt 69 v1 none (some x20) none) fun x21 =>
 bS 45 3 [(0, (i 0)), (1, (i 0)), (2, (i 1))] w1 fun x22 w2 =>
 lA 42 done5 w2 fun x26 =>
 cF 20 [x16, x21, x26, x22, (i 3)] w2 fun x28 w3 =>
 xT x28 0 fun x29 =>
 xT x28 1 fun x30 =>
 lA 42 done5 w3 fun x34 =>
 cF 21 [x16, x21, x34, x22, (i 3)] w3 fun x36 w4 =>
 xT x36 0 fun x37 =>
 xT x36 1 fun x38 =>
 Join1 (fun K1 =>
 cF 22 [x29, x37] w4 fun x41 w5 =>
 cV x41 (
 cF 23 [x30, x38] w5 fun x45 w6 =>
 cV x45 (
 cF 24 [] w6 fun x48 w7 =>
 K1 x48 w7) (
 K1 ff w6)) (
 K1 ff w5))
 (fun x6 w8 => ∀ _ : Env,
 K x6 w8)
theorem S5_ok (l0 v1 done2 : Value) (h : S5 w K l0 v1 done2) : Calls Tryz.prog 5 [l0, v1, done2].toArray w (Ret K) :=
 okE 50 (fun _ => .nil) 64 [.tmp 6] Tryz.func5 (by kernel_rfl) (by kernel_rfl) (by kernel_rfl) mixed (by simp) (by kernel_rfl) h

def S20 (l0 v1 done2 of3 stays4 : Value) : Prop :=
 Eop Tryz.prog (Instr.box 42 done2) w fun done7 w1 =>
 lN 58 l0 fun x17 =>
 lN 69 v1 fun x19 =>
 bA .neq 3 x17 x19 fun x20 =>
 cV x20 (
 K (.tuple #[(.slice none 0 0), (.slice none 0 0)]) w1) (
 lN 58 l0 fun x22 =>
 Loop3 (fun K1 picks12 events13 x23 w2 => ∀ _ : Env,
 bA .lss 3 x23 x22 fun x24 =>
 cV x24 (
 Join2 (fun K2 =>
 iA 58 l0 x23 fun x26 =>
 lA 47 x26 w2 fun x27 =>
 aL 47 w2 fun p15 w3 =>
 sA 47 p15 x27 w3 fun w4 =>
 iA 69 v1 x23 fun x30 =>
 lA 42 x30 (drew w4) fun x31 =>
 lA 42 done7 (drew w4) fun x32 =>
 cF 69 [x31, x32, of3, stays4] (drew w4) fun x35 w5 =>
 Pop Tryz.prog (Op.unary .not x35) fun x36 =>
 cV x36 (
 fA 47 p15 3 fun x37 =>
 lA 45 x37 w5 fun x38 =>
 cF 56 [x38] w5 fun x39 w6 =>
 fA 47 p15 3 fun x40 =>
 sA 45 x40 x39 w6 fun w7 =>
 lA 47 p15 (drew w7) fun x42 =>
 iA 69 v1 x23 fun x48 =>
 lA 42 x48 (drew w7) fun x49 =>
 ((
 bS 58 1 [(0, x42)] (drew w7) fun x43 w8 =>
 kA 42 x48 x49 w8 (
 ((
 aP 58 picks12 x43 w8 fun x44 w9 =>
 kA 42 x48 x49 w9 (
 bS 69 1 [(0, x49)] w9 fun x50 w10 =>
 kA 47 p15 x42 w10 (
 aP 69 events13 x50 w10 fun x51 w11 =>
 K2 x44 x51 w11)))
 ∧
 ((
 bS 69 1 [(0, x49)] w8 fun x50_1 w12 =>
 kA 47 p15 x42 w12 (
 aP 58 picks12 x43 w12 fun x44_1 w13 =>
 kA 42 x48 x49 w13 (
 aP 69 events13 x50_1 w13 fun x51_1 w14 =>
 K2 x44_1 x51_1 w14)))
 ∧
 True))))
 ∧
 ((
 bS 69 1 [(0, x49)] (drew w7) fun x50_2 w15 =>
 kA 47 p15 x42 w15 (
 bS 58 1 [(0, x42)] w15 fun x43_1 w16 =>
 kA 42 x48 x49 w16 (
 aP 58 picks12 x43_1 w16 fun x44_2 w17 =>
 kA 42 x48 x49 w17 (
 aP 69 events13 x50_2 w17 fun x51_2 w18 =>
 K2 x44_2 x51_2 w18))))
 ∧
 True))) (
 K2 picks12 events13 w5))
 (fun picks12_1 events13_1 w19 => ∀ _ : Env,
 bB .add 3 x23 (i 1) fun x52 =>
 K1 picks12_1 events13_1 x52 w19)) (
 K (.tuple #[picks12, events13]) w2))
 (fun K1 => K1 (.slice none 0 0) (.slice none 0 0) (i 0) w1))
def P20 : Plans := fun i => match i with
 | 8 => .run 0 9
 | 10 => (.op 0 [] (.op 1 [] (.op 4 [] (.op 5 [] (.op 6 [] (.op 7 [] (.op 8 [] (.alt 2 [8] (.alt 3 [8] (.of [(9, [1]), (10, []), (11, []), (12, [])]) (.alt 9 [1] (.of [(3, [8]), (10, []), (11, []), (12, [])]) .stop)) (.alt 9 [1] (.of [(2, [8]), (3, [8]), (10, []), (11, []), (12, [])]) .stop)))))))))
 | _ => .nil
theorem S20_ok (l0 v1 done2 of3 stays4 : Value) (h : S20 w K l0 v1 done2 of3 stays4) : Calls Tryz.prog 20 [l0, v1, done2, of3, stays4].toArray w (Ret K) :=
 okE 55 P20 3072 [.tmp 10, .tmp 11] Tryz.func20 (by kernel_rfl) (by kernel_rfl) (by kernel_rfl) mixed (by simp) (by kernel_rfl) h

def S21 (l0 v1 done2 of3 stays4 : Value) : Prop :=
 Eop Tryz.prog (Instr.box 42 done2) w fun done7 w1 =>
 bS 58 0 [] w1 fun x15 w2 =>
 bS 69 0 [] w2 fun x16 w3 =>
 Loop3 (fun K1 a12 b13 i14 w4 => ∀ _ : Env,
 Join1 (fun K2 =>
 lN 58 l0 fun x19 =>
 bA .lss 3 i14 x19 fun x20 =>
 cV x20 (
 lN 58 l0 fun x23 =>
 lN 69 v1 fun x25 =>
 bA .eql 3 x23 x25 fun x26 =>
 K2 x26 w4) (
 K2 ff w4))
 (fun x27 w5 => ∀ _ : Env,
 cV x27 (
 Join2 (fun K3 =>
 iA 69 v1 i14 fun x32 =>
 lA 42 x32 (drew w5) fun x33 =>
 lA 42 done7 (drew w5) fun x34 =>
 cF 70 [x33, x34, of3, stays4] (drew w5) fun x37 w6 =>
 Pop Tryz.prog (Op.unary .not x37) fun x38 =>
 cV x38 (
 iA 58 l0 i14 fun x42 =>
 lA 47 x42 w6 fun x43 =>
 bS 58 1 [(0, x43)] w6 fun x44 w7 =>
 aP 58 a12 x44 w7 fun x45 w8 =>
 iA 69 v1 i14 fun x49 =>
 lA 42 x49 w8 fun x50 =>
 bS 69 1 [(0, x50)] w8 fun x51 w9 =>
 aP 69 b13 x51 w9 fun x52 w10 =>
 K3 x45 x52 w10) (
 K3 a12 b13 w6))
 (fun a12_1 b13_1 w11 => ∀ _ : Env,
 bB .add 3 i14 (i 1) fun x29 =>
 K1 a12_1 b13_1 x29 w11)) (
 K (.tuple #[a12, b13]) w5)))
 (fun K1 => K1 x15 x16 (i 0) w3)
def P21 : Plans := fun i => match i with
 | 5 => .run 0 9
 | _ => .nil
theorem S21_ok (l0 v1 done2 of3 stays4 : Value) (h : S21 w K l0 v1 done2 of3 stays4) : Calls Tryz.prog 21 [l0, v1, done2, of3, stays4].toArray w (Ret K) :=
 okE 55 P21 3072 [.tmp 10, .tmp 11] Tryz.func21 (by kernel_rfl) (by kernel_rfl) (by kernel_rfl) mixed (by simp) (by kernel_rfl) h

def S69 (a0 b1 of2 stays3 : Value) : Prop :=
 Eop Tryz.prog (Instr.box 42 a0) w fun a4 w1 =>
 Eop Tryz.prog (Instr.box 42 b1) w1 fun b5 w2 =>
 Join1 (fun K1 =>
 fA 42 a4 1 fun x10 =>
 lA 3 x10 w2 fun x11 =>
 fA 42 b5 1 fun x12 =>
 lA 3 x12 w2 fun x13 =>
 bA .eql 3 x11 x13 fun x14 =>
 cV x14 (
 K1 tt w2) (
 lA 42 a4 w2 fun x16 =>
 cF 128 [x16] w2 fun x17 w3 =>
 cV x17 (
 K1 tt w3) (
 lA 42 b5 w3 fun x20 =>
 cF 128 [x20] w3 fun x21 w4 =>
 K1 x21 w4)))
 (fun x22 w5 => ∀ _ : Env,
 cV x22 (
 K tt w5) (
 lA 42 b5 w5 fun x23 =>
 cF 129 [x23, of2, stays3] w5 fun x26 w6 =>
 aL 225 w6 fun theirs9 w7 =>
 sA 225 theirs9 x26 w7 fun w8 =>
 lA 42 a4 w8 fun x27 =>
 cF 129 [x27, of2, stays3] w8 fun x30 w9 =>
 cF 130 [x30, (.func (Go.Fn.func 131) [].toArray [theirs9].toArray)] w9 fun x32 w10 =>
 K x32 w10))
theorem S69_ok (a0 b1 of2 stays3 : Value) (h : S69 w K a0 b1 of2 stays3) : Calls Tryz.prog 69 [a0, b1, of2, stays3].toArray w (Ret K) :=
 okE 33 (fun _ => .nil) 256 [.tmp 8] Tryz.func69 (by kernel_rfl) (by kernel_rfl) (by kernel_rfl) mixed (by simp) (by kernel_rfl) h

def S70 (a0 b1 of2 stays3 : Value) : Prop :=
 Eop Tryz.prog (Instr.box 42 a0) w fun a4 w1 =>
 Eop Tryz.prog (Instr.box 42 b1) w1 fun b5 w2 =>
 Join1 (fun K1 =>
 fA 42 a4 1 fun x13 =>
 lA 3 x13 w2 fun x14 =>
 fA 42 b5 1 fun x15 =>
 lA 3 x15 w2 fun x16 =>
 bA .eql 3 x14 x16 fun x17 =>
 cV x17 (
 K1 tt w2) (
 fA 42 a4 0 fun x19 =>
 lA 3 x19 w2 fun x20 =>
 bB .geq 3 x20 (i 15) fun x21 =>
 cV x21 (
 fA 42 a4 0 fun x23 =>
 lA 3 x23 w2 fun x24 =>
 bB .leq 3 x24 (i 16) fun x25 =>
 cV x25 (
 K1 tt w2) (
 fA 42 b5 0 fun x29 =>
 lA 3 x29 w2 fun x30 =>
 bB .geq 3 x30 (i 15) fun x31 =>
 cV x31 (
 fA 42 b5 0 fun x33 =>
 lA 3 x33 w2 fun x34 =>
 bB .leq 3 x34 (i 16) fun x35 =>
 K1 x35 w2) (
 K1 ff w2))) (
 fA 42 b5 0 fun x29_1 =>
 lA 3 x29_1 w2 fun x30_1 =>
 bB .geq 3 x30_1 (i 15) fun x31_1 =>
 cV x31_1 (
 fA 42 b5 0 fun x33_1 =>
 lA 3 x33_1 w2 fun x34_1 =>
 bB .leq 3 x34_1 (i 16) fun x35_1 =>
 K1 x35_1 w2) (
 K1 ff w2))))
 (fun x37 w3 => ∀ _ : Env,
 cV x37 (
 K tt w3) (
 lA 42 a4 (drew w3) fun x38 =>
 lA 42 b5 (drew w3) fun x42 =>
 cF 134 [x38, of2, stays3] (drew w3) fun x41 w4 =>
 kA 42 b5 x42 w4 (
 cF 134 [x42, of2, stays3] w4 fun x45 w5 =>
 Loop1 (fun K2 i11 w6 => ∀ _ : Env,
 lN 225 x41 fun x48 =>
 bA .lss 3 i11 x48 fun x49 =>
 cV x49 (
 Loop1 (fun K3 k12 w7 => ∀ _ : Env,
 lN 225 x45 fun x54 =>
 bA .lss 3 k12 x54 fun x55 =>
 cV x55 (
 iA 225 x41 i11 fun x60 =>
 lA 229 x60 (drew w7) fun x61 =>
 iA 225 x45 k12 fun x64 =>
 lA 229 x64 (drew w7) fun x65 =>
 cF 135 [x61, x65] (drew w7) fun x66 w8 =>
 cV x66 (
 K tt w8) (
 bB .add 3 k12 (i 1) fun x57 =>
 K3 x57 w8)) (
 bB .add 3 i11 (i 1) fun x51 =>
 K2 x51 w7))
 (fun K3 => K3 (i 0) w6)) (
 K ff w6))
 (fun K2 => K2 (i 0) w5))))
def P70 : Plans := fun i => match i with
 | 3 => (.of [(0, []), (1, []), (2, []), (4, []), (5, []), (6, []), (3, [4]), (7, []), (8, []), (9, [])])
 | 10 => .run 0 9
 | _ => .nil
theorem S70_ok (a0 b1 of2 stays3 : Value) (h : S70 w K a0 b1 of2 stays3) : Calls Tryz.prog 70 [a0, b1, of2, stays3].toArray w (Ret K) :=
 okE 67 P70 256 [.tmp 8] Tryz.func70 (by kernel_rfl) (by kernel_rfl) (by kernel_rfl) mixed (by simp) (by kernel_rfl) h

def S128 (v0 : Value) : Prop :=
 Eop Tryz.prog (Instr.box 42 v0) w fun v1 w1 =>
 Join1 (fun K1 =>
 fA 42 v1 0 fun x3 =>
 lA 3 x3 w1 fun x4 =>
 bB .eql 3 x4 (i 15) fun x5 =>
 cV x5 (
 K1 tt w1) (
 fA 42 v1 0 fun x7 =>
 lA 3 x7 w1 fun x8 =>
 bB .eql 3 x8 (i 16) fun x9 =>
 K1 x9 w1))
 (fun x2 w2 => ∀ _ : Env,
 K x2 w2)
theorem S128_ok (v0 : Value) (h : S128 w K v0) : Calls Tryz.prog 128 [v0].toArray w (Ret K) :=
 okE 11 (fun _ => .nil) 4 [.tmp 2] Tryz.func128 (by kernel_rfl) (by kernel_rfl) (by kernel_rfl) mixed (by simp) (by kernel_rfl) h

def S129 (v0 of1 stays2 : Value) : Prop :=
 Eop Tryz.prog (Instr.box 42 v0) w fun v3 w1 =>
 Join1 (fun K1 =>
 fA 42 v3 0 fun x8 =>
 lA 3 x8 w1 fun x9 =>
 Join1 (fun K2 =>
 Join1 (fun K3 =>
 bB .eql 3 x9 (i 1) fun x11 =>
 cV x11 (
 K3 x11 w1) (
 bB .eql 3 x9 (i 9) fun x12 =>
 K3 x12 w1))
 (fun x10 w2 => ∀ _ : Env,
 cV x10 (
 fA 42 v3 2 fun x25 =>
 lA 3 x25 w2 fun x26 =>
 Pop Tryz.prog (Instr.build 229 [(0, (i 1)), (1, x26)].toArray) fun x27 =>
 bS 225 1 [(0, x27)] w2 fun x28 w3 =>
 aP 225 (.slice none 0 0) x28 w3 fun x29 w4 =>
 K1 x29 w4) (
 Join1 (fun K4 =>
 bB .eql 3 x9 (i 8) fun x14 =>
 cV x14 (
 K4 x14 w2) (
 bB .eql 3 x9 (i 12) fun x15 =>
 K4 x15 w2))
 (fun x13 w5 => ∀ _ : Env,
 cV x13 (
 fA 42 v3 2 fun x31 =>
 lA 3 x31 w5 fun x32 =>
 Pop Tryz.prog (Instr.build 229 [(0, (i 1)), (1, x32), (2, tt)].toArray) fun x33 =>
 bS 225 1 [(0, x33)] w5 fun x34 w6 =>
 aP 225 (.slice none 0 0) x34 w6 fun x35 w7 =>
 Join1 (fun K5 =>
 fA 42 v3 2 fun x36 =>
 lA 3 x36 w7 fun x37 =>
 bB .lss 3 x37 (i 0) fun x38 =>
 cV x38 (
 K5 tt w7) (
 fA 42 v3 2 fun x40 =>
 lA 3 x40 w7 fun x41 =>
 bA .geq 3 x41 stays2 fun x43 =>
 cV x43 (
 K5 tt w7) (
 fA 42 v3 2 fun x46 =>
 lA 3 x46 w7 fun x47 =>
 lN 45 of1 fun x49 =>
 bA .geq 3 x47 x49 fun x50 =>
 K5 x50 w7)))
 (fun x51 w8 => ∀ _ : Env,
 cV x51 (
 K1 x35 w8) (
 fA 42 v3 2 fun x53 =>
 lA 3 x53 w8 fun x54 =>
 iA 45 of1 x54 fun x55 =>
 lA 3 x55 w8 fun x56 =>
 fA 42 v3 2 fun x57 =>
 sA 3 x57 x56 w8 fun w9 =>
 K2 x35 w9))) (
 bB .eql 3 x9 (i 13) fun x17 =>
 cV x17 (
 K2 (.slice none 0 0) w5) (
 Join1 (fun K6 =>
 bB .eql 3 x9 (i 10) fun x19 =>
 cV x19 (
 K6 x19 w5) (
 bB .eql 3 x9 (i 11) fun x20 =>
 K6 x20 w5))
 (fun x18 w10 => ∀ _ : Env,
 cV x18 (
 fA 42 v3 2 fun x65 =>
 lA 3 x65 w10 fun x66 =>
 Pop Tryz.prog (Instr.build 229 [(0, (i 3)), (1, x66), (2, tt)].toArray) fun x67 =>
 bS 225 1 [(0, x67)] w10 fun x68 w11 =>
 aP 225 (.slice none 0 0) x68 w11 fun x69 w12 =>
 K1 x69 w12) (
 Join1 (fun K7 =>
 bB .eql 3 x9 (i 15) fun x22 =>
 cV x22 (
 K7 x22 w10) (
 bB .eql 3 x9 (i 16) fun x23 =>
 K7 x23 w10))
 (fun x21 w13 => ∀ _ : Env,
 cV x21 (
 Pop Tryz.prog (Instr.build 229 [(0, (i 4)), (2, tt)].toArray) fun x71 =>
 bS 225 1 [(0, x71)] w13 fun x72 w14 =>
 aP 225 (.slice none 0 0) x72 w14 fun x73 w15 =>
 K1 x73 w15) (
 K1 (.slice none 0 0) w13))))))))))
 (fun out7 w16 => ∀ _ : Env,
 fA 42 v3 2 fun x59 =>
 lA 3 x59 w16 fun x60 =>
 Pop Tryz.prog (Instr.build 229 [(0, (i 2)), (1, x60), (2, tt)].toArray) fun x61 =>
 bS 225 1 [(0, x61)] w16 fun x62 w17 =>
 aP 225 out7 x62 w17 fun x63 w18 =>
 K1 x63 w18))
 (fun out7_1 w19 => ∀ _ : Env,
 K out7_1 w19)
theorem S129_ok (v0 of1 stays2 : Value) (h : S129 w K v0 of1 stays2) : Calls Tryz.prog 129 [v0, of1, stays2].toArray w (Ret K) :=
 okE 75 (fun _ => .nil) 64 [.tmp 6] Tryz.func129 (by kernel_rfl) (by kernel_rfl) (by kernel_rfl) mixed (by simp) (by kernel_rfl) h

def S131 (x0 x1 : Value) : Prop :=
 Eop Tryz.prog (Instr.box 229 x0) w fun x2 w1 =>
 lA 225 x1 w1 fun x4 =>
 cF 130 [x4, (.func (Go.Fn.func 132) [].toArray [x2].toArray)] w1 fun x6 w2 =>
 K x6 w2
theorem S131_ok (x0 x1 : Value) (h : S131 w K x0 x1) : Calls Tryz.prog 131 [x0, x1].toArray w (Ret K) :=
 okE 7 (fun _ => .nil) 8 [.tmp 3] Tryz.func131 (by kernel_rfl) (by kernel_rfl) (by kernel_rfl) mixed (by simp) (by kernel_rfl) h

def S132 (y0 x1 : Value) : Prop :=
 Eop Tryz.prog (Instr.box 229 y0) w fun y2 w1 =>
 lA 229 x1 w1 fun x4 =>
 lA 229 y2 w1 fun x5 =>
 cF 133 [x4, x5] w1 fun x6 w2 =>
 K x6 w2
theorem S132_ok (y0 x1 : Value) (h : S132 w K y0 x1) : Calls Tryz.prog 132 [y0, x1].toArray w (Ret K) :=
 okE 7 (fun _ => .nil) 8 [.tmp 3] Tryz.func132 (by kernel_rfl) (by kernel_rfl) (by kernel_rfl) mixed (by simp) (by kernel_rfl) h

def S133 (x0 y1 : Value) : Prop :=
 Eop Tryz.prog (Instr.box 229 x0) w fun x2 w1 =>
 Eop Tryz.prog (Instr.box 229 y1) w1 fun y3 w2 =>
 Join1 (fun K1 =>
 fA 229 x2 0 fun x5 =>
 lA 3 x5 w2 fun x6 =>
 bB .eql 3 x6 (i 4) fun x7 =>
 cV x7 (
 K1 tt w2) (
 fA 229 y3 0 fun x9 =>
 lA 3 x9 w2 fun x10 =>
 bB .eql 3 x10 (i 4) fun x11 =>
 K1 x11 w2))
 (fun x12 w3 => ∀ _ : Env,
 cV x12 (
 K tt w3) (
 Join1 (fun K2 =>
 fA 229 x2 0 fun x13 =>
 lA 3 x13 w3 fun x14 =>
 fA 229 y3 0 fun x15 =>
 lA 3 x15 w3 fun x16 =>
 bA .eql 3 x14 x16 fun x17 =>
 cV x17 (
 fA 229 x2 1 fun x19 =>
 lA 3 x19 w3 fun x20 =>
 fA 229 y3 1 fun x21 =>
 lA 3 x21 w3 fun x22 =>
 bA .eql 3 x20 x22 fun x23 =>
 cV x23 (
 fA 229 x2 2 fun x26 =>
 lA 4 x26 w3 fun x27 =>
 cV x27 (
 K2 tt w3) (
 fA 229 y3 2 fun x29 =>
 lA 4 x29 w3 fun x30 =>
 K2 x30 w3)) (
 K2 ff w3)) (
 K2 ff w3))
 (fun x4 w4 => ∀ _ : Env,
 K x4 w4)))
theorem S133_ok (x0 y1 : Value) (h : S133 w K x0 y1) : Calls Tryz.prog 133 [x0, y1].toArray w (Ret K) :=
 okE 33 (fun _ => .nil) 16 [.tmp 4] Tryz.func133 (by kernel_rfl) (by kernel_rfl) (by kernel_rfl) mixed (by simp) (by kernel_rfl) h

def S134 (v0 of1 stays2 : Value) : Prop :=
 Eop Tryz.prog (Instr.box 42 v0) w fun v3 w1 =>
 fA 42 v3 0 fun x8 =>
 lA 3 x8 w1 fun x9 =>
 Join1 (fun K1 =>
 bB .eql 3 x9 (i 1) fun x11 =>
 cV x11 (
 K1 x11 w1) (
 bB .eql 3 x9 (i 9) fun x12 =>
 K1 x12 w1))
 (fun x10 w2 => ∀ _ : Env,
 cV x10 (
 fA 42 v3 2 fun x13 =>
 lA 3 x13 w2 fun x14 =>
 Pop Tryz.prog (Instr.build 229 [(0, (i 1)), (1, x14)].toArray) fun x15 =>
 bS 225 1 [(0, x15)] w2 fun x16 w3 =>
 K x16 w3) (
 Join1 (fun K2 =>
 bB .eql 3 x9 (i 8) fun x18 =>
 cV x18 (
 K2 x18 w2) (
 bB .eql 3 x9 (i 12) fun x19 =>
 K2 x19 w2))
 (fun x17 w4 => ∀ _ : Env,
 cV x17 (
 fA 42 v3 2 fun x20 =>
 lA 3 x20 w4 fun x21 =>
 Pop Tryz.prog (Instr.build 229 [(0, (i 1)), (1, x21), (2, tt)].toArray) fun x22 =>
 bS 225 1 [(0, x22)] w4 fun x23 w5 =>
 Join1 (fun K3 =>
 Join1 (fun K4 =>
 fA 42 v3 2 fun x24 =>
 lA 3 x24 w5 fun x25 =>
 bB .geq 3 x25 (i 0) fun x26 =>
 cV x26 (
 fA 42 v3 2 fun x28 =>
 lA 3 x28 w5 fun x29 =>
 bA .lss 3 x29 stays2 fun x31 =>
 cV x31 (
 fA 42 v3 2 fun x34 =>
 lA 3 x34 w5 fun x35 =>
 lN 45 of1 fun x37 =>
 bA .lss 3 x35 x37 fun x38 =>
 K4 x38 w5) (
 K4 ff w5)) (
 K4 ff w5))
 (fun x39 w6 => ∀ _ : Env,
 cV x39 (
 fA 42 v3 2 fun x42 =>
 lA 3 x42 w6 fun x43 =>
 iA 45 of1 x43 fun x44 =>
 lA 3 x44 w6 fun x45 =>
 Pop Tryz.prog (Instr.build 229 [(0, (i 2)), (1, x45), (2, tt)].toArray) fun x46 =>
 bS 225 1 [(0, x46)] w6 fun x47 w7 =>
 aP 225 x23 x47 w7 fun x48 w8 =>
 K3 x48 w8) (
 K3 x23 w6)))
 (fun out7 w9 => ∀ _ : Env,
 K out7 w9)) (
 bB .eql 3 x9 (i 13) fun x51 =>
 cV x51 (
 fA 42 v3 2 fun x52 =>
 lA 3 x52 w4 fun x53 =>
 Pop Tryz.prog (Instr.build 229 [(0, (i 2)), (1, x53), (2, tt)].toArray) fun x54 =>
 bS 225 1 [(0, x54)] w4 fun x55 w10 =>
 K x55 w10) (
 Join1 (fun K5 =>
 bB .eql 3 x9 (i 10) fun x57 =>
 cV x57 (
 K5 x57 w4) (
 bB .eql 3 x9 (i 11) fun x58 =>
 K5 x58 w4))
 (fun x56 w11 => ∀ _ : Env,
 cV x56 (
 fA 42 v3 2 fun x59 =>
 lA 3 x59 w11 fun x60 =>
 Pop Tryz.prog (Instr.build 229 [(0, (i 3)), (1, x60), (2, tt)].toArray) fun x61 =>
 bS 225 1 [(0, x61)] w11 fun x62 w12 =>
 K x62 w12) (
 Join1 (fun K6 =>
 bB .eql 3 x9 (i 15) fun x64 =>
 cV x64 (
 K6 x64 w11) (
 bB .eql 3 x9 (i 16) fun x65 =>
 K6 x65 w11))
 (fun x63 w13 => ∀ _ : Env,
 cV x63 (
 Pop Tryz.prog (Instr.build 229 [(0, (i 4)), (2, tt)].toArray) fun x66 =>
 bS 225 1 [(0, x66)] w13 fun x67 w14 =>
 K x67 w14) (
 K (.slice none 0 0) w13)))))))))
theorem S134_ok (v0 of1 stays2 : Value) (h : S134 w K v0 of1 stays2) : Calls Tryz.prog 134 [v0, of1, stays2].toArray w (Ret K) :=
 okE 68 (fun _ => .nil) 64 [.tmp 6] Tryz.func134 (by kernel_rfl) (by kernel_rfl) (by kernel_rfl) mixed (by simp) (by kernel_rfl) h

def S135 (x0 y1 : Value) : Prop :=
 Eop Tryz.prog (Instr.box 229 x0) w fun x2 w1 =>
 Eop Tryz.prog (Instr.box 229 y1) w1 fun y3 w2 =>
 Join1 (fun K1 =>
 fA 229 x2 0 fun x5 =>
 lA 3 x5 w2 fun x6 =>
 bB .eql 3 x6 (i 4) fun x7 =>
 cV x7 (
 K1 tt w2) (
 fA 229 y3 0 fun x9 =>
 lA 3 x9 w2 fun x10 =>
 bB .eql 3 x10 (i 4) fun x11 =>
 cV x11 (
 K1 tt w2) (
 fA 229 x2 0 fun x14 =>
 lA 3 x14 w2 fun x15 =>
 fA 229 y3 0 fun x16 =>
 lA 3 x16 w2 fun x17 =>
 bA .eql 3 x15 x17 fun x18 =>
 cV x18 (
 fA 229 x2 1 fun x20 =>
 lA 3 x20 w2 fun x21 =>
 fA 229 y3 1 fun x22 =>
 lA 3 x22 w2 fun x23 =>
 bA .eql 3 x21 x23 fun x24 =>
 cV x24 (
 fA 229 x2 2 fun x27 =>
 lA 4 x27 w2 fun x28 =>
 cV x28 (
 K1 tt w2) (
 fA 229 y3 2 fun x30 =>
 lA 4 x30 w2 fun x31 =>
 K1 x31 w2)) (
 K1 ff w2)) (
 K1 ff w2))))
 (fun x4 w3 => ∀ _ : Env,
 K x4 w3)
theorem S135_ok (x0 y1 : Value) (h : S135 w K x0 y1) : Calls Tryz.prog 135 [x0, y1].toArray w (Ret K) :=
 okE 35 (fun _ => .nil) 16 [.tmp 4] Tryz.func135 (by kernel_rfl) (by kernel_rfl) (by kernel_rfl) mixed (by simp) (by kernel_rfl) h

def S130 (s0 f1 : Value) : Prop :=
 cF 198 [s0, f1] w fun x7 w1 =>
 bB .geq 3 x7 (i 0) fun x8 =>
 K x8 w1
theorem S130_ok (s0 f1 : Value) (h : S130 w K s0 f1) : Calls Tryz.prog 130 [s0, f1].toArray w (Ret K) :=
 okE 9 (fun _ => .nil) 16 [.tmp 4] Tryz.func130 (by kernel_rfl) (by kernel_rfl) (by kernel_rfl) mixed (by simp) (by kernel_rfl) h

def S198 (s0 f1 : Value) : Prop :=
 lN 225 s0 fun x7 =>
 Loop1 (fun K1 x8 w1 => ∀ _ : Env,
 bA .lss 3 x8 x7 fun x9 =>
 cV x9 (
 iA 225 s0 x8 fun x14 =>
 lA 229 x14 w1 fun x15 =>
 CallV Tryz.prog f1 [x15] w1 fun x16 w2 =>
 cV x16 (
 K x8 w2) (
 bB .add 3 x8 (i 1) fun x18 =>
 K1 x18 w2)) (
 K (i (-1)) w1))
 (fun K1 => K1 (i 0) w)
theorem S198_ok (s0 f1 : Value) (h : S198 w K s0 f1) : Calls Tryz.prog 198 [s0, f1].toArray w (Ret K) :=
 okE 19 (fun _ => .nil) 16 [.tmp 4] Tryz.func198 (by kernel_rfl) (by kernel_rfl) (by kernel_rfl) mixed (by simp) (by kernel_rfl) h

def S22 (a0 b1 : Value) : Prop :=
 lN 58 a0 fun x7 =>
 lN 58 b1 fun x9 =>
 bA .neq 3 x7 x9 fun x10 =>
 cV x10 (
 K ff w) (
 Loop1 (fun K1 i5 w1 => ∀ _ : Env,
 lN 58 a0 fun x13 =>
 bA .lss 3 i5 x13 fun x14 =>
 cV x14 (
 Join1 (fun K2 =>
 iA 58 a0 i5 fun x19 =>
 fA 47 x19 0 fun x20 =>
 lA 3 x20 (drew w1) fun x21 =>
 iA 58 b1 i5 fun x24 =>
 fA 47 x24 0 fun x25 =>
 lA 3 x25 (drew w1) fun x26 =>
 bA .neq 3 x21 x26 fun x27 =>
 cV x27 (
 K2 tt (drew w1)) (
 iA 58 a0 i5 fun x31 =>
 fA 47 x31 1 fun x32 =>
 lA 3 x32 (drew w1) fun x33 =>
 iA 58 b1 i5 fun x36 =>
 fA 47 x36 1 fun x37 =>
 lA 3 x37 (drew w1) fun x38 =>
 bA .neq 3 x33 x38 fun x39 =>
 cV x39 (
 K2 tt (drew w1)) (
 iA 58 a0 i5 fun x44 =>
 fA 47 x44 2 fun x45 =>
 lA 3 x45 (drew w1) fun x46 =>
 iA 58 b1 i5 fun x49 =>
 fA 47 x49 2 fun x50 =>
 lA 3 x50 (drew w1) fun x51 =>
 bA .neq 3 x46 x51 fun x52 =>
 cV x52 (
 K2 tt (drew w1)) (
 iA 58 a0 i5 fun x57 =>
 fA 47 x57 3 fun x58 =>
 lA 45 x58 (drew w1) fun x59 =>
 iA 58 b1 i5 fun x62 =>
 fA 47 x62 3 fun x63 =>
 lA 45 x63 (drew w1) fun x64 =>
 cF 49 [x59, x64] (drew w1) fun x65 w2 =>
 Pop Tryz.prog (Op.unary .not x65) fun x66 =>
 K2 x66 w2))))
 (fun x67 w3 => ∀ _ : Env,
 cV x67 (
 K ff w3) (
 bB .add 3 i5 (i 1) fun x16 =>
 K1 x16 w3))) (
 K tt w1))
 (fun K1 => K1 (i 0) w))
def P22 : Plans := fun i => match i with
 | 6 => .run 0 51
 | _ => .nil
theorem S22_ok (a0 b1 : Value) (h : S22 w K a0 b1) : Calls Tryz.prog 22 [a0, b1].toArray w (Ret K) :=
 okE 68 P22 16 [.tmp 4] Tryz.func22 (by kernel_rfl) (by kernel_rfl) (by kernel_rfl) mixed (by simp) (by kernel_rfl) h

def S23 (a0 b1 : Value) : Prop :=
 lN 69 a0 fun x7 =>
 lN 69 b1 fun x9 =>
 bA .neq 3 x7 x9 fun x10 =>
 cV x10 (
 K ff w) (
 Loop1 (fun K1 i5 w1 => ∀ _ : Env,
 lN 69 a0 fun x13 =>
 bA .lss 3 i5 x13 fun x14 =>
 cV x14 (
 iA 69 a0 i5 fun x19 =>
 lA 42 x19 (drew w1) fun x20 =>
 iA 69 b1 i5 fun x23 =>
 lA 42 x23 (drew w1) fun x24 =>
 bA .neq 42 x20 x24 fun x25 =>
 cV x25 (
 K ff (drew w1)) (
 bB .add 3 i5 (i 1) fun x16 =>
 K1 x16 (drew w1))) (
 K tt w1))
 (fun K1 => K1 (i 0) w))
def P23 : Plans := fun i => match i with
 | 6 => .run 0 9
 | _ => .nil
theorem S23_ok (a0 b1 : Value) (h : S23 w K a0 b1) : Calls Tryz.prog 23 [a0, b1].toArray w (Ret K) :=
 okE 26 P23 16 [.tmp 4] Tryz.func23 (by kernel_rfl) (by kernel_rfl) (by kernel_rfl) mixed (by simp) (by kernel_rfl) h

def S49 (a0 b1 : Value) : Prop :=
 lN 45 a0 fun x7 =>
 lN 45 b1 fun x9 =>
 bA .neq 3 x7 x9 fun x10 =>
 cV x10 (
 K ff w) (
 Loop1 (fun K1 i5 w1 => ∀ _ : Env,
 lN 45 a0 fun x13 =>
 bA .lss 3 i5 x13 fun x14 =>
 cV x14 (
 iA 45 a0 i5 fun x19 =>
 lA 3 x19 (drew w1) fun x20 =>
 iA 45 b1 i5 fun x23 =>
 lA 3 x23 (drew w1) fun x24 =>
 bA .neq 3 x20 x24 fun x25 =>
 cV x25 (
 K ff (drew w1)) (
 bB .add 3 i5 (i 1) fun x16 =>
 K1 x16 (drew w1))) (
 K tt w1))
 (fun K1 => K1 (i 0) w))
def P49 : Plans := fun i => match i with
 | 6 => .run 0 9
 | _ => .nil
theorem S49_ok (a0 b1 : Value) (h : S49 w K a0 b1) : Calls Tryz.prog 49 [a0, b1].toArray w (Ret K) :=
 okE 26 P49 16 [.tmp 4] Tryz.func49 (by kernel_rfl) (by kernel_rfl) (by kernel_rfl) mixed (by simp) (by kernel_rfl) h

def S56 (s0 : Value) : Prop :=
 bB .eql 45 s0 (.slice none 0 0) fun x4 =>
 cV x4 (
 K (.slice none 0 0) w) (
 bS 45 0 [] w fun x5 w1 =>
 aP 45 x5 s0 w1 fun x7 w2 =>
 K x7 w2)
theorem S56_ok (s0 : Value) (h : S56 w K s0) : Calls Tryz.prog 56 [s0].toArray w (Ret K) :=
 okE 8 (fun _ => .nil) 4 [.tmp 2] Tryz.func56 (by kernel_rfl) (by kernel_rfl) (by kernel_rfl) mixed (by simp) (by kernel_rfl) h

theorem pl5 : Plain Tryz.prog 5 := ⟨_, Tryz.func5, by kernel_rfl, by kernel_rfl⟩
theorem pl20 : Plain Tryz.prog 20 := ⟨_, Tryz.func20, by kernel_rfl, by kernel_rfl⟩
theorem pl21 : Plain Tryz.prog 21 := ⟨_, Tryz.func21, by kernel_rfl, by kernel_rfl⟩
theorem pl69 : Plain Tryz.prog 69 := ⟨_, Tryz.func69, by kernel_rfl, by kernel_rfl⟩
theorem pl70 : Plain Tryz.prog 70 := ⟨_, Tryz.func70, by kernel_rfl, by kernel_rfl⟩
theorem pl128 : Plain Tryz.prog 128 := ⟨_, Tryz.func128, by kernel_rfl, by kernel_rfl⟩
theorem pl129 : Plain Tryz.prog 129 := ⟨_, Tryz.func129, by kernel_rfl, by kernel_rfl⟩
theorem pl131 : Plain Tryz.prog 131 := ⟨_, Tryz.func131, by kernel_rfl, by kernel_rfl⟩
theorem pl132 : Plain Tryz.prog 132 := ⟨_, Tryz.func132, by kernel_rfl, by kernel_rfl⟩
theorem pl133 : Plain Tryz.prog 133 := ⟨_, Tryz.func133, by kernel_rfl, by kernel_rfl⟩
theorem pl134 : Plain Tryz.prog 134 := ⟨_, Tryz.func134, by kernel_rfl, by kernel_rfl⟩
theorem pl135 : Plain Tryz.prog 135 := ⟨_, Tryz.func135, by kernel_rfl, by kernel_rfl⟩
theorem pl130 : Plain Tryz.prog 130 := ⟨_, Tryz.func130, by kernel_rfl, by kernel_rfl⟩
theorem pl198 : Plain Tryz.prog 198 := ⟨_, Tryz.func198, by kernel_rfl, by kernel_rfl⟩
theorem pl22 : Plain Tryz.prog 22 := ⟨_, Tryz.func22, by kernel_rfl, by kernel_rfl⟩
theorem pl23 : Plain Tryz.prog 23 := ⟨_, Tryz.func23, by kernel_rfl, by kernel_rfl⟩
theorem pl49 : Plain Tryz.prog 49 := ⟨_, Tryz.func49, by kernel_rfl, by kernel_rfl⟩
theorem pl56 : Plain Tryz.prog 56 := ⟨_, Tryz.func56, by kernel_rfl, by kernel_rfl⟩
end Go.Proofs.YtddeoncipdpkfaaGreatDoor
