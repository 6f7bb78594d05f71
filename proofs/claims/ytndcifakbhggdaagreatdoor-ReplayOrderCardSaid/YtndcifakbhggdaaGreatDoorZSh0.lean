/-
  The shallow forms of functions of this seat, printed by a program of ours out of the seat's own program; each is checked by the kernel against the framework's D. Nothing here is trusted.
-/
import Derived.Test.YtndcifakbhggdaaGreatDoorProg
import Derived.Test.YtndcifakbhggdaaGreatDoorZFw4
import Derived.KernelRfl
namespace Go.Proofs.YtndcifakbhggdaaGreatDoor
open Go.Fw
set_option maxRecDepth 100000
variable (w : World) (K : Value → World → Prop)
abbrev i (n : Int) : Value := .int .i64 n
abbrev tt : Value := .bool true
abbrev ff : Value := .bool false
abbrev fA (T : Nat) (v : Value) (f : Nat) (K : Value → Prop) : Prop := Pop Tryz.prog (Instr.fieldAt T v f) K
abbrev iA (T : Nat) (v j : Value) (K : Value → Prop) : Prop := Pop Tryz.prog (Instr.indexAt T v j) K
abbrev lA (T : Nat) (p : Value) (w : World) (K : Value → Prop) : Prop := Qop Tryz.prog (Instr.loadAt T p) w K
abbrev sA (T : Nat) (p v : Value) (w : World) (K : World → Prop) : Prop := Uop Tryz.prog (Instr.storeAt T p v) w K
abbrev bA (o : BinOp) (T : Nat) (x y : Value) (K : Value → Prop) : Prop := Pop Tryz.prog (binS o T false false x y) K
abbrev bB (o : BinOp) (T : Nat) (x y : Value) (K : Value → Prop) : Prop := Pop Tryz.prog (binS o T false true x y) K
abbrev bC (o : BinOp) (T : Nat) (x y : Value) (K : Value → Prop) : Prop := Pop Tryz.prog (binS o T true false x y) K
abbrev cF (f : Nat) (args : List Value) (w : World) (K : Value → World → Prop) : Prop := CallF Tryz.prog f args w K
abbrev nC (v : Value) (K : Value → Prop) : Prop := Pop Tryz.prog (nilS v) K
abbrev lN (T : Nat) (v : Value) (K : Value → Prop) : Prop := Pop Tryz.prog (Builtin.len_ #[T] 3 [v].toArray) K
abbrev aL (T : Nat) (w : World) (K : Value → World → Prop) : Prop := Eop Tryz.prog (Instr.alloc T true (.tuple #[])) w K
abbrev xT (v : Value) (k : Nat) (K : Value → Prop) : Prop := Pop Tryz.prog (Instr.extract v k) K
abbrev kA (T : Nat) (p v : Value) (w : World) (R : Prop) : Prop := KeepAnd Tryz.prog (Instr.loadAt T p) v w R
abbrev aP (T : Nat) (a b : Value) (w : World) (K : Value → World → Prop) : Prop := Eop Tryz.prog (Builtin.append_ #[T, T] T [a, b].toArray) w K
abbrev bS (T n : Nat) (l : List (Nat × Value)) (w : World) (K : Value → World → Prop) : Prop := Eop Tryz.prog (Instr.buildSlice T n l.toArray) w K
abbrev cV (v : Value) (a b : Prop) : Prop := CondV v a b
theorem mixed : Tryz.prog.follows .mixedOrders = true := by kernel_rfl
def rlOf : List ResultVar → Nat
  | [] => 0
  | .tmp t :: r => setB (rlOf r) t
  | .cell a _ :: r => setB (rlOf r) a
theorem sok {f : FuncId} {fn : Func} (hf : Tryz.prog.funcs[f]? = some fn) {args : List Value} {w : World} {K : Value → World → Prop} {pl : Plans}
    (h : D Tryz.prog fn.ntmps pl (rlOf fn.results.toList) (fn.body.getD .skip) [] (rlOf fn.results.toList) (retQ Tryz.prog fn.results.toList K) [] (env0 args) w)
    (hc : (fn.body.isSome, Nat.ble args.length fn.ntmps) = (true, true) := by kernel_rfl) : Calls Tryz.prog f args.toArray w (Ret K) := by
  have h1 : fn.body.isSome = true := congrArg (fun x => x.1) hc
  have h5 : fn.body = some (fn.body.getD .skip) := by
    cases hb : fn.body with
    | none => rw [hb] at h1; cases h1
    | some c => rfl
  exact calls_of_D mixed hf h5 rfl (by simp) (Nat.le_of_ble_eq_true (congrArg (fun x => x.2) hc)) h
theorem sk0 {f : FuncId} {fn : Func} (hf : Tryz.prog.funcs[f]? = some fn) {args : List Value} {w : World} {K : Value → World → Prop}
    (h : D Tryz.prog fn.ntmps (fun _ => .nil) (rlOf fn.results.toList) (fn.body.getD .skip) [] (rlOf fn.results.toList) (retQ Tryz.prog fn.results.toList K) [] (env0 args) w)
    (hc : (fn.body.isSome, Nat.ble args.length fn.ntmps) = (true, true) := by kernel_rfl) : Calls Tryz.prog f args.toArray w (Ret K) := sok hf h hc

def S250 (x0 : Value) : Prop :=
 bA .neq 3 x0 x0 fun x5 =>
 K x5 w
theorem S250_ok (x0 : Value) (h : S250 w K x0) : Calls Tryz.prog 250 [x0].toArray w (Ret K) :=
 okE 6 (fun _ => .nil) 4 [.tmp 2] Tryz.func250 (by kernel_rfl) (by kernel_rfl) (by kernel_rfl) mixed (by simp) (by kernel_rfl) h

def S194 (x0 y1 : Value) : Prop :=
 cF 250 [x0] w fun x8 w1 =>
 cF 250 [y1] w1 fun x10 w2 =>
 cV x8 (
 cV x10 (
 K (i 0) w2) (
 K (i (-1)) w2)) (
 cV x10 (
 K (i 1) w2) (
 bA .lss 3 x0 y1 fun x16 =>
 cV x16 (
 K (i (-1)) w2) (
 bA .gtr 3 x0 y1 fun x19 =>
 cV x19 (
 K (i 1) w2) (
 K (i 0) w2))))
theorem S194_ok (x0 y1 : Value) (h : S194 w K x0 y1) : Calls Tryz.prog 194 [x0, y1].toArray w (Ret K) :=
 okE 20 (fun _ => .nil) 16 [.tmp 4] Tryz.func194 (by kernel_rfl) (by kernel_rfl) (by kernel_rfl) mixed (by simp) (by kernel_rfl) h

def S123 (l0 : Value) : Prop :=
 lN 255 l0 fun x7 =>
 Loop1 (fun K1 x8 w1 => ∀ _ : Env,
 bA .lss 3 x8 x7 fun x9 =>
 cV x9 (
 iA 255 l0 x8 fun x10 =>
 lA 172 x10 w1 fun x11 =>
 aL 172 w1 fun x4 w2 =>
 sA 172 x4 x11 w2 fun w3 =>
 fA 172 x4 0 fun x12 =>
 lA 3 x12 w3 fun x13 =>
 fA 172 x4 1 fun x14 =>
 lA 3 x14 w3 fun x15 =>
 cF 194 [x13, x15] w3 fun x16 w4 =>
 bB .neq 3 x16 (i 0) fun x18 =>
 cV x18 (
 K x16 w4) (
 bB .add 3 x8 (i 1) fun x20 =>
 K1 x20 w4)) (
 K (i 0) w1))
 (fun K1 => K1 (i 0) w)
theorem S123_ok (l0 : Value) (h : S123 w K l0) : Calls Tryz.prog 123 [l0].toArray w (Ret K) :=
 okE 21 (fun _ => .nil) 4 [.tmp 2] Tryz.func123 (by kernel_rfl) (by kernel_rfl) (by kernel_rfl) mixed (by simp) (by kernel_rfl) h

def S124 (vals0 : Value) : Prop :=
 lN 41 vals0 fun x7 =>
 Loop1 (fun K1 x8 w1 => ∀ _ : Env,
 bA .lss 3 x8 x7 fun x9 =>
 cV x9 (
 iA 41 vals0 x8 fun x10 =>
 lA 3 x10 w1 fun x11 =>
 bA .neq 3 x11 (i 0) fun x14 =>
 cV x14 (
 K x11 w1) (
 bB .add 3 x8 (i 1) fun x16 =>
 K1 x16 w1)) (
 K (i 0) w1))
 (fun K1 => K1 (i 0) w)
theorem S124_ok (vals0 : Value) (h : S124 w K vals0) : Calls Tryz.prog 124 [vals0].toArray w (Ret K) :=
 okE 18 (fun _ => .nil) 4 [.tmp 2] Tryz.func124 (by kernel_rfl) (by kernel_rfl) (by kernel_rfl) mixed (by simp) (by kernel_rfl) h

def S125 (s10 s21 : Value) : Prop :=
 lN 41 s10 fun x10 =>
 Loop1 (fun K1 x11 w1 => ∀ _ : Env,
 bA .lss 3 x11 x10 fun x12 =>
 cV x12 (
 iA 41 s10 x11 fun x14 =>
 lA 3 x14 w1 fun x15 =>
 lN 41 s21 fun x18 =>
 bA .geq 3 x11 x18 fun x19 =>
 cV x19 (
 K (i 1) w1) (
 iA 41 s21 x11 fun x22 =>
 lA 3 x22 w1 fun x23 =>
 cF 194 [x15, x23] w1 fun x26 w2 =>
 bB .neq 3 x26 (i 0) fun x28 =>
 cV x28 (
 K x26 w2) (
 bB .add 3 x11 (i 1) fun x30 =>
 K1 x30 w2))) (
 lN 41 s10 fun x32 =>
 lN 41 s21 fun x34 =>
 bA .lss 3 x32 x34 fun x35 =>
 cV x35 (
 K (i (-1)) w1) (
 K (i 0) w1)))
 (fun K1 => K1 (i 0) w)
theorem S125_ok (s10 s21 : Value) (h : S125 w K s10 s21) : Calls Tryz.prog 125 [s10, s21].toArray w (Ret K) :=
 okE 36 (fun _ => .nil) 16 [.tmp 4] Tryz.func125 (by kernel_rfl) (by kernel_rfl) (by kernel_rfl) mixed (by simp) (by kernel_rfl) h

def S55 (e0 : Value) : Prop :=
 Eop Tryz.prog (Instr.box 78 e0) w fun e1 w1 =>
 Join1 (fun K1 =>
 fA 78 e1 0 fun x3 =>
 lA 3 x3 w1 fun x4 =>
 bB .eql 3 x4 (i 2) fun x5 =>
 cV x5 (
 K1 tt w1) (
 fA 78 e1 0 fun x7 =>
 lA 3 x7 w1 fun x8 =>
 bB .eql 3 x8 (i 3) fun x9 =>
 cV x9 (
 K1 tt w1) (
 fA 78 e1 0 fun x12 =>
 lA 3 x12 w1 fun x13 =>
 bB .eql 3 x13 (i 4) fun x14 =>
 K1 x14 w1)))
 (fun x2 w2 => ∀ _ : Env,
 K x2 w2)
theorem S55_ok (e0 : Value) (h : S55 w K e0) : Calls Tryz.prog 55 [e0].toArray w (Ret K) :=
 okE 16 (fun _ => .nil) 4 [.tmp 2] Tryz.func55 (by kernel_rfl) (by kernel_rfl) (by kernel_rfl) mixed (by simp) (by kernel_rfl) h

def S56 (a0 b1 : Value) : Prop :=
 Eop Tryz.prog (Instr.box 78 a0) w fun a2 w1 =>
 Eop Tryz.prog (Instr.box 78 b1) w1 fun b3 w2 =>
 fA 78 a2 0 fun x6 =>
 lA 3 x6 w2 fun x7 =>
 fA 78 b3 0 fun x8 =>
 lA 3 x8 w2 fun x9 =>
 Pop Tryz.prog (Instr.build 172 [(0, x7), (1, x9)].toArray) fun x10 =>
 fA 78 a2 1 fun x11 =>
 lA 3 x11 w2 fun x12 =>
 fA 78 b3 1 fun x13 =>
 lA 3 x13 w2 fun x14 =>
 Pop Tryz.prog (Instr.build 172 [(0, x12), (1, x14)].toArray) fun x15 =>
 fA 78 a2 2 fun x16 =>
 lA 3 x16 w2 fun x17 =>
 fA 78 b3 2 fun x18 =>
 lA 3 x18 w2 fun x19 =>
 Pop Tryz.prog (Instr.build 172 [(0, x17), (1, x19)].toArray) fun x20 =>
 bS 255 3 [(0, x10), (1, x15), (2, x20)] w2 fun x21 w3 =>
 cF 123 [x21] w3 fun x22 w4 =>
 fA 78 a2 3 fun x24 =>
 lA 41 x24 w4 fun x25 =>
 fA 78 b3 3 fun x26 =>
 lA 41 x26 w4 fun x27 =>
 cF 125 [x25, x27] w4 fun x28 w5 =>
 bS 41 2 [(0, x22), (1, x28)] w5 fun x29 w6 =>
 cF 124 [x29] w6 fun x30 w7 =>
 bB .lss 3 x30 (i 0) fun x31 =>
 K x31 w7
theorem S56_ok (a0 b1 : Value) (h : S56 w K a0 b1) : Calls Tryz.prog 56 [a0, b1].toArray w (Ret K) :=
 okE 32 (fun _ => .nil) 16 [.tmp 4] Tryz.func56 (by kernel_rfl) (by kernel_rfl) (by kernel_rfl) mixed (by simp) (by kernel_rfl) h

def S58 (a0 b1 : Value) : Prop :=
 Eop Tryz.prog (Instr.box 78 a0) w fun a2 w1 =>
 Eop Tryz.prog (Instr.box 78 b1) w1 fun b3 w2 =>
 Join1 (fun K1 =>
 lA 78 a2 w2 fun x5 =>
 lA 78 b3 w2 fun x6 =>
 cF 56 [x5, x6] w2 fun x7 w3 =>
 Pop Tryz.prog (Op.unary .not x7) fun x8 =>
 cV x8 (
 lA 78 b3 w3 fun x10 =>
 lA 78 a2 w3 fun x11 =>
 cF 56 [x10, x11] w3 fun x12 w4 =>
 Pop Tryz.prog (Op.unary .not x12) fun x13 =>
 K1 x13 w4) (
 K1 ff w3))
 (fun x4 w5 => ∀ _ : Env,
 K x4 w5)
theorem S58_ok (a0 b1 : Value) (h : S58 w K a0 b1) : Calls Tryz.prog 58 [a0, b1].toArray w (Ret K) :=
 okE 15 (fun _ => .nil) 16 [.tmp 4] Tryz.func58 (by kernel_rfl) (by kernel_rfl) (by kernel_rfl) mixed (by simp) (by kernel_rfl) h

def S59 (kind0 : Value) : Prop :=
 Join1 (fun K1 =>
 bB .lss 3 kind0 (i 0) fun x4 =>
 cV x4 (
 K1 tt w) (
 bB .geq 3 kind0 (i 5) fun x7 =>
 K1 x7 w))
 (fun x8 w1 => ∀ _ : Env,
 cV x8 (
 K (Go.Value.string (ByteArray.mk (#[]))) w1) (
 Pop Tryz.prog (Instr.build 175 [(0, (Go.Value.string (ByteArray.mk (#[111, 112, 101, 110])))), (1, (Go.Value.string (ByteArray.mk (#[115, 97, 102, 101])))), (2, (Go.Value.string (ByteArray.mk (#[99, 108, 97, 105, 109])))), (3, (Go.Value.string (ByteArray.mk (#[102, 97, 117, 108, 116])))), (4, (Go.Value.string (ByteArray.mk (#[115, 116, 117, 99, 107]))))].toArray) fun x9 =>
 Pop Tryz.prog (Instr.index 175 x9 kind0) fun x11 =>
 K x11 w1))
theorem S59_ok (kind0 : Value) (h : S59 w K kind0) : Calls Tryz.prog 59 [kind0].toArray w (Ret K) :=
 okE 12 (fun _ => .nil) 4 [.tmp 2] Tryz.func59 (by kernel_rfl) (by kernel_rfl) (by kernel_rfl) mixed (by simp) (by kernel_rfl) h

def S49 (e0 : Value) : Prop :=
 Eop Tryz.prog (Instr.box 78 e0) w fun e1 w1 =>
 Join1 (fun K1 =>
 fA 78 e1 0 fun x3 =>
 lA 3 x3 w1 fun x4 =>
 bB .geq 3 x4 (i 2) fun x5 =>
 cV x5 (
 fA 78 e1 0 fun x7 =>
 lA 3 x7 w1 fun x8 =>
 bB .leq 3 x8 (i 4) fun x9 =>
 K1 x9 w1) (
 K1 ff w1))
 (fun x2 w2 => ∀ _ : Env,
 K x2 w2)
theorem S49_ok (e0 : Value) (h : S49 w K e0) : Calls Tryz.prog 49 [e0].toArray w (Ret K) :=
 okE 11 (fun _ => .nil) 4 [.tmp 2] Tryz.func49 (by kernel_rfl) (by kernel_rfl) (by kernel_rfl) mixed (by simp) (by kernel_rfl) h

def S57 (a0 b1 : Value) : Prop :=
 Eop Tryz.prog (Instr.box 78 a0) w fun a2 w1 =>
 Eop Tryz.prog (Instr.box 78 b1) w1 fun b3 w2 =>
 fA 78 a2 0 fun x6 =>
 lA 3 x6 w2 fun x7 =>
 fA 78 b3 0 fun x8 =>
 lA 3 x8 w2 fun x9 =>
 bA .neq 3 x7 x9 fun x10 =>
 cV x10 (
 fA 78 a2 0 fun x11 =>
 lA 3 x11 w2 fun x12 =>
 fA 78 b3 0 fun x13 =>
 lA 3 x13 w2 fun x14 =>
 bA .lss 3 x12 x14 fun x15 =>
 K x15 w2) (
 fA 78 a2 1 fun x16 =>
 lA 3 x16 w2 fun x17 =>
 fA 78 b3 1 fun x18 =>
 lA 3 x18 w2 fun x19 =>
 bA .neq 3 x17 x19 fun x20 =>
 cV x20 (
 fA 78 a2 1 fun x21 =>
 lA 3 x21 w2 fun x22 =>
 fA 78 b3 1 fun x23 =>
 lA 3 x23 w2 fun x24 =>
 bA .lss 3 x22 x24 fun x25 =>
 K x25 w2) (
 fA 78 a2 2 fun x26 =>
 lA 3 x26 w2 fun x27 =>
 fA 78 b3 2 fun x28 =>
 lA 3 x28 w2 fun x29 =>
 bA .neq 3 x27 x29 fun x30 =>
 cV x30 (
 fA 78 a2 2 fun x31 =>
 lA 3 x31 w2 fun x32 =>
 fA 78 b3 2 fun x33 =>
 lA 3 x33 w2 fun x34 =>
 bA .lss 3 x32 x34 fun x35 =>
 K x35 w2) (
 Loop1 (fun K1 i5 w3 => ∀ _ : Env,
 Join1 (fun K2 =>
 fA 78 a2 3 fun x37 =>
 lA 41 x37 w3 fun x38 =>
 lN 41 x38 fun x39 =>
 bA .lss 3 i5 x39 fun x40 =>
 cV x40 (
 fA 78 b3 3 fun x43 =>
 lA 41 x43 w3 fun x44 =>
 lN 41 x44 fun x45 =>
 bA .lss 3 i5 x45 fun x46 =>
 K2 x46 w3) (
 K2 ff w3))
 (fun x47 w4 => ∀ _ : Env,
 cV x47 (
 fA 78 a2 3 fun x50 =>
 lA 41 x50 (drew w4) fun x51 =>
 iA 41 x51 i5 fun x53 =>
 lA 3 x53 (drew w4) fun x54 =>
 fA 78 b3 3 fun x55 =>
 lA 41 x55 (drew w4) fun x56 =>
 iA 41 x56 i5 fun x58 =>
 lA 3 x58 (drew w4) fun x59 =>
 bA .neq 3 x54 x59 fun x60 =>
 cV x60 (
 fA 78 a2 3 fun x61 =>
 lA 41 x61 (drew (drew w4)) fun x62 =>
 iA 41 x62 i5 fun x64 =>
 lA 3 x64 (drew (drew w4)) fun x65 =>
 fA 78 b3 3 fun x66 =>
 lA 41 x66 (drew (drew w4)) fun x67 =>
 iA 41 x67 i5 fun x69 =>
 lA 3 x69 (drew (drew w4)) fun x70 =>
 bA .lss 3 x65 x70 fun x71 =>
 K x71 (drew (drew w4))) (
 bB .add 3 i5 (i 1) fun x49 =>
 K1 x49 (drew w4))) (
 fA 78 a2 3 fun x72 =>
 lA 41 x72 w4 fun x73 =>
 lN 41 x73 fun x74 =>
 fA 78 b3 3 fun x75 =>
 lA 41 x75 w4 fun x76 =>
 lN 41 x76 fun x77 =>
 bA .lss 3 x74 x77 fun x78 =>
 K x78 w4)))
 (fun K1 => K1 (i 0) w2))))
def P57 : Plans := fun i => match i with
 | 10 => .run 0 11
 | 11 => .run 0 12
 | _ => .nil
theorem S57_ok (a0 b1 : Value) (h : S57 w K a0 b1) : Calls Tryz.prog 57 [a0, b1].toArray w (Ret K) :=
 okE 79 P57 16 [.tmp 4] Tryz.func57 (by kernel_rfl) (by kernel_rfl) (by kernel_rfl) mixed (by simp) (by kernel_rfl) h

def S39 (a0 b1 : Value) : Prop :=
 Eop Tryz.prog (Instr.box 78 a0) w fun a2 w1 =>
 Eop Tryz.prog (Instr.box 78 b1) w1 fun b3 w2 =>
 Join1 (fun K1 =>
 fA 78 a2 0 fun x5 =>
 lA 3 x5 w2 fun x6 =>
 fA 78 b3 0 fun x7 =>
 lA 3 x7 w2 fun x8 =>
 bA .eql 3 x6 x8 fun x9 =>
 cV x9 (
 fA 78 a2 1 fun x11 =>
 lA 3 x11 w2 fun x12 =>
 fA 78 b3 1 fun x13 =>
 lA 3 x13 w2 fun x14 =>
 bA .eql 3 x12 x14 fun x15 =>
 cV x15 (
 fA 78 a2 2 fun x18 =>
 lA 3 x18 w2 fun x19 =>
 fA 78 b3 2 fun x20 =>
 lA 3 x20 w2 fun x21 =>
 bA .eql 3 x19 x21 fun x22 =>
 cV x22 (
 fA 78 a2 3 fun x25 =>
 lA 41 x25 w2 fun x26 =>
 fA 78 b3 3 fun x27 =>
 lA 41 x27 w2 fun x28 =>
 cF 34 [x26, x28] w2 fun x29 w3 =>
 K1 x29 w3) (
 K1 ff w2)) (
 K1 ff w2)) (
 K1 ff w2))
 (fun x4 w4 => ∀ _ : Env,
 K x4 w4)
theorem S39_ok (a0 b1 : Value) (h : S39 w K a0 b1) : Calls Tryz.prog 39 [a0, b1].toArray w (Ret K) :=
 okE 31 (fun _ => .nil) 16 [.tmp 4] Tryz.func39 (by kernel_rfl) (by kernel_rfl) (by kernel_rfl) mixed (by simp) (by kernel_rfl) h

def S60 (kind0 : Value) : Prop :=
 Join1 (fun K1 =>
 bB .lss 3 kind0 (i 0) fun x4 =>
 cV x4 (
 K1 tt w) (
 bB .gtr 3 kind0 (i 4) fun x7 =>
 K1 x7 w))
 (fun x8 w1 => ∀ _ : Env,
 cV x8 (
 K (Go.Value.string (ByteArray.mk (#[]))) w1) (
 bS 66 5 [(0, (Go.Value.string (ByteArray.mk (#[111, 112, 101, 110])))), (1, (Go.Value.string (ByteArray.mk (#[115, 97, 102, 101])))), (2, (Go.Value.string (ByteArray.mk (#[99, 108, 97, 105, 109])))), (3, (Go.Value.string (ByteArray.mk (#[102, 97, 117, 108, 116])))), (4, (Go.Value.string (ByteArray.mk (#[115, 116, 117, 99, 107]))))] w1 fun x9 w2 =>
 iA 66 x9 kind0 fun x11 =>
 lA 9 x11 w2 fun x12 =>
 K x12 w2))
theorem S60_ok (kind0 : Value) (h : S60 w K kind0) : Calls Tryz.prog 60 [kind0].toArray w (Ret K) :=
 okE 13 (fun _ => .nil) 4 [.tmp 2] Tryz.func60 (by kernel_rfl) (by kernel_rfl) (by kernel_rfl) mixed (by simp) (by kernel_rfl) h

def S34 (a0 b1 : Value) : Prop :=
 lN 41 a0 fun x7 =>
 lN 41 b1 fun x9 =>
 bA .neq 3 x7 x9 fun x10 =>
 cV x10 (
 K ff w) (
 Loop1 (fun K1 i5 w1 => ∀ _ : Env,
 lN 41 a0 fun x13 =>
 bA .lss 3 i5 x13 fun x14 =>
 cV x14 (
 iA 41 a0 i5 fun x19 =>
 lA 3 x19 (drew w1) fun x20 =>
 iA 41 b1 i5 fun x23 =>
 lA 3 x23 (drew w1) fun x24 =>
 bA .neq 3 x20 x24 fun x25 =>
 cV x25 (
 K ff (drew w1)) (
 bB .add 3 i5 (i 1) fun x16 =>
 K1 x16 (drew w1))) (
 K tt w1))
 (fun K1 => K1 (i 0) w))
def P34 : Plans := fun i => match i with
 | 6 => .run 0 9
 | _ => .nil
theorem S34_ok (a0 b1 : Value) (h : S34 w K a0 b1) : Calls Tryz.prog 34 [a0, b1].toArray w (Ret K) :=
 okE 26 P34 16 [.tmp 4] Tryz.func34 (by kernel_rfl) (by kernel_rfl) (by kernel_rfl) mixed (by simp) (by kernel_rfl) h

def S12 (a0 b1 kind2 : Value) : Prop :=
 Eop Tryz.prog (Instr.box 78 a0) w fun a3 w1 =>
 Eop Tryz.prog (Instr.box 78 b1) w1 fun b4 w2 =>
 fA 78 a3 3 fun x7 =>
 lA 41 x7 w2 fun x8 =>
 fA 78 a3 3 fun x9 =>
 lA 41 x9 w2 fun x10 =>
 lN 41 x10 fun x11 =>
 Pop Tryz.prog (Builtin.min_ #[3, 3] 3 [x11, (i 10)].toArray) fun x12 =>
 Pop Tryz.prog (Instr.sliceAt 41 x8 none (some x12) none) fun x13 =>
 fA 78 a3 3 fun x14 =>
 sA 41 x14 x13 w2 fun w3 =>
 fA 78 b4 3 fun x15 =>
 lA 41 x15 w3 fun x16 =>
 fA 78 b4 3 fun x17 =>
 lA 41 x17 w3 fun x18 =>
 lN 41 x18 fun x19 =>
 Pop Tryz.prog (Builtin.min_ #[3, 3] 3 [x19, (i 10)].toArray) fun x20 =>
 Pop Tryz.prog (Instr.sliceAt 41 x16 none (some x20) none) fun x21 =>
 fA 78 b4 3 fun x22 =>
 sA 41 x22 x21 w3 fun w4 =>
 Join1 (fun K1 =>
 lA 78 a3 (drew w4) fun x23 =>
 lA 78 a3 (drew w4) fun x25 =>
 cF 55 [x23] (drew w4) fun x24 w5 =>
 kA 78 a3 x25 w5 (
 cF 49 [x25] w5 fun x26 w6 =>
 bA .eql 4 x24 x26 fun x27 =>
 cV x27 (
 lA 78 a3 w6 fun x29 =>
 lA 78 b4 w6 fun x30 =>
 lA 78 a3 w6 fun x32 =>
 lA 78 b4 w6 fun x33 =>
 cF 56 [x29, x30] w6 fun x31 w7 =>
 kA 78 a3 x32 w7 (
 kA 78 b4 x33 w7 (
 cF 57 [x32, x33] w7 fun x34 w8 =>
 bA .eql 4 x31 x34 fun x35 =>
 cV x35 (
 lA 78 a3 w8 fun x38 =>
 lA 78 b4 w8 fun x39 =>
 lA 78 a3 w8 fun x41 =>
 lA 78 b4 w8 fun x42 =>
 cF 58 [x38, x39] w8 fun x40 w9 =>
 kA 78 a3 x41 w9 (
 kA 78 b4 x42 w9 (
 cF 39 [x41, x42] w9 fun x43 w10 =>
 bA .eql 4 x40 x43 fun x44 =>
 cV x44 (
 cF 59 [kind2] w10 fun x48 w11 =>
 cF 60 [kind2] w11 fun x50 w12 =>
 bA .eql 9 x48 x50 fun x51 =>
 cV x51 (
 cF 54 [] w12 fun x54 w13 =>
 K1 x54 w13) (
 K1 ff w12)) (
 K1 ff w10)))) (
 K1 ff w8)))) (
 K1 ff w6)))
 (fun x6 w14 => ∀ _ : Env,
 K x6 w14)
def P12 : Plans := fun i => match i with
 | 3 => (.of [(0, []), (2, []), (1, [2]), (3, []), (4, []), (5, []), (6, []), (7, []), (9, []), (10, []), (8, [9, 10]), (11, []), (12, []), (13, []), (14, []), (15, []), (16, []), (18, []), (19, []), (17, [18, 19]), (20, []), (21, []), (22, []), (23, []), (24, []), (26, []), (25, []), (27, []), (28, []), (29, []), (30, []), (31, []), (32, []), (33, [])])
 | _ => .nil
theorem S12_ok (a0 b1 kind2 : Value) (h : S12 w K a0 b1 kind2) : Calls Tryz.prog 12 [a0, b1, kind2].toArray w (Ret K) :=
 okE 56 P12 64 [.tmp 6] Tryz.func12 (by kernel_rfl) (by kernel_rfl) (by kernel_rfl) mixed (by simp) (by kernel_rfl) h

def S14 (a0 b1 c2 : Value) : Prop :=
 Eop Tryz.prog (Instr.box 78 a0) w fun a3 w1 =>
 Eop Tryz.prog (Instr.box 78 b1) w1 fun b4 w2 =>
 Eop Tryz.prog (Instr.box 78 c2) w2 fun c5 w3 =>
 fA 78 a3 3 fun x8 =>
 lA 41 x8 w3 fun x9 =>
 fA 78 a3 3 fun x10 =>
 lA 41 x10 w3 fun x11 =>
 lN 41 x11 fun x12 =>
 Pop Tryz.prog (Builtin.min_ #[3, 3] 3 [x12, (i 10)].toArray) fun x13 =>
 Pop Tryz.prog (Instr.sliceAt 41 x9 none (some x13) none) fun x14 =>
 fA 78 a3 3 fun x15 =>
 sA 41 x15 x14 w3 fun w4 =>
 fA 78 b4 3 fun x16 =>
 lA 41 x16 w4 fun x17 =>
 fA 78 b4 3 fun x18 =>
 lA 41 x18 w4 fun x19 =>
 lN 41 x19 fun x20 =>
 Pop Tryz.prog (Builtin.min_ #[3, 3] 3 [x20, (i 10)].toArray) fun x21 =>
 Pop Tryz.prog (Instr.sliceAt 41 x17 none (some x21) none) fun x22 =>
 fA 78 b4 3 fun x23 =>
 sA 41 x23 x22 w4 fun w5 =>
 fA 78 c5 3 fun x24 =>
 lA 41 x24 w5 fun x25 =>
 fA 78 c5 3 fun x26 =>
 lA 41 x26 w5 fun x27 =>
 lN 41 x27 fun x28 =>
 Pop Tryz.prog (Builtin.min_ #[3, 3] 3 [x28, (i 10)].toArray) fun x29 =>
 Pop Tryz.prog (Instr.sliceAt 41 x25 none (some x29) none) fun x30 =>
 fA 78 c5 3 fun x31 =>
 sA 41 x31 x30 w5 fun w6 =>
 Join1 (fun K1 =>
 lA 78 a3 w6 fun x32 =>
 lA 78 b4 w6 fun x33 =>
 cF 56 [x32, x33] w6 fun x34 w7 =>
 cV x34 (
 bB .add 3 (i 0) (i 1) fun x36 =>
 K1 x36 w7) (
 K1 (i 0) w7))
 (fun n7 w8 => ∀ _ : Env,
 Join1 (fun K2 =>
 lA 78 b4 w8 fun x37 =>
 lA 78 a3 w8 fun x38 =>
 cF 56 [x37, x38] w8 fun x39 w9 =>
 cV x39 (
 bB .add 3 n7 (i 1) fun x41 =>
 K2 x41 w9) (
 K2 n7 w9))
 (fun n7_1 w10 => ∀ _ : Env,
 Join1 (fun K3 =>
 lA 78 a3 w10 fun x42 =>
 lA 78 b4 w10 fun x43 =>
 cF 58 [x42, x43] w10 fun x44 w11 =>
 cV x44 (
 bB .add 3 n7_1 (i 1) fun x46 =>
 K3 x46 w11) (
 K3 n7_1 w11))
 (fun n7_2 w12 => ∀ _ : Env,
 Join1 (fun K4 =>
 bB .eql 3 n7_2 (i 1) fun x48 =>
 cV x48 (
 lA 78 a3 w12 fun x50 =>
 lA 78 b4 w12 fun x51 =>
 cF 56 [x50, x51] w12 fun x52 w13 =>
 Pop Tryz.prog (Op.unary .not x52) fun x53 =>
 cV x53 (
 cF 54 [] w13 fun x67 w14 =>
 K4 x67 w14) (
 lA 78 b4 w13 fun x55 =>
 lA 78 c5 w13 fun x56 =>
 cF 56 [x55, x56] w13 fun x57 w15 =>
 Pop Tryz.prog (Op.unary .not x57) fun x58 =>
 cV x58 (
 cF 54 [] w15 fun x67_1 w16 =>
 K4 x67_1 w16) (
 lA 78 a3 w15 fun x61 =>
 lA 78 c5 w15 fun x62 =>
 cF 56 [x61, x62] w15 fun x63 w17 =>
 cV x63 (
 cF 54 [] w17 fun x67_2 w18 =>
 K4 x67_2 w18) (
 K4 ff w17)))) (
 K4 ff w12))
 (fun x6 w19 => ∀ _ : Env,
 K x6 w19))))
theorem S14_ok (a0 b1 c2 : Value) (h : S14 w K a0 b1 c2) : Calls Tryz.prog 14 [a0, b1, c2].toArray w (Ret K) :=
 okE 69 (fun _ => .nil) 64 [.tmp 6] Tryz.func14 (by kernel_rfl) (by kernel_rfl) (by kernel_rfl) mixed (by simp) (by kernel_rfl) h

theorem pl250 : Plain Tryz.prog 250 := ⟨_, Tryz.func250, by kernel_rfl, by kernel_rfl⟩
theorem pl194 : Plain Tryz.prog 194 := ⟨_, Tryz.func194, by kernel_rfl, by kernel_rfl⟩
theorem pl123 : Plain Tryz.prog 123 := ⟨_, Tryz.func123, by kernel_rfl, by kernel_rfl⟩
theorem pl124 : Plain Tryz.prog 124 := ⟨_, Tryz.func124, by kernel_rfl, by kernel_rfl⟩
theorem pl125 : Plain Tryz.prog 125 := ⟨_, Tryz.func125, by kernel_rfl, by kernel_rfl⟩
theorem pl55 : Plain Tryz.prog 55 := ⟨_, Tryz.func55, by kernel_rfl, by kernel_rfl⟩
theorem pl56 : Plain Tryz.prog 56 := ⟨_, Tryz.func56, by kernel_rfl, by kernel_rfl⟩
theorem pl58 : Plain Tryz.prog 58 := ⟨_, Tryz.func58, by kernel_rfl, by kernel_rfl⟩
theorem pl59 : Plain Tryz.prog 59 := ⟨_, Tryz.func59, by kernel_rfl, by kernel_rfl⟩
theorem pl49 : Plain Tryz.prog 49 := ⟨_, Tryz.func49, by kernel_rfl, by kernel_rfl⟩
theorem pl57 : Plain Tryz.prog 57 := ⟨_, Tryz.func57, by kernel_rfl, by kernel_rfl⟩
theorem pl39 : Plain Tryz.prog 39 := ⟨_, Tryz.func39, by kernel_rfl, by kernel_rfl⟩
theorem pl60 : Plain Tryz.prog 60 := ⟨_, Tryz.func60, by kernel_rfl, by kernel_rfl⟩
theorem pl34 : Plain Tryz.prog 34 := ⟨_, Tryz.func34, by kernel_rfl, by kernel_rfl⟩
theorem pl12 : Plain Tryz.prog 12 := ⟨_, Tryz.func12, by kernel_rfl, by kernel_rfl⟩
theorem pl14 : Plain Tryz.prog 14 := ⟨_, Tryz.func14, by kernel_rfl, by kernel_rfl⟩
end Go.Proofs.YtndcifakbhggdaaGreatDoor
