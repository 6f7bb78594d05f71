/-
  The shallow forms of the functions of this seat, printed by a program of ours out of the seat's own program; each is checked by the kernel against the framework's D. Nothing here is trusted.
-/
import Derived.Test.YtobcbkipeipjeaaProg
import Derived.Test.YtobcbkipeipjeaaFw4
import Derived.KernelRfl
namespace Go.Proofs.Ytobcbkipeipjeaa
open Go.Fw
theorem mixed : Try.prog.follows .mixedOrders = true := by kernel_rfl
theorem S_eq {a b : Prop} (h : a = b) : a ↔ b := by rw [h]

set_option maxRecDepth 100000 in
/-- leadline/leadlinelaw16.ClockTells -/
def S3 (l0 of1 n2 : Value) (w : World) (K : Value → World → Prop) : Prop :=
 Eop Try.prog (Instr.box 24 n2) w fun n5 w1 =>
 CallF Try.prog 9 [l0] w1 fun x9 w2 =>
 Pop Try.prog (Builtin.len_ #[23] 3 [of1].toArray) fun x12 =>
 Pop Try.prog (Builtin.min_ #[3, 3] 3 [x12, (.int .i64 20)].toArray) fun x13 =>
 Pop Try.prog (Instr.sliceAt 23 of1 none (some x13) none) fun x14 =>
 Pop Try.prog (Instr.indexAt 24 n5 (.int .i64 0)) fun x17 =>
 Qop Try.prog (Instr.loadAt 3 x17) w2 fun x18 =>
 CallF Try.prog 10 [x9, x14, x18] w2 fun x19 w3 =>
 Join1 (fun K1 =>
  Pop Try.prog (Instr.indexAt 24 n5 (.int .i64 0)) fun x23 =>
  Qop Try.prog (Instr.loadAt 3 x23) (drew w3) fun x24 =>
  CallF Try.prog 12 [x9, x14, x24] (drew w3) fun x25 w4 =>
  CallF Try.prog 11 [x19, x25] w4 fun x26 w5 =>
  CondV x26 (
   Pop Try.prog (Instr.indexAt 24 n5 (.int .i64 0)) fun x30 =>
   Qop Try.prog (Instr.loadAt 3 x30) w5 fun x31 =>
   Pop Try.prog (Instr.indexAt 24 n5 (.int .i64 0)) fun x35 =>
   Qop Try.prog (Instr.loadAt 3 x35) w5 fun x36 =>
   CallF Try.prog 14 [x9, x14, x31] w5 fun x32 w6 =>
   KeepAnd Try.prog (Instr.loadAt 3 x35) x36 w6 (
   CallF Try.prog 15 [x9, x14, x36] w6 fun x37 w7 =>
   CallF Try.prog 13 [x32, x37] w7 fun x38 w8 =>
   CondV x38 (
    Pop Try.prog (Instr.indexAt 24 n5 (.int .i64 1)) fun x43 =>
    Qop Try.prog (Instr.loadAt 3 x43) w8 fun x44 =>
    Pop Try.prog (Instr.indexAt 24 n5 (.int .i64 2)) fun x45 =>
    Qop Try.prog (Instr.loadAt 3 x45) w8 fun x46 =>
    Pop Try.prog (Instr.indexAt 24 n5 (.int .i64 1)) fun x50 =>
    Qop Try.prog (Instr.loadAt 3 x50) w8 fun x51 =>
    Pop Try.prog (Instr.indexAt 24 n5 (.int .i64 2)) fun x52 =>
    Qop Try.prog (Instr.loadAt 3 x52) w8 fun x53 =>
    CallF Try.prog 16 [x9, x19, x44, x46] w8 fun x47 w9 =>
    KeepAnd Try.prog (Instr.loadAt 3 x50) x51 w9 (
    KeepAnd Try.prog (Instr.loadAt 3 x52) x53 w9 (
    CallF Try.prog 17 [x9, x19, x51, x53] w9 fun x54 w10 =>
    Pop Try.prog (binS .eql 4 false false x47 x54) fun x55 =>
    CondV x55 (
     CallF Try.prog 18 [x9] w10 fun x59 w11 =>
     CallF Try.prog 19 [x9] w11 fun x61 w12 =>
     Pop Try.prog (binS .eql 3 false false x59 x61) fun x62 =>
     CondV x62 (
      CallF Try.prog 20 [] w12 fun x65 w13 =>
      K1 x65 w13)
     (
      K1 (.bool false) w12))
    (
     K1 (.bool false) w10))))
   (
    K1 (.bool false) w8)))
  (
   K1 (.bool false) w5))
 (fun x6 w14 => ∀ _ : Env,
  K x6 w14)
def S3pl : Plans := fun i => match i with
  | 4 => ((.of [(0, []), (1, []), (2, []), (3, []), (4, []), (5, []), (6, []), (7, []), (8, []), (9, []), (10, []), (11, []), (13, []), (14, []), (15, []), (16, []), (12, [16]), (17, []), (18, []), (19, []), (20, []), (21, []), (22, []), (23, []), (24, []), (25, []), (26, []), (28, []), (29, []), (30, []), (31, []), (32, []), (33, []), (27, [31, 33]), (34, []), (35, []), (36, []), (37, []), (38, []), (40, []), (39, []), (41, []), (42, []), (43, []), (44, []), (45, []), (46, []), (47, [])]), [0, 0, 0, 0, 8, 30, 63, 127, 255, 255, 255, 1279, 4095, 255, 255, 255, 33023, 131071, 262143, 524287, 1048575, 2097151, 2097151, 2097151, 10485759, 2097151, 35651583, 134217727, 2097151, 2097151, 2097151, 1075838975, 2097151, 4297064447, 17179869183, 34359738367, 68719476735, 137438953471, 274877906943, 549755813887, 274877906943, 2199023255551, 4398046511103, 8796093022207, 17592186044415, 35184372088831, 70368744177663, 140737488355327])
  | _ => (.nil, [])
set_option maxRecDepth 100000 in
theorem S3_eq (l0 of1 n2 : Value) (w : World) (K : Value → World → Prop) : D Try.prog 67 (S3pl) 64 ((Try.f3.body).getD .skip) [] 64 (retQ Try.prog [.tmp 6] K) [] (env0 [l0, of1, n2]) w = S3 l0 of1 n2 w K := by kernel_rfl
set_option maxRecDepth 100000 in
theorem S3_ok (l0 of1 n2 : Value) (w : World) (K : Value → World → Prop) (h : S3 l0 of1 n2 w K) : Calls Try.prog 3 [l0, of1, n2].toArray w (Ret K) :=
  calls_of_D mixed Try.func3 (show _ = some ((Try.f3.body).getD .skip) from by kernel_rfl) (by kernel_rfl) (by kernel_rfl) (by simp) ((S_eq (S3_eq l0 of1 n2 w K)).mpr h)

set_option maxRecDepth 100000 in
/-- leadline/leadlinelaw16.ClockJoins -/
def S4 (a0 b1 l2 : Value) (w : World) (K : Value → World → Prop) : Prop :=
 Pop Try.prog (Builtin.len_ #[23] 3 [a0].toArray) fun x13 =>
 Pop Try.prog (Builtin.min_ #[3, 3] 3 [x13, (.int .i64 20)].toArray) fun x14 =>
 Pop Try.prog (Instr.sliceAt 23 a0 none (some x14) none) fun x15 =>
 Pop Try.prog (Builtin.len_ #[23] 3 [b1].toArray) fun x18 =>
 Pop Try.prog (Builtin.min_ #[3, 3] 3 [x18, (.int .i64 20)].toArray) fun x19 =>
 Pop Try.prog (Instr.sliceAt 23 b1 none (some x19) none) fun x20 =>
 Pop Try.prog (Builtin.len_ #[22] 3 [l2].toArray) fun x23 =>
 Pop Try.prog (Builtin.min_ #[3, 3] 3 [x23, (.int .i64 10)].toArray) fun x24 =>
 Pop Try.prog (Instr.sliceAt 22 l2 none (some x24) none) fun x25 =>
 Eop Try.prog (Instr.buildSlice 26 0 [].toArray) w fun x26 w1 =>
 Loop2 (fun K1 clocks7 i8 w2 => ∀ _ : Env,
  Pop Try.prog (Builtin.len_ #[22] 3 [x25].toArray) fun x29 =>
  Pop Try.prog (binS .lss 3 false false i8 x29) fun x30 =>
  CondV x30 (
   Join1 (fun K2 =>
    Pop Try.prog (binS .rem 3 false true i8 (.int .i64 2)) fun x34 =>
    Pop Try.prog (binS .eql 3 false true x34 (.int .i64 0)) fun x35 =>
    CondV x35 (
     Eop Try.prog (Instr.buildSlice 26 1 [(0, x15)].toArray) w2 fun x38 w3 =>
     Eop Try.prog (Builtin.append_ #[26, 26] 26 [clocks7, x38].toArray) w3 fun x39 w4 =>
     K2 x39 w4)
    (
     Eop Try.prog (Instr.buildSlice 26 1 [(0, x20)].toArray) w2 fun x42 w5 =>
     Eop Try.prog (Builtin.append_ #[26, 26] 26 [clocks7, x42].toArray) w5 fun x43 w6 =>
     K2 x43 w6))
   (fun clocks7_1 w7 => ∀ _ : Env,
    Pop Try.prog (binS .add 3 false true i8 (.int .i64 1)) fun x32 =>
    K1 clocks7_1 x32 w7))
  (
   Loop1 (fun K3 i9 w8 => ∀ _ : Env,
    Pop Try.prog (Builtin.len_ #[22] 3 [x25].toArray) fun x46 =>
    Pop Try.prog (binS .leq 3 false false i9 x46) fun x47 =>
    CondV x47 (
     Loop1 (fun K4 k10 w9 => ∀ _ : Env,
      Pop Try.prog (Builtin.len_ #[22] 3 [x25].toArray) fun x52 =>
      Pop Try.prog (binS .leq 3 false false k10 x52) fun x53 =>
      CondV x53 (
       CallF Try.prog 16 [x25, clocks7, i9, k10] w9 fun x60 w10 =>
       CallF Try.prog 17 [x25, clocks7, i9, k10] w10 fun x65 w11 =>
       Pop Try.prog (binS .neq 4 false false x60 x65) fun x66 =>
       CondV x66 (
        K (.bool false) w11)
       (
        Pop Try.prog (binS .add 3 false true k10 (.int .i64 1)) fun x55 =>
        K4 x55 w11))
      (
       Pop Try.prog (binS .add 3 false true i9 (.int .i64 1)) fun x49 =>
       K3 x49 w9))
     (fun K4 => K4 (.int .i64 (-1)) w8))
    (
     Join1 (fun K5 =>
      CallF Try.prog 22 [x15, x20] w8 fun x69 w12 =>
      CallF Try.prog 23 [x15, x20] w12 fun x72 w13 =>
      CallF Try.prog 21 [x69, x72] w13 fun x73 w14 =>
      CondV x73 (
       CallF Try.prog 20 [] w14 fun x75 w15 =>
       K5 x75 w15)
      (
       K5 (.bool false) w14))
     (fun x6 w16 => ∀ _ : Env,
      K x6 w16)))
   (fun K3 => K3 (.int .i64 (-1)) w2)))
 (fun K1 => K1 x26 (.int .i64 0) w1)
set_option maxRecDepth 100000 in
theorem S4_eq (a0 b1 l2 : Value) (w : World) (K : Value → World → Prop) : D Try.prog 77 (fun _ => (.nil, [])) 64 ((Try.f4.body).getD .skip) [] 64 (retQ Try.prog [.tmp 6] K) [] (env0 [a0, b1, l2]) w = S4 a0 b1 l2 w K := by kernel_rfl
set_option maxRecDepth 100000 in
theorem S4_ok (a0 b1 l2 : Value) (w : World) (K : Value → World → Prop) (h : S4 a0 b1 l2 w K) : Calls Try.prog 4 [a0, b1, l2].toArray w (Ret K) :=
  calls_of_D mixed Try.func4 (show _ = some ((Try.f4.body).getD .skip) from by kernel_rfl) (by kernel_rfl) (by kernel_rfl) (by simp) ((S_eq (S4_eq a0 b1 l2 w K)).mpr h)

set_option maxRecDepth 100000 in
/-- leadline/leadlinelaw16.ClockBefore -/
def S5 (l0 stays1 : Value) (w : World) (K : Value → World → Prop) : Prop :=
 CallF Try.prog 9 [l0] w fun x15 w1 =>
 Eop Try.prog (Instr.buildSlice 23 3 [(0, (.int .i64 0)), (1, (.int .i64 0)), (2, (.int .i64 1))].toArray) w1 fun x16 w2 =>
 Eop Try.prog (Instr.buildSlice 22 0 [].toArray) w2 fun x17 w3 =>
 Loop2 (fun K1 l0_1 i7 w4 => ∀ _ : Env,
  Pop Try.prog (Builtin.len_ #[22] 3 [x15].toArray) fun x20 =>
  Pop Try.prog (binS .lss 3 false false i7 x20) fun x21 =>
  CondV x21 (
   Pop Try.prog (Instr.indexAt 22 x15 i7) fun x26 =>
   Qop Try.prog (Instr.loadAt 40 x26) w4 fun x27 =>
   Eop Try.prog (Instr.alloc 40 true (.tuple #[])) w4 fun v8 w5 =>
   Uop Try.prog (Instr.storeAt 40 v8 x27) w5 fun w6 =>
   Pop Try.prog (Instr.fieldAt 40 v8 1) fun x28 =>
   Qop Try.prog (Instr.loadAt 3 x28) w6 fun x29 =>
   Pop Try.prog (binS .and 3 false true x29 (.int .i64 7)) fun x30 =>
   Pop Try.prog (Instr.fieldAt 40 v8 1) fun x31 =>
   Uop Try.prog (Instr.storeAt 3 x31 x30) w6 fun w7 =>
   Qop Try.prog (Instr.loadAt 40 v8) w7 fun x33 =>
   Eop Try.prog (Instr.buildSlice 22 1 [(0, x33)].toArray) w7 fun x34 w8 =>
   Eop Try.prog (Builtin.append_ #[22, 22] 22 [l0_1, x34].toArray) w8 fun x35 w9 =>
   Pop Try.prog (binS .add 3 false true i7 (.int .i64 1)) fun x23 =>
   K1 x35 x23 w9)
  (
   CallF Try.prog 10 [l0_1, x16, stays1] w4 fun x39 w10 =>
   Pop Try.prog (Builtin.len_ #[26] 3 [x39].toArray) fun x41 =>
   Pop Try.prog (Builtin.len_ #[22] 3 [l0_1].toArray) fun x43 =>
   Pop Try.prog (binS .neq 3 false false x41 x43) fun x44 =>
   CondV x44 (
    K (.bool false) w10)
   (
    Loop1 (fun K2 k10 w11 => ∀ _ : Env,
     Pop Try.prog (Builtin.len_ #[22] 3 [l0_1].toArray) fun x47 =>
     Pop Try.prog (binS .lss 3 false false k10 x47) fun x48 =>
     CondV x48 (
      Loop1 (fun K3 i11 w12 => ∀ _ : Env,
       Pop Try.prog (binS .lss 3 false false i11 k10) fun x53 =>
       CondV x53 (
        Pop Try.prog (Instr.indexAt 22 l0_1 i11) fun x58 =>
        Qop Try.prog (Instr.loadAt 40 x58) (drew w12) fun x59 =>
        Pop Try.prog (Instr.indexAt 22 l0_1 k10) fun x62 =>
        Qop Try.prog (Instr.loadAt 40 x62) (drew w12) fun x63 =>
        CallF Try.prog 24 [x59, x63, x16, stays1] (drew w12) fun x66 w13 =>
        Pop Try.prog (binS .add 3 false true i11 (.int .i64 1)) fun x68 =>
        Loop2 (fun K4 want12 j13 w14 => ∀ _ : Env,
         Join1 (fun K5 =>
          Pop Try.prog (binS .lss 3 false false j13 k10) fun x71 =>
          CondV x71 (
           Pop Try.prog (Op.unary .not want12) fun x74 =>
           K5 x74 w14)
          (
           K5 (.bool false) w14))
         (fun x75 w15 => ∀ _ : Env,
          CondV x75 (
           Join1 (fun K6 =>
            CallF Try.prog 16 [l0_1, x39, i11, j13] w15 fun x82 w16 =>
            CondV x82 (
             CallF Try.prog 16 [l0_1, x39, j13, k10] w16 fun x88 w17 =>
             K6 x88 w17)
            (
             K6 (.bool false) w16))
           (fun want12_1 w18 => ∀ _ : Env,
            Pop Try.prog (binS .add 3 false true j13 (.int .i64 1)) fun x77 =>
            K4 want12_1 x77 w18))
          (
           Join1 (fun K7 =>
            CallF Try.prog 16 [l0_1, x39, i11, k10] w15 fun x94 w19 =>
            Pop Try.prog (binS .neq 4 false false x94 want12) fun x96 =>
            CondV x96 (
             K7 (.bool true) w19)
            (
             CallF Try.prog 16 [l0_1, x39, k10, i11] w19 fun x102 w20 =>
             K7 x102 w20))
           (fun x103 w21 => ∀ _ : Env,
            CondV x103 (
             K (.bool false) w21)
            (
             Pop Try.prog (binS .add 3 false true i11 (.int .i64 1)) fun x55 =>
             K3 x55 w21)))))
        (fun K4 => K4 x66 x68 w13))
       (
        Pop Try.prog (binS .add 3 false true k10 (.int .i64 1)) fun x50 =>
        K2 x50 w12))
      (fun K3 => K3 (.int .i64 0) w11))
     (
      CallF Try.prog 20 [] w11 fun x104 w22 =>
      K x104 w22))
    (fun K2 => K2 (.int .i64 0) w10))))
 (fun K1 => K1 x17 (.int .i64 0) w3)
def S5pl : Plans := fun i => match i with
  | 18 => ((.of [(0, []), (1, []), (2, []), (3, []), (4, []), (5, []), (6, []), (7, []), (8, []), (9, []), (10, []), (11, [])]), [0, 0, 3, 7, 0, 0, 48, 112, 0, 0, 1023, 2047])
  | _ => (.nil, [])
set_option maxRecDepth 100000 in
theorem S5_eq (l0 stays1 : Value) (w : World) (K : Value → World → Prop) : D Try.prog 105 (S5pl) 16 ((Try.f5.body).getD .skip) [] 16 (retQ Try.prog [.tmp 4] K) [] (env0 [l0, stays1]) w = S5 l0 stays1 w K := by kernel_rfl
set_option maxRecDepth 100000 in
theorem S5_ok (l0 stays1 : Value) (w : World) (K : Value → World → Prop) (h : S5 l0 stays1 w K) : Calls Try.prog 5 [l0, stays1].toArray w (Ret K) :=
  calls_of_D mixed Try.func5 (show _ = some ((Try.f5.body).getD .skip) from by kernel_rfl) (by kernel_rfl) (by kernel_rfl) (by simp) ((S_eq (S5_eq l0 stays1 w K)).mpr h)

set_option maxRecDepth 100000 in
/-- leadline/leadlinelaw16.ClockRaces -/
def S6 (l0 stays1 : Value) (w : World) (K : Value → World → Prop) : Prop :=
 CallF Try.prog 9 [l0] w fun x17 w1 =>
 Eop Try.prog (Instr.buildSlice 23 3 [(0, (.int .i64 0)), (1, (.int .i64 0)), (2, (.int .i64 1))].toArray) w1 fun x18 w2 =>
 Eop Try.prog (Instr.buildSlice 22 0 [].toArray) w2 fun x19 w3 =>
 Loop2 (fun K1 l0_1 i7 w4 => ∀ _ : Env,
  Pop Try.prog (Builtin.len_ #[22] 3 [x17].toArray) fun x22 =>
  Pop Try.prog (binS .lss 3 false false i7 x22) fun x23 =>
  CondV x23 (
   Pop Try.prog (Instr.indexAt 22 x17 i7) fun x28 =>
   Qop Try.prog (Instr.loadAt 40 x28) w4 fun x29 =>
   Eop Try.prog (Instr.alloc 40 true (.tuple #[])) w4 fun v8 w5 =>
   Uop Try.prog (Instr.storeAt 40 v8 x29) w5 fun w6 =>
   Pop Try.prog (Instr.fieldAt 40 v8 1) fun x30 =>
   Qop Try.prog (Instr.loadAt 3 x30) w6 fun x31 =>
   Pop Try.prog (binS .and 3 false true x31 (.int .i64 7)) fun x32 =>
   Pop Try.prog (Instr.fieldAt 40 v8 1) fun x33 =>
   Uop Try.prog (Instr.storeAt 3 x33 x32) w6 fun w7 =>
   Qop Try.prog (Instr.loadAt 40 v8) w7 fun x35 =>
   Eop Try.prog (Instr.buildSlice 22 1 [(0, x35)].toArray) w7 fun x36 w8 =>
   Eop Try.prog (Builtin.append_ #[22, 22] 22 [l0_1, x36].toArray) w8 fun x37 w9 =>
   Pop Try.prog (binS .add 3 false true i7 (.int .i64 1)) fun x25 =>
   K1 x37 x25 w9)
  (
   CallF Try.prog 10 [l0_1, x18, stays1] w4 fun x41 w10 =>
   CallF Try.prog 14 [l0_1, x18, stays1] w10 fun x45 w11 =>
   Loop2 (fun K2 n11 k12 w12 => ∀ _ : Env,
    Pop Try.prog (Builtin.len_ #[22] 3 [l0_1].toArray) fun x48 =>
    Pop Try.prog (binS .lss 3 false false k12 x48) fun x49 =>
    CondV x49 (
     Loop2 (fun K3 n11_1 i13 w13 => ∀ _ : Env,
      Pop Try.prog (binS .lss 3 false false i13 k12) fun x54 =>
      CondV x54 (
       Join1 (fun K4 =>
        Join1 (fun K5 =>
         Pop Try.prog (Instr.indexAt 22 l0_1 i13) fun x59 =>
         Pop Try.prog (Instr.fieldAt 40 x59 1) fun x60 =>
         Qop Try.prog (Instr.loadAt 3 x60) (drew w13) fun x61 =>
         Pop Try.prog (Instr.indexAt 22 l0_1 k12) fun x64 =>
         Pop Try.prog (Instr.fieldAt 40 x64 1) fun x65 =>
         Qop Try.prog (Instr.loadAt 3 x65) (drew w13) fun x66 =>
         Pop Try.prog (binS .eql 3 false false x61 x66) fun x67 =>
         CondV x67 (
          K5 (.bool true) (drew w13))
         (
          Pop Try.prog (Instr.indexAt 22 l0_1 i13) fun x71 =>
          Qop Try.prog (Instr.loadAt 40 x71) (drew w13) fun x72 =>
          Pop Try.prog (Instr.indexAt 22 l0_1 k12) fun x75 =>
          Qop Try.prog (Instr.loadAt 40 x75) (drew w13) fun x76 =>
          CallF Try.prog 24 [x72, x76, x18, stays1] (drew w13) fun x79 w14 =>
          Pop Try.prog (Op.unary .not x79) fun x80 =>
          K5 x80 w14))
        (fun x81 w15 => ∀ _ : Env,
         CondV x81 (
          K4 n11_1 w15)
         (
          Pop Try.prog (binS .add 3 false true i13 (.int .i64 1)) fun x83 =>
          Loop2 (fun K6 between14 j15 w16 => ∀ _ : Env,
           Pop Try.prog (binS .lss 3 false false j15 k12) fun x86 =>
           CondV x86 (
            Join1 (fun K7 =>
             CondV between14 (
              K7 (.bool true) w16)
             (
              CallF Try.prog 16 [l0_1, x41, i13, j15] w16 fun x95 w17 =>
              CondV x95 (
               CallF Try.prog 16 [l0_1, x41, j15, k12] w17 fun x101 w18 =>
               K7 x101 w18)
              (
               K7 (.bool false) w17)))
            (fun between14_1 w19 => ∀ _ : Env,
             Pop Try.prog (binS .add 3 false true j15 (.int .i64 1)) fun x88 =>
             K6 between14_1 x88 w19))
           (
            Pop Try.prog (Op.unary .not between14) fun x105 =>
            CondV x105 (
             Join1 (fun K8 =>
              Pop Try.prog (Builtin.len_ #[30] 3 [x45].toArray) fun x108 =>
              Pop Try.prog (binS .geq 3 false false n11_1 x108) fun x109 =>
              CondV x109 (
               K8 (.bool true) w16)
              (
               Pop Try.prog (Instr.indexAt 30 x45 n11_1) fun x113 =>
               Qop Try.prog (Instr.loadAt 43 x113) w16 fun x114 =>
               Pop Try.prog (Instr.build 43 [(0, i13), (1, k12)].toArray) fun x117 =>
               Pop Try.prog (binS .neq 43 false false x114 x117) fun x118 =>
               K8 x118 w16))
             (fun x119 w20 => ∀ _ : Env,
              CondV x119 (
               K (.bool false) w20)
              (
               Pop Try.prog (binS .add 3 false true n11_1 (.int .i64 1)) fun x121 =>
               K4 x121 w20)))
            (
             K4 n11_1 w16)))
          (fun K6 => K6 (.bool false) x83 w15))))
       (fun n11_2 w21 => ∀ _ : Env,
        Pop Try.prog (binS .add 3 false true i13 (.int .i64 1)) fun x56 =>
        K3 n11_2 x56 w21))
      (
       Pop Try.prog (binS .add 3 false true k12 (.int .i64 1)) fun x51 =>
       K2 n11_1 x51 w13))
     (fun K3 => K3 n11 (.int .i64 0) w12))
    (
     Join1 (fun K9 =>
      Pop Try.prog (Builtin.len_ #[30] 3 [x45].toArray) fun x124 =>
      Pop Try.prog (binS .eql 3 false false n11 x124) fun x125 =>
      CondV x125 (
       CallF Try.prog 20 [] w12 fun x127 w22 =>
       K9 x127 w22)
      (
       K9 (.bool false) w12))
     (fun x4 w23 => ∀ _ : Env,
      K x4 w23)))
   (fun K2 => K2 (.int .i64 0) (.int .i64 0) w11)))
 (fun K1 => K1 x19 (.int .i64 0) w3)
def S6pl : Plans := fun i => match i with
  | 16 => ((.of [(0, []), (1, []), (2, []), (3, []), (4, []), (5, []), (6, []), (7, []), (8, []), (9, []), (10, []), (11, []), (12, []), (13, []), (14, []), (15, []), (16, []), (17, []), (18, []), (19, []), (20, []), (21, []), (22, []), (23, []), (24, [])]), [0, 0, 3, 7, 15, 0, 0, 96, 224, 480, 1023, 2047, 4095, 4095, 16383, 32767, 4095, 4095, 200703, 462847, 4095, 4095, 4194303, 8388607, 16777215])
  | _ => (.nil, [])
set_option maxRecDepth 100000 in
theorem S6_eq (l0 stays1 : Value) (w : World) (K : Value → World → Prop) : D Try.prog 129 (S6pl) 16 ((Try.f6.body).getD .skip) [] 16 (retQ Try.prog [.tmp 4] K) [] (env0 [l0, stays1]) w = S6 l0 stays1 w K := by kernel_rfl
set_option maxRecDepth 100000 in
theorem S6_ok (l0 stays1 : Value) (w : World) (K : Value → World → Prop) (h : S6 l0 stays1 w K) : Calls Try.prog 6 [l0, stays1].toArray w (Ret K) :=
  calls_of_D mixed Try.func6 (show _ = some ((Try.f6.body).getD .skip) from by kernel_rfl) (by kernel_rfl) (by kernel_rfl) (by simp) ((S_eq (S6_eq l0 stays1 w K)).mpr h)

set_option maxRecDepth 100000 in
/-- leadline/leadlinelaw16.ClockCounts -/
def S7 (l0 stays1 : Value) (w : World) (K : Value → World → Prop) : Prop :=
 Join3 (fun K1 =>
  ((
   CallF Try.prog 9 [l0] (drew w) fun x15 w1 =>
   ((
    Eop Try.prog (Instr.buildSlice 23 3 [(0, (.int .i64 0)), (1, (.int .i64 0)), (2, (.int .i64 1))].toArray) w1 fun x16 w2 =>
    Eop Try.prog (Instr.makeSlice 23 (.int .i64 8) (.int .i64 8)) w2 fun x17 w3 =>
    K1 x15 x16 x17 w3)
   ∧
    ((
     Eop Try.prog (Instr.makeSlice 23 (.int .i64 8) (.int .i64 8)) w1 fun x17_1 w4 =>
     Eop Try.prog (Instr.buildSlice 23 3 [(0, (.int .i64 0)), (1, (.int .i64 0)), (2, (.int .i64 1))].toArray) w4 fun x16_1 w5 =>
     K1 x15 x16_1 x17_1 w5)
    ∧
     True)))
  ∧
   ((
    Eop Try.prog (Instr.buildSlice 23 3 [(0, (.int .i64 0)), (1, (.int .i64 0)), (2, (.int .i64 1))].toArray) (drew w) fun x16_2 w6 =>
    ((
     CallF Try.prog 9 [l0] w6 fun x15_1 w7 =>
     Eop Try.prog (Instr.makeSlice 23 (.int .i64 8) (.int .i64 8)) w7 fun x17_2 w8 =>
     K1 x15_1 x16_2 x17_2 w8)
    ∧
     ((
      Eop Try.prog (Instr.makeSlice 23 (.int .i64 8) (.int .i64 8)) w6 fun x17_3 w9 =>
      CallF Try.prog 9 [l0] w9 fun x15_2 w10 =>
      K1 x15_2 x16_2 x17_3 w10)
     ∧
      True)))
   ∧
    ((
     Eop Try.prog (Instr.makeSlice 23 (.int .i64 8) (.int .i64 8)) (drew w) fun x17_4 w11 =>
     ((
      CallF Try.prog 9 [l0] w11 fun x15_3 w12 =>
      Eop Try.prog (Instr.buildSlice 23 3 [(0, (.int .i64 0)), (1, (.int .i64 0)), (2, (.int .i64 1))].toArray) w12 fun x16_3 w13 =>
      K1 x15_3 x16_3 x17_4 w13)
     ∧
      ((
       Eop Try.prog (Instr.buildSlice 23 3 [(0, (.int .i64 0)), (1, (.int .i64 0)), (2, (.int .i64 1))].toArray) w11 fun x16_4 w14 =>
       CallF Try.prog 9 [l0] w14 fun x15_4 w15 =>
       K1 x15_4 x16_4 x17_4 w15)
      ∧
       True)))
    ∧
     True))))
 (fun m5 of6 n7 w16 => ∀ _ : Env,
  Eop Try.prog (Instr.buildSlice 22 0 [].toArray) w16 fun x18 w17 =>
  Loop2 (fun K2 l0_1 i8 w18 => ∀ _ : Env,
   Pop Try.prog (Builtin.len_ #[22] 3 [m5].toArray) fun x21 =>
   Pop Try.prog (binS .lss 3 false false i8 x21) fun x22 =>
   CondV x22 (
    Pop Try.prog (Instr.indexAt 22 m5 i8) fun x27 =>
    Qop Try.prog (Instr.loadAt 40 x27) w18 fun x28 =>
    Eop Try.prog (Instr.alloc 40 true (.tuple #[])) w18 fun v9 w19 =>
    Uop Try.prog (Instr.storeAt 40 v9 x28) w19 fun w20 =>
    Pop Try.prog (Instr.fieldAt 40 v9 1) fun x29 =>
    Qop Try.prog (Instr.loadAt 3 x29) w20 fun x30 =>
    Pop Try.prog (binS .and 3 false true x30 (.int .i64 7)) fun x31 =>
    Pop Try.prog (Instr.fieldAt 40 v9 1) fun x32 =>
    Uop Try.prog (Instr.storeAt 3 x32 x31) w20 fun w21 =>
    Qop Try.prog (Instr.loadAt 40 v9) w21 fun x34 =>
    Eop Try.prog (Instr.buildSlice 22 1 [(0, x34)].toArray) w21 fun x35 w22 =>
    Eop Try.prog (Builtin.append_ #[22, 22] 22 [l0_1, x35].toArray) w22 fun x36 w23 =>
    Pop Try.prog (binS .add 3 false true i8 (.int .i64 1)) fun x24 =>
    K2 x36 x24 w23)
   (
    CallF Try.prog 10 [l0_1, of6, stays1] w18 fun x40 w24 =>
    Pop Try.prog (Builtin.len_ #[26] 3 [x40].toArray) fun x42 =>
    Pop Try.prog (Builtin.len_ #[22] 3 [l0_1].toArray) fun x44 =>
    Pop Try.prog (binS .neq 3 false false x42 x44) fun x45 =>
    CondV x45 (
     K (.bool false) w24)
    (
     Loop1 (fun K3 k11 w25 => ∀ _ : Env,
      Pop Try.prog (Builtin.len_ #[22] 3 [l0_1].toArray) fun x48 =>
      Pop Try.prog (binS .lss 3 false false k11 x48) fun x49 =>
      CondV x49 (
       Pop Try.prog (Instr.indexAt 22 l0_1 k11) fun x54 =>
       Pop Try.prog (Instr.fieldAt 40 x54 1) fun x55 =>
       Qop Try.prog (Instr.loadAt 3 x55) w25 fun x56 =>
       Pop Try.prog (Instr.indexAt 23 n7 x56) fun x61 =>
       Qop Try.prog (Instr.loadAt 3 x61) w25 fun x62 =>
       Pop Try.prog (binS .add 3 false true x62 (.int .i64 1)) fun x63 =>
       Pop Try.prog (Instr.indexAt 23 n7 x56) fun x64 =>
       Uop Try.prog (Instr.storeAt 3 x64 x63) w25 fun w26 =>
       Join1 (fun K4 =>
        Pop Try.prog (Instr.indexAt 26 x40 k11) fun x67 =>
        Qop Try.prog (Instr.loadAt 23 x67) (drew w26) fun x68 =>
        Pop Try.prog (Builtin.len_ #[23] 3 [x68].toArray) fun x69 =>
        CallF Try.prog 18 [l0_1] (drew w26) fun x71 w27 =>
        KeepAnd Try.prog (Instr.loadAt 23 x67) x68 w27 (
        Pop Try.prog (binS .neq 3 false false x69 x71) fun x72 =>
        CondV x72 (
         K4 (.bool true) w27)
        (
         Pop Try.prog (Instr.indexAt 26 x40 k11) fun x77 =>
         Qop Try.prog (Instr.loadAt 23 x77) w27 fun x78 =>
         Pop Try.prog (Builtin.len_ #[23] 3 [x78].toArray) fun x79 =>
         Pop Try.prog (binS .geq 3 false false x56 x79) fun x80 =>
         CondV x80 (
          K4 (.bool true) w27)
         (
          Pop Try.prog (Instr.indexAt 26 x40 k11) fun x85 =>
          Qop Try.prog (Instr.loadAt 23 x85) w27 fun x86 =>
          Pop Try.prog (Instr.indexAt 23 x86 x56) fun x88 =>
          Qop Try.prog (Instr.loadAt 3 x88) w27 fun x89 =>
          Pop Try.prog (Instr.indexAt 23 n7 x56) fun x92 =>
          Qop Try.prog (Instr.loadAt 3 x92) w27 fun x93 =>
          Pop Try.prog (binS .neq 3 false false x89 x93) fun x94 =>
          K4 x94 w27))))
       (fun x95 w28 => ∀ _ : Env,
        CondV x95 (
         K (.bool false) w28)
        (
         Loop1 (fun K5 i13 w29 => ∀ _ : Env,
          Pop Try.prog (binS .lss 3 false false i13 k11) fun x98 =>
          CondV x98 (
           Join1 (fun K6 =>
            CallF Try.prog 16 [l0_1, x40, i13, k11] (drew w29) fun x105 w30 =>
            CondV x105 (
             Pop Try.prog (Instr.indexAt 26 x40 i13) fun x109 =>
             Qop Try.prog (Instr.loadAt 23 x109) w30 fun x110 =>
             Pop Try.prog (Instr.indexAt 26 x40 k11) fun x113 =>
             Qop Try.prog (Instr.loadAt 23 x113) w30 fun x114 =>
             Pop Try.prog (Instr.indexAt 26 x40 k11) fun x118 =>
             Qop Try.prog (Instr.loadAt 23 x118) w30 fun x119 =>
             CallF Try.prog 22 [x110, x114] w30 fun x115 w31 =>
             KeepAnd Try.prog (Instr.loadAt 23 x118) x119 w31 (
             CallF Try.prog 21 [x115, x119] w31 fun x120 w32 =>
             Pop Try.prog (Op.unary .not x120) fun x121 =>
             K6 x121 w32))
            (
             K6 (.bool false) w30))
           (fun x122 w33 => ∀ _ : Env,
            CondV x122 (
             K (.bool false) w33)
            (
             Pop Try.prog (binS .add 3 false true i13 (.int .i64 1)) fun x100 =>
             K5 x100 w33)))
          (
           Pop Try.prog (binS .add 3 false true k11 (.int .i64 1)) fun x51 =>
           K3 x51 w29))
         (fun K5 => K5 (.int .i64 0) w28))))
      (
       CallF Try.prog 20 [] w25 fun x123 w34 =>
       K x123 w34))
     (fun K3 => K3 (.int .i64 0) w24))))
  (fun K2 => K2 x18 (.int .i64 0) w17))
def S7pl : Plans := fun i => match i with
  | 1 => ((.op 0 [] (.alt 1 [] (.op 4 [] (.alt 2 [] (.of [(5, []), (3, []), (6, [])]) (.alt 3 [] (.of [(2, []), (5, []), (6, [])]) .stop))) (.alt 2 [] (.alt 1 [] (.of [(4, []), (5, []), (3, []), (6, [])]) (.alt 3 [] (.of [(1, []), (4, []), (5, []), (6, [])]) .stop)) (.alt 3 [] (.alt 1 [] (.of [(4, []), (2, []), (5, []), (6, [])]) (.alt 2 [] (.of [(1, []), (4, []), (5, []), (6, [])]) .stop)) .stop)))), [0, 1, 0, 0, 3, 23, 63])
  | 17 => ((.of [(0, []), (1, []), (2, []), (3, []), (4, []), (5, []), (6, [3]), (7, []), (8, []), (9, []), (10, []), (11, []), (12, []), (13, []), (14, []), (15, []), (16, []), (17, []), (18, []), (19, []), (20, []), (21, []), (22, []), (23, []), (24, []), (25, []), (26, []), (27, []), (28, []), (29, []), (30, [])]), [0, 0, 3, 7, 15, 0, 32, 127, 255, 511, 511, 511, 3583, 7679, 15871, 32767, 65535, 131071, 262143, 262143, 1048575, 2097151, 262143, 8388607, 16777215, 262143, 262143, 100925439, 235143167, 536870911, 1073741823])
  | 22 => ((.of [(0, []), (1, []), (2, []), (3, []), (4, []), (5, []), (6, []), (7, []), (8, []), (9, []), (10, []), (11, []), (12, []), (13, []), (15, []), (16, []), (17, []), (18, []), (14, [18]), (19, []), (20, []), (21, [])]), [0, 0, 0, 0, 15, 31, 63, 63, 255, 511, 63, 63, 3135, 7231, 16383, 63, 63, 98367, 229439, 524287, 1048575, 2097151])
  | _ => (.nil, [])
set_option maxRecDepth 100000 in
theorem S7_eq (l0 stays1 : Value) (w : World) (K : Value → World → Prop) : D Try.prog 124 (S7pl) 16 ((Try.f7.body).getD .skip) [] 16 (retQ Try.prog [.tmp 4] K) [] (env0 [l0, stays1]) w = S7 l0 stays1 w K := by kernel_rfl
set_option maxRecDepth 100000 in
theorem S7_ok (l0 stays1 : Value) (w : World) (K : Value → World → Prop) (h : S7 l0 stays1 w K) : Calls Try.prog 7 [l0, stays1].toArray w (Ret K) :=
  calls_of_D mixed Try.func7 (show _ = some ((Try.f7.body).getD .skip) from by kernel_rfl) (by kernel_rfl) (by kernel_rfl) (by simp) ((S_eq (S7_eq l0 stays1 w K)).mpr h)

set_option maxRecDepth 100000 in
/-- leadline/leadlinelaw16.ClockRows -/
def S8 (l0 k1 stays2 : Value) (w : World) (K : Value → World → Prop) : Prop :=
 CallF Try.prog 9 [l0] w fun x19 w1 =>
 Eop Try.prog (Instr.buildSlice 23 3 [(0, (.int .i64 0)), (1, (.int .i64 0)), (2, (.int .i64 1))].toArray) w1 fun x20 w2 =>
 Pop Try.prog (Instr.build 40 [(0, (.int .i64 2)), (1, (.int .i64 2))].toArray) fun x21 =>
 Eop Try.prog (Instr.buildSlice 22 1 [(0, x21)].toArray) w2 fun x22 w3 =>
 Loop2 (fun K1 l0_1 i9 w4 => ∀ _ : Env,
  Pop Try.prog (Builtin.len_ #[22] 3 [x19].toArray) fun x25 =>
  Pop Try.prog (binS .lss 3 false false i9 x25) fun x26 =>
  CondV x26 (
   Pop Try.prog (Instr.indexAt 22 x19 i9) fun x31 =>
   Qop Try.prog (Instr.loadAt 40 x31) w4 fun x32 =>
   Eop Try.prog (Instr.alloc 40 true (.tuple #[])) w4 fun v10 w5 =>
   Uop Try.prog (Instr.storeAt 40 v10 x32) w5 fun w6 =>
   Pop Try.prog (Instr.fieldAt 40 v10 1) fun x33 =>
   Qop Try.prog (Instr.loadAt 3 x33) w6 fun x34 =>
   Pop Try.prog (binS .and 3 false true x34 (.int .i64 255)) fun x35 =>
   Pop Try.prog (binS .rem 3 false true x35 (.int .i64 3)) fun x36 =>
   Pop Try.prog (Instr.fieldAt 40 v10 1) fun x37 =>
   Uop Try.prog (Instr.storeAt 3 x37 x36) w6 fun w7 =>
   Qop Try.prog (Instr.loadAt 40 v10) w7 fun x39 =>
   Eop Try.prog (Instr.buildSlice 22 1 [(0, x39)].toArray) w7 fun x40 w8 =>
   Eop Try.prog (Builtin.append_ #[22, 22] 22 [l0_1, x40].toArray) w8 fun x41 w9 =>
   Pop Try.prog (binS .add 3 false true i9 (.int .i64 1)) fun x28 =>
   K1 x41 x28 w9)
  (
   Pop Try.prog (binS .and 3 false true k1 (.int .i64 65535)) fun x43 =>
   Pop Try.prog (Builtin.len_ #[22] 3 [l0_1].toArray) fun x45 =>
   Pop Try.prog (binS .rem 3 false false x43 x45) fun x46 =>
   Pop Try.prog (binS .add 3 true false (.int .i64 1) x46) fun x47 =>
   Pop Try.prog (Instr.sliceAt 22 l0_1 none (some x47) none) fun x54 =>
   CallF Try.prog 10 [l0_1, x20, stays2] (drew w4) fun x51 w10 =>
   CallF Try.prog 10 [x54, x20, stays2] w10 fun x57 w11 =>
   Join1 (fun K2 =>
    Pop Try.prog (Builtin.len_ #[26] 3 [x51].toArray) fun x59 =>
    Pop Try.prog (Builtin.len_ #[22] 3 [l0_1].toArray) fun x61 =>
    Pop Try.prog (binS .neq 3 false false x59 x61) fun x62 =>
    CondV x62 (
     K2 (.bool true) w11)
    (
     Pop Try.prog (Builtin.len_ #[26] 3 [x57].toArray) fun x65 =>
     Pop Try.prog (binS .neq 3 false false x65 x47) fun x67 =>
     CondV x67 (
      K2 (.bool true) w11)
     (
      Pop Try.prog (Instr.sliceAt 26 x51 none (some x47) none) fun x72 =>
      CallF Try.prog 11 [x72, x57] w11 fun x74 w12 =>
      Pop Try.prog (Op.unary .not x74) fun x75 =>
      K2 x75 w12)))
   (fun x76 w13 => ∀ _ : Env,
    CondV x76 (
     K (.bool false) w13)
    (
     Pop Try.prog (Instr.sliceAt 22 l0_1 none (some x47) none) fun x83 =>
     CallF Try.prog 14 [l0_1, x20, stays2] (drew w13) fun x80 w14 =>
     CallF Try.prog 14 [x83, x20, stays2] w14 fun x86 w15 =>
     Loop2 (fun K3 j16 i17 w16 => ∀ _ : Env,
      Pop Try.prog (Builtin.len_ #[30] 3 [x80].toArray) fun x89 =>
      Pop Try.prog (binS .lss 3 false false i17 x89) fun x90 =>
      CondV x90 (
       Join1 (fun K4 =>
        Pop Try.prog (Instr.indexAt 30 x80 i17) fun x95 =>
        Pop Try.prog (Instr.indexAt 43 x95 (.int .i64 1)) fun x96 =>
        Qop Try.prog (Instr.loadAt 3 x96) w16 fun x97 =>
        Pop Try.prog (binS .geq 3 false false x97 x47) fun x99 =>
        CondV x99 (
         K4 j16 w16)
        (
         Join1 (fun K5 =>
          Pop Try.prog (Builtin.len_ #[30] 3 [x86].toArray) fun x102 =>
          Pop Try.prog (binS .geq 3 false false j16 x102) fun x103 =>
          CondV x103 (
           K5 (.bool true) (drew w16))
          (
           Pop Try.prog (Instr.indexAt 30 x80 i17) fun x107 =>
           Qop Try.prog (Instr.loadAt 43 x107) (drew w16) fun x108 =>
           Pop Try.prog (Instr.indexAt 30 x86 j16) fun x111 =>
           Qop Try.prog (Instr.loadAt 43 x111) (drew w16) fun x112 =>
           Pop Try.prog (binS .neq 43 false false x108 x112) fun x113 =>
           K5 x113 (drew w16)))
         (fun x114 w17 => ∀ _ : Env,
          CondV x114 (
           K (.bool false) w17)
          (
           Pop Try.prog (binS .add 3 false true j16 (.int .i64 1)) fun x116 =>
           K4 x116 w17))))
       (fun j16_1 w18 => ∀ _ : Env,
        Pop Try.prog (binS .add 3 false true i17 (.int .i64 1)) fun x92 =>
        K3 j16_1 x92 w18))
      (
       Join1 (fun K6 =>
        Pop Try.prog (Builtin.len_ #[30] 3 [x86].toArray) fun x119 =>
        Pop Try.prog (binS .eql 3 false false j16 x119) fun x120 =>
        CondV x120 (
         CallF Try.prog 20 [] w16 fun x122 w19 =>
         K6 x122 w19)
        (
         K6 (.bool false) w16))
       (fun x6 w20 => ∀ _ : Env,
        K x6 w20)))
     (fun K3 => K3 (.int .i64 0) (.int .i64 0) w15)))))
 (fun K1 => K1 x22 (.int .i64 0) w3)
def S8pl : Plans := fun i => match i with
  | 10 => ((.of [(0, []), (1, []), (2, []), (4, []), (5, []), (6, []), (7, []), (8, []), (3, []), (9, []), (10, []), (11, [])]), [0, 0, 0, 7, 0, 0, 48, 0, 0, 511, 1023, 2047])
  | 13 => ((.of [(0, []), (1, []), (2, []), (4, []), (5, []), (6, []), (7, []), (8, []), (3, []), (9, []), (10, []), (11, []), (12, [])]), [0, 0, 0, 7, 0, 0, 48, 0, 0, 511, 1023, 2047, 4095])
  | 18 => ((.of [(0, []), (1, []), (2, []), (3, []), (4, []), (5, []), (6, []), (7, []), (8, []), (9, []), (10, []), (11, []), (12, []), (13, []), (14, [])]), [0, 0, 2, 7, 15, 31, 31, 127, 255, 31, 31, 1567, 3615, 8191, 16383])
  | _ => (.nil, [])
set_option maxRecDepth 100000 in
theorem S8_eq (l0 k1 stays2 : Value) (w : World) (K : Value → World → Prop) : D Try.prog 124 (S8pl) 64 ((Try.f8.body).getD .skip) [] 64 (retQ Try.prog [.tmp 6] K) [] (env0 [l0, k1, stays2]) w = S8 l0 k1 stays2 w K := by kernel_rfl
set_option maxRecDepth 100000 in
theorem S8_ok (l0 k1 stays2 : Value) (w : World) (K : Value → World → Prop) (h : S8 l0 k1 stays2 w K) : Calls Try.prog 8 [l0, k1, stays2].toArray w (Ret K) :=
  calls_of_D mixed Try.func8 (show _ = some ((Try.f8.body).getD .skip) from by kernel_rfl) (by kernel_rfl) (by kernel_rfl) (by simp) ((S_eq (S8_eq l0 k1 stays2 w K)).mpr h)

set_option maxRecDepth 100000 in
/-- leadline/leadlinelaw16.cut -/
def S9 (l0 : Value) (w : World) (K : Value → World → Prop) : Prop :=
 Pop Try.prog (Builtin.len_ #[22] 3 [l0].toArray) fun x5 =>
 Pop Try.prog (Builtin.min_ #[3, 3] 3 [x5, (.int .i64 40)].toArray) fun x6 =>
 Pop Try.prog (Instr.sliceAt 22 l0 none (some x6) none) fun x7 =>
 K x7 w
set_option maxRecDepth 100000 in
theorem S9_eq (l0 : Value) (w : World) (K : Value → World → Prop) : D Try.prog 8 (fun _ => (.nil, [])) 4 ((Try.f9.body).getD .skip) [] 4 (retQ Try.prog [.tmp 2] K) [] (env0 [l0]) w = S9 l0 w K := by kernel_rfl
set_option maxRecDepth 100000 in
theorem S9_ok (l0 : Value) (w : World) (K : Value → World → Prop) (h : S9 l0 w K) : Calls Try.prog 9 [l0].toArray w (Ret K) :=
  calls_of_D mixed Try.func9 (show _ = some ((Try.f9.body).getD .skip) from by kernel_rfl) (by kernel_rfl) (by kernel_rfl) (by simp) ((S_eq (S9_eq l0 w K)).mpr h)

set_option maxRecDepth 100000 in
/-- leadline/clock.Clocks -/
def S10 (l0 of1 stays2 : Value) (w : World) (K : Value → World → Prop) : Prop :=
 CallF Try.prog 18 [l0] w fun x14 w1 =>
 Pop Try.prog (binS .eql 3 false true x14 (.int .i64 0)) fun x16 =>
 CondV x16 (
  K (.slice none 0 0) w1)
 (
  Pop Try.prog (Builtin.len_ #[22] 3 [l0].toArray) fun x18 =>
  Loop2 (fun K1 out8 x19 w2 => ∀ _ : Env,
   Pop Try.prog (binS .lss 3 false false x19 x18) fun x20 =>
   CondV x20 (
    Pop Try.prog (Instr.indexAt 22 l0 x19) fun x22 =>
    Qop Try.prog (Instr.loadAt 40 x22) w2 fun x23 =>
    Eop Try.prog (Instr.alloc 40 true (.tuple #[])) w2 fun v10 w3 =>
    Uop Try.prog (Instr.storeAt 40 v10 x23) w3 fun w4 =>
    Eop Try.prog (Instr.makeSlice 23 x14 x14) w4 fun x25 w5 =>
    Loop2 (fun K2 c11 x27 w6 => ∀ _ : Env,
     Pop Try.prog (binS .lss 3 false false x27 x19) fun x28 =>
     CondV x28 (
      Join1 (fun K3 =>
       Pop Try.prog (Instr.indexAt 22 l0 x27) fun x32 =>
       Qop Try.prog (Instr.loadAt 40 x32) (drew w6) fun x33 =>
       Qop Try.prog (Instr.loadAt 40 v10) (drew w6) fun x34 =>
       CallF Try.prog 25 [x33, x34, of1, stays2] (drew w6) fun x37 w7 =>
       CondV x37 (
        Pop Try.prog (Instr.indexAt 26 out8 x27) fun x41 =>
        Qop Try.prog (Instr.loadAt 23 x41) w7 fun x42 =>
        CallF Try.prog 22 [c11, x42] w7 fun x43 w8 =>
        K3 x43 w8)
       (
        K3 c11 w7))
      (fun c11_1 w9 => ∀ _ : Env,
       Pop Try.prog (binS .add 3 false true x27 (.int .i64 1)) fun x44 =>
       K2 c11_1 x44 w9))
     (
      Pop Try.prog (Instr.fieldAt 40 v10 1) fun x46 =>
      Qop Try.prog (Instr.loadAt 3 x46) w6 fun x47 =>
      Pop Try.prog (Instr.indexAt 23 c11 x47) fun x48 =>
      Qop Try.prog (Instr.loadAt 3 x48) w6 fun x49 =>
      Pop Try.prog (binS .add 3 false true x49 (.int .i64 1)) fun x50 =>
      Pop Try.prog (Instr.indexAt 23 c11 x47) fun x51 =>
      Uop Try.prog (Instr.storeAt 3 x51 x50) w6 fun w10 =>
      Eop Try.prog (Instr.buildSlice 26 1 [(0, c11)].toArray) w10 fun x54 w11 =>
      Eop Try.prog (Builtin.append_ #[26, 26] 26 [out8, x54].toArray) w11 fun x55 w12 =>
      Pop Try.prog (binS .add 3 false true x19 (.int .i64 1)) fun x56 =>
      K1 x55 x56 w12))
    (fun K2 => K2 x25 (.int .i64 0) w5))
   (
    K out8 w2))
  (fun K1 => K1 (.slice none 0 0) (.int .i64 0) w1))
def S10pl : Plans := fun i => match i with
  | 12 => ((.of [(0, []), (1, []), (2, []), (3, []), (4, []), (5, []), (6, []), (7, [])]), [0, 0, 3, 7, 0, 0, 0, 127])
  | _ => (.nil, [])
set_option maxRecDepth 100000 in
theorem S10_eq (l0 of1 stays2 : Value) (w : World) (K : Value → World → Prop) : D Try.prog 58 (S10pl) 64 ((Try.f10.body).getD .skip) [] 64 (retQ Try.prog [.tmp 6] K) [] (env0 [l0, of1, stays2]) w = S10 l0 of1 stays2 w K := by kernel_rfl
set_option maxRecDepth 100000 in
theorem S10_ok (l0 of1 stays2 : Value) (w : World) (K : Value → World → Prop) (h : S10 l0 of1 stays2 w K) : Calls Try.prog 10 [l0, of1, stays2].toArray w (Ret K) :=
  calls_of_D mixed Try.func10 (show _ = some ((Try.f10.body).getD .skip) from by kernel_rfl) (by kernel_rfl) (by kernel_rfl) (by simp) ((S_eq (S10_eq l0 of1 stays2 w K)).mpr h)

set_option maxRecDepth 100000 in
/-- leadline/leadlineref11.Rows -/
def S11 (a0 b1 : Value) (w : World) (K : Value → World → Prop) : Prop :=
 Pop Try.prog (Builtin.len_ #[26] 3 [a0].toArray) fun x7 =>
 Pop Try.prog (Builtin.len_ #[26] 3 [b1].toArray) fun x9 =>
 Pop Try.prog (binS .neq 3 false false x7 x9) fun x10 =>
 CondV x10 (
  K (.bool false) w)
 (
  Loop1 (fun K1 i5 w1 => ∀ _ : Env,
   Pop Try.prog (Builtin.len_ #[26] 3 [a0].toArray) fun x13 =>
   Pop Try.prog (binS .lss 3 false false i5 x13) fun x14 =>
   CondV x14 (
    Pop Try.prog (Instr.indexAt 26 a0 i5) fun x19 =>
    Qop Try.prog (Instr.loadAt 23 x19) (drew w1) fun x20 =>
    Pop Try.prog (Instr.indexAt 26 b1 i5) fun x23 =>
    Qop Try.prog (Instr.loadAt 23 x23) (drew w1) fun x24 =>
    CallF Try.prog 21 [x20, x24] (drew w1) fun x25 w2 =>
    Pop Try.prog (Op.unary .not x25) fun x26 =>
    CondV x26 (
     K (.bool false) w2)
    (
     Pop Try.prog (binS .add 3 false true i5 (.int .i64 1)) fun x16 =>
     K1 x16 w2))
   (
    K (.bool true) w1))
  (fun K1 => K1 (.int .i64 0) w))
def S11pl : Plans := fun i => match i with
  | 6 => ((.of [(0, []), (1, []), (2, []), (3, []), (4, []), (5, []), (6, []), (7, []), (8, []), (9, [])]), [0, 0, 3, 7, 0, 0, 48, 112, 255, 511])
  | _ => (.nil, [])
set_option maxRecDepth 100000 in
theorem S11_eq (a0 b1 : Value) (w : World) (K : Value → World → Prop) : D Try.prog 27 (S11pl) 16 ((Try.f11.body).getD .skip) [] 16 (retQ Try.prog [.tmp 4] K) [] (env0 [a0, b1]) w = S11 a0 b1 w K := by kernel_rfl
set_option maxRecDepth 100000 in
theorem S11_ok (a0 b1 : Value) (w : World) (K : Value → World → Prop) (h : S11 a0 b1 w K) : Calls Try.prog 11 [a0, b1].toArray w (Ret K) :=
  calls_of_D mixed Try.func11 (show _ = some ((Try.f11.body).getD .skip) from by kernel_rfl) (by kernel_rfl) (by kernel_rfl) (by simp) ((S_eq (S11_eq a0 b1 w K)).mpr h)

set_option maxRecDepth 100000 in
/-- leadline/leadlineref16.Clocks -/
def S12 (l0 of1 stays2 : Value) (w : World) (K : Value → World → Prop) : Prop :=
 CallF Try.prog 19 [l0] w fun x14 w1 =>
 Eop Try.prog (Instr.buildSlice 26 0 [].toArray) w1 fun x15 w2 =>
 Pop Try.prog (binS .eql 3 false true x14 (.int .i64 0)) fun x17 =>
 CondV x17 (
  K x15 w2)
 (
  CallF Try.prog 26 [l0, of1, stays2] w2 fun x22 w3 =>
  Loop2 (fun K1 out8 k10 w4 => ∀ _ : Env,
   Pop Try.prog (Builtin.len_ #[22] 3 [l0].toArray) fun x25 =>
   Pop Try.prog (binS .lss 3 false false k10 x25) fun x26 =>
   CondV x26 (
    Eop Try.prog (Instr.makeSlice 23 x14 x14) w4 fun x30 w5 =>
    Loop1 (fun K2 i12 w6 => ∀ _ : Env,
     Pop Try.prog (binS .leq 3 false false i12 k10) fun x33 =>
     CondV x33 (
      Join0 (fun K3 =>
       Join1 (fun K4 =>
        Pop Try.prog (binS .eql 3 false false i12 k10) fun x38 =>
        CondV x38 (
         K4 (.bool true) w6)
        (
         Pop Try.prog (Instr.indexAt 45 x22 k10) fun x42 =>
         Qop Try.prog (Instr.loadAt 47 x42) w6 fun x43 =>
         Pop Try.prog (Instr.indexAt 47 x43 i12) fun x45 =>
         Qop Try.prog (Instr.loadAt 4 x45) w6 fun x46 =>
         K4 x46 w6))
       (fun x47 w7 => ∀ _ : Env,
        CondV x47 (
         Pop Try.prog (Instr.indexAt 22 l0 i12) fun x51 =>
         Pop Try.prog (Instr.fieldAt 40 x51 1) fun x52 =>
         Qop Try.prog (Instr.loadAt 3 x52) (drew w7) fun x53 =>
         Pop Try.prog (Instr.indexAt 22 l0 i12) fun x57 =>
         Pop Try.prog (Instr.fieldAt 40 x57 1) fun x58 =>
         Qop Try.prog (Instr.loadAt 3 x58) (drew w7) fun x59 =>
         Pop Try.prog (Instr.indexAt 23 x30 x59) fun x60 =>
         Qop Try.prog (Instr.loadAt 3 x60) (drew w7) fun x61 =>
         Pop Try.prog (binS .add 3 false true x61 (.int .i64 1)) fun x62 =>
         Pop Try.prog (Instr.indexAt 23 x30 x53) fun x63 =>
         Uop Try.prog (Instr.storeAt 3 x63 x62) (drew w7) fun w8 =>
         K3 w8)
        (
         K3 w7)))
      (fun w9 => ∀ _ : Env,
       Pop Try.prog (binS .add 3 false true i12 (.int .i64 1)) fun x35 =>
       K2 x35 w9))
     (
      Eop Try.prog (Instr.buildSlice 26 1 [(0, x30)].toArray) w6 fun x66 w10 =>
      Eop Try.prog (Builtin.append_ #[26, 26] 26 [out8, x66].toArray) w10 fun x67 w11 =>
      Pop Try.prog (binS .add 3 false true k10 (.int .i64 1)) fun x28 =>
      K1 x67 x28 w11))
    (fun K2 => K2 (.int .i64 0) w5))
   (
    K out8 w4))
  (fun K1 => K1 x15 (.int .i64 0) w3))
def S12pl : Plans := fun i => match i with
  | 13 => ((.of [(0, []), (1, []), (2, []), (3, []), (4, []), (5, []), (6, []), (7, []), (8, []), (9, []), (10, []), (11, []), (12, []), (13, []), (14, []), (15, []), (16, [])]), [0, 0, 0, 6, 14, 30, 0, 0, 0, 384, 896, 1920, 4032, 8128, 16320, 32767, 65535])
  | _ => (.nil, [])
set_option maxRecDepth 100000 in
theorem S12_eq (l0 of1 stays2 : Value) (w : World) (K : Value → World → Prop) : D Try.prog 69 (S12pl) 64 ((Try.f12.body).getD .skip) [] 64 (retQ Try.prog [.tmp 6] K) [] (env0 [l0, of1, stays2]) w = S12 l0 of1 stays2 w K := by kernel_rfl
set_option maxRecDepth 100000 in
theorem S12_ok (l0 of1 stays2 : Value) (w : World) (K : Value → World → Prop) (h : S12 l0 of1 stays2 w K) : Calls Try.prog 12 [l0, of1, stays2].toArray w (Ret K) :=
  calls_of_D mixed Try.func12 (show _ = some ((Try.f12.body).getD .skip) from by kernel_rfl) (by kernel_rfl) (by kernel_rfl) (by simp) ((S_eq (S12_eq l0 of1 stays2 w K)).mpr h)

set_option maxRecDepth 100000 in
/-- leadline/leadlineref16.Pairs -/
def S13 (a0 b1 : Value) (w : World) (K : Value → World → Prop) : Prop :=
 Pop Try.prog (Builtin.len_ #[30] 3 [a0].toArray) fun x7 =>
 Pop Try.prog (Builtin.len_ #[30] 3 [b1].toArray) fun x9 =>
 Pop Try.prog (binS .neq 3 false false x7 x9) fun x10 =>
 CondV x10 (
  K (.bool false) w)
 (
  Loop1 (fun K1 i5 w1 => ∀ _ : Env,
   Pop Try.prog (Builtin.len_ #[30] 3 [a0].toArray) fun x13 =>
   Pop Try.prog (binS .lss 3 false false i5 x13) fun x14 =>
   CondV x14 (
    Pop Try.prog (Instr.indexAt 30 a0 i5) fun x19 =>
    Qop Try.prog (Instr.loadAt 43 x19) (drew w1) fun x20 =>
    Pop Try.prog (Instr.indexAt 30 b1 i5) fun x23 =>
    Qop Try.prog (Instr.loadAt 43 x23) (drew w1) fun x24 =>
    Pop Try.prog (binS .neq 43 false false x20 x24) fun x25 =>
    CondV x25 (
     K (.bool false) (drew w1))
    (
     Pop Try.prog (binS .add 3 false true i5 (.int .i64 1)) fun x16 =>
     K1 x16 (drew w1)))
   (
    K (.bool true) w1))
  (fun K1 => K1 (.int .i64 0) w))
def S13pl : Plans := fun i => match i with
  | 6 => ((.of [(0, []), (1, []), (2, []), (3, []), (4, []), (5, []), (6, []), (7, []), (8, [])]), [0, 0, 3, 7, 0, 0, 48, 112, 255])
  | _ => (.nil, [])
set_option maxRecDepth 100000 in
theorem S13_eq (a0 b1 : Value) (w : World) (K : Value → World → Prop) : D Try.prog 26 (S13pl) 16 ((Try.f13.body).getD .skip) [] 16 (retQ Try.prog [.tmp 4] K) [] (env0 [a0, b1]) w = S13 a0 b1 w K := by kernel_rfl
set_option maxRecDepth 100000 in
theorem S13_ok (a0 b1 : Value) (w : World) (K : Value → World → Prop) (h : S13 a0 b1 w K) : Calls Try.prog 13 [a0, b1].toArray w (Ret K) :=
  calls_of_D mixed Try.func13 (show _ = some ((Try.f13.body).getD .skip) from by kernel_rfl) (by kernel_rfl) (by kernel_rfl) (by simp) ((S_eq (S13_eq a0 b1 w K)).mpr h)

set_option maxRecDepth 100000 in
/-- leadline/clock.Races -/
def S14 (l0 of1 stays2 : Value) (w : World) (K : Value → World → Prop) : Prop :=
 CallF Try.prog 10 [l0, of1, stays2] w fun x16 w1 =>
 Pop Try.prog (binS .eql 26 false true x16 (.slice none 0 0)) fun x18 =>
 CondV x18 (
  K (.slice none 0 0) w1)
 (
  Pop Try.prog (Builtin.len_ #[22] 3 [l0].toArray) fun x20 =>
  Loop2 (fun K1 out8 x21 w2 => ∀ _ : Env,
   Pop Try.prog (binS .lss 3 false false x21 x20) fun x22 =>
   CondV x22 (
    Loop2 (fun K2 out8_1 x25 w3 => ∀ _ : Env,
     Pop Try.prog (binS .lss 3 false false x25 x21) fun x26 =>
     CondV x26 (
      Join1 (fun K3 =>
       Join1 (fun K4 =>
        Pop Try.prog (Instr.indexAt 22 l0 x25) fun x30 =>
        Pop Try.prog (Instr.fieldAt 40 x30 1) fun x31 =>
        Qop Try.prog (Instr.loadAt 3 x31) (drew w3) fun x32 =>
        Pop Try.prog (Instr.indexAt 22 l0 x21) fun x35 =>
        Pop Try.prog (Instr.fieldAt 40 x35 1) fun x36 =>
        Qop Try.prog (Instr.loadAt 3 x36) (drew w3) fun x37 =>
        Pop Try.prog (binS .eql 3 false false x32 x37) fun x38 =>
        CondV x38 (
         K4 (.bool true) (drew w3))
        (
         Pop Try.prog (Instr.indexAt 22 l0 x25) fun x42 =>
         Qop Try.prog (Instr.loadAt 40 x42) (drew w3) fun x43 =>
         Pop Try.prog (Instr.indexAt 22 l0 x21) fun x46 =>
         Qop Try.prog (Instr.loadAt 40 x46) (drew w3) fun x47 =>
         CallF Try.prog 25 [x43, x47, of1, stays2] (drew w3) fun x50 w4 =>
         Pop Try.prog (Op.unary .not x50) fun x51 =>
         K4 x51 w4))
       (fun x52 w5 => ∀ _ : Env,
        CondV x52 (
         K3 out8_1 w5)
        (
         Pop Try.prog (binS .add 3 false true x25 (.int .i64 1)) fun x54 =>
         Loop2 (fun K5 between11 j12 w6 => ∀ _ : Env,
          Pop Try.prog (binS .lss 3 false false j12 x21) fun x57 =>
          CondV x57 (
           Join1 (fun K6 =>
            CondV between11 (
             K6 (.bool true) w6)
            (
             CallF Try.prog 16 [l0, x16, x25, j12] w6 fun x66 w7 =>
             CondV x66 (
              CallF Try.prog 16 [l0, x16, j12, x21] w7 fun x72 w8 =>
              K6 x72 w8)
             (
              K6 (.bool false) w7)))
           (fun between11_1 w9 => ∀ _ : Env,
            Pop Try.prog (binS .add 3 false true j12 (.int .i64 1)) fun x59 =>
            K5 between11_1 x59 w9))
          (
           Pop Try.prog (Op.unary .not between11) fun x76 =>
           CondV x76 (
            Pop Try.prog (Instr.build 43 [(0, x25), (1, x21)].toArray) fun x80 =>
            Eop Try.prog (Instr.buildSlice 30 1 [(0, x80)].toArray) w6 fun x81 w10 =>
            Eop Try.prog (Builtin.append_ #[30, 30] 30 [out8_1, x81].toArray) w10 fun x82 w11 =>
            K3 x82 w11)
           (
            K3 out8_1 w6)))
         (fun K5 => K5 (.bool false) x54 w5))))
      (fun out8_2 w12 => ∀ _ : Env,
       Pop Try.prog (binS .add 3 false true x25 (.int .i64 1)) fun x83 =>
       K2 out8_2 x83 w12))
     (
      Pop Try.prog (binS .add 3 false true x21 (.int .i64 1)) fun x84 =>
      K1 out8_1 x84 w3))
    (fun K2 => K2 out8 (.int .i64 0) w2))
   (
    K out8 w2))
  (fun K1 => K1 (.slice none 0 0) (.int .i64 0) w1))
def S14pl : Plans := fun i => match i with
  | 11 => ((.of [(0, []), (1, []), (2, []), (3, []), (4, []), (5, []), (6, []), (7, []), (8, []), (9, []), (10, []), (11, []), (12, []), (13, []), (14, []), (15, []), (16, []), (17, []), (18, []), (19, []), (20, []), (21, []), (22, []), (23, []), (24, [])]), [0, 0, 3, 7, 15, 0, 0, 96, 224, 480, 1023, 2047, 4095, 4095, 16383, 32767, 4095, 4095, 200703, 462847, 4095, 4095, 4194303, 8388607, 16777215])
  | _ => (.nil, [])
set_option maxRecDepth 100000 in
theorem S14_eq (l0 of1 stays2 : Value) (w : World) (K : Value → World → Prop) : D Try.prog 86 (S14pl) 64 ((Try.f14.body).getD .skip) [] 64 (retQ Try.prog [.tmp 6] K) [] (env0 [l0, of1, stays2]) w = S14 l0 of1 stays2 w K := by kernel_rfl
set_option maxRecDepth 100000 in
theorem S14_ok (l0 of1 stays2 : Value) (w : World) (K : Value → World → Prop) (h : S14 l0 of1 stays2 w K) : Calls Try.prog 14 [l0, of1, stays2].toArray w (Ret K) :=
  calls_of_D mixed Try.func14 (show _ = some ((Try.f14.body).getD .skip) from by kernel_rfl) (by kernel_rfl) (by kernel_rfl) (by simp) ((S_eq (S14_eq l0 of1 stays2 w K)).mpr h)

set_option maxRecDepth 100000 in
/-- leadline/leadlineref16.Races -/
def S15 (l0 of1 stays2 : Value) (w : World) (K : Value → World → Prop) : Prop :=
 Eop Try.prog (Instr.buildSlice 30 0 [].toArray) w fun x13 w1 =>
 CallF Try.prog 19 [l0] w1 fun x15 w2 =>
 Pop Try.prog (binS .eql 3 false true x15 (.int .i64 0)) fun x16 =>
 CondV x16 (
  K x13 w2)
 (
  CallF Try.prog 26 [l0, of1, stays2] w2 fun x21 w3 =>
  Loop2 (fun K1 out7 k9 w4 => ∀ _ : Env,
   Pop Try.prog (Builtin.len_ #[22] 3 [l0].toArray) fun x24 =>
   Pop Try.prog (binS .lss 3 false false k9 x24) fun x25 =>
   CondV x25 (
    Loop2 (fun K2 out7_1 i10 w5 => ∀ _ : Env,
     Pop Try.prog (binS .lss 3 false false i10 k9) fun x30 =>
     CondV x30 (
      Join1 (fun K3 =>
       Join1 (fun K4 =>
        Pop Try.prog (Instr.indexAt 22 l0 i10) fun x35 =>
        Pop Try.prog (Instr.fieldAt 40 x35 1) fun x36 =>
        Qop Try.prog (Instr.loadAt 3 x36) (drew w5) fun x37 =>
        Pop Try.prog (Instr.indexAt 22 l0 k9) fun x40 =>
        Pop Try.prog (Instr.fieldAt 40 x40 1) fun x41 =>
        Qop Try.prog (Instr.loadAt 3 x41) (drew w5) fun x42 =>
        Pop Try.prog (binS .neq 3 false false x37 x42) fun x43 =>
        CondV x43 (
         Pop Try.prog (Instr.indexAt 22 l0 i10) fun x47 =>
         Qop Try.prog (Instr.loadAt 40 x47) (drew w5) fun x48 =>
         Pop Try.prog (Instr.indexAt 22 l0 k9) fun x51 =>
         Qop Try.prog (Instr.loadAt 40 x51) (drew w5) fun x52 =>
         CallF Try.prog 24 [x48, x52, of1, stays2] (drew w5) fun x55 w6 =>
         K4 x55 w6)
        (
         K4 (.bool false) (drew w5)))
       (fun ok11 w7 => ∀ _ : Env,
        Pop Try.prog (binS .add 3 false true i10 (.int .i64 1)) fun x58 =>
        Loop2 (fun K5 ok11_1 j12 w8 => ∀ _ : Env,
         Pop Try.prog (binS .lss 3 false false j12 k9) fun x61 =>
         CondV x61 (
          Join1 (fun K6 =>
           CondV ok11_1 (
            Pop Try.prog (Instr.indexAt 45 x21 j12) fun x68 =>
            Qop Try.prog (Instr.loadAt 47 x68) w8 fun x69 =>
            Pop Try.prog (Instr.indexAt 47 x69 i10) fun x71 =>
            Qop Try.prog (Instr.loadAt 4 x71) w8 fun x72 =>
            CondV x72 (
             Pop Try.prog (Instr.indexAt 45 x21 k9) fun x76 =>
             Qop Try.prog (Instr.loadAt 47 x76) w8 fun x77 =>
             Pop Try.prog (Instr.indexAt 47 x77 j12) fun x79 =>
             Qop Try.prog (Instr.loadAt 4 x79) w8 fun x80 =>
             Pop Try.prog (Op.unary .not x80) fun x82 =>
             K6 x82 w8)
            (
             Pop Try.prog (Op.unary .not (.bool false)) fun x82_1 =>
             K6 x82_1 w8))
           (
            K6 (.bool false) w8))
          (fun ok11_2 w9 => ∀ _ : Env,
           Pop Try.prog (binS .add 3 false true j12 (.int .i64 1)) fun x63 =>
           K5 ok11_2 x63 w9))
         (
          CondV ok11_1 (
           Pop Try.prog (Instr.build 43 [(0, i10), (1, k9)].toArray) fun x88 =>
           Eop Try.prog (Instr.buildSlice 30 1 [(0, x88)].toArray) w8 fun x89 w10 =>
           Eop Try.prog (Builtin.append_ #[30, 30] 30 [out7_1, x89].toArray) w10 fun x90 w11 =>
           K3 x90 w11)
          (
           K3 out7_1 w8)))
        (fun K5 => K5 ok11 x58 w7)))
      (fun out7_2 w12 => ∀ _ : Env,
       Pop Try.prog (binS .add 3 false true i10 (.int .i64 1)) fun x32 =>
       K2 out7_2 x32 w12))
     (
      Pop Try.prog (binS .add 3 false true k9 (.int .i64 1)) fun x27 =>
      K1 out7_1 x27 w5))
    (fun K2 => K2 out7 (.int .i64 0) w4))
   (
    K out7 w4))
  (fun K1 => K1 x13 (.int .i64 0) w3))
def S15pl : Plans := fun i => match i with
  | 11 => ((.of [(0, []), (1, []), (2, []), (3, []), (4, []), (5, []), (6, []), (7, []), (8, []), (9, []), (10, []), (11, []), (12, []), (13, []), (14, []), (15, []), (16, []), (17, []), (18, []), (19, []), (20, []), (21, []), (22, []), (23, []), (24, [])]), [0, 0, 3, 7, 15, 0, 0, 96, 224, 480, 1023, 2047, 4095, 4095, 16383, 32767, 4095, 4095, 200703, 462847, 4095, 4095, 4194303, 8388607, 16777215])
  | _ => (.nil, [])
set_option maxRecDepth 100000 in
theorem S15_eq (l0 of1 stays2 : Value) (w : World) (K : Value → World → Prop) : D Try.prog 92 (S15pl) 64 ((Try.f15.body).getD .skip) [] 64 (retQ Try.prog [.tmp 6] K) [] (env0 [l0, of1, stays2]) w = S15 l0 of1 stays2 w K := by kernel_rfl
set_option maxRecDepth 100000 in
theorem S15_ok (l0 of1 stays2 : Value) (w : World) (K : Value → World → Prop) (h : S15 l0 of1 stays2 w K) : Calls Try.prog 15 [l0, of1, stays2].toArray w (Ret K) :=
  calls_of_D mixed Try.func15 (show _ = some ((Try.f15.body).getD .skip) from by kernel_rfl) (by kernel_rfl) (by kernel_rfl) (by simp) ((S_eq (S15_eq l0 of1 stays2 w K)).mpr h)

set_option maxRecDepth 100000 in
/-- leadline/clock.Before -/
def S16 (l0 clocks1 i2 k3 : Value) (w : World) (K : Value → World → Prop) : Prop :=
 Join1 (fun K1 =>
  Pop Try.prog (binS .lss 3 false true i2 (.int .i64 0)) fun x11 =>
  CondV x11 (
   K1 (.bool true) w)
  (
   Pop Try.prog (binS .geq 3 false false i2 k3) fun x15 =>
   CondV x15 (
    K1 (.bool true) w)
   (
    Pop Try.prog (Builtin.len_ #[22] 3 [l0].toArray) fun x20 =>
    Pop Try.prog (binS .geq 3 false false k3 x20) fun x21 =>
    CondV x21 (
     K1 (.bool true) w)
    (
     Pop Try.prog (Builtin.len_ #[26] 3 [clocks1].toArray) fun x26 =>
     Pop Try.prog (binS .geq 3 false false k3 x26) fun x27 =>
     K1 x27 w))))
 (fun x28 w1 => ∀ _ : Env,
  CondV x28 (
   K (.bool false) w1)
  (
   Pop Try.prog (Instr.indexAt 22 l0 i2) fun x31 =>
   Pop Try.prog (Instr.fieldAt 40 x31 1) fun x32 =>
   Qop Try.prog (Instr.loadAt 3 x32) w1 fun x33 =>
   Join1 (fun K2 =>
    Pop Try.prog (binS .lss 3 false true x33 (.int .i64 0)) fun x35 =>
    CondV x35 (
     K2 (.bool true) w1)
    (
     Pop Try.prog (Instr.indexAt 26 clocks1 i2) fun x40 =>
     Qop Try.prog (Instr.loadAt 23 x40) w1 fun x41 =>
     Pop Try.prog (Builtin.len_ #[23] 3 [x41].toArray) fun x42 =>
     Pop Try.prog (binS .geq 3 false false x33 x42) fun x43 =>
     CondV x43 (
      K2 (.bool true) w1)
     (
      Pop Try.prog (Instr.indexAt 26 clocks1 k3) fun x49 =>
      Qop Try.prog (Instr.loadAt 23 x49) w1 fun x50 =>
      Pop Try.prog (Builtin.len_ #[23] 3 [x50].toArray) fun x51 =>
      Pop Try.prog (binS .geq 3 false false x33 x51) fun x52 =>
      K2 x52 w1)))
   (fun x53 w2 => ∀ _ : Env,
    CondV x53 (
     K (.bool false) w2)
    (
     Pop Try.prog (Instr.indexAt 26 clocks1 k3) fun x56 =>
     Qop Try.prog (Instr.loadAt 23 x56) (drew w2) fun x57 =>
     Pop Try.prog (Instr.indexAt 23 x57 x33) fun x59 =>
     Qop Try.prog (Instr.loadAt 3 x59) (drew w2) fun x60 =>
     Pop Try.prog (Instr.indexAt 26 clocks1 i2) fun x63 =>
     Qop Try.prog (Instr.loadAt 23 x63) (drew w2) fun x64 =>
     Pop Try.prog (Instr.indexAt 23 x64 x33) fun x66 =>
     Qop Try.prog (Instr.loadAt 3 x66) (drew w2) fun x67 =>
     Pop Try.prog (binS .geq 3 false false x60 x67) fun x68 =>
     K x68 (drew w2)))))
def S16pl : Plans := fun i => match i with
  | 6 => ((.of [(0, []), (1, []), (2, []), (3, []), (4, []), (5, []), (6, []), (7, []), (8, []), (9, []), (10, []), (11, []), (12, []), (13, []), (14, []), (15, [])]), [0, 0, 3, 7, 0, 31, 63, 0, 0, 384, 896, 0, 3968, 8064, 16383, 32767])
  | _ => (.nil, [])
set_option maxRecDepth 100000 in
theorem S16_eq (l0 clocks1 i2 k3 : Value) (w : World) (K : Value → World → Prop) : D Try.prog 69 (S16pl) 256 ((Try.f16.body).getD .skip) [] 256 (retQ Try.prog [.tmp 8] K) [] (env0 [l0, clocks1, i2, k3]) w = S16 l0 clocks1 i2 k3 w K := by kernel_rfl
set_option maxRecDepth 100000 in
theorem S16_ok (l0 clocks1 i2 k3 : Value) (w : World) (K : Value → World → Prop) (h : S16 l0 clocks1 i2 k3 w K) : Calls Try.prog 16 [l0, clocks1, i2, k3].toArray w (Ret K) :=
  calls_of_D mixed Try.func16 (show _ = some ((Try.f16.body).getD .skip) from by kernel_rfl) (by kernel_rfl) (by kernel_rfl) (by simp) ((S_eq (S16_eq l0 clocks1 i2 k3 w K)).mpr h)

set_option maxRecDepth 100000 in
/-- leadline/leadlineref16.Before -/
def S17 (l0 clocks1 i2 k3 : Value) (w : World) (K : Value → World → Prop) : Prop :=
 Join1 (fun K1 =>
  Pop Try.prog (binS .lss 3 false true i2 (.int .i64 0)) fun x13 =>
  CondV x13 (
   K1 (.bool true) w)
  (
   Pop Try.prog (Builtin.len_ #[22] 3 [l0].toArray) fun x17 =>
   Pop Try.prog (binS .geq 3 false false k3 x17) fun x18 =>
   CondV x18 (
    K1 (.bool true) w)
   (
    Pop Try.prog (binS .geq 3 false false i2 k3) fun x23 =>
    CondV x23 (
     K1 (.bool true) w)
    (
     Pop Try.prog (Builtin.len_ #[26] 3 [clocks1].toArray) fun x28 =>
     Pop Try.prog (binS .geq 3 false false k3 x28) fun x29 =>
     CondV x29 (
      K1 (.bool true) w)
     (
      Pop Try.prog (Instr.indexAt 22 l0 i2) fun x34 =>
      Pop Try.prog (Instr.fieldAt 40 x34 1) fun x35 =>
      Qop Try.prog (Instr.loadAt 3 x35) w fun x36 =>
      Pop Try.prog (binS .lss 3 false true x36 (.int .i64 0)) fun x37 =>
      K1 x37 w)))))
 (fun x38 w1 => ∀ _ : Env,
  CondV x38 (
   K (.bool false) w1)
  (
   Pop Try.prog (Instr.indexAt 26 clocks1 i2) fun x41 =>
   Qop Try.prog (Instr.loadAt 23 x41) (drew w1) fun x42 =>
   Pop Try.prog (Instr.indexAt 26 clocks1 k3) fun x45 =>
   Qop Try.prog (Instr.loadAt 23 x45) (drew w1) fun x46 =>
   Pop Try.prog (Instr.indexAt 22 l0 i2) fun x49 =>
   Pop Try.prog (Instr.fieldAt 40 x49 1) fun x50 =>
   Qop Try.prog (Instr.loadAt 3 x50) (drew w1) fun x51 =>
   Join1 (fun K2 =>
    Pop Try.prog (Builtin.len_ #[23] 3 [x42].toArray) fun x54 =>
    Pop Try.prog (binS .lss 3 false false x51 x54) fun x55 =>
    CondV x55 (
     Pop Try.prog (Builtin.len_ #[23] 3 [x46].toArray) fun x59 =>
     Pop Try.prog (binS .lss 3 false false x51 x59) fun x60 =>
     CondV x60 (
      Pop Try.prog (Instr.indexAt 23 x46 x51) fun x65 =>
      Qop Try.prog (Instr.loadAt 3 x65) (drew (drew w1)) fun x66 =>
      Pop Try.prog (Instr.indexAt 23 x42 x51) fun x69 =>
      Qop Try.prog (Instr.loadAt 3 x69) (drew (drew w1)) fun x70 =>
      Pop Try.prog (binS .geq 3 false false x66 x70) fun x71 =>
      K2 x71 (drew (drew w1)))
     (
      K2 (.bool false) (drew (drew w1))))
    (
     K2 (.bool false) (drew (drew w1))))
   (fun x8 w2 => ∀ _ : Env,
    K x8 w2)))
def S17pl : Plans := fun i => match i with
  | 3 => ((.of [(0, []), (1, []), (2, []), (3, []), (4, []), (5, []), (6, []), (7, []), (8, []), (9, []), (10, []), (11, []), (12, []), (13, []), (14, []), (15, [])]), [0, 0, 3, 7, 0, 0, 48, 112, 0, 0, 768, 1792, 3840, 15, 8447, 32767])
  | 4 => ((.of [(0, []), (1, []), (2, []), (3, []), (4, []), (5, []), (6, []), (7, []), (8, []), (9, []), (10, []), (11, []), (12, []), (13, []), (14, []), (15, []), (16, []), (17, []), (18, []), (19, []), (20, []), (21, [])]), [0, 0, 2, 7, 15, 31, 31, 95, 255, 511, 1023, 2047, 2047, 8191, 16383, 2047, 2047, 100351, 231423, 524287, 1048575, 2097151])
  | _ => (.nil, [])
set_option maxRecDepth 100000 in
theorem S17_eq (l0 clocks1 i2 k3 : Value) (w : World) (K : Value → World → Prop) : D Try.prog 73 (S17pl) 256 ((Try.f17.body).getD .skip) [] 256 (retQ Try.prog [.tmp 8] K) [] (env0 [l0, clocks1, i2, k3]) w = S17 l0 clocks1 i2 k3 w K := by kernel_rfl
set_option maxRecDepth 100000 in
theorem S17_ok (l0 clocks1 i2 k3 : Value) (w : World) (K : Value → World → Prop) (h : S17 l0 clocks1 i2 k3 w K) : Calls Try.prog 17 [l0, clocks1, i2, k3].toArray w (Ret K) :=
  calls_of_D mixed Try.func17 (show _ = some ((Try.f17.body).getD .skip) from by kernel_rfl) (by kernel_rfl) (by kernel_rfl) (by simp) ((S_eq (S17_eq l0 clocks1 i2 k3 w K)).mpr h)

set_option maxRecDepth 100000 in
/-- leadline/clock.Threads -/
def S18 (l0 : Value) (w : World) (K : Value → World → Prop) : Prop :=
 Pop Try.prog (Builtin.len_ #[22] 3 [l0].toArray) fun x7 =>
 Loop2 (fun K1 n3 x8 w1 => ∀ _ : Env,
  Pop Try.prog (binS .lss 3 false false x8 x7) fun x9 =>
  CondV x9 (
   Pop Try.prog (Instr.indexAt 22 l0 x8) fun x10 =>
   Qop Try.prog (Instr.loadAt 40 x10) w1 fun x11 =>
   Eop Try.prog (Instr.alloc 40 true (.tuple #[])) w1 fun v5 w2 =>
   Uop Try.prog (Instr.storeAt 40 v5 x11) w2 fun w3 =>
   Join1 (fun K2 =>
    Pop Try.prog (Instr.fieldAt 40 v5 1) fun x12 =>
    Qop Try.prog (Instr.loadAt 3 x12) w3 fun x13 =>
    Pop Try.prog (binS .lss 3 false true x13 (.int .i64 0)) fun x14 =>
    CondV x14 (
     K2 (.bool true) w3)
    (
     Pop Try.prog (Instr.fieldAt 40 v5 1) fun x16 =>
     Qop Try.prog (Instr.loadAt 3 x16) w3 fun x17 =>
     Pop Try.prog (binS .geq 3 false true x17 (.int .i64 8)) fun x18 =>
     K2 x18 w3))
   (fun x19 w4 => ∀ _ : Env,
    CondV x19 (
     K (.int .i64 0) w4)
    (
     Pop Try.prog (Instr.fieldAt 40 v5 1) fun x21 =>
     Qop Try.prog (Instr.loadAt 3 x21) w4 fun x22 =>
     Pop Try.prog (binS .add 3 false true x22 (.int .i64 1)) fun x23 =>
     Pop Try.prog (Builtin.max_ #[3, 3] 3 [n3, x23].toArray) fun x24 =>
     Pop Try.prog (binS .add 3 false true x8 (.int .i64 1)) fun x25 =>
     K1 x24 x25 w4)))
  (
   K n3 w1))
 (fun K1 => K1 (.int .i64 0) (.int .i64 0) w)
set_option maxRecDepth 100000 in
theorem S18_eq (l0 : Value) (w : World) (K : Value → World → Prop) : D Try.prog 27 (fun _ => (.nil, [])) 4 ((Try.f18.body).getD .skip) [] 4 (retQ Try.prog [.tmp 2] K) [] (env0 [l0]) w = S18 l0 w K := by kernel_rfl
set_option maxRecDepth 100000 in
theorem S18_ok (l0 : Value) (w : World) (K : Value → World → Prop) (h : S18 l0 w K) : Calls Try.prog 18 [l0].toArray w (Ret K) :=
  calls_of_D mixed Try.func18 (show _ = some ((Try.f18.body).getD .skip) from by kernel_rfl) (by kernel_rfl) (by kernel_rfl) (by simp) ((S_eq (S18_eq l0 w K)).mpr h)

set_option maxRecDepth 100000 in
/-- leadline/leadlineref16.Threads -/
def S19 (l0 : Value) (w : World) (K : Value → World → Prop) : Prop :=
 Loop2 (fun K1 n3 i4 w1 => ∀ _ : Env,
  Pop Try.prog (Builtin.len_ #[22] 3 [l0].toArray) fun x7 =>
  Pop Try.prog (binS .lss 3 false false i4 x7) fun x8 =>
  CondV x8 (
   Join1 (fun K2 =>
    Pop Try.prog (Instr.indexAt 22 l0 i4) fun x13 =>
    Pop Try.prog (Instr.fieldAt 40 x13 1) fun x14 =>
    Qop Try.prog (Instr.loadAt 3 x14) w1 fun x15 =>
    Pop Try.prog (binS .lss 3 false true x15 (.int .i64 0)) fun x16 =>
    CondV x16 (
     K2 (.bool true) w1)
    (
     Pop Try.prog (Instr.indexAt 22 l0 i4) fun x20 =>
     Pop Try.prog (Instr.fieldAt 40 x20 1) fun x21 =>
     Qop Try.prog (Instr.loadAt 3 x21) w1 fun x22 =>
     Pop Try.prog (binS .gtr 3 false true x22 (.int .i64 7)) fun x23 =>
     K2 x23 w1))
   (fun x24 w2 => ∀ _ : Env,
    CondV x24 (
     K (.int .i64 0) w2)
    (
     Pop Try.prog (Instr.indexAt 22 l0 i4) fun x28 =>
     Pop Try.prog (Instr.fieldAt 40 x28 1) fun x29 =>
     Qop Try.prog (Instr.loadAt 3 x29) w2 fun x30 =>
     Pop Try.prog (binS .add 3 false true x30 (.int .i64 1)) fun x31 =>
     Pop Try.prog (Builtin.max_ #[3, 3] 3 [n3, x31].toArray) fun x32 =>
     Pop Try.prog (binS .add 3 false true i4 (.int .i64 1)) fun x10 =>
     K1 x32 x10 w2)))
  (
   K n3 w1))
 (fun K1 => K1 (.int .i64 0) (.int .i64 0) w)
set_option maxRecDepth 100000 in
theorem S19_eq (l0 : Value) (w : World) (K : Value → World → Prop) : D Try.prog 34 (fun _ => (.nil, [])) 4 ((Try.f19.body).getD .skip) [] 4 (retQ Try.prog [.tmp 2] K) [] (env0 [l0]) w = S19 l0 w K := by kernel_rfl
set_option maxRecDepth 100000 in
theorem S19_ok (l0 : Value) (w : World) (K : Value → World → Prop) (h : S19 l0 w K) : Calls Try.prog 19 [l0].toArray w (Ret K) :=
  calls_of_D mixed Try.func19 (show _ = some ((Try.f19.body).getD .skip) from by kernel_rfl) (by kernel_rfl) (by kernel_rfl) (by simp) ((S_eq (S19_eq l0 w K)).mpr h)

set_option maxRecDepth 100000 in
/-- leadline/leadlinelaw16.fixed -/
def S20 (w : World) (K : Value → World → Prop) : Prop :=
 Eop Try.prog (Instr.buildSlice 23 2 [(0, (.int .i64 0)), (1, (.int .i64 1))].toArray) w fun x4 w1 =>
 Pop Try.prog (Instr.build 40 [(0, (.int .i64 12)), (3, (.int .i64 1))].toArray) fun x5 =>
 Pop Try.prog (Instr.build 40 [(0, (.int .i64 12)), (1, (.int .i64 1)), (2, (.int .i64 1))].toArray) fun x6 =>
 Pop Try.prog (Instr.build 40 [(0, (.int .i64 1)), (1, (.int .i64 1)), (3, (.int .i64 1))].toArray) fun x7 =>
 Pop Try.prog (Instr.build 40 [(0, (.int .i64 2))].toArray) fun x8 =>
 Eop Try.prog (Instr.buildSlice 22 4 [(0, x5), (1, x6), (2, x7), (3, x8)].toArray) w1 fun x9 w2 =>
 CallF Try.prog 10 [x9, x4, (.int .i64 2)] w2 fun x12 w3 =>
 Join1 (fun K1 =>
  Eop Try.prog (Instr.buildSlice 23 2 [(0, (.int .i64 1)), (1, (.int .i64 0))].toArray) w3 fun x14 w4 =>
  Eop Try.prog (Instr.buildSlice 23 2 [(0, (.int .i64 0)), (1, (.int .i64 1))].toArray) w4 fun x15 w5 =>
  Eop Try.prog (Instr.buildSlice 23 2 [(0, (.int .i64 1)), (1, (.int .i64 2))].toArray) w5 fun x16 w6 =>
  Eop Try.prog (Instr.buildSlice 23 2 [(0, (.int .i64 2)), (1, (.int .i64 0))].toArray) w6 fun x17 w7 =>
  Eop Try.prog (Instr.buildSlice 26 4 [(0, x14), (1, x15), (2, x16), (3, x17)].toArray) w7 fun x18 w8 =>
  CallF Try.prog 11 [x12, x18] w8 fun x19 w9 =>
  CondV x19 (
   CallF Try.prog 16 [x9, x12, (.int .i64 0), (.int .i64 2)] w9 fun x23 w10 =>
   CondV x23 (
    CallF Try.prog 16 [x9, x12, (.int .i64 0), (.int .i64 1)] w10 fun x28 w11 =>
    Pop Try.prog (Op.unary .not x28) fun x29 =>
    CondV x29 (
     CallF Try.prog 16 [x9, x12, (.int .i64 2), (.int .i64 0)] w11 fun x34 w12 =>
     Pop Try.prog (Op.unary .not x34) fun x35 =>
     CondV x35 (
      CallF Try.prog 14 [x9, x4, (.int .i64 2)] w12 fun x40 w13 =>
      Pop Try.prog (Instr.build 43 [(0, (.int .i64 0)), (1, (.int .i64 2))].toArray) fun x41 =>
      Eop Try.prog (Instr.buildSlice 30 1 [(0, x41)].toArray) w13 fun x42 w14 =>
      CallF Try.prog 13 [x40, x42] w14 fun x43 w15 =>
      CondV x43 (
       Eop Try.prog (Instr.buildSlice 23 2 [(0, (.int .i64 1)), (1, (.int .i64 5))].toArray) w15 fun x46 w16 =>
       Eop Try.prog (Instr.buildSlice 23 1 [(0, (.int .i64 3))].toArray) w16 fun x47 w17 =>
       CallF Try.prog 22 [x46, x47] w17 fun x48 w18 =>
       Eop Try.prog (Instr.buildSlice 23 2 [(0, (.int .i64 3)), (1, (.int .i64 5))].toArray) w18 fun x49 w19 =>
       CallF Try.prog 21 [x48, x49] w19 fun x50 w20 =>
       CondV x50 (
        CallF Try.prog 18 [x9] w20 fun x54 w21 =>
        Pop Try.prog (binS .eql 3 false true x54 (.int .i64 2)) fun x55 =>
        CondV x55 (
         Pop Try.prog (Instr.build 40 [(1, (.int .i64 8))].toArray) fun x58 =>
         Eop Try.prog (Instr.buildSlice 22 1 [(0, x58)].toArray) w21 fun x59 w22 =>
         CallF Try.prog 18 [x59] w22 fun x60 w23 =>
         Pop Try.prog (binS .eql 3 false true x60 (.int .i64 0)) fun x61 =>
         CondV x61 (
          Pop Try.prog (Instr.build 40 [(1, (.int .i64 (-1)))].toArray) fun x64 =>
          Eop Try.prog (Instr.buildSlice 22 1 [(0, x64)].toArray) w23 fun x65 w24 =>
          CallF Try.prog 10 [x65, x4, (.int .i64 2)] w24 fun x67 w25 =>
          Pop Try.prog (Builtin.len_ #[26] 3 [x67].toArray) fun x68 =>
          Pop Try.prog (binS .eql 3 false true x68 (.int .i64 0)) fun x69 =>
          K1 x69 w25)
         (
          K1 (.bool false) w23))
        (
         K1 (.bool false) w21))
       (
        K1 (.bool false) w20))
      (
       K1 (.bool false) w15))
     (
      K1 (.bool false) w12))
    (
     K1 (.bool false) w11))
   (
    K1 (.bool false) w10))
  (
   K1 (.bool false) w9))
 (fun x0 w26 => ∀ _ : Env,
  K x0 w26)
set_option maxRecDepth 100000 in
theorem S20_eq (w : World) (K : Value → World → Prop) : D Try.prog 71 (fun _ => (.nil, [])) 1 ((Try.f20.body).getD .skip) [] 1 (retQ Try.prog [.tmp 0] K) [] (env0 []) w = S20 w K := by kernel_rfl
set_option maxRecDepth 100000 in
theorem S20_ok (w : World) (K : Value → World → Prop) (h : S20 w K) : Calls Try.prog 20 [].toArray w (Ret K) :=
  calls_of_D mixed Try.func20 (show _ = some ((Try.f20.body).getD .skip) from by kernel_rfl) (by kernel_rfl) (by kernel_rfl) (by simp) ((S_eq (S20_eq w K)).mpr h)

set_option maxRecDepth 100000 in
/-- leadline/leadlineref06.Ints -/
def S21 (a0 b1 : Value) (w : World) (K : Value → World → Prop) : Prop :=
 Pop Try.prog (Builtin.len_ #[23] 3 [a0].toArray) fun x7 =>
 Pop Try.prog (Builtin.len_ #[23] 3 [b1].toArray) fun x9 =>
 Pop Try.prog (binS .neq 3 false false x7 x9) fun x10 =>
 CondV x10 (
  K (.bool false) w)
 (
  Loop1 (fun K1 i5 w1 => ∀ _ : Env,
   Pop Try.prog (Builtin.len_ #[23] 3 [a0].toArray) fun x13 =>
   Pop Try.prog (binS .lss 3 false false i5 x13) fun x14 =>
   CondV x14 (
    Pop Try.prog (Instr.indexAt 23 a0 i5) fun x19 =>
    Qop Try.prog (Instr.loadAt 3 x19) (drew w1) fun x20 =>
    Pop Try.prog (Instr.indexAt 23 b1 i5) fun x23 =>
    Qop Try.prog (Instr.loadAt 3 x23) (drew w1) fun x24 =>
    Pop Try.prog (binS .neq 3 false false x20 x24) fun x25 =>
    CondV x25 (
     K (.bool false) (drew w1))
    (
     Pop Try.prog (binS .add 3 false true i5 (.int .i64 1)) fun x16 =>
     K1 x16 (drew w1)))
   (
    K (.bool true) w1))
  (fun K1 => K1 (.int .i64 0) w))
def S21pl : Plans := fun i => match i with
  | 6 => ((.of [(0, []), (1, []), (2, []), (3, []), (4, []), (5, []), (6, []), (7, []), (8, [])]), [0, 0, 3, 7, 0, 0, 48, 112, 255])
  | _ => (.nil, [])
set_option maxRecDepth 100000 in
theorem S21_eq (a0 b1 : Value) (w : World) (K : Value → World → Prop) : D Try.prog 26 (S21pl) 16 ((Try.f21.body).getD .skip) [] 16 (retQ Try.prog [.tmp 4] K) [] (env0 [a0, b1]) w = S21 a0 b1 w K := by kernel_rfl
set_option maxRecDepth 100000 in
theorem S21_ok (a0 b1 : Value) (w : World) (K : Value → World → Prop) (h : S21 a0 b1 w K) : Calls Try.prog 21 [a0, b1].toArray w (Ret K) :=
  calls_of_D mixed Try.func21 (show _ = some ((Try.f21.body).getD .skip) from by kernel_rfl) (by kernel_rfl) (by kernel_rfl) (by simp) ((S_eq (S21_eq a0 b1 w K)).mpr h)

set_option maxRecDepth 100000 in
/-- leadline/clock.Join -/
def S22 (a0 b1 : Value) (w : World) (K : Value → World → Prop) : Prop :=
 CallF Try.prog 27 [a0, b1] w fun x7 w1 =>
 K x7 w1
set_option maxRecDepth 100000 in
theorem S22_eq (a0 b1 : Value) (w : World) (K : Value → World → Prop) : D Try.prog 8 (fun _ => (.nil, [])) 16 ((Try.f22.body).getD .skip) [] 16 (retQ Try.prog [.tmp 4] K) [] (env0 [a0, b1]) w = S22 a0 b1 w K := by kernel_rfl
set_option maxRecDepth 100000 in
theorem S22_ok (a0 b1 : Value) (w : World) (K : Value → World → Prop) (h : S22 a0 b1 w K) : Calls Try.prog 22 [a0, b1].toArray w (Ret K) :=
  calls_of_D mixed Try.func22 (show _ = some ((Try.f22.body).getD .skip) from by kernel_rfl) (by kernel_rfl) (by kernel_rfl) (by simp) ((S_eq (S22_eq a0 b1 w K)).mpr h)

set_option maxRecDepth 100000 in
/-- leadline/leadlineref16.Join -/
def S23 (a0 b1 : Value) (w : World) (K : Value → World → Prop) : Prop :=
 Eop Try.prog (Instr.buildSlice 23 0 [].toArray) w fun x9 w1 =>
 Loop2 (fun K1 out5 i6 w2 => ∀ _ : Env,
  Join1 (fun K2 =>
   Pop Try.prog (Builtin.len_ #[23] 3 [a0].toArray) fun x12 =>
   Pop Try.prog (binS .lss 3 false false i6 x12) fun x13 =>
   CondV x13 (
    K2 (.bool true) w2)
   (
    Pop Try.prog (Builtin.len_ #[23] 3 [b1].toArray) fun x17 =>
    Pop Try.prog (binS .lss 3 false false i6 x17) fun x18 =>
    K2 x18 w2))
  (fun x19 w3 => ∀ _ : Env,
   CondV x19 (
    Join1 (fun K3 =>
     Join1 (fun K4 =>
      Pop Try.prog (Builtin.len_ #[23] 3 [a0].toArray) fun x24 =>
      Pop Try.prog (binS .lss 3 false false i6 x24) fun x25 =>
      CondV x25 (
       Pop Try.prog (Instr.indexAt 23 a0 i6) fun x28 =>
       Qop Try.prog (Instr.loadAt 3 x28) w3 fun x29 =>
       K4 x29 w3)
      (
       K4 (.int .i64 0) w3))
     (fun x7 w4 => ∀ _ : Env,
      Join1 (fun K5 =>
       Pop Try.prog (Builtin.len_ #[23] 3 [b1].toArray) fun x32 =>
       Pop Try.prog (binS .lss 3 false false i6 x32) fun x33 =>
       CondV x33 (
        Pop Try.prog (Instr.indexAt 23 b1 i6) fun x36 =>
        Qop Try.prog (Instr.loadAt 3 x36) w4 fun x37 =>
        K5 x37 w4)
       (
        K5 (.int .i64 0) w4))
      (fun y8 w5 => ∀ _ : Env,
       Join1 (fun K6 =>
        Pop Try.prog (Builtin.len_ #[23] 3 [a0].toArray) fun x40 =>
        Pop Try.prog (binS .lss 3 false false i6 x40) fun x41 =>
        CondV x41 (
         Pop Try.prog (Builtin.len_ #[23] 3 [b1].toArray) fun x45 =>
         Pop Try.prog (binS .lss 3 false false i6 x45) fun x46 =>
         K6 x46 w5)
        (
         K6 (.bool false) w5))
       (fun x47 w6 => ∀ _ : Env,
        CondV x47 (
         Pop Try.prog (Builtin.max_ #[3, 3] 3 [x7, y8].toArray) fun x51 =>
         Eop Try.prog (Instr.buildSlice 23 1 [(0, x51)].toArray) w6 fun x52 w7 =>
         Eop Try.prog (Builtin.append_ #[23, 23] 23 [out5, x52].toArray) w7 fun x53 w8 =>
         K3 x53 w8)
        (
         Pop Try.prog (binS .add 3 false false x7 y8) fun x57 =>
         Eop Try.prog (Instr.buildSlice 23 1 [(0, x57)].toArray) w6 fun x58 w9 =>
         Eop Try.prog (Builtin.append_ #[23, 23] 23 [out5, x58].toArray) w9 fun x59 w10 =>
         K3 x59 w10)))))
    (fun out5_1 w11 => ∀ _ : Env,
     Pop Try.prog (binS .add 3 false true i6 (.int .i64 1)) fun x21 =>
     K1 out5_1 x21 w11))
   (
    K out5 w3)))
 (fun K1 => K1 x9 (.int .i64 0) w1)
set_option maxRecDepth 100000 in
theorem S23_eq (a0 b1 : Value) (w : World) (K : Value → World → Prop) : D Try.prog 61 (fun _ => (.nil, [])) 16 ((Try.f23.body).getD .skip) [] 16 (retQ Try.prog [.tmp 4] K) [] (env0 [a0, b1]) w = S23 a0 b1 w K := by kernel_rfl
set_option maxRecDepth 100000 in
theorem S23_ok (a0 b1 : Value) (w : World) (K : Value → World → Prop) (h : S23 a0 b1 w K) : Calls Try.prog 23 [a0, b1].toArray w (Ret K) :=
  calls_of_D mixed Try.func23 (show _ = some ((Try.f23.body).getD .skip) from by kernel_rfl) (by kernel_rfl) (by kernel_rfl) (by simp) ((S_eq (S23_eq a0 b1 w K)).mpr h)

set_option maxRecDepth 100000 in
/-- leadline/leadlineref15.Depend -/
def S24 (a0 b1 of2 stays3 : Value) (w : World) (K : Value → World → Prop) : Prop :=
 Eop Try.prog (Instr.box 40 a0) w fun a4 w1 =>
 Eop Try.prog (Instr.box 40 b1) w1 fun b5 w2 =>
 Join1 (fun K1 =>
  Pop Try.prog (Instr.fieldAt 40 a4 1) fun x13 =>
  Qop Try.prog (Instr.loadAt 3 x13) w2 fun x14 =>
  Pop Try.prog (Instr.fieldAt 40 b5 1) fun x15 =>
  Qop Try.prog (Instr.loadAt 3 x15) w2 fun x16 =>
  Pop Try.prog (binS .eql 3 false false x14 x16) fun x17 =>
  CondV x17 (
   K1 (.bool true) w2)
  (
   Pop Try.prog (Instr.fieldAt 40 a4 0) fun x19 =>
   Qop Try.prog (Instr.loadAt 3 x19) w2 fun x20 =>
   Pop Try.prog (binS .geq 3 false true x20 (.int .i64 15)) fun x21 =>
   CondV x21 (
    Pop Try.prog (Instr.fieldAt 40 a4 0) fun x23 =>
    Qop Try.prog (Instr.loadAt 3 x23) w2 fun x24 =>
    Pop Try.prog (binS .leq 3 false true x24 (.int .i64 16)) fun x25 =>
    CondV x25 (
     K1 (.bool true) w2)
    (
     Pop Try.prog (Instr.fieldAt 40 b5 0) fun x29 =>
     Qop Try.prog (Instr.loadAt 3 x29) w2 fun x30 =>
     Pop Try.prog (binS .geq 3 false true x30 (.int .i64 15)) fun x31 =>
     CondV x31 (
      Pop Try.prog (Instr.fieldAt 40 b5 0) fun x33 =>
      Qop Try.prog (Instr.loadAt 3 x33) w2 fun x34 =>
      Pop Try.prog (binS .leq 3 false true x34 (.int .i64 16)) fun x35 =>
      K1 x35 w2)
     (
      K1 (.bool false) w2)))
   (
    Pop Try.prog (Instr.fieldAt 40 b5 0) fun x29_1 =>
    Qop Try.prog (Instr.loadAt 3 x29_1) w2 fun x30_1 =>
    Pop Try.prog (binS .geq 3 false true x30_1 (.int .i64 15)) fun x31_1 =>
    CondV x31_1 (
     Pop Try.prog (Instr.fieldAt 40 b5 0) fun x33_1 =>
     Qop Try.prog (Instr.loadAt 3 x33_1) w2 fun x34_1 =>
     Pop Try.prog (binS .leq 3 false true x34_1 (.int .i64 16)) fun x35_1 =>
     K1 x35_1 w2)
    (
     K1 (.bool false) w2))))
 (fun x37 w3 => ∀ _ : Env,
  CondV x37 (
   K (.bool true) w3)
  (
   Qop Try.prog (Instr.loadAt 40 a4) (drew w3) fun x38 =>
   Qop Try.prog (Instr.loadAt 40 b5) (drew w3) fun x42 =>
   CallF Try.prog 28 [x38, of2, stays3] (drew w3) fun x41 w4 =>
   KeepAnd Try.prog (Instr.loadAt 40 b5) x42 w4 (
   CallF Try.prog 28 [x42, of2, stays3] w4 fun x45 w5 =>
   Loop1 (fun K2 i11 w6 => ∀ _ : Env,
    Pop Try.prog (Builtin.len_ #[48] 3 [x41].toArray) fun x48 =>
    Pop Try.prog (binS .lss 3 false false i11 x48) fun x49 =>
    CondV x49 (
     Loop1 (fun K3 k12 w7 => ∀ _ : Env,
      Pop Try.prog (Builtin.len_ #[48] 3 [x45].toArray) fun x54 =>
      Pop Try.prog (binS .lss 3 false false k12 x54) fun x55 =>
      CondV x55 (
       Pop Try.prog (Instr.indexAt 48 x41 i11) fun x60 =>
       Qop Try.prog (Instr.loadAt 52 x60) (drew w7) fun x61 =>
       Pop Try.prog (Instr.indexAt 48 x45 k12) fun x64 =>
       Qop Try.prog (Instr.loadAt 52 x64) (drew w7) fun x65 =>
       CallF Try.prog 29 [x61, x65] (drew w7) fun x66 w8 =>
       CondV x66 (
        K (.bool true) w8)
       (
        Pop Try.prog (binS .add 3 false true k12 (.int .i64 1)) fun x57 =>
        K3 x57 w8))
      (
       Pop Try.prog (binS .add 3 false true i11 (.int .i64 1)) fun x51 =>
       K2 x51 w7))
     (fun K3 => K3 (.int .i64 0) w6))
    (
     K (.bool false) w6))
   (fun K2 => K2 (.int .i64 0) w5))))
def S24pl : Plans := fun i => match i with
  | 3 => ((.of [(0, []), (1, []), (2, []), (4, []), (5, []), (6, []), (3, [4]), (7, []), (8, []), (9, [])]), [0, 0, 0, 7, 0, 0, 0, 127, 255, 511])
  | 10 => ((.of [(0, []), (1, []), (2, []), (3, []), (4, []), (5, []), (6, []), (7, []), (8, [])]), [0, 0, 3, 7, 0, 0, 48, 112, 255])
  | _ => (.nil, [])
set_option maxRecDepth 100000 in
theorem S24_eq (a0 b1 of2 stays3 : Value) (w : World) (K : Value → World → Prop) : D Try.prog 67 (S24pl) 256 ((Try.f24.body).getD .skip) [] 256 (retQ Try.prog [.tmp 8] K) [] (env0 [a0, b1, of2, stays3]) w = S24 a0 b1 of2 stays3 w K := by kernel_rfl
set_option maxRecDepth 100000 in
theorem S24_ok (a0 b1 of2 stays3 : Value) (w : World) (K : Value → World → Prop) (h : S24 a0 b1 of2 stays3 w K) : Calls Try.prog 24 [a0, b1, of2, stays3].toArray w (Ret K) :=
  calls_of_D mixed Try.func24 (show _ = some ((Try.f24.body).getD .skip) from by kernel_rfl) (by kernel_rfl) (by kernel_rfl) (by simp) ((S_eq (S24_eq a0 b1 of2 stays3 w K)).mpr h)

set_option maxRecDepth 100000 in
/-- leadline/event.Depend -/
def S25 (a0 b1 of2 stays3 : Value) (w : World) (K : Value → World → Prop) : Prop :=
 Eop Try.prog (Instr.box 40 a0) w fun a4 w1 =>
 Eop Try.prog (Instr.box 40 b1) w1 fun b5 w2 =>
 Join1 (fun K1 =>
  Pop Try.prog (Instr.fieldAt 40 a4 1) fun x10 =>
  Qop Try.prog (Instr.loadAt 3 x10) w2 fun x11 =>
  Pop Try.prog (Instr.fieldAt 40 b5 1) fun x12 =>
  Qop Try.prog (Instr.loadAt 3 x12) w2 fun x13 =>
  Pop Try.prog (binS .eql 3 false false x11 x13) fun x14 =>
  CondV x14 (
   K1 (.bool true) w2)
  (
   Qop Try.prog (Instr.loadAt 40 a4) w2 fun x16 =>
   CallF Try.prog 30 [x16] w2 fun x17 w3 =>
   CondV x17 (
    K1 (.bool true) w3)
   (
    Qop Try.prog (Instr.loadAt 40 b5) w3 fun x20 =>
    CallF Try.prog 30 [x20] w3 fun x21 w4 =>
    K1 x21 w4)))
 (fun x22 w5 => ∀ _ : Env,
  CondV x22 (
   K (.bool true) w5)
  (
   Qop Try.prog (Instr.loadAt 40 b5) w5 fun x23 =>
   CallF Try.prog 31 [x23, of2, stays3] w5 fun x26 w6 =>
   Eop Try.prog (Instr.alloc 48 true (.tuple #[])) w6 fun theirs9 w7 =>
   Uop Try.prog (Instr.storeAt 48 theirs9 x26) w7 fun w8 =>
   Qop Try.prog (Instr.loadAt 40 a4) w8 fun x27 =>
   CallF Try.prog 31 [x27, of2, stays3] w8 fun x30 w9 =>
   CallF Try.prog 32 [x30, (.func (Go.Fn.func 33) [].toArray [theirs9].toArray)] w9 fun x32 w10 =>
   K x32 w10))
set_option maxRecDepth 100000 in
theorem S25_eq (a0 b1 of2 stays3 : Value) (w : World) (K : Value → World → Prop) : D Try.prog 33 (fun _ => (.nil, [])) 256 ((Try.f25.body).getD .skip) [] 256 (retQ Try.prog [.tmp 8] K) [] (env0 [a0, b1, of2, stays3]) w = S25 a0 b1 of2 stays3 w K := by kernel_rfl
set_option maxRecDepth 100000 in
theorem S25_ok (a0 b1 of2 stays3 : Value) (w : World) (K : Value → World → Prop) (h : S25 a0 b1 of2 stays3 w K) : Calls Try.prog 25 [a0, b1, of2, stays3].toArray w (Ret K) :=
  calls_of_D mixed Try.func25 (show _ = some ((Try.f25.body).getD .skip) from by kernel_rfl) (by kernel_rfl) (by kernel_rfl) (by simp) ((S_eq (S25_eq a0 b1 of2 stays3 w K)).mpr h)

set_option maxRecDepth 100000 in
/-- leadline/leadlineref16.Happened -/
def S26 (l0 of1 stays2 : Value) (w : World) (K : Value → World → Prop) : Prop :=
 Eop Try.prog (Instr.buildSlice 45 0 [].toArray) w fun x12 w1 =>
 Loop2 (fun K1 out7 k8 w2 => ∀ _ : Env,
  Pop Try.prog (Builtin.len_ #[22] 3 [l0].toArray) fun x15 =>
  Pop Try.prog (binS .lss 3 false false k8 x15) fun x16 =>
  CondV x16 (
   Pop Try.prog (Builtin.len_ #[22] 3 [l0].toArray) fun x20 =>
   Eop Try.prog (Instr.makeSlice 47 x20 x20) w2 fun x21 w3 =>
   Loop1 (fun K2 i10 w4 => ∀ _ : Env,
    Pop Try.prog (binS .lss 3 false false i10 k8) fun x24 =>
    CondV x24 (
     Join0 (fun K3 =>
      Pop Try.prog (Instr.indexAt 22 l0 i10) fun x29 =>
      Qop Try.prog (Instr.loadAt 40 x29) (drew w4) fun x30 =>
      Pop Try.prog (Instr.indexAt 22 l0 k8) fun x33 =>
      Qop Try.prog (Instr.loadAt 40 x33) (drew w4) fun x34 =>
      CallF Try.prog 24 [x30, x34, of1, stays2] (drew w4) fun x37 w5 =>
      CondV x37 (
       Pop Try.prog (Instr.indexAt 47 x21 i10) fun x40 =>
       Uop Try.prog (Instr.storeAt 4 x40 (.bool true)) w5 fun w6 =>
       Loop1 (fun K4 j11 w7 => ∀ _ : Env,
        Pop Try.prog (binS .lss 3 false false j11 i10) fun x43 =>
        CondV x43 (
         Join0 (fun K5 =>
          Pop Try.prog (Instr.indexAt 47 x21 j11) fun x50 =>
          Qop Try.prog (Instr.loadAt 4 x50) w7 fun x51 =>
          CondV x51 (
           Pop Try.prog (Instr.indexAt 47 x21 j11) fun x61 =>
           Uop Try.prog (Instr.storeAt 4 x61 (.bool true)) w7 fun w8 =>
           K5 w8)
          (
           Pop Try.prog (Instr.indexAt 45 out7 i10) fun x55 =>
           Qop Try.prog (Instr.loadAt 47 x55) w7 fun x56 =>
           Pop Try.prog (Instr.indexAt 47 x56 j11) fun x58 =>
           Qop Try.prog (Instr.loadAt 4 x58) w7 fun x59 =>
           Pop Try.prog (Instr.indexAt 47 x21 j11) fun x61_1 =>
           Uop Try.prog (Instr.storeAt 4 x61_1 x59) w7 fun w9 =>
           K5 w9))
         (fun w10 => ∀ _ : Env,
          Pop Try.prog (binS .add 3 false true j11 (.int .i64 1)) fun x45 =>
          K4 x45 w10))
        (
         K3 w7))
       (fun K4 => K4 (.int .i64 0) w6))
      (
       K3 w5))
     (fun w11 => ∀ _ : Env,
      Pop Try.prog (binS .add 3 false true i10 (.int .i64 1)) fun x26 =>
      K2 x26 w11))
    (
     Eop Try.prog (Instr.buildSlice 45 1 [(0, x21)].toArray) w4 fun x64 w12 =>
     Eop Try.prog (Builtin.append_ #[45, 45] 45 [out7, x64].toArray) w12 fun x65 w13 =>
     Pop Try.prog (binS .add 3 false true k8 (.int .i64 1)) fun x18 =>
     K1 x65 x18 w13))
   (fun K2 => K2 (.int .i64 0) w3))
  (
   K out7 w2))
 (fun K1 => K1 x12 (.int .i64 0) w1)
def S26pl : Plans := fun i => match i with
  | 9 => ((.of [(0, []), (1, []), (2, []), (3, []), (4, []), (5, []), (6, []), (7, []), (8, []), (9, []), (10, [])]), [0, 0, 3, 7, 0, 0, 48, 112, 0, 0, 1023])
  | _ => (.nil, [])
set_option maxRecDepth 100000 in
theorem S26_eq (l0 of1 stays2 : Value) (w : World) (K : Value → World → Prop) : D Try.prog 67 (S26pl) 64 ((Try.f26.body).getD .skip) [] 64 (retQ Try.prog [.tmp 6] K) [] (env0 [l0, of1, stays2]) w = S26 l0 of1 stays2 w K := by kernel_rfl
set_option maxRecDepth 100000 in
theorem S26_ok (l0 of1 stays2 : Value) (w : World) (K : Value → World → Prop) (h : S26 l0 of1 stays2 w K) : Calls Try.prog 26 [l0, of1, stays2].toArray w (Ret K) :=
  calls_of_D mixed Try.func26 (show _ = some ((Try.f26.body).getD .skip) from by kernel_rfl) (by kernel_rfl) (by kernel_rfl) (by simp) ((S_eq (S26_eq l0 of1 stays2 w K)).mpr h)

set_option maxRecDepth 100000 in
/-- leadline/clock.greater[int] -/
def S27 (a0 b1 : Value) (w : World) (K : Value → World → Prop) : Prop :=
 Join2 (fun K1 =>
  Pop Try.prog (Builtin.len_ #[23] 3 [a0].toArray) fun x9 =>
  Pop Try.prog (Builtin.len_ #[23] 3 [b1].toArray) fun x11 =>
  Pop Try.prog (binS .lss 3 false false x9 x11) fun x12 =>
  CondV x12 (
   K1 b1 a0 w)
  (
   K1 a0 b1 w))
 (fun a0_1 b1_1 w1 => ∀ _ : Env,
  CallF Try.prog 36 [a0_1] w1 fun x16 w2 =>
  Pop Try.prog (Builtin.len_ #[23] 3 [b1_1].toArray) fun x18 =>
  Loop1 (fun K2 x19 w3 => ∀ _ : Env,
   Pop Try.prog (binS .lss 3 false false x19 x18) fun x20 =>
   CondV x20 (
    Pop Try.prog (Instr.indexAt 23 b1_1 x19) fun x22 =>
    Qop Try.prog (Instr.loadAt 3 x22) w3 fun x23 =>
    Pop Try.prog (Instr.indexAt 23 x16 x19) fun x28 =>
    Qop Try.prog (Instr.loadAt 3 x28) w3 fun x29 =>
    Pop Try.prog (Builtin.max_ #[3, 3] 3 [x29, x23].toArray) fun x31 =>
    Pop Try.prog (Instr.indexAt 23 x16 x19) fun x32 =>
    Uop Try.prog (Instr.storeAt 3 x32 x31) w3 fun w4 =>
    Pop Try.prog (binS .add 3 false true x19 (.int .i64 1)) fun x33 =>
    K2 x33 w4)
   (
    K x16 w3))
  (fun K2 => K2 (.int .i64 0) w2))
set_option maxRecDepth 100000 in
theorem S27_eq (a0 b1 : Value) (w : World) (K : Value → World → Prop) : D Try.prog 35 (fun _ => (.nil, [])) 16 ((Try.f27.body).getD .skip) [] 16 (retQ Try.prog [.tmp 4] K) [] (env0 [a0, b1]) w = S27 a0 b1 w K := by kernel_rfl
set_option maxRecDepth 100000 in
theorem S27_ok (a0 b1 : Value) (w : World) (K : Value → World → Prop) (h : S27 a0 b1 w K) : Calls Try.prog 27 [a0, b1].toArray w (Ret K) :=
  calls_of_D mixed Try.func27 (show _ = some ((Try.f27.body).getD .skip) from by kernel_rfl) (by kernel_rfl) (by kernel_rfl) (by simp) ((S_eq (S27_eq a0 b1 w K)).mpr h)

set_option maxRecDepth 100000 in
/-- leadline/leadlineref15.Uses -/
def S28 (v0 of1 stays2 : Value) (w : World) (K : Value → World → Prop) : Prop :=
 Eop Try.prog (Instr.box 40 v0) w fun v3 w1 =>
 Pop Try.prog (Instr.fieldAt 40 v3 0) fun x8 =>
 Qop Try.prog (Instr.loadAt 3 x8) w1 fun x9 =>
 Join1 (fun K1 =>
  Pop Try.prog (binS .eql 3 false true x9 (.int .i64 1)) fun x11 =>
  CondV x11 (
   K1 x11 w1)
  (
   Pop Try.prog (binS .eql 3 false true x9 (.int .i64 9)) fun x12 =>
   K1 x12 w1))
 (fun x10 w2 => ∀ _ : Env,
  CondV x10 (
   Pop Try.prog (Instr.fieldAt 40 v3 2) fun x13 =>
   Qop Try.prog (Instr.loadAt 3 x13) w2 fun x14 =>
   Pop Try.prog (Instr.build 52 [(0, (.int .i64 1)), (1, x14)].toArray) fun x15 =>
   Eop Try.prog (Instr.buildSlice 48 1 [(0, x15)].toArray) w2 fun x16 w3 =>
   K x16 w3)
  (
   Join1 (fun K2 =>
    Pop Try.prog (binS .eql 3 false true x9 (.int .i64 8)) fun x18 =>
    CondV x18 (
     K2 x18 w2)
    (
     Pop Try.prog (binS .eql 3 false true x9 (.int .i64 12)) fun x19 =>
     K2 x19 w2))
   (fun x17 w4 => ∀ _ : Env,
    CondV x17 (
     Pop Try.prog (Instr.fieldAt 40 v3 2) fun x20 =>
     Qop Try.prog (Instr.loadAt 3 x20) w4 fun x21 =>
     Pop Try.prog (Instr.build 52 [(0, (.int .i64 1)), (1, x21), (2, (.bool true))].toArray) fun x22 =>
     Eop Try.prog (Instr.buildSlice 48 1 [(0, x22)].toArray) w4 fun x23 w5 =>
     Join1 (fun K3 =>
      Join1 (fun K4 =>
       Pop Try.prog (Instr.fieldAt 40 v3 2) fun x24 =>
       Qop Try.prog (Instr.loadAt 3 x24) w5 fun x25 =>
       Pop Try.prog (binS .geq 3 false true x25 (.int .i64 0)) fun x26 =>
       CondV x26 (
        Pop Try.prog (Instr.fieldAt 40 v3 2) fun x28 =>
        Qop Try.prog (Instr.loadAt 3 x28) w5 fun x29 =>
        Pop Try.prog (binS .lss 3 false false x29 stays2) fun x31 =>
        CondV x31 (
         Pop Try.prog (Instr.fieldAt 40 v3 2) fun x34 =>
         Qop Try.prog (Instr.loadAt 3 x34) w5 fun x35 =>
         Pop Try.prog (Builtin.len_ #[23] 3 [of1].toArray) fun x37 =>
         Pop Try.prog (binS .lss 3 false false x35 x37) fun x38 =>
         K4 x38 w5)
        (
         K4 (.bool false) w5))
       (
        K4 (.bool false) w5))
      (fun x39 w6 => ∀ _ : Env,
       CondV x39 (
        Pop Try.prog (Instr.fieldAt 40 v3 2) fun x42 =>
        Qop Try.prog (Instr.loadAt 3 x42) w6 fun x43 =>
        Pop Try.prog (Instr.indexAt 23 of1 x43) fun x44 =>
        Qop Try.prog (Instr.loadAt 3 x44) w6 fun x45 =>
        Pop Try.prog (Instr.build 52 [(0, (.int .i64 2)), (1, x45), (2, (.bool true))].toArray) fun x46 =>
        Eop Try.prog (Instr.buildSlice 48 1 [(0, x46)].toArray) w6 fun x47 w7 =>
        Eop Try.prog (Builtin.append_ #[48, 48] 48 [x23, x47].toArray) w7 fun x48 w8 =>
        K3 x48 w8)
       (
        K3 x23 w6)))
     (fun out7 w9 => ∀ _ : Env,
      K out7 w9))
    (
     Pop Try.prog (binS .eql 3 false true x9 (.int .i64 13)) fun x51 =>
     CondV x51 (
      Pop Try.prog (Instr.fieldAt 40 v3 2) fun x52 =>
      Qop Try.prog (Instr.loadAt 3 x52) w4 fun x53 =>
      Pop Try.prog (Instr.build 52 [(0, (.int .i64 2)), (1, x53), (2, (.bool true))].toArray) fun x54 =>
      Eop Try.prog (Instr.buildSlice 48 1 [(0, x54)].toArray) w4 fun x55 w10 =>
      K x55 w10)
     (
      Join1 (fun K5 =>
       Pop Try.prog (binS .eql 3 false true x9 (.int .i64 10)) fun x57 =>
       CondV x57 (
        K5 x57 w4)
       (
        Pop Try.prog (binS .eql 3 false true x9 (.int .i64 11)) fun x58 =>
        K5 x58 w4))
      (fun x56 w11 => ∀ _ : Env,
       CondV x56 (
        Pop Try.prog (Instr.fieldAt 40 v3 2) fun x59 =>
        Qop Try.prog (Instr.loadAt 3 x59) w11 fun x60 =>
        Pop Try.prog (Instr.build 52 [(0, (.int .i64 3)), (1, x60), (2, (.bool true))].toArray) fun x61 =>
        Eop Try.prog (Instr.buildSlice 48 1 [(0, x61)].toArray) w11 fun x62 w12 =>
        K x62 w12)
       (
        Join1 (fun K6 =>
         Pop Try.prog (binS .eql 3 false true x9 (.int .i64 15)) fun x64 =>
         CondV x64 (
          K6 x64 w11)
         (
          Pop Try.prog (binS .eql 3 false true x9 (.int .i64 16)) fun x65 =>
          K6 x65 w11))
        (fun x63 w13 => ∀ _ : Env,
         CondV x63 (
          Pop Try.prog (Instr.build 52 [(0, (.int .i64 4)), (2, (.bool true))].toArray) fun x66 =>
          Eop Try.prog (Instr.buildSlice 48 1 [(0, x66)].toArray) w13 fun x67 w14 =>
          K x67 w14)
         (
          K (.slice none 0 0) w13)))))))))
set_option maxRecDepth 100000 in
theorem S28_eq (v0 of1 stays2 : Value) (w : World) (K : Value → World → Prop) : D Try.prog 68 (fun _ => (.nil, [])) 64 ((Try.f28.body).getD .skip) [] 64 (retQ Try.prog [.tmp 6] K) [] (env0 [v0, of1, stays2]) w = S28 v0 of1 stays2 w K := by kernel_rfl
set_option maxRecDepth 100000 in
theorem S28_ok (v0 of1 stays2 : Value) (w : World) (K : Value → World → Prop) (h : S28 v0 of1 stays2 w K) : Calls Try.prog 28 [v0, of1, stays2].toArray w (Ret K) :=
  calls_of_D mixed Try.func28 (show _ = some ((Try.f28.body).getD .skip) from by kernel_rfl) (by kernel_rfl) (by kernel_rfl) (by simp) ((S_eq (S28_eq v0 of1 stays2 w K)).mpr h)

set_option maxRecDepth 100000 in
/-- leadline/leadlineref15.Clash -/
def S29 (x0 y1 : Value) (w : World) (K : Value → World → Prop) : Prop :=
 Eop Try.prog (Instr.box 52 x0) w fun x2 w1 =>
 Eop Try.prog (Instr.box 52 y1) w1 fun y3 w2 =>
 Join1 (fun K1 =>
  Pop Try.prog (Instr.fieldAt 52 x2 0) fun x5 =>
  Qop Try.prog (Instr.loadAt 3 x5) w2 fun x6 =>
  Pop Try.prog (binS .eql 3 false true x6 (.int .i64 4)) fun x7 =>
  CondV x7 (
   K1 (.bool true) w2)
  (
   Pop Try.prog (Instr.fieldAt 52 y3 0) fun x9 =>
   Qop Try.prog (Instr.loadAt 3 x9) w2 fun x10 =>
   Pop Try.prog (binS .eql 3 false true x10 (.int .i64 4)) fun x11 =>
   CondV x11 (
    K1 (.bool true) w2)
   (
    Pop Try.prog (Instr.fieldAt 52 x2 0) fun x14 =>
    Qop Try.prog (Instr.loadAt 3 x14) w2 fun x15 =>
    Pop Try.prog (Instr.fieldAt 52 y3 0) fun x16 =>
    Qop Try.prog (Instr.loadAt 3 x16) w2 fun x17 =>
    Pop Try.prog (binS .eql 3 false false x15 x17) fun x18 =>
    CondV x18 (
     Pop Try.prog (Instr.fieldAt 52 x2 1) fun x20 =>
     Qop Try.prog (Instr.loadAt 3 x20) w2 fun x21 =>
     Pop Try.prog (Instr.fieldAt 52 y3 1) fun x22 =>
     Qop Try.prog (Instr.loadAt 3 x22) w2 fun x23 =>
     Pop Try.prog (binS .eql 3 false false x21 x23) fun x24 =>
     CondV x24 (
      Pop Try.prog (Instr.fieldAt 52 x2 2) fun x27 =>
      Qop Try.prog (Instr.loadAt 4 x27) w2 fun x28 =>
      CondV x28 (
       K1 (.bool true) w2)
      (
       Pop Try.prog (Instr.fieldAt 52 y3 2) fun x30 =>
       Qop Try.prog (Instr.loadAt 4 x30) w2 fun x31 =>
       K1 x31 w2))
     (
      K1 (.bool false) w2))
    (
     K1 (.bool false) w2))))
 (fun x4 w3 => ∀ _ : Env,
  K x4 w3)
set_option maxRecDepth 100000 in
theorem S29_eq (x0 y1 : Value) (w : World) (K : Value → World → Prop) : D Try.prog 35 (fun _ => (.nil, [])) 16 ((Try.f29.body).getD .skip) [] 16 (retQ Try.prog [.tmp 4] K) [] (env0 [x0, y1]) w = S29 x0 y1 w K := by kernel_rfl
set_option maxRecDepth 100000 in
theorem S29_ok (x0 y1 : Value) (w : World) (K : Value → World → Prop) (h : S29 x0 y1 w K) : Calls Try.prog 29 [x0, y1].toArray w (Ret K) :=
  calls_of_D mixed Try.func29 (show _ = some ((Try.f29.body).getD .skip) from by kernel_rfl) (by kernel_rfl) (by kernel_rfl) (by simp) ((S_eq (S29_eq x0 y1 w K)).mpr h)

set_option maxRecDepth 100000 in
/-- leadline/event.all -/
def S30 (v0 : Value) (w : World) (K : Value → World → Prop) : Prop :=
 Eop Try.prog (Instr.box 40 v0) w fun v1 w1 =>
 Join1 (fun K1 =>
  Pop Try.prog (Instr.fieldAt 40 v1 0) fun x3 =>
  Qop Try.prog (Instr.loadAt 3 x3) w1 fun x4 =>
  Pop Try.prog (binS .eql 3 false true x4 (.int .i64 15)) fun x5 =>
  CondV x5 (
   K1 (.bool true) w1)
  (
   Pop Try.prog (Instr.fieldAt 40 v1 0) fun x7 =>
   Qop Try.prog (Instr.loadAt 3 x7) w1 fun x8 =>
   Pop Try.prog (binS .eql 3 false true x8 (.int .i64 16)) fun x9 =>
   K1 x9 w1))
 (fun x2 w2 => ∀ _ : Env,
  K x2 w2)
set_option maxRecDepth 100000 in
theorem S30_eq (v0 : Value) (w : World) (K : Value → World → Prop) : D Try.prog 11 (fun _ => (.nil, [])) 4 ((Try.f30.body).getD .skip) [] 4 (retQ Try.prog [.tmp 2] K) [] (env0 [v0]) w = S30 v0 w K := by kernel_rfl
set_option maxRecDepth 100000 in
theorem S30_ok (v0 : Value) (w : World) (K : Value → World → Prop) (h : S30 v0 w K) : Calls Try.prog 30 [v0].toArray w (Ret K) :=
  calls_of_D mixed Try.func30 (show _ = some ((Try.f30.body).getD .skip) from by kernel_rfl) (by kernel_rfl) (by kernel_rfl) (by simp) ((S_eq (S30_eq v0 w K)).mpr h)

set_option maxRecDepth 100000 in
/-- leadline/event.Uses -/
def S31 (v0 of1 stays2 : Value) (w : World) (K : Value → World → Prop) : Prop :=
 Eop Try.prog (Instr.box 40 v0) w fun v3 w1 =>
 Join1 (fun K1 =>
  Pop Try.prog (Instr.fieldAt 40 v3 0) fun x8 =>
  Qop Try.prog (Instr.loadAt 3 x8) w1 fun x9 =>
  Join1 (fun K2 =>
   Join1 (fun K3 =>
    Pop Try.prog (binS .eql 3 false true x9 (.int .i64 1)) fun x11 =>
    CondV x11 (
     K3 x11 w1)
    (
     Pop Try.prog (binS .eql 3 false true x9 (.int .i64 9)) fun x12 =>
     K3 x12 w1))
   (fun x10 w2 => ∀ _ : Env,
    CondV x10 (
     Pop Try.prog (Instr.fieldAt 40 v3 2) fun x25 =>
     Qop Try.prog (Instr.loadAt 3 x25) w2 fun x26 =>
     Pop Try.prog (Instr.build 52 [(0, (.int .i64 1)), (1, x26)].toArray) fun x27 =>
     Eop Try.prog (Instr.buildSlice 48 1 [(0, x27)].toArray) w2 fun x28 w3 =>
     Eop Try.prog (Builtin.append_ #[48, 48] 48 [(.slice none 0 0), x28].toArray) w3 fun x29 w4 =>
     K1 x29 w4)
    (
     Join1 (fun K4 =>
      Pop Try.prog (binS .eql 3 false true x9 (.int .i64 8)) fun x14 =>
      CondV x14 (
       K4 x14 w2)
      (
       Pop Try.prog (binS .eql 3 false true x9 (.int .i64 12)) fun x15 =>
       K4 x15 w2))
     (fun x13 w5 => ∀ _ : Env,
      CondV x13 (
       Pop Try.prog (Instr.fieldAt 40 v3 2) fun x31 =>
       Qop Try.prog (Instr.loadAt 3 x31) w5 fun x32 =>
       Pop Try.prog (Instr.build 52 [(0, (.int .i64 1)), (1, x32), (2, (.bool true))].toArray) fun x33 =>
       Eop Try.prog (Instr.buildSlice 48 1 [(0, x33)].toArray) w5 fun x34 w6 =>
       Eop Try.prog (Builtin.append_ #[48, 48] 48 [(.slice none 0 0), x34].toArray) w6 fun x35 w7 =>
       Join1 (fun K5 =>
        Pop Try.prog (Instr.fieldAt 40 v3 2) fun x36 =>
        Qop Try.prog (Instr.loadAt 3 x36) w7 fun x37 =>
        Pop Try.prog (binS .lss 3 false true x37 (.int .i64 0)) fun x38 =>
        CondV x38 (
         K5 (.bool true) w7)
        (
         Pop Try.prog (Instr.fieldAt 40 v3 2) fun x40 =>
         Qop Try.prog (Instr.loadAt 3 x40) w7 fun x41 =>
         Pop Try.prog (binS .geq 3 false false x41 stays2) fun x43 =>
         CondV x43 (
          K5 (.bool true) w7)
         (
          Pop Try.prog (Instr.fieldAt 40 v3 2) fun x46 =>
          Qop Try.prog (Instr.loadAt 3 x46) w7 fun x47 =>
          Pop Try.prog (Builtin.len_ #[23] 3 [of1].toArray) fun x49 =>
          Pop Try.prog (binS .geq 3 false false x47 x49) fun x50 =>
          K5 x50 w7)))
       (fun x51 w8 => ∀ _ : Env,
        CondV x51 (
         K1 x35 w8)
        (
         Pop Try.prog (Instr.fieldAt 40 v3 2) fun x53 =>
         Qop Try.prog (Instr.loadAt 3 x53) w8 fun x54 =>
         Pop Try.prog (Instr.indexAt 23 of1 x54) fun x55 =>
         Qop Try.prog (Instr.loadAt 3 x55) w8 fun x56 =>
         Pop Try.prog (Instr.fieldAt 40 v3 2) fun x57 =>
         Uop Try.prog (Instr.storeAt 3 x57 x56) w8 fun w9 =>
         K2 x35 w9)))
      (
       Pop Try.prog (binS .eql 3 false true x9 (.int .i64 13)) fun x17 =>
       CondV x17 (
        K2 (.slice none 0 0) w5)
       (
        Join1 (fun K6 =>
         Pop Try.prog (binS .eql 3 false true x9 (.int .i64 10)) fun x19 =>
         CondV x19 (
          K6 x19 w5)
         (
          Pop Try.prog (binS .eql 3 false true x9 (.int .i64 11)) fun x20 =>
          K6 x20 w5))
        (fun x18 w10 => ∀ _ : Env,
         CondV x18 (
          Pop Try.prog (Instr.fieldAt 40 v3 2) fun x65 =>
          Qop Try.prog (Instr.loadAt 3 x65) w10 fun x66 =>
          Pop Try.prog (Instr.build 52 [(0, (.int .i64 3)), (1, x66), (2, (.bool true))].toArray) fun x67 =>
          Eop Try.prog (Instr.buildSlice 48 1 [(0, x67)].toArray) w10 fun x68 w11 =>
          Eop Try.prog (Builtin.append_ #[48, 48] 48 [(.slice none 0 0), x68].toArray) w11 fun x69 w12 =>
          K1 x69 w12)
         (
          Join1 (fun K7 =>
           Pop Try.prog (binS .eql 3 false true x9 (.int .i64 15)) fun x22 =>
           CondV x22 (
            K7 x22 w10)
           (
            Pop Try.prog (binS .eql 3 false true x9 (.int .i64 16)) fun x23 =>
            K7 x23 w10))
          (fun x21 w13 => ∀ _ : Env,
           CondV x21 (
            Pop Try.prog (Instr.build 52 [(0, (.int .i64 4)), (2, (.bool true))].toArray) fun x71 =>
            Eop Try.prog (Instr.buildSlice 48 1 [(0, x71)].toArray) w13 fun x72 w14 =>
            Eop Try.prog (Builtin.append_ #[48, 48] 48 [(.slice none 0 0), x72].toArray) w14 fun x73 w15 =>
            K1 x73 w15)
           (
            K1 (.slice none 0 0) w13))))))))))
  (fun out7 w16 => ∀ _ : Env,
   Pop Try.prog (Instr.fieldAt 40 v3 2) fun x59 =>
   Qop Try.prog (Instr.loadAt 3 x59) w16 fun x60 =>
   Pop Try.prog (Instr.build 52 [(0, (.int .i64 2)), (1, x60), (2, (.bool true))].toArray) fun x61 =>
   Eop Try.prog (Instr.buildSlice 48 1 [(0, x61)].toArray) w16 fun x62 w17 =>
   Eop Try.prog (Builtin.append_ #[48, 48] 48 [out7, x62].toArray) w17 fun x63 w18 =>
   K1 x63 w18))
 (fun out7_1 w19 => ∀ _ : Env,
  K out7_1 w19)
set_option maxRecDepth 100000 in
theorem S31_eq (v0 of1 stays2 : Value) (w : World) (K : Value → World → Prop) : D Try.prog 75 (fun _ => (.nil, [])) 64 ((Try.f31.body).getD .skip) [] 64 (retQ Try.prog [.tmp 6] K) [] (env0 [v0, of1, stays2]) w = S31 v0 of1 stays2 w K := by kernel_rfl
set_option maxRecDepth 100000 in
theorem S31_ok (v0 of1 stays2 : Value) (w : World) (K : Value → World → Prop) (h : S31 v0 of1 stays2 w K) : Calls Try.prog 31 [v0, of1, stays2].toArray w (Ret K) :=
  calls_of_D mixed Try.func31 (show _ = some ((Try.f31.body).getD .skip) from by kernel_rfl) (by kernel_rfl) (by kernel_rfl) (by simp) ((S_eq (S31_eq v0 of1 stays2 w K)).mpr h)

set_option maxRecDepth 100000 in
/-- slices.ContainsFunc[[]leadline/api.Use,leadline/api.Use] -/
def S32 (s0 f1 : Value) (w : World) (K : Value → World → Prop) : Prop :=
 CallF Try.prog 37 [s0, f1] w fun x7 w1 =>
 Pop Try.prog (binS .geq 3 false true x7 (.int .i64 0)) fun x8 =>
 K x8 w1
set_option maxRecDepth 100000 in
theorem S32_eq (s0 f1 : Value) (w : World) (K : Value → World → Prop) : D Try.prog 9 (fun _ => (.nil, [])) 16 ((Try.f32.body).getD .skip) [] 16 (retQ Try.prog [.tmp 4] K) [] (env0 [s0, f1]) w = S32 s0 f1 w K := by kernel_rfl
set_option maxRecDepth 100000 in
theorem S32_ok (s0 f1 : Value) (w : World) (K : Value → World → Prop) (h : S32 s0 f1 w K) : Calls Try.prog 32 [s0, f1].toArray w (Ret K) :=
  calls_of_D mixed Try.func32 (show _ = some ((Try.f32.body).getD .skip) from by kernel_rfl) (by kernel_rfl) (by kernel_rfl) (by simp) ((S_eq (S32_eq s0 f1 w K)).mpr h)

set_option maxRecDepth 100000 in
/-- leadline/event.Depend$1 -/
def S33 (x0 x1 : Value) (w : World) (K : Value → World → Prop) : Prop :=
 Eop Try.prog (Instr.box 52 x0) w fun x2 w1 =>
 Qop Try.prog (Instr.loadAt 48 x1) w1 fun x4 =>
 CallF Try.prog 32 [x4, (.func (Go.Fn.func 34) [].toArray [x2].toArray)] w1 fun x6 w2 =>
 K x6 w2
set_option maxRecDepth 100000 in
theorem S33_eq (x0 x1 : Value) (w : World) (K : Value → World → Prop) : D Try.prog 7 (fun _ => (.nil, [])) 8 ((Try.f33.body).getD .skip) [] 8 (retQ Try.prog [.tmp 3] K) [] (env0 [x0, x1]) w = S33 x0 x1 w K := by kernel_rfl
set_option maxRecDepth 100000 in
theorem S33_ok (x0 x1 : Value) (w : World) (K : Value → World → Prop) (h : S33 x0 x1 w K) : Calls Try.prog 33 [x0, x1].toArray w (Ret K) :=
  calls_of_D mixed Try.func33 (show _ = some ((Try.f33.body).getD .skip) from by kernel_rfl) (by kernel_rfl) (by kernel_rfl) (by simp) ((S_eq (S33_eq x0 x1 w K)).mpr h)

set_option maxRecDepth 100000 in
/-- leadline/event.Depend$1$1 -/
def S34 (y0 x1 : Value) (w : World) (K : Value → World → Prop) : Prop :=
 Eop Try.prog (Instr.box 52 y0) w fun y2 w1 =>
 Qop Try.prog (Instr.loadAt 52 x1) w1 fun x4 =>
 Qop Try.prog (Instr.loadAt 52 y2) w1 fun x5 =>
 CallF Try.prog 35 [x4, x5] w1 fun x6 w2 =>
 K x6 w2
set_option maxRecDepth 100000 in
theorem S34_eq (y0 x1 : Value) (w : World) (K : Value → World → Prop) : D Try.prog 7 (fun _ => (.nil, [])) 8 ((Try.f34.body).getD .skip) [] 8 (retQ Try.prog [.tmp 3] K) [] (env0 [y0, x1]) w = S34 y0 x1 w K := by kernel_rfl
set_option maxRecDepth 100000 in
theorem S34_ok (y0 x1 : Value) (w : World) (K : Value → World → Prop) (h : S34 y0 x1 w K) : Calls Try.prog 34 [y0, x1].toArray w (Ret K) :=
  calls_of_D mixed Try.func34 (show _ = some ((Try.f34.body).getD .skip) from by kernel_rfl) (by kernel_rfl) (by kernel_rfl) (by simp) ((S_eq (S34_eq y0 x1 w K)).mpr h)

set_option maxRecDepth 100000 in
/-- leadline/event.Clash -/
def S35 (x0 y1 : Value) (w : World) (K : Value → World → Prop) : Prop :=
 Eop Try.prog (Instr.box 52 x0) w fun x2 w1 =>
 Eop Try.prog (Instr.box 52 y1) w1 fun y3 w2 =>
 Join1 (fun K1 =>
  Pop Try.prog (Instr.fieldAt 52 x2 0) fun x5 =>
  Qop Try.prog (Instr.loadAt 3 x5) w2 fun x6 =>
  Pop Try.prog (binS .eql 3 false true x6 (.int .i64 4)) fun x7 =>
  CondV x7 (
   K1 (.bool true) w2)
  (
   Pop Try.prog (Instr.fieldAt 52 y3 0) fun x9 =>
   Qop Try.prog (Instr.loadAt 3 x9) w2 fun x10 =>
   Pop Try.prog (binS .eql 3 false true x10 (.int .i64 4)) fun x11 =>
   K1 x11 w2))
 (fun x12 w3 => ∀ _ : Env,
  CondV x12 (
   K (.bool true) w3)
  (
   Join1 (fun K2 =>
    Pop Try.prog (Instr.fieldAt 52 x2 0) fun x13 =>
    Qop Try.prog (Instr.loadAt 3 x13) w3 fun x14 =>
    Pop Try.prog (Instr.fieldAt 52 y3 0) fun x15 =>
    Qop Try.prog (Instr.loadAt 3 x15) w3 fun x16 =>
    Pop Try.prog (binS .eql 3 false false x14 x16) fun x17 =>
    CondV x17 (
     Pop Try.prog (Instr.fieldAt 52 x2 1) fun x19 =>
     Qop Try.prog (Instr.loadAt 3 x19) w3 fun x20 =>
     Pop Try.prog (Instr.fieldAt 52 y3 1) fun x21 =>
     Qop Try.prog (Instr.loadAt 3 x21) w3 fun x22 =>
     Pop Try.prog (binS .eql 3 false false x20 x22) fun x23 =>
     CondV x23 (
      Pop Try.prog (Instr.fieldAt 52 x2 2) fun x26 =>
      Qop Try.prog (Instr.loadAt 4 x26) w3 fun x27 =>
      CondV x27 (
       K2 (.bool true) w3)
      (
       Pop Try.prog (Instr.fieldAt 52 y3 2) fun x29 =>
       Qop Try.prog (Instr.loadAt 4 x29) w3 fun x30 =>
       K2 x30 w3))
     (
      K2 (.bool false) w3))
    (
     K2 (.bool false) w3))
   (fun x4 w4 => ∀ _ : Env,
    K x4 w4)))
set_option maxRecDepth 100000 in
theorem S35_eq (x0 y1 : Value) (w : World) (K : Value → World → Prop) : D Try.prog 33 (fun _ => (.nil, [])) 16 ((Try.f35.body).getD .skip) [] 16 (retQ Try.prog [.tmp 4] K) [] (env0 [x0, y1]) w = S35 x0 y1 w K := by kernel_rfl
set_option maxRecDepth 100000 in
theorem S35_ok (x0 y1 : Value) (w : World) (K : Value → World → Prop) (h : S35 x0 y1 w K) : Calls Try.prog 35 [x0, y1].toArray w (Ret K) :=
  calls_of_D mixed Try.func35 (show _ = some ((Try.f35.body).getD .skip) from by kernel_rfl) (by kernel_rfl) (by kernel_rfl) (by simp) ((S_eq (S35_eq x0 y1 w K)).mpr h)

set_option maxRecDepth 100000 in
/-- slices.Clone[[]int,int] -/
def S36 (s0 : Value) (w : World) (K : Value → World → Prop) : Prop :=
 Pop Try.prog (binS .eql 23 false true s0 (.slice none 0 0)) fun x4 =>
 CondV x4 (
  K (.slice none 0 0) w)
 (
  Eop Try.prog (Instr.buildSlice 23 0 [].toArray) w fun x5 w1 =>
  Eop Try.prog (Builtin.append_ #[23, 23] 23 [x5, s0].toArray) w1 fun x7 w2 =>
  K x7 w2)
set_option maxRecDepth 100000 in
theorem S36_eq (s0 : Value) (w : World) (K : Value → World → Prop) : D Try.prog 8 (fun _ => (.nil, [])) 4 ((Try.f36.body).getD .skip) [] 4 (retQ Try.prog [.tmp 2] K) [] (env0 [s0]) w = S36 s0 w K := by kernel_rfl
set_option maxRecDepth 100000 in
theorem S36_ok (s0 : Value) (w : World) (K : Value → World → Prop) (h : S36 s0 w K) : Calls Try.prog 36 [s0].toArray w (Ret K) :=
  calls_of_D mixed Try.func36 (show _ = some ((Try.f36.body).getD .skip) from by kernel_rfl) (by kernel_rfl) (by kernel_rfl) (by simp) ((S_eq (S36_eq s0 w K)).mpr h)

set_option maxRecDepth 100000 in
/-- slices.IndexFunc[[]leadline/api.Use,leadline/api.Use] -/
def S37 (s0 f1 : Value) (w : World) (K : Value → World → Prop) : Prop :=
 Pop Try.prog (Builtin.len_ #[48] 3 [s0].toArray) fun x7 =>
 Loop1 (fun K1 x8 w1 => ∀ _ : Env,
  Pop Try.prog (binS .lss 3 false false x8 x7) fun x9 =>
  CondV x9 (
   Pop Try.prog (Instr.indexAt 48 s0 x8) fun x14 =>
   Qop Try.prog (Instr.loadAt 52 x14) w1 fun x15 =>
   CallV Try.prog f1 [x15] w1 fun x16 w2 =>
   CondV x16 (
    K x8 w2)
   (
    Pop Try.prog (binS .add 3 false true x8 (.int .i64 1)) fun x18 =>
    K1 x18 w2))
  (
   K (.int .i64 (-1)) w1))
 (fun K1 => K1 (.int .i64 0) w)
set_option maxRecDepth 100000 in
theorem S37_eq (s0 f1 : Value) (w : World) (K : Value → World → Prop) : D Try.prog 19 (fun _ => (.nil, [])) 16 ((Try.f37.body).getD .skip) [] 16 (retQ Try.prog [.tmp 4] K) [] (env0 [s0, f1]) w = S37 s0 f1 w K := by kernel_rfl
set_option maxRecDepth 100000 in
theorem S37_ok (s0 f1 : Value) (w : World) (K : Value → World → Prop) (h : S37 s0 f1 w K) : Calls Try.prog 37 [s0, f1].toArray w (Ret K) :=
  calls_of_D mixed Try.func37 (show _ = some ((Try.f37.body).getD .skip) from by kernel_rfl) (by kernel_rfl) (by kernel_rfl) (by simp) ((S_eq (S37_eq s0 f1 w K)).mpr h)

theorem pl3 : Plain Try.prog 3 := ⟨_, Try.func3, by kernel_rfl, by kernel_rfl⟩
theorem pl4 : Plain Try.prog 4 := ⟨_, Try.func4, by kernel_rfl, by kernel_rfl⟩
theorem pl5 : Plain Try.prog 5 := ⟨_, Try.func5, by kernel_rfl, by kernel_rfl⟩
theorem pl6 : Plain Try.prog 6 := ⟨_, Try.func6, by kernel_rfl, by kernel_rfl⟩
theorem pl7 : Plain Try.prog 7 := ⟨_, Try.func7, by kernel_rfl, by kernel_rfl⟩
theorem pl8 : Plain Try.prog 8 := ⟨_, Try.func8, by kernel_rfl, by kernel_rfl⟩
theorem pl9 : Plain Try.prog 9 := ⟨_, Try.func9, by kernel_rfl, by kernel_rfl⟩
theorem pl10 : Plain Try.prog 10 := ⟨_, Try.func10, by kernel_rfl, by kernel_rfl⟩
theorem pl11 : Plain Try.prog 11 := ⟨_, Try.func11, by kernel_rfl, by kernel_rfl⟩
theorem pl12 : Plain Try.prog 12 := ⟨_, Try.func12, by kernel_rfl, by kernel_rfl⟩
theorem pl13 : Plain Try.prog 13 := ⟨_, Try.func13, by kernel_rfl, by kernel_rfl⟩
theorem pl14 : Plain Try.prog 14 := ⟨_, Try.func14, by kernel_rfl, by kernel_rfl⟩
theorem pl15 : Plain Try.prog 15 := ⟨_, Try.func15, by kernel_rfl, by kernel_rfl⟩
theorem pl16 : Plain Try.prog 16 := ⟨_, Try.func16, by kernel_rfl, by kernel_rfl⟩
theorem pl17 : Plain Try.prog 17 := ⟨_, Try.func17, by kernel_rfl, by kernel_rfl⟩
theorem pl18 : Plain Try.prog 18 := ⟨_, Try.func18, by kernel_rfl, by kernel_rfl⟩
theorem pl19 : Plain Try.prog 19 := ⟨_, Try.func19, by kernel_rfl, by kernel_rfl⟩
theorem pl20 : Plain Try.prog 20 := ⟨_, Try.func20, by kernel_rfl, by kernel_rfl⟩
theorem pl21 : Plain Try.prog 21 := ⟨_, Try.func21, by kernel_rfl, by kernel_rfl⟩
theorem pl22 : Plain Try.prog 22 := ⟨_, Try.func22, by kernel_rfl, by kernel_rfl⟩
theorem pl23 : Plain Try.prog 23 := ⟨_, Try.func23, by kernel_rfl, by kernel_rfl⟩
theorem pl24 : Plain Try.prog 24 := ⟨_, Try.func24, by kernel_rfl, by kernel_rfl⟩
theorem pl25 : Plain Try.prog 25 := ⟨_, Try.func25, by kernel_rfl, by kernel_rfl⟩
theorem pl26 : Plain Try.prog 26 := ⟨_, Try.func26, by kernel_rfl, by kernel_rfl⟩
theorem pl27 : Plain Try.prog 27 := ⟨_, Try.func27, by kernel_rfl, by kernel_rfl⟩
theorem pl28 : Plain Try.prog 28 := ⟨_, Try.func28, by kernel_rfl, by kernel_rfl⟩
theorem pl29 : Plain Try.prog 29 := ⟨_, Try.func29, by kernel_rfl, by kernel_rfl⟩
theorem pl30 : Plain Try.prog 30 := ⟨_, Try.func30, by kernel_rfl, by kernel_rfl⟩
theorem pl31 : Plain Try.prog 31 := ⟨_, Try.func31, by kernel_rfl, by kernel_rfl⟩
theorem pl32 : Plain Try.prog 32 := ⟨_, Try.func32, by kernel_rfl, by kernel_rfl⟩
theorem pl33 : Plain Try.prog 33 := ⟨_, Try.func33, by kernel_rfl, by kernel_rfl⟩
theorem pl34 : Plain Try.prog 34 := ⟨_, Try.func34, by kernel_rfl, by kernel_rfl⟩
theorem pl35 : Plain Try.prog 35 := ⟨_, Try.func35, by kernel_rfl, by kernel_rfl⟩
theorem pl36 : Plain Try.prog 36 := ⟨_, Try.func36, by kernel_rfl, by kernel_rfl⟩
theorem pl37 : Plain Try.prog 37 := ⟨_, Try.func37, by kernel_rfl, by kernel_rfl⟩
end Go.Proofs.Ytobcbkipeipjeaa
