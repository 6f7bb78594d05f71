/-
  The shallow forms of the functions of this seat, printed by a program of ours out of the seat's own program; each is checked by the kernel against the framework's D. Nothing here is trusted.
-/
import Derived.Test.YtmjijnkndgjdfaaProg
import Derived.Test.YtmjijnkndgjdfaaFw4
import Derived.KernelRfl
namespace Go.Proofs.Ytmjijnkndgjdfaa
open Go.Fw
theorem mixed : Try.prog.follows .mixedOrders = true := by kernel_rfl
theorem S_eq {a b : Prop} (h : a = b) : a ↔ b := by rw [h]

set_option maxRecDepth 100000 in
/-- leadline/leadlinelaw12.BufferTells -/
def S3 (x0 y1 : Value) (w : World) (K : Value → World → Prop) : Prop :=
 Eop Try.prog (Instr.box 23 x0) w fun x2 w1 =>
 Eop Try.prog (Instr.box 23 y1) w1 fun y3 w2 =>
 Join1 (fun K1 =>
  Qop Try.prog (Instr.loadAt 23 x2) (drew w2) fun x5 =>
  Qop Try.prog (Instr.loadAt 23 y3) (drew w2) fun x6 =>
  Qop Try.prog (Instr.loadAt 23 x2) (drew w2) fun x8 =>
  Qop Try.prog (Instr.loadAt 23 y3) (drew w2) fun x9 =>
  CallF Try.prog 9 [x5, x6] (drew w2) fun x7 w3 =>
  KeepAnd Try.prog (Instr.loadAt 23 x2) x8 w3 (
  KeepAnd Try.prog (Instr.loadAt 23 y3) x9 w3 (
  CallF Try.prog 10 [x8, x9] w3 fun x10 w4 =>
  Pop Try.prog (binS .eql 4 false false x7 x10) fun x11 =>
  CondV x11 (
   Qop Try.prog (Instr.loadAt 23 x2) w4 fun x13 =>
   Qop Try.prog (Instr.loadAt 23 x2) w4 fun x15 =>
   CallF Try.prog 11 [x13] w4 fun x14 w5 =>
   KeepAnd Try.prog (Instr.loadAt 23 x2) x15 w5 (
   CallF Try.prog 12 [x15] w5 fun x16 w6 =>
   Pop Try.prog (binS .eql 4 false false x14 x16) fun x17 =>
   CondV x17 (
    CallF Try.prog 13 [] w6 fun x20 w7 =>
    K1 x20 w7)
   (
    K1 (.bool false) w6)))
  (
   K1 (.bool false) w4))))
 (fun x4 w8 => ∀ _ : Env,
  K x4 w8)
def S3pl : Plans := fun i => match i with
  | 1 => ([(0, []), (1, []), (3, []), (4, []), (2, [3, 4]), (5, []), (6, []), (7, []), (8, []), (10, []), (9, [10]), (11, []), (12, []), (13, []), (14, []), (15, []), (16, []), (17, [])], [0, 0, 3, 0, 0, 31, 63, 127, 255, 511, 255, 2047, 4095, 8191, 16383, 32767, 65535, 131071])
  | _ => ([], [])
set_option maxRecDepth 100000 in
theorem S3_eq (x0 y1 : Value) (w : World) (K : Value → World → Prop) : D Try.prog 22 (S3pl) 16 ((Try.f3.body).getD .skip) [] 16 (retQ Try.prog [.tmp 4] K) [] (env0 [x0, y1]) w = S3 x0 y1 w K := by kernel_rfl
set_option maxRecDepth 100000 in
theorem S3_ok (x0 y1 : Value) (w : World) (K : Value → World → Prop) (h : S3 x0 y1 w K) : Calls Try.prog 3 [x0, y1].toArray w (Ret K) :=
  calls_of_D mixed Try.func3 (show _ = some ((Try.f3.body).getD .skip) from by kernel_rfl) (by kernel_rfl) (by kernel_rfl) (by simp) ((S_eq (S3_eq x0 y1 w K)).mpr h)

set_option maxRecDepth 100000 in
/-- leadline/leadlinelaw12.BufferOrder -/
def S4 (l0 how1 : Value) (w : World) (K : Value → World → Prop) : Prop :=
 CallF Try.prog 14 [(.int .i64 16)] w fun x25 w1 =>
 Pop Try.prog (Instr.extract x25 0) fun x26 =>
 Pop Try.prog (Instr.extract x25 1) fun x27 =>
 Join1 (fun K1 =>
  Pop Try.prog (binS .eql 29 false true x26 (.pointer none)) fun x29 =>
  CondV x29 (
   K1 (.bool true) w1)
  (
   Pop Try.prog (binS .neq 30 false true x27 (.int .i64 0)) fun x32 =>
   K1 x32 w1))
 (fun x33 w2 => ∀ _ : Env,
  CondV x33 (
   K (.bool false) w2)
  (
   Eop Try.prog (Instr.buildSlice 27 0 [].toArray) w2 fun x34 w3 =>
   Loop2 (fun K2 in7 i8 w4 => ∀ _ : Env,
    Join1 (fun K3 =>
     Pop Try.prog (Builtin.len_ #[27] 3 [l0].toArray) fun x37 =>
     Pop Try.prog (binS .lss 3 false false i8 x37) fun x38 =>
     CondV x38 (
      Pop Try.prog (binS .lss 3 false true i8 (.int .i64 12)) fun x41 =>
      K3 x41 w4)
     (
      K3 (.bool false) w4))
    (fun x42 w5 => ∀ _ : Env,
     CondV x42 (
      Join1 (fun K4 =>
       Pop Try.prog (Instr.indexAt 27 l0 i8) fun x47 =>
       Qop Try.prog (Instr.loadAt 23 x47) w5 fun x48 =>
       Eop Try.prog (Instr.alloc 23 true (.tuple #[])) w5 fun x9 w6 =>
       Uop Try.prog (Instr.storeAt 23 x9 x48) w6 fun w7 =>
       Qop Try.prog (Instr.loadAt 23 x9) w7 fun x50 =>
       CallF Try.prog 15 [x26, x50] w7 fun x51 w8 =>
       Pop Try.prog (binS .eql 30 false true x51 (.int .i64 0)) fun x52 =>
       CondV x52 (
        Qop Try.prog (Instr.loadAt 23 x9) w8 fun x54 =>
        Eop Try.prog (Instr.buildSlice 27 1 [(0, x54)].toArray) w8 fun x55 w9 =>
        Eop Try.prog (Builtin.append_ #[27, 27] 27 [in7, x55].toArray) w9 fun x56 w10 =>
        K4 x56 w10)
       (
        K4 in7 w8))
      (fun in7_1 w11 => ∀ _ : Env,
       Pop Try.prog (binS .add 3 false true i8 (.int .i64 1)) fun x44 =>
       K2 in7_1 x44 w11))
     (
      Pop Try.prog (Builtin.len_ #[27] 3 [in7].toArray) fun x58 =>
      Eop Try.prog (Instr.makeSlice 34 x58 x58) w5 fun x59 w12 =>
      Eop Try.prog (Instr.buildSlice 28 0 [].toArray) w12 fun x60 w13 =>
      Loop2 (fun K5 place11 i12 w14 => ∀ _ : Env,
       Pop Try.prog (Builtin.len_ #[27] 3 [in7].toArray) fun x63 =>
       Pop Try.prog (binS .lss 3 false false i12 x63) fun x64 =>
       CondV x64 (
        Eop Try.prog (Instr.buildSlice 28 1 [(0, i12)].toArray) w14 fun x69 w15 =>
        Eop Try.prog (Builtin.append_ #[28, 28] 28 [place11, x69].toArray) w15 fun x70 w16 =>
        Pop Try.prog (binS .add 3 false true i12 (.int .i64 1)) fun x66 =>
        K5 x70 x66 w16)
       (
        Loop2 (fun K6 place11_1 i13 w17 => ∀ _ : Env,
         Pop Try.prog (Builtin.len_ #[27] 3 [in7].toArray) fun x73 =>
         Pop Try.prog (binS .lss 3 false false i13 x73) fun x74 =>
         CondV x74 (
          CallF Try.prog 16 [x26] w17 fun x78 w18 =>
          Join1 (fun K7 =>
           Pop Try.prog (Builtin.len_ #[28] 3 [x78].toArray) fun x80 =>
           Pop Try.prog (binS .eql 3 false true x80 (.int .i64 0)) fun x81 =>
           CondV x81 (
            K7 (.bool true) w18)
           (
            Pop Try.prog (Instr.indexAt 28 x78 (.int .i64 0)) fun x84 =>
            Qop Try.prog (Instr.loadAt 3 x84) w18 fun x85 =>
            Pop Try.prog (binS .neq 3 false true x85 (.int .i64 0)) fun x86 =>
            K7 x86 w18))
          (fun x87 w19 => ∀ _ : Env,
           CondV x87 (
            K (.bool false) w19)
           (
            Join1 (fun K8 =>
             Pop Try.prog (Builtin.len_ #[28] 3 [how1].toArray) fun x90 =>
             Pop Try.prog (binS .lss 3 false false i13 x90) fun x91 =>
             CondV x91 (
              Pop Try.prog (Instr.indexAt 28 how1 i13) fun x94 =>
              Qop Try.prog (Instr.loadAt 3 x94) w19 fun x95 =>
              Pop Try.prog (binS .and 3 false true x95 (.int .i64 65535)) fun x96 =>
              Pop Try.prog (Builtin.len_ #[28] 3 [x78].toArray) fun x98 =>
              Pop Try.prog (binS .rem 3 false false x96 x98) fun x99 =>
              K8 x99 w19)
             (
              K8 (.int .i64 0) w19))
            (fun k15 w20 => ∀ _ : Env,
             Pop Try.prog (Instr.indexAt 28 x78 k15) fun x102 =>
             Qop Try.prog (Instr.loadAt 3 x102) w20 fun x103 =>
             Join1 (fun K9 =>
              Pop Try.prog (binS .lss 3 false true x103 (.int .i64 0)) fun x105 =>
              CondV x105 (
               K9 (.bool true) w20)
              (
               Pop Try.prog (Builtin.len_ #[28] 3 [place11_1].toArray) fun x109 =>
               Pop Try.prog (binS .geq 3 false false x103 x109) fun x110 =>
               K9 x110 w20))
             (fun x111 w21 => ∀ _ : Env,
              CondV x111 (
               K (.bool false) w21)
              (
               CallF Try.prog 17 [x26, x103] w21 fun x115 w22 =>
               Pop Try.prog (Instr.extract x115 0) fun x116 =>
               Pop Try.prog (Instr.extract x115 1) fun x117 =>
               Eop Try.prog (Instr.alloc 23 true (.tuple #[])) w22 fun x17 w23 =>
               Uop Try.prog (Instr.storeAt 23 x17 x116) w23 fun w24 =>
               Pop Try.prog (Instr.indexAt 28 place11_1 x103) fun x120 =>
               Qop Try.prog (Instr.loadAt 3 x120) w24 fun x121 =>
               Join1 (fun K10 =>
                Pop Try.prog (binS .neq 30 false true x117 (.int .i64 0)) fun x123 =>
                CondV x123 (
                 K10 (.bool true) (drew w24))
                (
                 Qop Try.prog (Instr.loadAt 23 x17) (drew w24) fun x125 =>
                 Pop Try.prog (Instr.indexAt 27 in7 x121) fun x128 =>
                 Qop Try.prog (Instr.loadAt 23 x128) (drew w24) fun x129 =>
                 Pop Try.prog (binS .neq 23 false false x125 x129) fun x130 =>
                 K10 x130 (drew w24)))
               (fun x131 w25 => ∀ _ : Env,
                CondV x131 (
                 K (.bool false) w25)
                (
                 Loop1 (fun K11 j20 w26 => ∀ _ : Env,
                  Pop Try.prog (binS .lss 3 false false j20 x121) fun x134 =>
                  CondV x134 (
                   Pop Try.prog (Instr.indexAt 27 in7 j20) fun x139 =>
                   Qop Try.prog (Instr.loadAt 23 x139) w26 fun x140 =>
                   Eop Try.prog (Instr.alloc 23 true (.tuple #[])) w26 fun y21 w27 =>
                   Uop Try.prog (Instr.storeAt 23 y21 x140) w27 fun w28 =>
                   Join1 (fun K12 =>
                    Pop Try.prog (Instr.fieldAt 23 x17 0) fun x141 =>
                    Qop Try.prog (Instr.loadAt 3 x141) w28 fun x142 =>
                    Pop Try.prog (binS .eql 3 false true x142 (.int .i64 3)) fun x143 =>
                    CondV x143 (
                     Pop Try.prog (Instr.fieldAt 23 y21 0) fun x145 =>
                     Qop Try.prog (Instr.loadAt 3 x145) w28 fun x146 =>
                     Pop Try.prog (binS .eql 3 false true x146 (.int .i64 3)) fun x147 =>
                     CondV x147 (
                      K12 (.bool true) w28)
                     (
                      Pop Try.prog (Instr.fieldAt 23 x17 1) fun x150 =>
                      Qop Try.prog (Instr.loadAt 3 x150) w28 fun x151 =>
                      Pop Try.prog (Instr.fieldAt 23 y21 1) fun x152 =>
                      Qop Try.prog (Instr.loadAt 3 x152) w28 fun x153 =>
                      Pop Try.prog (binS .eql 3 false false x151 x153) fun x154 =>
                      CondV x154 (
                       Pop Try.prog (Instr.fieldAt 23 x17 0) fun x156 =>
                       Qop Try.prog (Instr.loadAt 3 x156) w28 fun x157 =>
                       Pop Try.prog (binS .neq 3 false true x157 (.int .i64 7)) fun x158 =>
                       CondV x158 (
                        Pop Try.prog (Instr.fieldAt 23 y21 0) fun x161 =>
                        Qop Try.prog (Instr.loadAt 3 x161) w28 fun x162 =>
                        Pop Try.prog (binS .neq 3 false true x162 (.int .i64 7)) fun x163 =>
                        CondV x163 (
                         K12 (.bool true) w28)
                        (
                         Pop Try.prog (Instr.fieldAt 23 x17 0) fun x167 =>
                         Qop Try.prog (Instr.loadAt 3 x167) w28 fun x168 =>
                         Pop Try.prog (binS .eql 3 false true x168 (.int .i64 7)) fun x169 =>
                         CondV x169 (
                          K12 (.bool true) w28)
                         (
                          Pop Try.prog (Instr.fieldAt 23 y21 0) fun x172 =>
                          Qop Try.prog (Instr.loadAt 3 x172) w28 fun x173 =>
                          Pop Try.prog (binS .eql 3 false true x173 (.int .i64 7)) fun x174 =>
                          K12 x174 w28)))
                       (
                        Pop Try.prog (Instr.fieldAt 23 x17 0) fun x167_1 =>
                        Qop Try.prog (Instr.loadAt 3 x167_1) w28 fun x168_1 =>
                        Pop Try.prog (binS .eql 3 false true x168_1 (.int .i64 7)) fun x169_1 =>
                        CondV x169_1 (
                         K12 (.bool true) w28)
                        (
                         Pop Try.prog (Instr.fieldAt 23 y21 0) fun x172_1 =>
                         Qop Try.prog (Instr.loadAt 3 x172_1) w28 fun x173_1 =>
                         Pop Try.prog (binS .eql 3 false true x173_1 (.int .i64 7)) fun x174_1 =>
                         K12 x174_1 w28)))
                      (
                       Pop Try.prog (Instr.fieldAt 23 x17 0) fun x167_2 =>
                       Qop Try.prog (Instr.loadAt 3 x167_2) w28 fun x168_2 =>
                       Pop Try.prog (binS .eql 3 false true x168_2 (.int .i64 7)) fun x169_2 =>
                       CondV x169_2 (
                        K12 (.bool true) w28)
                       (
                        Pop Try.prog (Instr.fieldAt 23 y21 0) fun x172_2 =>
                        Qop Try.prog (Instr.loadAt 3 x172_2) w28 fun x173_2 =>
                        Pop Try.prog (binS .eql 3 false true x173_2 (.int .i64 7)) fun x174_2 =>
                        K12 x174_2 w28))))
                    (
                     Pop Try.prog (Instr.fieldAt 23 x17 1) fun x150_1 =>
                     Qop Try.prog (Instr.loadAt 3 x150_1) w28 fun x151_1 =>
                     Pop Try.prog (Instr.fieldAt 23 y21 1) fun x152_1 =>
                     Qop Try.prog (Instr.loadAt 3 x152_1) w28 fun x153_1 =>
                     Pop Try.prog (binS .eql 3 false false x151_1 x153_1) fun x154_1 =>
                     CondV x154_1 (
                      Pop Try.prog (Instr.fieldAt 23 x17 0) fun x156_1 =>
                      Qop Try.prog (Instr.loadAt 3 x156_1) w28 fun x157_1 =>
                      Pop Try.prog (binS .neq 3 false true x157_1 (.int .i64 7)) fun x158_1 =>
                      CondV x158_1 (
                       Pop Try.prog (Instr.fieldAt 23 y21 0) fun x161_1 =>
                       Qop Try.prog (Instr.loadAt 3 x161_1) w28 fun x162_1 =>
                       Pop Try.prog (binS .neq 3 false true x162_1 (.int .i64 7)) fun x163_1 =>
                       CondV x163_1 (
                        K12 (.bool true) w28)
                       (
                        Pop Try.prog (Instr.fieldAt 23 x17 0) fun x167_3 =>
                        Qop Try.prog (Instr.loadAt 3 x167_3) w28 fun x168_3 =>
                        Pop Try.prog (binS .eql 3 false true x168_3 (.int .i64 7)) fun x169_3 =>
                        CondV x169_3 (
                         K12 (.bool true) w28)
                        (
                         Pop Try.prog (Instr.fieldAt 23 y21 0) fun x172_3 =>
                         Qop Try.prog (Instr.loadAt 3 x172_3) w28 fun x173_3 =>
                         Pop Try.prog (binS .eql 3 false true x173_3 (.int .i64 7)) fun x174_3 =>
                         K12 x174_3 w28)))
                      (
                       Pop Try.prog (Instr.fieldAt 23 x17 0) fun x167_4 =>
                       Qop Try.prog (Instr.loadAt 3 x167_4) w28 fun x168_4 =>
                       Pop Try.prog (binS .eql 3 false true x168_4 (.int .i64 7)) fun x169_4 =>
                       CondV x169_4 (
                        K12 (.bool true) w28)
                       (
                        Pop Try.prog (Instr.fieldAt 23 y21 0) fun x172_4 =>
                        Qop Try.prog (Instr.loadAt 3 x172_4) w28 fun x173_4 =>
                        Pop Try.prog (binS .eql 3 false true x173_4 (.int .i64 7)) fun x174_4 =>
                        K12 x174_4 w28)))
                     (
                      Pop Try.prog (Instr.fieldAt 23 x17 0) fun x167_5 =>
                      Qop Try.prog (Instr.loadAt 3 x167_5) w28 fun x168_5 =>
                      Pop Try.prog (binS .eql 3 false true x168_5 (.int .i64 7)) fun x169_5 =>
                      CondV x169_5 (
                       K12 (.bool true) w28)
                      (
                       Pop Try.prog (Instr.fieldAt 23 y21 0) fun x172_5 =>
                       Qop Try.prog (Instr.loadAt 3 x172_5) w28 fun x173_5 =>
                       Pop Try.prog (binS .eql 3 false true x173_5 (.int .i64 7)) fun x174_5 =>
                       K12 x174_5 w28))))
                   (fun ordered22 w29 => ∀ _ : Env,
                    Join1 (fun K13 =>
                     CondV ordered22 (
                      Pop Try.prog (Instr.indexAt 34 x59 j20) fun x180 =>
                      Qop Try.prog (Instr.loadAt 4 x180) w29 fun x181 =>
                      Pop Try.prog (Op.unary .not x181) fun x182 =>
                      K13 x182 w29)
                     (
                      K13 (.bool false) w29))
                    (fun x183 w30 => ∀ _ : Env,
                     CondV x183 (
                      K (.bool false) w30)
                     (
                      Pop Try.prog (binS .add 3 false true j20 (.int .i64 1)) fun x136 =>
                      K11 x136 w30))))
                  (
                   Pop Try.prog (Instr.indexAt 34 x59 x121) fun x186 =>
                   Uop Try.prog (Instr.storeAt 4 x186 (.bool true)) w26 fun w31 =>
                   Eop Try.prog (Instr.buildSlice 28 0 [].toArray) w31 fun x187 w32 =>
                   Pop Try.prog (Instr.sliceAt 28 place11_1 none (some x103) none) fun x190 =>
                   Eop Try.prog (Builtin.append_ #[28, 28] 28 [x187, x190].toArray) w32 fun x191 w33 =>
                   Pop Try.prog (binS .add 3 false true x103 (.int .i64 1)) fun x195 =>
                   Pop Try.prog (Instr.sliceAt 28 place11_1 (some x195) none none) fun x196 =>
                   Eop Try.prog (Builtin.append_ #[28, 28] 28 [x191, x196].toArray) w33 fun x197 w34 =>
                   Pop Try.prog (binS .add 3 false true i13 (.int .i64 1)) fun x76 =>
                   K6 x197 x76 w34))
                 (fun K11 => K11 (.int .i64 0) w25)))))))))
         (
          Join1 (fun K14 =>
           CallF Try.prog 18 [x26] w17 fun x200 w35 =>
           Pop Try.prog (Builtin.len_ #[27] 3 [x200].toArray) fun x201 =>
           Pop Try.prog (binS .eql 3 false true x201 (.int .i64 0)) fun x202 =>
           CondV x202 (
            CallF Try.prog 13 [] w35 fun x204 w36 =>
            K14 x204 w36)
           (
            K14 (.bool false) w35))
          (fun x4 w37 => ∀ _ : Env,
           K x4 w37)))
        (fun K6 => K6 place11 (.int .i64 0) w14)))
      (fun K5 => K5 x60 (.int .i64 0) w13))))
   (fun K2 => K2 x34 (.int .i64 0) w3)))
def S4pl : Plans := fun i => match i with
  | 31 => ([(0, []), (1, []), (2, []), (3, []), (4, []), (5, []), (6, []), (7, []), (8, []), (9, [])], [0, 1, 3, 7, 7, 7, 55, 119, 255, 511])
  | _ => ([], [])
set_option maxRecDepth 100000 in
theorem S4_eq (l0 how1 : Value) (w : World) (K : Value → World → Prop) : D Try.prog 206 (S4pl) 16 ((Try.f4.body).getD .skip) [] 16 (retQ Try.prog [.tmp 4] K) [] (env0 [l0, how1]) w = S4 l0 how1 w K := by kernel_rfl
set_option maxRecDepth 100000 in
theorem S4_ok (l0 how1 : Value) (w : World) (K : Value → World → Prop) (h : S4 l0 how1 w K) : Calls Try.prog 4 [l0, how1].toArray w (Ret K) :=
  calls_of_D mixed Try.func4 (show _ = some ((Try.f4.body).getD .skip) from by kernel_rfl) (by kernel_rfl) (by kernel_rfl) (by simp) ((S_eq (S4_eq l0 how1 w K)).mpr h)

set_option maxRecDepth 100000 in
/-- leadline/leadlinelaw12.BufferLast -/
def S5 (cells0 : Value) (w : World) (K : Value → World → Prop) : Prop :=
 CallF Try.prog 14 [(.int .i64 16)] w fun x19 w1 =>
 Pop Try.prog (Instr.extract x19 0) fun x20 =>
 Pop Try.prog (Instr.extract x19 1) fun x21 =>
 Join1 (fun K1 =>
  Pop Try.prog (binS .eql 29 false true x20 (.pointer none)) fun x23 =>
  CondV x23 (
   K1 (.bool true) w1)
  (
   Pop Try.prog (binS .neq 30 false true x21 (.int .i64 0)) fun x26 =>
   K1 x26 w1))
 (fun x27 w2 => ∀ _ : Env,
  CondV x27 (
   K (.bool false) w2)
  (
   Eop Try.prog (Instr.buildSlice 28 3 [(0, (.int .i64 (-1))), (1, (.int .i64 (-1))), (2, (.int .i64 (-1)))].toArray) w2 fun x28 w3 =>
   Pop Try.prog (Builtin.len_ #[28] 3 [cells0].toArray) fun x30 =>
   Pop Try.prog (Builtin.min_ #[3, 3] 3 [x30, (.int .i64 12)].toArray) fun x31 =>
   Loop1 (fun K2 i7 w4 => ∀ _ : Env,
    Pop Try.prog (binS .lss 3 false false i7 x31) fun x34 =>
    CondV x34 (
     Pop Try.prog (Instr.indexAt 28 cells0 i7) fun x39 =>
     Qop Try.prog (Instr.loadAt 3 x39) w4 fun x40 =>
     Pop Try.prog (binS .and 3 false true x40 (.int .i64 65535)) fun x41 =>
     Pop Try.prog (binS .rem 3 false true x41 (.int .i64 3)) fun x42 =>
     CallF Try.prog 19 [x42, x42, i7] w4 fun x47 w5 =>
     CallF Try.prog 15 [x20, x47] w5 fun x48 w6 =>
     Pop Try.prog (binS .neq 30 false true x48 (.int .i64 0)) fun x49 =>
     CondV x49 (
      K (.bool false) w6)
     (
      Pop Try.prog (Instr.indexAt 28 x28 x42) fun x53 =>
      Uop Try.prog (Instr.storeAt 3 x53 i7) w6 fun w7 =>
      Loop1 (fun K3 k9 w8 => ∀ _ : Env,
       Pop Try.prog (binS .lss 3 false true k9 (.int .i64 3)) fun x55 =>
       CondV x55 (
        CallF Try.prog 20 [x20, k9] w8 fun x61 w9 =>
        Pop Try.prog (Instr.extract x61 0) fun x62 =>
        Pop Try.prog (Instr.extract x61 1) fun x63 =>
        Join1 (fun K4 =>
         Pop Try.prog (Instr.indexAt 28 x28 k9) fun x67 =>
         Qop Try.prog (Instr.loadAt 3 x67) w9 fun x68 =>
         Pop Try.prog (binS .geq 3 false true x68 (.int .i64 0)) fun x69 =>
         Pop Try.prog (binS .neq 4 false false x63 x69) fun x70 =>
         CondV x70 (
          K4 (.bool true) w9)
         (
          CondV x63 (
           Pop Try.prog (Instr.indexAt 28 x28 k9) fun x77 =>
           Qop Try.prog (Instr.loadAt 3 x77) w9 fun x78 =>
           Pop Try.prog (binS .neq 3 false false x62 x78) fun x79 =>
           K4 x79 w9)
          (
           K4 (.bool false) w9)))
        (fun x81 w10 => ∀ _ : Env,
         CondV x81 (
          K (.bool false) w10)
         (
          Pop Try.prog (binS .add 3 false true k9 (.int .i64 1)) fun x57 =>
          K3 x57 w10)))
       (
        Pop Try.prog (binS .add 3 false true i7 (.int .i64 1)) fun x36 =>
        K2 x36 w8))
      (fun K3 => K3 (.int .i64 0) w7)))
    (
     Loop1 (fun K5 i12 w11 => ∀ _ : Env,
      Pop Try.prog (binS .lss 3 false false i12 x31) fun x84 =>
      CondV x84 (
       CallF Try.prog 17 [x20, (.int .i64 0)] w11 fun x89 w12 =>
       Pop Try.prog (Instr.extract x89 0) fun x90 =>
       Pop Try.prog (Instr.extract x89 1) fun x91 =>
       Eop Try.prog (Instr.alloc 23 true (.tuple #[])) w12 fun x13 w13 =>
       Uop Try.prog (Instr.storeAt 23 x13 x90) w13 fun w14 =>
       Join1 (fun K6 =>
        Pop Try.prog (binS .neq 30 false true x91 (.int .i64 0)) fun x93 =>
        CondV x93 (
         K6 (.bool true) w14)
        (
         Pop Try.prog (Instr.fieldAt 23 x13 3) fun x95 =>
         Qop Try.prog (Instr.loadAt 3 x95) w14 fun x96 =>
         Pop Try.prog (binS .neq 3 false false x96 i12) fun x98 =>
         K6 x98 w14))
       (fun x99 w15 => ∀ _ : Env,
        CondV x99 (
         K (.bool false) w15)
        (
         Loop1 (fun K7 k15 w16 => ∀ _ : Env,
          Pop Try.prog (binS .lss 3 false true k15 (.int .i64 3)) fun x101 =>
          CondV x101 (
           CallF Try.prog 20 [x20, k15] w16 fun x107 w17 =>
           Pop Try.prog (Instr.extract x107 0) fun x108 =>
           Pop Try.prog (Instr.extract x107 1) fun x109 =>
           Join1 (fun K8 =>
            Pop Try.prog (Instr.indexAt 28 x28 k15) fun x113 =>
            Qop Try.prog (Instr.loadAt 3 x113) w17 fun x114 =>
            Pop Try.prog (binS .gtr 3 false false x114 i12) fun x116 =>
            Pop Try.prog (binS .neq 4 false false x109 x116) fun x117 =>
            CondV x117 (
             K8 (.bool true) w17)
            (
             CondV x109 (
              Pop Try.prog (Instr.indexAt 28 x28 k15) fun x124 =>
              Qop Try.prog (Instr.loadAt 3 x124) w17 fun x125 =>
              Pop Try.prog (binS .neq 3 false false x108 x125) fun x126 =>
              K8 x126 w17)
             (
              K8 (.bool false) w17)))
           (fun x128 w18 => ∀ _ : Env,
            CondV x128 (
             K (.bool false) w18)
            (
             Pop Try.prog (binS .add 3 false true k15 (.int .i64 1)) fun x103 =>
             K7 x103 w18)))
          (
           Pop Try.prog (binS .add 3 false true i12 (.int .i64 1)) fun x86 =>
           K5 x86 w16))
         (fun K7 => K7 (.int .i64 0) w15))))
      (
       CallF Try.prog 13 [] w11 fun x129 w19 =>
       K x129 w19))
     (fun K5 => K5 (.int .i64 0) w4)))
   (fun K2 => K2 (.int .i64 0) w3)))
set_option maxRecDepth 100000 in
theorem S5_eq (cells0 : Value) (w : World) (K : Value → World → Prop) : D Try.prog 130 (fun _ => ([], [])) 4 ((Try.f5.body).getD .skip) [] 4 (retQ Try.prog [.tmp 2] K) [] (env0 [cells0]) w = S5 cells0 w K := by kernel_rfl
set_option maxRecDepth 100000 in
theorem S5_ok (cells0 : Value) (w : World) (K : Value → World → Prop) (h : S5 cells0 w K) : Calls Try.prog 5 [cells0].toArray w (Ret K) :=
  calls_of_D mixed Try.func5 (show _ = some ((Try.f5.body).getD .skip) from by kernel_rfl) (by kernel_rfl) (by kernel_rfl) (by simp) ((S_eq (S5_eq cells0 w K)).mpr h)

set_option maxRecDepth 100000 in
/-- leadline/leadlinelaw12.BufferRoom -/
def S6 (room0 script1 : Value) (w : World) (K : Value → World → Prop) : Prop :=
 Pop Try.prog (binS .and 3 false true room0 (.int .i64 7)) fun x15 =>
 Pop Try.prog (binS .add 3 true false (.int .i64 1) x15) fun x16 =>
 CallF Try.prog 14 [x16] w fun x19 w1 =>
 Pop Try.prog (Instr.extract x19 0) fun x20 =>
 Pop Try.prog (Instr.extract x19 1) fun x21 =>
 Join1 (fun K1 =>
  Pop Try.prog (binS .eql 29 false true x20 (.pointer none)) fun x23 =>
  CondV x23 (
   K1 (.bool true) w1)
  (
   Pop Try.prog (binS .neq 30 false true x21 (.int .i64 0)) fun x26 =>
   K1 x26 w1))
 (fun x27 w2 => ∀ _ : Env,
  CondV x27 (
   K (.bool false) w2)
  (
   Loop2 (fun K2 many8 i9 w3 => ∀ _ : Env,
    Join1 (fun K3 =>
     Pop Try.prog (Builtin.len_ #[44] 3 [script1].toArray) fun x30 =>
     Pop Try.prog (binS .lss 3 false false i9 x30) fun x31 =>
     CondV x31 (
      Pop Try.prog (binS .lss 3 false true i9 (.int .i64 40)) fun x34 =>
      K3 x34 w3)
     (
      K3 (.bool false) w3))
    (fun x35 w4 => ∀ _ : Env,
     CondV x35 (
      Join1 (fun K4 =>
       Pop Try.prog (Instr.indexAt 44 script1 i9) fun x40 =>
       Pop Try.prog (Instr.fieldAt 46 x40 0) fun x41 =>
       Qop Try.prog (Instr.loadAt 3 x41) w4 fun x42 =>
       Pop Try.prog (binS .eql 3 false true x42 (.int .i64 1)) fun x43 =>
       CondV x43 (
        CallF Try.prog 17 [x20, (.int .i64 0)] w4 fun x46 w5 =>
        Pop Try.prog (Instr.extract x46 0) fun x47 =>
        Pop Try.prog (Instr.extract x46 1) fun x48 =>
        Eop Try.prog (Instr.alloc 23 true (.tuple #[])) w5 fun x10 w6 =>
        Uop Try.prog (Instr.storeAt 23 x10 x47) w6 fun w7 =>
        Pop Try.prog (binS .eql 30 false true x48 (.int .i64 0)) fun x50 =>
        Pop Try.prog (binS .gtr 3 false true many8 (.int .i64 0)) fun x52 =>
        Pop Try.prog (binS .neq 4 false false x50 x52) fun x53 =>
        CondV x53 (
         K (.bool false) w7)
        (
         Pop Try.prog (binS .sub 3 false true many8 (.int .i64 1)) fun x55 =>
         Pop Try.prog (Builtin.max_ #[3, 3] 3 [(.int .i64 0), x55].toArray) fun x56 =>
         K4 x56 w7))
       (
        Pop Try.prog (Instr.indexAt 44 script1 i9) fun x60 =>
        Pop Try.prog (Instr.fieldAt 46 x60 1) fun x61 =>
        Qop Try.prog (Instr.loadAt 23 x61) w4 fun x62 =>
        CallF Try.prog 15 [x20, x62] w4 fun x63 w8 =>
        Join1 (fun K5 =>
         Pop Try.prog (Instr.indexAt 44 script1 i9) fun x66 =>
         Pop Try.prog (Instr.fieldAt 46 x66 1) fun x67 =>
         Qop Try.prog (Instr.loadAt 23 x67) w8 fun x68 =>
         CallF Try.prog 11 [x68] w8 fun x69 w9 =>
         CondV x69 (
          Pop Try.prog (binS .lss 3 false false many8 x16) fun x73 =>
          K5 x73 w9)
         (
          K5 (.bool false) w9))
        (fun ok13 w10 => ∀ _ : Env,
         Join1 (fun K6 =>
          Pop Try.prog (binS .eql 30 false true x63 (.int .i64 0)) fun x76 =>
          Pop Try.prog (binS .neq 4 false false x76 ok13) fun x78 =>
          CondV x78 (
           K6 (.bool true) w10)
          (
           Pop Try.prog (binS .neq 30 false true x63 (.int .i64 0)) fun x81 =>
           CondV x81 (
            Pop Try.prog (binS .eql 30 false true x63 (.int .i64 2)) fun x84 =>
            Pop Try.prog (Instr.indexAt 44 script1 i9) fun x87 =>
            Pop Try.prog (Instr.fieldAt 46 x87 1) fun x88 =>
            Qop Try.prog (Instr.loadAt 23 x88) w10 fun x89 =>
            CallF Try.prog 11 [x89] w10 fun x90 w11 =>
            Pop Try.prog (binS .neq 4 false false x84 x90) fun x91 =>
            K6 x91 w11)
           (
            K6 (.bool false) w10)))
         (fun x93 w12 => ∀ _ : Env,
          CondV x93 (
           K (.bool false) w12)
          (
           Join1 (fun K7 =>
            CondV ok13 (
             Pop Try.prog (binS .add 3 false true many8 (.int .i64 1)) fun x96 =>
             K7 x96 w12)
            (
             K7 many8 w12))
           (fun many8_1 w13 => ∀ _ : Env,
            Join1 (fun K8 =>
             CallF Try.prog 18 [x20] w13 fun x98 w14 =>
             Pop Try.prog (Builtin.len_ #[27] 3 [x98].toArray) fun x99 =>
             Pop Try.prog (binS .neq 3 false false x99 many8_1) fun x101 =>
             CondV x101 (
              K8 (.bool true) w14)
             (
              CallF Try.prog 21 [x20] w14 fun x104 w15 =>
              Pop Try.prog (binS .eql 3 false false many8_1 x16) fun x107 =>
              Pop Try.prog (binS .neq 4 false false x104 x107) fun x108 =>
              K8 x108 w15))
            (fun x109 w16 => ∀ _ : Env,
             CondV x109 (
              K (.bool false) w16)
             (
              K4 many8_1 w16))))))))
      (fun many8_2 w17 => ∀ _ : Env,
       Pop Try.prog (binS .add 3 false true i9 (.int .i64 1)) fun x37 =>
       K2 many8_2 x37 w17))
     (
      CallF Try.prog 13 [] w4 fun x110 w18 =>
      K x110 w18)))
   (fun K2 => K2 (.int .i64 0) (.int .i64 0) w2)))
set_option maxRecDepth 100000 in
theorem S6_eq (room0 script1 : Value) (w : World) (K : Value → World → Prop) : D Try.prog 111 (fun _ => ([], [])) 16 ((Try.f6.body).getD .skip) [] 16 (retQ Try.prog [.tmp 4] K) [] (env0 [room0, script1]) w = S6 room0 script1 w K := by kernel_rfl
set_option maxRecDepth 100000 in
theorem S6_ok (room0 script1 : Value) (w : World) (K : Value → World → Prop) (h : S6 room0 script1 w K) : Calls Try.prog 6 [room0, script1].toArray w (Ret K) :=
  calls_of_D mixed Try.func6 (show _ = some ((Try.f6.body).getD .skip) from by kernel_rfl) (by kernel_rfl) (by kernel_rfl) (by simp) ((S_eq (S6_eq room0 script1 w K)).mpr h)

set_option maxRecDepth 100000 in
/-- leadline/leadlinelaw12.BufferDoes -/
def S7 (room0 script1 : Value) (w : World) (K : Value → World → Prop) : Prop :=
 CallF Try.prog 14 [room0] w fun x24 w1 =>
 Pop Try.prog (Instr.extract x24 0) fun x25 =>
 Pop Try.prog (Instr.extract x24 1) fun x26 =>
 CallF Try.prog 22 [room0] w1 fun x29 w2 =>
 Pop Try.prog (Instr.extract x29 0) fun x30 =>
 Pop Try.prog (Instr.extract x29 1) fun x31 =>
 Join1 (fun K1 =>
  Pop Try.prog (binS .neq 30 false false x26 x31) fun x34 =>
  CondV x34 (
   K1 (.bool true) w2)
  (
   Pop Try.prog (binS .eql 29 false true x25 (.pointer none)) fun x37 =>
   Pop Try.prog (binS .eql 48 false true x30 (.pointer none)) fun x39 =>
   Pop Try.prog (binS .neq 4 false false x37 x39) fun x40 =>
   K1 x40 w2))
 (fun x41 w3 => ∀ _ : Env,
  CondV x41 (
   K (.bool false) w3)
  (
   Join1 (fun K2 =>
    Pop Try.prog (binS .eql 29 false true x25 (.pointer none)) fun x43 =>
    CondV x43 (
     K2 (.bool true) w3)
    (
     Pop Try.prog (binS .eql 48 false true x30 (.pointer none)) fun x46 =>
     K2 x46 w3))
   (fun x47 w4 => ∀ _ : Env,
    CondV x47 (
     CallF Try.prog 13 [] w4 fun x48 w5 =>
     K x48 w5)
    (
     Loop2 (fun K3 b5 i9 w6 => ∀ _ : Env,
      Join1 (fun K4 =>
       Pop Try.prog (Builtin.len_ #[44] 3 [script1].toArray) fun x51 =>
       Pop Try.prog (binS .lss 3 false false i9 x51) fun x52 =>
       CondV x52 (
        Pop Try.prog (binS .lss 3 false true i9 (.int .i64 80)) fun x55 =>
        K4 x55 w6)
       (
        K4 (.bool false) w6))
      (fun x56 w7 => ∀ _ : Env,
       CondV x56 (
        Pop Try.prog (Instr.indexAt 44 script1 i9) fun x61 =>
        Qop Try.prog (Instr.loadAt 46 x61) w7 fun x62 =>
        Eop Try.prog (Instr.alloc 46 true (.tuple #[])) w7 fun o10 w8 =>
        Uop Try.prog (Instr.storeAt 46 o10 x62) w8 fun w9 =>
        Pop Try.prog (Instr.build 23 [].toArray) fun x63 =>
        Pop Try.prog (Instr.build 23 [].toArray) fun x64 =>
        Eop Try.prog (Instr.alloc 23 true (.tuple #[])) w9 fun p11 w10 =>
        Eop Try.prog (Instr.alloc 23 true (.tuple #[])) w10 fun q12 w11 =>
        Uop Try.prog (Instr.storeAt 23 p11 x63) w11 fun w12 =>
        Uop Try.prog (Instr.storeAt 23 q12 x64) w12 fun w13 =>
        Join3 (fun K5 =>
         Pop Try.prog (Instr.fieldAt 46 o10 0) fun x65 =>
         Qop Try.prog (Instr.loadAt 3 x65) w13 fun x66 =>
         Pop Try.prog (binS .eql 3 false true x66 (.int .i64 0)) fun x68 =>
         CondV x68 (
          Pop Try.prog (Instr.fieldAt 46 o10 1) fun x70 =>
          Qop Try.prog (Instr.loadAt 23 x70) w13 fun x71 =>
          CallF Try.prog 15 [b5, x71] w13 fun x72 w14 =>
          Pop Try.prog (Instr.fieldAt 46 o10 1) fun x74 =>
          Qop Try.prog (Instr.loadAt 23 x74) w14 fun x75 =>
          CallF Try.prog 23 [x30, x75] w14 fun x76 w15 =>
          K5 b5 x72 x76 w15)
         (
          Pop Try.prog (binS .eql 3 false true x66 (.int .i64 1)) fun x78 =>
          CondV x78 (
           Pop Try.prog (Instr.fieldAt 46 o10 2) fun x81 =>
           Qop Try.prog (Instr.loadAt 3 x81) w13 fun x82 =>
           CallF Try.prog 17 [b5, x82] w13 fun x83 w16 =>
           Pop Try.prog (Instr.extract x83 0) fun x84 =>
           Pop Try.prog (Instr.extract x83 1) fun x85 =>
           Uop Try.prog (Instr.storeAt 23 p11 x84) w16 fun w17 =>
           Pop Try.prog (Instr.fieldAt 46 o10 2) fun x88 =>
           Qop Try.prog (Instr.loadAt 3 x88) w17 fun x89 =>
           CallF Try.prog 24 [x30, x89] w17 fun x90 w18 =>
           Pop Try.prog (Instr.extract x90 0) fun x91 =>
           Pop Try.prog (Instr.extract x90 1) fun x92 =>
           Uop Try.prog (Instr.storeAt 23 q12 x91) w18 fun w19 =>
           K5 b5 x85 x92 w19)
          (
           Pop Try.prog (binS .eql 3 false true x66 (.int .i64 2)) fun x94 =>
           CondV x94 (
            CallF Try.prog 25 [b5] w13 fun x97 w20 =>
            CallF Try.prog 26 [(.int .i64 3)] w20 fun x99 w21 =>
            CallF Try.prog 15 [b5, x99] w21 fun _ w22 =>
            CallF Try.prog 17 [b5, (.int .i64 0)] w22 fun _ w23 =>
            Pop Try.prog (binS .eql 29 false true x97 (.pointer none)) fun x104 =>
            CondV x104 (
             K (.bool false) w23)
            (
             K5 x97 (.int .i64 0) (.int .i64 0) w23))
           (
            K5 b5 (.int .i64 0) (.int .i64 0) w13))))
        (fun b5_1 x13 y14 w24 => ∀ _ : Env,
         Pop Try.prog (Instr.fieldAt 46 o10 1) fun x107 =>
         Pop Try.prog (Instr.fieldAt 23 x107 2) fun x108 =>
         Qop Try.prog (Instr.loadAt 3 x108) w24 fun x109 =>
         CallF Try.prog 20 [b5_1, x109] w24 fun x110 w25 =>
         Pop Try.prog (Instr.extract x110 0) fun x111 =>
         Pop Try.prog (Instr.extract x110 1) fun x112 =>
         Pop Try.prog (Instr.fieldAt 46 o10 1) fun x115 =>
         Pop Try.prog (Instr.fieldAt 23 x115 2) fun x116 =>
         Qop Try.prog (Instr.loadAt 3 x116) w25 fun x117 =>
         CallF Try.prog 27 [x30, x117] w25 fun x118 w26 =>
         Pop Try.prog (Instr.extract x118 0) fun x119 =>
         Pop Try.prog (Instr.extract x118 1) fun x120 =>
         CallF Try.prog 18 [b5_1] w26 fun x122 w27 =>
         Join1 (fun K6 =>
          Qop Try.prog (Instr.loadAt 23 p11) (drew w27) fun x123 =>
          Qop Try.prog (Instr.loadAt 23 q12) (drew w27) fun x124 =>
          Pop Try.prog (binS .neq 23 false false x123 x124) fun x125 =>
          CondV x125 (
           K6 (.bool true) (drew w27))
          (
           Pop Try.prog (binS .neq 30 false false x13 y14) fun x129 =>
           CondV x129 (
            K6 (.bool true) (drew w27))
           (
            Pop Try.prog (binS .neq 3 false false x111 x119) fun x134 =>
            CondV x134 (
             K6 (.bool true) (drew w27))
            (
             Pop Try.prog (binS .neq 4 false false x112 x120) fun x139 =>
             CondV x139 (
              K6 (.bool true) (drew w27))
             (
              Pop Try.prog (nilS x30) fun x144 =>
              Pop Try.prog (Instr.fieldAt 55 x144 1) fun x145 =>
              Qop Try.prog (Instr.loadAt 27 x145) (drew w27) fun x146 =>
              CallF Try.prog 28 [x122, x146] (drew w27) fun x147 w28 =>
              Pop Try.prog (Op.unary .not x147) fun x148 =>
              CondV x148 (
               K6 (.bool true) w28)
              (
               CallF Try.prog 16 [b5_1] w28 fun x152 w29 =>
               CallF Try.prog 30 [x30] w29 fun x154 w30 =>
               CallF Try.prog 29 [x152, x154] w30 fun x155 w31 =>
               Pop Try.prog (Op.unary .not x155) fun x156 =>
               CondV x156 (
                K6 (.bool true) w31)
               (
                Pop Try.prog (Instr.fieldAt 46 o10 2) fun x160 =>
                Qop Try.prog (Instr.loadAt 3 x160) w31 fun x161 =>
                Pop Try.prog (Instr.fieldAt 46 o10 2) fun x164 =>
                Qop Try.prog (Instr.loadAt 3 x164) w31 fun x165 =>
                CallF Try.prog 31 [b5_1, x161] w31 fun x162 w32 =>
                KeepAnd Try.prog (Instr.loadAt 3 x164) x165 w32 (
                CallF Try.prog 32 [x30, x165] w32 fun x166 w33 =>
                Pop Try.prog (binS .neq 4 false false x162 x166) fun x167 =>
                CondV x167 (
                 K6 (.bool true) w33)
                (
                 Pop Try.prog (nilS x30) fun x173 =>
                 Pop Try.prog (Instr.fieldAt 55 x173 1) fun x174 =>
                 Qop Try.prog (Instr.loadAt 27 x174) w33 fun x175 =>
                 Pop Try.prog (Builtin.len_ #[27] 3 [x175].toArray) fun x176 =>
                 Pop Try.prog (nilS x30) fun x178 =>
                 Pop Try.prog (Instr.fieldAt 55 x178 0) fun x179 =>
                 Qop Try.prog (Instr.loadAt 3 x179) w33 fun x180 =>
                 Pop Try.prog (binS .geq 3 false false x176 x180) fun x181 =>
                 CallF Try.prog 21 [b5_1] w33 fun x171 w34 =>
                 KeepAnd Try.prog (Instr.loadAt 27 x174) x175 w34 (
                 KeepAnd Try.prog (Instr.loadAt 3 x179) x180 w34 (
                 Pop Try.prog (binS .neq 4 false false x171 x181) fun x182 =>
                 K6 x182 w34)))))))))))
         (fun x183 w35 => ∀ _ : Env,
          CondV x183 (
           K (.bool false) w35)
          (
           Loop1 (fun K7 j21 w36 => ∀ _ : Env,
            Pop Try.prog (Builtin.len_ #[27] 3 [x122].toArray) fun x186 =>
            Pop Try.prog (binS .lss 3 false false j21 x186) fun x187 =>
            CondV x187 (
             Pop Try.prog (Instr.indexAt 27 x122 j21) fun x192 =>
             Pop Try.prog (Instr.fieldAt 23 x192 3) fun x193 =>
             Uop Try.prog (Instr.storeAt 3 x193 (.int .i64 99)) w36 fun w37 =>
             Pop Try.prog (binS .add 3 false true j21 (.int .i64 1)) fun x189 =>
             K7 x189 w37)
            (
             Pop Try.prog (binS .add 3 false true i9 (.int .i64 1)) fun x58 =>
             K3 b5_1 x58 w36))
           (fun K7 => K7 (.int .i64 0) w35)))))
       (
        CallF Try.prog 13 [] w7 fun x194 w38 =>
        K x194 w38)))
     (fun K3 => K3 x25 (.int .i64 0) w4)))))
def S7pl : Plans := fun i => match i with
  | 29 => ([(0, []), (1, []), (2, []), (3, []), (4, []), (5, []), (6, []), (7, []), (8, []), (9, []), (10, []), (11, []), (12, []), (13, []), (14, []), (15, []), (16, []), (17, []), (18, []), (19, []), (20, []), (21, []), (22, []), (23, []), (24, []), (25, []), (26, []), (27, []), (28, []), (30, []), (29, []), (31, []), (32, []), (33, []), (34, []), (35, []), (36, []), (37, []), (38, []), (40, []), (41, []), (42, []), (39, [42]), (43, []), (44, []), (45, []), (46, []), (47, []), (49, []), (50, []), (51, []), (52, []), (53, []), (54, []), (55, []), (56, []), (57, []), (58, []), (48, [52, 57]), (59, []), (60, [])], [0, 0, 3, 7, 15, 15, 63, 127, 255, 511, 511, 2047, 4095, 8191, 16383, 16383, 65535, 131071, 262143, 524287, 524287, 1572863, 3670015, 7864319, 16777215, 33554431, 67108863, 134217727, 268435455, 536870911, 268435455, 2147483647, 4294967295, 8589934591, 17179869183, 34359738367, 68719476735, 68719476735, 206158430207, 549755813887, 68719476735, 68719476735, 2267742732287, 8796093022207, 17592186044415, 35184372088831, 70368744177663, 140737488355327, 281474976710655, 140737488355327, 703687441776639, 1829587348619263, 4081387162304511, 8584986789675007, 140737488355327, 18155135997837311, 54183933016801279, 126241527054729215, 287808163686645759, 576460752303423487, 1152921504606846975])
  | _ => ([], [])
set_option maxRecDepth 100000 in
theorem S7_eq (room0 script1 : Value) (w : World) (K : Value → World → Prop) : D Try.prog 195 (S7pl) 16 ((Try.f7.body).getD .skip) [] 16 (retQ Try.prog [.tmp 4] K) [] (env0 [room0, script1]) w = S7 room0 script1 w K := by kernel_rfl
set_option maxRecDepth 100000 in
theorem S7_ok (room0 script1 : Value) (w : World) (K : Value → World → Prop) (h : S7 room0 script1 w K) : Calls Try.prog 7 [room0, script1].toArray w (Ret K) :=
  calls_of_D mixed Try.func7 (show _ = some ((Try.f7.body).getD .skip) from by kernel_rfl) (by kernel_rfl) (by kernel_rfl) (by simp) ((S_eq (S7_eq room0 script1 w K)).mpr h)

set_option maxRecDepth 100000 in
/-- leadline/leadlinelaw12.BufferCopies -/
def S8 (l0 : Value) (w : World) (K : Value → World → Prop) : Prop :=
 CallF Try.prog 14 [(.int .i64 12)] w fun x11 w1 =>
 Pop Try.prog (Instr.extract x11 0) fun x12 =>
 Pop Try.prog (Instr.extract x11 1) fun x13 =>
 Join1 (fun K1 =>
  Pop Try.prog (binS .eql 29 false true x12 (.pointer none)) fun x15 =>
  CondV x15 (
   K1 (.bool true) w1)
  (
   Pop Try.prog (binS .neq 30 false true x13 (.int .i64 0)) fun x18 =>
   K1 x18 w1))
 (fun x19 w2 => ∀ _ : Env,
  CondV x19 (
   K (.bool false) w2)
  (
   Loop1 (fun K2 i5 w3 => ∀ _ : Env,
    Join1 (fun K3 =>
     Pop Try.prog (Builtin.len_ #[27] 3 [l0].toArray) fun x22 =>
     Pop Try.prog (binS .lss 3 false false i5 x22) fun x23 =>
     CondV x23 (
      Pop Try.prog (binS .lss 3 false true i5 (.int .i64 12)) fun x26 =>
      K3 x26 w3)
     (
      K3 (.bool false) w3))
    (fun x27 w4 => ∀ _ : Env,
     CondV x27 (
      Pop Try.prog (Instr.indexAt 27 l0 i5) fun x33 =>
      Qop Try.prog (Instr.loadAt 23 x33) w4 fun x34 =>
      CallF Try.prog 15 [x12, x34] w4 fun _ w5 =>
      Pop Try.prog (binS .add 3 false true i5 (.int .i64 1)) fun x29 =>
      K2 x29 w5)
     (
      CallF Try.prog 25 [x12] w4 fun x37 w6 =>
      Pop Try.prog (binS .eql 29 false true x37 (.pointer none)) fun x39 =>
      CondV x39 (
       K (.bool false) w6)
      (
       CallF Try.prog 18 [x12] w6 fun x41 w7 =>
       Loop1 (fun K4 i8 w8 => ∀ _ : Env,
        Pop Try.prog (Builtin.len_ #[27] 3 [x41].toArray) fun x44 =>
        Pop Try.prog (binS .lss 3 false false i8 x44) fun x45 =>
        CondV x45 (
         CallF Try.prog 31 [x12, i8] w8 fun x50 w9 =>
         CallF Try.prog 31 [x37, i8] w9 fun x53 w10 =>
         Pop Try.prog (binS .neq 4 false false x50 x53) fun x54 =>
         CondV x54 (
          K (.bool false) w10)
         (
          Pop Try.prog (binS .add 3 false true i8 (.int .i64 1)) fun x47 =>
          K4 x47 w10))
        (
         Loop1 (fun K5 i9 w11 => ∀ _ : Env,
          Pop Try.prog (Builtin.len_ #[27] 3 [x41].toArray) fun x57 =>
          Pop Try.prog (binS .lss 3 false false i9 x57) fun x58 =>
          CondV x58 (
           CallF Try.prog 17 [x37, (.int .i64 0)] w11 fun _ w12 =>
           Pop Try.prog (binS .add 3 false true i9 (.int .i64 1)) fun x60 =>
           K5 x60 w12)
          (
           Join1 (fun K6 =>
            CallF Try.prog 18 [x37] w11 fun x64 w13 =>
            Pop Try.prog (Builtin.len_ #[27] 3 [x64].toArray) fun x65 =>
            Pop Try.prog (binS .eql 3 false true x65 (.int .i64 0)) fun x66 =>
            CondV x66 (
             CallF Try.prog 18 [x12] w13 fun x69 w14 =>
             CallF Try.prog 28 [x69, x41] w14 fun x71 w15 =>
             CondV x71 (
              CallF Try.prog 21 [x12] w15 fun x75 w16 =>
              Pop Try.prog (Builtin.len_ #[27] 3 [x41].toArray) fun x77 =>
              Pop Try.prog (binS .eql 3 false true x77 (.int .i64 12)) fun x78 =>
              Pop Try.prog (binS .eql 4 false false x75 x78) fun x79 =>
              CondV x79 (
               CallF Try.prog 13 [] w16 fun x82 w17 =>
               K6 x82 w17)
              (
               K6 (.bool false) w16))
             (
              K6 (.bool false) w15))
            (
             K6 (.bool false) w13))
           (fun x2 w18 => ∀ _ : Env,
            K x2 w18)))
         (fun K5 => K5 (.int .i64 0) w8)))
       (fun K4 => K4 (.int .i64 0) w7)))))
   (fun K2 => K2 (.int .i64 0) w2)))
set_option maxRecDepth 100000 in
theorem S8_eq (l0 : Value) (w : World) (K : Value → World → Prop) : D Try.prog 84 (fun _ => ([], [])) 4 ((Try.f8.body).getD .skip) [] 4 (retQ Try.prog [.tmp 2] K) [] (env0 [l0]) w = S8 l0 w K := by kernel_rfl
set_option maxRecDepth 100000 in
theorem S8_ok (l0 : Value) (w : World) (K : Value → World → Prop) (h : S8 l0 w K) : Calls Try.prog 8 [l0].toArray w (Ret K) :=
  calls_of_D mixed Try.func8 (show _ = some ((Try.f8.body).getD .skip) from by kernel_rfl) (by kernel_rfl) (by kernel_rfl) (by simp) ((S_eq (S8_eq l0 w K)).mpr h)

set_option maxRecDepth 100000 in
/-- leadline/buffer.Passes -/
def S9 (x0 ahead1 : Value) (w : World) (K : Value → World → Prop) : Prop :=
 Eop Try.prog (Instr.box 23 x0) w fun x2 w1 =>
 Eop Try.prog (Instr.box 23 ahead1) w1 fun ahead3 w2 =>
 Join1 (fun K1 =>
  Pop Try.prog (Instr.fieldAt 23 x2 0) fun x6 =>
  Qop Try.prog (Instr.loadAt 3 x6) w2 fun x7 =>
  Pop Try.prog (binS .eql 3 false true x7 (.int .i64 7)) fun x8 =>
  CondV x8 (
   K1 (.bool true) w2)
  (
   Pop Try.prog (Instr.fieldAt 23 ahead3 0) fun x10 =>
   Qop Try.prog (Instr.loadAt 3 x10) w2 fun x11 =>
   Pop Try.prog (binS .eql 3 false true x11 (.int .i64 7)) fun x12 =>
   K1 x12 w2))
 (fun fence5 w3 => ∀ _ : Env,
  Join1 (fun K2 =>
   Pop Try.prog (Op.unary .not fence5) fun x15 =>
   CondV x15 (
    Pop Try.prog (Instr.fieldAt 23 x2 0) fun x17 =>
    Qop Try.prog (Instr.loadAt 3 x17) w3 fun x18 =>
    Pop Try.prog (binS .eql 3 false true x18 (.int .i64 6)) fun x19 =>
    CondV x19 (
     Pop Try.prog (Instr.fieldAt 23 x2 1) fun x27 =>
     Qop Try.prog (Instr.loadAt 3 x27) w3 fun x28 =>
     Pop Try.prog (Instr.fieldAt 23 ahead3 1) fun x29 =>
     Qop Try.prog (Instr.loadAt 3 x29) w3 fun x30 =>
     Pop Try.prog (binS .neq 3 false false x28 x30) fun x31 =>
     K2 x31 w3)
    (
     Pop Try.prog (Instr.fieldAt 23 ahead3 0) fun x21 =>
     Qop Try.prog (Instr.loadAt 3 x21) w3 fun x22 =>
     Pop Try.prog (binS .eql 3 false true x22 (.int .i64 6)) fun x23 =>
     CondV x23 (
      Pop Try.prog (Instr.fieldAt 23 x2 1) fun x27_1 =>
      Qop Try.prog (Instr.loadAt 3 x27_1) w3 fun x28_1 =>
      Pop Try.prog (Instr.fieldAt 23 ahead3 1) fun x29_1 =>
      Qop Try.prog (Instr.loadAt 3 x29_1) w3 fun x30_1 =>
      Pop Try.prog (binS .neq 3 false false x28_1 x30_1) fun x31_1 =>
      K2 x31_1 w3)
     (
      K2 (.bool false) w3)))
   (
    K2 (.bool false) w3))
  (fun x4 w4 => ∀ _ : Env,
   K x4 w4))
set_option maxRecDepth 100000 in
theorem S9_eq (x0 ahead1 : Value) (w : World) (K : Value → World → Prop) : D Try.prog 33 (fun _ => ([], [])) 16 ((Try.f9.body).getD .skip) [] 16 (retQ Try.prog [.tmp 4] K) [] (env0 [x0, ahead1]) w = S9 x0 ahead1 w K := by kernel_rfl
set_option maxRecDepth 100000 in
theorem S9_ok (x0 ahead1 : Value) (w : World) (K : Value → World → Prop) (h : S9 x0 ahead1 w K) : Calls Try.prog 9 [x0, ahead1].toArray w (Ret K) :=
  calls_of_D mixed Try.func9 (show _ = some ((Try.f9.body).getD .skip) from by kernel_rfl) (by kernel_rfl) (by kernel_rfl) (by simp) ((S_eq (S9_eq x0 ahead1 w K)).mpr h)

set_option maxRecDepth 100000 in
/-- leadline/leadlineref12.Passes -/
def S10 (x0 y1 : Value) (w : World) (K : Value → World → Prop) : Prop :=
 Eop Try.prog (Instr.box 23 x0) w fun x2 w1 =>
 Eop Try.prog (Instr.box 23 y1) w1 fun y3 w2 =>
 Join1 (fun K1 =>
  Pop Try.prog (Instr.fieldAt 23 x2 0) fun x5 =>
  Qop Try.prog (Instr.loadAt 3 x5) w2 fun x6 =>
  Pop Try.prog (binS .eql 3 false true x6 (.int .i64 7)) fun x7 =>
  CondV x7 (
   K1 (.bool true) w2)
  (
   Pop Try.prog (Instr.fieldAt 23 y3 0) fun x9 =>
   Qop Try.prog (Instr.loadAt 3 x9) w2 fun x10 =>
   Pop Try.prog (binS .eql 3 false true x10 (.int .i64 7)) fun x11 =>
   CondV x11 (
    K1 (.bool true) w2)
   (
    Pop Try.prog (Instr.fieldAt 23 x2 1) fun x14 =>
    Qop Try.prog (Instr.loadAt 3 x14) w2 fun x15 =>
    Pop Try.prog (Instr.fieldAt 23 y3 1) fun x16 =>
    Qop Try.prog (Instr.loadAt 3 x16) w2 fun x17 =>
    Pop Try.prog (binS .eql 3 false false x15 x17) fun x18 =>
    K1 x18 w2)))
 (fun x19 w3 => ∀ _ : Env,
  CondV x19 (
   K (.bool false) w3)
  (
   Join1 (fun K2 =>
    Pop Try.prog (Instr.fieldAt 23 x2 0) fun x20 =>
    Qop Try.prog (Instr.loadAt 3 x20) w3 fun x21 =>
    Pop Try.prog (binS .eql 3 false true x21 (.int .i64 6)) fun x22 =>
    CondV x22 (
     K2 (.bool true) w3)
    (
     Pop Try.prog (Instr.fieldAt 23 y3 0) fun x24 =>
     Qop Try.prog (Instr.loadAt 3 x24) w3 fun x25 =>
     Pop Try.prog (binS .eql 3 false true x25 (.int .i64 6)) fun x26 =>
     K2 x26 w3))
   (fun x4 w4 => ∀ _ : Env,
    K x4 w4)))
set_option maxRecDepth 100000 in
theorem S10_eq (x0 y1 : Value) (w : World) (K : Value → World → Prop) : D Try.prog 28 (fun _ => ([], [])) 16 ((Try.f10.body).getD .skip) [] 16 (retQ Try.prog [.tmp 4] K) [] (env0 [x0, y1]) w = S10 x0 y1 w K := by kernel_rfl
set_option maxRecDepth 100000 in
theorem S10_ok (x0 y1 : Value) (w : World) (K : Value → World → Prop) (h : S10 x0 y1 w K) : Calls Try.prog 10 [x0, y1].toArray w (Ret K) :=
  calls_of_D mixed Try.func10 (show _ = some ((Try.f10.body).getD .skip) from by kernel_rfl) (by kernel_rfl) (by kernel_rfl) (by simp) ((S_eq (S10_eq x0 y1 w K)).mpr h)

set_option maxRecDepth 100000 in
/-- leadline/buffer.Right -/
def S11 (x0 : Value) (w : World) (K : Value → World → Prop) : Prop :=
 Eop Try.prog (Instr.box 23 x0) w fun x1 w1 =>
 Pop Try.prog (Instr.fieldAt 23 x1 0) fun x3 =>
 Qop Try.prog (Instr.loadAt 3 x3) w1 fun x4 =>
 Pop Try.prog (binS .eql 3 false true x4 (.int .i64 3)) fun x6 =>
 CondV x6 (
  Join1 (fun K1 =>
   Pop Try.prog (Instr.fieldAt 23 x1 1) fun x7 =>
   Qop Try.prog (Instr.loadAt 3 x7) w1 fun x8 =>
   Pop Try.prog (binS .geq 3 false true x8 (.int .i64 0)) fun x9 =>
   CondV x9 (
    Pop Try.prog (Instr.fieldAt 23 x1 2) fun x11 =>
    Qop Try.prog (Instr.loadAt 3 x11) w1 fun x12 =>
    Pop Try.prog (binS .geq 3 false true x12 (.int .i64 0)) fun x13 =>
    K1 x13 w1)
   (
    K1 (.bool false) w1))
  (fun x2 w2 => ∀ _ : Env,
   K x2 w2))
 (
  Join1 (fun K2 =>
   Pop Try.prog (binS .eql 3 false true x4 (.int .i64 5)) fun x16 =>
   CondV x16 (
    K2 x16 w1)
   (
    Pop Try.prog (binS .eql 3 false true x4 (.int .i64 6)) fun x17 =>
    K2 x17 w1))
  (fun x15 w3 => ∀ _ : Env,
   CondV x15 (
    Join1 (fun K3 =>
     Pop Try.prog (Instr.fieldAt 23 x1 1) fun x18 =>
     Qop Try.prog (Instr.loadAt 3 x18) w3 fun x19 =>
     Pop Try.prog (binS .geq 3 false true x19 (.int .i64 0)) fun x20 =>
     CondV x20 (
      Pop Try.prog (Instr.fieldAt 23 x1 2) fun x22 =>
      Qop Try.prog (Instr.loadAt 3 x22) w3 fun x23 =>
      Pop Try.prog (binS .eql 3 false true x23 (.int .i64 0)) fun x24 =>
      CondV x24 (
       Pop Try.prog (Instr.fieldAt 23 x1 3) fun x27 =>
       Qop Try.prog (Instr.loadAt 3 x27) w3 fun x28 =>
       Pop Try.prog (binS .eql 3 false true x28 (.int .i64 0)) fun x29 =>
       K3 x29 w3)
      (
       K3 (.bool false) w3))
     (
      K3 (.bool false) w3))
    (fun x2_1 w4 => ∀ _ : Env,
     K x2_1 w4))
   (
    Qop Try.prog (Instr.loadAt 23 x1) w3 fun x31 =>
    Pop Try.prog (Instr.build 23 [(0, (.int .i64 7))].toArray) fun x32 =>
    Pop Try.prog (binS .eql 23 false false x31 x32) fun x33 =>
    K x33 w3)))
set_option maxRecDepth 100000 in
theorem S11_eq (x0 : Value) (w : World) (K : Value → World → Prop) : D Try.prog 34 (fun _ => ([], [])) 4 ((Try.f11.body).getD .skip) [] 4 (retQ Try.prog [.tmp 2] K) [] (env0 [x0]) w = S11 x0 w K := by kernel_rfl
set_option maxRecDepth 100000 in
theorem S11_ok (x0 : Value) (w : World) (K : Value → World → Prop) (h : S11 x0 w K) : Calls Try.prog 11 [x0].toArray w (Ret K) :=
  calls_of_D mixed Try.func11 (show _ = some ((Try.f11.body).getD .skip) from by kernel_rfl) (by kernel_rfl) (by kernel_rfl) (by simp) ((S_eq (S11_eq x0 w K)).mpr h)

set_option maxRecDepth 100000 in
/-- leadline/leadlineref12.Right -/
def S12 (x0 : Value) (w : World) (K : Value → World → Prop) : Prop :=
 Eop Try.prog (Instr.box 23 x0) w fun x1 w1 =>
 Pop Try.prog (Instr.fieldAt 23 x1 0) fun x3 =>
 Qop Try.prog (Instr.loadAt 3 x3) w1 fun x4 =>
 Pop Try.prog (binS .eql 3 false true x4 (.int .i64 3)) fun x5 =>
 CondV x5 (
  Join1 (fun K1 =>
   Pop Try.prog (Instr.fieldAt 23 x1 1) fun x6 =>
   Qop Try.prog (Instr.loadAt 3 x6) w1 fun x7 =>
   Pop Try.prog (binS .geq 3 false true x7 (.int .i64 0)) fun x8 =>
   CondV x8 (
    Pop Try.prog (Instr.fieldAt 23 x1 2) fun x10 =>
    Qop Try.prog (Instr.loadAt 3 x10) w1 fun x11 =>
    Pop Try.prog (binS .geq 3 false true x11 (.int .i64 0)) fun x12 =>
    K1 x12 w1)
   (
    K1 (.bool false) w1))
  (fun x2 w2 => ∀ _ : Env,
   K x2 w2))
 (
  Join1 (fun K2 =>
   Pop Try.prog (Instr.fieldAt 23 x1 2) fun x14 =>
   Qop Try.prog (Instr.loadAt 3 x14) w1 fun x15 =>
   Pop Try.prog (binS .neq 3 false true x15 (.int .i64 0)) fun x16 =>
   CondV x16 (
    K2 (.bool true) w1)
   (
    Pop Try.prog (Instr.fieldAt 23 x1 3) fun x18 =>
    Qop Try.prog (Instr.loadAt 3 x18) w1 fun x19 =>
    Pop Try.prog (binS .neq 3 false true x19 (.int .i64 0)) fun x20 =>
    K2 x20 w1))
  (fun x21 w3 => ∀ _ : Env,
   CondV x21 (
    K (.bool false) w3)
   (
    Join1 (fun K3 =>
     Pop Try.prog (Instr.fieldAt 23 x1 0) fun x22 =>
     Qop Try.prog (Instr.loadAt 3 x22) w3 fun x23 =>
     Pop Try.prog (binS .eql 3 false true x23 (.int .i64 5)) fun x24 =>
     CondV x24 (
      Pop Try.prog (Instr.fieldAt 23 x1 1) fun x31 =>
      Qop Try.prog (Instr.loadAt 3 x31) w3 fun x32 =>
      Pop Try.prog (binS .geq 3 false true x32 (.int .i64 0)) fun x33 =>
      CondV x33 (
       K3 (.bool true) w3)
      (
       Pop Try.prog (Instr.fieldAt 23 x1 0) fun x36 =>
       Qop Try.prog (Instr.loadAt 3 x36) w3 fun x37 =>
       Pop Try.prog (binS .eql 3 false true x37 (.int .i64 7)) fun x38 =>
       CondV x38 (
        Pop Try.prog (Instr.fieldAt 23 x1 1) fun x40 =>
        Qop Try.prog (Instr.loadAt 3 x40) w3 fun x41 =>
        Pop Try.prog (binS .eql 3 false true x41 (.int .i64 0)) fun x42 =>
        K3 x42 w3)
       (
        K3 (.bool false) w3)))
     (
      Pop Try.prog (Instr.fieldAt 23 x1 0) fun x26 =>
      Qop Try.prog (Instr.loadAt 3 x26) w3 fun x27 =>
      Pop Try.prog (binS .eql 3 false true x27 (.int .i64 6)) fun x28 =>
      CondV x28 (
       Pop Try.prog (Instr.fieldAt 23 x1 1) fun x31_1 =>
       Qop Try.prog (Instr.loadAt 3 x31_1) w3 fun x32_1 =>
       Pop Try.prog (binS .geq 3 false true x32_1 (.int .i64 0)) fun x33_1 =>
       CondV x33_1 (
        K3 (.bool true) w3)
       (
        Pop Try.prog (Instr.fieldAt 23 x1 0) fun x36_1 =>
        Qop Try.prog (Instr.loadAt 3 x36_1) w3 fun x37_1 =>
        Pop Try.prog (binS .eql 3 false true x37_1 (.int .i64 7)) fun x38_1 =>
        CondV x38_1 (
         Pop Try.prog (Instr.fieldAt 23 x1 1) fun x40_1 =>
         Qop Try.prog (Instr.loadAt 3 x40_1) w3 fun x41_1 =>
         Pop Try.prog (binS .eql 3 false true x41_1 (.int .i64 0)) fun x42_1 =>
         K3 x42_1 w3)
        (
         K3 (.bool false) w3)))
      (
       Pop Try.prog (Instr.fieldAt 23 x1 0) fun x36_2 =>
       Qop Try.prog (Instr.loadAt 3 x36_2) w3 fun x37_2 =>
       Pop Try.prog (binS .eql 3 false true x37_2 (.int .i64 7)) fun x38_2 =>
       CondV x38_2 (
        Pop Try.prog (Instr.fieldAt 23 x1 1) fun x40_2 =>
        Qop Try.prog (Instr.loadAt 3 x40_2) w3 fun x41_2 =>
        Pop Try.prog (binS .eql 3 false true x41_2 (.int .i64 0)) fun x42_2 =>
        K3 x42_2 w3)
       (
        K3 (.bool false) w3))))
    (fun x2_1 w4 => ∀ _ : Env,
     K x2_1 w4))))
set_option maxRecDepth 100000 in
theorem S12_eq (x0 : Value) (w : World) (K : Value → World → Prop) : D Try.prog 45 (fun _ => ([], [])) 4 ((Try.f12.body).getD .skip) [] 4 (retQ Try.prog [.tmp 2] K) [] (env0 [x0]) w = S12 x0 w K := by kernel_rfl
set_option maxRecDepth 100000 in
theorem S12_ok (x0 : Value) (w : World) (K : Value → World → Prop) (h : S12 x0 w K) : Calls Try.prog 12 [x0].toArray w (Ret K) :=
  calls_of_D mixed Try.func12 (show _ = some ((Try.f12.body).getD .skip) from by kernel_rfl) (by kernel_rfl) (by kernel_rfl) (by simp) ((S_eq (S12_eq x0 w K)).mpr h)

set_option maxRecDepth 100000 in
/-- leadline/leadlinelaw12.fixed -/
def S13 (w : World) (K : Value → World → Prop) : Prop :=
 CallF Try.prog 14 [(.int .i64 3)] w fun x22 w1 =>
 Pop Try.prog (Instr.extract x22 0) fun x23 =>
 Pop Try.prog (Instr.extract x22 1) fun x24 =>
 CallF Try.prog 14 [(.int .i64 0)] w1 fun x26 w2 =>
 Pop Try.prog (Instr.extract x26 0) fun _ =>
 Pop Try.prog (Instr.extract x26 1) fun x28 =>
 Join1 (fun K1 =>
  Pop Try.prog (binS .eql 29 false true x23 (.pointer none)) fun x30 =>
  CondV x30 (
   K1 (.bool true) w2)
  (
   Pop Try.prog (binS .neq 30 false true x24 (.int .i64 0)) fun x33 =>
   K1 x33 w2))
 (fun x34 w3 => ∀ _ : Env,
  CondV x34 (
   K (.bool false) w3)
  (
   CallF Try.prog 26 [(.int .i64 0)] w3 fun x36 w4 =>
   CallF Try.prog 15 [x23, x36] w4 fun x37 w5 =>
   CallF Try.prog 19 [(.int .i64 1), (.int .i64 5), (.int .i64 7)] w5 fun x39 w6 =>
   CallF Try.prog 15 [x23, x39] w6 fun x40 w7 =>
   CallF Try.prog 19 [(.int .i64 0), (.int .i64 2), (.int .i64 8)] w7 fun x42 w8 =>
   CallF Try.prog 15 [x23, x42] w8 fun x43 w9 =>
   CallF Try.prog 26 [(.int .i64 1)] w9 fun x45 w10 =>
   CallF Try.prog 15 [x23, x45] w10 fun x46 w11 =>
   Pop Try.prog (Instr.build 23 [].toArray) fun x48 =>
   CallF Try.prog 15 [x23, x48] w11 fun x49 w12 =>
   CallF Try.prog 16 [x23] w12 fun x51 w13 =>
   CallF Try.prog 20 [x23, (.int .i64 5)] w13 fun x54 w14 =>
   Pop Try.prog (Instr.extract x54 0) fun x55 =>
   Pop Try.prog (Instr.extract x54 1) fun x56 =>
   CallF Try.prog 20 [x23, (.int .i64 6)] w14 fun x59 w15 =>
   Pop Try.prog (Instr.extract x59 0) fun _ =>
   Pop Try.prog (Instr.extract x59 1) fun x61 =>
   CallF Try.prog 17 [x23, (.int .i64 2)] w15 fun x64 w16 =>
   Pop Try.prog (Instr.extract x64 0) fun x65 =>
   Pop Try.prog (Instr.extract x64 1) fun x66 =>
   Eop Try.prog (Instr.alloc 23 true (.tuple #[])) w16 fun x15 w17 =>
   Uop Try.prog (Instr.storeAt 23 x15 x65) w17 fun w18 =>
   CallF Try.prog 17 [x23, (.int .i64 3)] w18 fun x69 w19 =>
   Pop Try.prog (Instr.extract x69 0) fun x70 =>
   Pop Try.prog (Instr.extract x69 1) fun x71 =>
   Eop Try.prog (Instr.alloc 23 true (.tuple #[])) w19 fun x17 w20 =>
   Uop Try.prog (Instr.storeAt 23 x17 x70) w20 fun w21 =>
   CallF Try.prog 17 [x23, (.int .i64 1)] w21 fun x74 w22 =>
   Pop Try.prog (Instr.extract x74 0) fun x75 =>
   Pop Try.prog (Instr.extract x74 1) fun x76 =>
   Eop Try.prog (Instr.alloc 23 true (.tuple #[])) w22 fun x19 w23 =>
   Uop Try.prog (Instr.storeAt 23 x19 x75) w23 fun w24 =>
   Join1 (fun K2 =>
    Pop Try.prog (binS .eql 30 false true x28 (.int .i64 1)) fun x78 =>
    CondV x78 (
     Pop Try.prog (binS .eql 30 false true x37 (.int .i64 0)) fun x81 =>
     CondV x81 (
      Pop Try.prog (binS .eql 30 false true x40 (.int .i64 0)) fun x85 =>
      CondV x85 (
       Pop Try.prog (binS .eql 30 false true x43 (.int .i64 0)) fun x89 =>
       CondV x89 (
        Pop Try.prog (binS .eql 30 false true x46 (.int .i64 2)) fun x93 =>
        CondV x93 (
         Pop Try.prog (binS .eql 30 false true x49 (.int .i64 1)) fun x97 =>
         CondV x97 (
          Eop Try.prog (Instr.buildSlice 28 2 [(0, (.int .i64 0)), (1, (.int .i64 1))].toArray) (drew w24) fun x101 w25 =>
          CallF Try.prog 29 [x51, x101] w25 fun x102 w26 =>
          CondV x102 (
           Pop Try.prog (binS .eql 3 false true x55 (.int .i64 7)) fun x106 =>
           CondV x106 (
            CondV x56 (
             Pop Try.prog (Op.unary .not x61) fun x113 =>
             CondV x113 (
              Pop Try.prog (binS .eql 30 false true x66 (.int .i64 13)) fun x117 =>
              CondV x117 (
               Pop Try.prog (binS .eql 30 false true x71 (.int .i64 1)) fun x121 =>
               CondV x121 (
                Qop Try.prog (Instr.loadAt 23 x19) w26 fun x124 =>
                CallF Try.prog 19 [(.int .i64 1), (.int .i64 5), (.int .i64 7)] w26 fun x125 w27 =>
                KeepAnd Try.prog (Instr.loadAt 23 x19) x124 w27 (
                Pop Try.prog (binS .eql 23 false false x124 x125) fun x126 =>
                CondV x126 (
                 Pop Try.prog (binS .eql 30 false true x76 (.int .i64 0)) fun x130 =>
                 CondV x130 (
                  CallF Try.prog 21 [x23] w27 fun x134 w28 =>
                  Pop Try.prog (Op.unary .not x134) fun x135 =>
                  CondV x135 (
                   CallF Try.prog 18 [x23] w28 fun x139 w29 =>
                   CallF Try.prog 26 [(.int .i64 0)] w29 fun x140 w30 =>
                   CallF Try.prog 19 [(.int .i64 0), (.int .i64 2), (.int .i64 8)] w30 fun x141 w31 =>
                   Eop Try.prog (Instr.buildSlice 27 2 [(0, x140), (1, x141)].toArray) w31 fun x142 w32 =>
                   CallF Try.prog 28 [x139, x142] w32 fun x143 w33 =>
                   CondV x143 (
                    CallF Try.prog 26 [(.int .i64 1)] w33 fun x146 w34 =>
                    CallF Try.prog 19 [(.int .i64 0), (.int .i64 0), (.int .i64 0)] w34 fun x147 w35 =>
                    CallF Try.prog 9 [x146, x147] w35 fun x148 w36 =>
                    CondV x148 (
                     CallF Try.prog 26 [(.int .i64 1)] w36 fun x151 w37 =>
                     CallF Try.prog 26 [(.int .i64 1)] w37 fun x152 w38 =>
                     CallF Try.prog 9 [x151, x152] w38 fun x153 w39 =>
                     Pop Try.prog (Op.unary .not x153) fun x154 =>
                     CondV x154 (
                      Pop Try.prog (Instr.build 23 [(0, (.int .i64 7))].toArray) fun x158 =>
                      CallF Try.prog 26 [(.int .i64 1)] w39 fun x157 w40 =>
                      CallF Try.prog 9 [x157, x158] w40 fun x159 w41 =>
                      Pop Try.prog (Op.unary .not x159) fun x160 =>
                      CondV x160 (
                       Pop Try.prog (Instr.build 23 [(0, (.int .i64 5)), (3, (.int .i64 1))].toArray) fun x163 =>
                       CallF Try.prog 11 [x163] w41 fun x164 w42 =>
                       Pop Try.prog (Op.unary .not x164) fun x165 =>
                       CondV x165 (
                        CallF Try.prog 31 [x23, (.int .i64 0)] w42 fun x169 w43 =>
                        CondV x169 (
                         CallF Try.prog 31 [x23, (.int .i64 (-1))] w43 fun x173 w44 =>
                         Pop Try.prog (Op.unary .not x173) fun x174 =>
                         K2 x174 w44)
                        (
                         K2 (.bool false) w43))
                       (
                        K2 (.bool false) w42))
                      (
                       K2 (.bool false) w41))
                     (
                      K2 (.bool false) w39))
                    (
                     K2 (.bool false) w36))
                   (
                    K2 (.bool false) w33))
                  (
                   K2 (.bool false) w28))
                 (
                  K2 (.bool false) w27))
                (
                 K2 (.bool false) w27)))
               (
                K2 (.bool false) w26))
              (
               K2 (.bool false) w26))
             (
              K2 (.bool false) w26))
            (
             K2 (.bool false) w26))
           (
            K2 (.bool false) w26))
          (
           K2 (.bool false) w26))
         (
          K2 (.bool false) (drew w24)))
        (
         K2 (.bool false) (drew w24)))
       (
        K2 (.bool false) (drew w24)))
      (
       K2 (.bool false) (drew w24)))
     (
      K2 (.bool false) (drew w24)))
    (
     K2 (.bool false) (drew w24)))
   (fun x0 w45 => ∀ _ : Env,
    K x0 w45)))
def S13pl : Plans := fun i => match i with
  | 13 => ([(0, []), (1, []), (2, []), (3, []), (4, []), (5, []), (6, []), (7, []), (8, []), (9, []), (10, []), (11, []), (12, []), (13, []), (14, []), (15, []), (16, []), (17, []), (18, []), (19, []), (20, []), (21, []), (22, []), (23, []), (24, []), (25, []), (26, []), (27, []), (28, []), (29, []), (30, []), (31, []), (32, []), (33, []), (34, []), (35, []), (36, []), (37, []), (38, []), (39, []), (40, []), (41, []), (42, []), (43, []), (44, []), (45, []), (46, []), (47, []), (48, [47]), (49, []), (50, []), (51, []), (52, []), (53, []), (54, []), (55, []), (56, []), (57, []), (58, []), (59, []), (60, []), (61, []), (62, []), (63, []), (64, []), (65, []), (66, []), (67, []), (68, []), (69, []), (70, []), (71, []), (72, []), (73, []), (74, []), (75, []), (76, []), (77, []), (78, []), (79, []), (81, []), (80, []), (82, []), (83, []), (84, []), (85, []), (86, []), (87, []), (88, []), (89, []), (90, []), (91, []), (92, []), (93, []), (94, []), (95, []), (96, []), (97, []), (98, []), (99, [])], [0, 1, 3, 7, 15, 31, 63, 127, 255, 511, 1023, 2047, 4095, 8191, 16383, 32767, 65535, 131071, 262143, 524287, 1048575, 2097151, 4194303, 8388607, 8388607, 33554431, 67108863, 134217727, 268435455, 536870911, 1073741823, 2147483647, 4294967295, 8589934591, 17179869183, 34359738367, 68719476735, 137438953471, 274877906943, 549755813887, 1099511627775, 2199023255551, 4398046511103, 8796093022207, 17592186044415, 35184372088831, 70368744177663, 140737488355327, 140737488355327, 562949953421311, 1125899906842623, 2251799813685247, 4503599627370495, 9007199254740991, 18014398509481983, 36028797018963967, 72057594037927935, 144115188075855871, 288230376151711743, 576460752303423487, 1152921504606846975, 2305843009213693951, 4611686018427387903, 9223372036854775807, 18446744073709551615, 36893488147419103231, 73786976294838206463, 147573952589676412927, 295147905179352825855, 590295810358705651711, 1180591620717411303423, 2361183241434822606847, 4722366482869645213695, 9444732965739290427391, 18889465931478580854783, 37778931862957161709567, 75557863725914323419135, 151115727451828646838271, 302231454903657293676543, 604462909807314587353087, 1208925819614629174706175, 1208925819614629174706175, 4835703278458516698824703, 9671406556917033397649407, 19342813113834066795298815, 38685626227668133590597631, 77371252455336267181195263, 154742504910672534362390527, 309485009821345068724781055, 618970019642690137449562111, 1237940039285380274899124223, 2475880078570760549798248447, 4951760157141521099596496895, 9903520314283042199192993791, 19807040628566084398385987583, 39614081257132168796771975167, 79228162514264337593543950335, 158456325028528675187087900671, 316912650057057350374175801343, 633825300114114700748351602687])
  | _ => ([], [])
set_option maxRecDepth 100000 in
theorem S13_eq (w : World) (K : Value → World → Prop) : D Try.prog 176 (S13pl) 1 ((Try.f13.body).getD .skip) [] 1 (retQ Try.prog [.tmp 0] K) [] (env0 []) w = S13 w K := by kernel_rfl
set_option maxRecDepth 100000 in
theorem S13_ok (w : World) (K : Value → World → Prop) (h : S13 w K) : Calls Try.prog 13 [].toArray w (Ret K) :=
  calls_of_D mixed Try.func13 (show _ = some ((Try.f13.body).getD .skip) from by kernel_rfl) (by kernel_rfl) (by kernel_rfl) (by simp) ((S_eq (S13_eq w K)).mpr h)

set_option maxRecDepth 100000 in
/-- leadline/buffer.New -/
def S14 (room0 : Value) (w : World) (K : Value → World → Prop) : Prop :=
 Join1 (fun K1 =>
  Pop Try.prog (binS .lss 3 false true room0 (.int .i64 1)) fun x5 =>
  CondV x5 (
   K1 (.bool true) w)
  (
   Pop Try.prog (binS .gtr 3 false true room0 (.int .i64 16)) fun x8 =>
   K1 x8 w))
 (fun x9 w1 => ∀ _ : Env,
  CondV x9 (
   K (.tuple #[(.pointer none), (.int .i64 1)]) w1)
  (
   Pop Try.prog (Instr.build 60 [(0, room0)].toArray) fun x11 =>
   Eop Try.prog (Instr.box 60 x11) w1 fun x12 w2 =>
   K (.tuple #[x12, (.int .i64 0)]) w2))
set_option maxRecDepth 100000 in
theorem S14_eq (room0 : Value) (w : World) (K : Value → World → Prop) : D Try.prog 13 (fun _ => ([], [])) 12 ((Try.f14.body).getD .skip) [] 12 (retQ Try.prog [.tmp 2, .tmp 3] K) [] (env0 [room0]) w = S14 room0 w K := by kernel_rfl
set_option maxRecDepth 100000 in
theorem S14_ok (room0 : Value) (w : World) (K : Value → World → Prop) (h : S14 room0 w K) : Calls Try.prog 14 [room0].toArray w (Ret K) :=
  calls_of_D mixed Try.func14 (show _ = some ((Try.f14.body).getD .skip) from by kernel_rfl) (by kernel_rfl) (by kernel_rfl) (by simp) ((S_eq (S14_eq room0 w K)).mpr h)

set_option maxRecDepth 100000 in
/-- (*leadline/buffer.Buffer).Put -/
def S15 (b0 x1 : Value) (w : World) (K : Value → World → Prop) : Prop :=
 Eop Try.prog (Instr.box 23 x1) w fun x3 w1 =>
 Qop Try.prog (Instr.loadAt 23 x3) w1 fun x6 =>
 CallF Try.prog 11 [x6] w1 fun x7 w2 =>
 Pop Try.prog (Op.unary .not x7) fun x8 =>
 CondV x8 (
  K (.int .i64 1) w2)
 (
  CallF Try.prog 21 [b0] w2 fun x11 w3 =>
  CondV x11 (
   K (.int .i64 2) w3)
  (
   Pop Try.prog (nilS b0) fun x14 =>
   Pop Try.prog (Instr.fieldAt 60 x14 1) fun x15 =>
   Qop Try.prog (Instr.loadAt 27 x15) (drew w3) fun x16 =>
   Qop Try.prog (Instr.loadAt 23 x3) (drew w3) fun x17 =>
   Eop Try.prog (Instr.buildSlice 27 1 [(0, x17)].toArray) (drew w3) fun x18 w4 =>
   KeepAnd Try.prog (Instr.loadAt 27 x15) x16 w4 (
   Eop Try.prog (Builtin.append_ #[27, 27] 27 [x16, x18].toArray) w4 fun x19 w5 =>
   Pop Try.prog (nilS b0) fun x20 =>
   Pop Try.prog (Instr.fieldAt 60 x20 1) fun x21 =>
   Uop Try.prog (Instr.storeAt 27 x21 x19) w5 fun w6 =>
   K (.int .i64 0) w6)))
def S15pl : Plans := fun i => match i with
  | 5 => ([(0, []), (1, []), (2, []), (3, []), (4, []), (5, []), (6, [4]), (7, []), (8, []), (9, []), (10, [])], [0, 0, 2, 6, 14, 0, 32, 126, 255, 511, 1023])
  | _ => ([], [])
set_option maxRecDepth 100000 in
theorem S15_eq (b0 x1 : Value) (w : World) (K : Value → World → Prop) : D Try.prog 22 (S15pl) 16 ((Try.f15.body).getD .skip) [] 16 (retQ Try.prog [.tmp 4] K) [] (env0 [b0, x1]) w = S15 b0 x1 w K := by kernel_rfl
set_option maxRecDepth 100000 in
theorem S15_ok (b0 x1 : Value) (w : World) (K : Value → World → Prop) (h : S15 b0 x1 w K) : Calls Try.prog 15 [b0, x1].toArray w (Ret K) :=
  calls_of_D mixed Try.func15 (show _ = some ((Try.f15.body).getD .skip) from by kernel_rfl) (by kernel_rfl) (by kernel_rfl) (by simp) ((S_eq (S15_eq b0 x1 w K)).mpr h)

set_option maxRecDepth 100000 in
/-- (*leadline/buffer.Buffer).Cans -/
def S16 (b0 : Value) (w : World) (K : Value → World → Prop) : Prop :=
 Pop Try.prog (nilS b0) fun x6 =>
 Pop Try.prog (Instr.fieldAt 60 x6 1) fun x7 =>
 Qop Try.prog (Instr.loadAt 27 x7) w fun x8 =>
 Pop Try.prog (Builtin.len_ #[27] 3 [x8].toArray) fun x9 =>
 Loop2 (fun K1 out3 x10 w1 => ∀ _ : Env,
  Pop Try.prog (binS .lss 3 false false x10 x9) fun x11 =>
  CondV x11 (
   Join1 (fun K2 =>
    CallF Try.prog 31 [b0, x10] w1 fun x15 w2 =>
    CondV x15 (
     Eop Try.prog (Instr.buildSlice 28 1 [(0, x10)].toArray) w2 fun x18 w3 =>
     Eop Try.prog (Builtin.append_ #[28, 28] 28 [out3, x18].toArray) w3 fun x19 w4 =>
     K2 x19 w4)
    (
     K2 out3 w2))
   (fun out3_1 w5 => ∀ _ : Env,
    Pop Try.prog (binS .add 3 false true x10 (.int .i64 1)) fun x20 =>
    K1 out3_1 x20 w5))
  (
   K out3 w1))
 (fun K1 => K1 (.slice none 0 0) (.int .i64 0) w)
set_option maxRecDepth 100000 in
theorem S16_eq (b0 : Value) (w : World) (K : Value → World → Prop) : D Try.prog 22 (fun _ => ([], [])) 4 ((Try.f16.body).getD .skip) [] 4 (retQ Try.prog [.tmp 2] K) [] (env0 [b0]) w = S16 b0 w K := by kernel_rfl
set_option maxRecDepth 100000 in
theorem S16_ok (b0 : Value) (w : World) (K : Value → World → Prop) (h : S16 b0 w K) : Calls Try.prog 16 [b0].toArray w (Ret K) :=
  calls_of_D mixed Try.func16 (show _ = some ((Try.f16.body).getD .skip) from by kernel_rfl) (by kernel_rfl) (by kernel_rfl) (by simp) ((S_eq (S16_eq b0 w K)).mpr h)

set_option maxRecDepth 100000 in
/-- (*leadline/buffer.Buffer).Take -/
def S17 (b0 i1 : Value) (w : World) (K : Value → World → Prop) : Prop :=
 Eop Try.prog (Instr.alloc 23 true (.tuple #[])) w fun x4 w1 =>
 Join1 (fun K1 =>
  Pop Try.prog (binS .lss 3 false true i1 (.int .i64 0)) fun x8 =>
  CondV x8 (
   K1 (.bool true) w1)
  (
   Pop Try.prog (nilS b0) fun x12 =>
   Pop Try.prog (Instr.fieldAt 60 x12 1) fun x13 =>
   Qop Try.prog (Instr.loadAt 27 x13) w1 fun x14 =>
   Pop Try.prog (Builtin.len_ #[27] 3 [x14].toArray) fun x15 =>
   Pop Try.prog (binS .geq 3 false false i1 x15) fun x16 =>
   K1 x16 w1))
 (fun x17 w2 => ∀ _ : Env,
  CondV x17 (
   Pop Try.prog (Instr.build 23 [].toArray) fun x18 =>
   Uop Try.prog (Instr.storeAt 23 x4 x18) w2 fun w3 =>
   Qop Try.prog (Instr.loadAt 23 x4) w3 fun r =>
   K (.tuple #[r, (.int .i64 1)]) w3)
  (
   CallF Try.prog 31 [b0, i1] w2 fun x21 w4 =>
   Pop Try.prog (Op.unary .not x21) fun x22 =>
   CondV x22 (
    Pop Try.prog (Instr.build 23 [].toArray) fun x23 =>
    Uop Try.prog (Instr.storeAt 23 x4 x23) w4 fun w5 =>
    Qop Try.prog (Instr.loadAt 23 x4) w5 fun r_1 =>
    K (.tuple #[r_1, (.int .i64 13)]) w5)
   (
    Pop Try.prog (nilS b0) fun x25 =>
    Pop Try.prog (Instr.fieldAt 60 x25 1) fun x26 =>
    Qop Try.prog (Instr.loadAt 27 x26) w4 fun x27 =>
    Pop Try.prog (Instr.indexAt 27 x27 i1) fun x29 =>
    Qop Try.prog (Instr.loadAt 23 x29) w4 fun x30 =>
    Eop Try.prog (Instr.alloc 23 true (.tuple #[])) w4 fun x6 w6 =>
    Uop Try.prog (Instr.storeAt 23 x6 x30) w6 fun w7 =>
    Pop Try.prog (nilS b0) fun x33 =>
    Pop Try.prog (Instr.fieldAt 60 x33 1) fun x34 =>
    Qop Try.prog (Instr.loadAt 27 x34) w7 fun x35 =>
    CallF Try.prog 34 [x35] w7 fun x36 w8 =>
    Pop Try.prog (binS .add 3 false true i1 (.int .i64 1)) fun x39 =>
    CallF Try.prog 33 [x36, i1, x39] w8 fun x40 w9 =>
    Pop Try.prog (nilS b0) fun x41 =>
    Pop Try.prog (Instr.fieldAt 60 x41 1) fun x42 =>
    Uop Try.prog (Instr.storeAt 27 x42 x40) w9 fun w10 =>
    Qop Try.prog (Instr.loadAt 23 x6) w10 fun x43 =>
    Uop Try.prog (Instr.storeAt 23 x4 x43) w10 fun w11 =>
    Qop Try.prog (Instr.loadAt 23 x4) w11 fun r_2 =>
    K (.tuple #[r_2, (.int .i64 0)]) w11)))
set_option maxRecDepth 100000 in
theorem S17_eq (b0 i1 : Value) (w : World) (K : Value → World → Prop) : D Try.prog 44 (fun _ => ([], [])) 48 ((Try.f17.body).getD .skip) [] 48 (retQ Try.prog [.cell 4 23, .tmp 5] K) [] (env0 [b0, i1]) w = S17 b0 i1 w K := by kernel_rfl
set_option maxRecDepth 100000 in
theorem S17_ok (b0 i1 : Value) (w : World) (K : Value → World → Prop) (h : S17 b0 i1 w K) : Calls Try.prog 17 [b0, i1].toArray w (Ret K) :=
  calls_of_D mixed Try.func17 (show _ = some ((Try.f17.body).getD .skip) from by kernel_rfl) (by kernel_rfl) (by kernel_rfl) (by simp) ((S_eq (S17_eq b0 i1 w K)).mpr h)

set_option maxRecDepth 100000 in
/-- (*leadline/buffer.Buffer).List -/
def S18 (b0 : Value) (w : World) (K : Value → World → Prop) : Prop :=
 Pop Try.prog (nilS b0) fun x4 =>
 Pop Try.prog (Instr.fieldAt 60 x4 1) fun x5 =>
 Qop Try.prog (Instr.loadAt 27 x5) w fun x6 =>
 CallF Try.prog 34 [x6] w fun x7 w1 =>
 K x7 w1
set_option maxRecDepth 100000 in
theorem S18_eq (b0 : Value) (w : World) (K : Value → World → Prop) : D Try.prog 8 (fun _ => ([], [])) 4 ((Try.f18.body).getD .skip) [] 4 (retQ Try.prog [.tmp 2] K) [] (env0 [b0]) w = S18 b0 w K := by kernel_rfl
set_option maxRecDepth 100000 in
theorem S18_ok (b0 : Value) (w : World) (K : Value → World → Prop) (h : S18 b0 w K) : Calls Try.prog 18 [b0].toArray w (Ret K) :=
  calls_of_D mixed Try.func18 (show _ = some ((Try.f18.body).getD .skip) from by kernel_rfl) (by kernel_rfl) (by kernel_rfl) (by simp) ((S_eq (S18_eq b0 w K)).mpr h)

set_option maxRecDepth 100000 in
/-- leadline/leadlinelaw12.store -/
def S19 (line0 cell1 n2 : Value) (w : World) (K : Value → World → Prop) : Prop :=
 Eop Try.prog (Instr.alloc 23 true (.tuple #[])) w fun x6 w1 =>
 Pop Try.prog (Instr.build 23 [(0, (.int .i64 3)), (1, line0), (2, cell1), (3, n2)].toArray) fun x10 =>
 Uop Try.prog (Instr.storeAt 23 x6 x10) w1 fun w2 =>
 Qop Try.prog (Instr.loadAt 23 x6) w2 fun r =>
 K r w2
set_option maxRecDepth 100000 in
theorem S19_eq (line0 cell1 n2 : Value) (w : World) (K : Value → World → Prop) : D Try.prog 11 (fun _ => ([], [])) 64 ((Try.f19.body).getD .skip) [] 64 (retQ Try.prog [.cell 6 23] K) [] (env0 [line0, cell1, n2]) w = S19 line0 cell1 n2 w K := by kernel_rfl
set_option maxRecDepth 100000 in
theorem S19_ok (line0 cell1 n2 : Value) (w : World) (K : Value → World → Prop) (h : S19 line0 cell1 n2 w K) : Calls Try.prog 19 [line0, cell1, n2].toArray w (Ret K) :=
  calls_of_D mixed Try.func19 (show _ = some ((Try.f19.body).getD .skip) from by kernel_rfl) (by kernel_rfl) (by kernel_rfl) (by simp) ((S_eq (S19_eq line0 cell1 n2 w K)).mpr h)

set_option maxRecDepth 100000 in
/-- (*leadline/buffer.Buffer).Last -/
def S20 (b0 cell1 : Value) (w : World) (K : Value → World → Prop) : Prop :=
 Eop Try.prog (Instr.box 3 cell1) w fun cell3 w1 =>
 Eop Try.prog (Instr.alloc 3 true (.tuple #[])) w1 fun x4 w2 =>
 Eop Try.prog (Instr.alloc 4 true (.tuple #[])) w2 fun x5 w3 =>
 Pop Try.prog (nilS b0) fun x9 =>
 Pop Try.prog (Instr.fieldAt 60 x9 1) fun x10 =>
 Qop Try.prog (Instr.loadAt 27 x10) w3 fun x11 =>
 CallF Try.prog 35 [x11] w3 fun x12 w4 =>
 RangeFn Try.prog x12 2 w4 (fun a1 w5 B1 R1 =>
  Eop Try.prog (Instr.alloc 23 true (.tuple #[])) w5 fun x7 w6 =>
  Uop Try.prog (Instr.storeAt 23 x7 (nthV a1 1)) w6 fun w7 =>
  B1 w7 fun w8 =>
  Join1 (fun K1 =>
   Pop Try.prog (Instr.fieldAt 23 x7 0) fun x15 =>
   Qop Try.prog (Instr.loadAt 3 x15) w8 fun x16 =>
   Pop Try.prog (binS .eql 3 false true x16 (.int .i64 3)) fun x17 =>
   CondV x17 (
    Pop Try.prog (Instr.fieldAt 23 x7 2) fun x19 =>
    Qop Try.prog (Instr.loadAt 3 x19) w8 fun x20 =>
    Qop Try.prog (Instr.loadAt 3 cell3) w8 fun x21 =>
    Pop Try.prog (binS .eql 3 false false x20 x21) fun x22 =>
    K1 x22 w8)
   (
    K1 (.bool false) w8))
  (fun x23 w9 => ∀ _ : Env,
   CondV x23 (
    Pop Try.prog (Instr.fieldAt 23 x7 3) fun x24 =>
    Qop Try.prog (Instr.loadAt 3 x24) w9 fun x25 =>
    Uop Try.prog (Instr.storeAt 3 x4 x25) w9 fun w10 =>
    Uop Try.prog (Instr.storeAt 4 x5 (.bool true)) w10 fun w11 =>
    R1 (some .ret) w11)
   (
    R1 none w9)))
 (aft (fun D w12 =>
  Uop Try.prog (Instr.storeAt 3 x4 (.int .i64 0)) w12 fun w13 =>
  Uop Try.prog (Instr.storeAt 4 x5 (.bool false)) w13 fun w14 =>
  takeAll (D :: []) w14 fun w15 =>
  Qop Try.prog (Instr.loadAt 3 x4) w15 fun r =>
  Qop Try.prog (Instr.loadAt 4 x5) w15 fun r_1 =>
  K (.tuple #[r, r_1]) w15)
 (fun D w16 =>
  takeAll (D :: []) w16 fun w17 =>
  Qop Try.prog (Instr.loadAt 3 x4) w17 fun r_2 =>
  Qop Try.prog (Instr.loadAt 4 x5) w17 fun r_3 =>
  K (.tuple #[r_2, r_3]) w17)
 (fun _ _ _ => False))
set_option maxRecDepth 100000 in
theorem S20_eq (b0 cell1 : Value) (w : World) (K : Value → World → Prop) : D Try.prog 26 (fun _ => ([], [])) 48 ((Try.f20.body).getD .skip) [] 48 (retQ Try.prog [.cell 4 3, .cell 5 4] K) [] (env0 [b0, cell1]) w = S20 b0 cell1 w K := by kernel_rfl
set_option maxRecDepth 100000 in
theorem S20_ok (b0 cell1 : Value) (w : World) (K : Value → World → Prop) (h : S20 b0 cell1 w K) : Calls Try.prog 20 [b0, cell1].toArray w (Ret K) :=
  calls_of_D mixed Try.func20 (show _ = some ((Try.f20.body).getD .skip) from by kernel_rfl) (by kernel_rfl) (by kernel_rfl) (by simp) ((S_eq (S20_eq b0 cell1 w K)).mpr h)

set_option maxRecDepth 100000 in
/-- (*leadline/buffer.Buffer).Full -/
def S21 (b0 : Value) (w : World) (K : Value → World → Prop) : Prop :=
 Pop Try.prog (nilS b0) fun x4 =>
 Pop Try.prog (Instr.fieldAt 60 x4 1) fun x5 =>
 Qop Try.prog (Instr.loadAt 27 x5) (drew w) fun x6 =>
 Pop Try.prog (Builtin.len_ #[27] 3 [x6].toArray) fun x7 =>
 Pop Try.prog (nilS b0) fun x9 =>
 Pop Try.prog (Instr.fieldAt 60 x9 0) fun x10 =>
 Qop Try.prog (Instr.loadAt 3 x10) (drew w) fun x11 =>
 Pop Try.prog (binS .geq 3 false false x7 x11) fun x12 =>
 K x12 (drew w)
def S21pl : Plans := fun i => match i with
  | 1 => ([(0, []), (1, []), (2, []), (3, []), (4, []), (5, []), (6, []), (7, []), (8, []), (9, []), (10, [])], [0, 1, 3, 7, 15, 0, 32, 96, 224, 511, 1023])
  | _ => ([], [])
set_option maxRecDepth 100000 in
theorem S21_eq (b0 : Value) (w : World) (K : Value → World → Prop) : D Try.prog 13 (S21pl) 4 ((Try.f21.body).getD .skip) [] 4 (retQ Try.prog [.tmp 2] K) [] (env0 [b0]) w = S21 b0 w K := by kernel_rfl
set_option maxRecDepth 100000 in
theorem S21_ok (b0 : Value) (w : World) (K : Value → World → Prop) (h : S21 b0 w K) : Calls Try.prog 21 [b0].toArray w (Ret K) :=
  calls_of_D mixed Try.func21 (show _ = some ((Try.f21.body).getD .skip) from by kernel_rfl) (by kernel_rfl) (by kernel_rfl) (by simp) ((S_eq (S21_eq b0 w K)).mpr h)

set_option maxRecDepth 100000 in
/-- leadline/leadlineref12.New -/
def S22 (room0 : Value) (w : World) (K : Value → World → Prop) : Prop :=
 Join1 (fun K1 =>
  Pop Try.prog (binS .lss 3 false true room0 (.int .i64 1)) fun x5 =>
  CondV x5 (
   K1 (.bool true) w)
  (
   Pop Try.prog (binS .gtr 3 false true room0 (.int .i64 16)) fun x8 =>
   K1 x8 w))
 (fun x9 w1 => ∀ _ : Env,
  CondV x9 (
   K (.tuple #[(.pointer none), (.int .i64 1)]) w1)
  (
   Pop Try.prog (Instr.build 55 [(0, room0)].toArray) fun x11 =>
   Eop Try.prog (Instr.box 55 x11) w1 fun x12 w2 =>
   K (.tuple #[x12, (.int .i64 0)]) w2))
set_option maxRecDepth 100000 in
theorem S22_eq (room0 : Value) (w : World) (K : Value → World → Prop) : D Try.prog 13 (fun _ => ([], [])) 12 ((Try.f22.body).getD .skip) [] 12 (retQ Try.prog [.tmp 2, .tmp 3] K) [] (env0 [room0]) w = S22 room0 w K := by kernel_rfl
set_option maxRecDepth 100000 in
theorem S22_ok (room0 : Value) (w : World) (K : Value → World → Prop) (h : S22 room0 w K) : Calls Try.prog 22 [room0].toArray w (Ret K) :=
  calls_of_D mixed Try.func22 (show _ = some ((Try.f22.body).getD .skip) from by kernel_rfl) (by kernel_rfl) (by kernel_rfl) (by simp) ((S_eq (S22_eq room0 w K)).mpr h)

set_option maxRecDepth 100000 in
/-- (*leadline/leadlineref12.Buffer).Put -/
def S23 (b0 x1 : Value) (w : World) (K : Value → World → Prop) : Prop :=
 Eop Try.prog (Instr.box 23 x1) w fun x3 w1 =>
 Qop Try.prog (Instr.loadAt 23 x3) w1 fun x5 =>
 CallF Try.prog 12 [x5] w1 fun x6 w2 =>
 Pop Try.prog (Op.unary .not x6) fun x7 =>
 CondV x7 (
  K (.int .i64 1) w2)
 (
  Pop Try.prog (nilS b0) fun x9 =>
  Pop Try.prog (Instr.fieldAt 55 x9 1) fun x10 =>
  Qop Try.prog (Instr.loadAt 27 x10) (drew w2) fun x11 =>
  Pop Try.prog (Builtin.len_ #[27] 3 [x11].toArray) fun x12 =>
  Pop Try.prog (nilS b0) fun x14 =>
  Pop Try.prog (Instr.fieldAt 55 x14 0) fun x15 =>
  Qop Try.prog (Instr.loadAt 3 x15) (drew w2) fun x16 =>
  Pop Try.prog (binS .geq 3 false false x12 x16) fun x17 =>
  CondV x17 (
   K (.int .i64 2) (drew w2))
  (
   Pop Try.prog (nilS b0) fun x20 =>
   Pop Try.prog (Instr.fieldAt 55 x20 1) fun x21 =>
   Qop Try.prog (Instr.loadAt 27 x21) (drew (drew w2)) fun x22 =>
   Qop Try.prog (Instr.loadAt 23 x3) (drew (drew w2)) fun x23 =>
   Eop Try.prog (Instr.buildSlice 27 1 [(0, x23)].toArray) (drew (drew w2)) fun x24 w3 =>
   KeepAnd Try.prog (Instr.loadAt 27 x21) x22 w3 (
   Eop Try.prog (Builtin.append_ #[27, 27] 27 [x22, x24].toArray) w3 fun x25 w4 =>
   Pop Try.prog (nilS b0) fun x26 =>
   Pop Try.prog (Instr.fieldAt 55 x26 1) fun x27 =>
   Uop Try.prog (Instr.storeAt 27 x27 x25) w4 fun w5 =>
   K (.int .i64 0) w5)))
def S23pl : Plans := fun i => match i with
  | 3 => ([(0, []), (1, []), (2, []), (3, []), (4, []), (5, []), (6, []), (7, []), (8, []), (9, [])], [0, 1, 3, 7, 15, 0, 32, 96, 224, 511])
  | 5 => ([(0, []), (1, []), (2, []), (3, []), (4, []), (5, []), (6, [4]), (7, []), (8, []), (9, []), (10, [])], [0, 0, 2, 6, 14, 0, 32, 126, 255, 511, 1023])
  | _ => ([], [])
set_option maxRecDepth 100000 in
theorem S23_eq (b0 x1 : Value) (w : World) (K : Value → World → Prop) : D Try.prog 28 (S23pl) 16 ((Try.f23.body).getD .skip) [] 16 (retQ Try.prog [.tmp 4] K) [] (env0 [b0, x1]) w = S23 b0 x1 w K := by kernel_rfl
set_option maxRecDepth 100000 in
theorem S23_ok (b0 x1 : Value) (w : World) (K : Value → World → Prop) (h : S23 b0 x1 w K) : Calls Try.prog 23 [b0, x1].toArray w (Ret K) :=
  calls_of_D mixed Try.func23 (show _ = some ((Try.f23.body).getD .skip) from by kernel_rfl) (by kernel_rfl) (by kernel_rfl) (by simp) ((S_eq (S23_eq b0 x1 w K)).mpr h)

set_option maxRecDepth 100000 in
/-- (*leadline/leadlineref12.Buffer).Take -/
def S24 (b0 i1 : Value) (w : World) (K : Value → World → Prop) : Prop :=
 Eop Try.prog (Instr.alloc 23 true (.tuple #[])) w fun x4 w1 =>
 Join1 (fun K1 =>
  Pop Try.prog (binS .lss 3 false true i1 (.int .i64 0)) fun x9 =>
  CondV x9 (
   K1 (.bool true) w1)
  (
   Pop Try.prog (nilS b0) fun x13 =>
   Pop Try.prog (Instr.fieldAt 55 x13 1) fun x14 =>
   Qop Try.prog (Instr.loadAt 27 x14) w1 fun x15 =>
   Pop Try.prog (Builtin.len_ #[27] 3 [x15].toArray) fun x16 =>
   Pop Try.prog (binS .geq 3 false false i1 x16) fun x17 =>
   K1 x17 w1))
 (fun x18 w2 => ∀ _ : Env,
  CondV x18 (
   Pop Try.prog (Instr.build 23 [].toArray) fun x19 =>
   Uop Try.prog (Instr.storeAt 23 x4 x19) w2 fun w3 =>
   Qop Try.prog (Instr.loadAt 23 x4) w3 fun r =>
   K (.tuple #[r, (.int .i64 1)]) w3)
  (
   CallF Try.prog 32 [b0, i1] w2 fun x22 w4 =>
   Pop Try.prog (Op.unary .not x22) fun x23 =>
   CondV x23 (
    Pop Try.prog (Instr.build 23 [].toArray) fun x24 =>
    Uop Try.prog (Instr.storeAt 23 x4 x24) w4 fun w5 =>
    Qop Try.prog (Instr.loadAt 23 x4) w5 fun r_1 =>
    K (.tuple #[r_1, (.int .i64 13)]) w5)
   (
    Pop Try.prog (nilS b0) fun x26 =>
    Pop Try.prog (Instr.fieldAt 55 x26 1) fun x27 =>
    Qop Try.prog (Instr.loadAt 27 x27) w4 fun x28 =>
    Pop Try.prog (Instr.indexAt 27 x28 i1) fun x30 =>
    Qop Try.prog (Instr.loadAt 23 x30) w4 fun x31 =>
    Eop Try.prog (Instr.alloc 23 true (.tuple #[])) w4 fun x6 w6 =>
    Uop Try.prog (Instr.storeAt 23 x6 x31) w6 fun w7 =>
    Eop Try.prog (Instr.buildSlice 27 0 [].toArray) w7 fun x32 w8 =>
    Pop Try.prog (nilS b0) fun x34 =>
    Pop Try.prog (Instr.fieldAt 55 x34 1) fun x35 =>
    Qop Try.prog (Instr.loadAt 27 x35) w8 fun x36 =>
    Pop Try.prog (Instr.sliceAt 27 x36 none (some i1) none) fun x38 =>
    Eop Try.prog (Builtin.append_ #[27, 27] 27 [x32, x38].toArray) w8 fun x39 w9 =>
    Pop Try.prog (nilS b0) fun x42 =>
    Pop Try.prog (Instr.fieldAt 55 x42 1) fun x43 =>
    Qop Try.prog (Instr.loadAt 27 x43) w9 fun x44 =>
    Pop Try.prog (binS .add 3 false true i1 (.int .i64 1)) fun x46 =>
    Pop Try.prog (Instr.sliceAt 27 x44 (some x46) none none) fun x47 =>
    Eop Try.prog (Builtin.append_ #[27, 27] 27 [x39, x47].toArray) w9 fun x48 w10 =>
    Pop Try.prog (nilS b0) fun x51 =>
    Pop Try.prog (Instr.fieldAt 55 x51 1) fun x52 =>
    Uop Try.prog (Instr.storeAt 27 x52 x48) w10 fun w11 =>
    Qop Try.prog (Instr.loadAt 23 x6) w11 fun x53 =>
    Uop Try.prog (Instr.storeAt 23 x4 x53) w11 fun w12 =>
    Qop Try.prog (Instr.loadAt 23 x4) w12 fun r_2 =>
    K (.tuple #[r_2, (.int .i64 0)]) w12)))
set_option maxRecDepth 100000 in
theorem S24_eq (b0 i1 : Value) (w : World) (K : Value → World → Prop) : D Try.prog 54 (fun _ => ([], [])) 48 ((Try.f24.body).getD .skip) [] 48 (retQ Try.prog [.cell 4 23, .tmp 5] K) [] (env0 [b0, i1]) w = S24 b0 i1 w K := by kernel_rfl
set_option maxRecDepth 100000 in
theorem S24_ok (b0 i1 : Value) (w : World) (K : Value → World → Prop) (h : S24 b0 i1 w K) : Calls Try.prog 24 [b0, i1].toArray w (Ret K) :=
  calls_of_D mixed Try.func24 (show _ = some ((Try.f24.body).getD .skip) from by kernel_rfl) (by kernel_rfl) (by kernel_rfl) (by simp) ((S_eq (S24_eq b0 i1 w K)).mpr h)

set_option maxRecDepth 100000 in
/-- (*leadline/buffer.Buffer).Copy -/
def S25 (b0 : Value) (w : World) (K : Value → World → Prop) : Prop :=
 Pop Try.prog (nilS b0) fun x4 =>
 Pop Try.prog (Instr.fieldAt 60 x4 0) fun x5 =>
 Qop Try.prog (Instr.loadAt 3 x5) (drew w) fun x6 =>
 CallF Try.prog 18 [b0] (drew w) fun x8 w1 =>
 KeepAnd Try.prog (Instr.loadAt 3 x5) x6 w1 (
 Pop Try.prog (Instr.build 60 [(0, x6), (1, x8)].toArray) fun x9 =>
 Eop Try.prog (Instr.box 60 x9) w1 fun x10 w2 =>
 K x10 w2)
def S25pl : Plans := fun i => match i with
  | 1 => ([(0, []), (1, []), (2, []), (3, []), (4, []), (5, [3]), (6, []), (7, []), (8, [])], [0, 1, 3, 7, 0, 16, 63, 127, 255])
  | _ => ([], [])
set_option maxRecDepth 100000 in
theorem S25_eq (b0 : Value) (w : World) (K : Value → World → Prop) : D Try.prog 11 (S25pl) 4 ((Try.f25.body).getD .skip) [] 4 (retQ Try.prog [.tmp 2] K) [] (env0 [b0]) w = S25 b0 w K := by kernel_rfl
set_option maxRecDepth 100000 in
theorem S25_ok (b0 : Value) (w : World) (K : Value → World → Prop) (h : S25 b0 w K) : Calls Try.prog 25 [b0].toArray w (Ret K) :=
  calls_of_D mixed Try.func25 (show _ = some ((Try.f25.body).getD .skip) from by kernel_rfl) (by kernel_rfl) (by kernel_rfl) (by simp) ((S_eq (S25_eq b0 w K)).mpr h)

set_option maxRecDepth 100000 in
/-- leadline/leadlinelaw12.opt -/
def S26 (line0 : Value) (w : World) (K : Value → World → Prop) : Prop :=
 Eop Try.prog (Instr.alloc 23 true (.tuple #[])) w fun x2 w1 =>
 Pop Try.prog (Instr.build 23 [(0, (.int .i64 6)), (1, line0)].toArray) fun x4 =>
 Uop Try.prog (Instr.storeAt 23 x2 x4) w1 fun w2 =>
 Qop Try.prog (Instr.loadAt 23 x2) w2 fun r =>
 K r w2
set_option maxRecDepth 100000 in
theorem S26_eq (line0 : Value) (w : World) (K : Value → World → Prop) : D Try.prog 5 (fun _ => ([], [])) 4 ((Try.f26.body).getD .skip) [] 4 (retQ Try.prog [.cell 2 23] K) [] (env0 [line0]) w = S26 line0 w K := by kernel_rfl
set_option maxRecDepth 100000 in
theorem S26_ok (line0 : Value) (w : World) (K : Value → World → Prop) (h : S26 line0 w K) : Calls Try.prog 26 [line0].toArray w (Ret K) :=
  calls_of_D mixed Try.func26 (show _ = some ((Try.f26.body).getD .skip) from by kernel_rfl) (by kernel_rfl) (by kernel_rfl) (by simp) ((S_eq (S26_eq line0 w K)).mpr h)

set_option maxRecDepth 100000 in
/-- (*leadline/leadlineref12.Buffer).Last -/
def S27 (b0 cell1 : Value) (w : World) (K : Value → World → Prop) : Prop :=
 Pop Try.prog (nilS b0) fun x8 =>
 Pop Try.prog (Instr.fieldAt 55 x8 1) fun x9 =>
 Qop Try.prog (Instr.loadAt 27 x9) w fun x10 =>
 Pop Try.prog (Builtin.len_ #[27] 3 [x10].toArray) fun x11 =>
 Pop Try.prog (binS .sub 3 false true x11 (.int .i64 1)) fun x12 =>
 Loop1 (fun K1 i6 w1 => ∀ _ : Env,
  Pop Try.prog (binS .geq 3 false true i6 (.int .i64 0)) fun x14 =>
  CondV x14 (
   Join1 (fun K2 =>
    Pop Try.prog (nilS b0) fun x18 =>
    Pop Try.prog (Instr.fieldAt 55 x18 1) fun x19 =>
    Qop Try.prog (Instr.loadAt 27 x19) w1 fun x20 =>
    Pop Try.prog (Instr.indexAt 27 x20 i6) fun x22 =>
    Pop Try.prog (Instr.fieldAt 23 x22 0) fun x23 =>
    Qop Try.prog (Instr.loadAt 3 x23) w1 fun x24 =>
    Pop Try.prog (binS .eql 3 false true x24 (.int .i64 3)) fun x25 =>
    CondV x25 (
     Pop Try.prog (nilS b0) fun x28 =>
     Pop Try.prog (Instr.fieldAt 55 x28 1) fun x29 =>
     Qop Try.prog (Instr.loadAt 27 x29) w1 fun x30 =>
     Pop Try.prog (Instr.indexAt 27 x30 i6) fun x32 =>
     Pop Try.prog (Instr.fieldAt 23 x32 2) fun x33 =>
     Qop Try.prog (Instr.loadAt 3 x33) w1 fun x34 =>
     Pop Try.prog (binS .eql 3 false false x34 cell1) fun x36 =>
     K2 x36 w1)
    (
     K2 (.bool false) w1))
   (fun x37 w2 => ∀ _ : Env,
    CondV x37 (
     Pop Try.prog (nilS b0) fun x39 =>
     Pop Try.prog (Instr.fieldAt 55 x39 1) fun x40 =>
     Qop Try.prog (Instr.loadAt 27 x40) w2 fun x41 =>
     Pop Try.prog (Instr.indexAt 27 x41 i6) fun x43 =>
     Pop Try.prog (Instr.fieldAt 23 x43 3) fun x44 =>
     Qop Try.prog (Instr.loadAt 3 x44) w2 fun x45 =>
     K (.tuple #[x45, (.bool true)]) w2)
    (
     Pop Try.prog (binS .sub 3 false true i6 (.int .i64 1)) fun x16 =>
     K1 x16 w2)))
  (
   K (.tuple #[(.int .i64 0), (.bool false)]) w1))
 (fun K1 => K1 x12 w)
set_option maxRecDepth 100000 in
theorem S27_eq (b0 cell1 : Value) (w : World) (K : Value → World → Prop) : D Try.prog 46 (fun _ => ([], [])) 48 ((Try.f27.body).getD .skip) [] 48 (retQ Try.prog [.tmp 4, .tmp 5] K) [] (env0 [b0, cell1]) w = S27 b0 cell1 w K := by kernel_rfl
set_option maxRecDepth 100000 in
theorem S27_ok (b0 cell1 : Value) (w : World) (K : Value → World → Prop) (h : S27 b0 cell1 w K) : Calls Try.prog 27 [b0, cell1].toArray w (Ret K) :=
  calls_of_D mixed Try.func27 (show _ = some ((Try.f27.body).getD .skip) from by kernel_rfl) (by kernel_rfl) (by kernel_rfl) (by simp) ((S_eq (S27_eq b0 cell1 w K)).mpr h)

set_option maxRecDepth 100000 in
/-- leadline/leadlineref12.Same -/
def S28 (a0 b1 : Value) (w : World) (K : Value → World → Prop) : Prop :=
 Pop Try.prog (Builtin.len_ #[27] 3 [a0].toArray) fun x7 =>
 Pop Try.prog (Builtin.len_ #[27] 3 [b1].toArray) fun x9 =>
 Pop Try.prog (binS .neq 3 false false x7 x9) fun x10 =>
 CondV x10 (
  K (.bool false) w)
 (
  Loop1 (fun K1 i5 w1 => ∀ _ : Env,
   Pop Try.prog (Builtin.len_ #[27] 3 [a0].toArray) fun x13 =>
   Pop Try.prog (binS .lss 3 false false i5 x13) fun x14 =>
   CondV x14 (
    Pop Try.prog (Instr.indexAt 27 a0 i5) fun x19 =>
    Qop Try.prog (Instr.loadAt 23 x19) (drew w1) fun x20 =>
    Pop Try.prog (Instr.indexAt 27 b1 i5) fun x23 =>
    Qop Try.prog (Instr.loadAt 23 x23) (drew w1) fun x24 =>
    Pop Try.prog (binS .neq 23 false false x20 x24) fun x25 =>
    CondV x25 (
     K (.bool false) (drew w1))
    (
     Pop Try.prog (binS .add 3 false true i5 (.int .i64 1)) fun x16 =>
     K1 x16 (drew w1)))
   (
    K (.bool true) w1))
  (fun K1 => K1 (.int .i64 0) w))
def S28pl : Plans := fun i => match i with
  | 6 => ([(0, []), (1, []), (2, []), (3, []), (4, []), (5, []), (6, []), (7, []), (8, [])], [0, 0, 3, 7, 0, 0, 48, 112, 255])
  | _ => ([], [])
set_option maxRecDepth 100000 in
theorem S28_eq (a0 b1 : Value) (w : World) (K : Value → World → Prop) : D Try.prog 26 (S28pl) 16 ((Try.f28.body).getD .skip) [] 16 (retQ Try.prog [.tmp 4] K) [] (env0 [a0, b1]) w = S28 a0 b1 w K := by kernel_rfl
set_option maxRecDepth 100000 in
theorem S28_ok (a0 b1 : Value) (w : World) (K : Value → World → Prop) (h : S28 a0 b1 w K) : Calls Try.prog 28 [a0, b1].toArray w (Ret K) :=
  calls_of_D mixed Try.func28 (show _ = some ((Try.f28.body).getD .skip) from by kernel_rfl) (by kernel_rfl) (by kernel_rfl) (by simp) ((S_eq (S28_eq a0 b1 w K)).mpr h)

set_option maxRecDepth 100000 in
/-- leadline/leadlineref06.Ints -/
def S29 (a0 b1 : Value) (w : World) (K : Value → World → Prop) : Prop :=
 Pop Try.prog (Builtin.len_ #[28] 3 [a0].toArray) fun x7 =>
 Pop Try.prog (Builtin.len_ #[28] 3 [b1].toArray) fun x9 =>
 Pop Try.prog (binS .neq 3 false false x7 x9) fun x10 =>
 CondV x10 (
  K (.bool false) w)
 (
  Loop1 (fun K1 i5 w1 => ∀ _ : Env,
   Pop Try.prog (Builtin.len_ #[28] 3 [a0].toArray) fun x13 =>
   Pop Try.prog (binS .lss 3 false false i5 x13) fun x14 =>
   CondV x14 (
    Pop Try.prog (Instr.indexAt 28 a0 i5) fun x19 =>
    Qop Try.prog (Instr.loadAt 3 x19) (drew w1) fun x20 =>
    Pop Try.prog (Instr.indexAt 28 b1 i5) fun x23 =>
    Qop Try.prog (Instr.loadAt 3 x23) (drew w1) fun x24 =>
    Pop Try.prog (binS .neq 3 false false x20 x24) fun x25 =>
    CondV x25 (
     K (.bool false) (drew w1))
    (
     Pop Try.prog (binS .add 3 false true i5 (.int .i64 1)) fun x16 =>
     K1 x16 (drew w1)))
   (
    K (.bool true) w1))
  (fun K1 => K1 (.int .i64 0) w))
def S29pl : Plans := fun i => match i with
  | 6 => ([(0, []), (1, []), (2, []), (3, []), (4, []), (5, []), (6, []), (7, []), (8, [])], [0, 0, 3, 7, 0, 0, 48, 112, 255])
  | _ => ([], [])
set_option maxRecDepth 100000 in
theorem S29_eq (a0 b1 : Value) (w : World) (K : Value → World → Prop) : D Try.prog 26 (S29pl) 16 ((Try.f29.body).getD .skip) [] 16 (retQ Try.prog [.tmp 4] K) [] (env0 [a0, b1]) w = S29 a0 b1 w K := by kernel_rfl
set_option maxRecDepth 100000 in
theorem S29_ok (a0 b1 : Value) (w : World) (K : Value → World → Prop) (h : S29 a0 b1 w K) : Calls Try.prog 29 [a0, b1].toArray w (Ret K) :=
  calls_of_D mixed Try.func29 (show _ = some ((Try.f29.body).getD .skip) from by kernel_rfl) (by kernel_rfl) (by kernel_rfl) (by simp) ((S_eq (S29_eq a0 b1 w K)).mpr h)

set_option maxRecDepth 100000 in
/-- (*leadline/leadlineref12.Buffer).Cans -/
def S30 (b0 : Value) (w : World) (K : Value → World → Prop) : Prop :=
 Eop Try.prog (Instr.buildSlice 28 0 [].toArray) w fun x5 w1 =>
 Loop2 (fun K1 out3 i4 w2 => ∀ _ : Env,
  Pop Try.prog (nilS b0) fun x8 =>
  Pop Try.prog (Instr.fieldAt 55 x8 1) fun x9 =>
  Qop Try.prog (Instr.loadAt 27 x9) w2 fun x10 =>
  Pop Try.prog (Builtin.len_ #[27] 3 [x10].toArray) fun x11 =>
  Pop Try.prog (binS .lss 3 false false i4 x11) fun x12 =>
  CondV x12 (
   Join1 (fun K2 =>
    CallF Try.prog 32 [b0, i4] w2 fun x17 w3 =>
    CondV x17 (
     Eop Try.prog (Instr.buildSlice 28 1 [(0, i4)].toArray) w3 fun x20 w4 =>
     Eop Try.prog (Builtin.append_ #[28, 28] 28 [out3, x20].toArray) w4 fun x21 w5 =>
     K2 x21 w5)
    (
     K2 out3 w3))
   (fun out3_1 w6 => ∀ _ : Env,
    Pop Try.prog (binS .add 3 false true i4 (.int .i64 1)) fun x14 =>
    K1 out3_1 x14 w6))
  (
   K out3 w2))
 (fun K1 => K1 x5 (.int .i64 0) w1)
set_option maxRecDepth 100000 in
theorem S30_eq (b0 : Value) (w : World) (K : Value → World → Prop) : D Try.prog 23 (fun _ => ([], [])) 4 ((Try.f30.body).getD .skip) [] 4 (retQ Try.prog [.tmp 2] K) [] (env0 [b0]) w = S30 b0 w K := by kernel_rfl
set_option maxRecDepth 100000 in
theorem S30_ok (b0 : Value) (w : World) (K : Value → World → Prop) (h : S30 b0 w K) : Calls Try.prog 30 [b0].toArray w (Ret K) :=
  calls_of_D mixed Try.func30 (show _ = some ((Try.f30.body).getD .skip) from by kernel_rfl) (by kernel_rfl) (by kernel_rfl) (by simp) ((S_eq (S30_eq b0 w K)).mpr h)

set_option maxRecDepth 100000 in
/-- (*leadline/buffer.Buffer).Can -/
def S31 (b0 i1 : Value) (w : World) (K : Value → World → Prop) : Prop :=
 Eop Try.prog (Instr.box 29 b0) w fun b2 w1 =>
 Eop Try.prog (Instr.box 3 i1) w1 fun i3 w2 =>
 Join1 (fun K1 =>
  Qop Try.prog (Instr.loadAt 3 i3) (drew w2) fun x6 =>
  Pop Try.prog (binS .lss 3 false true x6 (.int .i64 0)) fun x7 =>
  CondV x7 (
   K1 (.bool true) (drew w2))
  (
   Qop Try.prog (Instr.loadAt 3 i3) (drew w2) fun x9 =>
   Qop Try.prog (Instr.loadAt 29 b2) (drew w2) fun x10 =>
   Pop Try.prog (nilS x10) fun x11 =>
   Pop Try.prog (Instr.fieldAt 60 x11 1) fun x12 =>
   Qop Try.prog (Instr.loadAt 27 x12) (drew w2) fun x13 =>
   Pop Try.prog (Builtin.len_ #[27] 3 [x13].toArray) fun x14 =>
   Pop Try.prog (binS .geq 3 false false x9 x14) fun x15 =>
   K1 x15 (drew w2)))
 (fun x16 w3 => ∀ _ : Env,
  CondV x16 (
   K (.bool false) w3)
  (
   Qop Try.prog (Instr.loadAt 29 b2) (drew w3) fun x18 =>
   Pop Try.prog (nilS x18) fun x19 =>
   Pop Try.prog (Instr.fieldAt 60 x19 1) fun x20 =>
   Qop Try.prog (Instr.loadAt 27 x20) (drew w3) fun x21 =>
   Qop Try.prog (Instr.loadAt 3 i3) (drew w3) fun x22 =>
   Pop Try.prog (Instr.sliceAt 27 x21 none (some x22) none) fun x23 =>
   CallF Try.prog 37 [x23, (.func (Go.Fn.func 36) [].toArray [b2, i3].toArray)] (drew w3) fun x25 w4 =>
   Pop Try.prog (Op.unary .not x25) fun x26 =>
   K x26 w4))
def S31pl : Plans := fun i => match i with
  | 1 => ([(0, []), (1, []), (2, []), (3, []), (4, []), (5, []), (6, []), (7, []), (8, []), (9, []), (10, [])], [0, 1, 3, 7, 7, 23, 55, 119, 247, 511, 1023])
  | 4 => ([(0, []), (1, []), (2, []), (3, []), (4, []), (5, []), (6, []), (7, []), (8, []), (9, [])], [0, 1, 3, 7, 0, 31, 0, 127, 255, 511])
  | _ => ([], [])
set_option maxRecDepth 100000 in
theorem S31_eq (b0 i1 : Value) (w : World) (K : Value → World → Prop) : D Try.prog 27 (S31pl) 16 ((Try.f31.body).getD .skip) [] 16 (retQ Try.prog [.tmp 4] K) [] (env0 [b0, i1]) w = S31 b0 i1 w K := by kernel_rfl
set_option maxRecDepth 100000 in
theorem S31_ok (b0 i1 : Value) (w : World) (K : Value → World → Prop) (h : S31 b0 i1 w K) : Calls Try.prog 31 [b0, i1].toArray w (Ret K) :=
  calls_of_D mixed Try.func31 (show _ = some ((Try.f31.body).getD .skip) from by kernel_rfl) (by kernel_rfl) (by kernel_rfl) (by simp) ((S_eq (S31_eq b0 i1 w K)).mpr h)

set_option maxRecDepth 100000 in
/-- (*leadline/leadlineref12.Buffer).Can -/
def S32 (b0 i1 : Value) (w : World) (K : Value → World → Prop) : Prop :=
 Join1 (fun K1 =>
  Pop Try.prog (binS .lss 3 false true i1 (.int .i64 0)) fun x7 =>
  CondV x7 (
   K1 (.bool true) w)
  (
   Pop Try.prog (nilS b0) fun x11 =>
   Pop Try.prog (Instr.fieldAt 55 x11 1) fun x12 =>
   Qop Try.prog (Instr.loadAt 27 x12) w fun x13 =>
   Pop Try.prog (Builtin.len_ #[27] 3 [x13].toArray) fun x14 =>
   Pop Try.prog (binS .geq 3 false false i1 x14) fun x15 =>
   K1 x15 w))
 (fun x16 w1 => ∀ _ : Env,
  CondV x16 (
   K (.bool false) w1)
  (
   Loop1 (fun K2 k5 w2 => ∀ _ : Env,
    Pop Try.prog (binS .lss 3 false false k5 i1) fun x19 =>
    CondV x19 (
     Pop Try.prog (nilS b0) fun x23 =>
     Pop Try.prog (Instr.fieldAt 55 x23 1) fun x24 =>
     Qop Try.prog (Instr.loadAt 27 x24) (drew w2) fun x25 =>
     Pop Try.prog (Instr.indexAt 27 x25 i1) fun x27 =>
     Qop Try.prog (Instr.loadAt 23 x27) (drew w2) fun x28 =>
     Pop Try.prog (nilS b0) fun x30 =>
     Pop Try.prog (Instr.fieldAt 55 x30 1) fun x31 =>
     Qop Try.prog (Instr.loadAt 27 x31) (drew w2) fun x32 =>
     Pop Try.prog (Instr.indexAt 27 x32 k5) fun x34 =>
     Qop Try.prog (Instr.loadAt 23 x34) (drew w2) fun x35 =>
     CallF Try.prog 10 [x28, x35] (drew w2) fun x36 w3 =>
     Pop Try.prog (Op.unary .not x36) fun x37 =>
     CondV x37 (
      K (.bool false) w3)
     (
      Pop Try.prog (binS .add 3 false true k5 (.int .i64 1)) fun x21 =>
      K2 x21 w3))
    (
     K (.bool true) w2))
   (fun K2 => K2 (.int .i64 0) w1)))
def S32pl : Plans := fun i => match i with
  | 6 => ([(0, []), (1, []), (2, []), (3, []), (4, []), (5, []), (6, []), (7, []), (8, []), (9, []), (10, []), (11, []), (12, []), (13, []), (14, []), (15, [])], [0, 1, 3, 7, 0, 31, 63, 0, 128, 384, 896, 0, 3968, 8064, 16383, 32767])
  | _ => ([], [])
set_option maxRecDepth 100000 in
theorem S32_eq (b0 i1 : Value) (w : World) (K : Value → World → Prop) : D Try.prog 38 (S32pl) 16 ((Try.f32.body).getD .skip) [] 16 (retQ Try.prog [.tmp 4] K) [] (env0 [b0, i1]) w = S32 b0 i1 w K := by kernel_rfl
set_option maxRecDepth 100000 in
theorem S32_ok (b0 i1 : Value) (w : World) (K : Value → World → Prop) (h : S32 b0 i1 w K) : Calls Try.prog 32 [b0, i1].toArray w (Ret K) :=
  calls_of_D mixed Try.func32 (show _ = some ((Try.f32.body).getD .skip) from by kernel_rfl) (by kernel_rfl) (by kernel_rfl) (by simp) ((S_eq (S32_eq b0 i1 w K)).mpr h)

set_option maxRecDepth 100000 in
/-- slices.Delete[[]leadline/api.Entry,leadline/api.Entry] -/
def S33 (s0 i1 j2 : Value) (w : World) (K : Value → World → Prop) : Prop :=
 Pop Try.prog (Builtin.len_ #[27] 3 [s0].toArray) fun x12 =>
 Pop Try.prog (Instr.sliceAt 27 s0 (some i1) (some j2) (some x12)) fun _ =>
 Pop Try.prog (binS .eql 3 false false i1 j2) fun x16 =>
 CondV x16 (
  K s0 w)
 (
  Pop Try.prog (Builtin.len_ #[27] 3 [s0].toArray) fun x19 =>
  Pop Try.prog (Instr.sliceAt 27 s0 none (some i1) none) fun x22 =>
  Pop Try.prog (Instr.sliceAt 27 s0 (some j2) none none) fun x25 =>
  Eop Try.prog (Builtin.append_ #[27, 27] 27 [x22, x25].toArray) (drew w) fun x26 w1 =>
  Pop Try.prog (Builtin.len_ #[27] 3 [x26].toArray) fun x29 =>
  Pop Try.prog (Instr.sliceAt 27 x26 (some x29) (some x19) none) fun x31 =>
  Eop Try.prog (Builtin.clear_ #[27] 0 [x31].toArray) w1 fun _ w2 =>
  K x26 w2)
def S33pl : Plans := fun i => match i with
  | 5 => ([(0, []), (1, []), (2, []), (3, []), (4, []), (5, []), (6, []), (7, [])], [0, 0, 3, 0, 0, 24, 63, 127])
  | _ => ([], [])
set_option maxRecDepth 100000 in
theorem S33_eq (s0 i1 j2 : Value) (w : World) (K : Value → World → Prop) : D Try.prog 33 (S33pl) 64 ((Try.f33.body).getD .skip) [] 64 (retQ Try.prog [.tmp 6] K) [] (env0 [s0, i1, j2]) w = S33 s0 i1 j2 w K := by kernel_rfl
set_option maxRecDepth 100000 in
theorem S33_ok (s0 i1 j2 : Value) (w : World) (K : Value → World → Prop) (h : S33 s0 i1 j2 w K) : Calls Try.prog 33 [s0, i1, j2].toArray w (Ret K) :=
  calls_of_D mixed Try.func33 (show _ = some ((Try.f33.body).getD .skip) from by kernel_rfl) (by kernel_rfl) (by kernel_rfl) (by simp) ((S_eq (S33_eq s0 i1 j2 w K)).mpr h)

set_option maxRecDepth 100000 in
/-- slices.Clone[[]leadline/api.Entry,leadline/api.Entry] -/
def S34 (s0 : Value) (w : World) (K : Value → World → Prop) : Prop :=
 Pop Try.prog (binS .eql 27 false true s0 (.slice none 0 0)) fun x4 =>
 CondV x4 (
  K (.slice none 0 0) w)
 (
  Eop Try.prog (Instr.buildSlice 27 0 [].toArray) w fun x5 w1 =>
  Eop Try.prog (Builtin.append_ #[27, 27] 27 [x5, s0].toArray) w1 fun x7 w2 =>
  K x7 w2)
set_option maxRecDepth 100000 in
theorem S34_eq (s0 : Value) (w : World) (K : Value → World → Prop) : D Try.prog 8 (fun _ => ([], [])) 4 ((Try.f34.body).getD .skip) [] 4 (retQ Try.prog [.tmp 2] K) [] (env0 [s0]) w = S34 s0 w K := by kernel_rfl
set_option maxRecDepth 100000 in
theorem S34_ok (s0 : Value) (w : World) (K : Value → World → Prop) (h : S34 s0 w K) : Calls Try.prog 34 [s0].toArray w (Ret K) :=
  calls_of_D mixed Try.func34 (show _ = some ((Try.f34.body).getD .skip) from by kernel_rfl) (by kernel_rfl) (by kernel_rfl) (by simp) ((S_eq (S34_eq s0 w K)).mpr h)

set_option maxRecDepth 100000 in
/-- slices.Backward[[]leadline/api.Entry,leadline/api.Entry] -/
def S35 (s0 : Value) (w : World) (K : Value → World → Prop) : Prop :=
 Eop Try.prog (Instr.box 27 s0) w fun s1 w1 =>
 K (.func (Go.Fn.func 38) [].toArray [s1].toArray) w1
set_option maxRecDepth 100000 in
theorem S35_eq (s0 : Value) (w : World) (K : Value → World → Prop) : D Try.prog 4 (fun _ => ([], [])) 4 ((Try.f35.body).getD .skip) [] 4 (retQ Try.prog [.tmp 2] K) [] (env0 [s0]) w = S35 s0 w K := by kernel_rfl
set_option maxRecDepth 100000 in
theorem S35_ok (s0 : Value) (w : World) (K : Value → World → Prop) (h : S35 s0 w K) : Calls Try.prog 35 [s0].toArray w (Ret K) :=
  calls_of_D mixed Try.func35 (show _ = some ((Try.f35.body).getD .skip) from by kernel_rfl) (by kernel_rfl) (by kernel_rfl) (by simp) ((S_eq (S35_eq s0 w K)).mpr h)

set_option maxRecDepth 100000 in
/-- (*leadline/buffer.Buffer).Can$1 -/
def S36 (ahead0 x1 x2 : Value) (w : World) (K : Value → World → Prop) : Prop :=
 Eop Try.prog (Instr.box 23 ahead0) w fun ahead3 w1 =>
 Qop Try.prog (Instr.loadAt 29 x1) (drew w1) fun x5 =>
 Pop Try.prog (nilS x5) fun x6 =>
 Pop Try.prog (Instr.fieldAt 60 x6 1) fun x7 =>
 Qop Try.prog (Instr.loadAt 27 x7) (drew w1) fun x8 =>
 Qop Try.prog (Instr.loadAt 3 x2) (drew w1) fun x9 =>
 Pop Try.prog (Instr.indexAt 27 x8 x9) fun x10 =>
 Qop Try.prog (Instr.loadAt 23 x10) (drew w1) fun x11 =>
 Qop Try.prog (Instr.loadAt 23 ahead3) (drew w1) fun x12 =>
 CallF Try.prog 9 [x11, x12] (drew w1) fun x13 w2 =>
 Pop Try.prog (Op.unary .not x13) fun x14 =>
 K x14 w2
def S36pl : Plans := fun i => match i with
  | 1 => ([(0, []), (1, []), (2, []), (3, []), (4, []), (5, []), (6, []), (7, []), (8, []), (9, []), (10, [])], [0, 1, 3, 7, 0, 31, 63, 0, 255, 511, 1023])
  | _ => ([], [])
set_option maxRecDepth 100000 in
theorem S36_eq (ahead0 x1 x2 : Value) (w : World) (K : Value → World → Prop) : D Try.prog 15 (S36pl) 16 ((Try.f36.body).getD .skip) [] 16 (retQ Try.prog [.tmp 4] K) [] (env0 [ahead0, x1, x2]) w = S36 ahead0 x1 x2 w K := by kernel_rfl
set_option maxRecDepth 100000 in
theorem S36_ok (ahead0 x1 x2 : Value) (w : World) (K : Value → World → Prop) (h : S36 ahead0 x1 x2 w K) : Calls Try.prog 36 [ahead0, x1, x2].toArray w (Ret K) :=
  calls_of_D mixed Try.func36 (show _ = some ((Try.f36.body).getD .skip) from by kernel_rfl) (by kernel_rfl) (by kernel_rfl) (by simp) ((S_eq (S36_eq ahead0 x1 x2 w K)).mpr h)

set_option maxRecDepth 100000 in
/-- slices.ContainsFunc[[]leadline/api.Entry,leadline/api.Entry] -/
def S37 (s0 f1 : Value) (w : World) (K : Value → World → Prop) : Prop :=
 CallF Try.prog 39 [s0, f1] w fun x7 w1 =>
 Pop Try.prog (binS .geq 3 false true x7 (.int .i64 0)) fun x8 =>
 K x8 w1
set_option maxRecDepth 100000 in
theorem S37_eq (s0 f1 : Value) (w : World) (K : Value → World → Prop) : D Try.prog 9 (fun _ => ([], [])) 16 ((Try.f37.body).getD .skip) [] 16 (retQ Try.prog [.tmp 4] K) [] (env0 [s0, f1]) w = S37 s0 f1 w K := by kernel_rfl
set_option maxRecDepth 100000 in
theorem S37_ok (s0 f1 : Value) (w : World) (K : Value → World → Prop) (h : S37 s0 f1 w K) : Calls Try.prog 37 [s0, f1].toArray w (Ret K) :=
  calls_of_D mixed Try.func37 (show _ = some ((Try.f37.body).getD .skip) from by kernel_rfl) (by kernel_rfl) (by kernel_rfl) (by simp) ((S_eq (S37_eq s0 f1 w K)).mpr h)

set_option maxRecDepth 100000 in
/-- slices.Backward[[]leadline/api.Entry,leadline/api.Entry]$1 -/
def S38 (yield0 x1 : Value) (w : World) (K : Value → World → Prop) : Prop :=
 Qop Try.prog (Instr.loadAt 27 x1) w fun x4 =>
 Pop Try.prog (Builtin.len_ #[27] 3 [x4].toArray) fun x5 =>
 Pop Try.prog (binS .sub 3 false true x5 (.int .i64 1)) fun x6 =>
 Loop1 (fun K1 i3 w1 => ∀ _ : Env,
  Pop Try.prog (binS .geq 3 false true i3 (.int .i64 0)) fun x8 =>
  CondV x8 (
   Qop Try.prog (Instr.loadAt 27 x1) w1 fun x13 =>
   Pop Try.prog (Instr.indexAt 27 x13 i3) fun x15 =>
   Qop Try.prog (Instr.loadAt 23 x15) w1 fun x16 =>
   CallV Try.prog yield0 [i3, x16] w1 fun x17 w2 =>
   Pop Try.prog (Op.unary .not x17) fun x18 =>
   CondV x18 (
    K (.tuple #[]) w2)
   (
    Pop Try.prog (binS .sub 3 false true i3 (.int .i64 1)) fun x10 =>
    K1 x10 w2))
  (
   K (.tuple #[]) w1))
 (fun K1 => K1 x6 w)
set_option maxRecDepth 100000 in
theorem S38_eq (yield0 x1 : Value) (w : World) (K : Value → World → Prop) : D Try.prog 19 (fun _ => ([], [])) 0 ((Try.f38.body).getD .skip) [] 0 (retQ Try.prog [] K) [] (env0 [yield0, x1]) w = S38 yield0 x1 w K := by kernel_rfl
set_option maxRecDepth 100000 in
theorem S38_ok (yield0 x1 : Value) (w : World) (K : Value → World → Prop) (h : S38 yield0 x1 w K) : Calls Try.prog 38 [yield0, x1].toArray w (Ret K) :=
  calls_of_D mixed Try.func38 (show _ = some ((Try.f38.body).getD .skip) from by kernel_rfl) (by kernel_rfl) (by kernel_rfl) (by simp) ((S_eq (S38_eq yield0 x1 w K)).mpr h)

set_option maxRecDepth 100000 in
/-- slices.IndexFunc[[]leadline/api.Entry,leadline/api.Entry] -/
def S39 (s0 f1 : Value) (w : World) (K : Value → World → Prop) : Prop :=
 Pop Try.prog (Builtin.len_ #[27] 3 [s0].toArray) fun x7 =>
 Loop1 (fun K1 x8 w1 => ∀ _ : Env,
  Pop Try.prog (binS .lss 3 false false x8 x7) fun x9 =>
  CondV x9 (
   Pop Try.prog (Instr.indexAt 27 s0 x8) fun x14 =>
   Qop Try.prog (Instr.loadAt 23 x14) w1 fun x15 =>
   CallV Try.prog f1 [x15] w1 fun x16 w2 =>
   CondV x16 (
    K x8 w2)
   (
    Pop Try.prog (binS .add 3 false true x8 (.int .i64 1)) fun x18 =>
    K1 x18 w2))
  (
   K (.int .i64 (-1)) w1))
 (fun K1 => K1 (.int .i64 0) w)
set_option maxRecDepth 100000 in
theorem S39_eq (s0 f1 : Value) (w : World) (K : Value → World → Prop) : D Try.prog 19 (fun _ => ([], [])) 16 ((Try.f39.body).getD .skip) [] 16 (retQ Try.prog [.tmp 4] K) [] (env0 [s0, f1]) w = S39 s0 f1 w K := by kernel_rfl
set_option maxRecDepth 100000 in
theorem S39_ok (s0 f1 : Value) (w : World) (K : Value → World → Prop) (h : S39 s0 f1 w K) : Calls Try.prog 39 [s0, f1].toArray w (Ret K) :=
  calls_of_D mixed Try.func39 (show _ = some ((Try.f39.body).getD .skip) from by kernel_rfl) (by kernel_rfl) (by kernel_rfl) (by simp) ((S_eq (S39_eq s0 f1 w K)).mpr h)

theorem pl3 : Plain Try.prog 3 := ⟨_, Try.func3, by kernel_rfl, by kernel_rfl⟩
theorem pl4 : Plain Try.prog 4 := ⟨_, Try.func4, by kernel_rfl, by kernel_rfl⟩
theorem pl5 : Plain Try.prog 5 := ⟨_, Try.func5, by kernel_rfl, by kernel_rfl⟩
theorem pl6 : Plain Try.prog 6 := ⟨_, Try.func6, by kernel_rfl, by kernel_rfl⟩
theorem pl7 : Plain Try.prog 7 := ⟨_, Try.func7, by kernel_rfl, by kernel_rfl⟩
theorem pl8 : Plain Try.prog 8 := ⟨_, Try.func8, by kernel_rfl, by kernel_rfl⟩
theorem pl9 : Plain Try.prog 9 := ⟨_, Try.func9, by kernel_rfl, by kernel_rfl⟩
theorem pl10 : Plain Try.prog 10 := ⟨_, Try.func10, by kernel_rfl, by kernel_rfl⟩
theorem pl11 : Plain Try.prog 11 := ⟨_, Try.func11, by kernel_rfl, by kernel_rfl⟩
theorem pl12 : Plain Try.prog 12 := ⟨_, Try.func12, by kernel_rfl, by kernel_rfl⟩
theorem pl13 : Plain Try.prog 13 := ⟨_, Try.func13, by kernel_rfl, by kernel_rfl⟩
theorem pl14 : Plain Try.prog 14 := ⟨_, Try.func14, by kernel_rfl, by kernel_rfl⟩
theorem pl15 : Plain Try.prog 15 := ⟨_, Try.func15, by kernel_rfl, by kernel_rfl⟩
theorem pl16 : Plain Try.prog 16 := ⟨_, Try.func16, by kernel_rfl, by kernel_rfl⟩
theorem pl17 : Plain Try.prog 17 := ⟨_, Try.func17, by kernel_rfl, by kernel_rfl⟩
theorem pl18 : Plain Try.prog 18 := ⟨_, Try.func18, by kernel_rfl, by kernel_rfl⟩
theorem pl19 : Plain Try.prog 19 := ⟨_, Try.func19, by kernel_rfl, by kernel_rfl⟩
theorem pl20 : Plain Try.prog 20 := ⟨_, Try.func20, by kernel_rfl, by kernel_rfl⟩
theorem pl21 : Plain Try.prog 21 := ⟨_, Try.func21, by kernel_rfl, by kernel_rfl⟩
theorem pl22 : Plain Try.prog 22 := ⟨_, Try.func22, by kernel_rfl, by kernel_rfl⟩
theorem pl23 : Plain Try.prog 23 := ⟨_, Try.func23, by kernel_rfl, by kernel_rfl⟩
theorem pl24 : Plain Try.prog 24 := ⟨_, Try.func24, by kernel_rfl, by kernel_rfl⟩
theorem pl25 : Plain Try.prog 25 := ⟨_, Try.func25, by kernel_rfl, by kernel_rfl⟩
theorem pl26 : Plain Try.prog 26 := ⟨_, Try.func26, by kernel_rfl, by kernel_rfl⟩
theorem pl27 : Plain Try.prog 27 := ⟨_, Try.func27, by kernel_rfl, by kernel_rfl⟩
theorem pl28 : Plain Try.prog 28 := ⟨_, Try.func28, by kernel_rfl, by kernel_rfl⟩
theorem pl29 : Plain Try.prog 29 := ⟨_, Try.func29, by kernel_rfl, by kernel_rfl⟩
theorem pl30 : Plain Try.prog 30 := ⟨_, Try.func30, by kernel_rfl, by kernel_rfl⟩
theorem pl31 : Plain Try.prog 31 := ⟨_, Try.func31, by kernel_rfl, by kernel_rfl⟩
theorem pl32 : Plain Try.prog 32 := ⟨_, Try.func32, by kernel_rfl, by kernel_rfl⟩
theorem pl33 : Plain Try.prog 33 := ⟨_, Try.func33, by kernel_rfl, by kernel_rfl⟩
theorem pl34 : Plain Try.prog 34 := ⟨_, Try.func34, by kernel_rfl, by kernel_rfl⟩
theorem pl35 : Plain Try.prog 35 := ⟨_, Try.func35, by kernel_rfl, by kernel_rfl⟩
theorem pl36 : Plain Try.prog 36 := ⟨_, Try.func36, by kernel_rfl, by kernel_rfl⟩
theorem pl37 : Plain Try.prog 37 := ⟨_, Try.func37, by kernel_rfl, by kernel_rfl⟩
theorem pl38 : Plain Try.prog 38 := ⟨_, Try.func38, by kernel_rfl, by kernel_rfl⟩
theorem pl39 : Plain Try.prog 39 := ⟨_, Try.func39, by kernel_rfl, by kernel_rfl⟩
end Go.Proofs.Ytmjijnkndgjdfaa
