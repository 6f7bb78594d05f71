/-
  The shallow forms of functions of this seat, printed by a program of ours out of the seat's own program; each is checked by the kernel against the framework's D. Nothing here is trusted.
-/
import Derived.Test.YtddeoncipdpkfaaGreatDoorProg
import Derived.Test.YtddeoncipdpkfaaGreatDoorZFw4
import Derived.KernelRfl
import Derived.Test.YtddeoncipdpkfaaGreatDoorZSh0
set_option linter.all false
namespace Go.Proofs.YtddeoncipdpkfaaGreatDoor
open Go.Fw
set_option maxRecDepth 100000
variable (w : World) (K : Value → World → Prop)
def S78 (t0 is1 : Value) : Prop :=
 Eop Tryz.prog (Instr.box 34 t0) w fun t2 w1 =>
 Eop Tryz.prog (Instr.makeMap 129 none) w1 fun x11 w2 =>
 Eop Tryz.prog (Instr.range 129 is1) w2 fun x13 w3 =>
 Loop0 (fun K1 w4 => ∀ _ : Env,
 Eop Tryz.prog (Instr.next x13 false 0) w4 fun x14 w5 =>
 xT x14 0 fun x15 =>
 cV x15 (
 Qop Tryz.prog (Instr.entry x13) w5 fun x16 =>
 xT x16 0 fun x17 =>
 xT x16 1 fun x18 =>
 bB .neq 3 x18 (i 4) fun x20 =>
 cV x20 (
 Uop Tryz.prog (Instr.mapUpdate 129 x11 x17 x18) w5 fun w6 =>
 K1 w6) (
 K1 w5)) (
 fA 34 t2 1 fun x24 =>
 lA 32 x24 w5 fun x25 =>
 lN 32 x25 fun x26 =>
 Loop1 (fun K2 x27 w7 => ∀ _ : Env,
 bA .lss 3 x27 x26 fun x28 =>
 cV x28 (
 iA 32 x25 x27 fun x29 =>
 lA 9 x29 w7 fun x30 =>
 Qop Tryz.prog (Instr.lookup 129 x11 x30 false) w7 fun x33 =>
 bB .neq 3 x33 (i 0) fun x34 =>
 cV x34 (
 K (.tuple #[(Go.Value.map none), tt]) w7) (
 Uop Tryz.prog (Instr.mapUpdate 129 x11 x30 (i 5)) w7 fun w8 =>
 bB .add 3 x27 (i 1) fun x37 =>
 K2 x37 w8)) (
 K (.tuple #[x11, ff]) w7))
 (fun K2 => K2 (i 0) w5)))
 (fun K1 => K1 w3)
theorem S78_ok (t0 is1 : Value) (h : S78 w K t0 is1) : Calls Tryz.prog 78 [t0, is1].toArray w (Ret K) :=
 okE 39 (fun _ => .nil) 48 [.tmp 4, .tmp 5] Tryz.func78 (by kernel_rfl) (by kernel_rfl) (by kernel_rfl) mixed (by simp) (by kernel_rfl) h

theorem pl78 : Plain Tryz.prog 78 := ⟨_, Tryz.func78, by kernel_rfl, by kernel_rfl⟩
end Go.Proofs.YtddeoncipdpkfaaGreatDoor
