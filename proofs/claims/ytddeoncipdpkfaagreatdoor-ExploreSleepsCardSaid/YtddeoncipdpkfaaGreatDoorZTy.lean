/-
  Closed facts on the types of this seat, each checked by the kernel.
-/
import Derived.Test.YtddeoncipdpkfaaGreatDoorProg
import Derived.Test.YtddeoncipdpkfaaGreatDoorZFw10
import Derived.KernelRfl
set_option linter.all false
namespace Go.Proofs.YtddeoncipdpkfaaGreatDoor
open Go.Fw

theorem ty1 : oneFact Tryz.prog 1 = some (false, 1) := by kernel_rfl
theorem zero1 : zeroFact Tryz.prog 1 = some (some (.nilFunc)) := by kernel_rfl
theorem ty2 : oneFact Tryz.prog 2 = some (false, 1) := by kernel_rfl
theorem zero2 : zeroFact Tryz.prog 2 = some (some (.int .i64 0)) := by kernel_rfl
theorem und2 : Tryz.prog.underlying 2 = some (.int .i64) := by kernel_rfl
theorem ty3 : oneFact Tryz.prog 3 = some (false, 1) := by kernel_rfl
theorem zero3 : zeroFact Tryz.prog 3 = some (some (.int .i64 0)) := by kernel_rfl
theorem und3 : Tryz.prog.underlying 3 = some (.int .i64) := by kernel_rfl
theorem ty4 : oneFact Tryz.prog 4 = some (false, 1) := by kernel_rfl
theorem zero4 : zeroFact Tryz.prog 4 = some (some (.bool false)) := by kernel_rfl
theorem und4 : Tryz.prog.underlying 4 = some (.bool) := by kernel_rfl
theorem ty9 : oneFact Tryz.prog 9 = some (false, 1) := by kernel_rfl
theorem zero9 : zeroFact Tryz.prog 9 = some (some (.string ⟨#[]⟩)) := by kernel_rfl
theorem und9 : Tryz.prog.underlying 9 = some (.string) := by kernel_rfl
theorem ty22 : oneFact Tryz.prog 22 = some (false, 1) := by kernel_rfl
theorem sl22 : slFact Tryz.prog 22 = some (26, 4, 40, some 4) := by kernel_rfl
theorem zero22 : zeroFact Tryz.prog 22 = some (some (.slice none 0 0)) := by kernel_rfl
theorem ty23 : oneFact Tryz.prog 23 = some (true, 9) := by kernel_rfl
theorem fld23_0 : fieldFact Tryz.prog 23 0 = some (0, some true) := by kernel_rfl
theorem fld23_1 : fieldFact Tryz.prog 23 1 = some (1, some true) := by kernel_rfl
theorem fld23_2 : fieldFact Tryz.prog 23 2 = some (2, some true) := by kernel_rfl
theorem fld23_3 : fieldFact Tryz.prog 23 3 = some (3, some true) := by kernel_rfl
theorem fld23_4 : fieldFact Tryz.prog 23 4 = some (4, some true) := by kernel_rfl
theorem fld23_5 : fieldFact Tryz.prog 23 5 = some (5, some true) := by kernel_rfl
theorem fld23_6 : fieldFact Tryz.prog 23 6 = some (6, some true) := by kernel_rfl
theorem fld23_7 : fieldFact Tryz.prog 23 7 = some (7, some true) := by kernel_rfl
theorem fld23_8 : fieldFact Tryz.prog 23 8 = some (8, some true) := by kernel_rfl
theorem zero23 : zeroFact Tryz.prog 23 = some (some (.agg [.int .i64 0, .string ⟨#[]⟩, .string ⟨#[]⟩, .slice none 0 0, .slice none 0 0, .int .i64 0, .int .i64 0, .int .i64 0, .int .i64 0].toArray)) := by kernel_rfl
theorem ty24 : oneFact Tryz.prog 24 = some (true, 9) := by kernel_rfl
theorem fld24_0 : fieldFact Tryz.prog 24 0 = some (0, some true) := by kernel_rfl
theorem fld24_1 : fieldFact Tryz.prog 24 1 = some (1, some true) := by kernel_rfl
theorem fld24_2 : fieldFact Tryz.prog 24 2 = some (2, some true) := by kernel_rfl
theorem fld24_3 : fieldFact Tryz.prog 24 3 = some (3, some true) := by kernel_rfl
theorem fld24_4 : fieldFact Tryz.prog 24 4 = some (4, some true) := by kernel_rfl
theorem fld24_5 : fieldFact Tryz.prog 24 5 = some (5, some true) := by kernel_rfl
theorem fld24_6 : fieldFact Tryz.prog 24 6 = some (6, some true) := by kernel_rfl
theorem fld24_7 : fieldFact Tryz.prog 24 7 = some (7, some true) := by kernel_rfl
theorem fld24_8 : fieldFact Tryz.prog 24 8 = some (8, some true) := by kernel_rfl
theorem zero24 : zeroFact Tryz.prog 24 = some (some (.agg [.int .i64 0, .string ⟨#[]⟩, .string ⟨#[]⟩, .slice none 0 0, .slice none 0 0, .int .i64 0, .int .i64 0, .int .i64 0, .int .i64 0].toArray)) := by kernel_rfl
theorem ty25 : oneFact Tryz.prog 25 = some (true, 4) := by kernel_rfl
theorem fld25_0 : fieldFact Tryz.prog 25 0 = some (0, some true) := by kernel_rfl
theorem fld25_1 : fieldFact Tryz.prog 25 1 = some (1, some true) := by kernel_rfl
theorem fld25_2 : fieldFact Tryz.prog 25 2 = some (2, some true) := by kernel_rfl
theorem fld25_3 : fieldFact Tryz.prog 25 3 = some (3, some true) := by kernel_rfl
theorem zero25 : zeroFact Tryz.prog 25 = some (some (.agg [.int .i64 0, .int .i64 0, .string ⟨#[]⟩, .int .i64 0].toArray)) := by kernel_rfl
theorem ty26 : oneFact Tryz.prog 26 = some (true, 4) := by kernel_rfl
theorem fld26_0 : fieldFact Tryz.prog 26 0 = some (0, some true) := by kernel_rfl
theorem fld26_1 : fieldFact Tryz.prog 26 1 = some (1, some true) := by kernel_rfl
theorem fld26_2 : fieldFact Tryz.prog 26 2 = some (2, some true) := by kernel_rfl
theorem fld26_3 : fieldFact Tryz.prog 26 3 = some (3, some true) := by kernel_rfl
theorem zero26 : zeroFact Tryz.prog 26 = some (some (.agg [.int .i64 0, .int .i64 0, .string ⟨#[]⟩, .int .i64 0].toArray)) := by kernel_rfl
theorem ty27 : oneFact Tryz.prog 27 = some (false, 1) := by kernel_rfl
theorem sl27 : slFact Tryz.prog 27 = some (24, 9, 120, some 9) := by kernel_rfl
theorem zero27 : zeroFact Tryz.prog 27 = some (some (.slice none 0 0)) := by kernel_rfl
theorem ty32 : oneFact Tryz.prog 32 = some (false, 1) := by kernel_rfl
theorem sl32 : slFact Tryz.prog 32 = some (9, 1, 16, some 1) := by kernel_rfl
theorem zero32 : zeroFact Tryz.prog 32 = some (some (.slice none 0 0)) := by kernel_rfl
theorem ty33 : oneFact Tryz.prog 33 = some (true, 4) := by kernel_rfl
theorem fld33_0 : fieldFact Tryz.prog 33 0 = some (0, some true) := by kernel_rfl
theorem fld33_1 : fieldFact Tryz.prog 33 1 = some (1, some true) := by kernel_rfl
theorem fld33_2 : fieldFact Tryz.prog 33 2 = some (2, some true) := by kernel_rfl
theorem fld33_3 : fieldFact Tryz.prog 33 3 = some (3, some true) := by kernel_rfl
theorem zero33 : zeroFact Tryz.prog 33 = some (some (.agg [.string ⟨#[]⟩, .slice none 0 0, .slice none 0 0, .int .i64 0].toArray)) := by kernel_rfl
theorem ty34 : oneFact Tryz.prog 34 = some (true, 4) := by kernel_rfl
theorem fld34_0 : fieldFact Tryz.prog 34 0 = some (0, some true) := by kernel_rfl
theorem fld34_1 : fieldFact Tryz.prog 34 1 = some (1, some true) := by kernel_rfl
theorem fld34_2 : fieldFact Tryz.prog 34 2 = some (2, some true) := by kernel_rfl
theorem fld34_3 : fieldFact Tryz.prog 34 3 = some (3, some true) := by kernel_rfl
theorem zero34 : zeroFact Tryz.prog 34 = some (some (.agg [.string ⟨#[]⟩, .slice none 0 0, .slice none 0 0, .int .i64 0].toArray)) := by kernel_rfl
theorem ty41 : oneFact Tryz.prog 41 = some (true, 5) := by kernel_rfl
theorem fld41_0 : fieldFact Tryz.prog 41 0 = some (0, some true) := by kernel_rfl
theorem fld41_1 : fieldFact Tryz.prog 41 1 = some (1, some true) := by kernel_rfl
theorem fld41_2 : fieldFact Tryz.prog 41 2 = some (2, some true) := by kernel_rfl
theorem fld41_3 : fieldFact Tryz.prog 41 3 = some (3, some true) := by kernel_rfl
theorem fld41_4 : fieldFact Tryz.prog 41 4 = some (4, some true) := by kernel_rfl
theorem zero41 : zeroFact Tryz.prog 41 = some (some (.agg [.int .i64 0, .int .i64 0, .int .i64 0, .int .i64 0, .int .i64 0].toArray)) := by kernel_rfl
theorem ty42 : oneFact Tryz.prog 42 = some (true, 5) := by kernel_rfl
theorem fld42_0 : fieldFact Tryz.prog 42 0 = some (0, some true) := by kernel_rfl
theorem fld42_1 : fieldFact Tryz.prog 42 1 = some (1, some true) := by kernel_rfl
theorem fld42_2 : fieldFact Tryz.prog 42 2 = some (2, some true) := by kernel_rfl
theorem fld42_3 : fieldFact Tryz.prog 42 3 = some (3, some true) := by kernel_rfl
theorem fld42_4 : fieldFact Tryz.prog 42 4 = some (4, some true) := by kernel_rfl
theorem zero42 : zeroFact Tryz.prog 42 = some (some (.agg [.int .i64 0, .int .i64 0, .int .i64 0, .int .i64 0, .int .i64 0].toArray)) := by kernel_rfl
theorem ty45 : oneFact Tryz.prog 45 = some (false, 1) := by kernel_rfl
theorem sl45 : slFact Tryz.prog 45 = some (3, 1, 8, some 1) := by kernel_rfl
theorem zero45 : zeroFact Tryz.prog 45 = some (some (.slice none 0 0)) := by kernel_rfl
theorem ty46 : oneFact Tryz.prog 46 = some (true, 4) := by kernel_rfl
theorem fld46_0 : fieldFact Tryz.prog 46 0 = some (0, some true) := by kernel_rfl
theorem fld46_1 : fieldFact Tryz.prog 46 1 = some (1, some true) := by kernel_rfl
theorem fld46_2 : fieldFact Tryz.prog 46 2 = some (2, some true) := by kernel_rfl
theorem fld46_3 : fieldFact Tryz.prog 46 3 = some (3, some true) := by kernel_rfl
theorem zero46 : zeroFact Tryz.prog 46 = some (some (.agg [.int .i64 0, .int .i64 0, .int .i64 0, .slice none 0 0].toArray)) := by kernel_rfl
theorem ty47 : oneFact Tryz.prog 47 = some (true, 4) := by kernel_rfl
theorem fld47_0 : fieldFact Tryz.prog 47 0 = some (0, some true) := by kernel_rfl
theorem fld47_1 : fieldFact Tryz.prog 47 1 = some (1, some true) := by kernel_rfl
theorem fld47_2 : fieldFact Tryz.prog 47 2 = some (2, some true) := by kernel_rfl
theorem fld47_3 : fieldFact Tryz.prog 47 3 = some (3, some true) := by kernel_rfl
theorem zero47 : zeroFact Tryz.prog 47 = some (some (.agg [.int .i64 0, .int .i64 0, .int .i64 0, .slice none 0 0].toArray)) := by kernel_rfl
theorem ty58 : oneFact Tryz.prog 58 = some (false, 1) := by kernel_rfl
theorem sl58 : slFact Tryz.prog 58 = some (47, 4, 48, some 4) := by kernel_rfl
theorem zero58 : zeroFact Tryz.prog 58 = some (some (.slice none 0 0)) := by kernel_rfl
theorem ty69 : oneFact Tryz.prog 69 = some (false, 1) := by kernel_rfl
theorem sl69 : slFact Tryz.prog 69 = some (42, 5, 40, some 5) := by kernel_rfl
theorem zero69 : zeroFact Tryz.prog 69 = some (some (.slice none 0 0)) := by kernel_rfl
theorem ty129 : oneFact Tryz.prog 129 = some (false, 1) := by kernel_rfl
theorem zero129 : zeroFact Tryz.prog 129 = some (some (.map none)) := by kernel_rfl
theorem ty225 : oneFact Tryz.prog 225 = some (false, 1) := by kernel_rfl
theorem sl225 : slFact Tryz.prog 225 = some (229, 3, 24, some 3) := by kernel_rfl
theorem zero225 : zeroFact Tryz.prog 225 = some (some (.slice none 0 0)) := by kernel_rfl
theorem ty228 : oneFact Tryz.prog 228 = some (true, 3) := by kernel_rfl
theorem fld228_0 : fieldFact Tryz.prog 228 0 = some (0, some true) := by kernel_rfl
theorem fld228_1 : fieldFact Tryz.prog 228 1 = some (1, some true) := by kernel_rfl
theorem fld228_2 : fieldFact Tryz.prog 228 2 = some (2, some true) := by kernel_rfl
theorem zero228 : zeroFact Tryz.prog 228 = some (some (.agg [.int .i64 0, .int .i64 0, .bool false].toArray)) := by kernel_rfl
theorem ty229 : oneFact Tryz.prog 229 = some (true, 3) := by kernel_rfl
theorem fld229_0 : fieldFact Tryz.prog 229 0 = some (0, some true) := by kernel_rfl
theorem fld229_1 : fieldFact Tryz.prog 229 1 = some (1, some true) := by kernel_rfl
theorem fld229_2 : fieldFact Tryz.prog 229 2 = some (2, some true) := by kernel_rfl
theorem zero229 : zeroFact Tryz.prog 229 = some (some (.agg [.int .i64 0, .int .i64 0, .bool false].toArray)) := by kernel_rfl
theorem ty231 : oneFact Tryz.prog 231 = some (false, 1) := by kernel_rfl
theorem zero231 : zeroFact Tryz.prog 231 = some (some (.nilFunc)) := by kernel_rfl
theorem bld229_0_1 (a0 : Int) (a1 : Int) : pr Tryz.prog (Instr.build 229 [(0, .int .i64 a0), (1, .int .i64 a1)].toArray) = some (.agg [.int .i64 a0, .int .i64 a1, .bool false].toArray) := by kernel_rfl
theorem bld229_0_1_2 (a0 : Int) (a1 : Int) (a2 : Bool) : pr Tryz.prog (Instr.build 229 [(0, .int .i64 a0), (1, .int .i64 a1), (2, .bool a2)].toArray) = some (.agg [.int .i64 a0, .int .i64 a1, .bool a2].toArray) := by kernel_rfl
theorem bld229_0_2 (a0 : Int) (a2 : Bool) : pr Tryz.prog (Instr.build 229 [(0, .int .i64 a0), (2, .bool a2)].toArray) = some (.agg [.int .i64 a0, .int .i64 0, .bool a2].toArray) := by kernel_rfl
theorem eqf42 : eqFact Tryz.prog 42 = some [0, 0, 0, 0, 0] := by kernel_rfl
end Go.Proofs.YtddeoncipdpkfaaGreatDoor
