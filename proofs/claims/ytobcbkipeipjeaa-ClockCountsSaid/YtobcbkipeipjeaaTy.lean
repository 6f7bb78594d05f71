/-
  Closed facts on the types of this seat, each checked by the kernel.
-/
import Derived.Test.YtobcbkipeipjeaaProg
import Derived.Test.YtobcbkipeipjeaaFw10
import Derived.KernelRfl
namespace Go.Proofs.Ytobcbkipeipjeaa
open Go.Fw

theorem ty1 : oneFact Try.prog 1 = some (false, 1) := by kernel_rfl
theorem zero1 : zeroFact Try.prog 1 = some (some (.nilFunc)) := by kernel_rfl
theorem ty2 : oneFact Try.prog 2 = some (false, 1) := by kernel_rfl
theorem zero2 : zeroFact Try.prog 2 = some (some (.int .i64 0)) := by kernel_rfl
theorem und2 : Try.prog.underlying 2 = some (.int .i64) := by kernel_rfl
theorem ty3 : oneFact Try.prog 3 = some (false, 1) := by kernel_rfl
theorem zero3 : zeroFact Try.prog 3 = some (some (.int .i64 0)) := by kernel_rfl
theorem und3 : Try.prog.underlying 3 = some (.int .i64) := by kernel_rfl
theorem ty4 : oneFact Try.prog 4 = some (false, 1) := by kernel_rfl
theorem zero4 : zeroFact Try.prog 4 = some (some (.bool false)) := by kernel_rfl
theorem und4 : Try.prog.underlying 4 = some (.bool) := by kernel_rfl
theorem ty5 : oneFact Try.prog 5 = some (false, 1) := by kernel_rfl
theorem zero5 : zeroFact Try.prog 5 = some (some (.int .u8 0)) := by kernel_rfl
theorem und5 : Try.prog.underlying 5 = some (.int .u8) := by kernel_rfl
theorem ty6 : oneFact Try.prog 6 = some (false, 1) := by kernel_rfl
theorem zero6 : zeroFact Try.prog 6 = some (some (.int .u8 0)) := by kernel_rfl
theorem und6 : Try.prog.underlying 6 = some (.int .u8) := by kernel_rfl
theorem ty7 : oneFact Try.prog 7 = some (true, 4) := by kernel_rfl
theorem fld7_0 : fieldFact Try.prog 7 0 = some (0, some true) := by kernel_rfl
theorem fld7_1 : fieldFact Try.prog 7 1 = some (1, some true) := by kernel_rfl
theorem fld7_2 : fieldFact Try.prog 7 2 = some (2, some true) := by kernel_rfl
theorem fld7_3 : fieldFact Try.prog 7 3 = some (3, some true) := by kernel_rfl
theorem zero7 : zeroFact Try.prog 7 = some (some (.agg [.int .i64 0, .int .i64 0, .bool false, .int .u8 0].toArray)) := by kernel_rfl
theorem ty8 : oneFact Try.prog 8 = some (true, 4) := by kernel_rfl
theorem fld8_0 : fieldFact Try.prog 8 0 = some (0, some true) := by kernel_rfl
theorem fld8_1 : fieldFact Try.prog 8 1 = some (1, some true) := by kernel_rfl
theorem fld8_2 : fieldFact Try.prog 8 2 = some (2, some true) := by kernel_rfl
theorem fld8_3 : fieldFact Try.prog 8 3 = some (3, some true) := by kernel_rfl
theorem zero8 : zeroFact Try.prog 8 = some (some (.agg [.int .i64 0, .int .i64 0, .bool false, .int .u8 0].toArray)) := by kernel_rfl
theorem ty9 : oneFact Try.prog 9 = some (false, 1) := by kernel_rfl
theorem zero9 : zeroFact Try.prog 9 = some (some (.string ⟨#[]⟩)) := by kernel_rfl
theorem und9 : Try.prog.underlying 9 = some (.string) := by kernel_rfl
theorem ty10 : oneFact Try.prog 10 = some (false, 1) := by kernel_rfl
theorem zero10 : zeroFact Try.prog 10 = some (some (.string ⟨#[]⟩)) := by kernel_rfl
theorem und10 : Try.prog.underlying 10 = some (.string) := by kernel_rfl
theorem ty11 : oneFact Try.prog 11 = some (false, 1) := by kernel_rfl
theorem zero11 : zeroFact Try.prog 11 = some (some (.string ⟨#[]⟩)) := by kernel_rfl
theorem und11 : Try.prog.underlying 11 = some (.string) := by kernel_rfl
theorem ty12 : oneFact Try.prog 12 = some (false, 1) := by kernel_rfl
theorem zero12 : zeroFact Try.prog 12 = some (some (.int .u64 0)) := by kernel_rfl
theorem und12 : Try.prog.underlying 12 = some (.int .u64) := by kernel_rfl
theorem ty13 : oneFact Try.prog 13 = some (true, 2) := by kernel_rfl
theorem fld13_0 : fieldFact Try.prog 13 0 = some (0, some true) := by kernel_rfl
theorem fld13_1 : fieldFact Try.prog 13 1 = some (1, some true) := by kernel_rfl
theorem zero13 : zeroFact Try.prog 13 = some (some (.agg [.string ⟨#[]⟩, .int .u64 0].toArray)) := by kernel_rfl
theorem ty14 : oneFact Try.prog 14 = some (true, 2) := by kernel_rfl
theorem fld14_0 : fieldFact Try.prog 14 0 = some (0, some true) := by kernel_rfl
theorem fld14_1 : fieldFact Try.prog 14 1 = some (1, some true) := by kernel_rfl
theorem zero14 : zeroFact Try.prog 14 = some (some (.agg [.string ⟨#[]⟩, .int .u64 0].toArray)) := by kernel_rfl
theorem ty15 : oneFact Try.prog 15 = some (false, 1) := by kernel_rfl
theorem zero15 : zeroFact Try.prog 15 = some (some (.pointer none)) := by kernel_rfl
theorem und15 : Try.prog.underlying 15 = some (.pointer 60) := by kernel_rfl
theorem ty16 : oneFact Try.prog 16 = some (false, 1) := by kernel_rfl
theorem zero16 : zeroFact Try.prog 16 = some (some (.pointer none)) := by kernel_rfl
theorem und16 : Try.prog.underlying 16 = some (.pointer 63) := by kernel_rfl
theorem ty17 : oneFact Try.prog 17 = some (false, 1) := by kernel_rfl
theorem zero17 : zeroFact Try.prog 17 = some (some (.pointer none)) := by kernel_rfl
theorem und17 : Try.prog.underlying 17 = some (.pointer 73) := by kernel_rfl
theorem ty18 : oneFact Try.prog 18 = some (true, 1) := by kernel_rfl
theorem fld18_0 : fieldFact Try.prog 18 0 = some (0, some true) := by kernel_rfl
theorem zero18 : zeroFact Try.prog 18 = some (some (.agg [.pointer none].toArray)) := by kernel_rfl
theorem ty19 : oneFact Try.prog 19 = some (true, 1) := by kernel_rfl
theorem fld19_0 : fieldFact Try.prog 19 0 = some (0, some true) := by kernel_rfl
theorem zero19 : zeroFact Try.prog 19 = some (some (.agg [.pointer none].toArray)) := by kernel_rfl
theorem ty20 : oneFact Try.prog 20 = some (false, 1) := by kernel_rfl
theorem zero20 : zeroFact Try.prog 20 = some (some (.nilIface)) := by kernel_rfl
theorem ty21 : oneFact Try.prog 21 = some (false, 1) := by kernel_rfl
theorem zero21 : zeroFact Try.prog 21 = some (some (.int .i32 0)) := by kernel_rfl
theorem und21 : Try.prog.underlying 21 = some (.int .i32) := by kernel_rfl
theorem ty22 : oneFact Try.prog 22 = some (false, 1) := by kernel_rfl
theorem sl22 : slFact Try.prog 22 = some (40, 5, 40, some 5) := by kernel_rfl
theorem zero22 : zeroFact Try.prog 22 = some (some (.slice none 0 0)) := by kernel_rfl
theorem ty23 : oneFact Try.prog 23 = some (false, 1) := by kernel_rfl
theorem sl23 : slFact Try.prog 23 = some (3, 1, 8, some 1) := by kernel_rfl
theorem zero23 : zeroFact Try.prog 23 = some (some (.slice none 0 0)) := by kernel_rfl
theorem ty24 : oneFact Try.prog 24 = some (true, 3) := by kernel_rfl
theorem zero24 : zeroFact Try.prog 24 = some (some (.agg [.int .i64 0, .int .i64 0, .int .i64 0].toArray)) := by kernel_rfl
theorem ty25 : oneFact Try.prog 25 = some (false, 1) := by kernel_rfl
theorem zero25 : zeroFact Try.prog 25 = some (some (.nilFunc)) := by kernel_rfl
theorem ty26 : oneFact Try.prog 26 = some (false, 1) := by kernel_rfl
theorem sl26 : slFact Try.prog 26 = some (23, 1, 24, some 1) := by kernel_rfl
theorem zero26 : zeroFact Try.prog 26 = some (some (.slice none 0 0)) := by kernel_rfl
theorem ty27 : oneFact Try.prog 27 = some (false, 1) := by kernel_rfl
theorem zero27 : zeroFact Try.prog 27 = some (some (.nilFunc)) := by kernel_rfl
theorem ty28 : oneFact Try.prog 28 = some (false, 1) := by kernel_rfl
theorem zero28 : zeroFact Try.prog 28 = some (some (.nilFunc)) := by kernel_rfl
theorem ty29 : oneFact Try.prog 29 = some (false, 1) := by kernel_rfl
theorem zero29 : zeroFact Try.prog 29 = some (some (.nilFunc)) := by kernel_rfl
theorem ty30 : oneFact Try.prog 30 = some (false, 1) := by kernel_rfl
theorem sl30 : slFact Try.prog 30 = some (43, 2, 16, some 2) := by kernel_rfl
theorem zero30 : zeroFact Try.prog 30 = some (some (.slice none 0 0)) := by kernel_rfl
theorem ty31 : oneFact Try.prog 31 = some (false, 1) := by kernel_rfl
theorem zero31 : zeroFact Try.prog 31 = some (some (.nilFunc)) := by kernel_rfl
theorem ty32 : oneFact Try.prog 32 = some (false, 1) := by kernel_rfl
theorem zero32 : zeroFact Try.prog 32 = some (some (.nilFunc)) := by kernel_rfl
theorem ty33 : oneFact Try.prog 33 = some (false, 1) := by kernel_rfl
theorem zero33 : zeroFact Try.prog 33 = some (some (.nilFunc)) := by kernel_rfl
theorem ty34 : oneFact Try.prog 34 = some (false, 1) := by kernel_rfl
theorem zero34 : zeroFact Try.prog 34 = some (some (.nilFunc)) := by kernel_rfl
theorem ty35 : oneFact Try.prog 35 = some (false, 1) := by kernel_rfl
theorem zero35 : zeroFact Try.prog 35 = some (some (.nilFunc)) := by kernel_rfl
theorem ty36 : oneFact Try.prog 36 = some (false, 1) := by kernel_rfl
theorem zero36 : zeroFact Try.prog 36 = some (some (.nilFunc)) := by kernel_rfl
theorem ty37 : oneFact Try.prog 37 = some (false, 1) := by kernel_rfl
theorem zero37 : zeroFact Try.prog 37 = some (some (.nilFunc)) := by kernel_rfl
theorem ty38 : oneFact Try.prog 38 = some (false, 1) := by kernel_rfl
theorem zero38 : zeroFact Try.prog 38 = some (some (.nilFunc)) := by kernel_rfl
theorem ty39 : oneFact Try.prog 39 = some (true, 5) := by kernel_rfl
theorem fld39_0 : fieldFact Try.prog 39 0 = some (0, some true) := by kernel_rfl
theorem fld39_1 : fieldFact Try.prog 39 1 = some (1, some true) := by kernel_rfl
theorem fld39_2 : fieldFact Try.prog 39 2 = some (2, some true) := by kernel_rfl
theorem fld39_3 : fieldFact Try.prog 39 3 = some (3, some true) := by kernel_rfl
theorem fld39_4 : fieldFact Try.prog 39 4 = some (4, some true) := by kernel_rfl
theorem zero39 : zeroFact Try.prog 39 = some (some (.agg [.int .i64 0, .int .i64 0, .int .i64 0, .int .i64 0, .int .i64 0].toArray)) := by kernel_rfl
theorem ty40 : oneFact Try.prog 40 = some (true, 5) := by kernel_rfl
theorem fld40_0 : fieldFact Try.prog 40 0 = some (0, some true) := by kernel_rfl
theorem fld40_1 : fieldFact Try.prog 40 1 = some (1, some true) := by kernel_rfl
theorem fld40_2 : fieldFact Try.prog 40 2 = some (2, some true) := by kernel_rfl
theorem fld40_3 : fieldFact Try.prog 40 3 = some (3, some true) := by kernel_rfl
theorem fld40_4 : fieldFact Try.prog 40 4 = some (4, some true) := by kernel_rfl
theorem zero40 : zeroFact Try.prog 40 = some (some (.agg [.int .i64 0, .int .i64 0, .int .i64 0, .int .i64 0, .int .i64 0].toArray)) := by kernel_rfl
theorem ty41 : oneFact Try.prog 41 = some (false, 1) := by kernel_rfl
theorem zero41 : zeroFact Try.prog 41 = some (some (.nilFunc)) := by kernel_rfl
theorem ty42 : oneFact Try.prog 42 = some (false, 1) := by kernel_rfl
theorem zero42 : zeroFact Try.prog 42 = some (some (.nilFunc)) := by kernel_rfl
theorem ty43 : oneFact Try.prog 43 = some (true, 2) := by kernel_rfl
theorem zero43 : zeroFact Try.prog 43 = some (some (.agg [.int .i64 0, .int .i64 0].toArray)) := by kernel_rfl
theorem ty44 : oneFact Try.prog 44 = some (false, 1) := by kernel_rfl
theorem zero44 : zeroFact Try.prog 44 = some (some (.nilFunc)) := by kernel_rfl
theorem ty45 : oneFact Try.prog 45 = some (false, 1) := by kernel_rfl
theorem sl45 : slFact Try.prog 45 = some (47, 1, 24, some 1) := by kernel_rfl
theorem zero45 : zeroFact Try.prog 45 = some (some (.slice none 0 0)) := by kernel_rfl
theorem ty46 : oneFact Try.prog 46 = some (false, 1) := by kernel_rfl
theorem zero46 : zeroFact Try.prog 46 = some (some (.nilFunc)) := by kernel_rfl
theorem ty47 : oneFact Try.prog 47 = some (false, 1) := by kernel_rfl
theorem sl47 : slFact Try.prog 47 = some (4, 1, 1, some 1) := by kernel_rfl
theorem zero47 : zeroFact Try.prog 47 = some (some (.slice none 0 0)) := by kernel_rfl
theorem ty48 : oneFact Try.prog 48 = some (false, 1) := by kernel_rfl
theorem sl48 : slFact Try.prog 48 = some (52, 3, 24, some 3) := by kernel_rfl
theorem zero48 : zeroFact Try.prog 48 = some (some (.slice none 0 0)) := by kernel_rfl
theorem ty49 : oneFact Try.prog 49 = some (false, 1) := by kernel_rfl
theorem zero49 : zeroFact Try.prog 49 = some (some (.nilFunc)) := by kernel_rfl
theorem ty50 : oneFact Try.prog 50 = some (false, 1) := by kernel_rfl
theorem zero50 : zeroFact Try.prog 50 = some (some (.nilFunc)) := by kernel_rfl
theorem ty51 : oneFact Try.prog 51 = some (true, 3) := by kernel_rfl
theorem fld51_0 : fieldFact Try.prog 51 0 = some (0, some true) := by kernel_rfl
theorem fld51_1 : fieldFact Try.prog 51 1 = some (1, some true) := by kernel_rfl
theorem fld51_2 : fieldFact Try.prog 51 2 = some (2, some true) := by kernel_rfl
theorem zero51 : zeroFact Try.prog 51 = some (some (.agg [.int .i64 0, .int .i64 0, .bool false].toArray)) := by kernel_rfl
theorem ty52 : oneFact Try.prog 52 = some (true, 3) := by kernel_rfl
theorem fld52_0 : fieldFact Try.prog 52 0 = some (0, some true) := by kernel_rfl
theorem fld52_1 : fieldFact Try.prog 52 1 = some (1, some true) := by kernel_rfl
theorem fld52_2 : fieldFact Try.prog 52 2 = some (2, some true) := by kernel_rfl
theorem zero52 : zeroFact Try.prog 52 = some (some (.agg [.int .i64 0, .int .i64 0, .bool false].toArray)) := by kernel_rfl
theorem ty53 : oneFact Try.prog 53 = some (false, 1) := by kernel_rfl
theorem zero53 : zeroFact Try.prog 53 = some (some (.nilFunc)) := by kernel_rfl
theorem ty54 : oneFact Try.prog 54 = some (false, 1) := by kernel_rfl
theorem zero54 : zeroFact Try.prog 54 = some (some (.nilFunc)) := by kernel_rfl
theorem ty55 : oneFact Try.prog 55 = some (false, 1) := by kernel_rfl
theorem zero55 : zeroFact Try.prog 55 = some (some (.nilFunc)) := by kernel_rfl
theorem ty56 : oneFact Try.prog 56 = some (false, 1) := by kernel_rfl
theorem zero56 : zeroFact Try.prog 56 = some (some (.nilFunc)) := by kernel_rfl
theorem ty57 : oneFact Try.prog 57 = some (false, 1) := by kernel_rfl
theorem zero57 : zeroFact Try.prog 57 = some (some (.nilFunc)) := by kernel_rfl
theorem ty58 : oneFact Try.prog 58 = some (false, 1) := by kernel_rfl
theorem zero58 : zeroFact Try.prog 58 = some (some (.nilFunc)) := by kernel_rfl
theorem ty59 : oneFact Try.prog 59 = some (true, 4) := by kernel_rfl
theorem fld59_0 : fieldFact Try.prog 59 0 = some (0, some true) := by kernel_rfl
theorem fld59_1 : fieldFact Try.prog 59 1 = some (1, some true) := by kernel_rfl
theorem fld59_2 : fieldFact Try.prog 59 2 = some (2, some true) := by kernel_rfl
theorem fld59_3 : fieldFact Try.prog 59 3 = some (3, some true) := by kernel_rfl
theorem zero59 : zeroFact Try.prog 59 = some (some (.agg [.pointer none, .pointer none, .pointer none, .string ⟨#[]⟩].toArray)) := by kernel_rfl
theorem ty60 : oneFact Try.prog 60 = some (true, 4) := by kernel_rfl
theorem fld60_0 : fieldFact Try.prog 60 0 = some (0, some true) := by kernel_rfl
theorem fld60_1 : fieldFact Try.prog 60 1 = some (1, some true) := by kernel_rfl
theorem fld60_2 : fieldFact Try.prog 60 2 = some (2, some true) := by kernel_rfl
theorem fld60_3 : fieldFact Try.prog 60 3 = some (3, some true) := by kernel_rfl
theorem zero60 : zeroFact Try.prog 60 = some (some (.agg [.pointer none, .pointer none, .pointer none, .string ⟨#[]⟩].toArray)) := by kernel_rfl
theorem ty61 : oneFact Try.prog 61 = some (true, 0) := by kernel_rfl
theorem zero61 : zeroFact Try.prog 61 = some (some (.agg [].toArray)) := by kernel_rfl
theorem ty62 : oneFact Try.prog 62 = some (true, 0) := by kernel_rfl
theorem zero62 : zeroFact Try.prog 62 = some (some (.agg [].toArray)) := by kernel_rfl
theorem ty63 : oneFact Try.prog 63 = some (true, 0) := by kernel_rfl
theorem zero63 : zeroFact Try.prog 63 = some (some (.agg [].toArray)) := by kernel_rfl
theorem ty64 : oneFact Try.prog 64 = some (false, 1) := by kernel_rfl
theorem zero64 : zeroFact Try.prog 64 = some (some (.nilFunc)) := by kernel_rfl
theorem ty65 : oneFact Try.prog 65 = some (false, 1) := by kernel_rfl
theorem zero65 : zeroFact Try.prog 65 = some (some (.int .u32 0)) := by kernel_rfl
theorem und65 : Try.prog.underlying 65 = some (.int .u32) := by kernel_rfl
theorem ty66 : oneFact Try.prog 66 = some (false, 1) := by kernel_rfl
theorem zero66 : zeroFact Try.prog 66 = some (some (.int .u8 0)) := by kernel_rfl
theorem und66 : Try.prog.underlying 66 = some (.int .u8) := by kernel_rfl
theorem ty67 : oneFact Try.prog 67 = some (false, 1) := by kernel_rfl
theorem zero67 : zeroFact Try.prog 67 = some (some (.int .u8 0)) := by kernel_rfl
theorem und67 : Try.prog.underlying 67 = some (.int .u8) := by kernel_rfl
theorem ty68 : oneFact Try.prog 68 = some (false, 1) := by kernel_rfl
theorem zero68 : zeroFact Try.prog 68 = some (some (.nilFunc)) := by kernel_rfl
theorem ty69 : oneFact Try.prog 69 = some (false, 1) := by kernel_rfl
theorem zero69 : zeroFact Try.prog 69 = some (some (.pointer none)) := by kernel_rfl
theorem und69 : Try.prog.underlying 69 = some (.pointer 5) := by kernel_rfl
theorem ty70 : oneFact Try.prog 70 = some (false, 1) := by kernel_rfl
theorem zero70 : zeroFact Try.prog 70 = some (some (.int .i32 0)) := by kernel_rfl
theorem und70 : Try.prog.underlying 70 = some (.int .i32) := by kernel_rfl
theorem ty71 : oneFact Try.prog 71 = some (false, 1) := by kernel_rfl
theorem zero71 : zeroFact Try.prog 71 = some (some (.int .i32 0)) := by kernel_rfl
theorem und71 : Try.prog.underlying 71 = some (.int .i32) := by kernel_rfl
theorem ty72 : oneFact Try.prog 72 = some (true, 11) := by kernel_rfl
theorem fld72_0 : fieldFact Try.prog 72 0 = some (0, some true) := by kernel_rfl
theorem fld72_1 : fieldFact Try.prog 72 1 = some (1, some true) := by kernel_rfl
theorem fld72_2 : fieldFact Try.prog 72 2 = some (2, some true) := by kernel_rfl
theorem fld72_3 : fieldFact Try.prog 72 3 = some (3, some true) := by kernel_rfl
theorem fld72_4 : fieldFact Try.prog 72 4 = some (4, some true) := by kernel_rfl
theorem fld72_5 : fieldFact Try.prog 72 5 = some (5, some true) := by kernel_rfl
theorem fld72_6 : fieldFact Try.prog 72 6 = some (6, some true) := by kernel_rfl
theorem fld72_7 : fieldFact Try.prog 72 7 = some (7, some true) := by kernel_rfl
theorem fld72_8 : fieldFact Try.prog 72 8 = some (8, some true) := by kernel_rfl
theorem fld72_9 : fieldFact Try.prog 72 9 = some (9, some true) := by kernel_rfl
theorem fld72_10 : fieldFact Try.prog 72 10 = some (10, some true) := by kernel_rfl
theorem zero72 : zeroFact Try.prog 72 = some (some (.agg [.int .u64 0, .int .u64 0, .int .u32 0, .int .u8 0, .int .u8 0, .int .u8 0, .int .u8 0, .nilFunc, .pointer none, .int .i32 0, .int .i32 0].toArray)) := by kernel_rfl
theorem ty73 : oneFact Try.prog 73 = some (true, 11) := by kernel_rfl
theorem fld73_0 : fieldFact Try.prog 73 0 = some (0, some true) := by kernel_rfl
theorem fld73_1 : fieldFact Try.prog 73 1 = some (1, some true) := by kernel_rfl
theorem fld73_2 : fieldFact Try.prog 73 2 = some (2, some true) := by kernel_rfl
theorem fld73_3 : fieldFact Try.prog 73 3 = some (3, some true) := by kernel_rfl
theorem fld73_4 : fieldFact Try.prog 73 4 = some (4, some true) := by kernel_rfl
theorem fld73_5 : fieldFact Try.prog 73 5 = some (5, some true) := by kernel_rfl
theorem fld73_6 : fieldFact Try.prog 73 6 = some (6, some true) := by kernel_rfl
theorem fld73_7 : fieldFact Try.prog 73 7 = some (7, some true) := by kernel_rfl
theorem fld73_8 : fieldFact Try.prog 73 8 = some (8, some true) := by kernel_rfl
theorem fld73_9 : fieldFact Try.prog 73 9 = some (9, some true) := by kernel_rfl
theorem fld73_10 : fieldFact Try.prog 73 10 = some (10, some true) := by kernel_rfl
theorem zero73 : zeroFact Try.prog 73 = some (some (.agg [.int .u64 0, .int .u64 0, .int .u32 0, .int .u8 0, .int .u8 0, .int .u8 0, .int .u8 0, .nilFunc, .pointer none, .int .i32 0, .int .i32 0].toArray)) := by kernel_rfl
theorem ty74 : oneFact Try.prog 74 = some (false, 1) := by kernel_rfl
theorem zero74 : zeroFact Try.prog 74 = some (some (.pointer none)) := by kernel_rfl
theorem bld40_0 (a0 : Int) : pr Try.prog (Instr.build 40 [(0, .int .i64 a0)].toArray) = some (.agg [.int .i64 a0, .int .i64 0, .int .i64 0, .int .i64 0, .int .i64 0].toArray) := by kernel_rfl
theorem bld40_0_1 (a0 : Int) (a1 : Int) : pr Try.prog (Instr.build 40 [(0, .int .i64 a0), (1, .int .i64 a1)].toArray) = some (.agg [.int .i64 a0, .int .i64 a1, .int .i64 0, .int .i64 0, .int .i64 0].toArray) := by kernel_rfl
theorem bld40_0_1_2 (a0 : Int) (a1 : Int) (a2 : Int) : pr Try.prog (Instr.build 40 [(0, .int .i64 a0), (1, .int .i64 a1), (2, .int .i64 a2)].toArray) = some (.agg [.int .i64 a0, .int .i64 a1, .int .i64 a2, .int .i64 0, .int .i64 0].toArray) := by kernel_rfl
theorem bld40_0_1_3 (a0 : Int) (a1 : Int) (a3 : Int) : pr Try.prog (Instr.build 40 [(0, .int .i64 a0), (1, .int .i64 a1), (3, .int .i64 a3)].toArray) = some (.agg [.int .i64 a0, .int .i64 a1, .int .i64 0, .int .i64 a3, .int .i64 0].toArray) := by kernel_rfl
theorem bld40_0_3 (a0 : Int) (a3 : Int) : pr Try.prog (Instr.build 40 [(0, .int .i64 a0), (3, .int .i64 a3)].toArray) = some (.agg [.int .i64 a0, .int .i64 0, .int .i64 0, .int .i64 a3, .int .i64 0].toArray) := by kernel_rfl
theorem bld40_1 (a1 : Int) : pr Try.prog (Instr.build 40 [(1, .int .i64 a1)].toArray) = some (.agg [.int .i64 0, .int .i64 a1, .int .i64 0, .int .i64 0, .int .i64 0].toArray) := by kernel_rfl
theorem bld43_0_1 (a0 : Int) (a1 : Int) : pr Try.prog (Instr.build 43 [(0, .int .i64 a0), (1, .int .i64 a1)].toArray) = some (.agg [.int .i64 a0, .int .i64 a1].toArray) := by kernel_rfl
theorem bld52_0_1 (a0 : Int) (a1 : Int) : pr Try.prog (Instr.build 52 [(0, .int .i64 a0), (1, .int .i64 a1)].toArray) = some (.agg [.int .i64 a0, .int .i64 a1, .bool false].toArray) := by kernel_rfl
theorem bld52_0_1_2 (a0 : Int) (a1 : Int) (a2 : Bool) : pr Try.prog (Instr.build 52 [(0, .int .i64 a0), (1, .int .i64 a1), (2, .bool a2)].toArray) = some (.agg [.int .i64 a0, .int .i64 a1, .bool a2].toArray) := by kernel_rfl
theorem bld52_0_2 (a0 : Int) (a2 : Bool) : pr Try.prog (Instr.build 52 [(0, .int .i64 a0), (2, .bool a2)].toArray) = some (.agg [.int .i64 a0, .int .i64 0, .bool a2].toArray) := by kernel_rfl
end Go.Proofs.Ytobcbkipeipjeaa
