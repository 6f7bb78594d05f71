/-
  Closed facts on the types of this seat, each checked by the kernel.
-/
import Derived.Test.YtndcifakbhggdaaGreatDoorProg
import Derived.Test.YtndcifakbhggdaaGreatDoorZFw10
import Derived.KernelRfl
namespace Go.Proofs.YtndcifakbhggdaaGreatDoor
open Go.Fw

theorem ty1 : oneFact Tryz.prog 1 = some (false, 1) := by kernel_rfl
theorem zero1 : zeroFact Tryz.prog 1 = some (some (.nilFunc)) := by kernel_rfl
theorem ty2 : oneFact Tryz.prog 2 = some (false, 1) := by kernel_rfl
theorem zero2 : zeroFact Tryz.prog 2 = some (some (.int .i64 0)) := by kernel_rfl
theorem und2 : Tryz.prog.underlying 2 = some (.int .i64) := by kernel_rfl
theorem ty3 : oneFact Tryz.prog 3 = some (false, 1) := by kernel_rfl
theorem zero3 : zeroFact Tryz.prog 3 = some (some (.int .i64 0)) := by kernel_rfl
theorem und3 : Tryz.prog.underlying 3 = some (.int .i64) := by kernel_rfl
theorem ty4 : oneFact Tryz.prog 4 = some (false, 1) := by kernel_rfl
theorem zero4 : zeroFact Tryz.prog 4 = some (some (.bool false)) := by kernel_rfl
theorem und4 : Tryz.prog.underlying 4 = some (.bool) := by kernel_rfl
theorem ty5 : oneFact Tryz.prog 5 = some (false, 1) := by kernel_rfl
theorem zero5 : zeroFact Tryz.prog 5 = some (some (.int .u8 0)) := by kernel_rfl
theorem und5 : Tryz.prog.underlying 5 = some (.int .u8) := by kernel_rfl
theorem ty6 : oneFact Tryz.prog 6 = some (false, 1) := by kernel_rfl
theorem zero6 : zeroFact Tryz.prog 6 = some (some (.int .u8 0)) := by kernel_rfl
theorem und6 : Tryz.prog.underlying 6 = some (.int .u8) := by kernel_rfl
theorem ty7 : oneFact Tryz.prog 7 = some (true, 4) := by kernel_rfl
theorem fld7_0 : fieldFact Tryz.prog 7 0 = some (0, some true) := by kernel_rfl
theorem fld7_1 : fieldFact Tryz.prog 7 1 = some (1, some true) := by kernel_rfl
theorem fld7_2 : fieldFact Tryz.prog 7 2 = some (2, some true) := by kernel_rfl
theorem fld7_3 : fieldFact Tryz.prog 7 3 = some (3, some true) := by kernel_rfl
theorem zero7 : zeroFact Tryz.prog 7 = some (some (.agg [.int .i64 0, .int .i64 0, .bool false, .int .u8 0].toArray)) := by kernel_rfl
theorem ty8 : oneFact Tryz.prog 8 = some (true, 4) := by kernel_rfl
theorem fld8_0 : fieldFact Tryz.prog 8 0 = some (0, some true) := by kernel_rfl
theorem fld8_1 : fieldFact Tryz.prog 8 1 = some (1, some true) := by kernel_rfl
theorem fld8_2 : fieldFact Tryz.prog 8 2 = some (2, some true) := by kernel_rfl
theorem fld8_3 : fieldFact Tryz.prog 8 3 = some (3, some true) := by kernel_rfl
theorem zero8 : zeroFact Tryz.prog 8 = some (some (.agg [.int .i64 0, .int .i64 0, .bool false, .int .u8 0].toArray)) := by kernel_rfl
theorem ty9 : oneFact Tryz.prog 9 = some (false, 1) := by kernel_rfl
theorem zero9 : zeroFact Tryz.prog 9 = some (some (.string ⟨#[]⟩)) := by kernel_rfl
theorem und9 : Tryz.prog.underlying 9 = some (.string) := by kernel_rfl
theorem ty10 : oneFact Tryz.prog 10 = some (false, 1) := by kernel_rfl
theorem zero10 : zeroFact Tryz.prog 10 = some (some (.string ⟨#[]⟩)) := by kernel_rfl
theorem und10 : Tryz.prog.underlying 10 = some (.string) := by kernel_rfl
theorem ty11 : oneFact Tryz.prog 11 = some (false, 1) := by kernel_rfl
theorem zero11 : zeroFact Tryz.prog 11 = some (some (.string ⟨#[]⟩)) := by kernel_rfl
theorem und11 : Tryz.prog.underlying 11 = some (.string) := by kernel_rfl
theorem ty12 : oneFact Tryz.prog 12 = some (false, 1) := by kernel_rfl
theorem zero12 : zeroFact Tryz.prog 12 = some (some (.int .u64 0)) := by kernel_rfl
theorem und12 : Tryz.prog.underlying 12 = some (.int .u64) := by kernel_rfl
theorem ty13 : oneFact Tryz.prog 13 = some (true, 2) := by kernel_rfl
theorem fld13_0 : fieldFact Tryz.prog 13 0 = some (0, some true) := by kernel_rfl
theorem fld13_1 : fieldFact Tryz.prog 13 1 = some (1, some true) := by kernel_rfl
theorem zero13 : zeroFact Tryz.prog 13 = some (some (.agg [.string ⟨#[]⟩, .int .u64 0].toArray)) := by kernel_rfl
theorem ty14 : oneFact Tryz.prog 14 = some (true, 2) := by kernel_rfl
theorem fld14_0 : fieldFact Tryz.prog 14 0 = some (0, some true) := by kernel_rfl
theorem fld14_1 : fieldFact Tryz.prog 14 1 = some (1, some true) := by kernel_rfl
theorem zero14 : zeroFact Tryz.prog 14 = some (some (.agg [.string ⟨#[]⟩, .int .u64 0].toArray)) := by kernel_rfl
theorem ty15 : oneFact Tryz.prog 15 = some (false, 1) := by kernel_rfl
theorem zero15 : zeroFact Tryz.prog 15 = some (some (.pointer none)) := by kernel_rfl
theorem und15 : Tryz.prog.underlying 15 = some (.pointer 385) := by kernel_rfl
theorem ty16 : oneFact Tryz.prog 16 = some (false, 1) := by kernel_rfl
theorem zero16 : zeroFact Tryz.prog 16 = some (some (.pointer none)) := by kernel_rfl
theorem und16 : Tryz.prog.underlying 16 = some (.pointer 388) := by kernel_rfl
theorem ty17 : oneFact Tryz.prog 17 = some (false, 1) := by kernel_rfl
theorem zero17 : zeroFact Tryz.prog 17 = some (some (.pointer none)) := by kernel_rfl
theorem und17 : Tryz.prog.underlying 17 = some (.pointer 396) := by kernel_rfl
theorem ty18 : oneFact Tryz.prog 18 = some (true, 1) := by kernel_rfl
theorem fld18_0 : fieldFact Tryz.prog 18 0 = some (0, some true) := by kernel_rfl
theorem zero18 : zeroFact Tryz.prog 18 = some (some (.agg [.pointer none].toArray)) := by kernel_rfl
theorem ty19 : oneFact Tryz.prog 19 = some (true, 1) := by kernel_rfl
theorem fld19_0 : fieldFact Tryz.prog 19 0 = some (0, some true) := by kernel_rfl
theorem zero19 : zeroFact Tryz.prog 19 = some (some (.agg [.pointer none].toArray)) := by kernel_rfl
theorem ty20 : oneFact Tryz.prog 20 = some (false, 1) := by kernel_rfl
theorem zero20 : zeroFact Tryz.prog 20 = some (some (.nilIface)) := by kernel_rfl
theorem ty21 : oneFact Tryz.prog 21 = some (false, 1) := by kernel_rfl
theorem zero21 : zeroFact Tryz.prog 21 = some (some (.int .i32 0)) := by kernel_rfl
theorem und21 : Tryz.prog.underlying 21 = some (.int .i32) := by kernel_rfl
theorem ty22 : oneFact Tryz.prog 22 = some (false, 1) := by kernel_rfl
theorem sl22 : slFact Tryz.prog 22 = some (23, 1, 24, some 1) := by kernel_rfl
theorem zero22 : zeroFact Tryz.prog 22 = some (some (.slice none 0 0)) := by kernel_rfl
theorem ty23 : oneFact Tryz.prog 23 = some (false, 1) := by kernel_rfl
theorem sl23 : slFact Tryz.prog 23 = some (177, 3, 32, some 3) := by kernel_rfl
theorem zero23 : zeroFact Tryz.prog 23 = some (some (.slice none 0 0)) := by kernel_rfl
theorem ty24 : oneFact Tryz.prog 24 = some (false, 1) := by kernel_rfl
theorem sl24 : slFact Tryz.prog 24 = some (68, 4, 72, some 4) := by kernel_rfl
theorem zero24 : zeroFact Tryz.prog 24 = some (some (.slice none 0 0)) := by kernel_rfl
theorem ty25 : oneFact Tryz.prog 25 = some (false, 1) := by kernel_rfl
theorem sl25 : slFact Tryz.prog 25 = some (102, 2, 32, some 2) := by kernel_rfl
theorem zero25 : zeroFact Tryz.prog 25 = some (some (.slice none 0 0)) := by kernel_rfl
theorem ty26 : oneFact Tryz.prog 26 = some (true, 6) := by kernel_rfl
theorem fld26_0 : fieldFact Tryz.prog 26 0 = some (0, some true) := by kernel_rfl
theorem fld26_1 : fieldFact Tryz.prog 26 1 = some (1, some true) := by kernel_rfl
theorem fld26_2 : fieldFact Tryz.prog 26 2 = some (2, some true) := by kernel_rfl
theorem fld26_3 : fieldFact Tryz.prog 26 3 = some (3, some true) := by kernel_rfl
theorem fld26_4 : fieldFact Tryz.prog 26 4 = some (4, some true) := by kernel_rfl
theorem fld26_5 : fieldFact Tryz.prog 26 5 = some (5, some true) := by kernel_rfl
theorem zero26 : zeroFact Tryz.prog 26 = some (some (.agg [.slice none 0 0, .slice none 0 0, .slice none 0 0, .slice none 0 0, .slice none 0 0, .slice none 0 0].toArray)) := by kernel_rfl
theorem ty27 : oneFact Tryz.prog 27 = some (true, 6) := by kernel_rfl
theorem fld27_0 : fieldFact Tryz.prog 27 0 = some (0, some true) := by kernel_rfl
theorem fld27_1 : fieldFact Tryz.prog 27 1 = some (1, some true) := by kernel_rfl
theorem fld27_2 : fieldFact Tryz.prog 27 2 = some (2, some true) := by kernel_rfl
theorem fld27_3 : fieldFact Tryz.prog 27 3 = some (3, some true) := by kernel_rfl
theorem fld27_4 : fieldFact Tryz.prog 27 4 = some (4, some true) := by kernel_rfl
theorem fld27_5 : fieldFact Tryz.prog 27 5 = some (5, some true) := by kernel_rfl
theorem zero27 : zeroFact Tryz.prog 27 = some (some (.agg [.slice none 0 0, .slice none 0 0, .slice none 0 0, .slice none 0 0, .slice none 0 0, .slice none 0 0].toArray)) := by kernel_rfl
theorem ty28 : oneFact Tryz.prog 28 = some (false, 1) := by kernel_rfl
theorem sl28 : slFact Tryz.prog 28 = some (53, 6, 64, some 6) := by kernel_rfl
theorem zero28 : zeroFact Tryz.prog 28 = some (some (.slice none 0 0)) := by kernel_rfl
theorem ty29 : oneFact Tryz.prog 29 = some (false, 1) := by kernel_rfl
theorem zero29 : zeroFact Tryz.prog 29 = some (some (.nilFunc)) := by kernel_rfl
theorem ty30 : oneFact Tryz.prog 30 = some (false, 1) := by kernel_rfl
theorem zero30 : zeroFact Tryz.prog 30 = some (some (.pointer none)) := by kernel_rfl
theorem und30 : Tryz.prog.underlying 30 = some (.pointer 112) := by kernel_rfl
theorem ty31 : oneFact Tryz.prog 31 = some (false, 1) := by kernel_rfl
theorem zero31 : zeroFact Tryz.prog 31 = some (some (.int .i64 0)) := by kernel_rfl
theorem und31 : Tryz.prog.underlying 31 = some (.int .i64) := by kernel_rfl
theorem ty33 : oneFact Tryz.prog 33 = some (false, 1) := by kernel_rfl
theorem zero33 : zeroFact Tryz.prog 33 = some (some (.nilFunc)) := by kernel_rfl
theorem ty34 : oneFact Tryz.prog 34 = some (false, 1) := by kernel_rfl
theorem zero34 : zeroFact Tryz.prog 34 = some (some (.pointer none)) := by kernel_rfl
theorem und34 : Tryz.prog.underlying 34 = some (.pointer 44) := by kernel_rfl
theorem ty36 : oneFact Tryz.prog 36 = some (false, 1) := by kernel_rfl
theorem zero36 : zeroFact Tryz.prog 36 = some (some (.nilFunc)) := by kernel_rfl
theorem ty37 : oneFact Tryz.prog 37 = some (false, 1) := by kernel_rfl
theorem zero37 : zeroFact Tryz.prog 37 = some (some (.nilFunc)) := by kernel_rfl
theorem ty38 : oneFact Tryz.prog 38 = some (false, 1) := by kernel_rfl
theorem zero38 : zeroFact Tryz.prog 38 = some (some (.nilFunc)) := by kernel_rfl
theorem ty39 : oneFact Tryz.prog 39 = some (false, 1) := by kernel_rfl
theorem sl39 : slFact Tryz.prog 39 = some (50, 4, 48, some 4) := by kernel_rfl
theorem zero39 : zeroFact Tryz.prog 39 = some (some (.slice none 0 0)) := by kernel_rfl
theorem ty40 : oneFact Tryz.prog 40 = some (false, 1) := by kernel_rfl
theorem zero40 : zeroFact Tryz.prog 40 = some (some (.pointer none)) := by kernel_rfl
theorem und40 : Tryz.prog.underlying 40 = some (.pointer 134) := by kernel_rfl
theorem ty41 : oneFact Tryz.prog 41 = some (false, 1) := by kernel_rfl
theorem sl41 : slFact Tryz.prog 41 = some (3, 1, 8, some 1) := by kernel_rfl
theorem zero41 : zeroFact Tryz.prog 41 = some (some (.slice none 0 0)) := by kernel_rfl
theorem ty42 : oneFact Tryz.prog 42 = some (false, 1) := by kernel_rfl
theorem sl42 : slFact Tryz.prog 42 = some (141, 1, 8, some 1) := by kernel_rfl
theorem zero42 : zeroFact Tryz.prog 42 = some (some (.slice none 0 0)) := by kernel_rfl
theorem ty43 : oneFact Tryz.prog 43 = some (true, 13) := by kernel_rfl
theorem fld43_0 : fieldFact Tryz.prog 43 0 = some (0, some true) := by kernel_rfl
theorem fld43_1 : fieldFact Tryz.prog 43 1 = some (6, some true) := by kernel_rfl
theorem fld43_2 : fieldFact Tryz.prog 43 2 = some (7, some true) := by kernel_rfl
theorem fld43_3 : fieldFact Tryz.prog 43 3 = some (8, some true) := by kernel_rfl
theorem fld43_4 : fieldFact Tryz.prog 43 4 = some (9, some true) := by kernel_rfl
theorem fld43_5 : fieldFact Tryz.prog 43 5 = some (10, some true) := by kernel_rfl
theorem fld43_6 : fieldFact Tryz.prog 43 6 = some (11, some true) := by kernel_rfl
theorem fld43_7 : fieldFact Tryz.prog 43 7 = some (12, some true) := by kernel_rfl
theorem zero43 : zeroFact Tryz.prog 43 = some (some (.agg [.slice none 0 0, .slice none 0 0, .slice none 0 0, .slice none 0 0, .slice none 0 0, .slice none 0 0, .int .i64 0, .int .i64 0, .pointer none, .slice none 0 0, .slice none 0 0, .int .i64 0, .int .i64 0].toArray)) := by kernel_rfl
theorem ty44 : oneFact Tryz.prog 44 = some (true, 13) := by kernel_rfl
theorem fld44_0 : fieldFact Tryz.prog 44 0 = some (0, some true) := by kernel_rfl
theorem fld44_1 : fieldFact Tryz.prog 44 1 = some (6, some true) := by kernel_rfl
theorem fld44_2 : fieldFact Tryz.prog 44 2 = some (7, some true) := by kernel_rfl
theorem fld44_3 : fieldFact Tryz.prog 44 3 = some (8, some true) := by kernel_rfl
theorem fld44_4 : fieldFact Tryz.prog 44 4 = some (9, some true) := by kernel_rfl
theorem fld44_5 : fieldFact Tryz.prog 44 5 = some (10, some true) := by kernel_rfl
theorem fld44_6 : fieldFact Tryz.prog 44 6 = some (11, some true) := by kernel_rfl
theorem fld44_7 : fieldFact Tryz.prog 44 7 = some (12, some true) := by kernel_rfl
theorem zero44 : zeroFact Tryz.prog 44 = some (some (.agg [.slice none 0 0, .slice none 0 0, .slice none 0 0, .slice none 0 0, .slice none 0 0, .slice none 0 0, .int .i64 0, .int .i64 0, .pointer none, .slice none 0 0, .slice none 0 0, .int .i64 0, .int .i64 0].toArray)) := by kernel_rfl
theorem ty45 : oneFact Tryz.prog 45 = some (false, 1) := by kernel_rfl
theorem zero45 : zeroFact Tryz.prog 45 = some (some (.nilFunc)) := by kernel_rfl
theorem ty46 : oneFact Tryz.prog 46 = some (false, 1) := by kernel_rfl
theorem zero46 : zeroFact Tryz.prog 46 = some (some (.nilFunc)) := by kernel_rfl
theorem ty47 : oneFact Tryz.prog 47 = some (false, 1) := by kernel_rfl
theorem zero47 : zeroFact Tryz.prog 47 = some (some (.nilFunc)) := by kernel_rfl
theorem ty48 : oneFact Tryz.prog 48 = some (false, 1) := by kernel_rfl
theorem zero48 : zeroFact Tryz.prog 48 = some (some (.nilFunc)) := by kernel_rfl
theorem ty49 : oneFact Tryz.prog 49 = some (true, 4) := by kernel_rfl
theorem fld49_0 : fieldFact Tryz.prog 49 0 = some (0, some true) := by kernel_rfl
theorem fld49_1 : fieldFact Tryz.prog 49 1 = some (1, some true) := by kernel_rfl
theorem fld49_2 : fieldFact Tryz.prog 49 2 = some (2, some true) := by kernel_rfl
theorem fld49_3 : fieldFact Tryz.prog 49 3 = some (3, some true) := by kernel_rfl
theorem zero49 : zeroFact Tryz.prog 49 = some (some (.agg [.int .i64 0, .int .i64 0, .int .i64 0, .slice none 0 0].toArray)) := by kernel_rfl
theorem ty50 : oneFact Tryz.prog 50 = some (true, 4) := by kernel_rfl
theorem fld50_0 : fieldFact Tryz.prog 50 0 = some (0, some true) := by kernel_rfl
theorem fld50_1 : fieldFact Tryz.prog 50 1 = some (1, some true) := by kernel_rfl
theorem fld50_2 : fieldFact Tryz.prog 50 2 = some (2, some true) := by kernel_rfl
theorem fld50_3 : fieldFact Tryz.prog 50 3 = some (3, some true) := by kernel_rfl
theorem zero50 : zeroFact Tryz.prog 50 = some (some (.agg [.int .i64 0, .int .i64 0, .int .i64 0, .slice none 0 0].toArray)) := by kernel_rfl
theorem ty51 : oneFact Tryz.prog 51 = some (false, 1) := by kernel_rfl
theorem zero51 : zeroFact Tryz.prog 51 = some (some (.nilFunc)) := by kernel_rfl
theorem ty52 : oneFact Tryz.prog 52 = some (true, 6) := by kernel_rfl
theorem fld52_0 : fieldFact Tryz.prog 52 0 = some (0, some true) := by kernel_rfl
theorem fld52_1 : fieldFact Tryz.prog 52 1 = some (1, some true) := by kernel_rfl
theorem fld52_2 : fieldFact Tryz.prog 52 2 = some (2, some true) := by kernel_rfl
theorem zero52 : zeroFact Tryz.prog 52 = some (some (.agg [.int .i64 0, .int .i64 0, .int .i64 0, .int .i64 0, .int .i64 0, .slice none 0 0].toArray)) := by kernel_rfl
theorem ty53 : oneFact Tryz.prog 53 = some (true, 6) := by kernel_rfl
theorem fld53_0 : fieldFact Tryz.prog 53 0 = some (0, some true) := by kernel_rfl
theorem fld53_1 : fieldFact Tryz.prog 53 1 = some (1, some true) := by kernel_rfl
theorem fld53_2 : fieldFact Tryz.prog 53 2 = some (2, some true) := by kernel_rfl
theorem zero53 : zeroFact Tryz.prog 53 = some (some (.agg [.int .i64 0, .int .i64 0, .int .i64 0, .int .i64 0, .int .i64 0, .slice none 0 0].toArray)) := by kernel_rfl
theorem ty54 : oneFact Tryz.prog 54 = some (false, 1) := by kernel_rfl
theorem zero54 : zeroFact Tryz.prog 54 = some (some (.nilFunc)) := by kernel_rfl
theorem ty55 : oneFact Tryz.prog 55 = some (true, 5) := by kernel_rfl
theorem fld55_0 : fieldFact Tryz.prog 55 0 = some (0, some true) := by kernel_rfl
theorem fld55_1 : fieldFact Tryz.prog 55 1 = some (1, some true) := by kernel_rfl
theorem fld55_2 : fieldFact Tryz.prog 55 2 = some (2, some true) := by kernel_rfl
theorem fld55_3 : fieldFact Tryz.prog 55 3 = some (3, some true) := by kernel_rfl
theorem fld55_4 : fieldFact Tryz.prog 55 4 = some (4, some true) := by kernel_rfl
theorem zero55 : zeroFact Tryz.prog 55 = some (some (.agg [.int .i64 0, .int .i64 0, .int .i64 0, .int .i64 0, .int .i64 0].toArray)) := by kernel_rfl
theorem ty56 : oneFact Tryz.prog 56 = some (true, 5) := by kernel_rfl
theorem fld56_0 : fieldFact Tryz.prog 56 0 = some (0, some true) := by kernel_rfl
theorem fld56_1 : fieldFact Tryz.prog 56 1 = some (1, some true) := by kernel_rfl
theorem fld56_2 : fieldFact Tryz.prog 56 2 = some (2, some true) := by kernel_rfl
theorem fld56_3 : fieldFact Tryz.prog 56 3 = some (3, some true) := by kernel_rfl
theorem fld56_4 : fieldFact Tryz.prog 56 4 = some (4, some true) := by kernel_rfl
theorem zero56 : zeroFact Tryz.prog 56 = some (some (.agg [.int .i64 0, .int .i64 0, .int .i64 0, .int .i64 0, .int .i64 0].toArray)) := by kernel_rfl
theorem ty58 : oneFact Tryz.prog 58 = some (false, 1) := by kernel_rfl
theorem zero58 : zeroFact Tryz.prog 58 = some (some (.nilFunc)) := by kernel_rfl
theorem ty59 : oneFact Tryz.prog 59 = some (false, 1) := by kernel_rfl
theorem zero59 : zeroFact Tryz.prog 59 = some (some (.nilFunc)) := by kernel_rfl
theorem ty60 : oneFact Tryz.prog 60 = some (false, 1) := by kernel_rfl
theorem sl60 : slFact Tryz.prog 60 = some (64, 4, 40, some 4) := by kernel_rfl
theorem zero60 : zeroFact Tryz.prog 60 = some (some (.slice none 0 0)) := by kernel_rfl
theorem ty61 : oneFact Tryz.prog 61 = some (true, 9) := by kernel_rfl
theorem fld61_0 : fieldFact Tryz.prog 61 0 = some (0, some true) := by kernel_rfl
theorem fld61_1 : fieldFact Tryz.prog 61 1 = some (1, some true) := by kernel_rfl
theorem fld61_2 : fieldFact Tryz.prog 61 2 = some (2, some true) := by kernel_rfl
theorem fld61_3 : fieldFact Tryz.prog 61 3 = some (3, some true) := by kernel_rfl
theorem fld61_4 : fieldFact Tryz.prog 61 4 = some (4, some true) := by kernel_rfl
theorem fld61_5 : fieldFact Tryz.prog 61 5 = some (5, some true) := by kernel_rfl
theorem fld61_6 : fieldFact Tryz.prog 61 6 = some (6, some true) := by kernel_rfl
theorem fld61_7 : fieldFact Tryz.prog 61 7 = some (7, some true) := by kernel_rfl
theorem fld61_8 : fieldFact Tryz.prog 61 8 = some (8, some true) := by kernel_rfl
theorem zero61 : zeroFact Tryz.prog 61 = some (some (.agg [.int .i64 0, .string ⟨#[]⟩, .string ⟨#[]⟩, .slice none 0 0, .slice none 0 0, .int .i64 0, .int .i64 0, .int .i64 0, .int .i64 0].toArray)) := by kernel_rfl
theorem ty62 : oneFact Tryz.prog 62 = some (true, 9) := by kernel_rfl
theorem fld62_0 : fieldFact Tryz.prog 62 0 = some (0, some true) := by kernel_rfl
theorem fld62_1 : fieldFact Tryz.prog 62 1 = some (1, some true) := by kernel_rfl
theorem fld62_2 : fieldFact Tryz.prog 62 2 = some (2, some true) := by kernel_rfl
theorem fld62_3 : fieldFact Tryz.prog 62 3 = some (3, some true) := by kernel_rfl
theorem fld62_4 : fieldFact Tryz.prog 62 4 = some (4, some true) := by kernel_rfl
theorem fld62_5 : fieldFact Tryz.prog 62 5 = some (5, some true) := by kernel_rfl
theorem fld62_6 : fieldFact Tryz.prog 62 6 = some (6, some true) := by kernel_rfl
theorem fld62_7 : fieldFact Tryz.prog 62 7 = some (7, some true) := by kernel_rfl
theorem fld62_8 : fieldFact Tryz.prog 62 8 = some (8, some true) := by kernel_rfl
theorem zero62 : zeroFact Tryz.prog 62 = some (some (.agg [.int .i64 0, .string ⟨#[]⟩, .string ⟨#[]⟩, .slice none 0 0, .slice none 0 0, .int .i64 0, .int .i64 0, .int .i64 0, .int .i64 0].toArray)) := by kernel_rfl
theorem ty63 : oneFact Tryz.prog 63 = some (true, 4) := by kernel_rfl
theorem fld63_0 : fieldFact Tryz.prog 63 0 = some (0, some true) := by kernel_rfl
theorem fld63_1 : fieldFact Tryz.prog 63 1 = some (1, some true) := by kernel_rfl
theorem fld63_2 : fieldFact Tryz.prog 63 2 = some (2, some true) := by kernel_rfl
theorem fld63_3 : fieldFact Tryz.prog 63 3 = some (3, some true) := by kernel_rfl
theorem zero63 : zeroFact Tryz.prog 63 = some (some (.agg [.int .i64 0, .int .i64 0, .string ⟨#[]⟩, .int .i64 0].toArray)) := by kernel_rfl
theorem ty64 : oneFact Tryz.prog 64 = some (true, 4) := by kernel_rfl
theorem fld64_0 : fieldFact Tryz.prog 64 0 = some (0, some true) := by kernel_rfl
theorem fld64_1 : fieldFact Tryz.prog 64 1 = some (1, some true) := by kernel_rfl
theorem fld64_2 : fieldFact Tryz.prog 64 2 = some (2, some true) := by kernel_rfl
theorem fld64_3 : fieldFact Tryz.prog 64 3 = some (3, some true) := by kernel_rfl
theorem zero64 : zeroFact Tryz.prog 64 = some (some (.agg [.int .i64 0, .int .i64 0, .string ⟨#[]⟩, .int .i64 0].toArray)) := by kernel_rfl
theorem ty65 : oneFact Tryz.prog 65 = some (false, 1) := by kernel_rfl
theorem sl65 : slFact Tryz.prog 65 = some (62, 9, 120, some 9) := by kernel_rfl
theorem zero65 : zeroFact Tryz.prog 65 = some (some (.slice none 0 0)) := by kernel_rfl
theorem ty66 : oneFact Tryz.prog 66 = some (false, 1) := by kernel_rfl
theorem sl66 : slFact Tryz.prog 66 = some (9, 1, 16, some 1) := by kernel_rfl
theorem zero66 : zeroFact Tryz.prog 66 = some (some (.slice none 0 0)) := by kernel_rfl
theorem ty67 : oneFact Tryz.prog 67 = some (true, 4) := by kernel_rfl
theorem fld67_0 : fieldFact Tryz.prog 67 0 = some (0, some true) := by kernel_rfl
theorem fld67_1 : fieldFact Tryz.prog 67 1 = some (1, some true) := by kernel_rfl
theorem fld67_2 : fieldFact Tryz.prog 67 2 = some (2, some true) := by kernel_rfl
theorem fld67_3 : fieldFact Tryz.prog 67 3 = some (3, some true) := by kernel_rfl
theorem zero67 : zeroFact Tryz.prog 67 = some (some (.agg [.string ⟨#[]⟩, .slice none 0 0, .slice none 0 0, .int .i64 0].toArray)) := by kernel_rfl
theorem ty68 : oneFact Tryz.prog 68 = some (true, 4) := by kernel_rfl
theorem fld68_0 : fieldFact Tryz.prog 68 0 = some (0, some true) := by kernel_rfl
theorem fld68_1 : fieldFact Tryz.prog 68 1 = some (1, some true) := by kernel_rfl
theorem fld68_2 : fieldFact Tryz.prog 68 2 = some (2, some true) := by kernel_rfl
theorem fld68_3 : fieldFact Tryz.prog 68 3 = some (3, some true) := by kernel_rfl
theorem zero68 : zeroFact Tryz.prog 68 = some (some (.agg [.string ⟨#[]⟩, .slice none 0 0, .slice none 0 0, .int .i64 0].toArray)) := by kernel_rfl
theorem ty69 : oneFact Tryz.prog 69 = some (true, 5) := by kernel_rfl
theorem fld69_0 : fieldFact Tryz.prog 69 0 = some (0, some true) := by kernel_rfl
theorem fld69_1 : fieldFact Tryz.prog 69 1 = some (1, some true) := by kernel_rfl
theorem fld69_2 : fieldFact Tryz.prog 69 2 = some (2, some true) := by kernel_rfl
theorem fld69_3 : fieldFact Tryz.prog 69 3 = some (3, some true) := by kernel_rfl
theorem fld69_4 : fieldFact Tryz.prog 69 4 = some (4, some true) := by kernel_rfl
theorem zero69 : zeroFact Tryz.prog 69 = some (some (.agg [.int .i64 0, .int .i64 0, .int .i64 0, .bool false, .bool false].toArray)) := by kernel_rfl
theorem ty70 : oneFact Tryz.prog 70 = some (true, 5) := by kernel_rfl
theorem fld70_0 : fieldFact Tryz.prog 70 0 = some (0, some true) := by kernel_rfl
theorem fld70_1 : fieldFact Tryz.prog 70 1 = some (1, some true) := by kernel_rfl
theorem fld70_2 : fieldFact Tryz.prog 70 2 = some (2, some true) := by kernel_rfl
theorem fld70_3 : fieldFact Tryz.prog 70 3 = some (3, some true) := by kernel_rfl
theorem fld70_4 : fieldFact Tryz.prog 70 4 = some (4, some true) := by kernel_rfl
theorem zero70 : zeroFact Tryz.prog 70 = some (some (.agg [.int .i64 0, .int .i64 0, .int .i64 0, .bool false, .bool false].toArray)) := by kernel_rfl
theorem ty71 : oneFact Tryz.prog 71 = some (false, 1) := by kernel_rfl
theorem zero71 : zeroFact Tryz.prog 71 = some (some (.nilFunc)) := by kernel_rfl
theorem ty72 : oneFact Tryz.prog 72 = some (false, 1) := by kernel_rfl
theorem zero72 : zeroFact Tryz.prog 72 = some (some (.nilFunc)) := by kernel_rfl
theorem ty73 : oneFact Tryz.prog 73 = some (false, 1) := by kernel_rfl
theorem zero73 : zeroFact Tryz.prog 73 = some (some (.nilFunc)) := by kernel_rfl
theorem ty74 : oneFact Tryz.prog 74 = some (false, 1) := by kernel_rfl
theorem zero74 : zeroFact Tryz.prog 74 = some (some (.nilFunc)) := by kernel_rfl
theorem ty75 : oneFact Tryz.prog 75 = some (true, 3) := by kernel_rfl
theorem zero75 : zeroFact Tryz.prog 75 = some (some (.agg [.int .i64 0, .int .i64 0, .int .i64 0].toArray)) := by kernel_rfl
theorem ty76 : oneFact Tryz.prog 76 = some (false, 1) := by kernel_rfl
theorem zero76 : zeroFact Tryz.prog 76 = some (some (.nilFunc)) := by kernel_rfl
theorem ty77 : oneFact Tryz.prog 77 = some (true, 4) := by kernel_rfl
theorem fld77_0 : fieldFact Tryz.prog 77 0 = some (0, some true) := by kernel_rfl
theorem fld77_1 : fieldFact Tryz.prog 77 1 = some (1, some true) := by kernel_rfl
theorem fld77_2 : fieldFact Tryz.prog 77 2 = some (2, some true) := by kernel_rfl
theorem fld77_3 : fieldFact Tryz.prog 77 3 = some (3, some true) := by kernel_rfl
theorem zero77 : zeroFact Tryz.prog 77 = some (some (.agg [.int .i64 0, .int .i64 0, .int .i64 0, .slice none 0 0].toArray)) := by kernel_rfl
theorem ty78 : oneFact Tryz.prog 78 = some (true, 4) := by kernel_rfl
theorem fld78_0 : fieldFact Tryz.prog 78 0 = some (0, some true) := by kernel_rfl
theorem fld78_1 : fieldFact Tryz.prog 78 1 = some (1, some true) := by kernel_rfl
theorem fld78_2 : fieldFact Tryz.prog 78 2 = some (2, some true) := by kernel_rfl
theorem fld78_3 : fieldFact Tryz.prog 78 3 = some (3, some true) := by kernel_rfl
theorem zero78 : zeroFact Tryz.prog 78 = some (some (.agg [.int .i64 0, .int .i64 0, .int .i64 0, .slice none 0 0].toArray)) := by kernel_rfl
theorem ty80 : oneFact Tryz.prog 80 = some (false, 1) := by kernel_rfl
theorem zero80 : zeroFact Tryz.prog 80 = some (some (.nilFunc)) := by kernel_rfl
theorem ty81 : oneFact Tryz.prog 81 = some (false, 1) := by kernel_rfl
theorem zero81 : zeroFact Tryz.prog 81 = some (some (.nilFunc)) := by kernel_rfl
theorem ty82 : oneFact Tryz.prog 82 = some (false, 1) := by kernel_rfl
theorem zero82 : zeroFact Tryz.prog 82 = some (some (.nilFunc)) := by kernel_rfl
theorem ty83 : oneFact Tryz.prog 83 = some (false, 1) := by kernel_rfl
theorem zero83 : zeroFact Tryz.prog 83 = some (some (.nilFunc)) := by kernel_rfl
theorem ty84 : oneFact Tryz.prog 84 = some (true, 2) := by kernel_rfl
theorem zero84 : zeroFact Tryz.prog 84 = some (some (.agg [.int .i64 0, .int .i64 0].toArray)) := by kernel_rfl
theorem ty85 : oneFact Tryz.prog 85 = some (false, 1) := by kernel_rfl
theorem zero85 : zeroFact Tryz.prog 85 = some (some (.nilFunc)) := by kernel_rfl
theorem ty86 : oneFact Tryz.prog 86 = some (false, 1) := by kernel_rfl
theorem zero86 : zeroFact Tryz.prog 86 = some (some (.nilFunc)) := by kernel_rfl
theorem ty87 : oneFact Tryz.prog 87 = some (false, 1) := by kernel_rfl
theorem sl87 : slFact Tryz.prog 87 = some (56, 5, 40, some 5) := by kernel_rfl
theorem zero87 : zeroFact Tryz.prog 87 = some (some (.slice none 0 0)) := by kernel_rfl
theorem ty89 : oneFact Tryz.prog 89 = some (false, 1) := by kernel_rfl
theorem zero89 : zeroFact Tryz.prog 89 = some (some (.nilFunc)) := by kernel_rfl
theorem ty90 : oneFact Tryz.prog 90 = some (false, 1) := by kernel_rfl
theorem zero90 : zeroFact Tryz.prog 90 = some (some (.nilFunc)) := by kernel_rfl
theorem ty91 : oneFact Tryz.prog 91 = some (false, 1) := by kernel_rfl
theorem zero91 : zeroFact Tryz.prog 91 = some (some (.nilFunc)) := by kernel_rfl
theorem ty92 : oneFact Tryz.prog 92 = some (false, 1) := by kernel_rfl
theorem zero92 : zeroFact Tryz.prog 92 = some (some (.nilFunc)) := by kernel_rfl
theorem ty93 : oneFact Tryz.prog 93 = some (false, 1) := by kernel_rfl
theorem zero93 : zeroFact Tryz.prog 93 = some (some (.nilFunc)) := by kernel_rfl
theorem ty94 : oneFact Tryz.prog 94 = some (false, 1) := by kernel_rfl
theorem zero94 : zeroFact Tryz.prog 94 = some (some (.nilFunc)) := by kernel_rfl
theorem ty95 : oneFact Tryz.prog 95 = some (false, 1) := by kernel_rfl
theorem zero95 : zeroFact Tryz.prog 95 = some (some (.nilFunc)) := by kernel_rfl
theorem ty96 : oneFact Tryz.prog 96 = some (false, 1) := by kernel_rfl
theorem zero96 : zeroFact Tryz.prog 96 = some (some (.nilFunc)) := by kernel_rfl
theorem ty97 : oneFact Tryz.prog 97 = some (false, 1) := by kernel_rfl
theorem zero97 : zeroFact Tryz.prog 97 = some (some (.nilFunc)) := by kernel_rfl
theorem ty98 : oneFact Tryz.prog 98 = some (false, 1) := by kernel_rfl
theorem zero98 : zeroFact Tryz.prog 98 = some (some (.nilFunc)) := by kernel_rfl
theorem ty99 : oneFact Tryz.prog 99 = some (false, 1) := by kernel_rfl
theorem zero99 : zeroFact Tryz.prog 99 = some (some (.nilFunc)) := by kernel_rfl
theorem ty100 : oneFact Tryz.prog 100 = some (false, 1) := by kernel_rfl
theorem zero100 : zeroFact Tryz.prog 100 = some (some (.nilFunc)) := by kernel_rfl
theorem ty101 : oneFact Tryz.prog 101 = some (true, 2) := by kernel_rfl
theorem fld101_0 : fieldFact Tryz.prog 101 0 = some (0, some true) := by kernel_rfl
theorem fld101_1 : fieldFact Tryz.prog 101 1 = some (1, some true) := by kernel_rfl
theorem zero101 : zeroFact Tryz.prog 101 = some (some (.agg [.slice none 0 0, .int .i64 0].toArray)) := by kernel_rfl
theorem ty102 : oneFact Tryz.prog 102 = some (true, 2) := by kernel_rfl
theorem fld102_0 : fieldFact Tryz.prog 102 0 = some (0, some true) := by kernel_rfl
theorem fld102_1 : fieldFact Tryz.prog 102 1 = some (1, some true) := by kernel_rfl
theorem zero102 : zeroFact Tryz.prog 102 = some (some (.agg [.slice none 0 0, .int .i64 0].toArray)) := by kernel_rfl
theorem ty104 : oneFact Tryz.prog 104 = some (false, 1) := by kernel_rfl
theorem zero104 : zeroFact Tryz.prog 104 = some (some (.nilFunc)) := by kernel_rfl
theorem ty105 : oneFact Tryz.prog 105 = some (false, 1) := by kernel_rfl
theorem zero105 : zeroFact Tryz.prog 105 = some (some (.pointer none)) := by kernel_rfl
theorem und105 : Tryz.prog.underlying 105 = some (.pointer 195) := by kernel_rfl
theorem ty107 : oneFact Tryz.prog 107 = some (false, 1) := by kernel_rfl
theorem zero107 : zeroFact Tryz.prog 107 = some (some (.nilFunc)) := by kernel_rfl
theorem ty108 : oneFact Tryz.prog 108 = some (false, 1) := by kernel_rfl
theorem zero108 : zeroFact Tryz.prog 108 = some (some (.nilFunc)) := by kernel_rfl
theorem ty109 : oneFact Tryz.prog 109 = some (false, 1) := by kernel_rfl
theorem zero109 : zeroFact Tryz.prog 109 = some (some (.pointer none)) := by kernel_rfl
theorem und109 : Tryz.prog.underlying 109 = some (.pointer 201) := by kernel_rfl
theorem ty110 : oneFact Tryz.prog 110 = some (false, 1) := by kernel_rfl
theorem sl110 : slFact Tryz.prog 110 = some (147, 1, 8, some 1) := by kernel_rfl
theorem zero110 : zeroFact Tryz.prog 110 = some (some (.slice none 0 0)) := by kernel_rfl
theorem ty111 : oneFact Tryz.prog 111 = some (true, 15) := by kernel_rfl
theorem fld111_0 : fieldFact Tryz.prog 111 0 = some (0, some true) := by kernel_rfl
theorem fld111_1 : fieldFact Tryz.prog 111 1 = some (6, some true) := by kernel_rfl
theorem fld111_2 : fieldFact Tryz.prog 111 2 = some (7, some true) := by kernel_rfl
theorem fld111_3 : fieldFact Tryz.prog 111 3 = some (8, some true) := by kernel_rfl
theorem fld111_4 : fieldFact Tryz.prog 111 4 = some (9, some true) := by kernel_rfl
theorem fld111_5 : fieldFact Tryz.prog 111 5 = some (10, some true) := by kernel_rfl
theorem fld111_6 : fieldFact Tryz.prog 111 6 = some (11, some true) := by kernel_rfl
theorem fld111_7 : fieldFact Tryz.prog 111 7 = some (12, some true) := by kernel_rfl
theorem fld111_8 : fieldFact Tryz.prog 111 8 = some (13, some true) := by kernel_rfl
theorem fld111_9 : fieldFact Tryz.prog 111 9 = some (14, some true) := by kernel_rfl
theorem zero111 : zeroFact Tryz.prog 111 = some (some (.agg [.slice none 0 0, .slice none 0 0, .slice none 0 0, .slice none 0 0, .slice none 0 0, .slice none 0 0, .slice none 0 0, .slice none 0 0, .int .i64 0, .pointer none, .slice none 0 0, .slice none 0 0, .int .i64 0, .int .i64 0, .int .i64 0].toArray)) := by kernel_rfl
theorem ty112 : oneFact Tryz.prog 112 = some (true, 15) := by kernel_rfl
theorem fld112_0 : fieldFact Tryz.prog 112 0 = some (0, some true) := by kernel_rfl
theorem fld112_1 : fieldFact Tryz.prog 112 1 = some (6, some true) := by kernel_rfl
theorem fld112_2 : fieldFact Tryz.prog 112 2 = some (7, some true) := by kernel_rfl
theorem fld112_3 : fieldFact Tryz.prog 112 3 = some (8, some true) := by kernel_rfl
theorem fld112_4 : fieldFact Tryz.prog 112 4 = some (9, some true) := by kernel_rfl
theorem fld112_5 : fieldFact Tryz.prog 112 5 = some (10, some true) := by kernel_rfl
theorem fld112_6 : fieldFact Tryz.prog 112 6 = some (11, some true) := by kernel_rfl
theorem fld112_7 : fieldFact Tryz.prog 112 7 = some (12, some true) := by kernel_rfl
theorem fld112_8 : fieldFact Tryz.prog 112 8 = some (13, some true) := by kernel_rfl
theorem fld112_9 : fieldFact Tryz.prog 112 9 = some (14, some true) := by kernel_rfl
theorem zero112 : zeroFact Tryz.prog 112 = some (some (.agg [.slice none 0 0, .slice none 0 0, .slice none 0 0, .slice none 0 0, .slice none 0 0, .slice none 0 0, .slice none 0 0, .slice none 0 0, .int .i64 0, .pointer none, .slice none 0 0, .slice none 0 0, .int .i64 0, .int .i64 0, .int .i64 0].toArray)) := by kernel_rfl
theorem ty113 : oneFact Tryz.prog 113 = some (false, 1) := by kernel_rfl
theorem zero113 : zeroFact Tryz.prog 113 = some (some (.nilFunc)) := by kernel_rfl
theorem ty115 : oneFact Tryz.prog 115 = some (false, 1) := by kernel_rfl
theorem zero115 : zeroFact Tryz.prog 115 = some (some (.nilFunc)) := by kernel_rfl
theorem ty116 : oneFact Tryz.prog 116 = some (false, 1) := by kernel_rfl
theorem zero116 : zeroFact Tryz.prog 116 = some (some (.nilFunc)) := by kernel_rfl
theorem ty117 : oneFact Tryz.prog 117 = some (false, 1) := by kernel_rfl
theorem zero117 : zeroFact Tryz.prog 117 = some (some (.nilFunc)) := by kernel_rfl
theorem ty118 : oneFact Tryz.prog 118 = some (false, 1) := by kernel_rfl
theorem zero118 : zeroFact Tryz.prog 118 = some (some (.nilFunc)) := by kernel_rfl
theorem ty119 : oneFact Tryz.prog 119 = some (false, 1) := by kernel_rfl
theorem zero119 : zeroFact Tryz.prog 119 = some (some (.pointer none)) := by kernel_rfl
theorem und119 : Tryz.prog.underlying 119 = some (.pointer 208) := by kernel_rfl
theorem ty121 : oneFact Tryz.prog 121 = some (false, 1) := by kernel_rfl
theorem zero121 : zeroFact Tryz.prog 121 = some (some (.nilFunc)) := by kernel_rfl
theorem ty122 : oneFact Tryz.prog 122 = some (false, 1) := by kernel_rfl
theorem zero122 : zeroFact Tryz.prog 122 = some (some (.nilFunc)) := by kernel_rfl
theorem ty124 : oneFact Tryz.prog 124 = some (false, 1) := by kernel_rfl
theorem zero124 : zeroFact Tryz.prog 124 = some (some (.nilFunc)) := by kernel_rfl
theorem ty126 : oneFact Tryz.prog 126 = some (false, 1) := by kernel_rfl
theorem zero126 : zeroFact Tryz.prog 126 = some (some (.nilFunc)) := by kernel_rfl
theorem ty128 : oneFact Tryz.prog 128 = some (false, 1) := by kernel_rfl
theorem zero128 : zeroFact Tryz.prog 128 = some (some (.nilFunc)) := by kernel_rfl
theorem ty129 : oneFact Tryz.prog 129 = some (false, 1) := by kernel_rfl
theorem zero129 : zeroFact Tryz.prog 129 = some (some (.nilFunc)) := by kernel_rfl
theorem ty130 : oneFact Tryz.prog 130 = some (false, 1) := by kernel_rfl
theorem sl130 : slFact Tryz.prog 130 = some (4, 1, 1, some 1) := by kernel_rfl
theorem zero130 : zeroFact Tryz.prog 130 = some (some (.slice none 0 0)) := by kernel_rfl
theorem ty131 : oneFact Tryz.prog 131 = some (false, 1) := by kernel_rfl
theorem zero131 : zeroFact Tryz.prog 131 = some (some (.nilFunc)) := by kernel_rfl
theorem ty132 : oneFact Tryz.prog 132 = some (false, 1) := by kernel_rfl
theorem sl132 : slFact Tryz.prog 132 = some (137, 3, 24, some 3) := by kernel_rfl
theorem zero132 : zeroFact Tryz.prog 132 = some (some (.slice none 0 0)) := by kernel_rfl
theorem ty133 : oneFact Tryz.prog 133 = some (true, 5) := by kernel_rfl
theorem fld133_0 : fieldFact Tryz.prog 133 0 = some (0, some true) := by kernel_rfl
theorem fld133_1 : fieldFact Tryz.prog 133 1 = some (1, some true) := by kernel_rfl
theorem fld133_2 : fieldFact Tryz.prog 133 2 = some (2, some true) := by kernel_rfl
theorem fld133_3 : fieldFact Tryz.prog 133 3 = some (3, some true) := by kernel_rfl
theorem fld133_4 : fieldFact Tryz.prog 133 4 = some (4, some true) := by kernel_rfl
theorem zero133 : zeroFact Tryz.prog 133 = some (some (.agg [.slice none 0 0, .slice none 0 0, .slice none 0 0, .slice none 0 0, .slice none 0 0].toArray)) := by kernel_rfl
theorem ty134 : oneFact Tryz.prog 134 = some (true, 5) := by kernel_rfl
theorem fld134_0 : fieldFact Tryz.prog 134 0 = some (0, some true) := by kernel_rfl
theorem fld134_1 : fieldFact Tryz.prog 134 1 = some (1, some true) := by kernel_rfl
theorem fld134_2 : fieldFact Tryz.prog 134 2 = some (2, some true) := by kernel_rfl
theorem fld134_3 : fieldFact Tryz.prog 134 3 = some (3, some true) := by kernel_rfl
theorem fld134_4 : fieldFact Tryz.prog 134 4 = some (4, some true) := by kernel_rfl
theorem zero134 : zeroFact Tryz.prog 134 = some (some (.agg [.slice none 0 0, .slice none 0 0, .slice none 0 0, .slice none 0 0, .slice none 0 0].toArray)) := by kernel_rfl
theorem ty135 : oneFact Tryz.prog 135 = some (false, 1) := by kernel_rfl
theorem zero135 : zeroFact Tryz.prog 135 = some (some (.nilFunc)) := by kernel_rfl
theorem ty136 : oneFact Tryz.prog 136 = some (true, 3) := by kernel_rfl
theorem fld136_0 : fieldFact Tryz.prog 136 0 = some (0, some true) := by kernel_rfl
theorem fld136_1 : fieldFact Tryz.prog 136 1 = some (1, some true) := by kernel_rfl
theorem fld136_2 : fieldFact Tryz.prog 136 2 = some (2, some true) := by kernel_rfl
theorem zero136 : zeroFact Tryz.prog 136 = some (some (.agg [.int .i64 0, .int .i64 0, .int .i64 0].toArray)) := by kernel_rfl
theorem ty137 : oneFact Tryz.prog 137 = some (true, 3) := by kernel_rfl
theorem fld137_0 : fieldFact Tryz.prog 137 0 = some (0, some true) := by kernel_rfl
theorem fld137_1 : fieldFact Tryz.prog 137 1 = some (1, some true) := by kernel_rfl
theorem fld137_2 : fieldFact Tryz.prog 137 2 = some (2, some true) := by kernel_rfl
theorem zero137 : zeroFact Tryz.prog 137 = some (some (.agg [.int .i64 0, .int .i64 0, .int .i64 0].toArray)) := by kernel_rfl
theorem ty138 : oneFact Tryz.prog 138 = some (false, 1) := by kernel_rfl
theorem sl138 : slFact Tryz.prog 138 = some (41, 1, 24, some 1) := by kernel_rfl
theorem zero138 : zeroFact Tryz.prog 138 = some (some (.slice none 0 0)) := by kernel_rfl
theorem ty139 : oneFact Tryz.prog 139 = some (false, 1) := by kernel_rfl
theorem zero139 : zeroFact Tryz.prog 139 = some (some (.nilFunc)) := by kernel_rfl
theorem ty140 : oneFact Tryz.prog 140 = some (false, 1) := by kernel_rfl
theorem zero140 : zeroFact Tryz.prog 140 = some (some (.nilFunc)) := by kernel_rfl
theorem ty141 : oneFact Tryz.prog 141 = some (false, 1) := by kernel_rfl
theorem zero141 : zeroFact Tryz.prog 141 = some (some (.pointer none)) := by kernel_rfl
theorem und141 : Tryz.prog.underlying 141 = some (.pointer 144) := by kernel_rfl
theorem ty142 : oneFact Tryz.prog 142 = some (false, 1) := by kernel_rfl
theorem sl142 : slFact Tryz.prog 142 = some (228, 12, 176, some 12) := by kernel_rfl
theorem zero142 : zeroFact Tryz.prog 142 = some (some (.slice none 0 0)) := by kernel_rfl
theorem ty143 : oneFact Tryz.prog 143 = some (true, 5) := by kernel_rfl
theorem fld143_0 : fieldFact Tryz.prog 143 0 = some (0, some true) := by kernel_rfl
theorem fld143_1 : fieldFact Tryz.prog 143 1 = some (1, some true) := by kernel_rfl
theorem fld143_2 : fieldFact Tryz.prog 143 2 = some (2, some true) := by kernel_rfl
theorem fld143_3 : fieldFact Tryz.prog 143 3 = some (3, some true) := by kernel_rfl
theorem fld143_4 : fieldFact Tryz.prog 143 4 = some (4, some true) := by kernel_rfl
theorem zero143 : zeroFact Tryz.prog 143 = some (some (.agg [.slice none 0 0, .slice none 0 0, .slice none 0 0, .pointer none, .int .i64 0].toArray)) := by kernel_rfl
theorem ty144 : oneFact Tryz.prog 144 = some (true, 5) := by kernel_rfl
theorem fld144_0 : fieldFact Tryz.prog 144 0 = some (0, some true) := by kernel_rfl
theorem fld144_1 : fieldFact Tryz.prog 144 1 = some (1, some true) := by kernel_rfl
theorem fld144_2 : fieldFact Tryz.prog 144 2 = some (2, some true) := by kernel_rfl
theorem fld144_3 : fieldFact Tryz.prog 144 3 = some (3, some true) := by kernel_rfl
theorem fld144_4 : fieldFact Tryz.prog 144 4 = some (4, some true) := by kernel_rfl
theorem zero144 : zeroFact Tryz.prog 144 = some (some (.agg [.slice none 0 0, .slice none 0 0, .slice none 0 0, .pointer none, .int .i64 0].toArray)) := by kernel_rfl
theorem ty145 : oneFact Tryz.prog 145 = some (false, 1) := by kernel_rfl
theorem zero145 : zeroFact Tryz.prog 145 = some (some (.nilFunc)) := by kernel_rfl
theorem ty146 : oneFact Tryz.prog 146 = some (false, 1) := by kernel_rfl
theorem zero146 : zeroFact Tryz.prog 146 = some (some (.nilFunc)) := by kernel_rfl
theorem ty147 : oneFact Tryz.prog 147 = some (false, 1) := by kernel_rfl
theorem zero147 : zeroFact Tryz.prog 147 = some (some (.pointer none)) := by kernel_rfl
theorem und147 : Tryz.prog.underlying 147 = some (.pointer 150) := by kernel_rfl
theorem ty148 : oneFact Tryz.prog 148 = some (false, 1) := by kernel_rfl
theorem sl148 : slFact Tryz.prog 148 = some (154, 2, 32, some 2) := by kernel_rfl
theorem zero148 : zeroFact Tryz.prog 148 = some (some (.slice none 0 0)) := by kernel_rfl
theorem ty149 : oneFact Tryz.prog 149 = some (true, 5) := by kernel_rfl
theorem fld149_0 : fieldFact Tryz.prog 149 0 = some (0, some true) := by kernel_rfl
theorem fld149_1 : fieldFact Tryz.prog 149 1 = some (1, some true) := by kernel_rfl
theorem fld149_2 : fieldFact Tryz.prog 149 2 = some (2, some true) := by kernel_rfl
theorem fld149_3 : fieldFact Tryz.prog 149 3 = some (3, some true) := by kernel_rfl
theorem fld149_4 : fieldFact Tryz.prog 149 4 = some (4, some true) := by kernel_rfl
theorem zero149 : zeroFact Tryz.prog 149 = some (some (.agg [.pointer none, .slice none 0 0, .slice none 0 0, .slice none 0 0, .int .i64 0].toArray)) := by kernel_rfl
theorem ty150 : oneFact Tryz.prog 150 = some (true, 5) := by kernel_rfl
theorem fld150_0 : fieldFact Tryz.prog 150 0 = some (0, some true) := by kernel_rfl
theorem fld150_1 : fieldFact Tryz.prog 150 1 = some (1, some true) := by kernel_rfl
theorem fld150_2 : fieldFact Tryz.prog 150 2 = some (2, some true) := by kernel_rfl
theorem fld150_3 : fieldFact Tryz.prog 150 3 = some (3, some true) := by kernel_rfl
theorem fld150_4 : fieldFact Tryz.prog 150 4 = some (4, some true) := by kernel_rfl
theorem zero150 : zeroFact Tryz.prog 150 = some (some (.agg [.pointer none, .slice none 0 0, .slice none 0 0, .slice none 0 0, .int .i64 0].toArray)) := by kernel_rfl
theorem ty151 : oneFact Tryz.prog 151 = some (false, 1) := by kernel_rfl
theorem zero151 : zeroFact Tryz.prog 151 = some (some (.nilFunc)) := by kernel_rfl
theorem ty152 : oneFact Tryz.prog 152 = some (false, 1) := by kernel_rfl
theorem zero152 : zeroFact Tryz.prog 152 = some (some (.nilFunc)) := by kernel_rfl
theorem ty153 : oneFact Tryz.prog 153 = some (true, 2) := by kernel_rfl
theorem fld153_0 : fieldFact Tryz.prog 153 0 = some (0, some true) := by kernel_rfl
theorem fld153_1 : fieldFact Tryz.prog 153 1 = some (1, some true) := by kernel_rfl
theorem zero153 : zeroFact Tryz.prog 153 = some (some (.agg [.slice none 0 0, .bool false].toArray)) := by kernel_rfl
theorem ty154 : oneFact Tryz.prog 154 = some (true, 2) := by kernel_rfl
theorem fld154_0 : fieldFact Tryz.prog 154 0 = some (0, some true) := by kernel_rfl
theorem fld154_1 : fieldFact Tryz.prog 154 1 = some (1, some true) := by kernel_rfl
theorem zero154 : zeroFact Tryz.prog 154 = some (some (.agg [.slice none 0 0, .bool false].toArray)) := by kernel_rfl
theorem ty155 : oneFact Tryz.prog 155 = some (false, 1) := by kernel_rfl
theorem zero155 : zeroFact Tryz.prog 155 = some (some (.nilFunc)) := by kernel_rfl
theorem ty156 : oneFact Tryz.prog 156 = some (false, 1) := by kernel_rfl
theorem zero156 : zeroFact Tryz.prog 156 = some (some (.nilFunc)) := by kernel_rfl
theorem ty157 : oneFact Tryz.prog 157 = some (false, 1) := by kernel_rfl
theorem zero157 : zeroFact Tryz.prog 157 = some (some (.nilFunc)) := by kernel_rfl
theorem ty158 : oneFact Tryz.prog 158 = some (false, 1) := by kernel_rfl
theorem zero158 : zeroFact Tryz.prog 158 = some (some (.nilFunc)) := by kernel_rfl
theorem ty159 : oneFact Tryz.prog 159 = some (false, 1) := by kernel_rfl
theorem zero159 : zeroFact Tryz.prog 159 = some (some (.nilFunc)) := by kernel_rfl
theorem ty161 : oneFact Tryz.prog 161 = some (false, 1) := by kernel_rfl
theorem zero161 : zeroFact Tryz.prog 161 = some (some (.nilFunc)) := by kernel_rfl
theorem ty162 : oneFact Tryz.prog 162 = some (false, 1) := by kernel_rfl
theorem zero162 : zeroFact Tryz.prog 162 = some (some (.nilFunc)) := by kernel_rfl
theorem ty163 : oneFact Tryz.prog 163 = some (false, 1) := by kernel_rfl
theorem zero163 : zeroFact Tryz.prog 163 = some (some (.nilFunc)) := by kernel_rfl
theorem ty164 : oneFact Tryz.prog 164 = some (false, 1) := by kernel_rfl
theorem zero164 : zeroFact Tryz.prog 164 = some (some (.nilFunc)) := by kernel_rfl
theorem ty165 : oneFact Tryz.prog 165 = some (false, 1) := by kernel_rfl
theorem zero165 : zeroFact Tryz.prog 165 = some (some (.nilFunc)) := by kernel_rfl
theorem ty166 : oneFact Tryz.prog 166 = some (false, 1) := by kernel_rfl
theorem zero166 : zeroFact Tryz.prog 166 = some (some (.nilFunc)) := by kernel_rfl
theorem ty168 : oneFact Tryz.prog 168 = some (false, 1) := by kernel_rfl
theorem zero168 : zeroFact Tryz.prog 168 = some (some (.nilFunc)) := by kernel_rfl
theorem ty169 : oneFact Tryz.prog 169 = some (false, 1) := by kernel_rfl
theorem zero169 : zeroFact Tryz.prog 169 = some (some (.nilFunc)) := by kernel_rfl
theorem ty170 : oneFact Tryz.prog 170 = some (false, 1) := by kernel_rfl
theorem zero170 : zeroFact Tryz.prog 170 = some (some (.nilFunc)) := by kernel_rfl
theorem ty171 : oneFact Tryz.prog 171 = some (true, 2) := by kernel_rfl
theorem fld171_0 : fieldFact Tryz.prog 171 0 = some (0, some true) := by kernel_rfl
theorem fld171_1 : fieldFact Tryz.prog 171 1 = some (1, some true) := by kernel_rfl
theorem zero171 : zeroFact Tryz.prog 171 = some (some (.agg [.int .i64 0, .int .i64 0].toArray)) := by kernel_rfl
theorem ty172 : oneFact Tryz.prog 172 = some (true, 2) := by kernel_rfl
theorem fld172_0 : fieldFact Tryz.prog 172 0 = some (0, some true) := by kernel_rfl
theorem fld172_1 : fieldFact Tryz.prog 172 1 = some (1, some true) := by kernel_rfl
theorem zero172 : zeroFact Tryz.prog 172 = some (some (.agg [.int .i64 0, .int .i64 0].toArray)) := by kernel_rfl
theorem ty173 : oneFact Tryz.prog 173 = some (false, 1) := by kernel_rfl
theorem zero173 : zeroFact Tryz.prog 173 = some (some (.nilFunc)) := by kernel_rfl
theorem ty174 : oneFact Tryz.prog 174 = some (false, 1) := by kernel_rfl
theorem zero174 : zeroFact Tryz.prog 174 = some (some (.nilFunc)) := by kernel_rfl
theorem ty175 : oneFact Tryz.prog 175 = some (true, 5) := by kernel_rfl
theorem zero175 : zeroFact Tryz.prog 175 = some (some (.agg [.string ⟨#[]⟩, .string ⟨#[]⟩, .string ⟨#[]⟩, .string ⟨#[]⟩, .string ⟨#[]⟩].toArray)) := by kernel_rfl
theorem ty176 : oneFact Tryz.prog 176 = some (true, 3) := by kernel_rfl
theorem fld176_0 : fieldFact Tryz.prog 176 0 = some (0, some true) := by kernel_rfl
theorem fld176_1 : fieldFact Tryz.prog 176 1 = some (1, some true) := by kernel_rfl
theorem fld176_2 : fieldFact Tryz.prog 176 2 = some (2, some true) := by kernel_rfl
theorem zero176 : zeroFact Tryz.prog 176 = some (some (.agg [.string ⟨#[]⟩, .int .i64 0, .int .i64 0].toArray)) := by kernel_rfl
theorem ty177 : oneFact Tryz.prog 177 = some (true, 3) := by kernel_rfl
theorem fld177_0 : fieldFact Tryz.prog 177 0 = some (0, some true) := by kernel_rfl
theorem fld177_1 : fieldFact Tryz.prog 177 1 = some (1, some true) := by kernel_rfl
theorem fld177_2 : fieldFact Tryz.prog 177 2 = some (2, some true) := by kernel_rfl
theorem zero177 : zeroFact Tryz.prog 177 = some (some (.agg [.string ⟨#[]⟩, .int .i64 0, .int .i64 0].toArray)) := by kernel_rfl
theorem ty178 : oneFact Tryz.prog 178 = some (false, 1) := by kernel_rfl
theorem zero178 : zeroFact Tryz.prog 178 = some (some (.nilFunc)) := by kernel_rfl
theorem ty179 : oneFact Tryz.prog 179 = some (false, 1) := by kernel_rfl
theorem zero179 : zeroFact Tryz.prog 179 = some (some (.map none)) := by kernel_rfl
theorem ty181 : oneFact Tryz.prog 181 = some (false, 1) := by kernel_rfl
theorem zero181 : zeroFact Tryz.prog 181 = some (some (.nilFunc)) := by kernel_rfl
theorem ty182 : oneFact Tryz.prog 182 = some (false, 1) := by kernel_rfl
theorem zero182 : zeroFact Tryz.prog 182 = some (some (.nilFunc)) := by kernel_rfl
theorem ty183 : oneFact Tryz.prog 183 = some (false, 1) := by kernel_rfl
theorem zero183 : zeroFact Tryz.prog 183 = some (some (.nilFunc)) := by kernel_rfl
theorem ty184 : oneFact Tryz.prog 184 = some (false, 1) := by kernel_rfl
theorem zero184 : zeroFact Tryz.prog 184 = some (some (.nilFunc)) := by kernel_rfl
theorem ty186 : oneFact Tryz.prog 186 = some (false, 1) := by kernel_rfl
theorem zero186 : zeroFact Tryz.prog 186 = some (some (.nilFunc)) := by kernel_rfl
theorem ty187 : oneFact Tryz.prog 187 = some (false, 1) := by kernel_rfl
theorem zero187 : zeroFact Tryz.prog 187 = some (some (.nilFunc)) := by kernel_rfl
theorem ty188 : oneFact Tryz.prog 188 = some (false, 1) := by kernel_rfl
theorem zero188 : zeroFact Tryz.prog 188 = some (some (.nilFunc)) := by kernel_rfl
theorem ty189 : oneFact Tryz.prog 189 = some (false, 1) := by kernel_rfl
theorem zero189 : zeroFact Tryz.prog 189 = some (some (.nilFunc)) := by kernel_rfl
theorem ty190 : oneFact Tryz.prog 190 = some (true, 3) := by kernel_rfl
theorem fld190_0 : fieldFact Tryz.prog 190 0 = some (0, some true) := by kernel_rfl
theorem fld190_1 : fieldFact Tryz.prog 190 1 = some (1, some true) := by kernel_rfl
theorem fld190_2 : fieldFact Tryz.prog 190 2 = some (2, some true) := by kernel_rfl
theorem zero190 : zeroFact Tryz.prog 190 = some (some (.agg [.string ⟨#[]⟩, .int .i64 0, .slice none 0 0].toArray)) := by kernel_rfl
theorem ty191 : oneFact Tryz.prog 191 = some (true, 3) := by kernel_rfl
theorem fld191_0 : fieldFact Tryz.prog 191 0 = some (0, some true) := by kernel_rfl
theorem fld191_1 : fieldFact Tryz.prog 191 1 = some (1, some true) := by kernel_rfl
theorem fld191_2 : fieldFact Tryz.prog 191 2 = some (2, some true) := by kernel_rfl
theorem zero191 : zeroFact Tryz.prog 191 = some (some (.agg [.string ⟨#[]⟩, .int .i64 0, .slice none 0 0].toArray)) := by kernel_rfl
theorem ty192 : oneFact Tryz.prog 192 = some (false, 1) := by kernel_rfl
theorem zero192 : zeroFact Tryz.prog 192 = some (some (.nilFunc)) := by kernel_rfl
theorem ty193 : oneFact Tryz.prog 193 = some (false, 1) := by kernel_rfl
theorem sl193 : slFact Tryz.prog 193 = some (241, 4, 32, some 4) := by kernel_rfl
theorem zero193 : zeroFact Tryz.prog 193 = some (some (.slice none 0 0)) := by kernel_rfl
theorem ty194 : oneFact Tryz.prog 194 = some (true, 2) := by kernel_rfl
theorem fld194_0 : fieldFact Tryz.prog 194 0 = some (0, some true) := by kernel_rfl
theorem fld194_1 : fieldFact Tryz.prog 194 1 = some (1, some true) := by kernel_rfl
theorem zero194 : zeroFact Tryz.prog 194 = some (some (.agg [.int .i64 0, .slice none 0 0].toArray)) := by kernel_rfl
theorem ty195 : oneFact Tryz.prog 195 = some (true, 2) := by kernel_rfl
theorem fld195_0 : fieldFact Tryz.prog 195 0 = some (0, some true) := by kernel_rfl
theorem fld195_1 : fieldFact Tryz.prog 195 1 = some (1, some true) := by kernel_rfl
theorem zero195 : zeroFact Tryz.prog 195 = some (some (.agg [.int .i64 0, .slice none 0 0].toArray)) := by kernel_rfl
theorem ty196 : oneFact Tryz.prog 196 = some (false, 1) := by kernel_rfl
theorem zero196 : zeroFact Tryz.prog 196 = some (some (.nilFunc)) := by kernel_rfl
theorem ty197 : oneFact Tryz.prog 197 = some (false, 1) := by kernel_rfl
theorem zero197 : zeroFact Tryz.prog 197 = some (some (.nilFunc)) := by kernel_rfl
theorem ty198 : oneFact Tryz.prog 198 = some (false, 1) := by kernel_rfl
theorem zero198 : zeroFact Tryz.prog 198 = some (some (.nilFunc)) := by kernel_rfl
theorem ty199 : oneFact Tryz.prog 199 = some (false, 1) := by kernel_rfl
theorem zero199 : zeroFact Tryz.prog 199 = some (some (.map none)) := by kernel_rfl
theorem ty200 : oneFact Tryz.prog 200 = some (true, 5) := by kernel_rfl
theorem fld200_0 : fieldFact Tryz.prog 200 0 = some (0, some true) := by kernel_rfl
theorem fld200_1 : fieldFact Tryz.prog 200 1 = some (1, some true) := by kernel_rfl
theorem fld200_2 : fieldFact Tryz.prog 200 2 = some (2, some true) := by kernel_rfl
theorem fld200_3 : fieldFact Tryz.prog 200 3 = some (3, some true) := by kernel_rfl
theorem fld200_4 : fieldFact Tryz.prog 200 4 = some (4, some true) := by kernel_rfl
theorem zero200 : zeroFact Tryz.prog 200 = some (some (.agg [.slice none 0 0, .slice none 0 0, .slice none 0 0, .slice none 0 0, .map none].toArray)) := by kernel_rfl
theorem ty201 : oneFact Tryz.prog 201 = some (true, 5) := by kernel_rfl
theorem fld201_0 : fieldFact Tryz.prog 201 0 = some (0, some true) := by kernel_rfl
theorem fld201_1 : fieldFact Tryz.prog 201 1 = some (1, some true) := by kernel_rfl
theorem fld201_2 : fieldFact Tryz.prog 201 2 = some (2, some true) := by kernel_rfl
theorem fld201_3 : fieldFact Tryz.prog 201 3 = some (3, some true) := by kernel_rfl
theorem fld201_4 : fieldFact Tryz.prog 201 4 = some (4, some true) := by kernel_rfl
theorem zero201 : zeroFact Tryz.prog 201 = some (some (.agg [.slice none 0 0, .slice none 0 0, .slice none 0 0, .slice none 0 0, .map none].toArray)) := by kernel_rfl
theorem ty202 : oneFact Tryz.prog 202 = some (false, 1) := by kernel_rfl
theorem zero202 : zeroFact Tryz.prog 202 = some (some (.nilFunc)) := by kernel_rfl
theorem ty203 : oneFact Tryz.prog 203 = some (false, 1) := by kernel_rfl
theorem zero203 : zeroFact Tryz.prog 203 = some (some (.nilFunc)) := by kernel_rfl
theorem ty204 : oneFact Tryz.prog 204 = some (false, 1) := by kernel_rfl
theorem zero204 : zeroFact Tryz.prog 204 = some (some (.nilFunc)) := by kernel_rfl
theorem ty205 : oneFact Tryz.prog 205 = some (false, 1) := by kernel_rfl
theorem zero205 : zeroFact Tryz.prog 205 = some (some (.nilFunc)) := by kernel_rfl
theorem ty206 : oneFact Tryz.prog 206 = some (false, 1) := by kernel_rfl
theorem zero206 : zeroFact Tryz.prog 206 = some (some (.nilFunc)) := by kernel_rfl
theorem ty207 : oneFact Tryz.prog 207 = some (true, 2) := by kernel_rfl
theorem fld207_0 : fieldFact Tryz.prog 207 0 = some (0, some true) := by kernel_rfl
theorem fld207_1 : fieldFact Tryz.prog 207 1 = some (1, some true) := by kernel_rfl
theorem zero207 : zeroFact Tryz.prog 207 = some (some (.agg [.int .i64 0, .slice none 0 0].toArray)) := by kernel_rfl
theorem ty208 : oneFact Tryz.prog 208 = some (true, 2) := by kernel_rfl
theorem fld208_0 : fieldFact Tryz.prog 208 0 = some (0, some true) := by kernel_rfl
theorem fld208_1 : fieldFact Tryz.prog 208 1 = some (1, some true) := by kernel_rfl
theorem zero208 : zeroFact Tryz.prog 208 = some (some (.agg [.int .i64 0, .slice none 0 0].toArray)) := by kernel_rfl
theorem ty209 : oneFact Tryz.prog 209 = some (false, 1) := by kernel_rfl
theorem zero209 : zeroFact Tryz.prog 209 = some (some (.nilFunc)) := by kernel_rfl
theorem ty210 : oneFact Tryz.prog 210 = some (false, 1) := by kernel_rfl
theorem sl210 : slFact Tryz.prog 210 = some (221, 4, 40, some 4) := by kernel_rfl
theorem zero210 : zeroFact Tryz.prog 210 = some (some (.slice none 0 0)) := by kernel_rfl
theorem ty212 : oneFact Tryz.prog 212 = some (false, 1) := by kernel_rfl
theorem zero212 : zeroFact Tryz.prog 212 = some (some (.nilFunc)) := by kernel_rfl
theorem ty213 : oneFact Tryz.prog 213 = some (false, 1) := by kernel_rfl
theorem zero213 : zeroFact Tryz.prog 213 = some (some (.pointer none)) := by kernel_rfl
theorem und213 : Tryz.prog.underlying 213 = some (.pointer 215) := by kernel_rfl
theorem ty214 : oneFact Tryz.prog 214 = some (true, 4) := by kernel_rfl
theorem fld214_0 : fieldFact Tryz.prog 214 0 = some (0, some true) := by kernel_rfl
theorem fld214_1 : fieldFact Tryz.prog 214 1 = some (1, some true) := by kernel_rfl
theorem fld214_2 : fieldFact Tryz.prog 214 2 = some (2, some true) := by kernel_rfl
theorem fld214_3 : fieldFact Tryz.prog 214 3 = some (3, some true) := by kernel_rfl
theorem zero214 : zeroFact Tryz.prog 214 = some (some (.agg [.slice none 0 0, .int .i64 0, .int .i64 0, .int .i64 0].toArray)) := by kernel_rfl
theorem ty215 : oneFact Tryz.prog 215 = some (true, 4) := by kernel_rfl
theorem fld215_0 : fieldFact Tryz.prog 215 0 = some (0, some true) := by kernel_rfl
theorem fld215_1 : fieldFact Tryz.prog 215 1 = some (1, some true) := by kernel_rfl
theorem fld215_2 : fieldFact Tryz.prog 215 2 = some (2, some true) := by kernel_rfl
theorem fld215_3 : fieldFact Tryz.prog 215 3 = some (3, some true) := by kernel_rfl
theorem zero215 : zeroFact Tryz.prog 215 = some (some (.agg [.slice none 0 0, .int .i64 0, .int .i64 0, .int .i64 0].toArray)) := by kernel_rfl
theorem ty216 : oneFact Tryz.prog 216 = some (false, 1) := by kernel_rfl
theorem zero216 : zeroFact Tryz.prog 216 = some (some (.nilFunc)) := by kernel_rfl
theorem ty217 : oneFact Tryz.prog 217 = some (false, 1) := by kernel_rfl
theorem zero217 : zeroFact Tryz.prog 217 = some (some (.nilFunc)) := by kernel_rfl
theorem ty218 : oneFact Tryz.prog 218 = some (false, 1) := by kernel_rfl
theorem zero218 : zeroFact Tryz.prog 218 = some (some (.nilFunc)) := by kernel_rfl
theorem ty219 : oneFact Tryz.prog 219 = some (false, 1) := by kernel_rfl
theorem zero219 : zeroFact Tryz.prog 219 = some (some (.nilFunc)) := by kernel_rfl
theorem ty220 : oneFact Tryz.prog 220 = some (true, 4) := by kernel_rfl
theorem fld220_0 : fieldFact Tryz.prog 220 0 = some (0, some true) := by kernel_rfl
theorem fld220_1 : fieldFact Tryz.prog 220 1 = some (1, some true) := by kernel_rfl
theorem fld220_2 : fieldFact Tryz.prog 220 2 = some (2, some true) := by kernel_rfl
theorem fld220_3 : fieldFact Tryz.prog 220 3 = some (3, some true) := by kernel_rfl
theorem zero220 : zeroFact Tryz.prog 220 = some (some (.agg [.int .i64 0, .string ⟨#[]⟩, .int .i64 0, .int .i64 0].toArray)) := by kernel_rfl
theorem ty221 : oneFact Tryz.prog 221 = some (true, 4) := by kernel_rfl
theorem fld221_0 : fieldFact Tryz.prog 221 0 = some (0, some true) := by kernel_rfl
theorem fld221_1 : fieldFact Tryz.prog 221 1 = some (1, some true) := by kernel_rfl
theorem fld221_2 : fieldFact Tryz.prog 221 2 = some (2, some true) := by kernel_rfl
theorem fld221_3 : fieldFact Tryz.prog 221 3 = some (3, some true) := by kernel_rfl
theorem zero221 : zeroFact Tryz.prog 221 = some (some (.agg [.int .i64 0, .string ⟨#[]⟩, .int .i64 0, .int .i64 0].toArray)) := by kernel_rfl
theorem ty222 : oneFact Tryz.prog 222 = some (false, 1) := by kernel_rfl
theorem zero222 : zeroFact Tryz.prog 222 = some (some (.nilFunc)) := by kernel_rfl
theorem ty224 : oneFact Tryz.prog 224 = some (false, 1) := by kernel_rfl
theorem zero224 : zeroFact Tryz.prog 224 = some (some (.nilFunc)) := by kernel_rfl
theorem ty226 : oneFact Tryz.prog 226 = some (false, 1) := by kernel_rfl
theorem zero226 : zeroFact Tryz.prog 226 = some (some (.nilFunc)) := by kernel_rfl
theorem ty227 : oneFact Tryz.prog 227 = some (true, 12) := by kernel_rfl
theorem fld227_0 : fieldFact Tryz.prog 227 0 = some (0, some true) := by kernel_rfl
theorem fld227_1 : fieldFact Tryz.prog 227 1 = some (9, some true) := by kernel_rfl
theorem fld227_2 : fieldFact Tryz.prog 227 2 = some (10, some true) := by kernel_rfl
theorem fld227_3 : fieldFact Tryz.prog 227 3 = some (11, some true) := by kernel_rfl
theorem zero227 : zeroFact Tryz.prog 227 = some (some (.agg [.int .i64 0, .string ⟨#[]⟩, .string ⟨#[]⟩, .slice none 0 0, .slice none 0 0, .int .i64 0, .int .i64 0, .int .i64 0, .int .i64 0, .slice none 0 0, .slice none 0 0, .bool false].toArray)) := by kernel_rfl
theorem ty228 : oneFact Tryz.prog 228 = some (true, 12) := by kernel_rfl
theorem fld228_0 : fieldFact Tryz.prog 228 0 = some (0, some true) := by kernel_rfl
theorem fld228_1 : fieldFact Tryz.prog 228 1 = some (9, some true) := by kernel_rfl
theorem fld228_2 : fieldFact Tryz.prog 228 2 = some (10, some true) := by kernel_rfl
theorem fld228_3 : fieldFact Tryz.prog 228 3 = some (11, some true) := by kernel_rfl
theorem zero228 : zeroFact Tryz.prog 228 = some (some (.agg [.int .i64 0, .string ⟨#[]⟩, .string ⟨#[]⟩, .slice none 0 0, .slice none 0 0, .int .i64 0, .int .i64 0, .int .i64 0, .int .i64 0, .slice none 0 0, .slice none 0 0, .bool false].toArray)) := by kernel_rfl
theorem ty229 : oneFact Tryz.prog 229 = some (false, 1) := by kernel_rfl
theorem zero229 : zeroFact Tryz.prog 229 = some (some (.nilFunc)) := by kernel_rfl
theorem ty230 : oneFact Tryz.prog 230 = some (false, 1) := by kernel_rfl
theorem zero230 : zeroFact Tryz.prog 230 = some (some (.map none)) := by kernel_rfl
theorem ty232 : oneFact Tryz.prog 232 = some (false, 1) := by kernel_rfl
theorem zero232 : zeroFact Tryz.prog 232 = some (some (.nilFunc)) := by kernel_rfl
theorem ty233 : oneFact Tryz.prog 233 = some (true, 20) := by kernel_rfl
theorem zero233 : zeroFact Tryz.prog 233 = some (some (.agg [.int .i64 0, .int .i64 0, .int .i64 0, .int .i64 0, .int .i64 0, .int .i64 0, .int .i64 0, .int .i64 0, .int .i64 0, .int .i64 0, .int .i64 0, .int .i64 0, .int .i64 0, .int .i64 0, .int .i64 0, .int .i64 0, .int .i64 0, .int .i64 0, .int .i64 0, .int .i64 0].toArray)) := by kernel_rfl
theorem ty234 : oneFact Tryz.prog 234 = some (false, 1) := by kernel_rfl
theorem sl234 : slFact Tryz.prog 234 = some (237, 2, 16, some 2) := by kernel_rfl
theorem zero234 : zeroFact Tryz.prog 234 = some (some (.slice none 0 0)) := by kernel_rfl
theorem ty235 : oneFact Tryz.prog 235 = some (false, 1) := by kernel_rfl
theorem zero235 : zeroFact Tryz.prog 235 = some (some (.nilFunc)) := by kernel_rfl
theorem ty236 : oneFact Tryz.prog 236 = some (true, 2) := by kernel_rfl
theorem fld236_0 : fieldFact Tryz.prog 236 0 = some (0, some true) := by kernel_rfl
theorem fld236_1 : fieldFact Tryz.prog 236 1 = some (1, some true) := by kernel_rfl
theorem zero236 : zeroFact Tryz.prog 236 = some (some (.agg [.int .i64 0, .int .i64 0].toArray)) := by kernel_rfl
theorem ty237 : oneFact Tryz.prog 237 = some (true, 2) := by kernel_rfl
theorem fld237_0 : fieldFact Tryz.prog 237 0 = some (0, some true) := by kernel_rfl
theorem fld237_1 : fieldFact Tryz.prog 237 1 = some (1, some true) := by kernel_rfl
theorem zero237 : zeroFact Tryz.prog 237 = some (some (.agg [.int .i64 0, .int .i64 0].toArray)) := by kernel_rfl
theorem ty238 : oneFact Tryz.prog 238 = some (false, 1) := by kernel_rfl
theorem zero238 : zeroFact Tryz.prog 238 = some (some (.nilFunc)) := by kernel_rfl
theorem ty239 : oneFact Tryz.prog 239 = some (false, 1) := by kernel_rfl
theorem zero239 : zeroFact Tryz.prog 239 = some (some (.nilFunc)) := by kernel_rfl
theorem ty240 : oneFact Tryz.prog 240 = some (true, 4) := by kernel_rfl
theorem fld240_0 : fieldFact Tryz.prog 240 0 = some (0, some true) := by kernel_rfl
theorem fld240_1 : fieldFact Tryz.prog 240 1 = some (1, some true) := by kernel_rfl
theorem fld240_2 : fieldFact Tryz.prog 240 2 = some (2, some true) := by kernel_rfl
theorem fld240_3 : fieldFact Tryz.prog 240 3 = some (3, some true) := by kernel_rfl
theorem zero240 : zeroFact Tryz.prog 240 = some (some (.agg [.int .i64 0, .int .i64 0, .int .i64 0, .int .i64 0].toArray)) := by kernel_rfl
theorem ty241 : oneFact Tryz.prog 241 = some (true, 4) := by kernel_rfl
theorem fld241_0 : fieldFact Tryz.prog 241 0 = some (0, some true) := by kernel_rfl
theorem fld241_1 : fieldFact Tryz.prog 241 1 = some (1, some true) := by kernel_rfl
theorem fld241_2 : fieldFact Tryz.prog 241 2 = some (2, some true) := by kernel_rfl
theorem fld241_3 : fieldFact Tryz.prog 241 3 = some (3, some true) := by kernel_rfl
theorem zero241 : zeroFact Tryz.prog 241 = some (some (.agg [.int .i64 0, .int .i64 0, .int .i64 0, .int .i64 0].toArray)) := by kernel_rfl
theorem ty243 : oneFact Tryz.prog 243 = some (false, 1) := by kernel_rfl
theorem zero243 : zeroFact Tryz.prog 243 = some (some (.nilFunc)) := by kernel_rfl
theorem ty244 : oneFact Tryz.prog 244 = some (false, 1) := by kernel_rfl
theorem zero244 : zeroFact Tryz.prog 244 = some (some (.nilFunc)) := by kernel_rfl
theorem ty245 : oneFact Tryz.prog 245 = some (false, 1) := by kernel_rfl
theorem zero245 : zeroFact Tryz.prog 245 = some (some (.nilFunc)) := by kernel_rfl
theorem ty246 : oneFact Tryz.prog 246 = some (false, 1) := by kernel_rfl
theorem zero246 : zeroFact Tryz.prog 246 = some (some (.nilFunc)) := by kernel_rfl
theorem ty247 : oneFact Tryz.prog 247 = some (false, 1) := by kernel_rfl
theorem zero247 : zeroFact Tryz.prog 247 = some (some (.nilFunc)) := by kernel_rfl
theorem ty248 : oneFact Tryz.prog 248 = some (false, 1) := by kernel_rfl
theorem zero248 : zeroFact Tryz.prog 248 = some (some (.nilFunc)) := by kernel_rfl
theorem ty249 : oneFact Tryz.prog 249 = some (false, 1) := by kernel_rfl
theorem zero249 : zeroFact Tryz.prog 249 = some (some (.nilFunc)) := by kernel_rfl
theorem ty250 : oneFact Tryz.prog 250 = some (false, 1) := by kernel_rfl
theorem zero250 : zeroFact Tryz.prog 250 = some (some (.nilFunc)) := by kernel_rfl
theorem ty251 : oneFact Tryz.prog 251 = some (false, 1) := by kernel_rfl
theorem zero251 : zeroFact Tryz.prog 251 = some (some (.nilFunc)) := by kernel_rfl
theorem ty252 : oneFact Tryz.prog 252 = some (false, 1) := by kernel_rfl
theorem zero252 : zeroFact Tryz.prog 252 = some (some (.nilFunc)) := by kernel_rfl
theorem ty253 : oneFact Tryz.prog 253 = some (false, 1) := by kernel_rfl
theorem zero253 : zeroFact Tryz.prog 253 = some (some (.nilFunc)) := by kernel_rfl
theorem ty254 : oneFact Tryz.prog 254 = some (false, 1) := by kernel_rfl
theorem zero254 : zeroFact Tryz.prog 254 = some (some (.nilFunc)) := by kernel_rfl
theorem ty255 : oneFact Tryz.prog 255 = some (false, 1) := by kernel_rfl
theorem sl255 : slFact Tryz.prog 255 = some (172, 2, 16, some 2) := by kernel_rfl
theorem zero255 : zeroFact Tryz.prog 255 = some (some (.slice none 0 0)) := by kernel_rfl
theorem ty256 : oneFact Tryz.prog 256 = some (false, 1) := by kernel_rfl
theorem zero256 : zeroFact Tryz.prog 256 = some (some (.nilFunc)) := by kernel_rfl
theorem ty257 : oneFact Tryz.prog 257 = some (false, 1) := by kernel_rfl
theorem zero257 : zeroFact Tryz.prog 257 = some (some (.nilFunc)) := by kernel_rfl
theorem ty258 : oneFact Tryz.prog 258 = some (false, 1) := by kernel_rfl
theorem zero258 : zeroFact Tryz.prog 258 = some (some (.nilFunc)) := by kernel_rfl
theorem ty259 : oneFact Tryz.prog 259 = some (false, 1) := by kernel_rfl
theorem zero259 : zeroFact Tryz.prog 259 = some (some (.nilFunc)) := by kernel_rfl
theorem ty260 : oneFact Tryz.prog 260 = some (false, 1) := by kernel_rfl
theorem zero260 : zeroFact Tryz.prog 260 = some (some (.nilFunc)) := by kernel_rfl
theorem ty261 : oneFact Tryz.prog 261 = some (false, 1) := by kernel_rfl
theorem zero261 : zeroFact Tryz.prog 261 = some (some (.nilFunc)) := by kernel_rfl
theorem ty262 : oneFact Tryz.prog 262 = some (false, 1) := by kernel_rfl
theorem zero262 : zeroFact Tryz.prog 262 = some (some (.nilFunc)) := by kernel_rfl
theorem ty263 : oneFact Tryz.prog 263 = some (false, 1) := by kernel_rfl
theorem zero263 : zeroFact Tryz.prog 263 = some (some (.nilFunc)) := by kernel_rfl
theorem ty264 : oneFact Tryz.prog 264 = some (false, 1) := by kernel_rfl
theorem zero264 : zeroFact Tryz.prog 264 = some (some (.nilFunc)) := by kernel_rfl
theorem ty265 : oneFact Tryz.prog 265 = some (false, 1) := by kernel_rfl
theorem zero265 : zeroFact Tryz.prog 265 = some (some (.nilFunc)) := by kernel_rfl
theorem ty266 : oneFact Tryz.prog 266 = some (false, 1) := by kernel_rfl
theorem zero266 : zeroFact Tryz.prog 266 = some (some (.nilFunc)) := by kernel_rfl
theorem ty267 : oneFact Tryz.prog 267 = some (false, 1) := by kernel_rfl
theorem zero267 : zeroFact Tryz.prog 267 = some (some (.nilFunc)) := by kernel_rfl
theorem ty268 : oneFact Tryz.prog 268 = some (false, 1) := by kernel_rfl
theorem zero268 : zeroFact Tryz.prog 268 = some (some (.nilFunc)) := by kernel_rfl
theorem ty269 : oneFact Tryz.prog 269 = some (false, 1) := by kernel_rfl
theorem zero269 : zeroFact Tryz.prog 269 = some (some (.nilFunc)) := by kernel_rfl
theorem ty270 : oneFact Tryz.prog 270 = some (false, 1) := by kernel_rfl
theorem zero270 : zeroFact Tryz.prog 270 = some (some (.nilFunc)) := by kernel_rfl
theorem ty271 : oneFact Tryz.prog 271 = some (false, 1) := by kernel_rfl
theorem zero271 : zeroFact Tryz.prog 271 = some (some (.nilFunc)) := by kernel_rfl
theorem ty272 : oneFact Tryz.prog 272 = some (false, 1) := by kernel_rfl
theorem zero272 : zeroFact Tryz.prog 272 = some (some (.nilFunc)) := by kernel_rfl
theorem ty273 : oneFact Tryz.prog 273 = some (false, 1) := by kernel_rfl
theorem zero273 : zeroFact Tryz.prog 273 = some (some (.nilFunc)) := by kernel_rfl
theorem ty274 : oneFact Tryz.prog 274 = some (false, 1) := by kernel_rfl
theorem zero274 : zeroFact Tryz.prog 274 = some (some (.nilFunc)) := by kernel_rfl
theorem ty275 : oneFact Tryz.prog 275 = some (false, 1) := by kernel_rfl
theorem zero275 : zeroFact Tryz.prog 275 = some (some (.nilFunc)) := by kernel_rfl
theorem ty276 : oneFact Tryz.prog 276 = some (false, 1) := by kernel_rfl
theorem zero276 : zeroFact Tryz.prog 276 = some (some (.nilFunc)) := by kernel_rfl
theorem ty277 : oneFact Tryz.prog 277 = some (false, 1) := by kernel_rfl
theorem zero277 : zeroFact Tryz.prog 277 = some (some (.nilFunc)) := by kernel_rfl
theorem ty278 : oneFact Tryz.prog 278 = some (false, 1) := by kernel_rfl
theorem zero278 : zeroFact Tryz.prog 278 = some (some (.nilFunc)) := by kernel_rfl
theorem ty280 : oneFact Tryz.prog 280 = some (false, 1) := by kernel_rfl
theorem zero280 : zeroFact Tryz.prog 280 = some (some (.nilFunc)) := by kernel_rfl
theorem ty282 : oneFact Tryz.prog 282 = some (false, 1) := by kernel_rfl
theorem zero282 : zeroFact Tryz.prog 282 = some (some (.nilFunc)) := by kernel_rfl
theorem ty283 : oneFact Tryz.prog 283 = some (false, 1) := by kernel_rfl
theorem zero283 : zeroFact Tryz.prog 283 = some (some (.nilFunc)) := by kernel_rfl
theorem ty284 : oneFact Tryz.prog 284 = some (false, 1) := by kernel_rfl
theorem sl284 : slFact Tryz.prog 284 = some (325, 2, 16, some 2) := by kernel_rfl
theorem zero284 : zeroFact Tryz.prog 284 = some (some (.slice none 0 0)) := by kernel_rfl
theorem ty286 : oneFact Tryz.prog 286 = some (false, 1) := by kernel_rfl
theorem zero286 : zeroFact Tryz.prog 286 = some (some (.nilFunc)) := by kernel_rfl
theorem ty287 : oneFact Tryz.prog 287 = some (false, 1) := by kernel_rfl
theorem zero287 : zeroFact Tryz.prog 287 = some (some (.nilFunc)) := by kernel_rfl
theorem ty288 : oneFact Tryz.prog 288 = some (false, 1) := by kernel_rfl
theorem zero288 : zeroFact Tryz.prog 288 = some (some (.nilFunc)) := by kernel_rfl
theorem ty289 : oneFact Tryz.prog 289 = some (false, 1) := by kernel_rfl
theorem zero289 : zeroFact Tryz.prog 289 = some (some (.nilFunc)) := by kernel_rfl
theorem ty290 : oneFact Tryz.prog 290 = some (false, 1) := by kernel_rfl
theorem zero290 : zeroFact Tryz.prog 290 = some (some (.nilFunc)) := by kernel_rfl
theorem ty291 : oneFact Tryz.prog 291 = some (false, 1) := by kernel_rfl
theorem zero291 : zeroFact Tryz.prog 291 = some (some (.nilFunc)) := by kernel_rfl
theorem ty292 : oneFact Tryz.prog 292 = some (false, 1) := by kernel_rfl
theorem zero292 : zeroFact Tryz.prog 292 = some (some (.nilFunc)) := by kernel_rfl
theorem ty293 : oneFact Tryz.prog 293 = some (false, 1) := by kernel_rfl
theorem zero293 : zeroFact Tryz.prog 293 = some (some (.nilFunc)) := by kernel_rfl
theorem ty294 : oneFact Tryz.prog 294 = some (false, 1) := by kernel_rfl
theorem zero294 : zeroFact Tryz.prog 294 = some (some (.nilFunc)) := by kernel_rfl
theorem ty295 : oneFact Tryz.prog 295 = some (false, 1) := by kernel_rfl
theorem zero295 : zeroFact Tryz.prog 295 = some (some (.nilFunc)) := by kernel_rfl
theorem ty296 : oneFact Tryz.prog 296 = some (false, 1) := by kernel_rfl
theorem zero296 : zeroFact Tryz.prog 296 = some (some (.nilFunc)) := by kernel_rfl
theorem ty297 : oneFact Tryz.prog 297 = some (false, 1) := by kernel_rfl
theorem zero297 : zeroFact Tryz.prog 297 = some (some (.nilFunc)) := by kernel_rfl
theorem ty298 : oneFact Tryz.prog 298 = some (false, 1) := by kernel_rfl
theorem zero298 : zeroFact Tryz.prog 298 = some (some (.nilFunc)) := by kernel_rfl
theorem ty299 : oneFact Tryz.prog 299 = some (false, 1) := by kernel_rfl
theorem zero299 : zeroFact Tryz.prog 299 = some (some (.nilFunc)) := by kernel_rfl
theorem ty300 : oneFact Tryz.prog 300 = some (false, 1) := by kernel_rfl
theorem zero300 : zeroFact Tryz.prog 300 = some (some (.nilFunc)) := by kernel_rfl
theorem ty301 : oneFact Tryz.prog 301 = some (false, 1) := by kernel_rfl
theorem zero301 : zeroFact Tryz.prog 301 = some (some (.nilFunc)) := by kernel_rfl
theorem ty302 : oneFact Tryz.prog 302 = some (false, 1) := by kernel_rfl
theorem zero302 : zeroFact Tryz.prog 302 = some (some (.nilFunc)) := by kernel_rfl
theorem ty303 : oneFact Tryz.prog 303 = some (false, 1) := by kernel_rfl
theorem zero303 : zeroFact Tryz.prog 303 = some (some (.nilFunc)) := by kernel_rfl
theorem ty304 : oneFact Tryz.prog 304 = some (false, 1) := by kernel_rfl
theorem zero304 : zeroFact Tryz.prog 304 = some (some (.nilFunc)) := by kernel_rfl
theorem ty305 : oneFact Tryz.prog 305 = some (false, 1) := by kernel_rfl
theorem zero305 : zeroFact Tryz.prog 305 = some (some (.nilFunc)) := by kernel_rfl
theorem ty306 : oneFact Tryz.prog 306 = some (false, 1) := by kernel_rfl
theorem sl306 : slFact Tryz.prog 306 = some (24, 1, 24, some 1) := by kernel_rfl
theorem zero306 : zeroFact Tryz.prog 306 = some (some (.slice none 0 0)) := by kernel_rfl
theorem ty307 : oneFact Tryz.prog 307 = some (false, 1) := by kernel_rfl
theorem zero307 : zeroFact Tryz.prog 307 = some (some (.nilFunc)) := by kernel_rfl
theorem ty308 : oneFact Tryz.prog 308 = some (false, 1) := by kernel_rfl
theorem zero308 : zeroFact Tryz.prog 308 = some (some (.nilFunc)) := by kernel_rfl
theorem ty309 : oneFact Tryz.prog 309 = some (false, 1) := by kernel_rfl
theorem zero309 : zeroFact Tryz.prog 309 = some (some (.pointer none)) := by kernel_rfl
theorem und309 : Tryz.prog.underlying 309 = some (.pointer 311) := by kernel_rfl
theorem ty310 : oneFact Tryz.prog 310 = some (true, 5) := by kernel_rfl
theorem fld310_0 : fieldFact Tryz.prog 310 0 = some (0, some true) := by kernel_rfl
theorem fld310_1 : fieldFact Tryz.prog 310 1 = some (1, some true) := by kernel_rfl
theorem fld310_2 : fieldFact Tryz.prog 310 2 = some (2, some true) := by kernel_rfl
theorem fld310_3 : fieldFact Tryz.prog 310 3 = some (3, some true) := by kernel_rfl
theorem fld310_4 : fieldFact Tryz.prog 310 4 = some (4, some true) := by kernel_rfl
theorem zero310 : zeroFact Tryz.prog 310 = some (some (.agg [.slice none 0 0, .int .i64 0, .int .i64 0, .int .i64 0, .slice none 0 0].toArray)) := by kernel_rfl
theorem ty311 : oneFact Tryz.prog 311 = some (true, 5) := by kernel_rfl
theorem fld311_0 : fieldFact Tryz.prog 311 0 = some (0, some true) := by kernel_rfl
theorem fld311_1 : fieldFact Tryz.prog 311 1 = some (1, some true) := by kernel_rfl
theorem fld311_2 : fieldFact Tryz.prog 311 2 = some (2, some true) := by kernel_rfl
theorem fld311_3 : fieldFact Tryz.prog 311 3 = some (3, some true) := by kernel_rfl
theorem fld311_4 : fieldFact Tryz.prog 311 4 = some (4, some true) := by kernel_rfl
theorem zero311 : zeroFact Tryz.prog 311 = some (some (.agg [.slice none 0 0, .int .i64 0, .int .i64 0, .int .i64 0, .slice none 0 0].toArray)) := by kernel_rfl
theorem ty312 : oneFact Tryz.prog 312 = some (false, 1) := by kernel_rfl
theorem zero312 : zeroFact Tryz.prog 312 = some (some (.nilFunc)) := by kernel_rfl
theorem ty313 : oneFact Tryz.prog 313 = some (true, 4) := by kernel_rfl
theorem fld313_0 : fieldFact Tryz.prog 313 0 = some (0, some true) := by kernel_rfl
theorem fld313_1 : fieldFact Tryz.prog 313 1 = some (1, some true) := by kernel_rfl
theorem fld313_2 : fieldFact Tryz.prog 313 2 = some (2, some true) := by kernel_rfl
theorem fld313_3 : fieldFact Tryz.prog 313 3 = some (3, some true) := by kernel_rfl
theorem zero313 : zeroFact Tryz.prog 313 = some (some (.agg [.slice none 0 0, .int .i64 0, .int .i64 0, .int .i64 0].toArray)) := by kernel_rfl
theorem ty314 : oneFact Tryz.prog 314 = some (true, 4) := by kernel_rfl
theorem fld314_0 : fieldFact Tryz.prog 314 0 = some (0, some true) := by kernel_rfl
theorem fld314_1 : fieldFact Tryz.prog 314 1 = some (1, some true) := by kernel_rfl
theorem fld314_2 : fieldFact Tryz.prog 314 2 = some (2, some true) := by kernel_rfl
theorem fld314_3 : fieldFact Tryz.prog 314 3 = some (3, some true) := by kernel_rfl
theorem zero314 : zeroFact Tryz.prog 314 = some (some (.agg [.slice none 0 0, .int .i64 0, .int .i64 0, .int .i64 0].toArray)) := by kernel_rfl
theorem ty315 : oneFact Tryz.prog 315 = some (false, 1) := by kernel_rfl
theorem zero315 : zeroFact Tryz.prog 315 = some (some (.nilFunc)) := by kernel_rfl
theorem ty316 : oneFact Tryz.prog 316 = some (false, 1) := by kernel_rfl
theorem zero316 : zeroFact Tryz.prog 316 = some (some (.nilFunc)) := by kernel_rfl
theorem ty317 : oneFact Tryz.prog 317 = some (false, 1) := by kernel_rfl
theorem zero317 : zeroFact Tryz.prog 317 = some (some (.nilFunc)) := by kernel_rfl
theorem ty318 : oneFact Tryz.prog 318 = some (false, 1) := by kernel_rfl
theorem zero318 : zeroFact Tryz.prog 318 = some (some (.nilFunc)) := by kernel_rfl
theorem ty319 : oneFact Tryz.prog 319 = some (false, 1) := by kernel_rfl
theorem zero319 : zeroFact Tryz.prog 319 = some (some (.nilFunc)) := by kernel_rfl
theorem ty320 : oneFact Tryz.prog 320 = some (true, 1) := by kernel_rfl
theorem fld320_0 : fieldFact Tryz.prog 320 0 = some (0, some true) := by kernel_rfl
theorem zero320 : zeroFact Tryz.prog 320 = some (some (.agg [.slice none 0 0].toArray)) := by kernel_rfl
theorem ty321 : oneFact Tryz.prog 321 = some (true, 1) := by kernel_rfl
theorem fld321_0 : fieldFact Tryz.prog 321 0 = some (0, some true) := by kernel_rfl
theorem zero321 : zeroFact Tryz.prog 321 = some (some (.agg [.slice none 0 0].toArray)) := by kernel_rfl
theorem ty322 : oneFact Tryz.prog 322 = some (true, 2) := by kernel_rfl
theorem fld322_0 : fieldFact Tryz.prog 322 0 = some (0, some true) := by kernel_rfl
theorem fld322_1 : fieldFact Tryz.prog 322 1 = some (1, some true) := by kernel_rfl
theorem zero322 : zeroFact Tryz.prog 322 = some (some (.agg [.slice none 0 0, .int .i64 0].toArray)) := by kernel_rfl
theorem ty323 : oneFact Tryz.prog 323 = some (true, 2) := by kernel_rfl
theorem fld323_0 : fieldFact Tryz.prog 323 0 = some (0, some true) := by kernel_rfl
theorem fld323_1 : fieldFact Tryz.prog 323 1 = some (1, some true) := by kernel_rfl
theorem zero323 : zeroFact Tryz.prog 323 = some (some (.agg [.slice none 0 0, .int .i64 0].toArray)) := by kernel_rfl
theorem ty324 : oneFact Tryz.prog 324 = some (true, 2) := by kernel_rfl
theorem fld324_0 : fieldFact Tryz.prog 324 0 = some (0, some true) := by kernel_rfl
theorem fld324_1 : fieldFact Tryz.prog 324 1 = some (1, some true) := by kernel_rfl
theorem zero324 : zeroFact Tryz.prog 324 = some (some (.agg [.int .i64 0, .int .i64 0].toArray)) := by kernel_rfl
theorem ty325 : oneFact Tryz.prog 325 = some (true, 2) := by kernel_rfl
theorem fld325_0 : fieldFact Tryz.prog 325 0 = some (0, some true) := by kernel_rfl
theorem fld325_1 : fieldFact Tryz.prog 325 1 = some (1, some true) := by kernel_rfl
theorem zero325 : zeroFact Tryz.prog 325 = some (some (.agg [.int .i64 0, .int .i64 0].toArray)) := by kernel_rfl
theorem ty326 : oneFact Tryz.prog 326 = some (false, 1) := by kernel_rfl
theorem zero326 : zeroFact Tryz.prog 326 = some (some (.nilFunc)) := by kernel_rfl
theorem ty327 : oneFact Tryz.prog 327 = some (false, 1) := by kernel_rfl
theorem zero327 : zeroFact Tryz.prog 327 = some (some (.nilFunc)) := by kernel_rfl
theorem ty328 : oneFact Tryz.prog 328 = some (false, 1) := by kernel_rfl
theorem zero328 : zeroFact Tryz.prog 328 = some (some (.nilFunc)) := by kernel_rfl
theorem ty329 : oneFact Tryz.prog 329 = some (false, 1) := by kernel_rfl
theorem zero329 : zeroFact Tryz.prog 329 = some (some (.nilFunc)) := by kernel_rfl
theorem ty330 : oneFact Tryz.prog 330 = some (false, 1) := by kernel_rfl
theorem zero330 : zeroFact Tryz.prog 330 = some (some (.nilFunc)) := by kernel_rfl
theorem ty331 : oneFact Tryz.prog 331 = some (false, 1) := by kernel_rfl
theorem zero331 : zeroFact Tryz.prog 331 = some (some (.nilFunc)) := by kernel_rfl
theorem ty332 : oneFact Tryz.prog 332 = some (false, 1) := by kernel_rfl
theorem zero332 : zeroFact Tryz.prog 332 = some (some (.nilFunc)) := by kernel_rfl
theorem ty333 : oneFact Tryz.prog 333 = some (false, 1) := by kernel_rfl
theorem zero333 : zeroFact Tryz.prog 333 = some (some (.nilFunc)) := by kernel_rfl
theorem ty334 : oneFact Tryz.prog 334 = some (false, 1) := by kernel_rfl
theorem zero334 : zeroFact Tryz.prog 334 = some (some (.nilFunc)) := by kernel_rfl
theorem ty335 : oneFact Tryz.prog 335 = some (false, 1) := by kernel_rfl
theorem zero335 : zeroFact Tryz.prog 335 = some (some (.map none)) := by kernel_rfl
theorem ty336 : oneFact Tryz.prog 336 = some (false, 1) := by kernel_rfl
theorem zero336 : zeroFact Tryz.prog 336 = some (some (.nilFunc)) := by kernel_rfl
theorem ty337 : oneFact Tryz.prog 337 = some (false, 1) := by kernel_rfl
theorem zero337 : zeroFact Tryz.prog 337 = some (some (.nilFunc)) := by kernel_rfl
theorem ty338 : oneFact Tryz.prog 338 = some (false, 1) := by kernel_rfl
theorem zero338 : zeroFact Tryz.prog 338 = some (some (.nilFunc)) := by kernel_rfl
theorem ty339 : oneFact Tryz.prog 339 = some (false, 1) := by kernel_rfl
theorem zero339 : zeroFact Tryz.prog 339 = some (some (.nilFunc)) := by kernel_rfl
theorem ty340 : oneFact Tryz.prog 340 = some (false, 1) := by kernel_rfl
theorem zero340 : zeroFact Tryz.prog 340 = some (some (.nilFunc)) := by kernel_rfl
theorem ty341 : oneFact Tryz.prog 341 = some (false, 1) := by kernel_rfl
theorem zero341 : zeroFact Tryz.prog 341 = some (some (.nilFunc)) := by kernel_rfl
theorem ty342 : oneFact Tryz.prog 342 = some (false, 1) := by kernel_rfl
theorem zero342 : zeroFact Tryz.prog 342 = some (some (.nilFunc)) := by kernel_rfl
theorem ty343 : oneFact Tryz.prog 343 = some (false, 1) := by kernel_rfl
theorem zero343 : zeroFact Tryz.prog 343 = some (some (.nilFunc)) := by kernel_rfl
theorem ty344 : oneFact Tryz.prog 344 = some (false, 1) := by kernel_rfl
theorem zero344 : zeroFact Tryz.prog 344 = some (some (.nilFunc)) := by kernel_rfl
theorem ty345 : oneFact Tryz.prog 345 = some (false, 1) := by kernel_rfl
theorem zero345 : zeroFact Tryz.prog 345 = some (some (.nilFunc)) := by kernel_rfl
theorem ty346 : oneFact Tryz.prog 346 = some (false, 1) := by kernel_rfl
theorem zero346 : zeroFact Tryz.prog 346 = some (some (.nilFunc)) := by kernel_rfl
theorem ty348 : oneFact Tryz.prog 348 = some (false, 1) := by kernel_rfl
theorem zero348 : zeroFact Tryz.prog 348 = some (some (.nilFunc)) := by kernel_rfl
theorem ty349 : oneFact Tryz.prog 349 = some (false, 1) := by kernel_rfl
theorem zero349 : zeroFact Tryz.prog 349 = some (some (.nilFunc)) := by kernel_rfl
theorem ty350 : oneFact Tryz.prog 350 = some (false, 1) := by kernel_rfl
theorem zero350 : zeroFact Tryz.prog 350 = some (some (.pointer none)) := by kernel_rfl
theorem und350 : Tryz.prog.underlying 350 = some (.pointer 323) := by kernel_rfl
theorem ty351 : oneFact Tryz.prog 351 = some (false, 1) := by kernel_rfl
theorem zero351 : zeroFact Tryz.prog 351 = some (some (.nilFunc)) := by kernel_rfl
theorem ty352 : oneFact Tryz.prog 352 = some (false, 1) := by kernel_rfl
theorem zero352 : zeroFact Tryz.prog 352 = some (some (.pointer none)) := by kernel_rfl
theorem und352 : Tryz.prog.underlying 352 = some (.pointer 321) := by kernel_rfl
theorem ty353 : oneFact Tryz.prog 353 = some (true, 16) := by kernel_rfl
theorem zero353 : zeroFact Tryz.prog 353 = some (some (.agg [.nilFunc, .nilFunc, .nilFunc, .nilFunc, .nilFunc, .nilFunc, .nilFunc, .nilFunc, .nilFunc, .nilFunc, .nilFunc, .nilFunc, .nilFunc, .nilFunc, .nilFunc, .nilFunc].toArray)) := by kernel_rfl
theorem ty354 : oneFact Tryz.prog 354 = some (false, 1) := by kernel_rfl
theorem zero354 : zeroFact Tryz.prog 354 = some (some (.nilFunc)) := by kernel_rfl
theorem ty355 : oneFact Tryz.prog 355 = some (false, 1) := by kernel_rfl
theorem zero355 : zeroFact Tryz.prog 355 = some (some (.nilFunc)) := by kernel_rfl
theorem ty356 : oneFact Tryz.prog 356 = some (false, 1) := by kernel_rfl
theorem zero356 : zeroFact Tryz.prog 356 = some (some (.nilFunc)) := by kernel_rfl
theorem ty357 : oneFact Tryz.prog 357 = some (false, 1) := by kernel_rfl
theorem zero357 : zeroFact Tryz.prog 357 = some (some (.nilFunc)) := by kernel_rfl
theorem ty358 : oneFact Tryz.prog 358 = some (false, 1) := by kernel_rfl
theorem zero358 : zeroFact Tryz.prog 358 = some (some (.nilFunc)) := by kernel_rfl
theorem ty359 : oneFact Tryz.prog 359 = some (false, 1) := by kernel_rfl
theorem zero359 : zeroFact Tryz.prog 359 = some (some (.nilFunc)) := by kernel_rfl
theorem ty360 : oneFact Tryz.prog 360 = some (false, 1) := by kernel_rfl
theorem zero360 : zeroFact Tryz.prog 360 = some (some (.nilFunc)) := by kernel_rfl
theorem ty361 : oneFact Tryz.prog 361 = some (false, 1) := by kernel_rfl
theorem zero361 : zeroFact Tryz.prog 361 = some (some (.nilFunc)) := by kernel_rfl
theorem ty362 : oneFact Tryz.prog 362 = some (false, 1) := by kernel_rfl
theorem zero362 : zeroFact Tryz.prog 362 = some (some (.nilFunc)) := by kernel_rfl
theorem ty363 : oneFact Tryz.prog 363 = some (false, 1) := by kernel_rfl
theorem zero363 : zeroFact Tryz.prog 363 = some (some (.nilFunc)) := by kernel_rfl
theorem ty364 : oneFact Tryz.prog 364 = some (false, 1) := by kernel_rfl
theorem zero364 : zeroFact Tryz.prog 364 = some (some (.nilFunc)) := by kernel_rfl
theorem ty365 : oneFact Tryz.prog 365 = some (false, 1) := by kernel_rfl
theorem zero365 : zeroFact Tryz.prog 365 = some (some (.nilFunc)) := by kernel_rfl
theorem ty366 : oneFact Tryz.prog 366 = some (false, 1) := by kernel_rfl
theorem zero366 : zeroFact Tryz.prog 366 = some (some (.nilFunc)) := by kernel_rfl
theorem ty367 : oneFact Tryz.prog 367 = some (false, 1) := by kernel_rfl
theorem zero367 : zeroFact Tryz.prog 367 = some (some (.nilFunc)) := by kernel_rfl
theorem ty368 : oneFact Tryz.prog 368 = some (true, 15) := by kernel_rfl
theorem zero368 : zeroFact Tryz.prog 368 = some (some (.agg [.string ⟨#[]⟩, .string ⟨#[]⟩, .string ⟨#[]⟩, .string ⟨#[]⟩, .string ⟨#[]⟩, .string ⟨#[]⟩, .string ⟨#[]⟩, .string ⟨#[]⟩, .string ⟨#[]⟩, .string ⟨#[]⟩, .string ⟨#[]⟩, .string ⟨#[]⟩, .string ⟨#[]⟩, .string ⟨#[]⟩, .string ⟨#[]⟩].toArray)) := by kernel_rfl
theorem ty369 : oneFact Tryz.prog 369 = some (false, 1) := by kernel_rfl
theorem zero369 : zeroFact Tryz.prog 369 = some (some (.nilFunc)) := by kernel_rfl
theorem ty370 : oneFact Tryz.prog 370 = some (false, 1) := by kernel_rfl
theorem zero370 : zeroFact Tryz.prog 370 = some (some (.nilFunc)) := by kernel_rfl
theorem ty371 : oneFact Tryz.prog 371 = some (false, 1) := by kernel_rfl
theorem zero371 : zeroFact Tryz.prog 371 = some (some (.nilFunc)) := by kernel_rfl
theorem ty372 : oneFact Tryz.prog 372 = some (false, 1) := by kernel_rfl
theorem zero372 : zeroFact Tryz.prog 372 = some (some (.nilFunc)) := by kernel_rfl
theorem ty374 : oneFact Tryz.prog 374 = some (false, 1) := by kernel_rfl
theorem zero374 : zeroFact Tryz.prog 374 = some (some (.nilFunc)) := by kernel_rfl
theorem ty375 : oneFact Tryz.prog 375 = some (false, 1) := by kernel_rfl
theorem zero375 : zeroFact Tryz.prog 375 = some (some (.nilFunc)) := by kernel_rfl
theorem ty376 : oneFact Tryz.prog 376 = some (false, 1) := by kernel_rfl
theorem zero376 : zeroFact Tryz.prog 376 = some (some (.int .u64 0)) := by kernel_rfl
theorem und376 : Tryz.prog.underlying 376 = some (.int .u64) := by kernel_rfl
theorem ty377 : oneFact Tryz.prog 377 = some (false, 1) := by kernel_rfl
theorem zero377 : zeroFact Tryz.prog 377 = some (some (.int .u32 0)) := by kernel_rfl
theorem und377 : Tryz.prog.underlying 377 = some (.int .u32) := by kernel_rfl
theorem ty379 : oneFact Tryz.prog 379 = some (false, 1) := by kernel_rfl
theorem zero379 : zeroFact Tryz.prog 379 = some (some (.nilFunc)) := by kernel_rfl
theorem ty380 : oneFact Tryz.prog 380 = some (true, 256) := by kernel_rfl
theorem zero380 : zeroFact Tryz.prog 380 = some (some (.agg [.int .u8 0, .int .u8 0, .int .u8 0, .int .u8 0, .int .u8 0, .int .u8 0, .int .u8 0, .int .u8 0, .int .u8 0, .int .u8 0, .int .u8 0, .int .u8 0, .int .u8 0, .int .u8 0, .int .u8 0, .int .u8 0, .int .u8 0, .int .u8 0, .int .u8 0, .int .u8 0, .int .u8 0, .int .u8 0, .int .u8 0, .int .u8 0, .int .u8 0, .int .u8 0, .int .u8 0, .int .u8 0, .int .u8 0, .int .u8 0, .int .u8 0, .int .u8 0, .int .u8 0, .int .u8 0, .int .u8 0, .int .u8 0, .int .u8 0, .int .u8 0, .int .u8 0, .int .u8 0, .int .u8 0, .int .u8 0, .int .u8 0, .int .u8 0, .int .u8 0, .int .u8 0, .int .u8 0, .int .u8 0, .int .u8 0, .int .u8 0, .int .u8 0, .int .u8 0, .int .u8 0, .int .u8 0, .int .u8 0, .int .u8 0, .int .u8 0, .int .u8 0, .int .u8 0, .int .u8 0, .int .u8 0, .int .u8 0, .int .u8 0, .int .u8 0, .int .u8 0, .int .u8 0, .int .u8 0, .int .u8 0, .int .u8 0, .int .u8 0, .int .u8 0, .int .u8 0, .int .u8 0, .int .u8 0, .int .u8 0, .int .u8 0, .int .u8 0, .int .u8 0, .int .u8 0, .int .u8 0, .int .u8 0, .int .u8 0, .int .u8 0, .int .u8 0, .int .u8 0, .int .u8 0, .int .u8 0, .int .u8 0, .int .u8 0, .int .u8 0, .int .u8 0, .int .u8 0, .int .u8 0, .int .u8 0, .int .u8 0, .int .u8 0, .int .u8 0, .int .u8 0, .int .u8 0, .int .u8 0, .int .u8 0, .int .u8 0, .int .u8 0, .int .u8 0, .int .u8 0, .int .u8 0, .int .u8 0, .int .u8 0, .int .u8 0, .int .u8 0, .int .u8 0, .int .u8 0, .int .u8 0, .int .u8 0, .int .u8 0, .int .u8 0, .int .u8 0, .int .u8 0, .int .u8 0, .int .u8 0, .int .u8 0, .int .u8 0, .int .u8 0, .int .u8 0, .int .u8 0, .int .u8 0, .int .u8 0, .int .u8 0, .int .u8 0, .int .u8 0, .int .u8 0, .int .u8 0, .int .u8 0, .int .u8 0, .int .u8 0, .int .u8 0, .int .u8 0, .int .u8 0, .int .u8 0, .int .u8 0, .int .u8 0, .int .u8 0, .int .u8 0, .int .u8 0, .int .u8 0, .int .u8 0, .int .u8 0, .int .u8 0, .int .u8 0, .int .u8 0, .int .u8 0, .int .u8 0, .int .u8 0, .int .u8 0, .int .u8 0, .int .u8 0, .int .u8 0, .int .u8 0, .int .u8 0, .int .u8 0, .int .u8 0, .int .u8 0, .int .u8 0, .int .u8 0, .int .u8 0, .int .u8 0, .int .u8 0, .int .u8 0, .int .u8 0, .int .u8 0, .int .u8 0, .int .u8 0, .int .u8 0, .int .u8 0, .int .u8 0, .int .u8 0, .int .u8 0, .int .u8 0, .int .u8 0, .int .u8 0, .int .u8 0, .int .u8 0, .int .u8 0, .int .u8 0, .int .u8 0, .int .u8 0, .int .u8 0, .int .u8 0, .int .u8 0, .int .u8 0, .int .u8 0, .int .u8 0, .int .u8 0, .int .u8 0, .int .u8 0, .int .u8 0, .int .u8 0, .int .u8 0, .int .u8 0, .int .u8 0, .int .u8 0, .int .u8 0, .int .u8 0, .int .u8 0, .int .u8 0, .int .u8 0, .int .u8 0, .int .u8 0, .int .u8 0, .int .u8 0, .int .u8 0, .int .u8 0, .int .u8 0, .int .u8 0, .int .u8 0, .int .u8 0, .int .u8 0, .int .u8 0, .int .u8 0, .int .u8 0, .int .u8 0, .int .u8 0, .int .u8 0, .int .u8 0, .int .u8 0, .int .u8 0, .int .u8 0, .int .u8 0, .int .u8 0, .int .u8 0, .int .u8 0, .int .u8 0, .int .u8 0, .int .u8 0, .int .u8 0, .int .u8 0, .int .u8 0, .int .u8 0, .int .u8 0, .int .u8 0, .int .u8 0, .int .u8 0, .int .u8 0, .int .u8 0, .int .u8 0, .int .u8 0, .int .u8 0, .int .u8 0, .int .u8 0, .int .u8 0, .int .u8 0, .int .u8 0, .int .u8 0, .int .u8 0, .int .u8 0, .int .u8 0].toArray)) := by kernel_rfl
theorem ty381 : oneFact Tryz.prog 381 = some (true, 2) := by kernel_rfl
theorem fld381_0 : fieldFact Tryz.prog 381 0 = some (0, some true) := by kernel_rfl
theorem fld381_1 : fieldFact Tryz.prog 381 1 = some (1, some true) := by kernel_rfl
theorem zero381 : zeroFact Tryz.prog 381 = some (some (.agg [.int .u8 0, .int .u8 0].toArray)) := by kernel_rfl
theorem ty382 : oneFact Tryz.prog 382 = some (true, 2) := by kernel_rfl
theorem fld382_0 : fieldFact Tryz.prog 382 0 = some (0, some true) := by kernel_rfl
theorem fld382_1 : fieldFact Tryz.prog 382 1 = some (1, some true) := by kernel_rfl
theorem zero382 : zeroFact Tryz.prog 382 = some (some (.agg [.int .u8 0, .int .u8 0].toArray)) := by kernel_rfl
theorem ty383 : oneFact Tryz.prog 383 = some (true, 32) := by kernel_rfl
theorem zero383 : zeroFact Tryz.prog 383 = some (some (.agg [.int .u8 0, .int .u8 0, .int .u8 0, .int .u8 0, .int .u8 0, .int .u8 0, .int .u8 0, .int .u8 0, .int .u8 0, .int .u8 0, .int .u8 0, .int .u8 0, .int .u8 0, .int .u8 0, .int .u8 0, .int .u8 0, .int .u8 0, .int .u8 0, .int .u8 0, .int .u8 0, .int .u8 0, .int .u8 0, .int .u8 0, .int .u8 0, .int .u8 0, .int .u8 0, .int .u8 0, .int .u8 0, .int .u8 0, .int .u8 0, .int .u8 0, .int .u8 0].toArray)) := by kernel_rfl
theorem ty384 : oneFact Tryz.prog 384 = some (true, 4) := by kernel_rfl
theorem fld384_0 : fieldFact Tryz.prog 384 0 = some (0, some true) := by kernel_rfl
theorem fld384_1 : fieldFact Tryz.prog 384 1 = some (1, some true) := by kernel_rfl
theorem fld384_2 : fieldFact Tryz.prog 384 2 = some (2, some true) := by kernel_rfl
theorem fld384_3 : fieldFact Tryz.prog 384 3 = some (3, some true) := by kernel_rfl
theorem zero384 : zeroFact Tryz.prog 384 = some (some (.agg [.pointer none, .pointer none, .pointer none, .string ⟨#[]⟩].toArray)) := by kernel_rfl
theorem ty385 : oneFact Tryz.prog 385 = some (true, 4) := by kernel_rfl
theorem fld385_0 : fieldFact Tryz.prog 385 0 = some (0, some true) := by kernel_rfl
theorem fld385_1 : fieldFact Tryz.prog 385 1 = some (1, some true) := by kernel_rfl
theorem fld385_2 : fieldFact Tryz.prog 385 2 = some (2, some true) := by kernel_rfl
theorem fld385_3 : fieldFact Tryz.prog 385 3 = some (3, some true) := by kernel_rfl
theorem zero385 : zeroFact Tryz.prog 385 = some (some (.agg [.pointer none, .pointer none, .pointer none, .string ⟨#[]⟩].toArray)) := by kernel_rfl
theorem ty386 : oneFact Tryz.prog 386 = some (true, 0) := by kernel_rfl
theorem zero386 : zeroFact Tryz.prog 386 = some (some (.agg [].toArray)) := by kernel_rfl
theorem ty387 : oneFact Tryz.prog 387 = some (true, 0) := by kernel_rfl
theorem zero387 : zeroFact Tryz.prog 387 = some (some (.agg [].toArray)) := by kernel_rfl
theorem ty388 : oneFact Tryz.prog 388 = some (true, 0) := by kernel_rfl
theorem zero388 : zeroFact Tryz.prog 388 = some (some (.agg [].toArray)) := by kernel_rfl
theorem ty389 : oneFact Tryz.prog 389 = some (false, 1) := by kernel_rfl
theorem zero389 : zeroFact Tryz.prog 389 = some (some (.int .u8 0)) := by kernel_rfl
theorem und389 : Tryz.prog.underlying 389 = some (.int .u8) := by kernel_rfl
theorem ty390 : oneFact Tryz.prog 390 = some (false, 1) := by kernel_rfl
theorem zero390 : zeroFact Tryz.prog 390 = some (some (.int .u8 0)) := by kernel_rfl
theorem und390 : Tryz.prog.underlying 390 = some (.int .u8) := by kernel_rfl
theorem ty391 : oneFact Tryz.prog 391 = some (false, 1) := by kernel_rfl
theorem zero391 : zeroFact Tryz.prog 391 = some (some (.nilFunc)) := by kernel_rfl
theorem ty392 : oneFact Tryz.prog 392 = some (false, 1) := by kernel_rfl
theorem zero392 : zeroFact Tryz.prog 392 = some (some (.pointer none)) := by kernel_rfl
theorem und392 : Tryz.prog.underlying 392 = some (.pointer 5) := by kernel_rfl
theorem ty393 : oneFact Tryz.prog 393 = some (false, 1) := by kernel_rfl
theorem zero393 : zeroFact Tryz.prog 393 = some (some (.int .i32 0)) := by kernel_rfl
theorem und393 : Tryz.prog.underlying 393 = some (.int .i32) := by kernel_rfl
theorem ty394 : oneFact Tryz.prog 394 = some (false, 1) := by kernel_rfl
theorem zero394 : zeroFact Tryz.prog 394 = some (some (.int .i32 0)) := by kernel_rfl
theorem und394 : Tryz.prog.underlying 394 = some (.int .i32) := by kernel_rfl
theorem ty395 : oneFact Tryz.prog 395 = some (true, 11) := by kernel_rfl
theorem fld395_0 : fieldFact Tryz.prog 395 0 = some (0, some true) := by kernel_rfl
theorem fld395_1 : fieldFact Tryz.prog 395 1 = some (1, some true) := by kernel_rfl
theorem fld395_2 : fieldFact Tryz.prog 395 2 = some (2, some true) := by kernel_rfl
theorem fld395_3 : fieldFact Tryz.prog 395 3 = some (3, some true) := by kernel_rfl
theorem fld395_4 : fieldFact Tryz.prog 395 4 = some (4, some true) := by kernel_rfl
theorem fld395_5 : fieldFact Tryz.prog 395 5 = some (5, some true) := by kernel_rfl
theorem fld395_6 : fieldFact Tryz.prog 395 6 = some (6, some true) := by kernel_rfl
theorem fld395_7 : fieldFact Tryz.prog 395 7 = some (7, some true) := by kernel_rfl
theorem fld395_8 : fieldFact Tryz.prog 395 8 = some (8, some true) := by kernel_rfl
theorem fld395_9 : fieldFact Tryz.prog 395 9 = some (9, some true) := by kernel_rfl
theorem fld395_10 : fieldFact Tryz.prog 395 10 = some (10, some true) := by kernel_rfl
theorem zero395 : zeroFact Tryz.prog 395 = some (some (.agg [.int .u64 0, .int .u64 0, .int .u32 0, .int .u8 0, .int .u8 0, .int .u8 0, .int .u8 0, .nilFunc, .pointer none, .int .i32 0, .int .i32 0].toArray)) := by kernel_rfl
theorem ty396 : oneFact Tryz.prog 396 = some (true, 11) := by kernel_rfl
theorem fld396_0 : fieldFact Tryz.prog 396 0 = some (0, some true) := by kernel_rfl
theorem fld396_1 : fieldFact Tryz.prog 396 1 = some (1, some true) := by kernel_rfl
theorem fld396_2 : fieldFact Tryz.prog 396 2 = some (2, some true) := by kernel_rfl
theorem fld396_3 : fieldFact Tryz.prog 396 3 = some (3, some true) := by kernel_rfl
theorem fld396_4 : fieldFact Tryz.prog 396 4 = some (4, some true) := by kernel_rfl
theorem fld396_5 : fieldFact Tryz.prog 396 5 = some (5, some true) := by kernel_rfl
theorem fld396_6 : fieldFact Tryz.prog 396 6 = some (6, some true) := by kernel_rfl
theorem fld396_7 : fieldFact Tryz.prog 396 7 = some (7, some true) := by kernel_rfl
theorem fld396_8 : fieldFact Tryz.prog 396 8 = some (8, some true) := by kernel_rfl
theorem fld396_9 : fieldFact Tryz.prog 396 9 = some (9, some true) := by kernel_rfl
theorem fld396_10 : fieldFact Tryz.prog 396 10 = some (10, some true) := by kernel_rfl
theorem zero396 : zeroFact Tryz.prog 396 = some (some (.agg [.int .u64 0, .int .u64 0, .int .u32 0, .int .u8 0, .int .u8 0, .int .u8 0, .int .u8 0, .nilFunc, .pointer none, .int .i32 0, .int .i32 0].toArray)) := by kernel_rfl
theorem ty397 : oneFact Tryz.prog 397 = some (false, 1) := by kernel_rfl
theorem zero397 : zeroFact Tryz.prog 397 = some (some (.pointer none)) := by kernel_rfl
theorem bld172_0_1 (a0 : Int) (a1 : Int) : pr Tryz.prog (Instr.build 172 [(0, .int .i64 a0), (1, .int .i64 a1)].toArray) = some (.agg [.int .i64 a0, .int .i64 a1].toArray) := by kernel_rfl
theorem bld175_0_1_2_3_4 (a0 : ByteArray) (a1 : ByteArray) (a2 : ByteArray) (a3 : ByteArray) (a4 : ByteArray) : pr Tryz.prog (Instr.build 175 [(0, .string a0), (1, .string a1), (2, .string a2), (3, .string a3), (4, .string a4)].toArray) = some (.agg [.string a0, .string a1, .string a2, .string a3, .string a4].toArray) := by kernel_rfl
end Go.Proofs.YtndcifakbhggdaaGreatDoor
