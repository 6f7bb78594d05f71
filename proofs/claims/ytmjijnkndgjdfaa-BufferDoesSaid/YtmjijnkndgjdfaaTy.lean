/-
  Closed facts on the types of this seat, each checked by the kernel.
-/
import Derived.Test.YtmjijnkndgjdfaaProg
import Derived.Test.YtmjijnkndgjdfaaFw10
import Derived.KernelRfl
namespace Go.Proofs.Ytmjijnkndgjdfaa
open Go.Fw

theorem ty1 : oneFact Try.prog 1 = some (false, 1) := by kernel_rfl
theorem zero1 : zeroFact Try.prog 1 = some (some (.nilFunc)) := by kernel_rfl
theorem ty2 : oneFact Try.prog 2 = some (false, 1) := by kernel_rfl
theorem zero2 : zeroFact Try.prog 2 = some (some (.int .i64 0)) := by kernel_rfl
theorem und2 : Try.prog.underlying 2 = some (.int .i64) := by kernel_rfl
theorem ty3 : oneFact Try.prog 3 = some (false, 1) := by kernel_rfl
theorem zero3 : zeroFact Try.prog 3 = some (some (.int .i64 0)) := by kernel_rfl
theorem und3 : Try.prog.underlying 3 = some (.int .i64) := by kernel_rfl
theorem ty4 : oneFact Try.prog 4 = some (false, 1) := by kernel_rfl
theorem zero4 : zeroFact Try.prog 4 = some (some (.bool false)) := by kernel_rfl
theorem und4 : Try.prog.underlying 4 = some (.bool) := by kernel_rfl
theorem ty5 : oneFact Try.prog 5 = some (false, 1) := by kernel_rfl
theorem zero5 : zeroFact Try.prog 5 = some (some (.int .u8 0)) := by kernel_rfl
theorem und5 : Try.prog.underlying 5 = some (.int .u8) := by kernel_rfl
theorem ty6 : oneFact Try.prog 6 = some (false, 1) := by kernel_rfl
theorem zero6 : zeroFact Try.prog 6 = some (some (.int .u8 0)) := by kernel_rfl
theorem und6 : Try.prog.underlying 6 = some (.int .u8) := by kernel_rfl
theorem ty7 : oneFact Try.prog 7 = some (true, 4) := by kernel_rfl
theorem fld7_0 : fieldFact Try.prog 7 0 = some (0, some true) := by kernel_rfl
theorem fld7_1 : fieldFact Try.prog 7 1 = some (1, some true) := by kernel_rfl
theorem fld7_2 : fieldFact Try.prog 7 2 = some (2, some true) := by kernel_rfl
theorem fld7_3 : fieldFact Try.prog 7 3 = some (3, some true) := by kernel_rfl
theorem zero7 : zeroFact Try.prog 7 = some (some (.agg [.int .i64 0, .int .i64 0, .bool false, .int .u8 0].toArray)) := by kernel_rfl
theorem ty8 : oneFact Try.prog 8 = some (true, 4) := by kernel_rfl
theorem fld8_0 : fieldFact Try.prog 8 0 = some (0, some true) := by kernel_rfl
theorem fld8_1 : fieldFact Try.prog 8 1 = some (1, some true) := by kernel_rfl
theorem fld8_2 : fieldFact Try.prog 8 2 = some (2, some true) := by kernel_rfl
theorem fld8_3 : fieldFact Try.prog 8 3 = some (3, some true) := by kernel_rfl
theorem zero8 : zeroFact Try.prog 8 = some (some (.agg [.int .i64 0, .int .i64 0, .bool false, .int .u8 0].toArray)) := by kernel_rfl
theorem ty9 : oneFact Try.prog 9 = some (false, 1) := by kernel_rfl
theorem zero9 : zeroFact Try.prog 9 = some (some (.string ⟨#[]⟩)) := by kernel_rfl
theorem und9 : Try.prog.underlying 9 = some (.string) := by kernel_rfl
theorem ty10 : oneFact Try.prog 10 = some (false, 1) := by kernel_rfl
theorem zero10 : zeroFact Try.prog 10 = some (some (.string ⟨#[]⟩)) := by kernel_rfl
theorem und10 : Try.prog.underlying 10 = some (.string) := by kernel_rfl
theorem ty11 : oneFact Try.prog 11 = some (false, 1) := by kernel_rfl
theorem zero11 : zeroFact Try.prog 11 = some (some (.string ⟨#[]⟩)) := by kernel_rfl
theorem und11 : Try.prog.underlying 11 = some (.string) := by kernel_rfl
theorem ty12 : oneFact Try.prog 12 = some (false, 1) := by kernel_rfl
theorem zero12 : zeroFact Try.prog 12 = some (some (.int .u64 0)) := by kernel_rfl
theorem und12 : Try.prog.underlying 12 = some (.int .u64) := by kernel_rfl
theorem ty13 : oneFact Try.prog 13 = some (true, 2) := by kernel_rfl
theorem fld13_0 : fieldFact Try.prog 13 0 = some (0, some true) := by kernel_rfl
theorem fld13_1 : fieldFact Try.prog 13 1 = some (1, some true) := by kernel_rfl
theorem zero13 : zeroFact Try.prog 13 = some (some (.agg [.string ⟨#[]⟩, .int .u64 0].toArray)) := by kernel_rfl
theorem ty14 : oneFact Try.prog 14 = some (true, 2) := by kernel_rfl
theorem fld14_0 : fieldFact Try.prog 14 0 = some (0, some true) := by kernel_rfl
theorem fld14_1 : fieldFact Try.prog 14 1 = some (1, some true) := by kernel_rfl
theorem zero14 : zeroFact Try.prog 14 = some (some (.agg [.string ⟨#[]⟩, .int .u64 0].toArray)) := by kernel_rfl
theorem ty15 : oneFact Try.prog 15 = some (false, 1) := by kernel_rfl
theorem zero15 : zeroFact Try.prog 15 = some (some (.pointer none)) := by kernel_rfl
theorem und15 : Try.prog.underlying 15 = some (.pointer 71) := by kernel_rfl
theorem ty16 : oneFact Try.prog 16 = some (false, 1) := by kernel_rfl
theorem zero16 : zeroFact Try.prog 16 = some (some (.pointer none)) := by kernel_rfl
theorem und16 : Try.prog.underlying 16 = some (.pointer 74) := by kernel_rfl
theorem ty17 : oneFact Try.prog 17 = some (false, 1) := by kernel_rfl
theorem zero17 : zeroFact Try.prog 17 = some (some (.pointer none)) := by kernel_rfl
theorem und17 : Try.prog.underlying 17 = some (.pointer 84) := by kernel_rfl
theorem ty18 : oneFact Try.prog 18 = some (true, 1) := by kernel_rfl
theorem fld18_0 : fieldFact Try.prog 18 0 = some (0, some true) := by kernel_rfl
theorem zero18 : zeroFact Try.prog 18 = some (some (.agg [.pointer none].toArray)) := by kernel_rfl
theorem ty19 : oneFact Try.prog 19 = some (true, 1) := by kernel_rfl
theorem fld19_0 : fieldFact Try.prog 19 0 = some (0, some true) := by kernel_rfl
theorem zero19 : zeroFact Try.prog 19 = some (some (.agg [.pointer none].toArray)) := by kernel_rfl
theorem ty20 : oneFact Try.prog 20 = some (false, 1) := by kernel_rfl
theorem zero20 : zeroFact Try.prog 20 = some (some (.nilIface)) := by kernel_rfl
theorem ty21 : oneFact Try.prog 21 = some (false, 1) := by kernel_rfl
theorem zero21 : zeroFact Try.prog 21 = some (some (.int .i32 0)) := by kernel_rfl
theorem und21 : Try.prog.underlying 21 = some (.int .i32) := by kernel_rfl
theorem ty22 : oneFact Try.prog 22 = some (true, 4) := by kernel_rfl
theorem fld22_0 : fieldFact Try.prog 22 0 = some (0, some true) := by kernel_rfl
theorem fld22_1 : fieldFact Try.prog 22 1 = some (1, some true) := by kernel_rfl
theorem fld22_2 : fieldFact Try.prog 22 2 = some (2, some true) := by kernel_rfl
theorem fld22_3 : fieldFact Try.prog 22 3 = some (3, some true) := by kernel_rfl
theorem zero22 : zeroFact Try.prog 22 = some (some (.agg [.int .i64 0, .int .i64 0, .int .i64 0, .int .i64 0].toArray)) := by kernel_rfl
theorem ty23 : oneFact Try.prog 23 = some (true, 4) := by kernel_rfl
theorem fld23_0 : fieldFact Try.prog 23 0 = some (0, some true) := by kernel_rfl
theorem fld23_1 : fieldFact Try.prog 23 1 = some (1, some true) := by kernel_rfl
theorem fld23_2 : fieldFact Try.prog 23 2 = some (2, some true) := by kernel_rfl
theorem fld23_3 : fieldFact Try.prog 23 3 = some (3, some true) := by kernel_rfl
theorem zero23 : zeroFact Try.prog 23 = some (some (.agg [.int .i64 0, .int .i64 0, .int .i64 0, .int .i64 0].toArray)) := by kernel_rfl
theorem ty24 : oneFact Try.prog 24 = some (false, 1) := by kernel_rfl
theorem zero24 : zeroFact Try.prog 24 = some (some (.nilFunc)) := by kernel_rfl
theorem ty25 : oneFact Try.prog 25 = some (false, 1) := by kernel_rfl
theorem zero25 : zeroFact Try.prog 25 = some (some (.nilFunc)) := by kernel_rfl
theorem ty26 : oneFact Try.prog 26 = some (false, 1) := by kernel_rfl
theorem zero26 : zeroFact Try.prog 26 = some (some (.nilFunc)) := by kernel_rfl
theorem ty27 : oneFact Try.prog 27 = some (false, 1) := by kernel_rfl
theorem sl27 : slFact Try.prog 27 = some (23, 4, 32, some 4) := by kernel_rfl
theorem zero27 : zeroFact Try.prog 27 = some (some (.slice none 0 0)) := by kernel_rfl
theorem ty28 : oneFact Try.prog 28 = some (false, 1) := by kernel_rfl
theorem sl28 : slFact Try.prog 28 = some (3, 1, 8, some 1) := by kernel_rfl
theorem zero28 : zeroFact Try.prog 28 = some (some (.slice none 0 0)) := by kernel_rfl
theorem ty29 : oneFact Try.prog 29 = some (false, 1) := by kernel_rfl
theorem zero29 : zeroFact Try.prog 29 = some (some (.pointer none)) := by kernel_rfl
theorem und29 : Try.prog.underlying 29 = some (.pointer 60) := by kernel_rfl
theorem ty30 : oneFact Try.prog 30 = some (false, 1) := by kernel_rfl
theorem zero30 : zeroFact Try.prog 30 = some (some (.int .i64 0)) := by kernel_rfl
theorem und30 : Try.prog.underlying 30 = some (.int .i64) := by kernel_rfl
theorem ty32 : oneFact Try.prog 32 = some (false, 1) := by kernel_rfl
theorem zero32 : zeroFact Try.prog 32 = some (some (.nilFunc)) := by kernel_rfl
theorem ty33 : oneFact Try.prog 33 = some (false, 1) := by kernel_rfl
theorem zero33 : zeroFact Try.prog 33 = some (some (.nilFunc)) := by kernel_rfl
theorem ty34 : oneFact Try.prog 34 = some (false, 1) := by kernel_rfl
theorem sl34 : slFact Try.prog 34 = some (4, 1, 1, some 1) := by kernel_rfl
theorem zero34 : zeroFact Try.prog 34 = some (some (.slice none 0 0)) := by kernel_rfl
theorem ty35 : oneFact Try.prog 35 = some (false, 1) := by kernel_rfl
theorem zero35 : zeroFact Try.prog 35 = some (some (.nilFunc)) := by kernel_rfl
theorem ty37 : oneFact Try.prog 37 = some (false, 1) := by kernel_rfl
theorem zero37 : zeroFact Try.prog 37 = some (some (.nilFunc)) := by kernel_rfl
theorem ty38 : oneFact Try.prog 38 = some (false, 1) := by kernel_rfl
theorem zero38 : zeroFact Try.prog 38 = some (some (.nilFunc)) := by kernel_rfl
theorem ty39 : oneFact Try.prog 39 = some (false, 1) := by kernel_rfl
theorem zero39 : zeroFact Try.prog 39 = some (some (.nilFunc)) := by kernel_rfl
theorem ty40 : oneFact Try.prog 40 = some (false, 1) := by kernel_rfl
theorem zero40 : zeroFact Try.prog 40 = some (some (.nilFunc)) := by kernel_rfl
theorem ty42 : oneFact Try.prog 42 = some (false, 1) := by kernel_rfl
theorem zero42 : zeroFact Try.prog 42 = some (some (.nilFunc)) := by kernel_rfl
theorem ty43 : oneFact Try.prog 43 = some (false, 1) := by kernel_rfl
theorem zero43 : zeroFact Try.prog 43 = some (some (.nilFunc)) := by kernel_rfl
theorem ty44 : oneFact Try.prog 44 = some (false, 1) := by kernel_rfl
theorem sl44 : slFact Try.prog 44 = some (46, 6, 48, some 6) := by kernel_rfl
theorem zero44 : zeroFact Try.prog 44 = some (some (.slice none 0 0)) := by kernel_rfl
theorem ty45 : oneFact Try.prog 45 = some (true, 6) := by kernel_rfl
theorem fld45_0 : fieldFact Try.prog 45 0 = some (0, some true) := by kernel_rfl
theorem fld45_1 : fieldFact Try.prog 45 1 = some (1, some true) := by kernel_rfl
theorem fld45_2 : fieldFact Try.prog 45 2 = some (5, some true) := by kernel_rfl
theorem zero45 : zeroFact Try.prog 45 = some (some (.agg [.int .i64 0, .int .i64 0, .int .i64 0, .int .i64 0, .int .i64 0, .int .i64 0].toArray)) := by kernel_rfl
theorem ty46 : oneFact Try.prog 46 = some (true, 6) := by kernel_rfl
theorem fld46_0 : fieldFact Try.prog 46 0 = some (0, some true) := by kernel_rfl
theorem fld46_1 : fieldFact Try.prog 46 1 = some (1, some true) := by kernel_rfl
theorem fld46_2 : fieldFact Try.prog 46 2 = some (5, some true) := by kernel_rfl
theorem zero46 : zeroFact Try.prog 46 = some (some (.agg [.int .i64 0, .int .i64 0, .int .i64 0, .int .i64 0, .int .i64 0, .int .i64 0].toArray)) := by kernel_rfl
theorem ty47 : oneFact Try.prog 47 = some (false, 1) := by kernel_rfl
theorem zero47 : zeroFact Try.prog 47 = some (some (.nilFunc)) := by kernel_rfl
theorem ty48 : oneFact Try.prog 48 = some (false, 1) := by kernel_rfl
theorem zero48 : zeroFact Try.prog 48 = some (some (.pointer none)) := by kernel_rfl
theorem und48 : Try.prog.underlying 48 = some (.pointer 55) := by kernel_rfl
theorem ty50 : oneFact Try.prog 50 = some (false, 1) := by kernel_rfl
theorem zero50 : zeroFact Try.prog 50 = some (some (.nilFunc)) := by kernel_rfl
theorem ty51 : oneFact Try.prog 51 = some (false, 1) := by kernel_rfl
theorem zero51 : zeroFact Try.prog 51 = some (some (.nilFunc)) := by kernel_rfl
theorem ty52 : oneFact Try.prog 52 = some (false, 1) := by kernel_rfl
theorem zero52 : zeroFact Try.prog 52 = some (some (.nilFunc)) := by kernel_rfl
theorem ty53 : oneFact Try.prog 53 = some (false, 1) := by kernel_rfl
theorem zero53 : zeroFact Try.prog 53 = some (some (.nilFunc)) := by kernel_rfl
theorem ty54 : oneFact Try.prog 54 = some (true, 2) := by kernel_rfl
theorem fld54_0 : fieldFact Try.prog 54 0 = some (0, some true) := by kernel_rfl
theorem fld54_1 : fieldFact Try.prog 54 1 = some (1, some true) := by kernel_rfl
theorem zero54 : zeroFact Try.prog 54 = some (some (.agg [.int .i64 0, .slice none 0 0].toArray)) := by kernel_rfl
theorem ty55 : oneFact Try.prog 55 = some (true, 2) := by kernel_rfl
theorem fld55_0 : fieldFact Try.prog 55 0 = some (0, some true) := by kernel_rfl
theorem fld55_1 : fieldFact Try.prog 55 1 = some (1, some true) := by kernel_rfl
theorem zero55 : zeroFact Try.prog 55 = some (some (.agg [.int .i64 0, .slice none 0 0].toArray)) := by kernel_rfl
theorem ty56 : oneFact Try.prog 56 = some (false, 1) := by kernel_rfl
theorem zero56 : zeroFact Try.prog 56 = some (some (.nilFunc)) := by kernel_rfl
theorem ty57 : oneFact Try.prog 57 = some (false, 1) := by kernel_rfl
theorem zero57 : zeroFact Try.prog 57 = some (some (.nilFunc)) := by kernel_rfl
theorem ty58 : oneFact Try.prog 58 = some (false, 1) := by kernel_rfl
theorem zero58 : zeroFact Try.prog 58 = some (some (.nilFunc)) := by kernel_rfl
theorem ty59 : oneFact Try.prog 59 = some (true, 2) := by kernel_rfl
theorem fld59_0 : fieldFact Try.prog 59 0 = some (0, some true) := by kernel_rfl
theorem fld59_1 : fieldFact Try.prog 59 1 = some (1, some true) := by kernel_rfl
theorem zero59 : zeroFact Try.prog 59 = some (some (.agg [.int .i64 0, .slice none 0 0].toArray)) := by kernel_rfl
theorem ty60 : oneFact Try.prog 60 = some (true, 2) := by kernel_rfl
theorem fld60_0 : fieldFact Try.prog 60 0 = some (0, some true) := by kernel_rfl
theorem fld60_1 : fieldFact Try.prog 60 1 = some (1, some true) := by kernel_rfl
theorem zero60 : zeroFact Try.prog 60 = some (some (.agg [.int .i64 0, .slice none 0 0].toArray)) := by kernel_rfl
theorem ty61 : oneFact Try.prog 61 = some (false, 1) := by kernel_rfl
theorem zero61 : zeroFact Try.prog 61 = some (some (.nilFunc)) := by kernel_rfl
theorem ty62 : oneFact Try.prog 62 = some (false, 1) := by kernel_rfl
theorem zero62 : zeroFact Try.prog 62 = some (some (.nilFunc)) := by kernel_rfl
theorem ty63 : oneFact Try.prog 63 = some (false, 1) := by kernel_rfl
theorem zero63 : zeroFact Try.prog 63 = some (some (.nilFunc)) := by kernel_rfl
theorem ty64 : oneFact Try.prog 64 = some (false, 1) := by kernel_rfl
theorem zero64 : zeroFact Try.prog 64 = some (some (.nilFunc)) := by kernel_rfl
theorem ty65 : oneFact Try.prog 65 = some (false, 1) := by kernel_rfl
theorem zero65 : zeroFact Try.prog 65 = some (some (.nilFunc)) := by kernel_rfl
theorem ty66 : oneFact Try.prog 66 = some (false, 1) := by kernel_rfl
theorem zero66 : zeroFact Try.prog 66 = some (some (.nilFunc)) := by kernel_rfl
theorem ty67 : oneFact Try.prog 67 = some (false, 1) := by kernel_rfl
theorem zero67 : zeroFact Try.prog 67 = some (some (.nilFunc)) := by kernel_rfl
theorem ty68 : oneFact Try.prog 68 = some (false, 1) := by kernel_rfl
theorem zero68 : zeroFact Try.prog 68 = some (some (.nilFunc)) := by kernel_rfl
theorem ty69 : oneFact Try.prog 69 = some (false, 1) := by kernel_rfl
theorem zero69 : zeroFact Try.prog 69 = some (some (.nilFunc)) := by kernel_rfl
theorem ty70 : oneFact Try.prog 70 = some (true, 4) := by kernel_rfl
theorem fld70_0 : fieldFact Try.prog 70 0 = some (0, some true) := by kernel_rfl
theorem fld70_1 : fieldFact Try.prog 70 1 = some (1, some true) := by kernel_rfl
theorem fld70_2 : fieldFact Try.prog 70 2 = some (2, some true) := by kernel_rfl
theorem fld70_3 : fieldFact Try.prog 70 3 = some (3, some true) := by kernel_rfl
theorem zero70 : zeroFact Try.prog 70 = some (some (.agg [.pointer none, .pointer none, .pointer none, .string ⟨#[]⟩].toArray)) := by kernel_rfl
theorem ty71 : oneFact Try.prog 71 = some (true, 4) := by kernel_rfl
theorem fld71_0 : fieldFact Try.prog 71 0 = some (0, some true) := by kernel_rfl
theorem fld71_1 : fieldFact Try.prog 71 1 = some (1, some true) := by kernel_rfl
theorem fld71_2 : fieldFact Try.prog 71 2 = some (2, some true) := by kernel_rfl
theorem fld71_3 : fieldFact Try.prog 71 3 = some (3, some true) := by kernel_rfl
theorem zero71 : zeroFact Try.prog 71 = some (some (.agg [.pointer none, .pointer none, .pointer none, .string ⟨#[]⟩].toArray)) := by kernel_rfl
theorem ty72 : oneFact Try.prog 72 = some (true, 0) := by kernel_rfl
theorem zero72 : zeroFact Try.prog 72 = some (some (.agg [].toArray)) := by kernel_rfl
theorem ty73 : oneFact Try.prog 73 = some (true, 0) := by kernel_rfl
theorem zero73 : zeroFact Try.prog 73 = some (some (.agg [].toArray)) := by kernel_rfl
theorem ty74 : oneFact Try.prog 74 = some (true, 0) := by kernel_rfl
theorem zero74 : zeroFact Try.prog 74 = some (some (.agg [].toArray)) := by kernel_rfl
theorem ty75 : oneFact Try.prog 75 = some (false, 1) := by kernel_rfl
theorem zero75 : zeroFact Try.prog 75 = some (some (.nilFunc)) := by kernel_rfl
theorem ty76 : oneFact Try.prog 76 = some (false, 1) := by kernel_rfl
theorem zero76 : zeroFact Try.prog 76 = some (some (.int .u32 0)) := by kernel_rfl
theorem und76 : Try.prog.underlying 76 = some (.int .u32) := by kernel_rfl
theorem ty77 : oneFact Try.prog 77 = some (false, 1) := by kernel_rfl
theorem zero77 : zeroFact Try.prog 77 = some (some (.int .u8 0)) := by kernel_rfl
theorem und77 : Try.prog.underlying 77 = some (.int .u8) := by kernel_rfl
theorem ty78 : oneFact Try.prog 78 = some (false, 1) := by kernel_rfl
theorem zero78 : zeroFact Try.prog 78 = some (some (.int .u8 0)) := by kernel_rfl
theorem und78 : Try.prog.underlying 78 = some (.int .u8) := by kernel_rfl
theorem ty79 : oneFact Try.prog 79 = some (false, 1) := by kernel_rfl
theorem zero79 : zeroFact Try.prog 79 = some (some (.nilFunc)) := by kernel_rfl
theorem ty80 : oneFact Try.prog 80 = some (false, 1) := by kernel_rfl
theorem zero80 : zeroFact Try.prog 80 = some (some (.pointer none)) := by kernel_rfl
theorem und80 : Try.prog.underlying 80 = some (.pointer 5) := by kernel_rfl
theorem ty81 : oneFact Try.prog 81 = some (false, 1) := by kernel_rfl
theorem zero81 : zeroFact Try.prog 81 = some (some (.int .i32 0)) := by kernel_rfl
theorem und81 : Try.prog.underlying 81 = some (.int .i32) := by kernel_rfl
theorem ty82 : oneFact Try.prog 82 = some (false, 1) := by kernel_rfl
theorem zero82 : zeroFact Try.prog 82 = some (some (.int .i32 0)) := by kernel_rfl
theorem und82 : Try.prog.underlying 82 = some (.int .i32) := by kernel_rfl
theorem ty83 : oneFact Try.prog 83 = some (true, 11) := by kernel_rfl
theorem fld83_0 : fieldFact Try.prog 83 0 = some (0, some true) := by kernel_rfl
theorem fld83_1 : fieldFact Try.prog 83 1 = some (1, some true) := by kernel_rfl
theorem fld83_2 : fieldFact Try.prog 83 2 = some (2, some true) := by kernel_rfl
theorem fld83_3 : fieldFact Try.prog 83 3 = some (3, some true) := by kernel_rfl
theorem fld83_4 : fieldFact Try.prog 83 4 = some (4, some true) := by kernel_rfl
theorem fld83_5 : fieldFact Try.prog 83 5 = some (5, some true) := by kernel_rfl
theorem fld83_6 : fieldFact Try.prog 83 6 = some (6, some true) := by kernel_rfl
theorem fld83_7 : fieldFact Try.prog 83 7 = some (7, some true) := by kernel_rfl
theorem fld83_8 : fieldFact Try.prog 83 8 = some (8, some true) := by kernel_rfl
theorem fld83_9 : fieldFact Try.prog 83 9 = some (9, some true) := by kernel_rfl
theorem fld83_10 : fieldFact Try.prog 83 10 = some (10, some true) := by kernel_rfl
theorem zero83 : zeroFact Try.prog 83 = some (some (.agg [.int .u64 0, .int .u64 0, .int .u32 0, .int .u8 0, .int .u8 0, .int .u8 0, .int .u8 0, .nilFunc, .pointer none, .int .i32 0, .int .i32 0].toArray)) := by kernel_rfl
theorem ty84 : oneFact Try.prog 84 = some (true, 11) := by kernel_rfl
theorem fld84_0 : fieldFact Try.prog 84 0 = some (0, some true) := by kernel_rfl
theorem fld84_1 : fieldFact Try.prog 84 1 = some (1, some true) := by kernel_rfl
theorem fld84_2 : fieldFact Try.prog 84 2 = some (2, some true) := by kernel_rfl
theorem fld84_3 : fieldFact Try.prog 84 3 = some (3, some true) := by kernel_rfl
theorem fld84_4 : fieldFact Try.prog 84 4 = some (4, some true) := by kernel_rfl
theorem fld84_5 : fieldFact Try.prog 84 5 = some (5, some true) := by kernel_rfl
theorem fld84_6 : fieldFact Try.prog 84 6 = some (6, some true) := by kernel_rfl
theorem fld84_7 : fieldFact Try.prog 84 7 = some (7, some true) := by kernel_rfl
theorem fld84_8 : fieldFact Try.prog 84 8 = some (8, some true) := by kernel_rfl
theorem fld84_9 : fieldFact Try.prog 84 9 = some (9, some true) := by kernel_rfl
theorem fld84_10 : fieldFact Try.prog 84 10 = some (10, some true) := by kernel_rfl
theorem zero84 : zeroFact Try.prog 84 = some (some (.agg [.int .u64 0, .int .u64 0, .int .u32 0, .int .u8 0, .int .u8 0, .int .u8 0, .int .u8 0, .nilFunc, .pointer none, .int .i32 0, .int .i32 0].toArray)) := by kernel_rfl
theorem ty85 : oneFact Try.prog 85 = some (false, 1) := by kernel_rfl
theorem zero85 : zeroFact Try.prog 85 = some (some (.pointer none)) := by kernel_rfl
theorem bld23_  : pr Try.prog (Instr.build 23 [].toArray) = some (.agg [.int .i64 0, .int .i64 0, .int .i64 0, .int .i64 0].toArray) := by kernel_rfl
theorem bld23_0 (a0 : Int) : pr Try.prog (Instr.build 23 [(0, .int .i64 a0)].toArray) = some (.agg [.int .i64 a0, .int .i64 0, .int .i64 0, .int .i64 0].toArray) := by kernel_rfl
theorem bld23_0_1 (a0 : Int) (a1 : Int) : pr Try.prog (Instr.build 23 [(0, .int .i64 a0), (1, .int .i64 a1)].toArray) = some (.agg [.int .i64 a0, .int .i64 a1, .int .i64 0, .int .i64 0].toArray) := by kernel_rfl
theorem bld23_0_1_2_3 (a0 : Int) (a1 : Int) (a2 : Int) (a3 : Int) : pr Try.prog (Instr.build 23 [(0, .int .i64 a0), (1, .int .i64 a1), (2, .int .i64 a2), (3, .int .i64 a3)].toArray) = some (.agg [.int .i64 a0, .int .i64 a1, .int .i64 a2, .int .i64 a3].toArray) := by kernel_rfl
theorem bld23_0_3 (a0 : Int) (a3 : Int) : pr Try.prog (Instr.build 23 [(0, .int .i64 a0), (3, .int .i64 a3)].toArray) = some (.agg [.int .i64 a0, .int .i64 0, .int .i64 0, .int .i64 a3].toArray) := by kernel_rfl
theorem bld55_0 (a0 : Int) : pr Try.prog (Instr.build 55 [(0, .int .i64 a0)].toArray) = some (.agg [.int .i64 a0, .slice none 0 0].toArray) := by kernel_rfl
theorem bld60_0 (a0 : Int) : pr Try.prog (Instr.build 60 [(0, .int .i64 a0)].toArray) = some (.agg [.int .i64 a0, .slice none 0 0].toArray) := by kernel_rfl
theorem bld60_0_1 (a0 : Int) (a1 : Option Addr) (n1 c1 : Nat) : pr Try.prog (Instr.build 60 [(0, .int .i64 a0), (1, .slice a1 n1 c1)].toArray) = some (.agg [.int .i64 a0, .slice a1 n1 c1].toArray) := by kernel_rfl
theorem eqf23 : eqFact Try.prog 23 = some [0, 0, 0, 0] := by kernel_rfl
end Go.Proofs.Ytmjijnkndgjdfaa
