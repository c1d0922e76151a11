/- Facts on the types of the program. -/
import Derived.Test.YteheffakmcpdjaaGreatDoorAmZ
import Derived.Test.YteheffakmcpdjaaGreatDoorProg
set_option linter.unusedSimpArgs false
set_option linter.unusedVariables false
namespace Go.Proofs.Am
open Go Go.RowKit Go.Proofs

theorem TarT_160 : arT Tryz.prog 160 = (some (64, 1)) := by kernel_rfl
theorem TarT_186 : arT Tryz.prog 186 = (some (8, 1)) := by kernel_rfl
theorem TarT_187 : arT Tryz.prog 187 = (some (64, 1)) := by kernel_rfl
theorem TarrOf_186 : arrOf Tryz.prog 186 = (some (8, 172)) := by kernel_rfl
theorem TarrOf_193 : arrOf Tryz.prog 193 = (some (5, 3)) := by kernel_rfl
theorem TelemOf_87 : elemOf Tryz.prog 87 = (some 5) := by kernel_rfl
theorem TflatOf_160 : flatOf Tryz.prog 160 = (some [.bool, .bool, .bool, .bool, .bool, .bool, .bool, .bool, .bool, .bool, .bool, .bool, .bool, .bool, .bool, .bool, .bool, .bool, .bool, .bool, .bool, .bool, .bool, .bool, .bool, .bool, .bool, .bool, .bool, .bool, .bool, .bool, .bool, .bool, .bool, .bool, .bool, .bool, .bool, .bool, .bool, .bool, .bool, .bool, .bool, .bool, .bool, .bool, .bool, .bool, .bool, .bool, .bool, .bool, .bool, .bool, .bool, .bool, .bool, .bool, .bool, .bool, .bool, .bool]) := by kernel_rfl
theorem TflatOf_28 : flatOf Tryz.prog 28 = (some [.int, .int, .int, .int]) := by kernel_rfl
theorem TflatOf_42 : flatOf Tryz.prog 42 = (some [.int, .str]) := by kernel_rfl
theorem TflatOf_78 : flatOf Tryz.prog 78 = (some [.int, .int, .str]) := by kernel_rfl
theorem Tfo_28_0 : fo Tryz.prog 28 0 = (some 0) := by kernel_rfl
theorem Tfo_28_1 : fo Tryz.prog 28 1 = (some 1) := by kernel_rfl
theorem Tfo_28_2 : fo Tryz.prog 28 2 = (some 2) := by kernel_rfl
theorem Tfo_28_3 : fo Tryz.prog 28 3 = (some 3) := by kernel_rfl
theorem Tfo_40_0 : fo Tryz.prog 40 0 = (some 0) := by kernel_rfl
theorem Tfo_40_1 : fo Tryz.prog 40 1 = (some 1) := by kernel_rfl
theorem Tfo_42_0 : fo Tryz.prog 42 0 = (some 0) := by kernel_rfl
theorem Tfo_42_1 : fo Tryz.prog 42 1 = (some 1) := by kernel_rfl
theorem Tfo_44_0 : fo Tryz.prog 44 0 = (some 0) := by kernel_rfl
theorem Tfo_44_1 : fo Tryz.prog 44 1 = (some 1) := by kernel_rfl
theorem Tfo_44_10 : fo Tryz.prog 44 10 = (some 10) := by kernel_rfl
theorem Tfo_44_11 : fo Tryz.prog 44 11 = (some 11) := by kernel_rfl
theorem Tfo_44_2 : fo Tryz.prog 44 2 = (some 2) := by kernel_rfl
theorem Tfo_44_3 : fo Tryz.prog 44 3 = (some 3) := by kernel_rfl
theorem Tfo_44_4 : fo Tryz.prog 44 4 = (some 4) := by kernel_rfl
theorem Tfo_44_5 : fo Tryz.prog 44 5 = (some 5) := by kernel_rfl
theorem Tfo_44_6 : fo Tryz.prog 44 6 = (some 6) := by kernel_rfl
theorem Tfo_44_7 : fo Tryz.prog 44 7 = (some 7) := by kernel_rfl
theorem Tfo_44_8 : fo Tryz.prog 44 8 = (some 8) := by kernel_rfl
theorem Tfo_44_9 : fo Tryz.prog 44 9 = (some 9) := by kernel_rfl
theorem Tfo_49_0 : fo Tryz.prog 49 0 = (some 0) := by kernel_rfl
theorem Tfo_49_1 : fo Tryz.prog 49 1 = (some 4) := by kernel_rfl
theorem Tfo_75_0 : fo Tryz.prog 75 0 = (some 0) := by kernel_rfl
theorem Tfo_75_1 : fo Tryz.prog 75 1 = (some 2) := by kernel_rfl
theorem Tfo_78_0 : fo Tryz.prog 78 0 = (some 0) := by kernel_rfl
theorem Tfo_78_1 : fo Tryz.prog 78 1 = (some 1) := by kernel_rfl
theorem Tfo_78_2 : fo Tryz.prog 78 2 = (some 2) := by kernel_rfl
theorem Tfo_80_0 : fo Tryz.prog 80 0 = (some 0) := by kernel_rfl
theorem Tfo_80_1 : fo Tryz.prog 80 1 = (some 1) := by kernel_rfl
theorem Tfo_80_2 : fo Tryz.prog 80 2 = (some 2) := by kernel_rfl
theorem Tfo_80_3 : fo Tryz.prog 80 3 = (some 3) := by kernel_rfl
theorem Tfo_80_4 : fo Tryz.prog 80 4 = (some 4) := by kernel_rfl
theorem Tfo_80_5 : fo Tryz.prog 80 5 = (some 5) := by kernel_rfl
theorem Tfo_86_0 : fo Tryz.prog 86 0 = (some 0) := by kernel_rfl
theorem Tfo_86_1 : fo Tryz.prog 86 1 = (some 1) := by kernel_rfl
theorem Tfo_89_0 : fo Tryz.prog 89 0 = (some 0) := by kernel_rfl
theorem Tfo_89_1 : fo Tryz.prog 89 1 = (some 1) := by kernel_rfl
theorem Tfo_89_2 : fo Tryz.prog 89 2 = (some 5) := by kernel_rfl
theorem TisBytes_87 : isBytes Tryz.prog 87 = true := by kernel_rfl
theorem TisSlice_195 : isSlice Tryz.prog 195 = true := by kernel_rfl
theorem TisSlice_22 : isSlice Tryz.prog 22 = true := by kernel_rfl
theorem TisSlice_31 : isSlice Tryz.prog 31 = true := by kernel_rfl
theorem TisSlice_33 : isSlice Tryz.prog 33 = true := by kernel_rfl
theorem TisSlice_38 : isSlice Tryz.prog 38 = true := by kernel_rfl
theorem TisSlice_70 : isSlice Tryz.prog 70 = true := by kernel_rfl
theorem TisSlice_72 : isSlice Tryz.prog 72 = true := by kernel_rfl
theorem TisSlice_87 : isSlice Tryz.prog 87 = true := by kernel_rfl
theorem TisSomeT_149 : isSomeT Tryz.prog 149 = true := by kernel_rfl
theorem TisSomeT_172 : isSomeT Tryz.prog 172 = true := by kernel_rfl
theorem TisSomeT_174 : isSomeT Tryz.prog 174 = true := by kernel_rfl
theorem TisSomeT_3 : isSomeT Tryz.prog 3 = true := by kernel_rfl
theorem TisSomeT_5 : isSomeT Tryz.prog 5 = true := by kernel_rfl
theorem TisStr_9 : isStr Tryz.prog 9 = true := by kernel_rfl
theorem TkindOf_149 : kindOf Tryz.prog 149 = (some .u64) := by kernel_rfl
theorem TkindOf_172 : kindOf Tryz.prog 172 = (some .u32) := by kernel_rfl
theorem TkindOf_174 : kindOf Tryz.prog 174 = (some .u64) := by kernel_rfl
theorem TkindOf_3 : kindOf Tryz.prog 3 = (some .i64) := by kernel_rfl
theorem TkindOf_5 : kindOf Tryz.prog 5 = (some .u8) := by kernel_rfl
theorem TldT_109 : ldT Tryz.prog 109 = (some none) := by kernel_rfl
theorem TldT_160 : ldT Tryz.prog 160 = (some (some 64)) := by kernel_rfl
theorem TldT_172 : ldT Tryz.prog 172 = (some none) := by kernel_rfl
theorem TldT_186 : ldT Tryz.prog 186 = (some (some 8)) := by kernel_rfl
theorem TldT_187 : ldT Tryz.prog 187 = (some (some 64)) := by kernel_rfl
theorem TldT_22 : ldT Tryz.prog 22 = (some none) := by kernel_rfl
theorem TldT_28 : ldT Tryz.prog 28 = (some (some 4)) := by kernel_rfl
theorem TldT_3 : ldT Tryz.prog 3 = (some none) := by kernel_rfl
theorem TldT_31 : ldT Tryz.prog 31 = (some none) := by kernel_rfl
theorem TldT_38 : ldT Tryz.prog 38 = (some none) := by kernel_rfl
theorem TldT_40 : ldT Tryz.prog 40 = (some (some 2)) := by kernel_rfl
theorem TldT_42 : ldT Tryz.prog 42 = (some (some 2)) := by kernel_rfl
theorem TldT_44 : ldT Tryz.prog 44 = (some (some 13)) := by kernel_rfl
theorem TldT_49 : ldT Tryz.prog 49 = (some (some 5)) := by kernel_rfl
theorem TldT_5 : ldT Tryz.prog 5 = (some none) := by kernel_rfl
theorem TldT_75 : ldT Tryz.prog 75 = (some (some 3)) := by kernel_rfl
theorem TldT_78 : ldT Tryz.prog 78 = (some (some 3)) := by kernel_rfl
theorem TldT_80 : ldT Tryz.prog 80 = (some (some 6)) := by kernel_rfl
theorem TldT_89 : ldT Tryz.prog 89 = (some (some 7)) := by kernel_rfl
theorem TldT_9 : ldT Tryz.prog 9 = (some none) := by kernel_rfl
theorem TmapT_122 : mapT Tryz.prog 122 = (some (3, ((.int .i64), 40))) := by kernel_rfl
theorem TmapT_123 : mapT Tryz.prog 123 = (some (3, ((.int .i64), 4))) := by kernel_rfl
theorem TmapT_99 : mapT Tryz.prog 99 = (some (9, (.string, 3))) := by kernel_rfl
theorem TplacesOf_160 : placesOf Tryz.prog 160 = (some [(0, 1), (1, 1), (2, 1), (3, 1), (4, 1), (5, 1), (6, 1), (7, 1), (8, 1), (9, 1), (10, 1), (11, 1), (12, 1), (13, 1), (14, 1), (15, 1), (16, 1), (17, 1), (18, 1), (19, 1), (20, 1), (21, 1), (22, 1), (23, 1), (24, 1), (25, 1), (26, 1), (27, 1), (28, 1), (29, 1), (30, 1), (31, 1), (32, 1), (33, 1), (34, 1), (35, 1), (36, 1), (37, 1), (38, 1), (39, 1), (40, 1), (41, 1), (42, 1), (43, 1), (44, 1), (45, 1), (46, 1), (47, 1), (48, 1), (49, 1), (50, 1), (51, 1), (52, 1), (53, 1), (54, 1), (55, 1), (56, 1), (57, 1), (58, 1), (59, 1), (60, 1), (61, 1), (62, 1), (63, 1)]) := by kernel_rfl
theorem TplacesOf_186 : placesOf Tryz.prog 186 = (some [(0, 1), (1, 1), (2, 1), (3, 1), (4, 1), (5, 1), (6, 1), (7, 1)]) := by kernel_rfl
theorem TplacesOf_187 : placesOf Tryz.prog 187 = (some [(0, 1), (1, 1), (2, 1), (3, 1), (4, 1), (5, 1), (6, 1), (7, 1), (8, 1), (9, 1), (10, 1), (11, 1), (12, 1), (13, 1), (14, 1), (15, 1), (16, 1), (17, 1), (18, 1), (19, 1), (20, 1), (21, 1), (22, 1), (23, 1), (24, 1), (25, 1), (26, 1), (27, 1), (28, 1), (29, 1), (30, 1), (31, 1), (32, 1), (33, 1), (34, 1), (35, 1), (36, 1), (37, 1), (38, 1), (39, 1), (40, 1), (41, 1), (42, 1), (43, 1), (44, 1), (45, 1), (46, 1), (47, 1), (48, 1), (49, 1), (50, 1), (51, 1), (52, 1), (53, 1), (54, 1), (55, 1), (56, 1), (57, 1), (58, 1), (59, 1), (60, 1), (61, 1), (62, 1), (63, 1)]) := by kernel_rfl
theorem TplacesOf_193 : placesOf Tryz.prog 193 = (some [(0, 1), (1, 1), (2, 1), (3, 1), (4, 1)]) := by kernel_rfl
theorem TplacesOf_28 : placesOf Tryz.prog 28 = (some [(0, 1), (1, 1), (2, 1), (3, 1)]) := by kernel_rfl
theorem TplacesOf_40 : placesOf Tryz.prog 40 = (some [(0, 1), (1, 1)]) := by kernel_rfl
theorem TplacesOf_42 : placesOf Tryz.prog 42 = (some [(0, 1), (1, 1)]) := by kernel_rfl
theorem TplacesOf_44 : placesOf Tryz.prog 44 = (some [(0, 1), (1, 1), (2, 1), (3, 1), (4, 1), (5, 1), (6, 1), (7, 1), (8, 1), (9, 1), (10, 1), (11, 2)]) := by kernel_rfl
theorem TplacesOf_49 : placesOf Tryz.prog 49 = (some [(0, 4), (4, 1)]) := by kernel_rfl
theorem TplacesOf_75 : placesOf Tryz.prog 75 = (some [(0, 2), (2, 1)]) := by kernel_rfl
theorem TplacesOf_78 : placesOf Tryz.prog 78 = (some [(0, 1), (1, 1), (2, 1)]) := by kernel_rfl
theorem TplacesOf_80 : placesOf Tryz.prog 80 = (some [(0, 1), (1, 1), (2, 1), (3, 1), (4, 1), (5, 1)]) := by kernel_rfl
theorem TplacesOf_86 : placesOf Tryz.prog 86 = (some [(0, 1), (1, 1)]) := by kernel_rfl
theorem TplacesOf_89 : placesOf Tryz.prog 89 = (some [(0, 1), (1, 4), (5, 2)]) := by kernel_rfl
theorem TrowOf_172 : rowOf Tryz.prog 172 = (some false) := by kernel_rfl
theorem TrowOf_3 : rowOf Tryz.prog 3 = (some false) := by kernel_rfl
theorem TslT_195 : slT Tryz.prog 195 = (some (172, (1, 4))) := by kernel_rfl
theorem TslT_22 : slT Tryz.prog 22 = (some (3, (1, 8))) := by kernel_rfl
theorem TslT_31 : slT Tryz.prog 31 = (some (44, (13, 160))) := by kernel_rfl
theorem TslT_33 : slT Tryz.prog 33 = (some (40, (2, 48))) := by kernel_rfl
theorem TslT_38 : slT Tryz.prog 38 = (some (78, (3, 32))) := by kernel_rfl
theorem TslT_70 : slT Tryz.prog 70 = (some (75, (3, 72))) := by kernel_rfl
theorem TslT_72 : slT Tryz.prog 72 = (some (89, (7, 88))) := by kernel_rfl
theorem TslT_87 : slT Tryz.prog 87 = (some (5, (1, 1))) := by kernel_rfl
theorem TszOf_109 : szOf Tryz.prog 109 = (some 1) := by kernel_rfl
theorem TszOf_160 : szOf Tryz.prog 160 = (some 64) := by kernel_rfl
theorem TszOf_172 : szOf Tryz.prog 172 = (some 1) := by kernel_rfl
theorem TszOf_186 : szOf Tryz.prog 186 = (some 8) := by kernel_rfl
theorem TszOf_187 : szOf Tryz.prog 187 = (some 64) := by kernel_rfl
theorem TszOf_22 : szOf Tryz.prog 22 = (some 1) := by kernel_rfl
theorem TszOf_28 : szOf Tryz.prog 28 = (some 4) := by kernel_rfl
theorem TszOf_3 : szOf Tryz.prog 3 = (some 1) := by kernel_rfl
theorem TszOf_31 : szOf Tryz.prog 31 = (some 1) := by kernel_rfl
theorem TszOf_38 : szOf Tryz.prog 38 = (some 1) := by kernel_rfl
theorem TszOf_4 : szOf Tryz.prog 4 = (some 1) := by kernel_rfl
theorem TszOf_40 : szOf Tryz.prog 40 = (some 2) := by kernel_rfl
theorem TszOf_42 : szOf Tryz.prog 42 = (some 2) := by kernel_rfl
theorem TszOf_44 : szOf Tryz.prog 44 = (some 13) := by kernel_rfl
theorem TszOf_49 : szOf Tryz.prog 49 = (some 5) := by kernel_rfl
theorem TszOf_5 : szOf Tryz.prog 5 = (some 1) := by kernel_rfl
theorem TszOf_75 : szOf Tryz.prog 75 = (some 3) := by kernel_rfl
theorem TszOf_78 : szOf Tryz.prog 78 = (some 3) := by kernel_rfl
theorem TszOf_80 : szOf Tryz.prog 80 = (some 6) := by kernel_rfl
theorem TszOf_89 : szOf Tryz.prog 89 = (some 7) := by kernel_rfl
theorem TszOf_9 : szOf Tryz.prog 9 = (some 1) := by kernel_rfl
theorem TzeroOf_109 : zeroOf Tryz.prog 109 = (some [.nilf]) := by kernel_rfl
theorem TzeroOf_160 : zeroOf Tryz.prog 160 = (some [(.bool false), (.bool false), (.bool false), (.bool false), (.bool false), (.bool false), (.bool false), (.bool false), (.bool false), (.bool false), (.bool false), (.bool false), (.bool false), (.bool false), (.bool false), (.bool false), (.bool false), (.bool false), (.bool false), (.bool false), (.bool false), (.bool false), (.bool false), (.bool false), (.bool false), (.bool false), (.bool false), (.bool false), (.bool false), (.bool false), (.bool false), (.bool false), (.bool false), (.bool false), (.bool false), (.bool false), (.bool false), (.bool false), (.bool false), (.bool false), (.bool false), (.bool false), (.bool false), (.bool false), (.bool false), (.bool false), (.bool false), (.bool false), (.bool false), (.bool false), (.bool false), (.bool false), (.bool false), (.bool false), (.bool false), (.bool false), (.bool false), (.bool false), (.bool false), (.bool false), (.bool false), (.bool false), (.bool false), (.bool false)]) := by kernel_rfl
theorem TzeroOf_172 : zeroOf Tryz.prog 172 = (some [(.int .u32 0)]) := by kernel_rfl
theorem TzeroOf_186 : zeroOf Tryz.prog 186 = (some [(.int .u32 0), (.int .u32 0), (.int .u32 0), (.int .u32 0), (.int .u32 0), (.int .u32 0), (.int .u32 0), (.int .u32 0)]) := by kernel_rfl
theorem TzeroOf_187 : zeroOf Tryz.prog 187 = (some [(.int .u32 0), (.int .u32 0), (.int .u32 0), (.int .u32 0), (.int .u32 0), (.int .u32 0), (.int .u32 0), (.int .u32 0), (.int .u32 0), (.int .u32 0), (.int .u32 0), (.int .u32 0), (.int .u32 0), (.int .u32 0), (.int .u32 0), (.int .u32 0), (.int .u32 0), (.int .u32 0), (.int .u32 0), (.int .u32 0), (.int .u32 0), (.int .u32 0), (.int .u32 0), (.int .u32 0), (.int .u32 0), (.int .u32 0), (.int .u32 0), (.int .u32 0), (.int .u32 0), (.int .u32 0), (.int .u32 0), (.int .u32 0), (.int .u32 0), (.int .u32 0), (.int .u32 0), (.int .u32 0), (.int .u32 0), (.int .u32 0), (.int .u32 0), (.int .u32 0), (.int .u32 0), (.int .u32 0), (.int .u32 0), (.int .u32 0), (.int .u32 0), (.int .u32 0), (.int .u32 0), (.int .u32 0), (.int .u32 0), (.int .u32 0), (.int .u32 0), (.int .u32 0), (.int .u32 0), (.int .u32 0), (.int .u32 0), (.int .u32 0), (.int .u32 0), (.int .u32 0), (.int .u32 0), (.int .u32 0), (.int .u32 0), (.int .u32 0), (.int .u32 0), (.int .u32 0)]) := by kernel_rfl
theorem TzeroOf_193 : zeroOf Tryz.prog 193 = (some [(.int .i64 0), (.int .i64 0), (.int .i64 0), (.int .i64 0), (.int .i64 0)]) := by kernel_rfl
theorem TzeroOf_28 : zeroOf Tryz.prog 28 = (some [(.int .i64 0), (.int .i64 0), (.int .i64 0), (.int .i64 0)]) := by kernel_rfl
theorem TzeroOf_3 : zeroOf Tryz.prog 3 = (some [(.int .i64 0)]) := by kernel_rfl
theorem TzeroOf_40 : zeroOf Tryz.prog 40 = (some [.nils, .nils]) := by kernel_rfl
theorem TzeroOf_42 : zeroOf Tryz.prog 42 = (some [(.int .i64 0), (.str [])]) := by kernel_rfl
theorem TzeroOf_44 : zeroOf Tryz.prog 44 = (some [(.int .i64 0), (.int .i64 0), (.str []), (.int .i64 0), (.int .i64 0), (.int .i64 0), (.int .i64 0), (.int .i64 0), .nils, .nils, (.str []), (.int .i64 0), (.str [])]) := by kernel_rfl
theorem TzeroOf_49 : zeroOf Tryz.prog 49 = (some [(.int .i64 0), (.int .i64 0), (.int .i64 0), (.int .i64 0), .nils]) := by kernel_rfl
theorem TzeroOf_5 : zeroOf Tryz.prog 5 = (some [(.int .u8 0)]) := by kernel_rfl
theorem TzeroOf_75 : zeroOf Tryz.prog 75 = (some [.nils, .nils, .nils]) := by kernel_rfl
theorem TzeroOf_78 : zeroOf Tryz.prog 78 = (some [(.int .i64 0), (.int .i64 0), (.str [])]) := by kernel_rfl
theorem TzeroOf_80 : zeroOf Tryz.prog 80 = (some [(.int .i64 0), (.int .i64 0), (.int .i64 0), (.int .i64 0), .nils, .nils]) := by kernel_rfl
theorem TzeroOf_86 : zeroOf Tryz.prog 86 = (some [.nils, (.int .i64 0)]) := by kernel_rfl
theorem TzeroOf_89 : zeroOf Tryz.prog 89 = (some [(.int .i64 0), (.int .i64 0), (.int .i64 0), (.int .i64 0), (.int .i64 0), .nils, .nils]) := by kernel_rfl
theorem TzeroV_3 : zeroV Tryz.prog 3 = (some (.int .i64 0)) := by kernel_rfl
theorem TzeroV_40 : zeroV Tryz.prog 40 = (some (.agg [.nils, .nils])) := by kernel_rfl

attribute [go_sem] TarT_160 TarT_186 TarT_187 TarrOf_186 TarrOf_193 TelemOf_87 TflatOf_160 TflatOf_28 TflatOf_42 TflatOf_78 Tfo_28_0 Tfo_28_1 Tfo_28_2 Tfo_28_3 Tfo_40_0 Tfo_40_1 Tfo_42_0 Tfo_42_1 Tfo_44_0 Tfo_44_1 Tfo_44_10 Tfo_44_11 Tfo_44_2 Tfo_44_3 Tfo_44_4 Tfo_44_5 Tfo_44_6 Tfo_44_7 Tfo_44_8
attribute [go_sem] Tfo_44_9 Tfo_49_0 Tfo_49_1 Tfo_75_0 Tfo_75_1 Tfo_78_0 Tfo_78_1 Tfo_78_2 Tfo_80_0 Tfo_80_1 Tfo_80_2 Tfo_80_3 Tfo_80_4 Tfo_80_5 Tfo_86_0 Tfo_86_1 Tfo_89_0 Tfo_89_1 Tfo_89_2 TisBytes_87 TisSlice_195 TisSlice_22 TisSlice_31 TisSlice_33 TisSlice_38 TisSlice_70 TisSlice_72
attribute [go_sem] TisSlice_87 TisSomeT_149 TisSomeT_172 TisSomeT_174 TisSomeT_3 TisSomeT_5 TisStr_9 TkindOf_149 TkindOf_172
attribute [go_sem] TkindOf_174 TkindOf_3 TkindOf_5 TldT_109 TldT_160 TldT_172 TldT_186 TldT_187 TldT_22 TldT_28 TldT_3 TldT_31 TldT_38 TldT_40 TldT_42 TldT_44 TldT_49 TldT_5 TldT_75 TldT_78 TldT_80 TldT_89 TldT_9 TmapT_122 TmapT_123 TmapT_99 TplacesOf_160
attribute [go_sem] TplacesOf_186 TplacesOf_187 TplacesOf_193 TplacesOf_28 TplacesOf_40 TplacesOf_42 TplacesOf_44 TplacesOf_49 TplacesOf_75 TplacesOf_78 TplacesOf_80 TplacesOf_86 TplacesOf_89 TrowOf_172 TrowOf_3 TslT_195 TslT_22 TslT_31 TslT_33 TslT_38 TslT_70 TslT_72 TslT_87 TszOf_109 TszOf_160 TszOf_172 TszOf_186 TszOf_187 TszOf_22
attribute [go_sem] TszOf_28 TszOf_3 TszOf_31 TszOf_38 TszOf_4 TszOf_40 TszOf_42 TszOf_44 TszOf_49 TszOf_5 TszOf_75 TszOf_78 TszOf_80 TszOf_89 TszOf_9 TzeroOf_109 TzeroOf_160 TzeroOf_172 TzeroOf_186 TzeroOf_187 TzeroOf_193 TzeroOf_28 TzeroOf_3 TzeroOf_40 TzeroOf_42 TzeroOf_44 TzeroOf_49 TzeroOf_5
attribute [go_sem] TzeroOf_75 TzeroOf_78 TzeroOf_80 TzeroOf_86 TzeroOf_89 TzeroV_3 TzeroV_40
attribute [go_sem_proc] reduceCtorEq Nat.reduceEqDiff Nat.reduceAdd Nat.reduceSub Nat.reduceMul Nat.reduceLT Nat.reduceLeDiff Int.reduceLT Int.reduceLE Int.reduceEq Int.reduceNe Int.reduceToNat Int.reduceAdd Int.reduceSub Int.reduceMul
attribute [go_sem_proc ↓] reduceIte
attribute [go_sem] Int.natCast_zero
end Go.Proofs.Am
