/- Facts on the types of the program. -/
import Derived.Test.YthcphdogfdghkaaGreatAmU
import Derived.Test.YthcphdogfdghkaaGreatProg
set_option linter.unusedSimpArgs false
set_option linter.unusedVariables false
namespace Go.Proofs.Am
open Go Go.RowKit Go.Proofs

theorem TarT_120 : arT Tryz.prog 120 = (some (8, 1)) := by kernel_rfl
theorem TarT_121 : arT Tryz.prog 121 = (some (64, 1)) := by kernel_rfl
theorem TarrOf_120 : arrOf Tryz.prog 120 = (some (8, 113)) := by kernel_rfl
theorem TarrOf_125 : arrOf Tryz.prog 125 = (some (5, 3)) := by kernel_rfl
theorem TelemOf_69 : elemOf Tryz.prog 69 = (some 5) := by kernel_rfl
theorem TflatOf_37 : flatOf Tryz.prog 37 = (some [.int, .int, .int, .int]) := by kernel_rfl
theorem TflatOf_48 : flatOf Tryz.prog 48 = (some [.int, .str]) := by kernel_rfl
theorem Tfo_108_0 : fo Tryz.prog 108 0 = (some 0) := by kernel_rfl
theorem Tfo_108_1 : fo Tryz.prog 108 1 = (some 1) := by kernel_rfl
theorem Tfo_108_2 : fo Tryz.prog 108 2 = (some 2) := by kernel_rfl
theorem Tfo_137_0 : fo Tryz.prog 137 0 = (some 0) := by kernel_rfl
theorem Tfo_137_1 : fo Tryz.prog 137 1 = (some 1) := by kernel_rfl
theorem Tfo_137_2 : fo Tryz.prog 137 2 = (some 2) := by kernel_rfl
theorem Tfo_145_0 : fo Tryz.prog 145 0 = (some 0) := by kernel_rfl
theorem Tfo_145_1 : fo Tryz.prog 145 1 = (some 2) := by kernel_rfl
theorem Tfo_147_0 : fo Tryz.prog 147 0 = (some 0) := by kernel_rfl
theorem Tfo_147_1 : fo Tryz.prog 147 1 = (some 1) := by kernel_rfl
theorem Tfo_147_2 : fo Tryz.prog 147 2 = (some 5) := by kernel_rfl
theorem Tfo_28_0 : fo Tryz.prog 28 0 = (some 0) := by kernel_rfl
theorem Tfo_28_1 : fo Tryz.prog 28 1 = (some 1) := by kernel_rfl
theorem Tfo_28_2 : fo Tryz.prog 28 2 = (some 2) := by kernel_rfl
theorem Tfo_30_0 : fo Tryz.prog 30 0 = (some 0) := by kernel_rfl
theorem Tfo_30_1 : fo Tryz.prog 30 1 = (some 1) := by kernel_rfl
theorem Tfo_30_2 : fo Tryz.prog 30 2 = (some 4) := by kernel_rfl
theorem Tfo_30_3 : fo Tryz.prog 30 3 = (some 5) := by kernel_rfl
theorem Tfo_30_4 : fo Tryz.prog 30 4 = (some 6) := by kernel_rfl
theorem Tfo_33_0 : fo Tryz.prog 33 0 = (some 0) := by kernel_rfl
theorem Tfo_33_1 : fo Tryz.prog 33 1 = (some 1) := by kernel_rfl
theorem Tfo_35_0 : fo Tryz.prog 35 0 = (some 0) := by kernel_rfl
theorem Tfo_35_1 : fo Tryz.prog 35 1 = (some 1) := by kernel_rfl
theorem Tfo_35_2 : fo Tryz.prog 35 2 = (some 2) := by kernel_rfl
theorem Tfo_35_3 : fo Tryz.prog 35 3 = (some 3) := by kernel_rfl
theorem Tfo_35_4 : fo Tryz.prog 35 4 = (some 4) := by kernel_rfl
theorem Tfo_37_0 : fo Tryz.prog 37 0 = (some 0) := by kernel_rfl
theorem Tfo_37_1 : fo Tryz.prog 37 1 = (some 1) := by kernel_rfl
theorem Tfo_37_2 : fo Tryz.prog 37 2 = (some 2) := by kernel_rfl
theorem Tfo_37_3 : fo Tryz.prog 37 3 = (some 3) := by kernel_rfl
theorem Tfo_43_0 : fo Tryz.prog 43 0 = (some 0) := by kernel_rfl
theorem Tfo_43_1 : fo Tryz.prog 43 1 = (some 1) := by kernel_rfl
theorem Tfo_43_2 : fo Tryz.prog 43 2 = (some 2) := by kernel_rfl
theorem Tfo_43_3 : fo Tryz.prog 43 3 = (some 3) := by kernel_rfl
theorem Tfo_43_4 : fo Tryz.prog 43 4 = (some 4) := by kernel_rfl
theorem Tfo_43_5 : fo Tryz.prog 43 5 = (some 5) := by kernel_rfl
theorem Tfo_48_0 : fo Tryz.prog 48 0 = (some 0) := by kernel_rfl
theorem Tfo_48_1 : fo Tryz.prog 48 1 = (some 1) := by kernel_rfl
theorem Tfo_50_0 : fo Tryz.prog 50 0 = (some 0) := by kernel_rfl
theorem Tfo_50_1 : fo Tryz.prog 50 1 = (some 1) := by kernel_rfl
theorem Tfo_50_10 : fo Tryz.prog 50 10 = (some 10) := by kernel_rfl
theorem Tfo_50_11 : fo Tryz.prog 50 11 = (some 11) := by kernel_rfl
theorem Tfo_50_2 : fo Tryz.prog 50 2 = (some 2) := by kernel_rfl
theorem Tfo_50_3 : fo Tryz.prog 50 3 = (some 3) := by kernel_rfl
theorem Tfo_50_4 : fo Tryz.prog 50 4 = (some 4) := by kernel_rfl
theorem Tfo_50_5 : fo Tryz.prog 50 5 = (some 5) := by kernel_rfl
theorem Tfo_50_6 : fo Tryz.prog 50 6 = (some 6) := by kernel_rfl
theorem Tfo_50_7 : fo Tryz.prog 50 7 = (some 7) := by kernel_rfl
theorem Tfo_50_8 : fo Tryz.prog 50 8 = (some 8) := by kernel_rfl
theorem Tfo_50_9 : fo Tryz.prog 50 9 = (some 9) := by kernel_rfl
theorem Tfo_66_0 : fo Tryz.prog 66 0 = (some 0) := by kernel_rfl
theorem Tfo_66_1 : fo Tryz.prog 66 1 = (some 1) := by kernel_rfl
theorem Tfo_81_0 : fo Tryz.prog 81 0 = (some 0) := by kernel_rfl
theorem Tfo_81_1 : fo Tryz.prog 81 1 = (some 1) := by kernel_rfl
theorem Tfo_81_2 : fo Tryz.prog 81 2 = (some 2) := by kernel_rfl
theorem TisBytes_111 : isBytes Tryz.prog 111 = false := by kernel_rfl
theorem TisBytes_113 : isBytes Tryz.prog 113 = false := by kernel_rfl
theorem TisBytes_115 : isBytes Tryz.prog 115 = false := by kernel_rfl
theorem TisBytes_3 : isBytes Tryz.prog 3 = false := by kernel_rfl
theorem TisBytes_5 : isBytes Tryz.prog 5 = false := by kernel_rfl
theorem TisBytes_69 : isBytes Tryz.prog 69 = true := by kernel_rfl
theorem TisBytes_9 : isBytes Tryz.prog 9 = false := by kernel_rfl
theorem TisSlice_106 : isSlice Tryz.prog 106 = true := by kernel_rfl
theorem TisSlice_114 : isSlice Tryz.prog 114 = true := by kernel_rfl
theorem TisSlice_128 : isSlice Tryz.prog 128 = true := by kernel_rfl
theorem TisSlice_140 : isSlice Tryz.prog 140 = true := by kernel_rfl
theorem TisSlice_142 : isSlice Tryz.prog 142 = true := by kernel_rfl
theorem TisSlice_22 : isSlice Tryz.prog 22 = true := by kernel_rfl
theorem TisSlice_31 : isSlice Tryz.prog 31 = true := by kernel_rfl
theorem TisSlice_38 : isSlice Tryz.prog 38 = true := by kernel_rfl
theorem TisSlice_69 : isSlice Tryz.prog 69 = true := by kernel_rfl
theorem TisSlice_75 : isSlice Tryz.prog 75 = true := by kernel_rfl
theorem TisSomeT_113 : isSomeT Tryz.prog 113 = true := by kernel_rfl
theorem TisSomeT_115 : isSomeT Tryz.prog 115 = true := by kernel_rfl
theorem TisSomeT_3 : isSomeT Tryz.prog 3 = true := by kernel_rfl
theorem TisSomeT_5 : isSomeT Tryz.prog 5 = true := by kernel_rfl
theorem TisSomeT_69 : isSomeT Tryz.prog 69 = true := by kernel_rfl
theorem TisStr_106 : isStr Tryz.prog 106 = false := by kernel_rfl
theorem TisStr_111 : isStr Tryz.prog 111 = false := by kernel_rfl
theorem TisStr_113 : isStr Tryz.prog 113 = false := by kernel_rfl
theorem TisStr_114 : isStr Tryz.prog 114 = false := by kernel_rfl
theorem TisStr_115 : isStr Tryz.prog 115 = false := by kernel_rfl
theorem TisStr_120 : isStr Tryz.prog 120 = false := by kernel_rfl
theorem TisStr_125 : isStr Tryz.prog 125 = false := by kernel_rfl
theorem TisStr_128 : isStr Tryz.prog 128 = false := by kernel_rfl
theorem TisStr_140 : isStr Tryz.prog 140 = false := by kernel_rfl
theorem TisStr_142 : isStr Tryz.prog 142 = false := by kernel_rfl
theorem TisStr_22 : isStr Tryz.prog 22 = false := by kernel_rfl
theorem TisStr_3 : isStr Tryz.prog 3 = false := by kernel_rfl
theorem TisStr_31 : isStr Tryz.prog 31 = false := by kernel_rfl
theorem TisStr_38 : isStr Tryz.prog 38 = false := by kernel_rfl
theorem TisStr_5 : isStr Tryz.prog 5 = false := by kernel_rfl
theorem TisStr_69 : isStr Tryz.prog 69 = false := by kernel_rfl
theorem TisStr_75 : isStr Tryz.prog 75 = false := by kernel_rfl
theorem TisStr_9 : isStr Tryz.prog 9 = true := by kernel_rfl
theorem TkindOf_111 : kindOf Tryz.prog 111 = (some .u64) := by kernel_rfl
theorem TkindOf_113 : kindOf Tryz.prog 113 = (some .u32) := by kernel_rfl
theorem TkindOf_115 : kindOf Tryz.prog 115 = (some .u64) := by kernel_rfl
theorem TkindOf_3 : kindOf Tryz.prog 3 = (some .i64) := by kernel_rfl
theorem TkindOf_5 : kindOf Tryz.prog 5 = (some .u8) := by kernel_rfl
theorem TkindOf_9 : kindOf Tryz.prog 9 = none := by kernel_rfl
theorem TldT_106 : ldT Tryz.prog 106 = (some none) := by kernel_rfl
theorem TldT_108 : ldT Tryz.prog 108 = (some (some 3)) := by kernel_rfl
theorem TldT_113 : ldT Tryz.prog 113 = (some none) := by kernel_rfl
theorem TldT_120 : ldT Tryz.prog 120 = (some (some 8)) := by kernel_rfl
theorem TldT_121 : ldT Tryz.prog 121 = (some (some 64)) := by kernel_rfl
theorem TldT_137 : ldT Tryz.prog 137 = (some (some 3)) := by kernel_rfl
theorem TldT_147 : ldT Tryz.prog 147 = (some (some 7)) := by kernel_rfl
theorem TldT_22 : ldT Tryz.prog 22 = (some none) := by kernel_rfl
theorem TldT_28 : ldT Tryz.prog 28 = (some (some 3)) := by kernel_rfl
theorem TldT_3 : ldT Tryz.prog 3 = (some none) := by kernel_rfl
theorem TldT_30 : ldT Tryz.prog 30 = (some (some 7)) := by kernel_rfl
theorem TldT_31 : ldT Tryz.prog 31 = (some none) := by kernel_rfl
theorem TldT_33 : ldT Tryz.prog 33 = (some (some 2)) := by kernel_rfl
theorem TldT_35 : ldT Tryz.prog 35 = (some (some 6)) := by kernel_rfl
theorem TldT_37 : ldT Tryz.prog 37 = (some (some 4)) := by kernel_rfl
theorem TldT_43 : ldT Tryz.prog 43 = (some (some 6)) := by kernel_rfl
theorem TldT_48 : ldT Tryz.prog 48 = (some (some 2)) := by kernel_rfl
theorem TldT_5 : ldT Tryz.prog 5 = (some none) := by kernel_rfl
theorem TldT_50 : ldT Tryz.prog 50 = (some (some 13)) := by kernel_rfl
theorem TldT_81 : ldT Tryz.prog 81 = (some (some 3)) := by kernel_rfl
theorem TldT_9 : ldT Tryz.prog 9 = (some none) := by kernel_rfl
theorem TplacesOf_108 : placesOf Tryz.prog 108 = (some [(0, 1), (1, 1), (2, 1)]) := by kernel_rfl
theorem TplacesOf_120 : placesOf Tryz.prog 120 = (some [(0, 1), (1, 1), (2, 1), (3, 1), (4, 1), (5, 1), (6, 1), (7, 1)]) := by kernel_rfl
theorem TplacesOf_121 : placesOf Tryz.prog 121 = (some [(0, 1), (1, 1), (2, 1), (3, 1), (4, 1), (5, 1), (6, 1), (7, 1), (8, 1), (9, 1), (10, 1), (11, 1), (12, 1), (13, 1), (14, 1), (15, 1), (16, 1), (17, 1), (18, 1), (19, 1), (20, 1), (21, 1), (22, 1), (23, 1), (24, 1), (25, 1), (26, 1), (27, 1), (28, 1), (29, 1), (30, 1), (31, 1), (32, 1), (33, 1), (34, 1), (35, 1), (36, 1), (37, 1), (38, 1), (39, 1), (40, 1), (41, 1), (42, 1), (43, 1), (44, 1), (45, 1), (46, 1), (47, 1), (48, 1), (49, 1), (50, 1), (51, 1), (52, 1), (53, 1), (54, 1), (55, 1), (56, 1), (57, 1), (58, 1), (59, 1), (60, 1), (61, 1), (62, 1), (63, 1)]) := by kernel_rfl
theorem TplacesOf_125 : placesOf Tryz.prog 125 = (some [(0, 1), (1, 1), (2, 1), (3, 1), (4, 1)]) := by kernel_rfl
theorem TplacesOf_145 : placesOf Tryz.prog 145 = (some [(0, 2), (2, 1)]) := by kernel_rfl
theorem TplacesOf_147 : placesOf Tryz.prog 147 = (some [(0, 1), (1, 4), (5, 2)]) := by kernel_rfl
theorem TplacesOf_28 : placesOf Tryz.prog 28 = (some [(0, 1), (1, 1), (2, 1)]) := by kernel_rfl
theorem TplacesOf_30 : placesOf Tryz.prog 30 = (some [(0, 1), (1, 3), (4, 1), (5, 1), (6, 1)]) := by kernel_rfl
theorem TplacesOf_33 : placesOf Tryz.prog 33 = (some [(0, 1), (1, 1)]) := by kernel_rfl
theorem TplacesOf_35 : placesOf Tryz.prog 35 = (some [(0, 1), (1, 1), (2, 1), (3, 1), (4, 2)]) := by kernel_rfl
theorem TplacesOf_37 : placesOf Tryz.prog 37 = (some [(0, 1), (1, 1), (2, 1), (3, 1)]) := by kernel_rfl
theorem TplacesOf_43 : placesOf Tryz.prog 43 = (some [(0, 1), (1, 1), (2, 1), (3, 1), (4, 1), (5, 1)]) := by kernel_rfl
theorem TplacesOf_48 : placesOf Tryz.prog 48 = (some [(0, 1), (1, 1)]) := by kernel_rfl
theorem TplacesOf_50 : placesOf Tryz.prog 50 = (some [(0, 1), (1, 1), (2, 1), (3, 1), (4, 1), (5, 1), (6, 1), (7, 1), (8, 1), (9, 1), (10, 1), (11, 2)]) := by kernel_rfl
theorem TplacesOf_66 : placesOf Tryz.prog 66 = (some [(0, 1), (1, 1)]) := by kernel_rfl
theorem TplacesOf_81 : placesOf Tryz.prog 81 = (some [(0, 1), (1, 1), (2, 1)]) := by kernel_rfl
theorem TrowOf_113 : rowOf Tryz.prog 113 = (some false) := by kernel_rfl
theorem TrowOf_3 : rowOf Tryz.prog 3 = (some false) := by kernel_rfl
theorem TslT_106 : slT Tryz.prog 106 = (some (137, (3, 24))) := by kernel_rfl
theorem TslT_114 : slT Tryz.prog 114 = (some (113, (1, 4))) := by kernel_rfl
theorem TslT_128 : slT Tryz.prog 128 = (some (33, (2, 48))) := by kernel_rfl
theorem TslT_140 : slT Tryz.prog 140 = (some (145, (3, 72))) := by kernel_rfl
theorem TslT_142 : slT Tryz.prog 142 = (some (147, (7, 88))) := by kernel_rfl
theorem TslT_22 : slT Tryz.prog 22 = (some (3, (1, 8))) := by kernel_rfl
theorem TslT_31 : slT Tryz.prog 31 = (some (81, (3, 32))) := by kernel_rfl
theorem TslT_38 : slT Tryz.prog 38 = (some (50, (13, 160))) := by kernel_rfl
theorem TslT_69 : slT Tryz.prog 69 = (some (5, (1, 1))) := by kernel_rfl
theorem TslT_75 : slT Tryz.prog 75 = (some (35, (6, 104))) := by kernel_rfl
theorem TszOf_113 : szOf Tryz.prog 113 = (some 1) := by kernel_rfl
theorem TszOf_120 : szOf Tryz.prog 120 = (some 8) := by kernel_rfl
theorem TszOf_121 : szOf Tryz.prog 121 = (some 64) := by kernel_rfl
theorem TszOf_137 : szOf Tryz.prog 137 = (some 3) := by kernel_rfl
theorem TszOf_147 : szOf Tryz.prog 147 = (some 7) := by kernel_rfl
theorem TszOf_22 : szOf Tryz.prog 22 = (some 1) := by kernel_rfl
theorem TszOf_28 : szOf Tryz.prog 28 = (some 3) := by kernel_rfl
theorem TszOf_3 : szOf Tryz.prog 3 = (some 1) := by kernel_rfl
theorem TszOf_30 : szOf Tryz.prog 30 = (some 7) := by kernel_rfl
theorem TszOf_31 : szOf Tryz.prog 31 = (some 1) := by kernel_rfl
theorem TszOf_33 : szOf Tryz.prog 33 = (some 2) := by kernel_rfl
theorem TszOf_35 : szOf Tryz.prog 35 = (some 6) := by kernel_rfl
theorem TszOf_37 : szOf Tryz.prog 37 = (some 4) := by kernel_rfl
theorem TszOf_4 : szOf Tryz.prog 4 = (some 1) := by kernel_rfl
theorem TszOf_43 : szOf Tryz.prog 43 = (some 6) := by kernel_rfl
theorem TszOf_48 : szOf Tryz.prog 48 = (some 2) := by kernel_rfl
theorem TszOf_5 : szOf Tryz.prog 5 = (some 1) := by kernel_rfl
theorem TszOf_50 : szOf Tryz.prog 50 = (some 13) := by kernel_rfl
theorem TszOf_81 : szOf Tryz.prog 81 = (some 3) := by kernel_rfl
theorem TszOf_9 : szOf Tryz.prog 9 = (some 1) := by kernel_rfl
theorem TzeroOf_108 : zeroOf Tryz.prog 108 = (some [(.int .i64 0), .nils, .nils]) := by kernel_rfl
theorem TzeroOf_113 : zeroOf Tryz.prog 113 = (some [(.int .u32 0)]) := by kernel_rfl
theorem TzeroOf_120 : zeroOf Tryz.prog 120 = (some [(.int .u32 0), (.int .u32 0), (.int .u32 0), (.int .u32 0), (.int .u32 0), (.int .u32 0), (.int .u32 0), (.int .u32 0)]) := by kernel_rfl
theorem TzeroOf_121 : zeroOf Tryz.prog 121 = (some [(.int .u32 0), (.int .u32 0), (.int .u32 0), (.int .u32 0), (.int .u32 0), (.int .u32 0), (.int .u32 0), (.int .u32 0), (.int .u32 0), (.int .u32 0), (.int .u32 0), (.int .u32 0), (.int .u32 0), (.int .u32 0), (.int .u32 0), (.int .u32 0), (.int .u32 0), (.int .u32 0), (.int .u32 0), (.int .u32 0), (.int .u32 0), (.int .u32 0), (.int .u32 0), (.int .u32 0), (.int .u32 0), (.int .u32 0), (.int .u32 0), (.int .u32 0), (.int .u32 0), (.int .u32 0), (.int .u32 0), (.int .u32 0), (.int .u32 0), (.int .u32 0), (.int .u32 0), (.int .u32 0), (.int .u32 0), (.int .u32 0), (.int .u32 0), (.int .u32 0), (.int .u32 0), (.int .u32 0), (.int .u32 0), (.int .u32 0), (.int .u32 0), (.int .u32 0), (.int .u32 0), (.int .u32 0), (.int .u32 0), (.int .u32 0), (.int .u32 0), (.int .u32 0), (.int .u32 0), (.int .u32 0), (.int .u32 0), (.int .u32 0), (.int .u32 0), (.int .u32 0), (.int .u32 0), (.int .u32 0), (.int .u32 0), (.int .u32 0), (.int .u32 0), (.int .u32 0)]) := by kernel_rfl
theorem TzeroOf_125 : zeroOf Tryz.prog 125 = (some [(.int .i64 0), (.int .i64 0), (.int .i64 0), (.int .i64 0), (.int .i64 0)]) := by kernel_rfl
theorem TzeroOf_137 : zeroOf Tryz.prog 137 = (some [(.int .i64 0), (.int .i64 0), (.int .i64 0)]) := by kernel_rfl
theorem TzeroOf_145 : zeroOf Tryz.prog 145 = (some [.nils, .nils, .nils]) := by kernel_rfl
theorem TzeroOf_147 : zeroOf Tryz.prog 147 = (some [(.int .i64 0), (.int .i64 0), (.int .i64 0), (.int .i64 0), (.int .i64 0), .nils, .nils]) := by kernel_rfl
theorem TzeroOf_28 : zeroOf Tryz.prog 28 = (some [.nils, .nils, (.int .i64 0)]) := by kernel_rfl
theorem TzeroOf_30 : zeroOf Tryz.prog 30 = (some [.nils, .nils, .nils, (.int .i64 0), (.int .i64 0), (.int .i64 0), (.int .i64 0)]) := by kernel_rfl
theorem TzeroOf_33 : zeroOf Tryz.prog 33 = (some [.nils, .nils]) := by kernel_rfl
theorem TzeroOf_35 : zeroOf Tryz.prog 35 = (some [(.int .i64 0), .nils, (.str []), (.bool false), .nils, .nils]) := by kernel_rfl
theorem TzeroOf_37 : zeroOf Tryz.prog 37 = (some [(.int .i64 0), (.int .i64 0), (.int .i64 0), (.int .i64 0)]) := by kernel_rfl
theorem TzeroOf_43 : zeroOf Tryz.prog 43 = (some [(.int .i64 0), (.int .i64 0), (.int .i64 0), (.int .i64 0), .nils, .nils]) := by kernel_rfl
theorem TzeroOf_48 : zeroOf Tryz.prog 48 = (some [(.int .i64 0), (.str [])]) := by kernel_rfl
theorem TzeroOf_5 : zeroOf Tryz.prog 5 = (some [(.int .u8 0)]) := by kernel_rfl
theorem TzeroOf_50 : zeroOf Tryz.prog 50 = (some [(.int .i64 0), (.int .i64 0), (.str []), (.int .i64 0), (.int .i64 0), (.int .i64 0), (.int .i64 0), (.int .i64 0), .nils, .nils, (.str []), (.int .i64 0), (.str [])]) := by kernel_rfl
theorem TzeroOf_66 : zeroOf Tryz.prog 66 = (some [.nils, (.int .i64 0)]) := by kernel_rfl
theorem TzeroOf_81 : zeroOf Tryz.prog 81 = (some [(.int .i64 0), (.int .i64 0), (.str [])]) := by kernel_rfl

attribute [go_sem] TarT_120 TarT_121 TarrOf_120 TarrOf_125 TelemOf_69 TflatOf_37 TflatOf_48 Tfo_108_0 Tfo_108_1 Tfo_108_2 Tfo_137_0 Tfo_137_1 Tfo_137_2 Tfo_145_0 Tfo_145_1 Tfo_147_0 Tfo_147_1 Tfo_147_2 Tfo_28_0 Tfo_28_1 Tfo_28_2 Tfo_30_0 Tfo_30_1 Tfo_30_2 Tfo_30_3 Tfo_30_4 Tfo_33_0 Tfo_33_1 Tfo_35_0 Tfo_35_1 Tfo_35_2 Tfo_35_3 Tfo_35_4 Tfo_37_0 Tfo_37_1 Tfo_37_2 Tfo_37_3 Tfo_43_0 Tfo_43_1 Tfo_43_2
attribute [go_sem] Tfo_43_3 Tfo_43_4 Tfo_43_5 Tfo_48_0 Tfo_48_1 Tfo_50_0 Tfo_50_1 Tfo_50_10 Tfo_50_11 Tfo_50_2 Tfo_50_3 Tfo_50_4 Tfo_50_5 Tfo_50_6 Tfo_50_7 Tfo_50_8 Tfo_50_9 Tfo_66_0 Tfo_66_1 Tfo_81_0 Tfo_81_1 Tfo_81_2 TisBytes_111 TisBytes_113 TisBytes_115 TisBytes_3 TisBytes_5 TisBytes_69 TisBytes_9 TisSlice_106 TisSlice_114 TisSlice_128 TisSlice_140 TisSlice_142 TisSlice_22 TisSlice_31 TisSlice_38 TisSlice_69 TisSlice_75 TisSomeT_113
attribute [go_sem] TisSomeT_115 TisSomeT_3 TisSomeT_5 TisSomeT_69 TisStr_106 TisStr_111 TisStr_113 TisStr_114 TisStr_115 TisStr_120 TisStr_125 TisStr_128 TisStr_140 TisStr_142 TisStr_22 TisStr_3 TisStr_31 TisStr_38 TisStr_5 TisStr_69 TisStr_75 TisStr_9 TkindOf_111 TkindOf_113 TkindOf_115 TkindOf_3 TkindOf_5 TkindOf_9 TldT_106 TldT_108 TldT_113 TldT_120 TldT_121 TldT_137 TldT_147 TldT_22 TldT_28 TldT_3 TldT_30 TldT_31
attribute [go_sem] TldT_33 TldT_35 TldT_37 TldT_43 TldT_48 TldT_5 TldT_50 TldT_81 TldT_9 TplacesOf_108 TplacesOf_120 TplacesOf_121 TplacesOf_125 TplacesOf_145 TplacesOf_147 TplacesOf_28 TplacesOf_30 TplacesOf_33 TplacesOf_35 TplacesOf_37 TplacesOf_43 TplacesOf_48 TplacesOf_50 TplacesOf_66 TplacesOf_81 TrowOf_113 TrowOf_3 TslT_106 TslT_114 TslT_128 TslT_140 TslT_142 TslT_22 TslT_31 TslT_38 TslT_69 TslT_75 TszOf_113 TszOf_120 TszOf_121
attribute [go_sem] TszOf_137 TszOf_147 TszOf_22 TszOf_28 TszOf_3 TszOf_30 TszOf_31 TszOf_33 TszOf_35 TszOf_37 TszOf_4 TszOf_43 TszOf_48 TszOf_5 TszOf_50 TszOf_81 TszOf_9 TzeroOf_108 TzeroOf_113 TzeroOf_120 TzeroOf_121 TzeroOf_125 TzeroOf_137 TzeroOf_145 TzeroOf_147 TzeroOf_28 TzeroOf_30 TzeroOf_33 TzeroOf_35 TzeroOf_37 TzeroOf_43 TzeroOf_48 TzeroOf_5 TzeroOf_50 TzeroOf_66 TzeroOf_81

end Go.Proofs.Am
