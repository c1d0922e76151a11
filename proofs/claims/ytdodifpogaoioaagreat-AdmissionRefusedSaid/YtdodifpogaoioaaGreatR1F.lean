/- R1F. -/
import Derived.Test.YtdodifpogaoioaaGreatAmU
import Derived.Test.YtdodifpogaoioaaGreatProg
set_option linter.unusedSimpArgs false
set_option linter.unusedVariables false
namespace Go.Proofs.Am
open Go Go.RowKit Go.Proofs
theorem TarT_160 : arT Tryz.prog 160 = (some (64, 1)) := by kernel_rfl
theorem TarT_195 : arT Tryz.prog 195 = (some (8, 1)) := by kernel_rfl
theorem TarT_196 : arT Tryz.prog 196 = (some (64, 1)) := by kernel_rfl
theorem TarT_96 : arT Tryz.prog 96 = (some (2, 2)) := by kernel_rfl
theorem TarT_97 : arT Tryz.prog 97 = (some (2, 1)) := by kernel_rfl
theorem TarrOf_195 : arrOf Tryz.prog 195 = (some (8, 191)) := by kernel_rfl
theorem TarrOf_201 : arrOf Tryz.prog 201 = (some (5, 3)) := by kernel_rfl
theorem TelemOf_117 : elemOf Tryz.prog 117 = (some 5) := by kernel_rfl
theorem TelemOf_22 : elemOf Tryz.prog 22 = (some 3) := by kernel_rfl
theorem TflatOf_160 : flatOf Tryz.prog 160 = (some [.bool, .bool, .bool, .bool, .bool, .bool, .bool, .bool, .bool, .bool, .bool, .bool, .bool, .bool, .bool, .bool, .bool, .bool, .bool, .bool, .bool, .bool, .bool, .bool, .bool, .bool, .bool, .bool, .bool, .bool, .bool, .bool, .bool, .bool, .bool, .bool, .bool, .bool, .bool, .bool, .bool, .bool, .bool, .bool, .bool, .bool, .bool, .bool, .bool, .bool, .bool, .bool, .bool, .bool, .bool, .bool, .bool, .bool, .bool, .bool, .bool, .bool, .bool, .bool]) := by kernel_rfl
theorem TflatOf_37 : flatOf Tryz.prog 37 = (some [.int, .int, .int, .int]) := by kernel_rfl
theorem TflatOf_45 : flatOf Tryz.prog 45 = (some [.int, .str]) := by kernel_rfl
theorem Tfo_103_0 : fo Tryz.prog 103 0 = (some 0) := by kernel_rfl
theorem Tfo_103_1 : fo Tryz.prog 103 1 = (some 1) := by kernel_rfl
theorem Tfo_103_2 : fo Tryz.prog 103 2 = (some 2) := by kernel_rfl
theorem Tfo_115_0 : fo Tryz.prog 115 0 = (some 0) := by kernel_rfl
theorem Tfo_115_1 : fo Tryz.prog 115 1 = (some 2) := by kernel_rfl
theorem Tfo_133_0 : fo Tryz.prog 133 0 = (some 0) := by kernel_rfl
theorem Tfo_134_0 : fo Tryz.prog 134 0 = (some 0) := by kernel_rfl
theorem Tfo_147_0 : fo Tryz.prog 147 0 = (some 0) := by kernel_rfl
theorem Tfo_147_1 : fo Tryz.prog 147 1 = (some 1) := by kernel_rfl
theorem Tfo_147_2 : fo Tryz.prog 147 2 = (some 5) := by kernel_rfl
theorem Tfo_158_0 : fo Tryz.prog 158 0 = (some 0) := by kernel_rfl
theorem Tfo_158_1 : fo Tryz.prog 158 1 = (some 1) := by kernel_rfl
theorem Tfo_158_2 : fo Tryz.prog 158 2 = (some 2) := by kernel_rfl
theorem Tfo_28_0 : fo Tryz.prog 28 0 = (some 0) := by kernel_rfl
theorem Tfo_28_1 : fo Tryz.prog 28 1 = (some 1) := by kernel_rfl
theorem Tfo_28_2 : fo Tryz.prog 28 2 = (some 2) := by kernel_rfl
theorem Tfo_30_0 : fo Tryz.prog 30 0 = (some 0) := by kernel_rfl
theorem Tfo_30_1 : fo Tryz.prog 30 1 = (some 1) := by kernel_rfl
theorem Tfo_30_2 : fo Tryz.prog 30 2 = (some 4) := by kernel_rfl
theorem Tfo_30_3 : fo Tryz.prog 30 3 = (some 5) := by kernel_rfl
theorem Tfo_30_4 : fo Tryz.prog 30 4 = (some 6) := by kernel_rfl
theorem Tfo_33_0 : fo Tryz.prog 33 0 = (some 0) := by kernel_rfl
theorem Tfo_33_1 : fo Tryz.prog 33 1 = (some 1) := by kernel_rfl
theorem Tfo_35_0 : fo Tryz.prog 35 0 = (some 0) := by kernel_rfl
theorem Tfo_35_1 : fo Tryz.prog 35 1 = (some 1) := by kernel_rfl
theorem Tfo_35_2 : fo Tryz.prog 35 2 = (some 2) := by kernel_rfl
theorem Tfo_35_3 : fo Tryz.prog 35 3 = (some 3) := by kernel_rfl
theorem Tfo_35_4 : fo Tryz.prog 35 4 = (some 4) := by kernel_rfl
theorem Tfo_37_0 : fo Tryz.prog 37 0 = (some 0) := by kernel_rfl
theorem Tfo_37_1 : fo Tryz.prog 37 1 = (some 1) := by kernel_rfl
theorem Tfo_37_2 : fo Tryz.prog 37 2 = (some 2) := by kernel_rfl
theorem Tfo_37_3 : fo Tryz.prog 37 3 = (some 3) := by kernel_rfl
theorem Tfo_47_0 : fo Tryz.prog 47 0 = (some 0) := by kernel_rfl
theorem Tfo_47_1 : fo Tryz.prog 47 1 = (some 1) := by kernel_rfl
theorem Tfo_47_10 : fo Tryz.prog 47 10 = (some 10) := by kernel_rfl
theorem Tfo_47_11 : fo Tryz.prog 47 11 = (some 11) := by kernel_rfl
theorem Tfo_47_2 : fo Tryz.prog 47 2 = (some 2) := by kernel_rfl
theorem Tfo_47_3 : fo Tryz.prog 47 3 = (some 3) := by kernel_rfl
theorem Tfo_47_4 : fo Tryz.prog 47 4 = (some 4) := by kernel_rfl
theorem Tfo_47_5 : fo Tryz.prog 47 5 = (some 5) := by kernel_rfl
theorem Tfo_47_6 : fo Tryz.prog 47 6 = (some 6) := by kernel_rfl
theorem Tfo_47_7 : fo Tryz.prog 47 7 = (some 7) := by kernel_rfl
theorem Tfo_47_8 : fo Tryz.prog 47 8 = (some 8) := by kernel_rfl
theorem Tfo_47_9 : fo Tryz.prog 47 9 = (some 9) := by kernel_rfl
theorem Tfo_51_0 : fo Tryz.prog 51 0 = (some 0) := by kernel_rfl
theorem Tfo_51_1 : fo Tryz.prog 51 1 = (some 1) := by kernel_rfl
theorem Tfo_51_2 : fo Tryz.prog 51 2 = (some 2) := by kernel_rfl
theorem Tfo_51_3 : fo Tryz.prog 51 3 = (some 3) := by kernel_rfl
theorem Tfo_51_4 : fo Tryz.prog 51 4 = (some 4) := by kernel_rfl
theorem Tfo_51_5 : fo Tryz.prog 51 5 = (some 5) := by kernel_rfl
theorem Tfo_93_0 : fo Tryz.prog 93 0 = (some 0) := by kernel_rfl
theorem Tfo_93_1 : fo Tryz.prog 93 1 = (some 1) := by kernel_rfl
theorem TifT_133 : ifT Tryz.prog 133 = true := by kernel_rfl
theorem TifT_134 : ifT Tryz.prog 134 = true := by kernel_rfl
theorem TisBytes_117 : isBytes Tryz.prog 117 = true := by kernel_rfl
theorem TisSlice_109 : isSlice Tryz.prog 109 = true := by kernel_rfl
theorem TisSlice_111 : isSlice Tryz.prog 111 = true := by kernel_rfl
theorem TisSlice_117 : isSlice Tryz.prog 117 = true := by kernel_rfl
theorem TisSlice_129 : isSlice Tryz.prog 129 = true := by kernel_rfl
theorem TisSlice_135 : isSlice Tryz.prog 135 = true := by kernel_rfl
theorem TisSlice_156 : isSlice Tryz.prog 156 = true := by kernel_rfl
theorem TisSlice_202 : isSlice Tryz.prog 202 = true := by kernel_rfl
theorem TisSlice_22 : isSlice Tryz.prog 22 = true := by kernel_rfl
theorem TisSlice_31 : isSlice Tryz.prog 31 = true := by kernel_rfl
theorem TisSlice_38 : isSlice Tryz.prog 38 = true := by kernel_rfl
theorem TisSlice_67 : isSlice Tryz.prog 67 = true := by kernel_rfl
theorem TisSomeT_191 : isSomeT Tryz.prog 191 = true := by kernel_rfl
theorem TisSomeT_193 : isSomeT Tryz.prog 193 = true := by kernel_rfl
theorem TisSomeT_3 : isSomeT Tryz.prog 3 = true := by kernel_rfl
theorem TisSomeT_5 : isSomeT Tryz.prog 5 = true := by kernel_rfl
theorem TisSomeT_9 : isSomeT Tryz.prog 9 = true := by kernel_rfl
theorem TisStr_117 : isStr Tryz.prog 117 = false := by kernel_rfl
theorem TisStr_9 : isStr Tryz.prog 9 = true := by kernel_rfl
theorem TkindOf_167 : kindOf Tryz.prog 167 = (some .u64) := by kernel_rfl
theorem TkindOf_191 : kindOf Tryz.prog 191 = (some .u32) := by kernel_rfl
theorem TkindOf_193 : kindOf Tryz.prog 193 = (some .u64) := by kernel_rfl
theorem TkindOf_3 : kindOf Tryz.prog 3 = (some .i64) := by kernel_rfl
theorem TkindOf_5 : kindOf Tryz.prog 5 = (some .u8) := by kernel_rfl
theorem TldT_103 : ldT Tryz.prog 103 = (some (some 3)) := by kernel_rfl
theorem TldT_115 : ldT Tryz.prog 115 = (some (some 3)) := by kernel_rfl
theorem TldT_137 : ldT Tryz.prog 137 = (some none) := by kernel_rfl
theorem TldT_147 : ldT Tryz.prog 147 = (some (some 7)) := by kernel_rfl
theorem TldT_156 : ldT Tryz.prog 156 = (some none) := by kernel_rfl
theorem TldT_158 : ldT Tryz.prog 158 = (some (some 3)) := by kernel_rfl
theorem TldT_160 : ldT Tryz.prog 160 = (some (some 64)) := by kernel_rfl
theorem TldT_191 : ldT Tryz.prog 191 = (some none) := by kernel_rfl
theorem TldT_195 : ldT Tryz.prog 195 = (some (some 8)) := by kernel_rfl
theorem TldT_196 : ldT Tryz.prog 196 = (some (some 64)) := by kernel_rfl
theorem TldT_22 : ldT Tryz.prog 22 = (some none) := by kernel_rfl
theorem TldT_244 : ldT Tryz.prog 244 = (some none) := by kernel_rfl
theorem TldT_28 : ldT Tryz.prog 28 = (some (some 3)) := by kernel_rfl
theorem TldT_3 : ldT Tryz.prog 3 = (some none) := by kernel_rfl
theorem TldT_30 : ldT Tryz.prog 30 = (some (some 7)) := by kernel_rfl
theorem TldT_31 : ldT Tryz.prog 31 = (some none) := by kernel_rfl
theorem TldT_33 : ldT Tryz.prog 33 = (some (some 2)) := by kernel_rfl
theorem TldT_35 : ldT Tryz.prog 35 = (some (some 6)) := by kernel_rfl
theorem TldT_37 : ldT Tryz.prog 37 = (some (some 4)) := by kernel_rfl
theorem TldT_4 : ldT Tryz.prog 4 = (some none) := by kernel_rfl
theorem TldT_45 : ldT Tryz.prog 45 = (some (some 2)) := by kernel_rfl
theorem TldT_47 : ldT Tryz.prog 47 = (some (some 13)) := by kernel_rfl
theorem TldT_5 : ldT Tryz.prog 5 = (some none) := by kernel_rfl
theorem TldT_51 : ldT Tryz.prog 51 = (some (some 6)) := by kernel_rfl
theorem TldT_9 : ldT Tryz.prog 9 = (some none) := by kernel_rfl
theorem TldT_96 : ldT Tryz.prog 96 = (some (some 4)) := by kernel_rfl
theorem TldT_97 : ldT Tryz.prog 97 = (some (some 2)) := by kernel_rfl
theorem TmapT_240 : mapT Tryz.prog 240 = (some (9, (.string, 3))) := by kernel_rfl
theorem TplacesOf_103 : placesOf Tryz.prog 103 = (some [(0, 1), (1, 1), (2, 1)]) := by kernel_rfl
theorem TplacesOf_115 : placesOf Tryz.prog 115 = (some [(0, 2), (2, 1)]) := by kernel_rfl
theorem TplacesOf_133 : placesOf Tryz.prog 133 = (some [(0, 4)]) := by kernel_rfl
theorem TplacesOf_134 : placesOf Tryz.prog 134 = (some [(0, 4)]) := by kernel_rfl
theorem TplacesOf_147 : placesOf Tryz.prog 147 = (some [(0, 1), (1, 4), (5, 2)]) := by kernel_rfl
theorem TplacesOf_158 : placesOf Tryz.prog 158 = (some [(0, 1), (1, 1), (2, 1)]) := by kernel_rfl
theorem TplacesOf_160 : placesOf Tryz.prog 160 = (some [(0, 1), (1, 1), (2, 1), (3, 1), (4, 1), (5, 1), (6, 1), (7, 1), (8, 1), (9, 1), (10, 1), (11, 1), (12, 1), (13, 1), (14, 1), (15, 1), (16, 1), (17, 1), (18, 1), (19, 1), (20, 1), (21, 1), (22, 1), (23, 1), (24, 1), (25, 1), (26, 1), (27, 1), (28, 1), (29, 1), (30, 1), (31, 1), (32, 1), (33, 1), (34, 1), (35, 1), (36, 1), (37, 1), (38, 1), (39, 1), (40, 1), (41, 1), (42, 1), (43, 1), (44, 1), (45, 1), (46, 1), (47, 1), (48, 1), (49, 1), (50, 1), (51, 1), (52, 1), (53, 1), (54, 1), (55, 1), (56, 1), (57, 1), (58, 1), (59, 1), (60, 1), (61, 1), (62, 1), (63, 1)]) := by kernel_rfl
theorem TplacesOf_195 : placesOf Tryz.prog 195 = (some [(0, 1), (1, 1), (2, 1), (3, 1), (4, 1), (5, 1), (6, 1), (7, 1)]) := by kernel_rfl
theorem TplacesOf_196 : placesOf Tryz.prog 196 = (some [(0, 1), (1, 1), (2, 1), (3, 1), (4, 1), (5, 1), (6, 1), (7, 1), (8, 1), (9, 1), (10, 1), (11, 1), (12, 1), (13, 1), (14, 1), (15, 1), (16, 1), (17, 1), (18, 1), (19, 1), (20, 1), (21, 1), (22, 1), (23, 1), (24, 1), (25, 1), (26, 1), (27, 1), (28, 1), (29, 1), (30, 1), (31, 1), (32, 1), (33, 1), (34, 1), (35, 1), (36, 1), (37, 1), (38, 1), (39, 1), (40, 1), (41, 1), (42, 1), (43, 1), (44, 1), (45, 1), (46, 1), (47, 1), (48, 1), (49, 1), (50, 1), (51, 1), (52, 1), (53, 1), (54, 1), (55, 1), (56, 1), (57, 1), (58, 1), (59, 1), (60, 1), (61, 1), (62, 1), (63, 1)]) := by kernel_rfl
theorem TplacesOf_201 : placesOf Tryz.prog 201 = (some [(0, 1), (1, 1), (2, 1), (3, 1), (4, 1)]) := by kernel_rfl
theorem TplacesOf_28 : placesOf Tryz.prog 28 = (some [(0, 1), (1, 1), (2, 1)]) := by kernel_rfl
theorem TplacesOf_30 : placesOf Tryz.prog 30 = (some [(0, 1), (1, 3), (4, 1), (5, 1), (6, 1)]) := by kernel_rfl
theorem TplacesOf_33 : placesOf Tryz.prog 33 = (some [(0, 1), (1, 1)]) := by kernel_rfl
theorem TplacesOf_35 : placesOf Tryz.prog 35 = (some [(0, 1), (1, 1), (2, 1), (3, 1), (4, 2)]) := by kernel_rfl
theorem TplacesOf_37 : placesOf Tryz.prog 37 = (some [(0, 1), (1, 1), (2, 1), (3, 1)]) := by kernel_rfl
theorem TplacesOf_45 : placesOf Tryz.prog 45 = (some [(0, 1), (1, 1)]) := by kernel_rfl
theorem TplacesOf_47 : placesOf Tryz.prog 47 = (some [(0, 1), (1, 1), (2, 1), (3, 1), (4, 1), (5, 1), (6, 1), (7, 1), (8, 1), (9, 1), (10, 1), (11, 2)]) := by kernel_rfl
theorem TplacesOf_51 : placesOf Tryz.prog 51 = (some [(0, 1), (1, 1), (2, 1), (3, 1), (4, 1), (5, 1)]) := by kernel_rfl
theorem TplacesOf_93 : placesOf Tryz.prog 93 = (some [(0, 1), (1, 1)]) := by kernel_rfl
theorem TrowOf_191 : rowOf Tryz.prog 191 = (some false) := by kernel_rfl
theorem TrowOf_3 : rowOf Tryz.prog 3 = (some false) := by kernel_rfl
theorem TslT_109 : slT Tryz.prog 109 = (some (115, (3, 72))) := by kernel_rfl
theorem TslT_111 : slT Tryz.prog 111 = (some (147, (7, 88))) := by kernel_rfl
theorem TslT_117 : slT Tryz.prog 117 = (some (5, (1, 1))) := by kernel_rfl
theorem TslT_129 : slT Tryz.prog 129 = (some (35, (6, 104))) := by kernel_rfl
theorem TslT_135 : slT Tryz.prog 135 = (some (137, (1, 16))) := by kernel_rfl
theorem TslT_202 : slT Tryz.prog 202 = (some (191, (1, 4))) := by kernel_rfl
theorem TslT_22 : slT Tryz.prog 22 = (some (3, (1, 8))) := by kernel_rfl
theorem TslT_31 : slT Tryz.prog 31 = (some (103, (3, 32))) := by kernel_rfl
theorem TslT_38 : slT Tryz.prog 38 = (some (47, (13, 160))) := by kernel_rfl
theorem TslT_67 : slT Tryz.prog 67 = (some (33, (2, 48))) := by kernel_rfl
theorem TszOf_103 : szOf Tryz.prog 103 = (some 3) := by kernel_rfl
theorem TszOf_115 : szOf Tryz.prog 115 = (some 3) := by kernel_rfl
theorem TszOf_147 : szOf Tryz.prog 147 = (some 7) := by kernel_rfl
theorem TszOf_160 : szOf Tryz.prog 160 = (some 64) := by kernel_rfl
theorem TszOf_191 : szOf Tryz.prog 191 = (some 1) := by kernel_rfl
theorem TszOf_195 : szOf Tryz.prog 195 = (some 8) := by kernel_rfl
theorem TszOf_196 : szOf Tryz.prog 196 = (some 64) := by kernel_rfl
theorem TszOf_22 : szOf Tryz.prog 22 = (some 1) := by kernel_rfl
theorem TszOf_244 : szOf Tryz.prog 244 = (some 1) := by kernel_rfl
theorem TszOf_28 : szOf Tryz.prog 28 = (some 3) := by kernel_rfl
theorem TszOf_3 : szOf Tryz.prog 3 = (some 1) := by kernel_rfl
theorem TszOf_30 : szOf Tryz.prog 30 = (some 7) := by kernel_rfl
theorem TszOf_31 : szOf Tryz.prog 31 = (some 1) := by kernel_rfl
theorem TszOf_33 : szOf Tryz.prog 33 = (some 2) := by kernel_rfl
theorem TszOf_35 : szOf Tryz.prog 35 = (some 6) := by kernel_rfl
theorem TszOf_37 : szOf Tryz.prog 37 = (some 4) := by kernel_rfl
theorem TszOf_4 : szOf Tryz.prog 4 = (some 1) := by kernel_rfl
theorem TszOf_45 : szOf Tryz.prog 45 = (some 2) := by kernel_rfl
theorem TszOf_47 : szOf Tryz.prog 47 = (some 13) := by kernel_rfl
theorem TszOf_5 : szOf Tryz.prog 5 = (some 1) := by kernel_rfl
theorem TszOf_51 : szOf Tryz.prog 51 = (some 6) := by kernel_rfl
theorem TszOf_9 : szOf Tryz.prog 9 = (some 1) := by kernel_rfl
theorem TszOf_96 : szOf Tryz.prog 96 = (some 4) := by kernel_rfl
theorem TszOf_97 : szOf Tryz.prog 97 = (some 2) := by kernel_rfl
theorem TzeroOf_103 : zeroOf Tryz.prog 103 = (some [(.int .i64 0), (.int .i64 0), (.str [])]) := by kernel_rfl
theorem TzeroOf_115 : zeroOf Tryz.prog 115 = (some [.nils, .nils, .nils]) := by kernel_rfl
theorem TzeroOf_133 : zeroOf Tryz.prog 133 = (some [(.int .i64 0), (.int .i64 0), (.int .i64 0), (.int .i64 0)]) := by kernel_rfl
theorem TzeroOf_134 : zeroOf Tryz.prog 134 = (some [(.int .i64 0), (.int .i64 0), (.int .i64 0), (.int .i64 0)]) := by kernel_rfl
theorem TzeroOf_147 : zeroOf Tryz.prog 147 = (some [(.int .i64 0), (.int .i64 0), (.int .i64 0), (.int .i64 0), (.int .i64 0), .nils, .nils]) := by kernel_rfl
theorem TzeroOf_158 : zeroOf Tryz.prog 158 = (some [(.int .i64 0), .nils, .nils]) := by kernel_rfl
theorem TzeroOf_160 : zeroOf Tryz.prog 160 = (some [(.bool false), (.bool false), (.bool false), (.bool false), (.bool false), (.bool false), (.bool false), (.bool false), (.bool false), (.bool false), (.bool false), (.bool false), (.bool false), (.bool false), (.bool false), (.bool false), (.bool false), (.bool false), (.bool false), (.bool false), (.bool false), (.bool false), (.bool false), (.bool false), (.bool false), (.bool false), (.bool false), (.bool false), (.bool false), (.bool false), (.bool false), (.bool false), (.bool false), (.bool false), (.bool false), (.bool false), (.bool false), (.bool false), (.bool false), (.bool false), (.bool false), (.bool false), (.bool false), (.bool false), (.bool false), (.bool false), (.bool false), (.bool false), (.bool false), (.bool false), (.bool false), (.bool false), (.bool false), (.bool false), (.bool false), (.bool false), (.bool false), (.bool false), (.bool false), (.bool false), (.bool false), (.bool false), (.bool false), (.bool false)]) := by kernel_rfl
theorem TzeroOf_191 : zeroOf Tryz.prog 191 = (some [(.int .u32 0)]) := by kernel_rfl
theorem TzeroOf_195 : zeroOf Tryz.prog 195 = (some [(.int .u32 0), (.int .u32 0), (.int .u32 0), (.int .u32 0), (.int .u32 0), (.int .u32 0), (.int .u32 0), (.int .u32 0)]) := by kernel_rfl
theorem TzeroOf_196 : zeroOf Tryz.prog 196 = (some [(.int .u32 0), (.int .u32 0), (.int .u32 0), (.int .u32 0), (.int .u32 0), (.int .u32 0), (.int .u32 0), (.int .u32 0), (.int .u32 0), (.int .u32 0), (.int .u32 0), (.int .u32 0), (.int .u32 0), (.int .u32 0), (.int .u32 0), (.int .u32 0), (.int .u32 0), (.int .u32 0), (.int .u32 0), (.int .u32 0), (.int .u32 0), (.int .u32 0), (.int .u32 0), (.int .u32 0), (.int .u32 0), (.int .u32 0), (.int .u32 0), (.int .u32 0), (.int .u32 0), (.int .u32 0), (.int .u32 0), (.int .u32 0), (.int .u32 0), (.int .u32 0), (.int .u32 0), (.int .u32 0), (.int .u32 0), (.int .u32 0), (.int .u32 0), (.int .u32 0), (.int .u32 0), (.int .u32 0), (.int .u32 0), (.int .u32 0), (.int .u32 0), (.int .u32 0), (.int .u32 0), (.int .u32 0), (.int .u32 0), (.int .u32 0), (.int .u32 0), (.int .u32 0), (.int .u32 0), (.int .u32 0), (.int .u32 0), (.int .u32 0), (.int .u32 0), (.int .u32 0), (.int .u32 0), (.int .u32 0), (.int .u32 0), (.int .u32 0), (.int .u32 0), (.int .u32 0)]) := by kernel_rfl
theorem TzeroOf_201 : zeroOf Tryz.prog 201 = (some [(.int .i64 0), (.int .i64 0), (.int .i64 0), (.int .i64 0), (.int .i64 0)]) := by kernel_rfl
theorem TzeroOf_244 : zeroOf Tryz.prog 244 = (some [.nilf]) := by kernel_rfl
theorem TzeroOf_28 : zeroOf Tryz.prog 28 = (some [.nils, .nils, (.int .i64 0)]) := by kernel_rfl
theorem TzeroOf_30 : zeroOf Tryz.prog 30 = (some [.nils, .nils, .nils, (.int .i64 0), (.int .i64 0), (.int .i64 0), (.int .i64 0)]) := by kernel_rfl
theorem TzeroOf_33 : zeroOf Tryz.prog 33 = (some [.nils, .nils]) := by kernel_rfl
theorem TzeroOf_35 : zeroOf Tryz.prog 35 = (some [(.int .i64 0), .nils, (.str []), (.bool false), .nils, .nils]) := by kernel_rfl
theorem TzeroOf_37 : zeroOf Tryz.prog 37 = (some [(.int .i64 0), (.int .i64 0), (.int .i64 0), (.int .i64 0)]) := by kernel_rfl
theorem TzeroOf_45 : zeroOf Tryz.prog 45 = (some [(.int .i64 0), (.str [])]) := by kernel_rfl
theorem TzeroOf_47 : zeroOf Tryz.prog 47 = (some [(.int .i64 0), (.int .i64 0), (.str []), (.int .i64 0), (.int .i64 0), (.int .i64 0), (.int .i64 0), (.int .i64 0), .nils, .nils, (.str []), (.int .i64 0), (.str [])]) := by kernel_rfl
theorem TzeroOf_5 : zeroOf Tryz.prog 5 = (some [(.int .u8 0)]) := by kernel_rfl
theorem TzeroOf_51 : zeroOf Tryz.prog 51 = (some [(.int .i64 0), (.int .i64 0), (.int .i64 0), (.int .i64 0), .nils, .nils]) := by kernel_rfl
theorem TzeroOf_93 : zeroOf Tryz.prog 93 = (some [.nils, (.int .i64 0)]) := by kernel_rfl
theorem TzeroOf_96 : zeroOf Tryz.prog 96 = (some [.nils, .nils, .nils, .nils]) := by kernel_rfl
theorem TzeroOf_97 : zeroOf Tryz.prog 97 = (some [(.bool false), (.bool false)]) := by kernel_rfl
theorem TzeroV_3 : zeroV Tryz.prog 3 = (some (.int .i64 0)) := by kernel_rfl
theorem TmethT_133_trustflow_appeal_decided : methT Tryz.prog 133 "trustflow/appeal.decided" = some 196 := by kernel_rfl
theorem TmethT_134_trustflow_appeal_decided : methT Tryz.prog 134 "trustflow/appeal.decided" = some 296 := by kernel_rfl
attribute [go_sem] TarT_160 TarT_195 TarT_196 TarT_96 TarT_97 TarrOf_195 TarrOf_201 TelemOf_117 TelemOf_22 TflatOf_160 TflatOf_37 TflatOf_45 Tfo_103_0 Tfo_103_1 Tfo_103_2 Tfo_115_0 Tfo_115_1 Tfo_133_0 Tfo_134_0 Tfo_147_0 Tfo_147_1 Tfo_147_2 Tfo_158_0 Tfo_158_1 Tfo_158_2 Tfo_28_0 Tfo_28_1 Tfo_28_2
attribute [go_sem] Tfo_30_0 Tfo_30_1 Tfo_30_2 Tfo_30_3 Tfo_30_4 Tfo_33_0 Tfo_33_1 Tfo_35_0 Tfo_35_1 Tfo_35_2 Tfo_35_3 Tfo_35_4 Tfo_37_0 Tfo_37_1 Tfo_37_2 Tfo_37_3 Tfo_47_0 Tfo_47_1 Tfo_47_10 Tfo_47_11 Tfo_47_2 Tfo_47_3 Tfo_47_4 Tfo_47_5 Tfo_47_6 Tfo_47_7 Tfo_47_8 Tfo_47_9 Tfo_51_0 Tfo_51_1 Tfo_51_2 Tfo_51_3 Tfo_51_4 Tfo_51_5 Tfo_93_0 Tfo_93_1
attribute [go_sem] TifT_133 TifT_134 TisBytes_117 TisSlice_109 TisSlice_111 TisSlice_117 TisSlice_129 TisSlice_135 TisSlice_156 TisSlice_202 TisSlice_22 TisSlice_31 TisSlice_38 TisSlice_67 TisSomeT_191 TisSomeT_193 TisSomeT_3 TisSomeT_5 TisSomeT_9
attribute [go_sem] TisStr_117 TisStr_9 TkindOf_167 TkindOf_191 TkindOf_193 TkindOf_3
attribute [go_sem] TkindOf_5 TldT_103 TldT_115 TldT_137 TldT_147 TldT_156 TldT_158 TldT_160 TldT_191 TldT_195 TldT_196 TldT_22 TldT_244 TldT_28 TldT_3 TldT_30 TldT_31 TldT_33 TldT_35 TldT_37 TldT_4 TldT_45 TldT_47 TldT_5 TldT_51 TldT_9 TldT_96 TldT_97 TmapT_240
attribute [go_sem] TplacesOf_103 TplacesOf_115 TplacesOf_133 TplacesOf_134 TplacesOf_147 TplacesOf_158 TplacesOf_160 TplacesOf_195 TplacesOf_196 TplacesOf_201 TplacesOf_28 TplacesOf_30 TplacesOf_33 TplacesOf_35 TplacesOf_37 TplacesOf_45 TplacesOf_47 TplacesOf_51 TplacesOf_93 TrowOf_191 TrowOf_3 TslT_109 TslT_111 TslT_117 TslT_129 TslT_135 TslT_202 TslT_22 TslT_31 TslT_38 TslT_67
attribute [go_sem] TszOf_103 TszOf_115 TszOf_147 TszOf_160 TszOf_191 TszOf_195 TszOf_196 TszOf_22 TszOf_244 TszOf_28 TszOf_3 TszOf_30 TszOf_31 TszOf_33 TszOf_35 TszOf_37 TszOf_4 TszOf_45 TszOf_47 TszOf_5 TszOf_51 TszOf_9 TszOf_96 TszOf_97 TzeroOf_103 TzeroOf_115 TzeroOf_133 TzeroOf_134 TzeroOf_147
attribute [go_sem] TzeroOf_158 TzeroOf_160 TzeroOf_191 TzeroOf_195 TzeroOf_196 TzeroOf_201 TzeroOf_244 TzeroOf_28 TzeroOf_30 TzeroOf_33 TzeroOf_35 TzeroOf_37 TzeroOf_45 TzeroOf_47 TzeroOf_5 TzeroOf_51 TzeroOf_93 TzeroOf_96 TzeroOf_97 TzeroV_3 TmethT_133_trustflow_appeal_decided TmethT_134_trustflow_appeal_decided
attribute [go_sem_proc] reduceCtorEq Nat.reduceEqDiff Nat.reduceAdd Nat.reduceSub Nat.reduceMul Nat.reduceLT Nat.reduceLeDiff Int.reduceLT Int.reduceLE Int.reduceEq Int.reduceNe Int.reduceToNat Int.reduceAdd Int.reduceSub Int.reduceMul
attribute [go_sem_proc ↓] reduceIte
attribute [go_sem] Int.natCast_zero
end Go.Proofs.Am
