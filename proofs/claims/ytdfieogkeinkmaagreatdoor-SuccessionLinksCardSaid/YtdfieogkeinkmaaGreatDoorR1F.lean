/- R1F. -/
import Derived.Test.YtdfieogkeinkmaaGreatDoorAmU
import Derived.Test.YtdfieogkeinkmaaGreatDoorProg
set_option linter.unusedSimpArgs false
set_option linter.unusedVariables false
namespace Go.Proofs.Am
open Go Go.RowKit Go.Proofs
theorem TarT_172 : arT Tryz.prog 172 = (some (64, 1)) := by kernel_rfl
theorem TarT_178 : arT Tryz.prog 178 = (some (8, 1)) := by kernel_rfl
theorem TarT_179 : arT Tryz.prog 179 = (some (64, 1)) := by kernel_rfl
theorem TarrOf_178 : arrOf Tryz.prog 178 = (some (8, 156)) := by kernel_rfl
theorem TarrOf_199 : arrOf Tryz.prog 199 = (some (5, 3)) := by kernel_rfl
theorem TelemOf_105 : elemOf Tryz.prog 105 = (some 5) := by kernel_rfl
theorem TelemOf_22 : elemOf Tryz.prog 22 = (some 3) := by kernel_rfl
theorem TflatOf_172 : flatOf Tryz.prog 172 = (some [.bool, .bool, .bool, .bool, .bool, .bool, .bool, .bool, .bool, .bool, .bool, .bool, .bool, .bool, .bool, .bool, .bool, .bool, .bool, .bool, .bool, .bool, .bool, .bool, .bool, .bool, .bool, .bool, .bool, .bool, .bool, .bool, .bool, .bool, .bool, .bool, .bool, .bool, .bool, .bool, .bool, .bool, .bool, .bool, .bool, .bool, .bool, .bool, .bool, .bool, .bool, .bool, .bool, .bool, .bool, .bool, .bool, .bool, .bool, .bool, .bool, .bool, .bool, .bool]) := by kernel_rfl
theorem TflatOf_24 : flatOf Tryz.prog 24 = (some [.int, .int, .int, .int]) := by kernel_rfl
theorem TflatOf_39 : flatOf Tryz.prog 39 = (some [.int, .str]) := by kernel_rfl
theorem Tfo_103_0 : fo Tryz.prog 103 0 = (some 0) := by kernel_rfl
theorem Tfo_103_1 : fo Tryz.prog 103 1 = (some 1) := by kernel_rfl
theorem Tfo_108_0 : fo Tryz.prog 108 0 = (some 0) := by kernel_rfl
theorem Tfo_108_1 : fo Tryz.prog 108 1 = (some 1) := by kernel_rfl
theorem Tfo_108_2 : fo Tryz.prog 108 2 = (some 5) := by kernel_rfl
theorem Tfo_124_0 : fo Tryz.prog 124 0 = (some 0) := by kernel_rfl
theorem Tfo_124_1 : fo Tryz.prog 124 1 = (some 2) := by kernel_rfl
theorem Tfo_150_0 : fo Tryz.prog 150 0 = (some 0) := by kernel_rfl
theorem Tfo_150_1 : fo Tryz.prog 150 1 = (some 1) := by kernel_rfl
theorem Tfo_150_2 : fo Tryz.prog 150 2 = (some 2) := by kernel_rfl
theorem Tfo_24_0 : fo Tryz.prog 24 0 = (some 0) := by kernel_rfl
theorem Tfo_24_1 : fo Tryz.prog 24 1 = (some 1) := by kernel_rfl
theorem Tfo_24_2 : fo Tryz.prog 24 2 = (some 2) := by kernel_rfl
theorem Tfo_24_3 : fo Tryz.prog 24 3 = (some 3) := by kernel_rfl
theorem Tfo_27_0 : fo Tryz.prog 27 0 = (some 0) := by kernel_rfl
theorem Tfo_27_1 : fo Tryz.prog 27 1 = (some 4) := by kernel_rfl
theorem Tfo_36_0 : fo Tryz.prog 36 0 = (some 0) := by kernel_rfl
theorem Tfo_36_1 : fo Tryz.prog 36 1 = (some 1) := by kernel_rfl
theorem Tfo_39_0 : fo Tryz.prog 39 0 = (some 0) := by kernel_rfl
theorem Tfo_39_1 : fo Tryz.prog 39 1 = (some 1) := by kernel_rfl
theorem Tfo_41_0 : fo Tryz.prog 41 0 = (some 0) := by kernel_rfl
theorem Tfo_41_1 : fo Tryz.prog 41 1 = (some 1) := by kernel_rfl
theorem Tfo_41_10 : fo Tryz.prog 41 10 = (some 10) := by kernel_rfl
theorem Tfo_41_11 : fo Tryz.prog 41 11 = (some 11) := by kernel_rfl
theorem Tfo_41_2 : fo Tryz.prog 41 2 = (some 2) := by kernel_rfl
theorem Tfo_41_3 : fo Tryz.prog 41 3 = (some 3) := by kernel_rfl
theorem Tfo_41_4 : fo Tryz.prog 41 4 = (some 4) := by kernel_rfl
theorem Tfo_41_5 : fo Tryz.prog 41 5 = (some 5) := by kernel_rfl
theorem Tfo_41_6 : fo Tryz.prog 41 6 = (some 6) := by kernel_rfl
theorem Tfo_41_7 : fo Tryz.prog 41 7 = (some 7) := by kernel_rfl
theorem Tfo_41_8 : fo Tryz.prog 41 8 = (some 8) := by kernel_rfl
theorem Tfo_41_9 : fo Tryz.prog 41 9 = (some 9) := by kernel_rfl
theorem Tfo_51_0 : fo Tryz.prog 51 0 = (some 0) := by kernel_rfl
theorem Tfo_51_1 : fo Tryz.prog 51 1 = (some 1) := by kernel_rfl
theorem Tfo_51_2 : fo Tryz.prog 51 2 = (some 2) := by kernel_rfl
theorem Tfo_53_0 : fo Tryz.prog 53 0 = (some 0) := by kernel_rfl
theorem Tfo_53_1 : fo Tryz.prog 53 1 = (some 1) := by kernel_rfl
theorem Tfo_53_2 : fo Tryz.prog 53 2 = (some 4) := by kernel_rfl
theorem Tfo_53_3 : fo Tryz.prog 53 3 = (some 5) := by kernel_rfl
theorem Tfo_53_4 : fo Tryz.prog 53 4 = (some 6) := by kernel_rfl
theorem Tfo_64_0 : fo Tryz.prog 64 0 = (some 0) := by kernel_rfl
theorem Tfo_64_1 : fo Tryz.prog 64 1 = (some 1) := by kernel_rfl
theorem Tfo_64_2 : fo Tryz.prog 64 2 = (some 2) := by kernel_rfl
theorem Tfo_64_3 : fo Tryz.prog 64 3 = (some 3) := by kernel_rfl
theorem Tfo_64_4 : fo Tryz.prog 64 4 = (some 4) := by kernel_rfl
theorem Tfo_80_0 : fo Tryz.prog 80 0 = (some 0) := by kernel_rfl
theorem Tfo_84_0 : fo Tryz.prog 84 0 = (some 0) := by kernel_rfl
theorem Tfo_84_1 : fo Tryz.prog 84 1 = (some 1) := by kernel_rfl
theorem Tfo_84_2 : fo Tryz.prog 84 2 = (some 2) := by kernel_rfl
theorem Tfo_84_3 : fo Tryz.prog 84 3 = (some 3) := by kernel_rfl
theorem Tfo_84_4 : fo Tryz.prog 84 4 = (some 4) := by kernel_rfl
theorem Tfo_84_5 : fo Tryz.prog 84 5 = (some 5) := by kernel_rfl
theorem Tfo_99_0 : fo Tryz.prog 99 0 = (some 0) := by kernel_rfl
theorem Tfo_99_1 : fo Tryz.prog 99 1 = (some 1) := by kernel_rfl
theorem Tfo_99_2 : fo Tryz.prog 99 2 = (some 2) := by kernel_rfl
theorem TisBytes_105 : isBytes Tryz.prog 105 = true := by kernel_rfl
theorem TisSlice_105 : isSlice Tryz.prog 105 = true := by kernel_rfl
theorem TisSlice_119 : isSlice Tryz.prog 119 = true := by kernel_rfl
theorem TisSlice_121 : isSlice Tryz.prog 121 = true := by kernel_rfl
theorem TisSlice_138 : isSlice Tryz.prog 138 = true := by kernel_rfl
theorem TisSlice_148 : isSlice Tryz.prog 148 = true := by kernel_rfl
theorem TisSlice_157 : isSlice Tryz.prog 157 = true := by kernel_rfl
theorem TisSlice_22 : isSlice Tryz.prog 22 = true := by kernel_rfl
theorem TisSlice_25 : isSlice Tryz.prog 25 = true := by kernel_rfl
theorem TisSlice_34 : isSlice Tryz.prog 34 = true := by kernel_rfl
theorem TisSlice_56 : isSlice Tryz.prog 56 = true := by kernel_rfl
theorem TisSlice_66 : isSlice Tryz.prog 66 = true := by kernel_rfl
theorem TisSomeT_156 : isSomeT Tryz.prog 156 = true := by kernel_rfl
theorem TisSomeT_158 : isSomeT Tryz.prog 158 = true := by kernel_rfl
theorem TisSomeT_21 : isSomeT Tryz.prog 21 = true := by kernel_rfl
theorem TisSomeT_3 : isSomeT Tryz.prog 3 = true := by kernel_rfl
theorem TisSomeT_5 : isSomeT Tryz.prog 5 = true := by kernel_rfl
theorem TisSomeT_9 : isSomeT Tryz.prog 9 = true := by kernel_rfl
theorem TisStr_105 : isStr Tryz.prog 105 = false := by kernel_rfl
theorem TisStr_9 : isStr Tryz.prog 9 = true := by kernel_rfl
theorem TkindOf_131 : kindOf Tryz.prog 131 = (some .u64) := by kernel_rfl
theorem TkindOf_156 : kindOf Tryz.prog 156 = (some .u32) := by kernel_rfl
theorem TkindOf_158 : kindOf Tryz.prog 158 = (some .u64) := by kernel_rfl
theorem TkindOf_3 : kindOf Tryz.prog 3 = (some .i64) := by kernel_rfl
theorem TkindOf_5 : kindOf Tryz.prog 5 = (some .u8) := by kernel_rfl
theorem TldT_108 : ldT Tryz.prog 108 = (some (some 7)) := by kernel_rfl
theorem TldT_124 : ldT Tryz.prog 124 = (some (some 3)) := by kernel_rfl
theorem TldT_148 : ldT Tryz.prog 148 = (some none) := by kernel_rfl
theorem TldT_150 : ldT Tryz.prog 150 = (some (some 3)) := by kernel_rfl
theorem TldT_156 : ldT Tryz.prog 156 = (some none) := by kernel_rfl
theorem TldT_172 : ldT Tryz.prog 172 = (some (some 64)) := by kernel_rfl
theorem TldT_178 : ldT Tryz.prog 178 = (some (some 8)) := by kernel_rfl
theorem TldT_179 : ldT Tryz.prog 179 = (some (some 64)) := by kernel_rfl
theorem TldT_194 : ldT Tryz.prog 194 = (some none) := by kernel_rfl
theorem TldT_22 : ldT Tryz.prog 22 = (some none) := by kernel_rfl
theorem TldT_24 : ldT Tryz.prog 24 = (some (some 4)) := by kernel_rfl
theorem TldT_25 : ldT Tryz.prog 25 = (some none) := by kernel_rfl
theorem TldT_27 : ldT Tryz.prog 27 = (some (some 5)) := by kernel_rfl
theorem TldT_3 : ldT Tryz.prog 3 = (some none) := by kernel_rfl
theorem TldT_34 : ldT Tryz.prog 34 = (some none) := by kernel_rfl
theorem TldT_36 : ldT Tryz.prog 36 = (some (some 2)) := by kernel_rfl
theorem TldT_39 : ldT Tryz.prog 39 = (some (some 2)) := by kernel_rfl
theorem TldT_4 : ldT Tryz.prog 4 = (some none) := by kernel_rfl
theorem TldT_41 : ldT Tryz.prog 41 = (some (some 13)) := by kernel_rfl
theorem TldT_5 : ldT Tryz.prog 5 = (some none) := by kernel_rfl
theorem TldT_51 : ldT Tryz.prog 51 = (some (some 3)) := by kernel_rfl
theorem TldT_53 : ldT Tryz.prog 53 = (some (some 7)) := by kernel_rfl
theorem TldT_64 : ldT Tryz.prog 64 = (some (some 6)) := by kernel_rfl
theorem TldT_84 : ldT Tryz.prog 84 = (some (some 6)) := by kernel_rfl
theorem TldT_9 : ldT Tryz.prog 9 = (some none) := by kernel_rfl
theorem TldT_99 : ldT Tryz.prog 99 = (some (some 3)) := by kernel_rfl
theorem TmapT_188 : mapT Tryz.prog 188 = (some (9, (.string, 3))) := by kernel_rfl
theorem TplacesOf_103 : placesOf Tryz.prog 103 = (some [(0, 1), (1, 1)]) := by kernel_rfl
theorem TplacesOf_108 : placesOf Tryz.prog 108 = (some [(0, 1), (1, 4), (5, 2)]) := by kernel_rfl
theorem TplacesOf_124 : placesOf Tryz.prog 124 = (some [(0, 2), (2, 1)]) := by kernel_rfl
theorem TplacesOf_150 : placesOf Tryz.prog 150 = (some [(0, 1), (1, 1), (2, 1)]) := by kernel_rfl
theorem TplacesOf_172 : placesOf Tryz.prog 172 = (some [(0, 1), (1, 1), (2, 1), (3, 1), (4, 1), (5, 1), (6, 1), (7, 1), (8, 1), (9, 1), (10, 1), (11, 1), (12, 1), (13, 1), (14, 1), (15, 1), (16, 1), (17, 1), (18, 1), (19, 1), (20, 1), (21, 1), (22, 1), (23, 1), (24, 1), (25, 1), (26, 1), (27, 1), (28, 1), (29, 1), (30, 1), (31, 1), (32, 1), (33, 1), (34, 1), (35, 1), (36, 1), (37, 1), (38, 1), (39, 1), (40, 1), (41, 1), (42, 1), (43, 1), (44, 1), (45, 1), (46, 1), (47, 1), (48, 1), (49, 1), (50, 1), (51, 1), (52, 1), (53, 1), (54, 1), (55, 1), (56, 1), (57, 1), (58, 1), (59, 1), (60, 1), (61, 1), (62, 1), (63, 1)]) := by kernel_rfl
theorem TplacesOf_178 : placesOf Tryz.prog 178 = (some [(0, 1), (1, 1), (2, 1), (3, 1), (4, 1), (5, 1), (6, 1), (7, 1)]) := by kernel_rfl
theorem TplacesOf_179 : placesOf Tryz.prog 179 = (some [(0, 1), (1, 1), (2, 1), (3, 1), (4, 1), (5, 1), (6, 1), (7, 1), (8, 1), (9, 1), (10, 1), (11, 1), (12, 1), (13, 1), (14, 1), (15, 1), (16, 1), (17, 1), (18, 1), (19, 1), (20, 1), (21, 1), (22, 1), (23, 1), (24, 1), (25, 1), (26, 1), (27, 1), (28, 1), (29, 1), (30, 1), (31, 1), (32, 1), (33, 1), (34, 1), (35, 1), (36, 1), (37, 1), (38, 1), (39, 1), (40, 1), (41, 1), (42, 1), (43, 1), (44, 1), (45, 1), (46, 1), (47, 1), (48, 1), (49, 1), (50, 1), (51, 1), (52, 1), (53, 1), (54, 1), (55, 1), (56, 1), (57, 1), (58, 1), (59, 1), (60, 1), (61, 1), (62, 1), (63, 1)]) := by kernel_rfl
theorem TplacesOf_199 : placesOf Tryz.prog 199 = (some [(0, 1), (1, 1), (2, 1), (3, 1), (4, 1)]) := by kernel_rfl
theorem TplacesOf_24 : placesOf Tryz.prog 24 = (some [(0, 1), (1, 1), (2, 1), (3, 1)]) := by kernel_rfl
theorem TplacesOf_27 : placesOf Tryz.prog 27 = (some [(0, 4), (4, 1)]) := by kernel_rfl
theorem TplacesOf_36 : placesOf Tryz.prog 36 = (some [(0, 1), (1, 1)]) := by kernel_rfl
theorem TplacesOf_39 : placesOf Tryz.prog 39 = (some [(0, 1), (1, 1)]) := by kernel_rfl
theorem TplacesOf_41 : placesOf Tryz.prog 41 = (some [(0, 1), (1, 1), (2, 1), (3, 1), (4, 1), (5, 1), (6, 1), (7, 1), (8, 1), (9, 1), (10, 1), (11, 2)]) := by kernel_rfl
theorem TplacesOf_51 : placesOf Tryz.prog 51 = (some [(0, 1), (1, 1), (2, 1)]) := by kernel_rfl
theorem TplacesOf_53 : placesOf Tryz.prog 53 = (some [(0, 1), (1, 3), (4, 1), (5, 1), (6, 1)]) := by kernel_rfl
theorem TplacesOf_64 : placesOf Tryz.prog 64 = (some [(0, 1), (1, 1), (2, 1), (3, 1), (4, 2)]) := by kernel_rfl
theorem TplacesOf_80 : placesOf Tryz.prog 80 = (some [(0, 1)]) := by kernel_rfl
theorem TplacesOf_84 : placesOf Tryz.prog 84 = (some [(0, 1), (1, 1), (2, 1), (3, 1), (4, 1), (5, 1)]) := by kernel_rfl
theorem TplacesOf_99 : placesOf Tryz.prog 99 = (some [(0, 1), (1, 1), (2, 1)]) := by kernel_rfl
theorem TrowOf_156 : rowOf Tryz.prog 156 = (some false) := by kernel_rfl
theorem TrowOf_3 : rowOf Tryz.prog 3 = (some false) := by kernel_rfl
theorem TslT_105 : slT Tryz.prog 105 = (some (5, (1, 1))) := by kernel_rfl
theorem TslT_119 : slT Tryz.prog 119 = (some (124, (3, 72))) := by kernel_rfl
theorem TslT_121 : slT Tryz.prog 121 = (some (108, (7, 88))) := by kernel_rfl
theorem TslT_138 : slT Tryz.prog 138 = (some (22, (1, 24))) := by kernel_rfl
theorem TslT_157 : slT Tryz.prog 157 = (some (156, (1, 4))) := by kernel_rfl
theorem TslT_22 : slT Tryz.prog 22 = (some (3, (1, 8))) := by kernel_rfl
theorem TslT_25 : slT Tryz.prog 25 = (some (41, (13, 160))) := by kernel_rfl
theorem TslT_34 : slT Tryz.prog 34 = (some (99, (3, 32))) := by kernel_rfl
theorem TslT_56 : slT Tryz.prog 56 = (some (64, (6, 104))) := by kernel_rfl
theorem TslT_66 : slT Tryz.prog 66 = (some (36, (2, 48))) := by kernel_rfl
theorem TszOf_108 : szOf Tryz.prog 108 = (some 7) := by kernel_rfl
theorem TszOf_124 : szOf Tryz.prog 124 = (some 3) := by kernel_rfl
theorem TszOf_156 : szOf Tryz.prog 156 = (some 1) := by kernel_rfl
theorem TszOf_172 : szOf Tryz.prog 172 = (some 64) := by kernel_rfl
theorem TszOf_178 : szOf Tryz.prog 178 = (some 8) := by kernel_rfl
theorem TszOf_179 : szOf Tryz.prog 179 = (some 64) := by kernel_rfl
theorem TszOf_194 : szOf Tryz.prog 194 = (some 1) := by kernel_rfl
theorem TszOf_22 : szOf Tryz.prog 22 = (some 1) := by kernel_rfl
theorem TszOf_24 : szOf Tryz.prog 24 = (some 4) := by kernel_rfl
theorem TszOf_25 : szOf Tryz.prog 25 = (some 1) := by kernel_rfl
theorem TszOf_27 : szOf Tryz.prog 27 = (some 5) := by kernel_rfl
theorem TszOf_3 : szOf Tryz.prog 3 = (some 1) := by kernel_rfl
theorem TszOf_34 : szOf Tryz.prog 34 = (some 1) := by kernel_rfl
theorem TszOf_36 : szOf Tryz.prog 36 = (some 2) := by kernel_rfl
theorem TszOf_39 : szOf Tryz.prog 39 = (some 2) := by kernel_rfl
theorem TszOf_4 : szOf Tryz.prog 4 = (some 1) := by kernel_rfl
theorem TszOf_41 : szOf Tryz.prog 41 = (some 13) := by kernel_rfl
theorem TszOf_5 : szOf Tryz.prog 5 = (some 1) := by kernel_rfl
theorem TszOf_51 : szOf Tryz.prog 51 = (some 3) := by kernel_rfl
theorem TszOf_53 : szOf Tryz.prog 53 = (some 7) := by kernel_rfl
theorem TszOf_64 : szOf Tryz.prog 64 = (some 6) := by kernel_rfl
theorem TszOf_84 : szOf Tryz.prog 84 = (some 6) := by kernel_rfl
theorem TszOf_9 : szOf Tryz.prog 9 = (some 1) := by kernel_rfl
theorem TszOf_99 : szOf Tryz.prog 99 = (some 3) := by kernel_rfl
theorem TzeroOf_103 : zeroOf Tryz.prog 103 = (some [.nils, (.int .i64 0)]) := by kernel_rfl
theorem TzeroOf_108 : zeroOf Tryz.prog 108 = (some [(.int .i64 0), (.int .i64 0), (.int .i64 0), (.int .i64 0), (.int .i64 0), .nils, .nils]) := by kernel_rfl
theorem TzeroOf_124 : zeroOf Tryz.prog 124 = (some [.nils, .nils, .nils]) := by kernel_rfl
theorem TzeroOf_150 : zeroOf Tryz.prog 150 = (some [(.int .i64 0), .nils, .nils]) := by kernel_rfl
theorem TzeroOf_156 : zeroOf Tryz.prog 156 = (some [(.int .u32 0)]) := by kernel_rfl
theorem TzeroOf_172 : zeroOf Tryz.prog 172 = (some [(.bool false), (.bool false), (.bool false), (.bool false), (.bool false), (.bool false), (.bool false), (.bool false), (.bool false), (.bool false), (.bool false), (.bool false), (.bool false), (.bool false), (.bool false), (.bool false), (.bool false), (.bool false), (.bool false), (.bool false), (.bool false), (.bool false), (.bool false), (.bool false), (.bool false), (.bool false), (.bool false), (.bool false), (.bool false), (.bool false), (.bool false), (.bool false), (.bool false), (.bool false), (.bool false), (.bool false), (.bool false), (.bool false), (.bool false), (.bool false), (.bool false), (.bool false), (.bool false), (.bool false), (.bool false), (.bool false), (.bool false), (.bool false), (.bool false), (.bool false), (.bool false), (.bool false), (.bool false), (.bool false), (.bool false), (.bool false), (.bool false), (.bool false), (.bool false), (.bool false), (.bool false), (.bool false), (.bool false), (.bool false)]) := by kernel_rfl
theorem TzeroOf_178 : zeroOf Tryz.prog 178 = (some [(.int .u32 0), (.int .u32 0), (.int .u32 0), (.int .u32 0), (.int .u32 0), (.int .u32 0), (.int .u32 0), (.int .u32 0)]) := by kernel_rfl
theorem TzeroOf_179 : zeroOf Tryz.prog 179 = (some [(.int .u32 0), (.int .u32 0), (.int .u32 0), (.int .u32 0), (.int .u32 0), (.int .u32 0), (.int .u32 0), (.int .u32 0), (.int .u32 0), (.int .u32 0), (.int .u32 0), (.int .u32 0), (.int .u32 0), (.int .u32 0), (.int .u32 0), (.int .u32 0), (.int .u32 0), (.int .u32 0), (.int .u32 0), (.int .u32 0), (.int .u32 0), (.int .u32 0), (.int .u32 0), (.int .u32 0), (.int .u32 0), (.int .u32 0), (.int .u32 0), (.int .u32 0), (.int .u32 0), (.int .u32 0), (.int .u32 0), (.int .u32 0), (.int .u32 0), (.int .u32 0), (.int .u32 0), (.int .u32 0), (.int .u32 0), (.int .u32 0), (.int .u32 0), (.int .u32 0), (.int .u32 0), (.int .u32 0), (.int .u32 0), (.int .u32 0), (.int .u32 0), (.int .u32 0), (.int .u32 0), (.int .u32 0), (.int .u32 0), (.int .u32 0), (.int .u32 0), (.int .u32 0), (.int .u32 0), (.int .u32 0), (.int .u32 0), (.int .u32 0), (.int .u32 0), (.int .u32 0), (.int .u32 0), (.int .u32 0), (.int .u32 0), (.int .u32 0), (.int .u32 0), (.int .u32 0)]) := by kernel_rfl
theorem TzeroOf_194 : zeroOf Tryz.prog 194 = (some [.nilf]) := by kernel_rfl
theorem TzeroOf_199 : zeroOf Tryz.prog 199 = (some [(.int .i64 0), (.int .i64 0), (.int .i64 0), (.int .i64 0), (.int .i64 0)]) := by kernel_rfl
theorem TzeroOf_24 : zeroOf Tryz.prog 24 = (some [(.int .i64 0), (.int .i64 0), (.int .i64 0), (.int .i64 0)]) := by kernel_rfl
theorem TzeroOf_27 : zeroOf Tryz.prog 27 = (some [(.int .i64 0), (.int .i64 0), (.int .i64 0), (.int .i64 0), .nils]) := by kernel_rfl
theorem TzeroOf_36 : zeroOf Tryz.prog 36 = (some [.nils, .nils]) := by kernel_rfl
theorem TzeroOf_39 : zeroOf Tryz.prog 39 = (some [(.int .i64 0), (.str [])]) := by kernel_rfl
theorem TzeroOf_41 : zeroOf Tryz.prog 41 = (some [(.int .i64 0), (.int .i64 0), (.str []), (.int .i64 0), (.int .i64 0), (.int .i64 0), (.int .i64 0), (.int .i64 0), .nils, .nils, (.str []), (.int .i64 0), (.str [])]) := by kernel_rfl
theorem TzeroOf_5 : zeroOf Tryz.prog 5 = (some [(.int .u8 0)]) := by kernel_rfl
theorem TzeroOf_51 : zeroOf Tryz.prog 51 = (some [.nils, .nils, (.int .i64 0)]) := by kernel_rfl
theorem TzeroOf_53 : zeroOf Tryz.prog 53 = (some [.nils, .nils, .nils, (.int .i64 0), (.int .i64 0), (.int .i64 0), (.int .i64 0)]) := by kernel_rfl
theorem TzeroOf_64 : zeroOf Tryz.prog 64 = (some [(.int .i64 0), .nils, (.str []), (.bool false), .nils, .nils]) := by kernel_rfl
theorem TzeroOf_80 : zeroOf Tryz.prog 80 = (some [.nils]) := by kernel_rfl
theorem TzeroOf_84 : zeroOf Tryz.prog 84 = (some [(.int .i64 0), (.int .i64 0), (.int .i64 0), (.int .i64 0), .nils, .nils]) := by kernel_rfl
theorem TzeroOf_99 : zeroOf Tryz.prog 99 = (some [(.int .i64 0), (.int .i64 0), (.str [])]) := by kernel_rfl
theorem TzeroV_3 : zeroV Tryz.prog 3 = (some (.int .i64 0)) := by kernel_rfl
attribute [go_sem] TarT_172 TarT_178 TarT_179 TarrOf_178 TarrOf_199 TelemOf_105 TelemOf_22 TflatOf_172 TflatOf_24 TflatOf_39 Tfo_103_0 Tfo_103_1 Tfo_108_0 Tfo_108_1 Tfo_108_2 Tfo_124_0 Tfo_124_1 Tfo_150_0 Tfo_150_1 Tfo_150_2 Tfo_24_0 Tfo_24_1 Tfo_24_2 Tfo_24_3 Tfo_27_0 Tfo_27_1
attribute [go_sem] Tfo_36_0 Tfo_36_1 Tfo_39_0 Tfo_39_1 Tfo_41_0 Tfo_41_1 Tfo_41_10 Tfo_41_11 Tfo_41_2 Tfo_41_3 Tfo_41_4 Tfo_41_5 Tfo_41_6 Tfo_41_7 Tfo_41_8 Tfo_41_9 Tfo_51_0 Tfo_51_1 Tfo_51_2 Tfo_53_0 Tfo_53_1 Tfo_53_2 Tfo_53_3 Tfo_53_4 Tfo_64_0 Tfo_64_1 Tfo_64_2 Tfo_64_3 Tfo_64_4 Tfo_80_0 Tfo_84_0 Tfo_84_1 Tfo_84_2 Tfo_84_3 Tfo_84_4 Tfo_84_5 Tfo_99_0 Tfo_99_1 Tfo_99_2
attribute [go_sem] TisBytes_105 TisSlice_105 TisSlice_119 TisSlice_121 TisSlice_138 TisSlice_148 TisSlice_157 TisSlice_22 TisSlice_25 TisSlice_34 TisSlice_56 TisSlice_66 TisSomeT_156 TisSomeT_158 TisSomeT_21 TisSomeT_3 TisSomeT_5 TisSomeT_9 TisStr_105
attribute [go_sem] TisStr_9 TkindOf_131 TkindOf_156 TkindOf_158 TkindOf_3 TkindOf_5 TldT_108
attribute [go_sem] TldT_124 TldT_148 TldT_150 TldT_156 TldT_172 TldT_178 TldT_179 TldT_194 TldT_22 TldT_24 TldT_25 TldT_27 TldT_3 TldT_34 TldT_36 TldT_39 TldT_4 TldT_41 TldT_5 TldT_51 TldT_53 TldT_64 TldT_84 TldT_9 TldT_99 TmapT_188 TplacesOf_103 TplacesOf_108 TplacesOf_124 TplacesOf_150 TplacesOf_172
attribute [go_sem] TplacesOf_178 TplacesOf_179 TplacesOf_199 TplacesOf_24 TplacesOf_27 TplacesOf_36 TplacesOf_39 TplacesOf_41 TplacesOf_51 TplacesOf_53 TplacesOf_64 TplacesOf_80 TplacesOf_84 TplacesOf_99 TrowOf_156 TrowOf_3 TslT_105 TslT_119 TslT_121 TslT_138 TslT_157 TslT_22 TslT_25 TslT_34 TslT_56 TslT_66 TszOf_108 TszOf_124 TszOf_156 TszOf_172 TszOf_178
attribute [go_sem] TszOf_179 TszOf_194 TszOf_22 TszOf_24 TszOf_25 TszOf_27 TszOf_3 TszOf_34 TszOf_36 TszOf_39 TszOf_4 TszOf_41 TszOf_5 TszOf_51 TszOf_53 TszOf_64 TszOf_84 TszOf_9 TszOf_99 TzeroOf_103 TzeroOf_108 TzeroOf_124 TzeroOf_150 TzeroOf_156 TzeroOf_172 TzeroOf_178 TzeroOf_179 TzeroOf_194 TzeroOf_199
attribute [go_sem] TzeroOf_24 TzeroOf_27 TzeroOf_36 TzeroOf_39 TzeroOf_41 TzeroOf_5 TzeroOf_51 TzeroOf_53 TzeroOf_64 TzeroOf_80 TzeroOf_84 TzeroOf_99 TzeroV_3
attribute [go_sem_proc] reduceCtorEq Nat.reduceEqDiff Nat.reduceAdd Nat.reduceSub Nat.reduceMul Nat.reduceLT Nat.reduceLeDiff Int.reduceLT Int.reduceLE Int.reduceEq Int.reduceNe Int.reduceToNat Int.reduceAdd Int.reduceSub Int.reduceMul
attribute [go_sem_proc ↓] reduceIte
attribute [go_sem] Int.natCast_zero
end Go.Proofs.Am
