/- Facts on the types of the program. -/
import Derived.Test.YthcphdogfdghkaaAmU
import Derived.Test.YthcphdogfdghkaaProg
set_option linter.unusedSimpArgs false
set_option linter.unusedVariables false
namespace Go.Proofs.Am
open Go Go.RowKit Go.Proofs

theorem TarT_97 : arT Try.prog 97 = (some (8, 1)) := by kernel_rfl
theorem TarT_98 : arT Try.prog 98 = (some (64, 1)) := by kernel_rfl
theorem TarrOf_102 : arrOf Try.prog 102 = (some (5, 3)) := by kernel_rfl
theorem TarrOf_97 : arrOf Try.prog 97 = (some (8, 87)) := by kernel_rfl
theorem TelemOf_56 : elemOf Try.prog 56 = (some 5) := by kernel_rfl
theorem TflatOf_39 : flatOf Try.prog 39 = (some [.int, .str]) := by kernel_rfl
theorem Tfo_39_0 : fo Try.prog 39 0 = (some 0) := by kernel_rfl
theorem Tfo_41_0 : fo Try.prog 41 0 = (some 0) := by kernel_rfl
theorem Tfo_41_1 : fo Try.prog 41 1 = (some 1) := by kernel_rfl
theorem Tfo_41_10 : fo Try.prog 41 10 = (some 10) := by kernel_rfl
theorem Tfo_41_11 : fo Try.prog 41 11 = (some 11) := by kernel_rfl
theorem Tfo_41_2 : fo Try.prog 41 2 = (some 2) := by kernel_rfl
theorem Tfo_41_3 : fo Try.prog 41 3 = (some 3) := by kernel_rfl
theorem Tfo_41_4 : fo Try.prog 41 4 = (some 4) := by kernel_rfl
theorem Tfo_41_5 : fo Try.prog 41 5 = (some 5) := by kernel_rfl
theorem Tfo_41_6 : fo Try.prog 41 6 = (some 6) := by kernel_rfl
theorem Tfo_41_7 : fo Try.prog 41 7 = (some 7) := by kernel_rfl
theorem Tfo_41_8 : fo Try.prog 41 8 = (some 8) := by kernel_rfl
theorem Tfo_41_9 : fo Try.prog 41 9 = (some 9) := by kernel_rfl
theorem Tfo_44_0 : fo Try.prog 44 0 = (some 0) := by kernel_rfl
theorem Tfo_44_1 : fo Try.prog 44 1 = (some 1) := by kernel_rfl
theorem Tfo_44_2 : fo Try.prog 44 2 = (some 2) := by kernel_rfl
theorem Tfo_44_3 : fo Try.prog 44 3 = (some 3) := by kernel_rfl
theorem Tfo_44_4 : fo Try.prog 44 4 = (some 4) := by kernel_rfl
theorem Tfo_44_5 : fo Try.prog 44 5 = (some 5) := by kernel_rfl
theorem Tfo_51_0 : fo Try.prog 51 0 = (some 0) := by kernel_rfl
theorem Tfo_51_1 : fo Try.prog 51 1 = (some 1) := by kernel_rfl
theorem Tfo_76_0 : fo Try.prog 76 0 = (some 0) := by kernel_rfl
theorem Tfo_76_1 : fo Try.prog 76 1 = (some 1) := by kernel_rfl
theorem Tfo_76_2 : fo Try.prog 76 2 = (some 2) := by kernel_rfl
theorem TisBytes_103 : isBytes Try.prog 103 = false := by kernel_rfl
theorem TisBytes_3 : isBytes Try.prog 3 = false := by kernel_rfl
theorem TisBytes_5 : isBytes Try.prog 5 = false := by kernel_rfl
theorem TisBytes_56 : isBytes Try.prog 56 = true := by kernel_rfl
theorem TisBytes_70 : isBytes Try.prog 70 = false := by kernel_rfl
theorem TisBytes_87 : isBytes Try.prog 87 = false := by kernel_rfl
theorem TisBytes_89 : isBytes Try.prog 89 = false := by kernel_rfl
theorem TisBytes_9 : isBytes Try.prog 9 = false := by kernel_rfl
theorem TisSlice_22 : isSlice Try.prog 22 = true := by kernel_rfl
theorem TisSlice_35 : isSlice Try.prog 35 = true := by kernel_rfl
theorem TisSlice_37 : isSlice Try.prog 37 = true := by kernel_rfl
theorem TisSlice_56 : isSlice Try.prog 56 = true := by kernel_rfl
theorem TisSlice_90 : isSlice Try.prog 90 = true := by kernel_rfl
theorem TisSomeT_3 : isSomeT Try.prog 3 = true := by kernel_rfl
theorem TisSomeT_5 : isSomeT Try.prog 5 = true := by kernel_rfl
theorem TisSomeT_56 : isSomeT Try.prog 56 = true := by kernel_rfl
theorem TisSomeT_70 : isSomeT Try.prog 70 = true := by kernel_rfl
theorem TisSomeT_87 : isSomeT Try.prog 87 = true := by kernel_rfl
theorem TisSomeT_89 : isSomeT Try.prog 89 = true := by kernel_rfl
theorem TisStr_102 : isStr Try.prog 102 = false := by kernel_rfl
theorem TisStr_103 : isStr Try.prog 103 = false := by kernel_rfl
theorem TisStr_22 : isStr Try.prog 22 = false := by kernel_rfl
theorem TisStr_3 : isStr Try.prog 3 = false := by kernel_rfl
theorem TisStr_35 : isStr Try.prog 35 = false := by kernel_rfl
theorem TisStr_37 : isStr Try.prog 37 = false := by kernel_rfl
theorem TisStr_5 : isStr Try.prog 5 = false := by kernel_rfl
theorem TisStr_56 : isStr Try.prog 56 = false := by kernel_rfl
theorem TisStr_70 : isStr Try.prog 70 = false := by kernel_rfl
theorem TisStr_87 : isStr Try.prog 87 = false := by kernel_rfl
theorem TisStr_89 : isStr Try.prog 89 = false := by kernel_rfl
theorem TisStr_9 : isStr Try.prog 9 = true := by kernel_rfl
theorem TisStr_90 : isStr Try.prog 90 = false := by kernel_rfl
theorem TisStr_97 : isStr Try.prog 97 = false := by kernel_rfl
theorem TkindOf_103 : kindOf Try.prog 103 = (some .u64) := by kernel_rfl
theorem TkindOf_3 : kindOf Try.prog 3 = (some .i64) := by kernel_rfl
theorem TkindOf_5 : kindOf Try.prog 5 = (some .u8) := by kernel_rfl
theorem TkindOf_70 : kindOf Try.prog 70 = (some .u64) := by kernel_rfl
theorem TkindOf_87 : kindOf Try.prog 87 = (some .u32) := by kernel_rfl
theorem TkindOf_89 : kindOf Try.prog 89 = (some .u64) := by kernel_rfl
theorem TkindOf_9 : kindOf Try.prog 9 = none := by kernel_rfl
theorem TldT_103 : ldT Try.prog 103 = (some none) := by kernel_rfl
theorem TldT_22 : ldT Try.prog 22 = (some none) := by kernel_rfl
theorem TldT_3 : ldT Try.prog 3 = (some none) := by kernel_rfl
theorem TldT_37 : ldT Try.prog 37 = (some none) := by kernel_rfl
theorem TldT_39 : ldT Try.prog 39 = (some (some 2)) := by kernel_rfl
theorem TldT_41 : ldT Try.prog 41 = (some (some 13)) := by kernel_rfl
theorem TldT_44 : ldT Try.prog 44 = (some (some 6)) := by kernel_rfl
theorem TldT_5 : ldT Try.prog 5 = (some none) := by kernel_rfl
theorem TldT_76 : ldT Try.prog 76 = (some (some 3)) := by kernel_rfl
theorem TldT_87 : ldT Try.prog 87 = (some none) := by kernel_rfl
theorem TldT_9 : ldT Try.prog 9 = (some none) := by kernel_rfl
theorem TldT_97 : ldT Try.prog 97 = (some (some 8)) := by kernel_rfl
theorem TldT_98 : ldT Try.prog 98 = (some (some 64)) := by kernel_rfl
theorem TplacesOf_102 : placesOf Try.prog 102 = (some [(0, 1), (1, 1), (2, 1), (3, 1), (4, 1)]) := by kernel_rfl
theorem TplacesOf_39 : placesOf Try.prog 39 = (some [(0, 1), (1, 1)]) := by kernel_rfl
theorem TplacesOf_41 : placesOf Try.prog 41 = (some [(0, 1), (1, 1), (2, 1), (3, 1), (4, 1), (5, 1), (6, 1), (7, 1), (8, 1), (9, 1), (10, 1), (11, 2)]) := by kernel_rfl
theorem TplacesOf_44 : placesOf Try.prog 44 = (some [(0, 1), (1, 1), (2, 1), (3, 1), (4, 1), (5, 1)]) := by kernel_rfl
theorem TplacesOf_51 : placesOf Try.prog 51 = (some [(0, 1), (1, 1)]) := by kernel_rfl
theorem TplacesOf_97 : placesOf Try.prog 97 = (some [(0, 1), (1, 1), (2, 1), (3, 1), (4, 1), (5, 1), (6, 1), (7, 1)]) := by kernel_rfl
theorem TplacesOf_98 : placesOf Try.prog 98 = (some [(0, 1), (1, 1), (2, 1), (3, 1), (4, 1), (5, 1), (6, 1), (7, 1), (8, 1), (9, 1), (10, 1), (11, 1), (12, 1), (13, 1), (14, 1), (15, 1), (16, 1), (17, 1), (18, 1), (19, 1), (20, 1), (21, 1), (22, 1), (23, 1), (24, 1), (25, 1), (26, 1), (27, 1), (28, 1), (29, 1), (30, 1), (31, 1), (32, 1), (33, 1), (34, 1), (35, 1), (36, 1), (37, 1), (38, 1), (39, 1), (40, 1), (41, 1), (42, 1), (43, 1), (44, 1), (45, 1), (46, 1), (47, 1), (48, 1), (49, 1), (50, 1), (51, 1), (52, 1), (53, 1), (54, 1), (55, 1), (56, 1), (57, 1), (58, 1), (59, 1), (60, 1), (61, 1), (62, 1), (63, 1)]) := by kernel_rfl
theorem TrowOf_3 : rowOf Try.prog 3 = (some false) := by kernel_rfl
theorem TrowOf_87 : rowOf Try.prog 87 = (some false) := by kernel_rfl
theorem TslT_22 : slT Try.prog 22 = (some (3, (1, 8))) := by kernel_rfl
theorem TslT_35 : slT Try.prog 35 = (some (41, (13, 160))) := by kernel_rfl
theorem TslT_37 : slT Try.prog 37 = (some (76, (3, 32))) := by kernel_rfl
theorem TslT_56 : slT Try.prog 56 = (some (5, (1, 1))) := by kernel_rfl
theorem TslT_90 : slT Try.prog 90 = (some (87, (1, 4))) := by kernel_rfl
theorem TszOf_103 : szOf Try.prog 103 = (some 1) := by kernel_rfl
theorem TszOf_22 : szOf Try.prog 22 = (some 1) := by kernel_rfl
theorem TszOf_3 : szOf Try.prog 3 = (some 1) := by kernel_rfl
theorem TszOf_37 : szOf Try.prog 37 = (some 1) := by kernel_rfl
theorem TszOf_39 : szOf Try.prog 39 = (some 2) := by kernel_rfl
theorem TszOf_41 : szOf Try.prog 41 = (some 13) := by kernel_rfl
theorem TszOf_44 : szOf Try.prog 44 = (some 6) := by kernel_rfl
theorem TszOf_76 : szOf Try.prog 76 = (some 3) := by kernel_rfl
theorem TszOf_87 : szOf Try.prog 87 = (some 1) := by kernel_rfl
theorem TszOf_9 : szOf Try.prog 9 = (some 1) := by kernel_rfl
theorem TszOf_97 : szOf Try.prog 97 = (some 8) := by kernel_rfl
theorem TszOf_98 : szOf Try.prog 98 = (some 64) := by kernel_rfl
theorem TzeroOf_102 : zeroOf Try.prog 102 = (some [(.int .i64 0), (.int .i64 0), (.int .i64 0), (.int .i64 0), (.int .i64 0)]) := by kernel_rfl
theorem TzeroOf_103 : zeroOf Try.prog 103 = (some [(.int .u64 0)]) := by kernel_rfl
theorem TzeroOf_22 : zeroOf Try.prog 22 = (some [.nils]) := by kernel_rfl
theorem TzeroOf_3 : zeroOf Try.prog 3 = (some [(.int .i64 0)]) := by kernel_rfl
theorem TzeroOf_39 : zeroOf Try.prog 39 = (some [(.int .i64 0), (.str [])]) := by kernel_rfl
theorem TzeroOf_41 : zeroOf Try.prog 41 = (some [(.int .i64 0), (.int .i64 0), (.str []), (.int .i64 0), (.int .i64 0), (.int .i64 0), (.int .i64 0), (.int .i64 0), .nils, .nils, (.str []), (.int .i64 0), (.str [])]) := by kernel_rfl
theorem TzeroOf_44 : zeroOf Try.prog 44 = (some [(.int .i64 0), (.int .i64 0), (.int .i64 0), (.int .i64 0), .nils, .nils]) := by kernel_rfl
theorem TzeroOf_5 : zeroOf Try.prog 5 = (some [(.int .u8 0)]) := by kernel_rfl
theorem TzeroOf_51 : zeroOf Try.prog 51 = (some [.nils, (.int .i64 0)]) := by kernel_rfl
theorem TzeroOf_76 : zeroOf Try.prog 76 = (some [(.int .i64 0), (.int .i64 0), (.str [])]) := by kernel_rfl
theorem TzeroOf_87 : zeroOf Try.prog 87 = (some [(.int .u32 0)]) := by kernel_rfl
theorem TzeroOf_97 : zeroOf Try.prog 97 = (some [(.int .u32 0), (.int .u32 0), (.int .u32 0), (.int .u32 0), (.int .u32 0), (.int .u32 0), (.int .u32 0), (.int .u32 0)]) := by kernel_rfl
theorem TzeroOf_98 : zeroOf Try.prog 98 = (some [(.int .u32 0), (.int .u32 0), (.int .u32 0), (.int .u32 0), (.int .u32 0), (.int .u32 0), (.int .u32 0), (.int .u32 0), (.int .u32 0), (.int .u32 0), (.int .u32 0), (.int .u32 0), (.int .u32 0), (.int .u32 0), (.int .u32 0), (.int .u32 0), (.int .u32 0), (.int .u32 0), (.int .u32 0), (.int .u32 0), (.int .u32 0), (.int .u32 0), (.int .u32 0), (.int .u32 0), (.int .u32 0), (.int .u32 0), (.int .u32 0), (.int .u32 0), (.int .u32 0), (.int .u32 0), (.int .u32 0), (.int .u32 0), (.int .u32 0), (.int .u32 0), (.int .u32 0), (.int .u32 0), (.int .u32 0), (.int .u32 0), (.int .u32 0), (.int .u32 0), (.int .u32 0), (.int .u32 0), (.int .u32 0), (.int .u32 0), (.int .u32 0), (.int .u32 0), (.int .u32 0), (.int .u32 0), (.int .u32 0), (.int .u32 0), (.int .u32 0), (.int .u32 0), (.int .u32 0), (.int .u32 0), (.int .u32 0), (.int .u32 0), (.int .u32 0), (.int .u32 0), (.int .u32 0), (.int .u32 0), (.int .u32 0), (.int .u32 0), (.int .u32 0), (.int .u32 0)]) := by kernel_rfl

attribute [go_sem] TarT_97 TarT_98 TarrOf_102 TarrOf_97 TelemOf_56 TflatOf_39 Tfo_39_0 Tfo_41_0 Tfo_41_1 Tfo_41_10 Tfo_41_11 Tfo_41_2 Tfo_41_3 Tfo_41_4 Tfo_41_5 Tfo_41_6 Tfo_41_7 Tfo_41_8 Tfo_41_9 Tfo_44_0 Tfo_44_1 Tfo_44_2 Tfo_44_3 Tfo_44_4 Tfo_44_5 Tfo_51_0 Tfo_51_1 Tfo_76_0 Tfo_76_1 Tfo_76_2 TisBytes_103 TisBytes_3 TisBytes_5 TisBytes_56 TisBytes_70 TisBytes_87 TisBytes_89 TisBytes_9 TisSlice_22 TisSlice_35
attribute [go_sem] TisSlice_37 TisSlice_56 TisSlice_90 TisSomeT_3 TisSomeT_5 TisSomeT_56 TisSomeT_70 TisSomeT_87 TisSomeT_89 TisStr_102 TisStr_103 TisStr_22 TisStr_3 TisStr_35 TisStr_37 TisStr_5 TisStr_56 TisStr_70 TisStr_87 TisStr_89 TisStr_9 TisStr_90 TisStr_97 TkindOf_103 TkindOf_3 TkindOf_5 TkindOf_70 TkindOf_87 TkindOf_89 TkindOf_9 TldT_103 TldT_22 TldT_3 TldT_37 TldT_39 TldT_41 TldT_44 TldT_5 TldT_76 TldT_87
attribute [go_sem] TldT_9 TldT_97 TldT_98 TplacesOf_102 TplacesOf_39 TplacesOf_41 TplacesOf_44 TplacesOf_51 TplacesOf_97 TplacesOf_98 TrowOf_3 TrowOf_87 TslT_22 TslT_35 TslT_37 TslT_56 TslT_90 TszOf_103 TszOf_22 TszOf_3 TszOf_37 TszOf_39 TszOf_41 TszOf_44 TszOf_76 TszOf_87 TszOf_9 TszOf_97 TszOf_98 TzeroOf_102 TzeroOf_103 TzeroOf_22 TzeroOf_3 TzeroOf_39 TzeroOf_41 TzeroOf_44 TzeroOf_5 TzeroOf_51 TzeroOf_76 TzeroOf_87
attribute [go_sem] TzeroOf_97 TzeroOf_98

end Go.Proofs.Am
