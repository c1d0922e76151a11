/- Facts on the types of the program. -/
import Derived.Test.YtabmciccahfjiaaGreatDoorAmZ
import Derived.Test.YtabmciccahfjiaaGreatDoorProg
set_option linter.unusedSimpArgs false
set_option linter.unusedVariables false
namespace Go.Proofs.Am
open Go Go.RowKit Go.Proofs

theorem TarT_194 : arT Tryz.prog 194 = (some (8, 1)) := by kernel_rfl
theorem TarT_195 : arT Tryz.prog 195 = (some (64, 1)) := by kernel_rfl
theorem TarrOf_194 : arrOf Tryz.prog 194 = (some (8, 139)) := by kernel_rfl
theorem TarrOf_201 : arrOf Tryz.prog 201 = (some (5, 3)) := by kernel_rfl
theorem TelemOf_101 : elemOf Tryz.prog 101 = (some 5) := by kernel_rfl
theorem TflatOf_29 : flatOf Tryz.prog 29 = (some [.int, .int, .int, .int]) := by kernel_rfl
theorem TflatOf_61 : flatOf Tryz.prog 61 = (some [.int, .str]) := by kernel_rfl
theorem Tfo_27_0 : fo Tryz.prog 27 0 = (some 0) := by kernel_rfl
theorem Tfo_27_1 : fo Tryz.prog 27 1 = (some 1) := by kernel_rfl
theorem Tfo_29_0 : fo Tryz.prog 29 0 = (some 0) := by kernel_rfl
theorem Tfo_29_1 : fo Tryz.prog 29 1 = (some 1) := by kernel_rfl
theorem Tfo_29_2 : fo Tryz.prog 29 2 = (some 2) := by kernel_rfl
theorem Tfo_29_3 : fo Tryz.prog 29 3 = (some 3) := by kernel_rfl
theorem Tfo_31_0 : fo Tryz.prog 31 0 = (some 0) := by kernel_rfl
theorem Tfo_31_1 : fo Tryz.prog 31 1 = (some 1) := by kernel_rfl
theorem Tfo_31_2 : fo Tryz.prog 31 2 = (some 5) := by kernel_rfl
theorem Tfo_50_0 : fo Tryz.prog 50 0 = (some 0) := by kernel_rfl
theorem Tfo_50_1 : fo Tryz.prog 50 1 = (some 2) := by kernel_rfl
theorem Tfo_61_0 : fo Tryz.prog 61 0 = (some 0) := by kernel_rfl
theorem Tfo_61_1 : fo Tryz.prog 61 1 = (some 1) := by kernel_rfl
theorem Tfo_63_0 : fo Tryz.prog 63 0 = (some 0) := by kernel_rfl
theorem Tfo_63_1 : fo Tryz.prog 63 1 = (some 1) := by kernel_rfl
theorem Tfo_63_10 : fo Tryz.prog 63 10 = (some 10) := by kernel_rfl
theorem Tfo_63_11 : fo Tryz.prog 63 11 = (some 11) := by kernel_rfl
theorem Tfo_63_2 : fo Tryz.prog 63 2 = (some 2) := by kernel_rfl
theorem Tfo_63_3 : fo Tryz.prog 63 3 = (some 3) := by kernel_rfl
theorem Tfo_63_4 : fo Tryz.prog 63 4 = (some 4) := by kernel_rfl
theorem Tfo_63_5 : fo Tryz.prog 63 5 = (some 5) := by kernel_rfl
theorem Tfo_63_6 : fo Tryz.prog 63 6 = (some 6) := by kernel_rfl
theorem Tfo_63_7 : fo Tryz.prog 63 7 = (some 7) := by kernel_rfl
theorem Tfo_63_8 : fo Tryz.prog 63 8 = (some 8) := by kernel_rfl
theorem Tfo_63_9 : fo Tryz.prog 63 9 = (some 9) := by kernel_rfl
theorem Tfo_87_0 : fo Tryz.prog 87 0 = (some 0) := by kernel_rfl
theorem Tfo_87_1 : fo Tryz.prog 87 1 = (some 1) := by kernel_rfl
theorem Tfo_87_2 : fo Tryz.prog 87 2 = (some 2) := by kernel_rfl
theorem Tfo_89_0 : fo Tryz.prog 89 0 = (some 0) := by kernel_rfl
theorem Tfo_89_1 : fo Tryz.prog 89 1 = (some 1) := by kernel_rfl
theorem Tfo_94_0 : fo Tryz.prog 94 0 = (some 0) := by kernel_rfl
theorem Tfo_94_1 : fo Tryz.prog 94 1 = (some 1) := by kernel_rfl
theorem Tfo_94_2 : fo Tryz.prog 94 2 = (some 2) := by kernel_rfl
theorem Tfo_94_3 : fo Tryz.prog 94 3 = (some 3) := by kernel_rfl
theorem Tfo_94_4 : fo Tryz.prog 94 4 = (some 4) := by kernel_rfl
theorem Tfo_94_5 : fo Tryz.prog 94 5 = (some 5) := by kernel_rfl
theorem TisBytes_101 : isBytes Tryz.prog 101 = true := by kernel_rfl
theorem TisSlice_101 : isSlice Tryz.prog 101 = true := by kernel_rfl
theorem TisSlice_205 : isSlice Tryz.prog 205 = true := by kernel_rfl
theorem TisSlice_22 : isSlice Tryz.prog 22 = true := by kernel_rfl
theorem TisSlice_23 : isSlice Tryz.prog 23 = true := by kernel_rfl
theorem TisSlice_25 : isSlice Tryz.prog 25 = true := by kernel_rfl
theorem TisSlice_33 : isSlice Tryz.prog 33 = true := by kernel_rfl
theorem TisSlice_43 : isSlice Tryz.prog 43 = true := by kernel_rfl
theorem TisSlice_57 : isSlice Tryz.prog 57 = true := by kernel_rfl
theorem TisSomeT_139 : isSomeT Tryz.prog 139 = true := by kernel_rfl
theorem TisSomeT_141 : isSomeT Tryz.prog 141 = true := by kernel_rfl
theorem TisSomeT_3 : isSomeT Tryz.prog 3 = true := by kernel_rfl
theorem TisSomeT_5 : isSomeT Tryz.prog 5 = true := by kernel_rfl
theorem TisStr_9 : isStr Tryz.prog 9 = true := by kernel_rfl
theorem TkindOf_113 : kindOf Tryz.prog 113 = (some .u64) := by kernel_rfl
theorem TkindOf_139 : kindOf Tryz.prog 139 = (some .u32) := by kernel_rfl
theorem TkindOf_141 : kindOf Tryz.prog 141 = (some .u64) := by kernel_rfl
theorem TkindOf_5 : kindOf Tryz.prog 5 = (some .u8) := by kernel_rfl
theorem TldT_139 : ldT Tryz.prog 139 = (some none) := by kernel_rfl
theorem TldT_194 : ldT Tryz.prog 194 = (some (some 8)) := by kernel_rfl
theorem TldT_195 : ldT Tryz.prog 195 = (some (some 64)) := by kernel_rfl
theorem TldT_23 : ldT Tryz.prog 23 = (some none) := by kernel_rfl
theorem TldT_25 : ldT Tryz.prog 25 = (some none) := by kernel_rfl
theorem TldT_27 : ldT Tryz.prog 27 = (some (some 2)) := by kernel_rfl
theorem TldT_29 : ldT Tryz.prog 29 = (some (some 4)) := by kernel_rfl
theorem TldT_3 : ldT Tryz.prog 3 = (some none) := by kernel_rfl
theorem TldT_31 : ldT Tryz.prog 31 = (some (some 7)) := by kernel_rfl
theorem TldT_5 : ldT Tryz.prog 5 = (some none) := by kernel_rfl
theorem TldT_61 : ldT Tryz.prog 61 = (some (some 2)) := by kernel_rfl
theorem TldT_63 : ldT Tryz.prog 63 = (some (some 13)) := by kernel_rfl
theorem TldT_82 : ldT Tryz.prog 82 = (some none) := by kernel_rfl
theorem TldT_87 : ldT Tryz.prog 87 = (some (some 3)) := by kernel_rfl
theorem TldT_9 : ldT Tryz.prog 9 = (some none) := by kernel_rfl
theorem TldT_94 : ldT Tryz.prog 94 = (some (some 6)) := by kernel_rfl
theorem TmapT_65 : mapT Tryz.prog 65 = (some (9, (.string, 3))) := by kernel_rfl
theorem TmapT_74 : mapT Tryz.prog 74 = (some (3, ((.int .i64), 27))) := by kernel_rfl
theorem TmapT_75 : mapT Tryz.prog 75 = (some (3, ((.int .i64), 4))) := by kernel_rfl
theorem TplacesOf_194 : placesOf Tryz.prog 194 = (some [(0, 1), (1, 1), (2, 1), (3, 1), (4, 1), (5, 1), (6, 1), (7, 1)]) := by kernel_rfl
theorem TplacesOf_195 : placesOf Tryz.prog 195 = (some [(0, 1), (1, 1), (2, 1), (3, 1), (4, 1), (5, 1), (6, 1), (7, 1), (8, 1), (9, 1), (10, 1), (11, 1), (12, 1), (13, 1), (14, 1), (15, 1), (16, 1), (17, 1), (18, 1), (19, 1), (20, 1), (21, 1), (22, 1), (23, 1), (24, 1), (25, 1), (26, 1), (27, 1), (28, 1), (29, 1), (30, 1), (31, 1), (32, 1), (33, 1), (34, 1), (35, 1), (36, 1), (37, 1), (38, 1), (39, 1), (40, 1), (41, 1), (42, 1), (43, 1), (44, 1), (45, 1), (46, 1), (47, 1), (48, 1), (49, 1), (50, 1), (51, 1), (52, 1), (53, 1), (54, 1), (55, 1), (56, 1), (57, 1), (58, 1), (59, 1), (60, 1), (61, 1), (62, 1), (63, 1)]) := by kernel_rfl
theorem TplacesOf_201 : placesOf Tryz.prog 201 = (some [(0, 1), (1, 1), (2, 1), (3, 1), (4, 1)]) := by kernel_rfl
theorem TplacesOf_27 : placesOf Tryz.prog 27 = (some [(0, 1), (1, 1)]) := by kernel_rfl
theorem TplacesOf_29 : placesOf Tryz.prog 29 = (some [(0, 1), (1, 1), (2, 1), (3, 1)]) := by kernel_rfl
theorem TplacesOf_31 : placesOf Tryz.prog 31 = (some [(0, 1), (1, 4), (5, 2)]) := by kernel_rfl
theorem TplacesOf_50 : placesOf Tryz.prog 50 = (some [(0, 2), (2, 1)]) := by kernel_rfl
theorem TplacesOf_61 : placesOf Tryz.prog 61 = (some [(0, 1), (1, 1)]) := by kernel_rfl
theorem TplacesOf_63 : placesOf Tryz.prog 63 = (some [(0, 1), (1, 1), (2, 1), (3, 1), (4, 1), (5, 1), (6, 1), (7, 1), (8, 1), (9, 1), (10, 1), (11, 2)]) := by kernel_rfl
theorem TplacesOf_87 : placesOf Tryz.prog 87 = (some [(0, 1), (1, 1), (2, 1)]) := by kernel_rfl
theorem TplacesOf_89 : placesOf Tryz.prog 89 = (some [(0, 1), (1, 1)]) := by kernel_rfl
theorem TplacesOf_94 : placesOf Tryz.prog 94 = (some [(0, 1), (1, 1), (2, 1), (3, 1), (4, 1), (5, 1)]) := by kernel_rfl
theorem TrowOf_139 : rowOf Tryz.prog 139 = (some false) := by kernel_rfl
theorem TrowOf_3 : rowOf Tryz.prog 3 = (some false) := by kernel_rfl
theorem TslT_101 : slT Tryz.prog 101 = (some (5, (1, 1))) := by kernel_rfl
theorem TslT_205 : slT Tryz.prog 205 = (some (139, (1, 4))) := by kernel_rfl
theorem TslT_22 : slT Tryz.prog 22 = (some (31, (7, 88))) := by kernel_rfl
theorem TslT_23 : slT Tryz.prog 23 = (some (3, (1, 8))) := by kernel_rfl
theorem TslT_25 : slT Tryz.prog 25 = (some (87, (3, 32))) := by kernel_rfl
theorem TslT_33 : slT Tryz.prog 33 = (some (50, (3, 72))) := by kernel_rfl
theorem TslT_43 : slT Tryz.prog 43 = (some (63, (13, 160))) := by kernel_rfl
theorem TslT_57 : slT Tryz.prog 57 = (some (29, (4, 32))) := by kernel_rfl
theorem TszOf_139 : szOf Tryz.prog 139 = (some 1) := by kernel_rfl
theorem TszOf_194 : szOf Tryz.prog 194 = (some 8) := by kernel_rfl
theorem TszOf_195 : szOf Tryz.prog 195 = (some 64) := by kernel_rfl
theorem TszOf_23 : szOf Tryz.prog 23 = (some 1) := by kernel_rfl
theorem TszOf_25 : szOf Tryz.prog 25 = (some 1) := by kernel_rfl
theorem TszOf_27 : szOf Tryz.prog 27 = (some 2) := by kernel_rfl
theorem TszOf_29 : szOf Tryz.prog 29 = (some 4) := by kernel_rfl
theorem TszOf_3 : szOf Tryz.prog 3 = (some 1) := by kernel_rfl
theorem TszOf_31 : szOf Tryz.prog 31 = (some 7) := by kernel_rfl
theorem TszOf_5 : szOf Tryz.prog 5 = (some 1) := by kernel_rfl
theorem TszOf_61 : szOf Tryz.prog 61 = (some 2) := by kernel_rfl
theorem TszOf_63 : szOf Tryz.prog 63 = (some 13) := by kernel_rfl
theorem TszOf_82 : szOf Tryz.prog 82 = (some 1) := by kernel_rfl
theorem TszOf_87 : szOf Tryz.prog 87 = (some 3) := by kernel_rfl
theorem TszOf_9 : szOf Tryz.prog 9 = (some 1) := by kernel_rfl
theorem TszOf_94 : szOf Tryz.prog 94 = (some 6) := by kernel_rfl
theorem TzeroOf_139 : zeroOf Tryz.prog 139 = (some [(.int .u32 0)]) := by kernel_rfl
theorem TzeroOf_194 : zeroOf Tryz.prog 194 = (some [(.int .u32 0), (.int .u32 0), (.int .u32 0), (.int .u32 0), (.int .u32 0), (.int .u32 0), (.int .u32 0), (.int .u32 0)]) := by kernel_rfl
theorem TzeroOf_195 : zeroOf Tryz.prog 195 = (some [(.int .u32 0), (.int .u32 0), (.int .u32 0), (.int .u32 0), (.int .u32 0), (.int .u32 0), (.int .u32 0), (.int .u32 0), (.int .u32 0), (.int .u32 0), (.int .u32 0), (.int .u32 0), (.int .u32 0), (.int .u32 0), (.int .u32 0), (.int .u32 0), (.int .u32 0), (.int .u32 0), (.int .u32 0), (.int .u32 0), (.int .u32 0), (.int .u32 0), (.int .u32 0), (.int .u32 0), (.int .u32 0), (.int .u32 0), (.int .u32 0), (.int .u32 0), (.int .u32 0), (.int .u32 0), (.int .u32 0), (.int .u32 0), (.int .u32 0), (.int .u32 0), (.int .u32 0), (.int .u32 0), (.int .u32 0), (.int .u32 0), (.int .u32 0), (.int .u32 0), (.int .u32 0), (.int .u32 0), (.int .u32 0), (.int .u32 0), (.int .u32 0), (.int .u32 0), (.int .u32 0), (.int .u32 0), (.int .u32 0), (.int .u32 0), (.int .u32 0), (.int .u32 0), (.int .u32 0), (.int .u32 0), (.int .u32 0), (.int .u32 0), (.int .u32 0), (.int .u32 0), (.int .u32 0), (.int .u32 0), (.int .u32 0), (.int .u32 0), (.int .u32 0), (.int .u32 0)]) := by kernel_rfl
theorem TzeroOf_201 : zeroOf Tryz.prog 201 = (some [(.int .i64 0), (.int .i64 0), (.int .i64 0), (.int .i64 0), (.int .i64 0)]) := by kernel_rfl
theorem TzeroOf_27 : zeroOf Tryz.prog 27 = (some [.nils, .nils]) := by kernel_rfl
theorem TzeroOf_29 : zeroOf Tryz.prog 29 = (some [(.int .i64 0), (.int .i64 0), (.int .i64 0), (.int .i64 0)]) := by kernel_rfl
theorem TzeroOf_31 : zeroOf Tryz.prog 31 = (some [(.int .i64 0), (.int .i64 0), (.int .i64 0), (.int .i64 0), (.int .i64 0), .nils, .nils]) := by kernel_rfl
theorem TzeroOf_5 : zeroOf Tryz.prog 5 = (some [(.int .u8 0)]) := by kernel_rfl
theorem TzeroOf_50 : zeroOf Tryz.prog 50 = (some [.nils, .nils, .nils]) := by kernel_rfl
theorem TzeroOf_61 : zeroOf Tryz.prog 61 = (some [(.int .i64 0), (.str [])]) := by kernel_rfl
theorem TzeroOf_63 : zeroOf Tryz.prog 63 = (some [(.int .i64 0), (.int .i64 0), (.str []), (.int .i64 0), (.int .i64 0), (.int .i64 0), (.int .i64 0), (.int .i64 0), .nils, .nils, (.str []), (.int .i64 0), (.str [])]) := by kernel_rfl
theorem TzeroOf_82 : zeroOf Tryz.prog 82 = (some [.nilf]) := by kernel_rfl
theorem TzeroOf_87 : zeroOf Tryz.prog 87 = (some [(.int .i64 0), (.int .i64 0), (.str [])]) := by kernel_rfl
theorem TzeroOf_89 : zeroOf Tryz.prog 89 = (some [.nils, (.int .i64 0)]) := by kernel_rfl
theorem TzeroOf_94 : zeroOf Tryz.prog 94 = (some [(.int .i64 0), (.int .i64 0), (.int .i64 0), (.int .i64 0), .nils, .nils]) := by kernel_rfl
theorem TzeroV_27 : zeroV Tryz.prog 27 = (some (.agg [.nils, .nils])) := by kernel_rfl
theorem TzeroV_3 : zeroV Tryz.prog 3 = (some (.int .i64 0)) := by kernel_rfl
attribute [go_sem] TarT_194 TarT_195 TarrOf_194 TarrOf_201 TelemOf_101 TflatOf_29 TflatOf_61 Tfo_27_0 Tfo_27_1 Tfo_29_0 Tfo_29_1 Tfo_29_2 Tfo_29_3 Tfo_31_0 Tfo_31_1 Tfo_31_2 Tfo_50_0 Tfo_50_1 Tfo_61_0 Tfo_61_1 Tfo_63_0 Tfo_63_1 Tfo_63_10 Tfo_63_11 Tfo_63_2 Tfo_63_3 Tfo_63_4 Tfo_63_5 Tfo_63_6
attribute [go_sem] Tfo_63_7 Tfo_63_8 Tfo_63_9 Tfo_87_0 Tfo_87_1 Tfo_87_2 Tfo_89_0 Tfo_89_1 Tfo_94_0 Tfo_94_1 Tfo_94_2 Tfo_94_3 Tfo_94_4 Tfo_94_5 TisBytes_101 TisSlice_101 TisSlice_205 TisSlice_22 TisSlice_23 TisSlice_25 TisSlice_33 TisSlice_43 TisSlice_57 TisSomeT_139
attribute [go_sem] TisSomeT_141 TisSomeT_3 TisSomeT_5 TisStr_9 TkindOf_113 TkindOf_139 TkindOf_141
attribute [go_sem] TkindOf_5 TldT_139 TldT_194 TldT_195 TldT_23 TldT_25 TldT_27 TldT_29 TldT_3 TldT_31 TldT_5 TldT_61 TldT_63 TldT_82 TldT_87 TldT_9 TldT_94 TmapT_65 TmapT_74 TmapT_75 TplacesOf_194 TplacesOf_195 TplacesOf_201 TplacesOf_27
attribute [go_sem] TplacesOf_29 TplacesOf_31 TplacesOf_50 TplacesOf_61 TplacesOf_63 TplacesOf_87 TplacesOf_89 TplacesOf_94 TrowOf_139 TrowOf_3 TslT_101 TslT_205 TslT_22 TslT_23 TslT_25 TslT_33 TslT_43 TslT_57 TszOf_139 TszOf_194 TszOf_195 TszOf_23 TszOf_25 TszOf_27 TszOf_29 TszOf_3 TszOf_31 TszOf_5 TszOf_61 TszOf_63
attribute [go_sem] TszOf_82 TszOf_87 TszOf_9 TszOf_94 TzeroOf_139 TzeroOf_194 TzeroOf_195 TzeroOf_201 TzeroOf_27 TzeroOf_29 TzeroOf_31 TzeroOf_5 TzeroOf_50 TzeroOf_61 TzeroOf_63 TzeroOf_82 TzeroOf_87 TzeroOf_89 TzeroOf_94 TzeroV_27 TzeroV_3
attribute [go_sem_proc] reduceCtorEq Nat.reduceEqDiff Nat.reduceAdd Nat.reduceSub Nat.reduceMul Nat.reduceLT Nat.reduceLeDiff Int.reduceLT Int.reduceLE Int.reduceEq Int.reduceNe Int.reduceToNat Int.reduceAdd Int.reduceSub Int.reduceMul
attribute [go_sem_proc ↓] reduceIte
attribute [go_sem] Int.natCast_zero
end Go.Proofs.Am
