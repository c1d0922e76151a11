/- R1F. -/
import Derived.Test.YteakcpfdfglndaaGreatDoorAmU
import Derived.Test.YteakcpfdfglndaaGreatDoorProg
set_option linter.unusedSimpArgs false
set_option linter.unusedVariables false
namespace Go.Proofs.Am
open Go Go.RowKit Go.Proofs
theorem TarT_136:arT Tryz.prog 136=(some (64,1)):=by kernel_rfl
theorem TarT_138:arT Tryz.prog 138=(some (2,2)):=by kernel_rfl
theorem TarT_139:arT Tryz.prog 139=(some (2,1)):=by kernel_rfl
theorem TarT_248:arT Tryz.prog 248=(some (8,1)):=by kernel_rfl
theorem TarT_249:arT Tryz.prog 249=(some (64,1)):=by kernel_rfl
theorem TarrOf_248:tz Tryz.prog 248=(some (8,188)):=by kernel_rfl
theorem TarrOf_253:tz Tryz.prog 253=(some (5,3)):=by kernel_rfl
theorem TelemOf_22:da Tryz.prog 22=(some 3):=by kernel_rfl
theorem TelemOf_93:da Tryz.prog 93=(some 5):=by kernel_rfl
theorem TflatOf_136:o5 Tryz.prog 136=(some [.bool,.bool,.bool,.bool,.bool,.bool,.bool,.bool,.bool,.bool,.bool,.bool,.bool,.bool,.bool,.bool,.bool,.bool,.bool,.bool,.bool,.bool,.bool,.bool,.bool,.bool,.bool,.bool,.bool,.bool,.bool,.bool,.bool,.bool,.bool,.bool,.bool,.bool,.bool,.bool,.bool,.bool,.bool,.bool,.bool,.bool,.bool,.bool,.bool,.bool,.bool,.bool,.bool,.bool,.bool,.bool,.bool,.bool,.bool,.bool,.bool,.bool,.bool,.bool]):=by kernel_rfl
theorem TflatOf_52:o5 Tryz.prog 52=(some [.int,.int,.int,.int]):=by kernel_rfl
theorem TflatOf_58:o5 Tryz.prog 58=(some [.int,.str]):=by kernel_rfl
theorem Tfo_100_0:fo Tryz.prog 100 0=(some 0):=by kernel_rfl
theorem Tfo_100_1:fo Tryz.prog 100 1=(some 1):=by kernel_rfl
theorem Tfo_100_2:fo Tryz.prog 100 2=(some 2):=by kernel_rfl
theorem Tfo_116_0:fo Tryz.prog 116 0=(some 0):=by kernel_rfl
theorem Tfo_116_1:fo Tryz.prog 116 1=(some 1):=by kernel_rfl
theorem Tfo_116_2:fo Tryz.prog 116 2=(some 5):=by kernel_rfl
theorem Tfo_134_0:fo Tryz.prog 134 0=(some 0):=by kernel_rfl
theorem Tfo_134_1:fo Tryz.prog 134 1=(some 1):=by kernel_rfl
theorem Tfo_134_2:fo Tryz.prog 134 2=(some 2):=by kernel_rfl
theorem Tfo_158_0:fo Tryz.prog 158 0=(some 0):=by kernel_rfl
theorem Tfo_158_1:fo Tryz.prog 158 1=(some 2):=by kernel_rfl
theorem Tfo_168_0:fo Tryz.prog 168 0=(some 0):=by kernel_rfl
theorem Tfo_169_0:fo Tryz.prog 169 0=(some 0):=by kernel_rfl
theorem Tfo_28_0:fo Tryz.prog 28 0=(some 0):=by kernel_rfl
theorem Tfo_28_1:fo Tryz.prog 28 1=(some 1):=by kernel_rfl
theorem Tfo_28_2:fo Tryz.prog 28 2=(some 2):=by kernel_rfl
theorem Tfo_30_0:fo Tryz.prog 30 0=(some 0):=by kernel_rfl
theorem Tfo_30_1:fo Tryz.prog 30 1=(some 1):=by kernel_rfl
theorem Tfo_30_2:fo Tryz.prog 30 2=(some 4):=by kernel_rfl
theorem Tfo_30_3:fo Tryz.prog 30 3=(some 5):=by kernel_rfl
theorem Tfo_30_4:fo Tryz.prog 30 4=(some 6):=by kernel_rfl
theorem Tfo_33_0:fo Tryz.prog 33 0=(some 0):=by kernel_rfl
theorem Tfo_33_1:fo Tryz.prog 33 1=(some 1):=by kernel_rfl
theorem Tfo_35_0:fo Tryz.prog 35 0=(some 0):=by kernel_rfl
theorem Tfo_35_1:fo Tryz.prog 35 1=(some 1):=by kernel_rfl
theorem Tfo_35_2:fo Tryz.prog 35 2=(some 2):=by kernel_rfl
theorem Tfo_35_3:fo Tryz.prog 35 3=(some 3):=by kernel_rfl
theorem Tfo_35_4:fo Tryz.prog 35 4=(some 4):=by kernel_rfl
theorem Tfo_52_0:fo Tryz.prog 52 0=(some 0):=by kernel_rfl
theorem Tfo_52_1:fo Tryz.prog 52 1=(some 1):=by kernel_rfl
theorem Tfo_52_2:fo Tryz.prog 52 2=(some 2):=by kernel_rfl
theorem Tfo_52_3:fo Tryz.prog 52 3=(some 3):=by kernel_rfl
theorem Tfo_58_0:fo Tryz.prog 58 0=(some 0):=by kernel_rfl
theorem Tfo_58_1:fo Tryz.prog 58 1=(some 1):=by kernel_rfl
theorem Tfo_60_0:fo Tryz.prog 60 0=(some 0):=by kernel_rfl
theorem Tfo_60_1:fo Tryz.prog 60 1=(some 1):=by kernel_rfl
theorem Tfo_60_10:fo Tryz.prog 60 10=(some 10):=by kernel_rfl
theorem Tfo_60_11:fo Tryz.prog 60 11=(some 11):=by kernel_rfl
theorem Tfo_60_2:fo Tryz.prog 60 2=(some 2):=by kernel_rfl
theorem Tfo_60_3:fo Tryz.prog 60 3=(some 3):=by kernel_rfl
theorem Tfo_60_4:fo Tryz.prog 60 4=(some 4):=by kernel_rfl
theorem Tfo_60_5:fo Tryz.prog 60 5=(some 5):=by kernel_rfl
theorem Tfo_60_6:fo Tryz.prog 60 6=(some 6):=by kernel_rfl
theorem Tfo_60_7:fo Tryz.prog 60 7=(some 7):=by kernel_rfl
theorem Tfo_60_8:fo Tryz.prog 60 8=(some 8):=by kernel_rfl
theorem Tfo_60_9:fo Tryz.prog 60 9=(some 9):=by kernel_rfl
theorem Tfo_64_0:fo Tryz.prog 64 0=(some 0):=by kernel_rfl
theorem Tfo_64_1:fo Tryz.prog 64 1=(some 1):=by kernel_rfl
theorem Tfo_64_2:fo Tryz.prog 64 2=(some 2):=by kernel_rfl
theorem Tfo_64_3:fo Tryz.prog 64 3=(some 3):=by kernel_rfl
theorem Tfo_64_4:fo Tryz.prog 64 4=(some 4):=by kernel_rfl
theorem Tfo_64_5:fo Tryz.prog 64 5=(some 5):=by kernel_rfl
theorem Tfo_72_0:fo Tryz.prog 72 0=(some 0):=by kernel_rfl
theorem Tfo_72_1:fo Tryz.prog 72 1=(some 1):=by kernel_rfl
theorem Tfo_87_1:fo Tryz.prog 87 1=(some 1):=by kernel_rfl
theorem Tfo_87_2:fo Tryz.prog 87 2=(some 14):=by kernel_rfl
theorem TifT_168:ifT Tryz.prog 168=true:=by kernel_rfl
theorem TifT_169:ifT Tryz.prog 169=true:=by kernel_rfl
theorem TisBytes_93:jq Tryz.prog 93=true:=by kernel_rfl
theorem TisSlice_104:bg Tryz.prog 104=true:=by kernel_rfl
theorem TisSlice_111:bg Tryz.prog 111=true:=by kernel_rfl
theorem TisSlice_117:bg Tryz.prog 117=true:=by kernel_rfl
theorem TisSlice_132:bg Tryz.prog 132=true:=by kernel_rfl
theorem TisSlice_154:bg Tryz.prog 154=true:=by kernel_rfl
theorem TisSlice_170:bg Tryz.prog 170=true:=by kernel_rfl
theorem TisSlice_189:bg Tryz.prog 189=true:=by kernel_rfl
theorem TisSlice_22:bg Tryz.prog 22=true:=by kernel_rfl
theorem TisSlice_31:bg Tryz.prog 31=true:=by kernel_rfl
theorem TisSlice_36:bg Tryz.prog 36=true:=by kernel_rfl
theorem TisSlice_83:bg Tryz.prog 83=true:=by kernel_rfl
theorem TisSlice_93:bg Tryz.prog 93=true:=by kernel_rfl
theorem TisSlice_95:bg Tryz.prog 95=true:=by kernel_rfl
theorem TisSomeT_188:ki Tryz.prog 188=true:=by kernel_rfl
theorem TisSomeT_190:ki Tryz.prog 190=true:=by kernel_rfl
theorem TisSomeT_3:ki Tryz.prog 3=true:=by kernel_rfl
theorem TisSomeT_5:ki Tryz.prog 5=true:=by kernel_rfl
theorem TisSomeT_9:ki Tryz.prog 9=true:=by kernel_rfl
theorem TisStr_9:gl Tryz.prog 9=true:=by kernel_rfl
theorem TisStr_93:gl Tryz.prog 93=false:=by kernel_rfl
theorem TkindOf_162:oa Tryz.prog 162=(some .u64):=by kernel_rfl
theorem TkindOf_188:oa Tryz.prog 188=(some .u32):=by kernel_rfl
theorem TkindOf_190:oa Tryz.prog 190=(some .u64):=by kernel_rfl
theorem TkindOf_3:oa Tryz.prog 3=(some .i64):=by kernel_rfl
theorem TkindOf_5:oa Tryz.prog 5=(some .u8):=by kernel_rfl
theorem TldT_100:ldT Tryz.prog 100=(some (some 3)):=by kernel_rfl
theorem TldT_116:ldT Tryz.prog 116=(some (some 7)):=by kernel_rfl
theorem TldT_132:ldT Tryz.prog 132=(some none):=by kernel_rfl
theorem TldT_134:ldT Tryz.prog 134=(some (some 3)):=by kernel_rfl
theorem TldT_136:ldT Tryz.prog 136=(some (some 64)):=by kernel_rfl
theorem TldT_138:ldT Tryz.prog 138=(some (some 4)):=by kernel_rfl
theorem TldT_139:ldT Tryz.prog 139=(some (some 2)):=by kernel_rfl
theorem TldT_158:ldT Tryz.prog 158=(some (some 3)):=by kernel_rfl
theorem TldT_172:ldT Tryz.prog 172=(some none):=by kernel_rfl
theorem TldT_179:ldT Tryz.prog 179=(some none):=by kernel_rfl
theorem TldT_188:ldT Tryz.prog 188=(some none):=by kernel_rfl
theorem TldT_205:ldT Tryz.prog 205=(some none):=by kernel_rfl
theorem TldT_22:ldT Tryz.prog 22=(some none):=by kernel_rfl
theorem TldT_248:ldT Tryz.prog 248=(some (some 8)):=by kernel_rfl
theorem TldT_249:ldT Tryz.prog 249=(some (some 64)):=by kernel_rfl
theorem TldT_28:ldT Tryz.prog 28=(some (some 3)):=by kernel_rfl
theorem TldT_3:ldT Tryz.prog 3=(some none):=by kernel_rfl
theorem TldT_30:ldT Tryz.prog 30=(some (some 7)):=by kernel_rfl
theorem TldT_31:ldT Tryz.prog 31=(some none):=by kernel_rfl
theorem TldT_33:ldT Tryz.prog 33=(some (some 2)):=by kernel_rfl
theorem TldT_35:ldT Tryz.prog 35=(some (some 6)):=by kernel_rfl
theorem TldT_4:ldT Tryz.prog 4=(some none):=by kernel_rfl
theorem TldT_5:ldT Tryz.prog 5=(some none):=by kernel_rfl
theorem TldT_52:ldT Tryz.prog 52=(some (some 4)):=by kernel_rfl
theorem TldT_58:ldT Tryz.prog 58=(some (some 2)):=by kernel_rfl
theorem TldT_60:ldT Tryz.prog 60=(some (some 13)):=by kernel_rfl
theorem TldT_64:ldT Tryz.prog 64=(some (some 6)):=by kernel_rfl
theorem TldT_75:ldT Tryz.prog 75=(some none):=by kernel_rfl
theorem TldT_87:ldT Tryz.prog 87=(some (some 27)):=by kernel_rfl
theorem TldT_9:ldT Tryz.prog 9=(some none):=by kernel_rfl
theorem TmapT_210:aev Tryz.prog 210=(some (9,(.string,3))):=by kernel_rfl
theorem TmapT_75:aev Tryz.prog 75=(some (3,((.int .i64),4))):=by kernel_rfl
theorem TplacesOf_100:bo Tryz.prog 100=(some [(0,1),(1,1),(2,1)]):=by kernel_rfl
theorem TplacesOf_116:bo Tryz.prog 116=(some [(0,1),(1,4),(5,2)]):=by kernel_rfl
theorem TplacesOf_134:bo Tryz.prog 134=(some [(0,1),(1,1),(2,1)]):=by kernel_rfl
theorem TplacesOf_136:bo Tryz.prog 136=(some [(0,1),(1,1),(2,1),(3,1),(4,1),(5,1),(6,1),(7,1),(8,1),(9,1),(10,1),(11,1),(12,1),(13,1),(14,1),(15,1),(16,1),(17,1),(18,1),(19,1),(20,1),(21,1),(22,1),(23,1),(24,1),(25,1),(26,1),(27,1),(28,1),(29,1),(30,1),(31,1),(32,1),(33,1),(34,1),(35,1),(36,1),(37,1),(38,1),(39,1),(40,1),(41,1),(42,1),(43,1),(44,1),(45,1),(46,1),(47,1),(48,1),(49,1),(50,1),(51,1),(52,1),(53,1),(54,1),(55,1),(56,1),(57,1),(58,1),(59,1),(60,1),(61,1),(62,1),(63,1)]):=by kernel_rfl
theorem TplacesOf_158:bo Tryz.prog 158=(some [(0,2),(2,1)]):=by kernel_rfl
theorem TplacesOf_168:bo Tryz.prog 168=(some [(0,4)]):=by kernel_rfl
theorem TplacesOf_169:bo Tryz.prog 169=(some [(0,4)]):=by kernel_rfl
theorem TplacesOf_248:bo Tryz.prog 248=(some [(0,1),(1,1),(2,1),(3,1),(4,1),(5,1),(6,1),(7,1)]):=by kernel_rfl
theorem TplacesOf_249:bo Tryz.prog 249=(some [(0,1),(1,1),(2,1),(3,1),(4,1),(5,1),(6,1),(7,1),(8,1),(9,1),(10,1),(11,1),(12,1),(13,1),(14,1),(15,1),(16,1),(17,1),(18,1),(19,1),(20,1),(21,1),(22,1),(23,1),(24,1),(25,1),(26,1),(27,1),(28,1),(29,1),(30,1),(31,1),(32,1),(33,1),(34,1),(35,1),(36,1),(37,1),(38,1),(39,1),(40,1),(41,1),(42,1),(43,1),(44,1),(45,1),(46,1),(47,1),(48,1),(49,1),(50,1),(51,1),(52,1),(53,1),(54,1),(55,1),(56,1),(57,1),(58,1),(59,1),(60,1),(61,1),(62,1),(63,1)]):=by kernel_rfl
theorem TplacesOf_253:bo Tryz.prog 253=(some [(0,1),(1,1),(2,1),(3,1),(4,1)]):=by kernel_rfl
theorem TplacesOf_28:bo Tryz.prog 28=(some [(0,1),(1,1),(2,1)]):=by kernel_rfl
theorem TplacesOf_30:bo Tryz.prog 30=(some [(0,1),(1,3),(4,1),(5,1),(6,1)]):=by kernel_rfl
theorem TplacesOf_33:bo Tryz.prog 33=(some [(0,1),(1,1)]):=by kernel_rfl
theorem TplacesOf_35:bo Tryz.prog 35=(some [(0,1),(1,1),(2,1),(3,1),(4,2)]):=by kernel_rfl
theorem TplacesOf_52:bo Tryz.prog 52=(some [(0,1),(1,1),(2,1),(3,1)]):=by kernel_rfl
theorem TplacesOf_58:bo Tryz.prog 58=(some [(0,1),(1,1)]):=by kernel_rfl
theorem TplacesOf_60:bo Tryz.prog 60=(some [(0,1),(1,1),(2,1),(3,1),(4,1),(5,1),(6,1),(7,1),(8,1),(9,1),(10,1),(11,2)]):=by kernel_rfl
theorem TplacesOf_64:bo Tryz.prog 64=(some [(0,1),(1,1),(2,1),(3,1),(4,1),(5,1)]):=by kernel_rfl
theorem TplacesOf_72:bo Tryz.prog 72=(some [(0,1),(1,1)]):=by kernel_rfl
theorem TplacesOf_87:bo Tryz.prog 87=(some [(0,1),(1,13),(14,13)]):=by kernel_rfl
theorem TrowOf_188:ke Tryz.prog 188=(some false):=by kernel_rfl
theorem TrowOf_3:ke Tryz.prog 3=(some false):=by kernel_rfl
theorem TslT_104:slT Tryz.prog 104=(some (52,(4,32))):=by kernel_rfl
theorem TslT_111:slT Tryz.prog 111=(some (116,(7,88))):=by kernel_rfl
theorem TslT_117:slT Tryz.prog 117=(some (33,(2,48))):=by kernel_rfl
theorem TslT_154:slT Tryz.prog 154=(some (158,(3,72))):=by kernel_rfl
theorem TslT_170:slT Tryz.prog 170=(some (172,(1,16))):=by kernel_rfl
theorem TslT_189:slT Tryz.prog 189=(some (188,(1,4))):=by kernel_rfl
theorem TslT_22:slT Tryz.prog 22=(some (3,(1,8))):=by kernel_rfl
theorem TslT_31:slT Tryz.prog 31=(some (100,(3,32))):=by kernel_rfl
theorem TslT_36:slT Tryz.prog 36=(some (60,(13,160))):=by kernel_rfl
theorem TslT_74:slT Tryz.prog 74=(some (22,(1,24))):=by kernel_rfl
theorem TslT_83:slT Tryz.prog 83=(some (87,(27,328))):=by kernel_rfl
theorem TslT_93:slT Tryz.prog 93=(some (5,(1,1))):=by kernel_rfl
theorem TslT_95:slT Tryz.prog 95=(some (35,(6,104))):=by kernel_rfl
theorem TszOf_100:d7 Tryz.prog 100=(some 3):=by kernel_rfl
theorem TszOf_116:d7 Tryz.prog 116=(some 7):=by kernel_rfl
theorem TszOf_136:d7 Tryz.prog 136=(some 64):=by kernel_rfl
theorem TszOf_138:d7 Tryz.prog 138=(some 4):=by kernel_rfl
theorem TszOf_139:d7 Tryz.prog 139=(some 2):=by kernel_rfl
theorem TszOf_158:d7 Tryz.prog 158=(some 3):=by kernel_rfl
theorem TszOf_179:d7 Tryz.prog 179=(some 1):=by kernel_rfl
theorem TszOf_188:d7 Tryz.prog 188=(some 1):=by kernel_rfl
theorem TszOf_205:d7 Tryz.prog 205=(some 1):=by kernel_rfl
theorem TszOf_22:d7 Tryz.prog 22=(some 1):=by kernel_rfl
theorem TszOf_248:d7 Tryz.prog 248=(some 8):=by kernel_rfl
theorem TszOf_249:d7 Tryz.prog 249=(some 64):=by kernel_rfl
theorem TszOf_28:d7 Tryz.prog 28=(some 3):=by kernel_rfl
theorem TszOf_3:d7 Tryz.prog 3=(some 1):=by kernel_rfl
theorem TszOf_30:d7 Tryz.prog 30=(some 7):=by kernel_rfl
theorem TszOf_31:d7 Tryz.prog 31=(some 1):=by kernel_rfl
theorem TszOf_33:d7 Tryz.prog 33=(some 2):=by kernel_rfl
theorem TszOf_35:d7 Tryz.prog 35=(some 6):=by kernel_rfl
theorem TszOf_4:d7 Tryz.prog 4=(some 1):=by kernel_rfl
theorem TszOf_5:d7 Tryz.prog 5=(some 1):=by kernel_rfl
theorem TszOf_52:d7 Tryz.prog 52=(some 4):=by kernel_rfl
theorem TszOf_58:d7 Tryz.prog 58=(some 2):=by kernel_rfl
theorem TszOf_60:d7 Tryz.prog 60=(some 13):=by kernel_rfl
theorem TszOf_64:d7 Tryz.prog 64=(some 6):=by kernel_rfl
theorem TszOf_75:d7 Tryz.prog 75=(some 1):=by kernel_rfl
theorem TszOf_87:d7 Tryz.prog 87=(some 27):=by kernel_rfl
theorem TszOf_9:d7 Tryz.prog 9=(some 1):=by kernel_rfl
theorem TzeroOf_100:bf Tryz.prog 100=(some [(.int .i64 0),(.int .i64 0),(.str [])]):=by kernel_rfl
theorem TzeroOf_116:bf Tryz.prog 116=(some [(.int .i64 0),(.int .i64 0),(.int .i64 0),(.int .i64 0),(.int .i64 0),.nils,.nils]):=by kernel_rfl
theorem TzeroOf_134:bf Tryz.prog 134=(some [(.int .i64 0),.nils,.nils]):=by kernel_rfl
theorem TzeroOf_136:bf Tryz.prog 136=(some [(.bool false),(.bool false),(.bool false),(.bool false),(.bool false),(.bool false),(.bool false),(.bool false),(.bool false),(.bool false),(.bool false),(.bool false),(.bool false),(.bool false),(.bool false),(.bool false),(.bool false),(.bool false),(.bool false),(.bool false),(.bool false),(.bool false),(.bool false),(.bool false),(.bool false),(.bool false),(.bool false),(.bool false),(.bool false),(.bool false),(.bool false),(.bool false),(.bool false),(.bool false),(.bool false),(.bool false),(.bool false),(.bool false),(.bool false),(.bool false),(.bool false),(.bool false),(.bool false),(.bool false),(.bool false),(.bool false),(.bool false),(.bool false),(.bool false),(.bool false),(.bool false),(.bool false),(.bool false),(.bool false),(.bool false),(.bool false),(.bool false),(.bool false),(.bool false),(.bool false),(.bool false),(.bool false),(.bool false),(.bool false)]):=by kernel_rfl
theorem TzeroOf_138:bf Tryz.prog 138=(some [.nils,.nils,.nils,.nils]):=by kernel_rfl
theorem TzeroOf_139:bf Tryz.prog 139=(some [(.bool false),(.bool false)]):=by kernel_rfl
theorem TzeroOf_158:bf Tryz.prog 158=(some [.nils,.nils,.nils]):=by kernel_rfl
theorem TzeroOf_168:bf Tryz.prog 168=(some [(.int .i64 0),(.int .i64 0),(.int .i64 0),(.int .i64 0)]):=by kernel_rfl
theorem TzeroOf_169:bf Tryz.prog 169=(some [(.int .i64 0),(.int .i64 0),(.int .i64 0),(.int .i64 0)]):=by kernel_rfl
theorem TzeroOf_179:bf Tryz.prog 179=(some [.nilf]):=by kernel_rfl
theorem TzeroOf_188:bf Tryz.prog 188=(some [(.int .u32 0)]):=by kernel_rfl
theorem TzeroOf_205:bf Tryz.prog 205=(some [.nilf]):=by kernel_rfl
theorem TzeroOf_248:bf Tryz.prog 248=(some [(.int .u32 0),(.int .u32 0),(.int .u32 0),(.int .u32 0),(.int .u32 0),(.int .u32 0),(.int .u32 0),(.int .u32 0)]):=by kernel_rfl
theorem TzeroOf_249:bf Tryz.prog 249=(some [(.int .u32 0),(.int .u32 0),(.int .u32 0),(.int .u32 0),(.int .u32 0),(.int .u32 0),(.int .u32 0),(.int .u32 0),(.int .u32 0),(.int .u32 0),(.int .u32 0),(.int .u32 0),(.int .u32 0),(.int .u32 0),(.int .u32 0),(.int .u32 0),(.int .u32 0),(.int .u32 0),(.int .u32 0),(.int .u32 0),(.int .u32 0),(.int .u32 0),(.int .u32 0),(.int .u32 0),(.int .u32 0),(.int .u32 0),(.int .u32 0),(.int .u32 0),(.int .u32 0),(.int .u32 0),(.int .u32 0),(.int .u32 0),(.int .u32 0),(.int .u32 0),(.int .u32 0),(.int .u32 0),(.int .u32 0),(.int .u32 0),(.int .u32 0),(.int .u32 0),(.int .u32 0),(.int .u32 0),(.int .u32 0),(.int .u32 0),(.int .u32 0),(.int .u32 0),(.int .u32 0),(.int .u32 0),(.int .u32 0),(.int .u32 0),(.int .u32 0),(.int .u32 0),(.int .u32 0),(.int .u32 0),(.int .u32 0),(.int .u32 0),(.int .u32 0),(.int .u32 0),(.int .u32 0),(.int .u32 0),(.int .u32 0),(.int .u32 0),(.int .u32 0),(.int .u32 0)]):=by kernel_rfl
theorem TzeroOf_253:bf Tryz.prog 253=(some [(.int .i64 0),(.int .i64 0),(.int .i64 0),(.int .i64 0),(.int .i64 0)]):=by kernel_rfl
theorem TzeroOf_28:bf Tryz.prog 28=(some [.nils,.nils,(.int .i64 0)]):=by kernel_rfl
theorem TzeroOf_3:bf Tryz.prog 3=(some [(.int .i64 0)]):=by kernel_rfl
theorem TzeroOf_30:bf Tryz.prog 30=(some [.nils,.nils,.nils,(.int .i64 0),(.int .i64 0),(.int .i64 0),(.int .i64 0)]):=by kernel_rfl
theorem TzeroOf_33:bf Tryz.prog 33=(some [.nils,.nils]):=by kernel_rfl
theorem TzeroOf_35:bf Tryz.prog 35=(some [(.int .i64 0),.nils,(.str []),(.bool false),.nils,.nils]):=by kernel_rfl
theorem TzeroOf_5:bf Tryz.prog 5=(some [(.int .u8 0)]):=by kernel_rfl
theorem TzeroOf_52:bf Tryz.prog 52=(some [(.int .i64 0),(.int .i64 0),(.int .i64 0),(.int .i64 0)]):=by kernel_rfl
theorem TzeroOf_58:bf Tryz.prog 58=(some [(.int .i64 0),(.str [])]):=by kernel_rfl
theorem TzeroOf_60:bf Tryz.prog 60=(some [(.int .i64 0),(.int .i64 0),(.str []),(.int .i64 0),(.int .i64 0),(.int .i64 0),(.int .i64 0),(.int .i64 0),.nils,.nils,(.str []),(.int .i64 0),(.str [])]):=by kernel_rfl
theorem TzeroOf_64:bf Tryz.prog 64=(some [(.int .i64 0),(.int .i64 0),(.int .i64 0),(.int .i64 0),.nils,.nils]):=by kernel_rfl
theorem TzeroOf_72:bf Tryz.prog 72=(some [.nils,(.int .i64 0)]):=by kernel_rfl
theorem TzeroOf_75:bf Tryz.prog 75=(some [.nilm]):=by kernel_rfl
theorem TzeroOf_87:bf Tryz.prog 87=(some [(.int .i64 0),(.int .i64 0),(.int .i64 0),(.str []),(.int .i64 0),(.int .i64 0),(.int .i64 0),(.int .i64 0),(.int .i64 0),.nils,.nils,(.str []),(.int .i64 0),(.str []),(.int .i64 0),(.int .i64 0),(.str []),(.int .i64 0),(.int .i64 0),(.int .i64 0),(.int .i64 0),(.int .i64 0),.nils,.nils,(.str []),(.int .i64 0),(.str [])]):=by kernel_rfl
theorem TzeroV_3:aje Tryz.prog 3=(some (.int .i64 0)):=by kernel_rfl
theorem TzeroV_4:aje Tryz.prog 4=(some (.bool false)):=by kernel_rfl
theorem TmethT_168_trustflow_appeal_decided:aoh Tryz.prog 168 "trustflow/appeal.decided" =some 326:=by kernel_rfl
theorem TmethT_169_trustflow_appeal_decided:aoh Tryz.prog 169 "trustflow/appeal.decided" =some 327:=by kernel_rfl
attribute [go_sem] TarT_136 TarT_138 TarT_139 TarT_248 TarT_249 TarrOf_248 TarrOf_253 TelemOf_22 TelemOf_93 TflatOf_136 TflatOf_52 TflatOf_58 Tfo_100_0 Tfo_100_1 Tfo_100_2 Tfo_116_0 Tfo_116_1 Tfo_116_2 Tfo_134_0 Tfo_134_1 Tfo_134_2 Tfo_158_0 Tfo_158_1 Tfo_168_0 Tfo_169_0 Tfo_28_0 Tfo_28_1 Tfo_28_2
attribute [go_sem] Tfo_30_0 Tfo_30_1 Tfo_30_2 Tfo_30_3 Tfo_30_4 Tfo_33_0 Tfo_33_1 Tfo_35_0 Tfo_35_1 Tfo_35_2 Tfo_35_3 Tfo_35_4 Tfo_52_0 Tfo_52_1 Tfo_52_2 Tfo_52_3 Tfo_58_0 Tfo_58_1 Tfo_60_0 Tfo_60_1 Tfo_60_10 Tfo_60_11 Tfo_60_2 Tfo_60_3 Tfo_60_4 Tfo_60_5 Tfo_60_6 Tfo_60_7 Tfo_60_8 Tfo_60_9 Tfo_64_0 Tfo_64_1 Tfo_64_2 Tfo_64_3 Tfo_64_4 Tfo_64_5 Tfo_72_0 Tfo_72_1
attribute [go_sem] Tfo_87_1 Tfo_87_2 TifT_168 TifT_169 TisBytes_93 TisSlice_104 TisSlice_111 TisSlice_117 TisSlice_132 TisSlice_154 TisSlice_170 TisSlice_189 TisSlice_22 TisSlice_31 TisSlice_36 TisSlice_83 TisSlice_93 TisSlice_95 TisSomeT_188 TisSomeT_190 TisSomeT_3
attribute [go_sem] TisSomeT_5 TisSomeT_9 TisStr_9 TisStr_93 TkindOf_162 TkindOf_188 TkindOf_190
attribute [go_sem] TkindOf_3 TkindOf_5 TldT_100 TldT_116 TldT_132 TldT_134 TldT_136 TldT_138 TldT_139 TldT_158 TldT_172 TldT_179 TldT_188 TldT_205 TldT_22 TldT_248 TldT_249 TldT_28 TldT_3 TldT_30 TldT_31 TldT_33 TldT_35 TldT_4 TldT_5 TldT_52
attribute [go_sem] TldT_58 TldT_60 TldT_64 TldT_75 TldT_87 TldT_9 TmapT_210 TmapT_75 TplacesOf_100 TplacesOf_116 TplacesOf_134 TplacesOf_136 TplacesOf_158 TplacesOf_168 TplacesOf_169 TplacesOf_248 TplacesOf_249 TplacesOf_253 TplacesOf_28 TplacesOf_30 TplacesOf_33 TplacesOf_35 TplacesOf_52 TplacesOf_58 TplacesOf_60 TplacesOf_64 TplacesOf_72 TplacesOf_87 TrowOf_188 TrowOf_3 TslT_104 TslT_111 TslT_117
attribute [go_sem] TslT_154 TslT_170 TslT_189 TslT_22 TslT_31 TslT_36 TslT_74 TslT_83 TslT_93 TslT_95 TszOf_100 TszOf_116 TszOf_136 TszOf_138 TszOf_139 TszOf_158 TszOf_179 TszOf_188 TszOf_205 TszOf_22 TszOf_248 TszOf_249 TszOf_28 TszOf_3 TszOf_30 TszOf_31 TszOf_33 TszOf_35 TszOf_4 TszOf_5 TszOf_52
attribute [go_sem] TszOf_58 TszOf_60 TszOf_64 TszOf_75 TszOf_87 TszOf_9 TzeroOf_100 TzeroOf_116 TzeroOf_134 TzeroOf_136 TzeroOf_138 TzeroOf_139 TzeroOf_158 TzeroOf_168 TzeroOf_169 TzeroOf_179 TzeroOf_188 TzeroOf_205 TzeroOf_248 TzeroOf_249 TzeroOf_253 TzeroOf_28 TzeroOf_3 TzeroOf_30 TzeroOf_33 TzeroOf_35 TzeroOf_5 TzeroOf_52 TzeroOf_58
attribute [go_sem] TzeroOf_60 TzeroOf_64 TzeroOf_72 TzeroOf_75 TzeroOf_87 TzeroV_3 TzeroV_4 TmethT_168_trustflow_appeal_decided TmethT_169_trustflow_appeal_decided
attribute [go_sem_proc] reduceCtorEq Nat.reduceEqDiff Nat.reduceAdd Nat.reduceSub Nat.reduceMul Nat.reduceLT Nat.reduceLeDiff Int.reduceLT Int.reduceLE Int.reduceEq Int.reduceNe Int.reduceToNat Int.reduceAdd Int.reduceSub Int.reduceMul
attribute [go_sem_proc ↓] reduceIte
attribute [go_sem] Int.natCast_zero
end Go.Proofs.Am
