/- R1F. -/
import Derived.Test.YthidogjdclkoeaaGreatDoorAmU
import Derived.Test.YthidogjdclkoeaaGreatDoorProg
set_option linter.unusedSimpArgs false
set_option linter.unusedVariables false
namespace Go.Proofs.Am
open Go Go.RowKit Go.Proofs
theorem TarT_125:arT Tryz.prog 125=(some (64,1)):=by kernel_rfl
theorem TarT_131:arT Tryz.prog 131=(some (8,1)):=by kernel_rfl
theorem TarT_132:arT Tryz.prog 132=(some (64,1)):=by kernel_rfl
theorem TarrOf_131:t8 Tryz.prog 131=(some (8,107)):=by kernel_rfl
theorem TarrOf_247:t8 Tryz.prog 247=(some (5,3)):=by kernel_rfl
theorem TelemOf_22:br Tryz.prog 22=(some 3):=by kernel_rfl
theorem TelemOf_84:br Tryz.prog 84=(some 5):=by kernel_rfl
theorem TflatOf_122:lz Tryz.prog 122=(some [.int,.str,.bool]):=by kernel_rfl
theorem TflatOf_125:lz Tryz.prog 125=(some [.bool,.bool,.bool,.bool,.bool,.bool,.bool,.bool,.bool,.bool,.bool,.bool,.bool,.bool,.bool,.bool,.bool,.bool,.bool,.bool,.bool,.bool,.bool,.bool,.bool,.bool,.bool,.bool,.bool,.bool,.bool,.bool,.bool,.bool,.bool,.bool,.bool,.bool,.bool,.bool,.bool,.bool,.bool,.bool,.bool,.bool,.bool,.bool,.bool,.bool,.bool,.bool,.bool,.bool,.bool,.bool,.bool,.bool,.bool,.bool,.bool,.bool,.bool,.bool]):=by kernel_rfl
theorem TflatOf_45:lz Tryz.prog 45=(some [.int,.int,.int,.int]):=by kernel_rfl
theorem TflatOf_61:lz Tryz.prog 61=(some [.int,.str]):=by kernel_rfl
theorem Tfo_104_0:fo Tryz.prog 104 0=(some 0):=by kernel_rfl
theorem Tfo_104_1:fo Tryz.prog 104 1=(some 1):=by kernel_rfl
theorem Tfo_104_2:fo Tryz.prog 104 2=(some 2):=by kernel_rfl
theorem Tfo_150_0:fo Tryz.prog 150 0=(some 0):=by kernel_rfl
theorem Tfo_150_1:fo Tryz.prog 150 1=(some 2):=by kernel_rfl
theorem Tfo_164_0:fo Tryz.prog 164 0=(some 0):=by kernel_rfl
theorem Tfo_164_1:fo Tryz.prog 164 1=(some 1):=by kernel_rfl
theorem Tfo_164_2:fo Tryz.prog 164 2=(some 5):=by kernel_rfl
theorem Tfo_25_0:fo Tryz.prog 25 0=(some 0):=by kernel_rfl
theorem Tfo_25_1:fo Tryz.prog 25 1=(some 1):=by kernel_rfl
theorem Tfo_27_0:fo Tryz.prog 27 0=(some 0):=by kernel_rfl
theorem Tfo_27_1:fo Tryz.prog 27 1=(some 1):=by kernel_rfl
theorem Tfo_27_2:fo Tryz.prog 27 2=(some 2):=by kernel_rfl
theorem Tfo_27_3:fo Tryz.prog 27 3=(some 3):=by kernel_rfl
theorem Tfo_27_4:fo Tryz.prog 27 4=(some 4):=by kernel_rfl
theorem Tfo_33_0:fo Tryz.prog 33 0=(some 0):=by kernel_rfl
theorem Tfo_33_1:fo Tryz.prog 33 1=(some 1):=by kernel_rfl
theorem Tfo_33_2:fo Tryz.prog 33 2=(some 2):=by kernel_rfl
theorem Tfo_35_0:fo Tryz.prog 35 0=(some 0):=by kernel_rfl
theorem Tfo_35_1:fo Tryz.prog 35 1=(some 1):=by kernel_rfl
theorem Tfo_35_2:fo Tryz.prog 35 2=(some 4):=by kernel_rfl
theorem Tfo_35_3:fo Tryz.prog 35 3=(some 5):=by kernel_rfl
theorem Tfo_35_4:fo Tryz.prog 35 4=(some 6):=by kernel_rfl
theorem Tfo_45_0:fo Tryz.prog 45 0=(some 0):=by kernel_rfl
theorem Tfo_45_1:fo Tryz.prog 45 1=(some 1):=by kernel_rfl
theorem Tfo_45_2:fo Tryz.prog 45 2=(some 2):=by kernel_rfl
theorem Tfo_45_3:fo Tryz.prog 45 3=(some 3):=by kernel_rfl
theorem Tfo_61_0:fo Tryz.prog 61 0=(some 0):=by kernel_rfl
theorem Tfo_61_1:fo Tryz.prog 61 1=(some 1):=by kernel_rfl
theorem Tfo_63_0:fo Tryz.prog 63 0=(some 0):=by kernel_rfl
theorem Tfo_63_1:fo Tryz.prog 63 1=(some 1):=by kernel_rfl
theorem Tfo_63_10:fo Tryz.prog 63 10=(some 10):=by kernel_rfl
theorem Tfo_63_11:fo Tryz.prog 63 11=(some 11):=by kernel_rfl
theorem Tfo_63_2:fo Tryz.prog 63 2=(some 2):=by kernel_rfl
theorem Tfo_63_3:fo Tryz.prog 63 3=(some 3):=by kernel_rfl
theorem Tfo_63_4:fo Tryz.prog 63 4=(some 4):=by kernel_rfl
theorem Tfo_63_5:fo Tryz.prog 63 5=(some 5):=by kernel_rfl
theorem Tfo_63_6:fo Tryz.prog 63 6=(some 6):=by kernel_rfl
theorem Tfo_63_7:fo Tryz.prog 63 7=(some 7):=by kernel_rfl
theorem Tfo_63_8:fo Tryz.prog 63 8=(some 8):=by kernel_rfl
theorem Tfo_63_9:fo Tryz.prog 63 9=(some 9):=by kernel_rfl
theorem Tfo_71_0:fo Tryz.prog 71 0=(some 0):=by kernel_rfl
theorem Tfo_71_1:fo Tryz.prog 71 1=(some 1):=by kernel_rfl
theorem Tfo_93_0:fo Tryz.prog 93 0=(some 0):=by kernel_rfl
theorem Tfo_93_1:fo Tryz.prog 93 1=(some 1):=by kernel_rfl
theorem Tfo_93_2:fo Tryz.prog 93 2=(some 2):=by kernel_rfl
theorem Tfo_95_0:fo Tryz.prog 95 0=(some 0):=by kernel_rfl
theorem Tfo_95_1:fo Tryz.prog 95 1=(some 1):=by kernel_rfl
theorem Tfo_95_2:fo Tryz.prog 95 2=(some 2):=by kernel_rfl
theorem Tfo_95_3:fo Tryz.prog 95 3=(some 3):=by kernel_rfl
theorem Tfo_95_4:fo Tryz.prog 95 4=(some 4):=by kernel_rfl
theorem Tfo_95_5:fo Tryz.prog 95 5=(some 5):=by kernel_rfl
theorem TisBytes_84:jg Tryz.prog 84=true:=by kernel_rfl
theorem TisSlice_102:ay Tryz.prog 102=true:=by kernel_rfl
theorem TisSlice_108:ay Tryz.prog 108=true:=by kernel_rfl
theorem TisSlice_118:ay Tryz.prog 118=true:=by kernel_rfl
theorem TisSlice_144:ay Tryz.prog 144=true:=by kernel_rfl
theorem TisSlice_146:ay Tryz.prog 146=true:=by kernel_rfl
theorem TisSlice_22:ay Tryz.prog 22=true:=by kernel_rfl
theorem TisSlice_23:ay Tryz.prog 23=true:=by kernel_rfl
theorem TisSlice_36:ay Tryz.prog 36=true:=by kernel_rfl
theorem TisSlice_39:ay Tryz.prog 39=true:=by kernel_rfl
theorem TisSlice_74:ay Tryz.prog 74=true:=by kernel_rfl
theorem TisSlice_84:ay Tryz.prog 84=true:=by kernel_rfl
theorem TisSomeT_107:jn Tryz.prog 107=true:=by kernel_rfl
theorem TisSomeT_109:jn Tryz.prog 109=true:=by kernel_rfl
theorem TisSomeT_21:jn Tryz.prog 21=true:=by kernel_rfl
theorem TisSomeT_3:jn Tryz.prog 3=true:=by kernel_rfl
theorem TisSomeT_5:jn Tryz.prog 5=true:=by kernel_rfl
theorem TisSomeT_9:jn Tryz.prog 9=true:=by kernel_rfl
theorem TisStr_84:fx Tryz.prog 84=false:=by kernel_rfl
theorem TisStr_9:fx Tryz.prog 9=true:=by kernel_rfl
theorem TkindOf_107:mo Tryz.prog 107=(some .u32):=by kernel_rfl
theorem TkindOf_109:mo Tryz.prog 109=(some .u64):=by kernel_rfl
theorem TkindOf_3:mo Tryz.prog 3=(some .i64):=by kernel_rfl
theorem TkindOf_5:mo Tryz.prog 5=(some .u8):=by kernel_rfl
theorem TkindOf_99:mo Tryz.prog 99=(some .u64):=by kernel_rfl
theorem TldT_102:ldT Tryz.prog 102=(some none):=by kernel_rfl
theorem TldT_104:ldT Tryz.prog 104=(some (some 3)):=by kernel_rfl
theorem TldT_107:ldT Tryz.prog 107=(some none):=by kernel_rfl
theorem TldT_122:ldT Tryz.prog 122=(some (some 3)):=by kernel_rfl
theorem TldT_125:ldT Tryz.prog 125=(some (some 64)):=by kernel_rfl
theorem TldT_131:ldT Tryz.prog 131=(some (some 8)):=by kernel_rfl
theorem TldT_132:ldT Tryz.prog 132=(some (some 64)):=by kernel_rfl
theorem TldT_150:ldT Tryz.prog 150=(some (some 3)):=by kernel_rfl
theorem TldT_164:ldT Tryz.prog 164=(some (some 7)):=by kernel_rfl
theorem TldT_177:ldT Tryz.prog 177=(some none):=by kernel_rfl
theorem TldT_22:ldT Tryz.prog 22=(some none):=by kernel_rfl
theorem TldT_23:ldT Tryz.prog 23=(some none):=by kernel_rfl
theorem TldT_25:ldT Tryz.prog 25=(some (some 2)):=by kernel_rfl
theorem TldT_27:ldT Tryz.prog 27=(some (some 6)):=by kernel_rfl
theorem TldT_3:ldT Tryz.prog 3=(some none):=by kernel_rfl
theorem TldT_33:ldT Tryz.prog 33=(some (some 3)):=by kernel_rfl
theorem TldT_35:ldT Tryz.prog 35=(some (some 7)):=by kernel_rfl
theorem TldT_4:ldT Tryz.prog 4=(some none):=by kernel_rfl
theorem TldT_45:ldT Tryz.prog 45=(some (some 4)):=by kernel_rfl
theorem TldT_5:ldT Tryz.prog 5=(some none):=by kernel_rfl
theorem TldT_61:ldT Tryz.prog 61=(some (some 2)):=by kernel_rfl
theorem TldT_63:ldT Tryz.prog 63=(some (some 13)):=by kernel_rfl
theorem TldT_9:ldT Tryz.prog 9=(some none):=by kernel_rfl
theorem TldT_93:ldT Tryz.prog 93=(some (some 3)):=by kernel_rfl
theorem TldT_95:ldT Tryz.prog 95=(some (some 6)):=by kernel_rfl
theorem TmapT_171:age Tryz.prog 171=(some (9,(.string,3))):=by kernel_rfl
theorem TplacesOf_104:cl Tryz.prog 104=(some [(0,1),(1,1),(2,1)]):=by kernel_rfl
theorem TplacesOf_122:cl Tryz.prog 122=(some [(0,1),(1,1),(2,1)]):=by kernel_rfl
theorem TplacesOf_125:cl Tryz.prog 125=(some [(0,1),(1,1),(2,1),(3,1),(4,1),(5,1),(6,1),(7,1),(8,1),(9,1),(10,1),(11,1),(12,1),(13,1),(14,1),(15,1),(16,1),(17,1),(18,1),(19,1),(20,1),(21,1),(22,1),(23,1),(24,1),(25,1),(26,1),(27,1),(28,1),(29,1),(30,1),(31,1),(32,1),(33,1),(34,1),(35,1),(36,1),(37,1),(38,1),(39,1),(40,1),(41,1),(42,1),(43,1),(44,1),(45,1),(46,1),(47,1),(48,1),(49,1),(50,1),(51,1),(52,1),(53,1),(54,1),(55,1),(56,1),(57,1),(58,1),(59,1),(60,1),(61,1),(62,1),(63,1)]):=by kernel_rfl
theorem TplacesOf_131:cl Tryz.prog 131=(some [(0,1),(1,1),(2,1),(3,1),(4,1),(5,1),(6,1),(7,1)]):=by kernel_rfl
theorem TplacesOf_132:cl Tryz.prog 132=(some [(0,1),(1,1),(2,1),(3,1),(4,1),(5,1),(6,1),(7,1),(8,1),(9,1),(10,1),(11,1),(12,1),(13,1),(14,1),(15,1),(16,1),(17,1),(18,1),(19,1),(20,1),(21,1),(22,1),(23,1),(24,1),(25,1),(26,1),(27,1),(28,1),(29,1),(30,1),(31,1),(32,1),(33,1),(34,1),(35,1),(36,1),(37,1),(38,1),(39,1),(40,1),(41,1),(42,1),(43,1),(44,1),(45,1),(46,1),(47,1),(48,1),(49,1),(50,1),(51,1),(52,1),(53,1),(54,1),(55,1),(56,1),(57,1),(58,1),(59,1),(60,1),(61,1),(62,1),(63,1)]):=by kernel_rfl
theorem TplacesOf_150:cl Tryz.prog 150=(some [(0,2),(2,1)]):=by kernel_rfl
theorem TplacesOf_164:cl Tryz.prog 164=(some [(0,1),(1,4),(5,2)]):=by kernel_rfl
theorem TplacesOf_247:cl Tryz.prog 247=(some [(0,1),(1,1),(2,1),(3,1),(4,1)]):=by kernel_rfl
theorem TplacesOf_25:cl Tryz.prog 25=(some [(0,1),(1,1)]):=by kernel_rfl
theorem TplacesOf_27:cl Tryz.prog 27=(some [(0,1),(1,1),(2,1),(3,1),(4,2)]):=by kernel_rfl
theorem TplacesOf_33:cl Tryz.prog 33=(some [(0,1),(1,1),(2,1)]):=by kernel_rfl
theorem TplacesOf_35:cl Tryz.prog 35=(some [(0,1),(1,3),(4,1),(5,1),(6,1)]):=by kernel_rfl
theorem TplacesOf_45:cl Tryz.prog 45=(some [(0,1),(1,1),(2,1),(3,1)]):=by kernel_rfl
theorem TplacesOf_61:cl Tryz.prog 61=(some [(0,1),(1,1)]):=by kernel_rfl
theorem TplacesOf_63:cl Tryz.prog 63=(some [(0,1),(1,1),(2,1),(3,1),(4,1),(5,1),(6,1),(7,1),(8,1),(9,1),(10,1),(11,2)]):=by kernel_rfl
theorem TplacesOf_71:cl Tryz.prog 71=(some [(0,1),(1,1)]):=by kernel_rfl
theorem TplacesOf_93:cl Tryz.prog 93=(some [(0,1),(1,1),(2,1)]):=by kernel_rfl
theorem TplacesOf_95:cl Tryz.prog 95=(some [(0,1),(1,1),(2,1),(3,1),(4,1),(5,1)]):=by kernel_rfl
theorem TrowOf_107:jt Tryz.prog 107=(some false):=by kernel_rfl
theorem TrowOf_3:jt Tryz.prog 3=(some false):=by kernel_rfl
theorem TslT_108:slT Tryz.prog 108=(some (107,(1,4))):=by kernel_rfl
theorem TslT_118:slT Tryz.prog 118=(some (25,(2,48))):=by kernel_rfl
theorem TslT_144:slT Tryz.prog 144=(some (150,(3,72))):=by kernel_rfl
theorem TslT_146:slT Tryz.prog 146=(some (164,(7,88))):=by kernel_rfl
theorem TslT_22:slT Tryz.prog 22=(some (3,(1,8))):=by kernel_rfl
theorem TslT_23:slT Tryz.prog 23=(some (93,(3,32))):=by kernel_rfl
theorem TslT_36:slT Tryz.prog 36=(some (63,(13,160))):=by kernel_rfl
theorem TslT_39:slT Tryz.prog 39=(some (27,(6,104))):=by kernel_rfl
theorem TslT_74:slT Tryz.prog 74=(some (22,(1,24))):=by kernel_rfl
theorem TslT_84:slT Tryz.prog 84=(some (5,(1,1))):=by kernel_rfl
theorem TszOf_107:du Tryz.prog 107=(some 1):=by kernel_rfl
theorem TszOf_122:du Tryz.prog 122=(some 3):=by kernel_rfl
theorem TszOf_125:du Tryz.prog 125=(some 64):=by kernel_rfl
theorem TszOf_131:du Tryz.prog 131=(some 8):=by kernel_rfl
theorem TszOf_132:du Tryz.prog 132=(some 64):=by kernel_rfl
theorem TszOf_150:du Tryz.prog 150=(some 3):=by kernel_rfl
theorem TszOf_164:du Tryz.prog 164=(some 7):=by kernel_rfl
theorem TszOf_177:du Tryz.prog 177=(some 1):=by kernel_rfl
theorem TszOf_22:du Tryz.prog 22=(some 1):=by kernel_rfl
theorem TszOf_23:du Tryz.prog 23=(some 1):=by kernel_rfl
theorem TszOf_25:du Tryz.prog 25=(some 2):=by kernel_rfl
theorem TszOf_27:du Tryz.prog 27=(some 6):=by kernel_rfl
theorem TszOf_3:du Tryz.prog 3=(some 1):=by kernel_rfl
theorem TszOf_33:du Tryz.prog 33=(some 3):=by kernel_rfl
theorem TszOf_35:du Tryz.prog 35=(some 7):=by kernel_rfl
theorem TszOf_4:du Tryz.prog 4=(some 1):=by kernel_rfl
theorem TszOf_45:du Tryz.prog 45=(some 4):=by kernel_rfl
theorem TszOf_5:du Tryz.prog 5=(some 1):=by kernel_rfl
theorem TszOf_61:du Tryz.prog 61=(some 2):=by kernel_rfl
theorem TszOf_63:du Tryz.prog 63=(some 13):=by kernel_rfl
theorem TszOf_9:du Tryz.prog 9=(some 1):=by kernel_rfl
theorem TszOf_93:du Tryz.prog 93=(some 3):=by kernel_rfl
theorem TszOf_95:du Tryz.prog 95=(some 6):=by kernel_rfl
theorem TzeroOf_104:bk Tryz.prog 104=(some [(.int .i64 0),.nils,.nils]):=by kernel_rfl
theorem TzeroOf_107:bk Tryz.prog 107=(some [(.int .u32 0)]):=by kernel_rfl
theorem TzeroOf_122:bk Tryz.prog 122=(some [(.int .i64 0),(.str []),(.bool false)]):=by kernel_rfl
theorem TzeroOf_125:bk Tryz.prog 125=(some [(.bool false),(.bool false),(.bool false),(.bool false),(.bool false),(.bool false),(.bool false),(.bool false),(.bool false),(.bool false),(.bool false),(.bool false),(.bool false),(.bool false),(.bool false),(.bool false),(.bool false),(.bool false),(.bool false),(.bool false),(.bool false),(.bool false),(.bool false),(.bool false),(.bool false),(.bool false),(.bool false),(.bool false),(.bool false),(.bool false),(.bool false),(.bool false),(.bool false),(.bool false),(.bool false),(.bool false),(.bool false),(.bool false),(.bool false),(.bool false),(.bool false),(.bool false),(.bool false),(.bool false),(.bool false),(.bool false),(.bool false),(.bool false),(.bool false),(.bool false),(.bool false),(.bool false),(.bool false),(.bool false),(.bool false),(.bool false),(.bool false),(.bool false),(.bool false),(.bool false),(.bool false),(.bool false),(.bool false),(.bool false)]):=by kernel_rfl
theorem TzeroOf_131:bk Tryz.prog 131=(some [(.int .u32 0),(.int .u32 0),(.int .u32 0),(.int .u32 0),(.int .u32 0),(.int .u32 0),(.int .u32 0),(.int .u32 0)]):=by kernel_rfl
theorem TzeroOf_132:bk Tryz.prog 132=(some [(.int .u32 0),(.int .u32 0),(.int .u32 0),(.int .u32 0),(.int .u32 0),(.int .u32 0),(.int .u32 0),(.int .u32 0),(.int .u32 0),(.int .u32 0),(.int .u32 0),(.int .u32 0),(.int .u32 0),(.int .u32 0),(.int .u32 0),(.int .u32 0),(.int .u32 0),(.int .u32 0),(.int .u32 0),(.int .u32 0),(.int .u32 0),(.int .u32 0),(.int .u32 0),(.int .u32 0),(.int .u32 0),(.int .u32 0),(.int .u32 0),(.int .u32 0),(.int .u32 0),(.int .u32 0),(.int .u32 0),(.int .u32 0),(.int .u32 0),(.int .u32 0),(.int .u32 0),(.int .u32 0),(.int .u32 0),(.int .u32 0),(.int .u32 0),(.int .u32 0),(.int .u32 0),(.int .u32 0),(.int .u32 0),(.int .u32 0),(.int .u32 0),(.int .u32 0),(.int .u32 0),(.int .u32 0),(.int .u32 0),(.int .u32 0),(.int .u32 0),(.int .u32 0),(.int .u32 0),(.int .u32 0),(.int .u32 0),(.int .u32 0),(.int .u32 0),(.int .u32 0),(.int .u32 0),(.int .u32 0),(.int .u32 0),(.int .u32 0),(.int .u32 0),(.int .u32 0)]):=by kernel_rfl
theorem TzeroOf_150:bk Tryz.prog 150=(some [.nils,.nils,.nils]):=by kernel_rfl
theorem TzeroOf_164:bk Tryz.prog 164=(some [(.int .i64 0),(.int .i64 0),(.int .i64 0),(.int .i64 0),(.int .i64 0),.nils,.nils]):=by kernel_rfl
theorem TzeroOf_177:bk Tryz.prog 177=(some [.nilf]):=by kernel_rfl
theorem TzeroOf_247:bk Tryz.prog 247=(some [(.int .i64 0),(.int .i64 0),(.int .i64 0),(.int .i64 0),(.int .i64 0)]):=by kernel_rfl
theorem TzeroOf_25:bk Tryz.prog 25=(some [.nils,.nils]):=by kernel_rfl
theorem TzeroOf_27:bk Tryz.prog 27=(some [(.int .i64 0),.nils,(.str []),(.bool false),.nils,.nils]):=by kernel_rfl
theorem TzeroOf_33:bk Tryz.prog 33=(some [.nils,.nils,(.int .i64 0)]):=by kernel_rfl
theorem TzeroOf_35:bk Tryz.prog 35=(some [.nils,.nils,.nils,(.int .i64 0),(.int .i64 0),(.int .i64 0),(.int .i64 0)]):=by kernel_rfl
theorem TzeroOf_45:bk Tryz.prog 45=(some [(.int .i64 0),(.int .i64 0),(.int .i64 0),(.int .i64 0)]):=by kernel_rfl
theorem TzeroOf_5:bk Tryz.prog 5=(some [(.int .u8 0)]):=by kernel_rfl
theorem TzeroOf_61:bk Tryz.prog 61=(some [(.int .i64 0),(.str [])]):=by kernel_rfl
theorem TzeroOf_63:bk Tryz.prog 63=(some [(.int .i64 0),(.int .i64 0),(.str []),(.int .i64 0),(.int .i64 0),(.int .i64 0),(.int .i64 0),(.int .i64 0),.nils,.nils,(.str []),(.int .i64 0),(.str [])]):=by kernel_rfl
theorem TzeroOf_71:bk Tryz.prog 71=(some [.nils,(.int .i64 0)]):=by kernel_rfl
theorem TzeroOf_93:bk Tryz.prog 93=(some [(.int .i64 0),(.int .i64 0),(.str [])]):=by kernel_rfl
theorem TzeroOf_95:bk Tryz.prog 95=(some [(.int .i64 0),(.int .i64 0),(.int .i64 0),(.int .i64 0),.nils,.nils]):=by kernel_rfl
theorem TzeroV_3:aly Tryz.prog 3=(some (.int .i64 0)):=by kernel_rfl
attribute [go_sem] TarT_125 TarT_131 TarT_132 TarrOf_131 TarrOf_247 TelemOf_22 TelemOf_84 TflatOf_122 TflatOf_125 TflatOf_45 TflatOf_61 Tfo_104_0 Tfo_104_1 Tfo_104_2 Tfo_150_0 Tfo_150_1 Tfo_164_0 Tfo_164_1 Tfo_164_2 Tfo_25_0 Tfo_25_1 Tfo_27_0 Tfo_27_1 Tfo_27_2 Tfo_27_3 Tfo_27_4
attribute [go_sem] Tfo_33_0 Tfo_33_1 Tfo_33_2 Tfo_35_0 Tfo_35_1 Tfo_35_2 Tfo_35_3 Tfo_35_4 Tfo_45_0 Tfo_45_1 Tfo_45_2 Tfo_45_3 Tfo_61_0 Tfo_61_1 Tfo_63_0 Tfo_63_1 Tfo_63_10 Tfo_63_11 Tfo_63_2 Tfo_63_3 Tfo_63_4 Tfo_63_5 Tfo_63_6 Tfo_63_7 Tfo_63_8 Tfo_63_9 Tfo_71_0 Tfo_71_1 Tfo_93_0 Tfo_93_1 Tfo_93_2 Tfo_95_0 Tfo_95_1 Tfo_95_2 Tfo_95_3 Tfo_95_4 Tfo_95_5
attribute [go_sem] TisBytes_84 TisSlice_102 TisSlice_108 TisSlice_118 TisSlice_144 TisSlice_146 TisSlice_22 TisSlice_23 TisSlice_36 TisSlice_39 TisSlice_74 TisSlice_84 TisSomeT_107 TisSomeT_109 TisSomeT_21 TisSomeT_3 TisSomeT_5 TisSomeT_9
attribute [go_sem] TisStr_84 TisStr_9 TkindOf_107 TkindOf_109 TkindOf_3 TkindOf_5 TkindOf_99 TldT_102 TldT_104 TldT_107
attribute [go_sem] TldT_122 TldT_125 TldT_131 TldT_132 TldT_150 TldT_164 TldT_177 TldT_22 TldT_23 TldT_25 TldT_27 TldT_3 TldT_33 TldT_35 TldT_4 TldT_45 TldT_5 TldT_61 TldT_63 TldT_9 TldT_93 TldT_95 TmapT_171 TplacesOf_104 TplacesOf_122 TplacesOf_125 TplacesOf_131 TplacesOf_132 TplacesOf_150 TplacesOf_164 TplacesOf_247 TplacesOf_25
attribute [go_sem] TplacesOf_27 TplacesOf_33 TplacesOf_35 TplacesOf_45 TplacesOf_61 TplacesOf_63 TplacesOf_71 TplacesOf_93 TplacesOf_95 TrowOf_107 TrowOf_3 TslT_108 TslT_118 TslT_144 TslT_146 TslT_22 TslT_23 TslT_36 TslT_39 TslT_74 TslT_84 TszOf_107 TszOf_122 TszOf_125 TszOf_131 TszOf_132 TszOf_150 TszOf_164 TszOf_177 TszOf_22
attribute [go_sem] TszOf_23 TszOf_25 TszOf_27 TszOf_3 TszOf_33 TszOf_35 TszOf_4 TszOf_45 TszOf_5 TszOf_61 TszOf_63 TszOf_9 TszOf_93 TszOf_95 TzeroOf_104 TzeroOf_107 TzeroOf_122 TzeroOf_125 TzeroOf_131 TzeroOf_132 TzeroOf_150 TzeroOf_164 TzeroOf_177 TzeroOf_247 TzeroOf_25
attribute [go_sem] TzeroOf_27 TzeroOf_33 TzeroOf_35 TzeroOf_45 TzeroOf_5 TzeroOf_61 TzeroOf_63 TzeroOf_71 TzeroOf_93 TzeroOf_95 TzeroV_3
attribute [go_sem_proc] reduceCtorEq Nat.reduceEqDiff Nat.reduceAdd Nat.reduceSub Nat.reduceMul Nat.reduceLT Nat.reduceLeDiff Int.reduceLT Int.reduceLE Int.reduceEq Int.reduceNe Int.reduceToNat Int.reduceAdd Int.reduceSub Int.reduceMul
attribute [go_sem_proc ↓] reduceIte
attribute [go_sem] Int.natCast_zero
theorem aa{k:FuncId}{fn:Func}{c:Code}{N:Nat}{rs:Array ResultVar}{args:List PV}{ext:List Box}{r:PV}{nb ext':List Box}(hf:Tryz.prog.funcs[k]? =some fn)(hb:fn.body=some c)(hen: ∀xs w,(callFunc k xs).run Tryz.prog w= .ok (.enter k xs) w)(hN:fn.ntmps=N)(hrs:fn.results=rs)(hle:args.length<=N)(hc:fb N c=true)(ns:List Nat){exts:List Nat}(hexts:exts=List.range' 1000000 ext'.length)(hel:ext'.length=ext.length)(h:wv Tryz.prog N c (a6o Tryz.prog rs.toList ns exts r nb ext') (rk 0 args) (qg 0 ext)):Den Tryz.prog k args ext r nb ext':=a6k (by kernel_rfl) hf hb hen hN (congrArg Array.toList hrs) hle hc ns hexts hel h
end Go.Proofs.Am
