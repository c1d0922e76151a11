/- R1F. -/
import Derived.Test.YtloaichcpoboeaaGreatDoorAmU
import Derived.Test.YtloaichcpoboeaaGreatDoorProg
set_option linter.unusedSimpArgs false
set_option linter.unusedVariables false
namespace Go.Proofs.Am
open Go Go.RowKit Go.Proofs
theorem TarT_244:arT Tryz.prog 244=(some (64,1)):=by kernel_rfl
theorem TarT_296:arT Tryz.prog 296=(some (8,1)):=by kernel_rfl
theorem TarT_297:arT Tryz.prog 297=(some (64,1)):=by kernel_rfl
theorem TarrOf_296:uy Tryz.prog 296=(some (8,191)):=by kernel_rfl
theorem TarrOf_333:uy Tryz.prog 333=(some (5,3)):=by kernel_rfl
theorem TelemOf_142:bq Tryz.prog 142=(some 5):=by kernel_rfl
theorem TelemOf_22:bq Tryz.prog 22=(some 3):=by kernel_rfl
theorem TelemOf_27:bq Tryz.prog 27=(some 36):=by kernel_rfl
theorem TflatOf_244:nr Tryz.prog 244=(some [.bool,.bool,.bool,.bool,.bool,.bool,.bool,.bool,.bool,.bool,.bool,.bool,.bool,.bool,.bool,.bool,.bool,.bool,.bool,.bool,.bool,.bool,.bool,.bool,.bool,.bool,.bool,.bool,.bool,.bool,.bool,.bool,.bool,.bool,.bool,.bool,.bool,.bool,.bool,.bool,.bool,.bool,.bool,.bool,.bool,.bool,.bool,.bool,.bool,.bool,.bool,.bool,.bool,.bool,.bool,.bool,.bool,.bool,.bool,.bool,.bool,.bool,.bool,.bool]):=by kernel_rfl
theorem TflatOf_62:nr Tryz.prog 62=(some [.int,.int,.int]):=by kernel_rfl
theorem TflatOf_93:nr Tryz.prog 93=(some [.int,.int,.int,.int]):=by kernel_rfl
theorem TflatOf_98:nr Tryz.prog 98=(some [.int,.str]):=by kernel_rfl
theorem Tfo_100_0:fo Tryz.prog 100 0=(some 0):=by kernel_rfl
theorem Tfo_100_1:fo Tryz.prog 100 1=(some 1):=by kernel_rfl
theorem Tfo_100_10:fo Tryz.prog 100 10=(some 10):=by kernel_rfl
theorem Tfo_100_11:fo Tryz.prog 100 11=(some 11):=by kernel_rfl
theorem Tfo_100_2:fo Tryz.prog 100 2=(some 2):=by kernel_rfl
theorem Tfo_100_3:fo Tryz.prog 100 3=(some 3):=by kernel_rfl
theorem Tfo_100_4:fo Tryz.prog 100 4=(some 4):=by kernel_rfl
theorem Tfo_100_5:fo Tryz.prog 100 5=(some 5):=by kernel_rfl
theorem Tfo_100_6:fo Tryz.prog 100 6=(some 6):=by kernel_rfl
theorem Tfo_100_7:fo Tryz.prog 100 7=(some 7):=by kernel_rfl
theorem Tfo_100_8:fo Tryz.prog 100 8=(some 8):=by kernel_rfl
theorem Tfo_100_9:fo Tryz.prog 100 9=(some 9):=by kernel_rfl
theorem Tfo_103_0:fo Tryz.prog 103 0=(some 0):=by kernel_rfl
theorem Tfo_103_1:fo Tryz.prog 103 1=(some 1):=by kernel_rfl
theorem Tfo_103_2:fo Tryz.prog 103 2=(some 2):=by kernel_rfl
theorem Tfo_103_3:fo Tryz.prog 103 3=(some 3):=by kernel_rfl
theorem Tfo_103_4:fo Tryz.prog 103 4=(some 4):=by kernel_rfl
theorem Tfo_103_5:fo Tryz.prog 103 5=(some 5):=by kernel_rfl
theorem Tfo_126_0:fo Tryz.prog 126 0=(some 0):=by kernel_rfl
theorem Tfo_126_1:fo Tryz.prog 126 1=(some 1):=by kernel_rfl
theorem Tfo_128_0:fo Tryz.prog 128 0=(some 0):=by kernel_rfl
theorem Tfo_128_1:fo Tryz.prog 128 1=(some 1):=by kernel_rfl
theorem Tfo_128_2:fo Tryz.prog 128 2=(some 2):=by kernel_rfl
theorem Tfo_128_3:fo Tryz.prog 128 3=(some 3):=by kernel_rfl
theorem Tfo_128_4:fo Tryz.prog 128 4=(some 4):=by kernel_rfl
theorem Tfo_138_1:fo Tryz.prog 138 1=(some 1):=by kernel_rfl
theorem Tfo_156_0:fo Tryz.prog 156 0=(some 0):=by kernel_rfl
theorem Tfo_156_1:fo Tryz.prog 156 1=(some 1):=by kernel_rfl
theorem Tfo_156_2:fo Tryz.prog 156 2=(some 2):=by kernel_rfl
theorem Tfo_166_0:fo Tryz.prog 166 0=(some 0):=by kernel_rfl
theorem Tfo_166_1:fo Tryz.prog 166 1=(some 1):=by kernel_rfl
theorem Tfo_166_2:fo Tryz.prog 166 2=(some 5):=by kernel_rfl
theorem Tfo_179_0:fo Tryz.prog 179 0=(some 0):=by kernel_rfl
theorem Tfo_179_1:fo Tryz.prog 179 1=(some 2):=by kernel_rfl
theorem Tfo_233_0:fo Tryz.prog 233 0=(some 0):=by kernel_rfl
theorem Tfo_233_1:fo Tryz.prog 233 1=(some 1):=by kernel_rfl
theorem Tfo_233_2:fo Tryz.prog 233 2=(some 2):=by kernel_rfl
theorem Tfo_29_0:fo Tryz.prog 29 0=(some 0):=by kernel_rfl
theorem Tfo_29_1:fo Tryz.prog 29 1=(some 1):=by kernel_rfl
theorem Tfo_29_2:fo Tryz.prog 29 2=(some 2):=by kernel_rfl
theorem Tfo_32_0:fo Tryz.prog 32 0=(some 0):=by kernel_rfl
theorem Tfo_32_1:fo Tryz.prog 32 1=(some 1):=by kernel_rfl
theorem Tfo_32_2:fo Tryz.prog 32 2=(some 2):=by kernel_rfl
theorem Tfo_36_0:fo Tryz.prog 36 0=(some 0):=by kernel_rfl
theorem Tfo_36_1:fo Tryz.prog 36 1=(some 1):=by kernel_rfl
theorem Tfo_36_2:fo Tryz.prog 36 2=(some 2):=by kernel_rfl
theorem Tfo_45_0:fo Tryz.prog 45 0=(some 0):=by kernel_rfl
theorem Tfo_45_1:fo Tryz.prog 45 1=(some 1):=by kernel_rfl
theorem Tfo_45_2:fo Tryz.prog 45 2=(some 2):=by kernel_rfl
theorem Tfo_53_0:fo Tryz.prog 53 0=(some 0):=by kernel_rfl
theorem Tfo_53_1:fo Tryz.prog 53 1=(some 1):=by kernel_rfl
theorem Tfo_53_2:fo Tryz.prog 53 2=(some 4):=by kernel_rfl
theorem Tfo_53_3:fo Tryz.prog 53 3=(some 5):=by kernel_rfl
theorem Tfo_53_4:fo Tryz.prog 53 4=(some 6):=by kernel_rfl
theorem Tfo_59_0:fo Tryz.prog 59 0=(some 0):=by kernel_rfl
theorem Tfo_65_0:fo Tryz.prog 65 0=(some 0):=by kernel_rfl
theorem Tfo_65_1:fo Tryz.prog 65 1=(some 1):=by kernel_rfl
theorem Tfo_80_0:fo Tryz.prog 80 0=(some 0):=by kernel_rfl
theorem Tfo_80_1:fo Tryz.prog 80 1=(some 1):=by kernel_rfl
theorem Tfo_93_0:fo Tryz.prog 93 0=(some 0):=by kernel_rfl
theorem Tfo_93_1:fo Tryz.prog 93 1=(some 1):=by kernel_rfl
theorem Tfo_93_2:fo Tryz.prog 93 2=(some 2):=by kernel_rfl
theorem Tfo_93_3:fo Tryz.prog 93 3=(some 3):=by kernel_rfl
theorem Tfo_98_0:fo Tryz.prog 98 0=(some 0):=by kernel_rfl
theorem Tfo_98_1:fo Tryz.prog 98 1=(some 1):=by kernel_rfl
theorem TisBytes_142:jr Tryz.prog 142=true:=by kernel_rfl
theorem TisSlice_104:av Tryz.prog 104=true:=by kernel_rfl
theorem TisSlice_132:av Tryz.prog 132=true:=by kernel_rfl
theorem TisSlice_135:av Tryz.prog 135=true:=by kernel_rfl
theorem TisSlice_142:av Tryz.prog 142=true:=by kernel_rfl
theorem TisSlice_174:av Tryz.prog 174=true:=by kernel_rfl
theorem TisSlice_176:av Tryz.prog 176=true:=by kernel_rfl
theorem TisSlice_22:av Tryz.prog 22=true:=by kernel_rfl
theorem TisSlice_247:av Tryz.prog 247=true:=by kernel_rfl
theorem TisSlice_27:av Tryz.prog 27=true:=by kernel_rfl
theorem TisSlice_282:av Tryz.prog 282=true:=by kernel_rfl
theorem TisSlice_43:av Tryz.prog 43=true:=by kernel_rfl
theorem TisSlice_54:av Tryz.prog 54=true:=by kernel_rfl
theorem TisSlice_57:av Tryz.prog 57=true:=by kernel_rfl
theorem TisSlice_78:av Tryz.prog 78=true:=by kernel_rfl
theorem TisSlice_88:av Tryz.prog 88=true:=by kernel_rfl
theorem TisSlice_96:av Tryz.prog 96=true:=by kernel_rfl
theorem TisSomeT_147:jb Tryz.prog 147=true:=by kernel_rfl
theorem TisSomeT_191:jb Tryz.prog 191=true:=by kernel_rfl
theorem TisSomeT_194:jb Tryz.prog 194=true:=by kernel_rfl
theorem TisSomeT_21:jb Tryz.prog 21=true:=by kernel_rfl
theorem TisSomeT_3:jb Tryz.prog 3=true:=by kernel_rfl
theorem TisSomeT_5:jb Tryz.prog 5=true:=by kernel_rfl
theorem TisSomeT_9:jb Tryz.prog 9=true:=by kernel_rfl
theorem TisStr_142:fw Tryz.prog 142=false:=by kernel_rfl
theorem TisStr_9:fw Tryz.prog 9=true:=by kernel_rfl
theorem TkindOf_147:n8 Tryz.prog 147=(some .u64):=by kernel_rfl
theorem TkindOf_191:n8 Tryz.prog 191=(some .u32):=by kernel_rfl
theorem TkindOf_194:n8 Tryz.prog 194=(some .u64):=by kernel_rfl
theorem TkindOf_3:n8 Tryz.prog 3=(some .i64):=by kernel_rfl
theorem TkindOf_5:n8 Tryz.prog 5=(some .u8):=by kernel_rfl
theorem TldT_100:ldT Tryz.prog 100=(some (some 13)):=by kernel_rfl
theorem TldT_126:ldT Tryz.prog 126=(some (some 2)):=by kernel_rfl
theorem TldT_128:ldT Tryz.prog 128=(some (some 6)):=by kernel_rfl
theorem TldT_138:ldT Tryz.prog 138=(some (some 27)):=by kernel_rfl
theorem TldT_156:ldT Tryz.prog 156=(some (some 3)):=by kernel_rfl
theorem TldT_166:ldT Tryz.prog 166=(some (some 7)):=by kernel_rfl
theorem TldT_179:ldT Tryz.prog 179=(some (some 3)):=by kernel_rfl
theorem TldT_191:ldT Tryz.prog 191=(some none):=by kernel_rfl
theorem TldT_199:ldT Tryz.prog 199=(some none):=by kernel_rfl
theorem TldT_218:ldT Tryz.prog 218=(some none):=by kernel_rfl
theorem TldT_22:ldT Tryz.prog 22=(some none):=by kernel_rfl
theorem TldT_233:ldT Tryz.prog 233=(some (some 3)):=by kernel_rfl
theorem TldT_244:ldT Tryz.prog 244=(some (some 64)):=by kernel_rfl
theorem TldT_27:ldT Tryz.prog 27=(some none):=by kernel_rfl
theorem TldT_29:ldT Tryz.prog 29=(some (some 3)):=by kernel_rfl
theorem TldT_296:ldT Tryz.prog 296=(some (some 8)):=by kernel_rfl
theorem TldT_297:ldT Tryz.prog 297=(some (some 64)):=by kernel_rfl
theorem TldT_3:ldT Tryz.prog 3=(some none):=by kernel_rfl
theorem TldT_32:ldT Tryz.prog 32=(some (some 3)):=by kernel_rfl
theorem TldT_36:ldT Tryz.prog 36=(some (some 3)):=by kernel_rfl
theorem TldT_4:ldT Tryz.prog 4=(some none):=by kernel_rfl
theorem TldT_43:ldT Tryz.prog 43=(some none):=by kernel_rfl
theorem TldT_45:ldT Tryz.prog 45=(some (some 3)):=by kernel_rfl
theorem TldT_5:ldT Tryz.prog 5=(some none):=by kernel_rfl
theorem TldT_53:ldT Tryz.prog 53=(some (some 7)):=by kernel_rfl
theorem TldT_54:ldT Tryz.prog 54=(some none):=by kernel_rfl
theorem TldT_57:ldT Tryz.prog 57=(some none):=by kernel_rfl
theorem TldT_59:ldT Tryz.prog 59=(some (some 1)):=by kernel_rfl
theorem TldT_62:ldT Tryz.prog 62=(some (some 3)):=by kernel_rfl
theorem TldT_78:ldT Tryz.prog 78=(some none):=by kernel_rfl
theorem TldT_80:ldT Tryz.prog 80=(some (some 2)):=by kernel_rfl
theorem TldT_9:ldT Tryz.prog 9=(some none):=by kernel_rfl
theorem TldT_93:ldT Tryz.prog 93=(some (some 4)):=by kernel_rfl
theorem TldT_96:ldT Tryz.prog 96=(some none):=by kernel_rfl
theorem TldT_98:ldT Tryz.prog 98=(some (some 2)):=by kernel_rfl
theorem TmapT_213:akb Tryz.prog 213=(some (9,(.string,3))):=by kernel_rfl
theorem TplacesOf_100:bk Tryz.prog 100=(some [(0,1),(1,1),(2,1),(3,1),(4,1),(5,1),(6,1),(7,1),(8,1),(9,1),(10,1),(11,2)]):=by kernel_rfl
theorem TplacesOf_103:bk Tryz.prog 103=(some [(0,1),(1,1),(2,1),(3,1),(4,1),(5,1)]):=by kernel_rfl
theorem TplacesOf_126:bk Tryz.prog 126=(some [(0,1),(1,1)]):=by kernel_rfl
theorem TplacesOf_128:bk Tryz.prog 128=(some [(0,1),(1,1),(2,1),(3,1),(4,2)]):=by kernel_rfl
theorem TplacesOf_138:bk Tryz.prog 138=(some [(0,1),(1,13),(14,13)]):=by kernel_rfl
theorem TplacesOf_156:bk Tryz.prog 156=(some [(0,1),(1,1),(2,1)]):=by kernel_rfl
theorem TplacesOf_166:bk Tryz.prog 166=(some [(0,1),(1,4),(5,2)]):=by kernel_rfl
theorem TplacesOf_179:bk Tryz.prog 179=(some [(0,2),(2,1)]):=by kernel_rfl
theorem TplacesOf_244:bk Tryz.prog 244=(some [(0,1),(1,1),(2,1),(3,1),(4,1),(5,1),(6,1),(7,1),(8,1),(9,1),(10,1),(11,1),(12,1),(13,1),(14,1),(15,1),(16,1),(17,1),(18,1),(19,1),(20,1),(21,1),(22,1),(23,1),(24,1),(25,1),(26,1),(27,1),(28,1),(29,1),(30,1),(31,1),(32,1),(33,1),(34,1),(35,1),(36,1),(37,1),(38,1),(39,1),(40,1),(41,1),(42,1),(43,1),(44,1),(45,1),(46,1),(47,1),(48,1),(49,1),(50,1),(51,1),(52,1),(53,1),(54,1),(55,1),(56,1),(57,1),(58,1),(59,1),(60,1),(61,1),(62,1),(63,1)]):=by kernel_rfl
theorem TplacesOf_29:bk Tryz.prog 29=(some [(0,1),(1,1),(2,1)]):=by kernel_rfl
theorem TplacesOf_296:bk Tryz.prog 296=(some [(0,1),(1,1),(2,1),(3,1),(4,1),(5,1),(6,1),(7,1)]):=by kernel_rfl
theorem TplacesOf_297:bk Tryz.prog 297=(some [(0,1),(1,1),(2,1),(3,1),(4,1),(5,1),(6,1),(7,1),(8,1),(9,1),(10,1),(11,1),(12,1),(13,1),(14,1),(15,1),(16,1),(17,1),(18,1),(19,1),(20,1),(21,1),(22,1),(23,1),(24,1),(25,1),(26,1),(27,1),(28,1),(29,1),(30,1),(31,1),(32,1),(33,1),(34,1),(35,1),(36,1),(37,1),(38,1),(39,1),(40,1),(41,1),(42,1),(43,1),(44,1),(45,1),(46,1),(47,1),(48,1),(49,1),(50,1),(51,1),(52,1),(53,1),(54,1),(55,1),(56,1),(57,1),(58,1),(59,1),(60,1),(61,1),(62,1),(63,1)]):=by kernel_rfl
theorem TplacesOf_32:bk Tryz.prog 32=(some [(0,1),(1,1),(2,1)]):=by kernel_rfl
theorem TplacesOf_333:bk Tryz.prog 333=(some [(0,1),(1,1),(2,1),(3,1),(4,1)]):=by kernel_rfl
theorem TplacesOf_36:bk Tryz.prog 36=(some [(0,1),(1,1),(2,1)]):=by kernel_rfl
theorem TplacesOf_53:bk Tryz.prog 53=(some [(0,1),(1,3),(4,1),(5,1),(6,1)]):=by kernel_rfl
theorem TplacesOf_59:bk Tryz.prog 59=(some [(0,1)]):=by kernel_rfl
theorem TplacesOf_62:bk Tryz.prog 62=(some [(0,1),(1,1),(2,1)]):=by kernel_rfl
theorem TplacesOf_65:bk Tryz.prog 65=(some [(0,1),(1,1)]):=by kernel_rfl
theorem TplacesOf_80:bk Tryz.prog 80=(some [(0,1),(1,1)]):=by kernel_rfl
theorem TplacesOf_86:bk Tryz.prog 86=(some [(0,1),(1,1)]):=by kernel_rfl
theorem TplacesOf_93:bk Tryz.prog 93=(some [(0,1),(1,1),(2,1),(3,1)]):=by kernel_rfl
theorem TplacesOf_98:bk Tryz.prog 98=(some [(0,1),(1,1)]):=by kernel_rfl
theorem TrowOf_191:kc Tryz.prog 191=(some false):=by kernel_rfl
theorem TrowOf_3:kc Tryz.prog 3=(some false):=by kernel_rfl
theorem TslT_104:slT Tryz.prog 104=(some (128,(6,104))):=by kernel_rfl
theorem TslT_132:slT Tryz.prog 132=(some (126,(2,48))):=by kernel_rfl
theorem TslT_135:slT Tryz.prog 135=(some (138,(27,328))):=by kernel_rfl
theorem TslT_142:slT Tryz.prog 142=(some (5,(1,1))):=by kernel_rfl
theorem TslT_159:slT Tryz.prog 159=(some (4,(1,1))):=by kernel_rfl
theorem TslT_174:slT Tryz.prog 174=(some (179,(3,72))):=by kernel_rfl
theorem TslT_176:slT Tryz.prog 176=(some (166,(7,88))):=by kernel_rfl
theorem TslT_22:slT Tryz.prog 22=(some (3,(1,8))):=by kernel_rfl
theorem TslT_247:slT Tryz.prog 247=(some (22,(1,24))):=by kernel_rfl
theorem TslT_27:slT Tryz.prog 27=(some (36,(3,24))):=by kernel_rfl
theorem TslT_282:slT Tryz.prog 282=(some (191,(1,4))):=by kernel_rfl
theorem TslT_43:slT Tryz.prog 43=(some (86,(2,32))):=by kernel_rfl
theorem TslT_54:slT Tryz.prog 54=(some (62,(3,24))):=by kernel_rfl
theorem TslT_57:slT Tryz.prog 57=(some (100,(13,160))):=by kernel_rfl
theorem TslT_78:slT Tryz.prog 78=(some (156,(3,24))):=by kernel_rfl
theorem TslT_88:slT Tryz.prog 88=(some (93,(4,32))):=by kernel_rfl
theorem TslT_96:slT Tryz.prog 96=(some (233,(3,32))):=by kernel_rfl
theorem TszOf_100:db Tryz.prog 100=(some 13):=by kernel_rfl
theorem TszOf_126:db Tryz.prog 126=(some 2):=by kernel_rfl
theorem TszOf_128:db Tryz.prog 128=(some 6):=by kernel_rfl
theorem TszOf_138:db Tryz.prog 138=(some 27):=by kernel_rfl
theorem TszOf_156:db Tryz.prog 156=(some 3):=by kernel_rfl
theorem TszOf_166:db Tryz.prog 166=(some 7):=by kernel_rfl
theorem TszOf_179:db Tryz.prog 179=(some 3):=by kernel_rfl
theorem TszOf_191:db Tryz.prog 191=(some 1):=by kernel_rfl
theorem TszOf_199:db Tryz.prog 199=(some 1):=by kernel_rfl
theorem TszOf_218:db Tryz.prog 218=(some 1):=by kernel_rfl
theorem TszOf_22:db Tryz.prog 22=(some 1):=by kernel_rfl
theorem TszOf_233:db Tryz.prog 233=(some 3):=by kernel_rfl
theorem TszOf_244:db Tryz.prog 244=(some 64):=by kernel_rfl
theorem TszOf_27:db Tryz.prog 27=(some 1):=by kernel_rfl
theorem TszOf_29:db Tryz.prog 29=(some 3):=by kernel_rfl
theorem TszOf_296:db Tryz.prog 296=(some 8):=by kernel_rfl
theorem TszOf_297:db Tryz.prog 297=(some 64):=by kernel_rfl
theorem TszOf_3:db Tryz.prog 3=(some 1):=by kernel_rfl
theorem TszOf_32:db Tryz.prog 32=(some 3):=by kernel_rfl
theorem TszOf_36:db Tryz.prog 36=(some 3):=by kernel_rfl
theorem TszOf_4:db Tryz.prog 4=(some 1):=by kernel_rfl
theorem TszOf_43:db Tryz.prog 43=(some 1):=by kernel_rfl
theorem TszOf_45:db Tryz.prog 45=(some 3):=by kernel_rfl
theorem TszOf_53:db Tryz.prog 53=(some 7):=by kernel_rfl
theorem TszOf_54:db Tryz.prog 54=(some 1):=by kernel_rfl
theorem TszOf_59:db Tryz.prog 59=(some 1):=by kernel_rfl
theorem TszOf_78:db Tryz.prog 78=(some 1):=by kernel_rfl
theorem TszOf_80:db Tryz.prog 80=(some 2):=by kernel_rfl
theorem TszOf_9:db Tryz.prog 9=(some 1):=by kernel_rfl
theorem TszOf_93:db Tryz.prog 93=(some 4):=by kernel_rfl
theorem TszOf_96:db Tryz.prog 96=(some 1):=by kernel_rfl
theorem TszOf_98:db Tryz.prog 98=(some 2):=by kernel_rfl
theorem TzeroOf_100:ay Tryz.prog 100=(some [(.int .i64 0),(.int .i64 0),(.str []),(.int .i64 0),(.int .i64 0),(.int .i64 0),(.int .i64 0),(.int .i64 0),.nils,.nils,(.str []),(.int .i64 0),(.str [])]):=by kernel_rfl
theorem TzeroOf_103:ay Tryz.prog 103=(some [(.int .i64 0),(.int .i64 0),(.int .i64 0),(.int .i64 0),.nils,.nils]):=by kernel_rfl
theorem TzeroOf_126:ay Tryz.prog 126=(some [.nils,.nils]):=by kernel_rfl
theorem TzeroOf_128:ay Tryz.prog 128=(some [(.int .i64 0),.nils,(.str []),(.bool false),.nils,.nils]):=by kernel_rfl
theorem TzeroOf_138:ay Tryz.prog 138=(some [(.int .i64 0),(.int .i64 0),(.int .i64 0),(.str []),(.int .i64 0),(.int .i64 0),(.int .i64 0),(.int .i64 0),(.int .i64 0),.nils,.nils,(.str []),(.int .i64 0),(.str []),(.int .i64 0),(.int .i64 0),(.str []),(.int .i64 0),(.int .i64 0),(.int .i64 0),(.int .i64 0),(.int .i64 0),.nils,.nils,(.str []),(.int .i64 0),(.str [])]):=by kernel_rfl
theorem TzeroOf_156:ay Tryz.prog 156=(some [(.int .i64 0),(.int .i64 0),(.int .i64 0)]):=by kernel_rfl
theorem TzeroOf_166:ay Tryz.prog 166=(some [(.int .i64 0),(.int .i64 0),(.int .i64 0),(.int .i64 0),(.int .i64 0),.nils,.nils]):=by kernel_rfl
theorem TzeroOf_179:ay Tryz.prog 179=(some [.nils,.nils,.nils]):=by kernel_rfl
theorem TzeroOf_191:ay Tryz.prog 191=(some [(.int .u32 0)]):=by kernel_rfl
theorem TzeroOf_199:ay Tryz.prog 199=(some [.nilf]):=by kernel_rfl
theorem TzeroOf_218:ay Tryz.prog 218=(some [.nilf]):=by kernel_rfl
theorem TzeroOf_22:ay Tryz.prog 22=(some [.nils]):=by kernel_rfl
theorem TzeroOf_233:ay Tryz.prog 233=(some [(.int .i64 0),(.int .i64 0),(.str [])]):=by kernel_rfl
theorem TzeroOf_244:ay Tryz.prog 244=(some [(.bool false),(.bool false),(.bool false),(.bool false),(.bool false),(.bool false),(.bool false),(.bool false),(.bool false),(.bool false),(.bool false),(.bool false),(.bool false),(.bool false),(.bool false),(.bool false),(.bool false),(.bool false),(.bool false),(.bool false),(.bool false),(.bool false),(.bool false),(.bool false),(.bool false),(.bool false),(.bool false),(.bool false),(.bool false),(.bool false),(.bool false),(.bool false),(.bool false),(.bool false),(.bool false),(.bool false),(.bool false),(.bool false),(.bool false),(.bool false),(.bool false),(.bool false),(.bool false),(.bool false),(.bool false),(.bool false),(.bool false),(.bool false),(.bool false),(.bool false),(.bool false),(.bool false),(.bool false),(.bool false),(.bool false),(.bool false),(.bool false),(.bool false),(.bool false),(.bool false),(.bool false),(.bool false),(.bool false),(.bool false)]):=by kernel_rfl
theorem TzeroOf_29:ay Tryz.prog 29=(some [(.int .i64 0),.nils,.nils]):=by kernel_rfl
theorem TzeroOf_296:ay Tryz.prog 296=(some [(.int .u32 0),(.int .u32 0),(.int .u32 0),(.int .u32 0),(.int .u32 0),(.int .u32 0),(.int .u32 0),(.int .u32 0)]):=by kernel_rfl
theorem TzeroOf_297:ay Tryz.prog 297=(some [(.int .u32 0),(.int .u32 0),(.int .u32 0),(.int .u32 0),(.int .u32 0),(.int .u32 0),(.int .u32 0),(.int .u32 0),(.int .u32 0),(.int .u32 0),(.int .u32 0),(.int .u32 0),(.int .u32 0),(.int .u32 0),(.int .u32 0),(.int .u32 0),(.int .u32 0),(.int .u32 0),(.int .u32 0),(.int .u32 0),(.int .u32 0),(.int .u32 0),(.int .u32 0),(.int .u32 0),(.int .u32 0),(.int .u32 0),(.int .u32 0),(.int .u32 0),(.int .u32 0),(.int .u32 0),(.int .u32 0),(.int .u32 0),(.int .u32 0),(.int .u32 0),(.int .u32 0),(.int .u32 0),(.int .u32 0),(.int .u32 0),(.int .u32 0),(.int .u32 0),(.int .u32 0),(.int .u32 0),(.int .u32 0),(.int .u32 0),(.int .u32 0),(.int .u32 0),(.int .u32 0),(.int .u32 0),(.int .u32 0),(.int .u32 0),(.int .u32 0),(.int .u32 0),(.int .u32 0),(.int .u32 0),(.int .u32 0),(.int .u32 0),(.int .u32 0),(.int .u32 0),(.int .u32 0),(.int .u32 0),(.int .u32 0),(.int .u32 0),(.int .u32 0),(.int .u32 0)]):=by kernel_rfl
theorem TzeroOf_3:ay Tryz.prog 3=(some [(.int .i64 0)]):=by kernel_rfl
theorem TzeroOf_32:ay Tryz.prog 32=(some [.nils,.nils,(.int .i64 0)]):=by kernel_rfl
theorem TzeroOf_333:ay Tryz.prog 333=(some [(.int .i64 0),(.int .i64 0),(.int .i64 0),(.int .i64 0),(.int .i64 0)]):=by kernel_rfl
theorem TzeroOf_36:ay Tryz.prog 36=(some [(.int .i64 0),(.int .i64 0),(.int .i64 0)]):=by kernel_rfl
theorem TzeroOf_4:ay Tryz.prog 4=(some [(.bool false)]):=by kernel_rfl
theorem TzeroOf_45:ay Tryz.prog 45=(some [.nils,.nils,.nils]):=by kernel_rfl
theorem TzeroOf_5:ay Tryz.prog 5=(some [(.int .u8 0)]):=by kernel_rfl
theorem TzeroOf_53:ay Tryz.prog 53=(some [.nils,.nils,.nils,(.int .i64 0),(.int .i64 0),(.int .i64 0),(.int .i64 0)]):=by kernel_rfl
theorem TzeroOf_54:ay Tryz.prog 54=(some [.nils]):=by kernel_rfl
theorem TzeroOf_59:ay Tryz.prog 59=(some [.nils]):=by kernel_rfl
theorem TzeroOf_62:ay Tryz.prog 62=(some [(.int .i64 0),(.int .i64 0),(.int .i64 0)]):=by kernel_rfl
theorem TzeroOf_65:ay Tryz.prog 65=(some [.nils,(.int .i64 0)]):=by kernel_rfl
theorem TzeroOf_80:ay Tryz.prog 80=(some [(.int .i64 0),.nils]):=by kernel_rfl
theorem TzeroOf_86:ay Tryz.prog 86=(some [(.int .i64 0),.nils]):=by kernel_rfl
theorem TzeroOf_93:ay Tryz.prog 93=(some [(.int .i64 0),(.int .i64 0),(.int .i64 0),(.int .i64 0)]):=by kernel_rfl
theorem TzeroOf_98:ay Tryz.prog 98=(some [(.int .i64 0),(.str [])]):=by kernel_rfl
theorem TzeroV_3:au0 Tryz.prog 3=(some (.int .i64 0)):=by kernel_rfl
attribute [go_sem] TarT_244 TarT_296 TarT_297 TarrOf_296 TarrOf_333 TelemOf_142 TelemOf_22 TelemOf_27 TflatOf_244 TflatOf_62 TflatOf_93 TflatOf_98 Tfo_100_0 Tfo_100_1 Tfo_100_10 Tfo_100_11 Tfo_100_2 Tfo_100_3 Tfo_100_4 Tfo_100_5 Tfo_100_6 Tfo_100_7 Tfo_100_8 Tfo_100_9 Tfo_103_0 Tfo_103_1 Tfo_103_2 Tfo_103_3
attribute [go_sem] Tfo_103_4 Tfo_103_5 Tfo_126_0 Tfo_126_1 Tfo_128_0 Tfo_128_1 Tfo_128_2 Tfo_128_3 Tfo_128_4 Tfo_138_1 Tfo_156_0 Tfo_156_1 Tfo_156_2 Tfo_166_0 Tfo_166_1 Tfo_166_2 Tfo_179_0 Tfo_179_1 Tfo_233_0 Tfo_233_1 Tfo_233_2 Tfo_29_0 Tfo_29_1 Tfo_29_2 Tfo_32_0 Tfo_32_1 Tfo_32_2 Tfo_36_0 Tfo_36_1 Tfo_36_2
attribute [go_sem] Tfo_45_0 Tfo_45_1 Tfo_45_2 Tfo_53_0 Tfo_53_1 Tfo_53_2 Tfo_53_3 Tfo_53_4 Tfo_59_0 Tfo_65_0 Tfo_65_1 Tfo_80_0 Tfo_80_1 Tfo_93_0 Tfo_93_1 Tfo_93_2 Tfo_93_3 Tfo_98_0 Tfo_98_1
attribute [go_sem] TisBytes_142 TisSlice_104 TisSlice_132 TisSlice_135 TisSlice_142 TisSlice_174 TisSlice_176 TisSlice_22 TisSlice_247 TisSlice_27 TisSlice_282 TisSlice_43 TisSlice_54 TisSlice_57 TisSlice_78 TisSlice_88 TisSlice_96
attribute [go_sem] TisSomeT_147 TisSomeT_191 TisSomeT_194 TisSomeT_21 TisSomeT_3 TisSomeT_5 TisSomeT_9 TisStr_142
attribute [go_sem] TisStr_9 TkindOf_147 TkindOf_191 TkindOf_194 TkindOf_3 TkindOf_5 TldT_100 TldT_126 TldT_128 TldT_138 TldT_156 TldT_166 TldT_179 TldT_191
attribute [go_sem] TldT_199 TldT_218 TldT_22 TldT_233 TldT_244 TldT_27 TldT_29 TldT_296 TldT_297 TldT_3 TldT_32 TldT_36 TldT_4 TldT_43 TldT_45 TldT_5 TldT_53
attribute [go_sem] TldT_54 TldT_57 TldT_59 TldT_62 TldT_78 TldT_80 TldT_9 TldT_93 TldT_96 TldT_98 TmapT_213 TplacesOf_100 TplacesOf_103 TplacesOf_126 TplacesOf_128 TplacesOf_138 TplacesOf_156 TplacesOf_166 TplacesOf_179 TplacesOf_244 TplacesOf_29 TplacesOf_296 TplacesOf_297 TplacesOf_32 TplacesOf_333 TplacesOf_36
attribute [go_sem] TplacesOf_53 TplacesOf_59 TplacesOf_62 TplacesOf_65 TplacesOf_80 TplacesOf_86 TplacesOf_93 TplacesOf_98 TrowOf_191 TrowOf_3 TslT_104 TslT_132 TslT_135 TslT_142 TslT_159 TslT_174 TslT_176 TslT_22 TslT_247 TslT_27 TslT_282 TslT_43 TslT_54 TslT_57
attribute [go_sem] TslT_78 TslT_88 TslT_96 TszOf_100 TszOf_126 TszOf_128 TszOf_138 TszOf_156 TszOf_166 TszOf_179 TszOf_191 TszOf_199 TszOf_218 TszOf_22 TszOf_233 TszOf_244 TszOf_27 TszOf_29 TszOf_296 TszOf_297 TszOf_3 TszOf_32 TszOf_36 TszOf_4 TszOf_43
attribute [go_sem] TszOf_45 TszOf_53 TszOf_54 TszOf_59 TszOf_78 TszOf_80 TszOf_9 TszOf_93 TszOf_96 TszOf_98 TzeroOf_100 TzeroOf_103 TzeroOf_126 TzeroOf_128 TzeroOf_138 TzeroOf_156 TzeroOf_166 TzeroOf_179 TzeroOf_191 TzeroOf_199 TzeroOf_218 TzeroOf_22 TzeroOf_233 TzeroOf_244 TzeroOf_29 TzeroOf_296 TzeroOf_297 TzeroOf_3
attribute [go_sem] TzeroOf_32 TzeroOf_333 TzeroOf_36 TzeroOf_4 TzeroOf_45 TzeroOf_5 TzeroOf_53 TzeroOf_54 TzeroOf_59 TzeroOf_62 TzeroOf_65 TzeroOf_80 TzeroOf_86 TzeroOf_93 TzeroOf_98 TzeroV_3
attribute [go_sem_proc] reduceCtorEq Nat.reduceEqDiff Nat.reduceAdd Nat.reduceSub Nat.reduceMul Nat.reduceLT Nat.reduceLeDiff Int.reduceLT Int.reduceLE Int.reduceEq Int.reduceNe Int.reduceToNat Int.reduceAdd Int.reduceSub Int.reduceMul
attribute [go_sem_proc ↓] reduceIte
attribute [go_sem] Int.natCast_zero
theorem aa{k:FuncId}{fn:Func}{c:Code}{N:Nat}{rs:Array ResultVar}{args:List PV}{ext:List Box}{r:PV}{nb ext':List Box}(hf:Tryz.prog.funcs[k]? =some fn)(hb:fn.body=some c)(hen: ∀xs w,(callFunc k xs).run Tryz.prog w= .ok (.enter k xs) w)(hN:fn.ntmps=N)(hrs:fn.results=rs)(hle:args.length<=N)(hc:gj N c=true)(ns:List Nat){exts:List Nat}(hexts:exts=List.range' 1000000 ext'.length)(hel:ext'.length=ext.length)(h:wv Tryz.prog N c (biu Tryz.prog rs.toList ns exts r nb ext') (xp 0 args) (uz 0 ext)):Den Tryz.prog k args ext r nb ext':=bgo (by kernel_rfl) hf hb hen hN (congrArg Array.toList hrs) hle hc ns hexts hel h
end Go.Proofs.Am
