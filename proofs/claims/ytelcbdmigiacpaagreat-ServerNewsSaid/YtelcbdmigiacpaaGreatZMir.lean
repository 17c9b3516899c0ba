import Derived.Test.YtelcbdmigiacpaaGreatChecked
import Derived.Test.YtelcbdmigiacpaaGreatConE1
import Derived.Lib.Join
import Derived.Eval
set_option linter.all false
set_option maxRecDepth 10000
set_option maxHeartbeats 20000000
namespace Go.Proofs.YtelcbdmigiacpaaGreat
open Go Go.Sp
theorem c100:Tryz.prog.cellsOf 100 = 1:=by kernel_rfl
theorem c103:Tryz.prog.cellsOf 103 = 1:=by kernel_rfl
theorem c107:Tryz.prog.cellsOf 107 = 6:=by kernel_rfl
theorem c120:Tryz.prog.cellsOf 120 = 1:=by kernel_rfl
theorem c121:Tryz.prog.cellsOf 121 = 1:=by kernel_rfl
theorem c135:Tryz.prog.cellsOf 135 = 1:=by kernel_rfl
theorem c139:Tryz.prog.cellsOf 139 = 1:=by kernel_rfl
theorem c148:Tryz.prog.cellsOf 148 = 1:=by kernel_rfl
theorem c151:Tryz.prog.cellsOf 151 = 1:=by kernel_rfl
theorem c158:Tryz.prog.cellsOf 158 = 1:=by kernel_rfl
theorem c159:Tryz.prog.cellsOf 159 = 1:=by kernel_rfl
theorem c168:Tryz.prog.cellsOf 168 = 5:=by kernel_rfl
theorem c2:Tryz.prog.cellsOf 2 = 1:=by kernel_rfl
theorem c201:Tryz.prog.cellsOf 201 = 1:=by kernel_rfl
theorem c204:Tryz.prog.cellsOf 204 = 1:=by kernel_rfl
theorem c208:Tryz.prog.cellsOf 208 = 1:=by kernel_rfl
theorem c209:Tryz.prog.cellsOf 209 = 1:=by kernel_rfl
theorem c23:Tryz.prog.cellsOf 23 = 1:=by kernel_rfl
theorem c264:Tryz.prog.cellsOf 264 = 5:=by kernel_rfl
theorem c272:Tryz.prog.cellsOf 272 = 1:=by kernel_rfl
theorem c3:Tryz.prog.cellsOf 3 = 1:=by kernel_rfl
theorem c33:Tryz.prog.cellsOf 33 = 1:=by kernel_rfl
theorem c370:Tryz.prog.cellsOf 370 = 1:=by kernel_rfl
theorem c376:Tryz.prog.cellsOf 376 = 2:=by kernel_rfl
theorem c4:Tryz.prog.cellsOf 4 = 1:=by kernel_rfl
theorem c40:Tryz.prog.cellsOf 40 = 1:=by kernel_rfl
theorem c41:Tryz.prog.cellsOf 41 = 1:=by kernel_rfl
theorem c47:Tryz.prog.cellsOf 47 = 4:=by kernel_rfl
theorem c49:Tryz.prog.cellsOf 49 = 2:=by kernel_rfl
theorem c5:Tryz.prog.cellsOf 5 = 1:=by kernel_rfl
theorem c78:Tryz.prog.cellsOf 78 = 1:=by kernel_rfl
theorem c80:Tryz.prog.cellsOf 80 = 11:=by kernel_rfl
theorem c82:Tryz.prog.cellsOf 82 = 1:=by kernel_rfl
theorem c85:Tryz.prog.cellsOf 85 = 1:=by kernel_rfl
theorem c88:Tryz.prog.cellsOf 88 = 1:=by kernel_rfl
theorem c9:Tryz.prog.cellsOf 9 = 1:=by kernel_rfl
theorem c94:Tryz.prog.cellsOf 94 = 1:=by kernel_rfl
theorem c96:Tryz.prog.cellsOf 96 = 1:=by kernel_rfl
theorem c99:Tryz.prog.cellsOf 99 = 5:=by kernel_rfl
theorem cal10:callable Tryz.prog 10 = true:=by kernel_rfl
theorem cal100:callable Tryz.prog 100 = true:=by kernel_rfl
theorem cal103:callable Tryz.prog 103 = true:=by kernel_rfl
theorem cal104:callable Tryz.prog 104 = true:=by kernel_rfl
theorem cal105:callable Tryz.prog 105 = true:=by kernel_rfl
theorem cal106:callable Tryz.prog 106 = true:=by kernel_rfl
theorem cal107:callable Tryz.prog 107 = true:=by kernel_rfl
theorem cal108:callable Tryz.prog 108 = true:=by kernel_rfl
theorem cal109:callable Tryz.prog 109 = true:=by kernel_rfl
theorem cal11:callable Tryz.prog 11 = true:=by kernel_rfl
theorem cal110:callable Tryz.prog 110 = true:=by kernel_rfl
theorem cal111:callable Tryz.prog 111 = true:=by kernel_rfl
theorem cal112:callable Tryz.prog 112 = true:=by kernel_rfl
theorem cal113:callable Tryz.prog 113 = true:=by kernel_rfl
theorem cal114:callable Tryz.prog 114 = true:=by kernel_rfl
theorem cal115:callable Tryz.prog 115 = true:=by kernel_rfl
theorem cal116:callable Tryz.prog 116 = true:=by kernel_rfl
theorem cal117:callable Tryz.prog 117 = true:=by kernel_rfl
theorem cal118:callable Tryz.prog 118 = true:=by kernel_rfl
theorem cal12:callable Tryz.prog 12 = true:=by kernel_rfl
theorem cal128:callable Tryz.prog 128 = true:=by kernel_rfl
theorem cal129:callable Tryz.prog 129 = true:=by kernel_rfl
theorem cal13:callable Tryz.prog 13 = true:=by kernel_rfl
theorem cal130:callable Tryz.prog 130 = true:=by kernel_rfl
theorem cal131:callable Tryz.prog 131 = true:=by kernel_rfl
theorem cal132:callable Tryz.prog 132 = true:=by kernel_rfl
theorem cal133:callable Tryz.prog 133 = true:=by kernel_rfl
theorem cal134:callable Tryz.prog 134 = true:=by kernel_rfl
theorem cal135:callable Tryz.prog 135 = true:=by kernel_rfl
theorem cal136:callable Tryz.prog 136 = true:=by kernel_rfl
theorem cal137:callable Tryz.prog 137 = true:=by kernel_rfl
theorem cal138:callable Tryz.prog 138 = true:=by kernel_rfl
theorem cal139:callable Tryz.prog 139 = true:=by kernel_rfl
theorem cal140:callable Tryz.prog 140 = true:=by kernel_rfl
theorem cal141:callable Tryz.prog 141 = true:=by kernel_rfl
theorem cal142:callable Tryz.prog 142 = true:=by kernel_rfl
theorem cal143:callable Tryz.prog 143 = true:=by kernel_rfl
theorem cal144:callable Tryz.prog 144 = true:=by kernel_rfl
theorem cal145:callable Tryz.prog 145 = true:=by kernel_rfl
theorem cal148:callable Tryz.prog 148 = true:=by kernel_rfl
theorem cal149:callable Tryz.prog 149 = true:=by kernel_rfl
theorem cal150:callable Tryz.prog 150 = true:=by kernel_rfl
theorem cal151:callable Tryz.prog 151 = true:=by kernel_rfl
theorem cal152:callable Tryz.prog 152 = true:=by kernel_rfl
theorem cal153:callable Tryz.prog 153 = true:=by kernel_rfl
theorem cal154:callable Tryz.prog 154 = true:=by kernel_rfl
theorem cal155:callable Tryz.prog 155 = true:=by kernel_rfl
theorem cal156:callable Tryz.prog 156 = true:=by kernel_rfl
theorem cal157:callable Tryz.prog 157 = true:=by kernel_rfl
theorem cal158:callable Tryz.prog 158 = true:=by kernel_rfl
theorem cal159:callable Tryz.prog 159 = true:=by kernel_rfl
theorem cal160:callable Tryz.prog 160 = true:=by kernel_rfl
theorem cal161:callable Tryz.prog 161 = true:=by kernel_rfl
theorem cal162:callable Tryz.prog 162 = true:=by kernel_rfl
theorem cal163:callable Tryz.prog 163 = true:=by kernel_rfl
theorem cal164:callable Tryz.prog 164 = true:=by kernel_rfl
theorem cal179:callable Tryz.prog 179 = true:=by kernel_rfl
theorem cal180:callable Tryz.prog 180 = true:=by kernel_rfl
theorem cal181:callable Tryz.prog 181 = true:=by kernel_rfl
theorem cal182:callable Tryz.prog 182 = true:=by kernel_rfl
theorem cal183:callable Tryz.prog 183 = true:=by kernel_rfl
theorem cal184:callable Tryz.prog 184 = true:=by kernel_rfl
theorem cal185:callable Tryz.prog 185 = true:=by kernel_rfl
theorem cal186:callable Tryz.prog 186 = true:=by kernel_rfl
theorem cal187:callable Tryz.prog 187 = true:=by kernel_rfl
theorem cal188:callable Tryz.prog 188 = true:=by kernel_rfl
theorem cal189:callable Tryz.prog 189 = true:=by kernel_rfl
theorem cal195:callable Tryz.prog 195 = true:=by kernel_rfl
theorem cal196:callable Tryz.prog 196 = true:=by kernel_rfl
theorem cal197:callable Tryz.prog 197 = true:=by kernel_rfl
theorem cal199:callable Tryz.prog 199 = true:=by kernel_rfl
theorem cal200:callable Tryz.prog 200 = true:=by kernel_rfl
theorem cal201:callable Tryz.prog 201 = true:=by kernel_rfl
theorem cal202:callable Tryz.prog 202 = true:=by kernel_rfl
theorem cal203:callable Tryz.prog 203 = true:=by kernel_rfl
theorem cal204:callable Tryz.prog 204 = true:=by kernel_rfl
theorem cal205:callable Tryz.prog 205 = true:=by kernel_rfl
theorem cal206:callable Tryz.prog 206 = true:=by kernel_rfl
theorem cal207:callable Tryz.prog 207 = true:=by kernel_rfl
theorem cal208:callable Tryz.prog 208 = true:=by kernel_rfl
theorem cal209:callable Tryz.prog 209 = true:=by kernel_rfl
theorem cal210:callable Tryz.prog 210 = true:=by kernel_rfl
theorem cal211:callable Tryz.prog 211 = true:=by kernel_rfl
theorem cal212:callable Tryz.prog 212 = true:=by kernel_rfl
theorem cal213:callable Tryz.prog 213 = true:=by kernel_rfl
theorem cal214:callable Tryz.prog 214 = true:=by kernel_rfl
theorem cal215:callable Tryz.prog 215 = true:=by kernel_rfl
theorem cal216:callable Tryz.prog 216 = true:=by kernel_rfl
theorem cal217:callable Tryz.prog 217 = true:=by kernel_rfl
theorem cal218:callable Tryz.prog 218 = true:=by kernel_rfl
theorem cal219:callable Tryz.prog 219 = true:=by kernel_rfl
theorem cal220:callable Tryz.prog 220 = true:=by kernel_rfl
theorem cal221:callable Tryz.prog 221 = true:=by kernel_rfl
theorem cal222:callable Tryz.prog 222 = true:=by kernel_rfl
theorem cal223:callable Tryz.prog 223 = true:=by kernel_rfl
theorem cal224:callable Tryz.prog 224 = true:=by kernel_rfl
theorem cal225:callable Tryz.prog 225 = true:=by kernel_rfl
theorem cal226:callable Tryz.prog 226 = true:=by kernel_rfl
theorem cal227:callable Tryz.prog 227 = true:=by kernel_rfl
theorem cal235:callable Tryz.prog 235 = true:=by kernel_rfl
theorem cal236:callable Tryz.prog 236 = true:=by kernel_rfl
theorem cal237:callable Tryz.prog 237 = true:=by kernel_rfl
theorem cal238:callable Tryz.prog 238 = true:=by kernel_rfl
theorem cal249:callable Tryz.prog 249 = true:=by kernel_rfl
theorem cal250:callable Tryz.prog 250 = true:=by kernel_rfl
theorem cal251:callable Tryz.prog 251 = true:=by kernel_rfl
theorem cal252:callable Tryz.prog 252 = true:=by kernel_rfl
theorem cal253:callable Tryz.prog 253 = true:=by kernel_rfl
theorem cal254:callable Tryz.prog 254 = true:=by kernel_rfl
theorem cal255:callable Tryz.prog 255 = true:=by kernel_rfl
theorem cal256:callable Tryz.prog 256 = true:=by kernel_rfl
theorem cal257:callable Tryz.prog 257 = true:=by kernel_rfl
theorem cal259:callable Tryz.prog 259 = true:=by kernel_rfl
theorem cal26:callable Tryz.prog 26 = true:=by kernel_rfl
theorem cal260:callable Tryz.prog 260 = true:=by kernel_rfl
theorem cal263:callable Tryz.prog 263 = true:=by kernel_rfl
theorem cal264:callable Tryz.prog 264 = true:=by kernel_rfl
theorem cal265:callable Tryz.prog 265 = true:=by kernel_rfl
theorem cal266:callable Tryz.prog 266 = true:=by kernel_rfl
theorem cal267:callable Tryz.prog 267 = true:=by kernel_rfl
theorem cal268:callable Tryz.prog 268 = true:=by kernel_rfl
theorem cal269:callable Tryz.prog 269 = true:=by kernel_rfl
theorem cal27:callable Tryz.prog 27 = true:=by kernel_rfl
theorem cal270:callable Tryz.prog 270 = true:=by kernel_rfl
theorem cal271:callable Tryz.prog 271 = true:=by kernel_rfl
theorem cal272:callable Tryz.prog 272 = true:=by kernel_rfl
theorem cal274:callable Tryz.prog 274 = true:=by kernel_rfl
theorem cal275:callable Tryz.prog 275 = true:=by kernel_rfl
theorem cal279:callable Tryz.prog 279 = true:=by kernel_rfl
theorem cal28:callable Tryz.prog 28 = true:=by kernel_rfl
theorem cal283:callable Tryz.prog 283 = true:=by kernel_rfl
theorem cal285:callable Tryz.prog 285 = true:=by kernel_rfl
theorem cal286:callable Tryz.prog 286 = true:=by kernel_rfl
theorem cal287:callable Tryz.prog 287 = true:=by kernel_rfl
theorem cal289:callable Tryz.prog 289 = true:=by kernel_rfl
theorem cal29:callable Tryz.prog 29 = true:=by kernel_rfl
theorem cal290:callable Tryz.prog 290 = true:=by kernel_rfl
theorem cal291:callable Tryz.prog 291 = true:=by kernel_rfl
theorem cal297:callable Tryz.prog 297 = true:=by kernel_rfl
theorem cal298:callable Tryz.prog 298 = true:=by kernel_rfl
theorem cal30:callable Tryz.prog 30 = true:=by kernel_rfl
theorem cal31:callable Tryz.prog 31 = true:=by kernel_rfl
theorem cal32:callable Tryz.prog 32 = true:=by kernel_rfl
theorem cal33:callable Tryz.prog 33 = true:=by kernel_rfl
theorem cal34:callable Tryz.prog 34 = true:=by kernel_rfl
theorem cal35:callable Tryz.prog 35 = true:=by kernel_rfl
theorem cal36:callable Tryz.prog 36 = true:=by kernel_rfl
theorem cal37:callable Tryz.prog 37 = true:=by kernel_rfl
theorem cal38:callable Tryz.prog 38 = true:=by kernel_rfl
theorem cal39:callable Tryz.prog 39 = true:=by kernel_rfl
theorem cal40:callable Tryz.prog 40 = true:=by kernel_rfl
theorem cal41:callable Tryz.prog 41 = true:=by kernel_rfl
theorem cal42:callable Tryz.prog 42 = true:=by kernel_rfl
theorem cal49:callable Tryz.prog 49 = true:=by kernel_rfl
theorem cal5:callable Tryz.prog 5 = true:=by kernel_rfl
theorem cal55:callable Tryz.prog 55 = true:=by kernel_rfl
theorem cal56:callable Tryz.prog 56 = true:=by kernel_rfl
theorem cal57:callable Tryz.prog 57 = true:=by kernel_rfl
theorem cal58:callable Tryz.prog 58 = true:=by kernel_rfl
theorem cal59:callable Tryz.prog 59 = true:=by kernel_rfl
theorem cal6:callable Tryz.prog 6 = true:=by kernel_rfl
theorem cal60:callable Tryz.prog 60 = true:=by kernel_rfl
theorem cal61:callable Tryz.prog 61 = true:=by kernel_rfl
theorem cal62:callable Tryz.prog 62 = true:=by kernel_rfl
theorem cal63:callable Tryz.prog 63 = true:=by kernel_rfl
theorem cal64:callable Tryz.prog 64 = true:=by kernel_rfl
theorem cal65:callable Tryz.prog 65 = true:=by kernel_rfl
theorem cal66:callable Tryz.prog 66 = true:=by kernel_rfl
theorem cal67:callable Tryz.prog 67 = true:=by kernel_rfl
theorem cal68:callable Tryz.prog 68 = true:=by kernel_rfl
theorem cal69:callable Tryz.prog 69 = true:=by kernel_rfl
theorem cal7:callable Tryz.prog 7 = true:=by kernel_rfl
theorem cal70:callable Tryz.prog 70 = true:=by kernel_rfl
theorem cal79:callable Tryz.prog 79 = true:=by kernel_rfl
theorem cal8:callable Tryz.prog 8 = true:=by kernel_rfl
theorem cal80:callable Tryz.prog 80 = true:=by kernel_rfl
theorem cal81:callable Tryz.prog 81 = true:=by kernel_rfl
theorem cal82:callable Tryz.prog 82 = true:=by kernel_rfl
theorem cal83:callable Tryz.prog 83 = true:=by kernel_rfl
theorem cal84:callable Tryz.prog 84 = true:=by kernel_rfl
theorem cal89:callable Tryz.prog 89 = true:=by kernel_rfl
theorem cal9:callable Tryz.prog 9 = true:=by kernel_rfl
theorem cal92:callable Tryz.prog 92 = true:=by kernel_rfl
theorem cal93:callable Tryz.prog 93 = true:=by kernel_rfl
theorem cal94:callable Tryz.prog 94 = true:=by kernel_rfl
theorem cal95:callable Tryz.prog 95 = true:=by kernel_rfl
theorem cal96:callable Tryz.prog 96 = true:=by kernel_rfl
theorem cal97:callable Tryz.prog 97 = true:=by kernel_rfl
theorem cal98:callable Tryz.prog 98 = true:=by kernel_rfl
theorem cal99:callable Tryz.prog 99 = true:=by kernel_rfl
theorem eg264:Tryz.prog.eqGuardType Tryz.prog.depth 264 = false:=by kernel_rfl
theorem eg310:Tryz.prog.eqGuardType Tryz.prog.depth 310 = false:=by kernel_rfl
theorem eg47:Tryz.prog.eqGuardType Tryz.prog.depth 47 = false:=by kernel_rfl
theorem eg80:Tryz.prog.eqGuardType Tryz.prog.depth 80 = false:=by kernel_rfl
theorem inf107:∃ i,Tryz.prog.info? 107 = some i∧i.size = 6∧i.zero = some (.agg #[.string ⟨#[]⟩,.string ⟨#[]⟩,.slice none 0 0,.string ⟨#[]⟩,.string ⟨#[]⟩,.int .i64 0])∧i.bytes = 96:=inf_of (by kernel_rfl) (by kernel_rfl) (by kernel_rfl)
theorem inf264:∃ i,Tryz.prog.info? 264 = some i∧i.size = 5∧i.zero = some (.agg #[.int .i64 0,.string ⟨#[]⟩,.string ⟨#[]⟩,.string ⟨#[]⟩,.bool false])∧i.bytes = 64:=inf_of (by kernel_rfl) (by kernel_rfl) (by kernel_rfl)
theorem inf376:∃ i,Tryz.prog.info? 376 = some i∧i.size = 2∧i.zero = some (.agg #[.int .i64 0,.string ⟨#[]⟩])∧i.bytes = 24:=inf_of (by kernel_rfl) (by kernel_rfl) (by kernel_rfl)
theorem inf41:∃ i,Tryz.prog.info? 41 = some i∧i.size = 1∧i.zero = some (.slice none 0 0)∧i.bytes = 24:=inf_of (by kernel_rfl) (by kernel_rfl) (by kernel_rfl)
theorem inf47:∃ i,Tryz.prog.info? 47 = some i∧i.size = 4∧i.zero = some (.agg #[.string ⟨#[]⟩,.string ⟨#[]⟩,.string ⟨#[]⟩,.bool false])∧i.bytes = 56:=inf_of (by kernel_rfl) (by kernel_rfl) (by kernel_rfl)
theorem inf49:∃ i,Tryz.prog.info? 49 = some i∧i.size = 2∧i.zero = some (.agg #[.int .i64 0,.string ⟨#[]⟩])∧i.bytes = 24:=inf_of (by kernel_rfl) (by kernel_rfl) (by kernel_rfl)
theorem inf5:∃ i,Tryz.prog.info? 5 = some i∧i.size = 1∧i.zero = some (.int .u8 0)∧i.bytes = 1:=inf_of (by kernel_rfl) (by kernel_rfl) (by kernel_rfl)
theorem inf80:∃ i,Tryz.prog.info? 80 = some i∧i.size = 11∧i.zero = some (.agg #[.int .i64 0,.string ⟨#[]⟩,.string ⟨#[]⟩,.string ⟨#[]⟩,.string ⟨#[]⟩,.bool false,.bool false,.int .i64 0,.int .i64 0,.int .i64 0,.int .i64 0])∧i.bytes = 112:=inf_of (by kernel_rfl) (by kernel_rfl) (by kernel_rfl)
theorem inf9:∃ i,Tryz.prog.info? 9 = some i∧i.size = 1∧i.zero = some (.string ⟨#[]⟩)∧i.bytes = 16:=inf_of (by kernel_rfl) (by kernel_rfl) (by kernel_rfl)
theorem fa102_0:FA Tryz.prog 102 0 0:=⟨_,_,_,_,Tryz.underlying102,rfl,Tryz.underlying9,c9,by decide,rfl⟩
theorem fa102_1:FA Tryz.prog 102 1 1:=⟨_,_,_,_,Tryz.underlying102,rfl,Tryz.underlying82,c82,by decide,rfl⟩
theorem fa102_2:FA Tryz.prog 102 2 2:=⟨_,_,_,_,Tryz.underlying102,rfl,Tryz.underlying82,c82,by decide,rfl⟩
theorem fa102_3:FA Tryz.prog 102 3 3:=⟨_,_,_,_,Tryz.underlying102,rfl,Tryz.underlying99,c99,by decide,rfl⟩
theorem fa102_5:FA Tryz.prog 102 5 9:=⟨_,_,_,_,Tryz.underlying102,rfl,Tryz.underlying100,c100,by decide,rfl⟩
theorem fa107_0:FA Tryz.prog 107 0 0:=⟨_,_,_,_,Tryz.underlying107,rfl,Tryz.underlying9,c9,by decide,rfl⟩
theorem fa107_1:FA Tryz.prog 107 1 1:=⟨_,_,_,_,Tryz.underlying107,rfl,Tryz.underlying9,c9,by decide,rfl⟩
theorem fa107_2:FA Tryz.prog 107 2 2:=⟨_,_,_,_,Tryz.underlying107,rfl,Tryz.underlying23,c23,by decide,rfl⟩
theorem fa107_3:FA Tryz.prog 107 3 3:=⟨_,_,_,_,Tryz.underlying107,rfl,Tryz.underlying9,c9,by decide,rfl⟩
theorem fa107_4:FA Tryz.prog 107 4 4:=⟨_,_,_,_,Tryz.underlying107,rfl,Tryz.underlying9,c9,by decide,rfl⟩
theorem fa107_5:FA Tryz.prog 107 5 5:=⟨_,_,_,_,Tryz.underlying107,rfl,Tryz.underlying3,c3,by decide,rfl⟩
theorem fa123_0:FA Tryz.prog 123 0 0:=⟨_,_,_,_,Tryz.underlying123,rfl,Tryz.underlying120,c120,by decide,rfl⟩
theorem fa123_1:FA Tryz.prog 123 1 1:=⟨_,_,_,_,Tryz.underlying123,rfl,Tryz.underlying121,c121,by decide,rfl⟩
theorem fa135_2:FA Tryz.prog 135 2 0:=⟨_,_,_,_,Tryz.underlying135,rfl,Tryz.underlying2,c2,by decide,rfl⟩
theorem fa137_0:FA Tryz.prog 137 0 0:=⟨_,_,_,_,Tryz.underlying137,rfl,Tryz.underlying135,c135,by decide,rfl⟩
theorem fa137_1:FA Tryz.prog 137 1 1:=⟨_,_,_,_,Tryz.underlying137,rfl,Tryz.underlying2,c2,by decide,rfl⟩
theorem fa141_0:FA Tryz.prog 141 0 0:=⟨_,_,_,_,Tryz.underlying141,rfl,Tryz.underlying82,c82,by decide,rfl⟩
theorem fa141_1:FA Tryz.prog 141 1 1:=⟨_,_,_,_,Tryz.underlying141,rfl,Tryz.underlying23,c23,by decide,rfl⟩
theorem fa141_2:FA Tryz.prog 141 2 2:=⟨_,_,_,_,Tryz.underlying141,rfl,Tryz.underlying139,c139,by decide,rfl⟩
theorem fa150_0:FA Tryz.prog 150 0 0:=⟨_,_,_,_,Tryz.underlying150,rfl,Tryz.underlying148,c148,by decide,rfl⟩
theorem fa154_0:FA Tryz.prog 154 0 0:=⟨_,_,_,_,Tryz.underlying154,rfl,Tryz.underlying40,c40,by decide,rfl⟩
theorem fa154_1:FA Tryz.prog 154 1 1:=⟨_,_,_,_,Tryz.underlying154,rfl,Tryz.underlying151,c151,by decide,rfl⟩
theorem fa156_0:FA Tryz.prog 156 0 0:=⟨_,_,_,_,Tryz.underlying156,rfl,Tryz.underlying40,c40,by decide,rfl⟩
theorem fa156_1:FA Tryz.prog 156 1 1:=⟨_,_,_,_,Tryz.underlying156,rfl,Tryz.underlying151,c151,by decide,rfl⟩
theorem fa161_0:FA Tryz.prog 161 0 0:=⟨_,_,_,_,Tryz.underlying161,rfl,Tryz.underlying158,c158,by decide,rfl⟩
theorem fa161_1:FA Tryz.prog 161 1 1:=⟨_,_,_,_,Tryz.underlying161,rfl,Tryz.underlying9,c9,by decide,rfl⟩
theorem fa161_2:FA Tryz.prog 161 2 2:=⟨_,_,_,_,Tryz.underlying161,rfl,Tryz.underlying9,c9,by decide,rfl⟩
theorem fa161_3:FA Tryz.prog 161 3 3:=⟨_,_,_,_,Tryz.underlying161,rfl,Tryz.underlying82,c82,by decide,rfl⟩
theorem fa161_4:FA Tryz.prog 161 4 4:=⟨_,_,_,_,Tryz.underlying161,rfl,Tryz.underlying159,c159,by decide,rfl⟩
theorem fa168_0:FA Tryz.prog 168 0 0:=⟨_,_,_,_,Tryz.underlying168,rfl,Tryz.underlying4,c4,by decide,rfl⟩
theorem fa168_1:FA Tryz.prog 168 1 1:=⟨_,_,_,_,Tryz.underlying168,rfl,Tryz.underlying9,c9,by decide,rfl⟩
theorem fa168_2:FA Tryz.prog 168 2 2:=⟨_,_,_,_,Tryz.underlying168,rfl,Tryz.underlying9,c9,by decide,rfl⟩
theorem fa168_3:FA Tryz.prog 168 3 3:=⟨_,_,_,_,Tryz.underlying168,rfl,Tryz.underlying3,c3,by decide,rfl⟩
theorem fa168_4:FA Tryz.prog 168 4 4:=⟨_,_,_,_,Tryz.underlying168,rfl,Tryz.underlying40,c40,by decide,rfl⟩
theorem fa200_0:FA Tryz.prog 200 0 0:=⟨_,_,_,_,Tryz.underlying200,rfl,Tryz.underlying3,c3,by decide,rfl⟩
theorem fa200_1:FA Tryz.prog 200 1 1:=⟨_,_,_,_,Tryz.underlying200,rfl,Tryz.underlying40,c40,by decide,rfl⟩
theorem fa200_2:FA Tryz.prog 200 2 2:=⟨_,_,_,_,Tryz.underlying200,rfl,Tryz.underlying3,c3,by decide,rfl⟩
theorem fa203_0:FA Tryz.prog 203 0 0:=⟨_,_,_,_,Tryz.underlying203,rfl,Tryz.underlying201,c201,by decide,rfl⟩
theorem fa206_0:FA Tryz.prog 206 0 0:=⟨_,_,_,_,Tryz.underlying206,rfl,Tryz.underlying204,c204,by decide,rfl⟩
theorem fa206_1:FA Tryz.prog 206 1 1:=⟨_,_,_,_,Tryz.underlying206,rfl,Tryz.underlying139,c139,by decide,rfl⟩
theorem fa211_0:FA Tryz.prog 211 0 0:=⟨_,_,_,_,Tryz.underlying211,rfl,Tryz.underlying3,c3,by decide,rfl⟩
theorem fa211_1:FA Tryz.prog 211 1 1:=⟨_,_,_,_,Tryz.underlying211,rfl,Tryz.underlying208,c208,by decide,rfl⟩
theorem fa211_2:FA Tryz.prog 211 2 2:=⟨_,_,_,_,Tryz.underlying211,rfl,Tryz.underlying209,c209,by decide,rfl⟩
theorem fa211_3:FA Tryz.prog 211 3 3:=⟨_,_,_,_,Tryz.underlying211,rfl,Tryz.underlying3,c3,by decide,rfl⟩
theorem fa227_0:FA Tryz.prog 227 0 0:=⟨_,_,_,_,Tryz.underlying227,rfl,Tryz.underlying168,c168,by decide,rfl⟩
theorem fa227_1:FA Tryz.prog 227 1 5:=⟨_,_,_,_,Tryz.underlying227,rfl,Tryz.underlying3,c3,by decide,rfl⟩
theorem fa227_2:FA Tryz.prog 227 2 6:=⟨_,_,_,_,Tryz.underlying227,rfl,Tryz.underlying3,c3,by decide,rfl⟩
theorem fa274_0:FA Tryz.prog 274 0 0:=⟨_,_,_,_,Tryz.underlying274,rfl,Tryz.underlying9,c9,by decide,rfl⟩
theorem fa274_1:FA Tryz.prog 274 1 1:=⟨_,_,_,_,Tryz.underlying274,rfl,Tryz.underlying272,c272,by decide,rfl⟩
theorem fa278_0:FA Tryz.prog 278 0 0:=⟨_,_,_,_,Tryz.underlying278,rfl,Tryz.underlying107,c107,by decide,rfl⟩
theorem fa278_1:FA Tryz.prog 278 1 6:=⟨_,_,_,_,Tryz.underlying278,rfl,Tryz.underlying3,c3,by decide,rfl⟩
theorem fa278_2:FA Tryz.prog 278 2 7:=⟨_,_,_,_,Tryz.underlying278,rfl,Tryz.underlying4,c4,by decide,rfl⟩
theorem fa376_0:FA Tryz.prog 376 0 0:=⟨_,_,_,_,Tryz.underlying376,rfl,Tryz.underlying3,c3,by decide,rfl⟩
theorem fa376_1:FA Tryz.prog 376 1 1:=⟨_,_,_,_,Tryz.underlying376,rfl,Tryz.underlying9,c9,by decide,rfl⟩
theorem fa47_0:FA Tryz.prog 47 0 0:=⟨_,_,_,_,Tryz.underlying47,rfl,Tryz.underlying9,c9,by decide,rfl⟩
theorem fa47_1:FA Tryz.prog 47 1 1:=⟨_,_,_,_,Tryz.underlying47,rfl,Tryz.underlying9,c9,by decide,rfl⟩
theorem fa47_2:FA Tryz.prog 47 2 2:=⟨_,_,_,_,Tryz.underlying47,rfl,Tryz.underlying9,c9,by decide,rfl⟩
theorem fa47_3:FA Tryz.prog 47 3 3:=⟨_,_,_,_,Tryz.underlying47,rfl,Tryz.underlying4,c4,by decide,rfl⟩
theorem fa49_0:FA Tryz.prog 49 0 0:=⟨_,_,_,_,Tryz.underlying49,rfl,Tryz.underlying3,c3,by decide,rfl⟩
theorem fa49_1:FA Tryz.prog 49 1 1:=⟨_,_,_,_,Tryz.underlying49,rfl,Tryz.underlying9,c9,by decide,rfl⟩
theorem fa80_0:FA Tryz.prog 80 0 0:=⟨_,_,_,_,Tryz.underlying80,rfl,Tryz.underlying3,c3,by decide,rfl⟩
theorem fa80_1:FA Tryz.prog 80 1 1:=⟨_,_,_,_,Tryz.underlying80,rfl,Tryz.underlying9,c9,by decide,rfl⟩
theorem fa80_10:FA Tryz.prog 80 10 10:=⟨_,_,_,_,Tryz.underlying80,rfl,Tryz.underlying3,c3,by decide,rfl⟩
theorem fa80_2:FA Tryz.prog 80 2 2:=⟨_,_,_,_,Tryz.underlying80,rfl,Tryz.underlying9,c9,by decide,rfl⟩
theorem fa80_3:FA Tryz.prog 80 3 3:=⟨_,_,_,_,Tryz.underlying80,rfl,Tryz.underlying9,c9,by decide,rfl⟩
theorem fa80_4:FA Tryz.prog 80 4 4:=⟨_,_,_,_,Tryz.underlying80,rfl,Tryz.underlying9,c9,by decide,rfl⟩
theorem fa80_5:FA Tryz.prog 80 5 5:=⟨_,_,_,_,Tryz.underlying80,rfl,Tryz.underlying4,c4,by decide,rfl⟩
theorem fa80_6:FA Tryz.prog 80 6 6:=⟨_,_,_,_,Tryz.underlying80,rfl,Tryz.underlying4,c4,by decide,rfl⟩
theorem fa80_7:FA Tryz.prog 80 7 7:=⟨_,_,_,_,Tryz.underlying80,rfl,Tryz.underlying3,c3,by decide,rfl⟩
theorem fa80_8:FA Tryz.prog 80 8 8:=⟨_,_,_,_,Tryz.underlying80,rfl,Tryz.underlying3,c3,by decide,rfl⟩
theorem fa80_9:FA Tryz.prog 80 9 9:=⟨_,_,_,_,Tryz.underlying80,rfl,Tryz.underlying3,c3,by decide,rfl⟩
theorem fa99_0:FA Tryz.prog 99 0 0:=⟨_,_,_,_,Tryz.underlying99,rfl,Tryz.underlying33,c33,by decide,rfl⟩
theorem fa99_1:FA Tryz.prog 99 1 1:=⟨_,_,_,_,Tryz.underlying99,rfl,Tryz.underlying88,c88,by decide,rfl⟩
theorem fa99_2:FA Tryz.prog 99 2 2:=⟨_,_,_,_,Tryz.underlying99,rfl,Tryz.underlying94,c94,by decide,rfl⟩
theorem fa99_3:FA Tryz.prog 99 3 3:=⟨_,_,_,_,Tryz.underlying99,rfl,Tryz.underlying96,c96,by decide,rfl⟩
theorem fa99_4:FA Tryz.prog 99 4 4:=⟨_,_,_,_,Tryz.underlying99,rfl,Tryz.underlying85,c85,by decide,rfl⟩
theorem sc100:SC Tryz.prog 100:=⟨_,Tryz.underlying100,rfl⟩
theorem sc120:SC Tryz.prog 120:=⟨_,Tryz.underlying120,rfl⟩
theorem sc121:SC Tryz.prog 121:=⟨_,Tryz.underlying121,rfl⟩
theorem sc139:SC Tryz.prog 139:=⟨_,Tryz.underlying139,rfl⟩
theorem sc148:SC Tryz.prog 148:=⟨_,Tryz.underlying148,rfl⟩
theorem sc151:SC Tryz.prog 151:=⟨_,Tryz.underlying151,rfl⟩
theorem sc158:SC Tryz.prog 158:=⟨_,Tryz.underlying158,rfl⟩
theorem sc159:SC Tryz.prog 159:=⟨_,Tryz.underlying159,rfl⟩
theorem sc2:SC Tryz.prog 2:=⟨_,Tryz.underlying2,rfl⟩
theorem sc201:SC Tryz.prog 201:=⟨_,Tryz.underlying201,rfl⟩
theorem sc204:SC Tryz.prog 204:=⟨_,Tryz.underlying204,rfl⟩
theorem sc208:SC Tryz.prog 208:=⟨_,Tryz.underlying208,rfl⟩
theorem sc209:SC Tryz.prog 209:=⟨_,Tryz.underlying209,rfl⟩
theorem sc212:SC Tryz.prog 212:=⟨_,Tryz.underlying212,rfl⟩
theorem sc23:SC Tryz.prog 23:=⟨_,Tryz.underlying23,rfl⟩
theorem sc272:SC Tryz.prog 272:=⟨_,Tryz.underlying272,rfl⟩
theorem sc3:SC Tryz.prog 3:=⟨_,Tryz.underlying3,rfl⟩
theorem sc33:SC Tryz.prog 33:=⟨_,Tryz.underlying33,rfl⟩
theorem sc370:SC Tryz.prog 370:=⟨_,Tryz.underlying370,rfl⟩
theorem sc4:SC Tryz.prog 4:=⟨_,Tryz.underlying4,rfl⟩
theorem sc40:SC Tryz.prog 40:=⟨_,Tryz.underlying40,rfl⟩
theorem sc78:SC Tryz.prog 78:=⟨_,Tryz.underlying78,rfl⟩
theorem sc82:SC Tryz.prog 82:=⟨_,Tryz.underlying82,rfl⟩
theorem sc85:SC Tryz.prog 85:=⟨_,Tryz.underlying85,rfl⟩
theorem sc88:SC Tryz.prog 88:=⟨_,Tryz.underlying88,rfl⟩
theorem sc9:SC Tryz.prog 9:=⟨_,Tryz.underlying9,rfl⟩
theorem sc94:SC Tryz.prog 94:=⟨_,Tryz.underlying94,rfl⟩
theorem sc96:SC Tryz.prog 96:=⟨_,Tryz.underlying96,rfl⟩
theorem sg107:SG Tryz.prog 107 6:=⟨_,Tryz.underlying107,rfl,c107⟩
theorem sg168:SG Tryz.prog 168 5:=⟨_,Tryz.underlying168,rfl,c168⟩
theorem sg264:SG Tryz.prog 264 5:=⟨_,Tryz.underlying264,rfl,c264⟩
theorem sg376:SG Tryz.prog 376 2:=⟨_,Tryz.underlying376,rfl,c376⟩
theorem sg47:SG Tryz.prog 47 4:=⟨_,Tryz.underlying47,rfl,c47⟩
theorem sg49:SG Tryz.prog 49 2:=⟨_,Tryz.underlying49,rfl,c49⟩
theorem sg80:SG Tryz.prog 80 11:=⟨_,Tryz.underlying80,rfl,c80⟩
theorem sg99:SG Tryz.prog 99 5:=⟨_,Tryz.underlying99,rfl,c99⟩
theorem sz107:SZ Tryz.prog 107 6:=⟨_,Tryz.underlying107,c107⟩
theorem sz159:SZ Tryz.prog 159 1:=⟨_,Tryz.underlying159,c159⟩
theorem sz168:SZ Tryz.prog 168 5:=⟨_,Tryz.underlying168,c168⟩
theorem sz204:SZ Tryz.prog 204 1:=⟨_,Tryz.underlying204,c204⟩
theorem sz208:SZ Tryz.prog 208 1:=⟨_,Tryz.underlying208,c208⟩
theorem sz23:SZ Tryz.prog 23 1:=⟨_,Tryz.underlying23,c23⟩
theorem sz264:SZ Tryz.prog 264 5:=⟨_,Tryz.underlying264,c264⟩
theorem sz3:SZ Tryz.prog 3 1:=⟨_,Tryz.underlying3,c3⟩
theorem sz370:SZ Tryz.prog 370 1:=⟨_,Tryz.underlying370,c370⟩
theorem sz376:SZ Tryz.prog 376 2:=⟨_,Tryz.underlying376,c376⟩
theorem sz4:SZ Tryz.prog 4 1:=⟨_,Tryz.underlying4,c4⟩
theorem sz40:SZ Tryz.prog 40 1:=⟨_,Tryz.underlying40,c40⟩
theorem sz47:SZ Tryz.prog 47 4:=⟨_,Tryz.underlying47,c47⟩
theorem sz49:SZ Tryz.prog 49 2:=⟨_,Tryz.underlying49,c49⟩
theorem sz80:SZ Tryz.prog 80 11:=⟨_,Tryz.underlying80,c80⟩
theorem sz9:SZ Tryz.prog 9 1:=⟨_,Tryz.underlying9,c9⟩
theorem pl102:plcT Tryz.prog 102 = true:=by kernel_rfl
theorem pl107:plcT Tryz.prog 107 = true:=by kernel_rfl
theorem pl123:plcT Tryz.prog 123 = true:=by kernel_rfl
theorem pl137:plcT Tryz.prog 137 = true:=by kernel_rfl
theorem pl141:plcT Tryz.prog 141 = true:=by kernel_rfl
theorem pl147:plcT Tryz.prog 147 = true:=by kernel_rfl
theorem pl150:plcT Tryz.prog 150 = true:=by kernel_rfl
theorem pl154:plcT Tryz.prog 154 = true:=by kernel_rfl
theorem pl156:plcT Tryz.prog 156 = true:=by kernel_rfl
theorem pl161:plcT Tryz.prog 161 = true:=by kernel_rfl
theorem pl168:plcT Tryz.prog 168 = true:=by kernel_rfl
theorem pl200:plcT Tryz.prog 200 = true:=by kernel_rfl
theorem pl203:plcT Tryz.prog 203 = true:=by kernel_rfl
theorem pl206:plcT Tryz.prog 206 = true:=by kernel_rfl
theorem pl211:plcT Tryz.prog 211 = true:=by kernel_rfl
theorem pl227:plcT Tryz.prog 227 = true:=by kernel_rfl
theorem pl264:plcT Tryz.prog 264 = true:=by kernel_rfl
theorem pl274:plcT Tryz.prog 274 = true:=by kernel_rfl
theorem pl278:plcT Tryz.prog 278 = true:=by kernel_rfl
theorem pl376:plcT Tryz.prog 376 = true:=by kernel_rfl
theorem pl47:plcT Tryz.prog 47 = true:=by kernel_rfl
theorem pl49:plcT Tryz.prog 49 = true:=by kernel_rfl
theorem pl80:plcT Tryz.prog 80 = true:=by kernel_rfl
theorem pl99:plcT Tryz.prog 99 = true:=by kernel_rfl
theorem st264:Tryz.prog.stoodInHeld 264 = false:=by kernel_rfl
theorem st47:Tryz.prog.stoodInHeld 47 = false:=by kernel_rfl
theorem st80:Tryz.prog.stoodInHeld 80 = false:=by kernel_rfl
theorem xf258:(Extern.findNext Tryz.f258).isNone = true:=by kernel_rfl
theorem xf261:(Extern.findNext Tryz.f261).isNone = true:=by kernel_rfl
theorem xf273:(Extern.findNext Tryz.f273).isNone = true:=by kernel_rfl
theorem xf288:(Extern.findNext Tryz.f288).isNone = true:=by kernel_rfl
theorem xf90:(Extern.findNext Tryz.f90).isNone = true:=by kernel_rfl
theorem xf91:(Extern.findNext Tryz.f91).isNone = true:=by kernel_rfl
theorem xg258:Extern.find Tryz.f258 = some (Extern.Atomic.casT (.int .i64)):=by rfl
theorem xg261:Extern.find Tryz.f261 = some (Extern.SlicesOverlaps.overlaps Tryz.f261.params Tryz.f261.resultTypes):=by rfl
theorem xg273:Extern.find Tryz.f273 = some Extern.BytealgIndexByte.indexByte:=by rfl
theorem xg288:Extern.find Tryz.f288 = some Extern.BytealgCompare.compare:=by rfl
theorem xg90:Extern.find Tryz.f90 = some Extern.Atomic.storeT:=by rfl
theorem xg91:Extern.find Tryz.f91 = some (Extern.Atomic.loadT (.int .i64)):=by rfl
theorem z102:zer Tryz.prog 102 = some (.agg #[.string ⟨#[]⟩,.pointer none,.pointer none,.pointer none,.pointer none,.pointer none,.pointer none,.pointer none,.pointer none,.map none]):=by kernel_rfl
theorem z104:zer Tryz.prog 104 = some (.pointer none):=by kernel_rfl
theorem z107:zer Tryz.prog 107 = some (.agg #[.string ⟨#[]⟩,.string ⟨#[]⟩,.slice none 0 0,.string ⟨#[]⟩,.string ⟨#[]⟩,.int .i64 0]):=by kernel_rfl
theorem z123:zer Tryz.prog 123 = some (.agg #[.pointer none,.pointer none]):=by kernel_rfl
theorem z137:zer Tryz.prog 137 = some (.agg #[.int .i64 0,.int .i64 0]):=by kernel_rfl
theorem z141:zer Tryz.prog 141 = some (.agg #[.pointer none,.slice none 0 0,.map none]):=by kernel_rfl
theorem z147:zer Tryz.prog 147 = some (.agg #[.int .i64 0,.map none]):=by kernel_rfl
theorem z150:zer Tryz.prog 150 = some (.agg #[.map none]):=by kernel_rfl
theorem z154:zer Tryz.prog 154 = some (.agg #[.slice none 0 0,.pointer none]):=by kernel_rfl
theorem z156:zer Tryz.prog 156 = some (.agg #[.slice none 0 0,.pointer none]):=by kernel_rfl
theorem z161:zer Tryz.prog 161 = some (.agg #[.pointer none,.string ⟨#[]⟩,.string ⟨#[]⟩,.pointer none,.pointer none]):=by kernel_rfl
theorem z168:zer Tryz.prog 168 = some (.agg #[.bool false,.string ⟨#[]⟩,.string ⟨#[]⟩,.int .i64 0,.slice none 0 0]):=by kernel_rfl
theorem z195:zer Tryz.prog 195 = some (.agg #[.nilFunc,.nilFunc,.nilFunc]):=by kernel_rfl
theorem z200:zer Tryz.prog 200 = some (.agg #[.int .i64 0,.slice none 0 0,.int .i64 0]):=by kernel_rfl
theorem z203:zer Tryz.prog 203 = some (.agg #[.map none]):=by kernel_rfl
theorem z206:zer Tryz.prog 206 = some (.agg #[.slice none 0 0,.map none]):=by kernel_rfl
theorem z211:zer Tryz.prog 211 = some (.agg #[.int .i64 0,.slice none 0 0,.map none,.int .i64 0]):=by kernel_rfl
theorem z212:zer Tryz.prog 212 = some (.pointer none):=by kernel_rfl
theorem z227:zer Tryz.prog 227 = some (.agg #[.bool false,.string ⟨#[]⟩,.string ⟨#[]⟩,.int .i64 0,.slice none 0 0,.int .i64 0,.int .i64 0]):=by kernel_rfl
theorem z264:zer Tryz.prog 264 = some (.agg #[.int .i64 0,.string ⟨#[]⟩,.string ⟨#[]⟩,.string ⟨#[]⟩,.bool false]):=by kernel_rfl
theorem z274:zer Tryz.prog 274 = some (.agg #[.string ⟨#[]⟩,.map none]):=by kernel_rfl
theorem z276:zer Tryz.prog 276 = some (.pointer none):=by kernel_rfl
theorem z278:zer Tryz.prog 278 = some (.agg #[.string ⟨#[]⟩,.string ⟨#[]⟩,.slice none 0 0,.string ⟨#[]⟩,.string ⟨#[]⟩,.int .i64 0,.int .i64 0,.bool false]):=by kernel_rfl
theorem z3:zer Tryz.prog 3 = some (.int .i64 0):=by kernel_rfl
theorem z310:zer Tryz.prog 310 = some (.agg #[.int .i64 0,.string ⟨#[]⟩,.string ⟨#[]⟩,.string ⟨#[]⟩,.string ⟨#[]⟩,.bool false,.bool false,.int .i64 0,.int .i64 0,.int .i64 0,.int .i64 0]):=by kernel_rfl
theorem z370:zer Tryz.prog 370 = some .nilFunc:=by kernel_rfl
theorem z376:zer Tryz.prog 376 = some (.agg #[.int .i64 0,.string ⟨#[]⟩]):=by kernel_rfl
theorem z380:zer Tryz.prog 380 = some (.agg #[.int .i64 0,.int .i64 0]):=by kernel_rfl
theorem z41:zer Tryz.prog 41 = some (.slice none 0 0):=by kernel_rfl
theorem z47:zer Tryz.prog 47 = some (.agg #[.string ⟨#[]⟩,.string ⟨#[]⟩,.string ⟨#[]⟩,.bool false]):=by kernel_rfl
theorem z49:zer Tryz.prog 49 = some (.agg #[.int .i64 0,.string ⟨#[]⟩]):=by kernel_rfl
theorem z5:zer Tryz.prog 5 = some (.int .u8 0):=by kernel_rfl
theorem z78:zer Tryz.prog 78 = some .nilFunc:=by kernel_rfl
theorem z80:zer Tryz.prog 80 = some (.agg #[.int .i64 0,.string ⟨#[]⟩,.string ⟨#[]⟩,.string ⟨#[]⟩,.string ⟨#[]⟩,.bool false,.bool false,.int .i64 0,.int .i64 0,.int .i64 0,.int .i64 0]):=by kernel_rfl
theorem z9:zer Tryz.prog 9 = some (.string ⟨#[]⟩):=by kernel_rfl
theorem z99:zer Tryz.prog 99 = some (.agg #[.pointer none,.pointer none,.pointer none,.pointer none,.pointer none]):=by kernel_rfl
theorem zc107:ZC Tryz.prog 107 [eq (.string (⟨#[]⟩:ByteArray)),eq (.string (⟨#[]⟩:ByteArray)),eq (.slice none 0 0),eq (.string (⟨#[]⟩:ByteArray)),eq (.string (⟨#[]⟩:ByteArray)),eq (.int .i64 0)]:=⟨_,z107,rfl⟩
theorem zc168:ZC Tryz.prog 168 [eq (.bool false),eq (.string (⟨#[]⟩:ByteArray)),eq (.string (⟨#[]⟩:ByteArray)),eq (.int .i64 0),eq (.slice none 0 0)]:=⟨_,z168,rfl⟩
theorem zc264:ZC Tryz.prog 264 [eq (.int .i64 0),eq (.string (⟨#[]⟩:ByteArray)),eq (.string (⟨#[]⟩:ByteArray)),eq (.string (⟨#[]⟩:ByteArray)),eq (.bool false)]:=⟨_,z264,rfl⟩
theorem zc370:ZC Tryz.prog 370 [eq .nilFunc]:=⟨_,z370,rfl⟩
theorem zc376:ZC Tryz.prog 376 [eq (.int .i64 0),eq (.string (⟨#[]⟩:ByteArray))]:=⟨_,z376,rfl⟩
theorem zc47:ZC Tryz.prog 47 [eq (.string (⟨#[]⟩:ByteArray)),eq (.string (⟨#[]⟩:ByteArray)),eq (.string (⟨#[]⟩:ByteArray)),eq (.bool false)]:=⟨_,z47,rfl⟩
theorem zc49:ZC Tryz.prog 49 [eq (.int .i64 0),eq (.string (⟨#[]⟩:ByteArray))]:=⟨_,z49,rfl⟩
theorem zc80:ZC Tryz.prog 80 [eq (.int .i64 0),eq (.string (⟨#[]⟩:ByteArray)),eq (.string (⟨#[]⟩:ByteArray)),eq (.string (⟨#[]⟩:ByteArray)),eq (.string (⟨#[]⟩:ByteArray)),eq (.bool false),eq (.bool false),eq (.int .i64 0),eq (.int .i64 0),eq (.int .i64 0),eq (.int .i64 0)]:=⟨_,z80,rfl⟩
structure AtI where
 fv:Int
 deriving DecidableEq,Inhabited
abbrev AtI.enc (x:AtI):Cs:=[eq (.int .i64 x.fv)]
abbrev AtI.K:Kd AtI:=⟨1,default,AtI.enc,fun _=>rfl,fun _=>(ones_cons (one_eq rfl) ones_nil)⟩
structure Ctr where
 fn:AtI
 fmost:Int
 deriving DecidableEq,Inhabited
abbrev Ctr.enc (x:Ctr):Cs:=[eq (.int .i64 x.fn.fv),eq (.int .i64 x.fmost)]
abbrev Ctr.K:Kd Ctr:=⟨2,default,Ctr.enc,fun _=>rfl,fun _=>(ones_cons (one_eq rfl) (ones_cons (one_eq rfl) ones_nil))⟩
structure S where
 deriving DecidableEq,Inhabited
abbrev S.enc (x:S):Cs:=[]
abbrev S.K:Kd S:=⟨0,default,S.enc,fun _=>rfl,fun _=>ones_nil⟩
structure DLog where
 fat:Ctr
 fkeys:List ByteArray
 fpos:List (ByteArray×Int)
 deriving DecidableEq,Inhabited
structure Edu where
 fKind:Int
 fRoom:ByteArray
 fUser:ByteArray
 fEvent:ByteArray
 fThread:ByteArray
 fPrivate:Bool
 fOn:Bool
 fSpan:Int
 fState:Int
 fTick:Int
 fStamp:Int
 deriving DecidableEq,Inhabited
abbrev Edu.enc (x:Edu):Cs:=[eq (.int .i64 x.fKind),eq (.string x.fRoom),eq (.string x.fUser),eq (.string x.fEvent),eq (.string x.fThread),eq (.bool x.fPrivate),eq (.bool x.fOn),eq (.int .i64 x.fSpan),eq (.int .i64 x.fState),eq (.int .i64 x.fTick),eq (.int .i64 x.fStamp)]
abbrev Edu.K:Kd Edu:=⟨11,default,Edu.enc,fun _=>rfl,fun _=>(ones_cons (one_eq rfl) (ones_cons (one_eq rfl) (ones_cons (one_eq rfl) (ones_cons (one_eq rfl) (ones_cons (one_eq rfl) (ones_cons (one_eq rfl) (ones_cons (one_eq rfl) (ones_cons (one_eq rfl) (ones_cons (one_eq rfl) (ones_cons (one_eq rfl) (ones_cons (one_eq rfl) ones_nil)))))))))))⟩
structure Park where
 fmost:Int
 fl:List Edu
 flost:Int
 deriving DecidableEq,Inhabited
abbrev Park.enc (x:Park):Cs:=[eq (.int .i64 x.fmost),sl Edu.K x.fl,eq (.int .i64 x.flost)]
abbrev Park.K:Kd Park:=⟨3,default,Park.enc,fun _=>rfl,fun _=>(ones_cons (one_eq rfl) (ones_cons one_sl (ones_cons (one_eq rfl) ones_nil)))⟩
structure RKey where
 fRoom:ByteArray
 fUser:ByteArray
 fThread:ByteArray
 fPrivate:Bool
 deriving DecidableEq,Inhabited
abbrev RKey.enc (x:RKey):Cs:=[eq (.string x.fRoom),eq (.string x.fUser),eq (.string x.fThread),eq (.bool x.fPrivate)]
abbrev RKey.K:Kd RKey:=⟨4,default,RKey.enc,fun _=>rfl,fun _=>(ones_cons (one_eq rfl) (ones_cons (one_eq rfl) (ones_cons (one_eq rfl) (ones_cons (one_eq rfl) ones_nil))))⟩
structure Pos where
 fDepth:Int
 fID:ByteArray
 deriving DecidableEq,Inhabited
abbrev Pos.enc (x:Pos):Cs:=[eq (.int .i64 x.fDepth),eq (.string x.fID)]
abbrev Pos.K:Kd Pos:=⟨2,default,Pos.enc,fun _=>rfl,fun _=>(ones_cons (one_eq rfl) (ones_cons (one_eq rfl) ones_nil))⟩
structure RTab where
 fat:List (RKey×Pos)
 deriving DecidableEq,Inhabited
structure Mks where
 fTable:RTab
 fwaits:Park
 deriving DecidableEq,Inhabited
structure SMosOf where
 fmost:Int
 fof:List (ByteArray×(List Int))
 deriving DecidableEq,Inhabited
structure Event where
 fID:ByteArray
 fRoom:ByteArray
 fParents:List ByteArray
 fThread:ByteArray
 fUser:ByteArray
 fDoes:Int
 deriving DecidableEq,Inhabited
abbrev Event.enc (x:Event):Cs:=[eq (.string x.fID),eq (.string x.fRoom),sl strK x.fParents,eq (.string x.fThread),eq (.string x.fUser),eq (.int .i64 x.fDoes)]
abbrev Event.K:Kd Event:=⟨6,default,Event.enc,fun _=>rfl,fun _=>(ones_cons (one_eq rfl) (ones_cons (one_eq rfl) (ones_cons one_sl (ones_cons (one_eq rfl) (ones_cons (one_eq rfl) (ones_cons (one_eq rfl) ones_nil))))))⟩
structure DNode where
 fe:Event
 fdepth:Int
 fparent:Bool
 deriving DecidableEq,Inhabited
abbrev DNode.enc (x:DNode):Cs:=[eq (.string x.fe.fID),eq (.string x.fe.fRoom),sl strK x.fe.fParents,eq (.string x.fe.fThread),eq (.string x.fe.fUser),eq (.int .i64 x.fe.fDoes),eq (.int .i64 x.fdepth),eq (.bool x.fparent)]
abbrev DNode.K:Kd DNode:=⟨8,default,DNode.enc,fun _=>rfl,fun _=>(ones_cons (one_eq rfl) (ones_cons (one_eq rfl) (ones_cons one_sl (ones_cons (one_eq rfl) (ones_cons (one_eq rfl) (ones_cons (one_eq rfl) (ones_cons (one_eq rfl) (ones_cons (one_eq rfl) ones_nil))))))))⟩
structure DDag where
 froom:ByteArray
 fnodes:List (ByteArray×DNode)
 deriving DecidableEq,Inhabited
structure VView where
 fdags:List (ByteArray×DDag)
 deriving DecidableEq,Inhabited
structure HEnt where
 fAt:Int
 fKey:ByteArray
 deriving DecidableEq,Inhabited
abbrev HEnt.enc (x:HEnt):Cs:=[eq (.int .i64 x.fAt),eq (.string x.fKey)]
abbrev HEnt.K:Kd HEnt:=⟨2,default,HEnt.enc,fun _=>rfl,fun _=>(ones_cons (one_eq rfl) (ones_cons (one_eq rfl) ones_nil))⟩
structure HHeap where
 fl:List HEnt
 fat:List (ByteArray×Int)
 deriving DecidableEq,Inhabited
structure TTab where
 fl:List Edu
 fends:HHeap
 deriving DecidableEq,Inhabited
structure PTab where
 fl:List Edu
 fturns:HHeap
 deriving DecidableEq,Inhabited
structure Src where
 fView:VView
 fMarks:Mks
 fTyping:TTab
 fPresence:PTab
 fLog:DLog
 deriving DecidableEq,Inhabited
structure EKey where
 fKind:Int
 fRoom:ByteArray
 fUser:ByteArray
 fThread:ByteArray
 fPrivate:Bool
 deriving DecidableEq,Inhabited
abbrev EKey.enc (x:EKey):Cs:=[eq (.int .i64 x.fKind),eq (.string x.fRoom),eq (.string x.fUser),eq (.string x.fThread),eq (.bool x.fPrivate)]
abbrev EKey.K:Kd EKey:=⟨5,default,EKey.enc,fun _=>rfl,fun _=>(ones_cons (one_eq rfl) (ones_cons (one_eq rfl) (ones_cons (one_eq rfl) (ones_cons (one_eq rfl) (ones_cons (one_eq rfl) ones_nil)))))⟩
structure SQue where
 fmost:Int
 fkeys:List EKey
 fat:List (EKey×Edu)
 flost:Int
 deriving DecidableEq,Inhabited
structure Par where
 fAck:Bool
 fFrom:ByteArray
 fTo:ByteArray
 fID:Int
 fEdus:List Edu
 deriving DecidableEq,Inhabited
abbrev Par.enc (x:Par):Cs:=[eq (.bool x.fAck),eq (.string x.fFrom),eq (.string x.fTo),eq (.int .i64 x.fID),sl Edu.K x.fEdus]
abbrev Par.K:Kd Par:=⟨5,default,Par.enc,fun _=>rfl,fun _=>(ones_cons (one_eq rfl) (ones_cons (one_eq rfl) (ones_cons (one_eq rfl) (ones_cons (one_eq rfl) (ones_cons one_sl ones_nil)))))⟩
structure Fly where
 fp:Par
 ftries:Int
 fdue:Int
 deriving DecidableEq,Inhabited
abbrev Fly.enc (x:Fly):Cs:=[eq (.bool x.fp.fAck),eq (.string x.fp.fFrom),eq (.string x.fp.fTo),eq (.int .i64 x.fp.fID),sl Edu.K x.fp.fEdus,eq (.int .i64 x.ftries),eq (.int .i64 x.fdue)]
abbrev Fly.K:Kd Fly:=⟨7,default,Fly.enc,fun _=>rfl,fun _=>(ones_cons (one_eq rfl) (ones_cons (one_eq rfl) (ones_cons (one_eq rfl) (ones_cons (one_eq rfl) (ones_cons one_sl (ones_cons (one_eq rfl) (ones_cons (one_eq rfl) ones_nil)))))))⟩
structure SSnd where
 fQueue:SQue
 fself:ByteArray
 fto:ByteArray
 fids:Ctr
 fair:Option Fly
 deriving DecidableEq,Inhabited
structure SSelTicStaAllComSen where
 fself:ByteArray
 ftick:Ctr
 fstamps:Ctr
 fall:Src
 fcome:SMosOf
 fsenders:List (ByteArray×SSnd)
 deriving DecidableEq,Inhabited
def RKey.cv (k:RKey):List Value:=[.string k.fRoom,.string k.fUser,.string k.fThread,.bool k.fPrivate]
def RKey.kv (k:RKey):Value:=.agg (RKey.cv k).toArray
theorem RKey.kq (k:RKey):∀ R u,(agg (RKey.enc k)).p R u→u = RKey.kv k:=fun _ _ h=>aggq (vs:=RKey.cv k) rfl h
theorem eqt47 (x y:RKey) {d:Nat} {w:World}:(Op.equalIn (d + 2) 47 (.agg [.string x.fRoom,.string x.fUser,.string x.fThread,.bool x.fPrivate].toArray) (.agg [.string y.fRoom,.string y.fUser,.string y.fThread,.bool y.fPrivate].toArray)).run Tryz.prog w = .ok (decide (x = y)) w:=by
 have e:decide (x = y) = ((decide (x.fRoom = y.fRoom) && (decide (x.fUser = y.fUser) && (decide (x.fThread = y.fThread) && (decide (x.fPrivate = y.fPrivate) && true))))):=by cases x; cases y; rw [Bool.eq_iff_iff]; simp
 rw [e]
 exact eq_struct Tryz.underlying47 st47 (eqF_cons (by decide) (run_part1 Tryz.underlying9 rfl rfl) (run_part1 Tryz.underlying9 rfl rfl) (eq_str Tryz.underlying9) (eqF_cons (by decide) (run_part1 Tryz.underlying9 rfl rfl) (run_part1 Tryz.underlying9 rfl rfl) (eq_str Tryz.underlying9) (eqF_cons (by decide) (run_part1 Tryz.underlying9 rfl rfl) (run_part1 Tryz.underlying9 rfl rfl) (eq_str Tryz.underlying9) (eqF_cons (by decide) (run_part1 Tryz.underlying4 rfl rfl) (run_part1 Tryz.underlying4 rfl rfl) (eq_bool Tryz.underlying4) eqF_nil))))
theorem kok47:KeyOk Tryz.prog 47 RKey.kv:=keyOk_struct (fun k=>(RKey.cv k).toArray) Tryz.underlying47 (fun _=>rfl) (fun k=>(all_cons ⟨⟨_,Tryz.underlying9,.inl rfl⟩,_,fun _=>run_part1 Tryz.underlying9 rfl rfl⟩ (all_cons ⟨⟨_,Tryz.underlying9,.inl rfl⟩,_,fun _=>run_part1 Tryz.underlying9 rfl rfl⟩ (all_cons ⟨⟨_,Tryz.underlying9,.inl rfl⟩,_,fun _=>run_part1 Tryz.underlying9 rfl rfl⟩ (all_cons ⟨⟨_,Tryz.underlying4,.inr (.inl rfl)⟩,_,fun _=>run_part1 Tryz.underlying4 rfl rfl⟩ all_nil))))) (fun k c w=>equal_of 2 (by decide) (fun _=>eqt47 k c)) (fun k=>by simp [RKey.kv,RKey.cv,Instr.sameBits,ba_beq])
def EKey.cv (k:EKey):List Value:=[.int .i64 k.fKind,.string k.fRoom,.string k.fUser,.string k.fThread,.bool k.fPrivate]
def EKey.kv (k:EKey):Value:=.agg (EKey.cv k).toArray
theorem EKey.kq (k:EKey):∀ R u,(agg (EKey.enc k)).p R u→u = EKey.kv k:=fun _ _ h=>aggq (vs:=EKey.cv k) rfl h
theorem eqt264 (x y:EKey) {d:Nat} {w:World}:(Op.equalIn (d + 2) 264 (.agg [.int .i64 x.fKind,.string x.fRoom,.string x.fUser,.string x.fThread,.bool x.fPrivate].toArray) (.agg [.int .i64 y.fKind,.string y.fRoom,.string y.fUser,.string y.fThread,.bool y.fPrivate].toArray)).run Tryz.prog w = .ok (decide (x = y)) w:=by
 have e:decide (x = y) = ((decide (x.fKind = y.fKind) && (decide (x.fRoom = y.fRoom) && (decide (x.fUser = y.fUser) && (decide (x.fThread = y.fThread) && (decide (x.fPrivate = y.fPrivate) && true)))))):=by cases x; cases y; rw [Bool.eq_iff_iff]; simp
 rw [e]
 exact eq_struct Tryz.underlying264 st264 (eqF_cons (by decide) (run_part1 Tryz.underlying3 rfl rfl) (run_part1 Tryz.underlying3 rfl rfl) (eq_int Tryz.underlying3) (eqF_cons (by decide) (run_part1 Tryz.underlying9 rfl rfl) (run_part1 Tryz.underlying9 rfl rfl) (eq_str Tryz.underlying9) (eqF_cons (by decide) (run_part1 Tryz.underlying9 rfl rfl) (run_part1 Tryz.underlying9 rfl rfl) (eq_str Tryz.underlying9) (eqF_cons (by decide) (run_part1 Tryz.underlying9 rfl rfl) (run_part1 Tryz.underlying9 rfl rfl) (eq_str Tryz.underlying9) (eqF_cons (by decide) (run_part1 Tryz.underlying4 rfl rfl) (run_part1 Tryz.underlying4 rfl rfl) (eq_bool Tryz.underlying4) eqF_nil)))))
theorem kok264:KeyOk Tryz.prog 264 EKey.kv:=keyOk_struct (fun k=>(EKey.cv k).toArray) Tryz.underlying264 (fun _=>rfl) (fun k=>(all_cons ⟨⟨_,Tryz.underlying3,.inr (.inr ⟨_,rfl⟩)⟩,_,fun _=>run_part1 Tryz.underlying3 rfl rfl⟩ (all_cons ⟨⟨_,Tryz.underlying9,.inl rfl⟩,_,fun _=>run_part1 Tryz.underlying9 rfl rfl⟩ (all_cons ⟨⟨_,Tryz.underlying9,.inl rfl⟩,_,fun _=>run_part1 Tryz.underlying9 rfl rfl⟩ (all_cons ⟨⟨_,Tryz.underlying9,.inl rfl⟩,_,fun _=>run_part1 Tryz.underlying9 rfl rfl⟩ (all_cons ⟨⟨_,Tryz.underlying4,.inr (.inl rfl)⟩,_,fun _=>run_part1 Tryz.underlying4 rfl rfl⟩ all_nil)))))) (fun k c w=>equal_of 2 (by decide) (fun _=>eqt264 k c)) (fun k=>by simp [EKey.kv,EKey.cv,Instr.sameBits,ba_beq])
theorem eqt80 (x y:Edu) {d:Nat} {w:World}:(Op.equalIn (d + 2) 80 (.agg [.int .i64 x.fKind,.string x.fRoom,.string x.fUser,.string x.fEvent,.string x.fThread,.bool x.fPrivate,.bool x.fOn,.int .i64 x.fSpan,.int .i64 x.fState,.int .i64 x.fTick,.int .i64 x.fStamp].toArray) (.agg [.int .i64 y.fKind,.string y.fRoom,.string y.fUser,.string y.fEvent,.string y.fThread,.bool y.fPrivate,.bool y.fOn,.int .i64 y.fSpan,.int .i64 y.fState,.int .i64 y.fTick,.int .i64 y.fStamp].toArray)).run Tryz.prog w = .ok (decide (x = y)) w:=by
 have e:decide (x = y) = ((decide (x.fKind = y.fKind) && (decide (x.fRoom = y.fRoom) && (decide (x.fUser = y.fUser) && (decide (x.fEvent = y.fEvent) && (decide (x.fThread = y.fThread) && (decide (x.fPrivate = y.fPrivate) && (decide (x.fOn = y.fOn) && (decide (x.fSpan = y.fSpan) && (decide (x.fState = y.fState) && (decide (x.fTick = y.fTick) && (decide (x.fStamp = y.fStamp) && true)))))))))))):=by cases x; cases y; rw [Bool.eq_iff_iff]; simp
 rw [e]
 exact eq_struct Tryz.underlying80 st80 (eqF_cons (by decide) (run_part1 Tryz.underlying3 rfl rfl) (run_part1 Tryz.underlying3 rfl rfl) (eq_int Tryz.underlying3) (eqF_cons (by decide) (run_part1 Tryz.underlying9 rfl rfl) (run_part1 Tryz.underlying9 rfl rfl) (eq_str Tryz.underlying9) (eqF_cons (by decide) (run_part1 Tryz.underlying9 rfl rfl) (run_part1 Tryz.underlying9 rfl rfl) (eq_str Tryz.underlying9) (eqF_cons (by decide) (run_part1 Tryz.underlying9 rfl rfl) (run_part1 Tryz.underlying9 rfl rfl) (eq_str Tryz.underlying9) (eqF_cons (by decide) (run_part1 Tryz.underlying9 rfl rfl) (run_part1 Tryz.underlying9 rfl rfl) (eq_str Tryz.underlying9) (eqF_cons (by decide) (run_part1 Tryz.underlying4 rfl rfl) (run_part1 Tryz.underlying4 rfl rfl) (eq_bool Tryz.underlying4) (eqF_cons (by decide) (run_part1 Tryz.underlying4 rfl rfl) (run_part1 Tryz.underlying4 rfl rfl) (eq_bool Tryz.underlying4) (eqF_cons (by decide) (run_part1 Tryz.underlying3 rfl rfl) (run_part1 Tryz.underlying3 rfl rfl) (eq_int Tryz.underlying3) (eqF_cons (by decide) (run_part1 Tryz.underlying3 rfl rfl) (run_part1 Tryz.underlying3 rfl rfl) (eq_int Tryz.underlying3) (eqF_cons (by decide) (run_part1 Tryz.underlying3 rfl rfl) (run_part1 Tryz.underlying3 rfl rfl) (eq_int Tryz.underlying3) (eqF_cons (by decide) (run_part1 Tryz.underlying3 rfl rfl) (run_part1 Tryz.underlying3 rfl rfl) (eq_int Tryz.underlying3) eqF_nil)))))))))))
def fqQ_uint8_bool (g:Int→Option Bool):List VP→VP→Prop:=fun vs ret=>∃ a0 r,g a0 = some r∧vs = [eq (.int .u8 a0)]∧ret = eq (.bool r)
def fq_uint8_bool (g:Int→Option Bool):VP:=fnq Tryz.prog (fqQ_uint8_bool g)
def fK_uint8_bool:Kd (Int→Option Bool):=⟨1,fun _=>none,fun g=>[fq_uint8_bool g],fun _=>rfl,fun _ p h R v hv=>by simp at h; subst h; exact one_fnq R v hv⟩
def Ctr.O (p:OV) (m:Ctr):As:=exA (γ:=Nat) (fun g=>p.1 = .pointer (some ⟨g,0,none⟩)) (fun g=>[blk g 137 [eq (.int .i64 m.fn.fv),eq (.int .i64 m.fmost)]])
theorem Ctr.nn {p:OV} {m:Ctr}:NN (Ctr.O p m) p.1:=by unfold Ctr.O; exact nn_ex (γ:=Nat) (b:=fun g=>g)
theorem Ctr.opn {l:List As} {p:OV} {m:Ctr} (j:Nat) (hj:l[j]? = some (Ctr.O p m)):∀ R w,St R l w→∃ g:Nat,p.1 = .pointer (some ⟨g,0,none⟩)∧St R ([blk g 137 [eq (.int .i64 m.fn.fv),eq (.int .i64 m.fmost)]]++l.eraseIdx j) w:=st_open j hj
theorem Ctr.shut {l r:List As} {p:OV} {m:Ctr} (g:Nat) (hg:p.1 = .pointer (some ⟨g,0,none⟩)) (hp:l.Perm ([blk g 137 [eq (.int .i64 m.fn.fv),eq (.int .i64 m.fmost)]]++r)):∀ R w,St R l w→∃ _:Unit,True∧St R (Ctr.O p m::r) w:=st_shut _ _ g hg hp
def DLog.O (p:OV) (m:DLog):As:=exA (γ:=Nat×OV×OV×OV) (fun g=>p.1 = .pointer (some ⟨g.1,0,none⟩)) (fun g=>[blk g.1 141 [eq g.2.1.1,eq g.2.2.1.1,eq g.2.2.2.1],Ctr.O g.2.1 m.fat,own strK g.2.2.1.1 m.fkeys,mp Value.string (fun x:Int=>eq (.int .i64 x)) g.2.2.2.1 m.fpos])
theorem DLog.nn {p:OV} {m:DLog}:NN (DLog.O p m) p.1:=by unfold DLog.O; exact nn_ex (γ:=Nat×OV×OV×OV) (b:=fun g=>g.1)
theorem DLog.opn {l:List As} {p:OV} {m:DLog} (j:Nat) (hj:l[j]? = some (DLog.O p m)):∀ R w,St R l w→∃ g:Nat×OV×OV×OV,p.1 = .pointer (some ⟨g.1,0,none⟩)∧St R ([blk g.1 141 [eq g.2.1.1,eq g.2.2.1.1,eq g.2.2.2.1],Ctr.O g.2.1 m.fat,own strK g.2.2.1.1 m.fkeys,mp Value.string (fun x:Int=>eq (.int .i64 x)) g.2.2.2.1 m.fpos]++l.eraseIdx j) w:=st_open j hj
theorem DLog.shut {l r:List As} {p:OV} {m:DLog} (g:Nat×OV×OV×OV) (hg:p.1 = .pointer (some ⟨g.1,0,none⟩)) (hp:l.Perm ([blk g.1 141 [eq g.2.1.1,eq g.2.2.1.1,eq g.2.2.2.1],Ctr.O g.2.1 m.fat,own strK g.2.2.1.1 m.fkeys,mp Value.string (fun x:Int=>eq (.int .i64 x)) g.2.2.2.1 m.fpos]++r)):∀ R w,St R l w→∃ _:Unit,True∧St R (DLog.O p m::r) w:=st_shut _ _ g hg hp
def Park.O (p:OV) (m:Park):As:=exA (γ:=Nat×OV) (fun g=>p.1 = .pointer (some ⟨g.1,0,none⟩)) (fun g=>[blk g.1 200 [eq (.int .i64 m.fmost),eq g.2.1,eq (.int .i64 m.flost)],own Edu.K g.2.1 m.fl])
theorem Park.nn {p:OV} {m:Park}:NN (Park.O p m) p.1:=by unfold Park.O; exact nn_ex (γ:=Nat×OV) (b:=fun g=>g.1)
theorem Park.opn {l:List As} {p:OV} {m:Park} (j:Nat) (hj:l[j]? = some (Park.O p m)):∀ R w,St R l w→∃ g:Nat×OV,p.1 = .pointer (some ⟨g.1,0,none⟩)∧St R ([blk g.1 200 [eq (.int .i64 m.fmost),eq g.2.1,eq (.int .i64 m.flost)],own Edu.K g.2.1 m.fl]++l.eraseIdx j) w:=st_open j hj
theorem Park.shut {l r:List As} {p:OV} {m:Park} (g:Nat×OV) (hg:p.1 = .pointer (some ⟨g.1,0,none⟩)) (hp:l.Perm ([blk g.1 200 [eq (.int .i64 m.fmost),eq g.2.1,eq (.int .i64 m.flost)],own Edu.K g.2.1 m.fl]++r)):∀ R w,St R l w→∃ _:Unit,True∧St R (Park.O p m::r) w:=st_shut _ _ g hg hp
def RTab.O (p:OV) (m:RTab):As:=exA (γ:=Nat×OV) (fun g=>p.1 = .pointer (some ⟨g.1,0,none⟩)) (fun g=>[blk g.1 203 [eq g.2.1],mp RKey.kv (fun x:Pos=>agg (Pos.enc x)) g.2.1 m.fat])
theorem RTab.opn {l:List As} {p:OV} {m:RTab} (j:Nat) (hj:l[j]? = some (RTab.O p m)):∀ R w,St R l w→∃ g:Nat×OV,p.1 = .pointer (some ⟨g.1,0,none⟩)∧St R ([blk g.1 203 [eq g.2.1],mp RKey.kv (fun x:Pos=>agg (Pos.enc x)) g.2.1 m.fat]++l.eraseIdx j) w:=st_open j hj
theorem RTab.shut {l r:List As} {p:OV} {m:RTab} (g:Nat×OV) (hg:p.1 = .pointer (some ⟨g.1,0,none⟩)) (hp:l.Perm ([blk g.1 203 [eq g.2.1],mp RKey.kv (fun x:Pos=>agg (Pos.enc x)) g.2.1 m.fat]++r)):∀ R w,St R l w→∃ _:Unit,True∧St R (RTab.O p m::r) w:=st_shut _ _ g hg hp
def Mks.O (p:OV) (m:Mks):As:=exA (γ:=Nat×OV×OV) (fun g=>p.1 = .pointer (some ⟨g.1,0,none⟩)) (fun g=>[blk g.1 123 [eq g.2.1.1,eq g.2.2.1],RTab.O g.2.1 m.fTable,Park.O g.2.2 m.fwaits])
theorem Mks.nn {p:OV} {m:Mks}:NN (Mks.O p m) p.1:=by unfold Mks.O; exact nn_ex (γ:=Nat×OV×OV) (b:=fun g=>g.1)
theorem Mks.opn {l:List As} {p:OV} {m:Mks} (j:Nat) (hj:l[j]? = some (Mks.O p m)):∀ R w,St R l w→∃ g:Nat×OV×OV,p.1 = .pointer (some ⟨g.1,0,none⟩)∧St R ([blk g.1 123 [eq g.2.1.1,eq g.2.2.1],RTab.O g.2.1 m.fTable,Park.O g.2.2 m.fwaits]++l.eraseIdx j) w:=st_open j hj
theorem Mks.shut {l r:List As} {p:OV} {m:Mks} (g:Nat×OV×OV) (hg:p.1 = .pointer (some ⟨g.1,0,none⟩)) (hp:l.Perm ([blk g.1 123 [eq g.2.1.1,eq g.2.2.1],RTab.O g.2.1 m.fTable,Park.O g.2.2 m.fwaits]++r)):∀ R w,St R l w→∃ _:Unit,True∧St R (Mks.O p m::r) w:=st_shut _ _ g hg hp
def SMosOf.O (p:OV) (m:SMosOf):As:=exA (γ:=Nat×OV) (fun g=>p.1 = .pointer (some ⟨g.1,0,none⟩)) (fun g=>[blk g.1 147 [eq (.int .i64 m.fmost),eq g.2.1],mp Value.string (fun x:List Int=>sl (intK .i64) x) g.2.1 m.fof])
theorem SMosOf.shut {l r:List As} {p:OV} {m:SMosOf} (g:Nat×OV) (hg:p.1 = .pointer (some ⟨g.1,0,none⟩)) (hp:l.Perm ([blk g.1 147 [eq (.int .i64 m.fmost),eq g.2.1],mp Value.string (fun x:List Int=>sl (intK .i64) x) g.2.1 m.fof]++r)):∀ R w,St R l w→∃ _:Unit,True∧St R (SMosOf.O p m::r) w:=st_shut _ _ g hg hp
def DNode.O (p:OV) (m:DNode):As:=exA (γ:=Nat) (fun g=>p.1 = .pointer (some ⟨g,0,none⟩)) (fun g=>[blk g 278 [eq (.string m.fe.fID),eq (.string m.fe.fRoom),sl strK m.fe.fParents,eq (.string m.fe.fThread),eq (.string m.fe.fUser),eq (.int .i64 m.fe.fDoes),eq (.int .i64 m.fdepth),eq (.bool m.fparent)]])
theorem DNode.nn {p:OV} {m:DNode}:NN (DNode.O p m) p.1:=by unfold DNode.O; exact nn_ex (γ:=Nat) (b:=fun g=>g)
theorem DNode.opn {l:List As} {p:OV} {m:DNode} (j:Nat) (hj:l[j]? = some (DNode.O p m)):∀ R w,St R l w→∃ g:Nat,p.1 = .pointer (some ⟨g,0,none⟩)∧St R ([blk g 278 [eq (.string m.fe.fID),eq (.string m.fe.fRoom),sl strK m.fe.fParents,eq (.string m.fe.fThread),eq (.string m.fe.fUser),eq (.int .i64 m.fe.fDoes),eq (.int .i64 m.fdepth),eq (.bool m.fparent)]]++l.eraseIdx j) w:=st_open j hj
theorem DNode.shut {l r:List As} {p:OV} {m:DNode} (g:Nat) (hg:p.1 = .pointer (some ⟨g,0,none⟩)) (hp:l.Perm ([blk g 278 [eq (.string m.fe.fID),eq (.string m.fe.fRoom),sl strK m.fe.fParents,eq (.string m.fe.fThread),eq (.string m.fe.fUser),eq (.int .i64 m.fe.fDoes),eq (.int .i64 m.fdepth),eq (.bool m.fparent)]]++r)):∀ R w,St R l w→∃ _:Unit,True∧St R (DNode.O p m::r) w:=st_shut _ _ g hg hp
def DDag.O (p:OV) (m:DDag):As:=exA (γ:=Nat×OV) (fun g=>p.1 = .pointer (some ⟨g.1,0,none⟩)) (fun g=>[blk g.1 274 [eq (.string m.froom),eq g.2.1],mpo Value.string DNode.O g.2.1 m.fnodes])
theorem DDag.nn {p:OV} {m:DDag}:NN (DDag.O p m) p.1:=by unfold DDag.O; exact nn_ex (γ:=Nat×OV) (b:=fun g=>g.1)
theorem DDag.opn {l:List As} {p:OV} {m:DDag} (j:Nat) (hj:l[j]? = some (DDag.O p m)):∀ R w,St R l w→∃ g:Nat×OV,p.1 = .pointer (some ⟨g.1,0,none⟩)∧St R ([blk g.1 274 [eq (.string m.froom),eq g.2.1],mpo Value.string DNode.O g.2.1 m.fnodes]++l.eraseIdx j) w:=st_open j hj
theorem DDag.shut {l r:List As} {p:OV} {m:DDag} (g:Nat×OV) (hg:p.1 = .pointer (some ⟨g.1,0,none⟩)) (hp:l.Perm ([blk g.1 274 [eq (.string m.froom),eq g.2.1],mpo Value.string DNode.O g.2.1 m.fnodes]++r)):∀ R w,St R l w→∃ _:Unit,True∧St R (DDag.O p m::r) w:=st_shut _ _ g hg hp
def VView.O (p:OV) (m:VView):As:=exA (γ:=Nat×OV) (fun g=>p.1 = .pointer (some ⟨g.1,0,none⟩)) (fun g=>[blk g.1 150 [eq g.2.1],mpo Value.string DDag.O g.2.1 m.fdags])
theorem VView.nn {p:OV} {m:VView}:NN (VView.O p m) p.1:=by unfold VView.O; exact nn_ex (γ:=Nat×OV) (b:=fun g=>g.1)
theorem VView.opn {l:List As} {p:OV} {m:VView} (j:Nat) (hj:l[j]? = some (VView.O p m)):∀ R w,St R l w→∃ g:Nat×OV,p.1 = .pointer (some ⟨g.1,0,none⟩)∧St R ([blk g.1 150 [eq g.2.1],mpo Value.string DDag.O g.2.1 m.fdags]++l.eraseIdx j) w:=st_open j hj
theorem VView.shut {l r:List As} {p:OV} {m:VView} (g:Nat×OV) (hg:p.1 = .pointer (some ⟨g.1,0,none⟩)) (hp:l.Perm ([blk g.1 150 [eq g.2.1],mpo Value.string DDag.O g.2.1 m.fdags]++r)):∀ R w,St R l w→∃ _:Unit,True∧St R (VView.O p m::r) w:=st_shut _ _ g hg hp
def HHeap.O (p:OV) (m:HHeap):As:=exA (γ:=Nat×OV×OV) (fun g=>p.1 = .pointer (some ⟨g.1,0,none⟩)) (fun g=>[blk g.1 206 [eq g.2.1.1,eq g.2.2.1],own HEnt.K g.2.1.1 m.fl,mp Value.string (fun x:Int=>eq (.int .i64 x)) g.2.2.1 m.fat])
theorem HHeap.nn {p:OV} {m:HHeap}:NN (HHeap.O p m) p.1:=by unfold HHeap.O; exact nn_ex (γ:=Nat×OV×OV) (b:=fun g=>g.1)
theorem HHeap.opn {l:List As} {p:OV} {m:HHeap} (j:Nat) (hj:l[j]? = some (HHeap.O p m)):∀ R w,St R l w→∃ g:Nat×OV×OV,p.1 = .pointer (some ⟨g.1,0,none⟩)∧St R ([blk g.1 206 [eq g.2.1.1,eq g.2.2.1],own HEnt.K g.2.1.1 m.fl,mp Value.string (fun x:Int=>eq (.int .i64 x)) g.2.2.1 m.fat]++l.eraseIdx j) w:=st_open j hj
theorem HHeap.shut {l r:List As} {p:OV} {m:HHeap} (g:Nat×OV×OV) (hg:p.1 = .pointer (some ⟨g.1,0,none⟩)) (hp:l.Perm ([blk g.1 206 [eq g.2.1.1,eq g.2.2.1],own HEnt.K g.2.1.1 m.fl,mp Value.string (fun x:Int=>eq (.int .i64 x)) g.2.2.1 m.fat]++r)):∀ R w,St R l w→∃ _:Unit,True∧St R (HHeap.O p m::r) w:=st_shut _ _ g hg hp
def TTab.O (p:OV) (m:TTab):As:=exA (γ:=Nat×OV×OV) (fun g=>p.1 = .pointer (some ⟨g.1,0,none⟩)) (fun g=>[blk g.1 154 [eq g.2.1.1,eq g.2.2.1],own Edu.K g.2.1.1 m.fl,HHeap.O g.2.2 m.fends])
theorem TTab.nn {p:OV} {m:TTab}:NN (TTab.O p m) p.1:=by unfold TTab.O; exact nn_ex (γ:=Nat×OV×OV) (b:=fun g=>g.1)
theorem TTab.opn {l:List As} {p:OV} {m:TTab} (j:Nat) (hj:l[j]? = some (TTab.O p m)):∀ R w,St R l w→∃ g:Nat×OV×OV,p.1 = .pointer (some ⟨g.1,0,none⟩)∧St R ([blk g.1 154 [eq g.2.1.1,eq g.2.2.1],own Edu.K g.2.1.1 m.fl,HHeap.O g.2.2 m.fends]++l.eraseIdx j) w:=st_open j hj
theorem TTab.shut {l r:List As} {p:OV} {m:TTab} (g:Nat×OV×OV) (hg:p.1 = .pointer (some ⟨g.1,0,none⟩)) (hp:l.Perm ([blk g.1 154 [eq g.2.1.1,eq g.2.2.1],own Edu.K g.2.1.1 m.fl,HHeap.O g.2.2 m.fends]++r)):∀ R w,St R l w→∃ _:Unit,True∧St R (TTab.O p m::r) w:=st_shut _ _ g hg hp
def PTab.O (p:OV) (m:PTab):As:=exA (γ:=Nat×OV×OV) (fun g=>p.1 = .pointer (some ⟨g.1,0,none⟩)) (fun g=>[blk g.1 156 [eq g.2.1.1,eq g.2.2.1],own Edu.K g.2.1.1 m.fl,HHeap.O g.2.2 m.fturns])
theorem PTab.opn {l:List As} {p:OV} {m:PTab} (j:Nat) (hj:l[j]? = some (PTab.O p m)):∀ R w,St R l w→∃ g:Nat×OV×OV,p.1 = .pointer (some ⟨g.1,0,none⟩)∧St R ([blk g.1 156 [eq g.2.1.1,eq g.2.2.1],own Edu.K g.2.1.1 m.fl,HHeap.O g.2.2 m.fturns]++l.eraseIdx j) w:=st_open j hj
theorem PTab.shut {l r:List As} {p:OV} {m:PTab} (g:Nat×OV×OV) (hg:p.1 = .pointer (some ⟨g.1,0,none⟩)) (hp:l.Perm ([blk g.1 156 [eq g.2.1.1,eq g.2.2.1],own Edu.K g.2.1.1 m.fl,HHeap.O g.2.2 m.fturns]++r)):∀ R w,St R l w→∃ _:Unit,True∧St R (PTab.O p m::r) w:=st_shut _ _ g hg hp
def SQue.O (p:OV) (m:SQue):As:=exA (γ:=Nat×OV×OV) (fun g=>p.1 = .pointer (some ⟨g.1,0,none⟩)) (fun g=>[blk g.1 211 [eq (.int .i64 m.fmost),eq g.2.1.1,eq g.2.2.1,eq (.int .i64 m.flost)],own EKey.K g.2.1.1 m.fkeys,mp EKey.kv (fun x:Edu=>agg (Edu.enc x)) g.2.2.1 m.fat])
theorem SQue.nn {p:OV} {m:SQue}:NN (SQue.O p m) p.1:=by unfold SQue.O; exact nn_ex (γ:=Nat×OV×OV) (b:=fun g=>g.1)
theorem SQue.opn {l:List As} {p:OV} {m:SQue} (j:Nat) (hj:l[j]? = some (SQue.O p m)):∀ R w,St R l w→∃ g:Nat×OV×OV,p.1 = .pointer (some ⟨g.1,0,none⟩)∧St R ([blk g.1 211 [eq (.int .i64 m.fmost),eq g.2.1.1,eq g.2.2.1,eq (.int .i64 m.flost)],own EKey.K g.2.1.1 m.fkeys,mp EKey.kv (fun x:Edu=>agg (Edu.enc x)) g.2.2.1 m.fat]++l.eraseIdx j) w:=st_open j hj
theorem SQue.shut {l r:List As} {p:OV} {m:SQue} (g:Nat×OV×OV) (hg:p.1 = .pointer (some ⟨g.1,0,none⟩)) (hp:l.Perm ([blk g.1 211 [eq (.int .i64 m.fmost),eq g.2.1.1,eq g.2.2.1,eq (.int .i64 m.flost)],own EKey.K g.2.1.1 m.fkeys,mp EKey.kv (fun x:Edu=>agg (Edu.enc x)) g.2.2.1 m.fat]++r)):∀ R w,St R l w→∃ _:Unit,True∧St R (SQue.O p m::r) w:=st_shut _ _ g hg hp
def Fly.O (p:OV) (m:Fly):As:=exA (γ:=Nat) (fun g=>p.1 = .pointer (some ⟨g,0,none⟩)) (fun g=>[blk g 227 [eq (.bool m.fp.fAck),eq (.string m.fp.fFrom),eq (.string m.fp.fTo),eq (.int .i64 m.fp.fID),sl Edu.K m.fp.fEdus,eq (.int .i64 m.ftries),eq (.int .i64 m.fdue)]])
theorem Fly.nn {p:OV} {m:Fly}:NN (Fly.O p m) p.1:=by unfold Fly.O; exact nn_ex (γ:=Nat) (b:=fun g=>g)
theorem Fly.opn {l:List As} {p:OV} {m:Fly} (j:Nat) (hj:l[j]? = some (Fly.O p m)):∀ R w,St R l w→∃ g:Nat,p.1 = .pointer (some ⟨g,0,none⟩)∧St R ([blk g 227 [eq (.bool m.fp.fAck),eq (.string m.fp.fFrom),eq (.string m.fp.fTo),eq (.int .i64 m.fp.fID),sl Edu.K m.fp.fEdus,eq (.int .i64 m.ftries),eq (.int .i64 m.fdue)]]++l.eraseIdx j) w:=st_open j hj
theorem Fly.shut {l r:List As} {p:OV} {m:Fly} (g:Nat) (hg:p.1 = .pointer (some ⟨g,0,none⟩)) (hp:l.Perm ([blk g 227 [eq (.bool m.fp.fAck),eq (.string m.fp.fFrom),eq (.string m.fp.fTo),eq (.int .i64 m.fp.fID),sl Edu.K m.fp.fEdus,eq (.int .i64 m.ftries),eq (.int .i64 m.fdue)]]++r)):∀ R w,St R l w→∃ _:Unit,True∧St R (Fly.O p m::r) w:=st_shut _ _ g hg hp
def SSnd.O (p:OV) (m:SSnd):As:=exA (γ:=Nat×OV×OV×OV) (fun g=>p.1 = .pointer (some ⟨g.1,0,none⟩)) (fun g=>[blk g.1 161 [eq g.2.1.1,eq (.string m.fself),eq (.string m.fto),eq g.2.2.1.1,eq g.2.2.2.1],SQue.O g.2.1 m.fQueue,Ctr.O g.2.2.1 m.fids,optO Fly.O g.2.2.2 m.fair])
theorem SSnd.nn {p:OV} {m:SSnd}:NN (SSnd.O p m) p.1:=by unfold SSnd.O; exact nn_ex (γ:=Nat×OV×OV×OV) (b:=fun g=>g.1)
theorem SSnd.opn {l:List As} {p:OV} {m:SSnd} (j:Nat) (hj:l[j]? = some (SSnd.O p m)):∀ R w,St R l w→∃ g:Nat×OV×OV×OV,p.1 = .pointer (some ⟨g.1,0,none⟩)∧St R ([blk g.1 161 [eq g.2.1.1,eq (.string m.fself),eq (.string m.fto),eq g.2.2.1.1,eq g.2.2.2.1],SQue.O g.2.1 m.fQueue,Ctr.O g.2.2.1 m.fids,optO Fly.O g.2.2.2 m.fair]++l.eraseIdx j) w:=st_open j hj
theorem SSnd.shut {l r:List As} {p:OV} {m:SSnd} (g:Nat×OV×OV×OV) (hg:p.1 = .pointer (some ⟨g.1,0,none⟩)) (hp:l.Perm ([blk g.1 161 [eq g.2.1.1,eq (.string m.fself),eq (.string m.fto),eq g.2.2.1.1,eq g.2.2.2.1],SQue.O g.2.1 m.fQueue,Ctr.O g.2.2.1 m.fids,optO Fly.O g.2.2.2 m.fair]++r)):∀ R w,St R l w→∃ _:Unit,True∧St R (SSnd.O p m::r) w:=st_shut _ _ g hg hp
def SSelTicStaAllComSen.O (p:OV) (m:SSelTicStaAllComSen):As:=exA (γ:=Nat×OV×OV×OV×OV×OV×OV×OV×OV×OV) (fun g=>p.1 = .pointer (some ⟨g.1,0,none⟩)) (fun g=>[blk g.1 102 [eq (.string m.fself),eq g.2.1.1,eq g.2.2.1.1,eq g.2.2.2.1.1,eq g.2.2.2.2.1.1,eq g.2.2.2.2.2.1.1,eq g.2.2.2.2.2.2.1.1,eq g.2.2.2.2.2.2.2.1.1,eq g.2.2.2.2.2.2.2.2.1.1,eq g.2.2.2.2.2.2.2.2.2.1],Ctr.O g.2.1 m.ftick,Ctr.O g.2.2.1 m.fstamps,VView.O g.2.2.2.1 m.fall.fView,Mks.O g.2.2.2.2.1 m.fall.fMarks,TTab.O g.2.2.2.2.2.1 m.fall.fTyping,PTab.O g.2.2.2.2.2.2.1 m.fall.fPresence,DLog.O g.2.2.2.2.2.2.2.1 m.fall.fLog,SMosOf.O g.2.2.2.2.2.2.2.2.1 m.fcome,mpo Value.string SSnd.O g.2.2.2.2.2.2.2.2.2.1 m.fsenders])
theorem SSelTicStaAllComSen.nn {p:OV} {m:SSelTicStaAllComSen}:NN (SSelTicStaAllComSen.O p m) p.1:=by unfold SSelTicStaAllComSen.O; exact nn_ex (γ:=Nat×OV×OV×OV×OV×OV×OV×OV×OV×OV) (b:=fun g=>g.1)
theorem SSelTicStaAllComSen.opn {l:List As} {p:OV} {m:SSelTicStaAllComSen} (j:Nat) (hj:l[j]? = some (SSelTicStaAllComSen.O p m)):∀ R w,St R l w→∃ g:Nat×OV×OV×OV×OV×OV×OV×OV×OV×OV,p.1 = .pointer (some ⟨g.1,0,none⟩)∧St R ([blk g.1 102 [eq (.string m.fself),eq g.2.1.1,eq g.2.2.1.1,eq g.2.2.2.1.1,eq g.2.2.2.2.1.1,eq g.2.2.2.2.2.1.1,eq g.2.2.2.2.2.2.1.1,eq g.2.2.2.2.2.2.2.1.1,eq g.2.2.2.2.2.2.2.2.1.1,eq g.2.2.2.2.2.2.2.2.2.1],Ctr.O g.2.1 m.ftick,Ctr.O g.2.2.1 m.fstamps,VView.O g.2.2.2.1 m.fall.fView,Mks.O g.2.2.2.2.1 m.fall.fMarks,TTab.O g.2.2.2.2.2.1 m.fall.fTyping,PTab.O g.2.2.2.2.2.2.1 m.fall.fPresence,DLog.O g.2.2.2.2.2.2.2.1 m.fall.fLog,SMosOf.O g.2.2.2.2.2.2.2.2.1 m.fcome,mpo Value.string SSnd.O g.2.2.2.2.2.2.2.2.2.1 m.fsenders]++l.eraseIdx j) w:=st_open j hj
theorem SSelTicStaAllComSen.shut {l r:List As} {p:OV} {m:SSelTicStaAllComSen} (g:Nat×OV×OV×OV×OV×OV×OV×OV×OV×OV) (hg:p.1 = .pointer (some ⟨g.1,0,none⟩)) (hp:l.Perm ([blk g.1 102 [eq (.string m.fself),eq g.2.1.1,eq g.2.2.1.1,eq g.2.2.2.1.1,eq g.2.2.2.2.1.1,eq g.2.2.2.2.2.1.1,eq g.2.2.2.2.2.2.1.1,eq g.2.2.2.2.2.2.2.1.1,eq g.2.2.2.2.2.2.2.2.1.1,eq g.2.2.2.2.2.2.2.2.2.1],Ctr.O g.2.1 m.ftick,Ctr.O g.2.2.1 m.fstamps,VView.O g.2.2.2.1 m.fall.fView,Mks.O g.2.2.2.2.1 m.fall.fMarks,TTab.O g.2.2.2.2.2.1 m.fall.fTyping,PTab.O g.2.2.2.2.2.2.1 m.fall.fPresence,DLog.O g.2.2.2.2.2.2.2.1 m.fall.fLog,SMosOf.O g.2.2.2.2.2.2.2.2.1 m.fcome,mpo Value.string SSnd.O g.2.2.2.2.2.2.2.2.2.1 m.fsenders]++r)):∀ R w,St R l w→∃ _:Unit,True∧St R (SSelTicStaAllComSen.O p m::r) w:=st_shut _ _ g hg hp
def fqQ_string_bool (g:ByteArray→Option Bool):List VP→VP→Prop:=fun vs ret=>∃ a0 r,g a0 = some r∧vs = [eq (.string a0)]∧ret = eq (.bool r)
def fx_string_bool (X:As) (g:ByteArray→Option Bool):VP:=fnx Tryz.prog X (fqQ_string_bool g)
def fqQ_int_int_int_bool (g:Int→Int→Int→Option Bool):List VP→VP→Prop:=fun vs ret=>∃ a0 a1 a2 r,g a0 a1 a2 = some r∧vs = [eq (.int .i64 a0),eq (.int .i64 a1),eq (.int .i64 a2)]∧ret = eq (.bool r)
def fq_int_int_int_bool (g:Int→Int→Int→Option Bool):VP:=fnq Tryz.prog (fqQ_int_int_int_bool g)
def fqQ_api_Edu_bool (g:Edu→Option Bool):List VP→VP→Prop:=fun vs ret=>∃ a0 r,g a0 = some r∧vs = [agg (Edu.enc a0)]∧ret = eq (.bool r)
def fq_api_Edu_bool (g:Edu→Option Bool):VP:=fnq Tryz.prog (fqQ_api_Edu_bool g)
def fx_api_Edu_bool (X:As) (g:Edu→Option Bool):VP:=fnx Tryz.prog X (fqQ_api_Edu_bool g)
def fK_api_Edu_bool:Kd (Edu→Option Bool):=⟨1,fun _=>none,fun g=>[fq_api_Edu_bool g],fun _=>rfl,fun _ p h R v hv=>by simp at h; subst h; exact one_fnq R v hv⟩
def fqQ_api_Edu_api_Edu_int (g:Edu→Edu→Option Int):List VP→VP→Prop:=fun vs ret=>∃ a0 a1 r,g a0 a1 = some r∧vs = [agg (Edu.enc a0),agg (Edu.enc a1)]∧ret = eq (.int .i64 r)
def fq_api_Edu_api_Edu_int (g:Edu→Edu→Option Int):VP:=fnq Tryz.prog (fqQ_api_Edu_api_Edu_int g)
def fqQ_api_Edu_string_int (g:Edu→ByteArray→Option Int):List VP→VP→Prop:=fun vs ret=>∃ a0 a1 r,g a0 a1 = some r∧vs = [agg (Edu.enc a0),eq (.string a1)]∧ret = eq (.int .i64 r)
def fq_api_Edu_string_int (g:Edu→ByteArray→Option Int):VP:=fnq Tryz.prog (fqQ_api_Edu_string_int g)
def fqQ_edu_Key_bool (g:EKey→Option Bool):List VP→VP→Prop:=fun vs ret=>∃ a0 r,g a0 = some r∧vs = [agg (EKey.enc a0)]∧ret = eq (.bool r)
def fx_edu_Key_bool (X:As) (g:EKey→Option Bool):VP:=fnx Tryz.prog X (fqQ_edu_Key_bool g)
def r01_Few.f (a0:ByteArray) (a1:Int):Option (ByteArray):=cond (decide (a1 < (a0.size:Int))) (grd ((0:Int)≤a1∧0≤a1.toNat∧a1.toNat≤a0.size) (some (a0.extract 0 a1.toNat))) (some a0)
def name_small.f (a0:Int):Option (Bool):=cond (decide (97≤a0)) (cond (decide (a0≤122)) (some true) (cond (decide (48≤a0)) (some (decide (a0≤57))) (some false))) (cond (decide (48≤a0)) (some (decide (a0≤57))) (some false))
def stringslite_IndexByte.f (a0:ByteArray) (a1:Int):Option (Int):=some (idxB a0 a1)
def strings_IndexByte.f (a0:ByteArray) (a1:Int):Option (Int):=(stringslite_IndexByte.f a0 a1).bind fun t7=>some t7
def name_among_1.f (a0:Int) (c0:ByteArray):Option (Bool):=(name_small.f a0).bind fun t9=>cond t9 (some true) ((strings_IndexByte.f c0 a0).bind fun t12=>some (decide (0≤t12)))
def name_among.f (a0:ByteArray):Option ((Int→Option Bool)):=some (fun a0_=>name_among_1.f a0_ a0)
def name_may.l0 (k:Nat) (a0:ByteArray) (a1:Int) (t15:(Int→Option Bool)) (t17:(Int→Option Bool)) (t19:(Int→Option Bool)):Nat→Int→Option ((Int×Bool) ⊕ (Bool))
 | 0,_=>none
 | j30 + 1,x24=>cond (decide (x24 < (a0.size:Int))) (grd ((0:Int)≤x24∧x24 < (a0.size:Int)) (((fK_uint8_bool.at ([t15,t17,t19]:List (Int→Option Bool)) a1) (bt a0 x24)).bind fun t27=>cond (!t27) (some (.inr false)) (name_may.l0 k a0 a1 t15 t17 t19 j30 (w64 (x24 + 1))))) (some (.inl (x24,decide (x24 < (a0.size:Int)))))
def name_may.f (k:Nat) (a0:ByteArray) (a1:Int):Option (Bool):=(name_among.f (⟨#[46,45,95]⟩:ByteArray)).bind fun t15=>(name_among.f (⟨#[46,45]⟩:ByteArray)).bind fun t17=>(name_among.f (⟨#[45,95,65,66,67,68,69,70,71,72,73,74,75,76,77,78,79,80,81,82,83,84,85,86,87,88,89,90]⟩:ByteArray)).bind fun t19=>grd ((0:Int)≤a1∧a1 < (3:Int)) ((name_may.l0 k a0 a1 t15 t17 t19 k 0).bind (fall fun (p22:Int×Bool)=>cond (!decide (a0 = (⟨#[]⟩:ByteArray))) (some (decide ((a0.size:Int)≤16))) (some false)))
def name_Server.f (k:Nat) (a0:ByteArray):Option (Bool):=(name_may.f k a0 1).bind fun t32=>cond t32 (grd ((0:Int)≤0∧0 < (a0.size:Int)) ((name_small.f (bt a0 0)).bind fun t36=>cond t36 (grd ((0:Int)≤(w64 ((a0.size:Int) - 1))∧(w64 ((a0.size:Int) - 1)) < (a0.size:Int)) ((name_small.f (bt a0 (w64 ((a0.size:Int) - 1)))).bind fun t40=>some t40)) (some false))) (some false)
def clock_New.f (a0:Int) (a1:Int):Option ((Option Ctr)×Int):=cond (decide (a1 < 1)) (some (none,1)) (cond (decide (1099511627776 < a1)) (some (none,1)) (cond (decide (a0 < 0)) (some (none,1)) (cond (decide (a1 < a0)) (some (none,1)) (some (some (⟨(⟨a0⟩:AtI),a1⟩:Ctr),0)))))
def delta_New.f (a0:Int) (a1:Int):Option ((Option DLog)×Int):=(clock_New.f a0 a1).bind fun t50=>cond (t50.2 != 0) (some (none,t50.2)) (grd (t50.1.isSome = true) (some (some (⟨t50.1.getD default,([]:List ByteArray),([]:List (ByteArray×Int))⟩:DLog),0)))
def park_New.f (a0:Int):Option ((Option Park)×Int):=cond (decide (a0 < 1)) (some (none,1)) (cond (decide (1000 < a0)) (some (none,1)) (some (some (⟨a0,([]:List Edu),0⟩:Park),0)))
def receipt_New.f:Option (RTab):=some (⟨([]:List (RKey×Pos))⟩:RTab)
def marks_New.f (a0:Int):Option ((Option Mks)×Int):=(park_New.f a0).bind fun t63=>cond (t63.2 != 0) (some (none,t63.2)) ((receipt_New.f).bind fun t67=>grd (t63.1.isSome = true) (some (some (⟨t67,t63.1.getD default⟩:Mks),0)))
def seen_New_string.f (a0:Int):Option ((Option SMosOf)×Int):=cond (decide (a0 < 1)) (some (none,1)) (cond (decide (1000 < a0)) (some (none,1)) (some (some (⟨a0,([]:List (ByteArray×(List Int)))⟩:SMosOf),0)))
def view_New.f:Option (VView):=some (⟨([]:List (ByteArray×DDag))⟩:VView)
def heap_New.f:Option (HHeap):=some (⟨([]:List HEnt),([]:List (ByteArray×Int))⟩:HHeap)
def typing_New.f:Option (TTab):=(heap_New.f).bind fun t81=>some (⟨([]:List Edu),t81⟩:TTab)
def presence_New.f:Option (PTab):=(heap_New.f).bind fun t85=>some (⟨([]:List Edu),t85⟩:PTab)
def server_New.f (k:Nat) (a0:ByteArray) (a1:Int) (a2:Int):Option ((Option SSelTicStaAllComSen)×Int):=(name_Server.f k a0).bind fun t89=>cond (!t89) (some (none,1)) ((clock_New.f a1 1099511627776).bind fun t92=>cond (t92.2 != 0) (some (none,t92.2)) ((delta_New.f a2 1099511627776).bind fun t96=>cond (t96.2 != 0) (some (none,t96.2)) ((clock_New.f 0 1099511627776).bind fun t100=>(marks_New.f 8).bind fun t103=>(seen_New_string.f 32).bind fun t106=>(view_New.f).bind fun t109=>(typing_New.f).bind fun t112=>(presence_New.f).bind fun t115=>grd (t103.1.isSome = true) (grd (t96.1.isSome = true) (grd (t92.1.isSome = true) (grd (t100.1.isSome = true) (grd (t106.1.isSome = true) (some (some (⟨a0,t92.1.getD default,t100.1.getD default,(⟨t109,t103.1.getD default,t112,t115,t96.1.getD default⟩:Src),t106.1.getD default,([]:List (ByteArray×SSnd))⟩:SSelTicStaAllComSen),0)))))))))
def r01_low.f (a0:Int):Option (Bool):=cond (decide (97≤a0)) (cond (decide (a0≤122)) (some true) (cond (decide (48≤a0)) (some (decide (a0≤57))) (some false))) (cond (decide (48≤a0)) (some (decide (a0≤57))) (some false))
def r01_Server.l0 (k:Nat) (a0:ByteArray):Nat→Int→Option ((Int×Bool) ⊕ (Bool))
 | 0,_=>none
 | j153 + 1,x131=>cond (decide (x131 < (a0.size:Int))) (grd ((0:Int)≤x131∧x131 < (a0.size:Int)) ((r01_low.f (bt a0 x131)).bind fun t134=>cond (decide (0 < x131)) (cond (decide (x131 < (w64 ((a0.size:Int) - 1)))) (grd ((0:Int)≤x131∧x131 < (a0.size:Int)) (cond ((bt a0 x131) == 46) (cond (!t134) (r01_Server.l0 k a0 j153 (w64 (x131 + 1))) (r01_Server.l0 k a0 j153 (w64 (x131 + 1)))) (grd ((0:Int)≤x131∧x131 < (a0.size:Int)) (cond (!t134) (cond (!((bt a0 x131) == 45)) (some (.inr false)) (r01_Server.l0 k a0 j153 (w64 (x131 + 1)))) (r01_Server.l0 k a0 j153 (w64 (x131 + 1))))))) (cond (!t134) (some (.inr false)) (r01_Server.l0 k a0 j153 (w64 (x131 + 1))))) (cond (!t134) (some (.inr false)) (r01_Server.l0 k a0 j153 (w64 (x131 + 1)))))) (some (.inl (x131,decide (x131 < (a0.size:Int)))))
def r01_Server.f (k:Nat) (a0:ByteArray):Option (Bool):=(r01_Server.l0 k a0 k 0).bind (fall fun (p129:Int×Bool)=>cond (decide (0 < (a0.size:Int))) (some (decide ((a0.size:Int) < 17))) (some false))
def server_Server_Self.f (a0:SSelTicStaAllComSen):Option (ByteArray):=some a0.fself
def clock_Counter_At.f (a0:Ctr):Option (Int):=some a0.fn.fv
def server_Server_Tick.f (a0:SSelTicStaAllComSen):Option (Int):=(clock_Counter_At.f a0.ftick).bind fun t161=>some t161
def server_Server_Tick_o.f (m:Ctr):Option Int:=clock_Counter_At.f m
def delta_Log_At.f (a0:DLog):Option (Int):=(clock_Counter_At.f a0.fat).bind fun t167=>some t167
def server_Server_Pos.f (a0:SSelTicStaAllComSen):Option (Int):=(delta_Log_At.f a0.fall.fLog).bind fun t171=>some t171
def queue_Queue_Len.f (a0:SQue):Option (Int):=some (a0.fkeys.length:Int)
def sender_Sender_Idle.f (a0:SSnd):Option (Bool):=cond a0.fair.isNone ((queue_Queue_Len.f a0.fQueue).bind fun t174=>some (t174 == 0)) (some false)
def server_Server_Idle.f (a0:SSelTicStaAllComSen):Option (Bool):=allO (fun e:ByteArray×SSnd=>sender_Sender_Idle.f e.2) a0.fsenders
def server_Server_View.f (a0:SSelTicStaAllComSen):Option (Unit):=some ()
def dag_New.f (a0:ByteArray):Option (DDag):=some (⟨a0,([]:List (ByteArray×DNode))⟩:DDag)
def view_View_room.f (a0:VView) (a1:ByteArray):Option DDag:=cond (mget a0.fdags a1).isSome (some ((mget a0.fdags a1).getD default)) (dag_New.f a1)
def stringslite_Index.f (a0:ByteArray) (a1:ByteArray):Option (Int):=cond ((a1.size:Int) == 0) (some 0) (cond (decide (a1 = a0)) (some 0) (cond ((a1.size:Int) == 1) (grd ((0:Int)≤0∧0 < (a1.size:Int)) ((stringslite_IndexByte.f a0 (bt a1 0)).bind fun t202=>some t202)) (cond (decide ((a0.size:Int)≤(a1.size:Int))) (some (-1)) (none))))
def stringslite_Cut.f (a0:ByteArray) (a1:ByteArray):Option (ByteArray×ByteArray×Bool):=(stringslite_Index.f a0 a1).bind fun t205=>cond (decide (0≤t205)) (grd ((0:Int)≤t205∧0≤t205.toNat∧t205.toNat≤a0.size) (grd ((0:Int)≤(w64 (t205 + (a1.size:Int)))∧(w64 (t205 + (a1.size:Int))).toNat≤a0.size∧a0.size≤a0.size) (some (a0.extract 0 t205.toNat,a0.extract (w64 (t205 + (a1.size:Int))).toNat a0.size,true)))) (some (a0,(⟨#[]⟩:ByteArray),false))
def strings_Cut.f (a0:ByteArray) (a1:ByteArray):Option (ByteArray×ByteArray×Bool):=(stringslite_Cut.f a0 a1).bind fun t210=>some (t210.1,t210.2.1,t210.2.2)
def stringslite_HasPrefix.f (a0:ByteArray) (a1:ByteArray):Option (Bool):=cond (decide ((a1.size:Int)≤(a0.size:Int))) (grd ((0:Int)≤(a1.size:Int)∧0≤(a1.size:Int).toNat∧(a1.size:Int).toNat≤a0.size) (some (decide ((a0.extract 0 ((a1.size:Int).toNat)) = a1)))) (some false)
def stringslite_CutPrefix.f (a0:ByteArray) (a1:ByteArray):Option (ByteArray×Bool):=(stringslite_HasPrefix.f a0 a1).bind fun t214=>cond (!t214) (some (a0,false)) (grd ((0:Int)≤(a1.size:Int)∧(a1.size:Int).toNat≤a0.size∧a0.size≤a0.size) (some (a0.extract (a1.size:Int).toNat a0.size,true)))
def strings_CutPrefix.f (a0:ByteArray) (a1:ByteArray):Option (ByteArray×Bool):=(stringslite_CutPrefix.f a0 a1).bind fun t218=>some (t218.1,t218.2)
def name_split.f (k:Nat) (a0:ByteArray) (a1:ByteArray):Option (ByteArray×ByteArray×Bool):=(strings_CutPrefix.f a0 a1).bind fun t220=>(strings_Cut.f t220.1 (⟨#[58]⟩:ByteArray)).bind fun t222=>cond t220.2 (cond t222.2.2 ((name_may.f k t222.1 0).bind fun t226=>cond t226 ((name_Server.f k t222.2.1).bind fun t229=>some (t222.1,t222.2.1,t229)) (some (t222.1,t222.2.1,false))) (some (t222.1,t222.2.1,false))) (some (t222.1,t222.2.1,false))
def name_User.f (k:Nat) (a0:ByteArray):Option (Bool):=(name_split.f k a0 (⟨#[64]⟩:ByteArray)).bind fun t231=>some t231.2.2
def name_Room.f (k:Nat) (a0:ByteArray):Option (Bool):=(name_split.f k a0 (⟨#[33]⟩:ByteArray)).bind fun t233=>some t233.2.2
def name_Event.f (k:Nat) (a0:ByteArray):Option (Bool):=(strings_CutPrefix.f a0 (⟨#[36]⟩:ByteArray)).bind fun t235=>cond t235.2 ((name_may.f k t235.1 2).bind fun t238=>some t238) (some false)
def dag_May.l0 (k:Nat) (a0:Event):Nat→Int→Option (Bool×Int×Bool)
 | 0,_=>none
 | j280 + 1,x267=>cond (decide (x267 < (a0.fParents.length:Int))) (grd ((0:Int)≤x267∧x267 < (a0.fParents.length:Int)) ((name_Event.f k (strK.at a0.fParents x267)).bind fun t270=>cond (!t270) (some (false,x267,decide (x267 < (a0.fParents.length:Int)))) (cond (decide ((strK.at a0.fParents x267) = a0.fID)) (some (false,x267,decide (x267 < (a0.fParents.length:Int)))) (cond (decide (0 < x267)) (grd ((0:Int)≤(w64 (x267 - 1))∧(w64 (x267 - 1)) < (a0.fParents.length:Int)) (cond (!sLt (strK.at a0.fParents (w64 (x267 - 1))) (strK.at a0.fParents x267)) (some (false,x267,decide (x267 < (a0.fParents.length:Int)))) (dag_May.l0 k a0 j280 (w64 (x267 + 1))))) (dag_May.l0 k a0 j280 (w64 (x267 + 1))))))) (some (true,x267,decide (x267 < (a0.fParents.length:Int))))
def dag_May.l1 (k:Nat) (a0:Event):Nat→Int→Option (Bool×Int×Bool)
 | 0,_=>none
 | j297 + 1,x284=>cond (decide (x284 < (a0.fParents.length:Int))) (grd ((0:Int)≤x284∧x284 < (a0.fParents.length:Int)) ((name_Event.f k (strK.at a0.fParents x284)).bind fun t287=>cond (!t287) (some (false,x284,decide (x284 < (a0.fParents.length:Int)))) (cond (decide ((strK.at a0.fParents x284) = a0.fID)) (some (false,x284,decide (x284 < (a0.fParents.length:Int)))) (cond (decide (0 < x284)) (grd ((0:Int)≤(w64 (x284 - 1))∧(w64 (x284 - 1)) < (a0.fParents.length:Int)) (cond (!sLt (strK.at a0.fParents (w64 (x284 - 1))) (strK.at a0.fParents x284)) (some (false,x284,decide (x284 < (a0.fParents.length:Int)))) (dag_May.l1 k a0 j297 (w64 (x284 + 1))))) (dag_May.l1 k a0 j297 (w64 (x284 + 1))))))) (some (true,x284,decide (x284 < (a0.fParents.length:Int))))
def dag_May.f (k:Nat) (a0:Event):Option (Bool):=(name_Event.f k a0.fID).bind fun t241=>cond (!t241) (some false) ((name_Room.f k a0.fRoom).bind fun t245=>cond (!t245) (some false) ((name_User.f k a0.fUser).bind fun t249=>cond (!t249) (some false) (cond (decide (4 < (a0.fParents.length:Int))) (some false) (cond (decide (a0.fDoes < 0)) (some false) (cond (decide (2 < a0.fDoes)) (some false) (cond (!decide (a0.fThread = (⟨#[]⟩:ByteArray))) ((name_Event.f k a0.fThread).bind fun t259=>cond (!t259) (some false) (cond (decide (a0.fThread = a0.fID)) (some false) (cond (a0.fDoes != 0) (some false) ((dag_May.l0 k a0 k 0).bind fun (p266:Bool×Int×Bool)=>some p266.1)))) ((dag_May.l1 k a0 k 0).bind fun (p283:Bool×Int×Bool)=>some p283.1)))))))
def dag_Dag_Has.f (a0:DDag) (a1:ByteArray):Option (Bool):=some (!(mget a0.fnodes a1).isNone)
def slices_IndexFunc_string_x.l0 (k:Nat) (a0:List ByteArray) (a1:(ByteArray→Option Bool)):Nat→Int→Option ((Int×Bool) ⊕ (Int))
 | 0,_=>none
 | j317 + 1,x311=>cond (decide (x311 < (a0.length:Int))) (grd ((0:Int)≤x311∧x311 < (a0.length:Int)) ((a1 (strK.at a0 x311)).bind fun t314=>cond t314 (some (.inr x311)) (slices_IndexFunc_string_x.l0 k a0 a1 j317 (w64 (x311 + 1))))) (some (.inl (x311,decide (x311 < (a0.length:Int)))))
def slices_IndexFunc_string_x.f (k:Nat) (a0:List ByteArray) (a1:(ByteArray→Option Bool)):Option (Int):=(slices_IndexFunc_string_x.l0 k a0 a1 k 0).bind (fall fun (p310:Int×Bool)=>some (-1))
def slices_IndexFunc_string_xw.l0 (k:Nat) (a0:List ByteArray) (a1:(ByteArray→Option Bool)):Nat→Int→Option ((Int×Bool) ⊕ (Int))
 | 0,_=>none
 | j327 + 1,x320=>cond (decide (x320 < (a0.length:Int))) (grd ((0:Int)≤x320∧x320 < (a0.length:Int)) ((a1 (a0.getD x320.toNat default)).bind fun t324=>cond t324 (some (.inr x320)) (slices_IndexFunc_string_xw.l0 k a0 a1 j327 (w64 (x320 + 1))))) (some (.inl (x320,decide (x320 < (a0.length:Int)))))
def slices_IndexFunc_string_xw.f (k:Nat) (a0:List ByteArray) (a1:(ByteArray→Option Bool)):Option (Int):=(slices_IndexFunc_string_xw.l0 k a0 a1 k 0).bind (fall fun (p319:Int×Bool)=>some (-1))
def slices_ContainsFunc_string_x.f (k:Nat) (a0:List ByteArray) (a1:(ByteArray→Option Bool)):Option (Bool):=(slices_IndexFunc_string_x.f k a0 a1).bind fun t331=>some (decide (0≤t331))
def dag_Dag_Add_1.f (a0:ByteArray) (c0:DDag):Option (Bool):=(dag_Dag_Has.f c0 a0).bind fun t335=>some (!t335)
def slices_Clone_string.f (xs:List ByteArray):Option (List ByteArray):=grd (xs.length≤9223372036854775807∧xs.length * 16≤140737488355328) (some xs)
def dag_own.f (a0:Event):Option (Event):=(slices_Clone_string.f a0.fParents).bind fun t339=>some (⟨a0.fID,a0.fRoom,t339,a0.fThread,a0.fUser,a0.fDoes⟩:Event)
def dag_Dag_Add.l0 (k:Nat) (a1:Event):Nat→Int→Int→DDag→Option (Int×Bool×Int×DDag)
 | 0,_,_,_=>none
 | j379 + 1,x366,x367,x368=>cond (decide (x366 < (a1.fParents.length:Int))) (grd ((0:Int)≤x366∧x366 < (a1.fParents.length:Int)) (grd ((mget x368.fnodes (strK.at a1.fParents x366)).isSome = true) (dag_Dag_Add.l0 k a1 j379 (w64 (x366 + 1)) (max x367 (w64 ((((mget x368.fnodes (strK.at a1.fParents x366)).getD default).fdepth) + 1))) (⟨x368.froom,mput x368.fnodes (strK.at a1.fParents x366) (⟨((mget x368.fnodes (strK.at a1.fParents x366)).getD default).fe,((mget x368.fnodes (strK.at a1.fParents x366)).getD default).fdepth,true⟩:DNode)⟩:DDag)))) (some (x366,decide (x366 < (a1.fParents.length:Int)),x367,x368))
def dag_Dag_Add.f (k:Nat) (a0:DDag) (a1:Event):Option (Int×DDag):=(dag_May.f k a1).bind fun t346=>cond (!t346) (some (1,a0)) (cond (!decide (a1.fRoom = a0.froom)) (some (1,a0)) ((dag_Dag_Has.f a0 a1.fID).bind fun t351=>cond t351 (some (9,a0)) ((slices_ContainsFunc_string_x.f k a1.fParents (fun a0_=>dag_Dag_Add_1.f a0_ a0)).bind fun t354=>cond t354 (some (4,a0)) ((cond (!decide (a1.fThread = (⟨#[]⟩:ByteArray))) (cond ((mget a0.fnodes a1.fThread).isNone) (some (.inr (4,a0))) (grd ((mget a0.fnodes a1.fThread).isSome = true) (cond (!decide (((((mget a0.fnodes a1.fThread).getD default).fe).fThread) = (⟨#[]⟩:ByteArray))) (some (.inr (7,a0))) (cond (((((mget a0.fnodes a1.fThread).getD default).fe).fDoes) != 0) (some (.inr (7,a0))) (some (.inl ())))))) (some (.inl ()))).bind (fall fun (p357:Unit)=>(dag_own.f a1).bind fun t358=>(dag_Dag_Add.l0 k a1 k 0 0 a0).bind fun (p361:Int×Bool×Int×DDag)=>some (0,(⟨p361.2.2.2.froom,mput p361.2.2.2.fnodes a1.fID (⟨t358,p361.2.2.1,false⟩:DNode)⟩:DDag)))))))
def view_View_Add.f (k:Nat) (a0:VView) (a1:Event):Option (Int×VView):=(view_View_room.f a0 a1.fRoom).bind fun t394=>(dag_Dag_Add.f k t394 a1).bind fun t397=>cond (t397.1 != 0) (some (t397.1,(⟨mres a0.fdags a1.fRoom t397.2⟩:VView))) (some (0,(⟨mput a0.fdags a1.fRoom t397.2⟩:VView)))
def dag_Dag_Position.f (a0:DDag) (a1:ByteArray):Option (Pos×Bool):=(dag_Dag_Has.f a0 a1).bind fun t403=>cond (!t403) (some ((⟨0,(⟨#[]⟩:ByteArray)⟩:Pos),false)) (grd ((mget a0.fnodes a1).isSome = true) (some ((⟨((mget a0.fnodes a1).getD default).fdepth,a1⟩:Pos),true)))
def view_View_Position.f (a0:VView) (a1:ByteArray) (a2:ByteArray):Option (Pos×Bool):=(view_View_room.f a0 a1).bind fun t412=>(dag_Dag_Position.f t412 a2).bind fun t417=>some (t417.1,t417.2)
def marks_Of.f (a0:Edu):Option (RKey):=some (⟨a0.fRoom,a0.fUser,a0.fThread,a0.fPrivate⟩:RKey)
def edu_asks_1.f (a0:Int) (a1:Int) (a2:Int):Option (Bool):=cond (decide (a1≤a0)) (some (decide (a0≤a2))) (some false)
def edu_asks_2.f (a0:Edu):Option (Bool):=some false
def name_Thread.f (k:Nat) (a0:ByteArray):Option (Bool):=cond (decide (a0 = (⟨#[]⟩:ByteArray))) (some true) (cond (decide (a0 = (⟨#[109,97,105,110]⟩:ByteArray))) (some true) ((name_Event.f k a0).bind fun t425=>some t425))
def edu_asks_3.f (k:Nat) (a0:Edu):Option (Bool):=(name_Room.f k a0.fRoom).bind fun t428=>cond t428 ((name_Event.f k a0.fEvent).bind fun t431=>cond t431 ((name_Thread.f k a0.fThread).bind fun t434=>some t434) (some false)) (some false)
def edu_asks_4.f (k:Nat) (a0:Edu) (c0:Int→Int→Int→Option Bool):Option (Bool):=(name_Room.f k a0.fRoom).bind fun t437=>cond t437 (cond (!a0.fOn) (some true) ((c0 a0.fSpan 1 60).bind fun t441=>some t441)) (some false)
def edu_asks_5.f (a0:Edu) (c0:Int→Int→Int→Option Bool):Option (Bool):=(c0 a0.fState 0 2).bind fun t444=>some t444
def edu_asks.f (k:Nat):Option ((List (Edu→Option Bool))):=some ([edu_asks_2.f,edu_asks_3.f k,fun a0_=>edu_asks_4.f k a0_ edu_asks_1.f,fun a0_=>edu_asks_5.f a0_ edu_asks_1.f]:List (Edu→Option Bool))
def edu_Local_1.f (a0:Int):Option (Bool):=cond (decide (0≤a0)) (some (decide (a0≤1099511627776))) (some false)
def edu_named.f (a0:Edu):Option (Edu):=cond (a0.fKind == 1) (some (⟨a0.fKind,a0.fRoom,a0.fUser,a0.fEvent,a0.fThread,a0.fPrivate,false,0,0,a0.fTick,a0.fStamp⟩:Edu)) (cond (a0.fKind == 2) (cond a0.fOn (some (⟨a0.fKind,a0.fRoom,a0.fUser,(⟨#[]⟩:ByteArray),(⟨#[]⟩:ByteArray),false,a0.fOn,a0.fSpan,0,a0.fTick,a0.fStamp⟩:Edu)) (some (⟨a0.fKind,a0.fRoom,a0.fUser,(⟨#[]⟩:ByteArray),(⟨#[]⟩:ByteArray),false,a0.fOn,0,0,a0.fTick,a0.fStamp⟩:Edu))) (cond (a0.fKind == 3) (some (⟨a0.fKind,(⟨#[]⟩:ByteArray),a0.fUser,(⟨#[]⟩:ByteArray),(⟨#[]⟩:ByteArray),false,false,0,a0.fState,a0.fTick,a0.fStamp⟩:Edu)) (some (⟨a0.fKind,(⟨#[]⟩:ByteArray),a0.fUser,(⟨#[]⟩:ByteArray),(⟨#[]⟩:ByteArray),false,false,0,0,a0.fTick,a0.fStamp⟩:Edu))))
def edu_Local.f (k:Nat) (a0:Edu):Option (Bool):=cond (decide (a0.fKind < 0)) (some false) (cond (decide (3 < a0.fKind)) (some false) ((edu_asks.f k).bind fun t460=>grd ((0:Int)≤a0.fKind∧a0.fKind < (t460.length:Int)) (((fK_api_Edu_bool.at t460 a0.fKind) a0).bind fun t463=>cond (!t463) (some false) ((edu_named.f a0).bind fun t466=>cond (decide (a0 = t466)) ((name_User.f k a0.fUser).bind fun t469=>cond t469 ((edu_Local_1.f a0.fTick).bind fun t472=>cond t472 ((edu_Local_1.f a0.fStamp).bind fun t475=>some t475) (some false)) (some false)) (some false)))))
def dag_Dag_Event.f (a0:DDag) (a1:ByteArray):Option (Event×Bool):=(dag_Dag_Has.f a0 a1).bind fun t478=>cond (!t478) (some ((⟨(⟨#[]⟩:ByteArray),(⟨#[]⟩:ByteArray),([]:List ByteArray),(⟨#[]⟩:ByteArray),(⟨#[]⟩:ByteArray),0⟩:Event),false)) (grd ((mget a0.fnodes a1).isSome = true) ((dag_own.f (((mget a0.fnodes a1).getD default).fe)).bind fun t486=>some (t486,true)))
def view_View_Fits.f (a0:VView) (a1:ByteArray) (a2:ByteArray) (a3:ByteArray):Option (Int):=(view_View_room.f a0 a1).bind fun t488=>(dag_Dag_Event.f t488 a2).bind fun t493=>cond (!t493.2) (some 4) (cond (decide (a3 = (⟨#[]⟩:ByteArray))) (cond (decide (a3 = (⟨#[]⟩:ByteArray))) (some 0) (some 7)) (cond (decide (a3 = (⟨#[109,97,105,110]⟩:ByteArray))) (cond (decide (t493.1.fThread = (⟨#[]⟩:ByteArray))) (cond (decide (t493.1.fThread = (⟨#[]⟩:ByteArray))) (some 0) (some 7)) (cond (decide (a3 = a2)) (cond (decide (a3 = a2)) (some 0) (some 7)) (cond (decide (a3 = t493.1.fThread)) (some 0) (some 7)))) (cond (decide (a3 = a2)) (cond (decide (a3 = a2)) (some 0) (some 7)) (cond (decide (a3 = t493.1.fThread)) (some 0) (some 7)))))
def slices_Index_Edu.l0 (k:Nat) (a0:List Edu) (a1:Edu):Nat→Int→Option ((Int×Bool) ⊕ (Int))
 | 0,_=>none
 | j515 + 1,x511=>cond (decide (x511 < (a0.length:Int))) (grd ((0:Int)≤x511∧x511 < (a0.length:Int)) (cond (decide (a1 = Edu.K.at a0 x511)) (some (.inr x511)) (slices_Index_Edu.l0 k a0 a1 j515 (w64 (x511 + 1))))) (some (.inl (x511,decide (x511 < (a0.length:Int)))))
def slices_Index_Edu.f (k:Nat) (a0:List Edu) (a1:Edu):Option (Int):=(slices_Index_Edu.l0 k a0 a1 k 0).bind (fall fun (p510:Int×Bool)=>some (-1))
def slices_Contains_Edu.f (k:Nat) (a0:List Edu) (a1:Edu):Option (Bool):=(slices_Index_Edu.f k a0 a1).bind fun t518=>some (decide (0≤t518))
def slices_Delete_Edu.f (xs:List Edu) (i j:Int):Option (List Edu):=grd ((0:Int)≤i∧i≤j∧j≤(xs.length:Int)) (some (xs.take i.toNat++xs.drop j.toNat))
def park_Park_Put.f (k:Nat) (a0:Park) (a1:Edu):Option (Edu×Bool×Park):=(slices_Contains_Edu.f k a0.fl a1).bind fun t524=>cond t524 (some ((⟨0,(⟨#[]⟩:ByteArray),(⟨#[]⟩:ByteArray),(⟨#[]⟩:ByteArray),(⟨#[]⟩:ByteArray),false,false,0,0,0,0⟩:Edu),false,a0)) (grd (a0.fl.length + ([a1]:List Edu).length≤9223372036854775807∧(a0.fl.length + ([a1]:List Edu).length) * 112≤140737488355328) (cond (decide (((a0.fl++([a1]:List Edu)).length:Int)≤a0.fmost)) (some ((⟨0,(⟨#[]⟩:ByteArray),(⟨#[]⟩:ByteArray),(⟨#[]⟩:ByteArray),(⟨#[]⟩:ByteArray),false,false,0,0,0,0⟩:Edu),false,(⟨a0.fmost,a0.fl++([a1]:List Edu),a0.flost⟩:Park))) (grd ((0:Int)≤0∧0 < ((a0.fl++([a1]:List Edu)).length:Int)) ((slices_Delete_Edu.f (a0.fl++([a1]:List Edu)) 0 1).bind fun t533=>some ((a0.fl++([a1]:List Edu)).getD ((0:Int).toNat) default,true,(⟨a0.fmost,t533,w64 (a0.flost + 1)⟩:Park))))))
def cmp_Or_int.l0 (k:Nat) (a0:List Int):Nat→Int→Option ((Int×Bool) ⊕ (Int))
 | 0,_=>none
 | j541 + 1,x537=>cond (decide (x537 < (a0.length:Int))) (grd ((0:Int)≤x537∧x537 < (a0.length:Int)) (cond (((intK .i64).at a0 x537) != 0) (some (.inr ((intK .i64).at a0 x537))) (cmp_Or_int.l0 k a0 j541 (w64 (x537 + 1))))) (some (.inl (x537,decide (x537 < (a0.length:Int)))))
def cmp_Or_int.f (k:Nat) (a0:List Int):Option (Int):=(cmp_Or_int.l0 k a0 k 0).bind (fall fun (p536:Int×Bool)=>some 0)
def cmp_isNaN_string.f (a0:ByteArray):Option (Bool):=some (!decide (a0 = a0))
def cmp_Compare_string.f (a0:ByteArray) (a1:ByteArray):Option (Int):=(cmp_isNaN_string.f a0).bind fun t543=>(cmp_isNaN_string.f a1).bind fun t545=>cond t543 (cond t545 (some 0) (some (-1))) (cond t545 (some 1) (cond (sLt a0 a1) (some (-1)) (cond (sLt a1 a0) (some 1) (some 0))))
def cmp_isNaN_int.f (a0:Int):Option (Bool):=some (a0 != a0)
def cmp_Compare_int.f (a0:Int) (a1:Int):Option (Int):=(cmp_isNaN_int.f a0).bind fun t552=>(cmp_isNaN_int.f a1).bind fun t554=>cond t552 (cond t554 (some 0) (some (-1))) (cond t554 (some 1) (cond (decide (a0 < a1)) (some (-1)) (cond (decide (a1 < a0)) (some 1) (some 0))))
def dag_Compare.f (k:Nat) (a0:Pos) (a1:Pos):Option (Int):=(cmp_Compare_int.f a0.fDepth a1.fDepth).bind fun t563=>(cmp_Compare_string.f a0.fID a1.fID).bind fun t565=>(cmp_Or_int.f k ([t563,t565]:List Int)).bind fun t567=>some t567
def receipt_Table_Put.f (k:Nat) (a0:RTab) (a1:RKey) (a2:Pos):Option (Bool×RTab):=cond ((mget a0.fat a1).isSome) ((dag_Compare.f k ((mget a0.fat a1).getD (⟨0,(⟨#[]⟩:ByteArray)⟩:Pos)) a2).bind fun t575=>cond (decide (0≤t575)) (some (false,a0)) (some (true,(⟨mput a0.fat a1 a2⟩:RTab)))) (some (true,(⟨mput a0.fat a1 a2⟩:RTab)))
def marks_Marks_Put.f (k:Nat) (a0:Mks) (a1:VView) (a2:Edu):Option (Bool×Int×Mks):=cond (a2.fKind != 1) (some (false,1,a0)) ((edu_Local.f k a2).bind fun t582=>cond (!t582) (some (false,1,a0)) ((view_View_Fits.f a1 a2.fRoom a2.fEvent a2.fThread).bind fun t587=>cond (t587 == 4) ((park_Park_Put.f k a0.fwaits a2).bind fun t592=>some (false,0,(⟨a0.fTable,t592.2.2⟩:Mks))) (cond (t587 == 0) ((view_View_Position.f a1 a2.fRoom a2.fEvent).bind fun t595=>(marks_Of.f a2).bind fun t600=>(receipt_Table_Put.f k a0.fTable t600 t595.1).bind fun t602=>some (t602.1,0,(⟨t602.2,a0.fwaits⟩:Mks))) (some (false,t587,a0)))))
def park_apart_Edu.l0 (k:Nat) (a0:List Edu) (a1:Edu→Option Bool):Nat→Int→List Edu→List Edu→Option (Int×Bool×(List Edu)×(List Edu))
 | 0,_,_,_=>none
 | j622 + 1,x607,x608,x609=>cond (decide (x607 < (a0.length:Int))) (grd ((0:Int)≤x607∧x607 < (a0.length:Int)) ((a1 (Edu.K.at a0 x607)).bind fun t615=>cond t615 (grd (x608.length + ([Edu.K.at a0 x607]:List Edu).length≤9223372036854775807∧(x608.length + ([Edu.K.at a0 x607]:List Edu).length) * 112≤140737488355328) (park_apart_Edu.l0 k a0 a1 j622 (w64 (x607 + 1)) (x608++([Edu.K.at a0 x607]:List Edu)) x609)) (grd (x609.length + ([Edu.K.at a0 x607]:List Edu).length≤9223372036854775807∧(x609.length + ([Edu.K.at a0 x607]:List Edu).length) * 112≤140737488355328) (park_apart_Edu.l0 k a0 a1 j622 (w64 (x607 + 1)) x608 (x609++([Edu.K.at a0 x607]:List Edu)))))) (some (x607,decide (x607 < (a0.length:Int)),x608,x609))
def park_apart_Edu.f (k:Nat) (a0:List Edu) (a1:Edu→Option Bool):Option ((List Edu)×(List Edu)):=(park_apart_Edu.l0 k a0 a1 k 0 ([]:List Edu) ([]:List Edu)).bind fun (p604:Int×Bool×(List Edu)×(List Edu))=>some (p604.2.2.1,p604.2.2.2)
def park_Park_Take_1.f (a0:Edu) (c0:ByteArray) (c1:ByteArray):Option (Bool):=cond (decide (a0.fRoom = c0)) (some (decide (a0.fEvent = c1))) (some false)
def park_Park_Take.f (k:Nat) (a0:Park) (a1:ByteArray) (a2:ByteArray):Option ((List Edu)×Park):=(park_apart_Edu.f k a0.fl (fun a0_=>park_Park_Take_1.f a0_ a1 a2)).bind fun t631=>some (t631.1,(⟨a0.fmost,t631.2,a0.flost⟩:Park))
def slices_Index_Key.l0 (k:Nat) (a0:List RKey) (a1:RKey):Nat→Int→Option ((Int×Bool) ⊕ (Int))
 | 0,_=>none
 | j640 + 1,x636=>cond (decide (x636 < (a0.length:Int))) (grd ((0:Int)≤x636∧x636 < (a0.length:Int)) (cond (decide (a1 = RKey.K.at a0 x636)) (some (.inr x636)) (slices_Index_Key.l0 k a0 a1 j640 (w64 (x636 + 1))))) (some (.inl (x636,decide (x636 < (a0.length:Int)))))
def slices_Index_Key.f (k:Nat) (a0:List RKey) (a1:RKey):Option (Int):=(slices_Index_Key.l0 k a0 a1 k 0).bind (fall fun (p635:Int×Bool)=>some (-1))
def slices_Contains_Key.f (k:Nat) (a0:List RKey) (a1:RKey):Option (Bool):=(slices_Index_Key.f k a0 a1).bind fun t643=>some (decide (0≤t643))
def marks_Marks_Arrive.l0 (k:Nat) (a1:VView) (t656:(List Edu)×Park):Nat→Int→Mks→List RKey→Option (Int×Int×Bool×Mks×(List RKey)×(List Edu))
 | 0,_,_,_=>none
 | j680 + 1,x659,x660,x661=>cond (decide (x659 < (t656.1.length:Int))) (grd ((0:Int)≤x659∧x659 < (t656.1.length:Int)) ((marks_Marks_Put.f k x660 a1 (t656.1.getD x659.toNat default)).bind fun t667=>cond t667.1 ((marks_Of.f (t656.1.getD x659.toNat default)).bind fun t670=>(slices_Contains_Key.f k x661 t670).bind fun t672=>cond (!t672) ((marks_Of.f (t656.1.getD x659.toNat default)).bind fun t675=>grd (x661.length + ([t675]:List RKey).length≤9223372036854775807∧(x661.length + ([t675]:List RKey).length) * 56≤140737488355328) (marks_Marks_Arrive.l0 k a1 t656 j680 (w64 (x659 + 1)) t667.2.2 (x661++([t675]:List RKey)))) (marks_Marks_Arrive.l0 k a1 t656 j680 (w64 (x659 + 1)) t667.2.2 x661)) (marks_Marks_Arrive.l0 k a1 t656 j680 (w64 (x659 + 1)) t667.2.2 x661))) (some ((t656.1.length:Int),x659,decide (x659 < (t656.1.length:Int)),x660,x661,t656.1))
def marks_Marks_Arrive.f (k:Nat) (a0:Mks) (a1:VView) (a2:ByteArray) (a3:ByteArray):Option ((List RKey)×Mks):=(view_View_Position.f a1 a2 a3).bind fun t647=>cond (!t647.2) (some (([]:List RKey),a0)) (((park_Park_Take.f k a0.fwaits a2 a3).bind fun t656=>marks_Marks_Arrive.l0 k a1 t656 k 0 (⟨a0.fTable,t656.2⟩:Mks) ([]:List RKey)).bind fun (p651:Int×Int×Bool×Mks×(List RKey)×(List Edu))=>some (p651.2.2.2.2.1,p651.2.2.2.1))
def clock_Counter_Add.l0 (k:Nat) (a0:Ctr) (a1:Int):Nat→Option (Int×Int×Ctr)
 | 0=>none
 | j703 + 1=>cond (decide (0 < a1)) (cond (a0.fn.fv == a0.fmost) (some (0,11,a0)) ((cond (decide (a1 < (w64 (a0.fmost - a0.fn.fv)))) (some (w64 (a0.fn.fv + a1))) (some a0.fmost)).bind fun (p688:Int)=>cond (a1 == 0) (some (p688,0,a0)) (some (p688,0,(⟨(⟨p688⟩:AtI),a0.fmost⟩:Ctr))))) ((cond (decide (a1 < (w64 (a0.fmost - a0.fn.fv)))) (some (w64 (a0.fn.fv + a1))) (some a0.fmost)).bind fun (p696:Int)=>cond (a1 == 0) (some (p696,0,a0)) (some (p696,0,(⟨(⟨p696⟩:AtI),a0.fmost⟩:Ctr))))
def clock_Counter_Add.f (k:Nat) (a0:Ctr) (a1:Int):Option (Int×Int×Ctr):=cond (decide (a1 < 0)) (some (0,1,a0)) (clock_Counter_Add.l0 k a0 a1 k)
def clock_Counter_Next.f (k:Nat) (a0:Ctr):Option (Int×Int×Ctr):=(clock_Counter_Add.f k a0 1).bind fun t705=>some (t705.1,t705.2.1,t705.2.2)
def slices_Index_string.l0 (k:Nat) (a0:List ByteArray) (a1:ByteArray):Nat→Int→Option ((Int×Bool) ⊕ (Int))
 | 0,_=>none
 | j712 + 1,x708=>cond (decide (x708 < (a0.length:Int))) (grd ((0:Int)≤x708∧x708 < (a0.length:Int)) (cond (decide (a1 = (strK.at a0 x708))) (some (.inr x708)) (slices_Index_string.l0 k a0 a1 j712 (w64 (x708 + 1))))) (some (.inl (x708,decide (x708 < (a0.length:Int)))))
def slices_Index_string.f (k:Nat) (a0:List ByteArray) (a1:ByteArray):Option (Int):=(slices_Index_string.l0 k a0 a1 k 0).bind (fall fun (p707:Int×Bool)=>some (-1))
def slices_Delete_string.f (xs:List ByteArray) (i j:Int):Option (List ByteArray):=grd ((0:Int)≤i∧i≤j∧j≤(xs.length:Int)) (some (xs.take i.toNat++xs.drop j.toNat))
def delta_Log_Touch.f (k:Nat) (a0:DLog) (a1:ByteArray):Option (Int×Int×DLog):=(clock_Counter_Next.f k a0.fat).bind fun t716=>cond (t716.2.1 != 0) (some (0,t716.2.1,(⟨t716.2.2,a0.fkeys,a0.fpos⟩:DLog))) ((cond ((mget a0.fpos a1).isSome) ((slices_Index_string.f k a0.fkeys a1).bind fun t725=>(slices_Delete_string.f a0.fkeys t725 (w64 (t725 + 1))).bind fun t727=>some (⟨t716.2.2,t727,a0.fpos⟩:DLog)) (some (⟨t716.2.2,a0.fkeys,a0.fpos⟩:DLog))).bind fun (p719:DLog)=>grd (p719.fkeys.length + ([a1]:List ByteArray).length≤9223372036854775807∧(p719.fkeys.length + ([a1]:List ByteArray).length) * 16≤140737488355328) (some (t716.1,0,(⟨p719.fat,p719.fkeys++([a1]:List ByteArray),mput p719.fpos a1 t716.1⟩:DLog))))
def server_Server_note.f (k:Nat) (a0:SSelTicStaAllComSen) (a1:ByteArray):Option (SSelTicStaAllComSen):=(delta_Log_Touch.f k a0.fall.fLog a1).bind fun t732=>some (⟨a0.fself,a0.ftick,a0.fstamps,(⟨a0.fall.fView,a0.fall.fMarks,a0.fall.fTyping,a0.fall.fPresence,t732.2.2⟩:Src),a0.fcome,a0.fsenders⟩:SSelTicStaAllComSen)
def strings_Join.f (xs:List ByteArray) (sep:ByteArray):Option ByteArray:=grd (xs.length≤140737488355328∧(Lib.join (xs.map (·.data.toList)) sep.data.toList).length≤140737488355328) (some ⟨(Lib.join (xs.map (·.data.toList)) sep.data.toList).toArray⟩)
def sync_MarkKey.f (a0:RKey):Option (ByteArray):=cond a0.fPrivate ((strings_Join.f ([(⟨#[109]⟩:ByteArray),a0.fRoom,a0.fUser,a0.fThread,(⟨#[49]⟩:ByteArray)]:List ByteArray) (⟨#[32]⟩:ByteArray)).bind fun t736=>some t736) ((strings_Join.f ([(⟨#[109]⟩:ByteArray),a0.fRoom,a0.fUser,a0.fThread,(⟨#[48]⟩:ByteArray)]:List ByteArray) (⟨#[32]⟩:ByteArray)).bind fun t738=>some t738)
def server_Server_Event.l0 (k:Nat) (t748:(List RKey)×Mks):Nat→Int→SSelTicStaAllComSen→Option (Int×Int×Bool×SSelTicStaAllComSen×(List RKey))
 | 0,_,_=>none
 | j761 + 1,x751,x752=>cond (decide (x751 < (t748.1.length:Int))) (grd ((0:Int)≤x751∧x751 < (t748.1.length:Int)) ((sync_MarkKey.f (t748.1.getD x751.toNat default)).bind fun t757=>(server_Server_note.f k x752 t757).bind fun t759=>server_Server_Event.l0 k t748 j761 (w64 (x751 + 1)) t759)) (some ((t748.1.length:Int),x751,decide (x751 < (t748.1.length:Int)),x752,t748.1))
def server_Server_Event.f (k:Nat) (a0:SSelTicStaAllComSen) (a1:Event):Option (Int×SSelTicStaAllComSen):=(view_View_Add.f k a0.fall.fView a1).bind fun t743=>cond (t743.1 != 0) (some (t743.1,(⟨a0.fself,a0.ftick,a0.fstamps,(⟨t743.2,a0.fall.fMarks,a0.fall.fTyping,a0.fall.fPresence,a0.fall.fLog⟩:Src),a0.fcome,a0.fsenders⟩:SSelTicStaAllComSen))) (((marks_Marks_Arrive.f k a0.fall.fMarks t743.2 a1.fRoom a1.fID).bind fun t748=>server_Server_Event.l0 k t748 k 0 (⟨a0.fself,a0.ftick,a0.fstamps,(⟨t743.2,t748.2,a0.fall.fTyping,a0.fall.fPresence,a0.fall.fLog⟩:Src),a0.fcome,a0.fsenders⟩:SSelTicStaAllComSen)).bind fun (p746:Int×Int×Bool×SSelTicStaAllComSen×(List RKey))=>some (0,p746.2.2.2.1))
def posC (x y:Pos):Int:=if x.fDepth < y.fDepth then -1 else if y.fDepth < x.fDepth then 1 else cmpS x.fID y.fID
def slices_SortFunc_Position.f (xs:List Pos):Option (List Pos):=grd (xs.length≤1000000) (some (srtF posC xs))
def dag_Dag_All_1.f (a0:DNode):Option (Bool):=some true
def dag_Dag_ids_All.g (e:ByteArray×DNode):Option Pos:=cond true (some ⟨e.2.fdepth,e.1⟩) none
def dag_Dag_ids_All.f (a0:DDag):Option (List ByteArray):=grd (a0.fnodes.length≤1000000) (some ((srtF posC (a0.fnodes.filterMap dag_Dag_ids_All.g)).map (·.fID)))
def dag_Dag_All.l0 (k:Nat) (a0:DDag) (t767:List ByteArray):Nat→Int→List Event→Option (Int×Int×Bool×(List Event)×(List ByteArray))
 | 0,_,_=>none
 | j785 + 1,x770,x771=>cond (decide (x770 < (t767.length:Int))) (grd ((0:Int)≤x770∧x770 < (t767.length:Int)) (grd ((mget a0.fnodes (t767.getD x770.toNat default)).isSome = true) ((dag_own.f (((mget a0.fnodes (t767.getD x770.toNat default)).getD default).fe)).bind fun t781=>grd (x771.length + ([t781]:List Event).length≤9223372036854775807∧(x771.length + ([t781]:List Event).length) * 96≤140737488355328) (dag_Dag_All.l0 k a0 t767 j785 (w64 (x770 + 1)) (x771++([t781]:List Event)))))) (some ((t767.length:Int),x770,decide (x770 < (t767.length:Int)),x771,t767))
def dag_Dag_All.f (k:Nat) (a0:DDag):Option ((List Event)):=((dag_Dag_ids_All.f a0).bind fun t767=>dag_Dag_All.l0 k a0 t767 k 0 ([]:List Event)).bind fun (p764:Int×Int×Bool×(List Event)×(List ByteArray))=>some p764.2.2.2.1
def member_joined.l0 (k:Nat) (t791:(List Event)):Nat→Int→(List (ByteArray×Int))→Option (Int×Int×Bool×(List (ByteArray×Int))×(List Event))
 | 0,_,_=>none
 | j802 + 1,x794,x795=>cond (decide (x794 < (t791.length:Int))) (grd ((0:Int)≤x794∧x794 < (t791.length:Int)) (cond (((t791.getD x794.toNat default).fDoes) == 1) (member_joined.l0 k t791 j802 (w64 (x794 + 1)) (mput x795 ((t791.getD x794.toNat default).fUser) 1)) (cond (((t791.getD x794.toNat default).fDoes) == 2) (member_joined.l0 k t791 j802 (w64 (x794 + 1)) (mdel x795 ((t791.getD x794.toNat default).fUser))) (member_joined.l0 k t791 j802 (w64 (x794 + 1)) x795)))) (some ((t791.length:Int),x794,decide (x794 < (t791.length:Int)),x795,t791))
def member_joined.f (k:Nat) (a0:DDag):Option ((List (ByteArray×Int))):=((dag_Dag_All.f k a0).bind fun t791=>member_joined.l0 k t791 k 0 ([]:List (ByteArray×Int))).bind fun (p789:Int×Int×Bool×(List (ByteArray×Int))×(List Event))=>some p789.2.2.2.1
def member_Joined.f (k:Nat) (a0:DDag) (a1:ByteArray):Option (Bool):=(member_joined.f k a0).bind fun t805=>some (decide (0 < ((mget t805 a1).getD 0)))
def view_View_Joined.f (k:Nat) (a0:VView) (a1:ByteArray) (a2:ByteArray):Option (Bool):=(view_View_room.f a0 a1).bind fun t808=>(member_Joined.f k t808 a2).bind fun t813=>some t813
def name_Home.f (k:Nat) (a0:ByteArray):Option (ByteArray):=(name_User.f k a0).bind fun t815=>cond (!t815) ((name_Room.f k a0).bind fun t818=>cond (!t818) (some (⟨#[]⟩:ByteArray)) ((strings_Cut.f a0 (⟨#[58]⟩:ByteArray)).bind fun t821=>some t821.2.1)) ((strings_Cut.f a0 (⟨#[58]⟩:ByteArray)).bind fun t824=>some t824.2.1)
def slices_DeleteFunc_string_xo.l0 (k:Nat) (a1:(ByteArray→Option Bool)):Nat→Int→Int→List ByteArray→Option (Int×Int×Bool×(List ByteArray))
 | 0,_,_,_=>none
 | j846 + 1,x835,x836,x837=>cond (decide (x836 < (x837.length:Int))) (grd ((0:Int)≤x836∧x836 < (x837.length:Int)) ((a1 (x837.getD x836.toNat default)).bind fun t841=>cond (!t841) (grd ((0:Int)≤x835∧x835 < (x837.length:Int)) (slices_DeleteFunc_string_xo.l0 k a1 j846 (w64 (x835 + 1)) (w64 (x836 + 1)) (x837.set x835.toNat (x837.getD x836.toNat default)))) (slices_DeleteFunc_string_xo.l0 k a1 j846 x835 (w64 (x836 + 1)) x837))) (some (x835,x836,decide (x836 < (x837.length:Int)),x837))
def slices_DeleteFunc_string_xo.f (k:Nat) (a0:List ByteArray) (a1:(ByteArray→Option Bool)):Option ((List ByteArray)):=(slices_IndexFunc_string_xw.f k a0 a1).bind fun t826=>cond (t826 == (-1)) (some a0) ((slices_DeleteFunc_string_xo.l0 k a1 k t826 (w64 (t826 + 1)) a0).bind fun (p829:Int×Int×Bool×(List ByteArray))=>grd ((0:Int)≤p829.1∧p829.1.toNat < p829.2.2.2.length) (grd ((0:Int)≤p829.1∧0≤p829.1.toNat∧p829.1.toNat≤(p829.2.2.2.take p829.1.toNat++List.replicate (p829.2.2.2.length - p829.1.toNat) (⟨#[]⟩:ByteArray)).length) (some (((p829.2.2.2.take p829.1.toNat++List.replicate (p829.2.2.2.length - p829.1.toNat) (⟨#[]⟩:ByteArray)).take p829.1.toNat).drop 0))))
def slices_Sort_string.f (xs:List ByteArray):Option (List ByteArray):=grd (xs.length < 4611686018427387904) (some (srtS xs))
def view_View_Rooms.f (a0:VView):Option (List ByteArray):=grd (a0.fdags.length≤1000000) (some (srtS (a0.fdags.map (·.1))))
def view_View_RoomsOf_1.f (k:Nat) (a0:ByteArray) (c0:VView) (c1:ByteArray):Option (Bool):=(view_View_Joined.f k c0 a0 c1).bind fun t848=>some (!t848)
def view_View_RoomsOf.f (k:Nat) (a0:VView) (a1:ByteArray):Option ((List ByteArray)):=(view_View_Rooms.f a0).bind fun t854=>(slices_DeleteFunc_string_xo.f k t854 (fun a0_=>view_View_RoomsOf_1.f k a0_ a0 a1)).bind fun t857=>some t857
def receipt_Table_Get.f (a0:RTab) (a1:RKey):Option (Pos×Bool):=some ((mget a0.fat a1).getD (⟨0,(⟨#[]⟩:ByteArray)⟩:Pos),(mget a0.fat a1).isSome)
def server_Server_old.f (k:Nat) (a0:SSelTicStaAllComSen) (a1:Edu):Option (Int):=(view_View_Fits.f a0.fall.fView a1.fRoom a1.fEvent a1.fThread).bind fun t870=>cond (t870 != 0) (some t870) ((view_View_Position.f a0.fall.fView a1.fRoom a1.fEvent).bind fun t873=>(receipt_New.f).bind fun t876=>(marks_Of.f a1).bind fun t881=>(receipt_Table_Get.f a0.fall.fMarks.fTable t881).bind fun t883=>cond t883.2 ((marks_Of.f a1).bind fun t887=>(receipt_Table_Put.f k t876 t887 t883.1).bind fun t889=>(marks_Of.f a1).bind fun t891=>(receipt_Table_Put.f k t889.2 t891 t873.1).bind fun t893=>cond (!t893.1) (some 8) (some 0)) ((marks_Of.f a1).bind fun t896=>(receipt_Table_Put.f k t876 t896 t873.1).bind fun t898=>cond (!t898.1) (some 8) (some 0)))
def clock_Counter_Most.f (a0:Ctr):Option (Int):=some a0.fmost
def delta_Log_Room.f (a0:DLog):Option (Int):=(clock_Counter_Most.f a0.fat).bind fun t905=>(clock_Counter_At.f a0.fat).bind fun t907=>some (w64 (t905 - t907))
def server_Server_refuses.f (k:Nat) (a0:SSelTicStaAllComSen) (a1:Edu):Option (Int):=((edu_Local.f k a1).bind fun t929=>cond (!t929) (some (.inr 1)) ((name_Home.f k a1.fUser).bind fun t934=>cond (!decide (t934 = a0.fself)) (some (.inr 6)) (cond (a1.fKind == 3) ((view_View_RoomsOf.f k a0.fall.fView a1.fUser).bind fun t938=>cond ((t938.length:Int) == 0) (cond ((t938.length:Int) == 0) (some (.inr 5)) (some (.inl (!t929,!decide (t934 = a0.fself),((t938.length:Int) == 0))))) (cond (a1.fKind != 3) ((view_View_Joined.f k a0.fall.fView a1.fRoom a1.fUser).bind fun t946=>cond (!t946) (some (.inr 5)) (some (.inl (!t929,!decide (t934 = a0.fself),!t946)))) (some (.inl (!t929,!decide (t934 = a0.fself),false))))) (cond (a1.fKind != 3) ((view_View_Joined.f k a0.fall.fView a1.fRoom a1.fUser).bind fun t954=>cond (!t954) (some (.inr 5)) (some (.inl (!t929,!decide (t934 = a0.fself),!t954)))) (some (.inl (!t929,!decide (t934 = a0.fself),false))))))).bind (fall fun (p910:Bool×Bool×Bool)=>(cond (a1.fKind == 1) ((server_Server_old.f k a0 a1).bind fun t926=>cond (t926 != 0) (some (.inr t926)) (some (.inl ()))) (some (.inl ()))).bind (fall fun (p911:Unit)=>(clock_Counter_At.f a0.fstamps).bind fun t916=>(clock_Counter_Most.f a0.fstamps).bind fun t918=>cond (t916 == t918) (some 11) ((delta_Log_Room.f a0.fall.fLog).bind fun t922=>cond (t922 == 0) (some 11) (some 0))))
def edu_May.f (k:Nat) (a0:Edu):Option (Bool):=(edu_Local.f k a0).bind fun t959=>cond t959 (some (!a0.fPrivate)) (some false)
def edu_Of.f (a0:Edu):Option (EKey):=some (⟨a0.fKind,a0.fRoom,a0.fUser,a0.fThread,a0.fPrivate⟩:EKey)
def lay_Number.l0 (k:Nat):Nat→Int→List Int→Option (Int×Bool×(List Int))
 | 0,_,_=>none
 | j976 + 1,x970,x971=>cond (decide (128≤x970)) (grd (x971.length + ([IntKind.u8.wrap (w64 ((x970.tmod 128) + 128))]:List Int).length≤9223372036854775807∧(x971.length + ([IntKind.u8.wrap (w64 ((x970.tmod 128) + 128))]:List Int).length) * 1≤140737488355328) (lay_Number.l0 k j976 (w64 (x970.tdiv 128)) (x971++([IntKind.u8.wrap (w64 ((x970.tmod 128) + 128))]:List Int)))) (some (x970,decide (128≤x970),x971))
def lay_Number.f (k:Nat) (a0:List Int) (a1:Int):Option ((List Int)):=grd ((0:Int)≤(a0.length:Int)∧0≤(a0.length:Int).toNat∧(a0.length:Int).toNat≤a0.length) ((lay_Number.l0 k k (max a1 0) ((a0.take ((a0.length:Int).toNat)).drop 0)).bind fun (p966:Int×Bool×(List Int))=>grd (p966.2.2.length + ([IntKind.u8.wrap (p966.1)]:List Int).length≤9223372036854775807∧(p966.2.2.length + ([IntKind.u8.wrap (p966.1)]:List Int).length) * 1≤140737488355328) (some (p966.2.2++([IntKind.u8.wrap (p966.1)]:List Int))))
def lay_Flag.f (k:Nat) (a0:List Int) (a1:Bool):Option ((List Int)):=cond a1 ((lay_Number.f k a0 1).bind fun t980=>some t980) ((lay_Number.f k a0 0).bind fun t983=>some t983)
def lay_Text.f (k:Nat) (a0:List Int) (a1:ByteArray):Option ((List Int)):=(lay_Number.f k a0 (a1.size:Int)).bind fun t986=>grd (t986.length + (strBs a1).length≤9223372036854775807∧(t986.length + (strBs a1).length) * 1≤140737488355328) (some (t986++(strBs a1)))
def edu_laid.l0 (k:Nat) (a0:Edu):Nat→Int→List Int→Option (Int×Bool×(List Int))
 | 0,_,_=>none
 | j1010 + 1,x1002,x1003=>cond (decide (x1002 < (([a0.fSpan,a0.fState,a0.fTick,a0.fStamp]:List Int).length:Int))) (grd ((0:Int)≤x1002∧x1002 < (([a0.fSpan,a0.fState,a0.fTick,a0.fStamp]:List Int).length:Int)) ((lay_Number.f k x1003 ((intK .i64).at ([a0.fSpan,a0.fState,a0.fTick,a0.fStamp]:List Int) x1002)).bind fun t1007=>edu_laid.l0 k a0 j1010 (w64 (x1002 + 1)) t1007)) (some (x1002,decide (x1002 < (([a0.fSpan,a0.fState,a0.fTick,a0.fStamp]:List Int).length:Int)),x1003))
def edu_laid.l1 (k:Nat) (a0:Edu):Nat→Int→List Int→Option (Int×Bool×(List Int))
 | 0,_,_=>none
 | j1021 + 1,x1013,x1014=>cond (decide (x1013 < (([a0.fRoom,a0.fUser,a0.fEvent,a0.fThread]:List ByteArray).length:Int))) (grd ((0:Int)≤x1013∧x1013 < (([a0.fRoom,a0.fUser,a0.fEvent,a0.fThread]:List ByteArray).length:Int)) ((lay_Text.f k x1014 (strK.at ([a0.fRoom,a0.fUser,a0.fEvent,a0.fThread]:List ByteArray) x1013)).bind fun t1018=>edu_laid.l1 k a0 j1021 (w64 (x1013 + 1)) t1018)) (some (x1013,decide (x1013 < (([a0.fRoom,a0.fUser,a0.fEvent,a0.fThread]:List ByteArray).length:Int)),x1014))
def edu_laid.f (k:Nat) (a0:Edu):Option ((List Int)):=(lay_Number.f k ([]:List Int) a0.fKind).bind fun t992=>(edu_laid.l1 k a0 k 0 t992).bind fun (p995:Int×Bool×(List Int))=>(lay_Flag.f k p995.2.2 a0.fOn).bind fun t997=>(edu_laid.l0 k a0 k 0 t997).bind fun (p1000:Int×Bool×(List Int))=>some p1000.2.2
def bytes_Compare.f (a0:List Int) (a1:List Int):Option (Int):=some (cmpB a0 a1)
def edu_Compare.f (k:Nat) (a0:Edu) (a1:Edu):Option (Int):=(cmp_Compare_int.f a0.fStamp a1.fStamp).bind fun t1026=>(edu_laid.f k a0).bind fun t1028=>(edu_laid.f k a1).bind fun t1031=>(bytes_Compare.f t1028 t1031).bind fun t1034=>(cmp_Or_int.f k ([t1026,t1034]:List Int)).bind fun t1036=>some t1036
def edu_Later.f (k:Nat) (a0:Edu) (a1:Edu):Option (Bool):=(edu_Of.f a0).bind fun t1040=>(edu_Of.f a1).bind fun t1042=>cond (decide (t1040 = t1042)) ((edu_Compare.f k a0 a1).bind fun t1045=>some (decide (0 < t1045))) (some false)
def slices_BinarySearchFunc_Edu_Edu.l0 (k:Nat) (a0:List Edu) (a1:Edu) (a2:Edu→Edu→Option Int):Nat→Int→Int→Option (Int×Int×Bool)
 | 0,_,_=>none
 | j1060 + 1,x1053,x1054=>cond (decide (x1053 < x1054)) (grd ((0:Int)≤(w64 ((IntKind.u64.wrap (w64 (x1053 + x1054))).fdiv 2))∧(w64 ((IntKind.u64.wrap (w64 (x1053 + x1054))).fdiv 2)) < (a0.length:Int)) ((a2 (Edu.K.at a0 (w64 ((IntKind.u64.wrap (w64 (x1053 + x1054))).fdiv 2))) a1).bind fun t1057=>cond (decide (t1057 < 0)) (slices_BinarySearchFunc_Edu_Edu.l0 k a0 a1 a2 j1060 (w64 ((w64 ((IntKind.u64.wrap (w64 (x1053 + x1054))).fdiv 2)) + 1)) x1054) (slices_BinarySearchFunc_Edu_Edu.l0 k a0 a1 a2 j1060 x1053 (w64 ((IntKind.u64.wrap (w64 (x1053 + x1054))).fdiv 2))))) (some (x1053,x1054,decide (x1053 < x1054)))
def slices_BinarySearchFunc_Edu_Edu.f (k:Nat) (a0:List Edu) (a1:Edu) (a2:Edu→Edu→Option Int):Option (Int×Bool):=(slices_BinarySearchFunc_Edu_Edu.l0 k a0 a1 a2 k 0 (a0.length:Int)).bind fun (p1048:Int×Int×Bool)=>cond (decide (p1048.1 < (a0.length:Int))) (grd ((0:Int)≤p1048.1∧p1048.1 < (a0.length:Int)) ((a2 (Edu.K.at a0 p1048.1) a1).bind fun t1051=>some (p1048.1,(t1051 == 0)))) (some (p1048.1,false))
def typing_Table_place_1.f (k:Nat) (a0:Edu) (a1:Edu):Option (Int):=(cmp_Compare_string.f a0.fRoom a1.fRoom).bind fun t1064=>(cmp_Compare_string.f a0.fUser a1.fUser).bind fun t1066=>(cmp_Or_int.f k ([t1064,t1066]:List Int)).bind fun t1068=>some t1068
def typing_Table_place.f (k:Nat) (a0:TTab) (a1:Edu):Option (Int×Bool):=(slices_BinarySearchFunc_Edu_Edu.f k a0.fl a1 (typing_Table_place_1.f k)).bind fun t1071=>some (t1071.1,t1071.2)
def slices_Insert_Edu.f (xs:List Edu) (i:Int) (ys:List Edu):Option (List Edu):=grd ((0:Int)≤i∧i≤(xs.length:Int)∧0 < ys.length∧xs.length + ys.length≤4611686018427387904∧(xs.length + ys.length) * 112≤140737488355328) (some (xs.take i.toNat++ys++xs.drop i.toNat))
def heap_Heap_set.f (a0:HHeap) (a1:Int) (a2:HEnt):Option (HHeap):=grd ((0:Int)≤a1∧a1 < (a0.fl.length:Int)) (some (⟨a0.fl.set a1.toNat a2,mput a0.fat a2.fKey a1⟩:HHeap))
def heap_ahead.f (k:Nat) (a0:HEnt) (a1:HEnt):Option (Int):=(cmp_Compare_int.f a0.fAt a1.fAt).bind fun t1085=>(cmp_Compare_string.f a0.fKey a1.fKey).bind fun t1087=>(cmp_Or_int.f k ([t1085,t1087]:List Int)).bind fun t1089=>some t1089
def heap_Heap_down.l0 (k:Nat) (a0:HHeap) (a1:Int):Nat→Int→HHeap→Option (Int×Int×Bool×Bool×HHeap)
 | 0,_,_=>none
 | j1126 + 1,x1099,x1100=>(cond (decide ((w64 ((w64 ((w64 (2 * x1099)) + 1)) + 1)) < (x1100.fl.length:Int))) (grd ((0:Int)≤(w64 ((w64 ((w64 (2 * x1099)) + 1)) + 1))∧(w64 ((w64 ((w64 (2 * x1099)) + 1)) + 1)) < (x1100.fl.length:Int)) (grd ((0:Int)≤(w64 ((w64 (2 * x1099)) + 1))∧(w64 ((w64 (2 * x1099)) + 1)) < (x1100.fl.length:Int)) ((heap_ahead.f k (x1100.fl.getD ((w64 ((w64 ((w64 (2 * x1099)) + 1)) + 1)).toNat) default) (x1100.fl.getD ((w64 ((w64 (2 * x1099)) + 1)).toNat) default)).bind fun t1122=>cond (decide (t1122 < 0)) (some (w64 ((w64 ((w64 (2 * x1099)) + 1)) + 1),decide (t1122 < 0))) (some (w64 ((w64 (2 * x1099)) + 1),decide (t1122 < 0)))))) (some (w64 ((w64 (2 * x1099)) + 1),false))).bind fun (p1101:Int×Bool)=>cond (decide ((x1100.fl.length:Int)≤p1101.1)) (some (x1099,p1101.1,p1101.2,true,x1100)) (grd ((0:Int)≤p1101.1∧p1101.1 < (x1100.fl.length:Int)) ((heap_ahead.f k (a0.fl.getD a1.toNat default) (x1100.fl.getD p1101.1.toNat default)).bind fun t1108=>cond (decide (t1108 < 0)) (some (x1099,p1101.1,p1101.2,decide (t1108 < 0),x1100)) (grd ((0:Int)≤p1101.1∧p1101.1 < (x1100.fl.length:Int)) ((heap_Heap_set.f x1100 x1099 (x1100.fl.getD p1101.1.toNat default)).bind fun t1113=>heap_Heap_down.l0 k a0 a1 j1126 p1101.1 t1113))))
def heap_Heap_down.f (k:Nat) (a0:HHeap) (a1:Int):Option (HHeap):=grd ((0:Int)≤a1∧a1 < (a0.fl.length:Int)) ((heap_Heap_down.l0 k a0 a1 k a1 a0).bind fun (p1096:Int×Int×Bool×Bool×HHeap)=>(heap_Heap_set.f p1096.2.2.2.2 p1096.1 (a0.fl.getD a1.toNat default)).bind fun t1097=>some t1097)
def heap_Heap_up.l0 (k:Nat) (a0:HHeap) (a1:Int):Nat→Int→HHeap→Option (Int×Bool×HHeap)
 | 0,_,_=>none
 | j1151 + 1,x1136,x1137=>cond (decide (0 < x1136)) (grd ((0:Int)≤(w64 ((w64 (x1136 - 1)).tdiv 2))∧(w64 ((w64 (x1136 - 1)).tdiv 2)) < (x1137.fl.length:Int)) ((heap_ahead.f k (a0.fl.getD a1.toNat default) (x1137.fl.getD ((w64 ((w64 (x1136 - 1)).tdiv 2)).toNat) default)).bind fun t1143=>cond (decide (t1143 < 0)) (grd ((0:Int)≤(w64 ((w64 (x1136 - 1)).tdiv 2))∧(w64 ((w64 (x1136 - 1)).tdiv 2)) < (x1137.fl.length:Int)) ((heap_Heap_set.f x1137 x1136 (x1137.fl.getD ((w64 ((w64 (x1136 - 1)).tdiv 2)).toNat) default)).bind fun t1148=>heap_Heap_up.l0 k a0 a1 j1151 (w64 ((w64 (x1136 - 1)).tdiv 2)) t1148)) (some (x1136,decide (t1143 < 0),x1137)))) (some (x1136,false,x1137))
def heap_Heap_up.f (k:Nat) (a0:HHeap) (a1:Int):Option (HHeap):=grd ((0:Int)≤a1∧a1 < (a0.fl.length:Int)) ((heap_Heap_up.l0 k a0 a1 k a1 a0).bind fun (p1133:Int×Bool×HHeap)=>(heap_Heap_set.f p1133.2.2 p1133.1 (a0.fl.getD a1.toNat default)).bind fun t1134=>some t1134)
def heap_Heap_Drop.f (k:Nat) (a0:HHeap) (a1:ByteArray):Option (Bool×HHeap):=cond (!((mget a0.fat a1).isSome)) (some (false,a0)) (grd ((0:Int)≤(w64 ((a0.fl.length:Int) - 1))∧(w64 ((a0.fl.length:Int) - 1)) < (a0.fl.length:Int)) (grd ((0:Int)≤(w64 ((a0.fl.length:Int) - 1))∧0≤(w64 ((a0.fl.length:Int) - 1)).toNat∧(w64 ((a0.fl.length:Int) - 1)).toNat≤a0.fl.length) (cond (decide (((mget a0.fat a1).getD 0) < (w64 ((a0.fl.length:Int) - 1)))) ((heap_Heap_set.f (⟨(a0.fl.take ((w64 ((a0.fl.length:Int) - 1)).toNat)).drop 0,mdel a0.fat a1⟩:HHeap) ((mget a0.fat a1).getD 0) (a0.fl.getD ((w64 ((a0.fl.length:Int) - 1)).toNat) default)).bind fun t1162=>(heap_Heap_down.f k t1162 ((mget a0.fat a1).getD 0)).bind fun t1164=>(heap_Heap_up.f k t1164 ((mget t1164.fat ((a0.fl.getD ((w64 ((a0.fl.length:Int) - 1)).toNat) default).fKey)).getD 0)).bind fun t1168=>some (true,t1168)) (some (true,(⟨(a0.fl.take ((w64 ((a0.fl.length:Int) - 1)).toNat)).drop 0,mdel a0.fat a1⟩:HHeap))))))
def heap_Heap_Put.f (k:Nat) (a0:HHeap) (a1:Int) (a2:ByteArray):Option (HHeap):=(heap_Heap_Drop.f k a0 a2).bind fun t1170=>grd (t1170.2.fl.length + ([(⟨a1,a2⟩:HEnt)]:List HEnt).length≤9223372036854775807∧(t1170.2.fl.length + ([(⟨a1,a2⟩:HEnt)]:List HEnt).length) * 24≤140737488355328) ((heap_Heap_up.f k (⟨t1170.2.fl++([(⟨a1,a2⟩:HEnt)]:List HEnt),t1170.2.fat⟩:HHeap) (w64 (((t1170.2.fl++([(⟨a1,a2⟩:HEnt)]:List HEnt)).length:Int) - 1))).bind fun t1176=>some t1176)
def typing_end.f (a0:Edu):Option (Int):=some (w64 (a0.fTick + a0.fSpan))
def typing_Table_Put.f (k:Nat) (a0:TTab) (a1:Edu):Option (Bool×Int×TTab):=cond (a1.fKind != 2) (some (false,1,a0)) ((edu_May.f k a1).bind fun t1182=>cond (!t1182) (some (false,1,a0)) ((typing_Table_place.f k a0 a1).bind fun t1187=>(cond t1187.2 (grd ((0:Int)≤t1187.1∧t1187.1 < (a0.fl.length:Int)) (cond (decide (a0.fl.getD t1187.1.toNat default = a1)) (some (.inr (false,0,a0))) (grd ((0:Int)≤t1187.1∧t1187.1 < (a0.fl.length:Int)) ((edu_Later.f k a1 (a0.fl.getD t1187.1.toNat default)).bind fun t1208=>cond (!t1208) (some (.inr (false,0,a0))) (grd ((0:Int)≤t1187.1∧t1187.1 < (a0.fl.length:Int)) (some (.inl (true,!t1208,true,(⟨a0.fl.set t1187.1.toNat a1,a0.fends⟩:TTab))))))))) ((slices_Insert_Edu.f a0.fl t1187.1 ([a1]:List Edu)).bind fun t1216=>some (.inl (false,false,false,(⟨t1216,a0.fends⟩:TTab))))).bind (fall fun (p1189:Bool×Bool×Bool×TTab)=>grd (a1.fRoom.size + (⟨#[32]⟩:ByteArray).size≤9223372036854775807) (grd ((a1.fRoom++(⟨#[32]⟩:ByteArray)).size + a1.fUser.size≤9223372036854775807) ((heap_Heap_Drop.f k p1189.2.2.2.fends ((a1.fRoom++(⟨#[32]⟩:ByteArray))++a1.fUser)).bind fun t1194=>cond a1.fOn ((typing_end.f a1).bind fun t1197=>(heap_Heap_Put.f k t1194.2 t1197 ((a1.fRoom++(⟨#[32]⟩:ByteArray))++a1.fUser)).bind fun t1199=>some (true,0,(⟨p1189.2.2.2.fl,t1199⟩:TTab))) (some (true,0,(⟨p1189.2.2.2.fl,t1194.2⟩:TTab))))))))
def sync_RoomKey.f (a0:ByteArray):Option (ByteArray):=grd ((⟨#[116,32]⟩:ByteArray).size + a0.size≤9223372036854775807) (some ((⟨#[116,32]⟩:ByteArray)++a0))
def slices_BinarySearchFunc_Edu_string.l0 (k:Nat) (a0:List Edu) (a1:ByteArray) (a2:Edu→ByteArray→Option Int):Nat→Int→Int→Option (Int×Int×Bool)
 | 0,_,_=>none
 | j1232 + 1,x1225,x1226=>cond (decide (x1225 < x1226)) (grd ((0:Int)≤(w64 ((IntKind.u64.wrap (w64 (x1225 + x1226))).fdiv 2))∧(w64 ((IntKind.u64.wrap (w64 (x1225 + x1226))).fdiv 2)) < (a0.length:Int)) ((a2 (Edu.K.at a0 (w64 ((IntKind.u64.wrap (w64 (x1225 + x1226))).fdiv 2))) a1).bind fun t1229=>cond (decide (t1229 < 0)) (slices_BinarySearchFunc_Edu_string.l0 k a0 a1 a2 j1232 (w64 ((w64 ((IntKind.u64.wrap (w64 (x1225 + x1226))).fdiv 2)) + 1)) x1226) (slices_BinarySearchFunc_Edu_string.l0 k a0 a1 a2 j1232 x1225 (w64 ((IntKind.u64.wrap (w64 (x1225 + x1226))).fdiv 2))))) (some (x1225,x1226,decide (x1225 < x1226)))
def slices_BinarySearchFunc_Edu_string.f (k:Nat) (a0:List Edu) (a1:ByteArray) (a2:Edu→ByteArray→Option Int):Option (Int×Bool):=(slices_BinarySearchFunc_Edu_string.l0 k a0 a1 a2 k 0 (a0.length:Int)).bind fun (p1220:Int×Int×Bool)=>cond (decide (p1220.1 < (a0.length:Int))) (grd ((0:Int)≤p1220.1∧p1220.1 < (a0.length:Int)) ((a2 (Edu.K.at a0 p1220.1) a1).bind fun t1223=>some (p1220.1,(t1223 == 0)))) (some (p1220.1,false))
def presence_Table_place_1.f (a0:Edu) (a1:ByteArray):Option (Int):=(cmp_Compare_string.f a0.fUser a1).bind fun t1235=>some t1235
def presence_Table_place.f (k:Nat) (a0:PTab) (a1:ByteArray):Option (Int×Bool):=(slices_BinarySearchFunc_Edu_string.f k a0.fl a1 presence_Table_place_1.f).bind fun t1237=>some (t1237.1,t1237.2)
def presence_state.f (a0:Edu) (a1:Int):Option (Int):=cond (a0.fState == 2) (cond (decide (a1 < (w64 (a0.fTick + 30)))) (some 2) (cond (decide (a1 < (w64 (a0.fTick + 90)))) (some 1) (some 0))) (cond (a0.fState == 1) (cond (decide (a1 < (w64 (a0.fTick + 90)))) (some 1) (some 0)) (some 0))
def presence_turn.l0 (k:Nat) (a0:Edu) (a1:Int):Nat→Int→Option ((Int×Bool) ⊕ (Int×Bool))
 | 0,_=>none
 | j1257 + 1,x1247=>cond (decide (x1247 < 2)) (grd ((0:Int)≤x1247∧x1247 < (2:Int)) (cond (decide (a1 < (w64 (a0.fTick + ((intK .i64).at ([30,90]:List Int) x1247))))) ((presence_state.f a0 (w64 ((w64 (a0.fTick + ((intK .i64).at ([30,90]:List Int) x1247))) - 1))).bind fun t1251=>(presence_state.f a0 (w64 (a0.fTick + ((intK .i64).at ([30,90]:List Int) x1247)))).bind fun t1253=>cond (decide (t1253 < t1251)) (some (.inr (w64 (a0.fTick + ((intK .i64).at ([30,90]:List Int) x1247)),true))) (presence_turn.l0 k a0 a1 j1257 (w64 (x1247 + 1)))) (presence_turn.l0 k a0 a1 j1257 (w64 (x1247 + 1))))) (some (.inl (x1247,decide (x1247 < 2))))
def presence_turn.f (k:Nat) (a0:Edu) (a1:Int):Option (Int×Bool):=(presence_turn.l0 k a0 a1 k 0).bind (fall fun (p1246:Int×Bool)=>some (0,false))
def presence_Table_Put.f (k:Nat) (a0:PTab) (a1:Edu):Option (Bool×Int×PTab):=cond (a1.fKind != 3) (some (false,1,a0)) ((edu_May.f k a1).bind fun t1262=>cond (!t1262) (some (false,1,a0)) ((presence_Table_place.f k a0 a1.fUser).bind fun t1267=>(cond t1267.2 (grd ((0:Int)≤t1267.1∧t1267.1 < (a0.fl.length:Int)) ((edu_Later.f k a1 (a0.fl.getD t1267.1.toNat default)).bind fun t1282=>cond (!t1282) (some (.inr (false,0,a0))) (grd ((0:Int)≤t1267.1∧t1267.1 < (a0.fl.length:Int)) (some (.inl (true,!t1282,true,(⟨a0.fl.set t1267.1.toNat a1,a0.fturns⟩:PTab))))))) ((slices_Insert_Edu.f a0.fl t1267.1 ([a1]:List Edu)).bind fun t1290=>some (.inl (false,false,false,(⟨t1290,a0.fturns⟩:PTab))))).bind (fall fun (p1269:Bool×Bool×Bool×PTab)=>(heap_Heap_Drop.f k p1269.2.2.2.fturns a1.fUser).bind fun t1272=>(presence_turn.f k a1 (-1)).bind fun t1274=>cond t1274.2 ((heap_Heap_Put.f k t1272.2 t1274.1 a1.fUser).bind fun t1277=>some (true,0,(⟨p1269.2.2.2.fl,t1277⟩:PTab))) (some (true,0,(⟨p1269.2.2.2.fl,t1272.2⟩:PTab))))))
def sync_UserKey.f (a0:ByteArray):Option (ByteArray):=grd ((⟨#[112,32]⟩:ByteArray).size + a0.size≤9223372036854775807) (some ((⟨#[112,32]⟩:ByteArray)++a0))
def server_Server_put.f (k:Nat) (a0:SSelTicStaAllComSen) (a1:Edu):Option (Int×SSelTicStaAllComSen):=cond (a1.fKind == 1) ((marks_Marks_Put.f k a0.fall.fMarks a0.fall.fView a1).bind fun t1298=>(marks_Of.f a1).bind fun t1300=>(sync_MarkKey.f t1300).bind fun t1302=>cond t1298.1 ((server_Server_note.f k (⟨a0.fself,a0.ftick,a0.fstamps,(⟨a0.fall.fView,t1298.2.2,a0.fall.fTyping,a0.fall.fPresence,a0.fall.fLog⟩:Src),a0.fcome,a0.fsenders⟩:SSelTicStaAllComSen) t1302).bind fun t1305=>some (t1298.2.1,t1305)) (some (t1298.2.1,(⟨a0.fself,a0.ftick,a0.fstamps,(⟨a0.fall.fView,t1298.2.2,a0.fall.fTyping,a0.fall.fPresence,a0.fall.fLog⟩:Src),a0.fcome,a0.fsenders⟩:SSelTicStaAllComSen)))) (cond (a1.fKind == 2) ((typing_Table_Put.f k a0.fall.fTyping a1).bind fun t1310=>(sync_RoomKey.f a1.fRoom).bind fun t1312=>cond t1310.1 ((server_Server_note.f k (⟨a0.fself,a0.ftick,a0.fstamps,(⟨a0.fall.fView,a0.fall.fMarks,t1310.2.2,a0.fall.fPresence,a0.fall.fLog⟩:Src),a0.fcome,a0.fsenders⟩:SSelTicStaAllComSen) t1312).bind fun t1315=>some (t1310.2.1,t1315)) (some (t1310.2.1,(⟨a0.fself,a0.ftick,a0.fstamps,(⟨a0.fall.fView,a0.fall.fMarks,t1310.2.2,a0.fall.fPresence,a0.fall.fLog⟩:Src),a0.fcome,a0.fsenders⟩:SSelTicStaAllComSen)))) ((presence_Table_Put.f k a0.fall.fPresence a1).bind fun t1319=>(sync_UserKey.f a1.fUser).bind fun t1321=>cond t1319.1 ((server_Server_note.f k (⟨a0.fself,a0.ftick,a0.fstamps,(⟨a0.fall.fView,a0.fall.fMarks,a0.fall.fTyping,t1319.2.2,a0.fall.fLog⟩:Src),a0.fcome,a0.fsenders⟩:SSelTicStaAllComSen) t1321).bind fun t1324=>some (t1319.2.1,t1324)) (some (t1319.2.1,(⟨a0.fself,a0.ftick,a0.fstamps,(⟨a0.fall.fView,a0.fall.fMarks,a0.fall.fTyping,t1319.2.2,a0.fall.fLog⟩:Src),a0.fcome,a0.fsenders⟩:SSelTicStaAllComSen)))))
def slices_Compact_string.f (xs:List ByteArray):Option (List ByteArray):=grd (xs.length≤9223372036854775807) (some (cmpctS xs))
def member_Homes.l0 (k:Nat) (a0:List ByteArray):Nat→Int→List ByteArray→Option (Int×Bool×(List ByteArray))
 | 0,_,_=>none
 | j1343 + 1,x1333,x1334=>cond (decide (x1333 < (a0.length:Int))) (grd ((0:Int)≤x1333∧x1333 < (a0.length:Int)) ((name_Home.f k (strK.at a0 x1333)).bind fun t1338=>cond (!decide (t1338 = (⟨#[]⟩:ByteArray))) (grd (x1334.length + ([t1338]:List ByteArray).length≤9223372036854775807∧(x1334.length + ([t1338]:List ByteArray).length) * 16≤140737488355328) (member_Homes.l0 k a0 j1343 (w64 (x1333 + 1)) (x1334++([t1338]:List ByteArray)))) (member_Homes.l0 k a0 j1343 (w64 (x1333 + 1)) x1334))) (some (x1333,decide (x1333 < (a0.length:Int)),x1334))
def member_Homes.f (k:Nat) (a0:List ByteArray):Option ((List ByteArray)):=(member_Homes.l0 k a0 k 0 ([]:List ByteArray)).bind fun (p1326:Int×Bool×(List ByteArray))=>(slices_Sort_string.f p1326.2.2).bind fun t1328=>(slices_Compact_string.f t1328).bind fun t1330=>some t1330
def member_Users.f (k:Nat) (a0:DDag):Option (List ByteArray):=(member_joined.f k a0).bind fun m=>grd (m.length≤1000000) (some (srtS (m.map (·.1))))
def member_Servers.f (k:Nat) (a0:DDag):Option ((List ByteArray)):=(member_Users.f k a0).bind fun t1346=>(member_Homes.f k t1346).bind fun t1349=>some t1349
def view_View_Servers.f (k:Nat) (a0:VView) (a1:ByteArray):Option ((List ByteArray)):=(view_View_room.f a0 a1).bind fun t1352=>(member_Servers.f k t1352).bind fun t1357=>some t1357
def view_View_Peers.l0 (k:Nat) (a0:VView) (t1368:(List ByteArray)):Nat→Int→List ByteArray→Option (Int×Int×Bool×(List ByteArray)×(List ByteArray))
 | 0,_,_=>none
 | j1384 + 1,x1371,x1372=>cond (decide (x1371 < (t1368.length:Int))) (grd ((0:Int)≤x1371∧x1371 < (t1368.length:Int)) ((view_View_Servers.f k a0 (t1368.getD x1371.toNat default)).bind fun t1379=>grd (x1372.length + t1379.length≤9223372036854775807∧(x1372.length + t1379.length) * 16≤140737488355328) (view_View_Peers.l0 k a0 t1368 j1384 (w64 (x1371 + 1)) (x1372++t1379)))) (some ((t1368.length:Int),x1371,decide (x1371 < (t1368.length:Int)),x1372,t1368))
def view_View_Peers.f (k:Nat) (a0:VView) (a1:ByteArray):Option ((List ByteArray)):=((view_View_RoomsOf.f k a0 a1).bind fun t1368=>view_View_Peers.l0 k a0 t1368 k 0 ([]:List ByteArray)).bind fun (p1360:Int×Int×Bool×(List ByteArray)×(List ByteArray))=>(slices_Sort_string.f p1360.2.2.2.1).bind fun t1363=>(slices_Compact_string.f t1363).bind fun t1365=>some t1365
def gate_reached.f (k:Nat) (a0:VView) (a1:Edu):Option ((List ByteArray)):=(edu_May.f k a1).bind fun t1388=>cond (!t1388) (some ([]:List ByteArray)) (cond (a1.fKind == 3) ((view_View_Peers.f k a0 a1.fUser).bind fun t1392=>some t1392) ((view_View_Servers.f k a0 a1.fRoom).bind fun t1397=>some t1397))
def gate_Targets_1.f (a0:ByteArray) (c0:ByteArray):Option (Bool):=some (decide (a0 = c0))
def gate_Targets.f (k:Nat) (a0:VView) (a1:ByteArray) (a2:Edu):Option ((List ByteArray)):=(gate_reached.f k a0 a2).bind fun t1402=>(slices_DeleteFunc_string_xo.f k t1402 (fun a0_=>gate_Targets_1.f a0_ a1)).bind fun t1405=>some t1405
def queue_New.f (a0:Int):Option ((Option SQue)×Int):=cond (decide (a0 < 1)) (some (none,1)) (cond (decide (120 < a0)) (some (none,1)) (some (some (⟨a0,([]:List EKey),([]:List (EKey×Edu)),0⟩:SQue),0)))
def sender_New.f (k:Nat) (a0:ByteArray) (a1:ByteArray) (a2:Int) (a3:Int):Option ((Option SSnd)×Int):=(name_Server.f k a0).bind fun t1413=>cond (!t1413) (some (none,1)) ((name_Server.f k a1).bind fun t1417=>cond (!t1417) (some (none,1)) (cond (decide (a0 = a1)) (some (none,1)) ((queue_New.f a2).bind fun t1422=>cond (t1422.2 != 0) (some (none,t1422.2)) ((clock_New.f a3 1099511627776).bind fun t1426=>cond (t1426.2 != 0) (some (none,t1426.2)) (grd (t1422.1.isSome = true) (grd (t1426.1.isSome = true) (some (some (⟨t1422.1.getD default,a0,a1,t1426.1.getD default,none⟩:SSnd),0))))))))
def slices_IndexFunc_Key_xw.l0 (k:Nat) (a0:List EKey) (a1:(EKey→Option Bool)):Nat→Int→Option ((Int×Bool) ⊕ (Int))
 | 0,_=>none
 | j1459 + 1,x1452=>cond (decide (x1452 < (a0.length:Int))) (grd ((0:Int)≤x1452∧x1452 < (a0.length:Int)) ((a1 (a0.getD x1452.toNat default)).bind fun t1456=>cond t1456 (some (.inr x1452)) (slices_IndexFunc_Key_xw.l0 k a0 a1 j1459 (w64 (x1452 + 1))))) (some (.inl (x1452,decide (x1452 < (a0.length:Int)))))
def slices_IndexFunc_Key_xw.f (k:Nat) (a0:List EKey) (a1:(EKey→Option Bool)):Option (Int):=(slices_IndexFunc_Key_xw.l0 k a0 a1 k 0).bind (fall fun (p1451:Int×Bool)=>some (-1))
def slices_DeleteFunc_Key_xo.l0 (k:Nat) (a1:(EKey→Option Bool)):Nat→Int→Int→List EKey→Option (Int×Int×Bool×(List EKey))
 | 0,_,_,_=>none
 | j1482 + 1,x1470,x1471,x1472=>cond (decide (x1471 < (x1472.length:Int))) (grd ((0:Int)≤x1471∧x1471 < (x1472.length:Int)) ((a1 (x1472.getD x1471.toNat default)).bind fun t1477=>cond (!t1477) (grd ((0:Int)≤x1470∧x1470 < (x1472.length:Int)) (slices_DeleteFunc_Key_xo.l0 k a1 j1482 (w64 (x1470 + 1)) (w64 (x1471 + 1)) (x1472.set x1470.toNat (x1472.getD x1471.toNat default)))) (slices_DeleteFunc_Key_xo.l0 k a1 j1482 x1470 (w64 (x1471 + 1)) x1472))) (some (x1470,x1471,decide (x1471 < (x1472.length:Int)),x1472))
def slices_DeleteFunc_Key_xo.f (k:Nat) (a0:List EKey) (a1:(EKey→Option Bool)):Option ((List EKey)):=(slices_IndexFunc_Key_xw.f k a0 a1).bind fun t1461=>cond (t1461 == (-1)) (some a0) ((slices_DeleteFunc_Key_xo.l0 k a1 k t1461 (w64 (t1461 + 1)) a0).bind fun (p1464:Int×Int×Bool×(List EKey))=>grd ((0:Int)≤p1464.1∧p1464.1.toNat < p1464.2.2.2.length) (grd ((0:Int)≤p1464.1∧0≤p1464.1.toNat∧p1464.1.toNat≤(p1464.2.2.2.take p1464.1.toNat++List.replicate (p1464.2.2.2.length - p1464.1.toNat) (⟨0,(⟨#[]⟩:ByteArray),(⟨#[]⟩:ByteArray),(⟨#[]⟩:ByteArray),false⟩:EKey)).length) (some (((p1464.2.2.2.take p1464.1.toNat++List.replicate (p1464.2.2.2.length - p1464.1.toNat) (⟨0,(⟨#[]⟩:ByteArray),(⟨#[]⟩:ByteArray),(⟨#[]⟩:ByteArray),false⟩:EKey)).take p1464.1.toNat).drop 0))))
def queue_Queue_drop_1.f (a0:EKey) (c0:EKey):Option (Bool):=some (decide (a0 = c0))
def queue_Queue_drop.f (k:Nat) (a0:SQue) (a1:EKey):Option (SQue):=(slices_DeleteFunc_Key_xo.f k a0.fkeys (fun a0_=>queue_Queue_drop_1.f a0_ a1)).bind fun t1488=>some (⟨a0.fmost,t1488,mdel a0.fat a1,a0.flost⟩:SQue)
def queue_Queue_Put.f (k:Nat) (a0:SQue) (a1:Edu):Option (Edu×Bool×Int×SQue):=(edu_May.f k a1).bind fun t1493=>cond (!t1493) (some ((⟨0,(⟨#[]⟩:ByteArray),(⟨#[]⟩:ByteArray),(⟨#[]⟩:ByteArray),(⟨#[]⟩:ByteArray),false,false,0,0,0,0⟩:Edu),false,1,a0)) ((edu_Of.f a1).bind fun t1496=>cond ((mget a0.fat t1496).isSome) ((edu_Later.f k a1 ((mget a0.fat t1496).getD (⟨0,(⟨#[]⟩:ByteArray),(⟨#[]⟩:ByteArray),(⟨#[]⟩:ByteArray),(⟨#[]⟩:ByteArray),false,false,0,0,0,0⟩:Edu))).bind fun t1503=>cond (!t1503) (some ((⟨0,(⟨#[]⟩:ByteArray),(⟨#[]⟩:ByteArray),(⟨#[]⟩:ByteArray),(⟨#[]⟩:ByteArray),false,false,0,0,0,0⟩:Edu),false,0,a0)) ((queue_Queue_drop.f k a0 t1496).bind fun t1506=>grd (t1506.fkeys.length + ([t1496]:List EKey).length≤9223372036854775807∧(t1506.fkeys.length + ([t1496]:List EKey).length) * 64≤140737488355328) (cond (decide (((t1506.fkeys++([t1496]:List EKey)).length:Int)≤t1506.fmost)) (some ((⟨0,(⟨#[]⟩:ByteArray),(⟨#[]⟩:ByteArray),(⟨#[]⟩:ByteArray),(⟨#[]⟩:ByteArray),false,false,0,0,0,0⟩:Edu),false,0,(⟨t1506.fmost,t1506.fkeys++([t1496]:List EKey),mput t1506.fat t1496 a1,t1506.flost⟩:SQue))) (grd ((0:Int)≤0∧0 < ((t1506.fkeys++([t1496]:List EKey)).length:Int)) (grd ((0:Int)≤0∧0 < ((t1506.fkeys++([t1496]:List EKey)).length:Int)) ((queue_Queue_drop.f k (⟨t1506.fmost,t1506.fkeys++([t1496]:List EKey),mput t1506.fat t1496 a1,t1506.flost⟩:SQue) ((t1506.fkeys++([t1496]:List EKey)).getD ((0:Int).toNat) default)).bind fun t1518=>some ((mget (mput t1506.fat t1496 a1) ((t1506.fkeys++([t1496]:List EKey)).getD ((0:Int).toNat) default)).getD (⟨0,(⟨#[]⟩:ByteArray),(⟨#[]⟩:ByteArray),(⟨#[]⟩:ByteArray),(⟨#[]⟩:ByteArray),false,false,0,0,0,0⟩:Edu),true,0,(⟨t1518.fmost,t1518.fkeys,t1518.fat,w64 (t1518.flost + 1)⟩:SQue)))))))) ((queue_Queue_drop.f k a0 t1496).bind fun t1523=>grd (t1523.fkeys.length + ([t1496]:List EKey).length≤9223372036854775807∧(t1523.fkeys.length + ([t1496]:List EKey).length) * 64≤140737488355328) (cond (decide (((t1523.fkeys++([t1496]:List EKey)).length:Int)≤t1523.fmost)) (some ((⟨0,(⟨#[]⟩:ByteArray),(⟨#[]⟩:ByteArray),(⟨#[]⟩:ByteArray),(⟨#[]⟩:ByteArray),false,false,0,0,0,0⟩:Edu),false,0,(⟨t1523.fmost,t1523.fkeys++([t1496]:List EKey),mput t1523.fat t1496 a1,t1523.flost⟩:SQue))) (grd ((0:Int)≤0∧0 < ((t1523.fkeys++([t1496]:List EKey)).length:Int)) (grd ((0:Int)≤0∧0 < ((t1523.fkeys++([t1496]:List EKey)).length:Int)) ((queue_Queue_drop.f k (⟨t1523.fmost,t1523.fkeys++([t1496]:List EKey),mput t1523.fat t1496 a1,t1523.flost⟩:SQue) ((t1523.fkeys++([t1496]:List EKey)).getD ((0:Int).toNat) default)).bind fun t1535=>some ((mget (mput t1523.fat t1496 a1) ((t1523.fkeys++([t1496]:List EKey)).getD ((0:Int).toNat) default)).getD (⟨0,(⟨#[]⟩:ByteArray),(⟨#[]⟩:ByteArray),(⟨#[]⟩:ByteArray),(⟨#[]⟩:ByteArray),false,false,0,0,0,0⟩:Edu),true,0,(⟨t1535.fmost,t1535.fkeys,t1535.fat,w64 (t1535.flost + 1)⟩:SQue))))))))
def server_Server_local.l0 (k:Nat) (a1:Edu) (t1543:Int) (t1547:Int×Int×Ctr) (t1555:(List ByteArray)):Nat→Int→SSelTicStaAllComSen→Option (Int×Int×Bool×SSelTicStaAllComSen×(List ByteArray))
 | 0,_,_=>none
 | j1586 + 1,x1558,x1559=>cond (decide (x1558 < (t1555.length:Int))) (grd ((0:Int)≤x1558∧x1558 < (t1555.length:Int)) (cond ((mget x1559.fsenders (t1555.getD x1558.toNat default)).isNone) ((sender_New.f k x1559.fself (t1555.getD x1558.toNat default) 120 0).bind fun t1568=>grd (t1568.1.isSome = true) (grd ((mget (mput x1559.fsenders (t1555.getD x1558.toNat default) (t1568.1.getD default)) (t1555.getD x1558.toNat default)).isSome = true) ((queue_Queue_Put.f k (((mget (mput x1559.fsenders (t1555.getD x1558.toNat default) (t1568.1.getD default)) (t1555.getD x1558.toNat default)).getD default).fQueue) (⟨a1.fKind,a1.fRoom,a1.fUser,a1.fEvent,a1.fThread,a1.fPrivate,a1.fOn,a1.fSpan,a1.fState,t1543,t1547.1⟩:Edu)).bind fun t1577=>server_Server_local.l0 k a1 t1543 t1547 t1555 j1586 (w64 (x1558 + 1)) (⟨x1559.fself,x1559.ftick,x1559.fstamps,x1559.fall,x1559.fcome,mput (mput x1559.fsenders (t1555.getD x1558.toNat default) (t1568.1.getD default)) (t1555.getD x1558.toNat default) (⟨t1577.2.2.2,((mget (mput x1559.fsenders (t1555.getD x1558.toNat default) (t1568.1.getD default)) (t1555.getD x1558.toNat default)).getD default).fself,((mget (mput x1559.fsenders (t1555.getD x1558.toNat default) (t1568.1.getD default)) (t1555.getD x1558.toNat default)).getD default).fto,((mget (mput x1559.fsenders (t1555.getD x1558.toNat default) (t1568.1.getD default)) (t1555.getD x1558.toNat default)).getD default).fids,((mget (mput x1559.fsenders (t1555.getD x1558.toNat default) (t1568.1.getD default)) (t1555.getD x1558.toNat default)).getD default).fair⟩:SSnd)⟩:SSelTicStaAllComSen)))) (grd ((mget x1559.fsenders (t1555.getD x1558.toNat default)).isSome = true) ((queue_Queue_Put.f k (((mget x1559.fsenders (t1555.getD x1558.toNat default)).getD default).fQueue) (⟨a1.fKind,a1.fRoom,a1.fUser,a1.fEvent,a1.fThread,a1.fPrivate,a1.fOn,a1.fSpan,a1.fState,t1543,t1547.1⟩:Edu)).bind fun t1583=>server_Server_local.l0 k a1 t1543 t1547 t1555 j1586 (w64 (x1558 + 1)) (⟨x1559.fself,x1559.ftick,x1559.fstamps,x1559.fall,x1559.fcome,mput x1559.fsenders (t1555.getD x1558.toNat default) (⟨t1583.2.2.2,((mget x1559.fsenders (t1555.getD x1558.toNat default)).getD default).fself,((mget x1559.fsenders (t1555.getD x1558.toNat default)).getD default).fto,((mget x1559.fsenders (t1555.getD x1558.toNat default)).getD default).fids,((mget x1559.fsenders (t1555.getD x1558.toNat default)).getD default).fair⟩:SSnd)⟩:SSelTicStaAllComSen))))) (some ((t1555.length:Int),x1558,decide (x1558 < (t1555.length:Int)),x1559,t1555))
def server_Server_local.f (k:Nat) (a0:SSelTicStaAllComSen) (a1:Edu):Option (Int×SSelTicStaAllComSen):=(server_Server_refuses.f k a0 a1).bind fun t1540=>cond (t1540 != 0) (some (t1540,a0)) ((server_Server_Tick.f a0).bind fun t1543=>(clock_Counter_Next.f k a0.fstamps).bind fun t1547=>(server_Server_put.f k (⟨a0.fself,a0.ftick,t1547.2.2,a0.fall,a0.fcome,a0.fsenders⟩:SSelTicStaAllComSen) (⟨a1.fKind,a1.fRoom,a1.fUser,a1.fEvent,a1.fThread,a1.fPrivate,a1.fOn,a1.fSpan,a1.fState,t1543,t1547.1⟩:Edu)).bind fun t1549=>((gate_Targets.f k t1549.2.fall.fView t1549.2.fself (⟨a1.fKind,a1.fRoom,a1.fUser,a1.fEvent,a1.fThread,a1.fPrivate,a1.fOn,a1.fSpan,a1.fState,t1543,t1547.1⟩:Edu)).bind fun t1555=>server_Server_local.l0 k a1 t1543 t1547 t1555 k 0 t1549.2).bind fun (p1551:Int×Int×Bool×SSelTicStaAllComSen×(List ByteArray))=>some (0,p1551.2.2.2.1))
def server_Server_Type.f (k:Nat) (a0:SSelTicStaAllComSen) (a1:ByteArray) (a2:ByteArray) (a3:Bool) (a4:Int):Option (Int×SSelTicStaAllComSen):=(server_Server_local.f k a0 (⟨2,a2,a1,(⟨#[]⟩:ByteArray),(⟨#[]⟩:ByteArray),false,a3,a4,0,0,0⟩:Edu)).bind fun t1589=>some (t1589.1,t1589.2)
def slices_Clone_Edu.f (xs:List Edu):Option (List Edu):=grd (xs.length≤9223372036854775807∧xs.length * 112≤140737488355328) (some xs)
def slices_IndexFunc_Edu.l0 (k:Nat) (a0:List Edu) (a1:Edu→Option Bool):Nat→Int→Option ((Int×Bool) ⊕ (Int))
 | 0,_=>none
 | j1598 + 1,x1592=>cond (decide (x1592 < (a0.length:Int))) (grd ((0:Int)≤x1592∧x1592 < (a0.length:Int)) ((a1 (Edu.K.at a0 x1592)).bind fun t1595=>cond t1595 (some (.inr x1592)) (slices_IndexFunc_Edu.l0 k a0 a1 j1598 (w64 (x1592 + 1))))) (some (.inl (x1592,decide (x1592 < (a0.length:Int)))))
def slices_IndexFunc_Edu.f (k:Nat) (a0:List Edu) (a1:Edu→Option Bool):Option (Int):=(slices_IndexFunc_Edu.l0 k a0 a1 k 0).bind (fall fun (p1591:Int×Bool)=>some (-1))
def slices_IndexFunc_Edu_x.l0 (k:Nat) (a0:List Edu) (a1:(Edu→Option Bool)):Nat→Int→Option ((Int×Bool) ⊕ (Int))
 | 0,_=>none
 | j1607 + 1,x1601=>cond (decide (x1601 < (a0.length:Int))) (grd ((0:Int)≤x1601∧x1601 < (a0.length:Int)) ((a1 (Edu.K.at a0 x1601)).bind fun t1604=>cond t1604 (some (.inr x1601)) (slices_IndexFunc_Edu_x.l0 k a0 a1 j1607 (w64 (x1601 + 1))))) (some (.inl (x1601,decide (x1601 < (a0.length:Int)))))
def slices_IndexFunc_Edu_x.f (k:Nat) (a0:List Edu) (a1:(Edu→Option Bool)):Option (Int):=(slices_IndexFunc_Edu_x.l0 k a0 a1 k 0).bind (fall fun (p1600:Int×Bool)=>some (-1))
def slices_IndexFunc_Edu_xw.l0 (k:Nat) (a0:List Edu) (a1:(Edu→Option Bool)):Nat→Int→Option ((Int×Bool) ⊕ (Int))
 | 0,_=>none
 | j1617 + 1,x1610=>cond (decide (x1610 < (a0.length:Int))) (grd ((0:Int)≤x1610∧x1610 < (a0.length:Int)) ((a1 (a0.getD x1610.toNat default)).bind fun t1614=>cond t1614 (some (.inr x1610)) (slices_IndexFunc_Edu_xw.l0 k a0 a1 j1617 (w64 (x1610 + 1))))) (some (.inl (x1610,decide (x1610 < (a0.length:Int)))))
def slices_IndexFunc_Edu_xw.f (k:Nat) (a0:List Edu) (a1:(Edu→Option Bool)):Option (Int):=(slices_IndexFunc_Edu_xw.l0 k a0 a1 k 0).bind (fall fun (p1609:Int×Bool)=>some (-1))
def slices_DeleteFunc_Edu_xo.l0 (k:Nat) (a1:(Edu→Option Bool)):Nat→Int→Int→List Edu→Option (Int×Int×Bool×(List Edu))
 | 0,_,_,_=>none
 | j1640 + 1,x1628,x1629,x1630=>cond (decide (x1629 < (x1630.length:Int))) (grd ((0:Int)≤x1629∧x1629 < (x1630.length:Int)) ((a1 (x1630.getD x1629.toNat default)).bind fun t1635=>cond (!t1635) (grd ((0:Int)≤x1628∧x1628 < (x1630.length:Int)) (slices_DeleteFunc_Edu_xo.l0 k a1 j1640 (w64 (x1628 + 1)) (w64 (x1629 + 1)) (x1630.set x1628.toNat (x1630.getD x1629.toNat default)))) (slices_DeleteFunc_Edu_xo.l0 k a1 j1640 x1628 (w64 (x1629 + 1)) x1630))) (some (x1628,x1629,decide (x1629 < (x1630.length:Int)),x1630))
def slices_DeleteFunc_Edu_xo.f (k:Nat) (a0:List Edu) (a1:(Edu→Option Bool)):Option ((List Edu)):=(slices_IndexFunc_Edu_xw.f k a0 a1).bind fun t1619=>cond (t1619 == (-1)) (some a0) ((slices_DeleteFunc_Edu_xo.l0 k a1 k t1619 (w64 (t1619 + 1)) a0).bind fun (p1622:Int×Int×Bool×(List Edu))=>grd ((0:Int)≤p1622.1∧p1622.1.toNat < p1622.2.2.2.length) (grd ((0:Int)≤p1622.1∧0≤p1622.1.toNat∧p1622.1.toNat≤(p1622.2.2.2.take p1622.1.toNat++List.replicate (p1622.2.2.2.length - p1622.1.toNat) (⟨0,(⟨#[]⟩:ByteArray),(⟨#[]⟩:ByteArray),(⟨#[]⟩:ByteArray),(⟨#[]⟩:ByteArray),false,false,0,0,0,0⟩:Edu)).length) (some (((p1622.2.2.2.take p1622.1.toNat++List.replicate (p1622.2.2.2.length - p1622.1.toNat) (⟨0,(⟨#[]⟩:ByteArray),(⟨#[]⟩:ByteArray),(⟨#[]⟩:ByteArray),(⟨#[]⟩:ByteArray),false,false,0,0,0,0⟩:Edu)).take p1622.1.toNat).drop 0))))
def slices_Contains_string.f (k:Nat) (a0:List ByteArray) (a1:ByteArray):Option (Bool):=(slices_Index_string.f k a0 a1).bind fun t1642=>some (decide (0≤t1642))
def gate_Passes.f (k:Nat) (a0:VView) (a1:ByteArray) (a2:Edu):Option (Bool):=(gate_reached.f k a0 a2).bind fun t1645=>(slices_Contains_string.f k t1645 a1).bind fun t1648=>some t1648
def gate_Choose_1.f (k:Nat) (a0:Edu) (c0:VView) (c1:ByteArray):Option (Bool):=(gate_Passes.f k c0 c1 a0).bind fun t1651=>some (!t1651)
def gate_Choose.f (k:Nat) (a0:VView) (a1:ByteArray) (a2:List Edu):Option ((List Edu)):=(slices_Clone_Edu.f a2).bind fun t1655=>(slices_DeleteFunc_Edu_xo.f k t1655 (fun a0_=>gate_Choose_1.f k a0_ a0 a1)).bind fun t1658=>some t1658
def clock_Backoff.l0 (k:Nat) (a0:Int):Nat→Int→Int→Option (Int×Int×Bool)
 | 0,_,_=>none
 | j1665 + 1,x1662,x1663=>cond (decide (x1663 < (min (max a0 0) 9))) (clock_Backoff.l0 k a0 j1665 (min (w64 (2 * x1662)) 16) (w64 (x1663 + 1))) (some (x1662,x1663,decide (x1663 < (min (max a0 0) 9))))
def clock_Backoff.f (k:Nat) (a0:Int):Option (Int):=(clock_Backoff.l0 k a0 k 1 0).bind fun (p1661:Int×Int×Bool)=>some p1661.1
def sender_Sender_again.f (k:Nat) (a0:SSnd) (a1:VView) (a2:Int):Option (Bool×SSnd):=grd (a0.fair.isSome = true) ((gate_Choose.f k a1 a0.fto (((a0.fair.getD default).fp).fEdus)).bind fun t1672=>cond ((t1672.length:Int) == 0) (some (false,(⟨a0.fQueue,a0.fself,a0.fto,a0.fids,none⟩:SSnd))) ((clock_Backoff.f k (w64 (((a0.fair.getD default).ftries) + 1))).bind fun t1675=>some (true,(⟨a0.fQueue,a0.fself,a0.fto,a0.fids,some (⟨(⟨((a0.fair.getD default).fp).fAck,((a0.fair.getD default).fp).fFrom,((a0.fair.getD default).fp).fTo,((a0.fair.getD default).fp).fID,t1672⟩:Par),w64 (((a0.fair.getD default).ftries) + 1),w64 (a2 + t1675)⟩:Fly)⟩:SSnd))))
def sender_Sender_told.f (a0:SSnd):Option (Par):=grd (a0.fair.isSome = true) ((slices_Clone_Edu.f (((a0.fair.getD default).fp).fEdus)).bind fun t1682=>some (⟨((a0.fair.getD default).fp).fAck,((a0.fair.getD default).fp).fFrom,((a0.fair.getD default).fp).fTo,((a0.fair.getD default).fp).fID,t1682⟩:Par))
def queue_Queue_All.l0 (k:Nat) (a0:SQue):Nat→Int→List Edu→Option (Int×Bool×(List Edu))
 | 0,_,_=>none
 | j1696 + 1,x1687,x1688=>cond (decide (x1687 < (a0.fkeys.length:Int))) (grd ((0:Int)≤x1687∧x1687 < (a0.fkeys.length:Int)) (grd (x1688.length + ([(mget a0.fat (a0.fkeys.getD x1687.toNat default)).getD (⟨0,(⟨#[]⟩:ByteArray),(⟨#[]⟩:ByteArray),(⟨#[]⟩:ByteArray),(⟨#[]⟩:ByteArray),false,false,0,0,0,0⟩:Edu)]:List Edu).length≤9223372036854775807∧(x1688.length + ([(mget a0.fat (a0.fkeys.getD x1687.toNat default)).getD (⟨0,(⟨#[]⟩:ByteArray),(⟨#[]⟩:ByteArray),(⟨#[]⟩:ByteArray),(⟨#[]⟩:ByteArray),false,false,0,0,0,0⟩:Edu)]:List Edu).length) * 112≤140737488355328) (queue_Queue_All.l0 k a0 j1696 (w64 (x1687 + 1)) (x1688++([(mget a0.fat (a0.fkeys.getD x1687.toNat default)).getD (⟨0,(⟨#[]⟩:ByteArray),(⟨#[]⟩:ByteArray),(⟨#[]⟩:ByteArray),(⟨#[]⟩:ByteArray),false,false,0,0,0,0⟩:Edu)]:List Edu))))) (some (x1687,decide (x1687 < (a0.fkeys.length:Int)),x1688))
def queue_Queue_All.f (k:Nat) (a0:SQue):Option ((List Edu)):=(queue_Queue_All.l0 k a0 k 0 ([]:List Edu)).bind fun (p1685:Int×Bool×(List Edu))=>some p1685.2.2
def queue_Queue_Keep_1.f (a0:Edu) (c0:Edu):Option (Bool):=some (decide (a0 = c0))
def slices_ContainsFunc_Edu.f (k:Nat) (a0:List Edu) (a1:Edu→Option Bool):Option (Bool):=(slices_IndexFunc_Edu.f k a0 a1).bind fun t1700=>some (decide (0≤t1700))
def slices_ContainsFunc_Edu_x.f (k:Nat) (a0:List Edu) (a1:(Edu→Option Bool)):Option (Bool):=(slices_IndexFunc_Edu_x.f k a0 a1).bind fun t1702=>some (decide (0≤t1702))
def queue_Queue_Keep.l0 (k:Nat) (a1:List Edu) (t1708:(List Edu)):Nat→Int→SQue→Option (SQue)
 | 0,_,_=>none
 | j1722 + 1,x1710,x1711=>cond (decide (x1710 < (t1708.length:Int))) (grd ((0:Int)≤x1710∧x1710 < (t1708.length:Int)) ((slices_ContainsFunc_Edu_x.f k a1 (fun a0_=>queue_Queue_Keep_1.f a0_ (Edu.K.at t1708 x1710))).bind fun t1715=>cond (!t1715) ((edu_Of.f (Edu.K.at t1708 x1710)).bind fun t1718=>(queue_Queue_drop.f k x1711 t1718).bind fun t1720=>queue_Queue_Keep.l0 k a1 t1708 j1722 (w64 (x1710 + 1)) t1720) (queue_Queue_Keep.l0 k a1 t1708 j1722 (w64 (x1710 + 1)) x1711))) (some x1711)
def queue_Queue_Keep.f (k:Nat) (a0:SQue) (a1:List Edu):Option (SQue):=(queue_Queue_All.f k a0).bind fun t1708=>queue_Queue_Keep.l0 k a1 t1708 k 0 a0
def queue_Queue_Take.l0 (k:Nat) (a1:Int) (t1726:(List Edu)):Nat→Int→SQue→Option (Int×Bool×SQue)
 | 0,_,_=>none
 | j1739 + 1,x1730,x1731=>cond (decide (x1730 < (((t1726.take ((min (max a1 0) (t1726.length:Int)).toNat)).drop 0).length:Int))) (grd ((0:Int)≤x1730∧x1730 < (((t1726.take ((min (max a1 0) (t1726.length:Int)).toNat)).drop 0).length:Int)) ((edu_Of.f (Edu.K.at ((t1726.take ((min (max a1 0) (t1726.length:Int)).toNat)).drop 0) x1730)).bind fun t1735=>(queue_Queue_drop.f k x1731 t1735).bind fun t1737=>queue_Queue_Take.l0 k a1 t1726 j1739 (w64 (x1730 + 1)) t1737)) (some (x1730,decide (x1730 < (((t1726.take ((min (max a1 0) (t1726.length:Int)).toNat)).drop 0).length:Int)),x1731))
def queue_Queue_Take.f (k:Nat) (a0:SQue) (a1:Int):Option ((List Edu)×SQue):=(queue_Queue_All.f k a0).bind fun t1726=>grd ((0:Int)≤(min (max a1 0) (t1726.length:Int))∧0≤(min (max a1 0) (t1726.length:Int)).toNat∧(min (max a1 0) (t1726.length:Int)).toNat≤t1726.length) ((queue_Queue_Take.l0 k a1 t1726 k 0 a0).bind fun (p1729:Int×Bool×SQue)=>some ((t1726.take ((min (max a1 0) (t1726.length:Int)).toNat)).drop 0,p1729.2.2))
def sender_Sender_Send.f (k:Nat) (a0:SSnd) (a1:VView) (a2:Int):Option (Par×Bool×Int×SSnd):=(cond (!a0.fair.isNone) (cond (decide (a2 < ((a0.fair.getD default).fdue))) (some (.inr ((⟨false,(⟨#[]⟩:ByteArray),(⟨#[]⟩:ByteArray),0,([]:List Edu)⟩:Par),false,0,a0))) ((sender_Sender_again.f k a0 a1 a2).bind fun t1779=>cond t1779.1 ((sender_Sender_told.f t1779.2).bind fun t1788=>some (.inr (t1788,true,0,t1779.2))) (some (.inl t1779.2)))) (some (.inl a0))).bind (fall fun (p1742:SSnd)=>(queue_Queue_All.f k p1742.fQueue).bind fun t1747=>(gate_Choose.f k a1 p1742.fto t1747).bind fun t1749=>(queue_Queue_Keep.f k p1742.fQueue t1749).bind fun t1751=>(queue_Queue_Len.f t1751).bind fun t1755=>cond (t1755 == 0) (some ((⟨false,(⟨#[]⟩:ByteArray),(⟨#[]⟩:ByteArray),0,([]:List Edu)⟩:Par),false,0,(⟨t1751,p1742.fself,p1742.fto,p1742.fids,p1742.fair⟩:SSnd))) ((clock_Counter_Next.f k p1742.fids).bind fun t1758=>cond (t1758.2.1 != 0) (some ((⟨false,(⟨#[]⟩:ByteArray),(⟨#[]⟩:ByteArray),0,([]:List Edu)⟩:Par),false,t1758.2.1,(⟨t1751,p1742.fself,p1742.fto,t1758.2.2,p1742.fair⟩:SSnd))) ((queue_Queue_Take.f k t1751 100).bind fun t1761=>(clock_Backoff.f k 0).bind fun t1764=>(sender_Sender_told.f (⟨t1761.2,p1742.fself,p1742.fto,t1758.2.2,some (⟨(⟨false,p1742.fself,p1742.fto,t1758.1,t1761.1⟩:Par),0,w64 (a2 + t1764)⟩:Fly)⟩:SSnd)).bind fun t1771=>some (t1771,true,0,(⟨t1761.2,p1742.fself,p1742.fto,t1758.2.2,some (⟨(⟨false,p1742.fself,p1742.fto,t1758.1,t1761.1⟩:Par),0,w64 (a2 + t1764)⟩:Fly)⟩:SSnd)))))
def parcel_May_1.f (k:Nat) (a0:Edu):Option (Bool):=(edu_May.f k a0).bind fun t1791=>some (!t1791)
def parcel_May.f (k:Nat) (a0:Par):Option (Bool):=(slices_ContainsFunc_Edu.f k a0.fEdus (parcel_May_1.f k)).bind fun t1794=>(name_Server.f k a0.fFrom).bind fun t1796=>cond t1796 ((name_Server.f k a0.fTo).bind fun t1799=>cond t1799 (cond (!decide (a0.fFrom = a0.fTo)) (cond (decide (1≤a0.fID)) (cond (decide (a0.fID≤1099511627776)) (cond (decide ((a0.fEdus.length:Int)≤100)) (cond (!t1794) (cond (!a0.fAck) (some true) (some ((a0.fEdus.length:Int) == 0))) (some false)) (some false)) (some false)) (some false)) (some false)) (some false)) (some false)
def edu_Write.f (k:Nat) (a0:Edu):Option ((List Int)×Int):=(edu_May.f k a0).bind fun t1809=>cond (!t1809) (some (([]:List Int),1)) ((edu_laid.f k a0).bind fun t1812=>some (t1812,0))
def parcel_Write.l0 (k:Nat) (a0:Par):Nat→Int→List Int→Option (Int×Bool×(List Int))
 | 0,_,_=>none
 | j1848 + 1,x1836,x1837=>cond (decide (x1836 < (a0.fEdus.length:Int))) (grd ((0:Int)≤x1836∧x1836 < (a0.fEdus.length:Int)) ((edu_Write.f k (Edu.K.at a0.fEdus x1836)).bind fun t1842=>(lay_Text.f k x1837 (ofNums t1842.1)).bind fun t1845=>parcel_Write.l0 k a0 j1848 (w64 (x1836 + 1)) t1845)) (some (x1836,decide (x1836 < (a0.fEdus.length:Int)),x1837))
def parcel_Write.f (k:Nat) (a0:Par):Option ((List Int)×Int):=(parcel_May.f k a0).bind fun t1816=>cond (!t1816) (some (([]:List Int),1)) ((lay_Flag.f k ([]:List Int) a0.fAck).bind fun t1819=>(lay_Text.f k t1819 a0.fFrom).bind fun t1822=>(lay_Text.f k t1822 a0.fTo).bind fun t1825=>(lay_Number.f k t1825 a0.fID).bind fun t1828=>(lay_Number.f k t1828 (a0.fEdus.length:Int)).bind fun t1831=>(parcel_Write.l0 k a0 k 0 t1831).bind fun (p1834:Int×Bool×(List Int))=>some (p1834.2.2,0))
def server_Server_Send.l0 (k:Nat) (a0:SSelTicStaAllComSen):Nat→Int→SSelTicStaAllComSen→List (List Int)→Option (Int×Bool×SSelTicStaAllComSen×(List (List Int)))
 | 0,_,_,_=>none
 | j1886 + 1,x1861,x1862,x1863=>cond (decide (x1861 < ((srtS (a0.fsenders.map (·.1))).length:Int))) (grd ((0:Int)≤x1861∧x1861 < ((srtS (a0.fsenders.map (·.1))).length:Int)) (grd ((mget x1862.fsenders ((srtS (a0.fsenders.map (·.1))).getD x1861.toNat default)).isSome = true) ((server_Server_Tick_o.f x1862.ftick).bind fun t1873=>(sender_Sender_Send.f k ((mget x1862.fsenders ((srtS (a0.fsenders.map (·.1))).getD x1861.toNat default)).getD default) x1862.fall.fView t1873).bind fun t1875=>cond t1875.2.1 ((parcel_Write.f k t1875.1).bind fun t1879=>grd (x1863.length + ([t1879.1]:List (List Int)).length≤9223372036854775807∧(x1863.length + ([t1879.1]:List (List Int)).length) * 24≤140737488355328) (server_Server_Send.l0 k a0 j1886 (w64 (x1861 + 1)) (⟨x1862.fself,x1862.ftick,x1862.fstamps,x1862.fall,x1862.fcome,mput x1862.fsenders ((srtS (a0.fsenders.map (·.1))).getD x1861.toNat default) t1875.2.2.2⟩:SSelTicStaAllComSen) (x1863++([t1879.1]:List (List Int))))) (server_Server_Send.l0 k a0 j1886 (w64 (x1861 + 1)) (⟨x1862.fself,x1862.ftick,x1862.fstamps,x1862.fall,x1862.fcome,mput x1862.fsenders ((srtS (a0.fsenders.map (·.1))).getD x1861.toNat default) t1875.2.2.2⟩:SSelTicStaAllComSen) x1863)))) (some (x1861,decide (x1861 < ((srtS (a0.fsenders.map (·.1))).length:Int)),x1862,x1863))
def server_Server_Send.f (k:Nat) (a0:SSelTicStaAllComSen):Option ((List (List Int))×SSelTicStaAllComSen):=grd (a0.fsenders.length≤1000000) ((server_Server_Send.l0 k a0 k 0 a0 ([]:List (List Int))).bind fun (p1859:Int×Bool×SSelTicStaAllComSen×(List (List Int)))=>some (p1859.2.2.2,p1859.2.2.1))
def r01_SameTexts.l0 (k:Nat) (a0:List ByteArray) (a1:List ByteArray):Nat→Int→Option ((Int×Bool) ⊕ (Bool))
 | 0,_=>none
 | j1896 + 1,x1891=>cond (decide (x1891 < (a0.length:Int))) (grd ((0:Int)≤x1891∧x1891 < (a0.length:Int)) (grd ((0:Int)≤x1891∧x1891 < (a1.length:Int)) (cond (!decide ((strK.at a0 x1891) = (strK.at a1 x1891))) (some (.inr false)) (r01_SameTexts.l0 k a0 a1 j1896 (w64 (x1891 + 1)))))) (some (.inl (x1891,decide (x1891 < (a0.length:Int)))))
def r01_SameTexts.f (k:Nat) (a0:List ByteArray) (a1:List ByteArray):Option (Bool):=cond ((a0.length:Int) != (a1.length:Int)) (some false) ((r01_SameTexts.l0 k a0 a1 k 0).bind (fall fun (p1890:Int×Bool)=>some true))
def typing_Table_Types.f (k:Nat) (a0:TTab) (a1:ByteArray) (a2:ByteArray) (a3:Int):Option (Bool):=(typing_Table_place.f k a0 (⟨0,a1,a2,(⟨#[]⟩:ByteArray),(⟨#[]⟩:ByteArray),false,false,0,0,0,0⟩:Edu)).bind fun t1898=>cond t1898.2 (grd ((0:Int)≤t1898.1∧t1898.1 < (a0.fl.length:Int)) (cond ((a0.fl.getD t1898.1.toNat default).fOn) (grd ((0:Int)≤t1898.1∧t1898.1 < (a0.fl.length:Int)) ((typing_end.f (a0.fl.getD t1898.1.toNat default)).bind fun t1906=>some (decide (a3 < t1906)))) (some false))) (some false)
def typing_Table_Users.l0 (k:Nat) (a0:TTab) (a1:ByteArray) (a2:Int):Nat→Int→List ByteArray→Option (Int×Bool×(List ByteArray))
 | 0,_,_=>none
 | j1924 + 1,x1910,x1911=>cond (decide (x1910 < (a0.fl.length:Int))) (grd ((0:Int)≤x1910∧x1910 < (a0.fl.length:Int)) (cond (decide (((a0.fl.getD x1910.toNat default).fRoom) = a1)) ((typing_Table_Types.f k a0 a1 ((a0.fl.getD x1910.toNat default).fUser) a2).bind fun t1918=>cond t1918 (grd (x1911.length + ([(a0.fl.getD x1910.toNat default).fUser]:List ByteArray).length≤9223372036854775807∧(x1911.length + ([(a0.fl.getD x1910.toNat default).fUser]:List ByteArray).length) * 16≤140737488355328) (typing_Table_Users.l0 k a0 a1 a2 j1924 (w64 (x1910 + 1)) (x1911++([(a0.fl.getD x1910.toNat default).fUser]:List ByteArray)))) (typing_Table_Users.l0 k a0 a1 a2 j1924 (w64 (x1910 + 1)) x1911)) (typing_Table_Users.l0 k a0 a1 a2 j1924 (w64 (x1910 + 1)) x1911))) (some (x1910,decide (x1910 < (a0.fl.length:Int)),x1911))
def typing_Table_Users.f (k:Nat) (a0:TTab) (a1:ByteArray) (a2:Int):Option ((List ByteArray)):=(typing_Table_Users.l0 k a0 a1 a2 k 0 ([]:List ByteArray)).bind fun (p1908:Int×Bool×(List ByteArray))=>some p1908.2.2
def sync_Users_1.f (k:Nat) (a0:ByteArray) (c0:Src) (c1:ByteArray):Option (Bool):=(view_View_Joined.f k c0.fView c1 a0).bind fun t1929=>some (!t1929)
def sync_Users.f (k:Nat) (a0:Src) (a1:ByteArray) (a2:Int):Option ((List ByteArray)):=(typing_Table_Users.f k a0.fTyping a1 a2).bind fun t1935=>(slices_DeleteFunc_string_xo.f k t1935 (fun a0_=>sync_Users_1.f k a0_ a0 a1)).bind fun t1938=>some t1938
def server_Server_Typing.f (k:Nat) (a0:SSelTicStaAllComSen) (a1:ByteArray):Option ((List ByteArray)):=(server_Server_Tick_o.f a0.ftick).bind fun t1943=>(sync_Users.f k a0.fall a1 t1943).bind fun t1945=>some t1945
def w22_lives.f (k:Nat):Option (Bool):=(server_New.f k (⟨#[115]⟩:ByteArray) 0 0).bind fun t1947=>cond t1947.1.isNone (some false) (cond (t1947.2 != 0) (some false) ((server_Server_Event.f k (t1947.1.getD default) (⟨(⟨#[36,97]⟩:ByteArray),(⟨#[33,114,58,115]⟩:ByteArray),([]:List ByteArray),(⟨#[]⟩:ByteArray),(⟨#[64,97,58,115]⟩:ByteArray),1⟩:Event)).bind fun t1953=>(server_Server_Event.f k t1953.2 (⟨(⟨#[36,98]⟩:ByteArray),(⟨#[33,114,58,115]⟩:ByteArray),([]:List ByteArray),(⟨#[]⟩:ByteArray),(⟨#[64,98,58,116]⟩:ByteArray),1⟩:Event)).bind fun t1955=>(server_Server_Type.f k t1955.2 (⟨#[64,97,58,115]⟩:ByteArray) (⟨#[33,114,58,115]⟩:ByteArray) true 5).bind fun t1957=>(server_Server_Send.f k t1957.2).bind fun t1959=>cond (t1957.1 == 0) (cond ((t1959.1.length:Int) == 1) ((server_Server_Idle.f t1959.2).bind fun t1964=>cond (!t1964) ((server_Server_Typing.f k t1959.2 (⟨#[33,114,58,115]⟩:ByteArray)).bind fun t1967=>(r01_SameTexts.f k t1967 ([(⟨#[64,97,58,115]⟩:ByteArray)]:List ByteArray)).bind fun t1969=>some t1969) (some false)) (some false)) (some false)))
def w22_ServerNews.l0 (k:Nat) (a1:Int) (a2:Int) (t1971:ByteArray) (t1973:ByteArray):Nat→Int→Option ((Int×Bool) ⊕ (Bool))
 | 0,_=>none
 | j2162 + 1,x1978=>cond (decide (x1978 < 4)) (grd ((0:Int)≤x1978∧x1978 < (([t1971,(⟨#[115,49]⟩:ByteArray),(⟨#[115,49]⟩:ByteArray),t1973]:List ByteArray).length:Int)) (grd ((0:Int)≤x1978∧x1978 < (([a1,a1,0,0]:List Int).length:Int)) (grd ((0:Int)≤x1978∧x1978 < (([a2,0,a2,0]:List Int).length:Int)) ((server_New.f k (strK.at ([t1971,(⟨#[115,49]⟩:ByteArray),(⟨#[115,49]⟩:ByteArray),t1973]:List ByteArray) x1978) ((intK .i64).at ([a1,a1,0,0]:List Int) x1978) ((intK .i64).at ([a2,0,a2,0]:List Int) x1978)).bind fun t1983=>grd ((0:Int)≤x1978∧x1978 < (([t1971,(⟨#[115,49]⟩:ByteArray),(⟨#[115,49]⟩:ByteArray),t1973]:List ByteArray).length:Int)) ((r01_Server.f k (strK.at ([t1971,(⟨#[115,49]⟩:ByteArray),(⟨#[115,49]⟩:ByteArray),t1973]:List ByteArray) x1978)).bind fun t1987=>cond t1987 (grd ((0:Int)≤x1978∧x1978 < (([a1,a1,0,0]:List Int).length:Int)) (cond (decide (0≤((intK .i64).at ([a1,a1,0,0]:List Int) x1978))) (grd ((0:Int)≤x1978∧x1978 < (([a1,a1,0,0]:List Int).length:Int)) (cond (decide (((intK .i64).at ([a1,a1,0,0]:List Int) x1978)≤1099511627776)) (grd ((0:Int)≤x1978∧x1978 < (([a2,0,a2,0]:List Int).length:Int)) (cond (decide (0≤((intK .i64).at ([a2,0,a2,0]:List Int) x1978))) (grd ((0:Int)≤x1978∧x1978 < (([a2,0,a2,0]:List Int).length:Int)) (cond ((!t1983.1.isNone) != (decide (((intK .i64).at ([a2,0,a2,0]:List Int) x1978)≤1099511627776))) (some (.inr false)) (cond ((t1983.2 == 0) != (decide (((intK .i64).at ([a2,0,a2,0]:List Int) x1978)≤1099511627776))) (some (.inr false)) (cond (!(decide (((intK .i64).at ([a2,0,a2,0]:List Int) x1978)≤1099511627776))) (cond (t1983.2 != 1) (some (.inr false)) (cond t1983.1.isNone (w22_ServerNews.l0 k a1 a2 t1971 t1973 j2162 (w64 (x1978 + 1))) (grd ((0:Int)≤x1978∧x1978 < (([t1971,(⟨#[115,49]⟩:ByteArray),(⟨#[115,49]⟩:ByteArray),t1973]:List ByteArray).length:Int)) ((server_Server_Self.f (t1983.1.getD default)).bind fun t2005=>cond (!decide (t2005 = (strK.at ([t1971,(⟨#[115,49]⟩:ByteArray),(⟨#[115,49]⟩:ByteArray),t1973]:List ByteArray) x1978))) (some (.inr false)) (grd ((0:Int)≤x1978∧x1978 < (([a1,a1,0,0]:List Int).length:Int)) ((server_Server_Tick.f (t1983.1.getD default)).bind fun t2010=>cond (t2010 != ((intK .i64).at ([a1,a1,0,0]:List Int) x1978)) (some (.inr false)) (grd ((0:Int)≤x1978∧x1978 < (([a2,0,a2,0]:List Int).length:Int)) ((server_Server_Pos.f (t1983.1.getD default)).bind fun t2015=>cond (t2015 != ((intK .i64).at ([a2,0,a2,0]:List Int) x1978)) (some (.inr false)) ((server_Server_Idle.f (t1983.1.getD default)).bind fun t2019=>cond (!t2019) (some (.inr false)) ((server_Server_View.f (t1983.1.getD default)).bind fun t2023=>w22_ServerNews.l0 k a1 a2 t1971 t1973 j2162 (w64 (x1978 + 1)))))))))))) (cond t1983.1.isNone (w22_ServerNews.l0 k a1 a2 t1971 t1973 j2162 (w64 (x1978 + 1))) (grd ((0:Int)≤x1978∧x1978 < (([t1971,(⟨#[115,49]⟩:ByteArray),(⟨#[115,49]⟩:ByteArray),t1973]:List ByteArray).length:Int)) ((server_Server_Self.f (t1983.1.getD default)).bind fun t2029=>cond (!decide (t2029 = (strK.at ([t1971,(⟨#[115,49]⟩:ByteArray),(⟨#[115,49]⟩:ByteArray),t1973]:List ByteArray) x1978))) (some (.inr false)) (grd ((0:Int)≤x1978∧x1978 < (([a1,a1,0,0]:List Int).length:Int)) ((server_Server_Tick.f (t1983.1.getD default)).bind fun t2034=>cond (t2034 != ((intK .i64).at ([a1,a1,0,0]:List Int) x1978)) (some (.inr false)) (grd ((0:Int)≤x1978∧x1978 < (([a2,0,a2,0]:List Int).length:Int)) ((server_Server_Pos.f (t1983.1.getD default)).bind fun t2039=>cond (t2039 != ((intK .i64).at ([a2,0,a2,0]:List Int) x1978)) (some (.inr false)) ((server_Server_Idle.f (t1983.1.getD default)).bind fun t2043=>cond (!t2043) (some (.inr false)) ((server_Server_View.f (t1983.1.getD default)).bind fun t2047=>w22_ServerNews.l0 k a1 a2 t1971 t1973 j2162 (w64 (x1978 + 1))))))))))))))) (cond ((!t1983.1.isNone) != false) (some (.inr false)) (cond ((t1983.2 == 0) != false) (some (.inr false)) (cond (t1983.2 != 1) (some (.inr false)) (cond t1983.1.isNone (w22_ServerNews.l0 k a1 a2 t1971 t1973 j2162 (w64 (x1978 + 1))) (grd ((0:Int)≤x1978∧x1978 < (([t1971,(⟨#[115,49]⟩:ByteArray),(⟨#[115,49]⟩:ByteArray),t1973]:List ByteArray).length:Int)) ((server_Server_Self.f (t1983.1.getD default)).bind fun t2057=>cond (!decide (t2057 = (strK.at ([t1971,(⟨#[115,49]⟩:ByteArray),(⟨#[115,49]⟩:ByteArray),t1973]:List ByteArray) x1978))) (some (.inr false)) (grd ((0:Int)≤x1978∧x1978 < (([a1,a1,0,0]:List Int).length:Int)) ((server_Server_Tick.f (t1983.1.getD default)).bind fun t2062=>cond (t2062 != ((intK .i64).at ([a1,a1,0,0]:List Int) x1978)) (some (.inr false)) (grd ((0:Int)≤x1978∧x1978 < (([a2,0,a2,0]:List Int).length:Int)) ((server_Server_Pos.f (t1983.1.getD default)).bind fun t2067=>cond (t2067 != ((intK .i64).at ([a2,0,a2,0]:List Int) x1978)) (some (.inr false)) ((server_Server_Idle.f (t1983.1.getD default)).bind fun t2071=>cond (!t2071) (some (.inr false)) ((server_Server_View.f (t1983.1.getD default)).bind fun t2075=>w22_ServerNews.l0 k a1 a2 t1971 t1973 j2162 (w64 (x1978 + 1)))))))))))))))) (cond ((!t1983.1.isNone) != false) (some (.inr false)) (cond ((t1983.2 == 0) != false) (some (.inr false)) (cond (t1983.2 != 1) (some (.inr false)) (cond t1983.1.isNone (w22_ServerNews.l0 k a1 a2 t1971 t1973 j2162 (w64 (x1978 + 1))) (grd ((0:Int)≤x1978∧x1978 < (([t1971,(⟨#[115,49]⟩:ByteArray),(⟨#[115,49]⟩:ByteArray),t1973]:List ByteArray).length:Int)) ((server_Server_Self.f (t1983.1.getD default)).bind fun t2085=>cond (!decide (t2085 = (strK.at ([t1971,(⟨#[115,49]⟩:ByteArray),(⟨#[115,49]⟩:ByteArray),t1973]:List ByteArray) x1978))) (some (.inr false)) (grd ((0:Int)≤x1978∧x1978 < (([a1,a1,0,0]:List Int).length:Int)) ((server_Server_Tick.f (t1983.1.getD default)).bind fun t2090=>cond (t2090 != ((intK .i64).at ([a1,a1,0,0]:List Int) x1978)) (some (.inr false)) (grd ((0:Int)≤x1978∧x1978 < (([a2,0,a2,0]:List Int).length:Int)) ((server_Server_Pos.f (t1983.1.getD default)).bind fun t2095=>cond (t2095 != ((intK .i64).at ([a2,0,a2,0]:List Int) x1978)) (some (.inr false)) ((server_Server_Idle.f (t1983.1.getD default)).bind fun t2099=>cond (!t2099) (some (.inr false)) ((server_Server_View.f (t1983.1.getD default)).bind fun t2103=>w22_ServerNews.l0 k a1 a2 t1971 t1973 j2162 (w64 (x1978 + 1)))))))))))))))) (cond ((!t1983.1.isNone) != false) (some (.inr false)) (cond ((t1983.2 == 0) != false) (some (.inr false)) (cond (t1983.2 != 1) (some (.inr false)) (cond t1983.1.isNone (w22_ServerNews.l0 k a1 a2 t1971 t1973 j2162 (w64 (x1978 + 1))) (grd ((0:Int)≤x1978∧x1978 < (([t1971,(⟨#[115,49]⟩:ByteArray),(⟨#[115,49]⟩:ByteArray),t1973]:List ByteArray).length:Int)) ((server_Server_Self.f (t1983.1.getD default)).bind fun t2113=>cond (!decide (t2113 = (strK.at ([t1971,(⟨#[115,49]⟩:ByteArray),(⟨#[115,49]⟩:ByteArray),t1973]:List ByteArray) x1978))) (some (.inr false)) (grd ((0:Int)≤x1978∧x1978 < (([a1,a1,0,0]:List Int).length:Int)) ((server_Server_Tick.f (t1983.1.getD default)).bind fun t2118=>cond (t2118 != ((intK .i64).at ([a1,a1,0,0]:List Int) x1978)) (some (.inr false)) (grd ((0:Int)≤x1978∧x1978 < (([a2,0,a2,0]:List Int).length:Int)) ((server_Server_Pos.f (t1983.1.getD default)).bind fun t2123=>cond (t2123 != ((intK .i64).at ([a2,0,a2,0]:List Int) x1978)) (some (.inr false)) ((server_Server_Idle.f (t1983.1.getD default)).bind fun t2127=>cond (!t2127) (some (.inr false)) ((server_Server_View.f (t1983.1.getD default)).bind fun t2131=>w22_ServerNews.l0 k a1 a2 t1971 t1973 j2162 (w64 (x1978 + 1)))))))))))))))) (cond ((!t1983.1.isNone) != false) (some (.inr false)) (cond ((t1983.2 == 0) != false) (some (.inr false)) (cond (t1983.2 != 1) (some (.inr false)) (cond t1983.1.isNone (w22_ServerNews.l0 k a1 a2 t1971 t1973 j2162 (w64 (x1978 + 1))) (grd ((0:Int)≤x1978∧x1978 < (([t1971,(⟨#[115,49]⟩:ByteArray),(⟨#[115,49]⟩:ByteArray),t1973]:List ByteArray).length:Int)) ((server_Server_Self.f (t1983.1.getD default)).bind fun t2141=>cond (!decide (t2141 = (strK.at ([t1971,(⟨#[115,49]⟩:ByteArray),(⟨#[115,49]⟩:ByteArray),t1973]:List ByteArray) x1978))) (some (.inr false)) (grd ((0:Int)≤x1978∧x1978 < (([a1,a1,0,0]:List Int).length:Int)) ((server_Server_Tick.f (t1983.1.getD default)).bind fun t2146=>cond (t2146 != ((intK .i64).at ([a1,a1,0,0]:List Int) x1978)) (some (.inr false)) (grd ((0:Int)≤x1978∧x1978 < (([a2,0,a2,0]:List Int).length:Int)) ((server_Server_Pos.f (t1983.1.getD default)).bind fun t2151=>cond (t2151 != ((intK .i64).at ([a2,0,a2,0]:List Int) x1978)) (some (.inr false)) ((server_Server_Idle.f (t1983.1.getD default)).bind fun t2155=>cond (!t2155) (some (.inr false)) ((server_Server_View.f (t1983.1.getD default)).bind fun t2159=>w22_ServerNews.l0 k a1 a2 t1971 t1973 j2162 (w64 (x1978 + 1))))))))))))))))))) (some (.inl (x1978,decide (x1978 < 4))))
def w22_ServerNews.f (k:Nat) (a0:ByteArray) (a1:Int) (a2:Int):Option (Bool):=(r01_Few.f a0 18).bind fun t1971=>(r01_Few.f a0 18).bind fun t1973=>(w22_ServerNews.l0 k a1 a2 t1971 t1973 k 0).bind (fall fun (p1975:Int×Bool)=>(w22_lives.f k).bind fun t1976=>some t1976)
end Go.Proofs.YtelcbdmigiacpaaGreat
