import Derived.Test.YtmmaijneehmbgaaGreatChecked
import Derived.Test.YtmmaijneehmbgaaGreatConQ
import Derived.Test.YtmmaijneehmbgaaGreatConA6
import Derived.Test.YtmmaijneehmbgaaGreatConC1
import Derived.Eval
set_option linter.all false
set_option maxRecDepth 10000
set_option maxHeartbeats 20000000
namespace Go.Proofs.YtmmaijneehmbgaaGreat
open Go Go.Sp
theorem c101:Tryz.prog.cellsOf 101 = 5:=by kernel_rfl
theorem c104:Tryz.prog.cellsOf 104 = 1:=by kernel_rfl
theorem c105:Tryz.prog.cellsOf 105 = 1:=by kernel_rfl
theorem c129:Tryz.prog.cellsOf 129 = 1:=by kernel_rfl
theorem c157:Tryz.prog.cellsOf 157 = 1:=by kernel_rfl
theorem c171:Tryz.prog.cellsOf 171 = 1:=by kernel_rfl
theorem c2:Tryz.prog.cellsOf 2 = 1:=by kernel_rfl
theorem c226:Tryz.prog.cellsOf 226 = 2:=by kernel_rfl
theorem c23:Tryz.prog.cellsOf 23 = 1:=by kernel_rfl
theorem c28:Tryz.prog.cellsOf 28 = 1:=by kernel_rfl
theorem c3:Tryz.prog.cellsOf 3 = 1:=by kernel_rfl
theorem c32:Tryz.prog.cellsOf 32 = 11:=by kernel_rfl
theorem c36:Tryz.prog.cellsOf 36 = 1:=by kernel_rfl
theorem c37:Tryz.prog.cellsOf 37 = 1:=by kernel_rfl
theorem c38:Tryz.prog.cellsOf 38 = 1:=by kernel_rfl
theorem c4:Tryz.prog.cellsOf 4 = 1:=by kernel_rfl
theorem c42:Tryz.prog.cellsOf 42 = 1:=by kernel_rfl
theorem c44:Tryz.prog.cellsOf 44 = 1:=by kernel_rfl
theorem c46:Tryz.prog.cellsOf 46 = 5:=by kernel_rfl
theorem c5:Tryz.prog.cellsOf 5 = 1:=by kernel_rfl
theorem c53:Tryz.prog.cellsOf 53 = 1:=by kernel_rfl
theorem c55:Tryz.prog.cellsOf 55 = 6:=by kernel_rfl
theorem c71:Tryz.prog.cellsOf 71 = 1:=by kernel_rfl
theorem c9:Tryz.prog.cellsOf 9 = 1:=by kernel_rfl
theorem c93:Tryz.prog.cellsOf 93 = 1:=by kernel_rfl
theorem c97:Tryz.prog.cellsOf 97 = 2:=by kernel_rfl
theorem c99:Tryz.prog.cellsOf 99 = 1:=by kernel_rfl
theorem cal10:callable Tryz.prog 10 = true:=by kernel_rfl
theorem cal100:callable Tryz.prog 100 = true:=by kernel_rfl
theorem cal101:callable Tryz.prog 101 = true:=by kernel_rfl
theorem cal104:callable Tryz.prog 104 = true:=by kernel_rfl
theorem cal105:callable Tryz.prog 105 = true:=by kernel_rfl
theorem cal106:callable Tryz.prog 106 = true:=by kernel_rfl
theorem cal107:callable Tryz.prog 107 = true:=by kernel_rfl
theorem cal108:callable Tryz.prog 108 = true:=by kernel_rfl
theorem cal109:callable Tryz.prog 109 = true:=by kernel_rfl
theorem cal110:callable Tryz.prog 110 = true:=by kernel_rfl
theorem cal111:callable Tryz.prog 111 = true:=by kernel_rfl
theorem cal112:callable Tryz.prog 112 = true:=by kernel_rfl
theorem cal113:callable Tryz.prog 113 = true:=by kernel_rfl
theorem cal114:callable Tryz.prog 114 = true:=by kernel_rfl
theorem cal115:callable Tryz.prog 115 = true:=by kernel_rfl
theorem cal116:callable Tryz.prog 116 = true:=by kernel_rfl
theorem cal12:callable Tryz.prog 12 = true:=by kernel_rfl
theorem cal121:callable Tryz.prog 121 = true:=by kernel_rfl
theorem cal122:callable Tryz.prog 122 = true:=by kernel_rfl
theorem cal123:callable Tryz.prog 123 = true:=by kernel_rfl
theorem cal124:callable Tryz.prog 124 = true:=by kernel_rfl
theorem cal125:callable Tryz.prog 125 = true:=by kernel_rfl
theorem cal126:callable Tryz.prog 126 = true:=by kernel_rfl
theorem cal127:callable Tryz.prog 127 = true:=by kernel_rfl
theorem cal13:callable Tryz.prog 13 = true:=by kernel_rfl
theorem cal131:callable Tryz.prog 131 = true:=by kernel_rfl
theorem cal132:callable Tryz.prog 132 = true:=by kernel_rfl
theorem cal133:callable Tryz.prog 133 = true:=by kernel_rfl
theorem cal134:callable Tryz.prog 134 = true:=by kernel_rfl
theorem cal135:callable Tryz.prog 135 = true:=by kernel_rfl
theorem cal136:callable Tryz.prog 136 = true:=by kernel_rfl
theorem cal137:callable Tryz.prog 137 = true:=by kernel_rfl
theorem cal138:callable Tryz.prog 138 = true:=by kernel_rfl
theorem cal140:callable Tryz.prog 140 = true:=by kernel_rfl
theorem cal141:callable Tryz.prog 141 = true:=by kernel_rfl
theorem cal142:callable Tryz.prog 142 = true:=by kernel_rfl
theorem cal143:callable Tryz.prog 143 = true:=by kernel_rfl
theorem cal144:callable Tryz.prog 144 = true:=by kernel_rfl
theorem cal145:callable Tryz.prog 145 = true:=by kernel_rfl
theorem cal15:callable Tryz.prog 15 = true:=by kernel_rfl
theorem cal152:callable Tryz.prog 152 = true:=by kernel_rfl
theorem cal153:callable Tryz.prog 153 = true:=by kernel_rfl
theorem cal154:callable Tryz.prog 154 = true:=by kernel_rfl
theorem cal155:callable Tryz.prog 155 = true:=by kernel_rfl
theorem cal156:callable Tryz.prog 156 = true:=by kernel_rfl
theorem cal16:callable Tryz.prog 16 = true:=by kernel_rfl
theorem cal160:callable Tryz.prog 160 = true:=by kernel_rfl
theorem cal161:callable Tryz.prog 161 = true:=by kernel_rfl
theorem cal162:callable Tryz.prog 162 = true:=by kernel_rfl
theorem cal163:callable Tryz.prog 163 = true:=by kernel_rfl
theorem cal164:callable Tryz.prog 164 = true:=by kernel_rfl
theorem cal167:callable Tryz.prog 167 = true:=by kernel_rfl
theorem cal168:callable Tryz.prog 168 = true:=by kernel_rfl
theorem cal169:callable Tryz.prog 169 = true:=by kernel_rfl
theorem cal170:callable Tryz.prog 170 = true:=by kernel_rfl
theorem cal171:callable Tryz.prog 171 = true:=by kernel_rfl
theorem cal172:callable Tryz.prog 172 = true:=by kernel_rfl
theorem cal173:callable Tryz.prog 173 = true:=by kernel_rfl
theorem cal176:callable Tryz.prog 176 = true:=by kernel_rfl
theorem cal177:callable Tryz.prog 177 = true:=by kernel_rfl
theorem cal18:callable Tryz.prog 18 = true:=by kernel_rfl
theorem cal180:callable Tryz.prog 180 = true:=by kernel_rfl
theorem cal182:callable Tryz.prog 182 = true:=by kernel_rfl
theorem cal183:callable Tryz.prog 183 = true:=by kernel_rfl
theorem cal19:callable Tryz.prog 19 = true:=by kernel_rfl
theorem cal195:callable Tryz.prog 195 = true:=by kernel_rfl
theorem cal196:callable Tryz.prog 196 = true:=by kernel_rfl
theorem cal20:callable Tryz.prog 20 = true:=by kernel_rfl
theorem cal206:callable Tryz.prog 206 = true:=by kernel_rfl
theorem cal207:callable Tryz.prog 207 = true:=by kernel_rfl
theorem cal21:callable Tryz.prog 21 = true:=by kernel_rfl
theorem cal210:callable Tryz.prog 210 = true:=by kernel_rfl
theorem cal211:callable Tryz.prog 211 = true:=by kernel_rfl
theorem cal212:callable Tryz.prog 212 = true:=by kernel_rfl
theorem cal215:callable Tryz.prog 215 = true:=by kernel_rfl
theorem cal23:callable Tryz.prog 23 = true:=by kernel_rfl
theorem cal24:callable Tryz.prog 24 = true:=by kernel_rfl
theorem cal25:callable Tryz.prog 25 = true:=by kernel_rfl
theorem cal26:callable Tryz.prog 26 = true:=by kernel_rfl
theorem cal27:callable Tryz.prog 27 = true:=by kernel_rfl
theorem cal28:callable Tryz.prog 28 = true:=by kernel_rfl
theorem cal29:callable Tryz.prog 29 = true:=by kernel_rfl
theorem cal42:callable Tryz.prog 42 = true:=by kernel_rfl
theorem cal43:callable Tryz.prog 43 = true:=by kernel_rfl
theorem cal44:callable Tryz.prog 44 = true:=by kernel_rfl
theorem cal45:callable Tryz.prog 45 = true:=by kernel_rfl
theorem cal46:callable Tryz.prog 46 = true:=by kernel_rfl
theorem cal47:callable Tryz.prog 47 = true:=by kernel_rfl
theorem cal48:callable Tryz.prog 48 = true:=by kernel_rfl
theorem cal49:callable Tryz.prog 49 = true:=by kernel_rfl
theorem cal50:callable Tryz.prog 50 = true:=by kernel_rfl
theorem cal51:callable Tryz.prog 51 = true:=by kernel_rfl
theorem cal52:callable Tryz.prog 52 = true:=by kernel_rfl
theorem cal53:callable Tryz.prog 53 = true:=by kernel_rfl
theorem cal55:callable Tryz.prog 55 = true:=by kernel_rfl
theorem cal56:callable Tryz.prog 56 = true:=by kernel_rfl
theorem cal57:callable Tryz.prog 57 = true:=by kernel_rfl
theorem cal58:callable Tryz.prog 58 = true:=by kernel_rfl
theorem cal59:callable Tryz.prog 59 = true:=by kernel_rfl
theorem cal60:callable Tryz.prog 60 = true:=by kernel_rfl
theorem cal61:callable Tryz.prog 61 = true:=by kernel_rfl
theorem cal62:callable Tryz.prog 62 = true:=by kernel_rfl
theorem cal63:callable Tryz.prog 63 = true:=by kernel_rfl
theorem cal64:callable Tryz.prog 64 = true:=by kernel_rfl
theorem cal65:callable Tryz.prog 65 = true:=by kernel_rfl
theorem cal66:callable Tryz.prog 66 = true:=by kernel_rfl
theorem cal76:callable Tryz.prog 76 = true:=by kernel_rfl
theorem cal77:callable Tryz.prog 77 = true:=by kernel_rfl
theorem cal78:callable Tryz.prog 78 = true:=by kernel_rfl
theorem cal79:callable Tryz.prog 79 = true:=by kernel_rfl
theorem cal80:callable Tryz.prog 80 = true:=by kernel_rfl
theorem cal81:callable Tryz.prog 81 = true:=by kernel_rfl
theorem cal82:callable Tryz.prog 82 = true:=by kernel_rfl
theorem cal83:callable Tryz.prog 83 = true:=by kernel_rfl
theorem cal84:callable Tryz.prog 84 = true:=by kernel_rfl
theorem cal85:callable Tryz.prog 85 = true:=by kernel_rfl
theorem cal9:callable Tryz.prog 9 = true:=by kernel_rfl
theorem cal90:callable Tryz.prog 90 = true:=by kernel_rfl
theorem cal91:callable Tryz.prog 91 = true:=by kernel_rfl
theorem cal92:callable Tryz.prog 92 = true:=by kernel_rfl
theorem cal93:callable Tryz.prog 93 = true:=by kernel_rfl
theorem cal94:callable Tryz.prog 94 = true:=by kernel_rfl
theorem cal95:callable Tryz.prog 95 = true:=by kernel_rfl
theorem cal96:callable Tryz.prog 96 = true:=by kernel_rfl
theorem cal97:callable Tryz.prog 97 = true:=by kernel_rfl
theorem cal98:callable Tryz.prog 98 = true:=by kernel_rfl
theorem cal99:callable Tryz.prog 99 = true:=by kernel_rfl
theorem eg101:Tryz.prog.eqGuardType Tryz.prog.depth 101 = false:=by kernel_rfl
theorem eg150:Tryz.prog.eqGuardType Tryz.prog.depth 150 = false:=by kernel_rfl
theorem eg32:Tryz.prog.eqGuardType Tryz.prog.depth 32 = false:=by kernel_rfl
theorem inf101:∃ i,Tryz.prog.info? 101 = some i∧i.size = 5∧i.zero = some (.agg #[.int .i64 0,.string ⟨#[]⟩,.string ⟨#[]⟩,.string ⟨#[]⟩,.bool false])∧i.bytes = 64:=inf_of (by kernel_rfl) (by kernel_rfl) (by kernel_rfl)
theorem inf226:∃ i,Tryz.prog.info? 226 = some i∧i.size = 2∧i.zero = some (.agg #[.int .i64 0,.string ⟨#[]⟩])∧i.bytes = 24:=inf_of (by kernel_rfl) (by kernel_rfl) (by kernel_rfl)
theorem inf32:∃ i,Tryz.prog.info? 32 = some i∧i.size = 11∧i.zero = some (.agg #[.int .i64 0,.string ⟨#[]⟩,.string ⟨#[]⟩,.string ⟨#[]⟩,.string ⟨#[]⟩,.bool false,.bool false,.int .i64 0,.int .i64 0,.int .i64 0,.int .i64 0])∧i.bytes = 112:=inf_of (by kernel_rfl) (by kernel_rfl) (by kernel_rfl)
theorem inf5:∃ i,Tryz.prog.info? 5 = some i∧i.size = 1∧i.zero = some (.int .u8 0)∧i.bytes = 1:=inf_of (by kernel_rfl) (by kernel_rfl) (by kernel_rfl)
theorem inf55:∃ i,Tryz.prog.info? 55 = some i∧i.size = 6∧i.zero = some (.agg #[.string ⟨#[]⟩,.string ⟨#[]⟩,.slice none 0 0,.string ⟨#[]⟩,.string ⟨#[]⟩,.int .i64 0])∧i.bytes = 96:=inf_of (by kernel_rfl) (by kernel_rfl) (by kernel_rfl)
theorem inf9:∃ i,Tryz.prog.info? 9 = some i∧i.size = 1∧i.zero = some (.string ⟨#[]⟩)∧i.bytes = 16:=inf_of (by kernel_rfl) (by kernel_rfl) (by kernel_rfl)
theorem inf97:∃ i,Tryz.prog.info? 97 = some i∧i.size = 2∧i.zero = some (.agg #[.string ⟨#[]⟩,.slice none 0 0])∧i.bytes = 40:=inf_of (by kernel_rfl) (by kernel_rfl) (by kernel_rfl)
theorem fa107_0:FA Tryz.prog 107 0 0:=⟨_,_,_,_,Tryz.underlying107,rfl,Tryz.underlying3,c3,by decide,rfl⟩
theorem fa107_1:FA Tryz.prog 107 1 1:=⟨_,_,_,_,Tryz.underlying107,rfl,Tryz.underlying104,c104,by decide,rfl⟩
theorem fa107_2:FA Tryz.prog 107 2 2:=⟨_,_,_,_,Tryz.underlying107,rfl,Tryz.underlying105,c105,by decide,rfl⟩
theorem fa107_3:FA Tryz.prog 107 3 3:=⟨_,_,_,_,Tryz.underlying107,rfl,Tryz.underlying3,c3,by decide,rfl⟩
theorem fa111_0:FA Tryz.prog 111 0 0:=⟨_,_,_,_,Tryz.underlying111,rfl,Tryz.underlying46,c46,by decide,rfl⟩
theorem fa111_1:FA Tryz.prog 111 1 5:=⟨_,_,_,_,Tryz.underlying111,rfl,Tryz.underlying3,c3,by decide,rfl⟩
theorem fa111_2:FA Tryz.prog 111 2 6:=⟨_,_,_,_,Tryz.underlying111,rfl,Tryz.underlying3,c3,by decide,rfl⟩
theorem fa159_0:FA Tryz.prog 159 0 0:=⟨_,_,_,_,Tryz.underlying159,rfl,Tryz.underlying9,c9,by decide,rfl⟩
theorem fa159_1:FA Tryz.prog 159 1 1:=⟨_,_,_,_,Tryz.underlying159,rfl,Tryz.underlying157,c157,by decide,rfl⟩
theorem fa163_0:FA Tryz.prog 163 0 0:=⟨_,_,_,_,Tryz.underlying163,rfl,Tryz.underlying55,c55,by decide,rfl⟩
theorem fa163_1:FA Tryz.prog 163 1 6:=⟨_,_,_,_,Tryz.underlying163,rfl,Tryz.underlying3,c3,by decide,rfl⟩
theorem fa163_2:FA Tryz.prog 163 2 7:=⟨_,_,_,_,Tryz.underlying163,rfl,Tryz.underlying4,c4,by decide,rfl⟩
theorem fa171_2:FA Tryz.prog 171 2 0:=⟨_,_,_,_,Tryz.underlying171,rfl,Tryz.underlying2,c2,by decide,rfl⟩
theorem fa173_0:FA Tryz.prog 173 0 0:=⟨_,_,_,_,Tryz.underlying173,rfl,Tryz.underlying171,c171,by decide,rfl⟩
theorem fa173_1:FA Tryz.prog 173 1 1:=⟨_,_,_,_,Tryz.underlying173,rfl,Tryz.underlying2,c2,by decide,rfl⟩
theorem fa226_0:FA Tryz.prog 226 0 0:=⟨_,_,_,_,Tryz.underlying226,rfl,Tryz.underlying3,c3,by decide,rfl⟩
theorem fa226_1:FA Tryz.prog 226 1 1:=⟨_,_,_,_,Tryz.underlying226,rfl,Tryz.underlying9,c9,by decide,rfl⟩
theorem fa32_0:FA Tryz.prog 32 0 0:=⟨_,_,_,_,Tryz.underlying32,rfl,Tryz.underlying3,c3,by decide,rfl⟩
theorem fa32_1:FA Tryz.prog 32 1 1:=⟨_,_,_,_,Tryz.underlying32,rfl,Tryz.underlying9,c9,by decide,rfl⟩
theorem fa32_10:FA Tryz.prog 32 10 10:=⟨_,_,_,_,Tryz.underlying32,rfl,Tryz.underlying3,c3,by decide,rfl⟩
theorem fa32_2:FA Tryz.prog 32 2 2:=⟨_,_,_,_,Tryz.underlying32,rfl,Tryz.underlying9,c9,by decide,rfl⟩
theorem fa32_3:FA Tryz.prog 32 3 3:=⟨_,_,_,_,Tryz.underlying32,rfl,Tryz.underlying9,c9,by decide,rfl⟩
theorem fa32_4:FA Tryz.prog 32 4 4:=⟨_,_,_,_,Tryz.underlying32,rfl,Tryz.underlying9,c9,by decide,rfl⟩
theorem fa32_5:FA Tryz.prog 32 5 5:=⟨_,_,_,_,Tryz.underlying32,rfl,Tryz.underlying4,c4,by decide,rfl⟩
theorem fa32_6:FA Tryz.prog 32 6 6:=⟨_,_,_,_,Tryz.underlying32,rfl,Tryz.underlying4,c4,by decide,rfl⟩
theorem fa32_7:FA Tryz.prog 32 7 7:=⟨_,_,_,_,Tryz.underlying32,rfl,Tryz.underlying3,c3,by decide,rfl⟩
theorem fa32_8:FA Tryz.prog 32 8 8:=⟨_,_,_,_,Tryz.underlying32,rfl,Tryz.underlying3,c3,by decide,rfl⟩
theorem fa32_9:FA Tryz.prog 32 9 9:=⟨_,_,_,_,Tryz.underlying32,rfl,Tryz.underlying3,c3,by decide,rfl⟩
theorem fa40_0:FA Tryz.prog 40 0 0:=⟨_,_,_,_,Tryz.underlying40,rfl,Tryz.underlying36,c36,by decide,rfl⟩
theorem fa40_1:FA Tryz.prog 40 1 1:=⟨_,_,_,_,Tryz.underlying40,rfl,Tryz.underlying9,c9,by decide,rfl⟩
theorem fa40_2:FA Tryz.prog 40 2 2:=⟨_,_,_,_,Tryz.underlying40,rfl,Tryz.underlying9,c9,by decide,rfl⟩
theorem fa40_3:FA Tryz.prog 40 3 3:=⟨_,_,_,_,Tryz.underlying40,rfl,Tryz.underlying37,c37,by decide,rfl⟩
theorem fa40_4:FA Tryz.prog 40 4 4:=⟨_,_,_,_,Tryz.underlying40,rfl,Tryz.underlying38,c38,by decide,rfl⟩
theorem fa44_0:FA Tryz.prog 44 0 0:=⟨_,_,_,_,Tryz.underlying44,rfl,Tryz.underlying42,c42,by decide,rfl⟩
theorem fa46_3:FA Tryz.prog 46 3 3:=⟨_,_,_,_,Tryz.underlying46,rfl,Tryz.underlying3,c3,by decide,rfl⟩
theorem fa46_4:FA Tryz.prog 46 4 4:=⟨_,_,_,_,Tryz.underlying46,rfl,Tryz.underlying23,c23,by decide,rfl⟩
theorem fa55_0:FA Tryz.prog 55 0 0:=⟨_,_,_,_,Tryz.underlying55,rfl,Tryz.underlying9,c9,by decide,rfl⟩
theorem fa55_1:FA Tryz.prog 55 1 1:=⟨_,_,_,_,Tryz.underlying55,rfl,Tryz.underlying9,c9,by decide,rfl⟩
theorem fa55_2:FA Tryz.prog 55 2 2:=⟨_,_,_,_,Tryz.underlying55,rfl,Tryz.underlying53,c53,by decide,rfl⟩
theorem fa55_3:FA Tryz.prog 55 3 3:=⟨_,_,_,_,Tryz.underlying55,rfl,Tryz.underlying9,c9,by decide,rfl⟩
theorem fa55_4:FA Tryz.prog 55 4 4:=⟨_,_,_,_,Tryz.underlying55,rfl,Tryz.underlying9,c9,by decide,rfl⟩
theorem fa55_5:FA Tryz.prog 55 5 5:=⟨_,_,_,_,Tryz.underlying55,rfl,Tryz.underlying3,c3,by decide,rfl⟩
theorem fa95_0:FA Tryz.prog 95 0 0:=⟨_,_,_,_,Tryz.underlying95,rfl,Tryz.underlying93,c93,by decide,rfl⟩
theorem fa97_0:FA Tryz.prog 97 0 0:=⟨_,_,_,_,Tryz.underlying97,rfl,Tryz.underlying9,c9,by decide,rfl⟩
theorem fa97_1:FA Tryz.prog 97 1 1:=⟨_,_,_,_,Tryz.underlying97,rfl,Tryz.underlying28,c28,by decide,rfl⟩
theorem sc104:SC Tryz.prog 104:=⟨_,Tryz.underlying104,rfl⟩
theorem sc105:SC Tryz.prog 105:=⟨_,Tryz.underlying105,rfl⟩
theorem sc120:SC Tryz.prog 120:=⟨_,Tryz.underlying120,rfl⟩
theorem sc157:SC Tryz.prog 157:=⟨_,Tryz.underlying157,rfl⟩
theorem sc2:SC Tryz.prog 2:=⟨_,Tryz.underlying2,rfl⟩
theorem sc23:SC Tryz.prog 23:=⟨_,Tryz.underlying23,rfl⟩
theorem sc26:SC Tryz.prog 26:=⟨_,Tryz.underlying26,rfl⟩
theorem sc28:SC Tryz.prog 28:=⟨_,Tryz.underlying28,rfl⟩
theorem sc3:SC Tryz.prog 3:=⟨_,Tryz.underlying3,rfl⟩
theorem sc36:SC Tryz.prog 36:=⟨_,Tryz.underlying36,rfl⟩
theorem sc37:SC Tryz.prog 37:=⟨_,Tryz.underlying37,rfl⟩
theorem sc38:SC Tryz.prog 38:=⟨_,Tryz.underlying38,rfl⟩
theorem sc4:SC Tryz.prog 4:=⟨_,Tryz.underlying4,rfl⟩
theorem sc42:SC Tryz.prog 42:=⟨_,Tryz.underlying42,rfl⟩
theorem sc53:SC Tryz.prog 53:=⟨_,Tryz.underlying53,rfl⟩
theorem sc71:SC Tryz.prog 71:=⟨_,Tryz.underlying71,rfl⟩
theorem sc9:SC Tryz.prog 9:=⟨_,Tryz.underlying9,rfl⟩
theorem sc93:SC Tryz.prog 93:=⟨_,Tryz.underlying93,rfl⟩
theorem sc99:SC Tryz.prog 99:=⟨_,Tryz.underlying99,rfl⟩
theorem sg101:SG Tryz.prog 101 5:=⟨_,Tryz.underlying101,rfl,c101⟩
theorem sg32:SG Tryz.prog 32 11:=⟨_,Tryz.underlying32,rfl,c32⟩
theorem sg44:SG Tryz.prog 44 1:=⟨_,Tryz.underlying44,rfl,c44⟩
theorem sg46:SG Tryz.prog 46 5:=⟨_,Tryz.underlying46,rfl,c46⟩
theorem sg55:SG Tryz.prog 55 6:=⟨_,Tryz.underlying55,rfl,c55⟩
theorem sg97:SG Tryz.prog 97 2:=⟨_,Tryz.underlying97,rfl,c97⟩
theorem sz101:SZ Tryz.prog 101 5:=⟨_,Tryz.underlying101,c101⟩
theorem sz104:SZ Tryz.prog 104 1:=⟨_,Tryz.underlying104,c104⟩
theorem sz226:SZ Tryz.prog 226 2:=⟨_,Tryz.underlying226,c226⟩
theorem sz23:SZ Tryz.prog 23 1:=⟨_,Tryz.underlying23,c23⟩
theorem sz3:SZ Tryz.prog 3 1:=⟨_,Tryz.underlying3,c3⟩
theorem sz32:SZ Tryz.prog 32 11:=⟨_,Tryz.underlying32,c32⟩
theorem sz38:SZ Tryz.prog 38 1:=⟨_,Tryz.underlying38,c38⟩
theorem sz4:SZ Tryz.prog 4 1:=⟨_,Tryz.underlying4,c4⟩
theorem sz44:SZ Tryz.prog 44 1:=⟨_,Tryz.underlying44,c44⟩
theorem sz46:SZ Tryz.prog 46 5:=⟨_,Tryz.underlying46,c46⟩
theorem sz53:SZ Tryz.prog 53 1:=⟨_,Tryz.underlying53,c53⟩
theorem sz55:SZ Tryz.prog 55 6:=⟨_,Tryz.underlying55,c55⟩
theorem sz71:SZ Tryz.prog 71 1:=⟨_,Tryz.underlying71,c71⟩
theorem sz9:SZ Tryz.prog 9 1:=⟨_,Tryz.underlying9,c9⟩
theorem sz97:SZ Tryz.prog 97 2:=⟨_,Tryz.underlying97,c97⟩
theorem pl101:plcT Tryz.prog 101 = true:=by kernel_rfl
theorem pl107:plcT Tryz.prog 107 = true:=by kernel_rfl
theorem pl111:plcT Tryz.prog 111 = true:=by kernel_rfl
theorem pl159:plcT Tryz.prog 159 = true:=by kernel_rfl
theorem pl163:plcT Tryz.prog 163 = true:=by kernel_rfl
theorem pl173:plcT Tryz.prog 173 = true:=by kernel_rfl
theorem pl226:plcT Tryz.prog 226 = true:=by kernel_rfl
theorem pl32:plcT Tryz.prog 32 = true:=by kernel_rfl
theorem pl40:plcT Tryz.prog 40 = true:=by kernel_rfl
theorem pl44:plcT Tryz.prog 44 = true:=by kernel_rfl
theorem pl46:plcT Tryz.prog 46 = true:=by kernel_rfl
theorem pl55:plcT Tryz.prog 55 = true:=by kernel_rfl
theorem pl95:plcT Tryz.prog 95 = true:=by kernel_rfl
theorem pl97:plcT Tryz.prog 97 = true:=by kernel_rfl
theorem st101:Tryz.prog.stoodInHeld 101 = false:=by kernel_rfl
theorem st32:Tryz.prog.stoodInHeld 32 = false:=by kernel_rfl
theorem xf128:(Extern.findNext Tryz.f128).isNone = true:=by kernel_rfl
theorem xf139:(Extern.findNext Tryz.f139).isNone = true:=by kernel_rfl
theorem xf146:(Extern.findNext Tryz.f146).isNone = true:=by kernel_rfl
theorem xf147:(Extern.findNext Tryz.f147).isNone = true:=by kernel_rfl
theorem xf181:(Extern.findNext Tryz.f181).isNone = true:=by kernel_rfl
theorem xg128:Extern.find Tryz.f128 = some Extern.Atomic.storeT:=by rfl
theorem xg139:Extern.find Tryz.f139 = some Extern.BytealgCompare.compare:=by rfl
theorem xg146:Extern.find Tryz.f146 = some (Extern.Atomic.loadT (.int .i64)):=by rfl
theorem xg147:Extern.find Tryz.f147 = some (Extern.Atomic.casT (.int .i64)):=by rfl
theorem xg181:Extern.find Tryz.f181 = some Extern.BytealgIndexByte.indexByte:=by rfl
theorem z101:zer Tryz.prog 101 = some (.agg #[.int .i64 0,.string ⟨#[]⟩,.string ⟨#[]⟩,.string ⟨#[]⟩,.bool false]):=by kernel_rfl
theorem z107:zer Tryz.prog 107 = some (.agg #[.int .i64 0,.slice none 0 0,.map none,.int .i64 0]):=by kernel_rfl
theorem z111:zer Tryz.prog 111 = some (.agg #[.bool false,.string ⟨#[]⟩,.string ⟨#[]⟩,.int .i64 0,.slice none 0 0,.int .i64 0,.int .i64 0]):=by kernel_rfl
theorem z120:zer Tryz.prog 120 = some (.pointer none):=by kernel_rfl
theorem z150:zer Tryz.prog 150 = some (.agg #[.int .i64 0,.string ⟨#[]⟩,.string ⟨#[]⟩,.string ⟨#[]⟩,.string ⟨#[]⟩,.bool false,.bool false,.int .i64 0,.int .i64 0,.int .i64 0,.int .i64 0]):=by kernel_rfl
theorem z159:zer Tryz.prog 159 = some (.agg #[.string ⟨#[]⟩,.map none]):=by kernel_rfl
theorem z161:zer Tryz.prog 161 = some (.pointer none):=by kernel_rfl
theorem z163:zer Tryz.prog 163 = some (.agg #[.string ⟨#[]⟩,.string ⟨#[]⟩,.slice none 0 0,.string ⟨#[]⟩,.string ⟨#[]⟩,.int .i64 0,.int .i64 0,.bool false]):=by kernel_rfl
theorem z173:zer Tryz.prog 173 = some (.agg #[.int .i64 0,.int .i64 0]):=by kernel_rfl
theorem z192:zer Tryz.prog 192 = some (.agg #[.nilFunc,.nilFunc,.nilFunc]):=by kernel_rfl
theorem z226:zer Tryz.prog 226 = some (.agg #[.int .i64 0,.string ⟨#[]⟩]):=by kernel_rfl
theorem z3:zer Tryz.prog 3 = some (.int .i64 0):=by kernel_rfl
theorem z32:zer Tryz.prog 32 = some (.agg #[.int .i64 0,.string ⟨#[]⟩,.string ⟨#[]⟩,.string ⟨#[]⟩,.string ⟨#[]⟩,.bool false,.bool false,.int .i64 0,.int .i64 0,.int .i64 0,.int .i64 0]):=by kernel_rfl
theorem z40:zer Tryz.prog 40 = some (.agg #[.pointer none,.string ⟨#[]⟩,.string ⟨#[]⟩,.pointer none,.pointer none]):=by kernel_rfl
theorem z44:zer Tryz.prog 44 = some (.agg #[.slice none 0 0]):=by kernel_rfl
theorem z46:zer Tryz.prog 46 = some (.agg #[.bool false,.string ⟨#[]⟩,.string ⟨#[]⟩,.int .i64 0,.slice none 0 0]):=by kernel_rfl
theorem z5:zer Tryz.prog 5 = some (.int .u8 0):=by kernel_rfl
theorem z55:zer Tryz.prog 55 = some (.agg #[.string ⟨#[]⟩,.string ⟨#[]⟩,.slice none 0 0,.string ⟨#[]⟩,.string ⟨#[]⟩,.int .i64 0]):=by kernel_rfl
theorem z71:zer Tryz.prog 71 = some .nilFunc:=by kernel_rfl
theorem z9:zer Tryz.prog 9 = some (.string ⟨#[]⟩):=by kernel_rfl
theorem z95:zer Tryz.prog 95 = some (.agg #[.map none]):=by kernel_rfl
theorem z97:zer Tryz.prog 97 = some (.agg #[.string ⟨#[]⟩,.slice none 0 0]):=by kernel_rfl
theorem z99:zer Tryz.prog 99 = some .nilFunc:=by kernel_rfl
theorem zc101:ZC Tryz.prog 101 [eq (.int .i64 0),eq (.string (⟨#[]⟩:ByteArray)),eq (.string (⟨#[]⟩:ByteArray)),eq (.string (⟨#[]⟩:ByteArray)),eq (.bool false)]:=⟨_,z101,rfl⟩
theorem zc226:ZC Tryz.prog 226 [eq (.int .i64 0),eq (.string (⟨#[]⟩:ByteArray))]:=⟨_,z226,rfl⟩
theorem zc32:ZC Tryz.prog 32 [eq (.int .i64 0),eq (.string (⟨#[]⟩:ByteArray)),eq (.string (⟨#[]⟩:ByteArray)),eq (.string (⟨#[]⟩:ByteArray)),eq (.string (⟨#[]⟩:ByteArray)),eq (.bool false),eq (.bool false),eq (.int .i64 0),eq (.int .i64 0),eq (.int .i64 0),eq (.int .i64 0)]:=⟨_,z32,rfl⟩
theorem zc44:ZC Tryz.prog 44 [eq (.slice none 0 0)]:=⟨_,z44,rfl⟩
theorem zc46:ZC Tryz.prog 46 [eq (.bool false),eq (.string (⟨#[]⟩:ByteArray)),eq (.string (⟨#[]⟩:ByteArray)),eq (.int .i64 0),eq (.slice none 0 0)]:=⟨_,z46,rfl⟩
theorem zc55:ZC Tryz.prog 55 [eq (.string (⟨#[]⟩:ByteArray)),eq (.string (⟨#[]⟩:ByteArray)),eq (.slice none 0 0),eq (.string (⟨#[]⟩:ByteArray)),eq (.string (⟨#[]⟩:ByteArray)),eq (.int .i64 0)]:=⟨_,z55,rfl⟩
theorem zc71:ZC Tryz.prog 71 [eq .nilFunc]:=⟨_,z71,rfl⟩
theorem zc97:ZC Tryz.prog 97 [eq (.string (⟨#[]⟩:ByteArray)),eq (.slice none 0 0)]:=⟨_,z97,rfl⟩
structure EKey where
 fKind:Int
 fRoom:ByteArray
 fUser:ByteArray
 fThread:ByteArray
 fPrivate:Bool
 deriving DecidableEq,Inhabited
abbrev EKey.enc (x:EKey):Cs:=[eq (.int .i64 x.fKind),eq (.string x.fRoom),eq (.string x.fUser),eq (.string x.fThread),eq (.bool x.fPrivate)]
abbrev EKey.K:Kd EKey:=⟨5,default,EKey.enc,fun _=>rfl,fun _=>(ones_cons (one_eq rfl) (ones_cons (one_eq rfl) (ones_cons (one_eq rfl) (ones_cons (one_eq rfl) (ones_cons (one_eq rfl) ones_nil)))))⟩
structure Edu where
 fKind:Int
 fRoom:ByteArray
 fUser:ByteArray
 fEvent:ByteArray
 fThread:ByteArray
 fPrivate:Bool
 fOn:Bool
 fSpan:Int
 fState:Int
 fTick:Int
 fStamp:Int
 deriving DecidableEq,Inhabited
abbrev Edu.enc (x:Edu):Cs:=[eq (.int .i64 x.fKind),eq (.string x.fRoom),eq (.string x.fUser),eq (.string x.fEvent),eq (.string x.fThread),eq (.bool x.fPrivate),eq (.bool x.fOn),eq (.int .i64 x.fSpan),eq (.int .i64 x.fState),eq (.int .i64 x.fTick),eq (.int .i64 x.fStamp)]
abbrev Edu.K:Kd Edu:=⟨11,default,Edu.enc,fun _=>rfl,fun _=>(ones_cons (one_eq rfl) (ones_cons (one_eq rfl) (ones_cons (one_eq rfl) (ones_cons (one_eq rfl) (ones_cons (one_eq rfl) (ones_cons (one_eq rfl) (ones_cons (one_eq rfl) (ones_cons (one_eq rfl) (ones_cons (one_eq rfl) (ones_cons (one_eq rfl) (ones_cons (one_eq rfl) ones_nil)))))))))))⟩
structure SQue where
 fmost:Int
 fkeys:List EKey
 fat:List (EKey×Edu)
 flost:Int
 deriving DecidableEq,Inhabited
structure AtI where
 fv:Int
 deriving DecidableEq,Inhabited
abbrev AtI.enc (x:AtI):Cs:=[eq (.int .i64 x.fv)]
abbrev AtI.K:Kd AtI:=⟨1,default,AtI.enc,fun _=>rfl,fun _=>(ones_cons (one_eq rfl) ones_nil)⟩
structure Ctr where
 fn:AtI
 fmost:Int
 deriving DecidableEq,Inhabited
abbrev Ctr.enc (x:Ctr):Cs:=[eq (.int .i64 x.fn.fv),eq (.int .i64 x.fmost)]
abbrev Ctr.K:Kd Ctr:=⟨2,default,Ctr.enc,fun _=>rfl,fun _=>(ones_cons (one_eq rfl) (ones_cons (one_eq rfl) ones_nil))⟩
structure S where
 deriving DecidableEq,Inhabited
abbrev S.enc (x:S):Cs:=[]
abbrev S.K:Kd S:=⟨0,default,S.enc,fun _=>rfl,fun _=>ones_nil⟩
structure Par where
 fAck:Bool
 fFrom:ByteArray
 fTo:ByteArray
 fID:Int
 fEdus:List Edu
 deriving DecidableEq,Inhabited
abbrev Par.enc (x:Par):Cs:=[eq (.bool x.fAck),eq (.string x.fFrom),eq (.string x.fTo),eq (.int .i64 x.fID),sl Edu.K x.fEdus]
abbrev Par.K:Kd Par:=⟨5,default,Par.enc,fun _=>rfl,fun _=>(ones_cons (one_eq rfl) (ones_cons (one_eq rfl) (ones_cons (one_eq rfl) (ones_cons (one_eq rfl) (ones_cons one_sl ones_nil)))))⟩
structure Fly where
 fp:Par
 ftries:Int
 fdue:Int
 deriving DecidableEq,Inhabited
abbrev Fly.enc (x:Fly):Cs:=[eq (.bool x.fp.fAck),eq (.string x.fp.fFrom),eq (.string x.fp.fTo),eq (.int .i64 x.fp.fID),sl Edu.K x.fp.fEdus,eq (.int .i64 x.ftries),eq (.int .i64 x.fdue)]
abbrev Fly.K:Kd Fly:=⟨7,default,Fly.enc,fun _=>rfl,fun _=>(ones_cons (one_eq rfl) (ones_cons (one_eq rfl) (ones_cons (one_eq rfl) (ones_cons (one_eq rfl) (ones_cons one_sl (ones_cons (one_eq rfl) (ones_cons (one_eq rfl) ones_nil)))))))⟩
structure SSnd where
 fQueue:SQue
 fself:ByteArray
 fto:ByteArray
 fids:Ctr
 fair:Option Fly
 deriving DecidableEq,Inhabited
structure Event where
 fID:ByteArray
 fRoom:ByteArray
 fParents:List ByteArray
 fThread:ByteArray
 fUser:ByteArray
 fDoes:Int
 deriving DecidableEq,Inhabited
abbrev Event.enc (x:Event):Cs:=[eq (.string x.fID),eq (.string x.fRoom),sl strK x.fParents,eq (.string x.fThread),eq (.string x.fUser),eq (.int .i64 x.fDoes)]
abbrev Event.K:Kd Event:=⟨6,default,Event.enc,fun _=>rfl,fun _=>(ones_cons (one_eq rfl) (ones_cons (one_eq rfl) (ones_cons one_sl (ones_cons (one_eq rfl) (ones_cons (one_eq rfl) (ones_cons (one_eq rfl) ones_nil))))))⟩
structure DNode where
 fe:Event
 fdepth:Int
 fparent:Bool
 deriving DecidableEq,Inhabited
abbrev DNode.enc (x:DNode):Cs:=[eq (.string x.fe.fID),eq (.string x.fe.fRoom),sl strK x.fe.fParents,eq (.string x.fe.fThread),eq (.string x.fe.fUser),eq (.int .i64 x.fe.fDoes),eq (.int .i64 x.fdepth),eq (.bool x.fparent)]
abbrev DNode.K:Kd DNode:=⟨8,default,DNode.enc,fun _=>rfl,fun _=>(ones_cons (one_eq rfl) (ones_cons (one_eq rfl) (ones_cons one_sl (ones_cons (one_eq rfl) (ones_cons (one_eq rfl) (ones_cons (one_eq rfl) (ones_cons (one_eq rfl) (ones_cons (one_eq rfl) ones_nil))))))))⟩
structure DDag where
 froom:ByteArray
 fnodes:List (ByteArray×DNode)
 deriving DecidableEq,Inhabited
structure VView where
 fdags:List (ByteArray×DDag)
 deriving DecidableEq,Inhabited
structure RDag where
 fRoom:ByteArray
 fL:List Event
 deriving DecidableEq,Inhabited
abbrev RDag.enc (x:RDag):Cs:=[eq (.string x.fRoom),sl Event.K x.fL]
abbrev RDag.K:Kd RDag:=⟨2,default,RDag.enc,fun _=>rfl,fun _=>(ones_cons (one_eq rfl) (ones_cons one_sl ones_nil))⟩
structure GMade where
 fUser:Int
 fDoes:Int
 fParents:List Int
 fThread:Int
 deriving DecidableEq,Inhabited
abbrev GMade.enc (x:GMade):Cs:=[eq (.int .i64 x.fUser),eq (.int .i64 x.fDoes),sl (intK .i64) x.fParents,eq (.int .i64 x.fThread)]
abbrev GMade.K:Kd GMade:=⟨4,default,GMade.enc,fun _=>rfl,fun _=>(ones_cons (one_eq rfl) (ones_cons (one_eq rfl) (ones_cons one_sl (ones_cons (one_eq rfl) ones_nil))))⟩
structure Pos where
 fDepth:Int
 fID:ByteArray
 deriving DecidableEq,Inhabited
abbrev Pos.enc (x:Pos):Cs:=[eq (.int .i64 x.fDepth),eq (.string x.fID)]
abbrev Pos.K:Kd Pos:=⟨2,default,Pos.enc,fun _=>rfl,fun _=>(ones_cons (one_eq rfl) (ones_cons (one_eq rfl) ones_nil))⟩
structure RView where
 fD:List RDag
 deriving DecidableEq,Inhabited
abbrev RView.enc (x:RView):Cs:=[sl RDag.K x.fD]
abbrev RView.K:Kd RView:=⟨1,default,RView.enc,fun _=>rfl,fun _=>(ones_cons one_sl ones_nil)⟩
structure RQue where
 fMost:Int
 fL:List Edu
 fLost:Int
 deriving DecidableEq,Inhabited
abbrev RQue.enc (x:RQue):Cs:=[eq (.int .i64 x.fMost),sl Edu.K x.fL,eq (.int .i64 x.fLost)]
abbrev RQue.K:Kd RQue:=⟨3,default,RQue.enc,fun _=>rfl,fun _=>(ones_cons (one_eq rfl) (ones_cons one_sl (ones_cons (one_eq rfl) ones_nil)))⟩
structure RSnd where
 fSelf:ByteArray
 fTo:ByteArray
 fN:Int
 fQ:RQue
 fFly:Par
 fOn:Bool
 fTries:Int
 fDue:Int
 deriving DecidableEq,Inhabited
abbrev RSnd.enc (x:RSnd):Cs:=[eq (.string x.fSelf),eq (.string x.fTo),eq (.int .i64 x.fN),eq (.int .i64 x.fQ.fMost),sl Edu.K x.fQ.fL,eq (.int .i64 x.fQ.fLost),eq (.bool x.fFly.fAck),eq (.string x.fFly.fFrom),eq (.string x.fFly.fTo),eq (.int .i64 x.fFly.fID),sl Edu.K x.fFly.fEdus,eq (.bool x.fOn),eq (.int .i64 x.fTries),eq (.int .i64 x.fDue)]
abbrev RSnd.K:Kd RSnd:=⟨14,default,RSnd.enc,fun _=>rfl,fun _=>(ones_cons (one_eq rfl) (ones_cons (one_eq rfl) (ones_cons (one_eq rfl) (ones_cons (one_eq rfl) (ones_cons one_sl (ones_cons (one_eq rfl) (ones_cons (one_eq rfl) (ones_cons (one_eq rfl) (ones_cons (one_eq rfl) (ones_cons (one_eq rfl) (ones_cons one_sl (ones_cons (one_eq rfl) (ones_cons (one_eq rfl) (ones_cons (one_eq rfl) ones_nil))))))))))))))⟩
structure SStep where
 fDo:Int
 fN:Int
 fE:Edu
 deriving DecidableEq,Inhabited
abbrev SStep.enc (x:SStep):Cs:=[eq (.int .i64 x.fDo),eq (.int .i64 x.fN),eq (.int .i64 x.fE.fKind),eq (.string x.fE.fRoom),eq (.string x.fE.fUser),eq (.string x.fE.fEvent),eq (.string x.fE.fThread),eq (.bool x.fE.fPrivate),eq (.bool x.fE.fOn),eq (.int .i64 x.fE.fSpan),eq (.int .i64 x.fE.fState),eq (.int .i64 x.fE.fTick),eq (.int .i64 x.fE.fStamp)]
abbrev SStep.K:Kd SStep:=⟨13,default,SStep.enc,fun _=>rfl,fun _=>(ones_cons (one_eq rfl) (ones_cons (one_eq rfl) (ones_cons (one_eq rfl) (ones_cons (one_eq rfl) (ones_cons (one_eq rfl) (ones_cons (one_eq rfl) (ones_cons (one_eq rfl) (ones_cons (one_eq rfl) (ones_cons (one_eq rfl) (ones_cons (one_eq rfl) (ones_cons (one_eq rfl) (ones_cons (one_eq rfl) (ones_cons (one_eq rfl) ones_nil)))))))))))))⟩
def EKey.cv (k:EKey):List Value:=[.int .i64 k.fKind,.string k.fRoom,.string k.fUser,.string k.fThread,.bool k.fPrivate]
def EKey.kv (k:EKey):Value:=.agg (EKey.cv k).toArray
theorem EKey.kq (k:EKey):∀ R u,(agg (EKey.enc k)).p R u→u = EKey.kv k:=fun _ _ h=>aggq (vs:=EKey.cv k) rfl h
theorem eqt101 (x y:EKey) {d:Nat} {w:World}:(Op.equalIn (d + 2) 101 (.agg [.int .i64 x.fKind,.string x.fRoom,.string x.fUser,.string x.fThread,.bool x.fPrivate].toArray) (.agg [.int .i64 y.fKind,.string y.fRoom,.string y.fUser,.string y.fThread,.bool y.fPrivate].toArray)).run Tryz.prog w = .ok (decide (x = y)) w:=by
 have e:decide (x = y) = ((decide (x.fKind = y.fKind) && (decide (x.fRoom = y.fRoom) && (decide (x.fUser = y.fUser) && (decide (x.fThread = y.fThread) && (decide (x.fPrivate = y.fPrivate) && true)))))):=by cases x; cases y; rw [Bool.eq_iff_iff]; simp
 rw [e]
 exact eq_struct Tryz.underlying101 st101 (eqF_cons (by decide) (run_part1 Tryz.underlying3 rfl rfl) (run_part1 Tryz.underlying3 rfl rfl) (eq_int Tryz.underlying3) (eqF_cons (by decide) (run_part1 Tryz.underlying9 rfl rfl) (run_part1 Tryz.underlying9 rfl rfl) (eq_str Tryz.underlying9) (eqF_cons (by decide) (run_part1 Tryz.underlying9 rfl rfl) (run_part1 Tryz.underlying9 rfl rfl) (eq_str Tryz.underlying9) (eqF_cons (by decide) (run_part1 Tryz.underlying9 rfl rfl) (run_part1 Tryz.underlying9 rfl rfl) (eq_str Tryz.underlying9) (eqF_cons (by decide) (run_part1 Tryz.underlying4 rfl rfl) (run_part1 Tryz.underlying4 rfl rfl) (eq_bool Tryz.underlying4) eqF_nil)))))
theorem kok101:KeyOk Tryz.prog 101 EKey.kv:=keyOk_struct (fun k=>(EKey.cv k).toArray) Tryz.underlying101 (fun _=>rfl) (fun k=>(all_cons ⟨⟨_,Tryz.underlying3,.inr (.inr ⟨_,rfl⟩)⟩,_,fun _=>run_part1 Tryz.underlying3 rfl rfl⟩ (all_cons ⟨⟨_,Tryz.underlying9,.inl rfl⟩,_,fun _=>run_part1 Tryz.underlying9 rfl rfl⟩ (all_cons ⟨⟨_,Tryz.underlying9,.inl rfl⟩,_,fun _=>run_part1 Tryz.underlying9 rfl rfl⟩ (all_cons ⟨⟨_,Tryz.underlying9,.inl rfl⟩,_,fun _=>run_part1 Tryz.underlying9 rfl rfl⟩ (all_cons ⟨⟨_,Tryz.underlying4,.inr (.inl rfl)⟩,_,fun _=>run_part1 Tryz.underlying4 rfl rfl⟩ all_nil)))))) (fun k c w=>equal_of 2 (by decide) (fun _=>eqt101 k c)) (fun k=>by simp [EKey.kv,EKey.cv,Instr.sameBits,ba_beq])
theorem eqt32 (x y:Edu) {d:Nat} {w:World}:(Op.equalIn (d + 2) 32 (.agg [.int .i64 x.fKind,.string x.fRoom,.string x.fUser,.string x.fEvent,.string x.fThread,.bool x.fPrivate,.bool x.fOn,.int .i64 x.fSpan,.int .i64 x.fState,.int .i64 x.fTick,.int .i64 x.fStamp].toArray) (.agg [.int .i64 y.fKind,.string y.fRoom,.string y.fUser,.string y.fEvent,.string y.fThread,.bool y.fPrivate,.bool y.fOn,.int .i64 y.fSpan,.int .i64 y.fState,.int .i64 y.fTick,.int .i64 y.fStamp].toArray)).run Tryz.prog w = .ok (decide (x = y)) w:=by
 have e:decide (x = y) = ((decide (x.fKind = y.fKind) && (decide (x.fRoom = y.fRoom) && (decide (x.fUser = y.fUser) && (decide (x.fEvent = y.fEvent) && (decide (x.fThread = y.fThread) && (decide (x.fPrivate = y.fPrivate) && (decide (x.fOn = y.fOn) && (decide (x.fSpan = y.fSpan) && (decide (x.fState = y.fState) && (decide (x.fTick = y.fTick) && (decide (x.fStamp = y.fStamp) && true)))))))))))):=by cases x; cases y; rw [Bool.eq_iff_iff]; simp
 rw [e]
 exact eq_struct Tryz.underlying32 st32 (eqF_cons (by decide) (run_part1 Tryz.underlying3 rfl rfl) (run_part1 Tryz.underlying3 rfl rfl) (eq_int Tryz.underlying3) (eqF_cons (by decide) (run_part1 Tryz.underlying9 rfl rfl) (run_part1 Tryz.underlying9 rfl rfl) (eq_str Tryz.underlying9) (eqF_cons (by decide) (run_part1 Tryz.underlying9 rfl rfl) (run_part1 Tryz.underlying9 rfl rfl) (eq_str Tryz.underlying9) (eqF_cons (by decide) (run_part1 Tryz.underlying9 rfl rfl) (run_part1 Tryz.underlying9 rfl rfl) (eq_str Tryz.underlying9) (eqF_cons (by decide) (run_part1 Tryz.underlying9 rfl rfl) (run_part1 Tryz.underlying9 rfl rfl) (eq_str Tryz.underlying9) (eqF_cons (by decide) (run_part1 Tryz.underlying4 rfl rfl) (run_part1 Tryz.underlying4 rfl rfl) (eq_bool Tryz.underlying4) (eqF_cons (by decide) (run_part1 Tryz.underlying4 rfl rfl) (run_part1 Tryz.underlying4 rfl rfl) (eq_bool Tryz.underlying4) (eqF_cons (by decide) (run_part1 Tryz.underlying3 rfl rfl) (run_part1 Tryz.underlying3 rfl rfl) (eq_int Tryz.underlying3) (eqF_cons (by decide) (run_part1 Tryz.underlying3 rfl rfl) (run_part1 Tryz.underlying3 rfl rfl) (eq_int Tryz.underlying3) (eqF_cons (by decide) (run_part1 Tryz.underlying3 rfl rfl) (run_part1 Tryz.underlying3 rfl rfl) (eq_int Tryz.underlying3) (eqF_cons (by decide) (run_part1 Tryz.underlying3 rfl rfl) (run_part1 Tryz.underlying3 rfl rfl) (eq_int Tryz.underlying3) eqF_nil)))))))))))
def fqQ_uint8_bool (g:Int→Option Bool):List VP→VP→Prop:=fun vs ret=>∃ a0 r,g a0 = some r∧vs = [eq (.int .u8 a0)]∧ret = eq (.bool r)
def fq_uint8_bool (g:Int→Option Bool):VP:=fnq Tryz.prog (fqQ_uint8_bool g)
def fK_uint8_bool:Kd (Int→Option Bool):=⟨1,fun _=>none,fun g=>[fq_uint8_bool g],fun _=>rfl,fun _ p h R v hv=>by simp at h; subst h; exact one_fnq R v hv⟩
def SQue.O (p:OV) (m:SQue):As:=exA (γ:=Nat×OV×OV) (fun g=>p.1 = .pointer (some ⟨g.1,0,none⟩)) (fun g=>[blk g.1 107 [eq (.int .i64 m.fmost),eq g.2.1.1,eq g.2.2.1,eq (.int .i64 m.flost)],own EKey.K g.2.1.1 m.fkeys,mp EKey.kv (fun x:Edu=>agg (Edu.enc x)) g.2.2.1 m.fat])
theorem SQue.nn {p:OV} {m:SQue}:NN (SQue.O p m) p.1:=by unfold SQue.O; exact nn_ex (γ:=Nat×OV×OV) (b:=fun g=>g.1)
theorem SQue.opn {l:List As} {p:OV} {m:SQue} (j:Nat) (hj:l[j]? = some (SQue.O p m)):∀ R w,St R l w→∃ g:Nat×OV×OV,p.1 = .pointer (some ⟨g.1,0,none⟩)∧St R ([blk g.1 107 [eq (.int .i64 m.fmost),eq g.2.1.1,eq g.2.2.1,eq (.int .i64 m.flost)],own EKey.K g.2.1.1 m.fkeys,mp EKey.kv (fun x:Edu=>agg (Edu.enc x)) g.2.2.1 m.fat]++l.eraseIdx j) w:=st_open j hj
theorem SQue.shut {l r:List As} {p:OV} {m:SQue} (g:Nat×OV×OV) (hg:p.1 = .pointer (some ⟨g.1,0,none⟩)) (hp:l.Perm ([blk g.1 107 [eq (.int .i64 m.fmost),eq g.2.1.1,eq g.2.2.1,eq (.int .i64 m.flost)],own EKey.K g.2.1.1 m.fkeys,mp EKey.kv (fun x:Edu=>agg (Edu.enc x)) g.2.2.1 m.fat]++r)):∀ R w,St R l w→∃ _:Unit,True∧St R (SQue.O p m::r) w:=st_shut _ _ g hg hp
def Ctr.O (p:OV) (m:Ctr):As:=exA (γ:=Nat) (fun g=>p.1 = .pointer (some ⟨g,0,none⟩)) (fun g=>[blk g 173 [eq (.int .i64 m.fn.fv),eq (.int .i64 m.fmost)]])
theorem Ctr.nn {p:OV} {m:Ctr}:NN (Ctr.O p m) p.1:=by unfold Ctr.O; exact nn_ex (γ:=Nat) (b:=fun g=>g)
theorem Ctr.opn {l:List As} {p:OV} {m:Ctr} (j:Nat) (hj:l[j]? = some (Ctr.O p m)):∀ R w,St R l w→∃ g:Nat,p.1 = .pointer (some ⟨g,0,none⟩)∧St R ([blk g 173 [eq (.int .i64 m.fn.fv),eq (.int .i64 m.fmost)]]++l.eraseIdx j) w:=st_open j hj
theorem Ctr.shut {l r:List As} {p:OV} {m:Ctr} (g:Nat) (hg:p.1 = .pointer (some ⟨g,0,none⟩)) (hp:l.Perm ([blk g 173 [eq (.int .i64 m.fn.fv),eq (.int .i64 m.fmost)]]++r)):∀ R w,St R l w→∃ _:Unit,True∧St R (Ctr.O p m::r) w:=st_shut _ _ g hg hp
def Fly.O (p:OV) (m:Fly):As:=exA (γ:=Nat) (fun g=>p.1 = .pointer (some ⟨g,0,none⟩)) (fun g=>[blk g 111 [eq (.bool m.fp.fAck),eq (.string m.fp.fFrom),eq (.string m.fp.fTo),eq (.int .i64 m.fp.fID),sl Edu.K m.fp.fEdus,eq (.int .i64 m.ftries),eq (.int .i64 m.fdue)]])
theorem Fly.nn {p:OV} {m:Fly}:NN (Fly.O p m) p.1:=by unfold Fly.O; exact nn_ex (γ:=Nat) (b:=fun g=>g)
theorem Fly.opn {l:List As} {p:OV} {m:Fly} (j:Nat) (hj:l[j]? = some (Fly.O p m)):∀ R w,St R l w→∃ g:Nat,p.1 = .pointer (some ⟨g,0,none⟩)∧St R ([blk g 111 [eq (.bool m.fp.fAck),eq (.string m.fp.fFrom),eq (.string m.fp.fTo),eq (.int .i64 m.fp.fID),sl Edu.K m.fp.fEdus,eq (.int .i64 m.ftries),eq (.int .i64 m.fdue)]]++l.eraseIdx j) w:=st_open j hj
theorem Fly.shut {l r:List As} {p:OV} {m:Fly} (g:Nat) (hg:p.1 = .pointer (some ⟨g,0,none⟩)) (hp:l.Perm ([blk g 111 [eq (.bool m.fp.fAck),eq (.string m.fp.fFrom),eq (.string m.fp.fTo),eq (.int .i64 m.fp.fID),sl Edu.K m.fp.fEdus,eq (.int .i64 m.ftries),eq (.int .i64 m.fdue)]]++r)):∀ R w,St R l w→∃ _:Unit,True∧St R (Fly.O p m::r) w:=st_shut _ _ g hg hp
def SSnd.O (p:OV) (m:SSnd):As:=exA (γ:=Nat×OV×OV×OV) (fun g=>p.1 = .pointer (some ⟨g.1,0,none⟩)) (fun g=>[blk g.1 40 [eq g.2.1.1,eq (.string m.fself),eq (.string m.fto),eq g.2.2.1.1,eq g.2.2.2.1],SQue.O g.2.1 m.fQueue,Ctr.O g.2.2.1 m.fids,optO Fly.O g.2.2.2 m.fair])
theorem SSnd.nn {p:OV} {m:SSnd}:NN (SSnd.O p m) p.1:=by unfold SSnd.O; exact nn_ex (γ:=Nat×OV×OV×OV) (b:=fun g=>g.1)
theorem SSnd.opn {l:List As} {p:OV} {m:SSnd} (j:Nat) (hj:l[j]? = some (SSnd.O p m)):∀ R w,St R l w→∃ g:Nat×OV×OV×OV,p.1 = .pointer (some ⟨g.1,0,none⟩)∧St R ([blk g.1 40 [eq g.2.1.1,eq (.string m.fself),eq (.string m.fto),eq g.2.2.1.1,eq g.2.2.2.1],SQue.O g.2.1 m.fQueue,Ctr.O g.2.2.1 m.fids,optO Fly.O g.2.2.2 m.fair]++l.eraseIdx j) w:=st_open j hj
theorem SSnd.shut {l r:List As} {p:OV} {m:SSnd} (g:Nat×OV×OV×OV) (hg:p.1 = .pointer (some ⟨g.1,0,none⟩)) (hp:l.Perm ([blk g.1 40 [eq g.2.1.1,eq (.string m.fself),eq (.string m.fto),eq g.2.2.1.1,eq g.2.2.2.1],SQue.O g.2.1 m.fQueue,Ctr.O g.2.2.1 m.fids,optO Fly.O g.2.2.2 m.fair]++r)):∀ R w,St R l w→∃ _:Unit,True∧St R (SSnd.O p m::r) w:=st_shut _ _ g hg hp
def DNode.O (p:OV) (m:DNode):As:=exA (γ:=Nat) (fun g=>p.1 = .pointer (some ⟨g,0,none⟩)) (fun g=>[blk g 163 [eq (.string m.fe.fID),eq (.string m.fe.fRoom),sl strK m.fe.fParents,eq (.string m.fe.fThread),eq (.string m.fe.fUser),eq (.int .i64 m.fe.fDoes),eq (.int .i64 m.fdepth),eq (.bool m.fparent)]])
theorem DNode.nn {p:OV} {m:DNode}:NN (DNode.O p m) p.1:=by unfold DNode.O; exact nn_ex (γ:=Nat) (b:=fun g=>g)
theorem DNode.opn {l:List As} {p:OV} {m:DNode} (j:Nat) (hj:l[j]? = some (DNode.O p m)):∀ R w,St R l w→∃ g:Nat,p.1 = .pointer (some ⟨g,0,none⟩)∧St R ([blk g 163 [eq (.string m.fe.fID),eq (.string m.fe.fRoom),sl strK m.fe.fParents,eq (.string m.fe.fThread),eq (.string m.fe.fUser),eq (.int .i64 m.fe.fDoes),eq (.int .i64 m.fdepth),eq (.bool m.fparent)]]++l.eraseIdx j) w:=st_open j hj
theorem DNode.shut {l r:List As} {p:OV} {m:DNode} (g:Nat) (hg:p.1 = .pointer (some ⟨g,0,none⟩)) (hp:l.Perm ([blk g 163 [eq (.string m.fe.fID),eq (.string m.fe.fRoom),sl strK m.fe.fParents,eq (.string m.fe.fThread),eq (.string m.fe.fUser),eq (.int .i64 m.fe.fDoes),eq (.int .i64 m.fdepth),eq (.bool m.fparent)]]++r)):∀ R w,St R l w→∃ _:Unit,True∧St R (DNode.O p m::r) w:=st_shut _ _ g hg hp
def DDag.O (p:OV) (m:DDag):As:=exA (γ:=Nat×OV) (fun g=>p.1 = .pointer (some ⟨g.1,0,none⟩)) (fun g=>[blk g.1 159 [eq (.string m.froom),eq g.2.1],mpo Value.string DNode.O g.2.1 m.fnodes])
theorem DDag.nn {p:OV} {m:DDag}:NN (DDag.O p m) p.1:=by unfold DDag.O; exact nn_ex (γ:=Nat×OV) (b:=fun g=>g.1)
theorem DDag.opn {l:List As} {p:OV} {m:DDag} (j:Nat) (hj:l[j]? = some (DDag.O p m)):∀ R w,St R l w→∃ g:Nat×OV,p.1 = .pointer (some ⟨g.1,0,none⟩)∧St R ([blk g.1 159 [eq (.string m.froom),eq g.2.1],mpo Value.string DNode.O g.2.1 m.fnodes]++l.eraseIdx j) w:=st_open j hj
theorem DDag.shut {l r:List As} {p:OV} {m:DDag} (g:Nat×OV) (hg:p.1 = .pointer (some ⟨g.1,0,none⟩)) (hp:l.Perm ([blk g.1 159 [eq (.string m.froom),eq g.2.1],mpo Value.string DNode.O g.2.1 m.fnodes]++r)):∀ R w,St R l w→∃ _:Unit,True∧St R (DDag.O p m::r) w:=st_shut _ _ g hg hp
def VView.O (p:OV) (m:VView):As:=exA (γ:=Nat×OV) (fun g=>p.1 = .pointer (some ⟨g.1,0,none⟩)) (fun g=>[blk g.1 95 [eq g.2.1],mpo Value.string DDag.O g.2.1 m.fdags])
theorem VView.nn {p:OV} {m:VView}:NN (VView.O p m) p.1:=by unfold VView.O; exact nn_ex (γ:=Nat×OV) (b:=fun g=>g.1)
theorem VView.opn {l:List As} {p:OV} {m:VView} (j:Nat) (hj:l[j]? = some (VView.O p m)):∀ R w,St R l w→∃ g:Nat×OV,p.1 = .pointer (some ⟨g.1,0,none⟩)∧St R ([blk g.1 95 [eq g.2.1],mpo Value.string DDag.O g.2.1 m.fdags]++l.eraseIdx j) w:=st_open j hj
theorem VView.shut {l r:List As} {p:OV} {m:VView} (g:Nat×OV) (hg:p.1 = .pointer (some ⟨g.1,0,none⟩)) (hp:l.Perm ([blk g.1 95 [eq g.2.1],mpo Value.string DDag.O g.2.1 m.fdags]++r)):∀ R w,St R l w→∃ _:Unit,True∧St R (VView.O p m::r) w:=st_shut _ _ g hg hp
def fqQ_int_int_int_bool (g:Int→Int→Int→Option Bool):List VP→VP→Prop:=fun vs ret=>∃ a0 a1 a2 r,g a0 a1 a2 = some r∧vs = [eq (.int .i64 a0),eq (.int .i64 a1),eq (.int .i64 a2)]∧ret = eq (.bool r)
def fq_int_int_int_bool (g:Int→Int→Int→Option Bool):VP:=fnq Tryz.prog (fqQ_int_int_int_bool g)
def fqQ_api_Edu_bool (g:Edu→Option Bool):List VP→VP→Prop:=fun vs ret=>∃ a0 r,g a0 = some r∧vs = [agg (Edu.enc a0)]∧ret = eq (.bool r)
def fq_api_Edu_bool (g:Edu→Option Bool):VP:=fnq Tryz.prog (fqQ_api_Edu_bool g)
def fx_api_Edu_bool (X:As) (g:Edu→Option Bool):VP:=fnx Tryz.prog X (fqQ_api_Edu_bool g)
def fK_api_Edu_bool:Kd (Edu→Option Bool):=⟨1,fun _=>none,fun g=>[fq_api_Edu_bool g],fun _=>rfl,fun _ p h R v hv=>by simp at h; subst h; exact one_fnq R v hv⟩
def fqQ_edu_Key_bool (g:EKey→Option Bool):List VP→VP→Prop:=fun vs ret=>∃ a0 r,g a0 = some r∧vs = [agg (EKey.enc a0)]∧ret = eq (.bool r)
def fx_edu_Key_bool (X:As) (g:EKey→Option Bool):VP:=fnx Tryz.prog X (fqQ_edu_Key_bool g)
def fqQ_string_bool (g:ByteArray→Option Bool):List VP→VP→Prop:=fun vs ret=>∃ a0 r,g a0 = some r∧vs = [eq (.string a0)]∧ret = eq (.bool r)
def fx_string_bool (X:As) (g:ByteArray→Option Bool):VP:=fnx Tryz.prog X (fqQ_string_bool g)
def name_small.f (a0:Int):Option (Bool):=cond (decide (97≤a0)) (cond (decide (a0≤122)) (some true) (cond (decide (48≤a0)) (some (decide (a0≤57))) (some false))) (cond (decide (48≤a0)) (some (decide (a0≤57))) (some false))
def stringslite_IndexByte.f (a0:ByteArray) (a1:Int):Option (Int):=some (idxB a0 a1)
def strings_IndexByte.f (a0:ByteArray) (a1:Int):Option (Int):=(stringslite_IndexByte.f a0 a1).bind fun t5=>some t5
def name_among_1.f (a0:Int) (c0:ByteArray):Option (Bool):=(name_small.f a0).bind fun t7=>cond t7 (some true) ((strings_IndexByte.f c0 a0).bind fun t10=>some (decide (0≤t10)))
def name_among.f (a0:ByteArray):Option ((Int→Option Bool)):=some (fun a0_=>name_among_1.f a0_ a0)
def name_may.l0 (k:Nat) (a0:ByteArray) (a1:Int) (t13:(Int→Option Bool)) (t15:(Int→Option Bool)) (t17:(Int→Option Bool)):Nat→Int→Option ((Int×Bool) ⊕ (Bool))
 | 0,_=>none
 | j28 + 1,x22=>cond (decide (x22 < (a0.size:Int))) (grd ((0:Int)≤x22∧x22 < (a0.size:Int)) (((fK_uint8_bool.at ([t13,t15,t17]:List (Int→Option Bool)) a1) (bt a0 x22)).bind fun t25=>cond (!t25) (some (.inr false)) (name_may.l0 k a0 a1 t13 t15 t17 j28 (w64 (x22 + 1))))) (some (.inl (x22,decide (x22 < (a0.size:Int)))))
def name_may.f (k:Nat) (a0:ByteArray) (a1:Int):Option (Bool):=(name_among.f (⟨#[46,45,95]⟩:ByteArray)).bind fun t13=>(name_among.f (⟨#[46,45]⟩:ByteArray)).bind fun t15=>(name_among.f (⟨#[45,95,65,66,67,68,69,70,71,72,73,74,75,76,77,78,79,80,81,82,83,84,85,86,87,88,89,90]⟩:ByteArray)).bind fun t17=>grd ((0:Int)≤a1∧a1 < (3:Int)) ((name_may.l0 k a0 a1 t13 t15 t17 k 0).bind (fall fun (p20:Int×Bool)=>cond (!decide (a0 = (⟨#[]⟩:ByteArray))) (some (decide ((a0.size:Int)≤16))) (some false)))
def name_Server.f (k:Nat) (a0:ByteArray):Option (Bool):=(name_may.f k a0 1).bind fun t30=>cond t30 (grd ((0:Int)≤0∧0 < (a0.size:Int)) ((name_small.f (bt a0 0)).bind fun t34=>cond t34 (grd ((0:Int)≤(w64 ((a0.size:Int) - 1))∧(w64 ((a0.size:Int) - 1)) < (a0.size:Int)) ((name_small.f (bt a0 (w64 ((a0.size:Int) - 1)))).bind fun t38=>some t38)) (some false))) (some false)
def queue_New.f (a0:Int):Option ((Option SQue)×Int):=cond (decide (a0 < 1)) (some (none,1)) (cond (decide (120 < a0)) (some (none,1)) (some (some (⟨a0,([]:List EKey),([]:List (EKey×Edu)),0⟩:SQue),0)))
def clock_New.f (a0:Int) (a1:Int):Option ((Option Ctr)×Int):=cond (decide (a1 < 1)) (some (none,1)) (cond (decide (1099511627776 < a1)) (some (none,1)) (cond (decide (a0 < 0)) (some (none,1)) (cond (decide (a1 < a0)) (some (none,1)) (some (some (⟨(⟨a0⟩:AtI),a1⟩:Ctr),0)))))
def sender_New.f (k:Nat) (a0:ByteArray) (a1:ByteArray) (a2:Int) (a3:Int):Option ((Option SSnd)×Int):=(name_Server.f k a0).bind fun t53=>cond (!t53) (some (none,1)) ((name_Server.f k a1).bind fun t57=>cond (!t57) (some (none,1)) (cond (decide (a0 = a1)) (some (none,1)) ((queue_New.f a2).bind fun t62=>cond (t62.2 != 0) (some (none,t62.2)) ((clock_New.f a3 1099511627776).bind fun t66=>cond (t66.2 != 0) (some (none,t66.2)) (grd (t62.1.isSome = true) (grd (t66.1.isSome = true) (some (some (⟨t62.1.getD default,a0,a1,t66.1.getD default,none⟩:SSnd),0))))))))
def w18_begin.f (k:Nat) (a0:Int) (a1:Int):Option ((Option SSnd)):=(sender_New.f k (⟨#[115,49]⟩:ByteArray) (⟨#[115,50]⟩:ByteArray) a0 a1).bind fun t73=>cond t73.1.isNone (some none) (cond (t73.2 != 0) (some none) (some (some (t73.1.getD default))))
def view_New.f:Option (VView):=some (⟨([]:List (ByteArray×DDag))⟩:VView)
def r01_Around.f (a0:Int) (a1:Int):Option (Int):=cond (decide (a0 < 0)) (grd (a1≠0) (some ((w64 (0 - (w64 (a0 + 1)))).tmod a1))) (grd (a1≠0) (some (a0.tmod a1)))
def r01_RoomOf.f (a0:Int):Option (ByteArray):=(r01_Around.f a0 2).bind fun t87=>grd ((0:Int)≤t87∧t87 < (([(⟨#[33,114,58,115,49]⟩:ByteArray),(⟨#[33,113,58,115,50]⟩:ByteArray)]:List ByteArray).length:Int)) (some (strK.at ([(⟨#[33,114,58,115,49]⟩:ByteArray),(⟨#[33,113,58,115,50]⟩:ByteArray)]:List ByteArray) t87))
def r01_ServerOf.f (a0:Int):Option (ByteArray):=(r01_Around.f a0 3).bind fun t90=>grd ((0:Int)≤t90∧t90 < (([(⟨#[115,49]⟩:ByteArray),(⟨#[115,50]⟩:ByteArray),(⟨#[115,51]⟩:ByteArray)]:List ByteArray).length:Int)) (some (strK.at ([(⟨#[115,49]⟩:ByteArray),(⟨#[115,50]⟩:ByteArray),(⟨#[115,51]⟩:ByteArray)]:List ByteArray) t90))
def r01_UserOf.f (a0:Int):Option (ByteArray):=(r01_Around.f a0 9).bind fun t93=>grd ((0:Int)≤(w64 (t93.tdiv 3))∧(w64 (t93.tdiv 3)) < (([(⟨#[64,97,58]⟩:ByteArray),(⟨#[64,98,58]⟩:ByteArray),(⟨#[64,99,58]⟩:ByteArray)]:List ByteArray).length:Int)) ((r01_ServerOf.f (t93.tmod 3)).bind fun t96=>grd ((strK.at ([(⟨#[64,97,58]⟩:ByteArray),(⟨#[64,98,58]⟩:ByteArray),(⟨#[64,99,58]⟩:ByteArray)]:List ByteArray) (w64 (t93.tdiv 3))).size + t96.size≤9223372036854775807) (some ((strK.at ([(⟨#[64,97,58]⟩:ByteArray),(⟨#[64,98,58]⟩:ByteArray),(⟨#[64,99,58]⟩:ByteArray)]:List ByteArray) (w64 (t93.tdiv 3)))++t96)))
def r01_low.f (a0:Int):Option (Bool):=cond (decide (97≤a0)) (cond (decide (a0≤122)) (some true) (cond (decide (48≤a0)) (some (decide (a0≤57))) (some false))) (cond (decide (48≤a0)) (some (decide (a0≤57))) (some false))
def r01_Event.l0 (k:Nat) (a0:ByteArray):Nat→Int→Option ((Int×Bool) ⊕ (Bool))
 | 0,_=>none
 | j134 + 1,x110=>cond (decide (x110 < (a0.size:Int))) (grd ((0:Int)≤x110∧x110 < (a0.size:Int)) ((r01_low.f (bt a0 x110)).bind fun t113=>grd ((0:Int)≤x110∧x110 < (a0.size:Int)) (cond (decide (65≤(bt a0 x110))) (grd ((0:Int)≤x110∧x110 < (a0.size:Int)) (cond (!t113) (cond (!(decide ((bt a0 x110)≤90))) (grd ((0:Int)≤x110∧x110 < (a0.size:Int)) (cond ((bt a0 x110) != 45) (grd ((0:Int)≤x110∧x110 < (a0.size:Int)) (cond ((bt a0 x110) != 95) (some (.inr false)) (r01_Event.l0 k a0 j134 (w64 (x110 + 1))))) (r01_Event.l0 k a0 j134 (w64 (x110 + 1))))) (r01_Event.l0 k a0 j134 (w64 (x110 + 1)))) (r01_Event.l0 k a0 j134 (w64 (x110 + 1))))) (cond (!t113) (grd ((0:Int)≤x110∧x110 < (a0.size:Int)) (cond ((bt a0 x110) != 45) (grd ((0:Int)≤x110∧x110 < (a0.size:Int)) (cond ((bt a0 x110) != 95) (some (.inr false)) (r01_Event.l0 k a0 j134 (w64 (x110 + 1))))) (r01_Event.l0 k a0 j134 (w64 (x110 + 1))))) (r01_Event.l0 k a0 j134 (w64 (x110 + 1))))))) (some (.inl (x110,decide (x110 < (a0.size:Int)))))
def r01_Event.f (k:Nat) (a0:ByteArray):Option (Bool):=cond (decide ((a0.size:Int) < 2)) (some false) (cond (decide (17 < (a0.size:Int))) (some false) (grd ((0:Int)≤0∧0 < (a0.size:Int)) (cond ((bt a0 0) != 36) (some false) ((r01_Event.l0 k a0 k 1).bind (fall fun (p109:Int×Bool)=>some true)))))
def r01_Server.l0 (k:Nat) (a0:ByteArray):Nat→Int→Option ((Int×Bool) ⊕ (Bool))
 | 0,_=>none
 | j160 + 1,x138=>cond (decide (x138 < (a0.size:Int))) (grd ((0:Int)≤x138∧x138 < (a0.size:Int)) ((r01_low.f (bt a0 x138)).bind fun t141=>cond (decide (0 < x138)) (cond (decide (x138 < (w64 ((a0.size:Int) - 1)))) (grd ((0:Int)≤x138∧x138 < (a0.size:Int)) (cond ((bt a0 x138) == 46) (cond (!t141) (r01_Server.l0 k a0 j160 (w64 (x138 + 1))) (r01_Server.l0 k a0 j160 (w64 (x138 + 1)))) (grd ((0:Int)≤x138∧x138 < (a0.size:Int)) (cond (!t141) (cond (!((bt a0 x138) == 45)) (some (.inr false)) (r01_Server.l0 k a0 j160 (w64 (x138 + 1)))) (r01_Server.l0 k a0 j160 (w64 (x138 + 1))))))) (cond (!t141) (some (.inr false)) (r01_Server.l0 k a0 j160 (w64 (x138 + 1))))) (cond (!t141) (some (.inr false)) (r01_Server.l0 k a0 j160 (w64 (x138 + 1)))))) (some (.inl (x138,decide (x138 < (a0.size:Int)))))
def r01_Server.f (k:Nat) (a0:ByteArray):Option (Bool):=(r01_Server.l0 k a0 k 0).bind (fall fun (p136:Int×Bool)=>cond (decide (0 < (a0.size:Int))) (some (decide ((a0.size:Int) < 17))) (some false))
def r01_colon.l0 (k:Nat) (a0:ByteArray):Nat→Int→Option ((Int×Bool) ⊕ (Int))
 | 0,_=>none
 | j167 + 1,x163=>cond (decide (x163 < (a0.size:Int))) (grd ((0:Int)≤x163∧x163 < (a0.size:Int)) (cond ((bt a0 x163) == 58) (some (.inr x163)) (r01_colon.l0 k a0 j167 (w64 (x163 + 1))))) (some (.inl (x163,decide (x163 < (a0.size:Int)))))
def r01_colon.f (k:Nat) (a0:ByteArray):Option (Int):=(r01_colon.l0 k a0 k 0).bind (fall fun (p162:Int×Bool)=>some (-1))
def r01_Part.l0 (k:Nat) (a0:ByteArray):Nat→Int→Option ((Int×Bool) ⊕ (Bool))
 | 0,_=>none
 | j186 + 1,x171=>cond (decide (x171 < (a0.size:Int))) (grd ((0:Int)≤x171∧x171 < (a0.size:Int)) ((r01_low.f (bt a0 x171)).bind fun t174=>cond (!t174) (grd ((0:Int)≤x171∧x171 < (a0.size:Int)) (cond ((bt a0 x171) != 46) (grd ((0:Int)≤x171∧x171 < (a0.size:Int)) (cond ((bt a0 x171) != 45) (grd ((0:Int)≤x171∧x171 < (a0.size:Int)) (cond ((bt a0 x171) != 95) (some (.inr false)) (r01_Part.l0 k a0 j186 (w64 (x171 + 1))))) (r01_Part.l0 k a0 j186 (w64 (x171 + 1))))) (r01_Part.l0 k a0 j186 (w64 (x171 + 1))))) (r01_Part.l0 k a0 j186 (w64 (x171 + 1))))) (some (.inl (x171,decide (x171 < (a0.size:Int)))))
def r01_Part.f (k:Nat) (a0:ByteArray):Option (Bool):=(r01_Part.l0 k a0 k 0).bind (fall fun (p169:Int×Bool)=>cond (decide (0 < (a0.size:Int))) (some (decide ((a0.size:Int) < 17))) (some false))
def r01_Named.f (k:Nat) (a0:ByteArray) (a1:Int):Option (Bool):=(r01_colon.f k a0).bind fun t188=>cond (decide (t188 < 1)) (some false) (grd ((0:Int)≤0∧0 < (a0.size:Int)) (cond ((bt a0 0) != a1) (some false) (grd ((0:Int)≤1∧(0:Int)≤t188∧(1:Int).toNat≤t188.toNat∧t188.toNat≤a0.size) ((r01_Part.f k (a0.extract (1:Int).toNat t188.toNat)).bind fun t195=>grd ((0:Int)≤(w64 (t188 + 1))∧(w64 (t188 + 1)).toNat≤a0.size∧a0.size≤a0.size) ((r01_Server.f k (a0.extract (w64 (t188 + 1)).toNat a0.size)).bind fun t198=>cond t195 (some t198) (some false))))))
def r07_May.l0 (k:Nat) (a0:Event):Nat→Int→Option ((Int×Bool) ⊕ (Bool))
 | 0,_=>none
 | j235 + 1,x221=>cond (decide (x221 < (a0.fParents.length:Int))) (grd ((0:Int)≤x221∧x221 < (a0.fParents.length:Int)) ((r01_Event.f k (strK.at a0.fParents x221)).bind fun t224=>cond (!t224) (some (.inr false)) (grd ((0:Int)≤x221∧x221 < (a0.fParents.length:Int)) (cond (decide ((strK.at a0.fParents x221) = a0.fID)) (some (.inr false)) (cond (decide (0 < x221)) (grd ((0:Int)≤(max (w64 (x221 - 1)) 0)∧(max (w64 (x221 - 1)) 0) < (a0.fParents.length:Int)) (grd ((0:Int)≤x221∧x221 < (a0.fParents.length:Int)) (cond (!sLt (strK.at a0.fParents (max (w64 (x221 - 1)) 0)) (strK.at a0.fParents x221)) (some (.inr false)) (r07_May.l0 k a0 j235 (w64 (x221 + 1)))))) (r07_May.l0 k a0 j235 (w64 (x221 + 1)))))))) (some (.inl (x221,decide (x221 < (a0.fParents.length:Int)))))
def r07_May.f (k:Nat) (a0:Event):Option (Bool):=(r01_Event.f k a0.fID).bind fun t202=>(r01_Named.f k a0.fRoom 33).bind fun t204=>(r01_Named.f k a0.fUser 64).bind fun t206=>cond (!t202) (some false) (cond (!t204) (some false) (cond (!t206) (some false) (cond (decide (4 < (a0.fParents.length:Int))) (some false) (cond (decide (a0.fDoes < 0)) (some false) (cond (decide (2 < a0.fDoes)) (some false) ((cond (!decide (a0.fThread = (⟨#[]⟩:ByteArray))) ((r01_Event.f k a0.fThread).bind fun t238=>cond (!t238) (some (.inr false)) (cond (decide (a0.fThread = a0.fID)) (some (.inr false)) (cond (a0.fDoes != 0) (some (.inr false)) (some (.inl ()))))) (some (.inl ()))).bind (fall fun (p219:Unit)=>(r07_May.l0 k a0 k 0).bind (fall fun (p220:Int×Bool)=>some true))))))))
def r07_At.l0 (k:Nat) (a0:RDag) (a1:ByteArray):Nat→Int→Option ((Int×Bool) ⊕ (Int))
 | 0,_=>none
 | j251 + 1,x247=>cond (decide (x247 < (a0.fL.length:Int))) (grd ((0:Int)≤x247∧x247 < (a0.fL.length:Int)) (cond (decide (((Event.K.at a0.fL x247).fID) = a1)) (some (.inr x247)) (r07_At.l0 k a0 a1 j251 (w64 (x247 + 1))))) (some (.inl (x247,decide (x247 < (a0.fL.length:Int)))))
def r07_At.f (k:Nat) (a0:RDag) (a1:ByteArray):Option (Int):=(r07_At.l0 k a0 a1 k 0).bind (fall fun (p246:Int×Bool)=>some (-1))
def r07_Add.l0 (k:Nat) (a0:RDag) (a1:Event):Nat→Int→Option ((Int×Bool) ⊕ (RDag×Int))
 | 0,_=>none
 | j285 + 1,x279=>cond (decide (x279 < (a1.fParents.length:Int))) (grd ((0:Int)≤x279∧x279 < (a1.fParents.length:Int)) ((r07_At.f k a0 (strK.at a1.fParents x279)).bind fun t282=>cond (decide (t282 < 0)) (some (.inr (a0,4))) (r07_Add.l0 k a0 a1 j285 (w64 (x279 + 1))))) (some (.inl (x279,decide (x279 < (a1.fParents.length:Int)))))
def r07_Add.f (k:Nat) (a0:RDag) (a1:Event):Option (RDag×Int):=(r07_May.f k a1).bind fun t256=>cond (!t256) (some (a0,1)) (cond (!decide (a1.fRoom = a0.fRoom)) (some (a0,1)) ((r07_At.f k a0 a1.fID).bind fun t261=>cond (decide (0≤t261)) (some (a0,9)) ((r07_Add.l0 k a0 a1 k 0).bind (fall fun (p264:Int×Bool)=>(cond (!decide (a1.fThread = (⟨#[]⟩:ByteArray))) ((r07_At.f k a0 a1.fThread).bind fun t271=>cond (decide (t271 < 0)) (some (.inr (a0,4))) (grd ((0:Int)≤t271∧t271 < (a0.fL.length:Int)) (cond (!decide (((Event.K.at a0.fL t271).fThread) = (⟨#[]⟩:ByteArray))) (some (.inr (a0,7))) (grd ((0:Int)≤t271∧t271 < (a0.fL.length:Int)) (cond (((Event.K.at a0.fL t271).fDoes) != 0) (some (.inr (a0,7))) (some (.inl ()))))))) (some (.inl ()))).bind (fall fun (p265:Unit)=>grd (([]:List Event).length + a0.fL.length≤9223372036854775807∧(([]:List Event).length + a0.fL.length) * 96≤140737488355328) (grd ((([]:List Event)++a0.fL).length + ([a1]:List Event).length≤9223372036854775807∧((([]:List Event)++a0.fL).length + ([a1]:List Event).length) * 96≤140737488355328) (some ((⟨a0.fRoom,(([]:List Event)++a0.fL)++([a1]:List Event)⟩:RDag),0))))))))
def r01_Decimal.f:Nat→Int→Option (ByteArray)
 | 0,_=>none
 | k + 1,a0=>(cond (decide ((a0.tmod 10) < 0)) (some (w64 (0 - (a0.tmod 10)))) (some (a0.tmod 10))).bind fun (p287:Int)=>cond (decide ((-10) < a0)) (cond (decide (a0 < 10)) (cond (decide (a0 < 0)) (grd ((⟨#[45]⟩:ByteArray).size + (ofNums ([IntKind.u8.wrap (w64 (48 + p287))]:List Int)).size≤9223372036854775807) (some ((⟨#[45]⟩:ByteArray)++(ofNums ([IntKind.u8.wrap (w64 (48 + p287))]:List Int))))) (some (ofNums ([IntKind.u8.wrap (w64 (48 + p287))]:List Int)))) ((r01_Decimal.f k (w64 (a0.tdiv 10))).bind fun t292=>grd (t292.size + (ofNums ([IntKind.u8.wrap (w64 (48 + p287))]:List Int)).size≤9223372036854775807) (some (t292++(ofNums ([IntKind.u8.wrap (w64 (48 + p287))]:List Int)))))) ((r01_Decimal.f k (w64 (a0.tdiv 10))).bind fun t296=>grd (t296.size + (ofNums ([IntKind.u8.wrap (w64 (48 + p287))]:List Int)).size≤9223372036854775807) (some (t296++(ofNums ([IntKind.u8.wrap (w64 (48 + p287))]:List Int)))))
def r01_EventOf.f (k:Nat) (a0:Int):Option (ByteArray):=(r01_Around.f a0 9).bind fun t300=>(r01_Decimal.f k t300).bind fun t302=>grd ((⟨#[36,101]⟩:ByteArray).size + t302.size≤9223372036854775807) (some ((⟨#[36,101]⟩:ByteArray)++t302))
def r07_Made.l1 (k:Nat) (x308:Int) (p327:Int×Bool×(List Bool)):Nat→Int→List ByteArray→Option (Int×Bool×(List ByteArray))
 | 0,_,_=>none
 | j374 + 1,x363,x364=>cond (decide (x363 < x308)) (grd ((0:Int)≤x363∧x363 < (p327.2.2.length:Int)) (cond (p327.2.2.getD x363.toNat default) ((r01_EventOf.f k x363).bind fun t370=>grd (x364.length + ([t370]:List ByteArray).length≤9223372036854775807∧(x364.length + ([t370]:List ByteArray).length) * 16≤140737488355328) (r07_Made.l1 k x308 p327 j374 (w64 (x363 + 1)) (x364++([t370]:List ByteArray)))) (r07_Made.l1 k x308 p327 j374 (w64 (x363 + 1)) x364))) (some (x363,decide (x363 < x308),x364))
def edu_asks_1.f (a0:Int) (a1:Int) (a2:Int):Option (Bool):=cond (decide (a1≤a0)) (some (decide (a0≤a2))) (some false)
def edu_asks_2.f (a0:Edu):Option (Bool):=some false
def stringslite_HasPrefix.f (a0:ByteArray) (a1:ByteArray):Option (Bool):=cond (decide ((a1.size:Int)≤(a0.size:Int))) (grd ((0:Int)≤(a1.size:Int)∧0≤(a1.size:Int).toNat∧(a1.size:Int).toNat≤a0.size) (some (decide ((a0.extract 0 ((a1.size:Int).toNat)) = a1)))) (some false)
def stringslite_CutPrefix.f (a0:ByteArray) (a1:ByteArray):Option (ByteArray×Bool):=(stringslite_HasPrefix.f a0 a1).bind fun t413=>cond (!t413) (some (a0,false)) (grd ((0:Int)≤(a1.size:Int)∧(a1.size:Int).toNat≤a0.size∧a0.size≤a0.size) (some (a0.extract (a1.size:Int).toNat a0.size,true)))
def strings_CutPrefix.f (a0:ByteArray) (a1:ByteArray):Option (ByteArray×Bool):=(stringslite_CutPrefix.f a0 a1).bind fun t417=>some (t417.1,t417.2)
def name_Event.f (k:Nat) (a0:ByteArray):Option (Bool):=(strings_CutPrefix.f a0 (⟨#[36]⟩:ByteArray)).bind fun t419=>cond t419.2 ((name_may.f k t419.1 2).bind fun t422=>some t422) (some false)
def stringslite_Index.f (a0:ByteArray) (a1:ByteArray):Option (Int):=cond ((a1.size:Int) == 0) (some 0) (cond (decide (a1 = a0)) (some 0) (cond ((a1.size:Int) == 1) (grd ((0:Int)≤0∧0 < (a1.size:Int)) ((stringslite_IndexByte.f a0 (bt a1 0)).bind fun t429=>some t429)) (cond (decide ((a0.size:Int)≤(a1.size:Int))) (some (-1)) (none))))
def stringslite_Cut.f (a0:ByteArray) (a1:ByteArray):Option (ByteArray×ByteArray×Bool):=(stringslite_Index.f a0 a1).bind fun t432=>cond (decide (0≤t432)) (grd ((0:Int)≤t432∧0≤t432.toNat∧t432.toNat≤a0.size) (grd ((0:Int)≤(w64 (t432 + (a1.size:Int)))∧(w64 (t432 + (a1.size:Int))).toNat≤a0.size∧a0.size≤a0.size) (some (a0.extract 0 t432.toNat,a0.extract (w64 (t432 + (a1.size:Int))).toNat a0.size,true)))) (some (a0,(⟨#[]⟩:ByteArray),false))
def strings_Cut.f (a0:ByteArray) (a1:ByteArray):Option (ByteArray×ByteArray×Bool):=(stringslite_Cut.f a0 a1).bind fun t437=>some (t437.1,t437.2.1,t437.2.2)
def name_split.f (k:Nat) (a0:ByteArray) (a1:ByteArray):Option (ByteArray×ByteArray×Bool):=(strings_CutPrefix.f a0 a1).bind fun t439=>(strings_Cut.f t439.1 (⟨#[58]⟩:ByteArray)).bind fun t441=>cond t439.2 (cond t441.2.2 ((name_may.f k t441.1 0).bind fun t445=>cond t445 ((name_Server.f k t441.2.1).bind fun t448=>some (t441.1,t441.2.1,t448)) (some (t441.1,t441.2.1,false))) (some (t441.1,t441.2.1,false))) (some (t441.1,t441.2.1,false))
def name_Room.f (k:Nat) (a0:ByteArray):Option (Bool):=(name_split.f k a0 (⟨#[33]⟩:ByteArray)).bind fun t450=>some t450.2.2
def name_Thread.f (k:Nat) (a0:ByteArray):Option (Bool):=cond (decide (a0 = (⟨#[]⟩:ByteArray))) (some true) (cond (decide (a0 = (⟨#[109,97,105,110]⟩:ByteArray))) (some true) ((name_Event.f k a0).bind fun t454=>some t454))
def edu_asks_3.f (k:Nat) (a0:Edu):Option (Bool):=(name_Room.f k a0.fRoom).bind fun t457=>cond t457 ((name_Event.f k a0.fEvent).bind fun t460=>cond t460 ((name_Thread.f k a0.fThread).bind fun t463=>some t463) (some false)) (some false)
def edu_asks_4.f (k:Nat) (a0:Edu) (c0:Int→Int→Int→Option Bool):Option (Bool):=(name_Room.f k a0.fRoom).bind fun t466=>cond t466 (cond (!a0.fOn) (some true) ((c0 a0.fSpan 1 60).bind fun t470=>some t470)) (some false)
def edu_asks_5.f (a0:Edu) (c0:Int→Int→Int→Option Bool):Option (Bool):=(c0 a0.fState 0 2).bind fun t473=>some t473
def edu_asks.f (k:Nat):Option ((List (Edu→Option Bool))):=some ([edu_asks_2.f,edu_asks_3.f k,fun a0_=>edu_asks_4.f k a0_ edu_asks_1.f,fun a0_=>edu_asks_5.f a0_ edu_asks_1.f]:List (Edu→Option Bool))
def edu_Local_1.f (a0:Int):Option (Bool):=cond (decide (0≤a0)) (some (decide (a0≤1099511627776))) (some false)
def edu_named.f (a0:Edu):Option (Edu):=cond (a0.fKind == 1) (some (⟨a0.fKind,a0.fRoom,a0.fUser,a0.fEvent,a0.fThread,a0.fPrivate,false,0,0,a0.fTick,a0.fStamp⟩:Edu)) (cond (a0.fKind == 2) (cond a0.fOn (some (⟨a0.fKind,a0.fRoom,a0.fUser,(⟨#[]⟩:ByteArray),(⟨#[]⟩:ByteArray),false,a0.fOn,a0.fSpan,0,a0.fTick,a0.fStamp⟩:Edu)) (some (⟨a0.fKind,a0.fRoom,a0.fUser,(⟨#[]⟩:ByteArray),(⟨#[]⟩:ByteArray),false,a0.fOn,0,0,a0.fTick,a0.fStamp⟩:Edu))) (cond (a0.fKind == 3) (some (⟨a0.fKind,(⟨#[]⟩:ByteArray),a0.fUser,(⟨#[]⟩:ByteArray),(⟨#[]⟩:ByteArray),false,false,0,a0.fState,a0.fTick,a0.fStamp⟩:Edu)) (some (⟨a0.fKind,(⟨#[]⟩:ByteArray),a0.fUser,(⟨#[]⟩:ByteArray),(⟨#[]⟩:ByteArray),false,false,0,0,a0.fTick,a0.fStamp⟩:Edu))))
def name_User.f (k:Nat) (a0:ByteArray):Option (Bool):=(name_split.f k a0 (⟨#[64]⟩:ByteArray)).bind fun t484=>some t484.2.2
def edu_Local.f (k:Nat) (a0:Edu):Option (Bool):=cond (decide (a0.fKind < 0)) (some false) (cond (decide (3 < a0.fKind)) (some false) ((edu_asks.f k).bind fun t491=>grd ((0:Int)≤a0.fKind∧a0.fKind < (t491.length:Int)) (((fK_api_Edu_bool.at t491 a0.fKind) a0).bind fun t494=>cond (!t494) (some false) ((edu_named.f a0).bind fun t497=>cond (decide (a0 = t497)) ((name_User.f k a0.fUser).bind fun t500=>cond t500 ((edu_Local_1.f a0.fTick).bind fun t503=>cond t503 ((edu_Local_1.f a0.fStamp).bind fun t506=>some t506) (some false)) (some false)) (some false)))))
def edu_May.f (k:Nat) (a0:Edu):Option (Bool):=(edu_Local.f k a0).bind fun t509=>cond t509 (some (!a0.fPrivate)) (some false)
def edu_Of.f (a0:Edu):Option (EKey):=some (⟨a0.fKind,a0.fRoom,a0.fUser,a0.fThread,a0.fPrivate⟩:EKey)
def cmp_Or_int.l0 (k:Nat) (a0:List Int):Nat→Int→Option ((Int×Bool) ⊕ (Int))
 | 0,_=>none
 | j519 + 1,x515=>cond (decide (x515 < (a0.length:Int))) (grd ((0:Int)≤x515∧x515 < (a0.length:Int)) (cond (((intK .i64).at a0 x515) != 0) (some (.inr ((intK .i64).at a0 x515))) (cmp_Or_int.l0 k a0 j519 (w64 (x515 + 1))))) (some (.inl (x515,decide (x515 < (a0.length:Int)))))
def cmp_Or_int.f (k:Nat) (a0:List Int):Option (Int):=(cmp_Or_int.l0 k a0 k 0).bind (fall fun (p514:Int×Bool)=>some 0)
def cmp_isNaN_int.f (a0:Int):Option (Bool):=some (a0 != a0)
def cmp_Compare_int.f (a0:Int) (a1:Int):Option (Int):=(cmp_isNaN_int.f a0).bind fun t521=>(cmp_isNaN_int.f a1).bind fun t523=>cond t521 (cond t523 (some 0) (some (-1))) (cond t523 (some 1) (cond (decide (a0 < a1)) (some (-1)) (cond (decide (a1 < a0)) (some 1) (some 0))))
def bytes_Compare.f (a0:List Int) (a1:List Int):Option (Int):=some (cmpB a0 a1)
def lay_Number.l0 (k:Nat):Nat→Int→List Int→Option (Int×Bool×(List Int))
 | 0,_,_=>none
 | j542 + 1,x536,x537=>cond (decide (128≤x536)) (grd (x537.length + ([IntKind.u8.wrap (w64 ((x536.tmod 128) + 128))]:List Int).length≤9223372036854775807∧(x537.length + ([IntKind.u8.wrap (w64 ((x536.tmod 128) + 128))]:List Int).length) * 1≤140737488355328) (lay_Number.l0 k j542 (w64 (x536.tdiv 128)) (x537++([IntKind.u8.wrap (w64 ((x536.tmod 128) + 128))]:List Int)))) (some (x536,decide (128≤x536),x537))
def lay_Number.f (k:Nat) (a0:List Int) (a1:Int):Option ((List Int)):=grd ((0:Int)≤(a0.length:Int)∧0≤(a0.length:Int).toNat∧(a0.length:Int).toNat≤a0.length) ((lay_Number.l0 k k (max a1 0) ((a0.take ((a0.length:Int).toNat)).drop 0)).bind fun (p532:Int×Bool×(List Int))=>grd (p532.2.2.length + ([IntKind.u8.wrap (p532.1)]:List Int).length≤9223372036854775807∧(p532.2.2.length + ([IntKind.u8.wrap (p532.1)]:List Int).length) * 1≤140737488355328) (some (p532.2.2++([IntKind.u8.wrap (p532.1)]:List Int))))
def lay_Text.f (k:Nat) (a0:List Int) (a1:ByteArray):Option ((List Int)):=(lay_Number.f k a0 (a1.size:Int)).bind fun t545=>grd (t545.length + (strBs a1).length≤9223372036854775807∧(t545.length + (strBs a1).length) * 1≤140737488355328) (some (t545++(strBs a1)))
def lay_Flag.f (k:Nat) (a0:List Int) (a1:Bool):Option ((List Int)):=cond a1 ((lay_Number.f k a0 1).bind fun t551=>some t551) ((lay_Number.f k a0 0).bind fun t554=>some t554)
def edu_laid.l0 (k:Nat) (a0:Edu):Nat→Int→List Int→Option (Int×Bool×(List Int))
 | 0,_,_=>none
 | j576 + 1,x568,x569=>cond (decide (x568 < (([a0.fSpan,a0.fState,a0.fTick,a0.fStamp]:List Int).length:Int))) (grd ((0:Int)≤x568∧x568 < (([a0.fSpan,a0.fState,a0.fTick,a0.fStamp]:List Int).length:Int)) ((lay_Number.f k x569 ((intK .i64).at ([a0.fSpan,a0.fState,a0.fTick,a0.fStamp]:List Int) x568)).bind fun t573=>edu_laid.l0 k a0 j576 (w64 (x568 + 1)) t573)) (some (x568,decide (x568 < (([a0.fSpan,a0.fState,a0.fTick,a0.fStamp]:List Int).length:Int)),x569))
def edu_laid.l1 (k:Nat) (a0:Edu):Nat→Int→List Int→Option (Int×Bool×(List Int))
 | 0,_,_=>none
 | j587 + 1,x579,x580=>cond (decide (x579 < (([a0.fRoom,a0.fUser,a0.fEvent,a0.fThread]:List ByteArray).length:Int))) (grd ((0:Int)≤x579∧x579 < (([a0.fRoom,a0.fUser,a0.fEvent,a0.fThread]:List ByteArray).length:Int)) ((lay_Text.f k x580 (strK.at ([a0.fRoom,a0.fUser,a0.fEvent,a0.fThread]:List ByteArray) x579)).bind fun t584=>edu_laid.l1 k a0 j587 (w64 (x579 + 1)) t584)) (some (x579,decide (x579 < (([a0.fRoom,a0.fUser,a0.fEvent,a0.fThread]:List ByteArray).length:Int)),x580))
def edu_laid.f (k:Nat) (a0:Edu):Option ((List Int)):=(lay_Number.f k ([]:List Int) a0.fKind).bind fun t558=>(edu_laid.l1 k a0 k 0 t558).bind fun (p561:Int×Bool×(List Int))=>(lay_Flag.f k p561.2.2 a0.fOn).bind fun t563=>(edu_laid.l0 k a0 k 0 t563).bind fun (p566:Int×Bool×(List Int))=>some p566.2.2
def edu_Compare.f (k:Nat) (a0:Edu) (a1:Edu):Option (Int):=(cmp_Compare_int.f a0.fStamp a1.fStamp).bind fun t592=>(edu_laid.f k a0).bind fun t594=>(edu_laid.f k a1).bind fun t597=>(bytes_Compare.f t594 t597).bind fun t600=>(cmp_Or_int.f k ([t592,t600]:List Int)).bind fun t602=>some t602
def edu_Later.f (k:Nat) (a0:Edu) (a1:Edu):Option (Bool):=(edu_Of.f a0).bind fun t606=>(edu_Of.f a1).bind fun t608=>cond (decide (t606 = t608)) ((edu_Compare.f k a0 a1).bind fun t611=>some (decide (0 < t611))) (some false)
def slices_IndexFunc_Key_xw.l0 (k:Nat) (a0:List EKey) (a1:(EKey→Option Bool)):Nat→Int→Option ((Int×Bool) ⊕ (Int))
 | 0,_=>none
 | j639 + 1,x632=>cond (decide (x632 < (a0.length:Int))) (grd ((0:Int)≤x632∧x632 < (a0.length:Int)) ((a1 (a0.getD x632.toNat default)).bind fun t636=>cond t636 (some (.inr x632)) (slices_IndexFunc_Key_xw.l0 k a0 a1 j639 (w64 (x632 + 1))))) (some (.inl (x632,decide (x632 < (a0.length:Int)))))
def slices_IndexFunc_Key_xw.f (k:Nat) (a0:List EKey) (a1:(EKey→Option Bool)):Option (Int):=(slices_IndexFunc_Key_xw.l0 k a0 a1 k 0).bind (fall fun (p631:Int×Bool)=>some (-1))
def slices_DeleteFunc_Key_xo.l0 (k:Nat) (a1:(EKey→Option Bool)):Nat→Int→Int→List EKey→Option (Int×Int×Bool×(List EKey))
 | 0,_,_,_=>none
 | j662 + 1,x650,x651,x652=>cond (decide (x651 < (x652.length:Int))) (grd ((0:Int)≤x651∧x651 < (x652.length:Int)) ((a1 (x652.getD x651.toNat default)).bind fun t657=>cond (!t657) (grd ((0:Int)≤x650∧x650 < (x652.length:Int)) (slices_DeleteFunc_Key_xo.l0 k a1 j662 (w64 (x650 + 1)) (w64 (x651 + 1)) (x652.set x650.toNat (x652.getD x651.toNat default)))) (slices_DeleteFunc_Key_xo.l0 k a1 j662 x650 (w64 (x651 + 1)) x652))) (some (x650,x651,decide (x651 < (x652.length:Int)),x652))
def slices_DeleteFunc_Key_xo.f (k:Nat) (a0:List EKey) (a1:(EKey→Option Bool)):Option ((List EKey)):=(slices_IndexFunc_Key_xw.f k a0 a1).bind fun t641=>cond (t641 == (-1)) (some a0) ((slices_DeleteFunc_Key_xo.l0 k a1 k t641 (w64 (t641 + 1)) a0).bind fun (p644:Int×Int×Bool×(List EKey))=>grd ((0:Int)≤p644.1∧p644.1.toNat < p644.2.2.2.length) (grd ((0:Int)≤p644.1∧0≤p644.1.toNat∧p644.1.toNat≤(p644.2.2.2.take p644.1.toNat++List.replicate (p644.2.2.2.length - p644.1.toNat) (⟨0,(⟨#[]⟩:ByteArray),(⟨#[]⟩:ByteArray),(⟨#[]⟩:ByteArray),false⟩:EKey)).length) (some (((p644.2.2.2.take p644.1.toNat++List.replicate (p644.2.2.2.length - p644.1.toNat) (⟨0,(⟨#[]⟩:ByteArray),(⟨#[]⟩:ByteArray),(⟨#[]⟩:ByteArray),false⟩:EKey)).take p644.1.toNat).drop 0))))
def queue_Queue_drop_1.f (a0:EKey) (c0:EKey):Option (Bool):=some (decide (a0 = c0))
def queue_Queue_drop.f (k:Nat) (a0:SQue) (a1:EKey):Option (SQue):=(slices_DeleteFunc_Key_xo.f k a0.fkeys (fun a0_=>queue_Queue_drop_1.f a0_ a1)).bind fun t668=>some (⟨a0.fmost,t668,mdel a0.fat a1,a0.flost⟩:SQue)
def queue_Queue_Put.f (k:Nat) (a0:SQue) (a1:Edu):Option (Edu×Bool×Int×SQue):=(edu_May.f k a1).bind fun t673=>cond (!t673) (some ((⟨0,(⟨#[]⟩:ByteArray),(⟨#[]⟩:ByteArray),(⟨#[]⟩:ByteArray),(⟨#[]⟩:ByteArray),false,false,0,0,0,0⟩:Edu),false,1,a0)) ((edu_Of.f a1).bind fun t676=>cond ((mget a0.fat t676).isSome) ((edu_Later.f k a1 ((mget a0.fat t676).getD (⟨0,(⟨#[]⟩:ByteArray),(⟨#[]⟩:ByteArray),(⟨#[]⟩:ByteArray),(⟨#[]⟩:ByteArray),false,false,0,0,0,0⟩:Edu))).bind fun t683=>cond (!t683) (some ((⟨0,(⟨#[]⟩:ByteArray),(⟨#[]⟩:ByteArray),(⟨#[]⟩:ByteArray),(⟨#[]⟩:ByteArray),false,false,0,0,0,0⟩:Edu),false,0,a0)) ((queue_Queue_drop.f k a0 t676).bind fun t686=>grd (t686.fkeys.length + ([t676]:List EKey).length≤9223372036854775807∧(t686.fkeys.length + ([t676]:List EKey).length) * 64≤140737488355328) (cond (decide (((t686.fkeys++([t676]:List EKey)).length:Int)≤t686.fmost)) (some ((⟨0,(⟨#[]⟩:ByteArray),(⟨#[]⟩:ByteArray),(⟨#[]⟩:ByteArray),(⟨#[]⟩:ByteArray),false,false,0,0,0,0⟩:Edu),false,0,(⟨t686.fmost,t686.fkeys++([t676]:List EKey),mput t686.fat t676 a1,t686.flost⟩:SQue))) (grd ((0:Int)≤0∧0 < ((t686.fkeys++([t676]:List EKey)).length:Int)) (grd ((0:Int)≤0∧0 < ((t686.fkeys++([t676]:List EKey)).length:Int)) ((queue_Queue_drop.f k (⟨t686.fmost,t686.fkeys++([t676]:List EKey),mput t686.fat t676 a1,t686.flost⟩:SQue) ((t686.fkeys++([t676]:List EKey)).getD ((0:Int).toNat) default)).bind fun t698=>some ((mget (mput t686.fat t676 a1) ((t686.fkeys++([t676]:List EKey)).getD ((0:Int).toNat) default)).getD (⟨0,(⟨#[]⟩:ByteArray),(⟨#[]⟩:ByteArray),(⟨#[]⟩:ByteArray),(⟨#[]⟩:ByteArray),false,false,0,0,0,0⟩:Edu),true,0,(⟨t698.fmost,t698.fkeys,t698.fat,w64 (t698.flost + 1)⟩:SQue)))))))) ((queue_Queue_drop.f k a0 t676).bind fun t703=>grd (t703.fkeys.length + ([t676]:List EKey).length≤9223372036854775807∧(t703.fkeys.length + ([t676]:List EKey).length) * 64≤140737488355328) (cond (decide (((t703.fkeys++([t676]:List EKey)).length:Int)≤t703.fmost)) (some ((⟨0,(⟨#[]⟩:ByteArray),(⟨#[]⟩:ByteArray),(⟨#[]⟩:ByteArray),(⟨#[]⟩:ByteArray),false,false,0,0,0,0⟩:Edu),false,0,(⟨t703.fmost,t703.fkeys++([t676]:List EKey),mput t703.fat t676 a1,t703.flost⟩:SQue))) (grd ((0:Int)≤0∧0 < ((t703.fkeys++([t676]:List EKey)).length:Int)) (grd ((0:Int)≤0∧0 < ((t703.fkeys++([t676]:List EKey)).length:Int)) ((queue_Queue_drop.f k (⟨t703.fmost,t703.fkeys++([t676]:List EKey),mput t703.fat t676 a1,t703.flost⟩:SQue) ((t703.fkeys++([t676]:List EKey)).getD ((0:Int).toNat) default)).bind fun t715=>some ((mget (mput t703.fat t676 a1) ((t703.fkeys++([t676]:List EKey)).getD ((0:Int).toNat) default)).getD (⟨0,(⟨#[]⟩:ByteArray),(⟨#[]⟩:ByteArray),(⟨#[]⟩:ByteArray),(⟨#[]⟩:ByteArray),false,false,0,0,0,0⟩:Edu),true,0,(⟨t715.fmost,t715.fkeys,t715.fat,w64 (t715.flost + 1)⟩:SQue))))))))
def queue_Queue_All.l0 (k:Nat) (a0:SQue):Nat→Int→List Edu→Option (Int×Bool×(List Edu))
 | 0,_,_=>none
 | j730 + 1,x721,x722=>cond (decide (x721 < (a0.fkeys.length:Int))) (grd ((0:Int)≤x721∧x721 < (a0.fkeys.length:Int)) (grd (x722.length + ([(mget a0.fat (a0.fkeys.getD x721.toNat default)).getD (⟨0,(⟨#[]⟩:ByteArray),(⟨#[]⟩:ByteArray),(⟨#[]⟩:ByteArray),(⟨#[]⟩:ByteArray),false,false,0,0,0,0⟩:Edu)]:List Edu).length≤9223372036854775807∧(x722.length + ([(mget a0.fat (a0.fkeys.getD x721.toNat default)).getD (⟨0,(⟨#[]⟩:ByteArray),(⟨#[]⟩:ByteArray),(⟨#[]⟩:ByteArray),(⟨#[]⟩:ByteArray),false,false,0,0,0,0⟩:Edu)]:List Edu).length) * 112≤140737488355328) (queue_Queue_All.l0 k a0 j730 (w64 (x721 + 1)) (x722++([(mget a0.fat (a0.fkeys.getD x721.toNat default)).getD (⟨0,(⟨#[]⟩:ByteArray),(⟨#[]⟩:ByteArray),(⟨#[]⟩:ByteArray),(⟨#[]⟩:ByteArray),false,false,0,0,0,0⟩:Edu)]:List Edu))))) (some (x721,decide (x721 < (a0.fkeys.length:Int)),x722))
def queue_Queue_All.f (k:Nat) (a0:SQue):Option ((List Edu)):=(queue_Queue_All.l0 k a0 k 0 ([]:List Edu)).bind fun (p719:Int×Bool×(List Edu))=>some p719.2.2
def slices_Clone_Edu.f (xs:List Edu):Option (List Edu):=grd (xs.length≤9223372036854775807∧xs.length * 112≤140737488355328) (some xs)
def slices_IndexFunc_Edu.l0 (k:Nat) (a0:List Edu) (a1:Edu→Option Bool):Nat→Int→Option ((Int×Bool) ⊕ (Int))
 | 0,_=>none
 | j740 + 1,x734=>cond (decide (x734 < (a0.length:Int))) (grd ((0:Int)≤x734∧x734 < (a0.length:Int)) ((a1 (Edu.K.at a0 x734)).bind fun t737=>cond t737 (some (.inr x734)) (slices_IndexFunc_Edu.l0 k a0 a1 j740 (w64 (x734 + 1))))) (some (.inl (x734,decide (x734 < (a0.length:Int)))))
def slices_IndexFunc_Edu.f (k:Nat) (a0:List Edu) (a1:Edu→Option Bool):Option (Int):=(slices_IndexFunc_Edu.l0 k a0 a1 k 0).bind (fall fun (p733:Int×Bool)=>some (-1))
def slices_IndexFunc_Edu_x.l0 (k:Nat) (a0:List Edu) (a1:(Edu→Option Bool)):Nat→Int→Option ((Int×Bool) ⊕ (Int))
 | 0,_=>none
 | j749 + 1,x743=>cond (decide (x743 < (a0.length:Int))) (grd ((0:Int)≤x743∧x743 < (a0.length:Int)) ((a1 (Edu.K.at a0 x743)).bind fun t746=>cond t746 (some (.inr x743)) (slices_IndexFunc_Edu_x.l0 k a0 a1 j749 (w64 (x743 + 1))))) (some (.inl (x743,decide (x743 < (a0.length:Int)))))
def slices_IndexFunc_Edu_x.f (k:Nat) (a0:List Edu) (a1:(Edu→Option Bool)):Option (Int):=(slices_IndexFunc_Edu_x.l0 k a0 a1 k 0).bind (fall fun (p742:Int×Bool)=>some (-1))
def slices_IndexFunc_Edu_xw.l0 (k:Nat) (a0:List Edu) (a1:(Edu→Option Bool)):Nat→Int→Option ((Int×Bool) ⊕ (Int))
 | 0,_=>none
 | j759 + 1,x752=>cond (decide (x752 < (a0.length:Int))) (grd ((0:Int)≤x752∧x752 < (a0.length:Int)) ((a1 (a0.getD x752.toNat default)).bind fun t756=>cond t756 (some (.inr x752)) (slices_IndexFunc_Edu_xw.l0 k a0 a1 j759 (w64 (x752 + 1))))) (some (.inl (x752,decide (x752 < (a0.length:Int)))))
def slices_IndexFunc_Edu_xw.f (k:Nat) (a0:List Edu) (a1:(Edu→Option Bool)):Option (Int):=(slices_IndexFunc_Edu_xw.l0 k a0 a1 k 0).bind (fall fun (p751:Int×Bool)=>some (-1))
def slices_DeleteFunc_Edu_xo.l0 (k:Nat) (a1:(Edu→Option Bool)):Nat→Int→Int→List Edu→Option (Int×Int×Bool×(List Edu))
 | 0,_,_,_=>none
 | j782 + 1,x770,x771,x772=>cond (decide (x771 < (x772.length:Int))) (grd ((0:Int)≤x771∧x771 < (x772.length:Int)) ((a1 (x772.getD x771.toNat default)).bind fun t777=>cond (!t777) (grd ((0:Int)≤x770∧x770 < (x772.length:Int)) (slices_DeleteFunc_Edu_xo.l0 k a1 j782 (w64 (x770 + 1)) (w64 (x771 + 1)) (x772.set x770.toNat (x772.getD x771.toNat default)))) (slices_DeleteFunc_Edu_xo.l0 k a1 j782 x770 (w64 (x771 + 1)) x772))) (some (x770,x771,decide (x771 < (x772.length:Int)),x772))
def slices_DeleteFunc_Edu_xo.f (k:Nat) (a0:List Edu) (a1:(Edu→Option Bool)):Option ((List Edu)):=(slices_IndexFunc_Edu_xw.f k a0 a1).bind fun t761=>cond (t761 == (-1)) (some a0) ((slices_DeleteFunc_Edu_xo.l0 k a1 k t761 (w64 (t761 + 1)) a0).bind fun (p764:Int×Int×Bool×(List Edu))=>grd ((0:Int)≤p764.1∧p764.1.toNat < p764.2.2.2.length) (grd ((0:Int)≤p764.1∧0≤p764.1.toNat∧p764.1.toNat≤(p764.2.2.2.take p764.1.toNat++List.replicate (p764.2.2.2.length - p764.1.toNat) (⟨0,(⟨#[]⟩:ByteArray),(⟨#[]⟩:ByteArray),(⟨#[]⟩:ByteArray),(⟨#[]⟩:ByteArray),false,false,0,0,0,0⟩:Edu)).length) (some (((p764.2.2.2.take p764.1.toNat++List.replicate (p764.2.2.2.length - p764.1.toNat) (⟨0,(⟨#[]⟩:ByteArray),(⟨#[]⟩:ByteArray),(⟨#[]⟩:ByteArray),(⟨#[]⟩:ByteArray),false,false,0,0,0,0⟩:Edu)).take p764.1.toNat).drop 0))))
def slices_Index_string.l0 (k:Nat) (a0:List ByteArray) (a1:ByteArray):Nat→Int→Option ((Int×Bool) ⊕ (Int))
 | 0,_=>none
 | j789 + 1,x785=>cond (decide (x785 < (a0.length:Int))) (grd ((0:Int)≤x785∧x785 < (a0.length:Int)) (cond (decide (a1 = (strK.at a0 x785))) (some (.inr x785)) (slices_Index_string.l0 k a0 a1 j789 (w64 (x785 + 1))))) (some (.inl (x785,decide (x785 < (a0.length:Int)))))
def slices_Index_string.f (k:Nat) (a0:List ByteArray) (a1:ByteArray):Option (Int):=(slices_Index_string.l0 k a0 a1 k 0).bind (fall fun (p784:Int×Bool)=>some (-1))
def slices_Contains_string.f (k:Nat) (a0:List ByteArray) (a1:ByteArray):Option (Bool):=(slices_Index_string.f k a0 a1).bind fun t791=>some (decide (0≤t791))
def dag_New.f (a0:ByteArray):Option (DDag):=some (⟨a0,([]:List (ByteArray×DNode))⟩:DDag)
def view_View_room.f (a0:VView) (a1:ByteArray):Option DDag:=cond (mget a0.fdags a1).isSome (some ((mget a0.fdags a1).getD default)) (dag_New.f a1)
def slices_Sort_string.f (xs:List ByteArray):Option (List ByteArray):=grd (xs.length < 4611686018427387904) (some (srtS xs))
def slices_Compact_string.f (xs:List ByteArray):Option (List ByteArray):=grd (xs.length≤9223372036854775807) (some (cmpctS xs))
def name_Home.f (k:Nat) (a0:ByteArray):Option (ByteArray):=(name_User.f k a0).bind fun t795=>cond (!t795) ((name_Room.f k a0).bind fun t798=>cond (!t798) (some (⟨#[]⟩:ByteArray)) ((strings_Cut.f a0 (⟨#[58]⟩:ByteArray)).bind fun t801=>some t801.2.1)) ((strings_Cut.f a0 (⟨#[58]⟩:ByteArray)).bind fun t804=>some t804.2.1)
def member_Homes.l0 (k:Nat) (a0:List ByteArray):Nat→Int→List ByteArray→Option (Int×Bool×(List ByteArray))
 | 0,_,_=>none
 | j823 + 1,x813,x814=>cond (decide (x813 < (a0.length:Int))) (grd ((0:Int)≤x813∧x813 < (a0.length:Int)) ((name_Home.f k (strK.at a0 x813)).bind fun t818=>cond (!decide (t818 = (⟨#[]⟩:ByteArray))) (grd (x814.length + ([t818]:List ByteArray).length≤9223372036854775807∧(x814.length + ([t818]:List ByteArray).length) * 16≤140737488355328) (member_Homes.l0 k a0 j823 (w64 (x813 + 1)) (x814++([t818]:List ByteArray)))) (member_Homes.l0 k a0 j823 (w64 (x813 + 1)) x814))) (some (x813,decide (x813 < (a0.length:Int)),x814))
def member_Homes.f (k:Nat) (a0:List ByteArray):Option ((List ByteArray)):=(member_Homes.l0 k a0 k 0 ([]:List ByteArray)).bind fun (p806:Int×Bool×(List ByteArray))=>(slices_Sort_string.f p806.2.2).bind fun t808=>(slices_Compact_string.f t808).bind fun t810=>some t810
def slices_Clone_string.f (xs:List ByteArray):Option (List ByteArray):=grd (xs.length≤9223372036854775807∧xs.length * 16≤140737488355328) (some xs)
def dag_own.f (a0:Event):Option (Event):=(slices_Clone_string.f a0.fParents).bind fun t828=>some (⟨a0.fID,a0.fRoom,t828,a0.fThread,a0.fUser,a0.fDoes⟩:Event)
def cmp_isNaN_string.f (a0:ByteArray):Option (Bool):=some (!decide (a0 = a0))
def cmp_Compare_string.f (a0:ByteArray) (a1:ByteArray):Option (Int):=(cmp_isNaN_string.f a0).bind fun t831=>(cmp_isNaN_string.f a1).bind fun t833=>cond t831 (cond t833 (some 0) (some (-1))) (cond t833 (some 1) (cond (sLt a0 a1) (some (-1)) (cond (sLt a1 a0) (some 1) (some 0))))
def dag_Compare.f (k:Nat) (a0:Pos) (a1:Pos):Option (Int):=(cmp_Compare_int.f a0.fDepth a1.fDepth).bind fun t842=>(cmp_Compare_string.f a0.fID a1.fID).bind fun t844=>(cmp_Or_int.f k ([t842,t844]:List Int)).bind fun t846=>some t846
def posC (x y:Pos):Int:=if x.fDepth < y.fDepth then -1 else if y.fDepth < x.fDepth then 1 else cmpS x.fID y.fID
def slices_SortFunc_Position.f (xs:List Pos):Option (List Pos):=grd (xs.length≤1000000) (some (srtF posC xs))
def dag_Dag_All_1.f (a0:DNode):Option (Bool):=some true
def dag_Dag_ids_All.g (e:ByteArray×DNode):Option Pos:=cond true (some ⟨e.2.fdepth,e.1⟩) none
def dag_Dag_ids_All.f (a0:DDag):Option (List ByteArray):=grd (a0.fnodes.length≤1000000) (some ((srtF posC (a0.fnodes.filterMap dag_Dag_ids_All.g)).map (·.fID)))
def dag_Dag_All.l0 (k:Nat) (a0:DDag) (t851:List ByteArray):Nat→Int→List Event→Option (Int×Int×Bool×(List Event)×(List ByteArray))
 | 0,_,_=>none
 | j869 + 1,x854,x855=>cond (decide (x854 < (t851.length:Int))) (grd ((0:Int)≤x854∧x854 < (t851.length:Int)) (grd ((mget a0.fnodes (t851.getD x854.toNat default)).isSome = true) ((dag_own.f (((mget a0.fnodes (t851.getD x854.toNat default)).getD default).fe)).bind fun t865=>grd (x855.length + ([t865]:List Event).length≤9223372036854775807∧(x855.length + ([t865]:List Event).length) * 96≤140737488355328) (dag_Dag_All.l0 k a0 t851 j869 (w64 (x854 + 1)) (x855++([t865]:List Event)))))) (some ((t851.length:Int),x854,decide (x854 < (t851.length:Int)),x855,t851))
def dag_Dag_All.f (k:Nat) (a0:DDag):Option ((List Event)):=((dag_Dag_ids_All.f a0).bind fun t851=>dag_Dag_All.l0 k a0 t851 k 0 ([]:List Event)).bind fun (p848:Int×Int×Bool×(List Event)×(List ByteArray))=>some p848.2.2.2.1
def member_joined.l0 (k:Nat) (t875:(List Event)):Nat→Int→(List (ByteArray×Int))→Option (Int×Int×Bool×(List (ByteArray×Int))×(List Event))
 | 0,_,_=>none
 | j886 + 1,x878,x879=>cond (decide (x878 < (t875.length:Int))) (grd ((0:Int)≤x878∧x878 < (t875.length:Int)) (cond (((t875.getD x878.toNat default).fDoes) == 1) (member_joined.l0 k t875 j886 (w64 (x878 + 1)) (mput x879 ((t875.getD x878.toNat default).fUser) 1)) (cond (((t875.getD x878.toNat default).fDoes) == 2) (member_joined.l0 k t875 j886 (w64 (x878 + 1)) (mdel x879 ((t875.getD x878.toNat default).fUser))) (member_joined.l0 k t875 j886 (w64 (x878 + 1)) x879)))) (some ((t875.length:Int),x878,decide (x878 < (t875.length:Int)),x879,t875))
def member_joined.f (k:Nat) (a0:DDag):Option ((List (ByteArray×Int))):=((dag_Dag_All.f k a0).bind fun t875=>member_joined.l0 k t875 k 0 ([]:List (ByteArray×Int))).bind fun (p873:Int×Int×Bool×(List (ByteArray×Int))×(List Event))=>some p873.2.2.2.1
def member_Users.f (k:Nat) (a0:DDag):Option (List ByteArray):=(member_joined.f k a0).bind fun m=>grd (m.length≤1000000) (some (srtS (m.map (·.1))))
def member_Servers.f (k:Nat) (a0:DDag):Option ((List ByteArray)):=(member_Users.f k a0).bind fun t889=>(member_Homes.f k t889).bind fun t892=>some t892
def view_View_Servers.f (k:Nat) (a0:VView) (a1:ByteArray):Option ((List ByteArray)):=(view_View_room.f a0 a1).bind fun t895=>(member_Servers.f k t895).bind fun t900=>some t900
def slices_IndexFunc_string_x.l0 (k:Nat) (a0:List ByteArray) (a1:(ByteArray→Option Bool)):Nat→Int→Option ((Int×Bool) ⊕ (Int))
 | 0,_=>none
 | j919 + 1,x913=>cond (decide (x913 < (a0.length:Int))) (grd ((0:Int)≤x913∧x913 < (a0.length:Int)) ((a1 (strK.at a0 x913)).bind fun t916=>cond t916 (some (.inr x913)) (slices_IndexFunc_string_x.l0 k a0 a1 j919 (w64 (x913 + 1))))) (some (.inl (x913,decide (x913 < (a0.length:Int)))))
def slices_IndexFunc_string_x.f (k:Nat) (a0:List ByteArray) (a1:(ByteArray→Option Bool)):Option (Int):=(slices_IndexFunc_string_x.l0 k a0 a1 k 0).bind (fall fun (p912:Int×Bool)=>some (-1))
def slices_IndexFunc_string_xw.l0 (k:Nat) (a0:List ByteArray) (a1:(ByteArray→Option Bool)):Nat→Int→Option ((Int×Bool) ⊕ (Int))
 | 0,_=>none
 | j929 + 1,x922=>cond (decide (x922 < (a0.length:Int))) (grd ((0:Int)≤x922∧x922 < (a0.length:Int)) ((a1 (a0.getD x922.toNat default)).bind fun t926=>cond t926 (some (.inr x922)) (slices_IndexFunc_string_xw.l0 k a0 a1 j929 (w64 (x922 + 1))))) (some (.inl (x922,decide (x922 < (a0.length:Int)))))
def slices_IndexFunc_string_xw.f (k:Nat) (a0:List ByteArray) (a1:(ByteArray→Option Bool)):Option (Int):=(slices_IndexFunc_string_xw.l0 k a0 a1 k 0).bind (fall fun (p921:Int×Bool)=>some (-1))
def slices_DeleteFunc_string_xo.l0 (k:Nat) (a1:(ByteArray→Option Bool)):Nat→Int→Int→List ByteArray→Option (Int×Int×Bool×(List ByteArray))
 | 0,_,_,_=>none
 | j951 + 1,x940,x941,x942=>cond (decide (x941 < (x942.length:Int))) (grd ((0:Int)≤x941∧x941 < (x942.length:Int)) ((a1 (x942.getD x941.toNat default)).bind fun t946=>cond (!t946) (grd ((0:Int)≤x940∧x940 < (x942.length:Int)) (slices_DeleteFunc_string_xo.l0 k a1 j951 (w64 (x940 + 1)) (w64 (x941 + 1)) (x942.set x940.toNat (x942.getD x941.toNat default)))) (slices_DeleteFunc_string_xo.l0 k a1 j951 x940 (w64 (x941 + 1)) x942))) (some (x940,x941,decide (x941 < (x942.length:Int)),x942))
def slices_DeleteFunc_string_xo.f (k:Nat) (a0:List ByteArray) (a1:(ByteArray→Option Bool)):Option ((List ByteArray)):=(slices_IndexFunc_string_xw.f k a0 a1).bind fun t931=>cond (t931 == (-1)) (some a0) ((slices_DeleteFunc_string_xo.l0 k a1 k t931 (w64 (t931 + 1)) a0).bind fun (p934:Int×Int×Bool×(List ByteArray))=>grd ((0:Int)≤p934.1∧p934.1.toNat < p934.2.2.2.length) (grd ((0:Int)≤p934.1∧0≤p934.1.toNat∧p934.1.toNat≤(p934.2.2.2.take p934.1.toNat++List.replicate (p934.2.2.2.length - p934.1.toNat) (⟨#[]⟩:ByteArray)).length) (some (((p934.2.2.2.take p934.1.toNat++List.replicate (p934.2.2.2.length - p934.1.toNat) (⟨#[]⟩:ByteArray)).take p934.1.toNat).drop 0))))
def view_View_Rooms.f (a0:VView):Option (List ByteArray):=grd (a0.fdags.length≤1000000) (some (srtS (a0.fdags.map (·.1))))
def member_Joined.f (k:Nat) (a0:DDag) (a1:ByteArray):Option (Bool):=(member_joined.f k a0).bind fun t953=>some (decide (0 < ((mget t953 a1).getD 0)))
def view_View_Joined.f (k:Nat) (a0:VView) (a1:ByteArray) (a2:ByteArray):Option (Bool):=(view_View_room.f a0 a1).bind fun t956=>(member_Joined.f k t956 a2).bind fun t961=>some t961
def view_View_RoomsOf_1.f (k:Nat) (a0:ByteArray) (c0:VView) (c1:ByteArray):Option (Bool):=(view_View_Joined.f k c0 a0 c1).bind fun t963=>some (!t963)
def view_View_RoomsOf.f (k:Nat) (a0:VView) (a1:ByteArray):Option ((List ByteArray)):=(view_View_Rooms.f a0).bind fun t969=>(slices_DeleteFunc_string_xo.f k t969 (fun a0_=>view_View_RoomsOf_1.f k a0_ a0 a1)).bind fun t972=>some t972
def view_View_Peers.l0 (k:Nat) (a0:VView) (t983:(List ByteArray)):Nat→Int→List ByteArray→Option (Int×Int×Bool×(List ByteArray)×(List ByteArray))
 | 0,_,_=>none
 | j999 + 1,x986,x987=>cond (decide (x986 < (t983.length:Int))) (grd ((0:Int)≤x986∧x986 < (t983.length:Int)) ((view_View_Servers.f k a0 (t983.getD x986.toNat default)).bind fun t994=>grd (x987.length + t994.length≤9223372036854775807∧(x987.length + t994.length) * 16≤140737488355328) (view_View_Peers.l0 k a0 t983 j999 (w64 (x986 + 1)) (x987++t994)))) (some ((t983.length:Int),x986,decide (x986 < (t983.length:Int)),x987,t983))
def view_View_Peers.f (k:Nat) (a0:VView) (a1:ByteArray):Option ((List ByteArray)):=((view_View_RoomsOf.f k a0 a1).bind fun t983=>view_View_Peers.l0 k a0 t983 k 0 ([]:List ByteArray)).bind fun (p975:Int×Int×Bool×(List ByteArray)×(List ByteArray))=>(slices_Sort_string.f p975.2.2.2.1).bind fun t978=>(slices_Compact_string.f t978).bind fun t980=>some t980
def gate_reached.f (k:Nat) (a0:VView) (a1:Edu):Option ((List ByteArray)):=(edu_May.f k a1).bind fun t1003=>cond (!t1003) (some ([]:List ByteArray)) (cond (a1.fKind == 3) ((view_View_Peers.f k a0 a1.fUser).bind fun t1007=>some t1007) ((view_View_Servers.f k a0 a1.fRoom).bind fun t1012=>some t1012))
def gate_Passes.f (k:Nat) (a0:VView) (a1:ByteArray) (a2:Edu):Option (Bool):=(gate_reached.f k a0 a2).bind fun t1016=>(slices_Contains_string.f k t1016 a1).bind fun t1019=>some t1019
def gate_Choose_1.f (k:Nat) (a0:Edu) (c0:VView) (c1:ByteArray):Option (Bool):=(gate_Passes.f k c0 c1 a0).bind fun t1022=>some (!t1022)
def gate_Choose.f (k:Nat) (a0:VView) (a1:ByteArray) (a2:List Edu):Option ((List Edu)):=(slices_Clone_Edu.f a2).bind fun t1026=>(slices_DeleteFunc_Edu_xo.f k t1026 (fun a0_=>gate_Choose_1.f k a0_ a0 a1)).bind fun t1029=>some t1029
def clock_Backoff.l0 (k:Nat) (a0:Int):Nat→Int→Int→Option (Int×Int×Bool)
 | 0,_,_=>none
 | j1036 + 1,x1033,x1034=>cond (decide (x1034 < (min (max a0 0) 9))) (clock_Backoff.l0 k a0 j1036 (min (w64 (2 * x1033)) 16) (w64 (x1034 + 1))) (some (x1033,x1034,decide (x1034 < (min (max a0 0) 9))))
def clock_Backoff.f (k:Nat) (a0:Int):Option (Int):=(clock_Backoff.l0 k a0 k 1 0).bind fun (p1032:Int×Int×Bool)=>some p1032.1
def sender_Sender_again.f (k:Nat) (a0:SSnd) (a1:VView) (a2:Int):Option (Bool×SSnd):=grd (a0.fair.isSome = true) ((gate_Choose.f k a1 a0.fto (((a0.fair.getD default).fp).fEdus)).bind fun t1043=>cond ((t1043.length:Int) == 0) (some (false,(⟨a0.fQueue,a0.fself,a0.fto,a0.fids,none⟩:SSnd))) ((clock_Backoff.f k (w64 (((a0.fair.getD default).ftries) + 1))).bind fun t1046=>some (true,(⟨a0.fQueue,a0.fself,a0.fto,a0.fids,some (⟨(⟨((a0.fair.getD default).fp).fAck,((a0.fair.getD default).fp).fFrom,((a0.fair.getD default).fp).fTo,((a0.fair.getD default).fp).fID,t1043⟩:Par),w64 (((a0.fair.getD default).ftries) + 1),w64 (a2 + t1046)⟩:Fly)⟩:SSnd))))
def sender_Sender_told.f (a0:SSnd):Option (Par):=grd (a0.fair.isSome = true) ((slices_Clone_Edu.f (((a0.fair.getD default).fp).fEdus)).bind fun t1053=>some (⟨((a0.fair.getD default).fp).fAck,((a0.fair.getD default).fp).fFrom,((a0.fair.getD default).fp).fTo,((a0.fair.getD default).fp).fID,t1053⟩:Par))
def slices_ContainsFunc_Edu.f (k:Nat) (a0:List Edu) (a1:Edu→Option Bool):Option (Bool):=(slices_IndexFunc_Edu.f k a0 a1).bind fun t1056=>some (decide (0≤t1056))
def slices_ContainsFunc_Edu_x.f (k:Nat) (a0:List Edu) (a1:(Edu→Option Bool)):Option (Bool):=(slices_IndexFunc_Edu_x.f k a0 a1).bind fun t1058=>some (decide (0≤t1058))
def queue_Queue_Keep_1.f (a0:Edu) (c0:Edu):Option (Bool):=some (decide (a0 = c0))
def queue_Queue_Keep.l0 (k:Nat) (a1:List Edu) (t1065:(List Edu)):Nat→Int→SQue→Option (SQue)
 | 0,_,_=>none
 | j1079 + 1,x1067,x1068=>cond (decide (x1067 < (t1065.length:Int))) (grd ((0:Int)≤x1067∧x1067 < (t1065.length:Int)) ((slices_ContainsFunc_Edu_x.f k a1 (fun a0_=>queue_Queue_Keep_1.f a0_ (Edu.K.at t1065 x1067))).bind fun t1072=>cond (!t1072) ((edu_Of.f (Edu.K.at t1065 x1067)).bind fun t1075=>(queue_Queue_drop.f k x1068 t1075).bind fun t1077=>queue_Queue_Keep.l0 k a1 t1065 j1079 (w64 (x1067 + 1)) t1077) (queue_Queue_Keep.l0 k a1 t1065 j1079 (w64 (x1067 + 1)) x1068))) (some x1068)
def queue_Queue_Keep.f (k:Nat) (a0:SQue) (a1:List Edu):Option (SQue):=(queue_Queue_All.f k a0).bind fun t1065=>queue_Queue_Keep.l0 k a1 t1065 k 0 a0
def queue_Queue_Len.f (a0:SQue):Option (Int):=some (a0.fkeys.length:Int)
def clock_Counter_Add.l0 (k:Nat) (a0:Ctr) (a1:Int):Nat→Option (Int×Int×Ctr)
 | 0=>none
 | j1101 + 1=>cond (decide (0 < a1)) (cond (a0.fn.fv == a0.fmost) (some (0,11,a0)) ((cond (decide (a1 < (w64 (a0.fmost - a0.fn.fv)))) (some (w64 (a0.fn.fv + a1))) (some a0.fmost)).bind fun (p1086:Int)=>cond (a1 == 0) (some (p1086,0,a0)) (some (p1086,0,(⟨(⟨p1086⟩:AtI),a0.fmost⟩:Ctr))))) ((cond (decide (a1 < (w64 (a0.fmost - a0.fn.fv)))) (some (w64 (a0.fn.fv + a1))) (some a0.fmost)).bind fun (p1094:Int)=>cond (a1 == 0) (some (p1094,0,a0)) (some (p1094,0,(⟨(⟨p1094⟩:AtI),a0.fmost⟩:Ctr))))
def clock_Counter_Add.f (k:Nat) (a0:Ctr) (a1:Int):Option (Int×Int×Ctr):=cond (decide (a1 < 0)) (some (0,1,a0)) (clock_Counter_Add.l0 k a0 a1 k)
def clock_Counter_Next.f (k:Nat) (a0:Ctr):Option (Int×Int×Ctr):=(clock_Counter_Add.f k a0 1).bind fun t1103=>some (t1103.1,t1103.2.1,t1103.2.2)
def queue_Queue_Take.l0 (k:Nat) (a1:Int) (t1107:(List Edu)):Nat→Int→SQue→Option (Int×Bool×SQue)
 | 0,_,_=>none
 | j1120 + 1,x1111,x1112=>cond (decide (x1111 < (((t1107.take ((min (max a1 0) (t1107.length:Int)).toNat)).drop 0).length:Int))) (grd ((0:Int)≤x1111∧x1111 < (((t1107.take ((min (max a1 0) (t1107.length:Int)).toNat)).drop 0).length:Int)) ((edu_Of.f (Edu.K.at ((t1107.take ((min (max a1 0) (t1107.length:Int)).toNat)).drop 0) x1111)).bind fun t1116=>(queue_Queue_drop.f k x1112 t1116).bind fun t1118=>queue_Queue_Take.l0 k a1 t1107 j1120 (w64 (x1111 + 1)) t1118)) (some (x1111,decide (x1111 < (((t1107.take ((min (max a1 0) (t1107.length:Int)).toNat)).drop 0).length:Int)),x1112))
def queue_Queue_Take.f (k:Nat) (a0:SQue) (a1:Int):Option ((List Edu)×SQue):=(queue_Queue_All.f k a0).bind fun t1107=>grd ((0:Int)≤(min (max a1 0) (t1107.length:Int))∧0≤(min (max a1 0) (t1107.length:Int)).toNat∧(min (max a1 0) (t1107.length:Int)).toNat≤t1107.length) ((queue_Queue_Take.l0 k a1 t1107 k 0 a0).bind fun (p1110:Int×Bool×SQue)=>some ((t1107.take ((min (max a1 0) (t1107.length:Int)).toNat)).drop 0,p1110.2.2))
def sender_Sender_Send.f (k:Nat) (a0:SSnd) (a1:VView) (a2:Int):Option (Par×Bool×Int×SSnd):=(cond (!a0.fair.isNone) (cond (decide (a2 < ((a0.fair.getD default).fdue))) (some (.inr ((⟨false,(⟨#[]⟩:ByteArray),(⟨#[]⟩:ByteArray),0,([]:List Edu)⟩:Par),false,0,a0))) ((sender_Sender_again.f k a0 a1 a2).bind fun t1160=>cond t1160.1 ((sender_Sender_told.f t1160.2).bind fun t1169=>some (.inr (t1169,true,0,t1160.2))) (some (.inl t1160.2)))) (some (.inl a0))).bind (fall fun (p1123:SSnd)=>(queue_Queue_All.f k p1123.fQueue).bind fun t1128=>(gate_Choose.f k a1 p1123.fto t1128).bind fun t1130=>(queue_Queue_Keep.f k p1123.fQueue t1130).bind fun t1132=>(queue_Queue_Len.f t1132).bind fun t1136=>cond (t1136 == 0) (some ((⟨false,(⟨#[]⟩:ByteArray),(⟨#[]⟩:ByteArray),0,([]:List Edu)⟩:Par),false,0,(⟨t1132,p1123.fself,p1123.fto,p1123.fids,p1123.fair⟩:SSnd))) ((clock_Counter_Next.f k p1123.fids).bind fun t1139=>cond (t1139.2.1 != 0) (some ((⟨false,(⟨#[]⟩:ByteArray),(⟨#[]⟩:ByteArray),0,([]:List Edu)⟩:Par),false,t1139.2.1,(⟨t1132,p1123.fself,p1123.fto,t1139.2.2,p1123.fair⟩:SSnd))) ((queue_Queue_Take.f k t1132 100).bind fun t1142=>(clock_Backoff.f k 0).bind fun t1145=>(sender_Sender_told.f (⟨t1142.2,p1123.fself,p1123.fto,t1139.2.2,some (⟨(⟨false,p1123.fself,p1123.fto,t1139.1,t1142.1⟩:Par),0,w64 (a2 + t1145)⟩:Fly)⟩:SSnd)).bind fun t1152=>some (t1152,true,0,(⟨t1142.2,p1123.fself,p1123.fto,t1139.2.2,some (⟨(⟨false,p1123.fself,p1123.fto,t1139.1,t1142.1⟩:Par),0,w64 (a2 + t1145)⟩:Fly)⟩:SSnd)))))
def dag_May.l0 (k:Nat) (a0:Event):Nat→Int→Option (Bool×Int×Bool)
 | 0,_=>none
 | j1211 + 1,x1198=>cond (decide (x1198 < (a0.fParents.length:Int))) (grd ((0:Int)≤x1198∧x1198 < (a0.fParents.length:Int)) ((name_Event.f k (strK.at a0.fParents x1198)).bind fun t1201=>cond (!t1201) (some (false,x1198,decide (x1198 < (a0.fParents.length:Int)))) (cond (decide ((strK.at a0.fParents x1198) = a0.fID)) (some (false,x1198,decide (x1198 < (a0.fParents.length:Int)))) (cond (decide (0 < x1198)) (grd ((0:Int)≤(w64 (x1198 - 1))∧(w64 (x1198 - 1)) < (a0.fParents.length:Int)) (cond (!sLt (strK.at a0.fParents (w64 (x1198 - 1))) (strK.at a0.fParents x1198)) (some (false,x1198,decide (x1198 < (a0.fParents.length:Int)))) (dag_May.l0 k a0 j1211 (w64 (x1198 + 1))))) (dag_May.l0 k a0 j1211 (w64 (x1198 + 1))))))) (some (true,x1198,decide (x1198 < (a0.fParents.length:Int))))
def dag_May.l1 (k:Nat) (a0:Event):Nat→Int→Option (Bool×Int×Bool)
 | 0,_=>none
 | j1228 + 1,x1215=>cond (decide (x1215 < (a0.fParents.length:Int))) (grd ((0:Int)≤x1215∧x1215 < (a0.fParents.length:Int)) ((name_Event.f k (strK.at a0.fParents x1215)).bind fun t1218=>cond (!t1218) (some (false,x1215,decide (x1215 < (a0.fParents.length:Int)))) (cond (decide ((strK.at a0.fParents x1215) = a0.fID)) (some (false,x1215,decide (x1215 < (a0.fParents.length:Int)))) (cond (decide (0 < x1215)) (grd ((0:Int)≤(w64 (x1215 - 1))∧(w64 (x1215 - 1)) < (a0.fParents.length:Int)) (cond (!sLt (strK.at a0.fParents (w64 (x1215 - 1))) (strK.at a0.fParents x1215)) (some (false,x1215,decide (x1215 < (a0.fParents.length:Int)))) (dag_May.l1 k a0 j1228 (w64 (x1215 + 1))))) (dag_May.l1 k a0 j1228 (w64 (x1215 + 1))))))) (some (true,x1215,decide (x1215 < (a0.fParents.length:Int))))
def dag_May.f (k:Nat) (a0:Event):Option (Bool):=(name_Event.f k a0.fID).bind fun t1172=>cond (!t1172) (some false) ((name_Room.f k a0.fRoom).bind fun t1176=>cond (!t1176) (some false) ((name_User.f k a0.fUser).bind fun t1180=>cond (!t1180) (some false) (cond (decide (4 < (a0.fParents.length:Int))) (some false) (cond (decide (a0.fDoes < 0)) (some false) (cond (decide (2 < a0.fDoes)) (some false) (cond (!decide (a0.fThread = (⟨#[]⟩:ByteArray))) ((name_Event.f k a0.fThread).bind fun t1190=>cond (!t1190) (some false) (cond (decide (a0.fThread = a0.fID)) (some false) (cond (a0.fDoes != 0) (some false) ((dag_May.l0 k a0 k 0).bind fun (p1197:Bool×Int×Bool)=>some p1197.1)))) ((dag_May.l1 k a0 k 0).bind fun (p1214:Bool×Int×Bool)=>some p1214.1)))))))
def dag_Dag_Has.f (a0:DDag) (a1:ByteArray):Option (Bool):=some (!(mget a0.fnodes a1).isNone)
def slices_ContainsFunc_string_x.f (k:Nat) (a0:List ByteArray) (a1:(ByteArray→Option Bool)):Option (Bool):=(slices_IndexFunc_string_x.f k a0 a1).bind fun t1234=>some (decide (0≤t1234))
def dag_Dag_Add_1.f (a0:ByteArray) (c0:DDag):Option (Bool):=(dag_Dag_Has.f c0 a0).bind fun t1238=>some (!t1238)
def dag_Dag_Add.l0 (k:Nat) (a1:Event):Nat→Int→Int→DDag→Option (Int×Bool×Int×DDag)
 | 0,_,_,_=>none
 | j1277 + 1,x1264,x1265,x1266=>cond (decide (x1264 < (a1.fParents.length:Int))) (grd ((0:Int)≤x1264∧x1264 < (a1.fParents.length:Int)) (grd ((mget x1266.fnodes (strK.at a1.fParents x1264)).isSome = true) (dag_Dag_Add.l0 k a1 j1277 (w64 (x1264 + 1)) (max x1265 (w64 ((((mget x1266.fnodes (strK.at a1.fParents x1264)).getD default).fdepth) + 1))) (⟨x1266.froom,mput x1266.fnodes (strK.at a1.fParents x1264) (⟨((mget x1266.fnodes (strK.at a1.fParents x1264)).getD default).fe,((mget x1266.fnodes (strK.at a1.fParents x1264)).getD default).fdepth,true⟩:DNode)⟩:DDag)))) (some (x1264,decide (x1264 < (a1.fParents.length:Int)),x1265,x1266))
def dag_Dag_Add.f (k:Nat) (a0:DDag) (a1:Event):Option (Int×DDag):=(dag_May.f k a1).bind fun t1244=>cond (!t1244) (some (1,a0)) (cond (!decide (a1.fRoom = a0.froom)) (some (1,a0)) ((dag_Dag_Has.f a0 a1.fID).bind fun t1249=>cond t1249 (some (9,a0)) ((slices_ContainsFunc_string_x.f k a1.fParents (fun a0_=>dag_Dag_Add_1.f a0_ a0)).bind fun t1252=>cond t1252 (some (4,a0)) ((cond (!decide (a1.fThread = (⟨#[]⟩:ByteArray))) (cond ((mget a0.fnodes a1.fThread).isNone) (some (.inr (4,a0))) (grd ((mget a0.fnodes a1.fThread).isSome = true) (cond (!decide (((((mget a0.fnodes a1.fThread).getD default).fe).fThread) = (⟨#[]⟩:ByteArray))) (some (.inr (7,a0))) (cond (((((mget a0.fnodes a1.fThread).getD default).fe).fDoes) != 0) (some (.inr (7,a0))) (some (.inl ())))))) (some (.inl ()))).bind (fall fun (p1255:Unit)=>(dag_own.f a1).bind fun t1256=>(dag_Dag_Add.l0 k a1 k 0 0 a0).bind fun (p1259:Int×Bool×Int×DDag)=>some (0,(⟨p1259.2.2.2.froom,mput p1259.2.2.2.fnodes a1.fID (⟨t1256,p1259.2.2.1,false⟩:DNode)⟩:DDag)))))))
def view_View_Add.f (k:Nat) (a0:VView) (a1:Event):Option (Int×VView):=(view_View_room.f a0 a1.fRoom).bind fun t1292=>(dag_Dag_Add.f k t1292 a1).bind fun t1295=>cond (t1295.1 != 0) (some (t1295.1,(⟨mres a0.fdags a1.fRoom t1295.2⟩:VView))) (some (0,(⟨mput a0.fdags a1.fRoom t1295.2⟩:VView)))
def r10_Of.l0 (k:Nat) (a0:RView) (a1:ByteArray):Nat→Int→Option ((Int×Bool) ⊕ (RDag))
 | 0,_=>none
 | j1308 + 1,x1303=>cond (decide (x1303 < (a0.fD.length:Int))) (grd ((0:Int)≤x1303∧x1303 < (a0.fD.length:Int)) (cond (decide (((RDag.K.at a0.fD x1303).fRoom) = a1)) (grd ((0:Int)≤x1303∧x1303 < (a0.fD.length:Int)) (some (.inr (RDag.K.at a0.fD x1303)))) (r10_Of.l0 k a0 a1 j1308 (w64 (x1303 + 1))))) (some (.inl (x1303,decide (x1303 < (a0.fD.length:Int)))))
def r10_Of.f (k:Nat) (a0:RView) (a1:ByteArray):Option (RDag):=(r10_Of.l0 k a0 a1 k 0).bind (fall fun (p1302:Int×Bool)=>some (⟨a1,([]:List Event)⟩:RDag))
def r10_Add.l0 (k:Nat) (a0:RView) (a1:Event) (t1315:RDag×Int):Nat→Bool→Int→List RDag→Option (Bool×Int×Bool×(List RDag))
 | 0,_,_,_=>none
 | j1343 + 1,x1324,x1325,x1326=>cond (decide (x1325 < (a0.fD.length:Int))) ((cond (!x1324) (grd ((0:Int)≤x1325∧x1325 < (a0.fD.length:Int)) (cond (!sLt ((RDag.K.at a0.fD x1325).fRoom) a1.fRoom) (grd (x1326.length + ([t1315.1]:List RDag).length≤9223372036854775807∧(x1326.length + ([t1315.1]:List RDag).length) * 40≤140737488355328) (some (true,!sLt ((RDag.K.at a0.fD x1325).fRoom) a1.fRoom,x1326++([t1315.1]:List RDag)))) (some (x1324,!sLt ((RDag.K.at a0.fD x1325).fRoom) a1.fRoom,x1326)))) (some (x1324,false,x1326))).bind fun (p1329:Bool×Bool×(List RDag))=>grd ((0:Int)≤x1325∧x1325 < (a0.fD.length:Int)) (cond (!decide (((RDag.K.at a0.fD x1325).fRoom) = a1.fRoom)) (grd ((0:Int)≤x1325∧x1325 < (a0.fD.length:Int)) (grd (p1329.2.2.length + ([RDag.K.at a0.fD x1325]:List RDag).length≤9223372036854775807∧(p1329.2.2.length + ([RDag.K.at a0.fD x1325]:List RDag).length) * 40≤140737488355328) (r10_Add.l0 k a0 a1 t1315 j1343 p1329.1 (w64 (x1325 + 1)) (p1329.2.2++([RDag.K.at a0.fD x1325]:List RDag))))) (r10_Add.l0 k a0 a1 t1315 j1343 p1329.1 (w64 (x1325 + 1)) p1329.2.2))) (some (x1324,x1325,decide (x1325 < (a0.fD.length:Int)),x1326))
def r10_Add.f (k:Nat) (a0:RView) (a1:Event):Option (RView×Int):=(r10_Of.f k a0 a1.fRoom).bind fun t1313=>(r07_Add.f k t1313 a1).bind fun t1315=>cond (t1315.2 != 0) (some (a0,t1315.2)) ((r10_Add.l0 k a0 a1 t1315 k false 0 ([]:List RDag)).bind fun (p1319:Bool×Int×Bool×(List RDag))=>cond (!p1319.1) (grd (p1319.2.2.2.length + ([t1315.1]:List RDag).length≤9223372036854775807∧(p1319.2.2.2.length + ([t1315.1]:List RDag).length) * 40≤140737488355328) (some ((⟨p1319.2.2.2++([t1315.1]:List RDag)⟩:RView),0))) (some ((⟨p1319.2.2.2⟩:RView),0)))
def r10_Build.l0 (k:Nat) (a0:List Event):Nat→Int→List RDag→Option (Int×Bool×(List RDag))
 | 0,_,_=>none
 | j1356 + 1,x1349,x1350=>cond (decide (x1349 < (a0.length:Int))) (grd ((0:Int)≤x1349∧x1349 < (a0.length:Int)) ((r10_Add.f k (⟨x1350⟩:RView) (Event.K.at a0 x1349)).bind fun t1353=>r10_Build.l0 k a0 j1356 (w64 (x1349 + 1)) t1353.1.fD)) (some (x1349,decide (x1349 < (a0.length:Int)),x1350))
def r10_Build.f (k:Nat) (a0:List Event):Option (RView):=(r10_Build.l0 k a0 k 0 ([]:List RDag)).bind fun (p1348:Int×Bool×(List RDag))=>some (⟨p1348.2.2⟩:RView)
def w18_open.l0 (k:Nat) (p1363:Int×Bool×(List Event)):Nat→Int→VView→Option ((Int×Bool×VView) ⊕ ((Option VView)×RView))
 | 0,_,_=>none
 | j1376 + 1,x1368,x1369=>cond (decide (x1368 < (p1363.2.2.length:Int))) (grd ((0:Int)≤x1368∧x1368 < (p1363.2.2.length:Int)) ((view_View_Add.f k x1369 (p1363.2.2.getD x1368.toNat default)).bind fun t1373=>cond (t1373.1 != 0) (some (.inr (none,(⟨([]:List RDag)⟩:RView)))) (w18_open.l0 k p1363 j1376 (w64 (x1368 + 1)) t1373.2))) (some (.inl (x1368,decide (x1368 < (p1363.2.2.length:Int)),x1369)))
def w18_open.l2 (k:Nat) (x1378:Int):Nat→Int→List Event→Option (Int×Bool×(List Event))
 | 0,_,_=>none
 | j1396 + 1,x1384,x1385=>cond (decide (x1384 < 9)) ((r01_EventOf.f k x1384).bind fun t1388=>(r01_RoomOf.f x1378).bind fun t1390=>(r01_UserOf.f x1384).bind fun t1392=>grd (x1385.length + ([(⟨t1388,t1390,([]:List ByteArray),(⟨#[]⟩:ByteArray),t1392,1⟩:Event)]:List Event).length≤9223372036854775807∧(x1385.length + ([(⟨t1388,t1390,([]:List ByteArray),(⟨#[]⟩:ByteArray),t1392,1⟩:Event)]:List Event).length) * 96≤140737488355328) (w18_open.l2 k x1378 j1396 (w64 (x1384 + 1)) (x1385++([(⟨t1388,t1390,([]:List ByteArray),(⟨#[]⟩:ByteArray),t1392,1⟩:Event)]:List Event)))) (some (x1384,decide (x1384 < 9),x1385))
def w18_open.l1 (k:Nat):Nat→Int→List Event→Option (Int×Bool×(List Event))
 | 0,_,_=>none
 | j1399 + 1,x1378,x1379=>cond (decide (x1378 < 2)) ((w18_open.l2 k x1378 k 0 x1379).bind fun (p1382:Int×Bool×(List Event))=>w18_open.l1 k j1399 (w64 (x1378 + 1)) p1382.2.2) (some (x1378,decide (x1378 < 2),x1379))
def w18_open.f (k:Nat):Option ((Option VView)×RView):=(view_New.f).bind fun t1359=>(w18_open.l1 k k 0 ([]:List Event)).bind fun (p1363:Int×Bool×(List Event))=>(w18_open.l0 k p1363 k 0 t1359).bind (fall fun (p1365:Int×Bool×VView)=>(r10_Build.f k p1363.2.2).bind fun t1366=>some (some p1365.2.2,t1366))
def w18_lives.l0 (k:Nat) (t1402:(Option VView)×RView):Nat→ByteArray→Int→SSnd→Option (ByteArray×Int×Bool×SSnd)
 | 0,_,_,_=>none
 | j1429 + 1,x1417,x1418,x1419=>cond (decide (x1418 < 48)) ((sender_Sender_Send.f k x1419 (t1402.1.getD default) x1418).bind fun t1421=>cond t1421.2.1 (grd (x1417.size + (⟨#[32]⟩:ByteArray).size≤9223372036854775807) ((r01_Decimal.f k x1418).bind fun t1426=>grd ((x1417++(⟨#[32]⟩:ByteArray)).size + t1426.size≤9223372036854775807) (w18_lives.l0 k t1402 j1429 ((x1417++(⟨#[32]⟩:ByteArray))++t1426) (w64 (x1418 + 1)) t1421.2.2.2))) (w18_lives.l0 k t1402 j1429 x1417 (w64 (x1418 + 1)) t1421.2.2.2)) (some (x1417,x1418,decide (x1418 < 48),x1419))
def w18_lives.f (k:Nat):Option (Bool):=(w18_open.f k).bind fun t1402=>(w18_begin.f k 5 0).bind fun t1406=>cond t1402.1.isNone (some false) (cond t1406.isNone (some false) ((queue_Queue_Put.f k ((t1406.getD default).fQueue) (⟨3,(⟨#[]⟩:ByteArray),(⟨#[64,97,58,115,49]⟩:ByteArray),(⟨#[]⟩:ByteArray),(⟨#[]⟩:ByteArray),false,false,0,2,0,0⟩:Edu)).bind fun t1414=>(w18_lives.l0 k t1402 k (⟨#[]⟩:ByteArray) 0 (⟨t1414.2.2.2,(t1406.getD default).fself,(t1406.getD default).fto,(t1406.getD default).fids,(t1406.getD default).fair⟩:SSnd)).bind fun (p1416:ByteArray×Int×Bool×SSnd)=>some (decide (p1416.1 = (⟨#[32,48,32,49,32,51,32,55,32,49,53,32,51,49,32,52,55]⟩:ByteArray)))))
def sender_Sender_Ack.f (a0:SSnd) (a1:Int):Option (Bool×SSnd):=cond a0.fair.isNone (some (false,a0)) (grd (a0.fair.isSome = true) (cond ((((a0.fair.getD default).fp).fID) != a1) (some (false,a0)) (some (true,(⟨a0.fQueue,a0.fself,a0.fto,a0.fids,none⟩:SSnd)))))
def r01_Thread.f (k:Nat) (a0:ByteArray):Option (Bool):=(r01_Event.f k a0).bind fun t1440=>cond (decide (a0 = (⟨#[]⟩:ByteArray))) (some true) (cond (decide (a0 = (⟨#[109,97,105,110]⟩:ByteArray))) (some true) (some t1440))
def r03_Local.f (k:Nat) (a0:Edu):Option (Bool):=(r01_Named.f k a0.fUser 64).bind fun t1445=>(r01_Named.f k a0.fRoom 33).bind fun t1447=>(r01_Event.f k a0.fEvent).bind fun t1449=>(r01_Thread.f k a0.fThread).bind fun t1451=>cond (!t1445) (some false) (cond (decide (a0.fTick < 0)) (some false) (cond (decide (1099511627776 < a0.fTick)) (some false) (cond (decide (a0.fStamp < 0)) (some false) (cond (decide (1099511627776 < a0.fStamp)) (some false) (cond (a0.fKind == 1) (cond t1447 (cond t1449 (cond t1451 (cond (!a0.fOn) (cond (a0.fSpan == 0) (some (a0.fState == 0)) (some false)) (some false)) (some false)) (some false)) (some false)) (cond (a0.fKind == 2) (cond a0.fOn (cond (decide (1≤a0.fSpan)) (cond (decide (a0.fSpan≤60)) (cond t1447 (cond (decide (a0.fEvent = (⟨#[]⟩:ByteArray))) (cond (decide (a0.fThread = (⟨#[]⟩:ByteArray))) (cond (a0.fState == 0) (some (!a0.fPrivate)) (some false)) (some false)) (some false)) (some false)) (cond (!a0.fOn) (cond t1447 (cond (a0.fSpan == 0) (cond (decide (a0.fEvent = (⟨#[]⟩:ByteArray))) (cond (decide (a0.fThread = (⟨#[]⟩:ByteArray))) (cond (a0.fState == 0) (some (!a0.fPrivate)) (some false)) (some false)) (some false)) (some false)) (some false)) (cond t1447 (some false) (some false)))) (cond (!a0.fOn) (cond t1447 (cond (a0.fSpan == 0) (cond (decide (a0.fEvent = (⟨#[]⟩:ByteArray))) (cond (decide (a0.fThread = (⟨#[]⟩:ByteArray))) (cond (a0.fState == 0) (some (!a0.fPrivate)) (some false)) (some false)) (some false)) (some false)) (some false)) (cond t1447 (some false) (some false)))) (cond (!a0.fOn) (cond t1447 (cond (a0.fSpan == 0) (cond (decide (a0.fEvent = (⟨#[]⟩:ByteArray))) (cond (decide (a0.fThread = (⟨#[]⟩:ByteArray))) (cond (a0.fState == 0) (some (!a0.fPrivate)) (some false)) (some false)) (some false)) (some false)) (some false)) (cond t1447 (some false) (some false)))) (cond (a0.fKind == 3) (cond (decide (a0.fRoom = (⟨#[]⟩:ByteArray))) (cond (decide (a0.fEvent = (⟨#[]⟩:ByteArray))) (cond (decide (a0.fThread = (⟨#[]⟩:ByteArray))) (cond (!a0.fOn) (cond (a0.fSpan == 0) (cond (!a0.fPrivate) (cond (decide (0≤a0.fState)) (some (decide (a0.fState≤2))) (some false)) (some false)) (some false)) (some false)) (some false)) (some false)) (some false)) (some false))))))))
def r03_May.f (k:Nat) (a0:Edu):Option (Bool):=(r03_Local.f k a0).bind fun t1506=>cond t1506 (some (!a0.fPrivate)) (some false)
def r09_Has.l0 (k:Nat) (a0:List ByteArray) (a1:ByteArray):Nat→Int→Option ((Int×Bool) ⊕ (Bool))
 | 0,_=>none
 | j1514 + 1,x1510=>cond (decide (x1510 < (a0.length:Int))) (grd ((0:Int)≤x1510∧x1510 < (a0.length:Int)) (cond (decide ((strK.at a0 x1510) = a1)) (some (.inr true)) (r09_Has.l0 k a0 a1 j1514 (w64 (x1510 + 1))))) (some (.inl (x1510,decide (x1510 < (a0.length:Int)))))
def r09_Has.f (k:Nat) (a0:List ByteArray) (a1:ByteArray):Option (Bool):=(r09_Has.l0 k a0 a1 k 0).bind (fall fun (p1509:Int×Bool)=>some false)
def r09_Put.l0 (k:Nat) (a0:List ByteArray) (a1:ByteArray):Nat→Bool→Int→List ByteArray→Option (Bool×Int×Bool×(List ByteArray))
 | 0,_,_,_=>none
 | j1540 + 1,x1521,x1522,x1523=>cond (decide (x1522 < (a0.length:Int))) ((cond (!x1521) (grd ((0:Int)≤x1522∧x1522 < (a0.length:Int)) (cond (!sLt (strK.at a0 x1522) a1) (grd (x1523.length + ([a1]:List ByteArray).length≤9223372036854775807∧(x1523.length + ([a1]:List ByteArray).length) * 16≤140737488355328) (some (true,!sLt (strK.at a0 x1522) a1,x1523++([a1]:List ByteArray)))) (some (x1521,!sLt (strK.at a0 x1522) a1,x1523)))) (some (x1521,false,x1523))).bind fun (p1526:Bool×Bool×(List ByteArray))=>grd ((0:Int)≤x1522∧x1522 < (a0.length:Int)) (cond (!decide ((strK.at a0 x1522) = a1)) (grd ((0:Int)≤x1522∧x1522 < (a0.length:Int)) (grd (p1526.2.2.length + ([strK.at a0 x1522]:List ByteArray).length≤9223372036854775807∧(p1526.2.2.length + ([strK.at a0 x1522]:List ByteArray).length) * 16≤140737488355328) (r09_Put.l0 k a0 a1 j1540 p1526.1 (w64 (x1522 + 1)) (p1526.2.2++([strK.at a0 x1522]:List ByteArray))))) (r09_Put.l0 k a0 a1 j1540 p1526.1 (w64 (x1522 + 1)) p1526.2.2))) (some (x1521,x1522,decide (x1522 < (a0.length:Int)),x1523))
def r09_Put.f (k:Nat) (a0:List ByteArray) (a1:ByteArray):Option ((List ByteArray)):=(r09_Put.l0 k a0 a1 k false 0 ([]:List ByteArray)).bind fun (p1516:Bool×Int×Bool×(List ByteArray))=>cond (!p1516.1) (grd (p1516.2.2.2.length + ([a1]:List ByteArray).length≤9223372036854775807∧(p1516.2.2.2.length + ([a1]:List ByteArray).length) * 16≤140737488355328) (some (p1516.2.2.2++([a1]:List ByteArray)))) (some p1516.2.2.2)
def r01_Home.f (k:Nat) (a0:ByteArray):Option (ByteArray):=(r01_Named.f k a0 64).bind fun t1543=>(r01_Named.f k a0 33).bind fun t1545=>cond (!t1543) (cond (!t1545) (some (⟨#[]⟩:ByteArray)) ((r01_colon.f k a0).bind fun t1549=>grd ((0:Int)≤(w64 (t1549 + 1))∧(w64 (t1549 + 1)).toNat≤a0.size∧a0.size≤a0.size) (some (a0.extract (w64 (t1549 + 1)).toNat a0.size)))) ((r01_colon.f k a0).bind fun t1553=>grd ((0:Int)≤(w64 (t1553 + 1))∧(w64 (t1553 + 1)).toNat≤a0.size∧a0.size≤a0.size) (some (a0.extract (w64 (t1553 + 1)).toNat a0.size)))
def r09_Homes.l0 (k:Nat) (a0:List ByteArray):Nat→Int→List ByteArray→Option (Int×Bool×(List ByteArray))
 | 0,_,_=>none
 | j1569 + 1,x1558,x1559=>cond (decide (x1558 < (a0.length:Int))) (grd ((0:Int)≤x1558∧x1558 < (a0.length:Int)) ((r01_Home.f k (strK.at a0 x1558)).bind fun t1563=>cond (!decide (t1563 = (⟨#[]⟩:ByteArray))) ((r09_Put.f k x1559 t1563).bind fun t1566=>r09_Homes.l0 k a0 j1569 (w64 (x1558 + 1)) t1566) (r09_Homes.l0 k a0 j1569 (w64 (x1558 + 1)) x1559))) (some (x1558,decide (x1558 < (a0.length:Int)),x1559))
def r09_Homes.f (k:Nat) (a0:List ByteArray):Option ((List ByteArray)):=(r09_Homes.l0 k a0 k 0 ([]:List ByteArray)).bind fun (p1556:Int×Bool×(List ByteArray))=>some p1556.2.2
def r07_Before.f (a0:Pos) (a1:Pos):Option (Bool):=cond (decide (a0.fDepth < a1.fDepth)) (some true) (cond (a0.fDepth == a1.fDepth) (some (sLt a0.fID a1.fID)) (some false))
def r07_Depth.l1 (k:Nat) (a0:RDag) (x1586:Int):Nat→Int→List Int→Option (Int×Bool×(List Int))
 | 0,_,_=>none
 | j1604 + 1,x1590,x1591=>grd ((0:Int)≤x1586∧x1586 < (a0.fL.length:Int)) (cond (decide (x1590 < (((Event.K.at a0.fL x1586).fParents).length:Int))) (grd ((0:Int)≤x1586∧x1586 < (x1591.length:Int)) (grd ((0:Int)≤x1586∧x1586 < (a0.fL.length:Int)) (grd ((0:Int)≤x1590∧x1590 < (((Event.K.at a0.fL x1586).fParents).length:Int)) ((r07_At.f k a0 (strK.at ((Event.K.at a0.fL x1586).fParents) x1590)).bind fun t1598=>grd ((0:Int)≤t1598∧t1598 < (x1591.length:Int)) (grd ((0:Int)≤x1586∧x1586 < (x1591.length:Int)) (r07_Depth.l1 k a0 x1586 j1604 (w64 (x1590 + 1)) (x1591.set x1586.toNat (max (x1591.getD x1586.toNat default) (w64 ((x1591.getD t1598.toNat default) + 1)))))))))) (some (x1590,decide (x1590 < (((Event.K.at a0.fL x1586).fParents).length:Int)),x1591)))
def r07_Depth.l0 (k:Nat) (a0:RDag) (t1577:Int):Nat→Int→List Int→Option (Int×Bool×(List Int))
 | 0,_,_=>none
 | j1606 + 1,x1586,x1587=>cond (decide (x1586≤t1577)) ((r07_Depth.l1 k a0 x1586 k 0 x1587).bind fun (p1589:Int×Bool×(List Int))=>r07_Depth.l0 k a0 t1577 j1606 (w64 (x1586 + 1)) p1589.2.2) (some (x1586,decide (x1586≤t1577),x1587))
def r07_Depth.f (k:Nat) (a0:RDag) (a1:ByteArray):Option (Int):=(r07_At.f k a0 a1).bind fun t1577=>cond (decide (t1577 < 0)) (some 0) (grd ((0:Int)≤(w64 (t1577 + 1))∧(w64 (t1577 + 1))≤(9223372036854775807:Int)∧(w64 (t1577 + 1)).toNat * 8≤140737488355328) ((r07_Depth.l0 k a0 t1577 k 0 (List.replicate (w64 (t1577 + 1)).toNat (0:Int))).bind fun (p1583:Int×Bool×(List Int))=>grd ((0:Int)≤t1577∧t1577 < (p1583.2.2.length:Int)) (some (p1583.2.2.getD t1577.toNat default))))
def r07_Position.f (k:Nat) (a0:RDag) (a1:ByteArray):Option (Pos):=(r07_Depth.f k a0 a1).bind fun t1610=>some (⟨t1610,a1⟩:Pos)
def r09_Last.l0 (k:Nat) (a0:RDag) (a1:ByteArray):Nat→Int→Int→Option (Int×Int×Bool)
 | 0,_,_=>none
 | j1635 + 1,x1617,x1618=>cond (decide (x1618 < (a0.fL.length:Int))) (grd ((0:Int)≤x1618∧x1618 < (a0.fL.length:Int)) (cond (!decide (((Event.K.at a0.fL x1618).fUser) = a1)) (r09_Last.l0 k a0 a1 j1635 x1617 (w64 (x1618 + 1))) (grd ((0:Int)≤x1618∧x1618 < (a0.fL.length:Int)) (cond (((Event.K.at a0.fL x1618).fDoes) == 0) (r09_Last.l0 k a0 a1 j1635 x1617 (w64 (x1618 + 1))) (cond (decide (x1617 < 0)) (r09_Last.l0 k a0 a1 j1635 x1618 (w64 (x1618 + 1))) (grd ((0:Int)≤x1617∧x1617 < (a0.fL.length:Int)) ((r07_Position.f k a0 ((Event.K.at a0.fL x1617).fID)).bind fun t1627=>grd ((0:Int)≤x1618∧x1618 < (a0.fL.length:Int)) ((r07_Position.f k a0 ((Event.K.at a0.fL x1618).fID)).bind fun t1630=>(r07_Before.f t1627 t1630).bind fun t1632=>cond t1632 (r09_Last.l0 k a0 a1 j1635 x1618 (w64 (x1618 + 1))) (r09_Last.l0 k a0 a1 j1635 x1617 (w64 (x1618 + 1))))))))))) (some (x1617,x1618,decide (x1618 < (a0.fL.length:Int))))
def r09_Last.f (k:Nat) (a0:RDag) (a1:ByteArray):Option (Event×Bool):=(r09_Last.l0 k a0 a1 k (-1) 0).bind fun (p1614:Int×Int×Bool)=>cond (decide (p1614.1 < 0)) (some ((⟨(⟨#[]⟩:ByteArray),(⟨#[]⟩:ByteArray),([]:List ByteArray),(⟨#[]⟩:ByteArray),(⟨#[]⟩:ByteArray),0⟩:Event),false)) (grd ((0:Int)≤p1614.1∧p1614.1 < (a0.fL.length:Int)) (some (Event.K.at a0.fL p1614.1,true)))
def r09_Joined.f (k:Nat) (a0:RDag) (a1:ByteArray):Option (Bool):=(r09_Last.f k a0 a1).bind fun t1638=>cond t1638.2 (some (t1638.1.fDoes == 1)) (some false)
def r09_Users.l0 (k:Nat) (a0:RDag):Nat→Int→List ByteArray→Option (Int×Bool×(List ByteArray))
 | 0,_,_=>none
 | j1657 + 1,x1645,x1646=>cond (decide (x1645 < (a0.fL.length:Int))) (grd ((0:Int)≤x1645∧x1645 < (a0.fL.length:Int)) ((r09_Joined.f k a0 ((Event.K.at a0.fL x1645).fUser)).bind fun t1650=>cond t1650 (grd ((0:Int)≤x1645∧x1645 < (a0.fL.length:Int)) ((r09_Put.f k x1646 ((Event.K.at a0.fL x1645).fUser)).bind fun t1654=>r09_Users.l0 k a0 j1657 (w64 (x1645 + 1)) t1654)) (r09_Users.l0 k a0 j1657 (w64 (x1645 + 1)) x1646))) (some (x1645,decide (x1645 < (a0.fL.length:Int)),x1646))
def r09_Users.f (k:Nat) (a0:RDag):Option ((List ByteArray)):=(r09_Users.l0 k a0 k 0 ([]:List ByteArray)).bind fun (p1643:Int×Bool×(List ByteArray))=>some p1643.2.2
def r09_Servers.f (k:Nat) (a0:RDag):Option ((List ByteArray)):=(r09_Users.f k a0).bind fun t1661=>(r09_Homes.f k t1661).bind fun t1664=>some t1664
def r10_Servers.f (k:Nat) (a0:RView) (a1:ByteArray):Option ((List ByteArray)):=(r10_Of.f k a0 a1).bind fun t1668=>(r09_Servers.f k t1668).bind fun t1670=>some t1670
def r10_RoomsOf.l0 (k:Nat) (a0:RView) (a1:ByteArray):Nat→Int→List ByteArray→Option (Int×Bool×(List ByteArray))
 | 0,_,_=>none
 | j1687 + 1,x1676,x1677=>cond (decide (x1676 < (a0.fD.length:Int))) (grd ((0:Int)≤x1676∧x1676 < (a0.fD.length:Int)) ((r09_Joined.f k (RDag.K.at a0.fD x1676) a1).bind fun t1681=>cond t1681 (grd ((0:Int)≤x1676∧x1676 < (a0.fD.length:Int)) (grd (x1677.length + ([(RDag.K.at a0.fD x1676).fRoom]:List ByteArray).length≤9223372036854775807∧(x1677.length + ([(RDag.K.at a0.fD x1676).fRoom]:List ByteArray).length) * 16≤140737488355328) (r10_RoomsOf.l0 k a0 a1 j1687 (w64 (x1676 + 1)) (x1677++([(RDag.K.at a0.fD x1676).fRoom]:List ByteArray))))) (r10_RoomsOf.l0 k a0 a1 j1687 (w64 (x1676 + 1)) x1677))) (some (x1676,decide (x1676 < (a0.fD.length:Int)),x1677))
def r10_RoomsOf.f (k:Nat) (a0:RView) (a1:ByteArray):Option ((List ByteArray)):=(r10_RoomsOf.l0 k a0 a1 k 0 ([]:List ByteArray)).bind fun (p1674:Int×Bool×(List ByteArray))=>some p1674.2.2
def r10_Peers.l1 (k:Nat) (t1705:(List ByteArray)):Nat→Int→List ByteArray→Option (Int×Bool×(List ByteArray)×(List ByteArray))
 | 0,_,_=>none
 | j1717 + 1,x1708,x1709=>cond (decide (x1708 < (t1705.length:Int))) (grd ((0:Int)≤x1708∧x1708 < (t1705.length:Int)) ((r09_Put.f k x1709 (t1705.getD x1708.toNat default)).bind fun t1714=>r10_Peers.l1 k t1705 j1717 (w64 (x1708 + 1)) t1714)) (some (x1708,decide (x1708 < (t1705.length:Int)),x1709,t1705))
def r10_Peers.l0 (k:Nat) (a0:RView) (t1691:(List ByteArray)):Nat→Int→List ByteArray→Option (Int×Bool×(List ByteArray))
 | 0,_,_=>none
 | j1720 + 1,x1696,x1697=>cond (decide (x1696 < (t1691.length:Int))) ((grd ((0:Int)≤x1696∧x1696 < (t1691.length:Int)) ((r10_Servers.f k a0 (t1691.getD x1696.toNat default)).bind fun t1705=>r10_Peers.l1 k t1705 k 0 x1697)).bind fun (p1700:Int×Bool×(List ByteArray)×(List ByteArray))=>r10_Peers.l0 k a0 t1691 j1720 (w64 (x1696 + 1)) p1700.2.2.1) (some (x1696,decide (x1696 < (t1691.length:Int)),x1697))
def r10_Peers.f (k:Nat) (a0:RView) (a1:ByteArray):Option ((List ByteArray)):=(r10_RoomsOf.f k a0 a1).bind fun t1691=>(r10_Peers.l0 k a0 t1691 k 0 ([]:List ByteArray)).bind fun (p1694:Int×Bool×(List ByteArray))=>some p1694.2.2
def r16_Passes.f (k:Nat) (a0:RView) (a1:ByteArray) (a2:Edu):Option (Bool):=(r03_May.f k a2).bind fun t1725=>cond (!t1725) (some false) (cond (a2.fKind == 3) ((r10_Peers.f k a0 a2.fUser).bind fun t1729=>(r09_Has.f k t1729 a1).bind fun t1732=>some t1732) ((r10_Servers.f k a0 a2.fRoom).bind fun t1734=>(r09_Has.f k t1734 a1).bind fun t1737=>some t1737))
def r16_Choose.l0 (k:Nat) (a0:RView) (a1:ByteArray) (a2:List Edu):Nat→Int→List Edu→Option (Int×Bool×(List Edu))
 | 0,_,_=>none
 | j1753 + 1,x1742,x1743=>cond (decide (x1742 < (a2.length:Int))) (grd ((0:Int)≤x1742∧x1742 < (a2.length:Int)) ((r16_Passes.f k a0 a1 (Edu.K.at a2 x1742)).bind fun t1747=>cond t1747 (grd ((0:Int)≤x1742∧x1742 < (a2.length:Int)) (grd (x1743.length + ([Edu.K.at a2 x1742]:List Edu).length≤9223372036854775807∧(x1743.length + ([Edu.K.at a2 x1742]:List Edu).length) * 112≤140737488355328) (r16_Choose.l0 k a0 a1 a2 j1753 (w64 (x1742 + 1)) (x1743++([Edu.K.at a2 x1742]:List Edu))))) (r16_Choose.l0 k a0 a1 a2 j1753 (w64 (x1742 + 1)) x1743))) (some (x1742,decide (x1742 < (a2.length:Int)),x1743))
def r16_Choose.f (k:Nat) (a0:RView) (a1:ByteArray) (a2:List Edu):Option ((List Edu)):=(r16_Choose.l0 k a0 a1 a2 k 0 ([]:List Edu)).bind fun (p1740:Int×Bool×(List Edu))=>some p1740.2.2
def r05_Backoff.f (a0:Int):Option (Int):=cond (decide (a0 < 1)) (some 1) (cond (decide (3 < a0)) (some 16) (grd ((0:Int)≤a0∧a0 < (([1,2,4,8]:List Int).length:Int)) (some ((intK .i64).at ([1,2,4,8]:List Int) a0))))
def r17_Keep.l1 (k:Nat) (a0:RQue) (a1:List Edu) (x1763:Int):Nat→Bool→Int→Option (Bool×Int×Bool)
 | 0,_,_=>none
 | j1780 + 1,x1774,x1775=>cond (decide (x1775 < (a1.length:Int))) (cond x1774 (r17_Keep.l1 k a0 a1 x1763 j1780 true (w64 (x1775 + 1))) (grd ((0:Int)≤x1775∧x1775 < (a1.length:Int)) (grd ((0:Int)≤x1763∧x1763 < (a0.fL.length:Int)) (r17_Keep.l1 k a0 a1 x1763 j1780 (decide (Edu.K.at a1 x1775 = Edu.K.at a0.fL x1763)) (w64 (x1775 + 1)))))) (some (x1774,x1775,decide (x1775 < (a1.length:Int))))
def r17_Keep.l0 (k:Nat) (a0:RQue) (a1:List Edu):Nat→Int→List Edu→Option (Int×Bool×(List Edu))
 | 0,_,_=>none
 | j1783 + 1,x1763,x1764=>cond (decide (x1763 < (a0.fL.length:Int))) (((r17_Keep.l1 k a0 a1 x1763 k false 0).bind fun (p1769:Bool×Int×Bool)=>cond p1769.1 (grd ((0:Int)≤x1763∧x1763 < (a0.fL.length:Int)) (grd (x1764.length + ([Edu.K.at a0.fL x1763]:List Edu).length≤9223372036854775807∧(x1764.length + ([Edu.K.at a0.fL x1763]:List Edu).length) * 112≤140737488355328) (some (p1769.1,p1769.2.1,p1769.2.2,p1769.1,x1764++([Edu.K.at a0.fL x1763]:List Edu))))) (some (p1769.1,p1769.2.1,p1769.2.2,p1769.1,x1764))).bind fun (p1767:Bool×Int×Bool×Bool×(List Edu))=>r17_Keep.l0 k a0 a1 j1783 (w64 (x1763 + 1)) p1767.2.2.2.2) (some (x1763,decide (x1763 < (a0.fL.length:Int)),x1764))
def r17_Keep.f (k:Nat) (a0:RQue) (a1:List Edu):Option (RQue):=(r17_Keep.l0 k a0 a1 k 0 ([]:List Edu)).bind fun (p1761:Int×Bool×(List Edu))=>some (⟨a0.fMost,p1761.2.2,a0.fLost⟩:RQue)
def r17_Take.f (a0:RQue) (a1:Int):Option (RQue×(List Edu)):=grd ((0:Int)≤(min (max a1 0) (a0.fL.length:Int))∧(min (max a1 0) (a0.fL.length:Int)).toNat≤a0.fL.length∧a0.fL.length≤a0.fL.length) (grd ((0:Int)≤(min (max a1 0) (a0.fL.length:Int))∧0≤(min (max a1 0) (a0.fL.length:Int)).toNat∧(min (max a1 0) (a0.fL.length:Int)).toNat≤a0.fL.length) (some ((⟨a0.fMost,(a0.fL.take a0.fL.length).drop ((min (max a1 0) (a0.fL.length:Int)).toNat),a0.fLost⟩:RQue),(a0.fL.take ((min (max a1 0) (a0.fL.length:Int)).toNat)).drop 0)))
def r18_Send.f (k:Nat) (a0:RSnd) (a1:RView) (a2:Int):Option (RSnd×Par×Bool×Int):=cond a0.fOn (cond (decide (a2 < a0.fDue)) (some ((⟨a0.fSelf,a0.fTo,a0.fN,a0.fQ,a0.fFly,a0.fOn,a0.fTries,a0.fDue⟩:RSnd),(⟨false,(⟨#[]⟩:ByteArray),(⟨#[]⟩:ByteArray),0,([]:List Edu)⟩:Par),false,0)) ((cond a0.fOn ((r16_Choose.f k a1 a0.fTo a0.fFly.fEdus).bind fun t1807=>cond (decide (0 < (t1807.length:Int))) ((r05_Backoff.f (w64 (a0.fTries + 1))).bind fun t1810=>some (.inr ((⟨a0.fSelf,a0.fTo,a0.fN,a0.fQ,(⟨a0.fFly.fAck,a0.fFly.fFrom,a0.fFly.fTo,a0.fFly.fID,t1807⟩:Par),a0.fOn,w64 (a0.fTries + 1),w64 (a2 + t1810)⟩:RSnd),(⟨a0.fFly.fAck,a0.fFly.fFrom,a0.fFly.fTo,a0.fFly.fID,t1807⟩:Par),true,0))) (some (.inl (⟨a0.fSelf,a0.fTo,a0.fN,a0.fQ,(⟨false,(⟨#[]⟩:ByteArray),(⟨#[]⟩:ByteArray),0,([]:List Edu)⟩:Par),false,0,0⟩:RSnd)))) (some (.inl (⟨a0.fSelf,a0.fTo,a0.fN,a0.fQ,a0.fFly,a0.fOn,a0.fTries,a0.fDue⟩:RSnd)))).bind (fall fun (p1796:RSnd)=>(r16_Choose.f k a1 p1796.fTo p1796.fQ.fL).bind fun t1797=>(r17_Keep.f k p1796.fQ t1797).bind fun t1799=>cond ((t1799.fL.length:Int) == 0) (some ((⟨p1796.fSelf,p1796.fTo,p1796.fN,t1799,p1796.fFly,p1796.fOn,p1796.fTries,p1796.fDue⟩:RSnd),(⟨false,(⟨#[]⟩:ByteArray),(⟨#[]⟩:ByteArray),0,([]:List Edu)⟩:Par),false,0)) (cond (decide (1099511627776≤p1796.fN)) (some ((⟨p1796.fSelf,p1796.fTo,p1796.fN,t1799,p1796.fFly,p1796.fOn,p1796.fTries,p1796.fDue⟩:RSnd),(⟨false,(⟨#[]⟩:ByteArray),(⟨#[]⟩:ByteArray),0,([]:List Edu)⟩:Par),false,11)) ((r17_Take.f t1799 100).bind fun t1803=>some ((⟨p1796.fSelf,p1796.fTo,w64 (p1796.fN + 1),t1803.1,(⟨false,p1796.fSelf,p1796.fTo,w64 (p1796.fN + 1),t1803.2⟩:Par),true,0,w64 (a2 + 1)⟩:RSnd),(⟨false,p1796.fSelf,p1796.fTo,w64 (p1796.fN + 1),t1803.2⟩:Par),true,0)))))) ((cond a0.fOn ((r16_Choose.f k a1 a0.fTo a0.fFly.fEdus).bind fun t1824=>cond (decide (0 < (t1824.length:Int))) ((r05_Backoff.f (w64 (a0.fTries + 1))).bind fun t1827=>some (.inr ((⟨a0.fSelf,a0.fTo,a0.fN,a0.fQ,(⟨a0.fFly.fAck,a0.fFly.fFrom,a0.fFly.fTo,a0.fFly.fID,t1824⟩:Par),a0.fOn,w64 (a0.fTries + 1),w64 (a2 + t1827)⟩:RSnd),(⟨a0.fFly.fAck,a0.fFly.fFrom,a0.fFly.fTo,a0.fFly.fID,t1824⟩:Par),true,0))) (some (.inl (⟨a0.fSelf,a0.fTo,a0.fN,a0.fQ,(⟨false,(⟨#[]⟩:ByteArray),(⟨#[]⟩:ByteArray),0,([]:List Edu)⟩:Par),false,0,0⟩:RSnd)))) (some (.inl (⟨a0.fSelf,a0.fTo,a0.fN,a0.fQ,a0.fFly,a0.fOn,a0.fTries,a0.fDue⟩:RSnd)))).bind (fall fun (p1813:RSnd)=>(r16_Choose.f k a1 p1813.fTo p1813.fQ.fL).bind fun t1814=>(r17_Keep.f k p1813.fQ t1814).bind fun t1816=>cond ((t1816.fL.length:Int) == 0) (some ((⟨p1813.fSelf,p1813.fTo,p1813.fN,t1816,p1813.fFly,p1813.fOn,p1813.fTries,p1813.fDue⟩:RSnd),(⟨false,(⟨#[]⟩:ByteArray),(⟨#[]⟩:ByteArray),0,([]:List Edu)⟩:Par),false,0)) (cond (decide (1099511627776≤p1813.fN)) (some ((⟨p1813.fSelf,p1813.fTo,p1813.fN,t1816,p1813.fFly,p1813.fOn,p1813.fTries,p1813.fDue⟩:RSnd),(⟨false,(⟨#[]⟩:ByteArray),(⟨#[]⟩:ByteArray),0,([]:List Edu)⟩:Par),false,11)) ((r17_Take.f t1816 100).bind fun t1820=>some ((⟨p1813.fSelf,p1813.fTo,w64 (p1813.fN + 1),t1820.1,(⟨false,p1813.fSelf,p1813.fTo,w64 (p1813.fN + 1),t1820.2⟩:Par),true,0,w64 (a2 + 1)⟩:RSnd),(⟨false,p1813.fSelf,p1813.fTo,w64 (p1813.fN + 1),t1820.2⟩:Par),true,0)))))
def r04_SameEdus.l0 (k:Nat) (a0:List Edu) (a1:List Edu):Nat→Int→Option ((Int×Bool) ⊕ (Bool))
 | 0,_=>none
 | j1836 + 1,x1831=>cond (decide (x1831 < (a0.length:Int))) (grd ((0:Int)≤x1831∧x1831 < (a0.length:Int)) (grd ((0:Int)≤x1831∧x1831 < (a1.length:Int)) (cond (!decide (Edu.K.at a0 x1831 = Edu.K.at a1 x1831)) (some (.inr false)) (r04_SameEdus.l0 k a0 a1 j1836 (w64 (x1831 + 1)))))) (some (.inl (x1831,decide (x1831 < (a0.length:Int)))))
def r04_SameEdus.f (k:Nat) (a0:List Edu) (a1:List Edu):Option (Bool):=cond ((a0.length:Int) != (a1.length:Int)) (some false) ((r04_SameEdus.l0 k a0 a1 k 0).bind (fall fun (p1830:Int×Bool)=>some true))
def r18_Ack.f (a0:RSnd) (a1:Int):Option (RSnd×Bool):=cond (!a0.fOn) (some ((⟨a0.fSelf,a0.fTo,a0.fN,a0.fQ,a0.fFly,a0.fOn,a0.fTries,a0.fDue⟩:RSnd),false)) (cond (a0.fFly.fID != a1) (some ((⟨a0.fSelf,a0.fTo,a0.fN,a0.fQ,a0.fFly,a0.fOn,a0.fTries,a0.fDue⟩:RSnd),false)) (some ((⟨a0.fSelf,a0.fTo,a0.fN,a0.fQ,(⟨false,(⟨#[]⟩:ByteArray),(⟨#[]⟩:ByteArray),0,([]:List Edu)⟩:Par),false,0,0⟩:RSnd),true)))
def r03_Same.f (a0:Edu) (a1:Edu):Option (Bool):=cond (a0.fKind == a1.fKind) (cond (decide (a0.fRoom = a1.fRoom)) (cond (decide (a0.fUser = a1.fUser)) (cond (decide (a0.fThread = a1.fThread)) (some (a0.fPrivate == a1.fPrivate)) (some false)) (some false)) (some false)) (some false)
def r17_At.l0 (k:Nat) (a0:List Edu) (a1:Edu):Nat→Int→Option ((Int×Bool) ⊕ (Int))
 | 0,_=>none
 | j1899 + 1,x1893=>cond (decide (x1893 < (a0.length:Int))) (grd ((0:Int)≤x1893∧x1893 < (a0.length:Int)) ((r03_Same.f (Edu.K.at a0 x1893) a1).bind fun t1896=>cond t1896 (some (.inr x1893)) (r17_At.l0 k a0 a1 j1899 (w64 (x1893 + 1))))) (some (.inl (x1893,decide (x1893 < (a0.length:Int)))))
def r17_At.f (k:Nat) (a0:List Edu) (a1:Edu):Option (Int):=(r17_At.l0 k a0 a1 k 0).bind (fall fun (p1892:Int×Bool)=>some (-1))
def r02_Number.f:Nat→Int→Option ((List Int))
 | 0,_=>none
 | k + 1,a0=>(cond (decide (a0 < 0)) (some 0) (some a0)).bind fun (p1901:Int)=>cond (decide (p1901 < 128)) (some ([IntKind.u8.wrap (p1901)]:List Int)) ((r02_Number.f k (w64 (p1901.tdiv 128))).bind fun t1905=>grd (([IntKind.u8.wrap (w64 (128 + (p1901.tmod 128)))]:List Int).length + t1905.length≤9223372036854775807∧(([IntKind.u8.wrap (w64 (128 + (p1901.tmod 128)))]:List Int).length + t1905.length) * 1≤140737488355328) (some (([IntKind.u8.wrap (w64 (128 + (p1901.tmod 128)))]:List Int)++t1905)))
def r02_Text.f (k:Nat) (a0:ByteArray):Option ((List Int)):=(r02_Number.f k (a0.size:Int)).bind fun t1911=>grd (t1911.length + (strBs a0).length≤9223372036854775807∧(t1911.length + (strBs a0).length) * 1≤140737488355328) (some (t1911++(strBs a0)))
def r02_Flag.f (a0:Bool):Option ((List Int)):=cond a0 (some ([1]:List Int)) (some ([0]:List Int))
def r03_Bytes.f (k:Nat) (a0:Edu):Option ((List Int)):=(r02_Number.f k a0.fKind).bind fun t1918=>(r02_Text.f k a0.fRoom).bind fun t1921=>grd (t1918.length + t1921.length≤9223372036854775807∧(t1918.length + t1921.length) * 1≤140737488355328) ((r02_Text.f k a0.fUser).bind fun t1926=>grd ((t1918++t1921).length + t1926.length≤9223372036854775807∧((t1918++t1921).length + t1926.length) * 1≤140737488355328) ((r02_Text.f k a0.fEvent).bind fun t1931=>grd (((t1918++t1921)++t1926).length + t1931.length≤9223372036854775807∧(((t1918++t1921)++t1926).length + t1931.length) * 1≤140737488355328) ((r02_Text.f k a0.fThread).bind fun t1936=>grd ((((t1918++t1921)++t1926)++t1931).length + t1936.length≤9223372036854775807∧((((t1918++t1921)++t1926)++t1931).length + t1936.length) * 1≤140737488355328) ((r02_Flag.f a0.fOn).bind fun t1941=>grd (((((t1918++t1921)++t1926)++t1931)++t1936).length + t1941.length≤9223372036854775807∧(((((t1918++t1921)++t1926)++t1931)++t1936).length + t1941.length) * 1≤140737488355328) ((r02_Number.f k a0.fSpan).bind fun t1945=>grd ((((((t1918++t1921)++t1926)++t1931)++t1936)++t1941).length + t1945.length≤9223372036854775807∧((((((t1918++t1921)++t1926)++t1931)++t1936)++t1941).length + t1945.length) * 1≤140737488355328) ((r02_Number.f k a0.fState).bind fun t1950=>grd (((((((t1918++t1921)++t1926)++t1931)++t1936)++t1941)++t1945).length + t1950.length≤9223372036854775807∧(((((((t1918++t1921)++t1926)++t1931)++t1936)++t1941)++t1945).length + t1950.length) * 1≤140737488355328) ((r02_Number.f k a0.fTick).bind fun t1955=>grd ((((((((t1918++t1921)++t1926)++t1931)++t1936)++t1941)++t1945)++t1950).length + t1955.length≤9223372036854775807∧((((((((t1918++t1921)++t1926)++t1931)++t1936)++t1941)++t1945)++t1950).length + t1955.length) * 1≤140737488355328) ((r02_Number.f k a0.fStamp).bind fun t1960=>grd (((((((((t1918++t1921)++t1926)++t1931)++t1936)++t1941)++t1945)++t1950)++t1955).length + t1960.length≤9223372036854775807∧(((((((((t1918++t1921)++t1926)++t1931)++t1936)++t1941)++t1945)++t1950)++t1955).length + t1960.length) * 1≤140737488355328) (some (((((((((t1918++t1921)++t1926)++t1931)++t1936)++t1941)++t1945)++t1950)++t1955)++t1960))))))))))
def r03_Compare.f (k:Nat) (a0:Edu) (a1:Edu):Option (Int):=cond (decide (a0.fStamp < a1.fStamp)) (some (-1)) (cond (decide (a1.fStamp < a0.fStamp)) (some 1) ((r03_Bytes.f k a0).bind fun t1969=>(r03_Bytes.f k a1).bind fun t1972=>cond (sLt (ofNums t1969) (ofNums t1972)) (some (-1)) (cond (sLt (ofNums t1972) (ofNums t1969)) (some 1) (some 0))))
def r17_Put.f (k:Nat) (a0:RQue) (a1:Edu):Option (RQue×Edu×Bool×Int):=(r03_May.f k a1).bind fun t1981=>cond (!t1981) (some (a0,(⟨0,(⟨#[]⟩:ByteArray),(⟨#[]⟩:ByteArray),(⟨#[]⟩:ByteArray),(⟨#[]⟩:ByteArray),false,false,0,0,0,0⟩:Edu),false,1)) ((r17_At.f k a0.fL a1).bind fun t1984=>(cond (decide (0≤t1984)) (grd ((0:Int)≤t1984∧t1984 < (a0.fL.length:Int)) ((r03_Compare.f k a1 (Edu.K.at a0.fL t1984)).bind fun t1995=>cond (decide (t1995≤0)) (some (.inr (a0,(⟨0,(⟨#[]⟩:ByteArray),(⟨#[]⟩:ByteArray),(⟨#[]⟩:ByteArray),(⟨#[]⟩:ByteArray),false,false,0,0,0,0⟩:Edu),false,0))) (grd ((0:Int)≤t1984∧0≤t1984.toNat∧t1984.toNat≤a0.fL.length) (grd (([]:List Edu).length + ((a0.fL.take t1984.toNat).drop 0).length≤9223372036854775807∧(([]:List Edu).length + ((a0.fL.take t1984.toNat).drop 0).length) * 112≤140737488355328) (grd ((0:Int)≤(w64 (t1984 + 1))∧(w64 (t1984 + 1)).toNat≤a0.fL.length∧a0.fL.length≤a0.fL.length) (grd ((([]:List Edu)++((a0.fL.take t1984.toNat).drop 0)).length + ((a0.fL.take a0.fL.length).drop ((w64 (t1984 + 1)).toNat)).length≤9223372036854775807∧((([]:List Edu)++((a0.fL.take t1984.toNat).drop 0)).length + ((a0.fL.take a0.fL.length).drop ((w64 (t1984 + 1)).toNat)).length) * 112≤140737488355328) (some (.inl ((([]:List Edu)++((a0.fL.take t1984.toNat).drop 0))++((a0.fL.take a0.fL.length).drop ((w64 (t1984 + 1)).toNat))))))))))) (grd (([]:List Edu).length + a0.fL.length≤9223372036854775807∧(([]:List Edu).length + a0.fL.length) * 112≤140737488355328) (some (.inl (([]:List Edu)++a0.fL))))).bind (fall fun (p1986:(List Edu))=>grd (p1986.length + ([a1]:List Edu).length≤9223372036854775807∧(p1986.length + ([a1]:List Edu).length) * 112≤140737488355328) (cond (decide (a0.fMost < ((p1986++([a1]:List Edu)).length:Int))) (grd ((0:Int)≤1∧(1:Int).toNat≤(p1986++([a1]:List Edu)).length∧(p1986++([a1]:List Edu)).length≤(p1986++([a1]:List Edu)).length) (grd ((0:Int)≤0∧0 < ((p1986++([a1]:List Edu)).length:Int)) (some ((⟨a0.fMost,((p1986++([a1]:List Edu)).take ((p1986++([a1]:List Edu)).length)).drop ((1:Int).toNat),w64 (a0.fLost + 1)⟩:RQue),Edu.K.at (p1986++([a1]:List Edu)) 0,true,0)))) (some ((⟨a0.fMost,p1986++([a1]:List Edu),a0.fLost⟩:RQue),(⟨0,(⟨#[]⟩:ByteArray),(⟨#[]⟩:ByteArray),(⟨#[]⟩:ByteArray),(⟨#[]⟩:ByteArray),false,false,0,0,0,0⟩:Edu),false,0)))))
def parcel_May_1.f (k:Nat) (a0:Edu):Option (Bool):=(edu_May.f k a0).bind fun t2252=>some (!t2252)
def parcel_May.f (k:Nat) (a0:Par):Option (Bool):=(slices_ContainsFunc_Edu.f k a0.fEdus (parcel_May_1.f k)).bind fun t2255=>(name_Server.f k a0.fFrom).bind fun t2257=>cond t2257 ((name_Server.f k a0.fTo).bind fun t2260=>cond t2260 (cond (!decide (a0.fFrom = a0.fTo)) (cond (decide (1≤a0.fID)) (cond (decide (a0.fID≤1099511627776)) (cond (decide ((a0.fEdus.length:Int)≤100)) (cond (!t2255) (cond (!a0.fAck) (some true) (some ((a0.fEdus.length:Int) == 0))) (some false)) (some false)) (some false)) (some false)) (some false)) (some false)) (some false)
def w18_SenderNumbers.l0 (k:Nat) (a1:Int) (a2:Int) (t2269:(Option VView)×RView) (t2273:Int):Nat→Int→SSnd→Option ((Int×Bool×SSnd) ⊕ (Bool))
 | 0,_,_=>none
 | j2341 + 1,x2293,x2294=>(r01_Around.f a1 8).bind fun t2295=>cond (decide (x2293≤(w64 (1 + t2295)))) ((r01_UserOf.f x2293).bind fun t2300=>(queue_Queue_Put.f k x2294.fQueue (⟨3,(⟨#[]⟩:ByteArray),t2300,(⟨#[]⟩:ByteArray),(⟨#[]⟩:ByteArray),false,false,0,0,0,x2293⟩:Edu)).bind fun t2302=>(sender_Sender_Send.f k (⟨t2302.2.2.2,x2294.fself,x2294.fto,x2294.fids,x2294.fair⟩:SSnd) (t2269.1.getD default) x2293).bind fun t2304=>cond (!t2304.2.1) (some (.inr false)) (cond (t2304.2.2.1 != 0) (some (.inr false)) (cond (t2304.1.fID != (w64 (t2273 + x2293))) (some (.inr false)) (cond (!decide (t2304.1.fFrom = (⟨#[115,49]⟩:ByteArray))) (some (.inr false)) (cond (!decide (t2304.1.fTo = (⟨#[115,50]⟩:ByteArray))) (some (.inr false)) (cond t2304.1.fAck (some (.inr false)) ((parcel_May.f k t2304.1).bind fun t2319=>cond (!t2319) (some (.inr false)) (cond (a2 != t2304.1.fID) ((sender_Sender_Ack.f t2304.2.2.2 a2).bind fun t2323=>cond t2323.1 (some (.inr false)) ((sender_Sender_Ack.f t2323.2 t2304.1.fID).bind fun t2326=>cond (!t2326.1) (some (.inr false)) ((sender_Sender_Ack.f t2326.2 t2304.1.fID).bind fun t2330=>cond t2330.1 (some (.inr false)) (w18_SenderNumbers.l0 k a1 a2 t2269 t2273 j2341 (w64 (x2293 + 1)) t2330.2)))) ((sender_Sender_Ack.f t2304.2.2.2 t2304.1.fID).bind fun t2334=>cond (!t2334.1) (some (.inr false)) ((sender_Sender_Ack.f t2334.2 t2304.1.fID).bind fun t2338=>cond t2338.1 (some (.inr false)) (w18_SenderNumbers.l0 k a1 a2 t2269 t2273 j2341 (w64 (x2293 + 1)) t2338.2))))))))))) (some (.inl (x2293,decide (x2293≤(w64 (1 + t2295))),x2294)))
def w18_SenderBatches.l0 (k:Nat) (t2438:Int):Nat→Int→SSnd→Option (Int×Bool×SSnd)
 | 0,_,_=>none
 | j2485 + 1,x2471,x2472=>cond (decide (x2471 < (w64 (90 + t2438)))) ((r01_RoomOf.f x2471).bind fun t2476=>(r01_UserOf.f (x2471.tmod 9)).bind fun t2478=>(r01_Decimal.f k x2471).bind fun t2480=>grd ((⟨#[36,116]⟩:ByteArray).size + t2480.size≤9223372036854775807) ((queue_Queue_Put.f k x2472.fQueue (⟨1,t2476,t2478,(⟨#[36,120]⟩:ByteArray),(⟨#[36,116]⟩:ByteArray)++t2480,false,false,0,0,0,x2471⟩:Edu)).bind fun t2483=>w18_SenderBatches.l0 k t2438 j2485 (w64 (x2471 + 1)) (⟨t2483.2.2.2,x2472.fself,x2472.fto,x2472.fids,x2472.fair⟩:SSnd))) (some (x2471,decide (x2471 < (w64 (90 + t2438))),x2472))
def w18_SenderBatches.f (k:Nat) (a0:Int):Option (Bool):=(w18_open.f k).bind fun t2428=>(w18_begin.f k 120 0).bind fun t2432=>cond t2428.1.isNone (some false) (cond t2432.isNone (some false) ((r01_Around.f a0 30).bind fun t2438=>(w18_SenderBatches.l0 k t2438 k 0 (t2432.getD default)).bind fun (p2440:Int×Bool×SSnd)=>(queue_Queue_All.f k p2440.2.2.fQueue).bind fun t2445=>(sender_Sender_Send.f k p2440.2.2 (t2428.1.getD default) 0).bind fun t2447=>cond ((t2445.length:Int) != (w64 (90 + t2438))) (some false) (cond ((t2447.1.fEdus.length:Int) != (min (w64 (90 + t2438)) 100)) (some false) (grd ((0:Int)≤(min (w64 (90 + t2438)) 100)∧0≤(min (w64 (90 + t2438)) 100).toNat∧(min (w64 (90 + t2438)) 100).toNat≤t2445.length) ((r04_SameEdus.f k t2447.1.fEdus ((t2445.take ((min (w64 (90 + t2438)) 100).toNat)).drop 0)).bind fun t2455=>cond (!t2455) (some false) ((sender_Sender_Ack.f t2447.2.2.2 t2447.1.fID).bind fun t2458=>cond (!t2458.1) (some false) ((sender_Sender_Send.f k t2458.2 (t2428.1.getD default) 0).bind fun t2461=>cond (t2461.2.1 == (decide (100 < (w64 (90 + t2438))))) (grd ((0:Int)≤(min (w64 (90 + t2438)) 100)∧(min (w64 (90 + t2438)) 100).toNat≤t2445.length∧t2445.length≤t2445.length) ((r04_SameEdus.f k t2461.1.fEdus ((t2445.take t2445.length).drop ((min (w64 (90 + t2438)) 100).toNat))).bind fun t2466=>cond t2466 ((w18_lives.f k).bind fun t2469=>some t2469) (some false))) (some false))))))))
end Go.Proofs.YtmmaijneehmbgaaGreat
