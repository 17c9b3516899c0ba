import Derived.Test.YtmmaijneehmbgaaGreatChecked
import Derived.Test.YtmmaijneehmbgaaGreatConQ
import Derived.Test.YtmmaijneehmbgaaGreatConA6
import Derived.Eval
set_option linter.all false
set_option maxRecDepth 10000
set_option maxHeartbeats 20000000
namespace Go.Proofs.YtmmaijneehmbgaaGreat
open Go Go.Sp Tryz
theorem c101:prog.cellsOf 101=5:=by kernel_rfl
theorem c104:prog.cellsOf 104=1:=by kernel_rfl
theorem c105:prog.cellsOf 105=1:=by kernel_rfl
theorem c129:prog.cellsOf 129=1:=by kernel_rfl
theorem c144:prog.cellsOf 144=4:=by kernel_rfl
theorem c157:prog.cellsOf 157=1:=by kernel_rfl
theorem c171:prog.cellsOf 171=1:=by kernel_rfl
theorem c2:prog.cellsOf 2=1:=by kernel_rfl
theorem c226:prog.cellsOf 226=2:=by kernel_rfl
theorem c23:prog.cellsOf 23=1:=by kernel_rfl
theorem c28:prog.cellsOf 28=1:=by kernel_rfl
theorem c3:prog.cellsOf 3=1:=by kernel_rfl
theorem c32:prog.cellsOf 32=11:=by kernel_rfl
theorem c36:prog.cellsOf 36=1:=by kernel_rfl
theorem c37:prog.cellsOf 37=1:=by kernel_rfl
theorem c38:prog.cellsOf 38=1:=by kernel_rfl
theorem c4:prog.cellsOf 4=1:=by kernel_rfl
theorem c42:prog.cellsOf 42=1:=by kernel_rfl
theorem c44:prog.cellsOf 44=1:=by kernel_rfl
theorem c46:prog.cellsOf 46=5:=by kernel_rfl
theorem c5:prog.cellsOf 5=1:=by kernel_rfl
theorem c53:prog.cellsOf 53=1:=by kernel_rfl
theorem c55:prog.cellsOf 55=6:=by kernel_rfl
theorem c61:prog.cellsOf 61=1:=by kernel_rfl
theorem c71:prog.cellsOf 71=1:=by kernel_rfl
theorem c77:prog.cellsOf 77=3:=by kernel_rfl
theorem c78:prog.cellsOf 78=5:=by kernel_rfl
theorem c80:prog.cellsOf 80=14:=by kernel_rfl
theorem c83:prog.cellsOf 83=13:=by kernel_rfl
theorem c9:prog.cellsOf 9=1:=by kernel_rfl
theorem c93:prog.cellsOf 93=1:=by kernel_rfl
theorem c97:prog.cellsOf 97=2:=by kernel_rfl
theorem c99:prog.cellsOf 99=1:=by kernel_rfl
theorem cal10:callable prog 10=true:=by kernel_rfl
theorem cal100:callable prog 100=true:=by kernel_rfl
theorem cal101:callable prog 101=true:=by kernel_rfl
theorem cal102:callable prog 102=true:=by kernel_rfl
theorem cal103:callable prog 103=true:=by kernel_rfl
theorem cal104:callable prog 104=true:=by kernel_rfl
theorem cal105:callable prog 105=true:=by kernel_rfl
theorem cal106:callable prog 106=true:=by kernel_rfl
theorem cal107:callable prog 107=true:=by kernel_rfl
theorem cal108:callable prog 108=true:=by kernel_rfl
theorem cal109:callable prog 109=true:=by kernel_rfl
theorem cal11:callable prog 11=true:=by kernel_rfl
theorem cal110:callable prog 110=true:=by kernel_rfl
theorem cal111:callable prog 111=true:=by kernel_rfl
theorem cal112:callable prog 112=true:=by kernel_rfl
theorem cal113:callable prog 113=true:=by kernel_rfl
theorem cal114:callable prog 114=true:=by kernel_rfl
theorem cal115:callable prog 115=true:=by kernel_rfl
theorem cal116:callable prog 116=true:=by kernel_rfl
theorem cal117:callable prog 117=true:=by kernel_rfl
theorem cal118:callable prog 118=true:=by kernel_rfl
theorem cal119:callable prog 119=true:=by kernel_rfl
theorem cal12:callable prog 12=true:=by kernel_rfl
theorem cal120:callable prog 120=true:=by kernel_rfl
theorem cal121:callable prog 121=true:=by kernel_rfl
theorem cal122:callable prog 122=true:=by kernel_rfl
theorem cal123:callable prog 123=true:=by kernel_rfl
theorem cal124:callable prog 124=true:=by kernel_rfl
theorem cal125:callable prog 125=true:=by kernel_rfl
theorem cal126:callable prog 126=true:=by kernel_rfl
theorem cal127:callable prog 127=true:=by kernel_rfl
theorem cal129:callable prog 129=true:=by kernel_rfl
theorem cal13:callable prog 13=true:=by kernel_rfl
theorem cal130:callable prog 130=true:=by kernel_rfl
theorem cal131:callable prog 131=true:=by kernel_rfl
theorem cal132:callable prog 132=true:=by kernel_rfl
theorem cal133:callable prog 133=true:=by kernel_rfl
theorem cal134:callable prog 134=true:=by kernel_rfl
theorem cal135:callable prog 135=true:=by kernel_rfl
theorem cal136:callable prog 136=true:=by kernel_rfl
theorem cal137:callable prog 137=true:=by kernel_rfl
theorem cal138:callable prog 138=true:=by kernel_rfl
theorem cal140:callable prog 140=true:=by kernel_rfl
theorem cal141:callable prog 141=true:=by kernel_rfl
theorem cal142:callable prog 142=true:=by kernel_rfl
theorem cal143:callable prog 143=true:=by kernel_rfl
theorem cal144:callable prog 144=true:=by kernel_rfl
theorem cal145:callable prog 145=true:=by kernel_rfl
theorem cal148:callable prog 148=true:=by kernel_rfl
theorem cal149:callable prog 149=true:=by kernel_rfl
theorem cal15:callable prog 15=true:=by kernel_rfl
theorem cal150:callable prog 150=true:=by kernel_rfl
theorem cal151:callable prog 151=true:=by kernel_rfl
theorem cal152:callable prog 152=true:=by kernel_rfl
theorem cal153:callable prog 153=true:=by kernel_rfl
theorem cal154:callable prog 154=true:=by kernel_rfl
theorem cal155:callable prog 155=true:=by kernel_rfl
theorem cal156:callable prog 156=true:=by kernel_rfl
theorem cal157:callable prog 157=true:=by kernel_rfl
theorem cal158:callable prog 158=true:=by kernel_rfl
theorem cal159:callable prog 159=true:=by kernel_rfl
theorem cal16:callable prog 16=true:=by kernel_rfl
theorem cal160:callable prog 160=true:=by kernel_rfl
theorem cal161:callable prog 161=true:=by kernel_rfl
theorem cal162:callable prog 162=true:=by kernel_rfl
theorem cal163:callable prog 163=true:=by kernel_rfl
theorem cal164:callable prog 164=true:=by kernel_rfl
theorem cal165:callable prog 165=true:=by kernel_rfl
theorem cal166:callable prog 166=true:=by kernel_rfl
theorem cal167:callable prog 167=true:=by kernel_rfl
theorem cal168:callable prog 168=true:=by kernel_rfl
theorem cal169:callable prog 169=true:=by kernel_rfl
theorem cal17:callable prog 17=true:=by kernel_rfl
theorem cal170:callable prog 170=true:=by kernel_rfl
theorem cal171:callable prog 171=true:=by kernel_rfl
theorem cal172:callable prog 172=true:=by kernel_rfl
theorem cal173:callable prog 173=true:=by kernel_rfl
theorem cal176:callable prog 176=true:=by kernel_rfl
theorem cal177:callable prog 177=true:=by kernel_rfl
theorem cal178:callable prog 178=true:=by kernel_rfl
theorem cal179:callable prog 179=true:=by kernel_rfl
theorem cal18:callable prog 18=true:=by kernel_rfl
theorem cal180:callable prog 180=true:=by kernel_rfl
theorem cal182:callable prog 182=true:=by kernel_rfl
theorem cal183:callable prog 183=true:=by kernel_rfl
theorem cal19:callable prog 19=true:=by kernel_rfl
theorem cal195:callable prog 195=true:=by kernel_rfl
theorem cal196:callable prog 196=true:=by kernel_rfl
theorem cal197:callable prog 197=true:=by kernel_rfl
theorem cal20:callable prog 20=true:=by kernel_rfl
theorem cal206:callable prog 206=true:=by kernel_rfl
theorem cal207:callable prog 207=true:=by kernel_rfl
theorem cal21:callable prog 21=true:=by kernel_rfl
theorem cal210:callable prog 210=true:=by kernel_rfl
theorem cal211:callable prog 211=true:=by kernel_rfl
theorem cal212:callable prog 212=true:=by kernel_rfl
theorem cal215:callable prog 215=true:=by kernel_rfl
theorem cal23:callable prog 23=true:=by kernel_rfl
theorem cal24:callable prog 24=true:=by kernel_rfl
theorem cal25:callable prog 25=true:=by kernel_rfl
theorem cal26:callable prog 26=true:=by kernel_rfl
theorem cal27:callable prog 27=true:=by kernel_rfl
theorem cal28:callable prog 28=true:=by kernel_rfl
theorem cal29:callable prog 29=true:=by kernel_rfl
theorem cal31:callable prog 31=true:=by kernel_rfl
theorem cal32:callable prog 32=true:=by kernel_rfl
theorem cal33:callable prog 33=true:=by kernel_rfl
theorem cal34:callable prog 34=true:=by kernel_rfl
theorem cal35:callable prog 35=true:=by kernel_rfl
theorem cal36:callable prog 36=true:=by kernel_rfl
theorem cal37:callable prog 37=true:=by kernel_rfl
theorem cal38:callable prog 38=true:=by kernel_rfl
theorem cal39:callable prog 39=true:=by kernel_rfl
theorem cal40:callable prog 40=true:=by kernel_rfl
theorem cal41:callable prog 41=true:=by kernel_rfl
theorem cal42:callable prog 42=true:=by kernel_rfl
theorem cal43:callable prog 43=true:=by kernel_rfl
theorem cal44:callable prog 44=true:=by kernel_rfl
theorem cal45:callable prog 45=true:=by kernel_rfl
theorem cal46:callable prog 46=true:=by kernel_rfl
theorem cal47:callable prog 47=true:=by kernel_rfl
theorem cal48:callable prog 48=true:=by kernel_rfl
theorem cal49:callable prog 49=true:=by kernel_rfl
theorem cal50:callable prog 50=true:=by kernel_rfl
theorem cal51:callable prog 51=true:=by kernel_rfl
theorem cal52:callable prog 52=true:=by kernel_rfl
theorem cal53:callable prog 53=true:=by kernel_rfl
theorem cal54:callable prog 54=true:=by kernel_rfl
theorem cal55:callable prog 55=true:=by kernel_rfl
theorem cal56:callable prog 56=true:=by kernel_rfl
theorem cal57:callable prog 57=true:=by kernel_rfl
theorem cal58:callable prog 58=true:=by kernel_rfl
theorem cal59:callable prog 59=true:=by kernel_rfl
theorem cal60:callable prog 60=true:=by kernel_rfl
theorem cal61:callable prog 61=true:=by kernel_rfl
theorem cal62:callable prog 62=true:=by kernel_rfl
theorem cal63:callable prog 63=true:=by kernel_rfl
theorem cal64:callable prog 64=true:=by kernel_rfl
theorem cal65:callable prog 65=true:=by kernel_rfl
theorem cal66:callable prog 66=true:=by kernel_rfl
theorem cal68:callable prog 68=true:=by kernel_rfl
theorem cal69:callable prog 69=true:=by kernel_rfl
theorem cal70:callable prog 70=true:=by kernel_rfl
theorem cal71:callable prog 71=true:=by kernel_rfl
theorem cal72:callable prog 72=true:=by kernel_rfl
theorem cal73:callable prog 73=true:=by kernel_rfl
theorem cal74:callable prog 74=true:=by kernel_rfl
theorem cal75:callable prog 75=true:=by kernel_rfl
theorem cal76:callable prog 76=true:=by kernel_rfl
theorem cal77:callable prog 77=true:=by kernel_rfl
theorem cal78:callable prog 78=true:=by kernel_rfl
theorem cal79:callable prog 79=true:=by kernel_rfl
theorem cal80:callable prog 80=true:=by kernel_rfl
theorem cal81:callable prog 81=true:=by kernel_rfl
theorem cal82:callable prog 82=true:=by kernel_rfl
theorem cal83:callable prog 83=true:=by kernel_rfl
theorem cal84:callable prog 84=true:=by kernel_rfl
theorem cal85:callable prog 85=true:=by kernel_rfl
theorem cal86:callable prog 86=true:=by kernel_rfl
theorem cal87:callable prog 87=true:=by kernel_rfl
theorem cal88:callable prog 88=true:=by kernel_rfl
theorem cal89:callable prog 89=true:=by kernel_rfl
theorem cal9:callable prog 9=true:=by kernel_rfl
theorem cal90:callable prog 90=true:=by kernel_rfl
theorem cal91:callable prog 91=true:=by kernel_rfl
theorem cal92:callable prog 92=true:=by kernel_rfl
theorem cal93:callable prog 93=true:=by kernel_rfl
theorem cal94:callable prog 94=true:=by kernel_rfl
theorem cal95:callable prog 95=true:=by kernel_rfl
theorem cal96:callable prog 96=true:=by kernel_rfl
theorem cal97:callable prog 97=true:=by kernel_rfl
theorem cal98:callable prog 98=true:=by kernel_rfl
theorem cal99:callable prog 99=true:=by kernel_rfl
theorem eg101:prog.eqGuardType prog.depth 101=false:=by kernel_rfl
theorem eg150:prog.eqGuardType prog.depth 150=false:=by kernel_rfl
theorem eg32:prog.eqGuardType prog.depth 32=false:=by kernel_rfl
theorem inf101:∃ i,prog.info? 101=some i∧i.size=5∧i.zero=some (.agg #[.int .i64 0,.string ⟨#[]⟩,.string ⟨#[]⟩,.string ⟨#[]⟩,.bool false])∧i.bytes=64:=inf_of (by kernel_rfl) (by kernel_rfl) (by kernel_rfl)
theorem inf226:∃ i,prog.info? 226=some i∧i.size=2∧i.zero=some (.agg #[.int .i64 0,.string ⟨#[]⟩])∧i.bytes=24:=inf_of (by kernel_rfl) (by kernel_rfl) (by kernel_rfl)
theorem inf3:∃ i,prog.info? 3=some i∧i.size=1∧i.zero=some (.int .i64 0)∧i.bytes=8:=inf_of (by kernel_rfl) (by kernel_rfl) (by kernel_rfl)
theorem inf32:∃ i,prog.info? 32=some i∧i.size=11∧i.zero=some (.agg #[.int .i64 0,.string ⟨#[]⟩,.string ⟨#[]⟩,.string ⟨#[]⟩,.string ⟨#[]⟩,.bool false,.bool false,.int .i64 0,.int .i64 0,.int .i64 0,.int .i64 0])∧i.bytes=112:=inf_of (by kernel_rfl) (by kernel_rfl) (by kernel_rfl)
theorem inf4:∃ i,prog.info? 4=some i∧i.size=1∧i.zero=some (.bool false)∧i.bytes=1:=inf_of (by kernel_rfl) (by kernel_rfl) (by kernel_rfl)
theorem inf5:∃ i,prog.info? 5=some i∧i.size=1∧i.zero=some (.int .u8 0)∧i.bytes=1:=inf_of (by kernel_rfl) (by kernel_rfl) (by kernel_rfl)
theorem inf55:∃ i,prog.info? 55=some i∧i.size=6∧i.zero=some (.agg #[.string ⟨#[]⟩,.string ⟨#[]⟩,.slice none 0 0,.string ⟨#[]⟩,.string ⟨#[]⟩,.int .i64 0])∧i.bytes=96:=inf_of (by kernel_rfl) (by kernel_rfl) (by kernel_rfl)
theorem inf9:∃ i,prog.info? 9=some i∧i.size=1∧i.zero=some (.string ⟨#[]⟩)∧i.bytes=16:=inf_of (by kernel_rfl) (by kernel_rfl) (by kernel_rfl)
theorem inf97:∃ i,prog.info? 97=some i∧i.size=2∧i.zero=some (.agg #[.string ⟨#[]⟩,.slice none 0 0])∧i.bytes=40:=inf_of (by kernel_rfl) (by kernel_rfl) (by kernel_rfl)
theorem fa107_0:FA prog 107 0 0:=⟨_,_,_,_,underlying107,rfl,underlying3,c3,by decide,rfl⟩
theorem fa107_1:FA prog 107 1 1:=⟨_,_,_,_,underlying107,rfl,underlying104,c104,by decide,rfl⟩
theorem fa107_2:FA prog 107 2 2:=⟨_,_,_,_,underlying107,rfl,underlying105,c105,by decide,rfl⟩
theorem fa107_3:FA prog 107 3 3:=⟨_,_,_,_,underlying107,rfl,underlying3,c3,by decide,rfl⟩
theorem fa111_0:FA prog 111 0 0:=⟨_,_,_,_,underlying111,rfl,underlying46,c46,by decide,rfl⟩
theorem fa111_1:FA prog 111 1 5:=⟨_,_,_,_,underlying111,rfl,underlying3,c3,by decide,rfl⟩
theorem fa111_2:FA prog 111 2 6:=⟨_,_,_,_,underlying111,rfl,underlying3,c3,by decide,rfl⟩
theorem fa144_0:FA prog 144 0 0:=⟨_,_,_,_,underlying144,rfl,underlying3,c3,by decide,rfl⟩
theorem fa144_1:FA prog 144 1 1:=⟨_,_,_,_,underlying144,rfl,underlying3,c3,by decide,rfl⟩
theorem fa144_2:FA prog 144 2 2:=⟨_,_,_,_,underlying144,rfl,underlying61,c61,by decide,rfl⟩
theorem fa144_3:FA prog 144 3 3:=⟨_,_,_,_,underlying144,rfl,underlying3,c3,by decide,rfl⟩
theorem fa159_0:FA prog 159 0 0:=⟨_,_,_,_,underlying159,rfl,underlying9,c9,by decide,rfl⟩
theorem fa159_1:FA prog 159 1 1:=⟨_,_,_,_,underlying159,rfl,underlying157,c157,by decide,rfl⟩
theorem fa163_0:FA prog 163 0 0:=⟨_,_,_,_,underlying163,rfl,underlying55,c55,by decide,rfl⟩
theorem fa163_1:FA prog 163 1 6:=⟨_,_,_,_,underlying163,rfl,underlying3,c3,by decide,rfl⟩
theorem fa163_2:FA prog 163 2 7:=⟨_,_,_,_,underlying163,rfl,underlying4,c4,by decide,rfl⟩
theorem fa171_2:FA prog 171 2 0:=⟨_,_,_,_,underlying171,rfl,underlying2,c2,by decide,rfl⟩
theorem fa173_0:FA prog 173 0 0:=⟨_,_,_,_,underlying173,rfl,underlying171,c171,by decide,rfl⟩
theorem fa173_1:FA prog 173 1 1:=⟨_,_,_,_,underlying173,rfl,underlying2,c2,by decide,rfl⟩
theorem fa226_0:FA prog 226 0 0:=⟨_,_,_,_,underlying226,rfl,underlying3,c3,by decide,rfl⟩
theorem fa226_1:FA prog 226 1 1:=⟨_,_,_,_,underlying226,rfl,underlying9,c9,by decide,rfl⟩
theorem fa32_0:FA prog 32 0 0:=⟨_,_,_,_,underlying32,rfl,underlying3,c3,by decide,rfl⟩
theorem fa32_1:FA prog 32 1 1:=⟨_,_,_,_,underlying32,rfl,underlying9,c9,by decide,rfl⟩
theorem fa32_10:FA prog 32 10 10:=⟨_,_,_,_,underlying32,rfl,underlying3,c3,by decide,rfl⟩
theorem fa32_2:FA prog 32 2 2:=⟨_,_,_,_,underlying32,rfl,underlying9,c9,by decide,rfl⟩
theorem fa32_3:FA prog 32 3 3:=⟨_,_,_,_,underlying32,rfl,underlying9,c9,by decide,rfl⟩
theorem fa32_4:FA prog 32 4 4:=⟨_,_,_,_,underlying32,rfl,underlying9,c9,by decide,rfl⟩
theorem fa32_5:FA prog 32 5 5:=⟨_,_,_,_,underlying32,rfl,underlying4,c4,by decide,rfl⟩
theorem fa32_6:FA prog 32 6 6:=⟨_,_,_,_,underlying32,rfl,underlying4,c4,by decide,rfl⟩
theorem fa32_7:FA prog 32 7 7:=⟨_,_,_,_,underlying32,rfl,underlying3,c3,by decide,rfl⟩
theorem fa32_8:FA prog 32 8 8:=⟨_,_,_,_,underlying32,rfl,underlying3,c3,by decide,rfl⟩
theorem fa32_9:FA prog 32 9 9:=⟨_,_,_,_,underlying32,rfl,underlying3,c3,by decide,rfl⟩
theorem fa40_0:FA prog 40 0 0:=⟨_,_,_,_,underlying40,rfl,underlying36,c36,by decide,rfl⟩
theorem fa40_1:FA prog 40 1 1:=⟨_,_,_,_,underlying40,rfl,underlying9,c9,by decide,rfl⟩
theorem fa40_2:FA prog 40 2 2:=⟨_,_,_,_,underlying40,rfl,underlying9,c9,by decide,rfl⟩
theorem fa40_3:FA prog 40 3 3:=⟨_,_,_,_,underlying40,rfl,underlying37,c37,by decide,rfl⟩
theorem fa40_4:FA prog 40 4 4:=⟨_,_,_,_,underlying40,rfl,underlying38,c38,by decide,rfl⟩
theorem fa44_0:FA prog 44 0 0:=⟨_,_,_,_,underlying44,rfl,underlying42,c42,by decide,rfl⟩
theorem fa46_3:FA prog 46 3 3:=⟨_,_,_,_,underlying46,rfl,underlying3,c3,by decide,rfl⟩
theorem fa46_4:FA prog 46 4 4:=⟨_,_,_,_,underlying46,rfl,underlying23,c23,by decide,rfl⟩
theorem fa55_0:FA prog 55 0 0:=⟨_,_,_,_,underlying55,rfl,underlying9,c9,by decide,rfl⟩
theorem fa55_1:FA prog 55 1 1:=⟨_,_,_,_,underlying55,rfl,underlying9,c9,by decide,rfl⟩
theorem fa55_2:FA prog 55 2 2:=⟨_,_,_,_,underlying55,rfl,underlying53,c53,by decide,rfl⟩
theorem fa55_3:FA prog 55 3 3:=⟨_,_,_,_,underlying55,rfl,underlying9,c9,by decide,rfl⟩
theorem fa55_4:FA prog 55 4 4:=⟨_,_,_,_,underlying55,rfl,underlying9,c9,by decide,rfl⟩
theorem fa55_5:FA prog 55 5 5:=⟨_,_,_,_,underlying55,rfl,underlying3,c3,by decide,rfl⟩
theorem fa77_0:FA prog 77 0 0:=⟨_,_,_,_,underlying77,rfl,underlying3,c3,by decide,rfl⟩
theorem fa77_1:FA prog 77 1 1:=⟨_,_,_,_,underlying77,rfl,underlying23,c23,by decide,rfl⟩
theorem fa77_2:FA prog 77 2 2:=⟨_,_,_,_,underlying77,rfl,underlying3,c3,by decide,rfl⟩
theorem fa78_0:FA prog 78 0 0:=⟨_,_,_,_,underlying78,rfl,underlying4,c4,by decide,rfl⟩
theorem fa78_1:FA prog 78 1 1:=⟨_,_,_,_,underlying78,rfl,underlying9,c9,by decide,rfl⟩
theorem fa78_2:FA prog 78 2 2:=⟨_,_,_,_,underlying78,rfl,underlying9,c9,by decide,rfl⟩
theorem fa78_3:FA prog 78 3 3:=⟨_,_,_,_,underlying78,rfl,underlying3,c3,by decide,rfl⟩
theorem fa78_4:FA prog 78 4 4:=⟨_,_,_,_,underlying78,rfl,underlying23,c23,by decide,rfl⟩
theorem fa80_0:FA prog 80 0 0:=⟨_,_,_,_,underlying80,rfl,underlying9,c9,by decide,rfl⟩
theorem fa80_1:FA prog 80 1 1:=⟨_,_,_,_,underlying80,rfl,underlying9,c9,by decide,rfl⟩
theorem fa80_2:FA prog 80 2 2:=⟨_,_,_,_,underlying80,rfl,underlying3,c3,by decide,rfl⟩
theorem fa80_3:FA prog 80 3 3:=⟨_,_,_,_,underlying80,rfl,underlying77,c77,by decide,rfl⟩
theorem fa80_4:FA prog 80 4 6:=⟨_,_,_,_,underlying80,rfl,underlying78,c78,by decide,rfl⟩
theorem fa80_5:FA prog 80 5 11:=⟨_,_,_,_,underlying80,rfl,underlying4,c4,by decide,rfl⟩
theorem fa80_6:FA prog 80 6 12:=⟨_,_,_,_,underlying80,rfl,underlying3,c3,by decide,rfl⟩
theorem fa80_7:FA prog 80 7 13:=⟨_,_,_,_,underlying80,rfl,underlying3,c3,by decide,rfl⟩
theorem fa83_0:FA prog 83 0 0:=⟨_,_,_,_,underlying83,rfl,underlying3,c3,by decide,rfl⟩
theorem fa83_1:FA prog 83 1 1:=⟨_,_,_,_,underlying83,rfl,underlying3,c3,by decide,rfl⟩
theorem fa83_2:FA prog 83 2 2:=⟨_,_,_,_,underlying83,rfl,underlying32,c32,by decide,rfl⟩
theorem fa95_0:FA prog 95 0 0:=⟨_,_,_,_,underlying95,rfl,underlying93,c93,by decide,rfl⟩
theorem fa97_0:FA prog 97 0 0:=⟨_,_,_,_,underlying97,rfl,underlying9,c9,by decide,rfl⟩
theorem fa97_1:FA prog 97 1 1:=⟨_,_,_,_,underlying97,rfl,underlying28,c28,by decide,rfl⟩
theorem sc104:SC prog 104:=⟨_,underlying104,rfl⟩
theorem sc105:SC prog 105:=⟨_,underlying105,rfl⟩
theorem sc120:SC prog 120:=⟨_,underlying120,rfl⟩
theorem sc157:SC prog 157:=⟨_,underlying157,rfl⟩
theorem sc2:SC prog 2:=⟨_,underlying2,rfl⟩
theorem sc23:SC prog 23:=⟨_,underlying23,rfl⟩
theorem sc26:SC prog 26:=⟨_,underlying26,rfl⟩
theorem sc28:SC prog 28:=⟨_,underlying28,rfl⟩
theorem sc3:SC prog 3:=⟨_,underlying3,rfl⟩
theorem sc36:SC prog 36:=⟨_,underlying36,rfl⟩
theorem sc37:SC prog 37:=⟨_,underlying37,rfl⟩
theorem sc38:SC prog 38:=⟨_,underlying38,rfl⟩
theorem sc4:SC prog 4:=⟨_,underlying4,rfl⟩
theorem sc42:SC prog 42:=⟨_,underlying42,rfl⟩
theorem sc53:SC prog 53:=⟨_,underlying53,rfl⟩
theorem sc61:SC prog 61:=⟨_,underlying61,rfl⟩
theorem sc71:SC prog 71:=⟨_,underlying71,rfl⟩
theorem sc9:SC prog 9:=⟨_,underlying9,rfl⟩
theorem sc93:SC prog 93:=⟨_,underlying93,rfl⟩
theorem sc99:SC prog 99:=⟨_,underlying99,rfl⟩
theorem sg101:SG prog 101 5:=⟨_,underlying101,rfl,c101⟩
theorem sg32:SG prog 32 11:=⟨_,underlying32,rfl,c32⟩
theorem sg44:SG prog 44 1:=⟨_,underlying44,rfl,c44⟩
theorem sg46:SG prog 46 5:=⟨_,underlying46,rfl,c46⟩
theorem sg55:SG prog 55 6:=⟨_,underlying55,rfl,c55⟩
theorem sg77:SG prog 77 3:=⟨_,underlying77,rfl,c77⟩
theorem sg78:SG prog 78 5:=⟨_,underlying78,rfl,c78⟩
theorem sg80:SG prog 80 14:=⟨_,underlying80,rfl,c80⟩
theorem sg97:SG prog 97 2:=⟨_,underlying97,rfl,c97⟩
theorem sz101:SZ prog 101 5:=⟨_,underlying101,c101⟩
theorem sz104:SZ prog 104 1:=⟨_,underlying104,c104⟩
theorem sz226:SZ prog 226 2:=⟨_,underlying226,c226⟩
theorem sz23:SZ prog 23 1:=⟨_,underlying23,c23⟩
theorem sz3:SZ prog 3 1:=⟨_,underlying3,c3⟩
theorem sz32:SZ prog 32 11:=⟨_,underlying32,c32⟩
theorem sz38:SZ prog 38 1:=⟨_,underlying38,c38⟩
theorem sz4:SZ prog 4 1:=⟨_,underlying4,c4⟩
theorem sz44:SZ prog 44 1:=⟨_,underlying44,c44⟩
theorem sz46:SZ prog 46 5:=⟨_,underlying46,c46⟩
theorem sz53:SZ prog 53 1:=⟨_,underlying53,c53⟩
theorem sz55:SZ prog 55 6:=⟨_,underlying55,c55⟩
theorem sz71:SZ prog 71 1:=⟨_,underlying71,c71⟩
theorem sz77:SZ prog 77 3:=⟨_,underlying77,c77⟩
theorem sz78:SZ prog 78 5:=⟨_,underlying78,c78⟩
theorem sz80:SZ prog 80 14:=⟨_,underlying80,c80⟩
theorem sz9:SZ prog 9 1:=⟨_,underlying9,c9⟩
theorem sz97:SZ prog 97 2:=⟨_,underlying97,c97⟩
theorem pl101:plcT prog 101=true:=by kernel_rfl
theorem pl107:plcT prog 107=true:=by kernel_rfl
theorem pl111:plcT prog 111=true:=by kernel_rfl
theorem pl159:plcT prog 159=true:=by kernel_rfl
theorem pl163:plcT prog 163=true:=by kernel_rfl
theorem pl173:plcT prog 173=true:=by kernel_rfl
theorem pl226:plcT prog 226=true:=by kernel_rfl
theorem pl32:plcT prog 32=true:=by kernel_rfl
theorem pl40:plcT prog 40=true:=by kernel_rfl
theorem pl44:plcT prog 44=true:=by kernel_rfl
theorem pl46:plcT prog 46=true:=by kernel_rfl
theorem pl55:plcT prog 55=true:=by kernel_rfl
theorem pl77:plcT prog 77=true:=by kernel_rfl
theorem pl78:plcT prog 78=true:=by kernel_rfl
theorem pl80:plcT prog 80=true:=by kernel_rfl
theorem pl95:plcT prog 95=true:=by kernel_rfl
theorem pl97:plcT prog 97=true:=by kernel_rfl
theorem st101:prog.stoodInHeld 101=false:=by kernel_rfl
theorem st32:prog.stoodInHeld 32=false:=by kernel_rfl
theorem xf128:(Extern.findNext Tryz.f128).isNone=true:=by kernel_rfl
theorem xf139:(Extern.findNext Tryz.f139).isNone=true:=by kernel_rfl
theorem xf146:(Extern.findNext Tryz.f146).isNone=true:=by kernel_rfl
theorem xf147:(Extern.findNext Tryz.f147).isNone=true:=by kernel_rfl
theorem xf181:(Extern.findNext Tryz.f181).isNone=true:=by kernel_rfl
theorem xg128:Extern.find Tryz.f128=some Extern.Atomic.storeT:=by rfl
theorem xg139:Extern.find Tryz.f139=some Extern.BytealgCompare.compare:=by rfl
theorem xg146:Extern.find Tryz.f146=some (Extern.Atomic.loadT (.int .i64)):=by rfl
theorem xg147:Extern.find Tryz.f147=some (Extern.Atomic.casT (.int .i64)):=by rfl
theorem xg181:Extern.find Tryz.f181=some Extern.BytealgIndexByte.indexByte:=by rfl
theorem z101:zer prog 101=some (.agg #[.int .i64 0,.string ⟨#[]⟩,.string ⟨#[]⟩,.string ⟨#[]⟩,.bool false]):=by kernel_rfl
theorem z107:zer prog 107=some (.agg #[.int .i64 0,.slice none 0 0,.map none,.int .i64 0]):=by kernel_rfl
theorem z111:zer prog 111=some (.agg #[.bool false,.string ⟨#[]⟩,.string ⟨#[]⟩,.int .i64 0,.slice none 0 0,.int .i64 0,.int .i64 0]):=by kernel_rfl
theorem z120:zer prog 120=some (.pointer none):=by kernel_rfl
theorem z150:zer prog 150=some (.agg #[.int .i64 0,.string ⟨#[]⟩,.string ⟨#[]⟩,.string ⟨#[]⟩,.string ⟨#[]⟩,.bool false,.bool false,.int .i64 0,.int .i64 0,.int .i64 0,.int .i64 0]):=by kernel_rfl
theorem z159:zer prog 159=some (.agg #[.string ⟨#[]⟩,.map none]):=by kernel_rfl
theorem z161:zer prog 161=some (.pointer none):=by kernel_rfl
theorem z163:zer prog 163=some (.agg #[.string ⟨#[]⟩,.string ⟨#[]⟩,.slice none 0 0,.string ⟨#[]⟩,.string ⟨#[]⟩,.int .i64 0,.int .i64 0,.bool false]):=by kernel_rfl
theorem z173:zer prog 173=some (.agg #[.int .i64 0,.int .i64 0]):=by kernel_rfl
theorem z192:zer prog 192=some (.agg #[.nilFunc,.nilFunc,.nilFunc]):=by kernel_rfl
theorem z226:zer prog 226=some (.agg #[.int .i64 0,.string ⟨#[]⟩]):=by kernel_rfl
theorem z3:zer prog 3=some (.int .i64 0):=by kernel_rfl
theorem z32:zer prog 32=some (.agg #[.int .i64 0,.string ⟨#[]⟩,.string ⟨#[]⟩,.string ⟨#[]⟩,.string ⟨#[]⟩,.bool false,.bool false,.int .i64 0,.int .i64 0,.int .i64 0,.int .i64 0]):=by kernel_rfl
theorem z40:zer prog 40=some (.agg #[.pointer none,.string ⟨#[]⟩,.string ⟨#[]⟩,.pointer none,.pointer none]):=by kernel_rfl
theorem z44:zer prog 44=some (.agg #[.slice none 0 0]):=by kernel_rfl
theorem z46:zer prog 46=some (.agg #[.bool false,.string ⟨#[]⟩,.string ⟨#[]⟩,.int .i64 0,.slice none 0 0]):=by kernel_rfl
theorem z5:zer prog 5=some (.int .u8 0):=by kernel_rfl
theorem z55:zer prog 55=some (.agg #[.string ⟨#[]⟩,.string ⟨#[]⟩,.slice none 0 0,.string ⟨#[]⟩,.string ⟨#[]⟩,.int .i64 0]):=by kernel_rfl
theorem z71:zer prog 71=some .nilFunc:=by kernel_rfl
theorem z77:zer prog 77=some (.agg #[.int .i64 0,.slice none 0 0,.int .i64 0]):=by kernel_rfl
theorem z78:zer prog 78=some (.agg #[.bool false,.string ⟨#[]⟩,.string ⟨#[]⟩,.int .i64 0,.slice none 0 0]):=by kernel_rfl
theorem z80:zer prog 80=some (.agg #[.string ⟨#[]⟩,.string ⟨#[]⟩,.int .i64 0,.int .i64 0,.slice none 0 0,.int .i64 0,.bool false,.string ⟨#[]⟩,.string ⟨#[]⟩,.int .i64 0,.slice none 0 0,.bool false,.int .i64 0,.int .i64 0]):=by kernel_rfl
theorem z9:zer prog 9=some (.string ⟨#[]⟩):=by kernel_rfl
theorem z95:zer prog 95=some (.agg #[.map none]):=by kernel_rfl
theorem z97:zer prog 97=some (.agg #[.string ⟨#[]⟩,.slice none 0 0]):=by kernel_rfl
theorem z99:zer prog 99=some .nilFunc:=by kernel_rfl
theorem zc101:ZC prog 101 [eq (.int .i64 0),eq (.string (⟨#[]⟩:ByteArray)),eq (.string (⟨#[]⟩:ByteArray)),eq (.string (⟨#[]⟩:ByteArray)),eq (.bool false)]:=⟨_,z101,rfl⟩
theorem zc226:ZC prog 226 [eq (.int .i64 0),eq (.string (⟨#[]⟩:ByteArray))]:=⟨_,z226,rfl⟩
theorem zc32:ZC prog 32 [eq (.int .i64 0),eq (.string (⟨#[]⟩:ByteArray)),eq (.string (⟨#[]⟩:ByteArray)),eq (.string (⟨#[]⟩:ByteArray)),eq (.string (⟨#[]⟩:ByteArray)),eq (.bool false),eq (.bool false),eq (.int .i64 0),eq (.int .i64 0),eq (.int .i64 0),eq (.int .i64 0)]:=⟨_,z32,rfl⟩
theorem zc44:ZC prog 44 [eq (.slice none 0 0)]:=⟨_,z44,rfl⟩
theorem zc46:ZC prog 46 [eq (.bool false),eq (.string (⟨#[]⟩:ByteArray)),eq (.string (⟨#[]⟩:ByteArray)),eq (.int .i64 0),eq (.slice none 0 0)]:=⟨_,z46,rfl⟩
theorem zc55:ZC prog 55 [eq (.string (⟨#[]⟩:ByteArray)),eq (.string (⟨#[]⟩:ByteArray)),eq (.slice none 0 0),eq (.string (⟨#[]⟩:ByteArray)),eq (.string (⟨#[]⟩:ByteArray)),eq (.int .i64 0)]:=⟨_,z55,rfl⟩
theorem zc71:ZC prog 71 [eq .nilFunc]:=⟨_,z71,rfl⟩
theorem zc77:ZC prog 77 [eq (.int .i64 0),eq (.slice none 0 0),eq (.int .i64 0)]:=⟨_,z77,rfl⟩
theorem zc78:ZC prog 78 [eq (.bool false),eq (.string (⟨#[]⟩:ByteArray)),eq (.string (⟨#[]⟩:ByteArray)),eq (.int .i64 0),eq (.slice none 0 0)]:=⟨_,z78,rfl⟩
theorem zc80:ZC prog 80 [eq (.string (⟨#[]⟩:ByteArray)),eq (.string (⟨#[]⟩:ByteArray)),eq (.int .i64 0),eq (.int .i64 0),eq (.slice none 0 0),eq (.int .i64 0),eq (.bool false),eq (.string (⟨#[]⟩:ByteArray)),eq (.string (⟨#[]⟩:ByteArray)),eq (.int .i64 0),eq (.slice none 0 0),eq (.bool false),eq (.int .i64 0),eq (.int .i64 0)]:=⟨_,z80,rfl⟩
theorem zc97:ZC prog 97 [eq (.string (⟨#[]⟩:ByteArray)),eq (.slice none 0 0)]:=⟨_,z97,rfl⟩
structure EKey where
 fKind:Int
 fRoom:ByteArray
 fUser:ByteArray
 fThread:ByteArray
 fPrivate:Bool
 deriving DecidableEq,Inhabited
abbrev EKey.enc (x:EKey):Cs:=[eq (.int .i64 x.fKind),eq (.string x.fRoom),eq (.string x.fUser),eq (.string x.fThread),eq (.bool x.fPrivate)]
abbrev EKey.K:Kd EKey:=⟨5,default,EKey.enc,fun _=>rfl,fun _=>(ones_cons (one_eq rfl) (ones_cons (one_eq rfl) (ones_cons (one_eq rfl) (ones_cons (one_eq rfl) (ones_cons (one_eq rfl) ones_nil)))))⟩
structure Edu where
 fKind:Int
 fRoom:ByteArray
 fUser:ByteArray
 fEvent:ByteArray
 fThread:ByteArray
 fPrivate:Bool
 fOn:Bool
 fSpan:Int
 fState:Int
 fTick:Int
 fStamp:Int
 deriving DecidableEq,Inhabited
abbrev Edu.enc (x:Edu):Cs:=[eq (.int .i64 x.fKind),eq (.string x.fRoom),eq (.string x.fUser),eq (.string x.fEvent),eq (.string x.fThread),eq (.bool x.fPrivate),eq (.bool x.fOn),eq (.int .i64 x.fSpan),eq (.int .i64 x.fState),eq (.int .i64 x.fTick),eq (.int .i64 x.fStamp)]
abbrev Edu.K:Kd Edu:=⟨11,default,Edu.enc,fun _=>rfl,fun _=>(ones_cons (one_eq rfl) (ones_cons (one_eq rfl) (ones_cons (one_eq rfl) (ones_cons (one_eq rfl) (ones_cons (one_eq rfl) (ones_cons (one_eq rfl) (ones_cons (one_eq rfl) (ones_cons (one_eq rfl) (ones_cons (one_eq rfl) (ones_cons (one_eq rfl) (ones_cons (one_eq rfl) ones_nil)))))))))))⟩
structure SQue where
 fmost:Int
 fkeys:List EKey
 fat:List (EKey×Edu)
 flost:Int
 deriving DecidableEq,Inhabited
structure AtI where
 fv:Int
 deriving DecidableEq,Inhabited
abbrev AtI.enc (x:AtI):Cs:=[eq (.int .i64 x.fv)]
abbrev AtI.K:Kd AtI:=⟨1,default,AtI.enc,fun _=>rfl,fun _=>(ones_cons (one_eq rfl) ones_nil)⟩
structure Ctr where
 fn:AtI
 fmost:Int
 deriving DecidableEq,Inhabited
abbrev Ctr.enc (x:Ctr):Cs:=[eq (.int .i64 x.fn.fv),eq (.int .i64 x.fmost)]
abbrev Ctr.K:Kd Ctr:=⟨2,default,Ctr.enc,fun _=>rfl,fun _=>(ones_cons (one_eq rfl) (ones_cons (one_eq rfl) ones_nil))⟩
structure S where
 deriving DecidableEq,Inhabited
abbrev S.enc (x:S):Cs:=[]
abbrev S.K:Kd S:=⟨0,default,S.enc,fun _=>rfl,fun _=>ones_nil⟩
structure Par where
 fAck:Bool
 fFrom:ByteArray
 fTo:ByteArray
 fID:Int
 fEdus:List Edu
 deriving DecidableEq,Inhabited
abbrev Par.enc (x:Par):Cs:=[eq (.bool x.fAck),eq (.string x.fFrom),eq (.string x.fTo),eq (.int .i64 x.fID),sl Edu.K x.fEdus]
abbrev Par.K:Kd Par:=⟨5,default,Par.enc,fun _=>rfl,fun _=>(ones_cons (one_eq rfl) (ones_cons (one_eq rfl) (ones_cons (one_eq rfl) (ones_cons (one_eq rfl) (ones_cons one_sl ones_nil)))))⟩
structure Fly where
 fp:Par
 ftries:Int
 fdue:Int
 deriving DecidableEq,Inhabited
abbrev Fly.enc (x:Fly):Cs:=[eq (.bool x.fp.fAck),eq (.string x.fp.fFrom),eq (.string x.fp.fTo),eq (.int .i64 x.fp.fID),sl Edu.K x.fp.fEdus,eq (.int .i64 x.ftries),eq (.int .i64 x.fdue)]
abbrev Fly.K:Kd Fly:=⟨7,default,Fly.enc,fun _=>rfl,fun _=>(ones_cons (one_eq rfl) (ones_cons (one_eq rfl) (ones_cons (one_eq rfl) (ones_cons (one_eq rfl) (ones_cons one_sl (ones_cons (one_eq rfl) (ones_cons (one_eq rfl) ones_nil)))))))⟩
structure SSnd where
 fQueue:SQue
 fself:ByteArray
 fto:ByteArray
 fids:Ctr
 fair:Option Fly
 deriving DecidableEq,Inhabited
structure Event where
 fID:ByteArray
 fRoom:ByteArray
 fParents:List ByteArray
 fThread:ByteArray
 fUser:ByteArray
 fDoes:Int
 deriving DecidableEq,Inhabited
abbrev Event.enc (x:Event):Cs:=[eq (.string x.fID),eq (.string x.fRoom),sl strK x.fParents,eq (.string x.fThread),eq (.string x.fUser),eq (.int .i64 x.fDoes)]
abbrev Event.K:Kd Event:=⟨6,default,Event.enc,fun _=>rfl,fun _=>(ones_cons (one_eq rfl) (ones_cons (one_eq rfl) (ones_cons one_sl (ones_cons (one_eq rfl) (ones_cons (one_eq rfl) (ones_cons (one_eq rfl) ones_nil))))))⟩
structure DNode where
 fe:Event
 fdepth:Int
 fparent:Bool
 deriving DecidableEq,Inhabited
abbrev DNode.enc (x:DNode):Cs:=[eq (.string x.fe.fID),eq (.string x.fe.fRoom),sl strK x.fe.fParents,eq (.string x.fe.fThread),eq (.string x.fe.fUser),eq (.int .i64 x.fe.fDoes),eq (.int .i64 x.fdepth),eq (.bool x.fparent)]
abbrev DNode.K:Kd DNode:=⟨8,default,DNode.enc,fun _=>rfl,fun _=>(ones_cons (one_eq rfl) (ones_cons (one_eq rfl) (ones_cons one_sl (ones_cons (one_eq rfl) (ones_cons (one_eq rfl) (ones_cons (one_eq rfl) (ones_cons (one_eq rfl) (ones_cons (one_eq rfl) ones_nil))))))))⟩
structure DDag where
 froom:ByteArray
 fnodes:List (ByteArray×DNode)
 deriving DecidableEq,Inhabited
structure VView where
 fdags:List (ByteArray×DDag)
 deriving DecidableEq,Inhabited
structure RDag where
 fRoom:ByteArray
 fL:List Event
 deriving DecidableEq,Inhabited
abbrev RDag.enc (x:RDag):Cs:=[eq (.string x.fRoom),sl Event.K x.fL]
abbrev RDag.K:Kd RDag:=⟨2,default,RDag.enc,fun _=>rfl,fun _=>(ones_cons (one_eq rfl) (ones_cons one_sl ones_nil))⟩
structure GMade where
 fUser:Int
 fDoes:Int
 fParents:List Int
 fThread:Int
 deriving DecidableEq,Inhabited
abbrev GMade.enc (x:GMade):Cs:=[eq (.int .i64 x.fUser),eq (.int .i64 x.fDoes),sl (intK .i64) x.fParents,eq (.int .i64 x.fThread)]
abbrev GMade.K:Kd GMade:=⟨4,default,GMade.enc,fun _=>rfl,fun _=>(ones_cons (one_eq rfl) (ones_cons (one_eq rfl) (ones_cons one_sl (ones_cons (one_eq rfl) ones_nil))))⟩
structure Pos where
 fDepth:Int
 fID:ByteArray
 deriving DecidableEq,Inhabited
abbrev Pos.enc (x:Pos):Cs:=[eq (.int .i64 x.fDepth),eq (.string x.fID)]
abbrev Pos.K:Kd Pos:=⟨2,default,Pos.enc,fun _=>rfl,fun _=>(ones_cons (one_eq rfl) (ones_cons (one_eq rfl) ones_nil))⟩
structure RView where
 fD:List RDag
 deriving DecidableEq,Inhabited
abbrev RView.enc (x:RView):Cs:=[sl RDag.K x.fD]
abbrev RView.K:Kd RView:=⟨1,default,RView.enc,fun _=>rfl,fun _=>(ones_cons one_sl ones_nil)⟩
structure RQue where
 fMost:Int
 fL:List Edu
 fLost:Int
 deriving DecidableEq,Inhabited
abbrev RQue.enc (x:RQue):Cs:=[eq (.int .i64 x.fMost),sl Edu.K x.fL,eq (.int .i64 x.fLost)]
abbrev RQue.K:Kd RQue:=⟨3,default,RQue.enc,fun _=>rfl,fun _=>(ones_cons (one_eq rfl) (ones_cons one_sl (ones_cons (one_eq rfl) ones_nil)))⟩
structure RSnd where
 fSelf:ByteArray
 fTo:ByteArray
 fN:Int
 fQ:RQue
 fFly:Par
 fOn:Bool
 fTries:Int
 fDue:Int
 deriving DecidableEq,Inhabited
abbrev RSnd.enc (x:RSnd):Cs:=[eq (.string x.fSelf),eq (.string x.fTo),eq (.int .i64 x.fN),eq (.int .i64 x.fQ.fMost),sl Edu.K x.fQ.fL,eq (.int .i64 x.fQ.fLost),eq (.bool x.fFly.fAck),eq (.string x.fFly.fFrom),eq (.string x.fFly.fTo),eq (.int .i64 x.fFly.fID),sl Edu.K x.fFly.fEdus,eq (.bool x.fOn),eq (.int .i64 x.fTries),eq (.int .i64 x.fDue)]
abbrev RSnd.K:Kd RSnd:=⟨14,default,RSnd.enc,fun _=>rfl,fun _=>(ones_cons (one_eq rfl) (ones_cons (one_eq rfl) (ones_cons (one_eq rfl) (ones_cons (one_eq rfl) (ones_cons one_sl (ones_cons (one_eq rfl) (ones_cons (one_eq rfl) (ones_cons (one_eq rfl) (ones_cons (one_eq rfl) (ones_cons (one_eq rfl) (ones_cons one_sl (ones_cons (one_eq rfl) (ones_cons (one_eq rfl) (ones_cons (one_eq rfl) ones_nil))))))))))))))⟩
structure SStep where
 fDo:Int
 fN:Int
 fE:Edu
 deriving DecidableEq,Inhabited
abbrev SStep.enc (x:SStep):Cs:=[eq (.int .i64 x.fDo),eq (.int .i64 x.fN),eq (.int .i64 x.fE.fKind),eq (.string x.fE.fRoom),eq (.string x.fE.fUser),eq (.string x.fE.fEvent),eq (.string x.fE.fThread),eq (.bool x.fE.fPrivate),eq (.bool x.fE.fOn),eq (.int .i64 x.fE.fSpan),eq (.int .i64 x.fE.fState),eq (.int .i64 x.fE.fTick),eq (.int .i64 x.fE.fStamp)]
abbrev SStep.K:Kd SStep:=⟨13,default,SStep.enc,fun _=>rfl,fun _=>(ones_cons (one_eq rfl) (ones_cons (one_eq rfl) (ones_cons (one_eq rfl) (ones_cons (one_eq rfl) (ones_cons (one_eq rfl) (ones_cons (one_eq rfl) (ones_cons (one_eq rfl) (ones_cons (one_eq rfl) (ones_cons (one_eq rfl) (ones_cons (one_eq rfl) (ones_cons (one_eq rfl) (ones_cons (one_eq rfl) (ones_cons (one_eq rfl) ones_nil)))))))))))))⟩
def EKey.cv (k:EKey):List Value:=[.int .i64 k.fKind,.string k.fRoom,.string k.fUser,.string k.fThread,.bool k.fPrivate]
def EKey.kv (k:EKey):Value:=.agg (EKey.cv k).toArray
theorem EKey.kq (k:EKey):∀ R u,(agg (EKey.enc k)).p R u→u=EKey.kv k:=fun _ _ h=>aggq (vs:=EKey.cv k) rfl h
theorem eqt101 (x y:EKey) {d:Nat} {w:World}:(Op.equalIn (d+2) 101 (.agg [.int .i64 x.fKind,.string x.fRoom,.string x.fUser,.string x.fThread,.bool x.fPrivate].toArray) (.agg [.int .i64 y.fKind,.string y.fRoom,.string y.fUser,.string y.fThread,.bool y.fPrivate].toArray)).run prog w = .ok (decide (x=y)) w:=by
 have e:decide (x=y)=((decide (x.fKind=y.fKind)&&(decide (x.fRoom=y.fRoom)&&(decide (x.fUser=y.fUser)&&(decide (x.fThread=y.fThread)&&(decide (x.fPrivate=y.fPrivate)&&true)))))):=by cases x; cases y; rw [Bool.eq_iff_iff]; simp
 rw [e]
 exact eq_struct underlying101 st101 (eqF_cons (by decide) (run_part1 underlying3 rfl rfl) (run_part1 underlying3 rfl rfl) (eq_int underlying3) (eqF_cons (by decide) (run_part1 underlying9 rfl rfl) (run_part1 underlying9 rfl rfl) (eq_str underlying9) (eqF_cons (by decide) (run_part1 underlying9 rfl rfl) (run_part1 underlying9 rfl rfl) (eq_str underlying9) (eqF_cons (by decide) (run_part1 underlying9 rfl rfl) (run_part1 underlying9 rfl rfl) (eq_str underlying9) (eqF_cons (by decide) (run_part1 underlying4 rfl rfl) (run_part1 underlying4 rfl rfl) (eq_bool underlying4) eqF_nil)))))
theorem kok101:KeyOk prog 101 EKey.kv:=keyOk_struct (fun k=>(EKey.cv k).toArray) underlying101 (fun _=>rfl) (fun k=>(all_cons ⟨⟨_,underlying3,.inr (.inr ⟨_,rfl⟩)⟩,_,fun _=>run_part1 underlying3 rfl rfl⟩ (all_cons ⟨⟨_,underlying9,.inl rfl⟩,_,fun _=>run_part1 underlying9 rfl rfl⟩ (all_cons ⟨⟨_,underlying9,.inl rfl⟩,_,fun _=>run_part1 underlying9 rfl rfl⟩ (all_cons ⟨⟨_,underlying9,.inl rfl⟩,_,fun _=>run_part1 underlying9 rfl rfl⟩ (all_cons ⟨⟨_,underlying4,.inr (.inl rfl)⟩,_,fun _=>run_part1 underlying4 rfl rfl⟩ all_nil)))))) (fun k c w=>equal_of 2 (by decide) (fun _=>eqt101 k c)) (fun k=>by simp [EKey.kv,EKey.cv,Instr.sameBits,ba_beq])
theorem eqt32 (x y:Edu) {d:Nat} {w:World}:(Op.equalIn (d+2) 32 (.agg [.int .i64 x.fKind,.string x.fRoom,.string x.fUser,.string x.fEvent,.string x.fThread,.bool x.fPrivate,.bool x.fOn,.int .i64 x.fSpan,.int .i64 x.fState,.int .i64 x.fTick,.int .i64 x.fStamp].toArray) (.agg [.int .i64 y.fKind,.string y.fRoom,.string y.fUser,.string y.fEvent,.string y.fThread,.bool y.fPrivate,.bool y.fOn,.int .i64 y.fSpan,.int .i64 y.fState,.int .i64 y.fTick,.int .i64 y.fStamp].toArray)).run prog w = .ok (decide (x=y)) w:=by
 have e:decide (x=y)=((decide (x.fKind=y.fKind)&&(decide (x.fRoom=y.fRoom)&&(decide (x.fUser=y.fUser)&&(decide (x.fEvent=y.fEvent)&&(decide (x.fThread=y.fThread)&&(decide (x.fPrivate=y.fPrivate)&&(decide (x.fOn=y.fOn)&&(decide (x.fSpan=y.fSpan)&&(decide (x.fState=y.fState)&&(decide (x.fTick=y.fTick)&&(decide (x.fStamp=y.fStamp)&&true)))))))))))):=by cases x; cases y; rw [Bool.eq_iff_iff]; simp
 rw [e]
 exact eq_struct underlying32 st32 (eqF_cons (by decide) (run_part1 underlying3 rfl rfl) (run_part1 underlying3 rfl rfl) (eq_int underlying3) (eqF_cons (by decide) (run_part1 underlying9 rfl rfl) (run_part1 underlying9 rfl rfl) (eq_str underlying9) (eqF_cons (by decide) (run_part1 underlying9 rfl rfl) (run_part1 underlying9 rfl rfl) (eq_str underlying9) (eqF_cons (by decide) (run_part1 underlying9 rfl rfl) (run_part1 underlying9 rfl rfl) (eq_str underlying9) (eqF_cons (by decide) (run_part1 underlying9 rfl rfl) (run_part1 underlying9 rfl rfl) (eq_str underlying9) (eqF_cons (by decide) (run_part1 underlying4 rfl rfl) (run_part1 underlying4 rfl rfl) (eq_bool underlying4) (eqF_cons (by decide) (run_part1 underlying4 rfl rfl) (run_part1 underlying4 rfl rfl) (eq_bool underlying4) (eqF_cons (by decide) (run_part1 underlying3 rfl rfl) (run_part1 underlying3 rfl rfl) (eq_int underlying3) (eqF_cons (by decide) (run_part1 underlying3 rfl rfl) (run_part1 underlying3 rfl rfl) (eq_int underlying3) (eqF_cons (by decide) (run_part1 underlying3 rfl rfl) (run_part1 underlying3 rfl rfl) (eq_int underlying3) (eqF_cons (by decide) (run_part1 underlying3 rfl rfl) (run_part1 underlying3 rfl rfl) (eq_int underlying3) eqF_nil)))))))))))
def fqQ_uint8_bool (g:Int→Option Bool):List VP→VP→Prop:=fun vs ret=>∃ a0 r,g a0=some r∧vs=[eq (.int .u8 a0)]∧ret=eq (.bool r)
def fq_uint8_bool (g:Int→Option Bool):VP:=fnq prog (fqQ_uint8_bool g)
def fK_uint8_bool:Kd (Int→Option Bool):=⟨1,fun _=>none,fun g=>[fq_uint8_bool g],fun _=>rfl,fun _ p h R v hv=>by simp at h; subst h; exact one_fnq R v hv⟩
def SQue.O (p:OV) (m:SQue):As:=exA (γ:=Nat×OV×OV) (fun g=>p.1 = .pointer (some ⟨g.1,0,none⟩)) (fun g=>[blk g.1 107 [eq (.int .i64 m.fmost),eq g.2.1.1,eq g.2.2.1,eq (.int .i64 m.flost)],own EKey.K g.2.1.1 m.fkeys,mp EKey.kv (fun x:Edu=>agg (Edu.enc x)) g.2.2.1 m.fat])
theorem SQue.nn {p:OV} {m:SQue}:NN (SQue.O p m) p.1:=by unfold SQue.O; exact nn_ex (γ:=Nat×OV×OV) (b:=fun g=>g.1)
theorem SQue.opn {l:List As} {p:OV} {m:SQue} (j:Nat) (hj:l[j]? = some (SQue.O p m)):∀ R w,St R l w→∃ g:Nat×OV×OV,p.1 = .pointer (some ⟨g.1,0,none⟩)∧St R ([blk g.1 107 [eq (.int .i64 m.fmost),eq g.2.1.1,eq g.2.2.1,eq (.int .i64 m.flost)],own EKey.K g.2.1.1 m.fkeys,mp EKey.kv (fun x:Edu=>agg (Edu.enc x)) g.2.2.1 m.fat]++l.eraseIdx j) w:=st_open j hj
theorem SQue.shut {l r:List As} {p:OV} {m:SQue} (g:Nat×OV×OV) (hg:p.1 = .pointer (some ⟨g.1,0,none⟩)) (hp:l.Perm ([blk g.1 107 [eq (.int .i64 m.fmost),eq g.2.1.1,eq g.2.2.1,eq (.int .i64 m.flost)],own EKey.K g.2.1.1 m.fkeys,mp EKey.kv (fun x:Edu=>agg (Edu.enc x)) g.2.2.1 m.fat]++r)):∀ R w,St R l w→∃ _:Unit,True∧St R (SQue.O p m::r) w:=st_shut _ _ g hg hp
def Ctr.O (p:OV) (m:Ctr):As:=exA (γ:=Nat) (fun g=>p.1 = .pointer (some ⟨g,0,none⟩)) (fun g=>[blk g 173 [eq (.int .i64 m.fn.fv),eq (.int .i64 m.fmost)]])
theorem Ctr.nn {p:OV} {m:Ctr}:NN (Ctr.O p m) p.1:=by unfold Ctr.O; exact nn_ex (γ:=Nat) (b:=fun g=>g)
theorem Ctr.opn {l:List As} {p:OV} {m:Ctr} (j:Nat) (hj:l[j]? = some (Ctr.O p m)):∀ R w,St R l w→∃ g:Nat,p.1 = .pointer (some ⟨g,0,none⟩)∧St R ([blk g 173 [eq (.int .i64 m.fn.fv),eq (.int .i64 m.fmost)]]++l.eraseIdx j) w:=st_open j hj
theorem Ctr.shut {l r:List As} {p:OV} {m:Ctr} (g:Nat) (hg:p.1 = .pointer (some ⟨g,0,none⟩)) (hp:l.Perm ([blk g 173 [eq (.int .i64 m.fn.fv),eq (.int .i64 m.fmost)]]++r)):∀ R w,St R l w→∃ _:Unit,True∧St R (Ctr.O p m::r) w:=st_shut _ _ g hg hp
def Fly.O (p:OV) (m:Fly):As:=exA (γ:=Nat) (fun g=>p.1 = .pointer (some ⟨g,0,none⟩)) (fun g=>[blk g 111 [eq (.bool m.fp.fAck),eq (.string m.fp.fFrom),eq (.string m.fp.fTo),eq (.int .i64 m.fp.fID),sl Edu.K m.fp.fEdus,eq (.int .i64 m.ftries),eq (.int .i64 m.fdue)]])
theorem Fly.nn {p:OV} {m:Fly}:NN (Fly.O p m) p.1:=by unfold Fly.O; exact nn_ex (γ:=Nat) (b:=fun g=>g)
theorem Fly.opn {l:List As} {p:OV} {m:Fly} (j:Nat) (hj:l[j]? = some (Fly.O p m)):∀ R w,St R l w→∃ g:Nat,p.1 = .pointer (some ⟨g,0,none⟩)∧St R ([blk g 111 [eq (.bool m.fp.fAck),eq (.string m.fp.fFrom),eq (.string m.fp.fTo),eq (.int .i64 m.fp.fID),sl Edu.K m.fp.fEdus,eq (.int .i64 m.ftries),eq (.int .i64 m.fdue)]]++l.eraseIdx j) w:=st_open j hj
theorem Fly.shut {l r:List As} {p:OV} {m:Fly} (g:Nat) (hg:p.1 = .pointer (some ⟨g,0,none⟩)) (hp:l.Perm ([blk g 111 [eq (.bool m.fp.fAck),eq (.string m.fp.fFrom),eq (.string m.fp.fTo),eq (.int .i64 m.fp.fID),sl Edu.K m.fp.fEdus,eq (.int .i64 m.ftries),eq (.int .i64 m.fdue)]]++r)):∀ R w,St R l w→∃ _:Unit,True∧St R (Fly.O p m::r) w:=st_shut _ _ g hg hp
def SSnd.O (p:OV) (m:SSnd):As:=exA (γ:=Nat×OV×OV×OV) (fun g=>p.1 = .pointer (some ⟨g.1,0,none⟩)) (fun g=>[blk g.1 40 [eq g.2.1.1,eq (.string m.fself),eq (.string m.fto),eq g.2.2.1.1,eq g.2.2.2.1],SQue.O g.2.1 m.fQueue,Ctr.O g.2.2.1 m.fids,optO Fly.O g.2.2.2 m.fair])
theorem SSnd.nn {p:OV} {m:SSnd}:NN (SSnd.O p m) p.1:=by unfold SSnd.O; exact nn_ex (γ:=Nat×OV×OV×OV) (b:=fun g=>g.1)
theorem SSnd.opn {l:List As} {p:OV} {m:SSnd} (j:Nat) (hj:l[j]? = some (SSnd.O p m)):∀ R w,St R l w→∃ g:Nat×OV×OV×OV,p.1 = .pointer (some ⟨g.1,0,none⟩)∧St R ([blk g.1 40 [eq g.2.1.1,eq (.string m.fself),eq (.string m.fto),eq g.2.2.1.1,eq g.2.2.2.1],SQue.O g.2.1 m.fQueue,Ctr.O g.2.2.1 m.fids,optO Fly.O g.2.2.2 m.fair]++l.eraseIdx j) w:=st_open j hj
theorem SSnd.shut {l r:List As} {p:OV} {m:SSnd} (g:Nat×OV×OV×OV) (hg:p.1 = .pointer (some ⟨g.1,0,none⟩)) (hp:l.Perm ([blk g.1 40 [eq g.2.1.1,eq (.string m.fself),eq (.string m.fto),eq g.2.2.1.1,eq g.2.2.2.1],SQue.O g.2.1 m.fQueue,Ctr.O g.2.2.1 m.fids,optO Fly.O g.2.2.2 m.fair]++r)):∀ R w,St R l w→∃ _:Unit,True∧St R (SSnd.O p m::r) w:=st_shut _ _ g hg hp
def DNode.O (p:OV) (m:DNode):As:=exA (γ:=Nat) (fun g=>p.1 = .pointer (some ⟨g,0,none⟩)) (fun g=>[blk g 163 [eq (.string m.fe.fID),eq (.string m.fe.fRoom),sl strK m.fe.fParents,eq (.string m.fe.fThread),eq (.string m.fe.fUser),eq (.int .i64 m.fe.fDoes),eq (.int .i64 m.fdepth),eq (.bool m.fparent)]])
theorem DNode.nn {p:OV} {m:DNode}:NN (DNode.O p m) p.1:=by unfold DNode.O; exact nn_ex (γ:=Nat) (b:=fun g=>g)
theorem DNode.opn {l:List As} {p:OV} {m:DNode} (j:Nat) (hj:l[j]? = some (DNode.O p m)):∀ R w,St R l w→∃ g:Nat,p.1 = .pointer (some ⟨g,0,none⟩)∧St R ([blk g 163 [eq (.string m.fe.fID),eq (.string m.fe.fRoom),sl strK m.fe.fParents,eq (.string m.fe.fThread),eq (.string m.fe.fUser),eq (.int .i64 m.fe.fDoes),eq (.int .i64 m.fdepth),eq (.bool m.fparent)]]++l.eraseIdx j) w:=st_open j hj
theorem DNode.shut {l r:List As} {p:OV} {m:DNode} (g:Nat) (hg:p.1 = .pointer (some ⟨g,0,none⟩)) (hp:l.Perm ([blk g 163 [eq (.string m.fe.fID),eq (.string m.fe.fRoom),sl strK m.fe.fParents,eq (.string m.fe.fThread),eq (.string m.fe.fUser),eq (.int .i64 m.fe.fDoes),eq (.int .i64 m.fdepth),eq (.bool m.fparent)]]++r)):∀ R w,St R l w→∃ _:Unit,True∧St R (DNode.O p m::r) w:=st_shut _ _ g hg hp
def DDag.O (p:OV) (m:DDag):As:=exA (γ:=Nat×OV) (fun g=>p.1 = .pointer (some ⟨g.1,0,none⟩)) (fun g=>[blk g.1 159 [eq (.string m.froom),eq g.2.1],mpo Value.string DNode.O g.2.1 m.fnodes])
theorem DDag.nn {p:OV} {m:DDag}:NN (DDag.O p m) p.1:=by unfold DDag.O; exact nn_ex (γ:=Nat×OV) (b:=fun g=>g.1)
theorem DDag.opn {l:List As} {p:OV} {m:DDag} (j:Nat) (hj:l[j]? = some (DDag.O p m)):∀ R w,St R l w→∃ g:Nat×OV,p.1 = .pointer (some ⟨g.1,0,none⟩)∧St R ([blk g.1 159 [eq (.string m.froom),eq g.2.1],mpo Value.string DNode.O g.2.1 m.fnodes]++l.eraseIdx j) w:=st_open j hj
theorem DDag.shut {l r:List As} {p:OV} {m:DDag} (g:Nat×OV) (hg:p.1 = .pointer (some ⟨g.1,0,none⟩)) (hp:l.Perm ([blk g.1 159 [eq (.string m.froom),eq g.2.1],mpo Value.string DNode.O g.2.1 m.fnodes]++r)):∀ R w,St R l w→∃ _:Unit,True∧St R (DDag.O p m::r) w:=st_shut _ _ g hg hp
def VView.O (p:OV) (m:VView):As:=exA (γ:=Nat×OV) (fun g=>p.1 = .pointer (some ⟨g.1,0,none⟩)) (fun g=>[blk g.1 95 [eq g.2.1],mpo Value.string DDag.O g.2.1 m.fdags])
theorem VView.nn {p:OV} {m:VView}:NN (VView.O p m) p.1:=by unfold VView.O; exact nn_ex (γ:=Nat×OV) (b:=fun g=>g.1)
theorem VView.opn {l:List As} {p:OV} {m:VView} (j:Nat) (hj:l[j]? = some (VView.O p m)):∀ R w,St R l w→∃ g:Nat×OV,p.1 = .pointer (some ⟨g.1,0,none⟩)∧St R ([blk g.1 95 [eq g.2.1],mpo Value.string DDag.O g.2.1 m.fdags]++l.eraseIdx j) w:=st_open j hj
theorem VView.shut {l r:List As} {p:OV} {m:VView} (g:Nat×OV) (hg:p.1 = .pointer (some ⟨g.1,0,none⟩)) (hp:l.Perm ([blk g.1 95 [eq g.2.1],mpo Value.string DDag.O g.2.1 m.fdags]++r)):∀ R w,St R l w→∃ _:Unit,True∧St R (VView.O p m::r) w:=st_shut _ _ g hg hp
def fqQ_int_int_int_bool (g:Int→Int→Int→Option Bool):List VP→VP→Prop:=fun vs ret=>∃ a0 a1 a2 r,g a0 a1 a2=some r∧vs=[eq (.int .i64 a0),eq (.int .i64 a1),eq (.int .i64 a2)]∧ret=eq (.bool r)
def fq_int_int_int_bool (g:Int→Int→Int→Option Bool):VP:=fnq prog (fqQ_int_int_int_bool g)
def fqQ_api_Edu_bool (g:Edu→Option Bool):List VP→VP→Prop:=fun vs ret=>∃ a0 r,g a0=some r∧vs=[agg (Edu.enc a0)]∧ret=eq (.bool r)
def fq_api_Edu_bool (g:Edu→Option Bool):VP:=fnq prog (fqQ_api_Edu_bool g)
def fx_api_Edu_bool (X:As) (g:Edu→Option Bool):VP:=fnx prog X (fqQ_api_Edu_bool g)
def fK_api_Edu_bool:Kd (Edu→Option Bool):=⟨1,fun _=>none,fun g=>[fq_api_Edu_bool g],fun _=>rfl,fun _ p h R v hv=>by simp at h; subst h; exact one_fnq R v hv⟩
def fqQ_edu_Key_bool (g:EKey→Option Bool):List VP→VP→Prop:=fun vs ret=>∃ a0 r,g a0=some r∧vs=[agg (EKey.enc a0)]∧ret=eq (.bool r)
def fx_edu_Key_bool (X:As) (g:EKey→Option Bool):VP:=fnx prog X (fqQ_edu_Key_bool g)
def fqQ_string_bool (g:ByteArray→Option Bool):List VP→VP→Prop:=fun vs ret=>∃ a0 r,g a0=some r∧vs=[eq (.string a0)]∧ret=eq (.bool r)
def fx_string_bool (X:As) (g:ByteArray→Option Bool):VP:=fnx prog X (fqQ_string_bool g)
def name_small.f (a0:Int):Option (Bool):=cond (decide (97≤a0)) (cond (decide (a0≤122)) (some true) (cond (decide (48≤a0)) (some (decide (a0≤57))) (some false))) (cond (decide (48≤a0)) (some (decide (a0≤57))) (some false))
def stringslite_IndexByte.f (a0:ByteArray) (a1:Int):Option (Int):=some (idxB a0 a1)
def strings_IndexByte.f (a0:ByteArray) (a1:Int):Option (Int):=(stringslite_IndexByte.f a0 a1).bind fun t5=>some t5
def name_among_1.f (a0:Int) (c0:ByteArray):Option (Bool):=(name_small.f a0).bind fun t7=>cond t7 (some true) ((strings_IndexByte.f c0 a0).bind fun t10=>some (decide (0≤t10)))
def name_among.f (a0:ByteArray):Option ((Int→Option Bool)):=some (fun a0_=>name_among_1.f a0_ a0)
def name_may.l0 (k:Nat) (a0:ByteArray) (a1:Int) (t13:(Int→Option Bool)) (t15:(Int→Option Bool)) (t17:(Int→Option Bool)):Nat→Int→Option ((Int×Bool) ⊕ (Bool))
 | 0,_=>none
 | j28+1,x22=>cond (decide (x22<(a0.size:Int))) (grd ((0:Int)≤x22∧x22<(a0.size:Int)) (((fK_uint8_bool.at ([t13,t15,t17]:List (Int→Option Bool)) a1) (bt a0 x22)).bind fun t25=>cond (!t25) (some (.inr false)) (name_may.l0 k a0 a1 t13 t15 t17 j28 (w64 (x22+1))))) (some (.inl (x22,decide (x22<(a0.size:Int)))))
def name_may.f (k:Nat) (a0:ByteArray) (a1:Int):Option (Bool):=(name_among.f (⟨#[46,45,95]⟩:ByteArray)).bind fun t13=>(name_among.f (⟨#[46,45]⟩:ByteArray)).bind fun t15=>(name_among.f (⟨#[45,95,65,66,67,68,69,70,71,72,73,74,75,76,77,78,79,80,81,82,83,84,85,86,87,88,89,90]⟩:ByteArray)).bind fun t17=>grd ((0:Int)≤a1∧a1<(3:Int)) ((name_may.l0 k a0 a1 t13 t15 t17 k 0).bind (fall fun (p20:Int×Bool)=>cond (!decide (a0=(⟨#[]⟩:ByteArray))) (some (decide ((a0.size:Int)≤16))) (some false)))
def name_Server.f (k:Nat) (a0:ByteArray):Option (Bool):=(name_may.f k a0 1).bind fun t30=>cond t30 (grd ((0:Int)≤0∧0<(a0.size:Int)) ((name_small.f (bt a0 0)).bind fun t34=>cond t34 (grd ((0:Int)≤(w64 ((a0.size:Int)-1))∧(w64 ((a0.size:Int)-1))<(a0.size:Int)) ((name_small.f (bt a0 (w64 ((a0.size:Int)-1)))).bind fun t38=>some t38)) (some false))) (some false)
def queue_New.f (a0:Int):Option ((Option SQue)×Int):=cond (decide (a0<1)) (some (none,1)) (cond (decide (120<a0)) (some (none,1)) (some (some (⟨a0,([]:List EKey),([]:List (EKey×Edu)),0⟩:SQue),0)))
def clock_New.f (a0:Int) (a1:Int):Option ((Option Ctr)×Int):=cond (decide (a1<1)) (some (none,1)) (cond (decide (1099511627776<a1)) (some (none,1)) (cond (decide (a0<0)) (some (none,1)) (cond (decide (a1<a0)) (some (none,1)) (some (some (⟨(⟨a0⟩:AtI),a1⟩:Ctr),0)))))
def sender_New.f (k:Nat) (a0:ByteArray) (a1:ByteArray) (a2:Int) (a3:Int):Option ((Option SSnd)×Int):=(name_Server.f k a0).bind fun t53=>cond (!t53) (some (none,1)) ((name_Server.f k a1).bind fun t57=>cond (!t57) (some (none,1)) (cond (decide (a0=a1)) (some (none,1)) ((queue_New.f a2).bind fun t62=>cond (t62.2 != 0) (some (none,t62.2)) ((clock_New.f a3 1099511627776).bind fun t66=>cond (t66.2 != 0) (some (none,t66.2)) (grd (t62.1.isSome=true) (grd (t66.1.isSome=true) (some (some (⟨t62.1.getD default,a0,a1,t66.1.getD default,none⟩:SSnd),0))))))))
def w18_begin.f (k:Nat) (a0:Int) (a1:Int):Option ((Option SSnd)):=(sender_New.f k (⟨#[115,49]⟩:ByteArray) (⟨#[115,50]⟩:ByteArray) a0 a1).bind fun t73=>cond t73.1.isNone (some none) (cond (t73.2 != 0) (some none) (some (some (t73.1.getD default))))
def view_New.f:Option (VView):=some (⟨([]:List (ByteArray×DDag))⟩:VView)
def r01_Around.f (a0:Int) (a1:Int):Option (Int):=cond (decide (a0<0)) (grd (a1≠0) (some ((w64 (0-(w64 (a0+1)))).tmod a1))) (grd (a1≠0) (some (a0.tmod a1)))
def r01_RoomOf.f (a0:Int):Option (ByteArray):=(r01_Around.f a0 2).bind fun t87=>grd ((0:Int)≤t87∧t87<(([(⟨#[33,114,58,115,49]⟩:ByteArray),(⟨#[33,113,58,115,50]⟩:ByteArray)]:List ByteArray).length:Int)) (some (strK.at ([(⟨#[33,114,58,115,49]⟩:ByteArray),(⟨#[33,113,58,115,50]⟩:ByteArray)]:List ByteArray) t87))
def r01_ServerOf.f (a0:Int):Option (ByteArray):=(r01_Around.f a0 3).bind fun t90=>grd ((0:Int)≤t90∧t90<(([(⟨#[115,49]⟩:ByteArray),(⟨#[115,50]⟩:ByteArray),(⟨#[115,51]⟩:ByteArray)]:List ByteArray).length:Int)) (some (strK.at ([(⟨#[115,49]⟩:ByteArray),(⟨#[115,50]⟩:ByteArray),(⟨#[115,51]⟩:ByteArray)]:List ByteArray) t90))
def r01_UserOf.f (a0:Int):Option (ByteArray):=(r01_Around.f a0 9).bind fun t93=>grd ((0:Int)≤(w64 (t93.tdiv 3))∧(w64 (t93.tdiv 3))<(([(⟨#[64,97,58]⟩:ByteArray),(⟨#[64,98,58]⟩:ByteArray),(⟨#[64,99,58]⟩:ByteArray)]:List ByteArray).length:Int)) ((r01_ServerOf.f (t93.tmod 3)).bind fun t96=>grd ((strK.at ([(⟨#[64,97,58]⟩:ByteArray),(⟨#[64,98,58]⟩:ByteArray),(⟨#[64,99,58]⟩:ByteArray)]:List ByteArray) (w64 (t93.tdiv 3))).size+t96.size≤9223372036854775807) (some ((strK.at ([(⟨#[64,97,58]⟩:ByteArray),(⟨#[64,98,58]⟩:ByteArray),(⟨#[64,99,58]⟩:ByteArray)]:List ByteArray) (w64 (t93.tdiv 3)))++t96)))
def r01_low.f (a0:Int):Option (Bool):=cond (decide (97≤a0)) (cond (decide (a0≤122)) (some true) (cond (decide (48≤a0)) (some (decide (a0≤57))) (some false))) (cond (decide (48≤a0)) (some (decide (a0≤57))) (some false))
def r01_Event.l0 (k:Nat) (a0:ByteArray):Nat→Int→Option ((Int×Bool) ⊕ (Bool))
 | 0,_=>none
 | ja+1,xa=>cond (decide (xa<(a0.size:Int))) (grd ((0:Int)≤xa∧xa<(a0.size:Int)) ((r01_low.f (bt a0 xa)).bind fun ta=>grd ((0:Int)≤xa∧xa<(a0.size:Int)) (cond (decide (65≤(bt a0 xa))) (grd ((0:Int)≤xa∧xa<(a0.size:Int)) (cond (!ta) (cond (!(decide ((bt a0 xa)≤90))) (grd ((0:Int)≤xa∧xa<(a0.size:Int)) (cond ((bt a0 xa) != 45) (grd ((0:Int)≤xa∧xa<(a0.size:Int)) (cond ((bt a0 xa) != 95) (some (.inr false)) (r01_Event.l0 k a0 ja (w64 (xa+1))))) (r01_Event.l0 k a0 ja (w64 (xa+1))))) (r01_Event.l0 k a0 ja (w64 (xa+1)))) (r01_Event.l0 k a0 ja (w64 (xa+1))))) (cond (!ta) (grd ((0:Int)≤xa∧xa<(a0.size:Int)) (cond ((bt a0 xa) != 45) (grd ((0:Int)≤xa∧xa<(a0.size:Int)) (cond ((bt a0 xa) != 95) (some (.inr false)) (r01_Event.l0 k a0 ja (w64 (xa+1))))) (r01_Event.l0 k a0 ja (w64 (xa+1))))) (r01_Event.l0 k a0 ja (w64 (xa+1))))))) (some (.inl (xa,decide (xa<(a0.size:Int)))))
def r01_Event.f (k:Nat) (a0:ByteArray):Option (Bool):=cond (decide ((a0.size:Int)<2)) (some false) (cond (decide (17<(a0.size:Int))) (some false) (grd ((0:Int)≤0∧0<(a0.size:Int)) (cond ((bt a0 0) != 36) (some false) ((r01_Event.l0 k a0 k 1).bind (fall fun (pa:Int×Bool)=>some true)))))
def r01_Server.l0 (k:Nat) (a0:ByteArray):Nat→Int→Option ((Int×Bool) ⊕ (Bool))
 | 0,_=>none
 | ja+1,xa=>cond (decide (xa<(a0.size:Int))) (grd ((0:Int)≤xa∧xa<(a0.size:Int)) ((r01_low.f (bt a0 xa)).bind fun ta=>cond (decide (0<xa)) (cond (decide (xa<(w64 ((a0.size:Int)-1)))) (grd ((0:Int)≤xa∧xa<(a0.size:Int)) (cond ((bt a0 xa)==46) (cond (!ta) (r01_Server.l0 k a0 ja (w64 (xa+1))) (r01_Server.l0 k a0 ja (w64 (xa+1)))) (grd ((0:Int)≤xa∧xa<(a0.size:Int)) (cond (!ta) (cond (!((bt a0 xa)==45)) (some (.inr false)) (r01_Server.l0 k a0 ja (w64 (xa+1)))) (r01_Server.l0 k a0 ja (w64 (xa+1))))))) (cond (!ta) (some (.inr false)) (r01_Server.l0 k a0 ja (w64 (xa+1))))) (cond (!ta) (some (.inr false)) (r01_Server.l0 k a0 ja (w64 (xa+1)))))) (some (.inl (xa,decide (xa<(a0.size:Int)))))
def r01_Server.f (k:Nat) (a0:ByteArray):Option (Bool):=(r01_Server.l0 k a0 k 0).bind (fall fun (pa:Int×Bool)=>cond (decide (0<(a0.size:Int))) (some (decide ((a0.size:Int)<17))) (some false))
def r01_colon.l0 (k:Nat) (a0:ByteArray):Nat→Int→Option ((Int×Bool) ⊕ (Int))
 | 0,_=>none
 | ja+1,xa=>cond (decide (xa<(a0.size:Int))) (grd ((0:Int)≤xa∧xa<(a0.size:Int)) (cond ((bt a0 xa)==58) (some (.inr xa)) (r01_colon.l0 k a0 ja (w64 (xa+1))))) (some (.inl (xa,decide (xa<(a0.size:Int)))))
def r01_colon.f (k:Nat) (a0:ByteArray):Option (Int):=(r01_colon.l0 k a0 k 0).bind (fall fun (pa:Int×Bool)=>some (-1))
def r01_Part.l0 (k:Nat) (a0:ByteArray):Nat→Int→Option ((Int×Bool) ⊕ (Bool))
 | 0,_=>none
 | ja+1,xa=>cond (decide (xa<(a0.size:Int))) (grd ((0:Int)≤xa∧xa<(a0.size:Int)) ((r01_low.f (bt a0 xa)).bind fun ta=>cond (!ta) (grd ((0:Int)≤xa∧xa<(a0.size:Int)) (cond ((bt a0 xa) != 46) (grd ((0:Int)≤xa∧xa<(a0.size:Int)) (cond ((bt a0 xa) != 45) (grd ((0:Int)≤xa∧xa<(a0.size:Int)) (cond ((bt a0 xa) != 95) (some (.inr false)) (r01_Part.l0 k a0 ja (w64 (xa+1))))) (r01_Part.l0 k a0 ja (w64 (xa+1))))) (r01_Part.l0 k a0 ja (w64 (xa+1))))) (r01_Part.l0 k a0 ja (w64 (xa+1))))) (some (.inl (xa,decide (xa<(a0.size:Int)))))
def r01_Part.f (k:Nat) (a0:ByteArray):Option (Bool):=(r01_Part.l0 k a0 k 0).bind (fall fun (pa:Int×Bool)=>cond (decide (0<(a0.size:Int))) (some (decide ((a0.size:Int)<17))) (some false))
def r01_Named.f (k:Nat) (a0:ByteArray) (a1:Int):Option (Bool):=(r01_colon.f k a0).bind fun ta=>cond (decide (ta<1)) (some false) (grd ((0:Int)≤0∧0<(a0.size:Int)) (cond ((bt a0 0) != a1) (some false) (grd ((0:Int)≤1∧(0:Int)≤ta∧(1:Int).toNat≤ta.toNat∧ta.toNat≤a0.size) ((r01_Part.f k (a0.extract (1:Int).toNat ta.toNat)).bind fun tc=>grd ((0:Int)≤(w64 (ta+1))∧(w64 (ta+1)).toNat≤a0.size∧a0.size≤a0.size) ((r01_Server.f k (a0.extract (w64 (ta+1)).toNat a0.size)).bind fun te=>cond tc (some te) (some false))))))
def r07_May.l0 (k:Nat) (a0:Event):Nat→Int→Option ((Int×Bool) ⊕ (Bool))
 | 0,_=>none
 | ja+1,xa=>cond (decide (xa<(a0.fParents.length:Int))) (grd ((0:Int)≤xa∧xa<(a0.fParents.length:Int)) ((r01_Event.f k (strK.at a0.fParents xa)).bind fun ta=>cond (!ta) (some (.inr false)) (grd ((0:Int)≤xa∧xa<(a0.fParents.length:Int)) (cond (decide ((strK.at a0.fParents xa)=a0.fID)) (some (.inr false)) (cond (decide (0<xa)) (grd ((0:Int)≤(max (w64 (xa-1)) 0)∧(max (w64 (xa-1)) 0)<(a0.fParents.length:Int)) (grd ((0:Int)≤xa∧xa<(a0.fParents.length:Int)) (cond (!sLt (strK.at a0.fParents (max (w64 (xa-1)) 0)) (strK.at a0.fParents xa)) (some (.inr false)) (r07_May.l0 k a0 ja (w64 (xa+1)))))) (r07_May.l0 k a0 ja (w64 (xa+1)))))))) (some (.inl (xa,decide (xa<(a0.fParents.length:Int)))))
def r07_May.f (k:Nat) (a0:Event):Option (Bool):=(r01_Event.f k a0.fID).bind fun ta=>(r01_Named.f k a0.fRoom 33).bind fun tc=>(r01_Named.f k a0.fUser 64).bind fun te=>cond (!ta) (some false) (cond (!tc) (some false) (cond (!te) (some false) (cond (decide (4<(a0.fParents.length:Int))) (some false) (cond (decide (a0.fDoes<0)) (some false) (cond (decide (2<a0.fDoes)) (some false) ((cond (!decide (a0.fThread=(⟨#[]⟩:ByteArray))) ((r01_Event.f k a0.fThread).bind fun tf=>cond (!tf) (some (.inr false)) (cond (decide (a0.fThread=a0.fID)) (some (.inr false)) (cond (a0.fDoes != 0) (some (.inr false)) (some (.inl ()))))) (some (.inl ()))).bind (fall fun (pa:Unit)=>(r07_May.l0 k a0 k 0).bind (fall fun (pc:Int×Bool)=>some true))))))))
def r07_At.l0 (k:Nat) (a0:RDag) (a1:ByteArray):Nat→Int→Option ((Int×Bool) ⊕ (Int))
 | 0,_=>none
 | ja+1,xa=>cond (decide (xa<(a0.fL.length:Int))) (grd ((0:Int)≤xa∧xa<(a0.fL.length:Int)) (cond (decide (((Event.K.at a0.fL xa).fID)=a1)) (some (.inr xa)) (r07_At.l0 k a0 a1 ja (w64 (xa+1))))) (some (.inl (xa,decide (xa<(a0.fL.length:Int)))))
def r07_At.f (k:Nat) (a0:RDag) (a1:ByteArray):Option (Int):=(r07_At.l0 k a0 a1 k 0).bind (fall fun (pa:Int×Bool)=>some (-1))
def r07_Add.l0 (k:Nat) (a0:RDag) (a1:Event):Nat→Int→Option ((Int×Bool) ⊕ (RDag×Int))
 | 0,_=>none
 | ja+1,xa=>cond (decide (xa<(a1.fParents.length:Int))) (grd ((0:Int)≤xa∧xa<(a1.fParents.length:Int)) ((r07_At.f k a0 (strK.at a1.fParents xa)).bind fun ta=>cond (decide (ta<0)) (some (.inr (a0,4))) (r07_Add.l0 k a0 a1 ja (w64 (xa+1))))) (some (.inl (xa,decide (xa<(a1.fParents.length:Int)))))
def r07_Add.f (k:Nat) (a0:RDag) (a1:Event):Option (RDag×Int):=(r07_May.f k a1).bind fun ta=>cond (!ta) (some (a0,1)) (cond (!decide (a1.fRoom=a0.fRoom)) (some (a0,1)) ((r07_At.f k a0 a1.fID).bind fun tc=>cond (decide (0≤tc)) (some (a0,9)) ((r07_Add.l0 k a0 a1 k 0).bind (fall fun (pa:Int×Bool)=>(cond (!decide (a1.fThread=(⟨#[]⟩:ByteArray))) ((r07_At.f k a0 a1.fThread).bind fun te=>cond (decide (te<0)) (some (.inr (a0,4))) (grd ((0:Int)≤te∧te<(a0.fL.length:Int)) (cond (!decide (((Event.K.at a0.fL te).fThread)=(⟨#[]⟩:ByteArray))) (some (.inr (a0,7))) (grd ((0:Int)≤te∧te<(a0.fL.length:Int)) (cond (((Event.K.at a0.fL te).fDoes) != 0) (some (.inr (a0,7))) (some (.inl ()))))))) (some (.inl ()))).bind (fall fun (pc:Unit)=>grd (([]:List Event).length+a0.fL.length≤9223372036854775807∧(([]:List Event).length+a0.fL.length)*96≤140737488355328) (grd ((([]:List Event)++a0.fL).length+([a1]:List Event).length≤9223372036854775807∧((([]:List Event)++a0.fL).length+([a1]:List Event).length)*96≤140737488355328) (some ((⟨a0.fRoom,(([]:List Event)++a0.fL)++([a1]:List Event)⟩:RDag),0))))))))
def r01_Decimal.f:Nat→Int→Option (ByteArray)
 | 0,_=>none
 | k+1,a0=>(cond (decide ((a0.tmod 10)<0)) (some (w64 (0-(a0.tmod 10)))) (some (a0.tmod 10))).bind fun (pa:Int)=>cond (decide ((-10)<a0)) (cond (decide (a0<10)) (cond (decide (a0<0)) (grd ((⟨#[45]⟩:ByteArray).size+(ofNums ([IntKind.u8.wrap (w64 (48+pa))]:List Int)).size≤9223372036854775807) (some ((⟨#[45]⟩:ByteArray)++(ofNums ([IntKind.u8.wrap (w64 (48+pa))]:List Int))))) (some (ofNums ([IntKind.u8.wrap (w64 (48+pa))]:List Int)))) ((r01_Decimal.f k (w64 (a0.tdiv 10))).bind fun ta=>grd (ta.size+(ofNums ([IntKind.u8.wrap (w64 (48+pa))]:List Int)).size≤9223372036854775807) (some (ta++(ofNums ([IntKind.u8.wrap (w64 (48+pa))]:List Int)))))) ((r01_Decimal.f k (w64 (a0.tdiv 10))).bind fun tc=>grd (tc.size+(ofNums ([IntKind.u8.wrap (w64 (48+pa))]:List Int)).size≤9223372036854775807) (some (tc++(ofNums ([IntKind.u8.wrap (w64 (48+pa))]:List Int)))))
def r01_EventOf.f (k:Nat) (a0:Int):Option (ByteArray):=(r01_Around.f a0 9).bind fun ta=>(r01_Decimal.f k ta).bind fun tc=>grd ((⟨#[36,101]⟩:ByteArray).size+tc.size≤9223372036854775807) (some ((⟨#[36,101]⟩:ByteArray)++tc))
def r07_Made.l1 (k:Nat) (xa:Int) (pa:Int×Bool×(List Bool)):Nat→Int→List ByteArray→Option (Int×Bool×(List ByteArray))
 | 0,_,_=>none
 | ja+1,xb,xc=>cond (decide (xb<xa)) (grd ((0:Int)≤xb∧xb<(pa.2.2.length:Int)) (cond (pa.2.2.getD xb.toNat default) ((r01_EventOf.f k xb).bind fun ta=>grd (xc.length+([ta]:List ByteArray).length≤9223372036854775807∧(xc.length+([ta]:List ByteArray).length)*16≤140737488355328) (r07_Made.l1 k xa pa ja (w64 (xb+1)) (xc++([ta]:List ByteArray)))) (r07_Made.l1 k xa pa ja (w64 (xb+1)) xc))) (some (xb,decide (xb<xa),xc))
def r07_Made.l2 (k:Nat) (a1:List GMade) (xa:Int):Nat→Int→List Bool→Option (Int×Bool×(List Bool))
 | 0,_,_=>none
 | ja+1,xb,xc=>grd ((0:Int)≤xa∧xa<(a1.length:Int)) (cond (decide (xb<(((GMade.K.at a1 xa).fParents).length:Int))) (cond (decide (xb<3)) (cond (decide (0<xa)) (grd ((0:Int)≤xa∧xa<(a1.length:Int)) (grd ((0:Int)≤xb∧xb<(((GMade.K.at a1 xa).fParents).length:Int)) ((r01_Around.f ((intK .i64).at ((GMade.K.at a1 xa).fParents) xb) xa).bind fun ta=>grd ((0:Int)≤ta∧ta<(xc.length:Int)) (r07_Made.l2 k a1 xa ja (w64 (xb+1)) (xc.set ta.toNat true))))) (some (xb,decide (0<xa),xc))) (some (xb,false,xc))) (some (xb,false,xc)))
def r07_Made.l0 (k:Nat) (a0:ByteArray) (a1:List GMade):Nat→Int→ByteArray→List Event→Option (Int×Bool×ByteArray×(List Event))
 | 0,_,_,_=>none
 | ja+1,xa,xb,xc=>cond (decide (xa<(a1.length:Int))) (cond (decide (xa<9)) (((r01_EventOf.f k xa).bind fun ta=>grd ((0:Int)≤xa∧xa<(a1.length:Int)) ((r01_UserOf.f ((GMade.K.at a1 xa).fUser)).bind fun tc=>grd ((0:Int)≤xa∧xa<(a1.length:Int)) ((r01_Around.f ((GMade.K.at a1 xa).fDoes) 3).bind fun te=>grd ((0:Int)≤9∧9≤(9223372036854775807:Int)∧(9:Int).toNat*1≤140737488355328) ((r07_Made.l2 k a1 xa k 0 (List.replicate (9:Int).toNat (false:Bool))).bind fun (pa:Int×Bool×(List Bool))=>(r07_Made.l1 k xa pa k 0 ([]:List ByteArray)).bind fun (pc:Int×Bool×(List ByteArray))=>cond (te==0) (cond (decide (0<xa)) (grd ((0:Int)≤xa∧xa<(a1.length:Int)) ((r01_Around.f ((GMade.K.at a1 xa).fThread) (w64 (2*xa))).bind fun tf=>cond (decide (tf<xa)) (grd ((0:Int)≤tf∧tf<(xc.length:Int)) (cond (((Event.K.at xc tf).fDoes)==0) (grd ((0:Int)≤tf∧tf<(xc.length:Int)) (cond (decide (((Event.K.at xc tf).fThread)=(⟨#[]⟩:ByteArray))) ((r01_EventOf.f k tf).bind fun tg=>(r07_Add.f k (⟨xb,xc⟩:RDag) (⟨ta,a0,pc.2.2,tg,tc,te⟩:Event)).bind fun tj=>some (pa.1,pc.1,pa.2.1,pc.2.1,decide (0<xa),tj.1.fRoom,tj.1.fL,pa.2.2)) ((r07_Add.f k (⟨xb,xc⟩:RDag) (⟨ta,a0,pc.2.2,(⟨#[]⟩:ByteArray),tc,te⟩:Event)).bind fun tm=>some (pa.1,pc.1,pa.2.1,pc.2.1,decide (0<xa),tm.1.fRoom,tm.1.fL,pa.2.2)))) ((r07_Add.f k (⟨xb,xc⟩:RDag) (⟨ta,a0,pc.2.2,(⟨#[]⟩:ByteArray),tc,te⟩:Event)).bind fun tn=>some (pa.1,pc.1,pa.2.1,pc.2.1,decide (0<xa),tn.1.fRoom,tn.1.fL,pa.2.2)))) ((r07_Add.f k (⟨xb,xc⟩:RDag) (⟨ta,a0,pc.2.2,(⟨#[]⟩:ByteArray),tc,te⟩:Event)).bind fun tp=>some (pa.1,pc.1,pa.2.1,pc.2.1,decide (0<xa),tp.1.fRoom,tp.1.fL,pa.2.2)))) ((r07_Add.f k (⟨xb,xc⟩:RDag) (⟨ta,a0,pc.2.2,(⟨#[]⟩:ByteArray),tc,te⟩:Event)).bind fun tq=>some (pa.1,pc.1,pa.2.1,pc.2.1,decide (0<xa),tq.1.fRoom,tq.1.fL,pa.2.2))) ((r07_Add.f k (⟨xb,xc⟩:RDag) (⟨ta,a0,pc.2.2,(⟨#[]⟩:ByteArray),tc,te⟩:Event)).bind fun tu=>some (pa.1,pc.1,pa.2.1,pc.2.1,false,tu.1.fRoom,tu.1.fL,pa.2.2)))))).bind fun (pd:Int×Int×Bool×Bool×Bool×ByteArray×(List Event)×(List Bool))=>r07_Made.l0 k a0 a1 ja (w64 (xa+1)) pd.2.2.2.2.2.1 pd.2.2.2.2.2.2.1) (some (xa,decide (xa<9),xb,xc))) (some (xa,false,xb,xc))
def r07_Made.f (k:Nat) (a0:ByteArray) (a1:List GMade):Option (RDag):=(r07_Made.l0 k a0 a1 k 0 a0 ([]:List Event)).bind fun (pa:Int×Bool×ByteArray×(List Event))=>some (⟨pa.2.2.1,pa.2.2.2⟩:RDag)
def r10_Made.f (k:Nat) (a0:List GMade) (a1:List GMade):Option ((List Event)):=(r01_RoomOf.f 0).bind fun ta=>(r07_Made.f k ta a0).bind fun tc=>grd (([]:List Event).length+tc.fL.length≤9223372036854775807∧(([]:List Event).length+tc.fL.length)*96≤140737488355328) ((r01_RoomOf.f 1).bind fun te=>(r07_Made.f k te a1).bind fun tf=>grd ((([]:List Event)++tc.fL).length+tf.fL.length≤9223372036854775807∧((([]:List Event)++tc.fL).length+tf.fL.length)*96≤140737488355328) (some ((([]:List Event)++tc.fL)++tf.fL)))
def edu_asks_1.f (a0:Int) (a1:Int) (a2:Int):Option (Bool):=cond (decide (a1≤a0)) (some (decide (a0≤a2))) (some false)
def edu_asks_2.f (a0:Edu):Option (Bool):=some false
def stringslite_HasPrefix.f (a0:ByteArray) (a1:ByteArray):Option (Bool):=cond (decide ((a1.size:Int)≤(a0.size:Int))) (grd ((0:Int)≤(a1.size:Int)∧0≤(a1.size:Int).toNat∧(a1.size:Int).toNat≤a0.size) (some (decide ((a0.extract 0 ((a1.size:Int).toNat))=a1)))) (some false)
def stringslite_CutPrefix.f (a0:ByteArray) (a1:ByteArray):Option (ByteArray×Bool):=(stringslite_HasPrefix.f a0 a1).bind fun ta=>cond (!ta) (some (a0,false)) (grd ((0:Int)≤(a1.size:Int)∧(a1.size:Int).toNat≤a0.size∧a0.size≤a0.size) (some (a0.extract (a1.size:Int).toNat a0.size,true)))
def strings_CutPrefix.f (a0:ByteArray) (a1:ByteArray):Option (ByteArray×Bool):=(stringslite_CutPrefix.f a0 a1).bind fun ta=>some (ta.1,ta.2)
def name_Event.f (k:Nat) (a0:ByteArray):Option (Bool):=(strings_CutPrefix.f a0 (⟨#[36]⟩:ByteArray)).bind fun ta=>cond ta.2 ((name_may.f k ta.1 2).bind fun tc=>some tc) (some false)
def stringslite_Index.f (a0:ByteArray) (a1:ByteArray):Option (Int):=cond ((a1.size:Int)==0) (some 0) (cond (decide (a1=a0)) (some 0) (cond ((a1.size:Int)==1) (grd ((0:Int)≤0∧0<(a1.size:Int)) ((stringslite_IndexByte.f a0 (bt a1 0)).bind fun ta=>some ta)) (cond (decide ((a0.size:Int)≤(a1.size:Int))) (some (-1)) (none))))
def stringslite_Cut.f (a0:ByteArray) (a1:ByteArray):Option (ByteArray×ByteArray×Bool):=(stringslite_Index.f a0 a1).bind fun ta=>cond (decide (0≤ta)) (grd ((0:Int)≤ta∧0≤ta.toNat∧ta.toNat≤a0.size) (grd ((0:Int)≤(w64 (ta+(a1.size:Int)))∧(w64 (ta+(a1.size:Int))).toNat≤a0.size∧a0.size≤a0.size) (some (a0.extract 0 ta.toNat,a0.extract (w64 (ta+(a1.size:Int))).toNat a0.size,true)))) (some (a0,(⟨#[]⟩:ByteArray),false))
def strings_Cut.f (a0:ByteArray) (a1:ByteArray):Option (ByteArray×ByteArray×Bool):=(stringslite_Cut.f a0 a1).bind fun ta=>some (ta.1,ta.2.1,ta.2.2)
def name_split.f (k:Nat) (a0:ByteArray) (a1:ByteArray):Option (ByteArray×ByteArray×Bool):=(strings_CutPrefix.f a0 a1).bind fun ta=>(strings_Cut.f ta.1 (⟨#[58]⟩:ByteArray)).bind fun tc=>cond ta.2 (cond tc.2.2 ((name_may.f k tc.1 0).bind fun te=>cond te ((name_Server.f k tc.2.1).bind fun tf=>some (tc.1,tc.2.1,tf)) (some (tc.1,tc.2.1,false))) (some (tc.1,tc.2.1,false))) (some (tc.1,tc.2.1,false))
def name_Room.f (k:Nat) (a0:ByteArray):Option (Bool):=(name_split.f k a0 (⟨#[33]⟩:ByteArray)).bind fun ta=>some ta.2.2
def name_Thread.f (k:Nat) (a0:ByteArray):Option (Bool):=cond (decide (a0=(⟨#[]⟩:ByteArray))) (some true) (cond (decide (a0=(⟨#[109,97,105,110]⟩:ByteArray))) (some true) ((name_Event.f k a0).bind fun ta=>some ta))
def edu_asks_3.f (k:Nat) (a0:Edu):Option (Bool):=(name_Room.f k a0.fRoom).bind fun ta=>cond ta ((name_Event.f k a0.fEvent).bind fun tc=>cond tc ((name_Thread.f k a0.fThread).bind fun te=>some te) (some false)) (some false)
def edu_asks_4.f (k:Nat) (a0:Edu) (c0:Int→Int→Int→Option Bool):Option (Bool):=(name_Room.f k a0.fRoom).bind fun ta=>cond ta (cond (!a0.fOn) (some true) ((c0 a0.fSpan 1 60).bind fun tc=>some tc)) (some false)
def edu_asks_5.f (a0:Edu) (c0:Int→Int→Int→Option Bool):Option (Bool):=(c0 a0.fState 0 2).bind fun ta=>some ta
def edu_asks.f (k:Nat):Option ((List (Edu→Option Bool))):=some ([edu_asks_2.f,edu_asks_3.f k,fun a0_=>edu_asks_4.f k a0_ edu_asks_1.f,fun a0_=>edu_asks_5.f a0_ edu_asks_1.f]:List (Edu→Option Bool))
def edu_Local_1.f (a0:Int):Option (Bool):=cond (decide (0≤a0)) (some (decide (a0≤1099511627776))) (some false)
def edu_named.f (a0:Edu):Option (Edu):=cond (a0.fKind==1) (some (⟨a0.fKind,a0.fRoom,a0.fUser,a0.fEvent,a0.fThread,a0.fPrivate,false,0,0,a0.fTick,a0.fStamp⟩:Edu)) (cond (a0.fKind==2) (cond a0.fOn (some (⟨a0.fKind,a0.fRoom,a0.fUser,(⟨#[]⟩:ByteArray),(⟨#[]⟩:ByteArray),false,a0.fOn,a0.fSpan,0,a0.fTick,a0.fStamp⟩:Edu)) (some (⟨a0.fKind,a0.fRoom,a0.fUser,(⟨#[]⟩:ByteArray),(⟨#[]⟩:ByteArray),false,a0.fOn,0,0,a0.fTick,a0.fStamp⟩:Edu))) (cond (a0.fKind==3) (some (⟨a0.fKind,(⟨#[]⟩:ByteArray),a0.fUser,(⟨#[]⟩:ByteArray),(⟨#[]⟩:ByteArray),false,false,0,a0.fState,a0.fTick,a0.fStamp⟩:Edu)) (some (⟨a0.fKind,(⟨#[]⟩:ByteArray),a0.fUser,(⟨#[]⟩:ByteArray),(⟨#[]⟩:ByteArray),false,false,0,0,a0.fTick,a0.fStamp⟩:Edu))))
def name_User.f (k:Nat) (a0:ByteArray):Option (Bool):=(name_split.f k a0 (⟨#[64]⟩:ByteArray)).bind fun ta=>some ta.2.2
def edu_Local.f (k:Nat) (a0:Edu):Option (Bool):=cond (decide (a0.fKind<0)) (some false) (cond (decide (3<a0.fKind)) (some false) ((edu_asks.f k).bind fun ta=>grd ((0:Int)≤a0.fKind∧a0.fKind<(ta.length:Int)) (((fK_api_Edu_bool.at ta a0.fKind) a0).bind fun tc=>cond (!tc) (some false) ((edu_named.f a0).bind fun te=>cond (decide (a0=te)) ((name_User.f k a0.fUser).bind fun tf=>cond tf ((edu_Local_1.f a0.fTick).bind fun tg=>cond tg ((edu_Local_1.f a0.fStamp).bind fun tj=>some tj) (some false)) (some false)) (some false)))))
def edu_May.f (k:Nat) (a0:Edu):Option (Bool):=(edu_Local.f k a0).bind fun ta=>cond ta (some (!a0.fPrivate)) (some false)
def edu_Of.f (a0:Edu):Option (EKey):=some (⟨a0.fKind,a0.fRoom,a0.fUser,a0.fThread,a0.fPrivate⟩:EKey)
def cmp_Or_int.l0 (k:Nat) (a0:List Int):Nat→Int→Option ((Int×Bool) ⊕ (Int))
 | 0,_=>none
 | ja+1,xa=>cond (decide (xa<(a0.length:Int))) (grd ((0:Int)≤xa∧xa<(a0.length:Int)) (cond (((intK .i64).at a0 xa) != 0) (some (.inr ((intK .i64).at a0 xa))) (cmp_Or_int.l0 k a0 ja (w64 (xa+1))))) (some (.inl (xa,decide (xa<(a0.length:Int)))))
def cmp_Or_int.f (k:Nat) (a0:List Int):Option (Int):=(cmp_Or_int.l0 k a0 k 0).bind (fall fun (pa:Int×Bool)=>some 0)
def cmp_isNaN_int.f (a0:Int):Option (Bool):=some (a0 != a0)
def cmp_Compare_int.f (a0:Int) (a1:Int):Option (Int):=(cmp_isNaN_int.f a0).bind fun ta=>(cmp_isNaN_int.f a1).bind fun tc=>cond ta (cond tc (some 0) (some (-1))) (cond tc (some 1) (cond (decide (a0<a1)) (some (-1)) (cond (decide (a1<a0)) (some 1) (some 0))))
def bytes_Compare.f (a0:List Int) (a1:List Int):Option (Int):=some (cmpB a0 a1)
def lay_Number.l0 (k:Nat):Nat→Int→List Int→Option (Int×Bool×(List Int))
 | 0,_,_=>none
 | ja+1,xa,xb=>cond (decide (128≤xa)) (grd (xb.length+([IntKind.u8.wrap (w64 ((xa.tmod 128)+128))]:List Int).length≤9223372036854775807∧(xb.length+([IntKind.u8.wrap (w64 ((xa.tmod 128)+128))]:List Int).length)*1≤140737488355328) (lay_Number.l0 k ja (w64 (xa.tdiv 128)) (xb++([IntKind.u8.wrap (w64 ((xa.tmod 128)+128))]:List Int)))) (some (xa,decide (128≤xa),xb))
def lay_Number.f (k:Nat) (a0:List Int) (a1:Int):Option ((List Int)):=grd ((0:Int)≤(a0.length:Int)∧0≤(a0.length:Int).toNat∧(a0.length:Int).toNat≤a0.length) ((lay_Number.l0 k k (max a1 0) ((a0.take ((a0.length:Int).toNat)).drop 0)).bind fun (pa:Int×Bool×(List Int))=>grd (pa.2.2.length+([IntKind.u8.wrap (pa.1)]:List Int).length≤9223372036854775807∧(pa.2.2.length+([IntKind.u8.wrap (pa.1)]:List Int).length)*1≤140737488355328) (some (pa.2.2++([IntKind.u8.wrap (pa.1)]:List Int))))
def lay_Text.f (k:Nat) (a0:List Int) (a1:ByteArray):Option ((List Int)):=(lay_Number.f k a0 (a1.size:Int)).bind fun ta=>grd (ta.length+(strBs a1).length≤9223372036854775807∧(ta.length+(strBs a1).length)*1≤140737488355328) (some (ta++(strBs a1)))
def lay_Flag.f (k:Nat) (a0:List Int) (a1:Bool):Option ((List Int)):=cond a1 ((lay_Number.f k a0 1).bind fun ta=>some ta) ((lay_Number.f k a0 0).bind fun tc=>some tc)
def edu_laid.l0 (k:Nat) (a0:Edu):Nat→Int→List Int→Option (Int×Bool×(List Int))
 | 0,_,_=>none
 | ja+1,xa,xb=>cond (decide (xa<(([a0.fSpan,a0.fState,a0.fTick,a0.fStamp]:List Int).length:Int))) (grd ((0:Int)≤xa∧xa<(([a0.fSpan,a0.fState,a0.fTick,a0.fStamp]:List Int).length:Int)) ((lay_Number.f k xb ((intK .i64).at ([a0.fSpan,a0.fState,a0.fTick,a0.fStamp]:List Int) xa)).bind fun ta=>edu_laid.l0 k a0 ja (w64 (xa+1)) ta)) (some (xa,decide (xa<(([a0.fSpan,a0.fState,a0.fTick,a0.fStamp]:List Int).length:Int)),xb))
def edu_laid.l1 (k:Nat) (a0:Edu):Nat→Int→List Int→Option (Int×Bool×(List Int))
 | 0,_,_=>none
 | ja+1,xa,xb=>cond (decide (xa<(([a0.fRoom,a0.fUser,a0.fEvent,a0.fThread]:List ByteArray).length:Int))) (grd ((0:Int)≤xa∧xa<(([a0.fRoom,a0.fUser,a0.fEvent,a0.fThread]:List ByteArray).length:Int)) ((lay_Text.f k xb (strK.at ([a0.fRoom,a0.fUser,a0.fEvent,a0.fThread]:List ByteArray) xa)).bind fun ta=>edu_laid.l1 k a0 ja (w64 (xa+1)) ta)) (some (xa,decide (xa<(([a0.fRoom,a0.fUser,a0.fEvent,a0.fThread]:List ByteArray).length:Int)),xb))
def edu_laid.f (k:Nat) (a0:Edu):Option ((List Int)):=(lay_Number.f k ([]:List Int) a0.fKind).bind fun ta=>(edu_laid.l1 k a0 k 0 ta).bind fun (pa:Int×Bool×(List Int))=>(lay_Flag.f k pa.2.2 a0.fOn).bind fun tc=>(edu_laid.l0 k a0 k 0 tc).bind fun (pc:Int×Bool×(List Int))=>some pc.2.2
def edu_Compare.f (k:Nat) (a0:Edu) (a1:Edu):Option (Int):=(cmp_Compare_int.f a0.fStamp a1.fStamp).bind fun ta=>(edu_laid.f k a0).bind fun tc=>(edu_laid.f k a1).bind fun te=>(bytes_Compare.f tc te).bind fun tf=>(cmp_Or_int.f k ([ta,tf]:List Int)).bind fun tg=>some tg
def edu_Later.f (k:Nat) (a0:Edu) (a1:Edu):Option (Bool):=(edu_Of.f a0).bind fun ta=>(edu_Of.f a1).bind fun tc=>cond (decide (ta=tc)) ((edu_Compare.f k a0 a1).bind fun te=>some (decide (0<te))) (some false)
def slices_IndexFunc_Key_xw.l0 (k:Nat) (a0:List EKey) (a1:(EKey→Option Bool)):Nat→Int→Option ((Int×Bool) ⊕ (Int))
 | 0,_=>none
 | ja+1,xa=>cond (decide (xa<(a0.length:Int))) (grd ((0:Int)≤xa∧xa<(a0.length:Int)) ((a1 (a0.getD xa.toNat default)).bind fun ta=>cond ta (some (.inr xa)) (slices_IndexFunc_Key_xw.l0 k a0 a1 ja (w64 (xa+1))))) (some (.inl (xa,decide (xa<(a0.length:Int)))))
def slices_IndexFunc_Key_xw.f (k:Nat) (a0:List EKey) (a1:(EKey→Option Bool)):Option (Int):=(slices_IndexFunc_Key_xw.l0 k a0 a1 k 0).bind (fall fun (pa:Int×Bool)=>some (-1))
def slices_DeleteFunc_Key_xo.l0 (k:Nat) (a1:(EKey→Option Bool)):Nat→Int→Int→List EKey→Option (Int×Int×Bool×(List EKey))
 | 0,_,_,_=>none
 | ja+1,xa,xb,xc=>cond (decide (xb<(xc.length:Int))) (grd ((0:Int)≤xb∧xb<(xc.length:Int)) ((a1 (xc.getD xb.toNat default)).bind fun ta=>cond (!ta) (grd ((0:Int)≤xa∧xa<(xc.length:Int)) (slices_DeleteFunc_Key_xo.l0 k a1 ja (w64 (xa+1)) (w64 (xb+1)) (xc.set xa.toNat (xc.getD xb.toNat default)))) (slices_DeleteFunc_Key_xo.l0 k a1 ja xa (w64 (xb+1)) xc))) (some (xa,xb,decide (xb<(xc.length:Int)),xc))
def slices_DeleteFunc_Key_xo.f (k:Nat) (a0:List EKey) (a1:(EKey→Option Bool)):Option ((List EKey)):=(slices_IndexFunc_Key_xw.f k a0 a1).bind fun ta=>cond (ta==(-1)) (some a0) ((slices_DeleteFunc_Key_xo.l0 k a1 k ta (w64 (ta+1)) a0).bind fun (pa:Int×Int×Bool×(List EKey))=>grd ((0:Int)≤pa.1∧pa.1.toNat<pa.2.2.2.length) (grd ((0:Int)≤pa.1∧0≤pa.1.toNat∧pa.1.toNat≤(pa.2.2.2.take pa.1.toNat++List.replicate (pa.2.2.2.length-pa.1.toNat) (⟨0,(⟨#[]⟩:ByteArray),(⟨#[]⟩:ByteArray),(⟨#[]⟩:ByteArray),false⟩:EKey)).length) (some (((pa.2.2.2.take pa.1.toNat++List.replicate (pa.2.2.2.length-pa.1.toNat) (⟨0,(⟨#[]⟩:ByteArray),(⟨#[]⟩:ByteArray),(⟨#[]⟩:ByteArray),false⟩:EKey)).take pa.1.toNat).drop 0))))
def queue_Queue_drop_1.f (a0:EKey) (c0:EKey):Option (Bool):=some (decide (a0=c0))
def queue_Queue_drop.f (k:Nat) (a0:SQue) (a1:EKey):Option (SQue):=(slices_DeleteFunc_Key_xo.f k a0.fkeys (fun a0_=>queue_Queue_drop_1.f a0_ a1)).bind fun ta=>some (⟨a0.fmost,ta,mdel a0.fat a1,a0.flost⟩:SQue)
def queue_Queue_Put.f (k:Nat) (a0:SQue) (a1:Edu):Option (Edu×Bool×Int×SQue):=(edu_May.f k a1).bind fun ta=>cond (!ta) (some ((⟨0,(⟨#[]⟩:ByteArray),(⟨#[]⟩:ByteArray),(⟨#[]⟩:ByteArray),(⟨#[]⟩:ByteArray),false,false,0,0,0,0⟩:Edu),false,1,a0)) ((edu_Of.f a1).bind fun tc=>cond ((mget a0.fat tc).isSome) ((edu_Later.f k a1 ((mget a0.fat tc).getD (⟨0,(⟨#[]⟩:ByteArray),(⟨#[]⟩:ByteArray),(⟨#[]⟩:ByteArray),(⟨#[]⟩:ByteArray),false,false,0,0,0,0⟩:Edu))).bind fun te=>cond (!te) (some ((⟨0,(⟨#[]⟩:ByteArray),(⟨#[]⟩:ByteArray),(⟨#[]⟩:ByteArray),(⟨#[]⟩:ByteArray),false,false,0,0,0,0⟩:Edu),false,0,a0)) ((queue_Queue_drop.f k a0 tc).bind fun tf=>grd (tf.fkeys.length+([tc]:List EKey).length≤9223372036854775807∧(tf.fkeys.length+([tc]:List EKey).length)*64≤140737488355328) (cond (decide (((tf.fkeys++([tc]:List EKey)).length:Int)≤tf.fmost)) (some ((⟨0,(⟨#[]⟩:ByteArray),(⟨#[]⟩:ByteArray),(⟨#[]⟩:ByteArray),(⟨#[]⟩:ByteArray),false,false,0,0,0,0⟩:Edu),false,0,(⟨tf.fmost,tf.fkeys++([tc]:List EKey),mput tf.fat tc a1,tf.flost⟩:SQue))) (grd ((0:Int)≤0∧0<((tf.fkeys++([tc]:List EKey)).length:Int)) (grd ((0:Int)≤0∧0<((tf.fkeys++([tc]:List EKey)).length:Int)) ((queue_Queue_drop.f k (⟨tf.fmost,tf.fkeys++([tc]:List EKey),mput tf.fat tc a1,tf.flost⟩:SQue) ((tf.fkeys++([tc]:List EKey)).getD ((0:Int).toNat) default)).bind fun tg=>some ((mget (mput tf.fat tc a1) ((tf.fkeys++([tc]:List EKey)).getD ((0:Int).toNat) default)).getD (⟨0,(⟨#[]⟩:ByteArray),(⟨#[]⟩:ByteArray),(⟨#[]⟩:ByteArray),(⟨#[]⟩:ByteArray),false,false,0,0,0,0⟩:Edu),true,0,(⟨tg.fmost,tg.fkeys,tg.fat,w64 (tg.flost+1)⟩:SQue)))))))) ((queue_Queue_drop.f k a0 tc).bind fun tj=>grd (tj.fkeys.length+([tc]:List EKey).length≤9223372036854775807∧(tj.fkeys.length+([tc]:List EKey).length)*64≤140737488355328) (cond (decide (((tj.fkeys++([tc]:List EKey)).length:Int)≤tj.fmost)) (some ((⟨0,(⟨#[]⟩:ByteArray),(⟨#[]⟩:ByteArray),(⟨#[]⟩:ByteArray),(⟨#[]⟩:ByteArray),false,false,0,0,0,0⟩:Edu),false,0,(⟨tj.fmost,tj.fkeys++([tc]:List EKey),mput tj.fat tc a1,tj.flost⟩:SQue))) (grd ((0:Int)≤0∧0<((tj.fkeys++([tc]:List EKey)).length:Int)) (grd ((0:Int)≤0∧0<((tj.fkeys++([tc]:List EKey)).length:Int)) ((queue_Queue_drop.f k (⟨tj.fmost,tj.fkeys++([tc]:List EKey),mput tj.fat tc a1,tj.flost⟩:SQue) ((tj.fkeys++([tc]:List EKey)).getD ((0:Int).toNat) default)).bind fun tm=>some ((mget (mput tj.fat tc a1) ((tj.fkeys++([tc]:List EKey)).getD ((0:Int).toNat) default)).getD (⟨0,(⟨#[]⟩:ByteArray),(⟨#[]⟩:ByteArray),(⟨#[]⟩:ByteArray),(⟨#[]⟩:ByteArray),false,false,0,0,0,0⟩:Edu),true,0,(⟨tm.fmost,tm.fkeys,tm.fat,w64 (tm.flost+1)⟩:SQue))))))))
def queue_Queue_All.l0 (k:Nat) (a0:SQue):Nat→Int→List Edu→Option (Int×Bool×(List Edu))
 | 0,_,_=>none
 | ja+1,xa,xb=>cond (decide (xa<(a0.fkeys.length:Int))) (grd ((0:Int)≤xa∧xa<(a0.fkeys.length:Int)) (grd (xb.length+([(mget a0.fat (a0.fkeys.getD xa.toNat default)).getD (⟨0,(⟨#[]⟩:ByteArray),(⟨#[]⟩:ByteArray),(⟨#[]⟩:ByteArray),(⟨#[]⟩:ByteArray),false,false,0,0,0,0⟩:Edu)]:List Edu).length≤9223372036854775807∧(xb.length+([(mget a0.fat (a0.fkeys.getD xa.toNat default)).getD (⟨0,(⟨#[]⟩:ByteArray),(⟨#[]⟩:ByteArray),(⟨#[]⟩:ByteArray),(⟨#[]⟩:ByteArray),false,false,0,0,0,0⟩:Edu)]:List Edu).length)*112≤140737488355328) (queue_Queue_All.l0 k a0 ja (w64 (xa+1)) (xb++([(mget a0.fat (a0.fkeys.getD xa.toNat default)).getD (⟨0,(⟨#[]⟩:ByteArray),(⟨#[]⟩:ByteArray),(⟨#[]⟩:ByteArray),(⟨#[]⟩:ByteArray),false,false,0,0,0,0⟩:Edu)]:List Edu))))) (some (xa,decide (xa<(a0.fkeys.length:Int)),xb))
def queue_Queue_All.f (k:Nat) (a0:SQue):Option ((List Edu)):=(queue_Queue_All.l0 k a0 k 0 ([]:List Edu)).bind fun (pa:Int×Bool×(List Edu))=>some pa.2.2
def slices_Clone_Edu.f (xs:List Edu):Option (List Edu):=grd (xs.length≤9223372036854775807∧xs.length*112≤140737488355328) (some xs)
def slices_IndexFunc_Edu_x.l0 (k:Nat) (a0:List Edu) (a1:(Edu→Option Bool)):Nat→Int→Option ((Int×Bool) ⊕ (Int))
 | 0,_=>none
 | ja+1,xa=>cond (decide (xa<(a0.length:Int))) (grd ((0:Int)≤xa∧xa<(a0.length:Int)) ((a1 (Edu.K.at a0 xa)).bind fun ta=>cond ta (some (.inr xa)) (slices_IndexFunc_Edu_x.l0 k a0 a1 ja (w64 (xa+1))))) (some (.inl (xa,decide (xa<(a0.length:Int)))))
def slices_IndexFunc_Edu_x.f (k:Nat) (a0:List Edu) (a1:(Edu→Option Bool)):Option (Int):=(slices_IndexFunc_Edu_x.l0 k a0 a1 k 0).bind (fall fun (pa:Int×Bool)=>some (-1))
def slices_IndexFunc_Edu_xw.l0 (k:Nat) (a0:List Edu) (a1:(Edu→Option Bool)):Nat→Int→Option ((Int×Bool) ⊕ (Int))
 | 0,_=>none
 | ja+1,xa=>cond (decide (xa<(a0.length:Int))) (grd ((0:Int)≤xa∧xa<(a0.length:Int)) ((a1 (a0.getD xa.toNat default)).bind fun ta=>cond ta (some (.inr xa)) (slices_IndexFunc_Edu_xw.l0 k a0 a1 ja (w64 (xa+1))))) (some (.inl (xa,decide (xa<(a0.length:Int)))))
def slices_IndexFunc_Edu_xw.f (k:Nat) (a0:List Edu) (a1:(Edu→Option Bool)):Option (Int):=(slices_IndexFunc_Edu_xw.l0 k a0 a1 k 0).bind (fall fun (pa:Int×Bool)=>some (-1))
def slices_DeleteFunc_Edu_xo.l0 (k:Nat) (a1:(Edu→Option Bool)):Nat→Int→Int→List Edu→Option (Int×Int×Bool×(List Edu))
 | 0,_,_,_=>none
 | ja+1,xa,xb,xc=>cond (decide (xb<(xc.length:Int))) (grd ((0:Int)≤xb∧xb<(xc.length:Int)) ((a1 (xc.getD xb.toNat default)).bind fun ta=>cond (!ta) (grd ((0:Int)≤xa∧xa<(xc.length:Int)) (slices_DeleteFunc_Edu_xo.l0 k a1 ja (w64 (xa+1)) (w64 (xb+1)) (xc.set xa.toNat (xc.getD xb.toNat default)))) (slices_DeleteFunc_Edu_xo.l0 k a1 ja xa (w64 (xb+1)) xc))) (some (xa,xb,decide (xb<(xc.length:Int)),xc))
def slices_DeleteFunc_Edu_xo.f (k:Nat) (a0:List Edu) (a1:(Edu→Option Bool)):Option ((List Edu)):=(slices_IndexFunc_Edu_xw.f k a0 a1).bind fun ta=>cond (ta==(-1)) (some a0) ((slices_DeleteFunc_Edu_xo.l0 k a1 k ta (w64 (ta+1)) a0).bind fun (pa:Int×Int×Bool×(List Edu))=>grd ((0:Int)≤pa.1∧pa.1.toNat<pa.2.2.2.length) (grd ((0:Int)≤pa.1∧0≤pa.1.toNat∧pa.1.toNat≤(pa.2.2.2.take pa.1.toNat++List.replicate (pa.2.2.2.length-pa.1.toNat) (⟨0,(⟨#[]⟩:ByteArray),(⟨#[]⟩:ByteArray),(⟨#[]⟩:ByteArray),(⟨#[]⟩:ByteArray),false,false,0,0,0,0⟩:Edu)).length) (some (((pa.2.2.2.take pa.1.toNat++List.replicate (pa.2.2.2.length-pa.1.toNat) (⟨0,(⟨#[]⟩:ByteArray),(⟨#[]⟩:ByteArray),(⟨#[]⟩:ByteArray),(⟨#[]⟩:ByteArray),false,false,0,0,0,0⟩:Edu)).take pa.1.toNat).drop 0))))
def slices_Index_string.l0 (k:Nat) (a0:List ByteArray) (a1:ByteArray):Nat→Int→Option ((Int×Bool) ⊕ (Int))
 | 0,_=>none
 | ja+1,xa=>cond (decide (xa<(a0.length:Int))) (grd ((0:Int)≤xa∧xa<(a0.length:Int)) (cond (decide (a1=(strK.at a0 xa))) (some (.inr xa)) (slices_Index_string.l0 k a0 a1 ja (w64 (xa+1))))) (some (.inl (xa,decide (xa<(a0.length:Int)))))
def slices_Index_string.f (k:Nat) (a0:List ByteArray) (a1:ByteArray):Option (Int):=(slices_Index_string.l0 k a0 a1 k 0).bind (fall fun (pa:Int×Bool)=>some (-1))
def slices_Contains_string.f (k:Nat) (a0:List ByteArray) (a1:ByteArray):Option (Bool):=(slices_Index_string.f k a0 a1).bind fun ta=>some (decide (0≤ta))
def dag_New.f (a0:ByteArray):Option (DDag):=some (⟨a0,([]:List (ByteArray×DNode))⟩:DDag)
def view_View_room.f (a0:VView) (a1:ByteArray):Option DDag:=cond (mget a0.fdags a1).isSome (some ((mget a0.fdags a1).getD default)) (dag_New.f a1)
def slices_Sort_string.f (xs:List ByteArray):Option (List ByteArray):=grd (xs.length<4611686018427387904) (some (srtS xs))
def slices_Compact_string.f (xs:List ByteArray):Option (List ByteArray):=grd (xs.length≤9223372036854775807) (some (cmpctS xs))
def name_Home.f (k:Nat) (a0:ByteArray):Option (ByteArray):=(name_User.f k a0).bind fun ta=>cond (!ta) ((name_Room.f k a0).bind fun tc=>cond (!tc) (some (⟨#[]⟩:ByteArray)) ((strings_Cut.f a0 (⟨#[58]⟩:ByteArray)).bind fun te=>some te.2.1)) ((strings_Cut.f a0 (⟨#[58]⟩:ByteArray)).bind fun tf=>some tf.2.1)
def member_Homes.l0 (k:Nat) (a0:List ByteArray):Nat→Int→List ByteArray→Option (Int×Bool×(List ByteArray))
 | 0,_,_=>none
 | ja+1,xa,xb=>cond (decide (xa<(a0.length:Int))) (grd ((0:Int)≤xa∧xa<(a0.length:Int)) ((name_Home.f k (strK.at a0 xa)).bind fun ta=>cond (!decide (ta=(⟨#[]⟩:ByteArray))) (grd (xb.length+([ta]:List ByteArray).length≤9223372036854775807∧(xb.length+([ta]:List ByteArray).length)*16≤140737488355328) (member_Homes.l0 k a0 ja (w64 (xa+1)) (xb++([ta]:List ByteArray)))) (member_Homes.l0 k a0 ja (w64 (xa+1)) xb))) (some (xa,decide (xa<(a0.length:Int)),xb))
def member_Homes.f (k:Nat) (a0:List ByteArray):Option ((List ByteArray)):=(member_Homes.l0 k a0 k 0 ([]:List ByteArray)).bind fun (pa:Int×Bool×(List ByteArray))=>(slices_Sort_string.f pa.2.2).bind fun ta=>(slices_Compact_string.f ta).bind fun tc=>some tc
def slices_Clone_string.f (xs:List ByteArray):Option (List ByteArray):=grd (xs.length≤9223372036854775807∧xs.length*16≤140737488355328) (some xs)
def dag_own.f (a0:Event):Option (Event):=(slices_Clone_string.f a0.fParents).bind fun ta=>some (⟨a0.fID,a0.fRoom,ta,a0.fThread,a0.fUser,a0.fDoes⟩:Event)
def cmp_isNaN_string.f (a0:ByteArray):Option (Bool):=some (!decide (a0=a0))
def cmp_Compare_string.f (a0:ByteArray) (a1:ByteArray):Option (Int):=(cmp_isNaN_string.f a0).bind fun ta=>(cmp_isNaN_string.f a1).bind fun tc=>cond ta (cond tc (some 0) (some (-1))) (cond tc (some 1) (cond (sLt a0 a1) (some (-1)) (cond (sLt a1 a0) (some 1) (some 0))))
def dag_Compare.f (k:Nat) (a0:Pos) (a1:Pos):Option (Int):=(cmp_Compare_int.f a0.fDepth a1.fDepth).bind fun ta=>(cmp_Compare_string.f a0.fID a1.fID).bind fun tc=>(cmp_Or_int.f k ([ta,tc]:List Int)).bind fun te=>some te
def posC (x y:Pos):Int:=if x.fDepth<y.fDepth then -1 else if y.fDepth<x.fDepth then 1 else cmpS x.fID y.fID
def slices_SortFunc_Position.f (xs:List Pos):Option (List Pos):=grd (xs.length≤1000000) (some (srtF posC xs))
def dag_Dag_All_1.f (a0:DNode):Option (Bool):=some true
def dag_Dag_ids_All.g (e:ByteArray×DNode):Option Pos:=cond true (some ⟨e.2.fdepth,e.1⟩) none
def dag_Dag_ids_All.f (a0:DDag):Option (List ByteArray):=grd (a0.fnodes.length≤1000000) (some ((srtF posC (a0.fnodes.filterMap dag_Dag_ids_All.g)).map (·.fID)))
def dag_Dag_All.l0 (k:Nat) (a0:DDag) (ta:List ByteArray):Nat→Int→List Event→Option (Int×Int×Bool×(List Event)×(List ByteArray))
 | 0,_,_=>none
 | ja+1,xa,xb=>cond (decide (xa<(ta.length:Int))) (grd ((0:Int)≤xa∧xa<(ta.length:Int)) (grd ((mget a0.fnodes (ta.getD xa.toNat default)).isSome=true) ((dag_own.f (((mget a0.fnodes (ta.getD xa.toNat default)).getD default).fe)).bind fun tc=>grd (xb.length+([tc]:List Event).length≤9223372036854775807∧(xb.length+([tc]:List Event).length)*96≤140737488355328) (dag_Dag_All.l0 k a0 ta ja (w64 (xa+1)) (xb++([tc]:List Event)))))) (some ((ta.length:Int),xa,decide (xa<(ta.length:Int)),xb,ta))
def dag_Dag_All.f (k:Nat) (a0:DDag):Option ((List Event)):=((dag_Dag_ids_All.f a0).bind fun ta=>dag_Dag_All.l0 k a0 ta k 0 ([]:List Event)).bind fun (pa:Int×Int×Bool×(List Event)×(List ByteArray))=>some pa.2.2.2.1
def member_joined.l0 (k:Nat) (ta:(List Event)):Nat→Int→(List (ByteArray×Int))→Option (Int×Int×Bool×(List (ByteArray×Int))×(List Event))
 | 0,_,_=>none
 | ja+1,xa,xb=>cond (decide (xa<(ta.length:Int))) (grd ((0:Int)≤xa∧xa<(ta.length:Int)) (cond (((ta.getD xa.toNat default).fDoes)==1) (member_joined.l0 k ta ja (w64 (xa+1)) (mput xb ((ta.getD xa.toNat default).fUser) 1)) (cond (((ta.getD xa.toNat default).fDoes)==2) (member_joined.l0 k ta ja (w64 (xa+1)) (mdel xb ((ta.getD xa.toNat default).fUser))) (member_joined.l0 k ta ja (w64 (xa+1)) xb)))) (some ((ta.length:Int),xa,decide (xa<(ta.length:Int)),xb,ta))
def member_joined.f (k:Nat) (a0:DDag):Option ((List (ByteArray×Int))):=((dag_Dag_All.f k a0).bind fun ta=>member_joined.l0 k ta k 0 ([]:List (ByteArray×Int))).bind fun (pa:Int×Int×Bool×(List (ByteArray×Int))×(List Event))=>some pa.2.2.2.1
def member_Users.f (k:Nat) (a0:DDag):Option (List ByteArray):=(member_joined.f k a0).bind fun m=>grd (m.length≤1000000) (some (srtS (m.map (·.1))))
def member_Servers.f (k:Nat) (a0:DDag):Option ((List ByteArray)):=(member_Users.f k a0).bind fun ta=>(member_Homes.f k ta).bind fun tc=>some tc
def view_View_Servers.f (k:Nat) (a0:VView) (a1:ByteArray):Option ((List ByteArray)):=(view_View_room.f a0 a1).bind fun ta=>(member_Servers.f k ta).bind fun tc=>some tc
def slices_IndexFunc_string_x.l0 (k:Nat) (a0:List ByteArray) (a1:(ByteArray→Option Bool)):Nat→Int→Option ((Int×Bool) ⊕ (Int))
 | 0,_=>none
 | ja+1,xa=>cond (decide (xa<(a0.length:Int))) (grd ((0:Int)≤xa∧xa<(a0.length:Int)) ((a1 (strK.at a0 xa)).bind fun ta=>cond ta (some (.inr xa)) (slices_IndexFunc_string_x.l0 k a0 a1 ja (w64 (xa+1))))) (some (.inl (xa,decide (xa<(a0.length:Int)))))
def slices_IndexFunc_string_x.f (k:Nat) (a0:List ByteArray) (a1:(ByteArray→Option Bool)):Option (Int):=(slices_IndexFunc_string_x.l0 k a0 a1 k 0).bind (fall fun (pa:Int×Bool)=>some (-1))
def slices_IndexFunc_string_xw.l0 (k:Nat) (a0:List ByteArray) (a1:(ByteArray→Option Bool)):Nat→Int→Option ((Int×Bool) ⊕ (Int))
 | 0,_=>none
 | ja+1,xa=>cond (decide (xa<(a0.length:Int))) (grd ((0:Int)≤xa∧xa<(a0.length:Int)) ((a1 (a0.getD xa.toNat default)).bind fun ta=>cond ta (some (.inr xa)) (slices_IndexFunc_string_xw.l0 k a0 a1 ja (w64 (xa+1))))) (some (.inl (xa,decide (xa<(a0.length:Int)))))
def slices_IndexFunc_string_xw.f (k:Nat) (a0:List ByteArray) (a1:(ByteArray→Option Bool)):Option (Int):=(slices_IndexFunc_string_xw.l0 k a0 a1 k 0).bind (fall fun (pa:Int×Bool)=>some (-1))
def slices_DeleteFunc_string_xo.l0 (k:Nat) (a1:(ByteArray→Option Bool)):Nat→Int→Int→List ByteArray→Option (Int×Int×Bool×(List ByteArray))
 | 0,_,_,_=>none
 | ja+1,xa,xb,xc=>cond (decide (xb<(xc.length:Int))) (grd ((0:Int)≤xb∧xb<(xc.length:Int)) ((a1 (xc.getD xb.toNat default)).bind fun ta=>cond (!ta) (grd ((0:Int)≤xa∧xa<(xc.length:Int)) (slices_DeleteFunc_string_xo.l0 k a1 ja (w64 (xa+1)) (w64 (xb+1)) (xc.set xa.toNat (xc.getD xb.toNat default)))) (slices_DeleteFunc_string_xo.l0 k a1 ja xa (w64 (xb+1)) xc))) (some (xa,xb,decide (xb<(xc.length:Int)),xc))
def slices_DeleteFunc_string_xo.f (k:Nat) (a0:List ByteArray) (a1:(ByteArray→Option Bool)):Option ((List ByteArray)):=(slices_IndexFunc_string_xw.f k a0 a1).bind fun ta=>cond (ta==(-1)) (some a0) ((slices_DeleteFunc_string_xo.l0 k a1 k ta (w64 (ta+1)) a0).bind fun (pa:Int×Int×Bool×(List ByteArray))=>grd ((0:Int)≤pa.1∧pa.1.toNat<pa.2.2.2.length) (grd ((0:Int)≤pa.1∧0≤pa.1.toNat∧pa.1.toNat≤(pa.2.2.2.take pa.1.toNat++List.replicate (pa.2.2.2.length-pa.1.toNat) (⟨#[]⟩:ByteArray)).length) (some (((pa.2.2.2.take pa.1.toNat++List.replicate (pa.2.2.2.length-pa.1.toNat) (⟨#[]⟩:ByteArray)).take pa.1.toNat).drop 0))))
def view_View_Rooms.f (a0:VView):Option (List ByteArray):=grd (a0.fdags.length≤1000000) (some (srtS (a0.fdags.map (·.1))))
def member_Joined.f (k:Nat) (a0:DDag) (a1:ByteArray):Option (Bool):=(member_joined.f k a0).bind fun ta=>some (decide (0<((mget ta a1).getD 0)))
def view_View_Joined.f (k:Nat) (a0:VView) (a1:ByteArray) (a2:ByteArray):Option (Bool):=(view_View_room.f a0 a1).bind fun ta=>(member_Joined.f k ta a2).bind fun tc=>some tc
def view_View_RoomsOf_1.f (k:Nat) (a0:ByteArray) (c0:VView) (c1:ByteArray):Option (Bool):=(view_View_Joined.f k c0 a0 c1).bind fun ta=>some (!ta)
def view_View_RoomsOf.f (k:Nat) (a0:VView) (a1:ByteArray):Option ((List ByteArray)):=(view_View_Rooms.f a0).bind fun ta=>(slices_DeleteFunc_string_xo.f k ta (fun a0_=>view_View_RoomsOf_1.f k a0_ a0 a1)).bind fun tc=>some tc
def view_View_Peers.l0 (k:Nat) (a0:VView) (ta:(List ByteArray)):Nat→Int→List ByteArray→Option (Int×Int×Bool×(List ByteArray)×(List ByteArray))
 | 0,_,_=>none
 | ja+1,xa,xb=>cond (decide (xa<(ta.length:Int))) (grd ((0:Int)≤xa∧xa<(ta.length:Int)) ((view_View_Servers.f k a0 (ta.getD xa.toNat default)).bind fun tc=>grd (xb.length+tc.length≤9223372036854775807∧(xb.length+tc.length)*16≤140737488355328) (view_View_Peers.l0 k a0 ta ja (w64 (xa+1)) (xb++tc)))) (some ((ta.length:Int),xa,decide (xa<(ta.length:Int)),xb,ta))
def view_View_Peers.f (k:Nat) (a0:VView) (a1:ByteArray):Option ((List ByteArray)):=((view_View_RoomsOf.f k a0 a1).bind fun ta=>view_View_Peers.l0 k a0 ta k 0 ([]:List ByteArray)).bind fun (pa:Int×Int×Bool×(List ByteArray)×(List ByteArray))=>(slices_Sort_string.f pa.2.2.2.1).bind fun tc=>(slices_Compact_string.f tc).bind fun te=>some te
def gate_reached.f (k:Nat) (a0:VView) (a1:Edu):Option ((List ByteArray)):=(edu_May.f k a1).bind fun ta=>cond (!ta) (some ([]:List ByteArray)) (cond (a1.fKind==3) ((view_View_Peers.f k a0 a1.fUser).bind fun tc=>some tc) ((view_View_Servers.f k a0 a1.fRoom).bind fun te=>some te))
def gate_Passes.f (k:Nat) (a0:VView) (a1:ByteArray) (a2:Edu):Option (Bool):=(gate_reached.f k a0 a2).bind fun ta=>(slices_Contains_string.f k ta a1).bind fun tc=>some tc
def gate_Choose_1.f (k:Nat) (a0:Edu) (c0:VView) (c1:ByteArray):Option (Bool):=(gate_Passes.f k c0 c1 a0).bind fun ta=>some (!ta)
def gate_Choose.f (k:Nat) (a0:VView) (a1:ByteArray) (a2:List Edu):Option ((List Edu)):=(slices_Clone_Edu.f a2).bind fun ta=>(slices_DeleteFunc_Edu_xo.f k ta (fun a0_=>gate_Choose_1.f k a0_ a0 a1)).bind fun tc=>some tc
def clock_Backoff.l0 (k:Nat) (a0:Int):Nat→Int→Int→Option (Int×Int×Bool)
 | 0,_,_=>none
 | ja+1,xa,xb=>cond (decide (xb<(min (max a0 0) 9))) (clock_Backoff.l0 k a0 ja (min (w64 (2*xa)) 16) (w64 (xb+1))) (some (xa,xb,decide (xb<(min (max a0 0) 9))))
def clock_Backoff.f (k:Nat) (a0:Int):Option (Int):=(clock_Backoff.l0 k a0 k 1 0).bind fun (pa:Int×Int×Bool)=>some pa.1
def sender_Sender_again.f (k:Nat) (a0:SSnd) (a1:VView) (a2:Int):Option (Bool×SSnd):=grd (a0.fair.isSome=true) ((gate_Choose.f k a1 a0.fto (((a0.fair.getD default).fp).fEdus)).bind fun ta=>cond ((ta.length:Int)==0) (some (false,(⟨a0.fQueue,a0.fself,a0.fto,a0.fids,none⟩:SSnd))) ((clock_Backoff.f k (w64 (((a0.fair.getD default).ftries)+1))).bind fun tc=>some (true,(⟨a0.fQueue,a0.fself,a0.fto,a0.fids,some (⟨(⟨((a0.fair.getD default).fp).fAck,((a0.fair.getD default).fp).fFrom,((a0.fair.getD default).fp).fTo,((a0.fair.getD default).fp).fID,ta⟩:Par),w64 (((a0.fair.getD default).ftries)+1),w64 (a2+tc)⟩:Fly)⟩:SSnd))))
def sender_Sender_told.f (a0:SSnd):Option (Par):=grd (a0.fair.isSome=true) ((slices_Clone_Edu.f (((a0.fair.getD default).fp).fEdus)).bind fun ta=>some (⟨((a0.fair.getD default).fp).fAck,((a0.fair.getD default).fp).fFrom,((a0.fair.getD default).fp).fTo,((a0.fair.getD default).fp).fID,ta⟩:Par))
def slices_ContainsFunc_Edu_x.f (k:Nat) (a0:List Edu) (a1:(Edu→Option Bool)):Option (Bool):=(slices_IndexFunc_Edu_x.f k a0 a1).bind fun ta=>some (decide (0≤ta))
def queue_Queue_Keep_1.f (a0:Edu) (c0:Edu):Option (Bool):=some (decide (a0=c0))
def queue_Queue_Keep.l0 (k:Nat) (a1:List Edu) (ta:(List Edu)):Nat→Int→SQue→Option (SQue)
 | 0,_,_=>none
 | ja+1,xa,xb=>cond (decide (xa<(ta.length:Int))) (grd ((0:Int)≤xa∧xa<(ta.length:Int)) ((slices_ContainsFunc_Edu_x.f k a1 (fun a0_=>queue_Queue_Keep_1.f a0_ (Edu.K.at ta xa))).bind fun tc=>cond (!tc) ((edu_Of.f (Edu.K.at ta xa)).bind fun te=>(queue_Queue_drop.f k xb te).bind fun tf=>queue_Queue_Keep.l0 k a1 ta ja (w64 (xa+1)) tf) (queue_Queue_Keep.l0 k a1 ta ja (w64 (xa+1)) xb))) (some xb)
def queue_Queue_Keep.f (k:Nat) (a0:SQue) (a1:List Edu):Option (SQue):=(queue_Queue_All.f k a0).bind fun ta=>queue_Queue_Keep.l0 k a1 ta k 0 a0
def queue_Queue_Len.f (a0:SQue):Option (Int):=some (a0.fkeys.length:Int)
def clock_Counter_Add.l0 (k:Nat) (a0:Ctr) (a1:Int):Nat→Option (Int×Int×Ctr)
 | 0=>none
 | ja+1=>cond (decide (0<a1)) (cond (a0.fn.fv==a0.fmost) (some (0,11,a0)) ((cond (decide (a1<(w64 (a0.fmost-a0.fn.fv)))) (some (w64 (a0.fn.fv+a1))) (some a0.fmost)).bind fun (pa:Int)=>cond (a1==0) (some (pa,0,a0)) (some (pa,0,(⟨(⟨pa⟩:AtI),a0.fmost⟩:Ctr))))) ((cond (decide (a1<(w64 (a0.fmost-a0.fn.fv)))) (some (w64 (a0.fn.fv+a1))) (some a0.fmost)).bind fun (pc:Int)=>cond (a1==0) (some (pc,0,a0)) (some (pc,0,(⟨(⟨pc⟩:AtI),a0.fmost⟩:Ctr))))
def clock_Counter_Add.f (k:Nat) (a0:Ctr) (a1:Int):Option (Int×Int×Ctr):=cond (decide (a1<0)) (some (0,1,a0)) (clock_Counter_Add.l0 k a0 a1 k)
def clock_Counter_Next.f (k:Nat) (a0:Ctr):Option (Int×Int×Ctr):=(clock_Counter_Add.f k a0 1).bind fun ta=>some (ta.1,ta.2.1,ta.2.2)
def queue_Queue_Take.l0 (k:Nat) (a1:Int) (ta:(List Edu)):Nat→Int→SQue→Option (Int×Bool×SQue)
 | 0,_,_=>none
 | ja+1,xa,xb=>cond (decide (xa<(((ta.take ((min (max a1 0) (ta.length:Int)).toNat)).drop 0).length:Int))) (grd ((0:Int)≤xa∧xa<(((ta.take ((min (max a1 0) (ta.length:Int)).toNat)).drop 0).length:Int)) ((edu_Of.f (Edu.K.at ((ta.take ((min (max a1 0) (ta.length:Int)).toNat)).drop 0) xa)).bind fun tc=>(queue_Queue_drop.f k xb tc).bind fun te=>queue_Queue_Take.l0 k a1 ta ja (w64 (xa+1)) te)) (some (xa,decide (xa<(((ta.take ((min (max a1 0) (ta.length:Int)).toNat)).drop 0).length:Int)),xb))
def queue_Queue_Take.f (k:Nat) (a0:SQue) (a1:Int):Option ((List Edu)×SQue):=(queue_Queue_All.f k a0).bind fun ta=>grd ((0:Int)≤(min (max a1 0) (ta.length:Int))∧0≤(min (max a1 0) (ta.length:Int)).toNat∧(min (max a1 0) (ta.length:Int)).toNat≤ta.length) ((queue_Queue_Take.l0 k a1 ta k 0 a0).bind fun (pa:Int×Bool×SQue)=>some ((ta.take ((min (max a1 0) (ta.length:Int)).toNat)).drop 0,pa.2.2))
def sender_Sender_Send.f (k:Nat) (a0:SSnd) (a1:VView) (a2:Int):Option (Par×Bool×Int×SSnd):=(cond (!a0.fair.isNone) (cond (decide (a2<((a0.fair.getD default).fdue))) (some (.inr ((⟨false,(⟨#[]⟩:ByteArray),(⟨#[]⟩:ByteArray),0,([]:List Edu)⟩:Par),false,0,a0))) ((sender_Sender_again.f k a0 a1 a2).bind fun ta=>cond ta.1 ((sender_Sender_told.f ta.2).bind fun tc=>some (.inr (tc,true,0,ta.2))) (some (.inl ta.2)))) (some (.inl a0))).bind (fall fun (pa:SSnd)=>(queue_Queue_All.f k pa.fQueue).bind fun te=>(gate_Choose.f k a1 pa.fto te).bind fun tf=>(queue_Queue_Keep.f k pa.fQueue tf).bind fun tg=>(queue_Queue_Len.f tg).bind fun tj=>cond (tj==0) (some ((⟨false,(⟨#[]⟩:ByteArray),(⟨#[]⟩:ByteArray),0,([]:List Edu)⟩:Par),false,0,(⟨tg,pa.fself,pa.fto,pa.fids,pa.fair⟩:SSnd))) ((clock_Counter_Next.f k pa.fids).bind fun tm=>cond (tm.2.1 != 0) (some ((⟨false,(⟨#[]⟩:ByteArray),(⟨#[]⟩:ByteArray),0,([]:List Edu)⟩:Par),false,tm.2.1,(⟨tg,pa.fself,pa.fto,tm.2.2,pa.fair⟩:SSnd))) ((queue_Queue_Take.f k tg 100).bind fun tn=>(clock_Backoff.f k 0).bind fun tp=>(sender_Sender_told.f (⟨tn.2,pa.fself,pa.fto,tm.2.2,some (⟨(⟨false,pa.fself,pa.fto,tm.1,tn.1⟩:Par),0,w64 (a2+tp)⟩:Fly)⟩:SSnd)).bind fun tq=>some (tq,true,0,(⟨tn.2,pa.fself,pa.fto,tm.2.2,some (⟨(⟨false,pa.fself,pa.fto,tm.1,tn.1⟩:Par),0,w64 (a2+tp)⟩:Fly)⟩:SSnd)))))
def dag_May.l0 (k:Nat) (a0:Event):Nat→Int→Option (Bool×Int×Bool)
 | 0,_=>none
 | ja+1,xa=>cond (decide (xa<(a0.fParents.length:Int))) (grd ((0:Int)≤xa∧xa<(a0.fParents.length:Int)) ((name_Event.f k (strK.at a0.fParents xa)).bind fun ta=>cond (!ta) (some (false,xa,decide (xa<(a0.fParents.length:Int)))) (cond (decide ((strK.at a0.fParents xa)=a0.fID)) (some (false,xa,decide (xa<(a0.fParents.length:Int)))) (cond (decide (0<xa)) (grd ((0:Int)≤(w64 (xa-1))∧(w64 (xa-1))<(a0.fParents.length:Int)) (cond (!sLt (strK.at a0.fParents (w64 (xa-1))) (strK.at a0.fParents xa)) (some (false,xa,decide (xa<(a0.fParents.length:Int)))) (dag_May.l0 k a0 ja (w64 (xa+1))))) (dag_May.l0 k a0 ja (w64 (xa+1))))))) (some (true,xa,decide (xa<(a0.fParents.length:Int))))
def dag_May.l1 (k:Nat) (a0:Event):Nat→Int→Option (Bool×Int×Bool)
 | 0,_=>none
 | ja+1,xa=>cond (decide (xa<(a0.fParents.length:Int))) (grd ((0:Int)≤xa∧xa<(a0.fParents.length:Int)) ((name_Event.f k (strK.at a0.fParents xa)).bind fun ta=>cond (!ta) (some (false,xa,decide (xa<(a0.fParents.length:Int)))) (cond (decide ((strK.at a0.fParents xa)=a0.fID)) (some (false,xa,decide (xa<(a0.fParents.length:Int)))) (cond (decide (0<xa)) (grd ((0:Int)≤(w64 (xa-1))∧(w64 (xa-1))<(a0.fParents.length:Int)) (cond (!sLt (strK.at a0.fParents (w64 (xa-1))) (strK.at a0.fParents xa)) (some (false,xa,decide (xa<(a0.fParents.length:Int)))) (dag_May.l1 k a0 ja (w64 (xa+1))))) (dag_May.l1 k a0 ja (w64 (xa+1))))))) (some (true,xa,decide (xa<(a0.fParents.length:Int))))
def dag_May.f (k:Nat) (a0:Event):Option (Bool):=(name_Event.f k a0.fID).bind fun ta=>cond (!ta) (some false) ((name_Room.f k a0.fRoom).bind fun tc=>cond (!tc) (some false) ((name_User.f k a0.fUser).bind fun te=>cond (!te) (some false) (cond (decide (4<(a0.fParents.length:Int))) (some false) (cond (decide (a0.fDoes<0)) (some false) (cond (decide (2<a0.fDoes)) (some false) (cond (!decide (a0.fThread=(⟨#[]⟩:ByteArray))) ((name_Event.f k a0.fThread).bind fun tf=>cond (!tf) (some false) (cond (decide (a0.fThread=a0.fID)) (some false) (cond (a0.fDoes != 0) (some false) ((dag_May.l0 k a0 k 0).bind fun (pa:Bool×Int×Bool)=>some pa.1)))) ((dag_May.l1 k a0 k 0).bind fun (pc:Bool×Int×Bool)=>some pc.1)))))))
def dag_Dag_Has.f (a0:DDag) (a1:ByteArray):Option (Bool):=some (!(mget a0.fnodes a1).isNone)
def slices_ContainsFunc_string_x.f (k:Nat) (a0:List ByteArray) (a1:(ByteArray→Option Bool)):Option (Bool):=(slices_IndexFunc_string_x.f k a0 a1).bind fun ta=>some (decide (0≤ta))
def dag_Dag_Add_1.f (a0:ByteArray) (c0:DDag):Option (Bool):=(dag_Dag_Has.f c0 a0).bind fun ta=>some (!ta)
def dag_Dag_Add.l0 (k:Nat) (a1:Event):Nat→Int→Int→DDag→Option (Int×Bool×Int×DDag)
 | 0,_,_,_=>none
 | ja+1,xa,xb,xc=>cond (decide (xa<(a1.fParents.length:Int))) (grd ((0:Int)≤xa∧xa<(a1.fParents.length:Int)) (grd ((mget xc.fnodes (strK.at a1.fParents xa)).isSome=true) (dag_Dag_Add.l0 k a1 ja (w64 (xa+1)) (max xb (w64 ((((mget xc.fnodes (strK.at a1.fParents xa)).getD default).fdepth)+1))) (⟨xc.froom,mput xc.fnodes (strK.at a1.fParents xa) (⟨((mget xc.fnodes (strK.at a1.fParents xa)).getD default).fe,((mget xc.fnodes (strK.at a1.fParents xa)).getD default).fdepth,true⟩:DNode)⟩:DDag)))) (some (xa,decide (xa<(a1.fParents.length:Int)),xb,xc))
def dag_Dag_Add.f (k:Nat) (a0:DDag) (a1:Event):Option (Int×DDag):=(dag_May.f k a1).bind fun ta=>cond (!ta) (some (1,a0)) (cond (!decide (a1.fRoom=a0.froom)) (some (1,a0)) ((dag_Dag_Has.f a0 a1.fID).bind fun tc=>cond tc (some (9,a0)) ((slices_ContainsFunc_string_x.f k a1.fParents (fun a0_=>dag_Dag_Add_1.f a0_ a0)).bind fun te=>cond te (some (4,a0)) ((cond (!decide (a1.fThread=(⟨#[]⟩:ByteArray))) (cond ((mget a0.fnodes a1.fThread).isNone) (some (.inr (4,a0))) (grd ((mget a0.fnodes a1.fThread).isSome=true) (cond (!decide (((((mget a0.fnodes a1.fThread).getD default).fe).fThread)=(⟨#[]⟩:ByteArray))) (some (.inr (7,a0))) (cond (((((mget a0.fnodes a1.fThread).getD default).fe).fDoes) != 0) (some (.inr (7,a0))) (some (.inl ())))))) (some (.inl ()))).bind (fall fun (pa:Unit)=>(dag_own.f a1).bind fun tf=>(dag_Dag_Add.l0 k a1 k 0 0 a0).bind fun (pc:Int×Bool×Int×DDag)=>some (0,(⟨pc.2.2.2.froom,mput pc.2.2.2.fnodes a1.fID (⟨tf,pc.2.2.1,false⟩:DNode)⟩:DDag)))))))
def view_View_Add.f (k:Nat) (a0:VView) (a1:Event):Option (Int×VView):=(view_View_room.f a0 a1.fRoom).bind fun ta=>(dag_Dag_Add.f k ta a1).bind fun tc=>cond (tc.1 != 0) (some (tc.1,(⟨mres a0.fdags a1.fRoom tc.2⟩:VView))) (some (0,(⟨mput a0.fdags a1.fRoom tc.2⟩:VView)))
def r10_Of.l0 (k:Nat) (a0:RView) (a1:ByteArray):Nat→Int→Option ((Int×Bool) ⊕ (RDag))
 | 0,_=>none
 | ja+1,xa=>cond (decide (xa<(a0.fD.length:Int))) (grd ((0:Int)≤xa∧xa<(a0.fD.length:Int)) (cond (decide (((RDag.K.at a0.fD xa).fRoom)=a1)) (grd ((0:Int)≤xa∧xa<(a0.fD.length:Int)) (some (.inr (RDag.K.at a0.fD xa)))) (r10_Of.l0 k a0 a1 ja (w64 (xa+1))))) (some (.inl (xa,decide (xa<(a0.fD.length:Int)))))
def r10_Of.f (k:Nat) (a0:RView) (a1:ByteArray):Option (RDag):=(r10_Of.l0 k a0 a1 k 0).bind (fall fun (pa:Int×Bool)=>some (⟨a1,([]:List Event)⟩:RDag))
def r10_Add.l0 (k:Nat) (a0:RView) (a1:Event) (ta:RDag×Int):Nat→Bool→Int→List RDag→Option (Bool×Int×Bool×(List RDag))
 | 0,_,_,_=>none
 | ja+1,xa,xb,xc=>cond (decide (xb<(a0.fD.length:Int))) ((cond (!xa) (grd ((0:Int)≤xb∧xb<(a0.fD.length:Int)) (cond (!sLt ((RDag.K.at a0.fD xb).fRoom) a1.fRoom) (grd (xc.length+([ta.1]:List RDag).length≤9223372036854775807∧(xc.length+([ta.1]:List RDag).length)*40≤140737488355328) (some (true,!sLt ((RDag.K.at a0.fD xb).fRoom) a1.fRoom,xc++([ta.1]:List RDag)))) (some (xa,!sLt ((RDag.K.at a0.fD xb).fRoom) a1.fRoom,xc)))) (some (xa,false,xc))).bind fun (pa:Bool×Bool×(List RDag))=>grd ((0:Int)≤xb∧xb<(a0.fD.length:Int)) (cond (!decide (((RDag.K.at a0.fD xb).fRoom)=a1.fRoom)) (grd ((0:Int)≤xb∧xb<(a0.fD.length:Int)) (grd (pa.2.2.length+([RDag.K.at a0.fD xb]:List RDag).length≤9223372036854775807∧(pa.2.2.length+([RDag.K.at a0.fD xb]:List RDag).length)*40≤140737488355328) (r10_Add.l0 k a0 a1 ta ja pa.1 (w64 (xb+1)) (pa.2.2++([RDag.K.at a0.fD xb]:List RDag))))) (r10_Add.l0 k a0 a1 ta ja pa.1 (w64 (xb+1)) pa.2.2))) (some (xa,xb,decide (xb<(a0.fD.length:Int)),xc))
def r10_Add.f (k:Nat) (a0:RView) (a1:Event):Option (RView×Int):=(r10_Of.f k a0 a1.fRoom).bind fun ta=>(r07_Add.f k ta a1).bind fun tc=>cond (tc.2 != 0) (some (a0,tc.2)) ((r10_Add.l0 k a0 a1 tc k false 0 ([]:List RDag)).bind fun (pa:Bool×Int×Bool×(List RDag))=>cond (!pa.1) (grd (pa.2.2.2.length+([tc.1]:List RDag).length≤9223372036854775807∧(pa.2.2.2.length+([tc.1]:List RDag).length)*40≤140737488355328) (some ((⟨pa.2.2.2++([tc.1]:List RDag)⟩:RView),0))) (some ((⟨pa.2.2.2⟩:RView),0)))
def r10_Build.l0 (k:Nat) (a0:List Event):Nat→Int→List RDag→Option (Int×Bool×(List RDag))
 | 0,_,_=>none
 | ja+1,xa,xb=>cond (decide (xa<(a0.length:Int))) (grd ((0:Int)≤xa∧xa<(a0.length:Int)) ((r10_Add.f k (⟨xb⟩:RView) (Event.K.at a0 xa)).bind fun ta=>r10_Build.l0 k a0 ja (w64 (xa+1)) ta.1.fD)) (some (xa,decide (xa<(a0.length:Int)),xb))
def r10_Build.f (k:Nat) (a0:List Event):Option (RView):=(r10_Build.l0 k a0 k 0 ([]:List RDag)).bind fun (pa:Int×Bool×(List RDag))=>some (⟨pa.2.2⟩:RView)
def w18_open.l0 (k:Nat) (pa:Int×Bool×(List Event)):Nat→Int→VView→Option ((Int×Bool×VView) ⊕ ((Option VView)×RView))
 | 0,_,_=>none
 | ja+1,xa,xb=>cond (decide (xa<(pa.2.2.length:Int))) (grd ((0:Int)≤xa∧xa<(pa.2.2.length:Int)) ((view_View_Add.f k xb (pa.2.2.getD xa.toNat default)).bind fun ta=>cond (ta.1 != 0) (some (.inr (none,(⟨([]:List RDag)⟩:RView)))) (w18_open.l0 k pa ja (w64 (xa+1)) ta.2))) (some (.inl (xa,decide (xa<(pa.2.2.length:Int)),xb)))
def w18_open.l2 (k:Nat) (xa:Int):Nat→Int→List Event→Option (Int×Bool×(List Event))
 | 0,_,_=>none
 | ja+1,xb,xc=>cond (decide (xb<9)) ((r01_EventOf.f k xb).bind fun ta=>(r01_RoomOf.f xa).bind fun tc=>(r01_UserOf.f xb).bind fun te=>grd (xc.length+([(⟨ta,tc,([]:List ByteArray),(⟨#[]⟩:ByteArray),te,1⟩:Event)]:List Event).length≤9223372036854775807∧(xc.length+([(⟨ta,tc,([]:List ByteArray),(⟨#[]⟩:ByteArray),te,1⟩:Event)]:List Event).length)*96≤140737488355328) (w18_open.l2 k xa ja (w64 (xb+1)) (xc++([(⟨ta,tc,([]:List ByteArray),(⟨#[]⟩:ByteArray),te,1⟩:Event)]:List Event)))) (some (xb,decide (xb<9),xc))
def w18_open.l1 (k:Nat):Nat→Int→List Event→Option (Int×Bool×(List Event))
 | 0,_,_=>none
 | ja+1,xa,xb=>cond (decide (xa<2)) ((w18_open.l2 k xa k 0 xb).bind fun (pa:Int×Bool×(List Event))=>w18_open.l1 k ja (w64 (xa+1)) pa.2.2) (some (xa,decide (xa<2),xb))
def w18_open.f (k:Nat):Option ((Option VView)×RView):=(view_New.f).bind fun ta=>(w18_open.l1 k k 0 ([]:List Event)).bind fun (pa:Int×Bool×(List Event))=>(w18_open.l0 k pa k 0 ta).bind (fall fun (pc:Int×Bool×VView)=>(r10_Build.f k pa.2.2).bind fun tc=>some (some pc.2.2,tc))
def w18_lives.l0 (k:Nat) (ta:(Option VView)×RView):Nat→ByteArray→Int→SSnd→Option (ByteArray×Int×Bool×SSnd)
 | 0,_,_,_=>none
 | ja+1,xa,xb,xc=>cond (decide (xb<48)) ((sender_Sender_Send.f k xc (ta.1.getD default) xb).bind fun tc=>cond tc.2.1 (grd (xa.size+(⟨#[32]⟩:ByteArray).size≤9223372036854775807) ((r01_Decimal.f k xb).bind fun te=>grd ((xa++(⟨#[32]⟩:ByteArray)).size+te.size≤9223372036854775807) (w18_lives.l0 k ta ja ((xa++(⟨#[32]⟩:ByteArray))++te) (w64 (xb+1)) tc.2.2.2))) (w18_lives.l0 k ta ja xa (w64 (xb+1)) tc.2.2.2)) (some (xa,xb,decide (xb<48),xc))
def w18_lives.f (k:Nat):Option (Bool):=(w18_open.f k).bind fun ta=>(w18_begin.f k 5 0).bind fun tc=>cond ta.1.isNone (some false) (cond tc.isNone (some false) ((queue_Queue_Put.f k ((tc.getD default).fQueue) (⟨3,(⟨#[]⟩:ByteArray),(⟨#[64,97,58,115,49]⟩:ByteArray),(⟨#[]⟩:ByteArray),(⟨#[]⟩:ByteArray),false,false,0,2,0,0⟩:Edu)).bind fun te=>(w18_lives.l0 k ta k (⟨#[]⟩:ByteArray) 0 (⟨te.2.2.2,(tc.getD default).fself,(tc.getD default).fto,(tc.getD default).fids,(tc.getD default).fair⟩:SSnd)).bind fun (pa:ByteArray×Int×Bool×SSnd)=>some (decide (pa.1=(⟨#[32,48,32,49,32,51,32,55,32,49,53,32,51,49,32,52,55]⟩:ByteArray)))))
def sender_Sender_Ack.f (a0:SSnd) (a1:Int):Option (Bool×SSnd):=cond a0.fair.isNone (some (false,a0)) (grd (a0.fair.isSome=true) (cond ((((a0.fair.getD default).fp).fID) != a1) (some (false,a0)) (some (true,(⟨a0.fQueue,a0.fself,a0.fto,a0.fids,none⟩:SSnd)))))
def r18_New.f (a0:ByteArray) (a1:ByteArray) (a2:Int) (a3:Int):Option (RSnd):=some (⟨a0,a1,a3,(⟨a2,([]:List Edu),0⟩:RQue),(⟨false,(⟨#[]⟩:ByteArray),(⟨#[]⟩:ByteArray),0,([]:List Edu)⟩:Par),false,0,0⟩:RSnd)
def r01_Thread.f (k:Nat) (a0:ByteArray):Option (Bool):=(r01_Event.f k a0).bind fun ta=>cond (decide (a0=(⟨#[]⟩:ByteArray))) (some true) (cond (decide (a0=(⟨#[109,97,105,110]⟩:ByteArray))) (some true) (some ta))
def r03_Local.f (k:Nat) (a0:Edu):Option (Bool):=(r01_Named.f k a0.fUser 64).bind fun ta=>(r01_Named.f k a0.fRoom 33).bind fun tc=>(r01_Event.f k a0.fEvent).bind fun te=>(r01_Thread.f k a0.fThread).bind fun tf=>cond (!ta) (some false) (cond (decide (a0.fTick<0)) (some false) (cond (decide (1099511627776<a0.fTick)) (some false) (cond (decide (a0.fStamp<0)) (some false) (cond (decide (1099511627776<a0.fStamp)) (some false) (cond (a0.fKind==1) (cond tc (cond te (cond tf (cond (!a0.fOn) (cond (a0.fSpan==0) (some (a0.fState==0)) (some false)) (some false)) (some false)) (some false)) (some false)) (cond (a0.fKind==2) (cond a0.fOn (cond (decide (1≤a0.fSpan)) (cond (decide (a0.fSpan≤60)) (cond tc (cond (decide (a0.fEvent=(⟨#[]⟩:ByteArray))) (cond (decide (a0.fThread=(⟨#[]⟩:ByteArray))) (cond (a0.fState==0) (some (!a0.fPrivate)) (some false)) (some false)) (some false)) (some false)) (cond (!a0.fOn) (cond tc (cond (a0.fSpan==0) (cond (decide (a0.fEvent=(⟨#[]⟩:ByteArray))) (cond (decide (a0.fThread=(⟨#[]⟩:ByteArray))) (cond (a0.fState==0) (some (!a0.fPrivate)) (some false)) (some false)) (some false)) (some false)) (some false)) (cond tc (some false) (some false)))) (cond (!a0.fOn) (cond tc (cond (a0.fSpan==0) (cond (decide (a0.fEvent=(⟨#[]⟩:ByteArray))) (cond (decide (a0.fThread=(⟨#[]⟩:ByteArray))) (cond (a0.fState==0) (some (!a0.fPrivate)) (some false)) (some false)) (some false)) (some false)) (some false)) (cond tc (some false) (some false)))) (cond (!a0.fOn) (cond tc (cond (a0.fSpan==0) (cond (decide (a0.fEvent=(⟨#[]⟩:ByteArray))) (cond (decide (a0.fThread=(⟨#[]⟩:ByteArray))) (cond (a0.fState==0) (some (!a0.fPrivate)) (some false)) (some false)) (some false)) (some false)) (some false)) (cond tc (some false) (some false)))) (cond (a0.fKind==3) (cond (decide (a0.fRoom=(⟨#[]⟩:ByteArray))) (cond (decide (a0.fEvent=(⟨#[]⟩:ByteArray))) (cond (decide (a0.fThread=(⟨#[]⟩:ByteArray))) (cond (!a0.fOn) (cond (a0.fSpan==0) (cond (!a0.fPrivate) (cond (decide (0≤a0.fState)) (some (decide (a0.fState≤2))) (some false)) (some false)) (some false)) (some false)) (some false)) (some false)) (some false)) (some false))))))))
def r03_May.f (k:Nat) (a0:Edu):Option (Bool):=(r03_Local.f k a0).bind fun ta=>cond ta (some (!a0.fPrivate)) (some false)
def r09_Has.l0 (k:Nat) (a0:List ByteArray) (a1:ByteArray):Nat→Int→Option ((Int×Bool) ⊕ (Bool))
 | 0,_=>none
 | ja+1,xa=>cond (decide (xa<(a0.length:Int))) (grd ((0:Int)≤xa∧xa<(a0.length:Int)) (cond (decide ((strK.at a0 xa)=a1)) (some (.inr true)) (r09_Has.l0 k a0 a1 ja (w64 (xa+1))))) (some (.inl (xa,decide (xa<(a0.length:Int)))))
def r09_Has.f (k:Nat) (a0:List ByteArray) (a1:ByteArray):Option (Bool):=(r09_Has.l0 k a0 a1 k 0).bind (fall fun (pa:Int×Bool)=>some false)
def r09_Put.l0 (k:Nat) (a0:List ByteArray) (a1:ByteArray):Nat→Bool→Int→List ByteArray→Option (Bool×Int×Bool×(List ByteArray))
 | 0,_,_,_=>none
 | ja+1,xa,xb,xc=>cond (decide (xb<(a0.length:Int))) ((cond (!xa) (grd ((0:Int)≤xb∧xb<(a0.length:Int)) (cond (!sLt (strK.at a0 xb) a1) (grd (xc.length+([a1]:List ByteArray).length≤9223372036854775807∧(xc.length+([a1]:List ByteArray).length)*16≤140737488355328) (some (true,!sLt (strK.at a0 xb) a1,xc++([a1]:List ByteArray)))) (some (xa,!sLt (strK.at a0 xb) a1,xc)))) (some (xa,false,xc))).bind fun (pa:Bool×Bool×(List ByteArray))=>grd ((0:Int)≤xb∧xb<(a0.length:Int)) (cond (!decide ((strK.at a0 xb)=a1)) (grd ((0:Int)≤xb∧xb<(a0.length:Int)) (grd (pa.2.2.length+([strK.at a0 xb]:List ByteArray).length≤9223372036854775807∧(pa.2.2.length+([strK.at a0 xb]:List ByteArray).length)*16≤140737488355328) (r09_Put.l0 k a0 a1 ja pa.1 (w64 (xb+1)) (pa.2.2++([strK.at a0 xb]:List ByteArray))))) (r09_Put.l0 k a0 a1 ja pa.1 (w64 (xb+1)) pa.2.2))) (some (xa,xb,decide (xb<(a0.length:Int)),xc))
def r09_Put.f (k:Nat) (a0:List ByteArray) (a1:ByteArray):Option ((List ByteArray)):=(r09_Put.l0 k a0 a1 k false 0 ([]:List ByteArray)).bind fun (pa:Bool×Int×Bool×(List ByteArray))=>cond (!pa.1) (grd (pa.2.2.2.length+([a1]:List ByteArray).length≤9223372036854775807∧(pa.2.2.2.length+([a1]:List ByteArray).length)*16≤140737488355328) (some (pa.2.2.2++([a1]:List ByteArray)))) (some pa.2.2.2)
def r01_Home.f (k:Nat) (a0:ByteArray):Option (ByteArray):=(r01_Named.f k a0 64).bind fun ta=>(r01_Named.f k a0 33).bind fun tc=>cond (!ta) (cond (!tc) (some (⟨#[]⟩:ByteArray)) ((r01_colon.f k a0).bind fun te=>grd ((0:Int)≤(w64 (te+1))∧(w64 (te+1)).toNat≤a0.size∧a0.size≤a0.size) (some (a0.extract (w64 (te+1)).toNat a0.size)))) ((r01_colon.f k a0).bind fun tf=>grd ((0:Int)≤(w64 (tf+1))∧(w64 (tf+1)).toNat≤a0.size∧a0.size≤a0.size) (some (a0.extract (w64 (tf+1)).toNat a0.size)))
def r09_Homes.l0 (k:Nat) (a0:List ByteArray):Nat→Int→List ByteArray→Option (Int×Bool×(List ByteArray))
 | 0,_,_=>none
 | ja+1,xa,xb=>cond (decide (xa<(a0.length:Int))) (grd ((0:Int)≤xa∧xa<(a0.length:Int)) ((r01_Home.f k (strK.at a0 xa)).bind fun ta=>cond (!decide (ta=(⟨#[]⟩:ByteArray))) ((r09_Put.f k xb ta).bind fun tc=>r09_Homes.l0 k a0 ja (w64 (xa+1)) tc) (r09_Homes.l0 k a0 ja (w64 (xa+1)) xb))) (some (xa,decide (xa<(a0.length:Int)),xb))
def r09_Homes.f (k:Nat) (a0:List ByteArray):Option ((List ByteArray)):=(r09_Homes.l0 k a0 k 0 ([]:List ByteArray)).bind fun (pa:Int×Bool×(List ByteArray))=>some pa.2.2
def r07_Before.f (a0:Pos) (a1:Pos):Option (Bool):=cond (decide (a0.fDepth<a1.fDepth)) (some true) (cond (a0.fDepth==a1.fDepth) (some (sLt a0.fID a1.fID)) (some false))
def r07_Depth.l1 (k:Nat) (a0:RDag) (xa:Int):Nat→Int→List Int→Option (Int×Bool×(List Int))
 | 0,_,_=>none
 | ja+1,xb,xc=>grd ((0:Int)≤xa∧xa<(a0.fL.length:Int)) (cond (decide (xb<(((Event.K.at a0.fL xa).fParents).length:Int))) (grd ((0:Int)≤xa∧xa<(xc.length:Int)) (grd ((0:Int)≤xa∧xa<(a0.fL.length:Int)) (grd ((0:Int)≤xb∧xb<(((Event.K.at a0.fL xa).fParents).length:Int)) ((r07_At.f k a0 (strK.at ((Event.K.at a0.fL xa).fParents) xb)).bind fun ta=>grd ((0:Int)≤ta∧ta<(xc.length:Int)) (grd ((0:Int)≤xa∧xa<(xc.length:Int)) (r07_Depth.l1 k a0 xa ja (w64 (xb+1)) (xc.set xa.toNat (max (xc.getD xa.toNat default) (w64 ((xc.getD ta.toNat default)+1)))))))))) (some (xb,decide (xb<(((Event.K.at a0.fL xa).fParents).length:Int)),xc)))
def r07_Depth.l0 (k:Nat) (a0:RDag) (ta:Int):Nat→Int→List Int→Option (Int×Bool×(List Int))
 | 0,_,_=>none
 | ja+1,xa,xb=>cond (decide (xa≤ta)) ((r07_Depth.l1 k a0 xa k 0 xb).bind fun (pa:Int×Bool×(List Int))=>r07_Depth.l0 k a0 ta ja (w64 (xa+1)) pa.2.2) (some (xa,decide (xa≤ta),xb))
def r07_Depth.f (k:Nat) (a0:RDag) (a1:ByteArray):Option (Int):=(r07_At.f k a0 a1).bind fun ta=>cond (decide (ta<0)) (some 0) (grd ((0:Int)≤(w64 (ta+1))∧(w64 (ta+1))≤(9223372036854775807:Int)∧(w64 (ta+1)).toNat*8≤140737488355328) ((r07_Depth.l0 k a0 ta k 0 (List.replicate (w64 (ta+1)).toNat (0:Int))).bind fun (pa:Int×Bool×(List Int))=>grd ((0:Int)≤ta∧ta<(pa.2.2.length:Int)) (some (pa.2.2.getD ta.toNat default))))
def r07_Position.f (k:Nat) (a0:RDag) (a1:ByteArray):Option (Pos):=(r07_Depth.f k a0 a1).bind fun ta=>some (⟨ta,a1⟩:Pos)
def r09_Last.l0 (k:Nat) (a0:RDag) (a1:ByteArray):Nat→Int→Int→Option (Int×Int×Bool)
 | 0,_,_=>none
 | ja+1,xa,xb=>cond (decide (xb<(a0.fL.length:Int))) (grd ((0:Int)≤xb∧xb<(a0.fL.length:Int)) (cond (!decide (((Event.K.at a0.fL xb).fUser)=a1)) (r09_Last.l0 k a0 a1 ja xa (w64 (xb+1))) (grd ((0:Int)≤xb∧xb<(a0.fL.length:Int)) (cond (((Event.K.at a0.fL xb).fDoes)==0) (r09_Last.l0 k a0 a1 ja xa (w64 (xb+1))) (cond (decide (xa<0)) (r09_Last.l0 k a0 a1 ja xb (w64 (xb+1))) (grd ((0:Int)≤xa∧xa<(a0.fL.length:Int)) ((r07_Position.f k a0 ((Event.K.at a0.fL xa).fID)).bind fun ta=>grd ((0:Int)≤xb∧xb<(a0.fL.length:Int)) ((r07_Position.f k a0 ((Event.K.at a0.fL xb).fID)).bind fun tc=>(r07_Before.f ta tc).bind fun te=>cond te (r09_Last.l0 k a0 a1 ja xb (w64 (xb+1))) (r09_Last.l0 k a0 a1 ja xa (w64 (xb+1))))))))))) (some (xa,xb,decide (xb<(a0.fL.length:Int))))
def r09_Last.f (k:Nat) (a0:RDag) (a1:ByteArray):Option (Event×Bool):=(r09_Last.l0 k a0 a1 k (-1) 0).bind fun (pa:Int×Int×Bool)=>cond (decide (pa.1<0)) (some ((⟨(⟨#[]⟩:ByteArray),(⟨#[]⟩:ByteArray),([]:List ByteArray),(⟨#[]⟩:ByteArray),(⟨#[]⟩:ByteArray),0⟩:Event),false)) (grd ((0:Int)≤pa.1∧pa.1<(a0.fL.length:Int)) (some (Event.K.at a0.fL pa.1,true)))
def r09_Joined.f (k:Nat) (a0:RDag) (a1:ByteArray):Option (Bool):=(r09_Last.f k a0 a1).bind fun ta=>cond ta.2 (some (ta.1.fDoes==1)) (some false)
def r09_Users.l0 (k:Nat) (a0:RDag):Nat→Int→List ByteArray→Option (Int×Bool×(List ByteArray))
 | 0,_,_=>none
 | ja+1,xa,xb=>cond (decide (xa<(a0.fL.length:Int))) (grd ((0:Int)≤xa∧xa<(a0.fL.length:Int)) ((r09_Joined.f k a0 ((Event.K.at a0.fL xa).fUser)).bind fun ta=>cond ta (grd ((0:Int)≤xa∧xa<(a0.fL.length:Int)) ((r09_Put.f k xb ((Event.K.at a0.fL xa).fUser)).bind fun tc=>r09_Users.l0 k a0 ja (w64 (xa+1)) tc)) (r09_Users.l0 k a0 ja (w64 (xa+1)) xb))) (some (xa,decide (xa<(a0.fL.length:Int)),xb))
def r09_Users.f (k:Nat) (a0:RDag):Option ((List ByteArray)):=(r09_Users.l0 k a0 k 0 ([]:List ByteArray)).bind fun (pa:Int×Bool×(List ByteArray))=>some pa.2.2
def r09_Servers.f (k:Nat) (a0:RDag):Option ((List ByteArray)):=(r09_Users.f k a0).bind fun ta=>(r09_Homes.f k ta).bind fun tc=>some tc
def r10_Servers.f (k:Nat) (a0:RView) (a1:ByteArray):Option ((List ByteArray)):=(r10_Of.f k a0 a1).bind fun ta=>(r09_Servers.f k ta).bind fun tc=>some tc
def r10_RoomsOf.l0 (k:Nat) (a0:RView) (a1:ByteArray):Nat→Int→List ByteArray→Option (Int×Bool×(List ByteArray))
 | 0,_,_=>none
 | ja+1,xa,xb=>cond (decide (xa<(a0.fD.length:Int))) (grd ((0:Int)≤xa∧xa<(a0.fD.length:Int)) ((r09_Joined.f k (RDag.K.at a0.fD xa) a1).bind fun ta=>cond ta (grd ((0:Int)≤xa∧xa<(a0.fD.length:Int)) (grd (xb.length+([(RDag.K.at a0.fD xa).fRoom]:List ByteArray).length≤9223372036854775807∧(xb.length+([(RDag.K.at a0.fD xa).fRoom]:List ByteArray).length)*16≤140737488355328) (r10_RoomsOf.l0 k a0 a1 ja (w64 (xa+1)) (xb++([(RDag.K.at a0.fD xa).fRoom]:List ByteArray))))) (r10_RoomsOf.l0 k a0 a1 ja (w64 (xa+1)) xb))) (some (xa,decide (xa<(a0.fD.length:Int)),xb))
def r10_RoomsOf.f (k:Nat) (a0:RView) (a1:ByteArray):Option ((List ByteArray)):=(r10_RoomsOf.l0 k a0 a1 k 0 ([]:List ByteArray)).bind fun (pa:Int×Bool×(List ByteArray))=>some pa.2.2
def r10_Peers.l1 (k:Nat) (ta:(List ByteArray)):Nat→Int→List ByteArray→Option (Int×Bool×(List ByteArray)×(List ByteArray))
 | 0,_,_=>none
 | ja+1,xa,xb=>cond (decide (xa<(ta.length:Int))) (grd ((0:Int)≤xa∧xa<(ta.length:Int)) ((r09_Put.f k xb (ta.getD xa.toNat default)).bind fun tc=>r10_Peers.l1 k ta ja (w64 (xa+1)) tc)) (some (xa,decide (xa<(ta.length:Int)),xb,ta))
def r10_Peers.l0 (k:Nat) (a0:RView) (ta:(List ByteArray)):Nat→Int→List ByteArray→Option (Int×Bool×(List ByteArray))
 | 0,_,_=>none
 | ja+1,xa,xb=>cond (decide (xa<(ta.length:Int))) ((grd ((0:Int)≤xa∧xa<(ta.length:Int)) ((r10_Servers.f k a0 (ta.getD xa.toNat default)).bind fun tc=>r10_Peers.l1 k tc k 0 xb)).bind fun (pa:Int×Bool×(List ByteArray)×(List ByteArray))=>r10_Peers.l0 k a0 ta ja (w64 (xa+1)) pa.2.2.1) (some (xa,decide (xa<(ta.length:Int)),xb))
def r10_Peers.f (k:Nat) (a0:RView) (a1:ByteArray):Option ((List ByteArray)):=(r10_RoomsOf.f k a0 a1).bind fun ta=>(r10_Peers.l0 k a0 ta k 0 ([]:List ByteArray)).bind fun (pa:Int×Bool×(List ByteArray))=>some pa.2.2
def r16_Passes.f (k:Nat) (a0:RView) (a1:ByteArray) (a2:Edu):Option (Bool):=(r03_May.f k a2).bind fun ta=>cond (!ta) (some false) (cond (a2.fKind==3) ((r10_Peers.f k a0 a2.fUser).bind fun tc=>(r09_Has.f k tc a1).bind fun te=>some te) ((r10_Servers.f k a0 a2.fRoom).bind fun tf=>(r09_Has.f k tf a1).bind fun tg=>some tg))
def r16_Choose.l0 (k:Nat) (a0:RView) (a1:ByteArray) (a2:List Edu):Nat→Int→List Edu→Option (Int×Bool×(List Edu))
 | 0,_,_=>none
 | ja+1,xa,xb=>cond (decide (xa<(a2.length:Int))) (grd ((0:Int)≤xa∧xa<(a2.length:Int)) ((r16_Passes.f k a0 a1 (Edu.K.at a2 xa)).bind fun ta=>cond ta (grd ((0:Int)≤xa∧xa<(a2.length:Int)) (grd (xb.length+([Edu.K.at a2 xa]:List Edu).length≤9223372036854775807∧(xb.length+([Edu.K.at a2 xa]:List Edu).length)*112≤140737488355328) (r16_Choose.l0 k a0 a1 a2 ja (w64 (xa+1)) (xb++([Edu.K.at a2 xa]:List Edu))))) (r16_Choose.l0 k a0 a1 a2 ja (w64 (xa+1)) xb))) (some (xa,decide (xa<(a2.length:Int)),xb))
def r16_Choose.f (k:Nat) (a0:RView) (a1:ByteArray) (a2:List Edu):Option ((List Edu)):=(r16_Choose.l0 k a0 a1 a2 k 0 ([]:List Edu)).bind fun (pa:Int×Bool×(List Edu))=>some pa.2.2
def r05_Backoff.f (a0:Int):Option (Int):=cond (decide (a0<1)) (some 1) (cond (decide (3<a0)) (some 16) (grd ((0:Int)≤a0∧a0<(([1,2,4,8]:List Int).length:Int)) (some ((intK .i64).at ([1,2,4,8]:List Int) a0))))
def r17_Keep.l1 (k:Nat) (a0:RQue) (a1:List Edu) (xa:Int):Nat→Bool→Int→Option (Bool×Int×Bool)
 | 0,_,_=>none
 | ja+1,xb,xc=>cond (decide (xc<(a1.length:Int))) (cond xb (r17_Keep.l1 k a0 a1 xa ja true (w64 (xc+1))) (grd ((0:Int)≤xc∧xc<(a1.length:Int)) (grd ((0:Int)≤xa∧xa<(a0.fL.length:Int)) (r17_Keep.l1 k a0 a1 xa ja (decide (Edu.K.at a1 xc=Edu.K.at a0.fL xa)) (w64 (xc+1)))))) (some (xb,xc,decide (xc<(a1.length:Int))))
def r17_Keep.l0 (k:Nat) (a0:RQue) (a1:List Edu):Nat→Int→List Edu→Option (Int×Bool×(List Edu))
 | 0,_,_=>none
 | ja+1,xa,xb=>cond (decide (xa<(a0.fL.length:Int))) (((r17_Keep.l1 k a0 a1 xa k false 0).bind fun (pa:Bool×Int×Bool)=>cond pa.1 (grd ((0:Int)≤xa∧xa<(a0.fL.length:Int)) (grd (xb.length+([Edu.K.at a0.fL xa]:List Edu).length≤9223372036854775807∧(xb.length+([Edu.K.at a0.fL xa]:List Edu).length)*112≤140737488355328) (some (pa.1,pa.2.1,pa.2.2,pa.1,xb++([Edu.K.at a0.fL xa]:List Edu))))) (some (pa.1,pa.2.1,pa.2.2,pa.1,xb))).bind fun (pc:Bool×Int×Bool×Bool×(List Edu))=>r17_Keep.l0 k a0 a1 ja (w64 (xa+1)) pc.2.2.2.2) (some (xa,decide (xa<(a0.fL.length:Int)),xb))
def r17_Keep.f (k:Nat) (a0:RQue) (a1:List Edu):Option (RQue):=(r17_Keep.l0 k a0 a1 k 0 ([]:List Edu)).bind fun (pa:Int×Bool×(List Edu))=>some (⟨a0.fMost,pa.2.2,a0.fLost⟩:RQue)
def r17_Take.f (a0:RQue) (a1:Int):Option (RQue×(List Edu)):=grd ((0:Int)≤(min (max a1 0) (a0.fL.length:Int))∧(min (max a1 0) (a0.fL.length:Int)).toNat≤a0.fL.length∧a0.fL.length≤a0.fL.length) (grd ((0:Int)≤(min (max a1 0) (a0.fL.length:Int))∧0≤(min (max a1 0) (a0.fL.length:Int)).toNat∧(min (max a1 0) (a0.fL.length:Int)).toNat≤a0.fL.length) (some ((⟨a0.fMost,(a0.fL.take a0.fL.length).drop ((min (max a1 0) (a0.fL.length:Int)).toNat),a0.fLost⟩:RQue),(a0.fL.take ((min (max a1 0) (a0.fL.length:Int)).toNat)).drop 0)))
def r18_Send.f (k:Nat) (a0:RSnd) (a1:RView) (a2:Int):Option (RSnd×Par×Bool×Int):=cond a0.fOn (cond (decide (a2<a0.fDue)) (some ((⟨a0.fSelf,a0.fTo,a0.fN,a0.fQ,a0.fFly,a0.fOn,a0.fTries,a0.fDue⟩:RSnd),(⟨false,(⟨#[]⟩:ByteArray),(⟨#[]⟩:ByteArray),0,([]:List Edu)⟩:Par),false,0)) ((cond a0.fOn ((r16_Choose.f k a1 a0.fTo a0.fFly.fEdus).bind fun ta=>cond (decide (0<(ta.length:Int))) ((r05_Backoff.f (w64 (a0.fTries+1))).bind fun tc=>some (.inr ((⟨a0.fSelf,a0.fTo,a0.fN,a0.fQ,(⟨a0.fFly.fAck,a0.fFly.fFrom,a0.fFly.fTo,a0.fFly.fID,ta⟩:Par),a0.fOn,w64 (a0.fTries+1),w64 (a2+tc)⟩:RSnd),(⟨a0.fFly.fAck,a0.fFly.fFrom,a0.fFly.fTo,a0.fFly.fID,ta⟩:Par),true,0))) (some (.inl (⟨a0.fSelf,a0.fTo,a0.fN,a0.fQ,(⟨false,(⟨#[]⟩:ByteArray),(⟨#[]⟩:ByteArray),0,([]:List Edu)⟩:Par),false,0,0⟩:RSnd)))) (some (.inl (⟨a0.fSelf,a0.fTo,a0.fN,a0.fQ,a0.fFly,a0.fOn,a0.fTries,a0.fDue⟩:RSnd)))).bind (fall fun (pa:RSnd)=>(r16_Choose.f k a1 pa.fTo pa.fQ.fL).bind fun te=>(r17_Keep.f k pa.fQ te).bind fun tf=>cond ((tf.fL.length:Int)==0) (some ((⟨pa.fSelf,pa.fTo,pa.fN,tf,pa.fFly,pa.fOn,pa.fTries,pa.fDue⟩:RSnd),(⟨false,(⟨#[]⟩:ByteArray),(⟨#[]⟩:ByteArray),0,([]:List Edu)⟩:Par),false,0)) (cond (decide (1099511627776≤pa.fN)) (some ((⟨pa.fSelf,pa.fTo,pa.fN,tf,pa.fFly,pa.fOn,pa.fTries,pa.fDue⟩:RSnd),(⟨false,(⟨#[]⟩:ByteArray),(⟨#[]⟩:ByteArray),0,([]:List Edu)⟩:Par),false,11)) ((r17_Take.f tf 100).bind fun tg=>some ((⟨pa.fSelf,pa.fTo,w64 (pa.fN+1),tg.1,(⟨false,pa.fSelf,pa.fTo,w64 (pa.fN+1),tg.2⟩:Par),true,0,w64 (a2+1)⟩:RSnd),(⟨false,pa.fSelf,pa.fTo,w64 (pa.fN+1),tg.2⟩:Par),true,0)))))) ((cond a0.fOn ((r16_Choose.f k a1 a0.fTo a0.fFly.fEdus).bind fun tj=>cond (decide (0<(tj.length:Int))) ((r05_Backoff.f (w64 (a0.fTries+1))).bind fun tm=>some (.inr ((⟨a0.fSelf,a0.fTo,a0.fN,a0.fQ,(⟨a0.fFly.fAck,a0.fFly.fFrom,a0.fFly.fTo,a0.fFly.fID,tj⟩:Par),a0.fOn,w64 (a0.fTries+1),w64 (a2+tm)⟩:RSnd),(⟨a0.fFly.fAck,a0.fFly.fFrom,a0.fFly.fTo,a0.fFly.fID,tj⟩:Par),true,0))) (some (.inl (⟨a0.fSelf,a0.fTo,a0.fN,a0.fQ,(⟨false,(⟨#[]⟩:ByteArray),(⟨#[]⟩:ByteArray),0,([]:List Edu)⟩:Par),false,0,0⟩:RSnd)))) (some (.inl (⟨a0.fSelf,a0.fTo,a0.fN,a0.fQ,a0.fFly,a0.fOn,a0.fTries,a0.fDue⟩:RSnd)))).bind (fall fun (pc:RSnd)=>(r16_Choose.f k a1 pc.fTo pc.fQ.fL).bind fun tn=>(r17_Keep.f k pc.fQ tn).bind fun tp=>cond ((tp.fL.length:Int)==0) (some ((⟨pc.fSelf,pc.fTo,pc.fN,tp,pc.fFly,pc.fOn,pc.fTries,pc.fDue⟩:RSnd),(⟨false,(⟨#[]⟩:ByteArray),(⟨#[]⟩:ByteArray),0,([]:List Edu)⟩:Par),false,0)) (cond (decide (1099511627776≤pc.fN)) (some ((⟨pc.fSelf,pc.fTo,pc.fN,tp,pc.fFly,pc.fOn,pc.fTries,pc.fDue⟩:RSnd),(⟨false,(⟨#[]⟩:ByteArray),(⟨#[]⟩:ByteArray),0,([]:List Edu)⟩:Par),false,11)) ((r17_Take.f tp 100).bind fun tq=>some ((⟨pc.fSelf,pc.fTo,w64 (pc.fN+1),tq.1,(⟨false,pc.fSelf,pc.fTo,w64 (pc.fN+1),tq.2⟩:Par),true,0,w64 (a2+1)⟩:RSnd),(⟨false,pc.fSelf,pc.fTo,w64 (pc.fN+1),tq.2⟩:Par),true,0)))))
def r04_SameEdus.l0 (k:Nat) (a0:List Edu) (a1:List Edu):Nat→Int→Option ((Int×Bool) ⊕ (Bool))
 | 0,_=>none
 | ja+1,xa=>cond (decide (xa<(a0.length:Int))) (grd ((0:Int)≤xa∧xa<(a0.length:Int)) (grd ((0:Int)≤xa∧xa<(a1.length:Int)) (cond (!decide (Edu.K.at a0 xa=Edu.K.at a1 xa)) (some (.inr false)) (r04_SameEdus.l0 k a0 a1 ja (w64 (xa+1)))))) (some (.inl (xa,decide (xa<(a0.length:Int)))))
def r04_SameEdus.f (k:Nat) (a0:List Edu) (a1:List Edu):Option (Bool):=cond ((a0.length:Int) != (a1.length:Int)) (some false) ((r04_SameEdus.l0 k a0 a1 k 0).bind (fall fun (pa:Int×Bool)=>some true))
def r04_Same.f (k:Nat) (a0:Par) (a1:Par):Option (Bool):=(r04_SameEdus.f k a0.fEdus a1.fEdus).bind fun ta=>cond ta (cond (a0.fAck==a1.fAck) (cond (decide (a0.fFrom=a1.fFrom)) (cond (decide (a0.fTo=a1.fTo)) (some (a0.fID==a1.fID)) (some false)) (some false)) (some false)) (some false)
def r18_Ack.f (a0:RSnd) (a1:Int):Option (RSnd×Bool):=cond (!a0.fOn) (some ((⟨a0.fSelf,a0.fTo,a0.fN,a0.fQ,a0.fFly,a0.fOn,a0.fTries,a0.fDue⟩:RSnd),false)) (cond (a0.fFly.fID != a1) (some ((⟨a0.fSelf,a0.fTo,a0.fN,a0.fQ,a0.fFly,a0.fOn,a0.fTries,a0.fDue⟩:RSnd),false)) (some ((⟨a0.fSelf,a0.fTo,a0.fN,a0.fQ,(⟨false,(⟨#[]⟩:ByteArray),(⟨#[]⟩:ByteArray),0,([]:List Edu)⟩:Par),false,0,0⟩:RSnd),true)))
def r01_ThreadOf.f (k:Nat) (a0:Int):Option (ByteArray):=(r01_Around.f a0 11).bind fun ta=>cond (ta==9) (some (⟨#[]⟩:ByteArray)) (cond (ta==10) (some (⟨#[109,97,105,110]⟩:ByteArray)) ((r01_EventOf.f k ta).bind fun tc=>some tc))
def r03_Good.f (k:Nat) (a0:Edu):Option (Edu):=(r01_Around.f a0.fKind 3).bind fun ta=>(r01_UserOf.f a0.fState).bind fun tc=>(r01_Around.f a0.fTick 100).bind fun te=>(r01_Around.f a0.fStamp 9).bind fun tf=>cond ((w64 (1+ta))==1) ((r01_RoomOf.f a0.fSpan).bind fun tg=>(r01_Around.f a0.fTick 9).bind fun tj=>(r01_EventOf.f k (w64 ((a0.fEvent.size:Int)+tj))).bind fun tm=>(r01_ThreadOf.f k (a0.fThread.size:Int)).bind fun tn=>some (⟨w64 (1+ta),tg,tc,tm,tn,a0.fPrivate,false,0,0,te,tf⟩:Edu)) (cond ((w64 (1+ta))==2) ((r01_RoomOf.f a0.fSpan).bind fun tp=>cond a0.fOn ((r01_Around.f a0.fSpan 60).bind fun tq=>some (⟨w64 (1+ta),tp,tc,(⟨#[]⟩:ByteArray),(⟨#[]⟩:ByteArray),false,a0.fOn,w64 (1+tq),0,te,tf⟩:Edu)) (some (⟨w64 (1+ta),tp,tc,(⟨#[]⟩:ByteArray),(⟨#[]⟩:ByteArray),false,a0.fOn,0,0,te,tf⟩:Edu))) ((r01_Around.f a0.fSpan 3).bind fun tu=>some (⟨w64 (1+ta),(⟨#[]⟩:ByteArray),tc,(⟨#[]⟩:ByteArray),(⟨#[]⟩:ByteArray),false,false,0,tu,te,tf⟩:Edu)))
def r03_Same.f (a0:Edu) (a1:Edu):Option (Bool):=cond (a0.fKind==a1.fKind) (cond (decide (a0.fRoom=a1.fRoom)) (cond (decide (a0.fUser=a1.fUser)) (cond (decide (a0.fThread=a1.fThread)) (some (a0.fPrivate==a1.fPrivate)) (some false)) (some false)) (some false)) (some false)
def r17_At.l0 (k:Nat) (a0:List Edu) (a1:Edu):Nat→Int→Option ((Int×Bool) ⊕ (Int))
 | 0,_=>none
 | ja+1,xa=>cond (decide (xa<(a0.length:Int))) (grd ((0:Int)≤xa∧xa<(a0.length:Int)) ((r03_Same.f (Edu.K.at a0 xa) a1).bind fun ta=>cond ta (some (.inr xa)) (r17_At.l0 k a0 a1 ja (w64 (xa+1))))) (some (.inl (xa,decide (xa<(a0.length:Int)))))
def r17_At.f (k:Nat) (a0:List Edu) (a1:Edu):Option (Int):=(r17_At.l0 k a0 a1 k 0).bind (fall fun (pa:Int×Bool)=>some (-1))
def r02_Number.f:Nat→Int→Option ((List Int))
 | 0,_=>none
 | k+1,a0=>(cond (decide (a0<0)) (some 0) (some a0)).bind fun (pa:Int)=>cond (decide (pa<128)) (some ([IntKind.u8.wrap (pa)]:List Int)) ((r02_Number.f k (w64 (pa.tdiv 128))).bind fun ta=>grd (([IntKind.u8.wrap (w64 (128+(pa.tmod 128)))]:List Int).length+ta.length≤9223372036854775807∧(([IntKind.u8.wrap (w64 (128+(pa.tmod 128)))]:List Int).length+ta.length)*1≤140737488355328) (some (([IntKind.u8.wrap (w64 (128+(pa.tmod 128)))]:List Int)++ta)))
def r02_Text.f (k:Nat) (a0:ByteArray):Option ((List Int)):=(r02_Number.f k (a0.size:Int)).bind fun ta=>grd (ta.length+(strBs a0).length≤9223372036854775807∧(ta.length+(strBs a0).length)*1≤140737488355328) (some (ta++(strBs a0)))
def r02_Flag.f (a0:Bool):Option ((List Int)):=cond a0 (some ([1]:List Int)) (some ([0]:List Int))
def r03_Bytes.f (k:Nat) (a0:Edu):Option ((List Int)):=(r02_Number.f k a0.fKind).bind fun ta=>(r02_Text.f k a0.fRoom).bind fun tc=>grd (ta.length+tc.length≤9223372036854775807∧(ta.length+tc.length)*1≤140737488355328) ((r02_Text.f k a0.fUser).bind fun te=>grd ((ta++tc).length+te.length≤9223372036854775807∧((ta++tc).length+te.length)*1≤140737488355328) ((r02_Text.f k a0.fEvent).bind fun tf=>grd (((ta++tc)++te).length+tf.length≤9223372036854775807∧(((ta++tc)++te).length+tf.length)*1≤140737488355328) ((r02_Text.f k a0.fThread).bind fun tg=>grd ((((ta++tc)++te)++tf).length+tg.length≤9223372036854775807∧((((ta++tc)++te)++tf).length+tg.length)*1≤140737488355328) ((r02_Flag.f a0.fOn).bind fun tj=>grd (((((ta++tc)++te)++tf)++tg).length+tj.length≤9223372036854775807∧(((((ta++tc)++te)++tf)++tg).length+tj.length)*1≤140737488355328) ((r02_Number.f k a0.fSpan).bind fun tm=>grd ((((((ta++tc)++te)++tf)++tg)++tj).length+tm.length≤9223372036854775807∧((((((ta++tc)++te)++tf)++tg)++tj).length+tm.length)*1≤140737488355328) ((r02_Number.f k a0.fState).bind fun tn=>grd (((((((ta++tc)++te)++tf)++tg)++tj)++tm).length+tn.length≤9223372036854775807∧(((((((ta++tc)++te)++tf)++tg)++tj)++tm).length+tn.length)*1≤140737488355328) ((r02_Number.f k a0.fTick).bind fun tp=>grd ((((((((ta++tc)++te)++tf)++tg)++tj)++tm)++tn).length+tp.length≤9223372036854775807∧((((((((ta++tc)++te)++tf)++tg)++tj)++tm)++tn).length+tp.length)*1≤140737488355328) ((r02_Number.f k a0.fStamp).bind fun tq=>grd (((((((((ta++tc)++te)++tf)++tg)++tj)++tm)++tn)++tp).length+tq.length≤9223372036854775807∧(((((((((ta++tc)++te)++tf)++tg)++tj)++tm)++tn)++tp).length+tq.length)*1≤140737488355328) (some (((((((((ta++tc)++te)++tf)++tg)++tj)++tm)++tn)++tp)++tq))))))))))
def r03_Compare.f (k:Nat) (a0:Edu) (a1:Edu):Option (Int):=cond (decide (a0.fStamp<a1.fStamp)) (some (-1)) (cond (decide (a1.fStamp<a0.fStamp)) (some 1) ((r03_Bytes.f k a0).bind fun ta=>(r03_Bytes.f k a1).bind fun tc=>cond (sLt (ofNums ta) (ofNums tc)) (some (-1)) (cond (sLt (ofNums tc) (ofNums ta)) (some 1) (some 0))))
def r17_Put.f (k:Nat) (a0:RQue) (a1:Edu):Option (RQue×Edu×Bool×Int):=(r03_May.f k a1).bind fun ta=>cond (!ta) (some (a0,(⟨0,(⟨#[]⟩:ByteArray),(⟨#[]⟩:ByteArray),(⟨#[]⟩:ByteArray),(⟨#[]⟩:ByteArray),false,false,0,0,0,0⟩:Edu),false,1)) ((r17_At.f k a0.fL a1).bind fun tc=>(cond (decide (0≤tc)) (grd ((0:Int)≤tc∧tc<(a0.fL.length:Int)) ((r03_Compare.f k a1 (Edu.K.at a0.fL tc)).bind fun te=>cond (decide (te≤0)) (some (.inr (a0,(⟨0,(⟨#[]⟩:ByteArray),(⟨#[]⟩:ByteArray),(⟨#[]⟩:ByteArray),(⟨#[]⟩:ByteArray),false,false,0,0,0,0⟩:Edu),false,0))) (grd ((0:Int)≤tc∧0≤tc.toNat∧tc.toNat≤a0.fL.length) (grd (([]:List Edu).length+((a0.fL.take tc.toNat).drop 0).length≤9223372036854775807∧(([]:List Edu).length+((a0.fL.take tc.toNat).drop 0).length)*112≤140737488355328) (grd ((0:Int)≤(w64 (tc+1))∧(w64 (tc+1)).toNat≤a0.fL.length∧a0.fL.length≤a0.fL.length) (grd ((([]:List Edu)++((a0.fL.take tc.toNat).drop 0)).length+((a0.fL.take a0.fL.length).drop ((w64 (tc+1)).toNat)).length≤9223372036854775807∧((([]:List Edu)++((a0.fL.take tc.toNat).drop 0)).length+((a0.fL.take a0.fL.length).drop ((w64 (tc+1)).toNat)).length)*112≤140737488355328) (some (.inl ((([]:List Edu)++((a0.fL.take tc.toNat).drop 0))++((a0.fL.take a0.fL.length).drop ((w64 (tc+1)).toNat))))))))))) (grd (([]:List Edu).length+a0.fL.length≤9223372036854775807∧(([]:List Edu).length+a0.fL.length)*112≤140737488355328) (some (.inl (([]:List Edu)++a0.fL))))).bind (fall fun (pa:(List Edu))=>grd (pa.length+([a1]:List Edu).length≤9223372036854775807∧(pa.length+([a1]:List Edu).length)*112≤140737488355328) (cond (decide (a0.fMost<((pa++([a1]:List Edu)).length:Int))) (grd ((0:Int)≤1∧(1:Int).toNat≤(pa++([a1]:List Edu)).length∧(pa++([a1]:List Edu)).length≤(pa++([a1]:List Edu)).length) (grd ((0:Int)≤0∧0<((pa++([a1]:List Edu)).length:Int)) (some ((⟨a0.fMost,((pa++([a1]:List Edu)).take ((pa++([a1]:List Edu)).length)).drop ((1:Int).toNat),w64 (a0.fLost+1)⟩:RQue),Edu.K.at (pa++([a1]:List Edu)) 0,true,0)))) (some ((⟨a0.fMost,pa++([a1]:List Edu),a0.fLost⟩:RQue),(⟨0,(⟨#[]⟩:ByteArray),(⟨#[]⟩:ByteArray),(⟨#[]⟩:ByteArray),(⟨#[]⟩:ByteArray),false,false,0,0,0,0⟩:Edu),false,0)))))
def r18_Put.f (k:Nat) (a0:RSnd) (a1:Edu):Option (RSnd×Edu×Bool×Int):=(r17_Put.f k a0.fQ a1).bind fun ta=>some ((⟨a0.fSelf,a0.fTo,a0.fN,ta.1,a0.fFly,a0.fOn,a0.fTries,a0.fDue⟩:RSnd),ta.2.1,ta.2.2.1,ta.2.2.2)
def sender_Sender_Idle.f (a0:SSnd):Option (Bool):=cond a0.fair.isNone ((queue_Queue_Len.f a0.fQueue).bind fun ta=>some (ta==0)) (some false)
def sender_Sender_Tries.f (a0:SSnd):Option (Int):=cond a0.fair.isNone (some 0) (some ((a0.fair.getD default).ftries))
def sender_Sender_Flight.f (a0:SSnd):Option (Par×Bool):=cond a0.fair.isNone (some ((⟨false,(⟨#[]⟩:ByteArray),(⟨#[]⟩:ByteArray),0,([]:List Edu)⟩:Par),false)) ((sender_Sender_told.f a0).bind fun ta=>some (ta,true))
def sender_Sender_Due.f (a0:SSnd):Option (Int×Bool):=cond a0.fair.isNone (some (0,false)) (some ((a0.fair.getD default).fdue,true))
def queue_Queue_Lost.f (a0:SQue):Option (Int):=some a0.flost
def r18_Idle.f (a0:RSnd):Option (Bool):=cond (!a0.fOn) (some ((a0.fQ.fL.length:Int)==0)) (some false)
def w18_like.f (k:Nat) (a0:SSnd) (a1:RSnd):Option (Bool):=(sender_Sender_Flight.f a0).bind fun ta=>(sender_Sender_Due.f a0).bind fun tc=>cond (ta.2==a1.fOn) (cond (tc.2==a1.fOn) ((r04_Same.f k ta.1 a1.fFly).bind fun te=>cond te (cond (tc.1==a1.fDue) ((sender_Sender_Tries.f a0).bind fun tf=>cond (tf==a1.fTries) ((queue_Queue_All.f k a0.fQueue).bind fun tg=>(r04_SameEdus.f k tg a1.fQ.fL).bind fun tj=>cond tj ((queue_Queue_Lost.f a0.fQueue).bind fun tm=>cond (tm==a1.fQ.fLost) ((sender_Sender_Idle.f a0).bind fun tn=>(r18_Idle.f (⟨a1.fSelf,a1.fTo,a1.fN,a1.fQ,a1.fFly,a1.fOn,a1.fTries,a1.fDue⟩:RSnd)).bind fun tp=>some (tn==tp)) (some false)) (some false)) (some false)) (some false)) (some false)) (some false)) (some false)
def w18_SenderPlays.l1 (k:Nat) (ta:(List Event)) (xa:RSnd) (xb:SSnd) (tc:Int) (pa:Bool):Nat→Int→Int→List RDag→VView→Option ((Int×Int×Bool×(List RDag)×RSnd×SSnd×VView) ⊕ ((Int×Int×Int×Bool×Bool×(List RDag)×RSnd×SSnd×VView) ⊕ ((Int×Int×Int×Bool×(List RDag)×RSnd×SSnd×VView) ⊕ (Bool))))
 | 0,_,_,_,_=>none
 | ja+1,xc,xd,xe,xf=>cond (decide (xd<3)) (cond (decide (xc<(ta.length:Int))) (grd ((0:Int)≤xc∧xc<(ta.length:Int)) ((view_View_Add.f k xf (ta.getD xc.toNat default)).bind fun te=>grd ((0:Int)≤xc∧xc<(ta.length:Int)) ((r10_Add.f k (⟨xe⟩:RView) (ta.getD xc.toNat default)).bind fun tf=>w18_SenderPlays.l1 k ta xa xb tc pa ja (w64 (xc+1)) (w64 (xd+1)) tf.1.fD te.2))) (some (.inl (xc,tc,pa,xe,(⟨xa.fSelf,xa.fTo,xa.fN,xa.fQ,xa.fFly,xa.fOn,xa.fTries,xa.fDue⟩:RSnd),xb,xf)))) (some (.inl (xc,tc,pa,xe,(⟨xa.fSelf,xa.fTo,xa.fN,xa.fQ,xa.fFly,xa.fOn,xa.fTries,xa.fDue⟩:RSnd),xb,xf)))
def w18_SenderPlays.l0 (k:Nat) (a3:List SStep) (ta:(List Event)):Nat→Int→Int→Int→List RDag→RSnd→SSnd→VView→Option ((Int×Int×Int×Bool×(List RDag)×RSnd×SSnd×VView) ⊕ (Bool))
 | 0,_,_,_,_,_,_,_=>none
 | ja+1,xa,xb,xc,xd,xe,xf,xg=>cond (decide (xc<(a3.length:Int))) (cond (decide (xc<20)) ((grd ((0:Int)≤xc∧xc<(a3.length:Int)) ((r01_Around.f ((SStep.K.at a3 xc).fN) 4).bind fun tc=>(grd ((0:Int)≤xc∧xc<(a3.length:Int)) ((r01_Around.f ((SStep.K.at a3 xc).fDo) 10).bind fun te=>(cond (te==4) (some (te==4)) (cond (te==5) (some (te==5)) (some (te==6)))).bind fun (pa:Bool)=>cond pa ((r18_Send.f k (⟨xe.fSelf,xe.fTo,xe.fN,xe.fQ,xe.fFly,xe.fOn,xe.fTries,xe.fDue⟩:RSnd) (⟨xd⟩:RView) (w64 (xb+tc))).bind fun tf=>(sender_Sender_Send.f k xf xg (w64 (xb+tc))).bind fun tg=>cond (tg.2.1 != tf.2.2.1) (some (.inr (.inr (.inr false)))) (cond (tf.2.2.2 != tg.2.2.1) (some (.inr (.inr (.inr false)))) ((r04_Same.f k tg.1 tf.2.1).bind fun tj=>cond (!tj) (some (.inr (.inr (.inr false)))) (some (.inl (xa,te,pa,xd,(⟨tf.1.fSelf,tf.1.fTo,tf.1.fN,tf.1.fQ,tf.1.fFly,tf.1.fOn,tf.1.fTries,tf.1.fDue⟩:RSnd),tg.2.2.2,xg)))))) ((cond (te==7) (some (te==7)) (some (te==8))).bind fun (pc:Bool)=>cond pc (grd ((0:Int)≤xc∧xc<(a3.length:Int)) ((grd ((0:Int)≤xc∧xc<(a3.length:Int)) ((r01_Around.f ((SStep.K.at a3 xc).fDo) 10).bind fun tm=>cond (tm==7) (some (xe.fFly.fID,(tm==7))) (some ((SStep.K.at a3 xc).fN,(tm==7))))).bind fun (pd:Int×Bool)=>(r18_Ack.f (⟨xe.fSelf,xe.fTo,xe.fN,xe.fQ,xe.fFly,xe.fOn,xe.fTries,xe.fDue⟩:RSnd) pd.1).bind fun tn=>(sender_Sender_Ack.f xf pd.1).bind fun tp=>cond (tp.1 != tn.2) (some (.inr (.inr (.inr false)))) (some (.inl (xa,te,pa,xd,(⟨tn.1.fSelf,tn.1.fTo,tn.1.fN,tn.1.fQ,tn.1.fFly,tn.1.fOn,tn.1.fTries,tn.1.fDue⟩:RSnd),tp.2,xg))))) (cond (te==9) (w18_SenderPlays.l1 k ta xe xf te pa k xa 0 xd xg) (grd ((0:Int)≤xc∧xc<(a3.length:Int)) ((r03_Good.f k ((SStep.K.at a3 xc).fE)).bind fun tq=>(r18_Put.f k (⟨xe.fSelf,xe.fTo,xe.fN,xe.fQ,xe.fFly,xe.fOn,xe.fTries,xe.fDue⟩:RSnd) tq).bind fun tu=>(queue_Queue_Put.f k xf.fQueue tq).bind fun tv=>cond (!decide (tv.1=tu.2.1)) (some (.inr (.inr (.inr false)))) (cond (tv.2.1 != tu.2.2.1) (some (.inr (.inr (.inr false)))) (cond (tu.2.2.2 != tv.2.2.1) (some (.inr (.inr (.inr false)))) (some (.inl (xa,te,pa,xd,(⟨tu.1.fSelf,tu.1.fTo,tu.1.fN,tu.1.fQ,tu.1.fFly,tu.1.fOn,tu.1.fTries,tu.1.fDue⟩:RSnd),(⟨tv.2.2.2,xf.fself,xf.fto,xf.fids,xf.fair⟩:SSnd),xg))))))))))).bind (fall fun (pe:Int×Int×Bool×(List RDag)×RSnd×SSnd×VView)=>(w18_like.f k pe.2.2.2.2.2.1 (⟨pe.2.2.2.2.1.fSelf,pe.2.2.2.2.1.fTo,pe.2.2.2.2.1.fN,pe.2.2.2.2.1.fQ,pe.2.2.2.2.1.fFly,pe.2.2.2.2.1.fOn,pe.2.2.2.2.1.fTries,pe.2.2.2.2.1.fDue⟩:RSnd)).bind fun tw=>cond (!tw) (some (.inr (.inr false))) (some (.inl (pe.1,w64 (xb+tc),pe.2.1,pe.2.2.1,!tw,pe.2.2.2.1,(⟨pe.2.2.2.2.1.fSelf,pe.2.2.2.2.1.fTo,pe.2.2.2.2.1.fN,pe.2.2.2.2.1.fQ,pe.2.2.2.2.1.fFly,pe.2.2.2.2.1.fOn,pe.2.2.2.2.1.fTries,pe.2.2.2.2.1.fDue⟩:RSnd),pe.2.2.2.2.2.1,pe.2.2.2.2.2.2)))))).bind (fall fun (pf:Int×Int×Int×Bool×Bool×(List RDag)×RSnd×SSnd×VView)=>w18_SenderPlays.l0 k a3 ta ja pf.1 pf.2.1 (w64 (xc+1)) pf.2.2.2.2.2.1 (⟨pf.2.2.2.2.2.2.1.fSelf,pf.2.2.2.2.2.2.1.fTo,pf.2.2.2.2.2.2.1.fN,pf.2.2.2.2.2.2.1.fQ,pf.2.2.2.2.2.2.1.fFly,pf.2.2.2.2.2.2.1.fOn,pf.2.2.2.2.2.2.1.fTries,pf.2.2.2.2.2.2.1.fDue⟩:RSnd) pf.2.2.2.2.2.2.2.1 pf.2.2.2.2.2.2.2.2)) (some (.inl (xa,xb,xc,decide (xc<20),xd,(⟨xe.fSelf,xe.fTo,xe.fN,xe.fQ,xe.fFly,xe.fOn,xe.fTries,xe.fDue⟩:RSnd),xf,xg)))) (some (.inl (xa,xb,xc,false,xd,(⟨xe.fSelf,xe.fTo,xe.fN,xe.fQ,xe.fFly,xe.fOn,xe.fTries,xe.fDue⟩:RSnd),xf,xg)))
def w18_SenderPlays.f (k:Nat) (a0:Int) (a1:List GMade) (a2:List GMade) (a3:List SStep):Option (Bool):=(r01_Around.f a0 6).bind fun ta=>(w18_begin.f k (w64 (1+ta)) 0).bind fun tc=>(view_New.f).bind fun te=>cond tc.isNone (some false) ((r18_New.f (⟨#[115,49]⟩:ByteArray) (⟨#[115,50]⟩:ByteArray) (w64 (1+ta)) 0).bind fun tf=>(r10_Made.f k a1 a2).bind fun tg=>(w18_SenderPlays.l0 k a3 tg k 0 0 0 ([]:List RDag) (⟨tf.fSelf,tf.fTo,tf.fN,tf.fQ,tf.fFly,tf.fOn,tf.fTries,tf.fDue⟩:RSnd) (tc.getD default) te).bind (fall fun (pa:Int×Int×Int×Bool×(List RDag)×RSnd×SSnd×VView)=>(w18_lives.f k).bind fun tj=>some tj))
end Go.Proofs.YtmmaijneehmbgaaGreat
