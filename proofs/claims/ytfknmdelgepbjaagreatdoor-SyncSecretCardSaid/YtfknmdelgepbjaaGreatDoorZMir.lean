import Derived.Test.YtfknmdelgepbjaaGreatDoorChecked
import Derived.Test.YtfknmdelgepbjaaGreatDoorConQ
import Derived.Test.YtfknmdelgepbjaaGreatDoorConA6
import Derived.Test.YtfknmdelgepbjaaGreatDoorConC4
import Derived.Lib.Join
import Derived.Eval
set_option linter.all false
set_option maxRecDepth 10000
set_option maxHeartbeats 20000000
namespace Go.Proofs.YtfknmdelgepbjaaGreatDoor
open Go Go.Sp Tryz
abbrev U2:=@Tryz.underlying2
abbrev U3:=@Tryz.underlying3
abbrev U4:=@Tryz.underlying4
abbrev U5:=@Tryz.underlying5
abbrev U9:=@Tryz.underlying9
abbrev KZ:=@Tryz.underlying22
abbrev fI:=@Tryz.underlying23
abbrev U24:=@Tryz.underlying24
abbrev U25:=@Tryz.underlying25
abbrev U26:=@Tryz.underlying26
abbrev U27:=@Tryz.underlying27
abbrev U28:=@Tryz.underlying28
abbrev KP:=@Tryz.underlying30
abbrev AL:=@Tryz.underlying31
abbrev JT:=@Tryz.underlying33
abbrev sS:=@Tryz.underlying34
abbrev rZ:=@Tryz.underlying35
abbrev U37:=@Tryz.underlying37
abbrev qZ:=@Tryz.underlying38
abbrev U40:=@Tryz.underlying40
abbrev KQ:=@Tryz.underlying41
abbrev Bf:=@Tryz.underlying43
abbrev rI:=@Tryz.underlying46
abbrev iq:=@Tryz.underlying52
abbrev DU:=@Tryz.underlying55
abbrev Gd:=@Tryz.underlying56
abbrev EB:=@Tryz.underlying57
abbrev KW:=@Tryz.underlying59
abbrev D3:=@Tryz.underlying63
abbrev Ip:=@Tryz.underlying64
abbrev U66:=@Tryz.underlying66
abbrev dW:=@Tryz.underlying72
abbrev KN:=@Tryz.underlying79
abbrev tI:=@Tryz.underlying81
abbrev AH:=@Tryz.underlying83
abbrev EK:=@Tryz.underlying89
abbrev xD:=@Tryz.underlying91
abbrev KR:=@Tryz.underlying94
abbrev JV:=@Tryz.underlying96
abbrev mJ:=@Tryz.underlying110
abbrev lZ:=@Tryz.underlying113
abbrev Ht:=@Tryz.underlying116
abbrev Be:=@Tryz.underlying118
abbrev z7:=@Tryz.underlying120
abbrev Bh:=@Tryz.underlying156
abbrev EE:=@Tryz.underlying158
abbrev U171:=@Tryz.underlying171
abbrev U174:=@Tryz.underlying174
abbrev J4:=@Tryz.underlying177
abbrev U178:=@Tryz.underlying178
abbrev tB:=@Tryz.underlying181
abbrev HG:=@Tryz.underlying183
abbrev C7:=@Tryz.underlying184
abbrev JF:=@Tryz.underlying186
abbrev U187:=@Tryz.underlying187
abbrev J3:=@Tryz.underlying190
abbrev JW:=@Tryz.underlying192
abbrev U193:=@Tryz.underlying193
abbrev yI:=@Tryz.underlying198
abbrev KG:=@Tryz.underlying201
abbrev Is:=@Tryz.underlying234
abbrev GW:=@Tryz.underlying247
abbrev FK:=@Tryz.underlying248
abbrev U250:=@Tryz.underlying250
abbrev U255:=@Tryz.underlying255
abbrev JE:=@Tryz.underlying257
abbrev oA:=@Tryz.underlying259
abbrev KJ:=@Tryz.underlying261
abbrev wF:=@Tryz.underlying263
abbrev KL:=@Tryz.underlying265
abbrev U266:=@Tryz.underlying266
abbrev HY:=@Tryz.underlying268
abbrev U273:=@Tryz.underlying273
abbrev iZ:=@Tryz.underlying282
abbrev Kl:=@Tryz.underlying294
abbrev np:=@Tryz.underlying299
abbrev U303:=@Tryz.underlying303
abbrev U335:=@Tryz.underlying335
abbrev U336:=@Tryz.underlying336
abbrev U382:=@Tryz.underlying382
abbrev Er:=@Tryz.underlying384
abbrev mX:=@Tryz.checked.mixed
def Cm:List Nat:=[10,100,101,102,103,104,105,106,107,108,109,11,110,111,112,113,114,115,116,117,118,119,12,120,121,122,123,124,125,128,129,13,130,132,134,135,136,137,138,139,14,140,141,142,143,144,145,146,147,148,149,15,150,151,152,153,154,155,156,157,158,159,16,160,161,165,166,167,168,169,17,172,173,174,175,176,177,178,179,18,180,181,182,19,193,20,21,211,212,213,214,215,216,217,218,219,22,220,221,222,223,224,225,226,229,23,230,231,232,233,235,236,239,24,240,241,242,25,254,255,256,257,26,261,262,263,269,27,270,271,276,277,278,279,28,281,285,29,295,296,297,30,31,32,33,34,35,36,37,38,39,40,41,42,43,44,45,46,47,48,49,50,51,52,53,54,55,56,57,58,59,60,62,63,65,66,68,69,70,71,72,73,74,75,76,77,78,79,8,80,81,82,83,84,85,86,87,88,89,9,90,91,92,93,94,95,96,97,98,99]
theorem cL (n:Nat) (h:Cm.contains n=true:=by kernel_rfl):eZ prog n=true:=List.all_eq_true.1 (show Cm.all (fun n=>eZ prog n)=true by kernel_rfl) n (List.contains_iff_mem.1 h)
theorem oU:prog.cellsOf 110=6:=kr
theorem nX:prog.cellsOf 113=2:=kr
theorem HU:prog.cellsOf 116=6:=kr
theorem HT:prog.cellsOf 118=3:=kr
theorem E5:prog.cellsOf 120=4:=kr
theorem zJ:prog.cellsOf 156=2:=kr
theorem Hr:prog.cellsOf 158=2:=kr
theorem c171:prog.cellsOf 171=1:=kr
theorem IF:prog.cellsOf 174=1:=kr
theorem c178:prog.cellsOf 178=1:=kr
theorem c181:prog.cellsOf 181=1:=kr
theorem FL:prog.cellsOf 184=1:=kr
theorem c187:prog.cellsOf 187=1:=kr
theorem zu:prog.cellsOf 198=4:=kr
theorem c2:prog.cellsOf 2=1:=kr
theorem c201:prog.cellsOf 201=1:=kr
theorem c23:prog.cellsOf 23=1:=kr
theorem c248:prog.cellsOf 248=1:=kr
theorem c255:prog.cellsOf 255=1:=kr
theorem c259:prog.cellsOf 259=1:=kr
theorem c263:prog.cellsOf 263=1:=kr
theorem c294:prog.cellsOf 294=5:=kr
theorem nF:prog.cellsOf 299=2:=kr
theorem c3:prog.cellsOf 3=1:=kr
theorem c30:prog.cellsOf 30=5:=kr
theorem c33:prog.cellsOf 33=1:=kr
theorem c335:prog.cellsOf 335=1:=kr
theorem c34:prog.cellsOf 34=1:=kr
theorem c35:prog.cellsOf 35=1:=kr
theorem c37:prog.cellsOf 37=2:=kr
theorem c38:prog.cellsOf 38=1:=kr
theorem c4:prog.cellsOf 4=1:=kr
theorem c40:prog.cellsOf 40=2:=kr
theorem c41:prog.cellsOf 41=1:=kr
theorem Ft:prog.cellsOf 43=8:=kr
theorem c5:prog.cellsOf 5=1:=kr
theorem iT:prog.cellsOf 52=11:=kr
theorem c55:prog.cellsOf 55=1:=kr
theorem c56:prog.cellsOf 56=1:=kr
theorem c57:prog.cellsOf 57=1:=kr
theorem c59:prog.cellsOf 59=4:=kr
theorem c63:prog.cellsOf 63=1:=kr
theorem c64:prog.cellsOf 64=1:=kr
theorem c66:prog.cellsOf 66=4:=kr
theorem c72:prog.cellsOf 72=1:=kr
theorem Jj:prog.cellsOf 79=4:=kr
theorem yh:prog.cellsOf 81=2:=kr
theorem FJ:prog.cellsOf 83=6:=kr
theorem Jf:prog.cellsOf 89=4:=kr
theorem c9:prog.cellsOf 9=1:=kr
theorem AQ:prog.cellsOf 91=6:=kr
theorem c94:prog.cellsOf 94=2:=kr
theorem c96:prog.cellsOf 96=2:=kr
theorem AU:prog.concrete 141=true:=kr
theorem sJ:prog.concrete 143=true:=kr
theorem Jx:prog.concrete 89=true:=kr
theorem eg158:prog.eqGuardType prog.depth 158=false:=kr
theorem eg294:prog.eqGuardType prog.depth 294=false:=kr
theorem Io:prog.eqGuardType prog.depth 52=false:=kr
theorem eg79:prog.eqGuardType prog.depth 79=false:=kr
theorem eg83:prog.eqGuardType prog.depth 83=false:=kr
theorem eg91:prog.eqGuardType prog.depth 91=false:=kr
theorem eg96:prog.eqGuardType prog.depth 96=false:=kr
theorem vL:∃ i,prog.info? 110=some i∧i.size=6∧i.zero=some (.agg #[.string ⟨#[]⟩,.string ⟨#[]⟩,.slice none 0 0,.string ⟨#[]⟩,.string ⟨#[]⟩,.int .i64 0])∧i.bytes=96:=ko kr kr kr
theorem BE:∃ i,prog.info? 113=some i∧i.size=2∧i.zero=some (.agg #[.string ⟨#[]⟩,.slice none 0 0])∧i.bytes=40:=ko kr kr kr
theorem Ga:∃ i,prog.info? 116=some i∧i.size=6∧i.zero=some (.agg #[.int .i64 0,.string ⟨#[]⟩,.string ⟨#[]⟩,.string ⟨#[]⟩,.bool false,.string ⟨#[]⟩])∧i.bytes=80:=ko kr kr kr
theorem JI:∃ i,prog.info? 156=some i∧i.size=2∧i.zero=some (.agg #[.string ⟨#[]⟩,.slice none 0 0])∧i.bytes=40:=ko kr kr kr
theorem JN:∃ i,prog.info? 158=some i∧i.size=2∧i.zero=some (.agg #[.string ⟨#[]⟩,.int .i64 0])∧i.bytes=24:=ko kr kr kr
theorem JJ:∃ i,prog.info? 299=some i∧i.size=2∧i.zero=some (.agg #[.int .i64 0,.string ⟨#[]⟩])∧i.bytes=24:=ko kr kr kr
theorem Hk:∃ i,prog.info? 3=some i∧i.size=1∧i.zero=some (.int .i64 0)∧i.bytes=8:=ko kr kr kr
theorem Ag:∃ i,prog.info? 4=some i∧i.size=1∧i.zero=some (.bool false)∧i.bytes=1:=ko kr kr kr
theorem rN:∃ i,prog.info? 5=some i∧i.size=1∧i.zero=some (.int .u8 0)∧i.bytes=1:=ko kr kr kr
theorem nv:∃ i,prog.info? 52=some i∧i.size=11∧i.zero=some (.agg #[.int .i64 0,.string ⟨#[]⟩,.string ⟨#[]⟩,.string ⟨#[]⟩,.string ⟨#[]⟩,.bool false,.bool false,.int .i64 0,.int .i64 0,.int .i64 0,.int .i64 0])∧i.bytes=112:=ko kr kr kr
theorem inf81:∃ i,prog.info? 81=some i∧i.size=2∧i.zero=some (.agg #[.int .i64 0,.string ⟨#[]⟩])∧i.bytes=24:=ko kr kr kr
theorem zT:∃ i,prog.info? 83=some i∧i.size=6∧i.zero=some (.agg #[.string ⟨#[]⟩,.string ⟨#[]⟩,.string ⟨#[]⟩,.bool false,.int .i64 0,.string ⟨#[]⟩])∧i.bytes=80:=ko kr kr kr
theorem zF:∃ i,prog.info? 9=some i∧i.size=1∧i.zero=some (.string ⟨#[]⟩)∧i.bytes=16:=ko kr kr kr
theorem inf91:∃ i,prog.info? 91=some i∧i.size=6∧i.zero=some (.agg #[.string ⟨#[]⟩,.string ⟨#[]⟩,.string ⟨#[]⟩,.bool false,.int .i64 0,.string ⟨#[]⟩])∧i.bytes=80:=ko kr kr kr
theorem inf94:∃ i,prog.info? 94=some i∧i.size=2∧i.zero=some (.agg #[.string ⟨#[]⟩,.slice none 0 0])∧i.bytes=40:=ko kr kr kr
theorem inf96:∃ i,prog.info? 96=some i∧i.size=2∧i.zero=some (.agg #[.string ⟨#[]⟩,.int .i64 0])∧i.bytes=24:=ko kr kr kr
theorem GL:FA prog 110 0 0:=⟨_,_,_,_,mJ,rfl,U9,c9,dc,rfl⟩
theorem CY:FA prog 110 2 2:=⟨_,_,_,_,mJ,rfl,dW,c72,dc,rfl⟩
theorem yS:FA prog 110 3 3:=⟨_,_,_,_,mJ,rfl,U9,c9,dc,rfl⟩
theorem BZ:FA prog 110 5 5:=⟨_,_,_,_,mJ,rfl,U3,c3,dc,rfl⟩
theorem yd:FA prog 113 0 0:=⟨_,_,_,_,lZ,rfl,U9,c9,dc,rfl⟩
theorem Cz:FA prog 156 0 0:=⟨_,_,_,_,Bh,rfl,U9,c9,dc,rfl⟩
theorem CF:FA prog 156 1 1:=⟨_,_,_,_,Bh,rfl,dW,c72,dc,rfl⟩
theorem Cg:FA prog 177 0 0:=⟨_,_,_,_,J4,rfl,U174,IF,dc,rfl⟩
theorem Hn:FA prog 177 1 1:=⟨_,_,_,_,J4,rfl,U171,c171,dc,rfl⟩
theorem Cp:FA prog 183 0 0:=⟨_,_,_,_,HG,rfl,U178,c178,dc,rfl⟩
theorem mV:FA prog 183 1 1:=⟨_,_,_,_,HG,rfl,dW,c72,dc,rfl⟩
theorem yW:FA prog 183 2 2:=⟨_,_,_,_,HG,rfl,tB,c181,dc,rfl⟩
theorem G1:FA prog 186 0 0:=⟨_,_,_,_,JF,rfl,C7,FL,dc,rfl⟩
theorem rB:FA prog 190 0 0:=⟨_,_,_,_,J3,rfl,fI,c23,dc,rfl⟩
theorem B7:FA prog 190 1 1:=⟨_,_,_,_,J3,rfl,U187,c187,dc,rfl⟩
theorem tR:FA prog 192 0 0:=⟨_,_,_,_,JW,rfl,fI,c23,dc,rfl⟩
theorem Ce:FA prog 192 1 1:=⟨_,_,_,_,JW,rfl,U187,c187,dc,rfl⟩
theorem G3:FA prog 198 0 0:=⟨_,_,_,_,yI,rfl,U3,c3,dc,rfl⟩
theorem Hw:FA prog 198 1 1:=⟨_,_,_,_,yI,rfl,U3,c3,dc,rfl⟩
theorem CG:FA prog 198 2 2:=⟨_,_,_,_,yI,rfl,qZ,c38,dc,rfl⟩
theorem Ie:FA prog 198 3 3:=⟨_,_,_,_,yI,rfl,U3,c3,dc,rfl⟩
theorem HR:FA prog 247 0 0:=⟨_,_,_,_,GW,rfl,U3,c3,dc,rfl⟩
theorem oL:FA prog 247 1 1:=⟨_,_,_,_,GW,rfl,fI,c23,dc,rfl⟩
theorem C0:FA prog 247 2 2:=⟨_,_,_,_,GW,rfl,U3,c3,dc,rfl⟩
theorem tW:FA prog 250 0 0:=⟨_,_,_,_,U250,rfl,FK,c248,dc,rfl⟩
theorem yR:FA prog 257 0 0:=⟨_,_,_,_,JE,rfl,U255,c255,dc,rfl⟩
theorem rU:FA prog 257 1 1:=⟨_,_,_,_,JE,rfl,U2,c2,dc,rfl⟩
theorem hM:FA prog 261 0 0:=⟨_,_,_,_,KJ,rfl,oA,c259,dc,rfl⟩
theorem tX:FA prog 261 1 1:=⟨_,_,_,_,KJ,rfl,tB,c181,dc,rfl⟩
theorem GM:FA prog 265 0 0:=⟨_,_,_,_,KL,rfl,U9,c9,dc,rfl⟩
theorem tY:FA prog 265 1 1:=⟨_,_,_,_,KL,rfl,wF,c263,dc,rfl⟩
theorem tU:FA prog 268 0 0:=⟨_,_,_,_,HY,rfl,mJ,oU,dc,rfl⟩
theorem yb:FA prog 268 1 6:=⟨_,_,_,_,HY,rfl,U3,c3,dc,rfl⟩
theorem Ir:FA prog 268 2 7:=⟨_,_,_,_,HY,rfl,U4,c4,dc,rfl⟩
theorem J9:FA prog 52 6 6:=⟨_,_,_,_,iq,rfl,U4,c4,dc,rfl⟩
theorem Fa:FA prog 83 0 0:=⟨_,_,_,_,AH,rfl,KN,Jj,dc,rfl⟩
theorem Fw:FA prog 83 1 4:=⟨_,_,_,_,AH,rfl,tI,yh,dc,rfl⟩
theorem KD:FA prog 91 0 0:=⟨_,_,_,_,xD,rfl,EK,Jf,dc,rfl⟩
theorem JS:FA prog 91 1 4:=⟨_,_,_,_,xD,rfl,tI,yh,dc,rfl⟩
theorem sc201:SC prog 201:=⟨_,KG,rfl⟩
theorem IC:SC prog 3:=⟨_,U3,rfl⟩
theorem Jy:SC prog 336:=⟨_,U336,rfl⟩
theorem sc38:SC prog 38:=⟨_,qZ,rfl⟩
theorem sc4:SC prog 4:=⟨_,U4,rfl⟩
theorem IP:SC prog 72:=⟨_,dW,rfl⟩
theorem qt:SC prog 9:=⟨_,U9,rfl⟩
theorem IW:SG prog 110 6:=⟨_,mJ,rfl,oU⟩
theorem I1:SG prog 113 2:=⟨_,lZ,rfl,nX⟩
theorem Jh:SG prog 158 2:=⟨_,EE,rfl,Hr⟩
theorem wU:SG prog 52 11:=⟨_,iq,rfl,iT⟩
theorem sg79:SG prog 79 4:=⟨_,KN,rfl,Jj⟩
theorem sg81:SG prog 81 2:=⟨_,tI,rfl,yh⟩
theorem sg83:SG prog 83 6:=⟨_,AH,rfl,FJ⟩
theorem sg89:SG prog 89 4:=⟨_,EK,rfl,Jf⟩
theorem sg91:SG prog 91 6:=⟨_,xD,rfl,AQ⟩
theorem Ko:SG prog 94 2:=⟨_,KR,rfl,c94⟩
theorem KE:SG prog 96 2:=⟨_,JV,rfl,c96⟩
theorem sz113:SZ prog 113 2:=⟨_,lZ,nX⟩
theorem sz118:SZ prog 118 3:=⟨_,Be,HT⟩
theorem rS:SZ prog 23 1:=⟨_,fI,c23⟩
theorem I8:SZ prog 259 1:=⟨_,oA,c259⟩
theorem sz30:SZ prog 30 5:=⟨_,KP,c30⟩
theorem sz33:SZ prog 33 1:=⟨_,JT,c33⟩
theorem sz34:SZ prog 34 1:=⟨_,sS,c34⟩
theorem AO:SZ prog 35 1:=⟨_,rZ,c35⟩
theorem Kg:SZ prog 38 1:=⟨_,qZ,c38⟩
theorem sz41:SZ prog 41 1:=⟨_,KQ,c41⟩
theorem sz43:SZ prog 43 8:=⟨_,Bf,Ft⟩
theorem sz55:SZ prog 55 1:=⟨_,DU,c55⟩
theorem sz56:SZ prog 56 1:=⟨_,Gd,c56⟩
theorem sz57:SZ prog 57 1:=⟨_,EB,c57⟩
theorem sz63:SZ prog 63 1:=⟨_,D3,c63⟩
theorem sz64:SZ prog 64 1:=⟨_,Ip,c64⟩
theorem G4:SZ prog 72 1:=⟨_,dW,c72⟩
theorem Fu:SZ prog 81 2:=⟨_,tI,yh⟩
theorem sz9:SZ prog 9 1:=⟨_,U9,c9⟩
theorem zy:SZ prog 91 6:=⟨_,xD,AQ⟩
theorem IX:kn prog 110=true:=kr
theorem Fj:kn prog 113=true:=kr
theorem Ez:kn prog 116=true:=kr
theorem FU:kn prog 118=true:=kr
theorem FP:kn prog 120=true:=kr
theorem pl177:kn prog 177=true:=kr
theorem pl183:kn prog 183=true:=kr
theorem pl186:kn prog 186=true:=kr
theorem pl190:kn prog 190=true:=kr
theorem pl192:kn prog 192=true:=kr
theorem pl247:kn prog 247=true:=kr
theorem pl250:kn prog 250=true:=kr
theorem pl257:kn prog 257=true:=kr
theorem pl261:kn prog 261=true:=kr
theorem pl265:kn prog 265=true:=kr
theorem pl268:kn prog 268=true:=kr
theorem pl294:kn prog 294=true:=kr
theorem pl299:kn prog 299=true:=kr
theorem pl30:kn prog 30=true:=kr
theorem pl33:kn prog 33=true:=kr
theorem HA:kn prog 43=true:=kr
theorem Ba:kn prog 52=true:=kr
theorem J6:kn prog 59=true:=kr
theorem pl66:kn prog 66=true:=kr
theorem pl79:kn prog 79=true:=kr
theorem FO:kn prog 81=true:=kr
theorem pl83:kn prog 83=true:=kr
theorem Ia:kn prog 89=true:=kr
theorem pl91:kn prog 91=true:=kr
theorem pl94:kn prog 94=true:=kr
theorem pl96:kn prog 96=true:=kr
theorem st158:prog.stoodInHeld 158=false:=kr
theorem st294:prog.stoodInHeld 294=false:=kr
theorem st52:prog.stoodInHeld 52=false:=kr
theorem st79:prog.stoodInHeld 79=false:=kr
theorem st81:prog.stoodInHeld 81=false:=kr
theorem st83:prog.stoodInHeld 83=false:=kr
theorem st89:prog.stoodInHeld 89=false:=kr
theorem st91:prog.stoodInHeld 91=false:=kr
theorem st96:prog.stoodInHeld 96=false:=kr
theorem xf170:(Extern.findNext Tryz.f170).isNone=true:=kr
theorem xf210:(Extern.findNext Tryz.f210).isNone=true:=kr
theorem xf237:(Extern.findNext Tryz.f237).isNone=true:=kr
theorem xf260:(Extern.findNext Tryz.f260).isNone=true:=kr
theorem xf265:(Extern.findNext Tryz.f265).isNone=true:=kr
theorem xf268:(Extern.findNext Tryz.f268).isNone=true:=kr
theorem xf298:(Extern.findNext Tryz.f298).isNone=true:=kr
theorem xg170:Extern.find Tryz.f170=some (Extern.SlicesOverlaps.overlaps Tryz.f170.params Tryz.f170.resultTypes):=by rfl
theorem xg210:Extern.find Tryz.f210=some Extern.Atomic.storeT:=by rfl
theorem xg237:Extern.find Tryz.f237=some (Extern.Atomic.loadT (.int .i64)):=by rfl
theorem xg260:Extern.find Tryz.f260=some Extern.BytealgCompare.compare:=by rfl
theorem xg265:Extern.find Tryz.f265=some (Extern.Atomic.casT (.int .i64)):=by rfl
theorem xg268:Extern.find Tryz.f268=some Extern.BytealgCount.count:=by rfl
theorem xg298:Extern.find Tryz.f298=some Extern.BytealgIndexByte.indexByte:=by rfl
theorem E6:lz prog 110=some (.agg #[.string ⟨#[]⟩,.string ⟨#[]⟩,.slice none 0 0,.string ⟨#[]⟩,.string ⟨#[]⟩,.int .i64 0]):=kr
theorem A7:lz prog 113=some (.agg #[.string ⟨#[]⟩,.slice none 0 0]):=kr
theorem z116:lz prog 116=some (.agg #[.int .i64 0,.string ⟨#[]⟩,.string ⟨#[]⟩,.string ⟨#[]⟩,.bool false,.string ⟨#[]⟩]):=kr
theorem H9:lz prog 118=some (.agg #[.int .i64 0,.slice none 0 0,.int .i64 0]):=kr
theorem HI:lz prog 120=some (.agg #[.slice none 0 0,.int .i64 0,.slice none 0 0,.int .i64 0]):=kr
theorem z156:lz prog 156=some (.agg #[.string ⟨#[]⟩,.slice none 0 0]):=kr
theorem z158:lz prog 158=some (.agg #[.string ⟨#[]⟩,.int .i64 0]):=kr
theorem z177:lz prog 177=some (.agg #[.pointer none,.pointer none]):=kr
theorem z183:lz prog 183=some (.agg #[.pointer none,.slice none 0 0,.map none]):=kr
theorem z186:lz prog 186=some (.agg #[.map none]):=kr
theorem z190:lz prog 190=some (.agg #[.slice none 0 0,.pointer none]):=kr
theorem z192:lz prog 192=some (.agg #[.slice none 0 0,.pointer none]):=kr
theorem z193:lz prog 193=some (.pointer none):=kr
theorem z201:lz prog 201=some .nilFunc:=kr
theorem z247:lz prog 247=some (.agg #[.int .i64 0,.slice none 0 0,.int .i64 0]):=kr
theorem z250:lz prog 250=some (.agg #[.map none]):=kr
theorem z257:lz prog 257=some (.agg #[.int .i64 0,.int .i64 0]):=kr
theorem z261:lz prog 261=some (.agg #[.slice none 0 0,.map none]):=kr
theorem z265:lz prog 265=some (.agg #[.string ⟨#[]⟩,.map none]):=kr
theorem BN:lz prog 266=some (.pointer none):=kr
theorem z268:lz prog 268=some (.agg #[.string ⟨#[]⟩,.string ⟨#[]⟩,.slice none 0 0,.string ⟨#[]⟩,.string ⟨#[]⟩,.int .i64 0,.int .i64 0,.bool false]):=kr
theorem z294:lz prog 294=some (.agg #[.int .i64 0,.string ⟨#[]⟩,.string ⟨#[]⟩,.string ⟨#[]⟩,.bool false]):=kr
theorem Kh:lz prog 299=some (.agg #[.int .i64 0,.string ⟨#[]⟩]):=kr
theorem z3:lz prog 3=some (.int .i64 0):=kr
theorem z30:lz prog 30=some (.agg #[.pointer none,.pointer none,.pointer none,.pointer none,.pointer none]):=kr
theorem z303:lz prog 303=some (.agg #[.int .i64 0,.int .i64 0]):=kr
theorem z33:lz prog 33=some (.agg #[.slice none 0 0]):=kr
theorem z336:lz prog 336=some .nilFunc:=kr
theorem z37:lz prog 37=some (.agg #[.slice none 0 0,.slice none 0 0]):=kr
theorem z382:lz prog 382=some (.agg #[.nilFunc,.nilFunc,.nilFunc]):=kr
theorem z4:lz prog 4=some (.bool false):=kr
theorem z40:lz prog 40=some (.agg #[.slice none 0 0,.slice none 0 0]):=kr
theorem z43:lz prog 43=some (.agg #[.slice none 0 0,.slice none 0 0,.slice none 0 0,.slice none 0 0,.slice none 0 0,.slice none 0 0,.slice none 0 0,.int .i64 0]):=kr
theorem z5:lz prog 5=some (.int .u8 0):=kr
theorem uZ:lz prog 52=some (.agg #[.int .i64 0,.string ⟨#[]⟩,.string ⟨#[]⟩,.string ⟨#[]⟩,.string ⟨#[]⟩,.bool false,.bool false,.int .i64 0,.int .i64 0,.int .i64 0,.int .i64 0]):=kr
theorem z59:lz prog 59=some (.agg #[.int .i64 0,.slice none 0 0,.slice none 0 0,.slice none 0 0]):=kr
theorem z66:lz prog 66=some (.agg #[.int .i64 0,.slice none 0 0,.slice none 0 0,.slice none 0 0]):=kr
theorem z79:lz prog 79=some (.agg #[.string ⟨#[]⟩,.string ⟨#[]⟩,.string ⟨#[]⟩,.bool false]):=kr
theorem IL:lz prog 81=some (.agg #[.int .i64 0,.string ⟨#[]⟩]):=kr
theorem z83:lz prog 83=some (.agg #[.string ⟨#[]⟩,.string ⟨#[]⟩,.string ⟨#[]⟩,.bool false,.int .i64 0,.string ⟨#[]⟩]):=kr
theorem z89:lz prog 89=some (.agg #[.string ⟨#[]⟩,.string ⟨#[]⟩,.string ⟨#[]⟩,.bool false]):=kr
theorem z9:lz prog 9=some (.string ⟨#[]⟩):=kr
theorem z91:lz prog 91=some (.agg #[.string ⟨#[]⟩,.string ⟨#[]⟩,.string ⟨#[]⟩,.bool false,.int .i64 0,.string ⟨#[]⟩]):=kr
theorem z94:lz prog 94=some (.agg #[.string ⟨#[]⟩,.slice none 0 0]):=kr
theorem z96:lz prog 96=some (.agg #[.string ⟨#[]⟩,.int .i64 0]):=kr
theorem zw:ZC prog 110 [eq (.string eE),eq (.string eE),eq (.slice none 0 0),eq (.string eE),eq (.string eE),eq (.int .i64 0)]:=⟨_,E6,rfl⟩
theorem ot:ZC prog 113 [eq (.string eE),eq (.slice none 0 0)]:=⟨_,A7,rfl⟩
theorem zc116:ZC prog 116 [eq (.int .i64 0),eq (.string eE),eq (.string eE),eq (.string eE),eq (.bool false),eq (.string eE)]:=⟨_,z116,rfl⟩
theorem I9:ZC prog 118 [eq (.int .i64 0),eq (.slice none 0 0),eq (.int .i64 0)]:=⟨_,H9,rfl⟩
theorem I2:ZC prog 120 [eq (.slice none 0 0),eq (.int .i64 0),eq (.slice none 0 0),eq (.int .i64 0)]:=⟨_,HI,rfl⟩
theorem zc294:ZC prog 294 [eq (.int .i64 0),eq (.string eE),eq (.string eE),eq (.string eE),eq (.bool false)]:=⟨_,z294,rfl⟩
theorem Gl:ZC prog 299 [eq (.int .i64 0),eq (.string eE)]:=⟨_,Kh,rfl⟩
theorem Iz:ZC prog 30 [eq (.pointer none),eq (.pointer none),eq (.pointer none),eq (.pointer none),eq (.pointer none)]:=⟨_,z30,rfl⟩
theorem Ic:ZC prog 33 [eq (.slice none 0 0)]:=⟨_,z33,rfl⟩
theorem zc336:ZC prog 336 [eq .nilFunc]:=⟨_,z336,rfl⟩
theorem Kq:ZC prog 37 [eq (.slice none 0 0),eq (.slice none 0 0)]:=⟨_,z37,rfl⟩
theorem Kj:ZC prog 40 [eq (.slice none 0 0),eq (.slice none 0 0)]:=⟨_,z40,rfl⟩
theorem BG:ZC prog 43 [eq (.slice none 0 0),eq (.slice none 0 0),eq (.slice none 0 0),eq (.slice none 0 0),eq (.slice none 0 0),eq (.slice none 0 0),eq (.slice none 0 0),eq (.int .i64 0)]:=⟨_,z43,rfl⟩
theorem s9:ZC prog 52 [eq (.int .i64 0),eq (.string eE),eq (.string eE),eq (.string eE),eq (.string eE),eq (.bool false),eq (.bool false),eq (.int .i64 0),eq (.int .i64 0),eq (.int .i64 0),eq (.int .i64 0)]:=⟨_,uZ,rfl⟩
theorem IS:ZC prog 59 [eq (.int .i64 0),eq (.slice none 0 0),eq (.slice none 0 0),eq (.slice none 0 0)]:=⟨_,z59,rfl⟩
theorem zc66:ZC prog 66 [eq (.int .i64 0),eq (.slice none 0 0),eq (.slice none 0 0),eq (.slice none 0 0)]:=⟨_,z66,rfl⟩
theorem zc79:ZC prog 79 [eq (.string eE),eq (.string eE),eq (.string eE),eq (.bool false)]:=⟨_,z79,rfl⟩
theorem tA:ZC prog 81 [eq (.int .i64 0),eq (.string eE)]:=⟨_,IL,rfl⟩
theorem zc89:ZC prog 89 [eq (.string eE),eq (.string eE),eq (.string eE),eq (.bool false)]:=⟨_,z89,rfl⟩
theorem zc91:ZC prog 91 [eq (.string eE),eq (.string eE),eq (.string eE),eq (.bool false),eq (.int .i64 0),eq (.string eE)]:=⟨_,z91,rfl⟩
theorem zc94:ZC prog 94 [eq (.string eE),eq (.slice none 0 0)]:=⟨_,z94,rfl⟩
structure ak where
 aG:Int
 aa:BA
 ai:BA
 bC:BA
 ae:BA
 ao:Bool
 jS:Bool
 b8:Int
 aM:Int
 aS:Int
 aY:Int
 deriving DecidableEq,Inhabited
abbrev ak.enc (x:ak):Cs:=[eq (.int .i64 x.aG),eq (.string x.aa),eq (.string x.ai),eq (.string x.bC),eq (.string x.ae),eq (.bool x.ao),eq (.bool x.jS),eq (.int .i64 x.b8),eq (.int .i64 x.aM),eq (.int .i64 x.aS),eq (.int .i64 x.aY)]
abbrev ak.K:Kd ak:=⟨11,default,ak.enc,fun _=>rfl,fun _=>(aj (ah rfl) (aj (ah rfl) (aj (ah rfl) (aj (ah rfl) (aj (ah rfl) (aj (ah rfl) (aj (ah rfl) (aj (ah rfl) (aj (ah rfl) (aj (ah rfl) (aj (ah rfl) bX)))))))))))⟩
structure jk where
 dU:Int
 fl:List ak
 qO:Int
 deriving DecidableEq,Inhabited
abbrev jk.enc (x:jk):Cs:=[eq (.int .i64 x.dU),sl ak.K x.fl,eq (.int .i64 x.qO)]
abbrev jk.K:Kd jk:=⟨3,default,jk.enc,fun _=>rfl,fun _=>(aj (ah rfl) (aj dM (aj (ah rfl) bX)))⟩
structure bx where
 aa:BA
 ai:BA
 ae:BA
 ao:Bool
 deriving DecidableEq,Inhabited
abbrev bx.enc (x:bx):Cs:=[eq (.string x.aa),eq (.string x.ai),eq (.string x.ae),eq (.bool x.ao)]
abbrev bx.K:Kd bx:=⟨4,default,bx.enc,fun _=>rfl,fun _=>(aj (ah rfl) (aj (ah rfl) (aj (ah rfl) (aj (ah rfl) bX))))⟩
structure Pos where
 bq:Int
 cJ:BA
 deriving DecidableEq,Inhabited
abbrev Pos.enc (x:Pos):Cs:=[eq (.int .i64 x.bq),eq (.string x.cJ)]
abbrev Pos.K:Kd Pos:=⟨2,default,Pos.enc,fun _=>rfl,fun _=>(aj (ah rfl) (aj (ah rfl) bX))⟩
structure jO where
 iH:List (bx×Pos)
 deriving DecidableEq,Inhabited
structure jF where
 qn:jO
 pQ:jk
 deriving DecidableEq,Inhabited
structure Bz where
 fv:Int
 deriving DecidableEq,Inhabited
abbrev Bz.enc (x:Bz):Cs:=[eq (.int .i64 x.fv)]
abbrev Bz.K:Kd Bz:=⟨1,default,Bz.enc,fun _=>rfl,fun _=>(aj (ah rfl) bX)⟩
structure kI where
 fn:Bz
 dU:Int
 deriving DecidableEq,Inhabited
abbrev kI.enc (x:kI):Cs:=[eq (.int .i64 x.fn.fv),eq (.int .i64 x.dU)]
abbrev kI.K:Kd kI:=⟨2,default,kI.enc,fun _=>rfl,fun _=>(aj (ah rfl) (aj (ah rfl) bX))⟩
structure S where
 deriving DecidableEq,Inhabited
abbrev S.enc (x:S):Cs:=[]
abbrev S.K:Kd S:=⟨0,default,S.enc,fun _=>rfl,fun _=>bX⟩
structure cH where
 iH:kI
 eI:List BA
 nZ:List (BA×Int)
 deriving DecidableEq,Inhabited
structure Event where
 cJ:BA
 aa:BA
 ag:List BA
 ae:BA
 ai:BA
 bR:Int
 deriving DecidableEq,Inhabited
abbrev Event.enc (x:Event):Cs:=[eq (.string x.cJ),eq (.string x.aa),sl aH x.ag,eq (.string x.ae),eq (.string x.ai),eq (.int .i64 x.bR)]
abbrev Event.K:Kd Event:=⟨6,default,Event.enc,fun _=>rfl,fun _=>(aj (ah rfl) (aj (ah rfl) (aj dM (aj (ah rfl) (aj (ah rfl) (aj (ah rfl) bX))))))⟩
structure aW where
 fe:Event
 cN:Int
 kc:Bool
 deriving DecidableEq,Inhabited
abbrev aW.enc (x:aW):Cs:=[eq (.string x.fe.cJ),eq (.string x.fe.aa),sl aH x.fe.ag,eq (.string x.fe.ae),eq (.string x.fe.ai),eq (.int .i64 x.fe.bR),eq (.int .i64 x.cN),eq (.bool x.kc)]
abbrev aW.K:Kd aW:=⟨8,default,aW.enc,fun _=>rfl,fun _=>(aj (ah rfl) (aj (ah rfl) (aj dM (aj (ah rfl) (aj (ah rfl) (aj (ah rfl) (aj (ah rfl) (aj (ah rfl) bX))))))))⟩
structure bf where
 cR:BA
 aq:List (BA×aW)
 deriving DecidableEq,Inhabited
structure aL where
 br:List (BA×bf)
 deriving DecidableEq,Inhabited
structure di where
 fY:Int
 bY:BA
 deriving DecidableEq,Inhabited
abbrev di.enc (x:di):Cs:=[eq (.int .i64 x.fY),eq (.string x.bY)]
abbrev di.K:Kd di:=⟨2,default,di.enc,fun _=>rfl,fun _=>(aj (ah rfl) (aj (ah rfl) bX))⟩
structure aN where
 fl:List di
 iH:List (BA×Int)
 deriving DecidableEq,Inhabited
structure bZ where
 fl:List ak
 gL:aN
 deriving DecidableEq,Inhabited
structure cI where
 fl:List ak
 eY:aN
 deriving DecidableEq,Inhabited
structure aQ where
 aa:BA
 fL:List Event
 deriving DecidableEq,Inhabited
abbrev aQ.enc (x:aQ):Cs:=[eq (.string x.aa),sl Event.K x.fL]
abbrev aQ.K:Kd aQ:=⟨2,default,aQ.enc,fun _=>rfl,fun _=>(aj (ah rfl) (aj dM bX))⟩
structure bF where
 fD:List aQ
 deriving DecidableEq,Inhabited
abbrev bF.enc (x:bF):Cs:=[sl aQ.K x.fD]
abbrev bF.K:Kd bF:=⟨1,default,bF.enc,fun _=>rfl,fun _=>(aj dM bX)⟩
structure Src where
 cO:aL
 ay:jF
 av:bZ
 aU:cI
 gH:cH
 deriving DecidableEq,Inhabited
structure MK where
 fK:bx
 fY:Pos
 deriving DecidableEq,Inhabited
abbrev MK.enc (x:MK):Cs:=[eq (.string x.fK.aa),eq (.string x.fK.ai),eq (.string x.fK.ae),eq (.bool x.fK.ao),eq (.int .i64 x.fY.bq),eq (.string x.fY.cJ)]
abbrev MK.K:Kd MK:=⟨6,default,MK.enc,fun _=>rfl,fun _=>(aj (ah rfl) (aj (ah rfl) (aj (ah rfl) (aj (ah rfl) (aj (ah rfl) (aj (ah rfl) bX))))))⟩
structure kE where
 fL:List ak
 eF:List Bool
 deriving DecidableEq,Inhabited
abbrev kE.enc (x:kE):Cs:=[sl ak.K x.fL,sl dj x.eF]
abbrev kE.K:Kd kE:=⟨2,default,kE.enc,fun _=>rfl,fun _=>(aj dM (aj dM bX))⟩
structure lD where
 fL:List ak
 eF:List Int
 deriving DecidableEq,Inhabited
abbrev lD.enc (x:lD):Cs:=[sl ak.K x.fL,sl (bG .i64) x.eF]
abbrev lD.K:Kd lD:=⟨2,default,lD.enc,fun _=>rfl,fun _=>(aj dM (aj dM bX))⟩
structure kZ where
 aG:Int
 fK:bx
 mO:BA
 deriving DecidableEq,Inhabited
abbrev kZ.enc (x:kZ):Cs:=[eq (.int .i64 x.aG),eq (.string x.fK.aa),eq (.string x.fK.ai),eq (.string x.fK.ae),eq (.bool x.fK.ao),eq (.string x.mO)]
abbrev kZ.K:Kd kZ:=⟨6,default,kZ.enc,fun _=>rfl,fun _=>(aj (ah rfl) (aj (ah rfl) (aj (ah rfl) (aj (ah rfl) (aj (ah rfl) (aj (ah rfl) bX))))))⟩
structure dt where
 fV:bF
 fM:List MK
 fT:kE
 fP:lD
 fL:List kZ
 bQ:Int
 deriving DecidableEq,Inhabited
abbrev dt.enc (x:dt):Cs:=[sl aQ.K x.fV.fD,sl MK.K x.fM,sl ak.K x.fT.fL,sl dj x.fT.eF,sl ak.K x.fP.fL,sl (bG .i64) x.fP.eF,sl kZ.K x.fL,eq (.int .i64 x.bQ)]
abbrev dt.K:Kd dt:=⟨8,default,dt.enc,fun _=>rfl,fun _=>(aj dM (aj dM (aj dM (aj dM (aj dM (aj dM (aj dM (aj (ah rfl) bX))))))))⟩
structure dw where
 ai:Int
 bR:Int
 ag:List Int
 ae:Int
 deriving DecidableEq,Inhabited
abbrev dw.enc (x:dw):Cs:=[eq (.int .i64 x.ai),eq (.int .i64 x.bR),sl (bG .i64) x.ag,eq (.int .i64 x.ae)]
abbrev dw.K:Kd dw:=⟨4,default,dw.enc,fun _=>rfl,fun _=>(aj (ah rfl) (aj (ah rfl) (aj dM (aj (ah rfl) bX))))⟩
structure nH where
 o8:Int
 fL:List ak
 pK:Int
 deriving DecidableEq,Inhabited
abbrev nH.enc (x:nH):Cs:=[eq (.int .i64 x.o8),sl ak.K x.fL,eq (.int .i64 x.pK)]
abbrev nH.K:Kd nH:=⟨3,default,nH.enc,fun _=>rfl,fun _=>(aj (ah rfl) (aj dM (aj (ah rfl) bX)))⟩
structure ql where
 fL:List MK
 fP:nH
 deriving DecidableEq,Inhabited
abbrev ql.enc (x:ql):Cs:=[sl MK.K x.fL,eq (.int .i64 x.fP.o8),sl ak.K x.fP.fL,eq (.int .i64 x.fP.pK)]
abbrev ql.K:Kd ql:=⟨4,default,ql.enc,fun _=>rfl,fun _=>(aj dM (aj (ah rfl) (aj dM (aj (ah rfl) bX))))⟩
structure uA where
 aG:Int
 aa:BA
 ai:BA
 ae:BA
 ao:Bool
 deriving DecidableEq,Inhabited
abbrev uA.enc (x:uA):Cs:=[eq (.int .i64 x.aG),eq (.string x.aa),eq (.string x.ai),eq (.string x.ae),eq (.bool x.ao)]
abbrev uA.K:Kd uA:=⟨5,default,uA.enc,fun _=>rfl,fun _=>(aj (ah rfl) (aj (ah rfl) (aj (ah rfl) (aj (ah rfl) (aj (ah rfl) bX)))))⟩
structure eQ where
 bY:bx
 fY:Pos
 deriving DecidableEq,Inhabited
abbrev eQ.enc (x:eQ):Cs:=[eq (.string x.bY.aa),eq (.string x.bY.ai),eq (.string x.bY.ae),eq (.bool x.bY.ao),eq (.int .i64 x.fY.bq),eq (.string x.fY.cJ)]
abbrev eQ.K:Kd eQ:=⟨6,default,eQ.enc,fun _=>rfl,fun _=>(aj (ah rfl) (aj (ah rfl) (aj (ah rfl) (aj (ah rfl) (aj (ah rfl) (aj (ah rfl) bX))))))⟩
structure eA where
 aa:BA
 kP:List BA
 deriving DecidableEq,Inhabited
abbrev eA.enc (x:eA):Cs:=[eq (.string x.aa),sl aH x.kP]
abbrev eA.K:Kd eA:=⟨2,default,eA.enc,fun _=>rfl,fun _=>(aj (ah rfl) (aj dM bX))⟩
structure eR where
 ai:BA
 aM:Int
 deriving DecidableEq,Inhabited
abbrev eR.enc (x:eR):Cs:=[eq (.string x.ai),eq (.int .i64 x.aM)]
abbrev eR.K:Kd eR:=⟨2,default,eR.enc,fun _=>rfl,fun _=>(aj (ah rfl) (aj (ah rfl) bX))⟩
structure sX where
 kO:Int
 ay:List eQ
 av:List eA
 bL:List eR
 deriving DecidableEq,Inhabited
abbrev sX.enc (x:sX):Cs:=[eq (.int .i64 x.kO),sl eQ.K x.ay,sl eA.K x.av,sl eR.K x.bL]
abbrev sX.K:Kd sX:=⟨4,default,sX.enc,fun _=>rfl,fun _=>(aj (ah rfl) (aj dM (aj dM (aj dM bX))))⟩
structure o0 where
 kO:Int
 ay:List MK
 av:List eA
 bL:List eR
 deriving DecidableEq,Inhabited
abbrev o0.enc (x:o0):Cs:=[eq (.int .i64 x.kO),sl MK.K x.ay,sl eA.K x.av,sl eR.K x.bL]
abbrev o0.K:Kd o0:=⟨4,default,o0.enc,fun _=>rfl,fun _=>(aj (ah rfl) (aj dM (aj dM (aj dM bX))))⟩
inductive jw where
 | nil
 | d89 (x:bx)
 | d141 (x:BA)
 | d143 (x:BA)
 deriving DecidableEq,Inhabited
def jw.p:jw→VP
 | .nil=>eq .nilIface
 | .d89 x=>ifp 89 (agg (bx.enc x))
 | .d141 x=>ifp 141 (eq (.string x))
 | .d143 x=>ifp 143 (eq (.string x))
def jw.g89:jw→Option bx
 | .d89 x=>some x
 | _=>none
def jw.rk:jw→Option BA
 | .d141 x=>some x
 | _=>none
def jw.rT:jw→Option BA
 | .d143 x=>some x
 | _=>none
theorem jw.Ii (d:jw):∀ R v w,(jw.p d).p R v→∃ u,(Instr.typeAssert v 20 89 true).run prog w = .ok (.tuple #[u,.bool (jw.g89 d).isSome]) w∧(agg (bx.enc ((jw.g89 d).getD (⟨eE,eE,eE,false⟩:bx)))).p R u:=by
 intro R v w h
 cases d with
 | nil=>obtain rfl:v = .nilIface:=h; exact ⟨.agg #[.string ⟨#[]⟩,.string ⟨#[]⟩,.string ⟨#[]⟩,.bool false],kr,⟨_,rfl,Cs.eqz rfl⟩⟩
 | d89 x=>obtain ⟨u,rfl,h⟩:=h; exact ⟨u,kr,h⟩
 | d141 x=>obtain ⟨u,rfl,h⟩:=h; exact ⟨.agg #[.string ⟨#[]⟩,.string ⟨#[]⟩,.string ⟨#[]⟩,.bool false],kr,⟨_,rfl,Cs.eqz rfl⟩⟩
 | d143 x=>obtain ⟨u,rfl,h⟩:=h; exact ⟨.agg #[.string ⟨#[]⟩,.string ⟨#[]⟩,.string ⟨#[]⟩,.bool false],kr,⟨_,rfl,Cs.eqz rfl⟩⟩
theorem jw.Fl (d:jw):∀ R v w,(jw.p d).p R v→∃ u,(Instr.typeAssert v 20 141 true).run prog w = .ok (.tuple #[u,.bool (jw.rk d).isSome]) w∧(eq (.string ((jw.rk d).getD eE))).p R u:=by
 intro R v w h
 cases d with
 | nil=>obtain rfl:v = .nilIface:=h; exact ⟨.string ⟨#[]⟩,kr,rfl⟩
 | d89 x=>obtain ⟨u,rfl,h⟩:=h; exact ⟨.string ⟨#[]⟩,kr,rfl⟩
 | d141 x=>obtain ⟨u,rfl,h⟩:=h; exact ⟨u,kr,h⟩
 | d143 x=>obtain ⟨u,rfl,h⟩:=h; exact ⟨.string ⟨#[]⟩,kr,rfl⟩
theorem jw.Ea (d:jw):∀ R v w,(jw.p d).p R v→∃ u,(Instr.typeAssert v 20 143 true).run prog w = .ok (.tuple #[u,.bool (jw.rT d).isSome]) w∧(eq (.string ((jw.rT d).getD eE))).p R u:=by
 intro R v w h
 cases d with
 | nil=>obtain rfl:v = .nilIface:=h; exact ⟨.string ⟨#[]⟩,kr,rfl⟩
 | d89 x=>obtain ⟨u,rfl,h⟩:=h; exact ⟨.string ⟨#[]⟩,kr,rfl⟩
 | d141 x=>obtain ⟨u,rfl,h⟩:=h; exact ⟨.string ⟨#[]⟩,kr,rfl⟩
 | d143 x=>obtain ⟨u,rfl,h⟩:=h; exact ⟨u,kr,h⟩
def bx.cv (k:bx):List Value:=[.string k.aa,.string k.ai,.string k.ae,.bool k.ao]
def bx.kv (k:bx):Value:=.agg (bx.cv k).toArray
theorem bx.kq (k:bx):∀ R u,(agg (bx.enc k)).p R u→u=bx.kv k:=fun _ _ h=>aggq (vs:=bx.cv k) rfl h
theorem IY (x y:bx) {d:Nat} {w:World}:(Op.equalIn (d+2) 89 (.agg [.string x.aa,.string x.ai,.string x.ae,.bool x.ao].toArray) (.agg [.string y.aa,.string y.ai,.string y.ae,.bool y.ao].toArray)).run prog w = .ok (decide (x=y)) w:=by
 have e:decide (x=y)=((decide (x.aa=y.aa)&&(decide (x.ai=y.ai)&&(decide (x.ae=y.ae)&&(decide (x.ao=y.ao)&&true))))):=by cases x; cases y; rw [Bool.eq_iff_iff]; simp
 rw [e]
 exact j9 EK st89 (cB dc (aB U9 rfl rfl) (aB U9 rfl rfl) (kz U9) (cB dc (aB U9 rfl rfl) (aB U9 rfl rfl) (kz U9) (cB dc (aB U9 rfl rfl) (aB U9 rfl rfl) (kz U9) (cB dc (aB U4 rfl rfl) (aB U4 rfl rfl) (rV U4) mT))))
theorem BW:ru prog 89 bx.kv:=yp (fun k=>(bx.cv k).toArray) EK (fun _=>rfl) (fun k=>(all_cons ⟨⟨_,U9,.inl rfl⟩,_,fun _=>aB U9 rfl rfl⟩ (all_cons ⟨⟨_,U9,.inl rfl⟩,_,fun _=>aB U9 rfl rfl⟩ (all_cons ⟨⟨_,U9,.inl rfl⟩,_,fun _=>aB U9 rfl rfl⟩ (all_cons ⟨⟨_,U4,.inr (.inl rfl)⟩,_,fun _=>aB U4 rfl rfl⟩ all_nil))))) (fun k c w=>j5 2 dc (fun _=>IY k c)) (fun k=>by simp [bx.kv,bx.cv,Instr.sameBits,yL])
theorem IT (x y:bx) {d:Nat} {w:World}:(Op.equalIn (d+2) 79 (.agg [.string x.aa,.string x.ai,.string x.ae,.bool x.ao].toArray) (.agg [.string y.aa,.string y.ai,.string y.ae,.bool y.ao].toArray)).run prog w = .ok (decide (x=y)) w:=by
 have e:decide (x=y)=((decide (x.aa=y.aa)&&(decide (x.ai=y.ai)&&(decide (x.ae=y.ae)&&(decide (x.ao=y.ao)&&true))))):=by cases x; cases y; rw [Bool.eq_iff_iff]; simp
 rw [e]
 exact j9 KN st79 (cB dc (aB U9 rfl rfl) (aB U9 rfl rfl) (kz U9) (cB dc (aB U9 rfl rfl) (aB U9 rfl rfl) (kz U9) (cB dc (aB U9 rfl rfl) (aB U9 rfl rfl) (kz U9) (cB dc (aB U4 rfl rfl) (aB U4 rfl rfl) (rV U4) mT))))
theorem Co (x y:ak) {d:Nat} {w:World}:(Op.equalIn (d+2) 52 (.agg [.int .i64 x.aG,.string x.aa,.string x.ai,.string x.bC,.string x.ae,.bool x.ao,.bool x.jS,.int .i64 x.b8,.int .i64 x.aM,.int .i64 x.aS,.int .i64 x.aY].toArray) (.agg [.int .i64 y.aG,.string y.aa,.string y.ai,.string y.bC,.string y.ae,.bool y.ao,.bool y.jS,.int .i64 y.b8,.int .i64 y.aM,.int .i64 y.aS,.int .i64 y.aY].toArray)).run prog w = .ok (decide (x=y)) w:=by
 have e:decide (x=y)=((decide (x.aG=y.aG)&&(decide (x.aa=y.aa)&&(decide (x.ai=y.ai)&&(decide (x.bC=y.bC)&&(decide (x.ae=y.ae)&&(decide (x.ao=y.ao)&&(decide (x.jS=y.jS)&&(decide (x.b8=y.b8)&&(decide (x.aM=y.aM)&&(decide (x.aS=y.aS)&&(decide (x.aY=y.aY)&&true)))))))))))):=by cases x; cases y; rw [Bool.eq_iff_iff]; simp
 rw [e]
 exact j9 iq st52 (cB dc (aB U3 rfl rfl) (aB U3 rfl rfl) (eq_int U3) (cB dc (aB U9 rfl rfl) (aB U9 rfl rfl) (kz U9) (cB dc (aB U9 rfl rfl) (aB U9 rfl rfl) (kz U9) (cB dc (aB U9 rfl rfl) (aB U9 rfl rfl) (kz U9) (cB dc (aB U9 rfl rfl) (aB U9 rfl rfl) (kz U9) (cB dc (aB U4 rfl rfl) (aB U4 rfl rfl) (rV U4) (cB dc (aB U4 rfl rfl) (aB U4 rfl rfl) (rV U4) (cB dc (aB U3 rfl rfl) (aB U3 rfl rfl) (eq_int U3) (cB dc (aB U3 rfl rfl) (aB U3 rfl rfl) (eq_int U3) (cB dc (aB U3 rfl rfl) (aB U3 rfl rfl) (eq_int U3) (cB dc (aB U3 rfl rfl) (aB U3 rfl rfl) (eq_int U3) mT)))))))))))
theorem Kp (x y:uA) {d:Nat} {w:World}:(Op.equalIn (d+2) 294 (.agg [.int .i64 x.aG,.string x.aa,.string x.ai,.string x.ae,.bool x.ao].toArray) (.agg [.int .i64 y.aG,.string y.aa,.string y.ai,.string y.ae,.bool y.ao].toArray)).run prog w = .ok (decide (x=y)) w:=by
 have e:decide (x=y)=((decide (x.aG=y.aG)&&(decide (x.aa=y.aa)&&(decide (x.ai=y.ai)&&(decide (x.ae=y.ae)&&(decide (x.ao=y.ao)&&true)))))):=by cases x; cases y; rw [Bool.eq_iff_iff]; simp
 rw [e]
 exact j9 Kl st294 (cB dc (aB U3 rfl rfl) (aB U3 rfl rfl) (eq_int U3) (cB dc (aB U9 rfl rfl) (aB U9 rfl rfl) (kz U9) (cB dc (aB U9 rfl rfl) (aB U9 rfl rfl) (kz U9) (cB dc (aB U9 rfl rfl) (aB U9 rfl rfl) (kz U9) (cB dc (aB U4 rfl rfl) (aB U4 rfl rfl) (rV U4) mT)))))
theorem I6 (x y:Pos) {d:Nat} {w:World}:(Op.equalIn (d+2) 81 (.agg [.int .i64 x.bq,.string x.cJ].toArray) (.agg [.int .i64 y.bq,.string y.cJ].toArray)).run prog w = .ok (decide (x=y)) w:=by
 have e:decide (x=y)=((decide (x.bq=y.bq)&&(decide (x.cJ=y.cJ)&&true))):=by cases x; cases y; rw [Bool.eq_iff_iff]; simp
 rw [e]
 exact j9 tI st81 (cB dc (aB U3 rfl rfl) (aB U3 rfl rfl) (eq_int U3) (cB dc (aB U9 rfl rfl) (aB U9 rfl rfl) (kz U9) mT))
theorem eqt83 (x y:MK) {d:Nat} {w:World}:(Op.equalIn (d+3) 83 (.agg [.string x.fK.aa,.string x.fK.ai,.string x.fK.ae,.bool x.fK.ao,.int .i64 x.fY.bq,.string x.fY.cJ].toArray) (.agg [.string y.fK.aa,.string y.fK.ai,.string y.fK.ae,.bool y.fK.ao,.int .i64 y.fY.bq,.string y.fY.cJ].toArray)).run prog w = .ok (decide (x=y)) w:=by
 have e:decide (x=y)=((decide (x.fK=y.fK)&&(decide (x.fY=y.fY)&&true))):=by cases x; cases y; rw [Bool.eq_iff_iff]; simp
 rw [e]
 exact j9 AH st83 (cB dc (run_parts KN rfl Jj) (run_parts KN rfl Jj) (IT _ _) (cB dc (run_parts tI rfl yh) (run_parts tI rfl yh) (I6 _ _) mT))
theorem J1 (x y:eR) {d:Nat} {w:World}:(Op.equalIn (d+2) 158 (.agg [.string x.ai,.int .i64 x.aM].toArray) (.agg [.string y.ai,.int .i64 y.aM].toArray)).run prog w = .ok (decide (x=y)) w:=by
 have e:decide (x=y)=((decide (x.ai=y.ai)&&(decide (x.aM=y.aM)&&true))):=by cases x; cases y; rw [Bool.eq_iff_iff]; simp
 rw [e]
 exact j9 EE st158 (cB dc (aB U9 rfl rfl) (aB U9 rfl rfl) (kz U9) (cB dc (aB U3 rfl rfl) (aB U3 rfl rfl) (eq_int U3) mT))
theorem eqt91 (x y:eQ) {d:Nat} {w:World}:(Op.equalIn (d+3) 91 (.agg [.string x.bY.aa,.string x.bY.ai,.string x.bY.ae,.bool x.bY.ao,.int .i64 x.fY.bq,.string x.fY.cJ].toArray) (.agg [.string y.bY.aa,.string y.bY.ai,.string y.bY.ae,.bool y.bY.ao,.int .i64 y.fY.bq,.string y.fY.cJ].toArray)).run prog w = .ok (decide (x=y)) w:=by
 have e:decide (x=y)=((decide (x.bY=y.bY)&&(decide (x.fY=y.fY)&&true))):=by cases x; cases y; rw [Bool.eq_iff_iff]; simp
 rw [e]
 exact j9 xD st91 (cB dc (run_parts EK rfl Jf) (run_parts EK rfl Jf) (IY _ _) (cB dc (run_parts tI rfl yh) (run_parts tI rfl yh) (I6 _ _) mT))
theorem eqt96 (x y:eR) {d:Nat} {w:World}:(Op.equalIn (d+2) 96 (.agg [.string x.ai,.int .i64 x.aM].toArray) (.agg [.string y.ai,.int .i64 y.aM].toArray)).run prog w = .ok (decide (x=y)) w:=by
 have e:decide (x=y)=((decide (x.ai=y.ai)&&(decide (x.aM=y.aM)&&true))):=by cases x; cases y; rw [Bool.eq_iff_iff]; simp
 rw [e]
 exact j9 JV st96 (cB dc (aB U9 rfl rfl) (aB U9 rfl rfl) (kz U9) (cB dc (aB U3 rfl rfl) (aB U3 rfl rfl) (eq_int U3) mT))
def jk.O (p:OV) (m:jk):As:=xB (γ:=Nat×OV) (fun g=>p.1 = .pointer (some ⟨g.1,0,none⟩)) (fun g=>[aI g.1 247 [eq (.int .i64 m.dU),eq g.2.1,eq (.int .i64 m.qO)],own ak.K g.2.1 m.fl])
theorem jk.iK {l:List As} {p:OV} {m:jk} (j:Nat) (hj:l[j]? = some (jk.O p m)):∀ R w,St R l w→∃ g:Nat×OV,p.1 = .pointer (some ⟨g.1,0,none⟩)∧St R ([aI g.1 247 [eq (.int .i64 m.dU),eq g.2.1,eq (.int .i64 m.qO)],own ak.K g.2.1 m.fl]++l.eraseIdx j) w:=jQ j hj
theorem jk.shut {l r:List As} {p:OV} {m:jk} (g:Nat×OV) (hg:p.1 = .pointer (some ⟨g.1,0,none⟩)) (hp:l.Perm ([aI g.1 247 [eq (.int .i64 m.dU),eq g.2.1,eq (.int .i64 m.qO)],own ak.K g.2.1 m.fl]++r)):∀ R w,St R l w→∃ _:Unit,True∧St R (jk.O p m::r) w:=jq _ _ g hg hp
def jO.O (p:OV) (m:jO):As:=xB (γ:=Nat×OV) (fun g=>p.1 = .pointer (some ⟨g.1,0,none⟩)) (fun g=>[aI g.1 250 [eq g.2.1],mp bx.kv (fun x:Pos=>agg (Pos.enc x)) g.2.1 m.iH])
theorem jO.iK {l:List As} {p:OV} {m:jO} (j:Nat) (hj:l[j]? = some (jO.O p m)):∀ R w,St R l w→∃ g:Nat×OV,p.1 = .pointer (some ⟨g.1,0,none⟩)∧St R ([aI g.1 250 [eq g.2.1],mp bx.kv (fun x:Pos=>agg (Pos.enc x)) g.2.1 m.iH]++l.eraseIdx j) w:=jQ j hj
theorem jO.shut {l r:List As} {p:OV} {m:jO} (g:Nat×OV) (hg:p.1 = .pointer (some ⟨g.1,0,none⟩)) (hp:l.Perm ([aI g.1 250 [eq g.2.1],mp bx.kv (fun x:Pos=>agg (Pos.enc x)) g.2.1 m.iH]++r)):∀ R w,St R l w→∃ _:Unit,True∧St R (jO.O p m::r) w:=jq _ _ g hg hp
def jF.O (p:OV) (m:jF):As:=xB (γ:=Nat×OV×OV) (fun g=>p.1 = .pointer (some ⟨g.1,0,none⟩)) (fun g=>[aI g.1 177 [eq g.2.1.1,eq g.2.2.1],jO.O g.2.1 m.qn,jk.O g.2.2 m.pQ])
theorem jF.nn {p:OV} {m:jF}:NN (jF.O p m) p.1:=by unfold jF.O; exact rh (γ:=Nat×OV×OV) (b:=fun g=>g.1)
theorem jF.iK {l:List As} {p:OV} {m:jF} (j:Nat) (hj:l[j]? = some (jF.O p m)):∀ R w,St R l w→∃ g:Nat×OV×OV,p.1 = .pointer (some ⟨g.1,0,none⟩)∧St R ([aI g.1 177 [eq g.2.1.1,eq g.2.2.1],jO.O g.2.1 m.qn,jk.O g.2.2 m.pQ]++l.eraseIdx j) w:=jQ j hj
theorem jF.shut {l r:List As} {p:OV} {m:jF} (g:Nat×OV×OV) (hg:p.1 = .pointer (some ⟨g.1,0,none⟩)) (hp:l.Perm ([aI g.1 177 [eq g.2.1.1,eq g.2.2.1],jO.O g.2.1 m.qn,jk.O g.2.2 m.pQ]++r)):∀ R w,St R l w→∃ _:Unit,True∧St R (jF.O p m::r) w:=jq _ _ g hg hp
def kI.O (p:OV) (m:kI):As:=xB (γ:=Nat) (fun g=>p.1 = .pointer (some ⟨g,0,none⟩)) (fun g=>[aI g 257 [eq (.int .i64 m.fn.fv),eq (.int .i64 m.dU)]])
theorem kI.nn {p:OV} {m:kI}:NN (kI.O p m) p.1:=by unfold kI.O; exact rh (γ:=Nat) (b:=fun g=>g)
theorem kI.iK {l:List As} {p:OV} {m:kI} (j:Nat) (hj:l[j]? = some (kI.O p m)):∀ R w,St R l w→∃ g:Nat,p.1 = .pointer (some ⟨g,0,none⟩)∧St R ([aI g 257 [eq (.int .i64 m.fn.fv),eq (.int .i64 m.dU)]]++l.eraseIdx j) w:=jQ j hj
theorem kI.shut {l r:List As} {p:OV} {m:kI} (g:Nat) (hg:p.1 = .pointer (some ⟨g,0,none⟩)) (hp:l.Perm ([aI g 257 [eq (.int .i64 m.fn.fv),eq (.int .i64 m.dU)]]++r)):∀ R w,St R l w→∃ _:Unit,True∧St R (kI.O p m::r) w:=jq _ _ g hg hp
def cH.O (p:OV) (m:cH):As:=xB (γ:=Nat×OV×OV×OV) (fun g=>p.1 = .pointer (some ⟨g.1,0,none⟩)) (fun g=>[aI g.1 183 [eq g.2.1.1,eq g.2.2.1.1,eq g.2.2.2.1],kI.O g.2.1 m.iH,own aH g.2.2.1.1 m.eI,mp Value.string (fun x:Int=>eq (.int .i64 x)) g.2.2.2.1 m.nZ])
theorem cH.nn {p:OV} {m:cH}:NN (cH.O p m) p.1:=by unfold cH.O; exact rh (γ:=Nat×OV×OV×OV) (b:=fun g=>g.1)
theorem cH.iK {l:List As} {p:OV} {m:cH} (j:Nat) (hj:l[j]? = some (cH.O p m)):∀ R w,St R l w→∃ g:Nat×OV×OV×OV,p.1 = .pointer (some ⟨g.1,0,none⟩)∧St R ([aI g.1 183 [eq g.2.1.1,eq g.2.2.1.1,eq g.2.2.2.1],kI.O g.2.1 m.iH,own aH g.2.2.1.1 m.eI,mp Value.string (fun x:Int=>eq (.int .i64 x)) g.2.2.2.1 m.nZ]++l.eraseIdx j) w:=jQ j hj
theorem cH.shut {l r:List As} {p:OV} {m:cH} (g:Nat×OV×OV×OV) (hg:p.1 = .pointer (some ⟨g.1,0,none⟩)) (hp:l.Perm ([aI g.1 183 [eq g.2.1.1,eq g.2.2.1.1,eq g.2.2.2.1],kI.O g.2.1 m.iH,own aH g.2.2.1.1 m.eI,mp Value.string (fun x:Int=>eq (.int .i64 x)) g.2.2.2.1 m.nZ]++r)):∀ R w,St R l w→∃ _:Unit,True∧St R (cH.O p m::r) w:=jq _ _ g hg hp
def aW.O (p:OV) (m:aW):As:=xB (γ:=Nat) (fun g=>p.1 = .pointer (some ⟨g,0,none⟩)) (fun g=>[aI g 268 [eq (.string m.fe.cJ),eq (.string m.fe.aa),sl aH m.fe.ag,eq (.string m.fe.ae),eq (.string m.fe.ai),eq (.int .i64 m.fe.bR),eq (.int .i64 m.cN),eq (.bool m.kc)]])
theorem aW.nn {p:OV} {m:aW}:NN (aW.O p m) p.1:=by unfold aW.O; exact rh (γ:=Nat) (b:=fun g=>g)
theorem aW.iK {l:List As} {p:OV} {m:aW} (j:Nat) (hj:l[j]? = some (aW.O p m)):∀ R w,St R l w→∃ g:Nat,p.1 = .pointer (some ⟨g,0,none⟩)∧St R ([aI g 268 [eq (.string m.fe.cJ),eq (.string m.fe.aa),sl aH m.fe.ag,eq (.string m.fe.ae),eq (.string m.fe.ai),eq (.int .i64 m.fe.bR),eq (.int .i64 m.cN),eq (.bool m.kc)]]++l.eraseIdx j) w:=jQ j hj
theorem aW.shut {l r:List As} {p:OV} {m:aW} (g:Nat) (hg:p.1 = .pointer (some ⟨g,0,none⟩)) (hp:l.Perm ([aI g 268 [eq (.string m.fe.cJ),eq (.string m.fe.aa),sl aH m.fe.ag,eq (.string m.fe.ae),eq (.string m.fe.ai),eq (.int .i64 m.fe.bR),eq (.int .i64 m.cN),eq (.bool m.kc)]]++r)):∀ R w,St R l w→∃ _:Unit,True∧St R (aW.O p m::r) w:=jq _ _ g hg hp
def bf.O (p:OV) (m:bf):As:=xB (γ:=Nat×OV) (fun g=>p.1 = .pointer (some ⟨g.1,0,none⟩)) (fun g=>[aI g.1 265 [eq (.string m.cR),eq g.2.1],km Value.string aW.O g.2.1 m.aq])
theorem bf.nn {p:OV} {m:bf}:NN (bf.O p m) p.1:=by unfold bf.O; exact rh (γ:=Nat×OV) (b:=fun g=>g.1)
theorem bf.iK {l:List As} {p:OV} {m:bf} (j:Nat) (hj:l[j]? = some (bf.O p m)):∀ R w,St R l w→∃ g:Nat×OV,p.1 = .pointer (some ⟨g.1,0,none⟩)∧St R ([aI g.1 265 [eq (.string m.cR),eq g.2.1],km Value.string aW.O g.2.1 m.aq]++l.eraseIdx j) w:=jQ j hj
theorem bf.shut {l r:List As} {p:OV} {m:bf} (g:Nat×OV) (hg:p.1 = .pointer (some ⟨g.1,0,none⟩)) (hp:l.Perm ([aI g.1 265 [eq (.string m.cR),eq g.2.1],km Value.string aW.O g.2.1 m.aq]++r)):∀ R w,St R l w→∃ _:Unit,True∧St R (bf.O p m::r) w:=jq _ _ g hg hp
def aL.O (p:OV) (m:aL):As:=xB (γ:=Nat×OV) (fun g=>p.1 = .pointer (some ⟨g.1,0,none⟩)) (fun g=>[aI g.1 186 [eq g.2.1],km Value.string bf.O g.2.1 m.br])
theorem aL.nn {p:OV} {m:aL}:NN (aL.O p m) p.1:=by unfold aL.O; exact rh (γ:=Nat×OV) (b:=fun g=>g.1)
theorem aL.iK {l:List As} {p:OV} {m:aL} (j:Nat) (hj:l[j]? = some (aL.O p m)):∀ R w,St R l w→∃ g:Nat×OV,p.1 = .pointer (some ⟨g.1,0,none⟩)∧St R ([aI g.1 186 [eq g.2.1],km Value.string bf.O g.2.1 m.br]++l.eraseIdx j) w:=jQ j hj
theorem aL.shut {l r:List As} {p:OV} {m:aL} (g:Nat×OV) (hg:p.1 = .pointer (some ⟨g.1,0,none⟩)) (hp:l.Perm ([aI g.1 186 [eq g.2.1],km Value.string bf.O g.2.1 m.br]++r)):∀ R w,St R l w→∃ _:Unit,True∧St R (aL.O p m::r) w:=jq _ _ g hg hp
def aN.O (p:OV) (m:aN):As:=xB (γ:=Nat×OV×OV) (fun g=>p.1 = .pointer (some ⟨g.1,0,none⟩)) (fun g=>[aI g.1 261 [eq g.2.1.1,eq g.2.2.1],own di.K g.2.1.1 m.fl,mp Value.string (fun x:Int=>eq (.int .i64 x)) g.2.2.1 m.iH])
theorem aN.nn {p:OV} {m:aN}:NN (aN.O p m) p.1:=by unfold aN.O; exact rh (γ:=Nat×OV×OV) (b:=fun g=>g.1)
theorem aN.iK {l:List As} {p:OV} {m:aN} (j:Nat) (hj:l[j]? = some (aN.O p m)):∀ R w,St R l w→∃ g:Nat×OV×OV,p.1 = .pointer (some ⟨g.1,0,none⟩)∧St R ([aI g.1 261 [eq g.2.1.1,eq g.2.2.1],own di.K g.2.1.1 m.fl,mp Value.string (fun x:Int=>eq (.int .i64 x)) g.2.2.1 m.iH]++l.eraseIdx j) w:=jQ j hj
theorem aN.shut {l r:List As} {p:OV} {m:aN} (g:Nat×OV×OV) (hg:p.1 = .pointer (some ⟨g.1,0,none⟩)) (hp:l.Perm ([aI g.1 261 [eq g.2.1.1,eq g.2.2.1],own di.K g.2.1.1 m.fl,mp Value.string (fun x:Int=>eq (.int .i64 x)) g.2.2.1 m.iH]++r)):∀ R w,St R l w→∃ _:Unit,True∧St R (aN.O p m::r) w:=jq _ _ g hg hp
def bZ.O (p:OV) (m:bZ):As:=xB (γ:=Nat×OV×OV) (fun g=>p.1 = .pointer (some ⟨g.1,0,none⟩)) (fun g=>[aI g.1 190 [eq g.2.1.1,eq g.2.2.1],own ak.K g.2.1.1 m.fl,aN.O g.2.2 m.gL])
theorem bZ.nn {p:OV} {m:bZ}:NN (bZ.O p m) p.1:=by unfold bZ.O; exact rh (γ:=Nat×OV×OV) (b:=fun g=>g.1)
theorem bZ.iK {l:List As} {p:OV} {m:bZ} (j:Nat) (hj:l[j]? = some (bZ.O p m)):∀ R w,St R l w→∃ g:Nat×OV×OV,p.1 = .pointer (some ⟨g.1,0,none⟩)∧St R ([aI g.1 190 [eq g.2.1.1,eq g.2.2.1],own ak.K g.2.1.1 m.fl,aN.O g.2.2 m.gL]++l.eraseIdx j) w:=jQ j hj
theorem bZ.shut {l r:List As} {p:OV} {m:bZ} (g:Nat×OV×OV) (hg:p.1 = .pointer (some ⟨g.1,0,none⟩)) (hp:l.Perm ([aI g.1 190 [eq g.2.1.1,eq g.2.2.1],own ak.K g.2.1.1 m.fl,aN.O g.2.2 m.gL]++r)):∀ R w,St R l w→∃ _:Unit,True∧St R (bZ.O p m::r) w:=jq _ _ g hg hp
def cI.O (p:OV) (m:cI):As:=xB (γ:=Nat×OV×OV) (fun g=>p.1 = .pointer (some ⟨g.1,0,none⟩)) (fun g=>[aI g.1 192 [eq g.2.1.1,eq g.2.2.1],own ak.K g.2.1.1 m.fl,aN.O g.2.2 m.eY])
theorem cI.nn {p:OV} {m:cI}:NN (cI.O p m) p.1:=by unfold cI.O; exact rh (γ:=Nat×OV×OV) (b:=fun g=>g.1)
theorem cI.iK {l:List As} {p:OV} {m:cI} (j:Nat) (hj:l[j]? = some (cI.O p m)):∀ R w,St R l w→∃ g:Nat×OV×OV,p.1 = .pointer (some ⟨g.1,0,none⟩)∧St R ([aI g.1 192 [eq g.2.1.1,eq g.2.2.1],own ak.K g.2.1.1 m.fl,aN.O g.2.2 m.eY]++l.eraseIdx j) w:=jQ j hj
theorem cI.shut {l r:List As} {p:OV} {m:cI} (g:Nat×OV×OV) (hg:p.1 = .pointer (some ⟨g.1,0,none⟩)) (hp:l.Perm ([aI g.1 192 [eq g.2.1.1,eq g.2.2.1],own ak.K g.2.1.1 m.fl,aN.O g.2.2 m.eY]++r)):∀ R w,St R l w→∃ _:Unit,True∧St R (cI.O p m::r) w:=jq _ _ g hg hp
def jB (g:BA→Option Bool):List VP→VP→Prop:=fun vs ret=>∃ a0 r,g a0=some r∧vs=[eq (.string a0)]∧ret=eq (.bool r)
def jW (X:As) (g:BA→Option Bool):VP:=fnx prog X (jB g)
def qk (g:Int→Option Bool):List VP→VP→Prop:=fun vs ret=>∃ a0 r,g a0=some r∧vs=[eq (.int .u8 a0)]∧ret=eq (.bool r)
def gN (g:Int→Option Bool):VP:=Gv prog (qk g)
def nU:Kd (Int→Option Bool):=⟨1,fun _=>none,fun g=>[gN g],fun _=>rfl,fun _ p h R v hv=>by simp at h; subst h; exact nN R v hv⟩
def pG (g:Int→Int→Int→Option Bool):List VP→VP→Prop:=fun vs ret=>∃ a0 a1 a2 r,g a0 a1 a2=some r∧vs=[eq (.int .i64 a0),eq (.int .i64 a1),eq (.int .i64 a2)]∧ret=eq (.bool r)
def mN (g:Int→Int→Int→Option Bool):VP:=Gv prog (pG g)
def lS (g:ak→Option Bool):List VP→VP→Prop:=fun vs ret=>∃ a0 r,g a0=some r∧vs=[agg (ak.enc a0)]∧ret=eq (.bool r)
def jE (g:ak→Option Bool):VP:=Gv prog (lS g)
def ig:Kd (ak→Option Bool):=⟨1,fun _=>none,fun g=>[jE g],fun _=>rfl,fun _ p h R v hv=>by simp at h; subst h; exact nN R v hv⟩
def oa (g:ak→ak→Option Int):List VP→VP→Prop:=fun vs ret=>∃ a0 a1 r,g a0 a1=some r∧vs=[agg (ak.enc a0),agg (ak.enc a1)]∧ret=eq (.int .i64 r)
def o5 (g:ak→ak→Option Int):VP:=Gv prog (oa g)
def oI (g:ak→BA→Option Int):List VP→VP→Prop:=fun vs ret=>∃ a0 a1 r,g a0 a1=some r∧vs=[agg (ak.enc a0),eq (.string a1)]∧ret=eq (.int .i64 r)
def pq (g:ak→BA→Option Int):VP:=Gv prog (oI g)
def lx (g:eA→eA→Option Bool):List VP→VP→Prop:=fun vs ret=>∃ a0 a1 r,g a0 a1=some r∧vs=[agg (eA.enc a0),agg (eA.enc a1)]∧ret=eq (.bool r)
def lN (g:eA→eA→Option Bool):VP:=Gv prog (lx g)
def rq.f (a0:Int):Option ((Option jk)×Int):=cond (decide (a0<1)) (some (none,1)) (cond (decide (1000<a0)) (some (none,1)) (some (some (⟨a0,([]:List ak),0⟩:jk),0)))
def nP.f:Option (jO):=some (⟨([]:List (bx×Pos))⟩:jO)
def oh.f (a0:Int):Option ((Option jF)×Int):=(rq.f a0).bind fun t7=>cond (t7.2 != 0) (some (none,t7.2)) ((nP.f).bind fun t11=>an (t7.1.isSome=true) (some (some (⟨t11,t7.1.getD default⟩:jF),0)))
def n9.f (a0:Int) (a1:Int):Option ((Option kI)×Int):=cond (decide (a1<1)) (some (none,1)) (cond (decide (1099511627776<a1)) (some (none,1)) (cond (decide (a0<0)) (some (none,1)) (cond (decide (a1<a0)) (some (none,1)) (some (some (⟨(⟨a0⟩:Bz),a1⟩:kI),0)))))
def mZ.f (a0:Int) (a1:Int):Option ((Option cH)×Int):=(n9.f a0 a1).bind fun t24=>cond (t24.2 != 0) (some (none,t24.2)) (an (t24.1.isSome=true) (some (some (⟨t24.1.getD default,([]:List BA),([]:List (BA×Int))⟩:cH),0)))
def rz.f:Option (aL):=some (⟨([]:List (BA×bf))⟩:aL)
def og.f:Option (aN):=some (⟨([]:List di),([]:List (BA×Int))⟩:aN)
def nq.f:Option (bZ):=(og.f).bind fun t35=>some (⟨([]:List ak),t35⟩:bZ)
def lB.f:Option (cI):=(og.f).bind fun t39=>some (⟨([]:List ak),t39⟩:cI)
def tP.f (a0:BA):Option (bf):=some (⟨a0,([]:List (BA×aW))⟩:bf)
def aO.f (a0:aL) (a1:BA):Option bf:=cond (mget a0.br a1).isSome (some ((mget a0.br a1).getD default)) (tP.f a1)
def slices_IndexFunc_string.l0 (k:Nat) (a0:List BA) (a1:BA→Option Bool):Nat→Int→Option ((Int×Bool) ⊕ (Int))
 | 0,_=>none
 | j52+1,x46=>cond (decide (x46<(a0.length:Int))) (an ((0:Int)≤x46∧x46<(a0.length:Int)) ((a1 (aH.at a0 x46)).bind fun t49=>cond t49 (some (.inr x46)) (slices_IndexFunc_string.l0 k a0 a1 j52 (aw (x46+1))))) (some (.inl (x46,decide (x46<(a0.length:Int)))))
def aX.l0 (k:Nat) (a0:List BA) (a1:(BA→Option Bool)):Nat→Int→Option ((Int×Bool) ⊕ (Int))
 | 0,_=>none
 | j61+1,x55=>cond (decide (x55<(a0.length:Int))) (an ((0:Int)≤x55∧x55<(a0.length:Int)) ((a1 (aH.at a0 x55)).bind fun t58=>cond t58 (some (.inr x55)) (aX.l0 k a0 a1 j61 (aw (x55+1))))) (some (.inl (x55,decide (x55<(a0.length:Int)))))
def aX.f (k:Nat) (a0:List BA) (a1:(BA→Option Bool)):Option (Int):=(aX.l0 k a0 a1 k 0).bind (fall fun p54=>some (-1))
def aA.l0 (k:Nat) (a0:List BA) (a1:(BA→Option Bool)):Nat→Int→Option ((Int×Bool) ⊕ (Int))
 | 0,_=>none
 | j71+1,x64=>cond (decide (x64<(a0.length:Int))) (an ((0:Int)≤x64∧x64<(a0.length:Int)) ((a1 (a0.getD x64.toNat default)).bind fun t68=>cond t68 (some (.inr x64)) (aA.l0 k a0 a1 j71 (aw (x64+1))))) (some (.inl (x64,decide (x64<(a0.length:Int)))))
def aA.f (k:Nat) (a0:List BA) (a1:(BA→Option Bool)):Option (Int):=(aA.l0 k a0 a1 k 0).bind (fall fun p63=>some (-1))
def cD.f (k:Nat) (a0:List BA) (a1:(BA→Option Bool)):Option (Bool):=(aX.f k a0 a1).bind fun t75=>some (decide (0≤t75))
def cQ.f (k:Nat) (a0:List BA) (a1:(BA→Option Bool)):Option (Bool):=(aA.f k a0 a1).bind fun t77=>some (decide (0≤t77))
def fj.f (a0:BA) (a1:BA):Option (Bool):=cond (decide ((a1.size:Int)≤(a0.size:Int))) (an ((0:Int)≤(a1.size:Int)∧0≤(a1.size:Int).toNat∧(a1.size:Int).toNat≤a0.size) (some (decide ((a0.extract 0 ((a1.size:Int).toNat))=a1)))) (some false)
def fi.f (a0:BA) (a1:BA):Option (BA×Bool):=(fj.f a0 a1).bind fun t81=>cond (!t81) (some (a0,false)) (an ((0:Int)≤(a1.size:Int)∧(a1.size:Int).toNat≤a0.size∧a0.size≤a0.size) (some (a0.extract (a1.size:Int).toNat a0.size,true)))
def eg.f (a0:BA) (a1:BA):Option (BA×Bool):=(fi.f a0 a1).bind fun t85=>some (t85.1,t85.2)
def iE.f (a0:Int):Option (Bool):=cond (decide (97≤a0)) (cond (decide (a0≤122)) (some true) (cond (decide (48≤a0)) (some (decide (a0≤57))) (some false))) (cond (decide (48≤a0)) (some (decide (a0≤57))) (some false))
def dp.f (a0:BA) (a1:Int):Option (Int):=some (lK a0 a1)
def iw.f (a0:BA) (a1:Int):Option (Int):=(dp.f a0 a1).bind fun t91=>some t91
def dV.f (a0:Int) (c0:BA):Option (Bool):=(iE.f a0).bind fun t93=>cond t93 (some true) ((iw.f c0 a0).bind fun t96=>some (decide (0≤t96)))
def jo.f (a0:BA):Option ((Int→Option Bool)):=some (fun a0_=>dV.f a0_ a0)
def dY.l0 (k:Nat) (a0:BA) (a1:Int) (t99:(Int→Option Bool)) (ta:(Int→Option Bool)) (tc:(Int→Option Bool)):Nat→Int→Option ((Int×Bool) ⊕ (Bool))
 | 0,_=>none
 | ja+1,xc=>cond (decide (xc<(a0.size:Int))) (an ((0:Int)≤xc∧xc<(a0.size:Int)) (((nU.at ([t99,ta,tc]:List (Int→Option Bool)) a1) (bt a0 xc)).bind fun te=>cond (!te) (some (.inr false)) (dY.l0 k a0 a1 t99 ta tc ja (aw (xc+1))))) (some (.inl (xc,decide (xc<(a0.size:Int)))))
def dY.f (k:Nat) (a0:BA) (a1:Int):Option (Bool):=(jo.f (⟨#[46,45,95]⟩:BA)).bind fun t99=>(jo.f (⟨#[46,45]⟩:BA)).bind fun ta=>(jo.f (⟨#[45,95,65,66,67,68,69,70,71,72,73,74,75,76,77,78,79,80,81,82,83,84,85,86,87,88,89,90]⟩:BA)).bind fun tc=>an ((0:Int)≤a1∧a1<(3:Int)) ((dY.l0 k a0 a1 t99 ta tc k 0).bind (fall fun pa=>cond (!decide (a0=eE)) (some (decide ((a0.size:Int)≤16))) (some false)))
def ee.f (a0:BA) (a1:BA):Option (Int):=cond ((a1.size:Int)==0) (some 0) (cond (decide (a1=a0)) (some 0) (cond ((a1.size:Int)==1) (an ((0:Int)≤0∧0<(a1.size:Int)) ((dp.f a0 (bt a1 0)).bind fun ta=>some ta)) (cond (decide ((a0.size:Int)≤(a1.size:Int))) (some (-1)) (none))))
def jD.f (a0:BA) (a1:BA):Option (BA×BA×Bool):=(ee.f a0 a1).bind fun ta=>cond (decide (0≤ta)) (an ((0:Int)≤ta∧0≤ta.toNat∧ta.toNat≤a0.size) (an ((0:Int)≤(aw (ta+(a1.size:Int)))∧(aw (ta+(a1.size:Int))).toNat≤a0.size∧a0.size≤a0.size) (some (a0.extract 0 ta.toNat,a0.extract (aw (ta+(a1.size:Int))).toNat a0.size,true)))) (some (a0,eE,false))
def jV.f (a0:BA) (a1:BA):Option (BA×BA×Bool):=(jD.f a0 a1).bind fun ta=>some (ta.1,ta.2.1,ta.2.2)
def kS.f (k:Nat) (a0:BA):Option (Bool):=(dY.f k a0 1).bind fun ta=>cond ta (an ((0:Int)≤0∧0<(a0.size:Int)) ((iE.f (bt a0 0)).bind fun tc=>cond tc (an ((0:Int)≤(aw ((a0.size:Int)-1))∧(aw ((a0.size:Int)-1))<(a0.size:Int)) ((iE.f (bt a0 (aw ((a0.size:Int)-1)))).bind fun te=>some te)) (some false))) (some false)
def j7.f (k:Nat) (a0:BA) (a1:BA):Option (BA×BA×Bool):=(eg.f a0 a1).bind fun ta=>(jV.f ta.1 (⟨#[58]⟩:BA)).bind fun tc=>cond ta.2 (cond tc.2.2 ((dY.f k tc.1 0).bind fun te=>cond te ((kS.f k tc.2.1).bind fun tg=>some (tc.1,tc.2.1,tg)) (some (tc.1,tc.2.1,false))) (some (tc.1,tc.2.1,false))) (some (tc.1,tc.2.1,false))
def lX.f (k:Nat) (a0:BA):Option (Bool):=(j7.f k a0 (⟨#[64]⟩:BA)).bind fun ta=>some ta.2.2
def ea.f (k:Nat) (a0:BA):Option (Bool):=(eg.f a0 (⟨#[36]⟩:BA)).bind fun ta=>cond ta.2 ((dY.f k ta.1 2).bind fun tc=>some tc) (some false)
def kb.f (k:Nat) (a0:BA):Option (Bool):=(j7.f k a0 (⟨#[33]⟩:BA)).bind fun ta=>some ta.2.2
def dB.l0 (k:Nat) (a0:Event):Nat→Int→Option (Bool×Int×Bool)
 | 0,_=>none
 | ja+1,xc=>cond (decide (xc<(a0.ag.length:Int))) (an ((0:Int)≤xc∧xc<(a0.ag.length:Int)) ((ea.f k (aH.at a0.ag xc)).bind fun ta=>cond (!ta) (some (false,xc,decide (xc<(a0.ag.length:Int)))) (cond (decide ((aH.at a0.ag xc)=a0.cJ)) (some (false,xc,decide (xc<(a0.ag.length:Int)))) (cond (decide (0<xc)) (an ((0:Int)≤(aw (xc-1))∧(aw (xc-1))<(a0.ag.length:Int)) (cond (!dO (aH.at a0.ag (aw (xc-1))) (aH.at a0.ag xc)) (some (false,xc,decide (xc<(a0.ag.length:Int)))) (dB.l0 k a0 ja (aw (xc+1))))) (dB.l0 k a0 ja (aw (xc+1))))))) (some (true,xc,decide (xc<(a0.ag.length:Int))))
def dB.l1 (k:Nat) (a0:Event):Nat→Int→Option (Bool×Int×Bool)
 | 0,_=>none
 | ja+1,xc=>cond (decide (xc<(a0.ag.length:Int))) (an ((0:Int)≤xc∧xc<(a0.ag.length:Int)) ((ea.f k (aH.at a0.ag xc)).bind fun ta=>cond (!ta) (some (false,xc,decide (xc<(a0.ag.length:Int)))) (cond (decide ((aH.at a0.ag xc)=a0.cJ)) (some (false,xc,decide (xc<(a0.ag.length:Int)))) (cond (decide (0<xc)) (an ((0:Int)≤(aw (xc-1))∧(aw (xc-1))<(a0.ag.length:Int)) (cond (!dO (aH.at a0.ag (aw (xc-1))) (aH.at a0.ag xc)) (some (false,xc,decide (xc<(a0.ag.length:Int)))) (dB.l1 k a0 ja (aw (xc+1))))) (dB.l1 k a0 ja (aw (xc+1))))))) (some (true,xc,decide (xc<(a0.ag.length:Int))))
def dB.f (k:Nat) (a0:Event):Option (Bool):=(ea.f k a0.cJ).bind fun ta=>cond (!ta) (some false) ((kb.f k a0.aa).bind fun tc=>cond (!tc) (some false) ((lX.f k a0.ai).bind fun te=>cond (!te) (some false) (cond (decide (4<(a0.ag.length:Int))) (some false) (cond (decide (a0.bR<0)) (some false) (cond (decide (2<a0.bR)) (some false) (cond (!decide (a0.ae=eE)) ((ea.f k a0.ae).bind fun tg=>cond (!tg) (some false) (cond (decide (a0.ae=a0.cJ)) (some false) (cond (a0.bR != 0) (some false) ((dB.l0 k a0 k 0).bind fun (pa:Bool×Int×Bool)=>some pa.1)))) ((dB.l1 k a0 k 0).bind fun (pc:Bool×Int×Bool)=>some pc.1)))))))
def ec.f (a0:bf) (a1:BA):Option (Bool):=some (!(mget a0.aq a1).isNone)
def eT.f (a0:BA) (c0:bf):Option (Bool):=(ec.f c0 a0).bind fun ta=>some (!ta)
def dI.f (xs:List BA):Option (List BA):=an (xs.length≤9223372036854775807∧xs.length*16≤140737488355328) (some xs)
def iA.f (a0:Event):Option (Event):=(dI.f a0.ag).bind fun ta=>some (⟨a0.cJ,a0.aa,ta,a0.ae,a0.ai,a0.bR⟩:Event)
def dag_Dag_Add.l0 (k:Nat) (a1:Event):Nat→Int→Int→bf→Option (Int×Bool×Int×bf)
 | 0,_,_,_=>none
 | ja+1,xc,xd,xe=>cond (decide (xc<(a1.ag.length:Int))) (an ((0:Int)≤xc∧xc<(a1.ag.length:Int)) (an ((mget xe.aq (aH.at a1.ag xc)).isSome=true) (dag_Dag_Add.l0 k a1 ja (aw (xc+1)) (max xd (aw ((((mget xe.aq (aH.at a1.ag xc)).getD default).cN)+1))) (⟨xe.cR,mput xe.aq (aH.at a1.ag xc) (⟨((mget xe.aq (aH.at a1.ag xc)).getD default).fe,((mget xe.aq (aH.at a1.ag xc)).getD default).cN,true⟩:aW)⟩:bf)))) (some (xc,decide (xc<(a1.ag.length:Int)),xd,xe))
def dag_Dag_Add.f (k:Nat) (a0:bf) (a1:Event):Option (Int×bf):=(dB.f k a1).bind fun ta=>cond (!ta) (some (1,a0)) (cond (!decide (a1.aa=a0.cR)) (some (1,a0)) ((ec.f a0 a1.cJ).bind fun tc=>cond tc (some (9,a0)) ((cD.f k a1.ag (fun a0_=>eT.f a0_ a0)).bind fun te=>cond te (some (4,a0)) ((cond (!decide (a1.ae=eE)) (cond ((mget a0.aq a1.ae).isNone) (some (.inr (4,a0))) (an ((mget a0.aq a1.ae).isSome=true) (cond (!decide (((((mget a0.aq a1.ae).getD default).fe).ae)=eE)) (some (.inr (7,a0))) (cond (((((mget a0.aq a1.ae).getD default).fe).bR) != 0) (some (.inr (7,a0))) (some (.inl ())))))) (some (.inl ()))).bind (fall fun pa=>(iA.f a1).bind fun tg=>(dag_Dag_Add.l0 k a1 k 0 0 a0).bind fun (pc:Int×Bool×Int×bf)=>some (0,(⟨pc.2.2.2.cR,mput pc.2.2.2.aq a1.cJ (⟨tg,pc.2.2.1,false⟩:aW)⟩:bf)))))))
def iC.f (k:Nat) (a0:aL) (a1:Event):Option (Int×aL):=(aO.f a0 a1.aa).bind fun ta=>(dag_Dag_Add.f k ta a1).bind fun tc=>cond (tc.1 != 0) (some (tc.1,(⟨wM a0.br a1.aa tc.2⟩:aL))) (some (0,(⟨mput a0.br a1.aa tc.2⟩:aL)))
def iJ.l0 (k:Nat) (a0:bF) (a1:BA):Nat→Int→Option ((Int×Bool) ⊕ (aQ))
 | 0,_=>none
 | ja+1,xc=>cond (decide (xc<(a0.fD.length:Int))) (an ((0:Int)≤xc∧xc<(a0.fD.length:Int)) (cond (decide (((aQ.K.at a0.fD xc).aa)=a1)) (an ((0:Int)≤xc∧xc<(a0.fD.length:Int)) (some (.inr (aQ.K.at a0.fD xc)))) (iJ.l0 k a0 a1 ja (aw (xc+1))))) (some (.inl (xc,decide (xc<(a0.fD.length:Int)))))
def iJ.f (k:Nat) (a0:bF) (a1:BA):Option (aQ):=(iJ.l0 k a0 a1 k 0).bind (fall fun pa=>some (⟨a1,([]:List Event)⟩:aQ))
def eM.l0 (k:Nat) (a0:BA):Nat→Int→Option ((Int×Bool) ⊕ (Int))
 | 0,_=>none
 | ja+1,xc=>cond (decide (xc<(a0.size:Int))) (an ((0:Int)≤xc∧xc<(a0.size:Int)) (cond ((bt a0 xc)==58) (some (.inr xc)) (eM.l0 k a0 ja (aw (xc+1))))) (some (.inl (xc,decide (xc<(a0.size:Int)))))
def eM.f (k:Nat) (a0:BA):Option (Int):=(eM.l0 k a0 k 0).bind (fall fun pa=>some (-1))
def mi.f (a0:Int):Option (Bool):=cond (decide (97≤a0)) (cond (decide (a0≤122)) (some true) (cond (decide (48≤a0)) (some (decide (a0≤57))) (some false))) (cond (decide (48≤a0)) (some (decide (a0≤57))) (some false))
def eU.l0 (k:Nat) (a0:BA):Nat→Int→Option ((Int×Bool) ⊕ (Bool))
 | 0,_=>none
 | ja+1,xc=>cond (decide (xc<(a0.size:Int))) (an ((0:Int)≤xc∧xc<(a0.size:Int)) ((mi.f (bt a0 xc)).bind fun ta=>cond (!ta) (an ((0:Int)≤xc∧xc<(a0.size:Int)) (cond ((bt a0 xc) != 46) (an ((0:Int)≤xc∧xc<(a0.size:Int)) (cond ((bt a0 xc) != 45) (an ((0:Int)≤xc∧xc<(a0.size:Int)) (cond ((bt a0 xc) != 95) (some (.inr false)) (eU.l0 k a0 ja (aw (xc+1))))) (eU.l0 k a0 ja (aw (xc+1))))) (eU.l0 k a0 ja (aw (xc+1))))) (eU.l0 k a0 ja (aw (xc+1))))) (some (.inl (xc,decide (xc<(a0.size:Int)))))
def eU.f (k:Nat) (a0:BA):Option (Bool):=(eU.l0 k a0 k 0).bind (fall fun pa=>cond (decide (0<(a0.size:Int))) (some (decide ((a0.size:Int)<17))) (some false))
def de.l0 (k:Nat) (a0:BA):Nat→Int→Option ((Int×Bool) ⊕ (Bool))
 | 0,_=>none
 | ja+1,xc=>cond (decide (xc<(a0.size:Int))) (an ((0:Int)≤xc∧xc<(a0.size:Int)) ((mi.f (bt a0 xc)).bind fun ta=>cond (decide (0<xc)) (cond (decide (xc<(aw ((a0.size:Int)-1)))) (an ((0:Int)≤xc∧xc<(a0.size:Int)) (cond ((bt a0 xc)==46) (cond (!ta) (de.l0 k a0 ja (aw (xc+1))) (de.l0 k a0 ja (aw (xc+1)))) (an ((0:Int)≤xc∧xc<(a0.size:Int)) (cond (!ta) (cond (!((bt a0 xc)==45)) (some (.inr false)) (de.l0 k a0 ja (aw (xc+1)))) (de.l0 k a0 ja (aw (xc+1))))))) (cond (!ta) (some (.inr false)) (de.l0 k a0 ja (aw (xc+1))))) (cond (!ta) (some (.inr false)) (de.l0 k a0 ja (aw (xc+1)))))) (some (.inl (xc,decide (xc<(a0.size:Int)))))
def de.f (k:Nat) (a0:BA):Option (Bool):=(de.l0 k a0 k 0).bind (fall fun pa=>cond (decide (0<(a0.size:Int))) (some (decide ((a0.size:Int)<17))) (some false))
def ic.f (k:Nat) (a0:BA) (a1:Int):Option (Bool):=(eM.f k a0).bind fun ta=>cond (decide (ta<1)) (some false) (an ((0:Int)≤0∧0<(a0.size:Int)) (cond ((bt a0 0) != a1) (some false) (an ((0:Int)≤1∧(0:Int)≤ta∧(1:Int).toNat≤ta.toNat∧ta.toNat≤a0.size) ((eU.f k (a0.extract (1:Int).toNat ta.toNat)).bind fun tc=>an ((0:Int)≤(aw (ta+1))∧(aw (ta+1)).toNat≤a0.size∧a0.size≤a0.size) ((de.f k (a0.extract (aw (ta+1)).toNat a0.size)).bind fun te=>cond tc (some te) (some false))))))
def bV.l0 (k:Nat) (a0:BA):Nat→Int→Option ((Int×Bool) ⊕ (Bool))
 | 0,_=>none
 | ja+1,xc=>cond (decide (xc<(a0.size:Int))) (an ((0:Int)≤xc∧xc<(a0.size:Int)) ((mi.f (bt a0 xc)).bind fun ta=>an ((0:Int)≤xc∧xc<(a0.size:Int)) (cond (decide (65≤(bt a0 xc))) (an ((0:Int)≤xc∧xc<(a0.size:Int)) (cond (!ta) (cond (!(decide ((bt a0 xc)≤90))) (an ((0:Int)≤xc∧xc<(a0.size:Int)) (cond ((bt a0 xc) != 45) (an ((0:Int)≤xc∧xc<(a0.size:Int)) (cond ((bt a0 xc) != 95) (some (.inr false)) (bV.l0 k a0 ja (aw (xc+1))))) (bV.l0 k a0 ja (aw (xc+1))))) (bV.l0 k a0 ja (aw (xc+1)))) (bV.l0 k a0 ja (aw (xc+1))))) (cond (!ta) (an ((0:Int)≤xc∧xc<(a0.size:Int)) (cond ((bt a0 xc) != 45) (an ((0:Int)≤xc∧xc<(a0.size:Int)) (cond ((bt a0 xc) != 95) (some (.inr false)) (bV.l0 k a0 ja (aw (xc+1))))) (bV.l0 k a0 ja (aw (xc+1))))) (bV.l0 k a0 ja (aw (xc+1))))))) (some (.inl (xc,decide (xc<(a0.size:Int)))))
def bV.f (k:Nat) (a0:BA):Option (Bool):=cond (decide ((a0.size:Int)<2)) (some false) (cond (decide (17<(a0.size:Int))) (some false) (an ((0:Int)≤0∧0<(a0.size:Int)) (cond ((bt a0 0) != 36) (some false) ((bV.l0 k a0 k 1).bind (fall fun pa=>some true)))))
def gJ.l0 (k:Nat) (a0:Event):Nat→Int→Option ((Int×Bool) ⊕ (Bool))
 | 0,_=>none
 | ja+1,xc=>cond (decide (xc<(a0.ag.length:Int))) (an ((0:Int)≤xc∧xc<(a0.ag.length:Int)) ((bV.f k (aH.at a0.ag xc)).bind fun ta=>cond (!ta) (some (.inr false)) (an ((0:Int)≤xc∧xc<(a0.ag.length:Int)) (cond (decide ((aH.at a0.ag xc)=a0.cJ)) (some (.inr false)) (cond (decide (0<xc)) (an ((0:Int)≤(max (aw (xc-1)) 0)∧(max (aw (xc-1)) 0)<(a0.ag.length:Int)) (an ((0:Int)≤xc∧xc<(a0.ag.length:Int)) (cond (!dO (aH.at a0.ag (max (aw (xc-1)) 0)) (aH.at a0.ag xc)) (some (.inr false)) (gJ.l0 k a0 ja (aw (xc+1)))))) (gJ.l0 k a0 ja (aw (xc+1)))))))) (some (.inl (xc,decide (xc<(a0.ag.length:Int)))))
def gJ.f (k:Nat) (a0:Event):Option (Bool):=(bV.f k a0.cJ).bind fun ta=>(ic.f k a0.aa 33).bind fun tc=>(ic.f k a0.ai 64).bind fun te=>cond (!ta) (some false) (cond (!tc) (some false) (cond (!te) (some false) (cond (decide (4<(a0.ag.length:Int))) (some false) (cond (decide (a0.bR<0)) (some false) (cond (decide (2<a0.bR)) (some false) ((cond (!decide (a0.ae=eE)) ((bV.f k a0.ae).bind fun tg=>cond (!tg) (some (.inr false)) (cond (decide (a0.ae=a0.cJ)) (some (.inr false)) (cond (a0.bR != 0) (some (.inr false)) (some (.inl ()))))) (some (.inl ()))).bind (fall fun pa=>(gJ.l0 k a0 k 0).bind (fall fun pc=>some true))))))))
def ew.l0 (k:Nat) (a0:aQ) (a1:BA):Nat→Int→Option ((Int×Bool) ⊕ (Int))
 | 0,_=>none
 | ja+1,xc=>cond (decide (xc<(a0.fL.length:Int))) (an ((0:Int)≤xc∧xc<(a0.fL.length:Int)) (cond (decide (((Event.K.at a0.fL xc).cJ)=a1)) (some (.inr xc)) (ew.l0 k a0 a1 ja (aw (xc+1))))) (some (.inl (xc,decide (xc<(a0.fL.length:Int)))))
def ew.f (k:Nat) (a0:aQ) (a1:BA):Option (Int):=(ew.l0 k a0 a1 k 0).bind (fall fun pa=>some (-1))
def dK.l0 (k:Nat) (a0:aQ) (a1:Event):Nat→Int→Option ((Int×Bool) ⊕ (aQ×Int))
 | 0,_=>none
 | ja+1,xc=>cond (decide (xc<(a1.ag.length:Int))) (an ((0:Int)≤xc∧xc<(a1.ag.length:Int)) ((ew.f k a0 (aH.at a1.ag xc)).bind fun ta=>cond (decide (ta<0)) (some (.inr (a0,4))) (dK.l0 k a0 a1 ja (aw (xc+1))))) (some (.inl (xc,decide (xc<(a1.ag.length:Int)))))
def dK.f (k:Nat) (a0:aQ) (a1:Event):Option (aQ×Int):=(gJ.f k a1).bind fun ta=>cond (!ta) (some (a0,1)) (cond (!decide (a1.aa=a0.aa)) (some (a0,1)) ((ew.f k a0 a1.cJ).bind fun tc=>cond (decide (0≤tc)) (some (a0,9)) ((dK.l0 k a0 a1 k 0).bind (fall fun pa=>(cond (!decide (a1.ae=eE)) ((ew.f k a0 a1.ae).bind fun te=>cond (decide (te<0)) (some (.inr (a0,4))) (an ((0:Int)≤te∧te<(a0.fL.length:Int)) (cond (!decide (((Event.K.at a0.fL te).ae)=eE)) (some (.inr (a0,7))) (an ((0:Int)≤te∧te<(a0.fL.length:Int)) (cond (((Event.K.at a0.fL te).bR) != 0) (some (.inr (a0,7))) (some (.inl ()))))))) (some (.inl ()))).bind (fall fun pc=>an (([]:List Event).length+a0.fL.length≤9223372036854775807∧(([]:List Event).length+a0.fL.length)*96≤140737488355328) (an ((([]:List Event)++a0.fL).length+([a1]:List Event).length≤9223372036854775807∧((([]:List Event)++a0.fL).length+([a1]:List Event).length)*96≤140737488355328) (some ((⟨a0.aa,(([]:List Event)++a0.fL)++([a1]:List Event)⟩:aQ),0))))))))
def eh.l0 (k:Nat) (a0:bF) (a1:Event) (ta:aQ×Int):Nat→Bool→Int→List aQ→Option (Bool×Int×Bool×(List aQ))
 | 0,_,_,_=>none
 | ja+1,xc,xd,xe=>cond (decide (xd<(a0.fD.length:Int))) ((cond (!xc) (an ((0:Int)≤xd∧xd<(a0.fD.length:Int)) (cond (!dO ((aQ.K.at a0.fD xd).aa) a1.aa) (an (xe.length+([ta.1]:List aQ).length≤9223372036854775807∧(xe.length+([ta.1]:List aQ).length)*40≤140737488355328) (some (true,!dO ((aQ.K.at a0.fD xd).aa) a1.aa,xe++([ta.1]:List aQ)))) (some (xc,!dO ((aQ.K.at a0.fD xd).aa) a1.aa,xe)))) (some (xc,false,xe))).bind fun (pa:Bool×Bool×(List aQ))=>an ((0:Int)≤xd∧xd<(a0.fD.length:Int)) (cond (!decide (((aQ.K.at a0.fD xd).aa)=a1.aa)) (an ((0:Int)≤xd∧xd<(a0.fD.length:Int)) (an (pa.2.2.length+([aQ.K.at a0.fD xd]:List aQ).length≤9223372036854775807∧(pa.2.2.length+([aQ.K.at a0.fD xd]:List aQ).length)*40≤140737488355328) (eh.l0 k a0 a1 ta ja pa.1 (aw (xd+1)) (pa.2.2++([aQ.K.at a0.fD xd]:List aQ))))) (eh.l0 k a0 a1 ta ja pa.1 (aw (xd+1)) pa.2.2))) (some (xc,xd,decide (xd<(a0.fD.length:Int)),xe))
def eh.f (k:Nat) (a0:bF) (a1:Event):Option (bF×Int):=(iJ.f k a0 a1.aa).bind fun ta=>(dK.f k ta a1).bind fun tc=>cond (tc.2 != 0) (some (a0,tc.2)) ((eh.l0 k a0 a1 tc k false 0 ([]:List aQ)).bind fun (pa:Bool×Int×Bool×(List aQ))=>cond (!pa.1) (an (pa.2.2.2.length+([tc.1]:List aQ).length≤9223372036854775807∧(pa.2.2.2.length+([tc.1]:List aQ).length)*40≤140737488355328) (some ((⟨pa.2.2.2++([tc.1]:List aQ)⟩:bF),0))) (some ((⟨pa.2.2.2⟩:bF),0)))
def gP.l0 (k:Nat) (a0:List Event):Nat→Int→List aQ→Option (Int×Bool×(List aQ))
 | 0,_,_=>none
 | ja+1,xc,xd=>cond (decide (xc<(a0.length:Int))) (an ((0:Int)≤xc∧xc<(a0.length:Int)) ((eh.f k (⟨xd⟩:bF) (Event.K.at a0 xc)).bind fun ta=>gP.l0 k a0 ja (aw (xc+1)) ta.1.fD)) (some (xc,decide (xc<(a0.length:Int)),xd))
def gP.f (k:Nat) (a0:List Event):Option (bF):=(gP.l0 k a0 k 0 ([]:List aQ)).bind fun (pa:Int×Bool×(List aQ))=>some (⟨pa.2.2⟩:bF)
def ff.l0 (k:Nat) (a0:List Event) (ta:(Option jF)×Int) (tc:(Option cH)×Int) (te:bZ) (tg:cI):Nat→Int→aL→Option ((Int×Bool×aL) ⊕ (Src×dt×Bool))
 | 0,_,_=>none
 | ja+1,xc,xd=>cond (decide (xc<(a0.length:Int))) (an ((0:Int)≤xc∧xc<(a0.length:Int)) ((iC.f k xd (Event.K.at a0 xc)).bind fun tj=>cond (tj.1 != 0) (some (.inr ((⟨tj.2,ta.1.getD default,te,tg,tc.1.getD default⟩:Src),(⟨(⟨([]:List aQ)⟩:bF),([]:List MK),(⟨([]:List ak),([]:List Bool)⟩:kE),(⟨([]:List ak),([]:List Int)⟩:lD),([]:List kZ),0⟩:dt),false))) (ff.l0 k a0 ta tc te tg ja (aw (xc+1)) tj.2))) (some (.inl (xc,decide (xc<(a0.length:Int)),xd)))
def ff.f (k:Nat) (a0:List Event) (a1:Int):Option (Src×dt×Bool):=(oh.f 8).bind fun ta=>(mZ.f a1 (aw (a1+1000))).bind fun tc=>(rz.f).bind fun te=>(nq.f).bind fun tg=>(lB.f).bind fun tj=>an (ta.1.isSome=true) (an (tc.1.isSome=true) (cond (ta.2 != 0) (some ((⟨te,ta.1.getD default,tg,tj,tc.1.getD default⟩:Src),(⟨(⟨([]:List aQ)⟩:bF),([]:List MK),(⟨([]:List ak),([]:List Bool)⟩:kE),(⟨([]:List ak),([]:List Int)⟩:lD),([]:List kZ),0⟩:dt),false)) (cond (tc.2 != 0) (some ((⟨te,ta.1.getD default,tg,tj,tc.1.getD default⟩:Src),(⟨(⟨([]:List aQ)⟩:bF),([]:List MK),(⟨([]:List ak),([]:List Bool)⟩:kE),(⟨([]:List ak),([]:List Int)⟩:lD),([]:List kZ),0⟩:dt),false)) ((ff.l0 k a0 ta tc tg tj k 0 te).bind (fall fun pa=>(gP.f k a0).bind fun tm=>some ((⟨pa.2.2,ta.1.getD default,tg,tj,tc.1.getD default⟩:Src),(⟨tm,([]:List MK),(⟨([]:List ak),([]:List Bool)⟩:kE),(⟨([]:List ak),([]:List Int)⟩:lD),([]:List kZ),a1⟩:dt),true))))))
def bp.f (a0:Int) (a1:Int):Option (Int):=cond (decide (a0<0)) (an (a1≠0) (some ((aw (0-(aw (a0+1)))).tmod a1))) (an (a1≠0) (some (a0.tmod a1)))
def fb.f (a0:Int):Option (BA):=(bp.f a0 2).bind fun ta=>an ((0:Int)≤ta∧ta<(([(⟨#[33,114,58,115,49]⟩:BA),(⟨#[33,113,58,115,50]⟩:BA)]:List BA).length:Int)) (some (aH.at ([(⟨#[33,114,58,115,49]⟩:BA),(⟨#[33,113,58,115,50]⟩:BA)]:List BA) ta))
def mR.f (a0:Int):Option (BA):=(bp.f a0 3).bind fun ta=>an ((0:Int)≤ta∧ta<(([(⟨#[115,49]⟩:BA),(⟨#[115,50]⟩:BA),(⟨#[115,51]⟩:BA)]:List BA).length:Int)) (some (aH.at ([(⟨#[115,49]⟩:BA),(⟨#[115,50]⟩:BA),(⟨#[115,51]⟩:BA)]:List BA) ta))
def gU.f (a0:Int):Option (BA):=(bp.f a0 9).bind fun ta=>an ((0:Int)≤(aw (ta.tdiv 3))∧(aw (ta.tdiv 3))<(([(⟨#[64,97,58]⟩:BA),(⟨#[64,98,58]⟩:BA),(⟨#[64,99,58]⟩:BA)]:List BA).length:Int)) ((mR.f (ta.tmod 3)).bind fun tc=>an ((aH.at ([(⟨#[64,97,58]⟩:BA),(⟨#[64,98,58]⟩:BA),(⟨#[64,99,58]⟩:BA)]:List BA) (aw (ta.tdiv 3))).size+tc.size≤9223372036854775807) (some ((aH.at ([(⟨#[64,97,58]⟩:BA),(⟨#[64,98,58]⟩:BA),(⟨#[64,99,58]⟩:BA)]:List BA) (aw (ta.tdiv 3)))++tc)))
def il.f:Nat→Int→Option (BA)
 | 0,_=>none
 | k+1,a0=>(cond (decide ((a0.tmod 10)<0)) (some (aw (0-(a0.tmod 10)))) (some (a0.tmod 10))).bind fun (pa:Int)=>cond (decide ((-10)<a0)) (cond (decide (a0<10)) (cond (decide (a0<0)) (an ((⟨#[45]⟩:BA).size+(fZ ([IntKind.u8.wrap (aw (48+pa))]:List Int)).size≤9223372036854775807) (some ((⟨#[45]⟩:BA)++(fZ ([IntKind.u8.wrap (aw (48+pa))]:List Int))))) (some (fZ ([IntKind.u8.wrap (aw (48+pa))]:List Int)))) ((il.f k (aw (a0.tdiv 10))).bind fun ta=>an (ta.size+(fZ ([IntKind.u8.wrap (aw (48+pa))]:List Int)).size≤9223372036854775807) (some (ta++(fZ ([IntKind.u8.wrap (aw (48+pa))]:List Int)))))) ((il.f k (aw (a0.tdiv 10))).bind fun tc=>an (tc.size+(fZ ([IntKind.u8.wrap (aw (48+pa))]:List Int)).size≤9223372036854775807) (some (tc++(fZ ([IntKind.u8.wrap (aw (48+pa))]:List Int)))))
def dq.f (k:Nat) (a0:Int):Option (BA):=(bp.f a0 9).bind fun ta=>(il.f k ta).bind fun tc=>an ((⟨#[36,101]⟩:BA).size+tc.size≤9223372036854775807) (some ((⟨#[36,101]⟩:BA)++tc))
def bJ.l1 (k:Nat) (xc:Int) (pa:Int×Bool×(List Bool)):Nat→Int→List BA→Option (Int×Bool×(List BA))
 | 0,_,_=>none
 | ja+1,xd,xe=>cond (decide (xd<xc)) (an ((0:Int)≤xd∧xd<(pa.2.2.length:Int)) (cond (pa.2.2.getD xd.toNat default) ((dq.f k xd).bind fun ta=>an (xe.length+([ta]:List BA).length≤9223372036854775807∧(xe.length+([ta]:List BA).length)*16≤140737488355328) (bJ.l1 k xc pa ja (aw (xd+1)) (xe++([ta]:List BA)))) (bJ.l1 k xc pa ja (aw (xd+1)) xe))) (some (xd,decide (xd<xc),xe))
def bJ.l2 (k:Nat) (a1:List dw) (xc:Int):Nat→Int→List Bool→Option (Int×Bool×(List Bool))
 | 0,_,_=>none
 | ja+1,xd,xe=>an ((0:Int)≤xc∧xc<(a1.length:Int)) (cond (decide (xd<(((dw.K.at a1 xc).ag).length:Int))) (cond (decide (xd<3)) (cond (decide (0<xc)) (an ((0:Int)≤xc∧xc<(a1.length:Int)) (an ((0:Int)≤xd∧xd<(((dw.K.at a1 xc).ag).length:Int)) ((bp.f ((bG .i64).at ((dw.K.at a1 xc).ag) xd) xc).bind fun ta=>an ((0:Int)≤ta∧ta<(xe.length:Int)) (bJ.l2 k a1 xc ja (aw (xd+1)) (xe.set ta.toNat true))))) (some (xd,decide (0<xc),xe))) (some (xd,false,xe))) (some (xd,false,xe)))
def bJ.l0 (k:Nat) (a0:BA) (a1:List dw):Nat→Int→BA→List Event→Option (Int×Bool×BA×(List Event))
 | 0,_,_,_=>none
 | ja+1,xc,xd,xe=>cond (decide (xc<(a1.length:Int))) (cond (decide (xc<9)) (((dq.f k xc).bind fun ta=>an ((0:Int)≤xc∧xc<(a1.length:Int)) ((gU.f ((dw.K.at a1 xc).ai)).bind fun tc=>an ((0:Int)≤xc∧xc<(a1.length:Int)) ((bp.f ((dw.K.at a1 xc).bR) 3).bind fun te=>an ((0:Int)≤9∧9≤(9223372036854775807:Int)∧(9:Int).toNat*1≤140737488355328) ((bJ.l2 k a1 xc k 0 (List.replicate (9:Int).toNat (false:Bool))).bind fun (pa:Int×Bool×(List Bool))=>(bJ.l1 k xc pa k 0 ([]:List BA)).bind fun (pc:Int×Bool×(List BA))=>cond (te==0) (cond (decide (0<xc)) (an ((0:Int)≤xc∧xc<(a1.length:Int)) ((bp.f ((dw.K.at a1 xc).ae) (aw (2*xc))).bind fun tg=>cond (decide (tg<xc)) (an ((0:Int)≤tg∧tg<(xe.length:Int)) (cond (((Event.K.at xe tg).bR)==0) (an ((0:Int)≤tg∧tg<(xe.length:Int)) (cond (decide (((Event.K.at xe tg).ae)=eE)) ((dq.f k tg).bind fun tj=>(dK.f k (⟨xd,xe⟩:aQ) (⟨ta,a0,pc.2.2,tj,tc,te⟩:Event)).bind fun tm=>some (pa.1,pc.1,pa.2.1,pc.2.1,decide (0<xc),tm.1.aa,tm.1.fL,pa.2.2)) ((dK.f k (⟨xd,xe⟩:aQ) (⟨ta,a0,pc.2.2,eE,tc,te⟩:Event)).bind fun tn=>some (pa.1,pc.1,pa.2.1,pc.2.1,decide (0<xc),tn.1.aa,tn.1.fL,pa.2.2)))) ((dK.f k (⟨xd,xe⟩:aQ) (⟨ta,a0,pc.2.2,eE,tc,te⟩:Event)).bind fun tp=>some (pa.1,pc.1,pa.2.1,pc.2.1,decide (0<xc),tp.1.aa,tp.1.fL,pa.2.2)))) ((dK.f k (⟨xd,xe⟩:aQ) (⟨ta,a0,pc.2.2,eE,tc,te⟩:Event)).bind fun tq=>some (pa.1,pc.1,pa.2.1,pc.2.1,decide (0<xc),tq.1.aa,tq.1.fL,pa.2.2)))) ((dK.f k (⟨xd,xe⟩:aQ) (⟨ta,a0,pc.2.2,eE,tc,te⟩:Event)).bind fun tu=>some (pa.1,pc.1,pa.2.1,pc.2.1,decide (0<xc),tu.1.aa,tu.1.fL,pa.2.2))) ((dK.f k (⟨xd,xe⟩:aQ) (⟨ta,a0,pc.2.2,eE,tc,te⟩:Event)).bind fun tw=>some (pa.1,pc.1,pa.2.1,pc.2.1,false,tw.1.aa,tw.1.fL,pa.2.2)))))).bind fun (pe:Int×Int×Bool×Bool×Bool×BA×(List Event)×(List Bool))=>bJ.l0 k a0 a1 ja (aw (xc+1)) pe.2.2.2.2.2.1 pe.2.2.2.2.2.2.1) (some (xc,decide (xc<9),xd,xe))) (some (xc,false,xd,xe))
def bJ.f (k:Nat) (a0:BA) (a1:List dw):Option (aQ):=(bJ.l0 k a0 a1 k 0 a0 ([]:List Event)).bind fun (pa:Int×Bool×BA×(List Event))=>some (⟨pa.2.2.1,pa.2.2.2⟩:aQ)
def ov.f (k:Nat) (a0:List dw) (a1:List dw):Option ((List Event)):=(fb.f 0).bind fun ta=>(bJ.f k ta a0).bind fun tc=>an (([]:List Event).length+tc.fL.length≤9223372036854775807∧(([]:List Event).length+tc.fL.length)*96≤140737488355328) ((fb.f 1).bind fun te=>(bJ.f k te a1).bind fun tg=>an ((([]:List Event)++tc.fL).length+tg.fL.length≤9223372036854775807∧((([]:List Event)++tc.fL).length+tg.fL.length)*96≤140737488355328) (some ((([]:List Event)++tc.fL)++tg.fL)))
def fX.l0 (k:Nat) (a0:List MK) (a1:bx):Nat→Int→Option ((Int×Bool) ⊕ (Int))
 | 0,_=>none
 | ja+1,xc=>cond (decide (xc<(a0.length:Int))) (an ((0:Int)≤xc∧xc<(a0.length:Int)) (cond (decide ((MK.K.at a0 xc).fK=a1)) (some (.inr xc)) (fX.l0 k a0 a1 ja (aw (xc+1))))) (some (.inl (xc,decide (xc<(a0.length:Int)))))
def fX.f (k:Nat) (a0:List MK) (a1:bx):Option (Int):=(fX.l0 k a0 a1 k 0).bind (fall fun pa=>some (-1))
def kQ.f (a0:Pos) (a1:Pos):Option (Bool):=cond (decide (a0.bq<a1.bq)) (some true) (cond (a0.bq==a1.bq) (some (dO a0.cJ a1.cJ)) (some false))
def lU.f (a0:bx) (a1:bx):Option (Bool):=cond (!decide (a0.aa=a1.aa)) (some (dO a0.aa a1.aa)) (cond (!decide (a0.ai=a1.ai)) (some (dO a0.ai a1.ai)) (cond (!decide (a0.ae=a1.ae)) (some (dO a0.ae a1.ae)) (cond (!a0.ao) (some a1.ao) (some false))))
def ji.l0 (k:Nat) (a0:List MK) (a1:bx):Nat→Int→Option (Int×Bool)
 | 0,_=>none
 | ja+1,xc=>cond (decide (xc<(a0.length:Int))) (an ((0:Int)≤xc∧xc<(a0.length:Int)) ((lU.f ((MK.K.at a0 xc).fK) a1).bind fun ta=>cond ta (ji.l0 k a0 a1 ja (aw (xc+1))) (some (xc,ta)))) (some (xc,false))
def ji.f (k:Nat) (a0:List MK) (a1:bx) (a2:Pos):Option ((List MK)×Bool):=(fX.f k a0 a1).bind fun ta=>cond (decide (0≤ta)) (an ((0:Int)≤ta∧ta<(a0.length:Int)) ((kQ.f ((MK.K.at a0 ta).fY) a2).bind fun tc=>cond (!tc) (some (a0,false)) (an (([]:List MK).length+a0.length≤9223372036854775807∧(([]:List MK).length+a0.length)*80≤140737488355328) (an ((0:Int)≤ta∧ta<((([]:List MK)++a0).length:Int)) (some ((([]:List MK)++a0).set ta.toNat (⟨((([]:List MK)++a0).getD ta.toNat default).fK,a2⟩:MK),true)))))) ((ji.l0 k a0 a1 k 0).bind fun (pa:Int×Bool)=>an ((0:Int)≤pa.1∧0≤pa.1.toNat∧pa.1.toNat≤a0.length) (an (([]:List MK).length+((a0.take pa.1.toNat).drop 0).length≤9223372036854775807∧(([]:List MK).length+((a0.take pa.1.toNat).drop 0).length)*80≤140737488355328) (an ((([]:List MK)++((a0.take pa.1.toNat).drop 0)).length+([(⟨a1,a2⟩:MK)]:List MK).length≤9223372036854775807∧((([]:List MK)++((a0.take pa.1.toNat).drop 0)).length+([(⟨a1,a2⟩:MK)]:List MK).length)*80≤140737488355328) (an ((0:Int)≤pa.1∧pa.1.toNat≤a0.length∧a0.length≤a0.length) (an (((([]:List MK)++((a0.take pa.1.toNat).drop 0))++([(⟨a1,a2⟩:MK)]:List MK)).length+((a0.take a0.length).drop pa.1.toNat).length≤9223372036854775807∧(((([]:List MK)++((a0.take pa.1.toNat).drop 0))++([(⟨a1,a2⟩:MK)]:List MK)).length+((a0.take a0.length).drop pa.1.toNat).length)*80≤140737488355328) (some (((([]:List MK)++((a0.take pa.1.toNat).drop 0))++([(⟨a1,a2⟩:MK)]:List MK))++((a0.take a0.length).drop pa.1.toNat),true)))))))
def pA.f (a0:ak):Option (bx):=some (⟨a0.aa,a0.ai,a0.ae,a0.ao⟩:bx)
def l7.f (k:Nat) (a0:BA):Option (Bool):=(bV.f k a0).bind fun ta=>cond (decide (a0=eE)) (some true) (cond (decide (a0=(⟨#[109,97,105,110]⟩:BA))) (some true) (some ta))
def fQ.f (k:Nat) (a0:ak):Option (Bool):=(ic.f k a0.ai 64).bind fun ta=>(ic.f k a0.aa 33).bind fun tc=>(bV.f k a0.bC).bind fun te=>(l7.f k a0.ae).bind fun tg=>cond (!ta) (some false) (cond (decide (a0.aS<0)) (some false) (cond (decide (1099511627776<a0.aS)) (some false) (cond (decide (a0.aY<0)) (some false) (cond (decide (1099511627776<a0.aY)) (some false) (cond (a0.aG==1) (cond tc (cond te (cond tg (cond (!a0.jS) (cond (a0.b8==0) (some (a0.aM==0)) (some false)) (some false)) (some false)) (some false)) (some false)) (cond (a0.aG==2) (cond a0.jS (cond (decide (1≤a0.b8)) (cond (decide (a0.b8≤60)) (cond tc (cond (decide (a0.bC=eE)) (cond (decide (a0.ae=eE)) (cond (a0.aM==0) (some (!a0.ao)) (some false)) (some false)) (some false)) (some false)) (cond (!a0.jS) (cond tc (cond (a0.b8==0) (cond (decide (a0.bC=eE)) (cond (decide (a0.ae=eE)) (cond (a0.aM==0) (some (!a0.ao)) (some false)) (some false)) (some false)) (some false)) (some false)) (cond tc (some false) (some false)))) (cond (!a0.jS) (cond tc (cond (a0.b8==0) (cond (decide (a0.bC=eE)) (cond (decide (a0.ae=eE)) (cond (a0.aM==0) (some (!a0.ao)) (some false)) (some false)) (some false)) (some false)) (some false)) (cond tc (some false) (some false)))) (cond (!a0.jS) (cond tc (cond (a0.b8==0) (cond (decide (a0.bC=eE)) (cond (decide (a0.ae=eE)) (cond (a0.aM==0) (some (!a0.ao)) (some false)) (some false)) (some false)) (some false)) (some false)) (cond tc (some false) (some false)))) (cond (a0.aG==3) (cond (decide (a0.aa=eE)) (cond (decide (a0.bC=eE)) (cond (decide (a0.ae=eE)) (cond (!a0.jS) (cond (a0.b8==0) (cond (!a0.ao) (cond (decide (0≤a0.aM)) (some (decide (a0.aM≤2))) (some false)) (some false)) (some false)) (some false)) (some false)) (some false)) (some false)) (some false))))))))
def ow.f (k:Nat) (a0:bF) (a1:BA) (a2:BA) (a3:BA):Option (Int):=(iJ.f k a0 a1).bind fun ta=>(ew.f k ta a2).bind fun tc=>cond (decide (tc<0)) (some 4) (an ((0:Int)≤tc∧tc<(ta.fL.length:Int)) (cond (decide (a3=eE)) (some 0) (cond (decide (a3=a2)) (some 0) (cond (decide (a3=(⟨#[109,97,105,110]⟩:BA))) (cond (decide (((Event.K.at ta.fL tc).ae)=eE)) (some 0) (cond (!decide (((Event.K.at ta.fL tc).ae)=eE)) (cond (decide (a3=((Event.K.at ta.fL tc).ae))) (some 0) (some 7)) (some 7))) (cond (!decide (((Event.K.at ta.fL tc).ae)=eE)) (cond (decide (a3=((Event.K.at ta.fL tc).ae))) (some 0) (some 7)) (some 7))))))
def ke.l0 (k:Nat) (a0:nH) (a1:ak):Nat→Int→Option ((Int×Bool) ⊕ (nH×ak×Bool))
 | 0,_=>none
 | ja+1,xc=>cond (decide (xc<(a0.fL.length:Int))) (an ((0:Int)≤xc∧xc<(a0.fL.length:Int)) (cond (decide (ak.K.at a0.fL xc=a1)) (some (.inr (a0,(⟨0,eE,eE,eE,eE,false,false,0,0,0,0⟩:ak),false))) (ke.l0 k a0 a1 ja (aw (xc+1))))) (some (.inl (xc,decide (xc<(a0.fL.length:Int)))))
def ke.f (k:Nat) (a0:nH) (a1:ak):Option (nH×ak×Bool):=(ke.l0 k a0 a1 k 0).bind (fall fun pa=>an (([]:List ak).length+a0.fL.length≤9223372036854775807∧(([]:List ak).length+a0.fL.length)*112≤140737488355328) (an ((([]:List ak)++a0.fL).length+([a1]:List ak).length≤9223372036854775807∧((([]:List ak)++a0.fL).length+([a1]:List ak).length)*112≤140737488355328) (cond (decide (a0.o8<(((([]:List ak)++a0.fL)++([a1]:List ak)).length:Int))) (an ((0:Int)≤1∧(1:Int).toNat≤((([]:List ak)++a0.fL)++([a1]:List ak)).length∧((([]:List ak)++a0.fL)++([a1]:List ak)).length≤((([]:List ak)++a0.fL)++([a1]:List ak)).length) (an ((0:Int)≤0∧0<(((([]:List ak)++a0.fL)++([a1]:List ak)).length:Int)) (some ((⟨a0.o8,(((([]:List ak)++a0.fL)++([a1]:List ak)).take (((([]:List ak)++a0.fL)++([a1]:List ak)).length)).drop ((1:Int).toNat),aw (a0.pK+1)⟩:nH),ak.K.at ((([]:List ak)++a0.fL)++([a1]:List ak)) 0,true)))) (some ((⟨a0.o8,(([]:List ak)++a0.fL)++([a1]:List ak),a0.pK⟩:nH),(⟨0,eE,eE,eE,eE,false,false,0,0,0,0⟩:ak),false)))))
def dz.l1 (k:Nat) (a0:aQ) (xc:Int):Nat→Int→List Int→Option (Int×Bool×(List Int))
 | 0,_,_=>none
 | ja+1,xd,xe=>an ((0:Int)≤xc∧xc<(a0.fL.length:Int)) (cond (decide (xd<(((Event.K.at a0.fL xc).ag).length:Int))) (an ((0:Int)≤xc∧xc<(xe.length:Int)) (an ((0:Int)≤xc∧xc<(a0.fL.length:Int)) (an ((0:Int)≤xd∧xd<(((Event.K.at a0.fL xc).ag).length:Int)) ((ew.f k a0 (aH.at ((Event.K.at a0.fL xc).ag) xd)).bind fun ta=>an ((0:Int)≤ta∧ta<(xe.length:Int)) (an ((0:Int)≤xc∧xc<(xe.length:Int)) (dz.l1 k a0 xc ja (aw (xd+1)) (xe.set xc.toNat (max (xe.getD xc.toNat default) (aw ((xe.getD ta.toNat default)+1)))))))))) (some (xd,decide (xd<(((Event.K.at a0.fL xc).ag).length:Int)),xe)))
def dz.l0 (k:Nat) (a0:aQ) (ta:Int):Nat→Int→List Int→Option (Int×Bool×(List Int))
 | 0,_,_=>none
 | ja+1,xc,xd=>cond (decide (xc≤ta)) ((dz.l1 k a0 xc k 0 xd).bind fun (pa:Int×Bool×(List Int))=>dz.l0 k a0 ta ja (aw (xc+1)) pa.2.2) (some (xc,decide (xc≤ta),xd))
def dz.f (k:Nat) (a0:aQ) (a1:BA):Option (Int):=(ew.f k a0 a1).bind fun ta=>cond (decide (ta<0)) (some 0) (an ((0:Int)≤(aw (ta+1))∧(aw (ta+1))≤(9223372036854775807:Int)∧(aw (ta+1)).toNat*8≤140737488355328) ((dz.l0 k a0 ta k 0 (List.replicate (aw (ta+1)).toNat (0:Int))).bind fun (pa:Int×Bool×(List Int))=>an ((0:Int)≤ta∧ta<(pa.2.2.length:Int)) (some (pa.2.2.getD ta.toNat default))))
def gI.f (k:Nat) (a0:aQ) (a1:BA):Option (Pos):=(dz.f k a0 a1).bind fun ta=>some (⟨ta,a1⟩:Pos)
def kg.f (k:Nat) (a0:bF) (a1:BA) (a2:BA):Option (Pos×Bool):=(iJ.f k a0 a1).bind fun ta=>(ew.f k ta a2).bind fun tc=>cond (decide (tc<0)) (some ((⟨0,eE⟩:Pos),false)) ((gI.f k ta a2).bind fun te=>some (te,true))
def qJ.f (k:Nat) (a0:ql) (a1:bF) (a2:ak):Option (ql×Bool×Int):=(fQ.f k a2).bind fun ta=>cond (a2.aG != 1) (some ((⟨a0.fL,a0.fP⟩:ql),false,1)) (cond (!ta) (some ((⟨a0.fL,a0.fP⟩:ql),false,1)) ((ow.f k a1 a2.aa a2.bC a2.ae).bind fun tc=>cond (tc==4) ((ke.f k a0.fP a2).bind fun te=>some ((⟨a0.fL,te.1⟩:ql),false,0)) (cond (tc != 0) (some ((⟨a0.fL,a0.fP⟩:ql),false,tc)) ((kg.f k a1 a2.aa a2.bC).bind fun tg=>(pA.f a2).bind fun tj=>(ji.f k a0.fL tj tg.1).bind fun tm=>some ((⟨tm.1,a0.fP⟩:ql),tm.2,0)))))
def cK.f (a0:Int) (a1:Int) (a2:Int):Option (Bool):=cond (decide (a1≤a0)) (some (decide (a0≤a2))) (some false)
def iI.f (a0:ak):Option (Bool):=some false
def kR.f (k:Nat) (a0:BA):Option (Bool):=cond (decide (a0=eE)) (some true) (cond (decide (a0=(⟨#[109,97,105,110]⟩:BA))) (some true) ((ea.f k a0).bind fun ta=>some ta))
def gA.f (k:Nat) (a0:ak):Option (Bool):=(kb.f k a0.aa).bind fun ta=>cond ta ((ea.f k a0.bC).bind fun tc=>cond tc ((kR.f k a0.ae).bind fun te=>some te) (some false)) (some false)
def fq.f (k:Nat) (a0:ak) (c0:Int→Int→Int→Option Bool):Option (Bool):=(kb.f k a0.aa).bind fun ta=>cond ta (cond (!a0.jS) (some true) ((c0 a0.b8 1 60).bind fun tc=>some tc)) (some false)
def fE.f (a0:ak) (c0:Int→Int→Int→Option Bool):Option (Bool):=(c0 a0.aM 0 2).bind fun ta=>some ta
def nE.f (k:Nat):Option ((List (ak→Option Bool))):=some ([iI.f,gA.f k,fun a0_=>fq.f k a0_ cK.f,fun a0_=>fE.f a0_ cK.f]:List (ak→Option Bool))
def im.f (a0:Int):Option (Bool):=cond (decide (0≤a0)) (some (decide (a0≤1099511627776))) (some false)
def lY.f (a0:ak):Option (ak):=cond (a0.aG==1) (some (⟨a0.aG,a0.aa,a0.ai,a0.bC,a0.ae,a0.ao,false,0,0,a0.aS,a0.aY⟩:ak)) (cond (a0.aG==2) (cond a0.jS (some (⟨a0.aG,a0.aa,a0.ai,eE,eE,false,a0.jS,a0.b8,0,a0.aS,a0.aY⟩:ak)) (some (⟨a0.aG,a0.aa,a0.ai,eE,eE,false,a0.jS,0,0,a0.aS,a0.aY⟩:ak))) (cond (a0.aG==3) (some (⟨a0.aG,eE,a0.ai,eE,eE,false,false,0,a0.aM,a0.aS,a0.aY⟩:ak)) (some (⟨a0.aG,eE,a0.ai,eE,eE,false,false,0,0,a0.aS,a0.aY⟩:ak))))
def eJ.f (k:Nat) (a0:ak):Option (Bool):=cond (decide (a0.aG<0)) (some false) (cond (decide (3<a0.aG)) (some false) ((nE.f k).bind fun ta=>an ((0:Int)≤a0.aG∧a0.aG<(ta.length:Int)) (((ig.at ta a0.aG) a0).bind fun tc=>cond (!tc) (some false) ((lY.f a0).bind fun te=>cond (decide (a0=te)) ((lX.f k a0.ai).bind fun tg=>cond tg ((im.f a0.aS).bind fun tj=>cond tj ((im.f a0.aY).bind fun tm=>some tm) (some false)) (some false)) (some false)))))
def kH.f (a0:bf) (a1:BA):Option (Event×Bool):=(ec.f a0 a1).bind fun ta=>cond (!ta) (some ((⟨eE,eE,([]:List BA),eE,eE,0⟩:Event),false)) (an ((mget a0.aq a1).isSome=true) ((iA.f (((mget a0.aq a1).getD default).fe)).bind fun tc=>some (tc,true)))
def iM.f (a0:aL) (a1:BA) (a2:BA) (a3:BA):Option (Int):=(aO.f a0 a1).bind fun ta=>(kH.f ta a2).bind fun tc=>cond (!tc.2) (some 4) (cond (decide (a3=eE)) (cond (decide (a3=eE)) (some 0) (some 7)) (cond (decide (a3=(⟨#[109,97,105,110]⟩:BA))) (cond (decide (tc.1.ae=eE)) (cond (decide (tc.1.ae=eE)) (some 0) (some 7)) (cond (decide (a3=a2)) (cond (decide (a3=a2)) (some 0) (some 7)) (cond (decide (a3=tc.1.ae)) (some 0) (some 7)))) (cond (decide (a3=a2)) (cond (decide (a3=a2)) (some 0) (some 7)) (cond (decide (a3=tc.1.ae)) (some 0) (some 7)))))
def b9.l0 (k:Nat) (a0:List ak) (a1:ak):Nat→Int→Option ((Int×Bool) ⊕ (Int))
 | 0,_=>none
 | ja+1,xc=>cond (decide (xc<(a0.length:Int))) (an ((0:Int)≤xc∧xc<(a0.length:Int)) (cond (decide (a1=ak.K.at a0 xc)) (some (.inr xc)) (b9.l0 k a0 a1 ja (aw (xc+1))))) (some (.inl (xc,decide (xc<(a0.length:Int)))))
def b9.f (k:Nat) (a0:List ak) (a1:ak):Option (Int):=(b9.l0 k a0 a1 k 0).bind (fall fun pa=>some (-1))
def fc.f (k:Nat) (a0:List ak) (a1:ak):Option (Bool):=(b9.f k a0 a1).bind fun ta=>some (decide (0≤ta))
def eW.f (xs:List ak) (i j:Int):Option (List ak):=an ((0:Int)≤i∧i≤j∧j≤(xs.length:Int)) (some (xs.take i.toNat++xs.drop j.toNat))
def jG.f (k:Nat) (a0:jk) (a1:ak):Option (ak×Bool×jk):=(fc.f k a0.fl a1).bind fun ta=>cond ta (some ((⟨0,eE,eE,eE,eE,false,false,0,0,0,0⟩:ak),false,a0)) (an (a0.fl.length+([a1]:List ak).length≤9223372036854775807∧(a0.fl.length+([a1]:List ak).length)*112≤140737488355328) (cond (decide (((a0.fl++([a1]:List ak)).length:Int)≤a0.dU)) (some ((⟨0,eE,eE,eE,eE,false,false,0,0,0,0⟩:ak),false,(⟨a0.dU,a0.fl++([a1]:List ak),a0.qO⟩:jk))) (an ((0:Int)≤0∧0<((a0.fl++([a1]:List ak)).length:Int)) ((eW.f (a0.fl++([a1]:List ak)) 0 1).bind fun tc=>some ((a0.fl++([a1]:List ak)).getD ((0:Int).toNat) default,true,(⟨a0.dU,tc,aw (a0.qO+1)⟩:jk))))))
def gQ.f (a0:bf) (a1:BA):Option (Pos×Bool):=(ec.f a0 a1).bind fun ta=>cond (!ta) (some ((⟨0,eE⟩:Pos),false)) (an ((mget a0.aq a1).isSome=true) (some ((⟨((mget a0.aq a1).getD default).cN,a1⟩:Pos),true)))
def fk.f (a0:aL) (a1:BA) (a2:BA):Option (Pos×Bool):=(aO.f a0 a1).bind fun ta=>(gQ.f ta a2).bind fun tc=>some (tc.1,tc.2)
def cmp_isNaN_string.f (a0:BA):Option (Bool):=some (!decide (a0=a0))
def aD.f (a0:BA) (a1:BA):Option (Int):=(cmp_isNaN_string.f a0).bind fun ta=>(cmp_isNaN_string.f a1).bind fun tc=>cond ta (cond tc (some 0) (some (-1))) (cond tc (some 1) (cond (dO a0 a1) (some (-1)) (cond (dO a1 a0) (some 1) (some 0))))
def bD.l0 (k:Nat) (a0:List Int):Nat→Int→Option ((Int×Bool) ⊕ (Int))
 | 0,_=>none
 | ja+1,xc=>cond (decide (xc<(a0.length:Int))) (an ((0:Int)≤xc∧xc<(a0.length:Int)) (cond (((bG .i64).at a0 xc) != 0) (some (.inr ((bG .i64).at a0 xc))) (bD.l0 k a0 ja (aw (xc+1))))) (some (.inl (xc,decide (xc<(a0.length:Int)))))
def bD.f (k:Nat) (a0:List Int):Option (Int):=(bD.l0 k a0 k 0).bind (fall fun pa=>some 0)
def cmp_isNaN_int.f (a0:Int):Option (Bool):=some (a0 != a0)
def cC.f (a0:Int) (a1:Int):Option (Int):=(cmp_isNaN_int.f a0).bind fun ta=>(cmp_isNaN_int.f a1).bind fun tc=>cond ta (cond tc (some 0) (some (-1))) (cond tc (some 1) (cond (decide (a0<a1)) (some (-1)) (cond (decide (a1<a0)) (some 1) (some 0))))
def ir.f (k:Nat) (a0:Pos) (a1:Pos):Option (Int):=(cC.f a0.bq a1.bq).bind fun ta=>(aD.f a0.cJ a1.cJ).bind fun tc=>(bD.f k ([ta,tc]:List Int)).bind fun te=>some te
def fN.f (k:Nat) (a0:jO) (a1:bx) (a2:Pos):Option (Bool×jO):=cond ((mget a0.iH a1).isSome) ((ir.f k ((mget a0.iH a1).getD (⟨0,eE⟩:Pos)) a2).bind fun ta=>cond (decide (0≤ta)) (some (false,a0)) (some (true,(⟨mput a0.iH a1 a2⟩:jO)))) (some (true,(⟨mput a0.iH a1 a2⟩:jO)))
def pT.f (a0:ak):Option (bx):=some (⟨a0.aa,a0.ai,a0.ae,a0.ao⟩:bx)
def ib.f (k:Nat) (a0:jF) (a1:aL) (a2:ak):Option (Bool×Int×jF):=cond (a2.aG != 1) (some (false,1,a0)) ((eJ.f k a2).bind fun ta=>cond (!ta) (some (false,1,a0)) ((iM.f a1 a2.aa a2.bC a2.ae).bind fun tc=>cond (tc==4) ((jG.f k a0.pQ a2).bind fun te=>some (false,0,(⟨a0.qn,te.2.2⟩:jF))) (cond (tc==0) ((fk.f a1 a2.aa a2.bC).bind fun tg=>(pT.f a2).bind fun tj=>(fN.f k a0.qn tj tg.1).bind fun tm=>some (tm.1,0,(⟨tm.2,a0.pQ⟩:jF))) (some (false,tc,a0)))))
def strings_Join.f (xs:List BA) (sep:BA):Option BA:=an (xs.length≤140737488355328∧(Lib.join (xs.map (·.data.toList)) sep.data.toList).length≤140737488355328) (some ⟨(Lib.join (xs.map (·.data.toList)) sep.data.toList).toArray⟩)
def iz.f (a0:bx):Option (BA):=cond a0.ao ((strings_Join.f ([(⟨#[109]⟩:BA),a0.aa,a0.ai,a0.ae,(⟨#[49]⟩:BA)]:List BA) (⟨#[32]⟩:BA)).bind fun ta=>some ta) ((strings_Join.f ([(⟨#[109]⟩:BA),a0.aa,a0.ai,a0.ae,(⟨#[48]⟩:BA)]:List BA) (⟨#[32]⟩:BA)).bind fun tc=>some tc)
def mf.f (k:Nat) (a0:ak):Option (Bool):=(fQ.f k a0).bind fun ta=>cond ta (some (!a0.ao)) (some false)
def cV.f:Nat→Int→Option ((List Int))
 | 0,_=>none
 | k+1,a0=>(cond (decide (a0<0)) (some 0) (some a0)).bind fun (pa:Int)=>cond (decide (pa<128)) (some ([IntKind.u8.wrap (pa)]:List Int)) ((cV.f k (aw (pa.tdiv 128))).bind fun ta=>an (([IntKind.u8.wrap (aw (128+(pa.tmod 128)))]:List Int).length+ta.length≤9223372036854775807∧(([IntKind.u8.wrap (aw (128+(pa.tmod 128)))]:List Int).length+ta.length)*1≤140737488355328) (some (([IntKind.u8.wrap (aw (128+(pa.tmod 128)))]:List Int)++ta)))
def jA.f (k:Nat) (a0:BA):Option ((List Int)):=(cV.f k (a0.size:Int)).bind fun ta=>an (ta.length+(mw a0).length≤9223372036854775807∧(ta.length+(mw a0).length)*1≤140737488355328) (some (ta++(mw a0)))
def py.f (a0:Bool):Option ((List Int)):=cond a0 (some ([1]:List Int)) (some ([0]:List Int))
def kU.f (k:Nat) (a0:ak):Option ((List Int)):=(cV.f k a0.aG).bind fun ta=>(jA.f k a0.aa).bind fun tc=>an (ta.length+tc.length≤9223372036854775807∧(ta.length+tc.length)*1≤140737488355328) ((jA.f k a0.ai).bind fun te=>an ((ta++tc).length+te.length≤9223372036854775807∧((ta++tc).length+te.length)*1≤140737488355328) ((jA.f k a0.bC).bind fun tg=>an (((ta++tc)++te).length+tg.length≤9223372036854775807∧(((ta++tc)++te).length+tg.length)*1≤140737488355328) ((jA.f k a0.ae).bind fun tj=>an ((((ta++tc)++te)++tg).length+tj.length≤9223372036854775807∧((((ta++tc)++te)++tg).length+tj.length)*1≤140737488355328) ((py.f a0.jS).bind fun tm=>an (((((ta++tc)++te)++tg)++tj).length+tm.length≤9223372036854775807∧(((((ta++tc)++te)++tg)++tj).length+tm.length)*1≤140737488355328) ((cV.f k a0.b8).bind fun tn=>an ((((((ta++tc)++te)++tg)++tj)++tm).length+tn.length≤9223372036854775807∧((((((ta++tc)++te)++tg)++tj)++tm).length+tn.length)*1≤140737488355328) ((cV.f k a0.aM).bind fun tp=>an (((((((ta++tc)++te)++tg)++tj)++tm)++tn).length+tp.length≤9223372036854775807∧(((((((ta++tc)++te)++tg)++tj)++tm)++tn).length+tp.length)*1≤140737488355328) ((cV.f k a0.aS).bind fun tq=>an ((((((((ta++tc)++te)++tg)++tj)++tm)++tn)++tp).length+tq.length≤9223372036854775807∧((((((((ta++tc)++te)++tg)++tj)++tm)++tn)++tp).length+tq.length)*1≤140737488355328) ((cV.f k a0.aY).bind fun tu=>an (((((((((ta++tc)++te)++tg)++tj)++tm)++tn)++tp)++tq).length+tu.length≤9223372036854775807∧(((((((((ta++tc)++te)++tg)++tj)++tm)++tn)++tp)++tq).length+tu.length)*1≤140737488355328) (some (((((((((ta++tc)++te)++tg)++tj)++tm)++tn)++tp)++tq)++tu))))))))))
def iU.f (k:Nat) (a0:ak) (a1:ak):Option (Int):=cond (decide (a0.aY<a1.aY)) (some (-1)) (cond (decide (a1.aY<a0.aY)) (some 1) ((kU.f k a0).bind fun ta=>(kU.f k a1).bind fun tc=>cond (dO (fZ ta) (fZ tc)) (some (-1)) (cond (dO (fZ tc) (fZ ta)) (some 1) (some 0))))
def cU.l0 (k:Nat) (a0:kE) (a1:ak):Nat→Bool→Int→List ak→List Bool→Option ((Bool×Int×Bool×(List ak)×(List Bool)) ⊕ (kE×Bool×Int))
 | 0,_,_,_,_=>none
 | ja+1,xc,xd,xe,xf=>cond (decide (xd<(a0.fL.length:Int))) (an ((0:Int)≤xd∧xd<(a0.fL.length:Int)) (cond (decide (((ak.K.at a0.fL xd).aa)=a1.aa)) (cond (decide (((ak.K.at a0.fL xd).ai)=a1.ai)) ((iU.f k a1 (ak.K.at a0.fL xd)).bind fun ta=>cond (decide (ta≤0)) (some (.inr (a0,false,0))) (cU.l0 k a0 a1 ja xc (aw (xd+1)) xe xf)) ((cond (!xc) (cond (dO a1.aa ((ak.K.at a0.fL xd).aa)) (an (xe.length+([a1]:List ak).length≤9223372036854775807∧(xe.length+([a1]:List ak).length)*112≤140737488355328) (an (xf.length+([false]:List Bool).length≤9223372036854775807∧(xf.length+([false]:List Bool).length)*1≤140737488355328) (some (true,true,xe++([a1]:List ak),xf++([false]:List Bool))))) (cond (decide (a1.aa=((ak.K.at a0.fL xd).aa))) (cond (dO a1.ai ((ak.K.at a0.fL xd).ai)) (an (xe.length+([a1]:List ak).length≤9223372036854775807∧(xe.length+([a1]:List ak).length)*112≤140737488355328) (an (xf.length+([false]:List Bool).length≤9223372036854775807∧(xf.length+([false]:List Bool).length)*1≤140737488355328) (some (true,dO a1.ai ((ak.K.at a0.fL xd).ai),xe++([a1]:List ak),xf++([false]:List Bool))))) (some (xc,dO a1.ai ((ak.K.at a0.fL xd).ai),xe,xf))) (some (xc,false,xe,xf)))) (some (xc,false,xe,xf))).bind fun (pa:Bool×Bool×(List ak)×(List Bool))=>an (pa.2.2.1.length+([ak.K.at a0.fL xd]:List ak).length≤9223372036854775807∧(pa.2.2.1.length+([ak.K.at a0.fL xd]:List ak).length)*112≤140737488355328) (an ((0:Int)≤xd∧xd<(a0.eF.length:Int)) (an (pa.2.2.2.length+([dj.at a0.eF xd]:List Bool).length≤9223372036854775807∧(pa.2.2.2.length+([dj.at a0.eF xd]:List Bool).length)*1≤140737488355328) (cU.l0 k a0 a1 ja pa.1 (aw (xd+1)) (pa.2.2.1++([ak.K.at a0.fL xd]:List ak)) (pa.2.2.2++([dj.at a0.eF xd]:List Bool))))))) ((cond (!xc) (cond (dO a1.aa ((ak.K.at a0.fL xd).aa)) (an (xe.length+([a1]:List ak).length≤9223372036854775807∧(xe.length+([a1]:List ak).length)*112≤140737488355328) (an (xf.length+([false]:List Bool).length≤9223372036854775807∧(xf.length+([false]:List Bool).length)*1≤140737488355328) (some (true,true,xe++([a1]:List ak),xf++([false]:List Bool))))) (cond (decide (a1.aa=((ak.K.at a0.fL xd).aa))) (cond (dO a1.ai ((ak.K.at a0.fL xd).ai)) (an (xe.length+([a1]:List ak).length≤9223372036854775807∧(xe.length+([a1]:List ak).length)*112≤140737488355328) (an (xf.length+([false]:List Bool).length≤9223372036854775807∧(xf.length+([false]:List Bool).length)*1≤140737488355328) (some (true,dO a1.ai ((ak.K.at a0.fL xd).ai),xe++([a1]:List ak),xf++([false]:List Bool))))) (some (xc,dO a1.ai ((ak.K.at a0.fL xd).ai),xe,xf))) (some (xc,false,xe,xf)))) (some (xc,false,xe,xf))).bind fun (pc:Bool×Bool×(List ak)×(List Bool))=>an (pc.2.2.1.length+([ak.K.at a0.fL xd]:List ak).length≤9223372036854775807∧(pc.2.2.1.length+([ak.K.at a0.fL xd]:List ak).length)*112≤140737488355328) (an ((0:Int)≤xd∧xd<(a0.eF.length:Int)) (an (pc.2.2.2.length+([dj.at a0.eF xd]:List Bool).length≤9223372036854775807∧(pc.2.2.2.length+([dj.at a0.eF xd]:List Bool).length)*1≤140737488355328) (cU.l0 k a0 a1 ja pc.1 (aw (xd+1)) (pc.2.2.1++([ak.K.at a0.fL xd]:List ak)) (pc.2.2.2++([dj.at a0.eF xd]:List Bool)))))))) (some (.inl (xc,xd,decide (xd<(a0.fL.length:Int)),xe,xf)))
def cU.f (k:Nat) (a0:kE) (a1:ak):Option (kE×Bool×Int):=(mf.f k a1).bind fun ta=>cond (a1.aG != 2) (some (a0,false,1)) (cond (!ta) (some (a0,false,1)) ((cU.l0 k a0 a1 k false 0 ([]:List ak) ([]:List Bool)).bind (fall fun pa=>cond (!pa.1) (an (pa.2.2.2.1.length+([a1]:List ak).length≤9223372036854775807∧(pa.2.2.2.1.length+([a1]:List ak).length)*112≤140737488355328) (an (pa.2.2.2.2.length+([false]:List Bool).length≤9223372036854775807∧(pa.2.2.2.2.length+([false]:List Bool).length)*1≤140737488355328) (some ((⟨pa.2.2.2.1++([a1]:List ak),pa.2.2.2.2++([false]:List Bool)⟩:kE),true,0)))) (some ((⟨pa.2.2.2.1,pa.2.2.2.2⟩:kE),true,0)))))
def me.f (k:Nat) (a0:ak):Option (Bool):=(eJ.f k a0).bind fun ta=>cond ta (some (!a0.ao)) (some false)
def slices_BinarySearchFunc_Edu_Edu.l0 (k:Nat) (a0:List ak) (a1:ak) (a2:ak→ak→Option Int):Nat→Int→Int→Option (Int×Int×Bool)
 | 0,_,_=>none
 | ja+1,xc,xd=>cond (decide (xc<xd)) (an ((0:Int)≤(aw ((IntKind.u64.wrap (aw (xc+xd))).fdiv 2))∧(aw ((IntKind.u64.wrap (aw (xc+xd))).fdiv 2))<(a0.length:Int)) ((a2 (ak.K.at a0 (aw ((IntKind.u64.wrap (aw (xc+xd))).fdiv 2))) a1).bind fun ta=>cond (decide (ta<0)) (slices_BinarySearchFunc_Edu_Edu.l0 k a0 a1 a2 ja (aw ((aw ((IntKind.u64.wrap (aw (xc+xd))).fdiv 2))+1)) xd) (slices_BinarySearchFunc_Edu_Edu.l0 k a0 a1 a2 ja xc (aw ((IntKind.u64.wrap (aw (xc+xd))).fdiv 2))))) (some (xc,xd,decide (xc<xd)))
def slices_BinarySearchFunc_Edu_Edu.f (k:Nat) (a0:List ak) (a1:ak) (a2:ak→ak→Option Int):Option (Int×Bool):=(slices_BinarySearchFunc_Edu_Edu.l0 k a0 a1 a2 k 0 (a0.length:Int)).bind fun (pa:Int×Int×Bool)=>cond (decide (pa.1<(a0.length:Int))) (an ((0:Int)≤pa.1∧pa.1<(a0.length:Int)) ((a2 (ak.K.at a0 pa.1) a1).bind fun ta=>some (pa.1,(ta==0)))) (some (pa.1,false))
def dR.f (k:Nat) (a0:ak) (a1:ak):Option (Int):=(aD.f a0.aa a1.aa).bind fun ta=>(aD.f a0.ai a1.ai).bind fun tc=>(bD.f k ([ta,tc]:List Int)).bind fun te=>some te
def dP.f (k:Nat) (a0:bZ) (a1:ak):Option (Int×Bool):=(slices_BinarySearchFunc_Edu_Edu.f k a0.fl a1 (dR.f k)).bind fun ta=>some (ta.1,ta.2)
def p9.f (a0:ak):Option (uA):=some (⟨a0.aG,a0.aa,a0.ai,a0.ae,a0.ao⟩:uA)
def kB.f (a0:List Int) (a1:List Int):Option (Int):=some (Hi a0 a1)
def cF.l0 (k:Nat):Nat→Int→List Int→Option (Int×Bool×(List Int))
 | 0,_,_=>none
 | ja+1,xc,xd=>cond (decide (128≤xc)) (an (xd.length+([IntKind.u8.wrap (aw ((xc.tmod 128)+128))]:List Int).length≤9223372036854775807∧(xd.length+([IntKind.u8.wrap (aw ((xc.tmod 128)+128))]:List Int).length)*1≤140737488355328) (cF.l0 k ja (aw (xc.tdiv 128)) (xd++([IntKind.u8.wrap (aw ((xc.tmod 128)+128))]:List Int)))) (some (xc,decide (128≤xc),xd))
def cF.f (k:Nat) (a0:List Int) (a1:Int):Option ((List Int)):=an ((0:Int)≤(a0.length:Int)∧0≤(a0.length:Int).toNat∧(a0.length:Int).toNat≤a0.length) ((cF.l0 k k (max a1 0) ((a0.take ((a0.length:Int).toNat)).drop 0)).bind fun (pa:Int×Bool×(List Int))=>an (pa.2.2.length+([IntKind.u8.wrap (pa.1)]:List Int).length≤9223372036854775807∧(pa.2.2.length+([IntKind.u8.wrap (pa.1)]:List Int).length)*1≤140737488355328) (some (pa.2.2++([IntKind.u8.wrap (pa.1)]:List Int))))
def oy.f (k:Nat) (a0:List Int) (a1:BA):Option ((List Int)):=(cF.f k a0 (a1.size:Int)).bind fun ta=>an (ta.length+(mw a1).length≤9223372036854775807∧(ta.length+(mw a1).length)*1≤140737488355328) (some (ta++(mw a1)))
def oB.f (k:Nat) (a0:List Int) (a1:Bool):Option ((List Int)):=cond a1 ((cF.f k a0 1).bind fun ta=>some ta) ((cF.f k a0 0).bind fun tc=>some tc)
def cT.l0 (k:Nat) (a0:ak):Nat→Int→List Int→Option (Int×Bool×(List Int))
 | 0,_,_=>none
 | ja+1,xc,xd=>cond (decide (xc<(([a0.b8,a0.aM,a0.aS,a0.aY]:List Int).length:Int))) (an ((0:Int)≤xc∧xc<(([a0.b8,a0.aM,a0.aS,a0.aY]:List Int).length:Int)) ((cF.f k xd ((bG .i64).at ([a0.b8,a0.aM,a0.aS,a0.aY]:List Int) xc)).bind fun ta=>cT.l0 k a0 ja (aw (xc+1)) ta)) (some (xc,decide (xc<(([a0.b8,a0.aM,a0.aS,a0.aY]:List Int).length:Int)),xd))
def cT.l1 (k:Nat) (a0:ak):Nat→Int→List Int→Option (Int×Bool×(List Int))
 | 0,_,_=>none
 | ja+1,xc,xd=>cond (decide (xc<(([a0.aa,a0.ai,a0.bC,a0.ae]:List BA).length:Int))) (an ((0:Int)≤xc∧xc<(([a0.aa,a0.ai,a0.bC,a0.ae]:List BA).length:Int)) ((oy.f k xd (aH.at ([a0.aa,a0.ai,a0.bC,a0.ae]:List BA) xc)).bind fun ta=>cT.l1 k a0 ja (aw (xc+1)) ta)) (some (xc,decide (xc<(([a0.aa,a0.ai,a0.bC,a0.ae]:List BA).length:Int)),xd))
def cT.f (k:Nat) (a0:ak):Option ((List Int)):=(cF.f k ([]:List Int) a0.aG).bind fun ta=>(cT.l1 k a0 k 0 ta).bind fun (pa:Int×Bool×(List Int))=>(oB.f k pa.2.2 a0.jS).bind fun tc=>(cT.l0 k a0 k 0 tc).bind fun (pc:Int×Bool×(List Int))=>some pc.2.2
def kT.f (k:Nat) (a0:ak) (a1:ak):Option (Int):=(cC.f a0.aY a1.aY).bind fun ta=>(cT.f k a0).bind fun tc=>(cT.f k a1).bind fun te=>(kB.f tc te).bind fun tg=>(bD.f k ([ta,tg]:List Int)).bind fun tj=>some tj
def jJ.f (k:Nat) (a0:ak) (a1:ak):Option (Bool):=(p9.f a0).bind fun ta=>(p9.f a1).bind fun tc=>cond (decide (ta=tc)) ((kT.f k a0 a1).bind fun te=>some (decide (0<te))) (some false)
def cX.f (xs:List ak) (i:Int) (ys:List ak):Option (List ak):=an ((0:Int)≤i∧i≤(xs.length:Int)∧0<ys.length∧xs.length+ys.length≤4611686018427387904∧(xs.length+ys.length)*112≤140737488355328) (some (xs.take i.toNat++ys++xs.drop i.toNat))
def dx.f (a0:aN) (a1:Int) (a2:di):Option (aN):=an ((0:Int)≤a1∧a1<(a0.fl.length:Int)) (some (⟨a0.fl.set a1.toNat a2,mput a0.iH a2.bY a1⟩:aN))
def heap_ahead.f (k:Nat) (a0:di) (a1:di):Option (Int):=(cC.f a0.fY a1.fY).bind fun ta=>(aD.f a0.bY a1.bY).bind fun tc=>(bD.f k ([ta,tc]:List Int)).bind fun te=>some te
def heap_Heap_down.l0 (k:Nat) (a0:aN) (a1:Int):Nat→Int→aN→Option (Int×Int×Bool×Bool×aN)
 | 0,_,_=>none
 | ja+1,xc,xd=>(cond (decide ((aw ((aw ((aw (2*xc))+1))+1))<(xd.fl.length:Int))) (an ((0:Int)≤(aw ((aw ((aw (2*xc))+1))+1))∧(aw ((aw ((aw (2*xc))+1))+1))<(xd.fl.length:Int)) (an ((0:Int)≤(aw ((aw (2*xc))+1))∧(aw ((aw (2*xc))+1))<(xd.fl.length:Int)) ((heap_ahead.f k (xd.fl.getD ((aw ((aw ((aw (2*xc))+1))+1)).toNat) default) (xd.fl.getD ((aw ((aw (2*xc))+1)).toNat) default)).bind fun ta=>cond (decide (ta<0)) (some (aw ((aw ((aw (2*xc))+1))+1),decide (ta<0))) (some (aw ((aw (2*xc))+1),decide (ta<0)))))) (some (aw ((aw (2*xc))+1),false))).bind fun (pa:Int×Bool)=>cond (decide ((xd.fl.length:Int)≤pa.1)) (some (xc,pa.1,pa.2,true,xd)) (an ((0:Int)≤pa.1∧pa.1<(xd.fl.length:Int)) ((heap_ahead.f k (a0.fl.getD a1.toNat default) (xd.fl.getD pa.1.toNat default)).bind fun tc=>cond (decide (tc<0)) (some (xc,pa.1,pa.2,decide (tc<0),xd)) (an ((0:Int)≤pa.1∧pa.1<(xd.fl.length:Int)) ((dx.f xd xc (xd.fl.getD pa.1.toNat default)).bind fun te=>heap_Heap_down.l0 k a0 a1 ja pa.1 te))))
def heap_Heap_down.f (k:Nat) (a0:aN) (a1:Int):Option (aN):=an ((0:Int)≤a1∧a1<(a0.fl.length:Int)) ((heap_Heap_down.l0 k a0 a1 k a1 a0).bind fun (pa:Int×Int×Bool×Bool×aN)=>(dx.f pa.2.2.2.2 pa.1 (a0.fl.getD a1.toNat default)).bind fun ta=>some ta)
def cY.l0 (k:Nat) (a0:aN) (a1:Int):Nat→Int→aN→Option (Int×Bool×aN)
 | 0,_,_=>none
 | ja+1,xc,xd=>cond (decide (0<xc)) (an ((0:Int)≤(aw ((aw (xc-1)).tdiv 2))∧(aw ((aw (xc-1)).tdiv 2))<(xd.fl.length:Int)) ((heap_ahead.f k (a0.fl.getD a1.toNat default) (xd.fl.getD ((aw ((aw (xc-1)).tdiv 2)).toNat) default)).bind fun ta=>cond (decide (ta<0)) (an ((0:Int)≤(aw ((aw (xc-1)).tdiv 2))∧(aw ((aw (xc-1)).tdiv 2))<(xd.fl.length:Int)) ((dx.f xd xc (xd.fl.getD ((aw ((aw (xc-1)).tdiv 2)).toNat) default)).bind fun tc=>cY.l0 k a0 a1 ja (aw ((aw (xc-1)).tdiv 2)) tc)) (some (xc,decide (ta<0),xd)))) (some (xc,false,xd))
def cY.f (k:Nat) (a0:aN) (a1:Int):Option (aN):=an ((0:Int)≤a1∧a1<(a0.fl.length:Int)) ((cY.l0 k a0 a1 k a1 a0).bind fun (pa:Int×Bool×aN)=>(dx.f pa.2.2 pa.1 (a0.fl.getD a1.toNat default)).bind fun ta=>some ta)
def du.f (k:Nat) (a0:aN) (a1:BA):Option (Bool×aN):=cond (!((mget a0.iH a1).isSome)) (some (false,a0)) (an ((0:Int)≤(aw ((a0.fl.length:Int)-1))∧(aw ((a0.fl.length:Int)-1))<(a0.fl.length:Int)) (an ((0:Int)≤(aw ((a0.fl.length:Int)-1))∧0≤(aw ((a0.fl.length:Int)-1)).toNat∧(aw ((a0.fl.length:Int)-1)).toNat≤a0.fl.length) (cond (decide (((mget a0.iH a1).getD 0)<(aw ((a0.fl.length:Int)-1)))) ((dx.f (⟨(a0.fl.take ((aw ((a0.fl.length:Int)-1)).toNat)).drop 0,lL a0.iH a1⟩:aN) ((mget a0.iH a1).getD 0) (a0.fl.getD ((aw ((a0.fl.length:Int)-1)).toNat) default)).bind fun ta=>(heap_Heap_down.f k ta ((mget a0.iH a1).getD 0)).bind fun tc=>(cY.f k tc ((mget tc.iH ((a0.fl.getD ((aw ((a0.fl.length:Int)-1)).toNat) default).bY)).getD 0)).bind fun te=>some (true,te)) (some (true,(⟨(a0.fl.take ((aw ((a0.fl.length:Int)-1)).toNat)).drop 0,lL a0.iH a1⟩:aN))))))
def eS.f (k:Nat) (a0:aN) (a1:Int) (a2:BA):Option (aN):=(du.f k a0 a2).bind fun ta=>an (ta.2.fl.length+([(⟨a1,a2⟩:di)]:List di).length≤9223372036854775807∧(ta.2.fl.length+([(⟨a1,a2⟩:di)]:List di).length)*24≤140737488355328) ((cY.f k (⟨ta.2.fl++([(⟨a1,a2⟩:di)]:List di),ta.2.iH⟩:aN) (aw (((ta.2.fl++([(⟨a1,a2⟩:di)]:List di)).length:Int)-1))).bind fun tc=>some tc)
def jf.f (a0:ak):Option (Int):=some (aw (a0.aS+a0.b8))
def fx.f (k:Nat) (a0:bZ) (a1:ak):Option (Bool×Int×bZ):=cond (a1.aG != 2) (some (false,1,a0)) ((me.f k a1).bind fun ta=>cond (!ta) (some (false,1,a0)) ((dP.f k a0 a1).bind fun tc=>(cond tc.2 (an ((0:Int)≤tc.1∧tc.1<(a0.fl.length:Int)) (cond (decide (a0.fl.getD tc.1.toNat default=a1)) (some (.inr (false,0,a0))) (an ((0:Int)≤tc.1∧tc.1<(a0.fl.length:Int)) ((jJ.f k a1 (a0.fl.getD tc.1.toNat default)).bind fun te=>cond (!te) (some (.inr (false,0,a0))) (an ((0:Int)≤tc.1∧tc.1<(a0.fl.length:Int)) (some (.inl (true,!te,true,(⟨a0.fl.set tc.1.toNat a1,a0.gL⟩:bZ))))))))) ((cX.f a0.fl tc.1 ([a1]:List ak)).bind fun tg=>some (.inl (false,false,false,(⟨tg,a0.gL⟩:bZ))))).bind (fall fun pa=>an (a1.aa.size+(⟨#[32]⟩:BA).size≤9223372036854775807) (an ((a1.aa++(⟨#[32]⟩:BA)).size+a1.ai.size≤9223372036854775807) ((du.f k pa.2.2.2.gL ((a1.aa++(⟨#[32]⟩:BA))++a1.ai)).bind fun tj=>cond a1.jS ((jf.f a1).bind fun tm=>(eS.f k tj.2 tm ((a1.aa++(⟨#[32]⟩:BA))++a1.ai)).bind fun tn=>some (true,0,(⟨pa.2.2.2.fl,tn⟩:bZ))) (some (true,0,(⟨pa.2.2.2.fl,tj.2⟩:bZ))))))))
def jx.f (a0:BA):Option (BA):=an ((⟨#[116,32]⟩:BA).size+a0.size≤9223372036854775807) (some ((⟨#[116,32]⟩:BA)++a0))
def dh.l0 (k:Nat) (a0:lD) (a1:ak):Nat→Bool→Int→List ak→List Int→Option ((Bool×Int×Bool×(List ak)×(List Int)) ⊕ (lD×Bool×Int))
 | 0,_,_,_,_=>none
 | ja+1,xc,xd,xe,xf=>cond (decide (xd<(a0.fL.length:Int))) (an ((0:Int)≤xd∧xd<(a0.fL.length:Int)) (cond (decide (((ak.K.at a0.fL xd).ai)=a1.ai)) ((iU.f k a1 (ak.K.at a0.fL xd)).bind fun ta=>cond (decide (ta≤0)) (some (.inr (a0,false,0))) (dh.l0 k a0 a1 ja xc (aw (xd+1)) xe xf)) ((cond (!xc) (cond (dO a1.ai ((ak.K.at a0.fL xd).ai)) (an (xe.length+([a1]:List ak).length≤9223372036854775807∧(xe.length+([a1]:List ak).length)*112≤140737488355328) (an (xf.length+([(-1)]:List Int).length≤9223372036854775807∧(xf.length+([(-1)]:List Int).length)*8≤140737488355328) (some (true,dO a1.ai ((ak.K.at a0.fL xd).ai),xe++([a1]:List ak),xf++([(-1)]:List Int))))) (some (xc,dO a1.ai ((ak.K.at a0.fL xd).ai),xe,xf))) (some (xc,false,xe,xf))).bind fun (pa:Bool×Bool×(List ak)×(List Int))=>an (pa.2.2.1.length+([ak.K.at a0.fL xd]:List ak).length≤9223372036854775807∧(pa.2.2.1.length+([ak.K.at a0.fL xd]:List ak).length)*112≤140737488355328) (an ((0:Int)≤xd∧xd<(a0.eF.length:Int)) (an (pa.2.2.2.length+([(bG .i64).at a0.eF xd]:List Int).length≤9223372036854775807∧(pa.2.2.2.length+([(bG .i64).at a0.eF xd]:List Int).length)*8≤140737488355328) (dh.l0 k a0 a1 ja pa.1 (aw (xd+1)) (pa.2.2.1++([ak.K.at a0.fL xd]:List ak)) (pa.2.2.2++([(bG .i64).at a0.eF xd]:List Int)))))))) (some (.inl (xc,xd,decide (xd<(a0.fL.length:Int)),xe,xf)))
def dh.f (k:Nat) (a0:lD) (a1:ak):Option (lD×Bool×Int):=(mf.f k a1).bind fun ta=>cond (a1.aG != 3) (some (a0,false,1)) (cond (!ta) (some (a0,false,1)) ((dh.l0 k a0 a1 k false 0 ([]:List ak) ([]:List Int)).bind (fall fun pa=>cond (!pa.1) (an (pa.2.2.2.1.length+([a1]:List ak).length≤9223372036854775807∧(pa.2.2.2.1.length+([a1]:List ak).length)*112≤140737488355328) (an (pa.2.2.2.2.length+([(-1)]:List Int).length≤9223372036854775807∧(pa.2.2.2.2.length+([(-1)]:List Int).length)*8≤140737488355328) (some ((⟨pa.2.2.2.1++([a1]:List ak),pa.2.2.2.2++([(-1)]:List Int)⟩:lD),true,0)))) (some ((⟨pa.2.2.2.1,pa.2.2.2.2⟩:lD),true,0)))))
def ax.l0 (k:Nat) (a0:List ak) (a1:BA) (a2:ak→BA→Option Int):Nat→Int→Int→Option (Int×Int×Bool)
 | 0,_,_=>none
 | ja+1,xc,xd=>cond (decide (xc<xd)) (an ((0:Int)≤(aw ((IntKind.u64.wrap (aw (xc+xd))).fdiv 2))∧(aw ((IntKind.u64.wrap (aw (xc+xd))).fdiv 2))<(a0.length:Int)) ((a2 (ak.K.at a0 (aw ((IntKind.u64.wrap (aw (xc+xd))).fdiv 2))) a1).bind fun ta=>cond (decide (ta<0)) (ax.l0 k a0 a1 a2 ja (aw ((aw ((IntKind.u64.wrap (aw (xc+xd))).fdiv 2))+1)) xd) (ax.l0 k a0 a1 a2 ja xc (aw ((IntKind.u64.wrap (aw (xc+xd))).fdiv 2))))) (some (xc,xd,decide (xc<xd)))
def ax.f (k:Nat) (a0:List ak) (a1:BA) (a2:ak→BA→Option Int):Option (Int×Bool):=(ax.l0 k a0 a1 a2 k 0 (a0.length:Int)).bind fun (pa:Int×Int×Bool)=>cond (decide (pa.1<(a0.length:Int))) (an ((0:Int)≤pa.1∧pa.1<(a0.length:Int)) ((a2 (ak.K.at a0 pa.1) a1).bind fun ta=>some (pa.1,(ta==0)))) (some (pa.1,false))
def dA.f (a0:ak) (a1:BA):Option (Int):=(aD.f a0.ai a1).bind fun ta=>some ta
def dy.f (k:Nat) (a0:cI) (a1:BA):Option (Int×Bool):=(ax.f k a0.fl a1 dA.f).bind fun ta=>some (ta.1,ta.2)
def dQ.f (a0:ak) (a1:Int):Option (Int):=cond (a0.aM==2) (cond (decide (a1<(aw (a0.aS+30)))) (some 2) (cond (decide (a1<(aw (a0.aS+90)))) (some 1) (some 0))) (cond (a0.aM==1) (cond (decide (a1<(aw (a0.aS+90)))) (some 1) (some 0)) (some 0))
def bH.l0 (k:Nat) (a0:ak) (a1:Int):Nat→Int→Option ((Int×Bool) ⊕ (Int×Bool))
 | 0,_=>none
 | ja+1,xc=>cond (decide (xc<2)) (an ((0:Int)≤xc∧xc<(2:Int)) (cond (decide (a1<(aw (a0.aS+((bG .i64).at ([30,90]:List Int) xc))))) ((dQ.f a0 (aw ((aw (a0.aS+((bG .i64).at ([30,90]:List Int) xc)))-1))).bind fun ta=>(dQ.f a0 (aw (a0.aS+((bG .i64).at ([30,90]:List Int) xc)))).bind fun tc=>cond (decide (tc<ta)) (some (.inr (aw (a0.aS+((bG .i64).at ([30,90]:List Int) xc)),true))) (bH.l0 k a0 a1 ja (aw (xc+1)))) (bH.l0 k a0 a1 ja (aw (xc+1))))) (some (.inl (xc,decide (xc<2))))
def bH.f (k:Nat) (a0:ak) (a1:Int):Option (Int×Bool):=(bH.l0 k a0 a1 k 0).bind (fall fun pa=>some (0,false))
def eC.f (k:Nat) (a0:cI) (a1:ak):Option (Bool×Int×cI):=cond (a1.aG != 3) (some (false,1,a0)) ((me.f k a1).bind fun ta=>cond (!ta) (some (false,1,a0)) ((dy.f k a0 a1.ai).bind fun tc=>(cond tc.2 (an ((0:Int)≤tc.1∧tc.1<(a0.fl.length:Int)) ((jJ.f k a1 (a0.fl.getD tc.1.toNat default)).bind fun te=>cond (!te) (some (.inr (false,0,a0))) (an ((0:Int)≤tc.1∧tc.1<(a0.fl.length:Int)) (some (.inl (true,!te,true,(⟨a0.fl.set tc.1.toNat a1,a0.eY⟩:cI))))))) ((cX.f a0.fl tc.1 ([a1]:List ak)).bind fun tg=>some (.inl (false,false,false,(⟨tg,a0.eY⟩:cI))))).bind (fall fun pa=>(du.f k pa.2.2.2.eY a1.ai).bind fun tj=>(bH.f k a1 (-1)).bind fun tm=>cond tm.2 ((eS.f k tj.2 tm.1 a1.ai).bind fun tn=>some (true,0,(⟨pa.2.2.2.fl,tn⟩:cI))) (some (true,0,(⟨pa.2.2.2.fl,tj.2⟩:cI))))))
def jg.f (a0:BA):Option (BA):=an ((⟨#[112,32]⟩:BA).size+a0.size≤9223372036854775807) (some ((⟨#[112,32]⟩:BA)++a0))
def clock_Counter_Add.l0 (k:Nat) (a0:kI) (a1:Int):Nat→Option (Int×Int×kI)
 | 0=>none
 | ja+1=>cond (decide (0<a1)) (cond (a0.fn.fv==a0.dU) (some (0,11,a0)) ((cond (decide (a1<(aw (a0.dU-a0.fn.fv)))) (some (aw (a0.fn.fv+a1))) (some a0.dU)).bind fun (pa:Int)=>cond (a1==0) (some (pa,0,a0)) (some (pa,0,(⟨(⟨pa⟩:Bz),a0.dU⟩:kI))))) ((cond (decide (a1<(aw (a0.dU-a0.fn.fv)))) (some (aw (a0.fn.fv+a1))) (some a0.dU)).bind fun (pc:Int)=>cond (a1==0) (some (pc,0,a0)) (some (pc,0,(⟨(⟨pc⟩:Bz),a0.dU⟩:kI))))
def clock_Counter_Add.f (k:Nat) (a0:kI) (a1:Int):Option (Int×Int×kI):=cond (decide (a1<0)) (some (0,1,a0)) (clock_Counter_Add.l0 k a0 a1 k)
def fm.f (k:Nat) (a0:kI):Option (Int×Int×kI):=(clock_Counter_Add.f k a0 1).bind fun ta=>some (ta.1,ta.2.1,ta.2.2)
def bA.l0 (k:Nat) (a0:List BA) (a1:BA):Nat→Int→Option ((Int×Bool) ⊕ (Int))
 | 0,_=>none
 | ja+1,xc=>cond (decide (xc<(a0.length:Int))) (an ((0:Int)≤xc∧xc<(a0.length:Int)) (cond (decide (a1=(aH.at a0 xc))) (some (.inr xc)) (bA.l0 k a0 a1 ja (aw (xc+1))))) (some (.inl (xc,decide (xc<(a0.length:Int)))))
def bA.f (k:Nat) (a0:List BA) (a1:BA):Option (Int):=(bA.l0 k a0 a1 k 0).bind (fall fun pa=>some (-1))
def dS.f (xs:List BA) (i j:Int):Option (List BA):=an ((0:Int)≤i∧i≤j∧j≤(xs.length:Int)) (some (xs.take i.toNat++xs.drop j.toNat))
def ie.f (k:Nat) (a0:cH) (a1:BA):Option (Int×Int×cH):=(fm.f k a0.iH).bind fun ta=>cond (ta.2.1 != 0) (some (0,ta.2.1,(⟨ta.2.2,a0.eI,a0.nZ⟩:cH))) ((cond ((mget a0.nZ a1).isSome) ((bA.f k a0.eI a1).bind fun tc=>(dS.f a0.eI tc (aw (tc+1))).bind fun te=>some (⟨ta.2.2,te,a0.nZ⟩:cH)) (some (⟨ta.2.2,a0.eI,a0.nZ⟩:cH))).bind fun (pa:cH)=>an (pa.eI.length+([a1]:List BA).length≤9223372036854775807∧(pa.eI.length+([a1]:List BA).length)*16≤140737488355328) (some (ta.1,0,(⟨pa.iH,pa.eI++([a1]:List BA),mput pa.nZ a1 ta.1⟩:cH))))
def kj.f (a0:kZ):Option (BA):=cond (a0.aG==1) ((cond a0.fK.ao (some (⟨#[32,49]⟩:BA)) (some (⟨#[32,48]⟩:BA))).bind fun (pa:BA)=>an ((⟨#[109,32]⟩:BA).size+a0.fK.aa.size≤9223372036854775807) (an (((⟨#[109,32]⟩:BA)++a0.fK.aa).size+(⟨#[32]⟩:BA).size≤9223372036854775807) (an ((((⟨#[109,32]⟩:BA)++a0.fK.aa)++(⟨#[32]⟩:BA)).size+a0.fK.ai.size≤9223372036854775807) (an (((((⟨#[109,32]⟩:BA)++a0.fK.aa)++(⟨#[32]⟩:BA))++a0.fK.ai).size+(⟨#[32]⟩:BA).size≤9223372036854775807) (an ((((((⟨#[109,32]⟩:BA)++a0.fK.aa)++(⟨#[32]⟩:BA))++a0.fK.ai)++(⟨#[32]⟩:BA)).size+a0.fK.ae.size≤9223372036854775807) (an (((((((⟨#[109,32]⟩:BA)++a0.fK.aa)++(⟨#[32]⟩:BA))++a0.fK.ai)++(⟨#[32]⟩:BA))++a0.fK.ae).size+pa.size≤9223372036854775807) (some (((((((⟨#[109,32]⟩:BA)++a0.fK.aa)++(⟨#[32]⟩:BA))++a0.fK.ai)++(⟨#[32]⟩:BA))++a0.fK.ae)++pa)))))))) (cond (a0.aG==2) (an ((⟨#[116,32]⟩:BA).size+a0.mO.size≤9223372036854775807) (some ((⟨#[116,32]⟩:BA)++a0.mO))) (an ((⟨#[112,32]⟩:BA).size+a0.mO.size≤9223372036854775807) (some ((⟨#[112,32]⟩:BA)++a0.mO))))
def kJ.f (k:Nat) (a0:Src) (a1:dt) (a2:ak):Option (dt×Bool×Src):=(cond (a2.aG==1) ((qJ.f k (⟨a1.fM,(⟨8,([]:List ak),0⟩:nH)⟩:ql) a1.fV a2).bind fun ta=>(ib.f k a0.ay a0.cO a2).bind fun tc=>cond (tc.1 != ta.2.1) (some (.inr ((⟨a1.fV,ta.1.fL,a1.fT,a1.fP,a1.fL,a1.bQ⟩:dt),false,(⟨a0.cO,tc.2.2,a0.av,a0.aU,a0.gH⟩:Src)))) (cond (ta.2.2 != tc.2.1) (some (.inr ((⟨a1.fV,ta.1.fL,a1.fT,a1.fP,a1.fL,a1.bQ⟩:dt),false,(⟨a0.cO,tc.2.2,a0.av,a0.aU,a0.gH⟩:Src)))) ((pA.f a2).bind fun te=>(iz.f te).bind fun tg=>some (.inl (tg,(⟨1,te,eE⟩:kZ),(⟨a1.fV,ta.1.fL,a1.fT,a1.fP,a1.fL,a1.bQ⟩:dt),tc.2.2,a0.av,a0.aU))))) (cond (a2.aG==2) ((cU.f k a1.fT a2).bind fun tj=>(fx.f k a0.av a2).bind fun tm=>cond (tm.1 != tj.2.1) (some (.inr ((⟨a1.fV,a1.fM,tj.1,a1.fP,a1.fL,a1.bQ⟩:dt),false,(⟨a0.cO,a0.ay,tm.2.2,a0.aU,a0.gH⟩:Src)))) ((jx.f a2.aa).bind fun tn=>some (.inl (tn,(⟨2,(⟨eE,eE,eE,false⟩:bx),a2.aa⟩:kZ),(⟨a1.fV,a1.fM,tj.1,a1.fP,a1.fL,a1.bQ⟩:dt),a0.ay,tm.2.2,a0.aU)))) ((dh.f k a1.fP a2).bind fun tp=>(eC.f k a0.aU a2).bind fun tq=>cond (tq.1 != tp.2.1) (some (.inr ((⟨a1.fV,a1.fM,a1.fT,tp.1,a1.fL,a1.bQ⟩:dt),false,(⟨a0.cO,a0.ay,a0.av,tq.2.2,a0.gH⟩:Src)))) ((jg.f a2.ai).bind fun tu=>some (.inl (tu,(⟨3,(⟨eE,eE,eE,false⟩:bx),a2.ai⟩:kZ),(⟨a1.fV,a1.fM,a1.fT,tp.1,a1.fL,a1.bQ⟩:dt),a0.ay,a0.av,tq.2.2)))))).bind (fall fun pa=>an (([]:List kZ).length+pa.2.2.1.fL.length≤9223372036854775807∧(([]:List kZ).length+pa.2.2.1.fL.length)*80≤140737488355328) (an ((([]:List kZ)++pa.2.2.1.fL).length+([(⟨pa.2.1.aG,pa.2.1.fK,pa.2.1.mO⟩:kZ)]:List kZ).length≤9223372036854775807∧((([]:List kZ)++pa.2.2.1.fL).length+([(⟨pa.2.1.aG,pa.2.1.fK,pa.2.1.mO⟩:kZ)]:List kZ).length)*80≤140737488355328) ((ie.f k a0.gH pa.1).bind fun tw=>cond (tw.2.1==0) ((kj.f (⟨pa.2.1.aG,pa.2.1.fK,pa.2.1.mO⟩:kZ)).bind fun tx=>some ((⟨pa.2.2.1.fV,pa.2.2.1.fM,pa.2.2.1.fT,pa.2.2.1.fP,(([]:List kZ)++pa.2.2.1.fL)++([(⟨pa.2.1.aG,pa.2.1.fK,pa.2.1.mO⟩:kZ)]:List kZ),pa.2.2.1.bQ⟩:dt),decide (pa.1=tx),(⟨a0.cO,pa.2.2.2.1,pa.2.2.2.2.1,pa.2.2.2.2.2,tw.2.2⟩:Src))) (some ((⟨pa.2.2.1.fV,pa.2.2.1.fM,pa.2.2.1.fT,pa.2.2.1.fP,(([]:List kZ)++pa.2.2.1.fL)++([(⟨pa.2.1.aG,pa.2.1.fK,pa.2.1.mO⟩:kZ)]:List kZ),pa.2.2.1.bQ⟩:dt),false,(⟨a0.cO,pa.2.2.2.1,pa.2.2.2.2.1,pa.2.2.2.2.2,tw.2.2⟩:Src))))))
def gG.f (k:Nat) (a0:Int):Option (BA):=(bp.f a0 11).bind fun ta=>cond (ta==9) (some eE) (cond (ta==10) (some (⟨#[109,97,105,110]⟩:BA)) ((dq.f k ta).bind fun tc=>some tc))
def lu.f (k:Nat) (a0:ak):Option (ak):=(bp.f a0.aG 3).bind fun ta=>(gU.f a0.aM).bind fun tc=>(bp.f a0.aS 100).bind fun te=>(bp.f a0.aY 9).bind fun tg=>cond ((aw (1+ta))==1) ((fb.f a0.b8).bind fun tj=>(bp.f a0.aS 9).bind fun tm=>(dq.f k (aw ((a0.bC.size:Int)+tm))).bind fun tn=>(gG.f k (a0.ae.size:Int)).bind fun tp=>some (⟨aw (1+ta),tj,tc,tn,tp,a0.ao,false,0,0,te,tg⟩:ak)) (cond ((aw (1+ta))==2) ((fb.f a0.b8).bind fun tq=>cond a0.jS ((bp.f a0.b8 60).bind fun tu=>some (⟨aw (1+ta),tq,tc,eE,eE,false,a0.jS,aw (1+tu),0,te,tg⟩:ak)) (some (⟨aw (1+ta),tq,tc,eE,eE,false,a0.jS,0,0,te,tg⟩:ak))) ((bp.f a0.b8 3).bind fun tw=>some (⟨aw (1+ta),eE,tc,eE,eE,false,false,0,tw,te,tg⟩:ak)))
def slices_DeleteFunc_string_xo.l0 (k:Nat) (a1:(BA→Option Bool)):Nat→Int→Int→List BA→Option (Int×Int×Bool×(List BA))
 | 0,_,_,_=>none
 | ja+1,xc,xd,xe=>cond (decide (xd<(xe.length:Int))) (an ((0:Int)≤xd∧xd<(xe.length:Int)) ((a1 (xe.getD xd.toNat default)).bind fun ta=>cond (!ta) (an ((0:Int)≤xc∧xc<(xe.length:Int)) (slices_DeleteFunc_string_xo.l0 k a1 ja (aw (xc+1)) (aw (xd+1)) (xe.set xc.toNat (xe.getD xd.toNat default)))) (slices_DeleteFunc_string_xo.l0 k a1 ja xc (aw (xd+1)) xe))) (some (xc,xd,decide (xd<(xe.length:Int)),xe))
def slices_DeleteFunc_string_xo.f (k:Nat) (a0:List BA) (a1:(BA→Option Bool)):Option ((List BA)):=(aA.f k a0 a1).bind fun ta=>cond (ta==(-1)) (some a0) ((slices_DeleteFunc_string_xo.l0 k a1 k ta (aw (ta+1)) a0).bind fun (pa:Int×Int×Bool×(List BA))=>an ((0:Int)≤pa.1∧pa.1.toNat<pa.2.2.2.length) (an ((0:Int)≤pa.1∧0≤pa.1.toNat∧pa.1.toNat≤(pa.2.2.2.take pa.1.toNat++List.replicate (pa.2.2.2.length-pa.1.toNat) eE).length) (some (((pa.2.2.2.take pa.1.toNat++List.replicate (pa.2.2.2.length-pa.1.toNat) eE).take pa.1.toNat).drop 0))))
def eB.f (k:Nat) (a0:bZ) (a1:BA) (a2:BA) (a3:Int):Option (Bool):=(dP.f k a0 (⟨0,a1,a2,eE,eE,false,false,0,0,0,0⟩:ak)).bind fun ta=>cond ta.2 (an ((0:Int)≤ta.1∧ta.1<(a0.fl.length:Int)) (cond ((a0.fl.getD ta.1.toNat default).jS) (an ((0:Int)≤ta.1∧ta.1<(a0.fl.length:Int)) ((jf.f (a0.fl.getD ta.1.toNat default)).bind fun tc=>some (decide (a3<tc)))) (some false))) (some false)
def aR.l0 (k:Nat) (a0:bZ) (a1:BA) (a2:Int):Nat→Int→List BA→Option (Int×Bool×(List BA))
 | 0,_,_=>none
 | ja+1,xc,xd=>cond (decide (xc<(a0.fl.length:Int))) (an ((0:Int)≤xc∧xc<(a0.fl.length:Int)) (cond (decide (((a0.fl.getD xc.toNat default).aa)=a1)) ((eB.f k a0 a1 ((a0.fl.getD xc.toNat default).ai) a2).bind fun ta=>cond ta (an (xd.length+([(a0.fl.getD xc.toNat default).ai]:List BA).length≤9223372036854775807∧(xd.length+([(a0.fl.getD xc.toNat default).ai]:List BA).length)*16≤140737488355328) (aR.l0 k a0 a1 a2 ja (aw (xc+1)) (xd++([(a0.fl.getD xc.toNat default).ai]:List BA)))) (aR.l0 k a0 a1 a2 ja (aw (xc+1)) xd)) (aR.l0 k a0 a1 a2 ja (aw (xc+1)) xd))) (some (xc,decide (xc<(a0.fl.length:Int)),xd))
def aR.f (k:Nat) (a0:bZ) (a1:BA) (a2:Int):Option ((List BA)):=(aR.l0 k a0 a1 a2 k 0 ([]:List BA)).bind fun (pa:Int×Bool×(List BA))=>some pa.2.2
def iQ (x y:Pos):Int:=if x.bq<y.bq then -1 else if y.bq<x.bq then 1 else jL x.cJ y.cJ
def dG.f (xs:List Pos):Option (List Pos):=an (xs.length≤1000000) (some (ll iQ xs))
def n5.f (a0:aW):Option (Bool):=some true
def aF.g (e:BA×aW):Option Pos:=cond true (some ⟨e.2.cN,e.1⟩) none
def aF.f (a0:bf):Option (List BA):=an (a0.aq.length≤1000000) (some ((ll iQ (a0.aq.filterMap aF.g)).map (·.cJ)))
def dag_Dag_All.l0 (k:Nat) (a0:bf) (ta:List BA):Nat→Int→List Event→Option (Int×Int×Bool×(List Event)×(List BA))
 | 0,_,_=>none
 | ja+1,xc,xd=>cond (decide (xc<(ta.length:Int))) (an ((0:Int)≤xc∧xc<(ta.length:Int)) (an ((mget a0.aq (ta.getD xc.toNat default)).isSome=true) ((iA.f (((mget a0.aq (ta.getD xc.toNat default)).getD default).fe)).bind fun tc=>an (xd.length+([tc]:List Event).length≤9223372036854775807∧(xd.length+([tc]:List Event).length)*96≤140737488355328) (dag_Dag_All.l0 k a0 ta ja (aw (xc+1)) (xd++([tc]:List Event)))))) (some ((ta.length:Int),xc,decide (xc<(ta.length:Int)),xd,ta))
def dag_Dag_All.f (k:Nat) (a0:bf):Option ((List Event)):=((aF.f a0).bind fun ta=>dag_Dag_All.l0 k a0 ta k 0 ([]:List Event)).bind fun (pa:Int×Int×Bool×(List Event)×(List BA))=>some pa.2.2.2.1
def member_joined.l0 (k:Nat) (ta:(List Event)):Nat→Int→(List (BA×Int))→Option (Int×Int×Bool×(List (BA×Int))×(List Event))
 | 0,_,_=>none
 | ja+1,xc,xd=>cond (decide (xc<(ta.length:Int))) (an ((0:Int)≤xc∧xc<(ta.length:Int)) (cond (((ta.getD xc.toNat default).bR)==1) (member_joined.l0 k ta ja (aw (xc+1)) (mput xd ((ta.getD xc.toNat default).ai) 1)) (cond (((ta.getD xc.toNat default).bR)==2) (member_joined.l0 k ta ja (aw (xc+1)) (lL xd ((ta.getD xc.toNat default).ai))) (member_joined.l0 k ta ja (aw (xc+1)) xd)))) (some ((ta.length:Int),xc,decide (xc<(ta.length:Int)),xd,ta))
def member_joined.f (k:Nat) (a0:bf):Option ((List (BA×Int))):=((dag_Dag_All.f k a0).bind fun ta=>member_joined.l0 k ta k 0 ([]:List (BA×Int))).bind fun (pa:Int×Int×Bool×(List (BA×Int))×(List Event))=>some pa.2.2.2.1
def jH.f (k:Nat) (a0:bf) (a1:BA):Option (Bool):=(member_joined.f k a0).bind fun ta=>some (decide (0<((mget ta a1).getD 0)))
def bN.f (k:Nat) (a0:aL) (a1:BA) (a2:BA):Option (Bool):=(aO.f a0 a1).bind fun ta=>(jH.f k ta a2).bind fun tc=>some tc
def iB.f (k:Nat) (a0:BA) (c0:Src) (c1:BA):Option (Bool):=(bN.f k c0.cO c1 a0).bind fun ta=>some (!ta)
def lW.f (k:Nat) (a0:Src) (a1:BA) (a2:Int):Option ((List BA)):=(aR.f k a0.av a1 a2).bind fun ta=>(slices_DeleteFunc_string_xo.f k ta (fun a0_=>iB.f k a0_ a0 a1)).bind fun tc=>some tc
def iN.f (a0:kI):Option (Int):=some a0.fn.fv
def iy.f (a0:cH):Option (Int):=(iN.f a0.iH).bind fun ta=>some ta
def cG.l0 (k:Nat) (a0:cH) (a1:Int):Nat→Int→Option (Int×Bool)
 | 0,_=>none
 | ja+1,xc=>cond (decide (0<xc)) (an ((0:Int)≤(aw (xc-1))∧(aw (xc-1))<(a0.eI.length:Int)) (cond (decide (a1<((mget a0.nZ (a0.eI.getD ((aw (xc-1)).toNat) default)).getD 0))) (cG.l0 k a0 a1 ja (aw (xc-1))) (some (xc,decide (a1<((mget a0.nZ (a0.eI.getD ((aw (xc-1)).toNat) default)).getD 0)))))) (some (xc,false))
def cG.f (k:Nat) (a0:cH) (a1:Int):Option ((List BA)):=(cG.l0 k a0 a1 k (a0.eI.length:Int)).bind fun (pa:Int×Bool)=>an ((0:Int)≤(aw ((a0.eI.length:Int)-pa.1))∧(aw ((a0.eI.length:Int)-pa.1))≤(9223372036854775807:Int)∧(aw ((a0.eI.length:Int)-pa.1)).toNat*16≤140737488355328) (an ((0:Int)≤pa.1∧pa.1.toNat≤a0.eI.length) (some ((a0.eI.drop pa.1.toNat).take (List.replicate (aw ((a0.eI.length:Int)-pa.1)).toNat (eE:BA)).length++(List.replicate (aw ((a0.eI.length:Int)-pa.1)).toNat (eE:BA)).drop (a0.eI.length-pa.1.toNat))))
def gK.f (a0:BA) (a1:BA):Option (Int):=(ee.f a0 a1).bind fun ta=>some ta
def strings_Count.l0 (k:Nat) (a1:BA):Nat→BA→Int→Option (Int)
 | 0,_,_=>none
 | ja+1,xc,xd=>(gK.f xc a1).bind fun ta=>cond (ta==(-1)) (some xd) (an ((0:Int)≤(aw (ta+(a1.size:Int)))∧(aw (ta+(a1.size:Int))).toNat≤xc.size∧xc.size≤xc.size) (strings_Count.l0 k a1 ja (xc.extract (aw (ta+(a1.size:Int))).toNat xc.size) (aw (xd+1))))
def strings_Count.f (k:Nat) (a0:BA) (a1:BA):Option (Int):=cond ((a1.size:Int)==0) (none) (cond ((a1.size:Int)==1) (an ((0:Int)≤0∧0<(a1.size:Int)) (some (Dj a0 (bt a1 0)))) (strings_Count.l0 k a1 k a0 0))
def strings_genSplit.l0 (k:Nat) (a0:BA) (a1:BA) (a2:Int) (pa:Int):Nat→BA→Int→List BA→Option (BA×Int×Bool×(List BA))
 | 0,_,_,_=>none
 | ja+1,xc,xd,xe=>cond (decide (xd<(aw ((min pa (aw ((a0.size:Int)+1)))-1)))) ((gK.f xc a1).bind fun ta=>cond (decide (ta<0)) (some (xc,xd,decide (xd<(aw ((min pa (aw ((a0.size:Int)+1)))-1))),xe)) (an ((0:Int)≤(aw (ta+a2))∧0≤(aw (ta+a2)).toNat∧(aw (ta+a2)).toNat≤xc.size) (an ((0:Int)≤xd∧xd<(xe.length:Int)) (an ((0:Int)≤(aw (ta+(a1.size:Int)))∧(aw (ta+(a1.size:Int))).toNat≤xc.size∧xc.size≤xc.size) (strings_genSplit.l0 k a0 a1 a2 pa ja (xc.extract (aw (ta+(a1.size:Int))).toNat xc.size) (aw (xd+1)) (xe.set xd.toNat (xc.extract 0 ((aw (ta+a2)).toNat)))))))) (some (xc,xd,decide (xd<(aw ((min pa (aw ((a0.size:Int)+1)))-1))),xe))
def strings_genSplit.f (k:Nat) (a0:BA) (a1:BA) (a2:Int) (a3:Int):Option ((List BA)):=cond (a3==0) (some ([]:List BA)) (cond (decide (a1=eE)) (none) ((cond (decide (a3<0)) ((strings_Count.f k a0 a1).bind fun ta=>some (aw (ta+1))) (some a3)).bind fun (pa:Int)=>an ((0:Int)≤(min pa (aw ((a0.size:Int)+1)))∧(min pa (aw ((a0.size:Int)+1)))≤(9223372036854775807:Int)∧(min pa (aw ((a0.size:Int)+1))).toNat*16≤140737488355328) ((strings_genSplit.l0 k a0 a1 a2 pa k a0 0 (List.replicate (min pa (aw ((a0.size:Int)+1))).toNat (eE:BA))).bind fun (pc:BA×Int×Bool×(List BA))=>an ((0:Int)≤pc.2.1∧pc.2.1<(pc.2.2.2.length:Int)) (an ((0:Int)≤(aw (pc.2.1+1))∧0≤(aw (pc.2.1+1)).toNat∧(aw (pc.2.1+1)).toNat≤(pc.2.2.2.set pc.2.1.toNat pc.1).length) (some (((pc.2.2.2.set pc.2.1.toNat pc.1).take ((aw (pc.2.1+1)).toNat)).drop 0))))))
def kD.f (k:Nat) (a0:BA) (a1:BA):Option ((List BA)):=(strings_genSplit.f k a0 a1 0 (-1)).bind fun ta=>some ta
def mU.f (k:Nat) (a0:BA):Option (jw):=(kD.f k a0 (⟨#[32]⟩:BA)).bind fun ta=>cond ((ta.length:Int)==5) (an ((0:Int)≤0∧0<(ta.length:Int)) (cond (decide ((ta.getD ((0:Int).toNat) default)=(⟨#[109]⟩:BA))) (an ((0:Int)≤4∧4<(ta.length:Int)) (cond (decide ((ta.getD ((4:Int).toNat) default)=(⟨#[48]⟩:BA))) (an ((0:Int)≤1∧1<(ta.length:Int)) (an ((0:Int)≤2∧2<(ta.length:Int)) (an ((0:Int)≤3∧3<(ta.length:Int)) (an ((0:Int)≤4∧4<(ta.length:Int)) (some (jw.d89 (⟨ta.getD ((1:Int).toNat) default,ta.getD ((2:Int).toNat) default,ta.getD ((3:Int).toNat) default,decide ((ta.getD ((4:Int).toNat) default)=(⟨#[49]⟩:BA))⟩:bx))))))) (an ((0:Int)≤4∧4<(ta.length:Int)) (cond (decide ((ta.getD ((4:Int).toNat) default)=(⟨#[49]⟩:BA))) (an ((0:Int)≤1∧1<(ta.length:Int)) (an ((0:Int)≤2∧2<(ta.length:Int)) (an ((0:Int)≤3∧3<(ta.length:Int)) (an ((0:Int)≤4∧4<(ta.length:Int)) (some (jw.d89 (⟨ta.getD ((1:Int).toNat) default,ta.getD ((2:Int).toNat) default,ta.getD ((3:Int).toNat) default,decide ((ta.getD ((4:Int).toNat) default)=(⟨#[49]⟩:BA))⟩:bx))))))) (cond ((ta.length:Int)==2) (an ((0:Int)≤0∧0<(ta.length:Int)) (cond (decide ((ta.getD ((0:Int).toNat) default)=(⟨#[116]⟩:BA))) (an ((0:Int)≤1∧1<(ta.length:Int)) (some (jw.d141 (ta.getD ((1:Int).toNat) default)))) (cond ((ta.length:Int)==2) (an ((0:Int)≤0∧0<(ta.length:Int)) (cond (decide ((ta.getD ((0:Int).toNat) default)=(⟨#[112]⟩:BA))) (an ((0:Int)≤1∧1<(ta.length:Int)) (some (jw.d143 (ta.getD ((1:Int).toNat) default)))) (some jw.nil))) (some jw.nil)))) (cond ((ta.length:Int)==2) (an ((0:Int)≤0∧0<(ta.length:Int)) (cond (decide ((ta.getD ((0:Int).toNat) default)=(⟨#[112]⟩:BA))) (an ((0:Int)≤1∧1<(ta.length:Int)) (some (jw.d143 (ta.getD ((1:Int).toNat) default)))) (some jw.nil))) (some jw.nil))))))) (cond ((ta.length:Int)==2) (an ((0:Int)≤0∧0<(ta.length:Int)) (cond (decide ((ta.getD ((0:Int).toNat) default)=(⟨#[116]⟩:BA))) (an ((0:Int)≤1∧1<(ta.length:Int)) (some (jw.d141 (ta.getD ((1:Int).toNat) default)))) (cond ((ta.length:Int)==2) (an ((0:Int)≤0∧0<(ta.length:Int)) (cond (decide ((ta.getD ((0:Int).toNat) default)=(⟨#[112]⟩:BA))) (an ((0:Int)≤1∧1<(ta.length:Int)) (some (jw.d143 (ta.getD ((1:Int).toNat) default)))) (some jw.nil))) (some jw.nil)))) (cond ((ta.length:Int)==2) (an ((0:Int)≤0∧0<(ta.length:Int)) (cond (decide ((ta.getD ((0:Int).toNat) default)=(⟨#[112]⟩:BA))) (an ((0:Int)≤1∧1<(ta.length:Int)) (some (jw.d143 (ta.getD ((1:Int).toNat) default)))) (some jw.nil))) (some jw.nil))))) (cond ((ta.length:Int)==2) (an ((0:Int)≤0∧0<(ta.length:Int)) (cond (decide ((ta.getD ((0:Int).toNat) default)=(⟨#[116]⟩:BA))) (an ((0:Int)≤1∧1<(ta.length:Int)) (some (jw.d141 (ta.getD ((1:Int).toNat) default)))) (cond ((ta.length:Int)==2) (an ((0:Int)≤0∧0<(ta.length:Int)) (cond (decide ((ta.getD ((0:Int).toNat) default)=(⟨#[112]⟩:BA))) (an ((0:Int)≤1∧1<(ta.length:Int)) (some (jw.d143 (ta.getD ((1:Int).toNat) default)))) (some jw.nil))) (some jw.nil)))) (cond ((ta.length:Int)==2) (an ((0:Int)≤0∧0<(ta.length:Int)) (cond (decide ((ta.getD ((0:Int).toNat) default)=(⟨#[112]⟩:BA))) (an ((0:Int)≤1∧1<(ta.length:Int)) (some (jw.d143 (ta.getD ((1:Int).toNat) default)))) (some jw.nil))) (some jw.nil)))
def fU.f (a0:jO) (a1:bx):Option (Pos×Bool):=some ((mget a0.iH a1).getD (⟨0,eE⟩:Pos),(mget a0.iH a1).isSome)
def gR.f (k:Nat) (a0:Src) (a1:bx) (a2:BA):Option (eQ×Bool):=(fU.f a0.ay.qn a1).bind fun ta=>cond ta.2 ((bN.f k a0.cO a1.aa a2).bind fun tc=>cond tc (cond (!a1.ao) (some ((⟨a1,ta.1⟩:eQ),true)) (some ((⟨a1,ta.1⟩:eQ),decide (a1.ai=a2)))) (some ((⟨a1,ta.1⟩:eQ),false))) (some ((⟨a1,ta.1⟩:eQ),false))
def slices_Sort_string.f (xs:List BA):Option (List BA):=an (xs.length<4611686018427387904) (some (oW xs))
def gB.f (a0:aL):Option (List BA):=an (a0.br.length≤1000000) (some (oW (a0.br.map (·.1))))
def dJ.f (k:Nat) (a0:BA) (c0:aL) (c1:BA):Option (Bool):=(bN.f k c0 a0 c1).bind fun ta=>some (!ta)
def fO.f (k:Nat) (a0:aL) (a1:BA):Option ((List BA)):=(gB.f a0).bind fun ta=>(slices_DeleteFunc_string_xo.f k ta (fun a0_=>dJ.f k a0_ a0 a1)).bind fun tc=>some tc
def dH.f (k:Nat) (a0:BA) (c0:aL) (c1:BA):Option (Bool):=(bN.f k c0 a0 c1).bind fun ta=>some ta
def eX.f (k:Nat) (a0:aL) (a1:BA) (a2:BA):Option (Bool):=(fO.f k a0 a1).bind fun ta=>(cQ.f k ta (fun a0_=>dH.f k a0_ a0 a2)).bind fun tc=>some tc
def b7.f (k:Nat) (a0:cI) (a1:BA) (a2:Int):Option (Int):=(dy.f k a0 a1).bind fun ta=>cond (!ta.2) (some 0) (an ((0:Int)≤ta.1∧ta.1<(a0.fl.length:Int)) ((dQ.f (a0.fl.getD ta.1.toNat default) a2).bind fun tc=>some tc))
def gX.f (a0:Bool):Option (Int):=cond a0 (some 1) (some 0)
def ij.f (k:Nat) (a0:bx) (a1:bx):Option (Int):=(aD.f a0.aa a1.aa).bind fun ta=>(aD.f a0.ai a1.ai).bind fun tc=>(aD.f a0.ae a1.ae).bind fun te=>(gX.f a0.ao).bind fun tg=>(gX.f a1.ao).bind fun tj=>(cC.f tg tj).bind fun tm=>(bD.f k ([ta,tc,te,tm]:List Int)).bind fun tn=>some tn
def mD.f (k:Nat) (a0:eQ) (a1:eQ):Option (Int):=(ij.f k a0.bY a1.bY).bind fun ta=>some ta
def mG (x y:bx):Int:=DW (jL x.aa y.aa) (DW (jL x.ai y.ai) (DW (jL x.ae y.ae) (mW (if x.ao then 1 else 0) (if y.ao then 1 else 0))))
def aT.cf (x y:eQ):Int:=mG x.bY y.bY
def aT.f (xs:List eQ):Option (List eQ):=an (xs.length≤1000000∧xs.Pairwise fun x y=>ltOf aT.cf x y=true∨ltOf aT.cf y x=true) (some (ll aT.cf xs))
def mH.f (a0:eA) (a1:eA):Option (Int):=(aD.f a0.aa a1.aa).bind fun ta=>some ta
def aK.cf (x y:eA):Int:=jL x.aa y.aa
def aK.f (xs:List eA):Option (List eA):=an (xs.length≤1000000∧xs.Pairwise fun x y=>ltOf aK.cf x y=true∨ltOf aK.cf y x=true) (some (ll aK.cf xs))
def mv.f (a0:eR) (a1:eR):Option (Int):=(aD.f a0.ai a1.ai).bind fun ta=>some ta
def aJ.cf (x y:eR):Int:=jL x.ai y.ai
def aJ.f (xs:List eR):Option (List eR):=an (xs.length≤1000000∧xs.Pairwise fun x y=>ltOf aJ.cf x y=true∨ltOf aJ.cf y x=true) (some (ll aJ.cf xs))
def sync_Make.l0 (k:Nat) (a0:Src) (a1:BA) (a3:Int) (ta:(List BA)):Nat→Int→List eQ→List eA→List eR→Option (Int×Int×Bool×(List BA)×(List eQ)×(List eA)×(List eR))
 | 0,_,_,_,_=>none
 | ja+1,xc,xd,xe,xf=>cond (decide (xc<(ta.length:Int))) (an ((0:Int)≤xc∧xc<(ta.length:Int)) ((mU.f k (ta.getD xc.toNat default)).bind fun tc=>(cond ((jw.g89 tc).isSome) ((gR.f k a0 ((jw.g89 tc).getD (⟨eE,eE,eE,false⟩:bx)) a1).bind fun te=>cond te.2 (an (xd.length+([(⟨te.1.bY,te.1.fY⟩:eQ)]:List eQ).length≤9223372036854775807∧(xd.length+([(⟨te.1.bY,te.1.fY⟩:eQ)]:List eQ).length)*80≤140737488355328) (some (xd++([(⟨te.1.bY,te.1.fY⟩:eQ)]:List eQ),xe))) (some (xd,xe))) (cond ((jw.rk tc).isSome) ((bN.f k a0.cO ((jw.rk tc).getD eE) a1).bind fun tg=>cond tg ((lW.f k a0 ((jw.rk tc).getD eE) a3).bind fun tj=>an (xe.length+([(⟨(jw.rk tc).getD eE,tj⟩:eA)]:List eA).length≤9223372036854775807∧(xe.length+([(⟨(jw.rk tc).getD eE,tj⟩:eA)]:List eA).length)*40≤140737488355328) (some (xd,xe++([(⟨(jw.rk tc).getD eE,tj⟩:eA)]:List eA)))) (some (xd,xe))) (some (xd,xe)))).bind fun (pa:(List eQ)×(List eA))=>cond ((jw.rT tc).isSome) ((eX.f k a0.cO a1 ((jw.rT tc).getD eE)).bind fun tm=>cond tm ((b7.f k a0.aU ((jw.rT tc).getD eE) a3).bind fun tn=>an (xf.length+([(⟨(jw.rT tc).getD eE,tn⟩:eR)]:List eR).length≤9223372036854775807∧(xf.length+([(⟨(jw.rT tc).getD eE,tn⟩:eR)]:List eR).length)*24≤140737488355328) (sync_Make.l0 k a0 a1 a3 ta ja (aw (xc+1)) pa.1 pa.2 (xf++([(⟨(jw.rT tc).getD eE,tn⟩:eR)]:List eR)))) (sync_Make.l0 k a0 a1 a3 ta ja (aw (xc+1)) pa.1 pa.2 xf)) (sync_Make.l0 k a0 a1 a3 ta ja (aw (xc+1)) pa.1 pa.2 xf))) (some ((ta.length:Int),xc,decide (xc<(ta.length:Int)),ta,xd,xe,xf))
def sync_Make.f (k:Nat) (a0:Src) (a1:BA) (a2:Int) (a3:Int):Option (sX×Int):=cond (decide (a2<0)) (some ((⟨0,([]:List eQ),([]:List eA),([]:List eR)⟩:sX),10)) ((iy.f a0.gH).bind fun ta=>cond (decide (ta<a2)) (some ((⟨0,([]:List eQ),([]:List eA),([]:List eR)⟩:sX),10)) ((iy.f a0.gH).bind fun tc=>((cG.f k a0.gH a2).bind fun te=>sync_Make.l0 k a0 a1 a3 te k 0 ([]:List eQ) ([]:List eA) ([]:List eR)).bind fun (pa:Int×Int×Bool×(List BA)×(List eQ)×(List eA)×(List eR))=>(aT.f pa.2.2.2.2.1).bind fun tg=>(aK.f pa.2.2.2.2.2.1).bind fun tj=>(aJ.f pa.2.2.2.2.2.2).bind fun tm=>some ((⟨tc,tg,tj,tm⟩:sX),0)))
def mu.l0 (k:Nat) (a0:aQ) (a1:BA):Nat→Int→Int→Option (Int×Int×Bool)
 | 0,_,_=>none
 | ja+1,xc,xd=>cond (decide (xd<(a0.fL.length:Int))) (an ((0:Int)≤xd∧xd<(a0.fL.length:Int)) (cond (!decide (((Event.K.at a0.fL xd).ai)=a1)) (mu.l0 k a0 a1 ja xc (aw (xd+1))) (an ((0:Int)≤xd∧xd<(a0.fL.length:Int)) (cond (((Event.K.at a0.fL xd).bR)==0) (mu.l0 k a0 a1 ja xc (aw (xd+1))) (cond (decide (xc<0)) (mu.l0 k a0 a1 ja xd (aw (xd+1))) (an ((0:Int)≤xc∧xc<(a0.fL.length:Int)) ((gI.f k a0 ((Event.K.at a0.fL xc).cJ)).bind fun ta=>an ((0:Int)≤xd∧xd<(a0.fL.length:Int)) ((gI.f k a0 ((Event.K.at a0.fL xd).cJ)).bind fun tc=>(kQ.f ta tc).bind fun te=>cond te (mu.l0 k a0 a1 ja xd (aw (xd+1))) (mu.l0 k a0 a1 ja xc (aw (xd+1))))))))))) (some (xc,xd,decide (xd<(a0.fL.length:Int))))
def mu.f (k:Nat) (a0:aQ) (a1:BA):Option (Event×Bool):=(mu.l0 k a0 a1 k (-1) 0).bind fun (pa:Int×Int×Bool)=>cond (decide (pa.1<0)) (some ((⟨eE,eE,([]:List BA),eE,eE,0⟩:Event),false)) (an ((0:Int)≤pa.1∧pa.1<(a0.fL.length:Int)) (some (Event.K.at a0.fL pa.1,true)))
def uM.f (k:Nat) (a0:aQ) (a1:BA):Option (Bool):=(mu.f k a0 a1).bind fun ta=>cond ta.2 (some (ta.1.bR==1)) (some false)
def oG.f (k:Nat) (a0:bF) (a1:BA) (a2:BA):Option (Bool):=(iJ.f k a0 a1).bind fun ta=>(uM.f k ta a2).bind fun tc=>some tc
def dE.l0 (k:Nat) (a0:kE) (a1:BA) (a2:BA) (a3:Int):Nat→Int→Option ((Int×Bool) ⊕ (Bool))
 | 0,_=>none
 | ja+1,xc=>cond (decide (xc<(a0.fL.length:Int))) (an ((0:Int)≤xc∧xc<(a0.fL.length:Int)) (cond (decide (((ak.K.at a0.fL xc).aa)=a1)) (an ((0:Int)≤xc∧xc<(a0.fL.length:Int)) (cond (decide (((ak.K.at a0.fL xc).ai)=a2)) (an ((0:Int)≤xc∧xc<(a0.fL.length:Int)) (cond ((ak.K.at a0.fL xc).jS) (an ((0:Int)≤xc∧xc<(a0.fL.length:Int)) (an ((0:Int)≤xc∧xc<(a0.fL.length:Int)) (some (.inr (decide (a3<(aw (((ak.K.at a0.fL xc).aS)+((ak.K.at a0.fL xc).b8))))))))) (some (.inr false)))) (dE.l0 k a0 a1 a2 a3 ja (aw (xc+1))))) (dE.l0 k a0 a1 a2 a3 ja (aw (xc+1))))) (some (.inl (xc,decide (xc<(a0.fL.length:Int)))))
def dE.f (k:Nat) (a0:kE) (a1:BA) (a2:BA) (a3:Int):Option (Bool):=(dE.l0 k a0 a1 a2 a3 k 0).bind (fall fun pa=>some false)
def eL.l0 (k:Nat) (a0:kE) (a1:BA) (a2:Int):Nat→Int→List BA→Option (Int×Bool×(List BA))
 | 0,_,_=>none
 | ja+1,xc,xd=>cond (decide (xc<(a0.fL.length:Int))) (an ((0:Int)≤xc∧xc<(a0.fL.length:Int)) ((dE.f k a0 a1 ((ak.K.at a0.fL xc).ai) a2).bind fun ta=>an ((0:Int)≤xc∧xc<(a0.fL.length:Int)) (cond (decide (((ak.K.at a0.fL xc).aa)=a1)) (cond ta (an ((0:Int)≤xc∧xc<(a0.fL.length:Int)) (an (xd.length+([(ak.K.at a0.fL xc).ai]:List BA).length≤9223372036854775807∧(xd.length+([(ak.K.at a0.fL xc).ai]:List BA).length)*16≤140737488355328) (eL.l0 k a0 a1 a2 ja (aw (xc+1)) (xd++([(ak.K.at a0.fL xc).ai]:List BA))))) (eL.l0 k a0 a1 a2 ja (aw (xc+1)) xd)) (eL.l0 k a0 a1 a2 ja (aw (xc+1)) xd)))) (some (xc,decide (xc<(a0.fL.length:Int)),xd))
def eL.f (k:Nat) (a0:kE) (a1:BA) (a2:Int):Option ((List BA)):=(eL.l0 k a0 a1 a2 k 0 ([]:List BA)).bind fun (pa:Int×Bool×(List BA))=>some pa.2.2
def oe.l0 (k:Nat) (a0:dt) (a1:BA) (ta:(List BA)):Nat→Int→List BA→Option (Int×Bool×(List BA))
 | 0,_,_=>none
 | ja+1,xc,xd=>cond (decide (xc<(ta.length:Int))) (an ((0:Int)≤xc∧xc<(ta.length:Int)) ((oG.f k a0.fV a1 (ta.getD xc.toNat default)).bind fun tc=>cond tc (an ((0:Int)≤xc∧xc<(ta.length:Int)) (an (xd.length+([ta.getD xc.toNat default]:List BA).length≤9223372036854775807∧(xd.length+([ta.getD xc.toNat default]:List BA).length)*16≤140737488355328) (oe.l0 k a0 a1 ta ja (aw (xc+1)) (xd++([ta.getD xc.toNat default]:List BA))))) (oe.l0 k a0 a1 ta ja (aw (xc+1)) xd))) (some (xc,decide (xc<(ta.length:Int)),xd))
def oe.f (k:Nat) (a0:dt) (a1:BA) (a2:Int):Option ((List BA)):=(eL.f k a0.fT a1 a2).bind fun ta=>(oe.l0 k a0 a1 ta k 0 ([]:List BA)).bind fun (pa:Int×Bool×(List BA))=>some pa.2.2
def mI.l0 (k:Nat) (a0:bF) (a1:BA):Nat→Int→List BA→Option (Int×Bool×(List BA))
 | 0,_,_=>none
 | ja+1,xc,xd=>cond (decide (xc<(a0.fD.length:Int))) (an ((0:Int)≤xc∧xc<(a0.fD.length:Int)) ((uM.f k (aQ.K.at a0.fD xc) a1).bind fun ta=>cond ta (an ((0:Int)≤xc∧xc<(a0.fD.length:Int)) (an (xd.length+([(aQ.K.at a0.fD xc).aa]:List BA).length≤9223372036854775807∧(xd.length+([(aQ.K.at a0.fD xc).aa]:List BA).length)*16≤140737488355328) (mI.l0 k a0 a1 ja (aw (xc+1)) (xd++([(aQ.K.at a0.fD xc).aa]:List BA))))) (mI.l0 k a0 a1 ja (aw (xc+1)) xd))) (some (xc,decide (xc<(a0.fD.length:Int)),xd))
def mI.f (k:Nat) (a0:bF) (a1:BA):Option ((List BA)):=(mI.l0 k a0 a1 k 0 ([]:List BA)).bind fun (pa:Int×Bool×(List BA))=>some pa.2.2
def nJ.l0 (k:Nat) (a0:bF) (a2:BA) (ta:(List BA)):Nat→Int→Option ((Int×Bool) ⊕ (Bool))
 | 0,_=>none
 | ja+1,xc=>cond (decide (xc<(ta.length:Int))) (an ((0:Int)≤xc∧xc<(ta.length:Int)) ((oG.f k a0 (ta.getD xc.toNat default) a2).bind fun tc=>cond tc (some (.inr true)) (nJ.l0 k a0 a2 ta ja (aw (xc+1))))) (some (.inl (xc,decide (xc<(ta.length:Int)))))
def nJ.f (k:Nat) (a0:bF) (a1:BA) (a2:BA):Option (Bool):=(mI.f k a0 a1).bind fun ta=>(nJ.l0 k a0 a2 ta k 0).bind (fall fun pa=>some false)
def tO.l0 (k:Nat) (a0:List BA) (a1:Int) (a2:BA):Nat→Int→Option ((Int×Bool) ⊕ (Int))
 | 0,_=>none
 | ja+1,xc=>cond (decide (0≤xc)) (an ((0:Int)≤xc∧xc<(a0.length:Int)) (cond (decide ((aH.at a0 xc)=a2)) (some (.inr (aw ((aw (a1+1))+xc)))) (tO.l0 k a0 a1 a2 ja (aw (xc-1))))) (some (.inl (xc,decide (0≤xc))))
def tO.f (k:Nat) (a0:List BA) (a1:Int) (a2:BA):Option (Int):=(tO.l0 k a0 a1 a2 k (aw ((a0.length:Int)-1))).bind (fall fun pa=>some 0)
def rj.l0 (k:Nat) (a0:List kZ):Nat→Int→List BA→Option (Int×Bool×(List BA))
 | 0,_,_=>none
 | ja+1,xc,xd=>cond (decide (xc<(a0.length:Int))) (an ((0:Int)≤xc∧xc<(a0.length:Int)) ((kj.f (⟨(kZ.K.at a0 xc).aG,(kZ.K.at a0 xc).fK,(kZ.K.at a0 xc).mO⟩:kZ)).bind fun ta=>an (xd.length+([ta]:List BA).length≤9223372036854775807∧(xd.length+([ta]:List BA).length)*16≤140737488355328) (rj.l0 k a0 ja (aw (xc+1)) (xd++([ta]:List BA))))) (some (xc,decide (xc<(a0.length:Int)),xd))
def rj.f (k:Nat) (a0:List kZ):Option ((List BA)):=(rj.l0 k a0 k 0 ([]:List BA)).bind fun (pa:Int×Bool×(List BA))=>some pa.2.2
def qm.f (k:Nat) (a0:dt) (a1:Int) (a2:BA):Option (Bool):=(rj.f k a0.fL).bind fun ta=>(tO.f k ta a0.bQ a2).bind fun tc=>some (decide (a1<tc))
def BS.f (a0:ak) (a1:Int):Option (Int):=cond (a0.aM==2) (cond (decide (a1<(aw (a0.aS+30)))) (some 2) (cond (decide (0<a0.aM)) (cond (decide (a1<(aw (a0.aS+90)))) (some 1) (some 0)) (some 0))) (cond (decide (0<a0.aM)) (cond (decide (a1<(aw (a0.aS+90)))) (some 1) (some 0)) (some 0))
def en.l0 (k:Nat) (a0:lD) (a1:BA) (a2:Int):Nat→Int→Option ((Int×Bool) ⊕ (Int))
 | 0,_=>none
 | ja+1,xc=>cond (decide (xc<(a0.fL.length:Int))) (an ((0:Int)≤xc∧xc<(a0.fL.length:Int)) (cond (decide (((ak.K.at a0.fL xc).ai)=a1)) (an ((0:Int)≤xc∧xc<(a0.fL.length:Int)) ((BS.f (ak.K.at a0.fL xc) a2).bind fun ta=>some (.inr ta))) (en.l0 k a0 a1 a2 ja (aw (xc+1))))) (some (.inl (xc,decide (xc<(a0.fL.length:Int)))))
def en.f (k:Nat) (a0:lD) (a1:BA) (a2:Int):Option (Int):=(en.l0 k a0 a1 a2 k 0).bind (fall fun pa=>some 0)
def iP.l0 (k:Nat) (a0:dt) (a1:BA) (a2:Int) (a3:Int) (pa:Int×Bool×(List BA)×(List BA)):Nat→Int→List eR→Option (Int×Bool×(List eR))
 | 0,_,_=>none
 | ja+1,xc,xd=>cond (decide (xc<(pa.2.2.2.length:Int))) (an ((0:Int)≤xc∧xc<(pa.2.2.2.length:Int)) ((kj.f (⟨3,(⟨eE,eE,eE,false⟩:bx),pa.2.2.2.getD xc.toNat default⟩:kZ)).bind fun ta=>(qm.f k (⟨a0.fV,a0.fM,a0.fT,a0.fP,a0.fL,a0.bQ⟩:dt) a2 ta).bind fun tc=>an ((0:Int)≤xc∧xc<(pa.2.2.2.length:Int)) ((nJ.f k a0.fV a1 (pa.2.2.2.getD xc.toNat default)).bind fun te=>cond tc (cond te (an ((0:Int)≤xc∧xc<(pa.2.2.2.length:Int)) (an ((0:Int)≤xc∧xc<(pa.2.2.2.length:Int)) ((en.f k a0.fP (pa.2.2.2.getD xc.toNat default) a3).bind fun tg=>an (xd.length+([(⟨pa.2.2.2.getD xc.toNat default,tg⟩:eR)]:List eR).length≤9223372036854775807∧(xd.length+([(⟨pa.2.2.2.getD xc.toNat default,tg⟩:eR)]:List eR).length)*24≤140737488355328) (iP.l0 k a0 a1 a2 a3 pa ja (aw (xc+1)) (xd++([(⟨pa.2.2.2.getD xc.toNat default,tg⟩:eR)]:List eR)))))) (iP.l0 k a0 a1 a2 a3 pa ja (aw (xc+1)) xd)) (iP.l0 k a0 a1 a2 a3 pa ja (aw (xc+1)) xd)))) (some (xc,decide (xc<(pa.2.2.2.length:Int)),xd))
def iP.l1 (k:Nat) (a0:dt) (a1:BA) (a2:Int) (a3:Int) (pa:Int×Bool×(List BA)×(List BA)):Nat→Int→List eA→Option (Int×Bool×(List eA))
 | 0,_,_=>none
 | ja+1,xc,xd=>cond (decide (xc<(pa.2.2.1.length:Int))) (an ((0:Int)≤xc∧xc<(pa.2.2.1.length:Int)) ((kj.f (⟨2,(⟨eE,eE,eE,false⟩:bx),pa.2.2.1.getD xc.toNat default⟩:kZ)).bind fun ta=>(qm.f k (⟨a0.fV,a0.fM,a0.fT,a0.fP,a0.fL,a0.bQ⟩:dt) a2 ta).bind fun tc=>an ((0:Int)≤xc∧xc<(pa.2.2.1.length:Int)) ((oG.f k a0.fV (pa.2.2.1.getD xc.toNat default) a1).bind fun te=>cond tc (cond te (an ((0:Int)≤xc∧xc<(pa.2.2.1.length:Int)) (an ((0:Int)≤xc∧xc<(pa.2.2.1.length:Int)) ((oe.f k (⟨a0.fV,a0.fM,a0.fT,a0.fP,a0.fL,a0.bQ⟩:dt) (pa.2.2.1.getD xc.toNat default) a3).bind fun tg=>an (xd.length+([(⟨pa.2.2.1.getD xc.toNat default,tg⟩:eA)]:List eA).length≤9223372036854775807∧(xd.length+([(⟨pa.2.2.1.getD xc.toNat default,tg⟩:eA)]:List eA).length)*40≤140737488355328) (iP.l1 k a0 a1 a2 a3 pa ja (aw (xc+1)) (xd++([(⟨pa.2.2.1.getD xc.toNat default,tg⟩:eA)]:List eA)))))) (iP.l1 k a0 a1 a2 a3 pa ja (aw (xc+1)) xd)) (iP.l1 k a0 a1 a2 a3 pa ja (aw (xc+1)) xd)))) (some (xc,decide (xc<(pa.2.2.1.length:Int)),xd))
def iP.l3 (k:Nat) (a0:dt) (a1:BA) (a2:Int):Nat→Int→List MK→Option (Int×Bool×(List MK))
 | 0,_,_=>none
 | ja+1,xc,xd=>cond (decide (xc<(a0.fM.length:Int))) (an ((0:Int)≤xc∧xc<(a0.fM.length:Int)) ((kj.f (⟨1,(MK.K.at a0.fM xc).fK,eE⟩:kZ)).bind fun ta=>(qm.f k (⟨a0.fV,a0.fM,a0.fT,a0.fP,a0.fL,a0.bQ⟩:dt) a2 ta).bind fun tc=>(oG.f k a0.fV (((MK.K.at a0.fM xc).fK).aa) a1).bind fun te=>cond tc (cond te (cond (!(((MK.K.at a0.fM xc).fK).ao)) (an ((0:Int)≤xc∧xc<(a0.fM.length:Int)) (an (xd.length+([(⟨(MK.K.at a0.fM xc).fK,(MK.K.at a0.fM xc).fY⟩:MK)]:List MK).length≤9223372036854775807∧(xd.length+([(⟨(MK.K.at a0.fM xc).fK,(MK.K.at a0.fM xc).fY⟩:MK)]:List MK).length)*80≤140737488355328) (iP.l3 k a0 a1 a2 ja (aw (xc+1)) (xd++([(⟨(MK.K.at a0.fM xc).fK,(MK.K.at a0.fM xc).fY⟩:MK)]:List MK))))) (cond (decide ((((MK.K.at a0.fM xc).fK).ai)=a1)) (an ((0:Int)≤xc∧xc<(a0.fM.length:Int)) (an (xd.length+([(⟨(MK.K.at a0.fM xc).fK,(MK.K.at a0.fM xc).fY⟩:MK)]:List MK).length≤9223372036854775807∧(xd.length+([(⟨(MK.K.at a0.fM xc).fK,(MK.K.at a0.fM xc).fY⟩:MK)]:List MK).length)*80≤140737488355328) (iP.l3 k a0 a1 a2 ja (aw (xc+1)) (xd++([(⟨(MK.K.at a0.fM xc).fK,(MK.K.at a0.fM xc).fY⟩:MK)]:List MK))))) (iP.l3 k a0 a1 a2 ja (aw (xc+1)) xd))) (iP.l3 k a0 a1 a2 ja (aw (xc+1)) xd)) (iP.l3 k a0 a1 a2 ja (aw (xc+1)) xd))) (some (xc,decide (xc<(a0.fM.length:Int)),xd))
def db.l0 (k:Nat) (a0:List BA) (a1:List BA):Nat→Int→Option ((Int×Bool) ⊕ (Bool))
 | 0,_=>none
 | ja+1,xc=>cond (decide (xc<(a0.length:Int))) (an ((0:Int)≤xc∧xc<(a0.length:Int)) (an ((0:Int)≤xc∧xc<(a1.length:Int)) (cond (!decide ((aH.at a0 xc)=(aH.at a1 xc))) (some (.inr false)) (db.l0 k a0 a1 ja (aw (xc+1)))))) (some (.inl (xc,decide (xc<(a0.length:Int)))))
def db.f (k:Nat) (a0:List BA) (a1:List BA):Option (Bool):=cond ((a0.length:Int) != (a1.length:Int)) (some false) ((db.l0 k a0 a1 k 0).bind (fall fun pa=>some true))
def gW.l0 (k:Nat) (a0:List MK) (a1:List MK):Nat→Int→Option ((Int×Bool) ⊕ (Bool))
 | 0,_=>none
 | ja+1,xc=>cond (decide (xc<(a0.length:Int))) (an ((0:Int)≤xc∧xc<(a0.length:Int)) (an ((0:Int)≤xc∧xc<(a1.length:Int)) (cond (!decide ((⟨(MK.K.at a0 xc).fK,(MK.K.at a0 xc).fY⟩:MK)=(⟨(MK.K.at a1 xc).fK,(MK.K.at a1 xc).fY⟩:MK))) (some (.inr false)) (gW.l0 k a0 a1 ja (aw (xc+1)))))) (some (.inl (xc,decide (xc<(a0.length:Int)))))
def gW.f (k:Nat) (a0:List MK) (a1:List MK):Option (Bool):=cond ((a0.length:Int) != (a1.length:Int)) (some false) ((gW.l0 k a0 a1 k 0).bind (fall fun pa=>some true))
def dL.l0 (k:Nat) (a0:o0) (a1:o0):Nat→Int→Option ((Int×Bool) ⊕ (Bool))
 | 0,_=>none
 | ja+1,xc=>cond (decide (xc<(a0.bL.length:Int))) (an ((0:Int)≤xc∧xc<(a0.bL.length:Int)) (an ((0:Int)≤xc∧xc<(a1.bL.length:Int)) (cond (!decide (eR.K.at a0.bL xc=eR.K.at a1.bL xc)) (some (.inr false)) (dL.l0 k a0 a1 ja (aw (xc+1)))))) (some (.inl (xc,decide (xc<(a0.bL.length:Int)))))
def dL.l1 (k:Nat) (a0:o0) (a1:o0):Nat→Int→Option ((Int×Bool) ⊕ (Bool))
 | 0,_=>none
 | ja+1,xc=>cond (decide (xc<(a0.av.length:Int))) (an ((0:Int)≤xc∧xc<(a0.av.length:Int)) (an ((0:Int)≤xc∧xc<(a1.av.length:Int)) ((db.f k ((eA.K.at a0.av xc).kP) ((eA.K.at a1.av xc).kP)).bind fun ta=>cond (!ta) (some (.inr false)) (an ((0:Int)≤xc∧xc<(a0.av.length:Int)) (an ((0:Int)≤xc∧xc<(a1.av.length:Int)) (cond (!decide (((eA.K.at a0.av xc).aa)=((eA.K.at a1.av xc).aa))) (some (.inr false)) (dL.l1 k a0 a1 ja (aw (xc+1))))))))) (some (.inl (xc,decide (xc<(a0.av.length:Int)))))
def dL.f (k:Nat) (a0:o0) (a1:o0):Option (Bool):=(gW.f k a0.ay a1.ay).bind fun ta=>cond (!ta) (some false) (cond ((a0.av.length:Int) != (a1.av.length:Int)) (some false) (cond ((a0.bL.length:Int) != (a1.bL.length:Int)) (some false) ((dL.l1 k a0 a1 k 0).bind (fall fun pa=>(dL.l0 k a0 a1 k 0).bind (fall fun pc=>some true)))))
def eo.l0 (k:Nat) (a0:sX):Nat→Int→List eR→Option (Int×Bool×(List eR))
 | 0,_,_=>none
 | ja+1,xc,xd=>cond (decide (xc<(a0.bL.length:Int))) (an ((0:Int)≤xc∧xc<(a0.bL.length:Int)) (an (xd.length+([eR.K.at a0.bL xc]:List eR).length≤9223372036854775807∧(xd.length+([eR.K.at a0.bL xc]:List eR).length)*24≤140737488355328) (eo.l0 k a0 ja (aw (xc+1)) (xd++([eR.K.at a0.bL xc]:List eR))))) (some (xc,decide (xc<(a0.bL.length:Int)),xd))
def eo.l1 (k:Nat) (a0:sX):Nat→Int→List eA→Option (Int×Bool×(List eA))
 | 0,_,_=>none
 | ja+1,xc,xd=>cond (decide (xc<(a0.av.length:Int))) (an ((0:Int)≤xc∧xc<(a0.av.length:Int)) (an (xd.length+([eA.K.at a0.av xc]:List eA).length≤9223372036854775807∧(xd.length+([eA.K.at a0.av xc]:List eA).length)*40≤140737488355328) (eo.l1 k a0 ja (aw (xc+1)) (xd++([eA.K.at a0.av xc]:List eA))))) (some (xc,decide (xc<(a0.av.length:Int)),xd))
def eo.l2 (k:Nat) (a0:sX):Nat→Int→List MK→Option (Int×Bool×(List MK))
 | 0,_,_=>none
 | ja+1,xc,xd=>cond (decide (xc<(a0.ay.length:Int))) (an ((0:Int)≤xc∧xc<(a0.ay.length:Int)) (an ((0:Int)≤xc∧xc<(a0.ay.length:Int)) (an (xd.length+([(⟨(eQ.K.at a0.ay xc).bY,(eQ.K.at a0.ay xc).fY⟩:MK)]:List MK).length≤9223372036854775807∧(xd.length+([(⟨(eQ.K.at a0.ay xc).bY,(eQ.K.at a0.ay xc).fY⟩:MK)]:List MK).length)*80≤140737488355328) (eo.l2 k a0 ja (aw (xc+1)) (xd++([(⟨(eQ.K.at a0.ay xc).bY,(eQ.K.at a0.ay xc).fY⟩:MK)]:List MK)))))) (some (xc,decide (xc<(a0.ay.length:Int)),xd))
def eo.f (k:Nat) (a0:sX):Option (o0):=(eo.l2 k a0 k 0 ([]:List MK)).bind fun (pa:Int×Bool×(List MK))=>(eo.l1 k a0 k 0 ([]:List eA)).bind fun (pc:Int×Bool×(List eA))=>(eo.l0 k a0 k 0 ([]:List eR)).bind fun (pe:Int×Bool×(List eR))=>some (⟨a0.kO,pa.2.2,pc.2.2,pe.2.2⟩:o0)
def oi.f:Option (Bool):=(iz.f (⟨(⟨#[33,114,58,115]⟩:BA),(⟨#[64,97,58,115]⟩:BA),eE,true⟩:bx)).bind fun ta=>cond (decide (ta=(⟨#[109,32,33,114,58,115,32,64,97,58,115,32,32,49]⟩:BA))) ((jx.f (⟨#[33,114,58,115]⟩:BA)).bind fun tc=>cond (decide (tc=(⟨#[116,32,33,114,58,115]⟩:BA))) ((jg.f (⟨#[64,97,58,115]⟩:BA)).bind fun te=>some (decide (te=(⟨#[112,32,64,97,58,115]⟩:BA)))) (some false)) (some false)
def bz.l0 (k:Nat) (a0:List BA) (a1:List BA):Nat→Int→Option ((Int×Bool) ⊕ (Bool))
 | 0,_=>none
 | ja+1,xc=>cond (decide (xc<(a0.length:Int))) (an ((0:Int)≤xc∧xc<(a0.length:Int)) (an ((0:Int)≤xc∧xc<(a1.length:Int)) (cond (!decide ((aH.at a0 xc)=(aH.at a1 xc))) (some (.inr false)) (bz.l0 k a0 a1 ja (aw (xc+1)))))) (some (.inl (xc,decide (xc<(a0.length:Int)))))
def bz.f (k:Nat) (a0:List BA) (a1:List BA):Option (Bool):=cond ((a0.length:Int) != (a1.length:Int)) (some false) ((bz.l0 k a0 a1 k 0).bind (fall fun pa=>some true))
def iW.f (k:Nat) (a0:eA) (a1:eA):Option (Bool):=cond (decide (a0.aa=a1.aa)) ((bz.f k a0.kP a1.kP).bind fun ta=>some ta) (some false)
def bM.l0 (k:Nat) (a0:List eQ) (a1:List eQ):Nat→Int→Option ((Int×Bool) ⊕ (Bool))
 | 0,_=>none
 | ja+1,xc=>cond (decide (xc<(a0.length:Int))) (an ((0:Int)≤xc∧xc<(a0.length:Int)) (an ((0:Int)≤xc∧xc<(a1.length:Int)) (cond (!decide ((⟨(eQ.K.at a0 xc).bY,(eQ.K.at a0 xc).fY⟩:eQ)=(⟨(eQ.K.at a1 xc).bY,(eQ.K.at a1 xc).fY⟩:eQ))) (some (.inr false)) (bM.l0 k a0 a1 ja (aw (xc+1)))))) (some (.inl (xc,decide (xc<(a0.length:Int)))))
def bM.f (k:Nat) (a0:List eQ) (a1:List eQ):Option (Bool):=cond ((a0.length:Int) != (a1.length:Int)) (some false) ((bM.l0 k a0 a1 k 0).bind (fall fun pa=>some true))
def aC.l0 (k:Nat) (a0:List eA) (a1:List eA) (a2:eA→eA→Option Bool):Nat→Int→Option ((Int×Bool) ⊕ (Bool))
 | 0,_=>none
 | ja+1,xc=>cond (decide (xc<(a0.length:Int))) (an ((0:Int)≤xc∧xc<(a0.length:Int)) (an ((0:Int)≤xc∧xc<(a1.length:Int)) ((a2 (eA.K.at a0 xc) (eA.K.at a1 xc)).bind fun ta=>cond (!ta) (some (.inr false)) (aC.l0 k a0 a1 a2 ja (aw (xc+1)))))) (some (.inl (xc,decide (xc<(a0.length:Int)))))
def aC.f (k:Nat) (a0:List eA) (a1:List eA) (a2:eA→eA→Option Bool):Option (Bool):=cond ((a0.length:Int) != (a1.length:Int)) (some false) ((aC.l0 k a0 a1 a2 k 0).bind (fall fun pa=>some true))
def bB.l0 (k:Nat) (a0:List eR) (a1:List eR):Nat→Int→Option ((Int×Bool) ⊕ (Bool))
 | 0,_=>none
 | ja+1,xc=>cond (decide (xc<(a0.length:Int))) (an ((0:Int)≤xc∧xc<(a0.length:Int)) (an ((0:Int)≤xc∧xc<(a1.length:Int)) (cond (!decide (eR.K.at a0 xc=eR.K.at a1 xc)) (some (.inr false)) (bB.l0 k a0 a1 ja (aw (xc+1)))))) (some (.inl (xc,decide (xc<(a0.length:Int)))))
def bB.f (k:Nat) (a0:List eR) (a1:List eR):Option (Bool):=cond ((a0.length:Int) != (a1.length:Int)) (some false) ((bB.l0 k a0 a1 k 0).bind (fall fun pa=>some true))
def nh.f (k:Nat) (a0:sX) (a1:sX):Option (Bool):=(bM.f k a0.ay a1.ay).bind fun ta=>cond ta ((aC.f k a0.av a1.av (iW.f k)).bind fun tc=>cond tc ((bB.f k a0.bL a1.bL).bind fun te=>some te) (some false)) (some false)
def bP.l0 (k:Nat) (a2:List ak) (ta:BA):Nat→Int→dt→dt→aL→jF→bZ→cI→cH→aL→jF→bZ→cI→cH→Option ((Int×Bool×dt×dt×aL×jF×bZ×cI×cH×aL×jF×bZ×cI×cH) ⊕ (Bool))
 | 0,_,_,_,_,_,_,_,_,_,_,_,_,_=>none
 | ja+1,xc,xd,xe,xf,xg,xi,xj,xk,xn,xo,xp,xq,xr=>cond (decide (xc<(a2.length:Int))) (cond (decide (xc<10)) (an ((0:Int)≤xc∧xc<(a2.length:Int)) ((lu.f k (ak.K.at a2 xc)).bind fun tc=>(kJ.f k (⟨xn,xo,xp,xq,xr⟩:Src) (⟨xe.fV,xe.fM,xe.fT,xe.fP,xe.fL,xe.bQ⟩:dt) tc).bind fun te=>cond (!te.2.1) (some (.inr false)) (cond tc.ao (cond (!decide (tc.ai=ta)) (bP.l0 k a2 ta ja (aw (xc+1)) (⟨xd.fV,xd.fM,xd.fT,xd.fP,xd.fL,xd.bQ⟩:dt) (⟨te.1.fV,te.1.fM,te.1.fT,te.1.fP,te.1.fL,te.1.bQ⟩:dt) xf xg xi xj xk te.2.2.cO te.2.2.ay te.2.2.av te.2.2.aU te.2.2.gH) ((kJ.f k (⟨xf,xg,xi,xj,xk⟩:Src) (⟨xd.fV,xd.fM,xd.fT,xd.fP,xd.fL,xd.bQ⟩:dt) tc).bind fun tg=>cond (!tg.2.1) (some (.inr false)) (bP.l0 k a2 ta ja (aw (xc+1)) (⟨tg.1.fV,tg.1.fM,tg.1.fT,tg.1.fP,tg.1.fL,tg.1.bQ⟩:dt) (⟨te.1.fV,te.1.fM,te.1.fT,te.1.fP,te.1.fL,te.1.bQ⟩:dt) tg.2.2.cO tg.2.2.ay tg.2.2.av tg.2.2.aU tg.2.2.gH te.2.2.cO te.2.2.ay te.2.2.av te.2.2.aU te.2.2.gH))) ((kJ.f k (⟨xf,xg,xi,xj,xk⟩:Src) (⟨xd.fV,xd.fM,xd.fT,xd.fP,xd.fL,xd.bQ⟩:dt) tc).bind fun tj=>cond (!tj.2.1) (some (.inr false)) (bP.l0 k a2 ta ja (aw (xc+1)) (⟨tj.1.fV,tj.1.fM,tj.1.fT,tj.1.fP,tj.1.fL,tj.1.bQ⟩:dt) (⟨te.1.fV,te.1.fM,te.1.fT,te.1.fP,te.1.fL,te.1.bQ⟩:dt) tj.2.2.cO tj.2.2.ay tj.2.2.av tj.2.2.aU tj.2.2.gH te.2.2.cO te.2.2.ay te.2.2.av te.2.2.aU te.2.2.gH))))) (some (.inl (xc,decide (xc<10),(⟨xd.fV,xd.fM,xd.fT,xd.fP,xd.fL,xd.bQ⟩:dt),(⟨xe.fV,xe.fM,xe.fT,xe.fP,xe.fL,xe.bQ⟩:dt),xf,xg,xi,xj,xk,xn,xo,xp,xq,xr)))) (some (.inl (xc,false,(⟨xd.fV,xd.fM,xd.fT,xd.fP,xd.fL,xd.bQ⟩:dt),(⟨xe.fV,xe.fM,xe.fT,xe.fP,xe.fL,xe.bQ⟩:dt),xf,xg,xi,xj,xk,xn,xo,xp,xq,xr)))
def bP.f (k:Nat) (a0:List dw) (a1:List dw) (a2:List ak) (a3:Int) (a4:Int):Option (Bool):=(ov.f k a0 a1).bind fun ta=>(ff.f k ta 0).bind fun tc=>(ff.f k ta 0).bind fun te=>cond (!tc.2.2) (some false) (cond (!te.2.2) (some false) ((gU.f a3).bind fun tg=>(bP.l0 k a2 tg k 0 (⟨te.2.1.fV,te.2.1.fM,te.2.1.fT,te.2.1.fP,te.2.1.fL,te.2.1.bQ⟩:dt) (⟨tc.2.1.fV,tc.2.1.fM,tc.2.1.fT,tc.2.1.fP,tc.2.1.fL,tc.2.1.bQ⟩:dt) te.1.cO te.1.ay te.1.av te.1.aU te.1.gH tc.1.cO tc.1.ay tc.1.av tc.1.aU tc.1.gH).bind (fall fun pa=>(bp.f a4 200).bind fun tj=>(sync_Make.f k (⟨pa.2.2.2.2.2.2.2.2.2.1,pa.2.2.2.2.2.2.2.2.2.2.1,pa.2.2.2.2.2.2.2.2.2.2.2.1,pa.2.2.2.2.2.2.2.2.2.2.2.2.1,pa.2.2.2.2.2.2.2.2.2.2.2.2.2⟩:Src) tg 0 tj).bind fun tm=>(sync_Make.f k (⟨pa.2.2.2.2.1,pa.2.2.2.2.2.1,pa.2.2.2.2.2.2.1,pa.2.2.2.2.2.2.2.1,pa.2.2.2.2.2.2.2.2.1⟩:Src) tg 0 tj).bind fun tn=>cond (tm.2==0) (cond (tn.2==0) ((nh.f k tm.1 tn.1).bind fun tp=>cond tp ((eo.f k tm.1).bind fun tq=>(eo.f k tn.1).bind fun tu=>(dL.f k tq tu).bind fun tw=>cond tw ((oi.f).bind fun tx=>some tx) (some false)) (some false)) (some false)) (some false))))
end Go.Proofs.YtfknmdelgepbjaaGreatDoor
