import Derived.Test.YtfknmdelgepbjaaGreatDoorChecked
import Derived.Test.YtfknmdelgepbjaaGreatDoorConQ
import Derived.Test.YtfknmdelgepbjaaGreatDoorConA6
import Derived.Test.YtfknmdelgepbjaaGreatDoorConC4
import Derived.Lib.Join
import Derived.Eval
set_option linter.all false
set_option maxRecDepth 10000
set_option maxHeartbeats 20000000
namespace Go.Proofs.YtfknmdelgepbjaaGreatDoor
open Go Go.Sp Tryz
abbrev W2:=@Tryz.underlying2
abbrev W3:=@Tryz.underlying3
abbrev W4:=@Tryz.underlying4
abbrev W5:=@Tryz.underlying5
abbrev W9:=@Tryz.underlying9
abbrev LB:=@Tryz.underlying22
abbrev fS:=@Tryz.underlying23
abbrev W24:=@Tryz.underlying24
abbrev W25:=@Tryz.underlying25
abbrev W26:=@Tryz.underlying26
abbrev W27:=@Tryz.underlying27
abbrev W28:=@Tryz.underlying28
abbrev LF:=@Tryz.underlying30
abbrev AX:=@Tryz.underlying31
abbrev KM:=@Tryz.underlying33
abbrev tH:=@Tryz.underlying34
abbrev sW:=@Tryz.underlying35
abbrev W37:=@Tryz.underlying37
abbrev ry:=@Tryz.underlying38
abbrev W40:=@Tryz.underlying40
abbrev Hn:=@Tryz.underlying41
abbrev Bz:=@Tryz.underlying43
abbrev rR:=@Tryz.underlying46
abbrev iB:=@Tryz.underlying52
abbrev Et:=@Tryz.underlying55
abbrev Fv:=@Tryz.underlying56
abbrev Fb:=@Tryz.underlying57
abbrev KS:=@Tryz.underlying59
abbrev E1:=@Tryz.underlying63
abbrev Hl:=@Tryz.underlying64
abbrev W66:=@Tryz.underlying66
abbrev eb:=@Tryz.underlying72
abbrev Lc:=@Tryz.underlying79
abbrev tR:=@Tryz.underlying81
abbrev A0:=@Tryz.underlying83
abbrev FM:=@Tryz.underlying89
abbrev wK:=@Tryz.underlying91
abbrev Lx:=@Tryz.underlying94
abbrev Ko:=@Tryz.underlying96
abbrev mZ:=@Tryz.underlying110
abbrev mu:=@Tryz.underlying113
abbrev H9:=@Tryz.underlying116
abbrev BW:=@Tryz.underlying118
abbrev zJ:=@Tryz.underlying120
abbrev BF:=@Tryz.underlying156
abbrev Fk:=@Tryz.underlying158
abbrev W171:=@Tryz.underlying171
abbrev W174:=@Tryz.underlying174
abbrev Lm:=@Tryz.underlying177
abbrev W178:=@Tryz.underlying178
abbrev tU:=@Tryz.underlying181
abbrev H3:=@Tryz.underlying183
abbrev Ed:=@Tryz.underlying184
abbrev Lp:=@Tryz.underlying186
abbrev W187:=@Tryz.underlying187
abbrev Ln:=@Tryz.underlying190
abbrev Ki:=@Tryz.underlying192
abbrev W193:=@Tryz.underlying193
abbrev xW:=@Tryz.underlying198
abbrev Ka:=@Tryz.underlying201
abbrev HI:=@Tryz.underlying234
abbrev Hh:=@Tryz.underlying247
abbrev E7:=@Tryz.underlying248
abbrev W250:=@Tryz.underlying250
abbrev W255:=@Tryz.underlying255
abbrev Lu:=@Tryz.underlying257
abbrev oS:=@Tryz.underlying259
abbrev KR:=@Tryz.underlying261
abbrev wB:=@Tryz.underlying263
abbrev Li:=@Tryz.underlying265
abbrev W266:=@Tryz.underlying266
abbrev Im:=@Tryz.underlying268
abbrev W273:=@Tryz.underlying273
abbrev jy:=@Tryz.underlying282
abbrev KD:=@Tryz.underlying294
abbrev nK:=@Tryz.underlying299
abbrev W303:=@Tryz.underlying303
abbrev W335:=@Tryz.underlying335
abbrev W336:=@Tryz.underlying336
abbrev W382:=@Tryz.underlying382
abbrev GB:=@Tryz.underlying384
abbrev mX:=@Tryz.checked.mixed
def Cr:List Nat:=[10,100,101,102,103,104,105,106,107,108,109,11,110,111,112,113,114,115,116,117,118,119,12,120,121,122,123,124,125,128,129,13,130,132,134,135,136,137,138,139,14,140,141,142,143,144,145,146,147,148,149,15,150,151,152,153,154,155,156,157,158,159,16,160,161,165,166,167,168,169,17,172,173,174,175,176,177,178,179,18,180,181,182,19,193,20,21,211,212,213,214,215,216,217,218,219,22,220,221,222,223,224,225,226,229,23,230,231,232,233,235,236,239,24,240,241,242,25,254,255,256,257,26,261,262,263,269,27,270,271,276,277,278,279,28,281,285,29,295,296,297,30,31,32,33,34,35,36,37,38,39,40,41,42,43,44,45,46,47,48,49,50,51,52,53,54,55,56,57,58,59,60,62,63,65,66,68,69,70,71,72,73,74,75,76,77,78,79,8,80,81,82,83,84,85,86,87,88,89,9,90,91,92,93,94,95,96,97,98,99]
theorem cL (n:Nat) (h:Cr.contains n=true:=by kernel_rfl):fh prog n=true:=List.all_eq_true.1 (show Cr.all (fun n=>fh prog n)=true by kernel_rfl) n (List.contains_iff_mem.1 h)
theorem pG:prog.cellsOf 110=6:=kr
theorem ot:prog.cellsOf 113=2:=kr
theorem I8:prog.cellsOf 116=6:=kr
theorem IM:prog.cellsOf 118=3:=kr
theorem EI:prog.cellsOf 120=4:=kr
theorem Af:prog.cellsOf 156=2:=kr
theorem I9:prog.cellsOf 158=2:=kr
theorem c171:prog.cellsOf 171=1:=kr
theorem Il:prog.cellsOf 174=1:=kr
theorem c178:prog.cellsOf 178=1:=kr
theorem c181:prog.cellsOf 181=1:=kr
theorem Gc:prog.cellsOf 184=1:=kr
theorem c187:prog.cellsOf 187=1:=kr
theorem Ad:prog.cellsOf 198=4:=kr
theorem c2:prog.cellsOf 2=1:=kr
theorem c201:prog.cellsOf 201=1:=kr
theorem c23:prog.cellsOf 23=1:=kr
theorem c248:prog.cellsOf 248=1:=kr
theorem c255:prog.cellsOf 255=1:=kr
theorem c259:prog.cellsOf 259=1:=kr
theorem c263:prog.cellsOf 263=1:=kr
theorem c294:prog.cellsOf 294=5:=kr
theorem nX:prog.cellsOf 299=2:=kr
theorem c3:prog.cellsOf 3=1:=kr
theorem c30:prog.cellsOf 30=5:=kr
theorem c33:prog.cellsOf 33=1:=kr
theorem c335:prog.cellsOf 335=1:=kr
theorem c34:prog.cellsOf 34=1:=kr
theorem c35:prog.cellsOf 35=1:=kr
theorem c37:prog.cellsOf 37=2:=kr
theorem c38:prog.cellsOf 38=1:=kr
theorem c4:prog.cellsOf 4=1:=kr
theorem c40:prog.cellsOf 40=2:=kr
theorem c41:prog.cellsOf 41=1:=kr
theorem GO:prog.cellsOf 43=8:=kr
theorem c5:prog.cellsOf 5=1:=kr
theorem jh:prog.cellsOf 52=11:=kr
theorem c55:prog.cellsOf 55=1:=kr
theorem c56:prog.cellsOf 56=1:=kr
theorem c57:prog.cellsOf 57=1:=kr
theorem c59:prog.cellsOf 59=4:=kr
theorem c63:prog.cellsOf 63=1:=kr
theorem c64:prog.cellsOf 64=1:=kr
theorem c66:prog.cellsOf 66=4:=kr
theorem c72:prog.cellsOf 72=1:=kr
theorem JZ:prog.cellsOf 79=4:=kr
theorem xR:prog.cellsOf 81=2:=kr
theorem G4:prog.cellsOf 83=6:=kr
theorem J0:prog.cellsOf 89=4:=kr
theorem c9:prog.cellsOf 9=1:=kr
theorem BI:prog.cellsOf 91=6:=kr
theorem c94:prog.cellsOf 94=2:=kr
theorem c96:prog.cellsOf 96=2:=kr
theorem A2:prog.concrete 141=true:=kr
theorem sP:prog.concrete 143=true:=kr
theorem JO:prog.concrete 89=true:=kr
theorem eg158:prog.eqGuardType prog.depth 158=false:=kr
theorem eg294:prog.eqGuardType prog.depth 294=false:=kr
theorem HM:prog.eqGuardType prog.depth 52=false:=kr
theorem eg79:prog.eqGuardType prog.depth 79=false:=kr
theorem eg83:prog.eqGuardType prog.depth 83=false:=kr
theorem eg91:prog.eqGuardType prog.depth 91=false:=kr
theorem eg96:prog.eqGuardType prog.depth 96=false:=kr
theorem vP:∃ i,prog.info? 110=some i∧i.size=6∧i.zero=some (.agg #[.string ⟨#[]⟩,.string ⟨#[]⟩,.slice none 0 0,.string ⟨#[]⟩,.string ⟨#[]⟩,.int .i64 0])∧i.bytes=96:=kP kr kr kr
theorem Bf:∃ i,prog.info? 113=some i∧i.size=2∧i.zero=some (.agg #[.string ⟨#[]⟩,.slice none 0 0])∧i.bytes=40:=kP kr kr kr
theorem Ge:∃ i,prog.info? 116=some i∧i.size=6∧i.zero=some (.agg #[.int .i64 0,.string ⟨#[]⟩,.string ⟨#[]⟩,.string ⟨#[]⟩,.bool false,.string ⟨#[]⟩])∧i.bytes=80:=kP kr kr kr
theorem Lf:∃ i,prog.info? 156=some i∧i.size=2∧i.zero=some (.agg #[.string ⟨#[]⟩,.slice none 0 0])∧i.bytes=40:=kP kr kr kr
theorem Ku:∃ i,prog.info? 158=some i∧i.size=2∧i.zero=some (.agg #[.string ⟨#[]⟩,.int .i64 0])∧i.bytes=24:=kP kr kr kr
theorem KY:∃ i,prog.info? 299=some i∧i.size=2∧i.zero=some (.agg #[.int .i64 0,.string ⟨#[]⟩])∧i.bytes=24:=kP kr kr kr
theorem Ji:∃ i,prog.info? 3=some i∧i.size=1∧i.zero=some (.int .i64 0)∧i.bytes=8:=kP kr kr kr
theorem zo:∃ i,prog.info? 4=some i∧i.size=1∧i.zero=some (.bool false)∧i.bytes=1:=kP kr kr kr
theorem se:∃ i,prog.info? 5=some i∧i.size=1∧i.zero=some (.int .u8 0)∧i.bytes=1:=kP kr kr kr
theorem nI:∃ i,prog.info? 52=some i∧i.size=11∧i.zero=some (.agg #[.int .i64 0,.string ⟨#[]⟩,.string ⟨#[]⟩,.string ⟨#[]⟩,.string ⟨#[]⟩,.bool false,.bool false,.int .i64 0,.int .i64 0,.int .i64 0,.int .i64 0])∧i.bytes=112:=kP kr kr kr
theorem inf81:∃ i,prog.info? 81=some i∧i.size=2∧i.zero=some (.agg #[.int .i64 0,.string ⟨#[]⟩])∧i.bytes=24:=kP kr kr kr
theorem Ac:∃ i,prog.info? 83=some i∧i.size=6∧i.zero=some (.agg #[.string ⟨#[]⟩,.string ⟨#[]⟩,.string ⟨#[]⟩,.bool false,.int .i64 0,.string ⟨#[]⟩])∧i.bytes=80:=kP kr kr kr
theorem zE:∃ i,prog.info? 9=some i∧i.size=1∧i.zero=some (.string ⟨#[]⟩)∧i.bytes=16:=kP kr kr kr
theorem inf91:∃ i,prog.info? 91=some i∧i.size=6∧i.zero=some (.agg #[.string ⟨#[]⟩,.string ⟨#[]⟩,.string ⟨#[]⟩,.bool false,.int .i64 0,.string ⟨#[]⟩])∧i.bytes=80:=kP kr kr kr
theorem inf94:∃ i,prog.info? 94=some i∧i.size=2∧i.zero=some (.agg #[.string ⟨#[]⟩,.slice none 0 0])∧i.bytes=40:=kP kr kr kr
theorem inf96:∃ i,prog.info? 96=some i∧i.size=2∧i.zero=some (.agg #[.string ⟨#[]⟩,.int .i64 0])∧i.bytes=24:=kP kr kr kr
theorem Jc:FA prog 110 0 0:=⟨_,_,_,_,mZ,rfl,W9,c9,dc,rfl⟩
theorem Ca:FA prog 110 2 2:=⟨_,_,_,_,mZ,rfl,eb,c72,dc,rfl⟩
theorem xQ:FA prog 110 3 3:=⟨_,_,_,_,mZ,rfl,W9,c9,dc,rfl⟩
theorem CS:FA prog 110 5 5:=⟨_,_,_,_,mZ,rfl,W3,c3,dc,rfl⟩
theorem xP:FA prog 113 0 0:=⟨_,_,_,_,mu,rfl,W9,c9,dc,rfl⟩
theorem C1:FA prog 156 0 0:=⟨_,_,_,_,BF,rfl,W9,c9,dc,rfl⟩
theorem B9:FA prog 156 1 1:=⟨_,_,_,_,BF,rfl,eb,c72,dc,rfl⟩
theorem Dd:FA prog 177 0 0:=⟨_,_,_,_,Lm,rfl,W174,Il,dc,rfl⟩
theorem Jp:FA prog 177 1 1:=⟨_,_,_,_,Lm,rfl,W171,c171,dc,rfl⟩
theorem Ce:FA prog 183 0 0:=⟨_,_,_,_,H3,rfl,W178,c178,dc,rfl⟩
theorem nj:FA prog 183 1 1:=⟨_,_,_,_,H3,rfl,eb,c72,dc,rfl⟩
theorem xO:FA prog 183 2 2:=⟨_,_,_,_,H3,rfl,tU,c181,dc,rfl⟩
theorem I5:FA prog 186 0 0:=⟨_,_,_,_,Lp,rfl,Ed,Gc,dc,rfl⟩
theorem sg:FA prog 190 0 0:=⟨_,_,_,_,Ln,rfl,fS,c23,dc,rfl⟩
theorem Da:FA prog 190 1 1:=⟨_,_,_,_,Ln,rfl,W187,c187,dc,rfl⟩
theorem uf:FA prog 192 0 0:=⟨_,_,_,_,Ki,rfl,fS,c23,dc,rfl⟩
theorem Cw:FA prog 192 1 1:=⟨_,_,_,_,Ki,rfl,W187,c187,dc,rfl⟩
theorem HX:FA prog 198 0 0:=⟨_,_,_,_,xW,rfl,W3,c3,dc,rfl⟩
theorem Hi:FA prog 198 1 1:=⟨_,_,_,_,xW,rfl,W3,c3,dc,rfl⟩
theorem Dg:FA prog 198 2 2:=⟨_,_,_,_,xW,rfl,ry,c38,dc,rfl⟩
theorem IX:FA prog 198 3 3:=⟨_,_,_,_,xW,rfl,W3,c3,dc,rfl⟩
theorem Hq:FA prog 247 0 0:=⟨_,_,_,_,Hh,rfl,W3,c3,dc,rfl⟩
theorem oW:FA prog 247 1 1:=⟨_,_,_,_,Hh,rfl,fS,c23,dc,rfl⟩
theorem C9:FA prog 247 2 2:=⟨_,_,_,_,Hh,rfl,W3,c3,dc,rfl⟩
theorem uo:FA prog 250 0 0:=⟨_,_,_,_,W250,rfl,E7,c248,dc,rfl⟩
theorem yj:FA prog 257 0 0:=⟨_,_,_,_,Lu,rfl,W255,c255,dc,rfl⟩
theorem rK:FA prog 257 1 1:=⟨_,_,_,_,Lu,rfl,W2,c2,dc,rfl⟩
theorem ig:FA prog 261 0 0:=⟨_,_,_,_,KR,rfl,oS,c259,dc,rfl⟩
theorem ur:FA prog 261 1 1:=⟨_,_,_,_,KR,rfl,tU,c181,dc,rfl⟩
theorem Ii:FA prog 265 0 0:=⟨_,_,_,_,Li,rfl,W9,c9,dc,rfl⟩
theorem ug:FA prog 265 1 1:=⟨_,_,_,_,Li,rfl,wB,c263,dc,rfl⟩
theorem ud:FA prog 268 0 0:=⟨_,_,_,_,Im,rfl,mZ,pG,dc,rfl⟩
theorem yo:FA prog 268 1 6:=⟨_,_,_,_,Im,rfl,W3,c3,dc,rfl⟩
theorem Js:FA prog 268 2 7:=⟨_,_,_,_,Im,rfl,W4,c4,dc,rfl⟩
theorem Lb:FA prog 52 6 6:=⟨_,_,_,_,iB,rfl,W4,c4,dc,rfl⟩
theorem Fy:FA prog 83 0 0:=⟨_,_,_,_,A0,rfl,Lc,JZ,dc,rfl⟩
theorem GK:FA prog 83 1 4:=⟨_,_,_,_,A0,rfl,tR,xR,dc,rfl⟩
theorem Kp:FA prog 91 0 0:=⟨_,_,_,_,wK,rfl,FM,J0,dc,rfl⟩
theorem Kh:FA prog 91 1 4:=⟨_,_,_,_,wK,rfl,tR,xR,dc,rfl⟩
theorem sc201:SC prog 201:=⟨_,Ka,rfl⟩
theorem Hm:SC prog 3:=⟨_,W3,rfl⟩
theorem JE:SC prog 336:=⟨_,W336,rfl⟩
theorem sc38:SC prog 38:=⟨_,ry,rfl⟩
theorem sc4:SC prog 4:=⟨_,W4,rfl⟩
theorem ID:SC prog 72:=⟨_,eb,rfl⟩
theorem qN:SC prog 9:=⟨_,W9,rfl⟩
theorem J1:SG prog 110 6:=⟨_,mZ,rfl,pG⟩
theorem J7:SG prog 113 2:=⟨_,mu,rfl,ot⟩
theorem J8:SG prog 158 2:=⟨_,Fk,rfl,I9⟩
theorem wj:SG prog 52 11:=⟨_,iB,rfl,jh⟩
theorem sg79:SG prog 79 4:=⟨_,Lc,rfl,JZ⟩
theorem sg81:SG prog 81 2:=⟨_,tR,rfl,xR⟩
theorem sg83:SG prog 83 6:=⟨_,A0,rfl,G4⟩
theorem sg89:SG prog 89 4:=⟨_,FM,rfl,J0⟩
theorem sg91:SG prog 91 6:=⟨_,wK,rfl,BI⟩
theorem K6:SG prog 94 2:=⟨_,Lx,rfl,c94⟩
theorem K0:SG prog 96 2:=⟨_,Ko,rfl,c96⟩
theorem sz113:SZ prog 113 2:=⟨_,mu,ot⟩
theorem sz118:SZ prog 118 3:=⟨_,BW,IM⟩
theorem rT:SZ prog 23 1:=⟨_,fS,c23⟩
theorem JB:SZ prog 259 1:=⟨_,oS,c259⟩
theorem sz30:SZ prog 30 5:=⟨_,LF,c30⟩
theorem sz33:SZ prog 33 1:=⟨_,KM,c33⟩
theorem sz34:SZ prog 34 1:=⟨_,tH,c34⟩
theorem A7:SZ prog 35 1:=⟨_,sW,c35⟩
theorem Lk:SZ prog 38 1:=⟨_,ry,c38⟩
theorem sz41:SZ prog 41 1:=⟨_,Hn,c41⟩
theorem HO:SZ prog 43 8:=⟨_,Bz,GO⟩
theorem sz55:SZ prog 55 1:=⟨_,Et,c55⟩
theorem sz56:SZ prog 56 1:=⟨_,Fv,c56⟩
theorem sz57:SZ prog 57 1:=⟨_,Fb,c57⟩
theorem D1:SZ prog 59 4:=⟨_,KS,c59⟩
theorem sz63:SZ prog 63 1:=⟨_,E1,c63⟩
theorem sz64:SZ prog 64 1:=⟨_,Hl,c64⟩
theorem Jb:SZ prog 72 1:=⟨_,eb,c72⟩
theorem Fm:SZ prog 81 2:=⟨_,tR,xR⟩
theorem sz9:SZ prog 9 1:=⟨_,W9,c9⟩
theorem zm:SZ prog 91 6:=⟨_,wK,BI⟩
theorem Jy:kO prog 110=true:=kr
theorem Fl:kO prog 113=true:=kr
theorem Fg:kO prog 116=true:=kr
theorem GH:kO prog 118=true:=kr
theorem F7:kO prog 120=true:=kr
theorem pl177:kO prog 177=true:=kr
theorem pl183:kO prog 183=true:=kr
theorem pl186:kO prog 186=true:=kr
theorem pl190:kO prog 190=true:=kr
theorem pl192:kO prog 192=true:=kr
theorem pl247:kO prog 247=true:=kr
theorem pl250:kO prog 250=true:=kr
theorem pl257:kO prog 257=true:=kr
theorem pl261:kO prog 261=true:=kr
theorem pl265:kO prog 265=true:=kr
theorem pl268:kO prog 268=true:=kr
theorem pl294:kO prog 294=true:=kr
theorem pl299:kO prog 299=true:=kr
theorem pl30:kO prog 30=true:=kr
theorem pl33:kO prog 33=true:=kr
theorem Iz:kO prog 43=true:=kr
theorem Bl:kO prog 52=true:=kr
theorem Ky:kO prog 59=true:=kr
theorem pl66:kO prog 66=true:=kr
theorem pl79:kO prog 79=true:=kr
theorem FF:kO prog 81=true:=kr
theorem pl83:kO prog 83=true:=kr
theorem Hy:kO prog 89=true:=kr
theorem pl91:kO prog 91=true:=kr
theorem pl94:kO prog 94=true:=kr
theorem pl96:kO prog 96=true:=kr
theorem st158:prog.stoodInHeld 158=false:=kr
theorem st294:prog.stoodInHeld 294=false:=kr
theorem st52:prog.stoodInHeld 52=false:=kr
theorem st79:prog.stoodInHeld 79=false:=kr
theorem st81:prog.stoodInHeld 81=false:=kr
theorem st83:prog.stoodInHeld 83=false:=kr
theorem st89:prog.stoodInHeld 89=false:=kr
theorem st91:prog.stoodInHeld 91=false:=kr
theorem st96:prog.stoodInHeld 96=false:=kr
theorem xf170:(Extern.findNext Tryz.f170).isNone=true:=kr
theorem xf210:(Extern.findNext Tryz.f210).isNone=true:=kr
theorem xf237:(Extern.findNext Tryz.f237).isNone=true:=kr
theorem xf260:(Extern.findNext Tryz.f260).isNone=true:=kr
theorem xf265:(Extern.findNext Tryz.f265).isNone=true:=kr
theorem xf268:(Extern.findNext Tryz.f268).isNone=true:=kr
theorem xf298:(Extern.findNext Tryz.f298).isNone=true:=kr
theorem xg170:Extern.find Tryz.f170=some (Extern.SlicesOverlaps.overlaps Tryz.f170.params Tryz.f170.resultTypes):=by rfl
theorem xg210:Extern.find Tryz.f210=some Extern.Atomic.storeT:=by rfl
theorem xg237:Extern.find Tryz.f237=some (Extern.Atomic.loadT (.int .i64)):=by rfl
theorem xg260:Extern.find Tryz.f260=some Extern.BytealgCompare.compare:=by rfl
theorem xg265:Extern.find Tryz.f265=some (Extern.Atomic.casT (.int .i64)):=by rfl
theorem xg268:Extern.find Tryz.f268=some Extern.BytealgCount.count:=by rfl
theorem xg298:Extern.find Tryz.f298=some Extern.BytealgIndexByte.indexByte:=by rfl
theorem Ga:lO prog 110=some (.agg #[.string ⟨#[]⟩,.string ⟨#[]⟩,.slice none 0 0,.string ⟨#[]⟩,.string ⟨#[]⟩,.int .i64 0]):=kr
theorem BD:lO prog 113=some (.agg #[.string ⟨#[]⟩,.slice none 0 0]):=kr
theorem z116:lO prog 116=some (.agg #[.int .i64 0,.string ⟨#[]⟩,.string ⟨#[]⟩,.string ⟨#[]⟩,.bool false,.string ⟨#[]⟩]):=kr
theorem Ik:lO prog 118=some (.agg #[.int .i64 0,.slice none 0 0,.int .i64 0]):=kr
theorem HY:lO prog 120=some (.agg #[.slice none 0 0,.int .i64 0,.slice none 0 0,.int .i64 0]):=kr
theorem z156:lO prog 156=some (.agg #[.string ⟨#[]⟩,.slice none 0 0]):=kr
theorem z158:lO prog 158=some (.agg #[.string ⟨#[]⟩,.int .i64 0]):=kr
theorem z177:lO prog 177=some (.agg #[.pointer none,.pointer none]):=kr
theorem z183:lO prog 183=some (.agg #[.pointer none,.slice none 0 0,.map none]):=kr
theorem z186:lO prog 186=some (.agg #[.map none]):=kr
theorem z190:lO prog 190=some (.agg #[.slice none 0 0,.pointer none]):=kr
theorem z192:lO prog 192=some (.agg #[.slice none 0 0,.pointer none]):=kr
theorem z193:lO prog 193=some (.pointer none):=kr
theorem z201:lO prog 201=some .nilFunc:=kr
theorem z247:lO prog 247=some (.agg #[.int .i64 0,.slice none 0 0,.int .i64 0]):=kr
theorem z250:lO prog 250=some (.agg #[.map none]):=kr
theorem z257:lO prog 257=some (.agg #[.int .i64 0,.int .i64 0]):=kr
theorem z261:lO prog 261=some (.agg #[.slice none 0 0,.map none]):=kr
theorem z265:lO prog 265=some (.agg #[.string ⟨#[]⟩,.map none]):=kr
theorem Bm:lO prog 266=some (.pointer none):=kr
theorem z268:lO prog 268=some (.agg #[.string ⟨#[]⟩,.string ⟨#[]⟩,.slice none 0 0,.string ⟨#[]⟩,.string ⟨#[]⟩,.int .i64 0,.int .i64 0,.bool false]):=kr
theorem z294:lO prog 294=some (.agg #[.int .i64 0,.string ⟨#[]⟩,.string ⟨#[]⟩,.string ⟨#[]⟩,.bool false]):=kr
theorem KT:lO prog 299=some (.agg #[.int .i64 0,.string ⟨#[]⟩]):=kr
theorem z3:lO prog 3=some (.int .i64 0):=kr
theorem z30:lO prog 30=some (.agg #[.pointer none,.pointer none,.pointer none,.pointer none,.pointer none]):=kr
theorem z303:lO prog 303=some (.agg #[.int .i64 0,.int .i64 0]):=kr
theorem z33:lO prog 33=some (.agg #[.slice none 0 0]):=kr
theorem z336:lO prog 336=some .nilFunc:=kr
theorem z37:lO prog 37=some (.agg #[.slice none 0 0,.slice none 0 0]):=kr
theorem z382:lO prog 382=some (.agg #[.nilFunc,.nilFunc,.nilFunc]):=kr
theorem z4:lO prog 4=some (.bool false):=kr
theorem z40:lO prog 40=some (.agg #[.slice none 0 0,.slice none 0 0]):=kr
theorem z43:lO prog 43=some (.agg #[.slice none 0 0,.slice none 0 0,.slice none 0 0,.slice none 0 0,.slice none 0 0,.slice none 0 0,.slice none 0 0,.int .i64 0]):=kr
theorem z5:lO prog 5=some (.int .u8 0):=kr
theorem uQ:lO prog 52=some (.agg #[.int .i64 0,.string ⟨#[]⟩,.string ⟨#[]⟩,.string ⟨#[]⟩,.string ⟨#[]⟩,.bool false,.bool false,.int .i64 0,.int .i64 0,.int .i64 0,.int .i64 0]):=kr
theorem z59:lO prog 59=some (.agg #[.int .i64 0,.slice none 0 0,.slice none 0 0,.slice none 0 0]):=kr
theorem z66:lO prog 66=some (.agg #[.int .i64 0,.slice none 0 0,.slice none 0 0,.slice none 0 0]):=kr
theorem z79:lO prog 79=some (.agg #[.string ⟨#[]⟩,.string ⟨#[]⟩,.string ⟨#[]⟩,.bool false]):=kr
theorem HK:lO prog 81=some (.agg #[.int .i64 0,.string ⟨#[]⟩]):=kr
theorem z83:lO prog 83=some (.agg #[.string ⟨#[]⟩,.string ⟨#[]⟩,.string ⟨#[]⟩,.bool false,.int .i64 0,.string ⟨#[]⟩]):=kr
theorem z89:lO prog 89=some (.agg #[.string ⟨#[]⟩,.string ⟨#[]⟩,.string ⟨#[]⟩,.bool false]):=kr
theorem z9:lO prog 9=some (.string ⟨#[]⟩):=kr
theorem z91:lO prog 91=some (.agg #[.string ⟨#[]⟩,.string ⟨#[]⟩,.string ⟨#[]⟩,.bool false,.int .i64 0,.string ⟨#[]⟩]):=kr
theorem z94:lO prog 94=some (.agg #[.string ⟨#[]⟩,.slice none 0 0]):=kr
theorem z96:lO prog 96=some (.agg #[.string ⟨#[]⟩,.int .i64 0]):=kr
theorem zO:ZC prog 110 [eq (.string eE),eq (.string eE),eq (.slice none 0 0),eq (.string eE),eq (.string eE),eq (.int .i64 0)]:=⟨_,Ga,rfl⟩
theorem oz:ZC prog 113 [eq (.string eE),eq (.slice none 0 0)]:=⟨_,BD,rfl⟩
theorem zc116:ZC prog 116 [eq (.int .i64 0),eq (.string eE),eq (.string eE),eq (.string eE),eq (.bool false),eq (.string eE)]:=⟨_,z116,rfl⟩
theorem J5:ZC prog 118 [eq (.int .i64 0),eq (.slice none 0 0),eq (.int .i64 0)]:=⟨_,Ik,rfl⟩
theorem J4:ZC prog 120 [eq (.slice none 0 0),eq (.int .i64 0),eq (.slice none 0 0),eq (.int .i64 0)]:=⟨_,HY,rfl⟩
theorem zc294:ZC prog 294 [eq (.int .i64 0),eq (.string eE),eq (.string eE),eq (.string eE),eq (.bool false)]:=⟨_,z294,rfl⟩
theorem EP:ZC prog 299 [eq (.int .i64 0),eq (.string eE)]:=⟨_,KT,rfl⟩
theorem KP:ZC prog 30 [eq (.pointer none),eq (.pointer none),eq (.pointer none),eq (.pointer none),eq (.pointer none)]:=⟨_,z30,rfl⟩
theorem HS:ZC prog 33 [eq (.slice none 0 0)]:=⟨_,z33,rfl⟩
theorem zc336:ZC prog 336 [eq .nilFunc]:=⟨_,z336,rfl⟩
theorem K8:ZC prog 37 [eq (.slice none 0 0),eq (.slice none 0 0)]:=⟨_,z37,rfl⟩
theorem Kq:ZC prog 40 [eq (.slice none 0 0),eq (.slice none 0 0)]:=⟨_,z40,rfl⟩
theorem GI:ZC prog 43 [eq (.slice none 0 0),eq (.slice none 0 0),eq (.slice none 0 0),eq (.slice none 0 0),eq (.slice none 0 0),eq (.slice none 0 0),eq (.slice none 0 0),eq (.int .i64 0)]:=⟨_,z43,rfl⟩
theorem vQ:ZC prog 52 [eq (.int .i64 0),eq (.string eE),eq (.string eE),eq (.string eE),eq (.string eE),eq (.bool false),eq (.bool false),eq (.int .i64 0),eq (.int .i64 0),eq (.int .i64 0),eq (.int .i64 0)]:=⟨_,uQ,rfl⟩
theorem Av:ZC prog 59 [eq (.int .i64 0),eq (.slice none 0 0),eq (.slice none 0 0),eq (.slice none 0 0)]:=⟨_,z59,rfl⟩
theorem zc66:ZC prog 66 [eq (.int .i64 0),eq (.slice none 0 0),eq (.slice none 0 0),eq (.slice none 0 0)]:=⟨_,z66,rfl⟩
theorem zc79:ZC prog 79 [eq (.string eE),eq (.string eE),eq (.string eE),eq (.bool false)]:=⟨_,z79,rfl⟩
theorem tP:ZC prog 81 [eq (.int .i64 0),eq (.string eE)]:=⟨_,HK,rfl⟩
theorem zc89:ZC prog 89 [eq (.string eE),eq (.string eE),eq (.string eE),eq (.bool false)]:=⟨_,z89,rfl⟩
theorem zc91:ZC prog 91 [eq (.string eE),eq (.string eE),eq (.string eE),eq (.bool false),eq (.int .i64 0),eq (.string eE)]:=⟨_,z91,rfl⟩
theorem zc94:ZC prog 94 [eq (.string eE),eq (.slice none 0 0)]:=⟨_,z94,rfl⟩
structure ak where
 aH:Int
 aa:BA
 ai:BA
 bE:BA
 ae:BA
 ao:Bool
 j8:Bool
 b7:Int
 aM:Int
 aT:Int
 bf:Int
 deriving DecidableEq,Inhabited
abbrev ak.enc (x:ak):Cs:=[eq (.int .i64 x.aH),eq (.string x.aa),eq (.string x.ai),eq (.string x.bE),eq (.string x.ae),eq (.bool x.ao),eq (.bool x.j8),eq (.int .i64 x.b7),eq (.int .i64 x.aM),eq (.int .i64 x.aT),eq (.int .i64 x.bf)]
abbrev ak.K:Kd ak:=⟨11,default,ak.enc,fun _=>rfl,fun _=>(aj (ah rfl) (aj (ah rfl) (aj (ah rfl) (aj (ah rfl) (aj (ah rfl) (aj (ah rfl) (aj (ah rfl) (aj (ah rfl) (aj (ah rfl) (aj (ah rfl) (aj (ah rfl) bX)))))))))))⟩
structure jq where
 dX:Int
 fl:List ak
 rf:Int
 deriving DecidableEq,Inhabited
abbrev jq.enc (x:jq):Cs:=[eq (.int .i64 x.dX),sl ak.K x.fl,eq (.int .i64 x.rf)]
abbrev jq.K:Kd jq:=⟨3,default,jq.enc,fun _=>rfl,fun _=>(aj (ah rfl) (aj dP (aj (ah rfl) bX)))⟩
structure bB where
 aa:BA
 ai:BA
 ae:BA
 ao:Bool
 deriving DecidableEq,Inhabited
abbrev bB.enc (x:bB):Cs:=[eq (.string x.aa),eq (.string x.ai),eq (.string x.ae),eq (.bool x.ao)]
abbrev bB.K:Kd bB:=⟨4,default,bB.enc,fun _=>rfl,fun _=>(aj (ah rfl) (aj (ah rfl) (aj (ah rfl) (aj (ah rfl) bX))))⟩
structure Pos where
 bp:Int
 bS:BA
 deriving DecidableEq,Inhabited
abbrev Pos.enc (x:Pos):Cs:=[eq (.int .i64 x.bp),eq (.string x.bS)]
abbrev Pos.K:Kd Pos:=⟨2,default,Pos.enc,fun _=>rfl,fun _=>(aj (ah rfl) (aj (ah rfl) bX))⟩
structure jX where
 iS:List (bB×Pos)
 deriving DecidableEq,Inhabited
structure kb where
 qv:jX
 qF:jq
 deriving DecidableEq,Inhabited
structure BK where
 fv:Int
 deriving DecidableEq,Inhabited
abbrev BK.enc (x:BK):Cs:=[eq (.int .i64 x.fv)]
abbrev BK.K:Kd BK:=⟨1,default,BK.enc,fun _=>rfl,fun _=>(aj (ah rfl) bX)⟩
structure lh where
 fn:BK
 dX:Int
 deriving DecidableEq,Inhabited
abbrev lh.enc (x:lh):Cs:=[eq (.int .i64 x.fn.fv),eq (.int .i64 x.dX)]
abbrev lh.K:Kd lh:=⟨2,default,lh.enc,fun _=>rfl,fun _=>(aj (ah rfl) (aj (ah rfl) bX))⟩
structure S where
 deriving DecidableEq,Inhabited
abbrev S.enc (x:S):Cs:=[]
abbrev S.K:Kd S:=⟨0,default,S.enc,fun _=>rfl,fun _=>bX⟩
structure cI where
 iS:lh
 eO:List BA
 oo:List (BA×Int)
 deriving DecidableEq,Inhabited
structure Event where
 bS:BA
 aa:BA
 ag:List BA
 ae:BA
 ai:BA
 bO:Int
 deriving DecidableEq,Inhabited
abbrev Event.enc (x:Event):Cs:=[eq (.string x.bS),eq (.string x.aa),sl aE x.ag,eq (.string x.ae),eq (.string x.ai),eq (.int .i64 x.bO)]
abbrev Event.K:Kd Event:=⟨6,default,Event.enc,fun _=>rfl,fun _=>(aj (ah rfl) (aj (ah rfl) (aj dP (aj (ah rfl) (aj (ah rfl) (aj (ah rfl) bX))))))⟩
structure aX where
 fe:Event
 cM:Int
 kF:Bool
 deriving DecidableEq,Inhabited
abbrev aX.enc (x:aX):Cs:=[eq (.string x.fe.bS),eq (.string x.fe.aa),sl aE x.fe.ag,eq (.string x.fe.ae),eq (.string x.fe.ai),eq (.int .i64 x.fe.bO),eq (.int .i64 x.cM),eq (.bool x.kF)]
abbrev aX.K:Kd aX:=⟨8,default,aX.enc,fun _=>rfl,fun _=>(aj (ah rfl) (aj (ah rfl) (aj dP (aj (ah rfl) (aj (ah rfl) (aj (ah rfl) (aj (ah rfl) (aj (ah rfl) bX))))))))⟩
structure bn where
 cO:BA
 aq:List (BA×aX)
 deriving DecidableEq,Inhabited
structure aO where
 br:List (BA×bn)
 deriving DecidableEq,Inhabited
structure dh where
 gF:Int
 bY:BA
 deriving DecidableEq,Inhabited
abbrev dh.enc (x:dh):Cs:=[eq (.int .i64 x.gF),eq (.string x.bY)]
abbrev dh.K:Kd dh:=⟨2,default,dh.enc,fun _=>rfl,fun _=>(aj (ah rfl) (aj (ah rfl) bX))⟩
structure aN where
 fl:List dh
 iS:List (BA×Int)
 deriving DecidableEq,Inhabited
structure cC where
 fl:List ak
 gQ:aN
 deriving DecidableEq,Inhabited
structure cJ where
 fl:List ak
 fg:aN
 deriving DecidableEq,Inhabited
structure aQ where
 aa:BA
 fL:List Event
 deriving DecidableEq,Inhabited
abbrev aQ.enc (x:aQ):Cs:=[eq (.string x.aa),sl Event.K x.fL]
abbrev aQ.K:Kd aQ:=⟨2,default,aQ.enc,fun _=>rfl,fun _=>(aj (ah rfl) (aj dP bX))⟩
structure bF where
 fD:List aQ
 deriving DecidableEq,Inhabited
abbrev bF.enc (x:bF):Cs:=[sl aQ.K x.fD]
abbrev bF.K:Kd bF:=⟨1,default,bF.enc,fun _=>rfl,fun _=>(aj dP bX)⟩
structure Src where
 dx:aO
 aB:kb
 aw:cC
 bq:cJ
 jE:cI
 deriving DecidableEq,Inhabited
structure MK where
 fK:bB
 gF:Pos
 deriving DecidableEq,Inhabited
abbrev MK.enc (x:MK):Cs:=[eq (.string x.fK.aa),eq (.string x.fK.ai),eq (.string x.fK.ae),eq (.bool x.fK.ao),eq (.int .i64 x.gF.bp),eq (.string x.gF.bS)]
abbrev MK.K:Kd MK:=⟨6,default,MK.enc,fun _=>rfl,fun _=>(aj (ah rfl) (aj (ah rfl) (aj (ah rfl) (aj (ah rfl) (aj (ah rfl) (aj (ah rfl) bX))))))⟩
structure kX where
 fL:List ak
 fx:List Bool
 deriving DecidableEq,Inhabited
abbrev kX.enc (x:kX):Cs:=[sl ak.K x.fL,sl dp x.fx]
abbrev kX.K:Kd kX:=⟨2,default,kX.enc,fun _=>rfl,fun _=>(aj dP (aj dP bX))⟩
structure lW where
 fL:List ak
 fx:List Int
 deriving DecidableEq,Inhabited
abbrev lW.enc (x:lW):Cs:=[sl ak.K x.fL,sl (bG .i64) x.fx]
abbrev lW.K:Kd lW:=⟨2,default,lW.enc,fun _=>rfl,fun _=>(aj dP (aj dP bX))⟩
structure kR where
 aH:Int
 fK:bB
 mb:BA
 deriving DecidableEq,Inhabited
abbrev kR.enc (x:kR):Cs:=[eq (.int .i64 x.aH),eq (.string x.fK.aa),eq (.string x.fK.ai),eq (.string x.fK.ae),eq (.bool x.fK.ao),eq (.string x.mb)]
abbrev kR.K:Kd kR:=⟨6,default,kR.enc,fun _=>rfl,fun _=>(aj (ah rfl) (aj (ah rfl) (aj (ah rfl) (aj (ah rfl) (aj (ah rfl) (aj (ah rfl) bX))))))⟩
structure dQ where
 fV:bF
 fM:List MK
 fT:kX
 fP:lW
 fL:List kR
 aV:Int
 deriving DecidableEq,Inhabited
abbrev dQ.enc (x:dQ):Cs:=[sl aQ.K x.fV.fD,sl MK.K x.fM,sl ak.K x.fT.fL,sl dp x.fT.fx,sl ak.K x.fP.fL,sl (bG .i64) x.fP.fx,sl kR.K x.fL,eq (.int .i64 x.aV)]
abbrev dQ.K:Kd dQ:=⟨8,default,dQ.enc,fun _=>rfl,fun _=>(aj dP (aj dP (aj dP (aj dP (aj dP (aj dP (aj dP (aj (ah rfl) bX))))))))⟩
structure dt where
 ai:Int
 bO:Int
 ag:List Int
 ae:Int
 deriving DecidableEq,Inhabited
abbrev dt.enc (x:dt):Cs:=[eq (.int .i64 x.ai),eq (.int .i64 x.bO),sl (bG .i64) x.ag,eq (.int .i64 x.ae)]
abbrev dt.K:Kd dt:=⟨4,default,dt.enc,fun _=>rfl,fun _=>(aj (ah rfl) (aj (ah rfl) (aj dP (aj (ah rfl) bX))))⟩
structure nZ where
 pJ:Int
 fL:List ak
 pS:Int
 deriving DecidableEq,Inhabited
abbrev nZ.enc (x:nZ):Cs:=[eq (.int .i64 x.pJ),sl ak.K x.fL,eq (.int .i64 x.pS)]
abbrev nZ.K:Kd nZ:=⟨3,default,nZ.enc,fun _=>rfl,fun _=>(aj (ah rfl) (aj dP (aj (ah rfl) bX)))⟩
structure pT where
 fL:List MK
 fP:nZ
 deriving DecidableEq,Inhabited
abbrev pT.enc (x:pT):Cs:=[sl MK.K x.fL,eq (.int .i64 x.fP.pJ),sl ak.K x.fP.fL,eq (.int .i64 x.fP.pS)]
abbrev pT.K:Kd pT:=⟨4,default,pT.enc,fun _=>rfl,fun _=>(aj dP (aj (ah rfl) (aj dP (aj (ah rfl) bX))))⟩
structure uP where
 aH:Int
 aa:BA
 ai:BA
 ae:BA
 ao:Bool
 deriving DecidableEq,Inhabited
abbrev uP.enc (x:uP):Cs:=[eq (.int .i64 x.aH),eq (.string x.aa),eq (.string x.ai),eq (.string x.ae),eq (.bool x.ao)]
abbrev uP.K:Kd uP:=⟨5,default,uP.enc,fun _=>rfl,fun _=>(aj (ah rfl) (aj (ah rfl) (aj (ah rfl) (aj (ah rfl) (aj (ah rfl) bX)))))⟩
structure eV where
 bY:bB
 gF:Pos
 deriving DecidableEq,Inhabited
abbrev eV.enc (x:eV):Cs:=[eq (.string x.bY.aa),eq (.string x.bY.ai),eq (.string x.bY.ae),eq (.bool x.bY.ao),eq (.int .i64 x.gF.bp),eq (.string x.gF.bS)]
abbrev eV.K:Kd eV:=⟨6,default,eV.enc,fun _=>rfl,fun _=>(aj (ah rfl) (aj (ah rfl) (aj (ah rfl) (aj (ah rfl) (aj (ah rfl) (aj (ah rfl) bX))))))⟩
structure eC where
 aa:BA
 ly:List BA
 deriving DecidableEq,Inhabited
abbrev eC.enc (x:eC):Cs:=[eq (.string x.aa),sl aE x.ly]
abbrev eC.K:Kd eC:=⟨2,default,eC.enc,fun _=>rfl,fun _=>(aj (ah rfl) (aj dP bX))⟩
structure eS where
 ai:BA
 aM:Int
 deriving DecidableEq,Inhabited
abbrev eS.enc (x:eS):Cs:=[eq (.string x.ai),eq (.int .i64 x.aM)]
abbrev eS.K:Kd eS:=⟨2,default,eS.enc,fun _=>rfl,fun _=>(aj (ah rfl) (aj (ah rfl) bX))⟩
structure tC where
 lp:Int
 aB:List eV
 aw:List eC
 bK:List eS
 deriving DecidableEq,Inhabited
abbrev tC.enc (x:tC):Cs:=[eq (.int .i64 x.lp),sl eV.K x.aB,sl eC.K x.aw,sl eS.K x.bK]
abbrev tC.K:Kd tC:=⟨4,default,tC.enc,fun _=>rfl,fun _=>(aj (ah rfl) (aj dP (aj dP (aj dP bX))))⟩
structure nG where
 lp:Int
 aB:List MK
 aw:List eC
 bK:List eS
 deriving DecidableEq,Inhabited
abbrev nG.enc (x:nG):Cs:=[eq (.int .i64 x.lp),sl MK.K x.aB,sl eC.K x.aw,sl eS.K x.bK]
abbrev nG.K:Kd nG:=⟨4,default,nG.enc,fun _=>rfl,fun _=>(aj (ah rfl) (aj dP (aj dP (aj dP bX))))⟩
inductive jH where
 | nil
 | d89 (x:bB)
 | d141 (x:BA)
 | d143 (x:BA)
 deriving DecidableEq,Inhabited
def jH.p:jH→VP
 | .nil=>eq .nilIface
 | .d89 x=>ifp 89 (agg (bB.enc x))
 | .d141 x=>ifp 141 (eq (.string x))
 | .d143 x=>ifp 143 (eq (.string x))
def jH.g89:jH→Option bB
 | .d89 x=>some x
 | _=>none
def jH.sw:jH→Option BA
 | .d141 x=>some x
 | _=>none
def jH.rX:jH→Option BA
 | .d143 x=>some x
 | _=>none
theorem jH.HN (d:jH):∀ R v w,(jH.p d).p R v→∃ u,(Instr.typeAssert v 20 89 true).run prog w = .ok (.tuple #[u,.bool (jH.g89 d).isSome]) w∧(agg (bB.enc ((jH.g89 d).getD (⟨eE,eE,eE,false⟩:bB)))).p R u:=by
 intro R v w h
 cases d with
 | nil=>obtain rfl:v = .nilIface:=h; exact ⟨.agg #[.string ⟨#[]⟩,.string ⟨#[]⟩,.string ⟨#[]⟩,.bool false],kr,⟨_,rfl,Cs.eqz rfl⟩⟩
 | d89 x=>obtain ⟨u,rfl,h⟩:=h; exact ⟨u,kr,h⟩
 | d141 x=>obtain ⟨u,rfl,h⟩:=h; exact ⟨.agg #[.string ⟨#[]⟩,.string ⟨#[]⟩,.string ⟨#[]⟩,.bool false],kr,⟨_,rfl,Cs.eqz rfl⟩⟩
 | d143 x=>obtain ⟨u,rfl,h⟩:=h; exact ⟨.agg #[.string ⟨#[]⟩,.string ⟨#[]⟩,.string ⟨#[]⟩,.bool false],kr,⟨_,rfl,Cs.eqz rfl⟩⟩
theorem jH.FZ (d:jH):∀ R v w,(jH.p d).p R v→∃ u,(Instr.typeAssert v 20 141 true).run prog w = .ok (.tuple #[u,.bool (jH.sw d).isSome]) w∧(eq (.string ((jH.sw d).getD eE))).p R u:=by
 intro R v w h
 cases d with
 | nil=>obtain rfl:v = .nilIface:=h; exact ⟨.string ⟨#[]⟩,kr,rfl⟩
 | d89 x=>obtain ⟨u,rfl,h⟩:=h; exact ⟨.string ⟨#[]⟩,kr,rfl⟩
 | d141 x=>obtain ⟨u,rfl,h⟩:=h; exact ⟨u,kr,h⟩
 | d143 x=>obtain ⟨u,rfl,h⟩:=h; exact ⟨.string ⟨#[]⟩,kr,rfl⟩
theorem jH.EW (d:jH):∀ R v w,(jH.p d).p R v→∃ u,(Instr.typeAssert v 20 143 true).run prog w = .ok (.tuple #[u,.bool (jH.rX d).isSome]) w∧(eq (.string ((jH.rX d).getD eE))).p R u:=by
 intro R v w h
 cases d with
 | nil=>obtain rfl:v = .nilIface:=h; exact ⟨.string ⟨#[]⟩,kr,rfl⟩
 | d89 x=>obtain ⟨u,rfl,h⟩:=h; exact ⟨.string ⟨#[]⟩,kr,rfl⟩
 | d141 x=>obtain ⟨u,rfl,h⟩:=h; exact ⟨.string ⟨#[]⟩,kr,rfl⟩
 | d143 x=>obtain ⟨u,rfl,h⟩:=h; exact ⟨u,kr,h⟩
def bB.cv (k:bB):List Value:=[.string k.aa,.string k.ai,.string k.ae,.bool k.ao]
def bB.kv (k:bB):Value:=.agg (bB.cv k).toArray
theorem bB.kq (k:bB):∀ R u,(agg (bB.enc k)).p R u→u=bB.kv k:=fun _ _ h=>aggq (vs:=bB.cv k) rfl h
theorem J2 (x y:bB) {d:Nat} {w:World}:(Op.equalIn (d+2) 89 (.agg [.string x.aa,.string x.ai,.string x.ae,.bool x.ao].toArray) (.agg [.string y.aa,.string y.ai,.string y.ae,.bool y.ao].toArray)).run prog w = .ok (decide (x=y)) w:=by
 have e:decide (x=y)=((decide (x.aa=y.aa)&&(decide (x.ai=y.ai)&&(decide (x.ae=y.ae)&&(decide (x.ao=y.ao)&&true))))):=by cases x; cases y; rw [Bool.eq_iff_iff]; simp
 rw [e]
 exact kA FM st89 (b8 dc (aA W9 rfl rfl) (aA W9 rfl rfl) (kN W9) (b8 dc (aA W9 rfl rfl) (aA W9 rfl rfl) (kN W9) (b8 dc (aA W9 rfl rfl) (aA W9 rfl rfl) (kN W9) (b8 dc (aA W4 rfl rfl) (aA W4 rfl rfl) (si W4) nr))))
theorem C3:rQ prog 89 bB.kv:=yn (fun k=>(bB.cv k).toArray) FM (fun _=>rfl) (fun k=>(all_cons ⟨⟨_,W9,.inl rfl⟩,_,fun _=>aA W9 rfl rfl⟩ (all_cons ⟨⟨_,W9,.inl rfl⟩,_,fun _=>aA W9 rfl rfl⟩ (all_cons ⟨⟨_,W9,.inl rfl⟩,_,fun _=>aA W9 rfl rfl⟩ (all_cons ⟨⟨_,W4,.inr (.inl rfl)⟩,_,fun _=>aA W4 rfl rfl⟩ all_nil))))) (fun k c w=>kn 2 dc (fun _=>J2 k c)) (fun k=>by simp [bB.kv,bB.cv,Instr.sameBits,yf])
theorem JC (x y:bB) {d:Nat} {w:World}:(Op.equalIn (d+2) 79 (.agg [.string x.aa,.string x.ai,.string x.ae,.bool x.ao].toArray) (.agg [.string y.aa,.string y.ai,.string y.ae,.bool y.ao].toArray)).run prog w = .ok (decide (x=y)) w:=by
 have e:decide (x=y)=((decide (x.aa=y.aa)&&(decide (x.ai=y.ai)&&(decide (x.ae=y.ae)&&(decide (x.ao=y.ao)&&true))))):=by cases x; cases y; rw [Bool.eq_iff_iff]; simp
 rw [e]
 exact kA Lc st79 (b8 dc (aA W9 rfl rfl) (aA W9 rfl rfl) (kN W9) (b8 dc (aA W9 rfl rfl) (aA W9 rfl rfl) (kN W9) (b8 dc (aA W9 rfl rfl) (aA W9 rfl rfl) (kN W9) (b8 dc (aA W4 rfl rfl) (aA W4 rfl rfl) (si W4) nr))))
theorem Co (x y:ak) {d:Nat} {w:World}:(Op.equalIn (d+2) 52 (.agg [.int .i64 x.aH,.string x.aa,.string x.ai,.string x.bE,.string x.ae,.bool x.ao,.bool x.j8,.int .i64 x.b7,.int .i64 x.aM,.int .i64 x.aT,.int .i64 x.bf].toArray) (.agg [.int .i64 y.aH,.string y.aa,.string y.ai,.string y.bE,.string y.ae,.bool y.ao,.bool y.j8,.int .i64 y.b7,.int .i64 y.aM,.int .i64 y.aT,.int .i64 y.bf].toArray)).run prog w = .ok (decide (x=y)) w:=by
 have e:decide (x=y)=((decide (x.aH=y.aH)&&(decide (x.aa=y.aa)&&(decide (x.ai=y.ai)&&(decide (x.bE=y.bE)&&(decide (x.ae=y.ae)&&(decide (x.ao=y.ao)&&(decide (x.j8=y.j8)&&(decide (x.b7=y.b7)&&(decide (x.aM=y.aM)&&(decide (x.aT=y.aT)&&(decide (x.bf=y.bf)&&true)))))))))))):=by cases x; cases y; rw [Bool.eq_iff_iff]; simp
 rw [e]
 exact kA iB st52 (b8 dc (aA W3 rfl rfl) (aA W3 rfl rfl) (eq_int W3) (b8 dc (aA W9 rfl rfl) (aA W9 rfl rfl) (kN W9) (b8 dc (aA W9 rfl rfl) (aA W9 rfl rfl) (kN W9) (b8 dc (aA W9 rfl rfl) (aA W9 rfl rfl) (kN W9) (b8 dc (aA W9 rfl rfl) (aA W9 rfl rfl) (kN W9) (b8 dc (aA W4 rfl rfl) (aA W4 rfl rfl) (si W4) (b8 dc (aA W4 rfl rfl) (aA W4 rfl rfl) (si W4) (b8 dc (aA W3 rfl rfl) (aA W3 rfl rfl) (eq_int W3) (b8 dc (aA W3 rfl rfl) (aA W3 rfl rfl) (eq_int W3) (b8 dc (aA W3 rfl rfl) (aA W3 rfl rfl) (eq_int W3) (b8 dc (aA W3 rfl rfl) (aA W3 rfl rfl) (eq_int W3) nr)))))))))))
theorem KL (x y:uP) {d:Nat} {w:World}:(Op.equalIn (d+2) 294 (.agg [.int .i64 x.aH,.string x.aa,.string x.ai,.string x.ae,.bool x.ao].toArray) (.agg [.int .i64 y.aH,.string y.aa,.string y.ai,.string y.ae,.bool y.ao].toArray)).run prog w = .ok (decide (x=y)) w:=by
 have e:decide (x=y)=((decide (x.aH=y.aH)&&(decide (x.aa=y.aa)&&(decide (x.ai=y.ai)&&(decide (x.ae=y.ae)&&(decide (x.ao=y.ao)&&true)))))):=by cases x; cases y; rw [Bool.eq_iff_iff]; simp
 rw [e]
 exact kA KD st294 (b8 dc (aA W3 rfl rfl) (aA W3 rfl rfl) (eq_int W3) (b8 dc (aA W9 rfl rfl) (aA W9 rfl rfl) (kN W9) (b8 dc (aA W9 rfl rfl) (aA W9 rfl rfl) (kN W9) (b8 dc (aA W9 rfl rfl) (aA W9 rfl rfl) (kN W9) (b8 dc (aA W4 rfl rfl) (aA W4 rfl rfl) (si W4) nr)))))
theorem JY (x y:Pos) {d:Nat} {w:World}:(Op.equalIn (d+2) 81 (.agg [.int .i64 x.bp,.string x.bS].toArray) (.agg [.int .i64 y.bp,.string y.bS].toArray)).run prog w = .ok (decide (x=y)) w:=by
 have e:decide (x=y)=((decide (x.bp=y.bp)&&(decide (x.bS=y.bS)&&true))):=by cases x; cases y; rw [Bool.eq_iff_iff]; simp
 rw [e]
 exact kA tR st81 (b8 dc (aA W3 rfl rfl) (aA W3 rfl rfl) (eq_int W3) (b8 dc (aA W9 rfl rfl) (aA W9 rfl rfl) (kN W9) nr))
theorem eqt83 (x y:MK) {d:Nat} {w:World}:(Op.equalIn (d+3) 83 (.agg [.string x.fK.aa,.string x.fK.ai,.string x.fK.ae,.bool x.fK.ao,.int .i64 x.gF.bp,.string x.gF.bS].toArray) (.agg [.string y.fK.aa,.string y.fK.ai,.string y.fK.ae,.bool y.fK.ao,.int .i64 y.gF.bp,.string y.gF.bS].toArray)).run prog w = .ok (decide (x=y)) w:=by
 have e:decide (x=y)=((decide (x.fK=y.fK)&&(decide (x.gF=y.gF)&&true))):=by cases x; cases y; rw [Bool.eq_iff_iff]; simp
 rw [e]
 exact kA A0 st83 (b8 dc (run_parts Lc rfl JZ) (run_parts Lc rfl JZ) (JC _ _) (b8 dc (run_parts tR rfl xR) (run_parts tR rfl xR) (JY _ _) nr))
theorem KX (x y:eS) {d:Nat} {w:World}:(Op.equalIn (d+2) 158 (.agg [.string x.ai,.int .i64 x.aM].toArray) (.agg [.string y.ai,.int .i64 y.aM].toArray)).run prog w = .ok (decide (x=y)) w:=by
 have e:decide (x=y)=((decide (x.ai=y.ai)&&(decide (x.aM=y.aM)&&true))):=by cases x; cases y; rw [Bool.eq_iff_iff]; simp
 rw [e]
 exact kA Fk st158 (b8 dc (aA W9 rfl rfl) (aA W9 rfl rfl) (kN W9) (b8 dc (aA W3 rfl rfl) (aA W3 rfl rfl) (eq_int W3) nr))
theorem eqt91 (x y:eV) {d:Nat} {w:World}:(Op.equalIn (d+3) 91 (.agg [.string x.bY.aa,.string x.bY.ai,.string x.bY.ae,.bool x.bY.ao,.int .i64 x.gF.bp,.string x.gF.bS].toArray) (.agg [.string y.bY.aa,.string y.bY.ai,.string y.bY.ae,.bool y.bY.ao,.int .i64 y.gF.bp,.string y.gF.bS].toArray)).run prog w = .ok (decide (x=y)) w:=by
 have e:decide (x=y)=((decide (x.bY=y.bY)&&(decide (x.gF=y.gF)&&true))):=by cases x; cases y; rw [Bool.eq_iff_iff]; simp
 rw [e]
 exact kA wK st91 (b8 dc (run_parts FM rfl J0) (run_parts FM rfl J0) (J2 _ _) (b8 dc (run_parts tR rfl xR) (run_parts tR rfl xR) (JY _ _) nr))
theorem eqt96 (x y:eS) {d:Nat} {w:World}:(Op.equalIn (d+2) 96 (.agg [.string x.ai,.int .i64 x.aM].toArray) (.agg [.string y.ai,.int .i64 y.aM].toArray)).run prog w = .ok (decide (x=y)) w:=by
 have e:decide (x=y)=((decide (x.ai=y.ai)&&(decide (x.aM=y.aM)&&true))):=by cases x; cases y; rw [Bool.eq_iff_iff]; simp
 rw [e]
 exact kA Ko st96 (b8 dc (aA W9 rfl rfl) (aA W9 rfl rfl) (kN W9) (b8 dc (aA W3 rfl rfl) (aA W3 rfl rfl) (eq_int W3) nr))
def jq.O (p:OV) (m:jq):As:=wG (γ:=Nat×OV) (fun g=>p.1 = .pointer (some ⟨g.1,0,none⟩)) (fun g=>[aJ g.1 247 [eq (.int .i64 m.dX),eq g.2.1,eq (.int .i64 m.rf)],own ak.K g.2.1 m.fl])
theorem jq.iU {l:List As} {p:OV} {m:jq} (j:Nat) (hj:l[j]? = some (jq.O p m)):∀ R w,St R l w→∃ g:Nat×OV,p.1 = .pointer (some ⟨g.1,0,none⟩)∧St R ([aJ g.1 247 [eq (.int .i64 m.dX),eq g.2.1,eq (.int .i64 m.rf)],own ak.K g.2.1 m.fl]++l.eraseIdx j) w:=j6 j hj
theorem jq.shut {l r:List As} {p:OV} {m:jq} (g:Nat×OV) (hg:p.1 = .pointer (some ⟨g.1,0,none⟩)) (hp:l.Perm ([aJ g.1 247 [eq (.int .i64 m.dX),eq g.2.1,eq (.int .i64 m.rf)],own ak.K g.2.1 m.fl]++r)):∀ R w,St R l w→∃ _:Unit,True∧St R (jq.O p m::r) w:=jC _ _ g hg hp
def jX.O (p:OV) (m:jX):As:=wG (γ:=Nat×OV) (fun g=>p.1 = .pointer (some ⟨g.1,0,none⟩)) (fun g=>[aJ g.1 250 [eq g.2.1],mp bB.kv (fun x:Pos=>agg (Pos.enc x)) g.2.1 m.iS])
theorem jX.iU {l:List As} {p:OV} {m:jX} (j:Nat) (hj:l[j]? = some (jX.O p m)):∀ R w,St R l w→∃ g:Nat×OV,p.1 = .pointer (some ⟨g.1,0,none⟩)∧St R ([aJ g.1 250 [eq g.2.1],mp bB.kv (fun x:Pos=>agg (Pos.enc x)) g.2.1 m.iS]++l.eraseIdx j) w:=j6 j hj
theorem jX.shut {l r:List As} {p:OV} {m:jX} (g:Nat×OV) (hg:p.1 = .pointer (some ⟨g.1,0,none⟩)) (hp:l.Perm ([aJ g.1 250 [eq g.2.1],mp bB.kv (fun x:Pos=>agg (Pos.enc x)) g.2.1 m.iS]++r)):∀ R w,St R l w→∃ _:Unit,True∧St R (jX.O p m::r) w:=jC _ _ g hg hp
def kb.O (p:OV) (m:kb):As:=wG (γ:=Nat×OV×OV) (fun g=>p.1 = .pointer (some ⟨g.1,0,none⟩)) (fun g=>[aJ g.1 177 [eq g.2.1.1,eq g.2.2.1],jX.O g.2.1 m.qv,jq.O g.2.2 m.qF])
theorem kb.nn {p:OV} {m:kb}:NN (kb.O p m) p.1:=by unfold kb.O; exact r8 (γ:=Nat×OV×OV) (b:=fun g=>g.1)
theorem kb.iU {l:List As} {p:OV} {m:kb} (j:Nat) (hj:l[j]? = some (kb.O p m)):∀ R w,St R l w→∃ g:Nat×OV×OV,p.1 = .pointer (some ⟨g.1,0,none⟩)∧St R ([aJ g.1 177 [eq g.2.1.1,eq g.2.2.1],jX.O g.2.1 m.qv,jq.O g.2.2 m.qF]++l.eraseIdx j) w:=j6 j hj
theorem kb.shut {l r:List As} {p:OV} {m:kb} (g:Nat×OV×OV) (hg:p.1 = .pointer (some ⟨g.1,0,none⟩)) (hp:l.Perm ([aJ g.1 177 [eq g.2.1.1,eq g.2.2.1],jX.O g.2.1 m.qv,jq.O g.2.2 m.qF]++r)):∀ R w,St R l w→∃ _:Unit,True∧St R (kb.O p m::r) w:=jC _ _ g hg hp
def lh.O (p:OV) (m:lh):As:=wG (γ:=Nat) (fun g=>p.1 = .pointer (some ⟨g,0,none⟩)) (fun g=>[aJ g 257 [eq (.int .i64 m.fn.fv),eq (.int .i64 m.dX)]])
theorem lh.nn {p:OV} {m:lh}:NN (lh.O p m) p.1:=by unfold lh.O; exact r8 (γ:=Nat) (b:=fun g=>g)
theorem lh.iU {l:List As} {p:OV} {m:lh} (j:Nat) (hj:l[j]? = some (lh.O p m)):∀ R w,St R l w→∃ g:Nat,p.1 = .pointer (some ⟨g,0,none⟩)∧St R ([aJ g 257 [eq (.int .i64 m.fn.fv),eq (.int .i64 m.dX)]]++l.eraseIdx j) w:=j6 j hj
theorem lh.shut {l r:List As} {p:OV} {m:lh} (g:Nat) (hg:p.1 = .pointer (some ⟨g,0,none⟩)) (hp:l.Perm ([aJ g 257 [eq (.int .i64 m.fn.fv),eq (.int .i64 m.dX)]]++r)):∀ R w,St R l w→∃ _:Unit,True∧St R (lh.O p m::r) w:=jC _ _ g hg hp
def cI.O (p:OV) (m:cI):As:=wG (γ:=Nat×OV×OV×OV) (fun g=>p.1 = .pointer (some ⟨g.1,0,none⟩)) (fun g=>[aJ g.1 183 [eq g.2.1.1,eq g.2.2.1.1,eq g.2.2.2.1],lh.O g.2.1 m.iS,own aE g.2.2.1.1 m.eO,mp Value.string (fun x:Int=>eq (.int .i64 x)) g.2.2.2.1 m.oo])
theorem cI.nn {p:OV} {m:cI}:NN (cI.O p m) p.1:=by unfold cI.O; exact r8 (γ:=Nat×OV×OV×OV) (b:=fun g=>g.1)
theorem cI.iU {l:List As} {p:OV} {m:cI} (j:Nat) (hj:l[j]? = some (cI.O p m)):∀ R w,St R l w→∃ g:Nat×OV×OV×OV,p.1 = .pointer (some ⟨g.1,0,none⟩)∧St R ([aJ g.1 183 [eq g.2.1.1,eq g.2.2.1.1,eq g.2.2.2.1],lh.O g.2.1 m.iS,own aE g.2.2.1.1 m.eO,mp Value.string (fun x:Int=>eq (.int .i64 x)) g.2.2.2.1 m.oo]++l.eraseIdx j) w:=j6 j hj
theorem cI.shut {l r:List As} {p:OV} {m:cI} (g:Nat×OV×OV×OV) (hg:p.1 = .pointer (some ⟨g.1,0,none⟩)) (hp:l.Perm ([aJ g.1 183 [eq g.2.1.1,eq g.2.2.1.1,eq g.2.2.2.1],lh.O g.2.1 m.iS,own aE g.2.2.1.1 m.eO,mp Value.string (fun x:Int=>eq (.int .i64 x)) g.2.2.2.1 m.oo]++r)):∀ R w,St R l w→∃ _:Unit,True∧St R (cI.O p m::r) w:=jC _ _ g hg hp
def aX.O (p:OV) (m:aX):As:=wG (γ:=Nat) (fun g=>p.1 = .pointer (some ⟨g,0,none⟩)) (fun g=>[aJ g 268 [eq (.string m.fe.bS),eq (.string m.fe.aa),sl aE m.fe.ag,eq (.string m.fe.ae),eq (.string m.fe.ai),eq (.int .i64 m.fe.bO),eq (.int .i64 m.cM),eq (.bool m.kF)]])
theorem aX.nn {p:OV} {m:aX}:NN (aX.O p m) p.1:=by unfold aX.O; exact r8 (γ:=Nat) (b:=fun g=>g)
theorem aX.iU {l:List As} {p:OV} {m:aX} (j:Nat) (hj:l[j]? = some (aX.O p m)):∀ R w,St R l w→∃ g:Nat,p.1 = .pointer (some ⟨g,0,none⟩)∧St R ([aJ g 268 [eq (.string m.fe.bS),eq (.string m.fe.aa),sl aE m.fe.ag,eq (.string m.fe.ae),eq (.string m.fe.ai),eq (.int .i64 m.fe.bO),eq (.int .i64 m.cM),eq (.bool m.kF)]]++l.eraseIdx j) w:=j6 j hj
theorem aX.shut {l r:List As} {p:OV} {m:aX} (g:Nat) (hg:p.1 = .pointer (some ⟨g,0,none⟩)) (hp:l.Perm ([aJ g 268 [eq (.string m.fe.bS),eq (.string m.fe.aa),sl aE m.fe.ag,eq (.string m.fe.ae),eq (.string m.fe.ai),eq (.int .i64 m.fe.bO),eq (.int .i64 m.cM),eq (.bool m.kF)]]++r)):∀ R w,St R l w→∃ _:Unit,True∧St R (aX.O p m::r) w:=jC _ _ g hg hp
def bn.O (p:OV) (m:bn):As:=wG (γ:=Nat×OV) (fun g=>p.1 = .pointer (some ⟨g.1,0,none⟩)) (fun g=>[aJ g.1 265 [eq (.string m.cO),eq g.2.1],kK Value.string aX.O g.2.1 m.aq])
theorem bn.nn {p:OV} {m:bn}:NN (bn.O p m) p.1:=by unfold bn.O; exact r8 (γ:=Nat×OV) (b:=fun g=>g.1)
theorem bn.iU {l:List As} {p:OV} {m:bn} (j:Nat) (hj:l[j]? = some (bn.O p m)):∀ R w,St R l w→∃ g:Nat×OV,p.1 = .pointer (some ⟨g.1,0,none⟩)∧St R ([aJ g.1 265 [eq (.string m.cO),eq g.2.1],kK Value.string aX.O g.2.1 m.aq]++l.eraseIdx j) w:=j6 j hj
theorem bn.shut {l r:List As} {p:OV} {m:bn} (g:Nat×OV) (hg:p.1 = .pointer (some ⟨g.1,0,none⟩)) (hp:l.Perm ([aJ g.1 265 [eq (.string m.cO),eq g.2.1],kK Value.string aX.O g.2.1 m.aq]++r)):∀ R w,St R l w→∃ _:Unit,True∧St R (bn.O p m::r) w:=jC _ _ g hg hp
def aO.O (p:OV) (m:aO):As:=wG (γ:=Nat×OV) (fun g=>p.1 = .pointer (some ⟨g.1,0,none⟩)) (fun g=>[aJ g.1 186 [eq g.2.1],kK Value.string bn.O g.2.1 m.br])
theorem aO.nn {p:OV} {m:aO}:NN (aO.O p m) p.1:=by unfold aO.O; exact r8 (γ:=Nat×OV) (b:=fun g=>g.1)
theorem aO.iU {l:List As} {p:OV} {m:aO} (j:Nat) (hj:l[j]? = some (aO.O p m)):∀ R w,St R l w→∃ g:Nat×OV,p.1 = .pointer (some ⟨g.1,0,none⟩)∧St R ([aJ g.1 186 [eq g.2.1],kK Value.string bn.O g.2.1 m.br]++l.eraseIdx j) w:=j6 j hj
theorem aO.shut {l r:List As} {p:OV} {m:aO} (g:Nat×OV) (hg:p.1 = .pointer (some ⟨g.1,0,none⟩)) (hp:l.Perm ([aJ g.1 186 [eq g.2.1],kK Value.string bn.O g.2.1 m.br]++r)):∀ R w,St R l w→∃ _:Unit,True∧St R (aO.O p m::r) w:=jC _ _ g hg hp
def aN.O (p:OV) (m:aN):As:=wG (γ:=Nat×OV×OV) (fun g=>p.1 = .pointer (some ⟨g.1,0,none⟩)) (fun g=>[aJ g.1 261 [eq g.2.1.1,eq g.2.2.1],own dh.K g.2.1.1 m.fl,mp Value.string (fun x:Int=>eq (.int .i64 x)) g.2.2.1 m.iS])
theorem aN.nn {p:OV} {m:aN}:NN (aN.O p m) p.1:=by unfold aN.O; exact r8 (γ:=Nat×OV×OV) (b:=fun g=>g.1)
theorem aN.iU {l:List As} {p:OV} {m:aN} (j:Nat) (hj:l[j]? = some (aN.O p m)):∀ R w,St R l w→∃ g:Nat×OV×OV,p.1 = .pointer (some ⟨g.1,0,none⟩)∧St R ([aJ g.1 261 [eq g.2.1.1,eq g.2.2.1],own dh.K g.2.1.1 m.fl,mp Value.string (fun x:Int=>eq (.int .i64 x)) g.2.2.1 m.iS]++l.eraseIdx j) w:=j6 j hj
theorem aN.shut {l r:List As} {p:OV} {m:aN} (g:Nat×OV×OV) (hg:p.1 = .pointer (some ⟨g.1,0,none⟩)) (hp:l.Perm ([aJ g.1 261 [eq g.2.1.1,eq g.2.2.1],own dh.K g.2.1.1 m.fl,mp Value.string (fun x:Int=>eq (.int .i64 x)) g.2.2.1 m.iS]++r)):∀ R w,St R l w→∃ _:Unit,True∧St R (aN.O p m::r) w:=jC _ _ g hg hp
def cC.O (p:OV) (m:cC):As:=wG (γ:=Nat×OV×OV) (fun g=>p.1 = .pointer (some ⟨g.1,0,none⟩)) (fun g=>[aJ g.1 190 [eq g.2.1.1,eq g.2.2.1],own ak.K g.2.1.1 m.fl,aN.O g.2.2 m.gQ])
theorem cC.nn {p:OV} {m:cC}:NN (cC.O p m) p.1:=by unfold cC.O; exact r8 (γ:=Nat×OV×OV) (b:=fun g=>g.1)
theorem cC.iU {l:List As} {p:OV} {m:cC} (j:Nat) (hj:l[j]? = some (cC.O p m)):∀ R w,St R l w→∃ g:Nat×OV×OV,p.1 = .pointer (some ⟨g.1,0,none⟩)∧St R ([aJ g.1 190 [eq g.2.1.1,eq g.2.2.1],own ak.K g.2.1.1 m.fl,aN.O g.2.2 m.gQ]++l.eraseIdx j) w:=j6 j hj
theorem cC.shut {l r:List As} {p:OV} {m:cC} (g:Nat×OV×OV) (hg:p.1 = .pointer (some ⟨g.1,0,none⟩)) (hp:l.Perm ([aJ g.1 190 [eq g.2.1.1,eq g.2.2.1],own ak.K g.2.1.1 m.fl,aN.O g.2.2 m.gQ]++r)):∀ R w,St R l w→∃ _:Unit,True∧St R (cC.O p m::r) w:=jC _ _ g hg hp
def cJ.O (p:OV) (m:cJ):As:=wG (γ:=Nat×OV×OV) (fun g=>p.1 = .pointer (some ⟨g.1,0,none⟩)) (fun g=>[aJ g.1 192 [eq g.2.1.1,eq g.2.2.1],own ak.K g.2.1.1 m.fl,aN.O g.2.2 m.fg])
theorem cJ.nn {p:OV} {m:cJ}:NN (cJ.O p m) p.1:=by unfold cJ.O; exact r8 (γ:=Nat×OV×OV) (b:=fun g=>g.1)
theorem cJ.iU {l:List As} {p:OV} {m:cJ} (j:Nat) (hj:l[j]? = some (cJ.O p m)):∀ R w,St R l w→∃ g:Nat×OV×OV,p.1 = .pointer (some ⟨g.1,0,none⟩)∧St R ([aJ g.1 192 [eq g.2.1.1,eq g.2.2.1],own ak.K g.2.1.1 m.fl,aN.O g.2.2 m.fg]++l.eraseIdx j) w:=j6 j hj
theorem cJ.shut {l r:List As} {p:OV} {m:cJ} (g:Nat×OV×OV) (hg:p.1 = .pointer (some ⟨g.1,0,none⟩)) (hp:l.Perm ([aJ g.1 192 [eq g.2.1.1,eq g.2.2.1],own ak.K g.2.1.1 m.fl,aN.O g.2.2 m.fg]++r)):∀ R w,St R l w→∃ _:Unit,True∧St R (cJ.O p m::r) w:=jC _ _ g hg hp
def jL (g:BA→Option Bool):List VP→VP→Prop:=fun vs ret=>∃ a0 r,g a0=some r∧vs=[eq (.string a0)]∧ret=eq (.bool r)
def kl (X:As) (g:BA→Option Bool):VP:=fnx prog X (jL g)
def qo (g:Int→Option Bool):List VP→VP→Prop:=fun vs ret=>∃ a0 r,g a0=some r∧vs=[eq (.int .u8 a0)]∧ret=eq (.bool r)
def gU (g:Int→Option Bool):VP:=He prog (qo g)
def ox:Kd (Int→Option Bool):=⟨1,fun _=>none,fun g=>[gU g],fun _=>rfl,fun _ p h R v hv=>by simp at h; subst h; exact n5 R v hv⟩
def p9 (g:Int→Int→Int→Option Bool):List VP→VP→Prop:=fun vs ret=>∃ a0 a1 a2 r,g a0 a1 a2=some r∧vs=[eq (.int .i64 a0),eq (.int .i64 a1),eq (.int .i64 a2)]∧ret=eq (.bool r)
def nh (g:Int→Int→Int→Option Bool):VP:=He prog (p9 g)
def me (g:ak→Option Bool):List VP→VP→Prop:=fun vs ret=>∃ a0 r,g a0=some r∧vs=[agg (ak.enc a0)]∧ret=eq (.bool r)
def jO (g:ak→Option Bool):VP:=He prog (me g)
def iv:Kd (ak→Option Bool):=⟨1,fun _=>none,fun g=>[jO g],fun _=>rfl,fun _ p h R v hv=>by simp at h; subst h; exact n5 R v hv⟩
def oP (g:ak→ak→Option Int):List VP→VP→Prop:=fun vs ret=>∃ a0 a1 r,g a0 a1=some r∧vs=[agg (ak.enc a0),agg (ak.enc a1)]∧ret=eq (.int .i64 r)
def po (g:ak→ak→Option Int):VP:=He prog (oP g)
def pH (g:ak→BA→Option Int):List VP→VP→Prop:=fun vs ret=>∃ a0 a1 r,g a0 a1=some r∧vs=[agg (ak.enc a0),eq (.string a1)]∧ret=eq (.int .i64 r)
def pN (g:ak→BA→Option Int):VP:=He prog (pH g)
def lU (g:eC→eC→Option Bool):List VP→VP→Prop:=fun vs ret=>∃ a0 a1 r,g a0 a1=some r∧vs=[agg (eC.enc a0),agg (eC.enc a1)]∧ret=eq (.bool r)
def l8 (g:eC→eC→Option Bool):VP:=He prog (lU g)
def rL.f (a0:Int):Option ((Option jq)×Int):=cond (decide (a0<1)) (some (none,1)) (cond (decide (1000<a0)) (some (none,1)) (some (some (⟨a0,([]:List ak),0⟩:jq),0)))
def n0.f:Option (jX):=some (⟨([]:List (bB×Pos))⟩:jX)
def oI.f (a0:Int):Option ((Option kb)×Int):=(rL.f a0).bind fun t7=>cond (t7.2 != 0) (some (none,t7.2)) ((n0.f).bind fun t11=>an (t7.1.isSome=true) (some (some (⟨t11,t7.1.getD default⟩:kb),0)))
def oE.f (a0:Int) (a1:Int):Option ((Option lh)×Int):=cond (decide (a1<1)) (some (none,1)) (cond (decide (1099511627776<a1)) (some (none,1)) (cond (decide (a0<0)) (some (none,1)) (cond (decide (a1<a0)) (some (none,1)) (some (some (⟨(⟨a0⟩:BK),a1⟩:lh),0)))))
def nD.f (a0:Int) (a1:Int):Option ((Option cI)×Int):=(oE.f a0 a1).bind fun t24=>cond (t24.2 != 0) (some (none,t24.2)) (an (t24.1.isSome=true) (some (some (⟨t24.1.getD default,([]:List BA),([]:List (BA×Int))⟩:cI),0)))
def sn.f:Option (aO):=some (⟨([]:List (BA×bn))⟩:aO)
def oR.f:Option (aN):=some (⟨([]:List dh),([]:List (BA×Int))⟩:aN)
def nT.f:Option (cC):=(oR.f).bind fun t35=>some (⟨([]:List ak),t35⟩:cC)
def lR.f:Option (cJ):=(oR.f).bind fun t39=>some (⟨([]:List ak),t39⟩:cJ)
def uk.f (a0:BA):Option (bn):=some (⟨a0,([]:List (BA×aX))⟩:bn)
def aP.f (a0:aO) (a1:BA):Option bn:=cond (mget a0.br a1).isSome (some ((mget a0.br a1).getD default)) (uk.f a1)
def slices_IndexFunc_string.l0 (k:Nat) (a0:List BA) (a1:BA→Option Bool):Nat→Int→Option ((Int×Bool) ⊕ (Int))
 | 0,_=>none
 | j52+1,x46=>cond (decide (x46<(a0.length:Int))) (an ((0:Int)≤x46∧x46<(a0.length:Int)) ((a1 (aE.at a0 x46)).bind fun t49=>cond t49 (some (.inr x46)) (slices_IndexFunc_string.l0 k a0 a1 j52 (av (x46+1))))) (some (.inl (x46,decide (x46<(a0.length:Int)))))
def aY.l0 (k:Nat) (a0:List BA) (a1:(BA→Option Bool)):Nat→Int→Option ((Int×Bool) ⊕ (Int))
 | 0,_=>none
 | j61+1,x55=>cond (decide (x55<(a0.length:Int))) (an ((0:Int)≤x55∧x55<(a0.length:Int)) ((a1 (aE.at a0 x55)).bind fun t58=>cond t58 (some (.inr x55)) (aY.l0 k a0 a1 j61 (av (x55+1))))) (some (.inl (x55,decide (x55<(a0.length:Int)))))
def aY.f (k:Nat) (a0:List BA) (a1:(BA→Option Bool)):Option (Int):=(aY.l0 k a0 a1 k 0).bind (fall fun p54=>some (-1))
def az.l0 (k:Nat) (a0:List BA) (a1:(BA→Option Bool)):Nat→Int→Option ((Int×Bool) ⊕ (Int))
 | 0,_=>none
 | j71+1,x64=>cond (decide (x64<(a0.length:Int))) (an ((0:Int)≤x64∧x64<(a0.length:Int)) ((a1 (a0.getD x64.toNat default)).bind fun t68=>cond t68 (some (.inr x64)) (az.l0 k a0 a1 j71 (av (x64+1))))) (some (.inl (x64,decide (x64<(a0.length:Int)))))
def az.f (k:Nat) (a0:List BA) (a1:(BA→Option Bool)):Option (Int):=(az.l0 k a0 a1 k 0).bind (fall fun p63=>some (-1))
def cG.f (k:Nat) (a0:List BA) (a1:(BA→Option Bool)):Option (Bool):=(aY.f k a0 a1).bind fun t75=>some (decide (0≤t75))
def cN.f (k:Nat) (a0:List BA) (a1:(BA→Option Bool)):Option (Bool):=(az.f k a0 a1).bind fun t77=>some (decide (0≤t77))
def fE.f (a0:BA) (a1:BA):Option (Bool):=cond (decide ((a1.size:Int)≤(a0.size:Int))) (an ((0:Int)≤(a1.size:Int)∧0≤(a1.size:Int).toNat∧(a1.size:Int).toNat≤a0.size) (some (decide ((a0.extract 0 ((a1.size:Int).toNat))=a1)))) (some false)
def fu.f (a0:BA) (a1:BA):Option (BA×Bool):=(fE.f a0 a1).bind fun t81=>cond (!t81) (some (a0,false)) (an ((0:Int)≤(a1.size:Int)∧(a1.size:Int).toNat≤a0.size∧a0.size≤a0.size) (some (a0.extract (a1.size:Int).toNat a0.size,true)))
def ew.f (a0:BA) (a1:BA):Option (BA×Bool):=(fu.f a0 a1).bind fun t85=>some (t85.1,t85.2)
def iR.f (a0:Int):Option (Bool):=cond (decide (97≤a0)) (cond (decide (a0≤122)) (some true) (cond (decide (48≤a0)) (some (decide (a0≤57))) (some false))) (cond (decide (48≤a0)) (some (decide (a0≤57))) (some false))
def dm.f (a0:BA) (a1:Int):Option (Int):=some (l7 a0 a1)
def iI.f (a0:BA) (a1:Int):Option (Int):=(dm.f a0 a1).bind fun t91=>some t91
def dZ.f (a0:Int) (c0:BA):Option (Bool):=(iR.f a0).bind fun t93=>cond t93 (some true) ((iI.f c0 a0).bind fun t96=>some (decide (0≤t96)))
def jB.f (a0:BA):Option ((Int→Option Bool)):=some (fun a0_=>dZ.f a0_ a0)
def ee.l0 (k:Nat) (a0:BA) (a1:Int) (t99:(Int→Option Bool)) (ta:(Int→Option Bool)) (tc:(Int→Option Bool)):Nat→Int→Option ((Int×Bool) ⊕ (Bool))
 | 0,_=>none
 | ja+1,xc=>cond (decide (xc<(a0.size:Int))) (an ((0:Int)≤xc∧xc<(a0.size:Int)) (((ox.at ([t99,ta,tc]:List (Int→Option Bool)) a1) (bt a0 xc)).bind fun te=>cond (!te) (some (.inr false)) (ee.l0 k a0 a1 t99 ta tc ja (av (xc+1))))) (some (.inl (xc,decide (xc<(a0.size:Int)))))
def ee.f (k:Nat) (a0:BA) (a1:Int):Option (Bool):=(jB.f (⟨#[46,45,95]⟩:BA)).bind fun t99=>(jB.f (⟨#[46,45]⟩:BA)).bind fun ta=>(jB.f (⟨#[45,95,65,66,67,68,69,70,71,72,73,74,75,76,77,78,79,80,81,82,83,84,85,86,87,88,89,90]⟩:BA)).bind fun tc=>an ((0:Int)≤a1∧a1<(3:Int)) ((ee.l0 k a0 a1 t99 ta tc k 0).bind (fall fun pa=>cond (!decide (a0=eE)) (some (decide ((a0.size:Int)≤16))) (some false)))
def eA.f (a0:BA) (a1:BA):Option (Int):=cond ((a1.size:Int)==0) (some 0) (cond (decide (a1=a0)) (some 0) (cond ((a1.size:Int)==1) (an ((0:Int)≤0∧0<(a1.size:Int)) ((dm.f a0 (bt a1 0)).bind fun ta=>some ta)) (cond (decide ((a0.size:Int)≤(a1.size:Int))) (some (-1)) (none))))
def jP.f (a0:BA) (a1:BA):Option (BA×BA×Bool):=(eA.f a0 a1).bind fun ta=>cond (decide (0≤ta)) (an ((0:Int)≤ta∧0≤ta.toNat∧ta.toNat≤a0.size) (an ((0:Int)≤(av (ta+(a1.size:Int)))∧(av (ta+(a1.size:Int))).toNat≤a0.size∧a0.size≤a0.size) (some (a0.extract 0 ta.toNat,a0.extract (av (ta+(a1.size:Int))).toNat a0.size,true)))) (some (a0,eE,false))
def kg.f (a0:BA) (a1:BA):Option (BA×BA×Bool):=(jP.f a0 a1).bind fun ta=>some (ta.1,ta.2.1,ta.2.2)
def lD.f (k:Nat) (a0:BA):Option (Bool):=(ee.f k a0 1).bind fun ta=>cond ta (an ((0:Int)≤0∧0<(a0.size:Int)) ((iR.f (bt a0 0)).bind fun tc=>cond tc (an ((0:Int)≤(av ((a0.size:Int)-1))∧(av ((a0.size:Int)-1))<(a0.size:Int)) ((iR.f (bt a0 (av ((a0.size:Int)-1)))).bind fun te=>some te)) (some false))) (some false)
def kh.f (k:Nat) (a0:BA) (a1:BA):Option (BA×BA×Bool):=(ew.f a0 a1).bind fun ta=>(kg.f ta.1 (⟨#[58]⟩:BA)).bind fun tc=>cond ta.2 (cond tc.2.2 ((ee.f k tc.1 0).bind fun te=>cond te ((lD.f k tc.2.1).bind fun tg=>some (tc.1,tc.2.1,tg)) (some (tc.1,tc.2.1,false))) (some (tc.1,tc.2.1,false))) (some (tc.1,tc.2.1,false))
def mj.f (k:Nat) (a0:BA):Option (Bool):=(kh.f k a0 (⟨#[64]⟩:BA)).bind fun ta=>some ta.2.2
def ei.f (k:Nat) (a0:BA):Option (Bool):=(ew.f a0 (⟨#[36]⟩:BA)).bind fun ta=>cond ta.2 ((ee.f k ta.1 2).bind fun tc=>some tc) (some false)
def kB.f (k:Nat) (a0:BA):Option (Bool):=(kh.f k a0 (⟨#[33]⟩:BA)).bind fun ta=>some ta.2.2
def dB.l0 (k:Nat) (a0:Event):Nat→Int→Option (Bool×Int×Bool)
 | 0,_=>none
 | ja+1,xc=>cond (decide (xc<(a0.ag.length:Int))) (an ((0:Int)≤xc∧xc<(a0.ag.length:Int)) ((ei.f k (aE.at a0.ag xc)).bind fun ta=>cond (!ta) (some (false,xc,decide (xc<(a0.ag.length:Int)))) (cond (decide ((aE.at a0.ag xc)=a0.bS)) (some (false,xc,decide (xc<(a0.ag.length:Int)))) (cond (decide (0<xc)) (an ((0:Int)≤(av (xc-1))∧(av (xc-1))<(a0.ag.length:Int)) (cond (!dI (aE.at a0.ag (av (xc-1))) (aE.at a0.ag xc)) (some (false,xc,decide (xc<(a0.ag.length:Int)))) (dB.l0 k a0 ja (av (xc+1))))) (dB.l0 k a0 ja (av (xc+1))))))) (some (true,xc,decide (xc<(a0.ag.length:Int))))
def dB.l1 (k:Nat) (a0:Event):Nat→Int→Option (Bool×Int×Bool)
 | 0,_=>none
 | ja+1,xc=>cond (decide (xc<(a0.ag.length:Int))) (an ((0:Int)≤xc∧xc<(a0.ag.length:Int)) ((ei.f k (aE.at a0.ag xc)).bind fun ta=>cond (!ta) (some (false,xc,decide (xc<(a0.ag.length:Int)))) (cond (decide ((aE.at a0.ag xc)=a0.bS)) (some (false,xc,decide (xc<(a0.ag.length:Int)))) (cond (decide (0<xc)) (an ((0:Int)≤(av (xc-1))∧(av (xc-1))<(a0.ag.length:Int)) (cond (!dI (aE.at a0.ag (av (xc-1))) (aE.at a0.ag xc)) (some (false,xc,decide (xc<(a0.ag.length:Int)))) (dB.l1 k a0 ja (av (xc+1))))) (dB.l1 k a0 ja (av (xc+1))))))) (some (true,xc,decide (xc<(a0.ag.length:Int))))
def dB.f (k:Nat) (a0:Event):Option (Bool):=(ei.f k a0.bS).bind fun ta=>cond (!ta) (some false) ((kB.f k a0.aa).bind fun tc=>cond (!tc) (some false) ((mj.f k a0.ai).bind fun te=>cond (!te) (some false) (cond (decide (4<(a0.ag.length:Int))) (some false) (cond (decide (a0.bO<0)) (some false) (cond (decide (2<a0.bO)) (some false) (cond (!decide (a0.ae=eE)) ((ei.f k a0.ae).bind fun tg=>cond (!tg) (some false) (cond (decide (a0.ae=a0.bS)) (some false) (cond (a0.bO != 0) (some false) ((dB.l0 k a0 k 0).bind fun (pa:Bool×Int×Bool)=>some pa.1)))) ((dB.l1 k a0 k 0).bind fun (pc:Bool×Int×Bool)=>some pc.1)))))))
def ey.f (a0:bn) (a1:BA):Option (Bool):=some (!(mget a0.aq a1).isNone)
def eY.f (a0:BA) (c0:bn):Option (Bool):=(ey.f c0 a0).bind fun ta=>some (!ta)
def dL.f (xs:List BA):Option (List BA):=an (xs.length≤9223372036854775807∧xs.length*16≤140737488355328) (some xs)
def iK.f (a0:Event):Option (Event):=(dL.f a0.ag).bind fun ta=>some (⟨a0.bS,a0.aa,ta,a0.ae,a0.ai,a0.bO⟩:Event)
def dag_Dag_Add.l0 (k:Nat) (a1:Event):Nat→Int→Int→bn→Option (Int×Bool×Int×bn)
 | 0,_,_,_=>none
 | ja+1,xc,xd,xe=>cond (decide (xc<(a1.ag.length:Int))) (an ((0:Int)≤xc∧xc<(a1.ag.length:Int)) (an ((mget xe.aq (aE.at a1.ag xc)).isSome=true) (dag_Dag_Add.l0 k a1 ja (av (xc+1)) (max xd (av ((((mget xe.aq (aE.at a1.ag xc)).getD default).cM)+1))) (⟨xe.cO,mput xe.aq (aE.at a1.ag xc) (⟨((mget xe.aq (aE.at a1.ag xc)).getD default).fe,((mget xe.aq (aE.at a1.ag xc)).getD default).cM,true⟩:aX)⟩:bn)))) (some (xc,decide (xc<(a1.ag.length:Int)),xd,xe))
def dag_Dag_Add.f (k:Nat) (a0:bn) (a1:Event):Option (Int×bn):=(dB.f k a1).bind fun ta=>cond (!ta) (some (1,a0)) (cond (!decide (a1.aa=a0.cO)) (some (1,a0)) ((ey.f a0 a1.bS).bind fun tc=>cond tc (some (9,a0)) ((cG.f k a1.ag (fun a0_=>eY.f a0_ a0)).bind fun te=>cond te (some (4,a0)) ((cond (!decide (a1.ae=eE)) (cond ((mget a0.aq a1.ae).isNone) (some (.inr (4,a0))) (an ((mget a0.aq a1.ae).isSome=true) (cond (!decide (((((mget a0.aq a1.ae).getD default).fe).ae)=eE)) (some (.inr (7,a0))) (cond (((((mget a0.aq a1.ae).getD default).fe).bO) != 0) (some (.inr (7,a0))) (some (.inl ())))))) (some (.inl ()))).bind (fall fun pa=>(iK.f a1).bind fun tg=>(dag_Dag_Add.l0 k a1 k 0 0 a0).bind fun (pc:Int×Bool×Int×bn)=>some (0,(⟨pc.2.2.2.cO,mput pc.2.2.2.aq a1.bS (⟨tg,pc.2.2.1,false⟩:aX)⟩:bn)))))))
def iO.f (k:Nat) (a0:aO) (a1:Event):Option (Int×aO):=(aP.f a0 a1.aa).bind fun ta=>(dag_Dag_Add.f k ta a1).bind fun tc=>cond (tc.1 != 0) (some (tc.1,(⟨wm a0.br a1.aa tc.2⟩:aO))) (some (0,(⟨mput a0.br a1.aa tc.2⟩:aO)))
def iT.l0 (k:Nat) (a0:bF) (a1:BA):Nat→Int→Option ((Int×Bool) ⊕ (aQ))
 | 0,_=>none
 | ja+1,xc=>cond (decide (xc<(a0.fD.length:Int))) (an ((0:Int)≤xc∧xc<(a0.fD.length:Int)) (cond (decide (((aQ.K.at a0.fD xc).aa)=a1)) (an ((0:Int)≤xc∧xc<(a0.fD.length:Int)) (some (.inr (aQ.K.at a0.fD xc)))) (iT.l0 k a0 a1 ja (av (xc+1))))) (some (.inl (xc,decide (xc<(a0.fD.length:Int)))))
def iT.f (k:Nat) (a0:bF) (a1:BA):Option (aQ):=(iT.l0 k a0 a1 k 0).bind (fall fun pa=>some (⟨a1,([]:List Event)⟩:aQ))
def eR.l0 (k:Nat) (a0:BA):Nat→Int→Option ((Int×Bool) ⊕ (Int))
 | 0,_=>none
 | ja+1,xc=>cond (decide (xc<(a0.size:Int))) (an ((0:Int)≤xc∧xc<(a0.size:Int)) (cond ((bt a0 xc)==58) (some (.inr xc)) (eR.l0 k a0 ja (av (xc+1))))) (some (.inl (xc,decide (xc<(a0.size:Int)))))
def eR.f (k:Nat) (a0:BA):Option (Int):=(eR.l0 k a0 k 0).bind (fall fun pa=>some (-1))
def mJ.f (a0:Int):Option (Bool):=cond (decide (97≤a0)) (cond (decide (a0≤122)) (some true) (cond (decide (48≤a0)) (some (decide (a0≤57))) (some false))) (cond (decide (48≤a0)) (some (decide (a0≤57))) (some false))
def fk.l0 (k:Nat) (a0:BA):Nat→Int→Option ((Int×Bool) ⊕ (Bool))
 | 0,_=>none
 | ja+1,xc=>cond (decide (xc<(a0.size:Int))) (an ((0:Int)≤xc∧xc<(a0.size:Int)) ((mJ.f (bt a0 xc)).bind fun ta=>cond (!ta) (an ((0:Int)≤xc∧xc<(a0.size:Int)) (cond ((bt a0 xc) != 46) (an ((0:Int)≤xc∧xc<(a0.size:Int)) (cond ((bt a0 xc) != 45) (an ((0:Int)≤xc∧xc<(a0.size:Int)) (cond ((bt a0 xc) != 95) (some (.inr false)) (fk.l0 k a0 ja (av (xc+1))))) (fk.l0 k a0 ja (av (xc+1))))) (fk.l0 k a0 ja (av (xc+1))))) (fk.l0 k a0 ja (av (xc+1))))) (some (.inl (xc,decide (xc<(a0.size:Int)))))
def fk.f (k:Nat) (a0:BA):Option (Bool):=(fk.l0 k a0 k 0).bind (fall fun pa=>cond (decide (0<(a0.size:Int))) (some (decide ((a0.size:Int)<17))) (some false))
def da.l0 (k:Nat) (a0:BA):Nat→Int→Option ((Int×Bool) ⊕ (Bool))
 | 0,_=>none
 | ja+1,xc=>cond (decide (xc<(a0.size:Int))) (an ((0:Int)≤xc∧xc<(a0.size:Int)) ((mJ.f (bt a0 xc)).bind fun ta=>cond (decide (0<xc)) (cond (decide (xc<(av ((a0.size:Int)-1)))) (an ((0:Int)≤xc∧xc<(a0.size:Int)) (cond ((bt a0 xc)==46) (cond (!ta) (da.l0 k a0 ja (av (xc+1))) (da.l0 k a0 ja (av (xc+1)))) (an ((0:Int)≤xc∧xc<(a0.size:Int)) (cond (!ta) (cond (!((bt a0 xc)==45)) (some (.inr false)) (da.l0 k a0 ja (av (xc+1)))) (da.l0 k a0 ja (av (xc+1))))))) (cond (!ta) (some (.inr false)) (da.l0 k a0 ja (av (xc+1))))) (cond (!ta) (some (.inr false)) (da.l0 k a0 ja (av (xc+1)))))) (some (.inl (xc,decide (xc<(a0.size:Int)))))
def da.f (k:Nat) (a0:BA):Option (Bool):=(da.l0 k a0 k 0).bind (fall fun pa=>cond (decide (0<(a0.size:Int))) (some (decide ((a0.size:Int)<17))) (some false))
def iy.f (k:Nat) (a0:BA) (a1:Int):Option (Bool):=(eR.f k a0).bind fun ta=>cond (decide (ta<1)) (some false) (an ((0:Int)≤0∧0<(a0.size:Int)) (cond ((bt a0 0) != a1) (some false) (an ((0:Int)≤1∧(0:Int)≤ta∧(1:Int).toNat≤ta.toNat∧ta.toNat≤a0.size) ((fk.f k (a0.extract (1:Int).toNat ta.toNat)).bind fun tc=>an ((0:Int)≤(av (ta+1))∧(av (ta+1)).toNat≤a0.size∧a0.size≤a0.size) ((da.f k (a0.extract (av (ta+1)).toNat a0.size)).bind fun te=>cond tc (some te) (some false))))))
def bV.l0 (k:Nat) (a0:BA):Nat→Int→Option ((Int×Bool) ⊕ (Bool))
 | 0,_=>none
 | ja+1,xc=>cond (decide (xc<(a0.size:Int))) (an ((0:Int)≤xc∧xc<(a0.size:Int)) ((mJ.f (bt a0 xc)).bind fun ta=>an ((0:Int)≤xc∧xc<(a0.size:Int)) (cond (decide (65≤(bt a0 xc))) (an ((0:Int)≤xc∧xc<(a0.size:Int)) (cond (!ta) (cond (!(decide ((bt a0 xc)≤90))) (an ((0:Int)≤xc∧xc<(a0.size:Int)) (cond ((bt a0 xc) != 45) (an ((0:Int)≤xc∧xc<(a0.size:Int)) (cond ((bt a0 xc) != 95) (some (.inr false)) (bV.l0 k a0 ja (av (xc+1))))) (bV.l0 k a0 ja (av (xc+1))))) (bV.l0 k a0 ja (av (xc+1)))) (bV.l0 k a0 ja (av (xc+1))))) (cond (!ta) (an ((0:Int)≤xc∧xc<(a0.size:Int)) (cond ((bt a0 xc) != 45) (an ((0:Int)≤xc∧xc<(a0.size:Int)) (cond ((bt a0 xc) != 95) (some (.inr false)) (bV.l0 k a0 ja (av (xc+1))))) (bV.l0 k a0 ja (av (xc+1))))) (bV.l0 k a0 ja (av (xc+1))))))) (some (.inl (xc,decide (xc<(a0.size:Int)))))
def bV.f (k:Nat) (a0:BA):Option (Bool):=cond (decide ((a0.size:Int)<2)) (some false) (cond (decide (17<(a0.size:Int))) (some false) (an ((0:Int)≤0∧0<(a0.size:Int)) (cond ((bt a0 0) != 36) (some false) ((bV.l0 k a0 k 1).bind (fall fun pa=>some true)))))
def gN.l0 (k:Nat) (a0:Event):Nat→Int→Option ((Int×Bool) ⊕ (Bool))
 | 0,_=>none
 | ja+1,xc=>cond (decide (xc<(a0.ag.length:Int))) (an ((0:Int)≤xc∧xc<(a0.ag.length:Int)) ((bV.f k (aE.at a0.ag xc)).bind fun ta=>cond (!ta) (some (.inr false)) (an ((0:Int)≤xc∧xc<(a0.ag.length:Int)) (cond (decide ((aE.at a0.ag xc)=a0.bS)) (some (.inr false)) (cond (decide (0<xc)) (an ((0:Int)≤(max (av (xc-1)) 0)∧(max (av (xc-1)) 0)<(a0.ag.length:Int)) (an ((0:Int)≤xc∧xc<(a0.ag.length:Int)) (cond (!dI (aE.at a0.ag (max (av (xc-1)) 0)) (aE.at a0.ag xc)) (some (.inr false)) (gN.l0 k a0 ja (av (xc+1)))))) (gN.l0 k a0 ja (av (xc+1)))))))) (some (.inl (xc,decide (xc<(a0.ag.length:Int)))))
def gN.f (k:Nat) (a0:Event):Option (Bool):=(bV.f k a0.bS).bind fun ta=>(iy.f k a0.aa 33).bind fun tc=>(iy.f k a0.ai 64).bind fun te=>cond (!ta) (some false) (cond (!tc) (some false) (cond (!te) (some false) (cond (decide (4<(a0.ag.length:Int))) (some false) (cond (decide (a0.bO<0)) (some false) (cond (decide (2<a0.bO)) (some false) ((cond (!decide (a0.ae=eE)) ((bV.f k a0.ae).bind fun tg=>cond (!tg) (some (.inr false)) (cond (decide (a0.ae=a0.bS)) (some (.inr false)) (cond (a0.bO != 0) (some (.inr false)) (some (.inl ()))))) (some (.inl ()))).bind (fall fun pa=>(gN.l0 k a0 k 0).bind (fall fun pc=>some true))))))))
def eG.l0 (k:Nat) (a0:aQ) (a1:BA):Nat→Int→Option ((Int×Bool) ⊕ (Int))
 | 0,_=>none
 | ja+1,xc=>cond (decide (xc<(a0.fL.length:Int))) (an ((0:Int)≤xc∧xc<(a0.fL.length:Int)) (cond (decide (((Event.K.at a0.fL xc).bS)=a1)) (some (.inr xc)) (eG.l0 k a0 a1 ja (av (xc+1))))) (some (.inl (xc,decide (xc<(a0.fL.length:Int)))))
def eG.f (k:Nat) (a0:aQ) (a1:BA):Option (Int):=(eG.l0 k a0 a1 k 0).bind (fall fun pa=>some (-1))
def dO.l0 (k:Nat) (a0:aQ) (a1:Event):Nat→Int→Option ((Int×Bool) ⊕ (aQ×Int))
 | 0,_=>none
 | ja+1,xc=>cond (decide (xc<(a1.ag.length:Int))) (an ((0:Int)≤xc∧xc<(a1.ag.length:Int)) ((eG.f k a0 (aE.at a1.ag xc)).bind fun ta=>cond (decide (ta<0)) (some (.inr (a0,4))) (dO.l0 k a0 a1 ja (av (xc+1))))) (some (.inl (xc,decide (xc<(a1.ag.length:Int)))))
def dO.f (k:Nat) (a0:aQ) (a1:Event):Option (aQ×Int):=(gN.f k a1).bind fun ta=>cond (!ta) (some (a0,1)) (cond (!decide (a1.aa=a0.aa)) (some (a0,1)) ((eG.f k a0 a1.bS).bind fun tc=>cond (decide (0≤tc)) (some (a0,9)) ((dO.l0 k a0 a1 k 0).bind (fall fun pa=>(cond (!decide (a1.ae=eE)) ((eG.f k a0 a1.ae).bind fun te=>cond (decide (te<0)) (some (.inr (a0,4))) (an ((0:Int)≤te∧te<(a0.fL.length:Int)) (cond (!decide (((Event.K.at a0.fL te).ae)=eE)) (some (.inr (a0,7))) (an ((0:Int)≤te∧te<(a0.fL.length:Int)) (cond (((Event.K.at a0.fL te).bO) != 0) (some (.inr (a0,7))) (some (.inl ()))))))) (some (.inl ()))).bind (fall fun pc=>an (([]:List Event).length+a0.fL.length≤9223372036854775807∧(([]:List Event).length+a0.fL.length)*96≤140737488355328) (an ((([]:List Event)++a0.fL).length+([a1]:List Event).length≤9223372036854775807∧((([]:List Event)++a0.fL).length+([a1]:List Event).length)*96≤140737488355328) (some ((⟨a0.aa,(([]:List Event)++a0.fL)++([a1]:List Event)⟩:aQ),0))))))))
def eB.l0 (k:Nat) (a0:bF) (a1:Event) (ta:aQ×Int):Nat→Bool→Int→List aQ→Option (Bool×Int×Bool×(List aQ))
 | 0,_,_,_=>none
 | ja+1,xc,xd,xe=>cond (decide (xd<(a0.fD.length:Int))) ((cond (!xc) (an ((0:Int)≤xd∧xd<(a0.fD.length:Int)) (cond (!dI ((aQ.K.at a0.fD xd).aa) a1.aa) (an (xe.length+([ta.1]:List aQ).length≤9223372036854775807∧(xe.length+([ta.1]:List aQ).length)*40≤140737488355328) (some (true,!dI ((aQ.K.at a0.fD xd).aa) a1.aa,xe++([ta.1]:List aQ)))) (some (xc,!dI ((aQ.K.at a0.fD xd).aa) a1.aa,xe)))) (some (xc,false,xe))).bind fun (pa:Bool×Bool×(List aQ))=>an ((0:Int)≤xd∧xd<(a0.fD.length:Int)) (cond (!decide (((aQ.K.at a0.fD xd).aa)=a1.aa)) (an ((0:Int)≤xd∧xd<(a0.fD.length:Int)) (an (pa.2.2.length+([aQ.K.at a0.fD xd]:List aQ).length≤9223372036854775807∧(pa.2.2.length+([aQ.K.at a0.fD xd]:List aQ).length)*40≤140737488355328) (eB.l0 k a0 a1 ta ja pa.1 (av (xd+1)) (pa.2.2++([aQ.K.at a0.fD xd]:List aQ))))) (eB.l0 k a0 a1 ta ja pa.1 (av (xd+1)) pa.2.2))) (some (xc,xd,decide (xd<(a0.fD.length:Int)),xe))
def eB.f (k:Nat) (a0:bF) (a1:Event):Option (bF×Int):=(iT.f k a0 a1.aa).bind fun ta=>(dO.f k ta a1).bind fun tc=>cond (tc.2 != 0) (some (a0,tc.2)) ((eB.l0 k a0 a1 tc k false 0 ([]:List aQ)).bind fun (pa:Bool×Int×Bool×(List aQ))=>cond (!pa.1) (an (pa.2.2.2.length+([tc.1]:List aQ).length≤9223372036854775807∧(pa.2.2.2.length+([tc.1]:List aQ).length)*40≤140737488355328) (some ((⟨pa.2.2.2++([tc.1]:List aQ)⟩:bF),0))) (some ((⟨pa.2.2.2⟩:bF),0)))
def gY.l0 (k:Nat) (a0:List Event):Nat→Int→List aQ→Option (Int×Bool×(List aQ))
 | 0,_,_=>none
 | ja+1,xc,xd=>cond (decide (xc<(a0.length:Int))) (an ((0:Int)≤xc∧xc<(a0.length:Int)) ((eB.f k (⟨xd⟩:bF) (Event.K.at a0 xc)).bind fun ta=>gY.l0 k a0 ja (av (xc+1)) ta.1.fD)) (some (xc,decide (xc<(a0.length:Int)),xd))
def gY.f (k:Nat) (a0:List Event):Option (bF):=(gY.l0 k a0 k 0 ([]:List aQ)).bind fun (pa:Int×Bool×(List aQ))=>some (⟨pa.2.2⟩:bF)
def gB.l0 (k:Nat) (a0:List Event) (ta:(Option kb)×Int) (tc:(Option cI)×Int) (te:cC) (tg:cJ):Nat→Int→aO→Option ((Int×Bool×aO) ⊕ (Src×dQ×Bool))
 | 0,_,_=>none
 | ja+1,xc,xd=>cond (decide (xc<(a0.length:Int))) (an ((0:Int)≤xc∧xc<(a0.length:Int)) ((iO.f k xd (Event.K.at a0 xc)).bind fun tj=>cond (tj.1 != 0) (some (.inr ((⟨tj.2,ta.1.getD default,te,tg,tc.1.getD default⟩:Src),(⟨(⟨([]:List aQ)⟩:bF),([]:List MK),(⟨([]:List ak),([]:List Bool)⟩:kX),(⟨([]:List ak),([]:List Int)⟩:lW),([]:List kR),0⟩:dQ),false))) (gB.l0 k a0 ta tc te tg ja (av (xc+1)) tj.2))) (some (.inl (xc,decide (xc<(a0.length:Int)),xd)))
def gB.f (k:Nat) (a0:List Event) (a1:Int):Option (Src×dQ×Bool):=(oI.f 8).bind fun ta=>(nD.f a1 (av (a1+1000))).bind fun tc=>(sn.f).bind fun te=>(nT.f).bind fun tg=>(lR.f).bind fun tj=>an (ta.1.isSome=true) (an (tc.1.isSome=true) (cond (ta.2 != 0) (some ((⟨te,ta.1.getD default,tg,tj,tc.1.getD default⟩:Src),(⟨(⟨([]:List aQ)⟩:bF),([]:List MK),(⟨([]:List ak),([]:List Bool)⟩:kX),(⟨([]:List ak),([]:List Int)⟩:lW),([]:List kR),0⟩:dQ),false)) (cond (tc.2 != 0) (some ((⟨te,ta.1.getD default,tg,tj,tc.1.getD default⟩:Src),(⟨(⟨([]:List aQ)⟩:bF),([]:List MK),(⟨([]:List ak),([]:List Bool)⟩:kX),(⟨([]:List ak),([]:List Int)⟩:lW),([]:List kR),0⟩:dQ),false)) ((gB.l0 k a0 ta tc tg tj k 0 te).bind (fall fun pa=>(gY.f k a0).bind fun tm=>some ((⟨pa.2.2,ta.1.getD default,tg,tj,tc.1.getD default⟩:Src),(⟨tm,([]:List MK),(⟨([]:List ak),([]:List Bool)⟩:kX),(⟨([]:List ak),([]:List Int)⟩:lW),([]:List kR),a1⟩:dQ),true))))))
def aS.f (a0:Int) (a1:Int):Option (Int):=cond (decide (a0<0)) (an (a1≠0) (some ((av (0-(av (a0+1)))).tmod a1))) (an (a1≠0) (some (a0.tmod a1)))
def fa.f (a0:Int):Option (BA):=(aS.f a0 2).bind fun ta=>an ((0:Int)≤ta∧ta<(([(⟨#[33,114,58,115,49]⟩:BA),(⟨#[33,113,58,115,50]⟩:BA)]:List BA).length:Int)) (some (aE.at ([(⟨#[33,114,58,115,49]⟩:BA),(⟨#[33,113,58,115,50]⟩:BA)]:List BA) ta))
def nk.f (a0:Int):Option (BA):=(aS.f a0 3).bind fun ta=>an ((0:Int)≤ta∧ta<(([(⟨#[115,49]⟩:BA),(⟨#[115,50]⟩:BA),(⟨#[115,51]⟩:BA)]:List BA).length:Int)) (some (aE.at ([(⟨#[115,49]⟩:BA),(⟨#[115,50]⟩:BA),(⟨#[115,51]⟩:BA)]:List BA) ta))
def fb.f (a0:Int):Option (BA):=(aS.f a0 9).bind fun ta=>an ((0:Int)≤(av (ta.tdiv 3))∧(av (ta.tdiv 3))<(([(⟨#[64,97,58]⟩:BA),(⟨#[64,98,58]⟩:BA),(⟨#[64,99,58]⟩:BA)]:List BA).length:Int)) ((nk.f (ta.tmod 3)).bind fun tc=>an ((aE.at ([(⟨#[64,97,58]⟩:BA),(⟨#[64,98,58]⟩:BA),(⟨#[64,99,58]⟩:BA)]:List BA) (av (ta.tdiv 3))).size+tc.size≤9223372036854775807) (some ((aE.at ([(⟨#[64,97,58]⟩:BA),(⟨#[64,98,58]⟩:BA),(⟨#[64,99,58]⟩:BA)]:List BA) (av (ta.tdiv 3)))++tc)))
def iH.f:Nat→Int→Option (BA)
 | 0,_=>none
 | k+1,a0=>(cond (decide ((a0.tmod 10)<0)) (some (av (0-(a0.tmod 10)))) (some (a0.tmod 10))).bind fun (pa:Int)=>cond (decide ((-10)<a0)) (cond (decide (a0<10)) (cond (decide (a0<0)) (an ((⟨#[45]⟩:BA).size+(gI ([IntKind.u8.wrap (av (48+pa))]:List Int)).size≤9223372036854775807) (some ((⟨#[45]⟩:BA)++(gI ([IntKind.u8.wrap (av (48+pa))]:List Int))))) (some (gI ([IntKind.u8.wrap (av (48+pa))]:List Int)))) ((iH.f k (av (a0.tdiv 10))).bind fun ta=>an (ta.size+(gI ([IntKind.u8.wrap (av (48+pa))]:List Int)).size≤9223372036854775807) (some (ta++(gI ([IntKind.u8.wrap (av (48+pa))]:List Int)))))) ((iH.f k (av (a0.tdiv 10))).bind fun tc=>an (tc.size+(gI ([IntKind.u8.wrap (av (48+pa))]:List Int)).size≤9223372036854775807) (some (tc++(gI ([IntKind.u8.wrap (av (48+pa))]:List Int)))))
def dj.f (k:Nat) (a0:Int):Option (BA):=(aS.f a0 9).bind fun ta=>(iH.f k ta).bind fun tc=>an ((⟨#[36,101]⟩:BA).size+tc.size≤9223372036854775807) (some ((⟨#[36,101]⟩:BA)++tc))
def bJ.l1 (k:Nat) (xc:Int) (pa:Int×Bool×(List Bool)):Nat→Int→List BA→Option (Int×Bool×(List BA))
 | 0,_,_=>none
 | ja+1,xd,xe=>cond (decide (xd<xc)) (an ((0:Int)≤xd∧xd<(pa.2.2.length:Int)) (cond (pa.2.2.getD xd.toNat default) ((dj.f k xd).bind fun ta=>an (xe.length+([ta]:List BA).length≤9223372036854775807∧(xe.length+([ta]:List BA).length)*16≤140737488355328) (bJ.l1 k xc pa ja (av (xd+1)) (xe++([ta]:List BA)))) (bJ.l1 k xc pa ja (av (xd+1)) xe))) (some (xd,decide (xd<xc),xe))
def bJ.l2 (k:Nat) (a1:List dt) (xc:Int):Nat→Int→List Bool→Option (Int×Bool×(List Bool))
 | 0,_,_=>none
 | ja+1,xd,xe=>an ((0:Int)≤xc∧xc<(a1.length:Int)) (cond (decide (xd<(((dt.K.at a1 xc).ag).length:Int))) (cond (decide (xd<3)) (cond (decide (0<xc)) (an ((0:Int)≤xc∧xc<(a1.length:Int)) (an ((0:Int)≤xd∧xd<(((dt.K.at a1 xc).ag).length:Int)) ((aS.f ((bG .i64).at ((dt.K.at a1 xc).ag) xd) xc).bind fun ta=>an ((0:Int)≤ta∧ta<(xe.length:Int)) (bJ.l2 k a1 xc ja (av (xd+1)) (xe.set ta.toNat true))))) (some (xd,decide (0<xc),xe))) (some (xd,false,xe))) (some (xd,false,xe)))
def bJ.l0 (k:Nat) (a0:BA) (a1:List dt):Nat→Int→BA→List Event→Option (Int×Bool×BA×(List Event))
 | 0,_,_,_=>none
 | ja+1,xc,xd,xe=>cond (decide (xc<(a1.length:Int))) (cond (decide (xc<9)) (((dj.f k xc).bind fun ta=>an ((0:Int)≤xc∧xc<(a1.length:Int)) ((fb.f ((dt.K.at a1 xc).ai)).bind fun tc=>an ((0:Int)≤xc∧xc<(a1.length:Int)) ((aS.f ((dt.K.at a1 xc).bO) 3).bind fun te=>an ((0:Int)≤9∧9≤(9223372036854775807:Int)∧(9:Int).toNat*1≤140737488355328) ((bJ.l2 k a1 xc k 0 (List.replicate (9:Int).toNat (false:Bool))).bind fun (pa:Int×Bool×(List Bool))=>(bJ.l1 k xc pa k 0 ([]:List BA)).bind fun (pc:Int×Bool×(List BA))=>cond (te==0) (cond (decide (0<xc)) (an ((0:Int)≤xc∧xc<(a1.length:Int)) ((aS.f ((dt.K.at a1 xc).ae) (av (2*xc))).bind fun tg=>cond (decide (tg<xc)) (an ((0:Int)≤tg∧tg<(xe.length:Int)) (cond (((Event.K.at xe tg).bO)==0) (an ((0:Int)≤tg∧tg<(xe.length:Int)) (cond (decide (((Event.K.at xe tg).ae)=eE)) ((dj.f k tg).bind fun tj=>(dO.f k (⟨xd,xe⟩:aQ) (⟨ta,a0,pc.2.2,tj,tc,te⟩:Event)).bind fun tm=>some (pa.1,pc.1,pa.2.1,pc.2.1,decide (0<xc),tm.1.aa,tm.1.fL,pa.2.2)) ((dO.f k (⟨xd,xe⟩:aQ) (⟨ta,a0,pc.2.2,eE,tc,te⟩:Event)).bind fun tn=>some (pa.1,pc.1,pa.2.1,pc.2.1,decide (0<xc),tn.1.aa,tn.1.fL,pa.2.2)))) ((dO.f k (⟨xd,xe⟩:aQ) (⟨ta,a0,pc.2.2,eE,tc,te⟩:Event)).bind fun tp=>some (pa.1,pc.1,pa.2.1,pc.2.1,decide (0<xc),tp.1.aa,tp.1.fL,pa.2.2)))) ((dO.f k (⟨xd,xe⟩:aQ) (⟨ta,a0,pc.2.2,eE,tc,te⟩:Event)).bind fun tq=>some (pa.1,pc.1,pa.2.1,pc.2.1,decide (0<xc),tq.1.aa,tq.1.fL,pa.2.2)))) ((dO.f k (⟨xd,xe⟩:aQ) (⟨ta,a0,pc.2.2,eE,tc,te⟩:Event)).bind fun tu=>some (pa.1,pc.1,pa.2.1,pc.2.1,decide (0<xc),tu.1.aa,tu.1.fL,pa.2.2))) ((dO.f k (⟨xd,xe⟩:aQ) (⟨ta,a0,pc.2.2,eE,tc,te⟩:Event)).bind fun tw=>some (pa.1,pc.1,pa.2.1,pc.2.1,false,tw.1.aa,tw.1.fL,pa.2.2)))))).bind fun (pe:Int×Int×Bool×Bool×Bool×BA×(List Event)×(List Bool))=>bJ.l0 k a0 a1 ja (av (xc+1)) pe.2.2.2.2.2.1 pe.2.2.2.2.2.2.1) (some (xc,decide (xc<9),xd,xe))) (some (xc,false,xd,xe))
def bJ.f (k:Nat) (a0:BA) (a1:List dt):Option (aQ):=(bJ.l0 k a0 a1 k 0 a0 ([]:List Event)).bind fun (pa:Int×Bool×BA×(List Event))=>some (⟨pa.2.2.1,pa.2.2.2⟩:aQ)
def oM.f (k:Nat) (a0:List dt) (a1:List dt):Option ((List Event)):=(fa.f 0).bind fun ta=>(bJ.f k ta a0).bind fun tc=>an (([]:List Event).length+tc.fL.length≤9223372036854775807∧(([]:List Event).length+tc.fL.length)*96≤140737488355328) ((fa.f 1).bind fun te=>(bJ.f k te a1).bind fun tg=>an ((([]:List Event)++tc.fL).length+tg.fL.length≤9223372036854775807∧((([]:List Event)++tc.fL).length+tg.fL.length)*96≤140737488355328) (some ((([]:List Event)++tc.fL)++tg.fL)))
def gG.l0 (k:Nat) (a0:List MK) (a1:bB):Nat→Int→Option ((Int×Bool) ⊕ (Int))
 | 0,_=>none
 | ja+1,xc=>cond (decide (xc<(a0.length:Int))) (an ((0:Int)≤xc∧xc<(a0.length:Int)) (cond (decide ((MK.K.at a0 xc).fK=a1)) (some (.inr xc)) (gG.l0 k a0 a1 ja (av (xc+1))))) (some (.inl (xc,decide (xc<(a0.length:Int)))))
def gG.f (k:Nat) (a0:List MK) (a1:bB):Option (Int):=(gG.l0 k a0 a1 k 0).bind (fall fun pa=>some (-1))
def jJ.f (a0:Pos) (a1:Pos):Option (Bool):=cond (decide (a0.bp<a1.bp)) (some true) (cond (a0.bp==a1.bp) (some (dI a0.bS a1.bS)) (some false))
def mg.f (a0:bB) (a1:bB):Option (Bool):=cond (!decide (a0.aa=a1.aa)) (some (dI a0.aa a1.aa)) (cond (!decide (a0.ai=a1.ai)) (some (dI a0.ai a1.ai)) (cond (!decide (a0.ae=a1.ae)) (some (dI a0.ae a1.ae)) (cond (!a0.ao) (some a1.ao) (some false))))
def jD.l0 (k:Nat) (a0:List MK) (a1:bB):Nat→Int→Option (Int×Bool)
 | 0,_=>none
 | ja+1,xc=>cond (decide (xc<(a0.length:Int))) (an ((0:Int)≤xc∧xc<(a0.length:Int)) ((mg.f ((MK.K.at a0 xc).fK) a1).bind fun ta=>cond ta (jD.l0 k a0 a1 ja (av (xc+1))) (some (xc,ta)))) (some (xc,false))
def jD.f (k:Nat) (a0:List MK) (a1:bB) (a2:Pos):Option ((List MK)×Bool):=(gG.f k a0 a1).bind fun ta=>cond (decide (0≤ta)) (an ((0:Int)≤ta∧ta<(a0.length:Int)) ((jJ.f ((MK.K.at a0 ta).gF) a2).bind fun tc=>cond (!tc) (some (a0,false)) (an (([]:List MK).length+a0.length≤9223372036854775807∧(([]:List MK).length+a0.length)*80≤140737488355328) (an ((0:Int)≤ta∧ta<((([]:List MK)++a0).length:Int)) (some ((([]:List MK)++a0).set ta.toNat (⟨((([]:List MK)++a0).getD ta.toNat default).fK,a2⟩:MK),true)))))) ((jD.l0 k a0 a1 k 0).bind fun (pa:Int×Bool)=>an ((0:Int)≤pa.1∧0≤pa.1.toNat∧pa.1.toNat≤a0.length) (an (([]:List MK).length+((a0.take pa.1.toNat).drop 0).length≤9223372036854775807∧(([]:List MK).length+((a0.take pa.1.toNat).drop 0).length)*80≤140737488355328) (an ((([]:List MK)++((a0.take pa.1.toNat).drop 0)).length+([(⟨a1,a2⟩:MK)]:List MK).length≤9223372036854775807∧((([]:List MK)++((a0.take pa.1.toNat).drop 0)).length+([(⟨a1,a2⟩:MK)]:List MK).length)*80≤140737488355328) (an ((0:Int)≤pa.1∧pa.1.toNat≤a0.length∧a0.length≤a0.length) (an (((([]:List MK)++((a0.take pa.1.toNat).drop 0))++([(⟨a1,a2⟩:MK)]:List MK)).length+((a0.take a0.length).drop pa.1.toNat).length≤9223372036854775807∧(((([]:List MK)++((a0.take pa.1.toNat).drop 0))++([(⟨a1,a2⟩:MK)]:List MK)).length+((a0.take a0.length).drop pa.1.toNat).length)*80≤140737488355328) (some (((([]:List MK)++((a0.take pa.1.toNat).drop 0))++([(⟨a1,a2⟩:MK)]:List MK))++((a0.take a0.length).drop pa.1.toNat),true)))))))
def qx.f (a0:ak):Option (bB):=some (⟨a0.aa,a0.ai,a0.ae,a0.ao⟩:bB)
def mi.f (k:Nat) (a0:BA):Option (Bool):=(bV.f k a0).bind fun ta=>cond (decide (a0=eE)) (some true) (cond (decide (a0=(⟨#[109,97,105,110]⟩:BA))) (some true) (some ta))
def fY.f (k:Nat) (a0:ak):Option (Bool):=(iy.f k a0.ai 64).bind fun ta=>(iy.f k a0.aa 33).bind fun tc=>(bV.f k a0.bE).bind fun te=>(mi.f k a0.ae).bind fun tg=>cond (!ta) (some false) (cond (decide (a0.aT<0)) (some false) (cond (decide (1099511627776<a0.aT)) (some false) (cond (decide (a0.bf<0)) (some false) (cond (decide (1099511627776<a0.bf)) (some false) (cond (a0.aH==1) (cond tc (cond te (cond tg (cond (!a0.j8) (cond (a0.b7==0) (some (a0.aM==0)) (some false)) (some false)) (some false)) (some false)) (some false)) (cond (a0.aH==2) (cond a0.j8 (cond (decide (1≤a0.b7)) (cond (decide (a0.b7≤60)) (cond tc (cond (decide (a0.bE=eE)) (cond (decide (a0.ae=eE)) (cond (a0.aM==0) (some (!a0.ao)) (some false)) (some false)) (some false)) (some false)) (cond (!a0.j8) (cond tc (cond (a0.b7==0) (cond (decide (a0.bE=eE)) (cond (decide (a0.ae=eE)) (cond (a0.aM==0) (some (!a0.ao)) (some false)) (some false)) (some false)) (some false)) (some false)) (cond tc (some false) (some false)))) (cond (!a0.j8) (cond tc (cond (a0.b7==0) (cond (decide (a0.bE=eE)) (cond (decide (a0.ae=eE)) (cond (a0.aM==0) (some (!a0.ao)) (some false)) (some false)) (some false)) (some false)) (some false)) (cond tc (some false) (some false)))) (cond (!a0.j8) (cond tc (cond (a0.b7==0) (cond (decide (a0.bE=eE)) (cond (decide (a0.ae=eE)) (cond (a0.aM==0) (some (!a0.ao)) (some false)) (some false)) (some false)) (some false)) (some false)) (cond tc (some false) (some false)))) (cond (a0.aH==3) (cond (decide (a0.aa=eE)) (cond (decide (a0.bE=eE)) (cond (decide (a0.ae=eE)) (cond (!a0.j8) (cond (a0.b7==0) (cond (!a0.ao) (cond (decide (0≤a0.aM)) (some (decide (a0.aM≤2))) (some false)) (some false)) (some false)) (some false)) (some false)) (some false)) (some false)) (some false))))))))
def oF.f (k:Nat) (a0:bF) (a1:BA) (a2:BA) (a3:BA):Option (Int):=(iT.f k a0 a1).bind fun ta=>(eG.f k ta a2).bind fun tc=>cond (decide (tc<0)) (some 4) (an ((0:Int)≤tc∧tc<(ta.fL.length:Int)) (cond (decide (a3=eE)) (some 0) (cond (decide (a3=a2)) (some 0) (cond (decide (a3=(⟨#[109,97,105,110]⟩:BA))) (cond (decide (((Event.K.at ta.fL tc).ae)=eE)) (some 0) (cond (!decide (((Event.K.at ta.fL tc).ae)=eE)) (cond (decide (a3=((Event.K.at ta.fL tc).ae))) (some 0) (some 7)) (some 7))) (cond (!decide (((Event.K.at ta.fL tc).ae)=eE)) (cond (decide (a3=((Event.K.at ta.fL tc).ae))) (some 0) (some 7)) (some 7))))))
def kI.l0 (k:Nat) (a0:nZ) (a1:ak):Nat→Int→Option ((Int×Bool) ⊕ (nZ×ak×Bool))
 | 0,_=>none
 | ja+1,xc=>cond (decide (xc<(a0.fL.length:Int))) (an ((0:Int)≤xc∧xc<(a0.fL.length:Int)) (cond (decide (ak.K.at a0.fL xc=a1)) (some (.inr (a0,(⟨0,eE,eE,eE,eE,false,false,0,0,0,0⟩:ak),false))) (kI.l0 k a0 a1 ja (av (xc+1))))) (some (.inl (xc,decide (xc<(a0.fL.length:Int)))))
def kI.f (k:Nat) (a0:nZ) (a1:ak):Option (nZ×ak×Bool):=(kI.l0 k a0 a1 k 0).bind (fall fun pa=>an (([]:List ak).length+a0.fL.length≤9223372036854775807∧(([]:List ak).length+a0.fL.length)*112≤140737488355328) (an ((([]:List ak)++a0.fL).length+([a1]:List ak).length≤9223372036854775807∧((([]:List ak)++a0.fL).length+([a1]:List ak).length)*112≤140737488355328) (cond (decide (a0.pJ<(((([]:List ak)++a0.fL)++([a1]:List ak)).length:Int))) (an ((0:Int)≤1∧(1:Int).toNat≤((([]:List ak)++a0.fL)++([a1]:List ak)).length∧((([]:List ak)++a0.fL)++([a1]:List ak)).length≤((([]:List ak)++a0.fL)++([a1]:List ak)).length) (an ((0:Int)≤0∧0<(((([]:List ak)++a0.fL)++([a1]:List ak)).length:Int)) (some ((⟨a0.pJ,(((([]:List ak)++a0.fL)++([a1]:List ak)).take (((([]:List ak)++a0.fL)++([a1]:List ak)).length)).drop ((1:Int).toNat),av (a0.pS+1)⟩:nZ),ak.K.at ((([]:List ak)++a0.fL)++([a1]:List ak)) 0,true)))) (some ((⟨a0.pJ,(([]:List ak)++a0.fL)++([a1]:List ak),a0.pS⟩:nZ),(⟨0,eE,eE,eE,eE,false,false,0,0,0,0⟩:ak),false)))))
def dA.l1 (k:Nat) (a0:aQ) (xc:Int):Nat→Int→List Int→Option (Int×Bool×(List Int))
 | 0,_,_=>none
 | ja+1,xd,xe=>an ((0:Int)≤xc∧xc<(a0.fL.length:Int)) (cond (decide (xd<(((Event.K.at a0.fL xc).ag).length:Int))) (an ((0:Int)≤xc∧xc<(xe.length:Int)) (an ((0:Int)≤xc∧xc<(a0.fL.length:Int)) (an ((0:Int)≤xd∧xd<(((Event.K.at a0.fL xc).ag).length:Int)) ((eG.f k a0 (aE.at ((Event.K.at a0.fL xc).ag) xd)).bind fun ta=>an ((0:Int)≤ta∧ta<(xe.length:Int)) (an ((0:Int)≤xc∧xc<(xe.length:Int)) (dA.l1 k a0 xc ja (av (xd+1)) (xe.set xc.toNat (max (xe.getD xc.toNat default) (av ((xe.getD ta.toNat default)+1)))))))))) (some (xd,decide (xd<(((Event.K.at a0.fL xc).ag).length:Int)),xe)))
def dA.l0 (k:Nat) (a0:aQ) (ta:Int):Nat→Int→List Int→Option (Int×Bool×(List Int))
 | 0,_,_=>none
 | ja+1,xc,xd=>cond (decide (xc≤ta)) ((dA.l1 k a0 xc k 0 xd).bind fun (pa:Int×Bool×(List Int))=>dA.l0 k a0 ta ja (av (xc+1)) pa.2.2) (some (xc,decide (xc≤ta),xd))
def dA.f (k:Nat) (a0:aQ) (a1:BA):Option (Int):=(eG.f k a0 a1).bind fun ta=>cond (decide (ta<0)) (some 0) (an ((0:Int)≤(av (ta+1))∧(av (ta+1))≤(9223372036854775807:Int)∧(av (ta+1)).toNat*8≤140737488355328) ((dA.l0 k a0 ta k 0 (List.replicate (av (ta+1)).toNat (0:Int))).bind fun (pa:Int×Bool×(List Int))=>an ((0:Int)≤ta∧ta<(pa.2.2.length:Int)) (some (pa.2.2.getD ta.toNat default))))
def ea.f (k:Nat) (a0:aQ) (a1:BA):Option (Pos):=(dA.f k a0 a1).bind fun ta=>some (⟨ta,a1⟩:Pos)
def kD.f (k:Nat) (a0:bF) (a1:BA) (a2:BA):Option (Pos×Bool):=(iT.f k a0 a1).bind fun ta=>(eG.f k ta a2).bind fun tc=>cond (decide (tc<0)) (some ((⟨0,eE⟩:Pos),false)) ((ea.f k ta a2).bind fun te=>some (te,true))
def qL.f (k:Nat) (a0:pT) (a1:bF) (a2:ak):Option (pT×Bool×Int):=(fY.f k a2).bind fun ta=>cond (a2.aH != 1) (some ((⟨a0.fL,a0.fP⟩:pT),false,1)) (cond (!ta) (some ((⟨a0.fL,a0.fP⟩:pT),false,1)) ((oF.f k a1 a2.aa a2.bE a2.ae).bind fun tc=>cond (tc==4) ((kI.f k a0.fP a2).bind fun te=>some ((⟨a0.fL,te.1⟩:pT),false,0)) (cond (tc != 0) (some ((⟨a0.fL,a0.fP⟩:pT),false,tc)) ((kD.f k a1 a2.aa a2.bE).bind fun tg=>(qx.f a2).bind fun tj=>(jD.f k a0.fL tj tg.1).bind fun tm=>some ((⟨tm.1,a0.fP⟩:pT),tm.2,0)))))
def cH.f (a0:Int) (a1:Int) (a2:Int):Option (Bool):=cond (decide (a1≤a0)) (some (decide (a0≤a2))) (some false)
def iL.f (a0:ak):Option (Bool):=some false
def lE.f (k:Nat) (a0:BA):Option (Bool):=cond (decide (a0=eE)) (some true) (cond (decide (a0=(⟨#[109,97,105,110]⟩:BA))) (some true) ((ei.f k a0).bind fun ta=>some ta))
def gJ.f (k:Nat) (a0:ak):Option (Bool):=(kB.f k a0.aa).bind fun ta=>cond ta ((ei.f k a0.bE).bind fun tc=>cond tc ((lE.f k a0.ae).bind fun te=>some te) (some false)) (some false)
def fF.f (k:Nat) (a0:ak) (c0:Int→Int→Int→Option Bool):Option (Bool):=(kB.f k a0.aa).bind fun ta=>cond ta (cond (!a0.j8) (some true) ((c0 a0.b7 1 60).bind fun tc=>some tc)) (some false)
def fN.f (a0:ak) (c0:Int→Int→Int→Option Bool):Option (Bool):=(c0 a0.aM 0 2).bind fun ta=>some ta
def nH.f (k:Nat):Option ((List (ak→Option Bool))):=some ([iL.f,gJ.f k,fun a0_=>fF.f k a0_ cH.f,fun a0_=>fN.f a0_ cH.f]:List (ak→Option Bool))
def iF.f (a0:Int):Option (Bool):=cond (decide (0≤a0)) (some (decide (a0≤1099511627776))) (some false)
def mq.f (a0:ak):Option (ak):=cond (a0.aH==1) (some (⟨a0.aH,a0.aa,a0.ai,a0.bE,a0.ae,a0.ao,false,0,0,a0.aT,a0.bf⟩:ak)) (cond (a0.aH==2) (cond a0.j8 (some (⟨a0.aH,a0.aa,a0.ai,eE,eE,false,a0.j8,a0.b7,0,a0.aT,a0.bf⟩:ak)) (some (⟨a0.aH,a0.aa,a0.ai,eE,eE,false,a0.j8,0,0,a0.aT,a0.bf⟩:ak))) (cond (a0.aH==3) (some (⟨a0.aH,eE,a0.ai,eE,eE,false,false,0,a0.aM,a0.aT,a0.bf⟩:ak)) (some (⟨a0.aH,eE,a0.ai,eE,eE,false,false,0,0,a0.aT,a0.bf⟩:ak))))
def eP.f (k:Nat) (a0:ak):Option (Bool):=cond (decide (a0.aH<0)) (some false) (cond (decide (3<a0.aH)) (some false) ((nH.f k).bind fun ta=>an ((0:Int)≤a0.aH∧a0.aH<(ta.length:Int)) (((iv.at ta a0.aH) a0).bind fun tc=>cond (!tc) (some false) ((mq.f a0).bind fun te=>cond (decide (a0=te)) ((mj.f k a0.ai).bind fun tg=>cond tg ((iF.f a0.aT).bind fun tj=>cond tj ((iF.f a0.bf).bind fun tm=>some tm) (some false)) (some false)) (some false)))))
def kW.f (a0:bn) (a1:BA):Option (Event×Bool):=(ey.f a0 a1).bind fun ta=>cond (!ta) (some ((⟨eE,eE,([]:List BA),eE,eE,0⟩:Event),false)) (an ((mget a0.aq a1).isSome=true) ((iK.f (((mget a0.aq a1).getD default).fe)).bind fun tc=>some (tc,true)))
def jg.f (a0:aO) (a1:BA) (a2:BA) (a3:BA):Option (Int):=(aP.f a0 a1).bind fun ta=>(kW.f ta a2).bind fun tc=>cond (!tc.2) (some 4) (cond (decide (a3=eE)) (cond (decide (a3=eE)) (some 0) (some 7)) (cond (decide (a3=(⟨#[109,97,105,110]⟩:BA))) (cond (decide (tc.1.ae=eE)) (cond (decide (tc.1.ae=eE)) (some 0) (some 7)) (cond (decide (a3=a2)) (cond (decide (a3=a2)) (some 0) (some 7)) (cond (decide (a3=tc.1.ae)) (some 0) (some 7)))) (cond (decide (a3=a2)) (cond (decide (a3=a2)) (some 0) (some 7)) (cond (decide (a3=tc.1.ae)) (some 0) (some 7)))))
def b9.l0 (k:Nat) (a0:List ak) (a1:ak):Nat→Int→Option ((Int×Bool) ⊕ (Int))
 | 0,_=>none
 | ja+1,xc=>cond (decide (xc<(a0.length:Int))) (an ((0:Int)≤xc∧xc<(a0.length:Int)) (cond (decide (a1=ak.K.at a0 xc)) (some (.inr xc)) (b9.l0 k a0 a1 ja (av (xc+1))))) (some (.inl (xc,decide (xc<(a0.length:Int)))))
def b9.f (k:Nat) (a0:List ak) (a1:ak):Option (Int):=(b9.l0 k a0 a1 k 0).bind (fall fun pa=>some (-1))
def fm.f (k:Nat) (a0:List ak) (a1:ak):Option (Bool):=(b9.f k a0 a1).bind fun ta=>some (decide (0≤ta))
def fj.f (xs:List ak) (i j:Int):Option (List ak):=an ((0:Int)≤i∧i≤j∧j≤(xs.length:Int)) (some (xs.take i.toNat++xs.drop j.toNat))
def jQ.f (k:Nat) (a0:jq) (a1:ak):Option (ak×Bool×jq):=(fm.f k a0.fl a1).bind fun ta=>cond ta (some ((⟨0,eE,eE,eE,eE,false,false,0,0,0,0⟩:ak),false,a0)) (an (a0.fl.length+([a1]:List ak).length≤9223372036854775807∧(a0.fl.length+([a1]:List ak).length)*112≤140737488355328) (cond (decide (((a0.fl++([a1]:List ak)).length:Int)≤a0.dX)) (some ((⟨0,eE,eE,eE,eE,false,false,0,0,0,0⟩:ak),false,(⟨a0.dX,a0.fl++([a1]:List ak),a0.rf⟩:jq))) (an ((0:Int)≤0∧0<((a0.fl++([a1]:List ak)).length:Int)) ((fj.f (a0.fl++([a1]:List ak)) 0 1).bind fun tc=>some ((a0.fl++([a1]:List ak)).getD ((0:Int).toNat) default,true,(⟨a0.dX,tc,av (a0.rf+1)⟩:jq))))))
def gV.f (a0:bn) (a1:BA):Option (Pos×Bool):=(ey.f a0 a1).bind fun ta=>cond (!ta) (some ((⟨0,eE⟩:Pos),false)) (an ((mget a0.aq a1).isSome=true) (some ((⟨((mget a0.aq a1).getD default).cM,a1⟩:Pos),true)))
def fH.f (a0:aO) (a1:BA) (a2:BA):Option (Pos×Bool):=(aP.f a0 a1).bind fun ta=>(gV.f ta a2).bind fun tc=>some (tc.1,tc.2)
def cmp_isNaN_string.f (a0:BA):Option (Bool):=some (!decide (a0=a0))
def aC.f (a0:BA) (a1:BA):Option (Int):=(cmp_isNaN_string.f a0).bind fun ta=>(cmp_isNaN_string.f a1).bind fun tc=>cond ta (cond tc (some 0) (some (-1))) (cond tc (some 1) (cond (dI a0 a1) (some (-1)) (cond (dI a1 a0) (some 1) (some 0))))
def bD.l0 (k:Nat) (a0:List Int):Nat→Int→Option ((Int×Bool) ⊕ (Int))
 | 0,_=>none
 | ja+1,xc=>cond (decide (xc<(a0.length:Int))) (an ((0:Int)≤xc∧xc<(a0.length:Int)) (cond (((bG .i64).at a0 xc) != 0) (some (.inr ((bG .i64).at a0 xc))) (bD.l0 k a0 ja (av (xc+1))))) (some (.inl (xc,decide (xc<(a0.length:Int)))))
def bD.f (k:Nat) (a0:List Int):Option (Int):=(bD.l0 k a0 k 0).bind (fall fun pa=>some 0)
def cmp_isNaN_int.f (a0:Int):Option (Bool):=some (a0 != a0)
def cB.f (a0:Int) (a1:Int):Option (Int):=(cmp_isNaN_int.f a0).bind fun ta=>(cmp_isNaN_int.f a1).bind fun tc=>cond ta (cond tc (some 0) (some (-1))) (cond tc (some 1) (cond (decide (a0<a1)) (some (-1)) (cond (decide (a1<a0)) (some 1) (some 0))))
def iz.f (k:Nat) (a0:Pos) (a1:Pos):Option (Int):=(cB.f a0.bp a1.bp).bind fun ta=>(aC.f a0.bS a1.bS).bind fun tc=>(bD.f k ([ta,tc]:List Int)).bind fun te=>some te
def gA.f (k:Nat) (a0:jX) (a1:bB) (a2:Pos):Option (Bool×jX):=cond ((mget a0.iS a1).isSome) ((iz.f k ((mget a0.iS a1).getD (⟨0,eE⟩:Pos)) a2).bind fun ta=>cond (decide (0≤ta)) (some (false,a0)) (some (true,(⟨mput a0.iS a1 a2⟩:jX)))) (some (true,(⟨mput a0.iS a1 a2⟩:jX)))
def ql.f (a0:ak):Option (bB):=some (⟨a0.aa,a0.ai,a0.ae,a0.ao⟩:bB)
def ir.f (k:Nat) (a0:kb) (a1:aO) (a2:ak):Option (Bool×Int×kb):=cond (a2.aH != 1) (some (false,1,a0)) ((eP.f k a2).bind fun ta=>cond (!ta) (some (false,1,a0)) ((jg.f a1 a2.aa a2.bE a2.ae).bind fun tc=>cond (tc==4) ((jQ.f k a0.qF a2).bind fun te=>some (false,0,(⟨a0.qv,te.2.2⟩:kb))) (cond (tc==0) ((fH.f a1 a2.aa a2.bE).bind fun tg=>(ql.f a2).bind fun tj=>(gA.f k a0.qv tj tg.1).bind fun tm=>some (tm.1,0,(⟨tm.2,a0.qF⟩:kb))) (some (false,tc,a0)))))
def strings_Join.f (xs:List BA) (sep:BA):Option BA:=an (xs.length≤140737488355328∧(Lib.join (xs.map (·.data.toList)) sep.data.toList).length≤140737488355328) (some ⟨(Lib.join (xs.map (·.data.toList)) sep.data.toList).toArray⟩)
def iC.f (a0:bB):Option (BA):=cond a0.ao ((strings_Join.f ([(⟨#[109]⟩:BA),a0.aa,a0.ai,a0.ae,(⟨#[49]⟩:BA)]:List BA) (⟨#[32]⟩:BA)).bind fun ta=>some ta) ((strings_Join.f ([(⟨#[109]⟩:BA),a0.aa,a0.ai,a0.ae,(⟨#[48]⟩:BA)]:List BA) (⟨#[32]⟩:BA)).bind fun tc=>some tc)
def mH.f (k:Nat) (a0:ak):Option (Bool):=(fY.f k a0).bind fun ta=>cond ta (some (!a0.ao)) (some false)
def cT.f:Nat→Int→Option ((List Int))
 | 0,_=>none
 | k+1,a0=>(cond (decide (a0<0)) (some 0) (some a0)).bind fun (pa:Int)=>cond (decide (pa<128)) (some ([IntKind.u8.wrap (pa)]:List Int)) ((cT.f k (av (pa.tdiv 128))).bind fun ta=>an (([IntKind.u8.wrap (av (128+(pa.tmod 128)))]:List Int).length+ta.length≤9223372036854775807∧(([IntKind.u8.wrap (av (128+(pa.tmod 128)))]:List Int).length+ta.length)*1≤140737488355328) (some (([IntKind.u8.wrap (av (128+(pa.tmod 128)))]:List Int)++ta)))
def jM.f (k:Nat) (a0:BA):Option ((List Int)):=(cT.f k (a0.size:Int)).bind fun ta=>an (ta.length+(mM a0).length≤9223372036854775807∧(ta.length+(mM a0).length)*1≤140737488355328) (some (ta++(mM a0)))
def pX.f (a0:Bool):Option ((List Int)):=cond a0 (some ([1]:List Int)) (some ([0]:List Int))
def lB.f (k:Nat) (a0:ak):Option ((List Int)):=(cT.f k a0.aH).bind fun ta=>(jM.f k a0.aa).bind fun tc=>an (ta.length+tc.length≤9223372036854775807∧(ta.length+tc.length)*1≤140737488355328) ((jM.f k a0.ai).bind fun te=>an ((ta++tc).length+te.length≤9223372036854775807∧((ta++tc).length+te.length)*1≤140737488355328) ((jM.f k a0.bE).bind fun tg=>an (((ta++tc)++te).length+tg.length≤9223372036854775807∧(((ta++tc)++te).length+tg.length)*1≤140737488355328) ((jM.f k a0.ae).bind fun tj=>an ((((ta++tc)++te)++tg).length+tj.length≤9223372036854775807∧((((ta++tc)++te)++tg).length+tj.length)*1≤140737488355328) ((pX.f a0.j8).bind fun tm=>an (((((ta++tc)++te)++tg)++tj).length+tm.length≤9223372036854775807∧(((((ta++tc)++te)++tg)++tj).length+tm.length)*1≤140737488355328) ((cT.f k a0.b7).bind fun tn=>an ((((((ta++tc)++te)++tg)++tj)++tm).length+tn.length≤9223372036854775807∧((((((ta++tc)++te)++tg)++tj)++tm).length+tn.length)*1≤140737488355328) ((cT.f k a0.aM).bind fun tp=>an (((((((ta++tc)++te)++tg)++tj)++tm)++tn).length+tp.length≤9223372036854775807∧(((((((ta++tc)++te)++tg)++tj)++tm)++tn).length+tp.length)*1≤140737488355328) ((cT.f k a0.aT).bind fun tq=>an ((((((((ta++tc)++te)++tg)++tj)++tm)++tn)++tp).length+tq.length≤9223372036854775807∧((((((((ta++tc)++te)++tg)++tj)++tm)++tn)++tp).length+tq.length)*1≤140737488355328) ((cT.f k a0.bf).bind fun tu=>an (((((((((ta++tc)++te)++tg)++tj)++tm)++tn)++tp)++tq).length+tu.length≤9223372036854775807∧(((((((((ta++tc)++te)++tg)++tj)++tm)++tn)++tp)++tq).length+tu.length)*1≤140737488355328) (some (((((((((ta++tc)++te)++tg)++tj)++tm)++tn)++tp)++tq)++tu))))))))))
def jl.f (k:Nat) (a0:ak) (a1:ak):Option (Int):=cond (decide (a0.bf<a1.bf)) (some (-1)) (cond (decide (a1.bf<a0.bf)) (some 1) ((lB.f k a0).bind fun ta=>(lB.f k a1).bind fun tc=>cond (dI (gI ta) (gI tc)) (some (-1)) (cond (dI (gI tc) (gI ta)) (some 1) (some 0))))
def cR.l0 (k:Nat) (a0:kX) (a1:ak):Nat→Bool→Int→List ak→List Bool→Option ((Bool×Int×Bool×(List ak)×(List Bool)) ⊕ (kX×Bool×Int))
 | 0,_,_,_,_=>none
 | ja+1,xc,xd,xe,xf=>cond (decide (xd<(a0.fL.length:Int))) (an ((0:Int)≤xd∧xd<(a0.fL.length:Int)) (cond (decide (((ak.K.at a0.fL xd).aa)=a1.aa)) (cond (decide (((ak.K.at a0.fL xd).ai)=a1.ai)) ((jl.f k a1 (ak.K.at a0.fL xd)).bind fun ta=>cond (decide (ta≤0)) (some (.inr (a0,false,0))) (cR.l0 k a0 a1 ja xc (av (xd+1)) xe xf)) ((cond (!xc) (cond (dI a1.aa ((ak.K.at a0.fL xd).aa)) (an (xe.length+([a1]:List ak).length≤9223372036854775807∧(xe.length+([a1]:List ak).length)*112≤140737488355328) (an (xf.length+([false]:List Bool).length≤9223372036854775807∧(xf.length+([false]:List Bool).length)*1≤140737488355328) (some (true,true,xe++([a1]:List ak),xf++([false]:List Bool))))) (cond (decide (a1.aa=((ak.K.at a0.fL xd).aa))) (cond (dI a1.ai ((ak.K.at a0.fL xd).ai)) (an (xe.length+([a1]:List ak).length≤9223372036854775807∧(xe.length+([a1]:List ak).length)*112≤140737488355328) (an (xf.length+([false]:List Bool).length≤9223372036854775807∧(xf.length+([false]:List Bool).length)*1≤140737488355328) (some (true,dI a1.ai ((ak.K.at a0.fL xd).ai),xe++([a1]:List ak),xf++([false]:List Bool))))) (some (xc,dI a1.ai ((ak.K.at a0.fL xd).ai),xe,xf))) (some (xc,false,xe,xf)))) (some (xc,false,xe,xf))).bind fun (pa:Bool×Bool×(List ak)×(List Bool))=>an (pa.2.2.1.length+([ak.K.at a0.fL xd]:List ak).length≤9223372036854775807∧(pa.2.2.1.length+([ak.K.at a0.fL xd]:List ak).length)*112≤140737488355328) (an ((0:Int)≤xd∧xd<(a0.fx.length:Int)) (an (pa.2.2.2.length+([dp.at a0.fx xd]:List Bool).length≤9223372036854775807∧(pa.2.2.2.length+([dp.at a0.fx xd]:List Bool).length)*1≤140737488355328) (cR.l0 k a0 a1 ja pa.1 (av (xd+1)) (pa.2.2.1++([ak.K.at a0.fL xd]:List ak)) (pa.2.2.2++([dp.at a0.fx xd]:List Bool))))))) ((cond (!xc) (cond (dI a1.aa ((ak.K.at a0.fL xd).aa)) (an (xe.length+([a1]:List ak).length≤9223372036854775807∧(xe.length+([a1]:List ak).length)*112≤140737488355328) (an (xf.length+([false]:List Bool).length≤9223372036854775807∧(xf.length+([false]:List Bool).length)*1≤140737488355328) (some (true,true,xe++([a1]:List ak),xf++([false]:List Bool))))) (cond (decide (a1.aa=((ak.K.at a0.fL xd).aa))) (cond (dI a1.ai ((ak.K.at a0.fL xd).ai)) (an (xe.length+([a1]:List ak).length≤9223372036854775807∧(xe.length+([a1]:List ak).length)*112≤140737488355328) (an (xf.length+([false]:List Bool).length≤9223372036854775807∧(xf.length+([false]:List Bool).length)*1≤140737488355328) (some (true,dI a1.ai ((ak.K.at a0.fL xd).ai),xe++([a1]:List ak),xf++([false]:List Bool))))) (some (xc,dI a1.ai ((ak.K.at a0.fL xd).ai),xe,xf))) (some (xc,false,xe,xf)))) (some (xc,false,xe,xf))).bind fun (pc:Bool×Bool×(List ak)×(List Bool))=>an (pc.2.2.1.length+([ak.K.at a0.fL xd]:List ak).length≤9223372036854775807∧(pc.2.2.1.length+([ak.K.at a0.fL xd]:List ak).length)*112≤140737488355328) (an ((0:Int)≤xd∧xd<(a0.fx.length:Int)) (an (pc.2.2.2.length+([dp.at a0.fx xd]:List Bool).length≤9223372036854775807∧(pc.2.2.2.length+([dp.at a0.fx xd]:List Bool).length)*1≤140737488355328) (cR.l0 k a0 a1 ja pc.1 (av (xd+1)) (pc.2.2.1++([ak.K.at a0.fL xd]:List ak)) (pc.2.2.2++([dp.at a0.fx xd]:List Bool)))))))) (some (.inl (xc,xd,decide (xd<(a0.fL.length:Int)),xe,xf)))
def cR.f (k:Nat) (a0:kX) (a1:ak):Option (kX×Bool×Int):=(mH.f k a1).bind fun ta=>cond (a1.aH != 2) (some (a0,false,1)) (cond (!ta) (some (a0,false,1)) ((cR.l0 k a0 a1 k false 0 ([]:List ak) ([]:List Bool)).bind (fall fun pa=>cond (!pa.1) (an (pa.2.2.2.1.length+([a1]:List ak).length≤9223372036854775807∧(pa.2.2.2.1.length+([a1]:List ak).length)*112≤140737488355328) (an (pa.2.2.2.2.length+([false]:List Bool).length≤9223372036854775807∧(pa.2.2.2.2.length+([false]:List Bool).length)*1≤140737488355328) (some ((⟨pa.2.2.2.1++([a1]:List ak),pa.2.2.2.2++([false]:List Bool)⟩:kX),true,0)))) (some ((⟨pa.2.2.2.1,pa.2.2.2.2⟩:kX),true,0)))))
def mD.f (k:Nat) (a0:ak):Option (Bool):=(eP.f k a0).bind fun ta=>cond ta (some (!a0.ao)) (some false)
def slices_BinarySearchFunc_Edu_Edu.l0 (k:Nat) (a0:List ak) (a1:ak) (a2:ak→ak→Option Int):Nat→Int→Int→Option (Int×Int×Bool)
 | 0,_,_=>none
 | ja+1,xc,xd=>cond (decide (xc<xd)) (an ((0:Int)≤(av ((IntKind.u64.wrap (av (xc+xd))).fdiv 2))∧(av ((IntKind.u64.wrap (av (xc+xd))).fdiv 2))<(a0.length:Int)) ((a2 (ak.K.at a0 (av ((IntKind.u64.wrap (av (xc+xd))).fdiv 2))) a1).bind fun ta=>cond (decide (ta<0)) (slices_BinarySearchFunc_Edu_Edu.l0 k a0 a1 a2 ja (av ((av ((IntKind.u64.wrap (av (xc+xd))).fdiv 2))+1)) xd) (slices_BinarySearchFunc_Edu_Edu.l0 k a0 a1 a2 ja xc (av ((IntKind.u64.wrap (av (xc+xd))).fdiv 2))))) (some (xc,xd,decide (xc<xd)))
def slices_BinarySearchFunc_Edu_Edu.f (k:Nat) (a0:List ak) (a1:ak) (a2:ak→ak→Option Int):Option (Int×Bool):=(slices_BinarySearchFunc_Edu_Edu.l0 k a0 a1 a2 k 0 (a0.length:Int)).bind fun (pa:Int×Int×Bool)=>cond (decide (pa.1<(a0.length:Int))) (an ((0:Int)≤pa.1∧pa.1<(a0.length:Int)) ((a2 (ak.K.at a0 pa.1) a1).bind fun ta=>some (pa.1,(ta==0)))) (some (pa.1,false))
def dV.f (k:Nat) (a0:ak) (a1:ak):Option (Int):=(aC.f a0.aa a1.aa).bind fun ta=>(aC.f a0.ai a1.ai).bind fun tc=>(bD.f k ([ta,tc]:List Int)).bind fun te=>some te
def dS.f (k:Nat) (a0:cC) (a1:ak):Option (Int×Bool):=(slices_BinarySearchFunc_Edu_Edu.f k a0.fl a1 (dV.f k)).bind fun ta=>some (ta.1,ta.2)
def qE.f (a0:ak):Option (uP):=some (⟨a0.aH,a0.aa,a0.ai,a0.ae,a0.ao⟩:uP)
def kY.f (a0:List Int) (a1:List Int):Option (Int):=some (Hk a0 a1)
def cF.l0 (k:Nat):Nat→Int→List Int→Option (Int×Bool×(List Int))
 | 0,_,_=>none
 | ja+1,xc,xd=>cond (decide (128≤xc)) (an (xd.length+([IntKind.u8.wrap (av ((xc.tmod 128)+128))]:List Int).length≤9223372036854775807∧(xd.length+([IntKind.u8.wrap (av ((xc.tmod 128)+128))]:List Int).length)*1≤140737488355328) (cF.l0 k ja (av (xc.tdiv 128)) (xd++([IntKind.u8.wrap (av ((xc.tmod 128)+128))]:List Int)))) (some (xc,decide (128≤xc),xd))
def cF.f (k:Nat) (a0:List Int) (a1:Int):Option ((List Int)):=an ((0:Int)≤(a0.length:Int)∧0≤(a0.length:Int).toNat∧(a0.length:Int).toNat≤a0.length) ((cF.l0 k k (max a1 0) ((a0.take ((a0.length:Int).toNat)).drop 0)).bind fun (pa:Int×Bool×(List Int))=>an (pa.2.2.length+([IntKind.u8.wrap (pa.1)]:List Int).length≤9223372036854775807∧(pa.2.2.length+([IntKind.u8.wrap (pa.1)]:List Int).length)*1≤140737488355328) (some (pa.2.2++([IntKind.u8.wrap (pa.1)]:List Int))))
def oO.f (k:Nat) (a0:List Int) (a1:BA):Option ((List Int)):=(cF.f k a0 (a1.size:Int)).bind fun ta=>an (ta.length+(mM a1).length≤9223372036854775807∧(ta.length+(mM a1).length)*1≤140737488355328) (some (ta++(mM a1)))
def oD.f (k:Nat) (a0:List Int) (a1:Bool):Option ((List Int)):=cond a1 ((cF.f k a0 1).bind fun ta=>some ta) ((cF.f k a0 0).bind fun tc=>some tc)
def cQ.l0 (k:Nat) (a0:ak):Nat→Int→List Int→Option (Int×Bool×(List Int))
 | 0,_,_=>none
 | ja+1,xc,xd=>cond (decide (xc<(([a0.b7,a0.aM,a0.aT,a0.bf]:List Int).length:Int))) (an ((0:Int)≤xc∧xc<(([a0.b7,a0.aM,a0.aT,a0.bf]:List Int).length:Int)) ((cF.f k xd ((bG .i64).at ([a0.b7,a0.aM,a0.aT,a0.bf]:List Int) xc)).bind fun ta=>cQ.l0 k a0 ja (av (xc+1)) ta)) (some (xc,decide (xc<(([a0.b7,a0.aM,a0.aT,a0.bf]:List Int).length:Int)),xd))
def cQ.l1 (k:Nat) (a0:ak):Nat→Int→List Int→Option (Int×Bool×(List Int))
 | 0,_,_=>none
 | ja+1,xc,xd=>cond (decide (xc<(([a0.aa,a0.ai,a0.bE,a0.ae]:List BA).length:Int))) (an ((0:Int)≤xc∧xc<(([a0.aa,a0.ai,a0.bE,a0.ae]:List BA).length:Int)) ((oO.f k xd (aE.at ([a0.aa,a0.ai,a0.bE,a0.ae]:List BA) xc)).bind fun ta=>cQ.l1 k a0 ja (av (xc+1)) ta)) (some (xc,decide (xc<(([a0.aa,a0.ai,a0.bE,a0.ae]:List BA).length:Int)),xd))
def cQ.f (k:Nat) (a0:ak):Option ((List Int)):=(cF.f k ([]:List Int) a0.aH).bind fun ta=>(cQ.l1 k a0 k 0 ta).bind fun (pa:Int×Bool×(List Int))=>(oD.f k pa.2.2 a0.j8).bind fun tc=>(cQ.l0 k a0 k 0 tc).bind fun (pc:Int×Bool×(List Int))=>some pc.2.2
def lz.f (k:Nat) (a0:ak) (a1:ak):Option (Int):=(cB.f a0.bf a1.bf).bind fun ta=>(cQ.f k a0).bind fun tc=>(cQ.f k a1).bind fun te=>(kY.f tc te).bind fun tg=>(bD.f k ([ta,tg]:List Int)).bind fun tj=>some tj
def jS.f (k:Nat) (a0:ak) (a1:ak):Option (Bool):=(qE.f a0).bind fun ta=>(qE.f a1).bind fun tc=>cond (decide (ta=tc)) ((lz.f k a0 a1).bind fun te=>some (decide (0<te))) (some false)
def cV.f (xs:List ak) (i:Int) (ys:List ak):Option (List ak):=an ((0:Int)≤i∧i≤(xs.length:Int)∧0<ys.length∧xs.length+ys.length≤4611686018427387904∧(xs.length+ys.length)*112≤140737488355328) (some (xs.take i.toNat++ys++xs.drop i.toNat))
def dw.f (a0:aN) (a1:Int) (a2:dh):Option (aN):=an ((0:Int)≤a1∧a1<(a0.fl.length:Int)) (some (⟨a0.fl.set a1.toNat a2,mput a0.iS a2.bY a1⟩:aN))
def heap_ahead.f (k:Nat) (a0:dh) (a1:dh):Option (Int):=(cB.f a0.gF a1.gF).bind fun ta=>(aC.f a0.bY a1.bY).bind fun tc=>(bD.f k ([ta,tc]:List Int)).bind fun te=>some te
def heap_Heap_down.l0 (k:Nat) (a0:aN) (a1:Int):Nat→Int→aN→Option (Int×Int×Bool×Bool×aN)
 | 0,_,_=>none
 | ja+1,xc,xd=>(cond (decide ((av ((av ((av (2*xc))+1))+1))<(xd.fl.length:Int))) (an ((0:Int)≤(av ((av ((av (2*xc))+1))+1))∧(av ((av ((av (2*xc))+1))+1))<(xd.fl.length:Int)) (an ((0:Int)≤(av ((av (2*xc))+1))∧(av ((av (2*xc))+1))<(xd.fl.length:Int)) ((heap_ahead.f k (xd.fl.getD ((av ((av ((av (2*xc))+1))+1)).toNat) default) (xd.fl.getD ((av ((av (2*xc))+1)).toNat) default)).bind fun ta=>cond (decide (ta<0)) (some (av ((av ((av (2*xc))+1))+1),decide (ta<0))) (some (av ((av (2*xc))+1),decide (ta<0)))))) (some (av ((av (2*xc))+1),false))).bind fun (pa:Int×Bool)=>cond (decide ((xd.fl.length:Int)≤pa.1)) (some (xc,pa.1,pa.2,true,xd)) (an ((0:Int)≤pa.1∧pa.1<(xd.fl.length:Int)) ((heap_ahead.f k (a0.fl.getD a1.toNat default) (xd.fl.getD pa.1.toNat default)).bind fun tc=>cond (decide (tc<0)) (some (xc,pa.1,pa.2,decide (tc<0),xd)) (an ((0:Int)≤pa.1∧pa.1<(xd.fl.length:Int)) ((dw.f xd xc (xd.fl.getD pa.1.toNat default)).bind fun te=>heap_Heap_down.l0 k a0 a1 ja pa.1 te))))
def heap_Heap_down.f (k:Nat) (a0:aN) (a1:Int):Option (aN):=an ((0:Int)≤a1∧a1<(a0.fl.length:Int)) ((heap_Heap_down.l0 k a0 a1 k a1 a0).bind fun (pa:Int×Int×Bool×Bool×aN)=>(dw.f pa.2.2.2.2 pa.1 (a0.fl.getD a1.toNat default)).bind fun ta=>some ta)
def cX.l0 (k:Nat) (a0:aN) (a1:Int):Nat→Int→aN→Option (Int×Bool×aN)
 | 0,_,_=>none
 | ja+1,xc,xd=>cond (decide (0<xc)) (an ((0:Int)≤(av ((av (xc-1)).tdiv 2))∧(av ((av (xc-1)).tdiv 2))<(xd.fl.length:Int)) ((heap_ahead.f k (a0.fl.getD a1.toNat default) (xd.fl.getD ((av ((av (xc-1)).tdiv 2)).toNat) default)).bind fun ta=>cond (decide (ta<0)) (an ((0:Int)≤(av ((av (xc-1)).tdiv 2))∧(av ((av (xc-1)).tdiv 2))<(xd.fl.length:Int)) ((dw.f xd xc (xd.fl.getD ((av ((av (xc-1)).tdiv 2)).toNat) default)).bind fun tc=>cX.l0 k a0 a1 ja (av ((av (xc-1)).tdiv 2)) tc)) (some (xc,decide (ta<0),xd)))) (some (xc,false,xd))
def cX.f (k:Nat) (a0:aN) (a1:Int):Option (aN):=an ((0:Int)≤a1∧a1<(a0.fl.length:Int)) ((cX.l0 k a0 a1 k a1 a0).bind fun (pa:Int×Bool×aN)=>(dw.f pa.2.2 pa.1 (a0.fl.getD a1.toNat default)).bind fun ta=>some ta)
def du.f (k:Nat) (a0:aN) (a1:BA):Option (Bool×aN):=cond (!((mget a0.iS a1).isSome)) (some (false,a0)) (an ((0:Int)≤(av ((a0.fl.length:Int)-1))∧(av ((a0.fl.length:Int)-1))<(a0.fl.length:Int)) (an ((0:Int)≤(av ((a0.fl.length:Int)-1))∧0≤(av ((a0.fl.length:Int)-1)).toNat∧(av ((a0.fl.length:Int)-1)).toNat≤a0.fl.length) (cond (decide (((mget a0.iS a1).getD 0)<(av ((a0.fl.length:Int)-1)))) ((dw.f (⟨(a0.fl.take ((av ((a0.fl.length:Int)-1)).toNat)).drop 0,l6 a0.iS a1⟩:aN) ((mget a0.iS a1).getD 0) (a0.fl.getD ((av ((a0.fl.length:Int)-1)).toNat) default)).bind fun ta=>(heap_Heap_down.f k ta ((mget a0.iS a1).getD 0)).bind fun tc=>(cX.f k tc ((mget tc.iS ((a0.fl.getD ((av ((a0.fl.length:Int)-1)).toNat) default).bY)).getD 0)).bind fun te=>some (true,te)) (some (true,(⟨(a0.fl.take ((av ((a0.fl.length:Int)-1)).toNat)).drop 0,l6 a0.iS a1⟩:aN))))))
def eZ.f (k:Nat) (a0:aN) (a1:Int) (a2:BA):Option (aN):=(du.f k a0 a2).bind fun ta=>an (ta.2.fl.length+([(⟨a1,a2⟩:dh)]:List dh).length≤9223372036854775807∧(ta.2.fl.length+([(⟨a1,a2⟩:dh)]:List dh).length)*24≤140737488355328) ((cX.f k (⟨ta.2.fl++([(⟨a1,a2⟩:dh)]:List dh),ta.2.iS⟩:aN) (av (((ta.2.fl++([(⟨a1,a2⟩:dh)]:List dh)).length:Int)-1))).bind fun tc=>some tc)
def jK.f (a0:ak):Option (Int):=some (av (a0.aT+a0.b7))
def fJ.f (k:Nat) (a0:cC) (a1:ak):Option (Bool×Int×cC):=cond (a1.aH != 2) (some (false,1,a0)) ((mD.f k a1).bind fun ta=>cond (!ta) (some (false,1,a0)) ((dS.f k a0 a1).bind fun tc=>(cond tc.2 (an ((0:Int)≤tc.1∧tc.1<(a0.fl.length:Int)) (cond (decide (a0.fl.getD tc.1.toNat default=a1)) (some (.inr (false,0,a0))) (an ((0:Int)≤tc.1∧tc.1<(a0.fl.length:Int)) ((jS.f k a1 (a0.fl.getD tc.1.toNat default)).bind fun te=>cond (!te) (some (.inr (false,0,a0))) (an ((0:Int)≤tc.1∧tc.1<(a0.fl.length:Int)) (some (.inl (true,!te,true,(⟨a0.fl.set tc.1.toNat a1,a0.gQ⟩:cC))))))))) ((cV.f a0.fl tc.1 ([a1]:List ak)).bind fun tg=>some (.inl (false,false,false,(⟨tg,a0.gQ⟩:cC))))).bind (fall fun pa=>an (a1.aa.size+(⟨#[32]⟩:BA).size≤9223372036854775807) (an ((a1.aa++(⟨#[32]⟩:BA)).size+a1.ai.size≤9223372036854775807) ((du.f k pa.2.2.2.gQ ((a1.aa++(⟨#[32]⟩:BA))++a1.ai)).bind fun tj=>cond a1.j8 ((jK.f a1).bind fun tm=>(eZ.f k tj.2 tm ((a1.aa++(⟨#[32]⟩:BA))++a1.ai)).bind fun tn=>some (true,0,(⟨pa.2.2.2.fl,tn⟩:cC))) (some (true,0,(⟨pa.2.2.2.fl,tj.2⟩:cC))))))))
def jt.f (a0:BA):Option (BA):=an ((⟨#[116,32]⟩:BA).size+a0.size≤9223372036854775807) (some ((⟨#[116,32]⟩:BA)++a0))
def db.l0 (k:Nat) (a0:lW) (a1:ak):Nat→Bool→Int→List ak→List Int→Option ((Bool×Int×Bool×(List ak)×(List Int)) ⊕ (lW×Bool×Int))
 | 0,_,_,_,_=>none
 | ja+1,xc,xd,xe,xf=>cond (decide (xd<(a0.fL.length:Int))) (an ((0:Int)≤xd∧xd<(a0.fL.length:Int)) (cond (decide (((ak.K.at a0.fL xd).ai)=a1.ai)) ((jl.f k a1 (ak.K.at a0.fL xd)).bind fun ta=>cond (decide (ta≤0)) (some (.inr (a0,false,0))) (db.l0 k a0 a1 ja xc (av (xd+1)) xe xf)) ((cond (!xc) (cond (dI a1.ai ((ak.K.at a0.fL xd).ai)) (an (xe.length+([a1]:List ak).length≤9223372036854775807∧(xe.length+([a1]:List ak).length)*112≤140737488355328) (an (xf.length+([(-1)]:List Int).length≤9223372036854775807∧(xf.length+([(-1)]:List Int).length)*8≤140737488355328) (some (true,dI a1.ai ((ak.K.at a0.fL xd).ai),xe++([a1]:List ak),xf++([(-1)]:List Int))))) (some (xc,dI a1.ai ((ak.K.at a0.fL xd).ai),xe,xf))) (some (xc,false,xe,xf))).bind fun (pa:Bool×Bool×(List ak)×(List Int))=>an (pa.2.2.1.length+([ak.K.at a0.fL xd]:List ak).length≤9223372036854775807∧(pa.2.2.1.length+([ak.K.at a0.fL xd]:List ak).length)*112≤140737488355328) (an ((0:Int)≤xd∧xd<(a0.fx.length:Int)) (an (pa.2.2.2.length+([(bG .i64).at a0.fx xd]:List Int).length≤9223372036854775807∧(pa.2.2.2.length+([(bG .i64).at a0.fx xd]:List Int).length)*8≤140737488355328) (db.l0 k a0 a1 ja pa.1 (av (xd+1)) (pa.2.2.1++([ak.K.at a0.fL xd]:List ak)) (pa.2.2.2++([(bG .i64).at a0.fx xd]:List Int)))))))) (some (.inl (xc,xd,decide (xd<(a0.fL.length:Int)),xe,xf)))
def db.f (k:Nat) (a0:lW) (a1:ak):Option (lW×Bool×Int):=(mH.f k a1).bind fun ta=>cond (a1.aH != 3) (some (a0,false,1)) (cond (!ta) (some (a0,false,1)) ((db.l0 k a0 a1 k false 0 ([]:List ak) ([]:List Int)).bind (fall fun pa=>cond (!pa.1) (an (pa.2.2.2.1.length+([a1]:List ak).length≤9223372036854775807∧(pa.2.2.2.1.length+([a1]:List ak).length)*112≤140737488355328) (an (pa.2.2.2.2.length+([(-1)]:List Int).length≤9223372036854775807∧(pa.2.2.2.2.length+([(-1)]:List Int).length)*8≤140737488355328) (some ((⟨pa.2.2.2.1++([a1]:List ak),pa.2.2.2.2++([(-1)]:List Int)⟩:lW),true,0)))) (some ((⟨pa.2.2.2.1,pa.2.2.2.2⟩:lW),true,0)))))
def ax.l0 (k:Nat) (a0:List ak) (a1:BA) (a2:ak→BA→Option Int):Nat→Int→Int→Option (Int×Int×Bool)
 | 0,_,_=>none
 | ja+1,xc,xd=>cond (decide (xc<xd)) (an ((0:Int)≤(av ((IntKind.u64.wrap (av (xc+xd))).fdiv 2))∧(av ((IntKind.u64.wrap (av (xc+xd))).fdiv 2))<(a0.length:Int)) ((a2 (ak.K.at a0 (av ((IntKind.u64.wrap (av (xc+xd))).fdiv 2))) a1).bind fun ta=>cond (decide (ta<0)) (ax.l0 k a0 a1 a2 ja (av ((av ((IntKind.u64.wrap (av (xc+xd))).fdiv 2))+1)) xd) (ax.l0 k a0 a1 a2 ja xc (av ((IntKind.u64.wrap (av (xc+xd))).fdiv 2))))) (some (xc,xd,decide (xc<xd)))
def ax.f (k:Nat) (a0:List ak) (a1:BA) (a2:ak→BA→Option Int):Option (Int×Bool):=(ax.l0 k a0 a1 a2 k 0 (a0.length:Int)).bind fun (pa:Int×Int×Bool)=>cond (decide (pa.1<(a0.length:Int))) (an ((0:Int)≤pa.1∧pa.1<(a0.length:Int)) ((a2 (ak.K.at a0 pa.1) a1).bind fun ta=>some (pa.1,(ta==0)))) (some (pa.1,false))
def dD.f (a0:ak) (a1:BA):Option (Int):=(aC.f a0.ai a1).bind fun ta=>some ta
def dz.f (k:Nat) (a0:cJ) (a1:BA):Option (Int×Bool):=(ax.f k a0.fl a1 dD.f).bind fun ta=>some (ta.1,ta.2)
def dW.f (a0:ak) (a1:Int):Option (Int):=cond (a0.aM==2) (cond (decide (a1<(av (a0.aT+30)))) (some 2) (cond (decide (a1<(av (a0.aT+90)))) (some 1) (some 0))) (cond (a0.aM==1) (cond (decide (a1<(av (a0.aT+90)))) (some 1) (some 0)) (some 0))
def bH.l0 (k:Nat) (a0:ak) (a1:Int):Nat→Int→Option ((Int×Bool) ⊕ (Int×Bool))
 | 0,_=>none
 | ja+1,xc=>cond (decide (xc<2)) (an ((0:Int)≤xc∧xc<(2:Int)) (cond (decide (a1<(av (a0.aT+((bG .i64).at ([30,90]:List Int) xc))))) ((dW.f a0 (av ((av (a0.aT+((bG .i64).at ([30,90]:List Int) xc)))-1))).bind fun ta=>(dW.f a0 (av (a0.aT+((bG .i64).at ([30,90]:List Int) xc)))).bind fun tc=>cond (decide (tc<ta)) (some (.inr (av (a0.aT+((bG .i64).at ([30,90]:List Int) xc)),true))) (bH.l0 k a0 a1 ja (av (xc+1)))) (bH.l0 k a0 a1 ja (av (xc+1))))) (some (.inl (xc,decide (xc<2))))
def bH.f (k:Nat) (a0:ak) (a1:Int):Option (Int×Bool):=(bH.l0 k a0 a1 k 0).bind (fall fun pa=>some (0,false))
def eI.f (k:Nat) (a0:cJ) (a1:ak):Option (Bool×Int×cJ):=cond (a1.aH != 3) (some (false,1,a0)) ((mD.f k a1).bind fun ta=>cond (!ta) (some (false,1,a0)) ((dz.f k a0 a1.ai).bind fun tc=>(cond tc.2 (an ((0:Int)≤tc.1∧tc.1<(a0.fl.length:Int)) ((jS.f k a1 (a0.fl.getD tc.1.toNat default)).bind fun te=>cond (!te) (some (.inr (false,0,a0))) (an ((0:Int)≤tc.1∧tc.1<(a0.fl.length:Int)) (some (.inl (true,!te,true,(⟨a0.fl.set tc.1.toNat a1,a0.fg⟩:cJ))))))) ((cV.f a0.fl tc.1 ([a1]:List ak)).bind fun tg=>some (.inl (false,false,false,(⟨tg,a0.fg⟩:cJ))))).bind (fall fun pa=>(du.f k pa.2.2.2.fg a1.ai).bind fun tj=>(bH.f k a1 (-1)).bind fun tm=>cond tm.2 ((eZ.f k tj.2 tm.1 a1.ai).bind fun tn=>some (true,0,(⟨pa.2.2.2.fl,tn⟩:cJ))) (some (true,0,(⟨pa.2.2.2.fl,tj.2⟩:cJ))))))
def jI.f (a0:BA):Option (BA):=an ((⟨#[112,32]⟩:BA).size+a0.size≤9223372036854775807) (some ((⟨#[112,32]⟩:BA)++a0))
def clock_Counter_Add.l0 (k:Nat) (a0:lh) (a1:Int):Nat→Option (Int×Int×lh)
 | 0=>none
 | ja+1=>cond (decide (0<a1)) (cond (a0.fn.fv==a0.dX) (some (0,11,a0)) ((cond (decide (a1<(av (a0.dX-a0.fn.fv)))) (some (av (a0.fn.fv+a1))) (some a0.dX)).bind fun (pa:Int)=>cond (a1==0) (some (pa,0,a0)) (some (pa,0,(⟨(⟨pa⟩:BK),a0.dX⟩:lh))))) ((cond (decide (a1<(av (a0.dX-a0.fn.fv)))) (some (av (a0.fn.fv+a1))) (some a0.dX)).bind fun (pc:Int)=>cond (a1==0) (some (pc,0,a0)) (some (pc,0,(⟨(⟨pc⟩:BK),a0.dX⟩:lh))))
def clock_Counter_Add.f (k:Nat) (a0:lh) (a1:Int):Option (Int×Int×lh):=cond (decide (a1<0)) (some (0,1,a0)) (clock_Counter_Add.l0 k a0 a1 k)
def fG.f (k:Nat) (a0:lh):Option (Int×Int×lh):=(clock_Counter_Add.f k a0 1).bind fun ta=>some (ta.1,ta.2.1,ta.2.2)
def bz.l0 (k:Nat) (a0:List BA) (a1:BA):Nat→Int→Option ((Int×Bool) ⊕ (Int))
 | 0,_=>none
 | ja+1,xc=>cond (decide (xc<(a0.length:Int))) (an ((0:Int)≤xc∧xc<(a0.length:Int)) (cond (decide (a1=(aE.at a0 xc))) (some (.inr xc)) (bz.l0 k a0 a1 ja (av (xc+1))))) (some (.inl (xc,decide (xc<(a0.length:Int)))))
def bz.f (k:Nat) (a0:List BA) (a1:BA):Option (Int):=(bz.l0 k a0 a1 k 0).bind (fall fun pa=>some (-1))
def dU.f (xs:List BA) (i j:Int):Option (List BA):=an ((0:Int)≤i∧i≤j∧j≤(xs.length:Int)) (some (xs.take i.toNat++xs.drop j.toNat))
def iw.f (k:Nat) (a0:cI) (a1:BA):Option (Int×Int×cI):=(fG.f k a0.iS).bind fun ta=>cond (ta.2.1 != 0) (some (0,ta.2.1,(⟨ta.2.2,a0.eO,a0.oo⟩:cI))) ((cond ((mget a0.oo a1).isSome) ((bz.f k a0.eO a1).bind fun tc=>(dU.f a0.eO tc (av (tc+1))).bind fun te=>some (⟨ta.2.2,te,a0.oo⟩:cI)) (some (⟨ta.2.2,a0.eO,a0.oo⟩:cI))).bind fun (pa:cI)=>an (pa.eO.length+([a1]:List BA).length≤9223372036854775807∧(pa.eO.length+([a1]:List BA).length)*16≤140737488355328) (some (ta.1,0,(⟨pa.iS,pa.eO++([a1]:List BA),mput pa.oo a1 ta.1⟩:cI))))
def kH.f (a0:kR):Option (BA):=cond (a0.aH==1) ((cond a0.fK.ao (some (⟨#[32,49]⟩:BA)) (some (⟨#[32,48]⟩:BA))).bind fun (pa:BA)=>an ((⟨#[109,32]⟩:BA).size+a0.fK.aa.size≤9223372036854775807) (an (((⟨#[109,32]⟩:BA)++a0.fK.aa).size+(⟨#[32]⟩:BA).size≤9223372036854775807) (an ((((⟨#[109,32]⟩:BA)++a0.fK.aa)++(⟨#[32]⟩:BA)).size+a0.fK.ai.size≤9223372036854775807) (an (((((⟨#[109,32]⟩:BA)++a0.fK.aa)++(⟨#[32]⟩:BA))++a0.fK.ai).size+(⟨#[32]⟩:BA).size≤9223372036854775807) (an ((((((⟨#[109,32]⟩:BA)++a0.fK.aa)++(⟨#[32]⟩:BA))++a0.fK.ai)++(⟨#[32]⟩:BA)).size+a0.fK.ae.size≤9223372036854775807) (an (((((((⟨#[109,32]⟩:BA)++a0.fK.aa)++(⟨#[32]⟩:BA))++a0.fK.ai)++(⟨#[32]⟩:BA))++a0.fK.ae).size+pa.size≤9223372036854775807) (some (((((((⟨#[109,32]⟩:BA)++a0.fK.aa)++(⟨#[32]⟩:BA))++a0.fK.ai)++(⟨#[32]⟩:BA))++a0.fK.ae)++pa)))))))) (cond (a0.aH==2) (an ((⟨#[116,32]⟩:BA).size+a0.mb.size≤9223372036854775807) (some ((⟨#[116,32]⟩:BA)++a0.mb))) (an ((⟨#[112,32]⟩:BA).size+a0.mb.size≤9223372036854775807) (some ((⟨#[112,32]⟩:BA)++a0.mb))))
def mw.f (k:Nat) (a0:Src) (a1:dQ) (a2:ak):Option (dQ×Bool×Src):=(cond (a2.aH==1) ((qL.f k (⟨a1.fM,(⟨8,([]:List ak),0⟩:nZ)⟩:pT) a1.fV a2).bind fun ta=>(ir.f k a0.aB a0.dx a2).bind fun tc=>cond (tc.1 != ta.2.1) (some (.inr ((⟨a1.fV,ta.1.fL,a1.fT,a1.fP,a1.fL,a1.aV⟩:dQ),false,(⟨a0.dx,tc.2.2,a0.aw,a0.bq,a0.jE⟩:Src)))) (cond (ta.2.2 != tc.2.1) (some (.inr ((⟨a1.fV,ta.1.fL,a1.fT,a1.fP,a1.fL,a1.aV⟩:dQ),false,(⟨a0.dx,tc.2.2,a0.aw,a0.bq,a0.jE⟩:Src)))) ((qx.f a2).bind fun te=>(iC.f te).bind fun tg=>some (.inl (tg,(⟨1,te,eE⟩:kR),(⟨a1.fV,ta.1.fL,a1.fT,a1.fP,a1.fL,a1.aV⟩:dQ),tc.2.2,a0.aw,a0.bq))))) (cond (a2.aH==2) ((cR.f k a1.fT a2).bind fun tj=>(fJ.f k a0.aw a2).bind fun tm=>cond (tm.1 != tj.2.1) (some (.inr ((⟨a1.fV,a1.fM,tj.1,a1.fP,a1.fL,a1.aV⟩:dQ),false,(⟨a0.dx,a0.aB,tm.2.2,a0.bq,a0.jE⟩:Src)))) ((jt.f a2.aa).bind fun tn=>some (.inl (tn,(⟨2,(⟨eE,eE,eE,false⟩:bB),a2.aa⟩:kR),(⟨a1.fV,a1.fM,tj.1,a1.fP,a1.fL,a1.aV⟩:dQ),a0.aB,tm.2.2,a0.bq)))) ((db.f k a1.fP a2).bind fun tp=>(eI.f k a0.bq a2).bind fun tq=>cond (tq.1 != tp.2.1) (some (.inr ((⟨a1.fV,a1.fM,a1.fT,tp.1,a1.fL,a1.aV⟩:dQ),false,(⟨a0.dx,a0.aB,a0.aw,tq.2.2,a0.jE⟩:Src)))) ((jI.f a2.ai).bind fun tu=>some (.inl (tu,(⟨3,(⟨eE,eE,eE,false⟩:bB),a2.ai⟩:kR),(⟨a1.fV,a1.fM,a1.fT,tp.1,a1.fL,a1.aV⟩:dQ),a0.aB,a0.aw,tq.2.2)))))).bind (fall fun pa=>an (([]:List kR).length+pa.2.2.1.fL.length≤9223372036854775807∧(([]:List kR).length+pa.2.2.1.fL.length)*80≤140737488355328) (an ((([]:List kR)++pa.2.2.1.fL).length+([(⟨pa.2.1.aH,pa.2.1.fK,pa.2.1.mb⟩:kR)]:List kR).length≤9223372036854775807∧((([]:List kR)++pa.2.2.1.fL).length+([(⟨pa.2.1.aH,pa.2.1.fK,pa.2.1.mb⟩:kR)]:List kR).length)*80≤140737488355328) ((iw.f k a0.jE pa.1).bind fun tw=>cond (tw.2.1==0) ((kH.f (⟨pa.2.1.aH,pa.2.1.fK,pa.2.1.mb⟩:kR)).bind fun tx=>some ((⟨pa.2.2.1.fV,pa.2.2.1.fM,pa.2.2.1.fT,pa.2.2.1.fP,(([]:List kR)++pa.2.2.1.fL)++([(⟨pa.2.1.aH,pa.2.1.fK,pa.2.1.mb⟩:kR)]:List kR),pa.2.2.1.aV⟩:dQ),decide (pa.1=tx),(⟨a0.dx,pa.2.2.2.1,pa.2.2.2.2.1,pa.2.2.2.2.2,tw.2.2⟩:Src))) (some ((⟨pa.2.2.1.fV,pa.2.2.1.fM,pa.2.2.1.fT,pa.2.2.1.fP,(([]:List kR)++pa.2.2.1.fL)++([(⟨pa.2.1.aH,pa.2.1.fK,pa.2.1.mb⟩:kR)]:List kR),pa.2.2.1.aV⟩:dQ),false,(⟨a0.dx,pa.2.2.2.1,pa.2.2.2.2.1,pa.2.2.2.2.2,tw.2.2⟩:Src))))))
def gP.f (k:Nat) (a0:Int):Option (BA):=(aS.f a0 11).bind fun ta=>cond (ta==9) (some eE) (cond (ta==10) (some (⟨#[109,97,105,110]⟩:BA)) ((dj.f k ta).bind fun tc=>some tc))
def kU.f (k:Nat) (a0:ak):Option (ak):=(aS.f a0.aH 3).bind fun ta=>(fb.f a0.aM).bind fun tc=>(aS.f a0.aT 100).bind fun te=>(aS.f a0.bf 9).bind fun tg=>cond ((av (1+ta))==1) ((fa.f a0.b7).bind fun tj=>(aS.f a0.aT 9).bind fun tm=>(dj.f k (av ((a0.bE.size:Int)+tm))).bind fun tn=>(gP.f k (a0.ae.size:Int)).bind fun tp=>some (⟨av (1+ta),tj,tc,tn,tp,a0.ao,false,0,0,te,tg⟩:ak)) (cond ((av (1+ta))==2) ((fa.f a0.b7).bind fun tq=>cond a0.j8 ((aS.f a0.b7 60).bind fun tu=>some (⟨av (1+ta),tq,tc,eE,eE,false,a0.j8,av (1+tu),0,te,tg⟩:ak)) (some (⟨av (1+ta),tq,tc,eE,eE,false,a0.j8,0,0,te,tg⟩:ak))) ((aS.f a0.b7 3).bind fun tw=>some (⟨av (1+ta),eE,tc,eE,eE,false,false,0,tw,te,tg⟩:ak)))
def slices_DeleteFunc_string_xo.l0 (k:Nat) (a1:(BA→Option Bool)):Nat→Int→Int→List BA→Option (Int×Int×Bool×(List BA))
 | 0,_,_,_=>none
 | ja+1,xc,xd,xe=>cond (decide (xd<(xe.length:Int))) (an ((0:Int)≤xd∧xd<(xe.length:Int)) ((a1 (xe.getD xd.toNat default)).bind fun ta=>cond (!ta) (an ((0:Int)≤xc∧xc<(xe.length:Int)) (slices_DeleteFunc_string_xo.l0 k a1 ja (av (xc+1)) (av (xd+1)) (xe.set xc.toNat (xe.getD xd.toNat default)))) (slices_DeleteFunc_string_xo.l0 k a1 ja xc (av (xd+1)) xe))) (some (xc,xd,decide (xd<(xe.length:Int)),xe))
def slices_DeleteFunc_string_xo.f (k:Nat) (a0:List BA) (a1:(BA→Option Bool)):Option ((List BA)):=(az.f k a0 a1).bind fun ta=>cond (ta==(-1)) (some a0) ((slices_DeleteFunc_string_xo.l0 k a1 k ta (av (ta+1)) a0).bind fun (pa:Int×Int×Bool×(List BA))=>an ((0:Int)≤pa.1∧pa.1.toNat<pa.2.2.2.length) (an ((0:Int)≤pa.1∧0≤pa.1.toNat∧pa.1.toNat≤(pa.2.2.2.take pa.1.toNat++List.replicate (pa.2.2.2.length-pa.1.toNat) eE).length) (some (((pa.2.2.2.take pa.1.toNat++List.replicate (pa.2.2.2.length-pa.1.toNat) eE).take pa.1.toNat).drop 0))))
def eJ.f (k:Nat) (a0:cC) (a1:BA) (a2:BA) (a3:Int):Option (Bool):=(dS.f k a0 (⟨0,a1,a2,eE,eE,false,false,0,0,0,0⟩:ak)).bind fun ta=>cond ta.2 (an ((0:Int)≤ta.1∧ta.1<(a0.fl.length:Int)) (cond ((a0.fl.getD ta.1.toNat default).j8) (an ((0:Int)≤ta.1∧ta.1<(a0.fl.length:Int)) ((jK.f (a0.fl.getD ta.1.toNat default)).bind fun tc=>some (decide (a3<tc)))) (some false))) (some false)
def aR.l0 (k:Nat) (a0:cC) (a1:BA) (a2:Int):Nat→Int→List BA→Option (Int×Bool×(List BA))
 | 0,_,_=>none
 | ja+1,xc,xd=>cond (decide (xc<(a0.fl.length:Int))) (an ((0:Int)≤xc∧xc<(a0.fl.length:Int)) (cond (decide (((a0.fl.getD xc.toNat default).aa)=a1)) ((eJ.f k a0 a1 ((a0.fl.getD xc.toNat default).ai) a2).bind fun ta=>cond ta (an (xd.length+([(a0.fl.getD xc.toNat default).ai]:List BA).length≤9223372036854775807∧(xd.length+([(a0.fl.getD xc.toNat default).ai]:List BA).length)*16≤140737488355328) (aR.l0 k a0 a1 a2 ja (av (xc+1)) (xd++([(a0.fl.getD xc.toNat default).ai]:List BA)))) (aR.l0 k a0 a1 a2 ja (av (xc+1)) xd)) (aR.l0 k a0 a1 a2 ja (av (xc+1)) xd))) (some (xc,decide (xc<(a0.fl.length:Int)),xd))
def aR.f (k:Nat) (a0:cC) (a1:BA) (a2:Int):Option ((List BA)):=(aR.l0 k a0 a1 a2 k 0 ([]:List BA)).bind fun (pa:Int×Bool×(List BA))=>some pa.2.2
def gX (x y:Pos):Int:=if x.bp<y.bp then -1 else if y.bp<x.bp then 1 else jV x.bS y.bS
def dK.f (xs:List Pos):Option (List Pos):=an (xs.length≤1000000) (some (kV gX xs))
def ou.f (a0:aX):Option (Bool):=some true
def aG.g (e:BA×aX):Option Pos:=cond true (some ⟨e.2.cM,e.1⟩) none
def aG.f (a0:bn):Option (List BA):=an (a0.aq.length≤1000000) (some ((kV gX (a0.aq.filterMap aG.g)).map (·.bS)))
def dag_Dag_All.l0 (k:Nat) (a0:bn) (ta:List BA):Nat→Int→List Event→Option (Int×Int×Bool×(List Event)×(List BA))
 | 0,_,_=>none
 | ja+1,xc,xd=>cond (decide (xc<(ta.length:Int))) (an ((0:Int)≤xc∧xc<(ta.length:Int)) (an ((mget a0.aq (ta.getD xc.toNat default)).isSome=true) ((iK.f (((mget a0.aq (ta.getD xc.toNat default)).getD default).fe)).bind fun tc=>an (xd.length+([tc]:List Event).length≤9223372036854775807∧(xd.length+([tc]:List Event).length)*96≤140737488355328) (dag_Dag_All.l0 k a0 ta ja (av (xc+1)) (xd++([tc]:List Event)))))) (some ((ta.length:Int),xc,decide (xc<(ta.length:Int)),xd,ta))
def dag_Dag_All.f (k:Nat) (a0:bn):Option ((List Event)):=((aG.f a0).bind fun ta=>dag_Dag_All.l0 k a0 ta k 0 ([]:List Event)).bind fun (pa:Int×Int×Bool×(List Event)×(List BA))=>some pa.2.2.2.1
def member_joined.l0 (k:Nat) (ta:(List Event)):Nat→Int→(List (BA×Int))→Option (Int×Int×Bool×(List (BA×Int))×(List Event))
 | 0,_,_=>none
 | ja+1,xc,xd=>cond (decide (xc<(ta.length:Int))) (an ((0:Int)≤xc∧xc<(ta.length:Int)) (cond (((ta.getD xc.toNat default).bO)==1) (member_joined.l0 k ta ja (av (xc+1)) (mput xd ((ta.getD xc.toNat default).ai) 1)) (cond (((ta.getD xc.toNat default).bO)==2) (member_joined.l0 k ta ja (av (xc+1)) (l6 xd ((ta.getD xc.toNat default).ai))) (member_joined.l0 k ta ja (av (xc+1)) xd)))) (some ((ta.length:Int),xc,decide (xc<(ta.length:Int)),xd,ta))
def member_joined.f (k:Nat) (a0:bn):Option ((List (BA×Int))):=((dag_Dag_All.f k a0).bind fun ta=>member_joined.l0 k ta k 0 ([]:List (BA×Int))).bind fun (pa:Int×Int×Bool×(List (BA×Int))×(List Event))=>some pa.2.2.2.1
def jT.f (k:Nat) (a0:bn) (a1:BA):Option (Bool):=(member_joined.f k a0).bind fun ta=>some (decide (0<((mget ta a1).getD 0)))
def bN.f (k:Nat) (a0:aO) (a1:BA) (a2:BA):Option (Bool):=(aP.f a0 a1).bind fun ta=>(jT.f k ta a2).bind fun tc=>some tc
def iG.f (k:Nat) (a0:BA) (c0:Src) (c1:BA):Option (Bool):=(bN.f k c0.dx c1 a0).bind fun ta=>some (!ta)
def lv.f (k:Nat) (a0:Src) (a1:BA) (a2:Int):Option ((List BA)):=(aR.f k a0.aw a1 a2).bind fun ta=>(slices_DeleteFunc_string_xo.f k ta (fun a0_=>iG.f k a0_ a0 a1)).bind fun tc=>some tc
def jf.f (a0:lh):Option (Int):=some a0.fn.fv
def iD.f (a0:cI):Option (Int):=(jf.f a0.iS).bind fun ta=>some ta
def cD.l0 (k:Nat) (a0:cI) (a1:Int):Nat→Int→Option (Int×Bool)
 | 0,_=>none
 | ja+1,xc=>cond (decide (0<xc)) (an ((0:Int)≤(av (xc-1))∧(av (xc-1))<(a0.eO.length:Int)) (cond (decide (a1<((mget a0.oo (a0.eO.getD ((av (xc-1)).toNat) default)).getD 0))) (cD.l0 k a0 a1 ja (av (xc-1))) (some (xc,decide (a1<((mget a0.oo (a0.eO.getD ((av (xc-1)).toNat) default)).getD 0)))))) (some (xc,false))
def cD.f (k:Nat) (a0:cI) (a1:Int):Option ((List BA)):=(cD.l0 k a0 a1 k (a0.eO.length:Int)).bind fun (pa:Int×Bool)=>an ((0:Int)≤(av ((a0.eO.length:Int)-pa.1))∧(av ((a0.eO.length:Int)-pa.1))≤(9223372036854775807:Int)∧(av ((a0.eO.length:Int)-pa.1)).toNat*16≤140737488355328) (an ((0:Int)≤pa.1∧pa.1.toNat≤a0.eO.length) (some ((a0.eO.drop pa.1.toNat).take (List.replicate (av ((a0.eO.length:Int)-pa.1)).toNat (eE:BA)).length++(List.replicate (av ((a0.eO.length:Int)-pa.1)).toNat (eE:BA)).drop (a0.eO.length-pa.1.toNat))))
def gT.f (a0:BA) (a1:BA):Option (Int):=(eA.f a0 a1).bind fun ta=>some ta
def strings_Count.l0 (k:Nat) (a1:BA):Nat→BA→Int→Option (Int)
 | 0,_,_=>none
 | ja+1,xc,xd=>(gT.f xc a1).bind fun ta=>cond (ta==(-1)) (some xd) (an ((0:Int)≤(av (ta+(a1.size:Int)))∧(av (ta+(a1.size:Int))).toNat≤xc.size∧xc.size≤xc.size) (strings_Count.l0 k a1 ja (xc.extract (av (ta+(a1.size:Int))).toNat xc.size) (av (xd+1))))
def strings_Count.f (k:Nat) (a0:BA) (a1:BA):Option (Int):=cond ((a1.size:Int)==0) (none) (cond ((a1.size:Int)==1) (an ((0:Int)≤0∧0<(a1.size:Int)) (some (DG a0 (bt a1 0)))) (strings_Count.l0 k a1 k a0 0))
def strings_genSplit.l0 (k:Nat) (a0:BA) (a1:BA) (a2:Int) (pa:Int):Nat→BA→Int→List BA→Option (BA×Int×Bool×(List BA))
 | 0,_,_,_=>none
 | ja+1,xc,xd,xe=>cond (decide (xd<(av ((min pa (av ((a0.size:Int)+1)))-1)))) ((gT.f xc a1).bind fun ta=>cond (decide (ta<0)) (some (xc,xd,decide (xd<(av ((min pa (av ((a0.size:Int)+1)))-1))),xe)) (an ((0:Int)≤(av (ta+a2))∧0≤(av (ta+a2)).toNat∧(av (ta+a2)).toNat≤xc.size) (an ((0:Int)≤xd∧xd<(xe.length:Int)) (an ((0:Int)≤(av (ta+(a1.size:Int)))∧(av (ta+(a1.size:Int))).toNat≤xc.size∧xc.size≤xc.size) (strings_genSplit.l0 k a0 a1 a2 pa ja (xc.extract (av (ta+(a1.size:Int))).toNat xc.size) (av (xd+1)) (xe.set xd.toNat (xc.extract 0 ((av (ta+a2)).toNat)))))))) (some (xc,xd,decide (xd<(av ((min pa (av ((a0.size:Int)+1)))-1))),xe))
def strings_genSplit.f (k:Nat) (a0:BA) (a1:BA) (a2:Int) (a3:Int):Option ((List BA)):=cond (a3==0) (some ([]:List BA)) (cond (decide (a1=eE)) (none) ((cond (decide (a3<0)) ((strings_Count.f k a0 a1).bind fun ta=>some (av (ta+1))) (some a3)).bind fun (pa:Int)=>an ((0:Int)≤(min pa (av ((a0.size:Int)+1)))∧(min pa (av ((a0.size:Int)+1)))≤(9223372036854775807:Int)∧(min pa (av ((a0.size:Int)+1))).toNat*16≤140737488355328) ((strings_genSplit.l0 k a0 a1 a2 pa k a0 0 (List.replicate (min pa (av ((a0.size:Int)+1))).toNat (eE:BA))).bind fun (pc:BA×Int×Bool×(List BA))=>an ((0:Int)≤pc.2.1∧pc.2.1<(pc.2.2.2.length:Int)) (an ((0:Int)≤(av (pc.2.1+1))∧0≤(av (pc.2.1+1)).toNat∧(av (pc.2.1+1)).toNat≤(pc.2.2.2.set pc.2.1.toNat pc.1).length) (some (((pc.2.2.2.set pc.2.1.toNat pc.1).take ((av (pc.2.1+1)).toNat)).drop 0))))))
def kT.f (k:Nat) (a0:BA) (a1:BA):Option ((List BA)):=(strings_genSplit.f k a0 a1 0 (-1)).bind fun ta=>some ta
def nv.f (k:Nat) (a0:BA):Option (jH):=(kT.f k a0 (⟨#[32]⟩:BA)).bind fun ta=>cond ((ta.length:Int)==5) (an ((0:Int)≤0∧0<(ta.length:Int)) (cond (decide ((ta.getD ((0:Int).toNat) default)=(⟨#[109]⟩:BA))) (an ((0:Int)≤4∧4<(ta.length:Int)) (cond (decide ((ta.getD ((4:Int).toNat) default)=(⟨#[48]⟩:BA))) (an ((0:Int)≤1∧1<(ta.length:Int)) (an ((0:Int)≤2∧2<(ta.length:Int)) (an ((0:Int)≤3∧3<(ta.length:Int)) (an ((0:Int)≤4∧4<(ta.length:Int)) (some (jH.d89 (⟨ta.getD ((1:Int).toNat) default,ta.getD ((2:Int).toNat) default,ta.getD ((3:Int).toNat) default,decide ((ta.getD ((4:Int).toNat) default)=(⟨#[49]⟩:BA))⟩:bB))))))) (an ((0:Int)≤4∧4<(ta.length:Int)) (cond (decide ((ta.getD ((4:Int).toNat) default)=(⟨#[49]⟩:BA))) (an ((0:Int)≤1∧1<(ta.length:Int)) (an ((0:Int)≤2∧2<(ta.length:Int)) (an ((0:Int)≤3∧3<(ta.length:Int)) (an ((0:Int)≤4∧4<(ta.length:Int)) (some (jH.d89 (⟨ta.getD ((1:Int).toNat) default,ta.getD ((2:Int).toNat) default,ta.getD ((3:Int).toNat) default,decide ((ta.getD ((4:Int).toNat) default)=(⟨#[49]⟩:BA))⟩:bB))))))) (cond ((ta.length:Int)==2) (an ((0:Int)≤0∧0<(ta.length:Int)) (cond (decide ((ta.getD ((0:Int).toNat) default)=(⟨#[116]⟩:BA))) (an ((0:Int)≤1∧1<(ta.length:Int)) (some (jH.d141 (ta.getD ((1:Int).toNat) default)))) (cond ((ta.length:Int)==2) (an ((0:Int)≤0∧0<(ta.length:Int)) (cond (decide ((ta.getD ((0:Int).toNat) default)=(⟨#[112]⟩:BA))) (an ((0:Int)≤1∧1<(ta.length:Int)) (some (jH.d143 (ta.getD ((1:Int).toNat) default)))) (some jH.nil))) (some jH.nil)))) (cond ((ta.length:Int)==2) (an ((0:Int)≤0∧0<(ta.length:Int)) (cond (decide ((ta.getD ((0:Int).toNat) default)=(⟨#[112]⟩:BA))) (an ((0:Int)≤1∧1<(ta.length:Int)) (some (jH.d143 (ta.getD ((1:Int).toNat) default)))) (some jH.nil))) (some jH.nil))))))) (cond ((ta.length:Int)==2) (an ((0:Int)≤0∧0<(ta.length:Int)) (cond (decide ((ta.getD ((0:Int).toNat) default)=(⟨#[116]⟩:BA))) (an ((0:Int)≤1∧1<(ta.length:Int)) (some (jH.d141 (ta.getD ((1:Int).toNat) default)))) (cond ((ta.length:Int)==2) (an ((0:Int)≤0∧0<(ta.length:Int)) (cond (decide ((ta.getD ((0:Int).toNat) default)=(⟨#[112]⟩:BA))) (an ((0:Int)≤1∧1<(ta.length:Int)) (some (jH.d143 (ta.getD ((1:Int).toNat) default)))) (some jH.nil))) (some jH.nil)))) (cond ((ta.length:Int)==2) (an ((0:Int)≤0∧0<(ta.length:Int)) (cond (decide ((ta.getD ((0:Int).toNat) default)=(⟨#[112]⟩:BA))) (an ((0:Int)≤1∧1<(ta.length:Int)) (some (jH.d143 (ta.getD ((1:Int).toNat) default)))) (some jH.nil))) (some jH.nil))))) (cond ((ta.length:Int)==2) (an ((0:Int)≤0∧0<(ta.length:Int)) (cond (decide ((ta.getD ((0:Int).toNat) default)=(⟨#[116]⟩:BA))) (an ((0:Int)≤1∧1<(ta.length:Int)) (some (jH.d141 (ta.getD ((1:Int).toNat) default)))) (cond ((ta.length:Int)==2) (an ((0:Int)≤0∧0<(ta.length:Int)) (cond (decide ((ta.getD ((0:Int).toNat) default)=(⟨#[112]⟩:BA))) (an ((0:Int)≤1∧1<(ta.length:Int)) (some (jH.d143 (ta.getD ((1:Int).toNat) default)))) (some jH.nil))) (some jH.nil)))) (cond ((ta.length:Int)==2) (an ((0:Int)≤0∧0<(ta.length:Int)) (cond (decide ((ta.getD ((0:Int).toNat) default)=(⟨#[112]⟩:BA))) (an ((0:Int)≤1∧1<(ta.length:Int)) (some (jH.d143 (ta.getD ((1:Int).toNat) default)))) (some jH.nil))) (some jH.nil)))
def fZ.f (a0:jX) (a1:bB):Option (Pos×Bool):=some ((mget a0.iS a1).getD (⟨0,eE⟩:Pos),(mget a0.iS a1).isSome)
def gW.f (k:Nat) (a0:Src) (a1:bB) (a2:BA):Option (eV×Bool):=(fZ.f a0.aB.qv a1).bind fun ta=>cond ta.2 ((bN.f k a0.dx a1.aa a2).bind fun tc=>cond tc (cond (!a1.ao) (some ((⟨a1,ta.1⟩:eV),true)) (some ((⟨a1,ta.1⟩:eV),decide (a1.ai=a2)))) (some ((⟨a1,ta.1⟩:eV),false))) (some ((⟨a1,ta.1⟩:eV),false))
def slices_Sort_string.f (xs:List BA):Option (List BA):=an (xs.length<4611686018427387904) (some (o0 xs))
def gH.f (a0:aO):Option (List BA):=an (a0.br.length≤1000000) (some (o0 (a0.br.map (·.1))))
def dM.f (k:Nat) (a0:BA) (c0:aO) (c1:BA):Option (Bool):=(bN.f k c0 a0 c1).bind fun ta=>some (!ta)
def fX.f (k:Nat) (a0:aO) (a1:BA):Option ((List BA)):=(gH.f a0).bind fun ta=>(slices_DeleteFunc_string_xo.f k ta (fun a0_=>dM.f k a0_ a0 a1)).bind fun tc=>some tc
def dN.f (k:Nat) (a0:BA) (c0:aO) (c1:BA):Option (Bool):=(bN.f k c0 a0 c1).bind fun ta=>some ta
def fi.f (k:Nat) (a0:aO) (a1:BA) (a2:BA):Option (Bool):=(fX.f k a0 a1).bind fun ta=>(cN.f k ta (fun a0_=>dN.f k a0_ a0 a2)).bind fun tc=>some tc
def bZ.f (k:Nat) (a0:cJ) (a1:BA) (a2:Int):Option (Int):=(dz.f k a0 a1).bind fun ta=>cond (!ta.2) (some 0) (an ((0:Int)≤ta.1∧ta.1<(a0.fl.length:Int)) ((dW.f (a0.fl.getD ta.1.toNat default) a2).bind fun tc=>some tc))
def hJ.f (a0:Bool):Option (Int):=cond a0 (some 1) (some 0)
def iq.f (k:Nat) (a0:bB) (a1:bB):Option (Int):=(aC.f a0.aa a1.aa).bind fun ta=>(aC.f a0.ai a1.ai).bind fun tc=>(aC.f a0.ae a1.ae).bind fun te=>(hJ.f a0.ao).bind fun tg=>(hJ.f a1.ao).bind fun tj=>(cB.f tg tj).bind fun tm=>(bD.f k ([ta,tc,te,tm]:List Int)).bind fun tn=>some tn
def mQ.f (k:Nat) (a0:eV) (a1:eV):Option (Int):=(iq.f k a0.bY a1.bY).bind fun ta=>some ta
def mR (x y:bB):Int:=Eo (jV x.aa y.aa) (Eo (jV x.ai y.ai) (Eo (jV x.ae y.ae) (nq (if x.ao then 1 else 0) (if y.ao then 1 else 0))))
def aU.cf (x y:eV):Int:=mR x.bY y.bY
def aU.f (xs:List eV):Option (List eV):=an (xs.length≤1000000∧xs.Pairwise fun x y=>ltOf aU.cf x y=true∨ltOf aU.cf y x=true) (some (kV aU.cf xs))
def mV.f (a0:eC) (a1:eC):Option (Int):=(aC.f a0.aa a1.aa).bind fun ta=>some ta
def aL.cf (x y:eC):Int:=jV x.aa y.aa
def aL.f (xs:List eC):Option (List eC):=an (xs.length≤1000000∧xs.Pairwise fun x y=>ltOf aL.cf x y=true∨ltOf aL.cf y x=true) (some (kV aL.cf xs))
def mS.f (a0:eS) (a1:eS):Option (Int):=(aC.f a0.ai a1.ai).bind fun ta=>some ta
def aK.cf (x y:eS):Int:=jV x.ai y.ai
def aK.f (xs:List eS):Option (List eS):=an (xs.length≤1000000∧xs.Pairwise fun x y=>ltOf aK.cf x y=true∨ltOf aK.cf y x=true) (some (kV aK.cf xs))
def sync_Make.l0 (k:Nat) (a0:Src) (a1:BA) (a3:Int) (ta:(List BA)):Nat→Int→List eV→List eC→List eS→Option (Int×Int×Bool×(List BA)×(List eV)×(List eC)×(List eS))
 | 0,_,_,_,_=>none
 | ja+1,xc,xd,xe,xf=>cond (decide (xc<(ta.length:Int))) (an ((0:Int)≤xc∧xc<(ta.length:Int)) ((nv.f k (ta.getD xc.toNat default)).bind fun tc=>(cond ((jH.g89 tc).isSome) ((gW.f k a0 ((jH.g89 tc).getD (⟨eE,eE,eE,false⟩:bB)) a1).bind fun te=>cond te.2 (an (xd.length+([(⟨te.1.bY,te.1.gF⟩:eV)]:List eV).length≤9223372036854775807∧(xd.length+([(⟨te.1.bY,te.1.gF⟩:eV)]:List eV).length)*80≤140737488355328) (some (xd++([(⟨te.1.bY,te.1.gF⟩:eV)]:List eV),xe))) (some (xd,xe))) (cond ((jH.sw tc).isSome) ((bN.f k a0.dx ((jH.sw tc).getD eE) a1).bind fun tg=>cond tg ((lv.f k a0 ((jH.sw tc).getD eE) a3).bind fun tj=>an (xe.length+([(⟨(jH.sw tc).getD eE,tj⟩:eC)]:List eC).length≤9223372036854775807∧(xe.length+([(⟨(jH.sw tc).getD eE,tj⟩:eC)]:List eC).length)*40≤140737488355328) (some (xd,xe++([(⟨(jH.sw tc).getD eE,tj⟩:eC)]:List eC)))) (some (xd,xe))) (some (xd,xe)))).bind fun (pa:(List eV)×(List eC))=>cond ((jH.rX tc).isSome) ((fi.f k a0.dx a1 ((jH.rX tc).getD eE)).bind fun tm=>cond tm ((bZ.f k a0.bq ((jH.rX tc).getD eE) a3).bind fun tn=>an (xf.length+([(⟨(jH.rX tc).getD eE,tn⟩:eS)]:List eS).length≤9223372036854775807∧(xf.length+([(⟨(jH.rX tc).getD eE,tn⟩:eS)]:List eS).length)*24≤140737488355328) (sync_Make.l0 k a0 a1 a3 ta ja (av (xc+1)) pa.1 pa.2 (xf++([(⟨(jH.rX tc).getD eE,tn⟩:eS)]:List eS)))) (sync_Make.l0 k a0 a1 a3 ta ja (av (xc+1)) pa.1 pa.2 xf)) (sync_Make.l0 k a0 a1 a3 ta ja (av (xc+1)) pa.1 pa.2 xf))) (some ((ta.length:Int),xc,decide (xc<(ta.length:Int)),ta,xd,xe,xf))
def sync_Make.f (k:Nat) (a0:Src) (a1:BA) (a2:Int) (a3:Int):Option (tC×Int):=cond (decide (a2<0)) (some ((⟨0,([]:List eV),([]:List eC),([]:List eS)⟩:tC),10)) ((iD.f a0.jE).bind fun ta=>cond (decide (ta<a2)) (some ((⟨0,([]:List eV),([]:List eC),([]:List eS)⟩:tC),10)) ((iD.f a0.jE).bind fun tc=>((cD.f k a0.jE a2).bind fun te=>sync_Make.l0 k a0 a1 a3 te k 0 ([]:List eV) ([]:List eC) ([]:List eS)).bind fun (pa:Int×Int×Bool×(List BA)×(List eV)×(List eC)×(List eS))=>(aU.f pa.2.2.2.2.1).bind fun tg=>(aL.f pa.2.2.2.2.2.1).bind fun tj=>(aK.f pa.2.2.2.2.2.2).bind fun tm=>some ((⟨tc,tg,tj,tm⟩:tC),0)))
def dy.l0 (k:Nat) (a0:aQ) (a1:BA):Nat→Int→Int→Option (Int×Int×Bool)
 | 0,_,_=>none
 | ja+1,xc,xd=>cond (decide (xd<(a0.fL.length:Int))) (an ((0:Int)≤xd∧xd<(a0.fL.length:Int)) (cond (!decide (((Event.K.at a0.fL xd).ai)=a1)) (dy.l0 k a0 a1 ja xc (av (xd+1))) (an ((0:Int)≤xd∧xd<(a0.fL.length:Int)) (cond (((Event.K.at a0.fL xd).bO)==0) (dy.l0 k a0 a1 ja xc (av (xd+1))) (cond (decide (xc<0)) (dy.l0 k a0 a1 ja xd (av (xd+1))) (an ((0:Int)≤xc∧xc<(a0.fL.length:Int)) ((ea.f k a0 ((Event.K.at a0.fL xc).bS)).bind fun ta=>an ((0:Int)≤xd∧xd<(a0.fL.length:Int)) ((ea.f k a0 ((Event.K.at a0.fL xd).bS)).bind fun tc=>(jJ.f ta tc).bind fun te=>cond te (dy.l0 k a0 a1 ja xd (av (xd+1))) (dy.l0 k a0 a1 ja xc (av (xd+1))))))))))) (some (xc,xd,decide (xd<(a0.fL.length:Int))))
def dy.f (k:Nat) (a0:aQ) (a1:BA):Option (Event×Bool):=(dy.l0 k a0 a1 k (-1) 0).bind fun (pa:Int×Int×Bool)=>cond (decide (pa.1<0)) (some ((⟨eE,eE,([]:List BA),eE,eE,0⟩:Event),false)) (an ((0:Int)≤pa.1∧pa.1<(a0.fL.length:Int)) (some (Event.K.at a0.fL pa.1,true)))
def nR.f (k:Nat) (a0:aQ) (a1:BA):Option (Bool):=(dy.f k a0 a1).bind fun ta=>cond ta.2 (some (ta.1.bO==1)) (some false)
def iP.f (k:Nat) (a0:bF) (a1:BA) (a2:BA):Option (Bool):=(iT.f k a0 a1).bind fun ta=>(nR.f k ta a2).bind fun tc=>some tc
def dJ.l0 (k:Nat) (a0:kX) (a1:BA) (a2:BA) (a3:Int):Nat→Int→Option ((Int×Bool) ⊕ (Bool))
 | 0,_=>none
 | ja+1,xc=>cond (decide (xc<(a0.fL.length:Int))) (an ((0:Int)≤xc∧xc<(a0.fL.length:Int)) (cond (decide (((ak.K.at a0.fL xc).aa)=a1)) (an ((0:Int)≤xc∧xc<(a0.fL.length:Int)) (cond (decide (((ak.K.at a0.fL xc).ai)=a2)) (an ((0:Int)≤xc∧xc<(a0.fL.length:Int)) (cond ((ak.K.at a0.fL xc).j8) (an ((0:Int)≤xc∧xc<(a0.fL.length:Int)) (an ((0:Int)≤xc∧xc<(a0.fL.length:Int)) (some (.inr (decide (a3<(av (((ak.K.at a0.fL xc).aT)+((ak.K.at a0.fL xc).b7))))))))) (some (.inr false)))) (dJ.l0 k a0 a1 a2 a3 ja (av (xc+1))))) (dJ.l0 k a0 a1 a2 a3 ja (av (xc+1))))) (some (.inl (xc,decide (xc<(a0.fL.length:Int)))))
def dJ.f (k:Nat) (a0:kX) (a1:BA) (a2:BA) (a3:Int):Option (Bool):=(dJ.l0 k a0 a1 a2 a3 k 0).bind (fall fun pa=>some false)
def eD.l0 (k:Nat) (a0:kX) (a1:BA) (a2:Int):Nat→Int→List BA→Option (Int×Bool×(List BA))
 | 0,_,_=>none
 | ja+1,xc,xd=>cond (decide (xc<(a0.fL.length:Int))) (an ((0:Int)≤xc∧xc<(a0.fL.length:Int)) ((dJ.f k a0 a1 ((ak.K.at a0.fL xc).ai) a2).bind fun ta=>an ((0:Int)≤xc∧xc<(a0.fL.length:Int)) (cond (decide (((ak.K.at a0.fL xc).aa)=a1)) (cond ta (an ((0:Int)≤xc∧xc<(a0.fL.length:Int)) (an (xd.length+([(ak.K.at a0.fL xc).ai]:List BA).length≤9223372036854775807∧(xd.length+([(ak.K.at a0.fL xc).ai]:List BA).length)*16≤140737488355328) (eD.l0 k a0 a1 a2 ja (av (xc+1)) (xd++([(ak.K.at a0.fL xc).ai]:List BA))))) (eD.l0 k a0 a1 a2 ja (av (xc+1)) xd)) (eD.l0 k a0 a1 a2 ja (av (xc+1)) xd)))) (some (xc,decide (xc<(a0.fL.length:Int)),xd))
def eD.f (k:Nat) (a0:kX) (a1:BA) (a2:Int):Option ((List BA)):=(eD.l0 k a0 a1 a2 k 0 ([]:List BA)).bind fun (pa:Int×Bool×(List BA))=>some pa.2.2
def je.l0 (k:Nat) (a0:dQ) (a1:BA) (ta:(List BA)):Nat→Int→List BA→Option (Int×Bool×(List BA))
 | 0,_,_=>none
 | ja+1,xc,xd=>cond (decide (xc<(ta.length:Int))) (an ((0:Int)≤xc∧xc<(ta.length:Int)) ((iP.f k a0.fV a1 (ta.getD xc.toNat default)).bind fun tc=>cond tc (an ((0:Int)≤xc∧xc<(ta.length:Int)) (an (xd.length+([ta.getD xc.toNat default]:List BA).length≤9223372036854775807∧(xd.length+([ta.getD xc.toNat default]:List BA).length)*16≤140737488355328) (je.l0 k a0 a1 ta ja (av (xc+1)) (xd++([ta.getD xc.toNat default]:List BA))))) (je.l0 k a0 a1 ta ja (av (xc+1)) xd))) (some (xc,decide (xc<(ta.length:Int)),xd))
def je.f (k:Nat) (a0:dQ) (a1:BA) (a2:Int):Option ((List BA)):=(eD.f k a0.fT a1 a2).bind fun ta=>(je.l0 k a0 a1 ta k 0 ([]:List BA)).bind fun (pa:Int×Bool×(List BA))=>some pa.2.2
def gR.l0 (k:Nat) (a0:bF) (a1:BA):Nat→Int→List BA→Option (Int×Bool×(List BA))
 | 0,_,_=>none
 | ja+1,xc,xd=>cond (decide (xc<(a0.fD.length:Int))) (an ((0:Int)≤xc∧xc<(a0.fD.length:Int)) ((nR.f k (aQ.K.at a0.fD xc) a1).bind fun ta=>cond ta (an ((0:Int)≤xc∧xc<(a0.fD.length:Int)) (an (xd.length+([(aQ.K.at a0.fD xc).aa]:List BA).length≤9223372036854775807∧(xd.length+([(aQ.K.at a0.fD xc).aa]:List BA).length)*16≤140737488355328) (gR.l0 k a0 a1 ja (av (xc+1)) (xd++([(aQ.K.at a0.fD xc).aa]:List BA))))) (gR.l0 k a0 a1 ja (av (xc+1)) xd))) (some (xc,decide (xc<(a0.fD.length:Int)),xd))
def gR.f (k:Nat) (a0:bF) (a1:BA):Option ((List BA)):=(gR.l0 k a0 a1 k 0 ([]:List BA)).bind fun (pa:Int×Bool×(List BA))=>some pa.2.2
def fR.l0 (k:Nat) (a0:bF) (a2:BA) (ta:(List BA)):Nat→Int→Option ((Int×Bool) ⊕ (Bool))
 | 0,_=>none
 | ja+1,xc=>cond (decide (xc<(ta.length:Int))) (an ((0:Int)≤xc∧xc<(ta.length:Int)) ((iP.f k a0 (ta.getD xc.toNat default) a2).bind fun tc=>cond tc (some (.inr true)) (fR.l0 k a0 a2 ta ja (av (xc+1))))) (some (.inl (xc,decide (xc<(ta.length:Int)))))
def fR.f (k:Nat) (a0:bF) (a1:BA) (a2:BA):Option (Bool):=(gR.f k a0 a1).bind fun ta=>(fR.l0 k a0 a2 ta k 0).bind (fall fun pa=>some false)
def ni.l0 (k:Nat) (a0:List BA) (a1:Int) (a2:BA):Nat→Int→Option ((Int×Bool) ⊕ (Int))
 | 0,_=>none
 | ja+1,xc=>cond (decide (0≤xc)) (an ((0:Int)≤xc∧xc<(a0.length:Int)) (cond (decide ((aE.at a0 xc)=a2)) (some (.inr (av ((av (a1+1))+xc)))) (ni.l0 k a0 a1 a2 ja (av (xc-1))))) (some (.inl (xc,decide (0≤xc))))
def ni.f (k:Nat) (a0:List BA) (a1:Int) (a2:BA):Option (Int):=(ni.l0 k a0 a1 a2 k (av ((a0.length:Int)-1))).bind (fall fun pa=>some 0)
def lT.l0 (k:Nat) (a0:List kR):Nat→Int→List BA→Option (Int×Bool×(List BA))
 | 0,_,_=>none
 | ja+1,xc,xd=>cond (decide (xc<(a0.length:Int))) (an ((0:Int)≤xc∧xc<(a0.length:Int)) ((kH.f (⟨(kR.K.at a0 xc).aH,(kR.K.at a0 xc).fK,(kR.K.at a0 xc).mb⟩:kR)).bind fun ta=>an (xd.length+([ta]:List BA).length≤9223372036854775807∧(xd.length+([ta]:List BA).length)*16≤140737488355328) (lT.l0 k a0 ja (av (xc+1)) (xd++([ta]:List BA))))) (some (xc,decide (xc<(a0.length:Int)),xd))
def lT.f (k:Nat) (a0:List kR):Option ((List BA)):=(lT.l0 k a0 k 0 ([]:List BA)).bind fun (pa:Int×Bool×(List BA))=>some pa.2.2
def lF.f (k:Nat) (a0:dQ) (a1:Int) (a2:BA):Option (Bool):=(lT.f k a0.fL).bind fun ta=>(ni.f k ta a0.aV a2).bind fun tc=>some (decide (a1<tc))
def kE.l0 (k:Nat) (a0:List BA) (a1:BA):Nat→Bool→Int→List BA→Option (Bool×Int×Bool×(List BA))
 | 0,_,_,_=>none
 | ja+1,xc,xd,xe=>cond (decide (xd<(a0.length:Int))) ((cond (!xc) (an ((0:Int)≤xd∧xd<(a0.length:Int)) (cond (!dI (aE.at a0 xd) a1) (an (xe.length+([a1]:List BA).length≤9223372036854775807∧(xe.length+([a1]:List BA).length)*16≤140737488355328) (some (true,!dI (aE.at a0 xd) a1,xe++([a1]:List BA)))) (some (xc,!dI (aE.at a0 xd) a1,xe)))) (some (xc,false,xe))).bind fun (pa:Bool×Bool×(List BA))=>an ((0:Int)≤xd∧xd<(a0.length:Int)) (cond (!decide ((aE.at a0 xd)=a1)) (an ((0:Int)≤xd∧xd<(a0.length:Int)) (an (pa.2.2.length+([aE.at a0 xd]:List BA).length≤9223372036854775807∧(pa.2.2.length+([aE.at a0 xd]:List BA).length)*16≤140737488355328) (kE.l0 k a0 a1 ja pa.1 (av (xd+1)) (pa.2.2++([aE.at a0 xd]:List BA))))) (kE.l0 k a0 a1 ja pa.1 (av (xd+1)) pa.2.2))) (some (xc,xd,decide (xd<(a0.length:Int)),xe))
def kE.f (k:Nat) (a0:List BA) (a1:BA):Option ((List BA)):=(kE.l0 k a0 a1 k false 0 ([]:List BA)).bind fun (pa:Bool×Int×Bool×(List BA))=>cond (!pa.1) (an (pa.2.2.2.length+([a1]:List BA).length≤9223372036854775807∧(pa.2.2.2.length+([a1]:List BA).length)*16≤140737488355328) (some (pa.2.2.2++([a1]:List BA)))) (some pa.2.2.2)
def A6.f (a0:ak) (a1:Int):Option (Int):=cond (a0.aM==2) (cond (decide (a1<(av (a0.aT+30)))) (some 2) (cond (decide (0<a0.aM)) (cond (decide (a1<(av (a0.aT+90)))) (some 1) (some 0)) (some 0))) (cond (decide (0<a0.aM)) (cond (decide (a1<(av (a0.aT+90)))) (some 1) (some 0)) (some 0))
def eF.l0 (k:Nat) (a0:lW) (a1:BA) (a2:Int):Nat→Int→Option ((Int×Bool) ⊕ (Int))
 | 0,_=>none
 | ja+1,xc=>cond (decide (xc<(a0.fL.length:Int))) (an ((0:Int)≤xc∧xc<(a0.fL.length:Int)) (cond (decide (((ak.K.at a0.fL xc).ai)=a1)) (an ((0:Int)≤xc∧xc<(a0.fL.length:Int)) ((A6.f (ak.K.at a0.fL xc) a2).bind fun ta=>some (.inr ta))) (eF.l0 k a0 a1 a2 ja (av (xc+1))))) (some (.inl (xc,decide (xc<(a0.fL.length:Int)))))
def eF.f (k:Nat) (a0:lW) (a1:BA) (a2:Int):Option (Int):=(eF.l0 k a0 a1 a2 k 0).bind (fall fun pa=>some 0)
def bR.l0 (k:Nat) (a0:dQ) (a1:BA) (a2:Int) (a3:Int) (pa:Int×Bool×(List BA)×(List BA)):Nat→Int→List eS→Option (Int×Bool×(List eS))
 | 0,_,_=>none
 | ja+1,xc,xd=>cond (decide (xc<(pa.2.2.2.length:Int))) (an ((0:Int)≤xc∧xc<(pa.2.2.2.length:Int)) ((kH.f (⟨3,(⟨eE,eE,eE,false⟩:bB),pa.2.2.2.getD xc.toNat default⟩:kR)).bind fun ta=>(lF.f k (⟨a0.fV,a0.fM,a0.fT,a0.fP,a0.fL,a0.aV⟩:dQ) a2 ta).bind fun tc=>an ((0:Int)≤xc∧xc<(pa.2.2.2.length:Int)) ((fR.f k a0.fV a1 (pa.2.2.2.getD xc.toNat default)).bind fun te=>cond tc (cond te (an ((0:Int)≤xc∧xc<(pa.2.2.2.length:Int)) (an ((0:Int)≤xc∧xc<(pa.2.2.2.length:Int)) ((eF.f k a0.fP (pa.2.2.2.getD xc.toNat default) a3).bind fun tg=>an (xd.length+([(⟨pa.2.2.2.getD xc.toNat default,tg⟩:eS)]:List eS).length≤9223372036854775807∧(xd.length+([(⟨pa.2.2.2.getD xc.toNat default,tg⟩:eS)]:List eS).length)*24≤140737488355328) (bR.l0 k a0 a1 a2 a3 pa ja (av (xc+1)) (xd++([(⟨pa.2.2.2.getD xc.toNat default,tg⟩:eS)]:List eS)))))) (bR.l0 k a0 a1 a2 a3 pa ja (av (xc+1)) xd)) (bR.l0 k a0 a1 a2 a3 pa ja (av (xc+1)) xd)))) (some (xc,decide (xc<(pa.2.2.2.length:Int)),xd))
def bR.l1 (k:Nat) (a0:dQ) (a1:BA) (a2:Int) (a3:Int) (pa:Int×Bool×(List BA)×(List BA)):Nat→Int→List eC→Option (Int×Bool×(List eC))
 | 0,_,_=>none
 | ja+1,xc,xd=>cond (decide (xc<(pa.2.2.1.length:Int))) (an ((0:Int)≤xc∧xc<(pa.2.2.1.length:Int)) ((kH.f (⟨2,(⟨eE,eE,eE,false⟩:bB),pa.2.2.1.getD xc.toNat default⟩:kR)).bind fun ta=>(lF.f k (⟨a0.fV,a0.fM,a0.fT,a0.fP,a0.fL,a0.aV⟩:dQ) a2 ta).bind fun tc=>an ((0:Int)≤xc∧xc<(pa.2.2.1.length:Int)) ((iP.f k a0.fV (pa.2.2.1.getD xc.toNat default) a1).bind fun te=>cond tc (cond te (an ((0:Int)≤xc∧xc<(pa.2.2.1.length:Int)) (an ((0:Int)≤xc∧xc<(pa.2.2.1.length:Int)) ((je.f k (⟨a0.fV,a0.fM,a0.fT,a0.fP,a0.fL,a0.aV⟩:dQ) (pa.2.2.1.getD xc.toNat default) a3).bind fun tg=>an (xd.length+([(⟨pa.2.2.1.getD xc.toNat default,tg⟩:eC)]:List eC).length≤9223372036854775807∧(xd.length+([(⟨pa.2.2.1.getD xc.toNat default,tg⟩:eC)]:List eC).length)*40≤140737488355328) (bR.l1 k a0 a1 a2 a3 pa ja (av (xc+1)) (xd++([(⟨pa.2.2.1.getD xc.toNat default,tg⟩:eC)]:List eC)))))) (bR.l1 k a0 a1 a2 a3 pa ja (av (xc+1)) xd)) (bR.l1 k a0 a1 a2 a3 pa ja (av (xc+1)) xd)))) (some (xc,decide (xc<(pa.2.2.1.length:Int)),xd))
def bR.l2 (k:Nat) (a0:dQ):Nat→Int→List BA→List BA→Option (Int×Bool×(List BA)×(List BA))
 | 0,_,_,_=>none
 | ja+1,xc,xd,xe=>cond (decide (xc<(a0.fL.length:Int))) ((an ((0:Int)≤xc∧xc<(a0.fL.length:Int)) (cond (((kR.K.at a0.fL xc).aH)==2) (an ((0:Int)≤xc∧xc<(a0.fL.length:Int)) ((kE.f k xd ((kR.K.at a0.fL xc).mb)).bind fun ta=>some ta)) (some xd))).bind fun (pa:(List BA))=>an ((0:Int)≤xc∧xc<(a0.fL.length:Int)) (cond (((kR.K.at a0.fL xc).aH)==3) (an ((0:Int)≤xc∧xc<(a0.fL.length:Int)) ((kE.f k xe ((kR.K.at a0.fL xc).mb)).bind fun tc=>bR.l2 k a0 ja (av (xc+1)) pa tc)) (bR.l2 k a0 ja (av (xc+1)) pa xe))) (some (xc,decide (xc<(a0.fL.length:Int)),xd,xe))
def bR.l3 (k:Nat) (a0:dQ) (a1:BA) (a2:Int):Nat→Int→List MK→Option (Int×Bool×(List MK))
 | 0,_,_=>none
 | ja+1,xc,xd=>cond (decide (xc<(a0.fM.length:Int))) (an ((0:Int)≤xc∧xc<(a0.fM.length:Int)) ((kH.f (⟨1,(MK.K.at a0.fM xc).fK,eE⟩:kR)).bind fun ta=>(lF.f k (⟨a0.fV,a0.fM,a0.fT,a0.fP,a0.fL,a0.aV⟩:dQ) a2 ta).bind fun tc=>(iP.f k a0.fV (((MK.K.at a0.fM xc).fK).aa) a1).bind fun te=>cond tc (cond te (cond (!(((MK.K.at a0.fM xc).fK).ao)) (an ((0:Int)≤xc∧xc<(a0.fM.length:Int)) (an (xd.length+([(⟨(MK.K.at a0.fM xc).fK,(MK.K.at a0.fM xc).gF⟩:MK)]:List MK).length≤9223372036854775807∧(xd.length+([(⟨(MK.K.at a0.fM xc).fK,(MK.K.at a0.fM xc).gF⟩:MK)]:List MK).length)*80≤140737488355328) (bR.l3 k a0 a1 a2 ja (av (xc+1)) (xd++([(⟨(MK.K.at a0.fM xc).fK,(MK.K.at a0.fM xc).gF⟩:MK)]:List MK))))) (cond (decide ((((MK.K.at a0.fM xc).fK).ai)=a1)) (an ((0:Int)≤xc∧xc<(a0.fM.length:Int)) (an (xd.length+([(⟨(MK.K.at a0.fM xc).fK,(MK.K.at a0.fM xc).gF⟩:MK)]:List MK).length≤9223372036854775807∧(xd.length+([(⟨(MK.K.at a0.fM xc).fK,(MK.K.at a0.fM xc).gF⟩:MK)]:List MK).length)*80≤140737488355328) (bR.l3 k a0 a1 a2 ja (av (xc+1)) (xd++([(⟨(MK.K.at a0.fM xc).fK,(MK.K.at a0.fM xc).gF⟩:MK)]:List MK))))) (bR.l3 k a0 a1 a2 ja (av (xc+1)) xd))) (bR.l3 k a0 a1 a2 ja (av (xc+1)) xd)) (bR.l3 k a0 a1 a2 ja (av (xc+1)) xd))) (some (xc,decide (xc<(a0.fM.length:Int)),xd))
def bR.f (k:Nat) (a0:dQ) (a1:BA) (a2:Int) (a3:Int):Option (nG×Int):=cond (decide (a2<0)) (some ((⟨0,([]:List MK),([]:List eC),([]:List eS)⟩:nG),10)) (cond (decide ((av (a0.aV+(a0.fL.length:Int)))<a2)) (some ((⟨0,([]:List MK),([]:List eC),([]:List eS)⟩:nG),10)) ((bR.l3 k a0 a1 a2 k 0 ([]:List MK)).bind fun (pa:Int×Bool×(List MK))=>(bR.l2 k a0 k 0 ([]:List BA) ([]:List BA)).bind fun (pc:Int×Bool×(List BA)×(List BA))=>(bR.l1 k a0 a1 a2 a3 pc k 0 ([]:List eC)).bind fun (pe:Int×Bool×(List eC))=>(bR.l0 k a0 a1 a2 a3 pc k 0 ([]:List eS)).bind fun (pg:Int×Bool×(List eS))=>some ((⟨av (a0.aV+(a0.fL.length:Int)),pa.2.2,pe.2.2,pg.2.2⟩:nG),0)))
def cZ.l0 (k:Nat) (a0:List BA) (a1:List BA):Nat→Int→Option ((Int×Bool) ⊕ (Bool))
 | 0,_=>none
 | ja+1,xc=>cond (decide (xc<(a0.length:Int))) (an ((0:Int)≤xc∧xc<(a0.length:Int)) (an ((0:Int)≤xc∧xc<(a1.length:Int)) (cond (!decide ((aE.at a0 xc)=(aE.at a1 xc))) (some (.inr false)) (cZ.l0 k a0 a1 ja (av (xc+1)))))) (some (.inl (xc,decide (xc<(a0.length:Int)))))
def cZ.f (k:Nat) (a0:List BA) (a1:List BA):Option (Bool):=cond ((a0.length:Int) != (a1.length:Int)) (some false) ((cZ.l0 k a0 a1 k 0).bind (fall fun pa=>some true))
def gZ.l0 (k:Nat) (a0:List MK) (a1:List MK):Nat→Int→Option ((Int×Bool) ⊕ (Bool))
 | 0,_=>none
 | ja+1,xc=>cond (decide (xc<(a0.length:Int))) (an ((0:Int)≤xc∧xc<(a0.length:Int)) (an ((0:Int)≤xc∧xc<(a1.length:Int)) (cond (!decide ((⟨(MK.K.at a0 xc).fK,(MK.K.at a0 xc).gF⟩:MK)=(⟨(MK.K.at a1 xc).fK,(MK.K.at a1 xc).gF⟩:MK))) (some (.inr false)) (gZ.l0 k a0 a1 ja (av (xc+1)))))) (some (.inl (xc,decide (xc<(a0.length:Int)))))
def gZ.f (k:Nat) (a0:List MK) (a1:List MK):Option (Bool):=cond ((a0.length:Int) != (a1.length:Int)) (some false) ((gZ.l0 k a0 a1 k 0).bind (fall fun pa=>some true))
def dq.l0 (k:Nat) (a0:nG) (a1:nG):Nat→Int→Option ((Int×Bool) ⊕ (Bool))
 | 0,_=>none
 | ja+1,xc=>cond (decide (xc<(a0.bK.length:Int))) (an ((0:Int)≤xc∧xc<(a0.bK.length:Int)) (an ((0:Int)≤xc∧xc<(a1.bK.length:Int)) (cond (!decide (eS.K.at a0.bK xc=eS.K.at a1.bK xc)) (some (.inr false)) (dq.l0 k a0 a1 ja (av (xc+1)))))) (some (.inl (xc,decide (xc<(a0.bK.length:Int)))))
def dq.l1 (k:Nat) (a0:nG) (a1:nG):Nat→Int→Option ((Int×Bool) ⊕ (Bool))
 | 0,_=>none
 | ja+1,xc=>cond (decide (xc<(a0.aw.length:Int))) (an ((0:Int)≤xc∧xc<(a0.aw.length:Int)) (an ((0:Int)≤xc∧xc<(a1.aw.length:Int)) ((cZ.f k ((eC.K.at a0.aw xc).ly) ((eC.K.at a1.aw xc).ly)).bind fun ta=>cond (!ta) (some (.inr false)) (an ((0:Int)≤xc∧xc<(a0.aw.length:Int)) (an ((0:Int)≤xc∧xc<(a1.aw.length:Int)) (cond (!decide (((eC.K.at a0.aw xc).aa)=((eC.K.at a1.aw xc).aa))) (some (.inr false)) (dq.l1 k a0 a1 ja (av (xc+1))))))))) (some (.inl (xc,decide (xc<(a0.aw.length:Int)))))
def dq.f (k:Nat) (a0:nG) (a1:nG):Option (Bool):=(gZ.f k a0.aB a1.aB).bind fun ta=>cond (!ta) (some false) (cond ((a0.aw.length:Int) != (a1.aw.length:Int)) (some false) (cond ((a0.bK.length:Int) != (a1.bK.length:Int)) (some false) ((dq.l1 k a0 a1 k 0).bind (fall fun pa=>(dq.l0 k a0 a1 k 0).bind (fall fun pc=>some true)))))
def dH.l0 (k:Nat) (a0:tC):Nat→Int→List eS→Option (Int×Bool×(List eS))
 | 0,_,_=>none
 | ja+1,xc,xd=>cond (decide (xc<(a0.bK.length:Int))) (an ((0:Int)≤xc∧xc<(a0.bK.length:Int)) (an (xd.length+([eS.K.at a0.bK xc]:List eS).length≤9223372036854775807∧(xd.length+([eS.K.at a0.bK xc]:List eS).length)*24≤140737488355328) (dH.l0 k a0 ja (av (xc+1)) (xd++([eS.K.at a0.bK xc]:List eS))))) (some (xc,decide (xc<(a0.bK.length:Int)),xd))
def dH.l1 (k:Nat) (a0:tC):Nat→Int→List eC→Option (Int×Bool×(List eC))
 | 0,_,_=>none
 | ja+1,xc,xd=>cond (decide (xc<(a0.aw.length:Int))) (an ((0:Int)≤xc∧xc<(a0.aw.length:Int)) (an (xd.length+([eC.K.at a0.aw xc]:List eC).length≤9223372036854775807∧(xd.length+([eC.K.at a0.aw xc]:List eC).length)*40≤140737488355328) (dH.l1 k a0 ja (av (xc+1)) (xd++([eC.K.at a0.aw xc]:List eC))))) (some (xc,decide (xc<(a0.aw.length:Int)),xd))
def dH.l2 (k:Nat) (a0:tC):Nat→Int→List MK→Option (Int×Bool×(List MK))
 | 0,_,_=>none
 | ja+1,xc,xd=>cond (decide (xc<(a0.aB.length:Int))) (an ((0:Int)≤xc∧xc<(a0.aB.length:Int)) (an ((0:Int)≤xc∧xc<(a0.aB.length:Int)) (an (xd.length+([(⟨(eV.K.at a0.aB xc).bY,(eV.K.at a0.aB xc).gF⟩:MK)]:List MK).length≤9223372036854775807∧(xd.length+([(⟨(eV.K.at a0.aB xc).bY,(eV.K.at a0.aB xc).gF⟩:MK)]:List MK).length)*80≤140737488355328) (dH.l2 k a0 ja (av (xc+1)) (xd++([(⟨(eV.K.at a0.aB xc).bY,(eV.K.at a0.aB xc).gF⟩:MK)]:List MK)))))) (some (xc,decide (xc<(a0.aB.length:Int)),xd))
def dH.f (k:Nat) (a0:tC):Option (nG):=(dH.l2 k a0 k 0 ([]:List MK)).bind fun (pa:Int×Bool×(List MK))=>(dH.l1 k a0 k 0 ([]:List eC)).bind fun (pc:Int×Bool×(List eC))=>(dH.l0 k a0 k 0 ([]:List eS)).bind fun (pe:Int×Bool×(List eS))=>some (⟨a0.lp,pa.2.2,pc.2.2,pe.2.2⟩:nG)
def lA.f:Option (Bool):=(iC.f (⟨(⟨#[33,114,58,115]⟩:BA),(⟨#[64,97,58,115]⟩:BA),eE,true⟩:bB)).bind fun ta=>cond (decide (ta=(⟨#[109,32,33,114,58,115,32,64,97,58,115,32,32,49]⟩:BA))) ((jt.f (⟨#[33,114,58,115]⟩:BA)).bind fun tc=>cond (decide (tc=(⟨#[116,32,33,114,58,115]⟩:BA))) ((jI.f (⟨#[64,97,58,115]⟩:BA)).bind fun te=>some (decide (te=(⟨#[112,32,64,97,58,115]⟩:BA)))) (some false)) (some false)
def wx.l1 (k:Nat) (a2:List ak):Nat→Int→dQ→aO→kb→cC→cJ→cI→Option ((Int×Bool×dQ×aO×kb×cC×cJ×cI) ⊕ (Bool))
 | 0,_,_,_,_,_,_,_=>none
 | ja+1,xc,xd,xe,xf,xg,xi,xj=>cond (decide (xc<(a2.length:Int))) (cond (decide (xc<10)) (an ((0:Int)≤xc∧xc<(a2.length:Int)) ((kU.f k (ak.K.at a2 xc)).bind fun ta=>(mw.f k (⟨xe,xf,xg,xi,xj⟩:Src) (⟨xd.fV,xd.fM,xd.fT,xd.fP,xd.fL,xd.aV⟩:dQ) ta).bind fun tc=>cond (!tc.2.1) (some (.inr false)) (wx.l1 k a2 ja (av (xc+1)) (⟨tc.1.fV,tc.1.fM,tc.1.fT,tc.1.fP,tc.1.fL,tc.1.aV⟩:dQ) tc.2.2.dx tc.2.2.aB tc.2.2.aw tc.2.2.bq tc.2.2.jE))) (some (.inl (xc,decide (xc<10),(⟨xd.fV,xd.fM,xd.fT,xd.fP,xd.fL,xd.aV⟩:dQ),xe,xf,xg,xi,xj)))) (some (.inl (xc,false,(⟨xd.fV,xd.fM,xd.fT,xd.fP,xd.fL,xd.aV⟩:dQ),xe,xf,xg,xi,xj)))
def bx.l0 (k:Nat) (a0:List BA) (a1:List BA):Nat→Int→Option ((Int×Bool) ⊕ (Bool))
 | 0,_=>none
 | ja+1,xc=>cond (decide (xc<(a0.length:Int))) (an ((0:Int)≤xc∧xc<(a0.length:Int)) (an ((0:Int)≤xc∧xc<(a1.length:Int)) (cond (!decide ((aE.at a0 xc)=(aE.at a1 xc))) (some (.inr false)) (bx.l0 k a0 a1 ja (av (xc+1)))))) (some (.inl (xc,decide (xc<(a0.length:Int)))))
def bx.f (k:Nat) (a0:List BA) (a1:List BA):Option (Bool):=cond ((a0.length:Int) != (a1.length:Int)) (some false) ((bx.l0 k a0 a1 k 0).bind (fall fun pa=>some true))
def jo.f (k:Nat) (a0:eC) (a1:eC):Option (Bool):=cond (decide (a0.aa=a1.aa)) ((bx.f k a0.ly a1.ly).bind fun ta=>some ta) (some false)
def bM.l0 (k:Nat) (a0:List eV) (a1:List eV):Nat→Int→Option ((Int×Bool) ⊕ (Bool))
 | 0,_=>none
 | ja+1,xc=>cond (decide (xc<(a0.length:Int))) (an ((0:Int)≤xc∧xc<(a0.length:Int)) (an ((0:Int)≤xc∧xc<(a1.length:Int)) (cond (!decide ((⟨(eV.K.at a0 xc).bY,(eV.K.at a0 xc).gF⟩:eV)=(⟨(eV.K.at a1 xc).bY,(eV.K.at a1 xc).gF⟩:eV))) (some (.inr false)) (bM.l0 k a0 a1 ja (av (xc+1)))))) (some (.inl (xc,decide (xc<(a0.length:Int)))))
def bM.f (k:Nat) (a0:List eV) (a1:List eV):Option (Bool):=cond ((a0.length:Int) != (a1.length:Int)) (some false) ((bM.l0 k a0 a1 k 0).bind (fall fun pa=>some true))
def aD.l0 (k:Nat) (a0:List eC) (a1:List eC) (a2:eC→eC→Option Bool):Nat→Int→Option ((Int×Bool) ⊕ (Bool))
 | 0,_=>none
 | ja+1,xc=>cond (decide (xc<(a0.length:Int))) (an ((0:Int)≤xc∧xc<(a0.length:Int)) (an ((0:Int)≤xc∧xc<(a1.length:Int)) ((a2 (eC.K.at a0 xc) (eC.K.at a1 xc)).bind fun ta=>cond (!ta) (some (.inr false)) (aD.l0 k a0 a1 a2 ja (av (xc+1)))))) (some (.inl (xc,decide (xc<(a0.length:Int)))))
def aD.f (k:Nat) (a0:List eC) (a1:List eC) (a2:eC→eC→Option Bool):Option (Bool):=cond ((a0.length:Int) != (a1.length:Int)) (some false) ((aD.l0 k a0 a1 a2 k 0).bind (fall fun pa=>some true))
def bA.l0 (k:Nat) (a0:List eS) (a1:List eS):Nat→Int→Option ((Int×Bool) ⊕ (Bool))
 | 0,_=>none
 | ja+1,xc=>cond (decide (xc<(a0.length:Int))) (an ((0:Int)≤xc∧xc<(a0.length:Int)) (an ((0:Int)≤xc∧xc<(a1.length:Int)) (cond (!decide (eS.K.at a0 xc=eS.K.at a1 xc)) (some (.inr false)) (bA.l0 k a0 a1 ja (av (xc+1)))))) (some (.inl (xc,decide (xc<(a0.length:Int)))))
def bA.f (k:Nat) (a0:List eS) (a1:List eS):Option (Bool):=cond ((a0.length:Int) != (a1.length:Int)) (some false) ((bA.l0 k a0 a1 k 0).bind (fall fun pa=>some true))
def de.f (k:Nat) (a0:tC) (a1:tC):Option (Bool):=(bM.f k a0.aB a1.aB).bind fun ta=>cond ta ((aD.f k a0.aw a1.aw (jo.f k)).bind fun tc=>cond tc ((bA.f k a0.bK a1.bK).bind fun te=>some te) (some false)) (some false)
def dC.l0 (k:Nat) (a2:List ak):Nat→Int→dQ→aO→kb→cC→cJ→cI→Option ((Int×Bool×dQ×aO×kb×cC×cJ×cI) ⊕ (Bool))
 | 0,_,_,_,_,_,_,_=>none
 | ja+1,xc,xd,xe,xf,xg,xi,xj=>cond (decide (xc<(a2.length:Int))) (cond (decide (xc<8)) (an ((0:Int)≤xc∧xc<(a2.length:Int)) ((kU.f k (ak.K.at a2 xc)).bind fun ta=>(mw.f k (⟨xe,xf,xg,xi,xj⟩:Src) (⟨xd.fV,xd.fM,xd.fT,xd.fP,xd.fL,xd.aV⟩:dQ) ta).bind fun tc=>cond (!tc.2.1) (some (.inr false)) (dC.l0 k a2 ja (av (xc+1)) (⟨tc.1.fV,tc.1.fM,tc.1.fT,tc.1.fP,tc.1.fL,tc.1.aV⟩:dQ) tc.2.2.dx tc.2.2.aB tc.2.2.aw tc.2.2.bq tc.2.2.jE))) (some (.inl (xc,decide (xc<8),(⟨xd.fV,xd.fM,xd.fT,xd.fP,xd.fL,xd.aV⟩:dQ),xe,xf,xg,xi,xj)))) (some (.inl (xc,false,(⟨xd.fV,xd.fM,xd.fT,xd.fP,xd.fL,xd.aV⟩:dQ),xe,xf,xg,xi,xj)))
def dC.f (k:Nat) (a0:List dt) (a1:List dt) (a2:List ak) (a3:Int) (a4:Int) (a5:Int):Option (Bool):=(oM.f k a0 a1).bind fun ta=>(gB.f k ta 0).bind fun tc=>cond (!tc.2.2) (some false) ((dC.l0 k a2 k 0 (⟨tc.2.1.fV,tc.2.1.fM,tc.2.1.fT,tc.2.1.fP,tc.2.1.fL,tc.2.1.aV⟩:dQ) tc.1.dx tc.1.aB tc.1.aw tc.1.bq tc.1.jE).bind (fall fun pa=>(fb.f a3).bind fun te=>(aS.f a4 (av ((pa.2.2.1.fL.length:Int)+1))).bind fun tg=>(aS.f a5 200).bind fun tj=>(sync_Make.f k (⟨pa.2.2.2.1,pa.2.2.2.2.1,pa.2.2.2.2.2.1,pa.2.2.2.2.2.2.1,pa.2.2.2.2.2.2.2⟩:Src) te tg tj).bind fun tm=>(fb.f a4).bind fun tn=>(aS.f a3 (av ((pa.2.2.1.fL.length:Int)+1))).bind fun tp=>(aS.f a5 100).bind fun tq=>(sync_Make.f k (⟨pa.2.2.2.1,pa.2.2.2.2.1,pa.2.2.2.2.2.1,pa.2.2.2.2.2.2.1,pa.2.2.2.2.2.2.2⟩:Src) tn tp tq).bind fun tu=>(de.f k tm.1 tu.1).bind fun tw=>(dH.f k tm.1).bind fun tx=>(dH.f k tu.1).bind fun tz=>(dq.f k tx tz).bind fun taa=>cond (tw==taa) ((de.f k tm.1 tm.1).bind fun tac=>cond tac ((de.f k tu.1 tm.1).bind fun tad=>(de.f k tm.1 tu.1).bind fun tae=>cond (tad==tae) ((lA.f).bind fun taf=>some taf) (some false)) (some false)) (some false)))
end Go.Proofs.YtfknmdelgepbjaaGreatDoor
