import Derived.Test.YtfknmdelgepbjaaGreatDoorChecked
import Derived.Test.YtfknmdelgepbjaaGreatDoorConQ
import Derived.Test.YtfknmdelgepbjaaGreatDoorConA6
import Derived.Test.YtfknmdelgepbjaaGreatDoorConC4
import Derived.Lib.Join
import Derived.Eval
set_option linter.all false
set_option maxRecDepth 10000
set_option maxHeartbeats 20000000
namespace Go.Proofs.YtfknmdelgepbjaaGreatDoor
open Go Go.Sp Tryz
abbrev U2:=@Tryz.underlying2
abbrev U3:=@Tryz.underlying3
abbrev U4:=@Tryz.underlying4
abbrev U5:=@Tryz.underlying5
abbrev U9:=@Tryz.underlying9
abbrev KF:=@Tryz.underlying22
abbrev fF:=@Tryz.underlying23
abbrev U24:=@Tryz.underlying24
abbrev U25:=@Tryz.underlying25
abbrev U26:=@Tryz.underlying26
abbrev U27:=@Tryz.underlying27
abbrev U28:=@Tryz.underlying28
abbrev KJ:=@Tryz.underlying30
abbrev yj:=@Tryz.underlying31
abbrev JX:=@Tryz.underlying33
abbrev yF:=@Tryz.underlying34
abbrev sg:=@Tryz.underlying35
abbrev U37:=@Tryz.underlying37
abbrev qV:=@Tryz.underlying38
abbrev U40:=@Tryz.underlying40
abbrev Ks:=@Tryz.underlying41
abbrev AL:=@Tryz.underlying43
abbrev py:=@Tryz.underlying46
abbrev ir:=@Tryz.underlying52
abbrev Ky:=@Tryz.underlying55
abbrev IB:=@Tryz.underlying56
abbrev KE:=@Tryz.underlying57
abbrev KA:=@Tryz.underlying59
abbrev eh:=@Tryz.underlying72
abbrev U79:=@Tryz.underlying79
abbrev yr:=@Tryz.underlying81
abbrev Gy:=@Tryz.underlying83
abbrev J2:=@Tryz.underlying89
abbrev CP:=@Tryz.underlying91
abbrev I6:=@Tryz.underlying94
abbrev U96:=@Tryz.underlying96
abbrev km:=@Tryz.underlying110
abbrev lI:=@Tryz.underlying113
abbrev HS:=@Tryz.underlying116
abbrev AO:=@Tryz.underlying118
abbrev Ab:=@Tryz.underlying120
abbrev U171:=@Tryz.underlying171
abbrev U174:=@Tryz.underlying174
abbrev Jv:=@Tryz.underlying177
abbrev U178:=@Tryz.underlying178
abbrev s7:=@Tryz.underlying181
abbrev GH:=@Tryz.underlying183
abbrev CW:=@Tryz.underlying184
abbrev Ke:=@Tryz.underlying186
abbrev U187:=@Tryz.underlying187
abbrev JO:=@Tryz.underlying190
abbrev JQ:=@Tryz.underlying192
abbrev U193:=@Tryz.underlying193
abbrev xL:=@Tryz.underlying198
abbrev Km:=@Tryz.underlying201
abbrev Hn:=@Tryz.underlying234
abbrev Ii:=@Tryz.underlying247
abbrev Gl:=@Tryz.underlying248
abbrev U250:=@Tryz.underlying250
abbrev U255:=@Tryz.underlying255
abbrev JB:=@Tryz.underlying257
abbrev ot:=@Tryz.underlying259
abbrev JA:=@Tryz.underlying261
abbrev vT:=@Tryz.underlying263
abbrev Jq:=@Tryz.underlying265
abbrev U266:=@Tryz.underlying266
abbrev ID:=@Tryz.underlying268
abbrev U273:=@Tryz.underlying273
abbrev jA:=@Tryz.underlying282
abbrev JM:=@Tryz.underlying294
abbrev nu:=@Tryz.underlying299
abbrev U303:=@Tryz.underlying303
abbrev U335:=@Tryz.underlying335
abbrev U336:=@Tryz.underlying336
abbrev U382:=@Tryz.underlying382
abbrev FO:=@Tryz.underlying384
abbrev mX:=@Tryz.checked.mixed
def CA:List Nat:=[10,100,101,102,103,104,105,106,107,108,109,11,110,111,112,113,114,115,116,117,118,119,12,120,121,122,123,124,125,128,129,13,130,132,134,135,136,137,138,139,14,140,141,142,143,144,145,146,147,148,149,15,150,151,152,153,154,155,156,157,158,159,16,160,161,165,166,167,168,169,17,172,173,174,175,176,177,178,179,18,180,181,182,19,193,20,21,211,212,213,214,215,216,217,218,219,22,220,221,222,223,224,225,226,229,23,230,231,232,233,235,236,239,24,240,241,242,25,254,255,256,257,26,261,262,263,269,27,270,271,276,277,278,279,28,281,285,29,295,296,297,30,31,32,33,34,35,36,37,38,39,40,41,42,43,44,45,46,47,48,49,50,51,52,53,54,55,56,57,58,59,60,62,63,65,66,68,69,70,71,72,73,74,75,76,77,78,79,8,80,81,82,83,84,85,86,87,88,89,9,90,91,92,93,94,95,96,97,98,99]
theorem cL (n:Nat) (h:CA.contains n=true:=by kernel_rfl):eT prog n=true:=List.all_eq_true.1 (show CA.all (fun n=>eT prog n)=true by kernel_rfl) n (List.contains_iff_mem.1 h)
theorem mK:prog.cellsOf 110=6:=kr
theorem nw:prog.cellsOf 113=2:=kr
theorem Hy:prog.cellsOf 116=6:=kr
theorem GS:prog.cellsOf 118=3:=kr
theorem FM:prog.cellsOf 120=4:=kr
theorem c171:prog.cellsOf 171=1:=kr
theorem HA:prog.cellsOf 174=1:=kr
theorem c178:prog.cellsOf 178=1:=kr
theorem c181:prog.cellsOf 181=1:=kr
theorem Ge:prog.cellsOf 184=1:=kr
theorem c187:prog.cellsOf 187=1:=kr
theorem yP:prog.cellsOf 198=4:=kr
theorem c2:prog.cellsOf 2=1:=kr
theorem c201:prog.cellsOf 201=1:=kr
theorem c23:prog.cellsOf 23=1:=kr
theorem c248:prog.cellsOf 248=1:=kr
theorem c255:prog.cellsOf 255=1:=kr
theorem c259:prog.cellsOf 259=1:=kr
theorem c263:prog.cellsOf 263=1:=kr
theorem c294:prog.cellsOf 294=5:=kr
theorem nL:prog.cellsOf 299=2:=kr
theorem c3:prog.cellsOf 3=1:=kr
theorem c30:prog.cellsOf 30=5:=kr
theorem c33:prog.cellsOf 33=1:=kr
theorem c335:prog.cellsOf 335=1:=kr
theorem c34:prog.cellsOf 34=1:=kr
theorem c35:prog.cellsOf 35=1:=kr
theorem c37:prog.cellsOf 37=2:=kr
theorem c38:prog.cellsOf 38=1:=kr
theorem c4:prog.cellsOf 4=1:=kr
theorem c40:prog.cellsOf 40=2:=kr
theorem c41:prog.cellsOf 41=1:=kr
theorem En:prog.cellsOf 43=8:=kr
theorem c5:prog.cellsOf 5=1:=kr
theorem iW:prog.cellsOf 52=11:=kr
theorem c55:prog.cellsOf 55=1:=kr
theorem c56:prog.cellsOf 56=1:=kr
theorem c57:prog.cellsOf 57=1:=kr
theorem c59:prog.cellsOf 59=4:=kr
theorem c72:prog.cellsOf 72=1:=kr
theorem KH:prog.cellsOf 79=4:=kr
theorem B1:prog.cellsOf 81=2:=kr
theorem JH:prog.cellsOf 83=6:=kr
theorem c89:prog.cellsOf 89=4:=kr
theorem c9:prog.cellsOf 9=1:=kr
theorem DS:prog.cellsOf 91=6:=kr
theorem c94:prog.cellsOf 94=2:=kr
theorem c96:prog.cellsOf 96=2:=kr
theorem Bt:prog.concrete 141=true:=kr
theorem rO:prog.concrete 143=true:=kr
theorem Jb:prog.concrete 89=true:=kr
theorem eg294:prog.eqGuardType prog.depth 294=false:=kr
theorem HH:prog.eqGuardType prog.depth 52=false:=kr
theorem eg79:prog.eqGuardType prog.depth 79=false:=kr
theorem uO:∃ i,prog.info? 110=some i∧i.size=6∧i.zero=some (.agg #[.string ⟨#[]⟩,.string ⟨#[]⟩,.slice none 0 0,.string ⟨#[]⟩,.string ⟨#[]⟩,.int .i64 0])∧i.bytes=96:=lD kr kr kr
theorem Bp:∃ i,prog.info? 113=some i∧i.size=2∧i.zero=some (.agg #[.string ⟨#[]⟩,.slice none 0 0])∧i.bytes=40:=lD kr kr kr
theorem D7:∃ i,prog.info? 116=some i∧i.size=6∧i.zero=some (.agg #[.int .i64 0,.string ⟨#[]⟩,.string ⟨#[]⟩,.string ⟨#[]⟩,.bool false,.string ⟨#[]⟩])∧i.bytes=80:=lD kr kr kr
theorem J9:∃ i,prog.info? 299=some i∧i.size=2∧i.zero=some (.agg #[.int .i64 0,.string ⟨#[]⟩])∧i.bytes=24:=lD kr kr kr
theorem GO:∃ i,prog.info? 3=some i∧i.size=1∧i.zero=some (.int .i64 0)∧i.bytes=8:=lD kr kr kr
theorem Aa:∃ i,prog.info? 4=some i∧i.size=1∧i.zero=some (.bool false)∧i.bytes=1:=lD kr kr kr
theorem rG:∃ i,prog.info? 5=some i∧i.size=1∧i.zero=some (.int .u8 0)∧i.bytes=1:=lD kr kr kr
theorem nt:∃ i,prog.info? 52=some i∧i.size=11∧i.zero=some (.agg #[.int .i64 0,.string ⟨#[]⟩,.string ⟨#[]⟩,.string ⟨#[]⟩,.string ⟨#[]⟩,.bool false,.bool false,.int .i64 0,.int .i64 0,.int .i64 0,.int .i64 0])∧i.bytes=112:=lD kr kr kr
theorem inf81:∃ i,prog.info? 81=some i∧i.size=2∧i.zero=some (.agg #[.int .i64 0,.string ⟨#[]⟩])∧i.bytes=24:=lD kr kr kr
theorem Cy:∃ i,prog.info? 83=some i∧i.size=6∧i.zero=some (.agg #[.string ⟨#[]⟩,.string ⟨#[]⟩,.string ⟨#[]⟩,.bool false,.int .i64 0,.string ⟨#[]⟩])∧i.bytes=80:=lD kr kr kr
theorem xH:∃ i,prog.info? 9=some i∧i.size=1∧i.zero=some (.string ⟨#[]⟩)∧i.bytes=16:=lD kr kr kr
theorem inf91:∃ i,prog.info? 91=some i∧i.size=6∧i.zero=some (.agg #[.string ⟨#[]⟩,.string ⟨#[]⟩,.string ⟨#[]⟩,.bool false,.int .i64 0,.string ⟨#[]⟩])∧i.bytes=80:=lD kr kr kr
theorem inf94:∃ i,prog.info? 94=some i∧i.size=2∧i.zero=some (.agg #[.string ⟨#[]⟩,.slice none 0 0])∧i.bytes=40:=lD kr kr kr
theorem inf96:∃ i,prog.info? 96=some i∧i.size=2∧i.zero=some (.agg #[.string ⟨#[]⟩,.int .i64 0])∧i.bytes=24:=lD kr kr kr
theorem ye:FA prog 110 0 0:=⟨_,_,_,_,km,rfl,U9,c9,dc,rfl⟩
theorem CN:FA prog 110 2 2:=⟨_,_,_,_,km,rfl,eh,c72,dc,rfl⟩
theorem xr:FA prog 110 3 3:=⟨_,_,_,_,km,rfl,U9,c9,dc,rfl⟩
theorem IC:FA prog 110 4 4:=⟨_,_,_,_,km,rfl,U9,c9,dc,rfl⟩
theorem yz:FA prog 110 5 5:=⟨_,_,_,_,km,rfl,U3,c3,dc,rfl⟩
theorem tF:FA prog 113 0 0:=⟨_,_,_,_,lI,rfl,U9,c9,dc,rfl⟩
theorem Ce:FA prog 177 0 0:=⟨_,_,_,_,Jv,rfl,U174,HA,dc,rfl⟩
theorem HV:FA prog 177 1 1:=⟨_,_,_,_,Jv,rfl,U171,c171,dc,rfl⟩
theorem BV:FA prog 183 0 0:=⟨_,_,_,_,GH,rfl,U178,c178,dc,rfl⟩
theorem mT:FA prog 183 1 1:=⟨_,_,_,_,GH,rfl,eh,c72,dc,rfl⟩
theorem yA:FA prog 183 2 2:=⟨_,_,_,_,GH,rfl,s7,c181,dc,rfl⟩
theorem IF:FA prog 186 0 0:=⟨_,_,_,_,Ke,rfl,CW,Ge,dc,rfl⟩
theorem q7:FA prog 190 0 0:=⟨_,_,_,_,JO,rfl,fF,c23,dc,rfl⟩
theorem Ck:FA prog 190 1 1:=⟨_,_,_,_,JO,rfl,U187,c187,dc,rfl⟩
theorem tR:FA prog 192 0 0:=⟨_,_,_,_,JQ,rfl,fF,c23,dc,rfl⟩
theorem CJ:FA prog 192 1 1:=⟨_,_,_,_,JQ,rfl,U187,c187,dc,rfl⟩
theorem Ik:FA prog 198 0 0:=⟨_,_,_,_,xL,rfl,U3,c3,dc,rfl⟩
theorem GG:FA prog 198 1 1:=⟨_,_,_,_,xL,rfl,U3,c3,dc,rfl⟩
theorem B4:FA prog 198 2 2:=⟨_,_,_,_,xL,rfl,qV,c38,dc,rfl⟩
theorem HG:FA prog 198 3 3:=⟨_,_,_,_,xL,rfl,U3,c3,dc,rfl⟩
theorem GJ:FA prog 247 0 0:=⟨_,_,_,_,Ii,rfl,U3,c3,dc,rfl⟩
theorem o0:FA prog 247 1 1:=⟨_,_,_,_,Ii,rfl,fF,c23,dc,rfl⟩
theorem CL:FA prog 247 2 2:=⟨_,_,_,_,Ii,rfl,U3,c3,dc,rfl⟩
theorem tO:FA prog 250 0 0:=⟨_,_,_,_,U250,rfl,Gl,c248,dc,rfl⟩
theorem wY:FA prog 257 0 0:=⟨_,_,_,_,JB,rfl,U255,c255,dc,rfl⟩
theorem ry:FA prog 257 1 1:=⟨_,_,_,_,JB,rfl,U2,c2,dc,rfl⟩
theorem gT:FA prog 261 0 0:=⟨_,_,_,_,JA,rfl,ot,c259,dc,rfl⟩
theorem tB:FA prog 261 1 1:=⟨_,_,_,_,JA,rfl,s7,c181,dc,rfl⟩
theorem HN:FA prog 265 0 0:=⟨_,_,_,_,Jq,rfl,U9,c9,dc,rfl⟩
theorem tM:FA prog 265 1 1:=⟨_,_,_,_,Jq,rfl,vT,c263,dc,rfl⟩
theorem tL:FA prog 268 0 0:=⟨_,_,_,_,ID,rfl,km,mK,dc,rfl⟩
theorem w9:FA prog 268 1 6:=⟨_,_,_,_,ID,rfl,U3,c3,dc,rfl⟩
theorem Ig:FA prog 268 2 7:=⟨_,_,_,_,ID,rfl,U4,c4,dc,rfl⟩
theorem JF:FA prog 52 6 6:=⟨_,_,_,_,ir,rfl,U4,c4,dc,rfl⟩
theorem Ft:FA prog 83 0 0:=⟨_,_,_,_,Gy,rfl,U79,KH,dc,rfl⟩
theorem D5:FA prog 83 1 4:=⟨_,_,_,_,Gy,rfl,yr,B1,dc,rfl⟩
theorem EX:FA prog 94 0 0:=⟨_,_,_,_,I6,rfl,U9,c9,dc,rfl⟩
theorem Ec:FA prog 94 1 1:=⟨_,_,_,_,I6,rfl,eh,c72,dc,rfl⟩
theorem JY:FA prog 96 0 0:=⟨_,_,_,_,U96,rfl,U9,c9,dc,rfl⟩
theorem sc201:SC prog 201:=⟨_,Km,rfl⟩
theorem Gz:SC prog 3:=⟨_,U3,rfl⟩
theorem IN:SC prog 336:=⟨_,U336,rfl⟩
theorem sc38:SC prog 38:=⟨_,qV,rfl⟩
theorem sc4:SC prog 4:=⟨_,U4,rfl⟩
theorem H3:SC prog 72:=⟨_,eh,rfl⟩
theorem o9:SC prog 9:=⟨_,U9,rfl⟩
theorem Gd:SG prog 110 6:=⟨_,km,rfl,mK⟩
theorem Fq:SG prog 113 2:=⟨_,lI,rfl,nw⟩
theorem vP:SG prog 52 11:=⟨_,ir,rfl,iW⟩
theorem sg79:SG prog 79 4:=⟨_,U79,rfl,KH⟩
theorem sg81:SG prog 81 2:=⟨_,yr,rfl,B1⟩
theorem sg91:SG prog 91 6:=⟨_,CP,rfl,DS⟩
theorem sz113:SZ prog 113 2:=⟨_,lI,nw⟩
theorem sz118:SZ prog 118 3:=⟨_,AO,GS⟩
theorem q8:SZ prog 23 1:=⟨_,fF,c23⟩
theorem I2:SZ prog 259 1:=⟨_,ot,c259⟩
theorem sz30:SZ prog 30 5:=⟨_,KJ,c30⟩
theorem sz33:SZ prog 33 1:=⟨_,JX,c33⟩
theorem sz34:SZ prog 34 1:=⟨_,yF,c34⟩
theorem AA:SZ prog 35 1:=⟨_,sg,c35⟩
theorem Js:SZ prog 38 1:=⟨_,qV,c38⟩
theorem sz41:SZ prog 41 1:=⟨_,Ks,c41⟩
theorem H8:SZ prog 43 8:=⟨_,AL,En⟩
theorem sz55:SZ prog 55 1:=⟨_,Ky,c55⟩
theorem sz56:SZ prog 56 1:=⟨_,IB,c56⟩
theorem sz57:SZ prog 57 1:=⟨_,KE,c57⟩
theorem HZ:SZ prog 72 1:=⟨_,eh,c72⟩
theorem Eu:SZ prog 81 2:=⟨_,yr,B1⟩
theorem sz9:SZ prog 9 1:=⟨_,U9,c9⟩
theorem yM:SZ prog 91 6:=⟨_,CP,DS⟩
theorem Ez:kH prog 110=true:=kr
theorem FC:kH prog 113=true:=kr
theorem Ei:kH prog 116=true:=kr
theorem FU:kH prog 118=true:=kr
theorem D9:kH prog 120=true:=kr
theorem pl177:kH prog 177=true:=kr
theorem pl183:kH prog 183=true:=kr
theorem pl186:kH prog 186=true:=kr
theorem pl190:kH prog 190=true:=kr
theorem pl192:kH prog 192=true:=kr
theorem pl247:kH prog 247=true:=kr
theorem pl250:kH prog 250=true:=kr
theorem pl257:kH prog 257=true:=kr
theorem pl261:kH prog 261=true:=kr
theorem pl265:kH prog 265=true:=kr
theorem pl268:kH prog 268=true:=kr
theorem pl294:kH prog 294=true:=kr
theorem pl299:kH prog 299=true:=kr
theorem pl30:kH prog 30=true:=kr
theorem pl33:kH prog 33=true:=kr
theorem G4:kH prog 43=true:=kr
theorem Bk:kH prog 52=true:=kr
theorem J6:kH prog 59=true:=kr
theorem pl79:kH prog 79=true:=kr
theorem FD:kH prog 81=true:=kr
theorem pl83:kH prog 83=true:=kr
theorem IA:kH prog 89=true:=kr
theorem pl91:kH prog 91=true:=kr
theorem pl94:kH prog 94=true:=kr
theorem pl96:kH prog 96=true:=kr
theorem st294:prog.stoodInHeld 294=false:=kr
theorem st52:prog.stoodInHeld 52=false:=kr
theorem st79:prog.stoodInHeld 79=false:=kr
theorem st89:prog.stoodInHeld 89=false:=kr
theorem xf170:(Extern.findNext Tryz.f170).isNone=true:=kr
theorem xf210:(Extern.findNext Tryz.f210).isNone=true:=kr
theorem xf237:(Extern.findNext Tryz.f237).isNone=true:=kr
theorem xf260:(Extern.findNext Tryz.f260).isNone=true:=kr
theorem xf265:(Extern.findNext Tryz.f265).isNone=true:=kr
theorem xf268:(Extern.findNext Tryz.f268).isNone=true:=kr
theorem xf298:(Extern.findNext Tryz.f298).isNone=true:=kr
theorem xg170:Extern.find Tryz.f170=some (Extern.SlicesOverlaps.overlaps Tryz.f170.params Tryz.f170.resultTypes):=by rfl
theorem xg210:Extern.find Tryz.f210=some Extern.Atomic.storeT:=by rfl
theorem xg237:Extern.find Tryz.f237=some (Extern.Atomic.loadT (.int .i64)):=by rfl
theorem xg260:Extern.find Tryz.f260=some Extern.BytealgCompare.compare:=by rfl
theorem xg265:Extern.find Tryz.f265=some (Extern.Atomic.casT (.int .i64)):=by rfl
theorem xg268:Extern.find Tryz.f268=some Extern.BytealgCount.count:=by rfl
theorem xg298:Extern.find Tryz.f298=some Extern.BytealgIndexByte.indexByte:=by rfl
theorem Di:lR prog 110=some (.agg #[.string ⟨#[]⟩,.string ⟨#[]⟩,.slice none 0 0,.string ⟨#[]⟩,.string ⟨#[]⟩,.int .i64 0]):=kr
theorem BB:lR prog 113=some (.agg #[.string ⟨#[]⟩,.slice none 0 0]):=kr
theorem z116:lR prog 116=some (.agg #[.int .i64 0,.string ⟨#[]⟩,.string ⟨#[]⟩,.string ⟨#[]⟩,.bool false,.string ⟨#[]⟩]):=kr
theorem G8:lR prog 118=some (.agg #[.int .i64 0,.slice none 0 0,.int .i64 0]):=kr
theorem HP:lR prog 120=some (.agg #[.slice none 0 0,.int .i64 0,.slice none 0 0,.int .i64 0]):=kr
theorem z177:lR prog 177=some (.agg #[.pointer none,.pointer none]):=kr
theorem z183:lR prog 183=some (.agg #[.pointer none,.slice none 0 0,.map none]):=kr
theorem z186:lR prog 186=some (.agg #[.map none]):=kr
theorem z190:lR prog 190=some (.agg #[.slice none 0 0,.pointer none]):=kr
theorem z192:lR prog 192=some (.agg #[.slice none 0 0,.pointer none]):=kr
theorem z193:lR prog 193=some (.pointer none):=kr
theorem z201:lR prog 201=some .nilFunc:=kr
theorem z247:lR prog 247=some (.agg #[.int .i64 0,.slice none 0 0,.int .i64 0]):=kr
theorem z250:lR prog 250=some (.agg #[.map none]):=kr
theorem z257:lR prog 257=some (.agg #[.int .i64 0,.int .i64 0]):=kr
theorem z261:lR prog 261=some (.agg #[.slice none 0 0,.map none]):=kr
theorem z265:lR prog 265=some (.agg #[.string ⟨#[]⟩,.map none]):=kr
theorem A7:lR prog 266=some (.pointer none):=kr
theorem z268:lR prog 268=some (.agg #[.string ⟨#[]⟩,.string ⟨#[]⟩,.slice none 0 0,.string ⟨#[]⟩,.string ⟨#[]⟩,.int .i64 0,.int .i64 0,.bool false]):=kr
theorem z294:lR prog 294=some (.agg #[.int .i64 0,.string ⟨#[]⟩,.string ⟨#[]⟩,.string ⟨#[]⟩,.bool false]):=kr
theorem Kw:lR prog 299=some (.agg #[.int .i64 0,.string ⟨#[]⟩]):=kr
theorem z3:lR prog 3=some (.int .i64 0):=kr
theorem z30:lR prog 30=some (.agg #[.pointer none,.pointer none,.pointer none,.pointer none,.pointer none]):=kr
theorem z303:lR prog 303=some (.agg #[.int .i64 0,.int .i64 0]):=kr
theorem z33:lR prog 33=some (.agg #[.slice none 0 0]):=kr
theorem z336:lR prog 336=some .nilFunc:=kr
theorem z37:lR prog 37=some (.agg #[.slice none 0 0,.slice none 0 0]):=kr
theorem z382:lR prog 382=some (.agg #[.nilFunc,.nilFunc,.nilFunc]):=kr
theorem z4:lR prog 4=some (.bool false):=kr
theorem z40:lR prog 40=some (.agg #[.slice none 0 0,.slice none 0 0]):=kr
theorem z43:lR prog 43=some (.agg #[.slice none 0 0,.slice none 0 0,.slice none 0 0,.slice none 0 0,.slice none 0 0,.slice none 0 0,.slice none 0 0,.int .i64 0]):=kr
theorem z5:lR prog 5=some (.int .u8 0):=kr
theorem uW:lR prog 52=some (.agg #[.int .i64 0,.string ⟨#[]⟩,.string ⟨#[]⟩,.string ⟨#[]⟩,.string ⟨#[]⟩,.bool false,.bool false,.int .i64 0,.int .i64 0,.int .i64 0,.int .i64 0]):=kr
theorem z59:lR prog 59=some (.agg #[.int .i64 0,.slice none 0 0,.slice none 0 0,.slice none 0 0]):=kr
theorem z79:lR prog 79=some (.agg #[.string ⟨#[]⟩,.string ⟨#[]⟩,.string ⟨#[]⟩,.bool false]):=kr
theorem IK:lR prog 81=some (.agg #[.int .i64 0,.string ⟨#[]⟩]):=kr
theorem z83:lR prog 83=some (.agg #[.string ⟨#[]⟩,.string ⟨#[]⟩,.string ⟨#[]⟩,.bool false,.int .i64 0,.string ⟨#[]⟩]):=kr
theorem z89:lR prog 89=some (.agg #[.string ⟨#[]⟩,.string ⟨#[]⟩,.string ⟨#[]⟩,.bool false]):=kr
theorem z9:lR prog 9=some (.string ⟨#[]⟩):=kr
theorem z91:lR prog 91=some (.agg #[.string ⟨#[]⟩,.string ⟨#[]⟩,.string ⟨#[]⟩,.bool false,.int .i64 0,.string ⟨#[]⟩]):=kr
theorem z94:lR prog 94=some (.agg #[.string ⟨#[]⟩,.slice none 0 0]):=kr
theorem z96:lR prog 96=some (.agg #[.string ⟨#[]⟩,.int .i64 0]):=kr
theorem uR:ZC prog 110 [eq (.string eE),eq (.string eE),eq (.slice none 0 0),eq (.string eE),eq (.string eE),eq (.int .i64 0)]:=⟨_,Di,rfl⟩
theorem ow:ZC prog 113 [eq (.string eE),eq (.slice none 0 0)]:=⟨_,BB,rfl⟩
theorem zc116:ZC prog 116 [eq (.int .i64 0),eq (.string eE),eq (.string eE),eq (.string eE),eq (.bool false),eq (.string eE)]:=⟨_,z116,rfl⟩
theorem I8:ZC prog 118 [eq (.int .i64 0),eq (.slice none 0 0),eq (.int .i64 0)]:=⟨_,G8,rfl⟩
theorem Jc:ZC prog 120 [eq (.slice none 0 0),eq (.int .i64 0),eq (.slice none 0 0),eq (.int .i64 0)]:=⟨_,HP,rfl⟩
theorem zc294:ZC prog 294 [eq (.int .i64 0),eq (.string eE),eq (.string eE),eq (.string eE),eq (.bool false)]:=⟨_,z294,rfl⟩
theorem Fa:ZC prog 299 [eq (.int .i64 0),eq (.string eE)]:=⟨_,Kw,rfl⟩
theorem JG:ZC prog 30 [eq (.pointer none),eq (.pointer none),eq (.pointer none),eq (.pointer none),eq (.pointer none)]:=⟨_,z30,rfl⟩
theorem II:ZC prog 33 [eq (.slice none 0 0)]:=⟨_,z33,rfl⟩
theorem zc336:ZC prog 336 [eq .nilFunc]:=⟨_,z336,rfl⟩
theorem J1:ZC prog 37 [eq (.slice none 0 0),eq (.slice none 0 0)]:=⟨_,z37,rfl⟩
theorem JT:ZC prog 40 [eq (.slice none 0 0),eq (.slice none 0 0)]:=⟨_,z40,rfl⟩
theorem EY:ZC prog 43 [eq (.slice none 0 0),eq (.slice none 0 0),eq (.slice none 0 0),eq (.slice none 0 0),eq (.slice none 0 0),eq (.slice none 0 0),eq (.slice none 0 0),eq (.int .i64 0)]:=⟨_,z43,rfl⟩
theorem uC:ZC prog 52 [eq (.int .i64 0),eq (.string eE),eq (.string eE),eq (.string eE),eq (.string eE),eq (.bool false),eq (.bool false),eq (.int .i64 0),eq (.int .i64 0),eq (.int .i64 0),eq (.int .i64 0)]:=⟨_,uW,rfl⟩
theorem JI:ZC prog 59 [eq (.int .i64 0),eq (.slice none 0 0),eq (.slice none 0 0),eq (.slice none 0 0)]:=⟨_,z59,rfl⟩
theorem zc79:ZC prog 79 [eq (.string eE),eq (.string eE),eq (.string eE),eq (.bool false)]:=⟨_,z79,rfl⟩
theorem s6:ZC prog 81 [eq (.int .i64 0),eq (.string eE)]:=⟨_,IK,rfl⟩
theorem zc89:ZC prog 89 [eq (.string eE),eq (.string eE),eq (.string eE),eq (.bool false)]:=⟨_,z89,rfl⟩
theorem Ki:ZC prog 91 [eq (.string eE),eq (.string eE),eq (.string eE),eq (.bool false),eq (.int .i64 0),eq (.string eE)]:=⟨_,z91,rfl⟩
structure ai where
 aE:Int
 aa:BA
 ak:BA
 bB:BA
 ag:BA
 au:Bool
 jX:Bool
 bV:Int
 aU:Int
 aQ:Int
 aX:Int
 deriving DecidableEq,Inhabited
abbrev ai.enc (x:ai):Cs:=[eq (.int .i64 x.aE),eq (.string x.aa),eq (.string x.ak),eq (.string x.bB),eq (.string x.ag),eq (.bool x.au),eq (.bool x.jX),eq (.int .i64 x.bV),eq (.int .i64 x.aU),eq (.int .i64 x.aQ),eq (.int .i64 x.aX)]
abbrev ai.K:Kd ai:=⟨11,default,ai.enc,fun _=>rfl,fun _=>(an (aj rfl) (an (aj rfl) (an (aj rfl) (an (aj rfl) (an (aj rfl) (an (aj rfl) (an (aj rfl) (an (aj rfl) (an (aj rfl) (an (aj rfl) (an (aj rfl) b8)))))))))))⟩
structure jB where
 dZ:Int
 fl:List ai
 qG:Int
 deriving DecidableEq,Inhabited
abbrev jB.enc (x:jB):Cs:=[eq (.int .i64 x.dZ),sl ai.K x.fl,eq (.int .i64 x.qG)]
abbrev jB.K:Kd jB:=⟨3,default,jB.enc,fun _=>rfl,fun _=>(an (aj rfl) (an dQ (an (aj rfl) b8)))⟩
structure bz where
 aa:BA
 ak:BA
 ag:BA
 au:Bool
 deriving DecidableEq,Inhabited
abbrev bz.enc (x:bz):Cs:=[eq (.string x.aa),eq (.string x.ak),eq (.string x.ag),eq (.bool x.au)]
abbrev bz.K:Kd bz:=⟨4,default,bz.enc,fun _=>rfl,fun _=>(an (aj rfl) (an (aj rfl) (an (aj rfl) (an (aj rfl) b8))))⟩
structure Pos where
 bJ:Int
 b9:BA
 deriving DecidableEq,Inhabited
abbrev Pos.enc (x:Pos):Cs:=[eq (.int .i64 x.bJ),eq (.string x.b9)]
abbrev Pos.K:Kd Pos:=⟨2,default,Pos.enc,fun _=>rfl,fun _=>(an (aj rfl) (an (aj rfl) b8))⟩
structure jT where
 iE:List (bz×Pos)
 deriving DecidableEq,Inhabited
structure gW where
 p5:jT
 pP:jB
 deriving DecidableEq,Inhabited
structure Bc where
 fv:Int
 deriving DecidableEq,Inhabited
abbrev Bc.enc (x:Bc):Cs:=[eq (.int .i64 x.fv)]
abbrev Bc.K:Kd Bc:=⟨1,default,Bc.enc,fun _=>rfl,fun _=>(an (aj rfl) b8)⟩
structure kJ where
 fn:Bc
 dZ:Int
 deriving DecidableEq,Inhabited
abbrev kJ.enc (x:kJ):Cs:=[eq (.int .i64 x.fn.fv),eq (.int .i64 x.dZ)]
abbrev kJ.K:Kd kJ:=⟨2,default,kJ.enc,fun _=>rfl,fun _=>(an (aj rfl) (an (aj rfl) b8))⟩
structure S where
 deriving DecidableEq,Inhabited
abbrev S.enc (x:S):Cs:=[]
abbrev S.K:Kd S:=⟨0,default,S.enc,fun _=>rfl,fun _=>b8⟩
structure bK where
 iE:kJ
 eJ:List BA
 nX:List (BA×Int)
 deriving DecidableEq,Inhabited
structure Event where
 b9:BA
 aa:BA
 ae:List BA
 ag:BA
 ak:BA
 bL:Int
 deriving DecidableEq,Inhabited
abbrev Event.enc (x:Event):Cs:=[eq (.string x.b9),eq (.string x.aa),sl aC x.ae,eq (.string x.ag),eq (.string x.ak),eq (.int .i64 x.bL)]
abbrev Event.K:Kd Event:=⟨6,default,Event.enc,fun _=>rfl,fun _=>(an (aj rfl) (an (aj rfl) (an dQ (an (aj rfl) (an (aj rfl) (an (aj rfl) b8))))))⟩
structure aT where
 fe:Event
 cI:Int
 kB:Bool
 deriving DecidableEq,Inhabited
abbrev aT.enc (x:aT):Cs:=[eq (.string x.fe.b9),eq (.string x.fe.aa),sl aC x.fe.ae,eq (.string x.fe.ag),eq (.string x.fe.ak),eq (.int .i64 x.fe.bL),eq (.int .i64 x.cI),eq (.bool x.kB)]
abbrev aT.K:Kd aT:=⟨8,default,aT.enc,fun _=>rfl,fun _=>(an (aj rfl) (an (aj rfl) (an dQ (an (aj rfl) (an (aj rfl) (an (aj rfl) (an (aj rfl) (an (aj rfl) b8))))))))⟩
structure bf where
 cM:BA
 ar:List (BA×aT)
 deriving DecidableEq,Inhabited
structure aH where
 bx:List (BA×bf)
 deriving DecidableEq,Inhabited
structure db where
 kS:Int
 dI:BA
 deriving DecidableEq,Inhabited
abbrev db.enc (x:db):Cs:=[eq (.int .i64 x.kS),eq (.string x.dI)]
abbrev db.K:Kd db:=⟨2,default,db.enc,fun _=>rfl,fun _=>(an (aj rfl) (an (aj rfl) b8))⟩
structure aM where
 fl:List db
 iE:List (BA×Int)
 deriving DecidableEq,Inhabited
structure bH where
 fl:List ai
 gB:aM
 deriving DecidableEq,Inhabited
structure bM where
 fl:List ai
 eU:aM
 deriving DecidableEq,Inhabited
structure aF where
 aa:BA
 fL:List Event
 deriving DecidableEq,Inhabited
abbrev aF.enc (x:aF):Cs:=[eq (.string x.aa),sl Event.K x.fL]
abbrev aF.K:Kd aF:=⟨2,default,aF.enc,fun _=>rfl,fun _=>(an (aj rfl) (an dQ b8))⟩
structure bq where
 fD:List aF
 deriving DecidableEq,Inhabited
abbrev bq.enc (x:bq):Cs:=[sl aF.K x.fD]
abbrev bq.K:Kd bq:=⟨1,default,bq.enc,fun _=>rfl,fun _=>(an dQ b8)⟩
structure Src where
 cK:aH
 bu:gW
 aW:bH
 aY:bM
 gG:bK
 deriving DecidableEq,Inhabited
structure MK where
 fK:bz
 kS:Pos
 deriving DecidableEq,Inhabited
abbrev MK.enc (x:MK):Cs:=[eq (.string x.fK.aa),eq (.string x.fK.ak),eq (.string x.fK.ag),eq (.bool x.fK.au),eq (.int .i64 x.kS.bJ),eq (.string x.kS.b9)]
abbrev MK.K:Kd MK:=⟨6,default,MK.enc,fun _=>rfl,fun _=>(an (aj rfl) (an (aj rfl) (an (aj rfl) (an (aj rfl) (an (aj rfl) (an (aj rfl) b8))))))⟩
structure jO where
 fL:List ai
 cQ:List Bool
 deriving DecidableEq,Inhabited
abbrev jO.enc (x:jO):Cs:=[sl ai.K x.fL,sl bR x.cQ]
abbrev jO.K:Kd jO:=⟨2,default,jO.enc,fun _=>rfl,fun _=>(an dQ (an dQ b8))⟩
structure kA where
 fL:List ai
 cQ:List Int
 deriving DecidableEq,Inhabited
abbrev kA.enc (x:kA):Cs:=[sl ai.K x.fL,sl (bp .i64) x.cQ]
abbrev kA.K:Kd kA:=⟨2,default,kA.enc,fun _=>rfl,fun _=>(an dQ (an dQ b8))⟩
structure ig where
 aE:Int
 fK:bz
 jG:BA
 deriving DecidableEq,Inhabited
abbrev ig.enc (x:ig):Cs:=[eq (.int .i64 x.aE),eq (.string x.fK.aa),eq (.string x.fK.ak),eq (.string x.fK.ag),eq (.bool x.fK.au),eq (.string x.jG)]
abbrev ig.K:Kd ig:=⟨6,default,ig.enc,fun _=>rfl,fun _=>(an (aj rfl) (an (aj rfl) (an (aj rfl) (an (aj rfl) (an (aj rfl) (an (aj rfl) b8))))))⟩
structure dE where
 fV:bq
 fM:List MK
 fT:jO
 fP:kA
 fL:List ig
 aP:Int
 deriving DecidableEq,Inhabited
abbrev dE.enc (x:dE):Cs:=[sl aF.K x.fV.fD,sl MK.K x.fM,sl ai.K x.fT.fL,sl bR x.fT.cQ,sl ai.K x.fP.fL,sl (bp .i64) x.fP.cQ,sl ig.K x.fL,eq (.int .i64 x.aP)]
abbrev dE.K:Kd dE:=⟨8,default,dE.enc,fun _=>rfl,fun _=>(an dQ (an dQ (an dQ (an dQ (an dQ (an dQ (an dQ (an (aj rfl) b8))))))))⟩
structure de where
 ak:Int
 bL:Int
 ae:List Int
 ag:Int
 deriving DecidableEq,Inhabited
abbrev de.enc (x:de):Cs:=[eq (.int .i64 x.ak),eq (.int .i64 x.bL),sl (bp .i64) x.ae,eq (.int .i64 x.ag)]
abbrev de.K:Kd de:=⟨4,default,de.enc,fun _=>rfl,fun _=>(an (aj rfl) (an (aj rfl) (an dQ (an (aj rfl) b8))))⟩
structure mI where
 nS:Int
 fL:List ai
 o5:Int
 deriving DecidableEq,Inhabited
abbrev mI.enc (x:mI):Cs:=[eq (.int .i64 x.nS),sl ai.K x.fL,eq (.int .i64 x.o5)]
abbrev mI.K:Kd mI:=⟨3,default,mI.enc,fun _=>rfl,fun _=>(an (aj rfl) (an dQ (an (aj rfl) b8)))⟩
structure pO where
 fL:List MK
 fP:mI
 deriving DecidableEq,Inhabited
abbrev pO.enc (x:pO):Cs:=[sl MK.K x.fL,eq (.int .i64 x.fP.nS),sl ai.K x.fP.fL,eq (.int .i64 x.fP.o5)]
abbrev pO.K:Kd pO:=⟨4,default,pO.enc,fun _=>rfl,fun _=>(an dQ (an (aj rfl) (an dQ (an (aj rfl) b8))))⟩
structure uB where
 aE:Int
 aa:BA
 ak:BA
 ag:BA
 au:Bool
 deriving DecidableEq,Inhabited
abbrev uB.enc (x:uB):Cs:=[eq (.int .i64 x.aE),eq (.string x.aa),eq (.string x.ak),eq (.string x.ag),eq (.bool x.au)]
abbrev uB.K:Kd uB:=⟨5,default,uB.enc,fun _=>rfl,fun _=>(an (aj rfl) (an (aj rfl) (an (aj rfl) (an (aj rfl) (an (aj rfl) b8)))))⟩
structure jZ where
 dI:bz
 kS:Pos
 deriving DecidableEq,Inhabited
abbrev jZ.enc (x:jZ):Cs:=[eq (.string x.dI.aa),eq (.string x.dI.ak),eq (.string x.dI.ag),eq (.bool x.dI.au),eq (.int .i64 x.kS.bJ),eq (.string x.kS.b9)]
abbrev jZ.K:Kd jZ:=⟨6,default,jZ.enc,fun _=>rfl,fun _=>(an (aj rfl) (an (aj rfl) (an (aj rfl) (an (aj rfl) (an (aj rfl) (an (aj rfl) b8))))))⟩
structure iF where
 aa:BA
 kT:List BA
 deriving DecidableEq,Inhabited
abbrev iF.enc (x:iF):Cs:=[eq (.string x.aa),sl aC x.kT]
abbrev iF.K:Kd iF:=⟨2,default,iF.enc,fun _=>rfl,fun _=>(an (aj rfl) (an dQ b8))⟩
structure jC where
 ak:BA
 aU:Int
 deriving DecidableEq,Inhabited
abbrev jC.enc (x:jC):Cs:=[eq (.string x.ak),eq (.int .i64 x.aU)]
abbrev jC.K:Kd jC:=⟨2,default,jC.enc,fun _=>rfl,fun _=>(an (aj rfl) (an (aj rfl) b8))⟩
structure tJ where
 sE:Int
 bu:List jZ
 aW:List iF
 nU:List jC
 deriving DecidableEq,Inhabited
abbrev tJ.enc (x:tJ):Cs:=[eq (.int .i64 x.sE),sl jZ.K x.bu,sl iF.K x.aW,sl jC.K x.nU]
abbrev tJ.K:Kd tJ:=⟨4,default,tJ.enc,fun _=>rfl,fun _=>(an (aj rfl) (an dQ (an dQ (an dQ b8))))⟩
structure uF where
 sE:Int
 bu:List MK
 aW:List iF
 nU:List jC
 deriving DecidableEq,Inhabited
abbrev uF.enc (x:uF):Cs:=[eq (.int .i64 x.sE),sl MK.K x.bu,sl iF.K x.aW,sl jC.K x.nU]
abbrev uF.K:Kd uF:=⟨4,default,uF.enc,fun _=>rfl,fun _=>(an (aj rfl) (an dQ (an dQ (an dQ b8))))⟩
inductive jl where
 | nil
 | d89 (x:bz)
 | d141 (x:BA)
 | d143 (x:BA)
 deriving DecidableEq,Inhabited
def jl.p:jl→VP
 | .nil=>eq .nilIface
 | .d89 x=>ifp 89 (agg (bz.enc x))
 | .d141 x=>ifp 141 (eq (.string x))
 | .d143 x=>ifp 143 (eq (.string x))
def jl.g89:jl→Option bz
 | .d89 x=>some x
 | _=>none
def jl.qY:jl→Option BA
 | .d141 x=>some x
 | _=>none
def jl.rb:jl→Option BA
 | .d143 x=>some x
 | _=>none
theorem jl.Im (d:jl):∀ R v w,(jl.p d).p R v→∃ u,(Instr.typeAssert v 20 89 true).run prog w = .ok (.tuple #[u,.bool (jl.g89 d).isSome]) w∧(agg (bz.enc ((jl.g89 d).getD (⟨eE,eE,eE,false⟩:bz)))).p R u:=by
 intro R v w h
 cases d with
 | nil=>obtain rfl:v = .nilIface:=h; exact ⟨.agg #[.string ⟨#[]⟩,.string ⟨#[]⟩,.string ⟨#[]⟩,.bool false],kr,⟨_,rfl,Cs.eqz rfl⟩⟩
 | d89 x=>obtain ⟨u,rfl,h⟩:=h; exact ⟨u,kr,h⟩
 | d141 x=>obtain ⟨u,rfl,h⟩:=h; exact ⟨.agg #[.string ⟨#[]⟩,.string ⟨#[]⟩,.string ⟨#[]⟩,.bool false],kr,⟨_,rfl,Cs.eqz rfl⟩⟩
 | d143 x=>obtain ⟨u,rfl,h⟩:=h; exact ⟨.agg #[.string ⟨#[]⟩,.string ⟨#[]⟩,.string ⟨#[]⟩,.bool false],kr,⟨_,rfl,Cs.eqz rfl⟩⟩
theorem jl.Et (d:jl):∀ R v w,(jl.p d).p R v→∃ u,(Instr.typeAssert v 20 141 true).run prog w = .ok (.tuple #[u,.bool (jl.qY d).isSome]) w∧(eq (.string ((jl.qY d).getD eE))).p R u:=by
 intro R v w h
 cases d with
 | nil=>obtain rfl:v = .nilIface:=h; exact ⟨.string ⟨#[]⟩,kr,rfl⟩
 | d89 x=>obtain ⟨u,rfl,h⟩:=h; exact ⟨.string ⟨#[]⟩,kr,rfl⟩
 | d141 x=>obtain ⟨u,rfl,h⟩:=h; exact ⟨u,kr,h⟩
 | d143 x=>obtain ⟨u,rfl,h⟩:=h; exact ⟨.string ⟨#[]⟩,kr,rfl⟩
theorem jl.FJ (d:jl):∀ R v w,(jl.p d).p R v→∃ u,(Instr.typeAssert v 20 143 true).run prog w = .ok (.tuple #[u,.bool (jl.rb d).isSome]) w∧(eq (.string ((jl.rb d).getD eE))).p R u:=by
 intro R v w h
 cases d with
 | nil=>obtain rfl:v = .nilIface:=h; exact ⟨.string ⟨#[]⟩,kr,rfl⟩
 | d89 x=>obtain ⟨u,rfl,h⟩:=h; exact ⟨.string ⟨#[]⟩,kr,rfl⟩
 | d141 x=>obtain ⟨u,rfl,h⟩:=h; exact ⟨.string ⟨#[]⟩,kr,rfl⟩
 | d143 x=>obtain ⟨u,rfl,h⟩:=h; exact ⟨u,kr,h⟩
def bz.cv (k:bz):List Value:=[.string k.aa,.string k.ak,.string k.ag,.bool k.au]
def bz.kv (k:bz):Value:=.agg (bz.cv k).toArray
theorem bz.kq (k:bz):∀ R u,(agg (bz.enc k)).p R u→u=bz.kv k:=fun _ _ h=>aggq (vs:=bz.cv k) rfl h
theorem eqt89 (x y:bz) {d:Nat} {w:World}:(Op.equalIn (d+2) 89 (.agg [.string x.aa,.string x.ak,.string x.ag,.bool x.au].toArray) (.agg [.string y.aa,.string y.ak,.string y.ag,.bool y.au].toArray)).run prog w = .ok (decide (x=y)) w:=by
 have e:decide (x=y)=((decide (x.aa=y.aa)&&(decide (x.ak=y.ak)&&(decide (x.ag=y.ag)&&(decide (x.au=y.au)&&true))))):=by cases x; cases y; rw [Bool.eq_iff_iff]; simp
 rw [e]
 exact qt J2 st89 (dO dc (aN U9 rfl rfl) (aN U9 rfl rfl) (lY U9) (dO dc (aN U9 rfl rfl) (aN U9 rfl rfl) (lY U9) (dO dc (aN U9 rfl rfl) (aN U9 rfl rfl) (lY U9) (dO dc (aN U4 rfl rfl) (aN U4 rfl rfl) (rE U4) tC))))
theorem CQ:rM prog 89 bz.kv:=yf (fun k=>(bz.cv k).toArray) J2 (fun _=>rfl) (fun k=>(all_cons ⟨⟨_,U9,.inl rfl⟩,_,fun _=>aN U9 rfl rfl⟩ (all_cons ⟨⟨_,U9,.inl rfl⟩,_,fun _=>aN U9 rfl rfl⟩ (all_cons ⟨⟨_,U9,.inl rfl⟩,_,fun _=>aN U9 rfl rfl⟩ (all_cons ⟨⟨_,U4,.inr (.inl rfl)⟩,_,fun _=>aN U4 rfl rfl⟩ all_nil))))) (fun k c w=>nE 2 dc (fun _=>eqt89 k c)) (fun k=>by simp [bz.kv,bz.cv,Instr.sameBits,ym])
theorem eqt79 (x y:bz) {d:Nat} {w:World}:(Op.equalIn (d+2) 79 (.agg [.string x.aa,.string x.ak,.string x.ag,.bool x.au].toArray) (.agg [.string y.aa,.string y.ak,.string y.ag,.bool y.au].toArray)).run prog w = .ok (decide (x=y)) w:=by
 have e:decide (x=y)=((decide (x.aa=y.aa)&&(decide (x.ak=y.ak)&&(decide (x.ag=y.ag)&&(decide (x.au=y.au)&&true))))):=by cases x; cases y; rw [Bool.eq_iff_iff]; simp
 rw [e]
 exact qt U79 st79 (dO dc (aN U9 rfl rfl) (aN U9 rfl rfl) (lY U9) (dO dc (aN U9 rfl rfl) (aN U9 rfl rfl) (lY U9) (dO dc (aN U9 rfl rfl) (aN U9 rfl rfl) (lY U9) (dO dc (aN U4 rfl rfl) (aN U4 rfl rfl) (rE U4) tC))))
theorem Cc (x y:ai) {d:Nat} {w:World}:(Op.equalIn (d+2) 52 (.agg [.int .i64 x.aE,.string x.aa,.string x.ak,.string x.bB,.string x.ag,.bool x.au,.bool x.jX,.int .i64 x.bV,.int .i64 x.aU,.int .i64 x.aQ,.int .i64 x.aX].toArray) (.agg [.int .i64 y.aE,.string y.aa,.string y.ak,.string y.bB,.string y.ag,.bool y.au,.bool y.jX,.int .i64 y.bV,.int .i64 y.aU,.int .i64 y.aQ,.int .i64 y.aX].toArray)).run prog w = .ok (decide (x=y)) w:=by
 have e:decide (x=y)=((decide (x.aE=y.aE)&&(decide (x.aa=y.aa)&&(decide (x.ak=y.ak)&&(decide (x.bB=y.bB)&&(decide (x.ag=y.ag)&&(decide (x.au=y.au)&&(decide (x.jX=y.jX)&&(decide (x.bV=y.bV)&&(decide (x.aU=y.aU)&&(decide (x.aQ=y.aQ)&&(decide (x.aX=y.aX)&&true)))))))))))):=by cases x; cases y; rw [Bool.eq_iff_iff]; simp
 rw [e]
 exact qt ir st52 (dO dc (aN U3 rfl rfl) (aN U3 rfl rfl) (eq_int U3) (dO dc (aN U9 rfl rfl) (aN U9 rfl rfl) (lY U9) (dO dc (aN U9 rfl rfl) (aN U9 rfl rfl) (lY U9) (dO dc (aN U9 rfl rfl) (aN U9 rfl rfl) (lY U9) (dO dc (aN U9 rfl rfl) (aN U9 rfl rfl) (lY U9) (dO dc (aN U4 rfl rfl) (aN U4 rfl rfl) (rE U4) (dO dc (aN U4 rfl rfl) (aN U4 rfl rfl) (rE U4) (dO dc (aN U3 rfl rfl) (aN U3 rfl rfl) (eq_int U3) (dO dc (aN U3 rfl rfl) (aN U3 rfl rfl) (eq_int U3) (dO dc (aN U3 rfl rfl) (aN U3 rfl rfl) (eq_int U3) (dO dc (aN U3 rfl rfl) (aN U3 rfl rfl) (eq_int U3) tC)))))))))))
theorem Kt (x y:uB) {d:Nat} {w:World}:(Op.equalIn (d+2) 294 (.agg [.int .i64 x.aE,.string x.aa,.string x.ak,.string x.ag,.bool x.au].toArray) (.agg [.int .i64 y.aE,.string y.aa,.string y.ak,.string y.ag,.bool y.au].toArray)).run prog w = .ok (decide (x=y)) w:=by
 have e:decide (x=y)=((decide (x.aE=y.aE)&&(decide (x.aa=y.aa)&&(decide (x.ak=y.ak)&&(decide (x.ag=y.ag)&&(decide (x.au=y.au)&&true)))))):=by cases x; cases y; rw [Bool.eq_iff_iff]; simp
 rw [e]
 exact qt JM st294 (dO dc (aN U3 rfl rfl) (aN U3 rfl rfl) (eq_int U3) (dO dc (aN U9 rfl rfl) (aN U9 rfl rfl) (lY U9) (dO dc (aN U9 rfl rfl) (aN U9 rfl rfl) (lY U9) (dO dc (aN U9 rfl rfl) (aN U9 rfl rfl) (lY U9) (dO dc (aN U4 rfl rfl) (aN U4 rfl rfl) (rE U4) tC)))))
def jB.O (p:OV) (m:jB):As:=wB (γ:=Nat×OV) (fun g=>p.1 = .pointer (some ⟨g.1,0,none⟩)) (fun g=>[ay g.1 247 [eq (.int .i64 m.dZ),eq g.2.1,eq (.int .i64 m.qG)],own ai.K g.2.1 m.fl])
theorem jB.iM {l:List As} {p:OV} {m:jB} (j:Nat) (hj:l[j]? = some (jB.O p m)):∀ R w,St R l w→∃ g:Nat×OV,p.1 = .pointer (some ⟨g.1,0,none⟩)∧St R ([ay g.1 247 [eq (.int .i64 m.dZ),eq g.2.1,eq (.int .i64 m.qG)],own ai.K g.2.1 m.fl]++l.eraseIdx j) w:=jW j hj
theorem jB.shut {l r:List As} {p:OV} {m:jB} (g:Nat×OV) (hg:p.1 = .pointer (some ⟨g.1,0,none⟩)) (hp:l.Perm ([ay g.1 247 [eq (.int .i64 m.dZ),eq g.2.1,eq (.int .i64 m.qG)],own ai.K g.2.1 m.fl]++r)):∀ R w,St R l w→∃ _:Unit,True∧St R (jB.O p m::r) w:=ji _ _ g hg hp
def jT.O (p:OV) (m:jT):As:=wB (γ:=Nat×OV) (fun g=>p.1 = .pointer (some ⟨g.1,0,none⟩)) (fun g=>[ay g.1 250 [eq g.2.1],mp bz.kv (fun x:Pos=>agg (Pos.enc x)) g.2.1 m.iE])
theorem jT.iM {l:List As} {p:OV} {m:jT} (j:Nat) (hj:l[j]? = some (jT.O p m)):∀ R w,St R l w→∃ g:Nat×OV,p.1 = .pointer (some ⟨g.1,0,none⟩)∧St R ([ay g.1 250 [eq g.2.1],mp bz.kv (fun x:Pos=>agg (Pos.enc x)) g.2.1 m.iE]++l.eraseIdx j) w:=jW j hj
theorem jT.shut {l r:List As} {p:OV} {m:jT} (g:Nat×OV) (hg:p.1 = .pointer (some ⟨g.1,0,none⟩)) (hp:l.Perm ([ay g.1 250 [eq g.2.1],mp bz.kv (fun x:Pos=>agg (Pos.enc x)) g.2.1 m.iE]++r)):∀ R w,St R l w→∃ _:Unit,True∧St R (jT.O p m::r) w:=ji _ _ g hg hp
def gW.O (p:OV) (m:gW):As:=wB (γ:=Nat×OV×OV) (fun g=>p.1 = .pointer (some ⟨g.1,0,none⟩)) (fun g=>[ay g.1 177 [eq g.2.1.1,eq g.2.2.1],jT.O g.2.1 m.p5,jB.O g.2.2 m.pP])
theorem gW.nn {p:OV} {m:gW}:NN (gW.O p m) p.1:=by unfold gW.O; exact rl (γ:=Nat×OV×OV) (b:=fun g=>g.1)
theorem gW.iM {l:List As} {p:OV} {m:gW} (j:Nat) (hj:l[j]? = some (gW.O p m)):∀ R w,St R l w→∃ g:Nat×OV×OV,p.1 = .pointer (some ⟨g.1,0,none⟩)∧St R ([ay g.1 177 [eq g.2.1.1,eq g.2.2.1],jT.O g.2.1 m.p5,jB.O g.2.2 m.pP]++l.eraseIdx j) w:=jW j hj
theorem gW.shut {l r:List As} {p:OV} {m:gW} (g:Nat×OV×OV) (hg:p.1 = .pointer (some ⟨g.1,0,none⟩)) (hp:l.Perm ([ay g.1 177 [eq g.2.1.1,eq g.2.2.1],jT.O g.2.1 m.p5,jB.O g.2.2 m.pP]++r)):∀ R w,St R l w→∃ _:Unit,True∧St R (gW.O p m::r) w:=ji _ _ g hg hp
def kJ.O (p:OV) (m:kJ):As:=wB (γ:=Nat) (fun g=>p.1 = .pointer (some ⟨g,0,none⟩)) (fun g=>[ay g 257 [eq (.int .i64 m.fn.fv),eq (.int .i64 m.dZ)]])
theorem kJ.nn {p:OV} {m:kJ}:NN (kJ.O p m) p.1:=by unfold kJ.O; exact rl (γ:=Nat) (b:=fun g=>g)
theorem kJ.iM {l:List As} {p:OV} {m:kJ} (j:Nat) (hj:l[j]? = some (kJ.O p m)):∀ R w,St R l w→∃ g:Nat,p.1 = .pointer (some ⟨g,0,none⟩)∧St R ([ay g 257 [eq (.int .i64 m.fn.fv),eq (.int .i64 m.dZ)]]++l.eraseIdx j) w:=jW j hj
theorem kJ.shut {l r:List As} {p:OV} {m:kJ} (g:Nat) (hg:p.1 = .pointer (some ⟨g,0,none⟩)) (hp:l.Perm ([ay g 257 [eq (.int .i64 m.fn.fv),eq (.int .i64 m.dZ)]]++r)):∀ R w,St R l w→∃ _:Unit,True∧St R (kJ.O p m::r) w:=ji _ _ g hg hp
def bK.O (p:OV) (m:bK):As:=wB (γ:=Nat×OV×OV×OV) (fun g=>p.1 = .pointer (some ⟨g.1,0,none⟩)) (fun g=>[ay g.1 183 [eq g.2.1.1,eq g.2.2.1.1,eq g.2.2.2.1],kJ.O g.2.1 m.iE,own aC g.2.2.1.1 m.eJ,mp Value.string (fun x:Int=>eq (.int .i64 x)) g.2.2.2.1 m.nX])
theorem bK.nn {p:OV} {m:bK}:NN (bK.O p m) p.1:=by unfold bK.O; exact rl (γ:=Nat×OV×OV×OV) (b:=fun g=>g.1)
theorem bK.iM {l:List As} {p:OV} {m:bK} (j:Nat) (hj:l[j]? = some (bK.O p m)):∀ R w,St R l w→∃ g:Nat×OV×OV×OV,p.1 = .pointer (some ⟨g.1,0,none⟩)∧St R ([ay g.1 183 [eq g.2.1.1,eq g.2.2.1.1,eq g.2.2.2.1],kJ.O g.2.1 m.iE,own aC g.2.2.1.1 m.eJ,mp Value.string (fun x:Int=>eq (.int .i64 x)) g.2.2.2.1 m.nX]++l.eraseIdx j) w:=jW j hj
theorem bK.shut {l r:List As} {p:OV} {m:bK} (g:Nat×OV×OV×OV) (hg:p.1 = .pointer (some ⟨g.1,0,none⟩)) (hp:l.Perm ([ay g.1 183 [eq g.2.1.1,eq g.2.2.1.1,eq g.2.2.2.1],kJ.O g.2.1 m.iE,own aC g.2.2.1.1 m.eJ,mp Value.string (fun x:Int=>eq (.int .i64 x)) g.2.2.2.1 m.nX]++r)):∀ R w,St R l w→∃ _:Unit,True∧St R (bK.O p m::r) w:=ji _ _ g hg hp
def aT.O (p:OV) (m:aT):As:=wB (γ:=Nat) (fun g=>p.1 = .pointer (some ⟨g,0,none⟩)) (fun g=>[ay g 268 [eq (.string m.fe.b9),eq (.string m.fe.aa),sl aC m.fe.ae,eq (.string m.fe.ag),eq (.string m.fe.ak),eq (.int .i64 m.fe.bL),eq (.int .i64 m.cI),eq (.bool m.kB)]])
theorem aT.nn {p:OV} {m:aT}:NN (aT.O p m) p.1:=by unfold aT.O; exact rl (γ:=Nat) (b:=fun g=>g)
theorem aT.iM {l:List As} {p:OV} {m:aT} (j:Nat) (hj:l[j]? = some (aT.O p m)):∀ R w,St R l w→∃ g:Nat,p.1 = .pointer (some ⟨g,0,none⟩)∧St R ([ay g 268 [eq (.string m.fe.b9),eq (.string m.fe.aa),sl aC m.fe.ae,eq (.string m.fe.ag),eq (.string m.fe.ak),eq (.int .i64 m.fe.bL),eq (.int .i64 m.cI),eq (.bool m.kB)]]++l.eraseIdx j) w:=jW j hj
theorem aT.shut {l r:List As} {p:OV} {m:aT} (g:Nat) (hg:p.1 = .pointer (some ⟨g,0,none⟩)) (hp:l.Perm ([ay g 268 [eq (.string m.fe.b9),eq (.string m.fe.aa),sl aC m.fe.ae,eq (.string m.fe.ag),eq (.string m.fe.ak),eq (.int .i64 m.fe.bL),eq (.int .i64 m.cI),eq (.bool m.kB)]]++r)):∀ R w,St R l w→∃ _:Unit,True∧St R (aT.O p m::r) w:=ji _ _ g hg hp
def bf.O (p:OV) (m:bf):As:=wB (γ:=Nat×OV) (fun g=>p.1 = .pointer (some ⟨g.1,0,none⟩)) (fun g=>[ay g.1 265 [eq (.string m.cM),eq g.2.1],kh Value.string aT.O g.2.1 m.ar])
theorem bf.nn {p:OV} {m:bf}:NN (bf.O p m) p.1:=by unfold bf.O; exact rl (γ:=Nat×OV) (b:=fun g=>g.1)
theorem bf.iM {l:List As} {p:OV} {m:bf} (j:Nat) (hj:l[j]? = some (bf.O p m)):∀ R w,St R l w→∃ g:Nat×OV,p.1 = .pointer (some ⟨g.1,0,none⟩)∧St R ([ay g.1 265 [eq (.string m.cM),eq g.2.1],kh Value.string aT.O g.2.1 m.ar]++l.eraseIdx j) w:=jW j hj
theorem bf.shut {l r:List As} {p:OV} {m:bf} (g:Nat×OV) (hg:p.1 = .pointer (some ⟨g.1,0,none⟩)) (hp:l.Perm ([ay g.1 265 [eq (.string m.cM),eq g.2.1],kh Value.string aT.O g.2.1 m.ar]++r)):∀ R w,St R l w→∃ _:Unit,True∧St R (bf.O p m::r) w:=ji _ _ g hg hp
def aH.O (p:OV) (m:aH):As:=wB (γ:=Nat×OV) (fun g=>p.1 = .pointer (some ⟨g.1,0,none⟩)) (fun g=>[ay g.1 186 [eq g.2.1],kh Value.string bf.O g.2.1 m.bx])
theorem aH.nn {p:OV} {m:aH}:NN (aH.O p m) p.1:=by unfold aH.O; exact rl (γ:=Nat×OV) (b:=fun g=>g.1)
theorem aH.iM {l:List As} {p:OV} {m:aH} (j:Nat) (hj:l[j]? = some (aH.O p m)):∀ R w,St R l w→∃ g:Nat×OV,p.1 = .pointer (some ⟨g.1,0,none⟩)∧St R ([ay g.1 186 [eq g.2.1],kh Value.string bf.O g.2.1 m.bx]++l.eraseIdx j) w:=jW j hj
theorem aH.shut {l r:List As} {p:OV} {m:aH} (g:Nat×OV) (hg:p.1 = .pointer (some ⟨g.1,0,none⟩)) (hp:l.Perm ([ay g.1 186 [eq g.2.1],kh Value.string bf.O g.2.1 m.bx]++r)):∀ R w,St R l w→∃ _:Unit,True∧St R (aH.O p m::r) w:=ji _ _ g hg hp
def aM.O (p:OV) (m:aM):As:=wB (γ:=Nat×OV×OV) (fun g=>p.1 = .pointer (some ⟨g.1,0,none⟩)) (fun g=>[ay g.1 261 [eq g.2.1.1,eq g.2.2.1],own db.K g.2.1.1 m.fl,mp Value.string (fun x:Int=>eq (.int .i64 x)) g.2.2.1 m.iE])
theorem aM.nn {p:OV} {m:aM}:NN (aM.O p m) p.1:=by unfold aM.O; exact rl (γ:=Nat×OV×OV) (b:=fun g=>g.1)
theorem aM.iM {l:List As} {p:OV} {m:aM} (j:Nat) (hj:l[j]? = some (aM.O p m)):∀ R w,St R l w→∃ g:Nat×OV×OV,p.1 = .pointer (some ⟨g.1,0,none⟩)∧St R ([ay g.1 261 [eq g.2.1.1,eq g.2.2.1],own db.K g.2.1.1 m.fl,mp Value.string (fun x:Int=>eq (.int .i64 x)) g.2.2.1 m.iE]++l.eraseIdx j) w:=jW j hj
theorem aM.shut {l r:List As} {p:OV} {m:aM} (g:Nat×OV×OV) (hg:p.1 = .pointer (some ⟨g.1,0,none⟩)) (hp:l.Perm ([ay g.1 261 [eq g.2.1.1,eq g.2.2.1],own db.K g.2.1.1 m.fl,mp Value.string (fun x:Int=>eq (.int .i64 x)) g.2.2.1 m.iE]++r)):∀ R w,St R l w→∃ _:Unit,True∧St R (aM.O p m::r) w:=ji _ _ g hg hp
def bH.O (p:OV) (m:bH):As:=wB (γ:=Nat×OV×OV) (fun g=>p.1 = .pointer (some ⟨g.1,0,none⟩)) (fun g=>[ay g.1 190 [eq g.2.1.1,eq g.2.2.1],own ai.K g.2.1.1 m.fl,aM.O g.2.2 m.gB])
theorem bH.nn {p:OV} {m:bH}:NN (bH.O p m) p.1:=by unfold bH.O; exact rl (γ:=Nat×OV×OV) (b:=fun g=>g.1)
theorem bH.iM {l:List As} {p:OV} {m:bH} (j:Nat) (hj:l[j]? = some (bH.O p m)):∀ R w,St R l w→∃ g:Nat×OV×OV,p.1 = .pointer (some ⟨g.1,0,none⟩)∧St R ([ay g.1 190 [eq g.2.1.1,eq g.2.2.1],own ai.K g.2.1.1 m.fl,aM.O g.2.2 m.gB]++l.eraseIdx j) w:=jW j hj
theorem bH.shut {l r:List As} {p:OV} {m:bH} (g:Nat×OV×OV) (hg:p.1 = .pointer (some ⟨g.1,0,none⟩)) (hp:l.Perm ([ay g.1 190 [eq g.2.1.1,eq g.2.2.1],own ai.K g.2.1.1 m.fl,aM.O g.2.2 m.gB]++r)):∀ R w,St R l w→∃ _:Unit,True∧St R (bH.O p m::r) w:=ji _ _ g hg hp
def bM.O (p:OV) (m:bM):As:=wB (γ:=Nat×OV×OV) (fun g=>p.1 = .pointer (some ⟨g.1,0,none⟩)) (fun g=>[ay g.1 192 [eq g.2.1.1,eq g.2.2.1],own ai.K g.2.1.1 m.fl,aM.O g.2.2 m.eU])
theorem bM.nn {p:OV} {m:bM}:NN (bM.O p m) p.1:=by unfold bM.O; exact rl (γ:=Nat×OV×OV) (b:=fun g=>g.1)
theorem bM.iM {l:List As} {p:OV} {m:bM} (j:Nat) (hj:l[j]? = some (bM.O p m)):∀ R w,St R l w→∃ g:Nat×OV×OV,p.1 = .pointer (some ⟨g.1,0,none⟩)∧St R ([ay g.1 192 [eq g.2.1.1,eq g.2.2.1],own ai.K g.2.1.1 m.fl,aM.O g.2.2 m.eU]++l.eraseIdx j) w:=jW j hj
theorem bM.shut {l r:List As} {p:OV} {m:bM} (g:Nat×OV×OV) (hg:p.1 = .pointer (some ⟨g.1,0,none⟩)) (hp:l.Perm ([ay g.1 192 [eq g.2.1.1,eq g.2.2.1],own ai.K g.2.1.1 m.fl,aM.O g.2.2 m.eU]++r)):∀ R w,St R l w→∃ _:Unit,True∧St R (bM.O p m::r) w:=ji _ _ g hg hp
def jI (g:BA→Option Bool):List VP→VP→Prop:=fun vs ret=>∃ a0 r,g a0=some r∧vs=[eq (.string a0)]∧ret=eq (.bool r)
def fE (X:As) (g:BA→Option Bool):VP:=fnx prog X (jI g)
def pW (g:Int→Option Bool):List VP→VP→Prop:=fun vs ret=>∃ a0 r,g a0=some r∧vs=[eq (.int .u8 a0)]∧ret=eq (.bool r)
def fx (g:Int→Option Bool):VP:=Ih prog (pW g)
def mr:Kd (Int→Option Bool):=⟨1,fun _=>none,fun g=>[fx g],fun _=>rfl,fun _ p h R v hv=>by simp at h; subst h; exact nR R v hv⟩
def pQ (g:Int→Int→Int→Option Bool):List VP→VP→Prop:=fun vs ret=>∃ a0 a1 a2 r,g a0 a1 a2=some r∧vs=[eq (.int .i64 a0),eq (.int .i64 a1),eq (.int .i64 a2)]∧ret=eq (.bool r)
def mR (g:Int→Int→Int→Option Bool):VP:=Ih prog (pQ g)
def lT (g:ai→Option Bool):List VP→VP→Prop:=fun vs ret=>∃ a0 r,g a0=some r∧vs=[agg (ai.enc a0)]∧ret=eq (.bool r)
def jE (g:ai→Option Bool):VP:=Ih prog (lT g)
def ia:Kd (ai→Option Bool):=⟨1,fun _=>none,fun g=>[jE g],fun _=>rfl,fun _ p h R v hv=>by simp at h; subst h; exact nR R v hv⟩
def og (g:ai→ai→Option Int):List VP→VP→Prop:=fun vs ret=>∃ a0 a1 r,g a0 a1=some r∧vs=[agg (ai.enc a0),agg (ai.enc a1)]∧ret=eq (.int .i64 r)
def iZ (g:ai→ai→Option Int):VP:=Ih prog (og g)
def oT (g:ai→BA→Option Int):List VP→VP→Prop:=fun vs ret=>∃ a0 a1 r,g a0 a1=some r∧vs=[agg (ai.enc a0),eq (.string a1)]∧ret=eq (.int .i64 r)
def jQ (g:ai→BA→Option Int):VP:=Ih prog (oT g)
def rF.f (a0:Int):Option ((Option jB)×Int):=cond (decide (a0<1)) (some (none,1)) (cond (decide (1000<a0)) (some (none,1)) (some (some (⟨a0,([]:List ai),0⟩:jB),0)))
def nO.f:Option (jT):=some (⟨([]:List (bz×Pos))⟩:jT)
def oC.f (a0:Int):Option ((Option gW)×Int):=(rF.f a0).bind fun t7=>cond (t7.2 != 0) (some (none,t7.2)) ((nO.f).bind fun t11=>aq (t7.1.isSome=true) (some (some (⟨t11,t7.1.getD default⟩:gW),0)))
def oe.f (a0:Int) (a1:Int):Option ((Option kJ)×Int):=cond (decide (a1<1)) (some (none,1)) (cond (decide (1099511627776<a1)) (some (none,1)) (cond (decide (a0<0)) (some (none,1)) (cond (decide (a1<a0)) (some (none,1)) (some (some (⟨(⟨a0⟩:Bc),a1⟩:kJ),0)))))
def nf.f (a0:Int) (a1:Int):Option ((Option bK)×Int):=(oe.f a0 a1).bind fun t24=>cond (t24.2 != 0) (some (none,t24.2)) (aq (t24.1.isSome=true) (some (some (⟨t24.1.getD default,([]:List BA),([]:List (BA×Int))⟩:bK),0)))
def rh.f:Option (aH):=some (⟨([]:List (BA×bf))⟩:aH)
def oi.f:Option (aM):=some (⟨([]:List db),([]:List (BA×Int))⟩:aM)
def nG.f:Option (bH):=(oi.f).bind fun t35=>some (⟨([]:List ai),t35⟩:bH)
def ly.f:Option (bM):=(oi.f).bind fun t39=>some (⟨([]:List ai),t39⟩:bM)
def tH.f (a0:BA):Option (bf):=some (⟨a0,([]:List (BA×aT))⟩:bf)
def aO.f (a0:aH) (a1:BA):Option bf:=cond (mget a0.bx a1).isSome (some ((mget a0.bx a1).getD default)) (tH.f a1)
def slices_IndexFunc_string.l0 (k:Nat) (a0:List BA) (a1:BA→Option Bool):Nat→Int→Option ((Int×Bool) ⊕ (Int))
 | 0,_=>none
 | j52+1,x46=>cond (decide (x46<(a0.length:Int))) (aq ((0:Int)≤x46∧x46<(a0.length:Int)) ((a1 (aC.at a0 x46)).bind fun t49=>cond t49 (some (.inr x46)) (slices_IndexFunc_string.l0 k a0 a1 j52 (ax (x46+1))))) (some (.inl (x46,decide (x46<(a0.length:Int)))))
def aV.l0 (k:Nat) (a0:List BA) (a1:(BA→Option Bool)):Nat→Int→Option ((Int×Bool) ⊕ (Int))
 | 0,_=>none
 | j61+1,x55=>cond (decide (x55<(a0.length:Int))) (aq ((0:Int)≤x55∧x55<(a0.length:Int)) ((a1 (aC.at a0 x55)).bind fun t58=>cond t58 (some (.inr x55)) (aV.l0 k a0 a1 j61 (ax (x55+1))))) (some (.inl (x55,decide (x55<(a0.length:Int)))))
def aV.f (k:Nat) (a0:List BA) (a1:(BA→Option Bool)):Option (Int):=(aV.l0 k a0 a1 k 0).bind (fall fun p54=>some (-1))
def aB.l0 (k:Nat) (a0:List BA) (a1:(BA→Option Bool)):Nat→Int→Option ((Int×Bool) ⊕ (Int))
 | 0,_=>none
 | j71+1,x64=>cond (decide (x64<(a0.length:Int))) (aq ((0:Int)≤x64∧x64<(a0.length:Int)) ((a1 (a0.getD x64.toNat default)).bind fun t68=>cond t68 (some (.inr x64)) (aB.l0 k a0 a1 j71 (ax (x64+1))))) (some (.inl (x64,decide (x64<(a0.length:Int)))))
def aB.f (k:Nat) (a0:List BA) (a1:(BA→Option Bool)):Option (Int):=(aB.l0 k a0 a1 k 0).bind (fall fun p63=>some (-1))
def cB.f (k:Nat) (a0:List BA) (a1:(BA→Option Bool)):Option (Bool):=(aV.f k a0 a1).bind fun t75=>some (decide (0≤t75))
def cO.f (k:Nat) (a0:List BA) (a1:(BA→Option Bool)):Option (Bool):=(aB.f k a0 a1).bind fun t77=>some (decide (0≤t77))
def fg.f (a0:BA) (a1:BA):Option (Bool):=cond (decide ((a1.size:Int)≤(a0.size:Int))) (aq ((0:Int)≤(a1.size:Int)∧0≤(a1.size:Int).toNat∧(a1.size:Int).toNat≤a0.size) (some (decide ((a0.extract 0 ((a1.size:Int).toNat))=a1)))) (some false)
def ff.f (a0:BA) (a1:BA):Option (BA×Bool):=(fg.f a0 a1).bind fun t81=>cond (!t81) (some (a0,false)) (aq ((0:Int)≤(a1.size:Int)∧(a1.size:Int).toNat≤a0.size∧a0.size≤a0.size) (some (a0.extract (a1.size:Int).toNat a0.size,true)))
def eu.f (a0:BA) (a1:BA):Option (BA×Bool):=(ff.f a0 a1).bind fun t85=>some (t85.1,t85.2)
def iH.f (a0:Int):Option (Bool):=cond (decide (97≤a0)) (cond (decide (a0≤122)) (some true) (cond (decide (48≤a0)) (some (decide (a0≤57))) (some false))) (cond (decide (48≤a0)) (some (decide (a0≤57))) (some false))
def dp.f (a0:BA) (a1:Int):Option (Int):=some (lN a0 a1)
def ij.f (a0:BA) (a1:Int):Option (Int):=(dp.f a0 a1).bind fun t91=>some t91
def ea.f (a0:Int) (c0:BA):Option (Bool):=(iH.f a0).bind fun t93=>cond t93 (some true) ((ij.f c0 a0).bind fun t96=>some (decide (0≤t96)))
def jx.f (a0:BA):Option ((Int→Option Bool)):=some (fun a0_=>ea.f a0_ a0)
def eg.l0 (k:Nat) (a0:BA) (a1:Int) (t99:(Int→Option Bool)) (ta:(Int→Option Bool)) (tc:(Int→Option Bool)):Nat→Int→Option ((Int×Bool) ⊕ (Bool))
 | 0,_=>none
 | ja+1,xa=>cond (decide (xa<(a0.size:Int))) (aq ((0:Int)≤xa∧xa<(a0.size:Int)) (((mr.at ([t99,ta,tc]:List (Int→Option Bool)) a1) (bt a0 xa)).bind fun te=>cond (!te) (some (.inr false)) (eg.l0 k a0 a1 t99 ta tc ja (ax (xa+1))))) (some (.inl (xa,decide (xa<(a0.size:Int)))))
def eg.f (k:Nat) (a0:BA) (a1:Int):Option (Bool):=(jx.f (⟨#[46,45,95]⟩:BA)).bind fun t99=>(jx.f (⟨#[46,45]⟩:BA)).bind fun ta=>(jx.f (⟨#[45,95,65,66,67,68,69,70,71,72,73,74,75,76,77,78,79,80,81,82,83,84,85,86,87,88,89,90]⟩:BA)).bind fun tc=>aq ((0:Int)≤a1∧a1<(3:Int)) ((eg.l0 k a0 a1 t99 ta tc k 0).bind (fall fun pa=>cond (!decide (a0=eE)) (some (decide ((a0.size:Int)≤16))) (some false)))
def ey.f (a0:BA) (a1:BA):Option (Int):=cond ((a1.size:Int)==0) (some 0) (cond (decide (a1=a0)) (some 0) (cond ((a1.size:Int)==1) (aq ((0:Int)≤0∧0<(a1.size:Int)) ((dp.f a0 (bt a1 0)).bind fun ta=>some ta)) (cond (decide ((a0.size:Int)≤(a1.size:Int))) (some (-1)) (none))))
def jF.f (a0:BA) (a1:BA):Option (BA×BA×Bool):=(ey.f a0 a1).bind fun ta=>cond (decide (0≤ta)) (aq ((0:Int)≤ta∧0≤ta.toNat∧ta.toNat≤a0.size) (aq ((0:Int)≤(ax (ta+(a1.size:Int)))∧(ax (ta+(a1.size:Int))).toNat≤a0.size∧a0.size≤a0.size) (some (a0.extract 0 ta.toNat,a0.extract (ax (ta+(a1.size:Int))).toNat a0.size,true)))) (some (a0,eE,false))
def j7.f (a0:BA) (a1:BA):Option (BA×BA×Bool):=(jF.f a0 a1).bind fun ta=>some (ta.1,ta.2.1,ta.2.2)
def lh.f (k:Nat) (a0:BA):Option (Bool):=(eg.f k a0 1).bind fun ta=>cond ta (aq ((0:Int)≤0∧0<(a0.size:Int)) ((iH.f (bt a0 0)).bind fun tc=>cond tc (aq ((0:Int)≤(ax ((a0.size:Int)-1))∧(ax ((a0.size:Int)-1))<(a0.size:Int)) ((iH.f (bt a0 (ax ((a0.size:Int)-1)))).bind fun te=>some te)) (some false))) (some false)
def j9.f (k:Nat) (a0:BA) (a1:BA):Option (BA×BA×Bool):=(eu.f a0 a1).bind fun ta=>(j7.f ta.1 (⟨#[58]⟩:BA)).bind fun tc=>cond ta.2 (cond tc.2.2 ((eg.f k tc.1 0).bind fun te=>cond te ((lh.f k tc.2.1).bind fun tg=>some (tc.1,tc.2.1,tg)) (some (tc.1,tc.2.1,false))) (some (tc.1,tc.2.1,false))) (some (tc.1,tc.2.1,false))
def lX.f (k:Nat) (a0:BA):Option (Bool):=(j9.f k a0 (⟨#[64]⟩:BA)).bind fun ta=>some ta.2.2
def ei.f (k:Nat) (a0:BA):Option (Bool):=(eu.f a0 (⟨#[36]⟩:BA)).bind fun ta=>cond ta.2 ((eg.f k ta.1 2).bind fun tc=>some tc) (some false)
def kj.f (k:Nat) (a0:BA):Option (Bool):=(j9.f k a0 (⟨#[33]⟩:BA)).bind fun ta=>some ta.2.2
def dA.l0 (k:Nat) (a0:Event):Nat→Int→Option (Bool×Int×Bool)
 | 0,_=>none
 | ja+1,xa=>cond (decide (xa<(a0.ae.length:Int))) (aq ((0:Int)≤xa∧xa<(a0.ae.length:Int)) ((ei.f k (aC.at a0.ae xa)).bind fun ta=>cond (!ta) (some (false,xa,decide (xa<(a0.ae.length:Int)))) (cond (decide ((aC.at a0.ae xa)=a0.b9)) (some (false,xa,decide (xa<(a0.ae.length:Int)))) (cond (decide (0<xa)) (aq ((0:Int)≤(ax (xa-1))∧(ax (xa-1))<(a0.ae.length:Int)) (cond (!dH (aC.at a0.ae (ax (xa-1))) (aC.at a0.ae xa)) (some (false,xa,decide (xa<(a0.ae.length:Int)))) (dA.l0 k a0 ja (ax (xa+1))))) (dA.l0 k a0 ja (ax (xa+1))))))) (some (true,xa,decide (xa<(a0.ae.length:Int))))
def dA.l1 (k:Nat) (a0:Event):Nat→Int→Option (Bool×Int×Bool)
 | 0,_=>none
 | ja+1,xa=>cond (decide (xa<(a0.ae.length:Int))) (aq ((0:Int)≤xa∧xa<(a0.ae.length:Int)) ((ei.f k (aC.at a0.ae xa)).bind fun ta=>cond (!ta) (some (false,xa,decide (xa<(a0.ae.length:Int)))) (cond (decide ((aC.at a0.ae xa)=a0.b9)) (some (false,xa,decide (xa<(a0.ae.length:Int)))) (cond (decide (0<xa)) (aq ((0:Int)≤(ax (xa-1))∧(ax (xa-1))<(a0.ae.length:Int)) (cond (!dH (aC.at a0.ae (ax (xa-1))) (aC.at a0.ae xa)) (some (false,xa,decide (xa<(a0.ae.length:Int)))) (dA.l1 k a0 ja (ax (xa+1))))) (dA.l1 k a0 ja (ax (xa+1))))))) (some (true,xa,decide (xa<(a0.ae.length:Int))))
def dA.f (k:Nat) (a0:Event):Option (Bool):=(ei.f k a0.b9).bind fun ta=>cond (!ta) (some false) ((kj.f k a0.aa).bind fun tc=>cond (!tc) (some false) ((lX.f k a0.ak).bind fun te=>cond (!te) (some false) (cond (decide (4<(a0.ae.length:Int))) (some false) (cond (decide (a0.bL<0)) (some false) (cond (decide (2<a0.bL)) (some false) (cond (!decide (a0.ag=eE)) ((ei.f k a0.ag).bind fun tg=>cond (!tg) (some false) (cond (decide (a0.ag=a0.b9)) (some false) (cond (a0.bL != 0) (some false) ((dA.l0 k a0 k 0).bind fun (pa:Bool×Int×Bool)=>some pa.1)))) ((dA.l1 k a0 k 0).bind fun (pc:Bool×Int×Bool)=>some pc.1)))))))
def ew.f (a0:bf) (a1:BA):Option (Bool):=some (!(mget a0.ar a1).isNone)
def eQ.f (a0:BA) (c0:bf):Option (Bool):=(ew.f c0 a0).bind fun ta=>some (!ta)
def dL.f (xs:List BA):Option (List BA):=aq (xs.length≤9223372036854775807∧xs.length*16≤140737488355328) (some xs)
def iA.f (a0:Event):Option (Event):=(dL.f a0.ae).bind fun ta=>some (⟨a0.b9,a0.aa,ta,a0.ag,a0.ak,a0.bL⟩:Event)
def dag_Dag_Add.l0 (k:Nat) (a1:Event):Nat→Int→Int→bf→Option (Int×Bool×Int×bf)
 | 0,_,_,_=>none
 | ja+1,xa,xb,xc=>cond (decide (xa<(a1.ae.length:Int))) (aq ((0:Int)≤xa∧xa<(a1.ae.length:Int)) (aq ((mget xc.ar (aC.at a1.ae xa)).isSome=true) (dag_Dag_Add.l0 k a1 ja (ax (xa+1)) (max xb (ax ((((mget xc.ar (aC.at a1.ae xa)).getD default).cI)+1))) (⟨xc.cM,mput xc.ar (aC.at a1.ae xa) (⟨((mget xc.ar (aC.at a1.ae xa)).getD default).fe,((mget xc.ar (aC.at a1.ae xa)).getD default).cI,true⟩:aT)⟩:bf)))) (some (xa,decide (xa<(a1.ae.length:Int)),xb,xc))
def dag_Dag_Add.f (k:Nat) (a0:bf) (a1:Event):Option (Int×bf):=(dA.f k a1).bind fun ta=>cond (!ta) (some (1,a0)) (cond (!decide (a1.aa=a0.cM)) (some (1,a0)) ((ew.f a0 a1.b9).bind fun tc=>cond tc (some (9,a0)) ((cB.f k a1.ae (fun a0_=>eQ.f a0_ a0)).bind fun te=>cond te (some (4,a0)) ((cond (!decide (a1.ag=eE)) (cond ((mget a0.ar a1.ag).isNone) (some (.inr (4,a0))) (aq ((mget a0.ar a1.ag).isSome=true) (cond (!decide (((((mget a0.ar a1.ag).getD default).fe).ag)=eE)) (some (.inr (7,a0))) (cond (((((mget a0.ar a1.ag).getD default).fe).bL) != 0) (some (.inr (7,a0))) (some (.inl ())))))) (some (.inl ()))).bind (fall fun pa=>(iA.f a1).bind fun tg=>(dag_Dag_Add.l0 k a1 k 0 0 a0).bind fun (pc:Int×Bool×Int×bf)=>some (0,(⟨pc.2.2.2.cM,mput pc.2.2.2.ar a1.b9 (⟨tg,pc.2.2.1,false⟩:aT)⟩:bf)))))))
def iK.f (k:Nat) (a0:aH) (a1:Event):Option (Int×aH):=(aO.f a0 a1.aa).bind fun ta=>(dag_Dag_Add.f k ta a1).bind fun tc=>cond (tc.1 != 0) (some (tc.1,(⟨vK a0.bx a1.aa tc.2⟩:aH))) (some (0,(⟨mput a0.bx a1.aa tc.2⟩:aH)))
def gZ.l0 (k:Nat) (a0:bq) (a1:BA):Nat→Int→Option ((Int×Bool) ⊕ (aF))
 | 0,_=>none
 | ja+1,xa=>cond (decide (xa<(a0.fD.length:Int))) (aq ((0:Int)≤xa∧xa<(a0.fD.length:Int)) (cond (decide (((aF.K.at a0.fD xa).aa)=a1)) (aq ((0:Int)≤xa∧xa<(a0.fD.length:Int)) (some (.inr (aF.K.at a0.fD xa)))) (gZ.l0 k a0 a1 ja (ax (xa+1))))) (some (.inl (xa,decide (xa<(a0.fD.length:Int)))))
def gZ.f (k:Nat) (a0:bq) (a1:BA):Option (aF):=(gZ.l0 k a0 a1 k 0).bind (fall fun pa=>some (⟨a1,([]:List Event)⟩:aF))
def eN.l0 (k:Nat) (a0:BA):Nat→Int→Option ((Int×Bool) ⊕ (Int))
 | 0,_=>none
 | ja+1,xa=>cond (decide (xa<(a0.size:Int))) (aq ((0:Int)≤xa∧xa<(a0.size:Int)) (cond ((bt a0 xa)==58) (some (.inr xa)) (eN.l0 k a0 ja (ax (xa+1))))) (some (.inl (xa,decide (xa<(a0.size:Int)))))
def eN.f (k:Nat) (a0:BA):Option (Int):=(eN.l0 k a0 k 0).bind (fall fun pa=>some (-1))
def mj.f (a0:Int):Option (Bool):=cond (decide (97≤a0)) (cond (decide (a0≤122)) (some true) (cond (decide (48≤a0)) (some (decide (a0≤57))) (some false))) (cond (decide (48≤a0)) (some (decide (a0≤57))) (some false))
def eZ.l0 (k:Nat) (a0:BA):Nat→Int→Option ((Int×Bool) ⊕ (Bool))
 | 0,_=>none
 | ja+1,xa=>cond (decide (xa<(a0.size:Int))) (aq ((0:Int)≤xa∧xa<(a0.size:Int)) ((mj.f (bt a0 xa)).bind fun ta=>cond (!ta) (aq ((0:Int)≤xa∧xa<(a0.size:Int)) (cond ((bt a0 xa) != 46) (aq ((0:Int)≤xa∧xa<(a0.size:Int)) (cond ((bt a0 xa) != 45) (aq ((0:Int)≤xa∧xa<(a0.size:Int)) (cond ((bt a0 xa) != 95) (some (.inr false)) (eZ.l0 k a0 ja (ax (xa+1))))) (eZ.l0 k a0 ja (ax (xa+1))))) (eZ.l0 k a0 ja (ax (xa+1))))) (eZ.l0 k a0 ja (ax (xa+1))))) (some (.inl (xa,decide (xa<(a0.size:Int)))))
def eZ.f (k:Nat) (a0:BA):Option (Bool):=(eZ.l0 k a0 k 0).bind (fall fun pa=>cond (decide (0<(a0.size:Int))) (some (decide ((a0.size:Int)<17))) (some false))
def dh.l0 (k:Nat) (a0:BA):Nat→Int→Option ((Int×Bool) ⊕ (Bool))
 | 0,_=>none
 | ja+1,xa=>cond (decide (xa<(a0.size:Int))) (aq ((0:Int)≤xa∧xa<(a0.size:Int)) ((mj.f (bt a0 xa)).bind fun ta=>cond (decide (0<xa)) (cond (decide (xa<(ax ((a0.size:Int)-1)))) (aq ((0:Int)≤xa∧xa<(a0.size:Int)) (cond ((bt a0 xa)==46) (cond (!ta) (dh.l0 k a0 ja (ax (xa+1))) (dh.l0 k a0 ja (ax (xa+1)))) (aq ((0:Int)≤xa∧xa<(a0.size:Int)) (cond (!ta) (cond (!((bt a0 xa)==45)) (some (.inr false)) (dh.l0 k a0 ja (ax (xa+1)))) (dh.l0 k a0 ja (ax (xa+1))))))) (cond (!ta) (some (.inr false)) (dh.l0 k a0 ja (ax (xa+1))))) (cond (!ta) (some (.inr false)) (dh.l0 k a0 ja (ax (xa+1)))))) (some (.inl (xa,decide (xa<(a0.size:Int)))))
def dh.f (k:Nat) (a0:BA):Option (Bool):=(dh.l0 k a0 k 0).bind (fall fun pa=>cond (decide (0<(a0.size:Int))) (some (decide ((a0.size:Int)<17))) (some false))
def hJ.f (k:Nat) (a0:BA) (a1:Int):Option (Bool):=(eN.f k a0).bind fun ta=>cond (decide (ta<1)) (some false) (aq ((0:Int)≤0∧0<(a0.size:Int)) (cond ((bt a0 0) != a1) (some false) (aq ((0:Int)≤1∧(0:Int)≤ta∧(1:Int).toNat≤ta.toNat∧ta.toNat≤a0.size) ((eZ.f k (a0.extract (1:Int).toNat ta.toNat)).bind fun tc=>aq ((0:Int)≤(ax (ta+1))∧(ax (ta+1)).toNat≤a0.size∧a0.size≤a0.size) ((dh.f k (a0.extract (ax (ta+1)).toNat a0.size)).bind fun te=>cond tc (some te) (some false))))))
def bW.l0 (k:Nat) (a0:BA):Nat→Int→Option ((Int×Bool) ⊕ (Bool))
 | 0,_=>none
 | ja+1,xa=>cond (decide (xa<(a0.size:Int))) (aq ((0:Int)≤xa∧xa<(a0.size:Int)) ((mj.f (bt a0 xa)).bind fun ta=>aq ((0:Int)≤xa∧xa<(a0.size:Int)) (cond (decide (65≤(bt a0 xa))) (aq ((0:Int)≤xa∧xa<(a0.size:Int)) (cond (!ta) (cond (!(decide ((bt a0 xa)≤90))) (aq ((0:Int)≤xa∧xa<(a0.size:Int)) (cond ((bt a0 xa) != 45) (aq ((0:Int)≤xa∧xa<(a0.size:Int)) (cond ((bt a0 xa) != 95) (some (.inr false)) (bW.l0 k a0 ja (ax (xa+1))))) (bW.l0 k a0 ja (ax (xa+1))))) (bW.l0 k a0 ja (ax (xa+1)))) (bW.l0 k a0 ja (ax (xa+1))))) (cond (!ta) (aq ((0:Int)≤xa∧xa<(a0.size:Int)) (cond ((bt a0 xa) != 45) (aq ((0:Int)≤xa∧xa<(a0.size:Int)) (cond ((bt a0 xa) != 95) (some (.inr false)) (bW.l0 k a0 ja (ax (xa+1))))) (bW.l0 k a0 ja (ax (xa+1))))) (bW.l0 k a0 ja (ax (xa+1))))))) (some (.inl (xa,decide (xa<(a0.size:Int)))))
def bW.f (k:Nat) (a0:BA):Option (Bool):=cond (decide ((a0.size:Int)<2)) (some false) (cond (decide (17<(a0.size:Int))) (some false) (aq ((0:Int)≤0∧0<(a0.size:Int)) (cond ((bt a0 0) != 36) (some false) ((bW.l0 k a0 k 1).bind (fall fun pa=>some true)))))
def fZ.l0 (k:Nat) (a0:Event):Nat→Int→Option ((Int×Bool) ⊕ (Bool))
 | 0,_=>none
 | ja+1,xa=>cond (decide (xa<(a0.ae.length:Int))) (aq ((0:Int)≤xa∧xa<(a0.ae.length:Int)) ((bW.f k (aC.at a0.ae xa)).bind fun ta=>cond (!ta) (some (.inr false)) (aq ((0:Int)≤xa∧xa<(a0.ae.length:Int)) (cond (decide ((aC.at a0.ae xa)=a0.b9)) (some (.inr false)) (cond (decide (0<xa)) (aq ((0:Int)≤(max (ax (xa-1)) 0)∧(max (ax (xa-1)) 0)<(a0.ae.length:Int)) (aq ((0:Int)≤xa∧xa<(a0.ae.length:Int)) (cond (!dH (aC.at a0.ae (max (ax (xa-1)) 0)) (aC.at a0.ae xa)) (some (.inr false)) (fZ.l0 k a0 ja (ax (xa+1)))))) (fZ.l0 k a0 ja (ax (xa+1)))))))) (some (.inl (xa,decide (xa<(a0.ae.length:Int)))))
def fZ.f (k:Nat) (a0:Event):Option (Bool):=(bW.f k a0.b9).bind fun ta=>(hJ.f k a0.aa 33).bind fun tc=>(hJ.f k a0.ak 64).bind fun te=>cond (!ta) (some false) (cond (!tc) (some false) (cond (!te) (some false) (cond (decide (4<(a0.ae.length:Int))) (some false) (cond (decide (a0.bL<0)) (some false) (cond (decide (2<a0.bL)) (some false) ((cond (!decide (a0.ag=eE)) ((bW.f k a0.ag).bind fun tg=>cond (!tg) (some (.inr false)) (cond (decide (a0.ag=a0.b9)) (some (.inr false)) (cond (a0.bL != 0) (some (.inr false)) (some (.inl ()))))) (some (.inl ()))).bind (fall fun pa=>(fZ.l0 k a0 k 0).bind (fall fun pc=>some true))))))))
def eC.l0 (k:Nat) (a0:aF) (a1:BA):Nat→Int→Option ((Int×Bool) ⊕ (Int))
 | 0,_=>none
 | ja+1,xa=>cond (decide (xa<(a0.fL.length:Int))) (aq ((0:Int)≤xa∧xa<(a0.fL.length:Int)) (cond (decide (((Event.K.at a0.fL xa).b9)=a1)) (some (.inr xa)) (eC.l0 k a0 a1 ja (ax (xa+1))))) (some (.inl (xa,decide (xa<(a0.fL.length:Int)))))
def eC.f (k:Nat) (a0:aF) (a1:BA):Option (Int):=(eC.l0 k a0 a1 k 0).bind (fall fun pa=>some (-1))
def dP.l0 (k:Nat) (a0:aF) (a1:Event):Nat→Int→Option ((Int×Bool) ⊕ (aF×Int))
 | 0,_=>none
 | ja+1,xa=>cond (decide (xa<(a1.ae.length:Int))) (aq ((0:Int)≤xa∧xa<(a1.ae.length:Int)) ((eC.f k a0 (aC.at a1.ae xa)).bind fun ta=>cond (decide (ta<0)) (some (.inr (a0,4))) (dP.l0 k a0 a1 ja (ax (xa+1))))) (some (.inl (xa,decide (xa<(a1.ae.length:Int)))))
def dP.f (k:Nat) (a0:aF) (a1:Event):Option (aF×Int):=(fZ.f k a1).bind fun ta=>cond (!ta) (some (a0,1)) (cond (!decide (a1.aa=a0.aa)) (some (a0,1)) ((eC.f k a0 a1.b9).bind fun tc=>cond (decide (0≤tc)) (some (a0,9)) ((dP.l0 k a0 a1 k 0).bind (fall fun pa=>(cond (!decide (a1.ag=eE)) ((eC.f k a0 a1.ag).bind fun te=>cond (decide (te<0)) (some (.inr (a0,4))) (aq ((0:Int)≤te∧te<(a0.fL.length:Int)) (cond (!decide (((Event.K.at a0.fL te).ag)=eE)) (some (.inr (a0,7))) (aq ((0:Int)≤te∧te<(a0.fL.length:Int)) (cond (((Event.K.at a0.fL te).bL) != 0) (some (.inr (a0,7))) (some (.inl ()))))))) (some (.inl ()))).bind (fall fun pc=>aq (([]:List Event).length+a0.fL.length≤9223372036854775807∧(([]:List Event).length+a0.fL.length)*96≤140737488355328) (aq ((([]:List Event)++a0.fL).length+([a1]:List Event).length≤9223372036854775807∧((([]:List Event)++a0.fL).length+([a1]:List Event).length)*96≤140737488355328) (some ((⟨a0.aa,(([]:List Event)++a0.fL)++([a1]:List Event)⟩:aF),0))))))))
def er.l0 (k:Nat) (a0:bq) (a1:Event) (ta:aF×Int):Nat→Bool→Int→List aF→Option (Bool×Int×Bool×(List aF))
 | 0,_,_,_=>none
 | ja+1,xa,xb,xc=>cond (decide (xb<(a0.fD.length:Int))) ((cond (!xa) (aq ((0:Int)≤xb∧xb<(a0.fD.length:Int)) (cond (!dH ((aF.K.at a0.fD xb).aa) a1.aa) (aq (xc.length+([ta.1]:List aF).length≤9223372036854775807∧(xc.length+([ta.1]:List aF).length)*40≤140737488355328) (some (true,!dH ((aF.K.at a0.fD xb).aa) a1.aa,xc++([ta.1]:List aF)))) (some (xa,!dH ((aF.K.at a0.fD xb).aa) a1.aa,xc)))) (some (xa,false,xc))).bind fun (pa:Bool×Bool×(List aF))=>aq ((0:Int)≤xb∧xb<(a0.fD.length:Int)) (cond (!decide (((aF.K.at a0.fD xb).aa)=a1.aa)) (aq ((0:Int)≤xb∧xb<(a0.fD.length:Int)) (aq (pa.2.2.length+([aF.K.at a0.fD xb]:List aF).length≤9223372036854775807∧(pa.2.2.length+([aF.K.at a0.fD xb]:List aF).length)*40≤140737488355328) (er.l0 k a0 a1 ta ja pa.1 (ax (xb+1)) (pa.2.2++([aF.K.at a0.fD xb]:List aF))))) (er.l0 k a0 a1 ta ja pa.1 (ax (xb+1)) pa.2.2))) (some (xa,xb,decide (xb<(a0.fD.length:Int)),xc))
def er.f (k:Nat) (a0:bq) (a1:Event):Option (bq×Int):=(gZ.f k a0 a1.aa).bind fun ta=>(dP.f k ta a1).bind fun tc=>cond (tc.2 != 0) (some (a0,tc.2)) ((er.l0 k a0 a1 tc k false 0 ([]:List aF)).bind fun (pa:Bool×Int×Bool×(List aF))=>cond (!pa.1) (aq (pa.2.2.2.length+([tc.1]:List aF).length≤9223372036854775807∧(pa.2.2.2.length+([tc.1]:List aF).length)*40≤140737488355328) (some ((⟨pa.2.2.2++([tc.1]:List aF)⟩:bq),0))) (some ((⟨pa.2.2.2⟩:bq),0)))
def gJ.l0 (k:Nat) (a0:List Event):Nat→Int→List aF→Option (Int×Bool×(List aF))
 | 0,_,_=>none
 | ja+1,xa,xb=>cond (decide (xa<(a0.length:Int))) (aq ((0:Int)≤xa∧xa<(a0.length:Int)) ((er.f k (⟨xb⟩:bq) (Event.K.at a0 xa)).bind fun ta=>gJ.l0 k a0 ja (ax (xa+1)) ta.1.fD)) (some (xa,decide (xa<(a0.length:Int)),xb))
def gJ.f (k:Nat) (a0:List Event):Option (bq):=(gJ.l0 k a0 k 0 ([]:List aF)).bind fun (pa:Int×Bool×(List aF))=>some (⟨pa.2.2⟩:bq)
def fN.l0 (k:Nat) (a0:List Event) (ta:(Option gW)×Int) (tc:(Option bK)×Int) (te:bH) (tg:bM):Nat→Int→aH→Option ((Int×Bool×aH) ⊕ (Src×dE×Bool))
 | 0,_,_=>none
 | ja+1,xa,xb=>cond (decide (xa<(a0.length:Int))) (aq ((0:Int)≤xa∧xa<(a0.length:Int)) ((iK.f k xb (Event.K.at a0 xa)).bind fun tj=>cond (tj.1 != 0) (some (.inr ((⟨tj.2,ta.1.getD default,te,tg,tc.1.getD default⟩:Src),(⟨(⟨([]:List aF)⟩:bq),([]:List MK),(⟨([]:List ai),([]:List Bool)⟩:jO),(⟨([]:List ai),([]:List Int)⟩:kA),([]:List ig),0⟩:dE),false))) (fN.l0 k a0 ta tc te tg ja (ax (xa+1)) tj.2))) (some (.inl (xa,decide (xa<(a0.length:Int)),xb)))
def fN.f (k:Nat) (a0:List Event) (a1:Int):Option (Src×dE×Bool):=(oC.f 8).bind fun ta=>(nf.f a1 (ax (a1+1000))).bind fun tc=>(rh.f).bind fun te=>(nG.f).bind fun tg=>(ly.f).bind fun tj=>aq (ta.1.isSome=true) (aq (tc.1.isSome=true) (cond (ta.2 != 0) (some ((⟨te,ta.1.getD default,tg,tj,tc.1.getD default⟩:Src),(⟨(⟨([]:List aF)⟩:bq),([]:List MK),(⟨([]:List ai),([]:List Bool)⟩:jO),(⟨([]:List ai),([]:List Int)⟩:kA),([]:List ig),0⟩:dE),false)) (cond (tc.2 != 0) (some ((⟨te,ta.1.getD default,tg,tj,tc.1.getD default⟩:Src),(⟨(⟨([]:List aF)⟩:bq),([]:List MK),(⟨([]:List ai),([]:List Bool)⟩:jO),(⟨([]:List ai),([]:List Int)⟩:kA),([]:List ig),0⟩:dE),false)) ((fN.l0 k a0 ta tc tg tj k 0 te).bind (fall fun pa=>(gJ.f k a0).bind fun tm=>some ((⟨pa.2.2,ta.1.getD default,tg,tj,tc.1.getD default⟩:Src),(⟨tm,([]:List MK),(⟨([]:List ai),([]:List Bool)⟩:jO),(⟨([]:List ai),([]:List Int)⟩:kA),([]:List ig),a1⟩:dE),true))))))
def br.f (a0:Int) (a1:Int):Option (Int):=cond (decide (a0<0)) (aq (a1≠0) (some ((ax (0-(ax (a0+1)))).tmod a1))) (aq (a1≠0) (some (a0.tmod a1)))
def eS.f (a0:Int):Option (BA):=(br.f a0 2).bind fun ta=>aq ((0:Int)≤ta∧ta<(([(⟨#[33,114,58,115,49]⟩:BA),(⟨#[33,113,58,115,50]⟩:BA)]:List BA).length:Int)) (some (aC.at ([(⟨#[33,114,58,115,49]⟩:BA),(⟨#[33,113,58,115,50]⟩:BA)]:List BA) ta))
def mS.f (a0:Int):Option (BA):=(br.f a0 3).bind fun ta=>aq ((0:Int)≤ta∧ta<(([(⟨#[115,49]⟩:BA),(⟨#[115,50]⟩:BA),(⟨#[115,51]⟩:BA)]:List BA).length:Int)) (some (aC.at ([(⟨#[115,49]⟩:BA),(⟨#[115,50]⟩:BA),(⟨#[115,51]⟩:BA)]:List BA) ta))
def gQ.f (a0:Int):Option (BA):=(br.f a0 9).bind fun ta=>aq ((0:Int)≤(ax (ta.tdiv 3))∧(ax (ta.tdiv 3))<(([(⟨#[64,97,58]⟩:BA),(⟨#[64,98,58]⟩:BA),(⟨#[64,99,58]⟩:BA)]:List BA).length:Int)) ((mS.f (ta.tmod 3)).bind fun tc=>aq ((aC.at ([(⟨#[64,97,58]⟩:BA),(⟨#[64,98,58]⟩:BA),(⟨#[64,99,58]⟩:BA)]:List BA) (ax (ta.tdiv 3))).size+tc.size≤9223372036854775807) (some ((aC.at ([(⟨#[64,97,58]⟩:BA),(⟨#[64,98,58]⟩:BA),(⟨#[64,99,58]⟩:BA)]:List BA) (ax (ta.tdiv 3)))++tc)))
def iu.f:Nat→Int→Option (BA)
 | 0,_=>none
 | k+1,a0=>(cond (decide ((a0.tmod 10)<0)) (some (ax (0-(a0.tmod 10)))) (some (a0.tmod 10))).bind fun (pa:Int)=>cond (decide ((-10)<a0)) (cond (decide (a0<10)) (cond (decide (a0<0)) (aq ((⟨#[45]⟩:BA).size+(fX ([IntKind.u8.wrap (ax (48+pa))]:List Int)).size≤9223372036854775807) (some ((⟨#[45]⟩:BA)++(fX ([IntKind.u8.wrap (ax (48+pa))]:List Int))))) (some (fX ([IntKind.u8.wrap (ax (48+pa))]:List Int)))) ((iu.f k (ax (a0.tdiv 10))).bind fun ta=>aq (ta.size+(fX ([IntKind.u8.wrap (ax (48+pa))]:List Int)).size≤9223372036854775807) (some (ta++(fX ([IntKind.u8.wrap (ax (48+pa))]:List Int)))))) ((iu.f k (ax (a0.tdiv 10))).bind fun tc=>aq (tc.size+(fX ([IntKind.u8.wrap (ax (48+pa))]:List Int)).size≤9223372036854775807) (some (tc++(fX ([IntKind.u8.wrap (ax (48+pa))]:List Int)))))
def dq.f (k:Nat) (a0:Int):Option (BA):=(br.f a0 9).bind fun ta=>(iu.f k ta).bind fun tc=>aq ((⟨#[36,101]⟩:BA).size+tc.size≤9223372036854775807) (some ((⟨#[36,101]⟩:BA)++tc))
def bI.l1 (k:Nat) (xa:Int) (pa:Int×Bool×(List Bool)):Nat→Int→List BA→Option (Int×Bool×(List BA))
 | 0,_,_=>none
 | ja+1,xb,xc=>cond (decide (xb<xa)) (aq ((0:Int)≤xb∧xb<(pa.2.2.length:Int)) (cond (pa.2.2.getD xb.toNat default) ((dq.f k xb).bind fun ta=>aq (xc.length+([ta]:List BA).length≤9223372036854775807∧(xc.length+([ta]:List BA).length)*16≤140737488355328) (bI.l1 k xa pa ja (ax (xb+1)) (xc++([ta]:List BA)))) (bI.l1 k xa pa ja (ax (xb+1)) xc))) (some (xb,decide (xb<xa),xc))
def bI.l2 (k:Nat) (a1:List de) (xa:Int):Nat→Int→List Bool→Option (Int×Bool×(List Bool))
 | 0,_,_=>none
 | ja+1,xb,xc=>aq ((0:Int)≤xa∧xa<(a1.length:Int)) (cond (decide (xb<(((de.K.at a1 xa).ae).length:Int))) (cond (decide (xb<3)) (cond (decide (0<xa)) (aq ((0:Int)≤xa∧xa<(a1.length:Int)) (aq ((0:Int)≤xb∧xb<(((de.K.at a1 xa).ae).length:Int)) ((br.f ((bp .i64).at ((de.K.at a1 xa).ae) xb) xa).bind fun ta=>aq ((0:Int)≤ta∧ta<(xc.length:Int)) (bI.l2 k a1 xa ja (ax (xb+1)) (xc.set ta.toNat true))))) (some (xb,decide (0<xa),xc))) (some (xb,false,xc))) (some (xb,false,xc)))
def bI.l0 (k:Nat) (a0:BA) (a1:List de):Nat→Int→BA→List Event→Option (Int×Bool×BA×(List Event))
 | 0,_,_,_=>none
 | ja+1,xa,xb,xc=>cond (decide (xa<(a1.length:Int))) (cond (decide (xa<9)) (((dq.f k xa).bind fun ta=>aq ((0:Int)≤xa∧xa<(a1.length:Int)) ((gQ.f ((de.K.at a1 xa).ak)).bind fun tc=>aq ((0:Int)≤xa∧xa<(a1.length:Int)) ((br.f ((de.K.at a1 xa).bL) 3).bind fun te=>aq ((0:Int)≤9∧9≤(9223372036854775807:Int)∧(9:Int).toNat*1≤140737488355328) ((bI.l2 k a1 xa k 0 (List.replicate (9:Int).toNat (false:Bool))).bind fun (pa:Int×Bool×(List Bool))=>(bI.l1 k xa pa k 0 ([]:List BA)).bind fun (pc:Int×Bool×(List BA))=>cond (te==0) (cond (decide (0<xa)) (aq ((0:Int)≤xa∧xa<(a1.length:Int)) ((br.f ((de.K.at a1 xa).ag) (ax (2*xa))).bind fun tg=>cond (decide (tg<xa)) (aq ((0:Int)≤tg∧tg<(xc.length:Int)) (cond (((Event.K.at xc tg).bL)==0) (aq ((0:Int)≤tg∧tg<(xc.length:Int)) (cond (decide (((Event.K.at xc tg).ag)=eE)) ((dq.f k tg).bind fun tj=>(dP.f k (⟨xb,xc⟩:aF) (⟨ta,a0,pc.2.2,tj,tc,te⟩:Event)).bind fun tm=>some (pa.1,pc.1,pa.2.1,pc.2.1,decide (0<xa),tm.1.aa,tm.1.fL,pa.2.2)) ((dP.f k (⟨xb,xc⟩:aF) (⟨ta,a0,pc.2.2,eE,tc,te⟩:Event)).bind fun tn=>some (pa.1,pc.1,pa.2.1,pc.2.1,decide (0<xa),tn.1.aa,tn.1.fL,pa.2.2)))) ((dP.f k (⟨xb,xc⟩:aF) (⟨ta,a0,pc.2.2,eE,tc,te⟩:Event)).bind fun tp=>some (pa.1,pc.1,pa.2.1,pc.2.1,decide (0<xa),tp.1.aa,tp.1.fL,pa.2.2)))) ((dP.f k (⟨xb,xc⟩:aF) (⟨ta,a0,pc.2.2,eE,tc,te⟩:Event)).bind fun tq=>some (pa.1,pc.1,pa.2.1,pc.2.1,decide (0<xa),tq.1.aa,tq.1.fL,pa.2.2)))) ((dP.f k (⟨xb,xc⟩:aF) (⟨ta,a0,pc.2.2,eE,tc,te⟩:Event)).bind fun tu=>some (pa.1,pc.1,pa.2.1,pc.2.1,decide (0<xa),tu.1.aa,tu.1.fL,pa.2.2))) ((dP.f k (⟨xb,xc⟩:aF) (⟨ta,a0,pc.2.2,eE,tc,te⟩:Event)).bind fun tw=>some (pa.1,pc.1,pa.2.1,pc.2.1,false,tw.1.aa,tw.1.fL,pa.2.2)))))).bind fun (pe:Int×Int×Bool×Bool×Bool×BA×(List Event)×(List Bool))=>bI.l0 k a0 a1 ja (ax (xa+1)) pe.2.2.2.2.2.1 pe.2.2.2.2.2.2.1) (some (xa,decide (xa<9),xb,xc))) (some (xa,false,xb,xc))
def bI.f (k:Nat) (a0:BA) (a1:List de):Option (aF):=(bI.l0 k a0 a1 k 0 a0 ([]:List Event)).bind fun (pa:Int×Bool×BA×(List Event))=>some (⟨pa.2.2.1,pa.2.2.2⟩:aF)
def ou.f (k:Nat) (a0:List de) (a1:List de):Option ((List Event)):=(eS.f 0).bind fun ta=>(bI.f k ta a0).bind fun tc=>aq (([]:List Event).length+tc.fL.length≤9223372036854775807∧(([]:List Event).length+tc.fL.length)*96≤140737488355328) ((eS.f 1).bind fun te=>(bI.f k te a1).bind fun tg=>aq ((([]:List Event)++tc.fL).length+tg.fL.length≤9223372036854775807∧((([]:List Event)++tc.fL).length+tg.fL.length)*96≤140737488355328) (some ((([]:List Event)++tc.fL)++tg.fL)))
def fO.l0 (k:Nat) (a0:List MK) (a1:bz):Nat→Int→Option ((Int×Bool) ⊕ (Int))
 | 0,_=>none
 | ja+1,xa=>cond (decide (xa<(a0.length:Int))) (aq ((0:Int)≤xa∧xa<(a0.length:Int)) (cond (decide ((MK.K.at a0 xa).fK=a1)) (some (.inr xa)) (fO.l0 k a0 a1 ja (ax (xa+1))))) (some (.inl (xa,decide (xa<(a0.length:Int)))))
def fO.f (k:Nat) (a0:List MK) (a1:bz):Option (Int):=(fO.l0 k a0 a1 k 0).bind (fall fun pa=>some (-1))
def iG.f (a0:Pos) (a1:Pos):Option (Bool):=cond (decide (a0.bJ<a1.bJ)) (some true) (cond (a0.bJ==a1.bJ) (some (dH a0.b9 a1.b9)) (some false))
def lZ.f (a0:bz) (a1:bz):Option (Bool):=cond (!decide (a0.aa=a1.aa)) (some (dH a0.aa a1.aa)) (cond (!decide (a0.ak=a1.ak)) (some (dH a0.ak a1.ak)) (cond (!decide (a0.ag=a1.ag)) (some (dH a0.ag a1.ag)) (cond (!a0.au) (some a1.au) (some false))))
def jy.l0 (k:Nat) (a0:List MK) (a1:bz):Nat→Int→Option (Int×Bool)
 | 0,_=>none
 | ja+1,xa=>cond (decide (xa<(a0.length:Int))) (aq ((0:Int)≤xa∧xa<(a0.length:Int)) ((lZ.f ((MK.K.at a0 xa).fK) a1).bind fun ta=>cond ta (jy.l0 k a0 a1 ja (ax (xa+1))) (some (xa,ta)))) (some (xa,false))
def jy.f (k:Nat) (a0:List MK) (a1:bz) (a2:Pos):Option ((List MK)×Bool):=(fO.f k a0 a1).bind fun ta=>cond (decide (0≤ta)) (aq ((0:Int)≤ta∧ta<(a0.length:Int)) ((iG.f ((MK.K.at a0 ta).kS) a2).bind fun tc=>cond (!tc) (some (a0,false)) (aq (([]:List MK).length+a0.length≤9223372036854775807∧(([]:List MK).length+a0.length)*80≤140737488355328) (aq ((0:Int)≤ta∧ta<((([]:List MK)++a0).length:Int)) (some ((([]:List MK)++a0).set ta.toNat (⟨((([]:List MK)++a0).getD ta.toNat default).fK,a2⟩:MK),true)))))) ((jy.l0 k a0 a1 k 0).bind fun (pa:Int×Bool)=>aq ((0:Int)≤pa.1∧0≤pa.1.toNat∧pa.1.toNat≤a0.length) (aq (([]:List MK).length+((a0.take pa.1.toNat).drop 0).length≤9223372036854775807∧(([]:List MK).length+((a0.take pa.1.toNat).drop 0).length)*80≤140737488355328) (aq ((([]:List MK)++((a0.take pa.1.toNat).drop 0)).length+([(⟨a1,a2⟩:MK)]:List MK).length≤9223372036854775807∧((([]:List MK)++((a0.take pa.1.toNat).drop 0)).length+([(⟨a1,a2⟩:MK)]:List MK).length)*80≤140737488355328) (aq ((0:Int)≤pa.1∧pa.1.toNat≤a0.length∧a0.length≤a0.length) (aq (((([]:List MK)++((a0.take pa.1.toNat).drop 0))++([(⟨a1,a2⟩:MK)]:List MK)).length+((a0.take a0.length).drop pa.1.toNat).length≤9223372036854775807∧(((([]:List MK)++((a0.take pa.1.toNat).drop 0))++([(⟨a1,a2⟩:MK)]:List MK)).length+((a0.take a0.length).drop pa.1.toNat).length)*80≤140737488355328) (some (((([]:List MK)++((a0.take pa.1.toNat).drop 0))++([(⟨a1,a2⟩:MK)]:List MK))++((a0.take a0.length).drop pa.1.toNat),true)))))))
def pz.f (a0:ai):Option (bz):=some (⟨a0.aa,a0.ak,a0.ag,a0.au⟩:bz)
def lS.f (k:Nat) (a0:BA):Option (Bool):=(bW.f k a0).bind fun ta=>cond (decide (a0=eE)) (some true) (cond (decide (a0=(⟨#[109,97,105,110]⟩:BA))) (some true) (some ta))
def fH.f (k:Nat) (a0:ai):Option (Bool):=(hJ.f k a0.ak 64).bind fun ta=>(hJ.f k a0.aa 33).bind fun tc=>(bW.f k a0.bB).bind fun te=>(lS.f k a0.ag).bind fun tg=>cond (!ta) (some false) (cond (decide (a0.aQ<0)) (some false) (cond (decide (1099511627776<a0.aQ)) (some false) (cond (decide (a0.aX<0)) (some false) (cond (decide (1099511627776<a0.aX)) (some false) (cond (a0.aE==1) (cond tc (cond te (cond tg (cond (!a0.jX) (cond (a0.bV==0) (some (a0.aU==0)) (some false)) (some false)) (some false)) (some false)) (some false)) (cond (a0.aE==2) (cond a0.jX (cond (decide (1≤a0.bV)) (cond (decide (a0.bV≤60)) (cond tc (cond (decide (a0.bB=eE)) (cond (decide (a0.ag=eE)) (cond (a0.aU==0) (some (!a0.au)) (some false)) (some false)) (some false)) (some false)) (cond (!a0.jX) (cond tc (cond (a0.bV==0) (cond (decide (a0.bB=eE)) (cond (decide (a0.ag=eE)) (cond (a0.aU==0) (some (!a0.au)) (some false)) (some false)) (some false)) (some false)) (some false)) (cond tc (some false) (some false)))) (cond (!a0.jX) (cond tc (cond (a0.bV==0) (cond (decide (a0.bB=eE)) (cond (decide (a0.ag=eE)) (cond (a0.aU==0) (some (!a0.au)) (some false)) (some false)) (some false)) (some false)) (some false)) (cond tc (some false) (some false)))) (cond (!a0.jX) (cond tc (cond (a0.bV==0) (cond (decide (a0.bB=eE)) (cond (decide (a0.ag=eE)) (cond (a0.aU==0) (some (!a0.au)) (some false)) (some false)) (some false)) (some false)) (some false)) (cond tc (some false) (some false)))) (cond (a0.aE==3) (cond (decide (a0.aa=eE)) (cond (decide (a0.bB=eE)) (cond (decide (a0.ag=eE)) (cond (!a0.jX) (cond (a0.bV==0) (cond (!a0.au) (cond (decide (0≤a0.aU)) (some (decide (a0.aU≤2))) (some false)) (some false)) (some false)) (some false)) (some false)) (some false)) (some false)) (some false))))))))
def oq.f (k:Nat) (a0:bq) (a1:BA) (a2:BA) (a3:BA):Option (Int):=(gZ.f k a0 a1).bind fun ta=>(eC.f k ta a2).bind fun tc=>cond (decide (tc<0)) (some 4) (aq ((0:Int)≤tc∧tc<(ta.fL.length:Int)) (cond (decide (a3=eE)) (some 0) (cond (decide (a3=a2)) (some 0) (cond (decide (a3=(⟨#[109,97,105,110]⟩:BA))) (cond (decide (((Event.K.at ta.fL tc).ag)=eE)) (some 0) (cond (!decide (((Event.K.at ta.fL tc).ag)=eE)) (cond (decide (a3=((Event.K.at ta.fL tc).ag))) (some 0) (some 7)) (some 7))) (cond (!decide (((Event.K.at ta.fL tc).ag)=eE)) (cond (decide (a3=((Event.K.at ta.fL tc).ag))) (some 0) (some 7)) (some 7))))))
def ko.l0 (k:Nat) (a0:mI) (a1:ai):Nat→Int→Option ((Int×Bool) ⊕ (mI×ai×Bool))
 | 0,_=>none
 | ja+1,xa=>cond (decide (xa<(a0.fL.length:Int))) (aq ((0:Int)≤xa∧xa<(a0.fL.length:Int)) (cond (decide (ai.K.at a0.fL xa=a1)) (some (.inr (a0,(⟨0,eE,eE,eE,eE,false,false,0,0,0,0⟩:ai),false))) (ko.l0 k a0 a1 ja (ax (xa+1))))) (some (.inl (xa,decide (xa<(a0.fL.length:Int)))))
def ko.f (k:Nat) (a0:mI) (a1:ai):Option (mI×ai×Bool):=(ko.l0 k a0 a1 k 0).bind (fall fun pa=>aq (([]:List ai).length+a0.fL.length≤9223372036854775807∧(([]:List ai).length+a0.fL.length)*112≤140737488355328) (aq ((([]:List ai)++a0.fL).length+([a1]:List ai).length≤9223372036854775807∧((([]:List ai)++a0.fL).length+([a1]:List ai).length)*112≤140737488355328) (cond (decide (a0.nS<(((([]:List ai)++a0.fL)++([a1]:List ai)).length:Int))) (aq ((0:Int)≤1∧(1:Int).toNat≤((([]:List ai)++a0.fL)++([a1]:List ai)).length∧((([]:List ai)++a0.fL)++([a1]:List ai)).length≤((([]:List ai)++a0.fL)++([a1]:List ai)).length) (aq ((0:Int)≤0∧0<(((([]:List ai)++a0.fL)++([a1]:List ai)).length:Int)) (some ((⟨a0.nS,(((([]:List ai)++a0.fL)++([a1]:List ai)).take (((([]:List ai)++a0.fL)++([a1]:List ai)).length)).drop ((1:Int).toNat),ax (a0.o5+1)⟩:mI),ai.K.at ((([]:List ai)++a0.fL)++([a1]:List ai)) 0,true)))) (some ((⟨a0.nS,(([]:List ai)++a0.fL)++([a1]:List ai),a0.o5⟩:mI),(⟨0,eE,eE,eE,eE,false,false,0,0,0,0⟩:ai),false)))))
def dz.l1 (k:Nat) (a0:aF) (xa:Int):Nat→Int→List Int→Option (Int×Bool×(List Int))
 | 0,_,_=>none
 | ja+1,xb,xc=>aq ((0:Int)≤xa∧xa<(a0.fL.length:Int)) (cond (decide (xb<(((Event.K.at a0.fL xa).ae).length:Int))) (aq ((0:Int)≤xa∧xa<(xc.length:Int)) (aq ((0:Int)≤xa∧xa<(a0.fL.length:Int)) (aq ((0:Int)≤xb∧xb<(((Event.K.at a0.fL xa).ae).length:Int)) ((eC.f k a0 (aC.at ((Event.K.at a0.fL xa).ae) xb)).bind fun ta=>aq ((0:Int)≤ta∧ta<(xc.length:Int)) (aq ((0:Int)≤xa∧xa<(xc.length:Int)) (dz.l1 k a0 xa ja (ax (xb+1)) (xc.set xa.toNat (max (xc.getD xa.toNat default) (ax ((xc.getD ta.toNat default)+1)))))))))) (some (xb,decide (xb<(((Event.K.at a0.fL xa).ae).length:Int)),xc)))
def dz.l0 (k:Nat) (a0:aF) (ta:Int):Nat→Int→List Int→Option (Int×Bool×(List Int))
 | 0,_,_=>none
 | ja+1,xa,xb=>cond (decide (xa≤ta)) ((dz.l1 k a0 xa k 0 xb).bind fun (pa:Int×Bool×(List Int))=>dz.l0 k a0 ta ja (ax (xa+1)) pa.2.2) (some (xa,decide (xa≤ta),xb))
def dz.f (k:Nat) (a0:aF) (a1:BA):Option (Int):=(eC.f k a0 a1).bind fun ta=>cond (decide (ta<0)) (some 0) (aq ((0:Int)≤(ax (ta+1))∧(ax (ta+1))≤(9223372036854775807:Int)∧(ax (ta+1)).toNat*8≤140737488355328) ((dz.l0 k a0 ta k 0 (List.replicate (ax (ta+1)).toNat (0:Int))).bind fun (pa:Int×Bool×(List Int))=>aq ((0:Int)≤ta∧ta<(pa.2.2.length:Int)) (some (pa.2.2.getD ta.toNat default))))
def dC.f (k:Nat) (a0:aF) (a1:BA):Option (Pos):=(dz.f k a0 a1).bind fun ta=>some (⟨ta,a1⟩:Pos)
def kn.f (k:Nat) (a0:bq) (a1:BA) (a2:BA):Option (Pos×Bool):=(gZ.f k a0 a1).bind fun ta=>(eC.f k ta a2).bind fun tc=>cond (decide (tc<0)) (some ((⟨0,eE⟩:Pos),false)) ((dC.f k ta a2).bind fun te=>some (te,true))
def qx.f (k:Nat) (a0:pO) (a1:bq) (a2:ai):Option (pO×Bool×Int):=(fH.f k a2).bind fun ta=>cond (a2.aE != 1) (some ((⟨a0.fL,a0.fP⟩:pO),false,1)) (cond (!ta) (some ((⟨a0.fL,a0.fP⟩:pO),false,1)) ((oq.f k a1 a2.aa a2.bB a2.ag).bind fun tc=>cond (tc==4) ((ko.f k a0.fP a2).bind fun te=>some ((⟨a0.fL,te.1⟩:pO),false,0)) (cond (tc != 0) (some ((⟨a0.fL,a0.fP⟩:pO),false,tc)) ((kn.f k a1 a2.aa a2.bB).bind fun tg=>(pz.f a2).bind fun tj=>(jy.f k a0.fL tj tg.1).bind fun tm=>some ((⟨tm.1,a0.fP⟩:pO),tm.2,0)))))
def cH.f (a0:Int) (a1:Int) (a2:Int):Option (Bool):=cond (decide (a1≤a0)) (some (decide (a0≤a2))) (some false)
def iJ.f (a0:ai):Option (Bool):=some false
def ll.f (k:Nat) (a0:BA):Option (Bool):=cond (decide (a0=eE)) (some true) (cond (decide (a0=(⟨#[109,97,105,110]⟩:BA))) (some true) ((ei.f k a0).bind fun ta=>some ta))
def fS.f (k:Nat) (a0:ai):Option (Bool):=(kj.f k a0.aa).bind fun ta=>cond ta ((ei.f k a0.bB).bind fun tc=>cond tc ((ll.f k a0.ag).bind fun te=>some te) (some false)) (some false)
def fj.f (k:Nat) (a0:ai) (c0:Int→Int→Int→Option Bool):Option (Bool):=(kj.f k a0.aa).bind fun ta=>cond ta (cond (!a0.jX) (some true) ((c0 a0.bV 1 60).bind fun tc=>some tc)) (some false)
def fm.f (a0:ai) (c0:Int→Int→Int→Option Bool):Option (Bool):=(c0 a0.aU 0 2).bind fun ta=>some ta
def nI.f (k:Nat):Option ((List (ai→Option Bool))):=some ([iJ.f,fS.f k,fun a0_=>fj.f k a0_ cH.f,fun a0_=>fm.f a0_ cH.f]:List (ai→Option Bool))
def iq.f (a0:Int):Option (Bool):=cond (decide (0≤a0)) (some (decide (a0≤1099511627776))) (some false)
def lU.f (a0:ai):Option (ai):=cond (a0.aE==1) (some (⟨a0.aE,a0.aa,a0.ak,a0.bB,a0.ag,a0.au,false,0,0,a0.aQ,a0.aX⟩:ai)) (cond (a0.aE==2) (cond a0.jX (some (⟨a0.aE,a0.aa,a0.ak,eE,eE,false,a0.jX,a0.bV,0,a0.aQ,a0.aX⟩:ai)) (some (⟨a0.aE,a0.aa,a0.ak,eE,eE,false,a0.jX,0,0,a0.aQ,a0.aX⟩:ai))) (cond (a0.aE==3) (some (⟨a0.aE,eE,a0.ak,eE,eE,false,false,0,a0.aU,a0.aQ,a0.aX⟩:ai)) (some (⟨a0.aE,eE,a0.ak,eE,eE,false,false,0,0,a0.aQ,a0.aX⟩:ai))))
def eO.f (k:Nat) (a0:ai):Option (Bool):=cond (decide (a0.aE<0)) (some false) (cond (decide (3<a0.aE)) (some false) ((nI.f k).bind fun ta=>aq ((0:Int)≤a0.aE∧a0.aE<(ta.length:Int)) (((ia.at ta a0.aE) a0).bind fun tc=>cond (!tc) (some false) ((lU.f a0).bind fun te=>cond (decide (a0=te)) ((lX.f k a0.ak).bind fun tg=>cond tg ((iq.f a0.aQ).bind fun tj=>cond tj ((iq.f a0.aX).bind fun tm=>some tm) (some false)) (some false)) (some false)))))
def kM.f (a0:bf) (a1:BA):Option (Event×Bool):=(ew.f a0 a1).bind fun ta=>cond (!ta) (some ((⟨eE,eE,([]:List BA),eE,eE,0⟩:Event),false)) (aq ((mget a0.ar a1).isSome=true) ((iA.f (((mget a0.ar a1).getD default).fe)).bind fun tc=>some (tc,true)))
def iN.f (a0:aH) (a1:BA) (a2:BA) (a3:BA):Option (Int):=(aO.f a0 a1).bind fun ta=>(kM.f ta a2).bind fun tc=>cond (!tc.2) (some 4) (cond (decide (a3=eE)) (cond (decide (a3=eE)) (some 0) (some 7)) (cond (decide (a3=(⟨#[109,97,105,110]⟩:BA))) (cond (decide (tc.1.ag=eE)) (cond (decide (tc.1.ag=eE)) (some 0) (some 7)) (cond (decide (a3=a2)) (cond (decide (a3=a2)) (some 0) (some 7)) (cond (decide (a3=tc.1.ag)) (some 0) (some 7)))) (cond (decide (a3=a2)) (cond (decide (a3=a2)) (some 0) (some 7)) (cond (decide (a3=tc.1.ag)) (some 0) (some 7)))))
def b7.l0 (k:Nat) (a0:List ai) (a1:ai):Nat→Int→Option ((Int×Bool) ⊕ (Int))
 | 0,_=>none
 | ja+1,xa=>cond (decide (xa<(a0.length:Int))) (aq ((0:Int)≤xa∧xa<(a0.length:Int)) (cond (decide (a1=ai.K.at a0 xa)) (some (.inr xa)) (b7.l0 k a0 a1 ja (ax (xa+1))))) (some (.inl (xa,decide (xa<(a0.length:Int)))))
def b7.f (k:Nat) (a0:List ai) (a1:ai):Option (Int):=(b7.l0 k a0 a1 k 0).bind (fall fun pa=>some (-1))
def fb.f (k:Nat) (a0:List ai) (a1:ai):Option (Bool):=(b7.f k a0 a1).bind fun ta=>some (decide (0≤ta))
def eV.f (xs:List ai) (i j:Int):Option (List ai):=aq ((0:Int)≤i∧i≤j∧j≤(xs.length:Int)) (some (xs.take i.toNat++xs.drop j.toNat))
def jK.f (k:Nat) (a0:jB) (a1:ai):Option (ai×Bool×jB):=(fb.f k a0.fl a1).bind fun ta=>cond ta (some ((⟨0,eE,eE,eE,eE,false,false,0,0,0,0⟩:ai),false,a0)) (aq (a0.fl.length+([a1]:List ai).length≤9223372036854775807∧(a0.fl.length+([a1]:List ai).length)*112≤140737488355328) (cond (decide (((a0.fl++([a1]:List ai)).length:Int)≤a0.dZ)) (some ((⟨0,eE,eE,eE,eE,false,false,0,0,0,0⟩:ai),false,(⟨a0.dZ,a0.fl++([a1]:List ai),a0.qG⟩:jB))) (aq ((0:Int)≤0∧0<((a0.fl++([a1]:List ai)).length:Int)) ((eV.f (a0.fl++([a1]:List ai)) 0 1).bind fun tc=>some ((a0.fl++([a1]:List ai)).getD ((0:Int).toNat) default,true,(⟨a0.dZ,tc,ax (a0.qG+1)⟩:jB))))))
def gF.f (a0:bf) (a1:BA):Option (Pos×Bool):=(ew.f a0 a1).bind fun ta=>cond (!ta) (some ((⟨0,eE⟩:Pos),false)) (aq ((mget a0.ar a1).isSome=true) (some ((⟨((mget a0.ar a1).getD default).cI,a1⟩:Pos),true)))
def fk.f (a0:aH) (a1:BA) (a2:BA):Option (Pos×Bool):=(aO.f a0 a1).bind fun ta=>(gF.f ta a2).bind fun tc=>some (tc.1,tc.2)
def cmp_isNaN_string.f (a0:BA):Option (Bool):=some (!decide (a0=a0))
def aD.f (a0:BA) (a1:BA):Option (Int):=(cmp_isNaN_string.f a0).bind fun ta=>(cmp_isNaN_string.f a1).bind fun tc=>cond ta (cond tc (some 0) (some (-1))) (cond tc (some 1) (cond (dH a0 a1) (some (-1)) (cond (dH a1 a0) (some 1) (some 0))))
def bE.l0 (k:Nat) (a0:List Int):Nat→Int→Option ((Int×Bool) ⊕ (Int))
 | 0,_=>none
 | ja+1,xa=>cond (decide (xa<(a0.length:Int))) (aq ((0:Int)≤xa∧xa<(a0.length:Int)) (cond (((bp .i64).at a0 xa) != 0) (some (.inr ((bp .i64).at a0 xa))) (bE.l0 k a0 ja (ax (xa+1))))) (some (.inl (xa,decide (xa<(a0.length:Int)))))
def bE.f (k:Nat) (a0:List Int):Option (Int):=(bE.l0 k a0 k 0).bind (fall fun pa=>some 0)
def cmp_isNaN_int.f (a0:Int):Option (Bool):=some (a0 != a0)
def cF.f (a0:Int) (a1:Int):Option (Int):=(cmp_isNaN_int.f a0).bind fun ta=>(cmp_isNaN_int.f a1).bind fun tc=>cond ta (cond tc (some 0) (some (-1))) (cond tc (some 1) (cond (decide (a0<a1)) (some (-1)) (cond (decide (a1<a0)) (some 1) (some 0))))
def im.f (k:Nat) (a0:Pos) (a1:Pos):Option (Int):=(cF.f a0.bJ a1.bJ).bind fun ta=>(aD.f a0.b9 a1.b9).bind fun tc=>(bE.f k ([ta,tc]:List Int)).bind fun te=>some te
def fJ.f (k:Nat) (a0:jT) (a1:bz) (a2:Pos):Option (Bool×jT):=cond ((mget a0.iE a1).isSome) ((im.f k ((mget a0.iE a1).getD (⟨0,eE⟩:Pos)) a2).bind fun ta=>cond (decide (0≤ta)) (some (false,a0)) (some (true,(⟨mput a0.iE a1 a2⟩:jT)))) (some (true,(⟨mput a0.iE a1 a2⟩:jT)))
def pG.f (a0:ai):Option (bz):=some (⟨a0.aa,a0.ak,a0.ag,a0.au⟩:bz)
def ie.f (k:Nat) (a0:gW) (a1:aH) (a2:ai):Option (Bool×Int×gW):=cond (a2.aE != 1) (some (false,1,a0)) ((eO.f k a2).bind fun ta=>cond (!ta) (some (false,1,a0)) ((iN.f a1 a2.aa a2.bB a2.ag).bind fun tc=>cond (tc==4) ((jK.f k a0.pP a2).bind fun te=>some (false,0,(⟨a0.p5,te.2.2⟩:gW))) (cond (tc==0) ((fk.f a1 a2.aa a2.bB).bind fun tg=>(pG.f a2).bind fun tj=>(fJ.f k a0.p5 tj tg.1).bind fun tm=>some (tm.1,0,(⟨tm.2,a0.pP⟩:gW))) (some (false,tc,a0)))))
def strings_Join.f (xs:List BA) (sep:BA):Option BA:=aq (xs.length≤140737488355328∧(Lib.join (xs.map (·.data.toList)) sep.data.toList).length≤140737488355328) (some ⟨(Lib.join (xs.map (·.data.toList)) sep.data.toList).toArray⟩)
def iz.f (a0:bz):Option (BA):=cond a0.au ((strings_Join.f ([(⟨#[109]⟩:BA),a0.aa,a0.ak,a0.ag,(⟨#[49]⟩:BA)]:List BA) (⟨#[32]⟩:BA)).bind fun ta=>some ta) ((strings_Join.f ([(⟨#[109]⟩:BA),a0.aa,a0.ak,a0.ag,(⟨#[48]⟩:BA)]:List BA) (⟨#[32]⟩:BA)).bind fun tc=>some tc)
def mn.f (k:Nat) (a0:ai):Option (Bool):=(fH.f k a0).bind fun ta=>cond ta (some (!a0.au)) (some false)
def cV.f:Nat→Int→Option ((List Int))
 | 0,_=>none
 | k+1,a0=>(cond (decide (a0<0)) (some 0) (some a0)).bind fun (pa:Int)=>cond (decide (pa<128)) (some ([IntKind.u8.wrap (pa)]:List Int)) ((cV.f k (ax (pa.tdiv 128))).bind fun ta=>aq (([IntKind.u8.wrap (ax (128+(pa.tmod 128)))]:List Int).length+ta.length≤9223372036854775807∧(([IntKind.u8.wrap (ax (128+(pa.tmod 128)))]:List Int).length+ta.length)*1≤140737488355328) (some (([IntKind.u8.wrap (ax (128+(pa.tmod 128)))]:List Int)++ta)))
def jH.f (k:Nat) (a0:BA):Option ((List Int)):=(cV.f k (a0.size:Int)).bind fun ta=>aq (ta.length+(mw a0).length≤9223372036854775807∧(ta.length+(mw a0).length)*1≤140737488355328) (some (ta++(mw a0)))
def pR.f (a0:Bool):Option ((List Int)):=cond a0 (some ([1]:List Int)) (some ([0]:List Int))
def kZ.f (k:Nat) (a0:ai):Option ((List Int)):=(cV.f k a0.aE).bind fun ta=>(jH.f k a0.aa).bind fun tc=>aq (ta.length+tc.length≤9223372036854775807∧(ta.length+tc.length)*1≤140737488355328) ((jH.f k a0.ak).bind fun te=>aq ((ta++tc).length+te.length≤9223372036854775807∧((ta++tc).length+te.length)*1≤140737488355328) ((jH.f k a0.bB).bind fun tg=>aq (((ta++tc)++te).length+tg.length≤9223372036854775807∧(((ta++tc)++te).length+tg.length)*1≤140737488355328) ((jH.f k a0.ag).bind fun tj=>aq ((((ta++tc)++te)++tg).length+tj.length≤9223372036854775807∧((((ta++tc)++te)++tg).length+tj.length)*1≤140737488355328) ((pR.f a0.jX).bind fun tm=>aq (((((ta++tc)++te)++tg)++tj).length+tm.length≤9223372036854775807∧(((((ta++tc)++te)++tg)++tj).length+tm.length)*1≤140737488355328) ((cV.f k a0.bV).bind fun tn=>aq ((((((ta++tc)++te)++tg)++tj)++tm).length+tn.length≤9223372036854775807∧((((((ta++tc)++te)++tg)++tj)++tm).length+tn.length)*1≤140737488355328) ((cV.f k a0.aU).bind fun tp=>aq (((((((ta++tc)++te)++tg)++tj)++tm)++tn).length+tp.length≤9223372036854775807∧(((((((ta++tc)++te)++tg)++tj)++tm)++tn).length+tp.length)*1≤140737488355328) ((cV.f k a0.aQ).bind fun tq=>aq ((((((((ta++tc)++te)++tg)++tj)++tm)++tn)++tp).length+tq.length≤9223372036854775807∧((((((((ta++tc)++te)++tg)++tj)++tm)++tn)++tp).length+tq.length)*1≤140737488355328) ((cV.f k a0.aX).bind fun tu=>aq (((((((((ta++tc)++te)++tg)++tj)++tm)++tn)++tp)++tq).length+tu.length≤9223372036854775807∧(((((((((ta++tc)++te)++tg)++tj)++tm)++tn)++tp)++tq).length+tu.length)*1≤140737488355328) (some (((((((((ta++tc)++te)++tg)++tj)++tm)++tn)++tp)++tq)++tu))))))))))
def iX.f (k:Nat) (a0:ai) (a1:ai):Option (Int):=cond (decide (a0.aX<a1.aX)) (some (-1)) (cond (decide (a1.aX<a0.aX)) (some 1) ((kZ.f k a0).bind fun ta=>(kZ.f k a1).bind fun tc=>cond (dH (fX ta) (fX tc)) (some (-1)) (cond (dH (fX tc) (fX ta)) (some 1) (some 0))))
def cU.l0 (k:Nat) (a0:jO) (a1:ai):Nat→Bool→Int→List ai→List Bool→Option ((Bool×Int×Bool×(List ai)×(List Bool)) ⊕ (jO×Bool×Int))
 | 0,_,_,_,_=>none
 | ja+1,xa,xb,xc,xd=>cond (decide (xb<(a0.fL.length:Int))) (aq ((0:Int)≤xb∧xb<(a0.fL.length:Int)) (cond (decide (((ai.K.at a0.fL xb).aa)=a1.aa)) (cond (decide (((ai.K.at a0.fL xb).ak)=a1.ak)) ((iX.f k a1 (ai.K.at a0.fL xb)).bind fun ta=>cond (decide (ta≤0)) (some (.inr (a0,false,0))) (cU.l0 k a0 a1 ja xa (ax (xb+1)) xc xd)) ((cond (!xa) (cond (dH a1.aa ((ai.K.at a0.fL xb).aa)) (aq (xc.length+([a1]:List ai).length≤9223372036854775807∧(xc.length+([a1]:List ai).length)*112≤140737488355328) (aq (xd.length+([false]:List Bool).length≤9223372036854775807∧(xd.length+([false]:List Bool).length)*1≤140737488355328) (some (true,true,xc++([a1]:List ai),xd++([false]:List Bool))))) (cond (decide (a1.aa=((ai.K.at a0.fL xb).aa))) (cond (dH a1.ak ((ai.K.at a0.fL xb).ak)) (aq (xc.length+([a1]:List ai).length≤9223372036854775807∧(xc.length+([a1]:List ai).length)*112≤140737488355328) (aq (xd.length+([false]:List Bool).length≤9223372036854775807∧(xd.length+([false]:List Bool).length)*1≤140737488355328) (some (true,dH a1.ak ((ai.K.at a0.fL xb).ak),xc++([a1]:List ai),xd++([false]:List Bool))))) (some (xa,dH a1.ak ((ai.K.at a0.fL xb).ak),xc,xd))) (some (xa,false,xc,xd)))) (some (xa,false,xc,xd))).bind fun (pa:Bool×Bool×(List ai)×(List Bool))=>aq (pa.2.2.1.length+([ai.K.at a0.fL xb]:List ai).length≤9223372036854775807∧(pa.2.2.1.length+([ai.K.at a0.fL xb]:List ai).length)*112≤140737488355328) (aq ((0:Int)≤xb∧xb<(a0.cQ.length:Int)) (aq (pa.2.2.2.length+([bR.at a0.cQ xb]:List Bool).length≤9223372036854775807∧(pa.2.2.2.length+([bR.at a0.cQ xb]:List Bool).length)*1≤140737488355328) (cU.l0 k a0 a1 ja pa.1 (ax (xb+1)) (pa.2.2.1++([ai.K.at a0.fL xb]:List ai)) (pa.2.2.2++([bR.at a0.cQ xb]:List Bool))))))) ((cond (!xa) (cond (dH a1.aa ((ai.K.at a0.fL xb).aa)) (aq (xc.length+([a1]:List ai).length≤9223372036854775807∧(xc.length+([a1]:List ai).length)*112≤140737488355328) (aq (xd.length+([false]:List Bool).length≤9223372036854775807∧(xd.length+([false]:List Bool).length)*1≤140737488355328) (some (true,true,xc++([a1]:List ai),xd++([false]:List Bool))))) (cond (decide (a1.aa=((ai.K.at a0.fL xb).aa))) (cond (dH a1.ak ((ai.K.at a0.fL xb).ak)) (aq (xc.length+([a1]:List ai).length≤9223372036854775807∧(xc.length+([a1]:List ai).length)*112≤140737488355328) (aq (xd.length+([false]:List Bool).length≤9223372036854775807∧(xd.length+([false]:List Bool).length)*1≤140737488355328) (some (true,dH a1.ak ((ai.K.at a0.fL xb).ak),xc++([a1]:List ai),xd++([false]:List Bool))))) (some (xa,dH a1.ak ((ai.K.at a0.fL xb).ak),xc,xd))) (some (xa,false,xc,xd)))) (some (xa,false,xc,xd))).bind fun (pc:Bool×Bool×(List ai)×(List Bool))=>aq (pc.2.2.1.length+([ai.K.at a0.fL xb]:List ai).length≤9223372036854775807∧(pc.2.2.1.length+([ai.K.at a0.fL xb]:List ai).length)*112≤140737488355328) (aq ((0:Int)≤xb∧xb<(a0.cQ.length:Int)) (aq (pc.2.2.2.length+([bR.at a0.cQ xb]:List Bool).length≤9223372036854775807∧(pc.2.2.2.length+([bR.at a0.cQ xb]:List Bool).length)*1≤140737488355328) (cU.l0 k a0 a1 ja pc.1 (ax (xb+1)) (pc.2.2.1++([ai.K.at a0.fL xb]:List ai)) (pc.2.2.2++([bR.at a0.cQ xb]:List Bool)))))))) (some (.inl (xa,xb,decide (xb<(a0.fL.length:Int)),xc,xd)))
def cU.f (k:Nat) (a0:jO) (a1:ai):Option (jO×Bool×Int):=(mn.f k a1).bind fun ta=>cond (a1.aE != 2) (some (a0,false,1)) (cond (!ta) (some (a0,false,1)) ((cU.l0 k a0 a1 k false 0 ([]:List ai) ([]:List Bool)).bind (fall fun pa=>cond (!pa.1) (aq (pa.2.2.2.1.length+([a1]:List ai).length≤9223372036854775807∧(pa.2.2.2.1.length+([a1]:List ai).length)*112≤140737488355328) (aq (pa.2.2.2.2.length+([false]:List Bool).length≤9223372036854775807∧(pa.2.2.2.2.length+([false]:List Bool).length)*1≤140737488355328) (some ((⟨pa.2.2.2.1++([a1]:List ai),pa.2.2.2.2++([false]:List Bool)⟩:jO),true,0)))) (some ((⟨pa.2.2.2.1,pa.2.2.2.2⟩:jO),true,0)))))
def mf.f (k:Nat) (a0:ai):Option (Bool):=(eO.f k a0).bind fun ta=>cond ta (some (!a0.au)) (some false)
def slices_BinarySearchFunc_Edu_Edu.l0 (k:Nat) (a0:List ai) (a1:ai) (a2:ai→ai→Option Int):Nat→Int→Int→Option (Int×Int×Bool)
 | 0,_,_=>none
 | ja+1,xa,xb=>cond (decide (xa<xb)) (aq ((0:Int)≤(ax ((IntKind.u64.wrap (ax (xa+xb))).fdiv 2))∧(ax ((IntKind.u64.wrap (ax (xa+xb))).fdiv 2))<(a0.length:Int)) ((a2 (ai.K.at a0 (ax ((IntKind.u64.wrap (ax (xa+xb))).fdiv 2))) a1).bind fun ta=>cond (decide (ta<0)) (slices_BinarySearchFunc_Edu_Edu.l0 k a0 a1 a2 ja (ax ((ax ((IntKind.u64.wrap (ax (xa+xb))).fdiv 2))+1)) xb) (slices_BinarySearchFunc_Edu_Edu.l0 k a0 a1 a2 ja xa (ax ((IntKind.u64.wrap (ax (xa+xb))).fdiv 2))))) (some (xa,xb,decide (xa<xb)))
def slices_BinarySearchFunc_Edu_Edu.f (k:Nat) (a0:List ai) (a1:ai) (a2:ai→ai→Option Int):Option (Int×Bool):=(slices_BinarySearchFunc_Edu_Edu.l0 k a0 a1 a2 k 0 (a0.length:Int)).bind fun (pa:Int×Int×Bool)=>cond (decide (pa.1<(a0.length:Int))) (aq ((0:Int)≤pa.1∧pa.1<(a0.length:Int)) ((a2 (ai.K.at a0 pa.1) a1).bind fun ta=>some (pa.1,(ta==0)))) (some (pa.1,false))
def dU.f (k:Nat) (a0:ai) (a1:ai):Option (Int):=(aD.f a0.aa a1.aa).bind fun ta=>(aD.f a0.ak a1.ak).bind fun tc=>(bE.f k ([ta,tc]:List Int)).bind fun te=>some te
def dW.f (k:Nat) (a0:bH) (a1:ai):Option (Int×Bool):=(slices_BinarySearchFunc_Edu_Edu.f k a0.fl a1 (dU.f k)).bind fun ta=>some (ta.1,ta.2)
def pJ.f (a0:ai):Option (uB):=some (⟨a0.aE,a0.aa,a0.ak,a0.ag,a0.au⟩:uB)
def kL.f (a0:List Int) (a1:List Int):Option (Int):=some (GN a0 a1)
def cD.l0 (k:Nat):Nat→Int→List Int→Option (Int×Bool×(List Int))
 | 0,_,_=>none
 | ja+1,xa,xb=>cond (decide (128≤xa)) (aq (xb.length+([IntKind.u8.wrap (ax ((xa.tmod 128)+128))]:List Int).length≤9223372036854775807∧(xb.length+([IntKind.u8.wrap (ax ((xa.tmod 128)+128))]:List Int).length)*1≤140737488355328) (cD.l0 k ja (ax (xa.tdiv 128)) (xb++([IntKind.u8.wrap (ax ((xa.tmod 128)+128))]:List Int)))) (some (xa,decide (128≤xa),xb))
def cD.f (k:Nat) (a0:List Int) (a1:Int):Option ((List Int)):=aq ((0:Int)≤(a0.length:Int)∧0≤(a0.length:Int).toNat∧(a0.length:Int).toNat≤a0.length) ((cD.l0 k k (max a1 0) ((a0.take ((a0.length:Int).toNat)).drop 0)).bind fun (pa:Int×Bool×(List Int))=>aq (pa.2.2.length+([IntKind.u8.wrap (pa.1)]:List Int).length≤9223372036854775807∧(pa.2.2.length+([IntKind.u8.wrap (pa.1)]:List Int).length)*1≤140737488355328) (some (pa.2.2++([IntKind.u8.wrap (pa.1)]:List Int))))
def oo.f (k:Nat) (a0:List Int) (a1:BA):Option ((List Int)):=(cD.f k a0 (a1.size:Int)).bind fun ta=>aq (ta.length+(mw a1).length≤9223372036854775807∧(ta.length+(mw a1).length)*1≤140737488355328) (some (ta++(mw a1)))
def oD.f (k:Nat) (a0:List Int) (a1:Bool):Option ((List Int)):=cond a1 ((cD.f k a0 1).bind fun ta=>some ta) ((cD.f k a0 0).bind fun tc=>some tc)
def cR.l0 (k:Nat) (a0:ai):Nat→Int→List Int→Option (Int×Bool×(List Int))
 | 0,_,_=>none
 | ja+1,xa,xb=>cond (decide (xa<(([a0.bV,a0.aU,a0.aQ,a0.aX]:List Int).length:Int))) (aq ((0:Int)≤xa∧xa<(([a0.bV,a0.aU,a0.aQ,a0.aX]:List Int).length:Int)) ((cD.f k xb ((bp .i64).at ([a0.bV,a0.aU,a0.aQ,a0.aX]:List Int) xa)).bind fun ta=>cR.l0 k a0 ja (ax (xa+1)) ta)) (some (xa,decide (xa<(([a0.bV,a0.aU,a0.aQ,a0.aX]:List Int).length:Int)),xb))
def cR.l1 (k:Nat) (a0:ai):Nat→Int→List Int→Option (Int×Bool×(List Int))
 | 0,_,_=>none
 | ja+1,xa,xb=>cond (decide (xa<(([a0.aa,a0.ak,a0.bB,a0.ag]:List BA).length:Int))) (aq ((0:Int)≤xa∧xa<(([a0.aa,a0.ak,a0.bB,a0.ag]:List BA).length:Int)) ((oo.f k xb (aC.at ([a0.aa,a0.ak,a0.bB,a0.ag]:List BA) xa)).bind fun ta=>cR.l1 k a0 ja (ax (xa+1)) ta)) (some (xa,decide (xa<(([a0.aa,a0.ak,a0.bB,a0.ag]:List BA).length:Int)),xb))
def cR.f (k:Nat) (a0:ai):Option ((List Int)):=(cD.f k ([]:List Int) a0.aE).bind fun ta=>(cR.l1 k a0 k 0 ta).bind fun (pa:Int×Bool×(List Int))=>(oD.f k pa.2.2 a0.jX).bind fun tc=>(cR.l0 k a0 k 0 tc).bind fun (pc:Int×Bool×(List Int))=>some pc.2.2
def lq.f (k:Nat) (a0:ai) (a1:ai):Option (Int):=(cF.f a0.aX a1.aX).bind fun ta=>(cR.f k a0).bind fun tc=>(cR.f k a1).bind fun te=>(kL.f tc te).bind fun tg=>(bE.f k ([ta,tg]:List Int)).bind fun tj=>some tj
def jJ.f (k:Nat) (a0:ai) (a1:ai):Option (Bool):=(pJ.f a0).bind fun ta=>(pJ.f a1).bind fun tc=>cond (decide (ta=tc)) ((lq.f k a0 a1).bind fun te=>some (decide (0<te))) (some false)
def cX.f (xs:List ai) (i:Int) (ys:List ai):Option (List ai):=aq ((0:Int)≤i∧i≤(xs.length:Int)∧0<ys.length∧xs.length+ys.length≤4611686018427387904∧(xs.length+ys.length)*112≤140737488355328) (some (xs.take i.toNat++ys++xs.drop i.toNat))
def dx.f (a0:aM) (a1:Int) (a2:db):Option (aM):=aq ((0:Int)≤a1∧a1<(a0.fl.length:Int)) (some (⟨a0.fl.set a1.toNat a2,mput a0.iE a2.dI a1⟩:aM))
def heap_ahead.f (k:Nat) (a0:db) (a1:db):Option (Int):=(cF.f a0.kS a1.kS).bind fun ta=>(aD.f a0.dI a1.dI).bind fun tc=>(bE.f k ([ta,tc]:List Int)).bind fun te=>some te
def heap_Heap_down.l0 (k:Nat) (a0:aM) (a1:Int):Nat→Int→aM→Option (Int×Int×Bool×Bool×aM)
 | 0,_,_=>none
 | ja+1,xa,xb=>(cond (decide ((ax ((ax ((ax (2*xa))+1))+1))<(xb.fl.length:Int))) (aq ((0:Int)≤(ax ((ax ((ax (2*xa))+1))+1))∧(ax ((ax ((ax (2*xa))+1))+1))<(xb.fl.length:Int)) (aq ((0:Int)≤(ax ((ax (2*xa))+1))∧(ax ((ax (2*xa))+1))<(xb.fl.length:Int)) ((heap_ahead.f k (xb.fl.getD ((ax ((ax ((ax (2*xa))+1))+1)).toNat) default) (xb.fl.getD ((ax ((ax (2*xa))+1)).toNat) default)).bind fun ta=>cond (decide (ta<0)) (some (ax ((ax ((ax (2*xa))+1))+1),decide (ta<0))) (some (ax ((ax (2*xa))+1),decide (ta<0)))))) (some (ax ((ax (2*xa))+1),false))).bind fun (pa:Int×Bool)=>cond (decide ((xb.fl.length:Int)≤pa.1)) (some (xa,pa.1,pa.2,true,xb)) (aq ((0:Int)≤pa.1∧pa.1<(xb.fl.length:Int)) ((heap_ahead.f k (a0.fl.getD a1.toNat default) (xb.fl.getD pa.1.toNat default)).bind fun tc=>cond (decide (tc<0)) (some (xa,pa.1,pa.2,decide (tc<0),xb)) (aq ((0:Int)≤pa.1∧pa.1<(xb.fl.length:Int)) ((dx.f xb xa (xb.fl.getD pa.1.toNat default)).bind fun te=>heap_Heap_down.l0 k a0 a1 ja pa.1 te))))
def heap_Heap_down.f (k:Nat) (a0:aM) (a1:Int):Option (aM):=aq ((0:Int)≤a1∧a1<(a0.fl.length:Int)) ((heap_Heap_down.l0 k a0 a1 k a1 a0).bind fun (pa:Int×Int×Bool×Bool×aM)=>(dx.f pa.2.2.2.2 pa.1 (a0.fl.getD a1.toNat default)).bind fun ta=>some ta)
def cZ.l0 (k:Nat) (a0:aM) (a1:Int):Nat→Int→aM→Option (Int×Bool×aM)
 | 0,_,_=>none
 | ja+1,xa,xb=>cond (decide (0<xa)) (aq ((0:Int)≤(ax ((ax (xa-1)).tdiv 2))∧(ax ((ax (xa-1)).tdiv 2))<(xb.fl.length:Int)) ((heap_ahead.f k (a0.fl.getD a1.toNat default) (xb.fl.getD ((ax ((ax (xa-1)).tdiv 2)).toNat) default)).bind fun ta=>cond (decide (ta<0)) (aq ((0:Int)≤(ax ((ax (xa-1)).tdiv 2))∧(ax ((ax (xa-1)).tdiv 2))<(xb.fl.length:Int)) ((dx.f xb xa (xb.fl.getD ((ax ((ax (xa-1)).tdiv 2)).toNat) default)).bind fun tc=>cZ.l0 k a0 a1 ja (ax ((ax (xa-1)).tdiv 2)) tc)) (some (xa,decide (ta<0),xb)))) (some (xa,false,xb))
def cZ.f (k:Nat) (a0:aM) (a1:Int):Option (aM):=aq ((0:Int)≤a1∧a1<(a0.fl.length:Int)) ((cZ.l0 k a0 a1 k a1 a0).bind fun (pa:Int×Bool×aM)=>(dx.f pa.2.2 pa.1 (a0.fl.getD a1.toNat default)).bind fun ta=>some ta)
def dw.f (k:Nat) (a0:aM) (a1:BA):Option (Bool×aM):=cond (!((mget a0.iE a1).isSome)) (some (false,a0)) (aq ((0:Int)≤(ax ((a0.fl.length:Int)-1))∧(ax ((a0.fl.length:Int)-1))<(a0.fl.length:Int)) (aq ((0:Int)≤(ax ((a0.fl.length:Int)-1))∧0≤(ax ((a0.fl.length:Int)-1)).toNat∧(ax ((a0.fl.length:Int)-1)).toNat≤a0.fl.length) (cond (decide (((mget a0.iE a1).getD 0)<(ax ((a0.fl.length:Int)-1)))) ((dx.f (⟨(a0.fl.take ((ax ((a0.fl.length:Int)-1)).toNat)).drop 0,lK a0.iE a1⟩:aM) ((mget a0.iE a1).getD 0) (a0.fl.getD ((ax ((a0.fl.length:Int)-1)).toNat) default)).bind fun ta=>(heap_Heap_down.f k ta ((mget a0.iE a1).getD 0)).bind fun tc=>(cZ.f k tc ((mget tc.iE ((a0.fl.getD ((ax ((a0.fl.length:Int)-1)).toNat) default).dI)).getD 0)).bind fun te=>some (true,te)) (some (true,(⟨(a0.fl.take ((ax ((a0.fl.length:Int)-1)).toNat)).drop 0,lK a0.iE a1⟩:aM))))))
def eR.f (k:Nat) (a0:aM) (a1:Int) (a2:BA):Option (aM):=(dw.f k a0 a2).bind fun ta=>aq (ta.2.fl.length+([(⟨a1,a2⟩:db)]:List db).length≤9223372036854775807∧(ta.2.fl.length+([(⟨a1,a2⟩:db)]:List db).length)*24≤140737488355328) ((cZ.f k (⟨ta.2.fl++([(⟨a1,a2⟩:db)]:List db),ta.2.iE⟩:aM) (ax (((ta.2.fl++([(⟨a1,a2⟩:db)]:List db)).length:Int)-1))).bind fun tc=>some tc)
def jz.f (a0:ai):Option (Int):=some (ax (a0.aQ+a0.bV))
def fi.f (k:Nat) (a0:bH) (a1:ai):Option (Bool×Int×bH):=cond (a1.aE != 2) (some (false,1,a0)) ((mf.f k a1).bind fun ta=>cond (!ta) (some (false,1,a0)) ((dW.f k a0 a1).bind fun tc=>(cond tc.2 (aq ((0:Int)≤tc.1∧tc.1<(a0.fl.length:Int)) (cond (decide (a0.fl.getD tc.1.toNat default=a1)) (some (.inr (false,0,a0))) (aq ((0:Int)≤tc.1∧tc.1<(a0.fl.length:Int)) ((jJ.f k a1 (a0.fl.getD tc.1.toNat default)).bind fun te=>cond (!te) (some (.inr (false,0,a0))) (aq ((0:Int)≤tc.1∧tc.1<(a0.fl.length:Int)) (some (.inl (true,!te,true,(⟨a0.fl.set tc.1.toNat a1,a0.gB⟩:bH))))))))) ((cX.f a0.fl tc.1 ([a1]:List ai)).bind fun tg=>some (.inl (false,false,false,(⟨tg,a0.gB⟩:bH))))).bind (fall fun pa=>aq (a1.aa.size+(⟨#[32]⟩:BA).size≤9223372036854775807) (aq ((a1.aa++(⟨#[32]⟩:BA)).size+a1.ak.size≤9223372036854775807) ((dw.f k pa.2.2.2.gB ((a1.aa++(⟨#[32]⟩:BA))++a1.ak)).bind fun tj=>cond a1.jX ((jz.f a1).bind fun tm=>(eR.f k tj.2 tm ((a1.aa++(⟨#[32]⟩:BA))++a1.ak)).bind fun tn=>some (true,0,(⟨pa.2.2.2.fl,tn⟩:bH))) (some (true,0,(⟨pa.2.2.2.fl,tj.2⟩:bH))))))))
def jt.f (a0:BA):Option (BA):=aq ((⟨#[116,32]⟩:BA).size+a0.size≤9223372036854775807) (some ((⟨#[116,32]⟩:BA)++a0))
def di.l0 (k:Nat) (a0:kA) (a1:ai):Nat→Bool→Int→List ai→List Int→Option ((Bool×Int×Bool×(List ai)×(List Int)) ⊕ (kA×Bool×Int))
 | 0,_,_,_,_=>none
 | ja+1,xa,xb,xc,xd=>cond (decide (xb<(a0.fL.length:Int))) (aq ((0:Int)≤xb∧xb<(a0.fL.length:Int)) (cond (decide (((ai.K.at a0.fL xb).ak)=a1.ak)) ((iX.f k a1 (ai.K.at a0.fL xb)).bind fun ta=>cond (decide (ta≤0)) (some (.inr (a0,false,0))) (di.l0 k a0 a1 ja xa (ax (xb+1)) xc xd)) ((cond (!xa) (cond (dH a1.ak ((ai.K.at a0.fL xb).ak)) (aq (xc.length+([a1]:List ai).length≤9223372036854775807∧(xc.length+([a1]:List ai).length)*112≤140737488355328) (aq (xd.length+([(-1)]:List Int).length≤9223372036854775807∧(xd.length+([(-1)]:List Int).length)*8≤140737488355328) (some (true,dH a1.ak ((ai.K.at a0.fL xb).ak),xc++([a1]:List ai),xd++([(-1)]:List Int))))) (some (xa,dH a1.ak ((ai.K.at a0.fL xb).ak),xc,xd))) (some (xa,false,xc,xd))).bind fun (pa:Bool×Bool×(List ai)×(List Int))=>aq (pa.2.2.1.length+([ai.K.at a0.fL xb]:List ai).length≤9223372036854775807∧(pa.2.2.1.length+([ai.K.at a0.fL xb]:List ai).length)*112≤140737488355328) (aq ((0:Int)≤xb∧xb<(a0.cQ.length:Int)) (aq (pa.2.2.2.length+([(bp .i64).at a0.cQ xb]:List Int).length≤9223372036854775807∧(pa.2.2.2.length+([(bp .i64).at a0.cQ xb]:List Int).length)*8≤140737488355328) (di.l0 k a0 a1 ja pa.1 (ax (xb+1)) (pa.2.2.1++([ai.K.at a0.fL xb]:List ai)) (pa.2.2.2++([(bp .i64).at a0.cQ xb]:List Int)))))))) (some (.inl (xa,xb,decide (xb<(a0.fL.length:Int)),xc,xd)))
def di.f (k:Nat) (a0:kA) (a1:ai):Option (kA×Bool×Int):=(mn.f k a1).bind fun ta=>cond (a1.aE != 3) (some (a0,false,1)) (cond (!ta) (some (a0,false,1)) ((di.l0 k a0 a1 k false 0 ([]:List ai) ([]:List Int)).bind (fall fun pa=>cond (!pa.1) (aq (pa.2.2.2.1.length+([a1]:List ai).length≤9223372036854775807∧(pa.2.2.2.1.length+([a1]:List ai).length)*112≤140737488355328) (aq (pa.2.2.2.2.length+([(-1)]:List Int).length≤9223372036854775807∧(pa.2.2.2.2.length+([(-1)]:List Int).length)*8≤140737488355328) (some ((⟨pa.2.2.2.1++([a1]:List ai),pa.2.2.2.2++([(-1)]:List Int)⟩:kA),true,0)))) (some ((⟨pa.2.2.2.1,pa.2.2.2.2⟩:kA),true,0)))))
def az.l0 (k:Nat) (a0:List ai) (a1:BA) (a2:ai→BA→Option Int):Nat→Int→Int→Option (Int×Int×Bool)
 | 0,_,_=>none
 | ja+1,xa,xb=>cond (decide (xa<xb)) (aq ((0:Int)≤(ax ((IntKind.u64.wrap (ax (xa+xb))).fdiv 2))∧(ax ((IntKind.u64.wrap (ax (xa+xb))).fdiv 2))<(a0.length:Int)) ((a2 (ai.K.at a0 (ax ((IntKind.u64.wrap (ax (xa+xb))).fdiv 2))) a1).bind fun ta=>cond (decide (ta<0)) (az.l0 k a0 a1 a2 ja (ax ((ax ((IntKind.u64.wrap (ax (xa+xb))).fdiv 2))+1)) xb) (az.l0 k a0 a1 a2 ja xa (ax ((IntKind.u64.wrap (ax (xa+xb))).fdiv 2))))) (some (xa,xb,decide (xa<xb)))
def az.f (k:Nat) (a0:List ai) (a1:BA) (a2:ai→BA→Option Int):Option (Int×Bool):=(az.l0 k a0 a1 a2 k 0 (a0.length:Int)).bind fun (pa:Int×Int×Bool)=>cond (decide (pa.1<(a0.length:Int))) (aq ((0:Int)≤pa.1∧pa.1<(a0.length:Int)) ((a2 (ai.K.at a0 pa.1) a1).bind fun ta=>some (pa.1,(ta==0)))) (some (pa.1,false))
def dB.f (a0:ai) (a1:BA):Option (Int):=(aD.f a0.ak a1).bind fun ta=>some ta
def dy.f (k:Nat) (a0:bM) (a1:BA):Option (Int×Bool):=(az.f k a0.fl a1 dB.f).bind fun ta=>some (ta.1,ta.2)
def dV.f (a0:ai) (a1:Int):Option (Int):=cond (a0.aU==2) (cond (decide (a1<(ax (a0.aQ+30)))) (some 2) (cond (decide (a1<(ax (a0.aQ+90)))) (some 1) (some 0))) (cond (a0.aU==1) (cond (decide (a1<(ax (a0.aQ+90)))) (some 1) (some 0)) (some 0))
def bF.l0 (k:Nat) (a0:ai) (a1:Int):Nat→Int→Option ((Int×Bool) ⊕ (Int×Bool))
 | 0,_=>none
 | ja+1,xa=>cond (decide (xa<2)) (aq ((0:Int)≤xa∧xa<(2:Int)) (cond (decide (a1<(ax (a0.aQ+((bp .i64).at ([30,90]:List Int) xa))))) ((dV.f a0 (ax ((ax (a0.aQ+((bp .i64).at ([30,90]:List Int) xa)))-1))).bind fun ta=>(dV.f a0 (ax (a0.aQ+((bp .i64).at ([30,90]:List Int) xa)))).bind fun tc=>cond (decide (tc<ta)) (some (.inr (ax (a0.aQ+((bp .i64).at ([30,90]:List Int) xa)),true))) (bF.l0 k a0 a1 ja (ax (xa+1)))) (bF.l0 k a0 a1 ja (ax (xa+1))))) (some (.inl (xa,decide (xa<2))))
def bF.f (k:Nat) (a0:ai) (a1:Int):Option (Int×Bool):=(bF.l0 k a0 a1 k 0).bind (fall fun pa=>some (0,false))
def eG.f (k:Nat) (a0:bM) (a1:ai):Option (Bool×Int×bM):=cond (a1.aE != 3) (some (false,1,a0)) ((mf.f k a1).bind fun ta=>cond (!ta) (some (false,1,a0)) ((dy.f k a0 a1.ak).bind fun tc=>(cond tc.2 (aq ((0:Int)≤tc.1∧tc.1<(a0.fl.length:Int)) ((jJ.f k a1 (a0.fl.getD tc.1.toNat default)).bind fun te=>cond (!te) (some (.inr (false,0,a0))) (aq ((0:Int)≤tc.1∧tc.1<(a0.fl.length:Int)) (some (.inl (true,!te,true,(⟨a0.fl.set tc.1.toNat a1,a0.eU⟩:bM))))))) ((cX.f a0.fl tc.1 ([a1]:List ai)).bind fun tg=>some (.inl (false,false,false,(⟨tg,a0.eU⟩:bM))))).bind (fall fun pa=>(dw.f k pa.2.2.2.eU a1.ak).bind fun tj=>(bF.f k a1 (-1)).bind fun tm=>cond tm.2 ((eR.f k tj.2 tm.1 a1.ak).bind fun tn=>some (true,0,(⟨pa.2.2.2.fl,tn⟩:bM))) (some (true,0,(⟨pa.2.2.2.fl,tj.2⟩:bM))))))
def jg.f (a0:BA):Option (BA):=aq ((⟨#[112,32]⟩:BA).size+a0.size≤9223372036854775807) (some ((⟨#[112,32]⟩:BA)++a0))
def clock_Counter_Add.l0 (k:Nat) (a0:kJ) (a1:Int):Nat→Option (Int×Int×kJ)
 | 0=>none
 | ja+1=>cond (decide (0<a1)) (cond (a0.fn.fv==a0.dZ) (some (0,11,a0)) ((cond (decide (a1<(ax (a0.dZ-a0.fn.fv)))) (some (ax (a0.fn.fv+a1))) (some a0.dZ)).bind fun (pa:Int)=>cond (a1==0) (some (pa,0,a0)) (some (pa,0,(⟨(⟨pa⟩:Bc),a0.dZ⟩:kJ))))) ((cond (decide (a1<(ax (a0.dZ-a0.fn.fv)))) (some (ax (a0.fn.fv+a1))) (some a0.dZ)).bind fun (pc:Int)=>cond (a1==0) (some (pc,0,a0)) (some (pc,0,(⟨(⟨pc⟩:Bc),a0.dZ⟩:kJ))))
def clock_Counter_Add.f (k:Nat) (a0:kJ) (a1:Int):Option (Int×Int×kJ):=cond (decide (a1<0)) (some (0,1,a0)) (clock_Counter_Add.l0 k a0 a1 k)
def fq.f (k:Nat) (a0:kJ):Option (Int×Int×kJ):=(clock_Counter_Add.f k a0 1).bind fun ta=>some (ta.1,ta.2.1,ta.2.2)
def bA.l0 (k:Nat) (a0:List BA) (a1:BA):Nat→Int→Option ((Int×Bool) ⊕ (Int))
 | 0,_=>none
 | ja+1,xa=>cond (decide (xa<(a0.length:Int))) (aq ((0:Int)≤xa∧xa<(a0.length:Int)) (cond (decide (a1=(aC.at a0 xa))) (some (.inr xa)) (bA.l0 k a0 a1 ja (ax (xa+1))))) (some (.inl (xa,decide (xa<(a0.length:Int)))))
def bA.f (k:Nat) (a0:List BA) (a1:BA):Option (Int):=(bA.l0 k a0 a1 k 0).bind (fall fun pa=>some (-1))
def dS.f (xs:List BA) (i j:Int):Option (List BA):=aq ((0:Int)≤i∧i≤j∧j≤(xs.length:Int)) (some (xs.take i.toNat++xs.drop j.toNat))
def ic.f (k:Nat) (a0:bK) (a1:BA):Option (Int×Int×bK):=(fq.f k a0.iE).bind fun ta=>cond (ta.2.1 != 0) (some (0,ta.2.1,(⟨ta.2.2,a0.eJ,a0.nX⟩:bK))) ((cond ((mget a0.nX a1).isSome) ((bA.f k a0.eJ a1).bind fun tc=>(dS.f a0.eJ tc (ax (tc+1))).bind fun te=>some (⟨ta.2.2,te,a0.nX⟩:bK)) (some (⟨ta.2.2,a0.eJ,a0.nX⟩:bK))).bind fun (pa:bK)=>aq (pa.eJ.length+([a1]:List BA).length≤9223372036854775807∧(pa.eJ.length+([a1]:List BA).length)*16≤140737488355328) (some (ta.1,0,(⟨pa.iE,pa.eJ++([a1]:List BA),mput pa.nX a1 ta.1⟩:bK))))
def kz.f (a0:ig):Option (BA):=cond (a0.aE==1) ((cond a0.fK.au (some (⟨#[32,49]⟩:BA)) (some (⟨#[32,48]⟩:BA))).bind fun (pa:BA)=>aq ((⟨#[109,32]⟩:BA).size+a0.fK.aa.size≤9223372036854775807) (aq (((⟨#[109,32]⟩:BA)++a0.fK.aa).size+(⟨#[32]⟩:BA).size≤9223372036854775807) (aq ((((⟨#[109,32]⟩:BA)++a0.fK.aa)++(⟨#[32]⟩:BA)).size+a0.fK.ak.size≤9223372036854775807) (aq (((((⟨#[109,32]⟩:BA)++a0.fK.aa)++(⟨#[32]⟩:BA))++a0.fK.ak).size+(⟨#[32]⟩:BA).size≤9223372036854775807) (aq ((((((⟨#[109,32]⟩:BA)++a0.fK.aa)++(⟨#[32]⟩:BA))++a0.fK.ak)++(⟨#[32]⟩:BA)).size+a0.fK.ag.size≤9223372036854775807) (aq (((((((⟨#[109,32]⟩:BA)++a0.fK.aa)++(⟨#[32]⟩:BA))++a0.fK.ak)++(⟨#[32]⟩:BA))++a0.fK.ag).size+pa.size≤9223372036854775807) (some (((((((⟨#[109,32]⟩:BA)++a0.fK.aa)++(⟨#[32]⟩:BA))++a0.fK.ak)++(⟨#[32]⟩:BA))++a0.fK.ag)++pa)))))))) (cond (a0.aE==2) (aq ((⟨#[116,32]⟩:BA).size+a0.jG.size≤9223372036854775807) (some ((⟨#[116,32]⟩:BA)++a0.jG))) (aq ((⟨#[112,32]⟩:BA).size+a0.jG.size≤9223372036854775807) (some ((⟨#[112,32]⟩:BA)++a0.jG))))
def mg.f (k:Nat) (a0:Src) (a1:dE) (a2:ai):Option (dE×Bool×Src):=(cond (a2.aE==1) ((qx.f k (⟨a1.fM,(⟨8,([]:List ai),0⟩:mI)⟩:pO) a1.fV a2).bind fun ta=>(ie.f k a0.bu a0.cK a2).bind fun tc=>cond (tc.1 != ta.2.1) (some (.inr ((⟨a1.fV,ta.1.fL,a1.fT,a1.fP,a1.fL,a1.aP⟩:dE),false,(⟨a0.cK,tc.2.2,a0.aW,a0.aY,a0.gG⟩:Src)))) (cond (ta.2.2 != tc.2.1) (some (.inr ((⟨a1.fV,ta.1.fL,a1.fT,a1.fP,a1.fL,a1.aP⟩:dE),false,(⟨a0.cK,tc.2.2,a0.aW,a0.aY,a0.gG⟩:Src)))) ((pz.f a2).bind fun te=>(iz.f te).bind fun tg=>some (.inl (tg,(⟨1,te,eE⟩:ig),(⟨a1.fV,ta.1.fL,a1.fT,a1.fP,a1.fL,a1.aP⟩:dE),tc.2.2,a0.aW,a0.aY))))) (cond (a2.aE==2) ((cU.f k a1.fT a2).bind fun tj=>(fi.f k a0.aW a2).bind fun tm=>cond (tm.1 != tj.2.1) (some (.inr ((⟨a1.fV,a1.fM,tj.1,a1.fP,a1.fL,a1.aP⟩:dE),false,(⟨a0.cK,a0.bu,tm.2.2,a0.aY,a0.gG⟩:Src)))) ((jt.f a2.aa).bind fun tn=>some (.inl (tn,(⟨2,(⟨eE,eE,eE,false⟩:bz),a2.aa⟩:ig),(⟨a1.fV,a1.fM,tj.1,a1.fP,a1.fL,a1.aP⟩:dE),a0.bu,tm.2.2,a0.aY)))) ((di.f k a1.fP a2).bind fun tp=>(eG.f k a0.aY a2).bind fun tq=>cond (tq.1 != tp.2.1) (some (.inr ((⟨a1.fV,a1.fM,a1.fT,tp.1,a1.fL,a1.aP⟩:dE),false,(⟨a0.cK,a0.bu,a0.aW,tq.2.2,a0.gG⟩:Src)))) ((jg.f a2.ak).bind fun tu=>some (.inl (tu,(⟨3,(⟨eE,eE,eE,false⟩:bz),a2.ak⟩:ig),(⟨a1.fV,a1.fM,a1.fT,tp.1,a1.fL,a1.aP⟩:dE),a0.bu,a0.aW,tq.2.2)))))).bind (fall fun pa=>aq (([]:List ig).length+pa.2.2.1.fL.length≤9223372036854775807∧(([]:List ig).length+pa.2.2.1.fL.length)*80≤140737488355328) (aq ((([]:List ig)++pa.2.2.1.fL).length+([(⟨pa.2.1.aE,pa.2.1.fK,pa.2.1.jG⟩:ig)]:List ig).length≤9223372036854775807∧((([]:List ig)++pa.2.2.1.fL).length+([(⟨pa.2.1.aE,pa.2.1.fK,pa.2.1.jG⟩:ig)]:List ig).length)*80≤140737488355328) ((ic.f k a0.gG pa.1).bind fun tw=>cond (tw.2.1==0) ((kz.f (⟨pa.2.1.aE,pa.2.1.fK,pa.2.1.jG⟩:ig)).bind fun tx=>some ((⟨pa.2.2.1.fV,pa.2.2.1.fM,pa.2.2.1.fT,pa.2.2.1.fP,(([]:List ig)++pa.2.2.1.fL)++([(⟨pa.2.1.aE,pa.2.1.fK,pa.2.1.jG⟩:ig)]:List ig),pa.2.2.1.aP⟩:dE),decide (pa.1=tx),(⟨a0.cK,pa.2.2.2.1,pa.2.2.2.2.1,pa.2.2.2.2.2,tw.2.2⟩:Src))) (some ((⟨pa.2.2.1.fV,pa.2.2.1.fM,pa.2.2.1.fT,pa.2.2.1.fP,(([]:List ig)++pa.2.2.1.fL)++([(⟨pa.2.1.aE,pa.2.1.fK,pa.2.1.jG⟩:ig)]:List ig),pa.2.2.1.aP⟩:dE),false,(⟨a0.cK,pa.2.2.2.1,pa.2.2.2.2.1,pa.2.2.2.2.2,tw.2.2⟩:Src))))))
def gA.f (k:Nat) (a0:Int):Option (BA):=(br.f a0 11).bind fun ta=>cond (ta==9) (some eE) (cond (ta==10) (some (⟨#[109,97,105,110]⟩:BA)) ((dq.f k ta).bind fun tc=>some tc))
def kK.f (k:Nat) (a0:ai):Option (ai):=(br.f a0.aE 3).bind fun ta=>(gQ.f a0.aU).bind fun tc=>(br.f a0.aQ 100).bind fun te=>(br.f a0.aX 9).bind fun tg=>cond ((ax (1+ta))==1) ((eS.f a0.bV).bind fun tj=>(br.f a0.aQ 9).bind fun tm=>(dq.f k (ax ((a0.bB.size:Int)+tm))).bind fun tn=>(gA.f k (a0.ag.size:Int)).bind fun tp=>some (⟨ax (1+ta),tj,tc,tn,tp,a0.au,false,0,0,te,tg⟩:ai)) (cond ((ax (1+ta))==2) ((eS.f a0.bV).bind fun tq=>cond a0.jX ((br.f a0.bV 60).bind fun tu=>some (⟨ax (1+ta),tq,tc,eE,eE,false,a0.jX,ax (1+tu),0,te,tg⟩:ai)) (some (⟨ax (1+ta),tq,tc,eE,eE,false,a0.jX,0,0,te,tg⟩:ai))) ((br.f a0.bV 3).bind fun tw=>some (⟨ax (1+ta),eE,tc,eE,eE,false,false,0,tw,te,tg⟩:ai)))
def slices_DeleteFunc_string_xo.l0 (k:Nat) (a1:(BA→Option Bool)):Nat→Int→Int→List BA→Option (Int×Int×Bool×(List BA))
 | 0,_,_,_=>none
 | ja+1,xa,xb,xc=>cond (decide (xb<(xc.length:Int))) (aq ((0:Int)≤xb∧xb<(xc.length:Int)) ((a1 (xc.getD xb.toNat default)).bind fun ta=>cond (!ta) (aq ((0:Int)≤xa∧xa<(xc.length:Int)) (slices_DeleteFunc_string_xo.l0 k a1 ja (ax (xa+1)) (ax (xb+1)) (xc.set xa.toNat (xc.getD xb.toNat default)))) (slices_DeleteFunc_string_xo.l0 k a1 ja xa (ax (xb+1)) xc))) (some (xa,xb,decide (xb<(xc.length:Int)),xc))
def slices_DeleteFunc_string_xo.f (k:Nat) (a0:List BA) (a1:(BA→Option Bool)):Option ((List BA)):=(aB.f k a0 a1).bind fun ta=>cond (ta==(-1)) (some a0) ((slices_DeleteFunc_string_xo.l0 k a1 k ta (ax (ta+1)) a0).bind fun (pa:Int×Int×Bool×(List BA))=>aq ((0:Int)≤pa.1∧pa.1.toNat<pa.2.2.2.length) (aq ((0:Int)≤pa.1∧0≤pa.1.toNat∧pa.1.toNat≤(pa.2.2.2.take pa.1.toNat++List.replicate (pa.2.2.2.length-pa.1.toNat) eE).length) (some (((pa.2.2.2.take pa.1.toNat++List.replicate (pa.2.2.2.length-pa.1.toNat) eE).take pa.1.toNat).drop 0))))
def eH.f (k:Nat) (a0:bH) (a1:BA) (a2:BA) (a3:Int):Option (Bool):=(dW.f k a0 (⟨0,a1,a2,eE,eE,false,false,0,0,0,0⟩:ai)).bind fun ta=>cond ta.2 (aq ((0:Int)≤ta.1∧ta.1<(a0.fl.length:Int)) (cond ((a0.fl.getD ta.1.toNat default).jX) (aq ((0:Int)≤ta.1∧ta.1<(a0.fl.length:Int)) ((jz.f (a0.fl.getD ta.1.toNat default)).bind fun tc=>some (decide (a3<tc)))) (some false))) (some false)
def aR.l0 (k:Nat) (a0:bH) (a1:BA) (a2:Int):Nat→Int→List BA→Option (Int×Bool×(List BA))
 | 0,_,_=>none
 | ja+1,xa,xb=>cond (decide (xa<(a0.fl.length:Int))) (aq ((0:Int)≤xa∧xa<(a0.fl.length:Int)) (cond (decide (((a0.fl.getD xa.toNat default).aa)=a1)) ((eH.f k a0 a1 ((a0.fl.getD xa.toNat default).ak) a2).bind fun ta=>cond ta (aq (xb.length+([(a0.fl.getD xa.toNat default).ak]:List BA).length≤9223372036854775807∧(xb.length+([(a0.fl.getD xa.toNat default).ak]:List BA).length)*16≤140737488355328) (aR.l0 k a0 a1 a2 ja (ax (xa+1)) (xb++([(a0.fl.getD xa.toNat default).ak]:List BA)))) (aR.l0 k a0 a1 a2 ja (ax (xa+1)) xb)) (aR.l0 k a0 a1 a2 ja (ax (xa+1)) xb))) (some (xa,decide (xa<(a0.fl.length:Int)),xb))
def aR.f (k:Nat) (a0:bH) (a1:BA) (a2:Int):Option ((List BA)):=(aR.l0 k a0 a1 a2 k 0 ([]:List BA)).bind fun (pa:Int×Bool×(List BA))=>some pa.2.2
def gI (x y:Pos):Int:=if x.bJ<y.bJ then -1 else if y.bJ<x.bJ then 1 else jS x.b9 y.b9
def dK.f (xs:List Pos):Option (List Pos):=aq (xs.length≤1000000) (some (kO gI xs))
def n0.f (a0:aT):Option (Bool):=some true
def aI.g (e:BA×aT):Option Pos:=cond true (some ⟨e.2.cI,e.1⟩) none
def aI.f (a0:bf):Option (List BA):=aq (a0.ar.length≤1000000) (some ((kO gI (a0.ar.filterMap aI.g)).map (·.b9)))
def dag_Dag_All.l0 (k:Nat) (a0:bf) (ta:List BA):Nat→Int→List Event→Option (Int×Int×Bool×(List Event)×(List BA))
 | 0,_,_=>none
 | ja+1,xa,xb=>cond (decide (xa<(ta.length:Int))) (aq ((0:Int)≤xa∧xa<(ta.length:Int)) (aq ((mget a0.ar (ta.getD xa.toNat default)).isSome=true) ((iA.f (((mget a0.ar (ta.getD xa.toNat default)).getD default).fe)).bind fun tc=>aq (xb.length+([tc]:List Event).length≤9223372036854775807∧(xb.length+([tc]:List Event).length)*96≤140737488355328) (dag_Dag_All.l0 k a0 ta ja (ax (xa+1)) (xb++([tc]:List Event)))))) (some ((ta.length:Int),xa,decide (xa<(ta.length:Int)),xb,ta))
def dag_Dag_All.f (k:Nat) (a0:bf):Option ((List Event)):=((aI.f a0).bind fun ta=>dag_Dag_All.l0 k a0 ta k 0 ([]:List Event)).bind fun (pa:Int×Int×Bool×(List Event)×(List BA))=>some pa.2.2.2.1
def member_joined.l0 (k:Nat) (ta:(List Event)):Nat→Int→(List (BA×Int))→Option (Int×Int×Bool×(List (BA×Int))×(List Event))
 | 0,_,_=>none
 | ja+1,xa,xb=>cond (decide (xa<(ta.length:Int))) (aq ((0:Int)≤xa∧xa<(ta.length:Int)) (cond (((ta.getD xa.toNat default).bL)==1) (member_joined.l0 k ta ja (ax (xa+1)) (mput xb ((ta.getD xa.toNat default).ak) 1)) (cond (((ta.getD xa.toNat default).bL)==2) (member_joined.l0 k ta ja (ax (xa+1)) (lK xb ((ta.getD xa.toNat default).ak))) (member_joined.l0 k ta ja (ax (xa+1)) xb)))) (some ((ta.length:Int),xa,decide (xa<(ta.length:Int)),xb,ta))
def member_joined.f (k:Nat) (a0:bf):Option ((List (BA×Int))):=((dag_Dag_All.f k a0).bind fun ta=>member_joined.l0 k ta k 0 ([]:List (BA×Int))).bind fun (pa:Int×Int×Bool×(List (BA×Int))×(List Event))=>some pa.2.2.2.1
def jL.f (k:Nat) (a0:bf) (a1:BA):Option (Bool):=(member_joined.f k a0).bind fun ta=>some (decide (0<((mget ta a1).getD 0)))
def bN.f (k:Nat) (a0:aH) (a1:BA) (a2:BA):Option (Bool):=(aO.f a0 a1).bind fun ta=>(jL.f k ta a2).bind fun tc=>some tc
def il.f (k:Nat) (a0:BA) (c0:Src) (c1:BA):Option (Bool):=(bN.f k c0.cK c1 a0).bind fun ta=>some (!ta)
def kV.f (k:Nat) (a0:Src) (a1:BA) (a2:Int):Option ((List BA)):=(aR.f k a0.aW a1 a2).bind fun ta=>(slices_DeleteFunc_string_xo.f k ta (fun a0_=>il.f k a0_ a0 a1)).bind fun tc=>some tc
def iO.f (a0:kJ):Option (Int):=some a0.fn.fv
def iw.f (a0:bK):Option (Int):=(iO.f a0.iE).bind fun ta=>some ta
def cC.l0 (k:Nat) (a0:bK) (a1:Int):Nat→Int→Option (Int×Bool)
 | 0,_=>none
 | ja+1,xa=>cond (decide (0<xa)) (aq ((0:Int)≤(ax (xa-1))∧(ax (xa-1))<(a0.eJ.length:Int)) (cond (decide (a1<((mget a0.nX (a0.eJ.getD ((ax (xa-1)).toNat) default)).getD 0))) (cC.l0 k a0 a1 ja (ax (xa-1))) (some (xa,decide (a1<((mget a0.nX (a0.eJ.getD ((ax (xa-1)).toNat) default)).getD 0)))))) (some (xa,false))
def cC.f (k:Nat) (a0:bK) (a1:Int):Option ((List BA)):=(cC.l0 k a0 a1 k (a0.eJ.length:Int)).bind fun (pa:Int×Bool)=>aq ((0:Int)≤(ax ((a0.eJ.length:Int)-pa.1))∧(ax ((a0.eJ.length:Int)-pa.1))≤(9223372036854775807:Int)∧(ax ((a0.eJ.length:Int)-pa.1)).toNat*16≤140737488355328) (aq ((0:Int)≤pa.1∧pa.1.toNat≤a0.eJ.length) (some ((a0.eJ.drop pa.1.toNat).take (List.replicate (ax ((a0.eJ.length:Int)-pa.1)).toNat (eE:BA)).length++(List.replicate (ax ((a0.eJ.length:Int)-pa.1)).toNat (eE:BA)).drop (a0.eJ.length-pa.1.toNat))))
def gC.f (a0:BA) (a1:BA):Option (Int):=(ey.f a0 a1).bind fun ta=>some ta
def strings_Count.l0 (k:Nat) (a1:BA):Nat→BA→Int→Option (Int)
 | 0,_,_=>none
 | ja+1,xa,xb=>(gC.f xa a1).bind fun ta=>cond (ta==(-1)) (some xb) (aq ((0:Int)≤(ax (ta+(a1.size:Int)))∧(ax (ta+(a1.size:Int))).toNat≤xa.size∧xa.size≤xa.size) (strings_Count.l0 k a1 ja (xa.extract (ax (ta+(a1.size:Int))).toNat xa.size) (ax (xb+1))))
def strings_Count.f (k:Nat) (a0:BA) (a1:BA):Option (Int):=cond ((a1.size:Int)==0) (none) (cond ((a1.size:Int)==1) (aq ((0:Int)≤0∧0<(a1.size:Int)) (some (C2 a0 (bt a1 0)))) (strings_Count.l0 k a1 k a0 0))
def strings_genSplit.l0 (k:Nat) (a0:BA) (a1:BA) (a2:Int) (pa:Int):Nat→BA→Int→List BA→Option (BA×Int×Bool×(List BA))
 | 0,_,_,_=>none
 | ja+1,xa,xb,xc=>cond (decide (xb<(ax ((min pa (ax ((a0.size:Int)+1)))-1)))) ((gC.f xa a1).bind fun ta=>cond (decide (ta<0)) (some (xa,xb,decide (xb<(ax ((min pa (ax ((a0.size:Int)+1)))-1))),xc)) (aq ((0:Int)≤(ax (ta+a2))∧0≤(ax (ta+a2)).toNat∧(ax (ta+a2)).toNat≤xa.size) (aq ((0:Int)≤xb∧xb<(xc.length:Int)) (aq ((0:Int)≤(ax (ta+(a1.size:Int)))∧(ax (ta+(a1.size:Int))).toNat≤xa.size∧xa.size≤xa.size) (strings_genSplit.l0 k a0 a1 a2 pa ja (xa.extract (ax (ta+(a1.size:Int))).toNat xa.size) (ax (xb+1)) (xc.set xb.toNat (xa.extract 0 ((ax (ta+a2)).toNat)))))))) (some (xa,xb,decide (xb<(ax ((min pa (ax ((a0.size:Int)+1)))-1))),xc))
def strings_genSplit.f (k:Nat) (a0:BA) (a1:BA) (a2:Int) (a3:Int):Option ((List BA)):=cond (a3==0) (some ([]:List BA)) (cond (decide (a1=eE)) (none) ((cond (decide (a3<0)) ((strings_Count.f k a0 a1).bind fun ta=>some (ax (ta+1))) (some a3)).bind fun (pa:Int)=>aq ((0:Int)≤(min pa (ax ((a0.size:Int)+1)))∧(min pa (ax ((a0.size:Int)+1)))≤(9223372036854775807:Int)∧(min pa (ax ((a0.size:Int)+1))).toNat*16≤140737488355328) ((strings_genSplit.l0 k a0 a1 a2 pa k a0 0 (List.replicate (min pa (ax ((a0.size:Int)+1))).toNat (eE:BA))).bind fun (pc:BA×Int×Bool×(List BA))=>aq ((0:Int)≤pc.2.1∧pc.2.1<(pc.2.2.2.length:Int)) (aq ((0:Int)≤(ax (pc.2.1+1))∧0≤(ax (pc.2.1+1)).toNat∧(ax (pc.2.1+1)).toNat≤(pc.2.2.2.set pc.2.1.toNat pc.1).length) (some (((pc.2.2.2.set pc.2.1.toNat pc.1).take ((ax (pc.2.1+1)).toNat)).drop 0))))))
def kQ.f (k:Nat) (a0:BA) (a1:BA):Option ((List BA)):=(strings_genSplit.f k a0 a1 0 (-1)).bind fun ta=>some ta
def na.f (k:Nat) (a0:BA):Option (jl):=(kQ.f k a0 (⟨#[32]⟩:BA)).bind fun ta=>cond ((ta.length:Int)==5) (aq ((0:Int)≤0∧0<(ta.length:Int)) (cond (decide ((ta.getD ((0:Int).toNat) default)=(⟨#[109]⟩:BA))) (aq ((0:Int)≤4∧4<(ta.length:Int)) (cond (decide ((ta.getD ((4:Int).toNat) default)=(⟨#[48]⟩:BA))) (aq ((0:Int)≤1∧1<(ta.length:Int)) (aq ((0:Int)≤2∧2<(ta.length:Int)) (aq ((0:Int)≤3∧3<(ta.length:Int)) (aq ((0:Int)≤4∧4<(ta.length:Int)) (some (jl.d89 (⟨ta.getD ((1:Int).toNat) default,ta.getD ((2:Int).toNat) default,ta.getD ((3:Int).toNat) default,decide ((ta.getD ((4:Int).toNat) default)=(⟨#[49]⟩:BA))⟩:bz))))))) (aq ((0:Int)≤4∧4<(ta.length:Int)) (cond (decide ((ta.getD ((4:Int).toNat) default)=(⟨#[49]⟩:BA))) (aq ((0:Int)≤1∧1<(ta.length:Int)) (aq ((0:Int)≤2∧2<(ta.length:Int)) (aq ((0:Int)≤3∧3<(ta.length:Int)) (aq ((0:Int)≤4∧4<(ta.length:Int)) (some (jl.d89 (⟨ta.getD ((1:Int).toNat) default,ta.getD ((2:Int).toNat) default,ta.getD ((3:Int).toNat) default,decide ((ta.getD ((4:Int).toNat) default)=(⟨#[49]⟩:BA))⟩:bz))))))) (cond ((ta.length:Int)==2) (aq ((0:Int)≤0∧0<(ta.length:Int)) (cond (decide ((ta.getD ((0:Int).toNat) default)=(⟨#[116]⟩:BA))) (aq ((0:Int)≤1∧1<(ta.length:Int)) (some (jl.d141 (ta.getD ((1:Int).toNat) default)))) (cond ((ta.length:Int)==2) (aq ((0:Int)≤0∧0<(ta.length:Int)) (cond (decide ((ta.getD ((0:Int).toNat) default)=(⟨#[112]⟩:BA))) (aq ((0:Int)≤1∧1<(ta.length:Int)) (some (jl.d143 (ta.getD ((1:Int).toNat) default)))) (some jl.nil))) (some jl.nil)))) (cond ((ta.length:Int)==2) (aq ((0:Int)≤0∧0<(ta.length:Int)) (cond (decide ((ta.getD ((0:Int).toNat) default)=(⟨#[112]⟩:BA))) (aq ((0:Int)≤1∧1<(ta.length:Int)) (some (jl.d143 (ta.getD ((1:Int).toNat) default)))) (some jl.nil))) (some jl.nil))))))) (cond ((ta.length:Int)==2) (aq ((0:Int)≤0∧0<(ta.length:Int)) (cond (decide ((ta.getD ((0:Int).toNat) default)=(⟨#[116]⟩:BA))) (aq ((0:Int)≤1∧1<(ta.length:Int)) (some (jl.d141 (ta.getD ((1:Int).toNat) default)))) (cond ((ta.length:Int)==2) (aq ((0:Int)≤0∧0<(ta.length:Int)) (cond (decide ((ta.getD ((0:Int).toNat) default)=(⟨#[112]⟩:BA))) (aq ((0:Int)≤1∧1<(ta.length:Int)) (some (jl.d143 (ta.getD ((1:Int).toNat) default)))) (some jl.nil))) (some jl.nil)))) (cond ((ta.length:Int)==2) (aq ((0:Int)≤0∧0<(ta.length:Int)) (cond (decide ((ta.getD ((0:Int).toNat) default)=(⟨#[112]⟩:BA))) (aq ((0:Int)≤1∧1<(ta.length:Int)) (some (jl.d143 (ta.getD ((1:Int).toNat) default)))) (some jl.nil))) (some jl.nil))))) (cond ((ta.length:Int)==2) (aq ((0:Int)≤0∧0<(ta.length:Int)) (cond (decide ((ta.getD ((0:Int).toNat) default)=(⟨#[116]⟩:BA))) (aq ((0:Int)≤1∧1<(ta.length:Int)) (some (jl.d141 (ta.getD ((1:Int).toNat) default)))) (cond ((ta.length:Int)==2) (aq ((0:Int)≤0∧0<(ta.length:Int)) (cond (decide ((ta.getD ((0:Int).toNat) default)=(⟨#[112]⟩:BA))) (aq ((0:Int)≤1∧1<(ta.length:Int)) (some (jl.d143 (ta.getD ((1:Int).toNat) default)))) (some jl.nil))) (some jl.nil)))) (cond ((ta.length:Int)==2) (aq ((0:Int)≤0∧0<(ta.length:Int)) (cond (decide ((ta.getD ((0:Int).toNat) default)=(⟨#[112]⟩:BA))) (aq ((0:Int)≤1∧1<(ta.length:Int)) (some (jl.d143 (ta.getD ((1:Int).toNat) default)))) (some jl.nil))) (some jl.nil)))
def fR.f (a0:jT) (a1:bz):Option (Pos×Bool):=some ((mget a0.iE a1).getD (⟨0,eE⟩:Pos),(mget a0.iE a1).isSome)
def gK.f (k:Nat) (a0:Src) (a1:bz) (a2:BA):Option (jZ×Bool):=(fR.f a0.bu.p5 a1).bind fun ta=>cond ta.2 ((bN.f k a0.cK a1.aa a2).bind fun tc=>cond tc (cond (!a1.au) (some ((⟨a1,ta.1⟩:jZ),true)) (some ((⟨a1,ta.1⟩:jZ),decide (a1.ak=a2)))) (some ((⟨a1,ta.1⟩:jZ),false))) (some ((⟨a1,ta.1⟩:jZ),false))
def slices_Sort_string.f (xs:List BA):Option (List BA):=aq (xs.length<4611686018427387904) (some (oW xs))
def fU.f (a0:aH):Option (List BA):=aq (a0.bx.length≤1000000) (some (oW (a0.bx.map (·.1))))
def dN.f (k:Nat) (a0:BA) (c0:aH) (c1:BA):Option (Bool):=(bN.f k c0 a0 c1).bind fun ta=>some (!ta)
def fQ.f (k:Nat) (a0:aH) (a1:BA):Option ((List BA)):=(fU.f a0).bind fun ta=>(slices_DeleteFunc_string_xo.f k ta (fun a0_=>dN.f k a0_ a0 a1)).bind fun tc=>some tc
def dM.f (k:Nat) (a0:BA) (c0:aH) (c1:BA):Option (Bool):=(bN.f k c0 a0 c1).bind fun ta=>some ta
def eY.f (k:Nat) (a0:aH) (a1:BA) (a2:BA):Option (Bool):=(fQ.f k a0 a1).bind fun ta=>(cO.f k ta (fun a0_=>dM.f k a0_ a0 a2)).bind fun tc=>some tc
def bX.f (k:Nat) (a0:bM) (a1:BA) (a2:Int):Option (Int):=(dy.f k a0 a1).bind fun ta=>cond (!ta.2) (some 0) (aq ((0:Int)≤ta.1∧ta.1<(a0.fl.length:Int)) ((dV.f (a0.fl.getD ta.1.toNat default) a2).bind fun tc=>some tc))
def gP.f (a0:Bool):Option (Int):=cond a0 (some 1) (some 0)
def hM.f (k:Nat) (a0:bz) (a1:bz):Option (Int):=(aD.f a0.aa a1.aa).bind fun ta=>(aD.f a0.ak a1.ak).bind fun tc=>(aD.f a0.ag a1.ag).bind fun te=>(gP.f a0.au).bind fun tg=>(gP.f a1.au).bind fun tj=>(cF.f tg tj).bind fun tm=>(bE.f k ([ta,tc,te,tm]:List Int)).bind fun tn=>some tn
def my.f (k:Nat) (a0:jZ) (a1:jZ):Option (Int):=(hM.f k a0.dI a1.dI).bind fun ta=>some ta
def mE (x y:bz):Int:=DQ (jS x.aa y.aa) (DQ (jS x.ak y.ak) (DQ (jS x.ag y.ag) (mZ (if x.au then 1 else 0) (if y.au then 1 else 0))))
def aS.cf (x y:jZ):Int:=mE x.dI y.dI
def aS.f (xs:List jZ):Option (List jZ):=aq (xs.length≤1000000∧xs.Pairwise fun x y=>ltOf aS.cf x y=true∨ltOf aS.cf y x=true) (some (kO aS.cf xs))
def mM.f (a0:iF) (a1:iF):Option (Int):=(aD.f a0.aa a1.aa).bind fun ta=>some ta
def aK.cf (x y:iF):Int:=jS x.aa y.aa
def aK.f (xs:List iF):Option (List iF):=aq (xs.length≤1000000∧xs.Pairwise fun x y=>ltOf aK.cf x y=true∨ltOf aK.cf y x=true) (some (kO aK.cf xs))
def mG.f (a0:jC) (a1:jC):Option (Int):=(aD.f a0.ak a1.ak).bind fun ta=>some ta
def aL.cf (x y:jC):Int:=jS x.ak y.ak
def aL.f (xs:List jC):Option (List jC):=aq (xs.length≤1000000∧xs.Pairwise fun x y=>ltOf aL.cf x y=true∨ltOf aL.cf y x=true) (some (kO aL.cf xs))
def sync_Make.l0 (k:Nat) (a0:Src) (a1:BA) (a3:Int) (ta:(List BA)):Nat→Int→List jZ→List iF→List jC→Option (Int×Int×Bool×(List BA)×(List jZ)×(List iF)×(List jC))
 | 0,_,_,_,_=>none
 | ja+1,xa,xb,xc,xd=>cond (decide (xa<(ta.length:Int))) (aq ((0:Int)≤xa∧xa<(ta.length:Int)) ((na.f k (ta.getD xa.toNat default)).bind fun tc=>(cond ((jl.g89 tc).isSome) ((gK.f k a0 ((jl.g89 tc).getD (⟨eE,eE,eE,false⟩:bz)) a1).bind fun te=>cond te.2 (aq (xb.length+([(⟨te.1.dI,te.1.kS⟩:jZ)]:List jZ).length≤9223372036854775807∧(xb.length+([(⟨te.1.dI,te.1.kS⟩:jZ)]:List jZ).length)*80≤140737488355328) (some (xb++([(⟨te.1.dI,te.1.kS⟩:jZ)]:List jZ),xc))) (some (xb,xc))) (cond ((jl.qY tc).isSome) ((bN.f k a0.cK ((jl.qY tc).getD eE) a1).bind fun tg=>cond tg ((kV.f k a0 ((jl.qY tc).getD eE) a3).bind fun tj=>aq (xc.length+([(⟨(jl.qY tc).getD eE,tj⟩:iF)]:List iF).length≤9223372036854775807∧(xc.length+([(⟨(jl.qY tc).getD eE,tj⟩:iF)]:List iF).length)*40≤140737488355328) (some (xb,xc++([(⟨(jl.qY tc).getD eE,tj⟩:iF)]:List iF)))) (some (xb,xc))) (some (xb,xc)))).bind fun (pa:(List jZ)×(List iF))=>cond ((jl.rb tc).isSome) ((eY.f k a0.cK a1 ((jl.rb tc).getD eE)).bind fun tm=>cond tm ((bX.f k a0.aY ((jl.rb tc).getD eE) a3).bind fun tn=>aq (xd.length+([(⟨(jl.rb tc).getD eE,tn⟩:jC)]:List jC).length≤9223372036854775807∧(xd.length+([(⟨(jl.rb tc).getD eE,tn⟩:jC)]:List jC).length)*24≤140737488355328) (sync_Make.l0 k a0 a1 a3 ta ja (ax (xa+1)) pa.1 pa.2 (xd++([(⟨(jl.rb tc).getD eE,tn⟩:jC)]:List jC)))) (sync_Make.l0 k a0 a1 a3 ta ja (ax (xa+1)) pa.1 pa.2 xd)) (sync_Make.l0 k a0 a1 a3 ta ja (ax (xa+1)) pa.1 pa.2 xd))) (some ((ta.length:Int),xa,decide (xa<(ta.length:Int)),ta,xb,xc,xd))
def sync_Make.f (k:Nat) (a0:Src) (a1:BA) (a2:Int) (a3:Int):Option (tJ×Int):=cond (decide (a2<0)) (some ((⟨0,([]:List jZ),([]:List iF),([]:List jC)⟩:tJ),10)) ((iw.f a0.gG).bind fun ta=>cond (decide (ta<a2)) (some ((⟨0,([]:List jZ),([]:List iF),([]:List jC)⟩:tJ),10)) ((iw.f a0.gG).bind fun tc=>((cC.f k a0.gG a2).bind fun te=>sync_Make.l0 k a0 a1 a3 te k 0 ([]:List jZ) ([]:List iF) ([]:List jC)).bind fun (pa:Int×Int×Bool×(List BA)×(List jZ)×(List iF)×(List jC))=>(aS.f pa.2.2.2.2.1).bind fun tg=>(aK.f pa.2.2.2.2.2.1).bind fun tj=>(aL.f pa.2.2.2.2.2.2).bind fun tm=>some ((⟨tc,tg,tj,tm⟩:tJ),0)))
def cN.l0 (k:Nat) (a0:aF) (a1:BA):Nat→Int→Int→Option (Int×Int×Bool)
 | 0,_,_=>none
 | ja+1,xa,xb=>cond (decide (xb<(a0.fL.length:Int))) (aq ((0:Int)≤xb∧xb<(a0.fL.length:Int)) (cond (!decide (((Event.K.at a0.fL xb).ak)=a1)) (cN.l0 k a0 a1 ja xa (ax (xb+1))) (aq ((0:Int)≤xb∧xb<(a0.fL.length:Int)) (cond (((Event.K.at a0.fL xb).bL)==0) (cN.l0 k a0 a1 ja xa (ax (xb+1))) (cond (decide (xa<0)) (cN.l0 k a0 a1 ja xb (ax (xb+1))) (aq ((0:Int)≤xa∧xa<(a0.fL.length:Int)) ((dC.f k a0 ((Event.K.at a0.fL xa).b9)).bind fun ta=>aq ((0:Int)≤xb∧xb<(a0.fL.length:Int)) ((dC.f k a0 ((Event.K.at a0.fL xb).b9)).bind fun tc=>(iG.f ta tc).bind fun te=>cond te (cN.l0 k a0 a1 ja xb (ax (xb+1))) (cN.l0 k a0 a1 ja xa (ax (xb+1))))))))))) (some (xa,xb,decide (xb<(a0.fL.length:Int))))
def cN.f (k:Nat) (a0:aF) (a1:BA):Option (Event×Bool):=(cN.l0 k a0 a1 k (-1) 0).bind fun (pa:Int×Int×Bool)=>cond (decide (pa.1<0)) (some ((⟨eE,eE,([]:List BA),eE,eE,0⟩:Event),false)) (aq ((0:Int)≤pa.1∧pa.1<(a0.fL.length:Int)) (some (Event.K.at a0.fL pa.1,true)))
def jo.f (k:Nat) (a0:aF) (a1:BA):Option (Bool):=(cN.f k a0 a1).bind fun ta=>cond ta.2 (some (ta.1.bL==1)) (some false)
def du.f (k:Nat) (a0:bq) (a1:BA) (a2:BA):Option (Bool):=(gZ.f k a0 a1).bind fun ta=>(jo.f k ta a2).bind fun tc=>some tc
def dJ.l0 (k:Nat) (a0:jO) (a1:BA) (a2:BA) (a3:Int):Nat→Int→Option ((Int×Bool) ⊕ (Bool))
 | 0,_=>none
 | ja+1,xa=>cond (decide (xa<(a0.fL.length:Int))) (aq ((0:Int)≤xa∧xa<(a0.fL.length:Int)) (cond (decide (((ai.K.at a0.fL xa).aa)=a1)) (aq ((0:Int)≤xa∧xa<(a0.fL.length:Int)) (cond (decide (((ai.K.at a0.fL xa).ak)=a2)) (aq ((0:Int)≤xa∧xa<(a0.fL.length:Int)) (cond ((ai.K.at a0.fL xa).jX) (aq ((0:Int)≤xa∧xa<(a0.fL.length:Int)) (aq ((0:Int)≤xa∧xa<(a0.fL.length:Int)) (some (.inr (decide (a3<(ax (((ai.K.at a0.fL xa).aQ)+((ai.K.at a0.fL xa).bV))))))))) (some (.inr false)))) (dJ.l0 k a0 a1 a2 a3 ja (ax (xa+1))))) (dJ.l0 k a0 a1 a2 a3 ja (ax (xa+1))))) (some (.inl (xa,decide (xa<(a0.fL.length:Int)))))
def dJ.f (k:Nat) (a0:jO) (a1:BA) (a2:BA) (a3:Int):Option (Bool):=(dJ.l0 k a0 a1 a2 a3 k 0).bind (fall fun pa=>some false)
def eA.l0 (k:Nat) (a0:jO) (a1:BA) (a2:Int):Nat→Int→List BA→Option (Int×Bool×(List BA))
 | 0,_,_=>none
 | ja+1,xa,xb=>cond (decide (xa<(a0.fL.length:Int))) (aq ((0:Int)≤xa∧xa<(a0.fL.length:Int)) ((dJ.f k a0 a1 ((ai.K.at a0.fL xa).ak) a2).bind fun ta=>aq ((0:Int)≤xa∧xa<(a0.fL.length:Int)) (cond (decide (((ai.K.at a0.fL xa).aa)=a1)) (cond ta (aq ((0:Int)≤xa∧xa<(a0.fL.length:Int)) (aq (xb.length+([(ai.K.at a0.fL xa).ak]:List BA).length≤9223372036854775807∧(xb.length+([(ai.K.at a0.fL xa).ak]:List BA).length)*16≤140737488355328) (eA.l0 k a0 a1 a2 ja (ax (xa+1)) (xb++([(ai.K.at a0.fL xa).ak]:List BA))))) (eA.l0 k a0 a1 a2 ja (ax (xa+1)) xb)) (eA.l0 k a0 a1 a2 ja (ax (xa+1)) xb)))) (some (xa,decide (xa<(a0.fL.length:Int)),xb))
def eA.f (k:Nat) (a0:jO) (a1:BA) (a2:Int):Option ((List BA)):=(eA.l0 k a0 a1 a2 k 0 ([]:List BA)).bind fun (pa:Int×Bool×(List BA))=>some pa.2.2
def iS.l0 (k:Nat) (a0:dE) (a1:BA) (ta:(List BA)):Nat→Int→List BA→Option (Int×Bool×(List BA))
 | 0,_,_=>none
 | ja+1,xa,xb=>cond (decide (xa<(ta.length:Int))) (aq ((0:Int)≤xa∧xa<(ta.length:Int)) ((du.f k a0.fV a1 (ta.getD xa.toNat default)).bind fun tc=>cond tc (aq ((0:Int)≤xa∧xa<(ta.length:Int)) (aq (xb.length+([ta.getD xa.toNat default]:List BA).length≤9223372036854775807∧(xb.length+([ta.getD xa.toNat default]:List BA).length)*16≤140737488355328) (iS.l0 k a0 a1 ta ja (ax (xa+1)) (xb++([ta.getD xa.toNat default]:List BA))))) (iS.l0 k a0 a1 ta ja (ax (xa+1)) xb))) (some (xa,decide (xa<(ta.length:Int)),xb))
def iS.f (k:Nat) (a0:dE) (a1:BA) (a2:Int):Option ((List BA)):=(eA.f k a0.fT a1 a2).bind fun ta=>(iS.l0 k a0 a1 ta k 0 ([]:List BA)).bind fun (pa:Int×Bool×(List BA))=>some pa.2.2
def dX.l0 (k:Nat) (a0:bq) (a1:BA):Nat→Int→List BA→Option (Int×Bool×(List BA))
 | 0,_,_=>none
 | ja+1,xa,xb=>cond (decide (xa<(a0.fD.length:Int))) (aq ((0:Int)≤xa∧xa<(a0.fD.length:Int)) ((jo.f k (aF.K.at a0.fD xa) a1).bind fun ta=>cond ta (aq ((0:Int)≤xa∧xa<(a0.fD.length:Int)) (aq (xb.length+([(aF.K.at a0.fD xa).aa]:List BA).length≤9223372036854775807∧(xb.length+([(aF.K.at a0.fD xa).aa]:List BA).length)*16≤140737488355328) (dX.l0 k a0 a1 ja (ax (xa+1)) (xb++([(aF.K.at a0.fD xa).aa]:List BA))))) (dX.l0 k a0 a1 ja (ax (xa+1)) xb))) (some (xa,decide (xa<(a0.fD.length:Int)),xb))
def dX.f (k:Nat) (a0:bq) (a1:BA):Option ((List BA)):=(dX.l0 k a0 a1 k 0 ([]:List BA)).bind fun (pa:Int×Bool×(List BA))=>some pa.2.2
def dt.l0 (k:Nat) (a0:bq) (a2:BA) (ta:(List BA)):Nat→Int→Option ((Int×Bool) ⊕ (Bool))
 | 0,_=>none
 | ja+1,xa=>cond (decide (xa<(ta.length:Int))) (aq ((0:Int)≤xa∧xa<(ta.length:Int)) ((du.f k a0 (ta.getD xa.toNat default) a2).bind fun tc=>cond tc (some (.inr true)) (dt.l0 k a0 a2 ta ja (ax (xa+1))))) (some (.inl (xa,decide (xa<(ta.length:Int)))))
def dt.f (k:Nat) (a0:bq) (a1:BA) (a2:BA):Option (Bool):=(dX.f k a0 a1).bind fun ta=>(dt.l0 k a0 a2 ta k 0).bind (fall fun pa=>some false)
def mY.l0 (k:Nat) (a0:List BA) (a1:Int) (a2:BA):Nat→Int→Option ((Int×Bool) ⊕ (Int))
 | 0,_=>none
 | ja+1,xa=>cond (decide (0≤xa)) (aq ((0:Int)≤xa∧xa<(a0.length:Int)) (cond (decide ((aC.at a0 xa)=a2)) (some (.inr (ax ((ax (a1+1))+xa)))) (mY.l0 k a0 a1 a2 ja (ax (xa-1))))) (some (.inl (xa,decide (0≤xa))))
def mY.f (k:Nat) (a0:List BA) (a1:Int) (a2:BA):Option (Int):=(mY.l0 k a0 a1 a2 k (ax ((a0.length:Int)-1))).bind (fall fun pa=>some 0)
def lH.l0 (k:Nat) (a0:List ig):Nat→Int→List BA→Option (Int×Bool×(List BA))
 | 0,_,_=>none
 | ja+1,xa,xb=>cond (decide (xa<(a0.length:Int))) (aq ((0:Int)≤xa∧xa<(a0.length:Int)) ((kz.f (⟨(ig.K.at a0 xa).aE,(ig.K.at a0 xa).fK,(ig.K.at a0 xa).jG⟩:ig)).bind fun ta=>aq (xb.length+([ta]:List BA).length≤9223372036854775807∧(xb.length+([ta]:List BA).length)*16≤140737488355328) (lH.l0 k a0 ja (ax (xa+1)) (xb++([ta]:List BA))))) (some (xa,decide (xa<(a0.length:Int)),xb))
def lH.f (k:Nat) (a0:List ig):Option ((List BA)):=(lH.l0 k a0 k 0 ([]:List BA)).bind fun (pa:Int×Bool×(List BA))=>some pa.2.2
def kY.f (k:Nat) (a0:dE) (a1:Int) (a2:BA):Option (Bool):=(lH.f k a0.fL).bind fun ta=>(mY.f k ta a0.aP a2).bind fun tc=>some (decide (a1<tc))
def kC.l0 (k:Nat) (a0:List BA) (a1:BA):Nat→Bool→Int→List BA→Option (Bool×Int×Bool×(List BA))
 | 0,_,_,_=>none
 | ja+1,xa,xb,xc=>cond (decide (xb<(a0.length:Int))) ((cond (!xa) (aq ((0:Int)≤xb∧xb<(a0.length:Int)) (cond (!dH (aC.at a0 xb) a1) (aq (xc.length+([a1]:List BA).length≤9223372036854775807∧(xc.length+([a1]:List BA).length)*16≤140737488355328) (some (true,!dH (aC.at a0 xb) a1,xc++([a1]:List BA)))) (some (xa,!dH (aC.at a0 xb) a1,xc)))) (some (xa,false,xc))).bind fun (pa:Bool×Bool×(List BA))=>aq ((0:Int)≤xb∧xb<(a0.length:Int)) (cond (!decide ((aC.at a0 xb)=a1)) (aq ((0:Int)≤xb∧xb<(a0.length:Int)) (aq (pa.2.2.length+([aC.at a0 xb]:List BA).length≤9223372036854775807∧(pa.2.2.length+([aC.at a0 xb]:List BA).length)*16≤140737488355328) (kC.l0 k a0 a1 ja pa.1 (ax (xb+1)) (pa.2.2++([aC.at a0 xb]:List BA))))) (kC.l0 k a0 a1 ja pa.1 (ax (xb+1)) pa.2.2))) (some (xa,xb,decide (xb<(a0.length:Int)),xc))
def kC.f (k:Nat) (a0:List BA) (a1:BA):Option ((List BA)):=(kC.l0 k a0 a1 k false 0 ([]:List BA)).bind fun (pa:Bool×Int×Bool×(List BA))=>cond (!pa.1) (aq (pa.2.2.2.length+([a1]:List BA).length≤9223372036854775807∧(pa.2.2.2.length+([a1]:List BA).length)*16≤140737488355328) (some (pa.2.2.2++([a1]:List BA)))) (some pa.2.2.2)
def AK.f (a0:ai) (a1:Int):Option (Int):=cond (a0.aU==2) (cond (decide (a1<(ax (a0.aQ+30)))) (some 2) (cond (decide (0<a0.aU)) (cond (decide (a1<(ax (a0.aQ+90)))) (some 1) (some 0)) (some 0))) (cond (decide (0<a0.aU)) (cond (decide (a1<(ax (a0.aQ+90)))) (some 1) (some 0)) (some 0))
def eB.l0 (k:Nat) (a0:kA) (a1:BA) (a2:Int):Nat→Int→Option ((Int×Bool) ⊕ (Int))
 | 0,_=>none
 | ja+1,xa=>cond (decide (xa<(a0.fL.length:Int))) (aq ((0:Int)≤xa∧xa<(a0.fL.length:Int)) (cond (decide (((ai.K.at a0.fL xa).ak)=a1)) (aq ((0:Int)≤xa∧xa<(a0.fL.length:Int)) ((AK.f (ai.K.at a0.fL xa) a2).bind fun ta=>some (.inr ta))) (eB.l0 k a0 a1 a2 ja (ax (xa+1))))) (some (.inl (xa,decide (xa<(a0.fL.length:Int)))))
def eB.f (k:Nat) (a0:kA) (a1:BA) (a2:Int):Option (Int):=(eB.l0 k a0 a1 a2 k 0).bind (fall fun pa=>some 0)
def bU.l0 (k:Nat) (a0:dE) (a1:BA) (a2:Int) (a3:Int) (pa:Int×Bool×(List BA)×(List BA)):Nat→Int→List jC→Option (Int×Bool×(List jC))
 | 0,_,_=>none
 | ja+1,xa,xb=>cond (decide (xa<(pa.2.2.2.length:Int))) (aq ((0:Int)≤xa∧xa<(pa.2.2.2.length:Int)) ((kz.f (⟨3,(⟨eE,eE,eE,false⟩:bz),pa.2.2.2.getD xa.toNat default⟩:ig)).bind fun ta=>(kY.f k (⟨a0.fV,a0.fM,a0.fT,a0.fP,a0.fL,a0.aP⟩:dE) a2 ta).bind fun tc=>aq ((0:Int)≤xa∧xa<(pa.2.2.2.length:Int)) ((dt.f k a0.fV a1 (pa.2.2.2.getD xa.toNat default)).bind fun te=>cond tc (cond te (aq ((0:Int)≤xa∧xa<(pa.2.2.2.length:Int)) (aq ((0:Int)≤xa∧xa<(pa.2.2.2.length:Int)) ((eB.f k a0.fP (pa.2.2.2.getD xa.toNat default) a3).bind fun tg=>aq (xb.length+([(⟨pa.2.2.2.getD xa.toNat default,tg⟩:jC)]:List jC).length≤9223372036854775807∧(xb.length+([(⟨pa.2.2.2.getD xa.toNat default,tg⟩:jC)]:List jC).length)*24≤140737488355328) (bU.l0 k a0 a1 a2 a3 pa ja (ax (xa+1)) (xb++([(⟨pa.2.2.2.getD xa.toNat default,tg⟩:jC)]:List jC)))))) (bU.l0 k a0 a1 a2 a3 pa ja (ax (xa+1)) xb)) (bU.l0 k a0 a1 a2 a3 pa ja (ax (xa+1)) xb)))) (some (xa,decide (xa<(pa.2.2.2.length:Int)),xb))
def bU.l1 (k:Nat) (a0:dE) (a1:BA) (a2:Int) (a3:Int) (pa:Int×Bool×(List BA)×(List BA)):Nat→Int→List iF→Option (Int×Bool×(List iF))
 | 0,_,_=>none
 | ja+1,xa,xb=>cond (decide (xa<(pa.2.2.1.length:Int))) (aq ((0:Int)≤xa∧xa<(pa.2.2.1.length:Int)) ((kz.f (⟨2,(⟨eE,eE,eE,false⟩:bz),pa.2.2.1.getD xa.toNat default⟩:ig)).bind fun ta=>(kY.f k (⟨a0.fV,a0.fM,a0.fT,a0.fP,a0.fL,a0.aP⟩:dE) a2 ta).bind fun tc=>aq ((0:Int)≤xa∧xa<(pa.2.2.1.length:Int)) ((du.f k a0.fV (pa.2.2.1.getD xa.toNat default) a1).bind fun te=>cond tc (cond te (aq ((0:Int)≤xa∧xa<(pa.2.2.1.length:Int)) (aq ((0:Int)≤xa∧xa<(pa.2.2.1.length:Int)) ((iS.f k (⟨a0.fV,a0.fM,a0.fT,a0.fP,a0.fL,a0.aP⟩:dE) (pa.2.2.1.getD xa.toNat default) a3).bind fun tg=>aq (xb.length+([(⟨pa.2.2.1.getD xa.toNat default,tg⟩:iF)]:List iF).length≤9223372036854775807∧(xb.length+([(⟨pa.2.2.1.getD xa.toNat default,tg⟩:iF)]:List iF).length)*40≤140737488355328) (bU.l1 k a0 a1 a2 a3 pa ja (ax (xa+1)) (xb++([(⟨pa.2.2.1.getD xa.toNat default,tg⟩:iF)]:List iF)))))) (bU.l1 k a0 a1 a2 a3 pa ja (ax (xa+1)) xb)) (bU.l1 k a0 a1 a2 a3 pa ja (ax (xa+1)) xb)))) (some (xa,decide (xa<(pa.2.2.1.length:Int)),xb))
def bU.l2 (k:Nat) (a0:dE):Nat→Int→List BA→List BA→Option (Int×Bool×(List BA)×(List BA))
 | 0,_,_,_=>none
 | ja+1,xa,xb,xc=>cond (decide (xa<(a0.fL.length:Int))) ((aq ((0:Int)≤xa∧xa<(a0.fL.length:Int)) (cond (((ig.K.at a0.fL xa).aE)==2) (aq ((0:Int)≤xa∧xa<(a0.fL.length:Int)) ((kC.f k xb ((ig.K.at a0.fL xa).jG)).bind fun ta=>some ta)) (some xb))).bind fun (pa:(List BA))=>aq ((0:Int)≤xa∧xa<(a0.fL.length:Int)) (cond (((ig.K.at a0.fL xa).aE)==3) (aq ((0:Int)≤xa∧xa<(a0.fL.length:Int)) ((kC.f k xc ((ig.K.at a0.fL xa).jG)).bind fun tc=>bU.l2 k a0 ja (ax (xa+1)) pa tc)) (bU.l2 k a0 ja (ax (xa+1)) pa xc))) (some (xa,decide (xa<(a0.fL.length:Int)),xb,xc))
def bU.l3 (k:Nat) (a0:dE) (a1:BA) (a2:Int):Nat→Int→List MK→Option (Int×Bool×(List MK))
 | 0,_,_=>none
 | ja+1,xa,xb=>cond (decide (xa<(a0.fM.length:Int))) (aq ((0:Int)≤xa∧xa<(a0.fM.length:Int)) ((kz.f (⟨1,(MK.K.at a0.fM xa).fK,eE⟩:ig)).bind fun ta=>(kY.f k (⟨a0.fV,a0.fM,a0.fT,a0.fP,a0.fL,a0.aP⟩:dE) a2 ta).bind fun tc=>(du.f k a0.fV (((MK.K.at a0.fM xa).fK).aa) a1).bind fun te=>cond tc (cond te (cond (!(((MK.K.at a0.fM xa).fK).au)) (aq ((0:Int)≤xa∧xa<(a0.fM.length:Int)) (aq (xb.length+([(⟨(MK.K.at a0.fM xa).fK,(MK.K.at a0.fM xa).kS⟩:MK)]:List MK).length≤9223372036854775807∧(xb.length+([(⟨(MK.K.at a0.fM xa).fK,(MK.K.at a0.fM xa).kS⟩:MK)]:List MK).length)*80≤140737488355328) (bU.l3 k a0 a1 a2 ja (ax (xa+1)) (xb++([(⟨(MK.K.at a0.fM xa).fK,(MK.K.at a0.fM xa).kS⟩:MK)]:List MK))))) (cond (decide ((((MK.K.at a0.fM xa).fK).ak)=a1)) (aq ((0:Int)≤xa∧xa<(a0.fM.length:Int)) (aq (xb.length+([(⟨(MK.K.at a0.fM xa).fK,(MK.K.at a0.fM xa).kS⟩:MK)]:List MK).length≤9223372036854775807∧(xb.length+([(⟨(MK.K.at a0.fM xa).fK,(MK.K.at a0.fM xa).kS⟩:MK)]:List MK).length)*80≤140737488355328) (bU.l3 k a0 a1 a2 ja (ax (xa+1)) (xb++([(⟨(MK.K.at a0.fM xa).fK,(MK.K.at a0.fM xa).kS⟩:MK)]:List MK))))) (bU.l3 k a0 a1 a2 ja (ax (xa+1)) xb))) (bU.l3 k a0 a1 a2 ja (ax (xa+1)) xb)) (bU.l3 k a0 a1 a2 ja (ax (xa+1)) xb))) (some (xa,decide (xa<(a0.fM.length:Int)),xb))
def bU.f (k:Nat) (a0:dE) (a1:BA) (a2:Int) (a3:Int):Option (uF×Int):=cond (decide (a2<0)) (some ((⟨0,([]:List MK),([]:List iF),([]:List jC)⟩:uF),10)) (cond (decide ((ax (a0.aP+(a0.fL.length:Int)))<a2)) (some ((⟨0,([]:List MK),([]:List iF),([]:List jC)⟩:uF),10)) ((bU.l3 k a0 a1 a2 k 0 ([]:List MK)).bind fun (pa:Int×Bool×(List MK))=>(bU.l2 k a0 k 0 ([]:List BA) ([]:List BA)).bind fun (pc:Int×Bool×(List BA)×(List BA))=>(bU.l1 k a0 a1 a2 a3 pc k 0 ([]:List iF)).bind fun (pe:Int×Bool×(List iF))=>(bU.l0 k a0 a1 a2 a3 pc k 0 ([]:List jC)).bind fun (pg:Int×Bool×(List jC))=>some ((⟨ax (a0.aP+(a0.fL.length:Int)),pa.2.2,pe.2.2,pg.2.2⟩:uF),0)))
def od.f:Option (Bool):=(iz.f (⟨(⟨#[33,114,58,115]⟩:BA),(⟨#[64,97,58,115]⟩:BA),eE,true⟩:bz)).bind fun ta=>cond (decide (ta=(⟨#[109,32,33,114,58,115,32,64,97,58,115,32,32,49]⟩:BA))) ((jt.f (⟨#[33,114,58,115]⟩:BA)).bind fun tc=>cond (decide (tc=(⟨#[116,32,33,114,58,115]⟩:BA))) ((jg.f (⟨#[64,97,58,115]⟩:BA)).bind fun te=>some (decide (te=(⟨#[112,32,64,97,58,115]⟩:BA)))) (some false)) (some false)
def vU.l1 (k:Nat) (a2:List ai):Nat→Int→dE→aH→gW→bH→bM→bK→Option ((Int×Bool×dE×aH×gW×bH×bM×bK) ⊕ (Bool))
 | 0,_,_,_,_,_,_,_=>none
 | ja+1,xa,xb,xc,xd,xe,xf,xg=>cond (decide (xa<(a2.length:Int))) (cond (decide (xa<10)) (aq ((0:Int)≤xa∧xa<(a2.length:Int)) ((kK.f k (ai.K.at a2 xa)).bind fun ta=>(mg.f k (⟨xc,xd,xe,xf,xg⟩:Src) (⟨xb.fV,xb.fM,xb.fT,xb.fP,xb.fL,xb.aP⟩:dE) ta).bind fun tc=>cond (!tc.2.1) (some (.inr false)) (vU.l1 k a2 ja (ax (xa+1)) (⟨tc.1.fV,tc.1.fM,tc.1.fT,tc.1.fP,tc.1.fL,tc.1.aP⟩:dE) tc.2.2.cK tc.2.2.bu tc.2.2.aW tc.2.2.aY tc.2.2.gG))) (some (.inl (xa,decide (xa<10),(⟨xb.fV,xb.fM,xb.fT,xb.fP,xb.fL,xb.aP⟩:dE),xc,xd,xe,xf,xg)))) (some (.inl (xa,false,(⟨xb.fV,xb.fM,xb.fT,xb.fP,xb.fL,xb.aP⟩:dE),xc,xd,xe,xf,xg)))
def aA.l0 (k:Nat) (pa:Int×Bool×dE×aH×gW×bH×bM×bK) (ta:BA) (tc:tJ×Int):Nat→Int→Option ((Int×Bool) ⊕ (Bool))
 | 0,_=>none
 | ja+1,xa=>cond (decide (xa<(tc.1.nU.length:Int))) (aq ((0:Int)≤xa∧xa<(tc.1.nU.length:Int)) ((dt.f k pa.2.2.1.fV ta ((jC.K.at tc.1.nU xa).ak)).bind fun te=>cond (!te) (some (.inr false)) (aA.l0 k pa ta tc ja (ax (xa+1))))) (some (.inl (xa,decide (xa<(tc.1.nU.length:Int)))))
def aA.l2 (k:Nat) (pa:Int×Bool×dE×aH×gW×bH×bM×bK) (ta:tJ×Int) (xa:Int) (tc:Bool):Nat→Int→Option ((Int×Bool×Bool) ⊕ ((Int×Bool) ⊕ (Bool)))
 | 0,_=>none
 | ja+1,xb=>aq ((0:Int)≤xa∧xa<(ta.1.aW.length:Int)) (cond (decide (xb<(((iF.K.at ta.1.aW xa).kT).length:Int))) (aq ((0:Int)≤xa∧xa<(ta.1.aW.length:Int)) (aq ((0:Int)≤xa∧xa<(ta.1.aW.length:Int)) (aq ((0:Int)≤xb∧xb<(((iF.K.at ta.1.aW xa).kT).length:Int)) ((du.f k pa.2.2.1.fV ((iF.K.at ta.1.aW xa).aa) (aC.at ((iF.K.at ta.1.aW xa).kT) xb)).bind fun te=>cond (!te) (some (.inr (.inr false))) (aA.l2 k pa ta xa tc ja (ax (xb+1))))))) (some (.inl (xb,!tc,decide (xb<(((iF.K.at ta.1.aW xa).kT).length:Int))))))
def aA.l1 (k:Nat) (pa:Int×Bool×dE×aH×gW×bH×bM×bK) (ta:BA) (tc:tJ×Int):Nat→Int→Option ((Int×Bool) ⊕ (Bool))
 | 0,_=>none
 | ja+1,xa=>cond (decide (xa<(tc.1.aW.length:Int))) ((aq ((0:Int)≤xa∧xa<(tc.1.aW.length:Int)) ((du.f k pa.2.2.1.fV ((iF.K.at tc.1.aW xa).aa) ta).bind fun te=>cond (!te) (some (.inr (.inr false))) (aA.l2 k pa tc xa te k 0))).bind (fall fun pc=>aA.l1 k pa ta tc ja (ax (xa+1)))) (some (.inl (xa,decide (xa<(tc.1.aW.length:Int)))))
def aA.l3 (k:Nat) (pa:Int×Bool×dE×aH×gW×bH×bM×bK) (ta:BA) (tc:tJ×Int):Nat→Int→Option ((Int×Bool) ⊕ (Bool))
 | 0,_=>none
 | ja+1,xa=>cond (decide (xa<(tc.1.bu.length:Int))) (aq ((0:Int)≤xa∧xa<(tc.1.bu.length:Int)) ((du.f k pa.2.2.1.fV (((jZ.K.at tc.1.bu xa).dI).aa) ta).bind fun te=>cond (!te) (some (.inr false)) (cond (((jZ.K.at tc.1.bu xa).dI).au) (cond (!decide ((((jZ.K.at tc.1.bu xa).dI).ak)=ta)) (some (.inr false)) (aA.l3 k pa ta tc ja (ax (xa+1)))) (aA.l3 k pa ta tc ja (ax (xa+1)))))) (some (.inl (xa,decide (xa<(tc.1.bu.length:Int)))))
def aA.l4 (k:Nat) (a2:List ai):Nat→Int→dE→aH→gW→bH→bM→bK→Option ((Int×Bool×dE×aH×gW×bH×bM×bK) ⊕ (Bool))
 | 0,_,_,_,_,_,_,_=>none
 | ja+1,xa,xb,xc,xd,xe,xf,xg=>cond (decide (xa<(a2.length:Int))) (cond (decide (xa<10)) (aq ((0:Int)≤xa∧xa<(a2.length:Int)) ((kK.f k (ai.K.at a2 xa)).bind fun ta=>(mg.f k (⟨xc,xd,xe,xf,xg⟩:Src) (⟨xb.fV,xb.fM,xb.fT,xb.fP,xb.fL,xb.aP⟩:dE) ta).bind fun tc=>cond (!tc.2.1) (some (.inr false)) (aA.l4 k a2 ja (ax (xa+1)) (⟨tc.1.fV,tc.1.fM,tc.1.fT,tc.1.fP,tc.1.fL,tc.1.aP⟩:dE) tc.2.2.cK tc.2.2.bu tc.2.2.aW tc.2.2.aY tc.2.2.gG))) (some (.inl (xa,decide (xa<10),(⟨xb.fV,xb.fM,xb.fT,xb.fP,xb.fL,xb.aP⟩:dE),xc,xd,xe,xf,xg)))) (some (.inl (xa,false,(⟨xb.fV,xb.fM,xb.fT,xb.fP,xb.fL,xb.aP⟩:dE),xc,xd,xe,xf,xg)))
def aA.f (k:Nat) (a0:List de) (a1:List de) (a2:List ai) (a3:Int):Option (Bool):=(ou.f k a0 a1).bind fun ta=>(fN.f k ta 0).bind fun tc=>cond (!tc.2.2) (some false) ((aA.l4 k a2 k 0 (⟨tc.2.1.fV,tc.2.1.fM,tc.2.1.fT,tc.2.1.fP,tc.2.1.fL,tc.2.1.aP⟩:dE) tc.1.cK tc.1.bu tc.1.aW tc.1.aY tc.1.gG).bind (fall fun pa=>(gQ.f a3).bind fun te=>(sync_Make.f k (⟨pa.2.2.2.1,pa.2.2.2.2.1,pa.2.2.2.2.2.1,pa.2.2.2.2.2.2.1,pa.2.2.2.2.2.2.2⟩:Src) te 0 5).bind fun tg=>(aA.l3 k pa te tg k 0).bind (fall fun pc=>(aA.l1 k pa te tg k 0).bind (fall fun pe=>(aA.l0 k pa te tg k 0).bind (fall fun pg=>cond (tg.2==0) (cond (tg.1.sE==(pa.2.2.1.fL.length:Int)) ((od.f).bind fun tj=>some tj) (some false)) (some false))))))
end Go.Proofs.YtfknmdelgepbjaaGreatDoor
