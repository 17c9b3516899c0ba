import Derived.Test.YtfknmdelgepbjaaGreatDoorChecked
import Derived.Test.YtfknmdelgepbjaaGreatDoorVConC4
import Derived.Lib.Join
import Derived.Eval
set_option linter.all false
set_option maxRecDepth 10000
set_option maxHeartbeats 20000000
namespace Go.Proofs.YtfknmdelgepbjaaGreatDoor
open Go Go.Sp Tryz
@[simp] abbrev iB (x:Int) (n:Nat):Prop:=0≤x∧x<(n:Int)
@[simp] abbrev cB (n z:Nat):Prop:=n≤9223372036854775807∧n*z≤140737488355328
abbrev U2:=@Tryz.underlying2
abbrev U3:=@Tryz.underlying3
abbrev U4:=@Tryz.underlying4
abbrev U5:=@Tryz.underlying5
abbrev U9:=@Tryz.underlying9
abbrev LP:=@Tryz.underlying22
abbrev eX:=@Tryz.underlying23
abbrev U24:=@Tryz.underlying24
abbrev U25:=@Tryz.underlying25
abbrev U26:=@Tryz.underlying26
abbrev U27:=@Tryz.underlying27
abbrev U28:=@Tryz.underlying28
abbrev LJ:=@Tryz.underlying30
abbrev yB:=@Tryz.underlying31
abbrev Lu:=@Tryz.underlying33
abbrev pO:=@Tryz.underlying34
abbrev sE:=@Tryz.underlying35
abbrev U37:=@Tryz.underlying37
abbrev oU:=@Tryz.underlying38
abbrev U40:=@Tryz.underlying40
abbrev Bc:=@Tryz.underlying41
abbrev B5:=@Tryz.underlying43
abbrev qn:=@Tryz.underlying46
abbrev gJ:=@Tryz.underlying52
abbrev Ks:=@Tryz.underlying55
abbrev LO:=@Tryz.underlying56
abbrev LM:=@Tryz.underlying57
abbrev Lh:=@Tryz.underlying59
abbrev CC:=@Tryz.underlying63
abbrev EJ:=@Tryz.underlying64
abbrev Jr:=@Tryz.underlying66
abbrev de:=@Tryz.underlying72
abbrev KE:=@Tryz.underlying79
abbrev uB:=@Tryz.underlying81
abbrev wX:=@Tryz.underlying83
abbrev Iw:=@Tryz.underlying89
abbrev Bf:=@Tryz.underlying91
abbrev U94:=@Tryz.underlying94
abbrev U96:=@Tryz.underlying96
abbrev kM:=@Tryz.underlying110
abbrev lS:=@Tryz.underlying113
abbrev rf:=@Tryz.underlying116
abbrev Bw:=@Tryz.underlying118
abbrev A9:=@Tryz.underlying120
abbrev zp:=@Tryz.underlying156
abbrev B1:=@Tryz.underlying158
abbrev U171:=@Tryz.underlying171
abbrev U174:=@Tryz.underlying174
abbrev KQ:=@Tryz.underlying177
abbrev U178:=@Tryz.underlying178
abbrev tW:=@Tryz.underlying181
abbrev HH:=@Tryz.underlying183
abbrev EC:=@Tryz.underlying184
abbrev Kp:=@Tryz.underlying186
abbrev U187:=@Tryz.underlying187
abbrev Kq:=@Tryz.underlying190
abbrev Kl:=@Tryz.underlying192
abbrev U193:=@Tryz.underlying193
abbrev zy:=@Tryz.underlying198
abbrev KG:=@Tryz.underlying201
abbrev HA:=@Tryz.underlying234
abbrev Jw:=@Tryz.underlying247
abbrev GK:=@Tryz.underlying248
abbrev U250:=@Tryz.underlying250
abbrev U255:=@Tryz.underlying255
abbrev Li:=@Tryz.underlying257
abbrev ox:=@Tryz.underlying259
abbrev KL:=@Tryz.underlying261
abbrev wO:=@Tryz.underlying263
abbrev KS:=@Tryz.underlying265
abbrev U266:=@Tryz.underlying266
abbrev I4:=@Tryz.underlying268
abbrev U273:=@Tryz.underlying273
abbrev jC:=@Tryz.underlying282
abbrev Ls:=@Tryz.underlying294
abbrev nE:=@Tryz.underlying299
abbrev U303:=@Tryz.underlying303
abbrev U335:=@Tryz.underlying335
abbrev U336:=@Tryz.underlying336
abbrev U382:=@Tryz.underlying382
abbrev E6:=@Tryz.underlying384
abbrev mX:=@Tryz.checked.mixed
def DA:List Nat:=[10,100,101,102,103,104,105,106,107,108,109,11,110,111,112,113,114,115,116,117,118,119,12,120,121,122,123,124,125,128,129,13,130,132,134,135,136,137,138,139,14,140,141,142,143,144,145,146,147,148,149,15,150,151,152,153,154,155,156,157,158,159,16,160,161,165,166,167,168,169,17,172,173,174,175,176,177,178,179,18,180,181,182,19,193,20,21,211,212,213,214,215,216,217,218,219,22,220,221,222,223,224,225,226,229,23,230,231,232,233,235,236,239,24,240,241,242,25,254,255,256,257,26,261,262,263,269,27,270,271,276,277,278,279,28,281,285,29,295,296,297,30,31,32,33,34,35,36,37,38,39,40,41,42,43,44,45,46,47,48,49,50,51,52,53,54,55,56,57,58,59,60,62,63,65,66,68,69,70,71,72,73,74,75,76,77,78,79,8,80,81,82,83,84,85,86,87,88,89,9,90,91,92,93,94,95,96,97,98,99]
theorem cL (n:Nat) (h:DA.contains n=true:=by kernel_rfl):fa prog n=true:=List.all_eq_true.1 (show DA.all (fun n=>fa prog n)=true by kernel_rfl) n (List.contains_iff_mem.1 h)
theorem mL:prog.cellsOf 110=6:=kr
theorem nJ:prog.cellsOf 113=2:=kr
theorem xq:prog.cellsOf 116=6:=kr
theorem IV:prog.cellsOf 118=3:=kr
theorem Fc:prog.cellsOf 120=4:=kr
theorem yE:prog.cellsOf 156=2:=kr
theorem Fq:prog.cellsOf 158=2:=kr
theorem c171:prog.cellsOf 171=1:=kr
theorem IH:prog.cellsOf 174=1:=kr
theorem c178:prog.cellsOf 178=1:=kr
theorem c181:prog.cellsOf 181=1:=kr
theorem Fe:prog.cellsOf 184=1:=kr
theorem c187:prog.cellsOf 187=1:=kr
theorem Aq:prog.cellsOf 198=4:=kr
theorem c2:prog.cellsOf 2=1:=kr
theorem c201:prog.cellsOf 201=1:=kr
theorem c23:prog.cellsOf 23=1:=kr
theorem c248:prog.cellsOf 248=1:=kr
theorem c255:prog.cellsOf 255=1:=kr
theorem c259:prog.cellsOf 259=1:=kr
theorem c263:prog.cellsOf 263=1:=kr
theorem c294:prog.cellsOf 294=5:=kr
theorem nZ:prog.cellsOf 299=2:=kr
theorem c3:prog.cellsOf 3=1:=kr
theorem c30:prog.cellsOf 30=5:=kr
theorem c33:prog.cellsOf 33=1:=kr
theorem c335:prog.cellsOf 335=1:=kr
theorem c34:prog.cellsOf 34=1:=kr
theorem c35:prog.cellsOf 35=1:=kr
theorem c37:prog.cellsOf 37=2:=kr
theorem c38:prog.cellsOf 38=1:=kr
theorem c4:prog.cellsOf 4=1:=kr
theorem c40:prog.cellsOf 40=2:=kr
theorem c41:prog.cellsOf 41=1:=kr
theorem G9:prog.cellsOf 43=8:=kr
theorem c5:prog.cellsOf 5=1:=kr
theorem iy:prog.cellsOf 52=11:=kr
theorem c55:prog.cellsOf 55=1:=kr
theorem c56:prog.cellsOf 56=1:=kr
theorem c57:prog.cellsOf 57=1:=kr
theorem c59:prog.cellsOf 59=4:=kr
theorem c63:prog.cellsOf 63=1:=kr
theorem c64:prog.cellsOf 64=1:=kr
theorem c66:prog.cellsOf 66=4:=kr
theorem c72:prog.cellsOf 72=1:=kr
theorem J5:prog.cellsOf 79=4:=kr
theorem Az:prog.cellsOf 81=2:=kr
theorem Bg:prog.cellsOf 83=6:=kr
theorem LG:prog.cellsOf 89=4:=kr
theorem c9:prog.cellsOf 9=1:=kr
theorem EH:prog.cellsOf 91=6:=kr
theorem c94:prog.cellsOf 94=2:=kr
theorem c96:prog.cellsOf 96=2:=kr
theorem BF:prog.concrete 141=true:=kr
theorem s7:prog.concrete 143=true:=kr
theorem J0:prog.concrete 89=true:=kr
theorem eg158:prog.eqGuardType prog.depth 158=false:=kr
theorem eg294:prog.eqGuardType prog.depth 294=false:=kr
theorem IF:prog.eqGuardType prog.depth 52=false:=kr
theorem eg79:prog.eqGuardType prog.depth 79=false:=kr
theorem eg83:prog.eqGuardType prog.depth 83=false:=kr
theorem vU:∃ i,prog.info? 110=some i∧i.size=6∧i.zero=some (.agg #[.string ⟨#[]⟩,.string ⟨#[]⟩,.slice none 0 0,.string ⟨#[]⟩,.string ⟨#[]⟩,.int .i64 0])∧i.bytes=96:=kZ kr kr kr
theorem BW:∃ i,prog.info? 113=some i∧i.size=2∧i.zero=some (.agg #[.string ⟨#[]⟩,.slice none 0 0])∧i.bytes=40:=kZ kr kr kr
theorem GC:∃ i,prog.info? 116=some i∧i.size=6∧i.zero=some (.agg #[.int .i64 0,.string ⟨#[]⟩,.string ⟨#[]⟩,.string ⟨#[]⟩,.bool false,.string ⟨#[]⟩])∧i.bytes=80:=kZ kr kr kr
theorem Ha:∃ i,prog.info? 156=some i∧i.size=2∧i.zero=some (.agg #[.string ⟨#[]⟩,.slice none 0 0])∧i.bytes=40:=kZ kr kr kr
theorem Hk:∃ i,prog.info? 158=some i∧i.size=2∧i.zero=some (.agg #[.string ⟨#[]⟩,.int .i64 0])∧i.bytes=24:=kZ kr kr kr
theorem LB:∃ i,prog.info? 299=some i∧i.size=2∧i.zero=some (.agg #[.int .i64 0,.string ⟨#[]⟩])∧i.bytes=24:=kZ kr kr kr
theorem H5:∃ i,prog.info? 3=some i∧i.size=1∧i.zero=some (.int .i64 0)∧i.bytes=8:=kZ kr kr kr
theorem Ay:∃ i,prog.info? 4=some i∧i.size=1∧i.zero=some (.bool false)∧i.bytes=1:=kZ kr kr kr
theorem r9:∃ i,prog.info? 5=some i∧i.size=1∧i.zero=some (.int .u8 0)∧i.bytes=1:=kZ kr kr kr
theorem nO:∃ i,prog.info? 52=some i∧i.size=11∧i.zero=some (.agg #[.int .i64 0,.string ⟨#[]⟩,.string ⟨#[]⟩,.string ⟨#[]⟩,.string ⟨#[]⟩,.bool false,.bool false,.int .i64 0,.int .i64 0,.int .i64 0,.int .i64 0])∧i.bytes=112:=kZ kr kr kr
theorem inf81:∃ i,prog.info? 81=some i∧i.size=2∧i.zero=some (.agg #[.int .i64 0,.string ⟨#[]⟩])∧i.bytes=24:=kZ kr kr kr
theorem vT:∃ i,prog.info? 83=some i∧i.size=6∧i.zero=some (.agg #[.string ⟨#[]⟩,.string ⟨#[]⟩,.string ⟨#[]⟩,.bool false,.int .i64 0,.string ⟨#[]⟩])∧i.bytes=80:=kZ kr kr kr
theorem rA:∃ i,prog.info? 9=some i∧i.size=1∧i.zero=some (.string ⟨#[]⟩)∧i.bytes=16:=kZ kr kr kr
theorem inf91:∃ i,prog.info? 91=some i∧i.size=6∧i.zero=some (.agg #[.string ⟨#[]⟩,.string ⟨#[]⟩,.string ⟨#[]⟩,.bool false,.int .i64 0,.string ⟨#[]⟩])∧i.bytes=80:=kZ kr kr kr
theorem inf94:∃ i,prog.info? 94=some i∧i.size=2∧i.zero=some (.agg #[.string ⟨#[]⟩,.slice none 0 0])∧i.bytes=40:=kZ kr kr kr
theorem inf96:∃ i,prog.info? 96=some i∧i.size=2∧i.zero=some (.agg #[.string ⟨#[]⟩,.int .i64 0])∧i.bytes=24:=kZ kr kr kr
theorem zh:FA prog 110 0 0:=⟨_,_,_,_,kM,rfl,U9,c9,dc,rfl⟩
theorem Cm:FA prog 110 2 2:=⟨_,_,_,_,kM,rfl,de,c72,dc,rfl⟩
theorem yI:FA prog 110 3 3:=⟨_,_,_,_,kM,rfl,U9,c9,dc,rfl⟩
theorem IW:FA prog 110 4 4:=⟨_,_,_,_,kM,rfl,U9,c9,dc,rfl⟩
theorem zM:FA prog 110 5 5:=⟨_,_,_,_,kM,rfl,U3,c3,dc,rfl⟩
theorem ug:FA prog 113 0 0:=⟨_,_,_,_,lS,rfl,U9,c9,dc,rfl⟩
theorem DC:FA prog 116 0 0:=⟨_,_,_,_,rf,rfl,U3,c3,dc,rfl⟩
theorem Dk:FA prog 116 2 5:=⟨_,_,_,_,rf,rfl,U9,c9,dc,rfl⟩
theorem Dx:FA prog 156 0 0:=⟨_,_,_,_,zp,rfl,U9,c9,dc,rfl⟩
theorem CU:FA prog 156 1 1:=⟨_,_,_,_,zp,rfl,de,c72,dc,rfl⟩
theorem C5:FA prog 177 0 0:=⟨_,_,_,_,KQ,rfl,U174,IH,dc,rfl⟩
theorem IS:FA prog 177 1 1:=⟨_,_,_,_,KQ,rfl,U171,c171,dc,rfl⟩
theorem Dp:FA prog 183 0 0:=⟨_,_,_,_,HH,rfl,U178,c178,dc,rfl⟩
theorem nf:FA prog 183 1 1:=⟨_,_,_,_,HH,rfl,de,c72,dc,rfl⟩
theorem zE:FA prog 183 2 2:=⟨_,_,_,_,HH,rfl,tW,c181,dc,rfl⟩
theorem Iv:FA prog 186 0 0:=⟨_,_,_,_,Kp,rfl,EC,Fe,dc,rfl⟩
theorem sj:FA prog 190 0 0:=⟨_,_,_,_,Kq,rfl,eX,c23,dc,rfl⟩
theorem CL:FA prog 190 1 1:=⟨_,_,_,_,Kq,rfl,U187,c187,dc,rfl⟩
theorem ud:FA prog 192 0 0:=⟨_,_,_,_,Kl,rfl,eX,c23,dc,rfl⟩
theorem CF:FA prog 192 1 1:=⟨_,_,_,_,Kl,rfl,U187,c187,dc,rfl⟩
theorem H7:FA prog 198 0 0:=⟨_,_,_,_,zy,rfl,U3,c3,dc,rfl⟩
theorem I1:FA prog 198 1 1:=⟨_,_,_,_,zy,rfl,U3,c3,dc,rfl⟩
theorem Dy:FA prog 198 2 2:=⟨_,_,_,_,zy,rfl,oU,c38,dc,rfl⟩
theorem HO:FA prog 198 3 3:=⟨_,_,_,_,zy,rfl,U3,c3,dc,rfl⟩
theorem I5:FA prog 247 0 0:=⟨_,_,_,_,Jw,rfl,U3,c3,dc,rfl⟩
theorem o4:FA prog 247 1 1:=⟨_,_,_,_,Jw,rfl,eX,c23,dc,rfl⟩
theorem CG:FA prog 247 2 2:=⟨_,_,_,_,Jw,rfl,U3,c3,dc,rfl⟩
theorem uk:FA prog 250 0 0:=⟨_,_,_,_,U250,rfl,GK,c248,dc,rfl⟩
theorem yJ:FA prog 257 0 0:=⟨_,_,_,_,Li,rfl,U255,c255,dc,rfl⟩
theorem rZ:FA prog 257 1 1:=⟨_,_,_,_,Li,rfl,U2,c2,dc,rfl⟩
theorem iu:FA prog 261 0 0:=⟨_,_,_,_,KL,rfl,ox,c259,dc,rfl⟩
theorem ur:FA prog 261 1 1:=⟨_,_,_,_,KL,rfl,tW,c181,dc,rfl⟩
theorem HJ:FA prog 265 0 0:=⟨_,_,_,_,KS,rfl,U9,c9,dc,rfl⟩
theorem ue:FA prog 265 1 1:=⟨_,_,_,_,KS,rfl,wO,c263,dc,rfl⟩
theorem uv:FA prog 268 0 0:=⟨_,_,_,_,I4,rfl,kM,mL,dc,rfl⟩
theorem zB:FA prog 268 1 6:=⟨_,_,_,_,I4,rfl,U3,c3,dc,rfl⟩
theorem Ja:FA prog 268 2 7:=⟨_,_,_,_,I4,rfl,U4,c4,dc,rfl⟩
theorem Hc:FA prog 52 1 1:=⟨_,_,_,_,gJ,rfl,U9,c9,dc,rfl⟩
theorem ze:FA prog 52 2 2:=⟨_,_,_,_,gJ,rfl,U9,c9,dc,rfl⟩
theorem Fg:FA prog 52 6 6:=⟨_,_,_,_,gJ,rfl,U4,c4,dc,rfl⟩
theorem LD:FA prog 52 7 7:=⟨_,_,_,_,gJ,rfl,U3,c3,dc,rfl⟩
theorem Ko:FA prog 52 9 9:=⟨_,_,_,_,gJ,rfl,U3,c3,dc,rfl⟩
theorem Bz:FA prog 83 0 0:=⟨_,_,_,_,wX,rfl,KE,J5,dc,rfl⟩
theorem GQ:FA prog 83 1 4:=⟨_,_,_,_,wX,rfl,uB,Az,dc,rfl⟩
theorem K4:FA prog 91 0 0:=⟨_,_,_,_,Bf,rfl,Iw,LG,dc,rfl⟩
theorem Le:FA prog 91 1 4:=⟨_,_,_,_,Bf,rfl,uB,Az,dc,rfl⟩
theorem sc201:SC prog 201:=⟨_,KG,rfl⟩
theorem wu:SC prog 3:=⟨_,U3,rfl⟩
theorem JY:SC prog 336:=⟨_,U336,rfl⟩
theorem sc38:SC prog 38:=⟨_,oU,rfl⟩
theorem sc4:SC prog 4:=⟨_,U4,rfl⟩
theorem Iz:SC prog 72:=⟨_,de,rfl⟩
theorem nu:SC prog 9:=⟨_,U9,rfl⟩
theorem FJ:SG prog 110 6:=⟨_,kM,rfl,mL⟩
theorem Ga:SG prog 113 2:=⟨_,lS,rfl,nJ⟩
theorem sg116:SG prog 116 6:=⟨_,rf,rfl,xq⟩
theorem JL:SG prog 158 2:=⟨_,B1,rfl,Fq⟩
theorem uR:SG prog 52 11:=⟨_,gJ,rfl,iy⟩
theorem Kv:SG prog 79 4:=⟨_,KE,rfl,J5⟩
theorem sg81:SG prog 81 2:=⟨_,uB,rfl,Az⟩
theorem JH:SG prog 83 6:=⟨_,wX,rfl,Bg⟩
theorem sg89:SG prog 89 4:=⟨_,Iw,rfl,LG⟩
theorem sg94:SG prog 94 2:=⟨_,U94,rfl,c94⟩
theorem sg96:SG prog 96 2:=⟨_,U96,rfl,c96⟩
theorem sz113:SZ prog 113 2:=⟨_,lS,nJ⟩
theorem sz118:SZ prog 118 3:=⟨_,Bw,IV⟩
theorem r8:SZ prog 23 1:=⟨_,eX,c23⟩
theorem JP:SZ prog 259 1:=⟨_,ox,c259⟩
theorem sz30:SZ prog 30 5:=⟨_,LJ,c30⟩
theorem sz33:SZ prog 33 1:=⟨_,Lu,c33⟩
theorem Jm:SZ prog 34 1:=⟨_,pO,c34⟩
theorem B7:SZ prog 35 1:=⟨_,sE,c35⟩
theorem LC:SZ prog 38 1:=⟨_,oU,c38⟩
theorem sz41:SZ prog 41 1:=⟨_,Bc,c41⟩
theorem HL:SZ prog 43 8:=⟨_,B5,G9⟩
theorem sz55:SZ prog 55 1:=⟨_,Ks,c55⟩
theorem sz56:SZ prog 56 1:=⟨_,LO,c56⟩
theorem sz57:SZ prog 57 1:=⟨_,LM,c57⟩
theorem sz59:SZ prog 59 4:=⟨_,Lh,c59⟩
theorem sz63:SZ prog 63 1:=⟨_,CC,c63⟩
theorem sz64:SZ prog 64 1:=⟨_,EJ,c64⟩
theorem sz66:SZ prog 66 4:=⟨_,Jr,c66⟩
theorem Is:SZ prog 72 1:=⟨_,de,c72⟩
theorem Hg:SZ prog 81 2:=⟨_,uB,Az⟩
theorem sz9:SZ prog 9 1:=⟨_,U9,c9⟩
theorem AT:SZ prog 91 6:=⟨_,Bf,EH⟩
theorem Gt:kG prog 110=true:=kr
theorem Gd:kG prog 113=true:=kr
theorem xV:kG prog 116=true:=kr
theorem G8:kG prog 118=true:=kr
theorem GA:kG prog 120=true:=kr
theorem pl156:kG prog 156=true:=kr
theorem pl158:kG prog 158=true:=kr
theorem pl177:kG prog 177=true:=kr
theorem pl183:kG prog 183=true:=kr
theorem pl186:kG prog 186=true:=kr
theorem pl190:kG prog 190=true:=kr
theorem pl192:kG prog 192=true:=kr
theorem pl247:kG prog 247=true:=kr
theorem pl250:kG prog 250=true:=kr
theorem pl257:kG prog 257=true:=kr
theorem pl261:kG prog 261=true:=kr
theorem pl265:kG prog 265=true:=kr
theorem pl268:kG prog 268=true:=kr
theorem pl294:kG prog 294=true:=kr
theorem pl299:kG prog 299=true:=kr
theorem pl30:kG prog 30=true:=kr
theorem pl33:kG prog 33=true:=kr
theorem Ii:kG prog 43=true:=kr
theorem Cc:kG prog 52=true:=kr
theorem KY:kG prog 59=true:=kr
theorem H9:kG prog 66=true:=kr
theorem pl79:kG prog 79=true:=kr
theorem FR:kG prog 81=true:=kr
theorem pl83:kG prog 83=true:=kr
theorem JE:kG prog 89=true:=kr
theorem pl91:kG prog 91=true:=kr
theorem pl94:kG prog 94=true:=kr
theorem pl96:kG prog 96=true:=kr
theorem st158:prog.stoodInHeld 158=false:=kr
theorem st294:prog.stoodInHeld 294=false:=kr
theorem st52:prog.stoodInHeld 52=false:=kr
theorem st79:prog.stoodInHeld 79=false:=kr
theorem st81:prog.stoodInHeld 81=false:=kr
theorem st83:prog.stoodInHeld 83=false:=kr
theorem st89:prog.stoodInHeld 89=false:=kr
theorem xf170:(Extern.findNext Tryz.f170).isNone=true:=kr
theorem xf210:(Extern.findNext Tryz.f210).isNone=true:=kr
theorem xf237:(Extern.findNext Tryz.f237).isNone=true:=kr
theorem xf260:(Extern.findNext Tryz.f260).isNone=true:=kr
theorem xf265:(Extern.findNext Tryz.f265).isNone=true:=kr
theorem xf268:(Extern.findNext Tryz.f268).isNone=true:=kr
theorem xf298:(Extern.findNext Tryz.f298).isNone=true:=kr
theorem xg170:Extern.find Tryz.f170=some (Extern.SlicesOverlaps.overlaps Tryz.f170.params Tryz.f170.resultTypes):=by rfl
theorem xg210:Extern.find Tryz.f210=some Extern.Atomic.storeT:=by rfl
theorem xg237:Extern.find Tryz.f237=some (Extern.Atomic.loadT (.int .i64)):=by rfl
theorem xg260:Extern.find Tryz.f260=some Extern.BytealgCompare.compare:=by rfl
theorem xg265:Extern.find Tryz.f265=some (Extern.Atomic.casT (.int .i64)):=by rfl
theorem xg268:Extern.find Tryz.f268=some Extern.BytealgCount.count:=by rfl
theorem xg298:Extern.find Tryz.f298=some Extern.BytealgIndexByte.indexByte:=by rfl
theorem Es:lR prog 110=some (.agg #[.string ⟨#[]⟩,.string ⟨#[]⟩,.slice none 0 0,.string ⟨#[]⟩,.string ⟨#[]⟩,.int .i64 0]):=kr
theorem BP:lR prog 113=some (.agg #[.string ⟨#[]⟩,.slice none 0 0]):=kr
theorem z116:lR prog 116=some (.agg #[.int .i64 0,.string ⟨#[]⟩,.string ⟨#[]⟩,.string ⟨#[]⟩,.bool false,.string ⟨#[]⟩]):=kr
theorem HC:lR prog 118=some (.agg #[.int .i64 0,.slice none 0 0,.int .i64 0]):=kr
theorem IC:lR prog 120=some (.agg #[.slice none 0 0,.int .i64 0,.slice none 0 0,.int .i64 0]):=kr
theorem z156:lR prog 156=some (.agg #[.string ⟨#[]⟩,.slice none 0 0]):=kr
theorem KA:lR prog 158=some (.agg #[.string ⟨#[]⟩,.int .i64 0]):=kr
theorem z177:lR prog 177=some (.agg #[.pointer none,.pointer none]):=kr
theorem z183:lR prog 183=some (.agg #[.pointer none,.slice none 0 0,.map none]):=kr
theorem z186:lR prog 186=some (.agg #[.map none]):=kr
theorem z190:lR prog 190=some (.agg #[.slice none 0 0,.pointer none]):=kr
theorem z192:lR prog 192=some (.agg #[.slice none 0 0,.pointer none]):=kr
theorem z193:lR prog 193=some (.pointer none):=kr
theorem z201:lR prog 201=some .nilFunc:=kr
theorem z247:lR prog 247=some (.agg #[.int .i64 0,.slice none 0 0,.int .i64 0]):=kr
theorem z250:lR prog 250=some (.agg #[.map none]):=kr
theorem z257:lR prog 257=some (.agg #[.int .i64 0,.int .i64 0]):=kr
theorem z261:lR prog 261=some (.agg #[.slice none 0 0,.map none]):=kr
theorem z265:lR prog 265=some (.agg #[.string ⟨#[]⟩,.map none]):=kr
theorem Bj:lR prog 266=some (.pointer none):=kr
theorem z268:lR prog 268=some (.agg #[.string ⟨#[]⟩,.string ⟨#[]⟩,.slice none 0 0,.string ⟨#[]⟩,.string ⟨#[]⟩,.int .i64 0,.int .i64 0,.bool false]):=kr
theorem z294:lR prog 294=some (.agg #[.int .i64 0,.string ⟨#[]⟩,.string ⟨#[]⟩,.string ⟨#[]⟩,.bool false]):=kr
theorem Ln:lR prog 299=some (.agg #[.int .i64 0,.string ⟨#[]⟩]):=kr
theorem z3:lR prog 3=some (.int .i64 0):=kr
theorem z30:lR prog 30=some (.agg #[.pointer none,.pointer none,.pointer none,.pointer none,.pointer none]):=kr
theorem z303:lR prog 303=some (.agg #[.int .i64 0,.int .i64 0]):=kr
theorem z33:lR prog 33=some (.agg #[.slice none 0 0]):=kr
theorem z336:lR prog 336=some .nilFunc:=kr
theorem z37:lR prog 37=some (.agg #[.slice none 0 0,.slice none 0 0]):=kr
theorem z382:lR prog 382=some (.agg #[.nilFunc,.nilFunc,.nilFunc]):=kr
theorem z4:lR prog 4=some (.bool false):=kr
theorem z40:lR prog 40=some (.agg #[.slice none 0 0,.slice none 0 0]):=kr
theorem z43:lR prog 43=some (.agg #[.slice none 0 0,.slice none 0 0,.slice none 0 0,.slice none 0 0,.slice none 0 0,.slice none 0 0,.slice none 0 0,.int .i64 0]):=kr
theorem z5:lR prog 5=some (.int .u8 0):=kr
theorem wm:lR prog 52=some (.agg #[.int .i64 0,.string ⟨#[]⟩,.string ⟨#[]⟩,.string ⟨#[]⟩,.string ⟨#[]⟩,.bool false,.bool false,.int .i64 0,.int .i64 0,.int .i64 0,.int .i64 0]):=kr
theorem z59:lR prog 59=some (.agg #[.int .i64 0,.slice none 0 0,.slice none 0 0,.slice none 0 0]):=kr
theorem z66:lR prog 66=some (.agg #[.int .i64 0,.slice none 0 0,.slice none 0 0,.slice none 0 0]):=kr
theorem z79:lR prog 79=some (.agg #[.string ⟨#[]⟩,.string ⟨#[]⟩,.string ⟨#[]⟩,.bool false]):=kr
theorem IA:lR prog 81=some (.agg #[.int .i64 0,.string ⟨#[]⟩]):=kr
theorem LQ:lR prog 83=some (.agg #[.string ⟨#[]⟩,.string ⟨#[]⟩,.string ⟨#[]⟩,.bool false,.int .i64 0,.string ⟨#[]⟩]):=kr
theorem z89:lR prog 89=some (.agg #[.string ⟨#[]⟩,.string ⟨#[]⟩,.string ⟨#[]⟩,.bool false]):=kr
theorem z9:lR prog 9=some (.string ⟨#[]⟩):=kr
theorem z91:lR prog 91=some (.agg #[.string ⟨#[]⟩,.string ⟨#[]⟩,.string ⟨#[]⟩,.bool false,.int .i64 0,.string ⟨#[]⟩]):=kr
theorem z94:lR prog 94=some (.agg #[.string ⟨#[]⟩,.slice none 0 0]):=kr
theorem z96:lR prog 96=some (.agg #[.string ⟨#[]⟩,.int .i64 0]):=kr
theorem vM:ZC prog 110 [eq (.string eE),eq (.string eE),eq (.slice none 0 0),eq (.string eE),eq (.string eE),eq (.int .i64 0)]:=⟨_,Es,rfl⟩
theorem oO:ZC prog 113 [eq (.string eE),eq (.slice none 0 0)]:=⟨_,BP,rfl⟩
theorem zc116:ZC prog 116 [eq (.int .i64 0),eq (.string eE),eq (.string eE),eq (.string eE),eq (.bool false),eq (.string eE)]:=⟨_,z116,rfl⟩
theorem Kc:ZC prog 118 [eq (.int .i64 0),eq (.slice none 0 0),eq (.int .i64 0)]:=⟨_,HC,rfl⟩
theorem Ka:ZC prog 120 [eq (.slice none 0 0),eq (.int .i64 0),eq (.slice none 0 0),eq (.int .i64 0)]:=⟨_,IC,rfl⟩
theorem zc294:ZC prog 294 [eq (.int .i64 0),eq (.string eE),eq (.string eE),eq (.string eE),eq (.bool false)]:=⟨_,z294,rfl⟩
theorem GR:ZC prog 299 [eq (.int .i64 0),eq (.string eE)]:=⟨_,Ln,rfl⟩
theorem Lr:ZC prog 30 [eq (.pointer none),eq (.pointer none),eq (.pointer none),eq (.pointer none),eq (.pointer none)]:=⟨_,z30,rfl⟩
theorem Jt:ZC prog 33 [eq (.slice none 0 0)]:=⟨_,z33,rfl⟩
theorem zc336:ZC prog 336 [eq .nilFunc]:=⟨_,z336,rfl⟩
theorem Ky:ZC prog 37 [eq (.slice none 0 0),eq (.slice none 0 0)]:=⟨_,z37,rfl⟩
theorem Lv:ZC prog 40 [eq (.slice none 0 0),eq (.slice none 0 0)]:=⟨_,z40,rfl⟩
theorem G7:ZC prog 43 [eq (.slice none 0 0),eq (.slice none 0 0),eq (.slice none 0 0),eq (.slice none 0 0),eq (.slice none 0 0),eq (.slice none 0 0),eq (.slice none 0 0),eq (.int .i64 0)]:=⟨_,z43,rfl⟩
theorem wa:ZC prog 52 [eq (.int .i64 0),eq (.string eE),eq (.string eE),eq (.string eE),eq (.string eE),eq (.bool false),eq (.bool false),eq (.int .i64 0),eq (.int .i64 0),eq (.int .i64 0),eq (.int .i64 0)]:=⟨_,wm,rfl⟩
theorem Il:ZC prog 59 [eq (.int .i64 0),eq (.slice none 0 0),eq (.slice none 0 0),eq (.slice none 0 0)]:=⟨_,z59,rfl⟩
theorem Em:ZC prog 66 [eq (.int .i64 0),eq (.slice none 0 0),eq (.slice none 0 0),eq (.slice none 0 0)]:=⟨_,z66,rfl⟩
theorem zc79:ZC prog 79 [eq (.string eE),eq (.string eE),eq (.string eE),eq (.bool false)]:=⟨_,z79,rfl⟩
theorem tY:ZC prog 81 [eq (.int .i64 0),eq (.string eE)]:=⟨_,IA,rfl⟩
theorem zc89:ZC prog 89 [eq (.string eE),eq (.string eE),eq (.string eE),eq (.bool false)]:=⟨_,z89,rfl⟩
theorem zc91:ZC prog 91 [eq (.string eE),eq (.string eE),eq (.string eE),eq (.bool false),eq (.int .i64 0),eq (.string eE)]:=⟨_,z91,rfl⟩
structure ak where
 aI:Int
 ab:BA
 aj:BA
 bH:BA
 ae:BA
 aq:Bool
 kl:Bool
 bW:Int
 aQ:Int
 aU:Int
 aZ:Int
 deriving DecidableEq,Inhabited
abbrev ak.enc (x:ak):Cs:=[eq (.int .i64 x.aI),eq (.string x.ab),eq (.string x.aj),eq (.string x.bH),eq (.string x.ae),eq (.bool x.aq),eq (.bool x.kl),eq (.int .i64 x.bW),eq (.int .i64 x.aQ),eq (.int .i64 x.aU),eq (.int .i64 x.aZ)]
abbrev ak.K:Kd ak:=⟨11,default,ak.enc,fun _=>rfl,fun _=>(ai (ah rfl) (ai (ah rfl) (ai (ah rfl) (ai (ah rfl) (ai (ah rfl) (ai (ah rfl) (ai (ah rfl) (ai (ah rfl) (ai (ah rfl) (ai (ah rfl) (ai (ah rfl) bM)))))))))))⟩
structure jH where
 eb:Int
 fl:List ak
 qZ:Int
 deriving DecidableEq,Inhabited
abbrev jH.enc (x:jH):Cs:=[eq (.int .i64 x.eb),sl ak.K x.fl,eq (.int .i64 x.qZ)]
abbrev jH.K:Kd jH:=⟨3,default,jH.enc,fun _=>rfl,fun _=>(ai (ah rfl) (ai dL (ai (ah rfl) bM)))⟩
structure bB where
 ab:BA
 aj:BA
 ae:BA
 aq:Bool
 deriving DecidableEq,Inhabited
abbrev bB.enc (x:bB):Cs:=[eq (.string x.ab),eq (.string x.aj),eq (.string x.ae),eq (.bool x.aq)]
abbrev bB.K:Kd bB:=⟨4,default,bB.enc,fun _=>rfl,fun _=>(ai (ah rfl) (ai (ah rfl) (ai (ah rfl) (ai (ah rfl) bM))))⟩
structure Pos where
 br:Int
 bQ:BA
 deriving DecidableEq,Inhabited
abbrev Pos.enc (x:Pos):Cs:=[eq (.int .i64 x.br),eq (.string x.bQ)]
abbrev Pos.K:Kd Pos:=⟨2,default,Pos.enc,fun _=>rfl,fun _=>(ai (ah rfl) (ai (ah rfl) bM))⟩
structure j8 where
 iU:List (bB×Pos)
 deriving DecidableEq,Inhabited
structure j7 where
 qt:j8
 pT:jH
 deriving DecidableEq,Inhabited
structure Bx where
 fv:Int
 deriving DecidableEq,Inhabited
abbrev Bx.enc (x:Bx):Cs:=[eq (.int .i64 x.fv)]
abbrev Bx.K:Kd Bx:=⟨1,default,Bx.enc,fun _=>rfl,fun _=>(ai (ah rfl) bM)⟩
structure lz where
 fn:Bx
 eb:Int
 deriving DecidableEq,Inhabited
abbrev lz.enc (x:lz):Cs:=[eq (.int .i64 x.fn.fv),eq (.int .i64 x.eb)]
abbrev lz.K:Kd lz:=⟨2,default,lz.enc,fun _=>rfl,fun _=>(ai (ah rfl) (ai (ah rfl) bM))⟩
structure S where
 deriving DecidableEq,Inhabited
abbrev S.enc (x:S):Cs:=[]
abbrev S.K:Kd S:=⟨0,default,S.enc,fun _=>rfl,fun _=>bM⟩
structure cC where
 iU:lz
 eU:List BA
 ou:List (BA×Int)
 deriving DecidableEq,Inhabited
structure Event where
 bQ:BA
 ab:BA
 ag:List BA
 ae:BA
 aj:BA
 bO:Int
 deriving DecidableEq,Inhabited
abbrev Event.enc (x:Event):Cs:=[eq (.string x.bQ),eq (.string x.ab),sl aw x.ag,eq (.string x.ae),eq (.string x.aj),eq (.int .i64 x.bO)]
abbrev Event.K:Kd Event:=⟨6,default,Event.enc,fun _=>rfl,fun _=>(ai (ah rfl) (ai (ah rfl) (ai dL (ai (ah rfl) (ai (ah rfl) (ai (ah rfl) bM))))))⟩
structure aX where
 fe:Event
 cI:Int
 kT:Bool
 deriving DecidableEq,Inhabited
abbrev aX.enc (x:aX):Cs:=[eq (.string x.fe.bQ),eq (.string x.fe.ab),sl aw x.fe.ag,eq (.string x.fe.ae),eq (.string x.fe.aj),eq (.int .i64 x.fe.bO),eq (.int .i64 x.cI),eq (.bool x.kT)]
abbrev aX.K:Kd aX:=⟨8,default,aX.enc,fun _=>rfl,fun _=>(ai (ah rfl) (ai (ah rfl) (ai dL (ai (ah rfl) (ai (ah rfl) (ai (ah rfl) (ai (ah rfl) (ai (ah rfl) bM))))))))⟩
structure bn where
 cM:BA
 ao:List (BA×aX)
 deriving DecidableEq,Inhabited
structure aN where
 bx:List (BA×bn)
 deriving DecidableEq,Inhabited
structure dq where
 hM:Int
 dw:BA
 deriving DecidableEq,Inhabited
abbrev dq.enc (x:dq):Cs:=[eq (.int .i64 x.hM),eq (.string x.dw)]
abbrev dq.K:Kd dq:=⟨2,default,dq.enc,fun _=>rfl,fun _=>(ai (ah rfl) (ai (ah rfl) bM))⟩
structure aP where
 fl:List dq
 iU:List (BA×Int)
 deriving DecidableEq,Inhabited
structure bX where
 fl:List ak
 gU:aP
 deriving DecidableEq,Inhabited
structure cD where
 fl:List ak
 fh:aP
 deriving DecidableEq,Inhabited
structure aM where
 ab:BA
 fL:List Event
 deriving DecidableEq,Inhabited
abbrev aM.enc (x:aM):Cs:=[eq (.string x.ab),sl Event.K x.fL]
abbrev aM.K:Kd aM:=⟨2,default,aM.enc,fun _=>rfl,fun _=>(ai (ah rfl) (ai dL bM))⟩
structure bA where
 fD:List aM
 deriving DecidableEq,Inhabited
abbrev bA.enc (x:bA):Cs:=[sl aM.K x.fD]
abbrev bA.K:Kd bA:=⟨1,default,bA.enc,fun _=>rfl,fun _=>(ai dL bM)⟩
structure Src where
 dB:aN
 aJ:j7
 az:bX
 bu:cD
 jy:cC
 deriving DecidableEq,Inhabited
structure MK where
 fK:bB
 hM:Pos
 deriving DecidableEq,Inhabited
abbrev MK.enc (x:MK):Cs:=[eq (.string x.fK.ab),eq (.string x.fK.aj),eq (.string x.fK.ae),eq (.bool x.fK.aq),eq (.int .i64 x.hM.br),eq (.string x.hM.bQ)]
abbrev MK.K:Kd MK:=⟨6,default,MK.enc,fun _=>rfl,fun _=>(ai (ah rfl) (ai (ah rfl) (ai (ah rfl) (ai (ah rfl) (ai (ah rfl) (ai (ah rfl) bM))))))⟩
structure kH where
 fL:List ak
 db:List Bool
 deriving DecidableEq,Inhabited
abbrev kH.enc (x:kH):Cs:=[sl ak.K x.fL,sl cG x.db]
abbrev kH.K:Kd kH:=⟨2,default,kH.enc,fun _=>rfl,fun _=>(ai dL (ai dL bM))⟩
structure lH where
 fL:List ak
 db:List Int
 deriving DecidableEq,Inhabited
abbrev lH.enc (x:lH):Cs:=[sl ak.K x.fL,sl (bq .i64) x.db]
abbrev lH.K:Kd lH:=⟨2,default,lH.enc,fun _=>rfl,fun _=>(ai dL (ai dL bM))⟩
structure kb where
 aI:Int
 fK:bB
 mT:BA
 deriving DecidableEq,Inhabited
abbrev kb.enc (x:kb):Cs:=[eq (.int .i64 x.aI),eq (.string x.fK.ab),eq (.string x.fK.aj),eq (.string x.fK.ae),eq (.bool x.fK.aq),eq (.string x.mT)]
abbrev kb.K:Kd kb:=⟨6,default,kb.enc,fun _=>rfl,fun _=>(ai (ah rfl) (ai (ah rfl) (ai (ah rfl) (ai (ah rfl) (ai (ah rfl) (ai (ah rfl) bM))))))⟩
structure dU where
 fV:bA
 fM:List MK
 fT:kH
 fP:lH
 fL:List kb
 aC:Int
 deriving DecidableEq,Inhabited
abbrev dU.enc (x:dU):Cs:=[sl aM.K x.fV.fD,sl MK.K x.fM,sl ak.K x.fT.fL,sl cG x.fT.db,sl ak.K x.fP.fL,sl (bq .i64) x.fP.db,sl kb.K x.fL,eq (.int .i64 x.aC)]
abbrev dU.K:Kd dU:=⟨8,default,dU.enc,fun _=>rfl,fun _=>(ai dL (ai dL (ai dL (ai dL (ai dL (ai dL (ai dL (ai (ah rfl) bM))))))))⟩
structure dz where
 aj:Int
 bO:Int
 ag:List Int
 ae:Int
 deriving DecidableEq,Inhabited
abbrev dz.enc (x:dz):Cs:=[eq (.int .i64 x.aj),eq (.int .i64 x.bO),sl (bq .i64) x.ag,eq (.int .i64 x.ae)]
abbrev dz.K:Kd dz:=⟨4,default,dz.enc,fun _=>rfl,fun _=>(ai (ah rfl) (ai (ah rfl) (ai dL (ai (ah rfl) bM))))⟩
structure nY where
 pI:Int
 fL:List ak
 qm:Int
 deriving DecidableEq,Inhabited
abbrev nY.enc (x:nY):Cs:=[eq (.int .i64 x.pI),sl ak.K x.fL,eq (.int .i64 x.qm)]
abbrev nY.K:Kd nY:=⟨3,default,nY.enc,fun _=>rfl,fun _=>(ai (ah rfl) (ai dL (ai (ah rfl) bM)))⟩
structure qG where
 fL:List MK
 fP:nY
 deriving DecidableEq,Inhabited
abbrev qG.enc (x:qG):Cs:=[sl MK.K x.fL,eq (.int .i64 x.fP.pI),sl ak.K x.fP.fL,eq (.int .i64 x.fP.qm)]
abbrev qG.K:Kd qG:=⟨4,default,qG.enc,fun _=>rfl,fun _=>(ai dL (ai (ah rfl) (ai dL (ai (ah rfl) bM))))⟩
structure u0 where
 aI:Int
 ab:BA
 aj:BA
 ae:BA
 aq:Bool
 deriving DecidableEq,Inhabited
abbrev u0.enc (x:u0):Cs:=[eq (.int .i64 x.aI),eq (.string x.ab),eq (.string x.aj),eq (.string x.ae),eq (.bool x.aq)]
abbrev u0.K:Kd u0:=⟨5,default,u0.enc,fun _=>rfl,fun _=>(ai (ah rfl) (ai (ah rfl) (ai (ah rfl) (ai (ah rfl) (ai (ah rfl) bM)))))⟩
structure jg where
 dw:bB
 hM:Pos
 deriving DecidableEq,Inhabited
abbrev jg.enc (x:jg):Cs:=[eq (.string x.dw.ab),eq (.string x.dw.aj),eq (.string x.dw.ae),eq (.bool x.dw.aq),eq (.int .i64 x.hM.br),eq (.string x.hM.bQ)]
abbrev jg.K:Kd jg:=⟨6,default,jg.enc,fun _=>rfl,fun _=>(ai (ah rfl) (ai (ah rfl) (ai (ah rfl) (ai (ah rfl) (ai (ah rfl) (ai (ah rfl) bM))))))⟩
structure fE where
 ab:BA
 nI:List BA
 deriving DecidableEq,Inhabited
abbrev fE.enc (x:fE):Cs:=[eq (.string x.ab),sl aw x.nI]
abbrev fE.K:Kd fE:=⟨2,default,fE.enc,fun _=>rfl,fun _=>(ai (ah rfl) (ai dL bM))⟩
structure fm where
 aj:BA
 aQ:Int
 deriving DecidableEq,Inhabited
abbrev fm.enc (x:fm):Cs:=[eq (.string x.aj),eq (.int .i64 x.aQ)]
abbrev fm.K:Kd fm:=⟨2,default,fm.enc,fun _=>rfl,fun _=>(ai (ah rfl) (ai (ah rfl) bM))⟩
structure wx where
 ig:Int
 aJ:List jg
 az:List fE
 cJ:List fm
 deriving DecidableEq,Inhabited
abbrev wx.enc (x:wx):Cs:=[eq (.int .i64 x.ig),sl jg.K x.aJ,sl fE.K x.az,sl fm.K x.cJ]
abbrev wx.K:Kd wx:=⟨4,default,wx.enc,fun _=>rfl,fun _=>(ai (ah rfl) (ai dL (ai dL (ai dL bM))))⟩
structure mf where
 ig:Int
 aJ:List MK
 az:List fE
 cJ:List fm
 deriving DecidableEq,Inhabited
abbrev mf.enc (x:mf):Cs:=[eq (.int .i64 x.ig),sl MK.K x.aJ,sl fE.K x.az,sl fm.K x.cJ]
abbrev mf.K:Kd mf:=⟨4,default,mf.enc,fun _=>rfl,fun _=>(ai (ah rfl) (ai dL (ai dL (ai dL bM))))⟩
inductive jW where
 | nil
 | d89 (x:bB)
 | d141 (x:BA)
 | d143 (x:BA)
 deriving DecidableEq,Inhabited
def jW.p:jW→VP
 | .nil=>eq .nilIface
 | .d89 x=>ifp 89 (agg (bB.enc x))
 | .d141 x=>ifp 141 (eq (.string x))
 | .d143 x=>ifp 143 (eq (.string x))
def jW.g89:jW→Option bB
 | .d89 x=>some x
 | _=>none
def jW.sX:jW→Option BA
 | .d141 x=>some x
 | _=>none
def jW.sU:jW→Option BA
 | .d143 x=>some x
 | _=>none
theorem jW.H3 (d:jW):∀ R v w,(jW.p d).p R v→∃ u,(Instr.typeAssert v 20 89 true).run prog w = .ok (.tuple #[u,.bool (jW.g89 d).isSome]) w∧(agg (bB.enc ((jW.g89 d).getD (⟨eE,eE,eE,false⟩:bB)))).p R u:=by
 intro R v w h
 cases d with
 | nil=>obtain rfl:v = .nilIface:=h; exact ⟨.agg #[.string ⟨#[]⟩,.string ⟨#[]⟩,.string ⟨#[]⟩,.bool false],kr,⟨_,rfl,Cs.eqz rfl⟩⟩
 | d89 x=>obtain ⟨u,rfl,h⟩:=h; exact ⟨u,kr,h⟩
 | d141 x=>obtain ⟨u,rfl,h⟩:=h; exact ⟨.agg #[.string ⟨#[]⟩,.string ⟨#[]⟩,.string ⟨#[]⟩,.bool false],kr,⟨_,rfl,Cs.eqz rfl⟩⟩
 | d143 x=>obtain ⟨u,rfl,h⟩:=h; exact ⟨.agg #[.string ⟨#[]⟩,.string ⟨#[]⟩,.string ⟨#[]⟩,.bool false],kr,⟨_,rfl,Cs.eqz rfl⟩⟩
theorem jW.Gx (d:jW):∀ R v w,(jW.p d).p R v→∃ u,(Instr.typeAssert v 20 141 true).run prog w = .ok (.tuple #[u,.bool (jW.sX d).isSome]) w∧(eq (.string ((jW.sX d).getD eE))).p R u:=by
 intro R v w h
 cases d with
 | nil=>obtain rfl:v = .nilIface:=h; exact ⟨.string ⟨#[]⟩,kr,rfl⟩
 | d89 x=>obtain ⟨u,rfl,h⟩:=h; exact ⟨.string ⟨#[]⟩,kr,rfl⟩
 | d141 x=>obtain ⟨u,rfl,h⟩:=h; exact ⟨u,kr,h⟩
 | d143 x=>obtain ⟨u,rfl,h⟩:=h; exact ⟨.string ⟨#[]⟩,kr,rfl⟩
theorem jW.GF (d:jW):∀ R v w,(jW.p d).p R v→∃ u,(Instr.typeAssert v 20 143 true).run prog w = .ok (.tuple #[u,.bool (jW.sU d).isSome]) w∧(eq (.string ((jW.sU d).getD eE))).p R u:=by
 intro R v w h
 cases d with
 | nil=>obtain rfl:v = .nilIface:=h; exact ⟨.string ⟨#[]⟩,kr,rfl⟩
 | d89 x=>obtain ⟨u,rfl,h⟩:=h; exact ⟨.string ⟨#[]⟩,kr,rfl⟩
 | d141 x=>obtain ⟨u,rfl,h⟩:=h; exact ⟨.string ⟨#[]⟩,kr,rfl⟩
 | d143 x=>obtain ⟨u,rfl,h⟩:=h; exact ⟨u,kr,h⟩
def bB.cv (k:bB):List Value:=[.string k.ab,.string k.aj,.string k.ae,.bool k.aq]
def bB.kv (k:bB):Value:=.agg (bB.cv k).toArray
theorem bB.kq (k:bB):∀ R u,(agg (bB.enc k)).p R u→u=bB.kv k:=fun _ _ h=>aggq (vs:=bB.cv k) rfl h
theorem eqt89 (x y:bB) {d:Nat} {w:World}:(Op.equalIn (d+2) 89 (.agg [.string x.ab,.string x.aj,.string x.ae,.bool x.aq].toArray) (.agg [.string y.ab,.string y.aj,.string y.ae,.bool y.aq].toArray)).run prog w = .ok (decide (x=y)) w:=by
 have e:decide (x=y)=((decide (x.ab=y.ab)&&(decide (x.aj=y.aj)&&(decide (x.ae=y.ae)&&(decide (x.aq=y.aq)&&true))))):=by cases x; cases y; rw [Bool.eq_iff_iff]; simp
 rw [e]
 exact mq Iw st89 (cQ dc (aF U9 rfl rfl) (aF U9 rfl rfl) (lA U9) (cQ dc (aF U9 rfl rfl) (aF U9 rfl rfl) (lA U9) (cQ dc (aF U9 rfl rfl) (aF U9 rfl rfl) (lA U9) (cQ dc (aF U4 rfl rfl) (aF U4 rfl rfl) (si U4) oV))))
theorem Dm:rM prog 89 bB.kv:=yN (fun k=>(bB.cv k).toArray) Iw (fun _=>rfl) (fun k=>(all_cons ⟨⟨_,U9,.inl rfl⟩,_,fun _=>aF U9 rfl rfl⟩ (all_cons ⟨⟨_,U9,.inl rfl⟩,_,fun _=>aF U9 rfl rfl⟩ (all_cons ⟨⟨_,U9,.inl rfl⟩,_,fun _=>aF U9 rfl rfl⟩ (all_cons ⟨⟨_,U4,.inr (.inl rfl)⟩,_,fun _=>aF U4 rfl rfl⟩ all_nil))))) (fun k c w=>lP 2 dc (fun _=>eqt89 k c)) (fun k=>by simp [bB.kv,bB.cv,Instr.sameBits,yt])
theorem JO (x y:bB) {d:Nat} {w:World}:(Op.equalIn (d+2) 79 (.agg [.string x.ab,.string x.aj,.string x.ae,.bool x.aq].toArray) (.agg [.string y.ab,.string y.aj,.string y.ae,.bool y.aq].toArray)).run prog w = .ok (decide (x=y)) w:=by
 have e:decide (x=y)=((decide (x.ab=y.ab)&&(decide (x.aj=y.aj)&&(decide (x.ae=y.ae)&&(decide (x.aq=y.aq)&&true))))):=by cases x; cases y; rw [Bool.eq_iff_iff]; simp
 rw [e]
 exact mq KE st79 (cQ dc (aF U9 rfl rfl) (aF U9 rfl rfl) (lA U9) (cQ dc (aF U9 rfl rfl) (aF U9 rfl rfl) (lA U9) (cQ dc (aF U9 rfl rfl) (aF U9 rfl rfl) (lA U9) (cQ dc (aF U4 rfl rfl) (aF U4 rfl rfl) (si U4) oV))))
theorem Cp (x y:ak) {d:Nat} {w:World}:(Op.equalIn (d+2) 52 (.agg [.int .i64 x.aI,.string x.ab,.string x.aj,.string x.bH,.string x.ae,.bool x.aq,.bool x.kl,.int .i64 x.bW,.int .i64 x.aQ,.int .i64 x.aU,.int .i64 x.aZ].toArray) (.agg [.int .i64 y.aI,.string y.ab,.string y.aj,.string y.bH,.string y.ae,.bool y.aq,.bool y.kl,.int .i64 y.bW,.int .i64 y.aQ,.int .i64 y.aU,.int .i64 y.aZ].toArray)).run prog w = .ok (decide (x=y)) w:=by
 have e:decide (x=y)=((decide (x.aI=y.aI)&&(decide (x.ab=y.ab)&&(decide (x.aj=y.aj)&&(decide (x.bH=y.bH)&&(decide (x.ae=y.ae)&&(decide (x.aq=y.aq)&&(decide (x.kl=y.kl)&&(decide (x.bW=y.bW)&&(decide (x.aQ=y.aQ)&&(decide (x.aU=y.aU)&&(decide (x.aZ=y.aZ)&&true)))))))))))):=by cases x; cases y; rw [Bool.eq_iff_iff]; simp
 rw [e]
 exact mq gJ st52 (cQ dc (aF U3 rfl rfl) (aF U3 rfl rfl) (eq_int U3) (cQ dc (aF U9 rfl rfl) (aF U9 rfl rfl) (lA U9) (cQ dc (aF U9 rfl rfl) (aF U9 rfl rfl) (lA U9) (cQ dc (aF U9 rfl rfl) (aF U9 rfl rfl) (lA U9) (cQ dc (aF U9 rfl rfl) (aF U9 rfl rfl) (lA U9) (cQ dc (aF U4 rfl rfl) (aF U4 rfl rfl) (si U4) (cQ dc (aF U4 rfl rfl) (aF U4 rfl rfl) (si U4) (cQ dc (aF U3 rfl rfl) (aF U3 rfl rfl) (eq_int U3) (cQ dc (aF U3 rfl rfl) (aF U3 rfl rfl) (eq_int U3) (cQ dc (aF U3 rfl rfl) (aF U3 rfl rfl) (eq_int U3) (cQ dc (aF U3 rfl rfl) (aF U3 rfl rfl) (eq_int U3) oV)))))))))))
theorem KI (x y:u0) {d:Nat} {w:World}:(Op.equalIn (d+2) 294 (.agg [.int .i64 x.aI,.string x.ab,.string x.aj,.string x.ae,.bool x.aq].toArray) (.agg [.int .i64 y.aI,.string y.ab,.string y.aj,.string y.ae,.bool y.aq].toArray)).run prog w = .ok (decide (x=y)) w:=by
 have e:decide (x=y)=((decide (x.aI=y.aI)&&(decide (x.ab=y.ab)&&(decide (x.aj=y.aj)&&(decide (x.ae=y.ae)&&(decide (x.aq=y.aq)&&true)))))):=by cases x; cases y; rw [Bool.eq_iff_iff]; simp
 rw [e]
 exact mq Ls st294 (cQ dc (aF U3 rfl rfl) (aF U3 rfl rfl) (eq_int U3) (cQ dc (aF U9 rfl rfl) (aF U9 rfl rfl) (lA U9) (cQ dc (aF U9 rfl rfl) (aF U9 rfl rfl) (lA U9) (cQ dc (aF U9 rfl rfl) (aF U9 rfl rfl) (lA U9) (cQ dc (aF U4 rfl rfl) (aF U4 rfl rfl) (si U4) oV)))))
theorem eqt81 (x y:Pos) {d:Nat} {w:World}:(Op.equalIn (d+2) 81 (.agg [.int .i64 x.br,.string x.bQ].toArray) (.agg [.int .i64 y.br,.string y.bQ].toArray)).run prog w = .ok (decide (x=y)) w:=by
 have e:decide (x=y)=((decide (x.br=y.br)&&(decide (x.bQ=y.bQ)&&true))):=by cases x; cases y; rw [Bool.eq_iff_iff]; simp
 rw [e]
 exact mq uB st81 (cQ dc (aF U3 rfl rfl) (aF U3 rfl rfl) (eq_int U3) (cQ dc (aF U9 rfl rfl) (aF U9 rfl rfl) (lA U9) oV))
theorem eqt83 (x y:MK) {d:Nat} {w:World}:(Op.equalIn (d+3) 83 (.agg [.string x.fK.ab,.string x.fK.aj,.string x.fK.ae,.bool x.fK.aq,.int .i64 x.hM.br,.string x.hM.bQ].toArray) (.agg [.string y.fK.ab,.string y.fK.aj,.string y.fK.ae,.bool y.fK.aq,.int .i64 y.hM.br,.string y.hM.bQ].toArray)).run prog w = .ok (decide (x=y)) w:=by
 have e:decide (x=y)=((decide (x.fK=y.fK)&&(decide (x.hM=y.hM)&&true))):=by cases x; cases y; rw [Bool.eq_iff_iff]; simp
 rw [e]
 exact mq wX st83 (cQ dc (run_parts KE rfl J5) (run_parts KE rfl J5) (JO _ _) (cQ dc (run_parts uB rfl Az) (run_parts uB rfl Az) (eqt81 _ _) oV))
theorem KB (x y:fm) {d:Nat} {w:World}:(Op.equalIn (d+2) 158 (.agg [.string x.aj,.int .i64 x.aQ].toArray) (.agg [.string y.aj,.int .i64 y.aQ].toArray)).run prog w = .ok (decide (x=y)) w:=by
 have e:decide (x=y)=((decide (x.aj=y.aj)&&(decide (x.aQ=y.aQ)&&true))):=by cases x; cases y; rw [Bool.eq_iff_iff]; simp
 rw [e]
 exact mq B1 st158 (cQ dc (aF U9 rfl rfl) (aF U9 rfl rfl) (lA U9) (cQ dc (aF U3 rfl rfl) (aF U3 rfl rfl) (eq_int U3) oV))
def jH.O (p:OV) (m:jH):As:=yc (γ:=Nat×OV) (fun g=>p.1 = .pointer (some ⟨g.1,0,none⟩)) (fun g=>[aE g.1 247 [eq (.int .i64 m.eb),eq g.2.1,eq (.int .i64 m.qZ)],own ak.K g.2.1 m.fl])
theorem jH.jf {l:List As} {p:OV} {m:jH} (j:Nat) (hj:l[j]? = some (jH.O p m)):∀ R w,St R l w→∃ g:Nat×OV,p.1 = .pointer (some ⟨g.1,0,none⟩)∧St R ([aE g.1 247 [eq (.int .i64 m.eb),eq g.2.1,eq (.int .i64 m.qZ)],own ak.K g.2.1 m.fl]++l.eraseIdx j) w:=kj j hj
theorem jH.shut {l r:List As} {p:OV} {m:jH} (g:Nat×OV) (hg:p.1 = .pointer (some ⟨g.1,0,none⟩)) (hp:l.Perm ([aE g.1 247 [eq (.int .i64 m.eb),eq g.2.1,eq (.int .i64 m.qZ)],own ak.K g.2.1 m.fl]++r)):∀ R w,St R l w→∃ _:Unit,True∧St R (jH.O p m::r) w:=jD _ _ g hg hp
def j8.O (p:OV) (m:j8):As:=yc (γ:=Nat×OV) (fun g=>p.1 = .pointer (some ⟨g.1,0,none⟩)) (fun g=>[aE g.1 250 [eq g.2.1],mp bB.kv (fun x:Pos=>agg (Pos.enc x)) g.2.1 m.iU])
theorem j8.jf {l:List As} {p:OV} {m:j8} (j:Nat) (hj:l[j]? = some (j8.O p m)):∀ R w,St R l w→∃ g:Nat×OV,p.1 = .pointer (some ⟨g.1,0,none⟩)∧St R ([aE g.1 250 [eq g.2.1],mp bB.kv (fun x:Pos=>agg (Pos.enc x)) g.2.1 m.iU]++l.eraseIdx j) w:=kj j hj
theorem j8.shut {l r:List As} {p:OV} {m:j8} (g:Nat×OV) (hg:p.1 = .pointer (some ⟨g.1,0,none⟩)) (hp:l.Perm ([aE g.1 250 [eq g.2.1],mp bB.kv (fun x:Pos=>agg (Pos.enc x)) g.2.1 m.iU]++r)):∀ R w,St R l w→∃ _:Unit,True∧St R (j8.O p m::r) w:=jD _ _ g hg hp
def j7.O (p:OV) (m:j7):As:=yc (γ:=Nat×OV×OV) (fun g=>p.1 = .pointer (some ⟨g.1,0,none⟩)) (fun g=>[aE g.1 177 [eq g.2.1.1,eq g.2.2.1],j8.O g.2.1 m.qt,jH.O g.2.2 m.pT])
theorem j7.nn {p:OV} {m:j7}:NN (j7.O p m) p.1:=by unfold j7.O; exact rB (γ:=Nat×OV×OV) (b:=fun g=>g.1)
theorem j7.jf {l:List As} {p:OV} {m:j7} (j:Nat) (hj:l[j]? = some (j7.O p m)):∀ R w,St R l w→∃ g:Nat×OV×OV,p.1 = .pointer (some ⟨g.1,0,none⟩)∧St R ([aE g.1 177 [eq g.2.1.1,eq g.2.2.1],j8.O g.2.1 m.qt,jH.O g.2.2 m.pT]++l.eraseIdx j) w:=kj j hj
theorem j7.shut {l r:List As} {p:OV} {m:j7} (g:Nat×OV×OV) (hg:p.1 = .pointer (some ⟨g.1,0,none⟩)) (hp:l.Perm ([aE g.1 177 [eq g.2.1.1,eq g.2.2.1],j8.O g.2.1 m.qt,jH.O g.2.2 m.pT]++r)):∀ R w,St R l w→∃ _:Unit,True∧St R (j7.O p m::r) w:=jD _ _ g hg hp
def lz.O (p:OV) (m:lz):As:=yc (γ:=Nat) (fun g=>p.1 = .pointer (some ⟨g,0,none⟩)) (fun g=>[aE g 257 [eq (.int .i64 m.fn.fv),eq (.int .i64 m.eb)]])
theorem lz.nn {p:OV} {m:lz}:NN (lz.O p m) p.1:=by unfold lz.O; exact rB (γ:=Nat) (b:=fun g=>g)
theorem lz.jf {l:List As} {p:OV} {m:lz} (j:Nat) (hj:l[j]? = some (lz.O p m)):∀ R w,St R l w→∃ g:Nat,p.1 = .pointer (some ⟨g,0,none⟩)∧St R ([aE g 257 [eq (.int .i64 m.fn.fv),eq (.int .i64 m.eb)]]++l.eraseIdx j) w:=kj j hj
theorem lz.shut {l r:List As} {p:OV} {m:lz} (g:Nat) (hg:p.1 = .pointer (some ⟨g,0,none⟩)) (hp:l.Perm ([aE g 257 [eq (.int .i64 m.fn.fv),eq (.int .i64 m.eb)]]++r)):∀ R w,St R l w→∃ _:Unit,True∧St R (lz.O p m::r) w:=jD _ _ g hg hp
def cC.O (p:OV) (m:cC):As:=yc (γ:=Nat×OV×OV×OV) (fun g=>p.1 = .pointer (some ⟨g.1,0,none⟩)) (fun g=>[aE g.1 183 [eq g.2.1.1,eq g.2.2.1.1,eq g.2.2.2.1],lz.O g.2.1 m.iU,own aw g.2.2.1.1 m.eU,mp Value.string (fun x:Int=>eq (.int .i64 x)) g.2.2.2.1 m.ou])
theorem cC.nn {p:OV} {m:cC}:NN (cC.O p m) p.1:=by unfold cC.O; exact rB (γ:=Nat×OV×OV×OV) (b:=fun g=>g.1)
theorem cC.jf {l:List As} {p:OV} {m:cC} (j:Nat) (hj:l[j]? = some (cC.O p m)):∀ R w,St R l w→∃ g:Nat×OV×OV×OV,p.1 = .pointer (some ⟨g.1,0,none⟩)∧St R ([aE g.1 183 [eq g.2.1.1,eq g.2.2.1.1,eq g.2.2.2.1],lz.O g.2.1 m.iU,own aw g.2.2.1.1 m.eU,mp Value.string (fun x:Int=>eq (.int .i64 x)) g.2.2.2.1 m.ou]++l.eraseIdx j) w:=kj j hj
theorem cC.shut {l r:List As} {p:OV} {m:cC} (g:Nat×OV×OV×OV) (hg:p.1 = .pointer (some ⟨g.1,0,none⟩)) (hp:l.Perm ([aE g.1 183 [eq g.2.1.1,eq g.2.2.1.1,eq g.2.2.2.1],lz.O g.2.1 m.iU,own aw g.2.2.1.1 m.eU,mp Value.string (fun x:Int=>eq (.int .i64 x)) g.2.2.2.1 m.ou]++r)):∀ R w,St R l w→∃ _:Unit,True∧St R (cC.O p m::r) w:=jD _ _ g hg hp
def aX.O (p:OV) (m:aX):As:=yc (γ:=Nat) (fun g=>p.1 = .pointer (some ⟨g,0,none⟩)) (fun g=>[aE g 268 [eq (.string m.fe.bQ),eq (.string m.fe.ab),sl aw m.fe.ag,eq (.string m.fe.ae),eq (.string m.fe.aj),eq (.int .i64 m.fe.bO),eq (.int .i64 m.cI),eq (.bool m.kT)]])
theorem aX.nn {p:OV} {m:aX}:NN (aX.O p m) p.1:=by unfold aX.O; exact rB (γ:=Nat) (b:=fun g=>g)
theorem aX.jf {l:List As} {p:OV} {m:aX} (j:Nat) (hj:l[j]? = some (aX.O p m)):∀ R w,St R l w→∃ g:Nat,p.1 = .pointer (some ⟨g,0,none⟩)∧St R ([aE g 268 [eq (.string m.fe.bQ),eq (.string m.fe.ab),sl aw m.fe.ag,eq (.string m.fe.ae),eq (.string m.fe.aj),eq (.int .i64 m.fe.bO),eq (.int .i64 m.cI),eq (.bool m.kT)]]++l.eraseIdx j) w:=kj j hj
theorem aX.shut {l r:List As} {p:OV} {m:aX} (g:Nat) (hg:p.1 = .pointer (some ⟨g,0,none⟩)) (hp:l.Perm ([aE g 268 [eq (.string m.fe.bQ),eq (.string m.fe.ab),sl aw m.fe.ag,eq (.string m.fe.ae),eq (.string m.fe.aj),eq (.int .i64 m.fe.bO),eq (.int .i64 m.cI),eq (.bool m.kT)]]++r)):∀ R w,St R l w→∃ _:Unit,True∧St R (aX.O p m::r) w:=jD _ _ g hg hp
def bn.O (p:OV) (m:bn):As:=yc (γ:=Nat×OV) (fun g=>p.1 = .pointer (some ⟨g.1,0,none⟩)) (fun g=>[aE g.1 265 [eq (.string m.cM),eq g.2.1],kW Value.string aX.O g.2.1 m.ao])
theorem bn.nn {p:OV} {m:bn}:NN (bn.O p m) p.1:=by unfold bn.O; exact rB (γ:=Nat×OV) (b:=fun g=>g.1)
theorem bn.jf {l:List As} {p:OV} {m:bn} (j:Nat) (hj:l[j]? = some (bn.O p m)):∀ R w,St R l w→∃ g:Nat×OV,p.1 = .pointer (some ⟨g.1,0,none⟩)∧St R ([aE g.1 265 [eq (.string m.cM),eq g.2.1],kW Value.string aX.O g.2.1 m.ao]++l.eraseIdx j) w:=kj j hj
theorem bn.shut {l r:List As} {p:OV} {m:bn} (g:Nat×OV) (hg:p.1 = .pointer (some ⟨g.1,0,none⟩)) (hp:l.Perm ([aE g.1 265 [eq (.string m.cM),eq g.2.1],kW Value.string aX.O g.2.1 m.ao]++r)):∀ R w,St R l w→∃ _:Unit,True∧St R (bn.O p m::r) w:=jD _ _ g hg hp
def aN.O (p:OV) (m:aN):As:=yc (γ:=Nat×OV) (fun g=>p.1 = .pointer (some ⟨g.1,0,none⟩)) (fun g=>[aE g.1 186 [eq g.2.1],kW Value.string bn.O g.2.1 m.bx])
theorem aN.nn {p:OV} {m:aN}:NN (aN.O p m) p.1:=by unfold aN.O; exact rB (γ:=Nat×OV) (b:=fun g=>g.1)
theorem aN.jf {l:List As} {p:OV} {m:aN} (j:Nat) (hj:l[j]? = some (aN.O p m)):∀ R w,St R l w→∃ g:Nat×OV,p.1 = .pointer (some ⟨g.1,0,none⟩)∧St R ([aE g.1 186 [eq g.2.1],kW Value.string bn.O g.2.1 m.bx]++l.eraseIdx j) w:=kj j hj
theorem aN.shut {l r:List As} {p:OV} {m:aN} (g:Nat×OV) (hg:p.1 = .pointer (some ⟨g.1,0,none⟩)) (hp:l.Perm ([aE g.1 186 [eq g.2.1],kW Value.string bn.O g.2.1 m.bx]++r)):∀ R w,St R l w→∃ _:Unit,True∧St R (aN.O p m::r) w:=jD _ _ g hg hp
def aP.O (p:OV) (m:aP):As:=yc (γ:=Nat×OV×OV) (fun g=>p.1 = .pointer (some ⟨g.1,0,none⟩)) (fun g=>[aE g.1 261 [eq g.2.1.1,eq g.2.2.1],own dq.K g.2.1.1 m.fl,mp Value.string (fun x:Int=>eq (.int .i64 x)) g.2.2.1 m.iU])
theorem aP.nn {p:OV} {m:aP}:NN (aP.O p m) p.1:=by unfold aP.O; exact rB (γ:=Nat×OV×OV) (b:=fun g=>g.1)
theorem aP.jf {l:List As} {p:OV} {m:aP} (j:Nat) (hj:l[j]? = some (aP.O p m)):∀ R w,St R l w→∃ g:Nat×OV×OV,p.1 = .pointer (some ⟨g.1,0,none⟩)∧St R ([aE g.1 261 [eq g.2.1.1,eq g.2.2.1],own dq.K g.2.1.1 m.fl,mp Value.string (fun x:Int=>eq (.int .i64 x)) g.2.2.1 m.iU]++l.eraseIdx j) w:=kj j hj
theorem aP.shut {l r:List As} {p:OV} {m:aP} (g:Nat×OV×OV) (hg:p.1 = .pointer (some ⟨g.1,0,none⟩)) (hp:l.Perm ([aE g.1 261 [eq g.2.1.1,eq g.2.2.1],own dq.K g.2.1.1 m.fl,mp Value.string (fun x:Int=>eq (.int .i64 x)) g.2.2.1 m.iU]++r)):∀ R w,St R l w→∃ _:Unit,True∧St R (aP.O p m::r) w:=jD _ _ g hg hp
def bX.O (p:OV) (m:bX):As:=yc (γ:=Nat×OV×OV) (fun g=>p.1 = .pointer (some ⟨g.1,0,none⟩)) (fun g=>[aE g.1 190 [eq g.2.1.1,eq g.2.2.1],own ak.K g.2.1.1 m.fl,aP.O g.2.2 m.gU])
theorem bX.nn {p:OV} {m:bX}:NN (bX.O p m) p.1:=by unfold bX.O; exact rB (γ:=Nat×OV×OV) (b:=fun g=>g.1)
theorem bX.jf {l:List As} {p:OV} {m:bX} (j:Nat) (hj:l[j]? = some (bX.O p m)):∀ R w,St R l w→∃ g:Nat×OV×OV,p.1 = .pointer (some ⟨g.1,0,none⟩)∧St R ([aE g.1 190 [eq g.2.1.1,eq g.2.2.1],own ak.K g.2.1.1 m.fl,aP.O g.2.2 m.gU]++l.eraseIdx j) w:=kj j hj
theorem bX.shut {l r:List As} {p:OV} {m:bX} (g:Nat×OV×OV) (hg:p.1 = .pointer (some ⟨g.1,0,none⟩)) (hp:l.Perm ([aE g.1 190 [eq g.2.1.1,eq g.2.2.1],own ak.K g.2.1.1 m.fl,aP.O g.2.2 m.gU]++r)):∀ R w,St R l w→∃ _:Unit,True∧St R (bX.O p m::r) w:=jD _ _ g hg hp
def cD.O (p:OV) (m:cD):As:=yc (γ:=Nat×OV×OV) (fun g=>p.1 = .pointer (some ⟨g.1,0,none⟩)) (fun g=>[aE g.1 192 [eq g.2.1.1,eq g.2.2.1],own ak.K g.2.1.1 m.fl,aP.O g.2.2 m.fh])
theorem cD.nn {p:OV} {m:cD}:NN (cD.O p m) p.1:=by unfold cD.O; exact rB (γ:=Nat×OV×OV) (b:=fun g=>g.1)
theorem cD.jf {l:List As} {p:OV} {m:cD} (j:Nat) (hj:l[j]? = some (cD.O p m)):∀ R w,St R l w→∃ g:Nat×OV×OV,p.1 = .pointer (some ⟨g.1,0,none⟩)∧St R ([aE g.1 192 [eq g.2.1.1,eq g.2.2.1],own ak.K g.2.1.1 m.fl,aP.O g.2.2 m.fh]++l.eraseIdx j) w:=kj j hj
theorem cD.shut {l r:List As} {p:OV} {m:cD} (g:Nat×OV×OV) (hg:p.1 = .pointer (some ⟨g.1,0,none⟩)) (hp:l.Perm ([aE g.1 192 [eq g.2.1.1,eq g.2.2.1],own ak.K g.2.1.1 m.fl,aP.O g.2.2 m.fh]++r)):∀ R w,St R l w→∃ _:Unit,True∧St R (cD.O p m::r) w:=jD _ _ g hg hp
def jS (g:BA→Option Bool):List VP→VP→Prop:=fun vs ret=>∃ a0 r,g a0=some r∧vs=[eq (.string a0)]∧ret=eq (.bool r)
def kC (X:As) (g:BA→Option Bool):VP:=fnx prog X (jS g)
def qD (g:Int→Option Bool):List VP→VP→Prop:=fun vs ret=>∃ a0 r,g a0=some r∧vs=[eq (.int .u8 a0)]∧ret=eq (.bool r)
def gS (g:Int→Option Bool):VP:=HK prog (qD g)
def oq:Kd (Int→Option Bool):=⟨1,fun _=>none,fun g=>[gS g],fun _=>rfl,fun _ p h R v hv=>by simp at h; subst h; exact n9 R v hv⟩
def pS (g:Int→Int→Int→Option Bool):List VP→VP→Prop:=fun vs ret=>∃ a0 a1 a2 r,g a0 a1 a2=some r∧vs=[eq (.int .i64 a0),eq (.int .i64 a1),eq (.int .i64 a2)]∧ret=eq (.bool r)
def nb (g:Int→Int→Int→Option Bool):VP:=HK prog (pS g)
def mi (g:ak→Option Bool):List VP→VP→Prop:=fun vs ret=>∃ a0 r,g a0=some r∧vs=[agg (ak.enc a0)]∧ret=eq (.bool r)
def jT (g:ak→Option Bool):VP:=HK prog (mi g)
def iE:Kd (ak→Option Bool):=⟨1,fun _=>none,fun g=>[jT g],fun _=>rfl,fun _ p h R v hv=>by simp at h; subst h; exact n9 R v hv⟩
def oy (g:ak→ak→Option Int):List VP→VP→Prop:=fun vs ret=>∃ a0 a1 r,g a0 a1=some r∧vs=[agg (ak.enc a0),agg (ak.enc a1)]∧ret=eq (.int .i64 r)
def pz (g:ak→ak→Option Int):VP:=HK prog (oy g)
def pv (g:ak→BA→Option Int):List VP→VP→Prop:=fun vs ret=>∃ a0 a1 r,g a0 a1=some r∧vs=[agg (ak.enc a0),eq (.string a1)]∧ret=eq (.int .i64 r)
def pL (g:ak→BA→Option Int):VP:=HK prog (pv g)
def se.f (a0:Int):Option ((Option jH)×Int):=cond (decide (a0<1)) (some (none,1)) (cond (decide (1000<a0)) (some (none,1)) (some (some (⟨a0,([]:List ak),0⟩:jH),0)))
def n5.f:Option (j8):=some (⟨([]:List (bB×Pos))⟩:j8)
def oD.f (a0:Int):Option ((Option j7)×Int):=(se.f a0).bind fun t7=>cond (t7.2 != 0) (some (none,t7.2)) ((n5.f).bind fun t11=>an (t7.1.isSome=true) (some (some (⟨t11,t7.1.getD default⟩:j7),0)))
def oP.f (a0:Int) (a1:Int):Option ((Option lz)×Int):=cond (decide (a1<1)) (some (none,1)) (cond (decide (1099511627776<a1)) (some (none,1)) (cond (decide (a0<0)) (some (none,1)) (cond (decide (a1<a0)) (some (none,1)) (some (some (⟨(⟨a0⟩:Bx),a1⟩:lz),0)))))
def nC.f (a0:Int) (a1:Int):Option ((Option cC)×Int):=(oP.f a0 a1).bind fun t24=>cond (t24.2 != 0) (some (none,t24.2)) (an (t24.1.isSome=true) (some (some (⟨t24.1.getD default,([]:List BA),([]:List (BA×Int))⟩:cC),0)))
def rH.f:Option (aN):=some (⟨([]:List (BA×bn))⟩:aN)
def oB.f:Option (aP):=some (⟨([]:List dq),([]:List (BA×Int))⟩:aP)
def nT.f:Option (bX):=(oB.f).bind fun t35=>some (⟨([]:List ak),t35⟩:bX)
def lL.f:Option (cD):=(oB.f).bind fun t39=>some (⟨([]:List ak),t39⟩:cD)
def ui.f (a0:BA):Option (bn):=some (⟨a0,([]:List (BA×aX))⟩:bn)
def aO.f (a0:aN) (a1:BA):Option bn:=cond (mget a0.bx a1).isSome (some ((mget a0.bx a1).getD default)) (ui.f a1)
def slices_IndexFunc_string.l0 (k:Nat) (a0:List BA) (a1:BA→Option Bool):Nat→Int→Option ((Int×Bool) ⊕ (Int))
 | 0,_=>none
 | j52+1,x46=>cond (decide (x46<(a0.length:Int))) (an (iB x46 a0.length) ((a1 (aw.at a0 x46)).bind fun t49=>cond t49 (some (.inr x46)) (slices_IndexFunc_string.l0 k a0 a1 j52 (av (x46+1))))) (some (.inl (x46,decide (x46<(a0.length:Int)))))
def aY.l0 (k:Nat) (a0:List BA) (a1:(BA→Option Bool)):Nat→Int→Option ((Int×Bool) ⊕ (Int))
 | 0,_=>none
 | j61+1,x55=>cond (decide (x55<(a0.length:Int))) (an (iB x55 a0.length) ((a1 (aw.at a0 x55)).bind fun t58=>cond t58 (some (.inr x55)) (aY.l0 k a0 a1 j61 (av (x55+1))))) (some (.inl (x55,decide (x55<(a0.length:Int)))))
def aY.f (k:Nat) (a0:List BA) (a1:(BA→Option Bool)):Option (Int):=(aY.l0 k a0 a1 k 0).bind (fall fun p54=>some (-1))
def aA.l0 (k:Nat) (a0:List BA) (a1:(BA→Option Bool)):Nat→Int→Option ((Int×Bool) ⊕ (Int))
 | 0,_=>none
 | j71+1,x64=>cond (decide (x64<(a0.length:Int))) (an (iB x64 a0.length) ((a1 (a0.getD x64.toNat default)).bind fun t68=>cond t68 (some (.inr x64)) (aA.l0 k a0 a1 j71 (av (x64+1))))) (some (.inl (x64,decide (x64<(a0.length:Int)))))
def aA.f (k:Nat) (a0:List BA) (a1:(BA→Option Bool)):Option (Int):=(aA.l0 k a0 a1 k 0).bind (fall fun p63=>some (-1))
def b9.f (k:Nat) (a0:List BA) (a1:(BA→Option Bool)):Option (Bool):=(aY.f k a0 a1).bind fun t75=>some (decide (0≤t75))
def cN.f (k:Nat) (a0:List BA) (a1:(BA→Option Bool)):Option (Bool):=(aA.f k a0 a1).bind fun t77=>some (decide (0≤t77))
def fx.f (a0:BA) (a1:BA):Option (Bool):=cond (decide ((a1.size:Int)≤(a0.size:Int))) (an ((0:Int)≤(a1.size:Int)∧0≤(a1.size:Int).toNat∧(a1.size:Int).toNat≤a0.size) (some (decide ((a0.extract 0 ((a1.size:Int).toNat))=a1)))) (some false)
def fu.f (a0:BA) (a1:BA):Option (BA×Bool):=(fx.f a0 a1).bind fun t81=>cond (!t81) (some (a0,false)) (an ((0:Int)≤(a1.size:Int)∧(a1.size:Int).toNat≤a0.size∧a0.size≤a0.size) (some (a0.extract (a1.size:Int).toNat a0.size,true)))
def eC.f (a0:BA) (a1:BA):Option (BA×Bool):=(fu.f a0 a1).bind fun t85=>some (t85.1,t85.2)
def iS.f (a0:Int):Option (Bool):=cond (decide (97≤a0)) (cond (decide (a0≤122)) (some true) (cond (decide (48≤a0)) (some (decide (a0≤57))) (some false))) (cond (decide (48≤a0)) (some (decide (a0≤57))) (some false))
def dp.f (a0:BA) (a1:Int):Option (Int):=some (l7 a0 a1)
def iN.f (a0:BA) (a1:Int):Option (Int):=(dp.f a0 a1).bind fun t91=>some t91
def ee.f (a0:Int) (c0:BA):Option (Bool):=(iS.f a0).bind fun t93=>cond t93 (some true) ((iN.f c0 a0).bind fun t96=>some (decide (0≤t96)))
def jO.f (a0:BA):Option ((Int→Option Bool)):=some (fun a0_=>ee.f a0_ a0)
def eh.l0 (k:Nat) (a0:BA) (a1:Int) (t99:(Int→Option Bool)) (ta:(Int→Option Bool)) (tc:(Int→Option Bool)):Nat→Int→Option ((Int×Bool) ⊕ (Bool))
 | 0,_=>none
 | ja+1,xc=>cond (decide (xc<(a0.size:Int))) (an (iB xc a0.size) (((oq.at ([t99,ta,tc]:List (Int→Option Bool)) a1) (bt a0 xc)).bind fun te=>cond (!te) (some (.inr false)) (eh.l0 k a0 a1 t99 ta tc ja (av (xc+1))))) (some (.inl (xc,decide (xc<(a0.size:Int)))))
def eh.f (k:Nat) (a0:BA) (a1:Int):Option (Bool):=(jO.f (⟨#[46,45,95]⟩:BA)).bind fun t99=>(jO.f (⟨#[46,45]⟩:BA)).bind fun ta=>(jO.f (⟨#[45,95,65,66,67,68,69,70,71,72,73,74,75,76,77,78,79,80,81,82,83,84,85,86,87,88,89,90]⟩:BA)).bind fun tc=>an ((0:Int)≤a1∧a1<(3:Int)) ((eh.l0 k a0 a1 t99 ta tc k 0).bind (fall fun pa=>cond (!decide (a0=eE)) (some (decide ((a0.size:Int)≤16))) (some false)))
def eH.f (a0:BA) (a1:BA):Option (Int):=cond ((a1.size:Int)==0) (some 0) (cond (decide (a1=a0)) (some 0) (cond ((a1.size:Int)==1) (an (iB 0 a1.size) ((dp.f a0 (bt a1 0)).bind fun ta=>some ta)) (cond (decide ((a0.size:Int)≤(a1.size:Int))) (some (-1)) (none))))
def jY.f (a0:BA) (a1:BA):Option (BA×BA×Bool):=(eH.f a0 a1).bind fun ta=>cond (decide (0≤ta)) (an ((0:Int)≤ta∧0≤ta.toNat∧ta.toNat≤a0.size) (an ((0:Int)≤(av (ta+(a1.size:Int)))∧(av (ta+(a1.size:Int))).toNat≤a0.size∧a0.size≤a0.size) (some (a0.extract 0 ta.toNat,a0.extract (av (ta+(a1.size:Int))).toNat a0.size,true)))) (some (a0,eE,false))
def kJ.f (a0:BA) (a1:BA):Option (BA×BA×Bool):=(jY.f a0 a1).bind fun ta=>some (ta.1,ta.2.1,ta.2.2)
def lC.f (k:Nat) (a0:BA):Option (Bool):=(eh.f k a0 1).bind fun ta=>cond ta (an (iB 0 a0.size) ((iS.f (bt a0 0)).bind fun tc=>cond tc (an (iB (av ((a0.size:Int)-1)) a0.size) ((iS.f (bt a0 (av ((a0.size:Int)-1)))).bind fun te=>some te)) (some false))) (some false)
def kD.f (k:Nat) (a0:BA) (a1:BA):Option (BA×BA×Bool):=(eC.f a0 a1).bind fun ta=>(kJ.f ta.1 (⟨#[58]⟩:BA)).bind fun tc=>cond ta.2 (cond tc.2.2 ((eh.f k tc.1 0).bind fun te=>cond te ((lC.f k tc.2.1).bind fun tg=>some (tc.1,tc.2.1,tg)) (some (tc.1,tc.2.1,false))) (some (tc.1,tc.2.1,false))) (some (tc.1,tc.2.1,false))
def mu.f (k:Nat) (a0:BA):Option (Bool):=(kD.f k a0 (⟨#[64]⟩:BA)).bind fun ta=>some ta.2.2
def eA.f (k:Nat) (a0:BA):Option (Bool):=(eC.f a0 (⟨#[36]⟩:BA)).bind fun ta=>cond ta.2 ((eh.f k ta.1 2).bind fun tc=>some tc) (some false)
def kN.f (k:Nat) (a0:BA):Option (Bool):=(kD.f k a0 (⟨#[33]⟩:BA)).bind fun ta=>some ta.2.2
def dH.l0 (k:Nat) (a0:Event):Nat→Int→Option (Bool×Int×Bool)
 | 0,_=>none
 | ja+1,xc=>cond (decide (xc<(a0.ag.length:Int))) (an (iB xc a0.ag.length) ((eA.f k (aw.at a0.ag xc)).bind fun ta=>cond (!ta) (some (false,xc,decide (xc<(a0.ag.length:Int)))) (cond (decide ((aw.at a0.ag xc)=a0.bQ)) (some (false,xc,decide (xc<(a0.ag.length:Int)))) (cond (decide (0<xc)) (an (iB (av (xc-1)) a0.ag.length) (cond (!dK (aw.at a0.ag (av (xc-1))) (aw.at a0.ag xc)) (some (false,xc,decide (xc<(a0.ag.length:Int)))) (dH.l0 k a0 ja (av (xc+1))))) (dH.l0 k a0 ja (av (xc+1))))))) (some (true,xc,decide (xc<(a0.ag.length:Int))))
def dH.l1 (k:Nat) (a0:Event):Nat→Int→Option (Bool×Int×Bool)
 | 0,_=>none
 | ja+1,xc=>cond (decide (xc<(a0.ag.length:Int))) (an (iB xc a0.ag.length) ((eA.f k (aw.at a0.ag xc)).bind fun ta=>cond (!ta) (some (false,xc,decide (xc<(a0.ag.length:Int)))) (cond (decide ((aw.at a0.ag xc)=a0.bQ)) (some (false,xc,decide (xc<(a0.ag.length:Int)))) (cond (decide (0<xc)) (an (iB (av (xc-1)) a0.ag.length) (cond (!dK (aw.at a0.ag (av (xc-1))) (aw.at a0.ag xc)) (some (false,xc,decide (xc<(a0.ag.length:Int)))) (dH.l1 k a0 ja (av (xc+1))))) (dH.l1 k a0 ja (av (xc+1))))))) (some (true,xc,decide (xc<(a0.ag.length:Int))))
def dH.f (k:Nat) (a0:Event):Option (Bool):=(eA.f k a0.bQ).bind fun ta=>cond (!ta) (some false) ((kN.f k a0.ab).bind fun tc=>cond (!tc) (some false) ((mu.f k a0.aj).bind fun te=>cond (!te) (some false) (cond (decide (4<(a0.ag.length:Int))) (some false) (cond (decide (a0.bO<0)) (some false) (cond (decide (2<a0.bO)) (some false) (cond (!decide (a0.ae=eE)) ((eA.f k a0.ae).bind fun tg=>cond (!tg) (some false) (cond (decide (a0.ae=a0.bQ)) (some false) (cond (a0.bO != 0) (some false) ((dH.l0 k a0 k 0).bind fun pa=>some pa.1)))) ((dH.l1 k a0 k 0).bind fun pc=>some pc.1)))))))
def eG.f (a0:bn) (a1:BA):Option (Bool):=some (!(mget a0.ao a1).isNone)
def eV.f (a0:BA) (c0:bn):Option (Bool):=(eG.f c0 a0).bind fun ta=>some (!ta)
def dP.f (xs:List BA):Option (List BA):=an (cB xs.length 16) (some xs)
def iG.f (a0:Event):Option (Event):=(dP.f a0.ag).bind fun ta=>some (⟨a0.bQ,a0.ab,ta,a0.ae,a0.aj,a0.bO⟩:Event)
def dag_Dag_Add.l0 (k:Nat) (a1:Event):Nat→Int→Int→bn→Option (Int×Bool×Int×bn)
 | 0,_,_,_=>none
 | ja+1,xc,xd,xe=>cond (decide (xc<(a1.ag.length:Int))) (an (iB xc a1.ag.length) (an ((mget xe.ao (aw.at a1.ag xc)).isSome=true) (dag_Dag_Add.l0 k a1 ja (av (xc+1)) (max xd (av ((((mget xe.ao (aw.at a1.ag xc)).getD default).cI)+1))) (⟨xe.cM,mput xe.ao (aw.at a1.ag xc) (⟨((mget xe.ao (aw.at a1.ag xc)).getD default).fe,((mget xe.ao (aw.at a1.ag xc)).getD default).cI,true⟩:aX)⟩:bn)))) (some (xc,decide (xc<(a1.ag.length:Int)),xd,xe))
def dag_Dag_Add.f (k:Nat) (a0:bn) (a1:Event):Option (Int×bn):=(dH.f k a1).bind fun ta=>cond (!ta) (some (1,a0)) (cond (!decide (a1.ab=a0.cM)) (some (1,a0)) ((eG.f a0 a1.bQ).bind fun tc=>cond tc (some (9,a0)) ((b9.f k a1.ag (fun a0_=>eV.f a0_ a0)).bind fun te=>cond te (some (4,a0)) ((cond (!decide (a1.ae=eE)) (cond ((mget a0.ao a1.ae).isNone) (some (.inr (4,a0))) (an ((mget a0.ao a1.ae).isSome=true) (cond (!decide (((((mget a0.ao a1.ae).getD default).fe).ae)=eE)) (some (.inr (7,a0))) (cond (((((mget a0.ao a1.ae).getD default).fe).bO) != 0) (some (.inr (7,a0))) (some (.inl ())))))) (some (.inl ()))).bind (fall fun pa=>(iG.f a1).bind fun tg=>(dag_Dag_Add.l0 k a1 k 0 0 a0).bind fun pc=>some (0,(⟨pc.2.2.2.cM,mput pc.2.2.2.ao a1.bQ (⟨tg,pc.2.2.1,false⟩:aX)⟩:bn)))))))
def iW.f (k:Nat) (a0:aN) (a1:Event):Option (Int×aN):=(aO.f a0 a1.ab).bind fun ta=>(dag_Dag_Add.f k ta a1).bind fun tc=>cond (tc.1 != 0) (some (tc.1,(⟨xo a0.bx a1.ab tc.2⟩:aN))) (some (0,(⟨mput a0.bx a1.ab tc.2⟩:aN)))
def iz.l0 (k:Nat) (a0:bA) (a1:BA):Nat→Int→Option ((Int×Bool) ⊕ (aM))
 | 0,_=>none
 | ja+1,xc=>cond (decide (xc<(a0.fD.length:Int))) (an (iB xc a0.fD.length) (cond (decide (((aM.K.at a0.fD xc).ab)=a1)) (an (iB xc a0.fD.length) (some (.inr (aM.K.at a0.fD xc)))) (iz.l0 k a0 a1 ja (av (xc+1))))) (some (.inl (xc,decide (xc<(a0.fD.length:Int)))))
def iz.f (k:Nat) (a0:bA) (a1:BA):Option (aM):=(iz.l0 k a0 a1 k 0).bind (fall fun pa=>some (⟨a1,([]:List Event)⟩:aM))
def eO.l0 (k:Nat) (a0:BA):Nat→Int→Option ((Int×Bool) ⊕ (Int))
 | 0,_=>none
 | ja+1,xc=>cond (decide (xc<(a0.size:Int))) (an (iB xc a0.size) (cond ((bt a0 xc)==58) (some (.inr xc)) (eO.l0 k a0 ja (av (xc+1))))) (some (.inl (xc,decide (xc<(a0.size:Int)))))
def eO.f (k:Nat) (a0:BA):Option (Int):=(eO.l0 k a0 k 0).bind (fall fun pa=>some (-1))
def mD.f (a0:Int):Option (Bool):=cond (decide (97≤a0)) (cond (decide (a0≤122)) (some true) (cond (decide (48≤a0)) (some (decide (a0≤57))) (some false))) (cond (decide (48≤a0)) (some (decide (a0≤57))) (some false))
def eZ.l0 (k:Nat) (a0:BA):Nat→Int→Option ((Int×Bool) ⊕ (Bool))
 | 0,_=>none
 | ja+1,xc=>cond (decide (xc<(a0.size:Int))) (an (iB xc a0.size) ((mD.f (bt a0 xc)).bind fun ta=>cond (!ta) (an (iB xc a0.size) (cond ((bt a0 xc) != 46) (an (iB xc a0.size) (cond ((bt a0 xc) != 45) (an (iB xc a0.size) (cond ((bt a0 xc) != 95) (some (.inr false)) (eZ.l0 k a0 ja (av (xc+1))))) (eZ.l0 k a0 ja (av (xc+1))))) (eZ.l0 k a0 ja (av (xc+1))))) (eZ.l0 k a0 ja (av (xc+1))))) (some (.inl (xc,decide (xc<(a0.size:Int)))))
def eZ.f (k:Nat) (a0:BA):Option (Bool):=(eZ.l0 k a0 k 0).bind (fall fun pa=>cond (decide (0<(a0.size:Int))) (some (decide ((a0.size:Int)<17))) (some false))
def dh.l0 (k:Nat) (a0:BA):Nat→Int→Option ((Int×Bool) ⊕ (Bool))
 | 0,_=>none
 | ja+1,xc=>cond (decide (xc<(a0.size:Int))) (an (iB xc a0.size) ((mD.f (bt a0 xc)).bind fun ta=>cond (decide (0<xc)) (cond (decide (xc<(av ((a0.size:Int)-1)))) (an (iB xc a0.size) (cond ((bt a0 xc)==46) (cond (!ta) (dh.l0 k a0 ja (av (xc+1))) (dh.l0 k a0 ja (av (xc+1)))) (an (iB xc a0.size) (cond (!ta) (cond (!((bt a0 xc)==45)) (some (.inr false)) (dh.l0 k a0 ja (av (xc+1)))) (dh.l0 k a0 ja (av (xc+1))))))) (cond (!ta) (some (.inr false)) (dh.l0 k a0 ja (av (xc+1))))) (cond (!ta) (some (.inr false)) (dh.l0 k a0 ja (av (xc+1)))))) (some (.inl (xc,decide (xc<(a0.size:Int)))))
def dh.f (k:Nat) (a0:BA):Option (Bool):=(dh.l0 k a0 k 0).bind (fall fun pa=>cond (decide (0<(a0.size:Int))) (some (decide ((a0.size:Int)<17))) (some false))
def iD.f (k:Nat) (a0:BA) (a1:Int):Option (Bool):=(eO.f k a0).bind fun ta=>cond (decide (ta<1)) (some false) (an (iB 0 a0.size) (cond ((bt a0 0) != a1) (some false) (an ((0:Int)≤1∧(0:Int)≤ta∧(1:Int).toNat≤ta.toNat∧ta.toNat≤a0.size) ((eZ.f k (a0.extract (1:Int).toNat ta.toNat)).bind fun tc=>an ((0:Int)≤(av (ta+1))∧(av (ta+1)).toNat≤a0.size∧a0.size≤a0.size) ((dh.f k (a0.extract (av (ta+1)).toNat a0.size)).bind fun te=>cond tc (some te) (some false))))))
def bR.l0 (k:Nat) (a0:BA):Nat→Int→Option ((Int×Bool) ⊕ (Bool))
 | 0,_=>none
 | ja+1,xc=>cond (decide (xc<(a0.size:Int))) (an (iB xc a0.size) ((mD.f (bt a0 xc)).bind fun ta=>an (iB xc a0.size) (cond (decide (65≤(bt a0 xc))) (an (iB xc a0.size) (cond (!ta) (cond (!(decide ((bt a0 xc)≤90))) (an (iB xc a0.size) (cond ((bt a0 xc) != 45) (an (iB xc a0.size) (cond ((bt a0 xc) != 95) (some (.inr false)) (bR.l0 k a0 ja (av (xc+1))))) (bR.l0 k a0 ja (av (xc+1))))) (bR.l0 k a0 ja (av (xc+1)))) (bR.l0 k a0 ja (av (xc+1))))) (cond (!ta) (an (iB xc a0.size) (cond ((bt a0 xc) != 45) (an (iB xc a0.size) (cond ((bt a0 xc) != 95) (some (.inr false)) (bR.l0 k a0 ja (av (xc+1))))) (bR.l0 k a0 ja (av (xc+1))))) (bR.l0 k a0 ja (av (xc+1))))))) (some (.inl (xc,decide (xc<(a0.size:Int)))))
def bR.f (k:Nat) (a0:BA):Option (Bool):=cond (decide ((a0.size:Int)<2)) (some false) (cond (decide (17<(a0.size:Int))) (some false) (an (iB 0 a0.size) (cond ((bt a0 0) != 36) (some false) ((bR.l0 k a0 k 1).bind (fall fun pa=>some true)))))
def gP.l0 (k:Nat) (a0:Event):Nat→Int→Option ((Int×Bool) ⊕ (Bool))
 | 0,_=>none
 | ja+1,xc=>cond (decide (xc<(a0.ag.length:Int))) (an (iB xc a0.ag.length) ((bR.f k (aw.at a0.ag xc)).bind fun ta=>cond (!ta) (some (.inr false)) (an (iB xc a0.ag.length) (cond (decide ((aw.at a0.ag xc)=a0.bQ)) (some (.inr false)) (cond (decide (0<xc)) (an (iB (max (av (xc-1)) 0) a0.ag.length) (an (iB xc a0.ag.length) (cond (!dK (aw.at a0.ag (max (av (xc-1)) 0)) (aw.at a0.ag xc)) (some (.inr false)) (gP.l0 k a0 ja (av (xc+1)))))) (gP.l0 k a0 ja (av (xc+1)))))))) (some (.inl (xc,decide (xc<(a0.ag.length:Int)))))
def gP.f (k:Nat) (a0:Event):Option (Bool):=(bR.f k a0.bQ).bind fun ta=>(iD.f k a0.ab 33).bind fun tc=>(iD.f k a0.aj 64).bind fun te=>cond (!ta) (some false) (cond (!tc) (some false) (cond (!te) (some false) (cond (decide (4<(a0.ag.length:Int))) (some false) (cond (decide (a0.bO<0)) (some false) (cond (decide (2<a0.bO)) (some false) ((cond (!decide (a0.ae=eE)) ((bR.f k a0.ae).bind fun tg=>cond (!tg) (some (.inr false)) (cond (decide (a0.ae=a0.bQ)) (some (.inr false)) (cond (a0.bO != 0) (some (.inr false)) (some (.inl ()))))) (some (.inl ()))).bind (fall fun pa=>(gP.l0 k a0 k 0).bind (fall fun pc=>some true))))))))
def eK.l0 (k:Nat) (a0:aM) (a1:BA):Nat→Int→Option ((Int×Bool) ⊕ (Int))
 | 0,_=>none
 | ja+1,xc=>cond (decide (xc<(a0.fL.length:Int))) (an (iB xc a0.fL.length) (cond (decide (((Event.K.at a0.fL xc).bQ)=a1)) (some (.inr xc)) (eK.l0 k a0 a1 ja (av (xc+1))))) (some (.inl (xc,decide (xc<(a0.fL.length:Int)))))
def eK.f (k:Nat) (a0:aM) (a1:BA):Option (Int):=(eK.l0 k a0 a1 k 0).bind (fall fun pa=>some (-1))
def dS.l0 (k:Nat) (a0:aM) (a1:Event):Nat→Int→Option ((Int×Bool) ⊕ (aM×Int))
 | 0,_=>none
 | ja+1,xc=>cond (decide (xc<(a1.ag.length:Int))) (an (iB xc a1.ag.length) ((eK.f k a0 (aw.at a1.ag xc)).bind fun ta=>cond (decide (ta<0)) (some (.inr (a0,4))) (dS.l0 k a0 a1 ja (av (xc+1))))) (some (.inl (xc,decide (xc<(a1.ag.length:Int)))))
def dS.f (k:Nat) (a0:aM) (a1:Event):Option (aM×Int):=(gP.f k a1).bind fun ta=>cond (!ta) (some (a0,1)) (cond (!decide (a1.ab=a0.ab)) (some (a0,1)) ((eK.f k a0 a1.bQ).bind fun tc=>cond (decide (0≤tc)) (some (a0,9)) ((dS.l0 k a0 a1 k 0).bind (fall fun pa=>(cond (!decide (a1.ae=eE)) ((eK.f k a0 a1.ae).bind fun te=>cond (decide (te<0)) (some (.inr (a0,4))) (an (iB te a0.fL.length) (cond (!decide (((Event.K.at a0.fL te).ae)=eE)) (some (.inr (a0,7))) (an (iB te a0.fL.length) (cond (((Event.K.at a0.fL te).bO) != 0) (some (.inr (a0,7))) (some (.inl ()))))))) (some (.inl ()))).bind (fall fun pc=>an (cB (([]:List Event).length+a0.fL.length) 96) (an (cB ((([]:List Event)++a0.fL).length+([a1]:List Event).length) 96) (some ((⟨a0.ab,(([]:List Event)++a0.fL)++([a1]:List Event)⟩:aM),0))))))))
def eD.l0 (k:Nat) (a0:bA) (a1:Event) (ta:aM×Int):Nat→Bool→Int→List aM→Option (Bool×Int×Bool×(List aM))
 | 0,_,_,_=>none
 | ja+1,xc,xd,xe=>cond (decide (xd<(a0.fD.length:Int))) ((cond (!xc) (an (iB xd a0.fD.length) (cond (!dK ((aM.K.at a0.fD xd).ab) a1.ab) (an (cB (xe.length+([ta.1]:List aM).length) 40) (some (true,!dK ((aM.K.at a0.fD xd).ab) a1.ab,xe++([ta.1]:List aM)))) (some (xc,!dK ((aM.K.at a0.fD xd).ab) a1.ab,xe)))) (some (xc,false,xe))).bind fun pa=>an (iB xd a0.fD.length) (cond (!decide (((aM.K.at a0.fD xd).ab)=a1.ab)) (an (iB xd a0.fD.length) (an (cB (pa.2.2.length+([aM.K.at a0.fD xd]:List aM).length) 40) (eD.l0 k a0 a1 ta ja pa.1 (av (xd+1)) (pa.2.2++([aM.K.at a0.fD xd]:List aM))))) (eD.l0 k a0 a1 ta ja pa.1 (av (xd+1)) pa.2.2))) (some (xc,xd,decide (xd<(a0.fD.length:Int)),xe))
def eD.f (k:Nat) (a0:bA) (a1:Event):Option (bA×Int):=(iz.f k a0 a1.ab).bind fun ta=>(dS.f k ta a1).bind fun tc=>cond (tc.2 != 0) (some (a0,tc.2)) ((eD.l0 k a0 a1 tc k false 0 ([]:List aM)).bind fun pa=>cond (!pa.1) (an (cB (pa.2.2.2.length+([tc.1]:List aM).length) 40) (some ((⟨pa.2.2.2++([tc.1]:List aM)⟩:bA),0))) (some ((⟨pa.2.2.2⟩:bA),0)))
def gX.l0 (k:Nat) (a0:List Event):Nat→Int→List aM→Option (Int×Bool×(List aM))
 | 0,_,_=>none
 | ja+1,xc,xd=>cond (decide (xc<(a0.length:Int))) (an (iB xc a0.length) ((eD.f k (⟨xd⟩:bA) (Event.K.at a0 xc)).bind fun ta=>gX.l0 k a0 ja (av (xc+1)) ta.1.fD)) (some (xc,decide (xc<(a0.length:Int)),xd))
def gX.f (k:Nat) (a0:List Event):Option (bA):=(gX.l0 k a0 k 0 ([]:List aM)).bind fun pa=>some (⟨pa.2.2⟩:bA)
def gF.l0 (k:Nat) (a0:List Event) (ta:(Option j7)×Int) (tc:(Option cC)×Int) (te:bX) (tg:cD):Nat→Int→aN→Option ((Int×Bool×aN) ⊕ (Src×dU×Bool))
 | 0,_,_=>none
 | ja+1,xc,xd=>cond (decide (xc<(a0.length:Int))) (an (iB xc a0.length) ((iW.f k xd (Event.K.at a0 xc)).bind fun tj=>cond (tj.1 != 0) (some (.inr ((⟨tj.2,ta.1.getD default,te,tg,tc.1.getD default⟩:Src),(⟨(⟨([]:List aM)⟩:bA),([]:List MK),(⟨([]:List ak),([]:List Bool)⟩:kH),(⟨([]:List ak),([]:List Int)⟩:lH),([]:List kb),0⟩:dU),false))) (gF.l0 k a0 ta tc te tg ja (av (xc+1)) tj.2))) (some (.inl (xc,decide (xc<(a0.length:Int)),xd)))
def gF.f (k:Nat) (a0:List Event) (a1:Int):Option (Src×dU×Bool):=(oD.f 8).bind fun ta=>(nC.f a1 (av (a1+1000))).bind fun tc=>(rH.f).bind fun te=>(nT.f).bind fun tg=>(lL.f).bind fun tj=>an (ta.1.isSome=true) (an (tc.1.isSome=true) (cond (ta.2 != 0) (some ((⟨te,ta.1.getD default,tg,tj,tc.1.getD default⟩:Src),(⟨(⟨([]:List aM)⟩:bA),([]:List MK),(⟨([]:List ak),([]:List Bool)⟩:kH),(⟨([]:List ak),([]:List Int)⟩:lH),([]:List kb),0⟩:dU),false)) (cond (tc.2 != 0) (some ((⟨te,ta.1.getD default,tg,tj,tc.1.getD default⟩:Src),(⟨(⟨([]:List aM)⟩:bA),([]:List MK),(⟨([]:List ak),([]:List Bool)⟩:kH),(⟨([]:List ak),([]:List Int)⟩:lH),([]:List kb),0⟩:dU),false)) ((gF.l0 k a0 ta tc tg tj k 0 te).bind (fall fun pa=>(gX.f k a0).bind fun tm=>some ((⟨pa.2.2,ta.1.getD default,tg,tj,tc.1.getD default⟩:Src),(⟨tm,([]:List MK),(⟨([]:List ak),([]:List Bool)⟩:kH),(⟨([]:List ak),([]:List Int)⟩:lH),([]:List kb),a1⟩:dU),true))))))
def aW.f (a0:Int) (a1:Int):Option (Int):=cond (decide (a0<0)) (an (a1≠0) (some ((av (0-(av (a0+1)))).tmod a1))) (an (a1≠0) (some (a0.tmod a1)))
def en.f (a0:Int):Option (BA):=(aW.f a0 2).bind fun ta=>an (iB ta (([(⟨#[33,114,58,115,49]⟩:BA),(⟨#[33,113,58,115,50]⟩:BA)]:List BA).length)) (some (aw.at ([(⟨#[33,114,58,115,49]⟩:BA),(⟨#[33,113,58,115,50]⟩:BA)]:List BA) ta))
def nk.f (a0:Int):Option (BA):=(aW.f a0 3).bind fun ta=>an (iB ta (([(⟨#[115,49]⟩:BA),(⟨#[115,50]⟩:BA),(⟨#[115,51]⟩:BA)]:List BA).length)) (some (aw.at ([(⟨#[115,49]⟩:BA),(⟨#[115,50]⟩:BA),(⟨#[115,51]⟩:BA)]:List BA) ta))
def im.f (a0:Int):Option (BA):=(aW.f a0 9).bind fun ta=>an (iB (av (ta.tdiv 3)) (([(⟨#[64,97,58]⟩:BA),(⟨#[64,98,58]⟩:BA),(⟨#[64,99,58]⟩:BA)]:List BA).length)) ((nk.f (ta.tmod 3)).bind fun tc=>an ((aw.at ([(⟨#[64,97,58]⟩:BA),(⟨#[64,98,58]⟩:BA),(⟨#[64,99,58]⟩:BA)]:List BA) (av (ta.tdiv 3))).size+tc.size≤9223372036854775807) (some ((aw.at ([(⟨#[64,97,58]⟩:BA),(⟨#[64,98,58]⟩:BA),(⟨#[64,99,58]⟩:BA)]:List BA) (av (ta.tdiv 3)))++tc)))
def iQ.f:Nat→Int→Option (BA)
 | 0,_=>none
 | k+1,a0=>(cond (decide ((a0.tmod 10)<0)) (some (av (0-(a0.tmod 10)))) (some (a0.tmod 10))).bind fun pa=>cond (decide ((-10)<a0)) (cond (decide (a0<10)) (cond (decide (a0<0)) (an ((⟨#[45]⟩:BA).size+(gG ([IntKind.u8.wrap (av (48+pa))]:List Int)).size≤9223372036854775807) (some ((⟨#[45]⟩:BA)++(gG ([IntKind.u8.wrap (av (48+pa))]:List Int))))) (some (gG ([IntKind.u8.wrap (av (48+pa))]:List Int)))) ((iQ.f k (av (a0.tdiv 10))).bind fun ta=>an (ta.size+(gG ([IntKind.u8.wrap (av (48+pa))]:List Int)).size≤9223372036854775807) (some (ta++(gG ([IntKind.u8.wrap (av (48+pa))]:List Int)))))) ((iQ.f k (av (a0.tdiv 10))).bind fun tc=>an (tc.size+(gG ([IntKind.u8.wrap (av (48+pa))]:List Int)).size≤9223372036854775807) (some (tc++(gG ([IntKind.u8.wrap (av (48+pa))]:List Int)))))
def dm.f (k:Nat) (a0:Int):Option (BA):=(aW.f a0 9).bind fun ta=>(iQ.f k ta).bind fun tc=>an ((⟨#[36,101]⟩:BA).size+tc.size≤9223372036854775807) (some ((⟨#[36,101]⟩:BA)++tc))
def bK.l1 (k:Nat) (xc:Int) (pa:Int×Bool×(List Bool)):Nat→Int→List BA→Option (Int×Bool×(List BA))
 | 0,_,_=>none
 | ja+1,xd,xe=>cond (decide (xd<xc)) (an (iB xd pa.2.2.length) (cond (pa.2.2.getD xd.toNat default) ((dm.f k xd).bind fun ta=>an (cB (xe.length+([ta]:List BA).length) 16) (bK.l1 k xc pa ja (av (xd+1)) (xe++([ta]:List BA)))) (bK.l1 k xc pa ja (av (xd+1)) xe))) (some (xd,decide (xd<xc),xe))
def bK.l2 (k:Nat) (a1:List dz) (xc:Int):Nat→Int→List Bool→Option (Int×Bool×(List Bool))
 | 0,_,_=>none
 | ja+1,xd,xe=>an (iB xc a1.length) (cond (decide (xd<(((dz.K.at a1 xc).ag).length:Int))) (cond (decide (xd<3)) (cond (decide (0<xc)) (an (iB xc a1.length) (an (iB xd (((dz.K.at a1 xc).ag).length)) ((aW.f ((bq .i64).at ((dz.K.at a1 xc).ag) xd) xc).bind fun ta=>an (iB ta xe.length) (bK.l2 k a1 xc ja (av (xd+1)) (xe.set ta.toNat true))))) (some (xd,decide (0<xc),xe))) (some (xd,false,xe))) (some (xd,false,xe)))
def bK.l0 (k:Nat) (a0:BA) (a1:List dz):Nat→Int→BA→List Event→Option (Int×Bool×BA×(List Event))
 | 0,_,_,_=>none
 | ja+1,xc,xd,xe=>cond (decide (xc<(a1.length:Int))) (cond (decide (xc<9)) (((dm.f k xc).bind fun ta=>an (iB xc a1.length) ((im.f ((dz.K.at a1 xc).aj)).bind fun tc=>an (iB xc a1.length) ((aW.f ((dz.K.at a1 xc).bO) 3).bind fun te=>an ((0:Int)≤9∧9≤(9223372036854775807:Int)∧(9:Int).toNat*1≤140737488355328) ((bK.l2 k a1 xc k 0 (List.replicate (9:Int).toNat (false:Bool))).bind fun pa=>(bK.l1 k xc pa k 0 ([]:List BA)).bind fun pc=>cond (te==0) (cond (decide (0<xc)) (an (iB xc a1.length) ((aW.f ((dz.K.at a1 xc).ae) (av (2*xc))).bind fun tg=>cond (decide (tg<xc)) (an (iB tg xe.length) (cond (((Event.K.at xe tg).bO)==0) (an (iB tg xe.length) (cond (decide (((Event.K.at xe tg).ae)=eE)) ((dm.f k tg).bind fun tj=>(dS.f k (⟨xd,xe⟩:aM) (⟨ta,a0,pc.2.2,tj,tc,te⟩:Event)).bind fun tm=>some (pa.1,pc.1,pa.2.1,pc.2.1,decide (0<xc),tm.1.ab,tm.1.fL,pa.2.2)) ((dS.f k (⟨xd,xe⟩:aM) (⟨ta,a0,pc.2.2,eE,tc,te⟩:Event)).bind fun tn=>some (pa.1,pc.1,pa.2.1,pc.2.1,decide (0<xc),tn.1.ab,tn.1.fL,pa.2.2)))) ((dS.f k (⟨xd,xe⟩:aM) (⟨ta,a0,pc.2.2,eE,tc,te⟩:Event)).bind fun tp=>some (pa.1,pc.1,pa.2.1,pc.2.1,decide (0<xc),tp.1.ab,tp.1.fL,pa.2.2)))) ((dS.f k (⟨xd,xe⟩:aM) (⟨ta,a0,pc.2.2,eE,tc,te⟩:Event)).bind fun tq=>some (pa.1,pc.1,pa.2.1,pc.2.1,decide (0<xc),tq.1.ab,tq.1.fL,pa.2.2)))) ((dS.f k (⟨xd,xe⟩:aM) (⟨ta,a0,pc.2.2,eE,tc,te⟩:Event)).bind fun tu=>some (pa.1,pc.1,pa.2.1,pc.2.1,decide (0<xc),tu.1.ab,tu.1.fL,pa.2.2))) ((dS.f k (⟨xd,xe⟩:aM) (⟨ta,a0,pc.2.2,eE,tc,te⟩:Event)).bind fun tw=>some (pa.1,pc.1,pa.2.1,pc.2.1,false,tw.1.ab,tw.1.fL,pa.2.2)))))).bind fun pe=>bK.l0 k a0 a1 ja (av (xc+1)) pe.2.2.2.2.2.1 pe.2.2.2.2.2.2.1) (some (xc,decide (xc<9),xd,xe))) (some (xc,false,xd,xe))
def bK.f (k:Nat) (a0:BA) (a1:List dz):Option (aM):=(bK.l0 k a0 a1 k 0 a0 ([]:List Event)).bind fun pa=>some (⟨pa.2.2.1,pa.2.2.2⟩:aM)
def oH.f (k:Nat) (a0:List dz) (a1:List dz):Option ((List Event)):=(en.f 0).bind fun ta=>(bK.f k ta a0).bind fun tc=>an (cB (([]:List Event).length+tc.fL.length) 96) ((en.f 1).bind fun te=>(bK.f k te a1).bind fun tg=>an (cB ((([]:List Event)++tc.fL).length+tg.fL.length) 96) (some ((([]:List Event)++tc.fL)++tg.fL)))
def fX.l0 (k:Nat) (a0:List MK) (a1:bB):Nat→Int→Option ((Int×Bool) ⊕ (Int))
 | 0,_=>none
 | ja+1,xc=>cond (decide (xc<(a0.length:Int))) (an (iB xc a0.length) (cond (decide ((MK.K.at a0 xc).fK=a1)) (some (.inr xc)) (fX.l0 k a0 a1 ja (av (xc+1))))) (some (.inl (xc,decide (xc<(a0.length:Int)))))
def fX.f (k:Nat) (a0:List MK) (a1:bB):Option (Int):=(fX.l0 k a0 a1 k 0).bind (fall fun pa=>some (-1))
def iV.f (a0:Pos) (a1:Pos):Option (Bool):=cond (decide (a0.br<a1.br)) (some true) (cond (a0.br==a1.br) (some (dK a0.bQ a1.bQ)) (some false))
def mr.f (a0:bB) (a1:bB):Option (Bool):=cond (!decide (a0.ab=a1.ab)) (some (dK a0.ab a1.ab)) (cond (!decide (a0.aj=a1.aj)) (some (dK a0.aj a1.aj)) (cond (!decide (a0.ae=a1.ae)) (some (dK a0.ae a1.ae)) (cond (!a0.aq) (some a1.aq) (some false))))
def jG.l0 (k:Nat) (a0:List MK) (a1:bB):Nat→Int→Option (Int×Bool)
 | 0,_=>none
 | ja+1,xc=>cond (decide (xc<(a0.length:Int))) (an (iB xc a0.length) ((mr.f ((MK.K.at a0 xc).fK) a1).bind fun ta=>cond ta (jG.l0 k a0 a1 ja (av (xc+1))) (some (xc,ta)))) (some (xc,false))
def jG.f (k:Nat) (a0:List MK) (a1:bB) (a2:Pos):Option ((List MK)×Bool):=(fX.f k a0 a1).bind fun ta=>cond (decide (0≤ta)) (an (iB ta a0.length) ((iV.f ((MK.K.at a0 ta).hM) a2).bind fun tc=>cond (!tc) (some (a0,false)) (an (cB (([]:List MK).length+a0.length) 80) (an (iB ta ((([]:List MK)++a0).length)) (some ((([]:List MK)++a0).set ta.toNat (⟨((([]:List MK)++a0).getD ta.toNat default).fK,a2⟩:MK),true)))))) ((jG.l0 k a0 a1 k 0).bind fun pa=>an ((0:Int)≤pa.1∧0≤pa.1.toNat∧pa.1.toNat≤a0.length) (an (cB (([]:List MK).length+((a0.take pa.1.toNat).drop 0).length) 80) (an (cB ((([]:List MK)++((a0.take pa.1.toNat).drop 0)).length+([(⟨a1,a2⟩:MK)]:List MK).length) 80) (an ((0:Int)≤pa.1∧pa.1.toNat≤a0.length∧a0.length≤a0.length) (an (cB (((([]:List MK)++((a0.take pa.1.toNat).drop 0))++([(⟨a1,a2⟩:MK)]:List MK)).length+((a0.take a0.length).drop pa.1.toNat).length) 80) (some (((([]:List MK)++((a0.take pa.1.toNat).drop 0))++([(⟨a1,a2⟩:MK)]:List MK))++((a0.take a0.length).drop pa.1.toNat),true)))))))
def qw.f (a0:ak):Option (bB):=some (⟨a0.ab,a0.aj,a0.ae,a0.aq⟩:bB)
def mh.f (k:Nat) (a0:BA):Option (Bool):=(bR.f k a0).bind fun ta=>cond (decide (a0=eE)) (some true) (cond (decide (a0=(⟨#[109,97,105,110]⟩:BA))) (some true) (some ta))
def fY.f (k:Nat) (a0:ak):Option (Bool):=(iD.f k a0.aj 64).bind fun ta=>(iD.f k a0.ab 33).bind fun tc=>(bR.f k a0.bH).bind fun te=>(mh.f k a0.ae).bind fun tg=>cond (!ta) (some false) (cond (decide (a0.aU<0)) (some false) (cond (decide (1099511627776<a0.aU)) (some false) (cond (decide (a0.aZ<0)) (some false) (cond (decide (1099511627776<a0.aZ)) (some false) (cond (a0.aI==1) (cond tc (cond te (cond tg (cond (!a0.kl) (cond (a0.bW==0) (some (a0.aQ==0)) (some false)) (some false)) (some false)) (some false)) (some false)) (cond (a0.aI==2) (cond a0.kl (cond (decide (1≤a0.bW)) (cond (decide (a0.bW≤60)) (cond tc (cond (decide (a0.bH=eE)) (cond (decide (a0.ae=eE)) (cond (a0.aQ==0) (some (!a0.aq)) (some false)) (some false)) (some false)) (some false)) (cond (!a0.kl) (cond tc (cond (a0.bW==0) (cond (decide (a0.bH=eE)) (cond (decide (a0.ae=eE)) (cond (a0.aQ==0) (some (!a0.aq)) (some false)) (some false)) (some false)) (some false)) (some false)) (cond tc (some false) (some false)))) (cond (!a0.kl) (cond tc (cond (a0.bW==0) (cond (decide (a0.bH=eE)) (cond (decide (a0.ae=eE)) (cond (a0.aQ==0) (some (!a0.aq)) (some false)) (some false)) (some false)) (some false)) (some false)) (cond tc (some false) (some false)))) (cond (!a0.kl) (cond tc (cond (a0.bW==0) (cond (decide (a0.bH=eE)) (cond (decide (a0.ae=eE)) (cond (a0.aQ==0) (some (!a0.aq)) (some false)) (some false)) (some false)) (some false)) (some false)) (cond tc (some false) (some false)))) (cond (a0.aI==3) (cond (decide (a0.ab=eE)) (cond (decide (a0.bH=eE)) (cond (decide (a0.ae=eE)) (cond (!a0.kl) (cond (a0.bW==0) (cond (!a0.aq) (cond (decide (0≤a0.aQ)) (some (decide (a0.aQ≤2))) (some false)) (some false)) (some false)) (some false)) (some false)) (some false)) (some false)) (some false))))))))
def oR.f (k:Nat) (a0:bA) (a1:BA) (a2:BA) (a3:BA):Option (Int):=(iz.f k a0 a1).bind fun ta=>(eK.f k ta a2).bind fun tc=>cond (decide (tc<0)) (some 4) (an (iB tc ta.fL.length) (cond (decide (a3=eE)) (some 0) (cond (decide (a3=a2)) (some 0) (cond (decide (a3=(⟨#[109,97,105,110]⟩:BA))) (cond (decide (((Event.K.at ta.fL tc).ae)=eE)) (some 0) (cond (!decide (((Event.K.at ta.fL tc).ae)=eE)) (cond (decide (a3=((Event.K.at ta.fL tc).ae))) (some 0) (some 7)) (some 7))) (cond (!decide (((Event.K.at ta.fL tc).ae)=eE)) (cond (decide (a3=((Event.K.at ta.fL tc).ae))) (some 0) (some 7)) (some 7))))))
def kO.l0 (k:Nat) (a0:nY) (a1:ak):Nat→Int→Option ((Int×Bool) ⊕ (nY×ak×Bool))
 | 0,_=>none
 | ja+1,xc=>cond (decide (xc<(a0.fL.length:Int))) (an (iB xc a0.fL.length) (cond (decide (ak.K.at a0.fL xc=a1)) (some (.inr (a0,(⟨0,eE,eE,eE,eE,false,false,0,0,0,0⟩:ak),false))) (kO.l0 k a0 a1 ja (av (xc+1))))) (some (.inl (xc,decide (xc<(a0.fL.length:Int)))))
def kO.f (k:Nat) (a0:nY) (a1:ak):Option (nY×ak×Bool):=(kO.l0 k a0 a1 k 0).bind (fall fun pa=>an (cB (([]:List ak).length+a0.fL.length) 112) (an (cB ((([]:List ak)++a0.fL).length+([a1]:List ak).length) 112) (cond (decide (a0.pI<(((([]:List ak)++a0.fL)++([a1]:List ak)).length:Int))) (an ((0:Int)≤1∧(1:Int).toNat≤((([]:List ak)++a0.fL)++([a1]:List ak)).length∧((([]:List ak)++a0.fL)++([a1]:List ak)).length≤((([]:List ak)++a0.fL)++([a1]:List ak)).length) (an (iB 0 (((([]:List ak)++a0.fL)++([a1]:List ak)).length)) (some ((⟨a0.pI,(((([]:List ak)++a0.fL)++([a1]:List ak)).take (((([]:List ak)++a0.fL)++([a1]:List ak)).length)).drop ((1:Int).toNat),av (a0.qm+1)⟩:nY),ak.K.at ((([]:List ak)++a0.fL)++([a1]:List ak)) 0,true)))) (some ((⟨a0.pI,(([]:List ak)++a0.fL)++([a1]:List ak),a0.qm⟩:nY),(⟨0,eE,eE,eE,eE,false,false,0,0,0,0⟩:ak),false)))))
def dE.l1 (k:Nat) (a0:aM) (xc:Int):Nat→Int→List Int→Option (Int×Bool×(List Int))
 | 0,_,_=>none
 | ja+1,xd,xe=>an (iB xc a0.fL.length) (cond (decide (xd<(((Event.K.at a0.fL xc).ag).length:Int))) (an (iB xc xe.length) (an (iB xc a0.fL.length) (an (iB xd (((Event.K.at a0.fL xc).ag).length)) ((eK.f k a0 (aw.at ((Event.K.at a0.fL xc).ag) xd)).bind fun ta=>an (iB ta xe.length) (an (iB xc xe.length) (dE.l1 k a0 xc ja (av (xd+1)) (xe.set xc.toNat (max (xe.getD xc.toNat default) (av ((xe.getD ta.toNat default)+1)))))))))) (some (xd,decide (xd<(((Event.K.at a0.fL xc).ag).length:Int)),xe)))
def dE.l0 (k:Nat) (a0:aM) (ta:Int):Nat→Int→List Int→Option (Int×Bool×(List Int))
 | 0,_,_=>none
 | ja+1,xc,xd=>cond (decide (xc≤ta)) ((dE.l1 k a0 xc k 0 xd).bind fun pa=>dE.l0 k a0 ta ja (av (xc+1)) pa.2.2) (some (xc,decide (xc≤ta),xd))
def dE.f (k:Nat) (a0:aM) (a1:BA):Option (Int):=(eK.f k a0 a1).bind fun ta=>cond (decide (ta<0)) (some 0) (an ((0:Int)≤(av (ta+1))∧(av (ta+1))≤(9223372036854775807:Int)∧(av (ta+1)).toNat*8≤140737488355328) ((dE.l0 k a0 ta k 0 (List.replicate (av (ta+1)).toNat (0:Int))).bind fun pa=>an (iB ta pa.2.2.length) (some (pa.2.2.getD ta.toNat default))))
def dI.f (k:Nat) (a0:aM) (a1:BA):Option (Pos):=(dE.f k a0 a1).bind fun ta=>some (⟨ta,a1⟩:Pos)
def kR.f (k:Nat) (a0:bA) (a1:BA) (a2:BA):Option (Pos×Bool):=(iz.f k a0 a1).bind fun ta=>(eK.f k ta a2).bind fun tc=>cond (decide (tc<0)) (some ((⟨0,eE⟩:Pos),false)) ((dI.f k ta a2).bind fun te=>some (te,true))
def qH.f (k:Nat) (a0:qG) (a1:bA) (a2:ak):Option (qG×Bool×Int):=(fY.f k a2).bind fun ta=>cond (a2.aI != 1) (some ((⟨a0.fL,a0.fP⟩:qG),false,1)) (cond (!ta) (some ((⟨a0.fL,a0.fP⟩:qG),false,1)) ((oR.f k a1 a2.ab a2.bH a2.ae).bind fun tc=>cond (tc==4) ((kO.f k a0.fP a2).bind fun te=>some ((⟨a0.fL,te.1⟩:qG),false,0)) (cond (tc != 0) (some ((⟨a0.fL,a0.fP⟩:qG),false,tc)) ((kR.f k a1 a2.ab a2.bH).bind fun tg=>(qw.f a2).bind fun tj=>(jG.f k a0.fL tj tg.1).bind fun tm=>some ((⟨tm.1,a0.fP⟩:qG),tm.2,0)))))
def cF.f (a0:Int) (a1:Int) (a2:Int):Option (Bool):=cond (decide (a1≤a0)) (some (decide (a0≤a2))) (some false)
def iY.f (a0:ak):Option (Bool):=some false
def lE.f (k:Nat) (a0:BA):Option (Bool):=cond (decide (a0=eE)) (some true) (cond (decide (a0=(⟨#[109,97,105,110]⟩:BA))) (some true) ((eA.f k a0).bind fun ta=>some ta))
def gI.f (k:Nat) (a0:ak):Option (Bool):=(kN.f k a0.ab).bind fun ta=>cond ta ((eA.f k a0.bH).bind fun tc=>cond tc ((lE.f k a0.ae).bind fun te=>some te) (some false)) (some false)
def fN.f (k:Nat) (a0:ak) (c0:Int→Int→Int→Option Bool):Option (Bool):=(kN.f k a0.ab).bind fun ta=>cond ta (cond (!a0.kl) (some true) ((c0 a0.bW 1 60).bind fun tc=>some tc)) (some false)
def fI.f (a0:ak) (c0:Int→Int→Int→Option Bool):Option (Bool):=(c0 a0.aQ 0 2).bind fun ta=>some ta
def nR.f (k:Nat):Option ((List (ak→Option Bool))):=some ([iY.f,gI.f k,fun a0_=>fN.f k a0_ cF.f,fun a0_=>fI.f a0_ cF.f]:List (ak→Option Bool))
def iM.f (a0:Int):Option (Bool):=cond (decide (0≤a0)) (some (decide (a0≤1099511627776))) (some false)
def mn.f (a0:ak):Option (ak):=cond (a0.aI==1) (some (⟨a0.aI,a0.ab,a0.aj,a0.bH,a0.ae,a0.aq,false,0,0,a0.aU,a0.aZ⟩:ak)) (cond (a0.aI==2) (cond a0.kl (some (⟨a0.aI,a0.ab,a0.aj,eE,eE,false,a0.kl,a0.bW,0,a0.aU,a0.aZ⟩:ak)) (some (⟨a0.aI,a0.ab,a0.aj,eE,eE,false,a0.kl,0,0,a0.aU,a0.aZ⟩:ak))) (cond (a0.aI==3) (some (⟨a0.aI,eE,a0.aj,eE,eE,false,false,0,a0.aQ,a0.aU,a0.aZ⟩:ak)) (some (⟨a0.aI,eE,a0.aj,eE,eE,false,false,0,0,a0.aU,a0.aZ⟩:ak))))
def eP.f (k:Nat) (a0:ak):Option (Bool):=cond (decide (a0.aI<0)) (some false) (cond (decide (3<a0.aI)) (some false) ((nR.f k).bind fun ta=>an (iB a0.aI ta.length) (((iE.at ta a0.aI) a0).bind fun tc=>cond (!tc) (some false) ((mn.f a0).bind fun te=>cond (decide (a0=te)) ((mu.f k a0.aj).bind fun tg=>cond tg ((iM.f a0.aU).bind fun tj=>cond tj ((iM.f a0.aZ).bind fun tm=>some tm) (some false)) (some false)) (some false)))))
def lh.f (a0:bn) (a1:BA):Option (Event×Bool):=(eG.f a0 a1).bind fun ta=>cond (!ta) (some ((⟨eE,eE,([]:List BA),eE,eE,0⟩:Event),false)) (an ((mget a0.ao a1).isSome=true) ((iG.f (((mget a0.ao a1).getD default).fe)).bind fun tc=>some (tc,true)))
def jl.f (a0:aN) (a1:BA) (a2:BA) (a3:BA):Option (Int):=(aO.f a0 a1).bind fun ta=>(lh.f ta a2).bind fun tc=>cond (!tc.2) (some 4) (cond (decide (a3=eE)) (cond (decide (a3=eE)) (some 0) (some 7)) (cond (decide (a3=(⟨#[109,97,105,110]⟩:BA))) (cond (decide (tc.1.ae=eE)) (cond (decide (tc.1.ae=eE)) (some 0) (some 7)) (cond (decide (a3=a2)) (cond (decide (a3=a2)) (some 0) (some 7)) (cond (decide (a3=tc.1.ae)) (some 0) (some 7)))) (cond (decide (a3=a2)) (cond (decide (a3=a2)) (some 0) (some 7)) (cond (decide (a3=tc.1.ae)) (some 0) (some 7)))))
def bY.l0 (k:Nat) (a0:List ak) (a1:ak):Nat→Int→Option ((Int×Bool) ⊕ (Int))
 | 0,_=>none
 | ja+1,xc=>cond (decide (xc<(a0.length:Int))) (an (iB xc a0.length) (cond (decide (a1=ak.K.at a0 xc)) (some (.inr xc)) (bY.l0 k a0 a1 ja (av (xc+1))))) (some (.inl (xc,decide (xc<(a0.length:Int)))))
def bY.f (k:Nat) (a0:List ak) (a1:ak):Option (Int):=(bY.l0 k a0 a1 k 0).bind (fall fun pa=>some (-1))
def fj.f (k:Nat) (a0:List ak) (a1:ak):Option (Bool):=(bY.f k a0 a1).bind fun ta=>some (decide (0≤ta))
def fb.f (xs:List ak) (i j:Int):Option (List ak):=an ((0:Int)≤i∧i≤j∧j≤(xs.length:Int)) (some (xs.take i.toNat++xs.drop j.toNat))
def jZ.f (k:Nat) (a0:jH) (a1:ak):Option (ak×Bool×jH):=(fj.f k a0.fl a1).bind fun ta=>cond ta (some ((⟨0,eE,eE,eE,eE,false,false,0,0,0,0⟩:ak),false,a0)) (an (cB (a0.fl.length+([a1]:List ak).length) 112) (cond (decide (((a0.fl++([a1]:List ak)).length:Int)≤a0.eb)) (some ((⟨0,eE,eE,eE,eE,false,false,0,0,0,0⟩:ak),false,(⟨a0.eb,a0.fl++([a1]:List ak),a0.qZ⟩:jH))) (an (iB 0 ((a0.fl++([a1]:List ak)).length)) ((fb.f (a0.fl++([a1]:List ak)) 0 1).bind fun tc=>some ((a0.fl++([a1]:List ak)).getD ((0:Int).toNat) default,true,(⟨a0.eb,tc,av (a0.qZ+1)⟩:jH))))))
def hJ.f (a0:bn) (a1:BA):Option (Pos×Bool):=(eG.f a0 a1).bind fun ta=>cond (!ta) (some ((⟨0,eE⟩:Pos),false)) (an ((mget a0.ao a1).isSome=true) (some ((⟨((mget a0.ao a1).getD default).cI,a1⟩:Pos),true)))
def fG.f (a0:aN) (a1:BA) (a2:BA):Option (Pos×Bool):=(aO.f a0 a1).bind fun ta=>(hJ.f ta a2).bind fun tc=>some (tc.1,tc.2)
def cmp_isNaN_string.f (a0:BA):Option (Bool):=some (!decide (a0=a0))
def aD.f (a0:BA) (a1:BA):Option (Int):=(cmp_isNaN_string.f a0).bind fun ta=>(cmp_isNaN_string.f a1).bind fun tc=>cond ta (cond tc (some 0) (some (-1))) (cond tc (some 1) (cond (dK a0 a1) (some (-1)) (cond (dK a1 a0) (some 1) (some 0))))
def bE.l0 (k:Nat) (a0:List Int):Nat→Int→Option ((Int×Bool) ⊕ (Int))
 | 0,_=>none
 | ja+1,xc=>cond (decide (xc<(a0.length:Int))) (an (iB xc a0.length) (cond (((bq .i64).at a0 xc) != 0) (some (.inr ((bq .i64).at a0 xc))) (bE.l0 k a0 ja (av (xc+1))))) (some (.inl (xc,decide (xc<(a0.length:Int)))))
def bE.f (k:Nat) (a0:List Int):Option (Int):=(bE.l0 k a0 k 0).bind (fall fun pa=>some 0)
def cmp_isNaN_int.f (a0:Int):Option (Bool):=some (a0 != a0)
def b7.f (a0:Int) (a1:Int):Option (Int):=(cmp_isNaN_int.f a0).bind fun ta=>(cmp_isNaN_int.f a1).bind fun tc=>cond ta (cond tc (some 0) (some (-1))) (cond tc (some 1) (cond (decide (a0<a1)) (some (-1)) (cond (decide (a1<a0)) (some 1) (some 0))))
def iO.f (k:Nat) (a0:Pos) (a1:Pos):Option (Int):=(b7.f a0.br a1.br).bind fun ta=>(aD.f a0.bQ a1.bQ).bind fun tc=>(bE.f k ([ta,tc]:List Int)).bind fun te=>some te
def gB.f (k:Nat) (a0:j8) (a1:bB) (a2:Pos):Option (Bool×j8):=cond ((mget a0.iU a1).isSome) ((iO.f k ((mget a0.iU a1).getD (⟨0,eE⟩:Pos)) a2).bind fun ta=>cond (decide (0≤ta)) (some (false,a0)) (some (true,(⟨mput a0.iU a1 a2⟩:j8)))) (some (true,(⟨mput a0.iU a1 a2⟩:j8)))
def qA.f (a0:ak):Option (bB):=some (⟨a0.ab,a0.aj,a0.ae,a0.aq⟩:bB)
def iF.f (k:Nat) (a0:j7) (a1:aN) (a2:ak):Option (Bool×Int×j7):=cond (a2.aI != 1) (some (false,1,a0)) ((eP.f k a2).bind fun ta=>cond (!ta) (some (false,1,a0)) ((jl.f a1 a2.ab a2.bH a2.ae).bind fun tc=>cond (tc==4) ((jZ.f k a0.pT a2).bind fun te=>some (false,0,(⟨a0.qt,te.2.2⟩:j7))) (cond (tc==0) ((fG.f a1 a2.ab a2.bH).bind fun tg=>(qA.f a2).bind fun tj=>(gB.f k a0.qt tj tg.1).bind fun tm=>some (tm.1,0,(⟨tm.2,a0.pT⟩:j7))) (some (false,tc,a0)))))
def strings_Join.f (xs:List BA) (sep:BA):Option BA:=an (xs.length≤140737488355328∧(Lib.join (xs.map (·.data.toList)) sep.data.toList).length≤140737488355328) (some ⟨(Lib.join (xs.map (·.data.toList)) sep.data.toList).toArray⟩)
def iK.f (a0:bB):Option (BA):=cond a0.aq ((strings_Join.f ([(⟨#[109]⟩:BA),a0.ab,a0.aj,a0.ae,(⟨#[49]⟩:BA)]:List BA) (⟨#[32]⟩:BA)).bind fun ta=>some ta) ((strings_Join.f ([(⟨#[109]⟩:BA),a0.ab,a0.aj,a0.ae,(⟨#[48]⟩:BA)]:List BA) (⟨#[32]⟩:BA)).bind fun tc=>some tc)
def mv.f (k:Nat) (a0:ak):Option (Bool):=(fY.f k a0).bind fun ta=>cond ta (some (!a0.aq)) (some false)
def cV.f:Nat→Int→Option ((List Int))
 | 0,_=>none
 | k+1,a0=>(cond (decide (a0<0)) (some 0) (some a0)).bind fun pa=>cond (decide (pa<128)) (some ([IntKind.u8.wrap (pa)]:List Int)) ((cV.f k (av (pa.tdiv 128))).bind fun ta=>an (cB (([IntKind.u8.wrap (av (128+(pa.tmod 128)))]:List Int).length+ta.length) 1) (some (([IntKind.u8.wrap (av (128+(pa.tmod 128)))]:List Int)++ta)))
def jU.f (k:Nat) (a0:BA):Option ((List Int)):=(cV.f k (a0.size:Int)).bind fun ta=>an (cB (ta.length+(nD a0).length) 1) (some (ta++(nD a0)))
def pZ.f (a0:Bool):Option ((List Int)):=cond a0 (some ([1]:List Int)) (some ([0]:List Int))
def lF.f (k:Nat) (a0:ak):Option ((List Int)):=(cV.f k a0.aI).bind fun ta=>(jU.f k a0.ab).bind fun tc=>an (cB (ta.length+tc.length) 1) ((jU.f k a0.aj).bind fun te=>an (cB ((ta++tc).length+te.length) 1) ((jU.f k a0.bH).bind fun tg=>an (cB (((ta++tc)++te).length+tg.length) 1) ((jU.f k a0.ae).bind fun tj=>an (cB ((((ta++tc)++te)++tg).length+tj.length) 1) ((pZ.f a0.kl).bind fun tm=>an (cB (((((ta++tc)++te)++tg)++tj).length+tm.length) 1) ((cV.f k a0.bW).bind fun tn=>an (cB ((((((ta++tc)++te)++tg)++tj)++tm).length+tn.length) 1) ((cV.f k a0.aQ).bind fun tp=>an (cB (((((((ta++tc)++te)++tg)++tj)++tm)++tn).length+tp.length) 1) ((cV.f k a0.aU).bind fun tq=>an (cB ((((((((ta++tc)++te)++tg)++tj)++tm)++tn)++tp).length+tq.length) 1) ((cV.f k a0.aZ).bind fun tu=>an (cB (((((((((ta++tc)++te)++tg)++tj)++tm)++tn)++tp)++tq).length+tu.length) 1) (some (((((((((ta++tc)++te)++tg)++tj)++tm)++tn)++tp)++tq)++tu))))))))))
def jz.f (k:Nat) (a0:ak) (a1:ak):Option (Int):=cond (decide (a0.aZ<a1.aZ)) (some (-1)) (cond (decide (a1.aZ<a0.aZ)) (some 1) ((lF.f k a0).bind fun ta=>(lF.f k a1).bind fun tc=>cond (dK (gG ta) (gG tc)) (some (-1)) (cond (dK (gG tc) (gG ta)) (some 1) (some 0))))
def cT.l0 (k:Nat) (a0:kH) (a1:ak):Nat→Bool→Int→List ak→List Bool→Option ((Bool×Int×Bool×(List ak)×(List Bool)) ⊕ (kH×Bool×Int))
 | 0,_,_,_,_=>none
 | ja+1,xc,xd,xe,xf=>cond (decide (xd<(a0.fL.length:Int))) (an (iB xd a0.fL.length) (cond (decide (((ak.K.at a0.fL xd).ab)=a1.ab)) (cond (decide (((ak.K.at a0.fL xd).aj)=a1.aj)) ((jz.f k a1 (ak.K.at a0.fL xd)).bind fun ta=>cond (decide (ta≤0)) (some (.inr (a0,false,0))) (cT.l0 k a0 a1 ja xc (av (xd+1)) xe xf)) ((cond (!xc) (cond (dK a1.ab ((ak.K.at a0.fL xd).ab)) (an (cB (xe.length+([a1]:List ak).length) 112) (an (cB (xf.length+([false]:List Bool).length) 1) (some (true,true,xe++([a1]:List ak),xf++([false]:List Bool))))) (cond (decide (a1.ab=((ak.K.at a0.fL xd).ab))) (cond (dK a1.aj ((ak.K.at a0.fL xd).aj)) (an (cB (xe.length+([a1]:List ak).length) 112) (an (cB (xf.length+([false]:List Bool).length) 1) (some (true,dK a1.aj ((ak.K.at a0.fL xd).aj),xe++([a1]:List ak),xf++([false]:List Bool))))) (some (xc,dK a1.aj ((ak.K.at a0.fL xd).aj),xe,xf))) (some (xc,false,xe,xf)))) (some (xc,false,xe,xf))).bind fun pa=>an (cB (pa.2.2.1.length+([ak.K.at a0.fL xd]:List ak).length) 112) (an (iB xd a0.db.length) (an (cB (pa.2.2.2.length+([cG.at a0.db xd]:List Bool).length) 1) (cT.l0 k a0 a1 ja pa.1 (av (xd+1)) (pa.2.2.1++([ak.K.at a0.fL xd]:List ak)) (pa.2.2.2++([cG.at a0.db xd]:List Bool))))))) ((cond (!xc) (cond (dK a1.ab ((ak.K.at a0.fL xd).ab)) (an (cB (xe.length+([a1]:List ak).length) 112) (an (cB (xf.length+([false]:List Bool).length) 1) (some (true,true,xe++([a1]:List ak),xf++([false]:List Bool))))) (cond (decide (a1.ab=((ak.K.at a0.fL xd).ab))) (cond (dK a1.aj ((ak.K.at a0.fL xd).aj)) (an (cB (xe.length+([a1]:List ak).length) 112) (an (cB (xf.length+([false]:List Bool).length) 1) (some (true,dK a1.aj ((ak.K.at a0.fL xd).aj),xe++([a1]:List ak),xf++([false]:List Bool))))) (some (xc,dK a1.aj ((ak.K.at a0.fL xd).aj),xe,xf))) (some (xc,false,xe,xf)))) (some (xc,false,xe,xf))).bind fun pc=>an (cB (pc.2.2.1.length+([ak.K.at a0.fL xd]:List ak).length) 112) (an (iB xd a0.db.length) (an (cB (pc.2.2.2.length+([cG.at a0.db xd]:List Bool).length) 1) (cT.l0 k a0 a1 ja pc.1 (av (xd+1)) (pc.2.2.1++([ak.K.at a0.fL xd]:List ak)) (pc.2.2.2++([cG.at a0.db xd]:List Bool)))))))) (some (.inl (xc,xd,decide (xd<(a0.fL.length:Int)),xe,xf)))
def cT.f (k:Nat) (a0:kH) (a1:ak):Option (kH×Bool×Int):=(mv.f k a1).bind fun ta=>cond (a1.aI != 2) (some (a0,false,1)) (cond (!ta) (some (a0,false,1)) ((cT.l0 k a0 a1 k false 0 ([]:List ak) ([]:List Bool)).bind (fall fun pa=>cond (!pa.1) (an (cB (pa.2.2.2.1.length+([a1]:List ak).length) 112) (an (cB (pa.2.2.2.2.length+([false]:List Bool).length) 1) (some ((⟨pa.2.2.2.1++([a1]:List ak),pa.2.2.2.2++([false]:List Bool)⟩:kH),true,0)))) (some ((⟨pa.2.2.2.1,pa.2.2.2.2⟩:kH),true,0)))))
def mw.f (k:Nat) (a0:ak):Option (Bool):=(eP.f k a0).bind fun ta=>cond ta (some (!a0.aq)) (some false)
def slices_BinarySearchFunc_Edu_Edu.l0 (k:Nat) (a0:List ak) (a1:ak) (a2:ak→ak→Option Int):Nat→Int→Int→Option (Int×Int×Bool)
 | 0,_,_=>none
 | ja+1,xc,xd=>cond (decide (xc<xd)) (an (iB (av ((IntKind.u64.wrap (av (xc+xd))).fdiv 2)) a0.length) ((a2 (ak.K.at a0 (av ((IntKind.u64.wrap (av (xc+xd))).fdiv 2))) a1).bind fun ta=>cond (decide (ta<0)) (slices_BinarySearchFunc_Edu_Edu.l0 k a0 a1 a2 ja (av ((av ((IntKind.u64.wrap (av (xc+xd))).fdiv 2))+1)) xd) (slices_BinarySearchFunc_Edu_Edu.l0 k a0 a1 a2 ja xc (av ((IntKind.u64.wrap (av (xc+xd))).fdiv 2))))) (some (xc,xd,decide (xc<xd)))
def slices_BinarySearchFunc_Edu_Edu.f (k:Nat) (a0:List ak) (a1:ak) (a2:ak→ak→Option Int):Option (Int×Bool):=(slices_BinarySearchFunc_Edu_Edu.l0 k a0 a1 a2 k 0 (a0.length:Int)).bind fun pa=>cond (decide (pa.1<(a0.length:Int))) (an (iB pa.1 a0.length) ((a2 (ak.K.at a0 pa.1) a1).bind fun ta=>some (pa.1,(ta==0)))) (some (pa.1,false))
def ea.f (k:Nat) (a0:ak) (a1:ak):Option (Int):=(aD.f a0.ab a1.ab).bind fun ta=>(aD.f a0.aj a1.aj).bind fun tc=>(bE.f k ([ta,tc]:List Int)).bind fun te=>some te
def dW.f (k:Nat) (a0:bX) (a1:ak):Option (Int×Bool):=(slices_BinarySearchFunc_Edu_Edu.f k a0.fl a1 (ea.f k)).bind fun ta=>some (ta.1,ta.2)
def pV.f (a0:ak):Option (u0):=some (⟨a0.aI,a0.ab,a0.aj,a0.ae,a0.aq⟩:u0)
def ll.f (a0:List Int) (a1:List Int):Option (Int):=some (Io a0 a1)
def bZ.l0 (k:Nat):Nat→Int→List Int→Option (Int×Bool×(List Int))
 | 0,_,_=>none
 | ja+1,xc,xd=>cond (decide (128≤xc)) (an (cB (xd.length+([IntKind.u8.wrap (av ((xc.tmod 128)+128))]:List Int).length) 1) (bZ.l0 k ja (av (xc.tdiv 128)) (xd++([IntKind.u8.wrap (av ((xc.tmod 128)+128))]:List Int)))) (some (xc,decide (128≤xc),xd))
def bZ.f (k:Nat) (a0:List Int) (a1:Int):Option ((List Int)):=an ((0:Int)≤(a0.length:Int)∧0≤(a0.length:Int).toNat∧(a0.length:Int).toNat≤a0.length) ((bZ.l0 k k (max a1 0) ((a0.take ((a0.length:Int).toNat)).drop 0)).bind fun pa=>an (cB (pa.2.2.length+([IntKind.u8.wrap (pa.1)]:List Int).length) 1) (some (pa.2.2++([IntKind.u8.wrap (pa.1)]:List Int))))
def oA.f (k:Nat) (a0:List Int) (a1:BA):Option ((List Int)):=(bZ.f k a0 (a1.size:Int)).bind fun ta=>an (cB (ta.length+(nD a1).length) 1) (some (ta++(nD a1)))
def oT.f (k:Nat) (a0:List Int) (a1:Bool):Option ((List Int)):=cond a1 ((bZ.f k a0 1).bind fun ta=>some ta) ((bZ.f k a0 0).bind fun tc=>some tc)
def cR.l0 (k:Nat) (a0:ak):Nat→Int→List Int→Option (Int×Bool×(List Int))
 | 0,_,_=>none
 | ja+1,xc,xd=>cond (decide (xc<(([a0.bW,a0.aQ,a0.aU,a0.aZ]:List Int).length:Int))) (an (iB xc (([a0.bW,a0.aQ,a0.aU,a0.aZ]:List Int).length)) ((bZ.f k xd ((bq .i64).at ([a0.bW,a0.aQ,a0.aU,a0.aZ]:List Int) xc)).bind fun ta=>cR.l0 k a0 ja (av (xc+1)) ta)) (some (xc,decide (xc<(([a0.bW,a0.aQ,a0.aU,a0.aZ]:List Int).length:Int)),xd))
def cR.l1 (k:Nat) (a0:ak):Nat→Int→List Int→Option (Int×Bool×(List Int))
 | 0,_,_=>none
 | ja+1,xc,xd=>cond (decide (xc<(([a0.ab,a0.aj,a0.bH,a0.ae]:List BA).length:Int))) (an (iB xc (([a0.ab,a0.aj,a0.bH,a0.ae]:List BA).length)) ((oA.f k xd (aw.at ([a0.ab,a0.aj,a0.bH,a0.ae]:List BA) xc)).bind fun ta=>cR.l1 k a0 ja (av (xc+1)) ta)) (some (xc,decide (xc<(([a0.ab,a0.aj,a0.bH,a0.ae]:List BA).length:Int)),xd))
def cR.f (k:Nat) (a0:ak):Option ((List Int)):=(bZ.f k ([]:List Int) a0.aI).bind fun ta=>(cR.l1 k a0 k 0 ta).bind fun pa=>(oT.f k pa.2.2 a0.kl).bind fun tc=>(cR.l0 k a0 k 0 tc).bind fun pc=>some pc.2.2
def lG.f (k:Nat) (a0:ak) (a1:ak):Option (Int):=(b7.f a0.aZ a1.aZ).bind fun ta=>(cR.f k a0).bind fun tc=>(cR.f k a1).bind fun te=>(ll.f tc te).bind fun tg=>(bE.f k ([ta,tg]:List Int)).bind fun tj=>some tj
def j4.f (k:Nat) (a0:ak) (a1:ak):Option (Bool):=(pV.f a0).bind fun ta=>(pV.f a1).bind fun tc=>cond (decide (ta=tc)) ((lG.f k a0 a1).bind fun te=>some (decide (0<te))) (some false)
def da.f (xs:List ak) (i:Int) (ys:List ak):Option (List ak):=an ((0:Int)≤i∧i≤(xs.length:Int)∧0<ys.length∧xs.length+ys.length≤4611686018427387904∧(xs.length+ys.length)*112≤140737488355328) (some (xs.take i.toNat++ys++xs.drop i.toNat))
def dA.f (a0:aP) (a1:Int) (a2:dq):Option (aP):=an (iB a1 a0.fl.length) (some (⟨a0.fl.set a1.toNat a2,mput a0.iU a2.dw a1⟩:aP))
def heap_ahead.f (k:Nat) (a0:dq) (a1:dq):Option (Int):=(b7.f a0.hM a1.hM).bind fun ta=>(aD.f a0.dw a1.dw).bind fun tc=>(bE.f k ([ta,tc]:List Int)).bind fun te=>some te
def heap_Heap_down.l0 (k:Nat) (a0:aP) (a1:Int):Nat→Int→aP→Option (Int×Int×Bool×Bool×aP)
 | 0,_,_=>none
 | ja+1,xc,xd=>(cond (decide ((av ((av ((av (2*xc))+1))+1))<(xd.fl.length:Int))) (an (iB (av ((av ((av (2*xc))+1))+1)) xd.fl.length) (an (iB (av ((av (2*xc))+1)) xd.fl.length) ((heap_ahead.f k (xd.fl.getD ((av ((av ((av (2*xc))+1))+1)).toNat) default) (xd.fl.getD ((av ((av (2*xc))+1)).toNat) default)).bind fun ta=>cond (decide (ta<0)) (some (av ((av ((av (2*xc))+1))+1),decide (ta<0))) (some (av ((av (2*xc))+1),decide (ta<0)))))) (some (av ((av (2*xc))+1),false))).bind fun pa=>cond (decide ((xd.fl.length:Int)≤pa.1)) (some (xc,pa.1,pa.2,true,xd)) (an (iB pa.1 xd.fl.length) ((heap_ahead.f k (a0.fl.getD a1.toNat default) (xd.fl.getD pa.1.toNat default)).bind fun tc=>cond (decide (tc<0)) (some (xc,pa.1,pa.2,decide (tc<0),xd)) (an (iB pa.1 xd.fl.length) ((dA.f xd xc (xd.fl.getD pa.1.toNat default)).bind fun te=>heap_Heap_down.l0 k a0 a1 ja pa.1 te))))
def heap_Heap_down.f (k:Nat) (a0:aP) (a1:Int):Option (aP):=an (iB a1 a0.fl.length) ((heap_Heap_down.l0 k a0 a1 k a1 a0).bind fun pa=>(dA.f pa.2.2.2.2 pa.1 (a0.fl.getD a1.toNat default)).bind fun ta=>some ta)
def cZ.l0 (k:Nat) (a0:aP) (a1:Int):Nat→Int→aP→Option (Int×Bool×aP)
 | 0,_,_=>none
 | ja+1,xc,xd=>cond (decide (0<xc)) (an (iB (av ((av (xc-1)).tdiv 2)) xd.fl.length) ((heap_ahead.f k (a0.fl.getD a1.toNat default) (xd.fl.getD ((av ((av (xc-1)).tdiv 2)).toNat) default)).bind fun ta=>cond (decide (ta<0)) (an (iB (av ((av (xc-1)).tdiv 2)) xd.fl.length) ((dA.f xd xc (xd.fl.getD ((av ((av (xc-1)).tdiv 2)).toNat) default)).bind fun tc=>cZ.l0 k a0 a1 ja (av ((av (xc-1)).tdiv 2)) tc)) (some (xc,decide (ta<0),xd)))) (some (xc,false,xd))
def cZ.f (k:Nat) (a0:aP) (a1:Int):Option (aP):=an (iB a1 a0.fl.length) ((cZ.l0 k a0 a1 k a1 a0).bind fun pa=>(dA.f pa.2.2 pa.1 (a0.fl.getD a1.toNat default)).bind fun ta=>some ta)
def dt.f (k:Nat) (a0:aP) (a1:BA):Option (Bool×aP):=cond (!((mget a0.iU a1).isSome)) (some (false,a0)) (an (iB (av ((a0.fl.length:Int)-1)) a0.fl.length) (an ((0:Int)≤(av ((a0.fl.length:Int)-1))∧0≤(av ((a0.fl.length:Int)-1)).toNat∧(av ((a0.fl.length:Int)-1)).toNat≤a0.fl.length) (cond (decide (((mget a0.iU a1).getD 0)<(av ((a0.fl.length:Int)-1)))) ((dA.f (⟨(a0.fl.take ((av ((a0.fl.length:Int)-1)).toNat)).drop 0,l6 a0.iU a1⟩:aP) ((mget a0.iU a1).getD 0) (a0.fl.getD ((av ((a0.fl.length:Int)-1)).toNat) default)).bind fun ta=>(heap_Heap_down.f k ta ((mget a0.iU a1).getD 0)).bind fun tc=>(cZ.f k tc ((mget tc.iU ((a0.fl.getD ((av ((a0.fl.length:Int)-1)).toNat) default).dw)).getD 0)).bind fun te=>some (true,te)) (some (true,(⟨(a0.fl.take ((av ((a0.fl.length:Int)-1)).toNat)).drop 0,l6 a0.iU a1⟩:aP))))))
def eW.f (k:Nat) (a0:aP) (a1:Int) (a2:BA):Option (aP):=(dt.f k a0 a2).bind fun ta=>an (cB (ta.2.fl.length+([(⟨a1,a2⟩:dq)]:List dq).length) 24) ((cZ.f k (⟨ta.2.fl++([(⟨a1,a2⟩:dq)]:List dq),ta.2.iU⟩:aP) (av (((ta.2.fl++([(⟨a1,a2⟩:dq)]:List dq)).length:Int)-1))).bind fun tc=>some tc)
def jB.f (a0:ak):Option (Int):=some (av (a0.aU+a0.bW))
def fJ.f (k:Nat) (a0:bX) (a1:ak):Option (Bool×Int×bX):=cond (a1.aI != 2) (some (false,1,a0)) ((mw.f k a1).bind fun ta=>cond (!ta) (some (false,1,a0)) ((dW.f k a0 a1).bind fun tc=>(cond tc.2 (an (iB tc.1 a0.fl.length) (cond (decide (a0.fl.getD tc.1.toNat default=a1)) (some (.inr (false,0,a0))) (an (iB tc.1 a0.fl.length) ((j4.f k a1 (a0.fl.getD tc.1.toNat default)).bind fun te=>cond (!te) (some (.inr (false,0,a0))) (an (iB tc.1 a0.fl.length) (some (.inl (true,!te,true,(⟨a0.fl.set tc.1.toNat a1,a0.gU⟩:bX))))))))) ((da.f a0.fl tc.1 ([a1]:List ak)).bind fun tg=>some (.inl (false,false,false,(⟨tg,a0.gU⟩:bX))))).bind (fall fun pa=>an (a1.ab.size+(⟨#[32]⟩:BA).size≤9223372036854775807) (an ((a1.ab++(⟨#[32]⟩:BA)).size+a1.aj.size≤9223372036854775807) ((dt.f k pa.2.2.2.gU ((a1.ab++(⟨#[32]⟩:BA))++a1.aj)).bind fun tj=>cond a1.kl ((jB.f a1).bind fun tm=>(eW.f k tj.2 tm ((a1.ab++(⟨#[32]⟩:BA))++a1.aj)).bind fun tn=>some (true,0,(⟨pa.2.2.2.fl,tn⟩:bX))) (some (true,0,(⟨pa.2.2.2.fl,tj.2⟩:bX))))))))
def jF.f (a0:BA):Option (BA):=an ((⟨#[116,32]⟩:BA).size+a0.size≤9223372036854775807) (some ((⟨#[116,32]⟩:BA)++a0))
def di.l0 (k:Nat) (a0:lH) (a1:ak):Nat→Bool→Int→List ak→List Int→Option ((Bool×Int×Bool×(List ak)×(List Int)) ⊕ (lH×Bool×Int))
 | 0,_,_,_,_=>none
 | ja+1,xc,xd,xe,xf=>cond (decide (xd<(a0.fL.length:Int))) (an (iB xd a0.fL.length) (cond (decide (((ak.K.at a0.fL xd).aj)=a1.aj)) ((jz.f k a1 (ak.K.at a0.fL xd)).bind fun ta=>cond (decide (ta≤0)) (some (.inr (a0,false,0))) (di.l0 k a0 a1 ja xc (av (xd+1)) xe xf)) ((cond (!xc) (cond (dK a1.aj ((ak.K.at a0.fL xd).aj)) (an (cB (xe.length+([a1]:List ak).length) 112) (an (cB (xf.length+([(-1)]:List Int).length) 8) (some (true,dK a1.aj ((ak.K.at a0.fL xd).aj),xe++([a1]:List ak),xf++([(-1)]:List Int))))) (some (xc,dK a1.aj ((ak.K.at a0.fL xd).aj),xe,xf))) (some (xc,false,xe,xf))).bind fun pa=>an (cB (pa.2.2.1.length+([ak.K.at a0.fL xd]:List ak).length) 112) (an (iB xd a0.db.length) (an (cB (pa.2.2.2.length+([(bq .i64).at a0.db xd]:List Int).length) 8) (di.l0 k a0 a1 ja pa.1 (av (xd+1)) (pa.2.2.1++([ak.K.at a0.fL xd]:List ak)) (pa.2.2.2++([(bq .i64).at a0.db xd]:List Int)))))))) (some (.inl (xc,xd,decide (xd<(a0.fL.length:Int)),xe,xf)))
def di.f (k:Nat) (a0:lH) (a1:ak):Option (lH×Bool×Int):=(mv.f k a1).bind fun ta=>cond (a1.aI != 3) (some (a0,false,1)) (cond (!ta) (some (a0,false,1)) ((di.l0 k a0 a1 k false 0 ([]:List ak) ([]:List Int)).bind (fall fun pa=>cond (!pa.1) (an (cB (pa.2.2.2.1.length+([a1]:List ak).length) 112) (an (cB (pa.2.2.2.2.length+([(-1)]:List Int).length) 8) (some ((⟨pa.2.2.2.1++([a1]:List ak),pa.2.2.2.2++([(-1)]:List Int)⟩:lH),true,0)))) (some ((⟨pa.2.2.2.1,pa.2.2.2.2⟩:lH),true,0)))))
def ax.l0 (k:Nat) (a0:List ak) (a1:BA) (a2:ak→BA→Option Int):Nat→Int→Int→Option (Int×Int×Bool)
 | 0,_,_=>none
 | ja+1,xc,xd=>cond (decide (xc<xd)) (an (iB (av ((IntKind.u64.wrap (av (xc+xd))).fdiv 2)) a0.length) ((a2 (ak.K.at a0 (av ((IntKind.u64.wrap (av (xc+xd))).fdiv 2))) a1).bind fun ta=>cond (decide (ta<0)) (ax.l0 k a0 a1 a2 ja (av ((av ((IntKind.u64.wrap (av (xc+xd))).fdiv 2))+1)) xd) (ax.l0 k a0 a1 a2 ja xc (av ((IntKind.u64.wrap (av (xc+xd))).fdiv 2))))) (some (xc,xd,decide (xc<xd)))
def ax.f (k:Nat) (a0:List ak) (a1:BA) (a2:ak→BA→Option Int):Option (Int×Bool):=(ax.l0 k a0 a1 a2 k 0 (a0.length:Int)).bind fun pa=>cond (decide (pa.1<(a0.length:Int))) (an (iB pa.1 a0.length) ((a2 (ak.K.at a0 pa.1) a1).bind fun ta=>some (pa.1,(ta==0)))) (some (pa.1,false))
def dG.f (a0:ak) (a1:BA):Option (Int):=(aD.f a0.aj a1).bind fun ta=>some ta
def dD.f (k:Nat) (a0:cD) (a1:BA):Option (Int×Bool):=(ax.f k a0.fl a1 dG.f).bind fun ta=>some (ta.1,ta.2)
def dY.f (a0:ak) (a1:Int):Option (Int):=cond (a0.aQ==2) (cond (decide (a1<(av (a0.aU+30)))) (some 2) (cond (decide (a1<(av (a0.aU+90)))) (some 1) (some 0))) (cond (a0.aQ==1) (cond (decide (a1<(av (a0.aU+90)))) (some 1) (some 0)) (some 0))
def bI.l0 (k:Nat) (a0:ak) (a1:Int):Nat→Int→Option ((Int×Bool) ⊕ (Int×Bool))
 | 0,_=>none
 | ja+1,xc=>cond (decide (xc<2)) (an ((0:Int)≤xc∧xc<(2:Int)) (cond (decide (a1<(av (a0.aU+((bq .i64).at ([30,90]:List Int) xc))))) ((dY.f a0 (av ((av (a0.aU+((bq .i64).at ([30,90]:List Int) xc)))-1))).bind fun ta=>(dY.f a0 (av (a0.aU+((bq .i64).at ([30,90]:List Int) xc)))).bind fun tc=>cond (decide (tc<ta)) (some (.inr (av (a0.aU+((bq .i64).at ([30,90]:List Int) xc)),true))) (bI.l0 k a0 a1 ja (av (xc+1)))) (bI.l0 k a0 a1 ja (av (xc+1))))) (some (.inl (xc,decide (xc<2))))
def bI.f (k:Nat) (a0:ak) (a1:Int):Option (Int×Bool):=(bI.l0 k a0 a1 k 0).bind (fall fun pa=>some (0,false))
def eN.f (k:Nat) (a0:cD) (a1:ak):Option (Bool×Int×cD):=cond (a1.aI != 3) (some (false,1,a0)) ((mw.f k a1).bind fun ta=>cond (!ta) (some (false,1,a0)) ((dD.f k a0 a1.aj).bind fun tc=>(cond tc.2 (an (iB tc.1 a0.fl.length) ((j4.f k a1 (a0.fl.getD tc.1.toNat default)).bind fun te=>cond (!te) (some (.inr (false,0,a0))) (an (iB tc.1 a0.fl.length) (some (.inl (true,!te,true,(⟨a0.fl.set tc.1.toNat a1,a0.fh⟩:cD))))))) ((da.f a0.fl tc.1 ([a1]:List ak)).bind fun tg=>some (.inl (false,false,false,(⟨tg,a0.fh⟩:cD))))).bind (fall fun pa=>(dt.f k pa.2.2.2.fh a1.aj).bind fun tj=>(bI.f k a1 (-1)).bind fun tm=>cond tm.2 ((eW.f k tj.2 tm.1 a1.aj).bind fun tn=>some (true,0,(⟨pa.2.2.2.fl,tn⟩:cD))) (some (true,0,(⟨pa.2.2.2.fl,tj.2⟩:cD))))))
def jN.f (a0:BA):Option (BA):=an ((⟨#[112,32]⟩:BA).size+a0.size≤9223372036854775807) (some ((⟨#[112,32]⟩:BA)++a0))
def clock_Counter_Add.l0 (k:Nat) (a0:lz) (a1:Int):Nat→Option (Int×Int×lz)
 | 0=>none
 | ja+1=>cond (decide (0<a1)) (cond (a0.fn.fv==a0.eb) (some (0,11,a0)) ((cond (decide (a1<(av (a0.eb-a0.fn.fv)))) (some (av (a0.fn.fv+a1))) (some a0.eb)).bind fun pa=>cond (a1==0) (some (pa,0,a0)) (some (pa,0,(⟨(⟨pa⟩:Bx),a0.eb⟩:lz))))) ((cond (decide (a1<(av (a0.eb-a0.fn.fv)))) (some (av (a0.fn.fv+a1))) (some a0.eb)).bind fun pc=>cond (a1==0) (some (pc,0,a0)) (some (pc,0,(⟨(⟨pc⟩:Bx),a0.eb⟩:lz))))
def clock_Counter_Add.f (k:Nat) (a0:lz) (a1:Int):Option (Int×Int×lz):=cond (decide (a1<0)) (some (0,1,a0)) (clock_Counter_Add.l0 k a0 a1 k)
def fF.f (k:Nat) (a0:lz):Option (Int×Int×lz):=(clock_Counter_Add.f k a0 1).bind fun ta=>some (ta.1,ta.2.1,ta.2.2)
def bC.l0 (k:Nat) (a0:List BA) (a1:BA):Nat→Int→Option ((Int×Bool) ⊕ (Int))
 | 0,_=>none
 | ja+1,xc=>cond (decide (xc<(a0.length:Int))) (an (iB xc a0.length) (cond (decide (a1=(aw.at a0 xc))) (some (.inr xc)) (bC.l0 k a0 a1 ja (av (xc+1))))) (some (.inl (xc,decide (xc<(a0.length:Int)))))
def bC.f (k:Nat) (a0:List BA) (a1:BA):Option (Int):=(bC.l0 k a0 a1 k 0).bind (fall fun pa=>some (-1))
def dX.f (xs:List BA) (i j:Int):Option (List BA):=an ((0:Int)≤i∧i≤j∧j≤(xs.length:Int)) (some (xs.take i.toNat++xs.drop j.toNat))
def iC.f (k:Nat) (a0:cC) (a1:BA):Option (Int×Int×cC):=(fF.f k a0.iU).bind fun ta=>cond (ta.2.1 != 0) (some (0,ta.2.1,(⟨ta.2.2,a0.eU,a0.ou⟩:cC))) ((cond ((mget a0.ou a1).isSome) ((bC.f k a0.eU a1).bind fun tc=>(dX.f a0.eU tc (av (tc+1))).bind fun te=>some (⟨ta.2.2,te,a0.ou⟩:cC)) (some (⟨ta.2.2,a0.eU,a0.ou⟩:cC))).bind fun pa=>an (cB (pa.eU.length+([a1]:List BA).length) 16) (some (ta.1,0,(⟨pa.iU,pa.eU++([a1]:List BA),mput pa.ou a1 ta.1⟩:cC))))
def iL.f (a0:kb):Option (BA):=cond (a0.aI==1) ((cond a0.fK.aq (some (⟨#[32,49]⟩:BA)) (some (⟨#[32,48]⟩:BA))).bind fun pa=>an ((⟨#[109,32]⟩:BA).size+a0.fK.ab.size≤9223372036854775807) (an (((⟨#[109,32]⟩:BA)++a0.fK.ab).size+(⟨#[32]⟩:BA).size≤9223372036854775807) (an ((((⟨#[109,32]⟩:BA)++a0.fK.ab)++(⟨#[32]⟩:BA)).size+a0.fK.aj.size≤9223372036854775807) (an (((((⟨#[109,32]⟩:BA)++a0.fK.ab)++(⟨#[32]⟩:BA))++a0.fK.aj).size+(⟨#[32]⟩:BA).size≤9223372036854775807) (an ((((((⟨#[109,32]⟩:BA)++a0.fK.ab)++(⟨#[32]⟩:BA))++a0.fK.aj)++(⟨#[32]⟩:BA)).size+a0.fK.ae.size≤9223372036854775807) (an (((((((⟨#[109,32]⟩:BA)++a0.fK.ab)++(⟨#[32]⟩:BA))++a0.fK.aj)++(⟨#[32]⟩:BA))++a0.fK.ae).size+pa.size≤9223372036854775807) (some (((((((⟨#[109,32]⟩:BA)++a0.fK.ab)++(⟨#[32]⟩:BA))++a0.fK.aj)++(⟨#[32]⟩:BA))++a0.fK.ae)++pa)))))))) (cond (a0.aI==2) (an ((⟨#[116,32]⟩:BA).size+a0.mT.size≤9223372036854775807) (some ((⟨#[116,32]⟩:BA)++a0.mT))) (an ((⟨#[112,32]⟩:BA).size+a0.mT.size≤9223372036854775807) (some ((⟨#[112,32]⟩:BA)++a0.mT))))
def nm.f (k:Nat) (a0:Src) (a1:dU) (a2:ak):Option (dU×Bool×Src):=(cond (a2.aI==1) ((qH.f k (⟨a1.fM,(⟨8,([]:List ak),0⟩:nY)⟩:qG) a1.fV a2).bind fun ta=>(iF.f k a0.aJ a0.dB a2).bind fun tc=>cond (tc.1 != ta.2.1) (some (.inr ((⟨a1.fV,ta.1.fL,a1.fT,a1.fP,a1.fL,a1.aC⟩:dU),false,(⟨a0.dB,tc.2.2,a0.az,a0.bu,a0.jy⟩:Src)))) (cond (ta.2.2 != tc.2.1) (some (.inr ((⟨a1.fV,ta.1.fL,a1.fT,a1.fP,a1.fL,a1.aC⟩:dU),false,(⟨a0.dB,tc.2.2,a0.az,a0.bu,a0.jy⟩:Src)))) ((qw.f a2).bind fun te=>(iK.f te).bind fun tg=>some (.inl (tg,(⟨1,te,eE⟩:kb),(⟨a1.fV,ta.1.fL,a1.fT,a1.fP,a1.fL,a1.aC⟩:dU),tc.2.2,a0.az,a0.bu))))) (cond (a2.aI==2) ((cT.f k a1.fT a2).bind fun tj=>(fJ.f k a0.az a2).bind fun tm=>cond (tm.1 != tj.2.1) (some (.inr ((⟨a1.fV,a1.fM,tj.1,a1.fP,a1.fL,a1.aC⟩:dU),false,(⟨a0.dB,a0.aJ,tm.2.2,a0.bu,a0.jy⟩:Src)))) ((jF.f a2.ab).bind fun tn=>some (.inl (tn,(⟨2,(⟨eE,eE,eE,false⟩:bB),a2.ab⟩:kb),(⟨a1.fV,a1.fM,tj.1,a1.fP,a1.fL,a1.aC⟩:dU),a0.aJ,tm.2.2,a0.bu)))) ((di.f k a1.fP a2).bind fun tp=>(eN.f k a0.bu a2).bind fun tq=>cond (tq.1 != tp.2.1) (some (.inr ((⟨a1.fV,a1.fM,a1.fT,tp.1,a1.fL,a1.aC⟩:dU),false,(⟨a0.dB,a0.aJ,a0.az,tq.2.2,a0.jy⟩:Src)))) ((jN.f a2.aj).bind fun tu=>some (.inl (tu,(⟨3,(⟨eE,eE,eE,false⟩:bB),a2.aj⟩:kb),(⟨a1.fV,a1.fM,a1.fT,tp.1,a1.fL,a1.aC⟩:dU),a0.aJ,a0.az,tq.2.2)))))).bind (fall fun pa=>an (cB (([]:List kb).length+pa.2.2.1.fL.length) 80) (an (cB ((([]:List kb)++pa.2.2.1.fL).length+([(⟨pa.2.1.aI,pa.2.1.fK,pa.2.1.mT⟩:kb)]:List kb).length) 80) ((iC.f k a0.jy pa.1).bind fun tw=>cond (tw.2.1==0) ((iL.f (⟨pa.2.1.aI,pa.2.1.fK,pa.2.1.mT⟩:kb)).bind fun tx=>some ((⟨pa.2.2.1.fV,pa.2.2.1.fM,pa.2.2.1.fT,pa.2.2.1.fP,(([]:List kb)++pa.2.2.1.fL)++([(⟨pa.2.1.aI,pa.2.1.fK,pa.2.1.mT⟩:kb)]:List kb),pa.2.2.1.aC⟩:dU),decide (pa.1=tx),(⟨a0.dB,pa.2.2.2.1,pa.2.2.2.2.1,pa.2.2.2.2.2,tw.2.2⟩:Src))) (some ((⟨pa.2.2.1.fV,pa.2.2.1.fM,pa.2.2.1.fT,pa.2.2.1.fP,(([]:List kb)++pa.2.2.1.fL)++([(⟨pa.2.1.aI,pa.2.1.fK,pa.2.1.mT⟩:kb)]:List kb),pa.2.2.1.aC⟩:dU),false,(⟨a0.dB,pa.2.2.2.1,pa.2.2.2.2.1,pa.2.2.2.2.2,tw.2.2⟩:Src))))))
def gR.f (k:Nat) (a0:Int):Option (BA):=(aW.f a0 11).bind fun ta=>cond (ta==9) (some eE) (cond (ta==10) (some (⟨#[109,97,105,110]⟩:BA)) ((dm.f k ta).bind fun tc=>some tc))
def lO.f (k:Nat) (a0:ak):Option (ak):=(aW.f a0.aI 3).bind fun ta=>(im.f a0.aQ).bind fun tc=>(aW.f a0.aU 100).bind fun te=>(aW.f a0.aZ 9).bind fun tg=>cond ((av (1+ta))==1) ((en.f a0.bW).bind fun tj=>(aW.f a0.aU 9).bind fun tm=>(dm.f k (av ((a0.bH.size:Int)+tm))).bind fun tn=>(gR.f k (a0.ae.size:Int)).bind fun tp=>some (⟨av (1+ta),tj,tc,tn,tp,a0.aq,false,0,0,te,tg⟩:ak)) (cond ((av (1+ta))==2) ((en.f a0.bW).bind fun tq=>cond a0.kl ((aW.f a0.bW 60).bind fun tu=>some (⟨av (1+ta),tq,tc,eE,eE,false,a0.kl,av (1+tu),0,te,tg⟩:ak)) (some (⟨av (1+ta),tq,tc,eE,eE,false,a0.kl,0,0,te,tg⟩:ak))) ((aW.f a0.bW 3).bind fun tw=>some (⟨av (1+ta),eE,tc,eE,eE,false,false,0,tw,te,tg⟩:ak)))
def slices_DeleteFunc_string_xo.l0 (k:Nat) (a1:(BA→Option Bool)):Nat→Int→Int→List BA→Option (Int×Int×Bool×(List BA))
 | 0,_,_,_=>none
 | ja+1,xc,xd,xe=>cond (decide (xd<(xe.length:Int))) (an (iB xd xe.length) ((a1 (xe.getD xd.toNat default)).bind fun ta=>cond (!ta) (an (iB xc xe.length) (slices_DeleteFunc_string_xo.l0 k a1 ja (av (xc+1)) (av (xd+1)) (xe.set xc.toNat (xe.getD xd.toNat default)))) (slices_DeleteFunc_string_xo.l0 k a1 ja xc (av (xd+1)) xe))) (some (xc,xd,decide (xd<(xe.length:Int)),xe))
def slices_DeleteFunc_string_xo.f (k:Nat) (a0:List BA) (a1:(BA→Option Bool)):Option ((List BA)):=(aA.f k a0 a1).bind fun ta=>cond (ta==(-1)) (some a0) ((slices_DeleteFunc_string_xo.l0 k a1 k ta (av (ta+1)) a0).bind fun pa=>an ((0:Int)≤pa.1∧pa.1.toNat<pa.2.2.2.length) (an ((0:Int)≤pa.1∧0≤pa.1.toNat∧pa.1.toNat≤(pa.2.2.2.take pa.1.toNat++List.replicate (pa.2.2.2.length-pa.1.toNat) eE).length) (some (((pa.2.2.2.take pa.1.toNat++List.replicate (pa.2.2.2.length-pa.1.toNat) eE).take pa.1.toNat).drop 0))))
def eM.f (k:Nat) (a0:bX) (a1:BA) (a2:BA) (a3:Int):Option (Bool):=(dW.f k a0 (⟨0,a1,a2,eE,eE,false,false,0,0,0,0⟩:ak)).bind fun ta=>cond ta.2 (an (iB ta.1 a0.fl.length) (cond ((a0.fl.getD ta.1.toNat default).kl) (an (iB ta.1 a0.fl.length) ((jB.f (a0.fl.getD ta.1.toNat default)).bind fun tc=>some (decide (a3<tc)))) (some false))) (some false)
def aT.l0 (k:Nat) (a0:bX) (a1:BA) (a2:Int):Nat→Int→List BA→Option (Int×Bool×(List BA))
 | 0,_,_=>none
 | ja+1,xc,xd=>cond (decide (xc<(a0.fl.length:Int))) (an (iB xc a0.fl.length) (cond (decide (((a0.fl.getD xc.toNat default).ab)=a1)) ((eM.f k a0 a1 ((a0.fl.getD xc.toNat default).aj) a2).bind fun ta=>cond ta (an (cB (xd.length+([(a0.fl.getD xc.toNat default).aj]:List BA).length) 16) (aT.l0 k a0 a1 a2 ja (av (xc+1)) (xd++([(a0.fl.getD xc.toNat default).aj]:List BA)))) (aT.l0 k a0 a1 a2 ja (av (xc+1)) xd)) (aT.l0 k a0 a1 a2 ja (av (xc+1)) xd))) (some (xc,decide (xc<(a0.fl.length:Int)),xd))
def aT.f (k:Nat) (a0:bX) (a1:BA) (a2:Int):Option ((List BA)):=(aT.l0 k a0 a1 a2 k 0 ([]:List BA)).bind fun pa=>some pa.2.2
def gY (x y:Pos):Int:=if x.br<y.br then -1 else if y.br<x.br then 1 else kc x.bQ y.bQ
def dN.f (xs:List Pos):Option (List Pos):=an (xs.length≤1000000) (some (lv gY xs))
def ot.f (a0:aX):Option (Bool):=some true
def aH.g (e:BA×aX):Option Pos:=cond true (some ⟨e.2.cI,e.1⟩) none
def aH.f (a0:bn):Option (List BA):=an (a0.ao.length≤1000000) (some ((lv gY (a0.ao.filterMap aH.g)).map (·.bQ)))
def dag_Dag_All.l0 (k:Nat) (a0:bn) (ta:List BA):Nat→Int→List Event→Option (Int×Int×Bool×(List Event)×(List BA))
 | 0,_,_=>none
 | ja+1,xc,xd=>cond (decide (xc<(ta.length:Int))) (an (iB xc ta.length) (an ((mget a0.ao (ta.getD xc.toNat default)).isSome=true) ((iG.f (((mget a0.ao (ta.getD xc.toNat default)).getD default).fe)).bind fun tc=>an (cB (xd.length+([tc]:List Event).length) 96) (dag_Dag_All.l0 k a0 ta ja (av (xc+1)) (xd++([tc]:List Event)))))) (some ((ta.length:Int),xc,decide (xc<(ta.length:Int)),xd,ta))
def dag_Dag_All.f (k:Nat) (a0:bn):Option ((List Event)):=((aH.f a0).bind fun ta=>dag_Dag_All.l0 k a0 ta k 0 ([]:List Event)).bind fun pa=>some pa.2.2.2.1
def member_joined.l0 (k:Nat) (ta:(List Event)):Nat→Int→(List (BA×Int))→Option (Int×Int×Bool×(List (BA×Int))×(List Event))
 | 0,_,_=>none
 | ja+1,xc,xd=>cond (decide (xc<(ta.length:Int))) (an (iB xc ta.length) (cond (((ta.getD xc.toNat default).bO)==1) (member_joined.l0 k ta ja (av (xc+1)) (mput xd ((ta.getD xc.toNat default).aj) 1)) (cond (((ta.getD xc.toNat default).bO)==2) (member_joined.l0 k ta ja (av (xc+1)) (l6 xd ((ta.getD xc.toNat default).aj))) (member_joined.l0 k ta ja (av (xc+1)) xd)))) (some ((ta.length:Int),xc,decide (xc<(ta.length:Int)),xd,ta))
def member_joined.f (k:Nat) (a0:bn):Option ((List (BA×Int))):=((dag_Dag_All.f k a0).bind fun ta=>member_joined.l0 k ta k 0 ([]:List (BA×Int))).bind fun pa=>some pa.2.2.2.1
def j5.f (k:Nat) (a0:bn) (a1:BA):Option (Bool):=(member_joined.f k a0).bind fun ta=>some (decide (0<((mget ta a1).getD 0)))
def bN.f (k:Nat) (a0:aN) (a1:BA) (a2:BA):Option (Bool):=(aO.f a0 a1).bind fun ta=>(j5.f k ta a2).bind fun tc=>some tc
def iI.f (k:Nat) (a0:BA) (c0:Src) (c1:BA):Option (Bool):=(bN.f k c0.dB c1 a0).bind fun ta=>some (!ta)
def jP.f (k:Nat) (a0:Src) (a1:BA) (a2:Int):Option ((List BA)):=(aT.f k a0.az a1 a2).bind fun ta=>(slices_DeleteFunc_string_xo.f k ta (fun a0_=>iI.f k a0_ a0 a1)).bind fun tc=>some tc
def gW.f (a0:lz):Option (Int):=some a0.fn.fv
def fQ.f (a0:cC):Option (Int):=(gW.f a0.iU).bind fun ta=>some ta
def b8.l0 (k:Nat) (a0:cC) (a1:Int):Nat→Int→Option (Int×Bool)
 | 0,_=>none
 | ja+1,xc=>cond (decide (0<xc)) (an (iB (av (xc-1)) a0.eU.length) (cond (decide (a1<((mget a0.ou (a0.eU.getD ((av (xc-1)).toNat) default)).getD 0))) (b8.l0 k a0 a1 ja (av (xc-1))) (some (xc,decide (a1<((mget a0.ou (a0.eU.getD ((av (xc-1)).toNat) default)).getD 0)))))) (some (xc,false))
def b8.f (k:Nat) (a0:cC) (a1:Int):Option ((List BA)):=(b8.l0 k a0 a1 k (a0.eU.length:Int)).bind fun pa=>an ((0:Int)≤(av ((a0.eU.length:Int)-pa.1))∧(av ((a0.eU.length:Int)-pa.1))≤(9223372036854775807:Int)∧(av ((a0.eU.length:Int)-pa.1)).toNat*16≤140737488355328) (an ((0:Int)≤pa.1∧pa.1.toNat≤a0.eU.length) (some ((a0.eU.drop pa.1.toNat).take (List.replicate (av ((a0.eU.length:Int)-pa.1)).toNat (eE:BA)).length++(List.replicate (av ((a0.eU.length:Int)-pa.1)).toNat (eE:BA)).drop (a0.eU.length-pa.1.toNat))))
def gT.f (a0:BA) (a1:BA):Option (Int):=(eH.f a0 a1).bind fun ta=>some ta
def strings_Count.l0 (k:Nat) (a1:BA):Nat→BA→Int→Option (Int)
 | 0,_,_=>none
 | ja+1,xc,xd=>(gT.f xc a1).bind fun ta=>cond (ta==(-1)) (some xd) (an ((0:Int)≤(av (ta+(a1.size:Int)))∧(av (ta+(a1.size:Int))).toNat≤xc.size∧xc.size≤xc.size) (strings_Count.l0 k a1 ja (xc.extract (av (ta+(a1.size:Int))).toNat xc.size) (av (xd+1))))
def strings_Count.f (k:Nat) (a0:BA) (a1:BA):Option (Int):=cond ((a1.size:Int)==0) (none) (cond ((a1.size:Int)==1) (an (iB 0 a1.size) (some (DX a0 (bt a1 0)))) (strings_Count.l0 k a1 k a0 0))
def strings_genSplit.l0 (k:Nat) (a0:BA) (a1:BA) (a2:Int) (pa:Int):Nat→BA→Int→List BA→Option (BA×Int×Bool×(List BA))
 | 0,_,_,_=>none
 | ja+1,xc,xd,xe=>cond (decide (xd<(av ((min pa (av ((a0.size:Int)+1)))-1)))) ((gT.f xc a1).bind fun ta=>cond (decide (ta<0)) (some (xc,xd,decide (xd<(av ((min pa (av ((a0.size:Int)+1)))-1))),xe)) (an ((0:Int)≤(av (ta+a2))∧0≤(av (ta+a2)).toNat∧(av (ta+a2)).toNat≤xc.size) (an (iB xd xe.length) (an ((0:Int)≤(av (ta+(a1.size:Int)))∧(av (ta+(a1.size:Int))).toNat≤xc.size∧xc.size≤xc.size) (strings_genSplit.l0 k a0 a1 a2 pa ja (xc.extract (av (ta+(a1.size:Int))).toNat xc.size) (av (xd+1)) (xe.set xd.toNat (xc.extract 0 ((av (ta+a2)).toNat)))))))) (some (xc,xd,decide (xd<(av ((min pa (av ((a0.size:Int)+1)))-1))),xe))
def strings_genSplit.f (k:Nat) (a0:BA) (a1:BA) (a2:Int) (a3:Int):Option ((List BA)):=cond (a3==0) (some ([]:List BA)) (cond (decide (a1=eE)) (none) ((cond (decide (a3<0)) ((strings_Count.f k a0 a1).bind fun ta=>some (av (ta+1))) (some a3)).bind fun pa=>an ((0:Int)≤(min pa (av ((a0.size:Int)+1)))∧(min pa (av ((a0.size:Int)+1)))≤(9223372036854775807:Int)∧(min pa (av ((a0.size:Int)+1))).toNat*16≤140737488355328) ((strings_genSplit.l0 k a0 a1 a2 pa k a0 0 (List.replicate (min pa (av ((a0.size:Int)+1))).toNat (eE:BA))).bind fun pc=>an (iB pc.2.1 pc.2.2.2.length) (an ((0:Int)≤(av (pc.2.1+1))∧0≤(av (pc.2.1+1)).toNat∧(av (pc.2.1+1)).toNat≤(pc.2.2.2.set pc.2.1.toNat pc.1).length) (some (((pc.2.2.2.set pc.2.1.toNat pc.1).take ((av (pc.2.1+1)).toNat)).drop 0))))))
def lf.f (k:Nat) (a0:BA) (a1:BA):Option ((List BA)):=(strings_genSplit.f k a0 a1 0 (-1)).bind fun ta=>some ta
def nj.f (k:Nat) (a0:BA):Option (jW):=(lf.f k a0 (⟨#[32]⟩:BA)).bind fun ta=>cond ((ta.length:Int)==5) (an (iB 0 ta.length) (cond (decide ((ta.getD ((0:Int).toNat) default)=(⟨#[109]⟩:BA))) (an (iB 4 ta.length) (cond (decide ((ta.getD ((4:Int).toNat) default)=(⟨#[48]⟩:BA))) (an (iB 1 ta.length) (an (iB 2 ta.length) (an (iB 3 ta.length) (an (iB 4 ta.length) (some (jW.d89 (⟨ta.getD ((1:Int).toNat) default,ta.getD ((2:Int).toNat) default,ta.getD ((3:Int).toNat) default,decide ((ta.getD ((4:Int).toNat) default)=(⟨#[49]⟩:BA))⟩:bB))))))) (an (iB 4 ta.length) (cond (decide ((ta.getD ((4:Int).toNat) default)=(⟨#[49]⟩:BA))) (an (iB 1 ta.length) (an (iB 2 ta.length) (an (iB 3 ta.length) (an (iB 4 ta.length) (some (jW.d89 (⟨ta.getD ((1:Int).toNat) default,ta.getD ((2:Int).toNat) default,ta.getD ((3:Int).toNat) default,decide ((ta.getD ((4:Int).toNat) default)=(⟨#[49]⟩:BA))⟩:bB))))))) (cond ((ta.length:Int)==2) (an (iB 0 ta.length) (cond (decide ((ta.getD ((0:Int).toNat) default)=(⟨#[116]⟩:BA))) (an (iB 1 ta.length) (some (jW.d141 (ta.getD ((1:Int).toNat) default)))) (cond ((ta.length:Int)==2) (an (iB 0 ta.length) (cond (decide ((ta.getD ((0:Int).toNat) default)=(⟨#[112]⟩:BA))) (an (iB 1 ta.length) (some (jW.d143 (ta.getD ((1:Int).toNat) default)))) (some jW.nil))) (some jW.nil)))) (cond ((ta.length:Int)==2) (an (iB 0 ta.length) (cond (decide ((ta.getD ((0:Int).toNat) default)=(⟨#[112]⟩:BA))) (an (iB 1 ta.length) (some (jW.d143 (ta.getD ((1:Int).toNat) default)))) (some jW.nil))) (some jW.nil))))))) (cond ((ta.length:Int)==2) (an (iB 0 ta.length) (cond (decide ((ta.getD ((0:Int).toNat) default)=(⟨#[116]⟩:BA))) (an (iB 1 ta.length) (some (jW.d141 (ta.getD ((1:Int).toNat) default)))) (cond ((ta.length:Int)==2) (an (iB 0 ta.length) (cond (decide ((ta.getD ((0:Int).toNat) default)=(⟨#[112]⟩:BA))) (an (iB 1 ta.length) (some (jW.d143 (ta.getD ((1:Int).toNat) default)))) (some jW.nil))) (some jW.nil)))) (cond ((ta.length:Int)==2) (an (iB 0 ta.length) (cond (decide ((ta.getD ((0:Int).toNat) default)=(⟨#[112]⟩:BA))) (an (iB 1 ta.length) (some (jW.d143 (ta.getD ((1:Int).toNat) default)))) (some jW.nil))) (some jW.nil))))) (cond ((ta.length:Int)==2) (an (iB 0 ta.length) (cond (decide ((ta.getD ((0:Int).toNat) default)=(⟨#[116]⟩:BA))) (an (iB 1 ta.length) (some (jW.d141 (ta.getD ((1:Int).toNat) default)))) (cond ((ta.length:Int)==2) (an (iB 0 ta.length) (cond (decide ((ta.getD ((0:Int).toNat) default)=(⟨#[112]⟩:BA))) (an (iB 1 ta.length) (some (jW.d143 (ta.getD ((1:Int).toNat) default)))) (some jW.nil))) (some jW.nil)))) (cond ((ta.length:Int)==2) (an (iB 0 ta.length) (cond (decide ((ta.getD ((0:Int).toNat) default)=(⟨#[112]⟩:BA))) (an (iB 1 ta.length) (some (jW.d143 (ta.getD ((1:Int).toNat) default)))) (some jW.nil))) (some jW.nil)))
def fZ.f (a0:j8) (a1:bB):Option (Pos×Bool):=some ((mget a0.iU a1).getD (⟨0,eE⟩:Pos),(mget a0.iU a1).isSome)
def gV.f (k:Nat) (a0:Src) (a1:bB) (a2:BA):Option (jg×Bool):=(fZ.f a0.aJ.qt a1).bind fun ta=>cond ta.2 ((bN.f k a0.dB a1.ab a2).bind fun tc=>cond tc (cond (!a1.aq) (some ((⟨a1,ta.1⟩:jg),true)) (some ((⟨a1,ta.1⟩:jg),decide (a1.aj=a2)))) (some ((⟨a1,ta.1⟩:jg),false))) (some ((⟨a1,ta.1⟩:jg),false))
def slices_Sort_string.f (xs:List BA):Option (List BA):=an (xs.length<4611686018427387904) (some (oZ xs))
def gH.f (a0:aN):Option (List BA):=an (a0.bx.length≤1000000) (some (oZ (a0.bx.map (·.1))))
def dR.f (k:Nat) (a0:BA) (c0:aN) (c1:BA):Option (Bool):=(bN.f k c0 a0 c1).bind fun ta=>some (!ta)
def gA.f (k:Nat) (a0:aN) (a1:BA):Option ((List BA)):=(gH.f a0).bind fun ta=>(slices_DeleteFunc_string_xo.f k ta (fun a0_=>dR.f k a0_ a0 a1)).bind fun tc=>some tc
def dO.f (k:Nat) (a0:BA) (c0:aN) (c1:BA):Option (Bool):=(bN.f k c0 a0 c1).bind fun ta=>some ta
def ff.f (k:Nat) (a0:aN) (a1:BA) (a2:BA):Option (Bool):=(gA.f k a0 a1).bind fun ta=>(cN.f k ta (fun a0_=>dO.f k a0_ a0 a2)).bind fun tc=>some tc
def bS.f (k:Nat) (a0:cD) (a1:BA) (a2:Int):Option (Int):=(dD.f k a0 a1).bind fun ta=>cond (!ta.2) (some 0) (an (iB ta.1 a0.fl.length) ((dY.f (a0.fl.getD ta.1.toNat default) a2).bind fun tc=>some tc))
def ie.f (a0:Bool):Option (Int):=cond a0 (some 1) (some 0)
def iA.f (k:Nat) (a0:bB) (a1:bB):Option (Int):=(aD.f a0.ab a1.ab).bind fun ta=>(aD.f a0.aj a1.aj).bind fun tc=>(aD.f a0.ae a1.ae).bind fun te=>(ie.f a0.aq).bind fun tg=>(ie.f a1.aq).bind fun tj=>(b7.f tg tj).bind fun tm=>(bE.f k ([ta,tc,te,tm]:List Int)).bind fun tn=>some tn
def mK.f (k:Nat) (a0:jg) (a1:jg):Option (Int):=(iA.f k a0.dw a1.dw).bind fun ta=>some ta
def mQ (x y:bB):Int:=EI (kc x.ab y.ab) (EI (kc x.aj y.aj) (EI (kc x.ae y.ae) (nr (if x.aq then 1 else 0) (if y.aq then 1 else 0))))
def aV.cf (x y:jg):Int:=mQ x.dw y.dw
def aV.f (xs:List jg):Option (List jg):=an (xs.length≤1000000∧xs.Pairwise fun x y=>ltOf aV.cf x y=true∨ltOf aV.cf y x=true) (some (lv aV.cf xs))
def mP.f (a0:fE) (a1:fE):Option (Int):=(aD.f a0.ab a1.ab).bind fun ta=>some ta
def aK.cf (x y:fE):Int:=kc x.ab y.ab
def aK.f (xs:List fE):Option (List fE):=an (xs.length≤1000000∧xs.Pairwise fun x y=>ltOf aK.cf x y=true∨ltOf aK.cf y x=true) (some (lv aK.cf xs))
def mS.f (a0:fm) (a1:fm):Option (Int):=(aD.f a0.aj a1.aj).bind fun ta=>some ta
def aL.cf (x y:fm):Int:=kc x.aj y.aj
def aL.f (xs:List fm):Option (List fm):=an (xs.length≤1000000∧xs.Pairwise fun x y=>ltOf aL.cf x y=true∨ltOf aL.cf y x=true) (some (lv aL.cf xs))
def sync_Make.l0 (k:Nat) (a0:Src) (a1:BA) (a3:Int) (ta:(List BA)):Nat→Int→List jg→List fE→List fm→Option (Int×Int×Bool×(List BA)×(List jg)×(List fE)×(List fm))
 | 0,_,_,_,_=>none
 | ja+1,xc,xd,xe,xf=>cond (decide (xc<(ta.length:Int))) (an (iB xc ta.length) ((nj.f k (ta.getD xc.toNat default)).bind fun tc=>(cond ((jW.g89 tc).isSome) ((gV.f k a0 ((jW.g89 tc).getD (⟨eE,eE,eE,false⟩:bB)) a1).bind fun te=>cond te.2 (an (cB (xd.length+([(⟨te.1.dw,te.1.hM⟩:jg)]:List jg).length) 80) (some (xd++([(⟨te.1.dw,te.1.hM⟩:jg)]:List jg),xe))) (some (xd,xe))) (cond ((jW.sX tc).isSome) ((bN.f k a0.dB ((jW.sX tc).getD eE) a1).bind fun tg=>cond tg ((jP.f k a0 ((jW.sX tc).getD eE) a3).bind fun tj=>an (cB (xe.length+([(⟨(jW.sX tc).getD eE,tj⟩:fE)]:List fE).length) 40) (some (xd,xe++([(⟨(jW.sX tc).getD eE,tj⟩:fE)]:List fE)))) (some (xd,xe))) (some (xd,xe)))).bind fun pa=>cond ((jW.sU tc).isSome) ((ff.f k a0.dB a1 ((jW.sU tc).getD eE)).bind fun tm=>cond tm ((bS.f k a0.bu ((jW.sU tc).getD eE) a3).bind fun tn=>an (cB (xf.length+([(⟨(jW.sU tc).getD eE,tn⟩:fm)]:List fm).length) 24) (sync_Make.l0 k a0 a1 a3 ta ja (av (xc+1)) pa.1 pa.2 (xf++([(⟨(jW.sU tc).getD eE,tn⟩:fm)]:List fm)))) (sync_Make.l0 k a0 a1 a3 ta ja (av (xc+1)) pa.1 pa.2 xf)) (sync_Make.l0 k a0 a1 a3 ta ja (av (xc+1)) pa.1 pa.2 xf))) (some ((ta.length:Int),xc,decide (xc<(ta.length:Int)),ta,xd,xe,xf))
def sync_Make.f (k:Nat) (a0:Src) (a1:BA) (a2:Int) (a3:Int):Option (wx×Int):=cond (decide (a2<0)) (some ((⟨0,([]:List jg),([]:List fE),([]:List fm)⟩:wx),10)) ((fQ.f a0.jy).bind fun ta=>cond (decide (ta<a2)) (some ((⟨0,([]:List jg),([]:List fE),([]:List fm)⟩:wx),10)) ((fQ.f a0.jy).bind fun tc=>((b8.f k a0.jy a2).bind fun te=>sync_Make.l0 k a0 a1 a3 te k 0 ([]:List jg) ([]:List fE) ([]:List fm)).bind fun pa=>(aV.f pa.2.2.2.2.1).bind fun tg=>(aK.f pa.2.2.2.2.2.1).bind fun tj=>(aL.f pa.2.2.2.2.2.2).bind fun tm=>some ((⟨tc,tg,tj,tm⟩:wx),0)))
def cK.l0 (k:Nat) (a0:aM) (a1:BA):Nat→Int→Int→Option (Int×Int×Bool)
 | 0,_,_=>none
 | ja+1,xc,xd=>cond (decide (xd<(a0.fL.length:Int))) (an (iB xd a0.fL.length) (cond (!decide (((Event.K.at a0.fL xd).aj)=a1)) (cK.l0 k a0 a1 ja xc (av (xd+1))) (an (iB xd a0.fL.length) (cond (((Event.K.at a0.fL xd).bO)==0) (cK.l0 k a0 a1 ja xc (av (xd+1))) (cond (decide (xc<0)) (cK.l0 k a0 a1 ja xd (av (xd+1))) (an (iB xc a0.fL.length) ((dI.f k a0 ((Event.K.at a0.fL xc).bQ)).bind fun ta=>an (iB xd a0.fL.length) ((dI.f k a0 ((Event.K.at a0.fL xd).bQ)).bind fun tc=>(iV.f ta tc).bind fun te=>cond te (cK.l0 k a0 a1 ja xd (av (xd+1))) (cK.l0 k a0 a1 ja xc (av (xd+1))))))))))) (some (xc,xd,decide (xd<(a0.fL.length:Int))))
def cK.f (k:Nat) (a0:aM) (a1:BA):Option (Event×Bool):=(cK.l0 k a0 a1 k (-1) 0).bind fun pa=>cond (decide (pa.1<0)) (some ((⟨eE,eE,([]:List BA),eE,eE,0⟩:Event),false)) (an (iB pa.1 a0.fL.length) (some (Event.K.at a0.fL pa.1,true)))
def jE.f (k:Nat) (a0:aM) (a1:BA):Option (Bool):=(cK.f k a0 a1).bind fun ta=>cond ta.2 (some (ta.1.bO==1)) (some false)
def eB.f (k:Nat) (a0:bA) (a1:BA) (a2:BA):Option (Bool):=(iz.f k a0 a1).bind fun ta=>(jE.f k ta a2).bind fun tc=>some tc
def cO.l0 (k:Nat) (a0:kH) (a1:BA) (a2:BA) (a3:Int):Nat→Int→Option ((Int×Bool) ⊕ (Bool))
 | 0,_=>none
 | ja+1,xc=>cond (decide (xc<(a0.fL.length:Int))) (an (iB xc a0.fL.length) (cond (decide (((ak.K.at a0.fL xc).ab)=a1)) (an (iB xc a0.fL.length) (cond (decide (((ak.K.at a0.fL xc).aj)=a2)) (an (iB xc a0.fL.length) (cond ((ak.K.at a0.fL xc).kl) (an (iB xc a0.fL.length) (an (iB xc a0.fL.length) (some (.inr (decide (a3<(av (((ak.K.at a0.fL xc).aU)+((ak.K.at a0.fL xc).bW))))))))) (some (.inr false)))) (cO.l0 k a0 a1 a2 a3 ja (av (xc+1))))) (cO.l0 k a0 a1 a2 a3 ja (av (xc+1))))) (some (.inl (xc,decide (xc<(a0.fL.length:Int)))))
def cO.f (k:Nat) (a0:kH) (a1:BA) (a2:BA) (a3:Int):Option (Bool):=(cO.l0 k a0 a1 a2 a3 k 0).bind (fall fun pa=>some false)
def dx.l0 (k:Nat) (a0:kH) (a1:BA) (a2:Int):Nat→Int→List BA→Option (Int×Bool×(List BA))
 | 0,_,_=>none
 | ja+1,xc,xd=>cond (decide (xc<(a0.fL.length:Int))) (an (iB xc a0.fL.length) ((cO.f k a0 a1 ((ak.K.at a0.fL xc).aj) a2).bind fun ta=>an (iB xc a0.fL.length) (cond (decide (((ak.K.at a0.fL xc).ab)=a1)) (cond ta (an (iB xc a0.fL.length) (an (cB (xd.length+([(ak.K.at a0.fL xc).aj]:List BA).length) 16) (dx.l0 k a0 a1 a2 ja (av (xc+1)) (xd++([(ak.K.at a0.fL xc).aj]:List BA))))) (dx.l0 k a0 a1 a2 ja (av (xc+1)) xd)) (dx.l0 k a0 a1 a2 ja (av (xc+1)) xd)))) (some (xc,decide (xc<(a0.fL.length:Int)),xd))
def dx.f (k:Nat) (a0:kH) (a1:BA) (a2:Int):Option ((List BA)):=(dx.l0 k a0 a1 a2 k 0 ([]:List BA)).bind fun pa=>some pa.2.2
def eI.l0 (k:Nat) (a0:dU) (a1:BA) (ta:(List BA)):Nat→Int→List BA→Option (Int×Bool×(List BA))
 | 0,_,_=>none
 | ja+1,xc,xd=>cond (decide (xc<(ta.length:Int))) (an (iB xc ta.length) ((eB.f k a0.fV a1 (ta.getD xc.toNat default)).bind fun tc=>cond tc (an (iB xc ta.length) (an (cB (xd.length+([ta.getD xc.toNat default]:List BA).length) 16) (eI.l0 k a0 a1 ta ja (av (xc+1)) (xd++([ta.getD xc.toNat default]:List BA))))) (eI.l0 k a0 a1 ta ja (av (xc+1)) xd))) (some (xc,decide (xc<(ta.length:Int)),xd))
def eI.f (k:Nat) (a0:dU) (a1:BA) (a2:Int):Option ((List BA)):=(dx.f k a0.fT a1 a2).bind fun ta=>(eI.l0 k a0 a1 ta k 0 ([]:List BA)).bind fun pa=>some pa.2.2
def dZ.l0 (k:Nat) (a0:bA) (a1:BA):Nat→Int→List BA→Option (Int×Bool×(List BA))
 | 0,_,_=>none
 | ja+1,xc,xd=>cond (decide (xc<(a0.fD.length:Int))) (an (iB xc a0.fD.length) ((jE.f k (aM.K.at a0.fD xc) a1).bind fun ta=>cond ta (an (iB xc a0.fD.length) (an (cB (xd.length+([(aM.K.at a0.fD xc).ab]:List BA).length) 16) (dZ.l0 k a0 a1 ja (av (xc+1)) (xd++([(aM.K.at a0.fD xc).ab]:List BA))))) (dZ.l0 k a0 a1 ja (av (xc+1)) xd))) (some (xc,decide (xc<(a0.fD.length:Int)),xd))
def dZ.f (k:Nat) (a0:bA) (a1:BA):Option ((List BA)):=(dZ.l0 k a0 a1 k 0 ([]:List BA)).bind fun pa=>some pa.2.2
def dQ.l0 (k:Nat) (a0:bA) (a2:BA) (ta:(List BA)):Nat→Int→Option ((Int×Bool) ⊕ (Bool))
 | 0,_=>none
 | ja+1,xc=>cond (decide (xc<(ta.length:Int))) (an (iB xc ta.length) ((eB.f k a0 (ta.getD xc.toNat default) a2).bind fun tc=>cond tc (some (.inr true)) (dQ.l0 k a0 a2 ta ja (av (xc+1))))) (some (.inl (xc,decide (xc<(ta.length:Int)))))
def dQ.f (k:Nat) (a0:bA) (a1:BA) (a2:BA):Option (Bool):=(dZ.f k a0 a1).bind fun ta=>(dQ.l0 k a0 a2 ta k 0).bind (fall fun pa=>some false)
def ki.l0 (k:Nat) (a0:List BA) (a1:Int) (a2:BA):Nat→Int→Option ((Int×Bool) ⊕ (Int))
 | 0,_=>none
 | ja+1,xc=>cond (decide (0≤xc)) (an (iB xc a0.length) (cond (decide ((aw.at a0 xc)=a2)) (some (.inr (av ((av (a1+1))+xc)))) (ki.l0 k a0 a1 a2 ja (av (xc-1))))) (some (.inl (xc,decide (0≤xc))))
def ki.f (k:Nat) (a0:List BA) (a1:Int) (a2:BA):Option (Int):=(ki.l0 k a0 a1 a2 k (av ((a0.length:Int)-1))).bind (fall fun pa=>some 0)
def iR.l0 (k:Nat) (a0:List kb):Nat→Int→List BA→Option (Int×Bool×(List BA))
 | 0,_,_=>none
 | ja+1,xc,xd=>cond (decide (xc<(a0.length:Int))) (an (iB xc a0.length) ((iL.f (⟨(kb.K.at a0 xc).aI,(kb.K.at a0 xc).fK,(kb.K.at a0 xc).mT⟩:kb)).bind fun ta=>an (cB (xd.length+([ta]:List BA).length) 16) (iR.l0 k a0 ja (av (xc+1)) (xd++([ta]:List BA))))) (some (xc,decide (xc<(a0.length:Int)),xd))
def iR.f (k:Nat) (a0:List kb):Option ((List BA)):=(iR.l0 k a0 k 0 ([]:List BA)).bind fun pa=>some pa.2.2
def fS.f (k:Nat) (a0:dU) (a1:Int) (a2:BA):Option (Bool):=(iR.f k a0.fL).bind fun ta=>(ki.f k ta a0.aC a2).bind fun tc=>some (decide (a1<tc))
def gQ.l0 (k:Nat) (a0:List BA) (a1:BA):Nat→Bool→Int→List BA→Option (Bool×Int×Bool×(List BA))
 | 0,_,_,_=>none
 | ja+1,xc,xd,xe=>cond (decide (xd<(a0.length:Int))) ((cond (!xc) (an (iB xd a0.length) (cond (!dK (aw.at a0 xd) a1) (an (cB (xe.length+([a1]:List BA).length) 16) (some (true,!dK (aw.at a0 xd) a1,xe++([a1]:List BA)))) (some (xc,!dK (aw.at a0 xd) a1,xe)))) (some (xc,false,xe))).bind fun pa=>an (iB xd a0.length) (cond (!decide ((aw.at a0 xd)=a1)) (an (iB xd a0.length) (an (cB (pa.2.2.length+([aw.at a0 xd]:List BA).length) 16) (gQ.l0 k a0 a1 ja pa.1 (av (xd+1)) (pa.2.2++([aw.at a0 xd]:List BA))))) (gQ.l0 k a0 a1 ja pa.1 (av (xd+1)) pa.2.2))) (some (xc,xd,decide (xd<(a0.length:Int)),xe))
def gQ.f (k:Nat) (a0:List BA) (a1:BA):Option ((List BA)):=(gQ.l0 k a0 a1 k false 0 ([]:List BA)).bind fun pa=>cond (!pa.1) (an (cB (pa.2.2.2.length+([a1]:List BA).length) 16) (some (pa.2.2.2++([a1]:List BA)))) (some pa.2.2.2)
def sL.f (a0:ak) (a1:Int):Option (Int):=cond (a0.aQ==2) (cond (decide (a1<(av (a0.aU+30)))) (some 2) (cond (decide (0<a0.aQ)) (cond (decide (a1<(av (a0.aU+90)))) (some 1) (some 0)) (some 0))) (cond (decide (0<a0.aQ)) (cond (decide (a1<(av (a0.aU+90)))) (some 1) (some 0)) (some 0))
def du.l0 (k:Nat) (a0:lH) (a1:BA) (a2:Int):Nat→Int→Option ((Int×Bool) ⊕ (Int))
 | 0,_=>none
 | ja+1,xc=>cond (decide (xc<(a0.fL.length:Int))) (an (iB xc a0.fL.length) (cond (decide (((ak.K.at a0.fL xc).aj)=a1)) (an (iB xc a0.fL.length) ((sL.f (ak.K.at a0.fL xc) a2).bind fun ta=>some (.inr ta))) (du.l0 k a0 a1 a2 ja (av (xc+1))))) (some (.inl (xc,decide (xc<(a0.fL.length:Int)))))
def du.f (k:Nat) (a0:lH) (a1:BA) (a2:Int):Option (Int):=(du.l0 k a0 a1 a2 k 0).bind (fall fun pa=>some 0)
def bf.l0 (k:Nat) (a0:dU) (a1:BA) (a2:Int) (a3:Int) (pa:Int×Bool×(List BA)×(List BA)):Nat→Int→List fm→Option (Int×Bool×(List fm))
 | 0,_,_=>none
 | ja+1,xc,xd=>cond (decide (xc<(pa.2.2.2.length:Int))) (an (iB xc pa.2.2.2.length) ((iL.f (⟨3,(⟨eE,eE,eE,false⟩:bB),pa.2.2.2.getD xc.toNat default⟩:kb)).bind fun ta=>(fS.f k (⟨a0.fV,a0.fM,a0.fT,a0.fP,a0.fL,a0.aC⟩:dU) a2 ta).bind fun tc=>an (iB xc pa.2.2.2.length) ((dQ.f k a0.fV a1 (pa.2.2.2.getD xc.toNat default)).bind fun te=>cond tc (cond te (an (iB xc pa.2.2.2.length) (an (iB xc pa.2.2.2.length) ((du.f k a0.fP (pa.2.2.2.getD xc.toNat default) a3).bind fun tg=>an (cB (xd.length+([(⟨pa.2.2.2.getD xc.toNat default,tg⟩:fm)]:List fm).length) 24) (bf.l0 k a0 a1 a2 a3 pa ja (av (xc+1)) (xd++([(⟨pa.2.2.2.getD xc.toNat default,tg⟩:fm)]:List fm)))))) (bf.l0 k a0 a1 a2 a3 pa ja (av (xc+1)) xd)) (bf.l0 k a0 a1 a2 a3 pa ja (av (xc+1)) xd)))) (some (xc,decide (xc<(pa.2.2.2.length:Int)),xd))
def bf.l1 (k:Nat) (a0:dU) (a1:BA) (a2:Int) (a3:Int) (pa:Int×Bool×(List BA)×(List BA)):Nat→Int→List fE→Option (Int×Bool×(List fE))
 | 0,_,_=>none
 | ja+1,xc,xd=>cond (decide (xc<(pa.2.2.1.length:Int))) (an (iB xc pa.2.2.1.length) ((iL.f (⟨2,(⟨eE,eE,eE,false⟩:bB),pa.2.2.1.getD xc.toNat default⟩:kb)).bind fun ta=>(fS.f k (⟨a0.fV,a0.fM,a0.fT,a0.fP,a0.fL,a0.aC⟩:dU) a2 ta).bind fun tc=>an (iB xc pa.2.2.1.length) ((eB.f k a0.fV (pa.2.2.1.getD xc.toNat default) a1).bind fun te=>cond tc (cond te (an (iB xc pa.2.2.1.length) (an (iB xc pa.2.2.1.length) ((eI.f k (⟨a0.fV,a0.fM,a0.fT,a0.fP,a0.fL,a0.aC⟩:dU) (pa.2.2.1.getD xc.toNat default) a3).bind fun tg=>an (cB (xd.length+([(⟨pa.2.2.1.getD xc.toNat default,tg⟩:fE)]:List fE).length) 40) (bf.l1 k a0 a1 a2 a3 pa ja (av (xc+1)) (xd++([(⟨pa.2.2.1.getD xc.toNat default,tg⟩:fE)]:List fE)))))) (bf.l1 k a0 a1 a2 a3 pa ja (av (xc+1)) xd)) (bf.l1 k a0 a1 a2 a3 pa ja (av (xc+1)) xd)))) (some (xc,decide (xc<(pa.2.2.1.length:Int)),xd))
def bf.l2 (k:Nat) (a0:dU):Nat→Int→List BA→List BA→Option (Int×Bool×(List BA)×(List BA))
 | 0,_,_,_=>none
 | ja+1,xc,xd,xe=>cond (decide (xc<(a0.fL.length:Int))) ((an (iB xc a0.fL.length) (cond (((kb.K.at a0.fL xc).aI)==2) (an (iB xc a0.fL.length) ((gQ.f k xd ((kb.K.at a0.fL xc).mT)).bind fun ta=>some ta)) (some xd))).bind fun pa=>an (iB xc a0.fL.length) (cond (((kb.K.at a0.fL xc).aI)==3) (an (iB xc a0.fL.length) ((gQ.f k xe ((kb.K.at a0.fL xc).mT)).bind fun tc=>bf.l2 k a0 ja (av (xc+1)) pa tc)) (bf.l2 k a0 ja (av (xc+1)) pa xe))) (some (xc,decide (xc<(a0.fL.length:Int)),xd,xe))
def bf.l3 (k:Nat) (a0:dU) (a1:BA) (a2:Int):Nat→Int→List MK→Option (Int×Bool×(List MK))
 | 0,_,_=>none
 | ja+1,xc,xd=>cond (decide (xc<(a0.fM.length:Int))) (an (iB xc a0.fM.length) ((iL.f (⟨1,(MK.K.at a0.fM xc).fK,eE⟩:kb)).bind fun ta=>(fS.f k (⟨a0.fV,a0.fM,a0.fT,a0.fP,a0.fL,a0.aC⟩:dU) a2 ta).bind fun tc=>(eB.f k a0.fV (((MK.K.at a0.fM xc).fK).ab) a1).bind fun te=>cond tc (cond te (cond (!(((MK.K.at a0.fM xc).fK).aq)) (an (iB xc a0.fM.length) (an (cB (xd.length+([(⟨(MK.K.at a0.fM xc).fK,(MK.K.at a0.fM xc).hM⟩:MK)]:List MK).length) 80) (bf.l3 k a0 a1 a2 ja (av (xc+1)) (xd++([(⟨(MK.K.at a0.fM xc).fK,(MK.K.at a0.fM xc).hM⟩:MK)]:List MK))))) (cond (decide ((((MK.K.at a0.fM xc).fK).aj)=a1)) (an (iB xc a0.fM.length) (an (cB (xd.length+([(⟨(MK.K.at a0.fM xc).fK,(MK.K.at a0.fM xc).hM⟩:MK)]:List MK).length) 80) (bf.l3 k a0 a1 a2 ja (av (xc+1)) (xd++([(⟨(MK.K.at a0.fM xc).fK,(MK.K.at a0.fM xc).hM⟩:MK)]:List MK))))) (bf.l3 k a0 a1 a2 ja (av (xc+1)) xd))) (bf.l3 k a0 a1 a2 ja (av (xc+1)) xd)) (bf.l3 k a0 a1 a2 ja (av (xc+1)) xd))) (some (xc,decide (xc<(a0.fM.length:Int)),xd))
def bf.f (k:Nat) (a0:dU) (a1:BA) (a2:Int) (a3:Int):Option (mf×Int):=cond (decide (a2<0)) (some ((⟨0,([]:List MK),([]:List fE),([]:List fm)⟩:mf),10)) (cond (decide ((av (a0.aC+(a0.fL.length:Int)))<a2)) (some ((⟨0,([]:List MK),([]:List fE),([]:List fm)⟩:mf),10)) ((bf.l3 k a0 a1 a2 k 0 ([]:List MK)).bind fun pa=>(bf.l2 k a0 k 0 ([]:List BA) ([]:List BA)).bind fun pc=>(bf.l1 k a0 a1 a2 a3 pc k 0 ([]:List fE)).bind fun pe=>(bf.l0 k a0 a1 a2 a3 pc k 0 ([]:List fm)).bind fun pg=>some ((⟨av (a0.aC+(a0.fL.length:Int)),pa.2.2,pe.2.2,pg.2.2⟩:mf),0)))
def cH.l0 (k:Nat) (a0:List BA) (a1:List BA):Nat→Int→Option ((Int×Bool) ⊕ (Bool))
 | 0,_=>none
 | ja+1,xc=>cond (decide (xc<(a0.length:Int))) (an (iB xc a0.length) (an (iB xc a1.length) (cond (!decide ((aw.at a0 xc)=(aw.at a1 xc))) (some (.inr false)) (cH.l0 k a0 a1 ja (av (xc+1)))))) (some (.inl (xc,decide (xc<(a0.length:Int)))))
def cH.f (k:Nat) (a0:List BA) (a1:List BA):Option (Bool):=cond ((a0.length:Int) != (a1.length:Int)) (some false) ((cH.l0 k a0 a1 k 0).bind (fall fun pa=>some true))
def ij.l0 (k:Nat) (a0:List MK) (a1:List MK):Nat→Int→Option ((Int×Bool) ⊕ (Bool))
 | 0,_=>none
 | ja+1,xc=>cond (decide (xc<(a0.length:Int))) (an (iB xc a0.length) (an (iB xc a1.length) (cond (!decide ((⟨(MK.K.at a0 xc).fK,(MK.K.at a0 xc).hM⟩:MK)=(⟨(MK.K.at a1 xc).fK,(MK.K.at a1 xc).hM⟩:MK))) (some (.inr false)) (ij.l0 k a0 a1 ja (av (xc+1)))))) (some (.inl (xc,decide (xc<(a0.length:Int)))))
def ij.f (k:Nat) (a0:List MK) (a1:List MK):Option (Bool):=cond ((a0.length:Int) != (a1.length:Int)) (some false) ((ij.l0 k a0 a1 k 0).bind (fall fun pa=>some true))
def dC.l0 (k:Nat) (a0:mf) (a1:mf):Nat→Int→Option ((Int×Bool) ⊕ (Bool))
 | 0,_=>none
 | ja+1,xc=>cond (decide (xc<(a0.cJ.length:Int))) (an (iB xc a0.cJ.length) (an (iB xc a1.cJ.length) (cond (!decide (fm.K.at a0.cJ xc=fm.K.at a1.cJ xc)) (some (.inr false)) (dC.l0 k a0 a1 ja (av (xc+1)))))) (some (.inl (xc,decide (xc<(a0.cJ.length:Int)))))
def dC.l1 (k:Nat) (a0:mf) (a1:mf):Nat→Int→Option ((Int×Bool) ⊕ (Bool))
 | 0,_=>none
 | ja+1,xc=>cond (decide (xc<(a0.az.length:Int))) (an (iB xc a0.az.length) (an (iB xc a1.az.length) ((cH.f k ((fE.K.at a0.az xc).nI) ((fE.K.at a1.az xc).nI)).bind fun ta=>cond (!ta) (some (.inr false)) (an (iB xc a0.az.length) (an (iB xc a1.az.length) (cond (!decide (((fE.K.at a0.az xc).ab)=((fE.K.at a1.az xc).ab))) (some (.inr false)) (dC.l1 k a0 a1 ja (av (xc+1))))))))) (some (.inl (xc,decide (xc<(a0.az.length:Int)))))
def dC.f (k:Nat) (a0:mf) (a1:mf):Option (Bool):=(ij.f k a0.aJ a1.aJ).bind fun ta=>cond (!ta) (some false) (cond ((a0.az.length:Int) != (a1.az.length:Int)) (some false) (cond ((a0.cJ.length:Int) != (a1.cJ.length:Int)) (some false) ((dC.l1 k a0 a1 k 0).bind (fall fun pa=>(dC.l0 k a0 a1 k 0).bind (fall fun pc=>some true)))))
def eJ.l0 (k:Nat) (a0:wx):Nat→Int→List fm→Option (Int×Bool×(List fm))
 | 0,_,_=>none
 | ja+1,xc,xd=>cond (decide (xc<(a0.cJ.length:Int))) (an (iB xc a0.cJ.length) (an (cB (xd.length+([fm.K.at a0.cJ xc]:List fm).length) 24) (eJ.l0 k a0 ja (av (xc+1)) (xd++([fm.K.at a0.cJ xc]:List fm))))) (some (xc,decide (xc<(a0.cJ.length:Int)),xd))
def eJ.l1 (k:Nat) (a0:wx):Nat→Int→List fE→Option (Int×Bool×(List fE))
 | 0,_,_=>none
 | ja+1,xc,xd=>cond (decide (xc<(a0.az.length:Int))) (an (iB xc a0.az.length) (an (cB (xd.length+([fE.K.at a0.az xc]:List fE).length) 40) (eJ.l1 k a0 ja (av (xc+1)) (xd++([fE.K.at a0.az xc]:List fE))))) (some (xc,decide (xc<(a0.az.length:Int)),xd))
def eJ.l2 (k:Nat) (a0:wx):Nat→Int→List MK→Option (Int×Bool×(List MK))
 | 0,_,_=>none
 | ja+1,xc,xd=>cond (decide (xc<(a0.aJ.length:Int))) (an (iB xc a0.aJ.length) (an (iB xc a0.aJ.length) (an (cB (xd.length+([(⟨(jg.K.at a0.aJ xc).dw,(jg.K.at a0.aJ xc).hM⟩:MK)]:List MK).length) 80) (eJ.l2 k a0 ja (av (xc+1)) (xd++([(⟨(jg.K.at a0.aJ xc).dw,(jg.K.at a0.aJ xc).hM⟩:MK)]:List MK)))))) (some (xc,decide (xc<(a0.aJ.length:Int)),xd))
def eJ.f (k:Nat) (a0:wx):Option (mf):=(eJ.l2 k a0 k 0 ([]:List MK)).bind fun pa=>(eJ.l1 k a0 k 0 ([]:List fE)).bind fun pc=>(eJ.l0 k a0 k 0 ([]:List fm)).bind fun pe=>some (⟨a0.ig,pa.2.2,pc.2.2,pe.2.2⟩:mf)
def oN.f:Option (Bool):=(iK.f (⟨(⟨#[33,114,58,115]⟩:BA),(⟨#[64,97,58,115]⟩:BA),eE,true⟩:bB)).bind fun ta=>cond (decide (ta=(⟨#[109,32,33,114,58,115,32,64,97,58,115,32,32,49]⟩:BA))) ((jF.f (⟨#[33,114,58,115]⟩:BA)).bind fun tc=>cond (decide (tc=(⟨#[116,32,33,114,58,115]⟩:BA))) ((jN.f (⟨#[64,97,58,115]⟩:BA)).bind fun te=>some (decide (te=(⟨#[112,32,64,97,58,115]⟩:BA)))) (some false)) (some false)
def bF.l0 (k:Nat) (a5:Int) (a6:Int) (pa:Int×Bool×dU×aN×j7×bX×cD×cC) (ta:BA) (tc:Int) (te:Int) (tg:Int):Nat→Int→Option ((Int×Bool) ⊕ (Bool))
 | 0,_=>none
 | ja+1,xc=>cond (decide (xc<4)) (an (iB xc (([a5,0,tc,av (pa.2.2.1.aC+(pa.2.2.1.fL.length:Int))]:List Int).length)) (an (iB xc (([te,a6,tg,0]:List Int).length)) ((sync_Make.f k (⟨pa.2.2.2.1,pa.2.2.2.2.1,pa.2.2.2.2.2.1,pa.2.2.2.2.2.2.1,pa.2.2.2.2.2.2.2⟩:Src) ta ((bq .i64).at ([a5,0,tc,av (pa.2.2.1.aC+(pa.2.2.1.fL.length:Int))]:List Int) xc) ((bq .i64).at ([te,a6,tg,0]:List Int) xc)).bind fun tj=>an (iB xc (([a5,0,tc,av (pa.2.2.1.aC+(pa.2.2.1.fL.length:Int))]:List Int).length)) (an (iB xc (([te,a6,tg,0]:List Int).length)) ((bf.f k (⟨pa.2.2.1.fV,pa.2.2.1.fM,pa.2.2.1.fT,pa.2.2.1.fP,pa.2.2.1.fL,pa.2.2.1.aC⟩:dU) ta ((bq .i64).at ([a5,0,tc,av (pa.2.2.1.aC+(pa.2.2.1.fL.length:Int))]:List Int) xc) ((bq .i64).at ([te,a6,tg,0]:List Int) xc)).bind fun tm=>cond (tj.2 != tm.2) (some (.inr false)) (cond (tj.1.ig != tm.1.ig) (some (.inr false)) ((eJ.f k tj.1).bind fun tn=>(dC.f k tn tm.1).bind fun tp=>cond (!tp) (some (.inr false)) (bF.l0 k a5 a6 pa ta tc te tg ja (av (xc+1)))))))))) (some (.inl (xc,decide (xc<4))))
def bF.l1 (k:Nat) (a2:List ak):Nat→Int→dU→aN→j7→bX→cD→cC→Option ((Int×Bool×dU×aN×j7×bX×cD×cC) ⊕ (Bool))
 | 0,_,_,_,_,_,_,_=>none
 | ja+1,xc,xd,xe,xf,xg,xi,xj=>cond (decide (xc<(a2.length:Int))) (cond (decide (xc<10)) (an (iB xc a2.length) ((lO.f k (ak.K.at a2 xc)).bind fun ta=>(nm.f k (⟨xe,xf,xg,xi,xj⟩:Src) (⟨xd.fV,xd.fM,xd.fT,xd.fP,xd.fL,xd.aC⟩:dU) ta).bind fun tc=>cond (!tc.2.1) (some (.inr false)) (bF.l1 k a2 ja (av (xc+1)) (⟨tc.1.fV,tc.1.fM,tc.1.fT,tc.1.fP,tc.1.fL,tc.1.aC⟩:dU) tc.2.2.dB tc.2.2.aJ tc.2.2.az tc.2.2.bu tc.2.2.jy))) (some (.inl (xc,decide (xc<10),(⟨xd.fV,xd.fM,xd.fT,xd.fP,xd.fL,xd.aC⟩:dU),xe,xf,xg,xi,xj)))) (some (.inl (xc,false,(⟨xd.fV,xd.fM,xd.fT,xd.fP,xd.fL,xd.aC⟩:dU),xe,xf,xg,xi,xj)))
def bF.f (k:Nat) (a0:List dz) (a1:List dz) (a2:List ak) (a3:Int) (a4:Int) (a5:Int) (a6:Int):Option (Bool):=(oH.f k a0 a1).bind fun ta=>(aW.f a3 51).bind fun tc=>(gF.f k ta tc).bind fun te=>cond (!te.2.2) (some false) ((bF.l1 k a2 k 0 (⟨te.2.1.fV,te.2.1.fM,te.2.1.fT,te.2.1.fP,te.2.1.fL,te.2.1.aC⟩:dU) te.1.dB te.1.aJ te.1.az te.1.bu te.1.jy).bind (fall fun pa=>(im.f a4).bind fun tg=>(aW.f a5 (av ((av (pa.2.2.1.aC+(pa.2.2.1.fL.length:Int)))+1))).bind fun tj=>(aW.f a6 200).bind fun tm=>(aW.f a6 200).bind fun tn=>(bF.l0 k a5 a6 pa tg tj tm tn k 0).bind (fall fun pc=>(en.f a4).bind fun tp=>an (iB 0 (([tm,a6,tn,0]:List Int).length)) (an (iB 0 (([tm,a6,tn,0]:List Int).length)) ((jP.f k (⟨pa.2.2.2.1,pa.2.2.2.2.1,pa.2.2.2.2.2.1,pa.2.2.2.2.2.2.1,pa.2.2.2.2.2.2.2⟩:Src) tp ((bq .i64).at ([tm,a6,tn,0]:List Int) 0)).bind fun tq=>(eI.f k (⟨pa.2.2.1.fV,pa.2.2.1.fM,pa.2.2.1.fT,pa.2.2.1.fP,pa.2.2.1.fL,pa.2.2.1.aC⟩:dU) tp ((bq .i64).at ([tm,a6,tn,0]:List Int) 0)).bind fun tu=>(cH.f k tq tu).bind fun tw=>cond tw ((oN.f).bind fun tx=>some tx) (some false))))))
end Go.Proofs.YtfknmdelgepbjaaGreatDoor
