import Derived.Test.YtfknmdelgepbjaaGreatDoorChecked
import Derived.Test.YtfknmdelgepbjaaGreatDoorWConC4
import Derived.Lib.Join
import Derived.Eval
set_option linter.all false
set_option maxRecDepth 10000
set_option maxHeartbeats 20000000
namespace Go.Proofs.YtfknmdelgepbjaaGreatDoor
open Go Go.Sp Tryz
@[simp] abbrev iB (x:Int) (n:Nat):Prop:=0≤x∧x<(n:Int)
@[simp] abbrev cB (n z:Nat):Prop:=n≤9223372036854775807∧n*z≤140737488355328
abbrev U2:=@Tryz.underlying2
abbrev U3:=@Tryz.underlying3
abbrev U4:=@Tryz.underlying4
abbrev U5:=@Tryz.underlying5
abbrev U9:=@Tryz.underlying9
abbrev LY:=@Tryz.underlying22
abbrev eW:=@Tryz.underlying23
abbrev U24:=@Tryz.underlying24
abbrev U25:=@Tryz.underlying25
abbrev U26:=@Tryz.underlying26
abbrev U27:=@Tryz.underlying27
abbrev U28:=@Tryz.underlying28
abbrev LR:=@Tryz.underlying30
abbrev yE:=@Tryz.underlying31
abbrev LG:=@Tryz.underlying33
abbrev mc:=@Tryz.underlying34
abbrev rl:=@Tryz.underlying35
abbrev U37:=@Tryz.underlying37
abbrev rP:=@Tryz.underlying38
abbrev U40:=@Tryz.underlying40
abbrev Da:=@Tryz.underlying41
abbrev B4:=@Tryz.underlying43
abbrev qI:=@Tryz.underlying46
abbrev gN:=@Tryz.underlying52
abbrev JQ:=@Tryz.underlying55
abbrev Ls:=@Tryz.underlying56
abbrev Kv:=@Tryz.underlying57
abbrev LQ:=@Tryz.underlying59
abbrev Lh:=@Tryz.underlying63
abbrev Lu:=@Tryz.underlying64
abbrev JV:=@Tryz.underlying66
abbrev dj:=@Tryz.underlying72
abbrev LH:=@Tryz.underlying79
abbrev wI:=@Tryz.underlying81
abbrev pV:=@Tryz.underlying83
abbrev JF:=@Tryz.underlying89
abbrev Bq:=@Tryz.underlying91
abbrev U94:=@Tryz.underlying94
abbrev U96:=@Tryz.underlying96
abbrev kL:=@Tryz.underlying110
abbrev lO:=@Tryz.underlying113
abbrev rL:=@Tryz.underlying116
abbrev Bv:=@Tryz.underlying118
abbrev AI:=@Tryz.underlying120
abbrev LM:=@Tryz.underlying156
abbrev KQ:=@Tryz.underlying158
abbrev U171:=@Tryz.underlying171
abbrev U174:=@Tryz.underlying174
abbrev Le:=@Tryz.underlying177
abbrev U178:=@Tryz.underlying178
abbrev ug:=@Tryz.underlying181
abbrev I6:=@Tryz.underlying183
abbrev Eg:=@Tryz.underlying184
abbrev Lc:=@Tryz.underlying186
abbrev U187:=@Tryz.underlying187
abbrev Ld:=@Tryz.underlying190
abbrev Lv:=@Tryz.underlying192
abbrev U193:=@Tryz.underlying193
abbrev yz:=@Tryz.underlying198
abbrev LF:=@Tryz.underlying201
abbrev HU:=@Tryz.underlying234
abbrev It:=@Tryz.underlying247
abbrev GH:=@Tryz.underlying248
abbrev U250:=@Tryz.underlying250
abbrev U255:=@Tryz.underlying255
abbrev Ky:=@Tryz.underlying257
abbrev oF:=@Tryz.underlying259
abbrev Lq:=@Tryz.underlying261
abbrev xv:=@Tryz.underlying263
abbrev LA:=@Tryz.underlying265
abbrev U266:=@Tryz.underlying266
abbrev I9:=@Tryz.underlying268
abbrev U273:=@Tryz.underlying273
abbrev jL:=@Tryz.underlying282
abbrev Ll:=@Tryz.underlying294
abbrev nF:=@Tryz.underlying299
abbrev U303:=@Tryz.underlying303
abbrev U335:=@Tryz.underlying335
abbrev U336:=@Tryz.underlying336
abbrev U382:=@Tryz.underlying382
abbrev GV:=@Tryz.underlying384
abbrev mX:=@Tryz.checked.mixed
def Dk:List Nat:=[10,100,101,102,103,104,105,106,107,108,109,11,110,111,112,113,114,115,116,117,118,119,12,120,121,122,123,124,125,128,129,13,130,132,134,135,136,137,138,139,14,140,141,142,143,144,145,146,147,148,149,15,150,151,152,153,154,155,156,157,158,159,16,160,161,165,166,167,168,169,17,172,173,174,175,176,177,178,179,18,180,181,182,19,193,20,21,211,212,213,214,215,216,217,218,219,22,220,221,222,223,224,225,226,229,23,230,231,232,233,235,236,239,24,240,241,242,25,254,255,256,257,26,261,262,263,269,27,270,271,276,277,278,279,28,281,285,29,295,296,297,30,31,32,33,34,35,36,37,38,39,40,41,42,43,44,45,46,47,48,49,50,51,52,53,54,55,56,57,58,59,60,62,63,65,66,68,69,70,71,72,73,74,75,76,77,78,79,8,80,81,82,83,84,85,86,87,88,89,9,90,91,92,93,94,95,96,97,98,99]
theorem cL (n:Nat) (h:Dk.contains n=true:=by kernel_rfl):eX prog n=true:=List.all_eq_true.1 (show Dk.all (fun n=>eX prog n)=true by kernel_rfl) n (List.contains_iff_mem.1 h)
theorem mL:prog.cellsOf 110=6:=kr
theorem nV:prog.cellsOf 113=2:=kr
theorem xz:prog.cellsOf 116=6:=kr
theorem JI:prog.cellsOf 118=3:=kr
theorem Ht:prog.cellsOf 120=4:=kr
theorem FO:prog.cellsOf 156=2:=kr
theorem c158:prog.cellsOf 158=2:=kr
theorem c171:prog.cellsOf 171=1:=kr
theorem IT:prog.cellsOf 174=1:=kr
theorem c178:prog.cellsOf 178=1:=kr
theorem c181:prog.cellsOf 181=1:=kr
theorem Hr:prog.cellsOf 184=1:=kr
theorem c187:prog.cellsOf 187=1:=kr
theorem AS:prog.cellsOf 198=4:=kr
theorem c2:prog.cellsOf 2=1:=kr
theorem c201:prog.cellsOf 201=1:=kr
theorem c23:prog.cellsOf 23=1:=kr
theorem c248:prog.cellsOf 248=1:=kr
theorem c255:prog.cellsOf 255=1:=kr
theorem c259:prog.cellsOf 259=1:=kr
theorem c263:prog.cellsOf 263=1:=kr
theorem c294:prog.cellsOf 294=5:=kr
theorem nZ:prog.cellsOf 299=2:=kr
theorem c3:prog.cellsOf 3=1:=kr
theorem c30:prog.cellsOf 30=5:=kr
theorem c33:prog.cellsOf 33=1:=kr
theorem c335:prog.cellsOf 335=1:=kr
theorem c34:prog.cellsOf 34=1:=kr
theorem c35:prog.cellsOf 35=1:=kr
theorem c37:prog.cellsOf 37=2:=kr
theorem c38:prog.cellsOf 38=1:=kr
theorem c4:prog.cellsOf 4=1:=kr
theorem c40:prog.cellsOf 40=2:=kr
theorem c41:prog.cellsOf 41=1:=kr
theorem Gg:prog.cellsOf 43=8:=kr
theorem c5:prog.cellsOf 5=1:=kr
theorem iy:prog.cellsOf 52=11:=kr
theorem c55:prog.cellsOf 55=1:=kr
theorem c56:prog.cellsOf 56=1:=kr
theorem c57:prog.cellsOf 57=1:=kr
theorem c59:prog.cellsOf 59=4:=kr
theorem c63:prog.cellsOf 63=1:=kr
theorem c64:prog.cellsOf 64=1:=kr
theorem c66:prog.cellsOf 66=4:=kr
theorem c72:prog.cellsOf 72=1:=kr
theorem Ke:prog.cellsOf 79=4:=kr
theorem Ak:prog.cellsOf 81=2:=kr
theorem ru:prog.cellsOf 83=6:=kr
theorem LV:prog.cellsOf 89=4:=kr
theorem c9:prog.cellsOf 9=1:=kr
theorem EY:prog.cellsOf 91=6:=kr
theorem c94:prog.cellsOf 94=2:=kr
theorem c96:prog.cellsOf 96=2:=kr
theorem By:prog.concrete 141=true:=kr
theorem sS:prog.concrete 143=true:=kr
theorem Ka:prog.concrete 89=true:=kr
theorem eg294:prog.eqGuardType prog.depth 294=false:=kr
theorem JN:prog.eqGuardType prog.depth 52=false:=kr
theorem eg79:prog.eqGuardType prog.depth 79=false:=kr
theorem eg83:prog.eqGuardType prog.depth 83=false:=kr
theorem wB:∃ i,prog.info? 110=some i∧i.size=6∧i.zero=some (.agg #[.string ⟨#[]⟩,.string ⟨#[]⟩,.slice none 0 0,.string ⟨#[]⟩,.string ⟨#[]⟩,.int .i64 0])∧i.bytes=96:=kV kr kr kr
theorem BB:∃ i,prog.info? 113=some i∧i.size=2∧i.zero=some (.agg #[.string ⟨#[]⟩,.slice none 0 0])∧i.bytes=40:=kV kr kr kr
theorem FV:∃ i,prog.info? 116=some i∧i.size=6∧i.zero=some (.agg #[.int .i64 0,.string ⟨#[]⟩,.string ⟨#[]⟩,.string ⟨#[]⟩,.bool false,.string ⟨#[]⟩])∧i.bytes=80:=kV kr kr kr
theorem Gk:∃ i,prog.info? 156=some i∧i.size=2∧i.zero=some (.agg #[.string ⟨#[]⟩,.slice none 0 0])∧i.bytes=40:=kV kr kr kr
theorem GM:∃ i,prog.info? 158=some i∧i.size=2∧i.zero=some (.agg #[.string ⟨#[]⟩,.int .i64 0])∧i.bytes=24:=kV kr kr kr
theorem K7:∃ i,prog.info? 299=some i∧i.size=2∧i.zero=some (.agg #[.int .i64 0,.string ⟨#[]⟩])∧i.bytes=24:=kV kr kr kr
theorem Ib:∃ i,prog.info? 3=some i∧i.size=1∧i.zero=some (.int .i64 0)∧i.bytes=8:=kV kr kr kr
theorem AH:∃ i,prog.info? 4=some i∧i.size=1∧i.zero=some (.bool false)∧i.bytes=1:=kV kr kr kr
theorem si:∃ i,prog.info? 5=some i∧i.size=1∧i.zero=some (.int .u8 0)∧i.bytes=1:=kV kr kr kr
theorem nS:∃ i,prog.info? 52=some i∧i.size=11∧i.zero=some (.agg #[.int .i64 0,.string ⟨#[]⟩,.string ⟨#[]⟩,.string ⟨#[]⟩,.string ⟨#[]⟩,.bool false,.bool false,.int .i64 0,.int .i64 0,.int .i64 0,.int .i64 0])∧i.bytes=112:=kV kr kr kr
theorem inf81:∃ i,prog.info? 81=some i∧i.size=2∧i.zero=some (.agg #[.int .i64 0,.string ⟨#[]⟩])∧i.bytes=24:=kV kr kr kr
theorem wj:∃ i,prog.info? 83=some i∧i.size=6∧i.zero=some (.agg #[.string ⟨#[]⟩,.string ⟨#[]⟩,.string ⟨#[]⟩,.bool false,.int .i64 0,.string ⟨#[]⟩])∧i.bytes=80:=kV kr kr kr
theorem rM:∃ i,prog.info? 9=some i∧i.size=1∧i.zero=some (.string ⟨#[]⟩)∧i.bytes=16:=kV kr kr kr
theorem inf91:∃ i,prog.info? 91=some i∧i.size=6∧i.zero=some (.agg #[.string ⟨#[]⟩,.string ⟨#[]⟩,.string ⟨#[]⟩,.bool false,.int .i64 0,.string ⟨#[]⟩])∧i.bytes=80:=kV kr kr kr
theorem inf94:∃ i,prog.info? 94=some i∧i.size=2∧i.zero=some (.agg #[.string ⟨#[]⟩,.slice none 0 0])∧i.bytes=40:=kV kr kr kr
theorem inf96:∃ i,prog.info? 96=some i∧i.size=2∧i.zero=some (.agg #[.string ⟨#[]⟩,.int .i64 0])∧i.bytes=24:=kV kr kr kr
theorem zO:FA prog 110 0 0:=⟨_,_,_,_,kL,rfl,U9,c9,dc,rfl⟩
theorem Db:FA prog 110 2 2:=⟨_,_,_,_,kL,rfl,dj,c72,dc,rfl⟩
theorem yY:FA prog 110 3 3:=⟨_,_,_,_,kL,rfl,U9,c9,dc,rfl⟩
theorem HL:FA prog 110 4 4:=⟨_,_,_,_,kL,rfl,U9,c9,dc,rfl⟩
theorem zN:FA prog 110 5 5:=⟨_,_,_,_,kL,rfl,U3,c3,dc,rfl⟩
theorem uL:FA prog 113 0 0:=⟨_,_,_,_,lO,rfl,U9,c9,dc,rfl⟩
theorem CQ:FA prog 116 0 0:=⟨_,_,_,_,rL,rfl,U3,c3,dc,rfl⟩
theorem C0:FA prog 116 2 5:=⟨_,_,_,_,rL,rfl,U9,c9,dc,rfl⟩
theorem DH:FA prog 177 0 0:=⟨_,_,_,_,Le,rfl,U174,IT,dc,rfl⟩
theorem Il:FA prog 177 1 1:=⟨_,_,_,_,Le,rfl,U171,c171,dc,rfl⟩
theorem CH:FA prog 183 0 0:=⟨_,_,_,_,I6,rfl,U178,c178,dc,rfl⟩
theorem nk:FA prog 183 1 1:=⟨_,_,_,_,I6,rfl,dj,c72,dc,rfl⟩
theorem zI:FA prog 183 2 2:=⟨_,_,_,_,I6,rfl,ug,c181,dc,rfl⟩
theorem Jy:FA prog 186 0 0:=⟨_,_,_,_,Lc,rfl,Eg,Hr,dc,rfl⟩
theorem su:FA prog 190 0 0:=⟨_,_,_,_,Ld,rfl,eW,c23,dc,rfl⟩
theorem Di:FA prog 190 1 1:=⟨_,_,_,_,Ld,rfl,U187,c187,dc,rfl⟩
theorem ur:FA prog 192 0 0:=⟨_,_,_,_,Lv,rfl,eW,c23,dc,rfl⟩
theorem Dh:FA prog 192 1 1:=⟨_,_,_,_,Lv,rfl,U187,c187,dc,rfl⟩
theorem HF:FA prog 198 0 0:=⟨_,_,_,_,yz,rfl,U3,c3,dc,rfl⟩
theorem Ja:FA prog 198 1 1:=⟨_,_,_,_,yz,rfl,U3,c3,dc,rfl⟩
theorem C2:FA prog 198 2 2:=⟨_,_,_,_,yz,rfl,rP,c38,dc,rfl⟩
theorem H3:FA prog 198 3 3:=⟨_,_,_,_,yz,rfl,U3,c3,dc,rfl⟩
theorem JB:FA prog 247 0 0:=⟨_,_,_,_,It,rfl,U3,c3,dc,rfl⟩
theorem o6:FA prog 247 1 1:=⟨_,_,_,_,It,rfl,eW,c23,dc,rfl⟩
theorem C3:FA prog 247 2 2:=⟨_,_,_,_,It,rfl,U3,c3,dc,rfl⟩
theorem uG:FA prog 250 0 0:=⟨_,_,_,_,U250,rfl,GH,c248,dc,rfl⟩
theorem yX:FA prog 257 0 0:=⟨_,_,_,_,Ky,rfl,U255,c255,dc,rfl⟩
theorem sf:FA prog 257 1 1:=⟨_,_,_,_,Ky,rfl,U2,c2,dc,rfl⟩
theorem ir:FA prog 261 0 0:=⟨_,_,_,_,Lq,rfl,oF,c259,dc,rfl⟩
theorem ux:FA prog 261 1 1:=⟨_,_,_,_,Lq,rfl,ug,c181,dc,rfl⟩
theorem Je:FA prog 265 0 0:=⟨_,_,_,_,LA,rfl,U9,c9,dc,rfl⟩
theorem uv:FA prog 265 1 1:=⟨_,_,_,_,LA,rfl,xv,c263,dc,rfl⟩
theorem uA:FA prog 268 0 0:=⟨_,_,_,_,I9,rfl,kL,mL,dc,rfl⟩
theorem zf:FA prog 268 1 6:=⟨_,_,_,_,I9,rfl,U3,c3,dc,rfl⟩
theorem H8:FA prog 268 2 7:=⟨_,_,_,_,I9,rfl,U4,c4,dc,rfl⟩
theorem G6:FA prog 52 1 1:=⟨_,_,_,_,gN,rfl,U9,c9,dc,rfl⟩
theorem zM:FA prog 52 2 2:=⟨_,_,_,_,gN,rfl,U9,c9,dc,rfl⟩
theorem Hv:FA prog 52 6 6:=⟨_,_,_,_,gN,rfl,U4,c4,dc,rfl⟩
theorem Lk:FA prog 52 7 7:=⟨_,_,_,_,gN,rfl,U3,c3,dc,rfl⟩
theorem K5:FA prog 52 9 9:=⟨_,_,_,_,gN,rfl,U3,c3,dc,rfl⟩
theorem oq:FA prog 83 0 0:=⟨_,_,_,_,pV,rfl,LH,Ke,dc,rfl⟩
theorem nN:FA prog 83 1 4:=⟨_,_,_,_,pV,rfl,wI,Ak,dc,rfl⟩
theorem LL:FA prog 91 0 0:=⟨_,_,_,_,Bq,rfl,JF,LV,dc,rfl⟩
theorem Lz:FA prog 91 1 4:=⟨_,_,_,_,Bq,rfl,wI,Ak,dc,rfl⟩
theorem sc201:SC prog 201:=⟨_,LF,rfl⟩
theorem Dj:SC prog 3:=⟨_,U3,rfl⟩
theorem JX:SC prog 336:=⟨_,U336,rfl⟩
theorem sc38:SC prog 38:=⟨_,rP,rfl⟩
theorem sc4:SC prog 4:=⟨_,U4,rfl⟩
theorem sc72:SC prog 72:=⟨_,dj,rfl⟩
theorem oc:SC prog 9:=⟨_,U9,rfl⟩
theorem FX:SG prog 110 6:=⟨_,kL,rfl,mL⟩
theorem Hl:SG prog 113 2:=⟨_,lO,rfl,nV⟩
theorem sg116:SG prog 116 6:=⟨_,rL,rfl,xz⟩
theorem uZ:SG prog 52 11:=⟨_,gN,rfl,iy⟩
theorem xE:SG prog 79 4:=⟨_,LH,rfl,Ke⟩
theorem uQ:SG prog 81 2:=⟨_,wI,rfl,Ak⟩
theorem Ik:SG prog 83 6:=⟨_,pV,rfl,ru⟩
theorem sg89:SG prog 89 4:=⟨_,JF,rfl,LV⟩
theorem sg94:SG prog 94 2:=⟨_,U94,rfl,c94⟩
theorem sg96:SG prog 96 2:=⟨_,U96,rfl,c96⟩
theorem sz113:SZ prog 113 2:=⟨_,lO,nV⟩
theorem sz118:SZ prog 118 3:=⟨_,Bv,JI⟩
theorem rV:SZ prog 23 1:=⟨_,eW,c23⟩
theorem JW:SZ prog 259 1:=⟨_,oF,c259⟩
theorem sz30:SZ prog 30 5:=⟨_,LR,c30⟩
theorem sz33:SZ prog 33 1:=⟨_,LG,c33⟩
theorem Ic:SZ prog 34 1:=⟨_,mc,c34⟩
theorem BJ:SZ prog 35 1:=⟨_,rl,c35⟩
theorem Lf:SZ prog 38 1:=⟨_,rP,c38⟩
theorem sz41:SZ prog 41 1:=⟨_,Da,c41⟩
theorem Ii:SZ prog 43 8:=⟨_,B4,Gg⟩
theorem sz55:SZ prog 55 1:=⟨_,JQ,c55⟩
theorem sz56:SZ prog 56 1:=⟨_,Ls,c56⟩
theorem sz57:SZ prog 57 1:=⟨_,Kv,c57⟩
theorem sz63:SZ prog 63 1:=⟨_,Lh,c63⟩
theorem sz64:SZ prog 64 1:=⟨_,Lu,c64⟩
theorem IY:SZ prog 72 1:=⟨_,dj,c72⟩
theorem Gc:SZ prog 81 2:=⟨_,wI,Ak⟩
theorem sz9:SZ prog 9 1:=⟨_,U9,c9⟩
theorem Av:SZ prog 91 6:=⟨_,Bq,EY⟩
theorem E5:kD prog 110=true:=kr
theorem GD:kD prog 113=true:=kr
theorem xV:kD prog 116=true:=kr
theorem FT:kD prog 118=true:=kr
theorem Gf:kD prog 120=true:=kr
theorem pl156:kD prog 156=true:=kr
theorem pl158:kD prog 158=true:=kr
theorem pl177:kD prog 177=true:=kr
theorem pl183:kD prog 183=true:=kr
theorem pl186:kD prog 186=true:=kr
theorem pl190:kD prog 190=true:=kr
theorem pl192:kD prog 192=true:=kr
theorem pl247:kD prog 247=true:=kr
theorem pl250:kD prog 250=true:=kr
theorem pl257:kD prog 257=true:=kr
theorem pl261:kD prog 261=true:=kr
theorem pl265:kD prog 265=true:=kr
theorem pl268:kD prog 268=true:=kr
theorem pl294:kD prog 294=true:=kr
theorem pl299:kD prog 299=true:=kr
theorem pl30:kD prog 30=true:=kr
theorem pl33:kD prog 33=true:=kr
theorem Jb:kD prog 43=true:=kr
theorem BC:kD prog 52=true:=kr
theorem KO:kD prog 59=true:=kr
theorem HE:kD prog 66=true:=kr
theorem pl79:kD prog 79=true:=kr
theorem F9:kD prog 81=true:=kr
theorem pl83:kD prog 83=true:=kr
theorem Ix:kD prog 89=true:=kr
theorem pl91:kD prog 91=true:=kr
theorem pl94:kD prog 94=true:=kr
theorem pl96:kD prog 96=true:=kr
theorem st294:prog.stoodInHeld 294=false:=kr
theorem st52:prog.stoodInHeld 52=false:=kr
theorem st79:prog.stoodInHeld 79=false:=kr
theorem st81:prog.stoodInHeld 81=false:=kr
theorem st83:prog.stoodInHeld 83=false:=kr
theorem st89:prog.stoodInHeld 89=false:=kr
theorem xf170:(Extern.findNext Tryz.f170).isNone=true:=kr
theorem xf210:(Extern.findNext Tryz.f210).isNone=true:=kr
theorem xf237:(Extern.findNext Tryz.f237).isNone=true:=kr
theorem xf260:(Extern.findNext Tryz.f260).isNone=true:=kr
theorem xf265:(Extern.findNext Tryz.f265).isNone=true:=kr
theorem xf268:(Extern.findNext Tryz.f268).isNone=true:=kr
theorem xf298:(Extern.findNext Tryz.f298).isNone=true:=kr
theorem xg170:Extern.find Tryz.f170=some (Extern.SlicesOverlaps.overlaps Tryz.f170.params Tryz.f170.resultTypes):=by rfl
theorem xg210:Extern.find Tryz.f210=some Extern.Atomic.storeT:=by rfl
theorem xg237:Extern.find Tryz.f237=some (Extern.Atomic.loadT (.int .i64)):=by rfl
theorem xg260:Extern.find Tryz.f260=some Extern.BytealgCompare.compare:=by rfl
theorem xg265:Extern.find Tryz.f265=some (Extern.Atomic.casT (.int .i64)):=by rfl
theorem xg268:Extern.find Tryz.f268=some Extern.BytealgCount.count:=by rfl
theorem xg298:Extern.find Tryz.f298=some Extern.BytealgIndexByte.indexByte:=by rfl
theorem EP:lI prog 110=some (.agg #[.string ⟨#[]⟩,.string ⟨#[]⟩,.slice none 0 0,.string ⟨#[]⟩,.string ⟨#[]⟩,.int .i64 0]):=kr
theorem BI:lI prog 113=some (.agg #[.string ⟨#[]⟩,.slice none 0 0]):=kr
theorem z116:lI prog 116=some (.agg #[.int .i64 0,.string ⟨#[]⟩,.string ⟨#[]⟩,.string ⟨#[]⟩,.bool false,.string ⟨#[]⟩]):=kr
theorem Jk:lI prog 118=some (.agg #[.int .i64 0,.slice none 0 0,.int .i64 0]):=kr
theorem Iv:lI prog 120=some (.agg #[.slice none 0 0,.int .i64 0,.slice none 0 0,.int .i64 0]):=kr
theorem z156:lI prog 156=some (.agg #[.string ⟨#[]⟩,.slice none 0 0]):=kr
theorem K3:lI prog 158=some (.agg #[.string ⟨#[]⟩,.int .i64 0]):=kr
theorem z177:lI prog 177=some (.agg #[.pointer none,.pointer none]):=kr
theorem z183:lI prog 183=some (.agg #[.pointer none,.slice none 0 0,.map none]):=kr
theorem z186:lI prog 186=some (.agg #[.map none]):=kr
theorem z190:lI prog 190=some (.agg #[.slice none 0 0,.pointer none]):=kr
theorem z192:lI prog 192=some (.agg #[.slice none 0 0,.pointer none]):=kr
theorem z193:lI prog 193=some (.pointer none):=kr
theorem z201:lI prog 201=some .nilFunc:=kr
theorem z247:lI prog 247=some (.agg #[.int .i64 0,.slice none 0 0,.int .i64 0]):=kr
theorem z250:lI prog 250=some (.agg #[.map none]):=kr
theorem z257:lI prog 257=some (.agg #[.int .i64 0,.int .i64 0]):=kr
theorem z261:lI prog 261=some (.agg #[.slice none 0 0,.map none]):=kr
theorem z265:lI prog 265=some (.agg #[.string ⟨#[]⟩,.map none]):=kr
theorem Bw:lI prog 266=some (.pointer none):=kr
theorem z268:lI prog 268=some (.agg #[.string ⟨#[]⟩,.string ⟨#[]⟩,.slice none 0 0,.string ⟨#[]⟩,.string ⟨#[]⟩,.int .i64 0,.int .i64 0,.bool false]):=kr
theorem z294:lI prog 294=some (.agg #[.int .i64 0,.string ⟨#[]⟩,.string ⟨#[]⟩,.string ⟨#[]⟩,.bool false]):=kr
theorem KP:lI prog 299=some (.agg #[.int .i64 0,.string ⟨#[]⟩]):=kr
theorem z3:lI prog 3=some (.int .i64 0):=kr
theorem z30:lI prog 30=some (.agg #[.pointer none,.pointer none,.pointer none,.pointer none,.pointer none]):=kr
theorem z303:lI prog 303=some (.agg #[.int .i64 0,.int .i64 0]):=kr
theorem z33:lI prog 33=some (.agg #[.slice none 0 0]):=kr
theorem z336:lI prog 336=some .nilFunc:=kr
theorem z37:lI prog 37=some (.agg #[.slice none 0 0,.slice none 0 0]):=kr
theorem z382:lI prog 382=some (.agg #[.nilFunc,.nilFunc,.nilFunc]):=kr
theorem z4:lI prog 4=some (.bool false):=kr
theorem z40:lI prog 40=some (.agg #[.slice none 0 0,.slice none 0 0]):=kr
theorem z43:lI prog 43=some (.agg #[.slice none 0 0,.slice none 0 0,.slice none 0 0,.slice none 0 0,.slice none 0 0,.slice none 0 0,.slice none 0 0,.int .i64 0]):=kr
theorem z5:lI prog 5=some (.int .u8 0):=kr
theorem vM:lI prog 52=some (.agg #[.int .i64 0,.string ⟨#[]⟩,.string ⟨#[]⟩,.string ⟨#[]⟩,.string ⟨#[]⟩,.bool false,.bool false,.int .i64 0,.int .i64 0,.int .i64 0,.int .i64 0]):=kr
theorem z59:lI prog 59=some (.agg #[.int .i64 0,.slice none 0 0,.slice none 0 0,.slice none 0 0]):=kr
theorem z66:lI prog 66=some (.agg #[.int .i64 0,.slice none 0 0,.slice none 0 0,.slice none 0 0]):=kr
theorem z79:lI prog 79=some (.agg #[.string ⟨#[]⟩,.string ⟨#[]⟩,.string ⟨#[]⟩,.bool false]):=kr
theorem Jj:lI prog 81=some (.agg #[.int .i64 0,.string ⟨#[]⟩]):=kr
theorem LX:lI prog 83=some (.agg #[.string ⟨#[]⟩,.string ⟨#[]⟩,.string ⟨#[]⟩,.bool false,.int .i64 0,.string ⟨#[]⟩]):=kr
theorem z89:lI prog 89=some (.agg #[.string ⟨#[]⟩,.string ⟨#[]⟩,.string ⟨#[]⟩,.bool false]):=kr
theorem z9:lI prog 9=some (.string ⟨#[]⟩):=kr
theorem z91:lI prog 91=some (.agg #[.string ⟨#[]⟩,.string ⟨#[]⟩,.string ⟨#[]⟩,.bool false,.int .i64 0,.string ⟨#[]⟩]):=kr
theorem z94:lI prog 94=some (.agg #[.string ⟨#[]⟩,.slice none 0 0]):=kr
theorem z96:lI prog 96=some (.agg #[.string ⟨#[]⟩,.int .i64 0]):=kr
theorem uP:ZC prog 110 [eq (.string eE),eq (.string eE),eq (.slice none 0 0),eq (.string eE),eq (.string eE),eq (.int .i64 0)]:=⟨_,EP,rfl⟩
theorem oK:ZC prog 113 [eq (.string eE),eq (.slice none 0 0)]:=⟨_,BI,rfl⟩
theorem zc116:ZC prog 116 [eq (.int .i64 0),eq (.string eE),eq (.string eE),eq (.string eE),eq (.bool false),eq (.string eE)]:=⟨_,z116,rfl⟩
theorem Kq:ZC prog 118 [eq (.int .i64 0),eq (.slice none 0 0),eq (.int .i64 0)]:=⟨_,Jk,rfl⟩
theorem JY:ZC prog 120 [eq (.slice none 0 0),eq (.int .i64 0),eq (.slice none 0 0),eq (.int .i64 0)]:=⟨_,Iv,rfl⟩
theorem zc294:ZC prog 294 [eq (.int .i64 0),eq (.string eE),eq (.string eE),eq (.string eE),eq (.bool false)]:=⟨_,z294,rfl⟩
theorem Fu:ZC prog 299 [eq (.int .i64 0),eq (.string eE)]:=⟨_,KP,rfl⟩
theorem KY:ZC prog 30 [eq (.pointer none),eq (.pointer none),eq (.pointer none),eq (.pointer none),eq (.pointer none)]:=⟨_,z30,rfl⟩
theorem JJ:ZC prog 33 [eq (.slice none 0 0)]:=⟨_,z33,rfl⟩
theorem zc336:ZC prog 336 [eq .nilFunc]:=⟨_,z336,rfl⟩
theorem Lx:ZC prog 37 [eq (.slice none 0 0),eq (.slice none 0 0)]:=⟨_,z37,rfl⟩
theorem KR:ZC prog 40 [eq (.slice none 0 0),eq (.slice none 0 0)]:=⟨_,z40,rfl⟩
theorem F4:ZC prog 43 [eq (.slice none 0 0),eq (.slice none 0 0),eq (.slice none 0 0),eq (.slice none 0 0),eq (.slice none 0 0),eq (.slice none 0 0),eq (.slice none 0 0),eq (.int .i64 0)]:=⟨_,z43,rfl⟩
theorem u7:ZC prog 52 [eq (.int .i64 0),eq (.string eE),eq (.string eE),eq (.string eE),eq (.string eE),eq (.bool false),eq (.bool false),eq (.int .i64 0),eq (.int .i64 0),eq (.int .i64 0),eq (.int .i64 0)]:=⟨_,vM,rfl⟩
theorem Ex:ZC prog 59 [eq (.int .i64 0),eq (.slice none 0 0),eq (.slice none 0 0),eq (.slice none 0 0)]:=⟨_,z59,rfl⟩
theorem Ax:ZC prog 66 [eq (.int .i64 0),eq (.slice none 0 0),eq (.slice none 0 0),eq (.slice none 0 0)]:=⟨_,z66,rfl⟩
theorem zc79:ZC prog 79 [eq (.string eE),eq (.string eE),eq (.string eE),eq (.bool false)]:=⟨_,z79,rfl⟩
theorem uk:ZC prog 81 [eq (.int .i64 0),eq (.string eE)]:=⟨_,Jj,rfl⟩
theorem zc89:ZC prog 89 [eq (.string eE),eq (.string eE),eq (.string eE),eq (.bool false)]:=⟨_,z89,rfl⟩
theorem zc91:ZC prog 91 [eq (.string eE),eq (.string eE),eq (.string eE),eq (.bool false),eq (.int .i64 0),eq (.string eE)]:=⟨_,z91,rfl⟩
structure ak where
 aH:Int
 ab:BA
 aj:BA
 bI:BA
 ae:BA
 aq:Bool
 kb:Bool
 bZ:Int
 aX:Int
 aV:Int
 bf:Int
 deriving DecidableEq,Inhabited
abbrev ak.enc (x:ak):Cs:=[eq (.int .i64 x.aH),eq (.string x.ab),eq (.string x.aj),eq (.string x.bI),eq (.string x.ae),eq (.bool x.aq),eq (.bool x.kb),eq (.int .i64 x.bZ),eq (.int .i64 x.aX),eq (.int .i64 x.aV),eq (.int .i64 x.bf)]
abbrev ak.K:Kd ak:=⟨11,default,ak.enc,fun _=>rfl,fun _=>(ai (ah rfl) (ai (ah rfl) (ai (ah rfl) (ai (ah rfl) (ai (ah rfl) (ai (ah rfl) (ai (ah rfl) (ai (ah rfl) (ai (ah rfl) (ai (ah rfl) (ai (ah rfl) bO)))))))))))⟩
structure jB where
 eb:Int
 fl:List ak
 rr:Int
 deriving DecidableEq,Inhabited
abbrev jB.enc (x:jB):Cs:=[eq (.int .i64 x.eb),sl ak.K x.fl,eq (.int .i64 x.rr)]
abbrev jB.K:Kd jB:=⟨3,default,jB.enc,fun _=>rfl,fun _=>(ai (ah rfl) (ai dL (ai (ah rfl) bO)))⟩
structure bB where
 ab:BA
 aj:BA
 ae:BA
 aq:Bool
 deriving DecidableEq,Inhabited
abbrev bB.enc (x:bB):Cs:=[eq (.string x.ab),eq (.string x.aj),eq (.string x.ae),eq (.bool x.aq)]
abbrev bB.K:Kd bB:=⟨4,default,bB.enc,fun _=>rfl,fun _=>(ai (ah rfl) (ai (ah rfl) (ai (ah rfl) (ai (ah rfl) bO))))⟩
structure Pos where
 bx:Int
 bV:BA
 deriving DecidableEq,Inhabited
abbrev Pos.enc (x:Pos):Cs:=[eq (.int .i64 x.bx),eq (.string x.bV)]
abbrev Pos.K:Kd Pos:=⟨2,default,Pos.enc,fun _=>rfl,fun _=>(ai (ah rfl) (ai (ah rfl) bO))⟩
structure j6 where
 iU:List (bB×Pos)
 deriving DecidableEq,Inhabited
structure jA where
 pW:j6
 qK:jB
 deriving DecidableEq,Inhabited
structure Cm where
 fv:Int
 deriving DecidableEq,Inhabited
abbrev Cm.enc (x:Cm):Cs:=[eq (.int .i64 x.fv)]
abbrev Cm.K:Kd Cm:=⟨1,default,Cm.enc,fun _=>rfl,fun _=>(ai (ah rfl) bO)⟩
structure lv where
 fn:Cm
 eb:Int
 deriving DecidableEq,Inhabited
abbrev lv.enc (x:lv):Cs:=[eq (.int .i64 x.fn.fv),eq (.int .i64 x.eb)]
abbrev lv.K:Kd lv:=⟨2,default,lv.enc,fun _=>rfl,fun _=>(ai (ah rfl) (ai (ah rfl) bO))⟩
structure S where
 deriving DecidableEq,Inhabited
abbrev S.enc (x:S):Cs:=[]
abbrev S.K:Kd S:=⟨0,default,S.enc,fun _=>rfl,fun _=>bO⟩
structure b8 where
 iU:lv
 eS:List BA
 ox:List (BA×Int)
 deriving DecidableEq,Inhabited
structure Event where
 bV:BA
 ab:BA
 ag:List BA
 ae:BA
 aj:BA
 bR:Int
 deriving DecidableEq,Inhabited
abbrev Event.enc (x:Event):Cs:=[eq (.string x.bV),eq (.string x.ab),sl aw x.ag,eq (.string x.ae),eq (.string x.aj),eq (.int .i64 x.bR)]
abbrev Event.K:Kd Event:=⟨6,default,Event.enc,fun _=>rfl,fun _=>(ai (ah rfl) (ai (ah rfl) (ai dL (ai (ah rfl) (ai (ah rfl) (ai (ah rfl) bO))))))⟩
structure aY where
 fe:Event
 cK:Int
 kM:Bool
 deriving DecidableEq,Inhabited
abbrev aY.enc (x:aY):Cs:=[eq (.string x.fe.bV),eq (.string x.fe.ab),sl aw x.fe.ag,eq (.string x.fe.ae),eq (.string x.fe.aj),eq (.int .i64 x.fe.bR),eq (.int .i64 x.cK),eq (.bool x.kM)]
abbrev aY.K:Kd aY:=⟨8,default,aY.enc,fun _=>rfl,fun _=>(ai (ah rfl) (ai (ah rfl) (ai dL (ai (ah rfl) (ai (ah rfl) (ai (ah rfl) (ai (ah rfl) (ai (ah rfl) bO))))))))⟩
structure bp where
 cQ:BA
 ao:List (BA×aY)
 deriving DecidableEq,Inhabited
structure aJ where
 bC:List (BA×bp)
 deriving DecidableEq,Inhabited
structure dq where
 eH:Int
 dx:BA
 deriving DecidableEq,Inhabited
abbrev dq.enc (x:dq):Cs:=[eq (.int .i64 x.eH),eq (.string x.dx)]
abbrev dq.K:Kd dq:=⟨2,default,dq.enc,fun _=>rfl,fun _=>(ai (ah rfl) (ai (ah rfl) bO))⟩
structure aQ where
 fl:List dq
 iU:List (BA×Int)
 deriving DecidableEq,Inhabited
structure bS where
 fl:List ak
 gV:aQ
 deriving DecidableEq,Inhabited
structure b7 where
 fl:List ak
 eV:aQ
 deriving DecidableEq,Inhabited
structure aK where
 ab:BA
 fL:List Event
 deriving DecidableEq,Inhabited
abbrev aK.enc (x:aK):Cs:=[eq (.string x.ab),sl Event.K x.fL]
abbrev aK.K:Kd aK:=⟨2,default,aK.enc,fun _=>rfl,fun _=>(ai (ah rfl) (ai dL bO))⟩
structure bA where
 fD:List aK
 deriving DecidableEq,Inhabited
abbrev bA.enc (x:bA):Cs:=[sl aK.K x.fD]
abbrev bA.K:Kd bA:=⟨1,default,bA.enc,fun _=>rfl,fun _=>(ai dL bO)⟩
structure Src where
 cI:aJ
 ay:jA
 aO:bS
 aR:b7
 fZ:b8
 deriving DecidableEq,Inhabited
structure MK where
 fK:bB
 eH:Pos
 deriving DecidableEq,Inhabited
abbrev MK.enc (x:MK):Cs:=[eq (.string x.fK.ab),eq (.string x.fK.aj),eq (.string x.fK.ae),eq (.bool x.fK.aq),eq (.int .i64 x.eH.bx),eq (.string x.eH.bV)]
abbrev MK.K:Kd MK:=⟨6,default,MK.enc,fun _=>rfl,fun _=>(ai (ah rfl) (ai (ah rfl) (ai (ah rfl) (ai (ah rfl) (ai (ah rfl) (ai (ah rfl) bO))))))⟩
structure kB where
 fL:List ak
 cH:List Bool
 deriving DecidableEq,Inhabited
abbrev kB.enc (x:kB):Cs:=[sl ak.K x.fL,sl bJ x.cH]
abbrev kB.K:Kd kB:=⟨2,default,kB.enc,fun _=>rfl,fun _=>(ai dL (ai dL bO))⟩
structure lF where
 fL:List ak
 cH:List Int
 deriving DecidableEq,Inhabited
abbrev lF.enc (x:lF):Cs:=[sl ak.K x.fL,sl (bz .i64) x.cH]
abbrev lF.K:Kd lF:=⟨2,default,lF.enc,fun _=>rfl,fun _=>(ai dL (ai dL bO))⟩
structure jO where
 aH:Int
 fK:bB
 mJ:BA
 deriving DecidableEq,Inhabited
abbrev jO.enc (x:jO):Cs:=[eq (.int .i64 x.aH),eq (.string x.fK.ab),eq (.string x.fK.aj),eq (.string x.fK.ae),eq (.bool x.fK.aq),eq (.string x.mJ)]
abbrev jO.K:Kd jO:=⟨6,default,jO.enc,fun _=>rfl,fun _=>(ai (ah rfl) (ai (ah rfl) (ai (ah rfl) (ai (ah rfl) (ai (ah rfl) (ai (ah rfl) bO))))))⟩
structure dy where
 fV:bA
 fM:List MK
 fT:kB
 fP:lF
 fL:List jO
 aL:Int
 deriving DecidableEq,Inhabited
abbrev dy.enc (x:dy):Cs:=[sl aK.K x.fV.fD,sl MK.K x.fM,sl ak.K x.fT.fL,sl bJ x.fT.cH,sl ak.K x.fP.fL,sl (bz .i64) x.fP.cH,sl jO.K x.fL,eq (.int .i64 x.aL)]
abbrev dy.K:Kd dy:=⟨8,default,dy.enc,fun _=>rfl,fun _=>(ai dL (ai dL (ai dL (ai dL (ai dL (ai dL (ai dL (ai (ah rfl) bO))))))))⟩
structure dA where
 aj:Int
 bR:Int
 ag:List Int
 ae:Int
 deriving DecidableEq,Inhabited
abbrev dA.enc (x:dA):Cs:=[eq (.int .i64 x.aj),eq (.int .i64 x.bR),sl (bz .i64) x.ag,eq (.int .i64 x.ae)]
abbrev dA.K:Kd dA:=⟨4,default,dA.enc,fun _=>rfl,fun _=>(ai (ah rfl) (ai (ah rfl) (ai dL (ai (ah rfl) bO))))⟩
structure n5 where
 pP:Int
 fL:List ak
 qm:Int
 deriving DecidableEq,Inhabited
abbrev n5.enc (x:n5):Cs:=[eq (.int .i64 x.pP),sl ak.K x.fL,eq (.int .i64 x.qm)]
abbrev n5.K:Kd n5:=⟨3,default,n5.enc,fun _=>rfl,fun _=>(ai (ah rfl) (ai dL (ai (ah rfl) bO)))⟩
structure qJ where
 fL:List MK
 fP:n5
 deriving DecidableEq,Inhabited
abbrev qJ.enc (x:qJ):Cs:=[sl MK.K x.fL,eq (.int .i64 x.fP.pP),sl ak.K x.fP.fL,eq (.int .i64 x.fP.qm)]
abbrev qJ.K:Kd qJ:=⟨4,default,qJ.enc,fun _=>rfl,fun _=>(ai dL (ai (ah rfl) (ai dL (ai (ah rfl) bO))))⟩
structure vV where
 aH:Int
 ab:BA
 aj:BA
 ae:BA
 aq:Bool
 deriving DecidableEq,Inhabited
abbrev vV.enc (x:vV):Cs:=[eq (.int .i64 x.aH),eq (.string x.ab),eq (.string x.aj),eq (.string x.ae),eq (.bool x.aq)]
abbrev vV.K:Kd vV:=⟨5,default,vV.enc,fun _=>rfl,fun _=>(ai (ah rfl) (ai (ah rfl) (ai (ah rfl) (ai (ah rfl) (ai (ah rfl) bO)))))⟩
structure jg where
 dx:bB
 eH:Pos
 deriving DecidableEq,Inhabited
abbrev jg.enc (x:jg):Cs:=[eq (.string x.dx.ab),eq (.string x.dx.aj),eq (.string x.dx.ae),eq (.bool x.dx.aq),eq (.int .i64 x.eH.bx),eq (.string x.eH.bV)]
abbrev jg.K:Kd jg:=⟨6,default,jg.enc,fun _=>rfl,fun _=>(ai (ah rfl) (ai (ah rfl) (ai (ah rfl) (ai (ah rfl) (ai (ah rfl) (ai (ah rfl) bO))))))⟩
structure fQ where
 ab:BA
 Cn:List BA
 deriving DecidableEq,Inhabited
abbrev fQ.enc (x:fQ):Cs:=[eq (.string x.ab),sl aw x.Cn]
abbrev fQ.K:Kd fQ:=⟨2,default,fQ.enc,fun _=>rfl,fun _=>(ai (ah rfl) (ai dL bO))⟩
structure fU where
 aj:BA
 aX:Int
 deriving DecidableEq,Inhabited
abbrev fU.enc (x:fU):Cs:=[eq (.string x.aj),eq (.int .i64 x.aX)]
abbrev fU.K:Kd fU:=⟨2,default,fU.enc,fun _=>rfl,fun _=>(ai (ah rfl) (ai (ah rfl) bO))⟩
structure uN where
 jD:Int
 ay:List jg
 aO:List fQ
 gP:List fU
 deriving DecidableEq,Inhabited
abbrev uN.enc (x:uN):Cs:=[eq (.int .i64 x.jD),sl jg.K x.ay,sl fQ.K x.aO,sl fU.K x.gP]
abbrev uN.K:Kd uN:=⟨4,default,uN.enc,fun _=>rfl,fun _=>(ai (ah rfl) (ai dL (ai dL (ai dL bO))))⟩
structure oJ where
 jD:Int
 ay:List MK
 aO:List fQ
 gP:List fU
 deriving DecidableEq,Inhabited
abbrev oJ.enc (x:oJ):Cs:=[eq (.int .i64 x.jD),sl MK.K x.ay,sl fQ.K x.aO,sl fU.K x.gP]
abbrev oJ.K:Kd oJ:=⟨4,default,oJ.enc,fun _=>rfl,fun _=>(ai (ah rfl) (ai dL (ai dL (ai dL bO))))⟩
inductive jV where
 | nil
 | d89 (x:bB)
 | d141 (x:BA)
 | d143 (x:BA)
 deriving DecidableEq,Inhabited
def jV.p:jV→VP
 | .nil=>eq .nilIface
 | .d89 x=>ifp 89 (agg (bB.enc x))
 | .d141 x=>ifp 141 (eq (.string x))
 | .d143 x=>ifp 143 (eq (.string x))
def jV.g89:jV→Option bB
 | .d89 x=>some x
 | _=>none
def jV.tC:jV→Option BA
 | .d141 x=>some x
 | _=>none
def jV.sW:jV→Option BA
 | .d143 x=>some x
 | _=>none
theorem jV.IE (d:jV):∀ R v w,(jV.p d).p R v→∃ u,(Instr.typeAssert v 20 89 true).run prog w = .ok (.tuple #[u,.bool (jV.g89 d).isSome]) w∧(agg (bB.enc ((jV.g89 d).getD (⟨eE,eE,eE,false⟩:bB)))).p R u:=by
 intro R v w h
 cases d with
 | nil=>obtain rfl:v = .nilIface:=h; exact ⟨.agg #[.string ⟨#[]⟩,.string ⟨#[]⟩,.string ⟨#[]⟩,.bool false],kr,⟨_,rfl,Cs.eqz rfl⟩⟩
 | d89 x=>obtain ⟨u,rfl,h⟩:=h; exact ⟨u,kr,h⟩
 | d141 x=>obtain ⟨u,rfl,h⟩:=h; exact ⟨.agg #[.string ⟨#[]⟩,.string ⟨#[]⟩,.string ⟨#[]⟩,.bool false],kr,⟨_,rfl,Cs.eqz rfl⟩⟩
 | d143 x=>obtain ⟨u,rfl,h⟩:=h; exact ⟨.agg #[.string ⟨#[]⟩,.string ⟨#[]⟩,.string ⟨#[]⟩,.bool false],kr,⟨_,rfl,Cs.eqz rfl⟩⟩
theorem jV.FN (d:jV):∀ R v w,(jV.p d).p R v→∃ u,(Instr.typeAssert v 20 141 true).run prog w = .ok (.tuple #[u,.bool (jV.tC d).isSome]) w∧(eq (.string ((jV.tC d).getD eE))).p R u:=by
 intro R v w h
 cases d with
 | nil=>obtain rfl:v = .nilIface:=h; exact ⟨.string ⟨#[]⟩,kr,rfl⟩
 | d89 x=>obtain ⟨u,rfl,h⟩:=h; exact ⟨.string ⟨#[]⟩,kr,rfl⟩
 | d141 x=>obtain ⟨u,rfl,h⟩:=h; exact ⟨u,kr,h⟩
 | d143 x=>obtain ⟨u,rfl,h⟩:=h; exact ⟨.string ⟨#[]⟩,kr,rfl⟩
theorem jV.Ge (d:jV):∀ R v w,(jV.p d).p R v→∃ u,(Instr.typeAssert v 20 143 true).run prog w = .ok (.tuple #[u,.bool (jV.sW d).isSome]) w∧(eq (.string ((jV.sW d).getD eE))).p R u:=by
 intro R v w h
 cases d with
 | nil=>obtain rfl:v = .nilIface:=h; exact ⟨.string ⟨#[]⟩,kr,rfl⟩
 | d89 x=>obtain ⟨u,rfl,h⟩:=h; exact ⟨.string ⟨#[]⟩,kr,rfl⟩
 | d141 x=>obtain ⟨u,rfl,h⟩:=h; exact ⟨.string ⟨#[]⟩,kr,rfl⟩
 | d143 x=>obtain ⟨u,rfl,h⟩:=h; exact ⟨u,kr,h⟩
def bB.cv (k:bB):List Value:=[.string k.ab,.string k.aj,.string k.ae,.bool k.aq]
def bB.kv (k:bB):Value:=.agg (bB.cv k).toArray
theorem bB.kq (k:bB):∀ R u,(agg (bB.enc k)).p R u→u=bB.kv k:=fun _ _ h=>aggq (vs:=bB.cv k) rfl h
theorem eqt89 (x y:bB) {d:Nat} {w:World}:(Op.equalIn (d+2) 89 (.agg [.string x.ab,.string x.aj,.string x.ae,.bool x.aq].toArray) (.agg [.string y.ab,.string y.aj,.string y.ae,.bool y.aq].toArray)).run prog w = .ok (decide (x=y)) w:=by
 have e:decide (x=y)=((decide (x.ab=y.ab)&&(decide (x.aj=y.aj)&&(decide (x.ae=y.ae)&&(decide (x.aq=y.aq)&&true))))):=by cases x; cases y; rw [Bool.eq_iff_iff]; simp
 rw [e]
 exact nA JF st89 (dh dc (aI U9 rfl rfl) (aI U9 rfl rfl) (lW U9) (dh dc (aI U9 rfl rfl) (aI U9 rfl rfl) (lW U9) (dh dc (aI U9 rfl rfl) (aI U9 rfl rfl) (lW U9) (dh dc (aI U4 rfl rfl) (aI U4 rfl rfl) (sD U4) rk))))
theorem C9:se prog 89 bB.kv:=yL (fun k=>(bB.cv k).toArray) JF (fun _=>rfl) (fun k=>(all_cons ⟨⟨_,U9,.inl rfl⟩,_,fun _=>aI U9 rfl rfl⟩ (all_cons ⟨⟨_,U9,.inl rfl⟩,_,fun _=>aI U9 rfl rfl⟩ (all_cons ⟨⟨_,U9,.inl rfl⟩,_,fun _=>aI U9 rfl rfl⟩ (all_cons ⟨⟨_,U4,.inr (.inl rfl)⟩,_,fun _=>aI U4 rfl rfl⟩ all_nil))))) (fun k c w=>mI 2 dc (fun _=>eqt89 k c)) (fun k=>by simp [bB.kv,bB.cv,Instr.sameBits,yM])
theorem Ko (x y:bB) {d:Nat} {w:World}:(Op.equalIn (d+2) 79 (.agg [.string x.ab,.string x.aj,.string x.ae,.bool x.aq].toArray) (.agg [.string y.ab,.string y.aj,.string y.ae,.bool y.aq].toArray)).run prog w = .ok (decide (x=y)) w:=by
 have e:decide (x=y)=((decide (x.ab=y.ab)&&(decide (x.aj=y.aj)&&(decide (x.ae=y.ae)&&(decide (x.aq=y.aq)&&true))))):=by cases x; cases y; rw [Bool.eq_iff_iff]; simp
 rw [e]
 exact nA LH st79 (dh dc (aI U9 rfl rfl) (aI U9 rfl rfl) (lW U9) (dh dc (aI U9 rfl rfl) (aI U9 rfl rfl) (lW U9) (dh dc (aI U9 rfl rfl) (aI U9 rfl rfl) (lW U9) (dh dc (aI U4 rfl rfl) (aI U4 rfl rfl) (sD U4) rk))))
theorem DJ (x y:ak) {d:Nat} {w:World}:(Op.equalIn (d+2) 52 (.agg [.int .i64 x.aH,.string x.ab,.string x.aj,.string x.bI,.string x.ae,.bool x.aq,.bool x.kb,.int .i64 x.bZ,.int .i64 x.aX,.int .i64 x.aV,.int .i64 x.bf].toArray) (.agg [.int .i64 y.aH,.string y.ab,.string y.aj,.string y.bI,.string y.ae,.bool y.aq,.bool y.kb,.int .i64 y.bZ,.int .i64 y.aX,.int .i64 y.aV,.int .i64 y.bf].toArray)).run prog w = .ok (decide (x=y)) w:=by
 have e:decide (x=y)=((decide (x.aH=y.aH)&&(decide (x.ab=y.ab)&&(decide (x.aj=y.aj)&&(decide (x.bI=y.bI)&&(decide (x.ae=y.ae)&&(decide (x.aq=y.aq)&&(decide (x.kb=y.kb)&&(decide (x.bZ=y.bZ)&&(decide (x.aX=y.aX)&&(decide (x.aV=y.aV)&&(decide (x.bf=y.bf)&&true)))))))))))):=by cases x; cases y; rw [Bool.eq_iff_iff]; simp
 rw [e]
 exact nA gN st52 (dh dc (aI U3 rfl rfl) (aI U3 rfl rfl) (eq_int U3) (dh dc (aI U9 rfl rfl) (aI U9 rfl rfl) (lW U9) (dh dc (aI U9 rfl rfl) (aI U9 rfl rfl) (lW U9) (dh dc (aI U9 rfl rfl) (aI U9 rfl rfl) (lW U9) (dh dc (aI U9 rfl rfl) (aI U9 rfl rfl) (lW U9) (dh dc (aI U4 rfl rfl) (aI U4 rfl rfl) (sD U4) (dh dc (aI U4 rfl rfl) (aI U4 rfl rfl) (sD U4) (dh dc (aI U3 rfl rfl) (aI U3 rfl rfl) (eq_int U3) (dh dc (aI U3 rfl rfl) (aI U3 rfl rfl) (eq_int U3) (dh dc (aI U3 rfl rfl) (aI U3 rfl rfl) (eq_int U3) (dh dc (aI U3 rfl rfl) (aI U3 rfl rfl) (eq_int U3) rk)))))))))))
theorem Ks (x y:vV) {d:Nat} {w:World}:(Op.equalIn (d+2) 294 (.agg [.int .i64 x.aH,.string x.ab,.string x.aj,.string x.ae,.bool x.aq].toArray) (.agg [.int .i64 y.aH,.string y.ab,.string y.aj,.string y.ae,.bool y.aq].toArray)).run prog w = .ok (decide (x=y)) w:=by
 have e:decide (x=y)=((decide (x.aH=y.aH)&&(decide (x.ab=y.ab)&&(decide (x.aj=y.aj)&&(decide (x.ae=y.ae)&&(decide (x.aq=y.aq)&&true)))))):=by cases x; cases y; rw [Bool.eq_iff_iff]; simp
 rw [e]
 exact nA Ll st294 (dh dc (aI U3 rfl rfl) (aI U3 rfl rfl) (eq_int U3) (dh dc (aI U9 rfl rfl) (aI U9 rfl rfl) (lW U9) (dh dc (aI U9 rfl rfl) (aI U9 rfl rfl) (lW U9) (dh dc (aI U9 rfl rfl) (aI U9 rfl rfl) (lW U9) (dh dc (aI U4 rfl rfl) (aI U4 rfl rfl) (sD U4) rk)))))
theorem eqt81 (x y:Pos) {d:Nat} {w:World}:(Op.equalIn (d+2) 81 (.agg [.int .i64 x.bx,.string x.bV].toArray) (.agg [.int .i64 y.bx,.string y.bV].toArray)).run prog w = .ok (decide (x=y)) w:=by
 have e:decide (x=y)=((decide (x.bx=y.bx)&&(decide (x.bV=y.bV)&&true))):=by cases x; cases y; rw [Bool.eq_iff_iff]; simp
 rw [e]
 exact nA wI st81 (dh dc (aI U3 rfl rfl) (aI U3 rfl rfl) (eq_int U3) (dh dc (aI U9 rfl rfl) (aI U9 rfl rfl) (lW U9) rk))
theorem eqt83 (x y:MK) {d:Nat} {w:World}:(Op.equalIn (d+3) 83 (.agg [.string x.fK.ab,.string x.fK.aj,.string x.fK.ae,.bool x.fK.aq,.int .i64 x.eH.bx,.string x.eH.bV].toArray) (.agg [.string y.fK.ab,.string y.fK.aj,.string y.fK.ae,.bool y.fK.aq,.int .i64 y.eH.bx,.string y.eH.bV].toArray)).run prog w = .ok (decide (x=y)) w:=by
 have e:decide (x=y)=((decide (x.fK=y.fK)&&(decide (x.eH=y.eH)&&true))):=by cases x; cases y; rw [Bool.eq_iff_iff]; simp
 rw [e]
 exact nA pV st83 (dh dc (run_parts LH rfl Ke) (run_parts LH rfl Ke) (Ko _ _) (dh dc (run_parts wI rfl Ak) (run_parts wI rfl Ak) (eqt81 _ _) rk))
def jB.O (p:OV) (m:jB):As:=yl (γ:=Nat×OV) (fun g=>p.1 = .pointer (some ⟨g.1,0,none⟩)) (fun g=>[aC g.1 247 [eq (.int .i64 m.eb),eq g.2.1,eq (.int .i64 m.rr)],own ak.K g.2.1 m.fl])
theorem jB.jf {l:List As} {p:OV} {m:jB} (j:Nat) (hj:l[j]? = some (jB.O p m)):∀ R w,St R l w→∃ g:Nat×OV,p.1 = .pointer (some ⟨g.1,0,none⟩)∧St R ([aC g.1 247 [eq (.int .i64 m.eb),eq g.2.1,eq (.int .i64 m.rr)],own ak.K g.2.1 m.fl]++l.eraseIdx j) w:=ke j hj
theorem jB.shut {l r:List As} {p:OV} {m:jB} (g:Nat×OV) (hg:p.1 = .pointer (some ⟨g.1,0,none⟩)) (hp:l.Perm ([aC g.1 247 [eq (.int .i64 m.eb),eq g.2.1,eq (.int .i64 m.rr)],own ak.K g.2.1 m.fl]++r)):∀ R w,St R l w→∃ _:Unit,True∧St R (jB.O p m::r) w:=jH _ _ g hg hp
def j6.O (p:OV) (m:j6):As:=yl (γ:=Nat×OV) (fun g=>p.1 = .pointer (some ⟨g.1,0,none⟩)) (fun g=>[aC g.1 250 [eq g.2.1],mp bB.kv (fun x:Pos=>agg (Pos.enc x)) g.2.1 m.iU])
theorem j6.jf {l:List As} {p:OV} {m:j6} (j:Nat) (hj:l[j]? = some (j6.O p m)):∀ R w,St R l w→∃ g:Nat×OV,p.1 = .pointer (some ⟨g.1,0,none⟩)∧St R ([aC g.1 250 [eq g.2.1],mp bB.kv (fun x:Pos=>agg (Pos.enc x)) g.2.1 m.iU]++l.eraseIdx j) w:=ke j hj
theorem j6.shut {l r:List As} {p:OV} {m:j6} (g:Nat×OV) (hg:p.1 = .pointer (some ⟨g.1,0,none⟩)) (hp:l.Perm ([aC g.1 250 [eq g.2.1],mp bB.kv (fun x:Pos=>agg (Pos.enc x)) g.2.1 m.iU]++r)):∀ R w,St R l w→∃ _:Unit,True∧St R (j6.O p m::r) w:=jH _ _ g hg hp
def jA.O (p:OV) (m:jA):As:=yl (γ:=Nat×OV×OV) (fun g=>p.1 = .pointer (some ⟨g.1,0,none⟩)) (fun g=>[aC g.1 177 [eq g.2.1.1,eq g.2.2.1],j6.O g.2.1 m.pW,jB.O g.2.2 m.qK])
theorem jA.nn {p:OV} {m:jA}:NN (jA.O p m) p.1:=by unfold jA.O; exact rT (γ:=Nat×OV×OV) (b:=fun g=>g.1)
theorem jA.jf {l:List As} {p:OV} {m:jA} (j:Nat) (hj:l[j]? = some (jA.O p m)):∀ R w,St R l w→∃ g:Nat×OV×OV,p.1 = .pointer (some ⟨g.1,0,none⟩)∧St R ([aC g.1 177 [eq g.2.1.1,eq g.2.2.1],j6.O g.2.1 m.pW,jB.O g.2.2 m.qK]++l.eraseIdx j) w:=ke j hj
theorem jA.shut {l r:List As} {p:OV} {m:jA} (g:Nat×OV×OV) (hg:p.1 = .pointer (some ⟨g.1,0,none⟩)) (hp:l.Perm ([aC g.1 177 [eq g.2.1.1,eq g.2.2.1],j6.O g.2.1 m.pW,jB.O g.2.2 m.qK]++r)):∀ R w,St R l w→∃ _:Unit,True∧St R (jA.O p m::r) w:=jH _ _ g hg hp
def lv.O (p:OV) (m:lv):As:=yl (γ:=Nat) (fun g=>p.1 = .pointer (some ⟨g,0,none⟩)) (fun g=>[aC g 257 [eq (.int .i64 m.fn.fv),eq (.int .i64 m.eb)]])
theorem lv.nn {p:OV} {m:lv}:NN (lv.O p m) p.1:=by unfold lv.O; exact rT (γ:=Nat) (b:=fun g=>g)
theorem lv.jf {l:List As} {p:OV} {m:lv} (j:Nat) (hj:l[j]? = some (lv.O p m)):∀ R w,St R l w→∃ g:Nat,p.1 = .pointer (some ⟨g,0,none⟩)∧St R ([aC g 257 [eq (.int .i64 m.fn.fv),eq (.int .i64 m.eb)]]++l.eraseIdx j) w:=ke j hj
theorem lv.shut {l r:List As} {p:OV} {m:lv} (g:Nat) (hg:p.1 = .pointer (some ⟨g,0,none⟩)) (hp:l.Perm ([aC g 257 [eq (.int .i64 m.fn.fv),eq (.int .i64 m.eb)]]++r)):∀ R w,St R l w→∃ _:Unit,True∧St R (lv.O p m::r) w:=jH _ _ g hg hp
def b8.O (p:OV) (m:b8):As:=yl (γ:=Nat×OV×OV×OV) (fun g=>p.1 = .pointer (some ⟨g.1,0,none⟩)) (fun g=>[aC g.1 183 [eq g.2.1.1,eq g.2.2.1.1,eq g.2.2.2.1],lv.O g.2.1 m.iU,own aw g.2.2.1.1 m.eS,mp Value.string (fun x:Int=>eq (.int .i64 x)) g.2.2.2.1 m.ox])
theorem b8.nn {p:OV} {m:b8}:NN (b8.O p m) p.1:=by unfold b8.O; exact rT (γ:=Nat×OV×OV×OV) (b:=fun g=>g.1)
theorem b8.jf {l:List As} {p:OV} {m:b8} (j:Nat) (hj:l[j]? = some (b8.O p m)):∀ R w,St R l w→∃ g:Nat×OV×OV×OV,p.1 = .pointer (some ⟨g.1,0,none⟩)∧St R ([aC g.1 183 [eq g.2.1.1,eq g.2.2.1.1,eq g.2.2.2.1],lv.O g.2.1 m.iU,own aw g.2.2.1.1 m.eS,mp Value.string (fun x:Int=>eq (.int .i64 x)) g.2.2.2.1 m.ox]++l.eraseIdx j) w:=ke j hj
theorem b8.shut {l r:List As} {p:OV} {m:b8} (g:Nat×OV×OV×OV) (hg:p.1 = .pointer (some ⟨g.1,0,none⟩)) (hp:l.Perm ([aC g.1 183 [eq g.2.1.1,eq g.2.2.1.1,eq g.2.2.2.1],lv.O g.2.1 m.iU,own aw g.2.2.1.1 m.eS,mp Value.string (fun x:Int=>eq (.int .i64 x)) g.2.2.2.1 m.ox]++r)):∀ R w,St R l w→∃ _:Unit,True∧St R (b8.O p m::r) w:=jH _ _ g hg hp
def aY.O (p:OV) (m:aY):As:=yl (γ:=Nat) (fun g=>p.1 = .pointer (some ⟨g,0,none⟩)) (fun g=>[aC g 268 [eq (.string m.fe.bV),eq (.string m.fe.ab),sl aw m.fe.ag,eq (.string m.fe.ae),eq (.string m.fe.aj),eq (.int .i64 m.fe.bR),eq (.int .i64 m.cK),eq (.bool m.kM)]])
theorem aY.nn {p:OV} {m:aY}:NN (aY.O p m) p.1:=by unfold aY.O; exact rT (γ:=Nat) (b:=fun g=>g)
theorem aY.jf {l:List As} {p:OV} {m:aY} (j:Nat) (hj:l[j]? = some (aY.O p m)):∀ R w,St R l w→∃ g:Nat,p.1 = .pointer (some ⟨g,0,none⟩)∧St R ([aC g 268 [eq (.string m.fe.bV),eq (.string m.fe.ab),sl aw m.fe.ag,eq (.string m.fe.ae),eq (.string m.fe.aj),eq (.int .i64 m.fe.bR),eq (.int .i64 m.cK),eq (.bool m.kM)]]++l.eraseIdx j) w:=ke j hj
theorem aY.shut {l r:List As} {p:OV} {m:aY} (g:Nat) (hg:p.1 = .pointer (some ⟨g,0,none⟩)) (hp:l.Perm ([aC g 268 [eq (.string m.fe.bV),eq (.string m.fe.ab),sl aw m.fe.ag,eq (.string m.fe.ae),eq (.string m.fe.aj),eq (.int .i64 m.fe.bR),eq (.int .i64 m.cK),eq (.bool m.kM)]]++r)):∀ R w,St R l w→∃ _:Unit,True∧St R (aY.O p m::r) w:=jH _ _ g hg hp
def bp.O (p:OV) (m:bp):As:=yl (γ:=Nat×OV) (fun g=>p.1 = .pointer (some ⟨g.1,0,none⟩)) (fun g=>[aC g.1 265 [eq (.string m.cQ),eq g.2.1],kU Value.string aY.O g.2.1 m.ao])
theorem bp.nn {p:OV} {m:bp}:NN (bp.O p m) p.1:=by unfold bp.O; exact rT (γ:=Nat×OV) (b:=fun g=>g.1)
theorem bp.jf {l:List As} {p:OV} {m:bp} (j:Nat) (hj:l[j]? = some (bp.O p m)):∀ R w,St R l w→∃ g:Nat×OV,p.1 = .pointer (some ⟨g.1,0,none⟩)∧St R ([aC g.1 265 [eq (.string m.cQ),eq g.2.1],kU Value.string aY.O g.2.1 m.ao]++l.eraseIdx j) w:=ke j hj
theorem bp.shut {l r:List As} {p:OV} {m:bp} (g:Nat×OV) (hg:p.1 = .pointer (some ⟨g.1,0,none⟩)) (hp:l.Perm ([aC g.1 265 [eq (.string m.cQ),eq g.2.1],kU Value.string aY.O g.2.1 m.ao]++r)):∀ R w,St R l w→∃ _:Unit,True∧St R (bp.O p m::r) w:=jH _ _ g hg hp
def aJ.O (p:OV) (m:aJ):As:=yl (γ:=Nat×OV) (fun g=>p.1 = .pointer (some ⟨g.1,0,none⟩)) (fun g=>[aC g.1 186 [eq g.2.1],kU Value.string bp.O g.2.1 m.bC])
theorem aJ.nn {p:OV} {m:aJ}:NN (aJ.O p m) p.1:=by unfold aJ.O; exact rT (γ:=Nat×OV) (b:=fun g=>g.1)
theorem aJ.jf {l:List As} {p:OV} {m:aJ} (j:Nat) (hj:l[j]? = some (aJ.O p m)):∀ R w,St R l w→∃ g:Nat×OV,p.1 = .pointer (some ⟨g.1,0,none⟩)∧St R ([aC g.1 186 [eq g.2.1],kU Value.string bp.O g.2.1 m.bC]++l.eraseIdx j) w:=ke j hj
theorem aJ.shut {l r:List As} {p:OV} {m:aJ} (g:Nat×OV) (hg:p.1 = .pointer (some ⟨g.1,0,none⟩)) (hp:l.Perm ([aC g.1 186 [eq g.2.1],kU Value.string bp.O g.2.1 m.bC]++r)):∀ R w,St R l w→∃ _:Unit,True∧St R (aJ.O p m::r) w:=jH _ _ g hg hp
def aQ.O (p:OV) (m:aQ):As:=yl (γ:=Nat×OV×OV) (fun g=>p.1 = .pointer (some ⟨g.1,0,none⟩)) (fun g=>[aC g.1 261 [eq g.2.1.1,eq g.2.2.1],own dq.K g.2.1.1 m.fl,mp Value.string (fun x:Int=>eq (.int .i64 x)) g.2.2.1 m.iU])
theorem aQ.nn {p:OV} {m:aQ}:NN (aQ.O p m) p.1:=by unfold aQ.O; exact rT (γ:=Nat×OV×OV) (b:=fun g=>g.1)
theorem aQ.jf {l:List As} {p:OV} {m:aQ} (j:Nat) (hj:l[j]? = some (aQ.O p m)):∀ R w,St R l w→∃ g:Nat×OV×OV,p.1 = .pointer (some ⟨g.1,0,none⟩)∧St R ([aC g.1 261 [eq g.2.1.1,eq g.2.2.1],own dq.K g.2.1.1 m.fl,mp Value.string (fun x:Int=>eq (.int .i64 x)) g.2.2.1 m.iU]++l.eraseIdx j) w:=ke j hj
theorem aQ.shut {l r:List As} {p:OV} {m:aQ} (g:Nat×OV×OV) (hg:p.1 = .pointer (some ⟨g.1,0,none⟩)) (hp:l.Perm ([aC g.1 261 [eq g.2.1.1,eq g.2.2.1],own dq.K g.2.1.1 m.fl,mp Value.string (fun x:Int=>eq (.int .i64 x)) g.2.2.1 m.iU]++r)):∀ R w,St R l w→∃ _:Unit,True∧St R (aQ.O p m::r) w:=jH _ _ g hg hp
def bS.O (p:OV) (m:bS):As:=yl (γ:=Nat×OV×OV) (fun g=>p.1 = .pointer (some ⟨g.1,0,none⟩)) (fun g=>[aC g.1 190 [eq g.2.1.1,eq g.2.2.1],own ak.K g.2.1.1 m.fl,aQ.O g.2.2 m.gV])
theorem bS.nn {p:OV} {m:bS}:NN (bS.O p m) p.1:=by unfold bS.O; exact rT (γ:=Nat×OV×OV) (b:=fun g=>g.1)
theorem bS.jf {l:List As} {p:OV} {m:bS} (j:Nat) (hj:l[j]? = some (bS.O p m)):∀ R w,St R l w→∃ g:Nat×OV×OV,p.1 = .pointer (some ⟨g.1,0,none⟩)∧St R ([aC g.1 190 [eq g.2.1.1,eq g.2.2.1],own ak.K g.2.1.1 m.fl,aQ.O g.2.2 m.gV]++l.eraseIdx j) w:=ke j hj
theorem bS.shut {l r:List As} {p:OV} {m:bS} (g:Nat×OV×OV) (hg:p.1 = .pointer (some ⟨g.1,0,none⟩)) (hp:l.Perm ([aC g.1 190 [eq g.2.1.1,eq g.2.2.1],own ak.K g.2.1.1 m.fl,aQ.O g.2.2 m.gV]++r)):∀ R w,St R l w→∃ _:Unit,True∧St R (bS.O p m::r) w:=jH _ _ g hg hp
def b7.O (p:OV) (m:b7):As:=yl (γ:=Nat×OV×OV) (fun g=>p.1 = .pointer (some ⟨g.1,0,none⟩)) (fun g=>[aC g.1 192 [eq g.2.1.1,eq g.2.2.1],own ak.K g.2.1.1 m.fl,aQ.O g.2.2 m.eV])
theorem b7.nn {p:OV} {m:b7}:NN (b7.O p m) p.1:=by unfold b7.O; exact rT (γ:=Nat×OV×OV) (b:=fun g=>g.1)
theorem b7.jf {l:List As} {p:OV} {m:b7} (j:Nat) (hj:l[j]? = some (b7.O p m)):∀ R w,St R l w→∃ g:Nat×OV×OV,p.1 = .pointer (some ⟨g.1,0,none⟩)∧St R ([aC g.1 192 [eq g.2.1.1,eq g.2.2.1],own ak.K g.2.1.1 m.fl,aQ.O g.2.2 m.eV]++l.eraseIdx j) w:=ke j hj
theorem b7.shut {l r:List As} {p:OV} {m:b7} (g:Nat×OV×OV) (hg:p.1 = .pointer (some ⟨g.1,0,none⟩)) (hp:l.Perm ([aC g.1 192 [eq g.2.1.1,eq g.2.2.1],own ak.K g.2.1.1 m.fl,aQ.O g.2.2 m.eV]++r)):∀ R w,St R l w→∃ _:Unit,True∧St R (b7.O p m::r) w:=jH _ _ g hg hp
def jX (g:BA→Option Bool):List VP→VP→Prop:=fun vs ret=>∃ a0 r,g a0=some r∧vs=[eq (.string a0)]∧ret=eq (.bool r)
def kC (X:As) (g:BA→Option Bool):VP:=fnx prog X (jX g)
def pY (g:Int→Option Bool):List VP→VP→Prop:=fun vs ret=>∃ a0 r,g a0=some r∧vs=[eq (.int .u8 a0)]∧ret=eq (.bool r)
def gX (g:Int→Option Bool):VP:=IS prog (pY g)
def oo:Kd (Int→Option Bool):=⟨1,fun _=>none,fun g=>[gX g],fun _=>rfl,fun _ p h R v hv=>by simp at h; subst h; exact n9 R v hv⟩
def p7 (g:Int→Int→Int→Option Bool):List VP→VP→Prop:=fun vs ret=>∃ a0 a1 a2 r,g a0 a1 a2=some r∧vs=[eq (.int .i64 a0),eq (.int .i64 a1),eq (.int .i64 a2)]∧ret=eq (.bool r)
def nb (g:Int→Int→Int→Option Bool):VP:=IS prog (p7 g)
def mb (g:ak→Option Bool):List VP→VP→Prop:=fun vs ret=>∃ a0 r,g a0=some r∧vs=[agg (ak.enc a0)]∧ret=eq (.bool r)
def jW (g:ak→Option Bool):VP:=IS prog (mb g)
def iG:Kd (ak→Option Bool):=⟨1,fun _=>none,fun g=>[jW g],fun _=>rfl,fun _ p h R v hv=>by simp at h; subst h; exact n9 R v hv⟩
def oV (g:ak→ak→Option Int):List VP→VP→Prop:=fun vs ret=>∃ a0 a1 r,g a0 a1=some r∧vs=[agg (ak.enc a0),agg (ak.enc a1)]∧ret=eq (.int .i64 r)
def pM (g:ak→ak→Option Int):VP:=IS prog (oV g)
def o8 (g:ak→BA→Option Int):List VP→VP→Prop:=fun vs ret=>∃ a0 a1 r,g a0 a1=some r∧vs=[agg (ak.enc a0),eq (.string a1)]∧ret=eq (.int .i64 r)
def pS (g:ak→BA→Option Int):VP:=IS prog (o8 g)
def sA.f (a0:Int):Option ((Option jB)×Int):=cond (decide (a0<1)) (some (none,1)) (cond (decide (1000<a0)) (some (none,1)) (some (some (⟨a0,([]:List ak),0⟩:jB),0)))
def oh.f:Option (j6):=some (⟨([]:List (bB×Pos))⟩:j6)
def oB.f (a0:Int):Option ((Option jA)×Int):=(sA.f a0).bind fun t7=>cond (t7.2 != 0) (some (none,t7.2)) ((oh.f).bind fun t11=>an (t7.1.isSome=true) (some (some (⟨t11,t7.1.getD default⟩:jA),0)))
def oE.f (a0:Int) (a1:Int):Option ((Option lv)×Int):=cond (decide (a1<1)) (some (none,1)) (cond (decide (1099511627776<a1)) (some (none,1)) (cond (decide (a0<0)) (some (none,1)) (cond (decide (a1<a0)) (some (none,1)) (some (some (⟨(⟨a0⟩:Cm),a1⟩:lv),0)))))
def nC.f (a0:Int) (a1:Int):Option ((Option b8)×Int):=(oE.f a0 a1).bind fun t24=>cond (t24.2 != 0) (some (none,t24.2)) (an (t24.1.isSome=true) (some (some (⟨t24.1.getD default,([]:List BA),([]:List (BA×Int))⟩:b8),0)))
def sC.f:Option (aJ):=some (⟨([]:List (BA×bp))⟩:aJ)
def oS.f:Option (aQ):=some (⟨([]:List dq),([]:List (BA×Int))⟩:aQ)
def nE.f:Option (bS):=(oS.f).bind fun t35=>some (⟨([]:List ak),t35⟩:bS)
def lP.f:Option (b7):=(oS.f).bind fun t39=>some (⟨([]:List ak),t39⟩:b7)
def uD.f (a0:BA):Option (bp):=some (⟨a0,([]:List (BA×aY))⟩:bp)
def aP.f (a0:aJ) (a1:BA):Option bp:=cond (mget a0.bC a1).isSome (some ((mget a0.bC a1).getD default)) (uD.f a1)
def slices_IndexFunc_string.l0 (k:Nat) (a0:List BA) (a1:BA→Option Bool):Nat→Int→Option ((Int×Bool) ⊕ (Int))
 | 0,_=>none
 | j52+1,x46=>cond (decide (x46<(a0.length:Int))) (an (iB x46 a0.length) ((a1 (aw.at a0 x46)).bind fun t49=>cond t49 (some (.inr x46)) (slices_IndexFunc_string.l0 k a0 a1 j52 (av (x46+1))))) (some (.inl (x46,decide (x46<(a0.length:Int)))))
def aZ.l0 (k:Nat) (a0:List BA) (a1:(BA→Option Bool)):Nat→Int→Option ((Int×Bool) ⊕ (Int))
 | 0,_=>none
 | j61+1,x55=>cond (decide (x55<(a0.length:Int))) (an (iB x55 a0.length) ((a1 (aw.at a0 x55)).bind fun t58=>cond t58 (some (.inr x55)) (aZ.l0 k a0 a1 j61 (av (x55+1))))) (some (.inl (x55,decide (x55<(a0.length:Int)))))
def aZ.f (k:Nat) (a0:List BA) (a1:(BA→Option Bool)):Option (Int):=(aZ.l0 k a0 a1 k 0).bind (fall fun p54=>some (-1))
def aA.l0 (k:Nat) (a0:List BA) (a1:(BA→Option Bool)):Nat→Int→Option ((Int×Bool) ⊕ (Int))
 | 0,_=>none
 | j71+1,x64=>cond (decide (x64<(a0.length:Int))) (an (iB x64 a0.length) ((a1 (a0.getD x64.toNat default)).bind fun t68=>cond t68 (some (.inr x64)) (aA.l0 k a0 a1 j71 (av (x64+1))))) (some (.inl (x64,decide (x64<(a0.length:Int)))))
def aA.f (k:Nat) (a0:List BA) (a1:(BA→Option Bool)):Option (Int):=(aA.l0 k a0 a1 k 0).bind (fall fun p63=>some (-1))
def cF.f (k:Nat) (a0:List BA) (a1:(BA→Option Bool)):Option (Bool):=(aZ.f k a0 a1).bind fun t75=>some (decide (0≤t75))
def cN.f (k:Nat) (a0:List BA) (a1:(BA→Option Bool)):Option (Bool):=(aA.f k a0 a1).bind fun t77=>some (decide (0≤t77))
def fm.f (a0:BA) (a1:BA):Option (Bool):=cond (decide ((a1.size:Int)≤(a0.size:Int))) (an ((0:Int)≤(a1.size:Int)∧0≤(a1.size:Int).toNat∧(a1.size:Int).toNat≤a0.size) (some (decide ((a0.extract 0 ((a1.size:Int).toNat))=a1)))) (some false)
def fu.f (a0:BA) (a1:BA):Option (BA×Bool):=(fm.f a0 a1).bind fun t81=>cond (!t81) (some (a0,false)) (an ((0:Int)≤(a1.size:Int)∧(a1.size:Int).toNat≤a0.size∧a0.size≤a0.size) (some (a0.extract (a1.size:Int).toNat a0.size,true)))
def eC.f (a0:BA) (a1:BA):Option (BA×Bool):=(fu.f a0 a1).bind fun t85=>some (t85.1,t85.2)
def iX.f (a0:Int):Option (Bool):=cond (decide (97≤a0)) (cond (decide (a0≤122)) (some true) (cond (decide (48≤a0)) (some (decide (a0≤57))) (some false))) (cond (decide (48≤a0)) (some (decide (a0≤57))) (some false))
def dm.f (a0:BA) (a1:Int):Option (Int):=some (l6 a0 a1)
def iL.f (a0:BA) (a1:Int):Option (Int):=(dm.f a0 a1).bind fun t91=>some t91
def ee.f (a0:Int) (c0:BA):Option (Bool):=(iX.f a0).bind fun t93=>cond t93 (some true) ((iL.f c0 a0).bind fun t96=>some (decide (0≤t96)))
def jP.f (a0:BA):Option ((Int→Option Bool)):=some (fun a0_=>ee.f a0_ a0)
def en.l0 (k:Nat) (a0:BA) (a1:Int) (t99:(Int→Option Bool)) (ta:(Int→Option Bool)) (tc:(Int→Option Bool)):Nat→Int→Option ((Int×Bool) ⊕ (Bool))
 | 0,_=>none
 | ja+1,xc=>cond (decide (xc<(a0.size:Int))) (an (iB xc a0.size) (((oo.at ([t99,ta,tc]:List (Int→Option Bool)) a1) (bt a0 xc)).bind fun te=>cond (!te) (some (.inr false)) (en.l0 k a0 a1 t99 ta tc ja (av (xc+1))))) (some (.inl (xc,decide (xc<(a0.size:Int)))))
def en.f (k:Nat) (a0:BA) (a1:Int):Option (Bool):=(jP.f (⟨#[46,45,95]⟩:BA)).bind fun t99=>(jP.f (⟨#[46,45]⟩:BA)).bind fun ta=>(jP.f (⟨#[45,95,65,66,67,68,69,70,71,72,73,74,75,76,77,78,79,80,81,82,83,84,85,86,87,88,89,90]⟩:BA)).bind fun tc=>an ((0:Int)≤a1∧a1<(3:Int)) ((en.l0 k a0 a1 t99 ta tc k 0).bind (fall fun pa=>cond (!decide (a0=eE)) (some (decide ((a0.size:Int)≤16))) (some false)))
def eF.f (a0:BA) (a1:BA):Option (Int):=cond ((a1.size:Int)==0) (some 0) (cond (decide (a1=a0)) (some 0) (cond ((a1.size:Int)==1) (an (iB 0 a1.size) ((dm.f a0 (bt a1 0)).bind fun ta=>some ta)) (cond (decide ((a0.size:Int)≤(a1.size:Int))) (some (-1)) (none))))
def jT.f (a0:BA) (a1:BA):Option (BA×BA×Bool):=(eF.f a0 a1).bind fun ta=>cond (decide (0≤ta)) (an ((0:Int)≤ta∧0≤ta.toNat∧ta.toNat≤a0.size) (an ((0:Int)≤(av (ta+(a1.size:Int)))∧(av (ta+(a1.size:Int))).toNat≤a0.size∧a0.size≤a0.size) (some (a0.extract 0 ta.toNat,a0.extract (av (ta+(a1.size:Int))).toNat a0.size,true)))) (some (a0,eE,false))
def ko.f (a0:BA) (a1:BA):Option (BA×BA×Bool):=(jT.f a0 a1).bind fun ta=>some (ta.1,ta.2.1,ta.2.2)
def lA.f (k:Nat) (a0:BA):Option (Bool):=(en.f k a0 1).bind fun ta=>cond ta (an (iB 0 a0.size) ((iX.f (bt a0 0)).bind fun tc=>cond tc (an (iB (av ((a0.size:Int)-1)) a0.size) ((iX.f (bt a0 (av ((a0.size:Int)-1)))).bind fun te=>some te)) (some false))) (some false)
def kE.f (k:Nat) (a0:BA) (a1:BA):Option (BA×BA×Bool):=(eC.f a0 a1).bind fun ta=>(ko.f ta.1 (⟨#[58]⟩:BA)).bind fun tc=>cond ta.2 (cond tc.2.2 ((en.f k tc.1 0).bind fun te=>cond te ((lA.f k tc.2.1).bind fun tg=>some (tc.1,tc.2.1,tg)) (some (tc.1,tc.2.1,false))) (some (tc.1,tc.2.1,false))) (some (tc.1,tc.2.1,false))
def mq.f (k:Nat) (a0:BA):Option (Bool):=(kE.f k a0 (⟨#[64]⟩:BA)).bind fun ta=>some ta.2.2
def eu.f (k:Nat) (a0:BA):Option (Bool):=(eC.f a0 (⟨#[36]⟩:BA)).bind fun ta=>cond ta.2 ((en.f k ta.1 2).bind fun tc=>some tc) (some false)
def kK.f (k:Nat) (a0:BA):Option (Bool):=(kE.f k a0 (⟨#[33]⟩:BA)).bind fun ta=>some ta.2.2
def dE.l0 (k:Nat) (a0:Event):Nat→Int→Option (Bool×Int×Bool)
 | 0,_=>none
 | ja+1,xc=>cond (decide (xc<(a0.ag.length:Int))) (an (iB xc a0.ag.length) ((eu.f k (aw.at a0.ag xc)).bind fun ta=>cond (!ta) (some (false,xc,decide (xc<(a0.ag.length:Int)))) (cond (decide ((aw.at a0.ag xc)=a0.bV)) (some (false,xc,decide (xc<(a0.ag.length:Int)))) (cond (decide (0<xc)) (an (iB (av (xc-1)) a0.ag.length) (cond (!dJ (aw.at a0.ag (av (xc-1))) (aw.at a0.ag xc)) (some (false,xc,decide (xc<(a0.ag.length:Int)))) (dE.l0 k a0 ja (av (xc+1))))) (dE.l0 k a0 ja (av (xc+1))))))) (some (true,xc,decide (xc<(a0.ag.length:Int))))
def dE.l1 (k:Nat) (a0:Event):Nat→Int→Option (Bool×Int×Bool)
 | 0,_=>none
 | ja+1,xc=>cond (decide (xc<(a0.ag.length:Int))) (an (iB xc a0.ag.length) ((eu.f k (aw.at a0.ag xc)).bind fun ta=>cond (!ta) (some (false,xc,decide (xc<(a0.ag.length:Int)))) (cond (decide ((aw.at a0.ag xc)=a0.bV)) (some (false,xc,decide (xc<(a0.ag.length:Int)))) (cond (decide (0<xc)) (an (iB (av (xc-1)) a0.ag.length) (cond (!dJ (aw.at a0.ag (av (xc-1))) (aw.at a0.ag xc)) (some (false,xc,decide (xc<(a0.ag.length:Int)))) (dE.l1 k a0 ja (av (xc+1))))) (dE.l1 k a0 ja (av (xc+1))))))) (some (true,xc,decide (xc<(a0.ag.length:Int))))
def dE.f (k:Nat) (a0:Event):Option (Bool):=(eu.f k a0.bV).bind fun ta=>cond (!ta) (some false) ((kK.f k a0.ab).bind fun tc=>cond (!tc) (some false) ((mq.f k a0.aj).bind fun te=>cond (!te) (some false) (cond (decide (4<(a0.ag.length:Int))) (some false) (cond (decide (a0.bR<0)) (some false) (cond (decide (2<a0.bR)) (some false) (cond (!decide (a0.ae=eE)) ((eu.f k a0.ae).bind fun tg=>cond (!tg) (some false) (cond (decide (a0.ae=a0.bV)) (some false) (cond (a0.bR != 0) (some false) ((dE.l0 k a0 k 0).bind fun pa=>some pa.1)))) ((dE.l1 k a0 k 0).bind fun pc=>some pc.1)))))))
def eD.f (a0:bp) (a1:BA):Option (Bool):=some (!(mget a0.ao a1).isNone)
def eT.f (a0:BA) (c0:bp):Option (Bool):=(eD.f c0 a0).bind fun ta=>some (!ta)
def dQ.f (xs:List BA):Option (List BA):=an (cB xs.length 16) (some xs)
def iJ.f (a0:Event):Option (Event):=(dQ.f a0.ag).bind fun ta=>some (⟨a0.bV,a0.ab,ta,a0.ae,a0.aj,a0.bR⟩:Event)
def dag_Dag_Add.l0 (k:Nat) (a1:Event):Nat→Int→Int→bp→Option (Int×Bool×Int×bp)
 | 0,_,_,_=>none
 | ja+1,xc,xd,xe=>cond (decide (xc<(a1.ag.length:Int))) (an (iB xc a1.ag.length) (an ((mget xe.ao (aw.at a1.ag xc)).isSome=true) (dag_Dag_Add.l0 k a1 ja (av (xc+1)) (max xd (av ((((mget xe.ao (aw.at a1.ag xc)).getD default).cK)+1))) (⟨xe.cQ,mput xe.ao (aw.at a1.ag xc) (⟨((mget xe.ao (aw.at a1.ag xc)).getD default).fe,((mget xe.ao (aw.at a1.ag xc)).getD default).cK,true⟩:aY)⟩:bp)))) (some (xc,decide (xc<(a1.ag.length:Int)),xd,xe))
def dag_Dag_Add.f (k:Nat) (a0:bp) (a1:Event):Option (Int×bp):=(dE.f k a1).bind fun ta=>cond (!ta) (some (1,a0)) (cond (!decide (a1.ab=a0.cQ)) (some (1,a0)) ((eD.f a0 a1.bV).bind fun tc=>cond tc (some (9,a0)) ((cF.f k a1.ag (fun a0_=>eT.f a0_ a0)).bind fun te=>cond te (some (4,a0)) ((cond (!decide (a1.ae=eE)) (cond ((mget a0.ao a1.ae).isNone) (some (.inr (4,a0))) (an ((mget a0.ao a1.ae).isSome=true) (cond (!decide (((((mget a0.ao a1.ae).getD default).fe).ae)=eE)) (some (.inr (7,a0))) (cond (((((mget a0.ao a1.ae).getD default).fe).bR) != 0) (some (.inr (7,a0))) (some (.inl ())))))) (some (.inl ()))).bind (fall fun pa=>(iJ.f a1).bind fun tg=>(dag_Dag_Add.l0 k a1 k 0 0 a0).bind fun pc=>some (0,(⟨pc.2.2.2.cQ,mput pc.2.2.2.ao a1.bV (⟨tg,pc.2.2.1,false⟩:aY)⟩:bp)))))))
def iW.f (k:Nat) (a0:aJ) (a1:Event):Option (Int×aJ):=(aP.f a0 a1.ab).bind fun ta=>(dag_Dag_Add.f k ta a1).bind fun tc=>cond (tc.1 != 0) (some (tc.1,(⟨wT a0.bC a1.ab tc.2⟩:aJ))) (some (0,(⟨mput a0.bC a1.ab tc.2⟩:aJ)))
def iz.l0 (k:Nat) (a0:bA) (a1:BA):Nat→Int→Option ((Int×Bool) ⊕ (aK))
 | 0,_=>none
 | ja+1,xc=>cond (decide (xc<(a0.fD.length:Int))) (an (iB xc a0.fD.length) (cond (decide (((aK.K.at a0.fD xc).ab)=a1)) (an (iB xc a0.fD.length) (some (.inr (aK.K.at a0.fD xc)))) (iz.l0 k a0 a1 ja (av (xc+1))))) (some (.inl (xc,decide (xc<(a0.fD.length:Int)))))
def iz.f (k:Nat) (a0:bA) (a1:BA):Option (aK):=(iz.l0 k a0 a1 k 0).bind (fall fun pa=>some (⟨a1,([]:List Event)⟩:aK))
def eL.l0 (k:Nat) (a0:BA):Nat→Int→Option ((Int×Bool) ⊕ (Int))
 | 0,_=>none
 | ja+1,xc=>cond (decide (xc<(a0.size:Int))) (an (iB xc a0.size) (cond ((bt a0 xc)==58) (some (.inr xc)) (eL.l0 k a0 ja (av (xc+1))))) (some (.inl (xc,decide (xc<(a0.size:Int)))))
def eL.f (k:Nat) (a0:BA):Option (Int):=(eL.l0 k a0 k 0).bind (fall fun pa=>some (-1))
def mv.f (a0:Int):Option (Bool):=cond (decide (97≤a0)) (cond (decide (a0≤122)) (some true) (cond (decide (48≤a0)) (some (decide (a0≤57))) (some false))) (cond (decide (48≤a0)) (some (decide (a0≤57))) (some false))
def fg.l0 (k:Nat) (a0:BA):Nat→Int→Option ((Int×Bool) ⊕ (Bool))
 | 0,_=>none
 | ja+1,xc=>cond (decide (xc<(a0.size:Int))) (an (iB xc a0.size) ((mv.f (bt a0 xc)).bind fun ta=>cond (!ta) (an (iB xc a0.size) (cond ((bt a0 xc) != 46) (an (iB xc a0.size) (cond ((bt a0 xc) != 45) (an (iB xc a0.size) (cond ((bt a0 xc) != 95) (some (.inr false)) (fg.l0 k a0 ja (av (xc+1))))) (fg.l0 k a0 ja (av (xc+1))))) (fg.l0 k a0 ja (av (xc+1))))) (fg.l0 k a0 ja (av (xc+1))))) (some (.inl (xc,decide (xc<(a0.size:Int)))))
def fg.f (k:Nat) (a0:BA):Option (Bool):=(fg.l0 k a0 k 0).bind (fall fun pa=>cond (decide (0<(a0.size:Int))) (some (decide ((a0.size:Int)<17))) (some false))
def db.l0 (k:Nat) (a0:BA):Nat→Int→Option ((Int×Bool) ⊕ (Bool))
 | 0,_=>none
 | ja+1,xc=>cond (decide (xc<(a0.size:Int))) (an (iB xc a0.size) ((mv.f (bt a0 xc)).bind fun ta=>cond (decide (0<xc)) (cond (decide (xc<(av ((a0.size:Int)-1)))) (an (iB xc a0.size) (cond ((bt a0 xc)==46) (cond (!ta) (db.l0 k a0 ja (av (xc+1))) (db.l0 k a0 ja (av (xc+1)))) (an (iB xc a0.size) (cond (!ta) (cond (!((bt a0 xc)==45)) (some (.inr false)) (db.l0 k a0 ja (av (xc+1)))) (db.l0 k a0 ja (av (xc+1))))))) (cond (!ta) (some (.inr false)) (db.l0 k a0 ja (av (xc+1))))) (cond (!ta) (some (.inr false)) (db.l0 k a0 ja (av (xc+1)))))) (some (.inl (xc,decide (xc<(a0.size:Int)))))
def db.f (k:Nat) (a0:BA):Option (Bool):=(db.l0 k a0 k 0).bind (fall fun pa=>cond (decide (0<(a0.size:Int))) (some (decide ((a0.size:Int)<17))) (some false))
def iA.f (k:Nat) (a0:BA) (a1:Int):Option (Bool):=(eL.f k a0).bind fun ta=>cond (decide (ta<1)) (some false) (an (iB 0 a0.size) (cond ((bt a0 0) != a1) (some false) (an ((0:Int)≤1∧(0:Int)≤ta∧(1:Int).toNat≤ta.toNat∧ta.toNat≤a0.size) ((fg.f k (a0.extract (1:Int).toNat ta.toNat)).bind fun tc=>an ((0:Int)≤(av (ta+1))∧(av (ta+1)).toNat≤a0.size∧a0.size≤a0.size) ((db.f k (a0.extract (av (ta+1)).toNat a0.size)).bind fun te=>cond tc (some te) (some false))))))
def bW.l0 (k:Nat) (a0:BA):Nat→Int→Option ((Int×Bool) ⊕ (Bool))
 | 0,_=>none
 | ja+1,xc=>cond (decide (xc<(a0.size:Int))) (an (iB xc a0.size) ((mv.f (bt a0 xc)).bind fun ta=>an (iB xc a0.size) (cond (decide (65≤(bt a0 xc))) (an (iB xc a0.size) (cond (!ta) (cond (!(decide ((bt a0 xc)≤90))) (an (iB xc a0.size) (cond ((bt a0 xc) != 45) (an (iB xc a0.size) (cond ((bt a0 xc) != 95) (some (.inr false)) (bW.l0 k a0 ja (av (xc+1))))) (bW.l0 k a0 ja (av (xc+1))))) (bW.l0 k a0 ja (av (xc+1)))) (bW.l0 k a0 ja (av (xc+1))))) (cond (!ta) (an (iB xc a0.size) (cond ((bt a0 xc) != 45) (an (iB xc a0.size) (cond ((bt a0 xc) != 95) (some (.inr false)) (bW.l0 k a0 ja (av (xc+1))))) (bW.l0 k a0 ja (av (xc+1))))) (bW.l0 k a0 ja (av (xc+1))))))) (some (.inl (xc,decide (xc<(a0.size:Int)))))
def bW.f (k:Nat) (a0:BA):Option (Bool):=cond (decide ((a0.size:Int)<2)) (some false) (cond (decide (17<(a0.size:Int))) (some false) (an (iB 0 a0.size) (cond ((bt a0 0) != 36) (some false) ((bW.l0 k a0 k 1).bind (fall fun pa=>some true)))))
def gR.l0 (k:Nat) (a0:Event):Nat→Int→Option ((Int×Bool) ⊕ (Bool))
 | 0,_=>none
 | ja+1,xc=>cond (decide (xc<(a0.ag.length:Int))) (an (iB xc a0.ag.length) ((bW.f k (aw.at a0.ag xc)).bind fun ta=>cond (!ta) (some (.inr false)) (an (iB xc a0.ag.length) (cond (decide ((aw.at a0.ag xc)=a0.bV)) (some (.inr false)) (cond (decide (0<xc)) (an (iB (max (av (xc-1)) 0) a0.ag.length) (an (iB xc a0.ag.length) (cond (!dJ (aw.at a0.ag (max (av (xc-1)) 0)) (aw.at a0.ag xc)) (some (.inr false)) (gR.l0 k a0 ja (av (xc+1)))))) (gR.l0 k a0 ja (av (xc+1)))))))) (some (.inl (xc,decide (xc<(a0.ag.length:Int)))))
def gR.f (k:Nat) (a0:Event):Option (Bool):=(bW.f k a0.bV).bind fun ta=>(iA.f k a0.ab 33).bind fun tc=>(iA.f k a0.aj 64).bind fun te=>cond (!ta) (some false) (cond (!tc) (some false) (cond (!te) (some false) (cond (decide (4<(a0.ag.length:Int))) (some false) (cond (decide (a0.bR<0)) (some false) (cond (decide (2<a0.bR)) (some false) ((cond (!decide (a0.ae=eE)) ((bW.f k a0.ae).bind fun tg=>cond (!tg) (some (.inr false)) (cond (decide (a0.ae=a0.bV)) (some (.inr false)) (cond (a0.bR != 0) (some (.inr false)) (some (.inl ()))))) (some (.inl ()))).bind (fall fun pa=>(gR.l0 k a0 k 0).bind (fall fun pc=>some true))))))))
def eG.l0 (k:Nat) (a0:aK) (a1:BA):Nat→Int→Option ((Int×Bool) ⊕ (Int))
 | 0,_=>none
 | ja+1,xc=>cond (decide (xc<(a0.fL.length:Int))) (an (iB xc a0.fL.length) (cond (decide (((Event.K.at a0.fL xc).bV)=a1)) (some (.inr xc)) (eG.l0 k a0 a1 ja (av (xc+1))))) (some (.inl (xc,decide (xc<(a0.fL.length:Int)))))
def eG.f (k:Nat) (a0:aK) (a1:BA):Option (Int):=(eG.l0 k a0 a1 k 0).bind (fall fun pa=>some (-1))
def dS.l0 (k:Nat) (a0:aK) (a1:Event):Nat→Int→Option ((Int×Bool) ⊕ (aK×Int))
 | 0,_=>none
 | ja+1,xc=>cond (decide (xc<(a1.ag.length:Int))) (an (iB xc a1.ag.length) ((eG.f k a0 (aw.at a1.ag xc)).bind fun ta=>cond (decide (ta<0)) (some (.inr (a0,4))) (dS.l0 k a0 a1 ja (av (xc+1))))) (some (.inl (xc,decide (xc<(a1.ag.length:Int)))))
def dS.f (k:Nat) (a0:aK) (a1:Event):Option (aK×Int):=(gR.f k a1).bind fun ta=>cond (!ta) (some (a0,1)) (cond (!decide (a1.ab=a0.ab)) (some (a0,1)) ((eG.f k a0 a1.bV).bind fun tc=>cond (decide (0≤tc)) (some (a0,9)) ((dS.l0 k a0 a1 k 0).bind (fall fun pa=>(cond (!decide (a1.ae=eE)) ((eG.f k a0 a1.ae).bind fun te=>cond (decide (te<0)) (some (.inr (a0,4))) (an (iB te a0.fL.length) (cond (!decide (((Event.K.at a0.fL te).ae)=eE)) (some (.inr (a0,7))) (an (iB te a0.fL.length) (cond (((Event.K.at a0.fL te).bR) != 0) (some (.inr (a0,7))) (some (.inl ()))))))) (some (.inl ()))).bind (fall fun pc=>an (cB (([]:List Event).length+a0.fL.length) 96) (an (cB ((([]:List Event)++a0.fL).length+([a1]:List Event).length) 96) (some ((⟨a0.ab,(([]:List Event)++a0.fL)++([a1]:List Event)⟩:aK),0))))))))
def eB.l0 (k:Nat) (a0:bA) (a1:Event) (ta:aK×Int):Nat→Bool→Int→List aK→Option (Bool×Int×Bool×(List aK))
 | 0,_,_,_=>none
 | ja+1,xc,xd,xe=>cond (decide (xd<(a0.fD.length:Int))) ((cond (!xc) (an (iB xd a0.fD.length) (cond (!dJ ((aK.K.at a0.fD xd).ab) a1.ab) (an (cB (xe.length+([ta.1]:List aK).length) 40) (some (true,!dJ ((aK.K.at a0.fD xd).ab) a1.ab,xe++([ta.1]:List aK)))) (some (xc,!dJ ((aK.K.at a0.fD xd).ab) a1.ab,xe)))) (some (xc,false,xe))).bind fun pa=>an (iB xd a0.fD.length) (cond (!decide (((aK.K.at a0.fD xd).ab)=a1.ab)) (an (iB xd a0.fD.length) (an (cB (pa.2.2.length+([aK.K.at a0.fD xd]:List aK).length) 40) (eB.l0 k a0 a1 ta ja pa.1 (av (xd+1)) (pa.2.2++([aK.K.at a0.fD xd]:List aK))))) (eB.l0 k a0 a1 ta ja pa.1 (av (xd+1)) pa.2.2))) (some (xc,xd,decide (xd<(a0.fD.length:Int)),xe))
def eB.f (k:Nat) (a0:bA) (a1:Event):Option (bA×Int):=(iz.f k a0 a1.ab).bind fun ta=>(dS.f k ta a1).bind fun tc=>cond (tc.2 != 0) (some (a0,tc.2)) ((eB.l0 k a0 a1 tc k false 0 ([]:List aK)).bind fun pa=>cond (!pa.1) (an (cB (pa.2.2.2.length+([tc.1]:List aK).length) 40) (some ((⟨pa.2.2.2++([tc.1]:List aK)⟩:bA),0))) (some ((⟨pa.2.2.2⟩:bA),0)))
def gZ.l0 (k:Nat) (a0:List Event):Nat→Int→List aK→Option (Int×Bool×(List aK))
 | 0,_,_=>none
 | ja+1,xc,xd=>cond (decide (xc<(a0.length:Int))) (an (iB xc a0.length) ((eB.f k (⟨xd⟩:bA) (Event.K.at a0 xc)).bind fun ta=>gZ.l0 k a0 ja (av (xc+1)) ta.1.fD)) (some (xc,decide (xc<(a0.length:Int)),xd))
def gZ.f (k:Nat) (a0:List Event):Option (bA):=(gZ.l0 k a0 k 0 ([]:List aK)).bind fun pa=>some (⟨pa.2.2⟩:bA)
def gG.l0 (k:Nat) (a0:List Event) (ta:(Option jA)×Int) (tc:(Option b8)×Int) (te:bS) (tg:b7):Nat→Int→aJ→Option ((Int×Bool×aJ) ⊕ (Src×dy×Bool))
 | 0,_,_=>none
 | ja+1,xc,xd=>cond (decide (xc<(a0.length:Int))) (an (iB xc a0.length) ((iW.f k xd (Event.K.at a0 xc)).bind fun tj=>cond (tj.1 != 0) (some (.inr ((⟨tj.2,ta.1.getD default,te,tg,tc.1.getD default⟩:Src),(⟨(⟨([]:List aK)⟩:bA),([]:List MK),(⟨([]:List ak),([]:List Bool)⟩:kB),(⟨([]:List ak),([]:List Int)⟩:lF),([]:List jO),0⟩:dy),false))) (gG.l0 k a0 ta tc te tg ja (av (xc+1)) tj.2))) (some (.inl (xc,decide (xc<(a0.length:Int)),xd)))
def gG.f (k:Nat) (a0:List Event) (a1:Int):Option (Src×dy×Bool):=(oB.f 8).bind fun ta=>(nC.f a1 (av (a1+1000))).bind fun tc=>(sC.f).bind fun te=>(nE.f).bind fun tg=>(lP.f).bind fun tj=>an (ta.1.isSome=true) (an (tc.1.isSome=true) (cond (ta.2 != 0) (some ((⟨te,ta.1.getD default,tg,tj,tc.1.getD default⟩:Src),(⟨(⟨([]:List aK)⟩:bA),([]:List MK),(⟨([]:List ak),([]:List Bool)⟩:kB),(⟨([]:List ak),([]:List Int)⟩:lF),([]:List jO),0⟩:dy),false)) (cond (tc.2 != 0) (some ((⟨te,ta.1.getD default,tg,tj,tc.1.getD default⟩:Src),(⟨(⟨([]:List aK)⟩:bA),([]:List MK),(⟨([]:List ak),([]:List Bool)⟩:kB),(⟨([]:List ak),([]:List Int)⟩:lF),([]:List jO),0⟩:dy),false)) ((gG.l0 k a0 ta tc tg tj k 0 te).bind (fall fun pa=>(gZ.f k a0).bind fun tm=>some ((⟨pa.2.2,ta.1.getD default,tg,tj,tc.1.getD default⟩:Src),(⟨tm,([]:List MK),(⟨([]:List ak),([]:List Bool)⟩:kB),(⟨([]:List ak),([]:List Int)⟩:lF),([]:List jO),a1⟩:dy),true))))))
def br.f (a0:Int) (a1:Int):Option (Int):=cond (decide (a0<0)) (an (a1≠0) (some ((av (0-(av (a0+1)))).tmod a1))) (an (a1≠0) (some (a0.tmod a1)))
def fc.f (a0:Int):Option (BA):=(br.f a0 2).bind fun ta=>an (iB ta (([(⟨#[33,114,58,115,49]⟩:BA),(⟨#[33,113,58,115,50]⟩:BA)]:List BA).length)) (some (aw.at ([(⟨#[33,114,58,115,49]⟩:BA),(⟨#[33,113,58,115,50]⟩:BA)]:List BA) ta))
def nh.f (a0:Int):Option (BA):=(br.f a0 3).bind fun ta=>an (iB ta (([(⟨#[115,49]⟩:BA),(⟨#[115,50]⟩:BA),(⟨#[115,51]⟩:BA)]:List BA).length)) (some (aw.at ([(⟨#[115,49]⟩:BA),(⟨#[115,50]⟩:BA),(⟨#[115,51]⟩:BA)]:List BA) ta))
def il.f (a0:Int):Option (BA):=(br.f a0 9).bind fun ta=>an (iB (av (ta.tdiv 3)) (([(⟨#[64,97,58]⟩:BA),(⟨#[64,98,58]⟩:BA),(⟨#[64,99,58]⟩:BA)]:List BA).length)) ((nh.f (ta.tmod 3)).bind fun tc=>an ((aw.at ([(⟨#[64,97,58]⟩:BA),(⟨#[64,98,58]⟩:BA),(⟨#[64,99,58]⟩:BA)]:List BA) (av (ta.tdiv 3))).size+tc.size≤9223372036854775807) (some ((aw.at ([(⟨#[64,97,58]⟩:BA),(⟨#[64,98,58]⟩:BA),(⟨#[64,99,58]⟩:BA)]:List BA) (av (ta.tdiv 3)))++tc)))
def iP.f:Nat→Int→Option (BA)
 | 0,_=>none
 | k+1,a0=>(cond (decide ((a0.tmod 10)<0)) (some (av (0-(a0.tmod 10)))) (some (a0.tmod 10))).bind fun pa=>cond (decide ((-10)<a0)) (cond (decide (a0<10)) (cond (decide (a0<0)) (an ((⟨#[45]⟩:BA).size+(gK ([IntKind.u8.wrap (av (48+pa))]:List Int)).size≤9223372036854775807) (some ((⟨#[45]⟩:BA)++(gK ([IntKind.u8.wrap (av (48+pa))]:List Int))))) (some (gK ([IntKind.u8.wrap (av (48+pa))]:List Int)))) ((iP.f k (av (a0.tdiv 10))).bind fun ta=>an (ta.size+(gK ([IntKind.u8.wrap (av (48+pa))]:List Int)).size≤9223372036854775807) (some (ta++(gK ([IntKind.u8.wrap (av (48+pa))]:List Int)))))) ((iP.f k (av (a0.tdiv 10))).bind fun tc=>an (tc.size+(gK ([IntKind.u8.wrap (av (48+pa))]:List Int)).size≤9223372036854775807) (some (tc++(gK ([IntKind.u8.wrap (av (48+pa))]:List Int)))))
def dp.f (k:Nat) (a0:Int):Option (BA):=(br.f a0 9).bind fun ta=>(iP.f k ta).bind fun tc=>an ((⟨#[36,101]⟩:BA).size+tc.size≤9223372036854775807) (some ((⟨#[36,101]⟩:BA)++tc))
def bM.l1 (k:Nat) (xc:Int) (pa:Int×Bool×(List Bool)):Nat→Int→List BA→Option (Int×Bool×(List BA))
 | 0,_,_=>none
 | ja+1,xd,xe=>cond (decide (xd<xc)) (an (iB xd pa.2.2.length) (cond (pa.2.2.getD xd.toNat default) ((dp.f k xd).bind fun ta=>an (cB (xe.length+([ta]:List BA).length) 16) (bM.l1 k xc pa ja (av (xd+1)) (xe++([ta]:List BA)))) (bM.l1 k xc pa ja (av (xd+1)) xe))) (some (xd,decide (xd<xc),xe))
def bM.l2 (k:Nat) (a1:List dA) (xc:Int):Nat→Int→List Bool→Option (Int×Bool×(List Bool))
 | 0,_,_=>none
 | ja+1,xd,xe=>an (iB xc a1.length) (cond (decide (xd<(((dA.K.at a1 xc).ag).length:Int))) (cond (decide (xd<3)) (cond (decide (0<xc)) (an (iB xc a1.length) (an (iB xd (((dA.K.at a1 xc).ag).length)) ((br.f ((bz .i64).at ((dA.K.at a1 xc).ag) xd) xc).bind fun ta=>an (iB ta xe.length) (bM.l2 k a1 xc ja (av (xd+1)) (xe.set ta.toNat true))))) (some (xd,decide (0<xc),xe))) (some (xd,false,xe))) (some (xd,false,xe)))
def bM.l0 (k:Nat) (a0:BA) (a1:List dA):Nat→Int→BA→List Event→Option (Int×Bool×BA×(List Event))
 | 0,_,_,_=>none
 | ja+1,xc,xd,xe=>cond (decide (xc<(a1.length:Int))) (cond (decide (xc<9)) (((dp.f k xc).bind fun ta=>an (iB xc a1.length) ((il.f ((dA.K.at a1 xc).aj)).bind fun tc=>an (iB xc a1.length) ((br.f ((dA.K.at a1 xc).bR) 3).bind fun te=>an ((0:Int)≤9∧9≤(9223372036854775807:Int)∧(9:Int).toNat*1≤140737488355328) ((bM.l2 k a1 xc k 0 (List.replicate (9:Int).toNat (false:Bool))).bind fun pa=>(bM.l1 k xc pa k 0 ([]:List BA)).bind fun pc=>cond (te==0) (cond (decide (0<xc)) (an (iB xc a1.length) ((br.f ((dA.K.at a1 xc).ae) (av (2*xc))).bind fun tg=>cond (decide (tg<xc)) (an (iB tg xe.length) (cond (((Event.K.at xe tg).bR)==0) (an (iB tg xe.length) (cond (decide (((Event.K.at xe tg).ae)=eE)) ((dp.f k tg).bind fun tj=>(dS.f k (⟨xd,xe⟩:aK) (⟨ta,a0,pc.2.2,tj,tc,te⟩:Event)).bind fun tm=>some (pa.1,pc.1,pa.2.1,pc.2.1,decide (0<xc),tm.1.ab,tm.1.fL,pa.2.2)) ((dS.f k (⟨xd,xe⟩:aK) (⟨ta,a0,pc.2.2,eE,tc,te⟩:Event)).bind fun tn=>some (pa.1,pc.1,pa.2.1,pc.2.1,decide (0<xc),tn.1.ab,tn.1.fL,pa.2.2)))) ((dS.f k (⟨xd,xe⟩:aK) (⟨ta,a0,pc.2.2,eE,tc,te⟩:Event)).bind fun tp=>some (pa.1,pc.1,pa.2.1,pc.2.1,decide (0<xc),tp.1.ab,tp.1.fL,pa.2.2)))) ((dS.f k (⟨xd,xe⟩:aK) (⟨ta,a0,pc.2.2,eE,tc,te⟩:Event)).bind fun tq=>some (pa.1,pc.1,pa.2.1,pc.2.1,decide (0<xc),tq.1.ab,tq.1.fL,pa.2.2)))) ((dS.f k (⟨xd,xe⟩:aK) (⟨ta,a0,pc.2.2,eE,tc,te⟩:Event)).bind fun tu=>some (pa.1,pc.1,pa.2.1,pc.2.1,decide (0<xc),tu.1.ab,tu.1.fL,pa.2.2))) ((dS.f k (⟨xd,xe⟩:aK) (⟨ta,a0,pc.2.2,eE,tc,te⟩:Event)).bind fun tw=>some (pa.1,pc.1,pa.2.1,pc.2.1,false,tw.1.ab,tw.1.fL,pa.2.2)))))).bind fun pe=>bM.l0 k a0 a1 ja (av (xc+1)) pe.2.2.2.2.2.1 pe.2.2.2.2.2.2.1) (some (xc,decide (xc<9),xd,xe))) (some (xc,false,xd,xe))
def bM.f (k:Nat) (a0:BA) (a1:List dA):Option (aK):=(bM.l0 k a0 a1 k 0 a0 ([]:List Event)).bind fun pa=>some (⟨pa.2.2.1,pa.2.2.2⟩:aK)
def oM.f (k:Nat) (a0:List dA) (a1:List dA):Option ((List Event)):=(fc.f 0).bind fun ta=>(bM.f k ta a0).bind fun tc=>an (cB (([]:List Event).length+tc.fL.length) 96) ((fc.f 1).bind fun te=>(bM.f k te a1).bind fun tg=>an (cB ((([]:List Event)++tc.fL).length+tg.fL.length) 96) (some ((([]:List Event)++tc.fL)++tg.fL)))
def eh.l0 (k:Nat) (a0:List MK) (a1:bB):Nat→Int→Option ((Int×Bool) ⊕ (Int))
 | 0,_=>none
 | ja+1,xc=>cond (decide (xc<(a0.length:Int))) (an (iB xc a0.length) (cond (decide ((MK.K.at a0 xc).fK=a1)) (some (.inr xc)) (eh.l0 k a0 a1 ja (av (xc+1))))) (some (.inl (xc,decide (xc<(a0.length:Int)))))
def eh.f (k:Nat) (a0:List MK) (a1:bB):Option (Int):=(eh.l0 k a0 a1 k 0).bind (fall fun pa=>some (-1))
def fH.f (a0:Pos) (a1:Pos):Option (Bool):=cond (decide (a0.bx<a1.bx)) (some true) (cond (a0.bx==a1.bx) (some (dJ a0.bV a1.bV)) (some false))
def mj.f (a0:bB) (a1:bB):Option (Bool):=cond (!decide (a0.ab=a1.ab)) (some (dJ a0.ab a1.ab)) (cond (!decide (a0.aj=a1.aj)) (some (dJ a0.aj a1.aj)) (cond (!decide (a0.ae=a1.ae)) (some (dJ a0.ae a1.ae)) (cond (!a0.aq) (some a1.aq) (some false))))
def eZ.l0 (k:Nat) (a0:List MK) (a1:bB):Nat→Int→Option (Int×Bool)
 | 0,_=>none
 | ja+1,xc=>cond (decide (xc<(a0.length:Int))) (an (iB xc a0.length) ((mj.f ((MK.K.at a0 xc).fK) a1).bind fun ta=>cond ta (eZ.l0 k a0 a1 ja (av (xc+1))) (some (xc,ta)))) (some (xc,false))
def eZ.f (k:Nat) (a0:List MK) (a1:bB) (a2:Pos):Option ((List MK)×Bool):=(eh.f k a0 a1).bind fun ta=>cond (decide (0≤ta)) (an (iB ta a0.length) ((fH.f ((MK.K.at a0 ta).eH) a2).bind fun tc=>cond (!tc) (some (a0,false)) (an (cB (([]:List MK).length+a0.length) 80) (an (iB ta ((([]:List MK)++a0).length)) (some ((([]:List MK)++a0).set ta.toNat (⟨((([]:List MK)++a0).getD ta.toNat default).fK,a2⟩:MK),true)))))) ((eZ.l0 k a0 a1 k 0).bind fun pa=>an ((0:Int)≤pa.1∧0≤pa.1.toNat∧pa.1.toNat≤a0.length) (an (cB (([]:List MK).length+((a0.take pa.1.toNat).drop 0).length) 80) (an (cB ((([]:List MK)++((a0.take pa.1.toNat).drop 0)).length+([(⟨a1,a2⟩:MK)]:List MK).length) 80) (an ((0:Int)≤pa.1∧pa.1.toNat≤a0.length∧a0.length≤a0.length) (an (cB (((([]:List MK)++((a0.take pa.1.toNat).drop 0))++([(⟨a1,a2⟩:MK)]:List MK)).length+((a0.take a0.length).drop pa.1.toNat).length) 80) (some (((([]:List MK)++((a0.take pa.1.toNat).drop 0))++([(⟨a1,a2⟩:MK)]:List MK))++((a0.take a0.length).drop pa.1.toNat),true)))))))
def p9.f (a0:ak):Option (bB):=some (⟨a0.ab,a0.aj,a0.ae,a0.aq⟩:bB)
def mu.f (k:Nat) (a0:BA):Option (Bool):=(bW.f k a0).bind fun ta=>cond (decide (a0=eE)) (some true) (cond (decide (a0=(⟨#[109,97,105,110]⟩:BA))) (some true) (some ta))
def gI.f (k:Nat) (a0:ak):Option (Bool):=(iA.f k a0.aj 64).bind fun ta=>(iA.f k a0.ab 33).bind fun tc=>(bW.f k a0.bI).bind fun te=>(mu.f k a0.ae).bind fun tg=>cond (!ta) (some false) (cond (decide (a0.aV<0)) (some false) (cond (decide (1099511627776<a0.aV)) (some false) (cond (decide (a0.bf<0)) (some false) (cond (decide (1099511627776<a0.bf)) (some false) (cond (a0.aH==1) (cond tc (cond te (cond tg (cond (!a0.kb) (cond (a0.bZ==0) (some (a0.aX==0)) (some false)) (some false)) (some false)) (some false)) (some false)) (cond (a0.aH==2) (cond a0.kb (cond (decide (1≤a0.bZ)) (cond (decide (a0.bZ≤60)) (cond tc (cond (decide (a0.bI=eE)) (cond (decide (a0.ae=eE)) (cond (a0.aX==0) (some (!a0.aq)) (some false)) (some false)) (some false)) (some false)) (cond (!a0.kb) (cond tc (cond (a0.bZ==0) (cond (decide (a0.bI=eE)) (cond (decide (a0.ae=eE)) (cond (a0.aX==0) (some (!a0.aq)) (some false)) (some false)) (some false)) (some false)) (some false)) (cond tc (some false) (some false)))) (cond (!a0.kb) (cond tc (cond (a0.bZ==0) (cond (decide (a0.bI=eE)) (cond (decide (a0.ae=eE)) (cond (a0.aX==0) (some (!a0.aq)) (some false)) (some false)) (some false)) (some false)) (some false)) (cond tc (some false) (some false)))) (cond (!a0.kb) (cond tc (cond (a0.bZ==0) (cond (decide (a0.bI=eE)) (cond (decide (a0.ae=eE)) (cond (a0.aX==0) (some (!a0.aq)) (some false)) (some false)) (some false)) (some false)) (some false)) (cond tc (some false) (some false)))) (cond (a0.aH==3) (cond (decide (a0.ab=eE)) (cond (decide (a0.bI=eE)) (cond (decide (a0.ae=eE)) (cond (!a0.kb) (cond (a0.bZ==0) (cond (!a0.aq) (cond (decide (0≤a0.aX)) (some (decide (a0.aX≤2))) (some false)) (some false)) (some false)) (some false)) (some false)) (some false)) (some false)) (some false))))))))
def oH.f (k:Nat) (a0:bA) (a1:BA) (a2:BA) (a3:BA):Option (Int):=(iz.f k a0 a1).bind fun ta=>(eG.f k ta a2).bind fun tc=>cond (decide (tc<0)) (some 4) (an (iB tc ta.fL.length) (cond (decide (a3=eE)) (some 0) (cond (decide (a3=a2)) (some 0) (cond (decide (a3=(⟨#[109,97,105,110]⟩:BA))) (cond (decide (((Event.K.at ta.fL tc).ae)=eE)) (some 0) (cond (!decide (((Event.K.at ta.fL tc).ae)=eE)) (cond (decide (a3=((Event.K.at ta.fL tc).ae))) (some 0) (some 7)) (some 7))) (cond (!decide (((Event.K.at ta.fL tc).ae)=eE)) (cond (decide (a3=((Event.K.at ta.fL tc).ae))) (some 0) (some 7)) (some 7))))))
def kN.l0 (k:Nat) (a0:n5) (a1:ak):Nat→Int→Option ((Int×Bool) ⊕ (n5×ak×Bool))
 | 0,_=>none
 | ja+1,xc=>cond (decide (xc<(a0.fL.length:Int))) (an (iB xc a0.fL.length) (cond (decide (ak.K.at a0.fL xc=a1)) (some (.inr (a0,(⟨0,eE,eE,eE,eE,false,false,0,0,0,0⟩:ak),false))) (kN.l0 k a0 a1 ja (av (xc+1))))) (some (.inl (xc,decide (xc<(a0.fL.length:Int)))))
def kN.f (k:Nat) (a0:n5) (a1:ak):Option (n5×ak×Bool):=(kN.l0 k a0 a1 k 0).bind (fall fun pa=>an (cB (([]:List ak).length+a0.fL.length) 112) (an (cB ((([]:List ak)++a0.fL).length+([a1]:List ak).length) 112) (cond (decide (a0.pP<(((([]:List ak)++a0.fL)++([a1]:List ak)).length:Int))) (an ((0:Int)≤1∧(1:Int).toNat≤((([]:List ak)++a0.fL)++([a1]:List ak)).length∧((([]:List ak)++a0.fL)++([a1]:List ak)).length≤((([]:List ak)++a0.fL)++([a1]:List ak)).length) (an (iB 0 (((([]:List ak)++a0.fL)++([a1]:List ak)).length)) (some ((⟨a0.pP,(((([]:List ak)++a0.fL)++([a1]:List ak)).take (((([]:List ak)++a0.fL)++([a1]:List ak)).length)).drop ((1:Int).toNat),av (a0.qm+1)⟩:n5),ak.K.at ((([]:List ak)++a0.fL)++([a1]:List ak)) 0,true)))) (some ((⟨a0.pP,(([]:List ak)++a0.fL)++([a1]:List ak),a0.qm⟩:n5),(⟨0,eE,eE,eE,eE,false,false,0,0,0,0⟩:ak),false)))))
def dD.l1 (k:Nat) (a0:aK) (xc:Int):Nat→Int→List Int→Option (Int×Bool×(List Int))
 | 0,_,_=>none
 | ja+1,xd,xe=>an (iB xc a0.fL.length) (cond (decide (xd<(((Event.K.at a0.fL xc).ag).length:Int))) (an (iB xc xe.length) (an (iB xc a0.fL.length) (an (iB xd (((Event.K.at a0.fL xc).ag).length)) ((eG.f k a0 (aw.at ((Event.K.at a0.fL xc).ag) xd)).bind fun ta=>an (iB ta xe.length) (an (iB xc xe.length) (dD.l1 k a0 xc ja (av (xd+1)) (xe.set xc.toNat (max (xe.getD xc.toNat default) (av ((xe.getD ta.toNat default)+1)))))))))) (some (xd,decide (xd<(((Event.K.at a0.fL xc).ag).length:Int)),xe)))
def dD.l0 (k:Nat) (a0:aK) (ta:Int):Nat→Int→List Int→Option (Int×Bool×(List Int))
 | 0,_,_=>none
 | ja+1,xc,xd=>cond (decide (xc≤ta)) ((dD.l1 k a0 xc k 0 xd).bind fun pa=>dD.l0 k a0 ta ja (av (xc+1)) pa.2.2) (some (xc,decide (xc≤ta),xd))
def dD.f (k:Nat) (a0:aK) (a1:BA):Option (Int):=(eG.f k a0 a1).bind fun ta=>cond (decide (ta<0)) (some 0) (an ((0:Int)≤(av (ta+1))∧(av (ta+1))≤(9223372036854775807:Int)∧(av (ta+1)).toNat*8≤140737488355328) ((dD.l0 k a0 ta k 0 (List.replicate (av (ta+1)).toNat (0:Int))).bind fun pa=>an (iB ta pa.2.2.length) (some (pa.2.2.getD ta.toNat default))))
def dI.f (k:Nat) (a0:aK) (a1:BA):Option (Pos):=(dD.f k a0 a1).bind fun ta=>some (⟨ta,a1⟩:Pos)
def kQ.f (k:Nat) (a0:bA) (a1:BA) (a2:BA):Option (Pos×Bool):=(iz.f k a0 a1).bind fun ta=>(eG.f k ta a2).bind fun tc=>cond (decide (tc<0)) (some ((⟨0,eE⟩:Pos),false)) ((dI.f k ta a2).bind fun te=>some (te,true))
def q7.f (k:Nat) (a0:qJ) (a1:bA) (a2:ak):Option (qJ×Bool×Int):=(gI.f k a2).bind fun ta=>cond (a2.aH != 1) (some ((⟨a0.fL,a0.fP⟩:qJ),false,1)) (cond (!ta) (some ((⟨a0.fL,a0.fP⟩:qJ),false,1)) ((oH.f k a1 a2.ab a2.bI a2.ae).bind fun tc=>cond (tc==4) ((kN.f k a0.fP a2).bind fun te=>some ((⟨a0.fL,te.1⟩:qJ),false,0)) (cond (tc != 0) (some ((⟨a0.fL,a0.fP⟩:qJ),false,tc)) ((kQ.f k a1 a2.ab a2.bI).bind fun tg=>(p9.f a2).bind fun tj=>(eZ.f k a0.fL tj tg.1).bind fun tm=>some ((⟨tm.1,a0.fP⟩:qJ),tm.2,0)))))
def cJ.f (a0:Int) (a1:Int) (a2:Int):Option (Bool):=cond (decide (a1≤a0)) (some (decide (a0≤a2))) (some false)
def iY.f (a0:ak):Option (Bool):=some false
def lB.f (k:Nat) (a0:BA):Option (Bool):=cond (decide (a0=eE)) (some true) (cond (decide (a0=(⟨#[109,97,105,110]⟩:BA))) (some true) ((eu.f k a0).bind fun ta=>some ta))
def gL.f (k:Nat) (a0:ak):Option (Bool):=(kK.f k a0.ab).bind fun ta=>cond ta ((eu.f k a0.bI).bind fun tc=>cond tc ((lB.f k a0.ae).bind fun te=>some te) (some false)) (some false)
def fI.f (k:Nat) (a0:ak) (c0:Int→Int→Int→Option Bool):Option (Bool):=(kK.f k a0.ab).bind fun ta=>cond ta (cond (!a0.kb) (some true) ((c0 a0.bZ 1 60).bind fun tc=>some tc)) (some false)
def fF.f (a0:ak) (c0:Int→Int→Int→Option Bool):Option (Bool):=(c0 a0.aX 0 2).bind fun ta=>some ta
def nP.f (k:Nat):Option ((List (ak→Option Bool))):=some ([iY.f,gL.f k,fun a0_=>fI.f k a0_ cJ.f,fun a0_=>fF.f a0_ cJ.f]:List (ak→Option Bool))
def iR.f (a0:Int):Option (Bool):=cond (decide (0≤a0)) (some (decide (a0≤1099511627776))) (some false)
def mg.f (a0:ak):Option (ak):=cond (a0.aH==1) (some (⟨a0.aH,a0.ab,a0.aj,a0.bI,a0.ae,a0.aq,false,0,0,a0.aV,a0.bf⟩:ak)) (cond (a0.aH==2) (cond a0.kb (some (⟨a0.aH,a0.ab,a0.aj,eE,eE,false,a0.kb,a0.bZ,0,a0.aV,a0.bf⟩:ak)) (some (⟨a0.aH,a0.ab,a0.aj,eE,eE,false,a0.kb,0,0,a0.aV,a0.bf⟩:ak))) (cond (a0.aH==3) (some (⟨a0.aH,eE,a0.aj,eE,eE,false,false,0,a0.aX,a0.aV,a0.bf⟩:ak)) (some (⟨a0.aH,eE,a0.aj,eE,eE,false,false,0,0,a0.aV,a0.bf⟩:ak))))
def eN.f (k:Nat) (a0:ak):Option (Bool):=cond (decide (a0.aH<0)) (some false) (cond (decide (3<a0.aH)) (some false) ((nP.f k).bind fun ta=>an (iB a0.aH ta.length) (((iG.at ta a0.aH) a0).bind fun tc=>cond (!tc) (some false) ((mg.f a0).bind fun te=>cond (decide (a0=te)) ((mq.f k a0.aj).bind fun tg=>cond tg ((iR.f a0.aV).bind fun tj=>cond tj ((iR.f a0.bf).bind fun tm=>some tm) (some false)) (some false)) (some false)))))
def lh.f (a0:bp) (a1:BA):Option (Event×Bool):=(eD.f a0 a1).bind fun ta=>cond (!ta) (some ((⟨eE,eE,([]:List BA),eE,eE,0⟩:Event),false)) (an ((mget a0.ao a1).isSome=true) ((iJ.f (((mget a0.ao a1).getD default).fe)).bind fun tc=>some (tc,true)))
def jk.f (a0:aJ) (a1:BA) (a2:BA) (a3:BA):Option (Int):=(aP.f a0 a1).bind fun ta=>(lh.f ta a2).bind fun tc=>cond (!tc.2) (some 4) (cond (decide (a3=eE)) (cond (decide (a3=eE)) (some 0) (some 7)) (cond (decide (a3=(⟨#[109,97,105,110]⟩:BA))) (cond (decide (tc.1.ae=eE)) (cond (decide (tc.1.ae=eE)) (some 0) (some 7)) (cond (decide (a3=a2)) (cond (decide (a3=a2)) (some 0) (some 7)) (cond (decide (a3=tc.1.ae)) (some 0) (some 7)))) (cond (decide (a3=a2)) (cond (decide (a3=a2)) (some 0) (some 7)) (cond (decide (a3=tc.1.ae)) (some 0) (some 7)))))
def b9.l0 (k:Nat) (a0:List ak) (a1:ak):Nat→Int→Option ((Int×Bool) ⊕ (Int))
 | 0,_=>none
 | ja+1,xc=>cond (decide (xc<(a0.length:Int))) (an (iB xc a0.length) (cond (decide (a1=ak.K.at a0 xc)) (some (.inr xc)) (b9.l0 k a0 a1 ja (av (xc+1))))) (some (.inl (xc,decide (xc<(a0.length:Int)))))
def b9.f (k:Nat) (a0:List ak) (a1:ak):Option (Int):=(b9.l0 k a0 a1 k 0).bind (fall fun pa=>some (-1))
def fh.f (k:Nat) (a0:List ak) (a1:ak):Option (Bool):=(b9.f k a0 a1).bind fun ta=>some (decide (0≤ta))
def fb.f (xs:List ak) (i j:Int):Option (List ak):=an ((0:Int)≤i∧i≤j∧j≤(xs.length:Int)) (some (xs.take i.toNat++xs.drop j.toNat))
def j5.f (k:Nat) (a0:jB) (a1:ak):Option (ak×Bool×jB):=(fh.f k a0.fl a1).bind fun ta=>cond ta (some ((⟨0,eE,eE,eE,eE,false,false,0,0,0,0⟩:ak),false,a0)) (an (cB (a0.fl.length+([a1]:List ak).length) 112) (cond (decide (((a0.fl++([a1]:List ak)).length:Int)≤a0.eb)) (some ((⟨0,eE,eE,eE,eE,false,false,0,0,0,0⟩:ak),false,(⟨a0.eb,a0.fl++([a1]:List ak),a0.rr⟩:jB))) (an (iB 0 ((a0.fl++([a1]:List ak)).length)) ((fb.f (a0.fl++([a1]:List ak)) 0 1).bind fun tc=>some ((a0.fl++([a1]:List ak)).getD ((0:Int).toNat) default,true,(⟨a0.eb,tc,av (a0.rr+1)⟩:jB))))))
def ia.f (a0:bp) (a1:BA):Option (Pos×Bool):=(eD.f a0 a1).bind fun ta=>cond (!ta) (some ((⟨0,eE⟩:Pos),false)) (an ((mget a0.ao a1).isSome=true) (some ((⟨((mget a0.ao a1).getD default).cK,a1⟩:Pos),true)))
def fN.f (a0:aJ) (a1:BA) (a2:BA):Option (Pos×Bool):=(aP.f a0 a1).bind fun ta=>(ia.f ta a2).bind fun tc=>some (tc.1,tc.2)
def cmp_isNaN_string.f (a0:BA):Option (Bool):=some (!decide (a0=a0))
def aD.f (a0:BA) (a1:BA):Option (Int):=(cmp_isNaN_string.f a0).bind fun ta=>(cmp_isNaN_string.f a1).bind fun tc=>cond ta (cond tc (some 0) (some (-1))) (cond tc (some 1) (cond (dJ a0 a1) (some (-1)) (cond (dJ a1 a0) (some 1) (some 0))))
def bG.l0 (k:Nat) (a0:List Int):Nat→Int→Option ((Int×Bool) ⊕ (Int))
 | 0,_=>none
 | ja+1,xc=>cond (decide (xc<(a0.length:Int))) (an (iB xc a0.length) (cond (((bz .i64).at a0 xc) != 0) (some (.inr ((bz .i64).at a0 xc))) (bG.l0 k a0 ja (av (xc+1))))) (some (.inl (xc,decide (xc<(a0.length:Int)))))
def bG.f (k:Nat) (a0:List Int):Option (Int):=(bG.l0 k a0 k 0).bind (fall fun pa=>some 0)
def cmp_isNaN_int.f (a0:Int):Option (Bool):=some (a0 != a0)
def cD.f (a0:Int) (a1:Int):Option (Int):=(cmp_isNaN_int.f a0).bind fun ta=>(cmp_isNaN_int.f a1).bind fun tc=>cond ta (cond tc (some 0) (some (-1))) (cond tc (some 1) (cond (decide (a0<a1)) (some (-1)) (cond (decide (a1<a0)) (some 1) (some 0))))
def iS.f (k:Nat) (a0:Pos) (a1:Pos):Option (Int):=(cD.f a0.bx a1.bx).bind fun ta=>(aD.f a0.bV a1.bV).bind fun tc=>(bG.f k ([ta,tc]:List Int)).bind fun te=>some te
def gC.f (k:Nat) (a0:j6) (a1:bB) (a2:Pos):Option (Bool×j6):=cond ((mget a0.iU a1).isSome) ((iS.f k ((mget a0.iU a1).getD (⟨0,eE⟩:Pos)) a2).bind fun ta=>cond (decide (0≤ta)) (some (false,a0)) (some (true,(⟨mput a0.iU a1 a2⟩:j6)))) (some (true,(⟨mput a0.iU a1 a2⟩:j6)))
def pX.f (a0:ak):Option (bB):=some (⟨a0.ab,a0.aj,a0.ae,a0.aq⟩:bB)
def iD.f (k:Nat) (a0:jA) (a1:aJ) (a2:ak):Option (Bool×Int×jA):=cond (a2.aH != 1) (some (false,1,a0)) ((eN.f k a2).bind fun ta=>cond (!ta) (some (false,1,a0)) ((jk.f a1 a2.ab a2.bI a2.ae).bind fun tc=>cond (tc==4) ((j5.f k a0.qK a2).bind fun te=>some (false,0,(⟨a0.pW,te.2.2⟩:jA))) (cond (tc==0) ((fN.f a1 a2.ab a2.bI).bind fun tg=>(pX.f a2).bind fun tj=>(gC.f k a0.pW tj tg.1).bind fun tm=>some (tm.1,0,(⟨tm.2,a0.qK⟩:jA))) (some (false,tc,a0)))))
def strings_Join.f (xs:List BA) (sep:BA):Option BA:=an (xs.length≤140737488355328∧(Lib.join (xs.map (·.data.toList)) sep.data.toList).length≤140737488355328) (some ⟨(Lib.join (xs.map (·.data.toList)) sep.data.toList).toArray⟩)
def iK.f (a0:bB):Option (BA):=cond a0.aq ((strings_Join.f ([(⟨#[109]⟩:BA),a0.ab,a0.aj,a0.ae,(⟨#[49]⟩:BA)]:List BA) (⟨#[32]⟩:BA)).bind fun ta=>some ta) ((strings_Join.f ([(⟨#[109]⟩:BA),a0.ab,a0.aj,a0.ae,(⟨#[48]⟩:BA)]:List BA) (⟨#[32]⟩:BA)).bind fun tc=>some tc)
def mD.f (k:Nat) (a0:ak):Option (Bool):=(gI.f k a0).bind fun ta=>cond ta (some (!a0.aq)) (some false)
def cV.f:Nat→Int→Option ((List Int))
 | 0,_=>none
 | k+1,a0=>(cond (decide (a0<0)) (some 0) (some a0)).bind fun pa=>cond (decide (pa<128)) (some ([IntKind.u8.wrap (pa)]:List Int)) ((cV.f k (av (pa.tdiv 128))).bind fun ta=>an (cB (([IntKind.u8.wrap (av (128+(pa.tmod 128)))]:List Int).length+ta.length) 1) (some (([IntKind.u8.wrap (av (128+(pa.tmod 128)))]:List Int)++ta)))
def jR.f (k:Nat) (a0:BA):Option ((List Int)):=(cV.f k (a0.size:Int)).bind fun ta=>an (cB (ta.length+(nJ a0).length) 1) (some (ta++(nJ a0)))
def p8.f (a0:Bool):Option ((List Int)):=cond a0 (some ([1]:List Int)) (some ([0]:List Int))
def lD.f (k:Nat) (a0:ak):Option ((List Int)):=(cV.f k a0.aH).bind fun ta=>(jR.f k a0.ab).bind fun tc=>an (cB (ta.length+tc.length) 1) ((jR.f k a0.aj).bind fun te=>an (cB ((ta++tc).length+te.length) 1) ((jR.f k a0.bI).bind fun tg=>an (cB (((ta++tc)++te).length+tg.length) 1) ((jR.f k a0.ae).bind fun tj=>an (cB ((((ta++tc)++te)++tg).length+tj.length) 1) ((p8.f a0.kb).bind fun tm=>an (cB (((((ta++tc)++te)++tg)++tj).length+tm.length) 1) ((cV.f k a0.bZ).bind fun tn=>an (cB ((((((ta++tc)++te)++tg)++tj)++tm).length+tn.length) 1) ((cV.f k a0.aX).bind fun tp=>an (cB (((((((ta++tc)++te)++tg)++tj)++tm)++tn).length+tp.length) 1) ((cV.f k a0.aV).bind fun tq=>an (cB ((((((((ta++tc)++te)++tg)++tj)++tm)++tn)++tp).length+tq.length) 1) ((cV.f k a0.bf).bind fun tu=>an (cB (((((((((ta++tc)++te)++tg)++tj)++tm)++tn)++tp)++tq).length+tu.length) 1) (some (((((((((ta++tc)++te)++tg)++tj)++tm)++tn)++tp)++tq)++tu))))))))))
def jy.f (k:Nat) (a0:ak) (a1:ak):Option (Int):=cond (decide (a0.bf<a1.bf)) (some (-1)) (cond (decide (a1.bf<a0.bf)) (some 1) ((lD.f k a0).bind fun ta=>(lD.f k a1).bind fun tc=>cond (dJ (gK ta) (gK tc)) (some (-1)) (cond (dJ (gK tc) (gK ta)) (some 1) (some 0))))
def cU.l0 (k:Nat) (a0:kB) (a1:ak):Nat→Bool→Int→List ak→List Bool→Option ((Bool×Int×Bool×(List ak)×(List Bool)) ⊕ (kB×Bool×Int))
 | 0,_,_,_,_=>none
 | ja+1,xc,xd,xe,xf=>cond (decide (xd<(a0.fL.length:Int))) (an (iB xd a0.fL.length) (cond (decide (((ak.K.at a0.fL xd).ab)=a1.ab)) (cond (decide (((ak.K.at a0.fL xd).aj)=a1.aj)) ((jy.f k a1 (ak.K.at a0.fL xd)).bind fun ta=>cond (decide (ta≤0)) (some (.inr (a0,false,0))) (cU.l0 k a0 a1 ja xc (av (xd+1)) xe xf)) ((cond (!xc) (cond (dJ a1.ab ((ak.K.at a0.fL xd).ab)) (an (cB (xe.length+([a1]:List ak).length) 112) (an (cB (xf.length+([false]:List Bool).length) 1) (some (true,true,xe++([a1]:List ak),xf++([false]:List Bool))))) (cond (decide (a1.ab=((ak.K.at a0.fL xd).ab))) (cond (dJ a1.aj ((ak.K.at a0.fL xd).aj)) (an (cB (xe.length+([a1]:List ak).length) 112) (an (cB (xf.length+([false]:List Bool).length) 1) (some (true,dJ a1.aj ((ak.K.at a0.fL xd).aj),xe++([a1]:List ak),xf++([false]:List Bool))))) (some (xc,dJ a1.aj ((ak.K.at a0.fL xd).aj),xe,xf))) (some (xc,false,xe,xf)))) (some (xc,false,xe,xf))).bind fun pa=>an (cB (pa.2.2.1.length+([ak.K.at a0.fL xd]:List ak).length) 112) (an (iB xd a0.cH.length) (an (cB (pa.2.2.2.length+([bJ.at a0.cH xd]:List Bool).length) 1) (cU.l0 k a0 a1 ja pa.1 (av (xd+1)) (pa.2.2.1++([ak.K.at a0.fL xd]:List ak)) (pa.2.2.2++([bJ.at a0.cH xd]:List Bool))))))) ((cond (!xc) (cond (dJ a1.ab ((ak.K.at a0.fL xd).ab)) (an (cB (xe.length+([a1]:List ak).length) 112) (an (cB (xf.length+([false]:List Bool).length) 1) (some (true,true,xe++([a1]:List ak),xf++([false]:List Bool))))) (cond (decide (a1.ab=((ak.K.at a0.fL xd).ab))) (cond (dJ a1.aj ((ak.K.at a0.fL xd).aj)) (an (cB (xe.length+([a1]:List ak).length) 112) (an (cB (xf.length+([false]:List Bool).length) 1) (some (true,dJ a1.aj ((ak.K.at a0.fL xd).aj),xe++([a1]:List ak),xf++([false]:List Bool))))) (some (xc,dJ a1.aj ((ak.K.at a0.fL xd).aj),xe,xf))) (some (xc,false,xe,xf)))) (some (xc,false,xe,xf))).bind fun pc=>an (cB (pc.2.2.1.length+([ak.K.at a0.fL xd]:List ak).length) 112) (an (iB xd a0.cH.length) (an (cB (pc.2.2.2.length+([bJ.at a0.cH xd]:List Bool).length) 1) (cU.l0 k a0 a1 ja pc.1 (av (xd+1)) (pc.2.2.1++([ak.K.at a0.fL xd]:List ak)) (pc.2.2.2++([bJ.at a0.cH xd]:List Bool)))))))) (some (.inl (xc,xd,decide (xd<(a0.fL.length:Int)),xe,xf)))
def cU.f (k:Nat) (a0:kB) (a1:ak):Option (kB×Bool×Int):=(mD.f k a1).bind fun ta=>cond (a1.aH != 2) (some (a0,false,1)) (cond (!ta) (some (a0,false,1)) ((cU.l0 k a0 a1 k false 0 ([]:List ak) ([]:List Bool)).bind (fall fun pa=>cond (!pa.1) (an (cB (pa.2.2.2.1.length+([a1]:List ak).length) 112) (an (cB (pa.2.2.2.2.length+([false]:List Bool).length) 1) (some ((⟨pa.2.2.2.1++([a1]:List ak),pa.2.2.2.2++([false]:List Bool)⟩:kB),true,0)))) (some ((⟨pa.2.2.2.1,pa.2.2.2.2⟩:kB),true,0)))))
def my.f (k:Nat) (a0:ak):Option (Bool):=(eN.f k a0).bind fun ta=>cond ta (some (!a0.aq)) (some false)
def slices_BinarySearchFunc_Edu_Edu.l0 (k:Nat) (a0:List ak) (a1:ak) (a2:ak→ak→Option Int):Nat→Int→Int→Option (Int×Int×Bool)
 | 0,_,_=>none
 | ja+1,xc,xd=>cond (decide (xc<xd)) (an (iB (av ((IntKind.u64.wrap (av (xc+xd))).fdiv 2)) a0.length) ((a2 (ak.K.at a0 (av ((IntKind.u64.wrap (av (xc+xd))).fdiv 2))) a1).bind fun ta=>cond (decide (ta<0)) (slices_BinarySearchFunc_Edu_Edu.l0 k a0 a1 a2 ja (av ((av ((IntKind.u64.wrap (av (xc+xd))).fdiv 2))+1)) xd) (slices_BinarySearchFunc_Edu_Edu.l0 k a0 a1 a2 ja xc (av ((IntKind.u64.wrap (av (xc+xd))).fdiv 2))))) (some (xc,xd,decide (xc<xd)))
def slices_BinarySearchFunc_Edu_Edu.f (k:Nat) (a0:List ak) (a1:ak) (a2:ak→ak→Option Int):Option (Int×Bool):=(slices_BinarySearchFunc_Edu_Edu.l0 k a0 a1 a2 k 0 (a0.length:Int)).bind fun pa=>cond (decide (pa.1<(a0.length:Int))) (an (iB pa.1 a0.length) ((a2 (ak.K.at a0 pa.1) a1).bind fun ta=>some (pa.1,(ta==0)))) (some (pa.1,false))
def dY.f (k:Nat) (a0:ak) (a1:ak):Option (Int):=(aD.f a0.ab a1.ab).bind fun ta=>(aD.f a0.aj a1.aj).bind fun tc=>(bG.f k ([ta,tc]:List Int)).bind fun te=>some te
def dW.f (k:Nat) (a0:bS) (a1:ak):Option (Int×Bool):=(slices_BinarySearchFunc_Edu_Edu.f k a0.fl a1 (dY.f k)).bind fun ta=>some (ta.1,ta.2)
def qt.f (a0:ak):Option (vV):=some (⟨a0.aH,a0.ab,a0.aj,a0.ae,a0.aq⟩:vV)
def lu.f (a0:List Int) (a1:List Int):Option (Int):=some (H6 a0 a1)
def cC.l0 (k:Nat):Nat→Int→List Int→Option (Int×Bool×(List Int))
 | 0,_,_=>none
 | ja+1,xc,xd=>cond (decide (128≤xc)) (an (cB (xd.length+([IntKind.u8.wrap (av ((xc.tmod 128)+128))]:List Int).length) 1) (cC.l0 k ja (av (xc.tdiv 128)) (xd++([IntKind.u8.wrap (av ((xc.tmod 128)+128))]:List Int)))) (some (xc,decide (128≤xc),xd))
def cC.f (k:Nat) (a0:List Int) (a1:Int):Option ((List Int)):=an ((0:Int)≤(a0.length:Int)∧0≤(a0.length:Int).toNat∧(a0.length:Int).toNat≤a0.length) ((cC.l0 k k (max a1 0) ((a0.take ((a0.length:Int).toNat)).drop 0)).bind fun pa=>an (cB (pa.2.2.length+([IntKind.u8.wrap (pa.1)]:List Int).length) 1) (some (pa.2.2++([IntKind.u8.wrap (pa.1)]:List Int))))
def oW.f (k:Nat) (a0:List Int) (a1:BA):Option ((List Int)):=(cC.f k a0 (a1.size:Int)).bind fun ta=>an (cB (ta.length+(nJ a1).length) 1) (some (ta++(nJ a1)))
def oL.f (k:Nat) (a0:List Int) (a1:Bool):Option ((List Int)):=cond a1 ((cC.f k a0 1).bind fun ta=>some ta) ((cC.f k a0 0).bind fun tc=>some tc)
def cT.l0 (k:Nat) (a0:ak):Nat→Int→List Int→Option (Int×Bool×(List Int))
 | 0,_,_=>none
 | ja+1,xc,xd=>cond (decide (xc<(([a0.bZ,a0.aX,a0.aV,a0.bf]:List Int).length:Int))) (an (iB xc (([a0.bZ,a0.aX,a0.aV,a0.bf]:List Int).length)) ((cC.f k xd ((bz .i64).at ([a0.bZ,a0.aX,a0.aV,a0.bf]:List Int) xc)).bind fun ta=>cT.l0 k a0 ja (av (xc+1)) ta)) (some (xc,decide (xc<(([a0.bZ,a0.aX,a0.aV,a0.bf]:List Int).length:Int)),xd))
def cT.l1 (k:Nat) (a0:ak):Nat→Int→List Int→Option (Int×Bool×(List Int))
 | 0,_,_=>none
 | ja+1,xc,xd=>cond (decide (xc<(([a0.ab,a0.aj,a0.bI,a0.ae]:List BA).length:Int))) (an (iB xc (([a0.ab,a0.aj,a0.bI,a0.ae]:List BA).length)) ((oW.f k xd (aw.at ([a0.ab,a0.aj,a0.bI,a0.ae]:List BA) xc)).bind fun ta=>cT.l1 k a0 ja (av (xc+1)) ta)) (some (xc,decide (xc<(([a0.ab,a0.aj,a0.bI,a0.ae]:List BA).length:Int)),xd))
def cT.f (k:Nat) (a0:ak):Option ((List Int)):=(cC.f k ([]:List Int) a0.aH).bind fun ta=>(cT.l1 k a0 k 0 ta).bind fun pa=>(oL.f k pa.2.2 a0.kb).bind fun tc=>(cT.l0 k a0 k 0 tc).bind fun pc=>some pc.2.2
def lz.f (k:Nat) (a0:ak) (a1:ak):Option (Int):=(cD.f a0.bf a1.bf).bind fun ta=>(cT.f k a0).bind fun tc=>(cT.f k a1).bind fun te=>(lu.f tc te).bind fun tg=>(bG.f k ([ta,tg]:List Int)).bind fun tj=>some tj
def jY.f (k:Nat) (a0:ak) (a1:ak):Option (Bool):=(qt.f a0).bind fun ta=>(qt.f a1).bind fun tc=>cond (decide (ta=tc)) ((lz.f k a0 a1).bind fun te=>some (decide (0<te))) (some false)
def cZ.f (xs:List ak) (i:Int) (ys:List ak):Option (List ak):=an ((0:Int)≤i∧i≤(xs.length:Int)∧0<ys.length∧xs.length+ys.length≤4611686018427387904∧(xs.length+ys.length)*112≤140737488355328) (some (xs.take i.toNat++ys++xs.drop i.toNat))
def dB.f (a0:aQ) (a1:Int) (a2:dq):Option (aQ):=an (iB a1 a0.fl.length) (some (⟨a0.fl.set a1.toNat a2,mput a0.iU a2.dx a1⟩:aQ))
def heap_ahead.f (k:Nat) (a0:dq) (a1:dq):Option (Int):=(cD.f a0.eH a1.eH).bind fun ta=>(aD.f a0.dx a1.dx).bind fun tc=>(bG.f k ([ta,tc]:List Int)).bind fun te=>some te
def heap_Heap_down.l0 (k:Nat) (a0:aQ) (a1:Int):Nat→Int→aQ→Option (Int×Int×Bool×Bool×aQ)
 | 0,_,_=>none
 | ja+1,xc,xd=>(cond (decide ((av ((av ((av (2*xc))+1))+1))<(xd.fl.length:Int))) (an (iB (av ((av ((av (2*xc))+1))+1)) xd.fl.length) (an (iB (av ((av (2*xc))+1)) xd.fl.length) ((heap_ahead.f k (xd.fl.getD ((av ((av ((av (2*xc))+1))+1)).toNat) default) (xd.fl.getD ((av ((av (2*xc))+1)).toNat) default)).bind fun ta=>cond (decide (ta<0)) (some (av ((av ((av (2*xc))+1))+1),decide (ta<0))) (some (av ((av (2*xc))+1),decide (ta<0)))))) (some (av ((av (2*xc))+1),false))).bind fun pa=>cond (decide ((xd.fl.length:Int)≤pa.1)) (some (xc,pa.1,pa.2,true,xd)) (an (iB pa.1 xd.fl.length) ((heap_ahead.f k (a0.fl.getD a1.toNat default) (xd.fl.getD pa.1.toNat default)).bind fun tc=>cond (decide (tc<0)) (some (xc,pa.1,pa.2,decide (tc<0),xd)) (an (iB pa.1 xd.fl.length) ((dB.f xd xc (xd.fl.getD pa.1.toNat default)).bind fun te=>heap_Heap_down.l0 k a0 a1 ja pa.1 te))))
def heap_Heap_down.f (k:Nat) (a0:aQ) (a1:Int):Option (aQ):=an (iB a1 a0.fl.length) ((heap_Heap_down.l0 k a0 a1 k a1 a0).bind fun pa=>(dB.f pa.2.2.2.2 pa.1 (a0.fl.getD a1.toNat default)).bind fun ta=>some ta)
def cY.l0 (k:Nat) (a0:aQ) (a1:Int):Nat→Int→aQ→Option (Int×Bool×aQ)
 | 0,_,_=>none
 | ja+1,xc,xd=>cond (decide (0<xc)) (an (iB (av ((av (xc-1)).tdiv 2)) xd.fl.length) ((heap_ahead.f k (a0.fl.getD a1.toNat default) (xd.fl.getD ((av ((av (xc-1)).tdiv 2)).toNat) default)).bind fun ta=>cond (decide (ta<0)) (an (iB (av ((av (xc-1)).tdiv 2)) xd.fl.length) ((dB.f xd xc (xd.fl.getD ((av ((av (xc-1)).tdiv 2)).toNat) default)).bind fun tc=>cY.l0 k a0 a1 ja (av ((av (xc-1)).tdiv 2)) tc)) (some (xc,decide (ta<0),xd)))) (some (xc,false,xd))
def cY.f (k:Nat) (a0:aQ) (a1:Int):Option (aQ):=an (iB a1 a0.fl.length) ((cY.l0 k a0 a1 k a1 a0).bind fun pa=>(dB.f pa.2.2 pa.1 (a0.fl.getD a1.toNat default)).bind fun ta=>some ta)
def du.f (k:Nat) (a0:aQ) (a1:BA):Option (Bool×aQ):=cond (!((mget a0.iU a1).isSome)) (some (false,a0)) (an (iB (av ((a0.fl.length:Int)-1)) a0.fl.length) (an ((0:Int)≤(av ((a0.fl.length:Int)-1))∧0≤(av ((a0.fl.length:Int)-1)).toNat∧(av ((a0.fl.length:Int)-1)).toNat≤a0.fl.length) (cond (decide (((mget a0.iU a1).getD 0)<(av ((a0.fl.length:Int)-1)))) ((dB.f (⟨(a0.fl.take ((av ((a0.fl.length:Int)-1)).toNat)).drop 0,l7 a0.iU a1⟩:aQ) ((mget a0.iU a1).getD 0) (a0.fl.getD ((av ((a0.fl.length:Int)-1)).toNat) default)).bind fun ta=>(heap_Heap_down.f k ta ((mget a0.iU a1).getD 0)).bind fun tc=>(cY.f k tc ((mget tc.iU ((a0.fl.getD ((av ((a0.fl.length:Int)-1)).toNat) default).dx)).getD 0)).bind fun te=>some (true,te)) (some (true,(⟨(a0.fl.take ((av ((a0.fl.length:Int)-1)).toNat)).drop 0,l7 a0.iU a1⟩:aQ))))))
def eU.f (k:Nat) (a0:aQ) (a1:Int) (a2:BA):Option (aQ):=(du.f k a0 a2).bind fun ta=>an (cB (ta.2.fl.length+([(⟨a1,a2⟩:dq)]:List dq).length) 24) ((cY.f k (⟨ta.2.fl++([(⟨a1,a2⟩:dq)]:List dq),ta.2.iU⟩:aQ) (av (((ta.2.fl++([(⟨a1,a2⟩:dq)]:List dq)).length:Int)-1))).bind fun tc=>some tc)
def jJ.f (a0:ak):Option (Int):=some (av (a0.aV+a0.bZ))
def fE.f (k:Nat) (a0:bS) (a1:ak):Option (Bool×Int×bS):=cond (a1.aH != 2) (some (false,1,a0)) ((my.f k a1).bind fun ta=>cond (!ta) (some (false,1,a0)) ((dW.f k a0 a1).bind fun tc=>(cond tc.2 (an (iB tc.1 a0.fl.length) (cond (decide (a0.fl.getD tc.1.toNat default=a1)) (some (.inr (false,0,a0))) (an (iB tc.1 a0.fl.length) ((jY.f k a1 (a0.fl.getD tc.1.toNat default)).bind fun te=>cond (!te) (some (.inr (false,0,a0))) (an (iB tc.1 a0.fl.length) (some (.inl (true,!te,true,(⟨a0.fl.set tc.1.toNat a1,a0.gV⟩:bS))))))))) ((cZ.f a0.fl tc.1 ([a1]:List ak)).bind fun tg=>some (.inl (false,false,false,(⟨tg,a0.gV⟩:bS))))).bind (fall fun pa=>an (a1.ab.size+(⟨#[32]⟩:BA).size≤9223372036854775807) (an ((a1.ab++(⟨#[32]⟩:BA)).size+a1.aj.size≤9223372036854775807) ((du.f k pa.2.2.2.gV ((a1.ab++(⟨#[32]⟩:BA))++a1.aj)).bind fun tj=>cond a1.kb ((jJ.f a1).bind fun tm=>(eU.f k tj.2 tm ((a1.ab++(⟨#[32]⟩:BA))++a1.aj)).bind fun tn=>some (true,0,(⟨pa.2.2.2.fl,tn⟩:bS))) (some (true,0,(⟨pa.2.2.2.fl,tj.2⟩:bS))))))))
def jF.f (a0:BA):Option (BA):=an ((⟨#[116,32]⟩:BA).size+a0.size≤9223372036854775807) (some ((⟨#[116,32]⟩:BA)++a0))
def de.l0 (k:Nat) (a0:lF) (a1:ak):Nat→Bool→Int→List ak→List Int→Option ((Bool×Int×Bool×(List ak)×(List Int)) ⊕ (lF×Bool×Int))
 | 0,_,_,_,_=>none
 | ja+1,xc,xd,xe,xf=>cond (decide (xd<(a0.fL.length:Int))) (an (iB xd a0.fL.length) (cond (decide (((ak.K.at a0.fL xd).aj)=a1.aj)) ((jy.f k a1 (ak.K.at a0.fL xd)).bind fun ta=>cond (decide (ta≤0)) (some (.inr (a0,false,0))) (de.l0 k a0 a1 ja xc (av (xd+1)) xe xf)) ((cond (!xc) (cond (dJ a1.aj ((ak.K.at a0.fL xd).aj)) (an (cB (xe.length+([a1]:List ak).length) 112) (an (cB (xf.length+([(-1)]:List Int).length) 8) (some (true,dJ a1.aj ((ak.K.at a0.fL xd).aj),xe++([a1]:List ak),xf++([(-1)]:List Int))))) (some (xc,dJ a1.aj ((ak.K.at a0.fL xd).aj),xe,xf))) (some (xc,false,xe,xf))).bind fun pa=>an (cB (pa.2.2.1.length+([ak.K.at a0.fL xd]:List ak).length) 112) (an (iB xd a0.cH.length) (an (cB (pa.2.2.2.length+([(bz .i64).at a0.cH xd]:List Int).length) 8) (de.l0 k a0 a1 ja pa.1 (av (xd+1)) (pa.2.2.1++([ak.K.at a0.fL xd]:List ak)) (pa.2.2.2++([(bz .i64).at a0.cH xd]:List Int)))))))) (some (.inl (xc,xd,decide (xd<(a0.fL.length:Int)),xe,xf)))
def de.f (k:Nat) (a0:lF) (a1:ak):Option (lF×Bool×Int):=(mD.f k a1).bind fun ta=>cond (a1.aH != 3) (some (a0,false,1)) (cond (!ta) (some (a0,false,1)) ((de.l0 k a0 a1 k false 0 ([]:List ak) ([]:List Int)).bind (fall fun pa=>cond (!pa.1) (an (cB (pa.2.2.2.1.length+([a1]:List ak).length) 112) (an (cB (pa.2.2.2.2.length+([(-1)]:List Int).length) 8) (some ((⟨pa.2.2.2.1++([a1]:List ak),pa.2.2.2.2++([(-1)]:List Int)⟩:lF),true,0)))) (some ((⟨pa.2.2.2.1,pa.2.2.2.2⟩:lF),true,0)))))
def ax.l0 (k:Nat) (a0:List ak) (a1:BA) (a2:ak→BA→Option Int):Nat→Int→Int→Option (Int×Int×Bool)
 | 0,_,_=>none
 | ja+1,xc,xd=>cond (decide (xc<xd)) (an (iB (av ((IntKind.u64.wrap (av (xc+xd))).fdiv 2)) a0.length) ((a2 (ak.K.at a0 (av ((IntKind.u64.wrap (av (xc+xd))).fdiv 2))) a1).bind fun ta=>cond (decide (ta<0)) (ax.l0 k a0 a1 a2 ja (av ((av ((IntKind.u64.wrap (av (xc+xd))).fdiv 2))+1)) xd) (ax.l0 k a0 a1 a2 ja xc (av ((IntKind.u64.wrap (av (xc+xd))).fdiv 2))))) (some (xc,xd,decide (xc<xd)))
def ax.f (k:Nat) (a0:List ak) (a1:BA) (a2:ak→BA→Option Int):Option (Int×Bool):=(ax.l0 k a0 a1 a2 k 0 (a0.length:Int)).bind fun pa=>cond (decide (pa.1<(a0.length:Int))) (an (iB pa.1 a0.length) ((a2 (ak.K.at a0 pa.1) a1).bind fun ta=>some (pa.1,(ta==0)))) (some (pa.1,false))
def dG.f (a0:ak) (a1:BA):Option (Int):=(aD.f a0.aj a1).bind fun ta=>some ta
def dC.f (k:Nat) (a0:b7) (a1:BA):Option (Int×Bool):=(ax.f k a0.fl a1 dG.f).bind fun ta=>some (ta.1,ta.2)
def dX.f (a0:ak) (a1:Int):Option (Int):=cond (a0.aX==2) (cond (decide (a1<(av (a0.aV+30)))) (some 2) (cond (decide (a1<(av (a0.aV+90)))) (some 1) (some 0))) (cond (a0.aX==1) (cond (decide (a1<(av (a0.aV+90)))) (some 1) (some 0)) (some 0))
def bK.l0 (k:Nat) (a0:ak) (a1:Int):Nat→Int→Option ((Int×Bool) ⊕ (Int×Bool))
 | 0,_=>none
 | ja+1,xc=>cond (decide (xc<2)) (an ((0:Int)≤xc∧xc<(2:Int)) (cond (decide (a1<(av (a0.aV+((bz .i64).at ([30,90]:List Int) xc))))) ((dX.f a0 (av ((av (a0.aV+((bz .i64).at ([30,90]:List Int) xc)))-1))).bind fun ta=>(dX.f a0 (av (a0.aV+((bz .i64).at ([30,90]:List Int) xc)))).bind fun tc=>cond (decide (tc<ta)) (some (.inr (av (a0.aV+((bz .i64).at ([30,90]:List Int) xc)),true))) (bK.l0 k a0 a1 ja (av (xc+1)))) (bK.l0 k a0 a1 ja (av (xc+1))))) (some (.inl (xc,decide (xc<2))))
def bK.f (k:Nat) (a0:ak) (a1:Int):Option (Int×Bool):=(bK.l0 k a0 a1 k 0).bind (fall fun pa=>some (0,false))
def eJ.f (k:Nat) (a0:b7) (a1:ak):Option (Bool×Int×b7):=cond (a1.aH != 3) (some (false,1,a0)) ((my.f k a1).bind fun ta=>cond (!ta) (some (false,1,a0)) ((dC.f k a0 a1.aj).bind fun tc=>(cond tc.2 (an (iB tc.1 a0.fl.length) ((jY.f k a1 (a0.fl.getD tc.1.toNat default)).bind fun te=>cond (!te) (some (.inr (false,0,a0))) (an (iB tc.1 a0.fl.length) (some (.inl (true,!te,true,(⟨a0.fl.set tc.1.toNat a1,a0.eV⟩:b7))))))) ((cZ.f a0.fl tc.1 ([a1]:List ak)).bind fun tg=>some (.inl (false,false,false,(⟨tg,a0.eV⟩:b7))))).bind (fall fun pa=>(du.f k pa.2.2.2.eV a1.aj).bind fun tj=>(bK.f k a1 (-1)).bind fun tm=>cond tm.2 ((eU.f k tj.2 tm.1 a1.aj).bind fun tn=>some (true,0,(⟨pa.2.2.2.fl,tn⟩:b7))) (some (true,0,(⟨pa.2.2.2.fl,tj.2⟩:b7))))))
def jI.f (a0:BA):Option (BA):=an ((⟨#[112,32]⟩:BA).size+a0.size≤9223372036854775807) (some ((⟨#[112,32]⟩:BA)++a0))
def clock_Counter_Add.l0 (k:Nat) (a0:lv) (a1:Int):Nat→Option (Int×Int×lv)
 | 0=>none
 | ja+1=>cond (decide (0<a1)) (cond (a0.fn.fv==a0.eb) (some (0,11,a0)) ((cond (decide (a1<(av (a0.eb-a0.fn.fv)))) (some (av (a0.fn.fv+a1))) (some a0.eb)).bind fun pa=>cond (a1==0) (some (pa,0,a0)) (some (pa,0,(⟨(⟨pa⟩:Cm),a0.eb⟩:lv))))) ((cond (decide (a1<(av (a0.eb-a0.fn.fv)))) (some (av (a0.fn.fv+a1))) (some a0.eb)).bind fun pc=>cond (a1==0) (some (pc,0,a0)) (some (pc,0,(⟨(⟨pc⟩:Cm),a0.eb⟩:lv))))
def clock_Counter_Add.f (k:Nat) (a0:lv) (a1:Int):Option (Int×Int×lv):=cond (decide (a1<0)) (some (0,1,a0)) (clock_Counter_Add.l0 k a0 a1 k)
def fO.f (k:Nat) (a0:lv):Option (Int×Int×lv):=(clock_Counter_Add.f k a0 1).bind fun ta=>some (ta.1,ta.2.1,ta.2.2)
def bE.l0 (k:Nat) (a0:List BA) (a1:BA):Nat→Int→Option ((Int×Bool) ⊕ (Int))
 | 0,_=>none
 | ja+1,xc=>cond (decide (xc<(a0.length:Int))) (an (iB xc a0.length) (cond (decide (a1=(aw.at a0 xc))) (some (.inr xc)) (bE.l0 k a0 a1 ja (av (xc+1))))) (some (.inl (xc,decide (xc<(a0.length:Int)))))
def bE.f (k:Nat) (a0:List BA) (a1:BA):Option (Int):=(bE.l0 k a0 a1 k 0).bind (fall fun pa=>some (-1))
def ea.f (xs:List BA) (i j:Int):Option (List BA):=an ((0:Int)≤i∧i≤j∧j≤(xs.length:Int)) (some (xs.take i.toNat++xs.drop j.toNat))
def iF.f (k:Nat) (a0:b8) (a1:BA):Option (Int×Int×b8):=(fO.f k a0.iU).bind fun ta=>cond (ta.2.1 != 0) (some (0,ta.2.1,(⟨ta.2.2,a0.eS,a0.ox⟩:b8))) ((cond ((mget a0.ox a1).isSome) ((bE.f k a0.eS a1).bind fun tc=>(ea.f a0.eS tc (av (tc+1))).bind fun te=>some (⟨ta.2.2,te,a0.ox⟩:b8)) (some (⟨ta.2.2,a0.eS,a0.ox⟩:b8))).bind fun pa=>an (cB (pa.eS.length+([a1]:List BA).length) 16) (some (ta.1,0,(⟨pa.iU,pa.eS++([a1]:List BA),mput pa.ox a1 ta.1⟩:b8))))
def iN.f (a0:jO):Option (BA):=cond (a0.aH==1) ((cond a0.fK.aq (some (⟨#[32,49]⟩:BA)) (some (⟨#[32,48]⟩:BA))).bind fun pa=>an ((⟨#[109,32]⟩:BA).size+a0.fK.ab.size≤9223372036854775807) (an (((⟨#[109,32]⟩:BA)++a0.fK.ab).size+(⟨#[32]⟩:BA).size≤9223372036854775807) (an ((((⟨#[109,32]⟩:BA)++a0.fK.ab)++(⟨#[32]⟩:BA)).size+a0.fK.aj.size≤9223372036854775807) (an (((((⟨#[109,32]⟩:BA)++a0.fK.ab)++(⟨#[32]⟩:BA))++a0.fK.aj).size+(⟨#[32]⟩:BA).size≤9223372036854775807) (an ((((((⟨#[109,32]⟩:BA)++a0.fK.ab)++(⟨#[32]⟩:BA))++a0.fK.aj)++(⟨#[32]⟩:BA)).size+a0.fK.ae.size≤9223372036854775807) (an (((((((⟨#[109,32]⟩:BA)++a0.fK.ab)++(⟨#[32]⟩:BA))++a0.fK.aj)++(⟨#[32]⟩:BA))++a0.fK.ae).size+pa.size≤9223372036854775807) (some (((((((⟨#[109,32]⟩:BA)++a0.fK.ab)++(⟨#[32]⟩:BA))++a0.fK.aj)++(⟨#[32]⟩:BA))++a0.fK.ae)++pa)))))))) (cond (a0.aH==2) (an ((⟨#[116,32]⟩:BA).size+a0.mJ.size≤9223372036854775807) (some ((⟨#[116,32]⟩:BA)++a0.mJ))) (an ((⟨#[112,32]⟩:BA).size+a0.mJ.size≤9223372036854775807) (some ((⟨#[112,32]⟩:BA)++a0.mJ))))
def nj.f (k:Nat) (a0:Src) (a1:dy) (a2:ak):Option (dy×Bool×Src):=(cond (a2.aH==1) ((q7.f k (⟨a1.fM,(⟨8,([]:List ak),0⟩:n5)⟩:qJ) a1.fV a2).bind fun ta=>(iD.f k a0.ay a0.cI a2).bind fun tc=>cond (tc.1 != ta.2.1) (some (.inr ((⟨a1.fV,ta.1.fL,a1.fT,a1.fP,a1.fL,a1.aL⟩:dy),false,(⟨a0.cI,tc.2.2,a0.aO,a0.aR,a0.fZ⟩:Src)))) (cond (ta.2.2 != tc.2.1) (some (.inr ((⟨a1.fV,ta.1.fL,a1.fT,a1.fP,a1.fL,a1.aL⟩:dy),false,(⟨a0.cI,tc.2.2,a0.aO,a0.aR,a0.fZ⟩:Src)))) ((p9.f a2).bind fun te=>(iK.f te).bind fun tg=>some (.inl (tg,(⟨1,te,eE⟩:jO),(⟨a1.fV,ta.1.fL,a1.fT,a1.fP,a1.fL,a1.aL⟩:dy),tc.2.2,a0.aO,a0.aR))))) (cond (a2.aH==2) ((cU.f k a1.fT a2).bind fun tj=>(fE.f k a0.aO a2).bind fun tm=>cond (tm.1 != tj.2.1) (some (.inr ((⟨a1.fV,a1.fM,tj.1,a1.fP,a1.fL,a1.aL⟩:dy),false,(⟨a0.cI,a0.ay,tm.2.2,a0.aR,a0.fZ⟩:Src)))) ((jF.f a2.ab).bind fun tn=>some (.inl (tn,(⟨2,(⟨eE,eE,eE,false⟩:bB),a2.ab⟩:jO),(⟨a1.fV,a1.fM,tj.1,a1.fP,a1.fL,a1.aL⟩:dy),a0.ay,tm.2.2,a0.aR)))) ((de.f k a1.fP a2).bind fun tp=>(eJ.f k a0.aR a2).bind fun tq=>cond (tq.1 != tp.2.1) (some (.inr ((⟨a1.fV,a1.fM,a1.fT,tp.1,a1.fL,a1.aL⟩:dy),false,(⟨a0.cI,a0.ay,a0.aO,tq.2.2,a0.fZ⟩:Src)))) ((jI.f a2.aj).bind fun tu=>some (.inl (tu,(⟨3,(⟨eE,eE,eE,false⟩:bB),a2.aj⟩:jO),(⟨a1.fV,a1.fM,a1.fT,tp.1,a1.fL,a1.aL⟩:dy),a0.ay,a0.aO,tq.2.2)))))).bind (fall fun pa=>an (cB (([]:List jO).length+pa.2.2.1.fL.length) 80) (an (cB ((([]:List jO)++pa.2.2.1.fL).length+([(⟨pa.2.1.aH,pa.2.1.fK,pa.2.1.mJ⟩:jO)]:List jO).length) 80) ((iF.f k a0.fZ pa.1).bind fun tw=>cond (tw.2.1==0) ((iN.f (⟨pa.2.1.aH,pa.2.1.fK,pa.2.1.mJ⟩:jO)).bind fun tx=>some ((⟨pa.2.2.1.fV,pa.2.2.1.fM,pa.2.2.1.fT,pa.2.2.1.fP,(([]:List jO)++pa.2.2.1.fL)++([(⟨pa.2.1.aH,pa.2.1.fK,pa.2.1.mJ⟩:jO)]:List jO),pa.2.2.1.aL⟩:dy),decide (pa.1=tx),(⟨a0.cI,pa.2.2.2.1,pa.2.2.2.2.1,pa.2.2.2.2.2,tw.2.2⟩:Src))) (some ((⟨pa.2.2.1.fV,pa.2.2.1.fM,pa.2.2.1.fT,pa.2.2.1.fP,(([]:List jO)++pa.2.2.1.fL)++([(⟨pa.2.1.aH,pa.2.1.fK,pa.2.1.mJ⟩:jO)]:List jO),pa.2.2.1.aL⟩:dy),false,(⟨a0.cI,pa.2.2.2.1,pa.2.2.2.2.1,pa.2.2.2.2.2,tw.2.2⟩:Src))))))
def gS.f (k:Nat) (a0:Int):Option (BA):=(br.f a0 11).bind fun ta=>cond (ta==9) (some eE) (cond (ta==10) (some (⟨#[109,97,105,110]⟩:BA)) ((dp.f k ta).bind fun tc=>some tc))
def lN.f (k:Nat) (a0:ak):Option (ak):=(br.f a0.aH 3).bind fun ta=>(il.f a0.aX).bind fun tc=>(br.f a0.aV 100).bind fun te=>(br.f a0.bf 9).bind fun tg=>cond ((av (1+ta))==1) ((fc.f a0.bZ).bind fun tj=>(br.f a0.aV 9).bind fun tm=>(dp.f k (av ((a0.bI.size:Int)+tm))).bind fun tn=>(gS.f k (a0.ae.size:Int)).bind fun tp=>some (⟨av (1+ta),tj,tc,tn,tp,a0.aq,false,0,0,te,tg⟩:ak)) (cond ((av (1+ta))==2) ((fc.f a0.bZ).bind fun tq=>cond a0.kb ((br.f a0.bZ 60).bind fun tu=>some (⟨av (1+ta),tq,tc,eE,eE,false,a0.kb,av (1+tu),0,te,tg⟩:ak)) (some (⟨av (1+ta),tq,tc,eE,eE,false,a0.kb,0,0,te,tg⟩:ak))) ((br.f a0.bZ 3).bind fun tw=>some (⟨av (1+ta),eE,tc,eE,eE,false,false,0,tw,te,tg⟩:ak)))
def slices_DeleteFunc_string_xo.l0 (k:Nat) (a1:(BA→Option Bool)):Nat→Int→Int→List BA→Option (Int×Int×Bool×(List BA))
 | 0,_,_,_=>none
 | ja+1,xc,xd,xe=>cond (decide (xd<(xe.length:Int))) (an (iB xd xe.length) ((a1 (xe.getD xd.toNat default)).bind fun ta=>cond (!ta) (an (iB xc xe.length) (slices_DeleteFunc_string_xo.l0 k a1 ja (av (xc+1)) (av (xd+1)) (xe.set xc.toNat (xe.getD xd.toNat default)))) (slices_DeleteFunc_string_xo.l0 k a1 ja xc (av (xd+1)) xe))) (some (xc,xd,decide (xd<(xe.length:Int)),xe))
def slices_DeleteFunc_string_xo.f (k:Nat) (a0:List BA) (a1:(BA→Option Bool)):Option ((List BA)):=(aA.f k a0 a1).bind fun ta=>cond (ta==(-1)) (some a0) ((slices_DeleteFunc_string_xo.l0 k a1 k ta (av (ta+1)) a0).bind fun pa=>an ((0:Int)≤pa.1∧pa.1.toNat<pa.2.2.2.length) (an ((0:Int)≤pa.1∧0≤pa.1.toNat∧pa.1.toNat≤(pa.2.2.2.take pa.1.toNat++List.replicate (pa.2.2.2.length-pa.1.toNat) eE).length) (some (((pa.2.2.2.take pa.1.toNat++List.replicate (pa.2.2.2.length-pa.1.toNat) eE).take pa.1.toNat).drop 0))))
def eK.f (k:Nat) (a0:bS) (a1:BA) (a2:BA) (a3:Int):Option (Bool):=(dW.f k a0 (⟨0,a1,a2,eE,eE,false,false,0,0,0,0⟩:ak)).bind fun ta=>cond ta.2 (an (iB ta.1 a0.fl.length) (cond ((a0.fl.getD ta.1.toNat default).kb) (an (iB ta.1 a0.fl.length) ((jJ.f (a0.fl.getD ta.1.toNat default)).bind fun tc=>some (decide (a3<tc)))) (some false))) (some false)
def aT.l0 (k:Nat) (a0:bS) (a1:BA) (a2:Int):Nat→Int→List BA→Option (Int×Bool×(List BA))
 | 0,_,_=>none
 | ja+1,xc,xd=>cond (decide (xc<(a0.fl.length:Int))) (an (iB xc a0.fl.length) (cond (decide (((a0.fl.getD xc.toNat default).ab)=a1)) ((eK.f k a0 a1 ((a0.fl.getD xc.toNat default).aj) a2).bind fun ta=>cond ta (an (cB (xd.length+([(a0.fl.getD xc.toNat default).aj]:List BA).length) 16) (aT.l0 k a0 a1 a2 ja (av (xc+1)) (xd++([(a0.fl.getD xc.toNat default).aj]:List BA)))) (aT.l0 k a0 a1 a2 ja (av (xc+1)) xd)) (aT.l0 k a0 a1 a2 ja (av (xc+1)) xd))) (some (xc,decide (xc<(a0.fl.length:Int)),xd))
def aT.f (k:Nat) (a0:bS) (a1:BA) (a2:Int):Option ((List BA)):=(aT.l0 k a0 a1 a2 k 0 ([]:List BA)).bind fun pa=>some pa.2.2
def fq (x y:Pos):Int:=if x.bx<y.bx then -1 else if y.bx<x.bx then 1 else j8 x.bV y.bV
def dM.f (xs:List Pos):Option (List Pos):=an (xs.length≤1000000) (some (kY fq xs))
def oz.f (a0:aY):Option (Bool):=some true
def aG.g (e:BA×aY):Option Pos:=cond true (some ⟨e.2.cK,e.1⟩) none
def aG.f (a0:bp):Option (List BA):=an (a0.ao.length≤1000000) (some ((kY fq (a0.ao.filterMap aG.g)).map (·.bV)))
def dag_Dag_All.l0 (k:Nat) (a0:bp) (ta:List BA):Nat→Int→List Event→Option (Int×Int×Bool×(List Event)×(List BA))
 | 0,_,_=>none
 | ja+1,xc,xd=>cond (decide (xc<(ta.length:Int))) (an (iB xc ta.length) (an ((mget a0.ao (ta.getD xc.toNat default)).isSome=true) ((iJ.f (((mget a0.ao (ta.getD xc.toNat default)).getD default).fe)).bind fun tc=>an (cB (xd.length+([tc]:List Event).length) 96) (dag_Dag_All.l0 k a0 ta ja (av (xc+1)) (xd++([tc]:List Event)))))) (some ((ta.length:Int),xc,decide (xc<(ta.length:Int)),xd,ta))
def dag_Dag_All.f (k:Nat) (a0:bp):Option ((List Event)):=((aG.f a0).bind fun ta=>dag_Dag_All.l0 k a0 ta k 0 ([]:List Event)).bind fun pa=>some pa.2.2.2.1
def member_joined.l0 (k:Nat) (ta:(List Event)):Nat→Int→(List (BA×Int))→Option (Int×Int×Bool×(List (BA×Int))×(List Event))
 | 0,_,_=>none
 | ja+1,xc,xd=>cond (decide (xc<(ta.length:Int))) (an (iB xc ta.length) (cond (((ta.getD xc.toNat default).bR)==1) (member_joined.l0 k ta ja (av (xc+1)) (mput xd ((ta.getD xc.toNat default).aj) 1)) (cond (((ta.getD xc.toNat default).bR)==2) (member_joined.l0 k ta ja (av (xc+1)) (l7 xd ((ta.getD xc.toNat default).aj))) (member_joined.l0 k ta ja (av (xc+1)) xd)))) (some ((ta.length:Int),xc,decide (xc<(ta.length:Int)),xd,ta))
def member_joined.f (k:Nat) (a0:bp):Option ((List (BA×Int))):=((dag_Dag_All.f k a0).bind fun ta=>member_joined.l0 k ta k 0 ([]:List (BA×Int))).bind fun pa=>some pa.2.2.2.1
def j4.f (k:Nat) (a0:bp) (a1:BA):Option (Bool):=(member_joined.f k a0).bind fun ta=>some (decide (0<((mget ta a1).getD 0)))
def bP.f (k:Nat) (a0:aJ) (a1:BA) (a2:BA):Option (Bool):=(aP.f a0 a1).bind fun ta=>(j4.f k ta a2).bind fun tc=>some tc
def iO.f (k:Nat) (a0:BA) (c0:Src) (c1:BA):Option (Bool):=(bP.f k c0.cI c1 a0).bind fun ta=>some (!ta)
def lx.f (k:Nat) (a0:Src) (a1:BA) (a2:Int):Option ((List BA)):=(aT.f k a0.aO a1 a2).bind fun ta=>(slices_DeleteFunc_string_xo.f k ta (fun a0_=>iO.f k a0_ a0 a1)).bind fun tc=>some tc
def ji.f (a0:lv):Option (Int):=some a0.fn.fv
def iM.f (a0:b8):Option (Int):=(ji.f a0.iU).bind fun ta=>some ta
def cG.l0 (k:Nat) (a0:b8) (a1:Int):Nat→Int→Option (Int×Bool)
 | 0,_=>none
 | ja+1,xc=>cond (decide (0<xc)) (an (iB (av (xc-1)) a0.eS.length) (cond (decide (a1<((mget a0.ox (a0.eS.getD ((av (xc-1)).toNat) default)).getD 0))) (cG.l0 k a0 a1 ja (av (xc-1))) (some (xc,decide (a1<((mget a0.ox (a0.eS.getD ((av (xc-1)).toNat) default)).getD 0)))))) (some (xc,false))
def cG.f (k:Nat) (a0:b8) (a1:Int):Option ((List BA)):=(cG.l0 k a0 a1 k (a0.eS.length:Int)).bind fun pa=>an ((0:Int)≤(av ((a0.eS.length:Int)-pa.1))∧(av ((a0.eS.length:Int)-pa.1))≤(9223372036854775807:Int)∧(av ((a0.eS.length:Int)-pa.1)).toNat*16≤140737488355328) (an ((0:Int)≤pa.1∧pa.1.toNat≤a0.eS.length) (some ((a0.eS.drop pa.1.toNat).take (List.replicate (av ((a0.eS.length:Int)-pa.1)).toNat (eE:BA)).length++(List.replicate (av ((a0.eS.length:Int)-pa.1)).toNat (eE:BA)).drop (a0.eS.length-pa.1.toNat))))
def gW.f (a0:BA) (a1:BA):Option (Int):=(eF.f a0 a1).bind fun ta=>some ta
def strings_Count.l0 (k:Nat) (a1:BA):Nat→BA→Int→Option (Int)
 | 0,_,_=>none
 | ja+1,xc,xd=>(gW.f xc a1).bind fun ta=>cond (ta==(-1)) (some xd) (an ((0:Int)≤(av (ta+(a1.size:Int)))∧(av (ta+(a1.size:Int))).toNat≤xc.size∧xc.size≤xc.size) (strings_Count.l0 k a1 ja (xc.extract (av (ta+(a1.size:Int))).toNat xc.size) (av (xd+1))))
def strings_Count.f (k:Nat) (a0:BA) (a1:BA):Option (Int):=cond ((a1.size:Int)==0) (none) (cond ((a1.size:Int)==1) (an (iB 0 a1.size) (some (DU a0 (bt a1 0)))) (strings_Count.l0 k a1 k a0 0))
def strings_genSplit.l0 (k:Nat) (a0:BA) (a1:BA) (a2:Int) (pa:Int):Nat→BA→Int→List BA→Option (BA×Int×Bool×(List BA))
 | 0,_,_,_=>none
 | ja+1,xc,xd,xe=>cond (decide (xd<(av ((min pa (av ((a0.size:Int)+1)))-1)))) ((gW.f xc a1).bind fun ta=>cond (decide (ta<0)) (some (xc,xd,decide (xd<(av ((min pa (av ((a0.size:Int)+1)))-1))),xe)) (an ((0:Int)≤(av (ta+a2))∧0≤(av (ta+a2)).toNat∧(av (ta+a2)).toNat≤xc.size) (an (iB xd xe.length) (an ((0:Int)≤(av (ta+(a1.size:Int)))∧(av (ta+(a1.size:Int))).toNat≤xc.size∧xc.size≤xc.size) (strings_genSplit.l0 k a0 a1 a2 pa ja (xc.extract (av (ta+(a1.size:Int))).toNat xc.size) (av (xd+1)) (xe.set xd.toNat (xc.extract 0 ((av (ta+a2)).toNat)))))))) (some (xc,xd,decide (xd<(av ((min pa (av ((a0.size:Int)+1)))-1))),xe))
def strings_genSplit.f (k:Nat) (a0:BA) (a1:BA) (a2:Int) (a3:Int):Option ((List BA)):=cond (a3==0) (some ([]:List BA)) (cond (decide (a1=eE)) (none) ((cond (decide (a3<0)) ((strings_Count.f k a0 a1).bind fun ta=>some (av (ta+1))) (some a3)).bind fun pa=>an ((0:Int)≤(min pa (av ((a0.size:Int)+1)))∧(min pa (av ((a0.size:Int)+1)))≤(9223372036854775807:Int)∧(min pa (av ((a0.size:Int)+1))).toNat*16≤140737488355328) ((strings_genSplit.l0 k a0 a1 a2 pa k a0 0 (List.replicate (min pa (av ((a0.size:Int)+1))).toNat (eE:BA))).bind fun pc=>an (iB pc.2.1 pc.2.2.2.length) (an ((0:Int)≤(av (pc.2.1+1))∧0≤(av (pc.2.1+1)).toNat∧(av (pc.2.1+1)).toNat≤(pc.2.2.2.set pc.2.1.toNat pc.1).length) (some (((pc.2.2.2.set pc.2.1.toNat pc.1).take ((av (pc.2.1+1)).toNat)).drop 0))))))
def ll.f (k:Nat) (a0:BA) (a1:BA):Option ((List BA)):=(strings_genSplit.f k a0 a1 0 (-1)).bind fun ta=>some ta
def ni.f (k:Nat) (a0:BA):Option (jV):=(ll.f k a0 (⟨#[32]⟩:BA)).bind fun ta=>cond ((ta.length:Int)==5) (an (iB 0 ta.length) (cond (decide ((ta.getD ((0:Int).toNat) default)=(⟨#[109]⟩:BA))) (an (iB 4 ta.length) (cond (decide ((ta.getD ((4:Int).toNat) default)=(⟨#[48]⟩:BA))) (an (iB 1 ta.length) (an (iB 2 ta.length) (an (iB 3 ta.length) (an (iB 4 ta.length) (some (jV.d89 (⟨ta.getD ((1:Int).toNat) default,ta.getD ((2:Int).toNat) default,ta.getD ((3:Int).toNat) default,decide ((ta.getD ((4:Int).toNat) default)=(⟨#[49]⟩:BA))⟩:bB))))))) (an (iB 4 ta.length) (cond (decide ((ta.getD ((4:Int).toNat) default)=(⟨#[49]⟩:BA))) (an (iB 1 ta.length) (an (iB 2 ta.length) (an (iB 3 ta.length) (an (iB 4 ta.length) (some (jV.d89 (⟨ta.getD ((1:Int).toNat) default,ta.getD ((2:Int).toNat) default,ta.getD ((3:Int).toNat) default,decide ((ta.getD ((4:Int).toNat) default)=(⟨#[49]⟩:BA))⟩:bB))))))) (cond ((ta.length:Int)==2) (an (iB 0 ta.length) (cond (decide ((ta.getD ((0:Int).toNat) default)=(⟨#[116]⟩:BA))) (an (iB 1 ta.length) (some (jV.d141 (ta.getD ((1:Int).toNat) default)))) (cond ((ta.length:Int)==2) (an (iB 0 ta.length) (cond (decide ((ta.getD ((0:Int).toNat) default)=(⟨#[112]⟩:BA))) (an (iB 1 ta.length) (some (jV.d143 (ta.getD ((1:Int).toNat) default)))) (some jV.nil))) (some jV.nil)))) (cond ((ta.length:Int)==2) (an (iB 0 ta.length) (cond (decide ((ta.getD ((0:Int).toNat) default)=(⟨#[112]⟩:BA))) (an (iB 1 ta.length) (some (jV.d143 (ta.getD ((1:Int).toNat) default)))) (some jV.nil))) (some jV.nil))))))) (cond ((ta.length:Int)==2) (an (iB 0 ta.length) (cond (decide ((ta.getD ((0:Int).toNat) default)=(⟨#[116]⟩:BA))) (an (iB 1 ta.length) (some (jV.d141 (ta.getD ((1:Int).toNat) default)))) (cond ((ta.length:Int)==2) (an (iB 0 ta.length) (cond (decide ((ta.getD ((0:Int).toNat) default)=(⟨#[112]⟩:BA))) (an (iB 1 ta.length) (some (jV.d143 (ta.getD ((1:Int).toNat) default)))) (some jV.nil))) (some jV.nil)))) (cond ((ta.length:Int)==2) (an (iB 0 ta.length) (cond (decide ((ta.getD ((0:Int).toNat) default)=(⟨#[112]⟩:BA))) (an (iB 1 ta.length) (some (jV.d143 (ta.getD ((1:Int).toNat) default)))) (some jV.nil))) (some jV.nil))))) (cond ((ta.length:Int)==2) (an (iB 0 ta.length) (cond (decide ((ta.getD ((0:Int).toNat) default)=(⟨#[116]⟩:BA))) (an (iB 1 ta.length) (some (jV.d141 (ta.getD ((1:Int).toNat) default)))) (cond ((ta.length:Int)==2) (an (iB 0 ta.length) (cond (decide ((ta.getD ((0:Int).toNat) default)=(⟨#[112]⟩:BA))) (an (iB 1 ta.length) (some (jV.d143 (ta.getD ((1:Int).toNat) default)))) (some jV.nil))) (some jV.nil)))) (cond ((ta.length:Int)==2) (an (iB 0 ta.length) (cond (decide ((ta.getD ((0:Int).toNat) default)=(⟨#[112]⟩:BA))) (an (iB 1 ta.length) (some (jV.d143 (ta.getD ((1:Int).toNat) default)))) (some jV.nil))) (some jV.nil)))
def gA.f (a0:j6) (a1:bB):Option (Pos×Bool):=some ((mget a0.iU a1).getD (⟨0,eE⟩:Pos),(mget a0.iU a1).isSome)
def hM.f (k:Nat) (a0:Src) (a1:bB) (a2:BA):Option (jg×Bool):=(gA.f a0.ay.pW a1).bind fun ta=>cond ta.2 ((bP.f k a0.cI a1.ab a2).bind fun tc=>cond tc (cond (!a1.aq) (some ((⟨a1,ta.1⟩:jg),true)) (some ((⟨a1,ta.1⟩:jg),decide (a1.aj=a2)))) (some ((⟨a1,ta.1⟩:jg),false))) (some ((⟨a1,ta.1⟩:jg),false))
def slices_Sort_string.f (xs:List BA):Option (List BA):=an (xs.length<4611686018427387904) (some (pz xs))
def gJ.f (a0:aJ):Option (List BA):=an (a0.bC.length≤1000000) (some (pz (a0.bC.map (·.1))))
def dO.f (k:Nat) (a0:BA) (c0:aJ) (c1:BA):Option (Bool):=(bP.f k c0 a0 c1).bind fun ta=>some (!ta)
def gH.f (k:Nat) (a0:aJ) (a1:BA):Option ((List BA)):=(gJ.f a0).bind fun ta=>(slices_DeleteFunc_string_xo.f k ta (fun a0_=>dO.f k a0_ a0 a1)).bind fun tc=>some tc
def dN.f (k:Nat) (a0:BA) (c0:aJ) (c1:BA):Option (Bool):=(bP.f k c0 a0 c1).bind fun ta=>some ta
def fa.f (k:Nat) (a0:aJ) (a1:BA) (a2:BA):Option (Bool):=(gH.f k a0 a1).bind fun ta=>(cN.f k ta (fun a0_=>dN.f k a0_ a0 a2)).bind fun tc=>some tc
def bX.f (k:Nat) (a0:b7) (a1:BA) (a2:Int):Option (Int):=(dC.f k a0 a1).bind fun ta=>cond (!ta.2) (some 0) (an (iB ta.1 a0.fl.length) ((dX.f (a0.fl.getD ta.1.toNat default) a2).bind fun tc=>some tc))
def ig.f (a0:Bool):Option (Int):=cond a0 (some 1) (some 0)
def iC.f (k:Nat) (a0:bB) (a1:bB):Option (Int):=(aD.f a0.ab a1.ab).bind fun ta=>(aD.f a0.aj a1.aj).bind fun tc=>(aD.f a0.ae a1.ae).bind fun te=>(ig.f a0.aq).bind fun tg=>(ig.f a1.aq).bind fun tj=>(cD.f tg tj).bind fun tm=>(bG.f k ([ta,tc,te,tm]:List Int)).bind fun tn=>some tn
def mK.f (k:Nat) (a0:jg) (a1:jg):Option (Int):=(iC.f k a0.dx a1.dx).bind fun ta=>some ta
def mS (x y:bB):Int:=EW (j8 x.ab y.ab) (EW (j8 x.aj y.aj) (EW (j8 x.ae y.ae) (nm (if x.aq then 1 else 0) (if y.aq then 1 else 0))))
def aW.cf (x y:jg):Int:=mS x.dx y.dx
def aW.f (xs:List jg):Option (List jg):=an (xs.length≤1000000∧xs.Pairwise fun x y=>ltOf aW.cf x y=true∨ltOf aW.cf y x=true) (some (kY aW.cf xs))
def mP.f (a0:fQ) (a1:fQ):Option (Int):=(aD.f a0.ab a1.ab).bind fun ta=>some ta
def aM.cf (x y:fQ):Int:=j8 x.ab y.ab
def aM.f (xs:List fQ):Option (List fQ):=an (xs.length≤1000000∧xs.Pairwise fun x y=>ltOf aM.cf x y=true∨ltOf aM.cf y x=true) (some (kY aM.cf xs))
def mM.f (a0:fU) (a1:fU):Option (Int):=(aD.f a0.aj a1.aj).bind fun ta=>some ta
def aN.cf (x y:fU):Int:=j8 x.aj y.aj
def aN.f (xs:List fU):Option (List fU):=an (xs.length≤1000000∧xs.Pairwise fun x y=>ltOf aN.cf x y=true∨ltOf aN.cf y x=true) (some (kY aN.cf xs))
def sync_Make.l0 (k:Nat) (a0:Src) (a1:BA) (a3:Int) (ta:(List BA)):Nat→Int→List jg→List fQ→List fU→Option (Int×Int×Bool×(List BA)×(List jg)×(List fQ)×(List fU))
 | 0,_,_,_,_=>none
 | ja+1,xc,xd,xe,xf=>cond (decide (xc<(ta.length:Int))) (an (iB xc ta.length) ((ni.f k (ta.getD xc.toNat default)).bind fun tc=>(cond ((jV.g89 tc).isSome) ((hM.f k a0 ((jV.g89 tc).getD (⟨eE,eE,eE,false⟩:bB)) a1).bind fun te=>cond te.2 (an (cB (xd.length+([(⟨te.1.dx,te.1.eH⟩:jg)]:List jg).length) 80) (some (xd++([(⟨te.1.dx,te.1.eH⟩:jg)]:List jg),xe))) (some (xd,xe))) (cond ((jV.tC tc).isSome) ((bP.f k a0.cI ((jV.tC tc).getD eE) a1).bind fun tg=>cond tg ((lx.f k a0 ((jV.tC tc).getD eE) a3).bind fun tj=>an (cB (xe.length+([(⟨(jV.tC tc).getD eE,tj⟩:fQ)]:List fQ).length) 40) (some (xd,xe++([(⟨(jV.tC tc).getD eE,tj⟩:fQ)]:List fQ)))) (some (xd,xe))) (some (xd,xe)))).bind fun pa=>cond ((jV.sW tc).isSome) ((fa.f k a0.cI a1 ((jV.sW tc).getD eE)).bind fun tm=>cond tm ((bX.f k a0.aR ((jV.sW tc).getD eE) a3).bind fun tn=>an (cB (xf.length+([(⟨(jV.sW tc).getD eE,tn⟩:fU)]:List fU).length) 24) (sync_Make.l0 k a0 a1 a3 ta ja (av (xc+1)) pa.1 pa.2 (xf++([(⟨(jV.sW tc).getD eE,tn⟩:fU)]:List fU)))) (sync_Make.l0 k a0 a1 a3 ta ja (av (xc+1)) pa.1 pa.2 xf)) (sync_Make.l0 k a0 a1 a3 ta ja (av (xc+1)) pa.1 pa.2 xf))) (some ((ta.length:Int),xc,decide (xc<(ta.length:Int)),ta,xd,xe,xf))
def sync_Make.f (k:Nat) (a0:Src) (a1:BA) (a2:Int) (a3:Int):Option (uN×Int):=cond (decide (a2<0)) (some ((⟨0,([]:List jg),([]:List fQ),([]:List fU)⟩:uN),10)) ((iM.f a0.fZ).bind fun ta=>cond (decide (ta<a2)) (some ((⟨0,([]:List jg),([]:List fQ),([]:List fU)⟩:uN),10)) ((iM.f a0.fZ).bind fun tc=>((cG.f k a0.fZ a2).bind fun te=>sync_Make.l0 k a0 a1 a3 te k 0 ([]:List jg) ([]:List fQ) ([]:List fU)).bind fun pa=>(aW.f pa.2.2.2.2.1).bind fun tg=>(aM.f pa.2.2.2.2.2.1).bind fun tj=>(aN.f pa.2.2.2.2.2.2).bind fun tm=>some ((⟨tc,tg,tj,tm⟩:uN),0)))
def cM.l0 (k:Nat) (a0:aK) (a1:BA):Nat→Int→Int→Option (Int×Int×Bool)
 | 0,_,_=>none
 | ja+1,xc,xd=>cond (decide (xd<(a0.fL.length:Int))) (an (iB xd a0.fL.length) (cond (!decide (((Event.K.at a0.fL xd).aj)=a1)) (cM.l0 k a0 a1 ja xc (av (xd+1))) (an (iB xd a0.fL.length) (cond (((Event.K.at a0.fL xd).bR)==0) (cM.l0 k a0 a1 ja xc (av (xd+1))) (cond (decide (xc<0)) (cM.l0 k a0 a1 ja xd (av (xd+1))) (an (iB xc a0.fL.length) ((dI.f k a0 ((Event.K.at a0.fL xc).bV)).bind fun ta=>an (iB xd a0.fL.length) ((dI.f k a0 ((Event.K.at a0.fL xd).bV)).bind fun tc=>(fH.f ta tc).bind fun te=>cond te (cM.l0 k a0 a1 ja xd (av (xd+1))) (cM.l0 k a0 a1 ja xc (av (xd+1))))))))))) (some (xc,xd,decide (xd<(a0.fL.length:Int))))
def cM.f (k:Nat) (a0:aK) (a1:BA):Option (Event×Bool):=(cM.l0 k a0 a1 k (-1) 0).bind fun pa=>cond (decide (pa.1<0)) (some ((⟨eE,eE,([]:List BA),eE,eE,0⟩:Event),false)) (an (iB pa.1 a0.fL.length) (some (Event.K.at a0.fL pa.1,true)))
def jC.f (k:Nat) (a0:aK) (a1:BA):Option (Bool):=(cM.f k a0 a1).bind fun ta=>cond ta.2 (some (ta.1.bR==1)) (some false)
def er.f (k:Nat) (a0:bA) (a1:BA) (a2:BA):Option (Bool):=(iz.f k a0 a1).bind fun ta=>(jC.f k ta a2).bind fun tc=>some tc
def cO.l0 (k:Nat) (a0:kB) (a1:BA) (a2:BA) (a3:Int):Nat→Int→Option ((Int×Bool) ⊕ (Bool))
 | 0,_=>none
 | ja+1,xc=>cond (decide (xc<(a0.fL.length:Int))) (an (iB xc a0.fL.length) (cond (decide (((ak.K.at a0.fL xc).ab)=a1)) (an (iB xc a0.fL.length) (cond (decide (((ak.K.at a0.fL xc).aj)=a2)) (an (iB xc a0.fL.length) (cond ((ak.K.at a0.fL xc).kb) (an (iB xc a0.fL.length) (an (iB xc a0.fL.length) (some (.inr (decide (a3<(av (((ak.K.at a0.fL xc).aV)+((ak.K.at a0.fL xc).bZ))))))))) (some (.inr false)))) (cO.l0 k a0 a1 a2 a3 ja (av (xc+1))))) (cO.l0 k a0 a1 a2 a3 ja (av (xc+1))))) (some (.inl (xc,decide (xc<(a0.fL.length:Int)))))
def cO.f (k:Nat) (a0:kB) (a1:BA) (a2:BA) (a3:Int):Option (Bool):=(cO.l0 k a0 a1 a2 a3 k 0).bind (fall fun pa=>some false)
def dt.l0 (k:Nat) (a0:kB) (a1:BA) (a2:Int):Nat→Int→List BA→Option (Int×Bool×(List BA))
 | 0,_,_=>none
 | ja+1,xc,xd=>cond (decide (xc<(a0.fL.length:Int))) (an (iB xc a0.fL.length) ((cO.f k a0 a1 ((ak.K.at a0.fL xc).aj) a2).bind fun ta=>an (iB xc a0.fL.length) (cond (decide (((ak.K.at a0.fL xc).ab)=a1)) (cond ta (an (iB xc a0.fL.length) (an (cB (xd.length+([(ak.K.at a0.fL xc).aj]:List BA).length) 16) (dt.l0 k a0 a1 a2 ja (av (xc+1)) (xd++([(ak.K.at a0.fL xc).aj]:List BA))))) (dt.l0 k a0 a1 a2 ja (av (xc+1)) xd)) (dt.l0 k a0 a1 a2 ja (av (xc+1)) xd)))) (some (xc,decide (xc<(a0.fL.length:Int)),xd))
def dt.f (k:Nat) (a0:kB) (a1:BA) (a2:Int):Option ((List BA)):=(dt.l0 k a0 a1 a2 k 0 ([]:List BA)).bind fun pa=>some pa.2.2
def fi.l0 (k:Nat) (a0:dy) (a1:BA) (ta:(List BA)):Nat→Int→List BA→Option (Int×Bool×(List BA))
 | 0,_,_=>none
 | ja+1,xc,xd=>cond (decide (xc<(ta.length:Int))) (an (iB xc ta.length) ((er.f k a0.fV a1 (ta.getD xc.toNat default)).bind fun tc=>cond tc (an (iB xc ta.length) (an (cB (xd.length+([ta.getD xc.toNat default]:List BA).length) 16) (fi.l0 k a0 a1 ta ja (av (xc+1)) (xd++([ta.getD xc.toNat default]:List BA))))) (fi.l0 k a0 a1 ta ja (av (xc+1)) xd))) (some (xc,decide (xc<(ta.length:Int)),xd))
def fi.f (k:Nat) (a0:dy) (a1:BA) (a2:Int):Option ((List BA)):=(dt.f k a0.fT a1 a2).bind fun ta=>(fi.l0 k a0 a1 ta k 0 ([]:List BA)).bind fun pa=>some pa.2.2
def dZ.l0 (k:Nat) (a0:bA) (a1:BA):Nat→Int→List BA→Option (Int×Bool×(List BA))
 | 0,_,_=>none
 | ja+1,xc,xd=>cond (decide (xc<(a0.fD.length:Int))) (an (iB xc a0.fD.length) ((jC.f k (aK.K.at a0.fD xc) a1).bind fun ta=>cond ta (an (iB xc a0.fD.length) (an (cB (xd.length+([(aK.K.at a0.fD xc).ab]:List BA).length) 16) (dZ.l0 k a0 a1 ja (av (xc+1)) (xd++([(aK.K.at a0.fD xc).ab]:List BA))))) (dZ.l0 k a0 a1 ja (av (xc+1)) xd))) (some (xc,decide (xc<(a0.fD.length:Int)),xd))
def dZ.f (k:Nat) (a0:bA) (a1:BA):Option ((List BA)):=(dZ.l0 k a0 a1 k 0 ([]:List BA)).bind fun pa=>some pa.2.2
def dP.l0 (k:Nat) (a0:bA) (a2:BA) (ta:(List BA)):Nat→Int→Option ((Int×Bool) ⊕ (Bool))
 | 0,_=>none
 | ja+1,xc=>cond (decide (xc<(ta.length:Int))) (an (iB xc ta.length) ((er.f k a0 (ta.getD xc.toNat default) a2).bind fun tc=>cond tc (some (.inr true)) (dP.l0 k a0 a2 ta ja (av (xc+1))))) (some (.inl (xc,decide (xc<(ta.length:Int)))))
def dP.f (k:Nat) (a0:bA) (a1:BA) (a2:BA):Option (Bool):=(dZ.f k a0 a1).bind fun ta=>(dP.l0 k a0 a2 ta k 0).bind (fall fun pa=>some false)
def kc.l0 (k:Nat) (a0:List BA) (a1:Int) (a2:BA):Nat→Int→Option ((Int×Bool) ⊕ (Int))
 | 0,_=>none
 | ja+1,xc=>cond (decide (0≤xc)) (an (iB xc a0.length) (cond (decide ((aw.at a0 xc)=a2)) (some (.inr (av ((av (a1+1))+xc)))) (kc.l0 k a0 a1 a2 ja (av (xc-1))))) (some (.inl (xc,decide (0≤xc))))
def kc.f (k:Nat) (a0:List BA) (a1:Int) (a2:BA):Option (Int):=(kc.l0 k a0 a1 a2 k (av ((a0.length:Int)-1))).bind (fall fun pa=>some 0)
def iI.l0 (k:Nat) (a0:List jO):Nat→Int→List BA→Option (Int×Bool×(List BA))
 | 0,_,_=>none
 | ja+1,xc,xd=>cond (decide (xc<(a0.length:Int))) (an (iB xc a0.length) ((iN.f (⟨(jO.K.at a0 xc).aH,(jO.K.at a0 xc).fK,(jO.K.at a0 xc).mJ⟩:jO)).bind fun ta=>an (cB (xd.length+([ta]:List BA).length) 16) (iI.l0 k a0 ja (av (xc+1)) (xd++([ta]:List BA))))) (some (xc,decide (xc<(a0.length:Int)),xd))
def iI.f (k:Nat) (a0:List jO):Option ((List BA)):=(iI.l0 k a0 k 0 ([]:List BA)).bind fun pa=>some pa.2.2
def fS.f (k:Nat) (a0:dy) (a1:Int) (a2:BA):Option (Bool):=(iI.f k a0.fL).bind fun ta=>(kc.f k ta a0.aL a2).bind fun tc=>some (decide (a1<tc))
def gT.l0 (k:Nat) (a0:List BA) (a1:BA):Nat→Bool→Int→List BA→Option (Bool×Int×Bool×(List BA))
 | 0,_,_,_=>none
 | ja+1,xc,xd,xe=>cond (decide (xd<(a0.length:Int))) ((cond (!xc) (an (iB xd a0.length) (cond (!dJ (aw.at a0 xd) a1) (an (cB (xe.length+([a1]:List BA).length) 16) (some (true,!dJ (aw.at a0 xd) a1,xe++([a1]:List BA)))) (some (xc,!dJ (aw.at a0 xd) a1,xe)))) (some (xc,false,xe))).bind fun pa=>an (iB xd a0.length) (cond (!decide ((aw.at a0 xd)=a1)) (an (iB xd a0.length) (an (cB (pa.2.2.length+([aw.at a0 xd]:List BA).length) 16) (gT.l0 k a0 a1 ja pa.1 (av (xd+1)) (pa.2.2++([aw.at a0 xd]:List BA))))) (gT.l0 k a0 a1 ja pa.1 (av (xd+1)) pa.2.2))) (some (xc,xd,decide (xd<(a0.length:Int)),xe))
def gT.f (k:Nat) (a0:List BA) (a1:BA):Option ((List BA)):=(gT.l0 k a0 a1 k false 0 ([]:List BA)).bind fun pa=>cond (!pa.1) (an (cB (pa.2.2.2.length+([a1]:List BA).length) 16) (some (pa.2.2.2++([a1]:List BA)))) (some pa.2.2.2)
def tJ.f (a0:ak) (a1:Int):Option (Int):=cond (a0.aX==2) (cond (decide (a1<(av (a0.aV+30)))) (some 2) (cond (decide (0<a0.aX)) (cond (decide (a1<(av (a0.aV+90)))) (some 1) (some 0)) (some 0))) (cond (decide (0<a0.aX)) (cond (decide (a1<(av (a0.aV+90)))) (some 1) (some 0)) (some 0))
def dz.l0 (k:Nat) (a0:lF) (a1:BA) (a2:Int):Nat→Int→Option ((Int×Bool) ⊕ (Int))
 | 0,_=>none
 | ja+1,xc=>cond (decide (xc<(a0.fL.length:Int))) (an (iB xc a0.fL.length) (cond (decide (((ak.K.at a0.fL xc).aj)=a1)) (an (iB xc a0.fL.length) ((tJ.f (ak.K.at a0.fL xc) a2).bind fun ta=>some (.inr ta))) (dz.l0 k a0 a1 a2 ja (av (xc+1))))) (some (.inl (xc,decide (xc<(a0.fL.length:Int)))))
def dz.f (k:Nat) (a0:lF) (a1:BA) (a2:Int):Option (Int):=(dz.l0 k a0 a1 a2 k 0).bind (fall fun pa=>some 0)
def bu.l0 (k:Nat) (a0:dy) (a1:BA) (a2:Int) (a3:Int) (pa:Int×Bool×(List BA)×(List BA)):Nat→Int→List fU→Option (Int×Bool×(List fU))
 | 0,_,_=>none
 | ja+1,xc,xd=>cond (decide (xc<(pa.2.2.2.length:Int))) (an (iB xc pa.2.2.2.length) ((iN.f (⟨3,(⟨eE,eE,eE,false⟩:bB),pa.2.2.2.getD xc.toNat default⟩:jO)).bind fun ta=>(fS.f k (⟨a0.fV,a0.fM,a0.fT,a0.fP,a0.fL,a0.aL⟩:dy) a2 ta).bind fun tc=>an (iB xc pa.2.2.2.length) ((dP.f k a0.fV a1 (pa.2.2.2.getD xc.toNat default)).bind fun te=>cond tc (cond te (an (iB xc pa.2.2.2.length) (an (iB xc pa.2.2.2.length) ((dz.f k a0.fP (pa.2.2.2.getD xc.toNat default) a3).bind fun tg=>an (cB (xd.length+([(⟨pa.2.2.2.getD xc.toNat default,tg⟩:fU)]:List fU).length) 24) (bu.l0 k a0 a1 a2 a3 pa ja (av (xc+1)) (xd++([(⟨pa.2.2.2.getD xc.toNat default,tg⟩:fU)]:List fU)))))) (bu.l0 k a0 a1 a2 a3 pa ja (av (xc+1)) xd)) (bu.l0 k a0 a1 a2 a3 pa ja (av (xc+1)) xd)))) (some (xc,decide (xc<(pa.2.2.2.length:Int)),xd))
def bu.l1 (k:Nat) (a0:dy) (a1:BA) (a2:Int) (a3:Int) (pa:Int×Bool×(List BA)×(List BA)):Nat→Int→List fQ→Option (Int×Bool×(List fQ))
 | 0,_,_=>none
 | ja+1,xc,xd=>cond (decide (xc<(pa.2.2.1.length:Int))) (an (iB xc pa.2.2.1.length) ((iN.f (⟨2,(⟨eE,eE,eE,false⟩:bB),pa.2.2.1.getD xc.toNat default⟩:jO)).bind fun ta=>(fS.f k (⟨a0.fV,a0.fM,a0.fT,a0.fP,a0.fL,a0.aL⟩:dy) a2 ta).bind fun tc=>an (iB xc pa.2.2.1.length) ((er.f k a0.fV (pa.2.2.1.getD xc.toNat default) a1).bind fun te=>cond tc (cond te (an (iB xc pa.2.2.1.length) (an (iB xc pa.2.2.1.length) ((fi.f k (⟨a0.fV,a0.fM,a0.fT,a0.fP,a0.fL,a0.aL⟩:dy) (pa.2.2.1.getD xc.toNat default) a3).bind fun tg=>an (cB (xd.length+([(⟨pa.2.2.1.getD xc.toNat default,tg⟩:fQ)]:List fQ).length) 40) (bu.l1 k a0 a1 a2 a3 pa ja (av (xc+1)) (xd++([(⟨pa.2.2.1.getD xc.toNat default,tg⟩:fQ)]:List fQ)))))) (bu.l1 k a0 a1 a2 a3 pa ja (av (xc+1)) xd)) (bu.l1 k a0 a1 a2 a3 pa ja (av (xc+1)) xd)))) (some (xc,decide (xc<(pa.2.2.1.length:Int)),xd))
def bu.l2 (k:Nat) (a0:dy):Nat→Int→List BA→List BA→Option (Int×Bool×(List BA)×(List BA))
 | 0,_,_,_=>none
 | ja+1,xc,xd,xe=>cond (decide (xc<(a0.fL.length:Int))) ((an (iB xc a0.fL.length) (cond (((jO.K.at a0.fL xc).aH)==2) (an (iB xc a0.fL.length) ((gT.f k xd ((jO.K.at a0.fL xc).mJ)).bind fun ta=>some ta)) (some xd))).bind fun pa=>an (iB xc a0.fL.length) (cond (((jO.K.at a0.fL xc).aH)==3) (an (iB xc a0.fL.length) ((gT.f k xe ((jO.K.at a0.fL xc).mJ)).bind fun tc=>bu.l2 k a0 ja (av (xc+1)) pa tc)) (bu.l2 k a0 ja (av (xc+1)) pa xe))) (some (xc,decide (xc<(a0.fL.length:Int)),xd,xe))
def bu.l3 (k:Nat) (a0:dy) (a1:BA) (a2:Int):Nat→Int→List MK→Option (Int×Bool×(List MK))
 | 0,_,_=>none
 | ja+1,xc,xd=>cond (decide (xc<(a0.fM.length:Int))) (an (iB xc a0.fM.length) ((iN.f (⟨1,(MK.K.at a0.fM xc).fK,eE⟩:jO)).bind fun ta=>(fS.f k (⟨a0.fV,a0.fM,a0.fT,a0.fP,a0.fL,a0.aL⟩:dy) a2 ta).bind fun tc=>(er.f k a0.fV (((MK.K.at a0.fM xc).fK).ab) a1).bind fun te=>cond tc (cond te (cond (!(((MK.K.at a0.fM xc).fK).aq)) (an (iB xc a0.fM.length) (an (cB (xd.length+([(⟨(MK.K.at a0.fM xc).fK,(MK.K.at a0.fM xc).eH⟩:MK)]:List MK).length) 80) (bu.l3 k a0 a1 a2 ja (av (xc+1)) (xd++([(⟨(MK.K.at a0.fM xc).fK,(MK.K.at a0.fM xc).eH⟩:MK)]:List MK))))) (cond (decide ((((MK.K.at a0.fM xc).fK).aj)=a1)) (an (iB xc a0.fM.length) (an (cB (xd.length+([(⟨(MK.K.at a0.fM xc).fK,(MK.K.at a0.fM xc).eH⟩:MK)]:List MK).length) 80) (bu.l3 k a0 a1 a2 ja (av (xc+1)) (xd++([(⟨(MK.K.at a0.fM xc).fK,(MK.K.at a0.fM xc).eH⟩:MK)]:List MK))))) (bu.l3 k a0 a1 a2 ja (av (xc+1)) xd))) (bu.l3 k a0 a1 a2 ja (av (xc+1)) xd)) (bu.l3 k a0 a1 a2 ja (av (xc+1)) xd))) (some (xc,decide (xc<(a0.fM.length:Int)),xd))
def bu.f (k:Nat) (a0:dy) (a1:BA) (a2:Int) (a3:Int):Option (oJ×Int):=cond (decide (a2<0)) (some ((⟨0,([]:List MK),([]:List fQ),([]:List fU)⟩:oJ),10)) (cond (decide ((av (a0.aL+(a0.fL.length:Int)))<a2)) (some ((⟨0,([]:List MK),([]:List fQ),([]:List fU)⟩:oJ),10)) ((bu.l3 k a0 a1 a2 k 0 ([]:List MK)).bind fun pa=>(bu.l2 k a0 k 0 ([]:List BA) ([]:List BA)).bind fun pc=>(bu.l1 k a0 a1 a2 a3 pc k 0 ([]:List fQ)).bind fun pe=>(bu.l0 k a0 a1 a2 a3 pc k 0 ([]:List fU)).bind fun pg=>some ((⟨av (a0.aL+(a0.fL.length:Int)),pa.2.2,pe.2.2,pg.2.2⟩:oJ),0)))
def ic.l0 (k:Nat) (a0:List MK) (a1:List MK):Nat→Int→Option ((Int×Bool) ⊕ (Bool))
 | 0,_=>none
 | ja+1,xc=>cond (decide (xc<(a0.length:Int))) (an (iB xc a0.length) (an (iB xc a1.length) (cond (!decide ((⟨(MK.K.at a0 xc).fK,(MK.K.at a0 xc).eH⟩:MK)=(⟨(MK.K.at a1 xc).fK,(MK.K.at a1 xc).eH⟩:MK))) (some (.inr false)) (ic.l0 k a0 a1 ja (av (xc+1)))))) (some (.inl (xc,decide (xc<(a0.length:Int)))))
def ic.f (k:Nat) (a0:List MK) (a1:List MK):Option (Bool):=cond ((a0.length:Int) != (a1.length:Int)) (some false) ((ic.l0 k a0 a1 k 0).bind (fall fun pa=>some true))
def ey.l0 (k:Nat) (a0:uN):Nat→Int→List fU→Option (Int×Bool×(List fU))
 | 0,_,_=>none
 | ja+1,xc,xd=>cond (decide (xc<(a0.gP.length:Int))) (an (iB xc a0.gP.length) (an (cB (xd.length+([fU.K.at a0.gP xc]:List fU).length) 24) (ey.l0 k a0 ja (av (xc+1)) (xd++([fU.K.at a0.gP xc]:List fU))))) (some (xc,decide (xc<(a0.gP.length:Int)),xd))
def ey.l1 (k:Nat) (a0:uN):Nat→Int→List fQ→Option (Int×Bool×(List fQ))
 | 0,_,_=>none
 | ja+1,xc,xd=>cond (decide (xc<(a0.aO.length:Int))) (an (iB xc a0.aO.length) (an (cB (xd.length+([fQ.K.at a0.aO xc]:List fQ).length) 40) (ey.l1 k a0 ja (av (xc+1)) (xd++([fQ.K.at a0.aO xc]:List fQ))))) (some (xc,decide (xc<(a0.aO.length:Int)),xd))
def ey.l2 (k:Nat) (a0:uN):Nat→Int→List MK→Option (Int×Bool×(List MK))
 | 0,_,_=>none
 | ja+1,xc,xd=>cond (decide (xc<(a0.ay.length:Int))) (an (iB xc a0.ay.length) (an (iB xc a0.ay.length) (an (cB (xd.length+([(⟨(jg.K.at a0.ay xc).dx,(jg.K.at a0.ay xc).eH⟩:MK)]:List MK).length) 80) (ey.l2 k a0 ja (av (xc+1)) (xd++([(⟨(jg.K.at a0.ay xc).dx,(jg.K.at a0.ay xc).eH⟩:MK)]:List MK)))))) (some (xc,decide (xc<(a0.ay.length:Int)),xd))
def ey.f (k:Nat) (a0:uN):Option (oJ):=(ey.l2 k a0 k 0 ([]:List MK)).bind fun pa=>(ey.l1 k a0 k 0 ([]:List fQ)).bind fun pc=>(ey.l0 k a0 k 0 ([]:List fU)).bind fun pe=>some (⟨a0.jD,pa.2.2,pc.2.2,pe.2.2⟩:oJ)
def oU.f:Option (Bool):=(iK.f (⟨(⟨#[33,114,58,115]⟩:BA),(⟨#[64,97,58,115]⟩:BA),eE,true⟩:bB)).bind fun ta=>cond (decide (ta=(⟨#[109,32,33,114,58,115,32,64,97,58,115,32,32,49]⟩:BA))) ((jF.f (⟨#[33,114,58,115]⟩:BA)).bind fun tc=>cond (decide (tc=(⟨#[116,32,33,114,58,115]⟩:BA))) ((jI.f (⟨#[64,97,58,115]⟩:BA)).bind fun te=>some (decide (te=(⟨#[112,32,64,97,58,115]⟩:BA)))) (some false)) (some false)
def aF.l0 (k:Nat) (ta:oJ):Nat→List MK→Int→Option ((List MK)×Int×Bool)
 | 0,_,_=>none
 | ja+1,xc,xd=>cond (decide (xd<(ta.ay.length:Int))) (an (iB xd ta.ay.length) (an (iB xd ta.ay.length) ((eZ.f k xc ((MK.K.at ta.ay xd).fK) ((MK.K.at ta.ay xd).eH)).bind fun tc=>aF.l0 k ta ja tc.1 (av (xd+1))))) (some (xc,xd,decide (xd<(ta.ay.length:Int))))
def aF.l2 (k:Nat) (ta:oJ):Nat→List MK→Int→Option (((List MK)×Int×Bool) ⊕ ((Int×(List MK)×Bool×Bool×Bool×dy×aJ×jA×bS×b7×b8) ⊕ ((Int×(List MK)×Int×Bool×dy×aJ×jA×bS×b7×b8) ⊕ (Bool))))
 | 0,_,_=>none
 | ja+1,xc,xd=>cond (decide (xd<(ta.ay.length:Int))) (an (iB xd ta.ay.length) ((eh.f k xc ((MK.K.at ta.ay xd).fK)).bind fun tc=>cond (decide (0≤tc)) (an (iB xd ta.ay.length) (an (iB (max tc 0) xc.length) ((fH.f ((MK.K.at ta.ay xd).eH) ((MK.K.at xc (max tc 0)).eH)).bind fun te=>cond te (some (.inr (.inr (.inr false)))) (an (iB xd ta.ay.length) (an (iB xd ta.ay.length) ((eZ.f k xc ((MK.K.at ta.ay xd).fK) ((MK.K.at ta.ay xd).eH)).bind fun tg=>aF.l2 k ta ja tg.1 (av (xd+1)))))))) (an (iB xd ta.ay.length) (an (iB xd ta.ay.length) ((eZ.f k xc ((MK.K.at ta.ay xd).fK) ((MK.K.at ta.ay xd).eH)).bind fun tj=>aF.l2 k ta ja tj.1 (av (xd+1))))))) (some (.inl (xc,xd,decide (xd<(ta.ay.length:Int)))))
def aF.l1 (k:Nat) (a2:List ak) (a3:List Bool) (ta:BA) (tc:Int):Nat→Int→List MK→Int→dy→aJ→jA→bS→b7→b8→Option ((Int×(List MK)×Int×Bool×dy×aJ×jA×bS×b7×b8) ⊕ (Bool))
 | 0,_,_,_,_,_,_,_,_,_=>none
 | ja+1,xc,xd,xe,xf,xg,xi,xj,xk,xn=>cond (decide (xe<(a2.length:Int))) (cond (decide (xe<10)) ((an (iB xe a2.length) ((lN.f k (ak.K.at a2 xe)).bind fun te=>(nj.f k (⟨xg,xi,xj,xk,xn⟩:Src) (⟨xf.fV,xf.fM,xf.fT,xf.fP,xf.fL,xf.aL⟩:dy) te).bind fun tg=>cond (!tg.2.1) (some (.inr (.inr false))) (cond (decide (xe<(a3.length:Int))) (an (iB (min xe (av ((a3.length:Int)-1))) a3.length) (cond (bJ.at a3 (min xe (av ((a3.length:Int)-1)))) ((sync_Make.f k tg.2.2 ta xc tc).bind fun tj=>cond (tj.2 != 0) (some (.inr (.inr false))) ((ey.f k tj.1).bind fun tm=>(aF.l2 k tm k xd 0).bind (fall fun pa=>some (.inl (tj.1.jD,pa.1,tg.2.1,!tg.2.1,bJ.at a3 (min xe (av ((a3.length:Int)-1))),(⟨tg.1.fV,tg.1.fM,tg.1.fT,tg.1.fP,tg.1.fL,tg.1.aL⟩:dy),tg.2.2.cI,tg.2.2.ay,tg.2.2.aO,tg.2.2.aR,tg.2.2.fZ))))) (some (.inl (xc,xd,tg.2.1,!tg.2.1,bJ.at a3 (min xe (av ((a3.length:Int)-1))),(⟨tg.1.fV,tg.1.fM,tg.1.fT,tg.1.fP,tg.1.fL,tg.1.aL⟩:dy),tg.2.2.cI,tg.2.2.ay,tg.2.2.aO,tg.2.2.aR,tg.2.2.fZ))))) (some (.inl (xc,xd,tg.2.1,!tg.2.1,false,(⟨tg.1.fV,tg.1.fM,tg.1.fT,tg.1.fP,tg.1.fL,tg.1.aL⟩:dy),tg.2.2.cI,tg.2.2.ay,tg.2.2.aO,tg.2.2.aR,tg.2.2.fZ)))))).bind (fall fun pc=>aF.l1 k a2 a3 ta tc ja pc.1 pc.2.1 (av (xe+1)) (⟨pc.2.2.2.2.2.1.fV,pc.2.2.2.2.2.1.fM,pc.2.2.2.2.2.1.fT,pc.2.2.2.2.2.1.fP,pc.2.2.2.2.2.1.fL,pc.2.2.2.2.2.1.aL⟩:dy) pc.2.2.2.2.2.2.1 pc.2.2.2.2.2.2.2.1 pc.2.2.2.2.2.2.2.2.1 pc.2.2.2.2.2.2.2.2.2.1 pc.2.2.2.2.2.2.2.2.2.2)) (some (.inl (xc,xd,xe,decide (xe<10),(⟨xf.fV,xf.fM,xf.fT,xf.fP,xf.fL,xf.aL⟩:dy),xg,xi,xj,xk,xn)))) (some (.inl (xc,xd,xe,false,(⟨xf.fV,xf.fM,xf.fT,xf.fP,xf.fL,xf.aL⟩:dy),xg,xi,xj,xk,xn)))
def aF.f (k:Nat) (a0:List dA) (a1:List dA) (a2:List ak) (a3:List Bool) (a4:Int) (a5:Int):Option (Bool):=(oM.f k a0 a1).bind fun ta=>(gG.f k ta 0).bind fun tc=>cond (!tc.2.2) (some false) ((il.f a4).bind fun te=>(br.f a5 200).bind fun tg=>(aF.l1 k a2 a3 te tg k 0 ([]:List MK) 0 (⟨tc.2.1.fV,tc.2.1.fM,tc.2.1.fT,tc.2.1.fP,tc.2.1.fL,tc.2.1.aL⟩:dy) tc.1.cI tc.1.ay tc.1.aO tc.1.aR tc.1.fZ).bind (fall fun pa=>(sync_Make.f k (⟨pa.2.2.2.2.2.1,pa.2.2.2.2.2.2.1,pa.2.2.2.2.2.2.2.1,pa.2.2.2.2.2.2.2.2.1,pa.2.2.2.2.2.2.2.2.2⟩:Src) te pa.1 tg).bind fun tj=>(ey.f k tj.1).bind fun tm=>(aF.l0 k tm k pa.2.1 0).bind fun pc=>(bu.f k (⟨pa.2.2.2.2.1.fV,pa.2.2.2.2.1.fM,pa.2.2.2.2.1.fT,pa.2.2.2.2.1.fP,pa.2.2.2.2.1.fL,pa.2.2.2.2.1.aL⟩:dy) te 0 tg).bind fun tn=>(sync_Make.f k (⟨pa.2.2.2.2.2.1,pa.2.2.2.2.2.2.1,pa.2.2.2.2.2.2.2.1,pa.2.2.2.2.2.2.2.2.1,pa.2.2.2.2.2.2.2.2.2⟩:Src) te tj.1.jD tg).bind fun tp=>cond (tj.2==0) (cond (tn.2==0) ((ic.f k pc.1 tn.1.ay).bind fun tq=>cond tq (cond (tp.2==0) (cond ((tp.1.ay.length:Int)==0) (cond ((tp.1.aO.length:Int)==0) (cond ((tp.1.gP.length:Int)==0) ((oU.f).bind fun tu=>some tu) (some false)) (some false)) (some false)) (some false)) (some false)) (some false)) (some false)))
end Go.Proofs.YtfknmdelgepbjaaGreatDoor
