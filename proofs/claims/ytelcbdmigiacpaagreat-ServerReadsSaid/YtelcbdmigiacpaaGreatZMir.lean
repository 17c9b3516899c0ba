import Derived.Test.YtelcbdmigiacpaaGreatChecked
import Derived.Test.YtelcbdmigiacpaaGreatConE1
import Derived.Lib.Join
import Derived.Eval
set_option linter.all false
set_option maxRecDepth 10000
set_option maxHeartbeats 20000000
namespace Go.Proofs.YtelcbdmigiacpaaGreat
open Go Go.Sp Tryz
@[simp] abbrev iB (x:Int) (n:Nat):Prop:=0<=x/\x<(n:Int)
@[simp] abbrev cB (n z:Nat):Prop:=n<=9223372036854775807/\n*z<=140737488355328
abbrev U2:=@Tryz.underlying2
abbrev U3:=@Tryz.underlying3
abbrev U4:=@Tryz.underlying4
abbrev U5:=@Tryz.underlying5
abbrev U9:=@Tryz.underlying9
abbrev iu:=@Tryz.underlying23
abbrev yn:=@Tryz.underlying24
abbrev U25:=@Tryz.underlying25
abbrev U33:=@Tryz.underlying33
abbrev Jf:=@Tryz.underlying36
abbrev U37:=@Tryz.underlying37
abbrev U38:=@Tryz.underlying38
abbrev fk:=@Tryz.underlying40
abbrev Aj:=@Tryz.underlying41
abbrev U43:=@Tryz.underlying43
abbrev C9:=@Tryz.underlying47
abbrev uA:=@Tryz.underlying49
abbrev B0:=@Tryz.underlying51
abbrev zQ:=@Tryz.underlying52
abbrev U54:=@Tryz.underlying54
abbrev yw:=@Tryz.underlying55
abbrev Hb:=@Tryz.underlying57
abbrev C7:=@Tryz.underlying59
abbrev U60:=@Tryz.underlying60
abbrev Ja:=@Tryz.underlying65
abbrev Hm:=@Tryz.underlying69
abbrev rN:=@Tryz.underlying70
abbrev U72:=@Tryz.underlying72
abbrev U78:=@Tryz.underlying78
abbrev fO:=@Tryz.underlying80
abbrev U82:=@Tryz.underlying82
abbrev U88:=@Tryz.underlying88
abbrev U99:=@Tryz.underlying99
abbrev yW:=@Tryz.underlying100
abbrev Cy:=@Tryz.underlying102
abbrev U103:=@Tryz.underlying103
abbrev U104:=@Tryz.underlying104
abbrev nb:=@Tryz.underlying107
abbrev Ap:=@Tryz.underlying109
abbrev sA:=@Tryz.underlying119
abbrev U120:=@Tryz.underlying120
abbrev U121:=@Tryz.underlying121
abbrev Io:=@Tryz.underlying123
abbrev nv:=@Tryz.underlying126
abbrev U135:=@Tryz.underlying135
abbrev IZ:=@Tryz.underlying137
abbrev uc:=@Tryz.underlying139
abbrev Gk:=@Tryz.underlying141
abbrev U147:=@Tryz.underlying147
abbrev CT:=@Tryz.underlying148
abbrev IW:=@Tryz.underlying150
abbrev U151:=@Tryz.underlying151
abbrev IL:=@Tryz.underlying154
abbrev H0:=@Tryz.underlying156
abbrev U158:=@Tryz.underlying158
abbrev Ih:=@Tryz.underlying159
abbrev CU:=@Tryz.underlying161
abbrev zW:=@Tryz.underlying162
abbrev sF:=@Tryz.underlying168
abbrev AT:=@Tryz.underlying177
abbrev wD:=@Tryz.underlying181
abbrev U183:=@Tryz.underlying183
abbrev U195:=@Tryz.underlying195
abbrev Gi:=@Tryz.underlying200
abbrev CO:=@Tryz.underlying201
abbrev U203:=@Tryz.underlying203
abbrev pq:=@Tryz.underlying204
abbrev Jc:=@Tryz.underlying206
abbrev nQ:=@Tryz.underlying208
abbrev yC:=@Tryz.underlying209
abbrev E4:=@Tryz.underlying211
abbrev U212:=@Tryz.underlying212
abbrev GG:=@Tryz.underlying225
abbrev EK:=@Tryz.underlying227
abbrev xO:=@Tryz.underlying244
abbrev nM:=@Tryz.underlying264
abbrev wy:=@Tryz.underlying272
abbrev IT:=@Tryz.underlying274
abbrev U276:=@Tryz.underlying276
abbrev FY:=@Tryz.underlying278
abbrev H4:=@Tryz.underlying310
abbrev U327:=@Tryz.underlying327
abbrev wv:=@Tryz.underlying363
abbrev U370:=@Tryz.underlying370
abbrev oz:=@Tryz.underlying376
abbrev U380:=@Tryz.underlying380
abbrev DO:=@Tryz.underlying401
abbrev mX:=@Tryz.checked.mixed
def A9:List Nat:=[10,100,103,104,105,106,107,108,109,11,110,111,112,113,114,115,116,117,118,119,12,120,121,122,123,124,125,127,128,129,13,130,131,132,133,134,135,136,137,138,139,14,140,141,142,143,144,145,146,147,148,149,15,150,151,152,153,154,155,156,157,158,159,16,160,161,162,163,164,17,179,18,180,181,182,183,184,185,186,187,188,189,19,190,191,192,193,195,196,197,198,199,20,200,201,202,203,204,205,206,207,208,209,21,210,211,212,213,214,215,216,217,218,219,22,220,221,222,223,224,225,226,227,23,235,236,237,238,239,24,240,249,25,250,251,252,253,254,255,256,257,259,26,260,263,264,265,266,267,268,269,27,270,271,272,274,275,279,28,283,285,286,287,289,29,290,291,297,298,30,31,32,33,34,35,36,37,38,39,40,41,42,43,44,45,46,47,48,49,5,50,51,52,53,54,55,56,57,58,59,6,60,61,62,63,64,65,66,67,68,69,7,70,71,72,73,74,75,76,77,78,79,8,80,81,82,83,84,85,86,87,88,89,9,92,93,94,95,96,97,98,99]
theorem cL (n:Nat) (h:A9.contains n=true:=by kernel_rfl):fx prog n=true:=List.all_eq_true.1 (show A9.all (λn=>fx prog n)=true by kernel_rfl) n (List.contains_iff_mem.1 h)
theorem c100:prog.cellsOf 100=1:=kr
theorem c103:prog.cellsOf 103=1:=kr
theorem px:prog.cellsOf 107=6:=kr
theorem vK:prog.cellsOf 119=6:=kr
theorem c120:prog.cellsOf 120=1:=kr
theorem c121:prog.cellsOf 121=1:=kr
theorem nZ:prog.cellsOf 126=2:=kr
theorem c135:prog.cellsOf 135=1:=kr
theorem EH:prog.cellsOf 139=1:=kr
theorem c148:prog.cellsOf 148=1:=kr
theorem c151:prog.cellsOf 151=1:=kr
theorem c158:prog.cellsOf 158=1:=kr
theorem c159:prog.cellsOf 159=1:=kr
theorem xt:prog.cellsOf 168=5:=kr
theorem zn:prog.cellsOf 181=4:=kr
theorem c183:prog.cellsOf 183=6:=kr
theorem c2:prog.cellsOf 2=1:=kr
theorem c201:prog.cellsOf 201=1:=kr
theorem c204:prog.cellsOf 204=1:=kr
theorem c208:prog.cellsOf 208=1:=kr
theorem c209:prog.cellsOf 209=1:=kr
theorem Jk:prog.cellsOf 23=1:=kr
theorem c24:prog.cellsOf 24=1:=kr
theorem yS:prog.cellsOf 244=4:=kr
theorem c25:prog.cellsOf 25=1:=kr
theorem oM:prog.cellsOf 264=5:=kr
theorem Gq:prog.cellsOf 272=1:=kr
theorem c3:prog.cellsOf 3=1:=kr
theorem c33:prog.cellsOf 33=1:=kr
theorem Ak:prog.cellsOf 363=6:=kr
theorem oN:prog.cellsOf 376=2:=kr
theorem c4:prog.cellsOf 4=1:=kr
theorem c40:prog.cellsOf 40=1:=kr
theorem c41:prog.cellsOf 41=1:=kr
theorem c43:prog.cellsOf 43=10:=kr
theorem Hp:prog.cellsOf 47=4:=kr
theorem yF:prog.cellsOf 49=2:=kr
theorem c5:prog.cellsOf 5=1:=kr
theorem c54:prog.cellsOf 54=1:=kr
theorem HN:prog.cellsOf 57=3:=kr
theorem Hy:prog.cellsOf 59=4:=kr
theorem c65:prog.cellsOf 65=1:=kr
theorem IX:prog.cellsOf 69=16:=kr
theorem c70:prog.cellsOf 70=1:=kr
theorem c78:prog.cellsOf 78=1:=kr
theorem ij:prog.cellsOf 80=11:=kr
theorem c82:prog.cellsOf 82=1:=kr
theorem c88:prog.cellsOf 88=1:=kr
theorem c9:prog.cellsOf 9=1:=kr
theorem c99:prog.cellsOf 99=5:=kr
theorem HH:prog.eqGuardType prog.depth 181=false:=kr
theorem HQ:prog.eqGuardType prog.depth 264=false:=kr
theorem eg310:prog.eqGuardType prog.depth 310=false:=kr
theorem eg47:prog.eqGuardType prog.depth 47=false:=kr
theorem rn:prog.eqGuardType prog.depth 49=false:=kr
theorem Gl:prog.eqGuardType prog.depth 80=false:=kr
theorem vC:∃ i,prog.info? 107=some i/\i.size=6/\i.zero=some (.agg #[.string ⟨#[]⟩,.string ⟨#[]⟩,.slice none 0 0,.string ⟨#[]⟩,.string ⟨#[]⟩,.int .i64 0])/\i.bytes=96:=lP kr kr kr
theorem I0:∃ i,prog.info? 119=some i/\i.size=6/\i.zero=some (.agg #[.string ⟨#[]⟩,.string ⟨#[]⟩,.string ⟨#[]⟩,.bool false,.int .i64 0,.string ⟨#[]⟩])/\i.bytes=80:=lP kr kr kr
theorem AO:∃ i,prog.info? 126=some i/\i.size=2/\i.zero=some (.agg #[.string ⟨#[]⟩,.slice none 0 0])/\i.bytes=40:=lP kr kr kr
theorem HZ:∃ i,prog.info? 181=some i/\i.size=4/\i.zero=some (.agg #[.string ⟨#[]⟩,.string ⟨#[]⟩,.string ⟨#[]⟩,.bool false])/\i.bytes=56:=lP kr kr kr
theorem En:∃ i,prog.info? 183=some i/\i.size=6/\i.zero=some (.agg #[.int .i64 0,.string ⟨#[]⟩,.string ⟨#[]⟩,.string ⟨#[]⟩,.bool false,.string ⟨#[]⟩])/\i.bytes=80:=lP kr kr kr
theorem Dd:∃ i,prog.info? 264=some i/\i.size=5/\i.zero=some (.agg #[.int .i64 0,.string ⟨#[]⟩,.string ⟨#[]⟩,.string ⟨#[]⟩,.bool false])/\i.bytes=64:=lP kr kr kr
theorem inf3:∃ i,prog.info? 3=some i/\i.size=1/\i.zero=some (.int .i64 0)/\i.bytes=8:=lP kr kr kr
theorem xK:∃ i,prog.info? 363=some i/\i.size=6/\i.zero=some (.agg #[.string ⟨#[]⟩,.string ⟨#[]⟩,.string ⟨#[]⟩,.bool false,.int .i64 0,.string ⟨#[]⟩])/\i.bytes=80:=lP kr kr kr
theorem It:∃ i,prog.info? 376=some i/\i.size=2/\i.zero=some (.agg #[.int .i64 0,.string ⟨#[]⟩])/\i.bytes=24:=lP kr kr kr
theorem inf4:∃ i,prog.info? 4=some i/\i.size=1/\i.zero=some (.bool false)/\i.bytes=1:=lP kr kr kr
theorem HL:∃ i,prog.info? 41=some i/\i.size=1/\i.zero=some (.slice none 0 0)/\i.bytes=24:=lP kr kr kr
theorem inf47:∃ i,prog.info? 47=some i/\i.size=4/\i.zero=some (.agg #[.string ⟨#[]⟩,.string ⟨#[]⟩,.string ⟨#[]⟩,.bool false])/\i.bytes=56:=lP kr kr kr
theorem inf49:∃ i,prog.info? 49=some i/\i.size=2/\i.zero=some (.agg #[.int .i64 0,.string ⟨#[]⟩])/\i.bytes=24:=lP kr kr kr
theorem IG:∃ i,prog.info? 5=some i/\i.size=1/\i.zero=some (.int .u8 0)/\i.bytes=1:=lP kr kr kr
theorem qp:∃ i,prog.info? 80=some i/\i.size=11/\i.zero=some (.agg #[.int .i64 0,.string ⟨#[]⟩,.string ⟨#[]⟩,.string ⟨#[]⟩,.string ⟨#[]⟩,.bool false,.bool false,.int .i64 0,.int .i64 0,.int .i64 0,.int .i64 0])/\i.bytes=112:=lP kr kr kr
theorem wE:∃ i,prog.info? 9=some i/\i.size=1/\i.zero=some (.string ⟨#[]⟩)/\i.bytes=16:=lP kr kr kr
theorem xD:FA prog 102 0 0:=⟨_,_,_,_,Cy,rfl,U9,c9,dc,rfl⟩
theorem FR:FA prog 102 1 1:=⟨_,_,_,_,Cy,rfl,U82,c82,dc,rfl⟩
theorem xV:FA prog 102 2 2:=⟨_,_,_,_,Cy,rfl,U82,c82,dc,rfl⟩
theorem iS:FA prog 102 3 3:=⟨_,_,_,_,Cy,rfl,U99,c99,dc,rfl⟩
theorem p9:FA prog 102 5 9:=⟨_,_,_,_,Cy,rfl,yW,c100,dc,rfl⟩
theorem G5:FA prog 107 0 0:=⟨_,_,_,_,nb,rfl,U9,c9,dc,rfl⟩
theorem Bk:FA prog 107 2 2:=⟨_,_,_,_,nb,rfl,iu,Jk,dc,rfl⟩
theorem xB:FA prog 107 3 3:=⟨_,_,_,_,nb,rfl,U9,c9,dc,rfl⟩
theorem BK:FA prog 107 5 5:=⟨_,_,_,_,nb,rfl,U3,c3,dc,rfl⟩
theorem GW:FA prog 119 0 0:=⟨_,_,_,_,sA,rfl,C9,Hp,dc,rfl⟩
theorem FF:FA prog 119 1 4:=⟨_,_,_,_,sA,rfl,uA,yF,dc,rfl⟩
theorem xF:FA prog 123 0 0:=⟨_,_,_,_,Io,rfl,U120,c120,dc,rfl⟩
theorem A4:FA prog 123 1 1:=⟨_,_,_,_,Io,rfl,U121,c121,dc,rfl⟩
theorem xj:FA prog 126 0 0:=⟨_,_,_,_,nv,rfl,U9,c9,dc,rfl⟩
theorem xr:FA prog 137 0 0:=⟨_,_,_,_,IZ,rfl,U135,c135,dc,rfl⟩
theorem sG:FA prog 137 1 1:=⟨_,_,_,_,IZ,rfl,U2,c2,dc,rfl⟩
theorem yf:FA prog 141 0 0:=⟨_,_,_,_,Gk,rfl,U82,c82,dc,rfl⟩
theorem rT:FA prog 141 1 1:=⟨_,_,_,_,Gk,rfl,iu,Jk,dc,rfl⟩
theorem B7:FA prog 141 2 2:=⟨_,_,_,_,Gk,rfl,uc,EH,dc,rfl⟩
theorem GL:FA prog 150 0 0:=⟨_,_,_,_,IW,rfl,CT,c148,dc,rfl⟩
theorem sk:FA prog 154 0 0:=⟨_,_,_,_,IL,rfl,fk,c40,dc,rfl⟩
theorem BF:FA prog 154 1 1:=⟨_,_,_,_,IL,rfl,U151,c151,dc,rfl⟩
theorem uD:FA prog 156 0 0:=⟨_,_,_,_,H0,rfl,fk,c40,dc,rfl⟩
theorem Bw:FA prog 156 1 1:=⟨_,_,_,_,H0,rfl,U151,c151,dc,rfl⟩
theorem rb:FA prog 161 0 0:=⟨_,_,_,_,CU,rfl,U158,c158,dc,rfl⟩
theorem GP:FA prog 161 1 1:=⟨_,_,_,_,CU,rfl,U9,c9,dc,rfl⟩
theorem xw:FA prog 161 2 2:=⟨_,_,_,_,CU,rfl,U9,c9,dc,rfl⟩
theorem Fl:FA prog 161 3 3:=⟨_,_,_,_,CU,rfl,U82,c82,dc,rfl⟩
theorem nz:FA prog 161 4 4:=⟨_,_,_,_,CU,rfl,Ih,c159,dc,rfl⟩
theorem FV:FA prog 200 0 0:=⟨_,_,_,_,Gi,rfl,U3,c3,dc,rfl⟩
theorem n5:FA prog 200 1 1:=⟨_,_,_,_,Gi,rfl,fk,c40,dc,rfl⟩
theorem Ca:FA prog 200 2 2:=⟨_,_,_,_,Gi,rfl,U3,c3,dc,rfl⟩
theorem rX:FA prog 203 0 0:=⟨_,_,_,_,U203,rfl,CO,c201,dc,rfl⟩
theorem jr:FA prog 206 0 0:=⟨_,_,_,_,Jc,rfl,pq,c204,dc,rfl⟩
theorem uJ:FA prog 206 1 1:=⟨_,_,_,_,Jc,rfl,uc,EH,dc,rfl⟩
theorem BT:FA prog 211 0 0:=⟨_,_,_,_,E4,rfl,U3,c3,dc,rfl⟩
theorem l6:FA prog 211 1 1:=⟨_,_,_,_,E4,rfl,nQ,c208,dc,rfl⟩
theorem rj:FA prog 211 2 2:=⟨_,_,_,_,E4,rfl,yC,c209,dc,rfl⟩
theorem uz:FA prog 211 3 3:=⟨_,_,_,_,E4,rfl,U3,c3,dc,rfl⟩
theorem xy:FA prog 227 0 0:=⟨_,_,_,_,EK,rfl,sF,xt,dc,rfl⟩
theorem xx:FA prog 227 1 5:=⟨_,_,_,_,EK,rfl,U3,c3,dc,rfl⟩
theorem BB:FA prog 227 2 6:=⟨_,_,_,_,EK,rfl,U3,c3,dc,rfl⟩
theorem Gn:FA prog 244 0 0:=⟨_,_,_,_,xO,rfl,U3,c3,dc,rfl⟩
theorem F7:FA prog 244 1 1:=⟨_,_,_,_,xO,rfl,U3,c3,dc,rfl⟩
theorem B6:FA prog 244 2 2:=⟨_,_,_,_,xO,rfl,yn,c24,dc,rfl⟩
theorem G0:FA prog 244 3 3:=⟨_,_,_,_,xO,rfl,U3,c3,dc,rfl⟩
theorem GD:FA prog 274 0 0:=⟨_,_,_,_,IT,rfl,U9,c9,dc,rfl⟩
theorem uC:FA prog 274 1 1:=⟨_,_,_,_,IT,rfl,wy,Gq,dc,rfl⟩
theorem um:FA prog 278 0 0:=⟨_,_,_,_,FY,rfl,nb,px,dc,rfl⟩
theorem xH:FA prog 278 1 6:=⟨_,_,_,_,FY,rfl,U3,c3,dc,rfl⟩
theorem Fj:FA prog 278 2 7:=⟨_,_,_,_,FY,rfl,U4,c4,dc,rfl⟩
theorem BO:FA prog 363 0 0:=⟨_,_,_,_,wv,rfl,wD,zn,dc,rfl⟩
theorem Bg:FA prog 363 1 4:=⟨_,_,_,_,wv,rfl,uA,yF,dc,rfl⟩
theorem sU:FA prog 72 0 0:=⟨_,_,_,_,U72,rfl,U25,c25,dc,rfl⟩
theorem s8:FA prog 72 1 1:=⟨_,_,_,_,U72,rfl,Hm,IX,dc,rfl⟩
theorem AE:FA prog 72 2 17:=⟨_,_,_,_,U72,rfl,rN,c70,dc,rfl⟩
theorem vU:FA prog 72 3 18:=⟨_,_,_,_,U72,rfl,U3,c3,dc,rfl⟩
theorem Az:FA prog 80 1 1:=⟨_,_,_,_,fO,rfl,U9,c9,dc,rfl⟩
theorem zV:FA prog 80 3 3:=⟨_,_,_,_,fO,rfl,U9,c9,dc,rfl⟩
theorem Ij:FA prog 80 4 4:=⟨_,_,_,_,fO,rfl,U9,c9,dc,rfl⟩
theorem IE:FA prog 80 6 6:=⟨_,_,_,_,fO,rfl,U4,c4,dc,rfl⟩
theorem DC:FA prog 99 0 0:=⟨_,_,_,_,U99,rfl,U33,c33,dc,rfl⟩
theorem Iv:FA prog 99 1 1:=⟨_,_,_,_,U99,rfl,U88,c88,dc,rfl⟩
theorem sc120:SC prog 120:=⟨_,U120,rfl⟩
theorem sc23:SC prog 23:=⟨_,iu,rfl⟩
theorem sc24:SC prog 24:=⟨_,yn,rfl⟩
theorem Hu:SC prog 3:=⟨_,U3,rfl⟩
theorem sc33:SC prog 33:=⟨_,U33,rfl⟩
theorem Hq:SC prog 370:=⟨_,U370,rfl⟩
theorem sc78:SC prog 78:=⟨_,U78,rfl⟩
theorem sc82:SC prog 82:=⟨_,U82,rfl⟩
theorem sc88:SC prog 88:=⟨_,U88,rfl⟩
theorem o6:SC prog 9:=⟨_,U9,rfl⟩
theorem sg119:SG prog 119 6:=⟨_,sA,rfl,vK⟩
theorem HM:SG prog 126 2:=⟨_,nv,rfl,nZ⟩
theorem HD:SG prog 181 4:=⟨_,wD,rfl,zn⟩
theorem sg264:SG prog 264 5:=⟨_,nM,rfl,oM⟩
theorem sg43:SG prog 43 10:=⟨_,U43,rfl,c43⟩
theorem sg47:SG prog 47 4:=⟨_,C9,rfl,Hp⟩
theorem zy:SG prog 49 2:=⟨_,uA,rfl,yF⟩
theorem nP:SG prog 80 11:=⟨_,fO,rfl,ij⟩
theorem sz126:SZ prog 126 2:=⟨_,nv,nZ⟩
theorem HX:SZ prog 168 5:=⟨_,sF,xt⟩
theorem HF:SZ prog 204 1:=⟨_,pq,c204⟩
theorem Ef:SZ prog 208 1:=⟨_,nQ,c208⟩
theorem G3:SZ prog 23 1:=⟨_,iu,Jk⟩
theorem zZ:SZ prog 40 1:=⟨_,fk,c40⟩
theorem sz47:SZ prog 47 4:=⟨_,C9,Hp⟩
theorem vZ:SZ prog 49 2:=⟨_,uA,yF⟩
theorem sz57:SZ prog 57 3:=⟨_,Hb,HN⟩
theorem sz59:SZ prog 59 4:=⟨_,C7,Hy⟩
theorem sz65:SZ prog 65 1:=⟨_,Ja,c65⟩
theorem sz69:SZ prog 69 16:=⟨_,Hm,IX⟩
theorem sz80:SZ prog 80 11:=⟨_,fO,ij⟩
theorem sz9:SZ prog 9 1:=⟨_,U9,c9⟩
theorem pl102:kY prog 102=true:=kr
theorem BS:kY prog 107=true:=kr
theorem pl119:kY prog 119=true:=kr
theorem pl123:kY prog 123=true:=kr
theorem DB:kY prog 126=true:=kr
theorem pl137:kY prog 137=true:=kr
theorem pl141:kY prog 141=true:=kr
theorem pl147:kY prog 147=true:=kr
theorem pl150:kY prog 150=true:=kr
theorem pl154:kY prog 154=true:=kr
theorem pl156:kY prog 156=true:=kr
theorem pl161:kY prog 161=true:=kr
theorem yK:kY prog 168=true:=kr
theorem pl181:kY prog 181=true:=kr
theorem pl183:kY prog 183=true:=kr
theorem pl200:kY prog 200=true:=kr
theorem pl203:kY prog 203=true:=kr
theorem pl206:kY prog 206=true:=kr
theorem pl211:kY prog 211=true:=kr
theorem HB:kY prog 227=true:=kr
theorem pl264:kY prog 264=true:=kr
theorem pl274:kY prog 274=true:=kr
theorem pl278:kY prog 278=true:=kr
theorem pl363:kY prog 363=true:=kr
theorem pl376:kY prog 376=true:=kr
theorem pl47:kY prog 47=true:=kr
theorem Ct:kY prog 49=true:=kr
theorem pl54:kY prog 54=true:=kr
theorem FK:kY prog 57=true:=kr
theorem Fy:kY prog 59=true:=kr
theorem pl69:kY prog 69=true:=kr
theorem pl72:kY prog 72=true:=kr
theorem s5:kY prog 80=true:=kr
theorem pl99:kY prog 99=true:=kr
theorem st181:prog.stoodInHeld 181=false:=kr
theorem st264:prog.stoodInHeld 264=false:=kr
theorem st47:prog.stoodInHeld 47=false:=kr
theorem st49:prog.stoodInHeld 49=false:=kr
theorem st80:prog.stoodInHeld 80=false:=kr
theorem xf258:(Extern.findNext Tryz.f258).isNone=true:=kr
theorem xf261:(Extern.findNext Tryz.f261).isNone=true:=kr
theorem xf273:(Extern.findNext Tryz.f273).isNone=true:=kr
theorem xf288:(Extern.findNext Tryz.f288).isNone=true:=kr
theorem xf90:(Extern.findNext Tryz.f90).isNone=true:=kr
theorem xf91:(Extern.findNext Tryz.f91).isNone=true:=kr
theorem xg258:Extern.find Tryz.f258=some (Extern.Atomic.casT (.int .i64)):=by rfl
theorem xg261:Extern.find Tryz.f261=some (Extern.SlicesOverlaps.overlaps Tryz.f261.params Tryz.f261.resultTypes):=by rfl
theorem xg273:Extern.find Tryz.f273=some Extern.BytealgIndexByte.indexByte:=by rfl
theorem xg288:Extern.find Tryz.f288=some Extern.BytealgCompare.compare:=by rfl
theorem xg90:Extern.find Tryz.f90=some Extern.Atomic.storeT:=by rfl
theorem xg91:Extern.find Tryz.f91=some (Extern.Atomic.loadT (.int .i64)):=by rfl
theorem z102:mz prog 102=some (.agg #[.string ⟨#[]⟩,.pointer none,.pointer none,.pointer none,.pointer none,.pointer none,.pointer none,.pointer none,.pointer none,.map none]):=kr
theorem GX:mz prog 104=some (.pointer none):=kr
theorem z107:mz prog 107=some (.agg #[.string ⟨#[]⟩,.string ⟨#[]⟩,.slice none 0 0,.string ⟨#[]⟩,.string ⟨#[]⟩,.int .i64 0]):=kr
theorem z119:mz prog 119=some (.agg #[.string ⟨#[]⟩,.string ⟨#[]⟩,.string ⟨#[]⟩,.bool false,.int .i64 0,.string ⟨#[]⟩]):=kr
theorem z123:mz prog 123=some (.agg #[.pointer none,.pointer none]):=kr
theorem AP:mz prog 126=some (.agg #[.string ⟨#[]⟩,.slice none 0 0]):=kr
theorem z137:mz prog 137=some (.agg #[.int .i64 0,.int .i64 0]):=kr
theorem z141:mz prog 141=some (.agg #[.pointer none,.slice none 0 0,.map none]):=kr
theorem z147:mz prog 147=some (.agg #[.int .i64 0,.map none]):=kr
theorem z150:mz prog 150=some (.agg #[.map none]):=kr
theorem z154:mz prog 154=some (.agg #[.slice none 0 0,.pointer none]):=kr
theorem z156:mz prog 156=some (.agg #[.slice none 0 0,.pointer none]):=kr
theorem z161:mz prog 161=some (.agg #[.pointer none,.string ⟨#[]⟩,.string ⟨#[]⟩,.pointer none,.pointer none]):=kr
theorem z168:mz prog 168=some (.agg #[.bool false,.string ⟨#[]⟩,.string ⟨#[]⟩,.int .i64 0,.slice none 0 0]):=kr
theorem dY:mz prog 181=some (.agg #[.string ⟨#[]⟩,.string ⟨#[]⟩,.string ⟨#[]⟩,.bool false]):=kr
theorem z183:mz prog 183=some (.agg #[.int .i64 0,.string ⟨#[]⟩,.string ⟨#[]⟩,.string ⟨#[]⟩,.bool false,.string ⟨#[]⟩]):=kr
theorem z195:mz prog 195=some (.agg #[.nilFunc,.nilFunc,.nilFunc]):=kr
theorem z200:mz prog 200=some (.agg #[.int .i64 0,.slice none 0 0,.int .i64 0]):=kr
theorem z203:mz prog 203=some (.agg #[.map none]):=kr
theorem z206:mz prog 206=some (.agg #[.slice none 0 0,.map none]):=kr
theorem z211:mz prog 211=some (.agg #[.int .i64 0,.slice none 0 0,.map none,.int .i64 0]):=kr
theorem z212:mz prog 212=some (.pointer none):=kr
theorem z227:mz prog 227=some (.agg #[.bool false,.string ⟨#[]⟩,.string ⟨#[]⟩,.int .i64 0,.slice none 0 0,.int .i64 0,.int .i64 0]):=kr
theorem Dx:mz prog 264=some (.agg #[.int .i64 0,.string ⟨#[]⟩,.string ⟨#[]⟩,.string ⟨#[]⟩,.bool false]):=kr
theorem z274:mz prog 274=some (.agg #[.string ⟨#[]⟩,.map none]):=kr
theorem AU:mz prog 276=some (.pointer none):=kr
theorem z278:mz prog 278=some (.agg #[.string ⟨#[]⟩,.string ⟨#[]⟩,.slice none 0 0,.string ⟨#[]⟩,.string ⟨#[]⟩,.int .i64 0,.int .i64 0,.bool false]):=kr
theorem z3:mz prog 3=some (.int .i64 0):=kr
theorem z310:mz prog 310=some (.agg #[.int .i64 0,.string ⟨#[]⟩,.string ⟨#[]⟩,.string ⟨#[]⟩,.string ⟨#[]⟩,.bool false,.bool false,.int .i64 0,.int .i64 0,.int .i64 0,.int .i64 0]):=kr
theorem z363:mz prog 363=some (.agg #[.string ⟨#[]⟩,.string ⟨#[]⟩,.string ⟨#[]⟩,.bool false,.int .i64 0,.string ⟨#[]⟩]):=kr
theorem z370:mz prog 370=some .nilFunc:=kr
theorem ID:mz prog 376=some (.agg #[.int .i64 0,.string ⟨#[]⟩]):=kr
theorem z380:mz prog 380=some (.agg #[.int .i64 0,.int .i64 0]):=kr
theorem z41:mz prog 41=some (.slice none 0 0):=kr
theorem z43:mz prog 43=some (.agg #[.int .i64 0,.int .i64 0,.int .i64 0,.int .i64 0,.int .i64 0,.int .i64 0,.bool false,.slice none 0 0,.slice none 0 0,.string ⟨#[]⟩]):=kr
theorem z47:mz prog 47=some (.agg #[.string ⟨#[]⟩,.string ⟨#[]⟩,.string ⟨#[]⟩,.bool false]):=kr
theorem z49:mz prog 49=some (.agg #[.int .i64 0,.string ⟨#[]⟩]):=kr
theorem z5:mz prog 5=some (.int .u8 0):=kr
theorem z54:mz prog 54=some (.agg #[.slice none 0 0]):=kr
theorem z57:mz prog 57=some (.agg #[.int .i64 0,.slice none 0 0,.int .i64 0]):=kr
theorem z59:mz prog 59=some (.agg #[.slice none 0 0,.int .i64 0,.slice none 0 0,.int .i64 0]):=kr
theorem z69:mz prog 69=some (.agg #[.string ⟨#[]⟩,.int .i64 0,.int .i64 0,.slice none 0 0,.slice none 0 0,.int .i64 0,.slice none 0 0,.int .i64 0,.slice none 0 0,.slice none 0 0,.slice none 0 0,.slice none 0 0,.slice none 0 0,.int .i64 0,.slice none 0 0,.slice none 0 0]):=kr
theorem z72:mz prog 72=some (.agg #[.pointer none,.string ⟨#[]⟩,.int .i64 0,.int .i64 0,.slice none 0 0,.slice none 0 0,.int .i64 0,.slice none 0 0,.int .i64 0,.slice none 0 0,.slice none 0 0,.slice none 0 0,.slice none 0 0,.slice none 0 0,.int .i64 0,.slice none 0 0,.slice none 0 0,.slice none 0 0,.int .i64 0]):=kr
theorem z78:mz prog 78=some .nilFunc:=kr
theorem z80:mz prog 80=some (.agg #[.int .i64 0,.string ⟨#[]⟩,.string ⟨#[]⟩,.string ⟨#[]⟩,.string ⟨#[]⟩,.bool false,.bool false,.int .i64 0,.int .i64 0,.int .i64 0,.int .i64 0]):=kr
theorem z9:mz prog 9=some (.string ⟨#[]⟩):=kr
theorem z99:mz prog 99=some (.agg #[.pointer none,.pointer none,.pointer none,.pointer none,.pointer none]):=kr
theorem yY:ZC prog 107 [eq (.string eE),eq (.string eE),eq (.slice none 0 0),eq (.string eE),eq (.string eE),eq (.int .i64 0)]:=⟨_,z107,rfl⟩
theorem zc119:ZC prog 119 [eq (.string eE),eq (.string eE),eq (.string eE),eq (.bool false),eq (.int .i64 0),eq (.string eE)]:=⟨_,z119,rfl⟩
theorem pM:ZC prog 126 [eq (.string eE),eq (.slice none 0 0)]:=⟨_,AP,rfl⟩
theorem vG:ZC prog 168 [eq (.bool false),eq (.string eE),eq (.string eE),eq (.int .i64 0),eq (.slice none 0 0)]:=⟨_,z168,rfl⟩
theorem zc181:ZC prog 181 [eq (.string eE),eq (.string eE),eq (.string eE),eq (.bool false)]:=⟨_,dY,rfl⟩
theorem Bt:ZC prog 264 [eq (.int .i64 0),eq (.string eE),eq (.string eE),eq (.string eE),eq (.bool false)]:=⟨_,Dx,rfl⟩
theorem zc370:ZC prog 370 [eq .nilFunc]:=⟨_,z370,rfl⟩
theorem DT:ZC prog 376 [eq (.int .i64 0),eq (.string eE)]:=⟨_,ID,rfl⟩
theorem zc43:ZC prog 43 [eq (.int .i64 0),eq (.int .i64 0),eq (.int .i64 0),eq (.int .i64 0),eq (.int .i64 0),eq (.int .i64 0),eq (.bool false),eq (.slice none 0 0),eq (.slice none 0 0),eq (.string eE)]:=⟨_,z43,rfl⟩
theorem Hj:ZC prog 47 [eq (.string eE),eq (.string eE),eq (.string eE),eq (.bool false)]:=⟨_,z47,rfl⟩
theorem nu:ZC prog 49 [eq (.int .i64 0),eq (.string eE)]:=⟨_,z49,rfl⟩
theorem zc54:ZC prog 54 [eq (.slice none 0 0)]:=⟨_,z54,rfl⟩
theorem Fo:ZC prog 57 [eq (.int .i64 0),eq (.slice none 0 0),eq (.int .i64 0)]:=⟨_,z57,rfl⟩
theorem Gm:ZC prog 59 [eq (.slice none 0 0),eq (.int .i64 0),eq (.slice none 0 0),eq (.int .i64 0)]:=⟨_,z59,rfl⟩
theorem GH:ZC prog 69 [eq (.string eE),eq (.int .i64 0),eq (.int .i64 0),eq (.slice none 0 0),eq (.slice none 0 0),eq (.int .i64 0),eq (.slice none 0 0),eq (.int .i64 0),eq (.slice none 0 0),eq (.slice none 0 0),eq (.slice none 0 0),eq (.slice none 0 0),eq (.slice none 0 0),eq (.int .i64 0),eq (.slice none 0 0),eq (.slice none 0 0)]:=⟨_,z69,rfl⟩
theorem qP:ZC prog 80 [eq (.int .i64 0),eq (.string eE),eq (.string eE),eq (.string eE),eq (.string eE),eq (.bool false),eq (.bool false),eq (.int .i64 0),eq (.int .i64 0),eq (.int .i64 0),eq (.int .i64 0)]:=⟨_,z80,rfl⟩
structure Aa where
 fv:Int
 deriving DecidableEq,Inhabited
abbrev Aa.enc (x:Aa):Cs:=[eq (.int .i64 x.fv)]
abbrev Aa.K:Kd Aa:=⟨1,default,Aa.enc,λ_=>rfl,λ_=>(ae (ai rfl) cN)⟩
structure bI where
 fn:Aa
 bw:Int
 deriving DecidableEq,Inhabited
abbrev bI.enc (x:bI):Cs:=[eq (.int .i64 x.fn.fv),eq (.int .i64 x.bw)]
abbrev bI.K:Kd bI:=⟨2,default,bI.enc,λ_=>rfl,λ_=>(ae (ai rfl) (ae (ai rfl) cN))⟩
structure S where
 deriving DecidableEq,Inhabited
abbrev S.enc (x:S):Cs:=[]
abbrev S.K:Kd S:=⟨0,default,S.enc,λ_=>rfl,λ_=>cN⟩
structure bE where
 dA:bI
 bA:List BA
 qw:List (BA×Int)
 deriving DecidableEq,Inhabited
structure ak where
 bf:Int
 aj:BA
 aC:BA
 bP:BA
 ah:BA
 ay:Bool
 lO:Bool
 cX:Int
 bU:Int
 bK:Int
 aS:Int
 deriving DecidableEq,Inhabited
abbrev ak.enc (x:ak):Cs:=[eq (.int .i64 x.bf),eq (.string x.aj),eq (.string x.aC),eq (.string x.bP),eq (.string x.ah),eq (.bool x.ay),eq (.bool x.lO),eq (.int .i64 x.cX),eq (.int .i64 x.bU),eq (.int .i64 x.bK),eq (.int .i64 x.aS)]
abbrev ak.K:Kd ak:=⟨11,default,ak.enc,λ_=>rfl,λ_=>(ae (ai rfl) (ae (ai rfl) (ae (ai rfl) (ae (ai rfl) (ae (ai rfl) (ae (ai rfl) (ae (ai rfl) (ae (ai rfl) (ae (ai rfl) (ae (ai rfl) (ae (ai rfl) cN)))))))))))⟩
structure iv where
 bw:Int
 fl:List ak
 da:Int
 deriving DecidableEq,Inhabited
abbrev iv.enc (x:iv):Cs:=[eq (.int .i64 x.bw),sl ak.K x.fl,eq (.int .i64 x.da)]
abbrev iv.K:Kd iv:=⟨3,default,iv.enc,λ_=>rfl,λ_=>(ae (ai rfl) (ae dR (ae (ai rfl) cN)))⟩
structure aM where
 aj:BA
 aC:BA
 ah:BA
 ay:Bool
 deriving DecidableEq,Inhabited
abbrev aM.enc (x:aM):Cs:=[eq (.string x.aj),eq (.string x.aC),eq (.string x.ah),eq (.bool x.ay)]
abbrev aM.K:Kd aM:=⟨4,default,aM.enc,λ_=>rfl,λ_=>(ae (ai rfl) (ae (ai rfl) (ae (ai rfl) (ae (ai rfl) cN))))⟩
structure Pos where
 br:Int
 cC:BA
 deriving DecidableEq,Inhabited
abbrev Pos.enc (x:Pos):Cs:=[eq (.int .i64 x.br),eq (.string x.cC)]
abbrev Pos.K:Kd Pos:=⟨2,default,Pos.enc,λ_=>rfl,λ_=>(ae (ai rfl) (ae (ai rfl) cN))⟩
structure gP where
 dA:List (aM×Pos)
 deriving DecidableEq,Inhabited
structure dE where
 j2:gP
 oG:iv
 deriving DecidableEq,Inhabited
structure Seen where
 bw:Int
 fof:List (BA×(List Int))
 deriving DecidableEq,Inhabited
structure Event where
 cC:BA
 aj:BA
 ag:List BA
 ah:BA
 aC:BA
 cW:Int
 deriving DecidableEq,Inhabited
abbrev Event.enc (x:Event):Cs:=[eq (.string x.cC),eq (.string x.aj),sl az x.ag,eq (.string x.ah),eq (.string x.aC),eq (.int .i64 x.cW)]
abbrev Event.K:Kd Event:=⟨6,default,Event.enc,λ_=>rfl,λ_=>(ae (ai rfl) (ae (ai rfl) (ae dR (ae (ai rfl) (ae (ai rfl) (ae (ai rfl) cN))))))⟩
structure bp where
 fe:Event
 dx:Int
 lG:Bool
 deriving DecidableEq,Inhabited
abbrev bp.enc (x:bp):Cs:=[eq (.string x.fe.cC),eq (.string x.fe.aj),sl az x.fe.ag,eq (.string x.fe.ah),eq (.string x.fe.aC),eq (.int .i64 x.fe.cW),eq (.int .i64 x.dx),eq (.bool x.lG)]
abbrev bp.K:Kd bp:=⟨8,default,bp.enc,λ_=>rfl,λ_=>(ae (ai rfl) (ae (ai rfl) (ae dR (ae (ai rfl) (ae (ai rfl) (ae (ai rfl) (ae (ai rfl) (ae (ai rfl) cN))))))))⟩
structure bM where
 cP:BA
 aw:List (BA×bp)
 deriving DecidableEq,Inhabited
structure au where
 b9:List (BA×bM)
 deriving DecidableEq,Inhabited
structure kC where
 sJ:Int
 kD:BA
 deriving DecidableEq,Inhabited
abbrev kC.enc (x:kC):Cs:=[eq (.int .i64 x.sJ),eq (.string x.kD)]
abbrev kC.K:Kd kC:=⟨2,default,kC.enc,λ_=>rfl,λ_=>(ae (ai rfl) (ae (ai rfl) cN))⟩
structure bO where
 fl:List kC
 dA:List (BA×Int)
 deriving DecidableEq,Inhabited
structure bG where
 fl:List ak
 pQ:bO
 deriving DecidableEq,Inhabited
structure bJ where
 fl:List ak
 nm:bO
 deriving DecidableEq,Inhabited
structure Src where
 aK:au
 aA:dE
 ax:bG
 an:bJ
 bQ:bE
 deriving DecidableEq,Inhabited
structure aZ where
 bf:Int
 aj:BA
 aC:BA
 ah:BA
 ay:Bool
 deriving DecidableEq,Inhabited
abbrev aZ.enc (x:aZ):Cs:=[eq (.int .i64 x.bf),eq (.string x.aj),eq (.string x.aC),eq (.string x.ah),eq (.bool x.ay)]
abbrev aZ.K:Kd aZ:=⟨5,default,aZ.enc,λ_=>rfl,λ_=>(ae (ai rfl) (ae (ai rfl) (ae (ai rfl) (ae (ai rfl) (ae (ai rfl) cN)))))⟩
structure cF where
 bw:Int
 bA:List aZ
 dA:List (aZ×ak)
 da:Int
 deriving DecidableEq,Inhabited
structure km where
 sw:Bool
 dL:BA
 yo:BA
 cC:Int
 ke:List ak
 deriving DecidableEq,Inhabited
abbrev km.enc (x:km):Cs:=[eq (.bool x.sw),eq (.string x.dL),eq (.string x.yo),eq (.int .i64 x.cC),sl ak.K x.ke]
abbrev km.K:Kd km:=⟨5,default,km.enc,λ_=>rfl,λ_=>(ae (ai rfl) (ae (ai rfl) (ae (ai rfl) (ae (ai rfl) (ae dR cN)))))⟩
structure jU where
 fp:km
 pT:Int
 C0:Int
 deriving DecidableEq,Inhabited
abbrev jU.enc (x:jU):Cs:=[eq (.bool x.fp.sw),eq (.string x.fp.dL),eq (.string x.fp.yo),eq (.int .i64 x.fp.cC),sl ak.K x.fp.ke,eq (.int .i64 x.pT),eq (.int .i64 x.C0)]
abbrev jU.K:Kd jU:=⟨7,default,jU.enc,λ_=>rfl,λ_=>(ae (ai rfl) (ae (ai rfl) (ae (ai rfl) (ae (ai rfl) (ae dR (ae (ai rfl) (ae (ai rfl) cN)))))))⟩
structure aO where
 bC:cF
 av:BA
 lf:BA
 fX:bI
 fair:Option jU
 deriving DecidableEq,Inhabited
structure bY where
 av:BA
 aG:bI
 aq:bI
 fall:Src
 aI:Seen
 aa:List (BA×aO)
 deriving DecidableEq,Inhabited
structure bq where
 aj:BA
 fL:List Event
 deriving DecidableEq,Inhabited
abbrev bq.enc (x:bq):Cs:=[eq (.string x.aj),sl Event.K x.fL]
abbrev bq.K:Kd bq:=⟨2,default,bq.enc,λ_=>rfl,λ_=>(ae (ai rfl) (ae dR cN))⟩
structure dm where
 fD:List bq
 deriving DecidableEq,Inhabited
abbrev dm.enc (x:dm):Cs:=[sl bq.K x.fD]
abbrev dm.K:Kd dm:=⟨1,default,dm.enc,λ_=>rfl,λ_=>(ae dR cN)⟩
structure MK where
 fK:aM
 sJ:Pos
 deriving DecidableEq,Inhabited
abbrev MK.enc (x:MK):Cs:=[eq (.string x.fK.aj),eq (.string x.fK.aC),eq (.string x.fK.ah),eq (.bool x.fK.ay),eq (.int .i64 x.sJ.br),eq (.string x.sJ.cC)]
abbrev MK.K:Kd MK:=⟨6,default,MK.enc,λ_=>rfl,λ_=>(ae (ai rfl) (ae (ai rfl) (ae (ai rfl) (ae (ai rfl) (ae (ai rfl) (ae (ai rfl) cN))))))⟩
structure iH where
 bW:Int
 fL:List ak
 bS:Int
 deriving DecidableEq,Inhabited
abbrev iH.enc (x:iH):Cs:=[eq (.int .i64 x.bW),sl ak.K x.fL,eq (.int .i64 x.bS)]
abbrev iH.K:Kd iH:=⟨3,default,iH.enc,λ_=>rfl,λ_=>(ae (ai rfl) (ae dR (ae (ai rfl) cN)))⟩
structure mJ where
 fL:List MK
 fP:iH
 deriving DecidableEq,Inhabited
abbrev mJ.enc (x:mJ):Cs:=[sl MK.K x.fL,eq (.int .i64 x.fP.bW),sl ak.K x.fP.fL,eq (.int .i64 x.fP.bS)]
abbrev mJ.K:Kd mJ:=⟨4,default,mJ.enc,λ_=>rfl,λ_=>(ae dR (ae (ai rfl) (ae dR (ae (ai rfl) cN))))⟩
structure wA where
 fL:List ak
 cK:List Bool
 deriving DecidableEq,Inhabited
abbrev wA.enc (x:wA):Cs:=[sl ak.K x.fL,sl dS x.cK]
abbrev wA.K:Kd wA:=⟨2,default,wA.enc,λ_=>rfl,λ_=>(ae dR (ae dR cN))⟩
structure wq where
 fL:List ak
 cK:List Int
 deriving DecidableEq,Inhabited
abbrev wq.enc (x:wq):Cs:=[sl ak.K x.fL,sl (aP .i64) x.cK]
abbrev wq.K:Kd wq:=⟨2,default,wq.enc,λ_=>rfl,λ_=>(ae dR (ae dR cN))⟩
structure mu where
 bf:Int
 fK:aM
 EU:BA
 deriving DecidableEq,Inhabited
abbrev mu.enc (x:mu):Cs:=[eq (.int .i64 x.bf),eq (.string x.fK.aj),eq (.string x.fK.aC),eq (.string x.fK.ah),eq (.bool x.fK.ay),eq (.string x.EU)]
abbrev mu.K:Kd mu:=⟨6,default,mu.enc,λ_=>rfl,λ_=>(ae (ai rfl) (ae (ai rfl) (ae (ai rfl) (ae (ai rfl) (ae (ai rfl) (ae (ai rfl) cN))))))⟩
structure iX where
 eZ:BA
 yo:BA
 fN:Int
 fQ:iH
 CM:km
 lO:Bool
 EM:Int
 fDue:Int
 deriving DecidableEq,Inhabited
abbrev iX.enc (x:iX):Cs:=[eq (.string x.eZ),eq (.string x.yo),eq (.int .i64 x.fN),eq (.int .i64 x.fQ.bW),sl ak.K x.fQ.fL,eq (.int .i64 x.fQ.bS),eq (.bool x.CM.sw),eq (.string x.CM.dL),eq (.string x.CM.yo),eq (.int .i64 x.CM.cC),sl ak.K x.CM.ke,eq (.bool x.lO),eq (.int .i64 x.EM),eq (.int .i64 x.fDue)]
abbrev iX.K:Kd iX:=⟨14,default,iX.enc,λ_=>rfl,λ_=>(ae (ai rfl) (ae (ai rfl) (ae (ai rfl) (ae (ai rfl) (ae dR (ae (ai rfl) (ae (ai rfl) (ae (ai rfl) (ae (ai rfl) (ae (ai rfl) (ae dR (ae (ai rfl) (ae (ai rfl) (ae (ai rfl) cN))))))))))))))⟩
structure iY where
 fOf:BA
 fN:Int
 deriving DecidableEq,Inhabited
abbrev iY.enc (x:iY):Cs:=[eq (.string x.fOf),eq (.int .i64 x.fN)]
abbrev iY.K:Kd iY:=⟨2,default,iY.enc,λ_=>rfl,λ_=>(ae (ai rfl) (ae (ai rfl) cN))⟩
structure rL where
 eZ:BA
 bK:Int
 aS:Int
 fV:dm
 fM:mJ
 fT:wA
 fP:wq
 fL:List mu
 dL:Int
 fQ:List iX
 fF:List iY
 deriving DecidableEq,Inhabited
abbrev rL.enc (x:rL):Cs:=[eq (.string x.eZ),eq (.int .i64 x.bK),eq (.int .i64 x.aS),sl bq.K x.fV.fD,sl MK.K x.fM.fL,eq (.int .i64 x.fM.fP.bW),sl ak.K x.fM.fP.fL,eq (.int .i64 x.fM.fP.bS),sl ak.K x.fT.fL,sl dS x.fT.cK,sl ak.K x.fP.fL,sl (aP .i64) x.fP.cK,sl mu.K x.fL,eq (.int .i64 x.dL),sl iX.K x.fQ,sl iY.K x.fF]
abbrev rL.K:Kd rL:=⟨16,default,rL.enc,λ_=>rfl,λ_=>(ae (ai rfl) (ae (ai rfl) (ae (ai rfl) (ae dR (ae dR (ae (ai rfl) (ae dR (ae (ai rfl) (ae dR (ae dR (ae dR (ae dR (ae dR (ae (ai rfl) (ae dR (ae dR cN))))))))))))))))⟩
structure dV where
 aC:Int
 cW:Int
 ag:List Int
 ah:Int
 deriving DecidableEq,Inhabited
abbrev dV.enc (x:dV):Cs:=[eq (.int .i64 x.aC),eq (.int .i64 x.cW),sl (aP .i64) x.ag,eq (.int .i64 x.ah)]
abbrev dV.K:Kd dV:=⟨4,default,dV.enc,λ_=>rfl,λ_=>(ae (ai rfl) (ae (ai rfl) (ae dR (ae (ai rfl) cN))))⟩
structure WS where
 fS:bY
 fR:rL
 fE:List Event
 fN:Int
 deriving DecidableEq,Inhabited
structure cV where
 fDo:Int
 fU:Int
 fR:Int
 fE:Int
 fT:Int
 fN:Int
 fYes:Bool
 ke:List ak
 fB:List Int
 fS:BA
 deriving DecidableEq,Inhabited
abbrev cV.enc (x:cV):Cs:=[eq (.int .i64 x.fDo),eq (.int .i64 x.fU),eq (.int .i64 x.fR),eq (.int .i64 x.fE),eq (.int .i64 x.fT),eq (.int .i64 x.fN),eq (.bool x.fYes),sl ak.K x.ke,sl (aP .u8) x.fB,eq (.string x.fS)]
abbrev cV.K:Kd cV:=⟨10,default,cV.enc,λ_=>rfl,λ_=>(ae (ai rfl) (ae (ai rfl) (ae (ai rfl) (ae (ai rfl) (ae (ai rfl) (ae (ai rfl) (ae (ai rfl) (ae dR (ae dR (ae (ai rfl) cN))))))))))⟩
structure dW where
 kD:aM
 sJ:Pos
 deriving DecidableEq,Inhabited
abbrev dW.enc (x:dW):Cs:=[eq (.string x.kD.aj),eq (.string x.kD.aC),eq (.string x.kD.ah),eq (.bool x.kD.ay),eq (.int .i64 x.sJ.br),eq (.string x.sJ.cC)]
abbrev dW.K:Kd dW:=⟨6,default,dW.enc,λ_=>rfl,λ_=>(ae (ai rfl) (ae (ai rfl) (ae (ai rfl) (ae (ai rfl) (ae (ai rfl) (ae (ai rfl) cN))))))⟩
def aM.cv (k:aM):List Value:=[.string k.aj,.string k.aC,.string k.ah,.bool k.ay]
def aM.kv (k:aM):Value:=.agg (aM.cv k).toArray
theorem aM.kq (k:aM):∀ R u,(agg (aM.enc k)).p R u->u=aM.kv k:=λ_ _ h=>aggq (vs:=aM.cv k) rfl h
theorem EJ (x y:aM) {d:Nat} {w:World}:(Op.equalIn (d+2) 47 (.agg [.string x.aj,.string x.aC,.string x.ah,.bool x.ay].toArray) (.agg [.string y.aj,.string y.aC,.string y.ah,.bool y.ay].toArray)).run prog w = .ok (decide (x=y)) w:=by
 have e:decide (x=y)=((decide (x.aj=y.aj)&&(decide (x.aC=y.aC)&&(decide (x.ah=y.ah)&&(decide (x.ay=y.ay)&&true))))):=by cases x;cases y;rw [Bool.eq_iff_iff];simp
 rw [e]
 exact o8 C9 st47 (ec dc (aR U9 rfl rfl) (aR U9 rfl rfl) (mP U9) (ec dc (aR U9 rfl rfl) (aR U9 rfl rfl) (mP U9) (ec dc (aR U9 rfl rfl) (aR U9 rfl rfl) (mP U9) (ec dc (aR U4 rfl rfl) (aR U4 rfl rfl) (rO U4) sE))))
theorem BD:qq prog 47 aM.kv:=si (λk=>(aM.cv k).toArray) C9 (λ_=>rfl) (λk=>(all_cons ⟨⟨_,U9,.inl rfl⟩,_,λ_=>aR U9 rfl rfl⟩ (all_cons ⟨⟨_,U9,.inl rfl⟩,_,λ_=>aR U9 rfl rfl⟩ (all_cons ⟨⟨_,U9,.inl rfl⟩,_,λ_=>aR U9 rfl rfl⟩ (all_cons ⟨⟨_,U4,.inr (.inl rfl)⟩,_,λ_=>aR U4 rfl rfl⟩ all_nil))))) (λk c w=>dJ 2 dc (λ_=>EJ k c)) (λk=>by simp [aM.kv,aM.cv,Instr.sameBits,vL])
def aZ.cv (k:aZ):List Value:=[.int .i64 k.bf,.string k.aj,.string k.aC,.string k.ah,.bool k.ay]
def aZ.kv (k:aZ):Value:=.agg (aZ.cv k).toArray
theorem aZ.kq (k:aZ):∀ R u,(agg (aZ.enc k)).p R u->u=aZ.kv k:=λ_ _ h=>aggq (vs:=aZ.cv k) rfl h
theorem Ac (x y:aZ) {d:Nat} {w:World}:(Op.equalIn (d+2) 264 (.agg [.int .i64 x.bf,.string x.aj,.string x.aC,.string x.ah,.bool x.ay].toArray) (.agg [.int .i64 y.bf,.string y.aj,.string y.aC,.string y.ah,.bool y.ay].toArray)).run prog w = .ok (decide (x=y)) w:=by
 have e:decide (x=y)=((decide (x.bf=y.bf)&&(decide (x.aj=y.aj)&&(decide (x.aC=y.aC)&&(decide (x.ah=y.ah)&&(decide (x.ay=y.ay)&&true)))))):=by cases x;cases y;rw [Bool.eq_iff_iff];simp
 rw [e]
 exact o8 nM st264 (ec dc (aR U3 rfl rfl) (aR U3 rfl rfl) (eq_int U3) (ec dc (aR U9 rfl rfl) (aR U9 rfl rfl) (mP U9) (ec dc (aR U9 rfl rfl) (aR U9 rfl rfl) (mP U9) (ec dc (aR U9 rfl rfl) (aR U9 rfl rfl) (mP U9) (ec dc (aR U4 rfl rfl) (aR U4 rfl rfl) (rO U4) sE)))))
theorem rH:qq prog 264 aZ.kv:=si (λk=>(aZ.cv k).toArray) nM (λ_=>rfl) (λk=>(all_cons ⟨⟨_,U3,.inr (.inr ⟨_,rfl⟩)⟩,_,λ_=>aR U3 rfl rfl⟩ (all_cons ⟨⟨_,U9,.inl rfl⟩,_,λ_=>aR U9 rfl rfl⟩ (all_cons ⟨⟨_,U9,.inl rfl⟩,_,λ_=>aR U9 rfl rfl⟩ (all_cons ⟨⟨_,U9,.inl rfl⟩,_,λ_=>aR U9 rfl rfl⟩ (all_cons ⟨⟨_,U4,.inr (.inl rfl)⟩,_,λ_=>aR U4 rfl rfl⟩ all_nil)))))) (λk c w=>dJ 2 dc (λ_=>Ac k c)) (λk=>by simp [aZ.kv,aZ.cv,Instr.sameBits,vL])
theorem yL (x y:ak) {d:Nat} {w:World}:(Op.equalIn (d+2) 80 (.agg [.int .i64 x.bf,.string x.aj,.string x.aC,.string x.bP,.string x.ah,.bool x.ay,.bool x.lO,.int .i64 x.cX,.int .i64 x.bU,.int .i64 x.bK,.int .i64 x.aS].toArray) (.agg [.int .i64 y.bf,.string y.aj,.string y.aC,.string y.bP,.string y.ah,.bool y.ay,.bool y.lO,.int .i64 y.cX,.int .i64 y.bU,.int .i64 y.bK,.int .i64 y.aS].toArray)).run prog w = .ok (decide (x=y)) w:=by
 have e:decide (x=y)=((decide (x.bf=y.bf)&&(decide (x.aj=y.aj)&&(decide (x.aC=y.aC)&&(decide (x.bP=y.bP)&&(decide (x.ah=y.ah)&&(decide (x.ay=y.ay)&&(decide (x.lO=y.lO)&&(decide (x.cX=y.cX)&&(decide (x.bU=y.bU)&&(decide (x.bK=y.bK)&&(decide (x.aS=y.aS)&&true)))))))))))):=by cases x;cases y;rw [Bool.eq_iff_iff];simp
 rw [e]
 exact o8 fO st80 (ec dc (aR U3 rfl rfl) (aR U3 rfl rfl) (eq_int U3) (ec dc (aR U9 rfl rfl) (aR U9 rfl rfl) (mP U9) (ec dc (aR U9 rfl rfl) (aR U9 rfl rfl) (mP U9) (ec dc (aR U9 rfl rfl) (aR U9 rfl rfl) (mP U9) (ec dc (aR U9 rfl rfl) (aR U9 rfl rfl) (mP U9) (ec dc (aR U4 rfl rfl) (aR U4 rfl rfl) (rO U4) (ec dc (aR U4 rfl rfl) (aR U4 rfl rfl) (rO U4) (ec dc (aR U3 rfl rfl) (aR U3 rfl rfl) (eq_int U3) (ec dc (aR U3 rfl rfl) (aR U3 rfl rfl) (eq_int U3) (ec dc (aR U3 rfl rfl) (aR U3 rfl rfl) (eq_int U3) (ec dc (aR U3 rfl rfl) (aR U3 rfl rfl) (eq_int U3) sE)))))))))))
theorem Dj (x y:aM) {d:Nat} {w:World}:(Op.equalIn (d+2) 181 (.agg [.string x.aj,.string x.aC,.string x.ah,.bool x.ay].toArray) (.agg [.string y.aj,.string y.aC,.string y.ah,.bool y.ay].toArray)).run prog w = .ok (decide (x=y)) w:=by
 have e:decide (x=y)=((decide (x.aj=y.aj)&&(decide (x.aC=y.aC)&&(decide (x.ah=y.ah)&&(decide (x.ay=y.ay)&&true))))):=by cases x;cases y;rw [Bool.eq_iff_iff];simp
 rw [e]
 exact o8 wD st181 (ec dc (aR U9 rfl rfl) (aR U9 rfl rfl) (mP U9) (ec dc (aR U9 rfl rfl) (aR U9 rfl rfl) (mP U9) (ec dc (aR U9 rfl rfl) (aR U9 rfl rfl) (mP U9) (ec dc (aR U4 rfl rfl) (aR U4 rfl rfl) (rO U4) sE))))
theorem nT (x y:Pos) {d:Nat} {w:World}:(Op.equalIn (d+2) 49 (.agg [.int .i64 x.br,.string x.cC].toArray) (.agg [.int .i64 y.br,.string y.cC].toArray)).run prog w = .ok (decide (x=y)) w:=by
 have e:decide (x=y)=((decide (x.br=y.br)&&(decide (x.cC=y.cC)&&true))):=by cases x;cases y;rw [Bool.eq_iff_iff];simp
 rw [e]
 exact o8 uA st49 (ec dc (aR U3 rfl rfl) (aR U3 rfl rfl) (eq_int U3) (ec dc (aR U9 rfl rfl) (aR U9 rfl rfl) (mP U9) sE))
def qM (g:Int->Option Bool):List VP->VP->Prop:=λvs ret=>∃ a0 r,g a0=some r/\vs=[eq (.int .u8 a0)]/\ret=eq (.bool r)
def iW (g:Int->Option Bool):VP:=Fa prog (qM g)
def o5:Kd (Int->Option Bool):=⟨1,λ_=>none,λg=>[iW g],λ_=>rfl,λ_ p h R v hv=>by simp at h;subst h;exact oQ R v hv⟩
def bI.O (p:OV) (m:bI):As:=tF (γ:=Nat) (λg=>p.1 = .pointer (some ⟨g,0,none⟩)) (λg=>[ar g 137 [eq (.int .i64 m.fn.fv),eq (.int .i64 m.bw)]])
theorem bI.nn {p:OV} {m:bI}:NN (bI.O p m) p.1:=by unfold bI.O;exact oR (γ:=Nat) (b:=λg=>g)
theorem bI.eF {l:List As} {p:OV} {m:bI} (j:Nat) (hj:l[j]? = some (bI.O p m)):∀ R w,St R l w->∃ g:Nat,p.1 = .pointer (some ⟨g,0,none⟩)/\St R ([ar g 137 [eq (.int .i64 m.fn.fv),eq (.int .i64 m.bw)]]++l.eraseIdx j) w:=iO j hj
theorem bI.shut {l r:List As} {p:OV} {m:bI} (g:Nat) (hg:p.1 = .pointer (some ⟨g,0,none⟩)) (hp:l.Perm ([ar g 137 [eq (.int .i64 m.fn.fv),eq (.int .i64 m.bw)]]++r)):∀ R w,St R l w->∃ _:Unit,True/\St R (bI.O p m::r) w:=ie _ _ g hg hp
def bE.O (p:OV) (m:bE):As:=tF (γ:=Nat×OV×OV×OV) (λg=>p.1 = .pointer (some ⟨g.1,0,none⟩)) (λg=>[ar g.1 141 [eq g.2.1.1,eq g.2.2.1.1,eq g.2.2.2.1],bI.O g.2.1 m.dA,own az g.2.2.1.1 m.bA,mp Value.string (λx:Int=>eq (.int .i64 x)) g.2.2.2.1 m.qw])
theorem bE.nn {p:OV} {m:bE}:NN (bE.O p m) p.1:=by unfold bE.O;exact oR (γ:=Nat×OV×OV×OV) (b:=λg=>g.1)
theorem bE.eF {l:List As} {p:OV} {m:bE} (j:Nat) (hj:l[j]? = some (bE.O p m)):∀ R w,St R l w->∃ g:Nat×OV×OV×OV,p.1 = .pointer (some ⟨g.1,0,none⟩)/\St R ([ar g.1 141 [eq g.2.1.1,eq g.2.2.1.1,eq g.2.2.2.1],bI.O g.2.1 m.dA,own az g.2.2.1.1 m.bA,mp Value.string (λx:Int=>eq (.int .i64 x)) g.2.2.2.1 m.qw]++l.eraseIdx j) w:=iO j hj
theorem bE.shut {l r:List As} {p:OV} {m:bE} (g:Nat×OV×OV×OV) (hg:p.1 = .pointer (some ⟨g.1,0,none⟩)) (hp:l.Perm ([ar g.1 141 [eq g.2.1.1,eq g.2.2.1.1,eq g.2.2.2.1],bI.O g.2.1 m.dA,own az g.2.2.1.1 m.bA,mp Value.string (λx:Int=>eq (.int .i64 x)) g.2.2.2.1 m.qw]++r)):∀ R w,St R l w->∃ _:Unit,True/\St R (bE.O p m::r) w:=ie _ _ g hg hp
def iv.O (p:OV) (m:iv):As:=tF (γ:=Nat×OV) (λg=>p.1 = .pointer (some ⟨g.1,0,none⟩)) (λg=>[ar g.1 200 [eq (.int .i64 m.bw),eq g.2.1,eq (.int .i64 m.da)],own ak.K g.2.1 m.fl])
theorem iv.nn {p:OV} {m:iv}:NN (iv.O p m) p.1:=by unfold iv.O;exact oR (γ:=Nat×OV) (b:=λg=>g.1)
theorem iv.eF {l:List As} {p:OV} {m:iv} (j:Nat) (hj:l[j]? = some (iv.O p m)):∀ R w,St R l w->∃ g:Nat×OV,p.1 = .pointer (some ⟨g.1,0,none⟩)/\St R ([ar g.1 200 [eq (.int .i64 m.bw),eq g.2.1,eq (.int .i64 m.da)],own ak.K g.2.1 m.fl]++l.eraseIdx j) w:=iO j hj
theorem iv.shut {l r:List As} {p:OV} {m:iv} (g:Nat×OV) (hg:p.1 = .pointer (some ⟨g.1,0,none⟩)) (hp:l.Perm ([ar g.1 200 [eq (.int .i64 m.bw),eq g.2.1,eq (.int .i64 m.da)],own ak.K g.2.1 m.fl]++r)):∀ R w,St R l w->∃ _:Unit,True/\St R (iv.O p m::r) w:=ie _ _ g hg hp
def gP.O (p:OV) (m:gP):As:=tF (γ:=Nat×OV) (λg=>p.1 = .pointer (some ⟨g.1,0,none⟩)) (λg=>[ar g.1 203 [eq g.2.1],mp aM.kv (λx:Pos=>agg (Pos.enc x)) g.2.1 m.dA])
theorem gP.nn {p:OV} {m:gP}:NN (gP.O p m) p.1:=by unfold gP.O;exact oR (γ:=Nat×OV) (b:=λg=>g.1)
theorem gP.eF {l:List As} {p:OV} {m:gP} (j:Nat) (hj:l[j]? = some (gP.O p m)):∀ R w,St R l w->∃ g:Nat×OV,p.1 = .pointer (some ⟨g.1,0,none⟩)/\St R ([ar g.1 203 [eq g.2.1],mp aM.kv (λx:Pos=>agg (Pos.enc x)) g.2.1 m.dA]++l.eraseIdx j) w:=iO j hj
theorem gP.shut {l r:List As} {p:OV} {m:gP} (g:Nat×OV) (hg:p.1 = .pointer (some ⟨g.1,0,none⟩)) (hp:l.Perm ([ar g.1 203 [eq g.2.1],mp aM.kv (λx:Pos=>agg (Pos.enc x)) g.2.1 m.dA]++r)):∀ R w,St R l w->∃ _:Unit,True/\St R (gP.O p m::r) w:=ie _ _ g hg hp
def dE.O (p:OV) (m:dE):As:=tF (γ:=Nat×OV×OV) (λg=>p.1 = .pointer (some ⟨g.1,0,none⟩)) (λg=>[ar g.1 123 [eq g.2.1.1,eq g.2.2.1],gP.O g.2.1 m.j2,iv.O g.2.2 m.oG])
theorem dE.nn {p:OV} {m:dE}:NN (dE.O p m) p.1:=by unfold dE.O;exact oR (γ:=Nat×OV×OV) (b:=λg=>g.1)
theorem dE.eF {l:List As} {p:OV} {m:dE} (j:Nat) (hj:l[j]? = some (dE.O p m)):∀ R w,St R l w->∃ g:Nat×OV×OV,p.1 = .pointer (some ⟨g.1,0,none⟩)/\St R ([ar g.1 123 [eq g.2.1.1,eq g.2.2.1],gP.O g.2.1 m.j2,iv.O g.2.2 m.oG]++l.eraseIdx j) w:=iO j hj
theorem dE.shut {l r:List As} {p:OV} {m:dE} (g:Nat×OV×OV) (hg:p.1 = .pointer (some ⟨g.1,0,none⟩)) (hp:l.Perm ([ar g.1 123 [eq g.2.1.1,eq g.2.2.1],gP.O g.2.1 m.j2,iv.O g.2.2 m.oG]++r)):∀ R w,St R l w->∃ _:Unit,True/\St R (dE.O p m::r) w:=ie _ _ g hg hp
def Seen.O (p:OV) (m:Seen):As:=tF (γ:=Nat×OV) (λg=>p.1 = .pointer (some ⟨g.1,0,none⟩)) (λg=>[ar g.1 147 [eq (.int .i64 m.bw),eq g.2.1],mp Value.string (λx:List Int=>sl (aP .i64) x) g.2.1 m.fof])
theorem Seen.shut {l r:List As} {p:OV} {m:Seen} (g:Nat×OV) (hg:p.1 = .pointer (some ⟨g.1,0,none⟩)) (hp:l.Perm ([ar g.1 147 [eq (.int .i64 m.bw),eq g.2.1],mp Value.string (λx:List Int=>sl (aP .i64) x) g.2.1 m.fof]++r)):∀ R w,St R l w->∃ _:Unit,True/\St R (Seen.O p m::r) w:=ie _ _ g hg hp
def bp.O (p:OV) (m:bp):As:=tF (γ:=Nat) (λg=>p.1 = .pointer (some ⟨g,0,none⟩)) (λg=>[ar g 278 [eq (.string m.fe.cC),eq (.string m.fe.aj),sl az m.fe.ag,eq (.string m.fe.ah),eq (.string m.fe.aC),eq (.int .i64 m.fe.cW),eq (.int .i64 m.dx),eq (.bool m.lG)]])
theorem bp.nn {p:OV} {m:bp}:NN (bp.O p m) p.1:=by unfold bp.O;exact oR (γ:=Nat) (b:=λg=>g)
theorem bp.eF {l:List As} {p:OV} {m:bp} (j:Nat) (hj:l[j]? = some (bp.O p m)):∀ R w,St R l w->∃ g:Nat,p.1 = .pointer (some ⟨g,0,none⟩)/\St R ([ar g 278 [eq (.string m.fe.cC),eq (.string m.fe.aj),sl az m.fe.ag,eq (.string m.fe.ah),eq (.string m.fe.aC),eq (.int .i64 m.fe.cW),eq (.int .i64 m.dx),eq (.bool m.lG)]]++l.eraseIdx j) w:=iO j hj
theorem bp.shut {l r:List As} {p:OV} {m:bp} (g:Nat) (hg:p.1 = .pointer (some ⟨g,0,none⟩)) (hp:l.Perm ([ar g 278 [eq (.string m.fe.cC),eq (.string m.fe.aj),sl az m.fe.ag,eq (.string m.fe.ah),eq (.string m.fe.aC),eq (.int .i64 m.fe.cW),eq (.int .i64 m.dx),eq (.bool m.lG)]]++r)):∀ R w,St R l w->∃ _:Unit,True/\St R (bp.O p m::r) w:=ie _ _ g hg hp
def bM.O (p:OV) (m:bM):As:=tF (γ:=Nat×OV) (λg=>p.1 = .pointer (some ⟨g.1,0,none⟩)) (λg=>[ar g.1 274 [eq (.string m.cP),eq g.2.1],iq Value.string bp.O g.2.1 m.aw])
theorem bM.nn {p:OV} {m:bM}:NN (bM.O p m) p.1:=by unfold bM.O;exact oR (γ:=Nat×OV) (b:=λg=>g.1)
theorem bM.eF {l:List As} {p:OV} {m:bM} (j:Nat) (hj:l[j]? = some (bM.O p m)):∀ R w,St R l w->∃ g:Nat×OV,p.1 = .pointer (some ⟨g.1,0,none⟩)/\St R ([ar g.1 274 [eq (.string m.cP),eq g.2.1],iq Value.string bp.O g.2.1 m.aw]++l.eraseIdx j) w:=iO j hj
theorem bM.shut {l r:List As} {p:OV} {m:bM} (g:Nat×OV) (hg:p.1 = .pointer (some ⟨g.1,0,none⟩)) (hp:l.Perm ([ar g.1 274 [eq (.string m.cP),eq g.2.1],iq Value.string bp.O g.2.1 m.aw]++r)):∀ R w,St R l w->∃ _:Unit,True/\St R (bM.O p m::r) w:=ie _ _ g hg hp
def au.O (p:OV) (m:au):As:=tF (γ:=Nat×OV) (λg=>p.1 = .pointer (some ⟨g.1,0,none⟩)) (λg=>[ar g.1 150 [eq g.2.1],iq Value.string bM.O g.2.1 m.b9])
theorem au.eF {l:List As} {p:OV} {m:au} (j:Nat) (hj:l[j]? = some (au.O p m)):∀ R w,St R l w->∃ g:Nat×OV,p.1 = .pointer (some ⟨g.1,0,none⟩)/\St R ([ar g.1 150 [eq g.2.1],iq Value.string bM.O g.2.1 m.b9]++l.eraseIdx j) w:=iO j hj
theorem au.shut {l r:List As} {p:OV} {m:au} (g:Nat×OV) (hg:p.1 = .pointer (some ⟨g.1,0,none⟩)) (hp:l.Perm ([ar g.1 150 [eq g.2.1],iq Value.string bM.O g.2.1 m.b9]++r)):∀ R w,St R l w->∃ _:Unit,True/\St R (au.O p m::r) w:=ie _ _ g hg hp
def bO.O (p:OV) (m:bO):As:=tF (γ:=Nat×OV×OV) (λg=>p.1 = .pointer (some ⟨g.1,0,none⟩)) (λg=>[ar g.1 206 [eq g.2.1.1,eq g.2.2.1],own kC.K g.2.1.1 m.fl,mp Value.string (λx:Int=>eq (.int .i64 x)) g.2.2.1 m.dA])
theorem bO.nn {p:OV} {m:bO}:NN (bO.O p m) p.1:=by unfold bO.O;exact oR (γ:=Nat×OV×OV) (b:=λg=>g.1)
theorem bO.eF {l:List As} {p:OV} {m:bO} (j:Nat) (hj:l[j]? = some (bO.O p m)):∀ R w,St R l w->∃ g:Nat×OV×OV,p.1 = .pointer (some ⟨g.1,0,none⟩)/\St R ([ar g.1 206 [eq g.2.1.1,eq g.2.2.1],own kC.K g.2.1.1 m.fl,mp Value.string (λx:Int=>eq (.int .i64 x)) g.2.2.1 m.dA]++l.eraseIdx j) w:=iO j hj
theorem bO.shut {l r:List As} {p:OV} {m:bO} (g:Nat×OV×OV) (hg:p.1 = .pointer (some ⟨g.1,0,none⟩)) (hp:l.Perm ([ar g.1 206 [eq g.2.1.1,eq g.2.2.1],own kC.K g.2.1.1 m.fl,mp Value.string (λx:Int=>eq (.int .i64 x)) g.2.2.1 m.dA]++r)):∀ R w,St R l w->∃ _:Unit,True/\St R (bO.O p m::r) w:=ie _ _ g hg hp
def bG.O (p:OV) (m:bG):As:=tF (γ:=Nat×OV×OV) (λg=>p.1 = .pointer (some ⟨g.1,0,none⟩)) (λg=>[ar g.1 154 [eq g.2.1.1,eq g.2.2.1],own ak.K g.2.1.1 m.fl,bO.O g.2.2 m.pQ])
theorem bG.nn {p:OV} {m:bG}:NN (bG.O p m) p.1:=by unfold bG.O;exact oR (γ:=Nat×OV×OV) (b:=λg=>g.1)
theorem bG.eF {l:List As} {p:OV} {m:bG} (j:Nat) (hj:l[j]? = some (bG.O p m)):∀ R w,St R l w->∃ g:Nat×OV×OV,p.1 = .pointer (some ⟨g.1,0,none⟩)/\St R ([ar g.1 154 [eq g.2.1.1,eq g.2.2.1],own ak.K g.2.1.1 m.fl,bO.O g.2.2 m.pQ]++l.eraseIdx j) w:=iO j hj
theorem bG.shut {l r:List As} {p:OV} {m:bG} (g:Nat×OV×OV) (hg:p.1 = .pointer (some ⟨g.1,0,none⟩)) (hp:l.Perm ([ar g.1 154 [eq g.2.1.1,eq g.2.2.1],own ak.K g.2.1.1 m.fl,bO.O g.2.2 m.pQ]++r)):∀ R w,St R l w->∃ _:Unit,True/\St R (bG.O p m::r) w:=ie _ _ g hg hp
def bJ.O (p:OV) (m:bJ):As:=tF (γ:=Nat×OV×OV) (λg=>p.1 = .pointer (some ⟨g.1,0,none⟩)) (λg=>[ar g.1 156 [eq g.2.1.1,eq g.2.2.1],own ak.K g.2.1.1 m.fl,bO.O g.2.2 m.nm])
theorem bJ.eF {l:List As} {p:OV} {m:bJ} (j:Nat) (hj:l[j]? = some (bJ.O p m)):∀ R w,St R l w->∃ g:Nat×OV×OV,p.1 = .pointer (some ⟨g.1,0,none⟩)/\St R ([ar g.1 156 [eq g.2.1.1,eq g.2.2.1],own ak.K g.2.1.1 m.fl,bO.O g.2.2 m.nm]++l.eraseIdx j) w:=iO j hj
theorem bJ.shut {l r:List As} {p:OV} {m:bJ} (g:Nat×OV×OV) (hg:p.1 = .pointer (some ⟨g.1,0,none⟩)) (hp:l.Perm ([ar g.1 156 [eq g.2.1.1,eq g.2.2.1],own ak.K g.2.1.1 m.fl,bO.O g.2.2 m.nm]++r)):∀ R w,St R l w->∃ _:Unit,True/\St R (bJ.O p m::r) w:=ie _ _ g hg hp
def cF.O (p:OV) (m:cF):As:=tF (γ:=Nat×OV×OV) (λg=>p.1 = .pointer (some ⟨g.1,0,none⟩)) (λg=>[ar g.1 211 [eq (.int .i64 m.bw),eq g.2.1.1,eq g.2.2.1,eq (.int .i64 m.da)],own aZ.K g.2.1.1 m.bA,mp aZ.kv (λx:ak=>agg (ak.enc x)) g.2.2.1 m.dA])
theorem cF.nn {p:OV} {m:cF}:NN (cF.O p m) p.1:=by unfold cF.O;exact oR (γ:=Nat×OV×OV) (b:=λg=>g.1)
theorem cF.eF {l:List As} {p:OV} {m:cF} (j:Nat) (hj:l[j]? = some (cF.O p m)):∀ R w,St R l w->∃ g:Nat×OV×OV,p.1 = .pointer (some ⟨g.1,0,none⟩)/\St R ([ar g.1 211 [eq (.int .i64 m.bw),eq g.2.1.1,eq g.2.2.1,eq (.int .i64 m.da)],own aZ.K g.2.1.1 m.bA,mp aZ.kv (λx:ak=>agg (ak.enc x)) g.2.2.1 m.dA]++l.eraseIdx j) w:=iO j hj
theorem cF.shut {l r:List As} {p:OV} {m:cF} (g:Nat×OV×OV) (hg:p.1 = .pointer (some ⟨g.1,0,none⟩)) (hp:l.Perm ([ar g.1 211 [eq (.int .i64 m.bw),eq g.2.1.1,eq g.2.2.1,eq (.int .i64 m.da)],own aZ.K g.2.1.1 m.bA,mp aZ.kv (λx:ak=>agg (ak.enc x)) g.2.2.1 m.dA]++r)):∀ R w,St R l w->∃ _:Unit,True/\St R (cF.O p m::r) w:=ie _ _ g hg hp
def jU.O (p:OV) (m:jU):As:=tF (γ:=Nat) (λg=>p.1 = .pointer (some ⟨g,0,none⟩)) (λg=>[ar g 227 [eq (.bool m.fp.sw),eq (.string m.fp.dL),eq (.string m.fp.yo),eq (.int .i64 m.fp.cC),sl ak.K m.fp.ke,eq (.int .i64 m.pT),eq (.int .i64 m.C0)]])
theorem jU.nn {p:OV} {m:jU}:NN (jU.O p m) p.1:=by unfold jU.O;exact oR (γ:=Nat) (b:=λg=>g)
theorem jU.eF {l:List As} {p:OV} {m:jU} (j:Nat) (hj:l[j]? = some (jU.O p m)):∀ R w,St R l w->∃ g:Nat,p.1 = .pointer (some ⟨g,0,none⟩)/\St R ([ar g 227 [eq (.bool m.fp.sw),eq (.string m.fp.dL),eq (.string m.fp.yo),eq (.int .i64 m.fp.cC),sl ak.K m.fp.ke,eq (.int .i64 m.pT),eq (.int .i64 m.C0)]]++l.eraseIdx j) w:=iO j hj
theorem jU.shut {l r:List As} {p:OV} {m:jU} (g:Nat) (hg:p.1 = .pointer (some ⟨g,0,none⟩)) (hp:l.Perm ([ar g 227 [eq (.bool m.fp.sw),eq (.string m.fp.dL),eq (.string m.fp.yo),eq (.int .i64 m.fp.cC),sl ak.K m.fp.ke,eq (.int .i64 m.pT),eq (.int .i64 m.C0)]]++r)):∀ R w,St R l w->∃ _:Unit,True/\St R (jU.O p m::r) w:=ie _ _ g hg hp
def aO.O (p:OV) (m:aO):As:=tF (γ:=Nat×OV×OV×OV) (λg=>p.1 = .pointer (some ⟨g.1,0,none⟩)) (λg=>[ar g.1 161 [eq g.2.1.1,eq (.string m.av),eq (.string m.lf),eq g.2.2.1.1,eq g.2.2.2.1],cF.O g.2.1 m.bC,bI.O g.2.2.1 m.fX,ig jU.O g.2.2.2 m.fair])
theorem aO.nn {p:OV} {m:aO}:NN (aO.O p m) p.1:=by unfold aO.O;exact oR (γ:=Nat×OV×OV×OV) (b:=λg=>g.1)
theorem aO.eF {l:List As} {p:OV} {m:aO} (j:Nat) (hj:l[j]? = some (aO.O p m)):∀ R w,St R l w->∃ g:Nat×OV×OV×OV,p.1 = .pointer (some ⟨g.1,0,none⟩)/\St R ([ar g.1 161 [eq g.2.1.1,eq (.string m.av),eq (.string m.lf),eq g.2.2.1.1,eq g.2.2.2.1],cF.O g.2.1 m.bC,bI.O g.2.2.1 m.fX,ig jU.O g.2.2.2 m.fair]++l.eraseIdx j) w:=iO j hj
theorem aO.shut {l r:List As} {p:OV} {m:aO} (g:Nat×OV×OV×OV) (hg:p.1 = .pointer (some ⟨g.1,0,none⟩)) (hp:l.Perm ([ar g.1 161 [eq g.2.1.1,eq (.string m.av),eq (.string m.lf),eq g.2.2.1.1,eq g.2.2.2.1],cF.O g.2.1 m.bC,bI.O g.2.2.1 m.fX,ig jU.O g.2.2.2 m.fair]++r)):∀ R w,St R l w->∃ _:Unit,True/\St R (aO.O p m::r) w:=ie _ _ g hg hp
def bY.O (p:OV) (m:bY):As:=tF (γ:=Nat×OV×OV×OV×OV×OV×OV×OV×OV×OV) (λg=>p.1 = .pointer (some ⟨g.1,0,none⟩)) (λg=>[ar g.1 102 [eq (.string m.av),eq g.2.1.1,eq g.2.2.1.1,eq g.2.2.2.1.1,eq g.2.2.2.2.1.1,eq g.2.2.2.2.2.1.1,eq g.2.2.2.2.2.2.1.1,eq g.2.2.2.2.2.2.2.1.1,eq g.2.2.2.2.2.2.2.2.1.1,eq g.2.2.2.2.2.2.2.2.2.1],bI.O g.2.1 m.aG,bI.O g.2.2.1 m.aq,au.O g.2.2.2.1 m.fall.aK,dE.O g.2.2.2.2.1 m.fall.aA,bG.O g.2.2.2.2.2.1 m.fall.ax,bJ.O g.2.2.2.2.2.2.1 m.fall.an,bE.O g.2.2.2.2.2.2.2.1 m.fall.bQ,Seen.O g.2.2.2.2.2.2.2.2.1 m.aI,iq Value.string aO.O g.2.2.2.2.2.2.2.2.2.1 m.aa])
theorem bY.nn {p:OV} {m:bY}:NN (bY.O p m) p.1:=by unfold bY.O;exact oR (γ:=Nat×OV×OV×OV×OV×OV×OV×OV×OV×OV) (b:=λg=>g.1)
theorem bY.eF {l:List As} {p:OV} {m:bY} (j:Nat) (hj:l[j]? = some (bY.O p m)):∀ R w,St R l w->∃ g:Nat×OV×OV×OV×OV×OV×OV×OV×OV×OV,p.1 = .pointer (some ⟨g.1,0,none⟩)/\St R ([ar g.1 102 [eq (.string m.av),eq g.2.1.1,eq g.2.2.1.1,eq g.2.2.2.1.1,eq g.2.2.2.2.1.1,eq g.2.2.2.2.2.1.1,eq g.2.2.2.2.2.2.1.1,eq g.2.2.2.2.2.2.2.1.1,eq g.2.2.2.2.2.2.2.2.1.1,eq g.2.2.2.2.2.2.2.2.2.1],bI.O g.2.1 m.aG,bI.O g.2.2.1 m.aq,au.O g.2.2.2.1 m.fall.aK,dE.O g.2.2.2.2.1 m.fall.aA,bG.O g.2.2.2.2.2.1 m.fall.ax,bJ.O g.2.2.2.2.2.2.1 m.fall.an,bE.O g.2.2.2.2.2.2.2.1 m.fall.bQ,Seen.O g.2.2.2.2.2.2.2.2.1 m.aI,iq Value.string aO.O g.2.2.2.2.2.2.2.2.2.1 m.aa]++l.eraseIdx j) w:=iO j hj
theorem bY.shut {l r:List As} {p:OV} {m:bY} (g:Nat×OV×OV×OV×OV×OV×OV×OV×OV×OV) (hg:p.1 = .pointer (some ⟨g.1,0,none⟩)) (hp:l.Perm ([ar g.1 102 [eq (.string m.av),eq g.2.1.1,eq g.2.2.1.1,eq g.2.2.2.1.1,eq g.2.2.2.2.1.1,eq g.2.2.2.2.2.1.1,eq g.2.2.2.2.2.2.1.1,eq g.2.2.2.2.2.2.2.1.1,eq g.2.2.2.2.2.2.2.2.1.1,eq g.2.2.2.2.2.2.2.2.2.1],bI.O g.2.1 m.aG,bI.O g.2.2.1 m.aq,au.O g.2.2.2.1 m.fall.aK,dE.O g.2.2.2.2.1 m.fall.aA,bG.O g.2.2.2.2.2.1 m.fall.ax,bJ.O g.2.2.2.2.2.2.1 m.fall.an,bE.O g.2.2.2.2.2.2.2.1 m.fall.bQ,Seen.O g.2.2.2.2.2.2.2.2.1 m.aI,iq Value.string aO.O g.2.2.2.2.2.2.2.2.2.1 m.aa]++r)):∀ R w,St R l w->∃ _:Unit,True/\St R (bY.O p m::r) w:=ie _ _ g hg hp
def kJ (g:BA->Option Bool):List VP->VP->Prop:=λvs ret=>∃ a0 r,g a0=some r/\vs=[eq (.string a0)]/\ret=eq (.bool r)
def mV (X:As) (g:BA->Option Bool):VP:=fnx prog X (kJ g)
def qS (g:Int->Int->Int->Option Bool):List VP->VP->Prop:=λvs ret=>∃ a0 a1 a2 r,g a0 a1 a2=some r/\vs=[eq (.int .i64 a0),eq (.int .i64 a1),eq (.int .i64 a2)]/\ret=eq (.bool r)
def nU (g:Int->Int->Int->Option Bool):VP:=Fa prog (qS g)
def gV (g:ak->Option Bool):List VP->VP->Prop:=λvs ret=>∃ a0 r,g a0=some r/\vs=[agg (ak.enc a0)]/\ret=eq (.bool r)
def gJ (g:ak->Option Bool):VP:=Fa prog (gV g)
def lZ (X:As) (g:ak->Option Bool):VP:=fnx prog X (gV g)
def jD:Kd (ak->Option Bool):=⟨1,λ_=>none,λg=>[gJ g],λ_=>rfl,λ_ p h R v hv=>by simp at h;subst h;exact oQ R v hv⟩
def pn (g:ak->ak->Option Int):List VP->VP->Prop:=λvs ret=>∃ a0 a1 r,g a0 a1=some r/\vs=[agg (ak.enc a0),agg (ak.enc a1)]/\ret=eq (.int .i64 r)
def qf (g:ak->ak->Option Int):VP:=Fa prog (pn g)
def qd (g:ak->BA->Option Int):List VP->VP->Prop:=λvs ret=>∃ a0 a1 r,g a0 a1=some r/\vs=[agg (ak.enc a0),eq (.string a1)]/\ret=eq (.int .i64 r)
def qA (g:ak->BA->Option Int):VP:=Fa prog (qd g)
def pF (g:aZ->Option Bool):List VP->VP->Prop:=λvs ret=>∃ a0 r,g a0=some r/\vs=[agg (aZ.enc a0)]/\ret=eq (.bool r)
def qo (X:As) (g:aZ->Option Bool):VP:=fnx prog X (pF g)
def WS.O (p:OV) (m:WS):As:=tF (γ:=Nat×OV×OV) (λg=>p.1 = .pointer (some ⟨g.1,0,none⟩)) (λg=>[ar g.1 72 [eq g.2.1.1,eq (.string m.fR.eZ),eq (.int .i64 m.fR.bK),eq (.int .i64 m.fR.aS),sl bq.K m.fR.fV.fD,sl MK.K m.fR.fM.fL,eq (.int .i64 m.fR.fM.fP.bW),sl ak.K m.fR.fM.fP.fL,eq (.int .i64 m.fR.fM.fP.bS),sl ak.K m.fR.fT.fL,sl dS m.fR.fT.cK,sl ak.K m.fR.fP.fL,sl (aP .i64) m.fR.fP.cK,sl mu.K m.fR.fL,eq (.int .i64 m.fR.dL),sl iX.K m.fR.fQ,sl iY.K m.fR.fF,eq g.2.2.1,eq (.int .i64 m.fN)],bY.O g.2.1 m.fS,own Event.K g.2.2.1 m.fE])
theorem WS.nn {p:OV} {m:WS}:NN (WS.O p m) p.1:=by unfold WS.O;exact oR (γ:=Nat×OV×OV) (b:=λg=>g.1)
theorem WS.eF {l:List As} {p:OV} {m:WS} (j:Nat) (hj:l[j]? = some (WS.O p m)):∀ R w,St R l w->∃ g:Nat×OV×OV,p.1 = .pointer (some ⟨g.1,0,none⟩)/\St R ([ar g.1 72 [eq g.2.1.1,eq (.string m.fR.eZ),eq (.int .i64 m.fR.bK),eq (.int .i64 m.fR.aS),sl bq.K m.fR.fV.fD,sl MK.K m.fR.fM.fL,eq (.int .i64 m.fR.fM.fP.bW),sl ak.K m.fR.fM.fP.fL,eq (.int .i64 m.fR.fM.fP.bS),sl ak.K m.fR.fT.fL,sl dS m.fR.fT.cK,sl ak.K m.fR.fP.fL,sl (aP .i64) m.fR.fP.cK,sl mu.K m.fR.fL,eq (.int .i64 m.fR.dL),sl iX.K m.fR.fQ,sl iY.K m.fR.fF,eq g.2.2.1,eq (.int .i64 m.fN)],bY.O g.2.1 m.fS,own Event.K g.2.2.1 m.fE]++l.eraseIdx j) w:=iO j hj
theorem WS.shut {l r:List As} {p:OV} {m:WS} (g:Nat×OV×OV) (hg:p.1 = .pointer (some ⟨g.1,0,none⟩)) (hp:l.Perm ([ar g.1 72 [eq g.2.1.1,eq (.string m.fR.eZ),eq (.int .i64 m.fR.bK),eq (.int .i64 m.fR.aS),sl bq.K m.fR.fV.fD,sl MK.K m.fR.fM.fL,eq (.int .i64 m.fR.fM.fP.bW),sl ak.K m.fR.fM.fP.fL,eq (.int .i64 m.fR.fM.fP.bS),sl ak.K m.fR.fT.fL,sl dS m.fR.fT.cK,sl ak.K m.fR.fP.fL,sl (aP .i64) m.fR.fP.cK,sl mu.K m.fR.fL,eq (.int .i64 m.fR.dL),sl iX.K m.fR.fQ,sl iY.K m.fR.fF,eq g.2.2.1,eq (.int .i64 m.fN)],bY.O g.2.1 m.fS,own Event.K g.2.2.1 m.fE]++r)):∀ R w,St R l w->∃ _:Unit,True/\St R (WS.O p m::r) w:=ie _ _ g hg hp
def qv (g:dW->Option Bool):List VP->VP->Prop:=λvs ret=>∃ a0 r,g a0=some r/\vs=[agg (dW.enc a0)]/\ret=eq (.bool r)
def nH (g:dW->Option Bool):VP:=Fa prog (qv g)
def jR.f (a0:Int):Option (Bool):=cond (decide (97<=a0)) (cond (decide (a0<=122)) (some true) (cond (decide (48<=a0)) (some (decide (a0<=57))) (some false))) (cond (decide (48<=a0)) (some (decide (a0<=57))) (some false))
def dU.f (a0:BA) (a1:Int):Option (Int):=some (kV a0 a1)
def jJ.f (a0:BA) (a1:Int):Option (Int):=(dU.f a0 a1).bind λt7=>some t7
def eU.f (a0:Int) (c0:BA):Option (Bool):=(jR.f a0).bind λt9=>cond t9 (some true) ((jJ.f c0 a0).bind λt12=>some (decide (0<=t12)))
def kz.f (a0:BA):Option ((Int->Option Bool)):=some (λa0_=>eU.f a0_ a0)
def name_may.l0 (k:Nat) (a0:BA) (a1:Int) (t15:(Int->Option Bool)) (t17:(Int->Option Bool)) (t19:(Int->Option Bool)):Nat->Int->Option ((Int×Bool) ⊕ (Bool))
 | 0,_=>none
 | j30+1,x24=>cond (decide (x24<(a0.size:Int))) (aF (iB x24 a0.size) (((o5.at ([t15,t17,t19]:List (Int->Option Bool)) a1) (bt a0 x24)).bind λt27=>cond (!t27) (some (.inr false)) (name_may.l0 k a0 a1 t15 t17 t19 j30 (aE (x24+1))))) (some (.inl (x24,decide (x24<(a0.size:Int)))))
def name_may.f (k:Nat) (a0:BA) (a1:Int):Option (Bool):=(kz.f (⟨#[46,45,95]⟩:BA)).bind λt15=>(kz.f (⟨#[46,45]⟩:BA)).bind λt17=>(kz.f (⟨#[45,95,65,66,67,68,69,70,71,72,73,74,75,76,77,78,79,80,81,82,83,84,85,86,87,88,89,90]⟩:BA)).bind λt19=>aF ((0:Int)<=a1/\a1<(3:Int)) ((name_may.l0 k a0 a1 t15 t17 t19 k 0).bind (fall λp22=>cond (!decide (a0=eE)) (some (decide ((a0.size:Int)<=16))) (some false)))
def ew.f (k:Nat) (a0:BA):Option (Bool):=(name_may.f k a0 1).bind λt32=>cond t32 (aF (iB 0 a0.size) ((jR.f (bt a0 0)).bind λt36=>cond t36 (aF (iB (aE ((a0.size:Int)-1)) a0.size) ((jR.f (bt a0 (aE ((a0.size:Int)-1)))).bind λt40=>some t40)) (some false))) (some false)
def kP.f (a0:Int) (a1:Int):Option ((Option bI)×Int):=cond (decide (a1<1)) (some (none,1)) (cond (decide (1099511627776<a1)) (some (none,1)) (cond (decide (a0<0)) (some (none,1)) (cond (decide (a1<a0)) (some (none,1)) (some (some (⟨(⟨a0⟩:Aa),a1⟩:bI),0)))))
def q6.f (a0:Int) (a1:Int):Option ((Option bE)×Int):=(kP.f a0 a1).bind λt50=>cond (t50.2 != 0) (some (none,t50.2)) (aF (t50.1.isSome=true) (some (some (⟨t50.1.getD default,([]:List BA),([]:List (BA×Int))⟩:bE),0)))
def rM.f (a0:Int):Option ((Option iv)×Int):=cond (decide (a0<1)) (some (none,1)) (cond (decide (1000<a0)) (some (none,1)) (some (some (⟨a0,([]:List ak),0⟩:iv),0)))
def mj.f:Option (gP):=some (⟨([]:List (aM×Pos))⟩:gP)
def rl.f (a0:Int):Option ((Option dE)×Int):=(rM.f a0).bind λt63=>cond (t63.2 != 0) (some (none,t63.2)) ((mj.f).bind λt67=>aF (t63.1.isSome=true) (some (some (⟨t67,t63.1.getD default⟩:dE),0)))
def l7.f (a0:Int):Option ((Option Seen)×Int):=cond (decide (a0<1)) (some (none,1)) (cond (decide (1000<a0)) (some (none,1)) (some (some (⟨a0,([]:List (BA×(List Int)))⟩:Seen),0)))
def rU.f:Option (au):=some (⟨([]:List (BA×bM))⟩:au)
def pO.f:Option (bO):=some (⟨([]:List kC),([]:List (BA×Int))⟩:bO)
def p8.f:Option (bG):=(pO.f).bind λt81=>some (⟨([]:List ak),t81⟩:bG)
def oo.f:Option (bJ):=(pO.f).bind λt85=>some (⟨([]:List ak),t85⟩:bJ)
def l8.f (k:Nat) (a0:BA) (a1:Int) (a2:Int):Option ((Option bY)×Int):=(ew.f k a0).bind λt89=>cond (!t89) (some (none,1)) ((kP.f a1 1099511627776).bind λt92=>cond (t92.2 != 0) (some (none,t92.2)) ((q6.f a2 1099511627776).bind λt96=>cond (t96.2 != 0) (some (none,t96.2)) ((kP.f 0 1099511627776).bind λta=>(rl.f 8).bind λtc=>(l7.f 32).bind λte=>(rU.f).bind λtg=>(p8.f).bind λtj=>(oo.f).bind λtm=>aF (tc.1.isSome=true) (aF (t96.1.isSome=true) (aF (t92.1.isSome=true) (aF (ta.1.isSome=true) (aF (te.1.isSome=true) (some (some (⟨a0,t92.1.getD default,ta.1.getD default,(⟨tg,tc.1.getD default,tj,tm,t96.1.getD default⟩:Src),te.1.getD default,([]:List (BA×aO))⟩:bY),0)))))))))
def nw.f (a0:Int):Option (Bool):=cond (decide (97<=a0)) (cond (decide (a0<=122)) (some true) (cond (decide (48<=a0)) (some (decide (a0<=57))) (some false))) (cond (decide (48<=a0)) (some (decide (a0<=57))) (some false))
def dM.l0 (k:Nat) (a0:BA):Nat->Int->Option ((Int×Bool) ⊕ (Bool))
 | 0,_=>none
 | ja+1,xa=>cond (decide (xa<(a0.size:Int))) (aF (iB xa a0.size) ((nw.f (bt a0 xa)).bind λta=>cond (decide (0<xa)) (cond (decide (xa<(aE ((a0.size:Int)-1)))) (aF (iB xa a0.size) (cond ((bt a0 xa)==46) (cond (!ta) (dM.l0 k a0 ja (aE (xa+1))) (dM.l0 k a0 ja (aE (xa+1)))) (aF (iB xa a0.size) (cond (!ta) (cond (!((bt a0 xa)==45)) (some (.inr false)) (dM.l0 k a0 ja (aE (xa+1)))) (dM.l0 k a0 ja (aE (xa+1))))))) (cond (!ta) (some (.inr false)) (dM.l0 k a0 ja (aE (xa+1))))) (cond (!ta) (some (.inr false)) (dM.l0 k a0 ja (aE (xa+1)))))) (some (.inl (xa,decide (xa<(a0.size:Int)))))
def dM.f (k:Nat) (a0:BA):Option (Bool):=(dM.l0 k a0 k 0).bind (fall λpa=>cond (decide (0<(a0.size:Int))) (some (decide ((a0.size:Int)<17))) (some false))
def dH.f (a0:bI):Option (Int):=some a0.fn.fv
def gY.f (a0:bY):Option (Int):=(dH.f a0.aG).bind λta=>some ta
def eJ.f (m:bI):Option Int:=dH.f m
def jE.f (a0:cF):Option (Int):=some (a0.bA.length:Int)
def en.f (a0:aO):Option (Bool):=cond a0.fair.isNone ((jE.f a0.bC).bind λta=>some (ta==0)) (some false)
def jl.f (a0:bY):Option (Bool):=allO (λe:BA×aO=>en.f e.2) a0.aa
def uI.f (a0:BA):Option (bM):=some (⟨a0,([]:List (BA×bp))⟩:bM)
def aV.f (a0:au) (a1:BA):Option bM:=cond (mget a0.b9 a1).isSome (some ((mget a0.b9 a1).getD default)) (uI.f a1)
def iA.f (a0:BA) (a1:BA):Option (Int):=cond ((a1.size:Int)==0) (some 0) (cond (decide (a1=a0)) (some 0) (cond ((a1.size:Int)==1) (aF (iB 0 a1.size) ((dU.f a0 (bt a1 0)).bind λta=>some ta)) (cond (decide ((a0.size:Int)<=(a1.size:Int))) (some (-1)) (none))))
def kI.f (a0:BA) (a1:BA):Option (BA×BA×Bool):=(iA.f a0 a1).bind λta=>cond (decide (0<=ta)) (aF ((0:Int)<=ta/\0<=ta.toNat/\ta.toNat<=a0.size) (aF ((0:Int)<=(aE (ta+(a1.size:Int)))/\(aE (ta+(a1.size:Int))).toNat<=a0.size/\a0.size<=a0.size) (some (a0.extract 0 ta.toNat,a0.extract (aE (ta+(a1.size:Int))).toNat a0.size,true)))) (some (a0,eE,false))
def gL.f (a0:BA) (a1:BA):Option (BA×BA×Bool):=(kI.f a0 a1).bind λta=>some (ta.1,ta.2.1,ta.2.2)
def gS.f (a0:BA) (a1:BA):Option (Bool):=cond (decide ((a1.size:Int)<=(a0.size:Int))) (aF ((0:Int)<=(a1.size:Int)/\0<=(a1.size:Int).toNat/\(a1.size:Int).toNat<=a0.size) (some (decide ((a0.extract 0 ((a1.size:Int).toNat))=a1)))) (some false)
def gU.f (a0:BA) (a1:BA):Option (BA×Bool):=(gS.f a0 a1).bind λta=>cond (!ta) (some (a0,false)) (aF ((0:Int)<=(a1.size:Int)/\(a1.size:Int).toNat<=a0.size/\a0.size<=a0.size) (some (a0.extract (a1.size:Int).toNat a0.size,true)))
def fc.f (a0:BA) (a1:BA):Option (BA×Bool):=(gU.f a0 a1).bind λta=>some (ta.1,ta.2)
def lB.f (k:Nat) (a0:BA) (a1:BA):Option (BA×BA×Bool):=(fc.f a0 a1).bind λta=>(gL.f ta.1 (⟨#[58]⟩:BA)).bind λtc=>cond ta.2 (cond tc.2.2 ((name_may.f k tc.1 0).bind λte=>cond te ((ew.f k tc.2.1).bind λtg=>some (tc.1,tc.2.1,tg)) (some (tc.1,tc.2.1,false))) (some (tc.1,tc.2.1,false))) (some (tc.1,tc.2.1,false))
def lK.f (k:Nat) (a0:BA):Option (Bool):=(lB.f k a0 (⟨#[64]⟩:BA)).bind λta=>some ta.2.2
def j5.f (k:Nat) (a0:BA):Option (Bool):=(lB.f k a0 (⟨#[33]⟩:BA)).bind λta=>some ta.2.2
def eW.f (k:Nat) (a0:BA):Option (Bool):=(fc.f a0 (⟨#[36]⟩:BA)).bind λta=>cond ta.2 ((name_may.f k ta.1 2).bind λtc=>some tc) (some false)
def eh.l0 (k:Nat) (a0:Event):Nat->Int->Option (Bool×Int×Bool)
 | 0,_=>none
 | ja+1,xa=>cond (decide (xa<(a0.ag.length:Int))) (aF (iB xa a0.ag.length) ((eW.f k (az.at a0.ag xa)).bind λta=>cond (!ta) (some (false,xa,decide (xa<(a0.ag.length:Int)))) (cond (decide ((az.at a0.ag xa)=a0.cC)) (some (false,xa,decide (xa<(a0.ag.length:Int)))) (cond (decide (0<xa)) (aF (iB (aE (xa-1)) a0.ag.length) (cond (!il (az.at a0.ag (aE (xa-1))) (az.at a0.ag xa)) (some (false,xa,decide (xa<(a0.ag.length:Int)))) (eh.l0 k a0 ja (aE (xa+1))))) (eh.l0 k a0 ja (aE (xa+1))))))) (some (true,xa,decide (xa<(a0.ag.length:Int))))
def eh.l1 (k:Nat) (a0:Event):Nat->Int->Option (Bool×Int×Bool)
 | 0,_=>none
 | ja+1,xa=>cond (decide (xa<(a0.ag.length:Int))) (aF (iB xa a0.ag.length) ((eW.f k (az.at a0.ag xa)).bind λta=>cond (!ta) (some (false,xa,decide (xa<(a0.ag.length:Int)))) (cond (decide ((az.at a0.ag xa)=a0.cC)) (some (false,xa,decide (xa<(a0.ag.length:Int)))) (cond (decide (0<xa)) (aF (iB (aE (xa-1)) a0.ag.length) (cond (!il (az.at a0.ag (aE (xa-1))) (az.at a0.ag xa)) (some (false,xa,decide (xa<(a0.ag.length:Int)))) (eh.l1 k a0 ja (aE (xa+1))))) (eh.l1 k a0 ja (aE (xa+1))))))) (some (true,xa,decide (xa<(a0.ag.length:Int))))
def eh.f (k:Nat) (a0:Event):Option (Bool):=(eW.f k a0.cC).bind λta=>cond (!ta) (some false) ((j5.f k a0.aj).bind λtc=>cond (!tc) (some false) ((lK.f k a0.aC).bind λte=>cond (!te) (some false) (cond (decide (4<(a0.ag.length:Int))) (some false) (cond (decide (a0.cW<0)) (some false) (cond (decide (2<a0.cW)) (some false) (cond (!decide (a0.ah=eE)) ((eW.f k a0.ah).bind λtg=>cond (!tg) (some false) (cond (decide (a0.ah=a0.cC)) (some false) (cond (a0.cW != 0) (some false) ((eh.l0 k a0 k 0).bind λpa=>some pa.1)))) ((eh.l1 k a0 k 0).bind λpc=>some pc.1)))))))
def fa.f (a0:bM) (a1:BA):Option (Bool):=some (!(mget a0.aw a1).isNone)
def bB.l0 (k:Nat) (a0:List BA) (a1:(BA->Option Bool)):Nat->Int->Option ((Int×Bool) ⊕ (Int))
 | 0,_=>none
 | ja+1,xa=>cond (decide (xa<(a0.length:Int))) (aF (iB xa a0.length) ((a1 (az.at a0 xa)).bind λta=>cond ta (some (.inr xa)) (bB.l0 k a0 a1 ja (aE (xa+1))))) (some (.inl (xa,decide (xa<(a0.length:Int)))))
def bB.f (k:Nat) (a0:List BA) (a1:(BA->Option Bool)):Option (Int):=(bB.l0 k a0 a1 k 0).bind (fall λpa=>some (-1))
def aX.l0 (k:Nat) (a0:List BA) (a1:(BA->Option Bool)):Nat->Int->Option ((Int×Bool) ⊕ (Int))
 | 0,_=>none
 | ja+1,xa=>cond (decide (xa<(a0.length:Int))) (aF (iB xa a0.length) ((a1 (a0.getD xa.toNat default)).bind λta=>cond ta (some (.inr xa)) (aX.l0 k a0 a1 ja (aE (xa+1))))) (some (.inl (xa,decide (xa<(a0.length:Int)))))
def aX.f (k:Nat) (a0:List BA) (a1:(BA->Option Bool)):Option (Int):=(aX.l0 k a0 a1 k 0).bind (fall λpa=>some (-1))
def di.f (k:Nat) (a0:List BA) (a1:(BA->Option Bool)):Option (Bool):=(bB.f k a0 a1).bind λta=>some (decide (0<=ta))
def gA.f (a0:BA) (c0:bM):Option (Bool):=(fa.f c0 a0).bind λta=>some (!ta)
def ey.f (xs:List BA):Option (List BA):=aF (cB xs.length 16) (some xs)
def jF.f (a0:Event):Option (Event):=(ey.f a0.ag).bind λta=>some (⟨a0.cC,a0.aj,ta,a0.ah,a0.aC,a0.cW⟩:Event)
def dag_Dag_Add.l0 (k:Nat) (a1:Event):Nat->Int->Int->bM->Option (Int×Bool×Int×bM)
 | 0,_,_,_=>none
 | ja+1,xa,xb,xc=>cond (decide (xa<(a1.ag.length:Int))) (aF (iB xa a1.ag.length) (aF ((mget xc.aw (az.at a1.ag xa)).isSome=true) (dag_Dag_Add.l0 k a1 ja (aE (xa+1)) (max xb (aE ((((mget xc.aw (az.at a1.ag xa)).getD default).dx)+1))) (⟨xc.cP,mput xc.aw (az.at a1.ag xa) (⟨((mget xc.aw (az.at a1.ag xa)).getD default).fe,((mget xc.aw (az.at a1.ag xa)).getD default).dx,true⟩:bp)⟩:bM)))) (some (xa,decide (xa<(a1.ag.length:Int)),xb,xc))
def dag_Dag_Add.f (k:Nat) (a0:bM) (a1:Event):Option (Int×bM):=(eh.f k a1).bind λta=>cond (!ta) (some (1,a0)) (cond (!decide (a1.aj=a0.cP)) (some (1,a0)) ((fa.f a0 a1.cC).bind λtc=>cond tc (some (9,a0)) ((di.f k a1.ag (λa0_=>gA.f a0_ a0)).bind λte=>cond te (some (4,a0)) ((cond (!decide (a1.ah=eE)) (cond ((mget a0.aw a1.ah).isNone) (some (.inr (4,a0))) (aF ((mget a0.aw a1.ah).isSome=true) (cond (!decide (((((mget a0.aw a1.ah).getD default).fe).ah)=eE)) (some (.inr (7,a0))) (cond (((((mget a0.aw a1.ah).getD default).fe).cW) != 0) (some (.inr (7,a0))) (some (.inl ())))))) (some (.inl ()))).bind (fall λpa=>(jF.f a1).bind λtg=>(dag_Dag_Add.l0 k a1 k 0 0 a0).bind λpc=>some (0,(⟨pc.2.2.2.cP,mput pc.2.2.2.aw a1.cC (⟨tg,pc.2.2.1,false⟩:bp)⟩:bM)))))))
def iU.f (k:Nat) (a0:au) (a1:Event):Option (Int×au):=(aV.f a0 a1.aj).bind λta=>(dag_Dag_Add.f k ta a1).bind λtc=>cond (tc.1 != 0) (some (tc.1,(⟨wx a0.b9 a1.aj tc.2⟩:au))) (some (0,(⟨mput a0.b9 a1.aj tc.2⟩:au)))
def iZ.f (a0:bM) (a1:BA):Option (Pos×Bool):=(fa.f a0 a1).bind λta=>cond (!ta) (some ((⟨0,eE⟩:Pos),false)) (aF ((mget a0.aw a1).isSome=true) (some ((⟨((mget a0.aw a1).getD default).dx,a1⟩:Pos),true)))
def dN.f (a0:au) (a1:BA) (a2:BA):Option (Pos×Bool):=(aV.f a0 a1).bind λta=>(iZ.f ta a2).bind λtc=>some (tc.1,tc.2)
def fi.f (a0:ak):Option (aM):=some (⟨a0.aj,a0.aC,a0.ah,a0.ay⟩:aM)
def dp.f (a0:Int) (a1:Int) (a2:Int):Option (Bool):=cond (decide (a1<=a0)) (some (decide (a0<=a2))) (some false)
def jS.f (a0:ak):Option (Bool):=some false
def mh.f (k:Nat) (a0:BA):Option (Bool):=cond (decide (a0=eE)) (some true) (cond (decide (a0=(⟨#[109,97,105,110]⟩:BA))) (some true) ((eW.f k a0).bind λta=>some ta))
def iJ.f (k:Nat) (a0:ak):Option (Bool):=(j5.f k a0.aj).bind λta=>cond ta ((eW.f k a0.bP).bind λtc=>cond tc ((mh.f k a0.ah).bind λte=>some te) (some false)) (some false)
def gW.f (k:Nat) (a0:ak) (c0:Int->Int->Int->Option Bool):Option (Bool):=(j5.f k a0.aj).bind λta=>cond ta (cond (!a0.lO) (some true) ((c0 a0.cX 1 60).bind λtc=>some tc)) (some false)
def gZ.f (a0:ak) (c0:Int->Int->Int->Option Bool):Option (Bool):=(c0 a0.bU 0 2).bind λta=>some ta
def oJ.f (k:Nat):Option ((List (ak->Option Bool))):=some ([jS.f,iJ.f k,λa0_=>gW.f k a0_ dp.f,λa0_=>gZ.f a0_ dp.f]:List (ak->Option Bool))
def jO.f (a0:Int):Option (Bool):=cond (decide (0<=a0)) (some (decide (a0<=1099511627776))) (some false)
def ni.f (a0:ak):Option (ak):=cond (a0.bf==1) (some (⟨a0.bf,a0.aj,a0.aC,a0.bP,a0.ah,a0.ay,false,0,0,a0.bK,a0.aS⟩:ak)) (cond (a0.bf==2) (cond a0.lO (some (⟨a0.bf,a0.aj,a0.aC,eE,eE,false,a0.lO,a0.cX,0,a0.bK,a0.aS⟩:ak)) (some (⟨a0.bf,a0.aj,a0.aC,eE,eE,false,a0.lO,0,0,a0.bK,a0.aS⟩:ak))) (cond (a0.bf==3) (some (⟨a0.bf,eE,a0.aC,eE,eE,false,false,0,a0.bU,a0.bK,a0.aS⟩:ak)) (some (⟨a0.bf,eE,a0.aC,eE,eE,false,false,0,0,a0.bK,a0.aS⟩:ak))))
def eG.f (k:Nat) (a0:ak):Option (Bool):=cond (decide (a0.bf<0)) (some false) (cond (decide (3<a0.bf)) (some false) ((oJ.f k).bind λta=>aF (iB a0.bf ta.length) (((jD.at ta a0.bf) a0).bind λtc=>cond (!tc) (some false) ((ni.f a0).bind λte=>cond (decide (a0=te)) ((lK.f k a0.aC).bind λtg=>cond tg ((jO.f a0.bK).bind λtj=>cond tj ((jO.f a0.aS).bind λtm=>some tm) (some false)) (some false)) (some false)))))
def lT.f (a0:bM) (a1:BA):Option (Event×Bool):=(fa.f a0 a1).bind λta=>cond (!ta) (some ((⟨eE,eE,([]:List BA),eE,eE,0⟩:Event),false)) (aF ((mget a0.aw a1).isSome=true) ((jF.f (((mget a0.aw a1).getD default).fe)).bind λtc=>some (tc,true)))
def eK.f (a0:au) (a1:BA) (a2:BA) (a3:BA):Option (Int):=(aV.f a0 a1).bind λta=>(lT.f ta a2).bind λtc=>cond (!tc.2) (some 4) (cond (decide (a3=eE)) (cond (decide (a3=eE)) (some 0) (some 7)) (cond (decide (a3=(⟨#[109,97,105,110]⟩:BA))) (cond (decide (tc.1.ah=eE)) (cond (decide (tc.1.ah=eE)) (some 0) (some 7)) (cond (decide (a3=a2)) (cond (decide (a3=a2)) (some 0) (some 7)) (cond (decide (a3=tc.1.ah)) (some 0) (some 7)))) (cond (decide (a3=a2)) (cond (decide (a3=a2)) (some 0) (some 7)) (cond (decide (a3=tc.1.ah)) (some 0) (some 7)))))
def eQ.l0 (k:Nat) (a0:List ak) (a1:ak):Nat->Int->Option ((Int×Bool) ⊕ (Int))
 | 0,_=>none
 | ja+1,xa=>cond (decide (xa<(a0.length:Int))) (aF (iB xa a0.length) (cond (decide (a1=ak.K.at a0 xa)) (some (.inr xa)) (eQ.l0 k a0 a1 ja (aE (xa+1))))) (some (.inl (xa,decide (xa<(a0.length:Int)))))
def eQ.f (k:Nat) (a0:List ak) (a1:ak):Option (Int):=(eQ.l0 k a0 a1 k 0).bind (fall λpa=>some (-1))
def jZ.f (k:Nat) (a0:List ak) (a1:ak):Option (Bool):=(eQ.f k a0 a1).bind λta=>some (decide (0<=ta))
def jL.f (xs:List ak) (i j:Int):Option (List ak):=aF ((0:Int)<=i/\i<=j/\j<=(xs.length:Int)) (some (xs.take i.toNat++xs.drop j.toNat))
def nC.f (k:Nat) (a0:iv) (a1:ak):Option (ak×Bool×iv):=(jZ.f k a0.fl a1).bind λta=>cond ta (some ((⟨0,eE,eE,eE,eE,false,false,0,0,0,0⟩:ak),false,a0)) (aF (cB (a0.fl.length+([a1]:List ak).length) 112) (cond (decide (((a0.fl++([a1]:List ak)).length:Int)<=a0.bw)) (some ((⟨0,eE,eE,eE,eE,false,false,0,0,0,0⟩:ak),false,(⟨a0.bw,a0.fl++([a1]:List ak),a0.da⟩:iv))) (aF (iB 0 ((a0.fl++([a1]:List ak)).length)) ((jL.f (a0.fl++([a1]:List ak)) 0 1).bind λtc=>some ((a0.fl++([a1]:List ak)).getD ((0:Int).toNat) default,true,(⟨a0.bw,tc,aE (a0.da+1)⟩:iv))))))
def b8.l0 (k:Nat) (a0:List Int):Nat->Int->Option ((Int×Bool) ⊕ (Int))
 | 0,_=>none
 | ja+1,xa=>cond (decide (xa<(a0.length:Int))) (aF (iB xa a0.length) (cond (((aP .i64).at a0 xa) != 0) (some (.inr ((aP .i64).at a0 xa))) (b8.l0 k a0 ja (aE (xa+1))))) (some (.inl (xa,decide (xa<(a0.length:Int)))))
def b8.f (k:Nat) (a0:List Int):Option (Int):=(b8.l0 k a0 k 0).bind (fall λpa=>some 0)
def cmp_isNaN_string.f (a0:BA):Option (Bool):=some (!decide (a0=a0))
def bu.f (a0:BA) (a1:BA):Option (Int):=(cmp_isNaN_string.f a0).bind λta=>(cmp_isNaN_string.f a1).bind λtc=>cond ta (cond tc (some 0) (some (-1))) (cond tc (some 1) (cond (il a0 a1) (some (-1)) (cond (il a1 a0) (some 1) (some 0))))
def cmp_isNaN_int.f (a0:Int):Option (Bool):=some (a0 != a0)
def dj.f (a0:Int) (a1:Int):Option (Int):=(cmp_isNaN_int.f a0).bind λta=>(cmp_isNaN_int.f a1).bind λtc=>cond ta (cond tc (some 0) (some (-1))) (cond tc (some 1) (cond (decide (a0<a1)) (some (-1)) (cond (decide (a1<a0)) (some 1) (some 0))))
def jN.f (k:Nat) (a0:Pos) (a1:Pos):Option (Int):=(dj.f a0.br a1.br).bind λta=>(bu.f a0.cC a1.cC).bind λtc=>(b8.f k ([ta,tc]:List Int)).bind λte=>some te
def cM.f (k:Nat) (a0:gP) (a1:aM) (a2:Pos):Option (Bool×gP):=cond ((mget a0.dA a1).isSome) ((jN.f k ((mget a0.dA a1).getD (⟨0,eE⟩:Pos)) a2).bind λta=>cond (decide (0<=ta)) (some (false,a0)) (some (true,(⟨mput a0.dA a1 a2⟩:gP)))) (some (true,(⟨mput a0.dA a1 a2⟩:gP)))
def iI.f (k:Nat) (a0:dE) (a1:au) (a2:ak):Option (Bool×Int×dE):=cond (a2.bf != 1) (some (false,1,a0)) ((eG.f k a2).bind λta=>cond (!ta) (some (false,1,a0)) ((eK.f a1 a2.aj a2.bP a2.ah).bind λtc=>cond (tc==4) ((nC.f k a0.oG a2).bind λte=>some (false,0,(⟨a0.j2,te.2.2⟩:dE))) (cond (tc==0) ((dN.f a1 a2.aj a2.bP).bind λtg=>(fi.f a2).bind λtj=>(cM.f k a0.j2 tj tg.1).bind λtm=>some (tm.1,0,(⟨tm.2,a0.oG⟩:dE))) (some (false,tc,a0)))))
def park_apart_Edu.l0 (k:Nat) (a0:List ak) (a1:ak->Option Bool):Nat->Int->List ak->List ak->Option (Int×Bool×(List ak)×(List ak))
 | 0,_,_,_=>none
 | ja+1,xa,xb,xc=>cond (decide (xa<(a0.length:Int))) (aF (iB xa a0.length) ((a1 (ak.K.at a0 xa)).bind λta=>cond ta (aF (cB (xb.length+([ak.K.at a0 xa]:List ak).length) 112) (park_apart_Edu.l0 k a0 a1 ja (aE (xa+1)) (xb++([ak.K.at a0 xa]:List ak)) xc)) (aF (cB (xc.length+([ak.K.at a0 xa]:List ak).length) 112) (park_apart_Edu.l0 k a0 a1 ja (aE (xa+1)) xb (xc++([ak.K.at a0 xa]:List ak)))))) (some (xa,decide (xa<(a0.length:Int)),xb,xc))
def park_apart_Edu.f (k:Nat) (a0:List ak) (a1:ak->Option Bool):Option ((List ak)×(List ak)):=(park_apart_Edu.l0 k a0 a1 k 0 ([]:List ak) ([]:List ak)).bind λpa=>some (pa.2.2.1,pa.2.2.2)
def j4.f (a0:ak) (c0:BA) (c1:BA):Option (Bool):=cond (decide (a0.aj=c0)) (some (decide (a0.bP=c1))) (some false)
def mI.f (k:Nat) (a0:iv) (a1:BA) (a2:BA):Option ((List ak)×iv):=(park_apart_Edu.f k a0.fl (λa0_=>j4.f a0_ a1 a2)).bind λta=>some (ta.1,(⟨a0.bw,ta.2,a0.da⟩:iv))
def eP.l0 (k:Nat) (a0:List aM) (a1:aM):Nat->Int->Option ((Int×Bool) ⊕ (Int))
 | 0,_=>none
 | ja+1,xa=>cond (decide (xa<(a0.length:Int))) (aF (iB xa a0.length) (cond (decide (a1=aM.K.at a0 xa)) (some (.inr xa)) (eP.l0 k a0 a1 ja (aE (xa+1))))) (some (.inl (xa,decide (xa<(a0.length:Int)))))
def eP.f (k:Nat) (a0:List aM) (a1:aM):Option (Int):=(eP.l0 k a0 a1 k 0).bind (fall λpa=>some (-1))
def jY.f (k:Nat) (a0:List aM) (a1:aM):Option (Bool):=(eP.f k a0 a1).bind λta=>some (decide (0<=ta))
def marks_Marks_Arrive.l0 (k:Nat) (a1:au) (ta:(List ak)×iv):Nat->Int->dE->List aM->Option (Int×Int×Bool×dE×(List aM)×(List ak))
 | 0,_,_,_=>none
 | ja+1,xa,xb,xc=>cond (decide (xa<(ta.1.length:Int))) (aF (iB xa ta.1.length) ((iI.f k xb a1 (ta.1.getD xa.toNat default)).bind λtc=>cond tc.1 ((fi.f (ta.1.getD xa.toNat default)).bind λte=>(jY.f k xc te).bind λtg=>cond (!tg) ((fi.f (ta.1.getD xa.toNat default)).bind λtj=>aF (cB (xc.length+([tj]:List aM).length) 56) (marks_Marks_Arrive.l0 k a1 ta ja (aE (xa+1)) tc.2.2 (xc++([tj]:List aM)))) (marks_Marks_Arrive.l0 k a1 ta ja (aE (xa+1)) tc.2.2 xc)) (marks_Marks_Arrive.l0 k a1 ta ja (aE (xa+1)) tc.2.2 xc))) (some ((ta.1.length:Int),xa,decide (xa<(ta.1.length:Int)),xb,xc,ta.1))
def marks_Marks_Arrive.f (k:Nat) (a0:dE) (a1:au) (a2:BA) (a3:BA):Option ((List aM)×dE):=(dN.f a1 a2 a3).bind λta=>cond (!ta.2) (some (([]:List aM),a0)) (((mI.f k a0.oG a2 a3).bind λtc=>marks_Marks_Arrive.l0 k a1 tc k 0 (⟨a0.j2,tc.2⟩:dE) ([]:List aM)).bind λpa=>some (pa.2.2.2.2.1,pa.2.2.2.1))
def clock_Counter_Add.l0 (k:Nat) (a0:bI) (a1:Int):Nat->Option (Int×Int×bI)
 | 0=>none
 | ja+1=>cond (decide (0<a1)) (cond (a0.fn.fv==a0.bw) (some (0,11,a0)) ((cond (decide (a1<(aE (a0.bw-a0.fn.fv)))) (some (aE (a0.fn.fv+a1))) (some a0.bw)).bind λpa=>cond (a1==0) (some (pa,0,a0)) (some (pa,0,(⟨(⟨pa⟩:Aa),a0.bw⟩:bI))))) ((cond (decide (a1<(aE (a0.bw-a0.fn.fv)))) (some (aE (a0.fn.fv+a1))) (some a0.bw)).bind λpc=>cond (a1==0) (some (pc,0,a0)) (some (pc,0,(⟨(⟨pc⟩:Aa),a0.bw⟩:bI))))
def clock_Counter_Add.f (k:Nat) (a0:bI) (a1:Int):Option (Int×Int×bI):=cond (decide (a1<0)) (some (0,1,a0)) (clock_Counter_Add.l0 k a0 a1 k)
def dy.f (k:Nat) (a0:bI):Option (Int×Int×bI):=(clock_Counter_Add.f k a0 1).bind λta=>some (ta.1,ta.2.1,ta.2.2)
def bR.l0 (k:Nat) (a0:List BA) (a1:BA):Nat->Int->Option ((Int×Bool) ⊕ (Int))
 | 0,_=>none
 | ja+1,xa=>cond (decide (xa<(a0.length:Int))) (aF (iB xa a0.length) (cond (decide (a1=(az.at a0 xa))) (some (.inr xa)) (bR.l0 k a0 a1 ja (aE (xa+1))))) (some (.inl (xa,decide (xa<(a0.length:Int)))))
def bR.f (k:Nat) (a0:List BA) (a1:BA):Option (Int):=(bR.l0 k a0 a1 k 0).bind (fall λpa=>some (-1))
def eI.f (xs:List BA) (i j:Int):Option (List BA):=aF ((0:Int)<=i/\i<=j/\j<=(xs.length:Int)) (some (xs.take i.toNat++xs.drop j.toNat))
def jA.f (k:Nat) (a0:bE) (a1:BA):Option (Int×Int×bE):=(dy.f k a0.dA).bind λta=>cond (ta.2.1 != 0) (some (0,ta.2.1,(⟨ta.2.2,a0.bA,a0.qw⟩:bE))) ((cond ((mget a0.qw a1).isSome) ((bR.f k a0.bA a1).bind λtc=>(eI.f a0.bA tc (aE (tc+1))).bind λte=>some (⟨ta.2.2,te,a0.qw⟩:bE)) (some (⟨ta.2.2,a0.bA,a0.qw⟩:bE))).bind λpa=>aF (cB (pa.bA.length+([a1]:List BA).length) 16) (some (ta.1,0,(⟨pa.dA,pa.bA++([a1]:List BA),mput pa.qw a1 ta.1⟩:bE))))
def dO.f (k:Nat) (a0:bY) (a1:BA):Option (bY):=(jA.f k a0.fall.bQ a1).bind λta=>some (⟨a0.av,a0.aG,a0.aq,(⟨a0.fall.aK,a0.fall.aA,a0.fall.ax,a0.fall.an,ta.2.2⟩:Src),a0.aI,a0.aa⟩:bY)
def strings_Join.f (xs:List BA) (sep:BA):Option BA:=aF (xs.length<=140737488355328/\(Lib.join (xs.map (·.data.toList)) sep.data.toList).length<=140737488355328) (some ⟨(Lib.join (xs.map (·.data.toList)) sep.data.toList).toArray⟩)
def jP.f (a0:aM):Option (BA):=cond a0.ay ((strings_Join.f ([(⟨#[109]⟩:BA),a0.aj,a0.aC,a0.ah,(⟨#[49]⟩:BA)]:List BA) (⟨#[32]⟩:BA)).bind λta=>some ta) ((strings_Join.f ([(⟨#[109]⟩:BA),a0.aj,a0.aC,a0.ah,(⟨#[48]⟩:BA)]:List BA) (⟨#[32]⟩:BA)).bind λtc=>some tc)
def server_Server_Event.l0 (k:Nat) (ta:(List aM)×dE):Nat->Int->bY->Option (Int×Int×Bool×bY×(List aM))
 | 0,_,_=>none
 | ja+1,xa,xb=>cond (decide (xa<(ta.1.length:Int))) (aF (iB xa ta.1.length) ((jP.f (ta.1.getD xa.toNat default)).bind λtc=>(dO.f k xb tc).bind λte=>server_Server_Event.l0 k ta ja (aE (xa+1)) te)) (some ((ta.1.length:Int),xa,decide (xa<(ta.1.length:Int)),xb,ta.1))
def server_Server_Event.f (k:Nat) (a0:bY) (a1:Event):Option (Int×bY):=(iU.f k a0.fall.aK a1).bind λta=>cond (ta.1 != 0) (some (ta.1,(⟨a0.av,a0.aG,a0.aq,(⟨ta.2,a0.fall.aA,a0.fall.ax,a0.fall.an,a0.fall.bQ⟩:Src),a0.aI,a0.aa⟩:bY))) (((marks_Marks_Arrive.f k a0.fall.aA ta.2 a1.aj a1.cC).bind λtc=>server_Server_Event.l0 k tc k 0 (⟨a0.av,a0.aG,a0.aq,(⟨ta.2,tc.2,a0.fall.ax,a0.fall.an,a0.fall.bQ⟩:Src),a0.aI,a0.aa⟩:bY)).bind λpa=>some (0,pa.2.2.2.1))
def jy (x y:Pos):Int:=if x.br<y.br then -1 else if y.br<x.br then 1 else nS x.cC y.cC
def er.f (xs:List Pos):Option (List Pos):=aF (xs.length<=1000000) (some (lW jy xs))
def o3.f (a0:bp):Option (Bool):=some true
def aT.g (e:BA×bp):Option Pos:=cond true (some ⟨e.2.dx,e.1⟩) none
def aT.f (a0:bM):Option (List BA):=aF (a0.aw.length<=1000000) (some ((lW jy (a0.aw.filterMap aT.g)).map (·.cC)))
def dag_Dag_All.l0 (k:Nat) (a0:bM) (ta:List BA):Nat->Int->List Event->Option (Int×Int×Bool×(List Event)×(List BA))
 | 0,_,_=>none
 | ja+1,xa,xb=>cond (decide (xa<(ta.length:Int))) (aF (iB xa ta.length) (aF ((mget a0.aw (ta.getD xa.toNat default)).isSome=true) ((jF.f (((mget a0.aw (ta.getD xa.toNat default)).getD default).fe)).bind λtc=>aF (cB (xb.length+([tc]:List Event).length) 96) (dag_Dag_All.l0 k a0 ta ja (aE (xa+1)) (xb++([tc]:List Event)))))) (some ((ta.length:Int),xa,decide (xa<(ta.length:Int)),xb,ta))
def dag_Dag_All.f (k:Nat) (a0:bM):Option ((List Event)):=((aT.f a0).bind λta=>dag_Dag_All.l0 k a0 ta k 0 ([]:List Event)).bind λpa=>some pa.2.2.2.1
def member_joined.l0 (k:Nat) (ta:(List Event)):Nat->Int->(List (BA×Int))->Option (Int×Int×Bool×(List (BA×Int))×(List Event))
 | 0,_,_=>none
 | ja+1,xa,xb=>cond (decide (xa<(ta.length:Int))) (aF (iB xa ta.length) (cond (((ta.getD xa.toNat default).cW)==1) (member_joined.l0 k ta ja (aE (xa+1)) (mput xb ((ta.getD xa.toNat default).aC) 1)) (cond (((ta.getD xa.toNat default).cW)==2) (member_joined.l0 k ta ja (aE (xa+1)) (jV xb ((ta.getD xa.toNat default).aC))) (member_joined.l0 k ta ja (aE (xa+1)) xb)))) (some ((ta.length:Int),xa,decide (xa<(ta.length:Int)),xb,ta))
def member_joined.f (k:Nat) (a0:bM):Option ((List (BA×Int))):=((dag_Dag_All.f k a0).bind λta=>member_joined.l0 k ta k 0 ([]:List (BA×Int))).bind λpa=>some pa.2.2.2.1
def kO.f (k:Nat) (a0:bM) (a1:BA):Option (Bool):=(member_joined.f k a0).bind λta=>some (decide (0<((mget ta a1).getD 0)))
def de.f (k:Nat) (a0:au) (a1:BA) (a2:BA):Option (Bool):=(aV.f a0 a1).bind λta=>(kO.f k ta a2).bind λtc=>some tc
def lI.f (k:Nat) (a0:BA):Option (BA):=(lK.f k a0).bind λta=>cond (!ta) ((j5.f k a0).bind λtc=>cond (!tc) (some eE) ((gL.f a0 (⟨#[58]⟩:BA)).bind λte=>some te.2.1)) ((gL.f a0 (⟨#[58]⟩:BA)).bind λtg=>some tg.2.1)
def slices_DeleteFunc_string_xo.l0 (k:Nat) (a1:(BA->Option Bool)):Nat->Int->Int->List BA->Option (Int×Int×Bool×(List BA))
 | 0,_,_,_=>none
 | ja+1,xa,xb,xc=>cond (decide (xb<(xc.length:Int))) (aF (iB xb xc.length) ((a1 (xc.getD xb.toNat default)).bind λta=>cond (!ta) (aF (iB xa xc.length) (slices_DeleteFunc_string_xo.l0 k a1 ja (aE (xa+1)) (aE (xb+1)) (xc.set xa.toNat (xc.getD xb.toNat default)))) (slices_DeleteFunc_string_xo.l0 k a1 ja xa (aE (xb+1)) xc))) (some (xa,xb,decide (xb<(xc.length:Int)),xc))
def slices_DeleteFunc_string_xo.f (k:Nat) (a0:List BA) (a1:(BA->Option Bool)):Option ((List BA)):=(aX.f k a0 a1).bind λta=>cond (ta==(-1)) (some a0) ((slices_DeleteFunc_string_xo.l0 k a1 k ta (aE (ta+1)) a0).bind λpa=>aF ((0:Int)<=pa.1/\pa.1.toNat<pa.2.2.2.length) (aF ((0:Int)<=pa.1/\0<=pa.1.toNat/\pa.1.toNat<=(pa.2.2.2.take pa.1.toNat++List.replicate (pa.2.2.2.length-pa.1.toNat) eE).length) (some (((pa.2.2.2.take pa.1.toNat++List.replicate (pa.2.2.2.length-pa.1.toNat) eE).take pa.1.toNat).drop 0))))
def slices_Sort_string.f (xs:List BA):Option (List BA):=aF (xs.length<4611686018427387904) (some (aY xs))
def kK.f (a0:au):Option (List BA):=aF (a0.b9.length<=1000000) (some (aY (a0.b9.map (·.1))))
def iM.f (k:Nat) (a0:BA) (c0:au) (c1:BA):Option (Bool):=(de.f k c0 a0 c1).bind λta=>some (!ta)
def gG.f (k:Nat) (a0:au) (a1:BA):Option ((List BA)):=(kK.f a0).bind λta=>(slices_DeleteFunc_string_xo.f k ta (λa0_=>iM.f k a0_ a0 a1)).bind λtc=>some tc
def eY.f (a0:gP) (a1:aM):Option (Pos×Bool):=some ((mget a0.dA a1).getD (⟨0,eE⟩:Pos),(mget a0.dA a1).isSome)
def ea.f (k:Nat) (a0:bY) (a1:ak):Option (Int):=(eK.f a0.fall.aK a1.aj a1.bP a1.ah).bind λta=>cond (ta != 0) (some ta) ((dN.f a0.fall.aK a1.aj a1.bP).bind λtc=>(mj.f).bind λte=>(fi.f a1).bind λtg=>(eY.f a0.fall.aA.j2 tg).bind λtj=>cond tj.2 ((fi.f a1).bind λtm=>(cM.f k te tm tj.1).bind λtn=>(fi.f a1).bind λtp=>(cM.f k tn.2 tp tc.1).bind λtq=>cond (!tq.1) (some 8) (some 0)) ((fi.f a1).bind λtu=>(cM.f k te tu tc.1).bind λtv=>cond (!tv.1) (some 8) (some 0)))
def eH.f (a0:bI):Option (Int):=some a0.bw
def j3.f (a0:bE):Option (Int):=(eH.f a0.dA).bind λta=>(dH.f a0.dA).bind λtc=>some (aE (ta-tc))
def ff.f (k:Nat) (a0:bY) (a1:ak):Option (Int):=((eG.f k a1).bind λta=>cond (!ta) (some (.inr 1)) ((lI.f k a1.aC).bind λtc=>cond (!decide (tc=a0.av)) (some (.inr 6)) (cond (a1.bf==3) ((gG.f k a0.fall.aK a1.aC).bind λte=>cond ((te.length:Int)==0) (cond ((te.length:Int)==0) (some (.inr 5)) (some (.inl (!ta,!decide (tc=a0.av),((te.length:Int)==0))))) (cond (a1.bf != 3) ((de.f k a0.fall.aK a1.aj a1.aC).bind λtg=>cond (!tg) (some (.inr 5)) (some (.inl (!ta,!decide (tc=a0.av),!tg)))) (some (.inl (!ta,!decide (tc=a0.av),false))))) (cond (a1.bf != 3) ((de.f k a0.fall.aK a1.aj a1.aC).bind λtj=>cond (!tj) (some (.inr 5)) (some (.inl (!ta,!decide (tc=a0.av),!tj)))) (some (.inl (!ta,!decide (tc=a0.av),false))))))).bind (fall λpa=>(cond (a1.bf==1) ((ea.f k a0 a1).bind λtm=>cond (tm != 0) (some (.inr tm)) (some (.inl ()))) (some (.inl ()))).bind (fall λpc=>(dH.f a0.aq).bind λtn=>(eH.f a0.aq).bind λtp=>cond (tn==tp) (some 11) ((j3.f a0.fall.bQ).bind λtq=>cond (tq==0) (some 11) (some 0))))
def jX.f (k:Nat) (a0:ak):Option (Bool):=(eG.f k a0).bind λta=>cond ta (some (!a0.ay)) (some false)
def nk.f (a0:ak):Option (aZ):=some (⟨a0.bf,a0.aj,a0.aC,a0.ah,a0.ay⟩:aZ)
def lay_Number.l0 (k:Nat):Nat->Int->List Int->Option (Int×Bool×(List Int))
 | 0,_,_=>none
 | ja+1,xa,xb=>cond (decide (128<=xa)) (aF (cB (xb.length+([IntKind.u8.wrap (aE ((xa.tmod 128)+128))]:List Int).length) 1) (lay_Number.l0 k ja (aE (xa.tdiv 128)) (xb++([IntKind.u8.wrap (aE ((xa.tmod 128)+128))]:List Int)))) (some (xa,decide (128<=xa),xb))
def lay_Number.f (k:Nat) (a0:List Int) (a1:Int):Option ((List Int)):=aF ((0:Int)<=(a0.length:Int)/\0<=(a0.length:Int).toNat/\(a0.length:Int).toNat<=a0.length) ((lay_Number.l0 k k (max a1 0) ((a0.take ((a0.length:Int).toNat)).drop 0)).bind λpa=>aF (cB (pa.2.2.length+([IntKind.u8.wrap (pa.1)]:List Int).length) 1) (some (pa.2.2++([IntKind.u8.wrap (pa.1)]:List Int))))
def nF.f (k:Nat) (a0:List Int) (a1:Bool):Option ((List Int)):=cond a1 ((lay_Number.f k a0 1).bind λta=>some ta) ((lay_Number.f k a0 0).bind λtc=>some tc)
def kH.f (k:Nat) (a0:List Int) (a1:BA):Option ((List Int)):=(lay_Number.f k a0 (a1.size:Int)).bind λta=>aF (cB (ta.length+(qm a1).length) 1) (some (ta++(qm a1)))
def du.l0 (k:Nat) (a0:ak):Nat->Int->List Int->Option (Int×Bool×(List Int))
 | 0,_,_=>none
 | ja+1,xa,xb=>cond (decide (xa<(([a0.cX,a0.bU,a0.bK,a0.aS]:List Int).length:Int))) (aF (iB xa (([a0.cX,a0.bU,a0.bK,a0.aS]:List Int).length)) ((lay_Number.f k xb ((aP .i64).at ([a0.cX,a0.bU,a0.bK,a0.aS]:List Int) xa)).bind λta=>du.l0 k a0 ja (aE (xa+1)) ta)) (some (xa,decide (xa<(([a0.cX,a0.bU,a0.bK,a0.aS]:List Int).length:Int)),xb))
def du.l1 (k:Nat) (a0:ak):Nat->Int->List Int->Option (Int×Bool×(List Int))
 | 0,_,_=>none
 | ja+1,xa,xb=>cond (decide (xa<(([a0.aj,a0.aC,a0.bP,a0.ah]:List BA).length:Int))) (aF (iB xa (([a0.aj,a0.aC,a0.bP,a0.ah]:List BA).length)) ((kH.f k xb (az.at ([a0.aj,a0.aC,a0.bP,a0.ah]:List BA) xa)).bind λta=>du.l1 k a0 ja (aE (xa+1)) ta)) (some (xa,decide (xa<(([a0.aj,a0.aC,a0.bP,a0.ah]:List BA).length:Int)),xb))
def du.f (k:Nat) (a0:ak):Option ((List Int)):=(lay_Number.f k ([]:List Int) a0.bf).bind λta=>(du.l1 k a0 k 0 ta).bind λpa=>(nF.f k pa.2.2 a0.lO).bind λtc=>(du.l0 k a0 k 0 tc).bind λpc=>some pc.2.2
def lU.f (a0:List Int) (a1:List Int):Option (Int):=some (GC a0 a1)
def mi.f (k:Nat) (a0:ak) (a1:ak):Option (Int):=(dj.f a0.aS a1.aS).bind λta=>(du.f k a0).bind λtc=>(du.f k a1).bind λte=>(lU.f tc te).bind λtg=>(b8.f k ([ta,tg]:List Int)).bind λtj=>some tj
def kM.f (k:Nat) (a0:ak) (a1:ak):Option (Bool):=(nk.f a0).bind λta=>(nk.f a1).bind λtc=>cond (decide (ta=tc)) ((mi.f k a0 a1).bind λte=>some (decide (0<te))) (some false)
def slices_BinarySearchFunc_Edu_Edu.l0 (k:Nat) (a0:List ak) (a1:ak) (a2:ak->ak->Option Int):Nat->Int->Int->Option (Int×Int×Bool)
 | 0,_,_=>none
 | ja+1,xa,xb=>cond (decide (xa<xb)) (aF (iB (aE ((IntKind.u64.wrap (aE (xa+xb))).fdiv 2)) a0.length) ((a2 (ak.K.at a0 (aE ((IntKind.u64.wrap (aE (xa+xb))).fdiv 2))) a1).bind λta=>cond (decide (ta<0)) (slices_BinarySearchFunc_Edu_Edu.l0 k a0 a1 a2 ja (aE ((aE ((IntKind.u64.wrap (aE (xa+xb))).fdiv 2))+1)) xb) (slices_BinarySearchFunc_Edu_Edu.l0 k a0 a1 a2 ja xa (aE ((IntKind.u64.wrap (aE (xa+xb))).fdiv 2))))) (some (xa,xb,decide (xa<xb)))
def slices_BinarySearchFunc_Edu_Edu.f (k:Nat) (a0:List ak) (a1:ak) (a2:ak->ak->Option Int):Option (Int×Bool):=(slices_BinarySearchFunc_Edu_Edu.l0 k a0 a1 a2 k 0 (a0.length:Int)).bind λpa=>cond (decide (pa.1<(a0.length:Int))) (aF (iB pa.1 a0.length) ((a2 (ak.K.at a0 pa.1) a1).bind λta=>some (pa.1,(ta==0)))) (some (pa.1,false))
def jK.f (k:Nat) (a0:ak) (a1:ak):Option (Int):=(bu.f a0.aj a1.aj).bind λta=>(bu.f a0.aC a1.aC).bind λtc=>(b8.f k ([ta,tc]:List Int)).bind λte=>some te
def gX.f (k:Nat) (a0:bG) (a1:ak):Option (Int×Bool):=(slices_BinarySearchFunc_Edu_Edu.f k a0.fl a1 (jK.f k)).bind λta=>some (ta.1,ta.2)
def gF.f (xs:List ak) (i:Int) (ys:List ak):Option (List ak):=aF ((0:Int)<=i/\i<=(xs.length:Int)/\0<ys.length/\xs.length+ys.length<=4611686018427387904/\(xs.length+ys.length)*112<=140737488355328) (some (xs.take i.toNat++ys++xs.drop i.toNat))
def eN.f (a0:bO) (a1:Int) (a2:kC):Option (bO):=aF (iB a1 a0.fl.length) (some (⟨a0.fl.set a1.toNat a2,mput a0.dA a2.kD a1⟩:bO))
def heap_ahead.f (k:Nat) (a0:kC) (a1:kC):Option (Int):=(dj.f a0.sJ a1.sJ).bind λta=>(bu.f a0.kD a1.kD).bind λtc=>(b8.f k ([ta,tc]:List Int)).bind λte=>some te
def heap_Heap_down.l0 (k:Nat) (a0:bO) (a1:Int):Nat->Int->bO->Option (Int×Int×Bool×Bool×bO)
 | 0,_,_=>none
 | ja+1,xa,xb=>(cond (decide ((aE ((aE ((aE (2*xa))+1))+1))<(xb.fl.length:Int))) (aF (iB (aE ((aE ((aE (2*xa))+1))+1)) xb.fl.length) (aF (iB (aE ((aE (2*xa))+1)) xb.fl.length) ((heap_ahead.f k (xb.fl.getD ((aE ((aE ((aE (2*xa))+1))+1)).toNat) default) (xb.fl.getD ((aE ((aE (2*xa))+1)).toNat) default)).bind λta=>cond (decide (ta<0)) (some (aE ((aE ((aE (2*xa))+1))+1),decide (ta<0))) (some (aE ((aE (2*xa))+1),decide (ta<0)))))) (some (aE ((aE (2*xa))+1),false))).bind λpa=>cond (decide ((xb.fl.length:Int)<=pa.1)) (some (xa,pa.1,pa.2,true,xb)) (aF (iB pa.1 xb.fl.length) ((heap_ahead.f k (a0.fl.getD a1.toNat default) (xb.fl.getD pa.1.toNat default)).bind λtc=>cond (decide (tc<0)) (some (xa,pa.1,pa.2,decide (tc<0),xb)) (aF (iB pa.1 xb.fl.length) ((eN.f xb xa (xb.fl.getD pa.1.toNat default)).bind λte=>heap_Heap_down.l0 k a0 a1 ja pa.1 te))))
def heap_Heap_down.f (k:Nat) (a0:bO) (a1:Int):Option (bO):=aF (iB a1 a0.fl.length) ((heap_Heap_down.l0 k a0 a1 k a1 a0).bind λpa=>(eN.f pa.2.2.2.2 pa.1 (a0.fl.getD a1.toNat default)).bind λta=>some ta)
def gH.l0 (k:Nat) (a0:bO) (a1:Int):Nat->Int->bO->Option (Int×Bool×bO)
 | 0,_,_=>none
 | ja+1,xa,xb=>cond (decide (0<xa)) (aF (iB (aE ((aE (xa-1)).tdiv 2)) xb.fl.length) ((heap_ahead.f k (a0.fl.getD a1.toNat default) (xb.fl.getD ((aE ((aE (xa-1)).tdiv 2)).toNat) default)).bind λta=>cond (decide (ta<0)) (aF (iB (aE ((aE (xa-1)).tdiv 2)) xb.fl.length) ((eN.f xb xa (xb.fl.getD ((aE ((aE (xa-1)).tdiv 2)).toNat) default)).bind λtc=>gH.l0 k a0 a1 ja (aE ((aE (xa-1)).tdiv 2)) tc)) (some (xa,decide (ta<0),xb)))) (some (xa,false,xb))
def gH.f (k:Nat) (a0:bO) (a1:Int):Option (bO):=aF (iB a1 a0.fl.length) ((gH.l0 k a0 a1 k a1 a0).bind λpa=>(eN.f pa.2.2 pa.1 (a0.fl.getD a1.toNat default)).bind λta=>some ta)
def im.f (k:Nat) (a0:bO) (a1:BA):Option (Bool×bO):=cond (!((mget a0.dA a1).isSome)) (some (false,a0)) (aF (iB (aE ((a0.fl.length:Int)-1)) a0.fl.length) (aF ((0:Int)<=(aE ((a0.fl.length:Int)-1))/\0<=(aE ((a0.fl.length:Int)-1)).toNat/\(aE ((a0.fl.length:Int)-1)).toNat<=a0.fl.length) (cond (decide (((mget a0.dA a1).getD 0)<(aE ((a0.fl.length:Int)-1)))) ((eN.f (⟨(a0.fl.take ((aE ((a0.fl.length:Int)-1)).toNat)).drop 0,jV a0.dA a1⟩:bO) ((mget a0.dA a1).getD 0) (a0.fl.getD ((aE ((a0.fl.length:Int)-1)).toNat) default)).bind λta=>(heap_Heap_down.f k ta ((mget a0.dA a1).getD 0)).bind λtc=>(gH.f k tc ((mget tc.dA ((a0.fl.getD ((aE ((a0.fl.length:Int)-1)).toNat) default).kD)).getD 0)).bind λte=>some (true,te)) (some (true,(⟨(a0.fl.take ((aE ((a0.fl.length:Int)-1)).toNat)).drop 0,jV a0.dA a1⟩:bO))))))
def kN.f (k:Nat) (a0:bO) (a1:Int) (a2:BA):Option (bO):=(im.f k a0 a2).bind λta=>aF (cB (ta.2.fl.length+([(⟨a1,a2⟩:kC)]:List kC).length) 24) ((gH.f k (⟨ta.2.fl++([(⟨a1,a2⟩:kC)]:List kC),ta.2.dA⟩:bO) (aE (((ta.2.fl++([(⟨a1,a2⟩:kC)]:List kC)).length:Int)-1))).bind λtc=>some tc)
def nj.f (a0:ak):Option (Int):=some (aE (a0.bK+a0.cX))
def lC.f (k:Nat) (a0:bG) (a1:ak):Option (Bool×Int×bG):=cond (a1.bf != 2) (some (false,1,a0)) ((jX.f k a1).bind λta=>cond (!ta) (some (false,1,a0)) ((gX.f k a0 a1).bind λtc=>(cond tc.2 (aF (iB tc.1 a0.fl.length) (cond (decide (a0.fl.getD tc.1.toNat default=a1)) (some (.inr (false,0,a0))) (aF (iB tc.1 a0.fl.length) ((kM.f k a1 (a0.fl.getD tc.1.toNat default)).bind λte=>cond (!te) (some (.inr (false,0,a0))) (aF (iB tc.1 a0.fl.length) (some (.inl (true,!te,true,(⟨a0.fl.set tc.1.toNat a1,a0.pQ⟩:bG))))))))) ((gF.f a0.fl tc.1 ([a1]:List ak)).bind λtg=>some (.inl (false,false,false,(⟨tg,a0.pQ⟩:bG))))).bind (fall λpa=>aF (a1.aj.size+(⟨#[32]⟩:BA).size<=9223372036854775807) (aF ((a1.aj++(⟨#[32]⟩:BA)).size+a1.aC.size<=9223372036854775807) ((im.f k pa.2.2.2.pQ ((a1.aj++(⟨#[32]⟩:BA))++a1.aC)).bind λtj=>cond a1.lO ((nj.f a1).bind λtm=>(kN.f k tj.2 tm ((a1.aj++(⟨#[32]⟩:BA))++a1.aC)).bind λtn=>some (true,0,(⟨pa.2.2.2.fl,tn⟩:bG))) (some (true,0,(⟨pa.2.2.2.fl,tj.2⟩:bG))))))))
def og.f (a0:BA):Option (BA):=aF ((⟨#[116,32]⟩:BA).size+a0.size<=9223372036854775807) (some ((⟨#[116,32]⟩:BA)++a0))
def bz.l0 (k:Nat) (a0:List ak) (a1:BA) (a2:ak->BA->Option Int):Nat->Int->Int->Option (Int×Int×Bool)
 | 0,_,_=>none
 | ja+1,xa,xb=>cond (decide (xa<xb)) (aF (iB (aE ((IntKind.u64.wrap (aE (xa+xb))).fdiv 2)) a0.length) ((a2 (ak.K.at a0 (aE ((IntKind.u64.wrap (aE (xa+xb))).fdiv 2))) a1).bind λta=>cond (decide (ta<0)) (bz.l0 k a0 a1 a2 ja (aE ((aE ((IntKind.u64.wrap (aE (xa+xb))).fdiv 2))+1)) xb) (bz.l0 k a0 a1 a2 ja xa (aE ((IntKind.u64.wrap (aE (xa+xb))).fdiv 2))))) (some (xa,xb,decide (xa<xb)))
def bz.f (k:Nat) (a0:List ak) (a1:BA) (a2:ak->BA->Option Int):Option (Int×Bool):=(bz.l0 k a0 a1 a2 k 0 (a0.length:Int)).bind λpa=>cond (decide (pa.1<(a0.length:Int))) (aF (iB pa.1 a0.length) ((a2 (ak.K.at a0 pa.1) a1).bind λta=>some (pa.1,(ta==0)))) (some (pa.1,false))
def iN.f (a0:ak) (a1:BA):Option (Int):=(bu.f a0.aC a1).bind λta=>some ta
def jG.f (k:Nat) (a0:bJ) (a1:BA):Option (Int×Bool):=(bz.f k a0.fl a1 iN.f).bind λta=>some (ta.1,ta.2)
def j8.f (a0:ak) (a1:Int):Option (Int):=cond (a0.bU==2) (cond (decide (a1<(aE (a0.bK+30)))) (some 2) (cond (decide (a1<(aE (a0.bK+90)))) (some 1) (some 0))) (cond (a0.bU==1) (cond (decide (a1<(aE (a0.bK+90)))) (some 1) (some 0)) (some 0))
def gB.l0 (k:Nat) (a0:ak) (a1:Int):Nat->Int->Option ((Int×Bool) ⊕ (Int×Bool))
 | 0,_=>none
 | ja+1,xa=>cond (decide (xa<2)) (aF ((0:Int)<=xa/\xa<(2:Int)) (cond (decide (a1<(aE (a0.bK+((aP .i64).at ([30,90]:List Int) xa))))) ((j8.f a0 (aE ((aE (a0.bK+((aP .i64).at ([30,90]:List Int) xa)))-1))).bind λta=>(j8.f a0 (aE (a0.bK+((aP .i64).at ([30,90]:List Int) xa)))).bind λtc=>cond (decide (tc<ta)) (some (.inr (aE (a0.bK+((aP .i64).at ([30,90]:List Int) xa)),true))) (gB.l0 k a0 a1 ja (aE (xa+1)))) (gB.l0 k a0 a1 ja (aE (xa+1))))) (some (.inl (xa,decide (xa<2))))
def gB.f (k:Nat) (a0:ak) (a1:Int):Option (Int×Bool):=(gB.l0 k a0 a1 k 0).bind (fall λpa=>some (0,false))
def kj.f (k:Nat) (a0:bJ) (a1:ak):Option (Bool×Int×bJ):=cond (a1.bf != 3) (some (false,1,a0)) ((jX.f k a1).bind λta=>cond (!ta) (some (false,1,a0)) ((jG.f k a0 a1.aC).bind λtc=>(cond tc.2 (aF (iB tc.1 a0.fl.length) ((kM.f k a1 (a0.fl.getD tc.1.toNat default)).bind λte=>cond (!te) (some (.inr (false,0,a0))) (aF (iB tc.1 a0.fl.length) (some (.inl (true,!te,true,(⟨a0.fl.set tc.1.toNat a1,a0.nm⟩:bJ))))))) ((gF.f a0.fl tc.1 ([a1]:List ak)).bind λtg=>some (.inl (false,false,false,(⟨tg,a0.nm⟩:bJ))))).bind (fall λpa=>(im.f k pa.2.2.2.nm a1.aC).bind λtj=>(gB.f k a1 (-1)).bind λtm=>cond tm.2 ((kN.f k tj.2 tm.1 a1.aC).bind λtn=>some (true,0,(⟨pa.2.2.2.fl,tn⟩:bJ))) (some (true,0,(⟨pa.2.2.2.fl,tj.2⟩:bJ))))))
def oe.f (a0:BA):Option (BA):=aF ((⟨#[112,32]⟩:BA).size+a0.size<=9223372036854775807) (some ((⟨#[112,32]⟩:BA)++a0))
def iF.f (k:Nat) (a0:bY) (a1:ak):Option (Int×bY):=cond (a1.bf==1) ((iI.f k a0.fall.aA a0.fall.aK a1).bind λta=>(fi.f a1).bind λtc=>(jP.f tc).bind λte=>cond ta.1 ((dO.f k (⟨a0.av,a0.aG,a0.aq,(⟨a0.fall.aK,ta.2.2,a0.fall.ax,a0.fall.an,a0.fall.bQ⟩:Src),a0.aI,a0.aa⟩:bY) te).bind λtg=>some (ta.2.1,tg)) (some (ta.2.1,(⟨a0.av,a0.aG,a0.aq,(⟨a0.fall.aK,ta.2.2,a0.fall.ax,a0.fall.an,a0.fall.bQ⟩:Src),a0.aI,a0.aa⟩:bY)))) (cond (a1.bf==2) ((lC.f k a0.fall.ax a1).bind λtj=>(og.f a1.aj).bind λtm=>cond tj.1 ((dO.f k (⟨a0.av,a0.aG,a0.aq,(⟨a0.fall.aK,a0.fall.aA,tj.2.2,a0.fall.an,a0.fall.bQ⟩:Src),a0.aI,a0.aa⟩:bY) tm).bind λtn=>some (tj.2.1,tn)) (some (tj.2.1,(⟨a0.av,a0.aG,a0.aq,(⟨a0.fall.aK,a0.fall.aA,tj.2.2,a0.fall.an,a0.fall.bQ⟩:Src),a0.aI,a0.aa⟩:bY)))) ((kj.f k a0.fall.an a1).bind λtp=>(oe.f a1.aC).bind λtq=>cond tp.1 ((dO.f k (⟨a0.av,a0.aG,a0.aq,(⟨a0.fall.aK,a0.fall.aA,a0.fall.ax,tp.2.2,a0.fall.bQ⟩:Src),a0.aI,a0.aa⟩:bY) tq).bind λtu=>some (tp.2.1,tu)) (some (tp.2.1,(⟨a0.av,a0.aG,a0.aq,(⟨a0.fall.aK,a0.fall.aA,a0.fall.ax,tp.2.2,a0.fall.bQ⟩:Src),a0.aI,a0.aa⟩:bY)))))
def slices_Compact_string.f (xs:List BA):Option (List BA):=aF (xs.length<=9223372036854775807) (some (l9 xs))
def member_Homes.l0 (k:Nat) (a0:List BA):Nat->Int->List BA->Option (Int×Bool×(List BA))
 | 0,_,_=>none
 | ja+1,xa,xb=>cond (decide (xa<(a0.length:Int))) (aF (iB xa a0.length) ((lI.f k (az.at a0 xa)).bind λta=>cond (!decide (ta=eE)) (aF (cB (xb.length+([ta]:List BA).length) 16) (member_Homes.l0 k a0 ja (aE (xa+1)) (xb++([ta]:List BA)))) (member_Homes.l0 k a0 ja (aE (xa+1)) xb))) (some (xa,decide (xa<(a0.length:Int)),xb))
def member_Homes.f (k:Nat) (a0:List BA):Option ((List BA)):=(member_Homes.l0 k a0 k 0 ([]:List BA)).bind λpa=>(slices_Sort_string.f pa.2.2).bind λta=>(slices_Compact_string.f ta).bind λtc=>some tc
def kA.f (k:Nat) (a0:bM):Option (List BA):=(member_joined.f k a0).bind λm=>aF (m.length<=1000000) (some (aY (m.map (·.1))))
def ll.f (k:Nat) (a0:bM):Option ((List BA)):=(kA.f k a0).bind λta=>(member_Homes.f k ta).bind λtc=>some tc
def eX.f (k:Nat) (a0:au) (a1:BA):Option ((List BA)):=(aV.f a0 a1).bind λta=>(ll.f k ta).bind λtc=>some tc
def fj.l0 (k:Nat) (a0:au) (ta:(List BA)):Nat->Int->List BA->Option (Int×Int×Bool×(List BA)×(List BA))
 | 0,_,_=>none
 | ja+1,xa,xb=>cond (decide (xa<(ta.length:Int))) (aF (iB xa ta.length) ((eX.f k a0 (ta.getD xa.toNat default)).bind λtc=>aF (cB (xb.length+tc.length) 16) (fj.l0 k a0 ta ja (aE (xa+1)) (xb++tc)))) (some ((ta.length:Int),xa,decide (xa<(ta.length:Int)),xb,ta))
def fj.f (k:Nat) (a0:au) (a1:BA):Option ((List BA)):=((gG.f k a0 a1).bind λta=>fj.l0 k a0 ta k 0 ([]:List BA)).bind λpa=>(slices_Sort_string.f pa.2.2.2.1).bind λtc=>(slices_Compact_string.f tc).bind λte=>some te
def jI.f (k:Nat) (a0:au) (a1:ak):Option ((List BA)):=(jX.f k a1).bind λta=>cond (!ta) (some ([]:List BA)) (cond (a1.bf==3) ((fj.f k a0 a1.aC).bind λtc=>some tc) ((eX.f k a0 a1.aj).bind λte=>some te))
def j6.f (a0:BA) (c0:BA):Option (Bool):=some (decide (a0=c0))
def lL.f (k:Nat) (a0:au) (a1:BA) (a2:ak):Option ((List BA)):=(jI.f k a0 a2).bind λta=>(slices_DeleteFunc_string_xo.f k ta (λa0_=>j6.f a0_ a1)).bind λtc=>some tc
def qZ.f (a0:Int):Option ((Option cF)×Int):=cond (decide (a0<1)) (some (none,1)) (cond (decide (120<a0)) (some (none,1)) (some (some (⟨a0,([]:List aZ),([]:List (aZ×ak)),0⟩:cF),0)))
def nq.f (k:Nat) (a0:BA) (a1:BA) (a2:Int) (a3:Int):Option ((Option aO)×Int):=(ew.f k a0).bind λta=>cond (!ta) (some (none,1)) ((ew.f k a1).bind λtc=>cond (!tc) (some (none,1)) (cond (decide (a0=a1)) (some (none,1)) ((qZ.f a2).bind λte=>cond (te.2 != 0) (some (none,te.2)) ((kP.f a3 1099511627776).bind λtg=>cond (tg.2 != 0) (some (none,tg.2)) (aF (te.1.isSome=true) (aF (tg.1.isSome=true) (some (some (⟨te.1.getD default,a0,a1,tg.1.getD default,none⟩:aO),0))))))))
def bX.l0 (k:Nat) (a0:List aZ) (a1:(aZ->Option Bool)):Nat->Int->Option ((Int×Bool) ⊕ (Int))
 | 0,_=>none
 | ja+1,xa=>cond (decide (xa<(a0.length:Int))) (aF (iB xa a0.length) ((a1 (a0.getD xa.toNat default)).bind λta=>cond ta (some (.inr xa)) (bX.l0 k a0 a1 ja (aE (xa+1))))) (some (.inl (xa,decide (xa<(a0.length:Int)))))
def bX.f (k:Nat) (a0:List aZ) (a1:(aZ->Option Bool)):Option (Int):=(bX.l0 k a0 a1 k 0).bind (fall λpa=>some (-1))
def slices_DeleteFunc_Key_xo.l0 (k:Nat) (a1:(aZ->Option Bool)):Nat->Int->Int->List aZ->Option (Int×Int×Bool×(List aZ))
 | 0,_,_,_=>none
 | ja+1,xa,xb,xc=>cond (decide (xb<(xc.length:Int))) (aF (iB xb xc.length) ((a1 (xc.getD xb.toNat default)).bind λta=>cond (!ta) (aF (iB xa xc.length) (slices_DeleteFunc_Key_xo.l0 k a1 ja (aE (xa+1)) (aE (xb+1)) (xc.set xa.toNat (xc.getD xb.toNat default)))) (slices_DeleteFunc_Key_xo.l0 k a1 ja xa (aE (xb+1)) xc))) (some (xa,xb,decide (xb<(xc.length:Int)),xc))
def slices_DeleteFunc_Key_xo.f (k:Nat) (a0:List aZ) (a1:(aZ->Option Bool)):Option ((List aZ)):=(bX.f k a0 a1).bind λta=>cond (ta==(-1)) (some a0) ((slices_DeleteFunc_Key_xo.l0 k a1 k ta (aE (ta+1)) a0).bind λpa=>aF ((0:Int)<=pa.1/\pa.1.toNat<pa.2.2.2.length) (aF ((0:Int)<=pa.1/\0<=pa.1.toNat/\pa.1.toNat<=(pa.2.2.2.take pa.1.toNat++List.replicate (pa.2.2.2.length-pa.1.toNat) (⟨0,eE,eE,eE,false⟩:aZ)).length) (some (((pa.2.2.2.take pa.1.toNat++List.replicate (pa.2.2.2.length-pa.1.toNat) (⟨0,eE,eE,eE,false⟩:aZ)).take pa.1.toNat).drop 0))))
def ei.f (a0:aZ) (c0:aZ):Option (Bool):=some (decide (a0=c0))
def bZ.f (k:Nat) (a0:cF) (a1:aZ):Option (cF):=(slices_DeleteFunc_Key_xo.f k a0.bA (λa0_=>ei.f a0_ a1)).bind λta=>some (⟨a0.bw,ta,jV a0.dA a1,a0.da⟩:cF)
def gK.f (k:Nat) (a0:cF) (a1:ak):Option (ak×Bool×Int×cF):=(jX.f k a1).bind λta=>cond (!ta) (some ((⟨0,eE,eE,eE,eE,false,false,0,0,0,0⟩:ak),false,1,a0)) ((nk.f a1).bind λtc=>cond ((mget a0.dA tc).isSome) ((kM.f k a1 ((mget a0.dA tc).getD (⟨0,eE,eE,eE,eE,false,false,0,0,0,0⟩:ak))).bind λte=>cond (!te) (some ((⟨0,eE,eE,eE,eE,false,false,0,0,0,0⟩:ak),false,0,a0)) ((bZ.f k a0 tc).bind λtg=>aF (cB (tg.bA.length+([tc]:List aZ).length) 64) (cond (decide (((tg.bA++([tc]:List aZ)).length:Int)<=tg.bw)) (some ((⟨0,eE,eE,eE,eE,false,false,0,0,0,0⟩:ak),false,0,(⟨tg.bw,tg.bA++([tc]:List aZ),mput tg.dA tc a1,tg.da⟩:cF))) (aF (iB 0 ((tg.bA++([tc]:List aZ)).length)) (aF (iB 0 ((tg.bA++([tc]:List aZ)).length)) ((bZ.f k (⟨tg.bw,tg.bA++([tc]:List aZ),mput tg.dA tc a1,tg.da⟩:cF) ((tg.bA++([tc]:List aZ)).getD ((0:Int).toNat) default)).bind λtj=>some ((mget (mput tg.dA tc a1) ((tg.bA++([tc]:List aZ)).getD ((0:Int).toNat) default)).getD (⟨0,eE,eE,eE,eE,false,false,0,0,0,0⟩:ak),true,0,(⟨tj.bw,tj.bA,tj.dA,aE (tj.da+1)⟩:cF)))))))) ((bZ.f k a0 tc).bind λtm=>aF (cB (tm.bA.length+([tc]:List aZ).length) 64) (cond (decide (((tm.bA++([tc]:List aZ)).length:Int)<=tm.bw)) (some ((⟨0,eE,eE,eE,eE,false,false,0,0,0,0⟩:ak),false,0,(⟨tm.bw,tm.bA++([tc]:List aZ),mput tm.dA tc a1,tm.da⟩:cF))) (aF (iB 0 ((tm.bA++([tc]:List aZ)).length)) (aF (iB 0 ((tm.bA++([tc]:List aZ)).length)) ((bZ.f k (⟨tm.bw,tm.bA++([tc]:List aZ),mput tm.dA tc a1,tm.da⟩:cF) ((tm.bA++([tc]:List aZ)).getD ((0:Int).toNat) default)).bind λtn=>some ((mget (mput tm.dA tc a1) ((tm.bA++([tc]:List aZ)).getD ((0:Int).toNat) default)).getD (⟨0,eE,eE,eE,eE,false,false,0,0,0,0⟩:ak),true,0,(⟨tn.bw,tn.bA,tn.dA,aE (tn.da+1)⟩:cF))))))))
def bF.l0 (k:Nat) (a1:ak) (ta:Int) (tc:Int×Int×bI) (te:(List BA)):Nat->Int->bY->Option (Int×Int×Bool×bY×(List BA))
 | 0,_,_=>none
 | ja+1,xa,xb=>cond (decide (xa<(te.length:Int))) (aF (iB xa te.length) (cond ((mget xb.aa (te.getD xa.toNat default)).isNone) ((nq.f k xb.av (te.getD xa.toNat default) 120 0).bind λtg=>aF (tg.1.isSome=true) (aF ((mget (mput xb.aa (te.getD xa.toNat default) (tg.1.getD default)) (te.getD xa.toNat default)).isSome=true) ((gK.f k (((mget (mput xb.aa (te.getD xa.toNat default) (tg.1.getD default)) (te.getD xa.toNat default)).getD default).bC) (⟨a1.bf,a1.aj,a1.aC,a1.bP,a1.ah,a1.ay,a1.lO,a1.cX,a1.bU,ta,tc.1⟩:ak)).bind λtj=>bF.l0 k a1 ta tc te ja (aE (xa+1)) (⟨xb.av,xb.aG,xb.aq,xb.fall,xb.aI,mput (mput xb.aa (te.getD xa.toNat default) (tg.1.getD default)) (te.getD xa.toNat default) (⟨tj.2.2.2,((mget (mput xb.aa (te.getD xa.toNat default) (tg.1.getD default)) (te.getD xa.toNat default)).getD default).av,((mget (mput xb.aa (te.getD xa.toNat default) (tg.1.getD default)) (te.getD xa.toNat default)).getD default).lf,((mget (mput xb.aa (te.getD xa.toNat default) (tg.1.getD default)) (te.getD xa.toNat default)).getD default).fX,((mget (mput xb.aa (te.getD xa.toNat default) (tg.1.getD default)) (te.getD xa.toNat default)).getD default).fair⟩:aO)⟩:bY)))) (aF ((mget xb.aa (te.getD xa.toNat default)).isSome=true) ((gK.f k (((mget xb.aa (te.getD xa.toNat default)).getD default).bC) (⟨a1.bf,a1.aj,a1.aC,a1.bP,a1.ah,a1.ay,a1.lO,a1.cX,a1.bU,ta,tc.1⟩:ak)).bind λtm=>bF.l0 k a1 ta tc te ja (aE (xa+1)) (⟨xb.av,xb.aG,xb.aq,xb.fall,xb.aI,mput xb.aa (te.getD xa.toNat default) (⟨tm.2.2.2,((mget xb.aa (te.getD xa.toNat default)).getD default).av,((mget xb.aa (te.getD xa.toNat default)).getD default).lf,((mget xb.aa (te.getD xa.toNat default)).getD default).fX,((mget xb.aa (te.getD xa.toNat default)).getD default).fair⟩:aO)⟩:bY))))) (some ((te.length:Int),xa,decide (xa<(te.length:Int)),xb,te))
def bF.f (k:Nat) (a0:bY) (a1:ak):Option (Int×bY):=(ff.f k a0 a1).bind λta=>cond (ta != 0) (some (ta,a0)) ((gY.f a0).bind λtc=>(dy.f k a0.aq).bind λte=>(iF.f k (⟨a0.av,a0.aG,te.2.2,a0.fall,a0.aI,a0.aa⟩:bY) (⟨a1.bf,a1.aj,a1.aC,a1.bP,a1.ah,a1.ay,a1.lO,a1.cX,a1.bU,tc,te.1⟩:ak)).bind λtg=>((lL.f k tg.2.fall.aK tg.2.av (⟨a1.bf,a1.aj,a1.aC,a1.bP,a1.ah,a1.ay,a1.lO,a1.cX,a1.bU,tc,te.1⟩:ak)).bind λtj=>bF.l0 k a1 tc te tj k 0 tg.2).bind λpa=>some (0,pa.2.2.2.1))
def ki.f (k:Nat) (a0:bY) (a1:BA) (a2:BA) (a3:Bool) (a4:Int):Option (Int×bY):=(bF.f k a0 (⟨2,a2,a1,eE,eE,false,a3,a4,0,0,0⟩:ak)).bind λta=>some (ta.1,ta.2)
def hJ.f (xs:List ak):Option (List ak):=aF (cB xs.length 112) (some xs)
def dI.l0 (k:Nat) (a0:List ak) (a1:ak->Option Bool):Nat->Int->Option ((Int×Bool) ⊕ (Int))
 | 0,_=>none
 | ja+1,xa=>cond (decide (xa<(a0.length:Int))) (aF (iB xa a0.length) ((a1 (ak.K.at a0 xa)).bind λta=>cond ta (some (.inr xa)) (dI.l0 k a0 a1 ja (aE (xa+1))))) (some (.inl (xa,decide (xa<(a0.length:Int)))))
def dI.f (k:Nat) (a0:List ak) (a1:ak->Option Bool):Option (Int):=(dI.l0 k a0 a1 k 0).bind (fall λpa=>some (-1))
def dt.l0 (k:Nat) (a0:List ak) (a1:(ak->Option Bool)):Nat->Int->Option ((Int×Bool) ⊕ (Int))
 | 0,_=>none
 | ja+1,xa=>cond (decide (xa<(a0.length:Int))) (aF (iB xa a0.length) ((a1 (ak.K.at a0 xa)).bind λta=>cond ta (some (.inr xa)) (dt.l0 k a0 a1 ja (aE (xa+1))))) (some (.inl (xa,decide (xa<(a0.length:Int)))))
def dt.f (k:Nat) (a0:List ak) (a1:(ak->Option Bool)):Option (Int):=(dt.l0 k a0 a1 k 0).bind (fall λpa=>some (-1))
def db.l0 (k:Nat) (a0:List ak) (a1:(ak->Option Bool)):Nat->Int->Option ((Int×Bool) ⊕ (Int))
 | 0,_=>none
 | ja+1,xa=>cond (decide (xa<(a0.length:Int))) (aF (iB xa a0.length) ((a1 (a0.getD xa.toNat default)).bind λta=>cond ta (some (.inr xa)) (db.l0 k a0 a1 ja (aE (xa+1))))) (some (.inl (xa,decide (xa<(a0.length:Int)))))
def db.f (k:Nat) (a0:List ak) (a1:(ak->Option Bool)):Option (Int):=(db.l0 k a0 a1 k 0).bind (fall λpa=>some (-1))
def slices_DeleteFunc_Edu_xo.l0 (k:Nat) (a1:(ak->Option Bool)):Nat->Int->Int->List ak->Option (Int×Int×Bool×(List ak))
 | 0,_,_,_=>none
 | ja+1,xa,xb,xc=>cond (decide (xb<(xc.length:Int))) (aF (iB xb xc.length) ((a1 (xc.getD xb.toNat default)).bind λta=>cond (!ta) (aF (iB xa xc.length) (slices_DeleteFunc_Edu_xo.l0 k a1 ja (aE (xa+1)) (aE (xb+1)) (xc.set xa.toNat (xc.getD xb.toNat default)))) (slices_DeleteFunc_Edu_xo.l0 k a1 ja xa (aE (xb+1)) xc))) (some (xa,xb,decide (xb<(xc.length:Int)),xc))
def slices_DeleteFunc_Edu_xo.f (k:Nat) (a0:List ak) (a1:(ak->Option Bool)):Option ((List ak)):=(db.f k a0 a1).bind λta=>cond (ta==(-1)) (some a0) ((slices_DeleteFunc_Edu_xo.l0 k a1 k ta (aE (ta+1)) a0).bind λpa=>aF ((0:Int)<=pa.1/\pa.1.toNat<pa.2.2.2.length) (aF ((0:Int)<=pa.1/\0<=pa.1.toNat/\pa.1.toNat<=(pa.2.2.2.take pa.1.toNat++List.replicate (pa.2.2.2.length-pa.1.toNat) (⟨0,eE,eE,eE,eE,false,false,0,0,0,0⟩:ak)).length) (some (((pa.2.2.2.take pa.1.toNat++List.replicate (pa.2.2.2.length-pa.1.toNat) (⟨0,eE,eE,eE,eE,false,false,0,0,0,0⟩:ak)).take pa.1.toNat).drop 0))))
def iR.f (k:Nat) (a0:List BA) (a1:BA):Option (Bool):=(bR.f k a0 a1).bind λta=>some (decide (0<=ta))
def oS.f (k:Nat) (a0:au) (a1:BA) (a2:ak):Option (Bool):=(jI.f k a0 a2).bind λta=>(iR.f k ta a1).bind λtc=>some tc
def lV.f (k:Nat) (a0:ak) (c0:au) (c1:BA):Option (Bool):=(oS.f k c0 c1 a0).bind λta=>some (!ta)
def mr.f (k:Nat) (a0:au) (a1:BA) (a2:List ak):Option ((List ak)):=(hJ.f a2).bind λta=>(slices_DeleteFunc_Edu_xo.f k ta (λa0_=>lV.f k a0_ a0 a1)).bind λtc=>some tc
def eO.l0 (k:Nat) (a0:Int):Nat->Int->Int->Option (Int×Int×Bool)
 | 0,_,_=>none
 | ja+1,xa,xb=>cond (decide (xb<(min (max a0 0) 9))) (eO.l0 k a0 ja (min (aE (2*xa)) 16) (aE (xb+1))) (some (xa,xb,decide (xb<(min (max a0 0) 9))))
def eO.f (k:Nat) (a0:Int):Option (Int):=(eO.l0 k a0 k 1 0).bind λpa=>some pa.1
def jW.f (k:Nat) (a0:aO) (a1:au) (a2:Int):Option (Bool×aO):=aF (a0.fair.isSome=true) ((mr.f k a1 a0.lf (((a0.fair.getD default).fp).ke)).bind λta=>cond ((ta.length:Int)==0) (some (false,(⟨a0.bC,a0.av,a0.lf,a0.fX,none⟩:aO))) ((eO.f k (aE (((a0.fair.getD default).pT)+1))).bind λtc=>some (true,(⟨a0.bC,a0.av,a0.lf,a0.fX,some (⟨(⟨((a0.fair.getD default).fp).sw,((a0.fair.getD default).fp).dL,((a0.fair.getD default).fp).yo,((a0.fair.getD default).fp).cC,ta⟩:km),aE (((a0.fair.getD default).pT)+1),aE (a2+tc)⟩:jU)⟩:aO))))
def fm.f (a0:aO):Option (km):=aF (a0.fair.isSome=true) ((hJ.f (((a0.fair.getD default).fp).ke)).bind λta=>some (⟨((a0.fair.getD default).fp).sw,((a0.fair.getD default).fp).dL,((a0.fair.getD default).fp).yo,((a0.fair.getD default).fp).cC,ta⟩:km))
def queue_Queue_All.l0 (k:Nat) (a0:cF):Nat->Int->List ak->Option (Int×Bool×(List ak))
 | 0,_,_=>none
 | ja+1,xa,xb=>cond (decide (xa<(a0.bA.length:Int))) (aF (iB xa a0.bA.length) (aF (cB (xb.length+([(mget a0.dA (a0.bA.getD xa.toNat default)).getD (⟨0,eE,eE,eE,eE,false,false,0,0,0,0⟩:ak)]:List ak).length) 112) (queue_Queue_All.l0 k a0 ja (aE (xa+1)) (xb++([(mget a0.dA (a0.bA.getD xa.toNat default)).getD (⟨0,eE,eE,eE,eE,false,false,0,0,0,0⟩:ak)]:List ak))))) (some (xa,decide (xa<(a0.bA.length:Int)),xb))
def queue_Queue_All.f (k:Nat) (a0:cF):Option ((List ak)):=(queue_Queue_All.l0 k a0 k 0 ([]:List ak)).bind λpa=>some pa.2.2
def jh.f (a0:ak) (c0:ak):Option (Bool):=some (decide (a0=c0))
def iy.f (k:Nat) (a0:List ak) (a1:ak->Option Bool):Option (Bool):=(dI.f k a0 a1).bind λta=>some (decide (0<=ta))
def gR.f (k:Nat) (a0:List ak) (a1:(ak->Option Bool)):Option (Bool):=(dt.f k a0 a1).bind λta=>some (decide (0<=ta))
def queue_Queue_Keep.l0 (k:Nat) (a1:List ak) (ta:(List ak)):Nat->Int->cF->Option (cF)
 | 0,_,_=>none
 | ja+1,xa,xb=>cond (decide (xa<(ta.length:Int))) (aF (iB xa ta.length) ((gR.f k a1 (λa0_=>jh.f a0_ (ak.K.at ta xa))).bind λtc=>cond (!tc) ((nk.f (ak.K.at ta xa)).bind λte=>(bZ.f k xb te).bind λtg=>queue_Queue_Keep.l0 k a1 ta ja (aE (xa+1)) tg) (queue_Queue_Keep.l0 k a1 ta ja (aE (xa+1)) xb))) (some xb)
def queue_Queue_Keep.f (k:Nat) (a0:cF) (a1:List ak):Option (cF):=(queue_Queue_All.f k a0).bind λta=>queue_Queue_Keep.l0 k a1 ta k 0 a0
def eu.l0 (k:Nat) (a1:Int) (ta:(List ak)):Nat->Int->cF->Option (Int×Bool×cF)
 | 0,_,_=>none
 | ja+1,xa,xb=>cond (decide (xa<(((ta.take ((min (max a1 0) (ta.length:Int)).toNat)).drop 0).length:Int))) (aF (iB xa (((ta.take ((min (max a1 0) (ta.length:Int)).toNat)).drop 0).length)) ((nk.f (ak.K.at ((ta.take ((min (max a1 0) (ta.length:Int)).toNat)).drop 0) xa)).bind λtc=>(bZ.f k xb tc).bind λte=>eu.l0 k a1 ta ja (aE (xa+1)) te)) (some (xa,decide (xa<(((ta.take ((min (max a1 0) (ta.length:Int)).toNat)).drop 0).length:Int)),xb))
def eu.f (k:Nat) (a0:cF) (a1:Int):Option ((List ak)×cF):=(queue_Queue_All.f k a0).bind λta=>aF ((0:Int)<=(min (max a1 0) (ta.length:Int))/\0<=(min (max a1 0) (ta.length:Int)).toNat/\(min (max a1 0) (ta.length:Int)).toNat<=ta.length) ((eu.l0 k a1 ta k 0 a0).bind λpa=>some ((ta.take ((min (max a1 0) (ta.length:Int)).toNat)).drop 0,pa.2.2))
def jq.f (k:Nat) (a0:aO) (a1:au) (a2:Int):Option (km×Bool×Int×aO):=(cond (!a0.fair.isNone) (cond (decide (a2<((a0.fair.getD default).C0))) (some (.inr ((⟨false,eE,eE,0,([]:List ak)⟩:km),false,0,a0))) ((jW.f k a0 a1 a2).bind λta=>cond ta.1 ((fm.f ta.2).bind λtc=>some (.inr (tc,true,0,ta.2))) (some (.inl ta.2)))) (some (.inl a0))).bind (fall λpa=>(queue_Queue_All.f k pa.bC).bind λte=>(mr.f k a1 pa.lf te).bind λtg=>(queue_Queue_Keep.f k pa.bC tg).bind λtj=>(jE.f tj).bind λtm=>cond (tm==0) (some ((⟨false,eE,eE,0,([]:List ak)⟩:km),false,0,(⟨tj,pa.av,pa.lf,pa.fX,pa.fair⟩:aO))) ((dy.f k pa.fX).bind λtn=>cond (tn.2.1 != 0) (some ((⟨false,eE,eE,0,([]:List ak)⟩:km),false,tn.2.1,(⟨tj,pa.av,pa.lf,tn.2.2,pa.fair⟩:aO))) ((eu.f k tj 100).bind λtp=>(eO.f k 0).bind λtq=>(fm.f (⟨tp.2,pa.av,pa.lf,tn.2.2,some (⟨(⟨false,pa.av,pa.lf,tn.1,tp.1⟩:km),0,aE (a2+tq)⟩:jU)⟩:aO)).bind λtu=>some (tu,true,0,(⟨tp.2,pa.av,pa.lf,tn.2.2,some (⟨(⟨false,pa.av,pa.lf,tn.1,tp.1⟩:km),0,aE (a2+tq)⟩:jU)⟩:aO)))))
def oq.f (k:Nat) (a0:ak):Option (Bool):=(jX.f k a0).bind λta=>some (!ta)
def qc.f (k:Nat) (a0:km):Option (Bool):=(iy.f k a0.ke (oq.f k)).bind λta=>(ew.f k a0.dL).bind λtc=>cond tc ((ew.f k a0.yo).bind λte=>cond te (cond (!decide (a0.dL=a0.yo)) (cond (decide (1<=a0.cC)) (cond (decide (a0.cC<=1099511627776)) (cond (decide ((a0.ke.length:Int)<=100)) (cond (!ta) (cond (!a0.sw) (some true) (some ((a0.ke.length:Int)==0))) (some false)) (some false)) (some false)) (some false)) (some false)) (some false)) (some false)
def ri.f (k:Nat) (a0:ak):Option ((List Int)×Int):=(jX.f k a0).bind λta=>cond (!ta) (some (([]:List Int),1)) ((du.f k a0).bind λtc=>some (tc,0))
def ic.l0 (k:Nat) (a0:km):Nat->Int->List Int->Option (Int×Bool×(List Int))
 | 0,_,_=>none
 | ja+1,xa,xb=>cond (decide (xa<(a0.ke.length:Int))) (aF (iB xa a0.ke.length) ((ri.f k (ak.K.at a0.ke xa)).bind λta=>(kH.f k xb (lA ta.1)).bind λtc=>ic.l0 k a0 ja (aE (xa+1)) tc)) (some (xa,decide (xa<(a0.ke.length:Int)),xb))
def ic.f (k:Nat) (a0:km):Option ((List Int)×Int):=(qc.f k a0).bind λta=>cond (!ta) (some (([]:List Int),1)) ((nF.f k ([]:List Int) a0.sw).bind λtc=>(kH.f k tc a0.dL).bind λte=>(kH.f k te a0.yo).bind λtg=>(lay_Number.f k tg a0.cC).bind λtj=>(lay_Number.f k tj (a0.ke.length:Int)).bind λtm=>(ic.l0 k a0 k 0 tm).bind λpa=>some (pa.2.2,0))
def server_Server_Send.l0 (k:Nat) (a0:bY):Nat->Int->bY->List (List Int)->Option (Int×Bool×bY×(List (List Int)))
 | 0,_,_,_=>none
 | ja+1,xa,xb,xc=>cond (decide (xa<((aY (a0.aa.map (·.1))).length:Int))) (aF (iB xa ((aY (a0.aa.map (·.1))).length)) (aF ((mget xb.aa ((aY (a0.aa.map (·.1))).getD xa.toNat default)).isSome=true) ((eJ.f xb.aG).bind λta=>(jq.f k ((mget xb.aa ((aY (a0.aa.map (·.1))).getD xa.toNat default)).getD default) xb.fall.aK ta).bind λtc=>cond tc.2.1 ((ic.f k tc.1).bind λte=>aF (cB (xc.length+([te.1]:List (List Int)).length) 24) (server_Server_Send.l0 k a0 ja (aE (xa+1)) (⟨xb.av,xb.aG,xb.aq,xb.fall,xb.aI,mput xb.aa ((aY (a0.aa.map (·.1))).getD xa.toNat default) tc.2.2.2⟩:bY) (xc++([te.1]:List (List Int))))) (server_Server_Send.l0 k a0 ja (aE (xa+1)) (⟨xb.av,xb.aG,xb.aq,xb.fall,xb.aI,mput xb.aa ((aY (a0.aa.map (·.1))).getD xa.toNat default) tc.2.2.2⟩:bY) xc)))) (some (xa,decide (xa<((aY (a0.aa.map (·.1))).length:Int)),xb,xc))
def server_Server_Send.f (k:Nat) (a0:bY):Option ((List (List Int))×bY):=aF (a0.aa.length<=1000000) ((server_Server_Send.l0 k a0 k 0 a0 ([]:List (List Int))).bind λpa=>some (pa.2.2.2,pa.2.2.1))
def ia.l0 (k:Nat) (a0:List BA) (a1:List BA):Nat->Int->Option ((Int×Bool) ⊕ (Bool))
 | 0,_=>none
 | ja+1,xa=>cond (decide (xa<(a0.length:Int))) (aF (iB xa a0.length) (aF (iB xa a1.length) (cond (!decide ((az.at a0 xa)=(az.at a1 xa))) (some (.inr false)) (ia.l0 k a0 a1 ja (aE (xa+1)))))) (some (.inl (xa,decide (xa<(a0.length:Int)))))
def ia.f (k:Nat) (a0:List BA) (a1:List BA):Option (Bool):=cond ((a0.length:Int) != (a1.length:Int)) (some false) ((ia.l0 k a0 a1 k 0).bind (fall λpa=>some true))
def kg.f (k:Nat) (a0:bG) (a1:BA) (a2:BA) (a3:Int):Option (Bool):=(gX.f k a0 (⟨0,a1,a2,eE,eE,false,false,0,0,0,0⟩:ak)).bind λta=>cond ta.2 (aF (iB ta.1 a0.fl.length) (cond ((a0.fl.getD ta.1.toNat default).lO) (aF (iB ta.1 a0.fl.length) ((nj.f (a0.fl.getD ta.1.toNat default)).bind λtc=>some (decide (a3<tc)))) (some false))) (some false)
def dz.l0 (k:Nat) (a0:bG) (a1:BA) (a2:Int):Nat->Int->List BA->Option (Int×Bool×(List BA))
 | 0,_,_=>none
 | ja+1,xa,xb=>cond (decide (xa<(a0.fl.length:Int))) (aF (iB xa a0.fl.length) (cond (decide (((a0.fl.getD xa.toNat default).aj)=a1)) ((kg.f k a0 a1 ((a0.fl.getD xa.toNat default).aC) a2).bind λta=>cond ta (aF (cB (xb.length+([(a0.fl.getD xa.toNat default).aC]:List BA).length) 16) (dz.l0 k a0 a1 a2 ja (aE (xa+1)) (xb++([(a0.fl.getD xa.toNat default).aC]:List BA)))) (dz.l0 k a0 a1 a2 ja (aE (xa+1)) xb)) (dz.l0 k a0 a1 a2 ja (aE (xa+1)) xb))) (some (xa,decide (xa<(a0.fl.length:Int)),xb))
def dz.f (k:Nat) (a0:bG) (a1:BA) (a2:Int):Option ((List BA)):=(dz.l0 k a0 a1 a2 k 0 ([]:List BA)).bind λpa=>some pa.2.2
def mK.f (k:Nat) (a0:BA) (c0:Src) (c1:BA):Option (Bool):=(de.f k c0.aK c1 a0).bind λta=>some (!ta)
def qi.f (k:Nat) (a0:Src) (a1:BA) (a2:Int):Option ((List BA)):=(dz.f k a0.ax a1 a2).bind λta=>(slices_DeleteFunc_string_xo.f k ta (λa0_=>mK.f k a0_ a0 a1)).bind λtc=>some tc
def jH.f (k:Nat) (a0:bY) (a1:BA):Option ((List BA)):=(eJ.f a0.aG).bind λta=>(qi.f k a0.fall a1 ta).bind λtc=>some tc
def ow.f (k:Nat):Option (Bool):=(l8.f k (⟨#[115]⟩:BA) 0 0).bind λta=>cond ta.1.isNone (some false) (cond (ta.2 != 0) (some false) ((server_Server_Event.f k (ta.1.getD default) (⟨(⟨#[36,97]⟩:BA),(⟨#[33,114,58,115]⟩:BA),([]:List BA),eE,(⟨#[64,97,58,115]⟩:BA),1⟩:Event)).bind λtc=>(server_Server_Event.f k tc.2 (⟨(⟨#[36,98]⟩:BA),(⟨#[33,114,58,115]⟩:BA),([]:List BA),eE,(⟨#[64,98,58,116]⟩:BA),1⟩:Event)).bind λte=>(ki.f k te.2 (⟨#[64,97,58,115]⟩:BA) (⟨#[33,114,58,115]⟩:BA) true 5).bind λtg=>(server_Server_Send.f k tg.2).bind λtj=>cond (tg.1==0) (cond ((tj.1.length:Int)==1) ((jl.f tj.2).bind λtm=>cond (!tm) ((jH.f k tj.2 (⟨#[33,114,58,115]⟩:BA)).bind λtn=>(ia.f k tn ([(⟨#[64,97,58,115]⟩:BA)]:List BA)).bind λtp=>some tp) (some false)) (some false)) (some false)))
def uG.f (a0:BA) (a1:Int) (a2:Int):Option (rL):=some (⟨a0,a1,0,(⟨([]:List bq)⟩:dm),(⟨([]:List MK),(⟨8,([]:List ak),0⟩:iH)⟩:mJ),(⟨([]:List ak),([]:List Bool)⟩:wA),(⟨([]:List ak),([]:List Int)⟩:wq),([]:List mu),a2,([]:List iX),([]:List iY)⟩:rL)
def dq.f (a0:Int) (a1:Int):Option (Int):=cond (decide (a0<0)) (aF (a1≠0) (some ((aE (0-(aE (a0+1)))).tmod a1))) (aF (a1≠0) (some (a0.tmod a1)))
def iK.f (a0:Int):Option (BA):=(dq.f a0 2).bind λta=>aF (iB ta (([(⟨#[33,114,58,115,49]⟩:BA),(⟨#[33,113,58,115,50]⟩:BA)]:List BA).length)) (some (az.at ([(⟨#[33,114,58,115,49]⟩:BA),(⟨#[33,113,58,115,50]⟩:BA)]:List BA) ta))
def jM.f:Nat->Int->Option (BA)
 | 0,_=>none
 | k+1,a0=>(cond (decide ((a0.tmod 10)<0)) (some (aE (0-(a0.tmod 10)))) (some (a0.tmod 10))).bind λpa=>cond (decide ((-10)<a0)) (cond (decide (a0<10)) (cond (decide (a0<0)) (aF ((⟨#[45]⟩:BA).size+(lA ([IntKind.u8.wrap (aE (48+pa))]:List Int)).size<=9223372036854775807) (some ((⟨#[45]⟩:BA)++(lA ([IntKind.u8.wrap (aE (48+pa))]:List Int))))) (some (lA ([IntKind.u8.wrap (aE (48+pa))]:List Int)))) ((jM.f k (aE (a0.tdiv 10))).bind λta=>aF (ta.size+(lA ([IntKind.u8.wrap (aE (48+pa))]:List Int)).size<=9223372036854775807) (some (ta++(lA ([IntKind.u8.wrap (aE (48+pa))]:List Int)))))) ((jM.f k (aE (a0.tdiv 10))).bind λtc=>aF (tc.size+(lA ([IntKind.u8.wrap (aE (48+pa))]:List Int)).size<=9223372036854775807) (some (tc++(lA ([IntKind.u8.wrap (aE (48+pa))]:List Int)))))
def dw.f (k:Nat) (a0:Int):Option (BA):=(dq.f a0 9).bind λta=>(jM.f k ta).bind λtc=>aF ((⟨#[36,101]⟩:BA).size+tc.size<=9223372036854775807) (some ((⟨#[36,101]⟩:BA)++tc))
def nW.f (a0:Int):Option (BA):=(dq.f a0 3).bind λta=>aF (iB ta (([(⟨#[115,49]⟩:BA),(⟨#[115,50]⟩:BA),(⟨#[115,51]⟩:BA)]:List BA).length)) (some (az.at ([(⟨#[115,49]⟩:BA),(⟨#[115,50]⟩:BA),(⟨#[115,51]⟩:BA)]:List BA) ta))
def kE.f (a0:Int):Option (BA):=(dq.f a0 9).bind λta=>aF (iB (aE (ta.tdiv 3)) (([(⟨#[64,97,58]⟩:BA),(⟨#[64,98,58]⟩:BA),(⟨#[64,99,58]⟩:BA)]:List BA).length)) ((nW.f (ta.tmod 3)).bind λtc=>aF ((az.at ([(⟨#[64,97,58]⟩:BA),(⟨#[64,98,58]⟩:BA),(⟨#[64,99,58]⟩:BA)]:List BA) (aE (ta.tdiv 3))).size+tc.size<=9223372036854775807) (some ((az.at ([(⟨#[64,97,58]⟩:BA),(⟨#[64,98,58]⟩:BA),(⟨#[64,99,58]⟩:BA)]:List BA) (aE (ta.tdiv 3)))++tc)))
def fh.l0 (k:Nat) (a0:bq) (a1:BA):Nat->Int->Option ((Int×Bool) ⊕ (Int))
 | 0,_=>none
 | ja+1,xa=>cond (decide (xa<(a0.fL.length:Int))) (aF (iB xa a0.fL.length) (cond (decide (((Event.K.at a0.fL xa).cC)=a1)) (some (.inr xa)) (fh.l0 k a0 a1 ja (aE (xa+1))))) (some (.inl (xa,decide (xa<(a0.fL.length:Int)))))
def fh.f (k:Nat) (a0:bq) (a1:BA):Option (Int):=(fh.l0 k a0 a1 k 0).bind (fall λpa=>some (-1))
def fH.l0 (k:Nat) (a0:BA):Nat->Int->Option ((Int×Bool) ⊕ (Int))
 | 0,_=>none
 | ja+1,xa=>cond (decide (xa<(a0.size:Int))) (aF (iB xa a0.size) (cond ((bt a0 xa)==58) (some (.inr xa)) (fH.l0 k a0 ja (aE (xa+1))))) (some (.inl (xa,decide (xa<(a0.size:Int)))))
def fH.f (k:Nat) (a0:BA):Option (Int):=(fH.l0 k a0 k 0).bind (fall λpa=>some (-1))
def gC.l0 (k:Nat) (a0:BA):Nat->Int->Option ((Int×Bool) ⊕ (Bool))
 | 0,_=>none
 | ja+1,xa=>cond (decide (xa<(a0.size:Int))) (aF (iB xa a0.size) ((nw.f (bt a0 xa)).bind λta=>cond (!ta) (aF (iB xa a0.size) (cond ((bt a0 xa) != 46) (aF (iB xa a0.size) (cond ((bt a0 xa) != 45) (aF (iB xa a0.size) (cond ((bt a0 xa) != 95) (some (.inr false)) (gC.l0 k a0 ja (aE (xa+1))))) (gC.l0 k a0 ja (aE (xa+1))))) (gC.l0 k a0 ja (aE (xa+1))))) (gC.l0 k a0 ja (aE (xa+1))))) (some (.inl (xa,decide (xa<(a0.size:Int)))))
def gC.f (k:Nat) (a0:BA):Option (Bool):=(gC.l0 k a0 k 0).bind (fall λpa=>cond (decide (0<(a0.size:Int))) (some (decide ((a0.size:Int)<17))) (some false))
def jC.f (k:Nat) (a0:BA) (a1:Int):Option (Bool):=(fH.f k a0).bind λta=>cond (decide (ta<1)) (some false) (aF (iB 0 a0.size) (cond ((bt a0 0) != a1) (some false) (aF ((0:Int)<=1/\(0:Int)<=ta/\(1:Int).toNat<=ta.toNat/\ta.toNat<=a0.size) ((gC.f k (a0.extract (1:Int).toNat ta.toNat)).bind λtc=>aF ((0:Int)<=(aE (ta+1))/\(aE (ta+1)).toNat<=a0.size/\a0.size<=a0.size) ((dM.f k (a0.extract (aE (ta+1)).toNat a0.size)).bind λte=>cond tc (some te) (some false))))))
def cZ.l0 (k:Nat) (a0:BA):Nat->Int->Option ((Int×Bool) ⊕ (Bool))
 | 0,_=>none
 | ja+1,xa=>cond (decide (xa<(a0.size:Int))) (aF (iB xa a0.size) ((nw.f (bt a0 xa)).bind λta=>aF (iB xa a0.size) (cond (decide (65<=(bt a0 xa))) (aF (iB xa a0.size) (cond (!ta) (cond (!(decide ((bt a0 xa)<=90))) (aF (iB xa a0.size) (cond ((bt a0 xa) != 45) (aF (iB xa a0.size) (cond ((bt a0 xa) != 95) (some (.inr false)) (cZ.l0 k a0 ja (aE (xa+1))))) (cZ.l0 k a0 ja (aE (xa+1))))) (cZ.l0 k a0 ja (aE (xa+1)))) (cZ.l0 k a0 ja (aE (xa+1))))) (cond (!ta) (aF (iB xa a0.size) (cond ((bt a0 xa) != 45) (aF (iB xa a0.size) (cond ((bt a0 xa) != 95) (some (.inr false)) (cZ.l0 k a0 ja (aE (xa+1))))) (cZ.l0 k a0 ja (aE (xa+1))))) (cZ.l0 k a0 ja (aE (xa+1))))))) (some (.inl (xa,decide (xa<(a0.size:Int)))))
def cZ.f (k:Nat) (a0:BA):Option (Bool):=cond (decide ((a0.size:Int)<2)) (some false) (cond (decide (17<(a0.size:Int))) (some false) (aF (iB 0 a0.size) (cond ((bt a0 0) != 36) (some false) ((cZ.l0 k a0 k 1).bind (fall λpa=>some true)))))
def iP.l0 (k:Nat) (a0:Event):Nat->Int->Option ((Int×Bool) ⊕ (Bool))
 | 0,_=>none
 | ja+1,xa=>cond (decide (xa<(a0.ag.length:Int))) (aF (iB xa a0.ag.length) ((cZ.f k (az.at a0.ag xa)).bind λta=>cond (!ta) (some (.inr false)) (aF (iB xa a0.ag.length) (cond (decide ((az.at a0.ag xa)=a0.cC)) (some (.inr false)) (cond (decide (0<xa)) (aF (iB (max (aE (xa-1)) 0) a0.ag.length) (aF (iB xa a0.ag.length) (cond (!il (az.at a0.ag (max (aE (xa-1)) 0)) (az.at a0.ag xa)) (some (.inr false)) (iP.l0 k a0 ja (aE (xa+1)))))) (iP.l0 k a0 ja (aE (xa+1)))))))) (some (.inl (xa,decide (xa<(a0.ag.length:Int)))))
def iP.f (k:Nat) (a0:Event):Option (Bool):=(cZ.f k a0.cC).bind λta=>(jC.f k a0.aj 33).bind λtc=>(jC.f k a0.aC 64).bind λte=>cond (!ta) (some false) (cond (!tc) (some false) (cond (!te) (some false) (cond (decide (4<(a0.ag.length:Int))) (some false) (cond (decide (a0.cW<0)) (some false) (cond (decide (2<a0.cW)) (some false) ((cond (!decide (a0.ah=eE)) ((cZ.f k a0.ah).bind λtg=>cond (!tg) (some (.inr false)) (cond (decide (a0.ah=a0.cC)) (some (.inr false)) (cond (a0.cW != 0) (some (.inr false)) (some (.inl ()))))) (some (.inl ()))).bind (fall λpa=>(iP.l0 k a0 k 0).bind (fall λpc=>some true))))))))
def eC.l0 (k:Nat) (a0:bq) (a1:Event):Nat->Int->Option ((Int×Bool) ⊕ (bq×Int))
 | 0,_=>none
 | ja+1,xa=>cond (decide (xa<(a1.ag.length:Int))) (aF (iB xa a1.ag.length) ((fh.f k a0 (az.at a1.ag xa)).bind λta=>cond (decide (ta<0)) (some (.inr (a0,4))) (eC.l0 k a0 a1 ja (aE (xa+1))))) (some (.inl (xa,decide (xa<(a1.ag.length:Int)))))
def eC.f (k:Nat) (a0:bq) (a1:Event):Option (bq×Int):=(iP.f k a1).bind λta=>cond (!ta) (some (a0,1)) (cond (!decide (a1.aj=a0.aj)) (some (a0,1)) ((fh.f k a0 a1.cC).bind λtc=>cond (decide (0<=tc)) (some (a0,9)) ((eC.l0 k a0 a1 k 0).bind (fall λpa=>(cond (!decide (a1.ah=eE)) ((fh.f k a0 a1.ah).bind λte=>cond (decide (te<0)) (some (.inr (a0,4))) (aF (iB te a0.fL.length) (cond (!decide (((Event.K.at a0.fL te).ah)=eE)) (some (.inr (a0,7))) (aF (iB te a0.fL.length) (cond (((Event.K.at a0.fL te).cW) != 0) (some (.inr (a0,7))) (some (.inl ()))))))) (some (.inl ()))).bind (fall λpc=>aF (cB (([]:List Event).length+a0.fL.length) 96) (aF (cB ((([]:List Event)++a0.fL).length+([a1]:List Event).length) 96) (some ((⟨a0.aj,(([]:List Event)++a0.fL)++([a1]:List Event)⟩:bq),0))))))))
def cI.l1 (k:Nat) (xa:Int) (pa:Int×Bool×(List Bool)):Nat->Int->List BA->Option (Int×Bool×(List BA))
 | 0,_,_=>none
 | ja+1,xb,xc=>cond (decide (xb<xa)) (aF (iB xb pa.2.2.length) (cond (pa.2.2.getD xb.toNat default) ((dw.f k xb).bind λta=>aF (cB (xc.length+([ta]:List BA).length) 16) (cI.l1 k xa pa ja (aE (xb+1)) (xc++([ta]:List BA)))) (cI.l1 k xa pa ja (aE (xb+1)) xc))) (some (xb,decide (xb<xa),xc))
def cI.l2 (k:Nat) (a1:List dV) (xa:Int):Nat->Int->List Bool->Option (Int×Bool×(List Bool))
 | 0,_,_=>none
 | ja+1,xb,xc=>aF (iB xa a1.length) (cond (decide (xb<(((dV.K.at a1 xa).ag).length:Int))) (cond (decide (xb<3)) (cond (decide (0<xa)) (aF (iB xa a1.length) (aF (iB xb (((dV.K.at a1 xa).ag).length)) ((dq.f ((aP .i64).at ((dV.K.at a1 xa).ag) xb) xa).bind λta=>aF (iB ta xc.length) (cI.l2 k a1 xa ja (aE (xb+1)) (xc.set ta.toNat true))))) (some (xb,decide (0<xa),xc))) (some (xb,false,xc))) (some (xb,false,xc)))
def cI.l0 (k:Nat) (a0:BA) (a1:List dV):Nat->Int->BA->List Event->Option (Int×Bool×BA×(List Event))
 | 0,_,_,_=>none
 | ja+1,xa,xb,xc=>cond (decide (xa<(a1.length:Int))) (cond (decide (xa<9)) (((dw.f k xa).bind λta=>aF (iB xa a1.length) ((kE.f ((dV.K.at a1 xa).aC)).bind λtc=>aF (iB xa a1.length) ((dq.f ((dV.K.at a1 xa).cW) 3).bind λte=>aF ((0:Int)<=9/\9<=(9223372036854775807:Int)/\(9:Int).toNat*1<=140737488355328) ((cI.l2 k a1 xa k 0 (List.replicate (9:Int).toNat (false:Bool))).bind λpa=>(cI.l1 k xa pa k 0 ([]:List BA)).bind λpc=>cond (te==0) (cond (decide (0<xa)) (aF (iB xa a1.length) ((dq.f ((dV.K.at a1 xa).ah) (aE (2*xa))).bind λtg=>cond (decide (tg<xa)) (aF (iB tg xc.length) (cond (((Event.K.at xc tg).cW)==0) (aF (iB tg xc.length) (cond (decide (((Event.K.at xc tg).ah)=eE)) ((dw.f k tg).bind λtj=>(eC.f k (⟨xb,xc⟩:bq) (⟨ta,a0,pc.2.2,tj,tc,te⟩:Event)).bind λtm=>some (pa.1,pc.1,pa.2.1,pc.2.1,decide (0<xa),tm.1.aj,tm.1.fL,pa.2.2)) ((eC.f k (⟨xb,xc⟩:bq) (⟨ta,a0,pc.2.2,eE,tc,te⟩:Event)).bind λtn=>some (pa.1,pc.1,pa.2.1,pc.2.1,decide (0<xa),tn.1.aj,tn.1.fL,pa.2.2)))) ((eC.f k (⟨xb,xc⟩:bq) (⟨ta,a0,pc.2.2,eE,tc,te⟩:Event)).bind λtp=>some (pa.1,pc.1,pa.2.1,pc.2.1,decide (0<xa),tp.1.aj,tp.1.fL,pa.2.2)))) ((eC.f k (⟨xb,xc⟩:bq) (⟨ta,a0,pc.2.2,eE,tc,te⟩:Event)).bind λtq=>some (pa.1,pc.1,pa.2.1,pc.2.1,decide (0<xa),tq.1.aj,tq.1.fL,pa.2.2)))) ((eC.f k (⟨xb,xc⟩:bq) (⟨ta,a0,pc.2.2,eE,tc,te⟩:Event)).bind λtu=>some (pa.1,pc.1,pa.2.1,pc.2.1,decide (0<xa),tu.1.aj,tu.1.fL,pa.2.2))) ((eC.f k (⟨xb,xc⟩:bq) (⟨ta,a0,pc.2.2,eE,tc,te⟩:Event)).bind λtv=>some (pa.1,pc.1,pa.2.1,pc.2.1,false,tv.1.aj,tv.1.fL,pa.2.2)))))).bind λpe=>cI.l0 k a0 a1 ja (aE (xa+1)) pe.2.2.2.2.2.1 pe.2.2.2.2.2.2.1) (some (xa,decide (xa<9),xb,xc))) (some (xa,false,xb,xc))
def cI.f (k:Nat) (a0:BA) (a1:List dV):Option (bq):=(cI.l0 k a0 a1 k 0 a0 ([]:List Event)).bind λpa=>some (⟨pa.2.2.1,pa.2.2.2⟩:bq)
def oF.f (k:Nat) (a0:List dV) (a1:List dV):Option ((List Event)):=(iK.f 0).bind λta=>(cI.f k ta a0).bind λtc=>aF (cB (([]:List Event).length+tc.fL.length) 96) ((iK.f 1).bind λte=>(cI.f k te a1).bind λtg=>aF (cB ((([]:List Event)++tc.fL).length+tg.fL.length) 96) (some ((([]:List Event)++tc.fL)++tg.fL)))
def oy.f (k:Nat) (a0:List dV) (a1:List dV) (a2:Int) (a3:Int):Option ((Option WS)):=(l8.f k (⟨#[115,49]⟩:BA) a2 a3).bind λta=>cond ta.1.isNone (some none) (cond (ta.2 != 0) (some none) ((uG.f (⟨#[115,49]⟩:BA) a2 a3).bind λtc=>(oF.f k a0 a1).bind λte=>some (some (⟨ta.1.getD default,tc,te,0⟩:WS))))
def kb.l0 (k:Nat) (a0:dm) (a1:BA):Nat->Int->Option ((Int×Bool) ⊕ (bq))
 | 0,_=>none
 | ja+1,xa=>cond (decide (xa<(a0.fD.length:Int))) (aF (iB xa a0.fD.length) (cond (decide (((bq.K.at a0.fD xa).aj)=a1)) (aF (iB xa a0.fD.length) (some (.inr (bq.K.at a0.fD xa)))) (kb.l0 k a0 a1 ja (aE (xa+1))))) (some (.inl (xa,decide (xa<(a0.fD.length:Int)))))
def kb.f (k:Nat) (a0:dm) (a1:BA):Option (bq):=(kb.l0 k a0 a1 k 0).bind (fall λpa=>some (⟨a1,([]:List Event)⟩:bq))
def eT.l0 (k:Nat) (a0:dm) (a1:Event) (ta:bq×Int):Nat->Bool->Int->List bq->Option (Bool×Int×Bool×(List bq))
 | 0,_,_,_=>none
 | ja+1,xa,xb,xc=>cond (decide (xb<(a0.fD.length:Int))) ((cond (!xa) (aF (iB xb a0.fD.length) (cond (!il ((bq.K.at a0.fD xb).aj) a1.aj) (aF (cB (xc.length+([ta.1]:List bq).length) 40) (some (true,!il ((bq.K.at a0.fD xb).aj) a1.aj,xc++([ta.1]:List bq)))) (some (xa,!il ((bq.K.at a0.fD xb).aj) a1.aj,xc)))) (some (xa,false,xc))).bind λpa=>aF (iB xb a0.fD.length) (cond (!decide (((bq.K.at a0.fD xb).aj)=a1.aj)) (aF (iB xb a0.fD.length) (aF (cB (pa.2.2.length+([bq.K.at a0.fD xb]:List bq).length) 40) (eT.l0 k a0 a1 ta ja pa.1 (aE (xb+1)) (pa.2.2++([bq.K.at a0.fD xb]:List bq))))) (eT.l0 k a0 a1 ta ja pa.1 (aE (xb+1)) pa.2.2))) (some (xa,xb,decide (xb<(a0.fD.length:Int)),xc))
def eT.f (k:Nat) (a0:dm) (a1:Event):Option (dm×Int):=(kb.f k a0 a1.aj).bind λta=>(eC.f k ta a1).bind λtc=>cond (tc.2 != 0) (some (a0,tc.2)) ((eT.l0 k a0 a1 tc k false 0 ([]:List bq)).bind λpa=>cond (!pa.1) (aF (cB (pa.2.2.2.length+([tc.1]:List bq).length) 40) (some ((⟨pa.2.2.2++([tc.1]:List bq)⟩:dm),0))) (some ((⟨pa.2.2.2⟩:dm),0)))
def eg.l1 (k:Nat) (a0:bq) (xa:Int):Nat->Int->List Int->Option (Int×Bool×(List Int))
 | 0,_,_=>none
 | ja+1,xb,xc=>aF (iB xa a0.fL.length) (cond (decide (xb<(((Event.K.at a0.fL xa).ag).length:Int))) (aF (iB xa xc.length) (aF (iB xa a0.fL.length) (aF (iB xb (((Event.K.at a0.fL xa).ag).length)) ((fh.f k a0 (az.at ((Event.K.at a0.fL xa).ag) xb)).bind λta=>aF (iB ta xc.length) (aF (iB xa xc.length) (eg.l1 k a0 xa ja (aE (xb+1)) (xc.set xa.toNat (max (xc.getD xa.toNat default) (aE ((xc.getD ta.toNat default)+1)))))))))) (some (xb,decide (xb<(((Event.K.at a0.fL xa).ag).length:Int)),xc)))
def eg.l0 (k:Nat) (a0:bq) (ta:Int):Nat->Int->List Int->Option (Int×Bool×(List Int))
 | 0,_,_=>none
 | ja+1,xa,xb=>cond (decide (xa<=ta)) ((eg.l1 k a0 xa k 0 xb).bind λpa=>eg.l0 k a0 ta ja (aE (xa+1)) pa.2.2) (some (xa,decide (xa<=ta),xb))
def eg.f (k:Nat) (a0:bq) (a1:BA):Option (Int):=(fh.f k a0 a1).bind λta=>cond (decide (ta<0)) (some 0) (aF ((0:Int)<=(aE (ta+1))/\(aE (ta+1))<=(9223372036854775807:Int)/\(aE (ta+1)).toNat*8<=140737488355328) ((eg.l0 k a0 ta k 0 (List.replicate (aE (ta+1)).toNat (0:Int))).bind λpa=>aF (iB ta pa.2.2.length) (some (pa.2.2.getD ta.toNat default))))
def kh.f (k:Nat) (a0:bq) (a1:BA):Option (Pos):=(eg.f k a0 a1).bind λta=>some (⟨ta,a1⟩:Pos)
def eS.f (k:Nat) (a0:dm) (a1:BA) (a2:BA):Option (Pos×Bool):=(kb.f k a0 a1).bind λta=>(fh.f k ta a2).bind λtc=>cond (decide (tc<0)) (some ((⟨0,eE⟩:Pos),false)) ((kh.f k ta a2).bind λte=>some (te,true))
def lu.l0 (k:Nat) (a0:iH) (a1:BA) (a2:BA):Nat->Int->List ak->List ak->Option (Int×Bool×(List ak)×(List ak))
 | 0,_,_,_=>none
 | ja+1,xa,xb,xc=>cond (decide (xa<(a0.fL.length:Int))) (aF (iB xa a0.fL.length) (cond (decide (((ak.K.at a0.fL xa).aj)=a1)) (aF (iB xa a0.fL.length) (cond (decide (((ak.K.at a0.fL xa).bP)=a2)) (aF (iB xa a0.fL.length) (aF (cB (xb.length+([ak.K.at a0.fL xa]:List ak).length) 112) (lu.l0 k a0 a1 a2 ja (aE (xa+1)) (xb++([ak.K.at a0.fL xa]:List ak)) xc))) (aF (iB xa a0.fL.length) (aF (cB (xc.length+([ak.K.at a0.fL xa]:List ak).length) 112) (lu.l0 k a0 a1 a2 ja (aE (xa+1)) xb (xc++([ak.K.at a0.fL xa]:List ak))))))) (aF (iB xa a0.fL.length) (aF (cB (xc.length+([ak.K.at a0.fL xa]:List ak).length) 112) (lu.l0 k a0 a1 a2 ja (aE (xa+1)) xb (xc++([ak.K.at a0.fL xa]:List ak))))))) (some (xa,decide (xa<(a0.fL.length:Int)),xb,xc))
def lu.f (k:Nat) (a0:iH) (a1:BA) (a2:BA):Option (iH×(List ak)):=(lu.l0 k a0 a1 a2 k 0 ([]:List ak) ([]:List ak)).bind λpa=>some ((⟨a0.bW,pa.2.2.2,a0.bS⟩:iH),pa.2.2.1)
def nt.f (k:Nat) (a0:BA):Option (Bool):=(cZ.f k a0).bind λta=>cond (decide (a0=eE)) (some true) (cond (decide (a0=(⟨#[109,97,105,110]⟩:BA))) (some true) (some ta))
def iC.f (k:Nat) (a0:ak):Option (Bool):=(jC.f k a0.aC 64).bind λta=>(jC.f k a0.aj 33).bind λtc=>(cZ.f k a0.bP).bind λte=>(nt.f k a0.ah).bind λtg=>cond (!ta) (some false) (cond (decide (a0.bK<0)) (some false) (cond (decide (1099511627776<a0.bK)) (some false) (cond (decide (a0.aS<0)) (some false) (cond (decide (1099511627776<a0.aS)) (some false) (cond (a0.bf==1) (cond tc (cond te (cond tg (cond (!a0.lO) (cond (a0.cX==0) (some (a0.bU==0)) (some false)) (some false)) (some false)) (some false)) (some false)) (cond (a0.bf==2) (cond a0.lO (cond (decide (1<=a0.cX)) (cond (decide (a0.cX<=60)) (cond tc (cond (decide (a0.bP=eE)) (cond (decide (a0.ah=eE)) (cond (a0.bU==0) (some (!a0.ay)) (some false)) (some false)) (some false)) (some false)) (cond (!a0.lO) (cond tc (cond (a0.cX==0) (cond (decide (a0.bP=eE)) (cond (decide (a0.ah=eE)) (cond (a0.bU==0) (some (!a0.ay)) (some false)) (some false)) (some false)) (some false)) (some false)) (cond tc (some false) (some false)))) (cond (!a0.lO) (cond tc (cond (a0.cX==0) (cond (decide (a0.bP=eE)) (cond (decide (a0.ah=eE)) (cond (a0.bU==0) (some (!a0.ay)) (some false)) (some false)) (some false)) (some false)) (some false)) (cond tc (some false) (some false)))) (cond (!a0.lO) (cond tc (cond (a0.cX==0) (cond (decide (a0.bP=eE)) (cond (decide (a0.ah=eE)) (cond (a0.bU==0) (some (!a0.ay)) (some false)) (some false)) (some false)) (some false)) (some false)) (cond tc (some false) (some false)))) (cond (a0.bf==3) (cond (decide (a0.aj=eE)) (cond (decide (a0.bP=eE)) (cond (decide (a0.ah=eE)) (cond (!a0.lO) (cond (a0.cX==0) (cond (!a0.ay) (cond (decide (0<=a0.bU)) (some (decide (a0.bU<=2))) (some false)) (some false)) (some false)) (some false)) (some false)) (some false)) (some false)) (some false))))))))
def qF.f (a0:ak):Option (aM):=some (⟨a0.aj,a0.aC,a0.ah,a0.ay⟩:aM)
def pK.f (k:Nat) (a0:dm) (a1:BA) (a2:BA) (a3:BA):Option (Int):=(kb.f k a0 a1).bind λta=>(fh.f k ta a2).bind λtc=>cond (decide (tc<0)) (some 4) (aF (iB tc ta.fL.length) (cond (decide (a3=eE)) (some 0) (cond (decide (a3=a2)) (some 0) (cond (decide (a3=(⟨#[109,97,105,110]⟩:BA))) (cond (decide (((Event.K.at ta.fL tc).ah)=eE)) (some 0) (cond (!decide (((Event.K.at ta.fL tc).ah)=eE)) (cond (decide (a3=((Event.K.at ta.fL tc).ah))) (some 0) (some 7)) (some 7))) (cond (!decide (((Event.K.at ta.fL tc).ah)=eE)) (cond (decide (a3=((Event.K.at ta.fL tc).ah))) (some 0) (some 7)) (some 7))))))
def oh.l0 (k:Nat) (a0:iH) (a1:ak):Nat->Int->Option ((Int×Bool) ⊕ (iH×ak×Bool))
 | 0,_=>none
 | ja+1,xa=>cond (decide (xa<(a0.fL.length:Int))) (aF (iB xa a0.fL.length) (cond (decide (ak.K.at a0.fL xa=a1)) (some (.inr (a0,(⟨0,eE,eE,eE,eE,false,false,0,0,0,0⟩:ak),false))) (oh.l0 k a0 a1 ja (aE (xa+1))))) (some (.inl (xa,decide (xa<(a0.fL.length:Int)))))
def oh.f (k:Nat) (a0:iH) (a1:ak):Option (iH×ak×Bool):=(oh.l0 k a0 a1 k 0).bind (fall λpa=>aF (cB (([]:List ak).length+a0.fL.length) 112) (aF (cB ((([]:List ak)++a0.fL).length+([a1]:List ak).length) 112) (cond (decide (a0.bW<(((([]:List ak)++a0.fL)++([a1]:List ak)).length:Int))) (aF ((0:Int)<=1/\(1:Int).toNat<=((([]:List ak)++a0.fL)++([a1]:List ak)).length/\((([]:List ak)++a0.fL)++([a1]:List ak)).length<=((([]:List ak)++a0.fL)++([a1]:List ak)).length) (aF (iB 0 (((([]:List ak)++a0.fL)++([a1]:List ak)).length)) (some ((⟨a0.bW,(((([]:List ak)++a0.fL)++([a1]:List ak)).take (((([]:List ak)++a0.fL)++([a1]:List ak)).length)).drop ((1:Int).toNat),aE (a0.bS+1)⟩:iH),ak.K.at ((([]:List ak)++a0.fL)++([a1]:List ak)) 0,true)))) (some ((⟨a0.bW,(([]:List ak)++a0.fL)++([a1]:List ak),a0.bS⟩:iH),(⟨0,eE,eE,eE,eE,false,false,0,0,0,0⟩:ak),false)))))
def bD.f (a0:Pos) (a1:Pos):Option (Bool):=cond (decide (a0.br<a1.br)) (some true) (cond (a0.br==a1.br) (some (il a0.cC a1.cC)) (some false))
def oa.l0 (k:Nat) (a0:List MK) (a1:aM):Nat->Int->Option ((Int×Bool) ⊕ (Int))
 | 0,_=>none
 | ja+1,xa=>cond (decide (xa<(a0.length:Int))) (aF (iB xa a0.length) (cond (decide ((MK.K.at a0 xa).fK=a1)) (some (.inr xa)) (oa.l0 k a0 a1 ja (aE (xa+1))))) (some (.inl (xa,decide (xa<(a0.length:Int)))))
def oa.f (k:Nat) (a0:List MK) (a1:aM):Option (Int):=(oa.l0 k a0 a1 k 0).bind (fall λpa=>some (-1))
def qh.f (a0:aM) (a1:aM):Option (Bool):=cond (!decide (a0.aj=a1.aj)) (some (il a0.aj a1.aj)) (cond (!decide (a0.aC=a1.aC)) (some (il a0.aC a1.aC)) (cond (!decide (a0.ah=a1.ah)) (some (il a0.ah a1.ah)) (cond (!a0.ay) (some a1.ay) (some false))))
def nY.l0 (k:Nat) (a0:List MK) (a1:aM):Nat->Int->Option (Int×Bool)
 | 0,_=>none
 | ja+1,xa=>cond (decide (xa<(a0.length:Int))) (aF (iB xa a0.length) ((qh.f ((MK.K.at a0 xa).fK) a1).bind λta=>cond ta (nY.l0 k a0 a1 ja (aE (xa+1))) (some (xa,ta)))) (some (xa,false))
def nY.f (k:Nat) (a0:List MK) (a1:aM) (a2:Pos):Option ((List MK)×Bool):=(oa.f k a0 a1).bind λta=>cond (decide (0<=ta)) (aF (iB ta a0.length) ((bD.f ((MK.K.at a0 ta).sJ) a2).bind λtc=>cond (!tc) (some (a0,false)) (aF (cB (([]:List MK).length+a0.length) 80) (aF (iB ta ((([]:List MK)++a0).length)) (some ((([]:List MK)++a0).set ta.toNat (⟨((([]:List MK)++a0).getD ta.toNat default).fK,a2⟩:MK),true)))))) ((nY.l0 k a0 a1 k 0).bind λpa=>aF ((0:Int)<=pa.1/\0<=pa.1.toNat/\pa.1.toNat<=a0.length) (aF (cB (([]:List MK).length+((a0.take pa.1.toNat).drop 0).length) 80) (aF (cB ((([]:List MK)++((a0.take pa.1.toNat).drop 0)).length+([(⟨a1,a2⟩:MK)]:List MK).length) 80) (aF ((0:Int)<=pa.1/\pa.1.toNat<=a0.length/\a0.length<=a0.length) (aF (cB (((([]:List MK)++((a0.take pa.1.toNat).drop 0))++([(⟨a1,a2⟩:MK)]:List MK)).length+((a0.take a0.length).drop pa.1.toNat).length) 80) (some (((([]:List MK)++((a0.take pa.1.toNat).drop 0))++([(⟨a1,a2⟩:MK)]:List MK))++((a0.take a0.length).drop pa.1.toNat),true)))))))
def uE.f (k:Nat) (a0:mJ) (a1:dm) (a2:ak):Option (mJ×Bool×Int):=(iC.f k a2).bind λta=>cond (a2.bf != 1) (some ((⟨a0.fL,a0.fP⟩:mJ),false,1)) (cond (!ta) (some ((⟨a0.fL,a0.fP⟩:mJ),false,1)) ((pK.f k a1 a2.aj a2.bP a2.ah).bind λtc=>cond (tc==4) ((oh.f k a0.fP a2).bind λte=>some ((⟨a0.fL,te.1⟩:mJ),false,0)) (cond (tc != 0) (some ((⟨a0.fL,a0.fP⟩:mJ),false,tc)) ((eS.f k a1 a2.aj a2.bP).bind λtg=>(qF.f a2).bind λtj=>(nY.f k a0.fL tj tg.1).bind λtm=>some ((⟨tm.1,a0.fP⟩:mJ),tm.2,0)))))
def eM.l1 (k:Nat) (ta:iH×(List ak)) (xa:Int) (xb:List aM):Nat->Bool->Int->Option (Bool×Int×Bool)
 | 0,_,_=>none
 | ja+1,xc,xd=>cond (decide (xd<(xb.length:Int))) (cond xc (eM.l1 k ta xa xb ja true (aE (xd+1))) (aF (iB xd xb.length) (aF (iB xa ta.2.length) ((qF.f (ta.2.getD xa.toNat default)).bind λtc=>eM.l1 k ta xa xb ja (decide (xb.getD xd.toNat default=tc)) (aE (xd+1)))))) (some (xc,xd,decide (xd<(xb.length:Int))))
def eM.l0 (k:Nat) (a1:dm) (ta:iH×(List ak)):Nat->Int->List MK->Int->List ak->Int->List aM->Option (Int×Bool×(List MK)×Int×(List ak)×Int×(List aM))
 | 0,_,_,_,_,_,_=>none
 | ja+1,xa,xb,xc,xd,xe,xf=>cond (decide (xa<(ta.2.length:Int))) ((aF (iB xa ta.2.length) ((uE.f k (⟨xb,(⟨xc,xd,xe⟩:iH)⟩:mJ) a1 (ta.2.getD xa.toNat default)).bind λtc=>(eM.l1 k ta xa xf k false 0).bind λpa=>cond tc.2.1 (cond (!pa.1) (aF (iB xa ta.2.length) ((qF.f (ta.2.getD xa.toNat default)).bind λte=>aF (cB (xf.length+([te]:List aM).length) 56) (some (true,pa.1,pa.2.1,pa.2.2,!pa.1,tc.1.fL,tc.1.fP.bW,tc.1.fP.fL,tc.1.fP.bS,xf++([te]:List aM))))) (some (true,pa.1,pa.2.1,pa.2.2,!pa.1,tc.1.fL,tc.1.fP.bW,tc.1.fP.fL,tc.1.fP.bS,xf))) (some (false,pa.1,pa.2.1,pa.2.2,false,tc.1.fL,tc.1.fP.bW,tc.1.fP.fL,tc.1.fP.bS,xf)))).bind λpc=>eM.l0 k a1 ta ja (aE (xa+1)) pc.2.2.2.2.2.1 pc.2.2.2.2.2.2.1 pc.2.2.2.2.2.2.2.1 pc.2.2.2.2.2.2.2.2.1 pc.2.2.2.2.2.2.2.2.2) (some (xa,decide (xa<(ta.2.length:Int)),xb,xc,xd,xe,xf))
def eM.f (k:Nat) (a0:mJ) (a1:dm) (a2:BA) (a3:BA):Option (mJ×(List aM)):=(eS.f k a1 a2 a3).bind λta=>cond (!ta.2) (some ((⟨a0.fL,a0.fP⟩:mJ),([]:List aM))) ((lu.f k a0.fP a2 a3).bind λtc=>(eM.l0 k a1 tc k 0 a0.fL tc.1.bW tc.1.fL tc.1.bS ([]:List aM)).bind λpa=>some ((⟨pa.2.2.1,(⟨pa.2.2.2.1,pa.2.2.2.2.1,pa.2.2.2.2.2.1⟩:iH)⟩:mJ),pa.2.2.2.2.2.2))
def uy.f (a0:rL):Option (Int):=some (aE (a0.dL+(a0.fL.length:Int)))
def sC.f (a0:rL) (a1:mu):Option (rL):=(uy.f a0).bind λta=>cond (decide (1099511627776<=ta)) (some a0) (aF (cB (([]:List mu).length+a0.fL.length) 80) (aF (cB ((([]:List mu)++a0.fL).length+([a1]:List mu).length) 80) (some (⟨a0.eZ,a0.bK,a0.aS,a0.fV,a0.fM,a0.fT,a0.fP,(([]:List mu)++a0.fL)++([a1]:List mu),a0.dL,a0.fQ,a0.fF⟩:rL))))
def kL.l0 (k:Nat) (ta:mJ×(List aM)):Nat->Int->rL->Option (Int×Bool×rL)
 | 0,_,_=>none
 | ja+1,xa,xb=>cond (decide (xa<(ta.2.length:Int))) (aF (iB xa ta.2.length) ((sC.f xb (⟨1,ta.2.getD xa.toNat default,eE⟩:mu)).bind λtc=>kL.l0 k ta ja (aE (xa+1)) tc)) (some (xa,decide (xa<(ta.2.length:Int)),xb))
def kL.f (k:Nat) (a0:rL) (a1:Event):Option (rL×Int):=(eT.f k a0.fV a1).bind λta=>cond (ta.2 != 0) (some (a0,ta.2)) ((eM.f k a0.fM ta.1 a1.aj a1.cC).bind λtc=>(kL.l0 k tc k 0 (⟨a0.eZ,a0.bK,a0.aS,ta.1,(⟨tc.1.fL,tc.1.fP⟩:mJ),a0.fT,a0.fP,a0.fL,a0.dL,a0.fQ,a0.fF⟩:rL)).bind λpa=>some (pa.2.2,0))
def lv.f (k:Nat) (a0:WS):Option (Bool×WS):=cond (decide ((a0.fE.length:Int)<=a0.fN)) (some (true,(⟨a0.fS,a0.fR,a0.fE,a0.fN⟩:WS))) (aF (iB a0.fN a0.fE.length) ((kL.f k a0.fR (a0.fE.getD a0.fN.toNat default)).bind λta=>aF (iB (aE ((aE (a0.fN+1))-1)) a0.fE.length) ((server_Server_Event.f k a0.fS (a0.fE.getD ((aE ((aE (a0.fN+1))-1)).toNat) default)).bind λtc=>some ((tc.1==ta.2),(⟨tc.2,ta.1,a0.fE,aE (a0.fN+1)⟩:WS)))))
def o9.f (a0:cV) (a1:BA):Option (BA):=cond ((a0.fU.tmod 4)==3) ((kE.f a0.fU).bind λta=>some ta) ((dq.f a0.fU 3).bind λtc=>aF (iB tc (([(⟨#[64,97,58]⟩:BA),(⟨#[64,98,58]⟩:BA),(⟨#[64,99,58]⟩:BA)]:List BA).length)) (aF ((az.at ([(⟨#[64,97,58]⟩:BA),(⟨#[64,98,58]⟩:BA),(⟨#[64,99,58]⟩:BA)]:List BA) tc).size+a1.size<=9223372036854775807) (some ((az.at ([(⟨#[64,97,58]⟩:BA),(⟨#[64,98,58]⟩:BA),(⟨#[64,99,58]⟩:BA)]:List BA) tc)++a1))))
def lJ.f (k:Nat) (a0:Int):Option (BA):=(dq.f a0 11).bind λta=>cond (ta==9) (some eE) (cond (ta==10) (some (⟨#[109,97,105,110]⟩:BA)) ((dw.f k ta).bind λtc=>some tc))
def eA.l0 (k:Nat) (a0:List dW) (a1:aM):Nat->Int->Option ((Int×Bool) ⊕ (Pos))
 | 0,_=>none
 | ja+1,xa=>cond (decide (xa<(a0.length:Int))) (aF (iB xa a0.length) (cond (decide ((dW.K.at a0 xa).kD=a1)) (aF (iB xa a0.length) (some (.inr ((dW.K.at a0 xa).sJ)))) (eA.l0 k a0 a1 ja (aE (xa+1))))) (some (.inl (xa,decide (xa<(a0.length:Int)))))
def eA.f (k:Nat) (a0:List dW) (a1:aM):Option (Pos):=(eA.l0 k a0 a1 k 0).bind (fall λpa=>some (⟨0,eE⟩:Pos))
def b7.l0 (k:Nat) (a0:List dW) (a1:dW->Option Bool):Nat->Int->Option ((Int×Bool) ⊕ (Int))
 | 0,_=>none
 | ja+1,xa=>cond (decide (xa<(a0.length:Int))) (aF (iB xa a0.length) ((a1 (⟨(dW.K.at a0 xa).kD,(dW.K.at a0 xa).sJ⟩:dW)).bind λta=>cond ta (some (.inr xa)) (b7.l0 k a0 a1 ja (aE (xa+1))))) (some (.inl (xa,decide (xa<(a0.length:Int)))))
def b7.f (k:Nat) (a0:List dW) (a1:dW->Option Bool):Option (Int):=(b7.l0 k a0 a1 k 0).bind (fall λpa=>some (-1))
def slices_DeleteFunc_Mark.l0 (k:Nat) (a1:dW->Option Bool):Nat->Int->Int->List dW->Option (Int×Int×Bool×(List dW))
 | 0,_,_,_=>none
 | ja+1,xa,xb,xc=>cond (decide (xb<(xc.length:Int))) (aF (iB xb xc.length) ((a1 (⟨(xc.getD xb.toNat default).kD,(xc.getD xb.toNat default).sJ⟩:dW)).bind λta=>cond (!ta) (aF (iB xa xc.length) (slices_DeleteFunc_Mark.l0 k a1 ja (aE (xa+1)) (aE (xb+1)) (xc.set xa.toNat (⟨(xc.getD xb.toNat default).kD,(xc.getD xb.toNat default).sJ⟩:dW)))) (slices_DeleteFunc_Mark.l0 k a1 ja xa (aE (xb+1)) xc))) (some (xa,xb,decide (xb<(xc.length:Int)),xc))
def slices_DeleteFunc_Mark.f (k:Nat) (a0:List dW) (a1:dW->Option Bool):Option ((List dW)):=(b7.f k a0 a1).bind λta=>cond (ta==(-1)) (some a0) ((slices_DeleteFunc_Mark.l0 k a1 k ta (aE (ta+1)) a0).bind λpa=>aF ((0:Int)<=pa.1/\pa.1.toNat<pa.2.2.2.length) (aF ((0:Int)<=pa.1/\0<=pa.1.toNat/\pa.1.toNat<=(pa.2.2.2.take pa.1.toNat++List.replicate (pa.2.2.2.length-pa.1.toNat) (⟨(⟨eE,eE,eE,false⟩:aM),(⟨0,eE⟩:Pos)⟩:dW)).length) (some (((pa.2.2.2.take pa.1.toNat++List.replicate (pa.2.2.2.length-pa.1.toNat) (⟨(⟨eE,eE,eE,false⟩:aM),(⟨0,eE⟩:Pos)⟩:dW)).take pa.1.toNat).drop 0))))
def jk.f (a0:Bool):Option (Int):=cond a0 (some 1) (some 0)
def jz.f (k:Nat) (a0:aM) (a1:aM):Option (Int):=(bu.f a0.aj a1.aj).bind λta=>(bu.f a0.aC a1.aC).bind λtc=>(bu.f a0.ah a1.ah).bind λte=>(jk.f a0.ay).bind λtg=>(jk.f a1.ay).bind λtj=>(dj.f tg tj).bind λtm=>(b8.f k ([ta,tc,te,tm]:List Int)).bind λtn=>some tn
def iL.f (k:Nat) (a0:dW) (a1:dW):Option (Int):=(jz.f k a0.kD a1.kD).bind λta=>some ta
def DR (x y:aM):Int:=C8 (nS x.aj y.aj) (C8 (nS x.aC y.aC) (C8 (nS x.ah y.ah) (rS (if x.ay then 1 else 0) (if y.ay then 1 else 0))))
def aD.cf (x y:dW):Int:=DR x.kD y.kD
def aD.f (xs:List dW):Option (List dW):=aF (xs.length<=1000000/\xs.Pairwise λx y=>ltOf aD.cf x y=true\/ltOf aD.cf y x=true) (some (lW aD.cf xs))
def iz.f (a0:gP):Option ((List dW)):=aF (a0.dA.length<=1000000/\(a0.dA.map (λe:aM×Pos=>(⟨e.1,e.2⟩:dW))).Pairwise λx y=>ltOf aD.cf x y=true\/ltOf aD.cf y x=true) (some (lW aD.cf (a0.dA.map (λe:aM×Pos=>(⟨e.1,e.2⟩:dW)))))
def eo.f (a0:dW):Option (Bool):=some a0.kD.ay
def fu.f (k:Nat) (a0:gP):Option ((List dW)):=(iz.f a0).bind λta=>(slices_DeleteFunc_Mark.f k ta eo.f).bind λtc=>some tc
def dC.f (k:Nat) (a0:bY):Option ((List dW)):=(fu.f k a0.fall.aA.j2).bind λta=>some ta
def fq.f (k:Nat) (a0:bY) (a1:BA) (a2:BA) (a3:BA) (a4:BA) (a5:Bool):Option (Int×bY):=(bF.f k a0 (⟨1,a2,a1,a3,a4,a5,false,0,0,0,0⟩:ak)).bind λta=>some (ta.1,ta.2)
def oP.f (k:Nat) (a0:ak):Option (Bool):=(iC.f k a0).bind λta=>cond ta (some (!a0.ay)) (some false)
def aN.l0 (k:Nat) (a2:List cV):Nat->Int->WS->Option ((Int×Bool×WS) ⊕ (Bool))
 | 0,_,_=>none
 | ja+1,xa,xb=>cond (decide (xa<(a2.length:Int))) (cond (decide (xa<10)) (aF (iB xa a2.length) ((iK.f ((cV.K.at a2 xa).fR)).bind λta=>(o9.f (cV.K.at a2 xa) (⟨#[115,49]⟩:BA)).bind λtc=>(lJ.f k ((cV.K.at a2 xa).fT)).bind λte=>(dC.f k xb.fS).bind λtg=>(eA.f k tg (⟨ta,tc,te,false⟩:aM)).bind λtj=>(dw.f k ((cV.K.at a2 xa).fE)).bind λtm=>(fq.f k xb.fS tc ta tm te false).bind λtn=>(dC.f k tn.2).bind λtp=>(eA.f k tp (⟨ta,tc,te,false⟩:aM)).bind λtq=>(dw.f k ((cV.K.at a2 xa).fE)).bind λtu=>(eS.f k xb.fR.fV ta tu).bind λtv=>cond (tn.1==0) (cond (!decide (tq=tv.1)) (some (.inr false)) (cond (!tv.2) (some (.inr false)) (cond (!decide (tj.cC=eE)) ((bD.f tj tv.1).bind λtw=>cond (!tw) (some (.inr false)) (cond (tn.1 != 0) (cond (!decide (tq=tj)) (some (.inr false)) (cond (tn.1==8) (cond (decide (tj.cC=eE)) (some (.inr false)) ((bD.f tj tv.1).bind λtx=>cond tx (some (.inr false)) (aN.l0 k a2 ja (aE (xa+1)) (⟨tn.2,xb.fR,xb.fE,xb.fN⟩:WS)))) (aN.l0 k a2 ja (aE (xa+1)) (⟨tn.2,xb.fR,xb.fE,xb.fN⟩:WS)))) (cond (tn.1==8) (cond (decide (tj.cC=eE)) (some (.inr false)) ((bD.f tj tv.1).bind λtz=>cond tz (some (.inr false)) (aN.l0 k a2 ja (aE (xa+1)) (⟨tn.2,xb.fR,xb.fE,xb.fN⟩:WS)))) (aN.l0 k a2 ja (aE (xa+1)) (⟨tn.2,xb.fR,xb.fE,xb.fN⟩:WS))))) (cond (tn.1 != 0) (cond (!decide (tq=tj)) (some (.inr false)) (cond (tn.1==8) (cond (decide (tj.cC=eE)) (some (.inr false)) ((bD.f tj tv.1).bind λtaa=>cond taa (some (.inr false)) (aN.l0 k a2 ja (aE (xa+1)) (⟨tn.2,xb.fR,xb.fE,xb.fN⟩:WS)))) (aN.l0 k a2 ja (aE (xa+1)) (⟨tn.2,xb.fR,xb.fE,xb.fN⟩:WS)))) (cond (tn.1==8) (cond (decide (tj.cC=eE)) (some (.inr false)) ((bD.f tj tv.1).bind λtac=>cond tac (some (.inr false)) (aN.l0 k a2 ja (aE (xa+1)) (⟨tn.2,xb.fR,xb.fE,xb.fN⟩:WS)))) (aN.l0 k a2 ja (aE (xa+1)) (⟨tn.2,xb.fR,xb.fE,xb.fN⟩:WS))))))) (cond (tn.1 != 0) (cond (!decide (tq=tj)) (some (.inr false)) (cond (tn.1==8) (cond (decide (tj.cC=eE)) (some (.inr false)) ((bD.f tj tv.1).bind λtad=>cond tad (some (.inr false)) (aN.l0 k a2 ja (aE (xa+1)) (⟨tn.2,xb.fR,xb.fE,xb.fN⟩:WS)))) (aN.l0 k a2 ja (aE (xa+1)) (⟨tn.2,xb.fR,xb.fE,xb.fN⟩:WS)))) (cond (tn.1==8) (cond (decide (tj.cC=eE)) (some (.inr false)) ((bD.f tj tv.1).bind λtae=>cond tae (some (.inr false)) (aN.l0 k a2 ja (aE (xa+1)) (⟨tn.2,xb.fR,xb.fE,xb.fN⟩:WS)))) (aN.l0 k a2 ja (aE (xa+1)) (⟨tn.2,xb.fR,xb.fE,xb.fN⟩:WS)))))) (some (.inl (xa,decide (xa<10),xb)))) (some (.inl (xa,false,xb)))
def aN.l1 (k:Nat):Nat->Int->WS->Option (Int×Bool×WS)
 | 0,_,_=>none
 | ja+1,xa,xb=>cond (decide (xa<18)) ((lv.f k xb).bind λta=>aN.l1 k ja (aE (xa+1)) ta.2) (some (xa,decide (xa<18),xb))
def aN.f (k:Nat) (a0:List dV) (a1:List dV) (a2:List cV):Option (Bool):=(oy.f k a0 a1 0 0).bind λta=>cond ta.isNone (some false) ((aN.l1 k k 0 (ta.getD default)).bind λpa=>(aN.l0 k a2 k 0 pa.2.2).bind (fall λpc=>(oP.f k (⟨3,eE,(⟨#[64,97,58,115,49]⟩:BA),eE,eE,false,false,0,0,0,0⟩:ak)).bind λtc=>cond tc ((ow.f k).bind λte=>some te) (some false)))
end Go.Proofs.YtelcbdmigiacpaaGreat
