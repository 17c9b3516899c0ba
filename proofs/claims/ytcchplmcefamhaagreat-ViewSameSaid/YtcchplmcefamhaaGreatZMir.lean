import Derived.Test.YtcchplmcefamhaaGreatChecked
import Derived.Test.YtcchplmcefamhaaGreatConQ
import Derived.Test.YtcchplmcefamhaaGreatConA6
import Derived.Test.YtcchplmcefamhaaGreatConC2
import Derived.Eval
set_option linter.all false
set_option maxRecDepth 10000
set_option maxHeartbeats 20000000
namespace Go.Proofs.YtcchplmcefamhaaGreat
open Go Go.Sp
theorem c127:Tryz.prog.cellsOf 127 = 1:=by kernel_rfl
theorem c24:Tryz.prog.cellsOf 24 = 1:=by kernel_rfl
theorem c26:Tryz.prog.cellsOf 26 = 1:=by kernel_rfl
theorem c3:Tryz.prog.cellsOf 3 = 1:=by kernel_rfl
theorem c33:Tryz.prog.cellsOf 33 = 1:=by kernel_rfl
theorem c38:Tryz.prog.cellsOf 38 = 1:=by kernel_rfl
theorem c4:Tryz.prog.cellsOf 4 = 1:=by kernel_rfl
theorem c40:Tryz.prog.cellsOf 40 = 6:=by kernel_rfl
theorem c5:Tryz.prog.cellsOf 5 = 1:=by kernel_rfl
theorem c52:Tryz.prog.cellsOf 52 = 2:=by kernel_rfl
theorem c56:Tryz.prog.cellsOf 56 = 1:=by kernel_rfl
theorem c68:Tryz.prog.cellsOf 68 = 2:=by kernel_rfl
theorem c72:Tryz.prog.cellsOf 72 = 1:=by kernel_rfl
theorem c74:Tryz.prog.cellsOf 74 = 4:=by kernel_rfl
theorem c80:Tryz.prog.cellsOf 80 = 1:=by kernel_rfl
theorem c9:Tryz.prog.cellsOf 9 = 1:=by kernel_rfl
theorem cal10:callable Tryz.prog 10 = true:=by kernel_rfl
theorem cal103:callable Tryz.prog 103 = true:=by kernel_rfl
theorem cal104:callable Tryz.prog 104 = true:=by kernel_rfl
theorem cal105:callable Tryz.prog 105 = true:=by kernel_rfl
theorem cal106:callable Tryz.prog 106 = true:=by kernel_rfl
theorem cal107:callable Tryz.prog 107 = true:=by kernel_rfl
theorem cal108:callable Tryz.prog 108 = true:=by kernel_rfl
theorem cal11:callable Tryz.prog 11 = true:=by kernel_rfl
theorem cal112:callable Tryz.prog 112 = true:=by kernel_rfl
theorem cal113:callable Tryz.prog 113 = true:=by kernel_rfl
theorem cal12:callable Tryz.prog 12 = true:=by kernel_rfl
theorem cal13:callable Tryz.prog 13 = true:=by kernel_rfl
theorem cal14:callable Tryz.prog 14 = true:=by kernel_rfl
theorem cal15:callable Tryz.prog 15 = true:=by kernel_rfl
theorem cal16:callable Tryz.prog 16 = true:=by kernel_rfl
theorem cal17:callable Tryz.prog 17 = true:=by kernel_rfl
theorem cal18:callable Tryz.prog 18 = true:=by kernel_rfl
theorem cal19:callable Tryz.prog 19 = true:=by kernel_rfl
theorem cal20:callable Tryz.prog 20 = true:=by kernel_rfl
theorem cal21:callable Tryz.prog 21 = true:=by kernel_rfl
theorem cal22:callable Tryz.prog 22 = true:=by kernel_rfl
theorem cal23:callable Tryz.prog 23 = true:=by kernel_rfl
theorem cal24:callable Tryz.prog 24 = true:=by kernel_rfl
theorem cal25:callable Tryz.prog 25 = true:=by kernel_rfl
theorem cal26:callable Tryz.prog 26 = true:=by kernel_rfl
theorem cal27:callable Tryz.prog 27 = true:=by kernel_rfl
theorem cal28:callable Tryz.prog 28 = true:=by kernel_rfl
theorem cal29:callable Tryz.prog 29 = true:=by kernel_rfl
theorem cal30:callable Tryz.prog 30 = true:=by kernel_rfl
theorem cal31:callable Tryz.prog 31 = true:=by kernel_rfl
theorem cal32:callable Tryz.prog 32 = true:=by kernel_rfl
theorem cal33:callable Tryz.prog 33 = true:=by kernel_rfl
theorem cal34:callable Tryz.prog 34 = true:=by kernel_rfl
theorem cal35:callable Tryz.prog 35 = true:=by kernel_rfl
theorem cal36:callable Tryz.prog 36 = true:=by kernel_rfl
theorem cal37:callable Tryz.prog 37 = true:=by kernel_rfl
theorem cal38:callable Tryz.prog 38 = true:=by kernel_rfl
theorem cal39:callable Tryz.prog 39 = true:=by kernel_rfl
theorem cal4:callable Tryz.prog 4 = true:=by kernel_rfl
theorem cal40:callable Tryz.prog 40 = true:=by kernel_rfl
theorem cal41:callable Tryz.prog 41 = true:=by kernel_rfl
theorem cal42:callable Tryz.prog 42 = true:=by kernel_rfl
theorem cal43:callable Tryz.prog 43 = true:=by kernel_rfl
theorem cal46:callable Tryz.prog 46 = true:=by kernel_rfl
theorem cal47:callable Tryz.prog 47 = true:=by kernel_rfl
theorem cal48:callable Tryz.prog 48 = true:=by kernel_rfl
theorem cal49:callable Tryz.prog 49 = true:=by kernel_rfl
theorem cal5:callable Tryz.prog 5 = true:=by kernel_rfl
theorem cal50:callable Tryz.prog 50 = true:=by kernel_rfl
theorem cal51:callable Tryz.prog 51 = true:=by kernel_rfl
theorem cal52:callable Tryz.prog 52 = true:=by kernel_rfl
theorem cal53:callable Tryz.prog 53 = true:=by kernel_rfl
theorem cal54:callable Tryz.prog 54 = true:=by kernel_rfl
theorem cal55:callable Tryz.prog 55 = true:=by kernel_rfl
theorem cal56:callable Tryz.prog 56 = true:=by kernel_rfl
theorem cal57:callable Tryz.prog 57 = true:=by kernel_rfl
theorem cal6:callable Tryz.prog 6 = true:=by kernel_rfl
theorem cal69:callable Tryz.prog 69 = true:=by kernel_rfl
theorem cal7:callable Tryz.prog 7 = true:=by kernel_rfl
theorem cal71:callable Tryz.prog 71 = true:=by kernel_rfl
theorem cal72:callable Tryz.prog 72 = true:=by kernel_rfl
theorem cal73:callable Tryz.prog 73 = true:=by kernel_rfl
theorem cal74:callable Tryz.prog 74 = true:=by kernel_rfl
theorem cal75:callable Tryz.prog 75 = true:=by kernel_rfl
theorem cal8:callable Tryz.prog 8 = true:=by kernel_rfl
theorem cal81:callable Tryz.prog 81 = true:=by kernel_rfl
theorem cal83:callable Tryz.prog 83 = true:=by kernel_rfl
theorem cal84:callable Tryz.prog 84 = true:=by kernel_rfl
theorem cal85:callable Tryz.prog 85 = true:=by kernel_rfl
theorem cal86:callable Tryz.prog 86 = true:=by kernel_rfl
theorem cal87:callable Tryz.prog 87 = true:=by kernel_rfl
theorem cal88:callable Tryz.prog 88 = true:=by kernel_rfl
theorem cal89:callable Tryz.prog 89 = true:=by kernel_rfl
theorem cal9:callable Tryz.prog 9 = true:=by kernel_rfl
theorem cal90:callable Tryz.prog 90 = true:=by kernel_rfl
theorem cal91:callable Tryz.prog 91 = true:=by kernel_rfl
theorem cal92:callable Tryz.prog 92 = true:=by kernel_rfl
theorem cal93:callable Tryz.prog 93 = true:=by kernel_rfl
theorem inf3:∃ i,Tryz.prog.info? 3 = some i∧i.size = 1∧i.zero = some (.int .i64 0)∧i.bytes = 8:=inf_of (by kernel_rfl) (by kernel_rfl) (by kernel_rfl)
theorem inf4:∃ i,Tryz.prog.info? 4 = some i∧i.size = 1∧i.zero = some (.bool false)∧i.bytes = 1:=inf_of (by kernel_rfl) (by kernel_rfl) (by kernel_rfl)
theorem inf40:∃ i,Tryz.prog.info? 40 = some i∧i.size = 6∧i.zero = some (.agg #[.string ⟨#[]⟩,.string ⟨#[]⟩,.slice none 0 0,.string ⟨#[]⟩,.string ⟨#[]⟩,.int .i64 0])∧i.bytes = 96:=inf_of (by kernel_rfl) (by kernel_rfl) (by kernel_rfl)
theorem inf52:∃ i,Tryz.prog.info? 52 = some i∧i.size = 2∧i.zero = some (.agg #[.string ⟨#[]⟩,.slice none 0 0])∧i.bytes = 40:=inf_of (by kernel_rfl) (by kernel_rfl) (by kernel_rfl)
theorem inf68:∃ i,Tryz.prog.info? 68 = some i∧i.size = 2∧i.zero = some (.agg #[.int .i64 0,.string ⟨#[]⟩])∧i.bytes = 24:=inf_of (by kernel_rfl) (by kernel_rfl) (by kernel_rfl)
theorem inf9:∃ i,Tryz.prog.info? 9 = some i∧i.size = 1∧i.zero = some (.string ⟨#[]⟩)∧i.bytes = 16:=inf_of (by kernel_rfl) (by kernel_rfl) (by kernel_rfl)
theorem fa26_0:FA Tryz.prog 26 0 0:=⟨_,_,_,_,Tryz.underlying26,rfl,Tryz.underlying24,c24,by decide,rfl⟩
theorem fa40_0:FA Tryz.prog 40 0 0:=⟨_,_,_,_,Tryz.underlying40,rfl,Tryz.underlying9,c9,by decide,rfl⟩
theorem fa40_1:FA Tryz.prog 40 1 1:=⟨_,_,_,_,Tryz.underlying40,rfl,Tryz.underlying9,c9,by decide,rfl⟩
theorem fa40_2:FA Tryz.prog 40 2 2:=⟨_,_,_,_,Tryz.underlying40,rfl,Tryz.underlying38,c38,by decide,rfl⟩
theorem fa40_3:FA Tryz.prog 40 3 3:=⟨_,_,_,_,Tryz.underlying40,rfl,Tryz.underlying9,c9,by decide,rfl⟩
theorem fa40_4:FA Tryz.prog 40 4 4:=⟨_,_,_,_,Tryz.underlying40,rfl,Tryz.underlying9,c9,by decide,rfl⟩
theorem fa40_5:FA Tryz.prog 40 5 5:=⟨_,_,_,_,Tryz.underlying40,rfl,Tryz.underlying3,c3,by decide,rfl⟩
theorem fa52_0:FA Tryz.prog 52 0 0:=⟨_,_,_,_,Tryz.underlying52,rfl,Tryz.underlying9,c9,by decide,rfl⟩
theorem fa52_1:FA Tryz.prog 52 1 1:=⟨_,_,_,_,Tryz.underlying52,rfl,Tryz.underlying33,c33,by decide,rfl⟩
theorem fa58_0:FA Tryz.prog 58 0 0:=⟨_,_,_,_,Tryz.underlying58,rfl,Tryz.underlying56,c56,by decide,rfl⟩
theorem fa68_0:FA Tryz.prog 68 0 0:=⟨_,_,_,_,Tryz.underlying68,rfl,Tryz.underlying3,c3,by decide,rfl⟩
theorem fa68_1:FA Tryz.prog 68 1 1:=⟨_,_,_,_,Tryz.underlying68,rfl,Tryz.underlying9,c9,by decide,rfl⟩
theorem fa74_0:FA Tryz.prog 74 0 0:=⟨_,_,_,_,Tryz.underlying74,rfl,Tryz.underlying3,c3,by decide,rfl⟩
theorem fa74_1:FA Tryz.prog 74 1 1:=⟨_,_,_,_,Tryz.underlying74,rfl,Tryz.underlying3,c3,by decide,rfl⟩
theorem fa74_2:FA Tryz.prog 74 2 2:=⟨_,_,_,_,Tryz.underlying74,rfl,Tryz.underlying72,c72,by decide,rfl⟩
theorem fa74_3:FA Tryz.prog 74 3 3:=⟨_,_,_,_,Tryz.underlying74,rfl,Tryz.underlying3,c3,by decide,rfl⟩
theorem fa82_0:FA Tryz.prog 82 0 0:=⟨_,_,_,_,Tryz.underlying82,rfl,Tryz.underlying9,c9,by decide,rfl⟩
theorem fa82_1:FA Tryz.prog 82 1 1:=⟨_,_,_,_,Tryz.underlying82,rfl,Tryz.underlying80,c80,by decide,rfl⟩
theorem fa85_0:FA Tryz.prog 85 0 0:=⟨_,_,_,_,Tryz.underlying85,rfl,Tryz.underlying40,c40,by decide,rfl⟩
theorem fa85_1:FA Tryz.prog 85 1 6:=⟨_,_,_,_,Tryz.underlying85,rfl,Tryz.underlying3,c3,by decide,rfl⟩
theorem fa85_2:FA Tryz.prog 85 2 7:=⟨_,_,_,_,Tryz.underlying85,rfl,Tryz.underlying4,c4,by decide,rfl⟩
theorem sc23:SC Tryz.prog 23:=⟨_,Tryz.underlying23,rfl⟩
theorem sc24:SC Tryz.prog 24:=⟨_,Tryz.underlying24,rfl⟩
theorem sc3:SC Tryz.prog 3:=⟨_,Tryz.underlying3,rfl⟩
theorem sc33:SC Tryz.prog 33:=⟨_,Tryz.underlying33,rfl⟩
theorem sc38:SC Tryz.prog 38:=⟨_,Tryz.underlying38,rfl⟩
theorem sc56:SC Tryz.prog 56:=⟨_,Tryz.underlying56,rfl⟩
theorem sc59:SC Tryz.prog 59:=⟨_,Tryz.underlying59,rfl⟩
theorem sc72:SC Tryz.prog 72:=⟨_,Tryz.underlying72,rfl⟩
theorem sc80:SC Tryz.prog 80:=⟨_,Tryz.underlying80,rfl⟩
theorem sc9:SC Tryz.prog 9:=⟨_,Tryz.underlying9,rfl⟩
theorem sg26:SG Tryz.prog 26 1:=⟨_,Tryz.underlying26,rfl,c26⟩
theorem sg40:SG Tryz.prog 40 6:=⟨_,Tryz.underlying40,rfl,c40⟩
theorem sg52:SG Tryz.prog 52 2:=⟨_,Tryz.underlying52,rfl,c52⟩
theorem sz26:SZ Tryz.prog 26 1:=⟨_,Tryz.underlying26,c26⟩
theorem sz3:SZ Tryz.prog 3 1:=⟨_,Tryz.underlying3,c3⟩
theorem sz38:SZ Tryz.prog 38 1:=⟨_,Tryz.underlying38,c38⟩
theorem sz4:SZ Tryz.prog 4 1:=⟨_,Tryz.underlying4,c4⟩
theorem sz40:SZ Tryz.prog 40 6:=⟨_,Tryz.underlying40,c40⟩
theorem sz52:SZ Tryz.prog 52 2:=⟨_,Tryz.underlying52,c52⟩
theorem sz68:SZ Tryz.prog 68 2:=⟨_,Tryz.underlying68,c68⟩
theorem sz9:SZ Tryz.prog 9 1:=⟨_,Tryz.underlying9,c9⟩
theorem pl26:plcT Tryz.prog 26 = true:=by kernel_rfl
theorem pl40:plcT Tryz.prog 40 = true:=by kernel_rfl
theorem pl52:plcT Tryz.prog 52 = true:=by kernel_rfl
theorem pl58:plcT Tryz.prog 58 = true:=by kernel_rfl
theorem pl68:plcT Tryz.prog 68 = true:=by kernel_rfl
theorem pl82:plcT Tryz.prog 82 = true:=by kernel_rfl
theorem pl85:plcT Tryz.prog 85 = true:=by kernel_rfl
theorem xf115:(Extern.findNext Tryz.f115).isNone = true:=by kernel_rfl
theorem xg115:Extern.find Tryz.f115 = some Extern.BytealgIndexByte.indexByte:=by rfl
theorem z130:zer Tryz.prog 130 = some (.agg #[.nilFunc,.nilFunc,.nilFunc]):=by kernel_rfl
theorem z26:zer Tryz.prog 26 = some (.agg #[.slice none 0 0]):=by kernel_rfl
theorem z3:zer Tryz.prog 3 = some (.int .i64 0):=by kernel_rfl
theorem z40:zer Tryz.prog 40 = some (.agg #[.string ⟨#[]⟩,.string ⟨#[]⟩,.slice none 0 0,.string ⟨#[]⟩,.string ⟨#[]⟩,.int .i64 0]):=by kernel_rfl
theorem z5:zer Tryz.prog 5 = some (.int .u8 0):=by kernel_rfl
theorem z52:zer Tryz.prog 52 = some (.agg #[.string ⟨#[]⟩,.slice none 0 0]):=by kernel_rfl
theorem z58:zer Tryz.prog 58 = some (.agg #[.map none]):=by kernel_rfl
theorem z59:zer Tryz.prog 59 = some (.pointer none):=by kernel_rfl
theorem z68:zer Tryz.prog 68 = some (.agg #[.int .i64 0,.string ⟨#[]⟩]):=by kernel_rfl
theorem z82:zer Tryz.prog 82 = some (.agg #[.string ⟨#[]⟩,.map none]):=by kernel_rfl
theorem z83:zer Tryz.prog 83 = some (.pointer none):=by kernel_rfl
theorem z85:zer Tryz.prog 85 = some (.agg #[.string ⟨#[]⟩,.string ⟨#[]⟩,.slice none 0 0,.string ⟨#[]⟩,.string ⟨#[]⟩,.int .i64 0,.int .i64 0,.bool false]):=by kernel_rfl
theorem z9:zer Tryz.prog 9 = some (.string ⟨#[]⟩):=by kernel_rfl
theorem zc26:ZC Tryz.prog 26 [eq (.slice none 0 0)]:=⟨_,z26,rfl⟩
theorem zc40:ZC Tryz.prog 40 [eq (.string (⟨#[]⟩:ByteArray)),eq (.string (⟨#[]⟩:ByteArray)),eq (.slice none 0 0),eq (.string (⟨#[]⟩:ByteArray)),eq (.string (⟨#[]⟩:ByteArray)),eq (.int .i64 0)]:=⟨_,z40,rfl⟩
theorem zc52:ZC Tryz.prog 52 [eq (.string (⟨#[]⟩:ByteArray)),eq (.slice none 0 0)]:=⟨_,z52,rfl⟩
theorem zc68:ZC Tryz.prog 68 [eq (.int .i64 0),eq (.string (⟨#[]⟩:ByteArray))]:=⟨_,z68,rfl⟩
structure Event where
 fID:ByteArray
 fRoom:ByteArray
 fParents:List ByteArray
 fThread:ByteArray
 fUser:ByteArray
 fDoes:Int
 deriving DecidableEq,Inhabited
abbrev Event.enc (x:Event):Cs:=[eq (.string x.fID),eq (.string x.fRoom),sl strK x.fParents,eq (.string x.fThread),eq (.string x.fUser),eq (.int .i64 x.fDoes)]
abbrev Event.K:Kd Event:=⟨6,default,Event.enc,fun _=>rfl,fun _=>(ones_cons (one_eq rfl) (ones_cons (one_eq rfl) (ones_cons one_sl (ones_cons (one_eq rfl) (ones_cons (one_eq rfl) (ones_cons (one_eq rfl) ones_nil))))))⟩
structure RDag where
 fRoom:ByteArray
 fL:List Event
 deriving DecidableEq,Inhabited
abbrev RDag.enc (x:RDag):Cs:=[eq (.string x.fRoom),sl Event.K x.fL]
abbrev RDag.K:Kd RDag:=⟨2,default,RDag.enc,fun _=>rfl,fun _=>(ones_cons (one_eq rfl) (ones_cons one_sl ones_nil))⟩
structure GMade where
 fUser:Int
 fDoes:Int
 fParents:List Int
 fThread:Int
 deriving DecidableEq,Inhabited
abbrev GMade.enc (x:GMade):Cs:=[eq (.int .i64 x.fUser),eq (.int .i64 x.fDoes),sl (intK .i64) x.fParents,eq (.int .i64 x.fThread)]
abbrev GMade.K:Kd GMade:=⟨4,default,GMade.enc,fun _=>rfl,fun _=>(ones_cons (one_eq rfl) (ones_cons (one_eq rfl) (ones_cons one_sl (ones_cons (one_eq rfl) ones_nil))))⟩
structure DNode where
 fe:Event
 fdepth:Int
 fparent:Bool
 deriving DecidableEq,Inhabited
abbrev DNode.enc (x:DNode):Cs:=[eq (.string x.fe.fID),eq (.string x.fe.fRoom),sl strK x.fe.fParents,eq (.string x.fe.fThread),eq (.string x.fe.fUser),eq (.int .i64 x.fe.fDoes),eq (.int .i64 x.fdepth),eq (.bool x.fparent)]
abbrev DNode.K:Kd DNode:=⟨8,default,DNode.enc,fun _=>rfl,fun _=>(ones_cons (one_eq rfl) (ones_cons (one_eq rfl) (ones_cons one_sl (ones_cons (one_eq rfl) (ones_cons (one_eq rfl) (ones_cons (one_eq rfl) (ones_cons (one_eq rfl) (ones_cons (one_eq rfl) ones_nil))))))))⟩
structure DDag where
 froom:ByteArray
 fnodes:List (ByteArray×DNode)
 deriving DecidableEq,Inhabited
structure VView where
 fdags:List (ByteArray×DDag)
 deriving DecidableEq,Inhabited
structure RView where
 fD:List RDag
 deriving DecidableEq,Inhabited
abbrev RView.enc (x:RView):Cs:=[sl RDag.K x.fD]
abbrev RView.K:Kd RView:=⟨1,default,RView.enc,fun _=>rfl,fun _=>(ones_cons one_sl ones_nil)⟩
structure Pos where
 fDepth:Int
 fID:ByteArray
 deriving DecidableEq,Inhabited
abbrev Pos.enc (x:Pos):Cs:=[eq (.int .i64 x.fDepth),eq (.string x.fID)]
abbrev Pos.K:Kd Pos:=⟨2,default,Pos.enc,fun _=>rfl,fun _=>(ones_cons (one_eq rfl) (ones_cons (one_eq rfl) ones_nil))⟩
def DNode.O (p:OV) (m:DNode):As:=exA (γ:=Nat) (fun g=>p.1 = .pointer (some ⟨g,0,none⟩)) (fun g=>[blk g 85 [eq (.string m.fe.fID),eq (.string m.fe.fRoom),sl strK m.fe.fParents,eq (.string m.fe.fThread),eq (.string m.fe.fUser),eq (.int .i64 m.fe.fDoes),eq (.int .i64 m.fdepth),eq (.bool m.fparent)]])
theorem DNode.nn {p:OV} {m:DNode}:NN (DNode.O p m) p.1:=by unfold DNode.O; exact nn_ex (γ:=Nat) (b:=fun g=>g)
theorem DNode.opn {l:List As} {p:OV} {m:DNode} (j:Nat) (hj:l[j]? = some (DNode.O p m)):∀ R w,St R l w→∃ g:Nat,p.1 = .pointer (some ⟨g,0,none⟩)∧St R ([blk g 85 [eq (.string m.fe.fID),eq (.string m.fe.fRoom),sl strK m.fe.fParents,eq (.string m.fe.fThread),eq (.string m.fe.fUser),eq (.int .i64 m.fe.fDoes),eq (.int .i64 m.fdepth),eq (.bool m.fparent)]]++l.eraseIdx j) w:=st_open j hj
theorem DNode.shut {l r:List As} {p:OV} {m:DNode} (g:Nat) (hg:p.1 = .pointer (some ⟨g,0,none⟩)) (hp:l.Perm ([blk g 85 [eq (.string m.fe.fID),eq (.string m.fe.fRoom),sl strK m.fe.fParents,eq (.string m.fe.fThread),eq (.string m.fe.fUser),eq (.int .i64 m.fe.fDoes),eq (.int .i64 m.fdepth),eq (.bool m.fparent)]]++r)):∀ R w,St R l w→∃ _:Unit,True∧St R (DNode.O p m::r) w:=st_shut _ _ g hg hp
def DDag.O (p:OV) (m:DDag):As:=exA (γ:=Nat×OV) (fun g=>p.1 = .pointer (some ⟨g.1,0,none⟩)) (fun g=>[blk g.1 82 [eq (.string m.froom),eq g.2.1],mpo Value.string DNode.O g.2.1 m.fnodes])
theorem DDag.nn {p:OV} {m:DDag}:NN (DDag.O p m) p.1:=by unfold DDag.O; exact nn_ex (γ:=Nat×OV) (b:=fun g=>g.1)
theorem DDag.opn {l:List As} {p:OV} {m:DDag} (j:Nat) (hj:l[j]? = some (DDag.O p m)):∀ R w,St R l w→∃ g:Nat×OV,p.1 = .pointer (some ⟨g.1,0,none⟩)∧St R ([blk g.1 82 [eq (.string m.froom),eq g.2.1],mpo Value.string DNode.O g.2.1 m.fnodes]++l.eraseIdx j) w:=st_open j hj
theorem DDag.shut {l r:List As} {p:OV} {m:DDag} (g:Nat×OV) (hg:p.1 = .pointer (some ⟨g.1,0,none⟩)) (hp:l.Perm ([blk g.1 82 [eq (.string m.froom),eq g.2.1],mpo Value.string DNode.O g.2.1 m.fnodes]++r)):∀ R w,St R l w→∃ _:Unit,True∧St R (DDag.O p m::r) w:=st_shut _ _ g hg hp
def VView.O (p:OV) (m:VView):As:=exA (γ:=Nat×OV) (fun g=>p.1 = .pointer (some ⟨g.1,0,none⟩)) (fun g=>[blk g.1 58 [eq g.2.1],mpo Value.string DDag.O g.2.1 m.fdags])
theorem VView.nn {p:OV} {m:VView}:NN (VView.O p m) p.1:=by unfold VView.O; exact nn_ex (γ:=Nat×OV) (b:=fun g=>g.1)
theorem VView.opn {l:List As} {p:OV} {m:VView} (j:Nat) (hj:l[j]? = some (VView.O p m)):∀ R w,St R l w→∃ g:Nat×OV,p.1 = .pointer (some ⟨g.1,0,none⟩)∧St R ([blk g.1 58 [eq g.2.1],mpo Value.string DDag.O g.2.1 m.fdags]++l.eraseIdx j) w:=st_open j hj
theorem VView.shut {l r:List As} {p:OV} {m:VView} (g:Nat×OV) (hg:p.1 = .pointer (some ⟨g.1,0,none⟩)) (hp:l.Perm ([blk g.1 58 [eq g.2.1],mpo Value.string DDag.O g.2.1 m.fdags]++r)):∀ R w,St R l w→∃ _:Unit,True∧St R (VView.O p m::r) w:=st_shut _ _ g hg hp
def fqQ_string_bool (g:ByteArray→Option Bool):List VP→VP→Prop:=fun vs ret=>∃ a0 r,g a0 = some r∧vs = [eq (.string a0)]∧ret = eq (.bool r)
def fx_string_bool (X:As) (g:ByteArray→Option Bool):VP:=fnx Tryz.prog X (fqQ_string_bool g)
def fqQ_uint8_bool (g:Int→Option Bool):List VP→VP→Prop:=fun vs ret=>∃ a0 r,g a0 = some r∧vs = [eq (.int .u8 a0)]∧ret = eq (.bool r)
def fq_uint8_bool (g:Int→Option Bool):VP:=fnq Tryz.prog (fqQ_uint8_bool g)
def fK_uint8_bool:Kd (Int→Option Bool):=⟨1,fun _=>none,fun g=>[fq_uint8_bool g],fun _=>rfl,fun _ p h R v hv=>by simp at h; subst h; exact one_fnq R v hv⟩
def fqQ_api_Event_api_Event_bool (g:Event→Event→Option Bool):List VP→VP→Prop:=fun vs ret=>∃ a0 a1 r,g a0 a1 = some r∧vs = [agg (Event.enc a0),agg (Event.enc a1)]∧ret = eq (.bool r)
def fq_api_Event_api_Event_bool (g:Event→Event→Option Bool):VP:=fnq Tryz.prog (fqQ_api_Event_api_Event_bool g)
def r01_Around.f (a0:Int) (a1:Int):Option (Int):=cond (decide (a0 < 0)) (grd (a1≠0) (some ((w64 (0 - (w64 (a0 + 1)))).tmod a1))) (grd (a1≠0) (some (a0.tmod a1)))
def r01_Decimal.f:Nat→Int→Option (ByteArray)
 | 0,_=>none
 | k + 1,a0=>(cond (decide ((a0.tmod 10) < 0)) (some (w64 (0 - (a0.tmod 10)))) (some (a0.tmod 10))).bind fun (p4:Int)=>cond (decide ((-10) < a0)) (cond (decide (a0 < 10)) (cond (decide (a0 < 0)) (grd ((⟨#[45]⟩:ByteArray).size + (ofNums ([IntKind.u8.wrap (w64 (48 + p4))]:List Int)).size≤9223372036854775807) (some ((⟨#[45]⟩:ByteArray)++(ofNums ([IntKind.u8.wrap (w64 (48 + p4))]:List Int))))) (some (ofNums ([IntKind.u8.wrap (w64 (48 + p4))]:List Int)))) ((r01_Decimal.f k (w64 (a0.tdiv 10))).bind fun t9=>grd (t9.size + (ofNums ([IntKind.u8.wrap (w64 (48 + p4))]:List Int)).size≤9223372036854775807) (some (t9++(ofNums ([IntKind.u8.wrap (w64 (48 + p4))]:List Int)))))) ((r01_Decimal.f k (w64 (a0.tdiv 10))).bind fun t13=>grd (t13.size + (ofNums ([IntKind.u8.wrap (w64 (48 + p4))]:List Int)).size≤9223372036854775807) (some (t13++(ofNums ([IntKind.u8.wrap (w64 (48 + p4))]:List Int)))))
def r01_EventOf.f (k:Nat) (a0:Int):Option (ByteArray):=(r01_Around.f a0 9).bind fun t17=>(r01_Decimal.f k t17).bind fun t19=>grd ((⟨#[36,101]⟩:ByteArray).size + t19.size≤9223372036854775807) (some ((⟨#[36,101]⟩:ByteArray)++t19))
def r01_ServerOf.f (a0:Int):Option (ByteArray):=(r01_Around.f a0 3).bind fun t22=>grd ((0:Int)≤t22∧t22 < (([(⟨#[115,49]⟩:ByteArray),(⟨#[115,50]⟩:ByteArray),(⟨#[115,51]⟩:ByteArray)]:List ByteArray).length:Int)) (some (strK.at ([(⟨#[115,49]⟩:ByteArray),(⟨#[115,50]⟩:ByteArray),(⟨#[115,51]⟩:ByteArray)]:List ByteArray) t22))
def r01_UserOf.f (a0:Int):Option (ByteArray):=(r01_Around.f a0 9).bind fun t25=>grd ((0:Int)≤(w64 (t25.tdiv 3))∧(w64 (t25.tdiv 3)) < (([(⟨#[64,97,58]⟩:ByteArray),(⟨#[64,98,58]⟩:ByteArray),(⟨#[64,99,58]⟩:ByteArray)]:List ByteArray).length:Int)) ((r01_ServerOf.f (t25.tmod 3)).bind fun t28=>grd ((strK.at ([(⟨#[64,97,58]⟩:ByteArray),(⟨#[64,98,58]⟩:ByteArray),(⟨#[64,99,58]⟩:ByteArray)]:List ByteArray) (w64 (t25.tdiv 3))).size + t28.size≤9223372036854775807) (some ((strK.at ([(⟨#[64,97,58]⟩:ByteArray),(⟨#[64,98,58]⟩:ByteArray),(⟨#[64,99,58]⟩:ByteArray)]:List ByteArray) (w64 (t25.tdiv 3)))++t28)))
def r01_low.f (a0:Int):Option (Bool):=cond (decide (97≤a0)) (cond (decide (a0≤122)) (some true) (cond (decide (48≤a0)) (some (decide (a0≤57))) (some false))) (cond (decide (48≤a0)) (some (decide (a0≤57))) (some false))
def r01_Event.l0 (k:Nat) (a0:ByteArray):Nat→Int→Option ((Int×Bool) ⊕ (Bool))
 | 0,_=>none
 | j66 + 1,x42=>cond (decide (x42 < (a0.size:Int))) (grd ((0:Int)≤x42∧x42 < (a0.size:Int)) ((r01_low.f (bt a0 x42)).bind fun t45=>grd ((0:Int)≤x42∧x42 < (a0.size:Int)) (cond (decide (65≤(bt a0 x42))) (grd ((0:Int)≤x42∧x42 < (a0.size:Int)) (cond (!t45) (cond (!(decide ((bt a0 x42)≤90))) (grd ((0:Int)≤x42∧x42 < (a0.size:Int)) (cond ((bt a0 x42) != 45) (grd ((0:Int)≤x42∧x42 < (a0.size:Int)) (cond ((bt a0 x42) != 95) (some (.inr false)) (r01_Event.l0 k a0 j66 (w64 (x42 + 1))))) (r01_Event.l0 k a0 j66 (w64 (x42 + 1))))) (r01_Event.l0 k a0 j66 (w64 (x42 + 1)))) (r01_Event.l0 k a0 j66 (w64 (x42 + 1))))) (cond (!t45) (grd ((0:Int)≤x42∧x42 < (a0.size:Int)) (cond ((bt a0 x42) != 45) (grd ((0:Int)≤x42∧x42 < (a0.size:Int)) (cond ((bt a0 x42) != 95) (some (.inr false)) (r01_Event.l0 k a0 j66 (w64 (x42 + 1))))) (r01_Event.l0 k a0 j66 (w64 (x42 + 1))))) (r01_Event.l0 k a0 j66 (w64 (x42 + 1))))))) (some (.inl (x42,decide (x42 < (a0.size:Int)))))
def r01_Event.f (k:Nat) (a0:ByteArray):Option (Bool):=cond (decide ((a0.size:Int) < 2)) (some false) (cond (decide (17 < (a0.size:Int))) (some false) (grd ((0:Int)≤0∧0 < (a0.size:Int)) (cond ((bt a0 0) != 36) (some false) ((r01_Event.l0 k a0 k 1).bind (fall fun (p41:Int×Bool)=>some true)))))
def r01_colon.l0 (k:Nat) (a0:ByteArray):Nat→Int→Option ((Int×Bool) ⊕ (Int))
 | 0,_=>none
 | j73 + 1,x69=>cond (decide (x69 < (a0.size:Int))) (grd ((0:Int)≤x69∧x69 < (a0.size:Int)) (cond ((bt a0 x69) == 58) (some (.inr x69)) (r01_colon.l0 k a0 j73 (w64 (x69 + 1))))) (some (.inl (x69,decide (x69 < (a0.size:Int)))))
def r01_colon.f (k:Nat) (a0:ByteArray):Option (Int):=(r01_colon.l0 k a0 k 0).bind (fall fun (p68:Int×Bool)=>some (-1))
def r01_Part.l0 (k:Nat) (a0:ByteArray):Nat→Int→Option ((Int×Bool) ⊕ (Bool))
 | 0,_=>none
 | j92 + 1,x77=>cond (decide (x77 < (a0.size:Int))) (grd ((0:Int)≤x77∧x77 < (a0.size:Int)) ((r01_low.f (bt a0 x77)).bind fun t80=>cond (!t80) (grd ((0:Int)≤x77∧x77 < (a0.size:Int)) (cond ((bt a0 x77) != 46) (grd ((0:Int)≤x77∧x77 < (a0.size:Int)) (cond ((bt a0 x77) != 45) (grd ((0:Int)≤x77∧x77 < (a0.size:Int)) (cond ((bt a0 x77) != 95) (some (.inr false)) (r01_Part.l0 k a0 j92 (w64 (x77 + 1))))) (r01_Part.l0 k a0 j92 (w64 (x77 + 1))))) (r01_Part.l0 k a0 j92 (w64 (x77 + 1))))) (r01_Part.l0 k a0 j92 (w64 (x77 + 1))))) (some (.inl (x77,decide (x77 < (a0.size:Int)))))
def r01_Part.f (k:Nat) (a0:ByteArray):Option (Bool):=(r01_Part.l0 k a0 k 0).bind (fall fun (p75:Int×Bool)=>cond (decide (0 < (a0.size:Int))) (some (decide ((a0.size:Int) < 17))) (some false))
def r01_Server.l0 (k:Nat) (a0:ByteArray):Nat→Int→Option ((Int×Bool) ⊕ (Bool))
 | 0,_=>none
 | j118 + 1,x96=>cond (decide (x96 < (a0.size:Int))) (grd ((0:Int)≤x96∧x96 < (a0.size:Int)) ((r01_low.f (bt a0 x96)).bind fun t99=>cond (decide (0 < x96)) (cond (decide (x96 < (w64 ((a0.size:Int) - 1)))) (grd ((0:Int)≤x96∧x96 < (a0.size:Int)) (cond ((bt a0 x96) == 46) (cond (!t99) (r01_Server.l0 k a0 j118 (w64 (x96 + 1))) (r01_Server.l0 k a0 j118 (w64 (x96 + 1)))) (grd ((0:Int)≤x96∧x96 < (a0.size:Int)) (cond (!t99) (cond (!((bt a0 x96) == 45)) (some (.inr false)) (r01_Server.l0 k a0 j118 (w64 (x96 + 1)))) (r01_Server.l0 k a0 j118 (w64 (x96 + 1))))))) (cond (!t99) (some (.inr false)) (r01_Server.l0 k a0 j118 (w64 (x96 + 1))))) (cond (!t99) (some (.inr false)) (r01_Server.l0 k a0 j118 (w64 (x96 + 1)))))) (some (.inl (x96,decide (x96 < (a0.size:Int)))))
def r01_Server.f (k:Nat) (a0:ByteArray):Option (Bool):=(r01_Server.l0 k a0 k 0).bind (fall fun (p94:Int×Bool)=>cond (decide (0 < (a0.size:Int))) (some (decide ((a0.size:Int) < 17))) (some false))
def r01_Named.f (k:Nat) (a0:ByteArray) (a1:Int):Option (Bool):=(r01_colon.f k a0).bind fun t120=>cond (decide (t120 < 1)) (some false) (grd ((0:Int)≤0∧0 < (a0.size:Int)) (cond ((bt a0 0) != a1) (some false) (grd ((0:Int)≤1∧(0:Int)≤t120∧(1:Int).toNat≤t120.toNat∧t120.toNat≤a0.size) ((r01_Part.f k (a0.extract (1:Int).toNat t120.toNat)).bind fun t127=>grd ((0:Int)≤(w64 (t120 + 1))∧(w64 (t120 + 1)).toNat≤a0.size∧a0.size≤a0.size) ((r01_Server.f k (a0.extract (w64 (t120 + 1)).toNat a0.size)).bind fun t130=>cond t127 (some t130) (some false))))))
def r07_May.l0 (k:Nat) (a0:Event):Nat→Int→Option ((Int×Bool) ⊕ (Bool))
 | 0,_=>none
 | j167 + 1,x153=>cond (decide (x153 < (a0.fParents.length:Int))) (grd ((0:Int)≤x153∧x153 < (a0.fParents.length:Int)) ((r01_Event.f k (strK.at a0.fParents x153)).bind fun t156=>cond (!t156) (some (.inr false)) (grd ((0:Int)≤x153∧x153 < (a0.fParents.length:Int)) (cond (decide ((strK.at a0.fParents x153) = a0.fID)) (some (.inr false)) (cond (decide (0 < x153)) (grd ((0:Int)≤(max (w64 (x153 - 1)) 0)∧(max (w64 (x153 - 1)) 0) < (a0.fParents.length:Int)) (grd ((0:Int)≤x153∧x153 < (a0.fParents.length:Int)) (cond (!sLt (strK.at a0.fParents (max (w64 (x153 - 1)) 0)) (strK.at a0.fParents x153)) (some (.inr false)) (r07_May.l0 k a0 j167 (w64 (x153 + 1)))))) (r07_May.l0 k a0 j167 (w64 (x153 + 1)))))))) (some (.inl (x153,decide (x153 < (a0.fParents.length:Int)))))
def r07_May.f (k:Nat) (a0:Event):Option (Bool):=(r01_Event.f k a0.fID).bind fun t134=>(r01_Named.f k a0.fRoom 33).bind fun t136=>(r01_Named.f k a0.fUser 64).bind fun t138=>cond (!t134) (some false) (cond (!t136) (some false) (cond (!t138) (some false) (cond (decide (4 < (a0.fParents.length:Int))) (some false) (cond (decide (a0.fDoes < 0)) (some false) (cond (decide (2 < a0.fDoes)) (some false) ((cond (!decide (a0.fThread = (⟨#[]⟩:ByteArray))) ((r01_Event.f k a0.fThread).bind fun t170=>cond (!t170) (some (.inr false)) (cond (decide (a0.fThread = a0.fID)) (some (.inr false)) (cond (a0.fDoes != 0) (some (.inr false)) (some (.inl ()))))) (some (.inl ()))).bind (fall fun (p151:Unit)=>(r07_May.l0 k a0 k 0).bind (fall fun (p152:Int×Bool)=>some true))))))))
def r07_At.l0 (k:Nat) (a0:RDag) (a1:ByteArray):Nat→Int→Option ((Int×Bool) ⊕ (Int))
 | 0,_=>none
 | j183 + 1,x179=>cond (decide (x179 < (a0.fL.length:Int))) (grd ((0:Int)≤x179∧x179 < (a0.fL.length:Int)) (cond (decide (((Event.K.at a0.fL x179).fID) = a1)) (some (.inr x179)) (r07_At.l0 k a0 a1 j183 (w64 (x179 + 1))))) (some (.inl (x179,decide (x179 < (a0.fL.length:Int)))))
def r07_At.f (k:Nat) (a0:RDag) (a1:ByteArray):Option (Int):=(r07_At.l0 k a0 a1 k 0).bind (fall fun (p178:Int×Bool)=>some (-1))
def r07_Add.l0 (k:Nat) (a0:RDag) (a1:Event):Nat→Int→Option ((Int×Bool) ⊕ (RDag×Int))
 | 0,_=>none
 | j217 + 1,x211=>cond (decide (x211 < (a1.fParents.length:Int))) (grd ((0:Int)≤x211∧x211 < (a1.fParents.length:Int)) ((r07_At.f k a0 (strK.at a1.fParents x211)).bind fun t214=>cond (decide (t214 < 0)) (some (.inr (a0,4))) (r07_Add.l0 k a0 a1 j217 (w64 (x211 + 1))))) (some (.inl (x211,decide (x211 < (a1.fParents.length:Int)))))
def r07_Add.f (k:Nat) (a0:RDag) (a1:Event):Option (RDag×Int):=(r07_May.f k a1).bind fun t188=>cond (!t188) (some (a0,1)) (cond (!decide (a1.fRoom = a0.fRoom)) (some (a0,1)) ((r07_At.f k a0 a1.fID).bind fun t193=>cond (decide (0≤t193)) (some (a0,9)) ((r07_Add.l0 k a0 a1 k 0).bind (fall fun (p196:Int×Bool)=>(cond (!decide (a1.fThread = (⟨#[]⟩:ByteArray))) ((r07_At.f k a0 a1.fThread).bind fun t203=>cond (decide (t203 < 0)) (some (.inr (a0,4))) (grd ((0:Int)≤t203∧t203 < (a0.fL.length:Int)) (cond (!decide (((Event.K.at a0.fL t203).fThread) = (⟨#[]⟩:ByteArray))) (some (.inr (a0,7))) (grd ((0:Int)≤t203∧t203 < (a0.fL.length:Int)) (cond (((Event.K.at a0.fL t203).fDoes) != 0) (some (.inr (a0,7))) (some (.inl ()))))))) (some (.inl ()))).bind (fall fun (p197:Unit)=>grd (([]:List Event).length + a0.fL.length≤9223372036854775807∧(([]:List Event).length + a0.fL.length) * 96≤140737488355328) (grd ((([]:List Event)++a0.fL).length + ([a1]:List Event).length≤9223372036854775807∧((([]:List Event)++a0.fL).length + ([a1]:List Event).length) * 96≤140737488355328) (some ((⟨a0.fRoom,(([]:List Event)++a0.fL)++([a1]:List Event)⟩:RDag),0))))))))
def r07_Made.l1 (k:Nat) (x222:Int) (p241:Int×Bool×(List Bool)):Nat→Int→List ByteArray→Option (Int×Bool×(List ByteArray))
 | 0,_,_=>none
 | j288 + 1,x277,x278=>cond (decide (x277 < x222)) (grd ((0:Int)≤x277∧x277 < (p241.2.2.length:Int)) (cond (p241.2.2.getD x277.toNat default) ((r01_EventOf.f k x277).bind fun t284=>grd (x278.length + ([t284]:List ByteArray).length≤9223372036854775807∧(x278.length + ([t284]:List ByteArray).length) * 16≤140737488355328) (r07_Made.l1 k x222 p241 j288 (w64 (x277 + 1)) (x278++([t284]:List ByteArray)))) (r07_Made.l1 k x222 p241 j288 (w64 (x277 + 1)) x278))) (some (x277,decide (x277 < x222),x278))
def r07_Made.l2 (k:Nat) (a1:List GMade) (x222:Int):Nat→Int→List Bool→Option (Int×Bool×(List Bool))
 | 0,_,_=>none
 | j305 + 1,x291,x292=>grd ((0:Int)≤x222∧x222 < (a1.length:Int)) (cond (decide (x291 < (((GMade.K.at a1 x222).fParents).length:Int))) (cond (decide (x291 < 3)) (cond (decide (0 < x222)) (grd ((0:Int)≤x222∧x222 < (a1.length:Int)) (grd ((0:Int)≤x291∧x291 < (((GMade.K.at a1 x222).fParents).length:Int)) ((r01_Around.f ((intK .i64).at ((GMade.K.at a1 x222).fParents) x291) x222).bind fun t299=>grd ((0:Int)≤t299∧t299 < (x292.length:Int)) (r07_Made.l2 k a1 x222 j305 (w64 (x291 + 1)) (x292.set t299.toNat true))))) (some (x291,decide (0 < x222),x292))) (some (x291,false,x292))) (some (x291,false,x292)))
def r07_Made.l0 (k:Nat) (a0:ByteArray) (a1:List GMade):Nat→Int→ByteArray→List Event→Option (Int×Bool×ByteArray×(List Event))
 | 0,_,_,_=>none
 | j309 + 1,x222,x223,x224=>cond (decide (x222 < (a1.length:Int))) (cond (decide (x222 < 9)) (((r01_EventOf.f k x222).bind fun t229=>grd ((0:Int)≤x222∧x222 < (a1.length:Int)) ((r01_UserOf.f ((GMade.K.at a1 x222).fUser)).bind fun t232=>grd ((0:Int)≤x222∧x222 < (a1.length:Int)) ((r01_Around.f ((GMade.K.at a1 x222).fDoes) 3).bind fun t235=>grd ((0:Int)≤9∧9≤(9223372036854775807:Int)∧(9:Int).toNat * 1≤140737488355328) ((r07_Made.l2 k a1 x222 k 0 (List.replicate (9:Int).toNat (false:Bool))).bind fun (p241:Int×Bool×(List Bool))=>(r07_Made.l1 k x222 p241 k 0 ([]:List ByteArray)).bind fun (p242:Int×Bool×(List ByteArray))=>cond (t235 == 0) (cond (decide (0 < x222)) (grd ((0:Int)≤x222∧x222 < (a1.length:Int)) ((r01_Around.f ((GMade.K.at a1 x222).fThread) (w64 (2 * x222))).bind fun t247=>cond (decide (t247 < x222)) (grd ((0:Int)≤t247∧t247 < (x224.length:Int)) (cond (((Event.K.at x224 t247).fDoes) == 0) (grd ((0:Int)≤t247∧t247 < (x224.length:Int)) (cond (decide (((Event.K.at x224 t247).fThread) = (⟨#[]⟩:ByteArray))) ((r01_EventOf.f k t247).bind fun t254=>(r07_Add.f k (⟨x223,x224⟩:RDag) (⟨t229,a0,p242.2.2,t254,t232,t235⟩:Event)).bind fun t256=>some (p241.1,p242.1,p241.2.1,p242.2.1,decide (0 < x222),t256.1.fRoom,t256.1.fL,p241.2.2)) ((r07_Add.f k (⟨x223,x224⟩:RDag) (⟨t229,a0,p242.2.2,(⟨#[]⟩:ByteArray),t232,t235⟩:Event)).bind fun t259=>some (p241.1,p242.1,p241.2.1,p242.2.1,decide (0 < x222),t259.1.fRoom,t259.1.fL,p241.2.2)))) ((r07_Add.f k (⟨x223,x224⟩:RDag) (⟨t229,a0,p242.2.2,(⟨#[]⟩:ByteArray),t232,t235⟩:Event)).bind fun t263=>some (p241.1,p242.1,p241.2.1,p242.2.1,decide (0 < x222),t263.1.fRoom,t263.1.fL,p241.2.2)))) ((r07_Add.f k (⟨x223,x224⟩:RDag) (⟨t229,a0,p242.2.2,(⟨#[]⟩:ByteArray),t232,t235⟩:Event)).bind fun t267=>some (p241.1,p242.1,p241.2.1,p242.2.1,decide (0 < x222),t267.1.fRoom,t267.1.fL,p241.2.2)))) ((r07_Add.f k (⟨x223,x224⟩:RDag) (⟨t229,a0,p242.2.2,(⟨#[]⟩:ByteArray),t232,t235⟩:Event)).bind fun t270=>some (p241.1,p242.1,p241.2.1,p242.2.1,decide (0 < x222),t270.1.fRoom,t270.1.fL,p241.2.2))) ((r07_Add.f k (⟨x223,x224⟩:RDag) (⟨t229,a0,p242.2.2,(⟨#[]⟩:ByteArray),t232,t235⟩:Event)).bind fun t274=>some (p241.1,p242.1,p241.2.1,p242.2.1,false,t274.1.fRoom,t274.1.fL,p241.2.2)))))).bind fun (p227:Int×Int×Bool×Bool×Bool×ByteArray×(List Event)×(List Bool))=>r07_Made.l0 k a0 a1 j309 (w64 (x222 + 1)) p227.2.2.2.2.2.1 p227.2.2.2.2.2.2.1) (some (x222,decide (x222 < 9),x223,x224))) (some (x222,false,x223,x224))
def r07_Made.f (k:Nat) (a0:ByteArray) (a1:List GMade):Option (RDag):=(r07_Made.l0 k a0 a1 k 0 a0 ([]:List Event)).bind fun (p221:Int×Bool×ByteArray×(List Event))=>some (⟨p221.2.2.1,p221.2.2.2⟩:RDag)
def r01_RoomOf.f (a0:Int):Option (ByteArray):=(r01_Around.f a0 2).bind fun t311=>grd ((0:Int)≤t311∧t311 < (([(⟨#[33,114,58,115,49]⟩:ByteArray),(⟨#[33,113,58,115,50]⟩:ByteArray)]:List ByteArray).length:Int)) (some (strK.at ([(⟨#[33,114,58,115,49]⟩:ByteArray),(⟨#[33,113,58,115,50]⟩:ByteArray)]:List ByteArray) t311))
def r10_Made.f (k:Nat) (a0:List GMade) (a1:List GMade):Option ((List Event)):=(r01_RoomOf.f 0).bind fun t314=>(r07_Made.f k t314 a0).bind fun t316=>grd (([]:List Event).length + t316.fL.length≤9223372036854775807∧(([]:List Event).length + t316.fL.length) * 96≤140737488355328) ((r01_RoomOf.f 1).bind fun t320=>(r07_Made.f k t320 a1).bind fun t322=>grd ((([]:List Event)++t316.fL).length + t322.fL.length≤9223372036854775807∧((([]:List Event)++t316.fL).length + t322.fL.length) * 96≤140737488355328) (some ((([]:List Event)++t316.fL)++t322.fL)))
def view_New.f:Option (VView):=some (⟨([]:List (ByteArray×DDag))⟩:VView)
def dag_New.f (a0:ByteArray):Option (DDag):=some (⟨a0,([]:List (ByteArray×DNode))⟩:DDag)
def view_View_room.f (a0:VView) (a1:ByteArray):Option DDag:=cond (mget a0.fdags a1).isSome (some ((mget a0.fdags a1).getD default)) (dag_New.f a1)
def slices_IndexFunc_string_x.l0 (k:Nat) (a0:List ByteArray) (a1:(ByteArray→Option Bool)):Nat→Int→Option ((Int×Bool) ⊕ (Int))
 | 0,_=>none
 | j346 + 1,x340=>cond (decide (x340 < (a0.length:Int))) (grd ((0:Int)≤x340∧x340 < (a0.length:Int)) ((a1 (strK.at a0 x340)).bind fun t343=>cond t343 (some (.inr x340)) (slices_IndexFunc_string_x.l0 k a0 a1 j346 (w64 (x340 + 1))))) (some (.inl (x340,decide (x340 < (a0.length:Int)))))
def slices_IndexFunc_string_x.f (k:Nat) (a0:List ByteArray) (a1:(ByteArray→Option Bool)):Option (Int):=(slices_IndexFunc_string_x.l0 k a0 a1 k 0).bind (fall fun (p339:Int×Bool)=>some (-1))
def slices_IndexFunc_string_xw.l0 (k:Nat) (a0:List ByteArray) (a1:(ByteArray→Option Bool)):Nat→Int→Option ((Int×Bool) ⊕ (Int))
 | 0,_=>none
 | j356 + 1,x349=>cond (decide (x349 < (a0.length:Int))) (grd ((0:Int)≤x349∧x349 < (a0.length:Int)) ((a1 (a0.getD x349.toNat default)).bind fun t353=>cond t353 (some (.inr x349)) (slices_IndexFunc_string_xw.l0 k a0 a1 j356 (w64 (x349 + 1))))) (some (.inl (x349,decide (x349 < (a0.length:Int)))))
def slices_IndexFunc_string_xw.f (k:Nat) (a0:List ByteArray) (a1:(ByteArray→Option Bool)):Option (Int):=(slices_IndexFunc_string_xw.l0 k a0 a1 k 0).bind (fall fun (p348:Int×Bool)=>some (-1))
def slices_ContainsFunc_string_x.f (k:Nat) (a0:List ByteArray) (a1:(ByteArray→Option Bool)):Option (Bool):=(slices_IndexFunc_string_x.f k a0 a1).bind fun t360=>some (decide (0≤t360))
def slices_ContainsFunc_string_xw.f (k:Nat) (a0:List ByteArray) (a1:(ByteArray→Option Bool)):Option (Bool):=(slices_IndexFunc_string_xw.f k a0 a1).bind fun t362=>some (decide (0≤t362))
def stringslite_HasPrefix.f (a0:ByteArray) (a1:ByteArray):Option (Bool):=cond (decide ((a1.size:Int)≤(a0.size:Int))) (grd ((0:Int)≤(a1.size:Int)∧0≤(a1.size:Int).toNat∧(a1.size:Int).toNat≤a0.size) (some (decide ((a0.extract 0 ((a1.size:Int).toNat)) = a1)))) (some false)
def stringslite_CutPrefix.f (a0:ByteArray) (a1:ByteArray):Option (ByteArray×Bool):=(stringslite_HasPrefix.f a0 a1).bind fun t366=>cond (!t366) (some (a0,false)) (grd ((0:Int)≤(a1.size:Int)∧(a1.size:Int).toNat≤a0.size∧a0.size≤a0.size) (some (a0.extract (a1.size:Int).toNat a0.size,true)))
def strings_CutPrefix.f (a0:ByteArray) (a1:ByteArray):Option (ByteArray×Bool):=(stringslite_CutPrefix.f a0 a1).bind fun t370=>some (t370.1,t370.2)
def name_small.f (a0:Int):Option (Bool):=cond (decide (97≤a0)) (cond (decide (a0≤122)) (some true) (cond (decide (48≤a0)) (some (decide (a0≤57))) (some false))) (cond (decide (48≤a0)) (some (decide (a0≤57))) (some false))
def stringslite_IndexByte.f (a0:ByteArray) (a1:Int):Option (Int):=some (idxB a0 a1)
def strings_IndexByte.f (a0:ByteArray) (a1:Int):Option (Int):=(stringslite_IndexByte.f a0 a1).bind fun t376=>some t376
def name_among_1.f (a0:Int) (c0:ByteArray):Option (Bool):=(name_small.f a0).bind fun t378=>cond t378 (some true) ((strings_IndexByte.f c0 a0).bind fun t381=>some (decide (0≤t381)))
def name_among.f (a0:ByteArray):Option ((Int→Option Bool)):=some (fun a0_=>name_among_1.f a0_ a0)
def name_may.l0 (k:Nat) (a0:ByteArray) (a1:Int) (t384:(Int→Option Bool)) (t386:(Int→Option Bool)) (t388:(Int→Option Bool)):Nat→Int→Option ((Int×Bool) ⊕ (Bool))
 | 0,_=>none
 | j399 + 1,x393=>cond (decide (x393 < (a0.size:Int))) (grd ((0:Int)≤x393∧x393 < (a0.size:Int)) (((fK_uint8_bool.at ([t384,t386,t388]:List (Int→Option Bool)) a1) (bt a0 x393)).bind fun t396=>cond (!t396) (some (.inr false)) (name_may.l0 k a0 a1 t384 t386 t388 j399 (w64 (x393 + 1))))) (some (.inl (x393,decide (x393 < (a0.size:Int)))))
def name_may.f (k:Nat) (a0:ByteArray) (a1:Int):Option (Bool):=(name_among.f (⟨#[46,45,95]⟩:ByteArray)).bind fun t384=>(name_among.f (⟨#[46,45]⟩:ByteArray)).bind fun t386=>(name_among.f (⟨#[45,95,65,66,67,68,69,70,71,72,73,74,75,76,77,78,79,80,81,82,83,84,85,86,87,88,89,90]⟩:ByteArray)).bind fun t388=>grd ((0:Int)≤a1∧a1 < (3:Int)) ((name_may.l0 k a0 a1 t384 t386 t388 k 0).bind (fall fun (p391:Int×Bool)=>cond (!decide (a0 = (⟨#[]⟩:ByteArray))) (some (decide ((a0.size:Int)≤16))) (some false)))
def name_Event.f (k:Nat) (a0:ByteArray):Option (Bool):=(strings_CutPrefix.f a0 (⟨#[36]⟩:ByteArray)).bind fun t401=>cond t401.2 ((name_may.f k t401.1 2).bind fun t404=>some t404) (some false)
def stringslite_Index.f (a0:ByteArray) (a1:ByteArray):Option (Int):=cond ((a1.size:Int) == 0) (some 0) (cond (decide (a1 = a0)) (some 0) (cond ((a1.size:Int) == 1) (grd ((0:Int)≤0∧0 < (a1.size:Int)) ((stringslite_IndexByte.f a0 (bt a1 0)).bind fun t411=>some t411)) (cond (decide ((a0.size:Int)≤(a1.size:Int))) (some (-1)) (none))))
def stringslite_Cut.f (a0:ByteArray) (a1:ByteArray):Option (ByteArray×ByteArray×Bool):=(stringslite_Index.f a0 a1).bind fun t414=>cond (decide (0≤t414)) (grd ((0:Int)≤t414∧0≤t414.toNat∧t414.toNat≤a0.size) (grd ((0:Int)≤(w64 (t414 + (a1.size:Int)))∧(w64 (t414 + (a1.size:Int))).toNat≤a0.size∧a0.size≤a0.size) (some (a0.extract 0 t414.toNat,a0.extract (w64 (t414 + (a1.size:Int))).toNat a0.size,true)))) (some (a0,(⟨#[]⟩:ByteArray),false))
def strings_Cut.f (a0:ByteArray) (a1:ByteArray):Option (ByteArray×ByteArray×Bool):=(stringslite_Cut.f a0 a1).bind fun t419=>some (t419.1,t419.2.1,t419.2.2)
def name_Server.f (k:Nat) (a0:ByteArray):Option (Bool):=(name_may.f k a0 1).bind fun t421=>cond t421 (grd ((0:Int)≤0∧0 < (a0.size:Int)) ((name_small.f (bt a0 0)).bind fun t425=>cond t425 (grd ((0:Int)≤(w64 ((a0.size:Int) - 1))∧(w64 ((a0.size:Int) - 1)) < (a0.size:Int)) ((name_small.f (bt a0 (w64 ((a0.size:Int) - 1)))).bind fun t429=>some t429)) (some false))) (some false)
def name_split.f (k:Nat) (a0:ByteArray) (a1:ByteArray):Option (ByteArray×ByteArray×Bool):=(strings_CutPrefix.f a0 a1).bind fun t431=>(strings_Cut.f t431.1 (⟨#[58]⟩:ByteArray)).bind fun t433=>cond t431.2 (cond t433.2.2 ((name_may.f k t433.1 0).bind fun t437=>cond t437 ((name_Server.f k t433.2.1).bind fun t440=>some (t433.1,t433.2.1,t440)) (some (t433.1,t433.2.1,false))) (some (t433.1,t433.2.1,false))) (some (t433.1,t433.2.1,false))
def name_Room.f (k:Nat) (a0:ByteArray):Option (Bool):=(name_split.f k a0 (⟨#[33]⟩:ByteArray)).bind fun t442=>some t442.2.2
def name_User.f (k:Nat) (a0:ByteArray):Option (Bool):=(name_split.f k a0 (⟨#[64]⟩:ByteArray)).bind fun t444=>some t444.2.2
def dag_May.l0 (k:Nat) (a0:Event):Nat→Int→Option (Bool×Int×Bool)
 | 0,_=>none
 | j486 + 1,x473=>cond (decide (x473 < (a0.fParents.length:Int))) (grd ((0:Int)≤x473∧x473 < (a0.fParents.length:Int)) ((name_Event.f k (strK.at a0.fParents x473)).bind fun t476=>cond (!t476) (some (false,x473,decide (x473 < (a0.fParents.length:Int)))) (cond (decide ((strK.at a0.fParents x473) = a0.fID)) (some (false,x473,decide (x473 < (a0.fParents.length:Int)))) (cond (decide (0 < x473)) (grd ((0:Int)≤(w64 (x473 - 1))∧(w64 (x473 - 1)) < (a0.fParents.length:Int)) (cond (!sLt (strK.at a0.fParents (w64 (x473 - 1))) (strK.at a0.fParents x473)) (some (false,x473,decide (x473 < (a0.fParents.length:Int)))) (dag_May.l0 k a0 j486 (w64 (x473 + 1))))) (dag_May.l0 k a0 j486 (w64 (x473 + 1))))))) (some (true,x473,decide (x473 < (a0.fParents.length:Int))))
def dag_May.l1 (k:Nat) (a0:Event):Nat→Int→Option (Bool×Int×Bool)
 | 0,_=>none
 | j503 + 1,x490=>cond (decide (x490 < (a0.fParents.length:Int))) (grd ((0:Int)≤x490∧x490 < (a0.fParents.length:Int)) ((name_Event.f k (strK.at a0.fParents x490)).bind fun t493=>cond (!t493) (some (false,x490,decide (x490 < (a0.fParents.length:Int)))) (cond (decide ((strK.at a0.fParents x490) = a0.fID)) (some (false,x490,decide (x490 < (a0.fParents.length:Int)))) (cond (decide (0 < x490)) (grd ((0:Int)≤(w64 (x490 - 1))∧(w64 (x490 - 1)) < (a0.fParents.length:Int)) (cond (!sLt (strK.at a0.fParents (w64 (x490 - 1))) (strK.at a0.fParents x490)) (some (false,x490,decide (x490 < (a0.fParents.length:Int)))) (dag_May.l1 k a0 j503 (w64 (x490 + 1))))) (dag_May.l1 k a0 j503 (w64 (x490 + 1))))))) (some (true,x490,decide (x490 < (a0.fParents.length:Int))))
def dag_May.f (k:Nat) (a0:Event):Option (Bool):=(name_Event.f k a0.fID).bind fun t447=>cond (!t447) (some false) ((name_Room.f k a0.fRoom).bind fun t451=>cond (!t451) (some false) ((name_User.f k a0.fUser).bind fun t455=>cond (!t455) (some false) (cond (decide (4 < (a0.fParents.length:Int))) (some false) (cond (decide (a0.fDoes < 0)) (some false) (cond (decide (2 < a0.fDoes)) (some false) (cond (!decide (a0.fThread = (⟨#[]⟩:ByteArray))) ((name_Event.f k a0.fThread).bind fun t465=>cond (!t465) (some false) (cond (decide (a0.fThread = a0.fID)) (some false) (cond (a0.fDoes != 0) (some false) ((dag_May.l0 k a0 k 0).bind fun (p472:Bool×Int×Bool)=>some p472.1)))) ((dag_May.l1 k a0 k 0).bind fun (p489:Bool×Int×Bool)=>some p489.1)))))))
def dag_Dag_Has.f (a0:DDag) (a1:ByteArray):Option (Bool):=some (!(mget a0.fnodes a1).isNone)
def dag_Dag_Add_1.f (a0:ByteArray) (c0:DDag):Option (Bool):=(dag_Dag_Has.f c0 a0).bind fun t507=>some (!t507)
def slices_Clone_string.f (xs:List ByteArray):Option (List ByteArray):=grd (xs.length≤9223372036854775807∧xs.length * 16≤140737488355328) (some xs)
def dag_own.f (a0:Event):Option (Event):=(slices_Clone_string.f a0.fParents).bind fun t511=>some (⟨a0.fID,a0.fRoom,t511,a0.fThread,a0.fUser,a0.fDoes⟩:Event)
def dag_Dag_Add.l0 (k:Nat) (a1:Event):Nat→Int→Int→DDag→Option (Int×Bool×Int×DDag)
 | 0,_,_,_=>none
 | j551 + 1,x538,x539,x540=>cond (decide (x538 < (a1.fParents.length:Int))) (grd ((0:Int)≤x538∧x538 < (a1.fParents.length:Int)) (grd ((mget x540.fnodes (strK.at a1.fParents x538)).isSome = true) (dag_Dag_Add.l0 k a1 j551 (w64 (x538 + 1)) (max x539 (w64 ((((mget x540.fnodes (strK.at a1.fParents x538)).getD default).fdepth) + 1))) (⟨x540.froom,mput x540.fnodes (strK.at a1.fParents x538) (⟨((mget x540.fnodes (strK.at a1.fParents x538)).getD default).fe,((mget x540.fnodes (strK.at a1.fParents x538)).getD default).fdepth,true⟩:DNode)⟩:DDag)))) (some (x538,decide (x538 < (a1.fParents.length:Int)),x539,x540))
def dag_Dag_Add.f (k:Nat) (a0:DDag) (a1:Event):Option (Int×DDag):=(dag_May.f k a1).bind fun t518=>cond (!t518) (some (1,a0)) (cond (!decide (a1.fRoom = a0.froom)) (some (1,a0)) ((dag_Dag_Has.f a0 a1.fID).bind fun t523=>cond t523 (some (9,a0)) ((slices_ContainsFunc_string_x.f k a1.fParents (fun a0_=>dag_Dag_Add_1.f a0_ a0)).bind fun t526=>cond t526 (some (4,a0)) ((cond (!decide (a1.fThread = (⟨#[]⟩:ByteArray))) (cond ((mget a0.fnodes a1.fThread).isNone) (some (.inr (4,a0))) (grd ((mget a0.fnodes a1.fThread).isSome = true) (cond (!decide (((((mget a0.fnodes a1.fThread).getD default).fe).fThread) = (⟨#[]⟩:ByteArray))) (some (.inr (7,a0))) (cond (((((mget a0.fnodes a1.fThread).getD default).fe).fDoes) != 0) (some (.inr (7,a0))) (some (.inl ())))))) (some (.inl ()))).bind (fall fun (p529:Unit)=>(dag_own.f a1).bind fun t530=>(dag_Dag_Add.l0 k a1 k 0 0 a0).bind fun (p533:Int×Bool×Int×DDag)=>some (0,(⟨p533.2.2.2.froom,mput p533.2.2.2.fnodes a1.fID (⟨t530,p533.2.2.1,false⟩:DNode)⟩:DDag)))))))
def view_View_Add.f (k:Nat) (a0:VView) (a1:Event):Option (Int×VView):=(view_View_room.f a0 a1.fRoom).bind fun t566=>(dag_Dag_Add.f k t566 a1).bind fun t569=>cond (t569.1 != 0) (some (t569.1,(⟨mres a0.fdags a1.fRoom t569.2⟩:VView))) (some (0,(⟨mput a0.fdags a1.fRoom t569.2⟩:VView)))
def r10_Of.l0 (k:Nat) (a0:RView) (a1:ByteArray):Nat→Int→Option ((Int×Bool) ⊕ (RDag))
 | 0,_=>none
 | j582 + 1,x577=>cond (decide (x577 < (a0.fD.length:Int))) (grd ((0:Int)≤x577∧x577 < (a0.fD.length:Int)) (cond (decide (((RDag.K.at a0.fD x577).fRoom) = a1)) (grd ((0:Int)≤x577∧x577 < (a0.fD.length:Int)) (some (.inr (RDag.K.at a0.fD x577)))) (r10_Of.l0 k a0 a1 j582 (w64 (x577 + 1))))) (some (.inl (x577,decide (x577 < (a0.fD.length:Int)))))
def r10_Of.f (k:Nat) (a0:RView) (a1:ByteArray):Option (RDag):=(r10_Of.l0 k a0 a1 k 0).bind (fall fun (p576:Int×Bool)=>some (⟨a1,([]:List Event)⟩:RDag))
def r10_Add.l0 (k:Nat) (a0:RView) (a1:Event) (t589:RDag×Int):Nat→Bool→Int→List RDag→Option (Bool×Int×Bool×(List RDag))
 | 0,_,_,_=>none
 | j617 + 1,x598,x599,x600=>cond (decide (x599 < (a0.fD.length:Int))) ((cond (!x598) (grd ((0:Int)≤x599∧x599 < (a0.fD.length:Int)) (cond (!sLt ((RDag.K.at a0.fD x599).fRoom) a1.fRoom) (grd (x600.length + ([t589.1]:List RDag).length≤9223372036854775807∧(x600.length + ([t589.1]:List RDag).length) * 40≤140737488355328) (some (true,!sLt ((RDag.K.at a0.fD x599).fRoom) a1.fRoom,x600++([t589.1]:List RDag)))) (some (x598,!sLt ((RDag.K.at a0.fD x599).fRoom) a1.fRoom,x600)))) (some (x598,false,x600))).bind fun (p603:Bool×Bool×(List RDag))=>grd ((0:Int)≤x599∧x599 < (a0.fD.length:Int)) (cond (!decide (((RDag.K.at a0.fD x599).fRoom) = a1.fRoom)) (grd ((0:Int)≤x599∧x599 < (a0.fD.length:Int)) (grd (p603.2.2.length + ([RDag.K.at a0.fD x599]:List RDag).length≤9223372036854775807∧(p603.2.2.length + ([RDag.K.at a0.fD x599]:List RDag).length) * 40≤140737488355328) (r10_Add.l0 k a0 a1 t589 j617 p603.1 (w64 (x599 + 1)) (p603.2.2++([RDag.K.at a0.fD x599]:List RDag))))) (r10_Add.l0 k a0 a1 t589 j617 p603.1 (w64 (x599 + 1)) p603.2.2))) (some (x598,x599,decide (x599 < (a0.fD.length:Int)),x600))
def r10_Add.f (k:Nat) (a0:RView) (a1:Event):Option (RView×Int):=(r10_Of.f k a0 a1.fRoom).bind fun t587=>(r07_Add.f k t587 a1).bind fun t589=>cond (t589.2 != 0) (some (a0,t589.2)) ((r10_Add.l0 k a0 a1 t589 k false 0 ([]:List RDag)).bind fun (p593:Bool×Int×Bool×(List RDag))=>cond (!p593.1) (grd (p593.2.2.2.length + ([t589.1]:List RDag).length≤9223372036854775807∧(p593.2.2.2.length + ([t589.1]:List RDag).length) * 40≤140737488355328) (some ((⟨p593.2.2.2++([t589.1]:List RDag)⟩:RView),0))) (some ((⟨p593.2.2.2⟩:RView),0)))
def r10_Build.l0 (k:Nat) (a0:List Event):Nat→Int→List RDag→Option (Int×Bool×(List RDag))
 | 0,_,_=>none
 | j630 + 1,x623,x624=>cond (decide (x623 < (a0.length:Int))) (grd ((0:Int)≤x623∧x623 < (a0.length:Int)) ((r10_Add.f k (⟨x624⟩:RView) (Event.K.at a0 x623)).bind fun t627=>r10_Build.l0 k a0 j630 (w64 (x623 + 1)) t627.1.fD)) (some (x623,decide (x623 < (a0.length:Int)),x624))
def r10_Build.f (k:Nat) (a0:List Event):Option (RView):=(r10_Build.l0 k a0 k 0 ([]:List RDag)).bind fun (p622:Int×Bool×(List RDag))=>some (⟨p622.2.2⟩:RView)
def w10_build.l0 (k:Nat) (t633:(List Event)):Nat→Int→VView→Option ((Int×Bool×VView) ⊕ ((Option VView)×RView))
 | 0,_,_=>none
 | j651 + 1,x643,x644=>cond (decide (x643 < (t633.length:Int))) (grd ((0:Int)≤x643∧x643 < (t633.length:Int)) ((view_View_Add.f k x644 (t633.getD x643.toNat default)).bind fun t648=>cond (t648.1 != 0) (some (.inr (none,(⟨([]:List RDag)⟩:RView)))) (w10_build.l0 k t633 j651 (w64 (x643 + 1)) t648.2))) (some (.inl (x643,decide (x643 < (t633.length:Int)),x644)))
def w10_build.f (k:Nat) (a0:List GMade) (a1:List GMade):Option ((Option VView)×RView):=(r10_Made.f k a0 a1).bind fun t633=>(view_New.f).bind fun t636=>(w10_build.l0 k t633 k 0 t636).bind (fall fun (p640:Int×Bool×VView)=>(r10_Build.f k t633).bind fun t641=>some (some p640.2.2,t641))
def slices_Equal_string.l0 (k:Nat) (a0:List ByteArray) (a1:List ByteArray):Nat→Int→Option ((Int×Bool) ⊕ (Bool))
 | 0,_=>none
 | j660 + 1,x655=>cond (decide (x655 < (a0.length:Int))) (grd ((0:Int)≤x655∧x655 < (a0.length:Int)) (grd ((0:Int)≤x655∧x655 < (a1.length:Int)) (cond (!decide ((strK.at a0 x655) = (strK.at a1 x655))) (some (.inr false)) (slices_Equal_string.l0 k a0 a1 j660 (w64 (x655 + 1)))))) (some (.inl (x655,decide (x655 < (a0.length:Int)))))
def slices_Equal_string.f (k:Nat) (a0:List ByteArray) (a1:List ByteArray):Option (Bool):=cond ((a0.length:Int) != (a1.length:Int)) (some false) ((slices_Equal_string.l0 k a0 a1 k 0).bind (fall fun (p654:Int×Bool)=>some true))
def slices_Sort_string.f (xs:List ByteArray):Option (List ByteArray):=grd (xs.length < 4611686018427387904) (some (srtS xs))
def view_View_Rooms.f (a0:VView):Option (List ByteArray):=grd (a0.fdags.length≤1000000) (some (srtS (a0.fdags.map (·.1))))
def slices_EqualFunc_Event_Event.l0 (k:Nat) (a0:List Event) (a1:List Event) (a2:Event→Event→Option Bool):Nat→Int→Option ((Int×Bool) ⊕ (Bool))
 | 0,_=>none
 | j673 + 1,x664=>cond (decide (x664 < (a0.length:Int))) (grd ((0:Int)≤x664∧x664 < (a0.length:Int)) (grd ((0:Int)≤x664∧x664 < (a1.length:Int)) ((a2 (Event.K.at a0 x664) (Event.K.at a1 x664)).bind fun t670=>cond (!t670) (some (.inr false)) (slices_EqualFunc_Event_Event.l0 k a0 a1 a2 j673 (w64 (x664 + 1)))))) (some (.inl (x664,decide (x664 < (a0.length:Int)))))
def slices_EqualFunc_Event_Event.f (k:Nat) (a0:List Event) (a1:List Event) (a2:Event→Event→Option Bool):Option (Bool):=cond ((a0.length:Int) != (a1.length:Int)) (some false) ((slices_EqualFunc_Event_Event.l0 k a0 a1 a2 k 0).bind (fall fun (p663:Int×Bool)=>some true))
def cmp_Or_int.l0 (k:Nat) (a0:List Int):Nat→Int→Option ((Int×Bool) ⊕ (Int))
 | 0,_=>none
 | j680 + 1,x676=>cond (decide (x676 < (a0.length:Int))) (grd ((0:Int)≤x676∧x676 < (a0.length:Int)) (cond (((intK .i64).at a0 x676) != 0) (some (.inr ((intK .i64).at a0 x676))) (cmp_Or_int.l0 k a0 j680 (w64 (x676 + 1))))) (some (.inl (x676,decide (x676 < (a0.length:Int)))))
def cmp_Or_int.f (k:Nat) (a0:List Int):Option (Int):=(cmp_Or_int.l0 k a0 k 0).bind (fall fun (p675:Int×Bool)=>some 0)
def cmp_isNaN_int.f (a0:Int):Option (Bool):=some (a0 != a0)
def cmp_Compare_int.f (a0:Int) (a1:Int):Option (Int):=(cmp_isNaN_int.f a0).bind fun t682=>(cmp_isNaN_int.f a1).bind fun t684=>cond t682 (cond t684 (some 0) (some (-1))) (cond t684 (some 1) (cond (decide (a0 < a1)) (some (-1)) (cond (decide (a1 < a0)) (some 1) (some 0))))
def cmp_isNaN_string.f (a0:ByteArray):Option (Bool):=some (!decide (a0 = a0))
def cmp_Compare_string.f (a0:ByteArray) (a1:ByteArray):Option (Int):=(cmp_isNaN_string.f a0).bind fun t691=>(cmp_isNaN_string.f a1).bind fun t693=>cond t691 (cond t693 (some 0) (some (-1))) (cond t693 (some 1) (cond (sLt a0 a1) (some (-1)) (cond (sLt a1 a0) (some 1) (some 0))))
def dag_Compare.f (k:Nat) (a0:Pos) (a1:Pos):Option (Int):=(cmp_Compare_int.f a0.fDepth a1.fDepth).bind fun t702=>(cmp_Compare_string.f a0.fID a1.fID).bind fun t704=>(cmp_Or_int.f k ([t702,t704]:List Int)).bind fun t706=>some t706
def posC (x y:Pos):Int:=if x.fDepth < y.fDepth then -1 else if y.fDepth < x.fDepth then 1 else cmpS x.fID y.fID
def slices_SortFunc_Position.f (xs:List Pos):Option (List Pos):=grd (xs.length≤1000000) (some (srtF posC xs))
def dag_Dag_All_1.f (a0:DNode):Option (Bool):=some true
def dag_Dag_ids_All.g (e:ByteArray×DNode):Option Pos:=cond true (some ⟨e.2.fdepth,e.1⟩) none
def dag_Dag_ids_All.f (a0:DDag):Option (List ByteArray):=grd (a0.fnodes.length≤1000000) (some ((srtF posC (a0.fnodes.filterMap dag_Dag_ids_All.g)).map (·.fID)))
def dag_Dag_All.l0 (k:Nat) (a0:DDag) (t711:List ByteArray):Nat→Int→List Event→Option (Int×Int×Bool×(List Event)×(List ByteArray))
 | 0,_,_=>none
 | j729 + 1,x714,x715=>cond (decide (x714 < (t711.length:Int))) (grd ((0:Int)≤x714∧x714 < (t711.length:Int)) (grd ((mget a0.fnodes (t711.getD x714.toNat default)).isSome = true) ((dag_own.f (((mget a0.fnodes (t711.getD x714.toNat default)).getD default).fe)).bind fun t725=>grd (x715.length + ([t725]:List Event).length≤9223372036854775807∧(x715.length + ([t725]:List Event).length) * 96≤140737488355328) (dag_Dag_All.l0 k a0 t711 j729 (w64 (x714 + 1)) (x715++([t725]:List Event)))))) (some ((t711.length:Int),x714,decide (x714 < (t711.length:Int)),x715,t711))
def dag_Dag_All.f (k:Nat) (a0:DDag):Option ((List Event)):=((dag_Dag_ids_All.f a0).bind fun t711=>dag_Dag_All.l0 k a0 t711 k 0 ([]:List Event)).bind fun (p708:Int×Int×Bool×(List Event)×(List ByteArray))=>some p708.2.2.2.1
def view_View_Events.f (k:Nat) (a0:VView) (a1:ByteArray):Option ((List Event)):=(view_View_room.f a0 a1).bind fun t732=>(dag_Dag_All.f k t732).bind fun t737=>some t737
def dag_Same.f (k:Nat) (a0:Event) (a1:Event):Option (Bool):=cond (decide (a0.fID = a1.fID)) (cond (decide (a0.fRoom = a1.fRoom)) ((slices_Equal_string.f k a0.fParents a1.fParents).bind fun t744=>cond t744 (cond (decide (a0.fThread = a1.fThread)) (cond (decide (a0.fUser = a1.fUser)) (some (a0.fDoes == a1.fDoes)) (some false)) (some false)) (some false)) (some false)) (some false)
def view_View_Same_1.f (k:Nat) (a0:ByteArray) (c0:VView) (c1:VView):Option (Bool):=(view_View_Events.f k c0 a0).bind fun t749=>(view_View_Events.f k c1 a0).bind fun t752=>(slices_EqualFunc_Event_Event.f k t749 t752 (dag_Same.f k)).bind fun t755=>some (!t755)
def view_View_Same_1_self.f (k:Nat) (a0:ByteArray) (c0:VView):Option (Bool):=(view_View_Events.f k c0 a0).bind fun t757=>(view_View_Events.f k c0 a0).bind fun t760=>(slices_EqualFunc_Event_Event.f k t757 t760 (dag_Same.f k)).bind fun t763=>some (!t763)
def view_View_Same.f (k:Nat) (a0:VView) (a1:VView):Option (Bool):=(view_View_Rooms.f a0).bind fun t771=>(view_View_Rooms.f a1).bind fun t774=>(slices_Equal_string.f k t771 t774).bind fun t777=>cond t777 ((view_View_Rooms.f a0).bind fun t780=>(slices_ContainsFunc_string_xw.f k t780 (fun a0_=>view_View_Same_1.f k a0_ a0 a1)).bind fun t783=>some (!t783)) (some false)
def view_View_Same_self.f (k:Nat) (a0:VView):Option (Bool):=(view_View_Rooms.f a0).bind fun t789=>(view_View_Rooms.f a0).bind fun t792=>(slices_Equal_string.f k t789 t792).bind fun t795=>cond t795 ((view_View_Rooms.f a0).bind fun t798=>(slices_ContainsFunc_string_xw.f k t798 (fun a0_=>view_View_Same_1_self.f k a0_ a0)).bind fun t801=>some (!t801)) (some false)
def r01_SameTexts.l0 (k:Nat) (a0:List ByteArray) (a1:List ByteArray):Nat→Int→Option ((Int×Bool) ⊕ (Bool))
 | 0,_=>none
 | j810 + 1,x805=>cond (decide (x805 < (a0.length:Int))) (grd ((0:Int)≤x805∧x805 < (a0.length:Int)) (grd ((0:Int)≤x805∧x805 < (a1.length:Int)) (cond (!decide ((strK.at a0 x805) = (strK.at a1 x805))) (some (.inr false)) (r01_SameTexts.l0 k a0 a1 j810 (w64 (x805 + 1)))))) (some (.inl (x805,decide (x805 < (a0.length:Int)))))
def r01_SameTexts.f (k:Nat) (a0:List ByteArray) (a1:List ByteArray):Option (Bool):=cond ((a0.length:Int) != (a1.length:Int)) (some false) ((r01_SameTexts.l0 k a0 a1 k 0).bind (fall fun (p804:Int×Bool)=>some true))
def r07_Same.f (k:Nat) (a0:Event) (a1:Event):Option (Bool):=(r01_SameTexts.f k a0.fParents a1.fParents).bind fun t814=>cond t814 (cond (decide (a0.fID = a1.fID)) (cond (decide (a0.fRoom = a1.fRoom)) (cond (decide (a0.fThread = a1.fThread)) (cond (decide (a0.fUser = a1.fUser)) (some (a0.fDoes == a1.fDoes)) (some false)) (some false)) (some false)) (some false)) (some false)
def r07_SameAll.l0 (k:Nat) (a0:List Event) (a1:List Event):Nat→Int→Option ((Int×Bool) ⊕ (Bool))
 | 0,_=>none
 | j830 + 1,x823=>cond (decide (x823 < (a0.length:Int))) (grd ((0:Int)≤x823∧x823 < (a0.length:Int)) (grd ((0:Int)≤x823∧x823 < (a1.length:Int)) ((r07_Same.f k (Event.K.at a0 x823) (Event.K.at a1 x823)).bind fun t827=>cond (!t827) (some (.inr false)) (r07_SameAll.l0 k a0 a1 j830 (w64 (x823 + 1)))))) (some (.inl (x823,decide (x823 < (a0.length:Int)))))
def r07_SameAll.f (k:Nat) (a0:List Event) (a1:List Event):Option (Bool):=cond ((a0.length:Int) != (a1.length:Int)) (some false) ((r07_SameAll.l0 k a0 a1 k 0).bind (fall fun (p822:Int×Bool)=>some true))
def r07_Before.f (a0:Pos) (a1:Pos):Option (Bool):=cond (decide (a0.fDepth < a1.fDepth)) (some true) (cond (a0.fDepth == a1.fDepth) (some (sLt a0.fID a1.fID)) (some false))
def r07_Depth.l1 (k:Nat) (a0:RDag) (x846:Int):Nat→Int→List Int→Option (Int×Bool×(List Int))
 | 0,_,_=>none
 | j864 + 1,x850,x851=>grd ((0:Int)≤x846∧x846 < (a0.fL.length:Int)) (cond (decide (x850 < (((Event.K.at a0.fL x846).fParents).length:Int))) (grd ((0:Int)≤x846∧x846 < (x851.length:Int)) (grd ((0:Int)≤x846∧x846 < (a0.fL.length:Int)) (grd ((0:Int)≤x850∧x850 < (((Event.K.at a0.fL x846).fParents).length:Int)) ((r07_At.f k a0 (strK.at ((Event.K.at a0.fL x846).fParents) x850)).bind fun t858=>grd ((0:Int)≤t858∧t858 < (x851.length:Int)) (grd ((0:Int)≤x846∧x846 < (x851.length:Int)) (r07_Depth.l1 k a0 x846 j864 (w64 (x850 + 1)) (x851.set x846.toNat (max (x851.getD x846.toNat default) (w64 ((x851.getD t858.toNat default) + 1)))))))))) (some (x850,decide (x850 < (((Event.K.at a0.fL x846).fParents).length:Int)),x851)))
def r07_Depth.l0 (k:Nat) (a0:RDag) (t837:Int):Nat→Int→List Int→Option (Int×Bool×(List Int))
 | 0,_,_=>none
 | j866 + 1,x846,x847=>cond (decide (x846≤t837)) ((r07_Depth.l1 k a0 x846 k 0 x847).bind fun (p849:Int×Bool×(List Int))=>r07_Depth.l0 k a0 t837 j866 (w64 (x846 + 1)) p849.2.2) (some (x846,decide (x846≤t837),x847))
def r07_Depth.f (k:Nat) (a0:RDag) (a1:ByteArray):Option (Int):=(r07_At.f k a0 a1).bind fun t837=>cond (decide (t837 < 0)) (some 0) (grd ((0:Int)≤(w64 (t837 + 1))∧(w64 (t837 + 1))≤(9223372036854775807:Int)∧(w64 (t837 + 1)).toNat * 8≤140737488355328) ((r07_Depth.l0 k a0 t837 k 0 (List.replicate (w64 (t837 + 1)).toNat (0:Int))).bind fun (p843:Int×Bool×(List Int))=>grd ((0:Int)≤t837∧t837 < (p843.2.2.length:Int)) (some (p843.2.2.getD t837.toNat default))))
def r07_Position.f (k:Nat) (a0:RDag) (a1:ByteArray):Option (Pos):=(r07_Depth.f k a0 a1).bind fun t870=>some (⟨t870,a1⟩:Pos)
def r07_All.l1 (k:Nat) (a0:RDag) (x874:List Event) (x875:Int):Nat→Int→Option (Int×Bool)
 | 0,_=>none
 | j900 + 1,x888=>cond (decide (x888 < (x874.length:Int))) (grd ((0:Int)≤x888∧x888 < (x874.length:Int)) ((r07_Position.f k a0 ((Event.K.at x874 x888).fID)).bind fun t891=>grd ((0:Int)≤x875∧x875 < (a0.fL.length:Int)) ((r07_Position.f k a0 ((Event.K.at a0.fL x875).fID)).bind fun t894=>(r07_Before.f t891 t894).bind fun t896=>cond t896 (r07_All.l1 k a0 x874 x875 j900 (w64 (x888 + 1))) (some (x888,t896))))) (some (x888,false))
def r07_All.l0 (k:Nat) (a0:RDag):Nat→List Event→Int→Option ((List Event)×Int×Bool)
 | 0,_,_=>none
 | j902 + 1,x874,x875=>cond (decide (x875 < (a0.fL.length:Int))) (((r07_All.l1 k a0 x874 x875 k 0).bind fun (p878:Int×Bool)=>grd ((0:Int)≤p878.1∧0≤p878.1.toNat∧p878.1.toNat≤x874.length) (grd (([]:List Event).length + ((x874.take p878.1.toNat).drop 0).length≤9223372036854775807∧(([]:List Event).length + ((x874.take p878.1.toNat).drop 0).length) * 96≤140737488355328) (grd ((0:Int)≤x875∧x875 < (a0.fL.length:Int)) (grd ((([]:List Event)++((x874.take p878.1.toNat).drop 0)).length + ([Event.K.at a0.fL x875]:List Event).length≤9223372036854775807∧((([]:List Event)++((x874.take p878.1.toNat).drop 0)).length + ([Event.K.at a0.fL x875]:List Event).length) * 96≤140737488355328) (grd ((0:Int)≤p878.1∧p878.1.toNat≤x874.length∧x874.length≤x874.length) (grd (((([]:List Event)++((x874.take p878.1.toNat).drop 0))++([Event.K.at a0.fL x875]:List Event)).length + ((x874.take x874.length).drop p878.1.toNat).length≤9223372036854775807∧(((([]:List Event)++((x874.take p878.1.toNat).drop 0))++([Event.K.at a0.fL x875]:List Event)).length + ((x874.take x874.length).drop p878.1.toNat).length) * 96≤140737488355328) (some (((([]:List Event)++((x874.take p878.1.toNat).drop 0))++([Event.K.at a0.fL x875]:List Event))++((x874.take x874.length).drop p878.1.toNat),p878.1,p878.2)))))))).bind fun (p877:(List Event)×Int×Bool)=>r07_All.l0 k a0 j902 p877.1 (w64 (x875 + 1))) (some (x874,x875,decide (x875 < (a0.fL.length:Int))))
def r07_All.f (k:Nat) (a0:RDag):Option ((List Event)):=(r07_All.l0 k a0 k ([]:List Event) 0).bind fun (p873:(List Event)×Int×Bool)=>some p873.1
def r10_Same.l0 (k:Nat) (a0:RView) (a1:RView):Nat→Int→Option ((Int×Bool) ⊕ (Bool))
 | 0,_=>none
 | j923 + 1,x908=>cond (decide (x908 < (a0.fD.length:Int))) (grd ((0:Int)≤x908∧x908 < (a0.fD.length:Int)) ((r07_All.f k (RDag.K.at a0.fD x908)).bind fun t911=>grd ((0:Int)≤x908∧x908 < (a1.fD.length:Int)) ((r07_All.f k (RDag.K.at a1.fD x908)).bind fun t914=>(r07_SameAll.f k t911 t914).bind fun t916=>cond (!t916) (some (.inr false)) (grd ((0:Int)≤x908∧x908 < (a0.fD.length:Int)) (grd ((0:Int)≤x908∧x908 < (a1.fD.length:Int)) (cond (!decide (((RDag.K.at a0.fD x908).fRoom) = ((RDag.K.at a1.fD x908).fRoom))) (some (.inr false)) (r10_Same.l0 k a0 a1 j923 (w64 (x908 + 1))))))))) (some (.inl (x908,decide (x908 < (a0.fD.length:Int)))))
def r10_Same.f (k:Nat) (a0:RView) (a1:RView):Option (Bool):=cond ((a0.fD.length:Int) != (a1.fD.length:Int)) (some false) ((r10_Same.l0 k a0 a1 k 0).bind (fall fun (p907:Int×Bool)=>some true))
def dag_Dag_Event.f (a0:DDag) (a1:ByteArray):Option (Event×Bool):=(dag_Dag_Has.f a0 a1).bind fun t926=>cond (!t926) (some ((⟨(⟨#[]⟩:ByteArray),(⟨#[]⟩:ByteArray),([]:List ByteArray),(⟨#[]⟩:ByteArray),(⟨#[]⟩:ByteArray),0⟩:Event),false)) (grd ((mget a0.fnodes a1).isSome = true) ((dag_own.f (((mget a0.fnodes a1).getD default).fe)).bind fun t934=>some (t934,true)))
def view_View_Fits.f (a0:VView) (a1:ByteArray) (a2:ByteArray) (a3:ByteArray):Option (Int):=(view_View_room.f a0 a1).bind fun t936=>(dag_Dag_Event.f t936 a2).bind fun t941=>cond (!t941.2) (some 4) (cond (decide (a3 = (⟨#[]⟩:ByteArray))) (cond (decide (a3 = (⟨#[]⟩:ByteArray))) (some 0) (some 7)) (cond (decide (a3 = (⟨#[109,97,105,110]⟩:ByteArray))) (cond (decide (t941.1.fThread = (⟨#[]⟩:ByteArray))) (cond (decide (t941.1.fThread = (⟨#[]⟩:ByteArray))) (some 0) (some 7)) (cond (decide (a3 = a2)) (cond (decide (a3 = a2)) (some 0) (some 7)) (cond (decide (a3 = t941.1.fThread)) (some 0) (some 7)))) (cond (decide (a3 = a2)) (cond (decide (a3 = a2)) (some 0) (some 7)) (cond (decide (a3 = t941.1.fThread)) (some 0) (some 7)))))
def w10_lives.f (k:Nat):Option (Bool):=(view_New.f).bind fun t957=>(view_View_Add.f k t957 (⟨(⟨#[36,116]⟩:ByteArray),(⟨#[33,114,58,115]⟩:ByteArray),([]:List ByteArray),(⟨#[]⟩:ByteArray),(⟨#[64,97,58,115]⟩:ByteArray),0⟩:Event)).bind fun t961=>(view_View_Add.f k t961.2 (⟨(⟨#[36,117]⟩:ByteArray),(⟨#[33,114,58,115]⟩:ByteArray),([]:List ByteArray),(⟨#[36,116]⟩:ByteArray),(⟨#[64,97,58,115]⟩:ByteArray),0⟩:Event)).bind fun t963=>(view_View_Fits.f t963.2 (⟨#[33,114,58,115]⟩:ByteArray) (⟨#[36,117]⟩:ByteArray) (⟨#[36,116]⟩:ByteArray)).bind fun t967=>cond (t967 == 0) ((view_View_Fits.f t963.2 (⟨#[33,114,58,115]⟩:ByteArray) (⟨#[36,117]⟩:ByteArray) (⟨#[109,97,105,110]⟩:ByteArray)).bind fun t970=>cond (t970 == 7) ((view_View_Fits.f t963.2 (⟨#[33,114,58,115]⟩:ByteArray) (⟨#[36,116]⟩:ByteArray) (⟨#[109,97,105,110]⟩:ByteArray)).bind fun t973=>cond (t973 == 0) ((view_View_Fits.f t963.2 (⟨#[33,114,58,115]⟩:ByteArray) (⟨#[36,117]⟩:ByteArray) (⟨#[]⟩:ByteArray)).bind fun t976=>cond (t976 == 0) ((view_View_Fits.f t963.2 (⟨#[33,114,58,115]⟩:ByteArray) (⟨#[36,120]⟩:ByteArray) (⟨#[]⟩:ByteArray)).bind fun t979=>some (t979 == 4)) (some false)) (some false)) (some false)) (some false)
def w10_ViewSame.f (k:Nat) (a0:List GMade) (a1:List GMade) (a2:List GMade):Option (Bool):=(w10_build.f k a0 a1).bind fun t981=>(w10_build.f k a0 a2).bind fun t985=>grd ((0:Int)≤(min (a0.length:Int) 9)∧0≤(min (a0.length:Int) 9).toNat∧(min (a0.length:Int) 9).toNat≤a0.length) (grd ((0:Int)≤(min (a1.length:Int) 2)∧0≤(min (a1.length:Int) 2).toNat∧(min (a1.length:Int) 2).toNat≤a1.length) ((w10_build.f k ((a0.take ((min (a0.length:Int) 9).toNat)).drop 0) ((a1.take ((min (a1.length:Int) 2).toNat)).drop 0)).bind fun t991=>cond t981.1.isNone (some false) (cond t985.1.isNone (some false) (cond t991.1.isNone (some false) ((view_View_Same.f k (t981.1.getD default) (t985.1.getD default)).bind fun t1000=>(r10_Same.f k t981.2 t985.2).bind fun t1002=>cond (t1000 == t1002) ((view_View_Same.f k (t985.1.getD default) (t981.1.getD default)).bind fun t1005=>(r10_Same.f k t981.2 t985.2).bind fun t1007=>cond (t1005 == t1007) ((view_View_Same.f k (t981.1.getD default) (t991.1.getD default)).bind fun t1010=>(r10_Same.f k t981.2 t991.2).bind fun t1012=>cond (t1010 == t1012) ((view_View_Same_self.f k (t981.1.getD default)).bind fun t1015=>cond t1015 ((w10_lives.f k).bind fun t1018=>some t1018) (some false)) (some false)) (some false)) (some false))))))
end Go.Proofs.YtcchplmcefamhaaGreat
