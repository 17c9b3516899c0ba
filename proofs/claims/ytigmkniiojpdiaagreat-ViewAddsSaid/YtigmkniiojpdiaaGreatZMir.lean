/- The walks. -/
import Derived.Test.YtigmkniiojpdiaaGreatChecked
import Derived.Test.YtigmkniiojpdiaaGreatConQ
import Derived.Test.YtigmkniiojpdiaaGreatConA3
import Derived.Eval
set_option linter.all false
set_option maxRecDepth 10000
set_option maxHeartbeats 20000000
namespace Go.Proofs.YtigmkniiojpdiaaGreat
open Go Go.Sp
theorem c100 : Tryz.prog.cellsOf 100 = 1 := by kernel_rfl
theorem c115 : Tryz.prog.cellsOf 115 = 4 := by kernel_rfl
theorem c140 : Tryz.prog.cellsOf 140 = 1 := by kernel_rfl
theorem c23 : Tryz.prog.cellsOf 23 = 1 := by kernel_rfl
theorem c24 : Tryz.prog.cellsOf 24 = 1 := by kernel_rfl
theorem c26 : Tryz.prog.cellsOf 26 = 1 := by kernel_rfl
theorem c28 : Tryz.prog.cellsOf 28 = 1 := by kernel_rfl
theorem c3 : Tryz.prog.cellsOf 3 = 1 := by kernel_rfl
theorem c31 : Tryz.prog.cellsOf 31 = 1 := by kernel_rfl
theorem c33 : Tryz.prog.cellsOf 33 = 6 := by kernel_rfl
theorem c36 : Tryz.prog.cellsOf 36 = 2 := by kernel_rfl
theorem c4 : Tryz.prog.cellsOf 4 = 1 := by kernel_rfl
theorem c5 : Tryz.prog.cellsOf 5 = 1 := by kernel_rfl
theorem c61 : Tryz.prog.cellsOf 61 = 2 := by kernel_rfl
theorem c78 : Tryz.prog.cellsOf 78 = 1 := by kernel_rfl
theorem c9 : Tryz.prog.cellsOf 9 = 1 := by kernel_rfl
theorem cal10 : callable Tryz.prog 10 = true := by kernel_rfl
theorem cal100 : callable Tryz.prog 100 = true := by kernel_rfl
theorem cal101 : callable Tryz.prog 101 = true := by kernel_rfl
theorem cal102 : callable Tryz.prog 102 = true := by kernel_rfl
theorem cal103 : callable Tryz.prog 103 = true := by kernel_rfl
theorem cal104 : callable Tryz.prog 104 = true := by kernel_rfl
theorem cal105 : callable Tryz.prog 105 = true := by kernel_rfl
theorem cal106 : callable Tryz.prog 106 = true := by kernel_rfl
theorem cal107 : callable Tryz.prog 107 = true := by kernel_rfl
theorem cal108 : callable Tryz.prog 108 = true := by kernel_rfl
theorem cal11 : callable Tryz.prog 11 = true := by kernel_rfl
theorem cal12 : callable Tryz.prog 12 = true := by kernel_rfl
theorem cal121 : callable Tryz.prog 121 = true := by kernel_rfl
theorem cal122 : callable Tryz.prog 122 = true := by kernel_rfl
theorem cal123 : callable Tryz.prog 123 = true := by kernel_rfl
theorem cal124 : callable Tryz.prog 124 = true := by kernel_rfl
theorem cal125 : callable Tryz.prog 125 = true := by kernel_rfl
theorem cal126 : callable Tryz.prog 126 = true := by kernel_rfl
theorem cal127 : callable Tryz.prog 127 = true := by kernel_rfl
theorem cal128 : callable Tryz.prog 128 = true := by kernel_rfl
theorem cal13 : callable Tryz.prog 13 = true := by kernel_rfl
theorem cal130 : callable Tryz.prog 130 = true := by kernel_rfl
theorem cal131 : callable Tryz.prog 131 = true := by kernel_rfl
theorem cal132 : callable Tryz.prog 132 = true := by kernel_rfl
theorem cal138 : callable Tryz.prog 138 = true := by kernel_rfl
theorem cal139 : callable Tryz.prog 139 = true := by kernel_rfl
theorem cal14 : callable Tryz.prog 14 = true := by kernel_rfl
theorem cal140 : callable Tryz.prog 140 = true := by kernel_rfl
theorem cal141 : callable Tryz.prog 141 = true := by kernel_rfl
theorem cal142 : callable Tryz.prog 142 = true := by kernel_rfl
theorem cal15 : callable Tryz.prog 15 = true := by kernel_rfl
theorem cal151 : callable Tryz.prog 151 = true := by kernel_rfl
theorem cal153 : callable Tryz.prog 153 = true := by kernel_rfl
theorem cal154 : callable Tryz.prog 154 = true := by kernel_rfl
theorem cal155 : callable Tryz.prog 155 = true := by kernel_rfl
theorem cal156 : callable Tryz.prog 156 = true := by kernel_rfl
theorem cal157 : callable Tryz.prog 157 = true := by kernel_rfl
theorem cal16 : callable Tryz.prog 16 = true := by kernel_rfl
theorem cal161 : callable Tryz.prog 161 = true := by kernel_rfl
theorem cal162 : callable Tryz.prog 162 = true := by kernel_rfl
theorem cal17 : callable Tryz.prog 17 = true := by kernel_rfl
theorem cal18 : callable Tryz.prog 18 = true := by kernel_rfl
theorem cal19 : callable Tryz.prog 19 = true := by kernel_rfl
theorem cal20 : callable Tryz.prog 20 = true := by kernel_rfl
theorem cal21 : callable Tryz.prog 21 = true := by kernel_rfl
theorem cal22 : callable Tryz.prog 22 = true := by kernel_rfl
theorem cal25 : callable Tryz.prog 25 = true := by kernel_rfl
theorem cal26 : callable Tryz.prog 26 = true := by kernel_rfl
theorem cal27 : callable Tryz.prog 27 = true := by kernel_rfl
theorem cal28 : callable Tryz.prog 28 = true := by kernel_rfl
theorem cal29 : callable Tryz.prog 29 = true := by kernel_rfl
theorem cal30 : callable Tryz.prog 30 = true := by kernel_rfl
theorem cal31 : callable Tryz.prog 31 = true := by kernel_rfl
theorem cal32 : callable Tryz.prog 32 = true := by kernel_rfl
theorem cal33 : callable Tryz.prog 33 = true := by kernel_rfl
theorem cal34 : callable Tryz.prog 34 = true := by kernel_rfl
theorem cal35 : callable Tryz.prog 35 = true := by kernel_rfl
theorem cal36 : callable Tryz.prog 36 = true := by kernel_rfl
theorem cal37 : callable Tryz.prog 37 = true := by kernel_rfl
theorem cal38 : callable Tryz.prog 38 = true := by kernel_rfl
theorem cal39 : callable Tryz.prog 39 = true := by kernel_rfl
theorem cal40 : callable Tryz.prog 40 = true := by kernel_rfl
theorem cal41 : callable Tryz.prog 41 = true := by kernel_rfl
theorem cal43 : callable Tryz.prog 43 = true := by kernel_rfl
theorem cal48 : callable Tryz.prog 48 = true := by kernel_rfl
theorem cal49 : callable Tryz.prog 49 = true := by kernel_rfl
theorem cal50 : callable Tryz.prog 50 = true := by kernel_rfl
theorem cal51 : callable Tryz.prog 51 = true := by kernel_rfl
theorem cal52 : callable Tryz.prog 52 = true := by kernel_rfl
theorem cal53 : callable Tryz.prog 53 = true := by kernel_rfl
theorem cal54 : callable Tryz.prog 54 = true := by kernel_rfl
theorem cal55 : callable Tryz.prog 55 = true := by kernel_rfl
theorem cal56 : callable Tryz.prog 56 = true := by kernel_rfl
theorem cal57 : callable Tryz.prog 57 = true := by kernel_rfl
theorem cal58 : callable Tryz.prog 58 = true := by kernel_rfl
theorem cal59 : callable Tryz.prog 59 = true := by kernel_rfl
theorem cal60 : callable Tryz.prog 60 = true := by kernel_rfl
theorem cal61 : callable Tryz.prog 61 = true := by kernel_rfl
theorem cal62 : callable Tryz.prog 62 = true := by kernel_rfl
theorem cal66 : callable Tryz.prog 66 = true := by kernel_rfl
theorem cal67 : callable Tryz.prog 67 = true := by kernel_rfl
theorem cal68 : callable Tryz.prog 68 = true := by kernel_rfl
theorem cal69 : callable Tryz.prog 69 = true := by kernel_rfl
theorem cal70 : callable Tryz.prog 70 = true := by kernel_rfl
theorem cal71 : callable Tryz.prog 71 = true := by kernel_rfl
theorem cal72 : callable Tryz.prog 72 = true := by kernel_rfl
theorem cal73 : callable Tryz.prog 73 = true := by kernel_rfl
theorem cal74 : callable Tryz.prog 74 = true := by kernel_rfl
theorem cal75 : callable Tryz.prog 75 = true := by kernel_rfl
theorem cal76 : callable Tryz.prog 76 = true := by kernel_rfl
theorem cal77 : callable Tryz.prog 77 = true := by kernel_rfl
theorem cal8 : callable Tryz.prog 8 = true := by kernel_rfl
theorem cal80 : callable Tryz.prog 80 = true := by kernel_rfl
theorem cal82 : callable Tryz.prog 82 = true := by kernel_rfl
theorem cal83 : callable Tryz.prog 83 = true := by kernel_rfl
theorem cal84 : callable Tryz.prog 84 = true := by kernel_rfl
theorem cal85 : callable Tryz.prog 85 = true := by kernel_rfl
theorem cal86 : callable Tryz.prog 86 = true := by kernel_rfl
theorem cal87 : callable Tryz.prog 87 = true := by kernel_rfl
theorem cal88 : callable Tryz.prog 88 = true := by kernel_rfl
theorem cal89 : callable Tryz.prog 89 = true := by kernel_rfl
theorem cal9 : callable Tryz.prog 9 = true := by kernel_rfl
theorem cal90 : callable Tryz.prog 90 = true := by kernel_rfl
theorem cal91 : callable Tryz.prog 91 = true := by kernel_rfl
theorem cal92 : callable Tryz.prog 92 = true := by kernel_rfl
theorem cal95 : callable Tryz.prog 95 = true := by kernel_rfl
theorem cal96 : callable Tryz.prog 96 = true := by kernel_rfl
theorem cal97 : callable Tryz.prog 97 = true := by kernel_rfl
theorem cal98 : callable Tryz.prog 98 = true := by kernel_rfl
theorem cal99 : callable Tryz.prog 99 = true := by kernel_rfl
theorem eg61 : Tryz.prog.eqGuardType Tryz.prog.depth 61 = false := by kernel_rfl
theorem inf3 : ∃ i, Tryz.prog.info? 3 = some i ∧ i.size = 1 ∧ i.zero = some (.int .i64 0) ∧ i.bytes = 8 := inf_of (by kernel_rfl) (by kernel_rfl) (by kernel_rfl)
theorem inf33 : ∃ i, Tryz.prog.info? 33 = some i ∧ i.size = 6 ∧ i.zero = some (.agg #[.string ⟨#[]⟩, .string ⟨#[]⟩, .slice none 0 0, .string ⟨#[]⟩, .string ⟨#[]⟩, .int .i64 0]) ∧ i.bytes = 96 := inf_of (by kernel_rfl) (by kernel_rfl) (by kernel_rfl)
theorem inf36 : ∃ i, Tryz.prog.info? 36 = some i ∧ i.size = 2 ∧ i.zero = some (.agg #[.string ⟨#[]⟩, .slice none 0 0]) ∧ i.bytes = 40 := inf_of (by kernel_rfl) (by kernel_rfl) (by kernel_rfl)
theorem inf4 : ∃ i, Tryz.prog.info? 4 = some i ∧ i.size = 1 ∧ i.zero = some (.bool false) ∧ i.bytes = 1 := inf_of (by kernel_rfl) (by kernel_rfl) (by kernel_rfl)
theorem inf61 : ∃ i, Tryz.prog.info? 61 = some i ∧ i.size = 2 ∧ i.zero = some (.agg #[.int .i64 0, .string ⟨#[]⟩]) ∧ i.bytes = 24 := inf_of (by kernel_rfl) (by kernel_rfl) (by kernel_rfl)
theorem inf9 : ∃ i, Tryz.prog.info? 9 = some i ∧ i.size = 1 ∧ i.zero = some (.string ⟨#[]⟩) ∧ i.bytes = 16 := inf_of (by kernel_rfl) (by kernel_rfl) (by kernel_rfl)
theorem fa102_0 : FA Tryz.prog 102 0 0 := ⟨_, _, _, _, Tryz.underlying102, rfl, Tryz.underlying9, c9, by decide, rfl⟩
theorem fa102_1 : FA Tryz.prog 102 1 1 := ⟨_, _, _, _, Tryz.underlying102, rfl, Tryz.underlying100, c100, by decide, rfl⟩
theorem fa105_0 : FA Tryz.prog 105 0 0 := ⟨_, _, _, _, Tryz.underlying105, rfl, Tryz.underlying33, c33, by decide, rfl⟩
theorem fa105_1 : FA Tryz.prog 105 1 6 := ⟨_, _, _, _, Tryz.underlying105, rfl, Tryz.underlying3, c3, by decide, rfl⟩
theorem fa105_2 : FA Tryz.prog 105 2 7 := ⟨_, _, _, _, Tryz.underlying105, rfl, Tryz.underlying4, c4, by decide, rfl⟩
theorem fa115_0 : FA Tryz.prog 115 0 0 := ⟨_, _, _, _, Tryz.underlying115, rfl, Tryz.underlying3, c3, by decide, rfl⟩
theorem fa115_1 : FA Tryz.prog 115 1 1 := ⟨_, _, _, _, Tryz.underlying115, rfl, Tryz.underlying3, c3, by decide, rfl⟩
theorem fa115_2 : FA Tryz.prog 115 2 2 := ⟨_, _, _, _, Tryz.underlying115, rfl, Tryz.underlying24, c24, by decide, rfl⟩
theorem fa115_3 : FA Tryz.prog 115 3 3 := ⟨_, _, _, _, Tryz.underlying115, rfl, Tryz.underlying3, c3, by decide, rfl⟩
theorem fa28_0 : FA Tryz.prog 28 0 0 := ⟨_, _, _, _, Tryz.underlying28, rfl, Tryz.underlying26, c26, by decide, rfl⟩
theorem fa33_0 : FA Tryz.prog 33 0 0 := ⟨_, _, _, _, Tryz.underlying33, rfl, Tryz.underlying9, c9, by decide, rfl⟩
theorem fa33_1 : FA Tryz.prog 33 1 1 := ⟨_, _, _, _, Tryz.underlying33, rfl, Tryz.underlying9, c9, by decide, rfl⟩
theorem fa33_2 : FA Tryz.prog 33 2 2 := ⟨_, _, _, _, Tryz.underlying33, rfl, Tryz.underlying31, c31, by decide, rfl⟩
theorem fa33_3 : FA Tryz.prog 33 3 3 := ⟨_, _, _, _, Tryz.underlying33, rfl, Tryz.underlying9, c9, by decide, rfl⟩
theorem fa33_4 : FA Tryz.prog 33 4 4 := ⟨_, _, _, _, Tryz.underlying33, rfl, Tryz.underlying9, c9, by decide, rfl⟩
theorem fa33_5 : FA Tryz.prog 33 5 5 := ⟨_, _, _, _, Tryz.underlying33, rfl, Tryz.underlying3, c3, by decide, rfl⟩
theorem fa36_0 : FA Tryz.prog 36 0 0 := ⟨_, _, _, _, Tryz.underlying36, rfl, Tryz.underlying9, c9, by decide, rfl⟩
theorem fa36_1 : FA Tryz.prog 36 1 1 := ⟨_, _, _, _, Tryz.underlying36, rfl, Tryz.underlying23, c23, by decide, rfl⟩
theorem fa61_0 : FA Tryz.prog 61 0 0 := ⟨_, _, _, _, Tryz.underlying61, rfl, Tryz.underlying3, c3, by decide, rfl⟩
theorem fa61_1 : FA Tryz.prog 61 1 1 := ⟨_, _, _, _, Tryz.underlying61, rfl, Tryz.underlying9, c9, by decide, rfl⟩
theorem fa80_0 : FA Tryz.prog 80 0 0 := ⟨_, _, _, _, Tryz.underlying80, rfl, Tryz.underlying78, c78, by decide, rfl⟩
theorem sc100 : SC Tryz.prog 100 := ⟨_, Tryz.underlying100, rfl⟩
theorem sc23 : SC Tryz.prog 23 := ⟨_, Tryz.underlying23, rfl⟩
theorem sc24 : SC Tryz.prog 24 := ⟨_, Tryz.underlying24, rfl⟩
theorem sc25 : SC Tryz.prog 25 := ⟨_, Tryz.underlying25, rfl⟩
theorem sc26 : SC Tryz.prog 26 := ⟨_, Tryz.underlying26, rfl⟩
theorem sc3 : SC Tryz.prog 3 := ⟨_, Tryz.underlying3, rfl⟩
theorem sc31 : SC Tryz.prog 31 := ⟨_, Tryz.underlying31, rfl⟩
theorem sc4 : SC Tryz.prog 4 := ⟨_, Tryz.underlying4, rfl⟩
theorem sc76 : SC Tryz.prog 76 := ⟨_, Tryz.underlying76, rfl⟩
theorem sc78 : SC Tryz.prog 78 := ⟨_, Tryz.underlying78, rfl⟩
theorem sc9 : SC Tryz.prog 9 := ⟨_, Tryz.underlying9, rfl⟩
theorem sg28 : SG Tryz.prog 28 1 := ⟨_, Tryz.underlying28, rfl, c28⟩
theorem sg33 : SG Tryz.prog 33 6 := ⟨_, Tryz.underlying33, rfl, c33⟩
theorem sg36 : SG Tryz.prog 36 2 := ⟨_, Tryz.underlying36, rfl, c36⟩
theorem sg61 : SG Tryz.prog 61 2 := ⟨_, Tryz.underlying61, rfl, c61⟩
theorem sz28 : SZ Tryz.prog 28 1 := ⟨_, Tryz.underlying28, c28⟩
theorem sz3 : SZ Tryz.prog 3 1 := ⟨_, Tryz.underlying3, c3⟩
theorem sz31 : SZ Tryz.prog 31 1 := ⟨_, Tryz.underlying31, c31⟩
theorem sz33 : SZ Tryz.prog 33 6 := ⟨_, Tryz.underlying33, c33⟩
theorem sz36 : SZ Tryz.prog 36 2 := ⟨_, Tryz.underlying36, c36⟩
theorem sz4 : SZ Tryz.prog 4 1 := ⟨_, Tryz.underlying4, c4⟩
theorem sz61 : SZ Tryz.prog 61 2 := ⟨_, Tryz.underlying61, c61⟩
theorem sz9 : SZ Tryz.prog 9 1 := ⟨_, Tryz.underlying9, c9⟩
theorem pl102 : plcT Tryz.prog 102 = true := by kernel_rfl
theorem pl105 : plcT Tryz.prog 105 = true := by kernel_rfl
theorem pl28 : plcT Tryz.prog 28 = true := by kernel_rfl
theorem pl33 : plcT Tryz.prog 33 = true := by kernel_rfl
theorem pl36 : plcT Tryz.prog 36 = true := by kernel_rfl
theorem pl61 : plcT Tryz.prog 61 = true := by kernel_rfl
theorem pl80 : plcT Tryz.prog 80 = true := by kernel_rfl
theorem st61 : Tryz.prog.stoodInHeld 61 = false := by kernel_rfl
theorem xf167 : (Extern.findNext Tryz.f167).isNone = true := by kernel_rfl
theorem xg167 : Extern.find Tryz.f167 = some Extern.BytealgIndexByte.indexByte := by rfl
theorem z102 : zer Tryz.prog 102 = some (.agg #[.string ⟨#[]⟩, .map none]) := by kernel_rfl
theorem z103 : zer Tryz.prog 103 = some (.pointer none) := by kernel_rfl
theorem z105 : zer Tryz.prog 105 = some (.agg #[.string ⟨#[]⟩, .string ⟨#[]⟩, .slice none 0 0, .string ⟨#[]⟩, .string ⟨#[]⟩, .int .i64 0, .int .i64 0, .bool false]) := by kernel_rfl
theorem z156 : zer Tryz.prog 156 = some (.agg #[.nilFunc, .nilFunc, .nilFunc]) := by kernel_rfl
theorem z28 : zer Tryz.prog 28 = some (.agg #[.slice none 0 0]) := by kernel_rfl
theorem z3 : zer Tryz.prog 3 = some (.int .i64 0) := by kernel_rfl
theorem z33 : zer Tryz.prog 33 = some (.agg #[.string ⟨#[]⟩, .string ⟨#[]⟩, .slice none 0 0, .string ⟨#[]⟩, .string ⟨#[]⟩, .int .i64 0]) := by kernel_rfl
theorem z36 : zer Tryz.prog 36 = some (.agg #[.string ⟨#[]⟩, .slice none 0 0]) := by kernel_rfl
theorem z5 : zer Tryz.prog 5 = some (.int .u8 0) := by kernel_rfl
theorem z61 : zer Tryz.prog 61 = some (.agg #[.int .i64 0, .string ⟨#[]⟩]) := by kernel_rfl
theorem z76 : zer Tryz.prog 76 = some (.pointer none) := by kernel_rfl
theorem z80 : zer Tryz.prog 80 = some (.agg #[.map none]) := by kernel_rfl
theorem z9 : zer Tryz.prog 9 = some (.string ⟨#[]⟩) := by kernel_rfl
theorem zc28 : ZC Tryz.prog 28 [eq (.slice none 0 0)] := ⟨_, z28, rfl⟩
theorem zc33 : ZC Tryz.prog 33 [eq (.string (⟨#[]⟩ : ByteArray)), eq (.string (⟨#[]⟩ : ByteArray)), eq (.slice none 0 0), eq (.string (⟨#[]⟩ : ByteArray)), eq (.string (⟨#[]⟩ : ByteArray)), eq (.int .i64 0)] := ⟨_, z33, rfl⟩
theorem zc36 : ZC Tryz.prog 36 [eq (.string (⟨#[]⟩ : ByteArray)), eq (.slice none 0 0)] := ⟨_, z36, rfl⟩
theorem zc61 : ZC Tryz.prog 61 [eq (.int .i64 0), eq (.string (⟨#[]⟩ : ByteArray))] := ⟨_, z61, rfl⟩
structure Event where
  fID : ByteArray
  fRoom : ByteArray
  fParents : List ByteArray
  fThread : ByteArray
  fUser : ByteArray
  fDoes : Int
  deriving DecidableEq, Inhabited
abbrev Event.enc (x : Event) : Cs := [eq (.string x.fID), eq (.string x.fRoom), sl strK x.fParents, eq (.string x.fThread), eq (.string x.fUser), eq (.int .i64 x.fDoes)]
abbrev Event.K : Kd Event := ⟨6, default, Event.enc, fun _ => rfl, fun _ => (ones_cons (one_eq rfl) (ones_cons (one_eq rfl) (ones_cons one_sl (ones_cons (one_eq rfl) (ones_cons (one_eq rfl) (ones_cons (one_eq rfl) ones_nil))))))⟩
structure DNode where
  fe : Event
  fdepth : Int
  fparent : Bool
  deriving DecidableEq, Inhabited
abbrev DNode.enc (x : DNode) : Cs := [eq (.string x.fe.fID), eq (.string x.fe.fRoom), sl strK x.fe.fParents, eq (.string x.fe.fThread), eq (.string x.fe.fUser), eq (.int .i64 x.fe.fDoes), eq (.int .i64 x.fdepth), eq (.bool x.fparent)]
abbrev DNode.K : Kd DNode := ⟨8, default, DNode.enc, fun _ => rfl, fun _ => (ones_cons (one_eq rfl) (ones_cons (one_eq rfl) (ones_cons one_sl (ones_cons (one_eq rfl) (ones_cons (one_eq rfl) (ones_cons (one_eq rfl) (ones_cons (one_eq rfl) (ones_cons (one_eq rfl) ones_nil))))))))⟩
structure DDag where
  froom : ByteArray
  fnodes : List (ByteArray × DNode)
  deriving DecidableEq, Inhabited
structure VView where
  fdags : List (ByteArray × DDag)
  deriving DecidableEq, Inhabited
structure RDag where
  fRoom : ByteArray
  fL : List Event
  deriving DecidableEq, Inhabited
abbrev RDag.enc (x : RDag) : Cs := [eq (.string x.fRoom), sl Event.K x.fL]
abbrev RDag.K : Kd RDag := ⟨2, default, RDag.enc, fun _ => rfl, fun _ => (ones_cons (one_eq rfl) (ones_cons one_sl ones_nil))⟩
structure GMade where
  fUser : Int
  fDoes : Int
  fParents : List Int
  fThread : Int
  deriving DecidableEq, Inhabited
abbrev GMade.enc (x : GMade) : Cs := [eq (.int .i64 x.fUser), eq (.int .i64 x.fDoes), sl (intK .i64) x.fParents, eq (.int .i64 x.fThread)]
abbrev GMade.K : Kd GMade := ⟨4, default, GMade.enc, fun _ => rfl, fun _ => (ones_cons (one_eq rfl) (ones_cons (one_eq rfl) (ones_cons one_sl (ones_cons (one_eq rfl) ones_nil))))⟩
structure RView where
  fD : List RDag
  deriving DecidableEq, Inhabited
abbrev RView.enc (x : RView) : Cs := [sl RDag.K x.fD]
abbrev RView.K : Kd RView := ⟨1, default, RView.enc, fun _ => rfl, fun _ => (ones_cons one_sl ones_nil)⟩
structure Pos where
  fDepth : Int
  fID : ByteArray
  deriving DecidableEq, Inhabited
abbrev Pos.enc (x : Pos) : Cs := [eq (.int .i64 x.fDepth), eq (.string x.fID)]
abbrev Pos.K : Kd Pos := ⟨2, default, Pos.enc, fun _ => rfl, fun _ => (ones_cons (one_eq rfl) (ones_cons (one_eq rfl) ones_nil))⟩
theorem eqt61 (x y : Pos) {d : Nat} {w : World} : (Op.equalIn (d + 2) 61 (.agg [.int .i64 x.fDepth, .string x.fID].toArray) (.agg [.int .i64 y.fDepth, .string y.fID].toArray)).run Tryz.prog w = .ok (decide (x = y)) w := by
  have e : decide (x = y) = ((decide (x.fDepth = y.fDepth) && (decide (x.fID = y.fID) && true))) := by cases x; cases y; rw [Bool.eq_iff_iff]; simp
  rw [e]
  exact eq_struct Tryz.underlying61 st61 (eqF_cons (by decide) (run_part1 Tryz.underlying3 rfl rfl) (run_part1 Tryz.underlying3 rfl rfl) (eq_int Tryz.underlying3) (eqF_cons (by decide) (run_part1 Tryz.underlying9 rfl rfl) (run_part1 Tryz.underlying9 rfl rfl) (eq_str Tryz.underlying9) eqF_nil))
def DNode.O (p : OV) (m : DNode) : As := exA (γ := Nat) (fun g => p.1 = .pointer (some ⟨g, 0, none⟩)) (fun g => [blk g 105 [eq (.string m.fe.fID), eq (.string m.fe.fRoom), sl strK m.fe.fParents, eq (.string m.fe.fThread), eq (.string m.fe.fUser), eq (.int .i64 m.fe.fDoes), eq (.int .i64 m.fdepth), eq (.bool m.fparent)]])
theorem DNode.nn {p : OV} {m : DNode} : NN (DNode.O p m) p.1 := by unfold DNode.O; exact nn_ex (γ := Nat) (b := fun g => g)
theorem DNode.opn {l : List As} {p : OV} {m : DNode} (j : Nat) (hj : l[j]? = some (DNode.O p m)) : ∀ R w, St R l w → ∃ g : Nat, p.1 = .pointer (some ⟨g, 0, none⟩) ∧ St R ([blk g 105 [eq (.string m.fe.fID), eq (.string m.fe.fRoom), sl strK m.fe.fParents, eq (.string m.fe.fThread), eq (.string m.fe.fUser), eq (.int .i64 m.fe.fDoes), eq (.int .i64 m.fdepth), eq (.bool m.fparent)]] ++ l.eraseIdx j) w := st_open j hj
theorem DNode.shut {l r : List As} {p : OV} {m : DNode} (g : Nat) (hg : p.1 = .pointer (some ⟨g, 0, none⟩)) (hp : l.Perm ([blk g 105 [eq (.string m.fe.fID), eq (.string m.fe.fRoom), sl strK m.fe.fParents, eq (.string m.fe.fThread), eq (.string m.fe.fUser), eq (.int .i64 m.fe.fDoes), eq (.int .i64 m.fdepth), eq (.bool m.fparent)]] ++ r)) : ∀ R w, St R l w → ∃ _ : Unit, True ∧ St R (DNode.O p m :: r) w := st_shut _ _ g hg hp
def DDag.O (p : OV) (m : DDag) : As := exA (γ := Nat × OV) (fun g => p.1 = .pointer (some ⟨g.1, 0, none⟩)) (fun g => [blk g.1 102 [eq (.string m.froom), eq g.2.1], mpo Value.string DNode.O g.2.1 m.fnodes])
theorem DDag.nn {p : OV} {m : DDag} : NN (DDag.O p m) p.1 := by unfold DDag.O; exact nn_ex (γ := Nat × OV) (b := fun g => g.1)
theorem DDag.opn {l : List As} {p : OV} {m : DDag} (j : Nat) (hj : l[j]? = some (DDag.O p m)) : ∀ R w, St R l w → ∃ g : Nat × OV, p.1 = .pointer (some ⟨g.1, 0, none⟩) ∧ St R ([blk g.1 102 [eq (.string m.froom), eq g.2.1], mpo Value.string DNode.O g.2.1 m.fnodes] ++ l.eraseIdx j) w := st_open j hj
theorem DDag.shut {l r : List As} {p : OV} {m : DDag} (g : Nat × OV) (hg : p.1 = .pointer (some ⟨g.1, 0, none⟩)) (hp : l.Perm ([blk g.1 102 [eq (.string m.froom), eq g.2.1], mpo Value.string DNode.O g.2.1 m.fnodes] ++ r)) : ∀ R w, St R l w → ∃ _ : Unit, True ∧ St R (DDag.O p m :: r) w := st_shut _ _ g hg hp
def VView.O (p : OV) (m : VView) : As := exA (γ := Nat × OV) (fun g => p.1 = .pointer (some ⟨g.1, 0, none⟩)) (fun g => [blk g.1 80 [eq g.2.1], mpo Value.string DDag.O g.2.1 m.fdags])
theorem VView.nn {p : OV} {m : VView} : NN (VView.O p m) p.1 := by unfold VView.O; exact nn_ex (γ := Nat × OV) (b := fun g => g.1)
theorem VView.opn {l : List As} {p : OV} {m : VView} (j : Nat) (hj : l[j]? = some (VView.O p m)) : ∀ R w, St R l w → ∃ g : Nat × OV, p.1 = .pointer (some ⟨g.1, 0, none⟩) ∧ St R ([blk g.1 80 [eq g.2.1], mpo Value.string DDag.O g.2.1 m.fdags] ++ l.eraseIdx j) w := st_open j hj
theorem VView.shut {l r : List As} {p : OV} {m : VView} (g : Nat × OV) (hg : p.1 = .pointer (some ⟨g.1, 0, none⟩)) (hp : l.Perm ([blk g.1 80 [eq g.2.1], mpo Value.string DDag.O g.2.1 m.fdags] ++ r)) : ∀ R w, St R l w → ∃ _ : Unit, True ∧ St R (VView.O p m :: r) w := st_shut _ _ g hg hp
def fqQ_string_bool (g : ByteArray → Option Bool) : List VP → VP → Prop := fun vs ret => ∃ a0 r, g a0 = some r ∧ vs = [eq (.string a0)] ∧ ret = eq (.bool r)
def fq_string_bool (g : ByteArray → Option Bool) : VP := fnq Tryz.prog (fqQ_string_bool g)
def fx_string_bool (X : As) (g : ByteArray → Option Bool) : VP := fnx Tryz.prog X (fqQ_string_bool g)
def fK_string_bool : Kd (ByteArray → Option Bool) := ⟨1, fun _ => none, fun g => [fq_string_bool g], fun _ => rfl, fun _ p h R v hv => by simp at h; subst h; exact one_fnq R v hv⟩
def fqQ_uint8_bool (g : Int → Option Bool) : List VP → VP → Prop := fun vs ret => ∃ a0 r, g a0 = some r ∧ vs = [eq (.int .u8 a0)] ∧ ret = eq (.bool r)
def fq_uint8_bool (g : Int → Option Bool) : VP := fnq Tryz.prog (fqQ_uint8_bool g)
def fx_uint8_bool (X : As) (g : Int → Option Bool) : VP := fnx Tryz.prog X (fqQ_uint8_bool g)
def fK_uint8_bool : Kd (Int → Option Bool) := ⟨1, fun _ => none, fun g => [fq_uint8_bool g], fun _ => rfl, fun _ p h R v hv => by simp at h; subst h; exact one_fnq R v hv⟩
def fqQ_api_Event_api_Event_bool (g : Event → Event → Option Bool) : List VP → VP → Prop := fun vs ret => ∃ a0 a1 r, g a0 a1 = some r ∧ vs = [agg (Event.enc a0), agg (Event.enc a1)] ∧ ret = eq (.bool r)
def fq_api_Event_api_Event_bool (g : Event → Event → Option Bool) : VP := fnq Tryz.prog (fqQ_api_Event_api_Event_bool g)
def fx_api_Event_api_Event_bool (X : As) (g : Event → Event → Option Bool) : VP := fnx Tryz.prog X (fqQ_api_Event_api_Event_bool g)
def fK_api_Event_api_Event_bool : Kd (Event → Event → Option Bool) := ⟨1, fun _ _ => none, fun g => [fq_api_Event_api_Event_bool g], fun _ => rfl, fun _ p h R v hv => by simp at h; subst h; exact one_fnq R v hv⟩
/-! concourse/dag.New: function 84 -/
def dag_New.f (a0 : ByteArray) : Option (DDag) := some (⟨a0, ([] : List (ByteArray × DNode))⟩ : DDag)
/-! (*concourse/view.View).room -/
def view_View_room.f (a0 : VView) (a1 : ByteArray) : Option DDag := cond (mget a0.fdags a1).isSome (some ((mget a0.fdags a1).getD default)) (dag_New.f a1)
/-! slices.IndexFunc[[]string,string]: function 96 -/
def slices_IndexFunc_string_x.l0 (k : Nat) (a0 : List ByteArray) (a1 : (ByteArray → Option Bool)) : Nat → Int → Option ((Int × Bool) ⊕ (Int))
  | 0, _ => none
  | j10 + 1, x4 => cond (decide (x4 < (a0.length : Int))) (grd ((0 : Int) ≤ x4 ∧ x4 < (a0.length : Int)) ((a1 (strK.at a0 x4)).bind fun t7 => cond t7 (some (.inr x4)) (slices_IndexFunc_string_x.l0 k a0 a1 j10 (w64 (x4 + 1))))) (some (.inl (x4, decide (x4 < (a0.length : Int)))))
def slices_IndexFunc_string_x.f (k : Nat) (a0 : List ByteArray) (a1 : (ByteArray → Option Bool)) : Option (Int) := (slices_IndexFunc_string_x.l0 k a0 a1 k 0).bind (fall fun (p3 : Int × Bool) => some (-1))
/-! slices.ContainsFunc[[]string,string]: function 62 -/
def slices_ContainsFunc_string_x.f (k : Nat) (a0 : List ByteArray) (a1 : (ByteArray → Option Bool)) : Option (Bool) := (slices_IndexFunc_string_x.f k a0 a1).bind fun t12 => some (decide (0 ≤ t12))
/-! internal/stringslite.HasPrefix: function 154 -/
def stringslite_HasPrefix.f (a0 : ByteArray) (a1 : ByteArray) : Option (Bool) := cond (decide ((a1.size : Int) ≤ (a0.size : Int))) (grd ((0 : Int) ≤ (a1.size : Int) ∧ 0 ≤ (a1.size : Int).toNat ∧ (a1.size : Int).toNat ≤ a0.size) (some (decide ((a0.extract 0 ((a1.size : Int).toNat)) = a1)))) (some false)
/-! internal/stringslite.CutPrefix: function 140 -/
def stringslite_CutPrefix.f (a0 : ByteArray) (a1 : ByteArray) : Option (ByteArray × Bool) := (stringslite_HasPrefix.f a0 a1).bind fun t16 => cond (!t16) (some (a0, false)) (grd ((0 : Int) ≤ (a1.size : Int) ∧ (a1.size : Int).toNat ≤ a0.size ∧ a0.size ≤ a0.size) (some (a0.extract (a1.size : Int).toNat a0.size, true)))
/-! strings.CutPrefix: function 126 -/
def strings_CutPrefix.f (a0 : ByteArray) (a1 : ByteArray) : Option (ByteArray × Bool) := (stringslite_CutPrefix.f a0 a1).bind fun t20 => some (t20.1, t20.2)
/-! concourse/name.small: function 156 -/
def name_small.f (a0 : Int) : Option (Bool) := cond (decide (97 ≤ a0)) (cond (decide (a0 ≤ 122)) (some true) (cond (decide (48 ≤ a0)) (some (decide (a0 ≤ 57))) (some false))) (cond (decide (48 ≤ a0)) (some (decide (a0 ≤ 57))) (some false))
/-! internal/stringslite.IndexByte: function 162 -/
def stringslite_IndexByte.f (a0 : ByteArray) (a1 : Int) : Option (Int) := some (idxB a0 a1)
/-! strings.IndexByte: function 157 -/
def strings_IndexByte.f (a0 : ByteArray) (a1 : Int) : Option (Int) := (stringslite_IndexByte.f a0 a1).bind fun t26 => some t26
/-! concourse/name.among$1: function 155 -/
def name_among_1.f (a0 : Int) (c0 : ByteArray) : Option (Bool) := (name_small.f a0).bind fun t28 => cond t28 (some true) ((strings_IndexByte.f c0 a0).bind fun t31 => some (decide (0 ≤ t31)))
/-! concourse/name.among: function 141 -/
def name_among.f (a0 : ByteArray) : Option ((Int → Option Bool)) := some (fun a0_ => name_among_1.f a0_ a0)
/-! concourse/name.may: function 127 -/
def name_may.l0 (k : Nat) (a0 : ByteArray) (a1 : Int) (t34 : (Int → Option Bool)) (t36 : (Int → Option Bool)) (t38 : (Int → Option Bool)) : Nat → Int → Option ((Int × Bool) ⊕ (Bool))
  | 0, _ => none
  | j49 + 1, x43 => cond (decide (x43 < (a0.size : Int))) (grd ((0 : Int) ≤ x43 ∧ x43 < (a0.size : Int)) (((fK_uint8_bool.at ([t34, t36, t38] : List (Int → Option Bool)) a1) (bt a0 x43)).bind fun t46 => cond (!t46) (some (.inr false)) (name_may.l0 k a0 a1 t34 t36 t38 j49 (w64 (x43 + 1))))) (some (.inl (x43, decide (x43 < (a0.size : Int)))))
def name_may.f (k : Nat) (a0 : ByteArray) (a1 : Int) : Option (Bool) := (name_among.f (⟨#[46, 45, 95]⟩ : ByteArray)).bind fun t34 => (name_among.f (⟨#[46, 45]⟩ : ByteArray)).bind fun t36 => (name_among.f (⟨#[45, 95, 65, 66, 67, 68, 69, 70, 71, 72, 73, 74, 75, 76, 77, 78, 79, 80, 81, 82, 83, 84, 85, 86, 87, 88, 89, 90]⟩ : ByteArray)).bind fun t38 => grd ((0 : Int) ≤ a1 ∧ a1 < (3 : Int)) ((name_may.l0 k a0 a1 t34 t36 t38 k 0).bind (fall fun (p41 : Int × Bool) => cond (!decide (a0 = (⟨#[]⟩ : ByteArray))) (some (decide ((a0.size : Int) ≤ 16))) (some false)))
/-! concourse/name.Event: function 104 -/
def name_Event.f (k : Nat) (a0 : ByteArray) : Option (Bool) := (strings_CutPrefix.f a0 (⟨#[36]⟩ : ByteArray)).bind fun t51 => cond t51.2 ((name_may.f k t51.1 2).bind fun t54 => some t54) (some false)
/-! internal/bytealg.Cutover: function 165 -/
def bytealg_Cutover.f (a0 : Int) : Option (Int) := some (w64 ((w64 (a0 + 16)).tdiv 8))
/-! internal/stringslite.Index: function 161 -/
def stringslite_Index.f (a0 : ByteArray) (a1 : ByteArray) : Option (Int) := cond ((a1.size : Int) == 0) (some 0) (cond (decide (a1 = a0)) (some 0) (cond ((a1.size : Int) == 1) (grd ((0 : Int) ≤ 0 ∧ 0 < (a1.size : Int)) ((stringslite_IndexByte.f a0 (bt a1 0)).bind fun t63 => some t63)) (cond (decide ((a0.size : Int) ≤ (a1.size : Int))) (some (-1)) (none))))
/-! internal/stringslite.Cut: function 153 -/
def stringslite_Cut.f (a0 : ByteArray) (a1 : ByteArray) : Option (ByteArray × ByteArray × Bool) := (stringslite_Index.f a0 a1).bind fun t66 => cond (decide (0 ≤ t66)) (grd ((0 : Int) ≤ t66 ∧ 0 ≤ t66.toNat ∧ t66.toNat ≤ a0.size) (grd ((0 : Int) ≤ (w64 (t66 + (a1.size : Int))) ∧ (w64 (t66 + (a1.size : Int))).toNat ≤ a0.size ∧ a0.size ≤ a0.size) (some (a0.extract 0 t66.toNat, a0.extract (w64 (t66 + (a1.size : Int))).toNat a0.size, true)))) (some (a0, (⟨#[]⟩ : ByteArray), false))
/-! strings.Cut: function 139 -/
def strings_Cut.f (a0 : ByteArray) (a1 : ByteArray) : Option (ByteArray × ByteArray × Bool) := (stringslite_Cut.f a0 a1).bind fun t71 => some (t71.1, t71.2.1, t71.2.2)
/-! concourse/name.Server: function 142 -/
def name_Server.f (k : Nat) (a0 : ByteArray) : Option (Bool) := (name_may.f k a0 1).bind fun t73 => cond t73 (grd ((0 : Int) ≤ 0 ∧ 0 < (a0.size : Int)) ((name_small.f (bt a0 0)).bind fun t77 => cond t77 (grd ((0 : Int) ≤ (w64 ((a0.size : Int) - 1)) ∧ (w64 ((a0.size : Int) - 1)) < (a0.size : Int)) ((name_small.f (bt a0 (w64 ((a0.size : Int) - 1)))).bind fun t81 => some t81)) (some false))) (some false)
/-! concourse/name.split: function 128 -/
def name_split.f (k : Nat) (a0 : ByteArray) (a1 : ByteArray) : Option (ByteArray × ByteArray × Bool) := (strings_CutPrefix.f a0 a1).bind fun t83 => (strings_Cut.f t83.1 (⟨#[58]⟩ : ByteArray)).bind fun t85 => cond t83.2 (cond t85.2.2 ((name_may.f k t85.1 0).bind fun t89 => cond t89 ((name_Server.f k t85.2.1).bind fun t92 => some (t85.1, t85.2.1, t92)) (some (t85.1, t85.2.1, false))) (some (t85.1, t85.2.1, false))) (some (t85.1, t85.2.1, false))
/-! concourse/name.Room: function 105 -/
def name_Room.f (k : Nat) (a0 : ByteArray) : Option (Bool) := (name_split.f k a0 (⟨#[33]⟩ : ByteArray)).bind fun t94 => some t94.2.2
/-! concourse/name.User: function 106 -/
def name_User.f (k : Nat) (a0 : ByteArray) : Option (Bool) := (name_split.f k a0 (⟨#[64]⟩ : ByteArray)).bind fun t96 => some t96.2.2
/-! concourse/dag.May: function 85 -/
def dag_May.l0 (k : Nat) (a0 : Event) : Nat → Int → Option (Bool × Int × Bool)
  | 0, _ => none
  | j138 + 1, x125 => cond (decide (x125 < (a0.fParents.length : Int))) (grd ((0 : Int) ≤ x125 ∧ x125 < (a0.fParents.length : Int)) ((name_Event.f k (strK.at a0.fParents x125)).bind fun t128 => cond (!t128) (some (false, x125, decide (x125 < (a0.fParents.length : Int)))) (cond (decide ((strK.at a0.fParents x125) = a0.fID)) (some (false, x125, decide (x125 < (a0.fParents.length : Int)))) (cond (decide (0 < x125)) (grd ((0 : Int) ≤ (w64 (x125 - 1)) ∧ (w64 (x125 - 1)) < (a0.fParents.length : Int)) (cond (!sLt (strK.at a0.fParents (w64 (x125 - 1))) (strK.at a0.fParents x125)) (some (false, x125, decide (x125 < (a0.fParents.length : Int)))) (dag_May.l0 k a0 j138 (w64 (x125 + 1))))) (dag_May.l0 k a0 j138 (w64 (x125 + 1))))))) (some (true, x125, decide (x125 < (a0.fParents.length : Int))))
def dag_May.l1 (k : Nat) (a0 : Event) : Nat → Int → Option (Bool × Int × Bool)
  | 0, _ => none
  | j155 + 1, x142 => cond (decide (x142 < (a0.fParents.length : Int))) (grd ((0 : Int) ≤ x142 ∧ x142 < (a0.fParents.length : Int)) ((name_Event.f k (strK.at a0.fParents x142)).bind fun t145 => cond (!t145) (some (false, x142, decide (x142 < (a0.fParents.length : Int)))) (cond (decide ((strK.at a0.fParents x142) = a0.fID)) (some (false, x142, decide (x142 < (a0.fParents.length : Int)))) (cond (decide (0 < x142)) (grd ((0 : Int) ≤ (w64 (x142 - 1)) ∧ (w64 (x142 - 1)) < (a0.fParents.length : Int)) (cond (!sLt (strK.at a0.fParents (w64 (x142 - 1))) (strK.at a0.fParents x142)) (some (false, x142, decide (x142 < (a0.fParents.length : Int)))) (dag_May.l1 k a0 j155 (w64 (x142 + 1))))) (dag_May.l1 k a0 j155 (w64 (x142 + 1))))))) (some (true, x142, decide (x142 < (a0.fParents.length : Int))))
def dag_May.f (k : Nat) (a0 : Event) : Option (Bool) := (name_Event.f k a0.fID).bind fun t99 => cond (!t99) (some false) ((name_Room.f k a0.fRoom).bind fun t103 => cond (!t103) (some false) ((name_User.f k a0.fUser).bind fun t107 => cond (!t107) (some false) (cond (decide (4 < (a0.fParents.length : Int))) (some false) (cond (decide (a0.fDoes < 0)) (some false) (cond (decide (2 < a0.fDoes)) (some false) (cond (!decide (a0.fThread = (⟨#[]⟩ : ByteArray))) ((name_Event.f k a0.fThread).bind fun t117 => cond (!t117) (some false) (cond (decide (a0.fThread = a0.fID)) (some false) (cond (a0.fDoes != 0) (some false) ((dag_May.l0 k a0 k 0).bind fun (p124 : Bool × Int × Bool) => some p124.1)))) ((dag_May.l1 k a0 k 0).bind fun (p141 : Bool × Int × Bool) => some p141.1)))))))
/-! (*concourse/dag.Dag).Has: function 86 -/
def dag_Dag_Has.f (a0 : DDag) (a1 : ByteArray) : Option (Bool) := some (!(mget a0.fnodes a1).isNone)
/-! (*concourse/dag.Dag).Add$1: function 87 -/
def dag_Dag_Add_1.f (a0 : ByteArray) (c0 : DDag) : Option (Bool) := (dag_Dag_Has.f c0 a0).bind fun t159 => some (!t159)
/-! slices.Clone[[]string,string] -/
def slices_Clone_string.f (xs : List ByteArray) : Option (List ByteArray) := grd (xs.length ≤ 9223372036854775807 ∧ xs.length * 16 ≤ 140737488355328) (some xs)
/-! concourse/dag.own: function 88 -/
def dag_own.f (a0 : Event) : Option (Event) := (slices_Clone_string.f a0.fParents).bind fun t163 => some (⟨a0.fID, a0.fRoom, t163, a0.fThread, a0.fUser, a0.fDoes⟩ : Event)
/-! (*concourse/dag.Dag).Add: function 53 -/
def dag_Dag_Add.l0 (k : Nat) (a1 : Event) : Nat → Int → Int → DDag → Option (Int × Bool × Int × DDag)
  | 0, _, _, _ => none
  | j203 + 1, x190, x191, x192 => cond (decide (x190 < (a1.fParents.length : Int))) (grd ((0 : Int) ≤ x190 ∧ x190 < (a1.fParents.length : Int)) (grd ((mget x192.fnodes (strK.at a1.fParents x190)).isSome = true) (dag_Dag_Add.l0 k a1 j203 (w64 (x190 + 1)) (max x191 (w64 ((((mget x192.fnodes (strK.at a1.fParents x190)).getD default).fdepth) + 1))) (⟨x192.froom, mput x192.fnodes (strK.at a1.fParents x190) (⟨((mget x192.fnodes (strK.at a1.fParents x190)).getD default).fe, ((mget x192.fnodes (strK.at a1.fParents x190)).getD default).fdepth, true⟩ : DNode)⟩ : DDag)))) (some (x190, decide (x190 < (a1.fParents.length : Int)), x191, x192))
def dag_Dag_Add.f (k : Nat) (a0 : DDag) (a1 : Event) : Option (Int × DDag) := (dag_May.f k a1).bind fun t170 => cond (!t170) (some (1, a0)) (cond (!decide (a1.fRoom = a0.froom)) (some (1, a0)) ((dag_Dag_Has.f a0 a1.fID).bind fun t175 => cond t175 (some (9, a0)) ((slices_ContainsFunc_string_x.f k a1.fParents (fun a0_ => dag_Dag_Add_1.f a0_ a0)).bind fun t178 => cond t178 (some (4, a0)) ((cond (!decide (a1.fThread = (⟨#[]⟩ : ByteArray))) (cond ((mget a0.fnodes a1.fThread).isNone) (some (.inr (4, a0))) (grd ((mget a0.fnodes a1.fThread).isSome = true) (cond (!decide (((((mget a0.fnodes a1.fThread).getD default).fe).fThread) = (⟨#[]⟩ : ByteArray))) (some (.inr (7, a0))) (cond (((((mget a0.fnodes a1.fThread).getD default).fe).fDoes) != 0) (some (.inr (7, a0))) (some (.inl ())))))) (some (.inl ()))).bind (fall fun (p181 : Unit) => (dag_own.f a1).bind fun t182 => (dag_Dag_Add.l0 k a1 k 0 0 a0).bind fun (p185 : Int × Bool × Int × DDag) => some (0, (⟨p185.2.2.2.froom, mput p185.2.2.2.fnodes a1.fID (⟨t182, p185.2.2.1, false⟩ : DNode)⟩ : DDag)))))))
/-! (*concourse/view.View).Add: function 13 -/
def view_View_Add.f (k : Nat) (a0 : VView) (a1 : Event) : Option (Int × VView) := (view_View_room.f a0 a1.fRoom).bind fun t218 => (dag_Dag_Add.f k t218 a1).bind fun t221 => cond (t221.1 != 0) (some (t221.1, (⟨mres a0.fdags a1.fRoom t221.2⟩ : VView))) (some (0, (⟨mput a0.fdags a1.fRoom t221.2⟩ : VView)))
/-! concourse/view.New: function 25 -/
def view_New.f : Option (VView) := some (⟨([] : List (ByteArray × DDag))⟩ : VView)
/-! concourse/concourseref01.Around: function 49 -/
def concourseref01_Around.f (a0 : Int) (a1 : Int) : Option (Int) := cond (decide (a0 < 0)) (grd (a1 ≠ 0) (some ((w64 (0 - (w64 (a0 + 1)))).tmod a1))) (grd (a1 ≠ 0) (some (a0.tmod a1)))
/-! concourse/concourseref01.RoomOf: function 11 -/
def concourseref01_RoomOf.f (a0 : Int) : Option (ByteArray) := (concourseref01_Around.f a0 2).bind fun t231 => grd ((0 : Int) ≤ t231 ∧ t231 < (([(⟨#[33, 114, 58, 115, 49]⟩ : ByteArray), (⟨#[33, 113, 58, 115, 50]⟩ : ByteArray)] : List ByteArray).length : Int)) (some (strK.at ([(⟨#[33, 114, 58, 115, 49]⟩ : ByteArray), (⟨#[33, 113, 58, 115, 50]⟩ : ByteArray)] : List ByteArray) t231))
/-! concourse/concourseref01.Decimal: function 68 -/
def concourseref01_Decimal.f : Nat → Int → Option (ByteArray)
  | 0, _ => none
  | k + 1, a0 => (cond (decide ((a0.tmod 10) < 0)) (some (w64 (0 - (a0.tmod 10)))) (some (a0.tmod 10))).bind fun (p234 : Int) => cond (decide ((-10) < a0)) (cond (decide (a0 < 10)) (cond (decide (a0 < 0)) (grd ((⟨#[45]⟩ : ByteArray).size + (ofNums ([IntKind.u8.wrap (w64 (48 + p234))] : List Int)).size ≤ 9223372036854775807) (some ((⟨#[45]⟩ : ByteArray) ++ (ofNums ([IntKind.u8.wrap (w64 (48 + p234))] : List Int))))) (some (ofNums ([IntKind.u8.wrap (w64 (48 + p234))] : List Int)))) ((concourseref01_Decimal.f k (w64 (a0.tdiv 10))).bind fun t239 => grd (t239.size + (ofNums ([IntKind.u8.wrap (w64 (48 + p234))] : List Int)).size ≤ 9223372036854775807) (some (t239 ++ (ofNums ([IntKind.u8.wrap (w64 (48 + p234))] : List Int)))))) ((concourseref01_Decimal.f k (w64 (a0.tdiv 10))).bind fun t243 => grd (t243.size + (ofNums ([IntKind.u8.wrap (w64 (48 + p234))] : List Int)).size ≤ 9223372036854775807) (some (t243 ++ (ofNums ([IntKind.u8.wrap (w64 (48 + p234))] : List Int)))))
/-! concourse/concourseref01.EventOf: function 29 -/
def concourseref01_EventOf.f (k : Nat) (a0 : Int) : Option (ByteArray) := (concourseref01_Around.f a0 9).bind fun t247 => (concourseref01_Decimal.f k t247).bind fun t249 => grd ((⟨#[36, 101]⟩ : ByteArray).size + t249.size ≤ 9223372036854775807) (some ((⟨#[36, 101]⟩ : ByteArray) ++ t249))
/-! concourse/concourseref01.ServerOf: function 39 -/
def concourseref01_ServerOf.f (a0 : Int) : Option (ByteArray) := (concourseref01_Around.f a0 3).bind fun t252 => grd ((0 : Int) ≤ t252 ∧ t252 < (([(⟨#[115, 49]⟩ : ByteArray), (⟨#[115, 50]⟩ : ByteArray), (⟨#[115, 51]⟩ : ByteArray)] : List ByteArray).length : Int)) (some (strK.at ([(⟨#[115, 49]⟩ : ByteArray), (⟨#[115, 50]⟩ : ByteArray), (⟨#[115, 51]⟩ : ByteArray)] : List ByteArray) t252))
/-! concourse/concourseref01.UserOf: function 36 -/
def concourseref01_UserOf.f (a0 : Int) : Option (ByteArray) := (concourseref01_Around.f a0 9).bind fun t255 => grd ((0 : Int) ≤ (w64 (t255.tdiv 3)) ∧ (w64 (t255.tdiv 3)) < (([(⟨#[64, 97, 58]⟩ : ByteArray), (⟨#[64, 98, 58]⟩ : ByteArray), (⟨#[64, 99, 58]⟩ : ByteArray)] : List ByteArray).length : Int)) ((concourseref01_ServerOf.f (t255.tmod 3)).bind fun t258 => grd ((strK.at ([(⟨#[64, 97, 58]⟩ : ByteArray), (⟨#[64, 98, 58]⟩ : ByteArray), (⟨#[64, 99, 58]⟩ : ByteArray)] : List ByteArray) (w64 (t255.tdiv 3))).size + t258.size ≤ 9223372036854775807) (some ((strK.at ([(⟨#[64, 97, 58]⟩ : ByteArray), (⟨#[64, 98, 58]⟩ : ByteArray), (⟨#[64, 99, 58]⟩ : ByteArray)] : List ByteArray) (w64 (t255.tdiv 3))) ++ t258)))
/-! concourse/concourseref07.At: function 69 -/
def concourseref07_At.l0 (k : Nat) (a0 : RDag) (a1 : ByteArray) : Nat → Int → Option ((Int × Bool) ⊕ (Int))
  | 0, _ => none
  | j267 + 1, x263 => cond (decide (x263 < (a0.fL.length : Int))) (grd ((0 : Int) ≤ x263 ∧ x263 < (a0.fL.length : Int)) (cond (decide (((Event.K.at a0.fL x263).fID) = a1)) (some (.inr x263)) (concourseref07_At.l0 k a0 a1 j267 (w64 (x263 + 1))))) (some (.inl (x263, decide (x263 < (a0.fL.length : Int)))))
def concourseref07_At.f (k : Nat) (a0 : RDag) (a1 : ByteArray) : Option (Int) := (concourseref07_At.l0 k a0 a1 k 0).bind (fall fun (p262 : Int × Bool) => some (-1))
/-! concourse/concourseref01.low: function 123 -/
def concourseref01_low.f (a0 : Int) : Option (Bool) := cond (decide (97 ≤ a0)) (cond (decide (a0 ≤ 122)) (some true) (cond (decide (48 ≤ a0)) (some (decide (a0 ≤ 57))) (some false))) (cond (decide (48 ≤ a0)) (some (decide (a0 ≤ 57))) (some false))
/-! concourse/concourseref01.Event: function 102 -/
def concourseref01_Event.l0 (k : Nat) (a0 : ByteArray) : Nat → Int → Option ((Int × Bool) ⊕ (Bool))
  | 0, _ => none
  | j304 + 1, x280 => cond (decide (x280 < (a0.size : Int))) (grd ((0 : Int) ≤ x280 ∧ x280 < (a0.size : Int)) ((concourseref01_low.f (bt a0 x280)).bind fun t283 => grd ((0 : Int) ≤ x280 ∧ x280 < (a0.size : Int)) (cond (decide (65 ≤ (bt a0 x280))) (grd ((0 : Int) ≤ x280 ∧ x280 < (a0.size : Int)) (cond (!t283) (cond (!(decide ((bt a0 x280) ≤ 90))) (grd ((0 : Int) ≤ x280 ∧ x280 < (a0.size : Int)) (cond ((bt a0 x280) != 45) (grd ((0 : Int) ≤ x280 ∧ x280 < (a0.size : Int)) (cond ((bt a0 x280) != 95) (some (.inr false)) (concourseref01_Event.l0 k a0 j304 (w64 (x280 + 1))))) (concourseref01_Event.l0 k a0 j304 (w64 (x280 + 1))))) (concourseref01_Event.l0 k a0 j304 (w64 (x280 + 1)))) (concourseref01_Event.l0 k a0 j304 (w64 (x280 + 1))))) (cond (!t283) (grd ((0 : Int) ≤ x280 ∧ x280 < (a0.size : Int)) (cond ((bt a0 x280) != 45) (grd ((0 : Int) ≤ x280 ∧ x280 < (a0.size : Int)) (cond ((bt a0 x280) != 95) (some (.inr false)) (concourseref01_Event.l0 k a0 j304 (w64 (x280 + 1))))) (concourseref01_Event.l0 k a0 j304 (w64 (x280 + 1))))) (concourseref01_Event.l0 k a0 j304 (w64 (x280 + 1))))))) (some (.inl (x280, decide (x280 < (a0.size : Int)))))
def concourseref01_Event.f (k : Nat) (a0 : ByteArray) : Option (Bool) := cond (decide ((a0.size : Int) < 2)) (some false) (cond (decide (17 < (a0.size : Int))) (some false) (grd ((0 : Int) ≤ 0 ∧ 0 < (a0.size : Int)) (cond ((bt a0 0) != 36) (some false) ((concourseref01_Event.l0 k a0 k 1).bind (fall fun (p279 : Int × Bool) => some true)))))
/-! concourse/concourseref01.colon: function 122 -/
def concourseref01_colon.l0 (k : Nat) (a0 : ByteArray) : Nat → Int → Option ((Int × Bool) ⊕ (Int))
  | 0, _ => none
  | j311 + 1, x307 => cond (decide (x307 < (a0.size : Int))) (grd ((0 : Int) ≤ x307 ∧ x307 < (a0.size : Int)) (cond ((bt a0 x307) == 58) (some (.inr x307)) (concourseref01_colon.l0 k a0 j311 (w64 (x307 + 1))))) (some (.inl (x307, decide (x307 < (a0.size : Int)))))
def concourseref01_colon.f (k : Nat) (a0 : ByteArray) : Option (Int) := (concourseref01_colon.l0 k a0 k 0).bind (fall fun (p306 : Int × Bool) => some (-1))
/-! concourse/concourseref01.Part: function 124 -/
def concourseref01_Part.l0 (k : Nat) (a0 : ByteArray) : Nat → Int → Option ((Int × Bool) ⊕ (Bool))
  | 0, _ => none
  | j330 + 1, x315 => cond (decide (x315 < (a0.size : Int))) (grd ((0 : Int) ≤ x315 ∧ x315 < (a0.size : Int)) ((concourseref01_low.f (bt a0 x315)).bind fun t318 => cond (!t318) (grd ((0 : Int) ≤ x315 ∧ x315 < (a0.size : Int)) (cond ((bt a0 x315) != 46) (grd ((0 : Int) ≤ x315 ∧ x315 < (a0.size : Int)) (cond ((bt a0 x315) != 45) (grd ((0 : Int) ≤ x315 ∧ x315 < (a0.size : Int)) (cond ((bt a0 x315) != 95) (some (.inr false)) (concourseref01_Part.l0 k a0 j330 (w64 (x315 + 1))))) (concourseref01_Part.l0 k a0 j330 (w64 (x315 + 1))))) (concourseref01_Part.l0 k a0 j330 (w64 (x315 + 1))))) (concourseref01_Part.l0 k a0 j330 (w64 (x315 + 1))))) (some (.inl (x315, decide (x315 < (a0.size : Int)))))
def concourseref01_Part.f (k : Nat) (a0 : ByteArray) : Option (Bool) := (concourseref01_Part.l0 k a0 k 0).bind (fall fun (p313 : Int × Bool) => cond (decide (0 < (a0.size : Int))) (some (decide ((a0.size : Int) < 17))) (some false))
/-! concourse/concourseref01.Server: function 125 -/
def concourseref01_Server.l0 (k : Nat) (a0 : ByteArray) : Nat → Int → Option ((Int × Bool) ⊕ (Bool))
  | 0, _ => none
  | j356 + 1, x334 => cond (decide (x334 < (a0.size : Int))) (grd ((0 : Int) ≤ x334 ∧ x334 < (a0.size : Int)) ((concourseref01_low.f (bt a0 x334)).bind fun t337 => cond (decide (0 < x334)) (cond (decide (x334 < (w64 ((a0.size : Int) - 1)))) (grd ((0 : Int) ≤ x334 ∧ x334 < (a0.size : Int)) (cond ((bt a0 x334) == 46) (cond (!t337) (concourseref01_Server.l0 k a0 j356 (w64 (x334 + 1))) (concourseref01_Server.l0 k a0 j356 (w64 (x334 + 1)))) (grd ((0 : Int) ≤ x334 ∧ x334 < (a0.size : Int)) (cond (!t337) (cond (!((bt a0 x334) == 45)) (some (.inr false)) (concourseref01_Server.l0 k a0 j356 (w64 (x334 + 1)))) (concourseref01_Server.l0 k a0 j356 (w64 (x334 + 1))))))) (cond (!t337) (some (.inr false)) (concourseref01_Server.l0 k a0 j356 (w64 (x334 + 1))))) (cond (!t337) (some (.inr false)) (concourseref01_Server.l0 k a0 j356 (w64 (x334 + 1)))))) (some (.inl (x334, decide (x334 < (a0.size : Int)))))
def concourseref01_Server.f (k : Nat) (a0 : ByteArray) : Option (Bool) := (concourseref01_Server.l0 k a0 k 0).bind (fall fun (p332 : Int × Bool) => cond (decide (0 < (a0.size : Int))) (some (decide ((a0.size : Int) < 17))) (some false))
/-! concourse/concourseref01.Named: function 103 -/
def concourseref01_Named.f (k : Nat) (a0 : ByteArray) (a1 : Int) : Option (Bool) := (concourseref01_colon.f k a0).bind fun t358 => cond (decide (t358 < 1)) (some false) (grd ((0 : Int) ≤ 0 ∧ 0 < (a0.size : Int)) (cond ((bt a0 0) != a1) (some false) (grd ((0 : Int) ≤ 1 ∧ (0 : Int) ≤ t358 ∧ (1 : Int).toNat ≤ t358.toNat ∧ t358.toNat ≤ a0.size) ((concourseref01_Part.f k (a0.extract (1 : Int).toNat t358.toNat)).bind fun t365 => grd ((0 : Int) ≤ (w64 (t358 + 1)) ∧ (w64 (t358 + 1)).toNat ≤ a0.size ∧ a0.size ≤ a0.size) ((concourseref01_Server.f k (a0.extract (w64 (t358 + 1)).toNat a0.size)).bind fun t368 => cond t365 (some t368) (some false))))))
/-! concourse/concourseref07.May: function 83 -/
def concourseref07_May.l0 (k : Nat) (a0 : Event) : Nat → Int → Option ((Int × Bool) ⊕ (Bool))
  | 0, _ => none
  | j405 + 1, x391 => cond (decide (x391 < (a0.fParents.length : Int))) (grd ((0 : Int) ≤ x391 ∧ x391 < (a0.fParents.length : Int)) ((concourseref01_Event.f k (strK.at a0.fParents x391)).bind fun t394 => cond (!t394) (some (.inr false)) (grd ((0 : Int) ≤ x391 ∧ x391 < (a0.fParents.length : Int)) (cond (decide ((strK.at a0.fParents x391) = a0.fID)) (some (.inr false)) (cond (decide (0 < x391)) (grd ((0 : Int) ≤ (max (w64 (x391 - 1)) 0) ∧ (max (w64 (x391 - 1)) 0) < (a0.fParents.length : Int)) (grd ((0 : Int) ≤ x391 ∧ x391 < (a0.fParents.length : Int)) (cond (!sLt (strK.at a0.fParents (max (w64 (x391 - 1)) 0)) (strK.at a0.fParents x391)) (some (.inr false)) (concourseref07_May.l0 k a0 j405 (w64 (x391 + 1)))))) (concourseref07_May.l0 k a0 j405 (w64 (x391 + 1)))))))) (some (.inl (x391, decide (x391 < (a0.fParents.length : Int)))))
def concourseref07_May.f (k : Nat) (a0 : Event) : Option (Bool) := (concourseref01_Event.f k a0.fID).bind fun t372 => (concourseref01_Named.f k a0.fRoom 33).bind fun t374 => (concourseref01_Named.f k a0.fUser 64).bind fun t376 => cond (!t372) (some false) (cond (!t374) (some false) (cond (!t376) (some false) (cond (decide (4 < (a0.fParents.length : Int))) (some false) (cond (decide (a0.fDoes < 0)) (some false) (cond (decide (2 < a0.fDoes)) (some false) ((cond (!decide (a0.fThread = (⟨#[]⟩ : ByteArray))) ((concourseref01_Event.f k a0.fThread).bind fun t408 => cond (!t408) (some (.inr false)) (cond (decide (a0.fThread = a0.fID)) (some (.inr false)) (cond (a0.fDoes != 0) (some (.inr false)) (some (.inl ()))))) (some (.inl ()))).bind (fall fun (p389 : Unit) => (concourseref07_May.l0 k a0 k 0).bind (fall fun (p390 : Int × Bool) => some true))))))))
/-! concourse/concourseref07.Add: function 51 -/
def concourseref07_Add.l0 (k : Nat) (a0 : RDag) (a1 : Event) : Nat → Int → Option ((Int × Bool) ⊕ (RDag × Int))
  | 0, _ => none
  | j447 + 1, x441 => cond (decide (x441 < (a1.fParents.length : Int))) (grd ((0 : Int) ≤ x441 ∧ x441 < (a1.fParents.length : Int)) ((concourseref07_At.f k a0 (strK.at a1.fParents x441)).bind fun t444 => cond (decide (t444 < 0)) (some (.inr (a0, 4))) (concourseref07_Add.l0 k a0 a1 j447 (w64 (x441 + 1))))) (some (.inl (x441, decide (x441 < (a1.fParents.length : Int)))))
def concourseref07_Add.f (k : Nat) (a0 : RDag) (a1 : Event) : Option (RDag × Int) := (concourseref07_May.f k a1).bind fun t418 => cond (!t418) (some (a0, 1)) (cond (!decide (a1.fRoom = a0.fRoom)) (some (a0, 1)) ((concourseref07_At.f k a0 a1.fID).bind fun t423 => cond (decide (0 ≤ t423)) (some (a0, 9)) ((concourseref07_Add.l0 k a0 a1 k 0).bind (fall fun (p426 : Int × Bool) => (cond (!decide (a1.fThread = (⟨#[]⟩ : ByteArray))) ((concourseref07_At.f k a0 a1.fThread).bind fun t433 => cond (decide (t433 < 0)) (some (.inr (a0, 4))) (grd ((0 : Int) ≤ t433 ∧ t433 < (a0.fL.length : Int)) (cond (!decide (((Event.K.at a0.fL t433).fThread) = (⟨#[]⟩ : ByteArray))) (some (.inr (a0, 7))) (grd ((0 : Int) ≤ t433 ∧ t433 < (a0.fL.length : Int)) (cond (((Event.K.at a0.fL t433).fDoes) != 0) (some (.inr (a0, 7))) (some (.inl ()))))))) (some (.inl ()))).bind (fall fun (p427 : Unit) => grd (([] : List Event).length + a0.fL.length ≤ 9223372036854775807 ∧ (([] : List Event).length + a0.fL.length) * 96 ≤ 140737488355328) (grd ((([] : List Event) ++ a0.fL).length + ([a1] : List Event).length ≤ 9223372036854775807 ∧ ((([] : List Event) ++ a0.fL).length + ([a1] : List Event).length) * 96 ≤ 140737488355328) (some ((⟨a0.fRoom, (([] : List Event) ++ a0.fL) ++ ([a1] : List Event)⟩ : RDag), 0))))))))
/-! concourse/concourseref07.Made: function 66 -/
def concourseref07_Made.l1 (k : Nat) (x452 : Int) (p471 : Int × Bool × (List Bool)) : Nat → Int → List ByteArray → Option (Int × Bool × (List ByteArray))
  | 0, _, _ => none
  | j518 + 1, x507, x508 => cond (decide (x507 < x452)) (grd ((0 : Int) ≤ x507 ∧ x507 < (p471.2.2.length : Int)) (cond (p471.2.2.getD x507.toNat default) ((concourseref01_EventOf.f k x507).bind fun t514 => grd (x508.length + ([t514] : List ByteArray).length ≤ 9223372036854775807 ∧ (x508.length + ([t514] : List ByteArray).length) * 16 ≤ 140737488355328) (concourseref07_Made.l1 k x452 p471 j518 (w64 (x507 + 1)) (x508 ++ ([t514] : List ByteArray)))) (concourseref07_Made.l1 k x452 p471 j518 (w64 (x507 + 1)) x508))) (some (x507, decide (x507 < x452), x508))
def concourseref07_Made.l2 (k : Nat) (a1 : List GMade) (x452 : Int) : Nat → Int → List Bool → Option (Int × Bool × (List Bool))
  | 0, _, _ => none
  | j535 + 1, x521, x522 => grd ((0 : Int) ≤ x452 ∧ x452 < (a1.length : Int)) (cond (decide (x521 < (((GMade.K.at a1 x452).fParents).length : Int))) (cond (decide (x521 < 3)) (cond (decide (0 < x452)) (grd ((0 : Int) ≤ x452 ∧ x452 < (a1.length : Int)) (grd ((0 : Int) ≤ x521 ∧ x521 < (((GMade.K.at a1 x452).fParents).length : Int)) ((concourseref01_Around.f ((intK .i64).at ((GMade.K.at a1 x452).fParents) x521) x452).bind fun t529 => grd ((0 : Int) ≤ t529 ∧ t529 < (x522.length : Int)) (concourseref07_Made.l2 k a1 x452 j535 (w64 (x521 + 1)) (x522.set t529.toNat true))))) (some (x521, decide (0 < x452), x522))) (some (x521, false, x522))) (some (x521, false, x522)))
def concourseref07_Made.l0 (k : Nat) (a0 : ByteArray) (a1 : List GMade) : Nat → Int → ByteArray → List Event → Option (Int × Bool × ByteArray × (List Event))
  | 0, _, _, _ => none
  | j539 + 1, x452, x453, x454 => cond (decide (x452 < (a1.length : Int))) (cond (decide (x452 < 9)) (((concourseref01_EventOf.f k x452).bind fun t459 => grd ((0 : Int) ≤ x452 ∧ x452 < (a1.length : Int)) ((concourseref01_UserOf.f ((GMade.K.at a1 x452).fUser)).bind fun t462 => grd ((0 : Int) ≤ x452 ∧ x452 < (a1.length : Int)) ((concourseref01_Around.f ((GMade.K.at a1 x452).fDoes) 3).bind fun t465 => grd ((0 : Int) ≤ 9 ∧ 9 ≤ (9223372036854775807 : Int) ∧ (9 : Int).toNat * 1 ≤ 140737488355328) ((concourseref07_Made.l2 k a1 x452 k 0 (List.replicate (9 : Int).toNat (false : Bool))).bind fun (p471 : Int × Bool × (List Bool)) => (concourseref07_Made.l1 k x452 p471 k 0 ([] : List ByteArray)).bind fun (p472 : Int × Bool × (List ByteArray)) => cond (t465 == 0) (cond (decide (0 < x452)) (grd ((0 : Int) ≤ x452 ∧ x452 < (a1.length : Int)) ((concourseref01_Around.f ((GMade.K.at a1 x452).fThread) (w64 (2 * x452))).bind fun t477 => cond (decide (t477 < x452)) (grd ((0 : Int) ≤ t477 ∧ t477 < (x454.length : Int)) (cond (((Event.K.at x454 t477).fDoes) == 0) (grd ((0 : Int) ≤ t477 ∧ t477 < (x454.length : Int)) (cond (decide (((Event.K.at x454 t477).fThread) = (⟨#[]⟩ : ByteArray))) ((concourseref01_EventOf.f k t477).bind fun t484 => (concourseref07_Add.f k (⟨x453, x454⟩ : RDag) (⟨t459, a0, p472.2.2, t484, t462, t465⟩ : Event)).bind fun t486 => some (p471.1, p472.1, p471.2.1, p472.2.1, decide (0 < x452), t486.1.fRoom, t486.1.fL, p471.2.2)) ((concourseref07_Add.f k (⟨x453, x454⟩ : RDag) (⟨t459, a0, p472.2.2, (⟨#[]⟩ : ByteArray), t462, t465⟩ : Event)).bind fun t489 => some (p471.1, p472.1, p471.2.1, p472.2.1, decide (0 < x452), t489.1.fRoom, t489.1.fL, p471.2.2)))) ((concourseref07_Add.f k (⟨x453, x454⟩ : RDag) (⟨t459, a0, p472.2.2, (⟨#[]⟩ : ByteArray), t462, t465⟩ : Event)).bind fun t493 => some (p471.1, p472.1, p471.2.1, p472.2.1, decide (0 < x452), t493.1.fRoom, t493.1.fL, p471.2.2)))) ((concourseref07_Add.f k (⟨x453, x454⟩ : RDag) (⟨t459, a0, p472.2.2, (⟨#[]⟩ : ByteArray), t462, t465⟩ : Event)).bind fun t497 => some (p471.1, p472.1, p471.2.1, p472.2.1, decide (0 < x452), t497.1.fRoom, t497.1.fL, p471.2.2)))) ((concourseref07_Add.f k (⟨x453, x454⟩ : RDag) (⟨t459, a0, p472.2.2, (⟨#[]⟩ : ByteArray), t462, t465⟩ : Event)).bind fun t500 => some (p471.1, p472.1, p471.2.1, p472.2.1, decide (0 < x452), t500.1.fRoom, t500.1.fL, p471.2.2))) ((concourseref07_Add.f k (⟨x453, x454⟩ : RDag) (⟨t459, a0, p472.2.2, (⟨#[]⟩ : ByteArray), t462, t465⟩ : Event)).bind fun t504 => some (p471.1, p472.1, p471.2.1, p472.2.1, false, t504.1.fRoom, t504.1.fL, p471.2.2)))))).bind fun (p457 : Int × Int × Bool × Bool × Bool × ByteArray × (List Event) × (List Bool)) => concourseref07_Made.l0 k a0 a1 j539 (w64 (x452 + 1)) p457.2.2.2.2.2.1 p457.2.2.2.2.2.2.1) (some (x452, decide (x452 < 9), x453, x454))) (some (x452, false, x453, x454))
def concourseref07_Made.f (k : Nat) (a0 : ByteArray) (a1 : List GMade) : Option (RDag) := (concourseref07_Made.l0 k a0 a1 k 0 a0 ([] : List Event)).bind fun (p451 : Int × Bool × ByteArray × (List Event)) => some (⟨p451.2.2.1, p451.2.2.2⟩ : RDag)
/-! concourse/concourseref10.Made: function 26 -/
def concourseref10_Made.f (k : Nat) (a0 : List GMade) (a1 : List GMade) : Option ((List Event)) := (concourseref01_RoomOf.f 0).bind fun t541 => (concourseref07_Made.f k t541 a0).bind fun t543 => grd (([] : List Event).length + t543.fL.length ≤ 9223372036854775807 ∧ (([] : List Event).length + t543.fL.length) * 96 ≤ 140737488355328) ((concourseref01_RoomOf.f 1).bind fun t547 => (concourseref07_Made.f k t547 a1).bind fun t549 => grd ((([] : List Event) ++ t543.fL).length + t549.fL.length ≤ 9223372036854775807 ∧ ((([] : List Event) ++ t543.fL).length + t549.fL.length) * 96 ≤ 140737488355328) (some ((([] : List Event) ++ t543.fL) ++ t549.fL)))
/-! concourse/concourseref10.Of: function 10 -/
def concourseref10_Of.l0 (k : Nat) (a0 : RView) (a1 : ByteArray) : Nat → Int → Option ((Int × Bool) ⊕ (RDag))
  | 0, _ => none
  | j561 + 1, x556 => cond (decide (x556 < (a0.fD.length : Int))) (grd ((0 : Int) ≤ x556 ∧ x556 < (a0.fD.length : Int)) (cond (decide (((RDag.K.at a0.fD x556).fRoom) = a1)) (grd ((0 : Int) ≤ x556 ∧ x556 < (a0.fD.length : Int)) (some (.inr (RDag.K.at a0.fD x556)))) (concourseref10_Of.l0 k a0 a1 j561 (w64 (x556 + 1))))) (some (.inl (x556, decide (x556 < (a0.fD.length : Int)))))
def concourseref10_Of.f (k : Nat) (a0 : RView) (a1 : ByteArray) : Option (RDag) := (concourseref10_Of.l0 k a0 a1 k 0).bind (fall fun (p555 : Int × Bool) => some (⟨a1, ([] : List Event)⟩ : RDag))
/-! concourse/concourseref10.Add: function 12 -/
def concourseref10_Add.l0 (k : Nat) (a0 : RView) (a1 : Event) (t568 : RDag × Int) : Nat → Bool → Int → List RDag → Option (Bool × Int × Bool × (List RDag))
  | 0, _, _, _ => none
  | j596 + 1, x577, x578, x579 => cond (decide (x578 < (a0.fD.length : Int))) ((cond (!x577) (grd ((0 : Int) ≤ x578 ∧ x578 < (a0.fD.length : Int)) (cond (!sLt ((RDag.K.at a0.fD x578).fRoom) a1.fRoom) (grd (x579.length + ([t568.1] : List RDag).length ≤ 9223372036854775807 ∧ (x579.length + ([t568.1] : List RDag).length) * 40 ≤ 140737488355328) (some (true, !sLt ((RDag.K.at a0.fD x578).fRoom) a1.fRoom, x579 ++ ([t568.1] : List RDag)))) (some (x577, !sLt ((RDag.K.at a0.fD x578).fRoom) a1.fRoom, x579)))) (some (x577, false, x579))).bind fun (p582 : Bool × Bool × (List RDag)) => grd ((0 : Int) ≤ x578 ∧ x578 < (a0.fD.length : Int)) (cond (!decide (((RDag.K.at a0.fD x578).fRoom) = a1.fRoom)) (grd ((0 : Int) ≤ x578 ∧ x578 < (a0.fD.length : Int)) (grd (p582.2.2.length + ([RDag.K.at a0.fD x578] : List RDag).length ≤ 9223372036854775807 ∧ (p582.2.2.length + ([RDag.K.at a0.fD x578] : List RDag).length) * 40 ≤ 140737488355328) (concourseref10_Add.l0 k a0 a1 t568 j596 p582.1 (w64 (x578 + 1)) (p582.2.2 ++ ([RDag.K.at a0.fD x578] : List RDag))))) (concourseref10_Add.l0 k a0 a1 t568 j596 p582.1 (w64 (x578 + 1)) p582.2.2))) (some (x577, x578, decide (x578 < (a0.fD.length : Int)), x579))
def concourseref10_Add.f (k : Nat) (a0 : RView) (a1 : Event) : Option (RView × Int) := (concourseref10_Of.f k a0 a1.fRoom).bind fun t566 => (concourseref07_Add.f k t566 a1).bind fun t568 => cond (t568.2 != 0) (some (a0, t568.2)) ((concourseref10_Add.l0 k a0 a1 t568 k false 0 ([] : List RDag)).bind fun (p572 : Bool × Int × Bool × (List RDag)) => cond (!p572.1) (grd (p572.2.2.2.length + ([t568.1] : List RDag).length ≤ 9223372036854775807 ∧ (p572.2.2.2.length + ([t568.1] : List RDag).length) * 40 ≤ 140737488355328) (some ((⟨p572.2.2.2 ++ ([t568.1] : List RDag)⟩ : RView), 0))) (some ((⟨p572.2.2.2⟩ : RView), 0)))
/-! concourse/concourseref10.Build: function 48 -/
def concourseref10_Build.l0 (k : Nat) (a0 : List Event) : Nat → Int → List RDag → Option (Int × Bool × (List RDag))
  | 0, _, _ => none
  | j609 + 1, x602, x603 => cond (decide (x602 < (a0.length : Int))) (grd ((0 : Int) ≤ x602 ∧ x602 < (a0.length : Int)) ((concourseref10_Add.f k (⟨x603⟩ : RView) (Event.K.at a0 x602)).bind fun t606 => concourseref10_Build.l0 k a0 j609 (w64 (x602 + 1)) t606.1.fD)) (some (x602, decide (x602 < (a0.length : Int)), x603))
def concourseref10_Build.f (k : Nat) (a0 : List Event) : Option (RView) := (concourseref10_Build.l0 k a0 k 0 ([] : List RDag)).bind fun (p601 : Int × Bool × (List RDag)) => some (⟨p601.2.2⟩ : RView)
/-! concourse/concourselaw10.build: function 8 -/
def concourselaw10_build.l0 (k : Nat) (t612 : (List Event)) : Nat → Int → VView → Option ((Int × Bool × VView) ⊕ ((Option VView) × RView))
  | 0, _, _ => none
  | j630 + 1, x622, x623 => cond (decide (x622 < (t612.length : Int))) (grd ((0 : Int) ≤ x622 ∧ x622 < (t612.length : Int)) ((view_View_Add.f k x623 (t612.getD x622.toNat default)).bind fun t627 => cond (t627.1 != 0) (some (.inr (none, (⟨([] : List RDag)⟩ : RView)))) (concourselaw10_build.l0 k t612 j630 (w64 (x622 + 1)) t627.2))) (some (.inl (x622, decide (x622 < (t612.length : Int)), x623)))
def concourselaw10_build.f (k : Nat) (a0 : List GMade) (a1 : List GMade) : Option ((Option VView) × RView) := (concourseref10_Made.f k a0 a1).bind fun t612 => (view_New.f).bind fun t615 => (concourselaw10_build.l0 k t612 k 0 t615).bind (fall fun (p619 : Int × Bool × VView) => (concourseref10_Build.f k t612).bind fun t620 => some (some p619.2.2, t620))
/-! concourse/concourseref01.Few: function 27 -/
def concourseref01_Few.f (a0 : ByteArray) (a1 : Int) : Option (ByteArray) := cond (decide (a1 < (a0.size : Int))) (grd ((0 : Int) ≤ a1 ∧ 0 ≤ a1.toNat ∧ a1.toNat ≤ a0.size) (some (a0.extract 0 a1.toNat))) (some a0)
/-! concourse/concourseref07.Few: function 50 -/
def concourseref07_Few.l0 (k : Nat) (a0 : Event) : Nat → Int → List ByteArray → Option (Int × Bool × (List ByteArray))
  | 0, _, _ => none
  | j657 + 1, x646, x647 => cond (decide (x646 < (a0.fParents.length : Int))) (cond (decide (x646 < 6)) (grd ((0 : Int) ≤ x646 ∧ x646 < (a0.fParents.length : Int)) ((concourseref01_Few.f (strK.at a0.fParents x646) 30).bind fun t652 => grd (x647.length + ([t652] : List ByteArray).length ≤ 9223372036854775807 ∧ (x647.length + ([t652] : List ByteArray).length) * 16 ≤ 140737488355328) (concourseref07_Few.l0 k a0 j657 (w64 (x646 + 1)) (x647 ++ ([t652] : List ByteArray))))) (some (x646, decide (x646 < 6), x647))) (some (x646, false, x647))
def concourseref07_Few.f (k : Nat) (a0 : Event) : Option (Event) := (concourseref01_Few.f a0.fID 30).bind fun t636 => (concourseref01_Few.f a0.fRoom 30).bind fun t638 => (concourseref01_Few.f a0.fUser 30).bind fun t640 => (concourseref01_Few.f a0.fThread 30).bind fun t642 => (concourseref07_Few.l0 k a0 k 0 ([] : List ByteArray)).bind fun (p644 : Int × Bool × (List ByteArray)) => some (⟨t636, t638, p644.2.2, t642, t640, a0.fDoes⟩ : Event)
/-! concourse/concourseref07.Odd: function 9 -/
def concourseref07_Odd.f (k : Nat) (a0 : RDag) (a1 : Int) (a2 : Int) (a3 : Event) : Option (Event) := (cond (decide (0 < (a0.fL.length : Int))) ((concourseref01_Around.f a1 (a0.fL.length : Int)).bind fun t681 => grd ((0 : Int) ≤ t681 ∧ t681 < (a0.fL.length : Int)) (some ((Event.K.at a0.fL t681).fID, (Event.K.at a0.fL t681).fRoom, (Event.K.at a0.fL t681).fParents, (Event.K.at a0.fL t681).fThread, (Event.K.at a0.fL t681).fUser, (Event.K.at a0.fL t681).fDoes))) (some ((⟨#[36, 120]⟩ : ByteArray), a0.fRoom, ([] : List ByteArray), (⟨#[]⟩ : ByteArray), (⟨#[64, 97, 58, 115, 49]⟩ : ByteArray), 0))).bind fun (p664 : ByteArray × ByteArray × (List ByteArray) × ByteArray × ByteArray × Int) => (concourseref07_Few.f k a3).bind fun t665 => (concourseref01_Around.f a2 8).bind fun t667 => cond (t667 == 0) (some (⟨t665.fID, p664.2.1, p664.2.2.1, p664.2.2.2.1, p664.2.2.2.2.1, p664.2.2.2.2.2⟩ : Event)) (cond (t667 == 1) (some (⟨p664.1, t665.fRoom, p664.2.2.1, p664.2.2.2.1, p664.2.2.2.2.1, p664.2.2.2.2.2⟩ : Event)) (cond (t667 == 2) (some (⟨p664.1, p664.2.1, p664.2.2.1, p664.2.2.2.1, t665.fUser, p664.2.2.2.2.2⟩ : Event)) (cond (t667 == 3) (some (⟨p664.1, p664.2.1, p664.2.2.1, t665.fThread, p664.2.2.2.2.1, p664.2.2.2.2.2⟩ : Event)) (cond (t667 == 4) (some (⟨p664.1, p664.2.1, p664.2.2.1, p664.2.2.2.1, p664.2.2.2.2.1, t665.fDoes⟩ : Event)) (cond (t667 == 5) (some (⟨p664.1, p664.2.1, t665.fParents, p664.2.2.2.1, p664.2.2.2.2.1, p664.2.2.2.2.2⟩ : Event)) (cond (t667 == 6) ((concourseref01_EventOf.f k t665.fDoes).bind fun t676 => some (⟨(⟨#[36, 121]⟩ : ByteArray), p664.2.1, p664.2.2.1, t676, p664.2.2.2.2.1, 0⟩ : Event)) ((concourseref01_EventOf.f k t665.fDoes).bind fun t678 => some (⟨(⟨#[36, 122]⟩ : ByteArray), p664.2.1, ([t678] : List ByteArray), p664.2.2.2.1, p664.2.2.2.2.1, p664.2.2.2.2.2⟩ : Event))))))))
/-! concourse/concourseref01.SameTexts: function 17 -/
def concourseref01_SameTexts.l0 (k : Nat) (a0 : List ByteArray) (a1 : List ByteArray) : Nat → Int → Option ((Int × Bool) ⊕ (Bool))
  | 0, _ => none
  | j691 + 1, x686 => cond (decide (x686 < (a0.length : Int))) (grd ((0 : Int) ≤ x686 ∧ x686 < (a0.length : Int)) (grd ((0 : Int) ≤ x686 ∧ x686 < (a1.length : Int)) (cond (!decide ((strK.at a0 x686) = (strK.at a1 x686))) (some (.inr false)) (concourseref01_SameTexts.l0 k a0 a1 j691 (w64 (x686 + 1)))))) (some (.inl (x686, decide (x686 < (a0.length : Int)))))
def concourseref01_SameTexts.f (k : Nat) (a0 : List ByteArray) (a1 : List ByteArray) : Option (Bool) := cond ((a0.length : Int) != (a1.length : Int)) (some false) ((concourseref01_SameTexts.l0 k a0 a1 k 0).bind (fall fun (p685 : Int × Bool) => some true))
/-! concourse/concourseref07.Same: function 54 -/
def concourseref07_Same.f (k : Nat) (a0 : Event) (a1 : Event) : Option (Bool) := (concourseref01_SameTexts.f k a0.fParents a1.fParents).bind fun t695 => cond t695 (cond (decide (a0.fID = a1.fID)) (cond (decide (a0.fRoom = a1.fRoom)) (cond (decide (a0.fThread = a1.fThread)) (cond (decide (a0.fUser = a1.fUser)) (some (a0.fDoes == a1.fDoes)) (some false)) (some false)) (some false)) (some false)) (some false)
/-! concourse/concourseref07.SameAll: function 14 -/
def concourseref07_SameAll.l0 (k : Nat) (a0 : List Event) (a1 : List Event) : Nat → Int → Option ((Int × Bool) ⊕ (Bool))
  | 0, _ => none
  | j711 + 1, x704 => cond (decide (x704 < (a0.length : Int))) (grd ((0 : Int) ≤ x704 ∧ x704 < (a0.length : Int)) (grd ((0 : Int) ≤ x704 ∧ x704 < (a1.length : Int)) ((concourseref07_Same.f k (Event.K.at a0 x704) (Event.K.at a1 x704)).bind fun t708 => cond (!t708) (some (.inr false)) (concourseref07_SameAll.l0 k a0 a1 j711 (w64 (x704 + 1)))))) (some (.inl (x704, decide (x704 < (a0.length : Int)))))
def concourseref07_SameAll.f (k : Nat) (a0 : List Event) (a1 : List Event) : Option (Bool) := cond ((a0.length : Int) != (a1.length : Int)) (some false) ((concourseref07_SameAll.l0 k a0 a1 k 0).bind (fall fun (p703 : Int × Bool) => some true))
/-! cmp.Or[int]: function 130 -/
def cmp_Or_int.l0 (k : Nat) (a0 : List Int) : Nat → Int → Option ((Int × Bool) ⊕ (Int))
  | 0, _ => none
  | j718 + 1, x714 => cond (decide (x714 < (a0.length : Int))) (grd ((0 : Int) ≤ x714 ∧ x714 < (a0.length : Int)) (cond (((intK .i64).at a0 x714) != 0) (some (.inr ((intK .i64).at a0 x714))) (cmp_Or_int.l0 k a0 j718 (w64 (x714 + 1))))) (some (.inl (x714, decide (x714 < (a0.length : Int)))))
def cmp_Or_int.f (k : Nat) (a0 : List Int) : Option (Int) := (cmp_Or_int.l0 k a0 k 0).bind (fall fun (p713 : Int × Bool) => some 0)
/-! cmp.isNaN[int]: function 151 -/
def cmp_isNaN_int.f (a0 : Int) : Option (Bool) := some (a0 != a0)
/-! cmp.Compare[int]: function 131 -/
def cmp_Compare_int.f (a0 : Int) (a1 : Int) : Option (Int) := (cmp_isNaN_int.f a0).bind fun t720 => (cmp_isNaN_int.f a1).bind fun t722 => cond t720 (cond t722 (some 0) (some (-1))) (cond t722 (some 1) (cond (decide (a0 < a1)) (some (-1)) (cond (decide (a1 < a0)) (some 1) (some 0))))
/-! cmp.isNaN[string]: function 138 -/
def cmp_isNaN_string.f (a0 : ByteArray) : Option (Bool) := some (!decide (a0 = a0))
/-! cmp.Compare[string]: function 132 -/
def cmp_Compare_string.f (a0 : ByteArray) (a1 : ByteArray) : Option (Int) := (cmp_isNaN_string.f a0).bind fun t729 => (cmp_isNaN_string.f a1).bind fun t731 => cond t729 (cond t731 (some 0) (some (-1))) (cond t731 (some 1) (cond (sLt a0 a1) (some (-1)) (cond (sLt a1 a0) (some 1) (some 0))))
/-! concourse/dag.Compare: function 109 -/
def dag_Compare.f (k : Nat) (a0 : Pos) (a1 : Pos) : Option (Int) := (cmp_Compare_int.f a0.fDepth a1.fDepth).bind fun t740 => (cmp_Compare_string.f a0.fID a1.fID).bind fun t742 => (cmp_Or_int.f k ([t740, t742] : List Int)).bind fun t744 => some t744
/-! slices.SortFunc[[]concourse/api.Position,concourse/api.Position] -/
def posC (x y : Pos) : Int := if x.fDepth < y.fDepth then -1 else if y.fDepth < x.fDepth then 1 else cmpS x.fID y.fID
def slices_SortFunc_Position.f (xs : List Pos) : Option (List Pos) := grd (xs.length ≤ 1000000) (some (srtF posC xs))
/-! (*concourse/dag.Dag).All$1: function 90 -/
def dag_Dag_All_1.f (a0 : DNode) : Option (Bool) := some true
/-! (*concourse/dag.Dag).ids -/
def dag_Dag_ids_All.g (e : ByteArray × DNode) : Option Pos := cond true (some ⟨e.2.fdepth, e.1⟩) none
def dag_Dag_ids_All.f (a0 : DDag) : Option (List ByteArray) := grd (a0.fnodes.length ≤ 1000000) (some ((srtF posC (a0.fnodes.filterMap dag_Dag_ids_All.g)).map (·.fID)))
/-! (*concourse/dag.Dag).Heads$1: function 92 -/
def dag_Dag_Heads_1.f (a0 : DNode) : Option (Bool) := some (!a0.fparent)
/-! (*concourse/dag.Dag).ids -/
def dag_Dag_ids_Heads.g (e : ByteArray × DNode) : Option Pos := cond (!e.2.fparent) (some ⟨e.2.fdepth, e.1⟩) none
def dag_Dag_ids_Heads.f (a0 : DDag) : Option (List ByteArray) := grd (a0.fnodes.length ≤ 1000000) (some ((srtF posC (a0.fnodes.filterMap dag_Dag_ids_Heads.g)).map (·.fID)))
/-! (*concourse/dag.Dag).All: function 55 -/
def dag_Dag_All.l0 (k : Nat) (a0 : DDag) (t749 : List ByteArray) : Nat → Int → List Event → Option (Int × Int × Bool × (List Event) × (List ByteArray))
  | 0, _, _ => none
  | j767 + 1, x752, x753 => cond (decide (x752 < (t749.length : Int))) (grd ((0 : Int) ≤ x752 ∧ x752 < (t749.length : Int)) (grd ((mget a0.fnodes (t749.getD x752.toNat default)).isSome = true) ((dag_own.f (((mget a0.fnodes (t749.getD x752.toNat default)).getD default).fe)).bind fun t763 => grd (x753.length + ([t763] : List Event).length ≤ 9223372036854775807 ∧ (x753.length + ([t763] : List Event).length) * 96 ≤ 140737488355328) (dag_Dag_All.l0 k a0 t749 j767 (w64 (x752 + 1)) (x753 ++ ([t763] : List Event)))))) (some ((t749.length : Int), x752, decide (x752 < (t749.length : Int)), x753, t749))
def dag_Dag_All.f (k : Nat) (a0 : DDag) : Option ((List Event)) := ((dag_Dag_ids_All.f a0).bind fun t749 => dag_Dag_All.l0 k a0 t749 k 0 ([] : List Event)).bind fun (p746 : Int × Int × Bool × (List Event) × (List ByteArray)) => some p746.2.2.2.1
/-! (*concourse/view.View).Events: function 15 -/
def view_View_Events.f (k : Nat) (a0 : VView) (a1 : ByteArray) : Option ((List Event)) := (view_View_room.f a0 a1).bind fun t772 => (dag_Dag_All.f k t772).bind fun t777 => some t777
/-! concourse/concourseref07.Before: function 56 -/
def concourseref07_Before.f (a0 : Pos) (a1 : Pos) : Option (Bool) := cond (decide (a0.fDepth < a1.fDepth)) (some true) (cond (a0.fDepth == a1.fDepth) (some (sLt a0.fID a1.fID)) (some false))
/-! concourse/concourseref07.Depth: function 91 -/
def concourseref07_Depth.l1 (k : Nat) (a0 : RDag) (x794 : Int) : Nat → Int → List Int → Option (Int × Bool × (List Int))
  | 0, _, _ => none
  | j812 + 1, x798, x799 => grd ((0 : Int) ≤ x794 ∧ x794 < (a0.fL.length : Int)) (cond (decide (x798 < (((Event.K.at a0.fL x794).fParents).length : Int))) (grd ((0 : Int) ≤ x794 ∧ x794 < (x799.length : Int)) (grd ((0 : Int) ≤ x794 ∧ x794 < (a0.fL.length : Int)) (grd ((0 : Int) ≤ x798 ∧ x798 < (((Event.K.at a0.fL x794).fParents).length : Int)) ((concourseref07_At.f k a0 (strK.at ((Event.K.at a0.fL x794).fParents) x798)).bind fun t806 => grd ((0 : Int) ≤ t806 ∧ t806 < (x799.length : Int)) (grd ((0 : Int) ≤ x794 ∧ x794 < (x799.length : Int)) (concourseref07_Depth.l1 k a0 x794 j812 (w64 (x798 + 1)) (x799.set x794.toNat (max (x799.getD x794.toNat default) (w64 ((x799.getD t806.toNat default) + 1)))))))))) (some (x798, decide (x798 < (((Event.K.at a0.fL x794).fParents).length : Int)), x799)))
def concourseref07_Depth.l0 (k : Nat) (a0 : RDag) (t785 : Int) : Nat → Int → List Int → Option (Int × Bool × (List Int))
  | 0, _, _ => none
  | j814 + 1, x794, x795 => cond (decide (x794 ≤ t785)) ((concourseref07_Depth.l1 k a0 x794 k 0 x795).bind fun (p797 : Int × Bool × (List Int)) => concourseref07_Depth.l0 k a0 t785 j814 (w64 (x794 + 1)) p797.2.2) (some (x794, decide (x794 ≤ t785), x795))
def concourseref07_Depth.f (k : Nat) (a0 : RDag) (a1 : ByteArray) : Option (Int) := (concourseref07_At.f k a0 a1).bind fun t785 => cond (decide (t785 < 0)) (some 0) (grd ((0 : Int) ≤ (w64 (t785 + 1)) ∧ (w64 (t785 + 1)) ≤ (9223372036854775807 : Int) ∧ (w64 (t785 + 1)).toNat * 8 ≤ 140737488355328) ((concourseref07_Depth.l0 k a0 t785 k 0 (List.replicate (w64 (t785 + 1)).toNat (0 : Int))).bind fun (p791 : Int × Bool × (List Int)) => grd ((0 : Int) ≤ t785 ∧ t785 < (p791.2.2.length : Int)) (some (p791.2.2.getD t785.toNat default))))
/-! concourse/concourseref07.Position: function 57 -/
def concourseref07_Position.f (k : Nat) (a0 : RDag) (a1 : ByteArray) : Option (Pos) := (concourseref07_Depth.f k a0 a1).bind fun t818 => some (⟨t818, a1⟩ : Pos)
/-! concourse/concourseref07.All: function 16 -/
def concourseref07_All.l1 (k : Nat) (a0 : RDag) (x822 : List Event) (x823 : Int) : Nat → Int → Option (Int × Bool)
  | 0, _ => none
  | j848 + 1, x836 => cond (decide (x836 < (x822.length : Int))) (grd ((0 : Int) ≤ x836 ∧ x836 < (x822.length : Int)) ((concourseref07_Position.f k a0 ((Event.K.at x822 x836).fID)).bind fun t839 => grd ((0 : Int) ≤ x823 ∧ x823 < (a0.fL.length : Int)) ((concourseref07_Position.f k a0 ((Event.K.at a0.fL x823).fID)).bind fun t842 => (concourseref07_Before.f t839 t842).bind fun t844 => cond t844 (concourseref07_All.l1 k a0 x822 x823 j848 (w64 (x836 + 1))) (some (x836, t844))))) (some (x836, false))
def concourseref07_All.l0 (k : Nat) (a0 : RDag) : Nat → List Event → Int → Option ((List Event) × Int × Bool)
  | 0, _, _ => none
  | j850 + 1, x822, x823 => cond (decide (x823 < (a0.fL.length : Int))) (((concourseref07_All.l1 k a0 x822 x823 k 0).bind fun (p826 : Int × Bool) => grd ((0 : Int) ≤ p826.1 ∧ 0 ≤ p826.1.toNat ∧ p826.1.toNat ≤ x822.length) (grd (([] : List Event).length + ((x822.take p826.1.toNat).drop 0).length ≤ 9223372036854775807 ∧ (([] : List Event).length + ((x822.take p826.1.toNat).drop 0).length) * 96 ≤ 140737488355328) (grd ((0 : Int) ≤ x823 ∧ x823 < (a0.fL.length : Int)) (grd ((([] : List Event) ++ ((x822.take p826.1.toNat).drop 0)).length + ([Event.K.at a0.fL x823] : List Event).length ≤ 9223372036854775807 ∧ ((([] : List Event) ++ ((x822.take p826.1.toNat).drop 0)).length + ([Event.K.at a0.fL x823] : List Event).length) * 96 ≤ 140737488355328) (grd ((0 : Int) ≤ p826.1 ∧ p826.1.toNat ≤ x822.length ∧ x822.length ≤ x822.length) (grd (((([] : List Event) ++ ((x822.take p826.1.toNat).drop 0)) ++ ([Event.K.at a0.fL x823] : List Event)).length + ((x822.take x822.length).drop p826.1.toNat).length ≤ 9223372036854775807 ∧ (((([] : List Event) ++ ((x822.take p826.1.toNat).drop 0)) ++ ([Event.K.at a0.fL x823] : List Event)).length + ((x822.take x822.length).drop p826.1.toNat).length) * 96 ≤ 140737488355328) (some (((([] : List Event) ++ ((x822.take p826.1.toNat).drop 0)) ++ ([Event.K.at a0.fL x823] : List Event)) ++ ((x822.take x822.length).drop p826.1.toNat), p826.1, p826.2)))))))).bind fun (p825 : (List Event) × Int × Bool) => concourseref07_All.l0 k a0 j850 p825.1 (w64 (x823 + 1))) (some (x822, x823, decide (x823 < (a0.fL.length : Int))))
def concourseref07_All.f (k : Nat) (a0 : RDag) : Option ((List Event)) := (concourseref07_All.l0 k a0 k ([] : List Event) 0).bind fun (p821 : (List Event) × Int × Bool) => some p821.1
/-! (*concourse/dag.Dag).Heads: function 58 -/
def dag_Dag_Heads.f (a0 : DDag) : Option ((List ByteArray)) := (dag_Dag_ids_Heads.f a0).bind fun t852 => some t852
/-! (*concourse/view.View).Heads: function 18 -/
def view_View_Heads.f (a0 : VView) (a1 : ByteArray) : Option ((List ByteArray)) := (view_View_room.f a0 a1).bind fun t857 => (dag_Dag_Heads.f t857).bind fun t862 => some t862
/-! concourse/concourseref07.Heads: function 19 -/
def concourseref07_Heads.l2 (k : Nat) (a0 : RDag) (t866 : (List Event)) (x870 : Int) (x882 : Int) : Nat → Bool → Int → Option (Bool × Int × Bool)
  | 0, _, _ => none
  | j893 + 1, x885, x886 => grd ((0 : Int) ≤ x882 ∧ x882 < (a0.fL.length : Int)) (cond (decide (x886 < (((Event.K.at a0.fL x882).fParents).length : Int))) (cond x885 (grd ((0 : Int) ≤ x882 ∧ x882 < (a0.fL.length : Int)) (grd ((0 : Int) ≤ x886 ∧ x886 < (((Event.K.at a0.fL x882).fParents).length : Int)) (grd ((0 : Int) ≤ x870 ∧ x870 < (t866.length : Int)) (concourseref07_Heads.l2 k a0 t866 x870 x882 j893 (!decide ((strK.at ((Event.K.at a0.fL x882).fParents) x886) = ((Event.K.at t866 x870).fID))) (w64 (x886 + 1)))))) (concourseref07_Heads.l2 k a0 t866 x870 x882 j893 false (w64 (x886 + 1)))) (some (x885, x886, decide (x886 < (((Event.K.at a0.fL x882).fParents).length : Int)))))
def concourseref07_Heads.l1 (k : Nat) (a0 : RDag) (t866 : (List Event)) (x870 : Int) : Nat → Bool → Int → Option (Bool × Int × Bool)
  | 0, _, _ => none
  | j895 + 1, x881, x882 => cond (decide (x882 < (a0.fL.length : Int))) ((concourseref07_Heads.l2 k a0 t866 x870 x882 k x881 0).bind fun (p884 : Bool × Int × Bool) => concourseref07_Heads.l1 k a0 t866 x870 j895 p884.1 (w64 (x882 + 1))) (some (x881, x882, decide (x882 < (a0.fL.length : Int))))
def concourseref07_Heads.l0 (k : Nat) (a0 : RDag) (t866 : (List Event)) : Nat → Int → List ByteArray → Option (Int × Bool × (List ByteArray))
  | 0, _, _ => none
  | j898 + 1, x870, x871 => cond (decide (x870 < (t866.length : Int))) (((concourseref07_Heads.l1 k a0 t866 x870 k true 0).bind fun (p876 : Bool × Int × Bool) => cond p876.1 (grd ((0 : Int) ≤ x870 ∧ x870 < (t866.length : Int)) (grd (x871.length + ([(Event.K.at t866 x870).fID] : List ByteArray).length ≤ 9223372036854775807 ∧ (x871.length + ([(Event.K.at t866 x870).fID] : List ByteArray).length) * 16 ≤ 140737488355328) (some (p876.1, p876.2.1, p876.2.2, p876.1, x871 ++ ([(Event.K.at t866 x870).fID] : List ByteArray))))) (some (p876.1, p876.2.1, p876.2.2, p876.1, x871))).bind fun (p874 : Bool × Int × Bool × Bool × (List ByteArray)) => concourseref07_Heads.l0 k a0 t866 j898 (w64 (x870 + 1)) p874.2.2.2.2) (some (x870, decide (x870 < (t866.length : Int)), x871))
def concourseref07_Heads.f (k : Nat) (a0 : RDag) : Option ((List ByteArray)) := (concourseref07_All.f k a0).bind fun t866 => (concourseref07_Heads.l0 k a0 t866 k 0 ([] : List ByteArray)).bind fun (p868 : Int × Bool × (List ByteArray)) => some p868.2.2
/-! slices.Sort[[]string,string] -/
def slices_Sort_string.f (xs : List ByteArray) : Option (List ByteArray) := grd (xs.length < 4611686018427387904) (some (srtS xs))
/-! (*concourse/view.View).Rooms -/
def view_View_Rooms.f (a0 : VView) : Option (List ByteArray) := grd (a0.fdags.length ≤ 1000000) (some (srtS (a0.fdags.map (·.1))))
/-! concourse/concourseref10.Rooms: function 21 -/
def concourseref10_Rooms.l0 (k : Nat) (a0 : RView) : Nat → Int → List ByteArray → Option (Int × Bool × (List ByteArray))
  | 0, _, _ => none
  | j911 + 1, x904, x905 => cond (decide (x904 < (a0.fD.length : Int))) (grd ((0 : Int) ≤ x904 ∧ x904 < (a0.fD.length : Int)) (grd (x905.length + ([(RDag.K.at a0.fD x904).fRoom] : List ByteArray).length ≤ 9223372036854775807 ∧ (x905.length + ([(RDag.K.at a0.fD x904).fRoom] : List ByteArray).length) * 16 ≤ 140737488355328) (concourseref10_Rooms.l0 k a0 j911 (w64 (x904 + 1)) (x905 ++ ([(RDag.K.at a0.fD x904).fRoom] : List ByteArray))))) (some (x904, decide (x904 < (a0.fD.length : Int)), x905))
def concourseref10_Rooms.f (k : Nat) (a0 : RView) : Option ((List ByteArray)) := (concourseref10_Rooms.l0 k a0 k 0 ([] : List ByteArray)).bind fun (p902 : Int × Bool × (List ByteArray)) => some p902.2.2
/-! (*concourse/dag.Dag).Event: function 95 -/
def dag_Dag_Event.f (a0 : DDag) (a1 : ByteArray) : Option (Event × Bool) := (dag_Dag_Has.f a0 a1).bind fun t915 => cond (!t915) (some ((⟨(⟨#[]⟩ : ByteArray), (⟨#[]⟩ : ByteArray), ([] : List ByteArray), (⟨#[]⟩ : ByteArray), (⟨#[]⟩ : ByteArray), 0⟩ : Event), false)) (grd ((mget a0.fnodes a1).isSome = true) ((dag_own.f (((mget a0.fnodes a1).getD default).fe)).bind fun t923 => some (t923, true)))
/-! (*concourse/view.View).Fits: function 60 -/
def view_View_Fits.f (a0 : VView) (a1 : ByteArray) (a2 : ByteArray) (a3 : ByteArray) : Option (Int) := (view_View_room.f a0 a1).bind fun t925 => (dag_Dag_Event.f t925 a2).bind fun t930 => cond (!t930.2) (some 4) (cond (decide (a3 = (⟨#[]⟩ : ByteArray))) (cond (decide (a3 = (⟨#[]⟩ : ByteArray))) (some 0) (some 7)) (cond (decide (a3 = (⟨#[109, 97, 105, 110]⟩ : ByteArray))) (cond (decide (t930.1.fThread = (⟨#[]⟩ : ByteArray))) (cond (decide (t930.1.fThread = (⟨#[]⟩ : ByteArray))) (some 0) (some 7)) (cond (decide (a3 = a2)) (cond (decide (a3 = a2)) (some 0) (some 7)) (cond (decide (a3 = t930.1.fThread)) (some 0) (some 7)))) (cond (decide (a3 = a2)) (cond (decide (a3 = a2)) (some 0) (some 7)) (cond (decide (a3 = t930.1.fThread)) (some 0) (some 7)))))
/-! concourse/concourselaw10.lives: function 22 -/
def concourselaw10_lives.f (k : Nat) : Option (Bool) := (view_New.f).bind fun t946 => (view_View_Add.f k t946 (⟨(⟨#[36, 116]⟩ : ByteArray), (⟨#[33, 114, 58, 115]⟩ : ByteArray), ([] : List ByteArray), (⟨#[]⟩ : ByteArray), (⟨#[64, 97, 58, 115]⟩ : ByteArray), 0⟩ : Event)).bind fun t950 => (view_View_Add.f k t950.2 (⟨(⟨#[36, 117]⟩ : ByteArray), (⟨#[33, 114, 58, 115]⟩ : ByteArray), ([] : List ByteArray), (⟨#[36, 116]⟩ : ByteArray), (⟨#[64, 97, 58, 115]⟩ : ByteArray), 0⟩ : Event)).bind fun t952 => (view_View_Fits.f t952.2 (⟨#[33, 114, 58, 115]⟩ : ByteArray) (⟨#[36, 117]⟩ : ByteArray) (⟨#[36, 116]⟩ : ByteArray)).bind fun t956 => cond (t956 == 0) ((view_View_Fits.f t952.2 (⟨#[33, 114, 58, 115]⟩ : ByteArray) (⟨#[36, 117]⟩ : ByteArray) (⟨#[109, 97, 105, 110]⟩ : ByteArray)).bind fun t959 => cond (t959 == 7) ((view_View_Fits.f t952.2 (⟨#[33, 114, 58, 115]⟩ : ByteArray) (⟨#[36, 116]⟩ : ByteArray) (⟨#[109, 97, 105, 110]⟩ : ByteArray)).bind fun t962 => cond (t962 == 0) ((view_View_Fits.f t952.2 (⟨#[33, 114, 58, 115]⟩ : ByteArray) (⟨#[36, 117]⟩ : ByteArray) (⟨#[]⟩ : ByteArray)).bind fun t965 => cond (t965 == 0) ((view_View_Fits.f t952.2 (⟨#[33, 114, 58, 115]⟩ : ByteArray) (⟨#[36, 120]⟩ : ByteArray) (⟨#[]⟩ : ByteArray)).bind fun t968 => some (t968 == 4)) (some false)) (some false)) (some false)) (some false)
/-! concourse/concourselaw10.ViewAdds: function 3 -/
def concourselaw10_ViewAdds.l0 (k : Nat) (p975 : Int × Bool × (List RDag) × VView) : Nat → Int → Option ((Int × Bool) ⊕ (Bool))
  | 0, _ => none
  | j1015 + 1, x990 => cond (decide (x990 < 2)) ((concourseref01_RoomOf.f x990).bind fun t992 => (concourseref10_Of.f k (⟨p975.2.2.1⟩ : RView) t992).bind fun t994 => (view_View_Events.f k p975.2.2.2 t992).bind fun t997 => (concourseref07_All.f k t994).bind fun t1000 => (concourseref07_SameAll.f k t997 t1000).bind fun t1002 => cond (!t1002) (some (.inr false)) ((view_View_Heads.f p975.2.2.2 t992).bind fun t1006 => (concourseref07_Heads.f k t994).bind fun t1009 => (concourseref01_SameTexts.f k t1006 t1009).bind fun t1012 => cond (!t1012) (some (.inr false)) (concourselaw10_ViewAdds.l0 k p975 j1015 (w64 (x990 + 1))))) (some (.inl (x990, decide (x990 < 2))))
def concourselaw10_ViewAdds.l1 (k : Nat) (a2 : List Event) (a3 : List Int) : Nat → Int → List RDag → VView → Option ((Int × Bool × (List RDag) × VView) ⊕ (Bool))
  | 0, _, _, _ => none
  | j1046 + 1, x1017, x1018, x1019 => cond (decide (x1017 < (a2.length : Int))) (cond (decide (x1017 < (a3.length : Int))) (cond (decide (x1017 < 4)) ((concourseref01_RoomOf.f x1017).bind fun t1023 => (concourseref10_Of.f k (⟨x1018⟩ : RView) t1023).bind fun t1025 => grd ((0 : Int) ≤ x1017 ∧ x1017 < (a3.length : Int)) (grd ((0 : Int) ≤ x1017 ∧ x1017 < (a2.length : Int)) ((concourseref07_Odd.f k t1025 x1017 ((intK .i64).at a3 x1017) (Event.K.at a2 x1017)).bind fun t1029 => (grd ((0 : Int) ≤ x1017 ∧ x1017 < (a3.length : Int)) (cond ((((intK .i64).at a3 x1017).tmod 5) == 0) (grd ((0 : Int) ≤ x1017 ∧ x1017 < (a3.length : Int)) ((concourseref01_RoomOf.f (w64 (((intK .i64).at a3 x1017).tdiv 5))).bind fun t1042 => some t1042)) (some t1029.fRoom))).bind fun (p1032 : ByteArray) => (concourseref10_Add.f k (⟨x1018⟩ : RView) (⟨t1029.fID, p1032, t1029.fParents, t1029.fThread, t1029.fUser, t1029.fDoes⟩ : Event)).bind fun t1033 => (view_View_Add.f k x1019 (⟨t1029.fID, p1032, t1029.fParents, t1029.fThread, t1029.fUser, t1029.fDoes⟩ : Event)).bind fun t1036 => cond (t1036.1 != t1033.2) (some (.inr false)) (concourselaw10_ViewAdds.l1 k a2 a3 j1046 (w64 (x1017 + 1)) t1033.1.fD t1036.2)))) (some (.inl (x1017, decide (x1017 < 4), x1018, x1019)))) (some (.inl (x1017, false, x1018, x1019)))) (some (.inl (x1017, false, x1018, x1019)))
def concourselaw10_ViewAdds.f (k : Nat) (a0 : List GMade) (a1 : List GMade) (a2 : List Event) (a3 : List Int) : Option (Bool) := (concourselaw10_build.f k a0 a1).bind fun t970 => cond t970.1.isNone (some false) ((concourselaw10_ViewAdds.l1 k a2 a3 k 0 t970.2.fD (t970.1.getD default)).bind (fall fun (p975 : Int × Bool × (List RDag) × VView) => (concourselaw10_ViewAdds.l0 k p975 k 0).bind (fall fun (p976 : Int × Bool) => (view_View_Rooms.f p975.2.2.2).bind fun t979 => (concourseref10_Rooms.f k (⟨p975.2.2.1⟩ : RView)).bind fun t982 => (concourseref01_SameTexts.f k t979 t982).bind fun t985 => cond t985 ((concourselaw10_lives.f k).bind fun t988 => some t988) (some false))))
/-! (*concourse/dag.Dag).Position: function 67 -/
def dag_Dag_Position.f (a0 : DDag) (a1 : ByteArray) : Option (Pos × Bool) := (dag_Dag_Has.f a0 a1).bind fun t1049 => cond (!t1049) (some ((⟨0, (⟨#[]⟩ : ByteArray)⟩ : Pos), false)) (grd ((mget a0.fnodes a1).isSome = true) (some ((⟨((mget a0.fnodes a1).getD default).fdepth, a1⟩ : Pos), true)))
/-! (*concourse/view.View).Position: function 28 -/
def view_View_Position.f (a0 : VView) (a1 : ByteArray) (a2 : ByteArray) : Option (Pos × Bool) := (view_View_room.f a0 a1).bind fun t1060 => (dag_Dag_Position.f t1060 a2).bind fun t1065 => some (t1065.1, t1065.2)
/-! concourse/concourseref10.Position: function 30 -/
def concourseref10_Position.f (k : Nat) (a0 : RView) (a1 : ByteArray) (a2 : ByteArray) : Option (Pos × Bool) := (concourseref10_Of.f k a0 a1).bind fun t1069 => (concourseref07_At.f k t1069 a2).bind fun t1072 => cond (decide (t1072 < 0)) (some ((⟨0, (⟨#[]⟩ : ByteArray)⟩ : Pos), false)) ((concourseref07_Position.f k t1069 a2).bind fun t1075 => some (t1075, true))
/-! concourse/member.joined: function 97 -/
def member_joined.l0 (k : Nat) (t1080 : (List Event)) : Nat → Int → (List (ByteArray × Int)) → Option (Int × Int × Bool × (List (ByteArray × Int)) × (List Event))
  | 0, _, _ => none
  | j1091 + 1, x1083, x1084 => cond (decide (x1083 < (t1080.length : Int))) (grd ((0 : Int) ≤ x1083 ∧ x1083 < (t1080.length : Int)) (cond (((t1080.getD x1083.toNat default).fDoes) == 1) (member_joined.l0 k t1080 j1091 (w64 (x1083 + 1)) (mput x1084 ((t1080.getD x1083.toNat default).fUser) 1)) (cond (((t1080.getD x1083.toNat default).fDoes) == 2) (member_joined.l0 k t1080 j1091 (w64 (x1083 + 1)) (mdel x1084 ((t1080.getD x1083.toNat default).fUser))) (member_joined.l0 k t1080 j1091 (w64 (x1083 + 1)) x1084)))) (some ((t1080.length : Int), x1083, decide (x1083 < (t1080.length : Int)), x1084, t1080))
def member_joined.f (k : Nat) (a0 : DDag) : Option ((List (ByteArray × Int))) := ((dag_Dag_All.f k a0).bind fun t1080 => member_joined.l0 k t1080 k 0 ([] : List (ByteArray × Int))).bind fun (p1078 : Int × Int × Bool × (List (ByteArray × Int)) × (List Event)) => some p1078.2.2.2.1
/-! concourse/member.Users -/
def member_Users.f (k : Nat) (a0 : DDag) : Option (List ByteArray) := (member_joined.f k a0).bind fun m => grd (m.length ≤ 1000000) (some (srtS (m.map (·.1))))
/-! (*concourse/view.View).Users: function 31 -/
def view_View_Users.f (k : Nat) (a0 : VView) (a1 : ByteArray) : Option ((List ByteArray)) := (view_View_room.f a0 a1).bind fun t1096 => (member_Users.f k t1096).bind fun t1101 => some t1101
/-! concourse/concourseref09.Last: function 98 -/
def concourseref09_Last.l0 (k : Nat) (a0 : RDag) (a1 : ByteArray) : Nat → Int → Int → Option (Int × Int × Bool)
  | 0, _, _ => none
  | j1127 + 1, x1109, x1110 => cond (decide (x1110 < (a0.fL.length : Int))) (grd ((0 : Int) ≤ x1110 ∧ x1110 < (a0.fL.length : Int)) (cond (!decide (((Event.K.at a0.fL x1110).fUser) = a1)) (concourseref09_Last.l0 k a0 a1 j1127 x1109 (w64 (x1110 + 1))) (grd ((0 : Int) ≤ x1110 ∧ x1110 < (a0.fL.length : Int)) (cond (((Event.K.at a0.fL x1110).fDoes) == 0) (concourseref09_Last.l0 k a0 a1 j1127 x1109 (w64 (x1110 + 1))) (cond (decide (x1109 < 0)) (concourseref09_Last.l0 k a0 a1 j1127 x1110 (w64 (x1110 + 1))) (grd ((0 : Int) ≤ x1109 ∧ x1109 < (a0.fL.length : Int)) ((concourseref07_Position.f k a0 ((Event.K.at a0.fL x1109).fID)).bind fun t1119 => grd ((0 : Int) ≤ x1110 ∧ x1110 < (a0.fL.length : Int)) ((concourseref07_Position.f k a0 ((Event.K.at a0.fL x1110).fID)).bind fun t1122 => (concourseref07_Before.f t1119 t1122).bind fun t1124 => cond t1124 (concourseref09_Last.l0 k a0 a1 j1127 x1110 (w64 (x1110 + 1))) (concourseref09_Last.l0 k a0 a1 j1127 x1109 (w64 (x1110 + 1))))))))))) (some (x1109, x1110, decide (x1110 < (a0.fL.length : Int))))
def concourseref09_Last.f (k : Nat) (a0 : RDag) (a1 : ByteArray) : Option (Event × Bool) := (concourseref09_Last.l0 k a0 a1 k (-1) 0).bind fun (p1106 : Int × Int × Bool) => cond (decide (p1106.1 < 0)) (some ((⟨(⟨#[]⟩ : ByteArray), (⟨#[]⟩ : ByteArray), ([] : List ByteArray), (⟨#[]⟩ : ByteArray), (⟨#[]⟩ : ByteArray), 0⟩ : Event), false)) (grd ((0 : Int) ≤ p1106.1 ∧ p1106.1 < (a0.fL.length : Int)) (some (Event.K.at a0.fL p1106.1, true)))
/-! concourse/concourseref09.Joined: function 71 -/
def concourseref09_Joined.f (k : Nat) (a0 : RDag) (a1 : ByteArray) : Option (Bool) := (concourseref09_Last.f k a0 a1).bind fun t1130 => cond t1130.2 (some (t1130.1.fDoes == 1)) (some false)
/-! concourse/concourseref09.Put: function 72 -/
def concourseref09_Put.l0 (k : Nat) (a0 : List ByteArray) (a1 : ByteArray) : Nat → Bool → Int → List ByteArray → Option (Bool × Int × Bool × (List ByteArray))
  | 0, _, _, _ => none
  | j1158 + 1, x1139, x1140, x1141 => cond (decide (x1140 < (a0.length : Int))) ((cond (!x1139) (grd ((0 : Int) ≤ x1140 ∧ x1140 < (a0.length : Int)) (cond (!sLt (strK.at a0 x1140) a1) (grd (x1141.length + ([a1] : List ByteArray).length ≤ 9223372036854775807 ∧ (x1141.length + ([a1] : List ByteArray).length) * 16 ≤ 140737488355328) (some (true, !sLt (strK.at a0 x1140) a1, x1141 ++ ([a1] : List ByteArray)))) (some (x1139, !sLt (strK.at a0 x1140) a1, x1141)))) (some (x1139, false, x1141))).bind fun (p1144 : Bool × Bool × (List ByteArray)) => grd ((0 : Int) ≤ x1140 ∧ x1140 < (a0.length : Int)) (cond (!decide ((strK.at a0 x1140) = a1)) (grd ((0 : Int) ≤ x1140 ∧ x1140 < (a0.length : Int)) (grd (p1144.2.2.length + ([strK.at a0 x1140] : List ByteArray).length ≤ 9223372036854775807 ∧ (p1144.2.2.length + ([strK.at a0 x1140] : List ByteArray).length) * 16 ≤ 140737488355328) (concourseref09_Put.l0 k a0 a1 j1158 p1144.1 (w64 (x1140 + 1)) (p1144.2.2 ++ ([strK.at a0 x1140] : List ByteArray))))) (concourseref09_Put.l0 k a0 a1 j1158 p1144.1 (w64 (x1140 + 1)) p1144.2.2))) (some (x1139, x1140, decide (x1140 < (a0.length : Int)), x1141))
def concourseref09_Put.f (k : Nat) (a0 : List ByteArray) (a1 : ByteArray) : Option ((List ByteArray)) := (concourseref09_Put.l0 k a0 a1 k false 0 ([] : List ByteArray)).bind fun (p1134 : Bool × Int × Bool × (List ByteArray)) => cond (!p1134.1) (grd (p1134.2.2.2.length + ([a1] : List ByteArray).length ≤ 9223372036854775807 ∧ (p1134.2.2.2.length + ([a1] : List ByteArray).length) * 16 ≤ 140737488355328) (some (p1134.2.2.2 ++ ([a1] : List ByteArray)))) (some p1134.2.2.2)
/-! concourse/concourseref09.Users: function 32 -/
def concourseref09_Users.l0 (k : Nat) (a0 : RDag) : Nat → Int → List ByteArray → Option (Int × Bool × (List ByteArray))
  | 0, _, _ => none
  | j1176 + 1, x1164, x1165 => cond (decide (x1164 < (a0.fL.length : Int))) (grd ((0 : Int) ≤ x1164 ∧ x1164 < (a0.fL.length : Int)) ((concourseref09_Joined.f k a0 ((Event.K.at a0.fL x1164).fUser)).bind fun t1169 => cond t1169 (grd ((0 : Int) ≤ x1164 ∧ x1164 < (a0.fL.length : Int)) ((concourseref09_Put.f k x1165 ((Event.K.at a0.fL x1164).fUser)).bind fun t1173 => concourseref09_Users.l0 k a0 j1176 (w64 (x1164 + 1)) t1173)) (concourseref09_Users.l0 k a0 j1176 (w64 (x1164 + 1)) x1165))) (some (x1164, decide (x1164 < (a0.fL.length : Int)), x1165))
def concourseref09_Users.f (k : Nat) (a0 : RDag) : Option ((List ByteArray)) := (concourseref09_Users.l0 k a0 k 0 ([] : List ByteArray)).bind fun (p1162 : Int × Bool × (List ByteArray)) => some p1162.2.2
/-! slices.Compact[[]string,string] -/
def slices_Compact_string.f (xs : List ByteArray) : Option (List ByteArray) := grd (xs.length ≤ 9223372036854775807) (some (cmpctS xs))
/-! concourse/name.Home: function 121 -/
def name_Home.f (k : Nat) (a0 : ByteArray) : Option (ByteArray) := (name_User.f k a0).bind fun t1179 => cond (!t1179) ((name_Room.f k a0).bind fun t1182 => cond (!t1182) (some (⟨#[]⟩ : ByteArray)) ((strings_Cut.f a0 (⟨#[58]⟩ : ByteArray)).bind fun t1185 => some t1185.2.1)) ((strings_Cut.f a0 (⟨#[58]⟩ : ByteArray)).bind fun t1188 => some t1188.2.1)
/-! concourse/member.Homes: function 99 -/
def member_Homes.l0 (k : Nat) (a0 : List ByteArray) : Nat → Int → List ByteArray → Option (Int × Bool × (List ByteArray))
  | 0, _, _ => none
  | j1207 + 1, x1197, x1198 => cond (decide (x1197 < (a0.length : Int))) (grd ((0 : Int) ≤ x1197 ∧ x1197 < (a0.length : Int)) ((name_Home.f k (strK.at a0 x1197)).bind fun t1202 => cond (!decide (t1202 = (⟨#[]⟩ : ByteArray))) (grd (x1198.length + ([t1202] : List ByteArray).length ≤ 9223372036854775807 ∧ (x1198.length + ([t1202] : List ByteArray).length) * 16 ≤ 140737488355328) (member_Homes.l0 k a0 j1207 (w64 (x1197 + 1)) (x1198 ++ ([t1202] : List ByteArray)))) (member_Homes.l0 k a0 j1207 (w64 (x1197 + 1)) x1198))) (some (x1197, decide (x1197 < (a0.length : Int)), x1198))
def member_Homes.f (k : Nat) (a0 : List ByteArray) : Option ((List ByteArray)) := (member_Homes.l0 k a0 k 0 ([] : List ByteArray)).bind fun (p1190 : Int × Bool × (List ByteArray)) => (slices_Sort_string.f p1190.2.2).bind fun t1192 => (slices_Compact_string.f t1192).bind fun t1194 => some t1194
/-! concourse/member.Servers: function 73 -/
def member_Servers.f (k : Nat) (a0 : DDag) : Option ((List ByteArray)) := (member_Users.f k a0).bind fun t1210 => (member_Homes.f k t1210).bind fun t1213 => some t1213
/-! (*concourse/view.View).Servers: function 33 -/
def view_View_Servers.f (k : Nat) (a0 : VView) (a1 : ByteArray) : Option ((List ByteArray)) := (view_View_room.f a0 a1).bind fun t1218 => (member_Servers.f k t1218).bind fun t1223 => some t1223
/-! concourse/concourseref01.Home: function 100 -/
def concourseref01_Home.f (k : Nat) (a0 : ByteArray) : Option (ByteArray) := (concourseref01_Named.f k a0 64).bind fun t1226 => (concourseref01_Named.f k a0 33).bind fun t1228 => cond (!t1226) (cond (!t1228) (some (⟨#[]⟩ : ByteArray)) ((concourseref01_colon.f k a0).bind fun t1232 => grd ((0 : Int) ≤ (w64 (t1232 + 1)) ∧ (w64 (t1232 + 1)).toNat ≤ a0.size ∧ a0.size ≤ a0.size) (some (a0.extract (w64 (t1232 + 1)).toNat a0.size)))) ((concourseref01_colon.f k a0).bind fun t1236 => grd ((0 : Int) ≤ (w64 (t1236 + 1)) ∧ (w64 (t1236 + 1)).toNat ≤ a0.size ∧ a0.size ≤ a0.size) (some (a0.extract (w64 (t1236 + 1)).toNat a0.size)))
/-! concourse/concourseref09.Homes: function 74 -/
def concourseref09_Homes.l0 (k : Nat) (a0 : List ByteArray) : Nat → Int → List ByteArray → Option (Int × Bool × (List ByteArray))
  | 0, _, _ => none
  | j1252 + 1, x1241, x1242 => cond (decide (x1241 < (a0.length : Int))) (grd ((0 : Int) ≤ x1241 ∧ x1241 < (a0.length : Int)) ((concourseref01_Home.f k (strK.at a0 x1241)).bind fun t1246 => cond (!decide (t1246 = (⟨#[]⟩ : ByteArray))) ((concourseref09_Put.f k x1242 t1246).bind fun t1249 => concourseref09_Homes.l0 k a0 j1252 (w64 (x1241 + 1)) t1249) (concourseref09_Homes.l0 k a0 j1252 (w64 (x1241 + 1)) x1242))) (some (x1241, decide (x1241 < (a0.length : Int)), x1242))
def concourseref09_Homes.f (k : Nat) (a0 : List ByteArray) : Option ((List ByteArray)) := (concourseref09_Homes.l0 k a0 k 0 ([] : List ByteArray)).bind fun (p1239 : Int × Bool × (List ByteArray)) => some p1239.2.2
/-! concourse/concourseref09.Servers: function 34 -/
def concourseref09_Servers.f (k : Nat) (a0 : RDag) : Option ((List ByteArray)) := (concourseref09_Users.f k a0).bind fun t1256 => (concourseref09_Homes.f k t1256).bind fun t1259 => some t1259
/-! concourse/member.Joined: function 75 -/
def member_Joined.f (k : Nat) (a0 : DDag) (a1 : ByteArray) : Option (Bool) := (member_joined.f k a0).bind fun t1262 => some (decide (0 < ((mget t1262 a1).getD 0)))
/-! (*concourse/view.View).Joined: function 35 -/
def view_View_Joined.f (k : Nat) (a0 : VView) (a1 : ByteArray) (a2 : ByteArray) : Option (Bool) := (view_View_room.f a0 a1).bind fun t1267 => (member_Joined.f k t1267 a2).bind fun t1272 => some t1272
/-! concourse/concourseref10.Joined: function 37 -/
def concourseref10_Joined.f (k : Nat) (a0 : RView) (a1 : ByteArray) (a2 : ByteArray) : Option (Bool) := (concourseref10_Of.f k a0 a1).bind fun t1275 => (concourseref09_Joined.f k t1275 a2).bind fun t1277 => some t1277
/-! slices.Index[[]string,string]: function 101 -/
def slices_Index_string.l0 (k : Nat) (a0 : List ByteArray) (a1 : ByteArray) : Nat → Int → Option ((Int × Bool) ⊕ (Int))
  | 0, _ => none
  | j1284 + 1, x1280 => cond (decide (x1280 < (a0.length : Int))) (grd ((0 : Int) ≤ x1280 ∧ x1280 < (a0.length : Int)) (cond (decide (a1 = (strK.at a0 x1280))) (some (.inr x1280)) (slices_Index_string.l0 k a0 a1 j1284 (w64 (x1280 + 1))))) (some (.inl (x1280, decide (x1280 < (a0.length : Int)))))
def slices_Index_string.f (k : Nat) (a0 : List ByteArray) (a1 : ByteArray) : Option (Int) := (slices_Index_string.l0 k a0 a1 k 0).bind (fall fun (p1279 : Int × Bool) => some (-1))
/-! slices.Contains[[]string,string]: function 82 -/
def slices_Contains_string.f (k : Nat) (a0 : List ByteArray) (a1 : ByteArray) : Option (Bool) := (slices_Index_string.f k a0 a1).bind fun t1286 => some (decide (0 ≤ t1286))
/-! concourse/member.In: function 76 -/
def member_In.f (k : Nat) (a0 : DDag) (a1 : ByteArray) : Option (Bool) := (member_Servers.f k a0).bind fun t1288 => (slices_Contains_string.f k t1288 a1).bind fun t1291 => some t1291
/-! (*concourse/view.View).In: function 38 -/
def view_View_In.f (k : Nat) (a0 : VView) (a1 : ByteArray) (a2 : ByteArray) : Option (Bool) := (view_View_room.f a0 a1).bind fun t1295 => (member_In.f k t1295 a2).bind fun t1300 => some t1300
/-! concourse/concourseref09.Has: function 40 -/
def concourseref09_Has.l0 (k : Nat) (a0 : List ByteArray) (a1 : ByteArray) : Nat → Int → Option ((Int × Bool) ⊕ (Bool))
  | 0, _ => none
  | j1307 + 1, x1303 => cond (decide (x1303 < (a0.length : Int))) (grd ((0 : Int) ≤ x1303 ∧ x1303 < (a0.length : Int)) (cond (decide ((strK.at a0 x1303) = a1)) (some (.inr true)) (concourseref09_Has.l0 k a0 a1 j1307 (w64 (x1303 + 1))))) (some (.inl (x1303, decide (x1303 < (a0.length : Int)))))
def concourseref09_Has.f (k : Nat) (a0 : List ByteArray) (a1 : ByteArray) : Option (Bool) := (concourseref09_Has.l0 k a0 a1 k 0).bind (fall fun (p1302 : Int × Bool) => some false)
/-! concourse/concourselaw10.ViewAsks: function 6 -/
def concourselaw10_ViewAsks.l0 (k : Nat) (a3 : Int) (t1309 : (Option VView) × RView) (t1314 : ByteArray) (t1316 : ByteArray) : Nat → Int → Option ((Int × Bool) ⊕ (Bool))
  | 0, _ => none
  | j1405 + 1, x1321 => cond (decide (x1321 < 2)) (grd ((0 : Int) ≤ x1321 ∧ x1321 < (([t1316, t1314] : List ByteArray).length : Int)) ((concourseref10_Of.f k t1309.2 (strK.at ([t1316, t1314] : List ByteArray) x1321)).bind fun t1324 => (concourseref01_EventOf.f k a3).bind fun t1327 => (view_View_Position.f (t1309.1.getD default) (strK.at ([t1316, t1314] : List ByteArray) x1321) t1327).bind fun t1329 => (concourseref01_EventOf.f k a3).bind fun t1332 => (concourseref10_Position.f k t1309.2 (strK.at ([t1316, t1314] : List ByteArray) x1321) t1332).bind fun t1334 => (view_View_Position.f (t1309.1.getD default) (strK.at ([t1316, t1314] : List ByteArray) x1321) t1314).bind fun t1337 => (concourseref10_Position.f k t1309.2 (strK.at ([t1316, t1314] : List ByteArray) x1321) t1314).bind fun t1340 => cond (!decide (t1329.1 = t1334.1)) (some (.inr false)) (cond (t1329.2 != t1334.2) (some (.inr false)) (cond (t1337.2 != t1340.2) (some (.inr false)) ((view_View_Users.f k (t1309.1.getD default) (strK.at ([t1316, t1314] : List ByteArray) x1321)).bind fun t1349 => (concourseref09_Users.f k t1324).bind fun t1352 => (concourseref01_SameTexts.f k t1349 t1352).bind fun t1355 => cond (!t1355) (some (.inr false)) ((view_View_Servers.f k (t1309.1.getD default) (strK.at ([t1316, t1314] : List ByteArray) x1321)).bind fun t1359 => (concourseref09_Servers.f k t1324).bind fun t1362 => (concourseref01_SameTexts.f k t1359 t1362).bind fun t1365 => cond (!t1365) (some (.inr false)) ((concourseref01_UserOf.f a3).bind fun t1368 => (view_View_Joined.f k (t1309.1.getD default) (strK.at ([t1316, t1314] : List ByteArray) x1321) t1368).bind fun t1370 => (concourseref01_UserOf.f a3).bind fun t1372 => (concourseref10_Joined.f k t1309.2 (strK.at ([t1316, t1314] : List ByteArray) x1321) t1372).bind fun t1374 => cond (t1370 != t1374) (some (.inr false)) ((view_View_Joined.f k (t1309.1.getD default) (strK.at ([t1316, t1314] : List ByteArray) x1321) t1314).bind fun t1378 => (concourseref10_Joined.f k t1309.2 (strK.at ([t1316, t1314] : List ByteArray) x1321) t1314).bind fun t1380 => cond (t1378 != t1380) (some (.inr false)) ((concourseref01_ServerOf.f a3).bind fun t1384 => (view_View_In.f k (t1309.1.getD default) (strK.at ([t1316, t1314] : List ByteArray) x1321) t1384).bind fun t1386 => (concourseref09_Servers.f k t1324).bind fun t1388 => (concourseref01_ServerOf.f a3).bind fun t1391 => (concourseref09_Has.f k t1388 t1391).bind fun t1393 => cond (t1386 != t1393) (some (.inr false)) ((view_View_In.f k (t1309.1.getD default) (strK.at ([t1316, t1314] : List ByteArray) x1321) t1314).bind fun t1397 => (concourseref09_Servers.f k t1324).bind fun t1399 => (concourseref09_Has.f k t1399 t1314).bind fun t1402 => cond (t1397 != t1402) (some (.inr false)) (concourselaw10_ViewAsks.l0 k a3 t1309 t1314 t1316 j1405 (w64 (x1321 + 1))))))))))))) (some (.inl (x1321, decide (x1321 < 2))))
def concourselaw10_ViewAsks.f (k : Nat) (a0 : List GMade) (a1 : List GMade) (a2 : Int) (a3 : Int) (a4 : ByteArray) : Option (Bool) := (concourselaw10_build.f k a0 a1).bind fun t1309 => cond t1309.1.isNone (some false) ((concourseref01_Few.f a4 8).bind fun t1314 => (concourseref01_RoomOf.f a2).bind fun t1316 => (concourselaw10_ViewAsks.l0 k a3 t1309 t1314 t1316 k 0).bind (fall fun (p1318 : Int × Bool) => (concourselaw10_lives.f k).bind fun t1319 => some t1319))
/-! slices.Equal[[]string,string]: function 61 -/
def slices_Equal_string.l0 (k : Nat) (a0 : List ByteArray) (a1 : List ByteArray) : Nat → Int → Option ((Int × Bool) ⊕ (Bool))
  | 0, _ => none
  | j1414 + 1, x1409 => cond (decide (x1409 < (a0.length : Int))) (grd ((0 : Int) ≤ x1409 ∧ x1409 < (a0.length : Int)) (grd ((0 : Int) ≤ x1409 ∧ x1409 < (a1.length : Int)) (cond (!decide ((strK.at a0 x1409) = (strK.at a1 x1409))) (some (.inr false)) (slices_Equal_string.l0 k a0 a1 j1414 (w64 (x1409 + 1)))))) (some (.inl (x1409, decide (x1409 < (a0.length : Int)))))
def slices_Equal_string.f (k : Nat) (a0 : List ByteArray) (a1 : List ByteArray) : Option (Bool) := cond ((a0.length : Int) != (a1.length : Int)) (some false) ((slices_Equal_string.l0 k a0 a1 k 0).bind (fall fun (p1408 : Int × Bool) => some true))
/-! slices.EqualFunc[[]concourse/api.Event,[]concourse/api.Event,concourse/api.Event,concourse/api.Event]: function 64 -/
def slices_EqualFunc_Event_Event.l0 (k : Nat) (a0 : List Event) (a1 : List Event) (a2 : Event → Event → Option Bool) : Nat → Int → Option ((Int × Bool) ⊕ (Bool))
  | 0, _ => none
  | j1427 + 1, x1418 => cond (decide (x1418 < (a0.length : Int))) (grd ((0 : Int) ≤ x1418 ∧ x1418 < (a0.length : Int)) (grd ((0 : Int) ≤ x1418 ∧ x1418 < (a1.length : Int)) ((a2 (Event.K.at a0 x1418) (Event.K.at a1 x1418)).bind fun t1424 => cond (!t1424) (some (.inr false)) (slices_EqualFunc_Event_Event.l0 k a0 a1 a2 j1427 (w64 (x1418 + 1)))))) (some (.inl (x1418, decide (x1418 < (a0.length : Int)))))
def slices_EqualFunc_Event_Event.f (k : Nat) (a0 : List Event) (a1 : List Event) (a2 : Event → Event → Option Bool) : Option (Bool) := cond ((a0.length : Int) != (a1.length : Int)) (some false) ((slices_EqualFunc_Event_Event.l0 k a0 a1 a2 k 0).bind (fall fun (p1417 : Int × Bool) => some true))
/-! concourse/dag.Same: function 65 -/
def dag_Same.f (k : Nat) (a0 : Event) (a1 : Event) : Option (Bool) := cond (decide (a0.fID = a1.fID)) (cond (decide (a0.fRoom = a1.fRoom)) ((slices_Equal_string.f k a0.fParents a1.fParents).bind fun t1433 => cond t1433 (cond (decide (a0.fThread = a1.fThread)) (cond (decide (a0.fUser = a1.fUser)) (some (a0.fDoes == a1.fDoes)) (some false)) (some false)) (some false)) (some false)) (some false)
/-! concourse/concourseref10.Same: function 24 -/
def concourseref10_Same.l0 (k : Nat) (a0 : RView) (a1 : RView) : Nat → Int → Option ((Int × Bool) ⊕ (Bool))
  | 0, _ => none
  | j1472 + 1, x1457 => cond (decide (x1457 < (a0.fD.length : Int))) (grd ((0 : Int) ≤ x1457 ∧ x1457 < (a0.fD.length : Int)) ((concourseref07_All.f k (RDag.K.at a0.fD x1457)).bind fun t1460 => grd ((0 : Int) ≤ x1457 ∧ x1457 < (a1.fD.length : Int)) ((concourseref07_All.f k (RDag.K.at a1.fD x1457)).bind fun t1463 => (concourseref07_SameAll.f k t1460 t1463).bind fun t1465 => cond (!t1465) (some (.inr false)) (grd ((0 : Int) ≤ x1457 ∧ x1457 < (a0.fD.length : Int)) (grd ((0 : Int) ≤ x1457 ∧ x1457 < (a1.fD.length : Int)) (cond (!decide (((RDag.K.at a0.fD x1457).fRoom) = ((RDag.K.at a1.fD x1457).fRoom))) (some (.inr false)) (concourseref10_Same.l0 k a0 a1 j1472 (w64 (x1457 + 1))))))))) (some (.inl (x1457, decide (x1457 < (a0.fD.length : Int)))))
def concourseref10_Same.f (k : Nat) (a0 : RView) (a1 : RView) : Option (Bool) := cond ((a0.fD.length : Int) != (a1.fD.length : Int)) (some false) ((concourseref10_Same.l0 k a0 a1 k 0).bind (fall fun (p1456 : Int × Bool) => some true))
/-! concourse/concourseref10.RoomsOf: function 43 -/
def concourseref10_RoomsOf.l0 (k : Nat) (a0 : RView) (a1 : ByteArray) : Nat → Int → List ByteArray → Option (Int × Bool × (List ByteArray))
  | 0, _, _ => none
  | j1521 + 1, x1510, x1511 => cond (decide (x1510 < (a0.fD.length : Int))) (grd ((0 : Int) ≤ x1510 ∧ x1510 < (a0.fD.length : Int)) ((concourseref09_Joined.f k (RDag.K.at a0.fD x1510) a1).bind fun t1515 => cond t1515 (grd ((0 : Int) ≤ x1510 ∧ x1510 < (a0.fD.length : Int)) (grd (x1511.length + ([(RDag.K.at a0.fD x1510).fRoom] : List ByteArray).length ≤ 9223372036854775807 ∧ (x1511.length + ([(RDag.K.at a0.fD x1510).fRoom] : List ByteArray).length) * 16 ≤ 140737488355328) (concourseref10_RoomsOf.l0 k a0 a1 j1521 (w64 (x1510 + 1)) (x1511 ++ ([(RDag.K.at a0.fD x1510).fRoom] : List ByteArray))))) (concourseref10_RoomsOf.l0 k a0 a1 j1521 (w64 (x1510 + 1)) x1511))) (some (x1510, decide (x1510 < (a0.fD.length : Int)), x1511))
def concourseref10_RoomsOf.f (k : Nat) (a0 : RView) (a1 : ByteArray) : Option ((List ByteArray)) := (concourseref10_RoomsOf.l0 k a0 a1 k 0 ([] : List ByteArray)).bind fun (p1508 : Int × Bool × (List ByteArray)) => some p1508.2.2
/-! concourse/concourseref10.Servers: function 77 -/
def concourseref10_Servers.f (k : Nat) (a0 : RView) (a1 : ByteArray) : Option ((List ByteArray)) := (concourseref10_Of.f k a0 a1).bind fun t1525 => (concourseref09_Servers.f k t1525).bind fun t1527 => some t1527
/-! concourse/concourseref10.Peers: function 41 -/
def concourseref10_Peers.l1 (k : Nat) (t1545 : (List ByteArray)) : Nat → Int → List ByteArray → Option (Int × Bool × (List ByteArray) × (List ByteArray))
  | 0, _, _ => none
  | j1557 + 1, x1548, x1549 => cond (decide (x1548 < (t1545.length : Int))) (grd ((0 : Int) ≤ x1548 ∧ x1548 < (t1545.length : Int)) ((concourseref09_Put.f k x1549 (t1545.getD x1548.toNat default)).bind fun t1554 => concourseref10_Peers.l1 k t1545 j1557 (w64 (x1548 + 1)) t1554)) (some (x1548, decide (x1548 < (t1545.length : Int)), x1549, t1545))
def concourseref10_Peers.l0 (k : Nat) (a0 : RView) (t1531 : (List ByteArray)) : Nat → Int → List ByteArray → Option (Int × Bool × (List ByteArray))
  | 0, _, _ => none
  | j1560 + 1, x1536, x1537 => cond (decide (x1536 < (t1531.length : Int))) ((grd ((0 : Int) ≤ x1536 ∧ x1536 < (t1531.length : Int)) ((concourseref10_Servers.f k a0 (t1531.getD x1536.toNat default)).bind fun t1545 => concourseref10_Peers.l1 k t1545 k 0 x1537)).bind fun (p1540 : Int × Bool × (List ByteArray) × (List ByteArray)) => concourseref10_Peers.l0 k a0 t1531 j1560 (w64 (x1536 + 1)) p1540.2.2.1) (some (x1536, decide (x1536 < (t1531.length : Int)), x1537))
def concourseref10_Peers.f (k : Nat) (a0 : RView) (a1 : ByteArray) : Option ((List ByteArray)) := (concourseref10_RoomsOf.f k a0 a1).bind fun t1531 => (concourseref10_Peers.l0 k a0 t1531 k 0 ([] : List ByteArray)).bind fun (p1534 : Int × Bool × (List ByteArray)) => some p1534.2.2
/-! concourse/concourseref10.Friends: function 46 -/
def concourseref10_Friends.l0 (k : Nat) (a0 : RView) (a2 : ByteArray) (t1573 : (List ByteArray)) : Nat → Int → Option ((Int × Bool) ⊕ (Bool))
  | 0, _ => none
  | j1584 + 1, x1577 => cond (decide (x1577 < (t1573.length : Int))) (grd ((0 : Int) ≤ x1577 ∧ x1577 < (t1573.length : Int)) ((concourseref10_Joined.f k a0 (t1573.getD x1577.toNat default) a2).bind fun t1581 => cond t1581 (some (.inr true)) (concourseref10_Friends.l0 k a0 a2 t1573 j1584 (w64 (x1577 + 1))))) (some (.inl (x1577, decide (x1577 < (t1573.length : Int)))))
def concourseref10_Friends.f (k : Nat) (a0 : RView) (a1 : ByteArray) (a2 : ByteArray) : Option (Bool) := (concourseref10_RoomsOf.f k a0 a1).bind fun t1573 => (concourseref10_Friends.l0 k a0 a2 t1573 k 0).bind (fall fun (p1576 : Int × Bool) => some false)
end Go.Proofs.YtigmkniiojpdiaaGreat
