/- The walks. -/
import Derived.Test.YtigmkniiojpdiaaGreatChecked
import Derived.Test.YtigmkniiojpdiaaGreatConQ
import Derived.Test.YtigmkniiojpdiaaGreatConA5
import Derived.Eval
set_option linter.all false
set_option maxRecDepth 10000
set_option maxHeartbeats 20000000
namespace Go.Proofs.YtigmkniiojpdiaaGreat
open Go Go.Sp
theorem c100 : Tryz.prog.cellsOf 100 = 1 := by kernel_rfl
theorem c115 : Tryz.prog.cellsOf 115 = 4 := by kernel_rfl
theorem c140 : Tryz.prog.cellsOf 140 = 1 := by kernel_rfl
theorem c23 : Tryz.prog.cellsOf 23 = 1 := by kernel_rfl
theorem c24 : Tryz.prog.cellsOf 24 = 1 := by kernel_rfl
theorem c26 : Tryz.prog.cellsOf 26 = 1 := by kernel_rfl
theorem c28 : Tryz.prog.cellsOf 28 = 1 := by kernel_rfl
theorem c3 : Tryz.prog.cellsOf 3 = 1 := by kernel_rfl
theorem c31 : Tryz.prog.cellsOf 31 = 1 := by kernel_rfl
theorem c33 : Tryz.prog.cellsOf 33 = 6 := by kernel_rfl
theorem c36 : Tryz.prog.cellsOf 36 = 2 := by kernel_rfl
theorem c4 : Tryz.prog.cellsOf 4 = 1 := by kernel_rfl
theorem c5 : Tryz.prog.cellsOf 5 = 1 := by kernel_rfl
theorem c61 : Tryz.prog.cellsOf 61 = 2 := by kernel_rfl
theorem c78 : Tryz.prog.cellsOf 78 = 1 := by kernel_rfl
theorem c9 : Tryz.prog.cellsOf 9 = 1 := by kernel_rfl
theorem cal10 : callable Tryz.prog 10 = true := by kernel_rfl
theorem cal100 : callable Tryz.prog 100 = true := by kernel_rfl
theorem cal101 : callable Tryz.prog 101 = true := by kernel_rfl
theorem cal102 : callable Tryz.prog 102 = true := by kernel_rfl
theorem cal103 : callable Tryz.prog 103 = true := by kernel_rfl
theorem cal104 : callable Tryz.prog 104 = true := by kernel_rfl
theorem cal105 : callable Tryz.prog 105 = true := by kernel_rfl
theorem cal106 : callable Tryz.prog 106 = true := by kernel_rfl
theorem cal107 : callable Tryz.prog 107 = true := by kernel_rfl
theorem cal108 : callable Tryz.prog 108 = true := by kernel_rfl
theorem cal11 : callable Tryz.prog 11 = true := by kernel_rfl
theorem cal12 : callable Tryz.prog 12 = true := by kernel_rfl
theorem cal121 : callable Tryz.prog 121 = true := by kernel_rfl
theorem cal122 : callable Tryz.prog 122 = true := by kernel_rfl
theorem cal123 : callable Tryz.prog 123 = true := by kernel_rfl
theorem cal124 : callable Tryz.prog 124 = true := by kernel_rfl
theorem cal125 : callable Tryz.prog 125 = true := by kernel_rfl
theorem cal126 : callable Tryz.prog 126 = true := by kernel_rfl
theorem cal127 : callable Tryz.prog 127 = true := by kernel_rfl
theorem cal128 : callable Tryz.prog 128 = true := by kernel_rfl
theorem cal13 : callable Tryz.prog 13 = true := by kernel_rfl
theorem cal130 : callable Tryz.prog 130 = true := by kernel_rfl
theorem cal131 : callable Tryz.prog 131 = true := by kernel_rfl
theorem cal132 : callable Tryz.prog 132 = true := by kernel_rfl
theorem cal138 : callable Tryz.prog 138 = true := by kernel_rfl
theorem cal139 : callable Tryz.prog 139 = true := by kernel_rfl
theorem cal14 : callable Tryz.prog 14 = true := by kernel_rfl
theorem cal140 : callable Tryz.prog 140 = true := by kernel_rfl
theorem cal141 : callable Tryz.prog 141 = true := by kernel_rfl
theorem cal142 : callable Tryz.prog 142 = true := by kernel_rfl
theorem cal15 : callable Tryz.prog 15 = true := by kernel_rfl
theorem cal151 : callable Tryz.prog 151 = true := by kernel_rfl
theorem cal153 : callable Tryz.prog 153 = true := by kernel_rfl
theorem cal154 : callable Tryz.prog 154 = true := by kernel_rfl
theorem cal155 : callable Tryz.prog 155 = true := by kernel_rfl
theorem cal156 : callable Tryz.prog 156 = true := by kernel_rfl
theorem cal157 : callable Tryz.prog 157 = true := by kernel_rfl
theorem cal16 : callable Tryz.prog 16 = true := by kernel_rfl
theorem cal161 : callable Tryz.prog 161 = true := by kernel_rfl
theorem cal162 : callable Tryz.prog 162 = true := by kernel_rfl
theorem cal17 : callable Tryz.prog 17 = true := by kernel_rfl
theorem cal18 : callable Tryz.prog 18 = true := by kernel_rfl
theorem cal19 : callable Tryz.prog 19 = true := by kernel_rfl
theorem cal20 : callable Tryz.prog 20 = true := by kernel_rfl
theorem cal21 : callable Tryz.prog 21 = true := by kernel_rfl
theorem cal22 : callable Tryz.prog 22 = true := by kernel_rfl
theorem cal25 : callable Tryz.prog 25 = true := by kernel_rfl
theorem cal26 : callable Tryz.prog 26 = true := by kernel_rfl
theorem cal27 : callable Tryz.prog 27 = true := by kernel_rfl
theorem cal28 : callable Tryz.prog 28 = true := by kernel_rfl
theorem cal29 : callable Tryz.prog 29 = true := by kernel_rfl
theorem cal30 : callable Tryz.prog 30 = true := by kernel_rfl
theorem cal31 : callable Tryz.prog 31 = true := by kernel_rfl
theorem cal32 : callable Tryz.prog 32 = true := by kernel_rfl
theorem cal33 : callable Tryz.prog 33 = true := by kernel_rfl
theorem cal34 : callable Tryz.prog 34 = true := by kernel_rfl
theorem cal35 : callable Tryz.prog 35 = true := by kernel_rfl
theorem cal36 : callable Tryz.prog 36 = true := by kernel_rfl
theorem cal37 : callable Tryz.prog 37 = true := by kernel_rfl
theorem cal38 : callable Tryz.prog 38 = true := by kernel_rfl
theorem cal39 : callable Tryz.prog 39 = true := by kernel_rfl
theorem cal40 : callable Tryz.prog 40 = true := by kernel_rfl
theorem cal41 : callable Tryz.prog 41 = true := by kernel_rfl
theorem cal42 : callable Tryz.prog 42 = true := by kernel_rfl
theorem cal43 : callable Tryz.prog 43 = true := by kernel_rfl
theorem cal44 : callable Tryz.prog 44 = true := by kernel_rfl
theorem cal45 : callable Tryz.prog 45 = true := by kernel_rfl
theorem cal46 : callable Tryz.prog 46 = true := by kernel_rfl
theorem cal47 : callable Tryz.prog 47 = true := by kernel_rfl
theorem cal48 : callable Tryz.prog 48 = true := by kernel_rfl
theorem cal49 : callable Tryz.prog 49 = true := by kernel_rfl
theorem cal50 : callable Tryz.prog 50 = true := by kernel_rfl
theorem cal51 : callable Tryz.prog 51 = true := by kernel_rfl
theorem cal52 : callable Tryz.prog 52 = true := by kernel_rfl
theorem cal53 : callable Tryz.prog 53 = true := by kernel_rfl
theorem cal54 : callable Tryz.prog 54 = true := by kernel_rfl
theorem cal55 : callable Tryz.prog 55 = true := by kernel_rfl
theorem cal56 : callable Tryz.prog 56 = true := by kernel_rfl
theorem cal57 : callable Tryz.prog 57 = true := by kernel_rfl
theorem cal58 : callable Tryz.prog 58 = true := by kernel_rfl
theorem cal59 : callable Tryz.prog 59 = true := by kernel_rfl
theorem cal60 : callable Tryz.prog 60 = true := by kernel_rfl
theorem cal62 : callable Tryz.prog 62 = true := by kernel_rfl
theorem cal66 : callable Tryz.prog 66 = true := by kernel_rfl
theorem cal67 : callable Tryz.prog 67 = true := by kernel_rfl
theorem cal68 : callable Tryz.prog 68 = true := by kernel_rfl
theorem cal69 : callable Tryz.prog 69 = true := by kernel_rfl
theorem cal70 : callable Tryz.prog 70 = true := by kernel_rfl
theorem cal71 : callable Tryz.prog 71 = true := by kernel_rfl
theorem cal72 : callable Tryz.prog 72 = true := by kernel_rfl
theorem cal73 : callable Tryz.prog 73 = true := by kernel_rfl
theorem cal74 : callable Tryz.prog 74 = true := by kernel_rfl
theorem cal75 : callable Tryz.prog 75 = true := by kernel_rfl
theorem cal76 : callable Tryz.prog 76 = true := by kernel_rfl
theorem cal77 : callable Tryz.prog 77 = true := by kernel_rfl
theorem cal78 : callable Tryz.prog 78 = true := by kernel_rfl
theorem cal79 : callable Tryz.prog 79 = true := by kernel_rfl
theorem cal8 : callable Tryz.prog 8 = true := by kernel_rfl
theorem cal80 : callable Tryz.prog 80 = true := by kernel_rfl
theorem cal81 : callable Tryz.prog 81 = true := by kernel_rfl
theorem cal82 : callable Tryz.prog 82 = true := by kernel_rfl
theorem cal83 : callable Tryz.prog 83 = true := by kernel_rfl
theorem cal84 : callable Tryz.prog 84 = true := by kernel_rfl
theorem cal85 : callable Tryz.prog 85 = true := by kernel_rfl
theorem cal86 : callable Tryz.prog 86 = true := by kernel_rfl
theorem cal87 : callable Tryz.prog 87 = true := by kernel_rfl
theorem cal88 : callable Tryz.prog 88 = true := by kernel_rfl
theorem cal89 : callable Tryz.prog 89 = true := by kernel_rfl
theorem cal9 : callable Tryz.prog 9 = true := by kernel_rfl
theorem cal90 : callable Tryz.prog 90 = true := by kernel_rfl
theorem cal91 : callable Tryz.prog 91 = true := by kernel_rfl
theorem cal92 : callable Tryz.prog 92 = true := by kernel_rfl
theorem cal95 : callable Tryz.prog 95 = true := by kernel_rfl
theorem cal96 : callable Tryz.prog 96 = true := by kernel_rfl
theorem cal97 : callable Tryz.prog 97 = true := by kernel_rfl
theorem cal98 : callable Tryz.prog 98 = true := by kernel_rfl
theorem cal99 : callable Tryz.prog 99 = true := by kernel_rfl
theorem eg61 : Tryz.prog.eqGuardType Tryz.prog.depth 61 = false := by kernel_rfl
theorem inf3 : ∃ i, Tryz.prog.info? 3 = some i ∧ i.size = 1 ∧ i.zero = some (.int .i64 0) ∧ i.bytes = 8 := inf_of (by kernel_rfl) (by kernel_rfl) (by kernel_rfl)
theorem inf33 : ∃ i, Tryz.prog.info? 33 = some i ∧ i.size = 6 ∧ i.zero = some (.agg #[.string ⟨#[]⟩, .string ⟨#[]⟩, .slice none 0 0, .string ⟨#[]⟩, .string ⟨#[]⟩, .int .i64 0]) ∧ i.bytes = 96 := inf_of (by kernel_rfl) (by kernel_rfl) (by kernel_rfl)
theorem inf36 : ∃ i, Tryz.prog.info? 36 = some i ∧ i.size = 2 ∧ i.zero = some (.agg #[.string ⟨#[]⟩, .slice none 0 0]) ∧ i.bytes = 40 := inf_of (by kernel_rfl) (by kernel_rfl) (by kernel_rfl)
theorem inf4 : ∃ i, Tryz.prog.info? 4 = some i ∧ i.size = 1 ∧ i.zero = some (.bool false) ∧ i.bytes = 1 := inf_of (by kernel_rfl) (by kernel_rfl) (by kernel_rfl)
theorem inf61 : ∃ i, Tryz.prog.info? 61 = some i ∧ i.size = 2 ∧ i.zero = some (.agg #[.int .i64 0, .string ⟨#[]⟩]) ∧ i.bytes = 24 := inf_of (by kernel_rfl) (by kernel_rfl) (by kernel_rfl)
theorem inf9 : ∃ i, Tryz.prog.info? 9 = some i ∧ i.size = 1 ∧ i.zero = some (.string ⟨#[]⟩) ∧ i.bytes = 16 := inf_of (by kernel_rfl) (by kernel_rfl) (by kernel_rfl)
theorem fa102_0 : FA Tryz.prog 102 0 0 := ⟨_, _, _, _, Tryz.underlying102, rfl, Tryz.underlying9, c9, by decide, rfl⟩
theorem fa102_1 : FA Tryz.prog 102 1 1 := ⟨_, _, _, _, Tryz.underlying102, rfl, Tryz.underlying100, c100, by decide, rfl⟩
theorem fa105_0 : FA Tryz.prog 105 0 0 := ⟨_, _, _, _, Tryz.underlying105, rfl, Tryz.underlying33, c33, by decide, rfl⟩
theorem fa105_1 : FA Tryz.prog 105 1 6 := ⟨_, _, _, _, Tryz.underlying105, rfl, Tryz.underlying3, c3, by decide, rfl⟩
theorem fa105_2 : FA Tryz.prog 105 2 7 := ⟨_, _, _, _, Tryz.underlying105, rfl, Tryz.underlying4, c4, by decide, rfl⟩
theorem fa115_0 : FA Tryz.prog 115 0 0 := ⟨_, _, _, _, Tryz.underlying115, rfl, Tryz.underlying3, c3, by decide, rfl⟩
theorem fa115_1 : FA Tryz.prog 115 1 1 := ⟨_, _, _, _, Tryz.underlying115, rfl, Tryz.underlying3, c3, by decide, rfl⟩
theorem fa115_2 : FA Tryz.prog 115 2 2 := ⟨_, _, _, _, Tryz.underlying115, rfl, Tryz.underlying24, c24, by decide, rfl⟩
theorem fa115_3 : FA Tryz.prog 115 3 3 := ⟨_, _, _, _, Tryz.underlying115, rfl, Tryz.underlying3, c3, by decide, rfl⟩
theorem fa28_0 : FA Tryz.prog 28 0 0 := ⟨_, _, _, _, Tryz.underlying28, rfl, Tryz.underlying26, c26, by decide, rfl⟩
theorem fa33_0 : FA Tryz.prog 33 0 0 := ⟨_, _, _, _, Tryz.underlying33, rfl, Tryz.underlying9, c9, by decide, rfl⟩
theorem fa33_1 : FA Tryz.prog 33 1 1 := ⟨_, _, _, _, Tryz.underlying33, rfl, Tryz.underlying9, c9, by decide, rfl⟩
theorem fa33_2 : FA Tryz.prog 33 2 2 := ⟨_, _, _, _, Tryz.underlying33, rfl, Tryz.underlying31, c31, by decide, rfl⟩
theorem fa33_3 : FA Tryz.prog 33 3 3 := ⟨_, _, _, _, Tryz.underlying33, rfl, Tryz.underlying9, c9, by decide, rfl⟩
theorem fa33_4 : FA Tryz.prog 33 4 4 := ⟨_, _, _, _, Tryz.underlying33, rfl, Tryz.underlying9, c9, by decide, rfl⟩
theorem fa33_5 : FA Tryz.prog 33 5 5 := ⟨_, _, _, _, Tryz.underlying33, rfl, Tryz.underlying3, c3, by decide, rfl⟩
theorem fa36_0 : FA Tryz.prog 36 0 0 := ⟨_, _, _, _, Tryz.underlying36, rfl, Tryz.underlying9, c9, by decide, rfl⟩
theorem fa36_1 : FA Tryz.prog 36 1 1 := ⟨_, _, _, _, Tryz.underlying36, rfl, Tryz.underlying23, c23, by decide, rfl⟩
theorem fa61_0 : FA Tryz.prog 61 0 0 := ⟨_, _, _, _, Tryz.underlying61, rfl, Tryz.underlying3, c3, by decide, rfl⟩
theorem fa61_1 : FA Tryz.prog 61 1 1 := ⟨_, _, _, _, Tryz.underlying61, rfl, Tryz.underlying9, c9, by decide, rfl⟩
theorem fa80_0 : FA Tryz.prog 80 0 0 := ⟨_, _, _, _, Tryz.underlying80, rfl, Tryz.underlying78, c78, by decide, rfl⟩
theorem sc100 : SC Tryz.prog 100 := ⟨_, Tryz.underlying100, rfl⟩
theorem sc23 : SC Tryz.prog 23 := ⟨_, Tryz.underlying23, rfl⟩
theorem sc24 : SC Tryz.prog 24 := ⟨_, Tryz.underlying24, rfl⟩
theorem sc25 : SC Tryz.prog 25 := ⟨_, Tryz.underlying25, rfl⟩
theorem sc26 : SC Tryz.prog 26 := ⟨_, Tryz.underlying26, rfl⟩
theorem sc3 : SC Tryz.prog 3 := ⟨_, Tryz.underlying3, rfl⟩
theorem sc31 : SC Tryz.prog 31 := ⟨_, Tryz.underlying31, rfl⟩
theorem sc4 : SC Tryz.prog 4 := ⟨_, Tryz.underlying4, rfl⟩
theorem sc76 : SC Tryz.prog 76 := ⟨_, Tryz.underlying76, rfl⟩
theorem sc78 : SC Tryz.prog 78 := ⟨_, Tryz.underlying78, rfl⟩
theorem sc9 : SC Tryz.prog 9 := ⟨_, Tryz.underlying9, rfl⟩
theorem sg28 : SG Tryz.prog 28 1 := ⟨_, Tryz.underlying28, rfl, c28⟩
theorem sg33 : SG Tryz.prog 33 6 := ⟨_, Tryz.underlying33, rfl, c33⟩
theorem sg36 : SG Tryz.prog 36 2 := ⟨_, Tryz.underlying36, rfl, c36⟩
theorem sg61 : SG Tryz.prog 61 2 := ⟨_, Tryz.underlying61, rfl, c61⟩
theorem sz28 : SZ Tryz.prog 28 1 := ⟨_, Tryz.underlying28, c28⟩
theorem sz3 : SZ Tryz.prog 3 1 := ⟨_, Tryz.underlying3, c3⟩
theorem sz31 : SZ Tryz.prog 31 1 := ⟨_, Tryz.underlying31, c31⟩
theorem sz33 : SZ Tryz.prog 33 6 := ⟨_, Tryz.underlying33, c33⟩
theorem sz36 : SZ Tryz.prog 36 2 := ⟨_, Tryz.underlying36, c36⟩
theorem sz4 : SZ Tryz.prog 4 1 := ⟨_, Tryz.underlying4, c4⟩
theorem sz61 : SZ Tryz.prog 61 2 := ⟨_, Tryz.underlying61, c61⟩
theorem sz9 : SZ Tryz.prog 9 1 := ⟨_, Tryz.underlying9, c9⟩
theorem pl102 : plcT Tryz.prog 102 = true := by kernel_rfl
theorem pl105 : plcT Tryz.prog 105 = true := by kernel_rfl
theorem pl28 : plcT Tryz.prog 28 = true := by kernel_rfl
theorem pl33 : plcT Tryz.prog 33 = true := by kernel_rfl
theorem pl36 : plcT Tryz.prog 36 = true := by kernel_rfl
theorem pl61 : plcT Tryz.prog 61 = true := by kernel_rfl
theorem pl80 : plcT Tryz.prog 80 = true := by kernel_rfl
theorem st61 : Tryz.prog.stoodInHeld 61 = false := by kernel_rfl
theorem xf167 : (Extern.findNext Tryz.f167).isNone = true := by kernel_rfl
theorem xg167 : Extern.find Tryz.f167 = some Extern.BytealgIndexByte.indexByte := by rfl
theorem z102 : zer Tryz.prog 102 = some (.agg #[.string ⟨#[]⟩, .map none]) := by kernel_rfl
theorem z103 : zer Tryz.prog 103 = some (.pointer none) := by kernel_rfl
theorem z105 : zer Tryz.prog 105 = some (.agg #[.string ⟨#[]⟩, .string ⟨#[]⟩, .slice none 0 0, .string ⟨#[]⟩, .string ⟨#[]⟩, .int .i64 0, .int .i64 0, .bool false]) := by kernel_rfl
theorem z156 : zer Tryz.prog 156 = some (.agg #[.nilFunc, .nilFunc, .nilFunc]) := by kernel_rfl
theorem z28 : zer Tryz.prog 28 = some (.agg #[.slice none 0 0]) := by kernel_rfl
theorem z3 : zer Tryz.prog 3 = some (.int .i64 0) := by kernel_rfl
theorem z33 : zer Tryz.prog 33 = some (.agg #[.string ⟨#[]⟩, .string ⟨#[]⟩, .slice none 0 0, .string ⟨#[]⟩, .string ⟨#[]⟩, .int .i64 0]) := by kernel_rfl
theorem z36 : zer Tryz.prog 36 = some (.agg #[.string ⟨#[]⟩, .slice none 0 0]) := by kernel_rfl
theorem z5 : zer Tryz.prog 5 = some (.int .u8 0) := by kernel_rfl
theorem z61 : zer Tryz.prog 61 = some (.agg #[.int .i64 0, .string ⟨#[]⟩]) := by kernel_rfl
theorem z76 : zer Tryz.prog 76 = some (.pointer none) := by kernel_rfl
theorem z80 : zer Tryz.prog 80 = some (.agg #[.map none]) := by kernel_rfl
theorem z9 : zer Tryz.prog 9 = some (.string ⟨#[]⟩) := by kernel_rfl
theorem zc28 : ZC Tryz.prog 28 [eq (.slice none 0 0)] := ⟨_, z28, rfl⟩
theorem zc33 : ZC Tryz.prog 33 [eq (.string (⟨#[]⟩ : ByteArray)), eq (.string (⟨#[]⟩ : ByteArray)), eq (.slice none 0 0), eq (.string (⟨#[]⟩ : ByteArray)), eq (.string (⟨#[]⟩ : ByteArray)), eq (.int .i64 0)] := ⟨_, z33, rfl⟩
theorem zc36 : ZC Tryz.prog 36 [eq (.string (⟨#[]⟩ : ByteArray)), eq (.slice none 0 0)] := ⟨_, z36, rfl⟩
theorem zc61 : ZC Tryz.prog 61 [eq (.int .i64 0), eq (.string (⟨#[]⟩ : ByteArray))] := ⟨_, z61, rfl⟩
structure Event where
  fID : ByteArray
  fRoom : ByteArray
  fParents : List ByteArray
  fThread : ByteArray
  fUser : ByteArray
  fDoes : Int
  deriving DecidableEq, Inhabited
abbrev Event.enc (x : Event) : Cs := [eq (.string x.fID), eq (.string x.fRoom), sl strK x.fParents, eq (.string x.fThread), eq (.string x.fUser), eq (.int .i64 x.fDoes)]
abbrev Event.K : Kd Event := ⟨6, default, Event.enc, fun _ => rfl, fun _ => (ones_cons (one_eq rfl) (ones_cons (one_eq rfl) (ones_cons one_sl (ones_cons (one_eq rfl) (ones_cons (one_eq rfl) (ones_cons (one_eq rfl) ones_nil))))))⟩
structure DNode where
  fe : Event
  fdepth : Int
  fparent : Bool
  deriving DecidableEq, Inhabited
abbrev DNode.enc (x : DNode) : Cs := [eq (.string x.fe.fID), eq (.string x.fe.fRoom), sl strK x.fe.fParents, eq (.string x.fe.fThread), eq (.string x.fe.fUser), eq (.int .i64 x.fe.fDoes), eq (.int .i64 x.fdepth), eq (.bool x.fparent)]
abbrev DNode.K : Kd DNode := ⟨8, default, DNode.enc, fun _ => rfl, fun _ => (ones_cons (one_eq rfl) (ones_cons (one_eq rfl) (ones_cons one_sl (ones_cons (one_eq rfl) (ones_cons (one_eq rfl) (ones_cons (one_eq rfl) (ones_cons (one_eq rfl) (ones_cons (one_eq rfl) ones_nil))))))))⟩
structure DDag where
  froom : ByteArray
  fnodes : List (ByteArray × DNode)
  deriving DecidableEq, Inhabited
structure VView where
  fdags : List (ByteArray × DDag)
  deriving DecidableEq, Inhabited
structure RDag where
  fRoom : ByteArray
  fL : List Event
  deriving DecidableEq, Inhabited
abbrev RDag.enc (x : RDag) : Cs := [eq (.string x.fRoom), sl Event.K x.fL]
abbrev RDag.K : Kd RDag := ⟨2, default, RDag.enc, fun _ => rfl, fun _ => (ones_cons (one_eq rfl) (ones_cons one_sl ones_nil))⟩
structure GMade where
  fUser : Int
  fDoes : Int
  fParents : List Int
  fThread : Int
  deriving DecidableEq, Inhabited
abbrev GMade.enc (x : GMade) : Cs := [eq (.int .i64 x.fUser), eq (.int .i64 x.fDoes), sl (intK .i64) x.fParents, eq (.int .i64 x.fThread)]
abbrev GMade.K : Kd GMade := ⟨4, default, GMade.enc, fun _ => rfl, fun _ => (ones_cons (one_eq rfl) (ones_cons (one_eq rfl) (ones_cons one_sl (ones_cons (one_eq rfl) ones_nil))))⟩
structure RView where
  fD : List RDag
  deriving DecidableEq, Inhabited
abbrev RView.enc (x : RView) : Cs := [sl RDag.K x.fD]
abbrev RView.K : Kd RView := ⟨1, default, RView.enc, fun _ => rfl, fun _ => (ones_cons one_sl ones_nil)⟩
structure Pos where
  fDepth : Int
  fID : ByteArray
  deriving DecidableEq, Inhabited
abbrev Pos.enc (x : Pos) : Cs := [eq (.int .i64 x.fDepth), eq (.string x.fID)]
abbrev Pos.K : Kd Pos := ⟨2, default, Pos.enc, fun _ => rfl, fun _ => (ones_cons (one_eq rfl) (ones_cons (one_eq rfl) ones_nil))⟩
theorem eqt61 (x y : Pos) {d : Nat} {w : World} : (Op.equalIn (d + 2) 61 (.agg [.int .i64 x.fDepth, .string x.fID].toArray) (.agg [.int .i64 y.fDepth, .string y.fID].toArray)).run Tryz.prog w = .ok (decide (x = y)) w := by
  have e : decide (x = y) = ((decide (x.fDepth = y.fDepth) && (decide (x.fID = y.fID) && true))) := by cases x; cases y; rw [Bool.eq_iff_iff]; simp
  rw [e]
  exact eq_struct Tryz.underlying61 st61 (eqF_cons (by decide) (run_part1 Tryz.underlying3 rfl rfl) (run_part1 Tryz.underlying3 rfl rfl) (eq_int Tryz.underlying3) (eqF_cons (by decide) (run_part1 Tryz.underlying9 rfl rfl) (run_part1 Tryz.underlying9 rfl rfl) (eq_str Tryz.underlying9) eqF_nil))
def DNode.O (p : OV) (m : DNode) : As := exA (γ := Nat) (fun g => p.1 = .pointer (some ⟨g, 0, none⟩)) (fun g => [blk g 105 [eq (.string m.fe.fID), eq (.string m.fe.fRoom), sl strK m.fe.fParents, eq (.string m.fe.fThread), eq (.string m.fe.fUser), eq (.int .i64 m.fe.fDoes), eq (.int .i64 m.fdepth), eq (.bool m.fparent)]])
theorem DNode.nn {p : OV} {m : DNode} : NN (DNode.O p m) p.1 := by unfold DNode.O; exact nn_ex (γ := Nat) (b := fun g => g)
theorem DNode.opn {l : List As} {p : OV} {m : DNode} (j : Nat) (hj : l[j]? = some (DNode.O p m)) : ∀ R w, St R l w → ∃ g : Nat, p.1 = .pointer (some ⟨g, 0, none⟩) ∧ St R ([blk g 105 [eq (.string m.fe.fID), eq (.string m.fe.fRoom), sl strK m.fe.fParents, eq (.string m.fe.fThread), eq (.string m.fe.fUser), eq (.int .i64 m.fe.fDoes), eq (.int .i64 m.fdepth), eq (.bool m.fparent)]] ++ l.eraseIdx j) w := st_open j hj
theorem DNode.shut {l r : List As} {p : OV} {m : DNode} (g : Nat) (hg : p.1 = .pointer (some ⟨g, 0, none⟩)) (hp : l.Perm ([blk g 105 [eq (.string m.fe.fID), eq (.string m.fe.fRoom), sl strK m.fe.fParents, eq (.string m.fe.fThread), eq (.string m.fe.fUser), eq (.int .i64 m.fe.fDoes), eq (.int .i64 m.fdepth), eq (.bool m.fparent)]] ++ r)) : ∀ R w, St R l w → ∃ _ : Unit, True ∧ St R (DNode.O p m :: r) w := st_shut _ _ g hg hp
def DDag.O (p : OV) (m : DDag) : As := exA (γ := Nat × OV) (fun g => p.1 = .pointer (some ⟨g.1, 0, none⟩)) (fun g => [blk g.1 102 [eq (.string m.froom), eq g.2.1], mpo Value.string DNode.O g.2.1 m.fnodes])
theorem DDag.nn {p : OV} {m : DDag} : NN (DDag.O p m) p.1 := by unfold DDag.O; exact nn_ex (γ := Nat × OV) (b := fun g => g.1)
theorem DDag.opn {l : List As} {p : OV} {m : DDag} (j : Nat) (hj : l[j]? = some (DDag.O p m)) : ∀ R w, St R l w → ∃ g : Nat × OV, p.1 = .pointer (some ⟨g.1, 0, none⟩) ∧ St R ([blk g.1 102 [eq (.string m.froom), eq g.2.1], mpo Value.string DNode.O g.2.1 m.fnodes] ++ l.eraseIdx j) w := st_open j hj
theorem DDag.shut {l r : List As} {p : OV} {m : DDag} (g : Nat × OV) (hg : p.1 = .pointer (some ⟨g.1, 0, none⟩)) (hp : l.Perm ([blk g.1 102 [eq (.string m.froom), eq g.2.1], mpo Value.string DNode.O g.2.1 m.fnodes] ++ r)) : ∀ R w, St R l w → ∃ _ : Unit, True ∧ St R (DDag.O p m :: r) w := st_shut _ _ g hg hp
def VView.O (p : OV) (m : VView) : As := exA (γ := Nat × OV) (fun g => p.1 = .pointer (some ⟨g.1, 0, none⟩)) (fun g => [blk g.1 80 [eq g.2.1], mpo Value.string DDag.O g.2.1 m.fdags])
theorem VView.nn {p : OV} {m : VView} : NN (VView.O p m) p.1 := by unfold VView.O; exact nn_ex (γ := Nat × OV) (b := fun g => g.1)
theorem VView.opn {l : List As} {p : OV} {m : VView} (j : Nat) (hj : l[j]? = some (VView.O p m)) : ∀ R w, St R l w → ∃ g : Nat × OV, p.1 = .pointer (some ⟨g.1, 0, none⟩) ∧ St R ([blk g.1 80 [eq g.2.1], mpo Value.string DDag.O g.2.1 m.fdags] ++ l.eraseIdx j) w := st_open j hj
theorem VView.shut {l r : List As} {p : OV} {m : VView} (g : Nat × OV) (hg : p.1 = .pointer (some ⟨g.1, 0, none⟩)) (hp : l.Perm ([blk g.1 80 [eq g.2.1], mpo Value.string DDag.O g.2.1 m.fdags] ++ r)) : ∀ R w, St R l w → ∃ _ : Unit, True ∧ St R (VView.O p m :: r) w := st_shut _ _ g hg hp
def fqQ_string_bool (g : ByteArray → Option Bool) : List VP → VP → Prop := fun vs ret => ∃ a0 r, g a0 = some r ∧ vs = [eq (.string a0)] ∧ ret = eq (.bool r)
def fq_string_bool (g : ByteArray → Option Bool) : VP := fnq Tryz.prog (fqQ_string_bool g)
def fx_string_bool (X : As) (g : ByteArray → Option Bool) : VP := fnx Tryz.prog X (fqQ_string_bool g)
def fK_string_bool : Kd (ByteArray → Option Bool) := ⟨1, fun _ => none, fun g => [fq_string_bool g], fun _ => rfl, fun _ p h R v hv => by simp at h; subst h; exact one_fnq R v hv⟩
def fqQ_uint8_bool (g : Int → Option Bool) : List VP → VP → Prop := fun vs ret => ∃ a0 r, g a0 = some r ∧ vs = [eq (.int .u8 a0)] ∧ ret = eq (.bool r)
def fq_uint8_bool (g : Int → Option Bool) : VP := fnq Tryz.prog (fqQ_uint8_bool g)
def fx_uint8_bool (X : As) (g : Int → Option Bool) : VP := fnx Tryz.prog X (fqQ_uint8_bool g)
def fK_uint8_bool : Kd (Int → Option Bool) := ⟨1, fun _ => none, fun g => [fq_uint8_bool g], fun _ => rfl, fun _ p h R v hv => by simp at h; subst h; exact one_fnq R v hv⟩
/-! concourse/dag.New: function 84 -/
def dag_New.f (a0 : ByteArray) : Option (DDag) := some (⟨a0, ([] : List (ByteArray × DNode))⟩ : DDag)
/-! (*concourse/view.View).room -/
def view_View_room.f (a0 : VView) (a1 : ByteArray) : Option DDag := cond (mget a0.fdags a1).isSome (some ((mget a0.fdags a1).getD default)) (dag_New.f a1)
/-! slices.IndexFunc[[]string,string]: function 96 -/
def slices_IndexFunc_string_x.l0 (k : Nat) (a0 : List ByteArray) (a1 : (ByteArray → Option Bool)) : Nat → Int → Option ((Int × Bool) ⊕ (Int))
  | 0, _ => none
  | j10 + 1, x4 => cond (decide (x4 < (a0.length : Int))) (grd ((0 : Int) ≤ x4 ∧ x4 < (a0.length : Int)) ((a1 (strK.at a0 x4)).bind fun t7 => cond t7 (some (.inr x4)) (slices_IndexFunc_string_x.l0 k a0 a1 j10 (w64 (x4 + 1))))) (some (.inl (x4, decide (x4 < (a0.length : Int)))))
def slices_IndexFunc_string_x.f (k : Nat) (a0 : List ByteArray) (a1 : (ByteArray → Option Bool)) : Option (Int) := (slices_IndexFunc_string_x.l0 k a0 a1 k 0).bind (fall fun (p3 : Int × Bool) => some (-1))
/-! slices.IndexFunc[[]string,string]: function 96 -/
def slices_IndexFunc_string_xw.l0 (k : Nat) (a0 : List ByteArray) (a1 : (ByteArray → Option Bool)) : Nat → Int → Option ((Int × Bool) ⊕ (Int))
  | 0, _ => none
  | j20 + 1, x13 => cond (decide (x13 < (a0.length : Int))) (grd ((0 : Int) ≤ x13 ∧ x13 < (a0.length : Int)) ((a1 (a0.getD x13.toNat default)).bind fun t17 => cond t17 (some (.inr x13)) (slices_IndexFunc_string_xw.l0 k a0 a1 j20 (w64 (x13 + 1))))) (some (.inl (x13, decide (x13 < (a0.length : Int)))))
def slices_IndexFunc_string_xw.f (k : Nat) (a0 : List ByteArray) (a1 : (ByteArray → Option Bool)) : Option (Int) := (slices_IndexFunc_string_xw.l0 k a0 a1 k 0).bind (fall fun (p12 : Int × Bool) => some (-1))
/-! slices.ContainsFunc[[]string,string]: function 62 -/
def slices_ContainsFunc_string_x.f (k : Nat) (a0 : List ByteArray) (a1 : (ByteArray → Option Bool)) : Option (Bool) := (slices_IndexFunc_string_x.f k a0 a1).bind fun t22 => some (decide (0 ≤ t22))
/-! slices.ContainsFunc[[]string,string]: function 62 -/
def slices_ContainsFunc_string_xw.f (k : Nat) (a0 : List ByteArray) (a1 : (ByteArray → Option Bool)) : Option (Bool) := (slices_IndexFunc_string_xw.f k a0 a1).bind fun t24 => some (decide (0 ≤ t24))
/-! internal/stringslite.HasPrefix: function 154 -/
def stringslite_HasPrefix.f (a0 : ByteArray) (a1 : ByteArray) : Option (Bool) := cond (decide ((a1.size : Int) ≤ (a0.size : Int))) (grd ((0 : Int) ≤ (a1.size : Int) ∧ 0 ≤ (a1.size : Int).toNat ∧ (a1.size : Int).toNat ≤ a0.size) (some (decide ((a0.extract 0 ((a1.size : Int).toNat)) = a1)))) (some false)
/-! internal/stringslite.CutPrefix: function 140 -/
def stringslite_CutPrefix.f (a0 : ByteArray) (a1 : ByteArray) : Option (ByteArray × Bool) := (stringslite_HasPrefix.f a0 a1).bind fun t28 => cond (!t28) (some (a0, false)) (grd ((0 : Int) ≤ (a1.size : Int) ∧ (a1.size : Int).toNat ≤ a0.size ∧ a0.size ≤ a0.size) (some (a0.extract (a1.size : Int).toNat a0.size, true)))
/-! strings.CutPrefix: function 126 -/
def strings_CutPrefix.f (a0 : ByteArray) (a1 : ByteArray) : Option (ByteArray × Bool) := (stringslite_CutPrefix.f a0 a1).bind fun t32 => some (t32.1, t32.2)
/-! concourse/name.small: function 156 -/
def name_small.f (a0 : Int) : Option (Bool) := cond (decide (97 ≤ a0)) (cond (decide (a0 ≤ 122)) (some true) (cond (decide (48 ≤ a0)) (some (decide (a0 ≤ 57))) (some false))) (cond (decide (48 ≤ a0)) (some (decide (a0 ≤ 57))) (some false))
/-! internal/stringslite.IndexByte: function 162 -/
def stringslite_IndexByte.f (a0 : ByteArray) (a1 : Int) : Option (Int) := some (idxB a0 a1)
/-! strings.IndexByte: function 157 -/
def strings_IndexByte.f (a0 : ByteArray) (a1 : Int) : Option (Int) := (stringslite_IndexByte.f a0 a1).bind fun t38 => some t38
/-! concourse/name.among$1: function 155 -/
def name_among_1.f (a0 : Int) (c0 : ByteArray) : Option (Bool) := (name_small.f a0).bind fun t40 => cond t40 (some true) ((strings_IndexByte.f c0 a0).bind fun t43 => some (decide (0 ≤ t43)))
/-! concourse/name.among: function 141 -/
def name_among.f (a0 : ByteArray) : Option ((Int → Option Bool)) := some (fun a0_ => name_among_1.f a0_ a0)
/-! concourse/name.may: function 127 -/
def name_may.l0 (k : Nat) (a0 : ByteArray) (a1 : Int) (t46 : (Int → Option Bool)) (t48 : (Int → Option Bool)) (t50 : (Int → Option Bool)) : Nat → Int → Option ((Int × Bool) ⊕ (Bool))
  | 0, _ => none
  | j61 + 1, x55 => cond (decide (x55 < (a0.size : Int))) (grd ((0 : Int) ≤ x55 ∧ x55 < (a0.size : Int)) (((fK_uint8_bool.at ([t46, t48, t50] : List (Int → Option Bool)) a1) (bt a0 x55)).bind fun t58 => cond (!t58) (some (.inr false)) (name_may.l0 k a0 a1 t46 t48 t50 j61 (w64 (x55 + 1))))) (some (.inl (x55, decide (x55 < (a0.size : Int)))))
def name_may.f (k : Nat) (a0 : ByteArray) (a1 : Int) : Option (Bool) := (name_among.f (⟨#[46, 45, 95]⟩ : ByteArray)).bind fun t46 => (name_among.f (⟨#[46, 45]⟩ : ByteArray)).bind fun t48 => (name_among.f (⟨#[45, 95, 65, 66, 67, 68, 69, 70, 71, 72, 73, 74, 75, 76, 77, 78, 79, 80, 81, 82, 83, 84, 85, 86, 87, 88, 89, 90]⟩ : ByteArray)).bind fun t50 => grd ((0 : Int) ≤ a1 ∧ a1 < (3 : Int)) ((name_may.l0 k a0 a1 t46 t48 t50 k 0).bind (fall fun (p53 : Int × Bool) => cond (!decide (a0 = (⟨#[]⟩ : ByteArray))) (some (decide ((a0.size : Int) ≤ 16))) (some false)))
/-! concourse/name.Event: function 104 -/
def name_Event.f (k : Nat) (a0 : ByteArray) : Option (Bool) := (strings_CutPrefix.f a0 (⟨#[36]⟩ : ByteArray)).bind fun t63 => cond t63.2 ((name_may.f k t63.1 2).bind fun t66 => some t66) (some false)
/-! internal/bytealg.Cutover: function 165 -/
def bytealg_Cutover.f (a0 : Int) : Option (Int) := some (w64 ((w64 (a0 + 16)).tdiv 8))
/-! internal/stringslite.Index: function 161 -/
def stringslite_Index.f (a0 : ByteArray) (a1 : ByteArray) : Option (Int) := cond ((a1.size : Int) == 0) (some 0) (cond (decide (a1 = a0)) (some 0) (cond ((a1.size : Int) == 1) (grd ((0 : Int) ≤ 0 ∧ 0 < (a1.size : Int)) ((stringslite_IndexByte.f a0 (bt a1 0)).bind fun t75 => some t75)) (cond (decide ((a0.size : Int) ≤ (a1.size : Int))) (some (-1)) (none))))
/-! internal/stringslite.Cut: function 153 -/
def stringslite_Cut.f (a0 : ByteArray) (a1 : ByteArray) : Option (ByteArray × ByteArray × Bool) := (stringslite_Index.f a0 a1).bind fun t78 => cond (decide (0 ≤ t78)) (grd ((0 : Int) ≤ t78 ∧ 0 ≤ t78.toNat ∧ t78.toNat ≤ a0.size) (grd ((0 : Int) ≤ (w64 (t78 + (a1.size : Int))) ∧ (w64 (t78 + (a1.size : Int))).toNat ≤ a0.size ∧ a0.size ≤ a0.size) (some (a0.extract 0 t78.toNat, a0.extract (w64 (t78 + (a1.size : Int))).toNat a0.size, true)))) (some (a0, (⟨#[]⟩ : ByteArray), false))
/-! strings.Cut: function 139 -/
def strings_Cut.f (a0 : ByteArray) (a1 : ByteArray) : Option (ByteArray × ByteArray × Bool) := (stringslite_Cut.f a0 a1).bind fun t83 => some (t83.1, t83.2.1, t83.2.2)
/-! concourse/name.Server: function 142 -/
def name_Server.f (k : Nat) (a0 : ByteArray) : Option (Bool) := (name_may.f k a0 1).bind fun t85 => cond t85 (grd ((0 : Int) ≤ 0 ∧ 0 < (a0.size : Int)) ((name_small.f (bt a0 0)).bind fun t89 => cond t89 (grd ((0 : Int) ≤ (w64 ((a0.size : Int) - 1)) ∧ (w64 ((a0.size : Int) - 1)) < (a0.size : Int)) ((name_small.f (bt a0 (w64 ((a0.size : Int) - 1)))).bind fun t93 => some t93)) (some false))) (some false)
/-! concourse/name.split: function 128 -/
def name_split.f (k : Nat) (a0 : ByteArray) (a1 : ByteArray) : Option (ByteArray × ByteArray × Bool) := (strings_CutPrefix.f a0 a1).bind fun t95 => (strings_Cut.f t95.1 (⟨#[58]⟩ : ByteArray)).bind fun t97 => cond t95.2 (cond t97.2.2 ((name_may.f k t97.1 0).bind fun t101 => cond t101 ((name_Server.f k t97.2.1).bind fun t104 => some (t97.1, t97.2.1, t104)) (some (t97.1, t97.2.1, false))) (some (t97.1, t97.2.1, false))) (some (t97.1, t97.2.1, false))
/-! concourse/name.Room: function 105 -/
def name_Room.f (k : Nat) (a0 : ByteArray) : Option (Bool) := (name_split.f k a0 (⟨#[33]⟩ : ByteArray)).bind fun t106 => some t106.2.2
/-! concourse/name.User: function 106 -/
def name_User.f (k : Nat) (a0 : ByteArray) : Option (Bool) := (name_split.f k a0 (⟨#[64]⟩ : ByteArray)).bind fun t108 => some t108.2.2
/-! concourse/dag.May: function 85 -/
def dag_May.l0 (k : Nat) (a0 : Event) : Nat → Int → Option (Bool × Int × Bool)
  | 0, _ => none
  | j150 + 1, x137 => cond (decide (x137 < (a0.fParents.length : Int))) (grd ((0 : Int) ≤ x137 ∧ x137 < (a0.fParents.length : Int)) ((name_Event.f k (strK.at a0.fParents x137)).bind fun t140 => cond (!t140) (some (false, x137, decide (x137 < (a0.fParents.length : Int)))) (cond (decide ((strK.at a0.fParents x137) = a0.fID)) (some (false, x137, decide (x137 < (a0.fParents.length : Int)))) (cond (decide (0 < x137)) (grd ((0 : Int) ≤ (w64 (x137 - 1)) ∧ (w64 (x137 - 1)) < (a0.fParents.length : Int)) (cond (!sLt (strK.at a0.fParents (w64 (x137 - 1))) (strK.at a0.fParents x137)) (some (false, x137, decide (x137 < (a0.fParents.length : Int)))) (dag_May.l0 k a0 j150 (w64 (x137 + 1))))) (dag_May.l0 k a0 j150 (w64 (x137 + 1))))))) (some (true, x137, decide (x137 < (a0.fParents.length : Int))))
def dag_May.l1 (k : Nat) (a0 : Event) : Nat → Int → Option (Bool × Int × Bool)
  | 0, _ => none
  | j167 + 1, x154 => cond (decide (x154 < (a0.fParents.length : Int))) (grd ((0 : Int) ≤ x154 ∧ x154 < (a0.fParents.length : Int)) ((name_Event.f k (strK.at a0.fParents x154)).bind fun t157 => cond (!t157) (some (false, x154, decide (x154 < (a0.fParents.length : Int)))) (cond (decide ((strK.at a0.fParents x154) = a0.fID)) (some (false, x154, decide (x154 < (a0.fParents.length : Int)))) (cond (decide (0 < x154)) (grd ((0 : Int) ≤ (w64 (x154 - 1)) ∧ (w64 (x154 - 1)) < (a0.fParents.length : Int)) (cond (!sLt (strK.at a0.fParents (w64 (x154 - 1))) (strK.at a0.fParents x154)) (some (false, x154, decide (x154 < (a0.fParents.length : Int)))) (dag_May.l1 k a0 j167 (w64 (x154 + 1))))) (dag_May.l1 k a0 j167 (w64 (x154 + 1))))))) (some (true, x154, decide (x154 < (a0.fParents.length : Int))))
def dag_May.f (k : Nat) (a0 : Event) : Option (Bool) := (name_Event.f k a0.fID).bind fun t111 => cond (!t111) (some false) ((name_Room.f k a0.fRoom).bind fun t115 => cond (!t115) (some false) ((name_User.f k a0.fUser).bind fun t119 => cond (!t119) (some false) (cond (decide (4 < (a0.fParents.length : Int))) (some false) (cond (decide (a0.fDoes < 0)) (some false) (cond (decide (2 < a0.fDoes)) (some false) (cond (!decide (a0.fThread = (⟨#[]⟩ : ByteArray))) ((name_Event.f k a0.fThread).bind fun t129 => cond (!t129) (some false) (cond (decide (a0.fThread = a0.fID)) (some false) (cond (a0.fDoes != 0) (some false) ((dag_May.l0 k a0 k 0).bind fun (p136 : Bool × Int × Bool) => some p136.1)))) ((dag_May.l1 k a0 k 0).bind fun (p153 : Bool × Int × Bool) => some p153.1)))))))
/-! (*concourse/dag.Dag).Has: function 86 -/
def dag_Dag_Has.f (a0 : DDag) (a1 : ByteArray) : Option (Bool) := some (!(mget a0.fnodes a1).isNone)
/-! (*concourse/dag.Dag).Add$1: function 87 -/
def dag_Dag_Add_1.f (a0 : ByteArray) (c0 : DDag) : Option (Bool) := (dag_Dag_Has.f c0 a0).bind fun t171 => some (!t171)
/-! slices.Clone[[]string,string] -/
def slices_Clone_string.f (xs : List ByteArray) : Option (List ByteArray) := grd (xs.length ≤ 9223372036854775807 ∧ xs.length * 16 ≤ 140737488355328) (some xs)
/-! concourse/dag.own: function 88 -/
def dag_own.f (a0 : Event) : Option (Event) := (slices_Clone_string.f a0.fParents).bind fun t175 => some (⟨a0.fID, a0.fRoom, t175, a0.fThread, a0.fUser, a0.fDoes⟩ : Event)
/-! (*concourse/dag.Dag).Add: function 53 -/
def dag_Dag_Add.l0 (k : Nat) (a1 : Event) : Nat → Int → Int → DDag → Option (Int × Bool × Int × DDag)
  | 0, _, _, _ => none
  | j215 + 1, x202, x203, x204 => cond (decide (x202 < (a1.fParents.length : Int))) (grd ((0 : Int) ≤ x202 ∧ x202 < (a1.fParents.length : Int)) (grd ((mget x204.fnodes (strK.at a1.fParents x202)).isSome = true) (dag_Dag_Add.l0 k a1 j215 (w64 (x202 + 1)) (max x203 (w64 ((((mget x204.fnodes (strK.at a1.fParents x202)).getD default).fdepth) + 1))) (⟨x204.froom, mput x204.fnodes (strK.at a1.fParents x202) (⟨((mget x204.fnodes (strK.at a1.fParents x202)).getD default).fe, ((mget x204.fnodes (strK.at a1.fParents x202)).getD default).fdepth, true⟩ : DNode)⟩ : DDag)))) (some (x202, decide (x202 < (a1.fParents.length : Int)), x203, x204))
def dag_Dag_Add.f (k : Nat) (a0 : DDag) (a1 : Event) : Option (Int × DDag) := (dag_May.f k a1).bind fun t182 => cond (!t182) (some (1, a0)) (cond (!decide (a1.fRoom = a0.froom)) (some (1, a0)) ((dag_Dag_Has.f a0 a1.fID).bind fun t187 => cond t187 (some (9, a0)) ((slices_ContainsFunc_string_x.f k a1.fParents (fun a0_ => dag_Dag_Add_1.f a0_ a0)).bind fun t190 => cond t190 (some (4, a0)) ((cond (!decide (a1.fThread = (⟨#[]⟩ : ByteArray))) (cond ((mget a0.fnodes a1.fThread).isNone) (some (.inr (4, a0))) (grd ((mget a0.fnodes a1.fThread).isSome = true) (cond (!decide (((((mget a0.fnodes a1.fThread).getD default).fe).fThread) = (⟨#[]⟩ : ByteArray))) (some (.inr (7, a0))) (cond (((((mget a0.fnodes a1.fThread).getD default).fe).fDoes) != 0) (some (.inr (7, a0))) (some (.inl ())))))) (some (.inl ()))).bind (fall fun (p193 : Unit) => (dag_own.f a1).bind fun t194 => (dag_Dag_Add.l0 k a1 k 0 0 a0).bind fun (p197 : Int × Bool × Int × DDag) => some (0, (⟨p197.2.2.2.froom, mput p197.2.2.2.fnodes a1.fID (⟨t194, p197.2.2.1, false⟩ : DNode)⟩ : DDag)))))))
/-! (*concourse/view.View).Add: function 13 -/
def view_View_Add.f (k : Nat) (a0 : VView) (a1 : Event) : Option (Int × VView) := (view_View_room.f a0 a1.fRoom).bind fun t230 => (dag_Dag_Add.f k t230 a1).bind fun t233 => cond (t233.1 != 0) (some (t233.1, (⟨mres a0.fdags a1.fRoom t233.2⟩ : VView))) (some (0, (⟨mput a0.fdags a1.fRoom t233.2⟩ : VView)))
/-! concourse/view.New: function 25 -/
def view_New.f : Option (VView) := some (⟨([] : List (ByteArray × DDag))⟩ : VView)
/-! concourse/concourseref01.Around: function 49 -/
def concourseref01_Around.f (a0 : Int) (a1 : Int) : Option (Int) := cond (decide (a0 < 0)) (grd (a1 ≠ 0) (some ((w64 (0 - (w64 (a0 + 1)))).tmod a1))) (grd (a1 ≠ 0) (some (a0.tmod a1)))
/-! concourse/concourseref01.RoomOf: function 11 -/
def concourseref01_RoomOf.f (a0 : Int) : Option (ByteArray) := (concourseref01_Around.f a0 2).bind fun t243 => grd ((0 : Int) ≤ t243 ∧ t243 < (([(⟨#[33, 114, 58, 115, 49]⟩ : ByteArray), (⟨#[33, 113, 58, 115, 50]⟩ : ByteArray)] : List ByteArray).length : Int)) (some (strK.at ([(⟨#[33, 114, 58, 115, 49]⟩ : ByteArray), (⟨#[33, 113, 58, 115, 50]⟩ : ByteArray)] : List ByteArray) t243))
/-! concourse/concourseref01.Decimal: function 68 -/
def concourseref01_Decimal.f : Nat → Int → Option (ByteArray)
  | 0, _ => none
  | k + 1, a0 => (cond (decide ((a0.tmod 10) < 0)) (some (w64 (0 - (a0.tmod 10)))) (some (a0.tmod 10))).bind fun (p246 : Int) => cond (decide ((-10) < a0)) (cond (decide (a0 < 10)) (cond (decide (a0 < 0)) (grd ((⟨#[45]⟩ : ByteArray).size + (ofNums ([IntKind.u8.wrap (w64 (48 + p246))] : List Int)).size ≤ 9223372036854775807) (some ((⟨#[45]⟩ : ByteArray) ++ (ofNums ([IntKind.u8.wrap (w64 (48 + p246))] : List Int))))) (some (ofNums ([IntKind.u8.wrap (w64 (48 + p246))] : List Int)))) ((concourseref01_Decimal.f k (w64 (a0.tdiv 10))).bind fun t251 => grd (t251.size + (ofNums ([IntKind.u8.wrap (w64 (48 + p246))] : List Int)).size ≤ 9223372036854775807) (some (t251 ++ (ofNums ([IntKind.u8.wrap (w64 (48 + p246))] : List Int)))))) ((concourseref01_Decimal.f k (w64 (a0.tdiv 10))).bind fun t255 => grd (t255.size + (ofNums ([IntKind.u8.wrap (w64 (48 + p246))] : List Int)).size ≤ 9223372036854775807) (some (t255 ++ (ofNums ([IntKind.u8.wrap (w64 (48 + p246))] : List Int)))))
/-! concourse/concourseref01.EventOf: function 29 -/
def concourseref01_EventOf.f (k : Nat) (a0 : Int) : Option (ByteArray) := (concourseref01_Around.f a0 9).bind fun t259 => (concourseref01_Decimal.f k t259).bind fun t261 => grd ((⟨#[36, 101]⟩ : ByteArray).size + t261.size ≤ 9223372036854775807) (some ((⟨#[36, 101]⟩ : ByteArray) ++ t261))
/-! concourse/concourseref01.ServerOf: function 39 -/
def concourseref01_ServerOf.f (a0 : Int) : Option (ByteArray) := (concourseref01_Around.f a0 3).bind fun t264 => grd ((0 : Int) ≤ t264 ∧ t264 < (([(⟨#[115, 49]⟩ : ByteArray), (⟨#[115, 50]⟩ : ByteArray), (⟨#[115, 51]⟩ : ByteArray)] : List ByteArray).length : Int)) (some (strK.at ([(⟨#[115, 49]⟩ : ByteArray), (⟨#[115, 50]⟩ : ByteArray), (⟨#[115, 51]⟩ : ByteArray)] : List ByteArray) t264))
/-! concourse/concourseref01.UserOf: function 36 -/
def concourseref01_UserOf.f (a0 : Int) : Option (ByteArray) := (concourseref01_Around.f a0 9).bind fun t267 => grd ((0 : Int) ≤ (w64 (t267.tdiv 3)) ∧ (w64 (t267.tdiv 3)) < (([(⟨#[64, 97, 58]⟩ : ByteArray), (⟨#[64, 98, 58]⟩ : ByteArray), (⟨#[64, 99, 58]⟩ : ByteArray)] : List ByteArray).length : Int)) ((concourseref01_ServerOf.f (t267.tmod 3)).bind fun t270 => grd ((strK.at ([(⟨#[64, 97, 58]⟩ : ByteArray), (⟨#[64, 98, 58]⟩ : ByteArray), (⟨#[64, 99, 58]⟩ : ByteArray)] : List ByteArray) (w64 (t267.tdiv 3))).size + t270.size ≤ 9223372036854775807) (some ((strK.at ([(⟨#[64, 97, 58]⟩ : ByteArray), (⟨#[64, 98, 58]⟩ : ByteArray), (⟨#[64, 99, 58]⟩ : ByteArray)] : List ByteArray) (w64 (t267.tdiv 3))) ++ t270)))
/-! concourse/concourseref07.At: function 69 -/
def concourseref07_At.l0 (k : Nat) (a0 : RDag) (a1 : ByteArray) : Nat → Int → Option ((Int × Bool) ⊕ (Int))
  | 0, _ => none
  | j279 + 1, x275 => cond (decide (x275 < (a0.fL.length : Int))) (grd ((0 : Int) ≤ x275 ∧ x275 < (a0.fL.length : Int)) (cond (decide (((Event.K.at a0.fL x275).fID) = a1)) (some (.inr x275)) (concourseref07_At.l0 k a0 a1 j279 (w64 (x275 + 1))))) (some (.inl (x275, decide (x275 < (a0.fL.length : Int)))))
def concourseref07_At.f (k : Nat) (a0 : RDag) (a1 : ByteArray) : Option (Int) := (concourseref07_At.l0 k a0 a1 k 0).bind (fall fun (p274 : Int × Bool) => some (-1))
/-! concourse/concourseref01.low: function 123 -/
def concourseref01_low.f (a0 : Int) : Option (Bool) := cond (decide (97 ≤ a0)) (cond (decide (a0 ≤ 122)) (some true) (cond (decide (48 ≤ a0)) (some (decide (a0 ≤ 57))) (some false))) (cond (decide (48 ≤ a0)) (some (decide (a0 ≤ 57))) (some false))
/-! concourse/concourseref01.Event: function 102 -/
def concourseref01_Event.l0 (k : Nat) (a0 : ByteArray) : Nat → Int → Option ((Int × Bool) ⊕ (Bool))
  | 0, _ => none
  | j316 + 1, x292 => cond (decide (x292 < (a0.size : Int))) (grd ((0 : Int) ≤ x292 ∧ x292 < (a0.size : Int)) ((concourseref01_low.f (bt a0 x292)).bind fun t295 => grd ((0 : Int) ≤ x292 ∧ x292 < (a0.size : Int)) (cond (decide (65 ≤ (bt a0 x292))) (grd ((0 : Int) ≤ x292 ∧ x292 < (a0.size : Int)) (cond (!t295) (cond (!(decide ((bt a0 x292) ≤ 90))) (grd ((0 : Int) ≤ x292 ∧ x292 < (a0.size : Int)) (cond ((bt a0 x292) != 45) (grd ((0 : Int) ≤ x292 ∧ x292 < (a0.size : Int)) (cond ((bt a0 x292) != 95) (some (.inr false)) (concourseref01_Event.l0 k a0 j316 (w64 (x292 + 1))))) (concourseref01_Event.l0 k a0 j316 (w64 (x292 + 1))))) (concourseref01_Event.l0 k a0 j316 (w64 (x292 + 1)))) (concourseref01_Event.l0 k a0 j316 (w64 (x292 + 1))))) (cond (!t295) (grd ((0 : Int) ≤ x292 ∧ x292 < (a0.size : Int)) (cond ((bt a0 x292) != 45) (grd ((0 : Int) ≤ x292 ∧ x292 < (a0.size : Int)) (cond ((bt a0 x292) != 95) (some (.inr false)) (concourseref01_Event.l0 k a0 j316 (w64 (x292 + 1))))) (concourseref01_Event.l0 k a0 j316 (w64 (x292 + 1))))) (concourseref01_Event.l0 k a0 j316 (w64 (x292 + 1))))))) (some (.inl (x292, decide (x292 < (a0.size : Int)))))
def concourseref01_Event.f (k : Nat) (a0 : ByteArray) : Option (Bool) := cond (decide ((a0.size : Int) < 2)) (some false) (cond (decide (17 < (a0.size : Int))) (some false) (grd ((0 : Int) ≤ 0 ∧ 0 < (a0.size : Int)) (cond ((bt a0 0) != 36) (some false) ((concourseref01_Event.l0 k a0 k 1).bind (fall fun (p291 : Int × Bool) => some true)))))
/-! concourse/concourseref01.colon: function 122 -/
def concourseref01_colon.l0 (k : Nat) (a0 : ByteArray) : Nat → Int → Option ((Int × Bool) ⊕ (Int))
  | 0, _ => none
  | j323 + 1, x319 => cond (decide (x319 < (a0.size : Int))) (grd ((0 : Int) ≤ x319 ∧ x319 < (a0.size : Int)) (cond ((bt a0 x319) == 58) (some (.inr x319)) (concourseref01_colon.l0 k a0 j323 (w64 (x319 + 1))))) (some (.inl (x319, decide (x319 < (a0.size : Int)))))
def concourseref01_colon.f (k : Nat) (a0 : ByteArray) : Option (Int) := (concourseref01_colon.l0 k a0 k 0).bind (fall fun (p318 : Int × Bool) => some (-1))
/-! concourse/concourseref01.Part: function 124 -/
def concourseref01_Part.l0 (k : Nat) (a0 : ByteArray) : Nat → Int → Option ((Int × Bool) ⊕ (Bool))
  | 0, _ => none
  | j342 + 1, x327 => cond (decide (x327 < (a0.size : Int))) (grd ((0 : Int) ≤ x327 ∧ x327 < (a0.size : Int)) ((concourseref01_low.f (bt a0 x327)).bind fun t330 => cond (!t330) (grd ((0 : Int) ≤ x327 ∧ x327 < (a0.size : Int)) (cond ((bt a0 x327) != 46) (grd ((0 : Int) ≤ x327 ∧ x327 < (a0.size : Int)) (cond ((bt a0 x327) != 45) (grd ((0 : Int) ≤ x327 ∧ x327 < (a0.size : Int)) (cond ((bt a0 x327) != 95) (some (.inr false)) (concourseref01_Part.l0 k a0 j342 (w64 (x327 + 1))))) (concourseref01_Part.l0 k a0 j342 (w64 (x327 + 1))))) (concourseref01_Part.l0 k a0 j342 (w64 (x327 + 1))))) (concourseref01_Part.l0 k a0 j342 (w64 (x327 + 1))))) (some (.inl (x327, decide (x327 < (a0.size : Int)))))
def concourseref01_Part.f (k : Nat) (a0 : ByteArray) : Option (Bool) := (concourseref01_Part.l0 k a0 k 0).bind (fall fun (p325 : Int × Bool) => cond (decide (0 < (a0.size : Int))) (some (decide ((a0.size : Int) < 17))) (some false))
/-! concourse/concourseref01.Server: function 125 -/
def concourseref01_Server.l0 (k : Nat) (a0 : ByteArray) : Nat → Int → Option ((Int × Bool) ⊕ (Bool))
  | 0, _ => none
  | j368 + 1, x346 => cond (decide (x346 < (a0.size : Int))) (grd ((0 : Int) ≤ x346 ∧ x346 < (a0.size : Int)) ((concourseref01_low.f (bt a0 x346)).bind fun t349 => cond (decide (0 < x346)) (cond (decide (x346 < (w64 ((a0.size : Int) - 1)))) (grd ((0 : Int) ≤ x346 ∧ x346 < (a0.size : Int)) (cond ((bt a0 x346) == 46) (cond (!t349) (concourseref01_Server.l0 k a0 j368 (w64 (x346 + 1))) (concourseref01_Server.l0 k a0 j368 (w64 (x346 + 1)))) (grd ((0 : Int) ≤ x346 ∧ x346 < (a0.size : Int)) (cond (!t349) (cond (!((bt a0 x346) == 45)) (some (.inr false)) (concourseref01_Server.l0 k a0 j368 (w64 (x346 + 1)))) (concourseref01_Server.l0 k a0 j368 (w64 (x346 + 1))))))) (cond (!t349) (some (.inr false)) (concourseref01_Server.l0 k a0 j368 (w64 (x346 + 1))))) (cond (!t349) (some (.inr false)) (concourseref01_Server.l0 k a0 j368 (w64 (x346 + 1)))))) (some (.inl (x346, decide (x346 < (a0.size : Int)))))
def concourseref01_Server.f (k : Nat) (a0 : ByteArray) : Option (Bool) := (concourseref01_Server.l0 k a0 k 0).bind (fall fun (p344 : Int × Bool) => cond (decide (0 < (a0.size : Int))) (some (decide ((a0.size : Int) < 17))) (some false))
/-! concourse/concourseref01.Named: function 103 -/
def concourseref01_Named.f (k : Nat) (a0 : ByteArray) (a1 : Int) : Option (Bool) := (concourseref01_colon.f k a0).bind fun t370 => cond (decide (t370 < 1)) (some false) (grd ((0 : Int) ≤ 0 ∧ 0 < (a0.size : Int)) (cond ((bt a0 0) != a1) (some false) (grd ((0 : Int) ≤ 1 ∧ (0 : Int) ≤ t370 ∧ (1 : Int).toNat ≤ t370.toNat ∧ t370.toNat ≤ a0.size) ((concourseref01_Part.f k (a0.extract (1 : Int).toNat t370.toNat)).bind fun t377 => grd ((0 : Int) ≤ (w64 (t370 + 1)) ∧ (w64 (t370 + 1)).toNat ≤ a0.size ∧ a0.size ≤ a0.size) ((concourseref01_Server.f k (a0.extract (w64 (t370 + 1)).toNat a0.size)).bind fun t380 => cond t377 (some t380) (some false))))))
/-! concourse/concourseref07.May: function 83 -/
def concourseref07_May.l0 (k : Nat) (a0 : Event) : Nat → Int → Option ((Int × Bool) ⊕ (Bool))
  | 0, _ => none
  | j417 + 1, x403 => cond (decide (x403 < (a0.fParents.length : Int))) (grd ((0 : Int) ≤ x403 ∧ x403 < (a0.fParents.length : Int)) ((concourseref01_Event.f k (strK.at a0.fParents x403)).bind fun t406 => cond (!t406) (some (.inr false)) (grd ((0 : Int) ≤ x403 ∧ x403 < (a0.fParents.length : Int)) (cond (decide ((strK.at a0.fParents x403) = a0.fID)) (some (.inr false)) (cond (decide (0 < x403)) (grd ((0 : Int) ≤ (max (w64 (x403 - 1)) 0) ∧ (max (w64 (x403 - 1)) 0) < (a0.fParents.length : Int)) (grd ((0 : Int) ≤ x403 ∧ x403 < (a0.fParents.length : Int)) (cond (!sLt (strK.at a0.fParents (max (w64 (x403 - 1)) 0)) (strK.at a0.fParents x403)) (some (.inr false)) (concourseref07_May.l0 k a0 j417 (w64 (x403 + 1)))))) (concourseref07_May.l0 k a0 j417 (w64 (x403 + 1)))))))) (some (.inl (x403, decide (x403 < (a0.fParents.length : Int)))))
def concourseref07_May.f (k : Nat) (a0 : Event) : Option (Bool) := (concourseref01_Event.f k a0.fID).bind fun t384 => (concourseref01_Named.f k a0.fRoom 33).bind fun t386 => (concourseref01_Named.f k a0.fUser 64).bind fun t388 => cond (!t384) (some false) (cond (!t386) (some false) (cond (!t388) (some false) (cond (decide (4 < (a0.fParents.length : Int))) (some false) (cond (decide (a0.fDoes < 0)) (some false) (cond (decide (2 < a0.fDoes)) (some false) ((cond (!decide (a0.fThread = (⟨#[]⟩ : ByteArray))) ((concourseref01_Event.f k a0.fThread).bind fun t420 => cond (!t420) (some (.inr false)) (cond (decide (a0.fThread = a0.fID)) (some (.inr false)) (cond (a0.fDoes != 0) (some (.inr false)) (some (.inl ()))))) (some (.inl ()))).bind (fall fun (p401 : Unit) => (concourseref07_May.l0 k a0 k 0).bind (fall fun (p402 : Int × Bool) => some true))))))))
/-! concourse/concourseref07.Add: function 51 -/
def concourseref07_Add.l0 (k : Nat) (a0 : RDag) (a1 : Event) : Nat → Int → Option ((Int × Bool) ⊕ (RDag × Int))
  | 0, _ => none
  | j459 + 1, x453 => cond (decide (x453 < (a1.fParents.length : Int))) (grd ((0 : Int) ≤ x453 ∧ x453 < (a1.fParents.length : Int)) ((concourseref07_At.f k a0 (strK.at a1.fParents x453)).bind fun t456 => cond (decide (t456 < 0)) (some (.inr (a0, 4))) (concourseref07_Add.l0 k a0 a1 j459 (w64 (x453 + 1))))) (some (.inl (x453, decide (x453 < (a1.fParents.length : Int)))))
def concourseref07_Add.f (k : Nat) (a0 : RDag) (a1 : Event) : Option (RDag × Int) := (concourseref07_May.f k a1).bind fun t430 => cond (!t430) (some (a0, 1)) (cond (!decide (a1.fRoom = a0.fRoom)) (some (a0, 1)) ((concourseref07_At.f k a0 a1.fID).bind fun t435 => cond (decide (0 ≤ t435)) (some (a0, 9)) ((concourseref07_Add.l0 k a0 a1 k 0).bind (fall fun (p438 : Int × Bool) => (cond (!decide (a1.fThread = (⟨#[]⟩ : ByteArray))) ((concourseref07_At.f k a0 a1.fThread).bind fun t445 => cond (decide (t445 < 0)) (some (.inr (a0, 4))) (grd ((0 : Int) ≤ t445 ∧ t445 < (a0.fL.length : Int)) (cond (!decide (((Event.K.at a0.fL t445).fThread) = (⟨#[]⟩ : ByteArray))) (some (.inr (a0, 7))) (grd ((0 : Int) ≤ t445 ∧ t445 < (a0.fL.length : Int)) (cond (((Event.K.at a0.fL t445).fDoes) != 0) (some (.inr (a0, 7))) (some (.inl ()))))))) (some (.inl ()))).bind (fall fun (p439 : Unit) => grd (([] : List Event).length + a0.fL.length ≤ 9223372036854775807 ∧ (([] : List Event).length + a0.fL.length) * 96 ≤ 140737488355328) (grd ((([] : List Event) ++ a0.fL).length + ([a1] : List Event).length ≤ 9223372036854775807 ∧ ((([] : List Event) ++ a0.fL).length + ([a1] : List Event).length) * 96 ≤ 140737488355328) (some ((⟨a0.fRoom, (([] : List Event) ++ a0.fL) ++ ([a1] : List Event)⟩ : RDag), 0))))))))
/-! concourse/concourseref07.Made: function 66 -/
def concourseref07_Made.l1 (k : Nat) (x464 : Int) (p483 : Int × Bool × (List Bool)) : Nat → Int → List ByteArray → Option (Int × Bool × (List ByteArray))
  | 0, _, _ => none
  | j530 + 1, x519, x520 => cond (decide (x519 < x464)) (grd ((0 : Int) ≤ x519 ∧ x519 < (p483.2.2.length : Int)) (cond (p483.2.2.getD x519.toNat default) ((concourseref01_EventOf.f k x519).bind fun t526 => grd (x520.length + ([t526] : List ByteArray).length ≤ 9223372036854775807 ∧ (x520.length + ([t526] : List ByteArray).length) * 16 ≤ 140737488355328) (concourseref07_Made.l1 k x464 p483 j530 (w64 (x519 + 1)) (x520 ++ ([t526] : List ByteArray)))) (concourseref07_Made.l1 k x464 p483 j530 (w64 (x519 + 1)) x520))) (some (x519, decide (x519 < x464), x520))
def concourseref07_Made.l2 (k : Nat) (a1 : List GMade) (x464 : Int) : Nat → Int → List Bool → Option (Int × Bool × (List Bool))
  | 0, _, _ => none
  | j547 + 1, x533, x534 => grd ((0 : Int) ≤ x464 ∧ x464 < (a1.length : Int)) (cond (decide (x533 < (((GMade.K.at a1 x464).fParents).length : Int))) (cond (decide (x533 < 3)) (cond (decide (0 < x464)) (grd ((0 : Int) ≤ x464 ∧ x464 < (a1.length : Int)) (grd ((0 : Int) ≤ x533 ∧ x533 < (((GMade.K.at a1 x464).fParents).length : Int)) ((concourseref01_Around.f ((intK .i64).at ((GMade.K.at a1 x464).fParents) x533) x464).bind fun t541 => grd ((0 : Int) ≤ t541 ∧ t541 < (x534.length : Int)) (concourseref07_Made.l2 k a1 x464 j547 (w64 (x533 + 1)) (x534.set t541.toNat true))))) (some (x533, decide (0 < x464), x534))) (some (x533, false, x534))) (some (x533, false, x534)))
def concourseref07_Made.l0 (k : Nat) (a0 : ByteArray) (a1 : List GMade) : Nat → Int → ByteArray → List Event → Option (Int × Bool × ByteArray × (List Event))
  | 0, _, _, _ => none
  | j551 + 1, x464, x465, x466 => cond (decide (x464 < (a1.length : Int))) (cond (decide (x464 < 9)) (((concourseref01_EventOf.f k x464).bind fun t471 => grd ((0 : Int) ≤ x464 ∧ x464 < (a1.length : Int)) ((concourseref01_UserOf.f ((GMade.K.at a1 x464).fUser)).bind fun t474 => grd ((0 : Int) ≤ x464 ∧ x464 < (a1.length : Int)) ((concourseref01_Around.f ((GMade.K.at a1 x464).fDoes) 3).bind fun t477 => grd ((0 : Int) ≤ 9 ∧ 9 ≤ (9223372036854775807 : Int) ∧ (9 : Int).toNat * 1 ≤ 140737488355328) ((concourseref07_Made.l2 k a1 x464 k 0 (List.replicate (9 : Int).toNat (false : Bool))).bind fun (p483 : Int × Bool × (List Bool)) => (concourseref07_Made.l1 k x464 p483 k 0 ([] : List ByteArray)).bind fun (p484 : Int × Bool × (List ByteArray)) => cond (t477 == 0) (cond (decide (0 < x464)) (grd ((0 : Int) ≤ x464 ∧ x464 < (a1.length : Int)) ((concourseref01_Around.f ((GMade.K.at a1 x464).fThread) (w64 (2 * x464))).bind fun t489 => cond (decide (t489 < x464)) (grd ((0 : Int) ≤ t489 ∧ t489 < (x466.length : Int)) (cond (((Event.K.at x466 t489).fDoes) == 0) (grd ((0 : Int) ≤ t489 ∧ t489 < (x466.length : Int)) (cond (decide (((Event.K.at x466 t489).fThread) = (⟨#[]⟩ : ByteArray))) ((concourseref01_EventOf.f k t489).bind fun t496 => (concourseref07_Add.f k (⟨x465, x466⟩ : RDag) (⟨t471, a0, p484.2.2, t496, t474, t477⟩ : Event)).bind fun t498 => some (p483.1, p484.1, p483.2.1, p484.2.1, decide (0 < x464), t498.1.fRoom, t498.1.fL, p483.2.2)) ((concourseref07_Add.f k (⟨x465, x466⟩ : RDag) (⟨t471, a0, p484.2.2, (⟨#[]⟩ : ByteArray), t474, t477⟩ : Event)).bind fun t501 => some (p483.1, p484.1, p483.2.1, p484.2.1, decide (0 < x464), t501.1.fRoom, t501.1.fL, p483.2.2)))) ((concourseref07_Add.f k (⟨x465, x466⟩ : RDag) (⟨t471, a0, p484.2.2, (⟨#[]⟩ : ByteArray), t474, t477⟩ : Event)).bind fun t505 => some (p483.1, p484.1, p483.2.1, p484.2.1, decide (0 < x464), t505.1.fRoom, t505.1.fL, p483.2.2)))) ((concourseref07_Add.f k (⟨x465, x466⟩ : RDag) (⟨t471, a0, p484.2.2, (⟨#[]⟩ : ByteArray), t474, t477⟩ : Event)).bind fun t509 => some (p483.1, p484.1, p483.2.1, p484.2.1, decide (0 < x464), t509.1.fRoom, t509.1.fL, p483.2.2)))) ((concourseref07_Add.f k (⟨x465, x466⟩ : RDag) (⟨t471, a0, p484.2.2, (⟨#[]⟩ : ByteArray), t474, t477⟩ : Event)).bind fun t512 => some (p483.1, p484.1, p483.2.1, p484.2.1, decide (0 < x464), t512.1.fRoom, t512.1.fL, p483.2.2))) ((concourseref07_Add.f k (⟨x465, x466⟩ : RDag) (⟨t471, a0, p484.2.2, (⟨#[]⟩ : ByteArray), t474, t477⟩ : Event)).bind fun t516 => some (p483.1, p484.1, p483.2.1, p484.2.1, false, t516.1.fRoom, t516.1.fL, p483.2.2)))))).bind fun (p469 : Int × Int × Bool × Bool × Bool × ByteArray × (List Event) × (List Bool)) => concourseref07_Made.l0 k a0 a1 j551 (w64 (x464 + 1)) p469.2.2.2.2.2.1 p469.2.2.2.2.2.2.1) (some (x464, decide (x464 < 9), x465, x466))) (some (x464, false, x465, x466))
def concourseref07_Made.f (k : Nat) (a0 : ByteArray) (a1 : List GMade) : Option (RDag) := (concourseref07_Made.l0 k a0 a1 k 0 a0 ([] : List Event)).bind fun (p463 : Int × Bool × ByteArray × (List Event)) => some (⟨p463.2.2.1, p463.2.2.2⟩ : RDag)
/-! concourse/concourseref10.Made: function 26 -/
def concourseref10_Made.f (k : Nat) (a0 : List GMade) (a1 : List GMade) : Option ((List Event)) := (concourseref01_RoomOf.f 0).bind fun t553 => (concourseref07_Made.f k t553 a0).bind fun t555 => grd (([] : List Event).length + t555.fL.length ≤ 9223372036854775807 ∧ (([] : List Event).length + t555.fL.length) * 96 ≤ 140737488355328) ((concourseref01_RoomOf.f 1).bind fun t559 => (concourseref07_Made.f k t559 a1).bind fun t561 => grd ((([] : List Event) ++ t555.fL).length + t561.fL.length ≤ 9223372036854775807 ∧ ((([] : List Event) ++ t555.fL).length + t561.fL.length) * 96 ≤ 140737488355328) (some ((([] : List Event) ++ t555.fL) ++ t561.fL)))
/-! concourse/concourseref10.Of: function 10 -/
def concourseref10_Of.l0 (k : Nat) (a0 : RView) (a1 : ByteArray) : Nat → Int → Option ((Int × Bool) ⊕ (RDag))
  | 0, _ => none
  | j573 + 1, x568 => cond (decide (x568 < (a0.fD.length : Int))) (grd ((0 : Int) ≤ x568 ∧ x568 < (a0.fD.length : Int)) (cond (decide (((RDag.K.at a0.fD x568).fRoom) = a1)) (grd ((0 : Int) ≤ x568 ∧ x568 < (a0.fD.length : Int)) (some (.inr (RDag.K.at a0.fD x568)))) (concourseref10_Of.l0 k a0 a1 j573 (w64 (x568 + 1))))) (some (.inl (x568, decide (x568 < (a0.fD.length : Int)))))
def concourseref10_Of.f (k : Nat) (a0 : RView) (a1 : ByteArray) : Option (RDag) := (concourseref10_Of.l0 k a0 a1 k 0).bind (fall fun (p567 : Int × Bool) => some (⟨a1, ([] : List Event)⟩ : RDag))
/-! concourse/concourseref10.Add: function 12 -/
def concourseref10_Add.l0 (k : Nat) (a0 : RView) (a1 : Event) (t580 : RDag × Int) : Nat → Bool → Int → List RDag → Option (Bool × Int × Bool × (List RDag))
  | 0, _, _, _ => none
  | j608 + 1, x589, x590, x591 => cond (decide (x590 < (a0.fD.length : Int))) ((cond (!x589) (grd ((0 : Int) ≤ x590 ∧ x590 < (a0.fD.length : Int)) (cond (!sLt ((RDag.K.at a0.fD x590).fRoom) a1.fRoom) (grd (x591.length + ([t580.1] : List RDag).length ≤ 9223372036854775807 ∧ (x591.length + ([t580.1] : List RDag).length) * 40 ≤ 140737488355328) (some (true, !sLt ((RDag.K.at a0.fD x590).fRoom) a1.fRoom, x591 ++ ([t580.1] : List RDag)))) (some (x589, !sLt ((RDag.K.at a0.fD x590).fRoom) a1.fRoom, x591)))) (some (x589, false, x591))).bind fun (p594 : Bool × Bool × (List RDag)) => grd ((0 : Int) ≤ x590 ∧ x590 < (a0.fD.length : Int)) (cond (!decide (((RDag.K.at a0.fD x590).fRoom) = a1.fRoom)) (grd ((0 : Int) ≤ x590 ∧ x590 < (a0.fD.length : Int)) (grd (p594.2.2.length + ([RDag.K.at a0.fD x590] : List RDag).length ≤ 9223372036854775807 ∧ (p594.2.2.length + ([RDag.K.at a0.fD x590] : List RDag).length) * 40 ≤ 140737488355328) (concourseref10_Add.l0 k a0 a1 t580 j608 p594.1 (w64 (x590 + 1)) (p594.2.2 ++ ([RDag.K.at a0.fD x590] : List RDag))))) (concourseref10_Add.l0 k a0 a1 t580 j608 p594.1 (w64 (x590 + 1)) p594.2.2))) (some (x589, x590, decide (x590 < (a0.fD.length : Int)), x591))
def concourseref10_Add.f (k : Nat) (a0 : RView) (a1 : Event) : Option (RView × Int) := (concourseref10_Of.f k a0 a1.fRoom).bind fun t578 => (concourseref07_Add.f k t578 a1).bind fun t580 => cond (t580.2 != 0) (some (a0, t580.2)) ((concourseref10_Add.l0 k a0 a1 t580 k false 0 ([] : List RDag)).bind fun (p584 : Bool × Int × Bool × (List RDag)) => cond (!p584.1) (grd (p584.2.2.2.length + ([t580.1] : List RDag).length ≤ 9223372036854775807 ∧ (p584.2.2.2.length + ([t580.1] : List RDag).length) * 40 ≤ 140737488355328) (some ((⟨p584.2.2.2 ++ ([t580.1] : List RDag)⟩ : RView), 0))) (some ((⟨p584.2.2.2⟩ : RView), 0)))
/-! concourse/concourseref10.Build: function 48 -/
def concourseref10_Build.l0 (k : Nat) (a0 : List Event) : Nat → Int → List RDag → Option (Int × Bool × (List RDag))
  | 0, _, _ => none
  | j621 + 1, x614, x615 => cond (decide (x614 < (a0.length : Int))) (grd ((0 : Int) ≤ x614 ∧ x614 < (a0.length : Int)) ((concourseref10_Add.f k (⟨x615⟩ : RView) (Event.K.at a0 x614)).bind fun t618 => concourseref10_Build.l0 k a0 j621 (w64 (x614 + 1)) t618.1.fD)) (some (x614, decide (x614 < (a0.length : Int)), x615))
def concourseref10_Build.f (k : Nat) (a0 : List Event) : Option (RView) := (concourseref10_Build.l0 k a0 k 0 ([] : List RDag)).bind fun (p613 : Int × Bool × (List RDag)) => some (⟨p613.2.2⟩ : RView)
/-! concourse/concourselaw10.build: function 8 -/
def concourselaw10_build.l0 (k : Nat) (t624 : (List Event)) : Nat → Int → VView → Option ((Int × Bool × VView) ⊕ ((Option VView) × RView))
  | 0, _, _ => none
  | j642 + 1, x634, x635 => cond (decide (x634 < (t624.length : Int))) (grd ((0 : Int) ≤ x634 ∧ x634 < (t624.length : Int)) ((view_View_Add.f k x635 (t624.getD x634.toNat default)).bind fun t639 => cond (t639.1 != 0) (some (.inr (none, (⟨([] : List RDag)⟩ : RView)))) (concourselaw10_build.l0 k t624 j642 (w64 (x634 + 1)) t639.2))) (some (.inl (x634, decide (x634 < (t624.length : Int)), x635)))
def concourselaw10_build.f (k : Nat) (a0 : List GMade) (a1 : List GMade) : Option ((Option VView) × RView) := (concourseref10_Made.f k a0 a1).bind fun t624 => (view_New.f).bind fun t627 => (concourselaw10_build.l0 k t624 k 0 t627).bind (fall fun (p631 : Int × Bool × VView) => (concourseref10_Build.f k t624).bind fun t632 => some (some p631.2.2, t632))
/-! concourse/concourseref01.Few: function 27 -/
def concourseref01_Few.f (a0 : ByteArray) (a1 : Int) : Option (ByteArray) := cond (decide (a1 < (a0.size : Int))) (grd ((0 : Int) ≤ a1 ∧ 0 ≤ a1.toNat ∧ a1.toNat ≤ a0.size) (some (a0.extract 0 a1.toNat))) (some a0)
/-! concourse/concourseref07.Few: function 50 -/
def concourseref07_Few.l0 (k : Nat) (a0 : Event) : Nat → Int → List ByteArray → Option (Int × Bool × (List ByteArray))
  | 0, _, _ => none
  | j669 + 1, x658, x659 => cond (decide (x658 < (a0.fParents.length : Int))) (cond (decide (x658 < 6)) (grd ((0 : Int) ≤ x658 ∧ x658 < (a0.fParents.length : Int)) ((concourseref01_Few.f (strK.at a0.fParents x658) 30).bind fun t664 => grd (x659.length + ([t664] : List ByteArray).length ≤ 9223372036854775807 ∧ (x659.length + ([t664] : List ByteArray).length) * 16 ≤ 140737488355328) (concourseref07_Few.l0 k a0 j669 (w64 (x658 + 1)) (x659 ++ ([t664] : List ByteArray))))) (some (x658, decide (x658 < 6), x659))) (some (x658, false, x659))
def concourseref07_Few.f (k : Nat) (a0 : Event) : Option (Event) := (concourseref01_Few.f a0.fID 30).bind fun t648 => (concourseref01_Few.f a0.fRoom 30).bind fun t650 => (concourseref01_Few.f a0.fUser 30).bind fun t652 => (concourseref01_Few.f a0.fThread 30).bind fun t654 => (concourseref07_Few.l0 k a0 k 0 ([] : List ByteArray)).bind fun (p656 : Int × Bool × (List ByteArray)) => some (⟨t648, t650, p656.2.2, t654, t652, a0.fDoes⟩ : Event)
/-! concourse/concourseref07.Odd: function 9 -/
def concourseref07_Odd.f (k : Nat) (a0 : RDag) (a1 : Int) (a2 : Int) (a3 : Event) : Option (Event) := (cond (decide (0 < (a0.fL.length : Int))) ((concourseref01_Around.f a1 (a0.fL.length : Int)).bind fun t693 => grd ((0 : Int) ≤ t693 ∧ t693 < (a0.fL.length : Int)) (some ((Event.K.at a0.fL t693).fID, (Event.K.at a0.fL t693).fRoom, (Event.K.at a0.fL t693).fParents, (Event.K.at a0.fL t693).fThread, (Event.K.at a0.fL t693).fUser, (Event.K.at a0.fL t693).fDoes))) (some ((⟨#[36, 120]⟩ : ByteArray), a0.fRoom, ([] : List ByteArray), (⟨#[]⟩ : ByteArray), (⟨#[64, 97, 58, 115, 49]⟩ : ByteArray), 0))).bind fun (p676 : ByteArray × ByteArray × (List ByteArray) × ByteArray × ByteArray × Int) => (concourseref07_Few.f k a3).bind fun t677 => (concourseref01_Around.f a2 8).bind fun t679 => cond (t679 == 0) (some (⟨t677.fID, p676.2.1, p676.2.2.1, p676.2.2.2.1, p676.2.2.2.2.1, p676.2.2.2.2.2⟩ : Event)) (cond (t679 == 1) (some (⟨p676.1, t677.fRoom, p676.2.2.1, p676.2.2.2.1, p676.2.2.2.2.1, p676.2.2.2.2.2⟩ : Event)) (cond (t679 == 2) (some (⟨p676.1, p676.2.1, p676.2.2.1, p676.2.2.2.1, t677.fUser, p676.2.2.2.2.2⟩ : Event)) (cond (t679 == 3) (some (⟨p676.1, p676.2.1, p676.2.2.1, t677.fThread, p676.2.2.2.2.1, p676.2.2.2.2.2⟩ : Event)) (cond (t679 == 4) (some (⟨p676.1, p676.2.1, p676.2.2.1, p676.2.2.2.1, p676.2.2.2.2.1, t677.fDoes⟩ : Event)) (cond (t679 == 5) (some (⟨p676.1, p676.2.1, t677.fParents, p676.2.2.2.1, p676.2.2.2.2.1, p676.2.2.2.2.2⟩ : Event)) (cond (t679 == 6) ((concourseref01_EventOf.f k t677.fDoes).bind fun t688 => some (⟨(⟨#[36, 121]⟩ : ByteArray), p676.2.1, p676.2.2.1, t688, p676.2.2.2.2.1, 0⟩ : Event)) ((concourseref01_EventOf.f k t677.fDoes).bind fun t690 => some (⟨(⟨#[36, 122]⟩ : ByteArray), p676.2.1, ([t690] : List ByteArray), p676.2.2.2.1, p676.2.2.2.2.1, p676.2.2.2.2.2⟩ : Event))))))))
/-! concourse/concourseref01.SameTexts: function 17 -/
def concourseref01_SameTexts.l0 (k : Nat) (a0 : List ByteArray) (a1 : List ByteArray) : Nat → Int → Option ((Int × Bool) ⊕ (Bool))
  | 0, _ => none
  | j703 + 1, x698 => cond (decide (x698 < (a0.length : Int))) (grd ((0 : Int) ≤ x698 ∧ x698 < (a0.length : Int)) (grd ((0 : Int) ≤ x698 ∧ x698 < (a1.length : Int)) (cond (!decide ((strK.at a0 x698) = (strK.at a1 x698))) (some (.inr false)) (concourseref01_SameTexts.l0 k a0 a1 j703 (w64 (x698 + 1)))))) (some (.inl (x698, decide (x698 < (a0.length : Int)))))
def concourseref01_SameTexts.f (k : Nat) (a0 : List ByteArray) (a1 : List ByteArray) : Option (Bool) := cond ((a0.length : Int) != (a1.length : Int)) (some false) ((concourseref01_SameTexts.l0 k a0 a1 k 0).bind (fall fun (p697 : Int × Bool) => some true))
/-! concourse/concourseref07.Same: function 54 -/
def concourseref07_Same.f (k : Nat) (a0 : Event) (a1 : Event) : Option (Bool) := (concourseref01_SameTexts.f k a0.fParents a1.fParents).bind fun t707 => cond t707 (cond (decide (a0.fID = a1.fID)) (cond (decide (a0.fRoom = a1.fRoom)) (cond (decide (a0.fThread = a1.fThread)) (cond (decide (a0.fUser = a1.fUser)) (some (a0.fDoes == a1.fDoes)) (some false)) (some false)) (some false)) (some false)) (some false)
/-! concourse/concourseref07.SameAll: function 14 -/
def concourseref07_SameAll.l0 (k : Nat) (a0 : List Event) (a1 : List Event) : Nat → Int → Option ((Int × Bool) ⊕ (Bool))
  | 0, _ => none
  | j723 + 1, x716 => cond (decide (x716 < (a0.length : Int))) (grd ((0 : Int) ≤ x716 ∧ x716 < (a0.length : Int)) (grd ((0 : Int) ≤ x716 ∧ x716 < (a1.length : Int)) ((concourseref07_Same.f k (Event.K.at a0 x716) (Event.K.at a1 x716)).bind fun t720 => cond (!t720) (some (.inr false)) (concourseref07_SameAll.l0 k a0 a1 j723 (w64 (x716 + 1)))))) (some (.inl (x716, decide (x716 < (a0.length : Int)))))
def concourseref07_SameAll.f (k : Nat) (a0 : List Event) (a1 : List Event) : Option (Bool) := cond ((a0.length : Int) != (a1.length : Int)) (some false) ((concourseref07_SameAll.l0 k a0 a1 k 0).bind (fall fun (p715 : Int × Bool) => some true))
/-! cmp.Or[int]: function 130 -/
def cmp_Or_int.l0 (k : Nat) (a0 : List Int) : Nat → Int → Option ((Int × Bool) ⊕ (Int))
  | 0, _ => none
  | j730 + 1, x726 => cond (decide (x726 < (a0.length : Int))) (grd ((0 : Int) ≤ x726 ∧ x726 < (a0.length : Int)) (cond (((intK .i64).at a0 x726) != 0) (some (.inr ((intK .i64).at a0 x726))) (cmp_Or_int.l0 k a0 j730 (w64 (x726 + 1))))) (some (.inl (x726, decide (x726 < (a0.length : Int)))))
def cmp_Or_int.f (k : Nat) (a0 : List Int) : Option (Int) := (cmp_Or_int.l0 k a0 k 0).bind (fall fun (p725 : Int × Bool) => some 0)
/-! cmp.isNaN[int]: function 151 -/
def cmp_isNaN_int.f (a0 : Int) : Option (Bool) := some (a0 != a0)
/-! cmp.Compare[int]: function 131 -/
def cmp_Compare_int.f (a0 : Int) (a1 : Int) : Option (Int) := (cmp_isNaN_int.f a0).bind fun t732 => (cmp_isNaN_int.f a1).bind fun t734 => cond t732 (cond t734 (some 0) (some (-1))) (cond t734 (some 1) (cond (decide (a0 < a1)) (some (-1)) (cond (decide (a1 < a0)) (some 1) (some 0))))
/-! cmp.isNaN[string]: function 138 -/
def cmp_isNaN_string.f (a0 : ByteArray) : Option (Bool) := some (!decide (a0 = a0))
/-! cmp.Compare[string]: function 132 -/
def cmp_Compare_string.f (a0 : ByteArray) (a1 : ByteArray) : Option (Int) := (cmp_isNaN_string.f a0).bind fun t741 => (cmp_isNaN_string.f a1).bind fun t743 => cond t741 (cond t743 (some 0) (some (-1))) (cond t743 (some 1) (cond (sLt a0 a1) (some (-1)) (cond (sLt a1 a0) (some 1) (some 0))))
/-! concourse/dag.Compare: function 109 -/
def dag_Compare.f (k : Nat) (a0 : Pos) (a1 : Pos) : Option (Int) := (cmp_Compare_int.f a0.fDepth a1.fDepth).bind fun t752 => (cmp_Compare_string.f a0.fID a1.fID).bind fun t754 => (cmp_Or_int.f k ([t752, t754] : List Int)).bind fun t756 => some t756
/-! slices.SortFunc[[]concourse/api.Position,concourse/api.Position] -/
def posC (x y : Pos) : Int := if x.fDepth < y.fDepth then -1 else if y.fDepth < x.fDepth then 1 else cmpS x.fID y.fID
def slices_SortFunc_Position.f (xs : List Pos) : Option (List Pos) := grd (xs.length ≤ 1000000) (some (srtF posC xs))
/-! (*concourse/dag.Dag).All$1: function 90 -/
def dag_Dag_All_1.f (a0 : DNode) : Option (Bool) := some true
/-! (*concourse/dag.Dag).ids -/
def dag_Dag_ids_All.g (e : ByteArray × DNode) : Option Pos := cond true (some ⟨e.2.fdepth, e.1⟩) none
def dag_Dag_ids_All.f (a0 : DDag) : Option (List ByteArray) := grd (a0.fnodes.length ≤ 1000000) (some ((srtF posC (a0.fnodes.filterMap dag_Dag_ids_All.g)).map (·.fID)))
/-! (*concourse/dag.Dag).Heads$1: function 92 -/
def dag_Dag_Heads_1.f (a0 : DNode) : Option (Bool) := some (!a0.fparent)
/-! (*concourse/dag.Dag).ids -/
def dag_Dag_ids_Heads.g (e : ByteArray × DNode) : Option Pos := cond (!e.2.fparent) (some ⟨e.2.fdepth, e.1⟩) none
def dag_Dag_ids_Heads.f (a0 : DDag) : Option (List ByteArray) := grd (a0.fnodes.length ≤ 1000000) (some ((srtF posC (a0.fnodes.filterMap dag_Dag_ids_Heads.g)).map (·.fID)))
/-! (*concourse/dag.Dag).All: function 55 -/
def dag_Dag_All.l0 (k : Nat) (a0 : DDag) (t761 : List ByteArray) : Nat → Int → List Event → Option (Int × Int × Bool × (List Event) × (List ByteArray))
  | 0, _, _ => none
  | j779 + 1, x764, x765 => cond (decide (x764 < (t761.length : Int))) (grd ((0 : Int) ≤ x764 ∧ x764 < (t761.length : Int)) (grd ((mget a0.fnodes (t761.getD x764.toNat default)).isSome = true) ((dag_own.f (((mget a0.fnodes (t761.getD x764.toNat default)).getD default).fe)).bind fun t775 => grd (x765.length + ([t775] : List Event).length ≤ 9223372036854775807 ∧ (x765.length + ([t775] : List Event).length) * 96 ≤ 140737488355328) (dag_Dag_All.l0 k a0 t761 j779 (w64 (x764 + 1)) (x765 ++ ([t775] : List Event)))))) (some ((t761.length : Int), x764, decide (x764 < (t761.length : Int)), x765, t761))
def dag_Dag_All.f (k : Nat) (a0 : DDag) : Option ((List Event)) := ((dag_Dag_ids_All.f a0).bind fun t761 => dag_Dag_All.l0 k a0 t761 k 0 ([] : List Event)).bind fun (p758 : Int × Int × Bool × (List Event) × (List ByteArray)) => some p758.2.2.2.1
/-! (*concourse/view.View).Events: function 15 -/
def view_View_Events.f (k : Nat) (a0 : VView) (a1 : ByteArray) : Option ((List Event)) := (view_View_room.f a0 a1).bind fun t782 => (dag_Dag_All.f k t782).bind fun t787 => some t787
/-! concourse/concourseref07.Before: function 56 -/
def concourseref07_Before.f (a0 : Pos) (a1 : Pos) : Option (Bool) := cond (decide (a0.fDepth < a1.fDepth)) (some true) (cond (a0.fDepth == a1.fDepth) (some (sLt a0.fID a1.fID)) (some false))
/-! concourse/concourseref07.Depth: function 91 -/
def concourseref07_Depth.l1 (k : Nat) (a0 : RDag) (x804 : Int) : Nat → Int → List Int → Option (Int × Bool × (List Int))
  | 0, _, _ => none
  | j822 + 1, x808, x809 => grd ((0 : Int) ≤ x804 ∧ x804 < (a0.fL.length : Int)) (cond (decide (x808 < (((Event.K.at a0.fL x804).fParents).length : Int))) (grd ((0 : Int) ≤ x804 ∧ x804 < (x809.length : Int)) (grd ((0 : Int) ≤ x804 ∧ x804 < (a0.fL.length : Int)) (grd ((0 : Int) ≤ x808 ∧ x808 < (((Event.K.at a0.fL x804).fParents).length : Int)) ((concourseref07_At.f k a0 (strK.at ((Event.K.at a0.fL x804).fParents) x808)).bind fun t816 => grd ((0 : Int) ≤ t816 ∧ t816 < (x809.length : Int)) (grd ((0 : Int) ≤ x804 ∧ x804 < (x809.length : Int)) (concourseref07_Depth.l1 k a0 x804 j822 (w64 (x808 + 1)) (x809.set x804.toNat (max (x809.getD x804.toNat default) (w64 ((x809.getD t816.toNat default) + 1)))))))))) (some (x808, decide (x808 < (((Event.K.at a0.fL x804).fParents).length : Int)), x809)))
def concourseref07_Depth.l0 (k : Nat) (a0 : RDag) (t795 : Int) : Nat → Int → List Int → Option (Int × Bool × (List Int))
  | 0, _, _ => none
  | j824 + 1, x804, x805 => cond (decide (x804 ≤ t795)) ((concourseref07_Depth.l1 k a0 x804 k 0 x805).bind fun (p807 : Int × Bool × (List Int)) => concourseref07_Depth.l0 k a0 t795 j824 (w64 (x804 + 1)) p807.2.2) (some (x804, decide (x804 ≤ t795), x805))
def concourseref07_Depth.f (k : Nat) (a0 : RDag) (a1 : ByteArray) : Option (Int) := (concourseref07_At.f k a0 a1).bind fun t795 => cond (decide (t795 < 0)) (some 0) (grd ((0 : Int) ≤ (w64 (t795 + 1)) ∧ (w64 (t795 + 1)) ≤ (9223372036854775807 : Int) ∧ (w64 (t795 + 1)).toNat * 8 ≤ 140737488355328) ((concourseref07_Depth.l0 k a0 t795 k 0 (List.replicate (w64 (t795 + 1)).toNat (0 : Int))).bind fun (p801 : Int × Bool × (List Int)) => grd ((0 : Int) ≤ t795 ∧ t795 < (p801.2.2.length : Int)) (some (p801.2.2.getD t795.toNat default))))
/-! concourse/concourseref07.Position: function 57 -/
def concourseref07_Position.f (k : Nat) (a0 : RDag) (a1 : ByteArray) : Option (Pos) := (concourseref07_Depth.f k a0 a1).bind fun t828 => some (⟨t828, a1⟩ : Pos)
/-! concourse/concourseref07.All: function 16 -/
def concourseref07_All.l1 (k : Nat) (a0 : RDag) (x832 : List Event) (x833 : Int) : Nat → Int → Option (Int × Bool)
  | 0, _ => none
  | j858 + 1, x846 => cond (decide (x846 < (x832.length : Int))) (grd ((0 : Int) ≤ x846 ∧ x846 < (x832.length : Int)) ((concourseref07_Position.f k a0 ((Event.K.at x832 x846).fID)).bind fun t849 => grd ((0 : Int) ≤ x833 ∧ x833 < (a0.fL.length : Int)) ((concourseref07_Position.f k a0 ((Event.K.at a0.fL x833).fID)).bind fun t852 => (concourseref07_Before.f t849 t852).bind fun t854 => cond t854 (concourseref07_All.l1 k a0 x832 x833 j858 (w64 (x846 + 1))) (some (x846, t854))))) (some (x846, false))
def concourseref07_All.l0 (k : Nat) (a0 : RDag) : Nat → List Event → Int → Option ((List Event) × Int × Bool)
  | 0, _, _ => none
  | j860 + 1, x832, x833 => cond (decide (x833 < (a0.fL.length : Int))) (((concourseref07_All.l1 k a0 x832 x833 k 0).bind fun (p836 : Int × Bool) => grd ((0 : Int) ≤ p836.1 ∧ 0 ≤ p836.1.toNat ∧ p836.1.toNat ≤ x832.length) (grd (([] : List Event).length + ((x832.take p836.1.toNat).drop 0).length ≤ 9223372036854775807 ∧ (([] : List Event).length + ((x832.take p836.1.toNat).drop 0).length) * 96 ≤ 140737488355328) (grd ((0 : Int) ≤ x833 ∧ x833 < (a0.fL.length : Int)) (grd ((([] : List Event) ++ ((x832.take p836.1.toNat).drop 0)).length + ([Event.K.at a0.fL x833] : List Event).length ≤ 9223372036854775807 ∧ ((([] : List Event) ++ ((x832.take p836.1.toNat).drop 0)).length + ([Event.K.at a0.fL x833] : List Event).length) * 96 ≤ 140737488355328) (grd ((0 : Int) ≤ p836.1 ∧ p836.1.toNat ≤ x832.length ∧ x832.length ≤ x832.length) (grd (((([] : List Event) ++ ((x832.take p836.1.toNat).drop 0)) ++ ([Event.K.at a0.fL x833] : List Event)).length + ((x832.take x832.length).drop p836.1.toNat).length ≤ 9223372036854775807 ∧ (((([] : List Event) ++ ((x832.take p836.1.toNat).drop 0)) ++ ([Event.K.at a0.fL x833] : List Event)).length + ((x832.take x832.length).drop p836.1.toNat).length) * 96 ≤ 140737488355328) (some (((([] : List Event) ++ ((x832.take p836.1.toNat).drop 0)) ++ ([Event.K.at a0.fL x833] : List Event)) ++ ((x832.take x832.length).drop p836.1.toNat), p836.1, p836.2)))))))).bind fun (p835 : (List Event) × Int × Bool) => concourseref07_All.l0 k a0 j860 p835.1 (w64 (x833 + 1))) (some (x832, x833, decide (x833 < (a0.fL.length : Int))))
def concourseref07_All.f (k : Nat) (a0 : RDag) : Option ((List Event)) := (concourseref07_All.l0 k a0 k ([] : List Event) 0).bind fun (p831 : (List Event) × Int × Bool) => some p831.1
/-! (*concourse/dag.Dag).Heads: function 58 -/
def dag_Dag_Heads.f (a0 : DDag) : Option ((List ByteArray)) := (dag_Dag_ids_Heads.f a0).bind fun t862 => some t862
/-! (*concourse/view.View).Heads: function 18 -/
def view_View_Heads.f (a0 : VView) (a1 : ByteArray) : Option ((List ByteArray)) := (view_View_room.f a0 a1).bind fun t865 => (dag_Dag_Heads.f t865).bind fun t870 => some t870
/-! concourse/concourseref07.Heads: function 19 -/
def concourseref07_Heads.l2 (k : Nat) (a0 : RDag) (t874 : (List Event)) (x878 : Int) (x890 : Int) : Nat → Bool → Int → Option (Bool × Int × Bool)
  | 0, _, _ => none
  | j901 + 1, x893, x894 => grd ((0 : Int) ≤ x890 ∧ x890 < (a0.fL.length : Int)) (cond (decide (x894 < (((Event.K.at a0.fL x890).fParents).length : Int))) (cond x893 (grd ((0 : Int) ≤ x890 ∧ x890 < (a0.fL.length : Int)) (grd ((0 : Int) ≤ x894 ∧ x894 < (((Event.K.at a0.fL x890).fParents).length : Int)) (grd ((0 : Int) ≤ x878 ∧ x878 < (t874.length : Int)) (concourseref07_Heads.l2 k a0 t874 x878 x890 j901 (!decide ((strK.at ((Event.K.at a0.fL x890).fParents) x894) = ((Event.K.at t874 x878).fID))) (w64 (x894 + 1)))))) (concourseref07_Heads.l2 k a0 t874 x878 x890 j901 false (w64 (x894 + 1)))) (some (x893, x894, decide (x894 < (((Event.K.at a0.fL x890).fParents).length : Int)))))
def concourseref07_Heads.l1 (k : Nat) (a0 : RDag) (t874 : (List Event)) (x878 : Int) : Nat → Bool → Int → Option (Bool × Int × Bool)
  | 0, _, _ => none
  | j903 + 1, x889, x890 => cond (decide (x890 < (a0.fL.length : Int))) ((concourseref07_Heads.l2 k a0 t874 x878 x890 k x889 0).bind fun (p892 : Bool × Int × Bool) => concourseref07_Heads.l1 k a0 t874 x878 j903 p892.1 (w64 (x890 + 1))) (some (x889, x890, decide (x890 < (a0.fL.length : Int))))
def concourseref07_Heads.l0 (k : Nat) (a0 : RDag) (t874 : (List Event)) : Nat → Int → List ByteArray → Option (Int × Bool × (List ByteArray))
  | 0, _, _ => none
  | j906 + 1, x878, x879 => cond (decide (x878 < (t874.length : Int))) (((concourseref07_Heads.l1 k a0 t874 x878 k true 0).bind fun (p884 : Bool × Int × Bool) => cond p884.1 (grd ((0 : Int) ≤ x878 ∧ x878 < (t874.length : Int)) (grd (x879.length + ([(Event.K.at t874 x878).fID] : List ByteArray).length ≤ 9223372036854775807 ∧ (x879.length + ([(Event.K.at t874 x878).fID] : List ByteArray).length) * 16 ≤ 140737488355328) (some (p884.1, p884.2.1, p884.2.2, p884.1, x879 ++ ([(Event.K.at t874 x878).fID] : List ByteArray))))) (some (p884.1, p884.2.1, p884.2.2, p884.1, x879))).bind fun (p882 : Bool × Int × Bool × Bool × (List ByteArray)) => concourseref07_Heads.l0 k a0 t874 j906 (w64 (x878 + 1)) p882.2.2.2.2) (some (x878, decide (x878 < (t874.length : Int)), x879))
def concourseref07_Heads.f (k : Nat) (a0 : RDag) : Option ((List ByteArray)) := (concourseref07_All.f k a0).bind fun t874 => (concourseref07_Heads.l0 k a0 t874 k 0 ([] : List ByteArray)).bind fun (p876 : Int × Bool × (List ByteArray)) => some p876.2.2
/-! slices.Sort[[]string,string] -/
def slices_Sort_string.f (xs : List ByteArray) : Option (List ByteArray) := grd (xs.length < 4611686018427387904) (some (srtS xs))
/-! (*concourse/view.View).Rooms -/
def view_View_Rooms.f (a0 : VView) : Option (List ByteArray) := grd (a0.fdags.length ≤ 1000000) (some (srtS (a0.fdags.map (·.1))))
/-! concourse/concourseref10.Rooms: function 21 -/
def concourseref10_Rooms.l0 (k : Nat) (a0 : RView) : Nat → Int → List ByteArray → Option (Int × Bool × (List ByteArray))
  | 0, _, _ => none
  | j919 + 1, x912, x913 => cond (decide (x912 < (a0.fD.length : Int))) (grd ((0 : Int) ≤ x912 ∧ x912 < (a0.fD.length : Int)) (grd (x913.length + ([(RDag.K.at a0.fD x912).fRoom] : List ByteArray).length ≤ 9223372036854775807 ∧ (x913.length + ([(RDag.K.at a0.fD x912).fRoom] : List ByteArray).length) * 16 ≤ 140737488355328) (concourseref10_Rooms.l0 k a0 j919 (w64 (x912 + 1)) (x913 ++ ([(RDag.K.at a0.fD x912).fRoom] : List ByteArray))))) (some (x912, decide (x912 < (a0.fD.length : Int)), x913))
def concourseref10_Rooms.f (k : Nat) (a0 : RView) : Option ((List ByteArray)) := (concourseref10_Rooms.l0 k a0 k 0 ([] : List ByteArray)).bind fun (p910 : Int × Bool × (List ByteArray)) => some p910.2.2
/-! (*concourse/dag.Dag).Event: function 95 -/
def dag_Dag_Event.f (a0 : DDag) (a1 : ByteArray) : Option (Event × Bool) := (dag_Dag_Has.f a0 a1).bind fun t923 => cond (!t923) (some ((⟨(⟨#[]⟩ : ByteArray), (⟨#[]⟩ : ByteArray), ([] : List ByteArray), (⟨#[]⟩ : ByteArray), (⟨#[]⟩ : ByteArray), 0⟩ : Event), false)) (grd ((mget a0.fnodes a1).isSome = true) ((dag_own.f (((mget a0.fnodes a1).getD default).fe)).bind fun t931 => some (t931, true)))
/-! (*concourse/view.View).Fits: function 60 -/
def view_View_Fits.f (a0 : VView) (a1 : ByteArray) (a2 : ByteArray) (a3 : ByteArray) : Option (Int) := (view_View_room.f a0 a1).bind fun t933 => (dag_Dag_Event.f t933 a2).bind fun t938 => cond (!t938.2) (some 4) (cond (decide (a3 = (⟨#[]⟩ : ByteArray))) (cond (decide (a3 = (⟨#[]⟩ : ByteArray))) (some 0) (some 7)) (cond (decide (a3 = (⟨#[109, 97, 105, 110]⟩ : ByteArray))) (cond (decide (t938.1.fThread = (⟨#[]⟩ : ByteArray))) (cond (decide (t938.1.fThread = (⟨#[]⟩ : ByteArray))) (some 0) (some 7)) (cond (decide (a3 = a2)) (cond (decide (a3 = a2)) (some 0) (some 7)) (cond (decide (a3 = t938.1.fThread)) (some 0) (some 7)))) (cond (decide (a3 = a2)) (cond (decide (a3 = a2)) (some 0) (some 7)) (cond (decide (a3 = t938.1.fThread)) (some 0) (some 7)))))
/-! concourse/concourselaw10.lives: function 22 -/
def concourselaw10_lives.f (k : Nat) : Option (Bool) := (view_New.f).bind fun t954 => (view_View_Add.f k t954 (⟨(⟨#[36, 116]⟩ : ByteArray), (⟨#[33, 114, 58, 115]⟩ : ByteArray), ([] : List ByteArray), (⟨#[]⟩ : ByteArray), (⟨#[64, 97, 58, 115]⟩ : ByteArray), 0⟩ : Event)).bind fun t958 => (view_View_Add.f k t958.2 (⟨(⟨#[36, 117]⟩ : ByteArray), (⟨#[33, 114, 58, 115]⟩ : ByteArray), ([] : List ByteArray), (⟨#[36, 116]⟩ : ByteArray), (⟨#[64, 97, 58, 115]⟩ : ByteArray), 0⟩ : Event)).bind fun t960 => (view_View_Fits.f t960.2 (⟨#[33, 114, 58, 115]⟩ : ByteArray) (⟨#[36, 117]⟩ : ByteArray) (⟨#[36, 116]⟩ : ByteArray)).bind fun t964 => cond (t964 == 0) ((view_View_Fits.f t960.2 (⟨#[33, 114, 58, 115]⟩ : ByteArray) (⟨#[36, 117]⟩ : ByteArray) (⟨#[109, 97, 105, 110]⟩ : ByteArray)).bind fun t967 => cond (t967 == 7) ((view_View_Fits.f t960.2 (⟨#[33, 114, 58, 115]⟩ : ByteArray) (⟨#[36, 116]⟩ : ByteArray) (⟨#[109, 97, 105, 110]⟩ : ByteArray)).bind fun t970 => cond (t970 == 0) ((view_View_Fits.f t960.2 (⟨#[33, 114, 58, 115]⟩ : ByteArray) (⟨#[36, 117]⟩ : ByteArray) (⟨#[]⟩ : ByteArray)).bind fun t973 => cond (t973 == 0) ((view_View_Fits.f t960.2 (⟨#[33, 114, 58, 115]⟩ : ByteArray) (⟨#[36, 120]⟩ : ByteArray) (⟨#[]⟩ : ByteArray)).bind fun t976 => some (t976 == 4)) (some false)) (some false)) (some false)) (some false)
/-! concourse/concourselaw10.ViewAdds: function 3 -/
def concourselaw10_ViewAdds.l0 (k : Nat) (p983 : Int × Bool × (List RDag) × VView) : Nat → Int → Option ((Int × Bool) ⊕ (Bool))
  | 0, _ => none
  | j1025 + 1, x998 => cond (decide (x998 < 2)) ((concourseref01_RoomOf.f x998).bind fun t1000 => (concourseref10_Of.f k (⟨p983.2.2.1⟩ : RView) t1000).bind fun t1002 => (view_View_Events.f k p983.2.2.2 t1000).bind fun t1007 => (concourseref07_All.f k t1002).bind fun t1010 => (concourseref07_SameAll.f k t1007 t1010).bind fun t1012 => cond (!t1012) (some (.inr false)) ((view_View_Heads.f p983.2.2.2 t1000).bind fun t1016 => (concourseref07_Heads.f k t1002).bind fun t1019 => (concourseref01_SameTexts.f k t1016 t1019).bind fun t1022 => cond (!t1022) (some (.inr false)) (concourselaw10_ViewAdds.l0 k p983 j1025 (w64 (x998 + 1))))) (some (.inl (x998, decide (x998 < 2))))
def concourselaw10_ViewAdds.l1 (k : Nat) (a2 : List Event) (a3 : List Int) : Nat → Int → List RDag → VView → Option ((Int × Bool × (List RDag) × VView) ⊕ (Bool))
  | 0, _, _, _ => none
  | j1056 + 1, x1027, x1028, x1029 => cond (decide (x1027 < (a2.length : Int))) (cond (decide (x1027 < (a3.length : Int))) (cond (decide (x1027 < 4)) ((concourseref01_RoomOf.f x1027).bind fun t1033 => (concourseref10_Of.f k (⟨x1028⟩ : RView) t1033).bind fun t1035 => grd ((0 : Int) ≤ x1027 ∧ x1027 < (a3.length : Int)) (grd ((0 : Int) ≤ x1027 ∧ x1027 < (a2.length : Int)) ((concourseref07_Odd.f k t1035 x1027 ((intK .i64).at a3 x1027) (Event.K.at a2 x1027)).bind fun t1039 => (grd ((0 : Int) ≤ x1027 ∧ x1027 < (a3.length : Int)) (cond ((((intK .i64).at a3 x1027).tmod 5) == 0) (grd ((0 : Int) ≤ x1027 ∧ x1027 < (a3.length : Int)) ((concourseref01_RoomOf.f (w64 (((intK .i64).at a3 x1027).tdiv 5))).bind fun t1052 => some t1052)) (some t1039.fRoom))).bind fun (p1042 : ByteArray) => (concourseref10_Add.f k (⟨x1028⟩ : RView) (⟨t1039.fID, p1042, t1039.fParents, t1039.fThread, t1039.fUser, t1039.fDoes⟩ : Event)).bind fun t1043 => (view_View_Add.f k x1029 (⟨t1039.fID, p1042, t1039.fParents, t1039.fThread, t1039.fUser, t1039.fDoes⟩ : Event)).bind fun t1046 => cond (t1046.1 != t1043.2) (some (.inr false)) (concourselaw10_ViewAdds.l1 k a2 a3 j1056 (w64 (x1027 + 1)) t1043.1.fD t1046.2)))) (some (.inl (x1027, decide (x1027 < 4), x1028, x1029)))) (some (.inl (x1027, false, x1028, x1029)))) (some (.inl (x1027, false, x1028, x1029)))
def concourselaw10_ViewAdds.f (k : Nat) (a0 : List GMade) (a1 : List GMade) (a2 : List Event) (a3 : List Int) : Option (Bool) := (concourselaw10_build.f k a0 a1).bind fun t978 => cond t978.1.isNone (some false) ((concourselaw10_ViewAdds.l1 k a2 a3 k 0 t978.2.fD (t978.1.getD default)).bind (fall fun (p983 : Int × Bool × (List RDag) × VView) => (concourselaw10_ViewAdds.l0 k p983 k 0).bind (fall fun (p984 : Int × Bool) => (view_View_Rooms.f p983.2.2.2).bind fun t987 => (concourseref10_Rooms.f k (⟨p983.2.2.1⟩ : RView)).bind fun t990 => (concourseref01_SameTexts.f k t987 t990).bind fun t993 => cond t993 ((concourselaw10_lives.f k).bind fun t996 => some t996) (some false))))
/-! (*concourse/dag.Dag).Position: function 67 -/
def dag_Dag_Position.f (a0 : DDag) (a1 : ByteArray) : Option (Pos × Bool) := (dag_Dag_Has.f a0 a1).bind fun t1059 => cond (!t1059) (some ((⟨0, (⟨#[]⟩ : ByteArray)⟩ : Pos), false)) (grd ((mget a0.fnodes a1).isSome = true) (some ((⟨((mget a0.fnodes a1).getD default).fdepth, a1⟩ : Pos), true)))
/-! (*concourse/view.View).Position: function 28 -/
def view_View_Position.f (a0 : VView) (a1 : ByteArray) (a2 : ByteArray) : Option (Pos × Bool) := (view_View_room.f a0 a1).bind fun t1068 => (dag_Dag_Position.f t1068 a2).bind fun t1073 => some (t1073.1, t1073.2)
/-! concourse/concourseref10.Position: function 30 -/
def concourseref10_Position.f (k : Nat) (a0 : RView) (a1 : ByteArray) (a2 : ByteArray) : Option (Pos × Bool) := (concourseref10_Of.f k a0 a1).bind fun t1077 => (concourseref07_At.f k t1077 a2).bind fun t1080 => cond (decide (t1080 < 0)) (some ((⟨0, (⟨#[]⟩ : ByteArray)⟩ : Pos), false)) ((concourseref07_Position.f k t1077 a2).bind fun t1083 => some (t1083, true))
/-! concourse/member.joined: function 97 -/
def member_joined.l0 (k : Nat) (t1088 : (List Event)) : Nat → Int → (List (ByteArray × Int)) → Option (Int × Int × Bool × (List (ByteArray × Int)) × (List Event))
  | 0, _, _ => none
  | j1099 + 1, x1091, x1092 => cond (decide (x1091 < (t1088.length : Int))) (grd ((0 : Int) ≤ x1091 ∧ x1091 < (t1088.length : Int)) (cond (((t1088.getD x1091.toNat default).fDoes) == 1) (member_joined.l0 k t1088 j1099 (w64 (x1091 + 1)) (mput x1092 ((t1088.getD x1091.toNat default).fUser) 1)) (cond (((t1088.getD x1091.toNat default).fDoes) == 2) (member_joined.l0 k t1088 j1099 (w64 (x1091 + 1)) (mdel x1092 ((t1088.getD x1091.toNat default).fUser))) (member_joined.l0 k t1088 j1099 (w64 (x1091 + 1)) x1092)))) (some ((t1088.length : Int), x1091, decide (x1091 < (t1088.length : Int)), x1092, t1088))
def member_joined.f (k : Nat) (a0 : DDag) : Option ((List (ByteArray × Int))) := ((dag_Dag_All.f k a0).bind fun t1088 => member_joined.l0 k t1088 k 0 ([] : List (ByteArray × Int))).bind fun (p1086 : Int × Int × Bool × (List (ByteArray × Int)) × (List Event)) => some p1086.2.2.2.1
/-! concourse/member.Users -/
def member_Users.f (k : Nat) (a0 : DDag) : Option (List ByteArray) := (member_joined.f k a0).bind fun m => grd (m.length ≤ 1000000) (some (srtS (m.map (·.1))))
/-! (*concourse/view.View).Users: function 31 -/
def view_View_Users.f (k : Nat) (a0 : VView) (a1 : ByteArray) : Option ((List ByteArray)) := (view_View_room.f a0 a1).bind fun t1102 => (member_Users.f k t1102).bind fun t1107 => some t1107
/-! concourse/concourseref09.Last: function 98 -/
def concourseref09_Last.l0 (k : Nat) (a0 : RDag) (a1 : ByteArray) : Nat → Int → Int → Option (Int × Int × Bool)
  | 0, _, _ => none
  | j1133 + 1, x1115, x1116 => cond (decide (x1116 < (a0.fL.length : Int))) (grd ((0 : Int) ≤ x1116 ∧ x1116 < (a0.fL.length : Int)) (cond (!decide (((Event.K.at a0.fL x1116).fUser) = a1)) (concourseref09_Last.l0 k a0 a1 j1133 x1115 (w64 (x1116 + 1))) (grd ((0 : Int) ≤ x1116 ∧ x1116 < (a0.fL.length : Int)) (cond (((Event.K.at a0.fL x1116).fDoes) == 0) (concourseref09_Last.l0 k a0 a1 j1133 x1115 (w64 (x1116 + 1))) (cond (decide (x1115 < 0)) (concourseref09_Last.l0 k a0 a1 j1133 x1116 (w64 (x1116 + 1))) (grd ((0 : Int) ≤ x1115 ∧ x1115 < (a0.fL.length : Int)) ((concourseref07_Position.f k a0 ((Event.K.at a0.fL x1115).fID)).bind fun t1125 => grd ((0 : Int) ≤ x1116 ∧ x1116 < (a0.fL.length : Int)) ((concourseref07_Position.f k a0 ((Event.K.at a0.fL x1116).fID)).bind fun t1128 => (concourseref07_Before.f t1125 t1128).bind fun t1130 => cond t1130 (concourseref09_Last.l0 k a0 a1 j1133 x1116 (w64 (x1116 + 1))) (concourseref09_Last.l0 k a0 a1 j1133 x1115 (w64 (x1116 + 1))))))))))) (some (x1115, x1116, decide (x1116 < (a0.fL.length : Int))))
def concourseref09_Last.f (k : Nat) (a0 : RDag) (a1 : ByteArray) : Option (Event × Bool) := (concourseref09_Last.l0 k a0 a1 k (-1) 0).bind fun (p1112 : Int × Int × Bool) => cond (decide (p1112.1 < 0)) (some ((⟨(⟨#[]⟩ : ByteArray), (⟨#[]⟩ : ByteArray), ([] : List ByteArray), (⟨#[]⟩ : ByteArray), (⟨#[]⟩ : ByteArray), 0⟩ : Event), false)) (grd ((0 : Int) ≤ p1112.1 ∧ p1112.1 < (a0.fL.length : Int)) (some (Event.K.at a0.fL p1112.1, true)))
/-! concourse/concourseref09.Joined: function 71 -/
def concourseref09_Joined.f (k : Nat) (a0 : RDag) (a1 : ByteArray) : Option (Bool) := (concourseref09_Last.f k a0 a1).bind fun t1136 => cond t1136.2 (some (t1136.1.fDoes == 1)) (some false)
/-! concourse/concourseref09.Put: function 72 -/
def concourseref09_Put.l0 (k : Nat) (a0 : List ByteArray) (a1 : ByteArray) : Nat → Bool → Int → List ByteArray → Option (Bool × Int × Bool × (List ByteArray))
  | 0, _, _, _ => none
  | j1164 + 1, x1145, x1146, x1147 => cond (decide (x1146 < (a0.length : Int))) ((cond (!x1145) (grd ((0 : Int) ≤ x1146 ∧ x1146 < (a0.length : Int)) (cond (!sLt (strK.at a0 x1146) a1) (grd (x1147.length + ([a1] : List ByteArray).length ≤ 9223372036854775807 ∧ (x1147.length + ([a1] : List ByteArray).length) * 16 ≤ 140737488355328) (some (true, !sLt (strK.at a0 x1146) a1, x1147 ++ ([a1] : List ByteArray)))) (some (x1145, !sLt (strK.at a0 x1146) a1, x1147)))) (some (x1145, false, x1147))).bind fun (p1150 : Bool × Bool × (List ByteArray)) => grd ((0 : Int) ≤ x1146 ∧ x1146 < (a0.length : Int)) (cond (!decide ((strK.at a0 x1146) = a1)) (grd ((0 : Int) ≤ x1146 ∧ x1146 < (a0.length : Int)) (grd (p1150.2.2.length + ([strK.at a0 x1146] : List ByteArray).length ≤ 9223372036854775807 ∧ (p1150.2.2.length + ([strK.at a0 x1146] : List ByteArray).length) * 16 ≤ 140737488355328) (concourseref09_Put.l0 k a0 a1 j1164 p1150.1 (w64 (x1146 + 1)) (p1150.2.2 ++ ([strK.at a0 x1146] : List ByteArray))))) (concourseref09_Put.l0 k a0 a1 j1164 p1150.1 (w64 (x1146 + 1)) p1150.2.2))) (some (x1145, x1146, decide (x1146 < (a0.length : Int)), x1147))
def concourseref09_Put.f (k : Nat) (a0 : List ByteArray) (a1 : ByteArray) : Option ((List ByteArray)) := (concourseref09_Put.l0 k a0 a1 k false 0 ([] : List ByteArray)).bind fun (p1140 : Bool × Int × Bool × (List ByteArray)) => cond (!p1140.1) (grd (p1140.2.2.2.length + ([a1] : List ByteArray).length ≤ 9223372036854775807 ∧ (p1140.2.2.2.length + ([a1] : List ByteArray).length) * 16 ≤ 140737488355328) (some (p1140.2.2.2 ++ ([a1] : List ByteArray)))) (some p1140.2.2.2)
/-! concourse/concourseref09.Users: function 32 -/
def concourseref09_Users.l0 (k : Nat) (a0 : RDag) : Nat → Int → List ByteArray → Option (Int × Bool × (List ByteArray))
  | 0, _, _ => none
  | j1182 + 1, x1170, x1171 => cond (decide (x1170 < (a0.fL.length : Int))) (grd ((0 : Int) ≤ x1170 ∧ x1170 < (a0.fL.length : Int)) ((concourseref09_Joined.f k a0 ((Event.K.at a0.fL x1170).fUser)).bind fun t1175 => cond t1175 (grd ((0 : Int) ≤ x1170 ∧ x1170 < (a0.fL.length : Int)) ((concourseref09_Put.f k x1171 ((Event.K.at a0.fL x1170).fUser)).bind fun t1179 => concourseref09_Users.l0 k a0 j1182 (w64 (x1170 + 1)) t1179)) (concourseref09_Users.l0 k a0 j1182 (w64 (x1170 + 1)) x1171))) (some (x1170, decide (x1170 < (a0.fL.length : Int)), x1171))
def concourseref09_Users.f (k : Nat) (a0 : RDag) : Option ((List ByteArray)) := (concourseref09_Users.l0 k a0 k 0 ([] : List ByteArray)).bind fun (p1168 : Int × Bool × (List ByteArray)) => some p1168.2.2
/-! slices.Compact[[]string,string] -/
def slices_Compact_string.f (xs : List ByteArray) : Option (List ByteArray) := grd (xs.length ≤ 9223372036854775807) (some (cmpctS xs))
/-! concourse/name.Home: function 121 -/
def name_Home.f (k : Nat) (a0 : ByteArray) : Option (ByteArray) := (name_User.f k a0).bind fun t1185 => cond (!t1185) ((name_Room.f k a0).bind fun t1188 => cond (!t1188) (some (⟨#[]⟩ : ByteArray)) ((strings_Cut.f a0 (⟨#[58]⟩ : ByteArray)).bind fun t1191 => some t1191.2.1)) ((strings_Cut.f a0 (⟨#[58]⟩ : ByteArray)).bind fun t1194 => some t1194.2.1)
/-! concourse/member.Homes: function 99 -/
def member_Homes.l0 (k : Nat) (a0 : List ByteArray) : Nat → Int → List ByteArray → Option (Int × Bool × (List ByteArray))
  | 0, _, _ => none
  | j1213 + 1, x1203, x1204 => cond (decide (x1203 < (a0.length : Int))) (grd ((0 : Int) ≤ x1203 ∧ x1203 < (a0.length : Int)) ((name_Home.f k (strK.at a0 x1203)).bind fun t1208 => cond (!decide (t1208 = (⟨#[]⟩ : ByteArray))) (grd (x1204.length + ([t1208] : List ByteArray).length ≤ 9223372036854775807 ∧ (x1204.length + ([t1208] : List ByteArray).length) * 16 ≤ 140737488355328) (member_Homes.l0 k a0 j1213 (w64 (x1203 + 1)) (x1204 ++ ([t1208] : List ByteArray)))) (member_Homes.l0 k a0 j1213 (w64 (x1203 + 1)) x1204))) (some (x1203, decide (x1203 < (a0.length : Int)), x1204))
def member_Homes.f (k : Nat) (a0 : List ByteArray) : Option ((List ByteArray)) := (member_Homes.l0 k a0 k 0 ([] : List ByteArray)).bind fun (p1196 : Int × Bool × (List ByteArray)) => (slices_Sort_string.f p1196.2.2).bind fun t1198 => (slices_Compact_string.f t1198).bind fun t1200 => some t1200
/-! concourse/member.Servers: function 73 -/
def member_Servers.f (k : Nat) (a0 : DDag) : Option ((List ByteArray)) := (member_Users.f k a0).bind fun t1216 => (member_Homes.f k t1216).bind fun t1219 => some t1219
/-! (*concourse/view.View).Servers: function 33 -/
def view_View_Servers.f (k : Nat) (a0 : VView) (a1 : ByteArray) : Option ((List ByteArray)) := (view_View_room.f a0 a1).bind fun t1222 => (member_Servers.f k t1222).bind fun t1227 => some t1227
/-! concourse/concourseref01.Home: function 100 -/
def concourseref01_Home.f (k : Nat) (a0 : ByteArray) : Option (ByteArray) := (concourseref01_Named.f k a0 64).bind fun t1230 => (concourseref01_Named.f k a0 33).bind fun t1232 => cond (!t1230) (cond (!t1232) (some (⟨#[]⟩ : ByteArray)) ((concourseref01_colon.f k a0).bind fun t1236 => grd ((0 : Int) ≤ (w64 (t1236 + 1)) ∧ (w64 (t1236 + 1)).toNat ≤ a0.size ∧ a0.size ≤ a0.size) (some (a0.extract (w64 (t1236 + 1)).toNat a0.size)))) ((concourseref01_colon.f k a0).bind fun t1240 => grd ((0 : Int) ≤ (w64 (t1240 + 1)) ∧ (w64 (t1240 + 1)).toNat ≤ a0.size ∧ a0.size ≤ a0.size) (some (a0.extract (w64 (t1240 + 1)).toNat a0.size)))
/-! concourse/concourseref09.Homes: function 74 -/
def concourseref09_Homes.l0 (k : Nat) (a0 : List ByteArray) : Nat → Int → List ByteArray → Option (Int × Bool × (List ByteArray))
  | 0, _, _ => none
  | j1256 + 1, x1245, x1246 => cond (decide (x1245 < (a0.length : Int))) (grd ((0 : Int) ≤ x1245 ∧ x1245 < (a0.length : Int)) ((concourseref01_Home.f k (strK.at a0 x1245)).bind fun t1250 => cond (!decide (t1250 = (⟨#[]⟩ : ByteArray))) ((concourseref09_Put.f k x1246 t1250).bind fun t1253 => concourseref09_Homes.l0 k a0 j1256 (w64 (x1245 + 1)) t1253) (concourseref09_Homes.l0 k a0 j1256 (w64 (x1245 + 1)) x1246))) (some (x1245, decide (x1245 < (a0.length : Int)), x1246))
def concourseref09_Homes.f (k : Nat) (a0 : List ByteArray) : Option ((List ByteArray)) := (concourseref09_Homes.l0 k a0 k 0 ([] : List ByteArray)).bind fun (p1243 : Int × Bool × (List ByteArray)) => some p1243.2.2
/-! concourse/concourseref09.Servers: function 34 -/
def concourseref09_Servers.f (k : Nat) (a0 : RDag) : Option ((List ByteArray)) := (concourseref09_Users.f k a0).bind fun t1260 => (concourseref09_Homes.f k t1260).bind fun t1263 => some t1263
/-! concourse/member.Joined: function 75 -/
def member_Joined.f (k : Nat) (a0 : DDag) (a1 : ByteArray) : Option (Bool) := (member_joined.f k a0).bind fun t1266 => some (decide (0 < ((mget t1266 a1).getD 0)))
/-! (*concourse/view.View).Joined: function 35 -/
def view_View_Joined.f (k : Nat) (a0 : VView) (a1 : ByteArray) (a2 : ByteArray) : Option (Bool) := (view_View_room.f a0 a1).bind fun t1269 => (member_Joined.f k t1269 a2).bind fun t1274 => some t1274
/-! concourse/concourseref10.Joined: function 37 -/
def concourseref10_Joined.f (k : Nat) (a0 : RView) (a1 : ByteArray) (a2 : ByteArray) : Option (Bool) := (concourseref10_Of.f k a0 a1).bind fun t1277 => (concourseref09_Joined.f k t1277 a2).bind fun t1279 => some t1279
/-! slices.Index[[]string,string]: function 101 -/
def slices_Index_string.l0 (k : Nat) (a0 : List ByteArray) (a1 : ByteArray) : Nat → Int → Option ((Int × Bool) ⊕ (Int))
  | 0, _ => none
  | j1286 + 1, x1282 => cond (decide (x1282 < (a0.length : Int))) (grd ((0 : Int) ≤ x1282 ∧ x1282 < (a0.length : Int)) (cond (decide (a1 = (strK.at a0 x1282))) (some (.inr x1282)) (slices_Index_string.l0 k a0 a1 j1286 (w64 (x1282 + 1))))) (some (.inl (x1282, decide (x1282 < (a0.length : Int)))))
def slices_Index_string.f (k : Nat) (a0 : List ByteArray) (a1 : ByteArray) : Option (Int) := (slices_Index_string.l0 k a0 a1 k 0).bind (fall fun (p1281 : Int × Bool) => some (-1))
/-! slices.Contains[[]string,string]: function 82 -/
def slices_Contains_string.f (k : Nat) (a0 : List ByteArray) (a1 : ByteArray) : Option (Bool) := (slices_Index_string.f k a0 a1).bind fun t1288 => some (decide (0 ≤ t1288))
/-! concourse/member.In: function 76 -/
def member_In.f (k : Nat) (a0 : DDag) (a1 : ByteArray) : Option (Bool) := (member_Servers.f k a0).bind fun t1290 => (slices_Contains_string.f k t1290 a1).bind fun t1293 => some t1293
/-! (*concourse/view.View).In: function 38 -/
def view_View_In.f (k : Nat) (a0 : VView) (a1 : ByteArray) (a2 : ByteArray) : Option (Bool) := (view_View_room.f a0 a1).bind fun t1295 => (member_In.f k t1295 a2).bind fun t1300 => some t1300
/-! concourse/concourseref09.Has: function 40 -/
def concourseref09_Has.l0 (k : Nat) (a0 : List ByteArray) (a1 : ByteArray) : Nat → Int → Option ((Int × Bool) ⊕ (Bool))
  | 0, _ => none
  | j1307 + 1, x1303 => cond (decide (x1303 < (a0.length : Int))) (grd ((0 : Int) ≤ x1303 ∧ x1303 < (a0.length : Int)) (cond (decide ((strK.at a0 x1303) = a1)) (some (.inr true)) (concourseref09_Has.l0 k a0 a1 j1307 (w64 (x1303 + 1))))) (some (.inl (x1303, decide (x1303 < (a0.length : Int)))))
def concourseref09_Has.f (k : Nat) (a0 : List ByteArray) (a1 : ByteArray) : Option (Bool) := (concourseref09_Has.l0 k a0 a1 k 0).bind (fall fun (p1302 : Int × Bool) => some false)
/-! concourse/concourselaw10.ViewAsks: function 6 -/
def concourselaw10_ViewAsks.l0 (k : Nat) (a3 : Int) (t1309 : (Option VView) × RView) (t1314 : ByteArray) (t1316 : ByteArray) : Nat → Int → Option ((Int × Bool) ⊕ (Bool))
  | 0, _ => none
  | j1407 + 1, x1321 => cond (decide (x1321 < 2)) (grd ((0 : Int) ≤ x1321 ∧ x1321 < (([t1316, t1314] : List ByteArray).length : Int)) ((concourseref10_Of.f k t1309.2 (strK.at ([t1316, t1314] : List ByteArray) x1321)).bind fun t1324 => (concourseref01_EventOf.f k a3).bind fun t1327 => (view_View_Position.f (t1309.1.getD default) (strK.at ([t1316, t1314] : List ByteArray) x1321) t1327).bind fun t1331 => (concourseref01_EventOf.f k a3).bind fun t1334 => (concourseref10_Position.f k t1309.2 (strK.at ([t1316, t1314] : List ByteArray) x1321) t1334).bind fun t1336 => (view_View_Position.f (t1309.1.getD default) (strK.at ([t1316, t1314] : List ByteArray) x1321) t1314).bind fun t1339 => (concourseref10_Position.f k t1309.2 (strK.at ([t1316, t1314] : List ByteArray) x1321) t1314).bind fun t1342 => cond (!decide (t1331.1 = t1336.1)) (some (.inr false)) (cond (t1331.2 != t1336.2) (some (.inr false)) (cond (t1339.2 != t1342.2) (some (.inr false)) ((view_View_Users.f k (t1309.1.getD default) (strK.at ([t1316, t1314] : List ByteArray) x1321)).bind fun t1351 => (concourseref09_Users.f k t1324).bind fun t1354 => (concourseref01_SameTexts.f k t1351 t1354).bind fun t1357 => cond (!t1357) (some (.inr false)) ((view_View_Servers.f k (t1309.1.getD default) (strK.at ([t1316, t1314] : List ByteArray) x1321)).bind fun t1361 => (concourseref09_Servers.f k t1324).bind fun t1364 => (concourseref01_SameTexts.f k t1361 t1364).bind fun t1367 => cond (!t1367) (some (.inr false)) ((concourseref01_UserOf.f a3).bind fun t1370 => (view_View_Joined.f k (t1309.1.getD default) (strK.at ([t1316, t1314] : List ByteArray) x1321) t1370).bind fun t1372 => (concourseref01_UserOf.f a3).bind fun t1374 => (concourseref10_Joined.f k t1309.2 (strK.at ([t1316, t1314] : List ByteArray) x1321) t1374).bind fun t1376 => cond (t1372 != t1376) (some (.inr false)) ((view_View_Joined.f k (t1309.1.getD default) (strK.at ([t1316, t1314] : List ByteArray) x1321) t1314).bind fun t1380 => (concourseref10_Joined.f k t1309.2 (strK.at ([t1316, t1314] : List ByteArray) x1321) t1314).bind fun t1382 => cond (t1380 != t1382) (some (.inr false)) ((concourseref01_ServerOf.f a3).bind fun t1386 => (view_View_In.f k (t1309.1.getD default) (strK.at ([t1316, t1314] : List ByteArray) x1321) t1386).bind fun t1388 => (concourseref09_Servers.f k t1324).bind fun t1390 => (concourseref01_ServerOf.f a3).bind fun t1393 => (concourseref09_Has.f k t1390 t1393).bind fun t1395 => cond (t1388 != t1395) (some (.inr false)) ((view_View_In.f k (t1309.1.getD default) (strK.at ([t1316, t1314] : List ByteArray) x1321) t1314).bind fun t1399 => (concourseref09_Servers.f k t1324).bind fun t1401 => (concourseref09_Has.f k t1401 t1314).bind fun t1404 => cond (t1399 != t1404) (some (.inr false)) (concourselaw10_ViewAsks.l0 k a3 t1309 t1314 t1316 j1407 (w64 (x1321 + 1))))))))))))) (some (.inl (x1321, decide (x1321 < 2))))
def concourselaw10_ViewAsks.f (k : Nat) (a0 : List GMade) (a1 : List GMade) (a2 : Int) (a3 : Int) (a4 : ByteArray) : Option (Bool) := (concourselaw10_build.f k a0 a1).bind fun t1309 => cond t1309.1.isNone (some false) ((concourseref01_Few.f a4 8).bind fun t1314 => (concourseref01_RoomOf.f a2).bind fun t1316 => (concourselaw10_ViewAsks.l0 k a3 t1309 t1314 t1316 k 0).bind (fall fun (p1318 : Int × Bool) => (concourselaw10_lives.f k).bind fun t1319 => some t1319))
/-! concourse/concourseref10.RoomsOf: function 43 -/
def concourseref10_RoomsOf.l0 (k : Nat) (a0 : RView) (a1 : ByteArray) : Nat → Int → List ByteArray → Option (Int × Bool × (List ByteArray))
  | 0, _, _ => none
  | j1423 + 1, x1412, x1413 => cond (decide (x1412 < (a0.fD.length : Int))) (grd ((0 : Int) ≤ x1412 ∧ x1412 < (a0.fD.length : Int)) ((concourseref09_Joined.f k (RDag.K.at a0.fD x1412) a1).bind fun t1417 => cond t1417 (grd ((0 : Int) ≤ x1412 ∧ x1412 < (a0.fD.length : Int)) (grd (x1413.length + ([(RDag.K.at a0.fD x1412).fRoom] : List ByteArray).length ≤ 9223372036854775807 ∧ (x1413.length + ([(RDag.K.at a0.fD x1412).fRoom] : List ByteArray).length) * 16 ≤ 140737488355328) (concourseref10_RoomsOf.l0 k a0 a1 j1423 (w64 (x1412 + 1)) (x1413 ++ ([(RDag.K.at a0.fD x1412).fRoom] : List ByteArray))))) (concourseref10_RoomsOf.l0 k a0 a1 j1423 (w64 (x1412 + 1)) x1413))) (some (x1412, decide (x1412 < (a0.fD.length : Int)), x1413))
def concourseref10_RoomsOf.f (k : Nat) (a0 : RView) (a1 : ByteArray) : Option ((List ByteArray)) := (concourseref10_RoomsOf.l0 k a0 a1 k 0 ([] : List ByteArray)).bind fun (p1410 : Int × Bool × (List ByteArray)) => some p1410.2.2
/-! concourse/concourseref10.Servers: function 77 -/
def concourseref10_Servers.f (k : Nat) (a0 : RView) (a1 : ByteArray) : Option ((List ByteArray)) := (concourseref10_Of.f k a0 a1).bind fun t1427 => (concourseref09_Servers.f k t1427).bind fun t1429 => some t1429
/-! concourse/concourseref10.Peers: function 41 -/
def concourseref10_Peers.l1 (k : Nat) (t1447 : (List ByteArray)) : Nat → Int → List ByteArray → Option (Int × Bool × (List ByteArray) × (List ByteArray))
  | 0, _, _ => none
  | j1459 + 1, x1450, x1451 => cond (decide (x1450 < (t1447.length : Int))) (grd ((0 : Int) ≤ x1450 ∧ x1450 < (t1447.length : Int)) ((concourseref09_Put.f k x1451 (t1447.getD x1450.toNat default)).bind fun t1456 => concourseref10_Peers.l1 k t1447 j1459 (w64 (x1450 + 1)) t1456)) (some (x1450, decide (x1450 < (t1447.length : Int)), x1451, t1447))
def concourseref10_Peers.l0 (k : Nat) (a0 : RView) (t1433 : (List ByteArray)) : Nat → Int → List ByteArray → Option (Int × Bool × (List ByteArray))
  | 0, _, _ => none
  | j1462 + 1, x1438, x1439 => cond (decide (x1438 < (t1433.length : Int))) ((grd ((0 : Int) ≤ x1438 ∧ x1438 < (t1433.length : Int)) ((concourseref10_Servers.f k a0 (t1433.getD x1438.toNat default)).bind fun t1447 => concourseref10_Peers.l1 k t1447 k 0 x1439)).bind fun (p1442 : Int × Bool × (List ByteArray) × (List ByteArray)) => concourseref10_Peers.l0 k a0 t1433 j1462 (w64 (x1438 + 1)) p1442.2.2.1) (some (x1438, decide (x1438 < (t1433.length : Int)), x1439))
def concourseref10_Peers.f (k : Nat) (a0 : RView) (a1 : ByteArray) : Option ((List ByteArray)) := (concourseref10_RoomsOf.f k a0 a1).bind fun t1433 => (concourseref10_Peers.l0 k a0 t1433 k 0 ([] : List ByteArray)).bind fun (p1436 : Int × Bool × (List ByteArray)) => some p1436.2.2
/-! slices.DeleteFunc[[]string,string]: function 78 -/
def slices_DeleteFunc_string_xo.l0 (k : Nat) (a1 : (ByteArray → Option Bool)) : Nat → Int → Int → List ByteArray → Option (Int × Int × Bool × (List ByteArray))
  | 0, _, _, _ => none
  | j1485 + 1, x1474, x1475, x1476 => cond (decide (x1475 < (x1476.length : Int))) (grd ((0 : Int) ≤ x1475 ∧ x1475 < (x1476.length : Int)) ((a1 (x1476.getD x1475.toNat default)).bind fun t1480 => cond (!t1480) (grd ((0 : Int) ≤ x1474 ∧ x1474 < (x1476.length : Int)) (slices_DeleteFunc_string_xo.l0 k a1 j1485 (w64 (x1474 + 1)) (w64 (x1475 + 1)) (x1476.set x1474.toNat (x1476.getD x1475.toNat default)))) (slices_DeleteFunc_string_xo.l0 k a1 j1485 x1474 (w64 (x1475 + 1)) x1476))) (some (x1474, x1475, decide (x1475 < (x1476.length : Int)), x1476))
def slices_DeleteFunc_string_xo.f (k : Nat) (a0 : List ByteArray) (a1 : (ByteArray → Option Bool)) : Option ((List ByteArray)) := (slices_IndexFunc_string_xw.f k a0 a1).bind fun t1465 => cond (t1465 == (-1)) (some a0) ((slices_DeleteFunc_string_xo.l0 k a1 k t1465 (w64 (t1465 + 1)) a0).bind fun (p1468 : Int × Int × Bool × (List ByteArray)) => grd ((0 : Int) ≤ p1468.1 ∧ p1468.1.toNat < p1468.2.2.2.length) (grd ((0 : Int) ≤ p1468.1 ∧ 0 ≤ p1468.1.toNat ∧ p1468.1.toNat ≤ (p1468.2.2.2.take p1468.1.toNat ++ List.replicate (p1468.2.2.2.length - p1468.1.toNat) (⟨#[]⟩ : ByteArray)).length) (some (((p1468.2.2.2.take p1468.1.toNat ++ List.replicate (p1468.2.2.2.length - p1468.1.toNat) (⟨#[]⟩ : ByteArray)).take p1468.1.toNat).drop 0))))
/-! (*concourse/view.View).RoomsOf$1: function 79 -/
def view_View_RoomsOf_1.f (k : Nat) (a0 : ByteArray) (c0 : VView) (c1 : ByteArray) : Option (Bool) := (view_View_Joined.f k c0 a0 c1).bind fun t1487 => some (!t1487)
/-! (*concourse/view.View).RoomsOf: function 42 -/
def view_View_RoomsOf.f (k : Nat) (a0 : VView) (a1 : ByteArray) : Option ((List ByteArray)) := (view_View_Rooms.f a0).bind fun t1493 => (slices_DeleteFunc_string_xo.f k t1493 (fun a0_ => view_View_RoomsOf_1.f k a0_ a0 a1)).bind fun t1496 => some t1496
/-! (*concourse/view.View).Peers: function 44 -/
def view_View_Peers.l0 (k : Nat) (a0 : VView) (t1507 : (List ByteArray)) : Nat → Int → List ByteArray → Option (Int × Int × Bool × (List ByteArray) × (List ByteArray))
  | 0, _, _ => none
  | j1523 + 1, x1510, x1511 => cond (decide (x1510 < (t1507.length : Int))) (grd ((0 : Int) ≤ x1510 ∧ x1510 < (t1507.length : Int)) ((view_View_Servers.f k a0 (t1507.getD x1510.toNat default)).bind fun t1518 => grd (x1511.length + t1518.length ≤ 9223372036854775807 ∧ (x1511.length + t1518.length) * 16 ≤ 140737488355328) (view_View_Peers.l0 k a0 t1507 j1523 (w64 (x1510 + 1)) (x1511 ++ t1518)))) (some ((t1507.length : Int), x1510, decide (x1510 < (t1507.length : Int)), x1511, t1507))
def view_View_Peers.f (k : Nat) (a0 : VView) (a1 : ByteArray) : Option ((List ByteArray)) := ((view_View_RoomsOf.f k a0 a1).bind fun t1507 => view_View_Peers.l0 k a0 t1507 k 0 ([] : List ByteArray)).bind fun (p1499 : Int × Int × Bool × (List ByteArray) × (List ByteArray)) => (slices_Sort_string.f p1499.2.2.2.1).bind fun t1502 => (slices_Compact_string.f t1502).bind fun t1504 => some t1504
/-! (*concourse/view.View).Friends$1: function 81 -/
def view_View_Friends_1.f (k : Nat) (a0 : ByteArray) (c0 : VView) (c1 : ByteArray) : Option (Bool) := (view_View_Joined.f k c0 a0 c1).bind fun t1526 => some t1526
/-! (*concourse/view.View).Friends: function 45 -/
def view_View_Friends.f (k : Nat) (a0 : VView) (a1 : ByteArray) (a2 : ByteArray) : Option (Bool) := (view_View_RoomsOf.f k a0 a1).bind fun t1530 => (slices_ContainsFunc_string_xw.f k t1530 (fun a0_ => view_View_Friends_1.f k a0_ a0 a2)).bind fun t1535 => some t1535
/-! concourse/concourseref10.Friends: function 46 -/
def concourseref10_Friends.l0 (k : Nat) (a0 : RView) (a2 : ByteArray) (t1538 : (List ByteArray)) : Nat → Int → Option ((Int × Bool) ⊕ (Bool))
  | 0, _ => none
  | j1549 + 1, x1542 => cond (decide (x1542 < (t1538.length : Int))) (grd ((0 : Int) ≤ x1542 ∧ x1542 < (t1538.length : Int)) ((concourseref10_Joined.f k a0 (t1538.getD x1542.toNat default) a2).bind fun t1546 => cond t1546 (some (.inr true)) (concourseref10_Friends.l0 k a0 a2 t1538 j1549 (w64 (x1542 + 1))))) (some (.inl (x1542, decide (x1542 < (t1538.length : Int)))))
def concourseref10_Friends.f (k : Nat) (a0 : RView) (a1 : ByteArray) (a2 : ByteArray) : Option (Bool) := (concourseref10_RoomsOf.f k a0 a1).bind fun t1538 => (concourseref10_Friends.l0 k a0 a2 t1538 k 0).bind (fall fun (p1541 : Int × Bool) => some false)
/-! (*concourse/view.View).Shares: function 47 -/
def view_View_Shares.f (k : Nat) (a0 : VView) (a1 : ByteArray) (a2 : ByteArray) : Option (Bool) := (view_View_Peers.f k a0 a1).bind fun t1551 => (slices_Contains_string.f k t1551 a2).bind fun t1554 => some t1554
/-! concourse/concourselaw10.ViewShares: function 7 -/
def concourselaw10_ViewShares.l0 (k : Nat) (a2 : Int) (t1556 : (Option VView) × RView) (t1561 : ByteArray) : Nat → Int → Option ((Int × Bool) ⊕ (Bool))
  | 0, _ => none
  | j1627 + 1, x1566 => cond (decide (x1566 < 10)) ((concourseref01_UserOf.f (x1566.tmod 9)).bind fun t1568 => (cond (x1566 == 9) (some t1561) (some t1568)).bind fun (p1570 : ByteArray) => (concourseref01_UserOf.f a2).bind fun t1571 => (concourseref10_Peers.f k t1556.2 p1570).bind fun t1573 => (view_View_RoomsOf.f k (t1556.1.getD default) p1570).bind fun t1576 => (concourseref10_RoomsOf.f k t1556.2 p1570).bind fun t1579 => (concourseref01_SameTexts.f k t1576 t1579).bind fun t1582 => cond (!t1582) (some (.inr false)) ((view_View_Peers.f k (t1556.1.getD default) p1570).bind fun t1586 => (concourseref01_SameTexts.f k t1586 t1573).bind fun t1589 => cond (!t1589) (some (.inr false)) ((view_View_Friends.f k (t1556.1.getD default) p1570 t1571).bind fun t1593 => (concourseref10_Friends.f k t1556.2 p1570 t1571).bind fun t1595 => cond (t1593 != t1595) (some (.inr false)) ((view_View_Friends.f k (t1556.1.getD default) t1571 p1570).bind fun t1599 => (concourseref10_Friends.f k t1556.2 p1570 t1571).bind fun t1601 => cond (t1599 != t1601) (some (.inr false)) ((view_View_Friends.f k (t1556.1.getD default) p1570 p1570).bind fun t1605 => (concourseref10_RoomsOf.f k t1556.2 p1570).bind fun t1607 => cond (t1605 != (decide (0 < (t1607.length : Int)))) (some (.inr false)) ((concourseref01_ServerOf.f a2).bind fun t1611 => (view_View_Shares.f k (t1556.1.getD default) p1570 t1611).bind fun t1613 => (concourseref01_ServerOf.f a2).bind fun t1615 => (concourseref09_Has.f k t1573 t1615).bind fun t1617 => cond (t1613 != t1617) (some (.inr false)) ((view_View_Shares.f k (t1556.1.getD default) p1570 t1561).bind fun t1621 => (concourseref09_Has.f k t1573 t1561).bind fun t1623 => cond (t1621 != t1623) (some (.inr false)) (concourselaw10_ViewShares.l0 k a2 t1556 t1561 j1627 (w64 (x1566 + 1)))))))))) (some (.inl (x1566, decide (x1566 < 10))))
def concourselaw10_ViewShares.f (k : Nat) (a0 : List GMade) (a1 : List GMade) (a2 : Int) (a3 : ByteArray) : Option (Bool) := (concourselaw10_build.f k a0 a1).bind fun t1556 => cond t1556.1.isNone (some false) ((concourseref01_Few.f a3 8).bind fun t1561 => (concourselaw10_ViewShares.l0 k a2 t1556 t1561 k 0).bind (fall fun (p1563 : Int × Bool) => (concourselaw10_lives.f k).bind fun t1564 => some t1564))
end Go.Proofs.YtigmkniiojpdiaaGreat
