/- The walks. -/
import Derived.Test.YtmbodanckhidiaaGreatChecked
import Derived.Test.YtmbodanckhidiaaGreatConQ
import Derived.Eval
set_option linter.all false
set_option maxRecDepth 10000
set_option maxHeartbeats 20000000
namespace Go.Proofs.YtmbodanckhidiaaGreat
open Go Go.Sp
theorem c117 : Tryz.prog.cellsOf 117 = 1 := by kernel_rfl
theorem c118 : Tryz.prog.cellsOf 118 = 1 := by kernel_rfl
theorem c22 : Tryz.prog.cellsOf 22 = 1 := by kernel_rfl
theorem c23 : Tryz.prog.cellsOf 23 = 1 := by kernel_rfl
theorem c28 : Tryz.prog.cellsOf 28 = 2 := by kernel_rfl
theorem c3 : Tryz.prog.cellsOf 3 = 1 := by kernel_rfl
theorem c30 : Tryz.prog.cellsOf 30 = 11 := by kernel_rfl
theorem c4 : Tryz.prog.cellsOf 4 = 1 := by kernel_rfl
theorem c5 : Tryz.prog.cellsOf 5 = 1 := by kernel_rfl
theorem c53 : Tryz.prog.cellsOf 53 = 1 := by kernel_rfl
theorem c58 : Tryz.prog.cellsOf 58 = 1 := by kernel_rfl
theorem c72 : Tryz.prog.cellsOf 72 = 2 := by kernel_rfl
theorem c77 : Tryz.prog.cellsOf 77 = 1 := by kernel_rfl
theorem c78 : Tryz.prog.cellsOf 78 = 1 := by kernel_rfl
theorem c87 : Tryz.prog.cellsOf 87 = 5 := by kernel_rfl
theorem c9 : Tryz.prog.cellsOf 9 = 1 := by kernel_rfl
theorem cal10 : callable Tryz.prog 10 = true := by kernel_rfl
theorem cal100 : callable Tryz.prog 100 = true := by kernel_rfl
theorem cal101 : callable Tryz.prog 101 = true := by kernel_rfl
theorem cal102 : callable Tryz.prog 102 = true := by kernel_rfl
theorem cal103 : callable Tryz.prog 103 = true := by kernel_rfl
theorem cal104 : callable Tryz.prog 104 = true := by kernel_rfl
theorem cal106 : callable Tryz.prog 106 = true := by kernel_rfl
theorem cal107 : callable Tryz.prog 107 = true := by kernel_rfl
theorem cal108 : callable Tryz.prog 108 = true := by kernel_rfl
theorem cal11 : callable Tryz.prog 11 = true := by kernel_rfl
theorem cal110 : callable Tryz.prog 110 = true := by kernel_rfl
theorem cal119 : callable Tryz.prog 119 = true := by kernel_rfl
theorem cal12 : callable Tryz.prog 12 = true := by kernel_rfl
theorem cal120 : callable Tryz.prog 120 = true := by kernel_rfl
theorem cal121 : callable Tryz.prog 121 = true := by kernel_rfl
theorem cal125 : callable Tryz.prog 125 = true := by kernel_rfl
theorem cal126 : callable Tryz.prog 126 = true := by kernel_rfl
theorem cal127 : callable Tryz.prog 127 = true := by kernel_rfl
theorem cal128 : callable Tryz.prog 128 = true := by kernel_rfl
theorem cal129 : callable Tryz.prog 129 = true := by kernel_rfl
theorem cal13 : callable Tryz.prog 13 = true := by kernel_rfl
theorem cal130 : callable Tryz.prog 130 = true := by kernel_rfl
theorem cal14 : callable Tryz.prog 14 = true := by kernel_rfl
theorem cal15 : callable Tryz.prog 15 = true := by kernel_rfl
theorem cal16 : callable Tryz.prog 16 = true := by kernel_rfl
theorem cal17 : callable Tryz.prog 17 = true := by kernel_rfl
theorem cal18 : callable Tryz.prog 18 = true := by kernel_rfl
theorem cal19 : callable Tryz.prog 19 = true := by kernel_rfl
theorem cal20 : callable Tryz.prog 20 = true := by kernel_rfl
theorem cal21 : callable Tryz.prog 21 = true := by kernel_rfl
theorem cal22 : callable Tryz.prog 22 = true := by kernel_rfl
theorem cal23 : callable Tryz.prog 23 = true := by kernel_rfl
theorem cal24 : callable Tryz.prog 24 = true := by kernel_rfl
theorem cal25 : callable Tryz.prog 25 = true := by kernel_rfl
theorem cal26 : callable Tryz.prog 26 = true := by kernel_rfl
theorem cal27 : callable Tryz.prog 27 = true := by kernel_rfl
theorem cal28 : callable Tryz.prog 28 = true := by kernel_rfl
theorem cal29 : callable Tryz.prog 29 = true := by kernel_rfl
theorem cal30 : callable Tryz.prog 30 = true := by kernel_rfl
theorem cal31 : callable Tryz.prog 31 = true := by kernel_rfl
theorem cal32 : callable Tryz.prog 32 = true := by kernel_rfl
theorem cal33 : callable Tryz.prog 33 = true := by kernel_rfl
theorem cal34 : callable Tryz.prog 34 = true := by kernel_rfl
theorem cal35 : callable Tryz.prog 35 = true := by kernel_rfl
theorem cal36 : callable Tryz.prog 36 = true := by kernel_rfl
theorem cal37 : callable Tryz.prog 37 = true := by kernel_rfl
theorem cal38 : callable Tryz.prog 38 = true := by kernel_rfl
theorem cal39 : callable Tryz.prog 39 = true := by kernel_rfl
theorem cal40 : callable Tryz.prog 40 = true := by kernel_rfl
theorem cal41 : callable Tryz.prog 41 = true := by kernel_rfl
theorem cal42 : callable Tryz.prog 42 = true := by kernel_rfl
theorem cal43 : callable Tryz.prog 43 = true := by kernel_rfl
theorem cal44 : callable Tryz.prog 44 = true := by kernel_rfl
theorem cal45 : callable Tryz.prog 45 = true := by kernel_rfl
theorem cal46 : callable Tryz.prog 46 = true := by kernel_rfl
theorem cal47 : callable Tryz.prog 47 = true := by kernel_rfl
theorem cal48 : callable Tryz.prog 48 = true := by kernel_rfl
theorem cal49 : callable Tryz.prog 49 = true := by kernel_rfl
theorem cal5 : callable Tryz.prog 5 = true := by kernel_rfl
theorem cal50 : callable Tryz.prog 50 = true := by kernel_rfl
theorem cal51 : callable Tryz.prog 51 = true := by kernel_rfl
theorem cal52 : callable Tryz.prog 52 = true := by kernel_rfl
theorem cal55 : callable Tryz.prog 55 = true := by kernel_rfl
theorem cal56 : callable Tryz.prog 56 = true := by kernel_rfl
theorem cal57 : callable Tryz.prog 57 = true := by kernel_rfl
theorem cal58 : callable Tryz.prog 58 = true := by kernel_rfl
theorem cal6 : callable Tryz.prog 6 = true := by kernel_rfl
theorem cal61 : callable Tryz.prog 61 = true := by kernel_rfl
theorem cal62 : callable Tryz.prog 62 = true := by kernel_rfl
theorem cal63 : callable Tryz.prog 63 = true := by kernel_rfl
theorem cal64 : callable Tryz.prog 64 = true := by kernel_rfl
theorem cal65 : callable Tryz.prog 65 = true := by kernel_rfl
theorem cal66 : callable Tryz.prog 66 = true := by kernel_rfl
theorem cal67 : callable Tryz.prog 67 = true := by kernel_rfl
theorem cal68 : callable Tryz.prog 68 = true := by kernel_rfl
theorem cal69 : callable Tryz.prog 69 = true := by kernel_rfl
theorem cal7 : callable Tryz.prog 7 = true := by kernel_rfl
theorem cal70 : callable Tryz.prog 70 = true := by kernel_rfl
theorem cal71 : callable Tryz.prog 71 = true := by kernel_rfl
theorem cal72 : callable Tryz.prog 72 = true := by kernel_rfl
theorem cal73 : callable Tryz.prog 73 = true := by kernel_rfl
theorem cal74 : callable Tryz.prog 74 = true := by kernel_rfl
theorem cal75 : callable Tryz.prog 75 = true := by kernel_rfl
theorem cal76 : callable Tryz.prog 76 = true := by kernel_rfl
theorem cal78 : callable Tryz.prog 78 = true := by kernel_rfl
theorem cal79 : callable Tryz.prog 79 = true := by kernel_rfl
theorem cal8 : callable Tryz.prog 8 = true := by kernel_rfl
theorem cal9 : callable Tryz.prog 9 = true := by kernel_rfl
theorem cal91 : callable Tryz.prog 91 = true := by kernel_rfl
theorem cal92 : callable Tryz.prog 92 = true := by kernel_rfl
theorem cal93 : callable Tryz.prog 93 = true := by kernel_rfl
theorem cal94 : callable Tryz.prog 94 = true := by kernel_rfl
theorem cal95 : callable Tryz.prog 95 = true := by kernel_rfl
theorem cal96 : callable Tryz.prog 96 = true := by kernel_rfl
theorem cal97 : callable Tryz.prog 97 = true := by kernel_rfl
theorem cal98 : callable Tryz.prog 98 = true := by kernel_rfl
theorem cal99 : callable Tryz.prog 99 = true := by kernel_rfl
theorem eg30 : Tryz.prog.eqGuardType Tryz.prog.depth 30 = false := by kernel_rfl
theorem eg87 : Tryz.prog.eqGuardType Tryz.prog.depth 87 = false := by kernel_rfl
theorem inf30 : ∃ i, Tryz.prog.info? 30 = some i ∧ i.size = 11 ∧ i.zero = some (.agg #[.int .i64 0, .string ⟨#[]⟩, .string ⟨#[]⟩, .string ⟨#[]⟩, .string ⟨#[]⟩, .bool false, .bool false, .int .i64 0, .int .i64 0, .int .i64 0, .int .i64 0]) ∧ i.bytes = 112 := inf_of (by kernel_rfl) (by kernel_rfl) (by kernel_rfl)
theorem inf4 : ∃ i, Tryz.prog.info? 4 = some i ∧ i.size = 1 ∧ i.zero = some (.bool false) ∧ i.bytes = 1 := inf_of (by kernel_rfl) (by kernel_rfl) (by kernel_rfl)
theorem inf5 : ∃ i, Tryz.prog.info? 5 = some i ∧ i.size = 1 ∧ i.zero = some (.int .u8 0) ∧ i.bytes = 1 := inf_of (by kernel_rfl) (by kernel_rfl) (by kernel_rfl)
theorem inf72 : ∃ i, Tryz.prog.info? 72 = some i ∧ i.size = 2 ∧ i.zero = some (.agg #[.int .i64 0, .string ⟨#[]⟩]) ∧ i.bytes = 24 := inf_of (by kernel_rfl) (by kernel_rfl) (by kernel_rfl)
theorem inf9 : ∃ i, Tryz.prog.info? 9 = some i ∧ i.size = 1 ∧ i.zero = some (.string ⟨#[]⟩) ∧ i.bytes = 16 := inf_of (by kernel_rfl) (by kernel_rfl) (by kernel_rfl)
theorem fa28_0 : FA Tryz.prog 28 0 0 := ⟨_, _, _, _, Tryz.underlying28, rfl, Tryz.underlying22, c22, by decide, rfl⟩
theorem fa28_1 : FA Tryz.prog 28 1 1 := ⟨_, _, _, _, Tryz.underlying28, rfl, Tryz.underlying23, c23, by decide, rfl⟩
theorem fa30_0 : FA Tryz.prog 30 0 0 := ⟨_, _, _, _, Tryz.underlying30, rfl, Tryz.underlying3, c3, by decide, rfl⟩
theorem fa30_1 : FA Tryz.prog 30 1 1 := ⟨_, _, _, _, Tryz.underlying30, rfl, Tryz.underlying9, c9, by decide, rfl⟩
theorem fa30_10 : FA Tryz.prog 30 10 10 := ⟨_, _, _, _, Tryz.underlying30, rfl, Tryz.underlying3, c3, by decide, rfl⟩
theorem fa30_2 : FA Tryz.prog 30 2 2 := ⟨_, _, _, _, Tryz.underlying30, rfl, Tryz.underlying9, c9, by decide, rfl⟩
theorem fa30_3 : FA Tryz.prog 30 3 3 := ⟨_, _, _, _, Tryz.underlying30, rfl, Tryz.underlying9, c9, by decide, rfl⟩
theorem fa30_4 : FA Tryz.prog 30 4 4 := ⟨_, _, _, _, Tryz.underlying30, rfl, Tryz.underlying9, c9, by decide, rfl⟩
theorem fa30_5 : FA Tryz.prog 30 5 5 := ⟨_, _, _, _, Tryz.underlying30, rfl, Tryz.underlying4, c4, by decide, rfl⟩
theorem fa30_6 : FA Tryz.prog 30 6 6 := ⟨_, _, _, _, Tryz.underlying30, rfl, Tryz.underlying4, c4, by decide, rfl⟩
theorem fa30_7 : FA Tryz.prog 30 7 7 := ⟨_, _, _, _, Tryz.underlying30, rfl, Tryz.underlying3, c3, by decide, rfl⟩
theorem fa30_8 : FA Tryz.prog 30 8 8 := ⟨_, _, _, _, Tryz.underlying30, rfl, Tryz.underlying3, c3, by decide, rfl⟩
theorem fa30_9 : FA Tryz.prog 30 9 9 := ⟨_, _, _, _, Tryz.underlying30, rfl, Tryz.underlying3, c3, by decide, rfl⟩
theorem fa56_0 : FA Tryz.prog 56 0 0 := ⟨_, _, _, _, Tryz.underlying56, rfl, Tryz.underlying22, c22, by decide, rfl⟩
theorem fa56_1 : FA Tryz.prog 56 1 1 := ⟨_, _, _, _, Tryz.underlying56, rfl, Tryz.underlying53, c53, by decide, rfl⟩
theorem fa72_0 : FA Tryz.prog 72 0 0 := ⟨_, _, _, _, Tryz.underlying72, rfl, Tryz.underlying3, c3, by decide, rfl⟩
theorem fa72_1 : FA Tryz.prog 72 1 1 := ⟨_, _, _, _, Tryz.underlying72, rfl, Tryz.underlying9, c9, by decide, rfl⟩
theorem fa80_0 : FA Tryz.prog 80 0 0 := ⟨_, _, _, _, Tryz.underlying80, rfl, Tryz.underlying78, c78, by decide, rfl⟩
theorem fa80_1 : FA Tryz.prog 80 1 1 := ⟨_, _, _, _, Tryz.underlying80, rfl, Tryz.underlying77, c77, by decide, rfl⟩
theorem sc118 : SC Tryz.prog 118 := ⟨_, Tryz.underlying118, rfl⟩
theorem sc22 : SC Tryz.prog 22 := ⟨_, Tryz.underlying22, rfl⟩
theorem sc23 : SC Tryz.prog 23 := ⟨_, Tryz.underlying23, rfl⟩
theorem sc3 : SC Tryz.prog 3 := ⟨_, Tryz.underlying3, rfl⟩
theorem sc4 : SC Tryz.prog 4 := ⟨_, Tryz.underlying4, rfl⟩
theorem sc53 : SC Tryz.prog 53 := ⟨_, Tryz.underlying53, rfl⟩
theorem sc58 : SC Tryz.prog 58 := ⟨_, Tryz.underlying58, rfl⟩
theorem sc77 : SC Tryz.prog 77 := ⟨_, Tryz.underlying77, rfl⟩
theorem sc78 : SC Tryz.prog 78 := ⟨_, Tryz.underlying78, rfl⟩
theorem sc9 : SC Tryz.prog 9 := ⟨_, Tryz.underlying9, rfl⟩
theorem sg28 : SG Tryz.prog 28 2 := ⟨_, Tryz.underlying28, rfl, c28⟩
theorem sg30 : SG Tryz.prog 30 11 := ⟨_, Tryz.underlying30, rfl, c30⟩
theorem sg72 : SG Tryz.prog 72 2 := ⟨_, Tryz.underlying72, rfl, c72⟩
theorem sz118 : SZ Tryz.prog 118 1 := ⟨_, Tryz.underlying118, c118⟩
theorem sz22 : SZ Tryz.prog 22 1 := ⟨_, Tryz.underlying22, c22⟩
theorem sz23 : SZ Tryz.prog 23 1 := ⟨_, Tryz.underlying23, c23⟩
theorem sz28 : SZ Tryz.prog 28 2 := ⟨_, Tryz.underlying28, c28⟩
theorem sz3 : SZ Tryz.prog 3 1 := ⟨_, Tryz.underlying3, c3⟩
theorem sz30 : SZ Tryz.prog 30 11 := ⟨_, Tryz.underlying30, c30⟩
theorem sz4 : SZ Tryz.prog 4 1 := ⟨_, Tryz.underlying4, c4⟩
theorem sz72 : SZ Tryz.prog 72 2 := ⟨_, Tryz.underlying72, c72⟩
theorem sz78 : SZ Tryz.prog 78 1 := ⟨_, Tryz.underlying78, c78⟩
theorem sz87 : SZ Tryz.prog 87 5 := ⟨_, Tryz.underlying87, c87⟩
theorem sz9 : SZ Tryz.prog 9 1 := ⟨_, Tryz.underlying9, c9⟩
theorem pl28 : plcT Tryz.prog 28 = true := by kernel_rfl
theorem pl30 : plcT Tryz.prog 30 = true := by kernel_rfl
theorem pl56 : plcT Tryz.prog 56 = true := by kernel_rfl
theorem pl72 : plcT Tryz.prog 72 = true := by kernel_rfl
theorem pl80 : plcT Tryz.prog 80 = true := by kernel_rfl
theorem pl87 : plcT Tryz.prog 87 = true := by kernel_rfl
theorem st30 : Tryz.prog.stoodInHeld 30 = false := by kernel_rfl
theorem st87 : Tryz.prog.stoodInHeld 87 = false := by kernel_rfl
theorem xf105 : (Extern.findNext Tryz.f105).isNone = true := by kernel_rfl
theorem xf122 : (Extern.findNext Tryz.f122).isNone = true := by kernel_rfl
theorem xf53 : (Extern.findNext Tryz.f53).isNone = true := by kernel_rfl
theorem xg105 : Extern.find Tryz.f105 = some Extern.BytealgCompare.compare := by rfl
theorem xg122 : Extern.find Tryz.f122 = some Extern.BytealgIndexByte.indexByte := by rfl
theorem xg53 : Extern.find Tryz.f53 = some (Extern.SlicesOverlaps.overlaps Tryz.f53.params Tryz.f53.resultTypes) := by rfl
theorem z118 : zer Tryz.prog 118 = some .nilFunc := by kernel_rfl
theorem z140 : zer Tryz.prog 140 = some (.agg #[.nilFunc, .nilFunc, .nilFunc]) := by kernel_rfl
theorem z28 : zer Tryz.prog 28 = some (.agg #[.slice none 0 0, .slice none 0 0]) := by kernel_rfl
theorem z3 : zer Tryz.prog 3 = some (.int .i64 0) := by kernel_rfl
theorem z30 : zer Tryz.prog 30 = some (.agg #[.int .i64 0, .string ⟨#[]⟩, .string ⟨#[]⟩, .string ⟨#[]⟩, .string ⟨#[]⟩, .bool false, .bool false, .int .i64 0, .int .i64 0, .int .i64 0, .int .i64 0]) := by kernel_rfl
theorem z4 : zer Tryz.prog 4 = some (.bool false) := by kernel_rfl
theorem z5 : zer Tryz.prog 5 = some (.int .u8 0) := by kernel_rfl
theorem z56 : zer Tryz.prog 56 = some (.agg #[.slice none 0 0, .pointer none]) := by kernel_rfl
theorem z58 : zer Tryz.prog 58 = some .nilFunc := by kernel_rfl
theorem z72 : zer Tryz.prog 72 = some (.agg #[.int .i64 0, .string ⟨#[]⟩]) := by kernel_rfl
theorem z80 : zer Tryz.prog 80 = some (.agg #[.slice none 0 0, .map none]) := by kernel_rfl
theorem z87 : zer Tryz.prog 87 = some (.agg #[.int .i64 0, .string ⟨#[]⟩, .string ⟨#[]⟩, .string ⟨#[]⟩, .bool false]) := by kernel_rfl
theorem z9 : zer Tryz.prog 9 = some (.string ⟨#[]⟩) := by kernel_rfl
theorem zc118 : ZC Tryz.prog 118 [eq .nilFunc] := ⟨_, z118, rfl⟩
theorem zc28 : ZC Tryz.prog 28 [eq (.slice none 0 0), eq (.slice none 0 0)] := ⟨_, z28, rfl⟩
theorem zc30 : ZC Tryz.prog 30 [eq (.int .i64 0), eq (.string (⟨#[]⟩ : ByteArray)), eq (.string (⟨#[]⟩ : ByteArray)), eq (.string (⟨#[]⟩ : ByteArray)), eq (.string (⟨#[]⟩ : ByteArray)), eq (.bool false), eq (.bool false), eq (.int .i64 0), eq (.int .i64 0), eq (.int .i64 0), eq (.int .i64 0)] := ⟨_, z30, rfl⟩
theorem zc72 : ZC Tryz.prog 72 [eq (.int .i64 0), eq (.string (⟨#[]⟩ : ByteArray))] := ⟨_, z72, rfl⟩
theorem zc87 : ZC Tryz.prog 87 [eq (.int .i64 0), eq (.string (⟨#[]⟩ : ByteArray)), eq (.string (⟨#[]⟩ : ByteArray)), eq (.string (⟨#[]⟩ : ByteArray)), eq (.bool false)] := ⟨_, z87, rfl⟩
structure HEnt where
  fAt : Int
  fKey : ByteArray
  deriving DecidableEq, Inhabited
abbrev HEnt.enc (x : HEnt) : Cs := [eq (.int .i64 x.fAt), eq (.string x.fKey)]
abbrev HEnt.K : Kd HEnt := ⟨2, default, HEnt.enc, fun _ => rfl, fun _ => (ones_cons (one_eq rfl) (ones_cons (one_eq rfl) ones_nil))⟩
structure HHeap where
  fl : List HEnt
  fat : List (ByteArray × Int)
  deriving DecidableEq, Inhabited
structure Edu where
  fKind : Int
  fRoom : ByteArray
  fUser : ByteArray
  fEvent : ByteArray
  fThread : ByteArray
  fPrivate : Bool
  fOn : Bool
  fSpan : Int
  fState : Int
  fTick : Int
  fStamp : Int
  deriving DecidableEq, Inhabited
abbrev Edu.enc (x : Edu) : Cs := [eq (.int .i64 x.fKind), eq (.string x.fRoom), eq (.string x.fUser), eq (.string x.fEvent), eq (.string x.fThread), eq (.bool x.fPrivate), eq (.bool x.fOn), eq (.int .i64 x.fSpan), eq (.int .i64 x.fState), eq (.int .i64 x.fTick), eq (.int .i64 x.fStamp)]
abbrev Edu.K : Kd Edu := ⟨11, default, Edu.enc, fun _ => rfl, fun _ => (ones_cons (one_eq rfl) (ones_cons (one_eq rfl) (ones_cons (one_eq rfl) (ones_cons (one_eq rfl) (ones_cons (one_eq rfl) (ones_cons (one_eq rfl) (ones_cons (one_eq rfl) (ones_cons (one_eq rfl) (ones_cons (one_eq rfl) (ones_cons (one_eq rfl) (ones_cons (one_eq rfl) ones_nil)))))))))))⟩
structure TTab where
  fl : List Edu
  fends : HHeap
  deriving DecidableEq, Inhabited
structure EKey where
  fKind : Int
  fRoom : ByteArray
  fUser : ByteArray
  fThread : ByteArray
  fPrivate : Bool
  deriving DecidableEq, Inhabited
abbrev EKey.enc (x : EKey) : Cs := [eq (.int .i64 x.fKind), eq (.string x.fRoom), eq (.string x.fUser), eq (.string x.fThread), eq (.bool x.fPrivate)]
abbrev EKey.K : Kd EKey := ⟨5, default, EKey.enc, fun _ => rfl, fun _ => (ones_cons (one_eq rfl) (ones_cons (one_eq rfl) (ones_cons (one_eq rfl) (ones_cons (one_eq rfl) (ones_cons (one_eq rfl) ones_nil)))))⟩
structure TRef where
  fL : List Edu
  fTold : List Bool
  deriving DecidableEq, Inhabited
abbrev TRef.enc (x : TRef) : Cs := [sl Edu.K x.fL, sl boolK x.fTold]
abbrev TRef.K : Kd TRef := ⟨2, default, TRef.enc, fun _ => rfl, fun _ => (ones_cons one_sl (ones_cons one_sl ones_nil))⟩
theorem eqt30 (x y : Edu) {d : Nat} {w : World} : (Op.equalIn (d + 2) 30 (.agg [.int .i64 x.fKind, .string x.fRoom, .string x.fUser, .string x.fEvent, .string x.fThread, .bool x.fPrivate, .bool x.fOn, .int .i64 x.fSpan, .int .i64 x.fState, .int .i64 x.fTick, .int .i64 x.fStamp].toArray) (.agg [.int .i64 y.fKind, .string y.fRoom, .string y.fUser, .string y.fEvent, .string y.fThread, .bool y.fPrivate, .bool y.fOn, .int .i64 y.fSpan, .int .i64 y.fState, .int .i64 y.fTick, .int .i64 y.fStamp].toArray)).run Tryz.prog w = .ok (decide (x = y)) w := by
  have e : decide (x = y) = ((decide (x.fKind = y.fKind) && (decide (x.fRoom = y.fRoom) && (decide (x.fUser = y.fUser) && (decide (x.fEvent = y.fEvent) && (decide (x.fThread = y.fThread) && (decide (x.fPrivate = y.fPrivate) && (decide (x.fOn = y.fOn) && (decide (x.fSpan = y.fSpan) && (decide (x.fState = y.fState) && (decide (x.fTick = y.fTick) && (decide (x.fStamp = y.fStamp) && true)))))))))))) := by cases x; cases y; rw [Bool.eq_iff_iff]; simp
  rw [e]
  exact eq_struct Tryz.underlying30 st30 (eqF_cons (by decide) (run_part1 Tryz.underlying3 rfl rfl) (run_part1 Tryz.underlying3 rfl rfl) (eq_int Tryz.underlying3) (eqF_cons (by decide) (run_part1 Tryz.underlying9 rfl rfl) (run_part1 Tryz.underlying9 rfl rfl) (eq_str Tryz.underlying9) (eqF_cons (by decide) (run_part1 Tryz.underlying9 rfl rfl) (run_part1 Tryz.underlying9 rfl rfl) (eq_str Tryz.underlying9) (eqF_cons (by decide) (run_part1 Tryz.underlying9 rfl rfl) (run_part1 Tryz.underlying9 rfl rfl) (eq_str Tryz.underlying9) (eqF_cons (by decide) (run_part1 Tryz.underlying9 rfl rfl) (run_part1 Tryz.underlying9 rfl rfl) (eq_str Tryz.underlying9) (eqF_cons (by decide) (run_part1 Tryz.underlying4 rfl rfl) (run_part1 Tryz.underlying4 rfl rfl) (eq_bool Tryz.underlying4) (eqF_cons (by decide) (run_part1 Tryz.underlying4 rfl rfl) (run_part1 Tryz.underlying4 rfl rfl) (eq_bool Tryz.underlying4) (eqF_cons (by decide) (run_part1 Tryz.underlying3 rfl rfl) (run_part1 Tryz.underlying3 rfl rfl) (eq_int Tryz.underlying3) (eqF_cons (by decide) (run_part1 Tryz.underlying3 rfl rfl) (run_part1 Tryz.underlying3 rfl rfl) (eq_int Tryz.underlying3) (eqF_cons (by decide) (run_part1 Tryz.underlying3 rfl rfl) (run_part1 Tryz.underlying3 rfl rfl) (eq_int Tryz.underlying3) (eqF_cons (by decide) (run_part1 Tryz.underlying3 rfl rfl) (run_part1 Tryz.underlying3 rfl rfl) (eq_int Tryz.underlying3) eqF_nil)))))))))))
theorem eqt87 (x y : EKey) {d : Nat} {w : World} : (Op.equalIn (d + 2) 87 (.agg [.int .i64 x.fKind, .string x.fRoom, .string x.fUser, .string x.fThread, .bool x.fPrivate].toArray) (.agg [.int .i64 y.fKind, .string y.fRoom, .string y.fUser, .string y.fThread, .bool y.fPrivate].toArray)).run Tryz.prog w = .ok (decide (x = y)) w := by
  have e : decide (x = y) = ((decide (x.fKind = y.fKind) && (decide (x.fRoom = y.fRoom) && (decide (x.fUser = y.fUser) && (decide (x.fThread = y.fThread) && (decide (x.fPrivate = y.fPrivate) && true)))))) := by cases x; cases y; rw [Bool.eq_iff_iff]; simp
  rw [e]
  exact eq_struct Tryz.underlying87 st87 (eqF_cons (by decide) (run_part1 Tryz.underlying3 rfl rfl) (run_part1 Tryz.underlying3 rfl rfl) (eq_int Tryz.underlying3) (eqF_cons (by decide) (run_part1 Tryz.underlying9 rfl rfl) (run_part1 Tryz.underlying9 rfl rfl) (eq_str Tryz.underlying9) (eqF_cons (by decide) (run_part1 Tryz.underlying9 rfl rfl) (run_part1 Tryz.underlying9 rfl rfl) (eq_str Tryz.underlying9) (eqF_cons (by decide) (run_part1 Tryz.underlying9 rfl rfl) (run_part1 Tryz.underlying9 rfl rfl) (eq_str Tryz.underlying9) (eqF_cons (by decide) (run_part1 Tryz.underlying4 rfl rfl) (run_part1 Tryz.underlying4 rfl rfl) (eq_bool Tryz.underlying4) eqF_nil)))))
def HHeap.O (p : OV) (m : HHeap) : As := exA (γ := Nat × OV × OV) (fun g => p.1 = .pointer (some ⟨g.1, 0, none⟩)) (fun g => [blk g.1 80 [eq g.2.1.1, eq g.2.2.1], own HEnt.K g.2.1.1 m.fl, mp Value.string (fun x : Int => eq (.int .i64 x)) g.2.2.1 m.fat])
theorem HHeap.nn {p : OV} {m : HHeap} : NN (HHeap.O p m) p.1 := by unfold HHeap.O; exact nn_ex (γ := Nat × OV × OV) (b := fun g => g.1)
theorem HHeap.opn {l : List As} {p : OV} {m : HHeap} (j : Nat) (hj : l[j]? = some (HHeap.O p m)) : ∀ R w, St R l w → ∃ g : Nat × OV × OV, p.1 = .pointer (some ⟨g.1, 0, none⟩) ∧ St R ([blk g.1 80 [eq g.2.1.1, eq g.2.2.1], own HEnt.K g.2.1.1 m.fl, mp Value.string (fun x : Int => eq (.int .i64 x)) g.2.2.1 m.fat] ++ l.eraseIdx j) w := st_open j hj
theorem HHeap.shut {l r : List As} {p : OV} {m : HHeap} (g : Nat × OV × OV) (hg : p.1 = .pointer (some ⟨g.1, 0, none⟩)) (hp : l.Perm ([blk g.1 80 [eq g.2.1.1, eq g.2.2.1], own HEnt.K g.2.1.1 m.fl, mp Value.string (fun x : Int => eq (.int .i64 x)) g.2.2.1 m.fat] ++ r)) : ∀ R w, St R l w → ∃ _ : Unit, True ∧ St R (HHeap.O p m :: r) w := st_shut _ _ g hg hp
def TTab.O (p : OV) (m : TTab) : As := exA (γ := Nat × OV × OV) (fun g => p.1 = .pointer (some ⟨g.1, 0, none⟩)) (fun g => [blk g.1 56 [eq g.2.1.1, eq g.2.2.1], own Edu.K g.2.1.1 m.fl, HHeap.O g.2.2 m.fends])
theorem TTab.nn {p : OV} {m : TTab} : NN (TTab.O p m) p.1 := by unfold TTab.O; exact nn_ex (γ := Nat × OV × OV) (b := fun g => g.1)
theorem TTab.opn {l : List As} {p : OV} {m : TTab} (j : Nat) (hj : l[j]? = some (TTab.O p m)) : ∀ R w, St R l w → ∃ g : Nat × OV × OV, p.1 = .pointer (some ⟨g.1, 0, none⟩) ∧ St R ([blk g.1 56 [eq g.2.1.1, eq g.2.2.1], own Edu.K g.2.1.1 m.fl, HHeap.O g.2.2 m.fends] ++ l.eraseIdx j) w := st_open j hj
theorem TTab.shut {l r : List As} {p : OV} {m : TTab} (g : Nat × OV × OV) (hg : p.1 = .pointer (some ⟨g.1, 0, none⟩)) (hp : l.Perm ([blk g.1 56 [eq g.2.1.1, eq g.2.2.1], own Edu.K g.2.1.1 m.fl, HHeap.O g.2.2 m.fends] ++ r)) : ∀ R w, St R l w → ∃ _ : Unit, True ∧ St R (TTab.O p m :: r) w := st_shut _ _ g hg hp
def fqQ_uint8_bool (g : Int → Option Bool) : List VP → VP → Prop := fun vs ret => ∃ a0 r, g a0 = some r ∧ vs = [eq (.int .u8 a0)] ∧ ret = eq (.bool r)
def fq_uint8_bool (g : Int → Option Bool) : VP := fnq Tryz.prog (fqQ_uint8_bool g)
def fx_uint8_bool (X : As) (g : Int → Option Bool) : VP := fnx Tryz.prog X (fqQ_uint8_bool g)
def fK_uint8_bool : Kd (Int → Option Bool) := ⟨1, fun _ => none, fun g => [fq_uint8_bool g], fun _ => rfl, fun _ p h R v hv => by simp at h; subst h; exact one_fnq R v hv⟩
def fqQ_int_int_int_bool (g : Int → Int → Int → Option Bool) : List VP → VP → Prop := fun vs ret => ∃ a0 a1 a2 r, g a0 a1 a2 = some r ∧ vs = [eq (.int .i64 a0), eq (.int .i64 a1), eq (.int .i64 a2)] ∧ ret = eq (.bool r)
def fq_int_int_int_bool (g : Int → Int → Int → Option Bool) : VP := fnq Tryz.prog (fqQ_int_int_int_bool g)
def fx_int_int_int_bool (X : As) (g : Int → Int → Int → Option Bool) : VP := fnx Tryz.prog X (fqQ_int_int_int_bool g)
def fK_int_int_int_bool : Kd (Int → Int → Int → Option Bool) := ⟨1, fun _ _ _ => none, fun g => [fq_int_int_int_bool g], fun _ => rfl, fun _ p h R v hv => by simp at h; subst h; exact one_fnq R v hv⟩
def fqQ_api_Edu_bool (g : Edu → Option Bool) : List VP → VP → Prop := fun vs ret => ∃ a0 r, g a0 = some r ∧ vs = [agg (Edu.enc a0)] ∧ ret = eq (.bool r)
def fq_api_Edu_bool (g : Edu → Option Bool) : VP := fnq Tryz.prog (fqQ_api_Edu_bool g)
def fx_api_Edu_bool (X : As) (g : Edu → Option Bool) : VP := fnx Tryz.prog X (fqQ_api_Edu_bool g)
def fK_api_Edu_bool : Kd (Edu → Option Bool) := ⟨1, fun _ => none, fun g => [fq_api_Edu_bool g], fun _ => rfl, fun _ p h R v hv => by simp at h; subst h; exact one_fnq R v hv⟩
def fqQ_api_Edu_api_Edu_int (g : Edu → Edu → Option Int) : List VP → VP → Prop := fun vs ret => ∃ a0 a1 r, g a0 a1 = some r ∧ vs = [agg (Edu.enc a0), agg (Edu.enc a1)] ∧ ret = eq (.int .i64 r)
def fq_api_Edu_api_Edu_int (g : Edu → Edu → Option Int) : VP := fnq Tryz.prog (fqQ_api_Edu_api_Edu_int g)
def fx_api_Edu_api_Edu_int (X : As) (g : Edu → Edu → Option Int) : VP := fnx Tryz.prog X (fqQ_api_Edu_api_Edu_int g)
def fK_api_Edu_api_Edu_int : Kd (Edu → Edu → Option Int) := ⟨1, fun _ _ => none, fun g => [fq_api_Edu_api_Edu_int g], fun _ => rfl, fun _ p h R v hv => by simp at h; subst h; exact one_fnq R v hv⟩
/-! concourse/heap.New: function 21 -/
def heap_New.f : Option (HHeap) := some (⟨([] : List HEnt), ([] : List (ByteArray × Int))⟩ : HHeap)
/-! concourse/typing.New: function 5 -/
def typing_New.f : Option (TTab) := (heap_New.f).bind fun t3 => some (⟨([] : List Edu), t3⟩ : TTab)
/-! concourse/concourseref01.Around: function 40 -/
def concourseref01_Around.f (a0 : Int) (a1 : Int) : Option (Int) := cond (decide (a0 < 0)) (grd (a1 ≠ 0) (some ((w64 (0 - (w64 (a0 + 1)))).tmod a1))) (grd (a1 ≠ 0) (some (a0.tmod a1)))
/-! concourse/concourseref01.RoomOf: function 20 -/
def concourseref01_RoomOf.f (a0 : Int) : Option (ByteArray) := (concourseref01_Around.f a0 2).bind fun t10 => grd ((0 : Int) ≤ t10 ∧ t10 < (([(⟨#[33, 114, 58, 115, 49]⟩ : ByteArray), (⟨#[33, 113, 58, 115, 50]⟩ : ByteArray)] : List ByteArray).length : Int)) (some (strK.at ([(⟨#[33, 114, 58, 115, 49]⟩ : ByteArray), (⟨#[33, 113, 58, 115, 50]⟩ : ByteArray)] : List ByteArray) t10))
/-! concourse/concourseref01.ServerOf: function 61 -/
def concourseref01_ServerOf.f (a0 : Int) : Option (ByteArray) := (concourseref01_Around.f a0 3).bind fun t13 => grd ((0 : Int) ≤ t13 ∧ t13 < (([(⟨#[115, 49]⟩ : ByteArray), (⟨#[115, 50]⟩ : ByteArray), (⟨#[115, 51]⟩ : ByteArray)] : List ByteArray).length : Int)) (some (strK.at ([(⟨#[115, 49]⟩ : ByteArray), (⟨#[115, 50]⟩ : ByteArray), (⟨#[115, 51]⟩ : ByteArray)] : List ByteArray) t13))
/-! concourse/concourseref01.UserOf: function 41 -/
def concourseref01_UserOf.f (a0 : Int) : Option (ByteArray) := (concourseref01_Around.f a0 9).bind fun t16 => grd ((0 : Int) ≤ (w64 (t16.tdiv 3)) ∧ (w64 (t16.tdiv 3)) < (([(⟨#[64, 97, 58]⟩ : ByteArray), (⟨#[64, 98, 58]⟩ : ByteArray), (⟨#[64, 99, 58]⟩ : ByteArray)] : List ByteArray).length : Int)) ((concourseref01_ServerOf.f (t16.tmod 3)).bind fun t19 => grd ((strK.at ([(⟨#[64, 97, 58]⟩ : ByteArray), (⟨#[64, 98, 58]⟩ : ByteArray), (⟨#[64, 99, 58]⟩ : ByteArray)] : List ByteArray) (w64 (t16.tdiv 3))).size + t19.size ≤ 9223372036854775807) (some ((strK.at ([(⟨#[64, 97, 58]⟩ : ByteArray), (⟨#[64, 98, 58]⟩ : ByteArray), (⟨#[64, 99, 58]⟩ : ByteArray)] : List ByteArray) (w64 (t16.tdiv 3))) ++ t19)))
/-! concourse/concourseref01.Decimal: function 62 -/
def concourseref01_Decimal.f : Nat → Int → Option (ByteArray)
  | 0, _ => none
  | k + 1, a0 => (cond (decide ((a0.tmod 10) < 0)) (some (w64 (0 - (a0.tmod 10)))) (some (a0.tmod 10))).bind fun (p22 : Int) => cond (decide ((-10) < a0)) (cond (decide (a0 < 10)) (cond (decide (a0 < 0)) (grd ((⟨#[45]⟩ : ByteArray).size + (ofNums ([IntKind.u8.wrap (w64 (48 + p22))] : List Int)).size ≤ 9223372036854775807) (some ((⟨#[45]⟩ : ByteArray) ++ (ofNums ([IntKind.u8.wrap (w64 (48 + p22))] : List Int))))) (some (ofNums ([IntKind.u8.wrap (w64 (48 + p22))] : List Int)))) ((concourseref01_Decimal.f k (w64 (a0.tdiv 10))).bind fun t27 => grd (t27.size + (ofNums ([IntKind.u8.wrap (w64 (48 + p22))] : List Int)).size ≤ 9223372036854775807) (some (t27 ++ (ofNums ([IntKind.u8.wrap (w64 (48 + p22))] : List Int)))))) ((concourseref01_Decimal.f k (w64 (a0.tdiv 10))).bind fun t31 => grd (t31.size + (ofNums ([IntKind.u8.wrap (w64 (48 + p22))] : List Int)).size ≤ 9223372036854775807) (some (t31 ++ (ofNums ([IntKind.u8.wrap (w64 (48 + p22))] : List Int)))))
/-! concourse/concourseref01.EventOf: function 42 -/
def concourseref01_EventOf.f (k : Nat) (a0 : Int) : Option (ByteArray) := (concourseref01_Around.f a0 9).bind fun t35 => (concourseref01_Decimal.f k t35).bind fun t37 => grd ((⟨#[36, 101]⟩ : ByteArray).size + t37.size ≤ 9223372036854775807) (some ((⟨#[36, 101]⟩ : ByteArray) ++ t37))
/-! concourse/concourseref01.ThreadOf: function 43 -/
def concourseref01_ThreadOf.f (k : Nat) (a0 : Int) : Option (ByteArray) := (concourseref01_Around.f a0 11).bind fun t40 => cond (t40 == 9) (some (⟨#[]⟩ : ByteArray)) (cond (t40 == 10) (some (⟨#[109, 97, 105, 110]⟩ : ByteArray)) ((concourseref01_EventOf.f k t40).bind fun t44 => some t44))
/-! concourse/concourseref03.Good: function 22 -/
def concourseref03_Good.f (k : Nat) (a0 : Edu) : Option (Edu) := (concourseref01_Around.f a0.fKind 3).bind fun t48 => (concourseref01_UserOf.f a0.fState).bind fun t50 => (concourseref01_Around.f a0.fTick 100).bind fun t52 => (concourseref01_Around.f a0.fStamp 9).bind fun t54 => cond ((w64 (1 + t48)) == 1) ((concourseref01_RoomOf.f a0.fSpan).bind fun t58 => (concourseref01_Around.f a0.fTick 9).bind fun t60 => (concourseref01_EventOf.f k (w64 ((a0.fEvent.size : Int) + t60))).bind fun t62 => (concourseref01_ThreadOf.f k (a0.fThread.size : Int)).bind fun t64 => some (⟨w64 (1 + t48), t58, t50, t62, t64, a0.fPrivate, false, 0, 0, t52, t54⟩ : Edu)) (cond ((w64 (1 + t48)) == 2) ((concourseref01_RoomOf.f a0.fSpan).bind fun t67 => cond a0.fOn ((concourseref01_Around.f a0.fSpan 60).bind fun t70 => some (⟨w64 (1 + t48), t67, t50, (⟨#[]⟩ : ByteArray), (⟨#[]⟩ : ByteArray), false, a0.fOn, w64 (1 + t70), 0, t52, t54⟩ : Edu)) (some (⟨w64 (1 + t48), t67, t50, (⟨#[]⟩ : ByteArray), (⟨#[]⟩ : ByteArray), false, a0.fOn, 0, 0, t52, t54⟩ : Edu))) ((concourseref01_Around.f a0.fSpan 3).bind fun t72 => some (⟨w64 (1 + t48), (⟨#[]⟩ : ByteArray), t50, (⟨#[]⟩ : ByteArray), (⟨#[]⟩ : ByteArray), false, false, 0, t72, t52, t54⟩ : Edu)))
/-! concourse/concourseref14.Made: function 6 -/
def concourseref14_Made.f (k : Nat) (a0 : Edu) : Option (Edu) := (concourseref03_Good.f k (⟨1, a0.fRoom, a0.fUser, a0.fEvent, a0.fThread, a0.fPrivate, a0.fOn, a0.fSpan, a0.fState, a0.fTick, a0.fStamp⟩ : Edu)).bind fun t76 => some t76
/-! concourse/edu.asks$1: function 95 -/
def edu_asks_1.f (a0 : Int) (a1 : Int) (a2 : Int) : Option (Bool) := cond (decide (a1 ≤ a0)) (some (decide (a0 ≤ a2))) (some false)
/-! concourse/edu.asks$2: function 96 -/
def edu_asks_2.f (a0 : Edu) : Option (Bool) := some false
/-! internal/stringslite.IndexByte: function 110 -/
def stringslite_IndexByte.f (a0 : ByteArray) (a1 : Int) : Option (Int) := some (idxB a0 a1)
/-! internal/bytealg.Cutover: function 112 -/
def bytealg_Cutover.f (a0 : Int) : Option (Int) := some (w64 ((w64 (a0 + 16)).tdiv 8))
/-! internal/stringslite.Index: function 79 -/
def stringslite_Index.f (a0 : ByteArray) (a1 : ByteArray) : Option (Int) := cond ((a1.size : Int) == 0) (some 0) (cond (decide (a1 = a0)) (some 0) (cond ((a1.size : Int) == 1) (grd ((0 : Int) ≤ 0 ∧ 0 < (a1.size : Int)) ((stringslite_IndexByte.f a0 (bt a1 0)).bind fun t87 => some t87)) (cond (decide ((a0.size : Int) ≤ (a1.size : Int))) (some (-1)) (none))))
/-! internal/stringslite.Cut: function 58 -/
def stringslite_Cut.f (a0 : ByteArray) (a1 : ByteArray) : Option (ByteArray × ByteArray × Bool) := (stringslite_Index.f a0 a1).bind fun t90 => cond (decide (0 ≤ t90)) (grd ((0 : Int) ≤ t90 ∧ 0 ≤ t90.toNat ∧ t90.toNat ≤ a0.size) (grd ((0 : Int) ≤ (w64 (t90 + (a1.size : Int))) ∧ (w64 (t90 + (a1.size : Int))).toNat ≤ a0.size ∧ a0.size ≤ a0.size) (some (a0.extract 0 t90.toNat, a0.extract (w64 (t90 + (a1.size : Int))).toNat a0.size, true)))) (some (a0, (⟨#[]⟩ : ByteArray), false))
/-! strings.Cut: function 35 -/
def strings_Cut.f (a0 : ByteArray) (a1 : ByteArray) : Option (ByteArray × ByteArray × Bool) := (stringslite_Cut.f a0 a1).bind fun t95 => some (t95.1, t95.2.1, t95.2.2)
/-! internal/stringslite.HasPrefix: function 128 -/
def stringslite_HasPrefix.f (a0 : ByteArray) (a1 : ByteArray) : Option (Bool) := cond (decide ((a1.size : Int) ≤ (a0.size : Int))) (grd ((0 : Int) ≤ (a1.size : Int) ∧ 0 ≤ (a1.size : Int).toNat ∧ (a1.size : Int).toNat ≤ a0.size) (some (decide ((a0.extract 0 ((a1.size : Int).toNat)) = a1)))) (some false)
/-! internal/stringslite.CutPrefix: function 125 -/
def stringslite_CutPrefix.f (a0 : ByteArray) (a1 : ByteArray) : Option (ByteArray × Bool) := (stringslite_HasPrefix.f a0 a1).bind fun t99 => cond (!t99) (some (a0, false)) (grd ((0 : Int) ≤ (a1.size : Int) ∧ (a1.size : Int).toNat ≤ a0.size ∧ a0.size ≤ a0.size) (some (a0.extract (a1.size : Int).toNat a0.size, true)))
/-! strings.CutPrefix: function 119 -/
def strings_CutPrefix.f (a0 : ByteArray) (a1 : ByteArray) : Option (ByteArray × Bool) := (stringslite_CutPrefix.f a0 a1).bind fun t103 => some (t103.1, t103.2)
/-! concourse/name.small: function 127 -/
def name_small.f (a0 : Int) : Option (Bool) := cond (decide (97 ≤ a0)) (cond (decide (a0 ≤ 122)) (some true) (cond (decide (48 ≤ a0)) (some (decide (a0 ≤ 57))) (some false))) (cond (decide (48 ≤ a0)) (some (decide (a0 ≤ 57))) (some false))
/-! strings.IndexByte: function 130 -/
def strings_IndexByte.f (a0 : ByteArray) (a1 : Int) : Option (Int) := (stringslite_IndexByte.f a0 a1).bind fun t109 => some t109
/-! concourse/name.among$1: function 129 -/
def name_among_1.f (a0 : Int) (c0 : ByteArray) : Option (Bool) := (name_small.f a0).bind fun t111 => cond t111 (some true) ((strings_IndexByte.f c0 a0).bind fun t114 => some (decide (0 ≤ t114)))
/-! concourse/name.among: function 126 -/
def name_among.f (a0 : ByteArray) : Option ((Int → Option Bool)) := some (fun a0_ => name_among_1.f a0_ a0)
/-! concourse/name.may: function 120 -/
def name_may.l0 (k : Nat) (a0 : ByteArray) (a1 : Int) (t117 : (Int → Option Bool)) (t119 : (Int → Option Bool)) (t121 : (Int → Option Bool)) : Nat → Int → Option ((Int × Bool) ⊕ (Bool))
  | 0, _ => none
  | j132 + 1, x126 => cond (decide (x126 < (a0.size : Int))) (grd ((0 : Int) ≤ x126 ∧ x126 < (a0.size : Int)) (((fK_uint8_bool.at ([t117, t119, t121] : List (Int → Option Bool)) a1) (bt a0 x126)).bind fun t129 => cond (!t129) (some (.inr false)) (name_may.l0 k a0 a1 t117 t119 t121 j132 (w64 (x126 + 1))))) (some (.inl (x126, decide (x126 < (a0.size : Int)))))
def name_may.f (k : Nat) (a0 : ByteArray) (a1 : Int) : Option (Bool) := (name_among.f (⟨#[46, 45, 95]⟩ : ByteArray)).bind fun t117 => (name_among.f (⟨#[46, 45]⟩ : ByteArray)).bind fun t119 => (name_among.f (⟨#[45, 95, 65, 66, 67, 68, 69, 70, 71, 72, 73, 74, 75, 76, 77, 78, 79, 80, 81, 82, 83, 84, 85, 86, 87, 88, 89, 90]⟩ : ByteArray)).bind fun t121 => grd ((0 : Int) ≤ a1 ∧ a1 < (3 : Int)) ((name_may.l0 k a0 a1 t117 t119 t121 k 0).bind (fall fun (p124 : Int × Bool) => cond (!decide (a0 = (⟨#[]⟩ : ByteArray))) (some (decide ((a0.size : Int) ≤ 16))) (some false)))
/-! concourse/name.Server: function 121 -/
def name_Server.f (k : Nat) (a0 : ByteArray) : Option (Bool) := (name_may.f k a0 1).bind fun t134 => cond t134 (grd ((0 : Int) ≤ 0 ∧ 0 < (a0.size : Int)) ((name_small.f (bt a0 0)).bind fun t138 => cond t138 (grd ((0 : Int) ≤ (w64 ((a0.size : Int) - 1)) ∧ (w64 ((a0.size : Int) - 1)) < (a0.size : Int)) ((name_small.f (bt a0 (w64 ((a0.size : Int) - 1)))).bind fun t142 => some t142)) (some false))) (some false)
/-! concourse/name.split: function 103 -/
def name_split.f (k : Nat) (a0 : ByteArray) (a1 : ByteArray) : Option (ByteArray × ByteArray × Bool) := (strings_CutPrefix.f a0 a1).bind fun t144 => (strings_Cut.f t144.1 (⟨#[58]⟩ : ByteArray)).bind fun t146 => cond t144.2 (cond t146.2.2 ((name_may.f k t146.1 0).bind fun t150 => cond t150 ((name_Server.f k t146.2.1).bind fun t153 => some (t146.1, t146.2.1, t153)) (some (t146.1, t146.2.1, false))) (some (t146.1, t146.2.1, false))) (some (t146.1, t146.2.1, false))
/-! concourse/name.Room: function 98 -/
def name_Room.f (k : Nat) (a0 : ByteArray) : Option (Bool) := (name_split.f k a0 (⟨#[33]⟩ : ByteArray)).bind fun t155 => some t155.2.2
/-! concourse/name.Event: function 99 -/
def name_Event.f (k : Nat) (a0 : ByteArray) : Option (Bool) := (strings_CutPrefix.f a0 (⟨#[36]⟩ : ByteArray)).bind fun t157 => cond t157.2 ((name_may.f k t157.1 2).bind fun t160 => some t160) (some false)
/-! concourse/name.Thread: function 100 -/
def name_Thread.f (k : Nat) (a0 : ByteArray) : Option (Bool) := cond (decide (a0 = (⟨#[]⟩ : ByteArray))) (some true) (cond (decide (a0 = (⟨#[109, 97, 105, 110]⟩ : ByteArray))) (some true) ((name_Event.f k a0).bind fun t164 => some t164))
/-! concourse/edu.asks$3: function 97 -/
def edu_asks_3.f (k : Nat) (a0 : Edu) : Option (Bool) := (name_Room.f k a0.fRoom).bind fun t167 => cond t167 ((name_Event.f k a0.fEvent).bind fun t170 => cond t170 ((name_Thread.f k a0.fThread).bind fun t173 => some t173) (some false)) (some false)
/-! concourse/edu.asks$4: function 101 -/
def edu_asks_4.f (k : Nat) (a0 : Edu) (c0 : Int → Int → Int → Option Bool) : Option (Bool) := (name_Room.f k a0.fRoom).bind fun t176 => cond t176 (cond (!a0.fOn) (some true) ((c0 a0.fSpan 1 60).bind fun t180 => some t180)) (some false)
/-! concourse/edu.asks$5: function 102 -/
def edu_asks_5.f (a0 : Edu) (c0 : Int → Int → Int → Option Bool) : Option (Bool) := (c0 a0.fState 0 2).bind fun t183 => some t183
/-! concourse/edu.asks: function 69 -/
def edu_asks.f (k : Nat) : Option ((List (Edu → Option Bool))) := some ([edu_asks_2.f, edu_asks_3.f k, fun a0_ => edu_asks_4.f k a0_ edu_asks_1.f, fun a0_ => edu_asks_5.f a0_ edu_asks_1.f] : List (Edu → Option Bool))
/-! concourse/edu.Local$1: function 70 -/
def edu_Local_1.f (a0 : Int) : Option (Bool) := cond (decide (0 ≤ a0)) (some (decide (a0 ≤ 1099511627776))) (some false)
/-! concourse/edu.named: function 71 -/
def edu_named.f (a0 : Edu) : Option (Edu) := cond (a0.fKind == 1) (some (⟨a0.fKind, a0.fRoom, a0.fUser, a0.fEvent, a0.fThread, a0.fPrivate, false, 0, 0, a0.fTick, a0.fStamp⟩ : Edu)) (cond (a0.fKind == 2) (cond a0.fOn (some (⟨a0.fKind, a0.fRoom, a0.fUser, (⟨#[]⟩ : ByteArray), (⟨#[]⟩ : ByteArray), false, a0.fOn, a0.fSpan, 0, a0.fTick, a0.fStamp⟩ : Edu)) (some (⟨a0.fKind, a0.fRoom, a0.fUser, (⟨#[]⟩ : ByteArray), (⟨#[]⟩ : ByteArray), false, a0.fOn, 0, 0, a0.fTick, a0.fStamp⟩ : Edu))) (cond (a0.fKind == 3) (some (⟨a0.fKind, (⟨#[]⟩ : ByteArray), a0.fUser, (⟨#[]⟩ : ByteArray), (⟨#[]⟩ : ByteArray), false, false, 0, a0.fState, a0.fTick, a0.fStamp⟩ : Edu)) (some (⟨a0.fKind, (⟨#[]⟩ : ByteArray), a0.fUser, (⟨#[]⟩ : ByteArray), (⟨#[]⟩ : ByteArray), false, false, 0, 0, a0.fTick, a0.fStamp⟩ : Edu))))
/-! concourse/name.User: function 72 -/
def name_User.f (k : Nat) (a0 : ByteArray) : Option (Bool) := (name_split.f k a0 (⟨#[64]⟩ : ByteArray)).bind fun t194 => some t194.2.2
/-! concourse/edu.Local: function 46 -/
def edu_Local.f (k : Nat) (a0 : Edu) : Option (Bool) := cond (decide (a0.fKind < 0)) (some false) (cond (decide (3 < a0.fKind)) (some false) ((edu_asks.f k).bind fun t201 => grd ((0 : Int) ≤ a0.fKind ∧ a0.fKind < (t201.length : Int)) (((fK_api_Edu_bool.at t201 a0.fKind) a0).bind fun t204 => cond (!t204) (some false) ((edu_named.f a0).bind fun t207 => cond (decide (a0 = t207)) ((name_User.f k a0.fUser).bind fun t210 => cond t210 ((edu_Local_1.f a0.fTick).bind fun t213 => cond t213 ((edu_Local_1.f a0.fStamp).bind fun t216 => some t216) (some false)) (some false)) (some false)))))
/-! concourse/edu.May: function 26 -/
def edu_May.f (k : Nat) (a0 : Edu) : Option (Bool) := (edu_Local.f k a0).bind fun t219 => cond t219 (some (!a0.fPrivate)) (some false)
/-! slices.BinarySearchFunc[[]concourse/api.Edu,concourse/api.Edu,concourse/api.Edu]: function 47 -/
def slices_BinarySearchFunc_Edu_Edu.l0 (k : Nat) (a0 : List Edu) (a1 : Edu) (a2 : Edu → Edu → Option Int) : Nat → Int → Int → Option (Int × Int × Bool)
  | 0, _, _ => none
  | j235 + 1, x228, x229 => cond (decide (x228 < x229)) (grd ((0 : Int) ≤ (w64 ((IntKind.u64.wrap (w64 (x228 + x229))).fdiv 2)) ∧ (w64 ((IntKind.u64.wrap (w64 (x228 + x229))).fdiv 2)) < (a0.length : Int)) ((a2 (Edu.K.at a0 (w64 ((IntKind.u64.wrap (w64 (x228 + x229))).fdiv 2))) a1).bind fun t232 => cond (decide (t232 < 0)) (slices_BinarySearchFunc_Edu_Edu.l0 k a0 a1 a2 j235 (w64 ((w64 ((IntKind.u64.wrap (w64 (x228 + x229))).fdiv 2)) + 1)) x229) (slices_BinarySearchFunc_Edu_Edu.l0 k a0 a1 a2 j235 x228 (w64 ((IntKind.u64.wrap (w64 (x228 + x229))).fdiv 2))))) (some (x228, x229, decide (x228 < x229)))
def slices_BinarySearchFunc_Edu_Edu.f (k : Nat) (a0 : List Edu) (a1 : Edu) (a2 : Edu → Edu → Option Int) : Option (Int × Bool) := (slices_BinarySearchFunc_Edu_Edu.l0 k a0 a1 a2 k 0 (a0.length : Int)).bind fun (p223 : Int × Int × Bool) => cond (decide (p223.1 < (a0.length : Int))) (grd ((0 : Int) ≤ p223.1 ∧ p223.1 < (a0.length : Int)) ((a2 (Edu.K.at a0 p223.1) a1).bind fun t226 => some (p223.1, (t226 == 0)))) (some (p223.1, false))
/-! cmp.Or[int]: function 49 -/
def cmp_Or_int.l0 (k : Nat) (a0 : List Int) : Nat → Int → Option ((Int × Bool) ⊕ (Int))
  | 0, _ => none
  | j242 + 1, x238 => cond (decide (x238 < (a0.length : Int))) (grd ((0 : Int) ≤ x238 ∧ x238 < (a0.length : Int)) (cond (((intK .i64).at a0 x238) != 0) (some (.inr ((intK .i64).at a0 x238))) (cmp_Or_int.l0 k a0 j242 (w64 (x238 + 1))))) (some (.inl (x238, decide (x238 < (a0.length : Int)))))
def cmp_Or_int.f (k : Nat) (a0 : List Int) : Option (Int) := (cmp_Or_int.l0 k a0 k 0).bind (fall fun (p237 : Int × Bool) => some 0)
/-! cmp.isNaN[string]: function 73 -/
def cmp_isNaN_string.f (a0 : ByteArray) : Option (Bool) := some (!decide (a0 = a0))
/-! cmp.Compare[string]: function 50 -/
def cmp_Compare_string.f (a0 : ByteArray) (a1 : ByteArray) : Option (Int) := (cmp_isNaN_string.f a0).bind fun t244 => (cmp_isNaN_string.f a1).bind fun t246 => cond t244 (cond t246 (some 0) (some (-1))) (cond t246 (some 1) (cond (sLt a0 a1) (some (-1)) (cond (sLt a1 a0) (some 1) (some 0))))
/-! (*concourse/typing.Table).place$1: function 48 -/
def typing_Table_place_1.f (k : Nat) (a0 : Edu) (a1 : Edu) : Option (Int) := (cmp_Compare_string.f a0.fRoom a1.fRoom).bind fun t255 => (cmp_Compare_string.f a0.fUser a1.fUser).bind fun t257 => (cmp_Or_int.f k ([t255, t257] : List Int)).bind fun t259 => some t259
/-! (*concourse/typing.Table).place: function 27 -/
def typing_Table_place.f (k : Nat) (a0 : TTab) (a1 : Edu) : Option (Int × Bool) := (slices_BinarySearchFunc_Edu_Edu.f k a0.fl a1 (typing_Table_place_1.f k)).bind fun t262 => some (t262.1, t262.2)
/-! concourse/edu.Of: function 51 -/
def edu_Of.f (a0 : Edu) : Option (EKey) := some (⟨a0.fKind, a0.fRoom, a0.fUser, a0.fThread, a0.fPrivate⟩ : EKey)
/-! cmp.isNaN[int]: function 104 -/
def cmp_isNaN_int.f (a0 : Int) : Option (Bool) := some (a0 != a0)
/-! cmp.Compare[int]: function 74 -/
def cmp_Compare_int.f (a0 : Int) (a1 : Int) : Option (Int) := (cmp_isNaN_int.f a0).bind fun t266 => (cmp_isNaN_int.f a1).bind fun t268 => cond t266 (cond t268 (some 0) (some (-1))) (cond t268 (some 1) (cond (decide (a0 < a1)) (some (-1)) (cond (decide (a1 < a0)) (some 1) (some 0))))
/-! bytes.Compare: function 75 -/
def bytes_Compare.f (a0 : List Int) (a1 : List Int) : Option (Int) := some (cmpB a0 a1)
/-! concourse/lay.Number: function 106 -/
def lay_Number.l0 (k : Nat) : Nat → Int → List Int → Option (Int × Bool × (List Int))
  | 0, _, _ => none
  | j287 + 1, x281, x282 => cond (decide (128 ≤ x281)) (grd (x282.length + ([IntKind.u8.wrap (w64 ((x281.tmod 128) + 128))] : List Int).length ≤ 9223372036854775807 ∧ (x282.length + ([IntKind.u8.wrap (w64 ((x281.tmod 128) + 128))] : List Int).length) * 1 ≤ 140737488355328) (lay_Number.l0 k j287 (w64 (x281.tdiv 128)) (x282 ++ ([IntKind.u8.wrap (w64 ((x281.tmod 128) + 128))] : List Int)))) (some (x281, decide (128 ≤ x281), x282))
def lay_Number.f (k : Nat) (a0 : List Int) (a1 : Int) : Option ((List Int)) := grd ((0 : Int) ≤ (a0.length : Int) ∧ 0 ≤ (a0.length : Int).toNat ∧ (a0.length : Int).toNat ≤ a0.length) ((lay_Number.l0 k k (max a1 0) ((a0.take ((a0.length : Int).toNat)).drop 0)).bind fun (p277 : Int × Bool × (List Int)) => grd (p277.2.2.length + ([IntKind.u8.wrap (p277.1)] : List Int).length ≤ 9223372036854775807 ∧ (p277.2.2.length + ([IntKind.u8.wrap (p277.1)] : List Int).length) * 1 ≤ 140737488355328) (some (p277.2.2 ++ ([IntKind.u8.wrap (p277.1)] : List Int))))
/-! concourse/lay.Text: function 107 -/
def lay_Text.f (k : Nat) (a0 : List Int) (a1 : ByteArray) : Option ((List Int)) := (lay_Number.f k a0 (a1.size : Int)).bind fun t290 => grd (t290.length + (strBs a1).length ≤ 9223372036854775807 ∧ (t290.length + (strBs a1).length) * 1 ≤ 140737488355328) (some (t290 ++ (strBs a1)))
/-! concourse/lay.Flag: function 108 -/
def lay_Flag.f (k : Nat) (a0 : List Int) (a1 : Bool) : Option ((List Int)) := cond a1 ((lay_Number.f k a0 1).bind fun t296 => some t296) ((lay_Number.f k a0 0).bind fun t299 => some t299)
/-! concourse/edu.laid: function 76 -/
def edu_laid.l0 (k : Nat) (a0 : Edu) : Nat → Int → List Int → Option (Int × Bool × (List Int))
  | 0, _, _ => none
  | j321 + 1, x313, x314 => cond (decide (x313 < (([a0.fSpan, a0.fState, a0.fTick, a0.fStamp] : List Int).length : Int))) (grd ((0 : Int) ≤ x313 ∧ x313 < (([a0.fSpan, a0.fState, a0.fTick, a0.fStamp] : List Int).length : Int)) ((lay_Number.f k x314 ((intK .i64).at ([a0.fSpan, a0.fState, a0.fTick, a0.fStamp] : List Int) x313)).bind fun t318 => edu_laid.l0 k a0 j321 (w64 (x313 + 1)) t318)) (some (x313, decide (x313 < (([a0.fSpan, a0.fState, a0.fTick, a0.fStamp] : List Int).length : Int)), x314))
def edu_laid.l1 (k : Nat) (a0 : Edu) : Nat → Int → List Int → Option (Int × Bool × (List Int))
  | 0, _, _ => none
  | j332 + 1, x324, x325 => cond (decide (x324 < (([a0.fRoom, a0.fUser, a0.fEvent, a0.fThread] : List ByteArray).length : Int))) (grd ((0 : Int) ≤ x324 ∧ x324 < (([a0.fRoom, a0.fUser, a0.fEvent, a0.fThread] : List ByteArray).length : Int)) ((lay_Text.f k x325 (strK.at ([a0.fRoom, a0.fUser, a0.fEvent, a0.fThread] : List ByteArray) x324)).bind fun t329 => edu_laid.l1 k a0 j332 (w64 (x324 + 1)) t329)) (some (x324, decide (x324 < (([a0.fRoom, a0.fUser, a0.fEvent, a0.fThread] : List ByteArray).length : Int)), x325))
def edu_laid.f (k : Nat) (a0 : Edu) : Option ((List Int)) := (lay_Number.f k ([] : List Int) a0.fKind).bind fun t303 => (edu_laid.l1 k a0 k 0 t303).bind fun (p306 : Int × Bool × (List Int)) => (lay_Flag.f k p306.2.2 a0.fOn).bind fun t308 => (edu_laid.l0 k a0 k 0 t308).bind fun (p311 : Int × Bool × (List Int)) => some p311.2.2
/-! concourse/edu.Compare: function 52 -/
def edu_Compare.f (k : Nat) (a0 : Edu) (a1 : Edu) : Option (Int) := (cmp_Compare_int.f a0.fStamp a1.fStamp).bind fun t337 => (edu_laid.f k a0).bind fun t339 => (edu_laid.f k a1).bind fun t342 => (bytes_Compare.f t339 t342).bind fun t345 => (cmp_Or_int.f k ([t337, t345] : List Int)).bind fun t347 => some t347
/-! concourse/edu.Later: function 28 -/
def edu_Later.f (k : Nat) (a0 : Edu) (a1 : Edu) : Option (Bool) := (edu_Of.f a0).bind fun t351 => (edu_Of.f a1).bind fun t353 => cond (decide (t351 = t353)) ((edu_Compare.f k a0 a1).bind fun t356 => some (decide (0 < t356))) (some false)
/-! slices.Insert[[]concourse/api.Edu,concourse/api.Edu] -/
def slices_Insert_Edu.f (xs : List Edu) (i : Int) (ys : List Edu) : Option (List Edu) := grd ((0 : Int) ≤ i ∧ i ≤ (xs.length : Int) ∧ 0 < ys.length ∧ xs.length + ys.length ≤ 4611686018427387904 ∧ (xs.length + ys.length) * 112 ≤ 140737488355328) (some (xs.take i.toNat ++ ys ++ xs.drop i.toNat))
/-! (*concourse/heap.Heap).set: function 55 -/
def heap_Heap_set.f (a0 : HHeap) (a1 : Int) (a2 : HEnt) : Option (HHeap) := grd ((0 : Int) ≤ a1 ∧ a1 < (a0.fl.length : Int)) (some (⟨a0.fl.set a1.toNat a2, mput a0.fat a2.fKey a1⟩ : HHeap))
/-! concourse/heap.ahead: function 78 -/
def heap_ahead.f (k : Nat) (a0 : HEnt) (a1 : HEnt) : Option (Int) := (cmp_Compare_int.f a0.fAt a1.fAt).bind fun t370 => (cmp_Compare_string.f a0.fKey a1.fKey).bind fun t372 => (cmp_Or_int.f k ([t370, t372] : List Int)).bind fun t374 => some t374
/-! (*concourse/heap.Heap).down: function 56 -/
def heap_Heap_down.l0 (k : Nat) (a0 : HHeap) (a1 : Int) : Nat → Int → HHeap → Option (Int × Int × Bool × Bool × HHeap)
  | 0, _, _ => none
  | j411 + 1, x384, x385 => (cond (decide ((w64 ((w64 ((w64 (2 * x384)) + 1)) + 1)) < (x385.fl.length : Int))) (grd ((0 : Int) ≤ (w64 ((w64 ((w64 (2 * x384)) + 1)) + 1)) ∧ (w64 ((w64 ((w64 (2 * x384)) + 1)) + 1)) < (x385.fl.length : Int)) (grd ((0 : Int) ≤ (w64 ((w64 (2 * x384)) + 1)) ∧ (w64 ((w64 (2 * x384)) + 1)) < (x385.fl.length : Int)) ((heap_ahead.f k (x385.fl.getD ((w64 ((w64 ((w64 (2 * x384)) + 1)) + 1)).toNat) default) (x385.fl.getD ((w64 ((w64 (2 * x384)) + 1)).toNat) default)).bind fun t407 => cond (decide (t407 < 0)) (some (w64 ((w64 ((w64 (2 * x384)) + 1)) + 1), decide (t407 < 0))) (some (w64 ((w64 (2 * x384)) + 1), decide (t407 < 0)))))) (some (w64 ((w64 (2 * x384)) + 1), false))).bind fun (p386 : Int × Bool) => cond (decide ((x385.fl.length : Int) ≤ p386.1)) (some (x384, p386.1, p386.2, true, x385)) (grd ((0 : Int) ≤ p386.1 ∧ p386.1 < (x385.fl.length : Int)) ((heap_ahead.f k (a0.fl.getD a1.toNat default) (x385.fl.getD p386.1.toNat default)).bind fun t393 => cond (decide (t393 < 0)) (some (x384, p386.1, p386.2, decide (t393 < 0), x385)) (grd ((0 : Int) ≤ p386.1 ∧ p386.1 < (x385.fl.length : Int)) ((heap_Heap_set.f x385 x384 (x385.fl.getD p386.1.toNat default)).bind fun t398 => heap_Heap_down.l0 k a0 a1 j411 p386.1 t398))))
def heap_Heap_down.f (k : Nat) (a0 : HHeap) (a1 : Int) : Option (HHeap) := grd ((0 : Int) ≤ a1 ∧ a1 < (a0.fl.length : Int)) ((heap_Heap_down.l0 k a0 a1 k a1 a0).bind fun (p381 : Int × Int × Bool × Bool × HHeap) => (heap_Heap_set.f p381.2.2.2.2 p381.1 (a0.fl.getD a1.toNat default)).bind fun t382 => some t382)
/-! (*concourse/heap.Heap).up: function 57 -/
def heap_Heap_up.l0 (k : Nat) (a0 : HHeap) (a1 : Int) : Nat → Int → HHeap → Option (Int × Bool × HHeap)
  | 0, _, _ => none
  | j436 + 1, x421, x422 => cond (decide (0 < x421)) (grd ((0 : Int) ≤ (w64 ((w64 (x421 - 1)).tdiv 2)) ∧ (w64 ((w64 (x421 - 1)).tdiv 2)) < (x422.fl.length : Int)) ((heap_ahead.f k (a0.fl.getD a1.toNat default) (x422.fl.getD ((w64 ((w64 (x421 - 1)).tdiv 2)).toNat) default)).bind fun t428 => cond (decide (t428 < 0)) (grd ((0 : Int) ≤ (w64 ((w64 (x421 - 1)).tdiv 2)) ∧ (w64 ((w64 (x421 - 1)).tdiv 2)) < (x422.fl.length : Int)) ((heap_Heap_set.f x422 x421 (x422.fl.getD ((w64 ((w64 (x421 - 1)).tdiv 2)).toNat) default)).bind fun t433 => heap_Heap_up.l0 k a0 a1 j436 (w64 ((w64 (x421 - 1)).tdiv 2)) t433)) (some (x421, decide (t428 < 0), x422)))) (some (x421, false, x422))
def heap_Heap_up.f (k : Nat) (a0 : HHeap) (a1 : Int) : Option (HHeap) := grd ((0 : Int) ≤ a1 ∧ a1 < (a0.fl.length : Int)) ((heap_Heap_up.l0 k a0 a1 k a1 a0).bind fun (p418 : Int × Bool × HHeap) => (heap_Heap_set.f p418.2.2 p418.1 (a0.fl.getD a1.toNat default)).bind fun t419 => some t419)
/-! (*concourse/heap.Heap).Drop: function 30 -/
def heap_Heap_Drop.f (k : Nat) (a0 : HHeap) (a1 : ByteArray) : Option (Bool × HHeap) := cond (!((mget a0.fat a1).isSome)) (some (false, a0)) (grd ((0 : Int) ≤ (w64 ((a0.fl.length : Int) - 1)) ∧ (w64 ((a0.fl.length : Int) - 1)) < (a0.fl.length : Int)) (grd ((0 : Int) ≤ (w64 ((a0.fl.length : Int) - 1)) ∧ 0 ≤ (w64 ((a0.fl.length : Int) - 1)).toNat ∧ (w64 ((a0.fl.length : Int) - 1)).toNat ≤ a0.fl.length) (cond (decide (((mget a0.fat a1).getD 0) < (w64 ((a0.fl.length : Int) - 1)))) ((heap_Heap_set.f (⟨(a0.fl.take ((w64 ((a0.fl.length : Int) - 1)).toNat)).drop 0, mdel a0.fat a1⟩ : HHeap) ((mget a0.fat a1).getD 0) (a0.fl.getD ((w64 ((a0.fl.length : Int) - 1)).toNat) default)).bind fun t447 => (heap_Heap_down.f k t447 ((mget a0.fat a1).getD 0)).bind fun t449 => (heap_Heap_up.f k t449 ((mget t449.fat ((a0.fl.getD ((w64 ((a0.fl.length : Int) - 1)).toNat) default).fKey)).getD 0)).bind fun t453 => some (true, t453)) (some (true, (⟨(a0.fl.take ((w64 ((a0.fl.length : Int) - 1)).toNat)).drop 0, mdel a0.fat a1⟩ : HHeap))))))
/-! (*concourse/heap.Heap).Put: function 31 -/
def heap_Heap_Put.f (k : Nat) (a0 : HHeap) (a1 : Int) (a2 : ByteArray) : Option (HHeap) := (heap_Heap_Drop.f k a0 a2).bind fun t455 => grd (t455.2.fl.length + ([(⟨a1, a2⟩ : HEnt)] : List HEnt).length ≤ 9223372036854775807 ∧ (t455.2.fl.length + ([(⟨a1, a2⟩ : HEnt)] : List HEnt).length) * 24 ≤ 140737488355328) ((heap_Heap_up.f k (⟨t455.2.fl ++ ([(⟨a1, a2⟩ : HEnt)] : List HEnt), t455.2.fat⟩ : HHeap) (w64 (((t455.2.fl ++ ([(⟨a1, a2⟩ : HEnt)] : List HEnt)).length : Int) - 1))).bind fun t461 => some t461)
/-! concourse/typing.end: function 32 -/
def typing_end.f (a0 : Edu) : Option (Int) := some (w64 (a0.fTick + a0.fSpan))
/-! (*concourse/typing.Table).Put: function 9 -/
def typing_Table_Put.f (k : Nat) (a0 : TTab) (a1 : Edu) : Option (Bool × Int × TTab) := cond (a1.fKind != 2) (some (false, 1, a0)) ((edu_May.f k a1).bind fun t467 => cond (!t467) (some (false, 1, a0)) ((typing_Table_place.f k a0 a1).bind fun t472 => (cond t472.2 (grd ((0 : Int) ≤ t472.1 ∧ t472.1 < (a0.fl.length : Int)) (cond (decide (a0.fl.getD t472.1.toNat default = a1)) (some (.inr (false, 0, a0))) (grd ((0 : Int) ≤ t472.1 ∧ t472.1 < (a0.fl.length : Int)) ((edu_Later.f k a1 (a0.fl.getD t472.1.toNat default)).bind fun t493 => cond (!t493) (some (.inr (false, 0, a0))) (grd ((0 : Int) ≤ t472.1 ∧ t472.1 < (a0.fl.length : Int)) (some (.inl (true, !t493, true, (⟨a0.fl.set t472.1.toNat a1, a0.fends⟩ : TTab))))))))) ((slices_Insert_Edu.f a0.fl t472.1 ([a1] : List Edu)).bind fun t501 => some (.inl (false, false, false, (⟨t501, a0.fends⟩ : TTab))))).bind (fall fun (p474 : Bool × Bool × Bool × TTab) => grd (a1.fRoom.size + (⟨#[32]⟩ : ByteArray).size ≤ 9223372036854775807) (grd ((a1.fRoom ++ (⟨#[32]⟩ : ByteArray)).size + a1.fUser.size ≤ 9223372036854775807) ((heap_Heap_Drop.f k p474.2.2.2.fends ((a1.fRoom ++ (⟨#[32]⟩ : ByteArray)) ++ a1.fUser)).bind fun t479 => cond a1.fOn ((typing_end.f a1).bind fun t482 => (heap_Heap_Put.f k t479.2 t482 ((a1.fRoom ++ (⟨#[32]⟩ : ByteArray)) ++ a1.fUser)).bind fun t484 => some (true, 0, (⟨p474.2.2.2.fl, t484⟩ : TTab))) (some (true, 0, (⟨p474.2.2.2.fl, t479.2⟩ : TTab))))))))
/-! (*concourse/heap.Heap).Due: function 34 -/
def heap_Heap_Due.l0 (k : Nat) (a1 : Int) : Nat → HHeap → List ByteArray → Option (Bool × HHeap × (List ByteArray))
  | 0, _, _ => none
  | j524 + 1, x506, x507 => cond (decide (0 < (x506.fl.length : Int))) (grd ((0 : Int) ≤ 0 ∧ 0 < (x506.fl.length : Int)) (cond (decide (((x506.fl.getD ((0 : Int).toNat) default).fAt) ≤ a1)) (grd ((0 : Int) ≤ 0 ∧ 0 < (x506.fl.length : Int)) (grd (x507.length + ([(x506.fl.getD ((0 : Int).toNat) default).fKey] : List ByteArray).length ≤ 9223372036854775807 ∧ (x507.length + ([(x506.fl.getD ((0 : Int).toNat) default).fKey] : List ByteArray).length) * 16 ≤ 140737488355328) (grd ((0 : Int) ≤ 0 ∧ 0 < (x506.fl.length : Int)) ((heap_Heap_Drop.f k x506 ((x506.fl.getD ((0 : Int).toNat) default).fKey)).bind fun t521 => heap_Heap_Due.l0 k a1 j524 t521.2 (x507 ++ ([(x506.fl.getD ((0 : Int).toNat) default).fKey] : List ByteArray)))))) (some (decide (((x506.fl.getD ((0 : Int).toNat) default).fAt) ≤ a1), x506, x507)))) (some (false, x506, x507))
def heap_Heap_Due.f (k : Nat) (a0 : HHeap) (a1 : Int) : Option ((List ByteArray) × HHeap) := (heap_Heap_Due.l0 k a1 k a0 ([] : List ByteArray)).bind fun (p504 : Bool × HHeap × (List ByteArray)) => some (p504.2.2, p504.2.1)
/-! slices.Sort[[]string,string] -/
def slices_Sort_string.f (xs : List ByteArray) : Option (List ByteArray) := grd (xs.length < 4611686018427387904) (some (srtS xs))
/-! slices.Compact[[]string,string] -/
def slices_Compact_string.f (xs : List ByteArray) : Option (List ByteArray) := grd (xs.length ≤ 9223372036854775807) (some (cmpctS xs))
/-! (*concourse/typing.Table).Ended: function 12 -/
def typing_Table_Ended.l0 (k : Nat) (a0 : TTab) (t537 : (List ByteArray) × HHeap) : Nat → Int → List ByteArray → Option (Int × Int × Bool × TTab × (List ByteArray) × (List ByteArray))
  | 0, _, _ => none
  | j550 + 1, x540, x541 => cond (decide (x540 < (t537.1.length : Int))) (grd ((0 : Int) ≤ x540 ∧ x540 < (t537.1.length : Int)) ((strings_Cut.f (t537.1.getD x540.toNat default) (⟨#[32]⟩ : ByteArray)).bind fun t546 => grd (x541.length + ([t546.1] : List ByteArray).length ≤ 9223372036854775807 ∧ (x541.length + ([t546.1] : List ByteArray).length) * 16 ≤ 140737488355328) (typing_Table_Ended.l0 k a0 t537 j550 (w64 (x540 + 1)) (x541 ++ ([t546.1] : List ByteArray))))) (some ((t537.1.length : Int), x540, decide (x540 < (t537.1.length : Int)), (⟨a0.fl, t537.2⟩ : TTab), x541, t537.1))
def typing_Table_Ended.f (k : Nat) (a0 : TTab) (a1 : Int) : Option ((List ByteArray) × TTab) := ((heap_Heap_Due.f k a0.fends a1).bind fun t537 => typing_Table_Ended.l0 k a0 t537 k 0 ([] : List ByteArray)).bind fun (p527 : Int × Int × Bool × TTab × (List ByteArray) × (List ByteArray)) => (slices_Sort_string.f p527.2.2.2.2.1).bind fun t530 => (slices_Compact_string.f t530).bind fun t532 => some (t532, p527.2.2.2.1)
/-! (*concourse/heap.Heap).First: function 38 -/
def heap_Heap_First.f (a0 : HHeap) : Option (HEnt × Bool) := cond ((a0.fl.length : Int) == 0) (some ((⟨0, (⟨#[]⟩ : ByteArray)⟩ : HEnt), false)) (grd ((0 : Int) ≤ 0 ∧ 0 < (a0.fl.length : Int)) (some (a0.fl.getD ((0 : Int).toNat) default, true)))
/-! (*concourse/typing.Table).Next: function 13 -/
def typing_Table_Next.f (a0 : TTab) : Option (Int × Bool) := (heap_Heap_First.f a0.fends).bind fun t561 => some (t561.1.fAt, t561.2)
/-! slices.Clone[[]concourse/api.Edu,concourse/api.Edu] -/
def slices_Clone_Edu.f (xs : List Edu) : Option (List Edu) := grd (xs.length ≤ 9223372036854775807 ∧ xs.length * 112 ≤ 140737488355328) (some xs)
/-! (*concourse/typing.Table).All: function 16 -/
def typing_Table_All.f (a0 : TTab) : Option ((List Edu)) := (slices_Clone_Edu.f a0.fl).bind fun t564 => some t564
/-! (*concourse/typing.Table).Types: function 18 -/
def typing_Table_Types.f (k : Nat) (a0 : TTab) (a1 : ByteArray) (a2 : ByteArray) (a3 : Int) : Option (Bool) := (typing_Table_place.f k a0 (⟨0, a1, a2, (⟨#[]⟩ : ByteArray), (⟨#[]⟩ : ByteArray), false, false, 0, 0, 0, 0⟩ : Edu)).bind fun t567 => cond t567.2 (grd ((0 : Int) ≤ t567.1 ∧ t567.1 < (a0.fl.length : Int)) (cond ((a0.fl.getD t567.1.toNat default).fOn) (grd ((0 : Int) ≤ t567.1 ∧ t567.1 < (a0.fl.length : Int)) ((typing_end.f (a0.fl.getD t567.1.toNat default)).bind fun t575 => some (decide (a3 < t575)))) (some false))) (some false)
/-! concourse/concourselaw14.lives: function 17 -/
def concourselaw14_lives.f (k : Nat) : Option (Bool) := (typing_New.f).bind fun t577 => (typing_Table_Put.f k t577 (⟨2, (⟨#[33, 114, 58, 115]⟩ : ByteArray), (⟨#[64, 97, 58, 115]⟩ : ByteArray), (⟨#[]⟩ : ByteArray), (⟨#[]⟩ : ByteArray), false, true, 5, 0, 10, 0⟩ : Edu)).bind fun t581 => cond t581.1 (cond (t581.2.1 == 0) ((typing_Table_Types.f k t581.2.2 (⟨#[33, 114, 58, 115]⟩ : ByteArray) (⟨#[64, 97, 58, 115]⟩ : ByteArray) 14).bind fun t587 => cond t587 ((typing_Table_Types.f k t581.2.2 (⟨#[33, 114, 58, 115]⟩ : ByteArray) (⟨#[64, 97, 58, 115]⟩ : ByteArray) 15).bind fun t590 => some (!t590)) (some false)) (some false)) (some false)
/-! (*concourse/typing.Table).Users: function 19 -/
def typing_Table_Users.l0 (k : Nat) (a0 : TTab) (a1 : ByteArray) (a2 : Int) : Nat → Int → List ByteArray → Option (Int × Bool × (List ByteArray))
  | 0, _, _ => none
  | j608 + 1, x594, x595 => cond (decide (x594 < (a0.fl.length : Int))) (grd ((0 : Int) ≤ x594 ∧ x594 < (a0.fl.length : Int)) (cond (decide (((a0.fl.getD x594.toNat default).fRoom) = a1)) ((typing_Table_Types.f k a0 a1 ((a0.fl.getD x594.toNat default).fUser) a2).bind fun t602 => cond t602 (grd (x595.length + ([(a0.fl.getD x594.toNat default).fUser] : List ByteArray).length ≤ 9223372036854775807 ∧ (x595.length + ([(a0.fl.getD x594.toNat default).fUser] : List ByteArray).length) * 16 ≤ 140737488355328) (typing_Table_Users.l0 k a0 a1 a2 j608 (w64 (x594 + 1)) (x595 ++ ([(a0.fl.getD x594.toNat default).fUser] : List ByteArray)))) (typing_Table_Users.l0 k a0 a1 a2 j608 (w64 (x594 + 1)) x595)) (typing_Table_Users.l0 k a0 a1 a2 j608 (w64 (x594 + 1)) x595))) (some (x594, decide (x594 < (a0.fl.length : Int)), x595))
def typing_Table_Users.f (k : Nat) (a0 : TTab) (a1 : ByteArray) (a2 : Int) : Option ((List ByteArray)) := (typing_Table_Users.l0 k a0 a1 a2 k 0 ([] : List ByteArray)).bind fun (p592 : Int × Bool × (List ByteArray)) => some p592.2.2
/-! concourse/concourselaw14.TypingEnds: function 4 -/
def concourselaw14_TypingEnds.l0 (k : Nat) (p615 : Int × Bool × TTab) (t618 : (List Edu)) : Nat → Int → Option ((Int × Bool) ⊕ (Bool))
  | 0, _ => none
  | j712 + 1, x687 => cond (decide (x687 < (t618.length : Int))) (grd ((0 : Int) ≤ x687 ∧ x687 < (t618.length : Int)) (grd ((0 : Int) ≤ x687 ∧ x687 < (t618.length : Int)) (grd ((0 : Int) ≤ x687 ∧ x687 < (t618.length : Int)) (grd ((0 : Int) ≤ x687 ∧ x687 < (t618.length : Int)) ((typing_Table_Types.f k p615.2.2 ((t618.getD x687.toNat default).fRoom) ((t618.getD x687.toNat default).fUser) (w64 (((t618.getD x687.toNat default).fTick) + ((t618.getD x687.toNat default).fSpan)))).bind fun t699 => cond t699 (some (.inr false)) (grd ((0 : Int) ≤ x687 ∧ x687 < (t618.length : Int)) (grd ((0 : Int) ≤ x687 ∧ x687 < (t618.length : Int)) ((typing_Table_Types.f k p615.2.2 ((t618.getD x687.toNat default).fRoom) ((t618.getD x687.toNat default).fUser) (w64 ((w64 (((t618.getD x687.toNat default).fTick) + ((t618.getD x687.toNat default).fSpan))) - 1))).bind fun t707 => grd ((0 : Int) ≤ x687 ∧ x687 < (t618.length : Int)) (cond (t707 != ((t618.getD x687.toNat default).fOn)) (some (.inr false)) (concourselaw14_TypingEnds.l0 k p615 t618 j712 (w64 (x687 + 1)))))))))))) (some (.inl (x687, decide (x687 < (t618.length : Int)))))
def concourselaw14_TypingEnds.l1 (k : Nat) (a0 : List Edu) : Nat → Int → TTab → Option (Int × Bool × TTab)
  | 0, _, _ => none
  | j724 + 1, x714, x715 => cond (decide (x714 < (a0.length : Int))) (cond (decide (x714 < 10)) (grd ((0 : Int) ≤ x714 ∧ x714 < (a0.length : Int)) ((concourseref14_Made.f k (Edu.K.at a0 x714)).bind fun t719 => (typing_Table_Put.f k x715 t719).bind fun t721 => concourselaw14_TypingEnds.l1 k a0 j724 (w64 (x714 + 1)) t721.2.2)) (some (x714, decide (x714 < 10), x715))) (some (x714, false, x715))
def concourselaw14_TypingEnds.f (k : Nat) (a0 : List Edu) : Option (Bool) := (typing_New.f).bind fun t611 => (concourselaw14_TypingEnds.l1 k a0 k 0 t611).bind fun (p615 : Int × Bool × TTab) => (typing_Table_All.f p615.2.2).bind fun t618 => (concourselaw14_TypingEnds.l0 k p615 t618 k 0).bind (fall fun (p621 : Int × Bool) => (typing_Table_Next.f p615.2.2).bind fun t622 => cond t622.2 ((typing_Table_Ended.f k p615.2.2 (w64 (t622.1 - 1))).bind fun t625 => cond ((t625.1.length : Int) != 0) (some false) ((typing_Table_Ended.f k t625.2 t622.1).bind fun t629 => cond ((t629.1.length : Int) == 0) (some false) ((typing_Table_Ended.f k t629.2 160).bind fun t633 => (typing_Table_Next.f t633.2).bind fun t636 => cond (!t636.2) ((typing_Table_Ended.f k t633.2 1000).bind fun t639 => cond ((t639.1.length : Int) == 0) ((concourseref01_RoomOf.f 0).bind fun t643 => (typing_Table_Users.f k t639.2 t643 160).bind fun t647 => cond ((t647.length : Int) == 0) ((concourseref01_RoomOf.f 1).bind fun t651 => (typing_Table_Users.f k t639.2 t651 160).bind fun t653 => cond ((t653.length : Int) == 0) ((concourselaw14_lives.f k).bind fun t657 => some t657) (some false)) (some false)) (some false)) (some false)))) ((typing_Table_Ended.f k p615.2.2 160).bind fun t661 => (typing_Table_Next.f t661.2).bind fun t664 => cond (!t664.2) ((typing_Table_Ended.f k t661.2 1000).bind fun t667 => cond ((t667.1.length : Int) == 0) ((concourseref01_RoomOf.f 0).bind fun t671 => (typing_Table_Users.f k t667.2 t671 160).bind fun t675 => cond ((t675.length : Int) == 0) ((concourseref01_RoomOf.f 1).bind fun t679 => (typing_Table_Users.f k t667.2 t679 160).bind fun t681 => cond ((t681.length : Int) == 0) ((concourselaw14_lives.f k).bind fun t685 => some t685) (some false)) (some false)) (some false)) (some false)))
/-! concourse/concourseref01.Few: function 23 -/
def concourseref01_Few.f (a0 : ByteArray) (a1 : Int) : Option (ByteArray) := cond (decide (a1 < (a0.size : Int))) (grd ((0 : Int) ≤ a1 ∧ 0 ≤ a1.toNat ∧ a1.toNat ≤ a0.size) (some (a0.extract 0 a1.toNat))) (some a0)
/-! concourse/concourseref03.Few: function 7 -/
def concourseref03_Few.f (a0 : Edu) : Option (Edu) := (concourseref01_Few.f a0.fRoom 40).bind fun t730 => (concourseref01_Few.f a0.fUser 40).bind fun t732 => (concourseref01_Few.f a0.fEvent 40).bind fun t734 => (concourseref01_Few.f a0.fThread 40).bind fun t736 => some (⟨a0.fKind, t730, t732, t734, t736, a0.fPrivate, a0.fOn, a0.fSpan, a0.fState, a0.fTick, a0.fStamp⟩ : Edu)
/-! concourse/concourseref01.colon: function 91 -/
def concourseref01_colon.l0 (k : Nat) (a0 : ByteArray) : Nat → Int → Option ((Int × Bool) ⊕ (Int))
  | 0, _ => none
  | j743 + 1, x739 => cond (decide (x739 < (a0.size : Int))) (grd ((0 : Int) ≤ x739 ∧ x739 < (a0.size : Int)) (cond ((bt a0 x739) == 58) (some (.inr x739)) (concourseref01_colon.l0 k a0 j743 (w64 (x739 + 1))))) (some (.inl (x739, decide (x739 < (a0.size : Int)))))
def concourseref01_colon.f (k : Nat) (a0 : ByteArray) : Option (Int) := (concourseref01_colon.l0 k a0 k 0).bind (fall fun (p738 : Int × Bool) => some (-1))
/-! concourse/concourseref01.low: function 94 -/
def concourseref01_low.f (a0 : Int) : Option (Bool) := cond (decide (97 ≤ a0)) (cond (decide (a0 ≤ 122)) (some true) (cond (decide (48 ≤ a0)) (some (decide (a0 ≤ 57))) (some false))) (cond (decide (48 ≤ a0)) (some (decide (a0 ≤ 57))) (some false))
/-! concourse/concourseref01.Part: function 92 -/
def concourseref01_Part.l0 (k : Nat) (a0 : ByteArray) : Nat → Int → Option ((Int × Bool) ⊕ (Bool))
  | 0, _ => none
  | j766 + 1, x751 => cond (decide (x751 < (a0.size : Int))) (grd ((0 : Int) ≤ x751 ∧ x751 < (a0.size : Int)) ((concourseref01_low.f (bt a0 x751)).bind fun t754 => cond (!t754) (grd ((0 : Int) ≤ x751 ∧ x751 < (a0.size : Int)) (cond ((bt a0 x751) != 46) (grd ((0 : Int) ≤ x751 ∧ x751 < (a0.size : Int)) (cond ((bt a0 x751) != 45) (grd ((0 : Int) ≤ x751 ∧ x751 < (a0.size : Int)) (cond ((bt a0 x751) != 95) (some (.inr false)) (concourseref01_Part.l0 k a0 j766 (w64 (x751 + 1))))) (concourseref01_Part.l0 k a0 j766 (w64 (x751 + 1))))) (concourseref01_Part.l0 k a0 j766 (w64 (x751 + 1))))) (concourseref01_Part.l0 k a0 j766 (w64 (x751 + 1))))) (some (.inl (x751, decide (x751 < (a0.size : Int)))))
def concourseref01_Part.f (k : Nat) (a0 : ByteArray) : Option (Bool) := (concourseref01_Part.l0 k a0 k 0).bind (fall fun (p749 : Int × Bool) => cond (decide (0 < (a0.size : Int))) (some (decide ((a0.size : Int) < 17))) (some false))
/-! concourse/concourseref01.Server: function 93 -/
def concourseref01_Server.l0 (k : Nat) (a0 : ByteArray) : Nat → Int → Option ((Int × Bool) ⊕ (Bool))
  | 0, _ => none
  | j792 + 1, x770 => cond (decide (x770 < (a0.size : Int))) (grd ((0 : Int) ≤ x770 ∧ x770 < (a0.size : Int)) ((concourseref01_low.f (bt a0 x770)).bind fun t773 => cond (decide (0 < x770)) (cond (decide (x770 < (w64 ((a0.size : Int) - 1)))) (grd ((0 : Int) ≤ x770 ∧ x770 < (a0.size : Int)) (cond ((bt a0 x770) == 46) (cond (!t773) (concourseref01_Server.l0 k a0 j792 (w64 (x770 + 1))) (concourseref01_Server.l0 k a0 j792 (w64 (x770 + 1)))) (grd ((0 : Int) ≤ x770 ∧ x770 < (a0.size : Int)) (cond (!t773) (cond (!((bt a0 x770) == 45)) (some (.inr false)) (concourseref01_Server.l0 k a0 j792 (w64 (x770 + 1)))) (concourseref01_Server.l0 k a0 j792 (w64 (x770 + 1))))))) (cond (!t773) (some (.inr false)) (concourseref01_Server.l0 k a0 j792 (w64 (x770 + 1))))) (cond (!t773) (some (.inr false)) (concourseref01_Server.l0 k a0 j792 (w64 (x770 + 1)))))) (some (.inl (x770, decide (x770 < (a0.size : Int)))))
def concourseref01_Server.f (k : Nat) (a0 : ByteArray) : Option (Bool) := (concourseref01_Server.l0 k a0 k 0).bind (fall fun (p768 : Int × Bool) => cond (decide (0 < (a0.size : Int))) (some (decide ((a0.size : Int) < 17))) (some false))
/-! concourse/concourseref01.Named: function 63 -/
def concourseref01_Named.f (k : Nat) (a0 : ByteArray) (a1 : Int) : Option (Bool) := (concourseref01_colon.f k a0).bind fun t794 => cond (decide (t794 < 1)) (some false) (grd ((0 : Int) ≤ 0 ∧ 0 < (a0.size : Int)) (cond ((bt a0 0) != a1) (some false) (grd ((0 : Int) ≤ 1 ∧ (0 : Int) ≤ t794 ∧ (1 : Int).toNat ≤ t794.toNat ∧ t794.toNat ≤ a0.size) ((concourseref01_Part.f k (a0.extract (1 : Int).toNat t794.toNat)).bind fun t801 => grd ((0 : Int) ≤ (w64 (t794 + 1)) ∧ (w64 (t794 + 1)).toNat ≤ a0.size ∧ a0.size ≤ a0.size) ((concourseref01_Server.f k (a0.extract (w64 (t794 + 1)).toNat a0.size)).bind fun t804 => cond t801 (some t804) (some false))))))
/-! concourse/concourseref01.Event: function 64 -/
def concourseref01_Event.l0 (k : Nat) (a0 : ByteArray) : Nat → Int → Option ((Int × Bool) ⊕ (Bool))
  | 0, _ => none
  | j838 + 1, x814 => cond (decide (x814 < (a0.size : Int))) (grd ((0 : Int) ≤ x814 ∧ x814 < (a0.size : Int)) ((concourseref01_low.f (bt a0 x814)).bind fun t817 => grd ((0 : Int) ≤ x814 ∧ x814 < (a0.size : Int)) (cond (decide (65 ≤ (bt a0 x814))) (grd ((0 : Int) ≤ x814 ∧ x814 < (a0.size : Int)) (cond (!t817) (cond (!(decide ((bt a0 x814) ≤ 90))) (grd ((0 : Int) ≤ x814 ∧ x814 < (a0.size : Int)) (cond ((bt a0 x814) != 45) (grd ((0 : Int) ≤ x814 ∧ x814 < (a0.size : Int)) (cond ((bt a0 x814) != 95) (some (.inr false)) (concourseref01_Event.l0 k a0 j838 (w64 (x814 + 1))))) (concourseref01_Event.l0 k a0 j838 (w64 (x814 + 1))))) (concourseref01_Event.l0 k a0 j838 (w64 (x814 + 1)))) (concourseref01_Event.l0 k a0 j838 (w64 (x814 + 1))))) (cond (!t817) (grd ((0 : Int) ≤ x814 ∧ x814 < (a0.size : Int)) (cond ((bt a0 x814) != 45) (grd ((0 : Int) ≤ x814 ∧ x814 < (a0.size : Int)) (cond ((bt a0 x814) != 95) (some (.inr false)) (concourseref01_Event.l0 k a0 j838 (w64 (x814 + 1))))) (concourseref01_Event.l0 k a0 j838 (w64 (x814 + 1))))) (concourseref01_Event.l0 k a0 j838 (w64 (x814 + 1))))))) (some (.inl (x814, decide (x814 < (a0.size : Int)))))
def concourseref01_Event.f (k : Nat) (a0 : ByteArray) : Option (Bool) := cond (decide ((a0.size : Int) < 2)) (some false) (cond (decide (17 < (a0.size : Int))) (some false) (grd ((0 : Int) ≤ 0 ∧ 0 < (a0.size : Int)) (cond ((bt a0 0) != 36) (some false) ((concourseref01_Event.l0 k a0 k 1).bind (fall fun (p813 : Int × Bool) => some true)))))
/-! concourse/concourseref01.Thread: function 65 -/
def concourseref01_Thread.f (k : Nat) (a0 : ByteArray) : Option (Bool) := (concourseref01_Event.f k a0).bind fun t840 => cond (decide (a0 = (⟨#[]⟩ : ByteArray))) (some true) (cond (decide (a0 = (⟨#[109, 97, 105, 110]⟩ : ByteArray))) (some true) (some t840))
/-! concourse/concourseref03.Local: function 44 -/
def concourseref03_Local.f (k : Nat) (a0 : Edu) : Option (Bool) := (concourseref01_Named.f k a0.fUser 64).bind fun t845 => (concourseref01_Named.f k a0.fRoom 33).bind fun t847 => (concourseref01_Event.f k a0.fEvent).bind fun t849 => (concourseref01_Thread.f k a0.fThread).bind fun t851 => cond (!t845) (some false) (cond (decide (a0.fTick < 0)) (some false) (cond (decide (1099511627776 < a0.fTick)) (some false) (cond (decide (a0.fStamp < 0)) (some false) (cond (decide (1099511627776 < a0.fStamp)) (some false) (cond (a0.fKind == 1) (cond t847 (cond t849 (cond t851 (cond (!a0.fOn) (cond (a0.fSpan == 0) (some (a0.fState == 0)) (some false)) (some false)) (some false)) (some false)) (some false)) (cond (a0.fKind == 2) (cond a0.fOn (cond (decide (1 ≤ a0.fSpan)) (cond (decide (a0.fSpan ≤ 60)) (cond t847 (cond (decide (a0.fEvent = (⟨#[]⟩ : ByteArray))) (cond (decide (a0.fThread = (⟨#[]⟩ : ByteArray))) (cond (a0.fState == 0) (some (!a0.fPrivate)) (some false)) (some false)) (some false)) (some false)) (cond (!a0.fOn) (cond t847 (cond (a0.fSpan == 0) (cond (decide (a0.fEvent = (⟨#[]⟩ : ByteArray))) (cond (decide (a0.fThread = (⟨#[]⟩ : ByteArray))) (cond (a0.fState == 0) (some (!a0.fPrivate)) (some false)) (some false)) (some false)) (some false)) (some false)) (cond t847 (some false) (some false)))) (cond (!a0.fOn) (cond t847 (cond (a0.fSpan == 0) (cond (decide (a0.fEvent = (⟨#[]⟩ : ByteArray))) (cond (decide (a0.fThread = (⟨#[]⟩ : ByteArray))) (cond (a0.fState == 0) (some (!a0.fPrivate)) (some false)) (some false)) (some false)) (some false)) (some false)) (cond t847 (some false) (some false)))) (cond (!a0.fOn) (cond t847 (cond (a0.fSpan == 0) (cond (decide (a0.fEvent = (⟨#[]⟩ : ByteArray))) (cond (decide (a0.fThread = (⟨#[]⟩ : ByteArray))) (cond (a0.fState == 0) (some (!a0.fPrivate)) (some false)) (some false)) (some false)) (some false)) (some false)) (cond t847 (some false) (some false)))) (cond (a0.fKind == 3) (cond (decide (a0.fRoom = (⟨#[]⟩ : ByteArray))) (cond (decide (a0.fEvent = (⟨#[]⟩ : ByteArray))) (cond (decide (a0.fThread = (⟨#[]⟩ : ByteArray))) (cond (!a0.fOn) (cond (a0.fSpan == 0) (cond (!a0.fPrivate) (cond (decide (0 ≤ a0.fState)) (some (decide (a0.fState ≤ 2))) (some false)) (some false)) (some false)) (some false)) (some false)) (some false)) (some false)) (some false))))))))
/-! concourse/concourseref03.May: function 24 -/
def concourseref03_May.f (k : Nat) (a0 : Edu) : Option (Bool) := (concourseref03_Local.f k a0).bind fun t906 => cond t906 (some (!a0.fPrivate)) (some false)
/-! concourse/concourseref02.Number: function 66 -/
def concourseref02_Number.f : Nat → Int → Option ((List Int))
  | 0, _ => none
  | k + 1, a0 => (cond (decide (a0 < 0)) (some 0) (some a0)).bind fun (p909 : Int) => cond (decide (p909 < 128)) (some ([IntKind.u8.wrap (p909)] : List Int)) ((concourseref02_Number.f k (w64 (p909.tdiv 128))).bind fun t913 => grd (([IntKind.u8.wrap (w64 (128 + (p909.tmod 128)))] : List Int).length + t913.length ≤ 9223372036854775807 ∧ (([IntKind.u8.wrap (w64 (128 + (p909.tmod 128)))] : List Int).length + t913.length) * 1 ≤ 140737488355328) (some (([IntKind.u8.wrap (w64 (128 + (p909.tmod 128)))] : List Int) ++ t913)))
/-! concourse/concourseref02.Text: function 67 -/
def concourseref02_Text.f (k : Nat) (a0 : ByteArray) : Option ((List Int)) := (concourseref02_Number.f k (a0.size : Int)).bind fun t919 => grd (t919.length + (strBs a0).length ≤ 9223372036854775807 ∧ (t919.length + (strBs a0).length) * 1 ≤ 140737488355328) (some (t919 ++ (strBs a0)))
/-! concourse/concourseref02.Flag: function 68 -/
def concourseref02_Flag.f (a0 : Bool) : Option ((List Int)) := cond a0 (some ([1] : List Int)) (some ([0] : List Int))
/-! concourse/concourseref03.Bytes: function 45 -/
def concourseref03_Bytes.f (k : Nat) (a0 : Edu) : Option ((List Int)) := (concourseref02_Number.f k a0.fKind).bind fun t926 => (concourseref02_Text.f k a0.fRoom).bind fun t929 => grd (t926.length + t929.length ≤ 9223372036854775807 ∧ (t926.length + t929.length) * 1 ≤ 140737488355328) ((concourseref02_Text.f k a0.fUser).bind fun t934 => grd ((t926 ++ t929).length + t934.length ≤ 9223372036854775807 ∧ ((t926 ++ t929).length + t934.length) * 1 ≤ 140737488355328) ((concourseref02_Text.f k a0.fEvent).bind fun t939 => grd (((t926 ++ t929) ++ t934).length + t939.length ≤ 9223372036854775807 ∧ (((t926 ++ t929) ++ t934).length + t939.length) * 1 ≤ 140737488355328) ((concourseref02_Text.f k a0.fThread).bind fun t944 => grd ((((t926 ++ t929) ++ t934) ++ t939).length + t944.length ≤ 9223372036854775807 ∧ ((((t926 ++ t929) ++ t934) ++ t939).length + t944.length) * 1 ≤ 140737488355328) ((concourseref02_Flag.f a0.fOn).bind fun t949 => grd (((((t926 ++ t929) ++ t934) ++ t939) ++ t944).length + t949.length ≤ 9223372036854775807 ∧ (((((t926 ++ t929) ++ t934) ++ t939) ++ t944).length + t949.length) * 1 ≤ 140737488355328) ((concourseref02_Number.f k a0.fSpan).bind fun t953 => grd ((((((t926 ++ t929) ++ t934) ++ t939) ++ t944) ++ t949).length + t953.length ≤ 9223372036854775807 ∧ ((((((t926 ++ t929) ++ t934) ++ t939) ++ t944) ++ t949).length + t953.length) * 1 ≤ 140737488355328) ((concourseref02_Number.f k a0.fState).bind fun t958 => grd (((((((t926 ++ t929) ++ t934) ++ t939) ++ t944) ++ t949) ++ t953).length + t958.length ≤ 9223372036854775807 ∧ (((((((t926 ++ t929) ++ t934) ++ t939) ++ t944) ++ t949) ++ t953).length + t958.length) * 1 ≤ 140737488355328) ((concourseref02_Number.f k a0.fTick).bind fun t963 => grd ((((((((t926 ++ t929) ++ t934) ++ t939) ++ t944) ++ t949) ++ t953) ++ t958).length + t963.length ≤ 9223372036854775807 ∧ ((((((((t926 ++ t929) ++ t934) ++ t939) ++ t944) ++ t949) ++ t953) ++ t958).length + t963.length) * 1 ≤ 140737488355328) ((concourseref02_Number.f k a0.fStamp).bind fun t968 => grd (((((((((t926 ++ t929) ++ t934) ++ t939) ++ t944) ++ t949) ++ t953) ++ t958) ++ t963).length + t968.length ≤ 9223372036854775807 ∧ (((((((((t926 ++ t929) ++ t934) ++ t939) ++ t944) ++ t949) ++ t953) ++ t958) ++ t963).length + t968.length) * 1 ≤ 140737488355328) (some (((((((((t926 ++ t929) ++ t934) ++ t939) ++ t944) ++ t949) ++ t953) ++ t958) ++ t963) ++ t968))))))))))
/-! concourse/concourseref03.Compare: function 25 -/
def concourseref03_Compare.f (k : Nat) (a0 : Edu) (a1 : Edu) : Option (Int) := cond (decide (a0.fStamp < a1.fStamp)) (some (-1)) (cond (decide (a1.fStamp < a0.fStamp)) (some 1) ((concourseref03_Bytes.f k a0).bind fun t977 => (concourseref03_Bytes.f k a1).bind fun t980 => cond (sLt (ofNums t977) (ofNums t980)) (some (-1)) (cond (sLt (ofNums t980) (ofNums t977)) (some 1) (some 0))))
/-! concourse/concourseref14.Put: function 8 -/
def concourseref14_Put.l0 (k : Nat) (a0 : TRef) (a1 : Edu) : Nat → Bool → Int → List Edu → List Bool → Option ((Bool × Int × Bool × (List Edu) × (List Bool)) ⊕ (TRef × Bool × Int))
  | 0, _, _, _, _ => none
  | j1065 + 1, x1002, x1003, x1004, x1005 => cond (decide (x1003 < (a0.fL.length : Int))) (grd ((0 : Int) ≤ x1003 ∧ x1003 < (a0.fL.length : Int)) (cond (decide (((Edu.K.at a0.fL x1003).fRoom) = a1.fRoom)) (cond (decide (((Edu.K.at a0.fL x1003).fUser) = a1.fUser)) ((concourseref03_Compare.f k a1 (Edu.K.at a0.fL x1003)).bind fun t1013 => cond (decide (t1013 ≤ 0)) (some (.inr (a0, false, 0))) (concourseref14_Put.l0 k a0 a1 j1065 x1002 (w64 (x1003 + 1)) x1004 x1005)) ((cond (!x1002) (cond (sLt a1.fRoom ((Edu.K.at a0.fL x1003).fRoom)) (grd (x1004.length + ([a1] : List Edu).length ≤ 9223372036854775807 ∧ (x1004.length + ([a1] : List Edu).length) * 112 ≤ 140737488355328) (grd (x1005.length + ([false] : List Bool).length ≤ 9223372036854775807 ∧ (x1005.length + ([false] : List Bool).length) * 1 ≤ 140737488355328) (some (true, true, x1004 ++ ([a1] : List Edu), x1005 ++ ([false] : List Bool))))) (cond (decide (a1.fRoom = ((Edu.K.at a0.fL x1003).fRoom))) (cond (sLt a1.fUser ((Edu.K.at a0.fL x1003).fUser)) (grd (x1004.length + ([a1] : List Edu).length ≤ 9223372036854775807 ∧ (x1004.length + ([a1] : List Edu).length) * 112 ≤ 140737488355328) (grd (x1005.length + ([false] : List Bool).length ≤ 9223372036854775807 ∧ (x1005.length + ([false] : List Bool).length) * 1 ≤ 140737488355328) (some (true, sLt a1.fUser ((Edu.K.at a0.fL x1003).fUser), x1004 ++ ([a1] : List Edu), x1005 ++ ([false] : List Bool))))) (some (x1002, sLt a1.fUser ((Edu.K.at a0.fL x1003).fUser), x1004, x1005))) (some (x1002, false, x1004, x1005)))) (some (x1002, false, x1004, x1005))).bind fun (p1016 : Bool × Bool × (List Edu) × (List Bool)) => grd (p1016.2.2.1.length + ([Edu.K.at a0.fL x1003] : List Edu).length ≤ 9223372036854775807 ∧ (p1016.2.2.1.length + ([Edu.K.at a0.fL x1003] : List Edu).length) * 112 ≤ 140737488355328) (grd ((0 : Int) ≤ x1003 ∧ x1003 < (a0.fTold.length : Int)) (grd (p1016.2.2.2.length + ([boolK.at a0.fTold x1003] : List Bool).length ≤ 9223372036854775807 ∧ (p1016.2.2.2.length + ([boolK.at a0.fTold x1003] : List Bool).length) * 1 ≤ 140737488355328) (concourseref14_Put.l0 k a0 a1 j1065 p1016.1 (w64 (x1003 + 1)) (p1016.2.2.1 ++ ([Edu.K.at a0.fL x1003] : List Edu)) (p1016.2.2.2 ++ ([boolK.at a0.fTold x1003] : List Bool))))))) ((cond (!x1002) (cond (sLt a1.fRoom ((Edu.K.at a0.fL x1003).fRoom)) (grd (x1004.length + ([a1] : List Edu).length ≤ 9223372036854775807 ∧ (x1004.length + ([a1] : List Edu).length) * 112 ≤ 140737488355328) (grd (x1005.length + ([false] : List Bool).length ≤ 9223372036854775807 ∧ (x1005.length + ([false] : List Bool).length) * 1 ≤ 140737488355328) (some (true, true, x1004 ++ ([a1] : List Edu), x1005 ++ ([false] : List Bool))))) (cond (decide (a1.fRoom = ((Edu.K.at a0.fL x1003).fRoom))) (cond (sLt a1.fUser ((Edu.K.at a0.fL x1003).fUser)) (grd (x1004.length + ([a1] : List Edu).length ≤ 9223372036854775807 ∧ (x1004.length + ([a1] : List Edu).length) * 112 ≤ 140737488355328) (grd (x1005.length + ([false] : List Bool).length ≤ 9223372036854775807 ∧ (x1005.length + ([false] : List Bool).length) * 1 ≤ 140737488355328) (some (true, sLt a1.fUser ((Edu.K.at a0.fL x1003).fUser), x1004 ++ ([a1] : List Edu), x1005 ++ ([false] : List Bool))))) (some (x1002, sLt a1.fUser ((Edu.K.at a0.fL x1003).fUser), x1004, x1005))) (some (x1002, false, x1004, x1005)))) (some (x1002, false, x1004, x1005))).bind fun (p1041 : Bool × Bool × (List Edu) × (List Bool)) => grd (p1041.2.2.1.length + ([Edu.K.at a0.fL x1003] : List Edu).length ≤ 9223372036854775807 ∧ (p1041.2.2.1.length + ([Edu.K.at a0.fL x1003] : List Edu).length) * 112 ≤ 140737488355328) (grd ((0 : Int) ≤ x1003 ∧ x1003 < (a0.fTold.length : Int)) (grd (p1041.2.2.2.length + ([boolK.at a0.fTold x1003] : List Bool).length ≤ 9223372036854775807 ∧ (p1041.2.2.2.length + ([boolK.at a0.fTold x1003] : List Bool).length) * 1 ≤ 140737488355328) (concourseref14_Put.l0 k a0 a1 j1065 p1041.1 (w64 (x1003 + 1)) (p1041.2.2.1 ++ ([Edu.K.at a0.fL x1003] : List Edu)) (p1041.2.2.2 ++ ([boolK.at a0.fTold x1003] : List Bool)))))))) (some (.inl (x1002, x1003, decide (x1003 < (a0.fL.length : Int)), x1004, x1005)))
def concourseref14_Put.f (k : Nat) (a0 : TRef) (a1 : Edu) : Option (TRef × Bool × Int) := (concourseref03_May.f k a1).bind fun t988 => cond (a1.fKind != 2) (some (a0, false, 1)) (cond (!t988) (some (a0, false, 1)) ((concourseref14_Put.l0 k a0 a1 k false 0 ([] : List Edu) ([] : List Bool)).bind (fall fun (p994 : Bool × Int × Bool × (List Edu) × (List Bool)) => cond (!p994.1) (grd (p994.2.2.2.1.length + ([a1] : List Edu).length ≤ 9223372036854775807 ∧ (p994.2.2.2.1.length + ([a1] : List Edu).length) * 112 ≤ 140737488355328) (grd (p994.2.2.2.2.length + ([false] : List Bool).length ≤ 9223372036854775807 ∧ (p994.2.2.2.2.length + ([false] : List Bool).length) * 1 ≤ 140737488355328) (some ((⟨p994.2.2.2.1 ++ ([a1] : List Edu), p994.2.2.2.2 ++ ([false] : List Bool)⟩ : TRef), true, 0)))) (some ((⟨p994.2.2.2.1, p994.2.2.2.2⟩ : TRef), true, 0)))))
/-! concourse/concourseref09.Put: function 33 -/
def concourseref09_Put.l0 (k : Nat) (a0 : List ByteArray) (a1 : ByteArray) : Nat → Bool → Int → List ByteArray → Option (Bool × Int × Bool × (List ByteArray))
  | 0, _, _, _ => none
  | j1092 + 1, x1073, x1074, x1075 => cond (decide (x1074 < (a0.length : Int))) ((cond (!x1073) (grd ((0 : Int) ≤ x1074 ∧ x1074 < (a0.length : Int)) (cond (!sLt (strK.at a0 x1074) a1) (grd (x1075.length + ([a1] : List ByteArray).length ≤ 9223372036854775807 ∧ (x1075.length + ([a1] : List ByteArray).length) * 16 ≤ 140737488355328) (some (true, !sLt (strK.at a0 x1074) a1, x1075 ++ ([a1] : List ByteArray)))) (some (x1073, !sLt (strK.at a0 x1074) a1, x1075)))) (some (x1073, false, x1075))).bind fun (p1078 : Bool × Bool × (List ByteArray)) => grd ((0 : Int) ≤ x1074 ∧ x1074 < (a0.length : Int)) (cond (!decide ((strK.at a0 x1074) = a1)) (grd ((0 : Int) ≤ x1074 ∧ x1074 < (a0.length : Int)) (grd (p1078.2.2.length + ([strK.at a0 x1074] : List ByteArray).length ≤ 9223372036854775807 ∧ (p1078.2.2.length + ([strK.at a0 x1074] : List ByteArray).length) * 16 ≤ 140737488355328) (concourseref09_Put.l0 k a0 a1 j1092 p1078.1 (w64 (x1074 + 1)) (p1078.2.2 ++ ([strK.at a0 x1074] : List ByteArray))))) (concourseref09_Put.l0 k a0 a1 j1092 p1078.1 (w64 (x1074 + 1)) p1078.2.2))) (some (x1073, x1074, decide (x1074 < (a0.length : Int)), x1075))
def concourseref09_Put.f (k : Nat) (a0 : List ByteArray) (a1 : ByteArray) : Option ((List ByteArray)) := (concourseref09_Put.l0 k a0 a1 k false 0 ([] : List ByteArray)).bind fun (p1068 : Bool × Int × Bool × (List ByteArray)) => cond (!p1068.1) (grd (p1068.2.2.2.length + ([a1] : List ByteArray).length ≤ 9223372036854775807 ∧ (p1068.2.2.2.length + ([a1] : List ByteArray).length) * 16 ≤ 140737488355328) (some (p1068.2.2.2 ++ ([a1] : List ByteArray)))) (some p1068.2.2.2)
/-! concourse/concourseref14.Ended: function 10 -/
def concourseref14_Ended.l0 (k : Nat) (a0 : TRef) (a1 : Int) : Nat → Int → List Bool → List ByteArray → Option (Int × Bool × (List Bool) × (List ByteArray))
  | 0, _, _, _ => none
  | j1125 + 1, x1102, x1103, x1104 => cond (decide (x1102 < (a0.fL.length : Int))) (grd ((0 : Int) ≤ x1102 ∧ x1102 < (a0.fTold.length : Int)) (grd ((0 : Int) ≤ x1102 ∧ x1102 < (x1103.length : Int)) (grd ((0 : Int) ≤ x1102 ∧ x1102 < (a0.fL.length : Int)) (cond ((Edu.K.at a0.fL x1102).fOn) (grd ((0 : Int) ≤ x1102 ∧ x1102 < (a0.fTold.length : Int)) (cond (!(boolK.at a0.fTold x1102)) (grd ((0 : Int) ≤ x1102 ∧ x1102 < (a0.fL.length : Int)) (grd ((0 : Int) ≤ x1102 ∧ x1102 < (a0.fL.length : Int)) (cond (decide ((w64 (((Edu.K.at a0.fL x1102).fTick) + ((Edu.K.at a0.fL x1102).fSpan))) ≤ a1)) (grd ((0 : Int) ≤ x1102 ∧ x1102 < ((x1103.set x1102.toNat (boolK.at a0.fTold x1102)).length : Int)) (grd ((0 : Int) ≤ x1102 ∧ x1102 < (a0.fL.length : Int)) ((concourseref09_Put.f k x1104 ((Edu.K.at a0.fL x1102).fRoom)).bind fun t1120 => concourseref14_Ended.l0 k a0 a1 j1125 (w64 (x1102 + 1)) ((x1103.set x1102.toNat (boolK.at a0.fTold x1102)).set x1102.toNat true) t1120))) (concourseref14_Ended.l0 k a0 a1 j1125 (w64 (x1102 + 1)) (x1103.set x1102.toNat (boolK.at a0.fTold x1102)) x1104)))) (concourseref14_Ended.l0 k a0 a1 j1125 (w64 (x1102 + 1)) (x1103.set x1102.toNat (boolK.at a0.fTold x1102)) x1104))) (concourseref14_Ended.l0 k a0 a1 j1125 (w64 (x1102 + 1)) (x1103.set x1102.toNat (boolK.at a0.fTold x1102)) x1104))))) (some (x1102, decide (x1102 < (a0.fL.length : Int)), x1103, x1104))
def concourseref14_Ended.f (k : Nat) (a0 : TRef) (a1 : Int) : Option (TRef × (List ByteArray)) := grd ((0 : Int) ≤ (a0.fL.length : Int) ∧ (a0.fL.length : Int) ≤ (9223372036854775807 : Int) ∧ (a0.fL.length : Int).toNat * 1 ≤ 140737488355328) ((concourseref14_Ended.l0 k a0 a1 k 0 (List.replicate (a0.fL.length : Int).toNat (false : Bool)) ([] : List ByteArray)).bind fun (p1100 : Int × Bool × (List Bool) × (List ByteArray)) => some ((⟨a0.fL, p1100.2.2.1⟩ : TRef), p1100.2.2.2))
/-! concourse/concourseref01.SameTexts: function 11 -/
def concourseref01_SameTexts.l0 (k : Nat) (a0 : List ByteArray) (a1 : List ByteArray) : Nat → Int → Option ((Int × Bool) ⊕ (Bool))
  | 0, _ => none
  | j1135 + 1, x1130 => cond (decide (x1130 < (a0.length : Int))) (grd ((0 : Int) ≤ x1130 ∧ x1130 < (a0.length : Int)) (grd ((0 : Int) ≤ x1130 ∧ x1130 < (a1.length : Int)) (cond (!decide ((strK.at a0 x1130) = (strK.at a1 x1130))) (some (.inr false)) (concourseref01_SameTexts.l0 k a0 a1 j1135 (w64 (x1130 + 1)))))) (some (.inl (x1130, decide (x1130 < (a0.length : Int)))))
def concourseref01_SameTexts.f (k : Nat) (a0 : List ByteArray) (a1 : List ByteArray) : Option (Bool) := cond ((a0.length : Int) != (a1.length : Int)) (some false) ((concourseref01_SameTexts.l0 k a0 a1 k 0).bind (fall fun (p1129 : Int × Bool) => some true))
/-! concourse/concourseref14.Next: function 14 -/
def concourseref14_Next.l0 (k : Nat) (a0 : TRef) : Nat → Int → Bool → Int → Option (Int × Bool × Int × Bool)
  | 0, _, _, _ => none
  | j1154 + 1, x1139, x1140, x1141 => cond (decide (x1141 < (a0.fL.length : Int))) (grd ((0 : Int) ≤ x1141 ∧ x1141 < (a0.fL.length : Int)) (grd ((0 : Int) ≤ x1141 ∧ x1141 < (a0.fL.length : Int)) (grd ((0 : Int) ≤ x1141 ∧ x1141 < (a0.fL.length : Int)) (cond ((Edu.K.at a0.fL x1141).fOn) (grd ((0 : Int) ≤ x1141 ∧ x1141 < (a0.fTold.length : Int)) (cond (!(boolK.at a0.fTold x1141)) (cond (!x1140) (concourseref14_Next.l0 k a0 j1154 (w64 (((Edu.K.at a0.fL x1141).fTick) + ((Edu.K.at a0.fL x1141).fSpan))) true (w64 (x1141 + 1))) (cond (decide ((w64 (((Edu.K.at a0.fL x1141).fTick) + ((Edu.K.at a0.fL x1141).fSpan))) < x1139)) (concourseref14_Next.l0 k a0 j1154 (w64 (((Edu.K.at a0.fL x1141).fTick) + ((Edu.K.at a0.fL x1141).fSpan))) true (w64 (x1141 + 1))) (concourseref14_Next.l0 k a0 j1154 x1139 x1140 (w64 (x1141 + 1))))) (concourseref14_Next.l0 k a0 j1154 x1139 x1140 (w64 (x1141 + 1))))) (concourseref14_Next.l0 k a0 j1154 x1139 x1140 (w64 (x1141 + 1))))))) (some (x1139, x1140, x1141, decide (x1141 < (a0.fL.length : Int))))
def concourseref14_Next.f (k : Nat) (a0 : TRef) : Option (Int × Bool) := (concourseref14_Next.l0 k a0 k 0 false 0).bind fun (p1138 : Int × Bool × Int × Bool) => some (p1138.1, p1138.2.1)
/-! concourse/concourseref04.SameEdus: function 15 -/
def concourseref04_SameEdus.l0 (k : Nat) (a0 : List Edu) (a1 : List Edu) : Nat → Int → Option ((Int × Bool) ⊕ (Bool))
  | 0, _ => none
  | j1163 + 1, x1158 => cond (decide (x1158 < (a0.length : Int))) (grd ((0 : Int) ≤ x1158 ∧ x1158 < (a0.length : Int)) (grd ((0 : Int) ≤ x1158 ∧ x1158 < (a1.length : Int)) (cond (!decide (Edu.K.at a0 x1158 = Edu.K.at a1 x1158)) (some (.inr false)) (concourseref04_SameEdus.l0 k a0 a1 j1163 (w64 (x1158 + 1)))))) (some (.inl (x1158, decide (x1158 < (a0.length : Int)))))
def concourseref04_SameEdus.f (k : Nat) (a0 : List Edu) (a1 : List Edu) : Option (Bool) := cond ((a0.length : Int) != (a1.length : Int)) (some false) ((concourseref04_SameEdus.l0 k a0 a1 k 0).bind (fall fun (p1157 : Int × Bool) => some true))
/-! concourse/concourselaw14.TypingPlays: function 3 -/
def concourselaw14_TypingPlays.l0 (k : Nat) (a0 : List Edu) (a1 : List Bool) (a2 : List Int) : Nat → Int → List Edu → List Bool → TTab → Option ((Int × Bool × (List Edu) × (List Bool) × TTab) ⊕ (Bool))
  | 0, _, _, _, _ => none
  | j1229 + 1, x1173, x1174, x1175, x1176 => cond (decide (x1173 < (a0.length : Int))) (cond (decide (x1173 < 16)) (grd ((0 : Int) ≤ x1173 ∧ x1173 < (a0.length : Int)) ((concourseref14_Made.f k (Edu.K.at a0 x1173)).bind fun t1180 => (cond (decide (x1173 < (a1.length : Int))) (grd ((0 : Int) ≤ (min x1173 (w64 ((a1.length : Int) - 1))) ∧ (min x1173 (w64 ((a1.length : Int) - 1))) < (a1.length : Int)) (cond (boolK.at a1 (min x1173 (w64 ((a1.length : Int) - 1)))) (grd ((0 : Int) ≤ x1173 ∧ x1173 < (a0.length : Int)) ((concourseref03_Few.f (Edu.K.at a0 x1173)).bind fun t1225 => some (boolK.at a1 (min x1173 (w64 ((a1.length : Int) - 1))), t1225.fKind, t1225.fRoom, t1225.fUser, t1225.fEvent, t1225.fThread, t1225.fPrivate, t1225.fOn, t1225.fSpan, t1225.fState, t1225.fTick, t1225.fStamp))) (some (boolK.at a1 (min x1173 (w64 ((a1.length : Int) - 1))), t1180.fKind, t1180.fRoom, t1180.fUser, t1180.fEvent, t1180.fThread, t1180.fPrivate, t1180.fOn, t1180.fSpan, t1180.fState, t1180.fTick, t1180.fStamp)))) (some (false, t1180.fKind, t1180.fRoom, t1180.fUser, t1180.fEvent, t1180.fThread, t1180.fPrivate, t1180.fOn, t1180.fSpan, t1180.fState, t1180.fTick, t1180.fStamp))).bind fun (p1183 : Bool × Int × ByteArray × ByteArray × ByteArray × ByteArray × Bool × Bool × Int × Int × Int × Int) => (concourseref14_Put.f k (⟨x1174, x1175⟩ : TRef) (⟨p1183.2.1, p1183.2.2.1, p1183.2.2.2.1, p1183.2.2.2.2.1, p1183.2.2.2.2.2.1, p1183.2.2.2.2.2.2.1, p1183.2.2.2.2.2.2.2.1, p1183.2.2.2.2.2.2.2.2.1, p1183.2.2.2.2.2.2.2.2.2.1, p1183.2.2.2.2.2.2.2.2.2.2.1, p1183.2.2.2.2.2.2.2.2.2.2.2⟩ : Edu)).bind fun t1184 => (typing_Table_Put.f k x1176 (⟨p1183.2.1, p1183.2.2.1, p1183.2.2.2.1, p1183.2.2.2.2.1, p1183.2.2.2.2.2.1, p1183.2.2.2.2.2.2.1, p1183.2.2.2.2.2.2.2.1, p1183.2.2.2.2.2.2.2.2.1, p1183.2.2.2.2.2.2.2.2.2.1, p1183.2.2.2.2.2.2.2.2.2.2.1, p1183.2.2.2.2.2.2.2.2.2.2.2⟩ : Edu)).bind fun t1187 => cond (t1187.1 != t1184.2.1) (some (.inr false)) (cond (t1184.2.2 != t1187.2.1) (some (.inr false)) ((cond (decide (x1173 < (a2.length : Int))) (grd ((0 : Int) ≤ (min x1173 (w64 ((a2.length : Int) - 1))) ∧ (min x1173 (w64 ((a2.length : Int) - 1))) < (a2.length : Int)) ((concourseref14_Ended.f k t1184.1 ((intK .i64).at a2 (min x1173 (w64 ((a2.length : Int) - 1))))).bind fun t1211 => (typing_Table_Ended.f k t1187.2.2 ((intK .i64).at a2 (min x1173 (w64 ((a2.length : Int) - 1))))).bind fun t1215 => (concourseref01_SameTexts.f k t1215.1 t1211.2).bind fun t1218 => cond (!t1218) (some (.inr (.inr false))) (some (.inl (t1211.1.fL, t1211.1.fTold, t1215.2))))) (some (.inl (t1184.1.fL, t1184.1.fTold, t1187.2.2)))).bind (fall fun (p1192 : (List Edu) × (List Bool) × TTab) => (typing_Table_Next.f p1192.2.2).bind fun t1193 => (concourseref14_Next.f k (⟨p1192.1, p1192.2.1⟩ : TRef)).bind fun t1195 => cond (t1193.1 != t1195.1) (some (.inr false)) (cond (t1193.2 != t1195.2) (some (.inr false)) ((typing_Table_All.f p1192.2.2).bind fun t1203 => (concourseref04_SameEdus.f k t1203 p1192.1).bind fun t1206 => cond (!t1206) (some (.inr false)) (concourselaw14_TypingPlays.l0 k a0 a1 a2 j1229 (w64 (x1173 + 1)) p1192.1 p1192.2.1 p1192.2.2)))))))) (some (.inl (x1173, decide (x1173 < 16), x1174, x1175, x1176)))) (some (.inl (x1173, false, x1174, x1175, x1176)))
def concourselaw14_TypingPlays.f (k : Nat) (a0 : List Edu) (a1 : List Bool) (a2 : List Int) : Option (Bool) := (typing_New.f).bind fun t1165 => (concourselaw14_TypingPlays.l0 k a0 a1 a2 k 0 ([] : List Edu) ([] : List Bool) t1165).bind (fall fun (p1170 : Int × Bool × (List Edu) × (List Bool) × TTab) => (concourselaw14_lives.f k).bind fun t1171 => some t1171)
end Go.Proofs.YtmbodanckhidiaaGreat
