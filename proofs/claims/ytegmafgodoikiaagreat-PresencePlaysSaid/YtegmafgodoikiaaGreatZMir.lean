/- The walks. -/
import Derived.Test.YtegmafgodoikiaaGreatChecked
import Derived.Test.YtegmafgodoikiaaGreatConQ
import Derived.Eval
set_option linter.all false
set_option maxRecDepth 10000
set_option maxHeartbeats 20000000
namespace Go.Proofs.YtegmafgodoikiaaGreat
open Go Go.Sp
theorem c120 : Tryz.prog.cellsOf 120 = 1 := by kernel_rfl
theorem c121 : Tryz.prog.cellsOf 121 = 1 := by kernel_rfl
theorem c22 : Tryz.prog.cellsOf 22 = 1 := by kernel_rfl
theorem c25 : Tryz.prog.cellsOf 25 = 1 := by kernel_rfl
theorem c27 : Tryz.prog.cellsOf 27 = 2 := by kernel_rfl
theorem c3 : Tryz.prog.cellsOf 3 = 1 := by kernel_rfl
theorem c32 : Tryz.prog.cellsOf 32 = 11 := by kernel_rfl
theorem c4 : Tryz.prog.cellsOf 4 = 1 := by kernel_rfl
theorem c5 : Tryz.prog.cellsOf 5 = 1 := by kernel_rfl
theorem c58 : Tryz.prog.cellsOf 58 = 1 := by kernel_rfl
theorem c62 : Tryz.prog.cellsOf 62 = 1 := by kernel_rfl
theorem c74 : Tryz.prog.cellsOf 74 = 2 := by kernel_rfl
theorem c78 : Tryz.prog.cellsOf 78 = 1 := by kernel_rfl
theorem c79 : Tryz.prog.cellsOf 79 = 1 := by kernel_rfl
theorem c88 : Tryz.prog.cellsOf 88 = 5 := by kernel_rfl
theorem c9 : Tryz.prog.cellsOf 9 = 1 := by kernel_rfl
theorem cal10 : callable Tryz.prog 10 = true := by kernel_rfl
theorem cal100 : callable Tryz.prog 100 = true := by kernel_rfl
theorem cal101 : callable Tryz.prog 101 = true := by kernel_rfl
theorem cal102 : callable Tryz.prog 102 = true := by kernel_rfl
theorem cal103 : callable Tryz.prog 103 = true := by kernel_rfl
theorem cal104 : callable Tryz.prog 104 = true := by kernel_rfl
theorem cal105 : callable Tryz.prog 105 = true := by kernel_rfl
theorem cal106 : callable Tryz.prog 106 = true := by kernel_rfl
theorem cal108 : callable Tryz.prog 108 = true := by kernel_rfl
theorem cal109 : callable Tryz.prog 109 = true := by kernel_rfl
theorem cal11 : callable Tryz.prog 11 = true := by kernel_rfl
theorem cal110 : callable Tryz.prog 110 = true := by kernel_rfl
theorem cal117 : callable Tryz.prog 117 = true := by kernel_rfl
theorem cal118 : callable Tryz.prog 118 = true := by kernel_rfl
theorem cal119 : callable Tryz.prog 119 = true := by kernel_rfl
theorem cal12 : callable Tryz.prog 12 = true := by kernel_rfl
theorem cal120 : callable Tryz.prog 120 = true := by kernel_rfl
theorem cal122 : callable Tryz.prog 122 = true := by kernel_rfl
theorem cal123 : callable Tryz.prog 123 = true := by kernel_rfl
theorem cal124 : callable Tryz.prog 124 = true := by kernel_rfl
theorem cal125 : callable Tryz.prog 125 = true := by kernel_rfl
theorem cal126 : callable Tryz.prog 126 = true := by kernel_rfl
theorem cal127 : callable Tryz.prog 127 = true := by kernel_rfl
theorem cal128 : callable Tryz.prog 128 = true := by kernel_rfl
theorem cal129 : callable Tryz.prog 129 = true := by kernel_rfl
theorem cal13 : callable Tryz.prog 13 = true := by kernel_rfl
theorem cal130 : callable Tryz.prog 130 = true := by kernel_rfl
theorem cal16 : callable Tryz.prog 16 = true := by kernel_rfl
theorem cal18 : callable Tryz.prog 18 = true := by kernel_rfl
theorem cal19 : callable Tryz.prog 19 = true := by kernel_rfl
theorem cal20 : callable Tryz.prog 20 = true := by kernel_rfl
theorem cal21 : callable Tryz.prog 21 = true := by kernel_rfl
theorem cal22 : callable Tryz.prog 22 = true := by kernel_rfl
theorem cal23 : callable Tryz.prog 23 = true := by kernel_rfl
theorem cal24 : callable Tryz.prog 24 = true := by kernel_rfl
theorem cal25 : callable Tryz.prog 25 = true := by kernel_rfl
theorem cal26 : callable Tryz.prog 26 = true := by kernel_rfl
theorem cal27 : callable Tryz.prog 27 = true := by kernel_rfl
theorem cal28 : callable Tryz.prog 28 = true := by kernel_rfl
theorem cal29 : callable Tryz.prog 29 = true := by kernel_rfl
theorem cal30 : callable Tryz.prog 30 = true := by kernel_rfl
theorem cal31 : callable Tryz.prog 31 = true := by kernel_rfl
theorem cal32 : callable Tryz.prog 32 = true := by kernel_rfl
theorem cal33 : callable Tryz.prog 33 = true := by kernel_rfl
theorem cal34 : callable Tryz.prog 34 = true := by kernel_rfl
theorem cal35 : callable Tryz.prog 35 = true := by kernel_rfl
theorem cal36 : callable Tryz.prog 36 = true := by kernel_rfl
theorem cal37 : callable Tryz.prog 37 = true := by kernel_rfl
theorem cal38 : callable Tryz.prog 38 = true := by kernel_rfl
theorem cal40 : callable Tryz.prog 40 = true := by kernel_rfl
theorem cal41 : callable Tryz.prog 41 = true := by kernel_rfl
theorem cal42 : callable Tryz.prog 42 = true := by kernel_rfl
theorem cal43 : callable Tryz.prog 43 = true := by kernel_rfl
theorem cal44 : callable Tryz.prog 44 = true := by kernel_rfl
theorem cal45 : callable Tryz.prog 45 = true := by kernel_rfl
theorem cal46 : callable Tryz.prog 46 = true := by kernel_rfl
theorem cal47 : callable Tryz.prog 47 = true := by kernel_rfl
theorem cal48 : callable Tryz.prog 48 = true := by kernel_rfl
theorem cal49 : callable Tryz.prog 49 = true := by kernel_rfl
theorem cal50 : callable Tryz.prog 50 = true := by kernel_rfl
theorem cal51 : callable Tryz.prog 51 = true := by kernel_rfl
theorem cal52 : callable Tryz.prog 52 = true := by kernel_rfl
theorem cal53 : callable Tryz.prog 53 = true := by kernel_rfl
theorem cal54 : callable Tryz.prog 54 = true := by kernel_rfl
theorem cal55 : callable Tryz.prog 55 = true := by kernel_rfl
theorem cal56 : callable Tryz.prog 56 = true := by kernel_rfl
theorem cal59 : callable Tryz.prog 59 = true := by kernel_rfl
theorem cal60 : callable Tryz.prog 60 = true := by kernel_rfl
theorem cal61 : callable Tryz.prog 61 = true := by kernel_rfl
theorem cal64 : callable Tryz.prog 64 = true := by kernel_rfl
theorem cal65 : callable Tryz.prog 65 = true := by kernel_rfl
theorem cal66 : callable Tryz.prog 66 = true := by kernel_rfl
theorem cal67 : callable Tryz.prog 67 = true := by kernel_rfl
theorem cal68 : callable Tryz.prog 68 = true := by kernel_rfl
theorem cal69 : callable Tryz.prog 69 = true := by kernel_rfl
theorem cal7 : callable Tryz.prog 7 = true := by kernel_rfl
theorem cal70 : callable Tryz.prog 70 = true := by kernel_rfl
theorem cal71 : callable Tryz.prog 71 = true := by kernel_rfl
theorem cal72 : callable Tryz.prog 72 = true := by kernel_rfl
theorem cal73 : callable Tryz.prog 73 = true := by kernel_rfl
theorem cal74 : callable Tryz.prog 74 = true := by kernel_rfl
theorem cal75 : callable Tryz.prog 75 = true := by kernel_rfl
theorem cal76 : callable Tryz.prog 76 = true := by kernel_rfl
theorem cal77 : callable Tryz.prog 77 = true := by kernel_rfl
theorem cal78 : callable Tryz.prog 78 = true := by kernel_rfl
theorem cal79 : callable Tryz.prog 79 = true := by kernel_rfl
theorem cal8 : callable Tryz.prog 8 = true := by kernel_rfl
theorem cal81 : callable Tryz.prog 81 = true := by kernel_rfl
theorem cal9 : callable Tryz.prog 9 = true := by kernel_rfl
theorem cal93 : callable Tryz.prog 93 = true := by kernel_rfl
theorem cal94 : callable Tryz.prog 94 = true := by kernel_rfl
theorem cal95 : callable Tryz.prog 95 = true := by kernel_rfl
theorem cal96 : callable Tryz.prog 96 = true := by kernel_rfl
theorem cal97 : callable Tryz.prog 97 = true := by kernel_rfl
theorem cal98 : callable Tryz.prog 98 = true := by kernel_rfl
theorem cal99 : callable Tryz.prog 99 = true := by kernel_rfl
theorem eg32 : Tryz.prog.eqGuardType Tryz.prog.depth 32 = false := by kernel_rfl
theorem eg88 : Tryz.prog.eqGuardType Tryz.prog.depth 88 = false := by kernel_rfl
theorem inf3 : ∃ i, Tryz.prog.info? 3 = some i ∧ i.size = 1 ∧ i.zero = some (.int .i64 0) ∧ i.bytes = 8 := inf_of (by kernel_rfl) (by kernel_rfl) (by kernel_rfl)
theorem inf32 : ∃ i, Tryz.prog.info? 32 = some i ∧ i.size = 11 ∧ i.zero = some (.agg #[.int .i64 0, .string ⟨#[]⟩, .string ⟨#[]⟩, .string ⟨#[]⟩, .string ⟨#[]⟩, .bool false, .bool false, .int .i64 0, .int .i64 0, .int .i64 0, .int .i64 0]) ∧ i.bytes = 112 := inf_of (by kernel_rfl) (by kernel_rfl) (by kernel_rfl)
theorem inf5 : ∃ i, Tryz.prog.info? 5 = some i ∧ i.size = 1 ∧ i.zero = some (.int .u8 0) ∧ i.bytes = 1 := inf_of (by kernel_rfl) (by kernel_rfl) (by kernel_rfl)
theorem inf74 : ∃ i, Tryz.prog.info? 74 = some i ∧ i.size = 2 ∧ i.zero = some (.agg #[.int .i64 0, .string ⟨#[]⟩]) ∧ i.bytes = 24 := inf_of (by kernel_rfl) (by kernel_rfl) (by kernel_rfl)
theorem inf9 : ∃ i, Tryz.prog.info? 9 = some i ∧ i.size = 1 ∧ i.zero = some (.string ⟨#[]⟩) ∧ i.bytes = 16 := inf_of (by kernel_rfl) (by kernel_rfl) (by kernel_rfl)
theorem fa27_0 : FA Tryz.prog 27 0 0 := ⟨_, _, _, _, Tryz.underlying27, rfl, Tryz.underlying22, c22, by decide, rfl⟩
theorem fa27_1 : FA Tryz.prog 27 1 1 := ⟨_, _, _, _, Tryz.underlying27, rfl, Tryz.underlying25, c25, by decide, rfl⟩
theorem fa32_0 : FA Tryz.prog 32 0 0 := ⟨_, _, _, _, Tryz.underlying32, rfl, Tryz.underlying3, c3, by decide, rfl⟩
theorem fa32_1 : FA Tryz.prog 32 1 1 := ⟨_, _, _, _, Tryz.underlying32, rfl, Tryz.underlying9, c9, by decide, rfl⟩
theorem fa32_10 : FA Tryz.prog 32 10 10 := ⟨_, _, _, _, Tryz.underlying32, rfl, Tryz.underlying3, c3, by decide, rfl⟩
theorem fa32_2 : FA Tryz.prog 32 2 2 := ⟨_, _, _, _, Tryz.underlying32, rfl, Tryz.underlying9, c9, by decide, rfl⟩
theorem fa32_3 : FA Tryz.prog 32 3 3 := ⟨_, _, _, _, Tryz.underlying32, rfl, Tryz.underlying9, c9, by decide, rfl⟩
theorem fa32_4 : FA Tryz.prog 32 4 4 := ⟨_, _, _, _, Tryz.underlying32, rfl, Tryz.underlying9, c9, by decide, rfl⟩
theorem fa32_5 : FA Tryz.prog 32 5 5 := ⟨_, _, _, _, Tryz.underlying32, rfl, Tryz.underlying4, c4, by decide, rfl⟩
theorem fa32_6 : FA Tryz.prog 32 6 6 := ⟨_, _, _, _, Tryz.underlying32, rfl, Tryz.underlying4, c4, by decide, rfl⟩
theorem fa32_7 : FA Tryz.prog 32 7 7 := ⟨_, _, _, _, Tryz.underlying32, rfl, Tryz.underlying3, c3, by decide, rfl⟩
theorem fa32_8 : FA Tryz.prog 32 8 8 := ⟨_, _, _, _, Tryz.underlying32, rfl, Tryz.underlying3, c3, by decide, rfl⟩
theorem fa32_9 : FA Tryz.prog 32 9 9 := ⟨_, _, _, _, Tryz.underlying32, rfl, Tryz.underlying3, c3, by decide, rfl⟩
theorem fa61_0 : FA Tryz.prog 61 0 0 := ⟨_, _, _, _, Tryz.underlying61, rfl, Tryz.underlying22, c22, by decide, rfl⟩
theorem fa61_1 : FA Tryz.prog 61 1 1 := ⟨_, _, _, _, Tryz.underlying61, rfl, Tryz.underlying58, c58, by decide, rfl⟩
theorem fa74_0 : FA Tryz.prog 74 0 0 := ⟨_, _, _, _, Tryz.underlying74, rfl, Tryz.underlying3, c3, by decide, rfl⟩
theorem fa74_1 : FA Tryz.prog 74 1 1 := ⟨_, _, _, _, Tryz.underlying74, rfl, Tryz.underlying9, c9, by decide, rfl⟩
theorem fa81_0 : FA Tryz.prog 81 0 0 := ⟨_, _, _, _, Tryz.underlying81, rfl, Tryz.underlying79, c79, by decide, rfl⟩
theorem fa81_1 : FA Tryz.prog 81 1 1 := ⟨_, _, _, _, Tryz.underlying81, rfl, Tryz.underlying78, c78, by decide, rfl⟩
theorem sc121 : SC Tryz.prog 121 := ⟨_, Tryz.underlying121, rfl⟩
theorem sc22 : SC Tryz.prog 22 := ⟨_, Tryz.underlying22, rfl⟩
theorem sc25 : SC Tryz.prog 25 := ⟨_, Tryz.underlying25, rfl⟩
theorem sc3 : SC Tryz.prog 3 := ⟨_, Tryz.underlying3, rfl⟩
theorem sc4 : SC Tryz.prog 4 := ⟨_, Tryz.underlying4, rfl⟩
theorem sc58 : SC Tryz.prog 58 := ⟨_, Tryz.underlying58, rfl⟩
theorem sc62 : SC Tryz.prog 62 := ⟨_, Tryz.underlying62, rfl⟩
theorem sc78 : SC Tryz.prog 78 := ⟨_, Tryz.underlying78, rfl⟩
theorem sc79 : SC Tryz.prog 79 := ⟨_, Tryz.underlying79, rfl⟩
theorem sc9 : SC Tryz.prog 9 := ⟨_, Tryz.underlying9, rfl⟩
theorem sg27 : SG Tryz.prog 27 2 := ⟨_, Tryz.underlying27, rfl, c27⟩
theorem sg32 : SG Tryz.prog 32 11 := ⟨_, Tryz.underlying32, rfl, c32⟩
theorem sg74 : SG Tryz.prog 74 2 := ⟨_, Tryz.underlying74, rfl, c74⟩
theorem sz121 : SZ Tryz.prog 121 1 := ⟨_, Tryz.underlying121, c121⟩
theorem sz22 : SZ Tryz.prog 22 1 := ⟨_, Tryz.underlying22, c22⟩
theorem sz25 : SZ Tryz.prog 25 1 := ⟨_, Tryz.underlying25, c25⟩
theorem sz27 : SZ Tryz.prog 27 2 := ⟨_, Tryz.underlying27, c27⟩
theorem sz3 : SZ Tryz.prog 3 1 := ⟨_, Tryz.underlying3, c3⟩
theorem sz32 : SZ Tryz.prog 32 11 := ⟨_, Tryz.underlying32, c32⟩
theorem sz4 : SZ Tryz.prog 4 1 := ⟨_, Tryz.underlying4, c4⟩
theorem sz74 : SZ Tryz.prog 74 2 := ⟨_, Tryz.underlying74, c74⟩
theorem sz79 : SZ Tryz.prog 79 1 := ⟨_, Tryz.underlying79, c79⟩
theorem sz88 : SZ Tryz.prog 88 5 := ⟨_, Tryz.underlying88, c88⟩
theorem sz9 : SZ Tryz.prog 9 1 := ⟨_, Tryz.underlying9, c9⟩
theorem pl27 : plcT Tryz.prog 27 = true := by kernel_rfl
theorem pl32 : plcT Tryz.prog 32 = true := by kernel_rfl
theorem pl61 : plcT Tryz.prog 61 = true := by kernel_rfl
theorem pl74 : plcT Tryz.prog 74 = true := by kernel_rfl
theorem pl81 : plcT Tryz.prog 81 = true := by kernel_rfl
theorem pl88 : plcT Tryz.prog 88 = true := by kernel_rfl
theorem st32 : Tryz.prog.stoodInHeld 32 = false := by kernel_rfl
theorem st88 : Tryz.prog.stoodInHeld 88 = false := by kernel_rfl
theorem xf107 : (Extern.findNext Tryz.f107).isNone = true := by kernel_rfl
theorem xf134 : (Extern.findNext Tryz.f134).isNone = true := by kernel_rfl
theorem xf57 : (Extern.findNext Tryz.f57).isNone = true := by kernel_rfl
theorem xg107 : Extern.find Tryz.f107 = some Extern.BytealgCompare.compare := by rfl
theorem xg134 : Extern.find Tryz.f134 = some Extern.BytealgIndexByte.indexByte := by rfl
theorem xg57 : Extern.find Tryz.f57 = some (Extern.SlicesOverlaps.overlaps Tryz.f57.params Tryz.f57.resultTypes) := by rfl
theorem z121 : zer Tryz.prog 121 = some .nilFunc := by kernel_rfl
theorem z141 : zer Tryz.prog 141 = some (.agg #[.nilFunc, .nilFunc, .nilFunc]) := by kernel_rfl
theorem z27 : zer Tryz.prog 27 = some (.agg #[.slice none 0 0, .slice none 0 0]) := by kernel_rfl
theorem z3 : zer Tryz.prog 3 = some (.int .i64 0) := by kernel_rfl
theorem z32 : zer Tryz.prog 32 = some (.agg #[.int .i64 0, .string ⟨#[]⟩, .string ⟨#[]⟩, .string ⟨#[]⟩, .string ⟨#[]⟩, .bool false, .bool false, .int .i64 0, .int .i64 0, .int .i64 0, .int .i64 0]) := by kernel_rfl
theorem z5 : zer Tryz.prog 5 = some (.int .u8 0) := by kernel_rfl
theorem z61 : zer Tryz.prog 61 = some (.agg #[.slice none 0 0, .pointer none]) := by kernel_rfl
theorem z62 : zer Tryz.prog 62 = some .nilFunc := by kernel_rfl
theorem z74 : zer Tryz.prog 74 = some (.agg #[.int .i64 0, .string ⟨#[]⟩]) := by kernel_rfl
theorem z81 : zer Tryz.prog 81 = some (.agg #[.slice none 0 0, .map none]) := by kernel_rfl
theorem z88 : zer Tryz.prog 88 = some (.agg #[.int .i64 0, .string ⟨#[]⟩, .string ⟨#[]⟩, .string ⟨#[]⟩, .bool false]) := by kernel_rfl
theorem z9 : zer Tryz.prog 9 = some (.string ⟨#[]⟩) := by kernel_rfl
theorem z93 : zer Tryz.prog 93 = some (.agg #[.int .i64 0, .int .i64 0]) := by kernel_rfl
theorem zc121 : ZC Tryz.prog 121 [eq .nilFunc] := ⟨_, z121, rfl⟩
theorem zc27 : ZC Tryz.prog 27 [eq (.slice none 0 0), eq (.slice none 0 0)] := ⟨_, z27, rfl⟩
theorem zc32 : ZC Tryz.prog 32 [eq (.int .i64 0), eq (.string (⟨#[]⟩ : ByteArray)), eq (.string (⟨#[]⟩ : ByteArray)), eq (.string (⟨#[]⟩ : ByteArray)), eq (.string (⟨#[]⟩ : ByteArray)), eq (.bool false), eq (.bool false), eq (.int .i64 0), eq (.int .i64 0), eq (.int .i64 0), eq (.int .i64 0)] := ⟨_, z32, rfl⟩
theorem zc74 : ZC Tryz.prog 74 [eq (.int .i64 0), eq (.string (⟨#[]⟩ : ByteArray))] := ⟨_, z74, rfl⟩
theorem zc88 : ZC Tryz.prog 88 [eq (.int .i64 0), eq (.string (⟨#[]⟩ : ByteArray)), eq (.string (⟨#[]⟩ : ByteArray)), eq (.string (⟨#[]⟩ : ByteArray)), eq (.bool false)] := ⟨_, z88, rfl⟩
structure HEnt where
  fAt : Int
  fKey : ByteArray
  deriving DecidableEq, Inhabited
abbrev HEnt.enc (x : HEnt) : Cs := [eq (.int .i64 x.fAt), eq (.string x.fKey)]
abbrev HEnt.K : Kd HEnt := ⟨2, default, HEnt.enc, fun _ => rfl, fun _ => (ones_cons (one_eq rfl) (ones_cons (one_eq rfl) ones_nil))⟩
structure HHeap where
  fl : List HEnt
  fat : List (ByteArray × Int)
  deriving DecidableEq, Inhabited
structure Edu where
  fKind : Int
  fRoom : ByteArray
  fUser : ByteArray
  fEvent : ByteArray
  fThread : ByteArray
  fPrivate : Bool
  fOn : Bool
  fSpan : Int
  fState : Int
  fTick : Int
  fStamp : Int
  deriving DecidableEq, Inhabited
abbrev Edu.enc (x : Edu) : Cs := [eq (.int .i64 x.fKind), eq (.string x.fRoom), eq (.string x.fUser), eq (.string x.fEvent), eq (.string x.fThread), eq (.bool x.fPrivate), eq (.bool x.fOn), eq (.int .i64 x.fSpan), eq (.int .i64 x.fState), eq (.int .i64 x.fTick), eq (.int .i64 x.fStamp)]
abbrev Edu.K : Kd Edu := ⟨11, default, Edu.enc, fun _ => rfl, fun _ => (ones_cons (one_eq rfl) (ones_cons (one_eq rfl) (ones_cons (one_eq rfl) (ones_cons (one_eq rfl) (ones_cons (one_eq rfl) (ones_cons (one_eq rfl) (ones_cons (one_eq rfl) (ones_cons (one_eq rfl) (ones_cons (one_eq rfl) (ones_cons (one_eq rfl) (ones_cons (one_eq rfl) ones_nil)))))))))))⟩
structure PTab where
  fl : List Edu
  fturns : HHeap
  deriving DecidableEq, Inhabited
structure TRef where
  fL : List Edu
  fTold : List Int
  deriving DecidableEq, Inhabited
abbrev TRef.enc (x : TRef) : Cs := [sl Edu.K x.fL, sl (intK .i64) x.fTold]
abbrev TRef.K : Kd TRef := ⟨2, default, TRef.enc, fun _ => rfl, fun _ => (ones_cons one_sl (ones_cons one_sl ones_nil))⟩
structure EKey where
  fKind : Int
  fRoom : ByteArray
  fUser : ByteArray
  fThread : ByteArray
  fPrivate : Bool
  deriving DecidableEq, Inhabited
abbrev EKey.enc (x : EKey) : Cs := [eq (.int .i64 x.fKind), eq (.string x.fRoom), eq (.string x.fUser), eq (.string x.fThread), eq (.bool x.fPrivate)]
abbrev EKey.K : Kd EKey := ⟨5, default, EKey.enc, fun _ => rfl, fun _ => (ones_cons (one_eq rfl) (ones_cons (one_eq rfl) (ones_cons (one_eq rfl) (ones_cons (one_eq rfl) (ones_cons (one_eq rfl) ones_nil)))))⟩
theorem eqt32 (x y : Edu) {d : Nat} {w : World} : (Op.equalIn (d + 2) 32 (.agg [.int .i64 x.fKind, .string x.fRoom, .string x.fUser, .string x.fEvent, .string x.fThread, .bool x.fPrivate, .bool x.fOn, .int .i64 x.fSpan, .int .i64 x.fState, .int .i64 x.fTick, .int .i64 x.fStamp].toArray) (.agg [.int .i64 y.fKind, .string y.fRoom, .string y.fUser, .string y.fEvent, .string y.fThread, .bool y.fPrivate, .bool y.fOn, .int .i64 y.fSpan, .int .i64 y.fState, .int .i64 y.fTick, .int .i64 y.fStamp].toArray)).run Tryz.prog w = .ok (decide (x = y)) w := by
  have e : decide (x = y) = ((decide (x.fKind = y.fKind) && (decide (x.fRoom = y.fRoom) && (decide (x.fUser = y.fUser) && (decide (x.fEvent = y.fEvent) && (decide (x.fThread = y.fThread) && (decide (x.fPrivate = y.fPrivate) && (decide (x.fOn = y.fOn) && (decide (x.fSpan = y.fSpan) && (decide (x.fState = y.fState) && (decide (x.fTick = y.fTick) && (decide (x.fStamp = y.fStamp) && true)))))))))))) := by cases x; cases y; rw [Bool.eq_iff_iff]; simp
  rw [e]
  exact eq_struct Tryz.underlying32 st32 (eqF_cons (by decide) (run_part1 Tryz.underlying3 rfl rfl) (run_part1 Tryz.underlying3 rfl rfl) (eq_int Tryz.underlying3) (eqF_cons (by decide) (run_part1 Tryz.underlying9 rfl rfl) (run_part1 Tryz.underlying9 rfl rfl) (eq_str Tryz.underlying9) (eqF_cons (by decide) (run_part1 Tryz.underlying9 rfl rfl) (run_part1 Tryz.underlying9 rfl rfl) (eq_str Tryz.underlying9) (eqF_cons (by decide) (run_part1 Tryz.underlying9 rfl rfl) (run_part1 Tryz.underlying9 rfl rfl) (eq_str Tryz.underlying9) (eqF_cons (by decide) (run_part1 Tryz.underlying9 rfl rfl) (run_part1 Tryz.underlying9 rfl rfl) (eq_str Tryz.underlying9) (eqF_cons (by decide) (run_part1 Tryz.underlying4 rfl rfl) (run_part1 Tryz.underlying4 rfl rfl) (eq_bool Tryz.underlying4) (eqF_cons (by decide) (run_part1 Tryz.underlying4 rfl rfl) (run_part1 Tryz.underlying4 rfl rfl) (eq_bool Tryz.underlying4) (eqF_cons (by decide) (run_part1 Tryz.underlying3 rfl rfl) (run_part1 Tryz.underlying3 rfl rfl) (eq_int Tryz.underlying3) (eqF_cons (by decide) (run_part1 Tryz.underlying3 rfl rfl) (run_part1 Tryz.underlying3 rfl rfl) (eq_int Tryz.underlying3) (eqF_cons (by decide) (run_part1 Tryz.underlying3 rfl rfl) (run_part1 Tryz.underlying3 rfl rfl) (eq_int Tryz.underlying3) (eqF_cons (by decide) (run_part1 Tryz.underlying3 rfl rfl) (run_part1 Tryz.underlying3 rfl rfl) (eq_int Tryz.underlying3) eqF_nil)))))))))))
theorem eqt88 (x y : EKey) {d : Nat} {w : World} : (Op.equalIn (d + 2) 88 (.agg [.int .i64 x.fKind, .string x.fRoom, .string x.fUser, .string x.fThread, .bool x.fPrivate].toArray) (.agg [.int .i64 y.fKind, .string y.fRoom, .string y.fUser, .string y.fThread, .bool y.fPrivate].toArray)).run Tryz.prog w = .ok (decide (x = y)) w := by
  have e : decide (x = y) = ((decide (x.fKind = y.fKind) && (decide (x.fRoom = y.fRoom) && (decide (x.fUser = y.fUser) && (decide (x.fThread = y.fThread) && (decide (x.fPrivate = y.fPrivate) && true)))))) := by cases x; cases y; rw [Bool.eq_iff_iff]; simp
  rw [e]
  exact eq_struct Tryz.underlying88 st88 (eqF_cons (by decide) (run_part1 Tryz.underlying3 rfl rfl) (run_part1 Tryz.underlying3 rfl rfl) (eq_int Tryz.underlying3) (eqF_cons (by decide) (run_part1 Tryz.underlying9 rfl rfl) (run_part1 Tryz.underlying9 rfl rfl) (eq_str Tryz.underlying9) (eqF_cons (by decide) (run_part1 Tryz.underlying9 rfl rfl) (run_part1 Tryz.underlying9 rfl rfl) (eq_str Tryz.underlying9) (eqF_cons (by decide) (run_part1 Tryz.underlying9 rfl rfl) (run_part1 Tryz.underlying9 rfl rfl) (eq_str Tryz.underlying9) (eqF_cons (by decide) (run_part1 Tryz.underlying4 rfl rfl) (run_part1 Tryz.underlying4 rfl rfl) (eq_bool Tryz.underlying4) eqF_nil)))))
def HHeap.O (p : OV) (m : HHeap) : As := exA (γ := Nat × OV × OV) (fun g => p.1 = .pointer (some ⟨g.1, 0, none⟩)) (fun g => [blk g.1 81 [eq g.2.1.1, eq g.2.2.1], own HEnt.K g.2.1.1 m.fl, mp Value.string (fun x : Int => eq (.int .i64 x)) g.2.2.1 m.fat])
theorem HHeap.nn {p : OV} {m : HHeap} : NN (HHeap.O p m) p.1 := by unfold HHeap.O; exact nn_ex (γ := Nat × OV × OV) (b := fun g => g.1)
theorem HHeap.opn {l : List As} {p : OV} {m : HHeap} (j : Nat) (hj : l[j]? = some (HHeap.O p m)) : ∀ R w, St R l w → ∃ g : Nat × OV × OV, p.1 = .pointer (some ⟨g.1, 0, none⟩) ∧ St R ([blk g.1 81 [eq g.2.1.1, eq g.2.2.1], own HEnt.K g.2.1.1 m.fl, mp Value.string (fun x : Int => eq (.int .i64 x)) g.2.2.1 m.fat] ++ l.eraseIdx j) w := st_open j hj
theorem HHeap.shut {l r : List As} {p : OV} {m : HHeap} (g : Nat × OV × OV) (hg : p.1 = .pointer (some ⟨g.1, 0, none⟩)) (hp : l.Perm ([blk g.1 81 [eq g.2.1.1, eq g.2.2.1], own HEnt.K g.2.1.1 m.fl, mp Value.string (fun x : Int => eq (.int .i64 x)) g.2.2.1 m.fat] ++ r)) : ∀ R w, St R l w → ∃ _ : Unit, True ∧ St R (HHeap.O p m :: r) w := st_shut _ _ g hg hp
def PTab.O (p : OV) (m : PTab) : As := exA (γ := Nat × OV × OV) (fun g => p.1 = .pointer (some ⟨g.1, 0, none⟩)) (fun g => [blk g.1 61 [eq g.2.1.1, eq g.2.2.1], own Edu.K g.2.1.1 m.fl, HHeap.O g.2.2 m.fturns])
theorem PTab.nn {p : OV} {m : PTab} : NN (PTab.O p m) p.1 := by unfold PTab.O; exact nn_ex (γ := Nat × OV × OV) (b := fun g => g.1)
theorem PTab.opn {l : List As} {p : OV} {m : PTab} (j : Nat) (hj : l[j]? = some (PTab.O p m)) : ∀ R w, St R l w → ∃ g : Nat × OV × OV, p.1 = .pointer (some ⟨g.1, 0, none⟩) ∧ St R ([blk g.1 61 [eq g.2.1.1, eq g.2.2.1], own Edu.K g.2.1.1 m.fl, HHeap.O g.2.2 m.fturns] ++ l.eraseIdx j) w := st_open j hj
theorem PTab.shut {l r : List As} {p : OV} {m : PTab} (g : Nat × OV × OV) (hg : p.1 = .pointer (some ⟨g.1, 0, none⟩)) (hp : l.Perm ([blk g.1 61 [eq g.2.1.1, eq g.2.2.1], own Edu.K g.2.1.1 m.fl, HHeap.O g.2.2 m.fturns] ++ r)) : ∀ R w, St R l w → ∃ _ : Unit, True ∧ St R (PTab.O p m :: r) w := st_shut _ _ g hg hp
def fqQ_uint8_bool (g : Int → Option Bool) : List VP → VP → Prop := fun vs ret => ∃ a0 r, g a0 = some r ∧ vs = [eq (.int .u8 a0)] ∧ ret = eq (.bool r)
def fq_uint8_bool (g : Int → Option Bool) : VP := fnq Tryz.prog (fqQ_uint8_bool g)
def fx_uint8_bool (X : As) (g : Int → Option Bool) : VP := fnx Tryz.prog X (fqQ_uint8_bool g)
def fK_uint8_bool : Kd (Int → Option Bool) := ⟨1, fun _ => none, fun g => [fq_uint8_bool g], fun _ => rfl, fun _ p h R v hv => by simp at h; subst h; exact one_fnq R v hv⟩
def fqQ_int_int_int_bool (g : Int → Int → Int → Option Bool) : List VP → VP → Prop := fun vs ret => ∃ a0 a1 a2 r, g a0 a1 a2 = some r ∧ vs = [eq (.int .i64 a0), eq (.int .i64 a1), eq (.int .i64 a2)] ∧ ret = eq (.bool r)
def fq_int_int_int_bool (g : Int → Int → Int → Option Bool) : VP := fnq Tryz.prog (fqQ_int_int_int_bool g)
def fx_int_int_int_bool (X : As) (g : Int → Int → Int → Option Bool) : VP := fnx Tryz.prog X (fqQ_int_int_int_bool g)
def fK_int_int_int_bool : Kd (Int → Int → Int → Option Bool) := ⟨1, fun _ _ _ => none, fun g => [fq_int_int_int_bool g], fun _ => rfl, fun _ p h R v hv => by simp at h; subst h; exact one_fnq R v hv⟩
def fqQ_api_Edu_bool (g : Edu → Option Bool) : List VP → VP → Prop := fun vs ret => ∃ a0 r, g a0 = some r ∧ vs = [agg (Edu.enc a0)] ∧ ret = eq (.bool r)
def fq_api_Edu_bool (g : Edu → Option Bool) : VP := fnq Tryz.prog (fqQ_api_Edu_bool g)
def fx_api_Edu_bool (X : As) (g : Edu → Option Bool) : VP := fnx Tryz.prog X (fqQ_api_Edu_bool g)
def fK_api_Edu_bool : Kd (Edu → Option Bool) := ⟨1, fun _ => none, fun g => [fq_api_Edu_bool g], fun _ => rfl, fun _ p h R v hv => by simp at h; subst h; exact one_fnq R v hv⟩
def fqQ_api_Edu_string_int (g : Edu → ByteArray → Option Int) : List VP → VP → Prop := fun vs ret => ∃ a0 a1 r, g a0 a1 = some r ∧ vs = [agg (Edu.enc a0), eq (.string a1)] ∧ ret = eq (.int .i64 r)
def fq_api_Edu_string_int (g : Edu → ByteArray → Option Int) : VP := fnq Tryz.prog (fqQ_api_Edu_string_int g)
def fx_api_Edu_string_int (X : As) (g : Edu → ByteArray → Option Int) : VP := fnx Tryz.prog X (fqQ_api_Edu_string_int g)
def fK_api_Edu_string_int : Kd (Edu → ByteArray → Option Int) := ⟨1, fun _ _ => none, fun g => [fq_api_Edu_string_int g], fun _ => rfl, fun _ p h R v hv => by simp at h; subst h; exact one_fnq R v hv⟩
/-! concourse/heap.New: function 27 -/
def heap_New.f : Option (HHeap) := some (⟨([] : List HEnt), ([] : List (ByteArray × Int))⟩ : HHeap)
/-! concourse/presence.New: function 7 -/
def presence_New.f : Option (PTab) := (heap_New.f).bind fun t3 => some (⟨([] : List Edu), t3⟩ : PTab)
/-! concourse/concourseref01.colon: function 93 -/
def concourseref01_colon.l0 (k : Nat) (a0 : ByteArray) : Nat → Int → Option ((Int × Bool) ⊕ (Int))
  | 0, _ => none
  | j12 + 1, x8 => cond (decide (x8 < (a0.size : Int))) (grd ((0 : Int) ≤ x8 ∧ x8 < (a0.size : Int)) (cond ((bt a0 x8) == 58) (some (.inr x8)) (concourseref01_colon.l0 k a0 j12 (w64 (x8 + 1))))) (some (.inl (x8, decide (x8 < (a0.size : Int)))))
def concourseref01_colon.f (k : Nat) (a0 : ByteArray) : Option (Int) := (concourseref01_colon.l0 k a0 k 0).bind (fall fun (p7 : Int × Bool) => some (-1))
/-! concourse/concourseref01.low: function 96 -/
def concourseref01_low.f (a0 : Int) : Option (Bool) := cond (decide (97 ≤ a0)) (cond (decide (a0 ≤ 122)) (some true) (cond (decide (48 ≤ a0)) (some (decide (a0 ≤ 57))) (some false))) (cond (decide (48 ≤ a0)) (some (decide (a0 ≤ 57))) (some false))
/-! concourse/concourseref01.Part: function 94 -/
def concourseref01_Part.l0 (k : Nat) (a0 : ByteArray) : Nat → Int → Option ((Int × Bool) ⊕ (Bool))
  | 0, _ => none
  | j35 + 1, x20 => cond (decide (x20 < (a0.size : Int))) (grd ((0 : Int) ≤ x20 ∧ x20 < (a0.size : Int)) ((concourseref01_low.f (bt a0 x20)).bind fun t23 => cond (!t23) (grd ((0 : Int) ≤ x20 ∧ x20 < (a0.size : Int)) (cond ((bt a0 x20) != 46) (grd ((0 : Int) ≤ x20 ∧ x20 < (a0.size : Int)) (cond ((bt a0 x20) != 45) (grd ((0 : Int) ≤ x20 ∧ x20 < (a0.size : Int)) (cond ((bt a0 x20) != 95) (some (.inr false)) (concourseref01_Part.l0 k a0 j35 (w64 (x20 + 1))))) (concourseref01_Part.l0 k a0 j35 (w64 (x20 + 1))))) (concourseref01_Part.l0 k a0 j35 (w64 (x20 + 1))))) (concourseref01_Part.l0 k a0 j35 (w64 (x20 + 1))))) (some (.inl (x20, decide (x20 < (a0.size : Int)))))
def concourseref01_Part.f (k : Nat) (a0 : ByteArray) : Option (Bool) := (concourseref01_Part.l0 k a0 k 0).bind (fall fun (p18 : Int × Bool) => cond (decide (0 < (a0.size : Int))) (some (decide ((a0.size : Int) < 17))) (some false))
/-! concourse/concourseref01.Server: function 95 -/
def concourseref01_Server.l0 (k : Nat) (a0 : ByteArray) : Nat → Int → Option ((Int × Bool) ⊕ (Bool))
  | 0, _ => none
  | j61 + 1, x39 => cond (decide (x39 < (a0.size : Int))) (grd ((0 : Int) ≤ x39 ∧ x39 < (a0.size : Int)) ((concourseref01_low.f (bt a0 x39)).bind fun t42 => cond (decide (0 < x39)) (cond (decide (x39 < (w64 ((a0.size : Int) - 1)))) (grd ((0 : Int) ≤ x39 ∧ x39 < (a0.size : Int)) (cond ((bt a0 x39) == 46) (cond (!t42) (concourseref01_Server.l0 k a0 j61 (w64 (x39 + 1))) (concourseref01_Server.l0 k a0 j61 (w64 (x39 + 1)))) (grd ((0 : Int) ≤ x39 ∧ x39 < (a0.size : Int)) (cond (!t42) (cond (!((bt a0 x39) == 45)) (some (.inr false)) (concourseref01_Server.l0 k a0 j61 (w64 (x39 + 1)))) (concourseref01_Server.l0 k a0 j61 (w64 (x39 + 1))))))) (cond (!t42) (some (.inr false)) (concourseref01_Server.l0 k a0 j61 (w64 (x39 + 1))))) (cond (!t42) (some (.inr false)) (concourseref01_Server.l0 k a0 j61 (w64 (x39 + 1)))))) (some (.inl (x39, decide (x39 < (a0.size : Int)))))
def concourseref01_Server.f (k : Nat) (a0 : ByteArray) : Option (Bool) := (concourseref01_Server.l0 k a0 k 0).bind (fall fun (p37 : Int × Bool) => cond (decide (0 < (a0.size : Int))) (some (decide ((a0.size : Int) < 17))) (some false))
/-! concourse/concourseref01.Named: function 64 -/
def concourseref01_Named.f (k : Nat) (a0 : ByteArray) (a1 : Int) : Option (Bool) := (concourseref01_colon.f k a0).bind fun t63 => cond (decide (t63 < 1)) (some false) (grd ((0 : Int) ≤ 0 ∧ 0 < (a0.size : Int)) (cond ((bt a0 0) != a1) (some false) (grd ((0 : Int) ≤ 1 ∧ (0 : Int) ≤ t63 ∧ (1 : Int).toNat ≤ t63.toNat ∧ t63.toNat ≤ a0.size) ((concourseref01_Part.f k (a0.extract (1 : Int).toNat t63.toNat)).bind fun t70 => grd ((0 : Int) ≤ (w64 (t63 + 1)) ∧ (w64 (t63 + 1)).toNat ≤ a0.size ∧ a0.size ≤ a0.size) ((concourseref01_Server.f k (a0.extract (w64 (t63 + 1)).toNat a0.size)).bind fun t73 => cond t70 (some t73) (some false))))))
/-! concourse/concourseref01.Event: function 65 -/
def concourseref01_Event.l0 (k : Nat) (a0 : ByteArray) : Nat → Int → Option ((Int × Bool) ⊕ (Bool))
  | 0, _ => none
  | j107 + 1, x83 => cond (decide (x83 < (a0.size : Int))) (grd ((0 : Int) ≤ x83 ∧ x83 < (a0.size : Int)) ((concourseref01_low.f (bt a0 x83)).bind fun t86 => grd ((0 : Int) ≤ x83 ∧ x83 < (a0.size : Int)) (cond (decide (65 ≤ (bt a0 x83))) (grd ((0 : Int) ≤ x83 ∧ x83 < (a0.size : Int)) (cond (!t86) (cond (!(decide ((bt a0 x83) ≤ 90))) (grd ((0 : Int) ≤ x83 ∧ x83 < (a0.size : Int)) (cond ((bt a0 x83) != 45) (grd ((0 : Int) ≤ x83 ∧ x83 < (a0.size : Int)) (cond ((bt a0 x83) != 95) (some (.inr false)) (concourseref01_Event.l0 k a0 j107 (w64 (x83 + 1))))) (concourseref01_Event.l0 k a0 j107 (w64 (x83 + 1))))) (concourseref01_Event.l0 k a0 j107 (w64 (x83 + 1)))) (concourseref01_Event.l0 k a0 j107 (w64 (x83 + 1))))) (cond (!t86) (grd ((0 : Int) ≤ x83 ∧ x83 < (a0.size : Int)) (cond ((bt a0 x83) != 45) (grd ((0 : Int) ≤ x83 ∧ x83 < (a0.size : Int)) (cond ((bt a0 x83) != 95) (some (.inr false)) (concourseref01_Event.l0 k a0 j107 (w64 (x83 + 1))))) (concourseref01_Event.l0 k a0 j107 (w64 (x83 + 1))))) (concourseref01_Event.l0 k a0 j107 (w64 (x83 + 1))))))) (some (.inl (x83, decide (x83 < (a0.size : Int)))))
def concourseref01_Event.f (k : Nat) (a0 : ByteArray) : Option (Bool) := cond (decide ((a0.size : Int) < 2)) (some false) (cond (decide (17 < (a0.size : Int))) (some false) (grd ((0 : Int) ≤ 0 ∧ 0 < (a0.size : Int)) (cond ((bt a0 0) != 36) (some false) ((concourseref01_Event.l0 k a0 k 1).bind (fall fun (p82 : Int × Bool) => some true)))))
/-! concourse/concourseref01.Thread: function 66 -/
def concourseref01_Thread.f (k : Nat) (a0 : ByteArray) : Option (Bool) := (concourseref01_Event.f k a0).bind fun t109 => cond (decide (a0 = (⟨#[]⟩ : ByteArray))) (some true) (cond (decide (a0 = (⟨#[109, 97, 105, 110]⟩ : ByteArray))) (some true) (some t109))
/-! concourse/concourseref03.Local: function 46 -/
def concourseref03_Local.f (k : Nat) (a0 : Edu) : Option (Bool) := (concourseref01_Named.f k a0.fUser 64).bind fun t114 => (concourseref01_Named.f k a0.fRoom 33).bind fun t116 => (concourseref01_Event.f k a0.fEvent).bind fun t118 => (concourseref01_Thread.f k a0.fThread).bind fun t120 => cond (!t114) (some false) (cond (decide (a0.fTick < 0)) (some false) (cond (decide (1099511627776 < a0.fTick)) (some false) (cond (decide (a0.fStamp < 0)) (some false) (cond (decide (1099511627776 < a0.fStamp)) (some false) (cond (a0.fKind == 1) (cond t116 (cond t118 (cond t120 (cond (!a0.fOn) (cond (a0.fSpan == 0) (some (a0.fState == 0)) (some false)) (some false)) (some false)) (some false)) (some false)) (cond (a0.fKind == 2) (cond a0.fOn (cond (decide (1 ≤ a0.fSpan)) (cond (decide (a0.fSpan ≤ 60)) (cond t116 (cond (decide (a0.fEvent = (⟨#[]⟩ : ByteArray))) (cond (decide (a0.fThread = (⟨#[]⟩ : ByteArray))) (cond (a0.fState == 0) (some (!a0.fPrivate)) (some false)) (some false)) (some false)) (some false)) (cond (!a0.fOn) (cond t116 (cond (a0.fSpan == 0) (cond (decide (a0.fEvent = (⟨#[]⟩ : ByteArray))) (cond (decide (a0.fThread = (⟨#[]⟩ : ByteArray))) (cond (a0.fState == 0) (some (!a0.fPrivate)) (some false)) (some false)) (some false)) (some false)) (some false)) (cond t116 (some false) (some false)))) (cond (!a0.fOn) (cond t116 (cond (a0.fSpan == 0) (cond (decide (a0.fEvent = (⟨#[]⟩ : ByteArray))) (cond (decide (a0.fThread = (⟨#[]⟩ : ByteArray))) (cond (a0.fState == 0) (some (!a0.fPrivate)) (some false)) (some false)) (some false)) (some false)) (some false)) (cond t116 (some false) (some false)))) (cond (!a0.fOn) (cond t116 (cond (a0.fSpan == 0) (cond (decide (a0.fEvent = (⟨#[]⟩ : ByteArray))) (cond (decide (a0.fThread = (⟨#[]⟩ : ByteArray))) (cond (a0.fState == 0) (some (!a0.fPrivate)) (some false)) (some false)) (some false)) (some false)) (some false)) (cond t116 (some false) (some false)))) (cond (a0.fKind == 3) (cond (decide (a0.fRoom = (⟨#[]⟩ : ByteArray))) (cond (decide (a0.fEvent = (⟨#[]⟩ : ByteArray))) (cond (decide (a0.fThread = (⟨#[]⟩ : ByteArray))) (cond (!a0.fOn) (cond (a0.fSpan == 0) (cond (!a0.fPrivate) (cond (decide (0 ≤ a0.fState)) (some (decide (a0.fState ≤ 2))) (some false)) (some false)) (some false)) (some false)) (some false)) (some false)) (some false)) (some false))))))))
/-! concourse/concourseref03.May: function 28 -/
def concourseref03_May.f (k : Nat) (a0 : Edu) : Option (Bool) := (concourseref03_Local.f k a0).bind fun t175 => cond t175 (some (!a0.fPrivate)) (some false)
/-! concourse/concourseref02.Number: function 67 -/
def concourseref02_Number.f : Nat → Int → Option ((List Int))
  | 0, _ => none
  | k + 1, a0 => (cond (decide (a0 < 0)) (some 0) (some a0)).bind fun (p178 : Int) => cond (decide (p178 < 128)) (some ([IntKind.u8.wrap (p178)] : List Int)) ((concourseref02_Number.f k (w64 (p178.tdiv 128))).bind fun t182 => grd (([IntKind.u8.wrap (w64 (128 + (p178.tmod 128)))] : List Int).length + t182.length ≤ 9223372036854775807 ∧ (([IntKind.u8.wrap (w64 (128 + (p178.tmod 128)))] : List Int).length + t182.length) * 1 ≤ 140737488355328) (some (([IntKind.u8.wrap (w64 (128 + (p178.tmod 128)))] : List Int) ++ t182)))
/-! concourse/concourseref02.Text: function 68 -/
def concourseref02_Text.f (k : Nat) (a0 : ByteArray) : Option ((List Int)) := (concourseref02_Number.f k (a0.size : Int)).bind fun t188 => grd (t188.length + (strBs a0).length ≤ 9223372036854775807 ∧ (t188.length + (strBs a0).length) * 1 ≤ 140737488355328) (some (t188 ++ (strBs a0)))
/-! concourse/concourseref02.Flag: function 69 -/
def concourseref02_Flag.f (a0 : Bool) : Option ((List Int)) := cond a0 (some ([1] : List Int)) (some ([0] : List Int))
/-! concourse/concourseref03.Bytes: function 47 -/
def concourseref03_Bytes.f (k : Nat) (a0 : Edu) : Option ((List Int)) := (concourseref02_Number.f k a0.fKind).bind fun t195 => (concourseref02_Text.f k a0.fRoom).bind fun t198 => grd (t195.length + t198.length ≤ 9223372036854775807 ∧ (t195.length + t198.length) * 1 ≤ 140737488355328) ((concourseref02_Text.f k a0.fUser).bind fun t203 => grd ((t195 ++ t198).length + t203.length ≤ 9223372036854775807 ∧ ((t195 ++ t198).length + t203.length) * 1 ≤ 140737488355328) ((concourseref02_Text.f k a0.fEvent).bind fun t208 => grd (((t195 ++ t198) ++ t203).length + t208.length ≤ 9223372036854775807 ∧ (((t195 ++ t198) ++ t203).length + t208.length) * 1 ≤ 140737488355328) ((concourseref02_Text.f k a0.fThread).bind fun t213 => grd ((((t195 ++ t198) ++ t203) ++ t208).length + t213.length ≤ 9223372036854775807 ∧ ((((t195 ++ t198) ++ t203) ++ t208).length + t213.length) * 1 ≤ 140737488355328) ((concourseref02_Flag.f a0.fOn).bind fun t218 => grd (((((t195 ++ t198) ++ t203) ++ t208) ++ t213).length + t218.length ≤ 9223372036854775807 ∧ (((((t195 ++ t198) ++ t203) ++ t208) ++ t213).length + t218.length) * 1 ≤ 140737488355328) ((concourseref02_Number.f k a0.fSpan).bind fun t222 => grd ((((((t195 ++ t198) ++ t203) ++ t208) ++ t213) ++ t218).length + t222.length ≤ 9223372036854775807 ∧ ((((((t195 ++ t198) ++ t203) ++ t208) ++ t213) ++ t218).length + t222.length) * 1 ≤ 140737488355328) ((concourseref02_Number.f k a0.fState).bind fun t227 => grd (((((((t195 ++ t198) ++ t203) ++ t208) ++ t213) ++ t218) ++ t222).length + t227.length ≤ 9223372036854775807 ∧ (((((((t195 ++ t198) ++ t203) ++ t208) ++ t213) ++ t218) ++ t222).length + t227.length) * 1 ≤ 140737488355328) ((concourseref02_Number.f k a0.fTick).bind fun t232 => grd ((((((((t195 ++ t198) ++ t203) ++ t208) ++ t213) ++ t218) ++ t222) ++ t227).length + t232.length ≤ 9223372036854775807 ∧ ((((((((t195 ++ t198) ++ t203) ++ t208) ++ t213) ++ t218) ++ t222) ++ t227).length + t232.length) * 1 ≤ 140737488355328) ((concourseref02_Number.f k a0.fStamp).bind fun t237 => grd (((((((((t195 ++ t198) ++ t203) ++ t208) ++ t213) ++ t218) ++ t222) ++ t227) ++ t232).length + t237.length ≤ 9223372036854775807 ∧ (((((((((t195 ++ t198) ++ t203) ++ t208) ++ t213) ++ t218) ++ t222) ++ t227) ++ t232).length + t237.length) * 1 ≤ 140737488355328) (some (((((((((t195 ++ t198) ++ t203) ++ t208) ++ t213) ++ t218) ++ t222) ++ t227) ++ t232) ++ t237))))))))))
/-! concourse/concourseref03.Compare: function 29 -/
def concourseref03_Compare.f (k : Nat) (a0 : Edu) (a1 : Edu) : Option (Int) := cond (decide (a0.fStamp < a1.fStamp)) (some (-1)) (cond (decide (a1.fStamp < a0.fStamp)) (some 1) ((concourseref03_Bytes.f k a0).bind fun t246 => (concourseref03_Bytes.f k a1).bind fun t249 => cond (sLt (ofNums t246) (ofNums t249)) (some (-1)) (cond (sLt (ofNums t249) (ofNums t246)) (some 1) (some 0))))
/-! concourse/concourseref15.Put: function 8 -/
def concourseref15_Put.l0 (k : Nat) (a0 : TRef) (a1 : Edu) : Nat → Bool → Int → List Edu → List Int → Option ((Bool × Int × Bool × (List Edu) × (List Int)) ⊕ (TRef × Bool × Int))
  | 0, _, _, _, _ => none
  | j300 + 1, x271, x272, x273, x274 => cond (decide (x272 < (a0.fL.length : Int))) (grd ((0 : Int) ≤ x272 ∧ x272 < (a0.fL.length : Int)) (cond (decide (((Edu.K.at a0.fL x272).fUser) = a1.fUser)) ((concourseref03_Compare.f k a1 (Edu.K.at a0.fL x272)).bind fun t281 => cond (decide (t281 ≤ 0)) (some (.inr (a0, false, 0))) (concourseref15_Put.l0 k a0 a1 j300 x271 (w64 (x272 + 1)) x273 x274)) ((cond (!x271) (cond (sLt a1.fUser ((Edu.K.at a0.fL x272).fUser)) (grd (x273.length + ([a1] : List Edu).length ≤ 9223372036854775807 ∧ (x273.length + ([a1] : List Edu).length) * 112 ≤ 140737488355328) (grd (x274.length + ([(-1)] : List Int).length ≤ 9223372036854775807 ∧ (x274.length + ([(-1)] : List Int).length) * 8 ≤ 140737488355328) (some (true, sLt a1.fUser ((Edu.K.at a0.fL x272).fUser), x273 ++ ([a1] : List Edu), x274 ++ ([(-1)] : List Int))))) (some (x271, sLt a1.fUser ((Edu.K.at a0.fL x272).fUser), x273, x274))) (some (x271, false, x273, x274))).bind fun (p284 : Bool × Bool × (List Edu) × (List Int)) => grd (p284.2.2.1.length + ([Edu.K.at a0.fL x272] : List Edu).length ≤ 9223372036854775807 ∧ (p284.2.2.1.length + ([Edu.K.at a0.fL x272] : List Edu).length) * 112 ≤ 140737488355328) (grd ((0 : Int) ≤ x272 ∧ x272 < (a0.fTold.length : Int)) (grd (p284.2.2.2.length + ([(intK .i64).at a0.fTold x272] : List Int).length ≤ 9223372036854775807 ∧ (p284.2.2.2.length + ([(intK .i64).at a0.fTold x272] : List Int).length) * 8 ≤ 140737488355328) (concourseref15_Put.l0 k a0 a1 j300 p284.1 (w64 (x272 + 1)) (p284.2.2.1 ++ ([Edu.K.at a0.fL x272] : List Edu)) (p284.2.2.2 ++ ([(intK .i64).at a0.fTold x272] : List Int)))))))) (some (.inl (x271, x272, decide (x272 < (a0.fL.length : Int)), x273, x274)))
def concourseref15_Put.f (k : Nat) (a0 : TRef) (a1 : Edu) : Option (TRef × Bool × Int) := (concourseref03_May.f k a1).bind fun t257 => cond (a1.fKind != 3) (some (a0, false, 1)) (cond (!t257) (some (a0, false, 1)) ((concourseref15_Put.l0 k a0 a1 k false 0 ([] : List Edu) ([] : List Int)).bind (fall fun (p263 : Bool × Int × Bool × (List Edu) × (List Int)) => cond (!p263.1) (grd (p263.2.2.2.1.length + ([a1] : List Edu).length ≤ 9223372036854775807 ∧ (p263.2.2.2.1.length + ([a1] : List Edu).length) * 112 ≤ 140737488355328) (grd (p263.2.2.2.2.length + ([(-1)] : List Int).length ≤ 9223372036854775807 ∧ (p263.2.2.2.2.length + ([(-1)] : List Int).length) * 8 ≤ 140737488355328) (some ((⟨p263.2.2.2.1 ++ ([a1] : List Edu), p263.2.2.2.2 ++ ([(-1)] : List Int)⟩ : TRef), true, 0)))) (some ((⟨p263.2.2.2.1, p263.2.2.2.2⟩ : TRef), true, 0)))))
/-! concourse/concourseref01.Around: function 12 -/
def concourseref01_Around.f (a0 : Int) (a1 : Int) : Option (Int) := cond (decide (a0 < 0)) (grd (a1 ≠ 0) (some ((w64 (0 - (w64 (a0 + 1)))).tmod a1))) (grd (a1 ≠ 0) (some (a0.tmod a1)))
/-! concourse/concourseref01.ServerOf: function 40 -/
def concourseref01_ServerOf.f (a0 : Int) : Option (ByteArray) := (concourseref01_Around.f a0 3).bind fun t306 => grd ((0 : Int) ≤ t306 ∧ t306 < (([(⟨#[115, 49]⟩ : ByteArray), (⟨#[115, 50]⟩ : ByteArray), (⟨#[115, 51]⟩ : ByteArray)] : List ByteArray).length : Int)) (some (strK.at ([(⟨#[115, 49]⟩ : ByteArray), (⟨#[115, 50]⟩ : ByteArray), (⟨#[115, 51]⟩ : ByteArray)] : List ByteArray) t306))
/-! concourse/concourseref01.UserOf: function 18 -/
def concourseref01_UserOf.f (a0 : Int) : Option (ByteArray) := (concourseref01_Around.f a0 9).bind fun t309 => grd ((0 : Int) ≤ (w64 (t309.tdiv 3)) ∧ (w64 (t309.tdiv 3)) < (([(⟨#[64, 97, 58]⟩ : ByteArray), (⟨#[64, 98, 58]⟩ : ByteArray), (⟨#[64, 99, 58]⟩ : ByteArray)] : List ByteArray).length : Int)) ((concourseref01_ServerOf.f (t309.tmod 3)).bind fun t312 => grd ((strK.at ([(⟨#[64, 97, 58]⟩ : ByteArray), (⟨#[64, 98, 58]⟩ : ByteArray), (⟨#[64, 99, 58]⟩ : ByteArray)] : List ByteArray) (w64 (t309.tdiv 3))).size + t312.size ≤ 9223372036854775807) (some ((strK.at ([(⟨#[64, 97, 58]⟩ : ByteArray), (⟨#[64, 98, 58]⟩ : ByteArray), (⟨#[64, 99, 58]⟩ : ByteArray)] : List ByteArray) (w64 (t309.tdiv 3))) ++ t312)))
/-! concourse/concourseref01.RoomOf: function 48 -/
def concourseref01_RoomOf.f (a0 : Int) : Option (ByteArray) := (concourseref01_Around.f a0 2).bind fun t315 => grd ((0 : Int) ≤ t315 ∧ t315 < (([(⟨#[33, 114, 58, 115, 49]⟩ : ByteArray), (⟨#[33, 113, 58, 115, 50]⟩ : ByteArray)] : List ByteArray).length : Int)) (some (strK.at ([(⟨#[33, 114, 58, 115, 49]⟩ : ByteArray), (⟨#[33, 113, 58, 115, 50]⟩ : ByteArray)] : List ByteArray) t315))
/-! concourse/concourseref01.Decimal: function 70 -/
def concourseref01_Decimal.f : Nat → Int → Option (ByteArray)
  | 0, _ => none
  | k + 1, a0 => (cond (decide ((a0.tmod 10) < 0)) (some (w64 (0 - (a0.tmod 10)))) (some (a0.tmod 10))).bind fun (p318 : Int) => cond (decide ((-10) < a0)) (cond (decide (a0 < 10)) (cond (decide (a0 < 0)) (grd ((⟨#[45]⟩ : ByteArray).size + (ofNums ([IntKind.u8.wrap (w64 (48 + p318))] : List Int)).size ≤ 9223372036854775807) (some ((⟨#[45]⟩ : ByteArray) ++ (ofNums ([IntKind.u8.wrap (w64 (48 + p318))] : List Int))))) (some (ofNums ([IntKind.u8.wrap (w64 (48 + p318))] : List Int)))) ((concourseref01_Decimal.f k (w64 (a0.tdiv 10))).bind fun t323 => grd (t323.size + (ofNums ([IntKind.u8.wrap (w64 (48 + p318))] : List Int)).size ≤ 9223372036854775807) (some (t323 ++ (ofNums ([IntKind.u8.wrap (w64 (48 + p318))] : List Int)))))) ((concourseref01_Decimal.f k (w64 (a0.tdiv 10))).bind fun t327 => grd (t327.size + (ofNums ([IntKind.u8.wrap (w64 (48 + p318))] : List Int)).size ≤ 9223372036854775807) (some (t327 ++ (ofNums ([IntKind.u8.wrap (w64 (48 + p318))] : List Int)))))
/-! concourse/concourseref01.EventOf: function 49 -/
def concourseref01_EventOf.f (k : Nat) (a0 : Int) : Option (ByteArray) := (concourseref01_Around.f a0 9).bind fun t331 => (concourseref01_Decimal.f k t331).bind fun t333 => grd ((⟨#[36, 101]⟩ : ByteArray).size + t333.size ≤ 9223372036854775807) (some ((⟨#[36, 101]⟩ : ByteArray) ++ t333))
/-! concourse/concourseref01.ThreadOf: function 50 -/
def concourseref01_ThreadOf.f (k : Nat) (a0 : Int) : Option (ByteArray) := (concourseref01_Around.f a0 11).bind fun t336 => cond (t336 == 9) (some (⟨#[]⟩ : ByteArray)) (cond (t336 == 10) (some (⟨#[109, 97, 105, 110]⟩ : ByteArray)) ((concourseref01_EventOf.f k t336).bind fun t340 => some t340))
/-! concourse/concourseref03.Good: function 30 -/
def concourseref03_Good.f (k : Nat) (a0 : Edu) : Option (Edu) := (concourseref01_Around.f a0.fKind 3).bind fun t344 => (concourseref01_UserOf.f a0.fState).bind fun t346 => (concourseref01_Around.f a0.fTick 100).bind fun t348 => (concourseref01_Around.f a0.fStamp 9).bind fun t350 => cond ((w64 (1 + t344)) == 1) ((concourseref01_RoomOf.f a0.fSpan).bind fun t354 => (concourseref01_Around.f a0.fTick 9).bind fun t356 => (concourseref01_EventOf.f k (w64 ((a0.fEvent.size : Int) + t356))).bind fun t358 => (concourseref01_ThreadOf.f k (a0.fThread.size : Int)).bind fun t360 => some (⟨w64 (1 + t344), t354, t346, t358, t360, a0.fPrivate, false, 0, 0, t348, t350⟩ : Edu)) (cond ((w64 (1 + t344)) == 2) ((concourseref01_RoomOf.f a0.fSpan).bind fun t363 => cond a0.fOn ((concourseref01_Around.f a0.fSpan 60).bind fun t366 => some (⟨w64 (1 + t344), t363, t346, (⟨#[]⟩ : ByteArray), (⟨#[]⟩ : ByteArray), false, a0.fOn, w64 (1 + t366), 0, t348, t350⟩ : Edu)) (some (⟨w64 (1 + t344), t363, t346, (⟨#[]⟩ : ByteArray), (⟨#[]⟩ : ByteArray), false, a0.fOn, 0, 0, t348, t350⟩ : Edu))) ((concourseref01_Around.f a0.fSpan 3).bind fun t368 => some (⟨w64 (1 + t344), (⟨#[]⟩ : ByteArray), t346, (⟨#[]⟩ : ByteArray), (⟨#[]⟩ : ByteArray), false, false, 0, t368, t348, t350⟩ : Edu)))
/-! concourse/concourseref15.Made: function 9 -/
def concourseref15_Made.f (k : Nat) (a0 : Edu) : Option (Edu) := (concourseref03_Good.f k (⟨2, a0.fRoom, a0.fUser, a0.fEvent, a0.fThread, a0.fPrivate, a0.fOn, a0.fSpan, a0.fState, a0.fTick, a0.fStamp⟩ : Edu)).bind fun t372 => some t372
/-! concourse/edu.asks$1: function 97 -/
def edu_asks_1.f (a0 : Int) (a1 : Int) (a2 : Int) : Option (Bool) := cond (decide (a1 ≤ a0)) (some (decide (a0 ≤ a2))) (some false)
/-! concourse/edu.asks$2: function 98 -/
def edu_asks_2.f (a0 : Edu) : Option (Bool) := some false
/-! internal/stringslite.HasPrefix: function 126 -/
def stringslite_HasPrefix.f (a0 : ByteArray) (a1 : ByteArray) : Option (Bool) := cond (decide ((a1.size : Int) ≤ (a0.size : Int))) (grd ((0 : Int) ≤ (a1.size : Int) ∧ 0 ≤ (a1.size : Int).toNat ∧ (a1.size : Int).toNat ≤ a0.size) (some (decide ((a0.extract 0 ((a1.size : Int).toNat)) = a1)))) (some false)
/-! internal/stringslite.CutPrefix: function 122 -/
def stringslite_CutPrefix.f (a0 : ByteArray) (a1 : ByteArray) : Option (ByteArray × Bool) := (stringslite_HasPrefix.f a0 a1).bind fun t378 => cond (!t378) (some (a0, false)) (grd ((0 : Int) ≤ (a1.size : Int) ∧ (a1.size : Int).toNat ≤ a0.size ∧ a0.size ≤ a0.size) (some (a0.extract (a1.size : Int).toNat a0.size, true)))
/-! strings.CutPrefix: function 117 -/
def strings_CutPrefix.f (a0 : ByteArray) (a1 : ByteArray) : Option (ByteArray × Bool) := (stringslite_CutPrefix.f a0 a1).bind fun t382 => some (t382.1, t382.2)
/-! concourse/name.small: function 125 -/
def name_small.f (a0 : Int) : Option (Bool) := cond (decide (97 ≤ a0)) (cond (decide (a0 ≤ 122)) (some true) (cond (decide (48 ≤ a0)) (some (decide (a0 ≤ 57))) (some false))) (cond (decide (48 ≤ a0)) (some (decide (a0 ≤ 57))) (some false))
/-! internal/stringslite.IndexByte: function 130 -/
def stringslite_IndexByte.f (a0 : ByteArray) (a1 : Int) : Option (Int) := some (idxB a0 a1)
/-! strings.IndexByte: function 128 -/
def strings_IndexByte.f (a0 : ByteArray) (a1 : Int) : Option (Int) := (stringslite_IndexByte.f a0 a1).bind fun t388 => some t388
/-! concourse/name.among$1: function 127 -/
def name_among_1.f (a0 : Int) (c0 : ByteArray) : Option (Bool) := (name_small.f a0).bind fun t390 => cond t390 (some true) ((strings_IndexByte.f c0 a0).bind fun t393 => some (decide (0 ≤ t393)))
/-! concourse/name.among: function 123 -/
def name_among.f (a0 : ByteArray) : Option ((Int → Option Bool)) := some (fun a0_ => name_among_1.f a0_ a0)
/-! concourse/name.may: function 118 -/
def name_may.l0 (k : Nat) (a0 : ByteArray) (a1 : Int) (t396 : (Int → Option Bool)) (t398 : (Int → Option Bool)) (t400 : (Int → Option Bool)) : Nat → Int → Option ((Int × Bool) ⊕ (Bool))
  | 0, _ => none
  | j411 + 1, x405 => cond (decide (x405 < (a0.size : Int))) (grd ((0 : Int) ≤ x405 ∧ x405 < (a0.size : Int)) (((fK_uint8_bool.at ([t396, t398, t400] : List (Int → Option Bool)) a1) (bt a0 x405)).bind fun t408 => cond (!t408) (some (.inr false)) (name_may.l0 k a0 a1 t396 t398 t400 j411 (w64 (x405 + 1))))) (some (.inl (x405, decide (x405 < (a0.size : Int)))))
def name_may.f (k : Nat) (a0 : ByteArray) (a1 : Int) : Option (Bool) := (name_among.f (⟨#[46, 45, 95]⟩ : ByteArray)).bind fun t396 => (name_among.f (⟨#[46, 45]⟩ : ByteArray)).bind fun t398 => (name_among.f (⟨#[45, 95, 65, 66, 67, 68, 69, 70, 71, 72, 73, 74, 75, 76, 77, 78, 79, 80, 81, 82, 83, 84, 85, 86, 87, 88, 89, 90]⟩ : ByteArray)).bind fun t400 => grd ((0 : Int) ≤ a1 ∧ a1 < (3 : Int)) ((name_may.l0 k a0 a1 t396 t398 t400 k 0).bind (fall fun (p403 : Int × Bool) => cond (!decide (a0 = (⟨#[]⟩ : ByteArray))) (some (decide ((a0.size : Int) ≤ 16))) (some false)))
/-! internal/bytealg.Cutover: function 132 -/
def bytealg_Cutover.f (a0 : Int) : Option (Int) := some (w64 ((w64 (a0 + 16)).tdiv 8))
/-! internal/stringslite.Index: function 129 -/
def stringslite_Index.f (a0 : ByteArray) (a1 : ByteArray) : Option (Int) := cond ((a1.size : Int) == 0) (some 0) (cond (decide (a1 = a0)) (some 0) (cond ((a1.size : Int) == 1) (grd ((0 : Int) ≤ 0 ∧ 0 < (a1.size : Int)) ((stringslite_IndexByte.f a0 (bt a1 0)).bind fun t420 => some t420)) (cond (decide ((a0.size : Int) ≤ (a1.size : Int))) (some (-1)) (none))))
/-! internal/stringslite.Cut: function 124 -/
def stringslite_Cut.f (a0 : ByteArray) (a1 : ByteArray) : Option (ByteArray × ByteArray × Bool) := (stringslite_Index.f a0 a1).bind fun t423 => cond (decide (0 ≤ t423)) (grd ((0 : Int) ≤ t423 ∧ 0 ≤ t423.toNat ∧ t423.toNat ≤ a0.size) (grd ((0 : Int) ≤ (w64 (t423 + (a1.size : Int))) ∧ (w64 (t423 + (a1.size : Int))).toNat ≤ a0.size ∧ a0.size ≤ a0.size) (some (a0.extract 0 t423.toNat, a0.extract (w64 (t423 + (a1.size : Int))).toNat a0.size, true)))) (some (a0, (⟨#[]⟩ : ByteArray), false))
/-! strings.Cut: function 119 -/
def strings_Cut.f (a0 : ByteArray) (a1 : ByteArray) : Option (ByteArray × ByteArray × Bool) := (stringslite_Cut.f a0 a1).bind fun t428 => some (t428.1, t428.2.1, t428.2.2)
/-! concourse/name.Server: function 120 -/
def name_Server.f (k : Nat) (a0 : ByteArray) : Option (Bool) := (name_may.f k a0 1).bind fun t430 => cond t430 (grd ((0 : Int) ≤ 0 ∧ 0 < (a0.size : Int)) ((name_small.f (bt a0 0)).bind fun t434 => cond t434 (grd ((0 : Int) ≤ (w64 ((a0.size : Int) - 1)) ∧ (w64 ((a0.size : Int) - 1)) < (a0.size : Int)) ((name_small.f (bt a0 (w64 ((a0.size : Int) - 1)))).bind fun t438 => some t438)) (some false))) (some false)
/-! concourse/name.split: function 105 -/
def name_split.f (k : Nat) (a0 : ByteArray) (a1 : ByteArray) : Option (ByteArray × ByteArray × Bool) := (strings_CutPrefix.f a0 a1).bind fun t440 => (strings_Cut.f t440.1 (⟨#[58]⟩ : ByteArray)).bind fun t442 => cond t440.2 (cond t442.2.2 ((name_may.f k t442.1 0).bind fun t446 => cond t446 ((name_Server.f k t442.2.1).bind fun t449 => some (t442.1, t442.2.1, t449)) (some (t442.1, t442.2.1, false))) (some (t442.1, t442.2.1, false))) (some (t442.1, t442.2.1, false))
/-! concourse/name.Room: function 100 -/
def name_Room.f (k : Nat) (a0 : ByteArray) : Option (Bool) := (name_split.f k a0 (⟨#[33]⟩ : ByteArray)).bind fun t451 => some t451.2.2
/-! concourse/name.Event: function 101 -/
def name_Event.f (k : Nat) (a0 : ByteArray) : Option (Bool) := (strings_CutPrefix.f a0 (⟨#[36]⟩ : ByteArray)).bind fun t453 => cond t453.2 ((name_may.f k t453.1 2).bind fun t456 => some t456) (some false)
/-! concourse/name.Thread: function 102 -/
def name_Thread.f (k : Nat) (a0 : ByteArray) : Option (Bool) := cond (decide (a0 = (⟨#[]⟩ : ByteArray))) (some true) (cond (decide (a0 = (⟨#[109, 97, 105, 110]⟩ : ByteArray))) (some true) ((name_Event.f k a0).bind fun t460 => some t460))
/-! concourse/edu.asks$3: function 99 -/
def edu_asks_3.f (k : Nat) (a0 : Edu) : Option (Bool) := (name_Room.f k a0.fRoom).bind fun t463 => cond t463 ((name_Event.f k a0.fEvent).bind fun t466 => cond t466 ((name_Thread.f k a0.fThread).bind fun t469 => some t469) (some false)) (some false)
/-! concourse/edu.asks$4: function 103 -/
def edu_asks_4.f (k : Nat) (a0 : Edu) (c0 : Int → Int → Int → Option Bool) : Option (Bool) := (name_Room.f k a0.fRoom).bind fun t472 => cond t472 (cond (!a0.fOn) (some true) ((c0 a0.fSpan 1 60).bind fun t476 => some t476)) (some false)
/-! concourse/edu.asks$5: function 104 -/
def edu_asks_5.f (a0 : Edu) (c0 : Int → Int → Int → Option Bool) : Option (Bool) := (c0 a0.fState 0 2).bind fun t479 => some t479
/-! concourse/edu.asks: function 71 -/
def edu_asks.f (k : Nat) : Option ((List (Edu → Option Bool))) := some ([edu_asks_2.f, edu_asks_3.f k, fun a0_ => edu_asks_4.f k a0_ edu_asks_1.f, fun a0_ => edu_asks_5.f a0_ edu_asks_1.f] : List (Edu → Option Bool))
/-! concourse/edu.Local$1: function 72 -/
def edu_Local_1.f (a0 : Int) : Option (Bool) := cond (decide (0 ≤ a0)) (some (decide (a0 ≤ 1099511627776))) (some false)
/-! concourse/edu.named: function 73 -/
def edu_named.f (a0 : Edu) : Option (Edu) := cond (a0.fKind == 1) (some (⟨a0.fKind, a0.fRoom, a0.fUser, a0.fEvent, a0.fThread, a0.fPrivate, false, 0, 0, a0.fTick, a0.fStamp⟩ : Edu)) (cond (a0.fKind == 2) (cond a0.fOn (some (⟨a0.fKind, a0.fRoom, a0.fUser, (⟨#[]⟩ : ByteArray), (⟨#[]⟩ : ByteArray), false, a0.fOn, a0.fSpan, 0, a0.fTick, a0.fStamp⟩ : Edu)) (some (⟨a0.fKind, a0.fRoom, a0.fUser, (⟨#[]⟩ : ByteArray), (⟨#[]⟩ : ByteArray), false, a0.fOn, 0, 0, a0.fTick, a0.fStamp⟩ : Edu))) (cond (a0.fKind == 3) (some (⟨a0.fKind, (⟨#[]⟩ : ByteArray), a0.fUser, (⟨#[]⟩ : ByteArray), (⟨#[]⟩ : ByteArray), false, false, 0, a0.fState, a0.fTick, a0.fStamp⟩ : Edu)) (some (⟨a0.fKind, (⟨#[]⟩ : ByteArray), a0.fUser, (⟨#[]⟩ : ByteArray), (⟨#[]⟩ : ByteArray), false, false, 0, 0, a0.fTick, a0.fStamp⟩ : Edu))))
/-! concourse/name.User: function 74 -/
def name_User.f (k : Nat) (a0 : ByteArray) : Option (Bool) := (name_split.f k a0 (⟨#[64]⟩ : ByteArray)).bind fun t490 => some t490.2.2
/-! concourse/edu.Local: function 51 -/
def edu_Local.f (k : Nat) (a0 : Edu) : Option (Bool) := cond (decide (a0.fKind < 0)) (some false) (cond (decide (3 < a0.fKind)) (some false) ((edu_asks.f k).bind fun t497 => grd ((0 : Int) ≤ a0.fKind ∧ a0.fKind < (t497.length : Int)) (((fK_api_Edu_bool.at t497 a0.fKind) a0).bind fun t500 => cond (!t500) (some false) ((edu_named.f a0).bind fun t503 => cond (decide (a0 = t503)) ((name_User.f k a0.fUser).bind fun t506 => cond t506 ((edu_Local_1.f a0.fTick).bind fun t509 => cond t509 ((edu_Local_1.f a0.fStamp).bind fun t512 => some t512) (some false)) (some false)) (some false)))))
/-! concourse/edu.May: function 31 -/
def edu_May.f (k : Nat) (a0 : Edu) : Option (Bool) := (edu_Local.f k a0).bind fun t515 => cond t515 (some (!a0.fPrivate)) (some false)
/-! slices.BinarySearchFunc[[]concourse/api.Edu,concourse/api.Edu,string]: function 52 -/
def slices_BinarySearchFunc_Edu_string.l0 (k : Nat) (a0 : List Edu) (a1 : ByteArray) (a2 : Edu → ByteArray → Option Int) : Nat → Int → Int → Option (Int × Int × Bool)
  | 0, _, _ => none
  | j530 + 1, x523, x524 => cond (decide (x523 < x524)) (grd ((0 : Int) ≤ (w64 ((IntKind.u64.wrap (w64 (x523 + x524))).fdiv 2)) ∧ (w64 ((IntKind.u64.wrap (w64 (x523 + x524))).fdiv 2)) < (a0.length : Int)) ((a2 (Edu.K.at a0 (w64 ((IntKind.u64.wrap (w64 (x523 + x524))).fdiv 2))) a1).bind fun t527 => cond (decide (t527 < 0)) (slices_BinarySearchFunc_Edu_string.l0 k a0 a1 a2 j530 (w64 ((w64 ((IntKind.u64.wrap (w64 (x523 + x524))).fdiv 2)) + 1)) x524) (slices_BinarySearchFunc_Edu_string.l0 k a0 a1 a2 j530 x523 (w64 ((IntKind.u64.wrap (w64 (x523 + x524))).fdiv 2))))) (some (x523, x524, decide (x523 < x524)))
def slices_BinarySearchFunc_Edu_string.f (k : Nat) (a0 : List Edu) (a1 : ByteArray) (a2 : Edu → ByteArray → Option Int) : Option (Int × Bool) := (slices_BinarySearchFunc_Edu_string.l0 k a0 a1 a2 k 0 (a0.length : Int)).bind fun (p518 : Int × Int × Bool) => cond (decide (p518.1 < (a0.length : Int))) (grd ((0 : Int) ≤ p518.1 ∧ p518.1 < (a0.length : Int)) ((a2 (Edu.K.at a0 p518.1) a1).bind fun t521 => some (p518.1, (t521 == 0)))) (some (p518.1, false))
/-! cmp.isNaN[string]: function 75 -/
def cmp_isNaN_string.f (a0 : ByteArray) : Option (Bool) := some (!decide (a0 = a0))
/-! cmp.Compare[string]: function 54 -/
def cmp_Compare_string.f (a0 : ByteArray) (a1 : ByteArray) : Option (Int) := (cmp_isNaN_string.f a0).bind fun t532 => (cmp_isNaN_string.f a1).bind fun t534 => cond t532 (cond t534 (some 0) (some (-1))) (cond t534 (some 1) (cond (sLt a0 a1) (some (-1)) (cond (sLt a1 a0) (some 1) (some 0))))
/-! (*concourse/presence.Table).place$1: function 53 -/
def presence_Table_place_1.f (a0 : Edu) (a1 : ByteArray) : Option (Int) := (cmp_Compare_string.f a0.fUser a1).bind fun t542 => some t542
/-! (*concourse/presence.Table).place: function 32 -/
def presence_Table_place.f (k : Nat) (a0 : PTab) (a1 : ByteArray) : Option (Int × Bool) := (slices_BinarySearchFunc_Edu_string.f k a0.fl a1 presence_Table_place_1.f).bind fun t544 => some (t544.1, t544.2)
/-! concourse/edu.Of: function 55 -/
def edu_Of.f (a0 : Edu) : Option (EKey) := some (⟨a0.fKind, a0.fRoom, a0.fUser, a0.fThread, a0.fPrivate⟩ : EKey)
/-! cmp.Or[int]: function 76 -/
def cmp_Or_int.l0 (k : Nat) (a0 : List Int) : Nat → Int → Option ((Int × Bool) ⊕ (Int))
  | 0, _ => none
  | j553 + 1, x549 => cond (decide (x549 < (a0.length : Int))) (grd ((0 : Int) ≤ x549 ∧ x549 < (a0.length : Int)) (cond (((intK .i64).at a0 x549) != 0) (some (.inr ((intK .i64).at a0 x549))) (cmp_Or_int.l0 k a0 j553 (w64 (x549 + 1))))) (some (.inl (x549, decide (x549 < (a0.length : Int)))))
def cmp_Or_int.f (k : Nat) (a0 : List Int) : Option (Int) := (cmp_Or_int.l0 k a0 k 0).bind (fall fun (p548 : Int × Bool) => some 0)
/-! cmp.isNaN[int]: function 106 -/
def cmp_isNaN_int.f (a0 : Int) : Option (Bool) := some (a0 != a0)
/-! cmp.Compare[int]: function 77 -/
def cmp_Compare_int.f (a0 : Int) (a1 : Int) : Option (Int) := (cmp_isNaN_int.f a0).bind fun t555 => (cmp_isNaN_int.f a1).bind fun t557 => cond t555 (cond t557 (some 0) (some (-1))) (cond t557 (some 1) (cond (decide (a0 < a1)) (some (-1)) (cond (decide (a1 < a0)) (some 1) (some 0))))
/-! bytes.Compare: function 78 -/
def bytes_Compare.f (a0 : List Int) (a1 : List Int) : Option (Int) := some (cmpB a0 a1)
/-! concourse/lay.Number: function 108 -/
def lay_Number.l0 (k : Nat) : Nat → Int → List Int → Option (Int × Bool × (List Int))
  | 0, _, _ => none
  | j576 + 1, x570, x571 => cond (decide (128 ≤ x570)) (grd (x571.length + ([IntKind.u8.wrap (w64 ((x570.tmod 128) + 128))] : List Int).length ≤ 9223372036854775807 ∧ (x571.length + ([IntKind.u8.wrap (w64 ((x570.tmod 128) + 128))] : List Int).length) * 1 ≤ 140737488355328) (lay_Number.l0 k j576 (w64 (x570.tdiv 128)) (x571 ++ ([IntKind.u8.wrap (w64 ((x570.tmod 128) + 128))] : List Int)))) (some (x570, decide (128 ≤ x570), x571))
def lay_Number.f (k : Nat) (a0 : List Int) (a1 : Int) : Option ((List Int)) := grd ((0 : Int) ≤ (a0.length : Int) ∧ 0 ≤ (a0.length : Int).toNat ∧ (a0.length : Int).toNat ≤ a0.length) ((lay_Number.l0 k k (max a1 0) ((a0.take ((a0.length : Int).toNat)).drop 0)).bind fun (p566 : Int × Bool × (List Int)) => grd (p566.2.2.length + ([IntKind.u8.wrap (p566.1)] : List Int).length ≤ 9223372036854775807 ∧ (p566.2.2.length + ([IntKind.u8.wrap (p566.1)] : List Int).length) * 1 ≤ 140737488355328) (some (p566.2.2 ++ ([IntKind.u8.wrap (p566.1)] : List Int))))
/-! concourse/lay.Text: function 109 -/
def lay_Text.f (k : Nat) (a0 : List Int) (a1 : ByteArray) : Option ((List Int)) := (lay_Number.f k a0 (a1.size : Int)).bind fun t579 => grd (t579.length + (strBs a1).length ≤ 9223372036854775807 ∧ (t579.length + (strBs a1).length) * 1 ≤ 140737488355328) (some (t579 ++ (strBs a1)))
/-! concourse/lay.Flag: function 110 -/
def lay_Flag.f (k : Nat) (a0 : List Int) (a1 : Bool) : Option ((List Int)) := cond a1 ((lay_Number.f k a0 1).bind fun t585 => some t585) ((lay_Number.f k a0 0).bind fun t588 => some t588)
/-! concourse/edu.laid: function 79 -/
def edu_laid.l0 (k : Nat) (a0 : Edu) : Nat → Int → List Int → Option (Int × Bool × (List Int))
  | 0, _, _ => none
  | j610 + 1, x602, x603 => cond (decide (x602 < (([a0.fSpan, a0.fState, a0.fTick, a0.fStamp] : List Int).length : Int))) (grd ((0 : Int) ≤ x602 ∧ x602 < (([a0.fSpan, a0.fState, a0.fTick, a0.fStamp] : List Int).length : Int)) ((lay_Number.f k x603 ((intK .i64).at ([a0.fSpan, a0.fState, a0.fTick, a0.fStamp] : List Int) x602)).bind fun t607 => edu_laid.l0 k a0 j610 (w64 (x602 + 1)) t607)) (some (x602, decide (x602 < (([a0.fSpan, a0.fState, a0.fTick, a0.fStamp] : List Int).length : Int)), x603))
def edu_laid.l1 (k : Nat) (a0 : Edu) : Nat → Int → List Int → Option (Int × Bool × (List Int))
  | 0, _, _ => none
  | j621 + 1, x613, x614 => cond (decide (x613 < (([a0.fRoom, a0.fUser, a0.fEvent, a0.fThread] : List ByteArray).length : Int))) (grd ((0 : Int) ≤ x613 ∧ x613 < (([a0.fRoom, a0.fUser, a0.fEvent, a0.fThread] : List ByteArray).length : Int)) ((lay_Text.f k x614 (strK.at ([a0.fRoom, a0.fUser, a0.fEvent, a0.fThread] : List ByteArray) x613)).bind fun t618 => edu_laid.l1 k a0 j621 (w64 (x613 + 1)) t618)) (some (x613, decide (x613 < (([a0.fRoom, a0.fUser, a0.fEvent, a0.fThread] : List ByteArray).length : Int)), x614))
def edu_laid.f (k : Nat) (a0 : Edu) : Option ((List Int)) := (lay_Number.f k ([] : List Int) a0.fKind).bind fun t592 => (edu_laid.l1 k a0 k 0 t592).bind fun (p595 : Int × Bool × (List Int)) => (lay_Flag.f k p595.2.2 a0.fOn).bind fun t597 => (edu_laid.l0 k a0 k 0 t597).bind fun (p600 : Int × Bool × (List Int)) => some p600.2.2
/-! concourse/edu.Compare: function 56 -/
def edu_Compare.f (k : Nat) (a0 : Edu) (a1 : Edu) : Option (Int) := (cmp_Compare_int.f a0.fStamp a1.fStamp).bind fun t626 => (edu_laid.f k a0).bind fun t628 => (edu_laid.f k a1).bind fun t631 => (bytes_Compare.f t628 t631).bind fun t634 => (cmp_Or_int.f k ([t626, t634] : List Int)).bind fun t636 => some t636
/-! concourse/edu.Later: function 33 -/
def edu_Later.f (k : Nat) (a0 : Edu) (a1 : Edu) : Option (Bool) := (edu_Of.f a0).bind fun t640 => (edu_Of.f a1).bind fun t642 => cond (decide (t640 = t642)) ((edu_Compare.f k a0 a1).bind fun t645 => some (decide (0 < t645))) (some false)
/-! slices.Insert[[]concourse/api.Edu,concourse/api.Edu] -/
def slices_Insert_Edu.f (xs : List Edu) (i : Int) (ys : List Edu) : Option (List Edu) := grd ((0 : Int) ≤ i ∧ i ≤ (xs.length : Int) ∧ 0 < ys.length ∧ xs.length + ys.length ≤ 4611686018427387904 ∧ (xs.length + ys.length) * 112 ≤ 140737488355328) (some (xs.take i.toNat ++ ys ++ xs.drop i.toNat))
/-! (*concourse/heap.Heap).set: function 59 -/
def heap_Heap_set.f (a0 : HHeap) (a1 : Int) (a2 : HEnt) : Option (HHeap) := grd ((0 : Int) ≤ a1 ∧ a1 < (a0.fl.length : Int)) (some (⟨a0.fl.set a1.toNat a2, mput a0.fat a2.fKey a1⟩ : HHeap))
/-! concourse/heap.ahead: function 81 -/
def heap_ahead.f (k : Nat) (a0 : HEnt) (a1 : HEnt) : Option (Int) := (cmp_Compare_int.f a0.fAt a1.fAt).bind fun t659 => (cmp_Compare_string.f a0.fKey a1.fKey).bind fun t661 => (cmp_Or_int.f k ([t659, t661] : List Int)).bind fun t663 => some t663
/-! (*concourse/heap.Heap).down: function 60 -/
def heap_Heap_down.l0 (k : Nat) (a0 : HHeap) (a1 : Int) : Nat → Int → HHeap → Option (Int × Int × Bool × Bool × HHeap)
  | 0, _, _ => none
  | j700 + 1, x673, x674 => (cond (decide ((w64 ((w64 ((w64 (2 * x673)) + 1)) + 1)) < (x674.fl.length : Int))) (grd ((0 : Int) ≤ (w64 ((w64 ((w64 (2 * x673)) + 1)) + 1)) ∧ (w64 ((w64 ((w64 (2 * x673)) + 1)) + 1)) < (x674.fl.length : Int)) (grd ((0 : Int) ≤ (w64 ((w64 (2 * x673)) + 1)) ∧ (w64 ((w64 (2 * x673)) + 1)) < (x674.fl.length : Int)) ((heap_ahead.f k (x674.fl.getD ((w64 ((w64 ((w64 (2 * x673)) + 1)) + 1)).toNat) default) (x674.fl.getD ((w64 ((w64 (2 * x673)) + 1)).toNat) default)).bind fun t696 => cond (decide (t696 < 0)) (some (w64 ((w64 ((w64 (2 * x673)) + 1)) + 1), decide (t696 < 0))) (some (w64 ((w64 (2 * x673)) + 1), decide (t696 < 0)))))) (some (w64 ((w64 (2 * x673)) + 1), false))).bind fun (p675 : Int × Bool) => cond (decide ((x674.fl.length : Int) ≤ p675.1)) (some (x673, p675.1, p675.2, true, x674)) (grd ((0 : Int) ≤ p675.1 ∧ p675.1 < (x674.fl.length : Int)) ((heap_ahead.f k (a0.fl.getD a1.toNat default) (x674.fl.getD p675.1.toNat default)).bind fun t682 => cond (decide (t682 < 0)) (some (x673, p675.1, p675.2, decide (t682 < 0), x674)) (grd ((0 : Int) ≤ p675.1 ∧ p675.1 < (x674.fl.length : Int)) ((heap_Heap_set.f x674 x673 (x674.fl.getD p675.1.toNat default)).bind fun t687 => heap_Heap_down.l0 k a0 a1 j700 p675.1 t687))))
def heap_Heap_down.f (k : Nat) (a0 : HHeap) (a1 : Int) : Option (HHeap) := grd ((0 : Int) ≤ a1 ∧ a1 < (a0.fl.length : Int)) ((heap_Heap_down.l0 k a0 a1 k a1 a0).bind fun (p670 : Int × Int × Bool × Bool × HHeap) => (heap_Heap_set.f p670.2.2.2.2 p670.1 (a0.fl.getD a1.toNat default)).bind fun t671 => some t671)
/-! (*concourse/heap.Heap).up: function 61 -/
def heap_Heap_up.l0 (k : Nat) (a0 : HHeap) (a1 : Int) : Nat → Int → HHeap → Option (Int × Bool × HHeap)
  | 0, _, _ => none
  | j725 + 1, x710, x711 => cond (decide (0 < x710)) (grd ((0 : Int) ≤ (w64 ((w64 (x710 - 1)).tdiv 2)) ∧ (w64 ((w64 (x710 - 1)).tdiv 2)) < (x711.fl.length : Int)) ((heap_ahead.f k (a0.fl.getD a1.toNat default) (x711.fl.getD ((w64 ((w64 (x710 - 1)).tdiv 2)).toNat) default)).bind fun t717 => cond (decide (t717 < 0)) (grd ((0 : Int) ≤ (w64 ((w64 (x710 - 1)).tdiv 2)) ∧ (w64 ((w64 (x710 - 1)).tdiv 2)) < (x711.fl.length : Int)) ((heap_Heap_set.f x711 x710 (x711.fl.getD ((w64 ((w64 (x710 - 1)).tdiv 2)).toNat) default)).bind fun t722 => heap_Heap_up.l0 k a0 a1 j725 (w64 ((w64 (x710 - 1)).tdiv 2)) t722)) (some (x710, decide (t717 < 0), x711)))) (some (x710, false, x711))
def heap_Heap_up.f (k : Nat) (a0 : HHeap) (a1 : Int) : Option (HHeap) := grd ((0 : Int) ≤ a1 ∧ a1 < (a0.fl.length : Int)) ((heap_Heap_up.l0 k a0 a1 k a1 a0).bind fun (p707 : Int × Bool × HHeap) => (heap_Heap_set.f p707.2.2 p707.1 (a0.fl.getD a1.toNat default)).bind fun t708 => some t708)
/-! (*concourse/heap.Heap).Drop: function 35 -/
def heap_Heap_Drop.f (k : Nat) (a0 : HHeap) (a1 : ByteArray) : Option (Bool × HHeap) := cond (!((mget a0.fat a1).isSome)) (some (false, a0)) (grd ((0 : Int) ≤ (w64 ((a0.fl.length : Int) - 1)) ∧ (w64 ((a0.fl.length : Int) - 1)) < (a0.fl.length : Int)) (grd ((0 : Int) ≤ (w64 ((a0.fl.length : Int) - 1)) ∧ 0 ≤ (w64 ((a0.fl.length : Int) - 1)).toNat ∧ (w64 ((a0.fl.length : Int) - 1)).toNat ≤ a0.fl.length) (cond (decide (((mget a0.fat a1).getD 0) < (w64 ((a0.fl.length : Int) - 1)))) ((heap_Heap_set.f (⟨(a0.fl.take ((w64 ((a0.fl.length : Int) - 1)).toNat)).drop 0, mdel a0.fat a1⟩ : HHeap) ((mget a0.fat a1).getD 0) (a0.fl.getD ((w64 ((a0.fl.length : Int) - 1)).toNat) default)).bind fun t736 => (heap_Heap_down.f k t736 ((mget a0.fat a1).getD 0)).bind fun t738 => (heap_Heap_up.f k t738 ((mget t738.fat ((a0.fl.getD ((w64 ((a0.fl.length : Int) - 1)).toNat) default).fKey)).getD 0)).bind fun t742 => some (true, t742)) (some (true, (⟨(a0.fl.take ((w64 ((a0.fl.length : Int) - 1)).toNat)).drop 0, mdel a0.fat a1⟩ : HHeap))))))
/-! concourse/presence.state: function 38 -/
def presence_state.f (a0 : Edu) (a1 : Int) : Option (Int) := cond (a0.fState == 2) (cond (decide (a1 < (w64 (a0.fTick + 30)))) (some 2) (cond (decide (a1 < (w64 (a0.fTick + 90)))) (some 1) (some 0))) (cond (a0.fState == 1) (cond (decide (a1 < (w64 (a0.fTick + 90)))) (some 1) (some 0)) (some 0))
/-! concourse/presence.turn: function 36 -/
def presence_turn.l0 (k : Nat) (a0 : Edu) (a1 : Int) : Nat → Int → Option ((Int × Bool) ⊕ (Int × Bool))
  | 0, _ => none
  | j762 + 1, x752 => cond (decide (x752 < 2)) (grd ((0 : Int) ≤ x752 ∧ x752 < (2 : Int)) (cond (decide (a1 < (w64 (a0.fTick + ((intK .i64).at ([30, 90] : List Int) x752))))) ((presence_state.f a0 (w64 ((w64 (a0.fTick + ((intK .i64).at ([30, 90] : List Int) x752))) - 1))).bind fun t756 => (presence_state.f a0 (w64 (a0.fTick + ((intK .i64).at ([30, 90] : List Int) x752)))).bind fun t758 => cond (decide (t758 < t756)) (some (.inr (w64 (a0.fTick + ((intK .i64).at ([30, 90] : List Int) x752)), true))) (presence_turn.l0 k a0 a1 j762 (w64 (x752 + 1)))) (presence_turn.l0 k a0 a1 j762 (w64 (x752 + 1))))) (some (.inl (x752, decide (x752 < 2))))
def presence_turn.f (k : Nat) (a0 : Edu) (a1 : Int) : Option (Int × Bool) := (presence_turn.l0 k a0 a1 k 0).bind (fall fun (p751 : Int × Bool) => some (0, false))
/-! (*concourse/heap.Heap).Put: function 37 -/
def heap_Heap_Put.f (k : Nat) (a0 : HHeap) (a1 : Int) (a2 : ByteArray) : Option (HHeap) := (heap_Heap_Drop.f k a0 a2).bind fun t764 => grd (t764.2.fl.length + ([(⟨a1, a2⟩ : HEnt)] : List HEnt).length ≤ 9223372036854775807 ∧ (t764.2.fl.length + ([(⟨a1, a2⟩ : HEnt)] : List HEnt).length) * 24 ≤ 140737488355328) ((heap_Heap_up.f k (⟨t764.2.fl ++ ([(⟨a1, a2⟩ : HEnt)] : List HEnt), t764.2.fat⟩ : HHeap) (w64 (((t764.2.fl ++ ([(⟨a1, a2⟩ : HEnt)] : List HEnt)).length : Int) - 1))).bind fun t770 => some t770)
/-! (*concourse/presence.Table).Put: function 10 -/
def presence_Table_Put.f (k : Nat) (a0 : PTab) (a1 : Edu) : Option (Bool × Int × PTab) := cond (a1.fKind != 3) (some (false, 1, a0)) ((edu_May.f k a1).bind fun t775 => cond (!t775) (some (false, 1, a0)) ((presence_Table_place.f k a0 a1.fUser).bind fun t780 => (cond t780.2 (grd ((0 : Int) ≤ t780.1 ∧ t780.1 < (a0.fl.length : Int)) ((edu_Later.f k a1 (a0.fl.getD t780.1.toNat default)).bind fun t795 => cond (!t795) (some (.inr (false, 0, a0))) (grd ((0 : Int) ≤ t780.1 ∧ t780.1 < (a0.fl.length : Int)) (some (.inl (true, !t795, true, (⟨a0.fl.set t780.1.toNat a1, a0.fturns⟩ : PTab))))))) ((slices_Insert_Edu.f a0.fl t780.1 ([a1] : List Edu)).bind fun t803 => some (.inl (false, false, false, (⟨t803, a0.fturns⟩ : PTab))))).bind (fall fun (p782 : Bool × Bool × Bool × PTab) => (heap_Heap_Drop.f k p782.2.2.2.fturns a1.fUser).bind fun t785 => (presence_turn.f k a1 (-1)).bind fun t787 => cond t787.2 ((heap_Heap_Put.f k t785.2 t787.1 a1.fUser).bind fun t790 => some (true, 0, (⟨p782.2.2.2.fl, t790⟩ : PTab))) (some (true, 0, (⟨p782.2.2.2.fl, t785.2⟩ : PTab))))))
/-! concourse/concourseref01.SameTexts: function 13 -/
def concourseref01_SameTexts.l0 (k : Nat) (a0 : List ByteArray) (a1 : List ByteArray) : Nat → Int → Option ((Int × Bool) ⊕ (Bool))
  | 0, _ => none
  | j813 + 1, x808 => cond (decide (x808 < (a0.length : Int))) (grd ((0 : Int) ≤ x808 ∧ x808 < (a0.length : Int)) (grd ((0 : Int) ≤ x808 ∧ x808 < (a1.length : Int)) (cond (!decide ((strK.at a0 x808) = (strK.at a1 x808))) (some (.inr false)) (concourseref01_SameTexts.l0 k a0 a1 j813 (w64 (x808 + 1)))))) (some (.inl (x808, decide (x808 < (a0.length : Int)))))
def concourseref01_SameTexts.f (k : Nat) (a0 : List ByteArray) (a1 : List ByteArray) : Option (Bool) := cond ((a0.length : Int) != (a1.length : Int)) (some false) ((concourseref01_SameTexts.l0 k a0 a1 k 0).bind (fall fun (p807 : Int × Bool) => some true))
/-! (*concourse/presence.Table).State: function 16 -/
def presence_Table_State.f (k : Nat) (a0 : PTab) (a1 : ByteArray) (a2 : Int) : Option (Int) := (presence_Table_place.f k a0 a1).bind fun t815 => cond (!t815.2) (some 0) (grd ((0 : Int) ≤ t815.1 ∧ t815.1 < (a0.fl.length : Int)) ((presence_state.f (a0.fl.getD t815.1.toNat default) a2).bind fun t820 => some t820))
/-! concourse/concourselaw15.lives: function 19 -/
def concourselaw15_lives.f (k : Nat) : Option (Bool) := (presence_New.f).bind fun t822 => (presence_Table_Put.f k t822 (⟨3, (⟨#[]⟩ : ByteArray), (⟨#[64, 97, 58, 115]⟩ : ByteArray), (⟨#[]⟩ : ByteArray), (⟨#[]⟩ : ByteArray), false, false, 0, 2, 10, 0⟩ : Edu)).bind fun t826 => cond t826.1 (cond (t826.2.1 == 0) ((presence_Table_State.f k t826.2.2 (⟨#[64, 97, 58, 115]⟩ : ByteArray) 39).bind fun t832 => cond (t832 == 2) ((presence_Table_State.f k t826.2.2 (⟨#[64, 97, 58, 115]⟩ : ByteArray) 40).bind fun t835 => cond (t835 == 1) ((presence_Table_State.f k t826.2.2 (⟨#[64, 97, 58, 115]⟩ : ByteArray) 100).bind fun t838 => some (t838 == 0)) (some false)) (some false)) (some false)) (some false)
/-! concourse/concourseref04.SameEdus: function 20 -/
def concourseref04_SameEdus.l0 (k : Nat) (a0 : List Edu) (a1 : List Edu) : Nat → Int → Option ((Int × Bool) ⊕ (Bool))
  | 0, _ => none
  | j847 + 1, x842 => cond (decide (x842 < (a0.length : Int))) (grd ((0 : Int) ≤ x842 ∧ x842 < (a0.length : Int)) (grd ((0 : Int) ≤ x842 ∧ x842 < (a1.length : Int)) (cond (!decide (Edu.K.at a0 x842 = Edu.K.at a1 x842)) (some (.inr false)) (concourseref04_SameEdus.l0 k a0 a1 j847 (w64 (x842 + 1)))))) (some (.inl (x842, decide (x842 < (a0.length : Int)))))
def concourseref04_SameEdus.f (k : Nat) (a0 : List Edu) (a1 : List Edu) : Option (Bool) := cond ((a0.length : Int) != (a1.length : Int)) (some false) ((concourseref04_SameEdus.l0 k a0 a1 k 0).bind (fall fun (p841 : Int × Bool) => some true))
/-! slices.Clone[[]concourse/api.Edu,concourse/api.Edu] -/
def slices_Clone_Edu.f (xs : List Edu) : Option (List Edu) := grd (xs.length ≤ 9223372036854775807 ∧ xs.length * 112 ≤ 140737488355328) (some xs)
/-! (*concourse/presence.Table).All: function 21 -/
def presence_Table_All.f (a0 : PTab) : Option ((List Edu)) := (slices_Clone_Edu.f a0.fl).bind fun t849 => some t849
/-! (*concourse/heap.Heap).Due: function 42 -/
def heap_Heap_Due.l0 (k : Nat) (a1 : Int) : Nat → HHeap → List ByteArray → Option (Bool × HHeap × (List ByteArray))
  | 0, _, _ => none
  | j872 + 1, x854, x855 => cond (decide (0 < (x854.fl.length : Int))) (grd ((0 : Int) ≤ 0 ∧ 0 < (x854.fl.length : Int)) (cond (decide (((x854.fl.getD ((0 : Int).toNat) default).fAt) ≤ a1)) (grd ((0 : Int) ≤ 0 ∧ 0 < (x854.fl.length : Int)) (grd (x855.length + ([(x854.fl.getD ((0 : Int).toNat) default).fKey] : List ByteArray).length ≤ 9223372036854775807 ∧ (x855.length + ([(x854.fl.getD ((0 : Int).toNat) default).fKey] : List ByteArray).length) * 16 ≤ 140737488355328) (grd ((0 : Int) ≤ 0 ∧ 0 < (x854.fl.length : Int)) ((heap_Heap_Drop.f k x854 ((x854.fl.getD ((0 : Int).toNat) default).fKey)).bind fun t869 => heap_Heap_Due.l0 k a1 j872 t869.2 (x855 ++ ([(x854.fl.getD ((0 : Int).toNat) default).fKey] : List ByteArray)))))) (some (decide (((x854.fl.getD ((0 : Int).toNat) default).fAt) ≤ a1), x854, x855)))) (some (false, x854, x855))
def heap_Heap_Due.f (k : Nat) (a0 : HHeap) (a1 : Int) : Option ((List ByteArray) × HHeap) := (heap_Heap_Due.l0 k a1 k a0 ([] : List ByteArray)).bind fun (p852 : Bool × HHeap × (List ByteArray)) => some (p852.2.2, p852.2.1)
/-! slices.Sort[[]string,string] -/
def slices_Sort_string.f (xs : List ByteArray) : Option (List ByteArray) := grd (xs.length < 4611686018427387904) (some (srtS xs))
/-! (*concourse/presence.Table).Turned: function 22 -/
def presence_Table_Turned.l0 (k : Nat) (a1 : Int) (t877 : (List ByteArray) × HHeap) : Nat → Int → PTab → Option (Int × Bool × PTab)
  | 0, _, _ => none
  | j899 + 1, x883, x884 => cond (decide (x883 < (t877.1.length : Int))) (grd ((0 : Int) ≤ x883 ∧ x883 < (t877.1.length : Int)) ((presence_Table_place.f k x884 (t877.1.getD x883.toNat default)).bind fun t890 => grd ((0 : Int) ≤ t890.1 ∧ t890.1 < (x884.fl.length : Int)) ((presence_turn.f k (x884.fl.getD t890.1.toNat default) a1).bind fun t894 => cond t894.2 ((heap_Heap_Put.f k x884.fturns t894.1 (t877.1.getD x883.toNat default)).bind fun t897 => presence_Table_Turned.l0 k a1 t877 j899 (w64 (x883 + 1)) (⟨x884.fl, t897⟩ : PTab)) (presence_Table_Turned.l0 k a1 t877 j899 (w64 (x883 + 1)) x884)))) (some (x883, decide (x883 < (t877.1.length : Int)), x884))
def presence_Table_Turned.f (k : Nat) (a0 : PTab) (a1 : Int) : Option ((List ByteArray) × PTab) := (heap_Heap_Due.f k a0.fturns a1).bind fun t877 => (presence_Table_Turned.l0 k a1 t877 k 0 (⟨a0.fl, t877.2⟩ : PTab)).bind fun (p880 : Int × Bool × PTab) => (slices_Sort_string.f t877.1).bind fun t881 => some (t881, p880.2.2)
/-! (*concourse/heap.Heap).First: function 44 -/
def heap_Heap_First.f (a0 : HHeap) : Option (HEnt × Bool) := cond ((a0.fl.length : Int) == 0) (some ((⟨0, (⟨#[]⟩ : ByteArray)⟩ : HEnt), false)) (grd ((0 : Int) ≤ 0 ∧ 0 < (a0.fl.length : Int)) (some (a0.fl.getD ((0 : Int).toNat) default, true)))
/-! (*concourse/presence.Table).Next: function 23 -/
def presence_Table_Next.f (a0 : PTab) : Option (Int × Bool) := (heap_Heap_First.f a0.fturns).bind fun t909 => some (t909.1.fAt, t909.2)
/-! concourse/concourseref01.Few: function 11 -/
def concourseref01_Few.f (a0 : ByteArray) (a1 : Int) : Option (ByteArray) := cond (decide (a1 < (a0.size : Int))) (grd ((0 : Int) ≤ a1 ∧ 0 ≤ a1.toNat ∧ a1.toNat ≤ a0.size) (some (a0.extract 0 a1.toNat))) (some a0)
/-! concourse/concourseref03.Few: function 24 -/
def concourseref03_Few.f (a0 : Edu) : Option (Edu) := (concourseref01_Few.f a0.fRoom 40).bind fun t916 => (concourseref01_Few.f a0.fUser 40).bind fun t918 => (concourseref01_Few.f a0.fEvent 40).bind fun t920 => (concourseref01_Few.f a0.fThread 40).bind fun t922 => some (⟨a0.fKind, t916, t918, t920, t922, a0.fPrivate, a0.fOn, a0.fSpan, a0.fState, a0.fTick, a0.fStamp⟩ : Edu)
/-! concourse/concourseref15.turns: function 45 -/
def concourseref15_turns.f (a0 : Edu) : Option ((List Int)) := cond (a0.fState == 2) (some ([w64 (a0.fTick + 30), w64 (a0.fTick + 90)] : List Int)) (cond (a0.fState == 1) (some ([w64 (a0.fTick + 90)] : List Int)) (some ([] : List Int)))
/-! concourse/concourseref15.Turned: function 25 -/
def concourseref15_Turned.l1 (k : Nat) (a0 : TRef) (a1 : Int) (x934 : Int) (t945 : (List Int)) : Nat → Bool → Int → Option (Bool × Int × Bool)
  | 0, _, _ => none
  | j960 + 1, x952, x953 => cond (decide (x953 < (t945.length : Int))) (cond x952 (concourseref15_Turned.l1 k a0 a1 x934 t945 j960 true (w64 (x953 + 1))) (grd ((0 : Int) ≤ x953 ∧ x953 < (t945.length : Int)) (cond (decide (((intK .i64).at t945 x953) ≤ a1)) (grd ((0 : Int) ≤ x953 ∧ x953 < (t945.length : Int)) (grd ((0 : Int) ≤ x934 ∧ x934 < (a0.fTold.length : Int)) (concourseref15_Turned.l1 k a0 a1 x934 t945 j960 (decide (((intK .i64).at a0.fTold x934) < ((intK .i64).at t945 x953))) (w64 (x953 + 1))))) (concourseref15_Turned.l1 k a0 a1 x934 t945 j960 false (w64 (x953 + 1)))))) (some (x952, x953, decide (x953 < (t945.length : Int))))
def concourseref15_Turned.l0 (k : Nat) (a0 : TRef) (a1 : Int) : Nat → Int → List Int → List ByteArray → Option (Int × Bool × (List Int) × (List ByteArray))
  | 0, _, _, _ => none
  | j963 + 1, x934, x935, x936 => cond (decide (x934 < (a0.fL.length : Int))) ((grd ((0 : Int) ≤ x934 ∧ x934 < (a0.fTold.length : Int)) (grd ((0 : Int) ≤ x934 ∧ x934 < (x935.length : Int)) (grd ((0 : Int) ≤ x934 ∧ x934 < (a0.fL.length : Int)) ((concourseref15_turns.f (Edu.K.at a0.fL x934)).bind fun t945 => (concourseref15_Turned.l1 k a0 a1 x934 t945 k false 0).bind fun (p947 : Bool × Int × Bool) => cond p947.1 (grd ((0 : Int) ≤ x934 ∧ x934 < (a0.fL.length : Int)) (grd (x936.length + ([(Edu.K.at a0.fL x934).fUser] : List ByteArray).length ≤ 9223372036854775807 ∧ (x936.length + ([(Edu.K.at a0.fL x934).fUser] : List ByteArray).length) * 16 ≤ 140737488355328) (some (t945, p947.1, p947.2.1, p947.2.2, p947.1, x936 ++ ([(Edu.K.at a0.fL x934).fUser] : List ByteArray))))) (some (t945, p947.1, p947.2.1, p947.2.2, p947.1, x936)))))).bind fun (p939 : (List Int) × Bool × Int × Bool × Bool × (List ByteArray)) => concourseref15_Turned.l0 k a0 a1 j963 (w64 (x934 + 1)) (x935.set x934.toNat (max ((intK .i64).at a0.fTold x934) a1)) p939.2.2.2.2.2) (some (x934, decide (x934 < (a0.fL.length : Int)), x935, x936))
def concourseref15_Turned.f (k : Nat) (a0 : TRef) (a1 : Int) : Option (TRef × (List ByteArray)) := grd ((0 : Int) ≤ (a0.fL.length : Int) ∧ (a0.fL.length : Int) ≤ (9223372036854775807 : Int) ∧ (a0.fL.length : Int).toNat * 8 ≤ 140737488355328) ((concourseref15_Turned.l0 k a0 a1 k 0 (List.replicate (a0.fL.length : Int).toNat (0 : Int)) ([] : List ByteArray)).bind fun (p932 : Int × Bool × (List Int) × (List ByteArray)) => some ((⟨a0.fL, p932.2.2.1⟩ : TRef), p932.2.2.2))
/-! concourse/concourseref15.Next: function 26 -/
def concourseref15_Next.l1 (k : Nat) (a0 : TRef) (x970 : Int) (t974 : (List Int)) : Nat → Int → Bool → Int → Option (Int × Bool × (List Int) × Int × Bool)
  | 0, _, _, _ => none
  | j990 + 1, x976, x977, x978 => cond (decide (x978 < (t974.length : Int))) (grd ((0 : Int) ≤ x978 ∧ x978 < (t974.length : Int)) (grd ((0 : Int) ≤ x970 ∧ x970 < (a0.fTold.length : Int)) (cond (decide (((intK .i64).at a0.fTold x970) < ((intK .i64).at t974 x978))) (cond (!x977) (grd ((0 : Int) ≤ x978 ∧ x978 < (t974.length : Int)) (concourseref15_Next.l1 k a0 x970 t974 j990 ((intK .i64).at t974 x978) true (w64 (x978 + 1)))) (grd ((0 : Int) ≤ x978 ∧ x978 < (t974.length : Int)) (cond (decide (((intK .i64).at t974 x978) < x976)) (grd ((0 : Int) ≤ x978 ∧ x978 < (t974.length : Int)) (concourseref15_Next.l1 k a0 x970 t974 j990 ((intK .i64).at t974 x978) true (w64 (x978 + 1)))) (concourseref15_Next.l1 k a0 x970 t974 j990 x976 x977 (w64 (x978 + 1)))))) (concourseref15_Next.l1 k a0 x970 t974 j990 x976 x977 (w64 (x978 + 1)))))) (some (x976, x977, t974, x978, decide (x978 < (t974.length : Int))))
def concourseref15_Next.l0 (k : Nat) (a0 : TRef) : Nat → Int → Bool → Int → Option (Int × Bool × Int × Bool)
  | 0, _, _, _ => none
  | j992 + 1, x968, x969, x970 => cond (decide (x970 < (a0.fL.length : Int))) ((grd ((0 : Int) ≤ x970 ∧ x970 < (a0.fL.length : Int)) ((concourseref15_turns.f (Edu.K.at a0.fL x970)).bind fun t974 => concourseref15_Next.l1 k a0 x970 t974 k x968 x969 0)).bind fun (p972 : Int × Bool × (List Int) × Int × Bool) => concourseref15_Next.l0 k a0 j992 p972.1 p972.2.1 (w64 (x970 + 1))) (some (x968, x969, x970, decide (x970 < (a0.fL.length : Int))))
def concourseref15_Next.f (k : Nat) (a0 : TRef) : Option (Int × Bool) := (concourseref15_Next.l0 k a0 k 0 false 0).bind fun (p967 : Int × Bool × Int × Bool) => some (p967.1, p967.2.1)
/-! concourse/concourselaw15.PresencePlays: function 6 -/
def concourselaw15_PresencePlays.l0 (k : Nat) (a0 : List Edu) (a1 : List Bool) (a2 : List Int) : Nat → Int → List Edu → List Int → PTab → Option ((Int × Bool × (List Edu) × (List Int) × PTab) ⊕ (Bool))
  | 0, _, _, _, _ => none
  | j1058 + 1, x1002, x1003, x1004, x1005 => cond (decide (x1002 < (a0.length : Int))) (cond (decide (x1002 < 16)) (grd ((0 : Int) ≤ x1002 ∧ x1002 < (a0.length : Int)) ((concourseref15_Made.f k (Edu.K.at a0 x1002)).bind fun t1009 => (cond (decide (x1002 < (a1.length : Int))) (grd ((0 : Int) ≤ (min x1002 (w64 ((a1.length : Int) - 1))) ∧ (min x1002 (w64 ((a1.length : Int) - 1))) < (a1.length : Int)) (cond (boolK.at a1 (min x1002 (w64 ((a1.length : Int) - 1)))) (grd ((0 : Int) ≤ x1002 ∧ x1002 < (a0.length : Int)) ((concourseref03_Few.f (Edu.K.at a0 x1002)).bind fun t1054 => some (boolK.at a1 (min x1002 (w64 ((a1.length : Int) - 1))), t1054.fKind, t1054.fRoom, t1054.fUser, t1054.fEvent, t1054.fThread, t1054.fPrivate, t1054.fOn, t1054.fSpan, t1054.fState, t1054.fTick, t1054.fStamp))) (some (boolK.at a1 (min x1002 (w64 ((a1.length : Int) - 1))), t1009.fKind, t1009.fRoom, t1009.fUser, t1009.fEvent, t1009.fThread, t1009.fPrivate, t1009.fOn, t1009.fSpan, t1009.fState, t1009.fTick, t1009.fStamp)))) (some (false, t1009.fKind, t1009.fRoom, t1009.fUser, t1009.fEvent, t1009.fThread, t1009.fPrivate, t1009.fOn, t1009.fSpan, t1009.fState, t1009.fTick, t1009.fStamp))).bind fun (p1012 : Bool × Int × ByteArray × ByteArray × ByteArray × ByteArray × Bool × Bool × Int × Int × Int × Int) => (concourseref15_Put.f k (⟨x1003, x1004⟩ : TRef) (⟨p1012.2.1, p1012.2.2.1, p1012.2.2.2.1, p1012.2.2.2.2.1, p1012.2.2.2.2.2.1, p1012.2.2.2.2.2.2.1, p1012.2.2.2.2.2.2.2.1, p1012.2.2.2.2.2.2.2.2.1, p1012.2.2.2.2.2.2.2.2.2.1, p1012.2.2.2.2.2.2.2.2.2.2.1, p1012.2.2.2.2.2.2.2.2.2.2.2⟩ : Edu)).bind fun t1013 => (presence_Table_Put.f k x1005 (⟨p1012.2.1, p1012.2.2.1, p1012.2.2.2.1, p1012.2.2.2.2.1, p1012.2.2.2.2.2.1, p1012.2.2.2.2.2.2.1, p1012.2.2.2.2.2.2.2.1, p1012.2.2.2.2.2.2.2.2.1, p1012.2.2.2.2.2.2.2.2.2.1, p1012.2.2.2.2.2.2.2.2.2.2.1, p1012.2.2.2.2.2.2.2.2.2.2.2⟩ : Edu)).bind fun t1016 => cond (t1016.1 != t1013.2.1) (some (.inr false)) (cond (t1013.2.2 != t1016.2.1) (some (.inr false)) ((cond (decide (x1002 < (a2.length : Int))) (grd ((0 : Int) ≤ (min x1002 (w64 ((a2.length : Int) - 1))) ∧ (min x1002 (w64 ((a2.length : Int) - 1))) < (a2.length : Int)) ((concourseref15_Turned.f k t1013.1 ((intK .i64).at a2 (min x1002 (w64 ((a2.length : Int) - 1))))).bind fun t1040 => (presence_Table_Turned.f k t1016.2.2 ((intK .i64).at a2 (min x1002 (w64 ((a2.length : Int) - 1))))).bind fun t1044 => (concourseref01_SameTexts.f k t1044.1 t1040.2).bind fun t1047 => cond (!t1047) (some (.inr (.inr false))) (some (.inl (t1040.1.fL, t1040.1.fTold, t1044.2))))) (some (.inl (t1013.1.fL, t1013.1.fTold, t1016.2.2)))).bind (fall fun (p1021 : (List Edu) × (List Int) × PTab) => (presence_Table_Next.f p1021.2.2).bind fun t1022 => (concourseref15_Next.f k (⟨p1021.1, p1021.2.1⟩ : TRef)).bind fun t1024 => cond (t1022.1 != t1024.1) (some (.inr false)) (cond (t1022.2 != t1024.2) (some (.inr false)) ((presence_Table_All.f p1021.2.2).bind fun t1032 => (concourseref04_SameEdus.f k t1032 p1021.1).bind fun t1035 => cond (!t1035) (some (.inr false)) (concourselaw15_PresencePlays.l0 k a0 a1 a2 j1058 (w64 (x1002 + 1)) p1021.1 p1021.2.1 p1021.2.2)))))))) (some (.inl (x1002, decide (x1002 < 16), x1003, x1004, x1005)))) (some (.inl (x1002, false, x1003, x1004, x1005)))
def concourselaw15_PresencePlays.f (k : Nat) (a0 : List Edu) (a1 : List Bool) (a2 : List Int) : Option (Bool) := (presence_New.f).bind fun t994 => (concourselaw15_PresencePlays.l0 k a0 a1 a2 k 0 ([] : List Edu) ([] : List Int) t994).bind (fall fun (p999 : Int × Bool × (List Edu) × (List Int) × PTab) => (concourselaw15_lives.f k).bind fun t1000 => some t1000)
end Go.Proofs.YtegmafgodoikiaaGreat
