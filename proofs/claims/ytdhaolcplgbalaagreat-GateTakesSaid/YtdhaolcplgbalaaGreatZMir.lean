/- The walks. -/
import Derived.Test.YtdhaolcplgbalaaGreatChecked
import Derived.Test.YtdhaolcplgbalaaGreatConQ
import Derived.Test.YtdhaolcplgbalaaGreatConA5
import Derived.Eval
set_option linter.all false
set_option maxRecDepth 10000
set_option maxHeartbeats 20000000
namespace Go.Proofs.YtdhaolcplgbalaaGreat
open Go Go.Sp
theorem c101 : Tryz.prog.cellsOf 101 = 1 := by kernel_rfl
theorem c103 : Tryz.prog.cellsOf 103 = 4 := by kernel_rfl
theorem c108 : Tryz.prog.cellsOf 108 = 1 := by kernel_rfl
theorem c120 : Tryz.prog.cellsOf 120 = 1 := by kernel_rfl
theorem c121 : Tryz.prog.cellsOf 121 = 1 := by kernel_rfl
theorem c125 : Tryz.prog.cellsOf 125 = 2 := by kernel_rfl
theorem c24 : Tryz.prog.cellsOf 24 = 11 := by kernel_rfl
theorem c26 : Tryz.prog.cellsOf 26 = 1 := by kernel_rfl
theorem c28 : Tryz.prog.cellsOf 28 = 1 := by kernel_rfl
theorem c3 : Tryz.prog.cellsOf 3 = 1 := by kernel_rfl
theorem c35 : Tryz.prog.cellsOf 35 = 1 := by kernel_rfl
theorem c4 : Tryz.prog.cellsOf 4 = 1 := by kernel_rfl
theorem c5 : Tryz.prog.cellsOf 5 = 1 := by kernel_rfl
theorem c54 : Tryz.prog.cellsOf 54 = 1 := by kernel_rfl
theorem c59 : Tryz.prog.cellsOf 59 = 6 := by kernel_rfl
theorem c62 : Tryz.prog.cellsOf 62 = 1 := by kernel_rfl
theorem c74 : Tryz.prog.cellsOf 74 = 2 := by kernel_rfl
theorem c79 : Tryz.prog.cellsOf 79 = 1 := by kernel_rfl
theorem c9 : Tryz.prog.cellsOf 9 = 1 := by kernel_rfl
theorem cal10 : callable Tryz.prog 10 = true := by kernel_rfl
theorem cal100 : callable Tryz.prog 100 = true := by kernel_rfl
theorem cal101 : callable Tryz.prog 101 = true := by kernel_rfl
theorem cal102 : callable Tryz.prog 102 = true := by kernel_rfl
theorem cal103 : callable Tryz.prog 103 = true := by kernel_rfl
theorem cal104 : callable Tryz.prog 104 = true := by kernel_rfl
theorem cal105 : callable Tryz.prog 105 = true := by kernel_rfl
theorem cal106 : callable Tryz.prog 106 = true := by kernel_rfl
theorem cal107 : callable Tryz.prog 107 = true := by kernel_rfl
theorem cal108 : callable Tryz.prog 108 = true := by kernel_rfl
theorem cal109 : callable Tryz.prog 109 = true := by kernel_rfl
theorem cal11 : callable Tryz.prog 11 = true := by kernel_rfl
theorem cal110 : callable Tryz.prog 110 = true := by kernel_rfl
theorem cal111 : callable Tryz.prog 111 = true := by kernel_rfl
theorem cal112 : callable Tryz.prog 112 = true := by kernel_rfl
theorem cal113 : callable Tryz.prog 113 = true := by kernel_rfl
theorem cal114 : callable Tryz.prog 114 = true := by kernel_rfl
theorem cal115 : callable Tryz.prog 115 = true := by kernel_rfl
theorem cal116 : callable Tryz.prog 116 = true := by kernel_rfl
theorem cal117 : callable Tryz.prog 117 = true := by kernel_rfl
theorem cal118 : callable Tryz.prog 118 = true := by kernel_rfl
theorem cal119 : callable Tryz.prog 119 = true := by kernel_rfl
theorem cal12 : callable Tryz.prog 12 = true := by kernel_rfl
theorem cal120 : callable Tryz.prog 120 = true := by kernel_rfl
theorem cal121 : callable Tryz.prog 121 = true := by kernel_rfl
theorem cal122 : callable Tryz.prog 122 = true := by kernel_rfl
theorem cal125 : callable Tryz.prog 125 = true := by kernel_rfl
theorem cal126 : callable Tryz.prog 126 = true := by kernel_rfl
theorem cal127 : callable Tryz.prog 127 = true := by kernel_rfl
theorem cal128 : callable Tryz.prog 128 = true := by kernel_rfl
theorem cal129 : callable Tryz.prog 129 = true := by kernel_rfl
theorem cal13 : callable Tryz.prog 13 = true := by kernel_rfl
theorem cal130 : callable Tryz.prog 130 = true := by kernel_rfl
theorem cal131 : callable Tryz.prog 131 = true := by kernel_rfl
theorem cal132 : callable Tryz.prog 132 = true := by kernel_rfl
theorem cal14 : callable Tryz.prog 14 = true := by kernel_rfl
theorem cal147 : callable Tryz.prog 147 = true := by kernel_rfl
theorem cal148 : callable Tryz.prog 148 = true := by kernel_rfl
theorem cal149 : callable Tryz.prog 149 = true := by kernel_rfl
theorem cal15 : callable Tryz.prog 15 = true := by kernel_rfl
theorem cal150 : callable Tryz.prog 150 = true := by kernel_rfl
theorem cal151 : callable Tryz.prog 151 = true := by kernel_rfl
theorem cal159 : callable Tryz.prog 159 = true := by kernel_rfl
theorem cal16 : callable Tryz.prog 16 = true := by kernel_rfl
theorem cal160 : callable Tryz.prog 160 = true := by kernel_rfl
theorem cal164 : callable Tryz.prog 164 = true := by kernel_rfl
theorem cal165 : callable Tryz.prog 165 = true := by kernel_rfl
theorem cal166 : callable Tryz.prog 166 = true := by kernel_rfl
theorem cal17 : callable Tryz.prog 17 = true := by kernel_rfl
theorem cal175 : callable Tryz.prog 175 = true := by kernel_rfl
theorem cal18 : callable Tryz.prog 18 = true := by kernel_rfl
theorem cal19 : callable Tryz.prog 19 = true := by kernel_rfl
theorem cal20 : callable Tryz.prog 20 = true := by kernel_rfl
theorem cal21 : callable Tryz.prog 21 = true := by kernel_rfl
theorem cal22 : callable Tryz.prog 22 = true := by kernel_rfl
theorem cal23 : callable Tryz.prog 23 = true := by kernel_rfl
theorem cal24 : callable Tryz.prog 24 = true := by kernel_rfl
theorem cal25 : callable Tryz.prog 25 = true := by kernel_rfl
theorem cal26 : callable Tryz.prog 26 = true := by kernel_rfl
theorem cal27 : callable Tryz.prog 27 = true := by kernel_rfl
theorem cal28 : callable Tryz.prog 28 = true := by kernel_rfl
theorem cal29 : callable Tryz.prog 29 = true := by kernel_rfl
theorem cal30 : callable Tryz.prog 30 = true := by kernel_rfl
theorem cal31 : callable Tryz.prog 31 = true := by kernel_rfl
theorem cal32 : callable Tryz.prog 32 = true := by kernel_rfl
theorem cal33 : callable Tryz.prog 33 = true := by kernel_rfl
theorem cal34 : callable Tryz.prog 34 = true := by kernel_rfl
theorem cal35 : callable Tryz.prog 35 = true := by kernel_rfl
theorem cal36 : callable Tryz.prog 36 = true := by kernel_rfl
theorem cal37 : callable Tryz.prog 37 = true := by kernel_rfl
theorem cal38 : callable Tryz.prog 38 = true := by kernel_rfl
theorem cal39 : callable Tryz.prog 39 = true := by kernel_rfl
theorem cal40 : callable Tryz.prog 40 = true := by kernel_rfl
theorem cal41 : callable Tryz.prog 41 = true := by kernel_rfl
theorem cal42 : callable Tryz.prog 42 = true := by kernel_rfl
theorem cal43 : callable Tryz.prog 43 = true := by kernel_rfl
theorem cal44 : callable Tryz.prog 44 = true := by kernel_rfl
theorem cal45 : callable Tryz.prog 45 = true := by kernel_rfl
theorem cal46 : callable Tryz.prog 46 = true := by kernel_rfl
theorem cal47 : callable Tryz.prog 47 = true := by kernel_rfl
theorem cal48 : callable Tryz.prog 48 = true := by kernel_rfl
theorem cal49 : callable Tryz.prog 49 = true := by kernel_rfl
theorem cal50 : callable Tryz.prog 50 = true := by kernel_rfl
theorem cal51 : callable Tryz.prog 51 = true := by kernel_rfl
theorem cal52 : callable Tryz.prog 52 = true := by kernel_rfl
theorem cal53 : callable Tryz.prog 53 = true := by kernel_rfl
theorem cal54 : callable Tryz.prog 54 = true := by kernel_rfl
theorem cal55 : callable Tryz.prog 55 = true := by kernel_rfl
theorem cal56 : callable Tryz.prog 56 = true := by kernel_rfl
theorem cal57 : callable Tryz.prog 57 = true := by kernel_rfl
theorem cal58 : callable Tryz.prog 58 = true := by kernel_rfl
theorem cal59 : callable Tryz.prog 59 = true := by kernel_rfl
theorem cal60 : callable Tryz.prog 60 = true := by kernel_rfl
theorem cal61 : callable Tryz.prog 61 = true := by kernel_rfl
theorem cal62 : callable Tryz.prog 62 = true := by kernel_rfl
theorem cal63 : callable Tryz.prog 63 = true := by kernel_rfl
theorem cal64 : callable Tryz.prog 64 = true := by kernel_rfl
theorem cal65 : callable Tryz.prog 65 = true := by kernel_rfl
theorem cal66 : callable Tryz.prog 66 = true := by kernel_rfl
theorem cal67 : callable Tryz.prog 67 = true := by kernel_rfl
theorem cal68 : callable Tryz.prog 68 = true := by kernel_rfl
theorem cal69 : callable Tryz.prog 69 = true := by kernel_rfl
theorem cal70 : callable Tryz.prog 70 = true := by kernel_rfl
theorem cal71 : callable Tryz.prog 71 = true := by kernel_rfl
theorem cal72 : callable Tryz.prog 72 = true := by kernel_rfl
theorem cal73 : callable Tryz.prog 73 = true := by kernel_rfl
theorem cal74 : callable Tryz.prog 74 = true := by kernel_rfl
theorem cal75 : callable Tryz.prog 75 = true := by kernel_rfl
theorem cal76 : callable Tryz.prog 76 = true := by kernel_rfl
theorem cal77 : callable Tryz.prog 77 = true := by kernel_rfl
theorem cal78 : callable Tryz.prog 78 = true := by kernel_rfl
theorem cal79 : callable Tryz.prog 79 = true := by kernel_rfl
theorem cal80 : callable Tryz.prog 80 = true := by kernel_rfl
theorem cal81 : callable Tryz.prog 81 = true := by kernel_rfl
theorem cal82 : callable Tryz.prog 82 = true := by kernel_rfl
theorem cal83 : callable Tryz.prog 83 = true := by kernel_rfl
theorem cal84 : callable Tryz.prog 84 = true := by kernel_rfl
theorem cal85 : callable Tryz.prog 85 = true := by kernel_rfl
theorem cal86 : callable Tryz.prog 86 = true := by kernel_rfl
theorem cal87 : callable Tryz.prog 87 = true := by kernel_rfl
theorem cal88 : callable Tryz.prog 88 = true := by kernel_rfl
theorem cal89 : callable Tryz.prog 89 = true := by kernel_rfl
theorem cal9 : callable Tryz.prog 9 = true := by kernel_rfl
theorem cal90 : callable Tryz.prog 90 = true := by kernel_rfl
theorem cal91 : callable Tryz.prog 91 = true := by kernel_rfl
theorem cal92 : callable Tryz.prog 92 = true := by kernel_rfl
theorem cal93 : callable Tryz.prog 93 = true := by kernel_rfl
theorem cal94 : callable Tryz.prog 94 = true := by kernel_rfl
theorem cal95 : callable Tryz.prog 95 = true := by kernel_rfl
theorem cal96 : callable Tryz.prog 96 = true := by kernel_rfl
theorem cal97 : callable Tryz.prog 97 = true := by kernel_rfl
theorem cal98 : callable Tryz.prog 98 = true := by kernel_rfl
theorem cal99 : callable Tryz.prog 99 = true := by kernel_rfl
theorem eg24 : Tryz.prog.eqGuardType Tryz.prog.depth 24 = false := by kernel_rfl
theorem inf125 : ∃ i, Tryz.prog.info? 125 = some i ∧ i.size = 2 ∧ i.zero = some (.agg #[.int .i64 0, .string ⟨#[]⟩]) ∧ i.bytes = 24 := inf_of (by kernel_rfl) (by kernel_rfl) (by kernel_rfl)
theorem inf24 : ∃ i, Tryz.prog.info? 24 = some i ∧ i.size = 11 ∧ i.zero = some (.agg #[.int .i64 0, .string ⟨#[]⟩, .string ⟨#[]⟩, .string ⟨#[]⟩, .string ⟨#[]⟩, .bool false, .bool false, .int .i64 0, .int .i64 0, .int .i64 0, .int .i64 0]) ∧ i.bytes = 112 := inf_of (by kernel_rfl) (by kernel_rfl) (by kernel_rfl)
theorem inf3 : ∃ i, Tryz.prog.info? 3 = some i ∧ i.size = 1 ∧ i.zero = some (.int .i64 0) ∧ i.bytes = 8 := inf_of (by kernel_rfl) (by kernel_rfl) (by kernel_rfl)
theorem inf4 : ∃ i, Tryz.prog.info? 4 = some i ∧ i.size = 1 ∧ i.zero = some (.bool false) ∧ i.bytes = 1 := inf_of (by kernel_rfl) (by kernel_rfl) (by kernel_rfl)
theorem inf59 : ∃ i, Tryz.prog.info? 59 = some i ∧ i.size = 6 ∧ i.zero = some (.agg #[.string ⟨#[]⟩, .string ⟨#[]⟩, .slice none 0 0, .string ⟨#[]⟩, .string ⟨#[]⟩, .int .i64 0]) ∧ i.bytes = 96 := inf_of (by kernel_rfl) (by kernel_rfl) (by kernel_rfl)
theorem inf74 : ∃ i, Tryz.prog.info? 74 = some i ∧ i.size = 2 ∧ i.zero = some (.agg #[.string ⟨#[]⟩, .slice none 0 0]) ∧ i.bytes = 40 := inf_of (by kernel_rfl) (by kernel_rfl) (by kernel_rfl)
theorem inf9 : ∃ i, Tryz.prog.info? 9 = some i ∧ i.size = 1 ∧ i.zero = some (.string ⟨#[]⟩) ∧ i.bytes = 16 := inf_of (by kernel_rfl) (by kernel_rfl) (by kernel_rfl)
theorem fa103_0 : FA Tryz.prog 103 0 0 := ⟨_, _, _, _, Tryz.underlying103, rfl, Tryz.underlying3, c3, by decide, rfl⟩
theorem fa103_1 : FA Tryz.prog 103 1 1 := ⟨_, _, _, _, Tryz.underlying103, rfl, Tryz.underlying3, c3, by decide, rfl⟩
theorem fa103_2 : FA Tryz.prog 103 2 2 := ⟨_, _, _, _, Tryz.underlying103, rfl, Tryz.underlying101, c101, by decide, rfl⟩
theorem fa103_3 : FA Tryz.prog 103 3 3 := ⟨_, _, _, _, Tryz.underlying103, rfl, Tryz.underlying3, c3, by decide, rfl⟩
theorem fa110_0 : FA Tryz.prog 110 0 0 := ⟨_, _, _, _, Tryz.underlying110, rfl, Tryz.underlying9, c9, by decide, rfl⟩
theorem fa110_1 : FA Tryz.prog 110 1 1 := ⟨_, _, _, _, Tryz.underlying110, rfl, Tryz.underlying108, c108, by decide, rfl⟩
theorem fa113_0 : FA Tryz.prog 113 0 0 := ⟨_, _, _, _, Tryz.underlying113, rfl, Tryz.underlying59, c59, by decide, rfl⟩
theorem fa113_1 : FA Tryz.prog 113 1 6 := ⟨_, _, _, _, Tryz.underlying113, rfl, Tryz.underlying3, c3, by decide, rfl⟩
theorem fa113_2 : FA Tryz.prog 113 2 7 := ⟨_, _, _, _, Tryz.underlying113, rfl, Tryz.underlying4, c4, by decide, rfl⟩
theorem fa125_0 : FA Tryz.prog 125 0 0 := ⟨_, _, _, _, Tryz.underlying125, rfl, Tryz.underlying3, c3, by decide, rfl⟩
theorem fa125_1 : FA Tryz.prog 125 1 1 := ⟨_, _, _, _, Tryz.underlying125, rfl, Tryz.underlying9, c9, by decide, rfl⟩
theorem fa24_0 : FA Tryz.prog 24 0 0 := ⟨_, _, _, _, Tryz.underlying24, rfl, Tryz.underlying3, c3, by decide, rfl⟩
theorem fa24_1 : FA Tryz.prog 24 1 1 := ⟨_, _, _, _, Tryz.underlying24, rfl, Tryz.underlying9, c9, by decide, rfl⟩
theorem fa24_10 : FA Tryz.prog 24 10 10 := ⟨_, _, _, _, Tryz.underlying24, rfl, Tryz.underlying3, c3, by decide, rfl⟩
theorem fa24_2 : FA Tryz.prog 24 2 2 := ⟨_, _, _, _, Tryz.underlying24, rfl, Tryz.underlying9, c9, by decide, rfl⟩
theorem fa24_3 : FA Tryz.prog 24 3 3 := ⟨_, _, _, _, Tryz.underlying24, rfl, Tryz.underlying9, c9, by decide, rfl⟩
theorem fa24_4 : FA Tryz.prog 24 4 4 := ⟨_, _, _, _, Tryz.underlying24, rfl, Tryz.underlying9, c9, by decide, rfl⟩
theorem fa24_5 : FA Tryz.prog 24 5 5 := ⟨_, _, _, _, Tryz.underlying24, rfl, Tryz.underlying4, c4, by decide, rfl⟩
theorem fa24_6 : FA Tryz.prog 24 6 6 := ⟨_, _, _, _, Tryz.underlying24, rfl, Tryz.underlying4, c4, by decide, rfl⟩
theorem fa24_7 : FA Tryz.prog 24 7 7 := ⟨_, _, _, _, Tryz.underlying24, rfl, Tryz.underlying3, c3, by decide, rfl⟩
theorem fa24_8 : FA Tryz.prog 24 8 8 := ⟨_, _, _, _, Tryz.underlying24, rfl, Tryz.underlying3, c3, by decide, rfl⟩
theorem fa24_9 : FA Tryz.prog 24 9 9 := ⟨_, _, _, _, Tryz.underlying24, rfl, Tryz.underlying3, c3, by decide, rfl⟩
theorem fa28_0 : FA Tryz.prog 28 0 0 := ⟨_, _, _, _, Tryz.underlying28, rfl, Tryz.underlying26, c26, by decide, rfl⟩
theorem fa59_0 : FA Tryz.prog 59 0 0 := ⟨_, _, _, _, Tryz.underlying59, rfl, Tryz.underlying9, c9, by decide, rfl⟩
theorem fa59_1 : FA Tryz.prog 59 1 1 := ⟨_, _, _, _, Tryz.underlying59, rfl, Tryz.underlying9, c9, by decide, rfl⟩
theorem fa59_2 : FA Tryz.prog 59 2 2 := ⟨_, _, _, _, Tryz.underlying59, rfl, Tryz.underlying35, c35, by decide, rfl⟩
theorem fa59_3 : FA Tryz.prog 59 3 3 := ⟨_, _, _, _, Tryz.underlying59, rfl, Tryz.underlying9, c9, by decide, rfl⟩
theorem fa59_4 : FA Tryz.prog 59 4 4 := ⟨_, _, _, _, Tryz.underlying59, rfl, Tryz.underlying9, c9, by decide, rfl⟩
theorem fa59_5 : FA Tryz.prog 59 5 5 := ⟨_, _, _, _, Tryz.underlying59, rfl, Tryz.underlying3, c3, by decide, rfl⟩
theorem fa74_0 : FA Tryz.prog 74 0 0 := ⟨_, _, _, _, Tryz.underlying74, rfl, Tryz.underlying9, c9, by decide, rfl⟩
theorem fa74_1 : FA Tryz.prog 74 1 1 := ⟨_, _, _, _, Tryz.underlying74, rfl, Tryz.underlying54, c54, by decide, rfl⟩
theorem fa81_0 : FA Tryz.prog 81 0 0 := ⟨_, _, _, _, Tryz.underlying81, rfl, Tryz.underlying79, c79, by decide, rfl⟩
theorem sc101 : SC Tryz.prog 101 := ⟨_, Tryz.underlying101, rfl⟩
theorem sc108 : SC Tryz.prog 108 := ⟨_, Tryz.underlying108, rfl⟩
theorem sc120 : SC Tryz.prog 120 := ⟨_, Tryz.underlying120, rfl⟩
theorem sc25 : SC Tryz.prog 25 := ⟨_, Tryz.underlying25, rfl⟩
theorem sc26 : SC Tryz.prog 26 := ⟨_, Tryz.underlying26, rfl⟩
theorem sc3 : SC Tryz.prog 3 := ⟨_, Tryz.underlying3, rfl⟩
theorem sc35 : SC Tryz.prog 35 := ⟨_, Tryz.underlying35, rfl⟩
theorem sc4 : SC Tryz.prog 4 := ⟨_, Tryz.underlying4, rfl⟩
theorem sc54 : SC Tryz.prog 54 := ⟨_, Tryz.underlying54, rfl⟩
theorem sc62 : SC Tryz.prog 62 := ⟨_, Tryz.underlying62, rfl⟩
theorem sc79 : SC Tryz.prog 79 := ⟨_, Tryz.underlying79, rfl⟩
theorem sc82 : SC Tryz.prog 82 := ⟨_, Tryz.underlying82, rfl⟩
theorem sc9 : SC Tryz.prog 9 := ⟨_, Tryz.underlying9, rfl⟩
theorem sg24 : SG Tryz.prog 24 11 := ⟨_, Tryz.underlying24, rfl, c24⟩
theorem sg28 : SG Tryz.prog 28 1 := ⟨_, Tryz.underlying28, rfl, c28⟩
theorem sg59 : SG Tryz.prog 59 6 := ⟨_, Tryz.underlying59, rfl, c59⟩
theorem sg74 : SG Tryz.prog 74 2 := ⟨_, Tryz.underlying74, rfl, c74⟩
theorem sz120 : SZ Tryz.prog 120 1 := ⟨_, Tryz.underlying120, c120⟩
theorem sz125 : SZ Tryz.prog 125 2 := ⟨_, Tryz.underlying125, c125⟩
theorem sz24 : SZ Tryz.prog 24 11 := ⟨_, Tryz.underlying24, c24⟩
theorem sz28 : SZ Tryz.prog 28 1 := ⟨_, Tryz.underlying28, c28⟩
theorem sz3 : SZ Tryz.prog 3 1 := ⟨_, Tryz.underlying3, c3⟩
theorem sz35 : SZ Tryz.prog 35 1 := ⟨_, Tryz.underlying35, c35⟩
theorem sz4 : SZ Tryz.prog 4 1 := ⟨_, Tryz.underlying4, c4⟩
theorem sz59 : SZ Tryz.prog 59 6 := ⟨_, Tryz.underlying59, c59⟩
theorem sz74 : SZ Tryz.prog 74 2 := ⟨_, Tryz.underlying74, c74⟩
theorem sz9 : SZ Tryz.prog 9 1 := ⟨_, Tryz.underlying9, c9⟩
theorem pl110 : plcT Tryz.prog 110 = true := by kernel_rfl
theorem pl113 : plcT Tryz.prog 113 = true := by kernel_rfl
theorem pl125 : plcT Tryz.prog 125 = true := by kernel_rfl
theorem pl24 : plcT Tryz.prog 24 = true := by kernel_rfl
theorem pl28 : plcT Tryz.prog 28 = true := by kernel_rfl
theorem pl59 : plcT Tryz.prog 59 = true := by kernel_rfl
theorem pl74 : plcT Tryz.prog 74 = true := by kernel_rfl
theorem pl81 : plcT Tryz.prog 81 = true := by kernel_rfl
theorem st24 : Tryz.prog.stoodInHeld 24 = false := by kernel_rfl
theorem xf152 : (Extern.findNext Tryz.f152).isNone = true := by kernel_rfl
theorem xg152 : Extern.find Tryz.f152 = some Extern.BytealgIndexByte.indexByte := by rfl
theorem z110 : zer Tryz.prog 110 = some (.agg #[.string ⟨#[]⟩, .map none]) := by kernel_rfl
theorem z111 : zer Tryz.prog 111 = some (.pointer none) := by kernel_rfl
theorem z113 : zer Tryz.prog 113 = some (.agg #[.string ⟨#[]⟩, .string ⟨#[]⟩, .slice none 0 0, .string ⟨#[]⟩, .string ⟨#[]⟩, .int .i64 0, .int .i64 0, .bool false]) := by kernel_rfl
theorem z120 : zer Tryz.prog 120 = some .nilFunc := by kernel_rfl
theorem z125 : zer Tryz.prog 125 = some (.agg #[.int .i64 0, .string ⟨#[]⟩]) := by kernel_rfl
theorem z137 : zer Tryz.prog 137 = some (.agg #[.nilFunc, .nilFunc, .nilFunc]) := by kernel_rfl
theorem z24 : zer Tryz.prog 24 = some (.agg #[.int .i64 0, .string ⟨#[]⟩, .string ⟨#[]⟩, .string ⟨#[]⟩, .string ⟨#[]⟩, .bool false, .bool false, .int .i64 0, .int .i64 0, .int .i64 0, .int .i64 0]) := by kernel_rfl
theorem z28 : zer Tryz.prog 28 = some (.agg #[.slice none 0 0]) := by kernel_rfl
theorem z3 : zer Tryz.prog 3 = some (.int .i64 0) := by kernel_rfl
theorem z5 : zer Tryz.prog 5 = some (.int .u8 0) := by kernel_rfl
theorem z59 : zer Tryz.prog 59 = some (.agg #[.string ⟨#[]⟩, .string ⟨#[]⟩, .slice none 0 0, .string ⟨#[]⟩, .string ⟨#[]⟩, .int .i64 0]) := by kernel_rfl
theorem z62 : zer Tryz.prog 62 = some .nilFunc := by kernel_rfl
theorem z74 : zer Tryz.prog 74 = some (.agg #[.string ⟨#[]⟩, .slice none 0 0]) := by kernel_rfl
theorem z81 : zer Tryz.prog 81 = some (.agg #[.map none]) := by kernel_rfl
theorem z82 : zer Tryz.prog 82 = some (.pointer none) := by kernel_rfl
theorem z9 : zer Tryz.prog 9 = some (.string ⟨#[]⟩) := by kernel_rfl
theorem zc120 : ZC Tryz.prog 120 [eq .nilFunc] := ⟨_, z120, rfl⟩
theorem zc125 : ZC Tryz.prog 125 [eq (.int .i64 0), eq (.string (⟨#[]⟩ : ByteArray))] := ⟨_, z125, rfl⟩
theorem zc24 : ZC Tryz.prog 24 [eq (.int .i64 0), eq (.string (⟨#[]⟩ : ByteArray)), eq (.string (⟨#[]⟩ : ByteArray)), eq (.string (⟨#[]⟩ : ByteArray)), eq (.string (⟨#[]⟩ : ByteArray)), eq (.bool false), eq (.bool false), eq (.int .i64 0), eq (.int .i64 0), eq (.int .i64 0), eq (.int .i64 0)] := ⟨_, z24, rfl⟩
theorem zc28 : ZC Tryz.prog 28 [eq (.slice none 0 0)] := ⟨_, z28, rfl⟩
theorem zc59 : ZC Tryz.prog 59 [eq (.string (⟨#[]⟩ : ByteArray)), eq (.string (⟨#[]⟩ : ByteArray)), eq (.slice none 0 0), eq (.string (⟨#[]⟩ : ByteArray)), eq (.string (⟨#[]⟩ : ByteArray)), eq (.int .i64 0)] := ⟨_, z59, rfl⟩
theorem zc74 : ZC Tryz.prog 74 [eq (.string (⟨#[]⟩ : ByteArray)), eq (.slice none 0 0)] := ⟨_, z74, rfl⟩
structure Event where
  fID : ByteArray
  fRoom : ByteArray
  fParents : List ByteArray
  fThread : ByteArray
  fUser : ByteArray
  fDoes : Int
  deriving DecidableEq, Inhabited
abbrev Event.enc (x : Event) : Cs := [eq (.string x.fID), eq (.string x.fRoom), sl strK x.fParents, eq (.string x.fThread), eq (.string x.fUser), eq (.int .i64 x.fDoes)]
abbrev Event.K : Kd Event := ⟨6, default, Event.enc, fun _ => rfl, fun _ => (ones_cons (one_eq rfl) (ones_cons (one_eq rfl) (ones_cons one_sl (ones_cons (one_eq rfl) (ones_cons (one_eq rfl) (ones_cons (one_eq rfl) ones_nil))))))⟩
structure RDag where
  fRoom : ByteArray
  fL : List Event
  deriving DecidableEq, Inhabited
abbrev RDag.enc (x : RDag) : Cs := [eq (.string x.fRoom), sl Event.K x.fL]
abbrev RDag.K : Kd RDag := ⟨2, default, RDag.enc, fun _ => rfl, fun _ => (ones_cons (one_eq rfl) (ones_cons one_sl ones_nil))⟩
structure GMade where
  fUser : Int
  fDoes : Int
  fParents : List Int
  fThread : Int
  deriving DecidableEq, Inhabited
abbrev GMade.enc (x : GMade) : Cs := [eq (.int .i64 x.fUser), eq (.int .i64 x.fDoes), sl (intK .i64) x.fParents, eq (.int .i64 x.fThread)]
abbrev GMade.K : Kd GMade := ⟨4, default, GMade.enc, fun _ => rfl, fun _ => (ones_cons (one_eq rfl) (ones_cons (one_eq rfl) (ones_cons one_sl (ones_cons (one_eq rfl) ones_nil))))⟩
structure DNode where
  fe : Event
  fdepth : Int
  fparent : Bool
  deriving DecidableEq, Inhabited
abbrev DNode.enc (x : DNode) : Cs := [eq (.string x.fe.fID), eq (.string x.fe.fRoom), sl strK x.fe.fParents, eq (.string x.fe.fThread), eq (.string x.fe.fUser), eq (.int .i64 x.fe.fDoes), eq (.int .i64 x.fdepth), eq (.bool x.fparent)]
abbrev DNode.K : Kd DNode := ⟨8, default, DNode.enc, fun _ => rfl, fun _ => (ones_cons (one_eq rfl) (ones_cons (one_eq rfl) (ones_cons one_sl (ones_cons (one_eq rfl) (ones_cons (one_eq rfl) (ones_cons (one_eq rfl) (ones_cons (one_eq rfl) (ones_cons (one_eq rfl) ones_nil))))))))⟩
structure DDag where
  froom : ByteArray
  fnodes : List (ByteArray × DNode)
  deriving DecidableEq, Inhabited
structure VView where
  fdags : List (ByteArray × DDag)
  deriving DecidableEq, Inhabited
structure RView where
  fD : List RDag
  deriving DecidableEq, Inhabited
abbrev RView.enc (x : RView) : Cs := [sl RDag.K x.fD]
abbrev RView.K : Kd RView := ⟨1, default, RView.enc, fun _ => rfl, fun _ => (ones_cons one_sl ones_nil)⟩
structure Edu where
  fKind : Int
  fRoom : ByteArray
  fUser : ByteArray
  fEvent : ByteArray
  fThread : ByteArray
  fPrivate : Bool
  fOn : Bool
  fSpan : Int
  fState : Int
  fTick : Int
  fStamp : Int
  deriving DecidableEq, Inhabited
abbrev Edu.enc (x : Edu) : Cs := [eq (.int .i64 x.fKind), eq (.string x.fRoom), eq (.string x.fUser), eq (.string x.fEvent), eq (.string x.fThread), eq (.bool x.fPrivate), eq (.bool x.fOn), eq (.int .i64 x.fSpan), eq (.int .i64 x.fState), eq (.int .i64 x.fTick), eq (.int .i64 x.fStamp)]
abbrev Edu.K : Kd Edu := ⟨11, default, Edu.enc, fun _ => rfl, fun _ => (ones_cons (one_eq rfl) (ones_cons (one_eq rfl) (ones_cons (one_eq rfl) (ones_cons (one_eq rfl) (ones_cons (one_eq rfl) (ones_cons (one_eq rfl) (ones_cons (one_eq rfl) (ones_cons (one_eq rfl) (ones_cons (one_eq rfl) (ones_cons (one_eq rfl) (ones_cons (one_eq rfl) ones_nil)))))))))))⟩
structure Pos where
  fDepth : Int
  fID : ByteArray
  deriving DecidableEq, Inhabited
abbrev Pos.enc (x : Pos) : Cs := [eq (.int .i64 x.fDepth), eq (.string x.fID)]
abbrev Pos.K : Kd Pos := ⟨2, default, Pos.enc, fun _ => rfl, fun _ => (ones_cons (one_eq rfl) (ones_cons (one_eq rfl) ones_nil))⟩
theorem eqt24 (x y : Edu) {d : Nat} {w : World} : (Op.equalIn (d + 2) 24 (.agg [.int .i64 x.fKind, .string x.fRoom, .string x.fUser, .string x.fEvent, .string x.fThread, .bool x.fPrivate, .bool x.fOn, .int .i64 x.fSpan, .int .i64 x.fState, .int .i64 x.fTick, .int .i64 x.fStamp].toArray) (.agg [.int .i64 y.fKind, .string y.fRoom, .string y.fUser, .string y.fEvent, .string y.fThread, .bool y.fPrivate, .bool y.fOn, .int .i64 y.fSpan, .int .i64 y.fState, .int .i64 y.fTick, .int .i64 y.fStamp].toArray)).run Tryz.prog w = .ok (decide (x = y)) w := by
  have e : decide (x = y) = ((decide (x.fKind = y.fKind) && (decide (x.fRoom = y.fRoom) && (decide (x.fUser = y.fUser) && (decide (x.fEvent = y.fEvent) && (decide (x.fThread = y.fThread) && (decide (x.fPrivate = y.fPrivate) && (decide (x.fOn = y.fOn) && (decide (x.fSpan = y.fSpan) && (decide (x.fState = y.fState) && (decide (x.fTick = y.fTick) && (decide (x.fStamp = y.fStamp) && true)))))))))))) := by cases x; cases y; rw [Bool.eq_iff_iff]; simp
  rw [e]
  exact eq_struct Tryz.underlying24 st24 (eqF_cons (by decide) (run_part1 Tryz.underlying3 rfl rfl) (run_part1 Tryz.underlying3 rfl rfl) (eq_int Tryz.underlying3) (eqF_cons (by decide) (run_part1 Tryz.underlying9 rfl rfl) (run_part1 Tryz.underlying9 rfl rfl) (eq_str Tryz.underlying9) (eqF_cons (by decide) (run_part1 Tryz.underlying9 rfl rfl) (run_part1 Tryz.underlying9 rfl rfl) (eq_str Tryz.underlying9) (eqF_cons (by decide) (run_part1 Tryz.underlying9 rfl rfl) (run_part1 Tryz.underlying9 rfl rfl) (eq_str Tryz.underlying9) (eqF_cons (by decide) (run_part1 Tryz.underlying9 rfl rfl) (run_part1 Tryz.underlying9 rfl rfl) (eq_str Tryz.underlying9) (eqF_cons (by decide) (run_part1 Tryz.underlying4 rfl rfl) (run_part1 Tryz.underlying4 rfl rfl) (eq_bool Tryz.underlying4) (eqF_cons (by decide) (run_part1 Tryz.underlying4 rfl rfl) (run_part1 Tryz.underlying4 rfl rfl) (eq_bool Tryz.underlying4) (eqF_cons (by decide) (run_part1 Tryz.underlying3 rfl rfl) (run_part1 Tryz.underlying3 rfl rfl) (eq_int Tryz.underlying3) (eqF_cons (by decide) (run_part1 Tryz.underlying3 rfl rfl) (run_part1 Tryz.underlying3 rfl rfl) (eq_int Tryz.underlying3) (eqF_cons (by decide) (run_part1 Tryz.underlying3 rfl rfl) (run_part1 Tryz.underlying3 rfl rfl) (eq_int Tryz.underlying3) (eqF_cons (by decide) (run_part1 Tryz.underlying3 rfl rfl) (run_part1 Tryz.underlying3 rfl rfl) (eq_int Tryz.underlying3) eqF_nil)))))))))))
def DNode.O (p : OV) (m : DNode) : As := exA (γ := Nat) (fun g => p.1 = .pointer (some ⟨g, 0, none⟩)) (fun g => [blk g 113 [eq (.string m.fe.fID), eq (.string m.fe.fRoom), sl strK m.fe.fParents, eq (.string m.fe.fThread), eq (.string m.fe.fUser), eq (.int .i64 m.fe.fDoes), eq (.int .i64 m.fdepth), eq (.bool m.fparent)]])
theorem DNode.nn {p : OV} {m : DNode} : NN (DNode.O p m) p.1 := by unfold DNode.O; exact nn_ex (γ := Nat) (b := fun g => g)
theorem DNode.opn {l : List As} {p : OV} {m : DNode} (j : Nat) (hj : l[j]? = some (DNode.O p m)) : ∀ R w, St R l w → ∃ g : Nat, p.1 = .pointer (some ⟨g, 0, none⟩) ∧ St R ([blk g 113 [eq (.string m.fe.fID), eq (.string m.fe.fRoom), sl strK m.fe.fParents, eq (.string m.fe.fThread), eq (.string m.fe.fUser), eq (.int .i64 m.fe.fDoes), eq (.int .i64 m.fdepth), eq (.bool m.fparent)]] ++ l.eraseIdx j) w := st_open j hj
theorem DNode.shut {l r : List As} {p : OV} {m : DNode} (g : Nat) (hg : p.1 = .pointer (some ⟨g, 0, none⟩)) (hp : l.Perm ([blk g 113 [eq (.string m.fe.fID), eq (.string m.fe.fRoom), sl strK m.fe.fParents, eq (.string m.fe.fThread), eq (.string m.fe.fUser), eq (.int .i64 m.fe.fDoes), eq (.int .i64 m.fdepth), eq (.bool m.fparent)]] ++ r)) : ∀ R w, St R l w → ∃ _ : Unit, True ∧ St R (DNode.O p m :: r) w := st_shut _ _ g hg hp
def DDag.O (p : OV) (m : DDag) : As := exA (γ := Nat × OV) (fun g => p.1 = .pointer (some ⟨g.1, 0, none⟩)) (fun g => [blk g.1 110 [eq (.string m.froom), eq g.2.1], mpo Value.string DNode.O g.2.1 m.fnodes])
theorem DDag.nn {p : OV} {m : DDag} : NN (DDag.O p m) p.1 := by unfold DDag.O; exact nn_ex (γ := Nat × OV) (b := fun g => g.1)
theorem DDag.opn {l : List As} {p : OV} {m : DDag} (j : Nat) (hj : l[j]? = some (DDag.O p m)) : ∀ R w, St R l w → ∃ g : Nat × OV, p.1 = .pointer (some ⟨g.1, 0, none⟩) ∧ St R ([blk g.1 110 [eq (.string m.froom), eq g.2.1], mpo Value.string DNode.O g.2.1 m.fnodes] ++ l.eraseIdx j) w := st_open j hj
theorem DDag.shut {l r : List As} {p : OV} {m : DDag} (g : Nat × OV) (hg : p.1 = .pointer (some ⟨g.1, 0, none⟩)) (hp : l.Perm ([blk g.1 110 [eq (.string m.froom), eq g.2.1], mpo Value.string DNode.O g.2.1 m.fnodes] ++ r)) : ∀ R w, St R l w → ∃ _ : Unit, True ∧ St R (DDag.O p m :: r) w := st_shut _ _ g hg hp
def VView.O (p : OV) (m : VView) : As := exA (γ := Nat × OV) (fun g => p.1 = .pointer (some ⟨g.1, 0, none⟩)) (fun g => [blk g.1 81 [eq g.2.1], mpo Value.string DDag.O g.2.1 m.fdags])
theorem VView.nn {p : OV} {m : VView} : NN (VView.O p m) p.1 := by unfold VView.O; exact nn_ex (γ := Nat × OV) (b := fun g => g.1)
theorem VView.opn {l : List As} {p : OV} {m : VView} (j : Nat) (hj : l[j]? = some (VView.O p m)) : ∀ R w, St R l w → ∃ g : Nat × OV, p.1 = .pointer (some ⟨g.1, 0, none⟩) ∧ St R ([blk g.1 81 [eq g.2.1], mpo Value.string DDag.O g.2.1 m.fdags] ++ l.eraseIdx j) w := st_open j hj
theorem VView.shut {l r : List As} {p : OV} {m : VView} (g : Nat × OV) (hg : p.1 = .pointer (some ⟨g.1, 0, none⟩)) (hp : l.Perm ([blk g.1 81 [eq g.2.1], mpo Value.string DDag.O g.2.1 m.fdags] ++ r)) : ∀ R w, St R l w → ∃ _ : Unit, True ∧ St R (VView.O p m :: r) w := st_shut _ _ g hg hp
def fqQ_string_bool (g : ByteArray → Option Bool) : List VP → VP → Prop := fun vs ret => ∃ a0 r, g a0 = some r ∧ vs = [eq (.string a0)] ∧ ret = eq (.bool r)
def fq_string_bool (g : ByteArray → Option Bool) : VP := fnq Tryz.prog (fqQ_string_bool g)
def fx_string_bool (X : As) (g : ByteArray → Option Bool) : VP := fnx Tryz.prog X (fqQ_string_bool g)
def fK_string_bool : Kd (ByteArray → Option Bool) := ⟨1, fun _ => none, fun g => [fq_string_bool g], fun _ => rfl, fun _ p h R v hv => by simp at h; subst h; exact one_fnq R v hv⟩
def fqQ_uint8_bool (g : Int → Option Bool) : List VP → VP → Prop := fun vs ret => ∃ a0 r, g a0 = some r ∧ vs = [eq (.int .u8 a0)] ∧ ret = eq (.bool r)
def fq_uint8_bool (g : Int → Option Bool) : VP := fnq Tryz.prog (fqQ_uint8_bool g)
def fx_uint8_bool (X : As) (g : Int → Option Bool) : VP := fnx Tryz.prog X (fqQ_uint8_bool g)
def fK_uint8_bool : Kd (Int → Option Bool) := ⟨1, fun _ => none, fun g => [fq_uint8_bool g], fun _ => rfl, fun _ p h R v hv => by simp at h; subst h; exact one_fnq R v hv⟩
def fqQ_int_int_int_bool (g : Int → Int → Int → Option Bool) : List VP → VP → Prop := fun vs ret => ∃ a0 a1 a2 r, g a0 a1 a2 = some r ∧ vs = [eq (.int .i64 a0), eq (.int .i64 a1), eq (.int .i64 a2)] ∧ ret = eq (.bool r)
def fq_int_int_int_bool (g : Int → Int → Int → Option Bool) : VP := fnq Tryz.prog (fqQ_int_int_int_bool g)
def fx_int_int_int_bool (X : As) (g : Int → Int → Int → Option Bool) : VP := fnx Tryz.prog X (fqQ_int_int_int_bool g)
def fK_int_int_int_bool : Kd (Int → Int → Int → Option Bool) := ⟨1, fun _ _ _ => none, fun g => [fq_int_int_int_bool g], fun _ => rfl, fun _ p h R v hv => by simp at h; subst h; exact one_fnq R v hv⟩
def fqQ_api_Edu_bool (g : Edu → Option Bool) : List VP → VP → Prop := fun vs ret => ∃ a0 r, g a0 = some r ∧ vs = [agg (Edu.enc a0)] ∧ ret = eq (.bool r)
def fq_api_Edu_bool (g : Edu → Option Bool) : VP := fnq Tryz.prog (fqQ_api_Edu_bool g)
def fx_api_Edu_bool (X : As) (g : Edu → Option Bool) : VP := fnx Tryz.prog X (fqQ_api_Edu_bool g)
def fK_api_Edu_bool : Kd (Edu → Option Bool) := ⟨1, fun _ => none, fun g => [fq_api_Edu_bool g], fun _ => rfl, fun _ p h R v hv => by simp at h; subst h; exact one_fnq R v hv⟩
/-! concourse/concourseref01.Around: function 36 -/
def concourseref01_Around.f (a0 : Int) (a1 : Int) : Option (Int) := cond (decide (a0 < 0)) (grd (a1 ≠ 0) (some ((w64 (0 - (w64 (a0 + 1)))).tmod a1))) (grd (a1 ≠ 0) (some (a0.tmod a1)))
/-! concourse/concourseref01.RoomOf: function 57 -/
def concourseref01_RoomOf.f (a0 : Int) : Option (ByteArray) := (concourseref01_Around.f a0 2).bind fun t4 => grd ((0 : Int) ≤ t4 ∧ t4 < (([(⟨#[33, 114, 58, 115, 49]⟩ : ByteArray), (⟨#[33, 113, 58, 115, 50]⟩ : ByteArray)] : List ByteArray).length : Int)) (some (strK.at ([(⟨#[33, 114, 58, 115, 49]⟩ : ByteArray), (⟨#[33, 113, 58, 115, 50]⟩ : ByteArray)] : List ByteArray) t4))
/-! concourse/concourseref01.ServerOf: function 11 -/
def concourseref01_ServerOf.f (a0 : Int) : Option (ByteArray) := (concourseref01_Around.f a0 3).bind fun t7 => grd ((0 : Int) ≤ t7 ∧ t7 < (([(⟨#[115, 49]⟩ : ByteArray), (⟨#[115, 50]⟩ : ByteArray), (⟨#[115, 51]⟩ : ByteArray)] : List ByteArray).length : Int)) (some (strK.at ([(⟨#[115, 49]⟩ : ByteArray), (⟨#[115, 50]⟩ : ByteArray), (⟨#[115, 51]⟩ : ByteArray)] : List ByteArray) t7))
/-! concourse/concourseref01.UserOf: function 24 -/
def concourseref01_UserOf.f (a0 : Int) : Option (ByteArray) := (concourseref01_Around.f a0 9).bind fun t10 => grd ((0 : Int) ≤ (w64 (t10.tdiv 3)) ∧ (w64 (t10.tdiv 3)) < (([(⟨#[64, 97, 58]⟩ : ByteArray), (⟨#[64, 98, 58]⟩ : ByteArray), (⟨#[64, 99, 58]⟩ : ByteArray)] : List ByteArray).length : Int)) ((concourseref01_ServerOf.f (t10.tmod 3)).bind fun t13 => grd ((strK.at ([(⟨#[64, 97, 58]⟩ : ByteArray), (⟨#[64, 98, 58]⟩ : ByteArray), (⟨#[64, 99, 58]⟩ : ByteArray)] : List ByteArray) (w64 (t10.tdiv 3))).size + t13.size ≤ 9223372036854775807) (some ((strK.at ([(⟨#[64, 97, 58]⟩ : ByteArray), (⟨#[64, 98, 58]⟩ : ByteArray), (⟨#[64, 99, 58]⟩ : ByteArray)] : List ByteArray) (w64 (t10.tdiv 3))) ++ t13)))
/-! concourse/concourseref01.Decimal: function 88 -/
def concourseref01_Decimal.f : Nat → Int → Option (ByteArray)
  | 0, _ => none
  | k + 1, a0 => (cond (decide ((a0.tmod 10) < 0)) (some (w64 (0 - (a0.tmod 10)))) (some (a0.tmod 10))).bind fun (p16 : Int) => cond (decide ((-10) < a0)) (cond (decide (a0 < 10)) (cond (decide (a0 < 0)) (grd ((⟨#[45]⟩ : ByteArray).size + (ofNums ([IntKind.u8.wrap (w64 (48 + p16))] : List Int)).size ≤ 9223372036854775807) (some ((⟨#[45]⟩ : ByteArray) ++ (ofNums ([IntKind.u8.wrap (w64 (48 + p16))] : List Int))))) (some (ofNums ([IntKind.u8.wrap (w64 (48 + p16))] : List Int)))) ((concourseref01_Decimal.f k (w64 (a0.tdiv 10))).bind fun t21 => grd (t21.size + (ofNums ([IntKind.u8.wrap (w64 (48 + p16))] : List Int)).size ≤ 9223372036854775807) (some (t21 ++ (ofNums ([IntKind.u8.wrap (w64 (48 + p16))] : List Int)))))) ((concourseref01_Decimal.f k (w64 (a0.tdiv 10))).bind fun t25 => grd (t25.size + (ofNums ([IntKind.u8.wrap (w64 (48 + p16))] : List Int)).size ≤ 9223372036854775807) (some (t25 ++ (ofNums ([IntKind.u8.wrap (w64 (48 + p16))] : List Int)))))
/-! concourse/concourseref01.EventOf: function 58 -/
def concourseref01_EventOf.f (k : Nat) (a0 : Int) : Option (ByteArray) := (concourseref01_Around.f a0 9).bind fun t29 => (concourseref01_Decimal.f k t29).bind fun t31 => grd ((⟨#[36, 101]⟩ : ByteArray).size + t31.size ≤ 9223372036854775807) (some ((⟨#[36, 101]⟩ : ByteArray) ++ t31))
/-! concourse/concourseref01.colon: function 63 -/
def concourseref01_colon.l0 (k : Nat) (a0 : ByteArray) : Nat → Int → Option ((Int × Bool) ⊕ (Int))
  | 0, _ => none
  | j39 + 1, x35 => cond (decide (x35 < (a0.size : Int))) (grd ((0 : Int) ≤ x35 ∧ x35 < (a0.size : Int)) (cond ((bt a0 x35) == 58) (some (.inr x35)) (concourseref01_colon.l0 k a0 j39 (w64 (x35 + 1))))) (some (.inl (x35, decide (x35 < (a0.size : Int)))))
def concourseref01_colon.f (k : Nat) (a0 : ByteArray) : Option (Int) := (concourseref01_colon.l0 k a0 k 0).bind (fall fun (p34 : Int × Bool) => some (-1))
/-! concourse/concourseref01.low: function 113 -/
def concourseref01_low.f (a0 : Int) : Option (Bool) := cond (decide (97 ≤ a0)) (cond (decide (a0 ≤ 122)) (some true) (cond (decide (48 ≤ a0)) (some (decide (a0 ≤ 57))) (some false))) (cond (decide (48 ≤ a0)) (some (decide (a0 ≤ 57))) (some false))
/-! concourse/concourseref01.Part: function 90 -/
def concourseref01_Part.l0 (k : Nat) (a0 : ByteArray) : Nat → Int → Option ((Int × Bool) ⊕ (Bool))
  | 0, _ => none
  | j62 + 1, x47 => cond (decide (x47 < (a0.size : Int))) (grd ((0 : Int) ≤ x47 ∧ x47 < (a0.size : Int)) ((concourseref01_low.f (bt a0 x47)).bind fun t50 => cond (!t50) (grd ((0 : Int) ≤ x47 ∧ x47 < (a0.size : Int)) (cond ((bt a0 x47) != 46) (grd ((0 : Int) ≤ x47 ∧ x47 < (a0.size : Int)) (cond ((bt a0 x47) != 45) (grd ((0 : Int) ≤ x47 ∧ x47 < (a0.size : Int)) (cond ((bt a0 x47) != 95) (some (.inr false)) (concourseref01_Part.l0 k a0 j62 (w64 (x47 + 1))))) (concourseref01_Part.l0 k a0 j62 (w64 (x47 + 1))))) (concourseref01_Part.l0 k a0 j62 (w64 (x47 + 1))))) (concourseref01_Part.l0 k a0 j62 (w64 (x47 + 1))))) (some (.inl (x47, decide (x47 < (a0.size : Int)))))
def concourseref01_Part.f (k : Nat) (a0 : ByteArray) : Option (Bool) := (concourseref01_Part.l0 k a0 k 0).bind (fall fun (p45 : Int × Bool) => cond (decide (0 < (a0.size : Int))) (some (decide ((a0.size : Int) < 17))) (some false))
/-! concourse/concourseref01.Server: function 91 -/
def concourseref01_Server.l0 (k : Nat) (a0 : ByteArray) : Nat → Int → Option ((Int × Bool) ⊕ (Bool))
  | 0, _ => none
  | j88 + 1, x66 => cond (decide (x66 < (a0.size : Int))) (grd ((0 : Int) ≤ x66 ∧ x66 < (a0.size : Int)) ((concourseref01_low.f (bt a0 x66)).bind fun t69 => cond (decide (0 < x66)) (cond (decide (x66 < (w64 ((a0.size : Int) - 1)))) (grd ((0 : Int) ≤ x66 ∧ x66 < (a0.size : Int)) (cond ((bt a0 x66) == 46) (cond (!t69) (concourseref01_Server.l0 k a0 j88 (w64 (x66 + 1))) (concourseref01_Server.l0 k a0 j88 (w64 (x66 + 1)))) (grd ((0 : Int) ≤ x66 ∧ x66 < (a0.size : Int)) (cond (!t69) (cond (!((bt a0 x66) == 45)) (some (.inr false)) (concourseref01_Server.l0 k a0 j88 (w64 (x66 + 1)))) (concourseref01_Server.l0 k a0 j88 (w64 (x66 + 1))))))) (cond (!t69) (some (.inr false)) (concourseref01_Server.l0 k a0 j88 (w64 (x66 + 1))))) (cond (!t69) (some (.inr false)) (concourseref01_Server.l0 k a0 j88 (w64 (x66 + 1)))))) (some (.inl (x66, decide (x66 < (a0.size : Int)))))
def concourseref01_Server.f (k : Nat) (a0 : ByteArray) : Option (Bool) := (concourseref01_Server.l0 k a0 k 0).bind (fall fun (p64 : Int × Bool) => cond (decide (0 < (a0.size : Int))) (some (decide ((a0.size : Int) < 17))) (some false))
/-! concourse/concourseref01.Named: function 62 -/
def concourseref01_Named.f (k : Nat) (a0 : ByteArray) (a1 : Int) : Option (Bool) := (concourseref01_colon.f k a0).bind fun t90 => cond (decide (t90 < 1)) (some false) (grd ((0 : Int) ≤ 0 ∧ 0 < (a0.size : Int)) (cond ((bt a0 0) != a1) (some false) (grd ((0 : Int) ≤ 1 ∧ (0 : Int) ≤ t90 ∧ (1 : Int).toNat ≤ t90.toNat ∧ t90.toNat ≤ a0.size) ((concourseref01_Part.f k (a0.extract (1 : Int).toNat t90.toNat)).bind fun t97 => grd ((0 : Int) ≤ (w64 (t90 + 1)) ∧ (w64 (t90 + 1)).toNat ≤ a0.size ∧ a0.size ≤ a0.size) ((concourseref01_Server.f k (a0.extract (w64 (t90 + 1)).toNat a0.size)).bind fun t100 => cond t97 (some t100) (some false))))))
/-! concourse/concourseref01.Event: function 86 -/
def concourseref01_Event.l0 (k : Nat) (a0 : ByteArray) : Nat → Int → Option ((Int × Bool) ⊕ (Bool))
  | 0, _ => none
  | j134 + 1, x110 => cond (decide (x110 < (a0.size : Int))) (grd ((0 : Int) ≤ x110 ∧ x110 < (a0.size : Int)) ((concourseref01_low.f (bt a0 x110)).bind fun t113 => grd ((0 : Int) ≤ x110 ∧ x110 < (a0.size : Int)) (cond (decide (65 ≤ (bt a0 x110))) (grd ((0 : Int) ≤ x110 ∧ x110 < (a0.size : Int)) (cond (!t113) (cond (!(decide ((bt a0 x110) ≤ 90))) (grd ((0 : Int) ≤ x110 ∧ x110 < (a0.size : Int)) (cond ((bt a0 x110) != 45) (grd ((0 : Int) ≤ x110 ∧ x110 < (a0.size : Int)) (cond ((bt a0 x110) != 95) (some (.inr false)) (concourseref01_Event.l0 k a0 j134 (w64 (x110 + 1))))) (concourseref01_Event.l0 k a0 j134 (w64 (x110 + 1))))) (concourseref01_Event.l0 k a0 j134 (w64 (x110 + 1)))) (concourseref01_Event.l0 k a0 j134 (w64 (x110 + 1))))) (cond (!t113) (grd ((0 : Int) ≤ x110 ∧ x110 < (a0.size : Int)) (cond ((bt a0 x110) != 45) (grd ((0 : Int) ≤ x110 ∧ x110 < (a0.size : Int)) (cond ((bt a0 x110) != 95) (some (.inr false)) (concourseref01_Event.l0 k a0 j134 (w64 (x110 + 1))))) (concourseref01_Event.l0 k a0 j134 (w64 (x110 + 1))))) (concourseref01_Event.l0 k a0 j134 (w64 (x110 + 1))))))) (some (.inl (x110, decide (x110 < (a0.size : Int)))))
def concourseref01_Event.f (k : Nat) (a0 : ByteArray) : Option (Bool) := cond (decide ((a0.size : Int) < 2)) (some false) (cond (decide (17 < (a0.size : Int))) (some false) (grd ((0 : Int) ≤ 0 ∧ 0 < (a0.size : Int)) (cond ((bt a0 0) != 36) (some false) ((concourseref01_Event.l0 k a0 k 1).bind (fall fun (p109 : Int × Bool) => some true)))))
/-! concourse/concourseref07.May: function 116 -/
def concourseref07_May.l0 (k : Nat) (a0 : Event) : Nat → Int → Option ((Int × Bool) ⊕ (Bool))
  | 0, _ => none
  | j170 + 1, x156 => cond (decide (x156 < (a0.fParents.length : Int))) (grd ((0 : Int) ≤ x156 ∧ x156 < (a0.fParents.length : Int)) ((concourseref01_Event.f k (strK.at a0.fParents x156)).bind fun t159 => cond (!t159) (some (.inr false)) (grd ((0 : Int) ≤ x156 ∧ x156 < (a0.fParents.length : Int)) (cond (decide ((strK.at a0.fParents x156) = a0.fID)) (some (.inr false)) (cond (decide (0 < x156)) (grd ((0 : Int) ≤ (max (w64 (x156 - 1)) 0) ∧ (max (w64 (x156 - 1)) 0) < (a0.fParents.length : Int)) (grd ((0 : Int) ≤ x156 ∧ x156 < (a0.fParents.length : Int)) (cond (!sLt (strK.at a0.fParents (max (w64 (x156 - 1)) 0)) (strK.at a0.fParents x156)) (some (.inr false)) (concourseref07_May.l0 k a0 j170 (w64 (x156 + 1)))))) (concourseref07_May.l0 k a0 j170 (w64 (x156 + 1)))))))) (some (.inl (x156, decide (x156 < (a0.fParents.length : Int)))))
def concourseref07_May.f (k : Nat) (a0 : Event) : Option (Bool) := (concourseref01_Event.f k a0.fID).bind fun t137 => (concourseref01_Named.f k a0.fRoom 33).bind fun t139 => (concourseref01_Named.f k a0.fUser 64).bind fun t141 => cond (!t137) (some false) (cond (!t139) (some false) (cond (!t141) (some false) (cond (decide (4 < (a0.fParents.length : Int))) (some false) (cond (decide (a0.fDoes < 0)) (some false) (cond (decide (2 < a0.fDoes)) (some false) ((cond (!decide (a0.fThread = (⟨#[]⟩ : ByteArray))) ((concourseref01_Event.f k a0.fThread).bind fun t173 => cond (!t173) (some (.inr false)) (cond (decide (a0.fThread = a0.fID)) (some (.inr false)) (cond (a0.fDoes != 0) (some (.inr false)) (some (.inl ()))))) (some (.inl ()))).bind (fall fun (p154 : Unit) => (concourseref07_May.l0 k a0 k 0).bind (fall fun (p155 : Int × Bool) => some true))))))))
/-! concourse/concourseref07.At: function 117 -/
def concourseref07_At.l0 (k : Nat) (a0 : RDag) (a1 : ByteArray) : Nat → Int → Option ((Int × Bool) ⊕ (Int))
  | 0, _ => none
  | j186 + 1, x182 => cond (decide (x182 < (a0.fL.length : Int))) (grd ((0 : Int) ≤ x182 ∧ x182 < (a0.fL.length : Int)) (cond (decide (((Event.K.at a0.fL x182).fID) = a1)) (some (.inr x182)) (concourseref07_At.l0 k a0 a1 j186 (w64 (x182 + 1))))) (some (.inl (x182, decide (x182 < (a0.fL.length : Int)))))
def concourseref07_At.f (k : Nat) (a0 : RDag) (a1 : ByteArray) : Option (Int) := (concourseref07_At.l0 k a0 a1 k 0).bind (fall fun (p181 : Int × Bool) => some (-1))
/-! concourse/concourseref07.Add: function 92 -/
def concourseref07_Add.l0 (k : Nat) (a0 : RDag) (a1 : Event) : Nat → Int → Option ((Int × Bool) ⊕ (RDag × Int))
  | 0, _ => none
  | j220 + 1, x214 => cond (decide (x214 < (a1.fParents.length : Int))) (grd ((0 : Int) ≤ x214 ∧ x214 < (a1.fParents.length : Int)) ((concourseref07_At.f k a0 (strK.at a1.fParents x214)).bind fun t217 => cond (decide (t217 < 0)) (some (.inr (a0, 4))) (concourseref07_Add.l0 k a0 a1 j220 (w64 (x214 + 1))))) (some (.inl (x214, decide (x214 < (a1.fParents.length : Int)))))
def concourseref07_Add.f (k : Nat) (a0 : RDag) (a1 : Event) : Option (RDag × Int) := (concourseref07_May.f k a1).bind fun t191 => cond (!t191) (some (a0, 1)) (cond (!decide (a1.fRoom = a0.fRoom)) (some (a0, 1)) ((concourseref07_At.f k a0 a1.fID).bind fun t196 => cond (decide (0 ≤ t196)) (some (a0, 9)) ((concourseref07_Add.l0 k a0 a1 k 0).bind (fall fun (p199 : Int × Bool) => (cond (!decide (a1.fThread = (⟨#[]⟩ : ByteArray))) ((concourseref07_At.f k a0 a1.fThread).bind fun t206 => cond (decide (t206 < 0)) (some (.inr (a0, 4))) (grd ((0 : Int) ≤ t206 ∧ t206 < (a0.fL.length : Int)) (cond (!decide (((Event.K.at a0.fL t206).fThread) = (⟨#[]⟩ : ByteArray))) (some (.inr (a0, 7))) (grd ((0 : Int) ≤ t206 ∧ t206 < (a0.fL.length : Int)) (cond (((Event.K.at a0.fL t206).fDoes) != 0) (some (.inr (a0, 7))) (some (.inl ()))))))) (some (.inl ()))).bind (fall fun (p200 : Unit) => grd (([] : List Event).length + a0.fL.length ≤ 9223372036854775807 ∧ (([] : List Event).length + a0.fL.length) * 96 ≤ 140737488355328) (grd ((([] : List Event) ++ a0.fL).length + ([a1] : List Event).length ≤ 9223372036854775807 ∧ ((([] : List Event) ++ a0.fL).length + ([a1] : List Event).length) * 96 ≤ 140737488355328) (some ((⟨a0.fRoom, (([] : List Event) ++ a0.fL) ++ ([a1] : List Event)⟩ : RDag), 0))))))))
/-! concourse/concourseref07.Made: function 64 -/
def concourseref07_Made.l1 (k : Nat) (x225 : Int) (p244 : Int × Bool × (List Bool)) : Nat → Int → List ByteArray → Option (Int × Bool × (List ByteArray))
  | 0, _, _ => none
  | j291 + 1, x280, x281 => cond (decide (x280 < x225)) (grd ((0 : Int) ≤ x280 ∧ x280 < (p244.2.2.length : Int)) (cond (p244.2.2.getD x280.toNat default) ((concourseref01_EventOf.f k x280).bind fun t287 => grd (x281.length + ([t287] : List ByteArray).length ≤ 9223372036854775807 ∧ (x281.length + ([t287] : List ByteArray).length) * 16 ≤ 140737488355328) (concourseref07_Made.l1 k x225 p244 j291 (w64 (x280 + 1)) (x281 ++ ([t287] : List ByteArray)))) (concourseref07_Made.l1 k x225 p244 j291 (w64 (x280 + 1)) x281))) (some (x280, decide (x280 < x225), x281))
def concourseref07_Made.l2 (k : Nat) (a1 : List GMade) (x225 : Int) : Nat → Int → List Bool → Option (Int × Bool × (List Bool))
  | 0, _, _ => none
  | j308 + 1, x294, x295 => grd ((0 : Int) ≤ x225 ∧ x225 < (a1.length : Int)) (cond (decide (x294 < (((GMade.K.at a1 x225).fParents).length : Int))) (cond (decide (x294 < 3)) (cond (decide (0 < x225)) (grd ((0 : Int) ≤ x225 ∧ x225 < (a1.length : Int)) (grd ((0 : Int) ≤ x294 ∧ x294 < (((GMade.K.at a1 x225).fParents).length : Int)) ((concourseref01_Around.f ((intK .i64).at ((GMade.K.at a1 x225).fParents) x294) x225).bind fun t302 => grd ((0 : Int) ≤ t302 ∧ t302 < (x295.length : Int)) (concourseref07_Made.l2 k a1 x225 j308 (w64 (x294 + 1)) (x295.set t302.toNat true))))) (some (x294, decide (0 < x225), x295))) (some (x294, false, x295))) (some (x294, false, x295)))
def concourseref07_Made.l0 (k : Nat) (a0 : ByteArray) (a1 : List GMade) : Nat → Int → ByteArray → List Event → Option (Int × Bool × ByteArray × (List Event))
  | 0, _, _, _ => none
  | j312 + 1, x225, x226, x227 => cond (decide (x225 < (a1.length : Int))) (cond (decide (x225 < 9)) (((concourseref01_EventOf.f k x225).bind fun t232 => grd ((0 : Int) ≤ x225 ∧ x225 < (a1.length : Int)) ((concourseref01_UserOf.f ((GMade.K.at a1 x225).fUser)).bind fun t235 => grd ((0 : Int) ≤ x225 ∧ x225 < (a1.length : Int)) ((concourseref01_Around.f ((GMade.K.at a1 x225).fDoes) 3).bind fun t238 => grd ((0 : Int) ≤ 9 ∧ 9 ≤ (9223372036854775807 : Int) ∧ (9 : Int).toNat * 1 ≤ 140737488355328) ((concourseref07_Made.l2 k a1 x225 k 0 (List.replicate (9 : Int).toNat (false : Bool))).bind fun (p244 : Int × Bool × (List Bool)) => (concourseref07_Made.l1 k x225 p244 k 0 ([] : List ByteArray)).bind fun (p245 : Int × Bool × (List ByteArray)) => cond (t238 == 0) (cond (decide (0 < x225)) (grd ((0 : Int) ≤ x225 ∧ x225 < (a1.length : Int)) ((concourseref01_Around.f ((GMade.K.at a1 x225).fThread) (w64 (2 * x225))).bind fun t250 => cond (decide (t250 < x225)) (grd ((0 : Int) ≤ t250 ∧ t250 < (x227.length : Int)) (cond (((Event.K.at x227 t250).fDoes) == 0) (grd ((0 : Int) ≤ t250 ∧ t250 < (x227.length : Int)) (cond (decide (((Event.K.at x227 t250).fThread) = (⟨#[]⟩ : ByteArray))) ((concourseref01_EventOf.f k t250).bind fun t257 => (concourseref07_Add.f k (⟨x226, x227⟩ : RDag) (⟨t232, a0, p245.2.2, t257, t235, t238⟩ : Event)).bind fun t259 => some (p244.1, p245.1, p244.2.1, p245.2.1, decide (0 < x225), t259.1.fRoom, t259.1.fL, p244.2.2)) ((concourseref07_Add.f k (⟨x226, x227⟩ : RDag) (⟨t232, a0, p245.2.2, (⟨#[]⟩ : ByteArray), t235, t238⟩ : Event)).bind fun t262 => some (p244.1, p245.1, p244.2.1, p245.2.1, decide (0 < x225), t262.1.fRoom, t262.1.fL, p244.2.2)))) ((concourseref07_Add.f k (⟨x226, x227⟩ : RDag) (⟨t232, a0, p245.2.2, (⟨#[]⟩ : ByteArray), t235, t238⟩ : Event)).bind fun t266 => some (p244.1, p245.1, p244.2.1, p245.2.1, decide (0 < x225), t266.1.fRoom, t266.1.fL, p244.2.2)))) ((concourseref07_Add.f k (⟨x226, x227⟩ : RDag) (⟨t232, a0, p245.2.2, (⟨#[]⟩ : ByteArray), t235, t238⟩ : Event)).bind fun t270 => some (p244.1, p245.1, p244.2.1, p245.2.1, decide (0 < x225), t270.1.fRoom, t270.1.fL, p244.2.2)))) ((concourseref07_Add.f k (⟨x226, x227⟩ : RDag) (⟨t232, a0, p245.2.2, (⟨#[]⟩ : ByteArray), t235, t238⟩ : Event)).bind fun t273 => some (p244.1, p245.1, p244.2.1, p245.2.1, decide (0 < x225), t273.1.fRoom, t273.1.fL, p244.2.2))) ((concourseref07_Add.f k (⟨x226, x227⟩ : RDag) (⟨t232, a0, p245.2.2, (⟨#[]⟩ : ByteArray), t235, t238⟩ : Event)).bind fun t277 => some (p244.1, p245.1, p244.2.1, p245.2.1, false, t277.1.fRoom, t277.1.fL, p244.2.2)))))).bind fun (p230 : Int × Int × Bool × Bool × Bool × ByteArray × (List Event) × (List Bool)) => concourseref07_Made.l0 k a0 a1 j312 (w64 (x225 + 1)) p230.2.2.2.2.2.1 p230.2.2.2.2.2.2.1) (some (x225, decide (x225 < 9), x226, x227))) (some (x225, false, x226, x227))
def concourseref07_Made.f (k : Nat) (a0 : ByteArray) (a1 : List GMade) : Option (RDag) := (concourseref07_Made.l0 k a0 a1 k 0 a0 ([] : List Event)).bind fun (p224 : Int × Bool × ByteArray × (List Event)) => some (⟨p224.2.2.1, p224.2.2.2⟩ : RDag)
/-! concourse/concourseref10.Made: function 31 -/
def concourseref10_Made.f (k : Nat) (a0 : List GMade) (a1 : List GMade) : Option ((List Event)) := (concourseref01_RoomOf.f 0).bind fun t314 => (concourseref07_Made.f k t314 a0).bind fun t316 => grd (([] : List Event).length + t316.fL.length ≤ 9223372036854775807 ∧ (([] : List Event).length + t316.fL.length) * 96 ≤ 140737488355328) ((concourseref01_RoomOf.f 1).bind fun t320 => (concourseref07_Made.f k t320 a1).bind fun t322 => grd ((([] : List Event) ++ t316.fL).length + t322.fL.length ≤ 9223372036854775807 ∧ ((([] : List Event) ++ t316.fL).length + t322.fL.length) * 96 ≤ 140737488355328) (some ((([] : List Event) ++ t316.fL) ++ t322.fL)))
/-! concourse/view.New: function 32 -/
def view_New.f : Option (VView) := some (⟨([] : List (ByteArray × DDag))⟩ : VView)
/-! concourse/dag.New: function 93 -/
def dag_New.f (a0 : ByteArray) : Option (DDag) := some (⟨a0, ([] : List (ByteArray × DNode))⟩ : DDag)
/-! (*concourse/view.View).room -/
def view_View_room.f (a0 : VView) (a1 : ByteArray) : Option DDag := cond (mget a0.fdags a1).isSome (some ((mget a0.fdags a1).getD default)) (dag_New.f a1)
/-! slices.IndexFunc[[]string,string]: function 79 -/
def slices_IndexFunc_string_x.l0 (k : Nat) (a0 : List ByteArray) (a1 : (ByteArray → Option Bool)) : Nat → Int → Option ((Int × Bool) ⊕ (Int))
  | 0, _ => none
  | j337 + 1, x331 => cond (decide (x331 < (a0.length : Int))) (grd ((0 : Int) ≤ x331 ∧ x331 < (a0.length : Int)) ((a1 (strK.at a0 x331)).bind fun t334 => cond t334 (some (.inr x331)) (slices_IndexFunc_string_x.l0 k a0 a1 j337 (w64 (x331 + 1))))) (some (.inl (x331, decide (x331 < (a0.length : Int)))))
def slices_IndexFunc_string_x.f (k : Nat) (a0 : List ByteArray) (a1 : (ByteArray → Option Bool)) : Option (Int) := (slices_IndexFunc_string_x.l0 k a0 a1 k 0).bind (fall fun (p330 : Int × Bool) => some (-1))
/-! slices.IndexFunc[[]string,string]: function 79 -/
def slices_IndexFunc_string_xw.l0 (k : Nat) (a0 : List ByteArray) (a1 : (ByteArray → Option Bool)) : Nat → Int → Option ((Int × Bool) ⊕ (Int))
  | 0, _ => none
  | j347 + 1, x340 => cond (decide (x340 < (a0.length : Int))) (grd ((0 : Int) ≤ x340 ∧ x340 < (a0.length : Int)) ((a1 (a0.getD x340.toNat default)).bind fun t344 => cond t344 (some (.inr x340)) (slices_IndexFunc_string_xw.l0 k a0 a1 j347 (w64 (x340 + 1))))) (some (.inl (x340, decide (x340 < (a0.length : Int)))))
def slices_IndexFunc_string_xw.f (k : Nat) (a0 : List ByteArray) (a1 : (ByteArray → Option Bool)) : Option (Int) := (slices_IndexFunc_string_xw.l0 k a0 a1 k 0).bind (fall fun (p339 : Int × Bool) => some (-1))
/-! slices.ContainsFunc[[]string,string]: function 84 -/
def slices_ContainsFunc_string_x.f (k : Nat) (a0 : List ByteArray) (a1 : (ByteArray → Option Bool)) : Option (Bool) := (slices_IndexFunc_string_x.f k a0 a1).bind fun t349 => some (decide (0 ≤ t349))
/-! slices.ContainsFunc[[]string,string]: function 84 -/
def slices_ContainsFunc_string_xw.f (k : Nat) (a0 : List ByteArray) (a1 : (ByteArray → Option Bool)) : Option (Bool) := (slices_IndexFunc_string_xw.f k a0 a1).bind fun t351 => some (decide (0 ≤ t351))
/-! internal/stringslite.IndexByte: function 132 -/
def stringslite_IndexByte.f (a0 : ByteArray) (a1 : Int) : Option (Int) := some (idxB a0 a1)
/-! internal/bytealg.Cutover: function 134 -/
def bytealg_Cutover.f (a0 : Int) : Option (Int) := some (w64 ((w64 (a0 + 16)).tdiv 8))
/-! internal/stringslite.Index: function 122 -/
def stringslite_Index.f (a0 : ByteArray) (a1 : ByteArray) : Option (Int) := cond ((a1.size : Int) == 0) (some 0) (cond (decide (a1 = a0)) (some 0) (cond ((a1.size : Int) == 1) (grd ((0 : Int) ≤ 0 ∧ 0 < (a1.size : Int)) ((stringslite_IndexByte.f a0 (bt a1 0)).bind fun t360 => some t360)) (cond (decide ((a0.size : Int) ≤ (a1.size : Int))) (some (-1)) (none))))
/-! internal/stringslite.Cut: function 99 -/
def stringslite_Cut.f (a0 : ByteArray) (a1 : ByteArray) : Option (ByteArray × ByteArray × Bool) := (stringslite_Index.f a0 a1).bind fun t363 => cond (decide (0 ≤ t363)) (grd ((0 : Int) ≤ t363 ∧ 0 ≤ t363.toNat ∧ t363.toNat ≤ a0.size) (grd ((0 : Int) ≤ (w64 (t363 + (a1.size : Int))) ∧ (w64 (t363 + (a1.size : Int))).toNat ≤ a0.size ∧ a0.size ≤ a0.size) (some (a0.extract 0 t363.toNat, a0.extract (w64 (t363 + (a1.size : Int))).toNat a0.size, true)))) (some (a0, (⟨#[]⟩ : ByteArray), false))
/-! strings.Cut: function 70 -/
def strings_Cut.f (a0 : ByteArray) (a1 : ByteArray) : Option (ByteArray × ByteArray × Bool) := (stringslite_Cut.f a0 a1).bind fun t368 => some (t368.1, t368.2.1, t368.2.2)
/-! internal/stringslite.HasPrefix: function 149 -/
def stringslite_HasPrefix.f (a0 : ByteArray) (a1 : ByteArray) : Option (Bool) := cond (decide ((a1.size : Int) ≤ (a0.size : Int))) (grd ((0 : Int) ≤ (a1.size : Int) ∧ 0 ≤ (a1.size : Int).toNat ∧ (a1.size : Int).toNat ≤ a0.size) (some (decide ((a0.extract 0 ((a1.size : Int).toNat)) = a1)))) (some false)
/-! internal/stringslite.CutPrefix: function 129 -/
def stringslite_CutPrefix.f (a0 : ByteArray) (a1 : ByteArray) : Option (ByteArray × Bool) := (stringslite_HasPrefix.f a0 a1).bind fun t372 => cond (!t372) (some (a0, false)) (grd ((0 : Int) ≤ (a1.size : Int) ∧ (a1.size : Int).toNat ≤ a0.size ∧ a0.size ≤ a0.size) (some (a0.extract (a1.size : Int).toNat a0.size, true)))
/-! strings.CutPrefix: function 119 -/
def strings_CutPrefix.f (a0 : ByteArray) (a1 : ByteArray) : Option (ByteArray × Bool) := (stringslite_CutPrefix.f a0 a1).bind fun t376 => some (t376.1, t376.2)
/-! concourse/name.small: function 131 -/
def name_small.f (a0 : Int) : Option (Bool) := cond (decide (97 ≤ a0)) (cond (decide (a0 ≤ 122)) (some true) (cond (decide (48 ≤ a0)) (some (decide (a0 ≤ 57))) (some false))) (cond (decide (48 ≤ a0)) (some (decide (a0 ≤ 57))) (some false))
/-! strings.IndexByte: function 151 -/
def strings_IndexByte.f (a0 : ByteArray) (a1 : Int) : Option (Int) := (stringslite_IndexByte.f a0 a1).bind fun t382 => some t382
/-! concourse/name.among$1: function 150 -/
def name_among_1.f (a0 : Int) (c0 : ByteArray) : Option (Bool) := (name_small.f a0).bind fun t384 => cond t384 (some true) ((strings_IndexByte.f c0 a0).bind fun t387 => some (decide (0 ≤ t387)))
/-! concourse/name.among: function 130 -/
def name_among.f (a0 : ByteArray) : Option ((Int → Option Bool)) := some (fun a0_ => name_among_1.f a0_ a0)
/-! concourse/name.may: function 120 -/
def name_may.l0 (k : Nat) (a0 : ByteArray) (a1 : Int) (t390 : (Int → Option Bool)) (t392 : (Int → Option Bool)) (t394 : (Int → Option Bool)) : Nat → Int → Option ((Int × Bool) ⊕ (Bool))
  | 0, _ => none
  | j405 + 1, x399 => cond (decide (x399 < (a0.size : Int))) (grd ((0 : Int) ≤ x399 ∧ x399 < (a0.size : Int)) (((fK_uint8_bool.at ([t390, t392, t394] : List (Int → Option Bool)) a1) (bt a0 x399)).bind fun t402 => cond (!t402) (some (.inr false)) (name_may.l0 k a0 a1 t390 t392 t394 j405 (w64 (x399 + 1))))) (some (.inl (x399, decide (x399 < (a0.size : Int)))))
def name_may.f (k : Nat) (a0 : ByteArray) (a1 : Int) : Option (Bool) := (name_among.f (⟨#[46, 45, 95]⟩ : ByteArray)).bind fun t390 => (name_among.f (⟨#[46, 45]⟩ : ByteArray)).bind fun t392 => (name_among.f (⟨#[45, 95, 65, 66, 67, 68, 69, 70, 71, 72, 73, 74, 75, 76, 77, 78, 79, 80, 81, 82, 83, 84, 85, 86, 87, 88, 89, 90]⟩ : ByteArray)).bind fun t394 => grd ((0 : Int) ≤ a1 ∧ a1 < (3 : Int)) ((name_may.l0 k a0 a1 t390 t392 t394 k 0).bind (fall fun (p397 : Int × Bool) => cond (!decide (a0 = (⟨#[]⟩ : ByteArray))) (some (decide ((a0.size : Int) ≤ 16))) (some false)))
/-! concourse/name.Server: function 121 -/
def name_Server.f (k : Nat) (a0 : ByteArray) : Option (Bool) := (name_may.f k a0 1).bind fun t407 => cond t407 (grd ((0 : Int) ≤ 0 ∧ 0 < (a0.size : Int)) ((name_small.f (bt a0 0)).bind fun t411 => cond t411 (grd ((0 : Int) ≤ (w64 ((a0.size : Int) - 1)) ∧ (w64 ((a0.size : Int) - 1)) < (a0.size : Int)) ((name_small.f (bt a0 (w64 ((a0.size : Int) - 1)))).bind fun t415 => some t415)) (some false))) (some false)
/-! concourse/name.split: function 98 -/
def name_split.f (k : Nat) (a0 : ByteArray) (a1 : ByteArray) : Option (ByteArray × ByteArray × Bool) := (strings_CutPrefix.f a0 a1).bind fun t417 => (strings_Cut.f t417.1 (⟨#[58]⟩ : ByteArray)).bind fun t419 => cond t417.2 (cond t419.2.2 ((name_may.f k t419.1 0).bind fun t423 => cond t423 ((name_Server.f k t419.2.1).bind fun t426 => some (t419.1, t419.2.1, t426)) (some (t419.1, t419.2.1, false))) (some (t419.1, t419.2.1, false))) (some (t419.1, t419.2.1, false))
/-! concourse/name.User: function 68 -/
def name_User.f (k : Nat) (a0 : ByteArray) : Option (Bool) := (name_split.f k a0 (⟨#[64]⟩ : ByteArray)).bind fun t428 => some t428.2.2
/-! concourse/name.Room: function 69 -/
def name_Room.f (k : Nat) (a0 : ByteArray) : Option (Bool) := (name_split.f k a0 (⟨#[33]⟩ : ByteArray)).bind fun t430 => some t430.2.2
/-! concourse/name.Event: function 109 -/
def name_Event.f (k : Nat) (a0 : ByteArray) : Option (Bool) := (strings_CutPrefix.f a0 (⟨#[36]⟩ : ByteArray)).bind fun t432 => cond t432.2 ((name_may.f k t432.1 2).bind fun t435 => some t435) (some false)
/-! concourse/dag.May: function 94 -/
def dag_May.l0 (k : Nat) (a0 : Event) : Nat → Int → Option (Bool × Int × Bool)
  | 0, _ => none
  | j477 + 1, x464 => cond (decide (x464 < (a0.fParents.length : Int))) (grd ((0 : Int) ≤ x464 ∧ x464 < (a0.fParents.length : Int)) ((name_Event.f k (strK.at a0.fParents x464)).bind fun t467 => cond (!t467) (some (false, x464, decide (x464 < (a0.fParents.length : Int)))) (cond (decide ((strK.at a0.fParents x464) = a0.fID)) (some (false, x464, decide (x464 < (a0.fParents.length : Int)))) (cond (decide (0 < x464)) (grd ((0 : Int) ≤ (w64 (x464 - 1)) ∧ (w64 (x464 - 1)) < (a0.fParents.length : Int)) (cond (!sLt (strK.at a0.fParents (w64 (x464 - 1))) (strK.at a0.fParents x464)) (some (false, x464, decide (x464 < (a0.fParents.length : Int)))) (dag_May.l0 k a0 j477 (w64 (x464 + 1))))) (dag_May.l0 k a0 j477 (w64 (x464 + 1))))))) (some (true, x464, decide (x464 < (a0.fParents.length : Int))))
def dag_May.l1 (k : Nat) (a0 : Event) : Nat → Int → Option (Bool × Int × Bool)
  | 0, _ => none
  | j494 + 1, x481 => cond (decide (x481 < (a0.fParents.length : Int))) (grd ((0 : Int) ≤ x481 ∧ x481 < (a0.fParents.length : Int)) ((name_Event.f k (strK.at a0.fParents x481)).bind fun t484 => cond (!t484) (some (false, x481, decide (x481 < (a0.fParents.length : Int)))) (cond (decide ((strK.at a0.fParents x481) = a0.fID)) (some (false, x481, decide (x481 < (a0.fParents.length : Int)))) (cond (decide (0 < x481)) (grd ((0 : Int) ≤ (w64 (x481 - 1)) ∧ (w64 (x481 - 1)) < (a0.fParents.length : Int)) (cond (!sLt (strK.at a0.fParents (w64 (x481 - 1))) (strK.at a0.fParents x481)) (some (false, x481, decide (x481 < (a0.fParents.length : Int)))) (dag_May.l1 k a0 j494 (w64 (x481 + 1))))) (dag_May.l1 k a0 j494 (w64 (x481 + 1))))))) (some (true, x481, decide (x481 < (a0.fParents.length : Int))))
def dag_May.f (k : Nat) (a0 : Event) : Option (Bool) := (name_Event.f k a0.fID).bind fun t438 => cond (!t438) (some false) ((name_Room.f k a0.fRoom).bind fun t442 => cond (!t442) (some false) ((name_User.f k a0.fUser).bind fun t446 => cond (!t446) (some false) (cond (decide (4 < (a0.fParents.length : Int))) (some false) (cond (decide (a0.fDoes < 0)) (some false) (cond (decide (2 < a0.fDoes)) (some false) (cond (!decide (a0.fThread = (⟨#[]⟩ : ByteArray))) ((name_Event.f k a0.fThread).bind fun t456 => cond (!t456) (some false) (cond (decide (a0.fThread = a0.fID)) (some false) (cond (a0.fDoes != 0) (some false) ((dag_May.l0 k a0 k 0).bind fun (p463 : Bool × Int × Bool) => some p463.1)))) ((dag_May.l1 k a0 k 0).bind fun (p480 : Bool × Int × Bool) => some p480.1)))))))
/-! (*concourse/dag.Dag).Has: function 95 -/
def dag_Dag_Has.f (a0 : DDag) (a1 : ByteArray) : Option (Bool) := some (!(mget a0.fnodes a1).isNone)
/-! (*concourse/dag.Dag).Add$1: function 96 -/
def dag_Dag_Add_1.f (a0 : ByteArray) (c0 : DDag) : Option (Bool) := (dag_Dag_Has.f c0 a0).bind fun t498 => some (!t498)
/-! slices.Clone[[]string,string] -/
def slices_Clone_string.f (xs : List ByteArray) : Option (List ByteArray) := grd (xs.length ≤ 9223372036854775807 ∧ xs.length * 16 ≤ 140737488355328) (some xs)
/-! concourse/dag.own: function 97 -/
def dag_own.f (a0 : Event) : Option (Event) := (slices_Clone_string.f a0.fParents).bind fun t502 => some (⟨a0.fID, a0.fRoom, t502, a0.fThread, a0.fUser, a0.fDoes⟩ : Event)
/-! (*concourse/dag.Dag).Add: function 66 -/
def dag_Dag_Add.l0 (k : Nat) (a1 : Event) : Nat → Int → Int → DDag → Option (Int × Bool × Int × DDag)
  | 0, _, _, _ => none
  | j542 + 1, x529, x530, x531 => cond (decide (x529 < (a1.fParents.length : Int))) (grd ((0 : Int) ≤ x529 ∧ x529 < (a1.fParents.length : Int)) (grd ((mget x531.fnodes (strK.at a1.fParents x529)).isSome = true) (dag_Dag_Add.l0 k a1 j542 (w64 (x529 + 1)) (max x530 (w64 ((((mget x531.fnodes (strK.at a1.fParents x529)).getD default).fdepth) + 1))) (⟨x531.froom, mput x531.fnodes (strK.at a1.fParents x529) (⟨((mget x531.fnodes (strK.at a1.fParents x529)).getD default).fe, ((mget x531.fnodes (strK.at a1.fParents x529)).getD default).fdepth, true⟩ : DNode)⟩ : DDag)))) (some (x529, decide (x529 < (a1.fParents.length : Int)), x530, x531))
def dag_Dag_Add.f (k : Nat) (a0 : DDag) (a1 : Event) : Option (Int × DDag) := (dag_May.f k a1).bind fun t509 => cond (!t509) (some (1, a0)) (cond (!decide (a1.fRoom = a0.froom)) (some (1, a0)) ((dag_Dag_Has.f a0 a1.fID).bind fun t514 => cond t514 (some (9, a0)) ((slices_ContainsFunc_string_x.f k a1.fParents (fun a0_ => dag_Dag_Add_1.f a0_ a0)).bind fun t517 => cond t517 (some (4, a0)) ((cond (!decide (a1.fThread = (⟨#[]⟩ : ByteArray))) (cond ((mget a0.fnodes a1.fThread).isNone) (some (.inr (4, a0))) (grd ((mget a0.fnodes a1.fThread).isSome = true) (cond (!decide (((((mget a0.fnodes a1.fThread).getD default).fe).fThread) = (⟨#[]⟩ : ByteArray))) (some (.inr (7, a0))) (cond (((((mget a0.fnodes a1.fThread).getD default).fe).fDoes) != 0) (some (.inr (7, a0))) (some (.inl ())))))) (some (.inl ()))).bind (fall fun (p520 : Unit) => (dag_own.f a1).bind fun t521 => (dag_Dag_Add.l0 k a1 k 0 0 a0).bind fun (p524 : Int × Bool × Int × DDag) => some (0, (⟨p524.2.2.2.froom, mput p524.2.2.2.fnodes a1.fID (⟨t521, p524.2.2.1, false⟩ : DNode)⟩ : DDag)))))))
/-! (*concourse/view.View).Add: function 33 -/
def view_View_Add.f (k : Nat) (a0 : VView) (a1 : Event) : Option (Int × VView) := (view_View_room.f a0 a1.fRoom).bind fun t557 => (dag_Dag_Add.f k t557 a1).bind fun t560 => cond (t560.1 != 0) (some (t560.1, (⟨mres a0.fdags a1.fRoom t560.2⟩ : VView))) (some (0, (⟨mput a0.fdags a1.fRoom t560.2⟩ : VView)))
/-! concourse/concourseref10.Of: function 61 -/
def concourseref10_Of.l0 (k : Nat) (a0 : RView) (a1 : ByteArray) : Nat → Int → Option ((Int × Bool) ⊕ (RDag))
  | 0, _ => none
  | j573 + 1, x568 => cond (decide (x568 < (a0.fD.length : Int))) (grd ((0 : Int) ≤ x568 ∧ x568 < (a0.fD.length : Int)) (cond (decide (((RDag.K.at a0.fD x568).fRoom) = a1)) (grd ((0 : Int) ≤ x568 ∧ x568 < (a0.fD.length : Int)) (some (.inr (RDag.K.at a0.fD x568)))) (concourseref10_Of.l0 k a0 a1 j573 (w64 (x568 + 1))))) (some (.inl (x568, decide (x568 < (a0.fD.length : Int)))))
def concourseref10_Of.f (k : Nat) (a0 : RView) (a1 : ByteArray) : Option (RDag) := (concourseref10_Of.l0 k a0 a1 k 0).bind (fall fun (p567 : Int × Bool) => some (⟨a1, ([] : List Event)⟩ : RDag))
/-! concourse/concourseref10.Add: function 67 -/
def concourseref10_Add.l0 (k : Nat) (a0 : RView) (a1 : Event) (t580 : RDag × Int) : Nat → Bool → Int → List RDag → Option (Bool × Int × Bool × (List RDag))
  | 0, _, _, _ => none
  | j608 + 1, x589, x590, x591 => cond (decide (x590 < (a0.fD.length : Int))) ((cond (!x589) (grd ((0 : Int) ≤ x590 ∧ x590 < (a0.fD.length : Int)) (cond (!sLt ((RDag.K.at a0.fD x590).fRoom) a1.fRoom) (grd (x591.length + ([t580.1] : List RDag).length ≤ 9223372036854775807 ∧ (x591.length + ([t580.1] : List RDag).length) * 40 ≤ 140737488355328) (some (true, !sLt ((RDag.K.at a0.fD x590).fRoom) a1.fRoom, x591 ++ ([t580.1] : List RDag)))) (some (x589, !sLt ((RDag.K.at a0.fD x590).fRoom) a1.fRoom, x591)))) (some (x589, false, x591))).bind fun (p594 : Bool × Bool × (List RDag)) => grd ((0 : Int) ≤ x590 ∧ x590 < (a0.fD.length : Int)) (cond (!decide (((RDag.K.at a0.fD x590).fRoom) = a1.fRoom)) (grd ((0 : Int) ≤ x590 ∧ x590 < (a0.fD.length : Int)) (grd (p594.2.2.length + ([RDag.K.at a0.fD x590] : List RDag).length ≤ 9223372036854775807 ∧ (p594.2.2.length + ([RDag.K.at a0.fD x590] : List RDag).length) * 40 ≤ 140737488355328) (concourseref10_Add.l0 k a0 a1 t580 j608 p594.1 (w64 (x590 + 1)) (p594.2.2 ++ ([RDag.K.at a0.fD x590] : List RDag))))) (concourseref10_Add.l0 k a0 a1 t580 j608 p594.1 (w64 (x590 + 1)) p594.2.2))) (some (x589, x590, decide (x590 < (a0.fD.length : Int)), x591))
def concourseref10_Add.f (k : Nat) (a0 : RView) (a1 : Event) : Option (RView × Int) := (concourseref10_Of.f k a0 a1.fRoom).bind fun t578 => (concourseref07_Add.f k t578 a1).bind fun t580 => cond (t580.2 != 0) (some (a0, t580.2)) ((concourseref10_Add.l0 k a0 a1 t580 k false 0 ([] : List RDag)).bind fun (p584 : Bool × Int × Bool × (List RDag)) => cond (!p584.1) (grd (p584.2.2.2.length + ([t580.1] : List RDag).length ≤ 9223372036854775807 ∧ (p584.2.2.2.length + ([t580.1] : List RDag).length) * 40 ≤ 140737488355328) (some ((⟨p584.2.2.2 ++ ([t580.1] : List RDag)⟩ : RView), 0))) (some ((⟨p584.2.2.2⟩ : RView), 0)))
/-! concourse/concourseref10.Build: function 34 -/
def concourseref10_Build.l0 (k : Nat) (a0 : List Event) : Nat → Int → List RDag → Option (Int × Bool × (List RDag))
  | 0, _, _ => none
  | j621 + 1, x614, x615 => cond (decide (x614 < (a0.length : Int))) (grd ((0 : Int) ≤ x614 ∧ x614 < (a0.length : Int)) ((concourseref10_Add.f k (⟨x615⟩ : RView) (Event.K.at a0 x614)).bind fun t618 => concourseref10_Build.l0 k a0 j621 (w64 (x614 + 1)) t618.1.fD)) (some (x614, decide (x614 < (a0.length : Int)), x615))
def concourseref10_Build.f (k : Nat) (a0 : List Event) : Option (RView) := (concourseref10_Build.l0 k a0 k 0 ([] : List RDag)).bind fun (p613 : Int × Bool × (List RDag)) => some (⟨p613.2.2⟩ : RView)
/-! concourse/concourselaw16.build: function 9 -/
def concourselaw16_build.l0 (k : Nat) (t624 : (List Event)) : Nat → Int → VView → Option ((Int × Bool × VView) ⊕ ((Option VView) × RView))
  | 0, _, _ => none
  | j642 + 1, x634, x635 => cond (decide (x634 < (t624.length : Int))) (grd ((0 : Int) ≤ x634 ∧ x634 < (t624.length : Int)) ((view_View_Add.f k x635 (t624.getD x634.toNat default)).bind fun t639 => cond (t639.1 != 0) (some (.inr (none, (⟨([] : List RDag)⟩ : RView)))) (concourselaw16_build.l0 k t624 j642 (w64 (x634 + 1)) t639.2))) (some (.inl (x634, decide (x634 < (t624.length : Int)), x635)))
def concourselaw16_build.f (k : Nat) (a0 : List GMade) (a1 : List GMade) : Option ((Option VView) × RView) := (concourseref10_Made.f k a0 a1).bind fun t624 => (view_New.f).bind fun t627 => (concourselaw16_build.l0 k t624 k 0 t627).bind (fall fun (p631 : Int × Bool × VView) => (concourseref10_Build.f k t624).bind fun t632 => some (some p631.2.2, t632))
/-! concourse/concourseref01.ThreadOf: function 59 -/
def concourseref01_ThreadOf.f (k : Nat) (a0 : Int) : Option (ByteArray) := (concourseref01_Around.f a0 11).bind fun t644 => cond (t644 == 9) (some (⟨#[]⟩ : ByteArray)) (cond (t644 == 10) (some (⟨#[109, 97, 105, 110]⟩ : ByteArray)) ((concourseref01_EventOf.f k t644).bind fun t648 => some t648))
/-! concourse/concourseref03.Good: function 27 -/
def concourseref03_Good.f (k : Nat) (a0 : Edu) : Option (Edu) := (concourseref01_Around.f a0.fKind 3).bind fun t652 => (concourseref01_UserOf.f a0.fState).bind fun t654 => (concourseref01_Around.f a0.fTick 100).bind fun t656 => (concourseref01_Around.f a0.fStamp 9).bind fun t658 => cond ((w64 (1 + t652)) == 1) ((concourseref01_RoomOf.f a0.fSpan).bind fun t662 => (concourseref01_Around.f a0.fTick 9).bind fun t664 => (concourseref01_EventOf.f k (w64 ((a0.fEvent.size : Int) + t664))).bind fun t666 => (concourseref01_ThreadOf.f k (a0.fThread.size : Int)).bind fun t668 => some (⟨w64 (1 + t652), t662, t654, t666, t668, a0.fPrivate, false, 0, 0, t656, t658⟩ : Edu)) (cond ((w64 (1 + t652)) == 2) ((concourseref01_RoomOf.f a0.fSpan).bind fun t671 => cond a0.fOn ((concourseref01_Around.f a0.fSpan 60).bind fun t674 => some (⟨w64 (1 + t652), t671, t654, (⟨#[]⟩ : ByteArray), (⟨#[]⟩ : ByteArray), false, a0.fOn, w64 (1 + t674), 0, t656, t658⟩ : Edu)) (some (⟨w64 (1 + t652), t671, t654, (⟨#[]⟩ : ByteArray), (⟨#[]⟩ : ByteArray), false, a0.fOn, 0, 0, t656, t658⟩ : Edu))) ((concourseref01_Around.f a0.fSpan 3).bind fun t676 => some (⟨w64 (1 + t652), (⟨#[]⟩ : ByteArray), t654, (⟨#[]⟩ : ByteArray), (⟨#[]⟩ : ByteArray), false, false, 0, t676, t656, t658⟩ : Edu)))
/-! concourse/concourseref03.Public: function 29 -/
def concourseref03_Public.f (k : Nat) (a0 : Edu) : Option (Edu) := (concourseref03_Good.f k a0).bind fun t680 => some (⟨t680.fKind, t680.fRoom, t680.fUser, t680.fEvent, t680.fThread, false, t680.fOn, t680.fSpan, t680.fState, t680.fTick, t680.fStamp⟩ : Edu)
/-! concourse/concourseref01.Few: function 12 -/
def concourseref01_Few.f (a0 : ByteArray) (a1 : Int) : Option (ByteArray) := cond (decide (a1 < (a0.size : Int))) (grd ((0 : Int) ≤ a1 ∧ 0 ≤ a1.toNat ∧ a1.toNat ≤ a0.size) (some (a0.extract 0 a1.toNat))) (some a0)
/-! concourse/concourseref03.Few: function 35 -/
def concourseref03_Few.f (a0 : Edu) : Option (Edu) := (concourseref01_Few.f a0.fRoom 40).bind fun t687 => (concourseref01_Few.f a0.fUser 40).bind fun t689 => (concourseref01_Few.f a0.fEvent 40).bind fun t691 => (concourseref01_Few.f a0.fThread 40).bind fun t693 => some (⟨a0.fKind, t687, t689, t691, t693, a0.fPrivate, a0.fOn, a0.fSpan, a0.fState, a0.fTick, a0.fStamp⟩ : Edu)
/-! concourse/concourselaw16.some: function 10 -/
def concourselaw16_some.f (k : Nat) (a0 : Edu) : Option ((List Edu)) := (concourseref03_Good.f k a0).bind fun t696 => (concourseref03_Few.f a0).bind fun t698 => (concourseref03_Public.f k a0).bind fun t700 => some ([t696, t698, t700] : List Edu)
/-! concourse/edu.asks$1: function 106 -/
def edu_asks_1.f (a0 : Int) (a1 : Int) (a2 : Int) : Option (Bool) := cond (decide (a1 ≤ a0)) (some (decide (a0 ≤ a2))) (some false)
/-! concourse/edu.asks$2: function 107 -/
def edu_asks_2.f (a0 : Edu) : Option (Bool) := some false
/-! concourse/name.Thread: function 110 -/
def name_Thread.f (k : Nat) (a0 : ByteArray) : Option (Bool) := cond (decide (a0 = (⟨#[]⟩ : ByteArray))) (some true) (cond (decide (a0 = (⟨#[109, 97, 105, 110]⟩ : ByteArray))) (some true) ((name_Event.f k a0).bind fun t706 => some t706))
/-! concourse/edu.asks$3: function 108 -/
def edu_asks_3.f (k : Nat) (a0 : Edu) : Option (Bool) := (name_Room.f k a0.fRoom).bind fun t709 => cond t709 ((name_Event.f k a0.fEvent).bind fun t712 => cond t712 ((name_Thread.f k a0.fThread).bind fun t715 => some t715) (some false)) (some false)
/-! concourse/edu.asks$4: function 111 -/
def edu_asks_4.f (k : Nat) (a0 : Edu) (c0 : Int → Int → Int → Option Bool) : Option (Bool) := (name_Room.f k a0.fRoom).bind fun t718 => cond t718 (cond (!a0.fOn) (some true) ((c0 a0.fSpan 1 60).bind fun t722 => some t722)) (some false)
/-! concourse/edu.asks$5: function 112 -/
def edu_asks_5.f (a0 : Edu) (c0 : Int → Int → Int → Option Bool) : Option (Bool) := (c0 a0.fState 0 2).bind fun t725 => some t725
/-! concourse/edu.asks: function 81 -/
def edu_asks.f (k : Nat) : Option ((List (Edu → Option Bool))) := some ([edu_asks_2.f, edu_asks_3.f k, fun a0_ => edu_asks_4.f k a0_ edu_asks_1.f, fun a0_ => edu_asks_5.f a0_ edu_asks_1.f] : List (Edu → Option Bool))
/-! concourse/edu.Local$1: function 82 -/
def edu_Local_1.f (a0 : Int) : Option (Bool) := cond (decide (0 ≤ a0)) (some (decide (a0 ≤ 1099511627776))) (some false)
/-! concourse/edu.named: function 83 -/
def edu_named.f (a0 : Edu) : Option (Edu) := cond (a0.fKind == 1) (some (⟨a0.fKind, a0.fRoom, a0.fUser, a0.fEvent, a0.fThread, a0.fPrivate, false, 0, 0, a0.fTick, a0.fStamp⟩ : Edu)) (cond (a0.fKind == 2) (cond a0.fOn (some (⟨a0.fKind, a0.fRoom, a0.fUser, (⟨#[]⟩ : ByteArray), (⟨#[]⟩ : ByteArray), false, a0.fOn, a0.fSpan, 0, a0.fTick, a0.fStamp⟩ : Edu)) (some (⟨a0.fKind, a0.fRoom, a0.fUser, (⟨#[]⟩ : ByteArray), (⟨#[]⟩ : ByteArray), false, a0.fOn, 0, 0, a0.fTick, a0.fStamp⟩ : Edu))) (cond (a0.fKind == 3) (some (⟨a0.fKind, (⟨#[]⟩ : ByteArray), a0.fUser, (⟨#[]⟩ : ByteArray), (⟨#[]⟩ : ByteArray), false, false, 0, a0.fState, a0.fTick, a0.fStamp⟩ : Edu)) (some (⟨a0.fKind, (⟨#[]⟩ : ByteArray), a0.fUser, (⟨#[]⟩ : ByteArray), (⟨#[]⟩ : ByteArray), false, false, 0, 0, a0.fTick, a0.fStamp⟩ : Edu))))
/-! concourse/edu.Local: function 53 -/
def edu_Local.f (k : Nat) (a0 : Edu) : Option (Bool) := cond (decide (a0.fKind < 0)) (some false) (cond (decide (3 < a0.fKind)) (some false) ((edu_asks.f k).bind fun t741 => grd ((0 : Int) ≤ a0.fKind ∧ a0.fKind < (t741.length : Int)) (((fK_api_Edu_bool.at t741 a0.fKind) a0).bind fun t744 => cond (!t744) (some false) ((edu_named.f a0).bind fun t747 => cond (decide (a0 = t747)) ((name_User.f k a0.fUser).bind fun t750 => cond t750 ((edu_Local_1.f a0.fTick).bind fun t753 => cond t753 ((edu_Local_1.f a0.fStamp).bind fun t756 => some t756) (some false)) (some false)) (some false)))))
/-! concourse/edu.May: function 37 -/
def edu_May.f (k : Nat) (a0 : Edu) : Option (Bool) := (edu_Local.f k a0).bind fun t759 => cond t759 (some (!a0.fPrivate)) (some false)
/-! concourse/name.Home: function 38 -/
def name_Home.f (k : Nat) (a0 : ByteArray) : Option (ByteArray) := (name_User.f k a0).bind fun t762 => cond (!t762) ((name_Room.f k a0).bind fun t765 => cond (!t765) (some (⟨#[]⟩ : ByteArray)) ((strings_Cut.f a0 (⟨#[58]⟩ : ByteArray)).bind fun t768 => some t768.2.1)) ((strings_Cut.f a0 (⟨#[58]⟩ : ByteArray)).bind fun t771 => some t771.2.1)
/-! slices.DeleteFunc[[]string,string]: function 48 -/
def slices_DeleteFunc_string_xo.l0 (k : Nat) (a1 : (ByteArray → Option Bool)) : Nat → Int → Int → List ByteArray → Option (Int × Int × Bool × (List ByteArray))
  | 0, _, _, _ => none
  | j793 + 1, x782, x783, x784 => cond (decide (x783 < (x784.length : Int))) (grd ((0 : Int) ≤ x783 ∧ x783 < (x784.length : Int)) ((a1 (x784.getD x783.toNat default)).bind fun t788 => cond (!t788) (grd ((0 : Int) ≤ x782 ∧ x782 < (x784.length : Int)) (slices_DeleteFunc_string_xo.l0 k a1 j793 (w64 (x782 + 1)) (w64 (x783 + 1)) (x784.set x782.toNat (x784.getD x783.toNat default)))) (slices_DeleteFunc_string_xo.l0 k a1 j793 x782 (w64 (x783 + 1)) x784))) (some (x782, x783, decide (x783 < (x784.length : Int)), x784))
def slices_DeleteFunc_string_xo.f (k : Nat) (a0 : List ByteArray) (a1 : (ByteArray → Option Bool)) : Option ((List ByteArray)) := (slices_IndexFunc_string_xw.f k a0 a1).bind fun t773 => cond (t773 == (-1)) (some a0) ((slices_DeleteFunc_string_xo.l0 k a1 k t773 (w64 (t773 + 1)) a0).bind fun (p776 : Int × Int × Bool × (List ByteArray)) => grd ((0 : Int) ≤ p776.1 ∧ p776.1.toNat < p776.2.2.2.length) (grd ((0 : Int) ≤ p776.1 ∧ 0 ≤ p776.1.toNat ∧ p776.1.toNat ≤ (p776.2.2.2.take p776.1.toNat ++ List.replicate (p776.2.2.2.length - p776.1.toNat) (⟨#[]⟩ : ByteArray)).length) (some (((p776.2.2.2.take p776.1.toNat ++ List.replicate (p776.2.2.2.length - p776.1.toNat) (⟨#[]⟩ : ByteArray)).take p776.1.toNat).drop 0))))
/-! slices.Sort[[]string,string] -/
def slices_Sort_string.f (xs : List ByteArray) : Option (List ByteArray) := grd (xs.length < 4611686018427387904) (some (srtS xs))
/-! (*concourse/view.View).Rooms -/
def view_View_Rooms.f (a0 : VView) : Option (List ByteArray) := grd (a0.fdags.length ≤ 1000000) (some (srtS (a0.fdags.map (·.1))))
/-! cmp.Or[int]: function 164 -/
def cmp_Or_int.l0 (k : Nat) (a0 : List Int) : Nat → Int → Option ((Int × Bool) ⊕ (Int))
  | 0, _ => none
  | j800 + 1, x796 => cond (decide (x796 < (a0.length : Int))) (grd ((0 : Int) ≤ x796 ∧ x796 < (a0.length : Int)) (cond (((intK .i64).at a0 x796) != 0) (some (.inr ((intK .i64).at a0 x796))) (cmp_Or_int.l0 k a0 j800 (w64 (x796 + 1))))) (some (.inl (x796, decide (x796 < (a0.length : Int)))))
def cmp_Or_int.f (k : Nat) (a0 : List Int) : Option (Int) := (cmp_Or_int.l0 k a0 k 0).bind (fall fun (p795 : Int × Bool) => some 0)
/-! cmp.isNaN[int]: function 175 -/
def cmp_isNaN_int.f (a0 : Int) : Option (Bool) := some (a0 != a0)
/-! cmp.Compare[int]: function 165 -/
def cmp_Compare_int.f (a0 : Int) (a1 : Int) : Option (Int) := (cmp_isNaN_int.f a0).bind fun t802 => (cmp_isNaN_int.f a1).bind fun t804 => cond t802 (cond t804 (some 0) (some (-1))) (cond t804 (some 1) (cond (decide (a0 < a1)) (some (-1)) (cond (decide (a1 < a0)) (some 1) (some 0))))
/-! cmp.isNaN[string]: function 159 -/
def cmp_isNaN_string.f (a0 : ByteArray) : Option (Bool) := some (!decide (a0 = a0))
/-! cmp.Compare[string]: function 166 -/
def cmp_Compare_string.f (a0 : ByteArray) (a1 : ByteArray) : Option (Int) := (cmp_isNaN_string.f a0).bind fun t811 => (cmp_isNaN_string.f a1).bind fun t813 => cond t811 (cond t813 (some 0) (some (-1))) (cond t813 (some 1) (cond (sLt a0 a1) (some (-1)) (cond (sLt a1 a0) (some 1) (some 0))))
/-! concourse/dag.Compare: function 161 -/
def dag_Compare.f (k : Nat) (a0 : Pos) (a1 : Pos) : Option (Int) := (cmp_Compare_int.f a0.fDepth a1.fDepth).bind fun t822 => (cmp_Compare_string.f a0.fID a1.fID).bind fun t824 => (cmp_Or_int.f k ([t822, t824] : List Int)).bind fun t826 => some t826
/-! slices.SortFunc[[]concourse/api.Position,concourse/api.Position] -/
def posC (x y : Pos) : Int := if x.fDepth < y.fDepth then -1 else if y.fDepth < x.fDepth then 1 else cmpS x.fID y.fID
def slices_SortFunc_Position.f (xs : List Pos) : Option (List Pos) := grd (xs.length ≤ 1000000) (some (srtF posC xs))
/-! (*concourse/dag.Dag).All$1: function 148 -/
def dag_Dag_All_1.f (a0 : DNode) : Option (Bool) := some true
/-! (*concourse/dag.Dag).ids -/
def dag_Dag_ids_All.g (e : ByteArray × DNode) : Option Pos := cond true (some ⟨e.2.fdepth, e.1⟩) none
def dag_Dag_ids_All.f (a0 : DDag) : Option (List ByteArray) := grd (a0.fnodes.length ≤ 1000000) (some ((srtF posC (a0.fnodes.filterMap dag_Dag_ids_All.g)).map (·.fID)))
/-! (*concourse/dag.Dag).All: function 125 -/
def dag_Dag_All.l0 (k : Nat) (a0 : DDag) (t831 : List ByteArray) : Nat → Int → List Event → Option (Int × Int × Bool × (List Event) × (List ByteArray))
  | 0, _, _ => none
  | j849 + 1, x834, x835 => cond (decide (x834 < (t831.length : Int))) (grd ((0 : Int) ≤ x834 ∧ x834 < (t831.length : Int)) (grd ((mget a0.fnodes (t831.getD x834.toNat default)).isSome = true) ((dag_own.f (((mget a0.fnodes (t831.getD x834.toNat default)).getD default).fe)).bind fun t845 => grd (x835.length + ([t845] : List Event).length ≤ 9223372036854775807 ∧ (x835.length + ([t845] : List Event).length) * 96 ≤ 140737488355328) (dag_Dag_All.l0 k a0 t831 j849 (w64 (x834 + 1)) (x835 ++ ([t845] : List Event)))))) (some ((t831.length : Int), x834, decide (x834 < (t831.length : Int)), x835, t831))
def dag_Dag_All.f (k : Nat) (a0 : DDag) : Option ((List Event)) := ((dag_Dag_ids_All.f a0).bind fun t831 => dag_Dag_All.l0 k a0 t831 k 0 ([] : List Event)).bind fun (p828 : Int × Int × Bool × (List Event) × (List ByteArray)) => some p828.2.2.2.1
/-! concourse/member.joined: function 101 -/
def member_joined.l0 (k : Nat) (t855 : (List Event)) : Nat → Int → (List (ByteArray × Int)) → Option (Int × Int × Bool × (List (ByteArray × Int)) × (List Event))
  | 0, _, _ => none
  | j866 + 1, x858, x859 => cond (decide (x858 < (t855.length : Int))) (grd ((0 : Int) ≤ x858 ∧ x858 < (t855.length : Int)) (cond (((t855.getD x858.toNat default).fDoes) == 1) (member_joined.l0 k t855 j866 (w64 (x858 + 1)) (mput x859 ((t855.getD x858.toNat default).fUser) 1)) (cond (((t855.getD x858.toNat default).fDoes) == 2) (member_joined.l0 k t855 j866 (w64 (x858 + 1)) (mdel x859 ((t855.getD x858.toNat default).fUser))) (member_joined.l0 k t855 j866 (w64 (x858 + 1)) x859)))) (some ((t855.length : Int), x858, decide (x858 < (t855.length : Int)), x859, t855))
def member_joined.f (k : Nat) (a0 : DDag) : Option ((List (ByteArray × Int))) := ((dag_Dag_All.f k a0).bind fun t855 => member_joined.l0 k t855 k 0 ([] : List (ByteArray × Int))).bind fun (p853 : Int × Int × Bool × (List (ByteArray × Int)) × (List Event)) => some p853.2.2.2.1
/-! concourse/member.Joined: function 73 -/
def member_Joined.f (k : Nat) (a0 : DDag) (a1 : ByteArray) : Option (Bool) := (member_joined.f k a0).bind fun t869 => some (decide (0 < ((mget t869 a1).getD 0)))
/-! (*concourse/view.View).Joined: function 40 -/
def view_View_Joined.f (k : Nat) (a0 : VView) (a1 : ByteArray) (a2 : ByteArray) : Option (Bool) := (view_View_room.f a0 a1).bind fun t872 => (member_Joined.f k t872 a2).bind fun t877 => some t877
/-! (*concourse/view.View).RoomsOf$1: function 72 -/
def view_View_RoomsOf_1.f (k : Nat) (a0 : ByteArray) (c0 : VView) (c1 : ByteArray) : Option (Bool) := (view_View_Joined.f k c0 a0 c1).bind fun t879 => some (!t879)
/-! (*concourse/view.View).RoomsOf: function 39 -/
def view_View_RoomsOf.f (k : Nat) (a0 : VView) (a1 : ByteArray) : Option ((List ByteArray)) := (view_View_Rooms.f a0).bind fun t885 => (slices_DeleteFunc_string_xo.f k t885 (fun a0_ => view_View_RoomsOf_1.f k a0_ a0 a1)).bind fun t888 => some t888
/-! concourse/gate.Accept: function 13 -/
def gate_Accept.f (k : Nat) (a0 : VView) (a1 : ByteArray) (a2 : Edu) : Option (Int) := (edu_May.f k a2).bind fun t892 => cond (!t892) (some 1) ((name_Home.f k a2.fUser).bind fun t895 => cond (!decide (t895 = a1)) (some 6) (cond (a2.fKind == 3) ((view_View_RoomsOf.f k a0 a2.fUser).bind fun t899 => cond ((t899.length : Int) == 0) (cond ((t899.length : Int) == 0) (some 5) (some 0)) (cond (a2.fKind != 3) ((view_View_Joined.f k a0 a2.fRoom a2.fUser).bind fun t907 => cond (!t907) (some 5) (some 0)) (some 0))) (cond (a2.fKind != 3) ((view_View_Joined.f k a0 a2.fRoom a2.fUser).bind fun t915 => cond (!t915) (some 5) (some 0)) (some 0))))
/-! slices.Index[[]string,string]: function 74 -/
def slices_Index_string.l0 (k : Nat) (a0 : List ByteArray) (a1 : ByteArray) : Nat → Int → Option ((Int × Bool) ⊕ (Int))
  | 0, _ => none
  | j924 + 1, x920 => cond (decide (x920 < (a0.length : Int))) (grd ((0 : Int) ≤ x920 ∧ x920 < (a0.length : Int)) (cond (decide (a1 = (strK.at a0 x920))) (some (.inr x920)) (slices_Index_string.l0 k a0 a1 j924 (w64 (x920 + 1))))) (some (.inl (x920, decide (x920 < (a0.length : Int)))))
def slices_Index_string.f (k : Nat) (a0 : List ByteArray) (a1 : ByteArray) : Option (Int) := (slices_Index_string.l0 k a0 a1 k 0).bind (fall fun (p919 : Int × Bool) => some (-1))
/-! slices.Contains[[]string,string]: function 43 -/
def slices_Contains_string.f (k : Nat) (a0 : List ByteArray) (a1 : ByteArray) : Option (Bool) := (slices_Index_string.f k a0 a1).bind fun t926 => some (decide (0 ≤ t926))
/-! slices.Compact[[]string,string] -/
def slices_Compact_string.f (xs : List ByteArray) : Option (List ByteArray) := grd (xs.length ≤ 9223372036854775807) (some (cmpctS xs))
/-! concourse/member.Homes: function 126 -/
def member_Homes.l0 (k : Nat) (a0 : List ByteArray) : Nat → Int → List ByteArray → Option (Int × Bool × (List ByteArray))
  | 0, _, _ => none
  | j945 + 1, x935, x936 => cond (decide (x935 < (a0.length : Int))) (grd ((0 : Int) ≤ x935 ∧ x935 < (a0.length : Int)) ((name_Home.f k (strK.at a0 x935)).bind fun t940 => cond (!decide (t940 = (⟨#[]⟩ : ByteArray))) (grd (x936.length + ([t940] : List ByteArray).length ≤ 9223372036854775807 ∧ (x936.length + ([t940] : List ByteArray).length) * 16 ≤ 140737488355328) (member_Homes.l0 k a0 j945 (w64 (x935 + 1)) (x936 ++ ([t940] : List ByteArray)))) (member_Homes.l0 k a0 j945 (w64 (x935 + 1)) x936))) (some (x935, decide (x935 < (a0.length : Int)), x936))
def member_Homes.f (k : Nat) (a0 : List ByteArray) : Option ((List ByteArray)) := (member_Homes.l0 k a0 k 0 ([] : List ByteArray)).bind fun (p928 : Int × Bool × (List ByteArray)) => (slices_Sort_string.f p928.2.2).bind fun t930 => (slices_Compact_string.f t930).bind fun t932 => some t932
/-! concourse/member.Users -/
def member_Users.f (k : Nat) (a0 : DDag) : Option (List ByteArray) := (member_joined.f k a0).bind fun m => grd (m.length ≤ 1000000) (some (srtS (m.map (·.1))))
/-! concourse/member.Servers: function 103 -/
def member_Servers.f (k : Nat) (a0 : DDag) : Option ((List ByteArray)) := (member_Users.f k a0).bind fun t948 => (member_Homes.f k t948).bind fun t951 => some t951
/-! (*concourse/view.View).Servers: function 76 -/
def view_View_Servers.f (k : Nat) (a0 : VView) (a1 : ByteArray) : Option ((List ByteArray)) := (view_View_room.f a0 a1).bind fun t954 => (member_Servers.f k t954).bind fun t959 => some t959
/-! (*concourse/view.View).Peers: function 75 -/
def view_View_Peers.l0 (k : Nat) (a0 : VView) (t970 : (List ByteArray)) : Nat → Int → List ByteArray → Option (Int × Int × Bool × (List ByteArray) × (List ByteArray))
  | 0, _, _ => none
  | j986 + 1, x973, x974 => cond (decide (x973 < (t970.length : Int))) (grd ((0 : Int) ≤ x973 ∧ x973 < (t970.length : Int)) ((view_View_Servers.f k a0 (t970.getD x973.toNat default)).bind fun t981 => grd (x974.length + t981.length ≤ 9223372036854775807 ∧ (x974.length + t981.length) * 16 ≤ 140737488355328) (view_View_Peers.l0 k a0 t970 j986 (w64 (x973 + 1)) (x974 ++ t981)))) (some ((t970.length : Int), x973, decide (x973 < (t970.length : Int)), x974, t970))
def view_View_Peers.f (k : Nat) (a0 : VView) (a1 : ByteArray) : Option ((List ByteArray)) := ((view_View_RoomsOf.f k a0 a1).bind fun t970 => view_View_Peers.l0 k a0 t970 k 0 ([] : List ByteArray)).bind fun (p962 : Int × Int × Bool × (List ByteArray) × (List ByteArray)) => (slices_Sort_string.f p962.2.2.2.1).bind fun t965 => (slices_Compact_string.f t965).bind fun t967 => some t967
/-! concourse/gate.reached: function 44 -/
def gate_reached.f (k : Nat) (a0 : VView) (a1 : Edu) : Option ((List ByteArray)) := (edu_May.f k a1).bind fun t990 => cond (!t990) (some ([] : List ByteArray)) (cond (a1.fKind == 3) ((view_View_Peers.f k a0 a1.fUser).bind fun t994 => some t994) ((view_View_Servers.f k a0 a1.fRoom).bind fun t999 => some t999))
/-! concourse/gate.Passes: function 16 -/
def gate_Passes.f (k : Nat) (a0 : VView) (a1 : ByteArray) (a2 : Edu) : Option (Bool) := (gate_reached.f k a0 a2).bind fun t1003 => (slices_Contains_string.f k t1003 a1).bind fun t1006 => some t1006
/-! concourse/concourselaw16.lives: function 15 -/
def concourselaw16_lives.f (k : Nat) : Option (Bool) := (view_New.f).bind fun t1008 => (view_View_Add.f k t1008 (⟨(⟨#[36, 97]⟩ : ByteArray), (⟨#[33, 114, 58, 115]⟩ : ByteArray), ([] : List ByteArray), (⟨#[]⟩ : ByteArray), (⟨#[64, 97, 58, 115]⟩ : ByteArray), 1⟩ : Event)).bind fun t1012 => (view_View_Add.f k t1012.2 (⟨(⟨#[36, 98]⟩ : ByteArray), (⟨#[33, 114, 58, 115]⟩ : ByteArray), ([] : List ByteArray), (⟨#[]⟩ : ByteArray), (⟨#[64, 98, 58, 116]⟩ : ByteArray), 1⟩ : Event)).bind fun t1014 => (gate_Passes.f k t1014.2 (⟨#[116]⟩ : ByteArray) (⟨2, (⟨#[33, 114, 58, 115]⟩ : ByteArray), (⟨#[64, 97, 58, 115]⟩ : ByteArray), (⟨#[]⟩ : ByteArray), (⟨#[]⟩ : ByteArray), false, true, 5, 0, 0, 0⟩ : Edu)).bind fun t1017 => cond t1017 ((gate_Passes.f k t1014.2 (⟨#[117]⟩ : ByteArray) (⟨2, (⟨#[33, 114, 58, 115]⟩ : ByteArray), (⟨#[64, 97, 58, 115]⟩ : ByteArray), (⟨#[]⟩ : ByteArray), (⟨#[]⟩ : ByteArray), false, true, 5, 0, 0, 0⟩ : Edu)).bind fun t1020 => cond (!t1020) ((gate_Accept.f k t1014.2 (⟨#[115]⟩ : ByteArray) (⟨2, (⟨#[33, 114, 58, 115]⟩ : ByteArray), (⟨#[64, 97, 58, 115]⟩ : ByteArray), (⟨#[]⟩ : ByteArray), (⟨#[]⟩ : ByteArray), false, true, 5, 0, 0, 0⟩ : Edu)).bind fun t1023 => some (t1023 == 0)) (some false)) (some false)
/-! (*concourse/view.View).Friends$1: function 85 -/
def view_View_Friends_1.f (k : Nat) (a0 : ByteArray) (c0 : VView) (c1 : ByteArray) : Option (Bool) := (view_View_Joined.f k c0 a0 c1).bind fun t1025 => some t1025
/-! (*concourse/view.View).Friends: function 54 -/
def view_View_Friends.f (k : Nat) (a0 : VView) (a1 : ByteArray) (a2 : ByteArray) : Option (Bool) := (view_View_RoomsOf.f k a0 a1).bind fun t1029 => (slices_ContainsFunc_string_xw.f k t1029 (fun a0_ => view_View_Friends_1.f k a0_ a0 a2)).bind fun t1034 => some t1034
/-! concourse/gate.Sees: function 25 -/
def gate_Sees.f (k : Nat) (a0 : VView) (a1 : ByteArray) (a2 : Edu) : Option (Bool) := (edu_Local.f k a2).bind fun t1037 => cond (!t1037) (some false) (cond (a2.fKind == 3) ((view_View_Friends.f k a0 a1 a2.fUser).bind fun t1041 => some t1041) ((view_View_Joined.f k a0 a2.fRoom a1).bind fun t1045 => cond t1045 (cond (!a2.fPrivate) (some true) (some (decide (a2.fUser = a1)))) (some false)))
/-! concourse/concourseref07.Before: function 114 -/
def concourseref07_Before.f (a0 : Pos) (a1 : Pos) : Option (Bool) := cond (decide (a0.fDepth < a1.fDepth)) (some true) (cond (a0.fDepth == a1.fDepth) (some (sLt a0.fID a1.fID)) (some false))
/-! concourse/concourseref07.Depth: function 128 -/
def concourseref07_Depth.l1 (k : Nat) (a0 : RDag) (x1063 : Int) : Nat → Int → List Int → Option (Int × Bool × (List Int))
  | 0, _, _ => none
  | j1081 + 1, x1067, x1068 => grd ((0 : Int) ≤ x1063 ∧ x1063 < (a0.fL.length : Int)) (cond (decide (x1067 < (((Event.K.at a0.fL x1063).fParents).length : Int))) (grd ((0 : Int) ≤ x1063 ∧ x1063 < (x1068.length : Int)) (grd ((0 : Int) ≤ x1063 ∧ x1063 < (a0.fL.length : Int)) (grd ((0 : Int) ≤ x1067 ∧ x1067 < (((Event.K.at a0.fL x1063).fParents).length : Int)) ((concourseref07_At.f k a0 (strK.at ((Event.K.at a0.fL x1063).fParents) x1067)).bind fun t1075 => grd ((0 : Int) ≤ t1075 ∧ t1075 < (x1068.length : Int)) (grd ((0 : Int) ≤ x1063 ∧ x1063 < (x1068.length : Int)) (concourseref07_Depth.l1 k a0 x1063 j1081 (w64 (x1067 + 1)) (x1068.set x1063.toNat (max (x1068.getD x1063.toNat default) (w64 ((x1068.getD t1075.toNat default) + 1)))))))))) (some (x1067, decide (x1067 < (((Event.K.at a0.fL x1063).fParents).length : Int)), x1068)))
def concourseref07_Depth.l0 (k : Nat) (a0 : RDag) (t1054 : Int) : Nat → Int → List Int → Option (Int × Bool × (List Int))
  | 0, _, _ => none
  | j1083 + 1, x1063, x1064 => cond (decide (x1063 ≤ t1054)) ((concourseref07_Depth.l1 k a0 x1063 k 0 x1064).bind fun (p1066 : Int × Bool × (List Int)) => concourseref07_Depth.l0 k a0 t1054 j1083 (w64 (x1063 + 1)) p1066.2.2) (some (x1063, decide (x1063 ≤ t1054), x1064))
def concourseref07_Depth.f (k : Nat) (a0 : RDag) (a1 : ByteArray) : Option (Int) := (concourseref07_At.f k a0 a1).bind fun t1054 => cond (decide (t1054 < 0)) (some 0) (grd ((0 : Int) ≤ (w64 (t1054 + 1)) ∧ (w64 (t1054 + 1)) ≤ (9223372036854775807 : Int) ∧ (w64 (t1054 + 1)).toNat * 8 ≤ 140737488355328) ((concourseref07_Depth.l0 k a0 t1054 k 0 (List.replicate (w64 (t1054 + 1)).toNat (0 : Int))).bind fun (p1060 : Int × Bool × (List Int)) => grd ((0 : Int) ≤ t1054 ∧ t1054 < (p1060.2.2.length : Int)) (some (p1060.2.2.getD t1054.toNat default))))
/-! concourse/concourseref07.Position: function 115 -/
def concourseref07_Position.f (k : Nat) (a0 : RDag) (a1 : ByteArray) : Option (Pos) := (concourseref07_Depth.f k a0 a1).bind fun t1087 => some (⟨t1087, a1⟩ : Pos)
/-! concourse/concourseref09.Last: function 89 -/
def concourseref09_Last.l0 (k : Nat) (a0 : RDag) (a1 : ByteArray) : Nat → Int → Int → Option (Int × Int × Bool)
  | 0, _, _ => none
  | j1112 + 1, x1094, x1095 => cond (decide (x1095 < (a0.fL.length : Int))) (grd ((0 : Int) ≤ x1095 ∧ x1095 < (a0.fL.length : Int)) (cond (!decide (((Event.K.at a0.fL x1095).fUser) = a1)) (concourseref09_Last.l0 k a0 a1 j1112 x1094 (w64 (x1095 + 1))) (grd ((0 : Int) ≤ x1095 ∧ x1095 < (a0.fL.length : Int)) (cond (((Event.K.at a0.fL x1095).fDoes) == 0) (concourseref09_Last.l0 k a0 a1 j1112 x1094 (w64 (x1095 + 1))) (cond (decide (x1094 < 0)) (concourseref09_Last.l0 k a0 a1 j1112 x1095 (w64 (x1095 + 1))) (grd ((0 : Int) ≤ x1094 ∧ x1094 < (a0.fL.length : Int)) ((concourseref07_Position.f k a0 ((Event.K.at a0.fL x1094).fID)).bind fun t1104 => grd ((0 : Int) ≤ x1095 ∧ x1095 < (a0.fL.length : Int)) ((concourseref07_Position.f k a0 ((Event.K.at a0.fL x1095).fID)).bind fun t1107 => (concourseref07_Before.f t1104 t1107).bind fun t1109 => cond t1109 (concourseref09_Last.l0 k a0 a1 j1112 x1095 (w64 (x1095 + 1))) (concourseref09_Last.l0 k a0 a1 j1112 x1094 (w64 (x1095 + 1))))))))))) (some (x1094, x1095, decide (x1095 < (a0.fL.length : Int))))
def concourseref09_Last.f (k : Nat) (a0 : RDag) (a1 : ByteArray) : Option (Event × Bool) := (concourseref09_Last.l0 k a0 a1 k (-1) 0).bind fun (p1091 : Int × Int × Bool) => cond (decide (p1091.1 < 0)) (some ((⟨(⟨#[]⟩ : ByteArray), (⟨#[]⟩ : ByteArray), ([] : List ByteArray), (⟨#[]⟩ : ByteArray), (⟨#[]⟩ : ByteArray), 0⟩ : Event), false)) (grd ((0 : Int) ≤ p1091.1 ∧ p1091.1 < (a0.fL.length : Int)) (some (Event.K.at a0.fL p1091.1, true)))
/-! concourse/concourseref09.Joined: function 60 -/
def concourseref09_Joined.f (k : Nat) (a0 : RDag) (a1 : ByteArray) : Option (Bool) := (concourseref09_Last.f k a0 a1).bind fun t1115 => cond t1115.2 (some (t1115.1.fDoes == 1)) (some false)
/-! concourse/concourseref10.Joined: function 28 -/
def concourseref10_Joined.f (k : Nat) (a0 : RView) (a1 : ByteArray) (a2 : ByteArray) : Option (Bool) := (concourseref10_Of.f k a0 a1).bind fun t1120 => (concourseref09_Joined.f k t1120 a2).bind fun t1122 => some t1122
/-! concourse/concourseref01.Thread: function 87 -/
def concourseref01_Thread.f (k : Nat) (a0 : ByteArray) : Option (Bool) := (concourseref01_Event.f k a0).bind fun t1124 => cond (decide (a0 = (⟨#[]⟩ : ByteArray))) (some true) (cond (decide (a0 = (⟨#[109, 97, 105, 110]⟩ : ByteArray))) (some true) (some t1124))
/-! concourse/concourseref03.Local: function 55 -/
def concourseref03_Local.f (k : Nat) (a0 : Edu) : Option (Bool) := (concourseref01_Named.f k a0.fUser 64).bind fun t1129 => (concourseref01_Named.f k a0.fRoom 33).bind fun t1131 => (concourseref01_Event.f k a0.fEvent).bind fun t1133 => (concourseref01_Thread.f k a0.fThread).bind fun t1135 => cond (!t1129) (some false) (cond (decide (a0.fTick < 0)) (some false) (cond (decide (1099511627776 < a0.fTick)) (some false) (cond (decide (a0.fStamp < 0)) (some false) (cond (decide (1099511627776 < a0.fStamp)) (some false) (cond (a0.fKind == 1) (cond t1131 (cond t1133 (cond t1135 (cond (!a0.fOn) (cond (a0.fSpan == 0) (some (a0.fState == 0)) (some false)) (some false)) (some false)) (some false)) (some false)) (cond (a0.fKind == 2) (cond a0.fOn (cond (decide (1 ≤ a0.fSpan)) (cond (decide (a0.fSpan ≤ 60)) (cond t1131 (cond (decide (a0.fEvent = (⟨#[]⟩ : ByteArray))) (cond (decide (a0.fThread = (⟨#[]⟩ : ByteArray))) (cond (a0.fState == 0) (some (!a0.fPrivate)) (some false)) (some false)) (some false)) (some false)) (cond (!a0.fOn) (cond t1131 (cond (a0.fSpan == 0) (cond (decide (a0.fEvent = (⟨#[]⟩ : ByteArray))) (cond (decide (a0.fThread = (⟨#[]⟩ : ByteArray))) (cond (a0.fState == 0) (some (!a0.fPrivate)) (some false)) (some false)) (some false)) (some false)) (some false)) (cond t1131 (some false) (some false)))) (cond (!a0.fOn) (cond t1131 (cond (a0.fSpan == 0) (cond (decide (a0.fEvent = (⟨#[]⟩ : ByteArray))) (cond (decide (a0.fThread = (⟨#[]⟩ : ByteArray))) (cond (a0.fState == 0) (some (!a0.fPrivate)) (some false)) (some false)) (some false)) (some false)) (some false)) (cond t1131 (some false) (some false)))) (cond (!a0.fOn) (cond t1131 (cond (a0.fSpan == 0) (cond (decide (a0.fEvent = (⟨#[]⟩ : ByteArray))) (cond (decide (a0.fThread = (⟨#[]⟩ : ByteArray))) (cond (a0.fState == 0) (some (!a0.fPrivate)) (some false)) (some false)) (some false)) (some false)) (some false)) (cond t1131 (some false) (some false)))) (cond (a0.fKind == 3) (cond (decide (a0.fRoom = (⟨#[]⟩ : ByteArray))) (cond (decide (a0.fEvent = (⟨#[]⟩ : ByteArray))) (cond (decide (a0.fThread = (⟨#[]⟩ : ByteArray))) (cond (!a0.fOn) (cond (a0.fSpan == 0) (cond (!a0.fPrivate) (cond (decide (0 ≤ a0.fState)) (some (decide (a0.fState ≤ 2))) (some false)) (some false)) (some false)) (some false)) (some false)) (some false)) (some false)) (some false))))))))
/-! concourse/concourseref10.RoomsOf: function 42 -/
def concourseref10_RoomsOf.l0 (k : Nat) (a0 : RView) (a1 : ByteArray) : Nat → Int → List ByteArray → Option (Int × Bool × (List ByteArray))
  | 0, _, _ => none
  | j1203 + 1, x1192, x1193 => cond (decide (x1192 < (a0.fD.length : Int))) (grd ((0 : Int) ≤ x1192 ∧ x1192 < (a0.fD.length : Int)) ((concourseref09_Joined.f k (RDag.K.at a0.fD x1192) a1).bind fun t1197 => cond t1197 (grd ((0 : Int) ≤ x1192 ∧ x1192 < (a0.fD.length : Int)) (grd (x1193.length + ([(RDag.K.at a0.fD x1192).fRoom] : List ByteArray).length ≤ 9223372036854775807 ∧ (x1193.length + ([(RDag.K.at a0.fD x1192).fRoom] : List ByteArray).length) * 16 ≤ 140737488355328) (concourseref10_RoomsOf.l0 k a0 a1 j1203 (w64 (x1192 + 1)) (x1193 ++ ([(RDag.K.at a0.fD x1192).fRoom] : List ByteArray))))) (concourseref10_RoomsOf.l0 k a0 a1 j1203 (w64 (x1192 + 1)) x1193))) (some (x1192, decide (x1192 < (a0.fD.length : Int)), x1193))
def concourseref10_RoomsOf.f (k : Nat) (a0 : RView) (a1 : ByteArray) : Option ((List ByteArray)) := (concourseref10_RoomsOf.l0 k a0 a1 k 0 ([] : List ByteArray)).bind fun (p1190 : Int × Bool × (List ByteArray)) => some p1190.2.2
/-! concourse/concourseref10.Friends: function 56 -/
def concourseref10_Friends.l0 (k : Nat) (a0 : RView) (a2 : ByteArray) (t1207 : (List ByteArray)) : Nat → Int → Option ((Int × Bool) ⊕ (Bool))
  | 0, _ => none
  | j1218 + 1, x1211 => cond (decide (x1211 < (t1207.length : Int))) (grd ((0 : Int) ≤ x1211 ∧ x1211 < (t1207.length : Int)) ((concourseref10_Joined.f k a0 (t1207.getD x1211.toNat default) a2).bind fun t1215 => cond t1215 (some (.inr true)) (concourseref10_Friends.l0 k a0 a2 t1207 j1218 (w64 (x1211 + 1))))) (some (.inl (x1211, decide (x1211 < (t1207.length : Int)))))
def concourseref10_Friends.f (k : Nat) (a0 : RView) (a1 : ByteArray) (a2 : ByteArray) : Option (Bool) := (concourseref10_RoomsOf.f k a0 a1).bind fun t1207 => (concourseref10_Friends.l0 k a0 a2 t1207 k 0).bind (fall fun (p1210 : Int × Bool) => some false)
/-! concourse/concourseref16.Sees: function 26 -/
def concourseref16_Sees.f (k : Nat) (a0 : RView) (a1 : ByteArray) (a2 : Edu) : Option (Bool) := (concourseref03_Local.f k a2).bind fun t1222 => cond (!t1222) (some false) (cond (a2.fKind == 3) ((concourseref10_Friends.f k a0 a1 a2.fUser).bind fun t1226 => some t1226) ((concourseref10_Joined.f k a0 a2.fRoom a1).bind fun t1228 => cond t1228 (cond (!a2.fPrivate) (some true) (some (decide (a1 = a2.fUser)))) (some false)))
/-! concourse/concourselaw16.GateSees: function 6 -/
def concourselaw16_GateSees.l1 (k : Nat) (a3 : ByteArray) (t1233 : (Option VView) × RView) (t1238 : (List Edu)) (x1243 : Int) : Nat → Int → Option ((Int × Bool) ⊕ ((Int × Bool) ⊕ (Bool)))
  | 0, _ => none
  | j1261 + 1, x1246 => cond (decide (x1246 < 10)) ((concourseref01_UserOf.f (x1246.tmod 9)).bind fun t1248 => (cond (x1246 == 9) ((concourseref01_Few.f a3 8).bind fun t1259 => some t1259) (some t1248)).bind fun (p1250 : ByteArray) => grd ((0 : Int) ≤ x1243 ∧ x1243 < (t1238.length : Int)) (grd ((0 : Int) ≤ x1243 ∧ x1243 < (t1238.length : Int)) ((gate_Sees.f k (t1233.1.getD default) p1250 (Edu.K.at t1238 x1243)).bind fun t1253 => (concourseref16_Sees.f k t1233.2 p1250 (Edu.K.at t1238 x1243)).bind fun t1255 => cond (t1253 != t1255) (some (.inr (.inr false))) (concourselaw16_GateSees.l1 k a3 t1233 t1238 x1243 j1261 (w64 (x1246 + 1)))))) (some (.inl (x1246, decide (x1246 < 10))))
def concourselaw16_GateSees.l0 (k : Nat) (a3 : ByteArray) (t1233 : (Option VView) × RView) (t1238 : (List Edu)) : Nat → Int → Option ((Int × Bool) ⊕ (Bool))
  | 0, _ => none
  | j1263 + 1, x1243 => cond (decide (x1243 < (t1238.length : Int))) ((concourselaw16_GateSees.l1 k a3 t1233 t1238 x1243 k 0).bind (fall fun (p1245 : Int × Bool) => concourselaw16_GateSees.l0 k a3 t1233 t1238 j1263 (w64 (x1243 + 1)))) (some (.inl (x1243, decide (x1243 < (t1238.length : Int)))))
def concourselaw16_GateSees.f (k : Nat) (a0 : List GMade) (a1 : List GMade) (a2 : Edu) (a3 : ByteArray) : Option (Bool) := (concourselaw16_build.f k a0 a1).bind fun t1233 => cond t1233.1.isNone (some false) ((concourselaw16_some.f k a2).bind fun t1238 => (concourselaw16_GateSees.l0 k a3 t1233 t1238 k 0).bind (fall fun (p1240 : Int × Bool) => (concourselaw16_lives.f k).bind fun t1241 => some t1241))
/-! concourse/concourseref01.Home: function 30 -/
def concourseref01_Home.f (k : Nat) (a0 : ByteArray) : Option (ByteArray) := (concourseref01_Named.f k a0 64).bind fun t1265 => (concourseref01_Named.f k a0 33).bind fun t1267 => cond (!t1265) (cond (!t1267) (some (⟨#[]⟩ : ByteArray)) ((concourseref01_colon.f k a0).bind fun t1271 => grd ((0 : Int) ≤ (w64 (t1271 + 1)) ∧ (w64 (t1271 + 1)).toNat ≤ a0.size ∧ a0.size ≤ a0.size) (some (a0.extract (w64 (t1271 + 1)).toNat a0.size)))) ((concourseref01_colon.f k a0).bind fun t1275 => grd ((0 : Int) ≤ (w64 (t1275 + 1)) ∧ (w64 (t1275 + 1)).toNat ≤ a0.size ∧ a0.size ≤ a0.size) (some (a0.extract (w64 (t1275 + 1)).toNat a0.size)))
/-! concourse/concourseref03.May: function 41 -/
def concourseref03_May.f (k : Nat) (a0 : Edu) : Option (Bool) := (concourseref03_Local.f k a0).bind fun t1279 => cond t1279 (some (!a0.fPrivate)) (some false)
/-! concourse/concourseref16.Accept: function 14 -/
def concourseref16_Accept.f (k : Nat) (a0 : RView) (a1 : ByteArray) (a2 : Edu) : Option (Int) := (concourseref03_May.f k a2).bind fun t1284 => cond (!t1284) (some 1) ((concourseref01_Home.f k a2.fUser).bind fun t1287 => cond (!decide (t1287 = a1)) (some 6) (cond (a2.fKind == 3) ((concourseref10_RoomsOf.f k a0 a2.fUser).bind fun t1291 => cond ((t1291.length : Int) == 0) (some 5) (some 0)) ((concourseref10_Joined.f k a0 a2.fRoom a2.fUser).bind fun t1295 => cond (!t1295) (some 5) (some 0))))
/-! concourse/concourselaw16.GateAccepts: function 3 -/
def concourselaw16_GateAccepts.l1 (k : Nat) (t1299 : (Option VView) × RView) (t1304 : (List Edu)) (t1306 : ByteArray) (t1308 : ByteArray) (t1310 : ByteArray) (t1312 : ByteArray) (x1317 : Int) : Nat → Int → Option ((Int × Bool) ⊕ ((Int × Bool) ⊕ (Bool)))
  | 0, _ => none
  | j1331 + 1, x1320 => cond (decide (x1320 < (([t1306, t1308, t1310, t1312, (⟨#[]⟩ : ByteArray)] : List ByteArray).length : Int))) (grd ((0 : Int) ≤ x1320 ∧ x1320 < (([t1306, t1308, t1310, t1312, (⟨#[]⟩ : ByteArray)] : List ByteArray).length : Int)) (grd ((0 : Int) ≤ x1317 ∧ x1317 < (t1304.length : Int)) (grd ((0 : Int) ≤ x1320 ∧ x1320 < (([t1306, t1308, t1310, t1312, (⟨#[]⟩ : ByteArray)] : List ByteArray).length : Int)) (grd ((0 : Int) ≤ x1317 ∧ x1317 < (t1304.length : Int)) ((gate_Accept.f k (t1299.1.getD default) (strK.at ([t1306, t1308, t1310, t1312, (⟨#[]⟩ : ByteArray)] : List ByteArray) x1320) (Edu.K.at t1304 x1317)).bind fun t1326 => (concourseref16_Accept.f k t1299.2 (strK.at ([t1306, t1308, t1310, t1312, (⟨#[]⟩ : ByteArray)] : List ByteArray) x1320) (Edu.K.at t1304 x1317)).bind fun t1328 => cond (t1326 != t1328) (some (.inr (.inr false))) (concourselaw16_GateAccepts.l1 k t1299 t1304 t1306 t1308 t1310 t1312 x1317 j1331 (w64 (x1320 + 1)))))))) (some (.inl (x1320, decide (x1320 < (([t1306, t1308, t1310, t1312, (⟨#[]⟩ : ByteArray)] : List ByteArray).length : Int)))))
def concourselaw16_GateAccepts.l0 (k : Nat) (t1299 : (Option VView) × RView) (t1304 : (List Edu)) (t1306 : ByteArray) (t1308 : ByteArray) (t1310 : ByteArray) (t1312 : ByteArray) : Nat → Int → Option ((Int × Bool) ⊕ (Bool))
  | 0, _ => none
  | j1333 + 1, x1317 => cond (decide (x1317 < (t1304.length : Int))) ((concourselaw16_GateAccepts.l1 k t1299 t1304 t1306 t1308 t1310 t1312 x1317 k 0).bind (fall fun (p1319 : Int × Bool) => concourselaw16_GateAccepts.l0 k t1299 t1304 t1306 t1308 t1310 t1312 j1333 (w64 (x1317 + 1)))) (some (.inl (x1317, decide (x1317 < (t1304.length : Int)))))
def concourselaw16_GateAccepts.f (k : Nat) (a0 : List GMade) (a1 : List GMade) (a2 : Edu) (a3 : ByteArray) : Option (Bool) := (concourselaw16_build.f k a0 a1).bind fun t1299 => cond t1299.1.isNone (some false) ((concourselaw16_some.f k a2).bind fun t1304 => (concourseref01_ServerOf.f 0).bind fun t1306 => (concourseref01_ServerOf.f 1).bind fun t1308 => (concourseref01_ServerOf.f 2).bind fun t1310 => (concourseref01_Few.f a3 8).bind fun t1312 => (concourselaw16_GateAccepts.l0 k t1299 t1304 t1306 t1308 t1310 t1312 k 0).bind (fall fun (p1314 : Int × Bool) => (concourselaw16_lives.f k).bind fun t1315 => some t1315))
/-! concourse/concourseref09.Has: function 45 -/
def concourseref09_Has.l0 (k : Nat) (a0 : List ByteArray) (a1 : ByteArray) : Nat → Int → Option ((Int × Bool) ⊕ (Bool))
  | 0, _ => none
  | j1340 + 1, x1336 => cond (decide (x1336 < (a0.length : Int))) (grd ((0 : Int) ≤ x1336 ∧ x1336 < (a0.length : Int)) (cond (decide ((strK.at a0 x1336) = a1)) (some (.inr true)) (concourseref09_Has.l0 k a0 a1 j1340 (w64 (x1336 + 1))))) (some (.inl (x1336, decide (x1336 < (a0.length : Int)))))
def concourseref09_Has.f (k : Nat) (a0 : List ByteArray) (a1 : ByteArray) : Option (Bool) := (concourseref09_Has.l0 k a0 a1 k 0).bind (fall fun (p1335 : Int × Bool) => some false)
/-! concourse/concourseref09.Put: function 77 -/
def concourseref09_Put.l0 (k : Nat) (a0 : List ByteArray) (a1 : ByteArray) : Nat → Bool → Int → List ByteArray → Option (Bool × Int × Bool × (List ByteArray))
  | 0, _, _, _ => none
  | j1366 + 1, x1347, x1348, x1349 => cond (decide (x1348 < (a0.length : Int))) ((cond (!x1347) (grd ((0 : Int) ≤ x1348 ∧ x1348 < (a0.length : Int)) (cond (!sLt (strK.at a0 x1348) a1) (grd (x1349.length + ([a1] : List ByteArray).length ≤ 9223372036854775807 ∧ (x1349.length + ([a1] : List ByteArray).length) * 16 ≤ 140737488355328) (some (true, !sLt (strK.at a0 x1348) a1, x1349 ++ ([a1] : List ByteArray)))) (some (x1347, !sLt (strK.at a0 x1348) a1, x1349)))) (some (x1347, false, x1349))).bind fun (p1352 : Bool × Bool × (List ByteArray)) => grd ((0 : Int) ≤ x1348 ∧ x1348 < (a0.length : Int)) (cond (!decide ((strK.at a0 x1348) = a1)) (grd ((0 : Int) ≤ x1348 ∧ x1348 < (a0.length : Int)) (grd (p1352.2.2.length + ([strK.at a0 x1348] : List ByteArray).length ≤ 9223372036854775807 ∧ (p1352.2.2.length + ([strK.at a0 x1348] : List ByteArray).length) * 16 ≤ 140737488355328) (concourseref09_Put.l0 k a0 a1 j1366 p1352.1 (w64 (x1348 + 1)) (p1352.2.2 ++ ([strK.at a0 x1348] : List ByteArray))))) (concourseref09_Put.l0 k a0 a1 j1366 p1352.1 (w64 (x1348 + 1)) p1352.2.2))) (some (x1347, x1348, decide (x1348 < (a0.length : Int)), x1349))
def concourseref09_Put.f (k : Nat) (a0 : List ByteArray) (a1 : ByteArray) : Option ((List ByteArray)) := (concourseref09_Put.l0 k a0 a1 k false 0 ([] : List ByteArray)).bind fun (p1342 : Bool × Int × Bool × (List ByteArray)) => cond (!p1342.1) (grd (p1342.2.2.2.length + ([a1] : List ByteArray).length ≤ 9223372036854775807 ∧ (p1342.2.2.2.length + ([a1] : List ByteArray).length) * 16 ≤ 140737488355328) (some (p1342.2.2.2 ++ ([a1] : List ByteArray)))) (some p1342.2.2.2)
/-! concourse/concourseref09.Homes: function 104 -/
def concourseref09_Homes.l0 (k : Nat) (a0 : List ByteArray) : Nat → Int → List ByteArray → Option (Int × Bool × (List ByteArray))
  | 0, _, _ => none
  | j1382 + 1, x1371, x1372 => cond (decide (x1371 < (a0.length : Int))) (grd ((0 : Int) ≤ x1371 ∧ x1371 < (a0.length : Int)) ((concourseref01_Home.f k (strK.at a0 x1371)).bind fun t1376 => cond (!decide (t1376 = (⟨#[]⟩ : ByteArray))) ((concourseref09_Put.f k x1372 t1376).bind fun t1379 => concourseref09_Homes.l0 k a0 j1382 (w64 (x1371 + 1)) t1379) (concourseref09_Homes.l0 k a0 j1382 (w64 (x1371 + 1)) x1372))) (some (x1371, decide (x1371 < (a0.length : Int)), x1372))
def concourseref09_Homes.f (k : Nat) (a0 : List ByteArray) : Option ((List ByteArray)) := (concourseref09_Homes.l0 k a0 k 0 ([] : List ByteArray)).bind fun (p1369 : Int × Bool × (List ByteArray)) => some p1369.2.2
/-! concourse/concourseref09.Users: function 105 -/
def concourseref09_Users.l0 (k : Nat) (a0 : RDag) : Nat → Int → List ByteArray → Option (Int × Bool × (List ByteArray))
  | 0, _, _ => none
  | j1400 + 1, x1388, x1389 => cond (decide (x1388 < (a0.fL.length : Int))) (grd ((0 : Int) ≤ x1388 ∧ x1388 < (a0.fL.length : Int)) ((concourseref09_Joined.f k a0 ((Event.K.at a0.fL x1388).fUser)).bind fun t1393 => cond t1393 (grd ((0 : Int) ≤ x1388 ∧ x1388 < (a0.fL.length : Int)) ((concourseref09_Put.f k x1389 ((Event.K.at a0.fL x1388).fUser)).bind fun t1397 => concourseref09_Users.l0 k a0 j1400 (w64 (x1388 + 1)) t1397)) (concourseref09_Users.l0 k a0 j1400 (w64 (x1388 + 1)) x1389))) (some (x1388, decide (x1388 < (a0.fL.length : Int)), x1389))
def concourseref09_Users.f (k : Nat) (a0 : RDag) : Option ((List ByteArray)) := (concourseref09_Users.l0 k a0 k 0 ([] : List ByteArray)).bind fun (p1386 : Int × Bool × (List ByteArray)) => some p1386.2.2
/-! concourse/concourseref09.Servers: function 78 -/
def concourseref09_Servers.f (k : Nat) (a0 : RDag) : Option ((List ByteArray)) := (concourseref09_Users.f k a0).bind fun t1404 => (concourseref09_Homes.f k t1404).bind fun t1407 => some t1407
/-! concourse/concourseref10.Servers: function 47 -/
def concourseref10_Servers.f (k : Nat) (a0 : RView) (a1 : ByteArray) : Option ((List ByteArray)) := (concourseref10_Of.f k a0 a1).bind fun t1411 => (concourseref09_Servers.f k t1411).bind fun t1413 => some t1413
/-! concourse/concourseref10.Peers: function 46 -/
def concourseref10_Peers.l1 (k : Nat) (t1431 : (List ByteArray)) : Nat → Int → List ByteArray → Option (Int × Bool × (List ByteArray) × (List ByteArray))
  | 0, _, _ => none
  | j1443 + 1, x1434, x1435 => cond (decide (x1434 < (t1431.length : Int))) (grd ((0 : Int) ≤ x1434 ∧ x1434 < (t1431.length : Int)) ((concourseref09_Put.f k x1435 (t1431.getD x1434.toNat default)).bind fun t1440 => concourseref10_Peers.l1 k t1431 j1443 (w64 (x1434 + 1)) t1440)) (some (x1434, decide (x1434 < (t1431.length : Int)), x1435, t1431))
def concourseref10_Peers.l0 (k : Nat) (a0 : RView) (t1417 : (List ByteArray)) : Nat → Int → List ByteArray → Option (Int × Bool × (List ByteArray))
  | 0, _, _ => none
  | j1446 + 1, x1422, x1423 => cond (decide (x1422 < (t1417.length : Int))) ((grd ((0 : Int) ≤ x1422 ∧ x1422 < (t1417.length : Int)) ((concourseref10_Servers.f k a0 (t1417.getD x1422.toNat default)).bind fun t1431 => concourseref10_Peers.l1 k t1431 k 0 x1423)).bind fun (p1426 : Int × Bool × (List ByteArray) × (List ByteArray)) => concourseref10_Peers.l0 k a0 t1417 j1446 (w64 (x1422 + 1)) p1426.2.2.1) (some (x1422, decide (x1422 < (t1417.length : Int)), x1423))
def concourseref10_Peers.f (k : Nat) (a0 : RView) (a1 : ByteArray) : Option ((List ByteArray)) := (concourseref10_RoomsOf.f k a0 a1).bind fun t1417 => (concourseref10_Peers.l0 k a0 t1417 k 0 ([] : List ByteArray)).bind fun (p1420 : Int × Bool × (List ByteArray)) => some p1420.2.2
/-! concourse/concourseref16.Passes: function 17 -/
def concourseref16_Passes.f (k : Nat) (a0 : RView) (a1 : ByteArray) (a2 : Edu) : Option (Bool) := (concourseref03_May.f k a2).bind fun t1451 => cond (!t1451) (some false) (cond (a2.fKind == 3) ((concourseref10_Peers.f k a0 a2.fUser).bind fun t1455 => (concourseref09_Has.f k t1455 a1).bind fun t1458 => some t1458) ((concourseref10_Servers.f k a0 a2.fRoom).bind fun t1460 => (concourseref09_Has.f k t1460 a1).bind fun t1463 => some t1463))
/-! concourse/concourseref01.SameTexts: function 18 -/
def concourseref01_SameTexts.l0 (k : Nat) (a0 : List ByteArray) (a1 : List ByteArray) : Nat → Int → Option ((Int × Bool) ⊕ (Bool))
  | 0, _ => none
  | j1472 + 1, x1467 => cond (decide (x1467 < (a0.length : Int))) (grd ((0 : Int) ≤ x1467 ∧ x1467 < (a0.length : Int)) (grd ((0 : Int) ≤ x1467 ∧ x1467 < (a1.length : Int)) (cond (!decide ((strK.at a0 x1467) = (strK.at a1 x1467))) (some (.inr false)) (concourseref01_SameTexts.l0 k a0 a1 j1472 (w64 (x1467 + 1)))))) (some (.inl (x1467, decide (x1467 < (a0.length : Int)))))
def concourseref01_SameTexts.f (k : Nat) (a0 : List ByteArray) (a1 : List ByteArray) : Option (Bool) := cond ((a0.length : Int) != (a1.length : Int)) (some false) ((concourseref01_SameTexts.l0 k a0 a1 k 0).bind (fall fun (p1466 : Int × Bool) => some true))
/-! concourse/gate.Targets$1: function 49 -/
def gate_Targets_1.f (a0 : ByteArray) (c0 : ByteArray) : Option (Bool) := some (decide (a0 = c0))
/-! concourse/gate.Targets: function 19 -/
def gate_Targets.f (k : Nat) (a0 : VView) (a1 : ByteArray) (a2 : Edu) : Option ((List ByteArray)) := (gate_reached.f k a0 a2).bind fun t1476 => (slices_DeleteFunc_string_xo.f k t1476 (fun a0_ => gate_Targets_1.f a0_ a1)).bind fun t1479 => some t1479
/-! concourse/concourseref16.Targets: function 20 -/
def concourseref16_Targets.l0 (k : Nat) (a0 : RView) (a1 : ByteArray) (a2 : Edu) (p1487 : (List ByteArray)) : Nat → Int → List ByteArray → Option (Int × Bool × (List ByteArray))
  | 0, _, _ => none
  | j1508 + 1, x1491, x1492 => cond (decide (x1491 < (p1487.length : Int))) (grd ((0 : Int) ≤ x1491 ∧ x1491 < (p1487.length : Int)) ((concourseref16_Passes.f k a0 (p1487.getD x1491.toNat default) a2).bind fun t1497 => cond t1497 (grd ((0 : Int) ≤ x1491 ∧ x1491 < (p1487.length : Int)) (cond (!decide ((p1487.getD x1491.toNat default) = a1)) (grd ((0 : Int) ≤ x1491 ∧ x1491 < (p1487.length : Int)) (grd (x1492.length + ([p1487.getD x1491.toNat default] : List ByteArray).length ≤ 9223372036854775807 ∧ (x1492.length + ([p1487.getD x1491.toNat default] : List ByteArray).length) * 16 ≤ 140737488355328) (concourseref16_Targets.l0 k a0 a1 a2 p1487 j1508 (w64 (x1491 + 1)) (x1492 ++ ([p1487.getD x1491.toNat default] : List ByteArray))))) (concourseref16_Targets.l0 k a0 a1 a2 p1487 j1508 (w64 (x1491 + 1)) x1492))) (concourseref16_Targets.l0 k a0 a1 a2 p1487 j1508 (w64 (x1491 + 1)) x1492))) (some (x1491, decide (x1491 < (p1487.length : Int)), x1492))
def concourseref16_Targets.f (k : Nat) (a0 : RView) (a1 : ByteArray) (a2 : Edu) : Option ((List ByteArray)) := (concourseref10_Servers.f k a0 a2.fRoom).bind fun t1484 => (cond (a2.fKind == 3) ((concourseref10_Peers.f k a0 a2.fUser).bind fun t1512 => some t1512) (some t1484)).bind fun (p1487 : (List ByteArray)) => (concourseref16_Targets.l0 k a0 a1 a2 p1487 k 0 ([] : List ByteArray)).bind fun (p1489 : Int × Bool × (List ByteArray)) => some p1489.2.2
/-! concourse/concourselaw16.GatePasses: function 4 -/
def concourselaw16_GatePasses.l1 (k : Nat) (t1517 : (Option VView) × RView) (t1522 : (List Edu)) (t1524 : ByteArray) (t1526 : ByteArray) (t1528 : ByteArray) (t1530 : ByteArray) (x1535 : Int) : Nat → Int → Option ((Int × Bool) ⊕ ((Int × Bool) ⊕ (Bool)))
  | 0, _ => none
  | j1563 + 1, x1538 => cond (decide (x1538 < (([t1524, t1526, t1528, t1530, (⟨#[]⟩ : ByteArray)] : List ByteArray).length : Int))) (grd ((0 : Int) ≤ x1538 ∧ x1538 < (([t1524, t1526, t1528, t1530, (⟨#[]⟩ : ByteArray)] : List ByteArray).length : Int)) (grd ((0 : Int) ≤ x1535 ∧ x1535 < (t1522.length : Int)) (grd ((0 : Int) ≤ x1538 ∧ x1538 < (([t1524, t1526, t1528, t1530, (⟨#[]⟩ : ByteArray)] : List ByteArray).length : Int)) (grd ((0 : Int) ≤ x1535 ∧ x1535 < (t1522.length : Int)) ((gate_Passes.f k (t1517.1.getD default) (strK.at ([t1524, t1526, t1528, t1530, (⟨#[]⟩ : ByteArray)] : List ByteArray) x1538) (Edu.K.at t1522 x1535)).bind fun t1544 => (concourseref16_Passes.f k t1517.2 (strK.at ([t1524, t1526, t1528, t1530, (⟨#[]⟩ : ByteArray)] : List ByteArray) x1538) (Edu.K.at t1522 x1535)).bind fun t1546 => cond (t1544 != t1546) (some (.inr (.inr false))) (grd ((0 : Int) ≤ x1538 ∧ x1538 < (([t1524, t1526, t1528, t1530, (⟨#[]⟩ : ByteArray)] : List ByteArray).length : Int)) (grd ((0 : Int) ≤ x1535 ∧ x1535 < (t1522.length : Int)) (grd ((0 : Int) ≤ x1538 ∧ x1538 < (([t1524, t1526, t1528, t1530, (⟨#[]⟩ : ByteArray)] : List ByteArray).length : Int)) (grd ((0 : Int) ≤ x1535 ∧ x1535 < (t1522.length : Int)) ((gate_Targets.f k (t1517.1.getD default) (strK.at ([t1524, t1526, t1528, t1530, (⟨#[]⟩ : ByteArray)] : List ByteArray) x1538) (Edu.K.at t1522 x1535)).bind fun t1554 => (concourseref16_Targets.f k t1517.2 (strK.at ([t1524, t1526, t1528, t1530, (⟨#[]⟩ : ByteArray)] : List ByteArray) x1538) (Edu.K.at t1522 x1535)).bind fun t1557 => (concourseref01_SameTexts.f k t1554 t1557).bind fun t1560 => cond (!t1560) (some (.inr (.inr false))) (concourselaw16_GatePasses.l1 k t1517 t1522 t1524 t1526 t1528 t1530 x1535 j1563 (w64 (x1538 + 1))))))))))))) (some (.inl (x1538, decide (x1538 < (([t1524, t1526, t1528, t1530, (⟨#[]⟩ : ByteArray)] : List ByteArray).length : Int)))))
def concourselaw16_GatePasses.l0 (k : Nat) (t1517 : (Option VView) × RView) (t1522 : (List Edu)) (t1524 : ByteArray) (t1526 : ByteArray) (t1528 : ByteArray) (t1530 : ByteArray) : Nat → Int → Option ((Int × Bool) ⊕ (Bool))
  | 0, _ => none
  | j1565 + 1, x1535 => cond (decide (x1535 < (t1522.length : Int))) ((concourselaw16_GatePasses.l1 k t1517 t1522 t1524 t1526 t1528 t1530 x1535 k 0).bind (fall fun (p1537 : Int × Bool) => concourselaw16_GatePasses.l0 k t1517 t1522 t1524 t1526 t1528 t1530 j1565 (w64 (x1535 + 1)))) (some (.inl (x1535, decide (x1535 < (t1522.length : Int)))))
def concourselaw16_GatePasses.f (k : Nat) (a0 : List GMade) (a1 : List GMade) (a2 : Edu) (a3 : ByteArray) : Option (Bool) := (concourselaw16_build.f k a0 a1).bind fun t1517 => cond t1517.1.isNone (some false) ((concourselaw16_some.f k a2).bind fun t1522 => (concourseref01_ServerOf.f 0).bind fun t1524 => (concourseref01_ServerOf.f 1).bind fun t1526 => (concourseref01_ServerOf.f 2).bind fun t1528 => (concourseref01_Few.f a3 8).bind fun t1530 => (concourselaw16_GatePasses.l0 k t1517 t1522 t1524 t1526 t1528 t1530 k 0).bind (fall fun (p1532 : Int × Bool) => (concourselaw16_lives.f k).bind fun t1533 => some t1533))
/-! concourse/concourseref04.SameEdus: function 21 -/
def concourseref04_SameEdus.l0 (k : Nat) (a0 : List Edu) (a1 : List Edu) : Nat → Int → Option ((Int × Bool) ⊕ (Bool))
  | 0, _ => none
  | j1574 + 1, x1569 => cond (decide (x1569 < (a0.length : Int))) (grd ((0 : Int) ≤ x1569 ∧ x1569 < (a0.length : Int)) (grd ((0 : Int) ≤ x1569 ∧ x1569 < (a1.length : Int)) (cond (!decide (Edu.K.at a0 x1569 = Edu.K.at a1 x1569)) (some (.inr false)) (concourseref04_SameEdus.l0 k a0 a1 j1574 (w64 (x1569 + 1)))))) (some (.inl (x1569, decide (x1569 < (a0.length : Int)))))
def concourseref04_SameEdus.f (k : Nat) (a0 : List Edu) (a1 : List Edu) : Option (Bool) := cond ((a0.length : Int) != (a1.length : Int)) (some false) ((concourseref04_SameEdus.l0 k a0 a1 k 0).bind (fall fun (p1568 : Int × Bool) => some true))
/-! slices.IndexFunc[[]concourse/api.Edu,concourse/api.Edu]: function 80 -/
def slices_IndexFunc_Edu_x.l0 (k : Nat) (a0 : List Edu) (a1 : (Edu → Option Bool)) : Nat → Int → Option ((Int × Bool) ⊕ (Int))
  | 0, _ => none
  | j1583 + 1, x1577 => cond (decide (x1577 < (a0.length : Int))) (grd ((0 : Int) ≤ x1577 ∧ x1577 < (a0.length : Int)) ((a1 (Edu.K.at a0 x1577)).bind fun t1580 => cond t1580 (some (.inr x1577)) (slices_IndexFunc_Edu_x.l0 k a0 a1 j1583 (w64 (x1577 + 1))))) (some (.inl (x1577, decide (x1577 < (a0.length : Int)))))
def slices_IndexFunc_Edu_x.f (k : Nat) (a0 : List Edu) (a1 : (Edu → Option Bool)) : Option (Int) := (slices_IndexFunc_Edu_x.l0 k a0 a1 k 0).bind (fall fun (p1576 : Int × Bool) => some (-1))
/-! slices.IndexFunc[[]concourse/api.Edu,concourse/api.Edu]: function 80 -/
def slices_IndexFunc_Edu_xw.l0 (k : Nat) (a0 : List Edu) (a1 : (Edu → Option Bool)) : Nat → Int → Option ((Int × Bool) ⊕ (Int))
  | 0, _ => none
  | j1593 + 1, x1586 => cond (decide (x1586 < (a0.length : Int))) (grd ((0 : Int) ≤ x1586 ∧ x1586 < (a0.length : Int)) ((a1 (a0.getD x1586.toNat default)).bind fun t1590 => cond t1590 (some (.inr x1586)) (slices_IndexFunc_Edu_xw.l0 k a0 a1 j1593 (w64 (x1586 + 1))))) (some (.inl (x1586, decide (x1586 < (a0.length : Int)))))
def slices_IndexFunc_Edu_xw.f (k : Nat) (a0 : List Edu) (a1 : (Edu → Option Bool)) : Option (Int) := (slices_IndexFunc_Edu_xw.l0 k a0 a1 k 0).bind (fall fun (p1585 : Int × Bool) => some (-1))
/-! slices.DeleteFunc[[]concourse/api.Edu,concourse/api.Edu]: function 50 -/
def slices_DeleteFunc_Edu_xo.l0 (k : Nat) (a1 : (Edu → Option Bool)) : Nat → Int → Int → List Edu → Option (Int × Int × Bool × (List Edu))
  | 0, _, _, _ => none
  | j1616 + 1, x1604, x1605, x1606 => cond (decide (x1605 < (x1606.length : Int))) (grd ((0 : Int) ≤ x1605 ∧ x1605 < (x1606.length : Int)) ((a1 (x1606.getD x1605.toNat default)).bind fun t1611 => cond (!t1611) (grd ((0 : Int) ≤ x1604 ∧ x1604 < (x1606.length : Int)) (slices_DeleteFunc_Edu_xo.l0 k a1 j1616 (w64 (x1604 + 1)) (w64 (x1605 + 1)) (x1606.set x1604.toNat (x1606.getD x1605.toNat default)))) (slices_DeleteFunc_Edu_xo.l0 k a1 j1616 x1604 (w64 (x1605 + 1)) x1606))) (some (x1604, x1605, decide (x1605 < (x1606.length : Int)), x1606))
def slices_DeleteFunc_Edu_xo.f (k : Nat) (a0 : List Edu) (a1 : (Edu → Option Bool)) : Option ((List Edu)) := (slices_IndexFunc_Edu_xw.f k a0 a1).bind fun t1595 => cond (t1595 == (-1)) (some a0) ((slices_DeleteFunc_Edu_xo.l0 k a1 k t1595 (w64 (t1595 + 1)) a0).bind fun (p1598 : Int × Int × Bool × (List Edu)) => grd ((0 : Int) ≤ p1598.1 ∧ p1598.1.toNat < p1598.2.2.2.length) (grd ((0 : Int) ≤ p1598.1 ∧ 0 ≤ p1598.1.toNat ∧ p1598.1.toNat ≤ (p1598.2.2.2.take p1598.1.toNat ++ List.replicate (p1598.2.2.2.length - p1598.1.toNat) (⟨0, (⟨#[]⟩ : ByteArray), (⟨#[]⟩ : ByteArray), (⟨#[]⟩ : ByteArray), (⟨#[]⟩ : ByteArray), false, false, 0, 0, 0, 0⟩ : Edu)).length) (some (((p1598.2.2.2.take p1598.1.toNat ++ List.replicate (p1598.2.2.2.length - p1598.1.toNat) (⟨0, (⟨#[]⟩ : ByteArray), (⟨#[]⟩ : ByteArray), (⟨#[]⟩ : ByteArray), (⟨#[]⟩ : ByteArray), false, false, 0, 0, 0, 0⟩ : Edu)).take p1598.1.toNat).drop 0))))
/-! slices.Clone[[]concourse/api.Edu,concourse/api.Edu] -/
def slices_Clone_Edu.f (xs : List Edu) : Option (List Edu) := grd (xs.length ≤ 9223372036854775807 ∧ xs.length * 112 ≤ 140737488355328) (some xs)
/-! concourse/gate.Choose$1: function 52 -/
def gate_Choose_1.f (k : Nat) (a0 : Edu) (c0 : VView) (c1 : ByteArray) : Option (Bool) := (gate_Passes.f k c0 c1 a0).bind fun t1619 => some (!t1619)
/-! concourse/gate.Choose: function 22 -/
def gate_Choose.f (k : Nat) (a0 : VView) (a1 : ByteArray) (a2 : List Edu) : Option ((List Edu)) := (slices_Clone_Edu.f a2).bind fun t1623 => (slices_DeleteFunc_Edu_xo.f k t1623 (fun a0_ => gate_Choose_1.f k a0_ a0 a1)).bind fun t1626 => some t1626
/-! concourse/concourseref16.Choose: function 23 -/
def concourseref16_Choose.l0 (k : Nat) (a0 : RView) (a1 : ByteArray) (a2 : List Edu) : Nat → Int → List Edu → Option (Int × Bool × (List Edu))
  | 0, _, _ => none
  | j1643 + 1, x1632, x1633 => cond (decide (x1632 < (a2.length : Int))) (grd ((0 : Int) ≤ x1632 ∧ x1632 < (a2.length : Int)) ((concourseref16_Passes.f k a0 a1 (Edu.K.at a2 x1632)).bind fun t1637 => cond t1637 (grd ((0 : Int) ≤ x1632 ∧ x1632 < (a2.length : Int)) (grd (x1633.length + ([Edu.K.at a2 x1632] : List Edu).length ≤ 9223372036854775807 ∧ (x1633.length + ([Edu.K.at a2 x1632] : List Edu).length) * 112 ≤ 140737488355328) (concourseref16_Choose.l0 k a0 a1 a2 j1643 (w64 (x1632 + 1)) (x1633 ++ ([Edu.K.at a2 x1632] : List Edu))))) (concourseref16_Choose.l0 k a0 a1 a2 j1643 (w64 (x1632 + 1)) x1633))) (some (x1632, decide (x1632 < (a2.length : Int)), x1633))
def concourseref16_Choose.f (k : Nat) (a0 : RView) (a1 : ByteArray) (a2 : List Edu) : Option ((List Edu)) := (concourseref16_Choose.l0 k a0 a1 a2 k 0 ([] : List Edu)).bind fun (p1630 : Int × Bool × (List Edu)) => some p1630.2.2
/-! concourse/concourselaw16.GateChooses: function 5 -/
def concourselaw16_GateChooses.l0 (k : Nat) (a2 : List Edu) : Nat → Int → List Edu → Option (Int × Bool × (List Edu))
  | 0, _, _ => none
  | j1683 + 1, x1671, x1672 => cond (decide (x1671 < (a2.length : Int))) (cond (decide (x1671 < 8)) (grd ((0 : Int) ≤ x1671 ∧ x1671 < (a2.length : Int)) ((concourselaw16_some.f k (Edu.K.at a2 x1671)).bind fun t1677 => grd ((0 : Int) ≤ (x1671.tmod 2) ∧ (x1671.tmod 2) < (t1677.length : Int)) (grd (x1672.length + ([Edu.K.at t1677 (x1671.tmod 2)] : List Edu).length ≤ 9223372036854775807 ∧ (x1672.length + ([Edu.K.at t1677 (x1671.tmod 2)] : List Edu).length) * 112 ≤ 140737488355328) (concourselaw16_GateChooses.l0 k a2 j1683 (w64 (x1671 + 1)) (x1672 ++ ([Edu.K.at t1677 (x1671.tmod 2)] : List Edu)))))) (some (x1671, decide (x1671 < 8), x1672))) (some (x1671, false, x1672))
def concourselaw16_GateChooses.f (k : Nat) (a0 : List GMade) (a1 : List GMade) (a2 : List Edu) (a3 : Int) : Option (Bool) := (concourselaw16_build.f k a0 a1).bind fun t1646 => cond t1646.1.isNone (some false) ((concourselaw16_GateChooses.l0 k a2 k 0 ([] : List Edu)).bind fun (p1651 : Int × Bool × (List Edu)) => grd (([] : List Edu).length + p1651.2.2.length ≤ 9223372036854775807 ∧ (([] : List Edu).length + p1651.2.2.length) * 112 ≤ 140737488355328) ((concourseref01_ServerOf.f a3).bind fun t1655 => (gate_Choose.f k (t1646.1.getD default) t1655 p1651.2.2).bind fun t1657 => (concourseref16_Choose.f k t1646.2 t1655 (([] : List Edu) ++ p1651.2.2)).bind fun t1660 => (concourseref04_SameEdus.f k t1657 t1660).bind fun t1663 => cond t1663 ((concourseref04_SameEdus.f k p1651.2.2 (([] : List Edu) ++ p1651.2.2)).bind fun t1666 => cond t1666 ((concourselaw16_lives.f k).bind fun t1669 => some t1669) (some false)) (some false)))
/-! concourse/concourselaw16.GateSecret: function 7 -/
def concourselaw16_GateSecret.l0 (k : Nat) (t1687 : (Option VView) × RView) (t1692 : Edu) : Nat → Int → Option ((Int × Bool) ⊕ (Bool))
  | 0, _ => none
  | j1714 + 1, x1705 => cond (decide (x1705 < 9)) ((concourseref01_UserOf.f x1705).bind fun t1707 => (gate_Sees.f k (t1687.1.getD default) t1707 t1692).bind fun t1709 => cond t1709 (cond (!decide (t1707 = t1692.fUser)) (some (.inr false)) (concourselaw16_GateSecret.l0 k t1687 t1692 j1714 (w64 (x1705 + 1)))) (concourselaw16_GateSecret.l0 k t1687 t1692 j1714 (w64 (x1705 + 1)))) (some (.inl (x1705, decide (x1705 < 9))))
def concourselaw16_GateSecret.l1 (k : Nat) (t1687 : (Option VView) × RView) (t1692 : Edu) : Nat → Int → Option ((Int × Bool) ⊕ (Bool))
  | 0, _ => none
  | j1732 + 1, x1716 => cond (decide (x1716 < 3)) ((concourseref01_ServerOf.f x1716).bind fun t1718 => (gate_Passes.f k (t1687.1.getD default) t1718 t1692).bind fun t1720 => cond t1720 (some (.inr false)) ((gate_Targets.f k (t1687.1.getD default) t1718 t1692).bind fun t1724 => cond ((t1724.length : Int) != 0) (some (.inr false)) ((gate_Accept.f k (t1687.1.getD default) t1718 t1692).bind fun t1729 => cond (t1729 != 1) (some (.inr false)) (concourselaw16_GateSecret.l1 k t1687 t1692 j1732 (w64 (x1716 + 1)))))) (some (.inl (x1716, decide (x1716 < 3))))
def concourselaw16_GateSecret.f (k : Nat) (a0 : List GMade) (a1 : List GMade) (a2 : Edu) : Option (Bool) := (concourselaw16_build.f k a0 a1).bind fun t1687 => cond t1687.1.isNone (some false) ((concourseref03_Good.f k (⟨0, a2.fRoom, a2.fUser, a2.fEvent, a2.fThread, true, a2.fOn, a2.fSpan, a2.fState, a2.fTick, a2.fStamp⟩ : Edu)).bind fun t1692 => cond (!t1692.fPrivate) (some false) ((concourselaw16_GateSecret.l1 k t1687 t1692 k 0).bind (fall fun (p1696 : Int × Bool) => (concourselaw16_GateSecret.l0 k t1687 t1692 k 0).bind (fall fun (p1697 : Int × Bool) => (gate_Sees.f k (t1687.1.getD default) t1692.fUser t1692).bind fun t1698 => (concourseref10_Joined.f k t1687.2 t1692.fRoom t1692.fUser).bind fun t1700 => cond (t1698 == t1700) ((concourselaw16_lives.f k).bind fun t1703 => some t1703) (some false)))))
/-! concourse/concourselaw16.GateTakes: function 8 -/
def concourselaw16_GateTakes.l0 (k : Nat) (t1735 : (Option VView) × RView) (t1740 : Edu) (t1743 : ByteArray) (t1745 : (List ByteArray)) : Nat → Int → Option ((Int × Bool) ⊕ (Bool))
  | 0, _ => none
  | j1783 + 1, x1766 => cond (decide (x1766 < (t1745.length : Int))) (grd ((0 : Int) ≤ x1766 ∧ x1766 < (t1745.length : Int)) (cond (decide ((t1745.getD x1766.toNat default) = t1743)) (some (.inr false)) (grd ((0 : Int) ≤ x1766 ∧ x1766 < (t1745.length : Int)) ((gate_Passes.f k (t1735.1.getD default) (t1745.getD x1766.toNat default) t1740).bind fun t1774 => cond (!t1774) (some (.inr false)) (grd ((0 : Int) ≤ x1766 ∧ x1766 < (t1745.length : Int)) ((gate_Accept.f k (t1735.1.getD default) (t1745.getD x1766.toNat default) t1740).bind fun t1780 => cond (t1780 != 6) (some (.inr false)) (concourselaw16_GateTakes.l0 k t1735 t1740 t1743 t1745 j1783 (w64 (x1766 + 1))))))))) (some (.inl (x1766, decide (x1766 < (t1745.length : Int)))))
def concourselaw16_GateTakes.f (k : Nat) (a0 : List GMade) (a1 : List GMade) (a2 : Edu) : Option (Bool) := (concourselaw16_build.f k a0 a1).bind fun t1735 => cond t1735.1.isNone (some false) ((concourseref03_Public.f k a2).bind fun t1740 => (concourseref01_Home.f k t1740.fUser).bind fun t1743 => (gate_Targets.f k (t1735.1.getD default) t1743 t1740).bind fun t1745 => (gate_Accept.f k (t1735.1.getD default) t1743 t1740).bind fun t1748 => cond (t1748 != 0) (cond (t1740.fKind != 3) ((concourselaw16_lives.f k).bind fun t1752 => some t1752) (cond ((t1745.length : Int) == 0) ((concourselaw16_lives.f k).bind fun t1755 => some t1755) (some false))) ((concourselaw16_GateTakes.l0 k t1735 t1740 t1743 t1745 k 0).bind (fall fun (p1757 : Int × Bool) => (gate_Passes.f k (t1735.1.getD default) t1743 t1740).bind fun t1758 => cond t1758 ((gate_Sees.f k (t1735.1.getD default) t1740.fUser t1740).bind fun t1761 => cond t1761 ((concourselaw16_lives.f k).bind fun t1764 => some t1764) (some false)) (some false))))
end Go.Proofs.YtdhaolcplgbalaaGreat
