/- The walks. -/
import Derived.Test.YtegmafgodoikiaaGreatChecked
import Derived.Test.YtegmafgodoikiaaGreatConQ
import Derived.Eval
set_option linter.all false
set_option maxRecDepth 10000
set_option maxHeartbeats 20000000
namespace Go.Proofs.YtegmafgodoikiaaGreat
open Go Go.Sp
theorem c120 : Tryz.prog.cellsOf 120 = 1 := by kernel_rfl
theorem c121 : Tryz.prog.cellsOf 121 = 1 := by kernel_rfl
theorem c22 : Tryz.prog.cellsOf 22 = 1 := by kernel_rfl
theorem c25 : Tryz.prog.cellsOf 25 = 1 := by kernel_rfl
theorem c27 : Tryz.prog.cellsOf 27 = 2 := by kernel_rfl
theorem c3 : Tryz.prog.cellsOf 3 = 1 := by kernel_rfl
theorem c32 : Tryz.prog.cellsOf 32 = 11 := by kernel_rfl
theorem c4 : Tryz.prog.cellsOf 4 = 1 := by kernel_rfl
theorem c5 : Tryz.prog.cellsOf 5 = 1 := by kernel_rfl
theorem c58 : Tryz.prog.cellsOf 58 = 1 := by kernel_rfl
theorem c62 : Tryz.prog.cellsOf 62 = 1 := by kernel_rfl
theorem c74 : Tryz.prog.cellsOf 74 = 2 := by kernel_rfl
theorem c78 : Tryz.prog.cellsOf 78 = 1 := by kernel_rfl
theorem c79 : Tryz.prog.cellsOf 79 = 1 := by kernel_rfl
theorem c88 : Tryz.prog.cellsOf 88 = 5 := by kernel_rfl
theorem c9 : Tryz.prog.cellsOf 9 = 1 := by kernel_rfl
theorem cal10 : callable Tryz.prog 10 = true := by kernel_rfl
theorem cal100 : callable Tryz.prog 100 = true := by kernel_rfl
theorem cal101 : callable Tryz.prog 101 = true := by kernel_rfl
theorem cal102 : callable Tryz.prog 102 = true := by kernel_rfl
theorem cal103 : callable Tryz.prog 103 = true := by kernel_rfl
theorem cal104 : callable Tryz.prog 104 = true := by kernel_rfl
theorem cal105 : callable Tryz.prog 105 = true := by kernel_rfl
theorem cal106 : callable Tryz.prog 106 = true := by kernel_rfl
theorem cal108 : callable Tryz.prog 108 = true := by kernel_rfl
theorem cal109 : callable Tryz.prog 109 = true := by kernel_rfl
theorem cal11 : callable Tryz.prog 11 = true := by kernel_rfl
theorem cal110 : callable Tryz.prog 110 = true := by kernel_rfl
theorem cal117 : callable Tryz.prog 117 = true := by kernel_rfl
theorem cal118 : callable Tryz.prog 118 = true := by kernel_rfl
theorem cal119 : callable Tryz.prog 119 = true := by kernel_rfl
theorem cal12 : callable Tryz.prog 12 = true := by kernel_rfl
theorem cal120 : callable Tryz.prog 120 = true := by kernel_rfl
theorem cal122 : callable Tryz.prog 122 = true := by kernel_rfl
theorem cal123 : callable Tryz.prog 123 = true := by kernel_rfl
theorem cal124 : callable Tryz.prog 124 = true := by kernel_rfl
theorem cal125 : callable Tryz.prog 125 = true := by kernel_rfl
theorem cal126 : callable Tryz.prog 126 = true := by kernel_rfl
theorem cal127 : callable Tryz.prog 127 = true := by kernel_rfl
theorem cal128 : callable Tryz.prog 128 = true := by kernel_rfl
theorem cal129 : callable Tryz.prog 129 = true := by kernel_rfl
theorem cal13 : callable Tryz.prog 13 = true := by kernel_rfl
theorem cal130 : callable Tryz.prog 130 = true := by kernel_rfl
theorem cal16 : callable Tryz.prog 16 = true := by kernel_rfl
theorem cal18 : callable Tryz.prog 18 = true := by kernel_rfl
theorem cal19 : callable Tryz.prog 19 = true := by kernel_rfl
theorem cal20 : callable Tryz.prog 20 = true := by kernel_rfl
theorem cal21 : callable Tryz.prog 21 = true := by kernel_rfl
theorem cal22 : callable Tryz.prog 22 = true := by kernel_rfl
theorem cal23 : callable Tryz.prog 23 = true := by kernel_rfl
theorem cal24 : callable Tryz.prog 24 = true := by kernel_rfl
theorem cal25 : callable Tryz.prog 25 = true := by kernel_rfl
theorem cal26 : callable Tryz.prog 26 = true := by kernel_rfl
theorem cal27 : callable Tryz.prog 27 = true := by kernel_rfl
theorem cal28 : callable Tryz.prog 28 = true := by kernel_rfl
theorem cal29 : callable Tryz.prog 29 = true := by kernel_rfl
theorem cal30 : callable Tryz.prog 30 = true := by kernel_rfl
theorem cal31 : callable Tryz.prog 31 = true := by kernel_rfl
theorem cal32 : callable Tryz.prog 32 = true := by kernel_rfl
theorem cal33 : callable Tryz.prog 33 = true := by kernel_rfl
theorem cal34 : callable Tryz.prog 34 = true := by kernel_rfl
theorem cal35 : callable Tryz.prog 35 = true := by kernel_rfl
theorem cal36 : callable Tryz.prog 36 = true := by kernel_rfl
theorem cal37 : callable Tryz.prog 37 = true := by kernel_rfl
theorem cal38 : callable Tryz.prog 38 = true := by kernel_rfl
theorem cal40 : callable Tryz.prog 40 = true := by kernel_rfl
theorem cal41 : callable Tryz.prog 41 = true := by kernel_rfl
theorem cal42 : callable Tryz.prog 42 = true := by kernel_rfl
theorem cal43 : callable Tryz.prog 43 = true := by kernel_rfl
theorem cal44 : callable Tryz.prog 44 = true := by kernel_rfl
theorem cal45 : callable Tryz.prog 45 = true := by kernel_rfl
theorem cal46 : callable Tryz.prog 46 = true := by kernel_rfl
theorem cal47 : callable Tryz.prog 47 = true := by kernel_rfl
theorem cal48 : callable Tryz.prog 48 = true := by kernel_rfl
theorem cal49 : callable Tryz.prog 49 = true := by kernel_rfl
theorem cal50 : callable Tryz.prog 50 = true := by kernel_rfl
theorem cal51 : callable Tryz.prog 51 = true := by kernel_rfl
theorem cal52 : callable Tryz.prog 52 = true := by kernel_rfl
theorem cal53 : callable Tryz.prog 53 = true := by kernel_rfl
theorem cal54 : callable Tryz.prog 54 = true := by kernel_rfl
theorem cal55 : callable Tryz.prog 55 = true := by kernel_rfl
theorem cal56 : callable Tryz.prog 56 = true := by kernel_rfl
theorem cal59 : callable Tryz.prog 59 = true := by kernel_rfl
theorem cal60 : callable Tryz.prog 60 = true := by kernel_rfl
theorem cal61 : callable Tryz.prog 61 = true := by kernel_rfl
theorem cal64 : callable Tryz.prog 64 = true := by kernel_rfl
theorem cal65 : callable Tryz.prog 65 = true := by kernel_rfl
theorem cal66 : callable Tryz.prog 66 = true := by kernel_rfl
theorem cal67 : callable Tryz.prog 67 = true := by kernel_rfl
theorem cal68 : callable Tryz.prog 68 = true := by kernel_rfl
theorem cal69 : callable Tryz.prog 69 = true := by kernel_rfl
theorem cal7 : callable Tryz.prog 7 = true := by kernel_rfl
theorem cal70 : callable Tryz.prog 70 = true := by kernel_rfl
theorem cal71 : callable Tryz.prog 71 = true := by kernel_rfl
theorem cal72 : callable Tryz.prog 72 = true := by kernel_rfl
theorem cal73 : callable Tryz.prog 73 = true := by kernel_rfl
theorem cal74 : callable Tryz.prog 74 = true := by kernel_rfl
theorem cal75 : callable Tryz.prog 75 = true := by kernel_rfl
theorem cal76 : callable Tryz.prog 76 = true := by kernel_rfl
theorem cal77 : callable Tryz.prog 77 = true := by kernel_rfl
theorem cal78 : callable Tryz.prog 78 = true := by kernel_rfl
theorem cal79 : callable Tryz.prog 79 = true := by kernel_rfl
theorem cal8 : callable Tryz.prog 8 = true := by kernel_rfl
theorem cal81 : callable Tryz.prog 81 = true := by kernel_rfl
theorem cal9 : callable Tryz.prog 9 = true := by kernel_rfl
theorem cal93 : callable Tryz.prog 93 = true := by kernel_rfl
theorem cal94 : callable Tryz.prog 94 = true := by kernel_rfl
theorem cal95 : callable Tryz.prog 95 = true := by kernel_rfl
theorem cal96 : callable Tryz.prog 96 = true := by kernel_rfl
theorem cal97 : callable Tryz.prog 97 = true := by kernel_rfl
theorem cal98 : callable Tryz.prog 98 = true := by kernel_rfl
theorem cal99 : callable Tryz.prog 99 = true := by kernel_rfl
theorem eg32 : Tryz.prog.eqGuardType Tryz.prog.depth 32 = false := by kernel_rfl
theorem eg88 : Tryz.prog.eqGuardType Tryz.prog.depth 88 = false := by kernel_rfl
theorem inf3 : ∃ i, Tryz.prog.info? 3 = some i ∧ i.size = 1 ∧ i.zero = some (.int .i64 0) ∧ i.bytes = 8 := inf_of (by kernel_rfl) (by kernel_rfl) (by kernel_rfl)
theorem inf32 : ∃ i, Tryz.prog.info? 32 = some i ∧ i.size = 11 ∧ i.zero = some (.agg #[.int .i64 0, .string ⟨#[]⟩, .string ⟨#[]⟩, .string ⟨#[]⟩, .string ⟨#[]⟩, .bool false, .bool false, .int .i64 0, .int .i64 0, .int .i64 0, .int .i64 0]) ∧ i.bytes = 112 := inf_of (by kernel_rfl) (by kernel_rfl) (by kernel_rfl)
theorem inf5 : ∃ i, Tryz.prog.info? 5 = some i ∧ i.size = 1 ∧ i.zero = some (.int .u8 0) ∧ i.bytes = 1 := inf_of (by kernel_rfl) (by kernel_rfl) (by kernel_rfl)
theorem inf74 : ∃ i, Tryz.prog.info? 74 = some i ∧ i.size = 2 ∧ i.zero = some (.agg #[.int .i64 0, .string ⟨#[]⟩]) ∧ i.bytes = 24 := inf_of (by kernel_rfl) (by kernel_rfl) (by kernel_rfl)
theorem inf9 : ∃ i, Tryz.prog.info? 9 = some i ∧ i.size = 1 ∧ i.zero = some (.string ⟨#[]⟩) ∧ i.bytes = 16 := inf_of (by kernel_rfl) (by kernel_rfl) (by kernel_rfl)
theorem pl27 : plcT Tryz.prog 27 = true := by kernel_rfl
theorem pl32 : plcT Tryz.prog 32 = true := by kernel_rfl
theorem pl61 : plcT Tryz.prog 61 = true := by kernel_rfl
theorem pl74 : plcT Tryz.prog 74 = true := by kernel_rfl
theorem pl81 : plcT Tryz.prog 81 = true := by kernel_rfl
theorem pl88 : plcT Tryz.prog 88 = true := by kernel_rfl
theorem st32 : Tryz.prog.stoodInHeld 32 = false := by kernel_rfl
theorem st88 : Tryz.prog.stoodInHeld 88 = false := by kernel_rfl
theorem xf107 : (Extern.findNext Tryz.f107).isNone = true := by kernel_rfl
theorem xf134 : (Extern.findNext Tryz.f134).isNone = true := by kernel_rfl
theorem xf57 : (Extern.findNext Tryz.f57).isNone = true := by kernel_rfl
theorem xg107 : Extern.find Tryz.f107 = some Extern.BytealgCompare.compare := by rfl
theorem xg134 : Extern.find Tryz.f134 = some Extern.BytealgIndexByte.indexByte := by rfl
theorem xg57 : Extern.find Tryz.f57 = some (Extern.SlicesOverlaps.overlaps Tryz.f57.params Tryz.f57.resultTypes) := by rfl
theorem z121 : zer Tryz.prog 121 = some .nilFunc := by kernel_rfl
theorem z141 : zer Tryz.prog 141 = some (.agg #[.nilFunc, .nilFunc, .nilFunc]) := by kernel_rfl
theorem z27 : zer Tryz.prog 27 = some (.agg #[.slice none 0 0, .slice none 0 0]) := by kernel_rfl
theorem z3 : zer Tryz.prog 3 = some (.int .i64 0) := by kernel_rfl
theorem z32 : zer Tryz.prog 32 = some (.agg #[.int .i64 0, .string ⟨#[]⟩, .string ⟨#[]⟩, .string ⟨#[]⟩, .string ⟨#[]⟩, .bool false, .bool false, .int .i64 0, .int .i64 0, .int .i64 0, .int .i64 0]) := by kernel_rfl
theorem z5 : zer Tryz.prog 5 = some (.int .u8 0) := by kernel_rfl
theorem z61 : zer Tryz.prog 61 = some (.agg #[.slice none 0 0, .pointer none]) := by kernel_rfl
theorem z62 : zer Tryz.prog 62 = some .nilFunc := by kernel_rfl
theorem z74 : zer Tryz.prog 74 = some (.agg #[.int .i64 0, .string ⟨#[]⟩]) := by kernel_rfl
theorem z81 : zer Tryz.prog 81 = some (.agg #[.slice none 0 0, .map none]) := by kernel_rfl
theorem z88 : zer Tryz.prog 88 = some (.agg #[.int .i64 0, .string ⟨#[]⟩, .string ⟨#[]⟩, .string ⟨#[]⟩, .bool false]) := by kernel_rfl
theorem z9 : zer Tryz.prog 9 = some (.string ⟨#[]⟩) := by kernel_rfl
theorem z93 : zer Tryz.prog 93 = some (.agg #[.int .i64 0, .int .i64 0]) := by kernel_rfl
structure HEnt where
  fAt : Int
  fKey : ByteArray
  deriving DecidableEq, Inhabited
def HEnt.enc (x : HEnt) : Cs := [eq (.int .i64 x.fAt), eq (.string x.fKey)]
def HEnt.K : Kd HEnt := ⟨2, default, HEnt.enc, fun _ => rfl, fun _ => (ones_cons (one_eq rfl) (ones_cons (one_eq rfl) ones_nil))⟩
structure HHeap where
  fl : List HEnt
  fat : List (ByteArray × Int)
  deriving DecidableEq, Inhabited
structure Edu where
  fKind : Int
  fRoom : ByteArray
  fUser : ByteArray
  fEvent : ByteArray
  fThread : ByteArray
  fPrivate : Bool
  fOn : Bool
  fSpan : Int
  fState : Int
  fTick : Int
  fStamp : Int
  deriving DecidableEq, Inhabited
def Edu.enc (x : Edu) : Cs := [eq (.int .i64 x.fKind), eq (.string x.fRoom), eq (.string x.fUser), eq (.string x.fEvent), eq (.string x.fThread), eq (.bool x.fPrivate), eq (.bool x.fOn), eq (.int .i64 x.fSpan), eq (.int .i64 x.fState), eq (.int .i64 x.fTick), eq (.int .i64 x.fStamp)]
def Edu.K : Kd Edu := ⟨11, default, Edu.enc, fun _ => rfl, fun _ => (ones_cons (one_eq rfl) (ones_cons (one_eq rfl) (ones_cons (one_eq rfl) (ones_cons (one_eq rfl) (ones_cons (one_eq rfl) (ones_cons (one_eq rfl) (ones_cons (one_eq rfl) (ones_cons (one_eq rfl) (ones_cons (one_eq rfl) (ones_cons (one_eq rfl) (ones_cons (one_eq rfl) ones_nil)))))))))))⟩
structure PTab where
  fl : List Edu
  fturns : HHeap
  deriving DecidableEq, Inhabited
structure EKey where
  fKind : Int
  fRoom : ByteArray
  fUser : ByteArray
  fThread : ByteArray
  fPrivate : Bool
  deriving DecidableEq, Inhabited
def EKey.enc (x : EKey) : Cs := [eq (.int .i64 x.fKind), eq (.string x.fRoom), eq (.string x.fUser), eq (.string x.fThread), eq (.bool x.fPrivate)]
def EKey.K : Kd EKey := ⟨5, default, EKey.enc, fun _ => rfl, fun _ => (ones_cons (one_eq rfl) (ones_cons (one_eq rfl) (ones_cons (one_eq rfl) (ones_cons (one_eq rfl) (ones_cons (one_eq rfl) ones_nil)))))⟩
structure TRef where
  fL : List Edu
  fTold : List Int
  deriving DecidableEq, Inhabited
def TRef.enc (x : TRef) : Cs := [sl Edu.K x.fL, sl (intK .i64) x.fTold]
def TRef.K : Kd TRef := ⟨2, default, TRef.enc, fun _ => rfl, fun _ => (ones_cons one_sl (ones_cons one_sl ones_nil))⟩
theorem eqt32 (x y : Edu) {d : Nat} {w : World} : (Op.equalIn (d + 2) 32 (.agg [.int .i64 x.fKind, .string x.fRoom, .string x.fUser, .string x.fEvent, .string x.fThread, .bool x.fPrivate, .bool x.fOn, .int .i64 x.fSpan, .int .i64 x.fState, .int .i64 x.fTick, .int .i64 x.fStamp].toArray) (.agg [.int .i64 y.fKind, .string y.fRoom, .string y.fUser, .string y.fEvent, .string y.fThread, .bool y.fPrivate, .bool y.fOn, .int .i64 y.fSpan, .int .i64 y.fState, .int .i64 y.fTick, .int .i64 y.fStamp].toArray)).run Tryz.prog w = .ok (decide (x = y)) w := by
  have e : decide (x = y) = ((decide (x.fKind = y.fKind) && (decide (x.fRoom = y.fRoom) && (decide (x.fUser = y.fUser) && (decide (x.fEvent = y.fEvent) && (decide (x.fThread = y.fThread) && (decide (x.fPrivate = y.fPrivate) && (decide (x.fOn = y.fOn) && (decide (x.fSpan = y.fSpan) && (decide (x.fState = y.fState) && (decide (x.fTick = y.fTick) && (decide (x.fStamp = y.fStamp) && true)))))))))))) := by cases x; cases y; rw [Bool.eq_iff_iff]; simp
  rw [e]
  exact eq_struct Tryz.underlying32 st32 (eqF_cons (by decide) (run_part1 Tryz.underlying3 rfl rfl) (run_part1 Tryz.underlying3 rfl rfl) (eq_int Tryz.underlying3) (eqF_cons (by decide) (run_part1 Tryz.underlying9 rfl rfl) (run_part1 Tryz.underlying9 rfl rfl) (eq_str Tryz.underlying9) (eqF_cons (by decide) (run_part1 Tryz.underlying9 rfl rfl) (run_part1 Tryz.underlying9 rfl rfl) (eq_str Tryz.underlying9) (eqF_cons (by decide) (run_part1 Tryz.underlying9 rfl rfl) (run_part1 Tryz.underlying9 rfl rfl) (eq_str Tryz.underlying9) (eqF_cons (by decide) (run_part1 Tryz.underlying9 rfl rfl) (run_part1 Tryz.underlying9 rfl rfl) (eq_str Tryz.underlying9) (eqF_cons (by decide) (run_part1 Tryz.underlying4 rfl rfl) (run_part1 Tryz.underlying4 rfl rfl) (eq_bool Tryz.underlying4) (eqF_cons (by decide) (run_part1 Tryz.underlying4 rfl rfl) (run_part1 Tryz.underlying4 rfl rfl) (eq_bool Tryz.underlying4) (eqF_cons (by decide) (run_part1 Tryz.underlying3 rfl rfl) (run_part1 Tryz.underlying3 rfl rfl) (eq_int Tryz.underlying3) (eqF_cons (by decide) (run_part1 Tryz.underlying3 rfl rfl) (run_part1 Tryz.underlying3 rfl rfl) (eq_int Tryz.underlying3) (eqF_cons (by decide) (run_part1 Tryz.underlying3 rfl rfl) (run_part1 Tryz.underlying3 rfl rfl) (eq_int Tryz.underlying3) (eqF_cons (by decide) (run_part1 Tryz.underlying3 rfl rfl) (run_part1 Tryz.underlying3 rfl rfl) (eq_int Tryz.underlying3) eqF_nil)))))))))))
theorem eqt88 (x y : EKey) {d : Nat} {w : World} : (Op.equalIn (d + 2) 88 (.agg [.int .i64 x.fKind, .string x.fRoom, .string x.fUser, .string x.fThread, .bool x.fPrivate].toArray) (.agg [.int .i64 y.fKind, .string y.fRoom, .string y.fUser, .string y.fThread, .bool y.fPrivate].toArray)).run Tryz.prog w = .ok (decide (x = y)) w := by
  have e : decide (x = y) = ((decide (x.fKind = y.fKind) && (decide (x.fRoom = y.fRoom) && (decide (x.fUser = y.fUser) && (decide (x.fThread = y.fThread) && (decide (x.fPrivate = y.fPrivate) && true)))))) := by cases x; cases y; rw [Bool.eq_iff_iff]; simp
  rw [e]
  exact eq_struct Tryz.underlying88 st88 (eqF_cons (by decide) (run_part1 Tryz.underlying3 rfl rfl) (run_part1 Tryz.underlying3 rfl rfl) (eq_int Tryz.underlying3) (eqF_cons (by decide) (run_part1 Tryz.underlying9 rfl rfl) (run_part1 Tryz.underlying9 rfl rfl) (eq_str Tryz.underlying9) (eqF_cons (by decide) (run_part1 Tryz.underlying9 rfl rfl) (run_part1 Tryz.underlying9 rfl rfl) (eq_str Tryz.underlying9) (eqF_cons (by decide) (run_part1 Tryz.underlying9 rfl rfl) (run_part1 Tryz.underlying9 rfl rfl) (eq_str Tryz.underlying9) (eqF_cons (by decide) (run_part1 Tryz.underlying4 rfl rfl) (run_part1 Tryz.underlying4 rfl rfl) (eq_bool Tryz.underlying4) eqF_nil)))))
def HHeap.O (p : OV) (m : HHeap) : As := exA (γ := Nat × OV × OV) (fun g => p.1 = .pointer (some ⟨g.1, 0, none⟩)) (fun g => [blk g.1 81 [eq g.2.1.1, eq g.2.2.1], own HEnt.K g.2.1.1 m.fl, mp Value.string (fun x : Int => eq (.int .i64 x)) g.2.2.1 m.fat])
theorem HHeap.nn {p : OV} {m : HHeap} : NN (HHeap.O p m) p.1 := by unfold HHeap.O; exact nn_ex (γ := Nat × OV × OV) (b := fun g => g.1)
theorem HHeap.opn {l : List As} {p : OV} {m : HHeap} (j : Nat) (hj : l[j]? = some (HHeap.O p m)) : ∀ R w, St R l w → ∃ g : Nat × OV × OV, p.1 = .pointer (some ⟨g.1, 0, none⟩) ∧ St R ([blk g.1 81 [eq g.2.1.1, eq g.2.2.1], own HEnt.K g.2.1.1 m.fl, mp Value.string (fun x : Int => eq (.int .i64 x)) g.2.2.1 m.fat] ++ l.eraseIdx j) w := st_open j hj
theorem HHeap.shut {l r : List As} {p : OV} {m : HHeap} (g : Nat × OV × OV) (hg : p.1 = .pointer (some ⟨g.1, 0, none⟩)) (hp : l.Perm ([blk g.1 81 [eq g.2.1.1, eq g.2.2.1], own HEnt.K g.2.1.1 m.fl, mp Value.string (fun x : Int => eq (.int .i64 x)) g.2.2.1 m.fat] ++ r)) : ∀ R w, St R l w → ∃ _ : Unit, True ∧ St R (HHeap.O p m :: r) w := st_shut _ _ g hg hp
def PTab.O (p : OV) (m : PTab) : As := exA (γ := Nat × OV × OV) (fun g => p.1 = .pointer (some ⟨g.1, 0, none⟩)) (fun g => [blk g.1 61 [eq g.2.1.1, eq g.2.2.1], own Edu.K g.2.1.1 m.fl, HHeap.O g.2.2 m.fturns])
theorem PTab.nn {p : OV} {m : PTab} : NN (PTab.O p m) p.1 := by unfold PTab.O; exact nn_ex (γ := Nat × OV × OV) (b := fun g => g.1)
theorem PTab.opn {l : List As} {p : OV} {m : PTab} (j : Nat) (hj : l[j]? = some (PTab.O p m)) : ∀ R w, St R l w → ∃ g : Nat × OV × OV, p.1 = .pointer (some ⟨g.1, 0, none⟩) ∧ St R ([blk g.1 61 [eq g.2.1.1, eq g.2.2.1], own Edu.K g.2.1.1 m.fl, HHeap.O g.2.2 m.fturns] ++ l.eraseIdx j) w := st_open j hj
theorem PTab.shut {l r : List As} {p : OV} {m : PTab} (g : Nat × OV × OV) (hg : p.1 = .pointer (some ⟨g.1, 0, none⟩)) (hp : l.Perm ([blk g.1 61 [eq g.2.1.1, eq g.2.2.1], own Edu.K g.2.1.1 m.fl, HHeap.O g.2.2 m.fturns] ++ r)) : ∀ R w, St R l w → ∃ _ : Unit, True ∧ St R (PTab.O p m :: r) w := st_shut _ _ g hg hp
def fqQ_uint8_bool (g : Int → Option Bool) : List VP → VP → Prop := fun vs ret => ∃ a0 r, g a0 = some r ∧ vs = [eq (.int .u8 a0)] ∧ ret = eq (.bool r)
def fq_uint8_bool (g : Int → Option Bool) : VP := fnq Tryz.prog (fqQ_uint8_bool g)
def fx_uint8_bool (X : As) (g : Int → Option Bool) : VP := fnx Tryz.prog X (fqQ_uint8_bool g)
def fK_uint8_bool : Kd (Int → Option Bool) := ⟨1, fun _ => none, fun g => [fq_uint8_bool g], fun _ => rfl, fun _ p h R v hv => by simp at h; subst h; exact one_fnq R v hv⟩
def fqQ_int_int_int_bool (g : Int → Int → Int → Option Bool) : List VP → VP → Prop := fun vs ret => ∃ a0 a1 a2 r, g a0 a1 a2 = some r ∧ vs = [eq (.int .i64 a0), eq (.int .i64 a1), eq (.int .i64 a2)] ∧ ret = eq (.bool r)
def fq_int_int_int_bool (g : Int → Int → Int → Option Bool) : VP := fnq Tryz.prog (fqQ_int_int_int_bool g)
def fx_int_int_int_bool (X : As) (g : Int → Int → Int → Option Bool) : VP := fnx Tryz.prog X (fqQ_int_int_int_bool g)
def fK_int_int_int_bool : Kd (Int → Int → Int → Option Bool) := ⟨1, fun _ _ _ => none, fun g => [fq_int_int_int_bool g], fun _ => rfl, fun _ p h R v hv => by simp at h; subst h; exact one_fnq R v hv⟩
def fqQ_api_Edu_bool (g : Edu → Option Bool) : List VP → VP → Prop := fun vs ret => ∃ a0 r, g a0 = some r ∧ vs = [agg (Edu.enc a0)] ∧ ret = eq (.bool r)
def fq_api_Edu_bool (g : Edu → Option Bool) : VP := fnq Tryz.prog (fqQ_api_Edu_bool g)
def fx_api_Edu_bool (X : As) (g : Edu → Option Bool) : VP := fnx Tryz.prog X (fqQ_api_Edu_bool g)
def fK_api_Edu_bool : Kd (Edu → Option Bool) := ⟨1, fun _ => none, fun g => [fq_api_Edu_bool g], fun _ => rfl, fun _ p h R v hv => by simp at h; subst h; exact one_fnq R v hv⟩
def fqQ_api_Edu_string_int (g : Edu → ByteArray → Option Int) : List VP → VP → Prop := fun vs ret => ∃ a0 a1 r, g a0 a1 = some r ∧ vs = [agg (Edu.enc a0), eq (.string a1)] ∧ ret = eq (.int .i64 r)
def fq_api_Edu_string_int (g : Edu → ByteArray → Option Int) : VP := fnq Tryz.prog (fqQ_api_Edu_string_int g)
def fx_api_Edu_string_int (X : As) (g : Edu → ByteArray → Option Int) : VP := fnx Tryz.prog X (fqQ_api_Edu_string_int g)
def fK_api_Edu_string_int : Kd (Edu → ByteArray → Option Int) := ⟨1, fun _ _ => none, fun g => [fq_api_Edu_string_int g], fun _ => rfl, fun _ p h R v hv => by simp at h; subst h; exact one_fnq R v hv⟩
/-! concourse/heap.New: function 27 -/
def heap_New.f : Option (HHeap) := some (⟨([] : List HEnt), ([] : List (ByteArray × Int))⟩ : HHeap)
/-! concourse/presence.New: function 7 -/
def presence_New.f : Option (PTab) := (heap_New.f).bind fun t3 => some (⟨([] : List Edu), t3⟩ : PTab)
/-! concourse/concourseref01.Around: function 12 -/
def concourseref01_Around.f (a0 : Int) (a1 : Int) : Option (Int) := cond (decide (a0 < 0)) (grd (a1 ≠ 0) (some ((w64 (0 - (w64 (a0 + 1)))).tmod a1))) (grd (a1 ≠ 0) (some (a0.tmod a1)))
/-! concourse/concourseref01.ServerOf: function 40 -/
def concourseref01_ServerOf.f (a0 : Int) : Option (ByteArray) := (concourseref01_Around.f a0 3).bind fun t10 => grd ((0 : Int) ≤ t10 ∧ t10 < (([(⟨#[115, 49]⟩ : ByteArray), (⟨#[115, 50]⟩ : ByteArray), (⟨#[115, 51]⟩ : ByteArray)] : List ByteArray).length : Int)) (some (strK.at ([(⟨#[115, 49]⟩ : ByteArray), (⟨#[115, 50]⟩ : ByteArray), (⟨#[115, 51]⟩ : ByteArray)] : List ByteArray) t10))
/-! concourse/concourseref01.UserOf: function 18 -/
def concourseref01_UserOf.f (a0 : Int) : Option (ByteArray) := (concourseref01_Around.f a0 9).bind fun t13 => grd ((0 : Int) ≤ (w64 (t13.tdiv 3)) ∧ (w64 (t13.tdiv 3)) < (([(⟨#[64, 97, 58]⟩ : ByteArray), (⟨#[64, 98, 58]⟩ : ByteArray), (⟨#[64, 99, 58]⟩ : ByteArray)] : List ByteArray).length : Int)) ((concourseref01_ServerOf.f (t13.tmod 3)).bind fun t16 => grd ((strK.at ([(⟨#[64, 97, 58]⟩ : ByteArray), (⟨#[64, 98, 58]⟩ : ByteArray), (⟨#[64, 99, 58]⟩ : ByteArray)] : List ByteArray) (w64 (t13.tdiv 3))).size + t16.size ≤ 9223372036854775807) (some ((strK.at ([(⟨#[64, 97, 58]⟩ : ByteArray), (⟨#[64, 98, 58]⟩ : ByteArray), (⟨#[64, 99, 58]⟩ : ByteArray)] : List ByteArray) (w64 (t13.tdiv 3))) ++ t16)))
/-! concourse/concourseref01.RoomOf: function 48 -/
def concourseref01_RoomOf.f (a0 : Int) : Option (ByteArray) := (concourseref01_Around.f a0 2).bind fun t19 => grd ((0 : Int) ≤ t19 ∧ t19 < (([(⟨#[33, 114, 58, 115, 49]⟩ : ByteArray), (⟨#[33, 113, 58, 115, 50]⟩ : ByteArray)] : List ByteArray).length : Int)) (some (strK.at ([(⟨#[33, 114, 58, 115, 49]⟩ : ByteArray), (⟨#[33, 113, 58, 115, 50]⟩ : ByteArray)] : List ByteArray) t19))
/-! concourse/concourseref01.Decimal: function 70 -/
def concourseref01_Decimal.f : Nat → Int → Option (ByteArray)
  | 0, _ => none
  | k + 1, a0 => (cond (decide ((a0.tmod 10) < 0)) (some (w64 (0 - (a0.tmod 10)))) (some (a0.tmod 10))).bind fun (p22 : Int) => cond (decide ((-10) < a0)) (cond (decide (a0 < 10)) (cond (decide (a0 < 0)) (grd ((⟨#[45]⟩ : ByteArray).size + (ofNums ([IntKind.u8.wrap (w64 (48 + p22))] : List Int)).size ≤ 9223372036854775807) (some ((⟨#[45]⟩ : ByteArray) ++ (ofNums ([IntKind.u8.wrap (w64 (48 + p22))] : List Int))))) (some (ofNums ([IntKind.u8.wrap (w64 (48 + p22))] : List Int)))) ((concourseref01_Decimal.f k (w64 (a0.tdiv 10))).bind fun t27 => grd (t27.size + (ofNums ([IntKind.u8.wrap (w64 (48 + p22))] : List Int)).size ≤ 9223372036854775807) (some (t27 ++ (ofNums ([IntKind.u8.wrap (w64 (48 + p22))] : List Int)))))) ((concourseref01_Decimal.f k (w64 (a0.tdiv 10))).bind fun t31 => grd (t31.size + (ofNums ([IntKind.u8.wrap (w64 (48 + p22))] : List Int)).size ≤ 9223372036854775807) (some (t31 ++ (ofNums ([IntKind.u8.wrap (w64 (48 + p22))] : List Int)))))
/-! concourse/concourseref01.EventOf: function 49 -/
def concourseref01_EventOf.f (k : Nat) (a0 : Int) : Option (ByteArray) := (concourseref01_Around.f a0 9).bind fun t35 => (concourseref01_Decimal.f k t35).bind fun t37 => grd ((⟨#[36, 101]⟩ : ByteArray).size + t37.size ≤ 9223372036854775807) (some ((⟨#[36, 101]⟩ : ByteArray) ++ t37))
/-! concourse/concourseref01.ThreadOf: function 50 -/
def concourseref01_ThreadOf.f (k : Nat) (a0 : Int) : Option (ByteArray) := (concourseref01_Around.f a0 11).bind fun t40 => cond (t40 == 9) (some (⟨#[]⟩ : ByteArray)) (cond (t40 == 10) (some (⟨#[109, 97, 105, 110]⟩ : ByteArray)) ((concourseref01_EventOf.f k t40).bind fun t44 => some t44))
/-! concourse/concourseref03.Good: function 30 -/
def concourseref03_Good.f (k : Nat) (a0 : Edu) : Option (Edu) := (concourseref01_Around.f a0.fKind 3).bind fun t48 => (concourseref01_UserOf.f a0.fState).bind fun t50 => (concourseref01_Around.f a0.fTick 100).bind fun t52 => (concourseref01_Around.f a0.fStamp 9).bind fun t54 => cond ((w64 (1 + t48)) == 1) ((concourseref01_RoomOf.f a0.fSpan).bind fun t58 => (concourseref01_Around.f a0.fTick 9).bind fun t60 => (concourseref01_EventOf.f k (w64 ((a0.fEvent.size : Int) + t60))).bind fun t62 => (concourseref01_ThreadOf.f k (a0.fThread.size : Int)).bind fun t64 => some (⟨w64 (1 + t48), t58, t50, t62, t64, a0.fPrivate, false, 0, 0, t52, t54⟩ : Edu)) (cond ((w64 (1 + t48)) == 2) ((concourseref01_RoomOf.f a0.fSpan).bind fun t67 => cond a0.fOn ((concourseref01_Around.f a0.fSpan 60).bind fun t70 => some (⟨w64 (1 + t48), t67, t50, (⟨#[]⟩ : ByteArray), (⟨#[]⟩ : ByteArray), false, a0.fOn, w64 (1 + t70), 0, t52, t54⟩ : Edu)) (some (⟨w64 (1 + t48), t67, t50, (⟨#[]⟩ : ByteArray), (⟨#[]⟩ : ByteArray), false, a0.fOn, 0, 0, t52, t54⟩ : Edu))) ((concourseref01_Around.f a0.fSpan 3).bind fun t72 => some (⟨w64 (1 + t48), (⟨#[]⟩ : ByteArray), t50, (⟨#[]⟩ : ByteArray), (⟨#[]⟩ : ByteArray), false, false, 0, t72, t52, t54⟩ : Edu)))
/-! concourse/concourseref15.Made: function 9 -/
def concourseref15_Made.f (k : Nat) (a0 : Edu) : Option (Edu) := (concourseref03_Good.f k (⟨2, a0.fRoom, a0.fUser, a0.fEvent, a0.fThread, a0.fPrivate, a0.fOn, a0.fSpan, a0.fState, a0.fTick, a0.fStamp⟩ : Edu)).bind fun t76 => some t76
/-! concourse/edu.asks$1: function 97 -/
def edu_asks_1.f (a0 : Int) (a1 : Int) (a2 : Int) : Option (Bool) := cond (decide (a1 ≤ a0)) (some (decide (a0 ≤ a2))) (some false)
/-! concourse/edu.asks$2: function 98 -/
def edu_asks_2.f (a0 : Edu) : Option (Bool) := some false
/-! internal/stringslite.HasPrefix: function 126 -/
def stringslite_HasPrefix.f (a0 : ByteArray) (a1 : ByteArray) : Option (Bool) := cond (decide ((a1.size : Int) ≤ (a0.size : Int))) (grd ((0 : Int) ≤ (a1.size : Int) ∧ 0 ≤ (a1.size : Int).toNat ∧ (a1.size : Int).toNat ≤ a0.size) (some (decide ((a0.extract 0 ((a1.size : Int).toNat)) = a1)))) (some false)
/-! internal/stringslite.CutPrefix: function 122 -/
def stringslite_CutPrefix.f (a0 : ByteArray) (a1 : ByteArray) : Option (ByteArray × Bool) := (stringslite_HasPrefix.f a0 a1).bind fun t82 => cond (!t82) (some (a0, false)) (grd ((0 : Int) ≤ (a1.size : Int) ∧ (a1.size : Int).toNat ≤ a0.size ∧ a0.size ≤ a0.size) (some (a0.extract (a1.size : Int).toNat a0.size, true)))
/-! strings.CutPrefix: function 117 -/
def strings_CutPrefix.f (a0 : ByteArray) (a1 : ByteArray) : Option (ByteArray × Bool) := (stringslite_CutPrefix.f a0 a1).bind fun t86 => some (t86.1, t86.2)
/-! concourse/name.small: function 125 -/
def name_small.f (a0 : Int) : Option (Bool) := cond (decide (97 ≤ a0)) (cond (decide (a0 ≤ 122)) (some true) (cond (decide (48 ≤ a0)) (some (decide (a0 ≤ 57))) (some false))) (cond (decide (48 ≤ a0)) (some (decide (a0 ≤ 57))) (some false))
/-! internal/stringslite.IndexByte: function 130 -/
def stringslite_IndexByte.f (a0 : ByteArray) (a1 : Int) : Option (Int) := some (idxB a0 a1)
/-! strings.IndexByte: function 128 -/
def strings_IndexByte.f (a0 : ByteArray) (a1 : Int) : Option (Int) := (stringslite_IndexByte.f a0 a1).bind fun t92 => some t92
/-! concourse/name.among$1: function 127 -/
def name_among_1.f (a0 : Int) (c0 : ByteArray) : Option (Bool) := (name_small.f a0).bind fun t94 => cond t94 (some true) ((strings_IndexByte.f c0 a0).bind fun t97 => some (decide (0 ≤ t97)))
/-! concourse/name.among: function 123 -/
def name_among.f (a0 : ByteArray) : Option ((Int → Option Bool)) := some (fun a0_ => name_among_1.f a0_ a0)
/-! concourse/name.may: function 118 -/
def name_may.l0 (k : Nat) (a0 : ByteArray) (a1 : Int) (t100 : (Int → Option Bool)) (t102 : (Int → Option Bool)) (t104 : (Int → Option Bool)) : Nat → Int → Option ((Int × Bool) ⊕ (Bool))
  | 0, _ => none
  | j115 + 1, x109 => cond (decide (x109 < (a0.size : Int))) (grd ((0 : Int) ≤ x109 ∧ x109 < (a0.size : Int)) (((fK_uint8_bool.at ([t100, t102, t104] : List (Int → Option Bool)) a1) (bt a0 x109)).bind fun t112 => cond (!t112) (some (.inr false)) (name_may.l0 k a0 a1 t100 t102 t104 j115 (w64 (x109 + 1))))) (some (.inl (x109, decide (x109 < (a0.size : Int)))))
def name_may.f (k : Nat) (a0 : ByteArray) (a1 : Int) : Option (Bool) := (name_among.f (⟨#[46, 45, 95]⟩ : ByteArray)).bind fun t100 => (name_among.f (⟨#[46, 45]⟩ : ByteArray)).bind fun t102 => (name_among.f (⟨#[45, 95, 65, 66, 67, 68, 69, 70, 71, 72, 73, 74, 75, 76, 77, 78, 79, 80, 81, 82, 83, 84, 85, 86, 87, 88, 89, 90]⟩ : ByteArray)).bind fun t104 => grd ((0 : Int) ≤ a1 ∧ a1 < (3 : Int)) ((name_may.l0 k a0 a1 t100 t102 t104 k 0).bind (fall fun (p107 : Int × Bool) => cond (!decide (a0 = (⟨#[]⟩ : ByteArray))) (some (decide ((a0.size : Int) ≤ 16))) (some false)))
/-! internal/bytealg.Cutover: function 132 -/
def bytealg_Cutover.f (a0 : Int) : Option (Int) := some (w64 ((w64 (a0 + 16)).tdiv 8))
/-! internal/stringslite.Index: function 129 -/
def stringslite_Index.f (a0 : ByteArray) (a1 : ByteArray) : Option (Int) := cond ((a1.size : Int) == 0) (some 0) (cond (decide (a1 = a0)) (some 0) (cond ((a1.size : Int) == 1) (grd ((0 : Int) ≤ 0 ∧ 0 < (a1.size : Int)) ((stringslite_IndexByte.f a0 (bt a1 0)).bind fun t124 => some t124)) (cond (decide ((a0.size : Int) ≤ (a1.size : Int))) (some (-1)) (none))))
/-! internal/stringslite.Cut: function 124 -/
def stringslite_Cut.f (a0 : ByteArray) (a1 : ByteArray) : Option (ByteArray × ByteArray × Bool) := (stringslite_Index.f a0 a1).bind fun t127 => cond (decide (0 ≤ t127)) (grd ((0 : Int) ≤ t127 ∧ 0 ≤ t127.toNat ∧ t127.toNat ≤ a0.size) (grd ((0 : Int) ≤ (w64 (t127 + (a1.size : Int))) ∧ (w64 (t127 + (a1.size : Int))).toNat ≤ a0.size ∧ a0.size ≤ a0.size) (some (a0.extract 0 t127.toNat, a0.extract (w64 (t127 + (a1.size : Int))).toNat a0.size, true)))) (some (a0, (⟨#[]⟩ : ByteArray), false))
/-! strings.Cut: function 119 -/
def strings_Cut.f (a0 : ByteArray) (a1 : ByteArray) : Option (ByteArray × ByteArray × Bool) := (stringslite_Cut.f a0 a1).bind fun t132 => some (t132.1, t132.2.1, t132.2.2)
/-! concourse/name.Server: function 120 -/
def name_Server.f (k : Nat) (a0 : ByteArray) : Option (Bool) := (name_may.f k a0 1).bind fun t134 => cond t134 (grd ((0 : Int) ≤ 0 ∧ 0 < (a0.size : Int)) ((name_small.f (bt a0 0)).bind fun t138 => cond t138 (grd ((0 : Int) ≤ (w64 ((a0.size : Int) - 1)) ∧ (w64 ((a0.size : Int) - 1)) < (a0.size : Int)) ((name_small.f (bt a0 (w64 ((a0.size : Int) - 1)))).bind fun t142 => some t142)) (some false))) (some false)
/-! concourse/name.split: function 105 -/
def name_split.f (k : Nat) (a0 : ByteArray) (a1 : ByteArray) : Option (ByteArray × ByteArray × Bool) := (strings_CutPrefix.f a0 a1).bind fun t144 => (strings_Cut.f t144.1 (⟨#[58]⟩ : ByteArray)).bind fun t146 => cond t144.2 (cond t146.2.2 ((name_may.f k t146.1 0).bind fun t150 => cond t150 ((name_Server.f k t146.2.1).bind fun t153 => some (t146.1, t146.2.1, t153)) (some (t146.1, t146.2.1, false))) (some (t146.1, t146.2.1, false))) (some (t146.1, t146.2.1, false))
/-! concourse/name.Room: function 100 -/
def name_Room.f (k : Nat) (a0 : ByteArray) : Option (Bool) := (name_split.f k a0 (⟨#[33]⟩ : ByteArray)).bind fun t155 => some t155.2.2
/-! concourse/name.Event: function 101 -/
def name_Event.f (k : Nat) (a0 : ByteArray) : Option (Bool) := (strings_CutPrefix.f a0 (⟨#[36]⟩ : ByteArray)).bind fun t157 => cond t157.2 ((name_may.f k t157.1 2).bind fun t160 => some t160) (some false)
/-! concourse/name.Thread: function 102 -/
def name_Thread.f (k : Nat) (a0 : ByteArray) : Option (Bool) := cond (decide (a0 = (⟨#[]⟩ : ByteArray))) (some true) (cond (decide (a0 = (⟨#[109, 97, 105, 110]⟩ : ByteArray))) (some true) ((name_Event.f k a0).bind fun t164 => some t164))
/-! concourse/edu.asks$3: function 99 -/
def edu_asks_3.f (k : Nat) (a0 : Edu) : Option (Bool) := (name_Room.f k a0.fRoom).bind fun t167 => cond t167 ((name_Event.f k a0.fEvent).bind fun t170 => cond t170 ((name_Thread.f k a0.fThread).bind fun t173 => some t173) (some false)) (some false)
/-! concourse/edu.asks$4: function 103 -/
def edu_asks_4.f (k : Nat) (a0 : Edu) (c0 : Int → Int → Int → Option Bool) : Option (Bool) := (name_Room.f k a0.fRoom).bind fun t176 => cond t176 (cond (!a0.fOn) (some true) ((c0 a0.fSpan 1 60).bind fun t180 => some t180)) (some false)
/-! concourse/edu.asks$5: function 104 -/
def edu_asks_5.f (a0 : Edu) (c0 : Int → Int → Int → Option Bool) : Option (Bool) := (c0 a0.fState 0 2).bind fun t183 => some t183
/-! concourse/edu.asks: function 71 -/
def edu_asks.f (k : Nat) : Option ((List (Edu → Option Bool))) := some ([edu_asks_2.f, edu_asks_3.f k, fun a0_ => edu_asks_4.f k a0_ edu_asks_1.f, fun a0_ => edu_asks_5.f a0_ edu_asks_1.f] : List (Edu → Option Bool))
/-! concourse/edu.Local$1: function 72 -/
def edu_Local_1.f (a0 : Int) : Option (Bool) := cond (decide (0 ≤ a0)) (some (decide (a0 ≤ 1099511627776))) (some false)
/-! concourse/edu.named: function 73 -/
def edu_named.f (a0 : Edu) : Option (Edu) := cond (a0.fKind == 1) (some (⟨a0.fKind, a0.fRoom, a0.fUser, a0.fEvent, a0.fThread, a0.fPrivate, false, 0, 0, a0.fTick, a0.fStamp⟩ : Edu)) (cond (a0.fKind == 2) (cond a0.fOn (some (⟨a0.fKind, a0.fRoom, a0.fUser, (⟨#[]⟩ : ByteArray), (⟨#[]⟩ : ByteArray), false, a0.fOn, a0.fSpan, 0, a0.fTick, a0.fStamp⟩ : Edu)) (some (⟨a0.fKind, a0.fRoom, a0.fUser, (⟨#[]⟩ : ByteArray), (⟨#[]⟩ : ByteArray), false, a0.fOn, 0, 0, a0.fTick, a0.fStamp⟩ : Edu))) (cond (a0.fKind == 3) (some (⟨a0.fKind, (⟨#[]⟩ : ByteArray), a0.fUser, (⟨#[]⟩ : ByteArray), (⟨#[]⟩ : ByteArray), false, false, 0, a0.fState, a0.fTick, a0.fStamp⟩ : Edu)) (some (⟨a0.fKind, (⟨#[]⟩ : ByteArray), a0.fUser, (⟨#[]⟩ : ByteArray), (⟨#[]⟩ : ByteArray), false, false, 0, 0, a0.fTick, a0.fStamp⟩ : Edu))))
/-! concourse/name.User: function 74 -/
def name_User.f (k : Nat) (a0 : ByteArray) : Option (Bool) := (name_split.f k a0 (⟨#[64]⟩ : ByteArray)).bind fun t194 => some t194.2.2
/-! concourse/edu.Local: function 51 -/
def edu_Local.f (k : Nat) (a0 : Edu) : Option (Bool) := cond (decide (a0.fKind < 0)) (some false) (cond (decide (3 < a0.fKind)) (some false) ((edu_asks.f k).bind fun t201 => grd ((0 : Int) ≤ a0.fKind ∧ a0.fKind < (t201.length : Int)) (((fK_api_Edu_bool.at t201 a0.fKind) a0).bind fun t204 => cond (!t204) (some false) ((edu_named.f a0).bind fun t207 => cond (decide (a0 = t207)) ((name_User.f k a0.fUser).bind fun t210 => cond t210 ((edu_Local_1.f a0.fTick).bind fun t213 => cond t213 ((edu_Local_1.f a0.fStamp).bind fun t216 => some t216) (some false)) (some false)) (some false)))))
/-! concourse/edu.May: function 31 -/
def edu_May.f (k : Nat) (a0 : Edu) : Option (Bool) := (edu_Local.f k a0).bind fun t219 => cond t219 (some (!a0.fPrivate)) (some false)
/-! slices.BinarySearchFunc[[]concourse/api.Edu,concourse/api.Edu,string]: function 52 -/
def slices_BinarySearchFunc_Edu_string.l0 (k : Nat) (a0 : List Edu) (a1 : ByteArray) (a2 : Edu → ByteArray → Option Int) : Nat → Int → Int → Option (Int × Int × Bool)
  | 0, _, _ => none
  | j234 + 1, x227, x228 => cond (decide (x227 < x228)) (grd ((0 : Int) ≤ (w64 ((IntKind.u64.wrap (w64 (x227 + x228))).fdiv 2)) ∧ (w64 ((IntKind.u64.wrap (w64 (x227 + x228))).fdiv 2)) < (a0.length : Int)) ((a2 (Edu.K.at a0 (w64 ((IntKind.u64.wrap (w64 (x227 + x228))).fdiv 2))) a1).bind fun t231 => cond (decide (t231 < 0)) (slices_BinarySearchFunc_Edu_string.l0 k a0 a1 a2 j234 (w64 ((w64 ((IntKind.u64.wrap (w64 (x227 + x228))).fdiv 2)) + 1)) x228) (slices_BinarySearchFunc_Edu_string.l0 k a0 a1 a2 j234 x227 (w64 ((IntKind.u64.wrap (w64 (x227 + x228))).fdiv 2))))) (some (x227, x228, decide (x227 < x228)))
def slices_BinarySearchFunc_Edu_string.f (k : Nat) (a0 : List Edu) (a1 : ByteArray) (a2 : Edu → ByteArray → Option Int) : Option (Int × Bool) := (slices_BinarySearchFunc_Edu_string.l0 k a0 a1 a2 k 0 (a0.length : Int)).bind fun (p222 : Int × Int × Bool) => cond (decide (p222.1 < (a0.length : Int))) (grd ((0 : Int) ≤ p222.1 ∧ p222.1 < (a0.length : Int)) ((a2 (Edu.K.at a0 p222.1) a1).bind fun t225 => some (p222.1, (t225 == 0)))) (some (p222.1, false))
/-! cmp.isNaN[string]: function 75 -/
def cmp_isNaN_string.f (a0 : ByteArray) : Option (Bool) := some (!decide (a0 = a0))
/-! cmp.Compare[string]: function 54 -/
def cmp_Compare_string.f (a0 : ByteArray) (a1 : ByteArray) : Option (Int) := (cmp_isNaN_string.f a0).bind fun t236 => (cmp_isNaN_string.f a1).bind fun t238 => cond t236 (cond t238 (some 0) (some (-1))) (cond t238 (some 1) (cond (sLt a0 a1) (some (-1)) (cond (sLt a1 a0) (some 1) (some 0))))
/-! (*concourse/presence.Table).place$1: function 53 -/
def presence_Table_place_1.f (a0 : Edu) (a1 : ByteArray) : Option (Int) := (cmp_Compare_string.f a0.fUser a1).bind fun t246 => some t246
/-! (*concourse/presence.Table).place: function 32 -/
def presence_Table_place.f (k : Nat) (a0 : PTab) (a1 : ByteArray) : Option (Int × Bool) := (slices_BinarySearchFunc_Edu_string.f k a0.fl a1 presence_Table_place_1.f).bind fun t248 => some (t248.1, t248.2)
/-! concourse/edu.Of: function 55 -/
def edu_Of.f (a0 : Edu) : Option (EKey) := some (⟨a0.fKind, a0.fRoom, a0.fUser, a0.fThread, a0.fPrivate⟩ : EKey)
/-! cmp.Or[int]: function 76 -/
def cmp_Or_int.l0 (k : Nat) (a0 : List Int) : Nat → Int → Option ((Int × Bool) ⊕ (Int))
  | 0, _ => none
  | j257 + 1, x253 => cond (decide (x253 < (a0.length : Int))) (grd ((0 : Int) ≤ x253 ∧ x253 < (a0.length : Int)) (cond (((intK .i64).at a0 x253) != 0) (some (.inr ((intK .i64).at a0 x253))) (cmp_Or_int.l0 k a0 j257 (w64 (x253 + 1))))) (some (.inl (x253, decide (x253 < (a0.length : Int)))))
def cmp_Or_int.f (k : Nat) (a0 : List Int) : Option (Int) := (cmp_Or_int.l0 k a0 k 0).bind (fall fun (p252 : Int × Bool) => some 0)
/-! cmp.isNaN[int]: function 106 -/
def cmp_isNaN_int.f (a0 : Int) : Option (Bool) := some (a0 != a0)
/-! cmp.Compare[int]: function 77 -/
def cmp_Compare_int.f (a0 : Int) (a1 : Int) : Option (Int) := (cmp_isNaN_int.f a0).bind fun t259 => (cmp_isNaN_int.f a1).bind fun t261 => cond t259 (cond t261 (some 0) (some (-1))) (cond t261 (some 1) (cond (decide (a0 < a1)) (some (-1)) (cond (decide (a1 < a0)) (some 1) (some 0))))
/-! bytes.Compare: function 78 -/
def bytes_Compare.f (a0 : List Int) (a1 : List Int) : Option (Int) := some (cmpB a0 a1)
/-! concourse/lay.Number: function 108 -/
def lay_Number.l0 (k : Nat) : Nat → Int → List Int → Option (Int × Bool × (List Int))
  | 0, _, _ => none
  | j280 + 1, x274, x275 => cond (decide (128 ≤ x274)) (grd (x275.length + ([IntKind.u8.wrap (w64 ((x274.tmod 128) + 128))] : List Int).length ≤ 9223372036854775807 ∧ (x275.length + ([IntKind.u8.wrap (w64 ((x274.tmod 128) + 128))] : List Int).length) * 1 ≤ 140737488355328) (lay_Number.l0 k j280 (w64 (x274.tdiv 128)) (x275 ++ ([IntKind.u8.wrap (w64 ((x274.tmod 128) + 128))] : List Int)))) (some (x274, decide (128 ≤ x274), x275))
def lay_Number.f (k : Nat) (a0 : List Int) (a1 : Int) : Option ((List Int)) := grd ((0 : Int) ≤ (a0.length : Int) ∧ 0 ≤ (a0.length : Int).toNat ∧ (a0.length : Int).toNat ≤ a0.length) ((lay_Number.l0 k k (max a1 0) ((a0.take ((a0.length : Int).toNat)).drop 0)).bind fun (p270 : Int × Bool × (List Int)) => grd (p270.2.2.length + ([IntKind.u8.wrap (p270.1)] : List Int).length ≤ 9223372036854775807 ∧ (p270.2.2.length + ([IntKind.u8.wrap (p270.1)] : List Int).length) * 1 ≤ 140737488355328) (some (p270.2.2 ++ ([IntKind.u8.wrap (p270.1)] : List Int))))
/-! concourse/lay.Text: function 109 -/
def lay_Text.f (k : Nat) (a0 : List Int) (a1 : ByteArray) : Option ((List Int)) := (lay_Number.f k a0 (a1.size : Int)).bind fun t283 => grd (t283.length + (strBs a1).length ≤ 9223372036854775807 ∧ (t283.length + (strBs a1).length) * 1 ≤ 140737488355328) (some (t283 ++ (strBs a1)))
/-! concourse/lay.Flag: function 110 -/
def lay_Flag.f (k : Nat) (a0 : List Int) (a1 : Bool) : Option ((List Int)) := cond a1 ((lay_Number.f k a0 1).bind fun t289 => some t289) ((lay_Number.f k a0 0).bind fun t292 => some t292)
/-! concourse/edu.laid: function 79 -/
def edu_laid.l0 (k : Nat) (a0 : Edu) : Nat → Int → List Int → Option (Int × Bool × (List Int))
  | 0, _, _ => none
  | j314 + 1, x306, x307 => cond (decide (x306 < (([a0.fSpan, a0.fState, a0.fTick, a0.fStamp] : List Int).length : Int))) (grd ((0 : Int) ≤ x306 ∧ x306 < (([a0.fSpan, a0.fState, a0.fTick, a0.fStamp] : List Int).length : Int)) ((lay_Number.f k x307 ((intK .i64).at ([a0.fSpan, a0.fState, a0.fTick, a0.fStamp] : List Int) x306)).bind fun t311 => edu_laid.l0 k a0 j314 (w64 (x306 + 1)) t311)) (some (x306, decide (x306 < (([a0.fSpan, a0.fState, a0.fTick, a0.fStamp] : List Int).length : Int)), x307))
def edu_laid.l1 (k : Nat) (a0 : Edu) : Nat → Int → List Int → Option (Int × Bool × (List Int))
  | 0, _, _ => none
  | j325 + 1, x317, x318 => cond (decide (x317 < (([a0.fRoom, a0.fUser, a0.fEvent, a0.fThread] : List ByteArray).length : Int))) (grd ((0 : Int) ≤ x317 ∧ x317 < (([a0.fRoom, a0.fUser, a0.fEvent, a0.fThread] : List ByteArray).length : Int)) ((lay_Text.f k x318 (strK.at ([a0.fRoom, a0.fUser, a0.fEvent, a0.fThread] : List ByteArray) x317)).bind fun t322 => edu_laid.l1 k a0 j325 (w64 (x317 + 1)) t322)) (some (x317, decide (x317 < (([a0.fRoom, a0.fUser, a0.fEvent, a0.fThread] : List ByteArray).length : Int)), x318))
def edu_laid.f (k : Nat) (a0 : Edu) : Option ((List Int)) := (lay_Number.f k ([] : List Int) a0.fKind).bind fun t296 => (edu_laid.l1 k a0 k 0 t296).bind fun (p299 : Int × Bool × (List Int)) => (lay_Flag.f k p299.2.2 a0.fOn).bind fun t301 => (edu_laid.l0 k a0 k 0 t301).bind fun (p304 : Int × Bool × (List Int)) => some p304.2.2
/-! concourse/edu.Compare: function 56 -/
def edu_Compare.f (k : Nat) (a0 : Edu) (a1 : Edu) : Option (Int) := (cmp_Compare_int.f a0.fStamp a1.fStamp).bind fun t330 => (edu_laid.f k a0).bind fun t332 => (edu_laid.f k a1).bind fun t335 => (bytes_Compare.f t332 t335).bind fun t338 => (cmp_Or_int.f k ([t330, t338] : List Int)).bind fun t340 => some t340
/-! concourse/edu.Later: function 33 -/
def edu_Later.f (k : Nat) (a0 : Edu) (a1 : Edu) : Option (Bool) := (edu_Of.f a0).bind fun t344 => (edu_Of.f a1).bind fun t346 => cond (decide (t344 = t346)) ((edu_Compare.f k a0 a1).bind fun t349 => some (decide (0 < t349))) (some false)
/-! slices.Insert[[]concourse/api.Edu,concourse/api.Edu] -/
def slices_Insert_Edu.f (xs : List Edu) (i : Int) (ys : List Edu) : Option (List Edu) := grd ((0 : Int) ≤ i ∧ i ≤ (xs.length : Int) ∧ 0 < ys.length ∧ xs.length + ys.length ≤ 4611686018427387904 ∧ (xs.length + ys.length) * 112 ≤ 140737488355328) (some (xs.take i.toNat ++ ys ++ xs.drop i.toNat))
/-! (*concourse/heap.Heap).set: function 59 -/
def heap_Heap_set.f (a0 : HHeap) (a1 : Int) (a2 : HEnt) : Option (HHeap) := grd ((0 : Int) ≤ a1 ∧ a1 < (a0.fl.length : Int)) (some (⟨a0.fl.set a1.toNat a2, mput a0.fat a2.fKey a1⟩ : HHeap))
/-! concourse/heap.ahead: function 81 -/
def heap_ahead.f (k : Nat) (a0 : HEnt) (a1 : HEnt) : Option (Int) := (cmp_Compare_int.f a0.fAt a1.fAt).bind fun t363 => (cmp_Compare_string.f a0.fKey a1.fKey).bind fun t365 => (cmp_Or_int.f k ([t363, t365] : List Int)).bind fun t367 => some t367
/-! (*concourse/heap.Heap).down: function 60 -/
def heap_Heap_down.l0 (k : Nat) (a0 : HHeap) (a1 : Int) : Nat → Int → HHeap → Option (Int × Int × Bool × Bool × HHeap)
  | 0, _, _ => none
  | j404 + 1, x377, x378 => (cond (decide ((w64 ((w64 ((w64 (2 * x377)) + 1)) + 1)) < (x378.fl.length : Int))) (grd ((0 : Int) ≤ (w64 ((w64 ((w64 (2 * x377)) + 1)) + 1)) ∧ (w64 ((w64 ((w64 (2 * x377)) + 1)) + 1)) < (x378.fl.length : Int)) (grd ((0 : Int) ≤ (w64 ((w64 (2 * x377)) + 1)) ∧ (w64 ((w64 (2 * x377)) + 1)) < (x378.fl.length : Int)) ((heap_ahead.f k (x378.fl.getD ((w64 ((w64 ((w64 (2 * x377)) + 1)) + 1)).toNat) default) (x378.fl.getD ((w64 ((w64 (2 * x377)) + 1)).toNat) default)).bind fun t400 => cond (decide (t400 < 0)) (some (w64 ((w64 ((w64 (2 * x377)) + 1)) + 1), decide (t400 < 0))) (some (w64 ((w64 (2 * x377)) + 1), decide (t400 < 0)))))) (some (w64 ((w64 (2 * x377)) + 1), false))).bind fun (p379 : Int × Bool) => cond (decide ((x378.fl.length : Int) ≤ p379.1)) (some (x377, p379.1, p379.2, true, x378)) (grd ((0 : Int) ≤ p379.1 ∧ p379.1 < (x378.fl.length : Int)) ((heap_ahead.f k (a0.fl.getD a1.toNat default) (x378.fl.getD p379.1.toNat default)).bind fun t386 => cond (decide (t386 < 0)) (some (x377, p379.1, p379.2, decide (t386 < 0), x378)) (grd ((0 : Int) ≤ p379.1 ∧ p379.1 < (x378.fl.length : Int)) ((heap_Heap_set.f x378 x377 (x378.fl.getD p379.1.toNat default)).bind fun t391 => heap_Heap_down.l0 k a0 a1 j404 p379.1 t391))))
def heap_Heap_down.f (k : Nat) (a0 : HHeap) (a1 : Int) : Option (HHeap) := grd ((0 : Int) ≤ a1 ∧ a1 < (a0.fl.length : Int)) ((heap_Heap_down.l0 k a0 a1 k a1 a0).bind fun (p374 : Int × Int × Bool × Bool × HHeap) => (heap_Heap_set.f p374.2.2.2.2 p374.1 (a0.fl.getD a1.toNat default)).bind fun t375 => some t375)
/-! (*concourse/heap.Heap).up: function 61 -/
def heap_Heap_up.l0 (k : Nat) (a0 : HHeap) (a1 : Int) : Nat → Int → HHeap → Option (Int × Bool × HHeap)
  | 0, _, _ => none
  | j429 + 1, x414, x415 => cond (decide (0 < x414)) (grd ((0 : Int) ≤ (w64 ((w64 (x414 - 1)).tdiv 2)) ∧ (w64 ((w64 (x414 - 1)).tdiv 2)) < (x415.fl.length : Int)) ((heap_ahead.f k (a0.fl.getD a1.toNat default) (x415.fl.getD ((w64 ((w64 (x414 - 1)).tdiv 2)).toNat) default)).bind fun t421 => cond (decide (t421 < 0)) (grd ((0 : Int) ≤ (w64 ((w64 (x414 - 1)).tdiv 2)) ∧ (w64 ((w64 (x414 - 1)).tdiv 2)) < (x415.fl.length : Int)) ((heap_Heap_set.f x415 x414 (x415.fl.getD ((w64 ((w64 (x414 - 1)).tdiv 2)).toNat) default)).bind fun t426 => heap_Heap_up.l0 k a0 a1 j429 (w64 ((w64 (x414 - 1)).tdiv 2)) t426)) (some (x414, decide (t421 < 0), x415)))) (some (x414, false, x415))
def heap_Heap_up.f (k : Nat) (a0 : HHeap) (a1 : Int) : Option (HHeap) := grd ((0 : Int) ≤ a1 ∧ a1 < (a0.fl.length : Int)) ((heap_Heap_up.l0 k a0 a1 k a1 a0).bind fun (p411 : Int × Bool × HHeap) => (heap_Heap_set.f p411.2.2 p411.1 (a0.fl.getD a1.toNat default)).bind fun t412 => some t412)
/-! (*concourse/heap.Heap).Drop: function 35 -/
def heap_Heap_Drop.f (k : Nat) (a0 : HHeap) (a1 : ByteArray) : Option (Bool × HHeap) := cond (!((mget a0.fat a1).isSome)) (some (false, a0)) (grd ((0 : Int) ≤ (w64 ((a0.fl.length : Int) - 1)) ∧ (w64 ((a0.fl.length : Int) - 1)) < (a0.fl.length : Int)) (grd ((0 : Int) ≤ (w64 ((a0.fl.length : Int) - 1)) ∧ 0 ≤ (w64 ((a0.fl.length : Int) - 1)).toNat ∧ (w64 ((a0.fl.length : Int) - 1)).toNat ≤ a0.fl.length) (cond (decide (((mget a0.fat a1).getD 0) < (w64 ((a0.fl.length : Int) - 1)))) ((heap_Heap_set.f (⟨(a0.fl.take ((w64 ((a0.fl.length : Int) - 1)).toNat)).drop 0, mdel a0.fat a1⟩ : HHeap) ((mget a0.fat a1).getD 0) (a0.fl.getD ((w64 ((a0.fl.length : Int) - 1)).toNat) default)).bind fun t440 => (heap_Heap_down.f k t440 ((mget a0.fat a1).getD 0)).bind fun t442 => (heap_Heap_up.f k t442 ((mget t442.fat ((a0.fl.getD ((w64 ((a0.fl.length : Int) - 1)).toNat) default).fKey)).getD 0)).bind fun t446 => some (true, t446)) (some (true, (⟨(a0.fl.take ((w64 ((a0.fl.length : Int) - 1)).toNat)).drop 0, mdel a0.fat a1⟩ : HHeap))))))
/-! concourse/presence.state: function 38 -/
def presence_state.f (a0 : Edu) (a1 : Int) : Option (Int) := cond (a0.fState == 2) (cond (decide (a1 < (w64 (a0.fTick + 30)))) (some 2) (cond (decide (a1 < (w64 (a0.fTick + 90)))) (some 1) (some 0))) (cond (a0.fState == 1) (cond (decide (a1 < (w64 (a0.fTick + 90)))) (some 1) (some 0)) (some 0))
/-! concourse/presence.turn: function 36 -/
def presence_turn.l0 (k : Nat) (a0 : Edu) (a1 : Int) : Nat → Int → Option ((Int × Bool) ⊕ (Int × Bool))
  | 0, _ => none
  | j466 + 1, x456 => cond (decide (x456 < 2)) (grd ((0 : Int) ≤ x456 ∧ x456 < (2 : Int)) (cond (decide (a1 < (w64 (a0.fTick + ((intK .i64).at ([30, 90] : List Int) x456))))) ((presence_state.f a0 (w64 ((w64 (a0.fTick + ((intK .i64).at ([30, 90] : List Int) x456))) - 1))).bind fun t460 => (presence_state.f a0 (w64 (a0.fTick + ((intK .i64).at ([30, 90] : List Int) x456)))).bind fun t462 => cond (decide (t462 < t460)) (some (.inr (w64 (a0.fTick + ((intK .i64).at ([30, 90] : List Int) x456)), true))) (presence_turn.l0 k a0 a1 j466 (w64 (x456 + 1)))) (presence_turn.l0 k a0 a1 j466 (w64 (x456 + 1))))) (some (.inl (x456, decide (x456 < 2))))
def presence_turn.f (k : Nat) (a0 : Edu) (a1 : Int) : Option (Int × Bool) := (presence_turn.l0 k a0 a1 k 0).bind (fall fun (p455 : Int × Bool) => some (0, false))
/-! (*concourse/heap.Heap).Put: function 37 -/
def heap_Heap_Put.f (k : Nat) (a0 : HHeap) (a1 : Int) (a2 : ByteArray) : Option (HHeap) := (heap_Heap_Drop.f k a0 a2).bind fun t468 => grd (t468.2.fl.length + ([(⟨a1, a2⟩ : HEnt)] : List HEnt).length ≤ 9223372036854775807 ∧ (t468.2.fl.length + ([(⟨a1, a2⟩ : HEnt)] : List HEnt).length) * 24 ≤ 140737488355328) ((heap_Heap_up.f k (⟨t468.2.fl ++ ([(⟨a1, a2⟩ : HEnt)] : List HEnt), t468.2.fat⟩ : HHeap) (w64 (((t468.2.fl ++ ([(⟨a1, a2⟩ : HEnt)] : List HEnt)).length : Int) - 1))).bind fun t474 => some t474)
/-! (*concourse/presence.Table).Put: function 10 -/
def presence_Table_Put.f (k : Nat) (a0 : PTab) (a1 : Edu) : Option (Bool × Int × PTab) := cond (a1.fKind != 3) (some (false, 1, a0)) ((edu_May.f k a1).bind fun t479 => cond (!t479) (some (false, 1, a0)) ((presence_Table_place.f k a0 a1.fUser).bind fun t484 => (cond t484.2 (grd ((0 : Int) ≤ t484.1 ∧ t484.1 < (a0.fl.length : Int)) ((edu_Later.f k a1 (a0.fl.getD t484.1.toNat default)).bind fun t499 => cond (!t499) (some (.inr (false, 0, a0))) (grd ((0 : Int) ≤ t484.1 ∧ t484.1 < (a0.fl.length : Int)) (some (.inl (true, !t499, true, (⟨a0.fl.set t484.1.toNat a1, a0.fturns⟩ : PTab))))))) ((slices_Insert_Edu.f a0.fl t484.1 ([a1] : List Edu)).bind fun t507 => some (.inl (false, false, false, (⟨t507, a0.fturns⟩ : PTab))))).bind (fall fun (p486 : Bool × Bool × Bool × PTab) => (heap_Heap_Drop.f k p486.2.2.2.fturns a1.fUser).bind fun t489 => (presence_turn.f k a1 (-1)).bind fun t491 => cond t491.2 ((heap_Heap_Put.f k t489.2 t491.1 a1.fUser).bind fun t494 => some (true, 0, (⟨p486.2.2.2.fl, t494⟩ : PTab))) (some (true, 0, (⟨p486.2.2.2.fl, t489.2⟩ : PTab))))))
/-! concourse/concourseref01.SameTexts: function 13 -/
def concourseref01_SameTexts.l0 (k : Nat) (a0 : List ByteArray) (a1 : List ByteArray) : Nat → Int → Option ((Int × Bool) ⊕ (Bool))
  | 0, _ => none
  | j517 + 1, x512 => cond (decide (x512 < (a0.length : Int))) (grd ((0 : Int) ≤ x512 ∧ x512 < (a0.length : Int)) (grd ((0 : Int) ≤ x512 ∧ x512 < (a1.length : Int)) (cond (!decide ((strK.at a0 x512) = (strK.at a1 x512))) (some (.inr false)) (concourseref01_SameTexts.l0 k a0 a1 j517 (w64 (x512 + 1)))))) (some (.inl (x512, decide (x512 < (a0.length : Int)))))
def concourseref01_SameTexts.f (k : Nat) (a0 : List ByteArray) (a1 : List ByteArray) : Option (Bool) := cond ((a0.length : Int) != (a1.length : Int)) (some false) ((concourseref01_SameTexts.l0 k a0 a1 k 0).bind (fall fun (p511 : Int × Bool) => some true))
/-! (*concourse/presence.Table).State: function 16 -/
def presence_Table_State.f (k : Nat) (a0 : PTab) (a1 : ByteArray) (a2 : Int) : Option (Int) := (presence_Table_place.f k a0 a1).bind fun t519 => cond (!t519.2) (some 0) (grd ((0 : Int) ≤ t519.1 ∧ t519.1 < (a0.fl.length : Int)) ((presence_state.f (a0.fl.getD t519.1.toNat default) a2).bind fun t524 => some t524))
/-! concourse/concourselaw15.lives: function 19 -/
def concourselaw15_lives.f (k : Nat) : Option (Bool) := (presence_New.f).bind fun t526 => (presence_Table_Put.f k t526 (⟨3, (⟨#[]⟩ : ByteArray), (⟨#[64, 97, 58, 115]⟩ : ByteArray), (⟨#[]⟩ : ByteArray), (⟨#[]⟩ : ByteArray), false, false, 0, 2, 10, 0⟩ : Edu)).bind fun t530 => cond t530.1 (cond (t530.2.1 == 0) ((presence_Table_State.f k t530.2.2 (⟨#[64, 97, 58, 115]⟩ : ByteArray) 39).bind fun t536 => cond (t536 == 2) ((presence_Table_State.f k t530.2.2 (⟨#[64, 97, 58, 115]⟩ : ByteArray) 40).bind fun t539 => cond (t539 == 1) ((presence_Table_State.f k t530.2.2 (⟨#[64, 97, 58, 115]⟩ : ByteArray) 100).bind fun t542 => some (t542 == 0)) (some false)) (some false)) (some false)) (some false)
/-! (*concourse/heap.Heap).Due: function 42 -/
def heap_Heap_Due.l0 (k : Nat) (a1 : Int) : Nat → HHeap → List ByteArray → Option (Bool × HHeap × (List ByteArray))
  | 0, _, _ => none
  | j564 + 1, x546, x547 => cond (decide (0 < (x546.fl.length : Int))) (grd ((0 : Int) ≤ 0 ∧ 0 < (x546.fl.length : Int)) (cond (decide (((x546.fl.getD ((0 : Int).toNat) default).fAt) ≤ a1)) (grd ((0 : Int) ≤ 0 ∧ 0 < (x546.fl.length : Int)) (grd (x547.length + ([(x546.fl.getD ((0 : Int).toNat) default).fKey] : List ByteArray).length ≤ 9223372036854775807 ∧ (x547.length + ([(x546.fl.getD ((0 : Int).toNat) default).fKey] : List ByteArray).length) * 16 ≤ 140737488355328) (grd ((0 : Int) ≤ 0 ∧ 0 < (x546.fl.length : Int)) ((heap_Heap_Drop.f k x546 ((x546.fl.getD ((0 : Int).toNat) default).fKey)).bind fun t561 => heap_Heap_Due.l0 k a1 j564 t561.2 (x547 ++ ([(x546.fl.getD ((0 : Int).toNat) default).fKey] : List ByteArray)))))) (some (decide (((x546.fl.getD ((0 : Int).toNat) default).fAt) ≤ a1), x546, x547)))) (some (false, x546, x547))
def heap_Heap_Due.f (k : Nat) (a0 : HHeap) (a1 : Int) : Option ((List ByteArray) × HHeap) := (heap_Heap_Due.l0 k a1 k a0 ([] : List ByteArray)).bind fun (p544 : Bool × HHeap × (List ByteArray)) => some (p544.2.2, p544.2.1)
/-! slices.Sort[[]string,string] -/
def slices_Sort_string.f (xs : List ByteArray) : Option (List ByteArray) := grd (xs.length < 4611686018427387904) (some (srtS xs))
/-! (*concourse/presence.Table).Turned: function 22 -/
def presence_Table_Turned.l0 (k : Nat) (a1 : Int) (t569 : (List ByteArray) × HHeap) : Nat → Int → PTab → Option (Int × Bool × PTab)
  | 0, _, _ => none
  | j591 + 1, x575, x576 => cond (decide (x575 < (t569.1.length : Int))) (grd ((0 : Int) ≤ x575 ∧ x575 < (t569.1.length : Int)) ((presence_Table_place.f k x576 (t569.1.getD x575.toNat default)).bind fun t582 => grd ((0 : Int) ≤ t582.1 ∧ t582.1 < (x576.fl.length : Int)) ((presence_turn.f k (x576.fl.getD t582.1.toNat default) a1).bind fun t586 => cond t586.2 ((heap_Heap_Put.f k x576.fturns t586.1 (t569.1.getD x575.toNat default)).bind fun t589 => presence_Table_Turned.l0 k a1 t569 j591 (w64 (x575 + 1)) (⟨x576.fl, t589⟩ : PTab)) (presence_Table_Turned.l0 k a1 t569 j591 (w64 (x575 + 1)) x576)))) (some (x575, decide (x575 < (t569.1.length : Int)), x576))
def presence_Table_Turned.f (k : Nat) (a0 : PTab) (a1 : Int) : Option ((List ByteArray) × PTab) := (heap_Heap_Due.f k a0.fturns a1).bind fun t569 => (presence_Table_Turned.l0 k a1 t569 k 0 (⟨a0.fl, t569.2⟩ : PTab)).bind fun (p572 : Int × Bool × PTab) => (slices_Sort_string.f t569.1).bind fun t573 => some (t573, p572.2.2)
/-! (*concourse/heap.Heap).First: function 44 -/
def heap_Heap_First.f (a0 : HHeap) : Option (HEnt × Bool) := cond ((a0.fl.length : Int) == 0) (some ((⟨0, (⟨#[]⟩ : ByteArray)⟩ : HEnt), false)) (grd ((0 : Int) ≤ 0 ∧ 0 < (a0.fl.length : Int)) (some (a0.fl.getD ((0 : Int).toNat) default, true)))
/-! (*concourse/presence.Table).Next: function 23 -/
def presence_Table_Next.f (a0 : PTab) : Option (Int × Bool) := (heap_Heap_First.f a0.fturns).bind fun t601 => some (t601.1.fAt, t601.2)
/-! concourse/concourselaw15.PresenceTurns: function 5 -/
def concourselaw15_PresenceTurns.l1 (k : Nat) (x615 : Int) (x617 : PTab) (t623 : Int) : Nat → Int → List ByteArray → Option (Int × Bool × (List ByteArray))
  | 0, _, _ => none
  | j653 + 1, x638, x639 => cond (decide (x638 < 9)) ((concourseref01_UserOf.f (w64 ((w64 ((w64 (x638.tdiv 3)) * 3)) + (x638.tmod 3)))).bind fun t642 => (presence_Table_State.f k x617 t642 x615).bind fun t646 => (presence_Table_State.f k x617 t642 (max x615 t623)).bind fun t648 => cond (t646 != t648) (grd (x639.length + ([t642] : List ByteArray).length ≤ 9223372036854775807 ∧ (x639.length + ([t642] : List ByteArray).length) * 16 ≤ 140737488355328) (concourselaw15_PresenceTurns.l1 k x615 x617 t623 j653 (w64 (x638 + 1)) (x639 ++ ([t642] : List ByteArray)))) (concourselaw15_PresenceTurns.l1 k x615 x617 t623 j653 (w64 (x638 + 1)) x639)) (some (x638, decide (x638 < 9), x639))
def concourselaw15_PresenceTurns.l0 (k : Nat) (a1 : List Int) : Nat → Int → Int → PTab → Option ((Int × Int × Bool × PTab) ⊕ (Bool))
  | 0, _, _, _ => none
  | j658 + 1, x615, x616, x617 => cond (decide (x616 < (a1.length : Int))) (cond (decide (x616 < 6)) ((grd ((0 : Int) ≤ x616 ∧ x616 < (a1.length : Int)) ((concourseref01_Around.f ((intK .i64).at a1 x616) 251).bind fun t623 => (concourselaw15_PresenceTurns.l1 k x615 x617 t623 k 0 ([] : List ByteArray)).bind fun (p625 : Int × Bool × (List ByteArray)) => (presence_Table_Turned.f k x617 (max x615 t623)).bind fun t627 => (concourseref01_SameTexts.f k t627.1 p625.2.2).bind fun t630 => cond (!t630) (some (.inr (.inr false))) ((presence_Table_Next.f t627.2).bind fun t633 => cond t633.2 (cond (decide (t633.1 ≤ (max x615 t623))) (some (.inr (.inr false))) (some (.inl (max x615 t623, max x615 t623, p625.1, t633.1, true, p625.2.1, !t630, decide (t633.1 ≤ (max x615 t623)), t627.2, p625.2.2)))) (some (.inl (max x615 t623, max x615 t623, p625.1, t633.1, false, p625.2.1, !t630, false, t627.2, p625.2.2)))))).bind (fall fun (p620 : Int × Int × Int × Int × Bool × Bool × Bool × Bool × PTab × (List ByteArray)) => concourselaw15_PresenceTurns.l0 k a1 j658 p620.1 (w64 (x616 + 1)) p620.2.2.2.2.2.2.2.2.1)) (some (.inl (x615, x616, decide (x616 < 6), x617)))) (some (.inl (x615, x616, false, x617)))
def concourselaw15_PresenceTurns.l2 (k : Nat) (a0 : List Edu) : Nat → Int → PTab → Option (Int × Bool × PTab)
  | 0, _, _ => none
  | j670 + 1, x660, x661 => cond (decide (x660 < (a0.length : Int))) (cond (decide (x660 < 10)) (grd ((0 : Int) ≤ x660 ∧ x660 < (a0.length : Int)) ((concourseref15_Made.f k (Edu.K.at a0 x660)).bind fun t665 => (presence_Table_Put.f k x661 t665).bind fun t667 => concourselaw15_PresenceTurns.l2 k a0 j670 (w64 (x660 + 1)) t667.2.2)) (some (x660, decide (x660 < 10), x661))) (some (x660, false, x661))
def concourselaw15_PresenceTurns.f (k : Nat) (a0 : List Edu) (a1 : List Int) : Option (Bool) := (presence_New.f).bind fun t604 => (concourselaw15_PresenceTurns.l2 k a0 k 0 t604).bind fun (p608 : Int × Bool × PTab) => (presence_Table_Turned.f k p608.2.2 0).bind fun t609 => (concourselaw15_PresenceTurns.l0 k a1 k 0 0 t609.2).bind (fall fun (p612 : Int × Int × Bool × PTab) => (concourselaw15_lives.f k).bind fun t613 => some t613)
/-! concourse/concourseref01.colon: function 93 -/
def concourseref01_colon.l0 (k : Nat) (a0 : ByteArray) : Nat → Int → Option ((Int × Bool) ⊕ (Int))
  | 0, _ => none
  | j677 + 1, x673 => cond (decide (x673 < (a0.size : Int))) (grd ((0 : Int) ≤ x673 ∧ x673 < (a0.size : Int)) (cond ((bt a0 x673) == 58) (some (.inr x673)) (concourseref01_colon.l0 k a0 j677 (w64 (x673 + 1))))) (some (.inl (x673, decide (x673 < (a0.size : Int)))))
def concourseref01_colon.f (k : Nat) (a0 : ByteArray) : Option (Int) := (concourseref01_colon.l0 k a0 k 0).bind (fall fun (p672 : Int × Bool) => some (-1))
/-! concourse/concourseref01.low: function 96 -/
def concourseref01_low.f (a0 : Int) : Option (Bool) := cond (decide (97 ≤ a0)) (cond (decide (a0 ≤ 122)) (some true) (cond (decide (48 ≤ a0)) (some (decide (a0 ≤ 57))) (some false))) (cond (decide (48 ≤ a0)) (some (decide (a0 ≤ 57))) (some false))
/-! concourse/concourseref01.Part: function 94 -/
def concourseref01_Part.l0 (k : Nat) (a0 : ByteArray) : Nat → Int → Option ((Int × Bool) ⊕ (Bool))
  | 0, _ => none
  | j700 + 1, x685 => cond (decide (x685 < (a0.size : Int))) (grd ((0 : Int) ≤ x685 ∧ x685 < (a0.size : Int)) ((concourseref01_low.f (bt a0 x685)).bind fun t688 => cond (!t688) (grd ((0 : Int) ≤ x685 ∧ x685 < (a0.size : Int)) (cond ((bt a0 x685) != 46) (grd ((0 : Int) ≤ x685 ∧ x685 < (a0.size : Int)) (cond ((bt a0 x685) != 45) (grd ((0 : Int) ≤ x685 ∧ x685 < (a0.size : Int)) (cond ((bt a0 x685) != 95) (some (.inr false)) (concourseref01_Part.l0 k a0 j700 (w64 (x685 + 1))))) (concourseref01_Part.l0 k a0 j700 (w64 (x685 + 1))))) (concourseref01_Part.l0 k a0 j700 (w64 (x685 + 1))))) (concourseref01_Part.l0 k a0 j700 (w64 (x685 + 1))))) (some (.inl (x685, decide (x685 < (a0.size : Int)))))
def concourseref01_Part.f (k : Nat) (a0 : ByteArray) : Option (Bool) := (concourseref01_Part.l0 k a0 k 0).bind (fall fun (p683 : Int × Bool) => cond (decide (0 < (a0.size : Int))) (some (decide ((a0.size : Int) < 17))) (some false))
/-! concourse/concourseref01.Server: function 95 -/
def concourseref01_Server.l0 (k : Nat) (a0 : ByteArray) : Nat → Int → Option ((Int × Bool) ⊕ (Bool))
  | 0, _ => none
  | j726 + 1, x704 => cond (decide (x704 < (a0.size : Int))) (grd ((0 : Int) ≤ x704 ∧ x704 < (a0.size : Int)) ((concourseref01_low.f (bt a0 x704)).bind fun t707 => cond (decide (0 < x704)) (cond (decide (x704 < (w64 ((a0.size : Int) - 1)))) (grd ((0 : Int) ≤ x704 ∧ x704 < (a0.size : Int)) (cond ((bt a0 x704) == 46) (cond (!t707) (concourseref01_Server.l0 k a0 j726 (w64 (x704 + 1))) (concourseref01_Server.l0 k a0 j726 (w64 (x704 + 1)))) (grd ((0 : Int) ≤ x704 ∧ x704 < (a0.size : Int)) (cond (!t707) (cond (!((bt a0 x704) == 45)) (some (.inr false)) (concourseref01_Server.l0 k a0 j726 (w64 (x704 + 1)))) (concourseref01_Server.l0 k a0 j726 (w64 (x704 + 1))))))) (cond (!t707) (some (.inr false)) (concourseref01_Server.l0 k a0 j726 (w64 (x704 + 1))))) (cond (!t707) (some (.inr false)) (concourseref01_Server.l0 k a0 j726 (w64 (x704 + 1)))))) (some (.inl (x704, decide (x704 < (a0.size : Int)))))
def concourseref01_Server.f (k : Nat) (a0 : ByteArray) : Option (Bool) := (concourseref01_Server.l0 k a0 k 0).bind (fall fun (p702 : Int × Bool) => cond (decide (0 < (a0.size : Int))) (some (decide ((a0.size : Int) < 17))) (some false))
/-! concourse/concourseref01.Named: function 64 -/
def concourseref01_Named.f (k : Nat) (a0 : ByteArray) (a1 : Int) : Option (Bool) := (concourseref01_colon.f k a0).bind fun t728 => cond (decide (t728 < 1)) (some false) (grd ((0 : Int) ≤ 0 ∧ 0 < (a0.size : Int)) (cond ((bt a0 0) != a1) (some false) (grd ((0 : Int) ≤ 1 ∧ (0 : Int) ≤ t728 ∧ (1 : Int).toNat ≤ t728.toNat ∧ t728.toNat ≤ a0.size) ((concourseref01_Part.f k (a0.extract (1 : Int).toNat t728.toNat)).bind fun t735 => grd ((0 : Int) ≤ (w64 (t728 + 1)) ∧ (w64 (t728 + 1)).toNat ≤ a0.size ∧ a0.size ≤ a0.size) ((concourseref01_Server.f k (a0.extract (w64 (t728 + 1)).toNat a0.size)).bind fun t738 => cond t735 (some t738) (some false))))))
/-! concourse/concourseref01.Event: function 65 -/
def concourseref01_Event.l0 (k : Nat) (a0 : ByteArray) : Nat → Int → Option ((Int × Bool) ⊕ (Bool))
  | 0, _ => none
  | j772 + 1, x748 => cond (decide (x748 < (a0.size : Int))) (grd ((0 : Int) ≤ x748 ∧ x748 < (a0.size : Int)) ((concourseref01_low.f (bt a0 x748)).bind fun t751 => grd ((0 : Int) ≤ x748 ∧ x748 < (a0.size : Int)) (cond (decide (65 ≤ (bt a0 x748))) (grd ((0 : Int) ≤ x748 ∧ x748 < (a0.size : Int)) (cond (!t751) (cond (!(decide ((bt a0 x748) ≤ 90))) (grd ((0 : Int) ≤ x748 ∧ x748 < (a0.size : Int)) (cond ((bt a0 x748) != 45) (grd ((0 : Int) ≤ x748 ∧ x748 < (a0.size : Int)) (cond ((bt a0 x748) != 95) (some (.inr false)) (concourseref01_Event.l0 k a0 j772 (w64 (x748 + 1))))) (concourseref01_Event.l0 k a0 j772 (w64 (x748 + 1))))) (concourseref01_Event.l0 k a0 j772 (w64 (x748 + 1)))) (concourseref01_Event.l0 k a0 j772 (w64 (x748 + 1))))) (cond (!t751) (grd ((0 : Int) ≤ x748 ∧ x748 < (a0.size : Int)) (cond ((bt a0 x748) != 45) (grd ((0 : Int) ≤ x748 ∧ x748 < (a0.size : Int)) (cond ((bt a0 x748) != 95) (some (.inr false)) (concourseref01_Event.l0 k a0 j772 (w64 (x748 + 1))))) (concourseref01_Event.l0 k a0 j772 (w64 (x748 + 1))))) (concourseref01_Event.l0 k a0 j772 (w64 (x748 + 1))))))) (some (.inl (x748, decide (x748 < (a0.size : Int)))))
def concourseref01_Event.f (k : Nat) (a0 : ByteArray) : Option (Bool) := cond (decide ((a0.size : Int) < 2)) (some false) (cond (decide (17 < (a0.size : Int))) (some false) (grd ((0 : Int) ≤ 0 ∧ 0 < (a0.size : Int)) (cond ((bt a0 0) != 36) (some false) ((concourseref01_Event.l0 k a0 k 1).bind (fall fun (p747 : Int × Bool) => some true)))))
/-! concourse/concourseref01.Thread: function 66 -/
def concourseref01_Thread.f (k : Nat) (a0 : ByteArray) : Option (Bool) := (concourseref01_Event.f k a0).bind fun t774 => cond (decide (a0 = (⟨#[]⟩ : ByteArray))) (some true) (cond (decide (a0 = (⟨#[109, 97, 105, 110]⟩ : ByteArray))) (some true) (some t774))
/-! concourse/concourseref03.Local: function 46 -/
def concourseref03_Local.f (k : Nat) (a0 : Edu) : Option (Bool) := (concourseref01_Named.f k a0.fUser 64).bind fun t779 => (concourseref01_Named.f k a0.fRoom 33).bind fun t781 => (concourseref01_Event.f k a0.fEvent).bind fun t783 => (concourseref01_Thread.f k a0.fThread).bind fun t785 => cond (!t779) (some false) (cond (decide (a0.fTick < 0)) (some false) (cond (decide (1099511627776 < a0.fTick)) (some false) (cond (decide (a0.fStamp < 0)) (some false) (cond (decide (1099511627776 < a0.fStamp)) (some false) (cond (a0.fKind == 1) (cond t781 (cond t783 (cond t785 (cond (!a0.fOn) (cond (a0.fSpan == 0) (some (a0.fState == 0)) (some false)) (some false)) (some false)) (some false)) (some false)) (cond (a0.fKind == 2) (cond a0.fOn (cond (decide (1 ≤ a0.fSpan)) (cond (decide (a0.fSpan ≤ 60)) (cond t781 (cond (decide (a0.fEvent = (⟨#[]⟩ : ByteArray))) (cond (decide (a0.fThread = (⟨#[]⟩ : ByteArray))) (cond (a0.fState == 0) (some (!a0.fPrivate)) (some false)) (some false)) (some false)) (some false)) (cond (!a0.fOn) (cond t781 (cond (a0.fSpan == 0) (cond (decide (a0.fEvent = (⟨#[]⟩ : ByteArray))) (cond (decide (a0.fThread = (⟨#[]⟩ : ByteArray))) (cond (a0.fState == 0) (some (!a0.fPrivate)) (some false)) (some false)) (some false)) (some false)) (some false)) (cond t781 (some false) (some false)))) (cond (!a0.fOn) (cond t781 (cond (a0.fSpan == 0) (cond (decide (a0.fEvent = (⟨#[]⟩ : ByteArray))) (cond (decide (a0.fThread = (⟨#[]⟩ : ByteArray))) (cond (a0.fState == 0) (some (!a0.fPrivate)) (some false)) (some false)) (some false)) (some false)) (some false)) (cond t781 (some false) (some false)))) (cond (!a0.fOn) (cond t781 (cond (a0.fSpan == 0) (cond (decide (a0.fEvent = (⟨#[]⟩ : ByteArray))) (cond (decide (a0.fThread = (⟨#[]⟩ : ByteArray))) (cond (a0.fState == 0) (some (!a0.fPrivate)) (some false)) (some false)) (some false)) (some false)) (some false)) (cond t781 (some false) (some false)))) (cond (a0.fKind == 3) (cond (decide (a0.fRoom = (⟨#[]⟩ : ByteArray))) (cond (decide (a0.fEvent = (⟨#[]⟩ : ByteArray))) (cond (decide (a0.fThread = (⟨#[]⟩ : ByteArray))) (cond (!a0.fOn) (cond (a0.fSpan == 0) (cond (!a0.fPrivate) (cond (decide (0 ≤ a0.fState)) (some (decide (a0.fState ≤ 2))) (some false)) (some false)) (some false)) (some false)) (some false)) (some false)) (some false)) (some false))))))))
/-! concourse/concourseref03.May: function 28 -/
def concourseref03_May.f (k : Nat) (a0 : Edu) : Option (Bool) := (concourseref03_Local.f k a0).bind fun t840 => cond t840 (some (!a0.fPrivate)) (some false)
/-! concourse/concourseref02.Number: function 67 -/
def concourseref02_Number.f : Nat → Int → Option ((List Int))
  | 0, _ => none
  | k + 1, a0 => (cond (decide (a0 < 0)) (some 0) (some a0)).bind fun (p843 : Int) => cond (decide (p843 < 128)) (some ([IntKind.u8.wrap (p843)] : List Int)) ((concourseref02_Number.f k (w64 (p843.tdiv 128))).bind fun t847 => grd (([IntKind.u8.wrap (w64 (128 + (p843.tmod 128)))] : List Int).length + t847.length ≤ 9223372036854775807 ∧ (([IntKind.u8.wrap (w64 (128 + (p843.tmod 128)))] : List Int).length + t847.length) * 1 ≤ 140737488355328) (some (([IntKind.u8.wrap (w64 (128 + (p843.tmod 128)))] : List Int) ++ t847)))
/-! concourse/concourseref02.Text: function 68 -/
def concourseref02_Text.f (k : Nat) (a0 : ByteArray) : Option ((List Int)) := (concourseref02_Number.f k (a0.size : Int)).bind fun t853 => grd (t853.length + (strBs a0).length ≤ 9223372036854775807 ∧ (t853.length + (strBs a0).length) * 1 ≤ 140737488355328) (some (t853 ++ (strBs a0)))
/-! concourse/concourseref02.Flag: function 69 -/
def concourseref02_Flag.f (a0 : Bool) : Option ((List Int)) := cond a0 (some ([1] : List Int)) (some ([0] : List Int))
/-! concourse/concourseref03.Bytes: function 47 -/
def concourseref03_Bytes.f (k : Nat) (a0 : Edu) : Option ((List Int)) := (concourseref02_Number.f k a0.fKind).bind fun t860 => (concourseref02_Text.f k a0.fRoom).bind fun t863 => grd (t860.length + t863.length ≤ 9223372036854775807 ∧ (t860.length + t863.length) * 1 ≤ 140737488355328) ((concourseref02_Text.f k a0.fUser).bind fun t868 => grd ((t860 ++ t863).length + t868.length ≤ 9223372036854775807 ∧ ((t860 ++ t863).length + t868.length) * 1 ≤ 140737488355328) ((concourseref02_Text.f k a0.fEvent).bind fun t873 => grd (((t860 ++ t863) ++ t868).length + t873.length ≤ 9223372036854775807 ∧ (((t860 ++ t863) ++ t868).length + t873.length) * 1 ≤ 140737488355328) ((concourseref02_Text.f k a0.fThread).bind fun t878 => grd ((((t860 ++ t863) ++ t868) ++ t873).length + t878.length ≤ 9223372036854775807 ∧ ((((t860 ++ t863) ++ t868) ++ t873).length + t878.length) * 1 ≤ 140737488355328) ((concourseref02_Flag.f a0.fOn).bind fun t883 => grd (((((t860 ++ t863) ++ t868) ++ t873) ++ t878).length + t883.length ≤ 9223372036854775807 ∧ (((((t860 ++ t863) ++ t868) ++ t873) ++ t878).length + t883.length) * 1 ≤ 140737488355328) ((concourseref02_Number.f k a0.fSpan).bind fun t887 => grd ((((((t860 ++ t863) ++ t868) ++ t873) ++ t878) ++ t883).length + t887.length ≤ 9223372036854775807 ∧ ((((((t860 ++ t863) ++ t868) ++ t873) ++ t878) ++ t883).length + t887.length) * 1 ≤ 140737488355328) ((concourseref02_Number.f k a0.fState).bind fun t892 => grd (((((((t860 ++ t863) ++ t868) ++ t873) ++ t878) ++ t883) ++ t887).length + t892.length ≤ 9223372036854775807 ∧ (((((((t860 ++ t863) ++ t868) ++ t873) ++ t878) ++ t883) ++ t887).length + t892.length) * 1 ≤ 140737488355328) ((concourseref02_Number.f k a0.fTick).bind fun t897 => grd ((((((((t860 ++ t863) ++ t868) ++ t873) ++ t878) ++ t883) ++ t887) ++ t892).length + t897.length ≤ 9223372036854775807 ∧ ((((((((t860 ++ t863) ++ t868) ++ t873) ++ t878) ++ t883) ++ t887) ++ t892).length + t897.length) * 1 ≤ 140737488355328) ((concourseref02_Number.f k a0.fStamp).bind fun t902 => grd (((((((((t860 ++ t863) ++ t868) ++ t873) ++ t878) ++ t883) ++ t887) ++ t892) ++ t897).length + t902.length ≤ 9223372036854775807 ∧ (((((((((t860 ++ t863) ++ t868) ++ t873) ++ t878) ++ t883) ++ t887) ++ t892) ++ t897).length + t902.length) * 1 ≤ 140737488355328) (some (((((((((t860 ++ t863) ++ t868) ++ t873) ++ t878) ++ t883) ++ t887) ++ t892) ++ t897) ++ t902))))))))))
/-! concourse/concourseref03.Compare: function 29 -/
def concourseref03_Compare.f (k : Nat) (a0 : Edu) (a1 : Edu) : Option (Int) := cond (decide (a0.fStamp < a1.fStamp)) (some (-1)) (cond (decide (a1.fStamp < a0.fStamp)) (some 1) ((concourseref03_Bytes.f k a0).bind fun t911 => (concourseref03_Bytes.f k a1).bind fun t914 => cond (sLt (ofNums t911) (ofNums t914)) (some (-1)) (cond (sLt (ofNums t914) (ofNums t911)) (some 1) (some 0))))
/-! concourse/concourseref15.Put: function 8 -/
def concourseref15_Put.l0 (k : Nat) (a0 : TRef) (a1 : Edu) : Nat → Bool → Int → List Edu → List Int → Option ((Bool × Int × Bool × (List Edu) × (List Int)) ⊕ (TRef × Bool × Int))
  | 0, _, _, _, _ => none
  | j965 + 1, x936, x937, x938, x939 => cond (decide (x937 < (a0.fL.length : Int))) (grd ((0 : Int) ≤ x937 ∧ x937 < (a0.fL.length : Int)) (cond (decide (((Edu.K.at a0.fL x937).fUser) = a1.fUser)) ((concourseref03_Compare.f k a1 (Edu.K.at a0.fL x937)).bind fun t946 => cond (decide (t946 ≤ 0)) (some (.inr (a0, false, 0))) (concourseref15_Put.l0 k a0 a1 j965 x936 (w64 (x937 + 1)) x938 x939)) ((cond (!x936) (cond (sLt a1.fUser ((Edu.K.at a0.fL x937).fUser)) (grd (x938.length + ([a1] : List Edu).length ≤ 9223372036854775807 ∧ (x938.length + ([a1] : List Edu).length) * 112 ≤ 140737488355328) (grd (x939.length + ([(-1)] : List Int).length ≤ 9223372036854775807 ∧ (x939.length + ([(-1)] : List Int).length) * 8 ≤ 140737488355328) (some (true, sLt a1.fUser ((Edu.K.at a0.fL x937).fUser), x938 ++ ([a1] : List Edu), x939 ++ ([(-1)] : List Int))))) (some (x936, sLt a1.fUser ((Edu.K.at a0.fL x937).fUser), x938, x939))) (some (x936, false, x938, x939))).bind fun (p949 : Bool × Bool × (List Edu) × (List Int)) => grd (p949.2.2.1.length + ([Edu.K.at a0.fL x937] : List Edu).length ≤ 9223372036854775807 ∧ (p949.2.2.1.length + ([Edu.K.at a0.fL x937] : List Edu).length) * 112 ≤ 140737488355328) (grd ((0 : Int) ≤ x937 ∧ x937 < (a0.fTold.length : Int)) (grd (p949.2.2.2.length + ([(intK .i64).at a0.fTold x937] : List Int).length ≤ 9223372036854775807 ∧ (p949.2.2.2.length + ([(intK .i64).at a0.fTold x937] : List Int).length) * 8 ≤ 140737488355328) (concourseref15_Put.l0 k a0 a1 j965 p949.1 (w64 (x937 + 1)) (p949.2.2.1 ++ ([Edu.K.at a0.fL x937] : List Edu)) (p949.2.2.2 ++ ([(intK .i64).at a0.fTold x937] : List Int)))))))) (some (.inl (x936, x937, decide (x937 < (a0.fL.length : Int)), x938, x939)))
def concourseref15_Put.f (k : Nat) (a0 : TRef) (a1 : Edu) : Option (TRef × Bool × Int) := (concourseref03_May.f k a1).bind fun t922 => cond (a1.fKind != 3) (some (a0, false, 1)) (cond (!t922) (some (a0, false, 1)) ((concourseref15_Put.l0 k a0 a1 k false 0 ([] : List Edu) ([] : List Int)).bind (fall fun (p928 : Bool × Int × Bool × (List Edu) × (List Int)) => cond (!p928.1) (grd (p928.2.2.2.1.length + ([a1] : List Edu).length ≤ 9223372036854775807 ∧ (p928.2.2.2.1.length + ([a1] : List Edu).length) * 112 ≤ 140737488355328) (grd (p928.2.2.2.2.length + ([(-1)] : List Int).length ≤ 9223372036854775807 ∧ (p928.2.2.2.2.length + ([(-1)] : List Int).length) * 8 ≤ 140737488355328) (some ((⟨p928.2.2.2.1 ++ ([a1] : List Edu), p928.2.2.2.2 ++ ([(-1)] : List Int)⟩ : TRef), true, 0)))) (some ((⟨p928.2.2.2.1, p928.2.2.2.2⟩ : TRef), true, 0)))))
/-! concourse/concourseref04.SameEdus: function 20 -/
def concourseref04_SameEdus.l0 (k : Nat) (a0 : List Edu) (a1 : List Edu) : Nat → Int → Option ((Int × Bool) ⊕ (Bool))
  | 0, _ => none
  | j975 + 1, x970 => cond (decide (x970 < (a0.length : Int))) (grd ((0 : Int) ≤ x970 ∧ x970 < (a0.length : Int)) (grd ((0 : Int) ≤ x970 ∧ x970 < (a1.length : Int)) (cond (!decide (Edu.K.at a0 x970 = Edu.K.at a1 x970)) (some (.inr false)) (concourseref04_SameEdus.l0 k a0 a1 j975 (w64 (x970 + 1)))))) (some (.inl (x970, decide (x970 < (a0.length : Int)))))
def concourseref04_SameEdus.f (k : Nat) (a0 : List Edu) (a1 : List Edu) : Option (Bool) := cond ((a0.length : Int) != (a1.length : Int)) (some false) ((concourseref04_SameEdus.l0 k a0 a1 k 0).bind (fall fun (p969 : Int × Bool) => some true))
/-! slices.Clone[[]concourse/api.Edu,concourse/api.Edu] -/
def slices_Clone_Edu.f (xs : List Edu) : Option (List Edu) := grd (xs.length ≤ 9223372036854775807 ∧ xs.length * 112 ≤ 140737488355328) (some xs)
/-! (*concourse/presence.Table).All: function 21 -/
def presence_Table_All.f (a0 : PTab) : Option ((List Edu)) := (slices_Clone_Edu.f a0.fl).bind fun t977 => some t977
/-! concourse/concourseref01.Few: function 11 -/
def concourseref01_Few.f (a0 : ByteArray) (a1 : Int) : Option (ByteArray) := cond (decide (a1 < (a0.size : Int))) (grd ((0 : Int) ≤ a1 ∧ 0 ≤ a1.toNat ∧ a1.toNat ≤ a0.size) (some (a0.extract 0 a1.toNat))) (some a0)
/-! concourse/concourseref03.Few: function 24 -/
def concourseref03_Few.f (a0 : Edu) : Option (Edu) := (concourseref01_Few.f a0.fRoom 40).bind fun t984 => (concourseref01_Few.f a0.fUser 40).bind fun t986 => (concourseref01_Few.f a0.fEvent 40).bind fun t988 => (concourseref01_Few.f a0.fThread 40).bind fun t990 => some (⟨a0.fKind, t984, t986, t988, t990, a0.fPrivate, a0.fOn, a0.fSpan, a0.fState, a0.fTick, a0.fStamp⟩ : Edu)
/-! concourse/concourseref15.turns: function 45 -/
def concourseref15_turns.f (a0 : Edu) : Option ((List Int)) := cond (a0.fState == 2) (some ([w64 (a0.fTick + 30), w64 (a0.fTick + 90)] : List Int)) (cond (a0.fState == 1) (some ([w64 (a0.fTick + 90)] : List Int)) (some ([] : List Int)))
/-! concourse/concourseref15.Turned: function 25 -/
def concourseref15_Turned.l1 (k : Nat) (a0 : TRef) (a1 : Int) (x1002 : Int) (t1013 : (List Int)) : Nat → Bool → Int → Option (Bool × Int × Bool)
  | 0, _, _ => none
  | j1028 + 1, x1020, x1021 => cond (decide (x1021 < (t1013.length : Int))) (cond x1020 (concourseref15_Turned.l1 k a0 a1 x1002 t1013 j1028 true (w64 (x1021 + 1))) (grd ((0 : Int) ≤ x1021 ∧ x1021 < (t1013.length : Int)) (cond (decide (((intK .i64).at t1013 x1021) ≤ a1)) (grd ((0 : Int) ≤ x1021 ∧ x1021 < (t1013.length : Int)) (grd ((0 : Int) ≤ x1002 ∧ x1002 < (a0.fTold.length : Int)) (concourseref15_Turned.l1 k a0 a1 x1002 t1013 j1028 (decide (((intK .i64).at a0.fTold x1002) < ((intK .i64).at t1013 x1021))) (w64 (x1021 + 1))))) (concourseref15_Turned.l1 k a0 a1 x1002 t1013 j1028 false (w64 (x1021 + 1)))))) (some (x1020, x1021, decide (x1021 < (t1013.length : Int))))
def concourseref15_Turned.l0 (k : Nat) (a0 : TRef) (a1 : Int) : Nat → Int → List Int → List ByteArray → Option (Int × Bool × (List Int) × (List ByteArray))
  | 0, _, _, _ => none
  | j1031 + 1, x1002, x1003, x1004 => cond (decide (x1002 < (a0.fL.length : Int))) ((grd ((0 : Int) ≤ x1002 ∧ x1002 < (a0.fTold.length : Int)) (grd ((0 : Int) ≤ x1002 ∧ x1002 < (x1003.length : Int)) (grd ((0 : Int) ≤ x1002 ∧ x1002 < (a0.fL.length : Int)) ((concourseref15_turns.f (Edu.K.at a0.fL x1002)).bind fun t1013 => (concourseref15_Turned.l1 k a0 a1 x1002 t1013 k false 0).bind fun (p1015 : Bool × Int × Bool) => cond p1015.1 (grd ((0 : Int) ≤ x1002 ∧ x1002 < (a0.fL.length : Int)) (grd (x1004.length + ([(Edu.K.at a0.fL x1002).fUser] : List ByteArray).length ≤ 9223372036854775807 ∧ (x1004.length + ([(Edu.K.at a0.fL x1002).fUser] : List ByteArray).length) * 16 ≤ 140737488355328) (some (t1013, p1015.1, p1015.2.1, p1015.2.2, p1015.1, x1004 ++ ([(Edu.K.at a0.fL x1002).fUser] : List ByteArray))))) (some (t1013, p1015.1, p1015.2.1, p1015.2.2, p1015.1, x1004)))))).bind fun (p1007 : (List Int) × Bool × Int × Bool × Bool × (List ByteArray)) => concourseref15_Turned.l0 k a0 a1 j1031 (w64 (x1002 + 1)) (x1003.set x1002.toNat (max ((intK .i64).at a0.fTold x1002) a1)) p1007.2.2.2.2.2) (some (x1002, decide (x1002 < (a0.fL.length : Int)), x1003, x1004))
def concourseref15_Turned.f (k : Nat) (a0 : TRef) (a1 : Int) : Option (TRef × (List ByteArray)) := grd ((0 : Int) ≤ (a0.fL.length : Int) ∧ (a0.fL.length : Int) ≤ (9223372036854775807 : Int) ∧ (a0.fL.length : Int).toNat * 8 ≤ 140737488355328) ((concourseref15_Turned.l0 k a0 a1 k 0 (List.replicate (a0.fL.length : Int).toNat (0 : Int)) ([] : List ByteArray)).bind fun (p1000 : Int × Bool × (List Int) × (List ByteArray)) => some ((⟨a0.fL, p1000.2.2.1⟩ : TRef), p1000.2.2.2))
/-! concourse/concourseref15.Next: function 26 -/
def concourseref15_Next.l1 (k : Nat) (a0 : TRef) (x1038 : Int) (t1042 : (List Int)) : Nat → Int → Bool → Int → Option (Int × Bool × (List Int) × Int × Bool)
  | 0, _, _, _ => none
  | j1058 + 1, x1044, x1045, x1046 => cond (decide (x1046 < (t1042.length : Int))) (grd ((0 : Int) ≤ x1046 ∧ x1046 < (t1042.length : Int)) (grd ((0 : Int) ≤ x1038 ∧ x1038 < (a0.fTold.length : Int)) (cond (decide (((intK .i64).at a0.fTold x1038) < ((intK .i64).at t1042 x1046))) (cond (!x1045) (grd ((0 : Int) ≤ x1046 ∧ x1046 < (t1042.length : Int)) (concourseref15_Next.l1 k a0 x1038 t1042 j1058 ((intK .i64).at t1042 x1046) true (w64 (x1046 + 1)))) (grd ((0 : Int) ≤ x1046 ∧ x1046 < (t1042.length : Int)) (cond (decide (((intK .i64).at t1042 x1046) < x1044)) (grd ((0 : Int) ≤ x1046 ∧ x1046 < (t1042.length : Int)) (concourseref15_Next.l1 k a0 x1038 t1042 j1058 ((intK .i64).at t1042 x1046) true (w64 (x1046 + 1)))) (concourseref15_Next.l1 k a0 x1038 t1042 j1058 x1044 x1045 (w64 (x1046 + 1)))))) (concourseref15_Next.l1 k a0 x1038 t1042 j1058 x1044 x1045 (w64 (x1046 + 1)))))) (some (x1044, x1045, t1042, x1046, decide (x1046 < (t1042.length : Int))))
def concourseref15_Next.l0 (k : Nat) (a0 : TRef) : Nat → Int → Bool → Int → Option (Int × Bool × Int × Bool)
  | 0, _, _, _ => none
  | j1060 + 1, x1036, x1037, x1038 => cond (decide (x1038 < (a0.fL.length : Int))) ((grd ((0 : Int) ≤ x1038 ∧ x1038 < (a0.fL.length : Int)) ((concourseref15_turns.f (Edu.K.at a0.fL x1038)).bind fun t1042 => concourseref15_Next.l1 k a0 x1038 t1042 k x1036 x1037 0)).bind fun (p1040 : Int × Bool × (List Int) × Int × Bool) => concourseref15_Next.l0 k a0 j1060 p1040.1 p1040.2.1 (w64 (x1038 + 1))) (some (x1036, x1037, x1038, decide (x1038 < (a0.fL.length : Int))))
def concourseref15_Next.f (k : Nat) (a0 : TRef) : Option (Int × Bool) := (concourseref15_Next.l0 k a0 k 0 false 0).bind fun (p1035 : Int × Bool × Int × Bool) => some (p1035.1, p1035.2.1)
/-! concourse/concourselaw15.PresencePlays: function 6 -/
def concourselaw15_PresencePlays.l0 (k : Nat) (a0 : List Edu) (a1 : List Bool) (a2 : List Int) : Nat → Int → List Edu → List Int → PTab → Option ((Int × Bool × (List Edu) × (List Int) × PTab) ⊕ (Bool))
  | 0, _, _, _, _ => none
  | j1126 + 1, x1070, x1071, x1072, x1073 => cond (decide (x1070 < (a0.length : Int))) (cond (decide (x1070 < 16)) (grd ((0 : Int) ≤ x1070 ∧ x1070 < (a0.length : Int)) ((concourseref15_Made.f k (Edu.K.at a0 x1070)).bind fun t1077 => (cond (decide (x1070 < (a1.length : Int))) (grd ((0 : Int) ≤ (min x1070 (w64 ((a1.length : Int) - 1))) ∧ (min x1070 (w64 ((a1.length : Int) - 1))) < (a1.length : Int)) (cond (boolK.at a1 (min x1070 (w64 ((a1.length : Int) - 1)))) (grd ((0 : Int) ≤ x1070 ∧ x1070 < (a0.length : Int)) ((concourseref03_Few.f (Edu.K.at a0 x1070)).bind fun t1122 => some (boolK.at a1 (min x1070 (w64 ((a1.length : Int) - 1))), t1122.fKind, t1122.fRoom, t1122.fUser, t1122.fEvent, t1122.fThread, t1122.fPrivate, t1122.fOn, t1122.fSpan, t1122.fState, t1122.fTick, t1122.fStamp))) (some (boolK.at a1 (min x1070 (w64 ((a1.length : Int) - 1))), t1077.fKind, t1077.fRoom, t1077.fUser, t1077.fEvent, t1077.fThread, t1077.fPrivate, t1077.fOn, t1077.fSpan, t1077.fState, t1077.fTick, t1077.fStamp)))) (some (false, t1077.fKind, t1077.fRoom, t1077.fUser, t1077.fEvent, t1077.fThread, t1077.fPrivate, t1077.fOn, t1077.fSpan, t1077.fState, t1077.fTick, t1077.fStamp))).bind fun (p1080 : Bool × Int × ByteArray × ByteArray × ByteArray × ByteArray × Bool × Bool × Int × Int × Int × Int) => (concourseref15_Put.f k (⟨x1071, x1072⟩ : TRef) (⟨p1080.2.1, p1080.2.2.1, p1080.2.2.2.1, p1080.2.2.2.2.1, p1080.2.2.2.2.2.1, p1080.2.2.2.2.2.2.1, p1080.2.2.2.2.2.2.2.1, p1080.2.2.2.2.2.2.2.2.1, p1080.2.2.2.2.2.2.2.2.2.1, p1080.2.2.2.2.2.2.2.2.2.2.1, p1080.2.2.2.2.2.2.2.2.2.2.2⟩ : Edu)).bind fun t1081 => (presence_Table_Put.f k x1073 (⟨p1080.2.1, p1080.2.2.1, p1080.2.2.2.1, p1080.2.2.2.2.1, p1080.2.2.2.2.2.1, p1080.2.2.2.2.2.2.1, p1080.2.2.2.2.2.2.2.1, p1080.2.2.2.2.2.2.2.2.1, p1080.2.2.2.2.2.2.2.2.2.1, p1080.2.2.2.2.2.2.2.2.2.2.1, p1080.2.2.2.2.2.2.2.2.2.2.2⟩ : Edu)).bind fun t1084 => cond (t1084.1 != t1081.2.1) (some (.inr false)) (cond (t1081.2.2 != t1084.2.1) (some (.inr false)) ((cond (decide (x1070 < (a2.length : Int))) (grd ((0 : Int) ≤ (min x1070 (w64 ((a2.length : Int) - 1))) ∧ (min x1070 (w64 ((a2.length : Int) - 1))) < (a2.length : Int)) ((concourseref15_Turned.f k t1081.1 ((intK .i64).at a2 (min x1070 (w64 ((a2.length : Int) - 1))))).bind fun t1108 => (presence_Table_Turned.f k t1084.2.2 ((intK .i64).at a2 (min x1070 (w64 ((a2.length : Int) - 1))))).bind fun t1112 => (concourseref01_SameTexts.f k t1112.1 t1108.2).bind fun t1115 => cond (!t1115) (some (.inr (.inr false))) (some (.inl (t1108.1.fL, t1108.1.fTold, t1112.2))))) (some (.inl (t1081.1.fL, t1081.1.fTold, t1084.2.2)))).bind (fall fun (p1089 : (List Edu) × (List Int) × PTab) => (presence_Table_Next.f p1089.2.2).bind fun t1090 => (concourseref15_Next.f k (⟨p1089.1, p1089.2.1⟩ : TRef)).bind fun t1092 => cond (t1090.1 != t1092.1) (some (.inr false)) (cond (t1090.2 != t1092.2) (some (.inr false)) ((presence_Table_All.f p1089.2.2).bind fun t1100 => (concourseref04_SameEdus.f k t1100 p1089.1).bind fun t1103 => cond (!t1103) (some (.inr false)) (concourselaw15_PresencePlays.l0 k a0 a1 a2 j1126 (w64 (x1070 + 1)) p1089.1 p1089.2.1 p1089.2.2)))))))) (some (.inl (x1070, decide (x1070 < 16), x1071, x1072, x1073)))) (some (.inl (x1070, false, x1071, x1072, x1073)))
def concourselaw15_PresencePlays.f (k : Nat) (a0 : List Edu) (a1 : List Bool) (a2 : List Int) : Option (Bool) := (presence_New.f).bind fun t1062 => (concourselaw15_PresencePlays.l0 k a0 a1 a2 k 0 ([] : List Edu) ([] : List Int) t1062).bind (fall fun (p1067 : Int × Bool × (List Edu) × (List Int) × PTab) => (concourselaw15_lives.f k).bind fun t1068 => some t1068)
end Go.Proofs.YtegmafgodoikiaaGreat
