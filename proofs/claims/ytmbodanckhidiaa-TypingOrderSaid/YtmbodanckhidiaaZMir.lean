/- The walks. -/
import Derived.Test.YtmbodanckhidiaaChecked
import Derived.Test.YtmbodanckhidiaaConU
import Derived.Eval
set_option linter.all false
set_option maxRecDepth 10000
set_option maxHeartbeats 20000000
namespace Go.Proofs.Ytmbodanckhidiaa
open Go Go.Sp
theorem c22 : Try.prog.cellsOf 22 = 1 := by kernel_rfl
theorem c25 : Try.prog.cellsOf 25 = 1 := by kernel_rfl
theorem c27 : Try.prog.cellsOf 27 = 2 := by kernel_rfl
theorem c3 : Try.prog.cellsOf 3 = 1 := by kernel_rfl
theorem c32 : Try.prog.cellsOf 32 = 11 := by kernel_rfl
theorem c4 : Try.prog.cellsOf 4 = 1 := by kernel_rfl
theorem c5 : Try.prog.cellsOf 5 = 1 := by kernel_rfl
theorem c56 : Try.prog.cellsOf 56 = 1 := by kernel_rfl
theorem c60 : Try.prog.cellsOf 60 = 1 := by kernel_rfl
theorem c71 : Try.prog.cellsOf 71 = 2 := by kernel_rfl
theorem c74 : Try.prog.cellsOf 74 = 1 := by kernel_rfl
theorem c75 : Try.prog.cellsOf 75 = 1 := by kernel_rfl
theorem c82 : Try.prog.cellsOf 82 = 5 := by kernel_rfl
theorem c9 : Try.prog.cellsOf 9 = 1 := by kernel_rfl
theorem c98 : Try.prog.cellsOf 98 = 1 := by kernel_rfl
theorem c99 : Try.prog.cellsOf 99 = 1 := by kernel_rfl
theorem cal10 : callable Try.prog 10 = true := by kernel_rfl
theorem cal100 : callable Try.prog 100 = true := by kernel_rfl
theorem cal101 : callable Try.prog 101 = true := by kernel_rfl
theorem cal102 : callable Try.prog 102 = true := by kernel_rfl
theorem cal11 : callable Try.prog 11 = true := by kernel_rfl
theorem cal12 : callable Try.prog 12 = true := by kernel_rfl
theorem cal13 : callable Try.prog 13 = true := by kernel_rfl
theorem cal14 : callable Try.prog 14 = true := by kernel_rfl
theorem cal15 : callable Try.prog 15 = true := by kernel_rfl
theorem cal16 : callable Try.prog 16 = true := by kernel_rfl
theorem cal17 : callable Try.prog 17 = true := by kernel_rfl
theorem cal18 : callable Try.prog 18 = true := by kernel_rfl
theorem cal19 : callable Try.prog 19 = true := by kernel_rfl
theorem cal20 : callable Try.prog 20 = true := by kernel_rfl
theorem cal21 : callable Try.prog 21 = true := by kernel_rfl
theorem cal22 : callable Try.prog 22 = true := by kernel_rfl
theorem cal23 : callable Try.prog 23 = true := by kernel_rfl
theorem cal24 : callable Try.prog 24 = true := by kernel_rfl
theorem cal25 : callable Try.prog 25 = true := by kernel_rfl
theorem cal26 : callable Try.prog 26 = true := by kernel_rfl
theorem cal27 : callable Try.prog 27 = true := by kernel_rfl
theorem cal28 : callable Try.prog 28 = true := by kernel_rfl
theorem cal29 : callable Try.prog 29 = true := by kernel_rfl
theorem cal30 : callable Try.prog 30 = true := by kernel_rfl
theorem cal31 : callable Try.prog 31 = true := by kernel_rfl
theorem cal32 : callable Try.prog 32 = true := by kernel_rfl
theorem cal33 : callable Try.prog 33 = true := by kernel_rfl
theorem cal34 : callable Try.prog 34 = true := by kernel_rfl
theorem cal35 : callable Try.prog 35 = true := by kernel_rfl
theorem cal36 : callable Try.prog 36 = true := by kernel_rfl
theorem cal37 : callable Try.prog 37 = true := by kernel_rfl
theorem cal38 : callable Try.prog 38 = true := by kernel_rfl
theorem cal39 : callable Try.prog 39 = true := by kernel_rfl
theorem cal40 : callable Try.prog 40 = true := by kernel_rfl
theorem cal41 : callable Try.prog 41 = true := by kernel_rfl
theorem cal42 : callable Try.prog 42 = true := by kernel_rfl
theorem cal43 : callable Try.prog 43 = true := by kernel_rfl
theorem cal44 : callable Try.prog 44 = true := by kernel_rfl
theorem cal45 : callable Try.prog 45 = true := by kernel_rfl
theorem cal46 : callable Try.prog 46 = true := by kernel_rfl
theorem cal47 : callable Try.prog 47 = true := by kernel_rfl
theorem cal48 : callable Try.prog 48 = true := by kernel_rfl
theorem cal51 : callable Try.prog 51 = true := by kernel_rfl
theorem cal52 : callable Try.prog 52 = true := by kernel_rfl
theorem cal53 : callable Try.prog 53 = true := by kernel_rfl
theorem cal54 : callable Try.prog 54 = true := by kernel_rfl
theorem cal55 : callable Try.prog 55 = true := by kernel_rfl
theorem cal56 : callable Try.prog 56 = true := by kernel_rfl
theorem cal57 : callable Try.prog 57 = true := by kernel_rfl
theorem cal58 : callable Try.prog 58 = true := by kernel_rfl
theorem cal59 : callable Try.prog 59 = true := by kernel_rfl
theorem cal60 : callable Try.prog 60 = true := by kernel_rfl
theorem cal61 : callable Try.prog 61 = true := by kernel_rfl
theorem cal62 : callable Try.prog 62 = true := by kernel_rfl
theorem cal63 : callable Try.prog 63 = true := by kernel_rfl
theorem cal64 : callable Try.prog 64 = true := by kernel_rfl
theorem cal65 : callable Try.prog 65 = true := by kernel_rfl
theorem cal66 : callable Try.prog 66 = true := by kernel_rfl
theorem cal67 : callable Try.prog 67 = true := by kernel_rfl
theorem cal68 : callable Try.prog 68 = true := by kernel_rfl
theorem cal7 : callable Try.prog 7 = true := by kernel_rfl
theorem cal70 : callable Try.prog 70 = true := by kernel_rfl
theorem cal71 : callable Try.prog 71 = true := by kernel_rfl
theorem cal72 : callable Try.prog 72 = true := by kernel_rfl
theorem cal73 : callable Try.prog 73 = true := by kernel_rfl
theorem cal74 : callable Try.prog 74 = true := by kernel_rfl
theorem cal75 : callable Try.prog 75 = true := by kernel_rfl
theorem cal76 : callable Try.prog 76 = true := by kernel_rfl
theorem cal77 : callable Try.prog 77 = true := by kernel_rfl
theorem cal78 : callable Try.prog 78 = true := by kernel_rfl
theorem cal79 : callable Try.prog 79 = true := by kernel_rfl
theorem cal8 : callable Try.prog 8 = true := by kernel_rfl
theorem cal80 : callable Try.prog 80 = true := by kernel_rfl
theorem cal81 : callable Try.prog 81 = true := by kernel_rfl
theorem cal82 : callable Try.prog 82 = true := by kernel_rfl
theorem cal83 : callable Try.prog 83 = true := by kernel_rfl
theorem cal84 : callable Try.prog 84 = true := by kernel_rfl
theorem cal86 : callable Try.prog 86 = true := by kernel_rfl
theorem cal87 : callable Try.prog 87 = true := by kernel_rfl
theorem cal88 : callable Try.prog 88 = true := by kernel_rfl
theorem cal9 : callable Try.prog 9 = true := by kernel_rfl
theorem cal90 : callable Try.prog 90 = true := by kernel_rfl
theorem cal91 : callable Try.prog 91 = true := by kernel_rfl
theorem cal92 : callable Try.prog 92 = true := by kernel_rfl
theorem cal93 : callable Try.prog 93 = true := by kernel_rfl
theorem cal94 : callable Try.prog 94 = true := by kernel_rfl
theorem cal95 : callable Try.prog 95 = true := by kernel_rfl
theorem cal96 : callable Try.prog 96 = true := by kernel_rfl
theorem cal97 : callable Try.prog 97 = true := by kernel_rfl
theorem cal98 : callable Try.prog 98 = true := by kernel_rfl
theorem cal99 : callable Try.prog 99 = true := by kernel_rfl
theorem eg32 : Try.prog.eqGuardType Try.prog.depth 32 = false := by kernel_rfl
theorem eg82 : Try.prog.eqGuardType Try.prog.depth 82 = false := by kernel_rfl
theorem inf32 : ∃ i, Try.prog.info? 32 = some i ∧ i.size = 11 ∧ i.zero = some (.agg #[.int .i64 0, .string ⟨#[]⟩, .string ⟨#[]⟩, .string ⟨#[]⟩, .string ⟨#[]⟩, .bool false, .bool false, .int .i64 0, .int .i64 0, .int .i64 0, .int .i64 0]) ∧ i.bytes = 112 := inf_of (by kernel_rfl) (by kernel_rfl) (by kernel_rfl)
theorem inf4 : ∃ i, Try.prog.info? 4 = some i ∧ i.size = 1 ∧ i.zero = some (.bool false) ∧ i.bytes = 1 := inf_of (by kernel_rfl) (by kernel_rfl) (by kernel_rfl)
theorem inf5 : ∃ i, Try.prog.info? 5 = some i ∧ i.size = 1 ∧ i.zero = some (.int .u8 0) ∧ i.bytes = 1 := inf_of (by kernel_rfl) (by kernel_rfl) (by kernel_rfl)
theorem inf71 : ∃ i, Try.prog.info? 71 = some i ∧ i.size = 2 ∧ i.zero = some (.agg #[.int .i64 0, .string ⟨#[]⟩]) ∧ i.bytes = 24 := inf_of (by kernel_rfl) (by kernel_rfl) (by kernel_rfl)
theorem inf9 : ∃ i, Try.prog.info? 9 = some i ∧ i.size = 1 ∧ i.zero = some (.string ⟨#[]⟩) ∧ i.bytes = 16 := inf_of (by kernel_rfl) (by kernel_rfl) (by kernel_rfl)
theorem pl32 : plcT Try.prog 32 = true := by kernel_rfl
theorem pl59 : plcT Try.prog 59 = true := by kernel_rfl
theorem pl71 : plcT Try.prog 71 = true := by kernel_rfl
theorem pl77 : plcT Try.prog 77 = true := by kernel_rfl
theorem pl82 : plcT Try.prog 82 = true := by kernel_rfl
theorem st32 : Try.prog.stoodInHeld 32 = false := by kernel_rfl
theorem st82 : Try.prog.stoodInHeld 82 = false := by kernel_rfl
theorem xf106 : (Extern.findNext Try.f106).isNone = true := by kernel_rfl
theorem xf49 : (Extern.findNext Try.f49).isNone = true := by kernel_rfl
theorem xf85 : (Extern.findNext Try.f85).isNone = true := by kernel_rfl
theorem xg106 : Extern.find Try.f106 = some Extern.BytealgIndexByte.indexByte := by rfl
theorem xg49 : Extern.find Try.f49 = some (Extern.SlicesOverlaps.overlaps Try.f49.params Try.f49.resultTypes) := by rfl
theorem xg85 : Extern.find Try.f85 = some Extern.BytealgCompare.compare := by rfl
theorem z110 : zer Try.prog 110 = some (.agg #[.nilFunc, .nilFunc, .nilFunc]) := by kernel_rfl
theorem z27 : zer Try.prog 27 = some (.agg #[.slice none 0 0, .slice none 0 0]) := by kernel_rfl
theorem z3 : zer Try.prog 3 = some (.int .i64 0) := by kernel_rfl
theorem z32 : zer Try.prog 32 = some (.agg #[.int .i64 0, .string ⟨#[]⟩, .string ⟨#[]⟩, .string ⟨#[]⟩, .string ⟨#[]⟩, .bool false, .bool false, .int .i64 0, .int .i64 0, .int .i64 0, .int .i64 0]) := by kernel_rfl
theorem z4 : zer Try.prog 4 = some (.bool false) := by kernel_rfl
theorem z5 : zer Try.prog 5 = some (.int .u8 0) := by kernel_rfl
theorem z59 : zer Try.prog 59 = some (.agg #[.slice none 0 0, .pointer none]) := by kernel_rfl
theorem z60 : zer Try.prog 60 = some .nilFunc := by kernel_rfl
theorem z71 : zer Try.prog 71 = some (.agg #[.int .i64 0, .string ⟨#[]⟩]) := by kernel_rfl
theorem z77 : zer Try.prog 77 = some (.agg #[.slice none 0 0, .map none]) := by kernel_rfl
theorem z82 : zer Try.prog 82 = some (.agg #[.int .i64 0, .string ⟨#[]⟩, .string ⟨#[]⟩, .string ⟨#[]⟩, .bool false]) := by kernel_rfl
theorem z9 : zer Try.prog 9 = some (.string ⟨#[]⟩) := by kernel_rfl
theorem z99 : zer Try.prog 99 = some .nilFunc := by kernel_rfl
structure HEnt where
  fAt : Int
  fKey : ByteArray
  deriving DecidableEq, Inhabited
def HEnt.enc (x : HEnt) : Cs := [eq (.int .i64 x.fAt), eq (.string x.fKey)]
def HEnt.K : Kd HEnt := ⟨2, default, HEnt.enc, fun _ => rfl, fun _ => (ones_cons (one_eq rfl) (ones_cons (one_eq rfl) ones_nil))⟩
structure HHeap where
  fl : List HEnt
  fat : List (ByteArray × Int)
  deriving DecidableEq, Inhabited
structure Edu where
  fKind : Int
  fRoom : ByteArray
  fUser : ByteArray
  fEvent : ByteArray
  fThread : ByteArray
  fPrivate : Bool
  fOn : Bool
  fSpan : Int
  fState : Int
  fTick : Int
  fStamp : Int
  deriving DecidableEq, Inhabited
def Edu.enc (x : Edu) : Cs := [eq (.int .i64 x.fKind), eq (.string x.fRoom), eq (.string x.fUser), eq (.string x.fEvent), eq (.string x.fThread), eq (.bool x.fPrivate), eq (.bool x.fOn), eq (.int .i64 x.fSpan), eq (.int .i64 x.fState), eq (.int .i64 x.fTick), eq (.int .i64 x.fStamp)]
def Edu.K : Kd Edu := ⟨11, default, Edu.enc, fun _ => rfl, fun _ => (ones_cons (one_eq rfl) (ones_cons (one_eq rfl) (ones_cons (one_eq rfl) (ones_cons (one_eq rfl) (ones_cons (one_eq rfl) (ones_cons (one_eq rfl) (ones_cons (one_eq rfl) (ones_cons (one_eq rfl) (ones_cons (one_eq rfl) (ones_cons (one_eq rfl) (ones_cons (one_eq rfl) ones_nil)))))))))))⟩
structure TTab where
  fl : List Edu
  fends : HHeap
  deriving DecidableEq, Inhabited
structure TRef where
  fL : List Edu
  fTold : List Bool
  deriving DecidableEq, Inhabited
def TRef.enc (x : TRef) : Cs := [sl Edu.K x.fL, sl boolK x.fTold]
def TRef.K : Kd TRef := ⟨2, default, TRef.enc, fun _ => rfl, fun _ => (ones_cons one_sl (ones_cons one_sl ones_nil))⟩
structure EKey where
  fKind : Int
  fRoom : ByteArray
  fUser : ByteArray
  fThread : ByteArray
  fPrivate : Bool
  deriving DecidableEq, Inhabited
def EKey.enc (x : EKey) : Cs := [eq (.int .i64 x.fKind), eq (.string x.fRoom), eq (.string x.fUser), eq (.string x.fThread), eq (.bool x.fPrivate)]
def EKey.K : Kd EKey := ⟨5, default, EKey.enc, fun _ => rfl, fun _ => (ones_cons (one_eq rfl) (ones_cons (one_eq rfl) (ones_cons (one_eq rfl) (ones_cons (one_eq rfl) (ones_cons (one_eq rfl) ones_nil)))))⟩
theorem eqt32 (x y : Edu) {d : Nat} {w : World} : (Op.equalIn (d + 2) 32 (.agg [.int .i64 x.fKind, .string x.fRoom, .string x.fUser, .string x.fEvent, .string x.fThread, .bool x.fPrivate, .bool x.fOn, .int .i64 x.fSpan, .int .i64 x.fState, .int .i64 x.fTick, .int .i64 x.fStamp].toArray) (.agg [.int .i64 y.fKind, .string y.fRoom, .string y.fUser, .string y.fEvent, .string y.fThread, .bool y.fPrivate, .bool y.fOn, .int .i64 y.fSpan, .int .i64 y.fState, .int .i64 y.fTick, .int .i64 y.fStamp].toArray)).run Try.prog w = .ok (decide (x = y)) w := by
  have e : decide (x = y) = ((decide (x.fKind = y.fKind) && (decide (x.fRoom = y.fRoom) && (decide (x.fUser = y.fUser) && (decide (x.fEvent = y.fEvent) && (decide (x.fThread = y.fThread) && (decide (x.fPrivate = y.fPrivate) && (decide (x.fOn = y.fOn) && (decide (x.fSpan = y.fSpan) && (decide (x.fState = y.fState) && (decide (x.fTick = y.fTick) && (decide (x.fStamp = y.fStamp) && true)))))))))))) := by cases x; cases y; rw [Bool.eq_iff_iff]; simp
  rw [e]
  exact eq_struct Try.underlying32 st32 (eqF_cons (by decide) (run_part1 Try.underlying3 rfl rfl) (run_part1 Try.underlying3 rfl rfl) (eq_int Try.underlying3) (eqF_cons (by decide) (run_part1 Try.underlying9 rfl rfl) (run_part1 Try.underlying9 rfl rfl) (eq_str Try.underlying9) (eqF_cons (by decide) (run_part1 Try.underlying9 rfl rfl) (run_part1 Try.underlying9 rfl rfl) (eq_str Try.underlying9) (eqF_cons (by decide) (run_part1 Try.underlying9 rfl rfl) (run_part1 Try.underlying9 rfl rfl) (eq_str Try.underlying9) (eqF_cons (by decide) (run_part1 Try.underlying9 rfl rfl) (run_part1 Try.underlying9 rfl rfl) (eq_str Try.underlying9) (eqF_cons (by decide) (run_part1 Try.underlying4 rfl rfl) (run_part1 Try.underlying4 rfl rfl) (eq_bool Try.underlying4) (eqF_cons (by decide) (run_part1 Try.underlying4 rfl rfl) (run_part1 Try.underlying4 rfl rfl) (eq_bool Try.underlying4) (eqF_cons (by decide) (run_part1 Try.underlying3 rfl rfl) (run_part1 Try.underlying3 rfl rfl) (eq_int Try.underlying3) (eqF_cons (by decide) (run_part1 Try.underlying3 rfl rfl) (run_part1 Try.underlying3 rfl rfl) (eq_int Try.underlying3) (eqF_cons (by decide) (run_part1 Try.underlying3 rfl rfl) (run_part1 Try.underlying3 rfl rfl) (eq_int Try.underlying3) (eqF_cons (by decide) (run_part1 Try.underlying3 rfl rfl) (run_part1 Try.underlying3 rfl rfl) (eq_int Try.underlying3) eqF_nil)))))))))))
theorem eqt82 (x y : EKey) {d : Nat} {w : World} : (Op.equalIn (d + 2) 82 (.agg [.int .i64 x.fKind, .string x.fRoom, .string x.fUser, .string x.fThread, .bool x.fPrivate].toArray) (.agg [.int .i64 y.fKind, .string y.fRoom, .string y.fUser, .string y.fThread, .bool y.fPrivate].toArray)).run Try.prog w = .ok (decide (x = y)) w := by
  have e : decide (x = y) = ((decide (x.fKind = y.fKind) && (decide (x.fRoom = y.fRoom) && (decide (x.fUser = y.fUser) && (decide (x.fThread = y.fThread) && (decide (x.fPrivate = y.fPrivate) && true)))))) := by cases x; cases y; rw [Bool.eq_iff_iff]; simp
  rw [e]
  exact eq_struct Try.underlying82 st82 (eqF_cons (by decide) (run_part1 Try.underlying3 rfl rfl) (run_part1 Try.underlying3 rfl rfl) (eq_int Try.underlying3) (eqF_cons (by decide) (run_part1 Try.underlying9 rfl rfl) (run_part1 Try.underlying9 rfl rfl) (eq_str Try.underlying9) (eqF_cons (by decide) (run_part1 Try.underlying9 rfl rfl) (run_part1 Try.underlying9 rfl rfl) (eq_str Try.underlying9) (eqF_cons (by decide) (run_part1 Try.underlying9 rfl rfl) (run_part1 Try.underlying9 rfl rfl) (eq_str Try.underlying9) (eqF_cons (by decide) (run_part1 Try.underlying4 rfl rfl) (run_part1 Try.underlying4 rfl rfl) (eq_bool Try.underlying4) eqF_nil)))))
def HHeap.O (p : OV) (m : HHeap) : As := exA (γ := Nat × OV × OV) (fun g => p.1 = .pointer (some ⟨g.1, 0, none⟩)) (fun g => [blk g.1 77 [eq g.2.1.1, eq g.2.2.1], own HEnt.K g.2.1.1 m.fl, mp Value.string (fun x : Int => eq (.int .i64 x)) g.2.2.1 m.fat])
theorem HHeap.nn {p : OV} {m : HHeap} : NN (HHeap.O p m) p.1 := by unfold HHeap.O; exact nn_ex (γ := Nat × OV × OV) (b := fun g => g.1)
theorem HHeap.opn {l : List As} {p : OV} {m : HHeap} (j : Nat) (hj : l[j]? = some (HHeap.O p m)) : ∀ R w, St R l w → ∃ g : Nat × OV × OV, p.1 = .pointer (some ⟨g.1, 0, none⟩) ∧ St R ([blk g.1 77 [eq g.2.1.1, eq g.2.2.1], own HEnt.K g.2.1.1 m.fl, mp Value.string (fun x : Int => eq (.int .i64 x)) g.2.2.1 m.fat] ++ l.eraseIdx j) w := st_open j hj
theorem HHeap.shut {l r : List As} {p : OV} {m : HHeap} (g : Nat × OV × OV) (hg : p.1 = .pointer (some ⟨g.1, 0, none⟩)) (hp : l.Perm ([blk g.1 77 [eq g.2.1.1, eq g.2.2.1], own HEnt.K g.2.1.1 m.fl, mp Value.string (fun x : Int => eq (.int .i64 x)) g.2.2.1 m.fat] ++ r)) : ∀ R w, St R l w → ∃ _ : Unit, True ∧ St R (HHeap.O p m :: r) w := st_shut _ _ g hg hp
def TTab.O (p : OV) (m : TTab) : As := exA (γ := Nat × OV × OV) (fun g => p.1 = .pointer (some ⟨g.1, 0, none⟩)) (fun g => [blk g.1 59 [eq g.2.1.1, eq g.2.2.1], own Edu.K g.2.1.1 m.fl, HHeap.O g.2.2 m.fends])
theorem TTab.nn {p : OV} {m : TTab} : NN (TTab.O p m) p.1 := by unfold TTab.O; exact nn_ex (γ := Nat × OV × OV) (b := fun g => g.1)
theorem TTab.opn {l : List As} {p : OV} {m : TTab} (j : Nat) (hj : l[j]? = some (TTab.O p m)) : ∀ R w, St R l w → ∃ g : Nat × OV × OV, p.1 = .pointer (some ⟨g.1, 0, none⟩) ∧ St R ([blk g.1 59 [eq g.2.1.1, eq g.2.2.1], own Edu.K g.2.1.1 m.fl, HHeap.O g.2.2 m.fends] ++ l.eraseIdx j) w := st_open j hj
theorem TTab.shut {l r : List As} {p : OV} {m : TTab} (g : Nat × OV × OV) (hg : p.1 = .pointer (some ⟨g.1, 0, none⟩)) (hp : l.Perm ([blk g.1 59 [eq g.2.1.1, eq g.2.2.1], own Edu.K g.2.1.1 m.fl, HHeap.O g.2.2 m.fends] ++ r)) : ∀ R w, St R l w → ∃ _ : Unit, True ∧ St R (TTab.O p m :: r) w := st_shut _ _ g hg hp
def fq98Q (g : Int → Option Bool) : List VP → VP → Prop := fun vs ret => ∃ a0 r, g a0 = some r ∧ vs = [eq (.int .u8 a0)] ∧ ret = eq (.bool r)
def fq98 (g : Int → Option Bool) : VP := fnq Try.prog (fq98Q g)
def fK98 : Kd (Int → Option Bool) := ⟨1, fun _ => none, fun g => [fq98 g], fun _ => rfl, fun _ p h R v hv => by simp at h; subst h; exact one_fnq R v hv⟩
def fq99Q (g : Int → Int → Int → Option Bool) : List VP → VP → Prop := fun vs ret => ∃ a0 a1 a2 r, g a0 a1 a2 = some r ∧ vs = [eq (.int .i64 a0), eq (.int .i64 a1), eq (.int .i64 a2)] ∧ ret = eq (.bool r)
def fq99 (g : Int → Int → Int → Option Bool) : VP := fnq Try.prog (fq99Q g)
def fK99 : Kd (Int → Int → Int → Option Bool) := ⟨1, fun _ _ _ => none, fun g => [fq99 g], fun _ => rfl, fun _ p h R v hv => by simp at h; subst h; exact one_fnq R v hv⟩
def fq60Q (g : Edu → Option Bool) : List VP → VP → Prop := fun vs ret => ∃ a0 r, g a0 = some r ∧ vs = [agg (Edu.enc a0)] ∧ ret = eq (.bool r)
def fq60 (g : Edu → Option Bool) : VP := fnq Try.prog (fq60Q g)
def fK60 : Kd (Edu → Option Bool) := ⟨1, fun _ => none, fun g => [fq60 g], fun _ => rfl, fun _ p h R v hv => by simp at h; subst h; exact one_fnq R v hv⟩
def fq52Q (g : Edu → Edu → Option Int) : List VP → VP → Prop := fun vs ret => ∃ a0 a1 r, g a0 a1 = some r ∧ vs = [agg (Edu.enc a0), agg (Edu.enc a1)] ∧ ret = eq (.int .i64 r)
def fq52 (g : Edu → Edu → Option Int) : VP := fnq Try.prog (fq52Q g)
def fK52 : Kd (Edu → Edu → Option Int) := ⟨1, fun _ _ => none, fun g => [fq52 g], fun _ => rfl, fun _ p h R v hv => by simp at h; subst h; exact one_fnq R v hv⟩
/-! concourse/heap.New: function 25 -/
def heap_New.f : Option (HHeap) := some (⟨([] : List HEnt), ([] : List (ByteArray × Int))⟩ : HHeap)
/-! concourse/typing.New: function 7 -/
def typing_New.f : Option (TTab) := (heap_New.f).bind fun t3 => some (⟨([] : List Edu), t3⟩ : TTab)
/-! concourse/concourseref02.Number: function 54 -/
def concourseref02_Number.f : Nat → Int → Option ((List Int))
  | 0, _ => none
  | k + 1, a0 => (cond (decide (a0 < 0)) (some 0) (some a0)).bind fun (p7 : Int) => cond (decide (p7 < 128)) (some ([IntKind.u8.wrap (p7)] : List Int)) ((concourseref02_Number.f k (w64 (p7.tdiv 128))).bind fun t11 => grd (([IntKind.u8.wrap (w64 (128 + (p7.tmod 128)))] : List Int).length + t11.length ≤ 9223372036854775807 ∧ (([IntKind.u8.wrap (w64 (128 + (p7.tmod 128)))] : List Int).length + t11.length) * 1 ≤ 140737488355328) (some (([IntKind.u8.wrap (w64 (128 + (p7.tmod 128)))] : List Int) ++ t11)))
/-! concourse/concourseref02.Text: function 55 -/
def concourseref02_Text.f (k : Nat) (a0 : ByteArray) : Option ((List Int)) := (concourseref02_Number.f k (a0.size : Int)).bind fun t17 => grd (t17.length + (strBs a0).length ≤ 9223372036854775807 ∧ (t17.length + (strBs a0).length) * 1 ≤ 140737488355328) (some (t17 ++ (strBs a0)))
/-! concourse/concourseref02.Flag: function 56 -/
def concourseref02_Flag.f (a0 : Bool) : Option ((List Int)) := cond a0 (some ([1] : List Int)) (some ([0] : List Int))
/-! concourse/concourseref03.Bytes: function 37 -/
def concourseref03_Bytes.f (k : Nat) (a0 : Edu) : Option ((List Int)) := (concourseref02_Number.f k a0.fKind).bind fun t24 => (concourseref02_Text.f k a0.fRoom).bind fun t27 => grd (t24.length + t27.length ≤ 9223372036854775807 ∧ (t24.length + t27.length) * 1 ≤ 140737488355328) ((concourseref02_Text.f k a0.fUser).bind fun t32 => grd ((t24 ++ t27).length + t32.length ≤ 9223372036854775807 ∧ ((t24 ++ t27).length + t32.length) * 1 ≤ 140737488355328) ((concourseref02_Text.f k a0.fEvent).bind fun t37 => grd (((t24 ++ t27) ++ t32).length + t37.length ≤ 9223372036854775807 ∧ (((t24 ++ t27) ++ t32).length + t37.length) * 1 ≤ 140737488355328) ((concourseref02_Text.f k a0.fThread).bind fun t42 => grd ((((t24 ++ t27) ++ t32) ++ t37).length + t42.length ≤ 9223372036854775807 ∧ ((((t24 ++ t27) ++ t32) ++ t37).length + t42.length) * 1 ≤ 140737488355328) ((concourseref02_Flag.f a0.fOn).bind fun t47 => grd (((((t24 ++ t27) ++ t32) ++ t37) ++ t42).length + t47.length ≤ 9223372036854775807 ∧ (((((t24 ++ t27) ++ t32) ++ t37) ++ t42).length + t47.length) * 1 ≤ 140737488355328) ((concourseref02_Number.f k a0.fSpan).bind fun t51 => grd ((((((t24 ++ t27) ++ t32) ++ t37) ++ t42) ++ t47).length + t51.length ≤ 9223372036854775807 ∧ ((((((t24 ++ t27) ++ t32) ++ t37) ++ t42) ++ t47).length + t51.length) * 1 ≤ 140737488355328) ((concourseref02_Number.f k a0.fState).bind fun t56 => grd (((((((t24 ++ t27) ++ t32) ++ t37) ++ t42) ++ t47) ++ t51).length + t56.length ≤ 9223372036854775807 ∧ (((((((t24 ++ t27) ++ t32) ++ t37) ++ t42) ++ t47) ++ t51).length + t56.length) * 1 ≤ 140737488355328) ((concourseref02_Number.f k a0.fTick).bind fun t61 => grd ((((((((t24 ++ t27) ++ t32) ++ t37) ++ t42) ++ t47) ++ t51) ++ t56).length + t61.length ≤ 9223372036854775807 ∧ ((((((((t24 ++ t27) ++ t32) ++ t37) ++ t42) ++ t47) ++ t51) ++ t56).length + t61.length) * 1 ≤ 140737488355328) ((concourseref02_Number.f k a0.fStamp).bind fun t66 => grd (((((((((t24 ++ t27) ++ t32) ++ t37) ++ t42) ++ t47) ++ t51) ++ t56) ++ t61).length + t66.length ≤ 9223372036854775807 ∧ (((((((((t24 ++ t27) ++ t32) ++ t37) ++ t42) ++ t47) ++ t51) ++ t56) ++ t61).length + t66.length) * 1 ≤ 140737488355328) (some (((((((((t24 ++ t27) ++ t32) ++ t37) ++ t42) ++ t47) ++ t51) ++ t56) ++ t61) ++ t66))))))))))
/-! concourse/concourseref03.Compare: function 23 -/
def concourseref03_Compare.f (k : Nat) (a0 : Edu) (a1 : Edu) : Option (Int) := cond (decide (a0.fStamp < a1.fStamp)) (some (-1)) (cond (decide (a1.fStamp < a0.fStamp)) (some 1) ((concourseref03_Bytes.f k a0).bind fun t75 => (concourseref03_Bytes.f k a1).bind fun t78 => cond (sLt (ofNums t75) (ofNums t78)) (some (-1)) (cond (sLt (ofNums t78) (ofNums t75)) (some 1) (some 0))))
/-! concourse/concourseref01.colon: function 71 -/
def concourseref01_colon.l0 (k : Nat) (a0 : ByteArray) : Nat → Int → Option ((Int × Bool) ⊕ (Int))
  | 0, _ => none
  | j88 + 1, x84 => cond (decide (x84 < (a0.size : Int))) (grd ((0 : Int) ≤ x84 ∧ x84 < (a0.size : Int)) (cond ((bt a0 x84) == 58) (some (.inr x84)) (concourseref01_colon.l0 k a0 j88 (w64 (x84 + 1))))) (some (.inl (x84, decide (x84 < (a0.size : Int)))))
def concourseref01_colon.f (k : Nat) (a0 : ByteArray) : Option (Int) := (concourseref01_colon.l0 k a0 k 0).bind (fall fun (p83 : Int × Bool) => some (-1))
/-! concourse/concourseref01.low: function 74 -/
def concourseref01_low.f (a0 : Int) : Option (Bool) := cond (decide (97 ≤ a0)) (cond (decide (a0 ≤ 122)) (some true) (cond (decide (48 ≤ a0)) (some (decide (a0 ≤ 57))) (some false))) (cond (decide (48 ≤ a0)) (some (decide (a0 ≤ 57))) (some false))
/-! concourse/concourseref01.Part: function 72 -/
def concourseref01_Part.l0 (k : Nat) (a0 : ByteArray) : Nat → Int → Option ((Int × Bool) ⊕ (Bool))
  | 0, _ => none
  | j111 + 1, x96 => cond (decide (x96 < (a0.size : Int))) (grd ((0 : Int) ≤ x96 ∧ x96 < (a0.size : Int)) ((concourseref01_low.f (bt a0 x96)).bind fun t99 => cond (!t99) (grd ((0 : Int) ≤ x96 ∧ x96 < (a0.size : Int)) (cond ((bt a0 x96) != 46) (grd ((0 : Int) ≤ x96 ∧ x96 < (a0.size : Int)) (cond ((bt a0 x96) != 45) (grd ((0 : Int) ≤ x96 ∧ x96 < (a0.size : Int)) (cond ((bt a0 x96) != 95) (some (.inr false)) (concourseref01_Part.l0 k a0 j111 (w64 (x96 + 1))))) (concourseref01_Part.l0 k a0 j111 (w64 (x96 + 1))))) (concourseref01_Part.l0 k a0 j111 (w64 (x96 + 1))))) (concourseref01_Part.l0 k a0 j111 (w64 (x96 + 1))))) (some (.inl (x96, decide (x96 < (a0.size : Int)))))
def concourseref01_Part.f (k : Nat) (a0 : ByteArray) : Option (Bool) := (concourseref01_Part.l0 k a0 k 0).bind (fall fun (p94 : Int × Bool) => cond (decide (0 < (a0.size : Int))) (some (decide ((a0.size : Int) < 17))) (some false))
/-! concourse/concourseref01.Server: function 73 -/
def concourseref01_Server.l0 (k : Nat) (a0 : ByteArray) : Nat → Int → Option ((Int × Bool) ⊕ (Bool))
  | 0, _ => none
  | j137 + 1, x115 => cond (decide (x115 < (a0.size : Int))) (grd ((0 : Int) ≤ x115 ∧ x115 < (a0.size : Int)) ((concourseref01_low.f (bt a0 x115)).bind fun t118 => cond (decide (0 < x115)) (cond (decide (x115 < (w64 ((a0.size : Int) - 1)))) (grd ((0 : Int) ≤ x115 ∧ x115 < (a0.size : Int)) (cond ((bt a0 x115) == 46) (cond (!t118) (concourseref01_Server.l0 k a0 j137 (w64 (x115 + 1))) (concourseref01_Server.l0 k a0 j137 (w64 (x115 + 1)))) (grd ((0 : Int) ≤ x115 ∧ x115 < (a0.size : Int)) (cond (!t118) (cond (!((bt a0 x115) == 45)) (some (.inr false)) (concourseref01_Server.l0 k a0 j137 (w64 (x115 + 1)))) (concourseref01_Server.l0 k a0 j137 (w64 (x115 + 1))))))) (cond (!t118) (some (.inr false)) (concourseref01_Server.l0 k a0 j137 (w64 (x115 + 1))))) (cond (!t118) (some (.inr false)) (concourseref01_Server.l0 k a0 j137 (w64 (x115 + 1)))))) (some (.inl (x115, decide (x115 < (a0.size : Int)))))
def concourseref01_Server.f (k : Nat) (a0 : ByteArray) : Option (Bool) := (concourseref01_Server.l0 k a0 k 0).bind (fall fun (p113 : Int × Bool) => cond (decide (0 < (a0.size : Int))) (some (decide ((a0.size : Int) < 17))) (some false))
/-! concourse/concourseref01.Named: function 57 -/
def concourseref01_Named.f (k : Nat) (a0 : ByteArray) (a1 : Int) : Option (Bool) := (concourseref01_colon.f k a0).bind fun t139 => cond (decide (t139 < 1)) (some false) (grd ((0 : Int) ≤ 0 ∧ 0 < (a0.size : Int)) (cond ((bt a0 0) != a1) (some false) (grd ((0 : Int) ≤ 1 ∧ (0 : Int) ≤ t139 ∧ (1 : Int).toNat ≤ t139.toNat ∧ t139.toNat ≤ a0.size) ((concourseref01_Part.f k (a0.extract (1 : Int).toNat t139.toNat)).bind fun t146 => grd ((0 : Int) ≤ (w64 (t139 + 1)) ∧ (w64 (t139 + 1)).toNat ≤ a0.size ∧ a0.size ≤ a0.size) ((concourseref01_Server.f k (a0.extract (w64 (t139 + 1)).toNat a0.size)).bind fun t149 => cond t146 (some t149) (some false))))))
/-! concourse/concourseref01.Event: function 58 -/
def concourseref01_Event.l0 (k : Nat) (a0 : ByteArray) : Nat → Int → Option ((Int × Bool) ⊕ (Bool))
  | 0, _ => none
  | j183 + 1, x159 => cond (decide (x159 < (a0.size : Int))) (grd ((0 : Int) ≤ x159 ∧ x159 < (a0.size : Int)) ((concourseref01_low.f (bt a0 x159)).bind fun t162 => grd ((0 : Int) ≤ x159 ∧ x159 < (a0.size : Int)) (cond (decide (65 ≤ (bt a0 x159))) (grd ((0 : Int) ≤ x159 ∧ x159 < (a0.size : Int)) (cond (!t162) (cond (!(decide ((bt a0 x159) ≤ 90))) (grd ((0 : Int) ≤ x159 ∧ x159 < (a0.size : Int)) (cond ((bt a0 x159) != 45) (grd ((0 : Int) ≤ x159 ∧ x159 < (a0.size : Int)) (cond ((bt a0 x159) != 95) (some (.inr false)) (concourseref01_Event.l0 k a0 j183 (w64 (x159 + 1))))) (concourseref01_Event.l0 k a0 j183 (w64 (x159 + 1))))) (concourseref01_Event.l0 k a0 j183 (w64 (x159 + 1)))) (concourseref01_Event.l0 k a0 j183 (w64 (x159 + 1))))) (cond (!t162) (grd ((0 : Int) ≤ x159 ∧ x159 < (a0.size : Int)) (cond ((bt a0 x159) != 45) (grd ((0 : Int) ≤ x159 ∧ x159 < (a0.size : Int)) (cond ((bt a0 x159) != 95) (some (.inr false)) (concourseref01_Event.l0 k a0 j183 (w64 (x159 + 1))))) (concourseref01_Event.l0 k a0 j183 (w64 (x159 + 1))))) (concourseref01_Event.l0 k a0 j183 (w64 (x159 + 1))))))) (some (.inl (x159, decide (x159 < (a0.size : Int)))))
def concourseref01_Event.f (k : Nat) (a0 : ByteArray) : Option (Bool) := cond (decide ((a0.size : Int) < 2)) (some false) (cond (decide (17 < (a0.size : Int))) (some false) (grd ((0 : Int) ≤ 0 ∧ 0 < (a0.size : Int)) (cond ((bt a0 0) != 36) (some false) ((concourseref01_Event.l0 k a0 k 1).bind (fall fun (p158 : Int × Bool) => some true)))))
/-! concourse/concourseref01.Thread: function 59 -/
def concourseref01_Thread.f (k : Nat) (a0 : ByteArray) : Option (Bool) := (concourseref01_Event.f k a0).bind fun t185 => cond (decide (a0 = (⟨#[]⟩ : ByteArray))) (some true) (cond (decide (a0 = (⟨#[109, 97, 105, 110]⟩ : ByteArray))) (some true) (some t185))
/-! concourse/concourseref03.Local: function 39 -/
def concourseref03_Local.f (k : Nat) (a0 : Edu) : Option (Bool) := (concourseref01_Named.f k a0.fUser 64).bind fun t190 => (concourseref01_Named.f k a0.fRoom 33).bind fun t192 => (concourseref01_Event.f k a0.fEvent).bind fun t194 => (concourseref01_Thread.f k a0.fThread).bind fun t196 => cond (!t190) (some false) (cond (decide (a0.fTick < 0)) (some false) (cond (decide (1099511627776 < a0.fTick)) (some false) (cond (decide (a0.fStamp < 0)) (some false) (cond (decide (1099511627776 < a0.fStamp)) (some false) (cond (a0.fKind == 1) (cond t192 (cond t194 (cond t196 (cond (!a0.fOn) (cond (a0.fSpan == 0) (some (a0.fState == 0)) (some false)) (some false)) (some false)) (some false)) (some false)) (cond (a0.fKind == 2) (cond a0.fOn (cond (decide (1 ≤ a0.fSpan)) (cond (decide (a0.fSpan ≤ 60)) (cond t192 (cond (decide (a0.fEvent = (⟨#[]⟩ : ByteArray))) (cond (decide (a0.fThread = (⟨#[]⟩ : ByteArray))) (cond (a0.fState == 0) (some (!a0.fPrivate)) (some false)) (some false)) (some false)) (some false)) (cond (!a0.fOn) (cond t192 (cond (a0.fSpan == 0) (cond (decide (a0.fEvent = (⟨#[]⟩ : ByteArray))) (cond (decide (a0.fThread = (⟨#[]⟩ : ByteArray))) (cond (a0.fState == 0) (some (!a0.fPrivate)) (some false)) (some false)) (some false)) (some false)) (some false)) (cond t192 (some false) (some false)))) (cond (!a0.fOn) (cond t192 (cond (a0.fSpan == 0) (cond (decide (a0.fEvent = (⟨#[]⟩ : ByteArray))) (cond (decide (a0.fThread = (⟨#[]⟩ : ByteArray))) (cond (a0.fState == 0) (some (!a0.fPrivate)) (some false)) (some false)) (some false)) (some false)) (some false)) (cond t192 (some false) (some false)))) (cond (!a0.fOn) (cond t192 (cond (a0.fSpan == 0) (cond (decide (a0.fEvent = (⟨#[]⟩ : ByteArray))) (cond (decide (a0.fThread = (⟨#[]⟩ : ByteArray))) (cond (a0.fState == 0) (some (!a0.fPrivate)) (some false)) (some false)) (some false)) (some false)) (some false)) (cond t192 (some false) (some false)))) (cond (a0.fKind == 3) (cond (decide (a0.fRoom = (⟨#[]⟩ : ByteArray))) (cond (decide (a0.fEvent = (⟨#[]⟩ : ByteArray))) (cond (decide (a0.fThread = (⟨#[]⟩ : ByteArray))) (cond (!a0.fOn) (cond (a0.fSpan == 0) (cond (!a0.fPrivate) (cond (decide (0 ≤ a0.fState)) (some (decide (a0.fState ≤ 2))) (some false)) (some false)) (some false)) (some false)) (some false)) (some false)) (some false)) (some false))))))))
/-! concourse/concourseref03.May: function 26 -/
def concourseref03_May.f (k : Nat) (a0 : Edu) : Option (Bool) := (concourseref03_Local.f k a0).bind fun t251 => cond t251 (some (!a0.fPrivate)) (some false)
/-! concourse/concourseref14.Put: function 8 -/
def concourseref14_Put.l0 (k : Nat) (a0 : TRef) (a1 : Edu) : Nat → Bool → Int → List Edu → List Bool → Option ((Bool × Int × Bool × (List Edu) × (List Bool)) ⊕ (TRef × Bool × Int))
  | 0, _, _, _, _ => none
  | j334 + 1, x271, x272, x273, x274 => cond (decide (x272 < (a0.fL.length : Int))) (grd ((0 : Int) ≤ x272 ∧ x272 < (a0.fL.length : Int)) (cond (decide (((Edu.K.at a0.fL x272).fRoom) = a1.fRoom)) (cond (decide (((Edu.K.at a0.fL x272).fUser) = a1.fUser)) ((concourseref03_Compare.f k a1 (Edu.K.at a0.fL x272)).bind fun t282 => cond (decide (t282 ≤ 0)) (some (.inr (a0, false, 0))) (concourseref14_Put.l0 k a0 a1 j334 x271 (w64 (x272 + 1)) x273 x274)) ((cond (!x271) (cond (sLt a1.fRoom ((Edu.K.at a0.fL x272).fRoom)) (grd (x273.length + ([a1] : List Edu).length ≤ 9223372036854775807 ∧ (x273.length + ([a1] : List Edu).length) * 112 ≤ 140737488355328) (grd (x274.length + ([false] : List Bool).length ≤ 9223372036854775807 ∧ (x274.length + ([false] : List Bool).length) * 1 ≤ 140737488355328) (some (true, true, x273 ++ ([a1] : List Edu), x274 ++ ([false] : List Bool))))) (cond (decide (a1.fRoom = ((Edu.K.at a0.fL x272).fRoom))) (cond (sLt a1.fUser ((Edu.K.at a0.fL x272).fUser)) (grd (x273.length + ([a1] : List Edu).length ≤ 9223372036854775807 ∧ (x273.length + ([a1] : List Edu).length) * 112 ≤ 140737488355328) (grd (x274.length + ([false] : List Bool).length ≤ 9223372036854775807 ∧ (x274.length + ([false] : List Bool).length) * 1 ≤ 140737488355328) (some (true, sLt a1.fUser ((Edu.K.at a0.fL x272).fUser), x273 ++ ([a1] : List Edu), x274 ++ ([false] : List Bool))))) (some (x271, sLt a1.fUser ((Edu.K.at a0.fL x272).fUser), x273, x274))) (some (x271, false, x273, x274)))) (some (x271, false, x273, x274))).bind fun (p285 : Bool × Bool × (List Edu) × (List Bool)) => grd (p285.2.2.1.length + ([Edu.K.at a0.fL x272] : List Edu).length ≤ 9223372036854775807 ∧ (p285.2.2.1.length + ([Edu.K.at a0.fL x272] : List Edu).length) * 112 ≤ 140737488355328) (grd ((0 : Int) ≤ x272 ∧ x272 < (a0.fTold.length : Int)) (grd (p285.2.2.2.length + ([boolK.at a0.fTold x272] : List Bool).length ≤ 9223372036854775807 ∧ (p285.2.2.2.length + ([boolK.at a0.fTold x272] : List Bool).length) * 1 ≤ 140737488355328) (concourseref14_Put.l0 k a0 a1 j334 p285.1 (w64 (x272 + 1)) (p285.2.2.1 ++ ([Edu.K.at a0.fL x272] : List Edu)) (p285.2.2.2 ++ ([boolK.at a0.fTold x272] : List Bool))))))) ((cond (!x271) (cond (sLt a1.fRoom ((Edu.K.at a0.fL x272).fRoom)) (grd (x273.length + ([a1] : List Edu).length ≤ 9223372036854775807 ∧ (x273.length + ([a1] : List Edu).length) * 112 ≤ 140737488355328) (grd (x274.length + ([false] : List Bool).length ≤ 9223372036854775807 ∧ (x274.length + ([false] : List Bool).length) * 1 ≤ 140737488355328) (some (true, true, x273 ++ ([a1] : List Edu), x274 ++ ([false] : List Bool))))) (cond (decide (a1.fRoom = ((Edu.K.at a0.fL x272).fRoom))) (cond (sLt a1.fUser ((Edu.K.at a0.fL x272).fUser)) (grd (x273.length + ([a1] : List Edu).length ≤ 9223372036854775807 ∧ (x273.length + ([a1] : List Edu).length) * 112 ≤ 140737488355328) (grd (x274.length + ([false] : List Bool).length ≤ 9223372036854775807 ∧ (x274.length + ([false] : List Bool).length) * 1 ≤ 140737488355328) (some (true, sLt a1.fUser ((Edu.K.at a0.fL x272).fUser), x273 ++ ([a1] : List Edu), x274 ++ ([false] : List Bool))))) (some (x271, sLt a1.fUser ((Edu.K.at a0.fL x272).fUser), x273, x274))) (some (x271, false, x273, x274)))) (some (x271, false, x273, x274))).bind fun (p310 : Bool × Bool × (List Edu) × (List Bool)) => grd (p310.2.2.1.length + ([Edu.K.at a0.fL x272] : List Edu).length ≤ 9223372036854775807 ∧ (p310.2.2.1.length + ([Edu.K.at a0.fL x272] : List Edu).length) * 112 ≤ 140737488355328) (grd ((0 : Int) ≤ x272 ∧ x272 < (a0.fTold.length : Int)) (grd (p310.2.2.2.length + ([boolK.at a0.fTold x272] : List Bool).length ≤ 9223372036854775807 ∧ (p310.2.2.2.length + ([boolK.at a0.fTold x272] : List Bool).length) * 1 ≤ 140737488355328) (concourseref14_Put.l0 k a0 a1 j334 p310.1 (w64 (x272 + 1)) (p310.2.2.1 ++ ([Edu.K.at a0.fL x272] : List Edu)) (p310.2.2.2 ++ ([boolK.at a0.fTold x272] : List Bool)))))))) (some (.inl (x271, x272, decide (x272 < (a0.fL.length : Int)), x273, x274)))
def concourseref14_Put.f (k : Nat) (a0 : TRef) (a1 : Edu) : Option (TRef × Bool × Int) := (concourseref03_May.f k a1).bind fun t257 => cond (a1.fKind != 2) (some (a0, false, 1)) (cond (!t257) (some (a0, false, 1)) ((concourseref14_Put.l0 k a0 a1 k false 0 ([] : List Edu) ([] : List Bool)).bind (fall fun (p263 : Bool × Int × Bool × (List Edu) × (List Bool)) => cond (!p263.1) (grd (p263.2.2.2.1.length + ([a1] : List Edu).length ≤ 9223372036854775807 ∧ (p263.2.2.2.1.length + ([a1] : List Edu).length) * 112 ≤ 140737488355328) (grd (p263.2.2.2.2.length + ([false] : List Bool).length ≤ 9223372036854775807 ∧ (p263.2.2.2.2.length + ([false] : List Bool).length) * 1 ≤ 140737488355328) (some ((⟨p263.2.2.2.1 ++ ([a1] : List Edu), p263.2.2.2.2 ++ ([false] : List Bool)⟩ : TRef), true, 0)))) (some ((⟨p263.2.2.2.1, p263.2.2.2.2⟩ : TRef), true, 0)))))
/-! concourse/concourseref01.Around: function 12 -/
def concourseref01_Around.f (a0 : Int) (a1 : Int) : Option (Int) := cond (decide (a0 < 0)) (grd (a1 ≠ 0) (some ((w64 (0 - (w64 (a0 + 1)))).tmod a1))) (grd (a1 ≠ 0) (some (a0.tmod a1)))
/-! concourse/concourseref01.RoomOf: function 13 -/
def concourseref01_RoomOf.f (a0 : Int) : Option (ByteArray) := (concourseref01_Around.f a0 2).bind fun t340 => grd ((0 : Int) ≤ t340 ∧ t340 < (([(⟨#[33, 114, 58, 115, 49]⟩ : ByteArray), (⟨#[33, 113, 58, 115, 50]⟩ : ByteArray)] : List ByteArray).length : Int)) (some (strK.at ([(⟨#[33, 114, 58, 115, 49]⟩ : ByteArray), (⟨#[33, 113, 58, 115, 50]⟩ : ByteArray)] : List ByteArray) t340))
/-! concourse/concourseref01.ServerOf: function 35 -/
def concourseref01_ServerOf.f (a0 : Int) : Option (ByteArray) := (concourseref01_Around.f a0 3).bind fun t343 => grd ((0 : Int) ≤ t343 ∧ t343 < (([(⟨#[115, 49]⟩ : ByteArray), (⟨#[115, 50]⟩ : ByteArray), (⟨#[115, 51]⟩ : ByteArray)] : List ByteArray).length : Int)) (some (strK.at ([(⟨#[115, 49]⟩ : ByteArray), (⟨#[115, 50]⟩ : ByteArray), (⟨#[115, 51]⟩ : ByteArray)] : List ByteArray) t343))
/-! concourse/concourseref01.UserOf: function 19 -/
def concourseref01_UserOf.f (a0 : Int) : Option (ByteArray) := (concourseref01_Around.f a0 9).bind fun t346 => grd ((0 : Int) ≤ (w64 (t346.tdiv 3)) ∧ (w64 (t346.tdiv 3)) < (([(⟨#[64, 97, 58]⟩ : ByteArray), (⟨#[64, 98, 58]⟩ : ByteArray), (⟨#[64, 99, 58]⟩ : ByteArray)] : List ByteArray).length : Int)) ((concourseref01_ServerOf.f (t346.tmod 3)).bind fun t349 => grd ((strK.at ([(⟨#[64, 97, 58]⟩ : ByteArray), (⟨#[64, 98, 58]⟩ : ByteArray), (⟨#[64, 99, 58]⟩ : ByteArray)] : List ByteArray) (w64 (t346.tdiv 3))).size + t349.size ≤ 9223372036854775807) (some ((strK.at ([(⟨#[64, 97, 58]⟩ : ByteArray), (⟨#[64, 98, 58]⟩ : ByteArray), (⟨#[64, 99, 58]⟩ : ByteArray)] : List ByteArray) (w64 (t346.tdiv 3))) ++ t349)))
/-! concourse/concourseref01.Decimal: function 60 -/
def concourseref01_Decimal.f : Nat → Int → Option (ByteArray)
  | 0, _ => none
  | k + 1, a0 => (cond (decide ((a0.tmod 10) < 0)) (some (w64 (0 - (a0.tmod 10)))) (some (a0.tmod 10))).bind fun (p352 : Int) => cond (decide ((-10) < a0)) (cond (decide (a0 < 10)) (cond (decide (a0 < 0)) (grd ((⟨#[45]⟩ : ByteArray).size + (ofNums ([IntKind.u8.wrap (w64 (48 + p352))] : List Int)).size ≤ 9223372036854775807) (some ((⟨#[45]⟩ : ByteArray) ++ (ofNums ([IntKind.u8.wrap (w64 (48 + p352))] : List Int))))) (some (ofNums ([IntKind.u8.wrap (w64 (48 + p352))] : List Int)))) ((concourseref01_Decimal.f k (w64 (a0.tdiv 10))).bind fun t357 => grd (t357.size + (ofNums ([IntKind.u8.wrap (w64 (48 + p352))] : List Int)).size ≤ 9223372036854775807) (some (t357 ++ (ofNums ([IntKind.u8.wrap (w64 (48 + p352))] : List Int)))))) ((concourseref01_Decimal.f k (w64 (a0.tdiv 10))).bind fun t361 => grd (t361.size + (ofNums ([IntKind.u8.wrap (w64 (48 + p352))] : List Int)).size ≤ 9223372036854775807) (some (t361 ++ (ofNums ([IntKind.u8.wrap (w64 (48 + p352))] : List Int)))))
/-! concourse/concourseref01.EventOf: function 40 -/
def concourseref01_EventOf.f (k : Nat) (a0 : Int) : Option (ByteArray) := (concourseref01_Around.f a0 9).bind fun t365 => (concourseref01_Decimal.f k t365).bind fun t367 => grd ((⟨#[36, 101]⟩ : ByteArray).size + t367.size ≤ 9223372036854775807) (some ((⟨#[36, 101]⟩ : ByteArray) ++ t367))
/-! concourse/concourseref01.ThreadOf: function 41 -/
def concourseref01_ThreadOf.f (k : Nat) (a0 : Int) : Option (ByteArray) := (concourseref01_Around.f a0 11).bind fun t370 => cond (t370 == 9) (some (⟨#[]⟩ : ByteArray)) (cond (t370 == 10) (some (⟨#[109, 97, 105, 110]⟩ : ByteArray)) ((concourseref01_EventOf.f k t370).bind fun t374 => some t374))
/-! concourse/concourseref03.Good: function 27 -/
def concourseref03_Good.f (k : Nat) (a0 : Edu) : Option (Edu) := (concourseref01_Around.f a0.fKind 3).bind fun t378 => (concourseref01_UserOf.f a0.fState).bind fun t380 => (concourseref01_Around.f a0.fTick 100).bind fun t382 => (concourseref01_Around.f a0.fStamp 9).bind fun t384 => cond ((w64 (1 + t378)) == 1) ((concourseref01_RoomOf.f a0.fSpan).bind fun t388 => (concourseref01_Around.f a0.fTick 9).bind fun t390 => (concourseref01_EventOf.f k (w64 ((a0.fEvent.size : Int) + t390))).bind fun t392 => (concourseref01_ThreadOf.f k (a0.fThread.size : Int)).bind fun t394 => some (⟨w64 (1 + t378), t388, t380, t392, t394, a0.fPrivate, false, 0, 0, t382, t384⟩ : Edu)) (cond ((w64 (1 + t378)) == 2) ((concourseref01_RoomOf.f a0.fSpan).bind fun t397 => cond a0.fOn ((concourseref01_Around.f a0.fSpan 60).bind fun t400 => some (⟨w64 (1 + t378), t397, t380, (⟨#[]⟩ : ByteArray), (⟨#[]⟩ : ByteArray), false, a0.fOn, w64 (1 + t400), 0, t382, t384⟩ : Edu)) (some (⟨w64 (1 + t378), t397, t380, (⟨#[]⟩ : ByteArray), (⟨#[]⟩ : ByteArray), false, a0.fOn, 0, 0, t382, t384⟩ : Edu))) ((concourseref01_Around.f a0.fSpan 3).bind fun t402 => some (⟨w64 (1 + t378), (⟨#[]⟩ : ByteArray), t380, (⟨#[]⟩ : ByteArray), (⟨#[]⟩ : ByteArray), false, false, 0, t402, t382, t384⟩ : Edu)))
/-! concourse/concourseref14.Made: function 9 -/
def concourseref14_Made.f (k : Nat) (a0 : Edu) : Option (Edu) := (concourseref03_Good.f k (⟨1, a0.fRoom, a0.fUser, a0.fEvent, a0.fThread, a0.fPrivate, a0.fOn, a0.fSpan, a0.fState, a0.fTick, a0.fStamp⟩ : Edu)).bind fun t406 => some t406
/-! concourse/edu.asks$1: function 75 -/
def edu_asks_1.f (a0 : Int) (a1 : Int) (a2 : Int) : Option (Bool) := cond (decide (a1 ≤ a0)) (some (decide (a0 ≤ a2))) (some false)
/-! concourse/edu.asks$2: function 76 -/
def edu_asks_2.f (a0 : Edu) : Option (Bool) := some false
/-! internal/stringslite.HasPrefix: function 98 -/
def stringslite_HasPrefix.f (a0 : ByteArray) (a1 : ByteArray) : Option (Bool) := cond (decide ((a1.size : Int) ≤ (a0.size : Int))) (grd ((0 : Int) ≤ (a1.size : Int) ∧ 0 ≤ (a1.size : Int).toNat ∧ (a1.size : Int).toNat ≤ a0.size) (some (decide ((a0.extract 0 ((a1.size : Int).toNat)) = a1)))) (some false)
/-! internal/stringslite.CutPrefix: function 94 -/
def stringslite_CutPrefix.f (a0 : ByteArray) (a1 : ByteArray) : Option (ByteArray × Bool) := (stringslite_HasPrefix.f a0 a1).bind fun t412 => cond (!t412) (some (a0, false)) (grd ((0 : Int) ≤ (a1.size : Int) ∧ (a1.size : Int).toNat ≤ a0.size ∧ a0.size ≤ a0.size) (some (a0.extract (a1.size : Int).toNat a0.size, true)))
/-! strings.CutPrefix: function 90 -/
def strings_CutPrefix.f (a0 : ByteArray) (a1 : ByteArray) : Option (ByteArray × Bool) := (stringslite_CutPrefix.f a0 a1).bind fun t416 => some (t416.1, t416.2)
/-! concourse/name.small: function 97 -/
def name_small.f (a0 : Int) : Option (Bool) := cond (decide (97 ≤ a0)) (cond (decide (a0 ≤ 122)) (some true) (cond (decide (48 ≤ a0)) (some (decide (a0 ≤ 57))) (some false))) (cond (decide (48 ≤ a0)) (some (decide (a0 ≤ 57))) (some false))
/-! internal/stringslite.IndexByte: function 102 -/
def stringslite_IndexByte.f (a0 : ByteArray) (a1 : Int) : Option (Int) := some (idxB a0 a1)
/-! strings.IndexByte: function 100 -/
def strings_IndexByte.f (a0 : ByteArray) (a1 : Int) : Option (Int) := (stringslite_IndexByte.f a0 a1).bind fun t422 => some t422
/-! concourse/name.among$1: function 99 -/
def name_among_1.f (a0 : Int) (c0 : ByteArray) : Option (Bool) := (name_small.f a0).bind fun t424 => cond t424 (some true) ((strings_IndexByte.f c0 a0).bind fun t427 => some (decide (0 ≤ t427)))
/-! concourse/name.among: function 95 -/
def name_among.f (a0 : ByteArray) : Option ((Int → Option Bool)) := some (fun a0_ => name_among_1.f a0_ a0)
/-! concourse/name.may: function 91 -/
def name_may.l0 (k : Nat) (a0 : ByteArray) (a1 : Int) (t430 : (Int → Option Bool)) (t432 : (Int → Option Bool)) (t434 : (Int → Option Bool)) : Nat → Int → Option ((Int × Bool) ⊕ (Bool))
  | 0, _ => none
  | j445 + 1, x439 => cond (decide (x439 < (a0.size : Int))) (grd ((0 : Int) ≤ x439 ∧ x439 < (a0.size : Int)) (((fK98.at ([t430, t432, t434] : List (Int → Option Bool)) a1) (bt a0 x439)).bind fun t442 => cond (!t442) (some (.inr false)) (name_may.l0 k a0 a1 t430 t432 t434 j445 (w64 (x439 + 1))))) (some (.inl (x439, decide (x439 < (a0.size : Int)))))
def name_may.f (k : Nat) (a0 : ByteArray) (a1 : Int) : Option (Bool) := (name_among.f (⟨#[46, 45, 95]⟩ : ByteArray)).bind fun t430 => (name_among.f (⟨#[46, 45]⟩ : ByteArray)).bind fun t432 => (name_among.f (⟨#[45, 95, 65, 66, 67, 68, 69, 70, 71, 72, 73, 74, 75, 76, 77, 78, 79, 80, 81, 82, 83, 84, 85, 86, 87, 88, 89, 90]⟩ : ByteArray)).bind fun t434 => grd ((0 : Int) ≤ a1 ∧ a1 < (3 : Int)) ((name_may.l0 k a0 a1 t430 t432 t434 k 0).bind (fall fun (p437 : Int × Bool) => cond (!decide (a0 = (⟨#[]⟩ : ByteArray))) (some (decide ((a0.size : Int) ≤ 16))) (some false)))
/-! internal/bytealg.Cutover: function 104 -/
def bytealg_Cutover.f (a0 : Int) : Option (Int) := some (w64 ((w64 (a0 + 16)).tdiv 8))
/-! internal/stringslite.Index: function 101 -/
def stringslite_Index.f (a0 : ByteArray) (a1 : ByteArray) : Option (Int) := cond ((a1.size : Int) == 0) (some 0) (cond (decide (a1 = a0)) (some 0) (cond ((a1.size : Int) == 1) (grd ((0 : Int) ≤ 0 ∧ 0 < (a1.size : Int)) ((stringslite_IndexByte.f a0 (bt a1 0)).bind fun t454 => some t454)) (cond (decide ((a0.size : Int) ≤ (a1.size : Int))) (some (-1)) (none))))
/-! internal/stringslite.Cut: function 96 -/
def stringslite_Cut.f (a0 : ByteArray) (a1 : ByteArray) : Option (ByteArray × ByteArray × Bool) := (stringslite_Index.f a0 a1).bind fun t457 => cond (decide (0 ≤ t457)) (grd ((0 : Int) ≤ t457 ∧ 0 ≤ t457.toNat ∧ t457.toNat ≤ a0.size) (grd ((0 : Int) ≤ (w64 (t457 + (a1.size : Int))) ∧ (w64 (t457 + (a1.size : Int))).toNat ≤ a0.size ∧ a0.size ≤ a0.size) (some (a0.extract 0 t457.toNat, a0.extract (w64 (t457 + (a1.size : Int))).toNat a0.size, true)))) (some (a0, (⟨#[]⟩ : ByteArray), false))
/-! strings.Cut: function 92 -/
def strings_Cut.f (a0 : ByteArray) (a1 : ByteArray) : Option (ByteArray × ByteArray × Bool) := (stringslite_Cut.f a0 a1).bind fun t462 => some (t462.1, t462.2.1, t462.2.2)
/-! concourse/name.Server: function 93 -/
def name_Server.f (k : Nat) (a0 : ByteArray) : Option (Bool) := (name_may.f k a0 1).bind fun t464 => cond t464 (grd ((0 : Int) ≤ 0 ∧ 0 < (a0.size : Int)) ((name_small.f (bt a0 0)).bind fun t468 => cond t468 (grd ((0 : Int) ≤ (w64 ((a0.size : Int) - 1)) ∧ (w64 ((a0.size : Int) - 1)) < (a0.size : Int)) ((name_small.f (bt a0 (w64 ((a0.size : Int) - 1)))).bind fun t472 => some t472)) (some false))) (some false)
/-! concourse/name.split: function 83 -/
def name_split.f (k : Nat) (a0 : ByteArray) (a1 : ByteArray) : Option (ByteArray × ByteArray × Bool) := (strings_CutPrefix.f a0 a1).bind fun t474 => (strings_Cut.f t474.1 (⟨#[58]⟩ : ByteArray)).bind fun t476 => cond t474.2 (cond t476.2.2 ((name_may.f k t476.1 0).bind fun t480 => cond t480 ((name_Server.f k t476.2.1).bind fun t483 => some (t476.1, t476.2.1, t483)) (some (t476.1, t476.2.1, false))) (some (t476.1, t476.2.1, false))) (some (t476.1, t476.2.1, false))
/-! concourse/name.Room: function 78 -/
def name_Room.f (k : Nat) (a0 : ByteArray) : Option (Bool) := (name_split.f k a0 (⟨#[33]⟩ : ByteArray)).bind fun t485 => some t485.2.2
/-! concourse/name.Event: function 79 -/
def name_Event.f (k : Nat) (a0 : ByteArray) : Option (Bool) := (strings_CutPrefix.f a0 (⟨#[36]⟩ : ByteArray)).bind fun t487 => cond t487.2 ((name_may.f k t487.1 2).bind fun t490 => some t490) (some false)
/-! concourse/name.Thread: function 80 -/
def name_Thread.f (k : Nat) (a0 : ByteArray) : Option (Bool) := cond (decide (a0 = (⟨#[]⟩ : ByteArray))) (some true) (cond (decide (a0 = (⟨#[109, 97, 105, 110]⟩ : ByteArray))) (some true) ((name_Event.f k a0).bind fun t494 => some t494))
/-! concourse/edu.asks$3: function 77 -/
def edu_asks_3.f (k : Nat) (a0 : Edu) : Option (Bool) := (name_Room.f k a0.fRoom).bind fun t497 => cond t497 ((name_Event.f k a0.fEvent).bind fun t500 => cond t500 ((name_Thread.f k a0.fThread).bind fun t503 => some t503) (some false)) (some false)
/-! concourse/edu.asks$4: function 81 -/
def edu_asks_4.f (k : Nat) (a0 : Edu) (c0 : Int → Int → Int → Option Bool) : Option (Bool) := (name_Room.f k a0.fRoom).bind fun t506 => cond t506 (cond (!a0.fOn) (some true) ((c0 a0.fSpan 1 60).bind fun t510 => some t510)) (some false)
/-! concourse/edu.asks$5: function 82 -/
def edu_asks_5.f (a0 : Edu) (c0 : Int → Int → Int → Option Bool) : Option (Bool) := (c0 a0.fState 0 2).bind fun t513 => some t513
/-! concourse/edu.asks: function 61 -/
def edu_asks.f (k : Nat) : Option ((List (Edu → Option Bool))) := some ([edu_asks_2.f, edu_asks_3.f k, fun a0_ => edu_asks_4.f k a0_ edu_asks_1.f, fun a0_ => edu_asks_5.f a0_ edu_asks_1.f] : List (Edu → Option Bool))
/-! concourse/edu.Local$1: function 62 -/
def edu_Local_1.f (a0 : Int) : Option (Bool) := cond (decide (0 ≤ a0)) (some (decide (a0 ≤ 1099511627776))) (some false)
/-! concourse/edu.named: function 63 -/
def edu_named.f (a0 : Edu) : Option (Edu) := cond (a0.fKind == 1) (some (⟨a0.fKind, a0.fRoom, a0.fUser, a0.fEvent, a0.fThread, a0.fPrivate, false, 0, 0, a0.fTick, a0.fStamp⟩ : Edu)) (cond (a0.fKind == 2) (cond a0.fOn (some (⟨a0.fKind, a0.fRoom, a0.fUser, (⟨#[]⟩ : ByteArray), (⟨#[]⟩ : ByteArray), false, a0.fOn, a0.fSpan, 0, a0.fTick, a0.fStamp⟩ : Edu)) (some (⟨a0.fKind, a0.fRoom, a0.fUser, (⟨#[]⟩ : ByteArray), (⟨#[]⟩ : ByteArray), false, a0.fOn, 0, 0, a0.fTick, a0.fStamp⟩ : Edu))) (cond (a0.fKind == 3) (some (⟨a0.fKind, (⟨#[]⟩ : ByteArray), a0.fUser, (⟨#[]⟩ : ByteArray), (⟨#[]⟩ : ByteArray), false, false, 0, a0.fState, a0.fTick, a0.fStamp⟩ : Edu)) (some (⟨a0.fKind, (⟨#[]⟩ : ByteArray), a0.fUser, (⟨#[]⟩ : ByteArray), (⟨#[]⟩ : ByteArray), false, false, 0, 0, a0.fTick, a0.fStamp⟩ : Edu))))
/-! concourse/name.User: function 64 -/
def name_User.f (k : Nat) (a0 : ByteArray) : Option (Bool) := (name_split.f k a0 (⟨#[64]⟩ : ByteArray)).bind fun t524 => some t524.2.2
/-! concourse/edu.Local: function 42 -/
def edu_Local.f (k : Nat) (a0 : Edu) : Option (Bool) := cond (decide (a0.fKind < 0)) (some false) (cond (decide (3 < a0.fKind)) (some false) ((edu_asks.f k).bind fun t531 => grd ((0 : Int) ≤ a0.fKind ∧ a0.fKind < (t531.length : Int)) (((fK60.at t531 a0.fKind) a0).bind fun t534 => cond (!t534) (some false) ((edu_named.f a0).bind fun t537 => cond (decide (a0 = t537)) ((name_User.f k a0.fUser).bind fun t540 => cond t540 ((edu_Local_1.f a0.fTick).bind fun t543 => cond t543 ((edu_Local_1.f a0.fStamp).bind fun t546 => some t546) (some false)) (some false)) (some false)))))
/-! concourse/edu.May: function 28 -/
def edu_May.f (k : Nat) (a0 : Edu) : Option (Bool) := (edu_Local.f k a0).bind fun t549 => cond t549 (some (!a0.fPrivate)) (some false)
/-! slices.BinarySearchFunc[[]concourse/api.Edu,concourse/api.Edu,concourse/api.Edu]: function 43 -/
def slices_BinarySearchFunc.l0 (k : Nat) (a0 : List Edu) (a1 : Edu) (a2 : Edu → Edu → Option Int) : Nat → Int → Int → Option (Int × Int × Bool)
  | 0, _, _ => none
  | j565 + 1, x558, x559 => cond (decide (x558 < x559)) (grd ((0 : Int) ≤ (w64 ((IntKind.u64.wrap (w64 (x558 + x559))).fdiv 2)) ∧ (w64 ((IntKind.u64.wrap (w64 (x558 + x559))).fdiv 2)) < (a0.length : Int)) ((a2 (Edu.K.at a0 (w64 ((IntKind.u64.wrap (w64 (x558 + x559))).fdiv 2))) a1).bind fun t562 => cond (decide (t562 < 0)) (slices_BinarySearchFunc.l0 k a0 a1 a2 j565 (w64 ((w64 ((IntKind.u64.wrap (w64 (x558 + x559))).fdiv 2)) + 1)) x559) (slices_BinarySearchFunc.l0 k a0 a1 a2 j565 x558 (w64 ((IntKind.u64.wrap (w64 (x558 + x559))).fdiv 2))))) (some (x558, x559, decide (x558 < x559)))
def slices_BinarySearchFunc.f (k : Nat) (a0 : List Edu) (a1 : Edu) (a2 : Edu → Edu → Option Int) : Option (Int × Bool) := (slices_BinarySearchFunc.l0 k a0 a1 a2 k 0 (a0.length : Int)).bind fun (p553 : Int × Int × Bool) => cond (decide (p553.1 < (a0.length : Int))) (grd ((0 : Int) ≤ p553.1 ∧ p553.1 < (a0.length : Int)) ((a2 (Edu.K.at a0 p553.1) a1).bind fun t556 => some (p553.1, (t556 == 0)))) (some (p553.1, false))
/-! cmp.Or[int]: function 45 -/
def cmp_Or.l0 (k : Nat) (a0 : List Int) : Nat → Int → Option ((Int × Bool) ⊕ (Int))
  | 0, _ => none
  | j572 + 1, x568 => cond (decide (x568 < (a0.length : Int))) (grd ((0 : Int) ≤ x568 ∧ x568 < (a0.length : Int)) (cond (((intK .i64).at a0 x568) != 0) (some (.inr ((intK .i64).at a0 x568))) (cmp_Or.l0 k a0 j572 (w64 (x568 + 1))))) (some (.inl (x568, decide (x568 < (a0.length : Int)))))
def cmp_Or.f (k : Nat) (a0 : List Int) : Option (Int) := (cmp_Or.l0 k a0 k 0).bind (fall fun (p567 : Int × Bool) => some 0)
/-! cmp.isNaN[string]: function 65 -/
def cmp_isNaN.f (a0 : ByteArray) : Option (Bool) := some (!decide (a0 = a0))
/-! cmp.Compare[string]: function 46 -/
def cmp_Compare.f (a0 : ByteArray) (a1 : ByteArray) : Option (Int) := (cmp_isNaN.f a0).bind fun t574 => (cmp_isNaN.f a1).bind fun t576 => cond t574 (cond t576 (some 0) (some (-1))) (cond t576 (some 1) (cond (sLt a0 a1) (some (-1)) (cond (sLt a1 a0) (some 1) (some 0))))
/-! (*concourse/typing.Table).place$1: function 44 -/
def typing_Table_place_1.f (k : Nat) (a0 : Edu) (a1 : Edu) : Option (Int) := (cmp_Compare.f a0.fRoom a1.fRoom).bind fun t585 => (cmp_Compare.f a0.fUser a1.fUser).bind fun t587 => (cmp_Or.f k ([t585, t587] : List Int)).bind fun t589 => some t589
/-! (*concourse/typing.Table).place: function 29 -/
def typing_Table_place.f (k : Nat) (a0 : TTab) (a1 : Edu) : Option (Int × Bool) := (slices_BinarySearchFunc.f k a0.fl a1 (typing_Table_place_1.f k)).bind fun t592 => some (t592.1, t592.2)
/-! concourse/edu.Of: function 47 -/
def edu_Of.f (a0 : Edu) : Option (EKey) := some (⟨a0.fKind, a0.fRoom, a0.fUser, a0.fThread, a0.fPrivate⟩ : EKey)
/-! cmp.isNaN[int]: function 84 -/
def cmp_isNaN_84.f (a0 : Int) : Option (Bool) := some (a0 != a0)
/-! cmp.Compare[int]: function 66 -/
def cmp_Compare_66.f (a0 : Int) (a1 : Int) : Option (Int) := (cmp_isNaN_84.f a0).bind fun t596 => (cmp_isNaN_84.f a1).bind fun t598 => cond t596 (cond t598 (some 0) (some (-1))) (cond t598 (some 1) (cond (decide (a0 < a1)) (some (-1)) (cond (decide (a1 < a0)) (some 1) (some 0))))
/-! bytes.Compare: function 67 -/
def bytes_Compare.f (a0 : List Int) (a1 : List Int) : Option (Int) := some (cmpB a0 a1)
/-! concourse/lay.Number: function 86 -/
def lay_Number.l0 (k : Nat) : Nat → Int → List Int → Option (Int × Bool × (List Int))
  | 0, _, _ => none
  | j617 + 1, x611, x612 => cond (decide (128 ≤ x611)) (grd (x612.length + ([IntKind.u8.wrap (w64 ((x611.tmod 128) + 128))] : List Int).length ≤ 9223372036854775807 ∧ (x612.length + ([IntKind.u8.wrap (w64 ((x611.tmod 128) + 128))] : List Int).length) * 1 ≤ 140737488355328) (lay_Number.l0 k j617 (w64 (x611.tdiv 128)) (x612 ++ ([IntKind.u8.wrap (w64 ((x611.tmod 128) + 128))] : List Int)))) (some (x611, decide (128 ≤ x611), x612))
def lay_Number.f (k : Nat) (a0 : List Int) (a1 : Int) : Option ((List Int)) := grd ((0 : Int) ≤ (a0.length : Int) ∧ 0 ≤ (a0.length : Int).toNat ∧ (a0.length : Int).toNat ≤ a0.length) ((lay_Number.l0 k k (max a1 0) ((a0.take ((a0.length : Int).toNat)).drop 0)).bind fun (p607 : Int × Bool × (List Int)) => grd (p607.2.2.length + ([IntKind.u8.wrap (p607.1)] : List Int).length ≤ 9223372036854775807 ∧ (p607.2.2.length + ([IntKind.u8.wrap (p607.1)] : List Int).length) * 1 ≤ 140737488355328) (some (p607.2.2 ++ ([IntKind.u8.wrap (p607.1)] : List Int))))
/-! concourse/lay.Text: function 87 -/
def lay_Text.f (k : Nat) (a0 : List Int) (a1 : ByteArray) : Option ((List Int)) := (lay_Number.f k a0 (a1.size : Int)).bind fun t620 => grd (t620.length + (strBs a1).length ≤ 9223372036854775807 ∧ (t620.length + (strBs a1).length) * 1 ≤ 140737488355328) (some (t620 ++ (strBs a1)))
/-! concourse/lay.Flag: function 88 -/
def lay_Flag.f (k : Nat) (a0 : List Int) (a1 : Bool) : Option ((List Int)) := cond a1 ((lay_Number.f k a0 1).bind fun t626 => some t626) ((lay_Number.f k a0 0).bind fun t629 => some t629)
/-! concourse/edu.laid: function 68 -/
def edu_laid.l0 (k : Nat) (a0 : Edu) : Nat → Int → List Int → Option (Int × Bool × (List Int))
  | 0, _, _ => none
  | j651 + 1, x643, x644 => cond (decide (x643 < (([a0.fSpan, a0.fState, a0.fTick, a0.fStamp] : List Int).length : Int))) (grd ((0 : Int) ≤ x643 ∧ x643 < (([a0.fSpan, a0.fState, a0.fTick, a0.fStamp] : List Int).length : Int)) ((lay_Number.f k x644 ((intK .i64).at ([a0.fSpan, a0.fState, a0.fTick, a0.fStamp] : List Int) x643)).bind fun t648 => edu_laid.l0 k a0 j651 (w64 (x643 + 1)) t648)) (some (x643, decide (x643 < (([a0.fSpan, a0.fState, a0.fTick, a0.fStamp] : List Int).length : Int)), x644))
def edu_laid.l1 (k : Nat) (a0 : Edu) : Nat → Int → List Int → Option (Int × Bool × (List Int))
  | 0, _, _ => none
  | j662 + 1, x654, x655 => cond (decide (x654 < (([a0.fRoom, a0.fUser, a0.fEvent, a0.fThread] : List ByteArray).length : Int))) (grd ((0 : Int) ≤ x654 ∧ x654 < (([a0.fRoom, a0.fUser, a0.fEvent, a0.fThread] : List ByteArray).length : Int)) ((lay_Text.f k x655 (strK.at ([a0.fRoom, a0.fUser, a0.fEvent, a0.fThread] : List ByteArray) x654)).bind fun t659 => edu_laid.l1 k a0 j662 (w64 (x654 + 1)) t659)) (some (x654, decide (x654 < (([a0.fRoom, a0.fUser, a0.fEvent, a0.fThread] : List ByteArray).length : Int)), x655))
def edu_laid.f (k : Nat) (a0 : Edu) : Option ((List Int)) := (lay_Number.f k ([] : List Int) a0.fKind).bind fun t633 => (edu_laid.l1 k a0 k 0 t633).bind fun (p636 : Int × Bool × (List Int)) => (lay_Flag.f k p636.2.2 a0.fOn).bind fun t638 => (edu_laid.l0 k a0 k 0 t638).bind fun (p641 : Int × Bool × (List Int)) => some p641.2.2
/-! concourse/edu.Compare: function 48 -/
def edu_Compare.f (k : Nat) (a0 : Edu) (a1 : Edu) : Option (Int) := (cmp_Compare_66.f a0.fStamp a1.fStamp).bind fun t667 => (edu_laid.f k a0).bind fun t669 => (edu_laid.f k a1).bind fun t672 => (bytes_Compare.f t669 t672).bind fun t675 => (cmp_Or.f k ([t667, t675] : List Int)).bind fun t677 => some t677
/-! concourse/edu.Later: function 30 -/
def edu_Later.f (k : Nat) (a0 : Edu) (a1 : Edu) : Option (Bool) := (edu_Of.f a0).bind fun t681 => (edu_Of.f a1).bind fun t683 => cond (decide (t681 = t683)) ((edu_Compare.f k a0 a1).bind fun t686 => some (decide (0 < t686))) (some false)
/-! slices.Insert[[]concourse/api.Edu,concourse/api.Edu] -/
def slices_Insert.f (xs : List Edu) (i : Int) (ys : List Edu) : Option (List Edu) := grd ((0 : Int) ≤ i ∧ i ≤ (xs.length : Int) ∧ 0 < ys.length ∧ xs.length + ys.length ≤ 4611686018427387904 ∧ (xs.length + ys.length) * 112 ≤ 140737488355328) (some (xs.take i.toNat ++ ys ++ xs.drop i.toNat))
/-! (*concourse/heap.Heap).set: function 51 -/
def heap_Heap_set.f (a0 : HHeap) (a1 : Int) (a2 : HEnt) : Option (HHeap) := grd ((0 : Int) ≤ a1 ∧ a1 < (a0.fl.length : Int)) (some (⟨a0.fl.set a1.toNat a2, mput a0.fat a2.fKey a1⟩ : HHeap))
/-! concourse/heap.ahead: function 70 -/
def heap_ahead.f (k : Nat) (a0 : HEnt) (a1 : HEnt) : Option (Int) := (cmp_Compare_66.f a0.fAt a1.fAt).bind fun t700 => (cmp_Compare.f a0.fKey a1.fKey).bind fun t702 => (cmp_Or.f k ([t700, t702] : List Int)).bind fun t704 => some t704
/-! (*concourse/heap.Heap).down: function 52 -/
def heap_Heap_down.l0 (k : Nat) (a0 : HHeap) (a1 : Int) : Nat → Int → HHeap → Option (Int × Int × Bool × Bool × HHeap)
  | 0, _, _ => none
  | j741 + 1, x714, x715 => (cond (decide ((w64 ((w64 ((w64 (2 * x714)) + 1)) + 1)) < (x715.fl.length : Int))) (grd ((0 : Int) ≤ (w64 ((w64 ((w64 (2 * x714)) + 1)) + 1)) ∧ (w64 ((w64 ((w64 (2 * x714)) + 1)) + 1)) < (x715.fl.length : Int)) (grd ((0 : Int) ≤ (w64 ((w64 (2 * x714)) + 1)) ∧ (w64 ((w64 (2 * x714)) + 1)) < (x715.fl.length : Int)) ((heap_ahead.f k (x715.fl.getD ((w64 ((w64 ((w64 (2 * x714)) + 1)) + 1)).toNat) default) (x715.fl.getD ((w64 ((w64 (2 * x714)) + 1)).toNat) default)).bind fun t737 => cond (decide (t737 < 0)) (some (w64 ((w64 ((w64 (2 * x714)) + 1)) + 1), decide (t737 < 0))) (some (w64 ((w64 (2 * x714)) + 1), decide (t737 < 0)))))) (some (w64 ((w64 (2 * x714)) + 1), false))).bind fun (p716 : Int × Bool) => cond (decide ((x715.fl.length : Int) ≤ p716.1)) (some (x714, p716.1, p716.2, true, x715)) (grd ((0 : Int) ≤ p716.1 ∧ p716.1 < (x715.fl.length : Int)) ((heap_ahead.f k (a0.fl.getD a1.toNat default) (x715.fl.getD p716.1.toNat default)).bind fun t723 => cond (decide (t723 < 0)) (some (x714, p716.1, p716.2, decide (t723 < 0), x715)) (grd ((0 : Int) ≤ p716.1 ∧ p716.1 < (x715.fl.length : Int)) ((heap_Heap_set.f x715 x714 (x715.fl.getD p716.1.toNat default)).bind fun t728 => heap_Heap_down.l0 k a0 a1 j741 p716.1 t728))))
def heap_Heap_down.f (k : Nat) (a0 : HHeap) (a1 : Int) : Option (HHeap) := grd ((0 : Int) ≤ a1 ∧ a1 < (a0.fl.length : Int)) ((heap_Heap_down.l0 k a0 a1 k a1 a0).bind fun (p711 : Int × Int × Bool × Bool × HHeap) => (heap_Heap_set.f p711.2.2.2.2 p711.1 (a0.fl.getD a1.toNat default)).bind fun t712 => some t712)
/-! (*concourse/heap.Heap).up: function 53 -/
def heap_Heap_up.l0 (k : Nat) (a0 : HHeap) (a1 : Int) : Nat → Int → HHeap → Option (Int × Bool × HHeap)
  | 0, _, _ => none
  | j766 + 1, x751, x752 => cond (decide (0 < x751)) (grd ((0 : Int) ≤ (w64 ((w64 (x751 - 1)).tdiv 2)) ∧ (w64 ((w64 (x751 - 1)).tdiv 2)) < (x752.fl.length : Int)) ((heap_ahead.f k (a0.fl.getD a1.toNat default) (x752.fl.getD ((w64 ((w64 (x751 - 1)).tdiv 2)).toNat) default)).bind fun t758 => cond (decide (t758 < 0)) (grd ((0 : Int) ≤ (w64 ((w64 (x751 - 1)).tdiv 2)) ∧ (w64 ((w64 (x751 - 1)).tdiv 2)) < (x752.fl.length : Int)) ((heap_Heap_set.f x752 x751 (x752.fl.getD ((w64 ((w64 (x751 - 1)).tdiv 2)).toNat) default)).bind fun t763 => heap_Heap_up.l0 k a0 a1 j766 (w64 ((w64 (x751 - 1)).tdiv 2)) t763)) (some (x751, decide (t758 < 0), x752)))) (some (x751, false, x752))
def heap_Heap_up.f (k : Nat) (a0 : HHeap) (a1 : Int) : Option (HHeap) := grd ((0 : Int) ≤ a1 ∧ a1 < (a0.fl.length : Int)) ((heap_Heap_up.l0 k a0 a1 k a1 a0).bind fun (p748 : Int × Bool × HHeap) => (heap_Heap_set.f p748.2.2 p748.1 (a0.fl.getD a1.toNat default)).bind fun t749 => some t749)
/-! (*concourse/heap.Heap).Drop: function 32 -/
def heap_Heap_Drop.f (k : Nat) (a0 : HHeap) (a1 : ByteArray) : Option (Bool × HHeap) := cond (!((mget a0.fat a1).isSome)) (some (false, a0)) (grd ((0 : Int) ≤ (w64 ((a0.fl.length : Int) - 1)) ∧ (w64 ((a0.fl.length : Int) - 1)) < (a0.fl.length : Int)) (grd ((0 : Int) ≤ (w64 ((a0.fl.length : Int) - 1)) ∧ 0 ≤ (w64 ((a0.fl.length : Int) - 1)).toNat ∧ (w64 ((a0.fl.length : Int) - 1)).toNat ≤ a0.fl.length) (cond (decide (((mget a0.fat a1).getD 0) < (w64 ((a0.fl.length : Int) - 1)))) ((heap_Heap_set.f (⟨(a0.fl.take ((w64 ((a0.fl.length : Int) - 1)).toNat)).drop 0, mdel a0.fat a1⟩ : HHeap) ((mget a0.fat a1).getD 0) (a0.fl.getD ((w64 ((a0.fl.length : Int) - 1)).toNat) default)).bind fun t777 => (heap_Heap_down.f k t777 ((mget a0.fat a1).getD 0)).bind fun t779 => (heap_Heap_up.f k t779 ((mget t779.fat ((a0.fl.getD ((w64 ((a0.fl.length : Int) - 1)).toNat) default).fKey)).getD 0)).bind fun t783 => some (true, t783)) (some (true, (⟨(a0.fl.take ((w64 ((a0.fl.length : Int) - 1)).toNat)).drop 0, mdel a0.fat a1⟩ : HHeap))))))
/-! (*concourse/heap.Heap).Put: function 33 -/
def heap_Heap_Put.f (k : Nat) (a0 : HHeap) (a1 : Int) (a2 : ByteArray) : Option (HHeap) := (heap_Heap_Drop.f k a0 a2).bind fun t785 => grd (t785.2.fl.length + ([(⟨a1, a2⟩ : HEnt)] : List HEnt).length ≤ 9223372036854775807 ∧ (t785.2.fl.length + ([(⟨a1, a2⟩ : HEnt)] : List HEnt).length) * 24 ≤ 140737488355328) ((heap_Heap_up.f k (⟨t785.2.fl ++ ([(⟨a1, a2⟩ : HEnt)] : List HEnt), t785.2.fat⟩ : HHeap) (w64 (((t785.2.fl ++ ([(⟨a1, a2⟩ : HEnt)] : List HEnt)).length : Int) - 1))).bind fun t791 => some t791)
/-! concourse/typing.end: function 34 -/
def typing_end.f (a0 : Edu) : Option (Int) := some (w64 (a0.fTick + a0.fSpan))
/-! (*concourse/typing.Table).Put: function 10 -/
def typing_Table_Put.f (k : Nat) (a0 : TTab) (a1 : Edu) : Option (Bool × Int × TTab) := cond (a1.fKind != 2) (some (false, 1, a0)) ((edu_May.f k a1).bind fun t797 => cond (!t797) (some (false, 1, a0)) ((typing_Table_place.f k a0 a1).bind fun t802 => (cond t802.2 (grd ((0 : Int) ≤ t802.1 ∧ t802.1 < (a0.fl.length : Int)) (cond (decide (a0.fl.getD t802.1.toNat default = a1)) (some (.inr (false, 0, a0))) (grd ((0 : Int) ≤ t802.1 ∧ t802.1 < (a0.fl.length : Int)) ((edu_Later.f k a1 (a0.fl.getD t802.1.toNat default)).bind fun t823 => cond (!t823) (some (.inr (false, 0, a0))) (grd ((0 : Int) ≤ t802.1 ∧ t802.1 < (a0.fl.length : Int)) (some (.inl (true, !t823, true, (⟨a0.fl.set t802.1.toNat a1, a0.fends⟩ : TTab))))))))) ((slices_Insert.f a0.fl t802.1 ([a1] : List Edu)).bind fun t831 => some (.inl (false, false, false, (⟨t831, a0.fends⟩ : TTab))))).bind (fall fun (p804 : Bool × Bool × Bool × TTab) => grd (a1.fRoom.size + (⟨#[32]⟩ : ByteArray).size ≤ 9223372036854775807) (grd ((a1.fRoom ++ (⟨#[32]⟩ : ByteArray)).size + a1.fUser.size ≤ 9223372036854775807) ((heap_Heap_Drop.f k p804.2.2.2.fends ((a1.fRoom ++ (⟨#[32]⟩ : ByteArray)) ++ a1.fUser)).bind fun t809 => cond a1.fOn ((typing_end.f a1).bind fun t812 => (heap_Heap_Put.f k t809.2 t812 ((a1.fRoom ++ (⟨#[32]⟩ : ByteArray)) ++ a1.fUser)).bind fun t814 => some (true, 0, (⟨p804.2.2.2.fl, t814⟩ : TTab))) (some (true, 0, (⟨p804.2.2.2.fl, t809.2⟩ : TTab))))))))
/-! concourse/concourseref01.Few: function 11 -/
def concourseref01_Few.f (a0 : ByteArray) (a1 : Int) : Option (ByteArray) := cond (decide (a1 < (a0.size : Int))) (grd ((0 : Int) ≤ a1 ∧ 0 ≤ a1.toNat ∧ a1.toNat ≤ a0.size) (some (a0.extract 0 a1.toNat))) (some a0)
/-! concourse/concourseref01.SameTexts: function 14 -/
def concourseref01_SameTexts.l0 (k : Nat) (a0 : List ByteArray) (a1 : List ByteArray) : Nat → Int → Option ((Int × Bool) ⊕ (Bool))
  | 0, _ => none
  | j843 + 1, x838 => cond (decide (x838 < (a0.length : Int))) (grd ((0 : Int) ≤ x838 ∧ x838 < (a0.length : Int)) (grd ((0 : Int) ≤ x838 ∧ x838 < (a1.length : Int)) (cond (!decide ((strK.at a0 x838) = (strK.at a1 x838))) (some (.inr false)) (concourseref01_SameTexts.l0 k a0 a1 j843 (w64 (x838 + 1)))))) (some (.inl (x838, decide (x838 < (a0.length : Int)))))
def concourseref01_SameTexts.f (k : Nat) (a0 : List ByteArray) (a1 : List ByteArray) : Option (Bool) := cond ((a0.length : Int) != (a1.length : Int)) (some false) ((concourseref01_SameTexts.l0 k a0 a1 k 0).bind (fall fun (p837 : Int × Bool) => some true))
/-! (*concourse/typing.Table).Types: function 17 -/
def typing_Table_Types.f (k : Nat) (a0 : TTab) (a1 : ByteArray) (a2 : ByteArray) (a3 : Int) : Option (Bool) := (typing_Table_place.f k a0 (⟨0, a1, a2, (⟨#[]⟩ : ByteArray), (⟨#[]⟩ : ByteArray), false, false, 0, 0, 0, 0⟩ : Edu)).bind fun t845 => cond t845.2 (grd ((0 : Int) ≤ t845.1 ∧ t845.1 < (a0.fl.length : Int)) (cond ((a0.fl.getD t845.1.toNat default).fOn) (grd ((0 : Int) ≤ t845.1 ∧ t845.1 < (a0.fl.length : Int)) ((typing_end.f (a0.fl.getD t845.1.toNat default)).bind fun t853 => some (decide (a3 < t853)))) (some false))) (some false)
/-! (*concourse/typing.Table).Users: function 15 -/
def typing_Table_Users.l0 (k : Nat) (a0 : TTab) (a1 : ByteArray) (a2 : Int) : Nat → Int → List ByteArray → Option (Int × Bool × (List ByteArray))
  | 0, _, _ => none
  | j871 + 1, x857, x858 => cond (decide (x857 < (a0.fl.length : Int))) (grd ((0 : Int) ≤ x857 ∧ x857 < (a0.fl.length : Int)) (cond (decide (((a0.fl.getD x857.toNat default).fRoom) = a1)) ((typing_Table_Types.f k a0 a1 ((a0.fl.getD x857.toNat default).fUser) a2).bind fun t865 => cond t865 (grd (x858.length + ([(a0.fl.getD x857.toNat default).fUser] : List ByteArray).length ≤ 9223372036854775807 ∧ (x858.length + ([(a0.fl.getD x857.toNat default).fUser] : List ByteArray).length) * 16 ≤ 140737488355328) (typing_Table_Users.l0 k a0 a1 a2 j871 (w64 (x857 + 1)) (x858 ++ ([(a0.fl.getD x857.toNat default).fUser] : List ByteArray)))) (typing_Table_Users.l0 k a0 a1 a2 j871 (w64 (x857 + 1)) x858)) (typing_Table_Users.l0 k a0 a1 a2 j871 (w64 (x857 + 1)) x858))) (some (x857, decide (x857 < (a0.fl.length : Int)), x858))
def typing_Table_Users.f (k : Nat) (a0 : TTab) (a1 : ByteArray) (a2 : Int) : Option ((List ByteArray)) := (typing_Table_Users.l0 k a0 a1 a2 k 0 ([] : List ByteArray)).bind fun (p855 : Int × Bool × (List ByteArray)) => some p855.2.2
/-! concourse/concourseref14.Types: function 18 -/
def concourseref14_Types.l0 (k : Nat) (a0 : TRef) (a1 : ByteArray) (a2 : ByteArray) (a3 : Int) : Nat → Int → Option ((Int × Bool) ⊕ (Bool))
  | 0, _ => none
  | j887 + 1, x876 => cond (decide (x876 < (a0.fL.length : Int))) (grd ((0 : Int) ≤ x876 ∧ x876 < (a0.fL.length : Int)) (cond (decide (((Edu.K.at a0.fL x876).fRoom) = a1)) (grd ((0 : Int) ≤ x876 ∧ x876 < (a0.fL.length : Int)) (cond (decide (((Edu.K.at a0.fL x876).fUser) = a2)) (grd ((0 : Int) ≤ x876 ∧ x876 < (a0.fL.length : Int)) (cond ((Edu.K.at a0.fL x876).fOn) (grd ((0 : Int) ≤ x876 ∧ x876 < (a0.fL.length : Int)) (grd ((0 : Int) ≤ x876 ∧ x876 < (a0.fL.length : Int)) (some (.inr (decide (a3 < (w64 (((Edu.K.at a0.fL x876).fTick) + ((Edu.K.at a0.fL x876).fSpan))))))))) (some (.inr false)))) (concourseref14_Types.l0 k a0 a1 a2 a3 j887 (w64 (x876 + 1))))) (concourseref14_Types.l0 k a0 a1 a2 a3 j887 (w64 (x876 + 1))))) (some (.inl (x876, decide (x876 < (a0.fL.length : Int)))))
def concourseref14_Types.f (k : Nat) (a0 : TRef) (a1 : ByteArray) (a2 : ByteArray) (a3 : Int) : Option (Bool) := (concourseref14_Types.l0 k a0 a1 a2 a3 k 0).bind (fall fun (p875 : Int × Bool) => some false)
/-! concourse/concourseref14.Users: function 16 -/
def concourseref14_Users.l0 (k : Nat) (a0 : TRef) (a1 : ByteArray) (a2 : Int) : Nat → Int → List ByteArray → Option (Int × Bool × (List ByteArray))
  | 0, _, _ => none
  | j906 + 1, x892, x893 => cond (decide (x892 < (a0.fL.length : Int))) (grd ((0 : Int) ≤ x892 ∧ x892 < (a0.fL.length : Int)) ((concourseref14_Types.f k a0 a1 ((Edu.K.at a0.fL x892).fUser) a2).bind fun t897 => grd ((0 : Int) ≤ x892 ∧ x892 < (a0.fL.length : Int)) (cond (decide (((Edu.K.at a0.fL x892).fRoom) = a1)) (cond t897 (grd ((0 : Int) ≤ x892 ∧ x892 < (a0.fL.length : Int)) (grd (x893.length + ([(Edu.K.at a0.fL x892).fUser] : List ByteArray).length ≤ 9223372036854775807 ∧ (x893.length + ([(Edu.K.at a0.fL x892).fUser] : List ByteArray).length) * 16 ≤ 140737488355328) (concourseref14_Users.l0 k a0 a1 a2 j906 (w64 (x892 + 1)) (x893 ++ ([(Edu.K.at a0.fL x892).fUser] : List ByteArray))))) (concourseref14_Users.l0 k a0 a1 a2 j906 (w64 (x892 + 1)) x893)) (concourseref14_Users.l0 k a0 a1 a2 j906 (w64 (x892 + 1)) x893)))) (some (x892, decide (x892 < (a0.fL.length : Int)), x893))
def concourseref14_Users.f (k : Nat) (a0 : TRef) (a1 : ByteArray) (a2 : Int) : Option ((List ByteArray)) := (concourseref14_Users.l0 k a0 a1 a2 k 0 ([] : List ByteArray)).bind fun (p890 : Int × Bool × (List ByteArray)) => some p890.2.2
/-! concourse/concourselaw14.lives: function 20 -/
def concourselaw14_lives.f (k : Nat) : Option (Bool) := (typing_New.f).bind fun t909 => (typing_Table_Put.f k t909 (⟨2, (⟨#[33, 114, 58, 115]⟩ : ByteArray), (⟨#[64, 97, 58, 115]⟩ : ByteArray), (⟨#[]⟩ : ByteArray), (⟨#[]⟩ : ByteArray), false, true, 5, 0, 10, 0⟩ : Edu)).bind fun t913 => cond t913.1 (cond (t913.2.1 == 0) ((typing_Table_Types.f k t913.2.2 (⟨#[33, 114, 58, 115]⟩ : ByteArray) (⟨#[64, 97, 58, 115]⟩ : ByteArray) 14).bind fun t919 => cond t919 ((typing_Table_Types.f k t913.2.2 (⟨#[33, 114, 58, 115]⟩ : ByteArray) (⟨#[64, 97, 58, 115]⟩ : ByteArray) 15).bind fun t922 => some (!t922)) (some false)) (some false)) (some false)
/-! concourse/concourselaw14.TypingUsers: function 3 -/
def concourselaw14_TypingUsers.l2 (k : Nat) (a1 : Int) (p929 : Int × Bool × (List Edu) × (List Bool) × TTab) (t930 : ByteArray) (t932 : Int) (t934 : ByteArray) (t936 : ByteArray) (x941 : Int) (x944 : Int) (t965 : Bool) (t969 : Bool) : Nat → Int → Option ((Int × Bool × Bool) ⊕ ((Int × Bool) ⊕ ((Int × Bool) ⊕ (Bool))))
  | 0, _ => none
  | j987 + 1, x972 => cond (decide (x972 < 9)) ((concourseref01_UserOf.f x972).bind fun t974 => grd ((0 : Int) ≤ x944 ∧ x944 < (([t934, t936, t930] : List ByteArray).length : Int)) (grd ((0 : Int) ≤ x941 ∧ x941 < (([a1, t932] : List Int).length : Int)) ((typing_Table_Types.f k p929.2.2.2.2 (strK.at ([t934, t936, t930] : List ByteArray) x944) t974 ((intK .i64).at ([a1, t932] : List Int) x941)).bind fun t980 => grd ((0 : Int) ≤ x944 ∧ x944 < (([t934, t936, t930] : List ByteArray).length : Int)) (grd ((0 : Int) ≤ x941 ∧ x941 < (([a1, t932] : List Int).length : Int)) ((concourseref14_Types.f k (⟨p929.2.2.1, p929.2.2.2.1⟩ : TRef) (strK.at ([t934, t936, t930] : List ByteArray) x944) t974 ((intK .i64).at ([a1, t932] : List Int) x941)).bind fun t984 => cond (t980 != t984) (some (.inr (.inr (.inr false)))) (concourselaw14_TypingUsers.l2 k a1 p929 t930 t932 t934 t936 x941 x944 t965 t969 j987 (w64 (x972 + 1)))))))) (some (.inl (x972, (t965 != t969), decide (x972 < 9))))
def concourselaw14_TypingUsers.l1 (k : Nat) (a1 : Int) (p929 : Int × Bool × (List Edu) × (List Bool) × TTab) (t930 : ByteArray) (t932 : Int) (t934 : ByteArray) (t936 : ByteArray) (x941 : Int) : Nat → Int → Option ((Int × Bool) ⊕ ((Int × Bool) ⊕ (Bool)))
  | 0, _ => none
  | j989 + 1, x944 => cond (decide (x944 < 3)) ((grd ((0 : Int) ≤ x944 ∧ x944 < (([t934, t936, t930] : List ByteArray).length : Int)) (grd ((0 : Int) ≤ x941 ∧ x941 < (([a1, t932] : List Int).length : Int)) (grd ((0 : Int) ≤ x944 ∧ x944 < (([t934, t936, t930] : List ByteArray).length : Int)) (grd ((0 : Int) ≤ x941 ∧ x941 < (([a1, t932] : List Int).length : Int)) ((typing_Table_Users.f k p929.2.2.2.2 (strK.at ([t934, t936, t930] : List ByteArray) x944) ((intK .i64).at ([a1, t932] : List Int) x941)).bind fun t953 => (concourseref14_Users.f k (⟨p929.2.2.1, p929.2.2.2.1⟩ : TRef) (strK.at ([t934, t936, t930] : List ByteArray) x944) ((intK .i64).at ([a1, t932] : List Int) x941)).bind fun t956 => (concourseref01_SameTexts.f k t953 t956).bind fun t959 => cond (!t959) (some (.inr (.inr (.inr false)))) (grd ((0 : Int) ≤ x944 ∧ x944 < (([t934, t936, t930] : List ByteArray).length : Int)) (grd ((0 : Int) ≤ x941 ∧ x941 < (([a1, t932] : List Int).length : Int)) ((typing_Table_Types.f k p929.2.2.2.2 (strK.at ([t934, t936, t930] : List ByteArray) x944) t930 ((intK .i64).at ([a1, t932] : List Int) x941)).bind fun t965 => grd ((0 : Int) ≤ x944 ∧ x944 < (([t934, t936, t930] : List ByteArray).length : Int)) (grd ((0 : Int) ≤ x941 ∧ x941 < (([a1, t932] : List Int).length : Int)) ((concourseref14_Types.f k (⟨p929.2.2.1, p929.2.2.2.1⟩ : TRef) (strK.at ([t934, t936, t930] : List ByteArray) x944) t930 ((intK .i64).at ([a1, t932] : List Int) x941)).bind fun t969 => cond (t965 != t969) (some (.inr (.inr (.inr false)))) (concourselaw14_TypingUsers.l2 k a1 p929 t930 t932 t934 t936 x941 x944 t965 t969 k 0))))))))))).bind (fall fun (p946 : Int × Bool × Bool) => concourselaw14_TypingUsers.l1 k a1 p929 t930 t932 t934 t936 x941 j989 (w64 (x944 + 1)))) (some (.inl (x944, decide (x944 < 3))))
def concourselaw14_TypingUsers.l0 (k : Nat) (a1 : Int) (p929 : Int × Bool × (List Edu) × (List Bool) × TTab) (t930 : ByteArray) (t932 : Int) (t934 : ByteArray) (t936 : ByteArray) : Nat → Int → Option ((Int × Bool) ⊕ (Bool))
  | 0, _ => none
  | j991 + 1, x941 => cond (decide (x941 < 2)) ((concourselaw14_TypingUsers.l1 k a1 p929 t930 t932 t934 t936 x941 k 0).bind (fall fun (p943 : Int × Bool) => concourselaw14_TypingUsers.l0 k a1 p929 t930 t932 t934 t936 j991 (w64 (x941 + 1)))) (some (.inl (x941, decide (x941 < 2))))
def concourselaw14_TypingUsers.l3 (k : Nat) (a0 : List Edu) : Nat → Int → List Edu → List Bool → TTab → Option (Int × Bool × (List Edu) × (List Bool) × TTab)
  | 0, _, _, _, _ => none
  | j1011 + 1, x993, x994, x995, x996 => cond (decide (x993 < (a0.length : Int))) (cond (decide (x993 < 10)) (grd ((0 : Int) ≤ x993 ∧ x993 < (a0.length : Int)) ((concourseref14_Made.f k (Edu.K.at a0 x993)).bind fun t1000 => (concourseref14_Put.f k (⟨x994, x995⟩ : TRef) t1000).bind fun t1002 => grd ((0 : Int) ≤ x993 ∧ x993 < (a0.length : Int)) ((concourseref14_Made.f k (Edu.K.at a0 x993)).bind fun t1006 => (typing_Table_Put.f k x996 t1006).bind fun t1008 => concourselaw14_TypingUsers.l3 k a0 j1011 (w64 (x993 + 1)) t1002.1.fL t1002.1.fTold t1008.2.2))) (some (x993, decide (x993 < 10), x994, x995, x996))) (some (x993, false, x994, x995, x996))
def concourselaw14_TypingUsers.f (k : Nat) (a0 : List Edu) (a1 : Int) (a2 : ByteArray) : Option (Bool) := (typing_New.f).bind fun t924 => (concourselaw14_TypingUsers.l3 k a0 k 0 ([] : List Edu) ([] : List Bool) t924).bind fun (p929 : Int × Bool × (List Edu) × (List Bool) × TTab) => (concourseref01_Few.f a2 6).bind fun t930 => (concourseref01_Around.f a1 171).bind fun t932 => (concourseref01_RoomOf.f 0).bind fun t934 => (concourseref01_RoomOf.f 1).bind fun t936 => (concourselaw14_TypingUsers.l0 k a1 p929 t930 t932 t934 t936 k 0).bind (fall fun (p938 : Int × Bool) => (concourselaw14_lives.f k).bind fun t939 => some t939)
/-! slices.Clone[[]concourse/api.Edu,concourse/api.Edu] -/
def slices_Clone.f (xs : List Edu) : Option (List Edu) := grd (xs.length ≤ 9223372036854775807 ∧ xs.length * 112 ≤ 140737488355328) (some xs)
/-! (*concourse/typing.Table).All: function 21 -/
def typing_Table_All.f (a0 : TTab) : Option ((List Edu)) := (slices_Clone.f a0.fl).bind fun t1013 => some t1013
/-! concourse/concourselaw14.TypingApart: function 4 -/
def concourselaw14_TypingApart.l0 (k : Nat) (a2 : Int) (t1022 : Edu) (p1025 : Int × Bool × (List Bool)) (t1032 : Bool × Int × TTab) : Nat → Int → Option ((Int × Bool) ⊕ (Bool))
  | 0, _ => none
  | j1068 + 1, x1047 => cond (decide (x1047 < 18)) ((concourseref01_RoomOf.f (w64 (x1047.tdiv 9))).bind fun t1049 => (concourseref01_UserOf.f (x1047.tmod 9)).bind fun t1051 => cond (!decide (t1049 = t1022.fRoom)) ((typing_Table_Types.f k t1032.2.2 t1049 t1051 a2).bind fun t1056 => grd ((0 : Int) ≤ x1047 ∧ x1047 < (p1025.2.2.length : Int)) (cond (t1056 != (p1025.2.2.getD x1047.toNat default)) (some (.inr false)) (concourselaw14_TypingApart.l0 k a2 t1022 p1025 t1032 j1068 (w64 (x1047 + 1))))) (cond (!decide (t1051 = t1022.fUser)) ((typing_Table_Types.f k t1032.2.2 t1049 t1051 a2).bind fun t1062 => grd ((0 : Int) ≤ x1047 ∧ x1047 < (p1025.2.2.length : Int)) (cond (t1062 != (p1025.2.2.getD x1047.toNat default)) (some (.inr false)) (concourselaw14_TypingApart.l0 k a2 t1022 p1025 t1032 j1068 (w64 (x1047 + 1))))) (concourselaw14_TypingApart.l0 k a2 t1022 p1025 t1032 j1068 (w64 (x1047 + 1))))) (some (.inl (x1047, decide (x1047 < 18))))
def concourselaw14_TypingApart.l1 (k : Nat) (a2 : Int) (p1021 : Int × Bool × TTab) : Nat → Int → List Bool → Option (Int × Bool × (List Bool))
  | 0, _, _ => none
  | j1084 + 1, x1070, x1071 => cond (decide (x1070 < 18)) ((concourseref01_RoomOf.f (w64 (x1070.tdiv 9))).bind fun t1074 => (concourseref01_UserOf.f (x1070.tmod 9)).bind fun t1076 => (typing_Table_Types.f k p1021.2.2 t1074 t1076 a2).bind fun t1080 => grd (x1071.length + ([t1080] : List Bool).length ≤ 9223372036854775807 ∧ (x1071.length + ([t1080] : List Bool).length) * 1 ≤ 140737488355328) (concourselaw14_TypingApart.l1 k a2 p1021 j1084 (w64 (x1070 + 1)) (x1071 ++ ([t1080] : List Bool)))) (some (x1070, decide (x1070 < 18), x1071))
def concourselaw14_TypingApart.l2 (k : Nat) (a0 : List Edu) : Nat → Int → TTab → Option (Int × Bool × TTab)
  | 0, _, _ => none
  | j1097 + 1, x1087, x1088 => cond (decide (x1087 < (a0.length : Int))) (cond (decide (x1087 < 8)) (grd ((0 : Int) ≤ x1087 ∧ x1087 < (a0.length : Int)) ((concourseref14_Made.f k (Edu.K.at a0 x1087)).bind fun t1092 => (typing_Table_Put.f k x1088 t1092).bind fun t1094 => concourselaw14_TypingApart.l2 k a0 j1097 (w64 (x1087 + 1)) t1094.2.2)) (some (x1087, decide (x1087 < 8), x1088))) (some (x1087, false, x1088))
def concourselaw14_TypingApart.f (k : Nat) (a0 : List Edu) (a1 : Edu) (a2 : Int) : Option (Bool) := (typing_New.f).bind fun t1017 => (concourselaw14_TypingApart.l2 k a0 k 0 t1017).bind fun (p1021 : Int × Bool × TTab) => (concourseref14_Made.f k a1).bind fun t1022 => (concourselaw14_TypingApart.l1 k a2 p1021 k 0 ([] : List Bool)).bind fun (p1025 : Int × Bool × (List Bool)) => (typing_Table_All.f p1021.2.2).bind fun t1029 => (typing_Table_Put.f k p1021.2.2 t1022).bind fun t1032 => (concourselaw14_TypingApart.l0 k a2 t1022 p1025 t1032 k 0).bind (fall fun (p1034 : Int × Bool) => (typing_Table_All.f t1032.2.2).bind fun t1037 => cond (decide ((t1029.length : Int) ≤ (t1037.length : Int))) ((typing_Table_All.f t1032.2.2).bind fun t1041 => cond (decide ((t1041.length : Int) ≤ (w64 ((t1029.length : Int) + 1)))) ((concourselaw14_lives.f k).bind fun t1045 => some t1045) (some false)) (some false))
/-! concourse/concourseref04.SameEdus: function 22 -/
def concourseref04_SameEdus.l0 (k : Nat) (a0 : List Edu) (a1 : List Edu) : Nat → Int → Option ((Int × Bool) ⊕ (Bool))
  | 0, _ => none
  | j1106 + 1, x1101 => cond (decide (x1101 < (a0.length : Int))) (grd ((0 : Int) ≤ x1101 ∧ x1101 < (a0.length : Int)) (grd ((0 : Int) ≤ x1101 ∧ x1101 < (a1.length : Int)) (cond (!decide (Edu.K.at a0 x1101 = Edu.K.at a1 x1101)) (some (.inr false)) (concourseref04_SameEdus.l0 k a0 a1 j1106 (w64 (x1101 + 1)))))) (some (.inl (x1101, decide (x1101 < (a0.length : Int)))))
def concourseref04_SameEdus.f (k : Nat) (a0 : List Edu) (a1 : List Edu) : Option (Bool) := cond ((a0.length : Int) != (a1.length : Int)) (some false) ((concourseref04_SameEdus.l0 k a0 a1 k 0).bind (fall fun (p1100 : Int × Bool) => some true))
/-! concourse/concourselaw14.TypingOrder: function 5 -/
def concourselaw14_TypingOrder.l0 (k : Nat) (a0 : List Edu) (a1 : Int) : Nat → Int → TTab → Option (Int × Bool × TTab)
  | 0, _, _ => none
  | j1178 + 1, x1167, x1168 => cond (decide (x1167 < (w64 (2 * (min (a0.length : Int) 10))))) ((concourseref01_Around.f a1 (min (a0.length : Int) 10)).bind fun t1170 => grd ((min (a0.length : Int) 10) ≠ 0) (grd ((0 : Int) ≤ ((w64 (t1170 + x1167)).tmod (min (a0.length : Int) 10)) ∧ ((w64 (t1170 + x1167)).tmod (min (a0.length : Int) 10)) < (a0.length : Int)) ((concourseref14_Made.f k (Edu.K.at a0 ((w64 (t1170 + x1167)).tmod (min (a0.length : Int) 10)))).bind fun t1174 => (typing_Table_Put.f k x1168 t1174).bind fun t1176 => concourselaw14_TypingOrder.l0 k a0 a1 j1178 (w64 (x1167 + 1)) t1176.2.2))) (some (x1167, decide (x1167 < (w64 (2 * (min (a0.length : Int) 10)))), x1168))
def concourselaw14_TypingOrder.l1 (k : Nat) (a0 : List Edu) : Nat → Int → List Edu → List Bool → TTab → TTab → Option (Int × Bool × (List Edu) × (List Bool) × TTab × TTab)
  | 0, _, _, _, _, _ => none
  | j1202 + 1, x1180, x1181, x1182, x1183, x1184 => cond (decide (x1180 < (min (a0.length : Int) 10))) (grd ((0 : Int) ≤ x1180 ∧ x1180 < (a0.length : Int)) ((concourseref14_Made.f k (Edu.K.at a0 x1180)).bind fun t1187 => (concourseref14_Put.f k (⟨x1181, x1182⟩ : TRef) t1187).bind fun t1189 => grd ((0 : Int) ≤ x1180 ∧ x1180 < (a0.length : Int)) ((concourseref14_Made.f k (Edu.K.at a0 x1180)).bind fun t1193 => (typing_Table_Put.f k x1184 t1193).bind fun t1195 => grd ((0 : Int) ≤ (w64 ((w64 ((min (a0.length : Int) 10) - 1)) - x1180)) ∧ (w64 ((w64 ((min (a0.length : Int) 10) - 1)) - x1180)) < (a0.length : Int)) ((concourseref14_Made.f k (Edu.K.at a0 (w64 ((w64 ((min (a0.length : Int) 10) - 1)) - x1180)))).bind fun t1198 => (typing_Table_Put.f k x1183 t1198).bind fun t1200 => concourselaw14_TypingOrder.l1 k a0 j1202 (w64 (x1180 + 1)) t1189.1.fL t1189.1.fTold t1200.2.2 t1195.2.2)))) (some (x1180, decide (x1180 < (min (a0.length : Int) 10)), x1181, x1182, x1183, x1184))
def concourselaw14_TypingOrder.f (k : Nat) (a0 : List Edu) (a1 : Int) (a2 : Int) : Option (Bool) := (typing_New.f).bind fun t1108 => (typing_New.f).bind fun t1111 => (typing_New.f).bind fun t1114 => (concourselaw14_TypingOrder.l1 k a0 k 0 ([] : List Edu) ([] : List Bool) t1111 t1108).bind fun (p1119 : Int × Bool × (List Edu) × (List Bool) × TTab × TTab) => (concourselaw14_TypingOrder.l0 k a0 a1 k 0 t1114).bind fun (p1120 : Int × Bool × TTab) => (concourseref01_RoomOf.f a2).bind fun t1121 => (typing_Table_All.f p1119.2.2.2.2.2).bind fun t1129 => (concourseref04_SameEdus.f k t1129 p1119.2.2.1).bind fun t1132 => cond t1132 ((typing_Table_All.f p1119.2.2.2.2.1).bind fun t1135 => (concourseref04_SameEdus.f k t1135 p1119.2.2.1).bind fun t1138 => cond t1138 ((typing_Table_All.f p1120.2.2).bind fun t1141 => (concourseref04_SameEdus.f k t1141 p1119.2.2.1).bind fun t1144 => cond t1144 ((typing_Table_Users.f k p1119.2.2.2.2.1 t1121 a2).bind fun t1147 => (typing_Table_Users.f k p1119.2.2.2.2.2 t1121 a2).bind fun t1150 => (concourseref01_SameTexts.f k t1147 t1150).bind fun t1153 => cond t1153 ((typing_Table_Users.f k p1120.2.2 t1121 a2).bind fun t1156 => (typing_Table_Users.f k p1119.2.2.2.2.2 t1121 a2).bind fun t1159 => (concourseref01_SameTexts.f k t1156 t1159).bind fun t1162 => cond t1162 ((concourselaw14_lives.f k).bind fun t1165 => some t1165) (some false)) (some false)) (some false)) (some false)) (some false)
/-! (*concourse/heap.Heap).First: function 38 -/
def heap_Heap_First.f (a0 : HHeap) : Option (HEnt × Bool) := cond ((a0.fl.length : Int) == 0) (some ((⟨0, (⟨#[]⟩ : ByteArray)⟩ : HEnt), false)) (grd ((0 : Int) ≤ 0 ∧ 0 < (a0.fl.length : Int)) (some (a0.fl.getD ((0 : Int).toNat) default, true)))
/-! (*concourse/typing.Table).Next: function 24 -/
def typing_Table_Next.f (a0 : TTab) : Option (Int × Bool) := (heap_Heap_First.f a0.fends).bind fun t1212 => some (t1212.1.fAt, t1212.2)
/-! concourse/concourselaw14.TypingStops: function 6 -/
def concourselaw14_TypingStops.f (k : Nat) (a0 : Edu) (a1 : Int) (a2 : Int) (a3 : Int) : Option (Bool) := (concourseref14_Made.f k (⟨a0.fKind, a0.fRoom, a0.fUser, a0.fEvent, a0.fThread, a0.fPrivate, true, a0.fSpan, a0.fState, a0.fTick, a0.fStamp⟩ : Edu)).bind fun t1216 => (concourseref01_Around.f a1 9).bind fun t1219 => (concourseref01_Around.f a2 9).bind fun t1222 => (typing_New.f).bind fun t1224 => (typing_Table_Put.f k t1224 (⟨t1216.fKind, t1216.fRoom, t1216.fUser, t1216.fEvent, t1216.fThread, t1216.fPrivate, t1216.fOn, t1216.fSpan, t1216.fState, t1216.fTick, t1219⟩ : Edu)).bind fun t1228 => (typing_Table_Put.f k t1228.2.2 (⟨t1216.fKind, t1216.fRoom, t1216.fUser, t1216.fEvent, t1216.fThread, t1216.fPrivate, false, 0, t1216.fState, t1216.fTick, t1222⟩ : Edu)).bind fun t1230 => (concourseref03_Compare.f k (⟨t1216.fKind, t1216.fRoom, t1216.fUser, t1216.fEvent, t1216.fThread, t1216.fPrivate, false, 0, t1216.fState, t1216.fTick, t1222⟩ : Edu) (⟨t1216.fKind, t1216.fRoom, t1216.fUser, t1216.fEvent, t1216.fThread, t1216.fPrivate, t1216.fOn, t1216.fSpan, t1216.fState, t1216.fTick, t1219⟩ : Edu)).bind fun t1232 => (typing_Table_Types.f k t1230.2.2 t1216.fRoom t1216.fUser a3).bind fun t1236 => (typing_Table_Next.f t1230.2.2).bind fun t1238 => cond (t1230.2.1 == 0) (cond (t1230.1 == (decide (0 < t1232))) (cond (!(decide (0 < t1232))) (cond (t1236 == (decide (a3 < (w64 (t1216.fTick + t1216.fSpan))))) (cond (t1238.2 == (!(decide (0 < t1232)))) ((typing_Table_All.f t1230.2.2).bind fun t1247 => cond ((t1247.length : Int) == 1) ((concourselaw14_lives.f k).bind fun t1251 => some t1251) (some false)) (some false)) (some false)) (cond (t1236 == false) (cond (t1238.2 == (!(decide (0 < t1232)))) ((typing_Table_All.f t1230.2.2).bind fun t1257 => cond ((t1257.length : Int) == 1) ((concourselaw14_lives.f k).bind fun t1261 => some t1261) (some false)) (some false)) (some false))) (some false)) (some false)
end Go.Proofs.Ytmbodanckhidiaa
