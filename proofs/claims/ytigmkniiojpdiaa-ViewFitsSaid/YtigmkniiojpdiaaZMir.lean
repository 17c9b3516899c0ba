/- The walks. -/
import Derived.Test.YtigmkniiojpdiaaChecked
import Derived.Test.YtigmkniiojpdiaaConY
import Derived.Eval
set_option linter.all false
set_option maxRecDepth 10000
set_option maxHeartbeats 20000000
namespace Go.Proofs.Ytigmkniiojpdiaa
open Go Go.Sp
theorem c24 : Try.prog.cellsOf 24 = 1 := by kernel_rfl
theorem c26 : Try.prog.cellsOf 26 = 1 := by kernel_rfl
theorem c3 : Try.prog.cellsOf 3 = 1 := by kernel_rfl
theorem c36 : Try.prog.cellsOf 36 = 1 := by kernel_rfl
theorem c4 : Try.prog.cellsOf 4 = 1 := by kernel_rfl
theorem c40 : Try.prog.cellsOf 40 = 1 := by kernel_rfl
theorem c42 : Try.prog.cellsOf 42 = 6 := by kernel_rfl
theorem c5 : Try.prog.cellsOf 5 = 1 := by kernel_rfl
theorem c50 : Try.prog.cellsOf 50 = 2 := by kernel_rfl
theorem c54 : Try.prog.cellsOf 54 = 1 := by kernel_rfl
theorem c65 : Try.prog.cellsOf 65 = 1 := by kernel_rfl
theorem c68 : Try.prog.cellsOf 68 = 1 := by kernel_rfl
theorem c70 : Try.prog.cellsOf 70 = 4 := by kernel_rfl
theorem c84 : Try.prog.cellsOf 84 = 1 := by kernel_rfl
theorem c9 : Try.prog.cellsOf 9 = 1 := by kernel_rfl
theorem cal10 : callable Try.prog 10 = true := by kernel_rfl
theorem cal11 : callable Try.prog 11 = true := by kernel_rfl
theorem cal12 : callable Try.prog 12 = true := by kernel_rfl
theorem cal13 : callable Try.prog 13 = true := by kernel_rfl
theorem cal14 : callable Try.prog 14 = true := by kernel_rfl
theorem cal15 : callable Try.prog 15 = true := by kernel_rfl
theorem cal16 : callable Try.prog 16 = true := by kernel_rfl
theorem cal17 : callable Try.prog 17 = true := by kernel_rfl
theorem cal18 : callable Try.prog 18 = true := by kernel_rfl
theorem cal19 : callable Try.prog 19 = true := by kernel_rfl
theorem cal20 : callable Try.prog 20 = true := by kernel_rfl
theorem cal21 : callable Try.prog 21 = true := by kernel_rfl
theorem cal22 : callable Try.prog 22 = true := by kernel_rfl
theorem cal23 : callable Try.prog 23 = true := by kernel_rfl
theorem cal24 : callable Try.prog 24 = true := by kernel_rfl
theorem cal25 : callable Try.prog 25 = true := by kernel_rfl
theorem cal26 : callable Try.prog 26 = true := by kernel_rfl
theorem cal27 : callable Try.prog 27 = true := by kernel_rfl
theorem cal28 : callable Try.prog 28 = true := by kernel_rfl
theorem cal29 : callable Try.prog 29 = true := by kernel_rfl
theorem cal30 : callable Try.prog 30 = true := by kernel_rfl
theorem cal31 : callable Try.prog 31 = true := by kernel_rfl
theorem cal32 : callable Try.prog 32 = true := by kernel_rfl
theorem cal33 : callable Try.prog 33 = true := by kernel_rfl
theorem cal34 : callable Try.prog 34 = true := by kernel_rfl
theorem cal35 : callable Try.prog 35 = true := by kernel_rfl
theorem cal36 : callable Try.prog 36 = true := by kernel_rfl
theorem cal37 : callable Try.prog 37 = true := by kernel_rfl
theorem cal38 : callable Try.prog 38 = true := by kernel_rfl
theorem cal39 : callable Try.prog 39 = true := by kernel_rfl
theorem cal4 : callable Try.prog 4 = true := by kernel_rfl
theorem cal40 : callable Try.prog 40 = true := by kernel_rfl
theorem cal41 : callable Try.prog 41 = true := by kernel_rfl
theorem cal42 : callable Try.prog 42 = true := by kernel_rfl
theorem cal43 : callable Try.prog 43 = true := by kernel_rfl
theorem cal44 : callable Try.prog 44 = true := by kernel_rfl
theorem cal45 : callable Try.prog 45 = true := by kernel_rfl
theorem cal46 : callable Try.prog 46 = true := by kernel_rfl
theorem cal47 : callable Try.prog 47 = true := by kernel_rfl
theorem cal48 : callable Try.prog 48 = true := by kernel_rfl
theorem cal49 : callable Try.prog 49 = true := by kernel_rfl
theorem cal5 : callable Try.prog 5 = true := by kernel_rfl
theorem cal50 : callable Try.prog 50 = true := by kernel_rfl
theorem cal51 : callable Try.prog 51 = true := by kernel_rfl
theorem cal52 : callable Try.prog 52 = true := by kernel_rfl
theorem cal53 : callable Try.prog 53 = true := by kernel_rfl
theorem cal54 : callable Try.prog 54 = true := by kernel_rfl
theorem cal55 : callable Try.prog 55 = true := by kernel_rfl
theorem cal56 : callable Try.prog 56 = true := by kernel_rfl
theorem cal57 : callable Try.prog 57 = true := by kernel_rfl
theorem cal58 : callable Try.prog 58 = true := by kernel_rfl
theorem cal59 : callable Try.prog 59 = true := by kernel_rfl
theorem cal6 : callable Try.prog 6 = true := by kernel_rfl
theorem cal7 : callable Try.prog 7 = true := by kernel_rfl
theorem cal8 : callable Try.prog 8 = true := by kernel_rfl
theorem cal9 : callable Try.prog 9 = true := by kernel_rfl
theorem inf4 : ∃ i, Try.prog.info? 4 = some i ∧ i.size = 1 ∧ i.zero = some (.bool false) ∧ i.bytes = 1 := inf_of (by kernel_rfl) (by kernel_rfl) (by kernel_rfl)
theorem inf42 : ∃ i, Try.prog.info? 42 = some i ∧ i.size = 6 ∧ i.zero = some (.agg #[.string ⟨#[]⟩, .string ⟨#[]⟩, .slice none 0 0, .string ⟨#[]⟩, .string ⟨#[]⟩, .int .i64 0]) ∧ i.bytes = 96 := inf_of (by kernel_rfl) (by kernel_rfl) (by kernel_rfl)
theorem inf50 : ∃ i, Try.prog.info? 50 = some i ∧ i.size = 2 ∧ i.zero = some (.agg #[.string ⟨#[]⟩, .slice none 0 0]) ∧ i.bytes = 40 := inf_of (by kernel_rfl) (by kernel_rfl) (by kernel_rfl)
theorem inf9 : ∃ i, Try.prog.info? 9 = some i ∧ i.size = 1 ∧ i.zero = some (.string ⟨#[]⟩) ∧ i.bytes = 16 := inf_of (by kernel_rfl) (by kernel_rfl) (by kernel_rfl)
theorem pl26 : plcT Try.prog 26 = true := by kernel_rfl
theorem pl42 : plcT Try.prog 42 = true := by kernel_rfl
theorem pl50 : plcT Try.prog 50 = true := by kernel_rfl
theorem pl56 : plcT Try.prog 56 = true := by kernel_rfl
theorem pl63 : plcT Try.prog 63 = true := by kernel_rfl
theorem pl67 : plcT Try.prog 67 = true := by kernel_rfl
theorem xf60 : (Extern.findNext Try.f60).isNone = true := by kernel_rfl
theorem xg60 : Extern.find Try.f60 = some Extern.BytealgIndexByte.indexByte := by rfl
theorem z26 : zer Try.prog 26 = some (.agg #[.slice none 0 0]) := by kernel_rfl
theorem z42 : zer Try.prog 42 = some (.agg #[.string ⟨#[]⟩, .string ⟨#[]⟩, .slice none 0 0, .string ⟨#[]⟩, .string ⟨#[]⟩, .int .i64 0]) := by kernel_rfl
theorem z46 : zer Try.prog 46 = some (.pointer none) := by kernel_rfl
theorem z5 : zer Try.prog 5 = some (.int .u8 0) := by kernel_rfl
theorem z50 : zer Try.prog 50 = some (.agg #[.string ⟨#[]⟩, .slice none 0 0]) := by kernel_rfl
theorem z56 : zer Try.prog 56 = some (.agg #[.map none]) := by kernel_rfl
theorem z63 : zer Try.prog 63 = some (.agg #[.string ⟨#[]⟩, .string ⟨#[]⟩, .slice none 0 0, .string ⟨#[]⟩, .string ⟨#[]⟩, .int .i64 0, .int .i64 0, .bool false]) := by kernel_rfl
theorem z64 : zer Try.prog 64 = some (.pointer none) := by kernel_rfl
theorem z67 : zer Try.prog 67 = some (.agg #[.string ⟨#[]⟩, .map none]) := by kernel_rfl
theorem z87 : zer Try.prog 87 = some (.agg #[.nilFunc, .nilFunc, .nilFunc]) := by kernel_rfl
theorem z9 : zer Try.prog 9 = some (.string ⟨#[]⟩) := by kernel_rfl
structure Event where
  fID : ByteArray
  fRoom : ByteArray
  fParents : List ByteArray
  fThread : ByteArray
  fUser : ByteArray
  fDoes : Int
  deriving DecidableEq, Inhabited
def Event.enc (x : Event) : Cs := [eq (.string x.fID), eq (.string x.fRoom), sl strK x.fParents, eq (.string x.fThread), eq (.string x.fUser), eq (.int .i64 x.fDoes)]
def Event.K : Kd Event := ⟨6, default, Event.enc, fun _ => rfl, fun _ => (ones_cons (one_eq rfl) (ones_cons (one_eq rfl) (ones_cons one_sl (ones_cons (one_eq rfl) (ones_cons (one_eq rfl) (ones_cons (one_eq rfl) ones_nil))))))⟩
structure RDag where
  fRoom : ByteArray
  fL : List Event
  deriving DecidableEq, Inhabited
def RDag.enc (x : RDag) : Cs := [eq (.string x.fRoom), sl Event.K x.fL]
def RDag.K : Kd RDag := ⟨2, default, RDag.enc, fun _ => rfl, fun _ => (ones_cons (one_eq rfl) (ones_cons one_sl ones_nil))⟩
structure GMade where
  fUser : Int
  fDoes : Int
  fParents : List Int
  fThread : Int
  deriving DecidableEq, Inhabited
def GMade.enc (x : GMade) : Cs := [eq (.int .i64 x.fUser), eq (.int .i64 x.fDoes), sl (intK .i64) x.fParents, eq (.int .i64 x.fThread)]
def GMade.K : Kd GMade := ⟨4, default, GMade.enc, fun _ => rfl, fun _ => (ones_cons (one_eq rfl) (ones_cons (one_eq rfl) (ones_cons one_sl (ones_cons (one_eq rfl) ones_nil))))⟩
structure DNode where
  fe : Event
  fdepth : Int
  fparent : Bool
  deriving DecidableEq, Inhabited
def DNode.enc (x : DNode) : Cs := [eq (.string x.fe.fID), eq (.string x.fe.fRoom), sl strK x.fe.fParents, eq (.string x.fe.fThread), eq (.string x.fe.fUser), eq (.int .i64 x.fe.fDoes), eq (.int .i64 x.fdepth), eq (.bool x.fparent)]
def DNode.K : Kd DNode := ⟨8, default, DNode.enc, fun _ => rfl, fun _ => (ones_cons (one_eq rfl) (ones_cons (one_eq rfl) (ones_cons one_sl (ones_cons (one_eq rfl) (ones_cons (one_eq rfl) (ones_cons (one_eq rfl) (ones_cons (one_eq rfl) (ones_cons (one_eq rfl) ones_nil))))))))⟩
structure DDag where
  froom : ByteArray
  fnodes : List (ByteArray × DNode)
  deriving DecidableEq, Inhabited
structure VView where
  fdags : List (ByteArray × DDag)
  deriving DecidableEq, Inhabited
structure RView where
  fD : List RDag
  deriving DecidableEq, Inhabited
def RView.enc (x : RView) : Cs := [sl RDag.K x.fD]
def RView.K : Kd RView := ⟨1, default, RView.enc, fun _ => rfl, fun _ => (ones_cons one_sl ones_nil)⟩

def DNode.O (p : OV) (m : DNode) : As := exA (γ := Nat) (fun g => p.1 = .pointer (some ⟨g, 0, none⟩)) (fun g => [blk g 63 [eq (.string m.fe.fID), eq (.string m.fe.fRoom), sl strK m.fe.fParents, eq (.string m.fe.fThread), eq (.string m.fe.fUser), eq (.int .i64 m.fe.fDoes), eq (.int .i64 m.fdepth), eq (.bool m.fparent)]])
theorem DNode.nn {p : OV} {m : DNode} : NN (DNode.O p m) p.1 := by unfold DNode.O; exact nn_ex (γ := Nat) (b := fun g => g)
theorem DNode.opn {l : List As} {p : OV} {m : DNode} (j : Nat) (hj : l[j]? = some (DNode.O p m)) : ∀ R w, St R l w → ∃ g : Nat, p.1 = .pointer (some ⟨g, 0, none⟩) ∧ St R ([blk g 63 [eq (.string m.fe.fID), eq (.string m.fe.fRoom), sl strK m.fe.fParents, eq (.string m.fe.fThread), eq (.string m.fe.fUser), eq (.int .i64 m.fe.fDoes), eq (.int .i64 m.fdepth), eq (.bool m.fparent)]] ++ l.eraseIdx j) w := st_open j hj
theorem DNode.shut {l r : List As} {p : OV} {m : DNode} (g : Nat) (hg : p.1 = .pointer (some ⟨g, 0, none⟩)) (hp : l.Perm ([blk g 63 [eq (.string m.fe.fID), eq (.string m.fe.fRoom), sl strK m.fe.fParents, eq (.string m.fe.fThread), eq (.string m.fe.fUser), eq (.int .i64 m.fe.fDoes), eq (.int .i64 m.fdepth), eq (.bool m.fparent)]] ++ r)) : ∀ R w, St R l w → ∃ _ : Unit, True ∧ St R (DNode.O p m :: r) w := st_shut _ _ g hg hp
def DDag.O (p : OV) (m : DDag) : As := exA (γ := Nat × OV) (fun g => p.1 = .pointer (some ⟨g.1, 0, none⟩)) (fun g => [blk g.1 67 [eq (.string m.froom), eq g.2.1], mpo Value.string DNode.O g.2.1 m.fnodes])
theorem DDag.nn {p : OV} {m : DDag} : NN (DDag.O p m) p.1 := by unfold DDag.O; exact nn_ex (γ := Nat × OV) (b := fun g => g.1)
theorem DDag.opn {l : List As} {p : OV} {m : DDag} (j : Nat) (hj : l[j]? = some (DDag.O p m)) : ∀ R w, St R l w → ∃ g : Nat × OV, p.1 = .pointer (some ⟨g.1, 0, none⟩) ∧ St R ([blk g.1 67 [eq (.string m.froom), eq g.2.1], mpo Value.string DNode.O g.2.1 m.fnodes] ++ l.eraseIdx j) w := st_open j hj
theorem DDag.shut {l r : List As} {p : OV} {m : DDag} (g : Nat × OV) (hg : p.1 = .pointer (some ⟨g.1, 0, none⟩)) (hp : l.Perm ([blk g.1 67 [eq (.string m.froom), eq g.2.1], mpo Value.string DNode.O g.2.1 m.fnodes] ++ r)) : ∀ R w, St R l w → ∃ _ : Unit, True ∧ St R (DDag.O p m :: r) w := st_shut _ _ g hg hp
def VView.O (p : OV) (m : VView) : As := exA (γ := Nat × OV) (fun g => p.1 = .pointer (some ⟨g.1, 0, none⟩)) (fun g => [blk g.1 56 [eq g.2.1], mpo Value.string DDag.O g.2.1 m.fdags])
theorem VView.nn {p : OV} {m : VView} : NN (VView.O p m) p.1 := by unfold VView.O; exact nn_ex (γ := Nat × OV) (b := fun g => g.1)
theorem VView.opn {l : List As} {p : OV} {m : VView} (j : Nat) (hj : l[j]? = some (VView.O p m)) : ∀ R w, St R l w → ∃ g : Nat × OV, p.1 = .pointer (some ⟨g.1, 0, none⟩) ∧ St R ([blk g.1 56 [eq g.2.1], mpo Value.string DDag.O g.2.1 m.fdags] ++ l.eraseIdx j) w := st_open j hj
theorem VView.shut {l r : List As} {p : OV} {m : VView} (g : Nat × OV) (hg : p.1 = .pointer (some ⟨g.1, 0, none⟩)) (hp : l.Perm ([blk g.1 56 [eq g.2.1], mpo Value.string DDag.O g.2.1 m.fdags] ++ r)) : ∀ R w, St R l w → ∃ _ : Unit, True ∧ St R (VView.O p m :: r) w := st_shut _ _ g hg hp
def fqQ_uint8_bool (g : Int → Option Bool) : List VP → VP → Prop := fun vs ret => ∃ a0 r, g a0 = some r ∧ vs = [eq (.int .u8 a0)] ∧ ret = eq (.bool r)
def fq_uint8_bool (g : Int → Option Bool) : VP := fnq Try.prog (fqQ_uint8_bool g)
def fx_uint8_bool (X : As) (g : Int → Option Bool) : VP := fnx Try.prog X (fqQ_uint8_bool g)
def fK_uint8_bool : Kd (Int → Option Bool) := ⟨1, fun _ => none, fun g => [fq_uint8_bool g], fun _ => rfl, fun _ p h R v hv => by simp at h; subst h; exact one_fnq R v hv⟩
def fqQ_string_bool (g : ByteArray → Option Bool) : List VP → VP → Prop := fun vs ret => ∃ a0 r, g a0 = some r ∧ vs = [eq (.string a0)] ∧ ret = eq (.bool r)
def fq_string_bool (g : ByteArray → Option Bool) : VP := fnq Try.prog (fqQ_string_bool g)
def fx_string_bool (X : As) (g : ByteArray → Option Bool) : VP := fnx Try.prog X (fqQ_string_bool g)
def fK_string_bool : Kd (ByteArray → Option Bool) := ⟨1, fun _ => none, fun g => [fq_string_bool g], fun _ => rfl, fun _ p h R v hv => by simp at h; subst h; exact one_fnq R v hv⟩
/-! concourse/concourseref01.Around: function 16 -/
def concourseref01_Around.f (a0 : Int) (a1 : Int) : Option (Int) := cond (decide (a0 < 0)) (grd (a1 ≠ 0) (some ((w64 (0 - (w64 (a0 + 1)))).tmod a1))) (grd (a1 ≠ 0) (some (a0.tmod a1)))
/-! concourse/concourseref01.RoomOf: function 6 -/
def concourseref01_RoomOf.f (a0 : Int) : Option (ByteArray) := (concourseref01_Around.f a0 2).bind fun t4 => grd ((0 : Int) ≤ t4 ∧ t4 < (([(⟨#[33, 114, 58, 115, 49]⟩ : ByteArray), (⟨#[33, 113, 58, 115, 50]⟩ : ByteArray)] : List ByteArray).length : Int)) (some (strK.at ([(⟨#[33, 114, 58, 115, 49]⟩ : ByteArray), (⟨#[33, 113, 58, 115, 50]⟩ : ByteArray)] : List ByteArray) t4))
/-! concourse/concourseref01.Decimal: function 17 -/
def concourseref01_Decimal.f : Nat → Int → Option (ByteArray)
  | 0, _ => none
  | k + 1, a0 => (cond (decide ((a0.tmod 10) < 0)) (some (w64 (0 - (a0.tmod 10)))) (some (a0.tmod 10))).bind fun (p7 : Int) => cond (decide ((-10) < a0)) (cond (decide (a0 < 10)) (cond (decide (a0 < 0)) (grd ((⟨#[45]⟩ : ByteArray).size + (ofNums ([IntKind.u8.wrap (w64 (48 + p7))] : List Int)).size ≤ 9223372036854775807) (some ((⟨#[45]⟩ : ByteArray) ++ (ofNums ([IntKind.u8.wrap (w64 (48 + p7))] : List Int))))) (some (ofNums ([IntKind.u8.wrap (w64 (48 + p7))] : List Int)))) ((concourseref01_Decimal.f k (w64 (a0.tdiv 10))).bind fun t12 => grd (t12.size + (ofNums ([IntKind.u8.wrap (w64 (48 + p7))] : List Int)).size ≤ 9223372036854775807) (some (t12 ++ (ofNums ([IntKind.u8.wrap (w64 (48 + p7))] : List Int)))))) ((concourseref01_Decimal.f k (w64 (a0.tdiv 10))).bind fun t16 => grd (t16.size + (ofNums ([IntKind.u8.wrap (w64 (48 + p7))] : List Int)).size ≤ 9223372036854775807) (some (t16 ++ (ofNums ([IntKind.u8.wrap (w64 (48 + p7))] : List Int)))))
/-! concourse/concourseref01.EventOf: function 7 -/
def concourseref01_EventOf.f (k : Nat) (a0 : Int) : Option (ByteArray) := (concourseref01_Around.f a0 9).bind fun t20 => (concourseref01_Decimal.f k t20).bind fun t22 => grd ((⟨#[36, 101]⟩ : ByteArray).size + t22.size ≤ 9223372036854775807) (some ((⟨#[36, 101]⟩ : ByteArray) ++ t22))
/-! concourse/concourseref01.ServerOf: function 34 -/
def concourseref01_ServerOf.f (a0 : Int) : Option (ByteArray) := (concourseref01_Around.f a0 3).bind fun t25 => grd ((0 : Int) ≤ t25 ∧ t25 < (([(⟨#[115, 49]⟩ : ByteArray), (⟨#[115, 50]⟩ : ByteArray), (⟨#[115, 51]⟩ : ByteArray)] : List ByteArray).length : Int)) (some (strK.at ([(⟨#[115, 49]⟩ : ByteArray), (⟨#[115, 50]⟩ : ByteArray), (⟨#[115, 51]⟩ : ByteArray)] : List ByteArray) t25))
/-! concourse/concourseref01.UserOf: function 28 -/
def concourseref01_UserOf.f (a0 : Int) : Option (ByteArray) := (concourseref01_Around.f a0 9).bind fun t28 => grd ((0 : Int) ≤ (w64 (t28.tdiv 3)) ∧ (w64 (t28.tdiv 3)) < (([(⟨#[64, 97, 58]⟩ : ByteArray), (⟨#[64, 98, 58]⟩ : ByteArray), (⟨#[64, 99, 58]⟩ : ByteArray)] : List ByteArray).length : Int)) ((concourseref01_ServerOf.f (t28.tmod 3)).bind fun t31 => grd ((strK.at ([(⟨#[64, 97, 58]⟩ : ByteArray), (⟨#[64, 98, 58]⟩ : ByteArray), (⟨#[64, 99, 58]⟩ : ByteArray)] : List ByteArray) (w64 (t28.tdiv 3))).size + t31.size ≤ 9223372036854775807) (some ((strK.at ([(⟨#[64, 97, 58]⟩ : ByteArray), (⟨#[64, 98, 58]⟩ : ByteArray), (⟨#[64, 99, 58]⟩ : ByteArray)] : List ByteArray) (w64 (t28.tdiv 3))) ++ t31)))
/-! concourse/concourseref07.At: function 21 -/
def concourseref07_At.l0 (k : Nat) (a0 : RDag) (a1 : ByteArray) : Nat → Int → Option ((Int × Bool) ⊕ (Int))
  | 0, _ => none
  | j40 + 1, x36 => cond (decide (x36 < (a0.fL.length : Int))) (grd ((0 : Int) ≤ x36 ∧ x36 < (a0.fL.length : Int)) (cond (decide (((Event.K.at a0.fL x36).fID) = a1)) (some (.inr x36)) (concourseref07_At.l0 k a0 a1 j40 (w64 (x36 + 1))))) (some (.inl (x36, decide (x36 < (a0.fL.length : Int)))))
def concourseref07_At.f (k : Nat) (a0 : RDag) (a1 : ByteArray) : Option (Int) := (concourseref07_At.l0 k a0 a1 k 0).bind (fall fun (p35 : Int × Bool) => some (-1))
/-! concourse/concourseref01.low: function 45 -/
def concourseref01_low.f (a0 : Int) : Option (Bool) := cond (decide (97 ≤ a0)) (cond (decide (a0 ≤ 122)) (some true) (cond (decide (48 ≤ a0)) (some (decide (a0 ≤ 57))) (some false))) (cond (decide (48 ≤ a0)) (some (decide (a0 ≤ 57))) (some false))
/-! concourse/concourseref01.Event: function 40 -/
def concourseref01_Event.l0 (k : Nat) (a0 : ByteArray) : Nat → Int → Option ((Int × Bool) ⊕ (Bool))
  | 0, _ => none
  | j77 + 1, x53 => cond (decide (x53 < (a0.size : Int))) (grd ((0 : Int) ≤ x53 ∧ x53 < (a0.size : Int)) ((concourseref01_low.f (bt a0 x53)).bind fun t56 => grd ((0 : Int) ≤ x53 ∧ x53 < (a0.size : Int)) (cond (decide (65 ≤ (bt a0 x53))) (grd ((0 : Int) ≤ x53 ∧ x53 < (a0.size : Int)) (cond (!t56) (cond (!(decide ((bt a0 x53) ≤ 90))) (grd ((0 : Int) ≤ x53 ∧ x53 < (a0.size : Int)) (cond ((bt a0 x53) != 45) (grd ((0 : Int) ≤ x53 ∧ x53 < (a0.size : Int)) (cond ((bt a0 x53) != 95) (some (.inr false)) (concourseref01_Event.l0 k a0 j77 (w64 (x53 + 1))))) (concourseref01_Event.l0 k a0 j77 (w64 (x53 + 1))))) (concourseref01_Event.l0 k a0 j77 (w64 (x53 + 1)))) (concourseref01_Event.l0 k a0 j77 (w64 (x53 + 1))))) (cond (!t56) (grd ((0 : Int) ≤ x53 ∧ x53 < (a0.size : Int)) (cond ((bt a0 x53) != 45) (grd ((0 : Int) ≤ x53 ∧ x53 < (a0.size : Int)) (cond ((bt a0 x53) != 95) (some (.inr false)) (concourseref01_Event.l0 k a0 j77 (w64 (x53 + 1))))) (concourseref01_Event.l0 k a0 j77 (w64 (x53 + 1))))) (concourseref01_Event.l0 k a0 j77 (w64 (x53 + 1))))))) (some (.inl (x53, decide (x53 < (a0.size : Int)))))
def concourseref01_Event.f (k : Nat) (a0 : ByteArray) : Option (Bool) := cond (decide ((a0.size : Int) < 2)) (some false) (cond (decide (17 < (a0.size : Int))) (some false) (grd ((0 : Int) ≤ 0 ∧ 0 < (a0.size : Int)) (cond ((bt a0 0) != 36) (some false) ((concourseref01_Event.l0 k a0 k 1).bind (fall fun (p52 : Int × Bool) => some true)))))
/-! concourse/concourseref01.colon: function 46 -/
def concourseref01_colon.l0 (k : Nat) (a0 : ByteArray) : Nat → Int → Option ((Int × Bool) ⊕ (Int))
  | 0, _ => none
  | j84 + 1, x80 => cond (decide (x80 < (a0.size : Int))) (grd ((0 : Int) ≤ x80 ∧ x80 < (a0.size : Int)) (cond ((bt a0 x80) == 58) (some (.inr x80)) (concourseref01_colon.l0 k a0 j84 (w64 (x80 + 1))))) (some (.inl (x80, decide (x80 < (a0.size : Int)))))
def concourseref01_colon.f (k : Nat) (a0 : ByteArray) : Option (Int) := (concourseref01_colon.l0 k a0 k 0).bind (fall fun (p79 : Int × Bool) => some (-1))
/-! concourse/concourseref01.Part: function 47 -/
def concourseref01_Part.l0 (k : Nat) (a0 : ByteArray) : Nat → Int → Option ((Int × Bool) ⊕ (Bool))
  | 0, _ => none
  | j103 + 1, x88 => cond (decide (x88 < (a0.size : Int))) (grd ((0 : Int) ≤ x88 ∧ x88 < (a0.size : Int)) ((concourseref01_low.f (bt a0 x88)).bind fun t91 => cond (!t91) (grd ((0 : Int) ≤ x88 ∧ x88 < (a0.size : Int)) (cond ((bt a0 x88) != 46) (grd ((0 : Int) ≤ x88 ∧ x88 < (a0.size : Int)) (cond ((bt a0 x88) != 45) (grd ((0 : Int) ≤ x88 ∧ x88 < (a0.size : Int)) (cond ((bt a0 x88) != 95) (some (.inr false)) (concourseref01_Part.l0 k a0 j103 (w64 (x88 + 1))))) (concourseref01_Part.l0 k a0 j103 (w64 (x88 + 1))))) (concourseref01_Part.l0 k a0 j103 (w64 (x88 + 1))))) (concourseref01_Part.l0 k a0 j103 (w64 (x88 + 1))))) (some (.inl (x88, decide (x88 < (a0.size : Int)))))
def concourseref01_Part.f (k : Nat) (a0 : ByteArray) : Option (Bool) := (concourseref01_Part.l0 k a0 k 0).bind (fall fun (p86 : Int × Bool) => cond (decide (0 < (a0.size : Int))) (some (decide ((a0.size : Int) < 17))) (some false))
/-! concourse/concourseref01.Server: function 48 -/
def concourseref01_Server.l0 (k : Nat) (a0 : ByteArray) : Nat → Int → Option ((Int × Bool) ⊕ (Bool))
  | 0, _ => none
  | j129 + 1, x107 => cond (decide (x107 < (a0.size : Int))) (grd ((0 : Int) ≤ x107 ∧ x107 < (a0.size : Int)) ((concourseref01_low.f (bt a0 x107)).bind fun t110 => cond (decide (0 < x107)) (cond (decide (x107 < (w64 ((a0.size : Int) - 1)))) (grd ((0 : Int) ≤ x107 ∧ x107 < (a0.size : Int)) (cond ((bt a0 x107) == 46) (cond (!t110) (concourseref01_Server.l0 k a0 j129 (w64 (x107 + 1))) (concourseref01_Server.l0 k a0 j129 (w64 (x107 + 1)))) (grd ((0 : Int) ≤ x107 ∧ x107 < (a0.size : Int)) (cond (!t110) (cond (!((bt a0 x107) == 45)) (some (.inr false)) (concourseref01_Server.l0 k a0 j129 (w64 (x107 + 1)))) (concourseref01_Server.l0 k a0 j129 (w64 (x107 + 1))))))) (cond (!t110) (some (.inr false)) (concourseref01_Server.l0 k a0 j129 (w64 (x107 + 1))))) (cond (!t110) (some (.inr false)) (concourseref01_Server.l0 k a0 j129 (w64 (x107 + 1)))))) (some (.inl (x107, decide (x107 < (a0.size : Int)))))
def concourseref01_Server.f (k : Nat) (a0 : ByteArray) : Option (Bool) := (concourseref01_Server.l0 k a0 k 0).bind (fall fun (p105 : Int × Bool) => cond (decide (0 < (a0.size : Int))) (some (decide ((a0.size : Int) < 17))) (some false))
/-! concourse/concourseref01.Named: function 41 -/
def concourseref01_Named.f (k : Nat) (a0 : ByteArray) (a1 : Int) : Option (Bool) := (concourseref01_colon.f k a0).bind fun t131 => cond (decide (t131 < 1)) (some false) (grd ((0 : Int) ≤ 0 ∧ 0 < (a0.size : Int)) (cond ((bt a0 0) != a1) (some false) (grd ((0 : Int) ≤ 1 ∧ (0 : Int) ≤ t131 ∧ (1 : Int).toNat ≤ t131.toNat ∧ t131.toNat ≤ a0.size) ((concourseref01_Part.f k (a0.extract (1 : Int).toNat t131.toNat)).bind fun t138 => grd ((0 : Int) ≤ (w64 (t131 + 1)) ∧ (w64 (t131 + 1)).toNat ≤ a0.size ∧ a0.size ≤ a0.size) ((concourseref01_Server.f k (a0.extract (w64 (t131 + 1)).toNat a0.size)).bind fun t141 => cond t138 (some t141) (some false))))))
/-! concourse/concourseref07.May: function 35 -/
def concourseref07_May.l0 (k : Nat) (a0 : Event) : Nat → Int → Option ((Int × Bool) ⊕ (Bool))
  | 0, _ => none
  | j178 + 1, x164 => cond (decide (x164 < (a0.fParents.length : Int))) (grd ((0 : Int) ≤ x164 ∧ x164 < (a0.fParents.length : Int)) ((concourseref01_Event.f k (strK.at a0.fParents x164)).bind fun t167 => cond (!t167) (some (.inr false)) (grd ((0 : Int) ≤ x164 ∧ x164 < (a0.fParents.length : Int)) (cond (decide ((strK.at a0.fParents x164) = a0.fID)) (some (.inr false)) (cond (decide (0 < x164)) (grd ((0 : Int) ≤ (max (w64 (x164 - 1)) 0) ∧ (max (w64 (x164 - 1)) 0) < (a0.fParents.length : Int)) (grd ((0 : Int) ≤ x164 ∧ x164 < (a0.fParents.length : Int)) (cond (!sLt (strK.at a0.fParents (max (w64 (x164 - 1)) 0)) (strK.at a0.fParents x164)) (some (.inr false)) (concourseref07_May.l0 k a0 j178 (w64 (x164 + 1)))))) (concourseref07_May.l0 k a0 j178 (w64 (x164 + 1)))))))) (some (.inl (x164, decide (x164 < (a0.fParents.length : Int)))))
def concourseref07_May.f (k : Nat) (a0 : Event) : Option (Bool) := (concourseref01_Event.f k a0.fID).bind fun t145 => (concourseref01_Named.f k a0.fRoom 33).bind fun t147 => (concourseref01_Named.f k a0.fUser 64).bind fun t149 => cond (!t145) (some false) (cond (!t147) (some false) (cond (!t149) (some false) (cond (decide (4 < (a0.fParents.length : Int))) (some false) (cond (decide (a0.fDoes < 0)) (some false) (cond (decide (2 < a0.fDoes)) (some false) ((cond (!decide (a0.fThread = (⟨#[]⟩ : ByteArray))) ((concourseref01_Event.f k a0.fThread).bind fun t181 => cond (!t181) (some (.inr false)) (cond (decide (a0.fThread = a0.fID)) (some (.inr false)) (cond (a0.fDoes != 0) (some (.inr false)) (some (.inl ()))))) (some (.inl ()))).bind (fall fun (p162 : Unit) => (concourseref07_May.l0 k a0 k 0).bind (fall fun (p163 : Int × Bool) => some true))))))))
/-! concourse/concourseref07.Add: function 29 -/
def concourseref07_Add.l0 (k : Nat) (a0 : RDag) (a1 : Event) : Nat → Int → Option ((Int × Bool) ⊕ (RDag × Int))
  | 0, _ => none
  | j220 + 1, x214 => cond (decide (x214 < (a1.fParents.length : Int))) (grd ((0 : Int) ≤ x214 ∧ x214 < (a1.fParents.length : Int)) ((concourseref07_At.f k a0 (strK.at a1.fParents x214)).bind fun t217 => cond (decide (t217 < 0)) (some (.inr (a0, 4))) (concourseref07_Add.l0 k a0 a1 j220 (w64 (x214 + 1))))) (some (.inl (x214, decide (x214 < (a1.fParents.length : Int)))))
def concourseref07_Add.f (k : Nat) (a0 : RDag) (a1 : Event) : Option (RDag × Int) := (concourseref07_May.f k a1).bind fun t191 => cond (!t191) (some (a0, 1)) (cond (!decide (a1.fRoom = a0.fRoom)) (some (a0, 1)) ((concourseref07_At.f k a0 a1.fID).bind fun t196 => cond (decide (0 ≤ t196)) (some (a0, 9)) ((concourseref07_Add.l0 k a0 a1 k 0).bind (fall fun (p199 : Int × Bool) => (cond (!decide (a1.fThread = (⟨#[]⟩ : ByteArray))) ((concourseref07_At.f k a0 a1.fThread).bind fun t206 => cond (decide (t206 < 0)) (some (.inr (a0, 4))) (grd ((0 : Int) ≤ t206 ∧ t206 < (a0.fL.length : Int)) (cond (!decide (((Event.K.at a0.fL t206).fThread) = (⟨#[]⟩ : ByteArray))) (some (.inr (a0, 7))) (grd ((0 : Int) ≤ t206 ∧ t206 < (a0.fL.length : Int)) (cond (((Event.K.at a0.fL t206).fDoes) != 0) (some (.inr (a0, 7))) (some (.inl ()))))))) (some (.inl ()))).bind (fall fun (p200 : Unit) => grd (([] : List Event).length + a0.fL.length ≤ 9223372036854775807 ∧ (([] : List Event).length + a0.fL.length) * 96 ≤ 140737488355328) (grd ((([] : List Event) ++ a0.fL).length + ([a1] : List Event).length ≤ 9223372036854775807 ∧ ((([] : List Event) ++ a0.fL).length + ([a1] : List Event).length) * 96 ≤ 140737488355328) (some ((⟨a0.fRoom, (([] : List Event) ++ a0.fL) ++ ([a1] : List Event)⟩ : RDag), 0))))))))
/-! concourse/concourseref07.Made: function 22 -/
def concourseref07_Made.l1 (k : Nat) (x225 : Int) (p244 : Int × Bool × (List Bool)) : Nat → Int → List ByteArray → Option (Int × Bool × (List ByteArray))
  | 0, _, _ => none
  | j291 + 1, x280, x281 => cond (decide (x280 < x225)) (grd ((0 : Int) ≤ x280 ∧ x280 < (p244.2.2.length : Int)) (cond (p244.2.2.getD x280.toNat default) ((concourseref01_EventOf.f k x280).bind fun t287 => grd (x281.length + ([t287] : List ByteArray).length ≤ 9223372036854775807 ∧ (x281.length + ([t287] : List ByteArray).length) * 16 ≤ 140737488355328) (concourseref07_Made.l1 k x225 p244 j291 (w64 (x280 + 1)) (x281 ++ ([t287] : List ByteArray)))) (concourseref07_Made.l1 k x225 p244 j291 (w64 (x280 + 1)) x281))) (some (x280, decide (x280 < x225), x281))
def concourseref07_Made.l2 (k : Nat) (a1 : List GMade) (x225 : Int) : Nat → Int → List Bool → Option (Int × Bool × (List Bool))
  | 0, _, _ => none
  | j308 + 1, x294, x295 => grd ((0 : Int) ≤ x225 ∧ x225 < (a1.length : Int)) (cond (decide (x294 < (((GMade.K.at a1 x225).fParents).length : Int))) (cond (decide (x294 < 3)) (cond (decide (0 < x225)) (grd ((0 : Int) ≤ x225 ∧ x225 < (a1.length : Int)) (grd ((0 : Int) ≤ x294 ∧ x294 < (((GMade.K.at a1 x225).fParents).length : Int)) ((concourseref01_Around.f ((intK .i64).at ((GMade.K.at a1 x225).fParents) x294) x225).bind fun t302 => grd ((0 : Int) ≤ t302 ∧ t302 < (x295.length : Int)) (concourseref07_Made.l2 k a1 x225 j308 (w64 (x294 + 1)) (x295.set t302.toNat true))))) (some (x294, decide (0 < x225), x295))) (some (x294, false, x295))) (some (x294, false, x295)))
def concourseref07_Made.l0 (k : Nat) (a0 : ByteArray) (a1 : List GMade) : Nat → Int → ByteArray → List Event → Option (Int × Bool × ByteArray × (List Event))
  | 0, _, _, _ => none
  | j312 + 1, x225, x226, x227 => cond (decide (x225 < (a1.length : Int))) (cond (decide (x225 < 9)) (((concourseref01_EventOf.f k x225).bind fun t232 => grd ((0 : Int) ≤ x225 ∧ x225 < (a1.length : Int)) ((concourseref01_UserOf.f ((GMade.K.at a1 x225).fUser)).bind fun t235 => grd ((0 : Int) ≤ x225 ∧ x225 < (a1.length : Int)) ((concourseref01_Around.f ((GMade.K.at a1 x225).fDoes) 3).bind fun t238 => grd ((0 : Int) ≤ 9 ∧ 9 ≤ (9223372036854775807 : Int) ∧ (9 : Int).toNat * 1 ≤ 140737488355328) ((concourseref07_Made.l2 k a1 x225 k 0 (List.replicate (9 : Int).toNat (false : Bool))).bind fun (p244 : Int × Bool × (List Bool)) => (concourseref07_Made.l1 k x225 p244 k 0 ([] : List ByteArray)).bind fun (p245 : Int × Bool × (List ByteArray)) => cond (t238 == 0) (cond (decide (0 < x225)) (grd ((0 : Int) ≤ x225 ∧ x225 < (a1.length : Int)) ((concourseref01_Around.f ((GMade.K.at a1 x225).fThread) (w64 (2 * x225))).bind fun t250 => cond (decide (t250 < x225)) (grd ((0 : Int) ≤ t250 ∧ t250 < (x227.length : Int)) (cond (((Event.K.at x227 t250).fDoes) == 0) (grd ((0 : Int) ≤ t250 ∧ t250 < (x227.length : Int)) (cond (decide (((Event.K.at x227 t250).fThread) = (⟨#[]⟩ : ByteArray))) ((concourseref01_EventOf.f k t250).bind fun t257 => (concourseref07_Add.f k (⟨x226, x227⟩ : RDag) (⟨t232, a0, p245.2.2, t257, t235, t238⟩ : Event)).bind fun t259 => some (p244.1, p245.1, p244.2.1, p245.2.1, decide (0 < x225), t259.1.fRoom, t259.1.fL, p244.2.2)) ((concourseref07_Add.f k (⟨x226, x227⟩ : RDag) (⟨t232, a0, p245.2.2, (⟨#[]⟩ : ByteArray), t235, t238⟩ : Event)).bind fun t262 => some (p244.1, p245.1, p244.2.1, p245.2.1, decide (0 < x225), t262.1.fRoom, t262.1.fL, p244.2.2)))) ((concourseref07_Add.f k (⟨x226, x227⟩ : RDag) (⟨t232, a0, p245.2.2, (⟨#[]⟩ : ByteArray), t235, t238⟩ : Event)).bind fun t266 => some (p244.1, p245.1, p244.2.1, p245.2.1, decide (0 < x225), t266.1.fRoom, t266.1.fL, p244.2.2)))) ((concourseref07_Add.f k (⟨x226, x227⟩ : RDag) (⟨t232, a0, p245.2.2, (⟨#[]⟩ : ByteArray), t235, t238⟩ : Event)).bind fun t270 => some (p244.1, p245.1, p244.2.1, p245.2.1, decide (0 < x225), t270.1.fRoom, t270.1.fL, p244.2.2)))) ((concourseref07_Add.f k (⟨x226, x227⟩ : RDag) (⟨t232, a0, p245.2.2, (⟨#[]⟩ : ByteArray), t235, t238⟩ : Event)).bind fun t273 => some (p244.1, p245.1, p244.2.1, p245.2.1, decide (0 < x225), t273.1.fRoom, t273.1.fL, p244.2.2))) ((concourseref07_Add.f k (⟨x226, x227⟩ : RDag) (⟨t232, a0, p245.2.2, (⟨#[]⟩ : ByteArray), t235, t238⟩ : Event)).bind fun t277 => some (p244.1, p245.1, p244.2.1, p245.2.1, false, t277.1.fRoom, t277.1.fL, p244.2.2)))))).bind fun (p230 : Int × Int × Bool × Bool × Bool × ByteArray × (List Event) × (List Bool)) => concourseref07_Made.l0 k a0 a1 j312 (w64 (x225 + 1)) p230.2.2.2.2.2.1 p230.2.2.2.2.2.2.1) (some (x225, decide (x225 < 9), x226, x227))) (some (x225, false, x226, x227))
def concourseref07_Made.f (k : Nat) (a0 : ByteArray) (a1 : List GMade) : Option (RDag) := (concourseref07_Made.l0 k a0 a1 k 0 a0 ([] : List Event)).bind fun (p224 : Int × Bool × ByteArray × (List Event)) => some (⟨p224.2.2.1, p224.2.2.2⟩ : RDag)
/-! concourse/concourseref10.Made: function 12 -/
def concourseref10_Made.f (k : Nat) (a0 : List GMade) (a1 : List GMade) : Option ((List Event)) := (concourseref01_RoomOf.f 0).bind fun t314 => (concourseref07_Made.f k t314 a0).bind fun t316 => grd (([] : List Event).length + t316.fL.length ≤ 9223372036854775807 ∧ (([] : List Event).length + t316.fL.length) * 96 ≤ 140737488355328) ((concourseref01_RoomOf.f 1).bind fun t320 => (concourseref07_Made.f k t320 a1).bind fun t322 => grd ((([] : List Event) ++ t316.fL).length + t322.fL.length ≤ 9223372036854775807 ∧ ((([] : List Event) ++ t316.fL).length + t322.fL.length) * 96 ≤ 140737488355328) (some ((([] : List Event) ++ t316.fL) ++ t322.fL)))
/-! concourse/view.New: function 13 -/
def view_New.f : Option (VView) := some (⟨([] : List (ByteArray × DDag))⟩ : VView)
/-! concourse/dag.New: function 25 -/
def dag_New.f (a0 : ByteArray) : Option (DDag) := some (⟨a0, ([] : List (ByteArray × DNode))⟩ : DDag)
/-! (*concourse/view.View).room -/
def view_View_room.f (a0 : VView) (a1 : ByteArray) : Option DDag := cond (mget a0.fdags a1).isSome (some ((mget a0.fdags a1).getD default)) (dag_New.f a1)
/-! (*concourse/dag.Dag).Has: function 26 -/
def dag_Dag_Has.f (a0 : DDag) (a1 : ByteArray) : Option (Bool) := some (!(mget a0.fnodes a1).isNone)
/-! slices.Clone[[]string,string] -/
def slices_Clone_string.f (xs : List ByteArray) : Option (List ByteArray) := grd (xs.length ≤ 9223372036854775807 ∧ xs.length * 16 ≤ 140737488355328) (some xs)
/-! concourse/dag.own: function 27 -/
def dag_own.f (a0 : Event) : Option (Event) := (slices_Clone_string.f a0.fParents).bind fun t334 => some (⟨a0.fID, a0.fRoom, t334, a0.fThread, a0.fUser, a0.fDoes⟩ : Event)
/-! internal/stringslite.HasPrefix: function 53 -/
def stringslite_HasPrefix.f (a0 : ByteArray) (a1 : ByteArray) : Option (Bool) := cond (decide ((a1.size : Int) ≤ (a0.size : Int))) (grd ((0 : Int) ≤ (a1.size : Int) ∧ 0 ≤ (a1.size : Int).toNat ∧ (a1.size : Int).toNat ≤ a0.size) (some (decide ((a0.extract 0 ((a1.size : Int).toNat)) = a1)))) (some false)
/-! internal/stringslite.CutPrefix: function 49 -/
def stringslite_CutPrefix.f (a0 : ByteArray) (a1 : ByteArray) : Option (ByteArray × Bool) := (stringslite_HasPrefix.f a0 a1).bind fun t339 => cond (!t339) (some (a0, false)) (grd ((0 : Int) ≤ (a1.size : Int) ∧ (a1.size : Int).toNat ≤ a0.size ∧ a0.size ≤ a0.size) (some (a0.extract (a1.size : Int).toNat a0.size, true)))
/-! strings.CutPrefix: function 42 -/
def strings_CutPrefix.f (a0 : ByteArray) (a1 : ByteArray) : Option (ByteArray × Bool) := (stringslite_CutPrefix.f a0 a1).bind fun t343 => some (t343.1, t343.2)
/-! concourse/name.small: function 55 -/
def name_small.f (a0 : Int) : Option (Bool) := cond (decide (97 ≤ a0)) (cond (decide (a0 ≤ 122)) (some true) (cond (decide (48 ≤ a0)) (some (decide (a0 ≤ 57))) (some false))) (cond (decide (48 ≤ a0)) (some (decide (a0 ≤ 57))) (some false))
/-! internal/stringslite.IndexByte: function 58 -/
def stringslite_IndexByte.f (a0 : ByteArray) (a1 : Int) : Option (Int) := some (idxB a0 a1)
/-! strings.IndexByte: function 56 -/
def strings_IndexByte.f (a0 : ByteArray) (a1 : Int) : Option (Int) := (stringslite_IndexByte.f a0 a1).bind fun t349 => some t349
/-! concourse/name.among$1: function 54 -/
def name_among_1.f (a0 : Int) (c0 : ByteArray) : Option (Bool) := (name_small.f a0).bind fun t351 => cond t351 (some true) ((strings_IndexByte.f c0 a0).bind fun t354 => some (decide (0 ≤ t354)))
/-! concourse/name.among: function 50 -/
def name_among.f (a0 : ByteArray) : Option ((Int → Option Bool)) := some (fun a0_ => name_among_1.f a0_ a0)
/-! concourse/name.may: function 43 -/
def name_may.l0 (k : Nat) (a0 : ByteArray) (a1 : Int) (t357 : (Int → Option Bool)) (t359 : (Int → Option Bool)) (t361 : (Int → Option Bool)) : Nat → Int → Option ((Int × Bool) ⊕ (Bool))
  | 0, _ => none
  | j372 + 1, x366 => cond (decide (x366 < (a0.size : Int))) (grd ((0 : Int) ≤ x366 ∧ x366 < (a0.size : Int)) (((fK_uint8_bool.at ([t357, t359, t361] : List (Int → Option Bool)) a1) (bt a0 x366)).bind fun t369 => cond (!t369) (some (.inr false)) (name_may.l0 k a0 a1 t357 t359 t361 j372 (w64 (x366 + 1))))) (some (.inl (x366, decide (x366 < (a0.size : Int)))))
def name_may.f (k : Nat) (a0 : ByteArray) (a1 : Int) : Option (Bool) := (name_among.f (⟨#[46, 45, 95]⟩ : ByteArray)).bind fun t357 => (name_among.f (⟨#[46, 45]⟩ : ByteArray)).bind fun t359 => (name_among.f (⟨#[45, 95, 65, 66, 67, 68, 69, 70, 71, 72, 73, 74, 75, 76, 77, 78, 79, 80, 81, 82, 83, 84, 85, 86, 87, 88, 89, 90]⟩ : ByteArray)).bind fun t361 => grd ((0 : Int) ≤ a1 ∧ a1 < (3 : Int)) ((name_may.l0 k a0 a1 t357 t359 t361 k 0).bind (fall fun (p364 : Int × Bool) => cond (!decide (a0 = (⟨#[]⟩ : ByteArray))) (some (decide ((a0.size : Int) ≤ 16))) (some false)))
/-! concourse/name.Event: function 36 -/
def name_Event.f (k : Nat) (a0 : ByteArray) : Option (Bool) := (strings_CutPrefix.f a0 (⟨#[36]⟩ : ByteArray)).bind fun t374 => cond t374.2 ((name_may.f k t374.1 2).bind fun t377 => some t377) (some false)
/-! internal/bytealg.Cutover: function 62 -/
def bytealg_Cutover.f (a0 : Int) : Option (Int) := some (w64 ((w64 (a0 + 16)).tdiv 8))
/-! internal/stringslite.Index: function 59 -/
def stringslite_Index.f (a0 : ByteArray) (a1 : ByteArray) : Option (Int) := cond ((a1.size : Int) == 0) (some 0) (cond (decide (a1 = a0)) (some 0) (cond ((a1.size : Int) == 1) (grd ((0 : Int) ≤ 0 ∧ 0 < (a1.size : Int)) ((stringslite_IndexByte.f a0 (bt a1 0)).bind fun t386 => some t386)) (cond (decide ((a0.size : Int) ≤ (a1.size : Int))) (some (-1)) (none))))
/-! internal/stringslite.Cut: function 57 -/
def stringslite_Cut.f (a0 : ByteArray) (a1 : ByteArray) : Option (ByteArray × ByteArray × Bool) := (stringslite_Index.f a0 a1).bind fun t389 => cond (decide (0 ≤ t389)) (grd ((0 : Int) ≤ t389 ∧ 0 ≤ t389.toNat ∧ t389.toNat ≤ a0.size) (grd ((0 : Int) ≤ (w64 (t389 + (a1.size : Int))) ∧ (w64 (t389 + (a1.size : Int))).toNat ≤ a0.size ∧ a0.size ≤ a0.size) (some (a0.extract 0 t389.toNat, a0.extract (w64 (t389 + (a1.size : Int))).toNat a0.size, true)))) (some (a0, (⟨#[]⟩ : ByteArray), false))
/-! strings.Cut: function 51 -/
def strings_Cut.f (a0 : ByteArray) (a1 : ByteArray) : Option (ByteArray × ByteArray × Bool) := (stringslite_Cut.f a0 a1).bind fun t394 => some (t394.1, t394.2.1, t394.2.2)
/-! concourse/name.Server: function 52 -/
def name_Server.f (k : Nat) (a0 : ByteArray) : Option (Bool) := (name_may.f k a0 1).bind fun t396 => cond t396 (grd ((0 : Int) ≤ 0 ∧ 0 < (a0.size : Int)) ((name_small.f (bt a0 0)).bind fun t400 => cond t400 (grd ((0 : Int) ≤ (w64 ((a0.size : Int) - 1)) ∧ (w64 ((a0.size : Int) - 1)) < (a0.size : Int)) ((name_small.f (bt a0 (w64 ((a0.size : Int) - 1)))).bind fun t404 => some t404)) (some false))) (some false)
/-! concourse/name.split: function 44 -/
def name_split.f (k : Nat) (a0 : ByteArray) (a1 : ByteArray) : Option (ByteArray × ByteArray × Bool) := (strings_CutPrefix.f a0 a1).bind fun t406 => (strings_Cut.f t406.1 (⟨#[58]⟩ : ByteArray)).bind fun t408 => cond t406.2 (cond t408.2.2 ((name_may.f k t408.1 0).bind fun t412 => cond t412 ((name_Server.f k t408.2.1).bind fun t415 => some (t408.1, t408.2.1, t415)) (some (t408.1, t408.2.1, false))) (some (t408.1, t408.2.1, false))) (some (t408.1, t408.2.1, false))
/-! concourse/name.Room: function 37 -/
def name_Room.f (k : Nat) (a0 : ByteArray) : Option (Bool) := (name_split.f k a0 (⟨#[33]⟩ : ByteArray)).bind fun t417 => some t417.2.2
/-! concourse/name.User: function 38 -/
def name_User.f (k : Nat) (a0 : ByteArray) : Option (Bool) := (name_split.f k a0 (⟨#[64]⟩ : ByteArray)).bind fun t419 => some t419.2.2
/-! concourse/dag.May: function 30 -/
def dag_May.l0 (k : Nat) (a0 : Event) : Nat → Int → Option (Bool × Int × Bool)
  | 0, _ => none
  | j461 + 1, x448 => cond (decide (x448 < (a0.fParents.length : Int))) (grd ((0 : Int) ≤ x448 ∧ x448 < (a0.fParents.length : Int)) ((name_Event.f k (strK.at a0.fParents x448)).bind fun t451 => cond (!t451) (some (false, x448, decide (x448 < (a0.fParents.length : Int)))) (cond (decide ((strK.at a0.fParents x448) = a0.fID)) (some (false, x448, decide (x448 < (a0.fParents.length : Int)))) (cond (decide (0 < x448)) (grd ((0 : Int) ≤ (w64 (x448 - 1)) ∧ (w64 (x448 - 1)) < (a0.fParents.length : Int)) (cond (!sLt (strK.at a0.fParents (w64 (x448 - 1))) (strK.at a0.fParents x448)) (some (false, x448, decide (x448 < (a0.fParents.length : Int)))) (dag_May.l0 k a0 j461 (w64 (x448 + 1))))) (dag_May.l0 k a0 j461 (w64 (x448 + 1))))))) (some (true, x448, decide (x448 < (a0.fParents.length : Int))))
def dag_May.l1 (k : Nat) (a0 : Event) : Nat → Int → Option (Bool × Int × Bool)
  | 0, _ => none
  | j478 + 1, x465 => cond (decide (x465 < (a0.fParents.length : Int))) (grd ((0 : Int) ≤ x465 ∧ x465 < (a0.fParents.length : Int)) ((name_Event.f k (strK.at a0.fParents x465)).bind fun t468 => cond (!t468) (some (false, x465, decide (x465 < (a0.fParents.length : Int)))) (cond (decide ((strK.at a0.fParents x465) = a0.fID)) (some (false, x465, decide (x465 < (a0.fParents.length : Int)))) (cond (decide (0 < x465)) (grd ((0 : Int) ≤ (w64 (x465 - 1)) ∧ (w64 (x465 - 1)) < (a0.fParents.length : Int)) (cond (!sLt (strK.at a0.fParents (w64 (x465 - 1))) (strK.at a0.fParents x465)) (some (false, x465, decide (x465 < (a0.fParents.length : Int)))) (dag_May.l1 k a0 j478 (w64 (x465 + 1))))) (dag_May.l1 k a0 j478 (w64 (x465 + 1))))))) (some (true, x465, decide (x465 < (a0.fParents.length : Int))))
def dag_May.f (k : Nat) (a0 : Event) : Option (Bool) := (name_Event.f k a0.fID).bind fun t422 => cond (!t422) (some false) ((name_Room.f k a0.fRoom).bind fun t426 => cond (!t426) (some false) ((name_User.f k a0.fUser).bind fun t430 => cond (!t430) (some false) (cond (decide (4 < (a0.fParents.length : Int))) (some false) (cond (decide (a0.fDoes < 0)) (some false) (cond (decide (2 < a0.fDoes)) (some false) (cond (!decide (a0.fThread = (⟨#[]⟩ : ByteArray))) ((name_Event.f k a0.fThread).bind fun t440 => cond (!t440) (some false) (cond (decide (a0.fThread = a0.fID)) (some false) (cond (a0.fDoes != 0) (some false) ((dag_May.l0 k a0 k 0).bind fun (p447 : Bool × Int × Bool) => some p447.1)))) ((dag_May.l1 k a0 k 0).bind fun (p464 : Bool × Int × Bool) => some p464.1)))))))
/-! slices.IndexFunc[[]string,string]: function 39 -/
def slices_IndexFunc_string_x.l0 (k : Nat) (a0 : List ByteArray) (a1 : (ByteArray → Option Bool)) : Nat → Int → Option ((Int × Bool) ⊕ (Int))
  | 0, _ => none
  | j487 + 1, x481 => cond (decide (x481 < (a0.length : Int))) (grd ((0 : Int) ≤ x481 ∧ x481 < (a0.length : Int)) ((a1 (strK.at a0 x481)).bind fun t484 => cond t484 (some (.inr x481)) (slices_IndexFunc_string_x.l0 k a0 a1 j487 (w64 (x481 + 1))))) (some (.inl (x481, decide (x481 < (a0.length : Int)))))
def slices_IndexFunc_string_x.f (k : Nat) (a0 : List ByteArray) (a1 : (ByteArray → Option Bool)) : Option (Int) := (slices_IndexFunc_string_x.l0 k a0 a1 k 0).bind (fall fun (p480 : Int × Bool) => some (-1))
/-! slices.ContainsFunc[[]string,string]: function 31 -/
def slices_ContainsFunc_string_x.f (k : Nat) (a0 : List ByteArray) (a1 : (ByteArray → Option Bool)) : Option (Bool) := (slices_IndexFunc_string_x.f k a0 a1).bind fun t489 => some (decide (0 ≤ t489))
/-! (*concourse/dag.Dag).Add$1: function 32 -/
def dag_Dag_Add_1.f (a0 : ByteArray) (c0 : DDag) : Option (Bool) := (dag_Dag_Has.f c0 a0).bind fun t491 => some (!t491)
/-! (*concourse/dag.Dag).Add: function 23 -/
def dag_Dag_Add.l0 (k : Nat) (a1 : Event) : Nat → Int → Int → DDag → Option (Int × Bool × Int × DDag)
  | 0, _, _, _ => none
  | j530 + 1, x517, x518, x519 => cond (decide (x517 < (a1.fParents.length : Int))) (grd ((0 : Int) ≤ x517 ∧ x517 < (a1.fParents.length : Int)) (grd ((mget x519.fnodes (strK.at a1.fParents x517)).isSome = true) (dag_Dag_Add.l0 k a1 j530 (w64 (x517 + 1)) (max x518 (w64 ((((mget x519.fnodes (strK.at a1.fParents x517)).getD default).fdepth) + 1))) (⟨x519.froom, mput x519.fnodes (strK.at a1.fParents x517) (⟨((mget x519.fnodes (strK.at a1.fParents x517)).getD default).fe, ((mget x519.fnodes (strK.at a1.fParents x517)).getD default).fdepth, true⟩ : DNode)⟩ : DDag)))) (some (x517, decide (x517 < (a1.fParents.length : Int)), x518, x519))
def dag_Dag_Add.f (k : Nat) (a0 : DDag) (a1 : Event) : Option (Int × DDag) := (dag_May.f k a1).bind fun t497 => cond (!t497) (some (1, a0)) (cond (!decide (a1.fRoom = a0.froom)) (some (1, a0)) ((dag_Dag_Has.f a0 a1.fID).bind fun t502 => cond t502 (some (9, a0)) ((slices_ContainsFunc_string_x.f k a1.fParents (fun a0_ => dag_Dag_Add_1.f a0_ a0)).bind fun t505 => cond t505 (some (4, a0)) ((cond (!decide (a1.fThread = (⟨#[]⟩ : ByteArray))) (cond ((mget a0.fnodes a1.fThread).isNone) (some (.inr (4, a0))) (grd ((mget a0.fnodes a1.fThread).isSome = true) (cond (!decide (((((mget a0.fnodes a1.fThread).getD default).fe).fThread) = (⟨#[]⟩ : ByteArray))) (some (.inr (7, a0))) (cond (((((mget a0.fnodes a1.fThread).getD default).fe).fDoes) != 0) (some (.inr (7, a0))) (some (.inl ())))))) (some (.inl ()))).bind (fall fun (p508 : Unit) => (dag_own.f a1).bind fun t509 => (dag_Dag_Add.l0 k a1 k 0 0 a0).bind fun (p512 : Int × Bool × Int × DDag) => some (0, (⟨p512.2.2.2.froom, mput p512.2.2.2.fnodes a1.fID (⟨t509, p512.2.2.1, false⟩ : DNode)⟩ : DDag)))))))
/-! (*concourse/view.View).Add: function 14 -/
def view_View_Add.f (k : Nat) (a0 : VView) (a1 : Event) : Option (Int × VView) := (view_View_room.f a0 a1.fRoom).bind fun t545 => (dag_Dag_Add.f k t545 a1).bind fun t548 => cond (t548.1 != 0) (some (t548.1, (⟨mres a0.fdags a1.fRoom t548.2⟩ : VView))) (some (0, (⟨mput a0.fdags a1.fRoom t548.2⟩ : VView)))
/-! concourse/concourseref10.Of: function 20 -/
def concourseref10_Of.l0 (k : Nat) (a0 : RView) (a1 : ByteArray) : Nat → Int → Option ((Int × Bool) ⊕ (RDag))
  | 0, _ => none
  | j561 + 1, x556 => cond (decide (x556 < (a0.fD.length : Int))) (grd ((0 : Int) ≤ x556 ∧ x556 < (a0.fD.length : Int)) (cond (decide (((RDag.K.at a0.fD x556).fRoom) = a1)) (grd ((0 : Int) ≤ x556 ∧ x556 < (a0.fD.length : Int)) (some (.inr (RDag.K.at a0.fD x556)))) (concourseref10_Of.l0 k a0 a1 j561 (w64 (x556 + 1))))) (some (.inl (x556, decide (x556 < (a0.fD.length : Int)))))
def concourseref10_Of.f (k : Nat) (a0 : RView) (a1 : ByteArray) : Option (RDag) := (concourseref10_Of.l0 k a0 a1 k 0).bind (fall fun (p555 : Int × Bool) => some (⟨a1, ([] : List Event)⟩ : RDag))
/-! concourse/concourseref10.Add: function 24 -/
def concourseref10_Add.l0 (k : Nat) (a0 : RView) (a1 : Event) (t568 : RDag × Int) : Nat → Bool → Int → List RDag → Option (Bool × Int × Bool × (List RDag))
  | 0, _, _, _ => none
  | j596 + 1, x577, x578, x579 => cond (decide (x578 < (a0.fD.length : Int))) ((cond (!x577) (grd ((0 : Int) ≤ x578 ∧ x578 < (a0.fD.length : Int)) (cond (!sLt ((RDag.K.at a0.fD x578).fRoom) a1.fRoom) (grd (x579.length + ([t568.1] : List RDag).length ≤ 9223372036854775807 ∧ (x579.length + ([t568.1] : List RDag).length) * 40 ≤ 140737488355328) (some (true, !sLt ((RDag.K.at a0.fD x578).fRoom) a1.fRoom, x579 ++ ([t568.1] : List RDag)))) (some (x577, !sLt ((RDag.K.at a0.fD x578).fRoom) a1.fRoom, x579)))) (some (x577, false, x579))).bind fun (p582 : Bool × Bool × (List RDag)) => grd ((0 : Int) ≤ x578 ∧ x578 < (a0.fD.length : Int)) (cond (!decide (((RDag.K.at a0.fD x578).fRoom) = a1.fRoom)) (grd ((0 : Int) ≤ x578 ∧ x578 < (a0.fD.length : Int)) (grd (p582.2.2.length + ([RDag.K.at a0.fD x578] : List RDag).length ≤ 9223372036854775807 ∧ (p582.2.2.length + ([RDag.K.at a0.fD x578] : List RDag).length) * 40 ≤ 140737488355328) (concourseref10_Add.l0 k a0 a1 t568 j596 p582.1 (w64 (x578 + 1)) (p582.2.2 ++ ([RDag.K.at a0.fD x578] : List RDag))))) (concourseref10_Add.l0 k a0 a1 t568 j596 p582.1 (w64 (x578 + 1)) p582.2.2))) (some (x577, x578, decide (x578 < (a0.fD.length : Int)), x579))
def concourseref10_Add.f (k : Nat) (a0 : RView) (a1 : Event) : Option (RView × Int) := (concourseref10_Of.f k a0 a1.fRoom).bind fun t566 => (concourseref07_Add.f k t566 a1).bind fun t568 => cond (t568.2 != 0) (some (a0, t568.2)) ((concourseref10_Add.l0 k a0 a1 t568 k false 0 ([] : List RDag)).bind fun (p572 : Bool × Int × Bool × (List RDag)) => cond (!p572.1) (grd (p572.2.2.2.length + ([t568.1] : List RDag).length ≤ 9223372036854775807 ∧ (p572.2.2.2.length + ([t568.1] : List RDag).length) * 40 ≤ 140737488355328) (some ((⟨p572.2.2.2 ++ ([t568.1] : List RDag)⟩ : RView), 0))) (some ((⟨p572.2.2.2⟩ : RView), 0)))
/-! concourse/concourseref10.Build: function 15 -/
def concourseref10_Build.l0 (k : Nat) (a0 : List Event) : Nat → Int → List RDag → Option (Int × Bool × (List RDag))
  | 0, _, _ => none
  | j609 + 1, x602, x603 => cond (decide (x602 < (a0.length : Int))) (grd ((0 : Int) ≤ x602 ∧ x602 < (a0.length : Int)) ((concourseref10_Add.f k (⟨x603⟩ : RView) (Event.K.at a0 x602)).bind fun t606 => concourseref10_Build.l0 k a0 j609 (w64 (x602 + 1)) t606.1.fD)) (some (x602, decide (x602 < (a0.length : Int)), x603))
def concourseref10_Build.f (k : Nat) (a0 : List Event) : Option (RView) := (concourseref10_Build.l0 k a0 k 0 ([] : List RDag)).bind fun (p601 : Int × Bool × (List RDag)) => some (⟨p601.2.2⟩ : RView)
/-! concourse/concourselaw10.build: function 4 -/
def concourselaw10_build.l0 (k : Nat) (t612 : (List Event)) : Nat → Int → VView → Option ((Int × Bool × VView) ⊕ ((Option VView) × RView))
  | 0, _, _ => none
  | j630 + 1, x622, x623 => cond (decide (x622 < (t612.length : Int))) (grd ((0 : Int) ≤ x622 ∧ x622 < (t612.length : Int)) ((view_View_Add.f k x623 (t612.getD x622.toNat default)).bind fun t627 => cond (t627.1 != 0) (some (.inr (none, (⟨([] : List RDag)⟩ : RView)))) (concourselaw10_build.l0 k t612 j630 (w64 (x622 + 1)) t627.2))) (some (.inl (x622, decide (x622 < (t612.length : Int)), x623)))
def concourselaw10_build.f (k : Nat) (a0 : List GMade) (a1 : List GMade) : Option ((Option VView) × RView) := (concourseref10_Made.f k a0 a1).bind fun t612 => (view_New.f).bind fun t615 => (concourselaw10_build.l0 k t612 k 0 t615).bind (fall fun (p619 : Int × Bool × VView) => (concourseref10_Build.f k t612).bind fun t620 => some (some p619.2.2, t620))
/-! concourse/concourseref01.Few: function 5 -/
def concourseref01_Few.f (a0 : ByteArray) (a1 : Int) : Option (ByteArray) := cond (decide (a1 < (a0.size : Int))) (grd ((0 : Int) ≤ a1 ∧ 0 ≤ a1.toNat ∧ a1.toNat ≤ a0.size) (some (a0.extract 0 a1.toNat))) (some a0)
/-! concourse/concourseref01.ThreadOf: function 8 -/
def concourseref01_ThreadOf.f (k : Nat) (a0 : Int) : Option (ByteArray) := (concourseref01_Around.f a0 11).bind fun t634 => cond (t634 == 9) (some (⟨#[]⟩ : ByteArray)) (cond (t634 == 10) (some (⟨#[109, 97, 105, 110]⟩ : ByteArray)) ((concourseref01_EventOf.f k t634).bind fun t638 => some t638))
/-! (*concourse/dag.Dag).Event: function 19 -/
def dag_Dag_Event.f (a0 : DDag) (a1 : ByteArray) : Option (Event × Bool) := (dag_Dag_Has.f a0 a1).bind fun t641 => cond (!t641) (some ((⟨(⟨#[]⟩ : ByteArray), (⟨#[]⟩ : ByteArray), ([] : List ByteArray), (⟨#[]⟩ : ByteArray), (⟨#[]⟩ : ByteArray), 0⟩ : Event), false)) (grd ((mget a0.fnodes a1).isSome = true) ((dag_own.f (((mget a0.fnodes a1).getD default).fe)).bind fun t649 => some (t649, true)))
/-! (*concourse/view.View).Fits: function 9 -/
def view_View_Fits.f (a0 : VView) (a1 : ByteArray) (a2 : ByteArray) (a3 : ByteArray) : Option (Int) := (view_View_room.f a0 a1).bind fun t651 => (dag_Dag_Event.f t651 a2).bind fun t656 => cond (!t656.2) (some 4) (cond (decide (a3 = (⟨#[]⟩ : ByteArray))) (cond (decide (a3 = (⟨#[]⟩ : ByteArray))) (some 0) (some 7)) (cond (decide (a3 = (⟨#[109, 97, 105, 110]⟩ : ByteArray))) (cond (decide (t656.1.fThread = (⟨#[]⟩ : ByteArray))) (cond (decide (t656.1.fThread = (⟨#[]⟩ : ByteArray))) (some 0) (some 7)) (cond (decide (a3 = a2)) (cond (decide (a3 = a2)) (some 0) (some 7)) (cond (decide (a3 = t656.1.fThread)) (some 0) (some 7)))) (cond (decide (a3 = a2)) (cond (decide (a3 = a2)) (some 0) (some 7)) (cond (decide (a3 = t656.1.fThread)) (some 0) (some 7)))))
/-! concourse/concourseref10.Fits: function 10 -/
def concourseref10_Fits.f (k : Nat) (a0 : RView) (a1 : ByteArray) (a2 : ByteArray) (a3 : ByteArray) : Option (Int) := (concourseref10_Of.f k a0 a1).bind fun t673 => (concourseref07_At.f k t673 a2).bind fun t676 => cond (decide (t676 < 0)) (some 4) (grd ((0 : Int) ≤ t676 ∧ t676 < (t673.fL.length : Int)) (cond (decide (a3 = (⟨#[]⟩ : ByteArray))) (some 0) (cond (decide (a3 = a2)) (some 0) (cond (decide (a3 = (⟨#[109, 97, 105, 110]⟩ : ByteArray))) (cond (decide (((Event.K.at t673.fL t676).fThread) = (⟨#[]⟩ : ByteArray))) (some 0) (cond (!decide (((Event.K.at t673.fL t676).fThread) = (⟨#[]⟩ : ByteArray))) (cond (decide (a3 = ((Event.K.at t673.fL t676).fThread))) (some 0) (some 7)) (some 7))) (cond (!decide (((Event.K.at t673.fL t676).fThread) = (⟨#[]⟩ : ByteArray))) (cond (decide (a3 = ((Event.K.at t673.fL t676).fThread))) (some 0) (some 7)) (some 7))))))
/-! concourse/concourselaw10.lives: function 11 -/
def concourselaw10_lives.f (k : Nat) : Option (Bool) := (view_New.f).bind fun t693 => (view_View_Add.f k t693 (⟨(⟨#[36, 116]⟩ : ByteArray), (⟨#[33, 114, 58, 115]⟩ : ByteArray), ([] : List ByteArray), (⟨#[]⟩ : ByteArray), (⟨#[64, 97, 58, 115]⟩ : ByteArray), 0⟩ : Event)).bind fun t697 => (view_View_Add.f k t697.2 (⟨(⟨#[36, 117]⟩ : ByteArray), (⟨#[33, 114, 58, 115]⟩ : ByteArray), ([] : List ByteArray), (⟨#[36, 116]⟩ : ByteArray), (⟨#[64, 97, 58, 115]⟩ : ByteArray), 0⟩ : Event)).bind fun t699 => (view_View_Fits.f t699.2 (⟨#[33, 114, 58, 115]⟩ : ByteArray) (⟨#[36, 117]⟩ : ByteArray) (⟨#[36, 116]⟩ : ByteArray)).bind fun t703 => cond (t703 == 0) ((view_View_Fits.f t699.2 (⟨#[33, 114, 58, 115]⟩ : ByteArray) (⟨#[36, 117]⟩ : ByteArray) (⟨#[109, 97, 105, 110]⟩ : ByteArray)).bind fun t706 => cond (t706 == 7) ((view_View_Fits.f t699.2 (⟨#[33, 114, 58, 115]⟩ : ByteArray) (⟨#[36, 116]⟩ : ByteArray) (⟨#[109, 97, 105, 110]⟩ : ByteArray)).bind fun t709 => cond (t709 == 0) ((view_View_Fits.f t699.2 (⟨#[33, 114, 58, 115]⟩ : ByteArray) (⟨#[36, 117]⟩ : ByteArray) (⟨#[]⟩ : ByteArray)).bind fun t712 => cond (t712 == 0) ((view_View_Fits.f t699.2 (⟨#[33, 114, 58, 115]⟩ : ByteArray) (⟨#[36, 120]⟩ : ByteArray) (⟨#[]⟩ : ByteArray)).bind fun t715 => some (t715 == 4)) (some false)) (some false)) (some false)) (some false)
/-! concourse/concourselaw10.ViewFits: function 3 -/
def concourselaw10_ViewFits.l2 (k : Nat) (t717 : (Option VView) × RView) (t722 : ByteArray) (t741 : ByteArray) (p748 : ByteArray) : Nat → Int → Option ((ByteArray × Int × Bool) ⊕ ((ByteArray × Int × Bool) ⊕ ((Int × Bool) ⊕ (Bool))))
  | 0, _ => none
  | j768 + 1, x749 => cond (decide (x749 < 12)) ((concourseref01_ThreadOf.f k (x749.tmod 11)).bind fun t751 => cond (x749 == 11) ((view_View_Fits.f (t717.1.getD default) t741 p748 t722).bind fun t756 => (concourseref10_Fits.f k t717.2 t741 p748 t722).bind fun t758 => cond (t756 != t758) (some (.inr (.inr (.inr false)))) (concourselaw10_ViewFits.l2 k t717 t722 t741 p748 j768 (w64 (x749 + 1)))) ((view_View_Fits.f (t717.1.getD default) t741 p748 t751).bind fun t763 => (concourseref10_Fits.f k t717.2 t741 p748 t751).bind fun t765 => cond (t763 != t765) (some (.inr (.inr (.inr false)))) (concourselaw10_ViewFits.l2 k t717 t722 t741 p748 j768 (w64 (x749 + 1))))) (some (.inl (p748, x749, decide (x749 < 12))))
def concourselaw10_ViewFits.l1 (k : Nat) (t717 : (Option VView) × RView) (t722 : ByteArray) (t741 : ByteArray) : Nat → Int → Option ((ByteArray × Int × Bool) ⊕ ((Int × Bool) ⊕ (Bool)))
  | 0, _ => none
  | j771 + 1, x743 => cond (decide (x743 < 10)) (((concourseref01_EventOf.f k (x743.tmod 9)).bind fun t746 => (cond (x743 == 9) (some t722) (some t746)).bind fun (p748 : ByteArray) => concourselaw10_ViewFits.l2 k t717 t722 t741 p748 k 0).bind (fall fun (p745 : ByteArray × Int × Bool) => concourselaw10_ViewFits.l1 k t717 t722 t741 j771 (w64 (x743 + 1)))) (some (.inl (t741, x743, decide (x743 < 10))))
def concourselaw10_ViewFits.l0 (k : Nat) (t717 : (Option VView) × RView) (t722 : ByteArray) : Nat → Int → Option ((Int × Bool) ⊕ (Bool))
  | 0, _ => none
  | j773 + 1, x738 => cond (decide (x738 < 2)) (((concourseref01_RoomOf.f x738).bind fun t741 => concourselaw10_ViewFits.l1 k t717 t722 t741 k 0).bind (fall fun (p740 : ByteArray × Int × Bool) => concourselaw10_ViewFits.l0 k t717 t722 j773 (w64 (x738 + 1)))) (some (.inl (x738, decide (x738 < 2))))
def concourselaw10_ViewFits.f (k : Nat) (a0 : List GMade) (a1 : List GMade) (a2 : ByteArray) : Option (Bool) := (concourselaw10_build.f k a0 a1).bind fun t717 => cond t717.1.isNone (some false) ((concourseref01_Few.f a2 6).bind fun t722 => (concourselaw10_ViewFits.l0 k t717 t722 k 0).bind (fall fun (p724 : Int × Bool) => (concourseref01_EventOf.f k 0).bind fun t727 => (view_View_Fits.f (t717.1.getD default) t722 t727 (⟨#[]⟩ : ByteArray)).bind fun t729 => (concourseref01_EventOf.f k 0).bind fun t731 => (concourseref10_Fits.f k t717.2 t722 t731 (⟨#[]⟩ : ByteArray)).bind fun t733 => cond (t729 == t733) ((concourselaw10_lives.f k).bind fun t736 => some t736) (some false)))
end Go.Proofs.Ytigmkniiojpdiaa
