/- The walks. -/
import Derived.Test.YtdbinmknbmlddaaChecked
import Derived.Test.YtdbinmknbmlddaaConQ
import Derived.Test.YtdbinmknbmlddaaConA3
import Derived.Eval
set_option linter.all false
set_option maxRecDepth 10000
set_option maxHeartbeats 20000000
namespace Go.Proofs.Ytdbinmknbmlddaa
open Go Go.Sp
theorem c101 : Try.prog.cellsOf 101 = 2 := by kernel_rfl
theorem c22 : Try.prog.cellsOf 22 = 1 := by kernel_rfl
theorem c3 : Try.prog.cellsOf 3 = 1 := by kernel_rfl
theorem c39 : Try.prog.cellsOf 39 = 6 := by kernel_rfl
theorem c4 : Try.prog.cellsOf 4 = 1 := by kernel_rfl
theorem c49 : Try.prog.cellsOf 49 = 1 := by kernel_rfl
theorem c89 : Try.prog.cellsOf 89 = 1 := by kernel_rfl
theorem c9 : Try.prog.cellsOf 9 = 1 := by kernel_rfl
theorem cal10 : callable Try.prog 10 = true := by kernel_rfl
theorem cal11 : callable Try.prog 11 = true := by kernel_rfl
theorem cal12 : callable Try.prog 12 = true := by kernel_rfl
theorem cal13 : callable Try.prog 13 = true := by kernel_rfl
theorem cal14 : callable Try.prog 14 = true := by kernel_rfl
theorem cal15 : callable Try.prog 15 = true := by kernel_rfl
theorem cal16 : callable Try.prog 16 = true := by kernel_rfl
theorem cal17 : callable Try.prog 17 = true := by kernel_rfl
theorem cal18 : callable Try.prog 18 = true := by kernel_rfl
theorem cal19 : callable Try.prog 19 = true := by kernel_rfl
theorem cal20 : callable Try.prog 20 = true := by kernel_rfl
theorem cal21 : callable Try.prog 21 = true := by kernel_rfl
theorem cal22 : callable Try.prog 22 = true := by kernel_rfl
theorem cal23 : callable Try.prog 23 = true := by kernel_rfl
theorem cal26 : callable Try.prog 26 = true := by kernel_rfl
theorem cal27 : callable Try.prog 27 = true := by kernel_rfl
theorem cal28 : callable Try.prog 28 = true := by kernel_rfl
theorem cal29 : callable Try.prog 29 = true := by kernel_rfl
theorem cal30 : callable Try.prog 30 = true := by kernel_rfl
theorem cal31 : callable Try.prog 31 = true := by kernel_rfl
theorem cal32 : callable Try.prog 32 = true := by kernel_rfl
theorem cal33 : callable Try.prog 33 = true := by kernel_rfl
theorem cal34 : callable Try.prog 34 = true := by kernel_rfl
theorem cal35 : callable Try.prog 35 = true := by kernel_rfl
theorem cal36 : callable Try.prog 36 = true := by kernel_rfl
theorem cal37 : callable Try.prog 37 = true := by kernel_rfl
theorem cal4 : callable Try.prog 4 = true := by kernel_rfl
theorem cal49 : callable Try.prog 49 = true := by kernel_rfl
theorem cal5 : callable Try.prog 5 = true := by kernel_rfl
theorem cal50 : callable Try.prog 50 = true := by kernel_rfl
theorem cal51 : callable Try.prog 51 = true := by kernel_rfl
theorem cal52 : callable Try.prog 52 = true := by kernel_rfl
theorem cal53 : callable Try.prog 53 = true := by kernel_rfl
theorem cal54 : callable Try.prog 54 = true := by kernel_rfl
theorem cal55 : callable Try.prog 55 = true := by kernel_rfl
theorem cal56 : callable Try.prog 56 = true := by kernel_rfl
theorem cal57 : callable Try.prog 57 = true := by kernel_rfl
theorem cal58 : callable Try.prog 58 = true := by kernel_rfl
theorem cal59 : callable Try.prog 59 = true := by kernel_rfl
theorem cal6 : callable Try.prog 6 = true := by kernel_rfl
theorem cal60 : callable Try.prog 60 = true := by kernel_rfl
theorem cal66 : callable Try.prog 66 = true := by kernel_rfl
theorem cal67 : callable Try.prog 67 = true := by kernel_rfl
theorem cal68 : callable Try.prog 68 = true := by kernel_rfl
theorem cal69 : callable Try.prog 69 = true := by kernel_rfl
theorem cal7 : callable Try.prog 7 = true := by kernel_rfl
theorem cal70 : callable Try.prog 70 = true := by kernel_rfl
theorem cal71 : callable Try.prog 71 = true := by kernel_rfl
theorem cal72 : callable Try.prog 72 = true := by kernel_rfl
theorem cal73 : callable Try.prog 73 = true := by kernel_rfl
theorem cal78 : callable Try.prog 78 = true := by kernel_rfl
theorem cal8 : callable Try.prog 8 = true := by kernel_rfl
theorem cal80 : callable Try.prog 80 = true := by kernel_rfl
theorem cal81 : callable Try.prog 81 = true := by kernel_rfl
theorem cal82 : callable Try.prog 82 = true := by kernel_rfl
theorem cal86 : callable Try.prog 86 = true := by kernel_rfl
theorem cal87 : callable Try.prog 87 = true := by kernel_rfl
theorem cal88 : callable Try.prog 88 = true := by kernel_rfl
theorem cal9 : callable Try.prog 9 = true := by kernel_rfl
theorem cal97 : callable Try.prog 97 = true := by kernel_rfl
theorem inf101 : ∃ i, Try.prog.info? 101 = some i ∧ i.size = 2 ∧ i.zero = some (.agg #[.int .i64 0, .string ⟨#[]⟩]) ∧ i.bytes = 24 := inf_of (by kernel_rfl) (by kernel_rfl) (by kernel_rfl)
theorem inf39 : ∃ i, Try.prog.info? 39 = some i ∧ i.size = 6 ∧ i.zero = some (.agg #[.string ⟨#[]⟩, .string ⟨#[]⟩, .slice none 0 0, .string ⟨#[]⟩, .string ⟨#[]⟩, .int .i64 0]) ∧ i.bytes = 96 := inf_of (by kernel_rfl) (by kernel_rfl) (by kernel_rfl)
theorem inf9 : ∃ i, Try.prog.info? 9 = some i ∧ i.size = 1 ∧ i.zero = some (.string ⟨#[]⟩) ∧ i.bytes = 16 := inf_of (by kernel_rfl) (by kernel_rfl) (by kernel_rfl)
theorem fa101_0 : FA Try.prog 101 0 0 := ⟨_, _, _, _, Try.underlying101, rfl, Try.underlying3, c3, by decide, rfl⟩
theorem fa101_1 : FA Try.prog 101 1 1 := ⟨_, _, _, _, Try.underlying101, rfl, Try.underlying9, c9, by decide, rfl⟩
theorem fa39_0 : FA Try.prog 39 0 0 := ⟨_, _, _, _, Try.underlying39, rfl, Try.underlying9, c9, by decide, rfl⟩
theorem fa39_1 : FA Try.prog 39 1 1 := ⟨_, _, _, _, Try.underlying39, rfl, Try.underlying9, c9, by decide, rfl⟩
theorem fa39_2 : FA Try.prog 39 2 2 := ⟨_, _, _, _, Try.underlying39, rfl, Try.underlying22, c22, by decide, rfl⟩
theorem fa39_3 : FA Try.prog 39 3 3 := ⟨_, _, _, _, Try.underlying39, rfl, Try.underlying9, c9, by decide, rfl⟩
theorem fa39_4 : FA Try.prog 39 4 4 := ⟨_, _, _, _, Try.underlying39, rfl, Try.underlying9, c9, by decide, rfl⟩
theorem fa39_5 : FA Try.prog 39 5 5 := ⟨_, _, _, _, Try.underlying39, rfl, Try.underlying3, c3, by decide, rfl⟩
theorem fa51_0 : FA Try.prog 51 0 0 := ⟨_, _, _, _, Try.underlying51, rfl, Try.underlying9, c9, by decide, rfl⟩
theorem fa51_1 : FA Try.prog 51 1 1 := ⟨_, _, _, _, Try.underlying51, rfl, Try.underlying49, c49, by decide, rfl⟩
theorem fa56_0 : FA Try.prog 56 0 0 := ⟨_, _, _, _, Try.underlying56, rfl, Try.underlying39, c39, by decide, rfl⟩
theorem fa56_1 : FA Try.prog 56 1 6 := ⟨_, _, _, _, Try.underlying56, rfl, Try.underlying3, c3, by decide, rfl⟩
theorem fa56_2 : FA Try.prog 56 2 7 := ⟨_, _, _, _, Try.underlying56, rfl, Try.underlying4, c4, by decide, rfl⟩
theorem sc22 : SC Try.prog 22 := ⟨_, Try.underlying22, rfl⟩
theorem sc3 : SC Try.prog 3 := ⟨_, Try.underlying3, rfl⟩
theorem sc34 : SC Try.prog 34 := ⟨_, Try.underlying34, rfl⟩
theorem sc49 : SC Try.prog 49 := ⟨_, Try.underlying49, rfl⟩
theorem sc9 : SC Try.prog 9 := ⟨_, Try.underlying9, rfl⟩
theorem sg39 : SG Try.prog 39 6 := ⟨_, Try.underlying39, rfl, c39⟩
theorem sz101 : SZ Try.prog 101 2 := ⟨_, Try.underlying101, c101⟩
theorem sz22 : SZ Try.prog 22 1 := ⟨_, Try.underlying22, c22⟩
theorem sz3 : SZ Try.prog 3 1 := ⟨_, Try.underlying3, c3⟩
theorem sz39 : SZ Try.prog 39 6 := ⟨_, Try.underlying39, c39⟩
theorem sz4 : SZ Try.prog 4 1 := ⟨_, Try.underlying4, c4⟩
theorem pl101 : plcT Try.prog 101 = true := by kernel_rfl
theorem pl39 : plcT Try.prog 39 = true := by kernel_rfl
theorem pl51 : plcT Try.prog 51 = true := by kernel_rfl
theorem pl56 : plcT Try.prog 56 = true := by kernel_rfl
theorem xf83 : (Extern.findNext Try.f83).isNone = true := by kernel_rfl
theorem xg83 : Extern.find Try.f83 = some Extern.BytealgIndexByte.indexByte := by rfl
theorem z101 : zer Try.prog 101 = some (.agg #[.int .i64 0, .string ⟨#[]⟩]) := by kernel_rfl
theorem z3 : zer Try.prog 3 = some (.int .i64 0) := by kernel_rfl
theorem z39 : zer Try.prog 39 = some (.agg #[.string ⟨#[]⟩, .string ⟨#[]⟩, .slice none 0 0, .string ⟨#[]⟩, .string ⟨#[]⟩, .int .i64 0]) := by kernel_rfl
theorem z51 : zer Try.prog 51 = some (.agg #[.string ⟨#[]⟩, .map none]) := by kernel_rfl
theorem z54 : zer Try.prog 54 = some (.pointer none) := by kernel_rfl
theorem z56 : zer Try.prog 56 = some (.agg #[.string ⟨#[]⟩, .string ⟨#[]⟩, .slice none 0 0, .string ⟨#[]⟩, .string ⟨#[]⟩, .int .i64 0, .int .i64 0, .bool false]) := by kernel_rfl
theorem z9 : zer Try.prog 9 = some (.string ⟨#[]⟩) := by kernel_rfl
theorem z93 : zer Try.prog 93 = some (.agg #[.nilFunc, .nilFunc, .nilFunc]) := by kernel_rfl
theorem zc101 : ZC Try.prog 101 [eq (.int .i64 0), eq (.string (⟨#[]⟩ : ByteArray))] := ⟨_, z101, rfl⟩
theorem zc39 : ZC Try.prog 39 [eq (.string (⟨#[]⟩ : ByteArray)), eq (.string (⟨#[]⟩ : ByteArray)), eq (.slice none 0 0), eq (.string (⟨#[]⟩ : ByteArray)), eq (.string (⟨#[]⟩ : ByteArray)), eq (.int .i64 0)] := ⟨_, z39, rfl⟩
structure Event where
  fID : ByteArray
  fRoom : ByteArray
  fParents : List ByteArray
  fThread : ByteArray
  fUser : ByteArray
  fDoes : Int
  deriving DecidableEq, Inhabited
abbrev Event.enc (x : Event) : Cs := [eq (.string x.fID), eq (.string x.fRoom), sl strK x.fParents, eq (.string x.fThread), eq (.string x.fUser), eq (.int .i64 x.fDoes)]
abbrev Event.K : Kd Event := ⟨6, default, Event.enc, fun _ => rfl, fun _ => (ones_cons (one_eq rfl) (ones_cons (one_eq rfl) (ones_cons one_sl (ones_cons (one_eq rfl) (ones_cons (one_eq rfl) (ones_cons (one_eq rfl) ones_nil))))))⟩
structure DNode where
  fe : Event
  fdepth : Int
  fparent : Bool
  deriving DecidableEq, Inhabited
abbrev DNode.enc (x : DNode) : Cs := [eq (.string x.fe.fID), eq (.string x.fe.fRoom), sl strK x.fe.fParents, eq (.string x.fe.fThread), eq (.string x.fe.fUser), eq (.int .i64 x.fe.fDoes), eq (.int .i64 x.fdepth), eq (.bool x.fparent)]
abbrev DNode.K : Kd DNode := ⟨8, default, DNode.enc, fun _ => rfl, fun _ => (ones_cons (one_eq rfl) (ones_cons (one_eq rfl) (ones_cons one_sl (ones_cons (one_eq rfl) (ones_cons (one_eq rfl) (ones_cons (one_eq rfl) (ones_cons (one_eq rfl) (ones_cons (one_eq rfl) ones_nil))))))))⟩
structure DDag where
  froom : ByteArray
  fnodes : List (ByteArray × DNode)
  deriving DecidableEq, Inhabited
structure Pos where
  fDepth : Int
  fID : ByteArray
  deriving DecidableEq, Inhabited
abbrev Pos.enc (x : Pos) : Cs := [eq (.int .i64 x.fDepth), eq (.string x.fID)]
abbrev Pos.K : Kd Pos := ⟨2, default, Pos.enc, fun _ => rfl, fun _ => (ones_cons (one_eq rfl) (ones_cons (one_eq rfl) ones_nil))⟩

def fqQ_uint8_bool (g : Int → Option Bool) : List VP → VP → Prop := fun vs ret => ∃ a0 r, g a0 = some r ∧ vs = [eq (.int .u8 a0)] ∧ ret = eq (.bool r)
def fq_uint8_bool (g : Int → Option Bool) : VP := fnq Try.prog (fqQ_uint8_bool g)
def fx_uint8_bool (X : As) (g : Int → Option Bool) : VP := fnx Try.prog X (fqQ_uint8_bool g)
def fK_uint8_bool : Kd (Int → Option Bool) := ⟨1, fun _ => none, fun g => [fq_uint8_bool g], fun _ => rfl, fun _ p h R v hv => by simp at h; subst h; exact one_fnq R v hv⟩
def DNode.O (p : OV) (m : DNode) : As := exA (γ := Nat) (fun g => p.1 = .pointer (some ⟨g, 0, none⟩)) (fun g => [blk g 56 [eq (.string m.fe.fID), eq (.string m.fe.fRoom), sl strK m.fe.fParents, eq (.string m.fe.fThread), eq (.string m.fe.fUser), eq (.int .i64 m.fe.fDoes), eq (.int .i64 m.fdepth), eq (.bool m.fparent)]])
theorem DNode.nn {p : OV} {m : DNode} : NN (DNode.O p m) p.1 := by unfold DNode.O; exact nn_ex (γ := Nat) (b := fun g => g)
theorem DNode.opn {l : List As} {p : OV} {m : DNode} (j : Nat) (hj : l[j]? = some (DNode.O p m)) : ∀ R w, St R l w → ∃ g : Nat, p.1 = .pointer (some ⟨g, 0, none⟩) ∧ St R ([blk g 56 [eq (.string m.fe.fID), eq (.string m.fe.fRoom), sl strK m.fe.fParents, eq (.string m.fe.fThread), eq (.string m.fe.fUser), eq (.int .i64 m.fe.fDoes), eq (.int .i64 m.fdepth), eq (.bool m.fparent)]] ++ l.eraseIdx j) w := st_open j hj
theorem DNode.shut {l r : List As} {p : OV} {m : DNode} (g : Nat) (hg : p.1 = .pointer (some ⟨g, 0, none⟩)) (hp : l.Perm ([blk g 56 [eq (.string m.fe.fID), eq (.string m.fe.fRoom), sl strK m.fe.fParents, eq (.string m.fe.fThread), eq (.string m.fe.fUser), eq (.int .i64 m.fe.fDoes), eq (.int .i64 m.fdepth), eq (.bool m.fparent)]] ++ r)) : ∀ R w, St R l w → ∃ _ : Unit, True ∧ St R (DNode.O p m :: r) w := st_shut _ _ g hg hp
def DDag.O (p : OV) (m : DDag) : As := exA (γ := Nat × OV) (fun g => p.1 = .pointer (some ⟨g.1, 0, none⟩)) (fun g => [blk g.1 51 [eq (.string m.froom), eq g.2.1], mpo Value.string DNode.O g.2.1 m.fnodes])
theorem DDag.nn {p : OV} {m : DDag} : NN (DDag.O p m) p.1 := by unfold DDag.O; exact nn_ex (γ := Nat × OV) (b := fun g => g.1)
theorem DDag.opn {l : List As} {p : OV} {m : DDag} (j : Nat) (hj : l[j]? = some (DDag.O p m)) : ∀ R w, St R l w → ∃ g : Nat × OV, p.1 = .pointer (some ⟨g.1, 0, none⟩) ∧ St R ([blk g.1 51 [eq (.string m.froom), eq g.2.1], mpo Value.string DNode.O g.2.1 m.fnodes] ++ l.eraseIdx j) w := st_open j hj
theorem DDag.shut {l r : List As} {p : OV} {m : DDag} (g : Nat × OV) (hg : p.1 = .pointer (some ⟨g.1, 0, none⟩)) (hp : l.Perm ([blk g.1 51 [eq (.string m.froom), eq g.2.1], mpo Value.string DNode.O g.2.1 m.fnodes] ++ r)) : ∀ R w, St R l w → ∃ _ : Unit, True ∧ St R (DDag.O p m :: r) w := st_shut _ _ g hg hp
def fqQ_string_bool (g : ByteArray → Option Bool) : List VP → VP → Prop := fun vs ret => ∃ a0 r, g a0 = some r ∧ vs = [eq (.string a0)] ∧ ret = eq (.bool r)
def fq_string_bool (g : ByteArray → Option Bool) : VP := fnq Try.prog (fqQ_string_bool g)
def fx_string_bool (X : As) (g : ByteArray → Option Bool) : VP := fnx Try.prog X (fqQ_string_bool g)
def fK_string_bool : Kd (ByteArray → Option Bool) := ⟨1, fun _ => none, fun g => [fq_string_bool g], fun _ => rfl, fun _ p h R v hv => by simp at h; subst h; exact one_fnq R v hv⟩
/-! concourse/concourseref01.Few: function 4 -/
def concourseref01_Few.f (a0 : ByteArray) (a1 : Int) : Option (ByteArray) := cond (decide (a1 < (a0.size : Int))) (grd ((0 : Int) ≤ a1 ∧ 0 ≤ a1.toNat ∧ a1.toNat ≤ a0.size) (some (a0.extract 0 a1.toNat))) (some a0)
/-! concourse/concourseref01.Around: function 10 -/
def concourseref01_Around.f (a0 : Int) (a1 : Int) : Option (Int) := cond (decide (a0 < 0)) (grd (a1 ≠ 0) (some ((w64 (0 - (w64 (a0 + 1)))).tmod a1))) (grd (a1 ≠ 0) (some (a0.tmod a1)))
/-! concourse/concourseref01.ServerOf: function 11 -/
def concourseref01_ServerOf.f (a0 : Int) : Option (ByteArray) := (concourseref01_Around.f a0 3).bind fun t6 => grd ((0 : Int) ≤ t6 ∧ t6 < (([(⟨#[115, 49]⟩ : ByteArray), (⟨#[115, 50]⟩ : ByteArray), (⟨#[115, 51]⟩ : ByteArray)] : List ByteArray).length : Int)) (some (strK.at ([(⟨#[115, 49]⟩ : ByteArray), (⟨#[115, 50]⟩ : ByteArray), (⟨#[115, 51]⟩ : ByteArray)] : List ByteArray) t6))
/-! concourse/concourseref01.UserOf: function 5 -/
def concourseref01_UserOf.f (a0 : Int) : Option (ByteArray) := (concourseref01_Around.f a0 9).bind fun t9 => grd ((0 : Int) ≤ (w64 (t9.tdiv 3)) ∧ (w64 (t9.tdiv 3)) < (([(⟨#[64, 97, 58]⟩ : ByteArray), (⟨#[64, 98, 58]⟩ : ByteArray), (⟨#[64, 99, 58]⟩ : ByteArray)] : List ByteArray).length : Int)) ((concourseref01_ServerOf.f (t9.tmod 3)).bind fun t12 => grd ((strK.at ([(⟨#[64, 97, 58]⟩ : ByteArray), (⟨#[64, 98, 58]⟩ : ByteArray), (⟨#[64, 99, 58]⟩ : ByteArray)] : List ByteArray) (w64 (t9.tdiv 3))).size + t12.size ≤ 9223372036854775807) (some ((strK.at ([(⟨#[64, 97, 58]⟩ : ByteArray), (⟨#[64, 98, 58]⟩ : ByteArray), (⟨#[64, 99, 58]⟩ : ByteArray)] : List ByteArray) (w64 (t9.tdiv 3))) ++ t12)))
/-! concourse/concourseref01.SameTexts: function 6 -/
def concourseref01_SameTexts.l0 (k : Nat) (a0 : List ByteArray) (a1 : List ByteArray) : Nat → Int → Option ((Int × Bool) ⊕ (Bool))
  | 0, _ => none
  | j22 + 1, x17 => cond (decide (x17 < (a0.length : Int))) (grd ((0 : Int) ≤ x17 ∧ x17 < (a0.length : Int)) (grd ((0 : Int) ≤ x17 ∧ x17 < (a1.length : Int)) (cond (!decide ((strK.at a0 x17) = (strK.at a1 x17))) (some (.inr false)) (concourseref01_SameTexts.l0 k a0 a1 j22 (w64 (x17 + 1)))))) (some (.inl (x17, decide (x17 < (a0.length : Int)))))
def concourseref01_SameTexts.f (k : Nat) (a0 : List ByteArray) (a1 : List ByteArray) : Option (Bool) := cond ((a0.length : Int) != (a1.length : Int)) (some false) ((concourseref01_SameTexts.l0 k a0 a1 k 0).bind (fall fun (p16 : Int × Bool) => some true))
/-! internal/stringslite.IndexByte: function 73 -/
def stringslite_IndexByte.f (a0 : ByteArray) (a1 : Int) : Option (Int) := some (idxB a0 a1)
/-! internal/bytealg.Cutover: function 75 -/
def bytealg_Cutover.f (a0 : Int) : Option (Int) := some (w64 ((w64 (a0 + 16)).tdiv 8))
/-! internal/stringslite.Index: function 60 -/
def stringslite_Index.f (a0 : ByteArray) (a1 : ByteArray) : Option (Int) := cond ((a1.size : Int) == 0) (some 0) (cond (decide (a1 = a0)) (some 0) (cond ((a1.size : Int) == 1) (grd ((0 : Int) ≤ 0 ∧ 0 < (a1.size : Int)) ((stringslite_IndexByte.f a0 (bt a1 0)).bind fun t31 => some t31)) (cond (decide ((a0.size : Int) ≤ (a1.size : Int))) (some (-1)) (none))))
/-! internal/stringslite.Cut: function 37 -/
def stringslite_Cut.f (a0 : ByteArray) (a1 : ByteArray) : Option (ByteArray × ByteArray × Bool) := (stringslite_Index.f a0 a1).bind fun t34 => cond (decide (0 ≤ t34)) (grd ((0 : Int) ≤ t34 ∧ 0 ≤ t34.toNat ∧ t34.toNat ≤ a0.size) (grd ((0 : Int) ≤ (w64 (t34 + (a1.size : Int))) ∧ (w64 (t34 + (a1.size : Int))).toNat ≤ a0.size ∧ a0.size ≤ a0.size) (some (a0.extract 0 t34.toNat, a0.extract (w64 (t34 + (a1.size : Int))).toNat a0.size, true)))) (some (a0, (⟨#[]⟩ : ByteArray), false))
/-! strings.Cut: function 23 -/
def strings_Cut.f (a0 : ByteArray) (a1 : ByteArray) : Option (ByteArray × ByteArray × Bool) := (stringslite_Cut.f a0 a1).bind fun t39 => some (t39.1, t39.2.1, t39.2.2)
/-! internal/stringslite.HasPrefix: function 80 -/
def stringslite_HasPrefix.f (a0 : ByteArray) (a1 : ByteArray) : Option (Bool) := cond (decide ((a1.size : Int) ≤ (a0.size : Int))) (grd ((0 : Int) ≤ (a1.size : Int) ∧ 0 ≤ (a1.size : Int).toNat ∧ (a1.size : Int).toNat ≤ a0.size) (some (decide ((a0.extract 0 ((a1.size : Int).toNat)) = a1)))) (some false)
/-! internal/stringslite.CutPrefix: function 70 -/
def stringslite_CutPrefix.f (a0 : ByteArray) (a1 : ByteArray) : Option (ByteArray × Bool) := (stringslite_HasPrefix.f a0 a1).bind fun t43 => cond (!t43) (some (a0, false)) (grd ((0 : Int) ≤ (a1.size : Int) ∧ (a1.size : Int).toNat ≤ a0.size ∧ a0.size ≤ a0.size) (some (a0.extract (a1.size : Int).toNat a0.size, true)))
/-! strings.CutPrefix: function 57 -/
def strings_CutPrefix.f (a0 : ByteArray) (a1 : ByteArray) : Option (ByteArray × Bool) := (stringslite_CutPrefix.f a0 a1).bind fun t47 => some (t47.1, t47.2)
/-! concourse/name.small: function 72 -/
def name_small.f (a0 : Int) : Option (Bool) := cond (decide (97 ≤ a0)) (cond (decide (a0 ≤ 122)) (some true) (cond (decide (48 ≤ a0)) (some (decide (a0 ≤ 57))) (some false))) (cond (decide (48 ≤ a0)) (some (decide (a0 ≤ 57))) (some false))
/-! strings.IndexByte: function 82 -/
def strings_IndexByte.f (a0 : ByteArray) (a1 : Int) : Option (Int) := (stringslite_IndexByte.f a0 a1).bind fun t53 => some t53
/-! concourse/name.among$1: function 81 -/
def name_among_1.f (a0 : Int) (c0 : ByteArray) : Option (Bool) := (name_small.f a0).bind fun t55 => cond t55 (some true) ((strings_IndexByte.f c0 a0).bind fun t58 => some (decide (0 ≤ t58)))
/-! concourse/name.among: function 71 -/
def name_among.f (a0 : ByteArray) : Option ((Int → Option Bool)) := some (fun a0_ => name_among_1.f a0_ a0)
/-! concourse/name.may: function 58 -/
def name_may.l0 (k : Nat) (a0 : ByteArray) (a1 : Int) (t61 : (Int → Option Bool)) (t63 : (Int → Option Bool)) (t65 : (Int → Option Bool)) : Nat → Int → Option ((Int × Bool) ⊕ (Bool))
  | 0, _ => none
  | j76 + 1, x70 => cond (decide (x70 < (a0.size : Int))) (grd ((0 : Int) ≤ x70 ∧ x70 < (a0.size : Int)) (((fK_uint8_bool.at ([t61, t63, t65] : List (Int → Option Bool)) a1) (bt a0 x70)).bind fun t73 => cond (!t73) (some (.inr false)) (name_may.l0 k a0 a1 t61 t63 t65 j76 (w64 (x70 + 1))))) (some (.inl (x70, decide (x70 < (a0.size : Int)))))
def name_may.f (k : Nat) (a0 : ByteArray) (a1 : Int) : Option (Bool) := (name_among.f (⟨#[46, 45, 95]⟩ : ByteArray)).bind fun t61 => (name_among.f (⟨#[46, 45]⟩ : ByteArray)).bind fun t63 => (name_among.f (⟨#[45, 95, 65, 66, 67, 68, 69, 70, 71, 72, 73, 74, 75, 76, 77, 78, 79, 80, 81, 82, 83, 84, 85, 86, 87, 88, 89, 90]⟩ : ByteArray)).bind fun t65 => grd ((0 : Int) ≤ a1 ∧ a1 < (3 : Int)) ((name_may.l0 k a0 a1 t61 t63 t65 k 0).bind (fall fun (p68 : Int × Bool) => cond (!decide (a0 = (⟨#[]⟩ : ByteArray))) (some (decide ((a0.size : Int) ≤ 16))) (some false)))
/-! concourse/name.Server: function 59 -/
def name_Server.f (k : Nat) (a0 : ByteArray) : Option (Bool) := (name_may.f k a0 1).bind fun t78 => cond t78 (grd ((0 : Int) ≤ 0 ∧ 0 < (a0.size : Int)) ((name_small.f (bt a0 0)).bind fun t82 => cond t82 (grd ((0 : Int) ≤ (w64 ((a0.size : Int) - 1)) ∧ (w64 ((a0.size : Int) - 1)) < (a0.size : Int)) ((name_small.f (bt a0 (w64 ((a0.size : Int) - 1)))).bind fun t86 => some t86)) (some false))) (some false)
/-! concourse/name.split: function 36 -/
def name_split.f (k : Nat) (a0 : ByteArray) (a1 : ByteArray) : Option (ByteArray × ByteArray × Bool) := (strings_CutPrefix.f a0 a1).bind fun t88 => (strings_Cut.f t88.1 (⟨#[58]⟩ : ByteArray)).bind fun t90 => cond t88.2 (cond t90.2.2 ((name_may.f k t90.1 0).bind fun t94 => cond t94 ((name_Server.f k t90.2.1).bind fun t97 => some (t90.1, t90.2.1, t97)) (some (t90.1, t90.2.1, false))) (some (t90.1, t90.2.1, false))) (some (t90.1, t90.2.1, false))
/-! concourse/name.User: function 21 -/
def name_User.f (k : Nat) (a0 : ByteArray) : Option (Bool) := (name_split.f k a0 (⟨#[64]⟩ : ByteArray)).bind fun t99 => some t99.2.2
/-! concourse/name.Room: function 22 -/
def name_Room.f (k : Nat) (a0 : ByteArray) : Option (Bool) := (name_split.f k a0 (⟨#[33]⟩ : ByteArray)).bind fun t101 => some t101.2.2
/-! concourse/name.Home: function 12 -/
def name_Home.f (k : Nat) (a0 : ByteArray) : Option (ByteArray) := (name_User.f k a0).bind fun t103 => cond (!t103) ((name_Room.f k a0).bind fun t106 => cond (!t106) (some (⟨#[]⟩ : ByteArray)) ((strings_Cut.f a0 (⟨#[58]⟩ : ByteArray)).bind fun t109 => some t109.2.1)) ((strings_Cut.f a0 (⟨#[58]⟩ : ByteArray)).bind fun t112 => some t112.2.1)
/-! slices.Sort[[]string,string] -/
def slices_Sort_string.f (xs : List ByteArray) : Option (List ByteArray) := grd (xs.length < 4611686018427387904) (some (srtS xs))
/-! slices.Compact[[]string,string] -/
def slices_Compact_string.f (xs : List ByteArray) : Option (List ByteArray) := grd (xs.length ≤ 9223372036854775807) (some (cmpctS xs))
/-! concourse/member.Homes: function 7 -/
def member_Homes.l0 (k : Nat) (a0 : List ByteArray) : Nat → Int → List ByteArray → Option (Int × Bool × (List ByteArray))
  | 0, _, _ => none
  | j131 + 1, x121, x122 => cond (decide (x121 < (a0.length : Int))) (grd ((0 : Int) ≤ x121 ∧ x121 < (a0.length : Int)) ((name_Home.f k (strK.at a0 x121)).bind fun t126 => cond (!decide (t126 = (⟨#[]⟩ : ByteArray))) (grd (x122.length + ([t126] : List ByteArray).length ≤ 9223372036854775807 ∧ (x122.length + ([t126] : List ByteArray).length) * 16 ≤ 140737488355328) (member_Homes.l0 k a0 j131 (w64 (x121 + 1)) (x122 ++ ([t126] : List ByteArray)))) (member_Homes.l0 k a0 j131 (w64 (x121 + 1)) x122))) (some (x121, decide (x121 < (a0.length : Int)), x122))
def member_Homes.f (k : Nat) (a0 : List ByteArray) : Option ((List ByteArray)) := (member_Homes.l0 k a0 k 0 ([] : List ByteArray)).bind fun (p114 : Int × Bool × (List ByteArray)) => (slices_Sort_string.f p114.2.2).bind fun t116 => (slices_Compact_string.f t116).bind fun t118 => some t118
/-! concourse/concourseref01.colon: function 27 -/
def concourseref01_colon.l0 (k : Nat) (a0 : ByteArray) : Nat → Int → Option ((Int × Bool) ⊕ (Int))
  | 0, _ => none
  | j139 + 1, x135 => cond (decide (x135 < (a0.size : Int))) (grd ((0 : Int) ≤ x135 ∧ x135 < (a0.size : Int)) (cond ((bt a0 x135) == 58) (some (.inr x135)) (concourseref01_colon.l0 k a0 j139 (w64 (x135 + 1))))) (some (.inl (x135, decide (x135 < (a0.size : Int)))))
def concourseref01_colon.f (k : Nat) (a0 : ByteArray) : Option (Int) := (concourseref01_colon.l0 k a0 k 0).bind (fall fun (p134 : Int × Bool) => some (-1))
/-! concourse/concourseref01.low: function 67 -/
def concourseref01_low.f (a0 : Int) : Option (Bool) := cond (decide (97 ≤ a0)) (cond (decide (a0 ≤ 122)) (some true) (cond (decide (48 ≤ a0)) (some (decide (a0 ≤ 57))) (some false))) (cond (decide (48 ≤ a0)) (some (decide (a0 ≤ 57))) (some false))
/-! concourse/concourseref01.Part: function 49 -/
def concourseref01_Part.l0 (k : Nat) (a0 : ByteArray) : Nat → Int → Option ((Int × Bool) ⊕ (Bool))
  | 0, _ => none
  | j162 + 1, x147 => cond (decide (x147 < (a0.size : Int))) (grd ((0 : Int) ≤ x147 ∧ x147 < (a0.size : Int)) ((concourseref01_low.f (bt a0 x147)).bind fun t150 => cond (!t150) (grd ((0 : Int) ≤ x147 ∧ x147 < (a0.size : Int)) (cond ((bt a0 x147) != 46) (grd ((0 : Int) ≤ x147 ∧ x147 < (a0.size : Int)) (cond ((bt a0 x147) != 45) (grd ((0 : Int) ≤ x147 ∧ x147 < (a0.size : Int)) (cond ((bt a0 x147) != 95) (some (.inr false)) (concourseref01_Part.l0 k a0 j162 (w64 (x147 + 1))))) (concourseref01_Part.l0 k a0 j162 (w64 (x147 + 1))))) (concourseref01_Part.l0 k a0 j162 (w64 (x147 + 1))))) (concourseref01_Part.l0 k a0 j162 (w64 (x147 + 1))))) (some (.inl (x147, decide (x147 < (a0.size : Int)))))
def concourseref01_Part.f (k : Nat) (a0 : ByteArray) : Option (Bool) := (concourseref01_Part.l0 k a0 k 0).bind (fall fun (p145 : Int × Bool) => cond (decide (0 < (a0.size : Int))) (some (decide ((a0.size : Int) < 17))) (some false))
/-! concourse/concourseref01.Server: function 50 -/
def concourseref01_Server.l0 (k : Nat) (a0 : ByteArray) : Nat → Int → Option ((Int × Bool) ⊕ (Bool))
  | 0, _ => none
  | j188 + 1, x166 => cond (decide (x166 < (a0.size : Int))) (grd ((0 : Int) ≤ x166 ∧ x166 < (a0.size : Int)) ((concourseref01_low.f (bt a0 x166)).bind fun t169 => cond (decide (0 < x166)) (cond (decide (x166 < (w64 ((a0.size : Int) - 1)))) (grd ((0 : Int) ≤ x166 ∧ x166 < (a0.size : Int)) (cond ((bt a0 x166) == 46) (cond (!t169) (concourseref01_Server.l0 k a0 j188 (w64 (x166 + 1))) (concourseref01_Server.l0 k a0 j188 (w64 (x166 + 1)))) (grd ((0 : Int) ≤ x166 ∧ x166 < (a0.size : Int)) (cond (!t169) (cond (!((bt a0 x166) == 45)) (some (.inr false)) (concourseref01_Server.l0 k a0 j188 (w64 (x166 + 1)))) (concourseref01_Server.l0 k a0 j188 (w64 (x166 + 1))))))) (cond (!t169) (some (.inr false)) (concourseref01_Server.l0 k a0 j188 (w64 (x166 + 1))))) (cond (!t169) (some (.inr false)) (concourseref01_Server.l0 k a0 j188 (w64 (x166 + 1)))))) (some (.inl (x166, decide (x166 < (a0.size : Int)))))
def concourseref01_Server.f (k : Nat) (a0 : ByteArray) : Option (Bool) := (concourseref01_Server.l0 k a0 k 0).bind (fall fun (p164 : Int × Bool) => cond (decide (0 < (a0.size : Int))) (some (decide ((a0.size : Int) < 17))) (some false))
/-! concourse/concourseref01.Named: function 26 -/
def concourseref01_Named.f (k : Nat) (a0 : ByteArray) (a1 : Int) : Option (Bool) := (concourseref01_colon.f k a0).bind fun t190 => cond (decide (t190 < 1)) (some false) (grd ((0 : Int) ≤ 0 ∧ 0 < (a0.size : Int)) (cond ((bt a0 0) != a1) (some false) (grd ((0 : Int) ≤ 1 ∧ (0 : Int) ≤ t190 ∧ (1 : Int).toNat ≤ t190.toNat ∧ t190.toNat ≤ a0.size) ((concourseref01_Part.f k (a0.extract (1 : Int).toNat t190.toNat)).bind fun t197 => grd ((0 : Int) ≤ (w64 (t190 + 1)) ∧ (w64 (t190 + 1)).toNat ≤ a0.size ∧ a0.size ≤ a0.size) ((concourseref01_Server.f k (a0.extract (w64 (t190 + 1)).toNat a0.size)).bind fun t200 => cond t197 (some t200) (some false))))))
/-! concourse/concourseref01.Home: function 15 -/
def concourseref01_Home.f (k : Nat) (a0 : ByteArray) : Option (ByteArray) := (concourseref01_Named.f k a0 64).bind fun t203 => (concourseref01_Named.f k a0 33).bind fun t205 => cond (!t203) (cond (!t205) (some (⟨#[]⟩ : ByteArray)) ((concourseref01_colon.f k a0).bind fun t209 => grd ((0 : Int) ≤ (w64 (t209 + 1)) ∧ (w64 (t209 + 1)).toNat ≤ a0.size ∧ a0.size ≤ a0.size) (some (a0.extract (w64 (t209 + 1)).toNat a0.size)))) ((concourseref01_colon.f k a0).bind fun t213 => grd ((0 : Int) ≤ (w64 (t213 + 1)) ∧ (w64 (t213 + 1)).toNat ≤ a0.size ∧ a0.size ≤ a0.size) (some (a0.extract (w64 (t213 + 1)).toNat a0.size)))
/-! concourse/concourseref09.Put: function 16 -/
def concourseref09_Put.l0 (k : Nat) (a0 : List ByteArray) (a1 : ByteArray) : Nat → Bool → Int → List ByteArray → Option (Bool × Int × Bool × (List ByteArray))
  | 0, _, _, _ => none
  | j240 + 1, x221, x222, x223 => cond (decide (x222 < (a0.length : Int))) ((cond (!x221) (grd ((0 : Int) ≤ x222 ∧ x222 < (a0.length : Int)) (cond (!sLt (strK.at a0 x222) a1) (grd (x223.length + ([a1] : List ByteArray).length ≤ 9223372036854775807 ∧ (x223.length + ([a1] : List ByteArray).length) * 16 ≤ 140737488355328) (some (true, !sLt (strK.at a0 x222) a1, x223 ++ ([a1] : List ByteArray)))) (some (x221, !sLt (strK.at a0 x222) a1, x223)))) (some (x221, false, x223))).bind fun (p226 : Bool × Bool × (List ByteArray)) => grd ((0 : Int) ≤ x222 ∧ x222 < (a0.length : Int)) (cond (!decide ((strK.at a0 x222) = a1)) (grd ((0 : Int) ≤ x222 ∧ x222 < (a0.length : Int)) (grd (p226.2.2.length + ([strK.at a0 x222] : List ByteArray).length ≤ 9223372036854775807 ∧ (p226.2.2.length + ([strK.at a0 x222] : List ByteArray).length) * 16 ≤ 140737488355328) (concourseref09_Put.l0 k a0 a1 j240 p226.1 (w64 (x222 + 1)) (p226.2.2 ++ ([strK.at a0 x222] : List ByteArray))))) (concourseref09_Put.l0 k a0 a1 j240 p226.1 (w64 (x222 + 1)) p226.2.2))) (some (x221, x222, decide (x222 < (a0.length : Int)), x223))
def concourseref09_Put.f (k : Nat) (a0 : List ByteArray) (a1 : ByteArray) : Option ((List ByteArray)) := (concourseref09_Put.l0 k a0 a1 k false 0 ([] : List ByteArray)).bind fun (p216 : Bool × Int × Bool × (List ByteArray)) => cond (!p216.1) (grd (p216.2.2.2.length + ([a1] : List ByteArray).length ≤ 9223372036854775807 ∧ (p216.2.2.2.length + ([a1] : List ByteArray).length) * 16 ≤ 140737488355328) (some (p216.2.2.2 ++ ([a1] : List ByteArray)))) (some p216.2.2.2)
/-! concourse/concourseref09.Homes: function 8 -/
def concourseref09_Homes.l0 (k : Nat) (a0 : List ByteArray) : Nat → Int → List ByteArray → Option (Int × Bool × (List ByteArray))
  | 0, _, _ => none
  | j256 + 1, x245, x246 => cond (decide (x245 < (a0.length : Int))) (grd ((0 : Int) ≤ x245 ∧ x245 < (a0.length : Int)) ((concourseref01_Home.f k (strK.at a0 x245)).bind fun t250 => cond (!decide (t250 = (⟨#[]⟩ : ByteArray))) ((concourseref09_Put.f k x246 t250).bind fun t253 => concourseref09_Homes.l0 k a0 j256 (w64 (x245 + 1)) t253) (concourseref09_Homes.l0 k a0 j256 (w64 (x245 + 1)) x246))) (some (x245, decide (x245 < (a0.length : Int)), x246))
def concourseref09_Homes.f (k : Nat) (a0 : List ByteArray) : Option ((List ByteArray)) := (concourseref09_Homes.l0 k a0 k 0 ([] : List ByteArray)).bind fun (p243 : Int × Bool × (List ByteArray)) => some p243.2.2
/-! concourse/dag.New: function 17 -/
def dag_New.f (a0 : ByteArray) : Option (DDag) := some (⟨a0, ([] : List (ByteArray × DNode))⟩ : DDag)
/-! concourse/name.Event: function 51 -/
def name_Event.f (k : Nat) (a0 : ByteArray) : Option (Bool) := (strings_CutPrefix.f a0 (⟨#[36]⟩ : ByteArray)).bind fun t261 => cond t261.2 ((name_may.f k t261.1 2).bind fun t264 => some t264) (some false)
/-! concourse/dag.May: function 28 -/
def dag_May.l0 (k : Nat) (a0 : Event) : Nat → Int → Option (Bool × Int × Bool)
  | 0, _ => none
  | j306 + 1, x293 => cond (decide (x293 < (a0.fParents.length : Int))) (grd ((0 : Int) ≤ x293 ∧ x293 < (a0.fParents.length : Int)) ((name_Event.f k (strK.at a0.fParents x293)).bind fun t296 => cond (!t296) (some (false, x293, decide (x293 < (a0.fParents.length : Int)))) (cond (decide ((strK.at a0.fParents x293) = a0.fID)) (some (false, x293, decide (x293 < (a0.fParents.length : Int)))) (cond (decide (0 < x293)) (grd ((0 : Int) ≤ (w64 (x293 - 1)) ∧ (w64 (x293 - 1)) < (a0.fParents.length : Int)) (cond (!sLt (strK.at a0.fParents (w64 (x293 - 1))) (strK.at a0.fParents x293)) (some (false, x293, decide (x293 < (a0.fParents.length : Int)))) (dag_May.l0 k a0 j306 (w64 (x293 + 1))))) (dag_May.l0 k a0 j306 (w64 (x293 + 1))))))) (some (true, x293, decide (x293 < (a0.fParents.length : Int))))
def dag_May.l1 (k : Nat) (a0 : Event) : Nat → Int → Option (Bool × Int × Bool)
  | 0, _ => none
  | j323 + 1, x310 => cond (decide (x310 < (a0.fParents.length : Int))) (grd ((0 : Int) ≤ x310 ∧ x310 < (a0.fParents.length : Int)) ((name_Event.f k (strK.at a0.fParents x310)).bind fun t313 => cond (!t313) (some (false, x310, decide (x310 < (a0.fParents.length : Int)))) (cond (decide ((strK.at a0.fParents x310) = a0.fID)) (some (false, x310, decide (x310 < (a0.fParents.length : Int)))) (cond (decide (0 < x310)) (grd ((0 : Int) ≤ (w64 (x310 - 1)) ∧ (w64 (x310 - 1)) < (a0.fParents.length : Int)) (cond (!sLt (strK.at a0.fParents (w64 (x310 - 1))) (strK.at a0.fParents x310)) (some (false, x310, decide (x310 < (a0.fParents.length : Int)))) (dag_May.l1 k a0 j323 (w64 (x310 + 1))))) (dag_May.l1 k a0 j323 (w64 (x310 + 1))))))) (some (true, x310, decide (x310 < (a0.fParents.length : Int))))
def dag_May.f (k : Nat) (a0 : Event) : Option (Bool) := (name_Event.f k a0.fID).bind fun t267 => cond (!t267) (some false) ((name_Room.f k a0.fRoom).bind fun t271 => cond (!t271) (some false) ((name_User.f k a0.fUser).bind fun t275 => cond (!t275) (some false) (cond (decide (4 < (a0.fParents.length : Int))) (some false) (cond (decide (a0.fDoes < 0)) (some false) (cond (decide (2 < a0.fDoes)) (some false) (cond (!decide (a0.fThread = (⟨#[]⟩ : ByteArray))) ((name_Event.f k a0.fThread).bind fun t285 => cond (!t285) (some false) (cond (decide (a0.fThread = a0.fID)) (some false) (cond (a0.fDoes != 0) (some false) ((dag_May.l0 k a0 k 0).bind fun (p292 : Bool × Int × Bool) => some p292.1)))) ((dag_May.l1 k a0 k 0).bind fun (p309 : Bool × Int × Bool) => some p309.1)))))))
/-! (*concourse/dag.Dag).Has: function 29 -/
def dag_Dag_Has.f (a0 : DDag) (a1 : ByteArray) : Option (Bool) := some (!(mget a0.fnodes a1).isNone)
/-! slices.IndexFunc[[]string,string]: function 52 -/
def slices_IndexFunc_string_x.l0 (k : Nat) (a0 : List ByteArray) (a1 : (ByteArray → Option Bool)) : Nat → Int → Option ((Int × Bool) ⊕ (Int))
  | 0, _ => none
  | j334 + 1, x328 => cond (decide (x328 < (a0.length : Int))) (grd ((0 : Int) ≤ x328 ∧ x328 < (a0.length : Int)) ((a1 (strK.at a0 x328)).bind fun t331 => cond t331 (some (.inr x328)) (slices_IndexFunc_string_x.l0 k a0 a1 j334 (w64 (x328 + 1))))) (some (.inl (x328, decide (x328 < (a0.length : Int)))))
def slices_IndexFunc_string_x.f (k : Nat) (a0 : List ByteArray) (a1 : (ByteArray → Option Bool)) : Option (Int) := (slices_IndexFunc_string_x.l0 k a0 a1 k 0).bind (fall fun (p327 : Int × Bool) => some (-1))
/-! slices.ContainsFunc[[]string,string]: function 30 -/
def slices_ContainsFunc_string_x.f (k : Nat) (a0 : List ByteArray) (a1 : (ByteArray → Option Bool)) : Option (Bool) := (slices_IndexFunc_string_x.f k a0 a1).bind fun t336 => some (decide (0 ≤ t336))
/-! (*concourse/dag.Dag).Add$1: function 31 -/
def dag_Dag_Add_1.f (a0 : ByteArray) (c0 : DDag) : Option (Bool) := (dag_Dag_Has.f c0 a0).bind fun t338 => some (!t338)
/-! slices.Clone[[]string,string] -/
def slices_Clone_string.f (xs : List ByteArray) : Option (List ByteArray) := grd (xs.length ≤ 9223372036854775807 ∧ xs.length * 16 ≤ 140737488355328) (some xs)
/-! concourse/dag.own: function 32 -/
def dag_own.f (a0 : Event) : Option (Event) := (slices_Clone_string.f a0.fParents).bind fun t342 => some (⟨a0.fID, a0.fRoom, t342, a0.fThread, a0.fUser, a0.fDoes⟩ : Event)
/-! (*concourse/dag.Dag).Add: function 18 -/
def dag_Dag_Add.l0 (k : Nat) (a1 : Event) : Nat → Int → Int → DDag → Option (Int × Bool × Int × DDag)
  | 0, _, _, _ => none
  | j382 + 1, x369, x370, x371 => cond (decide (x369 < (a1.fParents.length : Int))) (grd ((0 : Int) ≤ x369 ∧ x369 < (a1.fParents.length : Int)) (grd ((mget x371.fnodes (strK.at a1.fParents x369)).isSome = true) (dag_Dag_Add.l0 k a1 j382 (w64 (x369 + 1)) (max x370 (w64 ((((mget x371.fnodes (strK.at a1.fParents x369)).getD default).fdepth) + 1))) (⟨x371.froom, mput x371.fnodes (strK.at a1.fParents x369) (⟨((mget x371.fnodes (strK.at a1.fParents x369)).getD default).fe, ((mget x371.fnodes (strK.at a1.fParents x369)).getD default).fdepth, true⟩ : DNode)⟩ : DDag)))) (some (x369, decide (x369 < (a1.fParents.length : Int)), x370, x371))
def dag_Dag_Add.f (k : Nat) (a0 : DDag) (a1 : Event) : Option (Int × DDag) := (dag_May.f k a1).bind fun t349 => cond (!t349) (some (1, a0)) (cond (!decide (a1.fRoom = a0.froom)) (some (1, a0)) ((dag_Dag_Has.f a0 a1.fID).bind fun t354 => cond t354 (some (9, a0)) ((slices_ContainsFunc_string_x.f k a1.fParents (fun a0_ => dag_Dag_Add_1.f a0_ a0)).bind fun t357 => cond t357 (some (4, a0)) ((cond (!decide (a1.fThread = (⟨#[]⟩ : ByteArray))) (cond ((mget a0.fnodes a1.fThread).isNone) (some (.inr (4, a0))) (grd ((mget a0.fnodes a1.fThread).isSome = true) (cond (!decide (((((mget a0.fnodes a1.fThread).getD default).fe).fThread) = (⟨#[]⟩ : ByteArray))) (some (.inr (7, a0))) (cond (((((mget a0.fnodes a1.fThread).getD default).fe).fDoes) != 0) (some (.inr (7, a0))) (some (.inl ())))))) (some (.inl ()))).bind (fall fun (p360 : Unit) => (dag_own.f a1).bind fun t361 => (dag_Dag_Add.l0 k a1 k 0 0 a0).bind fun (p364 : Int × Bool × Int × DDag) => some (0, (⟨p364.2.2.2.froom, mput p364.2.2.2.fnodes a1.fID (⟨t361, p364.2.2.1, false⟩ : DNode)⟩ : DDag)))))))
/-! cmp.Or[int]: function 86 -/
def cmp_Or_int.l0 (k : Nat) (a0 : List Int) : Nat → Int → Option ((Int × Bool) ⊕ (Int))
  | 0, _ => none
  | j399 + 1, x395 => cond (decide (x395 < (a0.length : Int))) (grd ((0 : Int) ≤ x395 ∧ x395 < (a0.length : Int)) (cond (((intK .i64).at a0 x395) != 0) (some (.inr ((intK .i64).at a0 x395))) (cmp_Or_int.l0 k a0 j399 (w64 (x395 + 1))))) (some (.inl (x395, decide (x395 < (a0.length : Int)))))
def cmp_Or_int.f (k : Nat) (a0 : List Int) : Option (Int) := (cmp_Or_int.l0 k a0 k 0).bind (fall fun (p394 : Int × Bool) => some 0)
/-! cmp.isNaN[int]: function 97 -/
def cmp_isNaN_int.f (a0 : Int) : Option (Bool) := some (a0 != a0)
/-! cmp.Compare[int]: function 87 -/
def cmp_Compare_int.f (a0 : Int) (a1 : Int) : Option (Int) := (cmp_isNaN_int.f a0).bind fun t401 => (cmp_isNaN_int.f a1).bind fun t403 => cond t401 (cond t403 (some 0) (some (-1))) (cond t403 (some 1) (cond (decide (a0 < a1)) (some (-1)) (cond (decide (a1 < a0)) (some 1) (some 0))))
/-! cmp.isNaN[string]: function 66 -/
def cmp_isNaN_string.f (a0 : ByteArray) : Option (Bool) := some (!decide (a0 = a0))
/-! cmp.Compare[string]: function 88 -/
def cmp_Compare_string.f (a0 : ByteArray) (a1 : ByteArray) : Option (Int) := (cmp_isNaN_string.f a0).bind fun t410 => (cmp_isNaN_string.f a1).bind fun t412 => cond t410 (cond t412 (some 0) (some (-1))) (cond t412 (some 1) (cond (sLt a0 a1) (some (-1)) (cond (sLt a1 a0) (some 1) (some 0))))
/-! concourse/dag.Compare: function 79 -/
def dag_Compare.f (k : Nat) (a0 : Pos) (a1 : Pos) : Option (Int) := (cmp_Compare_int.f a0.fDepth a1.fDepth).bind fun t421 => (cmp_Compare_string.f a0.fID a1.fID).bind fun t423 => (cmp_Or_int.f k ([t421, t423] : List Int)).bind fun t425 => some t425
/-! slices.SortFunc[[]concourse/api.Position,concourse/api.Position] -/
def posC (x y : Pos) : Int := if x.fDepth < y.fDepth then -1 else if y.fDepth < x.fDepth then 1 else cmpS x.fID y.fID
def slices_SortFunc_Position.f (xs : List Pos) : Option (List Pos) := grd (xs.length ≤ 1000000) (some (srtF posC xs))
/-! (*concourse/dag.Dag).All$1: function 69 -/
def dag_Dag_All_1.f (a0 : DNode) : Option (Bool) := some true
/-! (*concourse/dag.Dag).ids -/
def dag_Dag_ids_All.g (e : ByteArray × DNode) : Option Pos := cond true (some ⟨e.2.fdepth, e.1⟩) none
def dag_Dag_ids_All.f (a0 : DDag) : Option (List ByteArray) := grd (a0.fnodes.length ≤ 1000000) (some ((srtF posC (a0.fnodes.filterMap dag_Dag_ids_All.g)).map (·.fID)))
/-! (*concourse/dag.Dag).All: function 54 -/
def dag_Dag_All.l0 (k : Nat) (a0 : DDag) (t430 : List ByteArray) : Nat → Int → List Event → Option (Int × Int × Bool × (List Event) × (List ByteArray))
  | 0, _, _ => none
  | j448 + 1, x433, x434 => cond (decide (x433 < (t430.length : Int))) (grd ((0 : Int) ≤ x433 ∧ x433 < (t430.length : Int)) (grd ((mget a0.fnodes (t430.getD x433.toNat default)).isSome = true) ((dag_own.f (((mget a0.fnodes (t430.getD x433.toNat default)).getD default).fe)).bind fun t444 => grd (x434.length + ([t444] : List Event).length ≤ 9223372036854775807 ∧ (x434.length + ([t444] : List Event).length) * 96 ≤ 140737488355328) (dag_Dag_All.l0 k a0 t430 j448 (w64 (x433 + 1)) (x434 ++ ([t444] : List Event)))))) (some ((t430.length : Int), x433, decide (x433 < (t430.length : Int)), x434, t430))
def dag_Dag_All.f (k : Nat) (a0 : DDag) : Option ((List Event)) := ((dag_Dag_ids_All.f a0).bind fun t430 => dag_Dag_All.l0 k a0 t430 k 0 ([] : List Event)).bind fun (p427 : Int × Int × Bool × (List Event) × (List ByteArray)) => some p427.2.2.2.1
/-! concourse/member.joined: function 33 -/
def member_joined.l0 (k : Nat) (t454 : (List Event)) : Nat → Int → (List (ByteArray × Int)) → Option (Int × Int × Bool × (List (ByteArray × Int)) × (List Event))
  | 0, _, _ => none
  | j465 + 1, x457, x458 => cond (decide (x457 < (t454.length : Int))) (grd ((0 : Int) ≤ x457 ∧ x457 < (t454.length : Int)) (cond (((t454.getD x457.toNat default).fDoes) == 1) (member_joined.l0 k t454 j465 (w64 (x457 + 1)) (mput x458 ((t454.getD x457.toNat default).fUser) 1)) (cond (((t454.getD x457.toNat default).fDoes) == 2) (member_joined.l0 k t454 j465 (w64 (x457 + 1)) (mdel x458 ((t454.getD x457.toNat default).fUser))) (member_joined.l0 k t454 j465 (w64 (x457 + 1)) x458)))) (some ((t454.length : Int), x457, decide (x457 < (t454.length : Int)), x458, t454))
def member_joined.f (k : Nat) (a0 : DDag) : Option ((List (ByteArray × Int))) := ((dag_Dag_All.f k a0).bind fun t454 => member_joined.l0 k t454 k 0 ([] : List (ByteArray × Int))).bind fun (p452 : Int × Int × Bool × (List (ByteArray × Int)) × (List Event)) => some p452.2.2.2.1
/-! concourse/member.Joined: function 19 -/
def member_Joined.f (k : Nat) (a0 : DDag) (a1 : ByteArray) : Option (Bool) := (member_joined.f k a0).bind fun t468 => some (decide (0 < ((mget t468 a1).getD 0)))
/-! slices.Index[[]string,string]: function 55 -/
def slices_Index_string.l0 (k : Nat) (a0 : List ByteArray) (a1 : ByteArray) : Nat → Int → Option ((Int × Bool) ⊕ (Int))
  | 0, _ => none
  | j476 + 1, x472 => cond (decide (x472 < (a0.length : Int))) (grd ((0 : Int) ≤ x472 ∧ x472 < (a0.length : Int)) (cond (decide (a1 = (strK.at a0 x472))) (some (.inr x472)) (slices_Index_string.l0 k a0 a1 j476 (w64 (x472 + 1))))) (some (.inl (x472, decide (x472 < (a0.length : Int)))))
def slices_Index_string.f (k : Nat) (a0 : List ByteArray) (a1 : ByteArray) : Option (Int) := (slices_Index_string.l0 k a0 a1 k 0).bind (fall fun (p471 : Int × Bool) => some (-1))
/-! slices.Contains[[]string,string]: function 34 -/
def slices_Contains_string.f (k : Nat) (a0 : List ByteArray) (a1 : ByteArray) : Option (Bool) := (slices_Index_string.f k a0 a1).bind fun t478 => some (decide (0 ≤ t478))
/-! concourse/member.Users -/
def member_Users.f (k : Nat) (a0 : DDag) : Option (List ByteArray) := (member_joined.f k a0).bind fun m => grd (m.length ≤ 1000000) (some (srtS (m.map (·.1))))
/-! concourse/member.Servers: function 35 -/
def member_Servers.f (k : Nat) (a0 : DDag) : Option ((List ByteArray)) := (member_Users.f k a0).bind fun t480 => (member_Homes.f k t480).bind fun t483 => some t483
/-! concourse/member.In: function 20 -/
def member_In.f (k : Nat) (a0 : DDag) (a1 : ByteArray) : Option (Bool) := (member_Servers.f k a0).bind fun t486 => (slices_Contains_string.f k t486 a1).bind fun t489 => some t489
/-! concourse/concourselaw09.lives: function 9 -/
def concourselaw09_lives.f (k : Nat) : Option (Bool) := (dag_New.f (⟨#[33, 114, 58, 115]⟩ : ByteArray)).bind fun t491 => (dag_Dag_Add.f k t491 (⟨(⟨#[36, 97]⟩ : ByteArray), (⟨#[33, 114, 58, 115]⟩ : ByteArray), ([] : List ByteArray), (⟨#[]⟩ : ByteArray), (⟨#[64, 97, 58, 115]⟩ : ByteArray), 1⟩ : Event)).bind fun t495 => (dag_Dag_Add.f k t495.2 (⟨(⟨#[36, 98]⟩ : ByteArray), (⟨#[33, 114, 58, 115]⟩ : ByteArray), ([(⟨#[36, 97]⟩ : ByteArray)] : List ByteArray), (⟨#[]⟩ : ByteArray), (⟨#[64, 97, 58, 115]⟩ : ByteArray), 2⟩ : Event)).bind fun t497 => (member_Joined.f k t497.2 (⟨#[64, 97, 58, 115]⟩ : ByteArray)).bind fun t501 => (dag_Dag_Add.f k t497.2 (⟨(⟨#[36, 99]⟩ : ByteArray), (⟨#[33, 114, 58, 115]⟩ : ByteArray), ([(⟨#[36, 98]⟩ : ByteArray)] : List ByteArray), (⟨#[]⟩ : ByteArray), (⟨#[64, 97, 58, 115]⟩ : ByteArray), 1⟩ : Event)).bind fun t503 => cond (!t501) ((member_Joined.f k t503.2 (⟨#[64, 97, 58, 115]⟩ : ByteArray)).bind fun t508 => cond t508 ((member_In.f k t503.2 (⟨#[115]⟩ : ByteArray)).bind fun t511 => some t511) (some false)) (some false)
/-! concourse/concourselaw09.MemberHomes: function 3 -/
def concourselaw09_MemberHomes.l0 (k : Nat) (a1 : List Int) : Nat → Int → List ByteArray → Option (Int × Bool × (List ByteArray))
  | 0, _, _ => none
  | j539 + 1, x528, x529 => cond (decide (x528 < (a1.length : Int))) (cond (decide (x528 < 6)) (grd ((0 : Int) ≤ x528 ∧ x528 < (a1.length : Int)) ((concourseref01_UserOf.f ((intK .i64).at a1 x528)).bind fun t534 => grd (x529.length + ([t534] : List ByteArray).length ≤ 9223372036854775807 ∧ (x529.length + ([t534] : List ByteArray).length) * 16 ≤ 140737488355328) (concourselaw09_MemberHomes.l0 k a1 j539 (w64 (x528 + 1)) (x529 ++ ([t534] : List ByteArray))))) (some (x528, decide (x528 < 6), x529))) (some (x528, false, x529))
def concourselaw09_MemberHomes.l1 (k : Nat) (a0 : List ByteArray) : Nat → Int → List ByteArray → Option (Int × Bool × (List ByteArray))
  | 0, _, _ => none
  | j553 + 1, x542, x543 => cond (decide (x542 < (a0.length : Int))) (cond (decide (x542 < 6)) (grd ((0 : Int) ≤ x542 ∧ x542 < (a0.length : Int)) ((concourseref01_Few.f (strK.at a0 x542) 12).bind fun t548 => grd (x543.length + ([t548] : List ByteArray).length ≤ 9223372036854775807 ∧ (x543.length + ([t548] : List ByteArray).length) * 16 ≤ 140737488355328) (concourselaw09_MemberHomes.l1 k a0 j553 (w64 (x542 + 1)) (x543 ++ ([t548] : List ByteArray))))) (some (x542, decide (x542 < 6), x543))) (some (x542, false, x543))
def concourselaw09_MemberHomes.f (k : Nat) (a0 : List ByteArray) (a1 : List Int) : Option (Bool) := (concourselaw09_MemberHomes.l1 k a0 k 0 ([] : List ByteArray)).bind fun (p513 : Int × Bool × (List ByteArray)) => (concourselaw09_MemberHomes.l0 k a1 k 0 p513.2.2).bind fun (p515 : Int × Bool × (List ByteArray)) => (member_Homes.f k p515.2.2).bind fun t517 => (concourseref09_Homes.f k p515.2.2).bind fun t520 => (concourseref01_SameTexts.f k t517 t520).bind fun t523 => cond t523 ((concourselaw09_lives.f k).bind fun t526 => some t526) (some false)
end Go.Proofs.Ytdbinmknbmlddaa
