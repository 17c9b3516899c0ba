/- The walks. -/
import Derived.Test.YtdbinmknbmlddaaGreatChecked
import Derived.Test.YtdbinmknbmlddaaGreatConQ
import Derived.Test.YtdbinmknbmlddaaGreatConA3
import Derived.Eval
set_option linter.all false
set_option maxRecDepth 10000
set_option maxHeartbeats 20000000
namespace Go.Proofs.YtdbinmknbmlddaaGreat
open Go Go.Sp
theorem c113 : Tryz.prog.cellsOf 113 = 1 := by kernel_rfl
theorem c24 : Tryz.prog.cellsOf 24 = 1 := by kernel_rfl
theorem c26 : Tryz.prog.cellsOf 26 = 2 := by kernel_rfl
theorem c29 : Tryz.prog.cellsOf 29 = 1 := by kernel_rfl
theorem c3 : Tryz.prog.cellsOf 3 = 1 := by kernel_rfl
theorem c4 : Tryz.prog.cellsOf 4 = 1 := by kernel_rfl
theorem c43 : Tryz.prog.cellsOf 43 = 6 := by kernel_rfl
theorem c5 : Tryz.prog.cellsOf 5 = 1 := by kernel_rfl
theorem c55 : Tryz.prog.cellsOf 55 = 1 := by kernel_rfl
theorem c73 : Tryz.prog.cellsOf 73 = 2 := by kernel_rfl
theorem c75 : Tryz.prog.cellsOf 75 = 1 := by kernel_rfl
theorem c77 : Tryz.prog.cellsOf 77 = 4 := by kernel_rfl
theorem c9 : Tryz.prog.cellsOf 9 = 1 := by kernel_rfl
theorem cal10 : callable Tryz.prog 10 = true := by kernel_rfl
theorem cal100 : callable Tryz.prog 100 = true := by kernel_rfl
theorem cal101 : callable Tryz.prog 101 = true := by kernel_rfl
theorem cal102 : callable Tryz.prog 102 = true := by kernel_rfl
theorem cal103 : callable Tryz.prog 103 = true := by kernel_rfl
theorem cal104 : callable Tryz.prog 104 = true := by kernel_rfl
theorem cal11 : callable Tryz.prog 11 = true := by kernel_rfl
theorem cal114 : callable Tryz.prog 114 = true := by kernel_rfl
theorem cal115 : callable Tryz.prog 115 = true := by kernel_rfl
theorem cal12 : callable Tryz.prog 12 = true := by kernel_rfl
theorem cal13 : callable Tryz.prog 13 = true := by kernel_rfl
theorem cal14 : callable Tryz.prog 14 = true := by kernel_rfl
theorem cal15 : callable Tryz.prog 15 = true := by kernel_rfl
theorem cal16 : callable Tryz.prog 16 = true := by kernel_rfl
theorem cal17 : callable Tryz.prog 17 = true := by kernel_rfl
theorem cal18 : callable Tryz.prog 18 = true := by kernel_rfl
theorem cal19 : callable Tryz.prog 19 = true := by kernel_rfl
theorem cal20 : callable Tryz.prog 20 = true := by kernel_rfl
theorem cal21 : callable Tryz.prog 21 = true := by kernel_rfl
theorem cal22 : callable Tryz.prog 22 = true := by kernel_rfl
theorem cal23 : callable Tryz.prog 23 = true := by kernel_rfl
theorem cal24 : callable Tryz.prog 24 = true := by kernel_rfl
theorem cal25 : callable Tryz.prog 25 = true := by kernel_rfl
theorem cal26 : callable Tryz.prog 26 = true := by kernel_rfl
theorem cal27 : callable Tryz.prog 27 = true := by kernel_rfl
theorem cal28 : callable Tryz.prog 28 = true := by kernel_rfl
theorem cal29 : callable Tryz.prog 29 = true := by kernel_rfl
theorem cal30 : callable Tryz.prog 30 = true := by kernel_rfl
theorem cal31 : callable Tryz.prog 31 = true := by kernel_rfl
theorem cal32 : callable Tryz.prog 32 = true := by kernel_rfl
theorem cal33 : callable Tryz.prog 33 = true := by kernel_rfl
theorem cal34 : callable Tryz.prog 34 = true := by kernel_rfl
theorem cal35 : callable Tryz.prog 35 = true := by kernel_rfl
theorem cal36 : callable Tryz.prog 36 = true := by kernel_rfl
theorem cal37 : callable Tryz.prog 37 = true := by kernel_rfl
theorem cal38 : callable Tryz.prog 38 = true := by kernel_rfl
theorem cal39 : callable Tryz.prog 39 = true := by kernel_rfl
theorem cal40 : callable Tryz.prog 40 = true := by kernel_rfl
theorem cal41 : callable Tryz.prog 41 = true := by kernel_rfl
theorem cal42 : callable Tryz.prog 42 = true := by kernel_rfl
theorem cal43 : callable Tryz.prog 43 = true := by kernel_rfl
theorem cal44 : callable Tryz.prog 44 = true := by kernel_rfl
theorem cal45 : callable Tryz.prog 45 = true := by kernel_rfl
theorem cal46 : callable Tryz.prog 46 = true := by kernel_rfl
theorem cal47 : callable Tryz.prog 47 = true := by kernel_rfl
theorem cal48 : callable Tryz.prog 48 = true := by kernel_rfl
theorem cal49 : callable Tryz.prog 49 = true := by kernel_rfl
theorem cal50 : callable Tryz.prog 50 = true := by kernel_rfl
theorem cal51 : callable Tryz.prog 51 = true := by kernel_rfl
theorem cal52 : callable Tryz.prog 52 = true := by kernel_rfl
theorem cal53 : callable Tryz.prog 53 = true := by kernel_rfl
theorem cal54 : callable Tryz.prog 54 = true := by kernel_rfl
theorem cal55 : callable Tryz.prog 55 = true := by kernel_rfl
theorem cal58 : callable Tryz.prog 58 = true := by kernel_rfl
theorem cal59 : callable Tryz.prog 59 = true := by kernel_rfl
theorem cal60 : callable Tryz.prog 60 = true := by kernel_rfl
theorem cal61 : callable Tryz.prog 61 = true := by kernel_rfl
theorem cal62 : callable Tryz.prog 62 = true := by kernel_rfl
theorem cal63 : callable Tryz.prog 63 = true := by kernel_rfl
theorem cal64 : callable Tryz.prog 64 = true := by kernel_rfl
theorem cal65 : callable Tryz.prog 65 = true := by kernel_rfl
theorem cal66 : callable Tryz.prog 66 = true := by kernel_rfl
theorem cal67 : callable Tryz.prog 67 = true := by kernel_rfl
theorem cal68 : callable Tryz.prog 68 = true := by kernel_rfl
theorem cal7 : callable Tryz.prog 7 = true := by kernel_rfl
theorem cal8 : callable Tryz.prog 8 = true := by kernel_rfl
theorem cal80 : callable Tryz.prog 80 = true := by kernel_rfl
theorem cal82 : callable Tryz.prog 82 = true := by kernel_rfl
theorem cal83 : callable Tryz.prog 83 = true := by kernel_rfl
theorem cal84 : callable Tryz.prog 84 = true := by kernel_rfl
theorem cal85 : callable Tryz.prog 85 = true := by kernel_rfl
theorem cal86 : callable Tryz.prog 86 = true := by kernel_rfl
theorem cal87 : callable Tryz.prog 87 = true := by kernel_rfl
theorem cal88 : callable Tryz.prog 88 = true := by kernel_rfl
theorem cal9 : callable Tryz.prog 9 = true := by kernel_rfl
theorem cal94 : callable Tryz.prog 94 = true := by kernel_rfl
theorem cal96 : callable Tryz.prog 96 = true := by kernel_rfl
theorem cal97 : callable Tryz.prog 97 = true := by kernel_rfl
theorem cal98 : callable Tryz.prog 98 = true := by kernel_rfl
theorem cal99 : callable Tryz.prog 99 = true := by kernel_rfl
theorem inf3 : ∃ i, Tryz.prog.info? 3 = some i ∧ i.size = 1 ∧ i.zero = some (.int .i64 0) ∧ i.bytes = 8 := inf_of (by kernel_rfl) (by kernel_rfl) (by kernel_rfl)
theorem inf4 : ∃ i, Tryz.prog.info? 4 = some i ∧ i.size = 1 ∧ i.zero = some (.bool false) ∧ i.bytes = 1 := inf_of (by kernel_rfl) (by kernel_rfl) (by kernel_rfl)
theorem inf43 : ∃ i, Tryz.prog.info? 43 = some i ∧ i.size = 6 ∧ i.zero = some (.agg #[.string ⟨#[]⟩, .string ⟨#[]⟩, .slice none 0 0, .string ⟨#[]⟩, .string ⟨#[]⟩, .int .i64 0]) ∧ i.bytes = 96 := inf_of (by kernel_rfl) (by kernel_rfl) (by kernel_rfl)
theorem inf73 : ∃ i, Tryz.prog.info? 73 = some i ∧ i.size = 2 ∧ i.zero = some (.agg #[.int .i64 0, .string ⟨#[]⟩]) ∧ i.bytes = 24 := inf_of (by kernel_rfl) (by kernel_rfl) (by kernel_rfl)
theorem inf9 : ∃ i, Tryz.prog.info? 9 = some i ∧ i.size = 1 ∧ i.zero = some (.string ⟨#[]⟩) ∧ i.bytes = 16 := inf_of (by kernel_rfl) (by kernel_rfl) (by kernel_rfl)
theorem fa26_0 : FA Tryz.prog 26 0 0 := ⟨_, _, _, _, Tryz.underlying26, rfl, Tryz.underlying9, c9, by decide, rfl⟩
theorem fa26_1 : FA Tryz.prog 26 1 1 := ⟨_, _, _, _, Tryz.underlying26, rfl, Tryz.underlying24, c24, by decide, rfl⟩
theorem fa43_0 : FA Tryz.prog 43 0 0 := ⟨_, _, _, _, Tryz.underlying43, rfl, Tryz.underlying9, c9, by decide, rfl⟩
theorem fa43_1 : FA Tryz.prog 43 1 1 := ⟨_, _, _, _, Tryz.underlying43, rfl, Tryz.underlying9, c9, by decide, rfl⟩
theorem fa43_2 : FA Tryz.prog 43 2 2 := ⟨_, _, _, _, Tryz.underlying43, rfl, Tryz.underlying29, c29, by decide, rfl⟩
theorem fa43_3 : FA Tryz.prog 43 3 3 := ⟨_, _, _, _, Tryz.underlying43, rfl, Tryz.underlying9, c9, by decide, rfl⟩
theorem fa43_4 : FA Tryz.prog 43 4 4 := ⟨_, _, _, _, Tryz.underlying43, rfl, Tryz.underlying9, c9, by decide, rfl⟩
theorem fa43_5 : FA Tryz.prog 43 5 5 := ⟨_, _, _, _, Tryz.underlying43, rfl, Tryz.underlying3, c3, by decide, rfl⟩
theorem fa57_0 : FA Tryz.prog 57 0 0 := ⟨_, _, _, _, Tryz.underlying57, rfl, Tryz.underlying9, c9, by decide, rfl⟩
theorem fa57_1 : FA Tryz.prog 57 1 1 := ⟨_, _, _, _, Tryz.underlying57, rfl, Tryz.underlying55, c55, by decide, rfl⟩
theorem fa63_0 : FA Tryz.prog 63 0 0 := ⟨_, _, _, _, Tryz.underlying63, rfl, Tryz.underlying43, c43, by decide, rfl⟩
theorem fa63_1 : FA Tryz.prog 63 1 6 := ⟨_, _, _, _, Tryz.underlying63, rfl, Tryz.underlying3, c3, by decide, rfl⟩
theorem fa63_2 : FA Tryz.prog 63 2 7 := ⟨_, _, _, _, Tryz.underlying63, rfl, Tryz.underlying4, c4, by decide, rfl⟩
theorem fa73_0 : FA Tryz.prog 73 0 0 := ⟨_, _, _, _, Tryz.underlying73, rfl, Tryz.underlying3, c3, by decide, rfl⟩
theorem fa73_1 : FA Tryz.prog 73 1 1 := ⟨_, _, _, _, Tryz.underlying73, rfl, Tryz.underlying9, c9, by decide, rfl⟩
theorem fa77_0 : FA Tryz.prog 77 0 0 := ⟨_, _, _, _, Tryz.underlying77, rfl, Tryz.underlying3, c3, by decide, rfl⟩
theorem fa77_1 : FA Tryz.prog 77 1 1 := ⟨_, _, _, _, Tryz.underlying77, rfl, Tryz.underlying3, c3, by decide, rfl⟩
theorem fa77_2 : FA Tryz.prog 77 2 2 := ⟨_, _, _, _, Tryz.underlying77, rfl, Tryz.underlying75, c75, by decide, rfl⟩
theorem fa77_3 : FA Tryz.prog 77 3 3 := ⟨_, _, _, _, Tryz.underlying77, rfl, Tryz.underlying3, c3, by decide, rfl⟩
theorem sc23 : SC Tryz.prog 23 := ⟨_, Tryz.underlying23, rfl⟩
theorem sc24 : SC Tryz.prog 24 := ⟨_, Tryz.underlying24, rfl⟩
theorem sc29 : SC Tryz.prog 29 := ⟨_, Tryz.underlying29, rfl⟩
theorem sc3 : SC Tryz.prog 3 := ⟨_, Tryz.underlying3, rfl⟩
theorem sc55 : SC Tryz.prog 55 := ⟨_, Tryz.underlying55, rfl⟩
theorem sc75 : SC Tryz.prog 75 := ⟨_, Tryz.underlying75, rfl⟩
theorem sc9 : SC Tryz.prog 9 := ⟨_, Tryz.underlying9, rfl⟩
theorem sg26 : SG Tryz.prog 26 2 := ⟨_, Tryz.underlying26, rfl, c26⟩
theorem sg43 : SG Tryz.prog 43 6 := ⟨_, Tryz.underlying43, rfl, c43⟩
theorem sz26 : SZ Tryz.prog 26 2 := ⟨_, Tryz.underlying26, c26⟩
theorem sz29 : SZ Tryz.prog 29 1 := ⟨_, Tryz.underlying29, c29⟩
theorem sz3 : SZ Tryz.prog 3 1 := ⟨_, Tryz.underlying3, c3⟩
theorem sz4 : SZ Tryz.prog 4 1 := ⟨_, Tryz.underlying4, c4⟩
theorem sz43 : SZ Tryz.prog 43 6 := ⟨_, Tryz.underlying43, c43⟩
theorem sz73 : SZ Tryz.prog 73 2 := ⟨_, Tryz.underlying73, c73⟩
theorem sz9 : SZ Tryz.prog 9 1 := ⟨_, Tryz.underlying9, c9⟩
theorem pl26 : plcT Tryz.prog 26 = true := by kernel_rfl
theorem pl43 : plcT Tryz.prog 43 = true := by kernel_rfl
theorem pl57 : plcT Tryz.prog 57 = true := by kernel_rfl
theorem pl63 : plcT Tryz.prog 63 = true := by kernel_rfl
theorem pl73 : plcT Tryz.prog 73 = true := by kernel_rfl
theorem xf122 : (Extern.findNext Tryz.f122).isNone = true := by kernel_rfl
theorem xg122 : Extern.find Tryz.f122 = some Extern.BytealgIndexByte.indexByte := by rfl
theorem z115 : zer Tryz.prog 115 = some (.agg #[.nilFunc, .nilFunc, .nilFunc]) := by kernel_rfl
theorem z26 : zer Tryz.prog 26 = some (.agg #[.string ⟨#[]⟩, .slice none 0 0]) := by kernel_rfl
theorem z3 : zer Tryz.prog 3 = some (.int .i64 0) := by kernel_rfl
theorem z43 : zer Tryz.prog 43 = some (.agg #[.string ⟨#[]⟩, .string ⟨#[]⟩, .slice none 0 0, .string ⟨#[]⟩, .string ⟨#[]⟩, .int .i64 0]) := by kernel_rfl
theorem z5 : zer Tryz.prog 5 = some (.int .u8 0) := by kernel_rfl
theorem z57 : zer Tryz.prog 57 = some (.agg #[.string ⟨#[]⟩, .map none]) := by kernel_rfl
theorem z61 : zer Tryz.prog 61 = some (.pointer none) := by kernel_rfl
theorem z63 : zer Tryz.prog 63 = some (.agg #[.string ⟨#[]⟩, .string ⟨#[]⟩, .slice none 0 0, .string ⟨#[]⟩, .string ⟨#[]⟩, .int .i64 0, .int .i64 0, .bool false]) := by kernel_rfl
theorem z73 : zer Tryz.prog 73 = some (.agg #[.int .i64 0, .string ⟨#[]⟩]) := by kernel_rfl
theorem z9 : zer Tryz.prog 9 = some (.string ⟨#[]⟩) := by kernel_rfl
theorem zc26 : ZC Tryz.prog 26 [eq (.string (⟨#[]⟩ : ByteArray)), eq (.slice none 0 0)] := ⟨_, z26, rfl⟩
theorem zc43 : ZC Tryz.prog 43 [eq (.string (⟨#[]⟩ : ByteArray)), eq (.string (⟨#[]⟩ : ByteArray)), eq (.slice none 0 0), eq (.string (⟨#[]⟩ : ByteArray)), eq (.string (⟨#[]⟩ : ByteArray)), eq (.int .i64 0)] := ⟨_, z43, rfl⟩
theorem zc73 : ZC Tryz.prog 73 [eq (.int .i64 0), eq (.string (⟨#[]⟩ : ByteArray))] := ⟨_, z73, rfl⟩
structure Event where
  fID : ByteArray
  fRoom : ByteArray
  fParents : List ByteArray
  fThread : ByteArray
  fUser : ByteArray
  fDoes : Int
  deriving DecidableEq, Inhabited
abbrev Event.enc (x : Event) : Cs := [eq (.string x.fID), eq (.string x.fRoom), sl strK x.fParents, eq (.string x.fThread), eq (.string x.fUser), eq (.int .i64 x.fDoes)]
abbrev Event.K : Kd Event := ⟨6, default, Event.enc, fun _ => rfl, fun _ => (ones_cons (one_eq rfl) (ones_cons (one_eq rfl) (ones_cons one_sl (ones_cons (one_eq rfl) (ones_cons (one_eq rfl) (ones_cons (one_eq rfl) ones_nil))))))⟩
structure DNode where
  fe : Event
  fdepth : Int
  fparent : Bool
  deriving DecidableEq, Inhabited
abbrev DNode.enc (x : DNode) : Cs := [eq (.string x.fe.fID), eq (.string x.fe.fRoom), sl strK x.fe.fParents, eq (.string x.fe.fThread), eq (.string x.fe.fUser), eq (.int .i64 x.fe.fDoes), eq (.int .i64 x.fdepth), eq (.bool x.fparent)]
abbrev DNode.K : Kd DNode := ⟨8, default, DNode.enc, fun _ => rfl, fun _ => (ones_cons (one_eq rfl) (ones_cons (one_eq rfl) (ones_cons one_sl (ones_cons (one_eq rfl) (ones_cons (one_eq rfl) (ones_cons (one_eq rfl) (ones_cons (one_eq rfl) (ones_cons (one_eq rfl) ones_nil))))))))⟩
structure DDag where
  froom : ByteArray
  fnodes : List (ByteArray × DNode)
  deriving DecidableEq, Inhabited
structure RDag where
  fRoom : ByteArray
  fL : List Event
  deriving DecidableEq, Inhabited
abbrev RDag.enc (x : RDag) : Cs := [eq (.string x.fRoom), sl Event.K x.fL]
abbrev RDag.K : Kd RDag := ⟨2, default, RDag.enc, fun _ => rfl, fun _ => (ones_cons (one_eq rfl) (ones_cons one_sl ones_nil))⟩
structure GMade where
  fUser : Int
  fDoes : Int
  fParents : List Int
  fThread : Int
  deriving DecidableEq, Inhabited
abbrev GMade.enc (x : GMade) : Cs := [eq (.int .i64 x.fUser), eq (.int .i64 x.fDoes), sl (intK .i64) x.fParents, eq (.int .i64 x.fThread)]
abbrev GMade.K : Kd GMade := ⟨4, default, GMade.enc, fun _ => rfl, fun _ => (ones_cons (one_eq rfl) (ones_cons (one_eq rfl) (ones_cons one_sl (ones_cons (one_eq rfl) ones_nil))))⟩
structure Pos where
  fDepth : Int
  fID : ByteArray
  deriving DecidableEq, Inhabited
abbrev Pos.enc (x : Pos) : Cs := [eq (.int .i64 x.fDepth), eq (.string x.fID)]
abbrev Pos.K : Kd Pos := ⟨2, default, Pos.enc, fun _ => rfl, fun _ => (ones_cons (one_eq rfl) (ones_cons (one_eq rfl) ones_nil))⟩

def DNode.O (p : OV) (m : DNode) : As := exA (γ := Nat) (fun g => p.1 = .pointer (some ⟨g, 0, none⟩)) (fun g => [blk g 63 [eq (.string m.fe.fID), eq (.string m.fe.fRoom), sl strK m.fe.fParents, eq (.string m.fe.fThread), eq (.string m.fe.fUser), eq (.int .i64 m.fe.fDoes), eq (.int .i64 m.fdepth), eq (.bool m.fparent)]])
theorem DNode.nn {p : OV} {m : DNode} : NN (DNode.O p m) p.1 := by unfold DNode.O; exact nn_ex (γ := Nat) (b := fun g => g)
theorem DNode.opn {l : List As} {p : OV} {m : DNode} (j : Nat) (hj : l[j]? = some (DNode.O p m)) : ∀ R w, St R l w → ∃ g : Nat, p.1 = .pointer (some ⟨g, 0, none⟩) ∧ St R ([blk g 63 [eq (.string m.fe.fID), eq (.string m.fe.fRoom), sl strK m.fe.fParents, eq (.string m.fe.fThread), eq (.string m.fe.fUser), eq (.int .i64 m.fe.fDoes), eq (.int .i64 m.fdepth), eq (.bool m.fparent)]] ++ l.eraseIdx j) w := st_open j hj
theorem DNode.shut {l r : List As} {p : OV} {m : DNode} (g : Nat) (hg : p.1 = .pointer (some ⟨g, 0, none⟩)) (hp : l.Perm ([blk g 63 [eq (.string m.fe.fID), eq (.string m.fe.fRoom), sl strK m.fe.fParents, eq (.string m.fe.fThread), eq (.string m.fe.fUser), eq (.int .i64 m.fe.fDoes), eq (.int .i64 m.fdepth), eq (.bool m.fparent)]] ++ r)) : ∀ R w, St R l w → ∃ _ : Unit, True ∧ St R (DNode.O p m :: r) w := st_shut _ _ g hg hp
def DDag.O (p : OV) (m : DDag) : As := exA (γ := Nat × OV) (fun g => p.1 = .pointer (some ⟨g.1, 0, none⟩)) (fun g => [blk g.1 57 [eq (.string m.froom), eq g.2.1], mpo Value.string DNode.O g.2.1 m.fnodes])
theorem DDag.nn {p : OV} {m : DDag} : NN (DDag.O p m) p.1 := by unfold DDag.O; exact nn_ex (γ := Nat × OV) (b := fun g => g.1)
theorem DDag.opn {l : List As} {p : OV} {m : DDag} (j : Nat) (hj : l[j]? = some (DDag.O p m)) : ∀ R w, St R l w → ∃ g : Nat × OV, p.1 = .pointer (some ⟨g.1, 0, none⟩) ∧ St R ([blk g.1 57 [eq (.string m.froom), eq g.2.1], mpo Value.string DNode.O g.2.1 m.fnodes] ++ l.eraseIdx j) w := st_open j hj
theorem DDag.shut {l r : List As} {p : OV} {m : DDag} (g : Nat × OV) (hg : p.1 = .pointer (some ⟨g.1, 0, none⟩)) (hp : l.Perm ([blk g.1 57 [eq (.string m.froom), eq g.2.1], mpo Value.string DNode.O g.2.1 m.fnodes] ++ r)) : ∀ R w, St R l w → ∃ _ : Unit, True ∧ St R (DDag.O p m :: r) w := st_shut _ _ g hg hp
def fqQ_uint8_bool (g : Int → Option Bool) : List VP → VP → Prop := fun vs ret => ∃ a0 r, g a0 = some r ∧ vs = [eq (.int .u8 a0)] ∧ ret = eq (.bool r)
def fq_uint8_bool (g : Int → Option Bool) : VP := fnq Tryz.prog (fqQ_uint8_bool g)
def fx_uint8_bool (X : As) (g : Int → Option Bool) : VP := fnx Tryz.prog X (fqQ_uint8_bool g)
def fK_uint8_bool : Kd (Int → Option Bool) := ⟨1, fun _ => none, fun g => [fq_uint8_bool g], fun _ => rfl, fun _ p h R v hv => by simp at h; subst h; exact one_fnq R v hv⟩
def fqQ_string_bool (g : ByteArray → Option Bool) : List VP → VP → Prop := fun vs ret => ∃ a0 r, g a0 = some r ∧ vs = [eq (.string a0)] ∧ ret = eq (.bool r)
def fq_string_bool (g : ByteArray → Option Bool) : VP := fnq Tryz.prog (fqQ_string_bool g)
def fx_string_bool (X : As) (g : ByteArray → Option Bool) : VP := fnx Tryz.prog X (fqQ_string_bool g)
def fK_string_bool : Kd (ByteArray → Option Bool) := ⟨1, fun _ => none, fun g => [fq_string_bool g], fun _ => rfl, fun _ p h R v hv => by simp at h; subst h; exact one_fnq R v hv⟩
/-! concourse/dag.New: function 16 -/
def dag_New.f (a0 : ByteArray) : Option (DDag) := some (⟨a0, ([] : List (ByteArray × DNode))⟩ : DDag)
/-! internal/stringslite.HasPrefix: function 101 -/
def stringslite_HasPrefix.f (a0 : ByteArray) (a1 : ByteArray) : Option (Bool) := cond (decide ((a1.size : Int) ≤ (a0.size : Int))) (grd ((0 : Int) ≤ (a1.size : Int) ∧ 0 ≤ (a1.size : Int).toNat ∧ (a1.size : Int).toNat ≤ a0.size) (some (decide ((a0.extract 0 ((a1.size : Int).toNat)) = a1)))) (some false)
/-! internal/stringslite.CutPrefix: function 86 -/
def stringslite_CutPrefix.f (a0 : ByteArray) (a1 : ByteArray) : Option (ByteArray × Bool) := (stringslite_HasPrefix.f a0 a1).bind fun t5 => cond (!t5) (some (a0, false)) (grd ((0 : Int) ≤ (a1.size : Int) ∧ (a1.size : Int).toNat ≤ a0.size ∧ a0.size ≤ a0.size) (some (a0.extract (a1.size : Int).toNat a0.size, true)))
/-! strings.CutPrefix: function 66 -/
def strings_CutPrefix.f (a0 : ByteArray) (a1 : ByteArray) : Option (ByteArray × Bool) := (stringslite_CutPrefix.f a0 a1).bind fun t9 => some (t9.1, t9.2)
/-! concourse/name.small: function 103 -/
def name_small.f (a0 : Int) : Option (Bool) := cond (decide (97 ≤ a0)) (cond (decide (a0 ≤ 122)) (some true) (cond (decide (48 ≤ a0)) (some (decide (a0 ≤ 57))) (some false))) (cond (decide (48 ≤ a0)) (some (decide (a0 ≤ 57))) (some false))
/-! internal/stringslite.IndexByte: function 115 -/
def stringslite_IndexByte.f (a0 : ByteArray) (a1 : Int) : Option (Int) := some (idxB a0 a1)
/-! strings.IndexByte: function 104 -/
def strings_IndexByte.f (a0 : ByteArray) (a1 : Int) : Option (Int) := (stringslite_IndexByte.f a0 a1).bind fun t15 => some t15
/-! concourse/name.among$1: function 102 -/
def name_among_1.f (a0 : Int) (c0 : ByteArray) : Option (Bool) := (name_small.f a0).bind fun t17 => cond t17 (some true) ((strings_IndexByte.f c0 a0).bind fun t20 => some (decide (0 ≤ t20)))
/-! concourse/name.among: function 87 -/
def name_among.f (a0 : ByteArray) : Option ((Int → Option Bool)) := some (fun a0_ => name_among_1.f a0_ a0)
/-! concourse/name.may: function 67 -/
def name_may.l0 (k : Nat) (a0 : ByteArray) (a1 : Int) (t23 : (Int → Option Bool)) (t25 : (Int → Option Bool)) (t27 : (Int → Option Bool)) : Nat → Int → Option ((Int × Bool) ⊕ (Bool))
  | 0, _ => none
  | j38 + 1, x32 => cond (decide (x32 < (a0.size : Int))) (grd ((0 : Int) ≤ x32 ∧ x32 < (a0.size : Int)) (((fK_uint8_bool.at ([t23, t25, t27] : List (Int → Option Bool)) a1) (bt a0 x32)).bind fun t35 => cond (!t35) (some (.inr false)) (name_may.l0 k a0 a1 t23 t25 t27 j38 (w64 (x32 + 1))))) (some (.inl (x32, decide (x32 < (a0.size : Int)))))
def name_may.f (k : Nat) (a0 : ByteArray) (a1 : Int) : Option (Bool) := (name_among.f (⟨#[46, 45, 95]⟩ : ByteArray)).bind fun t23 => (name_among.f (⟨#[46, 45]⟩ : ByteArray)).bind fun t25 => (name_among.f (⟨#[45, 95, 65, 66, 67, 68, 69, 70, 71, 72, 73, 74, 75, 76, 77, 78, 79, 80, 81, 82, 83, 84, 85, 86, 87, 88, 89, 90]⟩ : ByteArray)).bind fun t27 => grd ((0 : Int) ≤ a1 ∧ a1 < (3 : Int)) ((name_may.l0 k a0 a1 t23 t25 t27 k 0).bind (fall fun (p30 : Int × Bool) => cond (!decide (a0 = (⟨#[]⟩ : ByteArray))) (some (decide ((a0.size : Int) ≤ 16))) (some false)))
/-! concourse/name.Event: function 51 -/
def name_Event.f (k : Nat) (a0 : ByteArray) : Option (Bool) := (strings_CutPrefix.f a0 (⟨#[36]⟩ : ByteArray)).bind fun t40 => cond t40.2 ((name_may.f k t40.1 2).bind fun t43 => some t43) (some false)
/-! internal/bytealg.Cutover: function 117 -/
def bytealg_Cutover.f (a0 : Int) : Option (Int) := some (w64 ((w64 (a0 + 16)).tdiv 8))
/-! internal/stringslite.Index: function 100 -/
def stringslite_Index.f (a0 : ByteArray) (a1 : ByteArray) : Option (Int) := cond ((a1.size : Int) == 0) (some 0) (cond (decide (a1 = a0)) (some 0) (cond ((a1.size : Int) == 1) (grd ((0 : Int) ≤ 0 ∧ 0 < (a1.size : Int)) ((stringslite_IndexByte.f a0 (bt a1 0)).bind fun t52 => some t52)) (cond (decide ((a0.size : Int) ≤ (a1.size : Int))) (some (-1)) (none))))
/-! internal/stringslite.Cut: function 85 -/
def stringslite_Cut.f (a0 : ByteArray) (a1 : ByteArray) : Option (ByteArray × ByteArray × Bool) := (stringslite_Index.f a0 a1).bind fun t55 => cond (decide (0 ≤ t55)) (grd ((0 : Int) ≤ t55 ∧ 0 ≤ t55.toNat ∧ t55.toNat ≤ a0.size) (grd ((0 : Int) ≤ (w64 (t55 + (a1.size : Int))) ∧ (w64 (t55 + (a1.size : Int))).toNat ≤ a0.size ∧ a0.size ≤ a0.size) (some (a0.extract 0 t55.toNat, a0.extract (w64 (t55 + (a1.size : Int))).toNat a0.size, true)))) (some (a0, (⟨#[]⟩ : ByteArray), false))
/-! strings.Cut: function 65 -/
def strings_Cut.f (a0 : ByteArray) (a1 : ByteArray) : Option (ByteArray × ByteArray × Bool) := (stringslite_Cut.f a0 a1).bind fun t60 => some (t60.1, t60.2.1, t60.2.2)
/-! concourse/name.Server: function 88 -/
def name_Server.f (k : Nat) (a0 : ByteArray) : Option (Bool) := (name_may.f k a0 1).bind fun t62 => cond t62 (grd ((0 : Int) ≤ 0 ∧ 0 < (a0.size : Int)) ((name_small.f (bt a0 0)).bind fun t66 => cond t66 (grd ((0 : Int) ≤ (w64 ((a0.size : Int) - 1)) ∧ (w64 ((a0.size : Int) - 1)) < (a0.size : Int)) ((name_small.f (bt a0 (w64 ((a0.size : Int) - 1)))).bind fun t70 => some t70)) (some false))) (some false)
/-! concourse/name.split: function 68 -/
def name_split.f (k : Nat) (a0 : ByteArray) (a1 : ByteArray) : Option (ByteArray × ByteArray × Bool) := (strings_CutPrefix.f a0 a1).bind fun t72 => (strings_Cut.f t72.1 (⟨#[58]⟩ : ByteArray)).bind fun t74 => cond t72.2 (cond t74.2.2 ((name_may.f k t74.1 0).bind fun t78 => cond t78 ((name_Server.f k t74.2.1).bind fun t81 => some (t74.1, t74.2.1, t81)) (some (t74.1, t74.2.1, false))) (some (t74.1, t74.2.1, false))) (some (t74.1, t74.2.1, false))
/-! concourse/name.Room: function 52 -/
def name_Room.f (k : Nat) (a0 : ByteArray) : Option (Bool) := (name_split.f k a0 (⟨#[33]⟩ : ByteArray)).bind fun t83 => some t83.2.2
/-! concourse/name.User: function 53 -/
def name_User.f (k : Nat) (a0 : ByteArray) : Option (Bool) := (name_split.f k a0 (⟨#[64]⟩ : ByteArray)).bind fun t85 => some t85.2.2
/-! concourse/dag.May: function 34 -/
def dag_May.l0 (k : Nat) (a0 : Event) : Nat → Int → Option (Bool × Int × Bool)
  | 0, _ => none
  | j127 + 1, x114 => cond (decide (x114 < (a0.fParents.length : Int))) (grd ((0 : Int) ≤ x114 ∧ x114 < (a0.fParents.length : Int)) ((name_Event.f k (strK.at a0.fParents x114)).bind fun t117 => cond (!t117) (some (false, x114, decide (x114 < (a0.fParents.length : Int)))) (cond (decide ((strK.at a0.fParents x114) = a0.fID)) (some (false, x114, decide (x114 < (a0.fParents.length : Int)))) (cond (decide (0 < x114)) (grd ((0 : Int) ≤ (w64 (x114 - 1)) ∧ (w64 (x114 - 1)) < (a0.fParents.length : Int)) (cond (!sLt (strK.at a0.fParents (w64 (x114 - 1))) (strK.at a0.fParents x114)) (some (false, x114, decide (x114 < (a0.fParents.length : Int)))) (dag_May.l0 k a0 j127 (w64 (x114 + 1))))) (dag_May.l0 k a0 j127 (w64 (x114 + 1))))))) (some (true, x114, decide (x114 < (a0.fParents.length : Int))))
def dag_May.l1 (k : Nat) (a0 : Event) : Nat → Int → Option (Bool × Int × Bool)
  | 0, _ => none
  | j144 + 1, x131 => cond (decide (x131 < (a0.fParents.length : Int))) (grd ((0 : Int) ≤ x131 ∧ x131 < (a0.fParents.length : Int)) ((name_Event.f k (strK.at a0.fParents x131)).bind fun t134 => cond (!t134) (some (false, x131, decide (x131 < (a0.fParents.length : Int)))) (cond (decide ((strK.at a0.fParents x131) = a0.fID)) (some (false, x131, decide (x131 < (a0.fParents.length : Int)))) (cond (decide (0 < x131)) (grd ((0 : Int) ≤ (w64 (x131 - 1)) ∧ (w64 (x131 - 1)) < (a0.fParents.length : Int)) (cond (!sLt (strK.at a0.fParents (w64 (x131 - 1))) (strK.at a0.fParents x131)) (some (false, x131, decide (x131 < (a0.fParents.length : Int)))) (dag_May.l1 k a0 j144 (w64 (x131 + 1))))) (dag_May.l1 k a0 j144 (w64 (x131 + 1))))))) (some (true, x131, decide (x131 < (a0.fParents.length : Int))))
def dag_May.f (k : Nat) (a0 : Event) : Option (Bool) := (name_Event.f k a0.fID).bind fun t88 => cond (!t88) (some false) ((name_Room.f k a0.fRoom).bind fun t92 => cond (!t92) (some false) ((name_User.f k a0.fUser).bind fun t96 => cond (!t96) (some false) (cond (decide (4 < (a0.fParents.length : Int))) (some false) (cond (decide (a0.fDoes < 0)) (some false) (cond (decide (2 < a0.fDoes)) (some false) (cond (!decide (a0.fThread = (⟨#[]⟩ : ByteArray))) ((name_Event.f k a0.fThread).bind fun t106 => cond (!t106) (some false) (cond (decide (a0.fThread = a0.fID)) (some false) (cond (a0.fDoes != 0) (some false) ((dag_May.l0 k a0 k 0).bind fun (p113 : Bool × Int × Bool) => some p113.1)))) ((dag_May.l1 k a0 k 0).bind fun (p130 : Bool × Int × Bool) => some p130.1)))))))
/-! (*concourse/dag.Dag).Has: function 35 -/
def dag_Dag_Has.f (a0 : DDag) (a1 : ByteArray) : Option (Bool) := some (!(mget a0.fnodes a1).isNone)
/-! slices.IndexFunc[[]string,string]: function 54 -/
def slices_IndexFunc_string_x.l0 (k : Nat) (a0 : List ByteArray) (a1 : (ByteArray → Option Bool)) : Nat → Int → Option ((Int × Bool) ⊕ (Int))
  | 0, _ => none
  | j155 + 1, x149 => cond (decide (x149 < (a0.length : Int))) (grd ((0 : Int) ≤ x149 ∧ x149 < (a0.length : Int)) ((a1 (strK.at a0 x149)).bind fun t152 => cond t152 (some (.inr x149)) (slices_IndexFunc_string_x.l0 k a0 a1 j155 (w64 (x149 + 1))))) (some (.inl (x149, decide (x149 < (a0.length : Int)))))
def slices_IndexFunc_string_x.f (k : Nat) (a0 : List ByteArray) (a1 : (ByteArray → Option Bool)) : Option (Int) := (slices_IndexFunc_string_x.l0 k a0 a1 k 0).bind (fall fun (p148 : Int × Bool) => some (-1))
/-! slices.ContainsFunc[[]string,string]: function 36 -/
def slices_ContainsFunc_string_x.f (k : Nat) (a0 : List ByteArray) (a1 : (ByteArray → Option Bool)) : Option (Bool) := (slices_IndexFunc_string_x.f k a0 a1).bind fun t157 => some (decide (0 ≤ t157))
/-! (*concourse/dag.Dag).Add$1: function 37 -/
def dag_Dag_Add_1.f (a0 : ByteArray) (c0 : DDag) : Option (Bool) := (dag_Dag_Has.f c0 a0).bind fun t159 => some (!t159)
/-! slices.Clone[[]string,string] -/
def slices_Clone_string.f (xs : List ByteArray) : Option (List ByteArray) := grd (xs.length ≤ 9223372036854775807 ∧ xs.length * 16 ≤ 140737488355328) (some xs)
/-! concourse/dag.own: function 38 -/
def dag_own.f (a0 : Event) : Option (Event) := (slices_Clone_string.f a0.fParents).bind fun t163 => some (⟨a0.fID, a0.fRoom, t163, a0.fThread, a0.fUser, a0.fDoes⟩ : Event)
/-! (*concourse/dag.Dag).Add: function 17 -/
def dag_Dag_Add.l0 (k : Nat) (a1 : Event) : Nat → Int → Int → DDag → Option (Int × Bool × Int × DDag)
  | 0, _, _, _ => none
  | j203 + 1, x190, x191, x192 => cond (decide (x190 < (a1.fParents.length : Int))) (grd ((0 : Int) ≤ x190 ∧ x190 < (a1.fParents.length : Int)) (grd ((mget x192.fnodes (strK.at a1.fParents x190)).isSome = true) (dag_Dag_Add.l0 k a1 j203 (w64 (x190 + 1)) (max x191 (w64 ((((mget x192.fnodes (strK.at a1.fParents x190)).getD default).fdepth) + 1))) (⟨x192.froom, mput x192.fnodes (strK.at a1.fParents x190) (⟨((mget x192.fnodes (strK.at a1.fParents x190)).getD default).fe, ((mget x192.fnodes (strK.at a1.fParents x190)).getD default).fdepth, true⟩ : DNode)⟩ : DDag)))) (some (x190, decide (x190 < (a1.fParents.length : Int)), x191, x192))
def dag_Dag_Add.f (k : Nat) (a0 : DDag) (a1 : Event) : Option (Int × DDag) := (dag_May.f k a1).bind fun t170 => cond (!t170) (some (1, a0)) (cond (!decide (a1.fRoom = a0.froom)) (some (1, a0)) ((dag_Dag_Has.f a0 a1.fID).bind fun t175 => cond t175 (some (9, a0)) ((slices_ContainsFunc_string_x.f k a1.fParents (fun a0_ => dag_Dag_Add_1.f a0_ a0)).bind fun t178 => cond t178 (some (4, a0)) ((cond (!decide (a1.fThread = (⟨#[]⟩ : ByteArray))) (cond ((mget a0.fnodes a1.fThread).isNone) (some (.inr (4, a0))) (grd ((mget a0.fnodes a1.fThread).isSome = true) (cond (!decide (((((mget a0.fnodes a1.fThread).getD default).fe).fThread) = (⟨#[]⟩ : ByteArray))) (some (.inr (7, a0))) (cond (((((mget a0.fnodes a1.fThread).getD default).fe).fDoes) != 0) (some (.inr (7, a0))) (some (.inl ())))))) (some (.inl ()))).bind (fall fun (p181 : Unit) => (dag_own.f a1).bind fun t182 => (dag_Dag_Add.l0 k a1 k 0 0 a0).bind fun (p185 : Int × Bool × Int × DDag) => some (0, (⟨p185.2.2.2.froom, mput p185.2.2.2.fnodes a1.fID (⟨t182, p185.2.2.1, false⟩ : DNode)⟩ : DDag)))))))
/-! concourse/concourseref01.Around: function 32 -/
def concourseref01_Around.f (a0 : Int) (a1 : Int) : Option (Int) := cond (decide (a0 < 0)) (grd (a1 ≠ 0) (some ((w64 (0 - (w64 (a0 + 1)))).tmod a1))) (grd (a1 ≠ 0) (some (a0.tmod a1)))
/-! concourse/concourseref01.ServerOf: function 11 -/
def concourseref01_ServerOf.f (a0 : Int) : Option (ByteArray) := (concourseref01_Around.f a0 3).bind fun t218 => grd ((0 : Int) ≤ t218 ∧ t218 < (([(⟨#[115, 49]⟩ : ByteArray), (⟨#[115, 50]⟩ : ByteArray), (⟨#[115, 51]⟩ : ByteArray)] : List ByteArray).length : Int)) (some (strK.at ([(⟨#[115, 49]⟩ : ByteArray), (⟨#[115, 50]⟩ : ByteArray), (⟨#[115, 51]⟩ : ByteArray)] : List ByteArray) t218))
/-! concourse/concourseref01.UserOf: function 19 -/
def concourseref01_UserOf.f (a0 : Int) : Option (ByteArray) := (concourseref01_Around.f a0 9).bind fun t221 => grd ((0 : Int) ≤ (w64 (t221.tdiv 3)) ∧ (w64 (t221.tdiv 3)) < (([(⟨#[64, 97, 58]⟩ : ByteArray), (⟨#[64, 98, 58]⟩ : ByteArray), (⟨#[64, 99, 58]⟩ : ByteArray)] : List ByteArray).length : Int)) ((concourseref01_ServerOf.f (t221.tmod 3)).bind fun t224 => grd ((strK.at ([(⟨#[64, 97, 58]⟩ : ByteArray), (⟨#[64, 98, 58]⟩ : ByteArray), (⟨#[64, 99, 58]⟩ : ByteArray)] : List ByteArray) (w64 (t221.tdiv 3))).size + t224.size ≤ 9223372036854775807) (some ((strK.at ([(⟨#[64, 97, 58]⟩ : ByteArray), (⟨#[64, 98, 58]⟩ : ByteArray), (⟨#[64, 99, 58]⟩ : ByteArray)] : List ByteArray) (w64 (t221.tdiv 3))) ++ t224)))
/-! concourse/concourseref01.Decimal: function 21 -/
def concourseref01_Decimal.f : Nat → Int → Option (ByteArray)
  | 0, _ => none
  | k + 1, a0 => (cond (decide ((a0.tmod 10) < 0)) (some (w64 (0 - (a0.tmod 10)))) (some (a0.tmod 10))).bind fun (p227 : Int) => cond (decide ((-10) < a0)) (cond (decide (a0 < 10)) (cond (decide (a0 < 0)) (grd ((⟨#[45]⟩ : ByteArray).size + (ofNums ([IntKind.u8.wrap (w64 (48 + p227))] : List Int)).size ≤ 9223372036854775807) (some ((⟨#[45]⟩ : ByteArray) ++ (ofNums ([IntKind.u8.wrap (w64 (48 + p227))] : List Int))))) (some (ofNums ([IntKind.u8.wrap (w64 (48 + p227))] : List Int)))) ((concourseref01_Decimal.f k (w64 (a0.tdiv 10))).bind fun t232 => grd (t232.size + (ofNums ([IntKind.u8.wrap (w64 (48 + p227))] : List Int)).size ≤ 9223372036854775807) (some (t232 ++ (ofNums ([IntKind.u8.wrap (w64 (48 + p227))] : List Int)))))) ((concourseref01_Decimal.f k (w64 (a0.tdiv 10))).bind fun t236 => grd (t236.size + (ofNums ([IntKind.u8.wrap (w64 (48 + p227))] : List Int)).size ≤ 9223372036854775807) (some (t236 ++ (ofNums ([IntKind.u8.wrap (w64 (48 + p227))] : List Int)))))
/-! concourse/concourseref01.EventOf: function 45 -/
def concourseref01_EventOf.f (k : Nat) (a0 : Int) : Option (ByteArray) := (concourseref01_Around.f a0 9).bind fun t240 => (concourseref01_Decimal.f k t240).bind fun t242 => grd ((⟨#[36, 101]⟩ : ByteArray).size + t242.size ≤ 9223372036854775807) (some ((⟨#[36, 101]⟩ : ByteArray) ++ t242))
/-! concourse/concourseref01.colon: function 64 -/
def concourseref01_colon.l0 (k : Nat) (a0 : ByteArray) : Nat → Int → Option ((Int × Bool) ⊕ (Int))
  | 0, _ => none
  | j250 + 1, x246 => cond (decide (x246 < (a0.size : Int))) (grd ((0 : Int) ≤ x246 ∧ x246 < (a0.size : Int)) (cond ((bt a0 x246) == 58) (some (.inr x246)) (concourseref01_colon.l0 k a0 j250 (w64 (x246 + 1))))) (some (.inl (x246, decide (x246 < (a0.size : Int)))))
def concourseref01_colon.f (k : Nat) (a0 : ByteArray) : Option (Int) := (concourseref01_colon.l0 k a0 k 0).bind (fall fun (p245 : Int × Bool) => some (-1))
/-! concourse/concourseref01.low: function 99 -/
def concourseref01_low.f (a0 : Int) : Option (Bool) := cond (decide (97 ≤ a0)) (cond (decide (a0 ≤ 122)) (some true) (cond (decide (48 ≤ a0)) (some (decide (a0 ≤ 57))) (some false))) (cond (decide (48 ≤ a0)) (some (decide (a0 ≤ 57))) (some false))
/-! concourse/concourseref01.Part: function 83 -/
def concourseref01_Part.l0 (k : Nat) (a0 : ByteArray) : Nat → Int → Option ((Int × Bool) ⊕ (Bool))
  | 0, _ => none
  | j273 + 1, x258 => cond (decide (x258 < (a0.size : Int))) (grd ((0 : Int) ≤ x258 ∧ x258 < (a0.size : Int)) ((concourseref01_low.f (bt a0 x258)).bind fun t261 => cond (!t261) (grd ((0 : Int) ≤ x258 ∧ x258 < (a0.size : Int)) (cond ((bt a0 x258) != 46) (grd ((0 : Int) ≤ x258 ∧ x258 < (a0.size : Int)) (cond ((bt a0 x258) != 45) (grd ((0 : Int) ≤ x258 ∧ x258 < (a0.size : Int)) (cond ((bt a0 x258) != 95) (some (.inr false)) (concourseref01_Part.l0 k a0 j273 (w64 (x258 + 1))))) (concourseref01_Part.l0 k a0 j273 (w64 (x258 + 1))))) (concourseref01_Part.l0 k a0 j273 (w64 (x258 + 1))))) (concourseref01_Part.l0 k a0 j273 (w64 (x258 + 1))))) (some (.inl (x258, decide (x258 < (a0.size : Int)))))
def concourseref01_Part.f (k : Nat) (a0 : ByteArray) : Option (Bool) := (concourseref01_Part.l0 k a0 k 0).bind (fall fun (p256 : Int × Bool) => cond (decide (0 < (a0.size : Int))) (some (decide ((a0.size : Int) < 17))) (some false))
/-! concourse/concourseref01.Server: function 84 -/
def concourseref01_Server.l0 (k : Nat) (a0 : ByteArray) : Nat → Int → Option ((Int × Bool) ⊕ (Bool))
  | 0, _ => none
  | j299 + 1, x277 => cond (decide (x277 < (a0.size : Int))) (grd ((0 : Int) ≤ x277 ∧ x277 < (a0.size : Int)) ((concourseref01_low.f (bt a0 x277)).bind fun t280 => cond (decide (0 < x277)) (cond (decide (x277 < (w64 ((a0.size : Int) - 1)))) (grd ((0 : Int) ≤ x277 ∧ x277 < (a0.size : Int)) (cond ((bt a0 x277) == 46) (cond (!t280) (concourseref01_Server.l0 k a0 j299 (w64 (x277 + 1))) (concourseref01_Server.l0 k a0 j299 (w64 (x277 + 1)))) (grd ((0 : Int) ≤ x277 ∧ x277 < (a0.size : Int)) (cond (!t280) (cond (!((bt a0 x277) == 45)) (some (.inr false)) (concourseref01_Server.l0 k a0 j299 (w64 (x277 + 1)))) (concourseref01_Server.l0 k a0 j299 (w64 (x277 + 1))))))) (cond (!t280) (some (.inr false)) (concourseref01_Server.l0 k a0 j299 (w64 (x277 + 1))))) (cond (!t280) (some (.inr false)) (concourseref01_Server.l0 k a0 j299 (w64 (x277 + 1)))))) (some (.inl (x277, decide (x277 < (a0.size : Int)))))
def concourseref01_Server.f (k : Nat) (a0 : ByteArray) : Option (Bool) := (concourseref01_Server.l0 k a0 k 0).bind (fall fun (p275 : Int × Bool) => cond (decide (0 < (a0.size : Int))) (some (decide ((a0.size : Int) < 17))) (some false))
/-! concourse/concourseref01.Named: function 63 -/
def concourseref01_Named.f (k : Nat) (a0 : ByteArray) (a1 : Int) : Option (Bool) := (concourseref01_colon.f k a0).bind fun t301 => cond (decide (t301 < 1)) (some false) (grd ((0 : Int) ≤ 0 ∧ 0 < (a0.size : Int)) (cond ((bt a0 0) != a1) (some false) (grd ((0 : Int) ≤ 1 ∧ (0 : Int) ≤ t301 ∧ (1 : Int).toNat ≤ t301.toNat ∧ t301.toNat ≤ a0.size) ((concourseref01_Part.f k (a0.extract (1 : Int).toNat t301.toNat)).bind fun t308 => grd ((0 : Int) ≤ (w64 (t301 + 1)) ∧ (w64 (t301 + 1)).toNat ≤ a0.size ∧ a0.size ≤ a0.size) ((concourseref01_Server.f k (a0.extract (w64 (t301 + 1)).toNat a0.size)).bind fun t311 => cond t308 (some t311) (some false))))))
/-! concourse/concourseref01.Event: function 82 -/
def concourseref01_Event.l0 (k : Nat) (a0 : ByteArray) : Nat → Int → Option ((Int × Bool) ⊕ (Bool))
  | 0, _ => none
  | j345 + 1, x321 => cond (decide (x321 < (a0.size : Int))) (grd ((0 : Int) ≤ x321 ∧ x321 < (a0.size : Int)) ((concourseref01_low.f (bt a0 x321)).bind fun t324 => grd ((0 : Int) ≤ x321 ∧ x321 < (a0.size : Int)) (cond (decide (65 ≤ (bt a0 x321))) (grd ((0 : Int) ≤ x321 ∧ x321 < (a0.size : Int)) (cond (!t324) (cond (!(decide ((bt a0 x321) ≤ 90))) (grd ((0 : Int) ≤ x321 ∧ x321 < (a0.size : Int)) (cond ((bt a0 x321) != 45) (grd ((0 : Int) ≤ x321 ∧ x321 < (a0.size : Int)) (cond ((bt a0 x321) != 95) (some (.inr false)) (concourseref01_Event.l0 k a0 j345 (w64 (x321 + 1))))) (concourseref01_Event.l0 k a0 j345 (w64 (x321 + 1))))) (concourseref01_Event.l0 k a0 j345 (w64 (x321 + 1)))) (concourseref01_Event.l0 k a0 j345 (w64 (x321 + 1))))) (cond (!t324) (grd ((0 : Int) ≤ x321 ∧ x321 < (a0.size : Int)) (cond ((bt a0 x321) != 45) (grd ((0 : Int) ≤ x321 ∧ x321 < (a0.size : Int)) (cond ((bt a0 x321) != 95) (some (.inr false)) (concourseref01_Event.l0 k a0 j345 (w64 (x321 + 1))))) (concourseref01_Event.l0 k a0 j345 (w64 (x321 + 1))))) (concourseref01_Event.l0 k a0 j345 (w64 (x321 + 1))))))) (some (.inl (x321, decide (x321 < (a0.size : Int)))))
def concourseref01_Event.f (k : Nat) (a0 : ByteArray) : Option (Bool) := cond (decide ((a0.size : Int) < 2)) (some false) (cond (decide (17 < (a0.size : Int))) (some false) (grd ((0 : Int) ≤ 0 ∧ 0 < (a0.size : Int)) (cond ((bt a0 0) != 36) (some false) ((concourseref01_Event.l0 k a0 k 1).bind (fall fun (p320 : Int × Bool) => some true)))))
/-! concourse/concourseref07.May: function 61 -/
def concourseref07_May.l0 (k : Nat) (a0 : Event) : Nat → Int → Option ((Int × Bool) ⊕ (Bool))
  | 0, _ => none
  | j381 + 1, x367 => cond (decide (x367 < (a0.fParents.length : Int))) (grd ((0 : Int) ≤ x367 ∧ x367 < (a0.fParents.length : Int)) ((concourseref01_Event.f k (strK.at a0.fParents x367)).bind fun t370 => cond (!t370) (some (.inr false)) (grd ((0 : Int) ≤ x367 ∧ x367 < (a0.fParents.length : Int)) (cond (decide ((strK.at a0.fParents x367) = a0.fID)) (some (.inr false)) (cond (decide (0 < x367)) (grd ((0 : Int) ≤ (max (w64 (x367 - 1)) 0) ∧ (max (w64 (x367 - 1)) 0) < (a0.fParents.length : Int)) (grd ((0 : Int) ≤ x367 ∧ x367 < (a0.fParents.length : Int)) (cond (!sLt (strK.at a0.fParents (max (w64 (x367 - 1)) 0)) (strK.at a0.fParents x367)) (some (.inr false)) (concourseref07_May.l0 k a0 j381 (w64 (x367 + 1)))))) (concourseref07_May.l0 k a0 j381 (w64 (x367 + 1)))))))) (some (.inl (x367, decide (x367 < (a0.fParents.length : Int)))))
def concourseref07_May.f (k : Nat) (a0 : Event) : Option (Bool) := (concourseref01_Event.f k a0.fID).bind fun t348 => (concourseref01_Named.f k a0.fRoom 33).bind fun t350 => (concourseref01_Named.f k a0.fUser 64).bind fun t352 => cond (!t348) (some false) (cond (!t350) (some false) (cond (!t352) (some false) (cond (decide (4 < (a0.fParents.length : Int))) (some false) (cond (decide (a0.fDoes < 0)) (some false) (cond (decide (2 < a0.fDoes)) (some false) ((cond (!decide (a0.fThread = (⟨#[]⟩ : ByteArray))) ((concourseref01_Event.f k a0.fThread).bind fun t384 => cond (!t384) (some (.inr false)) (cond (decide (a0.fThread = a0.fID)) (some (.inr false)) (cond (a0.fDoes != 0) (some (.inr false)) (some (.inl ()))))) (some (.inl ()))).bind (fall fun (p365 : Unit) => (concourseref07_May.l0 k a0 k 0).bind (fall fun (p366 : Int × Bool) => some true))))))))
/-! concourse/concourseref07.At: function 62 -/
def concourseref07_At.l0 (k : Nat) (a0 : RDag) (a1 : ByteArray) : Nat → Int → Option ((Int × Bool) ⊕ (Int))
  | 0, _ => none
  | j397 + 1, x393 => cond (decide (x393 < (a0.fL.length : Int))) (grd ((0 : Int) ≤ x393 ∧ x393 < (a0.fL.length : Int)) (cond (decide (((Event.K.at a0.fL x393).fID) = a1)) (some (.inr x393)) (concourseref07_At.l0 k a0 a1 j397 (w64 (x393 + 1))))) (some (.inl (x393, decide (x393 < (a0.fL.length : Int)))))
def concourseref07_At.f (k : Nat) (a0 : RDag) (a1 : ByteArray) : Option (Int) := (concourseref07_At.l0 k a0 a1 k 0).bind (fall fun (p392 : Int × Bool) => some (-1))
/-! concourse/concourseref07.Add: function 46 -/
def concourseref07_Add.l0 (k : Nat) (a0 : RDag) (a1 : Event) : Nat → Int → Option ((Int × Bool) ⊕ (RDag × Int))
  | 0, _ => none
  | j431 + 1, x425 => cond (decide (x425 < (a1.fParents.length : Int))) (grd ((0 : Int) ≤ x425 ∧ x425 < (a1.fParents.length : Int)) ((concourseref07_At.f k a0 (strK.at a1.fParents x425)).bind fun t428 => cond (decide (t428 < 0)) (some (.inr (a0, 4))) (concourseref07_Add.l0 k a0 a1 j431 (w64 (x425 + 1))))) (some (.inl (x425, decide (x425 < (a1.fParents.length : Int)))))
def concourseref07_Add.f (k : Nat) (a0 : RDag) (a1 : Event) : Option (RDag × Int) := (concourseref07_May.f k a1).bind fun t402 => cond (!t402) (some (a0, 1)) (cond (!decide (a1.fRoom = a0.fRoom)) (some (a0, 1)) ((concourseref07_At.f k a0 a1.fID).bind fun t407 => cond (decide (0 ≤ t407)) (some (a0, 9)) ((concourseref07_Add.l0 k a0 a1 k 0).bind (fall fun (p410 : Int × Bool) => (cond (!decide (a1.fThread = (⟨#[]⟩ : ByteArray))) ((concourseref07_At.f k a0 a1.fThread).bind fun t417 => cond (decide (t417 < 0)) (some (.inr (a0, 4))) (grd ((0 : Int) ≤ t417 ∧ t417 < (a0.fL.length : Int)) (cond (!decide (((Event.K.at a0.fL t417).fThread) = (⟨#[]⟩ : ByteArray))) (some (.inr (a0, 7))) (grd ((0 : Int) ≤ t417 ∧ t417 < (a0.fL.length : Int)) (cond (((Event.K.at a0.fL t417).fDoes) != 0) (some (.inr (a0, 7))) (some (.inl ()))))))) (some (.inl ()))).bind (fall fun (p411 : Unit) => grd (([] : List Event).length + a0.fL.length ≤ 9223372036854775807 ∧ (([] : List Event).length + a0.fL.length) * 96 ≤ 140737488355328) (grd ((([] : List Event) ++ a0.fL).length + ([a1] : List Event).length ≤ 9223372036854775807 ∧ ((([] : List Event) ++ a0.fL).length + ([a1] : List Event).length) * 96 ≤ 140737488355328) (some ((⟨a0.fRoom, (([] : List Event) ++ a0.fL) ++ ([a1] : List Event)⟩ : RDag), 0))))))))
/-! concourse/concourseref07.Made: function 29 -/
def concourseref07_Made.l1 (k : Nat) (x436 : Int) (p455 : Int × Bool × (List Bool)) : Nat → Int → List ByteArray → Option (Int × Bool × (List ByteArray))
  | 0, _, _ => none
  | j502 + 1, x491, x492 => cond (decide (x491 < x436)) (grd ((0 : Int) ≤ x491 ∧ x491 < (p455.2.2.length : Int)) (cond (p455.2.2.getD x491.toNat default) ((concourseref01_EventOf.f k x491).bind fun t498 => grd (x492.length + ([t498] : List ByteArray).length ≤ 9223372036854775807 ∧ (x492.length + ([t498] : List ByteArray).length) * 16 ≤ 140737488355328) (concourseref07_Made.l1 k x436 p455 j502 (w64 (x491 + 1)) (x492 ++ ([t498] : List ByteArray)))) (concourseref07_Made.l1 k x436 p455 j502 (w64 (x491 + 1)) x492))) (some (x491, decide (x491 < x436), x492))
def concourseref07_Made.l2 (k : Nat) (a1 : List GMade) (x436 : Int) : Nat → Int → List Bool → Option (Int × Bool × (List Bool))
  | 0, _, _ => none
  | j519 + 1, x505, x506 => grd ((0 : Int) ≤ x436 ∧ x436 < (a1.length : Int)) (cond (decide (x505 < (((GMade.K.at a1 x436).fParents).length : Int))) (cond (decide (x505 < 3)) (cond (decide (0 < x436)) (grd ((0 : Int) ≤ x436 ∧ x436 < (a1.length : Int)) (grd ((0 : Int) ≤ x505 ∧ x505 < (((GMade.K.at a1 x436).fParents).length : Int)) ((concourseref01_Around.f ((intK .i64).at ((GMade.K.at a1 x436).fParents) x505) x436).bind fun t513 => grd ((0 : Int) ≤ t513 ∧ t513 < (x506.length : Int)) (concourseref07_Made.l2 k a1 x436 j519 (w64 (x505 + 1)) (x506.set t513.toNat true))))) (some (x505, decide (0 < x436), x506))) (some (x505, false, x506))) (some (x505, false, x506)))
def concourseref07_Made.l0 (k : Nat) (a0 : ByteArray) (a1 : List GMade) : Nat → Int → ByteArray → List Event → Option (Int × Bool × ByteArray × (List Event))
  | 0, _, _, _ => none
  | j523 + 1, x436, x437, x438 => cond (decide (x436 < (a1.length : Int))) (cond (decide (x436 < 9)) (((concourseref01_EventOf.f k x436).bind fun t443 => grd ((0 : Int) ≤ x436 ∧ x436 < (a1.length : Int)) ((concourseref01_UserOf.f ((GMade.K.at a1 x436).fUser)).bind fun t446 => grd ((0 : Int) ≤ x436 ∧ x436 < (a1.length : Int)) ((concourseref01_Around.f ((GMade.K.at a1 x436).fDoes) 3).bind fun t449 => grd ((0 : Int) ≤ 9 ∧ 9 ≤ (9223372036854775807 : Int) ∧ (9 : Int).toNat * 1 ≤ 140737488355328) ((concourseref07_Made.l2 k a1 x436 k 0 (List.replicate (9 : Int).toNat (false : Bool))).bind fun (p455 : Int × Bool × (List Bool)) => (concourseref07_Made.l1 k x436 p455 k 0 ([] : List ByteArray)).bind fun (p456 : Int × Bool × (List ByteArray)) => cond (t449 == 0) (cond (decide (0 < x436)) (grd ((0 : Int) ≤ x436 ∧ x436 < (a1.length : Int)) ((concourseref01_Around.f ((GMade.K.at a1 x436).fThread) (w64 (2 * x436))).bind fun t461 => cond (decide (t461 < x436)) (grd ((0 : Int) ≤ t461 ∧ t461 < (x438.length : Int)) (cond (((Event.K.at x438 t461).fDoes) == 0) (grd ((0 : Int) ≤ t461 ∧ t461 < (x438.length : Int)) (cond (decide (((Event.K.at x438 t461).fThread) = (⟨#[]⟩ : ByteArray))) ((concourseref01_EventOf.f k t461).bind fun t468 => (concourseref07_Add.f k (⟨x437, x438⟩ : RDag) (⟨t443, a0, p456.2.2, t468, t446, t449⟩ : Event)).bind fun t470 => some (p455.1, p456.1, p455.2.1, p456.2.1, decide (0 < x436), t470.1.fRoom, t470.1.fL, p455.2.2)) ((concourseref07_Add.f k (⟨x437, x438⟩ : RDag) (⟨t443, a0, p456.2.2, (⟨#[]⟩ : ByteArray), t446, t449⟩ : Event)).bind fun t473 => some (p455.1, p456.1, p455.2.1, p456.2.1, decide (0 < x436), t473.1.fRoom, t473.1.fL, p455.2.2)))) ((concourseref07_Add.f k (⟨x437, x438⟩ : RDag) (⟨t443, a0, p456.2.2, (⟨#[]⟩ : ByteArray), t446, t449⟩ : Event)).bind fun t477 => some (p455.1, p456.1, p455.2.1, p456.2.1, decide (0 < x436), t477.1.fRoom, t477.1.fL, p455.2.2)))) ((concourseref07_Add.f k (⟨x437, x438⟩ : RDag) (⟨t443, a0, p456.2.2, (⟨#[]⟩ : ByteArray), t446, t449⟩ : Event)).bind fun t481 => some (p455.1, p456.1, p455.2.1, p456.2.1, decide (0 < x436), t481.1.fRoom, t481.1.fL, p455.2.2)))) ((concourseref07_Add.f k (⟨x437, x438⟩ : RDag) (⟨t443, a0, p456.2.2, (⟨#[]⟩ : ByteArray), t446, t449⟩ : Event)).bind fun t484 => some (p455.1, p456.1, p455.2.1, p456.2.1, decide (0 < x436), t484.1.fRoom, t484.1.fL, p455.2.2))) ((concourseref07_Add.f k (⟨x437, x438⟩ : RDag) (⟨t443, a0, p456.2.2, (⟨#[]⟩ : ByteArray), t446, t449⟩ : Event)).bind fun t488 => some (p455.1, p456.1, p455.2.1, p456.2.1, false, t488.1.fRoom, t488.1.fL, p455.2.2)))))).bind fun (p441 : Int × Int × Bool × Bool × Bool × ByteArray × (List Event) × (List Bool)) => concourseref07_Made.l0 k a0 a1 j523 (w64 (x436 + 1)) p441.2.2.2.2.2.1 p441.2.2.2.2.2.2.1) (some (x436, decide (x436 < 9), x437, x438))) (some (x436, false, x437, x438))
def concourseref07_Made.f (k : Nat) (a0 : ByteArray) (a1 : List GMade) : Option (RDag) := (concourseref07_Made.l0 k a0 a1 k 0 a0 ([] : List Event)).bind fun (p435 : Int × Bool × ByteArray × (List Event)) => some (⟨p435.2.2.1, p435.2.2.2⟩ : RDag)
/-! concourse/concourselaw09.build: function 7 -/
def concourselaw09_build.l0 (k : Nat) (t526 : RDag) : Nat → Int → DDag → Option ((Int × Bool × DDag) ⊕ ((Option DDag) × RDag))
  | 0, _, _ => none
  | j541 + 1, x534, x535 => cond (decide (x534 < (t526.fL.length : Int))) (grd ((0 : Int) ≤ x534 ∧ x534 < (t526.fL.length : Int)) ((dag_Dag_Add.f k x535 (Event.K.at t526.fL x534)).bind fun t538 => cond (t538.1 != 0) (some (.inr (none, t526))) (concourselaw09_build.l0 k t526 j541 (w64 (x534 + 1)) t538.2))) (some (.inl (x534, decide (x534 < (t526.fL.length : Int)), x535)))
def concourselaw09_build.f (k : Nat) (a0 : List GMade) : Option ((Option DDag) × RDag) := (concourseref07_Made.f k (⟨#[33, 114, 58, 115, 49]⟩ : ByteArray) a0).bind fun t526 => (dag_New.f t526.fRoom).bind fun t529 => (concourselaw09_build.l0 k t526 k 0 t529).bind (fall fun (p533 : Int × Bool × DDag) => some (some p533.2.2, t526))
/-! concourse/concourseref09.Put: function 22 -/
def concourseref09_Put.l0 (k : Nat) (a0 : List ByteArray) (a1 : ByteArray) : Nat → Bool → Int → List ByteArray → Option (Bool × Int × Bool × (List ByteArray))
  | 0, _, _, _ => none
  | j567 + 1, x548, x549, x550 => cond (decide (x549 < (a0.length : Int))) ((cond (!x548) (grd ((0 : Int) ≤ x549 ∧ x549 < (a0.length : Int)) (cond (!sLt (strK.at a0 x549) a1) (grd (x550.length + ([a1] : List ByteArray).length ≤ 9223372036854775807 ∧ (x550.length + ([a1] : List ByteArray).length) * 16 ≤ 140737488355328) (some (true, !sLt (strK.at a0 x549) a1, x550 ++ ([a1] : List ByteArray)))) (some (x548, !sLt (strK.at a0 x549) a1, x550)))) (some (x548, false, x550))).bind fun (p553 : Bool × Bool × (List ByteArray)) => grd ((0 : Int) ≤ x549 ∧ x549 < (a0.length : Int)) (cond (!decide ((strK.at a0 x549) = a1)) (grd ((0 : Int) ≤ x549 ∧ x549 < (a0.length : Int)) (grd (p553.2.2.length + ([strK.at a0 x549] : List ByteArray).length ≤ 9223372036854775807 ∧ (p553.2.2.length + ([strK.at a0 x549] : List ByteArray).length) * 16 ≤ 140737488355328) (concourseref09_Put.l0 k a0 a1 j567 p553.1 (w64 (x549 + 1)) (p553.2.2 ++ ([strK.at a0 x549] : List ByteArray))))) (concourseref09_Put.l0 k a0 a1 j567 p553.1 (w64 (x549 + 1)) p553.2.2))) (some (x548, x549, decide (x549 < (a0.length : Int)), x550))
def concourseref09_Put.f (k : Nat) (a0 : List ByteArray) (a1 : ByteArray) : Option ((List ByteArray)) := (concourseref09_Put.l0 k a0 a1 k false 0 ([] : List ByteArray)).bind fun (p543 : Bool × Int × Bool × (List ByteArray)) => cond (!p543.1) (grd (p543.2.2.2.length + ([a1] : List ByteArray).length ≤ 9223372036854775807 ∧ (p543.2.2.2.length + ([a1] : List ByteArray).length) * 16 ≤ 140737488355328) (some (p543.2.2.2 ++ ([a1] : List ByteArray)))) (some p543.2.2.2)
/-! concourse/concourseref07.Before: function 43 -/
def concourseref07_Before.f (a0 : Pos) (a1 : Pos) : Option (Bool) := cond (decide (a0.fDepth < a1.fDepth)) (some true) (cond (a0.fDepth == a1.fDepth) (some (sLt a0.fID a1.fID)) (some false))
/-! concourse/concourseref07.Depth: function 60 -/
def concourseref07_Depth.l1 (k : Nat) (a0 : RDag) (x584 : Int) : Nat → Int → List Int → Option (Int × Bool × (List Int))
  | 0, _, _ => none
  | j602 + 1, x588, x589 => grd ((0 : Int) ≤ x584 ∧ x584 < (a0.fL.length : Int)) (cond (decide (x588 < (((Event.K.at a0.fL x584).fParents).length : Int))) (grd ((0 : Int) ≤ x584 ∧ x584 < (x589.length : Int)) (grd ((0 : Int) ≤ x584 ∧ x584 < (a0.fL.length : Int)) (grd ((0 : Int) ≤ x588 ∧ x588 < (((Event.K.at a0.fL x584).fParents).length : Int)) ((concourseref07_At.f k a0 (strK.at ((Event.K.at a0.fL x584).fParents) x588)).bind fun t596 => grd ((0 : Int) ≤ t596 ∧ t596 < (x589.length : Int)) (grd ((0 : Int) ≤ x584 ∧ x584 < (x589.length : Int)) (concourseref07_Depth.l1 k a0 x584 j602 (w64 (x588 + 1)) (x589.set x584.toNat (max (x589.getD x584.toNat default) (w64 ((x589.getD t596.toNat default) + 1)))))))))) (some (x588, decide (x588 < (((Event.K.at a0.fL x584).fParents).length : Int)), x589)))
def concourseref07_Depth.l0 (k : Nat) (a0 : RDag) (t575 : Int) : Nat → Int → List Int → Option (Int × Bool × (List Int))
  | 0, _, _ => none
  | j604 + 1, x584, x585 => cond (decide (x584 ≤ t575)) ((concourseref07_Depth.l1 k a0 x584 k 0 x585).bind fun (p587 : Int × Bool × (List Int)) => concourseref07_Depth.l0 k a0 t575 j604 (w64 (x584 + 1)) p587.2.2) (some (x584, decide (x584 ≤ t575), x585))
def concourseref07_Depth.f (k : Nat) (a0 : RDag) (a1 : ByteArray) : Option (Int) := (concourseref07_At.f k a0 a1).bind fun t575 => cond (decide (t575 < 0)) (some 0) (grd ((0 : Int) ≤ (w64 (t575 + 1)) ∧ (w64 (t575 + 1)) ≤ (9223372036854775807 : Int) ∧ (w64 (t575 + 1)).toNat * 8 ≤ 140737488355328) ((concourseref07_Depth.l0 k a0 t575 k 0 (List.replicate (w64 (t575 + 1)).toNat (0 : Int))).bind fun (p581 : Int × Bool × (List Int)) => grd ((0 : Int) ≤ t575 ∧ t575 < (p581.2.2.length : Int)) (some (p581.2.2.getD t575.toNat default))))
/-! concourse/concourseref07.Position: function 44 -/
def concourseref07_Position.f (k : Nat) (a0 : RDag) (a1 : ByteArray) : Option (Pos) := (concourseref07_Depth.f k a0 a1).bind fun t608 => some (⟨t608, a1⟩ : Pos)
/-! concourse/concourseref09.Last: function 25 -/
def concourseref09_Last.l0 (k : Nat) (a0 : RDag) (a1 : ByteArray) : Nat → Int → Int → Option (Int × Int × Bool)
  | 0, _, _ => none
  | j633 + 1, x615, x616 => cond (decide (x616 < (a0.fL.length : Int))) (grd ((0 : Int) ≤ x616 ∧ x616 < (a0.fL.length : Int)) (cond (!decide (((Event.K.at a0.fL x616).fUser) = a1)) (concourseref09_Last.l0 k a0 a1 j633 x615 (w64 (x616 + 1))) (grd ((0 : Int) ≤ x616 ∧ x616 < (a0.fL.length : Int)) (cond (((Event.K.at a0.fL x616).fDoes) == 0) (concourseref09_Last.l0 k a0 a1 j633 x615 (w64 (x616 + 1))) (cond (decide (x615 < 0)) (concourseref09_Last.l0 k a0 a1 j633 x616 (w64 (x616 + 1))) (grd ((0 : Int) ≤ x615 ∧ x615 < (a0.fL.length : Int)) ((concourseref07_Position.f k a0 ((Event.K.at a0.fL x615).fID)).bind fun t625 => grd ((0 : Int) ≤ x616 ∧ x616 < (a0.fL.length : Int)) ((concourseref07_Position.f k a0 ((Event.K.at a0.fL x616).fID)).bind fun t628 => (concourseref07_Before.f t625 t628).bind fun t630 => cond t630 (concourseref09_Last.l0 k a0 a1 j633 x616 (w64 (x616 + 1))) (concourseref09_Last.l0 k a0 a1 j633 x615 (w64 (x616 + 1))))))))))) (some (x615, x616, decide (x616 < (a0.fL.length : Int))))
def concourseref09_Last.f (k : Nat) (a0 : RDag) (a1 : ByteArray) : Option (Event × Bool) := (concourseref09_Last.l0 k a0 a1 k (-1) 0).bind fun (p612 : Int × Int × Bool) => cond (decide (p612.1 < 0)) (some ((⟨(⟨#[]⟩ : ByteArray), (⟨#[]⟩ : ByteArray), ([] : List ByteArray), (⟨#[]⟩ : ByteArray), (⟨#[]⟩ : ByteArray), 0⟩ : Event), false)) (grd ((0 : Int) ≤ p612.1 ∧ p612.1 < (a0.fL.length : Int)) (some (Event.K.at a0.fL p612.1, true)))
/-! concourse/concourseref09.Joined: function 26 -/
def concourseref09_Joined.f (k : Nat) (a0 : RDag) (a1 : ByteArray) : Option (Bool) := (concourseref09_Last.f k a0 a1).bind fun t636 => cond t636.2 (some (t636.1.fDoes == 1)) (some false)
/-! concourse/concourseref09.Users: function 28 -/
def concourseref09_Users.l0 (k : Nat) (a0 : RDag) : Nat → Int → List ByteArray → Option (Int × Bool × (List ByteArray))
  | 0, _, _ => none
  | j655 + 1, x643, x644 => cond (decide (x643 < (a0.fL.length : Int))) (grd ((0 : Int) ≤ x643 ∧ x643 < (a0.fL.length : Int)) ((concourseref09_Joined.f k a0 ((Event.K.at a0.fL x643).fUser)).bind fun t648 => cond t648 (grd ((0 : Int) ≤ x643 ∧ x643 < (a0.fL.length : Int)) ((concourseref09_Put.f k x644 ((Event.K.at a0.fL x643).fUser)).bind fun t652 => concourseref09_Users.l0 k a0 j655 (w64 (x643 + 1)) t652)) (concourseref09_Users.l0 k a0 j655 (w64 (x643 + 1)) x644))) (some (x643, decide (x643 < (a0.fL.length : Int)), x644))
def concourseref09_Users.f (k : Nat) (a0 : RDag) : Option ((List ByteArray)) := (concourseref09_Users.l0 k a0 k 0 ([] : List ByteArray)).bind fun (p641 : Int × Bool × (List ByteArray)) => some p641.2.2
/-! concourse/concourseref01.Home: function 47 -/
def concourseref01_Home.f (k : Nat) (a0 : ByteArray) : Option (ByteArray) := (concourseref01_Named.f k a0 64).bind fun t658 => (concourseref01_Named.f k a0 33).bind fun t660 => cond (!t658) (cond (!t660) (some (⟨#[]⟩ : ByteArray)) ((concourseref01_colon.f k a0).bind fun t664 => grd ((0 : Int) ≤ (w64 (t664 + 1)) ∧ (w64 (t664 + 1)).toNat ≤ a0.size ∧ a0.size ≤ a0.size) (some (a0.extract (w64 (t664 + 1)).toNat a0.size)))) ((concourseref01_colon.f k a0).bind fun t668 => grd ((0 : Int) ≤ (w64 (t668 + 1)) ∧ (w64 (t668 + 1)).toNat ≤ a0.size ∧ a0.size ≤ a0.size) (some (a0.extract (w64 (t668 + 1)).toNat a0.size)))
/-! concourse/concourseref09.Homes: function 30 -/
def concourseref09_Homes.l0 (k : Nat) (a0 : List ByteArray) : Nat → Int → List ByteArray → Option (Int × Bool × (List ByteArray))
  | 0, _, _ => none
  | j684 + 1, x673, x674 => cond (decide (x673 < (a0.length : Int))) (grd ((0 : Int) ≤ x673 ∧ x673 < (a0.length : Int)) ((concourseref01_Home.f k (strK.at a0 x673)).bind fun t678 => cond (!decide (t678 = (⟨#[]⟩ : ByteArray))) ((concourseref09_Put.f k x674 t678).bind fun t681 => concourseref09_Homes.l0 k a0 j684 (w64 (x673 + 1)) t681) (concourseref09_Homes.l0 k a0 j684 (w64 (x673 + 1)) x674))) (some (x673, decide (x673 < (a0.length : Int)), x674))
def concourseref09_Homes.f (k : Nat) (a0 : List ByteArray) : Option ((List ByteArray)) := (concourseref09_Homes.l0 k a0 k 0 ([] : List ByteArray)).bind fun (p671 : Int × Bool × (List ByteArray)) => some p671.2.2
/-! concourse/concourseref09.Servers: function 8 -/
def concourseref09_Servers.f (k : Nat) (a0 : RDag) : Option ((List ByteArray)) := (concourseref09_Users.f k a0).bind fun t688 => (concourseref09_Homes.f k t688).bind fun t691 => some t691
/-! concourse/concourseref01.Few: function 9 -/
def concourseref01_Few.f (a0 : ByteArray) (a1 : Int) : Option (ByteArray) := cond (decide (a1 < (a0.size : Int))) (grd ((0 : Int) ≤ a1 ∧ 0 ≤ a1.toNat ∧ a1.toNat ≤ a0.size) (some (a0.extract 0 a1.toNat))) (some a0)
/-! cmp.Or[int]: function 96 -/
def cmp_Or_int.l0 (k : Nat) (a0 : List Int) : Nat → Int → Option ((Int × Bool) ⊕ (Int))
  | 0, _ => none
  | j701 + 1, x697 => cond (decide (x697 < (a0.length : Int))) (grd ((0 : Int) ≤ x697 ∧ x697 < (a0.length : Int)) (cond (((intK .i64).at a0 x697) != 0) (some (.inr ((intK .i64).at a0 x697))) (cmp_Or_int.l0 k a0 j701 (w64 (x697 + 1))))) (some (.inl (x697, decide (x697 < (a0.length : Int)))))
def cmp_Or_int.f (k : Nat) (a0 : List Int) : Option (Int) := (cmp_Or_int.l0 k a0 k 0).bind (fall fun (p696 : Int × Bool) => some 0)
/-! cmp.isNaN[int]: function 114 -/
def cmp_isNaN_int.f (a0 : Int) : Option (Bool) := some (a0 != a0)
/-! cmp.Compare[int]: function 97 -/
def cmp_Compare_int.f (a0 : Int) (a1 : Int) : Option (Int) := (cmp_isNaN_int.f a0).bind fun t703 => (cmp_isNaN_int.f a1).bind fun t705 => cond t703 (cond t705 (some 0) (some (-1))) (cond t705 (some 1) (cond (decide (a0 < a1)) (some (-1)) (cond (decide (a1 < a0)) (some 1) (some 0))))
/-! cmp.isNaN[string]: function 94 -/
def cmp_isNaN_string.f (a0 : ByteArray) : Option (Bool) := some (!decide (a0 = a0))
/-! cmp.Compare[string]: function 98 -/
def cmp_Compare_string.f (a0 : ByteArray) (a1 : ByteArray) : Option (Int) := (cmp_isNaN_string.f a0).bind fun t712 => (cmp_isNaN_string.f a1).bind fun t714 => cond t712 (cond t714 (some 0) (some (-1))) (cond t714 (some 1) (cond (sLt a0 a1) (some (-1)) (cond (sLt a1 a0) (some 1) (some 0))))
/-! concourse/dag.Compare: function 81 -/
def dag_Compare.f (k : Nat) (a0 : Pos) (a1 : Pos) : Option (Int) := (cmp_Compare_int.f a0.fDepth a1.fDepth).bind fun t723 => (cmp_Compare_string.f a0.fID a1.fID).bind fun t725 => (cmp_Or_int.f k ([t723, t725] : List Int)).bind fun t727 => some t727
/-! slices.SortFunc[[]concourse/api.Position,concourse/api.Position] -/
def posC (x y : Pos) : Int := if x.fDepth < y.fDepth then -1 else if y.fDepth < x.fDepth then 1 else cmpS x.fID y.fID
def slices_SortFunc_Position.f (xs : List Pos) : Option (List Pos) := grd (xs.length ≤ 1000000) (some (srtF posC xs))
/-! (*concourse/dag.Dag).All$1: function 59 -/
def dag_Dag_All_1.f (a0 : DNode) : Option (Bool) := some true
/-! (*concourse/dag.Dag).ids -/
def dag_Dag_ids_All.g (e : ByteArray × DNode) : Option Pos := cond true (some ⟨e.2.fdepth, e.1⟩) none
def dag_Dag_ids_All.f (a0 : DDag) : Option (List ByteArray) := grd (a0.fnodes.length ≤ 1000000) (some ((srtF posC (a0.fnodes.filterMap dag_Dag_ids_All.g)).map (·.fID)))
/-! (*concourse/dag.Dag).All: function 42 -/
def dag_Dag_All.l0 (k : Nat) (a0 : DDag) (t732 : List ByteArray) : Nat → Int → List Event → Option (Int × Int × Bool × (List Event) × (List ByteArray))
  | 0, _, _ => none
  | j750 + 1, x735, x736 => cond (decide (x735 < (t732.length : Int))) (grd ((0 : Int) ≤ x735 ∧ x735 < (t732.length : Int)) (grd ((mget a0.fnodes (t732.getD x735.toNat default)).isSome = true) ((dag_own.f (((mget a0.fnodes (t732.getD x735.toNat default)).getD default).fe)).bind fun t746 => grd (x736.length + ([t746] : List Event).length ≤ 9223372036854775807 ∧ (x736.length + ([t746] : List Event).length) * 96 ≤ 140737488355328) (dag_Dag_All.l0 k a0 t732 j750 (w64 (x735 + 1)) (x736 ++ ([t746] : List Event)))))) (some ((t732.length : Int), x735, decide (x735 < (t732.length : Int)), x736, t732))
def dag_Dag_All.f (k : Nat) (a0 : DDag) : Option ((List Event)) := ((dag_Dag_ids_All.f a0).bind fun t732 => dag_Dag_All.l0 k a0 t732 k 0 ([] : List Event)).bind fun (p729 : Int × Int × Bool × (List Event) × (List ByteArray)) => some p729.2.2.2.1
/-! concourse/member.joined: function 39 -/
def member_joined.l0 (k : Nat) (t756 : (List Event)) : Nat → Int → (List (ByteArray × Int)) → Option (Int × Int × Bool × (List (ByteArray × Int)) × (List Event))
  | 0, _, _ => none
  | j767 + 1, x759, x760 => cond (decide (x759 < (t756.length : Int))) (grd ((0 : Int) ≤ x759 ∧ x759 < (t756.length : Int)) (cond (((t756.getD x759.toNat default).fDoes) == 1) (member_joined.l0 k t756 j767 (w64 (x759 + 1)) (mput x760 ((t756.getD x759.toNat default).fUser) 1)) (cond (((t756.getD x759.toNat default).fDoes) == 2) (member_joined.l0 k t756 j767 (w64 (x759 + 1)) (mdel x760 ((t756.getD x759.toNat default).fUser))) (member_joined.l0 k t756 j767 (w64 (x759 + 1)) x760)))) (some ((t756.length : Int), x759, decide (x759 < (t756.length : Int)), x760, t756))
def member_joined.f (k : Nat) (a0 : DDag) : Option ((List (ByteArray × Int))) := ((dag_Dag_All.f k a0).bind fun t756 => member_joined.l0 k t756 k 0 ([] : List (ByteArray × Int))).bind fun (p754 : Int × Int × Bool × (List (ByteArray × Int)) × (List Event)) => some p754.2.2.2.1
/-! slices.Sort[[]string,string] -/
def slices_Sort_string.f (xs : List ByteArray) : Option (List ByteArray) := grd (xs.length < 4611686018427387904) (some (srtS xs))
/-! concourse/member.Users -/
def member_Users.f (k : Nat) (a0 : DDag) : Option (List ByteArray) := (member_joined.f k a0).bind fun m => grd (m.length ≤ 1000000) (some (srtS (m.map (·.1))))
/-! concourse/name.Home: function 49 -/
def name_Home.f (k : Nat) (a0 : ByteArray) : Option (ByteArray) := (name_User.f k a0).bind fun t770 => cond (!t770) ((name_Room.f k a0).bind fun t773 => cond (!t773) (some (⟨#[]⟩ : ByteArray)) ((strings_Cut.f a0 (⟨#[58]⟩ : ByteArray)).bind fun t776 => some t776.2.1)) ((strings_Cut.f a0 (⟨#[58]⟩ : ByteArray)).bind fun t779 => some t779.2.1)
/-! slices.Compact[[]string,string] -/
def slices_Compact_string.f (xs : List ByteArray) : Option (List ByteArray) := grd (xs.length ≤ 9223372036854775807) (some (cmpctS xs))
/-! concourse/member.Homes: function 33 -/
def member_Homes.l0 (k : Nat) (a0 : List ByteArray) : Nat → Int → List ByteArray → Option (Int × Bool × (List ByteArray))
  | 0, _, _ => none
  | j798 + 1, x788, x789 => cond (decide (x788 < (a0.length : Int))) (grd ((0 : Int) ≤ x788 ∧ x788 < (a0.length : Int)) ((name_Home.f k (strK.at a0 x788)).bind fun t793 => cond (!decide (t793 = (⟨#[]⟩ : ByteArray))) (grd (x789.length + ([t793] : List ByteArray).length ≤ 9223372036854775807 ∧ (x789.length + ([t793] : List ByteArray).length) * 16 ≤ 140737488355328) (member_Homes.l0 k a0 j798 (w64 (x788 + 1)) (x789 ++ ([t793] : List ByteArray)))) (member_Homes.l0 k a0 j798 (w64 (x788 + 1)) x789))) (some (x788, decide (x788 < (a0.length : Int)), x789))
def member_Homes.f (k : Nat) (a0 : List ByteArray) : Option ((List ByteArray)) := (member_Homes.l0 k a0 k 0 ([] : List ByteArray)).bind fun (p781 : Int × Bool × (List ByteArray)) => (slices_Sort_string.f p781.2.2).bind fun t783 => (slices_Compact_string.f t783).bind fun t785 => some t785
/-! concourse/member.Servers: function 14 -/
def member_Servers.f (k : Nat) (a0 : DDag) : Option ((List ByteArray)) := (member_Users.f k a0).bind fun t801 => (member_Homes.f k t801).bind fun t804 => some t804
/-! slices.Index[[]string,string]: function 48 -/
def slices_Index_string.l0 (k : Nat) (a0 : List ByteArray) (a1 : ByteArray) : Nat → Int → Option ((Int × Bool) ⊕ (Int))
  | 0, _ => none
  | j812 + 1, x808 => cond (decide (x808 < (a0.length : Int))) (grd ((0 : Int) ≤ x808 ∧ x808 < (a0.length : Int)) (cond (decide (a1 = (strK.at a0 x808))) (some (.inr x808)) (slices_Index_string.l0 k a0 a1 j812 (w64 (x808 + 1))))) (some (.inl (x808, decide (x808 < (a0.length : Int)))))
def slices_Index_string.f (k : Nat) (a0 : List ByteArray) (a1 : ByteArray) : Option (Int) := (slices_Index_string.l0 k a0 a1 k 0).bind (fall fun (p807 : Int × Bool) => some (-1))
/-! slices.Contains[[]string,string]: function 31 -/
def slices_Contains_string.f (k : Nat) (a0 : List ByteArray) (a1 : ByteArray) : Option (Bool) := (slices_Index_string.f k a0 a1).bind fun t814 => some (decide (0 ≤ t814))
/-! concourse/member.In: function 10 -/
def member_In.f (k : Nat) (a0 : DDag) (a1 : ByteArray) : Option (Bool) := (member_Servers.f k a0).bind fun t816 => (slices_Contains_string.f k t816 a1).bind fun t819 => some t819
/-! concourse/concourseref09.Has: function 12 -/
def concourseref09_Has.l0 (k : Nat) (a0 : List ByteArray) (a1 : ByteArray) : Nat → Int → Option ((Int × Bool) ⊕ (Bool))
  | 0, _ => none
  | j826 + 1, x822 => cond (decide (x822 < (a0.length : Int))) (grd ((0 : Int) ≤ x822 ∧ x822 < (a0.length : Int)) (cond (decide ((strK.at a0 x822) = a1)) (some (.inr true)) (concourseref09_Has.l0 k a0 a1 j826 (w64 (x822 + 1))))) (some (.inl (x822, decide (x822 < (a0.length : Int)))))
def concourseref09_Has.f (k : Nat) (a0 : List ByteArray) (a1 : ByteArray) : Option (Bool) := (concourseref09_Has.l0 k a0 a1 k 0).bind (fall fun (p821 : Int × Bool) => some false)
/-! concourse/concourseref01.SameTexts: function 13 -/
def concourseref01_SameTexts.l0 (k : Nat) (a0 : List ByteArray) (a1 : List ByteArray) : Nat → Int → Option ((Int × Bool) ⊕ (Bool))
  | 0, _ => none
  | j835 + 1, x830 => cond (decide (x830 < (a0.length : Int))) (grd ((0 : Int) ≤ x830 ∧ x830 < (a0.length : Int)) (grd ((0 : Int) ≤ x830 ∧ x830 < (a1.length : Int)) (cond (!decide ((strK.at a0 x830) = (strK.at a1 x830))) (some (.inr false)) (concourseref01_SameTexts.l0 k a0 a1 j835 (w64 (x830 + 1)))))) (some (.inl (x830, decide (x830 < (a0.length : Int)))))
def concourseref01_SameTexts.f (k : Nat) (a0 : List ByteArray) (a1 : List ByteArray) : Option (Bool) := cond ((a0.length : Int) != (a1.length : Int)) (some false) ((concourseref01_SameTexts.l0 k a0 a1 k 0).bind (fall fun (p829 : Int × Bool) => some true))
/-! concourse/member.Joined: function 23 -/
def member_Joined.f (k : Nat) (a0 : DDag) (a1 : ByteArray) : Option (Bool) := (member_joined.f k a0).bind fun t837 => some (decide (0 < ((mget t837 a1).getD 0)))
/-! concourse/concourselaw09.lives: function 15 -/
def concourselaw09_lives.f (k : Nat) : Option (Bool) := (dag_New.f (⟨#[33, 114, 58, 115]⟩ : ByteArray)).bind fun t840 => (dag_Dag_Add.f k t840 (⟨(⟨#[36, 97]⟩ : ByteArray), (⟨#[33, 114, 58, 115]⟩ : ByteArray), ([] : List ByteArray), (⟨#[]⟩ : ByteArray), (⟨#[64, 97, 58, 115]⟩ : ByteArray), 1⟩ : Event)).bind fun t844 => (dag_Dag_Add.f k t844.2 (⟨(⟨#[36, 98]⟩ : ByteArray), (⟨#[33, 114, 58, 115]⟩ : ByteArray), ([(⟨#[36, 97]⟩ : ByteArray)] : List ByteArray), (⟨#[]⟩ : ByteArray), (⟨#[64, 97, 58, 115]⟩ : ByteArray), 2⟩ : Event)).bind fun t846 => (member_Joined.f k t846.2 (⟨#[64, 97, 58, 115]⟩ : ByteArray)).bind fun t850 => (dag_Dag_Add.f k t846.2 (⟨(⟨#[36, 99]⟩ : ByteArray), (⟨#[33, 114, 58, 115]⟩ : ByteArray), ([(⟨#[36, 98]⟩ : ByteArray)] : List ByteArray), (⟨#[]⟩ : ByteArray), (⟨#[64, 97, 58, 115]⟩ : ByteArray), 1⟩ : Event)).bind fun t852 => cond (!t850) ((member_Joined.f k t852.2 (⟨#[64, 97, 58, 115]⟩ : ByteArray)).bind fun t857 => cond t857 ((member_In.f k t852.2 (⟨#[115]⟩ : ByteArray)).bind fun t860 => some t860) (some false)) (some false)
/-! concourse/concourselaw09.MemberServers: function 3 -/
def concourselaw09_MemberServers.l0 (k : Nat) (t862 : (Option DDag) × RDag) (t867 : (List ByteArray)) : Nat → Int → Option ((Int × Bool) ⊕ (Bool))
  | 0, _ => none
  | j901 + 1, x888 => cond (decide (x888 < 3)) ((concourseref01_ServerOf.f x888).bind fun t890 => (member_In.f k (t862.1.getD default) t890).bind fun t894 => (concourseref01_ServerOf.f x888).bind fun t896 => (concourseref09_Has.f k t867 t896).bind fun t898 => cond (t894 != t898) (some (.inr false)) (concourselaw09_MemberServers.l0 k t862 t867 j901 (w64 (x888 + 1)))) (some (.inl (x888, decide (x888 < 3))))
def concourselaw09_MemberServers.f (k : Nat) (a0 : List GMade) (a1 : ByteArray) : Option (Bool) := (concourselaw09_build.f k a0).bind fun t862 => cond t862.1.isNone (some false) ((concourseref09_Servers.f k t862.2).bind fun t867 => (concourseref01_Few.f a1 8).bind fun t870 => (concourselaw09_MemberServers.l0 k t862 t867 k 0).bind (fall fun (p872 : Int × Bool) => (member_Servers.f k (t862.1.getD default)).bind fun t875 => (concourseref01_SameTexts.f k t875 t867).bind fun t878 => cond t878 ((member_In.f k (t862.1.getD default) t870).bind fun t881 => (concourseref09_Has.f k t867 t870).bind fun t883 => cond (t881 == t883) ((concourselaw09_lives.f k).bind fun t886 => some t886) (some false)) (some false)))
/-! concourse/concourselaw09.MemberOrder: function 4 -/
def concourselaw09_MemberOrder.l1 (k : Nat) (t903 : (Option DDag) × RDag) : Nat → Int → DDag → Option (Int × Bool × DDag)
  | 0, _, _ => none
  | j947 + 1, x941, x942 => cond (decide (0 ≤ x941)) (grd ((0 : Int) ≤ x941 ∧ x941 < (t903.2.fL.length : Int)) ((dag_Dag_Add.f k x942 (Event.K.at t903.2.fL x941)).bind fun t945 => concourselaw09_MemberOrder.l1 k t903 j947 (w64 (x941 - 1)) t945.2)) (some (x941, decide (0 ≤ x941), x942))
def concourselaw09_MemberOrder.l0 (k : Nat) (t903 : (Option DDag) × RDag) : Nat → Int → DDag → Option (Int × Bool × DDag)
  | 0, _, _ => none
  | j949 + 1, x937, x938 => cond (decide (x937 < 9)) ((concourselaw09_MemberOrder.l1 k t903 k (w64 ((t903.2.fL.length : Int) - 1)) x938).bind fun (p940 : Int × Bool × DDag) => concourselaw09_MemberOrder.l0 k t903 j949 (w64 (x937 + 1)) p940.2.2) (some (x937, decide (x937 < 9), x938))
def concourselaw09_MemberOrder.f (k : Nat) (a0 : List GMade) : Option (Bool) := (concourselaw09_build.f k a0).bind fun t903 => cond t903.1.isNone (some false) ((dag_New.f t903.2.fRoom).bind fun t908 => (concourselaw09_MemberOrder.l0 k t903 k 0 t908).bind fun (p912 : Int × Bool × DDag) => (member_Users.f k (t903.1.getD default)).bind fun t915 => (member_Users.f k p912.2.2).bind fun t920 => (concourseref01_SameTexts.f k t915 t920).bind fun t923 => cond t923 ((member_Servers.f k (t903.1.getD default)).bind fun t926 => (member_Servers.f k p912.2.2).bind fun t929 => (concourseref01_SameTexts.f k t926 t929).bind fun t932 => cond t932 ((concourselaw09_lives.f k).bind fun t935 => some t935) (some false)) (some false))
/-! concourse/concourseref07.All: function 41 -/
def concourseref07_All.l1 (k : Nat) (a0 : RDag) (x953 : List Event) (x954 : Int) : Nat → Int → Option (Int × Bool)
  | 0, _ => none
  | j979 + 1, x967 => cond (decide (x967 < (x953.length : Int))) (grd ((0 : Int) ≤ x967 ∧ x967 < (x953.length : Int)) ((concourseref07_Position.f k a0 ((Event.K.at x953 x967).fID)).bind fun t970 => grd ((0 : Int) ≤ x954 ∧ x954 < (a0.fL.length : Int)) ((concourseref07_Position.f k a0 ((Event.K.at a0.fL x954).fID)).bind fun t973 => (concourseref07_Before.f t970 t973).bind fun t975 => cond t975 (concourseref07_All.l1 k a0 x953 x954 j979 (w64 (x967 + 1))) (some (x967, t975))))) (some (x967, false))
def concourseref07_All.l0 (k : Nat) (a0 : RDag) : Nat → List Event → Int → Option ((List Event) × Int × Bool)
  | 0, _, _ => none
  | j981 + 1, x953, x954 => cond (decide (x954 < (a0.fL.length : Int))) (((concourseref07_All.l1 k a0 x953 x954 k 0).bind fun (p957 : Int × Bool) => grd ((0 : Int) ≤ p957.1 ∧ 0 ≤ p957.1.toNat ∧ p957.1.toNat ≤ x953.length) (grd (([] : List Event).length + ((x953.take p957.1.toNat).drop 0).length ≤ 9223372036854775807 ∧ (([] : List Event).length + ((x953.take p957.1.toNat).drop 0).length) * 96 ≤ 140737488355328) (grd ((0 : Int) ≤ x954 ∧ x954 < (a0.fL.length : Int)) (grd ((([] : List Event) ++ ((x953.take p957.1.toNat).drop 0)).length + ([Event.K.at a0.fL x954] : List Event).length ≤ 9223372036854775807 ∧ ((([] : List Event) ++ ((x953.take p957.1.toNat).drop 0)).length + ([Event.K.at a0.fL x954] : List Event).length) * 96 ≤ 140737488355328) (grd ((0 : Int) ≤ p957.1 ∧ p957.1.toNat ≤ x953.length ∧ x953.length ≤ x953.length) (grd (((([] : List Event) ++ ((x953.take p957.1.toNat).drop 0)) ++ ([Event.K.at a0.fL x954] : List Event)).length + ((x953.take x953.length).drop p957.1.toNat).length ≤ 9223372036854775807 ∧ (((([] : List Event) ++ ((x953.take p957.1.toNat).drop 0)) ++ ([Event.K.at a0.fL x954] : List Event)).length + ((x953.take x953.length).drop p957.1.toNat).length) * 96 ≤ 140737488355328) (some (((([] : List Event) ++ ((x953.take p957.1.toNat).drop 0)) ++ ([Event.K.at a0.fL x954] : List Event)) ++ ((x953.take x953.length).drop p957.1.toNat), p957.1, p957.2)))))))).bind fun (p956 : (List Event) × Int × Bool) => concourseref07_All.l0 k a0 j981 p956.1 (w64 (x954 + 1))) (some (x953, x954, decide (x954 < (a0.fL.length : Int))))
def concourseref07_All.f (k : Nat) (a0 : RDag) : Option ((List Event)) := (concourseref07_All.l0 k a0 k ([] : List Event) 0).bind fun (p952 : (List Event) × Int × Bool) => some p952.1
/-! concourse/concourseref07.Heads: function 20 -/
def concourseref07_Heads.l2 (k : Nat) (a0 : RDag) (t984 : (List Event)) (x988 : Int) (x1000 : Int) : Nat → Bool → Int → Option (Bool × Int × Bool)
  | 0, _, _ => none
  | j1011 + 1, x1003, x1004 => grd ((0 : Int) ≤ x1000 ∧ x1000 < (a0.fL.length : Int)) (cond (decide (x1004 < (((Event.K.at a0.fL x1000).fParents).length : Int))) (cond x1003 (grd ((0 : Int) ≤ x1000 ∧ x1000 < (a0.fL.length : Int)) (grd ((0 : Int) ≤ x1004 ∧ x1004 < (((Event.K.at a0.fL x1000).fParents).length : Int)) (grd ((0 : Int) ≤ x988 ∧ x988 < (t984.length : Int)) (concourseref07_Heads.l2 k a0 t984 x988 x1000 j1011 (!decide ((strK.at ((Event.K.at a0.fL x1000).fParents) x1004) = ((Event.K.at t984 x988).fID))) (w64 (x1004 + 1)))))) (concourseref07_Heads.l2 k a0 t984 x988 x1000 j1011 false (w64 (x1004 + 1)))) (some (x1003, x1004, decide (x1004 < (((Event.K.at a0.fL x1000).fParents).length : Int)))))
def concourseref07_Heads.l1 (k : Nat) (a0 : RDag) (t984 : (List Event)) (x988 : Int) : Nat → Bool → Int → Option (Bool × Int × Bool)
  | 0, _, _ => none
  | j1013 + 1, x999, x1000 => cond (decide (x1000 < (a0.fL.length : Int))) ((concourseref07_Heads.l2 k a0 t984 x988 x1000 k x999 0).bind fun (p1002 : Bool × Int × Bool) => concourseref07_Heads.l1 k a0 t984 x988 j1013 p1002.1 (w64 (x1000 + 1))) (some (x999, x1000, decide (x1000 < (a0.fL.length : Int))))
def concourseref07_Heads.l0 (k : Nat) (a0 : RDag) (t984 : (List Event)) : Nat → Int → List ByteArray → Option (Int × Bool × (List ByteArray))
  | 0, _, _ => none
  | j1016 + 1, x988, x989 => cond (decide (x988 < (t984.length : Int))) (((concourseref07_Heads.l1 k a0 t984 x988 k true 0).bind fun (p994 : Bool × Int × Bool) => cond p994.1 (grd ((0 : Int) ≤ x988 ∧ x988 < (t984.length : Int)) (grd (x989.length + ([(Event.K.at t984 x988).fID] : List ByteArray).length ≤ 9223372036854775807 ∧ (x989.length + ([(Event.K.at t984 x988).fID] : List ByteArray).length) * 16 ≤ 140737488355328) (some (p994.1, p994.2.1, p994.2.2, p994.1, x989 ++ ([(Event.K.at t984 x988).fID] : List ByteArray))))) (some (p994.1, p994.2.1, p994.2.2, p994.1, x989))).bind fun (p992 : Bool × Int × Bool × Bool × (List ByteArray)) => concourseref07_Heads.l0 k a0 t984 j1016 (w64 (x988 + 1)) p992.2.2.2.2) (some (x988, decide (x988 < (t984.length : Int)), x989))
def concourseref07_Heads.f (k : Nat) (a0 : RDag) : Option ((List ByteArray)) := (concourseref07_All.f k a0).bind fun t984 => (concourseref07_Heads.l0 k a0 t984 k 0 ([] : List ByteArray)).bind fun (p986 : Int × Bool × (List ByteArray)) => some p986.2.2
/-! concourse/concourselaw09.MemberSteps: function 5 -/
def concourselaw09_MemberSteps.l0 (k : Nat) (t1024 : ByteArray) (t1028 : List ByteArray) : Nat → Int → List ByteArray → Option (Int × Bool × (List ByteArray))
  | 0, _, _ => none
  | j1074 + 1, x1063, x1064 => cond (decide (x1063 < (t1028.length : Int))) (grd ((0 : Int) ≤ x1063 ∧ x1063 < (t1028.length : Int)) (cond (!decide ((t1028.getD x1063.toNat default) = t1024)) (grd ((0 : Int) ≤ x1063 ∧ x1063 < (t1028.length : Int)) (grd (x1064.length + ([t1028.getD x1063.toNat default] : List ByteArray).length ≤ 9223372036854775807 ∧ (x1064.length + ([t1028.getD x1063.toNat default] : List ByteArray).length) * 16 ≤ 140737488355328) (concourselaw09_MemberSteps.l0 k t1024 t1028 j1074 (w64 (x1063 + 1)) (x1064 ++ ([t1028.getD x1063.toNat default] : List ByteArray))))) (concourselaw09_MemberSteps.l0 k t1024 t1028 j1074 (w64 (x1063 + 1)) x1064))) (some (x1063, decide (x1063 < (t1028.length : Int)), x1064))
def concourselaw09_MemberSteps.l1 (k : Nat) (t1019 : (Option DDag) × RDag) (t1024 : ByteArray) (t1033 : (List ByteArray)) : Nat → ByteArray → Int → DDag → Option ((ByteArray × Int × Bool × DDag) ⊕ (Bool))
  | 0, _, _, _ => none
  | j1103 + 1, x1078, x1079, x1080 => cond (decide (x1079 < (t1033.length : Int))) ((concourseref01_Decimal.f k x1079).bind fun t1082 => grd ((⟨#[36, 121]⟩ : ByteArray).size + t1082.size ≤ 9223372036854775807) (grd ((0 : Int) ≤ x1079 ∧ x1079 < (t1033.length : Int)) (cond (decide (0 < x1079)) (grd ((0 : Int) ≤ x1079 ∧ x1079 < (t1033.length : Int)) ((concourseref09_Put.f k ([] : List ByteArray) (t1033.getD x1079.toNat default)).bind fun t1091 => (concourseref09_Put.f k t1091 x1078).bind fun t1094 => (dag_Dag_Add.f k x1080 (⟨(⟨#[36, 121]⟩ : ByteArray) ++ t1082, t1019.2.fRoom, t1094, (⟨#[]⟩ : ByteArray), t1024, 0⟩ : Event)).bind fun t1097 => cond (t1097.1 != 0) (some (.inr false)) (concourselaw09_MemberSteps.l1 k t1019 t1024 t1033 j1103 ((⟨#[36, 121]⟩ : ByteArray) ++ t1082) (w64 (x1079 + 1)) t1097.2))) ((dag_Dag_Add.f k x1080 (⟨(⟨#[36, 121]⟩ : ByteArray) ++ t1082, t1019.2.fRoom, ([t1033.getD x1079.toNat default] : List ByteArray), (⟨#[]⟩ : ByteArray), t1024, 0⟩ : Event)).bind fun t1100 => cond (t1100.1 != 0) (some (.inr false)) (concourselaw09_MemberSteps.l1 k t1019 t1024 t1033 j1103 ((⟨#[36, 121]⟩ : ByteArray) ++ t1082) (w64 (x1079 + 1)) t1100.2))))) (some (.inl (x1078, x1079, decide (x1079 < (t1033.length : Int)), x1080)))
def concourselaw09_MemberSteps.f (k : Nat) (a0 : List GMade) (a1 : Int) (a2 : Bool) : Option (Bool) := (concourselaw09_build.f k a0).bind fun t1019 => cond t1019.1.isNone (some false) ((concourseref01_UserOf.f a1).bind fun t1024 => (member_Users.f k (t1019.1.getD default)).bind fun t1028 => (cond a2 (some 1) (some 2)).bind fun (p1032 : Int) => (concourseref07_Heads.f k t1019.2).bind fun t1033 => (concourselaw09_MemberSteps.l1 k t1019 t1024 t1033 k (⟨#[]⟩ : ByteArray) 0 (t1019.1.getD default)).bind (fall fun (p1036 : ByteArray × Int × Bool × DDag) => (cond (!decide (p1036.1 = (⟨#[]⟩ : ByteArray))) (some ([p1036.1] : List ByteArray)) (some ([] : List ByteArray))).bind fun (p1037 : (List ByteArray)) => (dag_Dag_Add.f k p1036.2.2.2 (⟨(⟨#[36, 122]⟩ : ByteArray), t1019.2.fRoom, p1037, (⟨#[]⟩ : ByteArray), t1024, p1032⟩ : Event)).bind fun t1038 => cond (t1038.1 != 0) (some false) ((concourselaw09_MemberSteps.l0 k t1024 t1028 k 0 ([] : List ByteArray)).bind fun (p1041 : Int × Bool × (List ByteArray)) => (cond a2 ((concourseref09_Put.f k p1041.2.2 t1024).bind fun t1059 => some t1059) (some p1041.2.2)).bind fun (p1043 : (List ByteArray)) => (member_Joined.f k t1038.2 t1024).bind fun t1047 => cond (t1047 == a2) ((member_Users.f k t1038.2).bind fun t1050 => (concourseref01_SameTexts.f k t1050 p1043).bind fun t1053 => cond t1053 ((concourselaw09_lives.f k).bind fun t1056 => some t1056) (some false)) (some false))))
/-! concourse/member.Last: function 24 -/
def member_Last.l0 (k : Nat) (a1 : ByteArray) (t1110 : (List Event)) : Nat → Bool → Int → ByteArray → ByteArray → List ByteArray → ByteArray → ByteArray → Int → Option (Bool × Int × Int × Bool × ByteArray × ByteArray × (List ByteArray) × ByteArray × ByteArray × Int × (List Event))
  | 0, _, _, _, _, _, _, _, _ => none
  | j1128 + 1, x1113, x1114, x1115, x1116, x1117, x1118, x1119, x1120 => cond (decide (x1114 < (t1110.length : Int))) (grd ((0 : Int) ≤ x1114 ∧ x1114 < (t1110.length : Int)) (cond (decide (((t1110.getD x1114.toNat default).fUser) = a1)) (cond (((t1110.getD x1114.toNat default).fDoes) != 0) (member_Last.l0 k a1 t1110 j1128 true (w64 (x1114 + 1)) ((t1110.getD x1114.toNat default).fID) ((t1110.getD x1114.toNat default).fRoom) ((t1110.getD x1114.toNat default).fParents) ((t1110.getD x1114.toNat default).fThread) ((t1110.getD x1114.toNat default).fUser) ((t1110.getD x1114.toNat default).fDoes)) (member_Last.l0 k a1 t1110 j1128 x1113 (w64 (x1114 + 1)) x1115 x1116 x1117 x1118 x1119 x1120)) (member_Last.l0 k a1 t1110 j1128 x1113 (w64 (x1114 + 1)) x1115 x1116 x1117 x1118 x1119 x1120))) (some (x1113, (t1110.length : Int), x1114, decide (x1114 < (t1110.length : Int)), x1115, x1116, x1117, x1118, x1119, x1120, t1110))
def member_Last.f (k : Nat) (a0 : DDag) (a1 : ByteArray) : Option (Event × Bool) := ((dag_Dag_All.f k a0).bind fun t1110 => member_Last.l0 k a1 t1110 k false 0 (⟨#[]⟩ : ByteArray) (⟨#[]⟩ : ByteArray) ([] : List ByteArray) (⟨#[]⟩ : ByteArray) (⟨#[]⟩ : ByteArray) 0).bind fun (p1108 : Bool × Int × Int × Bool × ByteArray × ByteArray × (List ByteArray) × ByteArray × ByteArray × Int × (List Event)) => some ((⟨p1108.2.2.2.2.1, p1108.2.2.2.2.2.1, p1108.2.2.2.2.2.2.1, p1108.2.2.2.2.2.2.2.1, p1108.2.2.2.2.2.2.2.2.1, p1108.2.2.2.2.2.2.2.2.2.1⟩ : Event), p1108.1)
/-! concourse/concourseref07.Same: function 27 -/
def concourseref07_Same.f (k : Nat) (a0 : Event) (a1 : Event) : Option (Bool) := (concourseref01_SameTexts.f k a0.fParents a1.fParents).bind fun t1133 => cond t1133 (cond (decide (a0.fID = a1.fID)) (cond (decide (a0.fRoom = a1.fRoom)) (cond (decide (a0.fThread = a1.fThread)) (cond (decide (a0.fUser = a1.fUser)) (some (a0.fDoes == a1.fDoes)) (some false)) (some false)) (some false)) (some false)) (some false)
/-! concourse/concourselaw09.MemberJoined: function 6 -/
def concourselaw09_MemberJoined.l0 (k : Nat) (a1 : ByteArray) (t1140 : (Option DDag) × RDag) : Nat → Int → Option ((Int × Bool) ⊕ (Bool))
  | 0, _ => none
  | j1186 + 1, x1159 => cond (decide (x1159 < 10)) ((concourseref01_UserOf.f (x1159.tmod 9)).bind fun t1161 => (cond (x1159 == 9) ((concourseref01_Few.f a1 8).bind fun t1184 => some t1184) (some t1161)).bind fun (p1163 : ByteArray) => (member_Last.f k (t1140.1.getD default) p1163).bind fun t1166 => (concourseref09_Last.f k t1140.2 p1163).bind fun t1169 => (member_Joined.f k (t1140.1.getD default) p1163).bind fun t1172 => (concourseref09_Joined.f k t1140.2 p1163).bind fun t1174 => cond (t1172 != t1174) (some (.inr false)) (cond (t1166.2 != t1169.2) (some (.inr false)) ((concourseref07_Same.f k t1166.1 t1169.1).bind fun t1180 => cond (!t1180) (some (.inr false)) (concourselaw09_MemberJoined.l0 k a1 t1140 j1186 (w64 (x1159 + 1)))))) (some (.inl (x1159, decide (x1159 < 10))))
def concourselaw09_MemberJoined.f (k : Nat) (a0 : List GMade) (a1 : ByteArray) : Option (Bool) := (concourselaw09_build.f k a0).bind fun t1140 => cond t1140.1.isNone (some false) ((concourselaw09_MemberJoined.l0 k a1 t1140 k 0).bind (fall fun (p1145 : Int × Bool) => (member_Users.f k (t1140.1.getD default)).bind fun t1148 => (concourseref09_Users.f k t1140.2).bind fun t1151 => (concourseref01_SameTexts.f k t1148 t1151).bind fun t1154 => cond t1154 ((concourselaw09_lives.f k).bind fun t1157 => some t1157) (some false)))
end Go.Proofs.YtdbinmknbmlddaaGreat
