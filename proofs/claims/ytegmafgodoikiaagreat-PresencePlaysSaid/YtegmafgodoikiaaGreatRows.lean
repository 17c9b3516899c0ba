/-
  No cell of these rows narrows 'for every input' (looked for: loops, veiled, ifaces, maps, wideKeys, modest, calm, conditions, laid).
  DERIVED. THE GIVEN ROWS OF THIS SEAT. 4 by the template 'for every input the law returns true; each argument reads behind the call as it read before'; 0 by the template 'total and deterministic' (their statements: YtegmafgodoikiaaGreatTotals.lean).
  GIVEN WITH THE SEED: the statements are not yours to turn. If you find one false, say at which input.
  Laid BY PROGRAM, IN A SANDBOX (cutbox-rows.mjs): the forced cells as the released guide's own fill.sh prints them over the translation 737ceca958d5858d… (all of the seat's roots in one cut). By AI agents, Wed Nov 11 2026. No macro, syntax, notation, axiom, sorry.
-/
import Derived.Test.YtegmafgodoikiaaGreatChecked
import GoSem.Claim
import GoSem.ClaimJoined
import GoSem.ClaimMapViews
import Derived.JoinedTies
import Derived.KernelRfl
namespace Go.Proofs.YtegmafgodoikiaaGreat
/- THE CELL 'sum', in the pinned program and in every row, IS THE sha256 OF THE DUMP (.gsa) THAT YtegmafgodoikiaaGreatProg.lean LOADS. Nothing in Lean hashes anything: it is a label: what it is worth is what the hold of that sum in a sandbox is worth. -/
noncomputable def Tryz.pinned : Pinned := { name := "ytegmafgodoikiaagreat", sum := "737ceca958d5858d811e4c95c1d7fab5c1e33b5518eee75b1c0f08341922ed5a", checked := Tryz.checked }
namespace Rows
def none {H : Type} : Left H := { results := [], args := [] }

/-- 'concourselaw15.PresenceStates': WHATEVER THE INPUT: true; the input reads as it did. -/
def presenceStatesSpec : ChangeSpec := { name := "presenceStates", fn := fun _ => fun
  | [d1, d2, d3] => { results := [.lit (.bool true)], args := [d1, d2, d3] }
  | _ => none }
def presenceStatesRow : OpenClaim := { program := "ytegmafgodoikiaagreat", sum := "737ceca958d5858d811e4c95c1d7fab5c1e33b5518eee75b1c0f08341922ed5a", func := "concourse/concourselaw15.PresenceStates", spec := "presenceStates", inPlace := ["internal/bytealg.IndexByteString", "internal/bytealg.IndexString", "internal/bytealg.Compare", "slices.overlaps[concourse/api.Edu]"], unfollowed := true, recurses := true, named := ["internal/bytealg.MaxLen"], apart := false }
def PresenceStatesSaid : Prop := presenceStatesRow.holds Tryz.pinned (OpenSpec.ofChange presenceStatesSpec)

/-- ITS FALSE NEIGHBOUR: 'it returns false'. Refute it at one input. -/
def presenceStatesWrong : ChangeSpec := { name := "presenceStates", fn := fun _ => fun
  | [d1, d2, d3] => { results := [.lit (.bool false)], args := [d1, d2, d3] }
  | _ => none }
def PresenceStatesWrongFalsely : Prop := presenceStatesRow.holds Tryz.pinned (OpenSpec.ofChange presenceStatesWrong)

/-- 'concourselaw15.PresenceOrder': WHATEVER THE INPUT: true; the input reads as it did. -/
def presenceOrderSpec : ChangeSpec := { name := "presenceOrder", fn := fun _ => fun
  | [d1, d2, d3] => { results := [.lit (.bool true)], args := [d1, d2, d3] }
  | _ => none }
def presenceOrderRow : OpenClaim := { program := "ytegmafgodoikiaagreat", sum := "737ceca958d5858d811e4c95c1d7fab5c1e33b5518eee75b1c0f08341922ed5a", func := "concourse/concourselaw15.PresenceOrder", spec := "presenceOrder", inPlace := ["internal/bytealg.IndexByteString", "internal/bytealg.IndexString", "internal/bytealg.Compare", "slices.overlaps[concourse/api.Edu]"], unfollowed := true, recurses := true, named := ["internal/bytealg.MaxLen"], apart := false }
def PresenceOrderSaid : Prop := presenceOrderRow.holds Tryz.pinned (OpenSpec.ofChange presenceOrderSpec)

/-- ITS FALSE NEIGHBOUR: 'it returns false'. Refute it at one input. -/
def presenceOrderWrong : ChangeSpec := { name := "presenceOrder", fn := fun _ => fun
  | [d1, d2, d3] => { results := [.lit (.bool false)], args := [d1, d2, d3] }
  | _ => none }
def PresenceOrderWrongFalsely : Prop := presenceOrderRow.holds Tryz.pinned (OpenSpec.ofChange presenceOrderWrong)

/-- 'concourselaw15.PresenceTurns': WHATEVER THE INPUT: true; the input reads as it did. -/
def presenceTurnsSpec : ChangeSpec := { name := "presenceTurns", fn := fun _ => fun
  | [d1, d2] => { results := [.lit (.bool true)], args := [d1, d2] }
  | _ => none }
def presenceTurnsRow : OpenClaim := { program := "ytegmafgodoikiaagreat", sum := "737ceca958d5858d811e4c95c1d7fab5c1e33b5518eee75b1c0f08341922ed5a", func := "concourse/concourselaw15.PresenceTurns", spec := "presenceTurns", inPlace := ["internal/bytealg.IndexByteString", "internal/bytealg.IndexString", "internal/bytealg.Compare", "slices.overlaps[concourse/api.Edu]"], unfollowed := true, recurses := true, named := ["internal/bytealg.MaxLen"], apart := false }
def PresenceTurnsSaid : Prop := presenceTurnsRow.holds Tryz.pinned (OpenSpec.ofChange presenceTurnsSpec)

/-- ITS FALSE NEIGHBOUR: 'it returns false'. Refute it at one input. -/
def presenceTurnsWrong : ChangeSpec := { name := "presenceTurns", fn := fun _ => fun
  | [d1, d2] => { results := [.lit (.bool false)], args := [d1, d2] }
  | _ => none }
def PresenceTurnsWrongFalsely : Prop := presenceTurnsRow.holds Tryz.pinned (OpenSpec.ofChange presenceTurnsWrong)

/-- 'concourselaw15.PresencePlays': WHATEVER THE INPUT: true; the input reads as it did. -/
def presencePlaysSpec : ChangeSpec := { name := "presencePlays", fn := fun _ => fun
  | [d1, d2, d3] => { results := [.lit (.bool true)], args := [d1, d2, d3] }
  | _ => none }
def presencePlaysRow : OpenClaim := { program := "ytegmafgodoikiaagreat", sum := "737ceca958d5858d811e4c95c1d7fab5c1e33b5518eee75b1c0f08341922ed5a", func := "concourse/concourselaw15.PresencePlays", spec := "presencePlays", inPlace := ["internal/bytealg.IndexByteString", "internal/bytealg.IndexString", "internal/bytealg.Compare", "slices.overlaps[concourse/api.Edu]"], unfollowed := true, recurses := true, named := ["internal/bytealg.MaxLen"], apart := false }
def PresencePlaysSaid : Prop := presencePlaysRow.holds Tryz.pinned (OpenSpec.ofChange presencePlaysSpec)

/-- ITS FALSE NEIGHBOUR: 'it returns false'. Refute it at one input. -/
def presencePlaysWrong : ChangeSpec := { name := "presencePlays", fn := fun _ => fun
  | [d1, d2, d3] => { results := [.lit (.bool false)], args := [d1, d2, d3] }
  | _ => none }
def PresencePlaysWrongFalsely : Prop := presencePlaysRow.holds Tryz.pinned (OpenSpec.ofChange presencePlaysWrong)

/- THE SECOND FORM. 'bulk': how many values and letters a reading holds, each counted each time it is reached (what is shared counts as often as it is met; a slice's spare places count too). A statement '..UptoSaid' is the law's where the arguments, and the package variables that the reading takes, are together of bulk at most 1048576: NARROWER than '..Said'. Prove '..Said' where nothing that the law and all that it calls make is longer than what came in: it says more and counts as full. Else prove '..UptoSaid'. A law counts once. -/
mutual
def uptoBulk {H : Type} : DataW H → Nat
  | .lit (.string bytes) => bytes.length + 1
  | .lit _ => 1
  | .nil => 1
  | .ptr d => uptoBulk d + 1
  | .slice elems spare => uptoBulkAll elems + uptoBulkAll spare + 1
  | .agg parts => uptoBulkAll parts + 1
  | .iface _ d => uptoBulk d + 1
  | .map entries => uptoBulkEntries entries + 1
  | .held _ => 1
def uptoBulkAll {H : Type} : List (DataW H) → Nat
  | [] => 0
  | d :: r => uptoBulk d + uptoBulkAll r
def uptoBulkEntries {H : Type} : List (Lit × DataW H) → Nat
  | [] => 0
  | x :: r => uptoBulkEntry x + uptoBulkEntries r
def uptoBulkEntry {H : Type} : Lit × DataW H → Nat
  | (.string bytes, d) => bytes.length + uptoBulk d + 1
  | (_, d) => uptoBulk d + 1
 end
def uptoSmall : (H : Type) → List (DataW H) → Bool := fun _ ds => decide (uptoBulkAll ds ≤ 1048576)
def OpenSpec.upto (s : _root_.Go.ChangeSpec) : _root_.Go.OpenSpec := { _root_.Go.OpenSpec.ofChange s with cond := some uptoSmall }

/-- 'concourselaw15.PresenceStates', WHERE WHAT IT READS IS OF BULK AT MOST 1048576: true; the input reads as it did. -/
def presenceStatesUptoRow : OpenClaim := { program := "ytegmafgodoikiaagreat", sum := "737ceca958d5858d811e4c95c1d7fab5c1e33b5518eee75b1c0f08341922ed5a", func := "concourse/concourselaw15.PresenceStates", spec := "presenceStates", inPlace := ["internal/bytealg.IndexByteString", "internal/bytealg.IndexString", "internal/bytealg.Compare", "slices.overlaps[concourse/api.Edu]"], unfollowed := true, recurses := true, named := ["internal/bytealg.MaxLen"], apart := false, narrowed := true }
def PresenceStatesUptoSaid : Prop := presenceStatesUptoRow.holds Tryz.pinned (OpenSpec.upto presenceStatesSpec)

/-- 'concourselaw15.PresenceOrder', WHERE WHAT IT READS IS OF BULK AT MOST 1048576: true; the input reads as it did. -/
def presenceOrderUptoRow : OpenClaim := { program := "ytegmafgodoikiaagreat", sum := "737ceca958d5858d811e4c95c1d7fab5c1e33b5518eee75b1c0f08341922ed5a", func := "concourse/concourselaw15.PresenceOrder", spec := "presenceOrder", inPlace := ["internal/bytealg.IndexByteString", "internal/bytealg.IndexString", "internal/bytealg.Compare", "slices.overlaps[concourse/api.Edu]"], unfollowed := true, recurses := true, named := ["internal/bytealg.MaxLen"], apart := false, narrowed := true }
def PresenceOrderUptoSaid : Prop := presenceOrderUptoRow.holds Tryz.pinned (OpenSpec.upto presenceOrderSpec)

/-- 'concourselaw15.PresenceTurns', WHERE WHAT IT READS IS OF BULK AT MOST 1048576: true; the input reads as it did. -/
def presenceTurnsUptoRow : OpenClaim := { program := "ytegmafgodoikiaagreat", sum := "737ceca958d5858d811e4c95c1d7fab5c1e33b5518eee75b1c0f08341922ed5a", func := "concourse/concourselaw15.PresenceTurns", spec := "presenceTurns", inPlace := ["internal/bytealg.IndexByteString", "internal/bytealg.IndexString", "internal/bytealg.Compare", "slices.overlaps[concourse/api.Edu]"], unfollowed := true, recurses := true, named := ["internal/bytealg.MaxLen"], apart := false, narrowed := true }
def PresenceTurnsUptoSaid : Prop := presenceTurnsUptoRow.holds Tryz.pinned (OpenSpec.upto presenceTurnsSpec)

/-- 'concourselaw15.PresencePlays', WHERE WHAT IT READS IS OF BULK AT MOST 1048576: true; the input reads as it did. -/
def presencePlaysUptoRow : OpenClaim := { program := "ytegmafgodoikiaagreat", sum := "737ceca958d5858d811e4c95c1d7fab5c1e33b5518eee75b1c0f08341922ed5a", func := "concourse/concourselaw15.PresencePlays", spec := "presencePlays", inPlace := ["internal/bytealg.IndexByteString", "internal/bytealg.IndexString", "internal/bytealg.Compare", "slices.overlaps[concourse/api.Edu]"], unfollowed := true, recurses := true, named := ["internal/bytealg.MaxLen"], apart := false, narrowed := true }
def PresencePlaysUptoSaid : Prop := presencePlaysUptoRow.holds Tryz.pinned (OpenSpec.upto presencePlaysSpec)

end Rows
end Go.Proofs.YtegmafgodoikiaaGreat
