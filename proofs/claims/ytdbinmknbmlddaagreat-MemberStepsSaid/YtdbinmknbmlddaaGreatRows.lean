/-
  No cell of these rows narrows 'for every input' (looked for: loops, veiled, ifaces, maps, wideKeys, modest, calm, conditions, laid).
  DERIVED. THE GIVEN ROWS OF THIS SEAT. 4 by the template 'for every input the law returns true; each argument reads behind the call as it read before'; 0 by the template 'total and deterministic' (their statements: YtdbinmknbmlddaaGreatTotals.lean).
  GIVEN WITH THE SEED: the statements are not yours to turn. If you find one false, say at which input.
  Laid BY PROGRAM, IN A SANDBOX (cutbox-rows.mjs): the forced cells as the released guide's own fill.sh prints them over the translation 647e4935453be222… (all of the seat's roots in one cut). By AI agents, Wed Nov 11 2026. No macro, syntax, notation, axiom, sorry.
-/
import Derived.Test.YtdbinmknbmlddaaGreatChecked
import GoSem.Claim
import GoSem.ClaimJoined
import GoSem.ClaimMapViews
import Derived.JoinedTies
import Derived.KernelRfl
namespace Go.Proofs.YtdbinmknbmlddaaGreat
/- THE CELL 'sum', in the pinned program and in every row, IS THE sha256 OF THE DUMP (.gsa) THAT YtdbinmknbmlddaaGreatProg.lean LOADS. Nothing in Lean hashes anything: it is a label: what it is worth is what the hold of that sum in a sandbox is worth. -/
noncomputable def Tryz.pinned : Pinned := { name := "ytdbinmknbmlddaagreat", sum := "647e4935453be22297e5fc9722f572af9dcdc5a0f5afdea1c9927104582c6add", checked := Tryz.checked }
namespace Rows
def none {H : Type} : Left H := { results := [], args := [] }

/-- 'concourselaw09.MemberServers': WHATEVER THE INPUT: true; the input reads as it did. -/
def memberServersSpec : ChangeSpec := { name := "memberServers", fn := fun _ => fun
  | [d1, d2] => { results := [.lit (.bool true)], args := [d1, d2] }
  | _ => none }
def memberServersRow : OpenClaim := { program := "ytdbinmknbmlddaagreat", sum := "647e4935453be22297e5fc9722f572af9dcdc5a0f5afdea1c9927104582c6add", func := "concourse/concourselaw09.MemberServers", spec := "memberServers", inPlace := ["internal/bytealg.IndexByteString", "internal/bytealg.IndexString"], unfollowed := true, recurses := true, named := ["internal/bytealg.MaxLen"], apart := false }
def MemberServersSaid : Prop := memberServersRow.holds Tryz.pinned (OpenSpec.ofChange memberServersSpec)

/-- ITS FALSE NEIGHBOUR: 'it returns false'. Refute it at one input. -/
def memberServersWrong : ChangeSpec := { name := "memberServers", fn := fun _ => fun
  | [d1, d2] => { results := [.lit (.bool false)], args := [d1, d2] }
  | _ => none }
def MemberServersWrongFalsely : Prop := memberServersRow.holds Tryz.pinned (OpenSpec.ofChange memberServersWrong)

/-- 'concourselaw09.MemberOrder': WHATEVER THE INPUT: true; the input reads as it did. -/
def memberOrderSpec : ChangeSpec := { name := "memberOrder", fn := fun _ => fun
  | [d] => { results := [.lit (.bool true)], args := [d] }
  | _ => none }
def memberOrderRow : OpenClaim := { program := "ytdbinmknbmlddaagreat", sum := "647e4935453be22297e5fc9722f572af9dcdc5a0f5afdea1c9927104582c6add", func := "concourse/concourselaw09.MemberOrder", spec := "memberOrder", inPlace := ["internal/bytealg.IndexByteString", "internal/bytealg.IndexString"], unfollowed := true, recurses := true, named := ["internal/bytealg.MaxLen"], apart := false }
def MemberOrderSaid : Prop := memberOrderRow.holds Tryz.pinned (OpenSpec.ofChange memberOrderSpec)

/-- ITS FALSE NEIGHBOUR: 'it returns false'. Refute it at one input. -/
def memberOrderWrong : ChangeSpec := { name := "memberOrder", fn := fun _ => fun
  | [d] => { results := [.lit (.bool false)], args := [d] }
  | _ => none }
def MemberOrderWrongFalsely : Prop := memberOrderRow.holds Tryz.pinned (OpenSpec.ofChange memberOrderWrong)

/-- 'concourselaw09.MemberSteps': WHATEVER THE INPUT: true; the input reads as it did. -/
def memberStepsSpec : ChangeSpec := { name := "memberSteps", fn := fun _ => fun
  | [d1, d2, d3] => { results := [.lit (.bool true)], args := [d1, d2, d3] }
  | _ => none }
def memberStepsRow : OpenClaim := { program := "ytdbinmknbmlddaagreat", sum := "647e4935453be22297e5fc9722f572af9dcdc5a0f5afdea1c9927104582c6add", func := "concourse/concourselaw09.MemberSteps", spec := "memberSteps", inPlace := ["internal/bytealg.IndexByteString", "internal/bytealg.IndexString"], unfollowed := true, recurses := true, named := ["internal/bytealg.MaxLen"], apart := false }
def MemberStepsSaid : Prop := memberStepsRow.holds Tryz.pinned (OpenSpec.ofChange memberStepsSpec)

/-- ITS FALSE NEIGHBOUR: 'it returns false'. Refute it at one input. -/
def memberStepsWrong : ChangeSpec := { name := "memberSteps", fn := fun _ => fun
  | [d1, d2, d3] => { results := [.lit (.bool false)], args := [d1, d2, d3] }
  | _ => none }
def MemberStepsWrongFalsely : Prop := memberStepsRow.holds Tryz.pinned (OpenSpec.ofChange memberStepsWrong)

/-- 'concourselaw09.MemberJoined': WHATEVER THE INPUT: true; the input reads as it did. -/
def memberJoinedSpec : ChangeSpec := { name := "memberJoined", fn := fun _ => fun
  | [d1, d2] => { results := [.lit (.bool true)], args := [d1, d2] }
  | _ => none }
def memberJoinedRow : OpenClaim := { program := "ytdbinmknbmlddaagreat", sum := "647e4935453be22297e5fc9722f572af9dcdc5a0f5afdea1c9927104582c6add", func := "concourse/concourselaw09.MemberJoined", spec := "memberJoined", inPlace := ["internal/bytealg.IndexByteString", "internal/bytealg.IndexString"], unfollowed := true, recurses := true, named := ["internal/bytealg.MaxLen"], apart := false }
def MemberJoinedSaid : Prop := memberJoinedRow.holds Tryz.pinned (OpenSpec.ofChange memberJoinedSpec)

/-- ITS FALSE NEIGHBOUR: 'it returns false'. Refute it at one input. -/
def memberJoinedWrong : ChangeSpec := { name := "memberJoined", fn := fun _ => fun
  | [d1, d2] => { results := [.lit (.bool false)], args := [d1, d2] }
  | _ => none }
def MemberJoinedWrongFalsely : Prop := memberJoinedRow.holds Tryz.pinned (OpenSpec.ofChange memberJoinedWrong)

/- THE SECOND FORM. 'bulk': how many values and letters a reading holds, each counted each time it is reached (what is shared counts as often as it is met; a slice's spare places count too). A statement '..UptoSaid' is the law's where the arguments, and the package variables that the reading takes, are together of bulk at most 1048576: NARROWER than '..Said'. Prove '..Said' where nothing that the law and all that it calls make is longer than what came in: it says more and counts as full. Else prove '..UptoSaid'. A law counts once. -/
mutual
def uptoBulk {H : Type} : DataW H → Nat
  | .lit (.string bytes) => bytes.length + 1
  | .lit _ => 1
  | .nil => 1
  | .ptr d => uptoBulk d + 1
  | .slice elems spare => uptoBulkAll elems + uptoBulkAll spare + 1
  | .agg parts => uptoBulkAll parts + 1
  | .iface _ d => uptoBulk d + 1
  | .map entries => uptoBulkEntries entries + 1
  | .held _ => 1
def uptoBulkAll {H : Type} : List (DataW H) → Nat
  | [] => 0
  | d :: r => uptoBulk d + uptoBulkAll r
def uptoBulkEntries {H : Type} : List (Lit × DataW H) → Nat
  | [] => 0
  | x :: r => uptoBulkEntry x + uptoBulkEntries r
def uptoBulkEntry {H : Type} : Lit × DataW H → Nat
  | (.string bytes, d) => bytes.length + uptoBulk d + 1
  | (_, d) => uptoBulk d + 1
 end
def uptoSmall : (H : Type) → List (DataW H) → Bool := fun _ ds => decide (uptoBulkAll ds ≤ 1048576)
def OpenSpec.upto (s : _root_.Go.ChangeSpec) : _root_.Go.OpenSpec := { _root_.Go.OpenSpec.ofChange s with cond := some uptoSmall }

/-- 'concourselaw09.MemberServers', WHERE WHAT IT READS IS OF BULK AT MOST 1048576: true; the input reads as it did. -/
def memberServersUptoRow : OpenClaim := { program := "ytdbinmknbmlddaagreat", sum := "647e4935453be22297e5fc9722f572af9dcdc5a0f5afdea1c9927104582c6add", func := "concourse/concourselaw09.MemberServers", spec := "memberServers", inPlace := ["internal/bytealg.IndexByteString", "internal/bytealg.IndexString"], unfollowed := true, recurses := true, named := ["internal/bytealg.MaxLen"], apart := false, narrowed := true }
def MemberServersUptoSaid : Prop := memberServersUptoRow.holds Tryz.pinned (OpenSpec.upto memberServersSpec)

/-- 'concourselaw09.MemberOrder', WHERE WHAT IT READS IS OF BULK AT MOST 1048576: true; the input reads as it did. -/
def memberOrderUptoRow : OpenClaim := { program := "ytdbinmknbmlddaagreat", sum := "647e4935453be22297e5fc9722f572af9dcdc5a0f5afdea1c9927104582c6add", func := "concourse/concourselaw09.MemberOrder", spec := "memberOrder", inPlace := ["internal/bytealg.IndexByteString", "internal/bytealg.IndexString"], unfollowed := true, recurses := true, named := ["internal/bytealg.MaxLen"], apart := false, narrowed := true }
def MemberOrderUptoSaid : Prop := memberOrderUptoRow.holds Tryz.pinned (OpenSpec.upto memberOrderSpec)

/-- 'concourselaw09.MemberSteps', WHERE WHAT IT READS IS OF BULK AT MOST 1048576: true; the input reads as it did. -/
def memberStepsUptoRow : OpenClaim := { program := "ytdbinmknbmlddaagreat", sum := "647e4935453be22297e5fc9722f572af9dcdc5a0f5afdea1c9927104582c6add", func := "concourse/concourselaw09.MemberSteps", spec := "memberSteps", inPlace := ["internal/bytealg.IndexByteString", "internal/bytealg.IndexString"], unfollowed := true, recurses := true, named := ["internal/bytealg.MaxLen"], apart := false, narrowed := true }
def MemberStepsUptoSaid : Prop := memberStepsUptoRow.holds Tryz.pinned (OpenSpec.upto memberStepsSpec)

/-- 'concourselaw09.MemberJoined', WHERE WHAT IT READS IS OF BULK AT MOST 1048576: true; the input reads as it did. -/
def memberJoinedUptoRow : OpenClaim := { program := "ytdbinmknbmlddaagreat", sum := "647e4935453be22297e5fc9722f572af9dcdc5a0f5afdea1c9927104582c6add", func := "concourse/concourselaw09.MemberJoined", spec := "memberJoined", inPlace := ["internal/bytealg.IndexByteString", "internal/bytealg.IndexString"], unfollowed := true, recurses := true, named := ["internal/bytealg.MaxLen"], apart := false, narrowed := true }
def MemberJoinedUptoSaid : Prop := memberJoinedUptoRow.holds Tryz.pinned (OpenSpec.upto memberJoinedSpec)

end Rows
end Go.Proofs.YtdbinmknbmlddaaGreat
