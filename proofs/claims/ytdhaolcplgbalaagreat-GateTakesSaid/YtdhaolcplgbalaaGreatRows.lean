/-
  No cell of these rows narrows 'for every input' (looked for: loops, veiled, ifaces, maps, wideKeys, modest, calm, conditions, laid).
  DERIVED. THE GIVEN ROWS OF THIS SEAT. 6 by the template 'for every input the law returns true; each argument reads behind the call as it read before'; 0 by the template 'total and deterministic' (their statements: YtdhaolcplgbalaaGreatTotals.lean).
  GIVEN WITH THE SEED: the statements are not yours to turn. If you find one false, say at which input.
  Laid BY PROGRAM, IN A SANDBOX (cutbox-rows.mjs): the forced cells as the released guide's own fill.sh prints them over the translation abbae889235fe804… (all of the seat's roots in one cut). By AI agents, Wed Nov 11 2026. No macro, syntax, notation, axiom, sorry.
-/
import Derived.Test.YtdhaolcplgbalaaGreatChecked
import GoSem.Claim
import GoSem.ClaimJoined
import GoSem.ClaimMapViews
import Derived.JoinedTies
import Derived.KernelRfl
namespace Go.Proofs.YtdhaolcplgbalaaGreat
/- THE CELL 'sum', in the pinned program and in every row, IS THE sha256 OF THE DUMP (.gsa) THAT YtdhaolcplgbalaaGreatProg.lean LOADS. Nothing in Lean hashes anything: it is a label: what it is worth is what the hold of that sum in a sandbox is worth. -/
noncomputable def Tryz.pinned : Pinned := { name := "ytdhaolcplgbalaagreat", sum := "abbae889235fe80494564245af297a350677f88e1a3002142b2b66f7015a41a7", checked := Tryz.checked }
namespace Rows
def none {H : Type} : Left H := { results := [], args := [] }

/-- 'concourselaw16.GateAccepts': WHATEVER THE INPUT: true; the input reads as it did. -/
def gateAcceptsSpec : ChangeSpec := { name := "gateAccepts", fn := fun _ => fun
  | [d1, d2, d3, d4] => { results := [.lit (.bool true)], args := [d1, d2, d3, d4] }
  | _ => none }
def gateAcceptsRow : OpenClaim := { program := "ytdhaolcplgbalaagreat", sum := "abbae889235fe80494564245af297a350677f88e1a3002142b2b66f7015a41a7", func := "concourse/concourselaw16.GateAccepts", spec := "gateAccepts", inPlace := ["internal/bytealg.IndexByteString", "internal/bytealg.IndexString"], unfollowed := true, recurses := true, named := ["internal/bytealg.MaxLen"], apart := false }
def GateAcceptsSaid : Prop := gateAcceptsRow.holds Tryz.pinned (OpenSpec.ofChange gateAcceptsSpec)

/-- ITS FALSE NEIGHBOUR: 'it returns false'. Refute it at one input. -/
def gateAcceptsWrong : ChangeSpec := { name := "gateAccepts", fn := fun _ => fun
  | [d1, d2, d3, d4] => { results := [.lit (.bool false)], args := [d1, d2, d3, d4] }
  | _ => none }
def GateAcceptsWrongFalsely : Prop := gateAcceptsRow.holds Tryz.pinned (OpenSpec.ofChange gateAcceptsWrong)

/-- 'concourselaw16.GatePasses': WHATEVER THE INPUT: true; the input reads as it did. -/
def gatePassesSpec : ChangeSpec := { name := "gatePasses", fn := fun _ => fun
  | [d1, d2, d3, d4] => { results := [.lit (.bool true)], args := [d1, d2, d3, d4] }
  | _ => none }
def gatePassesRow : OpenClaim := { program := "ytdhaolcplgbalaagreat", sum := "abbae889235fe80494564245af297a350677f88e1a3002142b2b66f7015a41a7", func := "concourse/concourselaw16.GatePasses", spec := "gatePasses", inPlace := ["internal/bytealg.IndexByteString", "internal/bytealg.IndexString"], unfollowed := true, recurses := true, named := ["internal/bytealg.MaxLen"], apart := false }
def GatePassesSaid : Prop := gatePassesRow.holds Tryz.pinned (OpenSpec.ofChange gatePassesSpec)

/-- ITS FALSE NEIGHBOUR: 'it returns false'. Refute it at one input. -/
def gatePassesWrong : ChangeSpec := { name := "gatePasses", fn := fun _ => fun
  | [d1, d2, d3, d4] => { results := [.lit (.bool false)], args := [d1, d2, d3, d4] }
  | _ => none }
def GatePassesWrongFalsely : Prop := gatePassesRow.holds Tryz.pinned (OpenSpec.ofChange gatePassesWrong)

/-- 'concourselaw16.GateChooses': WHATEVER THE INPUT: true; the input reads as it did. -/
def gateChoosesSpec : ChangeSpec := { name := "gateChooses", fn := fun _ => fun
  | [d1, d2, d3, d4] => { results := [.lit (.bool true)], args := [d1, d2, d3, d4] }
  | _ => none }
def gateChoosesRow : OpenClaim := { program := "ytdhaolcplgbalaagreat", sum := "abbae889235fe80494564245af297a350677f88e1a3002142b2b66f7015a41a7", func := "concourse/concourselaw16.GateChooses", spec := "gateChooses", inPlace := ["internal/bytealg.IndexByteString", "internal/bytealg.IndexString"], unfollowed := true, recurses := true, named := ["internal/bytealg.MaxLen"], apart := false }
def GateChoosesSaid : Prop := gateChoosesRow.holds Tryz.pinned (OpenSpec.ofChange gateChoosesSpec)

/-- ITS FALSE NEIGHBOUR: 'it returns false'. Refute it at one input. -/
def gateChoosesWrong : ChangeSpec := { name := "gateChooses", fn := fun _ => fun
  | [d1, d2, d3, d4] => { results := [.lit (.bool false)], args := [d1, d2, d3, d4] }
  | _ => none }
def GateChoosesWrongFalsely : Prop := gateChoosesRow.holds Tryz.pinned (OpenSpec.ofChange gateChoosesWrong)

/-- 'concourselaw16.GateSees': WHATEVER THE INPUT: true; the input reads as it did. -/
def gateSeesSpec : ChangeSpec := { name := "gateSees", fn := fun _ => fun
  | [d1, d2, d3, d4] => { results := [.lit (.bool true)], args := [d1, d2, d3, d4] }
  | _ => none }
def gateSeesRow : OpenClaim := { program := "ytdhaolcplgbalaagreat", sum := "abbae889235fe80494564245af297a350677f88e1a3002142b2b66f7015a41a7", func := "concourse/concourselaw16.GateSees", spec := "gateSees", inPlace := ["internal/bytealg.IndexByteString", "internal/bytealg.IndexString"], unfollowed := true, recurses := true, named := ["internal/bytealg.MaxLen"], apart := false }
def GateSeesSaid : Prop := gateSeesRow.holds Tryz.pinned (OpenSpec.ofChange gateSeesSpec)

/-- ITS FALSE NEIGHBOUR: 'it returns false'. Refute it at one input. -/
def gateSeesWrong : ChangeSpec := { name := "gateSees", fn := fun _ => fun
  | [d1, d2, d3, d4] => { results := [.lit (.bool false)], args := [d1, d2, d3, d4] }
  | _ => none }
def GateSeesWrongFalsely : Prop := gateSeesRow.holds Tryz.pinned (OpenSpec.ofChange gateSeesWrong)

/-- 'concourselaw16.GateSecret': WHATEVER THE INPUT: true; the input reads as it did. -/
def gateSecretSpec : ChangeSpec := { name := "gateSecret", fn := fun _ => fun
  | [d1, d2, d3] => { results := [.lit (.bool true)], args := [d1, d2, d3] }
  | _ => none }
def gateSecretRow : OpenClaim := { program := "ytdhaolcplgbalaagreat", sum := "abbae889235fe80494564245af297a350677f88e1a3002142b2b66f7015a41a7", func := "concourse/concourselaw16.GateSecret", spec := "gateSecret", inPlace := ["internal/bytealg.IndexByteString", "internal/bytealg.IndexString"], unfollowed := true, recurses := true, named := ["internal/bytealg.MaxLen"], apart := false }
def GateSecretSaid : Prop := gateSecretRow.holds Tryz.pinned (OpenSpec.ofChange gateSecretSpec)

/-- ITS FALSE NEIGHBOUR: 'it returns false'. Refute it at one input. -/
def gateSecretWrong : ChangeSpec := { name := "gateSecret", fn := fun _ => fun
  | [d1, d2, d3] => { results := [.lit (.bool false)], args := [d1, d2, d3] }
  | _ => none }
def GateSecretWrongFalsely : Prop := gateSecretRow.holds Tryz.pinned (OpenSpec.ofChange gateSecretWrong)

/-- 'concourselaw16.GateTakes': WHATEVER THE INPUT: true; the input reads as it did. -/
def gateTakesSpec : ChangeSpec := { name := "gateTakes", fn := fun _ => fun
  | [d1, d2, d3] => { results := [.lit (.bool true)], args := [d1, d2, d3] }
  | _ => none }
def gateTakesRow : OpenClaim := { program := "ytdhaolcplgbalaagreat", sum := "abbae889235fe80494564245af297a350677f88e1a3002142b2b66f7015a41a7", func := "concourse/concourselaw16.GateTakes", spec := "gateTakes", inPlace := ["internal/bytealg.IndexByteString", "internal/bytealg.IndexString"], unfollowed := true, recurses := true, named := ["internal/bytealg.MaxLen"], apart := false }
def GateTakesSaid : Prop := gateTakesRow.holds Tryz.pinned (OpenSpec.ofChange gateTakesSpec)

/-- ITS FALSE NEIGHBOUR: 'it returns false'. Refute it at one input. -/
def gateTakesWrong : ChangeSpec := { name := "gateTakes", fn := fun _ => fun
  | [d1, d2, d3] => { results := [.lit (.bool false)], args := [d1, d2, d3] }
  | _ => none }
def GateTakesWrongFalsely : Prop := gateTakesRow.holds Tryz.pinned (OpenSpec.ofChange gateTakesWrong)

/- THE SECOND FORM. 'bulk': how many values and letters a reading holds, each counted each time it is reached (what is shared counts as often as it is met; a slice's spare places count too). A statement '..UptoSaid' is the law's where the arguments, and the package variables that the reading takes, are together of bulk at most 1048576: NARROWER than '..Said'. Prove '..Said' where nothing that the law and all that it calls make is longer than what came in: it says more and counts as full. Else prove '..UptoSaid'. A law counts once. -/
mutual
def uptoBulk {H : Type} : DataW H → Nat
  | .lit (.string bytes) => bytes.length + 1
  | .lit _ => 1
  | .nil => 1
  | .ptr d => uptoBulk d + 1
  | .slice elems spare => uptoBulkAll elems + uptoBulkAll spare + 1
  | .agg parts => uptoBulkAll parts + 1
  | .iface _ d => uptoBulk d + 1
  | .map entries => uptoBulkEntries entries + 1
  | .held _ => 1
def uptoBulkAll {H : Type} : List (DataW H) → Nat
  | [] => 0
  | d :: r => uptoBulk d + uptoBulkAll r
def uptoBulkEntries {H : Type} : List (Lit × DataW H) → Nat
  | [] => 0
  | x :: r => uptoBulkEntry x + uptoBulkEntries r
def uptoBulkEntry {H : Type} : Lit × DataW H → Nat
  | (.string bytes, d) => bytes.length + uptoBulk d + 1
  | (_, d) => uptoBulk d + 1
 end
def uptoSmall : (H : Type) → List (DataW H) → Bool := fun _ ds => decide (uptoBulkAll ds ≤ 1048576)
def OpenSpec.upto (s : _root_.Go.ChangeSpec) : _root_.Go.OpenSpec := { _root_.Go.OpenSpec.ofChange s with cond := some uptoSmall }

/-- 'concourselaw16.GateAccepts', WHERE WHAT IT READS IS OF BULK AT MOST 1048576: true; the input reads as it did. -/
def gateAcceptsUptoRow : OpenClaim := { program := "ytdhaolcplgbalaagreat", sum := "abbae889235fe80494564245af297a350677f88e1a3002142b2b66f7015a41a7", func := "concourse/concourselaw16.GateAccepts", spec := "gateAccepts", inPlace := ["internal/bytealg.IndexByteString", "internal/bytealg.IndexString"], unfollowed := true, recurses := true, named := ["internal/bytealg.MaxLen"], apart := false, narrowed := true }
def GateAcceptsUptoSaid : Prop := gateAcceptsUptoRow.holds Tryz.pinned (OpenSpec.upto gateAcceptsSpec)

/-- 'concourselaw16.GatePasses', WHERE WHAT IT READS IS OF BULK AT MOST 1048576: true; the input reads as it did. -/
def gatePassesUptoRow : OpenClaim := { program := "ytdhaolcplgbalaagreat", sum := "abbae889235fe80494564245af297a350677f88e1a3002142b2b66f7015a41a7", func := "concourse/concourselaw16.GatePasses", spec := "gatePasses", inPlace := ["internal/bytealg.IndexByteString", "internal/bytealg.IndexString"], unfollowed := true, recurses := true, named := ["internal/bytealg.MaxLen"], apart := false, narrowed := true }
def GatePassesUptoSaid : Prop := gatePassesUptoRow.holds Tryz.pinned (OpenSpec.upto gatePassesSpec)

/-- 'concourselaw16.GateChooses', WHERE WHAT IT READS IS OF BULK AT MOST 1048576: true; the input reads as it did. -/
def gateChoosesUptoRow : OpenClaim := { program := "ytdhaolcplgbalaagreat", sum := "abbae889235fe80494564245af297a350677f88e1a3002142b2b66f7015a41a7", func := "concourse/concourselaw16.GateChooses", spec := "gateChooses", inPlace := ["internal/bytealg.IndexByteString", "internal/bytealg.IndexString"], unfollowed := true, recurses := true, named := ["internal/bytealg.MaxLen"], apart := false, narrowed := true }
def GateChoosesUptoSaid : Prop := gateChoosesUptoRow.holds Tryz.pinned (OpenSpec.upto gateChoosesSpec)

/-- 'concourselaw16.GateSees', WHERE WHAT IT READS IS OF BULK AT MOST 1048576: true; the input reads as it did. -/
def gateSeesUptoRow : OpenClaim := { program := "ytdhaolcplgbalaagreat", sum := "abbae889235fe80494564245af297a350677f88e1a3002142b2b66f7015a41a7", func := "concourse/concourselaw16.GateSees", spec := "gateSees", inPlace := ["internal/bytealg.IndexByteString", "internal/bytealg.IndexString"], unfollowed := true, recurses := true, named := ["internal/bytealg.MaxLen"], apart := false, narrowed := true }
def GateSeesUptoSaid : Prop := gateSeesUptoRow.holds Tryz.pinned (OpenSpec.upto gateSeesSpec)

/-- 'concourselaw16.GateSecret', WHERE WHAT IT READS IS OF BULK AT MOST 1048576: true; the input reads as it did. -/
def gateSecretUptoRow : OpenClaim := { program := "ytdhaolcplgbalaagreat", sum := "abbae889235fe80494564245af297a350677f88e1a3002142b2b66f7015a41a7", func := "concourse/concourselaw16.GateSecret", spec := "gateSecret", inPlace := ["internal/bytealg.IndexByteString", "internal/bytealg.IndexString"], unfollowed := true, recurses := true, named := ["internal/bytealg.MaxLen"], apart := false, narrowed := true }
def GateSecretUptoSaid : Prop := gateSecretUptoRow.holds Tryz.pinned (OpenSpec.upto gateSecretSpec)

/-- 'concourselaw16.GateTakes', WHERE WHAT IT READS IS OF BULK AT MOST 1048576: true; the input reads as it did. -/
def gateTakesUptoRow : OpenClaim := { program := "ytdhaolcplgbalaagreat", sum := "abbae889235fe80494564245af297a350677f88e1a3002142b2b66f7015a41a7", func := "concourse/concourselaw16.GateTakes", spec := "gateTakes", inPlace := ["internal/bytealg.IndexByteString", "internal/bytealg.IndexString"], unfollowed := true, recurses := true, named := ["internal/bytealg.MaxLen"], apart := false, narrowed := true }
def GateTakesUptoSaid : Prop := gateTakesUptoRow.holds Tryz.pinned (OpenSpec.upto gateTakesSpec)

end Rows
end Go.Proofs.YtdhaolcplgbalaaGreat
