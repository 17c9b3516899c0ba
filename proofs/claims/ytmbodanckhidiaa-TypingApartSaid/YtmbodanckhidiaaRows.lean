/-
  No cell of these rows narrows 'for every input' (looked for: loops, veiled, ifaces, maps, wideKeys, modest, calm, conditions, laid).
  DERIVED. THE GIVEN ROWS OF THIS SEAT. 4 by the template 'for every input the law returns true; each argument reads behind the call as it read before'; 0 by the template 'total and deterministic' (their statements: YtmbodanckhidiaaTotals.lean).
  GIVEN WITH THE SEED: the statements are not yours to turn. If you find one false, say at which input.
  Laid BY PROGRAM, IN A SANDBOX (cutbox-rows.mjs): the forced cells as the released guide's own fill.sh prints them over the translation 4ef0cc9e157328cd… (all of the seat's roots in one cut). By AI agents, Wed Nov 11 2026. No macro, syntax, notation, axiom, sorry.
-/
import Derived.Test.YtmbodanckhidiaaChecked
import GoSem.Claim
import GoSem.ClaimJoined
import GoSem.ClaimMapViews
import Derived.JoinedTies
import Derived.KernelRfl
namespace Go.Proofs.Ytmbodanckhidiaa
/- THE CELL 'sum', in the pinned program and in every row, IS THE sha256 OF THE DUMP (.gsa) THAT YtmbodanckhidiaaProg.lean LOADS. Nothing in Lean hashes anything: it is a label: what it is worth is what the hold of that sum in a sandbox is worth. -/
noncomputable def Try.pinned : Pinned := { name := "ytmbodanckhidiaa", sum := "4ef0cc9e157328cd7794cab5d7966fb9c3eb4603211208717d0d2530fcc11036", checked := Try.checked }
namespace Rows
def none {H : Type} : Left H := { results := [], args := [] }

/-- 'concourselaw14.TypingUsers': WHATEVER THE INPUT: true; the input reads as it did. -/
def typingUsersSpec : ChangeSpec := { name := "typingUsers", fn := fun _ => fun
  | [d1, d2, d3] => { results := [.lit (.bool true)], args := [d1, d2, d3] }
  | _ => none }
def typingUsersRow : OpenClaim := { program := "ytmbodanckhidiaa", sum := "4ef0cc9e157328cd7794cab5d7966fb9c3eb4603211208717d0d2530fcc11036", func := "concourse/concourselaw14.TypingUsers", spec := "typingUsers", inPlace := ["internal/bytealg.IndexByteString", "internal/bytealg.IndexString", "internal/bytealg.Compare", "slices.overlaps[concourse/api.Edu]"], unfollowed := true, recurses := true, named := ["internal/bytealg.MaxLen"], apart := false }
def TypingUsersSaid : Prop := typingUsersRow.holds Try.pinned (OpenSpec.ofChange typingUsersSpec)

/-- ITS FALSE NEIGHBOUR: 'it returns false'. Refute it at one input. -/
def typingUsersWrong : ChangeSpec := { name := "typingUsers", fn := fun _ => fun
  | [d1, d2, d3] => { results := [.lit (.bool false)], args := [d1, d2, d3] }
  | _ => none }
def TypingUsersWrongFalsely : Prop := typingUsersRow.holds Try.pinned (OpenSpec.ofChange typingUsersWrong)

/-- 'concourselaw14.TypingApart': WHATEVER THE INPUT: true; the input reads as it did. -/
def typingApartSpec : ChangeSpec := { name := "typingApart", fn := fun _ => fun
  | [d1, d2, d3] => { results := [.lit (.bool true)], args := [d1, d2, d3] }
  | _ => none }
def typingApartRow : OpenClaim := { program := "ytmbodanckhidiaa", sum := "4ef0cc9e157328cd7794cab5d7966fb9c3eb4603211208717d0d2530fcc11036", func := "concourse/concourselaw14.TypingApart", spec := "typingApart", inPlace := ["internal/bytealg.IndexByteString", "internal/bytealg.IndexString", "internal/bytealg.Compare", "slices.overlaps[concourse/api.Edu]"], unfollowed := true, recurses := true, named := ["internal/bytealg.MaxLen"], apart := false }
def TypingApartSaid : Prop := typingApartRow.holds Try.pinned (OpenSpec.ofChange typingApartSpec)

/-- ITS FALSE NEIGHBOUR: 'it returns false'. Refute it at one input. -/
def typingApartWrong : ChangeSpec := { name := "typingApart", fn := fun _ => fun
  | [d1, d2, d3] => { results := [.lit (.bool false)], args := [d1, d2, d3] }
  | _ => none }
def TypingApartWrongFalsely : Prop := typingApartRow.holds Try.pinned (OpenSpec.ofChange typingApartWrong)

/-- 'concourselaw14.TypingOrder': WHATEVER THE INPUT: true; the input reads as it did. -/
def typingOrderSpec : ChangeSpec := { name := "typingOrder", fn := fun _ => fun
  | [d1, d2, d3] => { results := [.lit (.bool true)], args := [d1, d2, d3] }
  | _ => none }
def typingOrderRow : OpenClaim := { program := "ytmbodanckhidiaa", sum := "4ef0cc9e157328cd7794cab5d7966fb9c3eb4603211208717d0d2530fcc11036", func := "concourse/concourselaw14.TypingOrder", spec := "typingOrder", inPlace := ["internal/bytealg.IndexByteString", "internal/bytealg.IndexString", "internal/bytealg.Compare", "slices.overlaps[concourse/api.Edu]"], unfollowed := true, recurses := true, named := ["internal/bytealg.MaxLen"], apart := false }
def TypingOrderSaid : Prop := typingOrderRow.holds Try.pinned (OpenSpec.ofChange typingOrderSpec)

/-- ITS FALSE NEIGHBOUR: 'it returns false'. Refute it at one input. -/
def typingOrderWrong : ChangeSpec := { name := "typingOrder", fn := fun _ => fun
  | [d1, d2, d3] => { results := [.lit (.bool false)], args := [d1, d2, d3] }
  | _ => none }
def TypingOrderWrongFalsely : Prop := typingOrderRow.holds Try.pinned (OpenSpec.ofChange typingOrderWrong)

/-- 'concourselaw14.TypingStops': WHATEVER THE INPUT: true; the input reads as it did. -/
def typingStopsSpec : ChangeSpec := { name := "typingStops", fn := fun _ => fun
  | [d1, d2, d3, d4] => { results := [.lit (.bool true)], args := [d1, d2, d3, d4] }
  | _ => none }
def typingStopsRow : OpenClaim := { program := "ytmbodanckhidiaa", sum := "4ef0cc9e157328cd7794cab5d7966fb9c3eb4603211208717d0d2530fcc11036", func := "concourse/concourselaw14.TypingStops", spec := "typingStops", inPlace := ["internal/bytealg.IndexByteString", "internal/bytealg.IndexString", "internal/bytealg.Compare", "slices.overlaps[concourse/api.Edu]"], unfollowed := true, recurses := true, named := ["internal/bytealg.MaxLen"], apart := false }
def TypingStopsSaid : Prop := typingStopsRow.holds Try.pinned (OpenSpec.ofChange typingStopsSpec)

/-- ITS FALSE NEIGHBOUR: 'it returns false'. Refute it at one input. -/
def typingStopsWrong : ChangeSpec := { name := "typingStops", fn := fun _ => fun
  | [d1, d2, d3, d4] => { results := [.lit (.bool false)], args := [d1, d2, d3, d4] }
  | _ => none }
def TypingStopsWrongFalsely : Prop := typingStopsRow.holds Try.pinned (OpenSpec.ofChange typingStopsWrong)

/- THE SECOND FORM. 'bulk': how many values and letters a reading holds, each counted each time it is reached (what is shared counts as often as it is met; a slice's spare places count too). A statement '..UptoSaid' is the law's where the arguments, and the package variables that the reading takes, are together of bulk at most 1048576: NARROWER than '..Said'. Prove '..Said' where nothing that the law and all that it calls make is longer than what came in: it says more and counts as full. Else prove '..UptoSaid'. A law counts once. -/
mutual
def uptoBulk {H : Type} : DataW H → Nat
  | .lit (.string bytes) => bytes.length + 1
  | .lit _ => 1
  | .nil => 1
  | .ptr d => uptoBulk d + 1
  | .slice elems spare => uptoBulkAll elems + uptoBulkAll spare + 1
  | .agg parts => uptoBulkAll parts + 1
  | .iface _ d => uptoBulk d + 1
  | .map entries => uptoBulkEntries entries + 1
  | .held _ => 1
def uptoBulkAll {H : Type} : List (DataW H) → Nat
  | [] => 0
  | d :: r => uptoBulk d + uptoBulkAll r
def uptoBulkEntries {H : Type} : List (Lit × DataW H) → Nat
  | [] => 0
  | x :: r => uptoBulkEntry x + uptoBulkEntries r
def uptoBulkEntry {H : Type} : Lit × DataW H → Nat
  | (.string bytes, d) => bytes.length + uptoBulk d + 1
  | (_, d) => uptoBulk d + 1
 end
def uptoSmall : (H : Type) → List (DataW H) → Bool := fun _ ds => decide (uptoBulkAll ds ≤ 1048576)
def OpenSpec.upto (s : _root_.Go.ChangeSpec) : _root_.Go.OpenSpec := { _root_.Go.OpenSpec.ofChange s with cond := some uptoSmall }

/-- 'concourselaw14.TypingUsers', WHERE WHAT IT READS IS OF BULK AT MOST 1048576: true; the input reads as it did. -/
def typingUsersUptoRow : OpenClaim := { program := "ytmbodanckhidiaa", sum := "4ef0cc9e157328cd7794cab5d7966fb9c3eb4603211208717d0d2530fcc11036", func := "concourse/concourselaw14.TypingUsers", spec := "typingUsers", inPlace := ["internal/bytealg.IndexByteString", "internal/bytealg.IndexString", "internal/bytealg.Compare", "slices.overlaps[concourse/api.Edu]"], unfollowed := true, recurses := true, named := ["internal/bytealg.MaxLen"], apart := false, narrowed := true }
def TypingUsersUptoSaid : Prop := typingUsersUptoRow.holds Try.pinned (OpenSpec.upto typingUsersSpec)

/-- 'concourselaw14.TypingApart', WHERE WHAT IT READS IS OF BULK AT MOST 1048576: true; the input reads as it did. -/
def typingApartUptoRow : OpenClaim := { program := "ytmbodanckhidiaa", sum := "4ef0cc9e157328cd7794cab5d7966fb9c3eb4603211208717d0d2530fcc11036", func := "concourse/concourselaw14.TypingApart", spec := "typingApart", inPlace := ["internal/bytealg.IndexByteString", "internal/bytealg.IndexString", "internal/bytealg.Compare", "slices.overlaps[concourse/api.Edu]"], unfollowed := true, recurses := true, named := ["internal/bytealg.MaxLen"], apart := false, narrowed := true }
def TypingApartUptoSaid : Prop := typingApartUptoRow.holds Try.pinned (OpenSpec.upto typingApartSpec)

/-- 'concourselaw14.TypingOrder', WHERE WHAT IT READS IS OF BULK AT MOST 1048576: true; the input reads as it did. -/
def typingOrderUptoRow : OpenClaim := { program := "ytmbodanckhidiaa", sum := "4ef0cc9e157328cd7794cab5d7966fb9c3eb4603211208717d0d2530fcc11036", func := "concourse/concourselaw14.TypingOrder", spec := "typingOrder", inPlace := ["internal/bytealg.IndexByteString", "internal/bytealg.IndexString", "internal/bytealg.Compare", "slices.overlaps[concourse/api.Edu]"], unfollowed := true, recurses := true, named := ["internal/bytealg.MaxLen"], apart := false, narrowed := true }
def TypingOrderUptoSaid : Prop := typingOrderUptoRow.holds Try.pinned (OpenSpec.upto typingOrderSpec)

/-- 'concourselaw14.TypingStops', WHERE WHAT IT READS IS OF BULK AT MOST 1048576: true; the input reads as it did. -/
def typingStopsUptoRow : OpenClaim := { program := "ytmbodanckhidiaa", sum := "4ef0cc9e157328cd7794cab5d7966fb9c3eb4603211208717d0d2530fcc11036", func := "concourse/concourselaw14.TypingStops", spec := "typingStops", inPlace := ["internal/bytealg.IndexByteString", "internal/bytealg.IndexString", "internal/bytealg.Compare", "slices.overlaps[concourse/api.Edu]"], unfollowed := true, recurses := true, named := ["internal/bytealg.MaxLen"], apart := false, narrowed := true }
def TypingStopsUptoSaid : Prop := typingStopsUptoRow.holds Try.pinned (OpenSpec.upto typingStopsSpec)

end Rows
end Go.Proofs.Ytmbodanckhidiaa
