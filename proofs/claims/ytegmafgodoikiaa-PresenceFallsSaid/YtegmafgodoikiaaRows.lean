/-
  No cell of these rows narrows 'for every input' (looked for: loops, veiled, ifaces, maps, wideKeys, modest, calm, conditions, laid).
  DERIVED. THE GIVEN ROWS OF THIS SEAT. 2 by the template 'for every input the law returns true; each argument reads behind the call as it read before'; 0 by the template 'total and deterministic' (their statements: YtegmafgodoikiaaTotals.lean).
  GIVEN WITH THE SEED: the statements are not yours to turn. If you find one false, say at which input.
  Laid BY PROGRAM, IN A SANDBOX (cutbox-rows.mjs): the forced cells as the released guide's own fill.sh prints them over the translation 202fbdbb20dfa068… (all of the seat's roots in one cut). By AI agents, Wed Nov 11 2026. No macro, syntax, notation, axiom, sorry.
-/
import Derived.Test.YtegmafgodoikiaaChecked
import GoSem.Claim
import GoSem.ClaimJoined
import GoSem.ClaimMapViews
import Derived.JoinedTies
import Derived.KernelRfl
namespace Go.Proofs.Ytegmafgodoikiaa
/- THE CELL 'sum', in the pinned program and in every row, IS THE sha256 OF THE DUMP (.gsa) THAT YtegmafgodoikiaaProg.lean LOADS. Nothing in Lean hashes anything: it is a label: what it is worth is what the hold of that sum in a sandbox is worth. -/
noncomputable def Try.pinned : Pinned := { name := "ytegmafgodoikiaa", sum := "202fbdbb20dfa06878e09a721ffa47a8240b4bb8a25a199d7ea1fda6dfb21f0a", checked := Try.checked }
namespace Rows
def none {H : Type} : Left H := { results := [], args := [] }

/-- 'concourselaw15.PresenceApart': WHATEVER THE INPUT: true; the input reads as it did. -/
def presenceApartSpec : ChangeSpec := { name := "presenceApart", fn := fun _ => fun
  | [d1, d2, d3] => { results := [.lit (.bool true)], args := [d1, d2, d3] }
  | _ => none }
def presenceApartRow : OpenClaim := { program := "ytegmafgodoikiaa", sum := "202fbdbb20dfa06878e09a721ffa47a8240b4bb8a25a199d7ea1fda6dfb21f0a", func := "concourse/concourselaw15.PresenceApart", spec := "presenceApart", inPlace := ["internal/bytealg.IndexByteString", "internal/bytealg.IndexString", "internal/bytealg.Compare", "slices.overlaps[concourse/api.Edu]"], unfollowed := true, recurses := true, named := ["internal/bytealg.MaxLen"], apart := false }
def PresenceApartSaid : Prop := presenceApartRow.holds Try.pinned (OpenSpec.ofChange presenceApartSpec)

/-- ITS FALSE NEIGHBOUR: 'it returns false'. Refute it at one input. -/
def presenceApartWrong : ChangeSpec := { name := "presenceApart", fn := fun _ => fun
  | [d1, d2, d3] => { results := [.lit (.bool false)], args := [d1, d2, d3] }
  | _ => none }
def PresenceApartWrongFalsely : Prop := presenceApartRow.holds Try.pinned (OpenSpec.ofChange presenceApartWrong)

/-- 'concourselaw15.PresenceFalls': WHATEVER THE INPUT: true; the input reads as it did. -/
def presenceFallsSpec : ChangeSpec := { name := "presenceFalls", fn := fun _ => fun
  | [d1, d2, d3] => { results := [.lit (.bool true)], args := [d1, d2, d3] }
  | _ => none }
def presenceFallsRow : OpenClaim := { program := "ytegmafgodoikiaa", sum := "202fbdbb20dfa06878e09a721ffa47a8240b4bb8a25a199d7ea1fda6dfb21f0a", func := "concourse/concourselaw15.PresenceFalls", spec := "presenceFalls", inPlace := ["internal/bytealg.IndexByteString", "internal/bytealg.IndexString", "internal/bytealg.Compare", "slices.overlaps[concourse/api.Edu]"], unfollowed := true, recurses := true, named := ["internal/bytealg.MaxLen"], apart := false }
def PresenceFallsSaid : Prop := presenceFallsRow.holds Try.pinned (OpenSpec.ofChange presenceFallsSpec)

/-- ITS FALSE NEIGHBOUR: 'it returns false'. Refute it at one input. -/
def presenceFallsWrong : ChangeSpec := { name := "presenceFalls", fn := fun _ => fun
  | [d1, d2, d3] => { results := [.lit (.bool false)], args := [d1, d2, d3] }
  | _ => none }
def PresenceFallsWrongFalsely : Prop := presenceFallsRow.holds Try.pinned (OpenSpec.ofChange presenceFallsWrong)

/- THE SECOND FORM. 'bulk': how many values and letters a reading holds, each counted each time it is reached (what is shared counts as often as it is met; a slice's spare places count too). A statement '..UptoSaid' is the law's where the arguments, and the package variables that the reading takes, are together of bulk at most 1048576: NARROWER than '..Said'. Prove '..Said' where nothing that the law and all that it calls make is longer than what came in: it says more and counts as full. Else prove '..UptoSaid'. A law counts once. -/
mutual
def uptoBulk {H : Type} : DataW H → Nat
  | .lit (.string bytes) => bytes.length + 1
  | .lit _ => 1
  | .nil => 1
  | .ptr d => uptoBulk d + 1
  | .slice elems spare => uptoBulkAll elems + uptoBulkAll spare + 1
  | .agg parts => uptoBulkAll parts + 1
  | .iface _ d => uptoBulk d + 1
  | .map entries => uptoBulkEntries entries + 1
  | .held _ => 1
def uptoBulkAll {H : Type} : List (DataW H) → Nat
  | [] => 0
  | d :: r => uptoBulk d + uptoBulkAll r
def uptoBulkEntries {H : Type} : List (Lit × DataW H) → Nat
  | [] => 0
  | x :: r => uptoBulkEntry x + uptoBulkEntries r
def uptoBulkEntry {H : Type} : Lit × DataW H → Nat
  | (.string bytes, d) => bytes.length + uptoBulk d + 1
  | (_, d) => uptoBulk d + 1
 end
def uptoSmall : (H : Type) → List (DataW H) → Bool := fun _ ds => decide (uptoBulkAll ds ≤ 1048576)
def OpenSpec.upto (s : _root_.Go.ChangeSpec) : _root_.Go.OpenSpec := { _root_.Go.OpenSpec.ofChange s with cond := some uptoSmall }

/-- 'concourselaw15.PresenceApart', WHERE WHAT IT READS IS OF BULK AT MOST 1048576: true; the input reads as it did. -/
def presenceApartUptoRow : OpenClaim := { program := "ytegmafgodoikiaa", sum := "202fbdbb20dfa06878e09a721ffa47a8240b4bb8a25a199d7ea1fda6dfb21f0a", func := "concourse/concourselaw15.PresenceApart", spec := "presenceApart", inPlace := ["internal/bytealg.IndexByteString", "internal/bytealg.IndexString", "internal/bytealg.Compare", "slices.overlaps[concourse/api.Edu]"], unfollowed := true, recurses := true, named := ["internal/bytealg.MaxLen"], apart := false, narrowed := true }
def PresenceApartUptoSaid : Prop := presenceApartUptoRow.holds Try.pinned (OpenSpec.upto presenceApartSpec)

/-- 'concourselaw15.PresenceFalls', WHERE WHAT IT READS IS OF BULK AT MOST 1048576: true; the input reads as it did. -/
def presenceFallsUptoRow : OpenClaim := { program := "ytegmafgodoikiaa", sum := "202fbdbb20dfa06878e09a721ffa47a8240b4bb8a25a199d7ea1fda6dfb21f0a", func := "concourse/concourselaw15.PresenceFalls", spec := "presenceFalls", inPlace := ["internal/bytealg.IndexByteString", "internal/bytealg.IndexString", "internal/bytealg.Compare", "slices.overlaps[concourse/api.Edu]"], unfollowed := true, recurses := true, named := ["internal/bytealg.MaxLen"], apart := false, narrowed := true }
def PresenceFallsUptoSaid : Prop := presenceFallsUptoRow.holds Try.pinned (OpenSpec.upto presenceFallsSpec)

end Rows
end Go.Proofs.Ytegmafgodoikiaa
