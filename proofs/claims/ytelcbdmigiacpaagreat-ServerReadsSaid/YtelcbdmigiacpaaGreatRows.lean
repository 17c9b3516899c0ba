/-
  No cell of these rows narrows 'for every input' (looked for: loops, veiled, ifaces, maps, wideKeys, modest, calm, conditions, laid).
  DERIVED. THE GIVEN ROWS OF THIS SEAT. 2 by the template 'for every input the law returns true; each argument reads behind the call as it read before'; 0 by the template 'total and deterministic' (their statements: YtelcbdmigiacpaaGreatTotals.lean).
  GIVEN WITH THE SEED: the statements are not yours to turn. If you find one false, say at which input.
  Laid BY PROGRAM, IN A SANDBOX (cutbox-rows.mjs): the forced cells as the released guide's own fill.sh prints them over the translation e895075c5af2345e… (all of the seat's roots in one cut). By AI agents, Wed Nov 11 2026. No macro, syntax, notation, axiom, sorry.
-/
import Derived.Test.YtelcbdmigiacpaaGreatChecked
import GoSem.Claim
import GoSem.ClaimJoined
import GoSem.ClaimMapViews
import Derived.JoinedTies
import Derived.KernelRfl
namespace Go.Proofs.YtelcbdmigiacpaaGreat
/- THE CELL 'sum', in the pinned program and in every row, IS THE sha256 OF THE DUMP (.gsa) THAT YtelcbdmigiacpaaGreatProg.lean LOADS. Nothing in Lean hashes anything: it is a label: what it is worth is what the hold of that sum in a sandbox is worth. -/
noncomputable def Tryz.pinned : Pinned := { name := "ytelcbdmigiacpaagreat", sum := "e895075c5af2345e1c6590c11f40aff4c293a6044ad838361496af1a8391e972", checked := Tryz.checked }
namespace Rows
def none {H : Type} : Left H := { results := [], args := [] }

/-- 'concourselaw22.ServerNews': WHATEVER THE INPUT: true; the input reads as it did. -/
def serverNewsSpec : ChangeSpec := { name := "serverNews", fn := fun _ => fun
  | [d1, d2, d3] => { results := [.lit (.bool true)], args := [d1, d2, d3] }
  | _ => none }
def serverNewsRow : OpenClaim := { program := "ytelcbdmigiacpaagreat", sum := "e895075c5af2345e1c6590c11f40aff4c293a6044ad838361496af1a8391e972", func := "concourse/concourselaw22.ServerNews", spec := "serverNews", inPlace := ["internal/bytealg.IndexByteString", "sync/atomic.StoreInt64", "sync/atomic.LoadInt64", "internal/bytealg.IndexString", "internal/abi.NoEscape", "internal/bytealg.MakeNoZero", "sync/atomic.CompareAndSwapInt64", "internal/bytealg.Compare", "slices.overlaps[concourse/api.Edu]"], unfollowed := true, recurses := true, named := ["internal/bytealg.MaxLen"], plainKeys := false, apart := false }
def ServerNewsSaid : Prop := serverNewsRow.holds Tryz.pinned (OpenSpec.ofChange serverNewsSpec)

/-- ITS FALSE NEIGHBOUR: 'it returns false'. Refute it at one input. -/
def serverNewsWrong : ChangeSpec := { name := "serverNews", fn := fun _ => fun
  | [d1, d2, d3] => { results := [.lit (.bool false)], args := [d1, d2, d3] }
  | _ => none }
def ServerNewsWrongFalsely : Prop := serverNewsRow.holds Tryz.pinned (OpenSpec.ofChange serverNewsWrong)

/-- 'concourselaw22.ServerReads': WHATEVER THE INPUT: true; the input reads as it did. -/
def serverReadsSpec : ChangeSpec := { name := "serverReads", fn := fun _ => fun
  | [d1, d2, d3] => { results := [.lit (.bool true)], args := [d1, d2, d3] }
  | _ => none }
def serverReadsRow : OpenClaim := { program := "ytelcbdmigiacpaagreat", sum := "e895075c5af2345e1c6590c11f40aff4c293a6044ad838361496af1a8391e972", func := "concourse/concourselaw22.ServerReads", spec := "serverReads", inPlace := ["internal/bytealg.IndexByteString", "sync/atomic.StoreInt64", "internal/bytealg.IndexString", "internal/abi.NoEscape", "internal/bytealg.MakeNoZero", "sync/atomic.LoadInt64", "sync/atomic.CompareAndSwapInt64", "internal/bytealg.Compare", "slices.overlaps[concourse/api.Edu]"], unfollowed := true, recurses := true, named := ["internal/bytealg.MaxLen"], plainKeys := false, apart := false }
def ServerReadsSaid : Prop := serverReadsRow.holds Tryz.pinned (OpenSpec.ofChange serverReadsSpec)

/-- ITS FALSE NEIGHBOUR: 'it returns false'. Refute it at one input. -/
def serverReadsWrong : ChangeSpec := { name := "serverReads", fn := fun _ => fun
  | [d1, d2, d3] => { results := [.lit (.bool false)], args := [d1, d2, d3] }
  | _ => none }
def ServerReadsWrongFalsely : Prop := serverReadsRow.holds Tryz.pinned (OpenSpec.ofChange serverReadsWrong)

/- THE SECOND FORM. 'bulk': how many values and letters a reading holds, each counted each time it is reached (what is shared counts as often as it is met; a slice's spare places count too). A statement '..UptoSaid' is the law's where the arguments, and the package variables that the reading takes, are together of bulk at most 1048576: NARROWER than '..Said'. Prove '..Said' where nothing that the law and all that it calls make is longer than what came in: it says more and counts as full. Else prove '..UptoSaid'. A law counts once. -/
mutual
def uptoBulk {H : Type} : DataW H → Nat
  | .lit (.string bytes) => bytes.length + 1
  | .lit _ => 1
  | .nil => 1
  | .ptr d => uptoBulk d + 1
  | .slice elems spare => uptoBulkAll elems + uptoBulkAll spare + 1
  | .agg parts => uptoBulkAll parts + 1
  | .iface _ d => uptoBulk d + 1
  | .map entries => uptoBulkEntries entries + 1
  | .held _ => 1
def uptoBulkAll {H : Type} : List (DataW H) → Nat
  | [] => 0
  | d :: r => uptoBulk d + uptoBulkAll r
def uptoBulkEntries {H : Type} : List (Lit × DataW H) → Nat
  | [] => 0
  | x :: r => uptoBulkEntry x + uptoBulkEntries r
def uptoBulkEntry {H : Type} : Lit × DataW H → Nat
  | (.string bytes, d) => bytes.length + uptoBulk d + 1
  | (_, d) => uptoBulk d + 1
 end
def uptoSmall : (H : Type) → List (DataW H) → Bool := fun _ ds => decide (uptoBulkAll ds ≤ 1048576)
def OpenSpec.upto (s : _root_.Go.ChangeSpec) : _root_.Go.OpenSpec := { _root_.Go.OpenSpec.ofChange s with cond := some uptoSmall }

/-- 'concourselaw22.ServerNews', WHERE WHAT IT READS IS OF BULK AT MOST 1048576: true; the input reads as it did. -/
def serverNewsUptoRow : OpenClaim := { program := "ytelcbdmigiacpaagreat", sum := "e895075c5af2345e1c6590c11f40aff4c293a6044ad838361496af1a8391e972", func := "concourse/concourselaw22.ServerNews", spec := "serverNews", inPlace := ["internal/bytealg.IndexByteString", "sync/atomic.StoreInt64", "sync/atomic.LoadInt64", "internal/bytealg.IndexString", "internal/abi.NoEscape", "internal/bytealg.MakeNoZero", "sync/atomic.CompareAndSwapInt64", "internal/bytealg.Compare", "slices.overlaps[concourse/api.Edu]"], unfollowed := true, recurses := true, named := ["internal/bytealg.MaxLen"], plainKeys := false, apart := false, narrowed := true }
def ServerNewsUptoSaid : Prop := serverNewsUptoRow.holds Tryz.pinned (OpenSpec.upto serverNewsSpec)

/-- 'concourselaw22.ServerReads', WHERE WHAT IT READS IS OF BULK AT MOST 1048576: true; the input reads as it did. -/
def serverReadsUptoRow : OpenClaim := { program := "ytelcbdmigiacpaagreat", sum := "e895075c5af2345e1c6590c11f40aff4c293a6044ad838361496af1a8391e972", func := "concourse/concourselaw22.ServerReads", spec := "serverReads", inPlace := ["internal/bytealg.IndexByteString", "sync/atomic.StoreInt64", "internal/bytealg.IndexString", "internal/abi.NoEscape", "internal/bytealg.MakeNoZero", "sync/atomic.LoadInt64", "sync/atomic.CompareAndSwapInt64", "internal/bytealg.Compare", "slices.overlaps[concourse/api.Edu]"], unfollowed := true, recurses := true, named := ["internal/bytealg.MaxLen"], plainKeys := false, apart := false, narrowed := true }
def ServerReadsUptoSaid : Prop := serverReadsUptoRow.holds Tryz.pinned (OpenSpec.upto serverReadsSpec)

end Rows
end Go.Proofs.YtelcbdmigiacpaaGreat
