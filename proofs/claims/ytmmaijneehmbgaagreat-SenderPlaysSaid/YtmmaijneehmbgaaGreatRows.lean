/-
  No cell of these rows narrows 'for every input' (looked for: loops, veiled, ifaces, maps, wideKeys, modest, calm, conditions, laid).
  DERIVED. THE GIVEN ROWS OF THIS SEAT. 6 by the template 'for every input the law returns true; each argument reads behind the call as it read before'; 0 by the template 'total and deterministic' (their statements: YtmmaijneehmbgaaGreatTotals.lean).
  GIVEN WITH THE SEED: the statements are not yours to turn. If you find one false, say at which input.
  Laid BY PROGRAM, IN A SANDBOX (cutbox-rows.mjs): the forced cells as the released guide's own fill.sh prints them over the translation 165e46222c68414c… (all of the seat's roots in one cut). By AI agents, Wed Nov 11 2026. No macro, syntax, notation, axiom, sorry.
-/
import Derived.Test.YtmmaijneehmbgaaGreatChecked
import GoSem.Claim
import GoSem.ClaimJoined
import GoSem.ClaimMapViews
import Derived.JoinedTies
import Derived.KernelRfl
namespace Go.Proofs.YtmmaijneehmbgaaGreat
/- THE CELL 'sum', in the pinned program and in every row, IS THE sha256 OF THE DUMP (.gsa) THAT YtmmaijneehmbgaaGreatProg.lean LOADS. Nothing in Lean hashes anything: it is a label: what it is worth is what the hold of that sum in a sandbox is worth. -/
noncomputable def Tryz.pinned : Pinned := { name := "ytmmaijneehmbgaagreat", sum := "165e46222c68414c4295e4c736316d2d571e4a3d25781714f4b7497aa08f7825", checked := Tryz.checked }
namespace Rows
def none {H : Type} : Left H := { results := [], args := [] }

/-- 'concourselaw18.SenderGates': WHATEVER THE INPUT: true; the input reads as it did. -/
def senderGatesSpec : ChangeSpec := { name := "senderGates", fn := fun _ => fun
  | [d1, d2, d3, d4] => { results := [.lit (.bool true)], args := [d1, d2, d3, d4] }
  | _ => none }
def senderGatesRow : OpenClaim := { program := "ytmmaijneehmbgaagreat", sum := "165e46222c68414c4295e4c736316d2d571e4a3d25781714f4b7497aa08f7825", func := "concourse/concourselaw18.SenderGates", spec := "senderGates", inPlace := ["internal/bytealg.IndexByteString", "sync/atomic.StoreInt64", "internal/bytealg.IndexString", "internal/bytealg.Compare", "sync/atomic.LoadInt64", "sync/atomic.CompareAndSwapInt64"], unfollowed := true, recurses := true, named := ["internal/bytealg.MaxLen"], plainKeys := false, apart := false }
def SenderGatesSaid : Prop := senderGatesRow.holds Tryz.pinned (OpenSpec.ofChange senderGatesSpec)

/-- ITS FALSE NEIGHBOUR: 'it returns false'. Refute it at one input. -/
def senderGatesWrong : ChangeSpec := { name := "senderGates", fn := fun _ => fun
  | [d1, d2, d3, d4] => { results := [.lit (.bool false)], args := [d1, d2, d3, d4] }
  | _ => none }
def SenderGatesWrongFalsely : Prop := senderGatesRow.holds Tryz.pinned (OpenSpec.ofChange senderGatesWrong)

/-- 'concourselaw18.SenderNews': WHATEVER THE INPUT: true; the input reads as it did. -/
def senderNewsSpec : ChangeSpec := { name := "senderNews", fn := fun _ => fun
  | [d1, d2, d3, d4] => { results := [.lit (.bool true)], args := [d1, d2, d3, d4] }
  | _ => none }
def senderNewsRow : OpenClaim := { program := "ytmmaijneehmbgaagreat", sum := "165e46222c68414c4295e4c736316d2d571e4a3d25781714f4b7497aa08f7825", func := "concourse/concourselaw18.SenderNews", spec := "senderNews", inPlace := ["internal/bytealg.IndexByteString", "sync/atomic.StoreInt64", "internal/bytealg.IndexString", "internal/bytealg.Compare", "sync/atomic.LoadInt64", "sync/atomic.CompareAndSwapInt64"], unfollowed := true, recurses := true, named := ["internal/bytealg.MaxLen"], plainKeys := false, apart := false }
def SenderNewsSaid : Prop := senderNewsRow.holds Tryz.pinned (OpenSpec.ofChange senderNewsSpec)

/-- ITS FALSE NEIGHBOUR: 'it returns false'. Refute it at one input. -/
def senderNewsWrong : ChangeSpec := { name := "senderNews", fn := fun _ => fun
  | [d1, d2, d3, d4] => { results := [.lit (.bool false)], args := [d1, d2, d3, d4] }
  | _ => none }
def SenderNewsWrongFalsely : Prop := senderNewsRow.holds Tryz.pinned (OpenSpec.ofChange senderNewsWrong)

/-- 'concourselaw18.SenderBatches': WHATEVER THE INPUT: true; the input reads as it did. -/
def senderBatchesSpec : ChangeSpec := { name := "senderBatches", fn := fun _ => fun
  | [d] => { results := [.lit (.bool true)], args := [d] }
  | _ => none }
def senderBatchesRow : OpenClaim := { program := "ytmmaijneehmbgaagreat", sum := "165e46222c68414c4295e4c736316d2d571e4a3d25781714f4b7497aa08f7825", func := "concourse/concourselaw18.SenderBatches", spec := "senderBatches", inPlace := ["internal/bytealg.IndexByteString", "internal/bytealg.IndexString", "sync/atomic.StoreInt64", "internal/bytealg.Compare", "sync/atomic.LoadInt64", "sync/atomic.CompareAndSwapInt64"], unfollowed := true, recurses := true, named := ["internal/bytealg.MaxLen"], plainKeys := false, apart := false }
def SenderBatchesSaid : Prop := senderBatchesRow.holds Tryz.pinned (OpenSpec.ofChange senderBatchesSpec)

/-- ITS FALSE NEIGHBOUR: 'it returns false'. Refute it at one input. -/
def senderBatchesWrong : ChangeSpec := { name := "senderBatches", fn := fun _ => fun
  | [d] => { results := [.lit (.bool false)], args := [d] }
  | _ => none }
def SenderBatchesWrongFalsely : Prop := senderBatchesRow.holds Tryz.pinned (OpenSpec.ofChange senderBatchesWrong)

/-- 'concourselaw18.SenderNumbers': WHATEVER THE INPUT: true; the input reads as it did. -/
def senderNumbersSpec : ChangeSpec := { name := "senderNumbers", fn := fun _ => fun
  | [d1, d2, d3] => { results := [.lit (.bool true)], args := [d1, d2, d3] }
  | _ => none }
def senderNumbersRow : OpenClaim := { program := "ytmmaijneehmbgaagreat", sum := "165e46222c68414c4295e4c736316d2d571e4a3d25781714f4b7497aa08f7825", func := "concourse/concourselaw18.SenderNumbers", spec := "senderNumbers", inPlace := ["internal/bytealg.IndexByteString", "internal/bytealg.IndexString", "sync/atomic.StoreInt64", "internal/bytealg.Compare", "sync/atomic.LoadInt64", "sync/atomic.CompareAndSwapInt64"], unfollowed := true, recurses := true, named := ["internal/bytealg.MaxLen"], plainKeys := false, apart := false }
def SenderNumbersSaid : Prop := senderNumbersRow.holds Tryz.pinned (OpenSpec.ofChange senderNumbersSpec)

/-- ITS FALSE NEIGHBOUR: 'it returns false'. Refute it at one input. -/
def senderNumbersWrong : ChangeSpec := { name := "senderNumbers", fn := fun _ => fun
  | [d1, d2, d3] => { results := [.lit (.bool false)], args := [d1, d2, d3] }
  | _ => none }
def SenderNumbersWrongFalsely : Prop := senderNumbersRow.holds Tryz.pinned (OpenSpec.ofChange senderNumbersWrong)

/-- 'concourselaw18.SenderWaits': WHATEVER THE INPUT: true; the input reads as it did. -/
def senderWaitsSpec : ChangeSpec := { name := "senderWaits", fn := fun _ => fun
  | [d1, d2] => { results := [.lit (.bool true)], args := [d1, d2] }
  | _ => none }
def senderWaitsRow : OpenClaim := { program := "ytmmaijneehmbgaagreat", sum := "165e46222c68414c4295e4c736316d2d571e4a3d25781714f4b7497aa08f7825", func := "concourse/concourselaw18.SenderWaits", spec := "senderWaits", inPlace := ["internal/bytealg.IndexByteString", "internal/bytealg.IndexString", "sync/atomic.StoreInt64", "internal/bytealg.Compare", "sync/atomic.LoadInt64", "sync/atomic.CompareAndSwapInt64"], unfollowed := true, recurses := true, named := ["internal/bytealg.MaxLen"], plainKeys := false, apart := false }
def SenderWaitsSaid : Prop := senderWaitsRow.holds Tryz.pinned (OpenSpec.ofChange senderWaitsSpec)

/-- ITS FALSE NEIGHBOUR: 'it returns false'. Refute it at one input. -/
def senderWaitsWrong : ChangeSpec := { name := "senderWaits", fn := fun _ => fun
  | [d1, d2] => { results := [.lit (.bool false)], args := [d1, d2] }
  | _ => none }
def SenderWaitsWrongFalsely : Prop := senderWaitsRow.holds Tryz.pinned (OpenSpec.ofChange senderWaitsWrong)

/-- 'concourselaw18.SenderPlays': WHATEVER THE INPUT: true; the input reads as it did. -/
def senderPlaysSpec : ChangeSpec := { name := "senderPlays", fn := fun _ => fun
  | [d1, d2, d3, d4] => { results := [.lit (.bool true)], args := [d1, d2, d3, d4] }
  | _ => none }
def senderPlaysRow : OpenClaim := { program := "ytmmaijneehmbgaagreat", sum := "165e46222c68414c4295e4c736316d2d571e4a3d25781714f4b7497aa08f7825", func := "concourse/concourselaw18.SenderPlays", spec := "senderPlays", inPlace := ["internal/bytealg.IndexByteString", "sync/atomic.StoreInt64", "internal/bytealg.IndexString", "sync/atomic.LoadInt64", "sync/atomic.CompareAndSwapInt64", "internal/bytealg.Compare"], unfollowed := true, recurses := true, named := ["internal/bytealg.MaxLen"], plainKeys := false, apart := false }
def SenderPlaysSaid : Prop := senderPlaysRow.holds Tryz.pinned (OpenSpec.ofChange senderPlaysSpec)

/-- ITS FALSE NEIGHBOUR: 'it returns false'. Refute it at one input. -/
def senderPlaysWrong : ChangeSpec := { name := "senderPlays", fn := fun _ => fun
  | [d1, d2, d3, d4] => { results := [.lit (.bool false)], args := [d1, d2, d3, d4] }
  | _ => none }
def SenderPlaysWrongFalsely : Prop := senderPlaysRow.holds Tryz.pinned (OpenSpec.ofChange senderPlaysWrong)

/- THE SECOND FORM. 'bulk': how many values and letters a reading holds, each counted each time it is reached (what is shared counts as often as it is met; a slice's spare places count too). A statement '..UptoSaid' is the law's where the arguments, and the package variables that the reading takes, are together of bulk at most 1048576: NARROWER than '..Said'. Prove '..Said' where nothing that the law and all that it calls make is longer than what came in: it says more and counts as full. Else prove '..UptoSaid'. A law counts once. -/
mutual
def uptoBulk {H : Type} : DataW H → Nat
  | .lit (.string bytes) => bytes.length + 1
  | .lit _ => 1
  | .nil => 1
  | .ptr d => uptoBulk d + 1
  | .slice elems spare => uptoBulkAll elems + uptoBulkAll spare + 1
  | .agg parts => uptoBulkAll parts + 1
  | .iface _ d => uptoBulk d + 1
  | .map entries => uptoBulkEntries entries + 1
  | .held _ => 1
def uptoBulkAll {H : Type} : List (DataW H) → Nat
  | [] => 0
  | d :: r => uptoBulk d + uptoBulkAll r
def uptoBulkEntries {H : Type} : List (Lit × DataW H) → Nat
  | [] => 0
  | x :: r => uptoBulkEntry x + uptoBulkEntries r
def uptoBulkEntry {H : Type} : Lit × DataW H → Nat
  | (.string bytes, d) => bytes.length + uptoBulk d + 1
  | (_, d) => uptoBulk d + 1
 end
def uptoSmall : (H : Type) → List (DataW H) → Bool := fun _ ds => decide (uptoBulkAll ds ≤ 1048576)
def OpenSpec.upto (s : _root_.Go.ChangeSpec) : _root_.Go.OpenSpec := { _root_.Go.OpenSpec.ofChange s with cond := some uptoSmall }

/-- 'concourselaw18.SenderGates', WHERE WHAT IT READS IS OF BULK AT MOST 1048576: true; the input reads as it did. -/
def senderGatesUptoRow : OpenClaim := { program := "ytmmaijneehmbgaagreat", sum := "165e46222c68414c4295e4c736316d2d571e4a3d25781714f4b7497aa08f7825", func := "concourse/concourselaw18.SenderGates", spec := "senderGates", inPlace := ["internal/bytealg.IndexByteString", "sync/atomic.StoreInt64", "internal/bytealg.IndexString", "internal/bytealg.Compare", "sync/atomic.LoadInt64", "sync/atomic.CompareAndSwapInt64"], unfollowed := true, recurses := true, named := ["internal/bytealg.MaxLen"], plainKeys := false, apart := false, narrowed := true }
def SenderGatesUptoSaid : Prop := senderGatesUptoRow.holds Tryz.pinned (OpenSpec.upto senderGatesSpec)

/-- 'concourselaw18.SenderNews', WHERE WHAT IT READS IS OF BULK AT MOST 1048576: true; the input reads as it did. -/
def senderNewsUptoRow : OpenClaim := { program := "ytmmaijneehmbgaagreat", sum := "165e46222c68414c4295e4c736316d2d571e4a3d25781714f4b7497aa08f7825", func := "concourse/concourselaw18.SenderNews", spec := "senderNews", inPlace := ["internal/bytealg.IndexByteString", "sync/atomic.StoreInt64", "internal/bytealg.IndexString", "internal/bytealg.Compare", "sync/atomic.LoadInt64", "sync/atomic.CompareAndSwapInt64"], unfollowed := true, recurses := true, named := ["internal/bytealg.MaxLen"], plainKeys := false, apart := false, narrowed := true }
def SenderNewsUptoSaid : Prop := senderNewsUptoRow.holds Tryz.pinned (OpenSpec.upto senderNewsSpec)

/-- 'concourselaw18.SenderBatches', WHERE WHAT IT READS IS OF BULK AT MOST 1048576: true; the input reads as it did. -/
def senderBatchesUptoRow : OpenClaim := { program := "ytmmaijneehmbgaagreat", sum := "165e46222c68414c4295e4c736316d2d571e4a3d25781714f4b7497aa08f7825", func := "concourse/concourselaw18.SenderBatches", spec := "senderBatches", inPlace := ["internal/bytealg.IndexByteString", "internal/bytealg.IndexString", "sync/atomic.StoreInt64", "internal/bytealg.Compare", "sync/atomic.LoadInt64", "sync/atomic.CompareAndSwapInt64"], unfollowed := true, recurses := true, named := ["internal/bytealg.MaxLen"], plainKeys := false, apart := false, narrowed := true }
def SenderBatchesUptoSaid : Prop := senderBatchesUptoRow.holds Tryz.pinned (OpenSpec.upto senderBatchesSpec)

/-- 'concourselaw18.SenderNumbers', WHERE WHAT IT READS IS OF BULK AT MOST 1048576: true; the input reads as it did. -/
def senderNumbersUptoRow : OpenClaim := { program := "ytmmaijneehmbgaagreat", sum := "165e46222c68414c4295e4c736316d2d571e4a3d25781714f4b7497aa08f7825", func := "concourse/concourselaw18.SenderNumbers", spec := "senderNumbers", inPlace := ["internal/bytealg.IndexByteString", "internal/bytealg.IndexString", "sync/atomic.StoreInt64", "internal/bytealg.Compare", "sync/atomic.LoadInt64", "sync/atomic.CompareAndSwapInt64"], unfollowed := true, recurses := true, named := ["internal/bytealg.MaxLen"], plainKeys := false, apart := false, narrowed := true }
def SenderNumbersUptoSaid : Prop := senderNumbersUptoRow.holds Tryz.pinned (OpenSpec.upto senderNumbersSpec)

/-- 'concourselaw18.SenderWaits', WHERE WHAT IT READS IS OF BULK AT MOST 1048576: true; the input reads as it did. -/
def senderWaitsUptoRow : OpenClaim := { program := "ytmmaijneehmbgaagreat", sum := "165e46222c68414c4295e4c736316d2d571e4a3d25781714f4b7497aa08f7825", func := "concourse/concourselaw18.SenderWaits", spec := "senderWaits", inPlace := ["internal/bytealg.IndexByteString", "internal/bytealg.IndexString", "sync/atomic.StoreInt64", "internal/bytealg.Compare", "sync/atomic.LoadInt64", "sync/atomic.CompareAndSwapInt64"], unfollowed := true, recurses := true, named := ["internal/bytealg.MaxLen"], plainKeys := false, apart := false, narrowed := true }
def SenderWaitsUptoSaid : Prop := senderWaitsUptoRow.holds Tryz.pinned (OpenSpec.upto senderWaitsSpec)

/-- 'concourselaw18.SenderPlays', WHERE WHAT IT READS IS OF BULK AT MOST 1048576: true; the input reads as it did. -/
def senderPlaysUptoRow : OpenClaim := { program := "ytmmaijneehmbgaagreat", sum := "165e46222c68414c4295e4c736316d2d571e4a3d25781714f4b7497aa08f7825", func := "concourse/concourselaw18.SenderPlays", spec := "senderPlays", inPlace := ["internal/bytealg.IndexByteString", "sync/atomic.StoreInt64", "internal/bytealg.IndexString", "sync/atomic.LoadInt64", "sync/atomic.CompareAndSwapInt64", "internal/bytealg.Compare"], unfollowed := true, recurses := true, named := ["internal/bytealg.MaxLen"], plainKeys := false, apart := false, narrowed := true }
def SenderPlaysUptoSaid : Prop := senderPlaysUptoRow.holds Tryz.pinned (OpenSpec.upto senderPlaysSpec)

end Rows
end Go.Proofs.YtmmaijneehmbgaaGreat
