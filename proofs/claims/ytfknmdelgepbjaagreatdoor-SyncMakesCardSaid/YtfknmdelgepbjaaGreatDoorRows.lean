/-
  NARROWER THAN 'FOR EVERY INPUT', by the rows' own cells (each row's printed sentence says how): SyncMakes: laid · SyncSteps: laid · SyncSees: laid · SyncSecret: laid · SyncSame: laid.
  DERIVED. THE GIVEN ROWS OF THIS SEAT. 5 by the template 'for every input the law returns true; each argument reads behind the call as it read before'; 0 by the template 'total and deterministic' (their statements: YtfknmdelgepbjaaGreatDoorTotals.lean).
  GIVEN WITH THE SEED: the statements are not yours to turn. If you find one false, say at which input.
  Laid BY PROGRAM, IN A SANDBOX (cutbox-rows.mjs): the forced cells as the released guide's own fill.sh prints them over the translation 89004848145d7926… (all of the seat's roots in one cut). By AI agents, Wed Nov 11 2026. No macro, syntax, notation, axiom, sorry.
-/
import Derived.Test.YtfknmdelgepbjaaGreatDoorChecked
import GoSem.PinnedTables
import GoSem.Claim
import GoSem.ClaimJoined
import GoSem.ClaimMapViews
import Derived.JoinedTies
import Derived.KernelRfl
namespace Go.Proofs.YtfknmdelgepbjaaGreatDoor
/- THE CELL 'sum', in the pinned program and in every row, IS THE sha256 OF THE DUMP (.gsa) THAT YtfknmdelgepbjaaGreatDoorProg.lean LOADS. Nothing in Lean hashes anything: it is a label: what it is worth is what the hold of that sum in a sandbox is worth. -/
noncomputable def Tryz.pinned : Pinned := { name := "ytfknmdelgepbjaagreatdoor", sum := "89004848145d7926a873d3ae7e3c82ae7440bdcdb01bd710188c9fba20334cae", checked := Tryz.checked }
namespace Rows
def none {H : Type} : Left H := { results := [], args := [] }

/- WHAT THE LISTED PACKAGE-LEVEL VARIABLES READ AS WHEN THE CALL BEGINS. Each datum BY PROGRAM (the guide's laid-datum.mjs) off the statement by which the dump's own 'gosem.cut.vars' lays the variable. In a bare row this is a premise. The card (YtfknmdelgepbjaaGreatDoorCards.lean) ties it to the program's text. -/
def laid_unicode_utf8_acceptRanges {H : Type} : DataW H := .agg [.agg [.lit (.int .u8 128), .lit (.int .u8 191)], .agg [.lit (.int .u8 160), .lit (.int .u8 191)], .agg [.lit (.int .u8 128), .lit (.int .u8 159)], .agg [.lit (.int .u8 144), .lit (.int .u8 191)], .agg [.lit (.int .u8 128), .lit (.int .u8 143)], .agg [.lit (.int .u8 0), .lit (.int .u8 0)], .agg [.lit (.int .u8 0), .lit (.int .u8 0)], .agg [.lit (.int .u8 0), .lit (.int .u8 0)], .agg [.lit (.int .u8 0), .lit (.int .u8 0)], .agg [.lit (.int .u8 0), .lit (.int .u8 0)], .agg [.lit (.int .u8 0), .lit (.int .u8 0)], .agg [.lit (.int .u8 0), .lit (.int .u8 0)], .agg [.lit (.int .u8 0), .lit (.int .u8 0)], .agg [.lit (.int .u8 0), .lit (.int .u8 0)], .agg [.lit (.int .u8 0), .lit (.int .u8 0)], .agg [.lit (.int .u8 0), .lit (.int .u8 0)]]
/-- One of Go's own tables, pinned by name: the form's constant. -/
def laid_unicode_utf8_first : DataW Unit := Go.Pinned.utf8First

/-- 'concourselaw21.SyncMakes': WHATEVER THE INPUT: true; the input reads as it did. -/
def syncMakesSpec : ChangeSpec := { name := "syncMakes", fn := fun _ => fun
  | [d1, d2, d3, d4, d5, d6, d7] => { results := [.lit (.bool true)], args := [d1, d2, d3, d4, d5, d6, d7] }
  | _ => none }
def syncMakesRow : OpenClaim := { program := "ytfknmdelgepbjaagreatdoor", sum := "89004848145d7926a873d3ae7e3c82ae7440bdcdb01bd710188c9fba20334cae", func := "concourse/concourselaw21.SyncMakes", spec := "syncMakes", inPlace := ["sync/atomic.StoreInt64", "internal/bytealg.IndexByteString", "internal/bytealg.IndexString", "internal/abi.NoEscape", "internal/bytealg.MakeNoZero", "internal/bytealg.Compare", "slices.overlaps[concourse/api.Edu]", "sync/atomic.LoadInt64", "sync/atomic.CompareAndSwapInt64", "internal/bytealg.CountString"], unfollowed := true, recurses := true, named := ["internal/bytealg.MaxLen", "unicode/utf8.first", "unicode/utf8.acceptRanges"], plainKeys := false, apart := false, laid := [("unicode/utf8.acceptRanges", laid_unicode_utf8_acceptRanges), ("unicode/utf8.first", laid_unicode_utf8_first)] }
def SyncMakesSaid : Prop := syncMakesRow.holds Tryz.pinned (OpenSpec.ofChange syncMakesSpec)

/-- ITS FALSE NEIGHBOUR: 'it returns false'. Refute it at one input. -/
def syncMakesWrong : ChangeSpec := { name := "syncMakes", fn := fun _ => fun
  | [d1, d2, d3, d4, d5, d6, d7] => { results := [.lit (.bool false)], args := [d1, d2, d3, d4, d5, d6, d7] }
  | _ => none }
def SyncMakesWrongFalsely : Prop := syncMakesRow.holds Tryz.pinned (OpenSpec.ofChange syncMakesWrong)

/-- 'concourselaw21.SyncSteps': WHATEVER THE INPUT: true; the input reads as it did. -/
def syncStepsSpec : ChangeSpec := { name := "syncSteps", fn := fun _ => fun
  | [d1, d2, d3, d4, d5, d6] => { results := [.lit (.bool true)], args := [d1, d2, d3, d4, d5, d6] }
  | _ => none }
def syncStepsRow : OpenClaim := { program := "ytfknmdelgepbjaagreatdoor", sum := "89004848145d7926a873d3ae7e3c82ae7440bdcdb01bd710188c9fba20334cae", func := "concourse/concourselaw21.SyncSteps", spec := "syncSteps", inPlace := ["sync/atomic.StoreInt64", "internal/bytealg.IndexByteString", "internal/bytealg.IndexString", "internal/abi.NoEscape", "internal/bytealg.MakeNoZero", "internal/bytealg.Compare", "slices.overlaps[concourse/api.Edu]", "sync/atomic.LoadInt64", "sync/atomic.CompareAndSwapInt64", "internal/bytealg.CountString"], unfollowed := true, recurses := true, named := ["internal/bytealg.MaxLen", "unicode/utf8.first", "unicode/utf8.acceptRanges"], plainKeys := false, apart := false, laid := [("unicode/utf8.acceptRanges", laid_unicode_utf8_acceptRanges), ("unicode/utf8.first", laid_unicode_utf8_first)] }
def SyncStepsSaid : Prop := syncStepsRow.holds Tryz.pinned (OpenSpec.ofChange syncStepsSpec)

/-- ITS FALSE NEIGHBOUR: 'it returns false'. Refute it at one input. -/
def syncStepsWrong : ChangeSpec := { name := "syncSteps", fn := fun _ => fun
  | [d1, d2, d3, d4, d5, d6] => { results := [.lit (.bool false)], args := [d1, d2, d3, d4, d5, d6] }
  | _ => none }
def SyncStepsWrongFalsely : Prop := syncStepsRow.holds Tryz.pinned (OpenSpec.ofChange syncStepsWrong)

/-- 'concourselaw21.SyncSees': WHATEVER THE INPUT: true; the input reads as it did. -/
def syncSeesSpec : ChangeSpec := { name := "syncSees", fn := fun _ => fun
  | [d1, d2, d3, d4] => { results := [.lit (.bool true)], args := [d1, d2, d3, d4] }
  | _ => none }
def syncSeesRow : OpenClaim := { program := "ytfknmdelgepbjaagreatdoor", sum := "89004848145d7926a873d3ae7e3c82ae7440bdcdb01bd710188c9fba20334cae", func := "concourse/concourselaw21.SyncSees", spec := "syncSees", inPlace := ["sync/atomic.StoreInt64", "internal/bytealg.IndexByteString", "internal/bytealg.IndexString", "internal/abi.NoEscape", "internal/bytealg.MakeNoZero", "internal/bytealg.Compare", "slices.overlaps[concourse/api.Edu]", "sync/atomic.LoadInt64", "sync/atomic.CompareAndSwapInt64", "internal/bytealg.CountString"], unfollowed := true, recurses := true, named := ["internal/bytealg.MaxLen", "unicode/utf8.first", "unicode/utf8.acceptRanges"], plainKeys := false, apart := false, laid := [("unicode/utf8.acceptRanges", laid_unicode_utf8_acceptRanges), ("unicode/utf8.first", laid_unicode_utf8_first)] }
def SyncSeesSaid : Prop := syncSeesRow.holds Tryz.pinned (OpenSpec.ofChange syncSeesSpec)

/-- ITS FALSE NEIGHBOUR: 'it returns false'. Refute it at one input. -/
def syncSeesWrong : ChangeSpec := { name := "syncSees", fn := fun _ => fun
  | [d1, d2, d3, d4] => { results := [.lit (.bool false)], args := [d1, d2, d3, d4] }
  | _ => none }
def SyncSeesWrongFalsely : Prop := syncSeesRow.holds Tryz.pinned (OpenSpec.ofChange syncSeesWrong)

/-- 'concourselaw21.SyncSecret': WHATEVER THE INPUT: true; the input reads as it did. -/
def syncSecretSpec : ChangeSpec := { name := "syncSecret", fn := fun _ => fun
  | [d1, d2, d3, d4, d5] => { results := [.lit (.bool true)], args := [d1, d2, d3, d4, d5] }
  | _ => none }
def syncSecretRow : OpenClaim := { program := "ytfknmdelgepbjaagreatdoor", sum := "89004848145d7926a873d3ae7e3c82ae7440bdcdb01bd710188c9fba20334cae", func := "concourse/concourselaw21.SyncSecret", spec := "syncSecret", inPlace := ["sync/atomic.StoreInt64", "internal/bytealg.IndexByteString", "internal/bytealg.IndexString", "internal/abi.NoEscape", "internal/bytealg.MakeNoZero", "internal/bytealg.Compare", "slices.overlaps[concourse/api.Edu]", "sync/atomic.LoadInt64", "sync/atomic.CompareAndSwapInt64", "internal/bytealg.CountString"], unfollowed := true, recurses := true, named := ["internal/bytealg.MaxLen", "unicode/utf8.first", "unicode/utf8.acceptRanges"], plainKeys := false, apart := false, laid := [("unicode/utf8.acceptRanges", laid_unicode_utf8_acceptRanges), ("unicode/utf8.first", laid_unicode_utf8_first)] }
def SyncSecretSaid : Prop := syncSecretRow.holds Tryz.pinned (OpenSpec.ofChange syncSecretSpec)

/-- ITS FALSE NEIGHBOUR: 'it returns false'. Refute it at one input. -/
def syncSecretWrong : ChangeSpec := { name := "syncSecret", fn := fun _ => fun
  | [d1, d2, d3, d4, d5] => { results := [.lit (.bool false)], args := [d1, d2, d3, d4, d5] }
  | _ => none }
def SyncSecretWrongFalsely : Prop := syncSecretRow.holds Tryz.pinned (OpenSpec.ofChange syncSecretWrong)

/-- 'concourselaw21.SyncSame': WHATEVER THE INPUT: true; the input reads as it did. -/
def syncSameSpec : ChangeSpec := { name := "syncSame", fn := fun _ => fun
  | [d1, d2, d3, d4, d5, d6] => { results := [.lit (.bool true)], args := [d1, d2, d3, d4, d5, d6] }
  | _ => none }
def syncSameRow : OpenClaim := { program := "ytfknmdelgepbjaagreatdoor", sum := "89004848145d7926a873d3ae7e3c82ae7440bdcdb01bd710188c9fba20334cae", func := "concourse/concourselaw21.SyncSame", spec := "syncSame", inPlace := ["sync/atomic.StoreInt64", "internal/bytealg.IndexByteString", "internal/bytealg.IndexString", "internal/abi.NoEscape", "internal/bytealg.MakeNoZero", "internal/bytealg.Compare", "slices.overlaps[concourse/api.Edu]", "sync/atomic.LoadInt64", "sync/atomic.CompareAndSwapInt64", "internal/bytealg.CountString"], unfollowed := true, recurses := true, named := ["internal/bytealg.MaxLen", "unicode/utf8.first", "unicode/utf8.acceptRanges"], plainKeys := false, apart := false, laid := [("unicode/utf8.acceptRanges", laid_unicode_utf8_acceptRanges), ("unicode/utf8.first", laid_unicode_utf8_first)] }
def SyncSameSaid : Prop := syncSameRow.holds Tryz.pinned (OpenSpec.ofChange syncSameSpec)

/-- ITS FALSE NEIGHBOUR: 'it returns false'. Refute it at one input. -/
def syncSameWrong : ChangeSpec := { name := "syncSame", fn := fun _ => fun
  | [d1, d2, d3, d4, d5, d6] => { results := [.lit (.bool false)], args := [d1, d2, d3, d4, d5, d6] }
  | _ => none }
def SyncSameWrongFalsely : Prop := syncSameRow.holds Tryz.pinned (OpenSpec.ofChange syncSameWrong)

/- THE SECOND FORM. 'bulk': how many values and letters a reading holds, each counted each time it is reached (what is shared counts as often as it is met; a slice's spare places count too). A statement '..UptoSaid' is the law's where the arguments, and the package variables that the reading takes, are together of bulk at most 1048576: NARROWER than '..Said'. Prove '..Said' where nothing that the law and all that it calls make is longer than what came in: it says more and counts as full. Else prove '..UptoSaid'. A law counts once. -/
mutual
def uptoBulk {H : Type} : DataW H → Nat
  | .lit (.string bytes) => bytes.length + 1
  | .lit _ => 1
  | .nil => 1
  | .ptr d => uptoBulk d + 1
  | .slice elems spare => uptoBulkAll elems + uptoBulkAll spare + 1
  | .agg parts => uptoBulkAll parts + 1
  | .iface _ d => uptoBulk d + 1
  | .map entries => uptoBulkEntries entries + 1
  | .held _ => 1
def uptoBulkAll {H : Type} : List (DataW H) → Nat
  | [] => 0
  | d :: r => uptoBulk d + uptoBulkAll r
def uptoBulkEntries {H : Type} : List (Lit × DataW H) → Nat
  | [] => 0
  | x :: r => uptoBulkEntry x + uptoBulkEntries r
def uptoBulkEntry {H : Type} : Lit × DataW H → Nat
  | (.string bytes, d) => bytes.length + uptoBulk d + 1
  | (_, d) => uptoBulk d + 1
 end
def uptoSmall : (H : Type) → List (DataW H) → Bool := fun _ ds => decide (uptoBulkAll ds ≤ 1048576)
def OpenSpec.upto (s : _root_.Go.ChangeSpec) : _root_.Go.OpenSpec := { _root_.Go.OpenSpec.ofChange s with cond := some uptoSmall }

/-- 'concourselaw21.SyncMakes', WHERE WHAT IT READS IS OF BULK AT MOST 1048576: true; the input reads as it did. -/
def syncMakesUptoRow : OpenClaim := { program := "ytfknmdelgepbjaagreatdoor", sum := "89004848145d7926a873d3ae7e3c82ae7440bdcdb01bd710188c9fba20334cae", func := "concourse/concourselaw21.SyncMakes", spec := "syncMakes", inPlace := ["sync/atomic.StoreInt64", "internal/bytealg.IndexByteString", "internal/bytealg.IndexString", "internal/abi.NoEscape", "internal/bytealg.MakeNoZero", "internal/bytealg.Compare", "slices.overlaps[concourse/api.Edu]", "sync/atomic.LoadInt64", "sync/atomic.CompareAndSwapInt64", "internal/bytealg.CountString"], unfollowed := true, recurses := true, named := ["internal/bytealg.MaxLen", "unicode/utf8.first", "unicode/utf8.acceptRanges"], plainKeys := false, apart := false, laid := [("unicode/utf8.acceptRanges", laid_unicode_utf8_acceptRanges), ("unicode/utf8.first", laid_unicode_utf8_first)], narrowed := true }
def SyncMakesUptoSaid : Prop := syncMakesUptoRow.holds Tryz.pinned (OpenSpec.upto syncMakesSpec)

/-- 'concourselaw21.SyncSteps', WHERE WHAT IT READS IS OF BULK AT MOST 1048576: true; the input reads as it did. -/
def syncStepsUptoRow : OpenClaim := { program := "ytfknmdelgepbjaagreatdoor", sum := "89004848145d7926a873d3ae7e3c82ae7440bdcdb01bd710188c9fba20334cae", func := "concourse/concourselaw21.SyncSteps", spec := "syncSteps", inPlace := ["sync/atomic.StoreInt64", "internal/bytealg.IndexByteString", "internal/bytealg.IndexString", "internal/abi.NoEscape", "internal/bytealg.MakeNoZero", "internal/bytealg.Compare", "slices.overlaps[concourse/api.Edu]", "sync/atomic.LoadInt64", "sync/atomic.CompareAndSwapInt64", "internal/bytealg.CountString"], unfollowed := true, recurses := true, named := ["internal/bytealg.MaxLen", "unicode/utf8.first", "unicode/utf8.acceptRanges"], plainKeys := false, apart := false, laid := [("unicode/utf8.acceptRanges", laid_unicode_utf8_acceptRanges), ("unicode/utf8.first", laid_unicode_utf8_first)], narrowed := true }
def SyncStepsUptoSaid : Prop := syncStepsUptoRow.holds Tryz.pinned (OpenSpec.upto syncStepsSpec)

/-- 'concourselaw21.SyncSees', WHERE WHAT IT READS IS OF BULK AT MOST 1048576: true; the input reads as it did. -/
def syncSeesUptoRow : OpenClaim := { program := "ytfknmdelgepbjaagreatdoor", sum := "89004848145d7926a873d3ae7e3c82ae7440bdcdb01bd710188c9fba20334cae", func := "concourse/concourselaw21.SyncSees", spec := "syncSees", inPlace := ["sync/atomic.StoreInt64", "internal/bytealg.IndexByteString", "internal/bytealg.IndexString", "internal/abi.NoEscape", "internal/bytealg.MakeNoZero", "internal/bytealg.Compare", "slices.overlaps[concourse/api.Edu]", "sync/atomic.LoadInt64", "sync/atomic.CompareAndSwapInt64", "internal/bytealg.CountString"], unfollowed := true, recurses := true, named := ["internal/bytealg.MaxLen", "unicode/utf8.first", "unicode/utf8.acceptRanges"], plainKeys := false, apart := false, laid := [("unicode/utf8.acceptRanges", laid_unicode_utf8_acceptRanges), ("unicode/utf8.first", laid_unicode_utf8_first)], narrowed := true }
def SyncSeesUptoSaid : Prop := syncSeesUptoRow.holds Tryz.pinned (OpenSpec.upto syncSeesSpec)

/-- 'concourselaw21.SyncSecret', WHERE WHAT IT READS IS OF BULK AT MOST 1048576: true; the input reads as it did. -/
def syncSecretUptoRow : OpenClaim := { program := "ytfknmdelgepbjaagreatdoor", sum := "89004848145d7926a873d3ae7e3c82ae7440bdcdb01bd710188c9fba20334cae", func := "concourse/concourselaw21.SyncSecret", spec := "syncSecret", inPlace := ["sync/atomic.StoreInt64", "internal/bytealg.IndexByteString", "internal/bytealg.IndexString", "internal/abi.NoEscape", "internal/bytealg.MakeNoZero", "internal/bytealg.Compare", "slices.overlaps[concourse/api.Edu]", "sync/atomic.LoadInt64", "sync/atomic.CompareAndSwapInt64", "internal/bytealg.CountString"], unfollowed := true, recurses := true, named := ["internal/bytealg.MaxLen", "unicode/utf8.first", "unicode/utf8.acceptRanges"], plainKeys := false, apart := false, laid := [("unicode/utf8.acceptRanges", laid_unicode_utf8_acceptRanges), ("unicode/utf8.first", laid_unicode_utf8_first)], narrowed := true }
def SyncSecretUptoSaid : Prop := syncSecretUptoRow.holds Tryz.pinned (OpenSpec.upto syncSecretSpec)

/-- 'concourselaw21.SyncSame', WHERE WHAT IT READS IS OF BULK AT MOST 1048576: true; the input reads as it did. -/
def syncSameUptoRow : OpenClaim := { program := "ytfknmdelgepbjaagreatdoor", sum := "89004848145d7926a873d3ae7e3c82ae7440bdcdb01bd710188c9fba20334cae", func := "concourse/concourselaw21.SyncSame", spec := "syncSame", inPlace := ["sync/atomic.StoreInt64", "internal/bytealg.IndexByteString", "internal/bytealg.IndexString", "internal/abi.NoEscape", "internal/bytealg.MakeNoZero", "internal/bytealg.Compare", "slices.overlaps[concourse/api.Edu]", "sync/atomic.LoadInt64", "sync/atomic.CompareAndSwapInt64", "internal/bytealg.CountString"], unfollowed := true, recurses := true, named := ["internal/bytealg.MaxLen", "unicode/utf8.first", "unicode/utf8.acceptRanges"], plainKeys := false, apart := false, laid := [("unicode/utf8.acceptRanges", laid_unicode_utf8_acceptRanges), ("unicode/utf8.first", laid_unicode_utf8_first)], narrowed := true }
def SyncSameUptoSaid : Prop := syncSameUptoRow.holds Tryz.pinned (OpenSpec.upto syncSameSpec)

end Rows
end Go.Proofs.YtfknmdelgepbjaaGreatDoor
