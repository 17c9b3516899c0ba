/-
  No cell of these rows narrows 'for every input' (looked for: loops, veiled, ifaces, maps, wideKeys, modest, calm, conditions, laid).
  DERIVED. THE GIVEN ROWS OF THIS SEAT. 5 by the template 'for every input the law returns true; each argument reads behind the call as it read before'; 0 by the template 'total and deterministic' (their statements: YtigmkniiojpdiaaGreatTotals.lean).
  GIVEN WITH THE SEED: the statements are not yours to turn. If you find one false, say at which input.
  Laid BY PROGRAM, IN A SANDBOX (cutbox-rows.mjs): the forced cells as the released guide's own fill.sh prints them over the translation b2a9e08432bbbfce… (all of the seat's roots in one cut). By AI agents, Wed Nov 11 2026. No macro, syntax, notation, axiom, sorry.
-/
import Derived.Test.YtigmkniiojpdiaaGreatChecked
import GoSem.Claim
import GoSem.ClaimJoined
import GoSem.ClaimMapViews
import Derived.JoinedTies
import Derived.KernelRfl
namespace Go.Proofs.YtigmkniiojpdiaaGreat
/- THE CELL 'sum', in the pinned program and in every row, IS THE sha256 OF THE DUMP (.gsa) THAT YtigmkniiojpdiaaGreatProg.lean LOADS. Nothing in Lean hashes anything: it is a label: what it is worth is what the hold of that sum in a sandbox is worth. -/
noncomputable def Tryz.pinned : Pinned := { name := "ytigmkniiojpdiaagreat", sum := "b2a9e08432bbbfce01a0846e4bdc165348a9889c605c136f5509d16becbda0ef", checked := Tryz.checked }
namespace Rows
def none {H : Type} : Left H := { results := [], args := [] }

/-- 'concourselaw10.ViewAdds': WHATEVER THE INPUT: true; the input reads as it did. -/
def viewAddsSpec : ChangeSpec := { name := "viewAdds", fn := fun _ => fun
  | [d1, d2, d3, d4] => { results := [.lit (.bool true)], args := [d1, d2, d3, d4] }
  | _ => none }
def viewAddsRow : OpenClaim := { program := "ytigmkniiojpdiaagreat", sum := "b2a9e08432bbbfce01a0846e4bdc165348a9889c605c136f5509d16becbda0ef", func := "concourse/concourselaw10.ViewAdds", spec := "viewAdds", inPlace := ["internal/bytealg.IndexByteString", "internal/bytealg.IndexString"], unfollowed := true, recurses := true, named := ["internal/bytealg.MaxLen"], apart := false }
def ViewAddsSaid : Prop := viewAddsRow.holds Tryz.pinned (OpenSpec.ofChange viewAddsSpec)

/-- ITS FALSE NEIGHBOUR: 'it returns false'. Refute it at one input. -/
def viewAddsWrong : ChangeSpec := { name := "viewAdds", fn := fun _ => fun
  | [d1, d2, d3, d4] => { results := [.lit (.bool false)], args := [d1, d2, d3, d4] }
  | _ => none }
def ViewAddsWrongFalsely : Prop := viewAddsRow.holds Tryz.pinned (OpenSpec.ofChange viewAddsWrong)

/-- 'concourselaw10.ViewSame': WHATEVER THE INPUT: true; the input reads as it did. -/
def viewSameSpec : ChangeSpec := { name := "viewSame", fn := fun _ => fun
  | [d1, d2, d3] => { results := [.lit (.bool true)], args := [d1, d2, d3] }
  | _ => none }
def viewSameRow : OpenClaim := { program := "ytigmkniiojpdiaagreat", sum := "b2a9e08432bbbfce01a0846e4bdc165348a9889c605c136f5509d16becbda0ef", func := "concourse/concourselaw10.ViewSame", spec := "viewSame", inPlace := ["internal/bytealg.IndexByteString", "internal/bytealg.IndexString"], unfollowed := true, recurses := true, named := ["internal/bytealg.MaxLen"], apart := false }
def ViewSameSaid : Prop := viewSameRow.holds Tryz.pinned (OpenSpec.ofChange viewSameSpec)

/-- ITS FALSE NEIGHBOUR: 'it returns false'. Refute it at one input. -/
def viewSameWrong : ChangeSpec := { name := "viewSame", fn := fun _ => fun
  | [d1, d2, d3] => { results := [.lit (.bool false)], args := [d1, d2, d3] }
  | _ => none }
def ViewSameWrongFalsely : Prop := viewSameRow.holds Tryz.pinned (OpenSpec.ofChange viewSameWrong)

/-- 'concourselaw10.ViewOrder': WHATEVER THE INPUT: true; the input reads as it did. -/
def viewOrderSpec : ChangeSpec := { name := "viewOrder", fn := fun _ => fun
  | [d1, d2] => { results := [.lit (.bool true)], args := [d1, d2] }
  | _ => none }
def viewOrderRow : OpenClaim := { program := "ytigmkniiojpdiaagreat", sum := "b2a9e08432bbbfce01a0846e4bdc165348a9889c605c136f5509d16becbda0ef", func := "concourse/concourselaw10.ViewOrder", spec := "viewOrder", inPlace := ["internal/bytealg.IndexByteString", "internal/bytealg.IndexString"], unfollowed := true, recurses := true, named := ["internal/bytealg.MaxLen"], apart := false }
def ViewOrderSaid : Prop := viewOrderRow.holds Tryz.pinned (OpenSpec.ofChange viewOrderSpec)

/-- ITS FALSE NEIGHBOUR: 'it returns false'. Refute it at one input. -/
def viewOrderWrong : ChangeSpec := { name := "viewOrder", fn := fun _ => fun
  | [d1, d2] => { results := [.lit (.bool false)], args := [d1, d2] }
  | _ => none }
def ViewOrderWrongFalsely : Prop := viewOrderRow.holds Tryz.pinned (OpenSpec.ofChange viewOrderWrong)

/-- 'concourselaw10.ViewAsks': WHATEVER THE INPUT: true; the input reads as it did. -/
def viewAsksSpec : ChangeSpec := { name := "viewAsks", fn := fun _ => fun
  | [d1, d2, d3, d4, d5] => { results := [.lit (.bool true)], args := [d1, d2, d3, d4, d5] }
  | _ => none }
def viewAsksRow : OpenClaim := { program := "ytigmkniiojpdiaagreat", sum := "b2a9e08432bbbfce01a0846e4bdc165348a9889c605c136f5509d16becbda0ef", func := "concourse/concourselaw10.ViewAsks", spec := "viewAsks", inPlace := ["internal/bytealg.IndexByteString", "internal/bytealg.IndexString"], unfollowed := true, recurses := true, named := ["internal/bytealg.MaxLen"], apart := false }
def ViewAsksSaid : Prop := viewAsksRow.holds Tryz.pinned (OpenSpec.ofChange viewAsksSpec)

/-- ITS FALSE NEIGHBOUR: 'it returns false'. Refute it at one input. -/
def viewAsksWrong : ChangeSpec := { name := "viewAsks", fn := fun _ => fun
  | [d1, d2, d3, d4, d5] => { results := [.lit (.bool false)], args := [d1, d2, d3, d4, d5] }
  | _ => none }
def ViewAsksWrongFalsely : Prop := viewAsksRow.holds Tryz.pinned (OpenSpec.ofChange viewAsksWrong)

/-- 'concourselaw10.ViewShares': WHATEVER THE INPUT: true; the input reads as it did. -/
def viewSharesSpec : ChangeSpec := { name := "viewShares", fn := fun _ => fun
  | [d1, d2, d3, d4] => { results := [.lit (.bool true)], args := [d1, d2, d3, d4] }
  | _ => none }
def viewSharesRow : OpenClaim := { program := "ytigmkniiojpdiaagreat", sum := "b2a9e08432bbbfce01a0846e4bdc165348a9889c605c136f5509d16becbda0ef", func := "concourse/concourselaw10.ViewShares", spec := "viewShares", inPlace := ["internal/bytealg.IndexByteString", "internal/bytealg.IndexString"], unfollowed := true, recurses := true, named := ["internal/bytealg.MaxLen"], apart := false }
def ViewSharesSaid : Prop := viewSharesRow.holds Tryz.pinned (OpenSpec.ofChange viewSharesSpec)

/-- ITS FALSE NEIGHBOUR: 'it returns false'. Refute it at one input. -/
def viewSharesWrong : ChangeSpec := { name := "viewShares", fn := fun _ => fun
  | [d1, d2, d3, d4] => { results := [.lit (.bool false)], args := [d1, d2, d3, d4] }
  | _ => none }
def ViewSharesWrongFalsely : Prop := viewSharesRow.holds Tryz.pinned (OpenSpec.ofChange viewSharesWrong)

/- THE SECOND FORM. 'bulk': how many values and letters a reading holds, each counted each time it is reached (what is shared counts as often as it is met; a slice's spare places count too). A statement '..UptoSaid' is the law's where the arguments, and the package variables that the reading takes, are together of bulk at most 1048576: NARROWER than '..Said'. Prove '..Said' where nothing that the law and all that it calls make is longer than what came in: it says more and counts as full. Else prove '..UptoSaid'. A law counts once. -/
mutual
def uptoBulk {H : Type} : DataW H → Nat
  | .lit (.string bytes) => bytes.length + 1
  | .lit _ => 1
  | .nil => 1
  | .ptr d => uptoBulk d + 1
  | .slice elems spare => uptoBulkAll elems + uptoBulkAll spare + 1
  | .agg parts => uptoBulkAll parts + 1
  | .iface _ d => uptoBulk d + 1
  | .map entries => uptoBulkEntries entries + 1
  | .held _ => 1
def uptoBulkAll {H : Type} : List (DataW H) → Nat
  | [] => 0
  | d :: r => uptoBulk d + uptoBulkAll r
def uptoBulkEntries {H : Type} : List (Lit × DataW H) → Nat
  | [] => 0
  | x :: r => uptoBulkEntry x + uptoBulkEntries r
def uptoBulkEntry {H : Type} : Lit × DataW H → Nat
  | (.string bytes, d) => bytes.length + uptoBulk d + 1
  | (_, d) => uptoBulk d + 1
 end
def uptoSmall : (H : Type) → List (DataW H) → Bool := fun _ ds => decide (uptoBulkAll ds ≤ 1048576)
def OpenSpec.upto (s : _root_.Go.ChangeSpec) : _root_.Go.OpenSpec := { _root_.Go.OpenSpec.ofChange s with cond := some uptoSmall }

/-- 'concourselaw10.ViewAdds', WHERE WHAT IT READS IS OF BULK AT MOST 1048576: true; the input reads as it did. -/
def viewAddsUptoRow : OpenClaim := { program := "ytigmkniiojpdiaagreat", sum := "b2a9e08432bbbfce01a0846e4bdc165348a9889c605c136f5509d16becbda0ef", func := "concourse/concourselaw10.ViewAdds", spec := "viewAdds", inPlace := ["internal/bytealg.IndexByteString", "internal/bytealg.IndexString"], unfollowed := true, recurses := true, named := ["internal/bytealg.MaxLen"], apart := false, narrowed := true }
def ViewAddsUptoSaid : Prop := viewAddsUptoRow.holds Tryz.pinned (OpenSpec.upto viewAddsSpec)

/-- 'concourselaw10.ViewSame', WHERE WHAT IT READS IS OF BULK AT MOST 1048576: true; the input reads as it did. -/
def viewSameUptoRow : OpenClaim := { program := "ytigmkniiojpdiaagreat", sum := "b2a9e08432bbbfce01a0846e4bdc165348a9889c605c136f5509d16becbda0ef", func := "concourse/concourselaw10.ViewSame", spec := "viewSame", inPlace := ["internal/bytealg.IndexByteString", "internal/bytealg.IndexString"], unfollowed := true, recurses := true, named := ["internal/bytealg.MaxLen"], apart := false, narrowed := true }
def ViewSameUptoSaid : Prop := viewSameUptoRow.holds Tryz.pinned (OpenSpec.upto viewSameSpec)

/-- 'concourselaw10.ViewOrder', WHERE WHAT IT READS IS OF BULK AT MOST 1048576: true; the input reads as it did. -/
def viewOrderUptoRow : OpenClaim := { program := "ytigmkniiojpdiaagreat", sum := "b2a9e08432bbbfce01a0846e4bdc165348a9889c605c136f5509d16becbda0ef", func := "concourse/concourselaw10.ViewOrder", spec := "viewOrder", inPlace := ["internal/bytealg.IndexByteString", "internal/bytealg.IndexString"], unfollowed := true, recurses := true, named := ["internal/bytealg.MaxLen"], apart := false, narrowed := true }
def ViewOrderUptoSaid : Prop := viewOrderUptoRow.holds Tryz.pinned (OpenSpec.upto viewOrderSpec)

/-- 'concourselaw10.ViewAsks', WHERE WHAT IT READS IS OF BULK AT MOST 1048576: true; the input reads as it did. -/
def viewAsksUptoRow : OpenClaim := { program := "ytigmkniiojpdiaagreat", sum := "b2a9e08432bbbfce01a0846e4bdc165348a9889c605c136f5509d16becbda0ef", func := "concourse/concourselaw10.ViewAsks", spec := "viewAsks", inPlace := ["internal/bytealg.IndexByteString", "internal/bytealg.IndexString"], unfollowed := true, recurses := true, named := ["internal/bytealg.MaxLen"], apart := false, narrowed := true }
def ViewAsksUptoSaid : Prop := viewAsksUptoRow.holds Tryz.pinned (OpenSpec.upto viewAsksSpec)

/-- 'concourselaw10.ViewShares', WHERE WHAT IT READS IS OF BULK AT MOST 1048576: true; the input reads as it did. -/
def viewSharesUptoRow : OpenClaim := { program := "ytigmkniiojpdiaagreat", sum := "b2a9e08432bbbfce01a0846e4bdc165348a9889c605c136f5509d16becbda0ef", func := "concourse/concourselaw10.ViewShares", spec := "viewShares", inPlace := ["internal/bytealg.IndexByteString", "internal/bytealg.IndexString"], unfollowed := true, recurses := true, named := ["internal/bytealg.MaxLen"], apart := false, narrowed := true }
def ViewSharesUptoSaid : Prop := viewSharesUptoRow.holds Tryz.pinned (OpenSpec.upto viewSharesSpec)

end Rows
end Go.Proofs.YtigmkniiojpdiaaGreat
