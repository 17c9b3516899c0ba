/- What arguments are. -/
import Derived.Test.YtmbodanckhidiaaGreatZMir
set_option linter.all false
namespace Go.Proofs.YtmbodanckhidiaaGreat
open Go Go.Sp
def HEnt.ok (x : HEnt) : Prop := (fun n => (Lit.int .i64 n).wf = true) x.fAt ∧ (fun s : ByteArray => s.size ≤ maxLen) x.fKey ∧ True
def Edu.ok (x : Edu) : Prop := (fun n => (Lit.int .i64 n).wf = true) x.fKind ∧ (fun s : ByteArray => s.size ≤ maxLen) x.fRoom ∧ (fun s : ByteArray => s.size ≤ maxLen) x.fUser ∧ (fun s : ByteArray => s.size ≤ maxLen) x.fEvent ∧ (fun s : ByteArray => s.size ≤ maxLen) x.fThread ∧ (fun _ => True) x.fPrivate ∧ (fun _ => True) x.fOn ∧ (fun n => (Lit.int .i64 n).wf = true) x.fSpan ∧ (fun n => (Lit.int .i64 n).wf = true) x.fState ∧ (fun n => (Lit.int .i64 n).wf = true) x.fTick ∧ (fun n => (Lit.int .i64 n).wf = true) x.fStamp ∧ True
def EKey.ok (x : EKey) : Prop := (fun n => (Lit.int .i64 n).wf = true) x.fKind ∧ (fun s : ByteArray => s.size ≤ maxLen) x.fRoom ∧ (fun s : ByteArray => s.size ≤ maxLen) x.fUser ∧ (fun s : ByteArray => s.size ≤ maxLen) x.fThread ∧ (fun _ => True) x.fPrivate ∧ True
def TRef.ok (x : TRef) : Prop := (fun xs : List Edu => xs.length ≤ maxLen ∧ ∀ x ∈ xs, Edu.ok x) x.fL ∧ (fun xs : List Bool => xs.length ≤ maxLen ∧ ∀ x ∈ xs, (fun _ => True) x) x.fTold ∧ True
end Go.Proofs.YtmbodanckhidiaaGreat
