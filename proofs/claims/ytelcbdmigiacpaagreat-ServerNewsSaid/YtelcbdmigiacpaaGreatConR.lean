import Derived.Test.YtelcbdmigiacpaaGreatConH
import Derived.ProofKit
import Derived.OpenShut
import Derived.ShutString
import Derived.ChangeOld
import Derived.SizedLaws
import Derived.Deep.Slices
set_option linter.all false
namespace Go.Sp
open Go Go.ChangeShapes Go.WideShapes Go.ChangeAt Go.RowKit Go.Deep
def full (W:World):Fz:=⟨fun b o=>W.heap[b]? = some o,W⟩
theorem full_st (W:World):St (full W) [] W:=⟨rfl,rfl,rfl,Nat.le_refl _,fun _ _ h=>h,.nil,fun _ h=>by (cases h),fun _ h=>by (cases h),Nat.le_refl _⟩
section
variable {P:Program} {W:World} {t:TypeId} {α:Type}
end
end Go.Sp
namespace Go.Sp
open Go
end Go.Sp
