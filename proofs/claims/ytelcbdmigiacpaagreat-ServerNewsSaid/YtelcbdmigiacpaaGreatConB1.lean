import Derived.Test.YtelcbdmigiacpaaGreatConV
set_option linter.all false
namespace Go.Sp
open Go
theorem inc1 {m:Nat} (h:m≤1000000):w64 ((m:Int) + 1) = ((m + 1:Nat):Int):=by rw [w64_id (by omega) (by omega)]; omega
section
variable {α:Type} {p:Nat→α→Option Bool} {b:α→Bool} {xs:List α} {d:α}
end
end Go.Sp
