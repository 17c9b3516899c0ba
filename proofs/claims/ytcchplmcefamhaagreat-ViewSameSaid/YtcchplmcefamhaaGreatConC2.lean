import Derived.Test.YtcchplmcefamhaaGreatConC1
import Derived.Test.YtcchplmcefamhaaGreatConA6
import Derived.Test.YtcchplmcefamhaaGreatConA2
import Derived.Test.YtcchplmcefamhaaGreatConV
set_option linter.all false
namespace Go.Sp
open Go
section
variable {P:Program} {ops:Array Oper} {n:Nat} {dr:Bool} {R0:Fz} {K:KU} {E:Env} {l:List As} {pend:List (Nat×(List As→Prop))} {rest:List (Nat×Bool)} {i d:Nat}
variable {T:TypeId} {ps:String} {af:Array Edge} {g:Option (Nat×Bool)} {x y:Operand} {α:Type} {Kd:Kd α} {v:Value} {xs:List α}
end
end Go.Sp
namespace Go.Sp
open Go Go.Proofs Go.Sort
section
variable {α:Type} {K:Kd α}
end
structure Cmp {α:Type} (c:α→α→Int):Prop where
 anti:∀ x y,c x y < 0↔0 < c y x
 trans:∀ x y z,c x y≤0→c y z≤0→c x z≤0
end Go.Sp
