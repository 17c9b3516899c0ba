import Derived.Test.YtcchplmcefamhaaGreatConW
import Derived.Test.YtcchplmcefamhaaGreatConV
import Derived.Laws.Build
set_option linter.all false
namespace Go.Sp
open Go
section
variable {P:Program} {ops:Array Oper} {n:Nat} {dr:Bool} {R0:Fz} {K:KU} {E:Env} {l:List As} {pend:List (Nat×(List As→Prop))} {rest:List (Nat×Bool)} {i d:Nat}
variable {T:TypeId} {ps:String} {af:Array Edge} {g:Option (Nat×Bool)} {x y:Operand} {α:Type} {Kd:Kd α}
end
end Go.Sp
