import Derived.Test.YtcchplmcefamhaaGreatZMJ
set_option linter.all false
set_option maxRecDepth 10000
namespace Go.Proofs.YtcchplmcefamhaaGreat
open Go Go.Sp
structure Sub (room:ByteArray) (L:List Event) (m:DDag) (L':List Event):Prop where
 ch:Chain room L'
 rel:Rel m ⟨room,L'⟩
 tab:T m = tb L'
 sub:∀ e∈L',e∈L
end Go.Proofs.YtcchplmcefamhaaGreat
