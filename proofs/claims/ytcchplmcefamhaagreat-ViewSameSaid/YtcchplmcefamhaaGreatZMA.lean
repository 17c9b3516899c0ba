import Derived.Test.YtcchplmcefamhaaGreatZVB
import Derived.Test.YtcchplmcefamhaaGreatZRP
import Derived.Test.YtcchplmcefamhaaGreatZPU
set_option linter.all false
set_option maxRecDepth 10000
namespace Go.Proofs.YtcchplmcefamhaaGreat
open Go Go.Sp
end Go.Proofs.YtcchplmcefamhaaGreat
