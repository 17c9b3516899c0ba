import Derived.Test.YtmmaijneehmbgaaGreatZVE
import Derived.Test.YtmmaijneehmbgaaGreatZV0
set_option linter.all false
set_option maxRecDepth 10000
namespace Go.Proofs.YtmmaijneehmbgaaGreat
open Go Go.Sp
def evs (k:Nat):ByteArray:=⟨#[36,101,UInt8.ofNat (48 + k)]⟩
theorem eventOf_at:∀ k:Nat,k < 9→Ev (fun n=>r01_EventOf.f n (k:Int)) (evs k):=by
 intro k hk
 refine Ev.add 2 fun m=>?_
 match k,hk with
 | 0,_=>rfl
 | 1,_=>rfl
 | 2,_=>rfl
 | 3,_=>rfl
 | 4,_=>rfl
 | 5,_=>rfl
 | 6,_=>rfl
 | 7,_=>rfl
 | 8,_=>rfl
structure MI (room:ByteArray) (L:List Event):Prop where
 len:L.length≤9
 ids:∀ k,k < L.length→(ev L k).fID = evs k
end Go.Proofs.YtmmaijneehmbgaaGreat
