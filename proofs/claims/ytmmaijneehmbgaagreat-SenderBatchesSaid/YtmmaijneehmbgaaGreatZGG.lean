import Derived.Test.YtmmaijneehmbgaaGreatZEL
import Derived.Test.YtmmaijneehmbgaaGreatZVF
set_option linter.all false
set_option maxRecDepth 10000
namespace Go.Proofs.YtmmaijneehmbgaaGreat
open Go Go.Sp
structure GE (e:Edu):Prop where
 kind:e.fKind = 1∨e.fKind = 2∨e.fKind = 3
 user:e.fUser∈users
 room:e.fKind≠3→e.fRoom∈rooms
 room0:e.fKind = 3→e.fRoom = ⟨#[]⟩
 event:e.fKind = 1→∃ j,j < 9∧e.fEvent = evs j
 event0:e.fKind≠1→e.fEvent = ⟨#[]⟩
 thread:e.fKind = 1→e.fThread = ⟨#[]⟩∨e.fThread = ⟨#[109,97,105,110]⟩∨∃ j,j < 9∧e.fThread = evs j
 thread0:e.fKind≠1→e.fThread = ⟨#[]⟩
 priv:e.fKind≠1→e.fPrivate = false
 on:e.fKind≠2→e.fOn = false
 span0:e.fOn = false→e.fSpan = 0
 span1:e.fOn = true→1≤e.fSpan∧e.fSpan≤60
 state0:e.fKind≠3→e.fState = 0
 state:0≤e.fState∧e.fState≤2
 tick:0≤e.fTick∧e.fTick < 100
 stamp:0≤e.fStamp∧e.fStamp < 9
theorem user_in {u:ByteArray} (h:u∈users):namedB u 64 = true∧u.size = 5:=by
 have:∀ u∈users,namedB u 64 = true∧u.size = 5:=by decide +kernel
 exact this u h
end Go.Proofs.YtmmaijneehmbgaaGreat
