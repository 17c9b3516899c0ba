import Derived.Test.YtmmaijneehmbgaaGreatZVF
set_option linter.all false
set_option maxRecDepth 10000
namespace Go.Proofs.YtmmaijneehmbgaaGreat
open Go Go.Sp
def Chain (room:ByteArray) (L:List Event):Prop:=∀ i,i < L.length→Event.ok (ev L i)∧(ev L i).fRoom = room∧code ⟨room,L.take i⟩ (ev L i) = 0
end Go.Proofs.YtmmaijneehmbgaaGreat
