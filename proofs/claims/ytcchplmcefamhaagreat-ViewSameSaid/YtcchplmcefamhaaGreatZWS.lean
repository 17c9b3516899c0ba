import Derived.Test.YtcchplmcefamhaaGreatZWA
import Derived.Test.YtcchplmcefamhaaGreatZMO
import Derived.Test.YtcchplmcefamhaaGreatZWH
set_option linter.all false
set_option maxRecDepth 10000
namespace Go.Proofs.YtcchplmcefamhaaGreat
open Go Go.Sp
theorem equal_refl {vs:List ByteArray} (hb:vs.length≤100000):Ev (fun k=>slices_Equal_string.f k vs vs) true:=by
 have key:∀ d m:Nat,vs.length - m = d→m≤vs.length→El (fun k j=>slices_Equal_string.l0 k vs vs j (m:Int)) (.inl ((vs.length:Int),false)):=by
  intro d
  induction d with
  | zero=>
   intro m hd hm
   obtain rfl:m = vs.length:=by omega
   refine El.step (fun _ _=>by rw [slices_Equal_string.l0]) ?_
   exact El.cf (by simp) (by simpa using El.pure)
  | succ d ih=>
   intro m hd hm
   refine El.step (fun _ _=>by rw [slices_Equal_string.l0]) ?_
   rw [rp_inc (show m≤1000000 by omega)]
   exact El.ct (decide_eq_true (by omega)) (El.grd ⟨by omega,by omega⟩ (El.grd ⟨by omega,by omega⟩ (El.cf (by simp) (ih (m + 1) (by omega) (by omega)))))
 unfold slices_Equal_string.f
 exact Ev.cf (by simp) (Ev.bind (key _ 0 rfl (by omega)).diag (Ev.of rfl))
structure VS (F:ByteArray→List Event) (x:VView) (w:RView):Prop where
 rel:RelV x w
 sub:∀ room,∀ e∈(ofR w room).fL,e∈F room
 ch:∀ room,Chain room (ofR w room).fL
section
variable {F:ByteArray→List Event} (hF:∀ room,Chain room (F room)) (hFl:∀ room,(F room).length≤9) {S:List ByteArray} (hS:∀ room,F room≠[]→room∈S) (hSl:S.length≤10)
include hF hFl hS hSl
end
end Go.Proofs.YtcchplmcefamhaaGreat
