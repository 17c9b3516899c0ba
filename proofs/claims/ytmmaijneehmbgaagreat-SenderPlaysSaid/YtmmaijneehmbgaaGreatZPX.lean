import Derived.Test.YtmmaijneehmbgaaGreatZMir
import Derived.Test.YtmmaijneehmbgaaGreatConV
set_option linter.all false
set_option maxRecDepth 10000
namespace Go.Proofs.YtmmaijneehmbgaaGreat
open Go Go.Sp
theorem or_ev (x y:Int):Ev (fun k=>cmp_Or_int.f k [x,y]) (if x=0 then y else x):=by
 unfold cmp_Or_int.f
 by_cases hx:x=0
 ·subst hx
  by_cases hy:y=0
  ·subst hy
   suffices t:El (fun k j=>cmp_Or_int.l0 k [0,0] j 0) (.inl (2,false)) by
    exact Ev.bind t.diag Ev.pure
   refine El.step (fun _ _=>by rw [cmp_Or_int.l0]) ?_
   refine El.ct rfl (El.grd (of_decide_eq_true rfl) (El.cf rfl ?_))
   refine El.step (fun _ _=>by rw [cmp_Or_int.l0]) ?_
   refine El.ct rfl (El.grd (of_decide_eq_true rfl) (El.cf rfl ?_))
   refine El.step (fun _ _=>by rw [cmp_Or_int.l0]) ?_
   exact El.cf rfl El.pure
  ·suffices t:El (fun k j=>cmp_Or_int.l0 k [0,y] j 0) (.inr y) by
    exact Ev.bind t.diag Ev.pure
   refine El.step (fun _ _=>by rw [cmp_Or_int.l0]) ?_
   refine El.ct rfl (El.grd (of_decide_eq_true rfl) (El.cf rfl ?_))
   refine El.step (fun _ _=>by rw [cmp_Or_int.l0]) ?_
   exact El.ct rfl (El.grd (of_decide_eq_true rfl) (El.ct (by simpa [Kd.at,w64_id] using hy) El.pure))
 ·rw [if_neg hx]
  suffices t:El (fun k j=>cmp_Or_int.l0 k [x,y] j 0) (.inr x) by
   exact Ev.bind t.diag Ev.pure
  refine El.step (fun _ _=>by rw [cmp_Or_int.l0]) ?_
  exact El.ct rfl (El.grd (of_decide_eq_true rfl) (El.ct (by simpa [Kd.at] using hx) El.pure))
def cmpI (x y:Int):Int:=if x<y then -1 else if y<x then 1 else 0
theorem cmpint (x y:Int):cmp_Compare_int.f x y=some (cmpI x y):=by
 unfold cmp_Compare_int.f cmp_isNaN_int.f cmpI
 by_cases h1:x<y <;> by_cases h2:y<x <;> simp [h1,h2]
end Go.Proofs.YtmmaijneehmbgaaGreat
