import Derived.Test.YtmmaijneehmbgaaGreatConH
import Derived.WalkKit
import Derived.ProofKit
import Derived.OpenShut
import Derived.ShutString
import Derived.ChangeOld
import Derived.SizedLaws
import Derived.Deep.Slices
set_option linter.all false
namespace Go.Sp
open Go Go.ChangeShapes Go.WideShapes Go.ChangeAt Go.RowKit Go.Deep
def full (W:World):Fz:=⟨fun b o=>W.heap[b]? = some o,W⟩
theorem full_st (W:World):St (full W) [] W:=⟨rfl,rfl,rfl,Nat.le_refl _,fun _ _ h=>h,.nil,fun _ h=>by (cases h),fun _ h=>by (cases h),Nat.le_refl _⟩
theorem full_below {W w':World} {R':Fz} {l:List As} (hR:(full W).le R') (hs:St R' l w'):Below W.heap.size W w':=by
 have hb:=hs.base
 have e:R'.w0 = W:=hR.1.symm
 refine ⟨by rw [hb.os,e],by rw [hb.tape,e],by rw [hb.output,e],by have:=hb.size; rwa [e] at this,fun k hk=>?_⟩
 have h1:W.heap[k]? = some W.heap[k]:=Array.getElem?_eq_getElem hk
 rw [h1]
 exact hb.frz k _ (hR.2 k _ h1)
theorem law_walk {P:Program} {f:FuncId} {vs:List VP} (h:Pt P f vs (eq (.bool true))) {W:World} {us:List Value} (hu:Cs.h (full W) vs us):Calls P f us.toArray W fun e w'=>e = .returned (.bool true)∧Below W.heap.size W w':=
 (h (full W) [] W us hu (full_st W)).mono fun _ _ ⟨_,_,h1,h2,h3,h4⟩=>⟨by rw [h2,h3],full_below h1 h4⟩
section
variable {P:Program} {W:World} {t:TypeId} {α:Type}
end
end Go.Sp
namespace Go.Sp
open Go
end Go.Sp
