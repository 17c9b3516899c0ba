import Derived.Test.YtfknmdelgepbjaaGreatDoorConQ
import Derived.Test.YtfknmdelgepbjaaGreatDoorConV
import Derived.Sort.Walk0
set_option linter.all false
namespace Go.Sp
open Go Go.Proofs
def SrtW (xs:List BA):Prop:=xs.Pairwise (fun a b=>dO b a=false)
def sF (xs:List BA):Prop:=xs.Pairwise (fun a b=>dO a b=true)
theorem BY (x y:List UInt8):decide (x≤y) = !Op.bytesLess y x:=by
 have h:=bytesLess_eq y x
 rw [h,Bool.eq_iff_iff]
 simp only [decide_eq_true_eq,Bool.not_eq_true',decide_eq_false_iff_not]
 exact Iff.rfl
theorem qH (xs:List BA):(oW xs).Perm xs:=by
 have h:=(List.mergeSort_perm (xs.map (·.data.toList)) (fun x y=>decide (x≤y))).map (fun l=>(⟨l.toArray⟩:BA))
 have e:(xs.map (·.data.toList)).map (fun l=>(⟨l.toArray⟩:BA))=xs:=by
  rw [List.map_map]
  conv=>rhs; rw [← List.map_id xs]
  rfl
 rw [e] at h
 exact h
theorem EH (xs:List BA) (x:BA):x∈oW xs↔x∈xs:=(qH xs).mem_iff
theorem ux (xs:List BA):SrtW (oW xs):=by
 unfold SrtW oW
 rw [List.pairwise_map]
 have h:=List.pairwise_mergeSort (le:=fun x y:List UInt8=>decide (x≤y)) (fun a b c h1 h2=>by
  rw [BY] at h1 h2 ⊢
  have h1:dO (⟨b.toArray⟩:BA) ⟨a.toArray⟩=false:=by simpa [dO] using h1
  have h2:dO (⟨c.toArray⟩:BA) ⟨b.toArray⟩=false:=by simpa [dO] using h2
  have:=oZ h1 h2
  simpa [dO] using this) (fun a b=>by
  rw [BY,BY]
  cases h1:Op.bytesLess b a with
  | false=>rfl
  | true=>
   have h2:dO (⟨b.toArray⟩:BA) ⟨a.toArray⟩=true:=by simpa [dO] using h1
   have h3:=qG h2
   have h4:Op.bytesLess a b=false:=by simpa [dO] using h3
   rw [h4]; rfl) (xs.map (·.data.toList))
 refine h.imp fun {a b} hab=>?_
 rw [BY] at hab
 simpa [dO] using hab
theorem Af:∀ {xs ys:List BA},sF xs→sF ys→(∀ x,x∈xs↔x∈ys)→xs=ys
 | [],[],_,_,_=>rfl
 | [],y::ys,_,_,h=>absurd ((h y).2 (List.mem_cons_self ..)) sM
 | x::xs,[],_,_,h=>absurd ((h x).1 (List.mem_cons_self ..)) sM
 | x::xs,y::ys,hx,hy,h=>by
  unfold sF at hx hy
  rw [List.pairwise_cons] at hx hy
  have e:x=y:=by
   rcases List.mem_cons.1 ((h x).1 (List.mem_cons_self ..)) with e | hxm
   ·exact e
   ·rcases List.mem_cons.1 ((h y).2 (List.mem_cons_self ..)) with e | hym
    ·exact e.symm
    ·have:=qG (hx.1 y hym); rw [hy.1 x hxm] at this; cases this
  subst e
  have ht:xs=ys:=Af hx.2 hy.2 fun z=>by
   constructor
   ·intro hz
    rcases List.mem_cons.1 ((h z).1 (List.mem_cons_of_mem _ hz)) with e | hz'
    ·subst e; have:=hx.1 z hz; rw [iF] at this; cases this
    ·exact hz'
   ·intro hz
    rcases List.mem_cons.1 ((h z).2 (List.mem_cons_of_mem _ hz)) with e | hz'
    ·subst e; have:=hy.1 z hz; rw [iF] at this; cases this
    ·exact hz'
  rw [ht]
theorem A2 {xs:List BA} (h:xs.Nodup):sF (oW xs):=by
 have hn:(oW xs).Nodup:=(qH xs).nodup_iff.2 h
 unfold sF
 refine List.Pairwise.imp_of_mem ?_ ((ux xs).and hn)
 intro a b _ _ ⟨h1,h2⟩
 cases h3:dO a b with
 | true=>rfl
 | false=>exact absurd (kC h3 h1) h2
end Go.Sp
