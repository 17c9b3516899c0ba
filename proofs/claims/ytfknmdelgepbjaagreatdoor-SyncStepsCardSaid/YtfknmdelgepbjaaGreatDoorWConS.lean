import Derived.Test.YtfknmdelgepbjaaGreatDoorWConV
import Derived.Sort.Walk0
set_option linter.all false
namespace Go.Sp
open Go Go.Proofs
def SrtW (xs:List BA):Prop:=xs.Pairwise (fun a b=>dJ b a=false)
def sY (xs:List BA):Prop:=xs.Pairwise (fun a b=>dJ a b=true)
theorem DS (x y:List UInt8):decide (x≤y) = !Op.bytesLess y x:=by
 have h:=bytesLess_eq y x
 rw [h,Bool.eq_iff_iff]
 simp only [decide_eq_true_eq,Bool.not_eq_true',decide_eq_false_iff_not]
 exact Iff.rfl
theorem qY (xs:List BA):(pz xs).Perm xs:=by
 have h:=(List.mergeSort_perm (xs.map (·.data.toList)) (fun x y=>decide (x≤y))).map (fun l=>(⟨l.toArray⟩:BA))
 have e:(xs.map (·.data.toList)).map (fun l=>(⟨l.toArray⟩:BA))=xs:=by
  rw [List.map_map]
  conv=>rhs; rw [← List.map_id xs]
  rfl
 rw [e] at h
 exact h
theorem GN (xs:List BA) (x:BA):x∈pz xs↔x∈xs:=(qY xs).mem_iff
theorem v7 (xs:List BA):SrtW (pz xs):=by
 unfold SrtW pz
 rw [List.pairwise_map]
 have h:=List.pairwise_mergeSort (le:=fun x y:List UInt8=>decide (x≤y)) (fun a b c h1 h2=>by
  rw [DS] at h1 h2 ⊢
  have h1:dJ (⟨b.toArray⟩:BA) ⟨a.toArray⟩=false:=by simpa [dJ] using h1
  have h2:dJ (⟨c.toArray⟩:BA) ⟨b.toArray⟩=false:=by simpa [dJ] using h2
  have:=px h1 h2
  simpa [dJ] using this) (fun a b=>by
  rw [DS,DS]
  cases h1:Op.bytesLess b a with
  | false=>rfl
  | true=>
   have h2:dJ (⟨b.toArray⟩:BA) ⟨a.toArray⟩=true:=by simpa [dJ] using h1
   have h3:=q9 h2
   have h4:Op.bytesLess a b=false:=by simpa [dJ] using h3
   rw [h4]; rfl) (xs.map (·.data.toList))
 refine h.imp fun {a b} hab=>?_
 rw [DS] at hab
 simpa [dJ] using hab
theorem AU:∀ {xs ys:List BA},sY xs→sY ys→(∀ x,x∈xs↔x∈ys)→xs=ys
 | [],[],_,_,_=>rfl
 | [],y::ys,_,_,h=>absurd ((h y).2 (List.mem_cons_self ..)) sM
 | x::xs,[],_,_,h=>absurd ((h x).1 (List.mem_cons_self ..)) sM
 | x::xs,y::ys,hx,hy,h=>by
  unfold sY at hx hy
  rw [List.pairwise_cons] at hx hy
  have e:x=y:=by
   rcases List.mem_cons.1 ((h x).1 (List.mem_cons_self ..)) with e | hxm
   ·exact e
   ·rcases List.mem_cons.1 ((h y).2 (List.mem_cons_self ..)) with e | hym
    ·exact e.symm
    ·have:=q9 (hx.1 y hym); rw [hy.1 x hxm] at this; cases this
  subst e
  have ht:xs=ys:=AU hx.2 hy.2 fun z=>by
   constructor
   ·intro hz
    rcases List.mem_cons.1 ((h z).1 (List.mem_cons_of_mem _ hz)) with e | hz'
    ·subst e; have:=hx.1 z hz; rw [iZ] at this; cases this
    ·exact hz'
   ·intro hz
    rcases List.mem_cons.1 ((h z).2 (List.mem_cons_of_mem _ hz)) with e | hz'
    ·subst e; have:=hy.1 z hz; rw [iZ] at this; cases this
    ·exact hz'
  rw [ht]
theorem B5 {xs:List BA} (h:xs.Nodup):sY (pz xs):=by
 have hn:(pz xs).Nodup:=(qY xs).nodup_iff.2 h
 unfold sY
 refine List.Pairwise.imp_of_mem ?_ ((v7 xs).and hn)
 intro a b _ _ ⟨h1,h2⟩
 cases h3:dJ a b with
 | true=>rfl
 | false=>exact absurd (lf h3 h1) h2
end Go.Sp
