import Derived.Test.YtfknmdelgepbjaaGreatDoorVConV
import Derived.Sort.Walk0
set_option linter.all false
namespace Go.Sp
open Go Go.Proofs
def SrtW (xs:List BA):Prop:=xs.Pairwise (fun a b=>dK b a=false)
def sG (xs:List BA):Prop:=xs.Pairwise (fun a b=>dK a b=true)
theorem CM (x y:List UInt8):decide (x≤y) = !Op.bytesLess y x:=by
 have h:=bytesLess_eq y x
 rw [h,Bool.eq_iff_iff]
 simp only [decide_eq_true_eq,Bool.not_eq_true',decide_eq_false_iff_not]
 exact Iff.rfl
theorem qU (xs:List BA):(oZ xs).Perm xs:=by
 have h:=(List.mergeSort_perm (xs.map (·.data.toList)) (fun x y=>decide (x≤y))).map (fun l=>(⟨l.toArray⟩:BA))
 have e:(xs.map (·.data.toList)).map (fun l=>(⟨l.toArray⟩:BA))=xs:=by
  rw [List.map_map]
  conv=>rhs; rw [← List.map_id xs]
  rfl
 rw [e] at h
 exact h
theorem Gr (xs:List BA) (x:BA):x∈oZ xs↔x∈xs:=(qU xs).mem_iff
theorem wk (xs:List BA):SrtW (oZ xs):=by
 unfold SrtW oZ
 rw [List.pairwise_map]
 have h:=List.pairwise_mergeSort (le:=fun x y:List UInt8=>decide (x≤y)) (fun a b c h1 h2=>by
  rw [CM] at h1 h2 ⊢
  have h1:dK (⟨b.toArray⟩:BA) ⟨a.toArray⟩=false:=by simpa [dK] using h1
  have h2:dK (⟨c.toArray⟩:BA) ⟨b.toArray⟩=false:=by simpa [dK] using h2
  have:=o0 h1 h2
  simpa [dK] using this) (fun a b=>by
  rw [CM,CM]
  cases h1:Op.bytesLess b a with
  | false=>rfl
  | true=>
   have h2:dK (⟨b.toArray⟩:BA) ⟨a.toArray⟩=true:=by simpa [dK] using h1
   have h3:=qI h2
   have h4:Op.bytesLess a b=false:=by simpa [dK] using h3
   rw [h4]; rfl) (xs.map (·.data.toList))
 refine h.imp fun {a b} hab=>?_
 rw [CM] at hab
 simpa [dK] using hab
theorem AA:∀ {xs ys:List BA},sG xs→sG ys→(∀ x,x∈xs↔x∈ys)→xs=ys
 | [],[],_,_,_=>rfl
 | [],y::ys,_,_,h=>absurd ((h y).2 (List.mem_cons_self ..)) sM
 | x::xs,[],_,_,h=>absurd ((h x).1 (List.mem_cons_self ..)) sM
 | x::xs,y::ys,hx,hy,h=>by
  unfold sG at hx hy
  rw [List.pairwise_cons] at hx hy
  have e:x=y:=by
   rcases List.mem_cons.1 ((h x).1 (List.mem_cons_self ..)) with e | hxm
   ·exact e
   ·rcases List.mem_cons.1 ((h y).2 (List.mem_cons_self ..)) with e | hym
    ·exact e.symm
    ·have:=qI (hx.1 y hym); rw [hy.1 x hxm] at this; cases this
  subst e
  have ht:xs=ys:=AA hx.2 hy.2 fun z=>by
   constructor
   ·intro hz
    rcases List.mem_cons.1 ((h z).1 (List.mem_cons_of_mem _ hz)) with e | hz'
    ·subst e; have:=hx.1 z hz; rw [iZ] at this; cases this
    ·exact hz'
   ·intro hz
    rcases List.mem_cons.1 ((h z).2 (List.mem_cons_of_mem _ hz)) with e | hz'
    ·subst e; have:=hy.1 z hz; rw [iZ] at this; cases this
    ·exact hz'
  rw [ht]
theorem BM {xs:List BA} (h:xs.Nodup):sG (oZ xs):=by
 have hn:(oZ xs).Nodup:=(qU xs).nodup_iff.2 h
 unfold sG
 refine List.Pairwise.imp_of_mem ?_ ((wk xs).and hn)
 intro a b _ _ ⟨h1,h2⟩
 cases h3:dK a b with
 | true=>rfl
 | false=>exact absurd (lx h3 h1) h2
end Go.Sp
