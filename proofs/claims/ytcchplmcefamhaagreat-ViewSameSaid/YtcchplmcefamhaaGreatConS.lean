import Derived.Test.YtcchplmcefamhaaGreatConQ
import Derived.Test.YtcchplmcefamhaaGreatConV
import Derived.Sort.Walk0
set_option linter.all false
namespace Go.Sp
open Go Go.Proofs
def SrtW (xs:List ByteArray):Prop:=xs.Pairwise (fun a b=>sLt b a = false)
def SrtT (xs:List ByteArray):Prop:=xs.Pairwise (fun a b=>sLt a b = true)
theorem le_bl (x y:List UInt8):decide (x≤y) = !Op.bytesLess y x:=by
 have h:=bytesLess_eq y x
 rw [h,Bool.eq_iff_iff]
 simp only [decide_eq_true_eq,Bool.not_eq_true',decide_eq_false_iff_not]
 exact Iff.rfl
theorem srtS_perm (xs:List ByteArray):(srtS xs).Perm xs:=by
 have h:=(List.mergeSort_perm (xs.map (·.data.toList)) (fun x y=>decide (x≤y))).map (fun l=>(⟨l.toArray⟩:ByteArray))
 have e:(xs.map (·.data.toList)).map (fun l=>(⟨l.toArray⟩:ByteArray)) = xs:=by
  rw [List.map_map]
  conv=>rhs; rw [← List.map_id xs]
  rfl
 rw [e] at h
 exact h
theorem srtS_mem (xs:List ByteArray) (x:ByteArray):x∈srtS xs↔x∈xs:=(srtS_perm xs).mem_iff
theorem srtS_srt (xs:List ByteArray):SrtW (srtS xs):=by
 unfold SrtW srtS
 rw [List.pairwise_map]
 have h:=List.pairwise_mergeSort (le:=fun x y:List UInt8=>decide (x≤y)) (fun a b c h1 h2=>by
  rw [le_bl] at h1 h2 ⊢
  have h1:sLt (⟨b.toArray⟩:ByteArray) ⟨a.toArray⟩ = false:=by simpa [sLt] using h1
  have h2:sLt (⟨c.toArray⟩:ByteArray) ⟨b.toArray⟩ = false:=by simpa [sLt] using h2
  have:=sLt_ntrans h1 h2
  simpa [sLt] using this) (fun a b=>by
  rw [le_bl,le_bl]
  cases h1:Op.bytesLess b a with
  | false=>rfl
  | true=>
   have h2:sLt (⟨b.toArray⟩:ByteArray) ⟨a.toArray⟩ = true:=by simpa [sLt] using h1
   have h3:=sLt_asymm h2
   have h4:Op.bytesLess a b = false:=by simpa [sLt] using h3
   rw [h4]; rfl) (xs.map (·.data.toList))
 refine h.imp fun {a b} hab=>?_
 rw [le_bl] at hab
 simpa [sLt] using hab
theorem srtT_ext:∀ {xs ys:List ByteArray},SrtT xs→SrtT ys→(∀ x,x∈xs↔x∈ys)→xs = ys
 | [],[],_,_,_=>rfl
 | [],y::ys,_,_,h=>absurd ((h y).2 (List.mem_cons_self ..)) (by simp)
 | x::xs,[],_,_,h=>absurd ((h x).1 (List.mem_cons_self ..)) (by simp)
 | x::xs,y::ys,hx,hy,h=>by
  unfold SrtT at hx hy
  rw [List.pairwise_cons] at hx hy
  have e:x = y:=by
   rcases List.mem_cons.1 ((h x).1 (List.mem_cons_self ..)) with e | hxm
   ·exact e
   ·rcases List.mem_cons.1 ((h y).2 (List.mem_cons_self ..)) with e | hym
    ·exact e.symm
    ·have:=sLt_asymm (hx.1 y hym); rw [hy.1 x hxm] at this; cases this
  subst e
  have ht:xs = ys:=srtT_ext hx.2 hy.2 fun z=>by
   constructor
   ·intro hz
    rcases List.mem_cons.1 ((h z).1 (List.mem_cons_of_mem _ hz)) with e | hz'
    ·subst e; have:=hx.1 z hz; rw [sLt_irrefl] at this; cases this
    ·exact hz'
   ·intro hz
    rcases List.mem_cons.1 ((h z).2 (List.mem_cons_of_mem _ hz)) with e | hz'
    ·subst e; have:=hy.1 z hz; rw [sLt_irrefl] at this; cases this
    ·exact hz'
  rw [ht]
theorem srtS_nodup {xs:List ByteArray} (h:xs.Nodup):SrtT (srtS xs):=by
 have hn:(srtS xs).Nodup:=(srtS_perm xs).nodup_iff.2 h
 unfold SrtT
 refine List.Pairwise.imp_of_mem ?_ ((srtS_srt xs).and hn)
 intro a b _ _ ⟨h1,h2⟩
 cases h3:sLt a b with
 | true=>rfl
 | false=>exact absurd (sLt_conn h3 h1) h2
end Go.Sp
