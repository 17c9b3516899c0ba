import Derived.Test.YtelcbdmigiacpaaGreatConV
import Derived.Sort.Walk0
set_option linter.all false
namespace Go.Sp
open Go Go.Proofs
def SrtW (xs:List ByteArray):Prop:=xs.Pairwise (fun a b=>sLt b a = false)
theorem le_bl (x y:List UInt8):decide (x≤y) = !Op.bytesLess y x:=by
 have h:=bytesLess_eq y x
 rw [h,Bool.eq_iff_iff]
 simp only [decide_eq_true_eq,Bool.not_eq_true',decide_eq_false_iff_not]
 exact Iff.rfl
theorem srtS_perm (xs:List ByteArray):(srtS xs).Perm xs:=by
 rw [srtS_def]
 have h:=(List.mergeSort_perm (xs.map (·.data.toList)) (fun x y=>decide (x≤y))).map (fun l=>(⟨l.toArray⟩:ByteArray))
 have e:(xs.map (·.data.toList)).map (fun l=>(⟨l.toArray⟩:ByteArray)) = xs:=by
  rw [List.map_map]
  conv=>rhs; rw [← List.map_id xs]
  rfl
 rw [e] at h
 exact h
theorem srtS_srt (xs:List ByteArray):SrtW (srtS xs):=by
 unfold SrtW; rw [srtS_def]
 rw [List.pairwise_map]
 have h:=List.pairwise_mergeSort (le:=fun x y:List UInt8=>decide (x≤y)) (fun a b c h1 h2=>by
  rw [le_bl] at h1 h2 ⊢
  have h1:sLt (⟨b.toArray⟩:ByteArray) ⟨a.toArray⟩ = false:=by simpa [sLt] using h1
  have h2:sLt (⟨c.toArray⟩:ByteArray) ⟨b.toArray⟩ = false:=by simpa [sLt] using h2
  have:=sLt_ntrans h1 h2
  simpa [sLt] using this) (fun a b=>by
  rw [le_bl,le_bl]
  cases h1:Op.bytesLess b a with
  | false=>rfl
  | true=>
   have h2:sLt (⟨b.toArray⟩:ByteArray) ⟨a.toArray⟩ = true:=by simpa [sLt] using h1
   have h3:=sLt_asymm h2
   have h4:Op.bytesLess a b = false:=by simpa [sLt] using h3
   rw [h4]; rfl) (xs.map (·.data.toList))
 refine h.imp fun {a b} hab=>?_
 rw [le_bl] at hab
 simpa [sLt] using hab
end Go.Sp
