import Derived.Test.YtelcbdmigiacpaaGreatConV
import Derived.Sort.Walk0
set_option linter.all false
namespace Go.Sp
open Go Go.Proofs
def SrtW (xs:List BA):Prop:=xs.Pairwise (λa b=>il b a=false)
def C6 (xs:List BA):Prop:=xs.Pairwise (λa b=>il a b=true)
theorem B2 (x y:List UInt8):decide (x<=y) = !Op.bytesLess y x:=by
 have h:=bytesLess_eq y x
 rw [h,Bool.eq_iff_iff]
 simp only [decide_eq_true_eq,Bool.not_eq_true',decide_eq_false_iff_not]
 exact Iff.rfl
theorem sT (xs:List BA):(aY xs).Perm xs:=by
 rw [qN]
 have h:=(List.mergeSort_perm (xs.map (·.data.toList)) (λx y=>decide (x<=y))).map (λl=>(⟨l.toArray⟩:BA))
 have e:(xs.map (·.data.toList)).map (λl=>(⟨l.toArray⟩:BA))=xs:=by
  rw [List.map_map]
  conv=>rhs;rw [<- List.map_id xs]
  rfl
 rw [e] at h
 exact h
theorem yZ (xs:List BA) (x:BA):x∈aY xs↔x∈xs:=(sT xs).mem_iff
theorem yt (xs:List BA):SrtW (aY xs):=by
 unfold SrtW;rw [qN]
 rw [List.pairwise_map]
 have h:=List.pairwise_mergeSort (le:=λx y:List UInt8=>decide (x<=y)) (λa b c h1 h2=>by
  rw [B2] at h1 h2 ⊢
  have h1:il (⟨b.toArray⟩:BA) ⟨a.toArray⟩=false:=by simpa [il] using h1
  have h2:il (⟨c.toArray⟩:BA) ⟨b.toArray⟩=false:=by simpa [il] using h2
  have:=rE h1 h2
  simpa [il] using this) (λa b=>by
  rw [B2,B2]
  cases h1:Op.bytesLess b a with
  | false=>rfl
  | true=>
   have h2:il (⟨b.toArray⟩:BA) ⟨a.toArray⟩=true:=by simpa [il] using h1
   have h3:=wG h2
   have h4:Op.bytesLess a b=false:=by simpa [il] using h3
   rw [h4];rfl) (xs.map (·.data.toList))
 refine h.imp λ{a b} hab=>?_
 rw [B2] at hab
 simpa [il] using hab
theorem tH (zs:List (List UInt8)) (x:List UInt8):x∈Lib.compact zs↔x∈zs:=by
 unfold Lib.compact Lib.compactUpTo
 rw [List.mem_map]
 constructor
 ·rintro⟨j,hj,rfl⟩
  rw [List.mem_filter,List.mem_range] at hj
  rw [List.getElem!_toArray,getElem!_pos zs j hj.1]
  exact List.getElem_mem hj.1
 ·intro hx
  obtain⟨i,hi,e⟩:=List.mem_iff_getElem.1 hx
  have:∃ j,(j<zs.length/\zs.toArray[j]! = x)/\∀ k,k<j->¬ zs.toArray[k]! = x:=by
   have h0:i<zs.length/\zs.toArray[i]! = x:=⟨hi,by rw [List.getElem!_toArray,getElem!_pos zs i hi];exact e⟩
   clear e hi
   induction i using Nat.strongRecOn with
   | _ i ih=>
    by_cases h:∃ k,k<i/\zs.toArray[k]! = x
    ·obtain⟨k,h1,h2⟩:=h;exact ih k h1 ⟨om,h2⟩
    ·exact⟨i,h0,λk h1 h2=>h ⟨k,h1,h2⟩⟩
  obtain⟨j,⟨h1,h2⟩,h3⟩:=this
  refine⟨j,?_,h2⟩
  rw [List.mem_filter,List.mem_range]
  refine⟨h1,?_⟩
  unfold Lib.keeps
  rw [decide_eq_true_eq]
  by_cases h4:j=0
  ·exact .inl h4
  ·exact .inr (by rw [h2];exact λh=>h3 (j-1) om h.symm)
theorem AV (xs:List BA) (x:BA):x∈l9 xs↔x∈xs:=by
 unfold l9
 rw [List.mem_map]
 constructor
 ·rintro⟨l,hl,rfl⟩
  rw [tH,List.mem_map] at hl
  obtain⟨y,hy,rfl⟩:=hl
  exact hy
 ·intro hx
  exact⟨x.data.toList,(tH _ _).2 (List.mem_map.2 ⟨x,hx,rfl⟩),rfl⟩
end Go.Sp
