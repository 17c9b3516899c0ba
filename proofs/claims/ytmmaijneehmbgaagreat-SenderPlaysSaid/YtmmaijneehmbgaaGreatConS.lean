import Derived.Test.YtmmaijneehmbgaaGreatConQ
import Derived.Test.YtmmaijneehmbgaaGreatConV
import Derived.Sort.Walk0
set_option linter.all false
namespace Go.Sp
open Go Go.Proofs
def SrtW (xs:List ByteArray):Prop:=xs.Pairwise (fun a b=>sLt b a=false)
def SrtT (xs:List ByteArray):Prop:=xs.Pairwise (fun a b=>sLt a b=true)
theorem le_bl (x y:List UInt8):decide (x≤y) = !Op.bytesLess y x:=by
 have h:=bytesLess_eq y x
 rw [h,Bool.eq_iff_iff]
 simp only [decide_eq_true_eq,Bool.not_eq_true',decide_eq_false_iff_not]
 exact Iff.rfl
theorem srtS_perm (xs:List ByteArray):(srtS xs).Perm xs:=by
 have h:=(List.mergeSort_perm (xs.map (·.data.toList)) (fun x y=>decide (x≤y))).map (fun l=>(⟨l.toArray⟩:ByteArray))
 have e:(xs.map (·.data.toList)).map (fun l=>(⟨l.toArray⟩:ByteArray))=xs:=by
  rw [List.map_map]
  conv=>rhs; rw [← List.map_id xs]
  rfl
 rw [e] at h
 exact h
theorem srtS_mem (xs:List ByteArray) (x:ByteArray):x∈srtS xs↔x∈xs:=(srtS_perm xs).mem_iff
theorem srtS_srt (xs:List ByteArray):SrtW (srtS xs):=by
 unfold SrtW srtS
 rw [List.pairwise_map]
 have h:=List.pairwise_mergeSort (le:=fun x y:List UInt8=>decide (x≤y)) (fun a b c h1 h2=>by
  rw [le_bl] at h1 h2 ⊢
  have h1:sLt (⟨b.toArray⟩:ByteArray) ⟨a.toArray⟩=false:=by simpa [sLt] using h1
  have h2:sLt (⟨c.toArray⟩:ByteArray) ⟨b.toArray⟩=false:=by simpa [sLt] using h2
  have:=sLt_ntrans h1 h2
  simpa [sLt] using this) (fun a b=>by
  rw [le_bl,le_bl]
  cases h1:Op.bytesLess b a with
  | false=>rfl
  | true=>
   have h2:sLt (⟨b.toArray⟩:ByteArray) ⟨a.toArray⟩=true:=by simpa [sLt] using h1
   have h3:=sLt_asymm h2
   have h4:Op.bytesLess a b=false:=by simpa [sLt] using h3
   rw [h4]; rfl) (xs.map (·.data.toList))
 refine h.imp fun {a b} hab=>?_
 rw [le_bl] at hab
 simpa [sLt] using hab
theorem compact_mem (zs:List (List UInt8)) (x:List UInt8):x∈Lib.compact zs↔x∈zs:=by
 unfold Lib.compact Lib.compactUpTo
 rw [List.mem_map]
 constructor
 ·rintro ⟨j,hj,rfl⟩
  rw [List.mem_filter,List.mem_range] at hj
  rw [List.getElem!_toArray,getElem!_pos zs j hj.1]
  exact List.getElem_mem hj.1
 ·intro hx
  obtain ⟨i,hi,e⟩:=List.mem_iff_getElem.1 hx
  have:∃ j,(j<zs.length∧zs.toArray[j]! = x)∧∀ k,k<j→¬ zs.toArray[k]! = x:=by
   have h0:i<zs.length∧zs.toArray[i]! = x:=⟨hi,by rw [List.getElem!_toArray,getElem!_pos zs i hi]; exact e⟩
   clear e hi
   induction i using Nat.strongRecOn with
   | _ i ih=>
    by_cases h:∃ k,k<i∧zs.toArray[k]! = x
    ·obtain ⟨k,h1,h2⟩:=h; exact ih k h1 ⟨by omega,h2⟩
    ·exact ⟨i,h0,fun k h1 h2=>h ⟨k,h1,h2⟩⟩
  obtain ⟨j,⟨h1,h2⟩,h3⟩:=this
  refine ⟨j,?_,h2⟩
  rw [List.mem_filter,List.mem_range]
  refine ⟨h1,?_⟩
  unfold Lib.keeps
  rw [decide_eq_true_eq]
  by_cases h4:j=0
  ·exact .inl h4
  ·exact .inr (by rw [h2]; exact fun h=>h3 (j-1) (by omega) h.symm)
theorem cmpctS_mem (xs:List ByteArray) (x:ByteArray):x∈cmpctS xs↔x∈xs:=by
 unfold cmpctS
 rw [List.mem_map]
 constructor
 ·rintro ⟨l,hl,rfl⟩
  rw [compact_mem,List.mem_map] at hl
  obtain ⟨y,hy,rfl⟩:=hl
  exact hy
 ·intro hx
  exact ⟨x.data.toList,(compact_mem _ _).2 (List.mem_map.2 ⟨x,hx,rfl⟩),rfl⟩
theorem cmpctS_srt {xs:List ByteArray} (h:SrtW xs):SrtT (cmpctS xs):=by
 unfold SrtT cmpctS Lib.compact Lib.compactUpTo
 rw [List.map_map,List.pairwise_map]
 have hr:((List.range (xs.map (·.data.toList)).length).filter (Lib.keeps (xs.map (·.data.toList)).toArray)).Pairwise (fun a b=>a<b∧b<xs.length∧Lib.keeps (xs.map (·.data.toList)).toArray b=true):=by
  refine List.Pairwise.imp_of_mem ?_ (List.Pairwise.filter _ (List.pairwise_lt_range (n:=(xs.map (·.data.toList)).length)))
  intro a b ha hb hab
  rw [List.mem_filter,List.mem_range] at hb
  exact ⟨hab,by simpa using hb.1,hb.2⟩
 have hg:∀ i,(hi:i<xs.length)→(xs.map (·.data.toList)).toArray[i]! = xs[i].data.toList:=fun i hi=>by
  rw [List.getElem!_toArray,getElem!_pos _ i (by simpa using hi),List.getElem_map]
 refine hr.imp fun {a b} ⟨h1,h2,h3⟩=>?_
 have e:∀ s:ByteArray,(⟨s.data.toList.toArray⟩:ByteArray)=s:=fun s=>rfl
 simp only [Function.comp]
 rw [hg a (by omega),hg b h2]
 unfold Lib.keeps at h3
 rw [decide_eq_true_eq] at h3
 have h4:=h3.resolve_left (by omega)
 rw [hg b h2,hg (b-1) (by omega)] at h4
 have h5:sLt xs[b] xs[b-1]=false:=List.pairwise_iff_getElem.1 h (b-1) b (by omega) h2 (by omega)
 have h6:sLt xs[b-1] xs[b]=true:=by
  cases h7:sLt xs[b-1] xs[b] with
  | true=>rfl
  | false=>exact absurd (congrArg (fun s:ByteArray=>s.data.toList) (sLt_conn h5 h7)) h4
 have h8:sLt xs[a] xs[b]=true:=by
  by_cases h9:a=b-1
  ·subst h9; exact h6
  ·have h10:sLt xs[b-1] xs[a]=false:=List.pairwise_iff_getElem.1 h a (b-1) (by omega) (by omega) (by omega)
   cases h11:sLt xs[a] xs[b] with
   | true=>rfl
   | false=>have:=sLt_ntrans h11 h10; rw [h6] at this; exact absurd this (by simp)
 exact h8
theorem srtT_ext:∀ {xs ys:List ByteArray},SrtT xs→SrtT ys→(∀ x,x∈xs↔x∈ys)→xs=ys
 | [],[],_,_,_=>rfl
 | [],y::ys,_,_,h=>absurd ((h y).2 (List.mem_cons_self ..)) (by simp)
 | x::xs,[],_,_,h=>absurd ((h x).1 (List.mem_cons_self ..)) (by simp)
 | x::xs,y::ys,hx,hy,h=>by
  unfold SrtT at hx hy
  rw [List.pairwise_cons] at hx hy
  have e:x=y:=by
   rcases List.mem_cons.1 ((h x).1 (List.mem_cons_self ..)) with e | hxm
   ·exact e
   ·rcases List.mem_cons.1 ((h y).2 (List.mem_cons_self ..)) with e | hym
    ·exact e.symm
    ·have:=sLt_asymm (hx.1 y hym); rw [hy.1 x hxm] at this; cases this
  subst e
  have ht:xs=ys:=srtT_ext hx.2 hy.2 fun z=>by
   constructor
   ·intro hz
    rcases List.mem_cons.1 ((h z).1 (List.mem_cons_of_mem _ hz)) with e | hz'
    ·subst e; have:=hx.1 z hz; rw [sLt_irrefl] at this; cases this
    ·exact hz'
   ·intro hz
    rcases List.mem_cons.1 ((h z).2 (List.mem_cons_of_mem _ hz)) with e | hz'
    ·subst e; have:=hy.1 z hz; rw [sLt_irrefl] at this; cases this
    ·exact hz'
  rw [ht]
theorem srtS_nodup {xs:List ByteArray} (h:xs.Nodup):SrtT (srtS xs):=by
 have hn:(srtS xs).Nodup:=(srtS_perm xs).nodup_iff.2 h
 unfold SrtT
 refine List.Pairwise.imp_of_mem ?_ ((srtS_srt xs).and hn)
 intro a b _ _ ⟨h1,h2⟩
 cases h3:sLt a b with
 | true=>rfl
 | false=>exact absurd (sLt_conn h3 h1) h2
end Go.Sp
