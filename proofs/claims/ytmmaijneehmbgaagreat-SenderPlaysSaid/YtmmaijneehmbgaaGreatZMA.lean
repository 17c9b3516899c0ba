import Derived.Test.YtmmaijneehmbgaaGreatZVB
import Derived.Test.YtmmaijneehmbgaaGreatZRP
import Derived.Test.YtmmaijneehmbgaaGreatZPU
set_option linter.all false
set_option maxRecDepth 10000
namespace Go.Proofs.YtmmaijneehmbgaaGreat
open Go Go.Sp
theorem named_idx {s:ByteArray} {c:UInt8} (h:namedB s c=true):∃ j:Nat,idxB s 58=(j:Int)∧j<s.size:=by
 rcases idx_rng s with e | h2
 ·exfalso
  unfold namedB at h
  split at h
  ·have hf:=fi_idx s 58
   rw [show (((58:UInt8).toNat:Int))=58 from rfl] at hf
   have hft:=fi_idx (s.extract 1 s.size) 58
   rw [show (((58:UInt8).toNat:Int))=58 from rfl] at hft
   have:idxB (s.extract 1 s.size) 58 = -1:=by
    refine fi_uniq hft (.inl ⟨rfl,fun i hi=>?_⟩)
    rw [size_ext (Nat.le_refl _)] at hi
    rw [bt_ext (by omega) (Nat.le_refl _)]
    rcases hf with ⟨_,h3⟩ | ⟨j,e',_⟩
    ·exact h3 (1+i) (by omega)
    ·omega
   simp only [this] at h
   cases h
  ·cases h
 ·exact h2
def homeB (s:ByteArray):ByteArray:=if namedB s 64=true∨namedB s 33=true then s.extract ((idxB s 58).toNat+1) s.size else ⟨#[]⟩
theorem home1 {s:ByteArray} (hs:s.size≤maxLen):Ev (fun k=>name_Home.f k s) (homeB s):=by
 unfold name_Home.f homeB
 have fin:∀ {c},namedB s c=true→Ev (fun _=>(strings_Cut.f s (⟨#[58]⟩:ByteArray)).bind fun t=>some t.2.1) (s.extract ((idxB s 58).toNat+1) s.size):=fun {c} h=>by
  obtain ⟨j,e,hj⟩:=named_idx h
  refine Ev.bind (Ev.of (cut_ev hs)) (Ev.of ?_)
  rw [if_pos (by omega)]
 refine Ev.bind (nuser1 hs) ?_
 cases h:namedB s 64 with
 | true=>
  rw [if_pos (.inl rfl)]
  exact Ev.cf rfl (fin h)
 | false=>
  refine Ev.ct rfl (Ev.bind (nroom1 hs) ?_)
  cases h2:namedB s 33 with
  | true=>rw [if_pos (.inr rfl)]; exact Ev.cf rfl (fin h2)
  | false=>rw [if_neg (by simp)]; exact Ev.ct rfl Ev.pure
theorem home2 {s:ByteArray} (hs:s.size≤maxLen):Ev (fun k=>r01_Home.f k s) (homeB s):=by
 have hs2:s.size≤9223372036854775807:=hs
 unfold r01_Home.f homeB
 have fin:∀ {c},namedB s c=true→Ev (fun k=>(r01_colon.f k s).bind fun t209=>grd ((0:Int)≤(w64 (t209+1))∧(w64 (t209+1)).toNat≤s.size∧s.size≤s.size) (some (s.extract (w64 (t209+1)).toNat s.size))) (s.extract ((idxB s 58).toNat+1) s.size):=fun {c} h=>by
  obtain ⟨j,e,hj⟩:=named_idx h
  refine Ev.bind (colon_ev hs) ?_
  rw [e,w64_id (by omega) (by omega)]
  refine Ev.grd ⟨by omega,by omega,Nat.le_refl _⟩ (Ev.of ?_)
  congr 2
 refine Ev.bind (named2 (c:=64) (by decide) hs) (Ev.bind (named2 (c:=33) (by decide) hs) ?_)
 cases h:namedB s 64 with
 | true=>
  rw [if_pos (.inl rfl)]
  exact Ev.cf rfl (fin h)
 | false=>
  refine Ev.ct rfl ?_
  cases h2:namedB s 33 with
  | true=>rw [if_pos (.inr rfl)]; exact Ev.cf rfl (fin h2)
  | false=>rw [if_neg (by simp)]; exact Ev.ct rfl Ev.pure
def homesL (us:List ByteArray):List ByteArray:=(us.map homeB).filter fun h=>!decide (h=(⟨#[]⟩:ByteArray))
theorem homesL_no {x:ByteArray} {l:List ByteArray} (h:homeB x=⟨#[]⟩):homesL (x::l)=homesL l:=by simp [homesL,h]
theorem homesL_yes {x:ByteArray} {l:List ByteArray} (h:¬ homeB x=⟨#[]⟩):homesL (x::l)=homeB x::homesL l:=by simp [homesL,h]
theorem homesL_len (us:List ByteArray):(homesL us).length≤us.length:=by
 have:=List.length_filter_le (fun h=>!decide (h=(⟨#[]⟩:ByteArray))) (us.map homeB)
 rw [List.length_map] at this; exact this
theorem drop_at {us:List ByteArray} {m:Nat} (h:m<us.length):us.drop m=us.getD m ⟨#[]⟩::us.drop (m+1):=by
 rw [List.drop_eq_getElem_cons h,List.getD_eq_getElem?_getD,List.getElem?_eq_getElem h]; rfl
theorem getD_in {us:List ByteArray} {m:Nat} (h:m<us.length):us.getD m ⟨#[]⟩∈us:=by
 rw [List.getD_eq_getElem?_getD,List.getElem?_eq_getElem h]; exact List.getElem_mem h
theorem homes1_loop {us:List ByteArray} (hu:∀ u∈us,u.size≤maxLen) (hl:us.length≤100000):∀ n m:Nat,us.length-m=n→m≤us.length→∀ out:List ByteArray,out.length≤m→
  El (fun k j=>member_Homes.l0 k us j (m:Int) out) ((us.length:Int),false,out++homesL (us.drop m)):=by
 intro n
 induction n with
 | zero=>
  intro m hd hm out ho
  obtain rfl:m=us.length:=by omega
  refine El.step (fun _ _=>by rw [member_Homes.l0]) ?_
  refine El.cf (decide_eq_false (by omega)) ?_
  rw [List.drop_length]
  simpa [homesL] using El.pure
 | succ n ih=>
  intro m hd hm out ho
  have hlt:m<us.length:=by omega
  refine El.step (fun _ _=>by rw [member_Homes.l0]) ?_
  simp only [rp_inc (show m≤1000000 by omega),rp_at]
  have hx:=hu _ (getD_in hlt)
  rw [drop_at hlt]
  generalize us.getD m ⟨#[]⟩=x at hx ⊢
  refine El.ct (decide_eq_true (by omega)) (El.grd ⟨by omega,by omega⟩ (El.bind (home1 hx).el ?_))
  by_cases h:homeB x=⟨#[]⟩
  ·rw [homesL_no h]
   exact El.cf (by simp [h]) (ih (m+1) (by omega) (by omega) out (by omega))
  ·refine El.ct (by simp [h]) (El.grd ⟨by simp only [List.length_singleton]; omega,by simp only [List.length_singleton]; omega⟩ ?_)
   have:=ih (m+1) (by omega) (by omega) (out++[homeB x]) (by simp; omega)
   rw [homesL_yes h]
   rw [List.append_assoc] at this
   exact this
theorem homes2_loop {us:List ByteArray} (hu:∀ u∈us,u.size≤maxLen) (hl:us.length≤10000):∀ n m:Nat,us.length-m=n→m≤us.length→∀ out:List ByteArray,out.length≤m→SrtT out→
  ∃ r,El (fun k j=>r09_Homes.l0 k us j (m:Int) out) ((us.length:Int),false,r)∧SrtT r∧r.length≤us.length∧∀ x,x∈r↔x∈out∨x∈homesL (us.drop m):=by
 intro n
 induction n with
 | zero=>
  intro m hd hm out ho hs
  obtain rfl:m=us.length:=by omega
  refine ⟨out,?_,hs,ho,fun x=>by rw [List.drop_length]; simp [homesL]⟩
  refine El.step (fun _ _=>by rw [r09_Homes.l0]) ?_
  refine El.cf (decide_eq_false (by omega)) ?_
  simpa using El.pure
 | succ n ih=>
  intro m hd hm out ho hs
  have hlt:m<us.length:=by omega
  have hx:=hu _ (getD_in hlt)
  have hat:=rp_at us m
  rw [drop_at hlt]
  generalize us.getD m ⟨#[]⟩=x at hx hat ⊢
  by_cases h:homeB x=⟨#[]⟩
  ·obtain ⟨r,r1,r2,r3,r4⟩:=ih (m+1) (by omega) (by omega) out (by omega) hs
   refine ⟨r,?_,r2,r3,fun x=>by rw [r4,homesL_no h]⟩
   refine El.step (fun _ _=>by rw [r09_Homes.l0]) ?_
   simp only [rp_inc (show m≤1000000 by omega),hat]
   exact El.ct (decide_eq_true (by omega)) (El.grd ⟨by omega,by omega⟩ (El.bind (home2 hx).el (El.cf (by simp [h]) r1)))
  ·obtain ⟨r,r1,r2,r3,r4⟩:=ih (m+1) (by omega) (by omega) (putG (homeB x) false out) (by have:=putG_len (homeB x) out false; omega) (putG_srt hs)
   refine ⟨r,?_,r2,r3,fun y=>?_⟩
   ·refine El.step (fun _ _=>by rw [r09_Homes.l0]) ?_
    simp only [rp_inc (show m≤1000000 by omega),hat]
    exact El.ct (decide_eq_true (by omega)) (El.grd ⟨by omega,by omega⟩ (El.bind (home2 hx).el (El.ct (by simp [h]) (El.bind (putR_ev out _ (by omega)).el r1))))
   ·rw [r4,putG_mem,homesL_yes h,List.mem_cons]
    by_cases hy:y=homeB x
    ·simp [hy]
    ·simp [hy]
theorem homes_both {us:List ByteArray} (hu:∀ u∈us,u.size≤maxLen) (hl:us.length≤10000):∃ r,Ev (fun k=>member_Homes.f k us) r∧Ev (fun k=>r09_Homes.f k us) r∧SrtT r∧r.length≤us.length∧∀ x,x∈r↔x∈homesL us:=by
 obtain ⟨r,r1,r2,r3,r4⟩:=homes2_loop hu hl _ 0 rfl (by omega) [] (by simp) List.Pairwise.nil
 have h1:=homes1_loop hu (by omega) _ 0 rfl (by omega) [] (by simp)
 rw [List.nil_append,List.drop_zero] at h1
 have r4:∀ x,x∈r↔x∈homesL us:=fun x=>by rw [r4]; simp
 have e:cmpctS (srtS (homesL us))=r:=srtT_ext (cmpctS_srt (srtS_srt _)) r2 fun x=>by rw [cmpctS_mem,srtS_mem,r4]
 refine ⟨r,?_,?_,r2,r3,r4⟩
 ·unfold member_Homes.f
  refine Ev.bind h1.diag (Ev.bind (a:=srtS (homesL us)) (Ev.grd (by have:=homesL_len us; show (homesL us).length<_; omega) Ev.pure) (Ev.bind (a:=r) (Ev.grd (by rw [srtS_len]; have:=homesL_len us; show (homesL us).length≤_; omega) (Ev.of (by rw [e]))) Ev.pure))
 ·unfold r09_Homes.f
  exact Ev.bind r1.diag Ev.pure
end Go.Proofs.YtmmaijneehmbgaaGreat
