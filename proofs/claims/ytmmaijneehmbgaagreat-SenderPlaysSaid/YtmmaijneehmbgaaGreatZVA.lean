import Derived.Test.YtmmaijneehmbgaaGreatZOk
import Derived.Test.YtmmaijneehmbgaaGreatConY
import Derived.Test.YtmmaijneehmbgaaGreatConV
set_option linter.all false
set_option maxRecDepth 10000
namespace Go.Proofs.YtmmaijneehmbgaaGreat
open Go Go.Sp
def allp (p:Nat→Bool) (x n:Nat):Bool:=(List.range' x (n-x)).all p
theorem allp_end {p:Nat→Bool} {n:Nat}:allp p n n=true:=by simp [allp]
theorem allp_step {p:Nat→Bool} {x n:Nat} (h:x<n):allp p x n=(p x&&allp p (x+1) n):=by
 unfold allp
 have e:n-x=(n-(x+1))+1:=by omega
 rw [e,List.range'_succ,List.all_cons]
theorem allp_iff {p:Nat→Bool} {x n:Nat}:allp p x n=true↔∀ i,x≤i→i<n→p i=true:=by
 simp only [allp,List.all_eq_true,List.mem_range'_1]
 exact ⟨fun h i h1 h2=>h i ⟨h1,by omega⟩,fun h i hi=>h i hi.1 (by omega)⟩
theorem allp_congr {p q:Nat→Bool} {x y n m:Nat} (h:n-x=m-y) (e:∀ i,i<n-x→p (x+i)=q (y+i)):allp p x n=allp q y m:=by
 rw [Bool.eq_iff_iff,allp_iff,allp_iff]
 constructor
 ·intro k i h1 h2
  have h3:=k (x+(i-y)) (by omega) (by omega)
  rw [e (i-y) (by omega)] at h3
  rwa [show y+(i-y)=i by omega] at h3
 ·intro k i h1 h2
  have h3:=k (y+(i-x)) (by omega) (by omega)
  rw [← e (i-x) (by omega)] at h3
  rwa [show x+(i-x)=i by omega] at h3
theorem el_all {β:Type} {F:Nat→Nat→Nat→Option ((Int×Bool) ⊕ β)} {p:Nat→Bool} {bad:β} {n:Nat}
  (h0:El (fun k j=>F k j n) (.inl ((n:Int),false)))
  (h1:∀ x,x<n→p x=false→El (fun k j=>F k j x) (.inr bad))
  (h2:∀ x r,x<n→p x=true→El (fun k j=>F k j (x+1)) r→El (fun k j=>F k j x) r):
  ∀ d x,n-x=d→x≤n→El (fun k j=>F k j x) (if allp p x n then .inl ((n:Int),false) else .inr bad):=by
 intro d
 induction d with
 | zero=>
      intro x hd hx; obtain rfl:x=n:=by omega
      rw [allp_end]; exact h0
 | succ d ih=>
  intro x hd hx
  rw [allp_step (by omega)]
  cases hp:p x with
  | false=>simpa using h1 x (by omega) hp
  | true=>simpa using h2 x _ (by omega) hp (ih (x+1) (by omega) (by omega))
theorem bt_le (s:ByteArray) (m:Int):0≤bt s m∧bt s m≤255:=by
 unfold bt
 have:=UInt8.toNat_lt (s.data.getD m.toNat 0)
 omega
theorem bt_ext {s:ByteArray} {a b i:Nat} (h:i<b-a) (hb:b≤s.size):bt (s.extract a b) (i:Int)=bt s ((a+i:Nat):Int):=by
 unfold bt
 rw [ByteArray.data_extract,Array.getD_eq_getD_getElem?,Array.getD_eq_getD_getElem?,Array.getElem?_extract,Int.toNat_natCast,Int.toNat_natCast]
 have hs:s.data.size=s.size:=rfl
 rw [if_pos (by omega)]
theorem size_ext {s:ByteArray} {a b:Nat} (hb:b≤s.size):(s.extract a b).size=b-a:=by
 rw [ByteArray.size_extract,Nat.min_eq_left hb]
theorem pre1 {s:ByteArray} {c:UInt8} (h:1≤s.size):decide (s.extract 0 1=⟨#[c]⟩)=(bt s 0==(c.toNat:Int)):=by
 rw [Bool.eq_iff_iff]
 simp only [decide_eq_true_eq,beq_iff_eq]
 constructor
 ·intro e
  have h1:=bt_ext (s:=s) (a:=0) (b:=1) (i:=0) (by omega) h
  rw [e] at h1
  exact h1.symm
 ·intro e
  apply ByteArray.ext
  rw [ByteArray.data_extract]
  have hs:s.data.size=s.size:=rfl
  apply Array.ext
  ·simp; omega
  ·intro i h1 h2
   have h3:i=0:=by simp at h2; omega
   subst h3
   rw [Array.getElem_extract]
   simp only [Nat.zero_add,List.getElem_toArray,List.getElem_cons_zero]
   unfold bt at e
   rw [Array.getD_eq_getD_getElem?,Int.toNat_zero,Array.getElem?_eq_getElem (by omega)] at e
   exact UInt8.toNat_inj.1 (by exact_mod_cast e)
def low (c:Int):Bool:=(decide (97≤c)&&decide (c≤122))||(decide (48≤c)&&decide (c≤57))
theorem low_ev (c:Int):r01_low.f c=some (low c):=by
 unfold r01_low.f low
 by_cases h1:97≤c <;> by_cases h2:c≤122 <;> by_cases h3:48≤c <;> simp [h1,h2,h3]
theorem small_ev (c:Int):name_small.f c=some (low c):=by
 unfold name_small.f low
 by_cases h1:97≤c <;> by_cases h2:c≤122 <;> by_cases h3:48≤c <;> simp [h1,h2,h3]
def chP (c:Int):Bool:=low c||c==46||c==45||c==95
def chS (c:Int):Bool:=low c||c==46||c==45
def chE (c:Int):Bool:=low c||(decide (65≤c)&&decide (c≤90))||c==45||c==95
theorem among_ev {c:Int} {t:ByteArray} (q:Int→Bool) (h0:0≤c) (h1:c≤255) (hq:(List.range 256).all (fun n=>(low (n:Int)||decide (0≤idxB t (n:Int)))==q (n:Int))=true):name_among_1.f c t=some (q c):=by
 unfold name_among_1.f strings_IndexByte.f stringslite_IndexByte.f
 rw [small_ev]
 have:=List.all_eq_true.1 hq c.toNat (List.mem_range.2 (by omega))
 rw [Int.toNat_of_nonneg h0,beq_iff_eq] at this
 rw [← this]
 simp only [Option.bind_some]
 cases low c <;> simp
theorem amongP {c:Int} (h0:0≤c) (h1:c≤255):name_among_1.f c ⟨#[46,45,95]⟩=some (chP c):=among_ev chP h0 h1 (by kernel_rfl)
theorem amongS {c:Int} (h0:0≤c) (h1:c≤255):name_among_1.f c ⟨#[46,45]⟩=some (chS c):=among_ev chS h0 h1 (by kernel_rfl)
theorem amongE {c:Int} (h0:0≤c) (h1:c≤255):name_among_1.f c ⟨#[45,95,65,66,67,68,69,70,71,72,73,74,75,76,77,78,79,80,81,82,83,84,85,86,87,88,89,90]⟩=some (chE c):=among_ev chE h0 h1 (by kernel_rfl)
def mayB (q:Int→Bool) (s:ByteArray):Bool:=allp (fun i=>q (bt s (i:Int))) 0 s.size&&(decide (0<s.size)&&decide (s.size≤16))
theorem mayq_ev {s:ByteArray} (n:Int) (q:Int→Bool) (hs:s.size≤maxLen) (h0:0≤n∧n<3)
  (hq:∀ c,0≤c→c≤255→(fK_uint8_bool.at ([fun a=>name_among_1.f a ⟨#[46,45,95]⟩,fun a=>name_among_1.f a ⟨#[46,45]⟩,fun a=>name_among_1.f a ⟨#[45,95,65,66,67,68,69,70,71,72,73,74,75,76,77,78,79,80,81,82,83,84,85,86,87,88,89,90]⟩]:List (Int→Option Bool)) n) c=some (q c)):Ev (fun k=>name_may.f k s n) (mayB q s):=by
 have hs2:s.size≤9223372036854775807:=hs
 unfold name_may.f name_among.f
 simp only [Option.bind_some]
 refine Ev.grd h0 (Ev.bind (a:=if allp (fun i=>q (bt s (i:Int))) 0 s.size then .inl ((s.size:Int),false) else .inr false) ?_ ?_)
 ·refine El.diag (el_all (F:=fun k j x=>name_may.l0 k s n _ _ _ j (x:Int)) (p:=fun i=>q (bt s (i:Int))) (n:=s.size) ?_ ?_ ?_ s.size 0 (by omega) (by omega))
  ·refine El.step (fun _ _=>by rw [name_may.l0]) ?_
   exact El.cf (by simp) (by simpa using El.pure)
  ·intro x hx hp
   refine El.step (fun _ _=>by rw [name_may.l0]) ?_
   refine El.ct (by simpa using hx) (El.grd ⟨by omega,by omega⟩ ?_)
   refine El.bind (Ev.el (Ev.of (hq _ (bt_le _ _).1 (bt_le _ _).2))) ?_
   exact El.ct (by simp [hp]) El.pure
  ·intro x r hx hp ih
   refine El.step (fun _ _=>by rw [name_may.l0]) ?_
   refine El.ct (by simpa using hx) (El.grd ⟨by omega,by omega⟩ ?_)
   refine El.bind (Ev.el (Ev.of (hq _ (bt_le _ _).1 (bt_le _ _).2))) ?_
   refine El.cf (by simp [hp]) ?_
   rw [w64_id (x:=(x:Int)+1) (by omega) (by omega)]
   exact ih
 ·unfold mayB
  cases allp (fun i=>q (bt s (i:Int))) 0 s.size with
  | false=>exact Ev.of rfl
  | true=>
   by_cases h:s=⟨#[]⟩
   ·subst h; exact Ev.of rfl
   ·have h3:0<s.size:=by
     rcases Nat.eq_zero_or_pos s.size with h4 | h4
     ·exact absurd (ByteArray.ext (Array.eq_empty_of_size_eq_zero h4)) h
     ·exact h4
    refine Ev.ct (by simp [h]) (Ev.of ?_)
    simp [h3]; omega
theorem mayP {s:ByteArray} (hs:s.size≤maxLen):Ev (fun k=>name_may.f k s 0) (mayB chP s):=mayq_ev 0 chP hs (by omega) fun c h0 h1=>amongP h0 h1
theorem mayS {s:ByteArray} (hs:s.size≤maxLen):Ev (fun k=>name_may.f k s 1) (mayB chS s):=mayq_ev 1 chS hs (by omega) fun c h0 h1=>amongS h0 h1
theorem mayE {s:ByteArray} (hs:s.size≤maxLen):Ev (fun k=>name_may.f k s 2) (mayB chE s):=mayq_ev 2 chE hs (by omega) fun c h0 h1=>amongE h0 h1
theorem cutp {s:ByteArray} {c:UInt8} (hs:s.size≤maxLen):strings_CutPrefix.f s ⟨#[c]⟩=some (if decide (1≤s.size)&&(bt s 0==(c.toNat:Int)) then (s.extract 1 s.size,true) else (s,false)):=by
 have hs2:s.size≤9223372036854775807:=hs
 unfold strings_CutPrefix.f stringslite_CutPrefix.f stringslite_HasPrefix.f
 have e1:(⟨#[c]⟩:ByteArray).size=1:=rfl
 simp only [e1]
 by_cases h:1≤s.size
 ·have h2:((1:Nat):Int)≤(s.size:Int):=by omega
  rw [decide_eq_true h2]
  simp only [cond_true,grd]
  rw [if_pos ⟨by omega,by omega,by omega⟩]
  simp only [Option.bind_some]
  rw [show (((1:Nat):Int)).toNat=1 from rfl,pre1 h]
  cases bt s 0==(c.toNat:Int) with
  | false=>simp
  | true=>simp [h]
 ·have h2:¬ ((1:Nat):Int)≤(s.size:Int):=by omega
  rw [decide_eq_false h2]
  simp [h]
def eventB (s:ByteArray):Bool:=decide (2≤s.size)&&decide (s.size≤17)&&(bt s 0==36)&&allp (fun i=>chE (bt s (i:Int))) 1 s.size
theorem event1 {s:ByteArray} (hs:s.size≤maxLen):Ev (fun k=>name_Event.f k s) (eventB s):=by
 have hs2:s.size≤9223372036854775807:=hs
 unfold name_Event.f
 rw [cutp hs]
 simp only [Option.bind_some]
 by_cases h:1≤s.size
 ·cases h2:(bt s 0==((36:UInt8).toNat:Int)) with
  | false=>
   refine Ev.cf (by simp) (Ev.of ?_)
   have:(bt s 0==36)=false:=h2
   simp [eventB,this]
  | true=>
   refine Ev.ct (by simp [h]) ?_
   have h3:(bt s 0==36)=true:=h2
   have e:eventB s=mayB chE (s.extract 1 s.size):=by
    unfold eventB mayB
    rw [size_ext (Nat.le_refl _),h3]
    have e1:allp (fun i=>chE (bt s (i:Int))) 1 s.size=allp (fun i=>chE (bt (s.extract 1 s.size) (i:Int))) 0 (s.size-1):=allp_congr (by omega) fun i hi=>by
     rw [show ((0+i:Nat))=i by omega,bt_ext (by omega) (Nat.le_refl _)]
    rw [e1,Bool.and_comm]
    have a1:decide (2≤s.size)=decide (0<s.size-1):=by rw [decide_eq_decide]; omega
    have a2:decide (s.size≤17)=decide (s.size-1≤16):=by rw [decide_eq_decide]; omega
    rw [a1,a2]; simp
   rw [e]
   simp only [h,decide_true,Bool.true_and,if_true]
   refine Ev.bind (mayE (by rw [size_ext (Nat.le_refl _)]; show _≤9223372036854775807; omega)) Ev.pure
 ·have h4:¬ 2≤s.size:=by omega
  refine Ev.cf (by simp [h]) (Ev.of ?_)
  simp [eventB,h4]
theorem event2 {s:ByteArray} (hs:s.size≤maxLen):Ev (fun k=>r01_Event.f k s) (eventB s):=by
 have hs2:s.size≤9223372036854775807:=hs
 unfold r01_Event.f eventB
 by_cases h1:2≤s.size
 ·by_cases h2:s.size≤17
  ·refine Ev.cf (by simp; omega) (Ev.cf (by simp; omega) (Ev.grd ⟨by omega,by omega⟩ ?_))
   cases h3:(bt s 0==36) with
   | false=>exact Ev.ct (by simpa [bne] using h3) (Ev.of (by simp))
   | true=>
    refine Ev.cf (by simpa [bne] using h3) ?_
    refine Ev.bind (a:=if allp (fun i=>chE (bt s (i:Int))) 1 s.size then .inl ((s.size:Int),false) else .inr false) ?_ ?_
    ·refine El.diag (el_all (F:=fun k j x=>r01_Event.l0 k s j (x:Int)) (p:=fun i=>chE (bt s (i:Int))) (n:=s.size) ?_ ?_ ?_ (s.size-1) 1 (by omega) (by omega))
     ·refine El.step (fun _ _=>by rw [r01_Event.l0]) ?_
      exact El.cf (by simp) (by simpa using El.pure)
     all_goals
      intro x
     ·intro hx hp
      refine El.step (fun _ _=>by rw [r01_Event.l0]) ?_
      refine El.ct (by simpa using hx) (El.grd ⟨by omega,by omega⟩ ?_)
      refine El.bind (Ev.el (Ev.of (low_ev _))) ?_
      simp only [chE,Bool.or_eq_false_iff] at hp
      obtain ⟨⟨⟨p1,p2⟩,p3⟩,p4⟩:=hp
      have q3:(bt s (x:Int) != 45)=true:=by simpa [bne] using p3
      have q4:(bt s (x:Int) != 95)=true:=by simpa [bne] using p4
      refine El.grd ⟨by omega,by omega⟩ (El.cond (fun c1=>El.grd ⟨by omega,by omega⟩ (El.ct (by simp [p1]) (El.ct ?_ ?_))) fun c1=>El.ct (by simp [p1]) ?_)
      ·rw [c1] at p2; simpa using p2
      ·exact El.grd ⟨by omega,by omega⟩ (El.ct q3 (El.grd ⟨by omega,by omega⟩ (El.ct q4 El.pure)))
      ·exact El.grd ⟨by omega,by omega⟩ (El.ct q3 (El.grd ⟨by omega,by omega⟩ (El.ct q4 El.pure)))
     ·intro r hx hp ih
      have ih2:El (fun k j=>r01_Event.l0 k s j (w64 ((x:Int)+1))) r:=by rw [w64_id (x:=(x:Int)+1) (by omega) (by omega)]; exact ih
      refine El.step (fun _ _=>by rw [r01_Event.l0]) ?_
      refine El.ct (by simpa using hx) (El.grd ⟨by omega,by omega⟩ ?_)
      refine El.bind (Ev.el (Ev.of (low_ev _))) ?_
      have g:(0:Int)≤(x:Int)∧(x:Int)<(s.size:Int):=⟨by omega,by omega⟩
      refine El.grd g (El.cond (fun c1=>El.grd g (El.cond (fun c2=>El.cond (fun c3=>El.grd g (El.cond (fun c4=>El.grd g (El.cond (fun c5=>?_) fun c5=>ih2)) fun c4=>ih2)) fun c3=>ih2) fun c2=>ih2)) fun c1=>El.cond (fun c2=>El.grd g (El.cond (fun c4=>El.grd g (El.cond (fun c5=>?_) fun c5=>ih2)) fun c4=>ih2)) fun c2=>ih2)
      all_goals
       exfalso
       simp only [chE,bne,Bool.not_eq_true',Bool.or_eq_true] at *
       first | (simp_all; done) | (simp_all; omega)
    ·cases allp (fun i=>chE (bt s (i:Int))) 1 s.size with
     | false=>exact Ev.of (by simp [fall])
     | true=>exact Ev.of (by simp [fall,h1,h2])
  ·exact Ev.cf (by simp; omega) (Ev.ct (by simp; omega) (Ev.of (by simp [h2])))
 ·exact Ev.ct (by simp; omega) (Ev.of (by simp [h1]))
end Go.Proofs.YtmmaijneehmbgaaGreat
