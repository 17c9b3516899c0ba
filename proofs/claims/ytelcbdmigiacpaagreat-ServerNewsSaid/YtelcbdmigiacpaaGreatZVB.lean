import Derived.Test.YtelcbdmigiacpaaGreatZOk
set_option linter.all false
set_option maxRecDepth 10000
namespace Go.Proofs.YtelcbdmigiacpaaGreat
open Go Go.Sp
def allp (p:Nat→Bool) (x n:Nat):Bool:=(List.range' x (n - x)).all p
theorem allp_end {p:Nat→Bool} {n:Nat}:allp p n n = true:=by simp [allp]
theorem allp_step {p:Nat→Bool} {x n:Nat} (h:x < n):allp p x n = (p x && allp p (x + 1) n):=by
 unfold allp
 have e:n - x = (n - (x + 1)) + 1:=by omega
 rw [e,List.range'_succ,List.all_cons]
theorem allp_iff {p:Nat→Bool} {x n:Nat}:allp p x n = true↔∀ i,x≤i→i < n→p i = true:=by
 simp only [allp,List.all_eq_true,List.mem_range'_1]
 exact ⟨fun h i h1 h2=>h i ⟨h1,by omega⟩,fun h i hi=>h i hi.1 (by omega)⟩
theorem el_all {β:Type} {F:Nat→Nat→Nat→Option ((Int×Bool) ⊕ β)} {p:Nat→Bool} {bad:β} {n:Nat}
  (h0:El (fun k j=>F k j n) (.inl ((n:Int),false)))
  (h1:∀ x,x < n→p x = false→El (fun k j=>F k j x) (.inr bad))
  (h2:∀ x r,x < n→p x = true→El (fun k j=>F k j (x + 1)) r→El (fun k j=>F k j x) r):
  ∀ d x,n - x = d→x≤n→El (fun k j=>F k j x) (if allp p x n then .inl ((n:Int),false) else .inr bad):=by
 intro d
 induction d with
 | zero=>
      intro x hd hx; obtain rfl:x = n:=by omega
      rw [allp_end]; exact h0
 | succ d ih=>
  intro x hd hx
  rw [allp_step (by omega)]
  cases hp:p x with
  | false=>simpa using h1 x (by omega) hp
  | true=>simpa using h2 x _ (by omega) hp (ih (x + 1) (by omega) (by omega))
theorem bt_le (s:ByteArray) (m:Int):0≤bt s m∧bt s m≤255:=by
 unfold bt
 have:=UInt8.toNat_lt (s.data.getD m.toNat 0)
 omega
def low (c:Int):Bool:=(decide (97≤c) && decide (c≤122)) || (decide (48≤c) && decide (c≤57))
theorem low_ev (c:Int):r01_low.f c = some (low c):=by
 unfold r01_low.f low
 by_cases h1:97≤c <;> by_cases h2:c≤122 <;> by_cases h3:48≤c <;> simp [h1,h2,h3]
theorem small_ev (c:Int):name_small.f c = some (low c):=by
 unfold name_small.f low
 by_cases h1:97≤c <;> by_cases h2:c≤122 <;> by_cases h3:48≤c <;> simp [h1,h2,h3]
def chS (c:Int):Bool:=low c || c == 46 || c == 45
theorem among_ev {c:Int} {t:ByteArray} (q:Int→Bool) (h0:0≤c) (h1:c≤255) (hq:(List.range 256).all (fun n=>(low (n:Int) || decide (0≤idxB t (n:Int))) == q (n:Int)) = true):name_among_1.f c t = some (q c):=by
 unfold name_among_1.f strings_IndexByte.f stringslite_IndexByte.f
 rw [small_ev]
 have:=List.all_eq_true.1 hq c.toNat (List.mem_range.2 (by omega))
 rw [Int.toNat_of_nonneg h0,beq_iff_eq] at this
 rw [← this]
 simp only [Option.bind_some]
 cases low c <;> simp
theorem amongS {c:Int} (h0:0≤c) (h1:c≤255):name_among_1.f c ⟨#[46,45]⟩ = some (chS c):=among_ev chS h0 h1 (by kernel_rfl)
def mayB (q:Int→Bool) (s:ByteArray):Bool:=allp (fun i=>q (bt s (i:Int))) 0 s.size && (decide (0 < s.size) && decide (s.size≤16))
theorem mayq_ev {s:ByteArray} (n:Int) (q:Int→Bool) (hs:s.size≤maxLen) (h0:0≤n∧n < 3)
  (hq:∀ c,0≤c→c≤255→(fK_uint8_bool.at ([fun a=>name_among_1.f a ⟨#[46,45,95]⟩,fun a=>name_among_1.f a ⟨#[46,45]⟩,fun a=>name_among_1.f a ⟨#[45,95,65,66,67,68,69,70,71,72,73,74,75,76,77,78,79,80,81,82,83,84,85,86,87,88,89,90]⟩]:List (Int→Option Bool)) n) c = some (q c)):Ev (fun k=>name_may.f k s n) (mayB q s):=by
 have hs2:s.size≤9223372036854775807:=hs
 unfold name_may.f name_among.f
 simp only [Option.bind_some]
 refine Ev.grd h0 (Ev.bind (a:=if allp (fun i=>q (bt s (i:Int))) 0 s.size then .inl ((s.size:Int),false) else .inr false) ?_ ?_)
 ·refine El.diag (el_all (F:=fun k j x=>name_may.l0 k s n _ _ _ j (x:Int)) (p:=fun i=>q (bt s (i:Int))) (n:=s.size) ?_ ?_ ?_ s.size 0 (by omega) (by omega))
  ·refine El.step (fun _ _=>by rw [name_may.l0]) ?_
   exact El.cf (by simp) (by simpa using El.pure)
  ·intro x hx hp
   refine El.step (fun _ _=>by rw [name_may.l0]) ?_
   refine El.ct (by simpa using hx) (El.grd ⟨by omega,by omega⟩ ?_)
   refine El.bind (Ev.el (Ev.of (hq _ (bt_le _ _).1 (bt_le _ _).2))) ?_
   exact El.ct (by simp [hp]) El.pure
  ·intro x r hx hp ih
   refine El.step (fun _ _=>by rw [name_may.l0]) ?_
   refine El.ct (by simpa using hx) (El.grd ⟨by omega,by omega⟩ ?_)
   refine El.bind (Ev.el (Ev.of (hq _ (bt_le _ _).1 (bt_le _ _).2))) ?_
   refine El.cf (by simp [hp]) ?_
   rw [w64_id (x:=(x:Int) + 1) (by omega) (by omega)]
   exact ih
 ·unfold mayB
  cases allp (fun i=>q (bt s (i:Int))) 0 s.size with
  | false=>exact Ev.of rfl
  | true=>
   by_cases h:s = ⟨#[]⟩
   ·subst h; exact Ev.of rfl
   ·have h3:0 < s.size:=by
     rcases Nat.eq_zero_or_pos s.size with h4 | h4
     ·exact absurd (ByteArray.ext (Array.eq_empty_of_size_eq_zero h4)) h
     ·exact h4
    refine Ev.ct (by simp [h]) (Ev.of ?_)
    simp [h3]; omega
theorem mayS {s:ByteArray} (hs:s.size≤maxLen):Ev (fun k=>name_may.f k s 1) (mayB chS s):=mayq_ev 1 chS hs (by omega) fun c h0 h1=>amongS h0 h1
def serverB (s:ByteArray):Bool:=mayB chS s && (low (bt s 0) && low (bt s ((s.size:Int) - 1)))
theorem server1 {s:ByteArray} (hs:s.size≤maxLen):Ev (fun k=>name_Server.f k s) (serverB s):=by
 have hs2:s.size≤9223372036854775807:=hs
 unfold name_Server.f serverB
 refine Ev.bind (mayS hs) (Ev.cond (fun c=>?_) fun c=>Ev.of (by rw [c]; rfl))
 have c2:=c
 unfold mayB at c2
 have h1:0 < s.size:=by simp at c2; exact c2.2.1
 refine Ev.grd ⟨by omega,by omega⟩ (Ev.bind (Ev.of (small_ev _)) (Ev.cond (fun d=>?_) fun d=>Ev.of (by rw [c,d]; rfl)))
 rw [w64_id (x:=(s.size:Int) - 1) (by omega) (by omega)]
 refine Ev.grd ⟨by omega,by omega⟩ (Ev.bind (Ev.of (small_ev _)) (Ev.of (by rw [c,d]; simp)))
def srvp (s:ByteArray) (i:Nat):Bool:=low (bt s (i:Int)) || ((decide (0 < i) && decide ((i:Int) < (s.size:Int) - 1)) && (bt s (i:Int) == 46 || bt s (i:Int) == 45))
theorem serverB_eq (s:ByteArray):serverB s = (allp (srvp s) 0 s.size && (decide (0 < s.size) && decide (s.size≤16))):=by
 unfold serverB mayB
 by_cases h:0 < s.size
 ·have e:(allp (fun i=>chS (bt s (i:Int))) 0 s.size && (low (bt s 0) && low (bt s ((s.size:Int) - 1)))) = allp (srvp s) 0 s.size:=by
   rw [Bool.eq_iff_iff]
   simp only [Bool.and_eq_true,allp_iff]
   constructor
   ·rintro ⟨a,b,c⟩ i _ hi
    have:=a i (by omega) hi
    unfold srvp
    unfold chS at this
    by_cases i0:i = 0
    ·subst i0; rw [show ((0:Nat):Int) = 0 from rfl,b]; rfl
    ·by_cases i1:(i:Int) = (s.size:Int) - 1
     ·rw [i1,c]; rfl
     ·have j0:0 < i:=by omega
      have j1:(i:Int) < (s.size:Int) - 1:=by omega
      simp only [j0,j1,decide_true,Bool.and_self,Bool.true_and]
      rw [Bool.or_assoc] at this; exact this
   ·intro a
    have a0:=a 0 (by omega) h
    have a1:=a (s.size - 1) (by omega) (by omega)
    have e1:((s.size - 1:Nat):Int) = (s.size:Int) - 1:=by omega
    unfold srvp at a0 a1
    rw [e1] at a1
    refine ⟨fun i _ hi=>?_,by simpa using a0,by simpa using a1⟩
    have:=a i (by omega) hi
    unfold srvp at this
    unfold chS
    rw [Bool.or_assoc]
    simp only [Bool.or_eq_true,Bool.and_eq_true] at this ⊢
    rcases this with h1 | ⟨_,h1⟩
    ·exact .inl h1
    ·exact .inr h1
  rw [← e]
  cases allp (fun i=>chS (bt s (i:Int))) 0 s.size <;> simp [Bool.and_comm,Bool.and_left_comm]
 ·simp [h]
theorem server2 {s:ByteArray} (hs:s.size≤maxLen):Ev (fun k=>r01_Server.f k s) (serverB s):=by
 have hs2:s.size≤9223372036854775807:=hs
 rw [serverB_eq]
 unfold r01_Server.f
 refine Ev.bind (a:=if allp (srvp s) 0 s.size then .inl ((s.size:Int),false) else .inr false) ?_ ?_
 ·refine El.diag (el_all (F:=fun k j x=>r01_Server.l0 k s j (x:Int)) (p:=srvp s) (n:=s.size) ?_ ?_ ?_ s.size 0 (by omega) (by omega))
  ·refine El.step (fun _ _=>by rw [r01_Server.l0]) ?_
   exact El.cf (by simp) (by simpa using El.pure)
  ·intro x hx hp
   have g:(0:Int)≤(x:Int)∧(x:Int) < (s.size:Int):=⟨by omega,by omega⟩
   refine El.step (fun _ _=>by rw [r01_Server.l0]) ?_
   refine El.ct (by simpa using hx) (El.grd g ?_)
   refine El.bind (Ev.el (Ev.of (low_ev _))) ?_
   rw [w64_id (x:=(s.size:Int) - 1) (by omega) (by omega)]
   simp only [srvp,Bool.or_eq_false_iff] at hp
   obtain ⟨p1,p2⟩:=hp
   refine El.cond (fun c1=>El.cond (fun c2=>El.grd g (El.cond (fun c3=>?_) fun c3=>El.grd g (El.ct (by simp [p1]) (El.cond (fun c4=>El.pure) fun c4=>?_)))) fun c2=>El.ct (by simp [p1]) El.pure) fun c1=>El.ct (by simp [p1]) El.pure
   all_goals
    exfalso
    simp only [decide_eq_true_eq,beq_iff_eq,Bool.not_eq_false'] at c1 c2 c3
    have d1:0 < x:=by omega
    simp [d1,c2] at p2
    first | exact p2.1 c3 | (simp at c4; exact p2.2 c4)
  ·intro x r hx hp ih
   have ih2:El (fun k j=>r01_Server.l0 k s j (w64 ((x:Int) + 1))) r:=by rw [w64_id (x:=(x:Int) + 1) (by omega) (by omega)]; exact ih
   have g:(0:Int)≤(x:Int)∧(x:Int) < (s.size:Int):=⟨by omega,by omega⟩
   refine El.step (fun _ _=>by rw [r01_Server.l0]) ?_
   refine El.ct (by simpa using hx) (El.grd g ?_)
   refine El.bind (Ev.el (Ev.of (low_ev _))) ?_
   rw [w64_id (x:=(s.size:Int) - 1) (by omega) (by omega)]
   refine El.cond (fun c1=>El.cond (fun c2=>El.grd g (El.cond (fun c3=>El.cond (fun _=>ih2) fun _=>ih2) fun c3=>El.grd g (El.cond (fun c4=>El.cond (fun c5=>?_) fun c5=>ih2) fun c4=>ih2))) fun c2=>El.cond (fun c3=>?_) fun c3=>ih2) fun c1=>El.cond (fun c3=>?_) fun c3=>ih2
   ·exfalso
    simp only [srvp,Bool.or_eq_true,Bool.and_eq_true] at hp
    rcases hp with hp | ⟨_,hp | hp⟩
    ·rw [hp] at c4; cases c4
    ·rw [hp] at c3; cases c3
    ·rw [hp] at c5; cases c5
   ·exfalso
    simp only [srvp,Bool.or_eq_true,Bool.and_eq_true] at hp
    rcases hp with hp | ⟨⟨_,h2⟩,_⟩
    ·rw [hp] at c3; cases c3
    ·rw [h2] at c2; cases c2
   ·exfalso
    simp only [srvp,Bool.or_eq_true,Bool.and_eq_true] at hp
    rcases hp with hp | ⟨⟨h2,_⟩,_⟩
    ·rw [hp] at c3; cases c3
    ·have h3:0 < x:=by simpa using h2
     simp at c1; omega
 ·cases allp (srvp s) 0 s.size with
  | false=>exact Ev.of (by simp [fall])
  | true=>
   simp only [if_true,fall,Bool.true_and]
   refine Ev.cond (fun c=>Ev.of ?_) fun c=>Ev.of ?_
   ·have c1:0 < s.size:=by simpa using c
    simp [c1]; omega
   ·have c1:¬ 0 < s.size:=by simpa using c
    simp [c1]
end Go.Proofs.YtelcbdmigiacpaaGreat
