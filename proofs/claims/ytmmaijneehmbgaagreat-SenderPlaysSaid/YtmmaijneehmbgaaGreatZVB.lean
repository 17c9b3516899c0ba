import Derived.Test.YtmmaijneehmbgaaGreatZVA
set_option linter.all false
set_option maxRecDepth 10000
namespace Go.Proofs.YtmmaijneehmbgaaGreat
open Go Go.Sp
theorem part2 {s:ByteArray} (hs:s.size≤maxLen):Ev (fun k=>r01_Part.f k s) (mayB chP s):=by
 have hs2:s.size≤9223372036854775807:=hs
 unfold r01_Part.f mayB
 refine Ev.bind (a:=if allp (fun i=>chP (bt s (i:Int))) 0 s.size then .inl ((s.size:Int),false) else .inr false) ?_ ?_
 ·refine El.diag (el_all (F:=fun k j x=>r01_Part.l0 k s j (x:Int)) (p:=fun i=>chP (bt s (i:Int))) (n:=s.size) ?_ ?_ ?_ s.size 0 (by omega) (by omega))
  ·refine El.step (fun _ _=>by rw [r01_Part.l0]) ?_
   exact El.cf (by simp) (by simpa using El.pure)
  ·intro x hx hp
   have g:(0:Int)≤(x:Int)∧(x:Int)<(s.size:Int):=⟨by omega,by omega⟩
   refine El.step (fun _ _=>by rw [r01_Part.l0]) ?_
   refine El.ct (by simpa using hx) (El.grd g ?_)
   refine El.bind (Ev.el (Ev.of (low_ev _))) ?_
   simp only [chP,Bool.or_eq_false_iff] at hp
   obtain ⟨⟨⟨p1,p2⟩,p3⟩,p4⟩:=hp
   exact El.ct (by simp [p1]) (El.grd g (El.ct (by simpa [bne] using p2) (El.grd g (El.ct (by simpa [bne] using p3) (El.grd g (El.ct (by simpa [bne] using p4) El.pure))))))
  ·intro x r hx hp ih
   have ih2:El (fun k j=>r01_Part.l0 k s j (w64 ((x:Int)+1))) r:=by rw [w64_id (x:=(x:Int)+1) (by omega) (by omega)]; exact ih
   have g:(0:Int)≤(x:Int)∧(x:Int)<(s.size:Int):=⟨by omega,by omega⟩
   refine El.step (fun _ _=>by rw [r01_Part.l0]) ?_
   refine El.ct (by simpa using hx) (El.grd g ?_)
   refine El.bind (Ev.el (Ev.of (low_ev _))) ?_
   refine El.cond (fun c1=>El.grd g (El.cond (fun c2=>El.grd g (El.cond (fun c3=>El.grd g (El.cond (fun c4=>?_) fun c4=>ih2)) fun c3=>ih2)) fun c2=>ih2)) fun c1=>ih2
   exfalso
   simp only [chP,bne,Bool.not_eq_true',Bool.or_eq_true] at *
   simp_all
 ·cases allp (fun i=>chP (bt s (i:Int))) 0 s.size with
  | false=>exact Ev.of (by simp [fall])
  | true=>
   simp only [if_true,fall,Bool.true_and]
   refine Ev.cond (fun c=>Ev.of ?_) fun c=>Ev.of ?_
   ·have c1:0<s.size:=by simpa using c
    simp [c1]; omega
   ·have c1:¬ 0<s.size:=by simpa using c
    simp [c1]
def serverB (s:ByteArray):Bool:=mayB chS s&&(low (bt s 0)&&low (bt s ((s.size:Int)-1)))
theorem server1 {s:ByteArray} (hs:s.size≤maxLen):Ev (fun k=>name_Server.f k s) (serverB s):=by
 have hs2:s.size≤9223372036854775807:=hs
 unfold name_Server.f serverB
 refine Ev.bind (mayS hs) (Ev.cond (fun c=>?_) fun c=>Ev.of (by rw [c]; rfl))
 have c2:=c
 unfold mayB at c2
 have h1:0<s.size:=by simp at c2; exact c2.2.1
 refine Ev.grd ⟨by omega,by omega⟩ (Ev.bind (Ev.of (small_ev _)) (Ev.cond (fun d=>?_) fun d=>Ev.of (by rw [c,d]; rfl)))
 rw [w64_id (x:=(s.size:Int)-1) (by omega) (by omega)]
 refine Ev.grd ⟨by omega,by omega⟩ (Ev.bind (Ev.of (small_ev _)) (Ev.of (by rw [c,d]; simp)))
def srvp (s:ByteArray) (i:Nat):Bool:=low (bt s (i:Int))||((decide (0<i)&&decide ((i:Int)<(s.size:Int)-1))&&(bt s (i:Int)==46||bt s (i:Int)==45))
theorem serverB_eq (s:ByteArray):serverB s=(allp (srvp s) 0 s.size&&(decide (0<s.size)&&decide (s.size≤16))):=by
 unfold serverB mayB
 by_cases h:0<s.size
 ·have e:(allp (fun i=>chS (bt s (i:Int))) 0 s.size&&(low (bt s 0)&&low (bt s ((s.size:Int)-1))))=allp (srvp s) 0 s.size:=by
   rw [Bool.eq_iff_iff]
   simp only [Bool.and_eq_true,allp_iff]
   constructor
   ·rintro ⟨a,b,c⟩ i _ hi
    have:=a i (by omega) hi
    unfold srvp
    unfold chS at this
    by_cases i0:i=0
    ·subst i0; rw [show ((0:Nat):Int)=0 from rfl,b]; rfl
    ·by_cases i1:(i:Int)=(s.size:Int)-1
     ·rw [i1,c]; rfl
     ·have j0:0<i:=by omega
      have j1:(i:Int)<(s.size:Int)-1:=by omega
      simp only [j0,j1,decide_true,Bool.and_self,Bool.true_and]
      rw [Bool.or_assoc] at this; exact this
   ·intro a
    have a0:=a 0 (by omega) h
    have a1:=a (s.size-1) (by omega) (by omega)
    have e1:((s.size-1:Nat):Int)=(s.size:Int)-1:=by omega
    unfold srvp at a0 a1
    rw [e1] at a1
    refine ⟨fun i _ hi=>?_,by simpa using a0,by simpa using a1⟩
    have:=a i (by omega) hi
    unfold srvp at this
    unfold chS
    rw [Bool.or_assoc]
    simp only [Bool.or_eq_true,Bool.and_eq_true] at this ⊢
    rcases this with h1 | ⟨_,h1⟩
    ·exact .inl h1
    ·exact .inr h1
  rw [← e]
  cases allp (fun i=>chS (bt s (i:Int))) 0 s.size <;> simp [Bool.and_comm,Bool.and_left_comm]
 ·simp [h]
theorem server2 {s:ByteArray} (hs:s.size≤maxLen):Ev (fun k=>r01_Server.f k s) (serverB s):=by
 have hs2:s.size≤9223372036854775807:=hs
 rw [serverB_eq]
 unfold r01_Server.f
 refine Ev.bind (a:=if allp (srvp s) 0 s.size then .inl ((s.size:Int),false) else .inr false) ?_ ?_
 ·refine El.diag (el_all (F:=fun k j x=>r01_Server.l0 k s j (x:Int)) (p:=srvp s) (n:=s.size) ?_ ?_ ?_ s.size 0 (by omega) (by omega))
  ·refine El.step (fun _ _=>by rw [r01_Server.l0]) ?_
   exact El.cf (by simp) (by simpa using El.pure)
  ·intro x hx hp
   have g:(0:Int)≤(x:Int)∧(x:Int)<(s.size:Int):=⟨by omega,by omega⟩
   refine El.step (fun _ _=>by rw [r01_Server.l0]) ?_
   refine El.ct (by simpa using hx) (El.grd g ?_)
   refine El.bind (Ev.el (Ev.of (low_ev _))) ?_
   rw [w64_id (x:=(s.size:Int)-1) (by omega) (by omega)]
   simp only [srvp,Bool.or_eq_false_iff] at hp
   obtain ⟨p1,p2⟩:=hp
   refine El.cond (fun c1=>El.cond (fun c2=>El.grd g (El.cond (fun c3=>?_) fun c3=>El.grd g (El.ct (by simp [p1]) (El.cond (fun c4=>El.pure) fun c4=>?_)))) fun c2=>El.ct (by simp [p1]) El.pure) fun c1=>El.ct (by simp [p1]) El.pure
   all_goals
    exfalso
    simp only [decide_eq_true_eq,beq_iff_eq,Bool.not_eq_false'] at c1 c2 c3
    have d1:0<x:=by omega
    simp [d1,c2] at p2
    first | exact p2.1 c3 | (simp at c4; exact p2.2 c4)
  ·intro x r hx hp ih
   have ih2:El (fun k j=>r01_Server.l0 k s j (w64 ((x:Int)+1))) r:=by rw [w64_id (x:=(x:Int)+1) (by omega) (by omega)]; exact ih
   have g:(0:Int)≤(x:Int)∧(x:Int)<(s.size:Int):=⟨by omega,by omega⟩
   refine El.step (fun _ _=>by rw [r01_Server.l0]) ?_
   refine El.ct (by simpa using hx) (El.grd g ?_)
   refine El.bind (Ev.el (Ev.of (low_ev _))) ?_
   rw [w64_id (x:=(s.size:Int)-1) (by omega) (by omega)]
   refine El.cond (fun c1=>El.cond (fun c2=>El.grd g (El.cond (fun c3=>El.cond (fun _=>ih2) fun _=>ih2) fun c3=>El.grd g (El.cond (fun c4=>El.cond (fun c5=>?_) fun c5=>ih2) fun c4=>ih2))) fun c2=>El.cond (fun c3=>?_) fun c3=>ih2) fun c1=>El.cond (fun c3=>?_) fun c3=>ih2
   ·exfalso
    simp only [srvp,Bool.or_eq_true,Bool.and_eq_true] at hp
    rcases hp with hp | ⟨_,hp | hp⟩
    ·rw [hp] at c4; cases c4
    ·rw [hp] at c3; cases c3
    ·rw [hp] at c5; cases c5
   ·exfalso
    simp only [srvp,Bool.or_eq_true,Bool.and_eq_true] at hp
    rcases hp with hp | ⟨⟨_,h2⟩,_⟩
    ·rw [hp] at c3; cases c3
    ·rw [h2] at c2; cases c2
   ·exfalso
    simp only [srvp,Bool.or_eq_true,Bool.and_eq_true] at hp
    rcases hp with hp | ⟨⟨h2,_⟩,_⟩
    ·rw [hp] at c3; cases c3
    ·have h3:0<x:=by simpa using h2
     simp at c1; omega
 ·cases allp (srvp s) 0 s.size with
  | false=>exact Ev.of (by simp [fall])
  | true=>
   simp only [if_true,fall,Bool.true_and]
   refine Ev.cond (fun c=>Ev.of ?_) fun c=>Ev.of ?_
   ·have c1:0<s.size:=by simpa using c
    simp [c1]; omega
   ·have c1:¬ 0<s.size:=by simpa using c
    simp [c1]
def FI (s:ByteArray) (c r:Int):Prop:=(r = -1∧∀ i:Nat,i<s.size→bt s (i:Int)≠c)∨∃ j:Nat,r=(j:Int)∧j<s.size∧bt s (j:Int)=c∧∀ i:Nat,i<j→bt s (i:Int)≠c
theorem fi_uniq {s:ByteArray} {c r r':Int} (h:FI s c r) (h':FI s c r'):r=r':=by
 rcases h with ⟨e,h⟩ | ⟨j,e,h1,h2,h3⟩ <;> rcases h' with ⟨e',h'⟩ | ⟨j',e',h1',h2',h3'⟩
 ·omega
 ·exact absurd h2' (h j' h1')
 ·exact absurd h2 (h' j h1)
 ·rcases Nat.lt_trichotomy j j' with h4 | h4 | h4
  ·exact absurd h2 (h3' j h4)
  ·omega
  ·exact absurd h2' (h3 j' h4)
theorem fi_idx (s:ByteArray) (c:UInt8):FI s (c.toNat:Int) (idxB s (c.toNat:Int)):=by
 have key:∀ l:List UInt8,(Lib.indexByte l c = -1∧∀ i:Nat,i<l.length→l.getD i 0≠c)∨∃ j:Nat,Lib.indexByte l c=(j:Int)∧j<l.length∧l.getD j 0=c∧∀ i:Nat,i<j→l.getD i 0≠c:=by
  intro l
  induction l with
  | nil=>exact .inl ⟨rfl,fun i hi=>by simp at hi⟩
  | cons b l ih=>
   unfold Lib.indexByte
   by_cases hb:b=c
   ·subst hb
    exact .inr ⟨0,by simp,by simp,by simp,fun i hi=>by omega⟩
   ·have hb2:(b==c)=false:=by simpa using hb
    rw [hb2]
    rcases ih with ⟨e,h⟩ | ⟨j,e,h1,h2,h3⟩
    ·left
     rw [e]
     refine ⟨rfl,fun i hi=>?_⟩
     cases i with
     | zero=>simpa using hb
     | succ i=>simpa using h i (by simpa using hi)
    ·right
     rw [e]
     refine ⟨j+1,?_,by simpa using h1,by simpa using h2,fun i hi=>?_⟩
     ·have:((j:Int) == -1)=false:=by simp
      rw [this]; simp
     ·cases i with
      | zero=>simpa using hb
      | succ i=>simpa using h3 i (by omega)
 have e0:∀ i:Nat,bt s (i:Int)=((s.data.toList.getD i 0).toNat:Int):=fun i=>by
  unfold bt
  rw [Int.toNat_natCast,Array.getD_eq_getD_getElem?,List.getD_eq_getElem?_getD,Array.getElem?_toList]
 have e1:idxB s (c.toNat:Int)=Lib.indexByte s.data.toList c:=by
  unfold idxB
  rw [Int.toNat_natCast]
  congr 1
  exact UInt8.ofNat_toNat
 have e2:s.data.toList.length=s.size:=by rw [Array.length_toList]; rfl
 have e3:∀ a:UInt8,((a.toNat:Int)=(c.toNat:Int))↔a=c:=fun a=>⟨fun h=>UInt8.toNat_inj.1 (by exact_mod_cast h),fun h=>by rw [h]⟩
 rw [e1]
 rcases key s.data.toList with ⟨e,h⟩ | ⟨j,e,h1,h2,h3⟩
 ·exact .inl ⟨e,fun i hi=>by rw [e0,Ne,e3]; exact h i (by omega)⟩
 ·exact .inr ⟨j,e,by omega,by rw [e0,e3]; exact h2,fun i hi=>by rw [e0,Ne,e3]; exact h3 i hi⟩
theorem colon_ev {s:ByteArray} (hs:s.size≤maxLen):Ev (fun k=>r01_colon.f k s) (idxB s 58):=by
 have hs2:s.size≤9223372036854775807:=hs
 have hfi:=fi_idx s 58
 have e58:(((58:UInt8).toNat:Int))=58:=rfl
 rw [e58] at hfi
 unfold r01_colon.f
 rcases hfi with ⟨e,h⟩ | ⟨j,e,h1,h2,h3⟩
 ·rw [e]
  have:∀ d x:Nat,s.size-x=d→x≤s.size→El (fun k j=>r01_colon.l0 k s j (x:Int)) (.inl ((s.size:Int),false)):=by
   intro d
   induction d with
   | zero=>
    intro x hd hx
    obtain rfl:x=s.size:=by omega
    refine El.step (fun _ _=>by rw [r01_colon.l0]) ?_
    exact El.cf (by simp) (by simpa using El.pure)
   | succ d ih=>
    intro x hd hx
    refine El.step (fun _ _=>by rw [r01_colon.l0]) ?_
    refine El.ct (by simp; omega) (El.grd ⟨by omega,by omega⟩ (El.cf (by simpa using h x (by omega)) ?_))
    rw [w64_id (x:=(x:Int)+1) (by omega) (by omega)]
    exact ih (x+1) (by omega) (by omega)
  exact Ev.bind (this _ 0 rfl (by omega)).diag (Ev.of (by simp [fall]))
 ·rw [e]
  have:∀ d x:Nat,j-x=d→x≤j→El (fun k i=>r01_colon.l0 k s i (x:Int)) (.inr (j:Int)):=by
   intro d
   induction d with
   | zero=>
    intro x hd hx
    obtain rfl:x=j:=by omega
    refine El.step (fun _ _=>by rw [r01_colon.l0]) ?_
    exact El.ct (by simpa using h1) (El.grd ⟨by omega,by omega⟩ (El.ct (by simpa using h2) El.pure))
   | succ d ih=>
    intro x hd hx
    refine El.step (fun _ _=>by rw [r01_colon.l0]) ?_
    refine El.ct (by simp; omega) (El.grd ⟨by omega,by omega⟩ (El.cf (by simpa using h3 x (by omega)) ?_))
    rw [w64_id (x:=(x:Int)+1) (by omega) (by omega)]
    exact ih (x+1) (by omega) (by omega)
  exact Ev.bind (this _ 0 rfl (by omega)).diag (Ev.of (by simp [fall]))
theorem index_gen (s:ByteArray) (c:UInt8):stringslite_Index.f s ⟨#[c]⟩=some (idxB s (c.toNat:Int)):=by
 unfold stringslite_Index.f stringslite_IndexByte.f
 have e1:(⟨#[c]⟩:ByteArray).size=1:=rfl
 rw [e1]
 by_cases h:(⟨#[c]⟩:ByteArray)=s
 ·rw [decide_eq_true h]
  have h0:idxB s (c.toNat:Int)=0:=fi_uniq (fi_idx s c) (.inr ⟨0,rfl,by rw [← h]; show (0:Nat)<1; omega,by rw [← h]; rfl,fun i hi=>by omega⟩)
  rw [h0]; rfl
 ·rw [decide_eq_false h]; rfl
theorem idx_gen (s:ByteArray) (c:UInt8):idxB s (c.toNat:Int) = -1∨∃ j:Nat,idxB s (c.toNat:Int)=(j:Int)∧j<s.size:=by
 rcases fi_idx s c with ⟨e,_⟩ | ⟨j,e,h,_⟩
 ·exact .inl e
 ·exact .inr ⟨j,e,h⟩
theorem idx_rng (s:ByteArray):idxB s 58 = -1∨∃ j:Nat,idxB s 58=(j:Int)∧j<s.size:=idx_gen s 58
theorem cut_gen {s:ByteArray} (c:UInt8) (hs:s.size≤maxLen):strings_Cut.f s ⟨#[c]⟩=some (if 0≤idxB s (c.toNat:Int) then (s.extract 0 (idxB s (c.toNat:Int)).toNat,s.extract ((idxB s (c.toNat:Int)).toNat+1) s.size,true) else (s,⟨#[]⟩,false)):=by
 have hs2:s.size≤9223372036854775807:=hs
 unfold strings_Cut.f stringslite_Cut.f
 rw [index_gen]
 simp only [Option.bind_some]
 have e1:(⟨#[c]⟩:ByteArray).size=1:=rfl
 rw [e1]
 rcases idx_gen s c with e | ⟨j,e,h⟩
 ·rw [e]; rfl
 ·rw [e]
  have h0:(0:Int)≤(j:Int):=by omega
  rw [decide_eq_true h0,if_pos h0,w64_id (x:=(j:Int)+(1:Nat)) (by omega) (by omega)]
  have e2:((j:Int)+((1:Nat):Int)).toNat=j+1:=by omega
  simp only [cond_true,grd,e2,Int.toNat_natCast]
  rw [if_pos ⟨by omega,by omega,by omega⟩,if_pos ⟨by omega,by omega,by omega⟩]
  rfl
def namedB (s:ByteArray) (c:UInt8):Bool:=
 if 1≤s.size∧bt s 0=(c.toNat:Int) then
  let t:=s.extract 1 s.size
  if 0≤idxB t 58 then mayB chP (t.extract 0 (idxB t 58).toNat)&&serverB (t.extract ((idxB t 58).toNat+1) t.size) else false
 else false
theorem cut_ev {s:ByteArray} (hs:s.size≤maxLen):strings_Cut.f s ⟨#[58]⟩=some (if 0≤idxB s 58 then (s.extract 0 (idxB s 58).toNat,s.extract ((idxB s 58).toNat+1) s.size,true) else (s,⟨#[]⟩,false)):=cut_gen 58 hs
theorem named1 {s:ByteArray} {c:UInt8} (hs:s.size≤maxLen):∃ a b,Ev (fun k=>name_split.f k s ⟨#[c]⟩) (a,b,namedB s c):=by
 have hs2:s.size≤9223372036854775807:=hs
 unfold name_split.f
 rw [cutp hs]
 simp only [Option.bind_some]
 by_cases h:1≤s.size∧bt s 0=(c.toNat:Int)
 ·have h1:(decide (1≤s.size)&&(bt s 0==(c.toNat:Int)))=true:=by simp [h.1,h.2]
  unfold namedB
  rw [h1,if_pos h]
  simp only [if_true]
  have ht:(s.extract 1 s.size).size≤maxLen:=by rw [size_ext (Nat.le_refl _)]; show _≤9223372036854775807; omega
  generalize s.extract 1 s.size=t at ht
  have ht2:t.size≤9223372036854775807:=ht
  rw [cut_ev ht]
  by_cases h2:0≤idxB t 58
  ·simp only [if_pos h2,Option.bind_some]
   obtain ⟨j,e,hj⟩:∃ j:Nat,idxB t 58=(j:Int)∧j<t.size:=by rcases idx_rng t with e | h; omega; exact h
   rw [e,Int.toNat_natCast]
   refine ⟨_,_,Ev.ct rfl (Ev.ct rfl (Ev.bind (mayP (by rw [size_ext (by omega)]; show _≤9223372036854775807; omega)) (Ev.cond (fun d=>?_) fun d=>Ev.of (by rw [d]; rfl))))⟩
   refine Ev.bind (server1 (by rw [size_ext (by omega)]; show _≤9223372036854775807; omega)) (Ev.of (by rw [d]; rfl))
  ·simp only [if_neg h2,Option.bind_some]
   exact ⟨_,_,Ev.ct rfl (Ev.cf rfl (Ev.of rfl))⟩
 ·have h1:(decide (1≤s.size)&&(bt s 0==(c.toNat:Int)))=false:=by
   cases h3:(decide (1≤s.size)&&(bt s 0==(c.toNat:Int))) with
   | false=>rfl
   | true=>simp at h3; exact absurd ⟨h3.1,h3.2⟩ h
  unfold namedB
  rw [h1,if_neg h,cut_ev (by simpa using hs)]
  simp only [Option.bind_some]
  exact ⟨_,_,Ev.cf rfl (Ev.of rfl)⟩
theorem nroom1 {s:ByteArray} (hs:s.size≤maxLen):Ev (fun k=>name_Room.f k s) (namedB s 33):=by
 obtain ⟨a,b,h⟩:=named1 (c:=33) hs
 exact Ev.bind h (Ev.of rfl)
theorem nuser1 {s:ByteArray} (hs:s.size≤maxLen):Ev (fun k=>name_User.f k s) (namedB s 64):=by
 obtain ⟨a,b,h⟩:=named1 (c:=64) hs
 exact Ev.bind h (Ev.of rfl)
theorem named2 {s:ByteArray} {c:UInt8} (hc:c≠58) (hs:s.size≤maxLen):Ev (fun k=>r01_Named.f k s (c.toNat:Int)) (namedB s c):=by
 have hs2:s.size≤9223372036854775807:=hs
 unfold r01_Named.f
 refine Ev.bind (colon_ev hs) ?_
 have hf:=fi_idx s 58
 rw [show (((58:UInt8).toNat:Int))=58 from rfl] at hf
 have hcc:(c.toNat:Int)≠58:=fun h=>hc (UInt8.toNat_inj.1 (by exact_mod_cast h))
 have hr:∀ j:Nat,idxB s 58=((j+1:Nat):Int)→idxB (s.extract 1 s.size) 58=(j:Int):=fun j e=>by
  have hft:=fi_idx (s.extract 1 s.size) 58
  rw [show (((58:UInt8).toNat:Int))=58 from rfl] at hft
  refine fi_uniq hft ?_
  rcases hf with ⟨e',_⟩ | ⟨j',e',h1,h2,h3⟩
  ·omega
  ·obtain rfl:j'=j+1:=by omega
   refine .inr ⟨j,rfl,by rw [size_ext (Nat.le_refl _)]; omega,?_,fun i hi=>?_⟩
   ·rw [bt_ext (by omega) (Nat.le_refl _),show 1+j=j+1 by omega]; exact h2
   ·rw [bt_ext (by omega) (Nat.le_refl _)]; exact h3 (1+i) (by omega)
 rcases hf with ⟨e,h⟩ | ⟨j,e,h1,h2,h3⟩
 ·rw [e]
  refine Ev.ct rfl (Ev.of ?_)
  unfold namedB
  split
  ·rename_i hq
   have:idxB (s.extract 1 s.size) 58 = -1:=by
    have hft:=fi_idx (s.extract 1 s.size) 58
    rw [show (((58:UInt8).toNat:Int))=58 from rfl] at hft
    refine fi_uniq hft (.inl ⟨rfl,fun i hi=>?_⟩)
    rw [size_ext (Nat.le_refl _)] at hi
    rw [bt_ext (by omega) (Nat.le_refl _)]; exact h (1+i) (by omega)
   simp only [this]; rfl
  ·rfl
 ·rw [e]
  cases j with
  | zero=>
   refine Ev.ct rfl (Ev.of ?_)
   unfold namedB
   rw [if_neg]
   rintro ⟨_,h4⟩
   rw [show ((0:Nat):Int)=0 from rfl] at h2
   rw [h2] at h4
   exact hcc h4.symm
  | succ j=>
   refine Ev.cf (decide_eq_false (by omega)) (Ev.grd ⟨by omega,by omega⟩ ?_)
   by_cases h4:bt s 0=(c.toNat:Int)
   ·refine Ev.cf (by simp [h4]) (Ev.grd ⟨by omega,by omega,by omega,by omega⟩ ?_)
    have e1:((1:Int)).toNat=1:=rfl
    have e2:(w64 (((j+1:Nat):Int)+1)).toNat=j+2:=by rw [w64_id (by omega) (by omega)]; omega
    rw [e1,Int.toNat_natCast]
    unfold namedB
    rw [if_pos ⟨by omega,h4⟩]
    simp only [hr j e,Int.toNat_natCast]
    rw [if_pos (by omega),ByteArray.extract_extract,ByteArray.extract_extract,size_ext (Nat.le_refl _)]
    have e3:s.extract (1+0) (min (1+j) s.size)=s.extract 1 (j+1):=by rw [show min (1+j) s.size=j+1 by omega]
    have e4:s.extract (1+(j+1)) (min (1+(s.size-1)) s.size)=s.extract (j+2) s.size:=by rw [show min (1+(s.size-1)) s.size=s.size by omega,show 1+(j+1)=j+2 by omega]
    rw [e3,e4]
    refine Ev.bind (part2 (by rw [size_ext (by omega)]; show _≤9223372036854775807; omega)) ?_
    rw [e2]
    refine Ev.grd ⟨by rw [w64_id (by omega) (by omega)]; omega,by omega,by omega⟩ (Ev.bind (server2 (by rw [size_ext (by omega)]; show _≤9223372036854775807; omega)) ?_)
    exact Ev.cond (fun d=>Ev.of (by rw [d]; rfl)) fun d=>Ev.of (by rw [d]; rfl)
   ·refine Ev.ct (by simpa using h4) (Ev.of ?_)
    unfold namedB
    rw [if_neg fun h5=>h4 h5.2]
end Go.Proofs.YtmmaijneehmbgaaGreat
