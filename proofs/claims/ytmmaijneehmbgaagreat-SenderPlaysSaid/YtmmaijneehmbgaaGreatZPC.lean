import Derived.Test.YtmmaijneehmbgaaGreatZV0
import Derived.Test.YtmmaijneehmbgaaGreatZPX
set_option linter.all false
set_option maxRecDepth 10000
namespace Go.Proofs.YtmmaijneehmbgaaGreat
open Go Go.Sp
section
variable {b:List Int} {n:Int} {s:ByteArray} {e:Edu}
def numB (n:Nat):List Int:=if n<128 then [(n:Int)] else ((n%128+128:Nat):Int)::numB (n/128)
termination_by n
decreasing_by omega
theorem numB_small {n:Nat} (h:n<128):numB n=[(n:Int)]:=by rw [numB,if_pos h]
theorem numB_big {n:Nat} (h:¬ n<128):numB n=((n%128+128:Nat):Int)::numB (n/128):=by rw [numB,if_neg h]
theorem numB_len:∀ (d:Nat) {n:Nat},n<128 ^ (d+1)→(numB n).length≤d+1:=by
 intro d
 induction d with
 | zero=>intro n hn; rw [numB_small (by simpa using hn)]; simp
 | succ d ih=>
  intro n hn
  by_cases h:n<128
  ·rw [numB_small h]; simp
  ·rw [numB_big h,List.length_cons]
   have h1:n/128<128 ^ (d+1):=by
    rw [Nat.div_lt_iff_lt_mul (by decide)]
    rw [Nat.pow_succ] at hn; exact hn
   have:=ih h1
   omega
theorem pow6:1099511627776<128 ^ (5+1):=by decide
theorem num_loop:∀ (d n:Nat) (b:List Int),n<128 ^ (d+1)→n≤1099511627776→b.length+d≤1000010→
  ∃ (m:Nat) (bs:List Int),El (fun k j=>lay_Number.l0 k j (n:Int) b) ((m:Int),false,b++bs)∧bs++[(m:Int)]=numB n∧m<128∧(b++bs).length≤b.length+d:=by
 intro d
 induction d with
 | zero=>
  intro n b hn hm hb
  have h:n<128:=by simpa using hn
  refine ⟨n,[],?_,by rw [numB_small h]; rfl,h,by simp⟩
  refine El.step (fun _ _=>by rw [lay_Number.l0]) ?_
  rw [decide_eq_false (by omega:¬ (128:Int)≤(n:Int)),List.append_nil]
  exact El.cf rfl El.pure
 | succ d ih=>
  intro n b hn hm hb
  by_cases h:n<128
  ·refine ⟨n,[],?_,by rw [numB_small h]; rfl,h,by simp⟩
   refine El.step (fun _ _=>by rw [lay_Number.l0]) ?_
   rw [decide_eq_false (by omega:¬ (128:Int)≤(n:Int)),List.append_nil]
   exact El.cf rfl El.pure
  ·have h1:n/128<128 ^ (d+1):=by
    rw [Nat.div_lt_iff_lt_mul (by decide)]
    rw [Nat.pow_succ] at hn; exact hn
   obtain ⟨m,bs,g1,g2,g3,g4⟩:=ih (n/128) (b++[((n%128+128:Nat):Int)]) h1 (by omega) (by simp; omega)
   have e1:w64 ((n:Int).tdiv 128)=((n/128:Nat):Int):=by
    rw [Int.tdiv_eq_ediv_of_nonneg (by omega),w64_id (by omega) (by omega)]; omega
   have e2:IntKind.u8.wrap (w64 ((n:Int).tmod 128+128))=((n%128+128:Nat):Int):=by
    rw [Int.tmod_eq_emod_of_nonneg (by omega),w64_id (by omega) (by omega),u8_id (by omega) (by omega)]; omega
   refine ⟨m,((n%128+128:Nat):Int)::bs,?_,by rw [numB_big h,← g2]; rfl,g3,by simp at g4 ⊢; omega⟩
   refine El.step (fun _ _=>by rw [lay_Number.l0]) ?_
   rw [e1,e2]
   refine El.ct (decide_eq_true (by omega)) (El.grd ⟨by simp; omega,by simp; omega⟩ ?_)
   rw [List.append_assoc] at g1
   exact g1
theorem numb_ev {n:Nat} (h1:n≤1099511627776) (hb:b.length≤1000000):Ev (fun k=>lay_Number.f k b (n:Int)) (b++numB n):=by
 obtain ⟨m,bs,g1,g2,g3,g4⟩:=num_loop 5 n b (Nat.lt_of_le_of_lt h1 pow6) h1 (by omega)
 unfold lay_Number.f
 refine Ev.grd ⟨by omega,by omega,by omega⟩ ?_
 have e1:((b.take ((b.length:Int).toNat)).drop 0)=b:=by simp
 have e2:max (n:Int) 0=(n:Int):=by omega
 rw [e1,e2]
 refine Ev.bind g1.diag ?_
 rw [u8_id (x:=(m:Int)) (by omega) (by omega)]
 rw [← g2,← List.append_assoc]
 exact Ev.grd ⟨by rw [List.length_singleton]; show (b++bs).length+1≤_; omega,by rw [List.length_singleton]; show ((b++bs).length+1)*1≤_; omega⟩ Ev.pure
theorem refnumb_ev:∀ (d n:Nat),n<128 ^ (d+1)→n≤1099511627776→d≤100→Ev (fun k=>r02_Number.f k (n:Int)) (numB n):=by
 intro d
 induction d with
 | zero=>
  intro n hn hm hd
  have h:n<128:=by simpa using hn
  refine Ev.step (fun _=>by rw [r02_Number.f]) ?_
  refine Ev.bind (a:=(n:Int)) (Ev.cf (decide_eq_false (by omega)) Ev.pure) ?_
  refine Ev.ct (decide_eq_true (by omega)) ?_
  rw [u8_id (by omega) (by omega),numB_small h]
  exact Ev.pure
 | succ d ih=>
  intro n hn hm hd
  refine Ev.step (fun _=>by rw [r02_Number.f]) ?_
  refine Ev.bind (a:=(n:Int)) (Ev.cf (decide_eq_false (by omega)) Ev.pure) ?_
  by_cases h:n<128
  ·refine Ev.ct (decide_eq_true (by omega)) ?_
   rw [u8_id (by omega) (by omega),numB_small h]
   exact Ev.pure
  ·have h1:n/128<128 ^ (d+1):=by
    rw [Nat.div_lt_iff_lt_mul (by decide)]
    rw [Nat.pow_succ] at hn; exact hn
   have e1:w64 ((n:Int).tdiv 128)=((n/128:Nat):Int):=by
    rw [Int.tdiv_eq_ediv_of_nonneg (by omega),w64_id (by omega) (by omega)]; omega
   have e2:IntKind.u8.wrap (w64 (128+(n:Int).tmod 128))=((n%128+128:Nat):Int):=by
    rw [Int.tmod_eq_emod_of_nonneg (by omega),w64_id (by omega) (by omega),u8_id (by omega) (by omega)]; omega
   have hl:=numB_len d h1
   rw [e1,e2,numB_big h]
   exact Ev.cf (decide_eq_false (by omega)) (Ev.bind (ih _ h1 (by omega) (by omega)) (Ev.grd ⟨by simp; omega,by simp; omega⟩ Ev.pure))
theorem number_ev (h0:0≤n) (h1:n<128) (hb:b.length≤1000000):Ev (fun k=>lay_Number.f k b n) (b++[n]):=by
 obtain ⟨m,rfl⟩:=Int.eq_ofNat_of_zero_le h0
 have:=numb_ev (b:=b) (n:=m) (by omega) hb
 rw [numB_small (by omega)] at this
 exact this
theorem refnum_ev (h0:0≤n) (h1:n<128):Ev (fun k=>r02_Number.f k n) [n]:=by
 obtain ⟨m,rfl⟩:=Int.eq_ofNat_of_zero_le h0
 have:=refnumb_ev 0 m (by simp; omega) (by omega) (by omega)
 rw [numB_small (by omega)] at this
 exact this
theorem number_big (h0:0≤n) (h1:n≤1099511627776) (hb:b.length≤1000000):Ev (fun k=>lay_Number.f k b n) (b++numB n.toNat):=by
 obtain ⟨m,rfl⟩:=Int.eq_ofNat_of_zero_le h0
 exact numb_ev (by omega) hb
theorem refnum_big (h0:0≤n) (h1:n≤1099511627776):Ev (fun k=>r02_Number.f k n) (numB n.toNat):=by
 obtain ⟨m,rfl⟩:=Int.eq_ofNat_of_zero_le h0
 exact refnumb_ev 5 m (Nat.lt_of_le_of_lt (by omega) pow6) (by omega) (by omega)
theorem numB_le {n:Int} (h1:n≤1099511627776):(numB n.toNat).length≤6:=numB_len 5 (Nat.lt_of_le_of_lt (by omega) pow6)
def txtB (s:ByteArray):List Int:=(s.size:Int)::strBs s
theorem strBs_len:(strBs s).length=s.size:=by simp [strBs]
theorem txtB_len:(txtB s).length=s.size+1:=by simp [txtB,strBs_len]
theorem text_ev (h1:s.size<128) (hb:b.length≤500000):Ev (fun k=>lay_Text.f k b s) (b++txtB s):=by
 unfold lay_Text.f
 refine Ev.bind (number_ev (by omega) (by omega) (by omega)) ?_
 refine Ev.grd (by rw [strBs_len]; simp; omega) ?_
 have e:b++txtB s=b++[(s.size:Int)]++strBs s:=by simp [txtB]
 rw [e]
 exact Ev.pure
theorem reftext_ev (h1:s.size<128):Ev (fun k=>r02_Text.f k s) (txtB s):=by
 unfold r02_Text.f
 refine Ev.bind (refnum_ev (by omega) (by omega)) ?_
 refine Ev.grd (by rw [strBs_len]; simp; omega) ?_
 exact Ev.pure
def flagN (o:Bool):Int:=cond o 1 0
theorem flag_ev {o:Bool} (hb:b.length≤1000000):Ev (fun k=>lay_Flag.f k b o) (b++[flagN o]):=by
 unfold lay_Flag.f
 cases o
 ·exact Ev.cf rfl (Ev.bind (number_ev (by decide) (by decide) hb) Ev.pure)
 ·exact Ev.ct rfl (Ev.bind (number_ev (by decide) (by decide) hb) Ev.pure)
structure Sm (e:Edu):Prop where
 kind:0≤e.fKind∧e.fKind<128
 room:e.fRoom.size<128
 user:e.fUser.size<128
 event:e.fEvent.size<128
 thread:e.fThread.size<128
 span:0≤e.fSpan∧e.fSpan<128
 state:0≤e.fState∧e.fState<128
 tick:0≤e.fTick∧e.fTick≤1099511627776
 stamp:0≤e.fStamp∧e.fStamp≤1099511627776
def eduB (e:Edu):List Int:=e.fKind::(txtB e.fRoom++txtB e.fUser++txtB e.fEvent++txtB e.fThread++([flagN e.fOn,e.fSpan,e.fState]++numB e.fTick.toNat++numB e.fStamp.toNat))
theorem laid_ev (h:Sm e):Ev (fun k=>edu_laid.f k e) (eduB e):=by
 obtain ⟨h1,h2,h3,h4,h5,h6,h7,h8,h9⟩:=h
 unfold edu_laid.f
 refine Ev.bind (number_ev h1.1 h1.2 (by simp)) ?_
 have t1:El (fun k j=>edu_laid.l1 k e j 0 ([]++[e.fKind])) (4,false,[]++[e.fKind]++txtB e.fRoom++txtB e.fUser++txtB e.fEvent++txtB e.fThread):=by
  refine El.step (fun _ _=>by rw [edu_laid.l1]) ?_
  refine El.ct rfl (El.grd (of_decide_eq_true rfl) (El.bind (Ev.el (text_ev (s:=e.fRoom) h2 (by simp))) ?_))
  refine El.step (fun _ _=>by rw [edu_laid.l1]) ?_
  refine El.ct rfl (El.grd (of_decide_eq_true rfl) (El.bind (Ev.el (text_ev (s:=e.fUser) h3 (by simp [txtB_len]; omega))) ?_))
  refine El.step (fun _ _=>by rw [edu_laid.l1]) ?_
  refine El.ct rfl (El.grd (of_decide_eq_true rfl) (El.bind (Ev.el (text_ev (s:=e.fEvent) h4 (by simp [txtB_len]; omega))) ?_))
  refine El.step (fun _ _=>by rw [edu_laid.l1]) ?_
  refine El.ct rfl (El.grd (of_decide_eq_true rfl) (El.bind (Ev.el (text_ev (s:=e.fThread) h5 (by simp [txtB_len]; omega))) ?_))
  refine El.step (fun _ _=>by rw [edu_laid.l1]) ?_
  exact El.cf rfl El.pure
 refine Ev.bind t1.diag ?_
 have hl:([]++[e.fKind]++txtB e.fRoom++txtB e.fUser++txtB e.fEvent++txtB e.fThread).length≤1000:=by simp [txtB_len]; omega
 have he:eduB e=[]++[e.fKind]++txtB e.fRoom++txtB e.fUser++txtB e.fEvent++txtB e.fThread++[flagN e.fOn]++[e.fSpan]++[e.fState]++numB e.fTick.toNat++numB e.fStamp.toNat:=by simp [eduB]
 rw [he]
 generalize []++[e.fKind]++txtB e.fRoom++txtB e.fUser++txtB e.fEvent++txtB e.fThread=bb at hl ⊢
 refine Ev.bind (flag_ev (b:=bb) (by omega)) ?_
 have t2:El (fun k j=>edu_laid.l0 k e j 0 (bb++[flagN e.fOn])) (4,false,bb++[flagN e.fOn]++[e.fSpan]++[e.fState]++numB e.fTick.toNat++numB e.fStamp.toNat):=by
  refine El.step (fun _ _=>by rw [edu_laid.l0]) ?_
  refine El.ct rfl (El.grd (of_decide_eq_true rfl) (El.bind (Ev.el (number_ev (n:=e.fSpan) h6.1 h6.2 (by simp; omega))) ?_))
  refine El.step (fun _ _=>by rw [edu_laid.l0]) ?_
  refine El.ct rfl (El.grd (of_decide_eq_true rfl) (El.bind (Ev.el (number_ev (n:=e.fState) h7.1 h7.2 (by simp; omega))) ?_))
  refine El.step (fun _ _=>by rw [edu_laid.l0]) ?_
  refine El.ct rfl (El.grd (of_decide_eq_true rfl) (El.bind (Ev.el (number_big (n:=e.fTick) h8.1 h8.2 (by simp; omega))) ?_))
  refine El.step (fun _ _=>by rw [edu_laid.l0]) ?_
  refine El.ct rfl (El.grd (of_decide_eq_true rfl) (El.bind (Ev.el (number_big (n:=e.fStamp) h9.1 h9.2 (by have:=numB_le h8.2; simp; omega))) ?_))
  refine El.step (fun _ _=>by rw [edu_laid.l0]) ?_
  exact El.cf rfl El.pure
 exact Ev.bind t2.diag Ev.pure
theorem refbytes_ev (h:Sm e):Ev (fun k=>r03_Bytes.f k e) (eduB e):=by
 obtain ⟨h1,h2,h3,h4,h5,h6,h7,h8,h9⟩:=h
 unfold r03_Bytes.f
 have hf:∀ o,r02_Flag.f o=some [flagN o]:=fun o=>by cases o <;> rfl
 have he:eduB e=[e.fKind]++txtB e.fRoom++txtB e.fUser++txtB e.fEvent++txtB e.fThread++[flagN e.fOn]++[e.fSpan]++[e.fState]++numB e.fTick.toNat++numB e.fStamp.toNat:=by simp [eduB]
 rw [he]
 refine Ev.bind (refnum_ev h1.1 h1.2) (Ev.bind (reftext_ev h2) (Ev.grd ?_ (Ev.bind (reftext_ev h3) (Ev.grd ?_ (Ev.bind (reftext_ev h4) (Ev.grd ?_ (Ev.bind (reftext_ev h5) (Ev.grd ?_ (Ev.bind (Ev.of (hf _)) (Ev.grd ?_ (Ev.bind (refnum_ev h6.1 h6.2) (Ev.grd ?_ (Ev.bind (refnum_ev h7.1 h7.2) (Ev.grd ?_ (Ev.bind (refnum_big h8.1 h8.2) (Ev.grd ?_ (Ev.bind (refnum_big h9.1 h9.2) (Ev.grd ?_ Ev.pure)))))))))))))))))) <;> (have a8:=numB_le h8.2; have a9:=numB_le h9.2; simp [txtB_len]; omega)
def cmpE (a b:Edu):Int:=if a.fStamp<b.fStamp then -1 else if b.fStamp<a.fStamp then 1 else cmpS (ofNums (eduB a)) (ofNums (eduB b))
theorem refcmp_ev {a b:Edu} (ha:Sm a) (hb:Sm b):Ev (fun k=>r03_Compare.f k a b) (cmpE a b):=by
 unfold r03_Compare.f cmpE
 by_cases h1:a.fStamp<b.fStamp
 ·rw [if_pos h1]; exact Ev.ct (by simpa using h1) Ev.pure
 rw [if_neg h1]
 refine Ev.cf (by simpa using h1) ?_
 by_cases h2:b.fStamp<a.fStamp
 ·rw [if_pos h2]; exact Ev.ct (by simpa using h2) Ev.pure
 rw [if_neg h2]
 refine Ev.cf (by simpa using h2) (Ev.bind (refbytes_ev ha) (Ev.bind (refbytes_ev hb) ?_))
 unfold cmpS
 cases h3:sLt (ofNums (eduB a)) (ofNums (eduB b)) with
 | true=>exact Ev.ct rfl Ev.pure
 | false=>
  refine Ev.cf rfl ?_
  cases h4:sLt (ofNums (eduB b)) (ofNums (eduB a)) with
  | true=>exact Ev.ct rfl Ev.pure
  | false=>exact Ev.cf rfl Ev.pure
theorem cmp_ev {a b:Edu} (ha:Sm a) (hb:Sm b):Ev (fun k=>edu_Compare.f k a b) (cmpE a b):=by
 unfold edu_Compare.f bytes_Compare.f
 refine Ev.bind (Ev.of (cmpint _ _)) (Ev.bind (laid_ev ha) (Ev.bind (laid_ev hb) (Ev.bind Ev.pure (Ev.bind (or_ev _ _) ?_))))
 have e:(if cmpI a.fStamp b.fStamp=0 then cmpB (eduB a) (eduB b) else cmpI a.fStamp b.fStamp)=cmpE a b:=by
  rw [cmpB_eq]
  unfold cmpE cmpI
  by_cases h1:a.fStamp<b.fStamp
  ·simp [h1]
  ·by_cases h2:b.fStamp<a.fStamp <;> simp [h1,h2]
 rw [e]
 exact Ev.pure
end
theorem at_nat (l:List Edu) (m:Nat):Edu.K.at l (m:Int)=l.getD m default:=by unfold Kd.at; rw [Int.toNat_natCast] <;> rfl
end Go.Proofs.YtmmaijneehmbgaaGreat
