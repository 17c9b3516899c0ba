import Derived.Test.YtmmaijneehmbgaaGreatZSQ
set_option linter.all false
set_option maxRecDepth 10000
namespace Go.Proofs.YtmmaijneehmbgaaGreat
open Go Go.Sp
theorem contains_evQ (l:List Edu) (e:Edu) (hl:l.length≤100000):Ev (fun k=>slices_ContainsFunc_Edu_x.f k l (fun a=>queue_Queue_Keep_1.f a e)) (l.any fun o=>decide (o=e)):=by
 have pr:∀ x∈l,Ev (fun _=>queue_Queue_Keep_1.f x e) (decide (x=e)):=fun x _=>Ev.of rfl
 have hI:Ev (fun k=>slices_IndexFunc_Edu_x.f k l (fun a=>queue_Queue_Keep_1.f a e)) (fidx (fun x=>decide (x=e)) l):=by
  unfold slices_IndexFunc_Edu_x.f
  exact idxG (F:=fun k j x=>slices_IndexFunc_Edu_x.l0 k l (fun a=>queue_Queue_Keep_1.f a e) j x) (d:=default) hl pr fun _ _ _=>rfl
 unfold slices_ContainsFunc_Edu_x.f
 exact containsG hI
theorem drop_one {P S:List Edu} {e:Edu} (hn:((P++e::S).map keyE).Nodup):(P++e::S).filter (fun o=>!decide (keyE o=keyE e))=P++S:=by
 rw [List.map_append,List.map_cons,List.nodup_append,List.nodup_cons] at hn
 obtain ⟨_,⟨h1,_⟩,h2⟩:=hn
 rw [List.filter_append,List.filter_cons,decide_eq_true rfl]
 rw [filter_none (l:=P) (fun a ha=>decide_eq_false (h2 _ (List.mem_map.2 ⟨a,ha,rfl⟩) _ (List.mem_cons_self ..)))]
 rw [filter_none (l:=S) (fun a ha=>decide_eq_false (fun e'=>h1 (List.mem_map.2 ⟨a,ha,e'⟩)))]
 rfl
theorem keep_evQ {q:SQue} {r:RQue} (h:RelQ q r) (l:List Edu) (hl:l.length≤1000):(∃ q',Ev (fun k=>queue_Queue_Keep.f k q l) q'∧RelQ q' ⟨r.fMost,r.fL.filter (fun e=>l.any fun o=>decide (o=e)),r.fLost⟩)∧Ev (fun k=>r17_Keep.f k r l) ⟨r.fMost,r.fL.filter (fun e=>l.any fun o=>decide (o=e)),r.fLost⟩:=by
 have hs:=h.short
 constructor
 ·have key:∀ n x:Nat,r.fL.length-x=n→x≤r.fL.length→∀ qx,RelQ qx ⟨r.fMost,(r.fL.take x).filter (fun e=>l.any fun o=>decide (o=e))++r.fL.drop x,r.fLost⟩→
    ∃ q',El (fun k j=>queue_Queue_Keep.l0 k l r.fL j (x:Int) qx) q'∧RelQ q' ⟨r.fMost,r.fL.filter (fun e=>l.any fun o=>decide (o=e)),r.fLost⟩:=by
   intro n
   induction n with
   | zero=>
    intro x hn hx qx hq
    obtain rfl:x=r.fL.length:=by omega
    rw [List.drop_length,List.take_length,List.append_nil] at hq
    refine ⟨qx,?_,hq⟩
    refine El.step (fun _ _=>by rw [queue_Queue_Keep.l0]) ?_
    exact El.cf (by simp) El.pure
   | succ n ih=>
    intro x hn hx qx hq
    have hx2:x<r.fL.length:=by omega
    have e0:Edu.K.at r.fL (x:Int)=r.fL.getD x default:=at_nat _ _
    have hc:=contains_evQ l (r.fL.getD x default) (by omega)
    have ht:r.fL.take (x+1)=r.fL.take x++[r.fL.getD x default]:=by
     rw [List.take_succ_eq_append_getElem hx2,List.getD_eq_getElem?_getD,List.getElem?_eq_getElem hx2]; rfl
    have hd:=dropG (d:=default) hx2
    have head:∀ q',El (fun k j=>cond (!(l.any fun o=>decide (o=r.fL.getD x default))) ((edu_Of.f (r.fL.getD x default)).bind fun t=>(queue_Queue_drop.f k qx t).bind fun t2=>queue_Queue_Keep.l0 k l r.fL j ((x+1:Nat):Int) t2) (queue_Queue_Keep.l0 k l r.fL j ((x+1:Nat):Int) qx)) q'→El (fun k j=>queue_Queue_Keep.l0 k l r.fL j (x:Int) qx) q':=fun q' hh=>by
     refine El.step (fun _ _=>by rw [queue_Queue_Keep.l0]) ?_
     rw [inc1 (show x≤1000000 by omega),e0]
     exact El.ct (decide_eq_true (by omega)) (El.grd ⟨by omega,by omega⟩ (El.bind hc.el hh))
    cases hb:(l.any fun o=>decide (o=r.fL.getD x default)) with
    | true=>
     rw [hb] at head
     obtain ⟨q',a1,a2⟩:=ih (x+1) (by omega) (by omega) qx (by
      rw [ht,List.filter_append,List.filter_cons,hb]
      rw [hd] at hq
      simpa using hq)
     exact ⟨q',head q' (El.cf rfl a1),a2⟩
    | false=>
     rw [hb] at head
     rw [hd] at hq
     have hk:qx.fkeys.length≤100000:=by
      have:=hq.short
      rw [hq.keys,List.length_map]; omega
     have dv:=dropQ_ev qx (keyE (r.fL.getD x default)) hk
     have hq2:=hq.drop (keyE (r.fL.getD x default))
     rw [drop_one hq.nd] at hq2
     obtain ⟨q',a1,a2⟩:=ih (x+1) (by omega) (by omega) _ (by
      rw [ht,List.filter_append,List.filter_cons,hb]
      simpa using hq2)
     exact ⟨q',head q' (El.ct rfl (El.bind (Ev.of (of_ev' _)).el (El.bind dv.el a1))),a2⟩
  obtain ⟨q',a1,a2⟩:=key _ 0 rfl (by omega) q (by rw [List.take_zero,List.drop_zero]; exact h)
  unfold queue_Queue_Keep.f
  exact ⟨q',Ev.bind (all_evQ h) a1.diag,a2⟩
 ·have inner:∀ i:Nat,i<r.fL.length→∀ n x:Nat,l.length-x=n→x≤l.length→∀ b:Bool,El (fun k j=>r17_Keep.l1 k r l (i:Int) j b (x:Int)) (b||((l.drop x).any fun o=>decide (o=r.fL.getD i default)),(l.length:Int),false):=by
   intro i hi n
   induction n with
   | zero=>
    intro x hn hx b
    obtain rfl:x=l.length:=by omega
    refine El.step (fun _ _=>by rw [r17_Keep.l1]) ?_
    rw [List.drop_length]
    exact El.cf (by simp) (by simpa using El.pure)
   | succ n ih=>
    intro x hn hx b
    have hx2:x<l.length:=by omega
    refine El.step (fun _ _=>by rw [r17_Keep.l1]) ?_
    rw [inc1 (show x≤1000000 by omega),at_nat,at_nat,dropG (d:=default) hx2,List.any_cons]
    refine El.ct (decide_eq_true (by omega)) ?_
    cases b with
    | true=>exact El.ct rfl (by simpa using ih (x+1) (by omega) (by omega) true)
    | false=>exact El.cf rfl (El.grd ⟨by omega,by omega⟩ (El.grd ⟨by omega,by omega⟩ (by simpa using ih (x+1) (by omega) (by omega) (decide (l.getD x default=r.fL.getD i default)))))
  unfold r17_Keep.f
  refine Ev.bind (chooseG (F:=fun k j x out=>r17_Keep.l0 k r l j x out) (b:=fun e=>l.any fun o=>decide (o=e)) (d:=default) (by omega) (fun out=>?_) (fun x out y hx ho hh=>?_)) Ev.pure
  ·refine El.step (fun _ _=>by rw [r17_Keep.l0]) ?_
   exact El.cf (by simp) (by simpa using El.pure)
  ·have hi:=inner x hx _ 0 rfl (by omega) false
   rw [List.drop_zero,Bool.false_or] at hi
   refine El.step (fun _ _=>by rw [r17_Keep.l0]) ?_
   rw [inc1 (show x≤1000000 by omega),at_nat]
   refine El.ct (decide_eq_true (by omega)) ?_
   cases hb:(l.any fun o=>decide (o=r.fL.getD x default)) with
   | true=>
    rw [hb] at hi hh
    rw [if_pos rfl] at hh
    exact El.bind (El.bind hi.diag.el (El.ct rfl (El.grd ⟨by omega,by omega⟩ (El.grd ⟨by rw [List.length_singleton]; omega,by rw [List.length_singleton]; omega⟩ El.pure)))) hh
   | false=>
    rw [hb] at hi hh
    rw [if_neg (by decide)] at hh
    exact El.bind (El.bind hi.diag.el (El.cf rfl El.pure)) hh
def mOf (n:Int) (l:List Edu):Nat:=(min (max n 0) (l.length:Int)).toNat
theorem mOf_le (n:Int) (l:List Edu):mOf n l≤l.length∧(min (max n 0) (l.length:Int))=(mOf n l:Int):=by unfold mOf; omega
theorem take_evQ {q:SQue} {r:RQue} (h:RelQ q r) (n:Int):(∃ q',Ev (fun k=>queue_Queue_Take.f k q n) (r.fL.take (mOf n r.fL),q')∧RelQ q' ⟨r.fMost,r.fL.drop (mOf n r.fL),r.fLost⟩)∧r17_Take.f r n=some (⟨r.fMost,r.fL.drop (mOf n r.fL),r.fLost⟩,r.fL.take (mOf n r.fL)):=by
 have hs:=h.short
 obtain ⟨hm,hm2⟩:=mOf_le n r.fL
 constructor
 ·have hT:((r.fL.take ((min (max n 0) (r.fL.length:Int)).toNat)).drop 0)=r.fL.take (mOf n r.fL):=by rw [List.drop_zero]; rfl
  have hTl:(r.fL.take (mOf n r.fL)).length=mOf n r.fL:=by rw [List.length_take,Nat.min_eq_left hm]
  have key:∀ d x:Nat,mOf n r.fL-x=d→x≤mOf n r.fL→∀ qx,RelQ qx ⟨r.fMost,r.fL.drop x,r.fLost⟩→∃ q',El (fun k j=>queue_Queue_Take.l0 k n r.fL j (x:Int) qx) ((mOf n r.fL:Int),false,q')∧RelQ q' ⟨r.fMost,r.fL.drop (mOf n r.fL),r.fLost⟩:=by
   intro d
   induction d with
   | zero=>
    intro x hd hx qx hq
    obtain rfl:x=mOf n r.fL:=by omega
    refine ⟨qx,?_,hq⟩
    refine El.step (fun _ _=>by rw [queue_Queue_Take.l0]) ?_
    rw [hT,hTl]
    exact El.cf (by simp) (by simpa using El.pure)
   | succ d ih=>
    intro x hd hx qx hq
    have hx2:x<r.fL.length:=by omega
    have hg:Edu.K.at (r.fL.take (mOf n r.fL)) (x:Int)=r.fL.getD x default:=by
     rw [at_nat,List.getD_eq_getElem?_getD,List.getD_eq_getElem?_getD,List.getElem?_take_of_lt (by omega)]
    rw [dropG (d:=default) hx2] at hq
    have hk:qx.fkeys.length≤100000:=by
     have:=hq.short
     rw [hq.keys,List.length_map]; omega
    have dv:=dropQ_ev qx (keyE (r.fL.getD x default)) hk
    have hq2:=hq.drop (keyE (r.fL.getD x default))
    have h1:=drop_one (P:=[]) hq.nd
    rw [List.nil_append,List.nil_append] at h1
    rw [h1] at hq2
    obtain ⟨q',a1,a2⟩:=ih (x+1) (by omega) (by omega) _ hq2
    refine ⟨q',?_,a2⟩
    refine El.step (fun _ _=>by rw [queue_Queue_Take.l0]) ?_
    rw [hT,hTl,hg,inc1 (show x≤1000000 by omega)]
    exact El.ct (decide_eq_true (by omega)) (El.grd ⟨by omega,by omega⟩ (El.bind (Ev.of (of_ev' _)).el (El.bind dv.el a1)))
  obtain ⟨q',a1,a2⟩:=key _ 0 rfl (by omega) q (by rw [List.drop_zero]; exact h)
  refine ⟨q',?_,a2⟩
  unfold queue_Queue_Take.f
  exact Ev.bind (all_evQ h) (Ev.grd ⟨by omega,by omega,by omega⟩ (Ev.bind a1.diag (Ev.of (by rw [hT]))))
 ·unfold r17_Take.f
  simp only [grd]
  rw [if_pos ⟨by omega,by omega,Nat.le_refl _⟩,if_pos ⟨by omega,by omega,by omega⟩,List.take_length,List.drop_zero]
  rfl
theorem next_ev {a:Int} (h:0≤a∧a≤1099511627776):Ev (fun k=>clock_Counter_Next.f k ⟨⟨a⟩,1099511627776⟩) (if a=1099511627776 then (0,11,⟨⟨a⟩,1099511627776⟩) else (a+1,0,⟨⟨a+1⟩,1099511627776⟩)):=by
 unfold clock_Counter_Next.f clock_Counter_Add.f
 by_cases e:a=1099511627776
 ·subst e
  rw [if_pos rfl]
  refine Ev.bind (Ev.cf rfl (El.diag (F:=fun k j=>clock_Counter_Add.l0 k ⟨⟨1099511627776⟩,1099511627776⟩ 1 j) (a:=(0,11,⟨⟨1099511627776⟩,1099511627776⟩)) ?_)) Ev.pure
  refine El.step (fun _ _=>by rw [clock_Counter_Add.l0]) ?_
  exact El.ct rfl (El.ct rfl El.pure)
 ·rw [if_neg e]
  refine Ev.bind (Ev.cf rfl (El.diag (F:=fun k j=>clock_Counter_Add.l0 k ⟨⟨a⟩,1099511627776⟩ 1 j) (a:=(a+1,0,⟨⟨a+1⟩,1099511627776⟩)) ?_)) Ev.pure
  refine El.step (fun _ _=>by rw [clock_Counter_Add.l0]) ?_
  have hw:w64 (1099511627776-a)=1099511627776-a:=w64_id (by omega) (by omega)
  have hw2:w64 (a+1)=a+1:=w64_id (by omega) (by omega)
  refine El.ct rfl (El.cf (by rw [beq_eq_false_iff_ne]; exact e) (El.bind (a:=a+1) ?_ (El.cf rfl El.pure)))
  show El (fun _ _=>cond (decide (1<w64 (1099511627776-a))) (some (w64 (a+1))) (some 1099511627776)) (a+1)
  rw [hw,hw2]
  by_cases e2:1<1099511627776-a
  ·exact El.ct (decide_eq_true e2) El.pure
  ·have:a+1=1099511627776:=by omega
   exact El.cf (decide_eq_false e2) (by rw [this]; exact El.pure)
def pw:Nat→Int
 | 0=>1
 | n+1=>min (2*pw n) 16
theorem pw_le (n:Nat):1≤pw n∧pw n≤16:=by
 induction n with
 | zero=>decide
 | succ n ih=>simp only [pw]; omega
def bk (n:Int):Int:=pw (min (max n 0) 9).toNat
theorem backoff_ev (n:Int):Ev (fun k=>clock_Backoff.f k n) (bk n):=by
 obtain ⟨m,hm,hm9⟩:∃ m:Nat,min (max n 0) 9=(m:Int)∧m≤9:=⟨(min (max n 0) 9).toNat,by omega,by omega⟩
 have key:∀ d x:Nat,m-x=d→x≤m→El (fun k j=>clock_Backoff.l0 k n j (pw x) (x:Int)) (pw m,(m:Int),false):=by
  intro d
  induction d with
  | zero=>
   intro x hd hx
   obtain rfl:x=m:=by omega
   refine El.step (fun _ _=>by rw [clock_Backoff.l0]) ?_
   rw [hm]
   exact El.cf (by simp) (by simpa using El.pure)
  | succ d ih=>
   intro x hd hx
   have hp:=pw_le x
   refine El.step (fun _ _=>by rw [clock_Backoff.l0]) ?_
   rw [hm,inc1 (show x≤1000000 by omega),w64_id (x:=2*pw x) (by omega) (by omega)]
   exact El.ct (decide_eq_true (by omega)) (ih (x+1) (by omega) (by omega))
 have e:bk n=pw m:=by unfold bk; rw [hm,Int.toNat_natCast]
 unfold clock_Backoff.f
 rw [e]
 exact Ev.bind (key _ 0 rfl (by omega)).diag Ev.pure
theorem refbackoff_ev (n:Int):r05_Backoff.f n=some (bk n):=by
 unfold r05_Backoff.f
 by_cases h1:n<1
 ·have:bk n=1:=by unfold bk; rw [show (min (max n 0) 9).toNat=0 by omega]; rfl
  rw [decide_eq_true h1,this]; rfl
 ·by_cases h3:3<n
  ·rw [decide_eq_false h1,decide_eq_true h3]
   have:bk n=16:=by
    unfold bk
    obtain ⟨m,hm,h4,h9⟩:∃ m:Nat,(min (max n 0) 9).toNat=m∧4≤m∧m≤9:=⟨_,rfl,by omega,by omega⟩
    rw [hm]
    rcases (show m=4∨m=5∨m=6∨m=7∨m=8∨m=9 by omega) with rfl | rfl | rfl | rfl | rfl | rfl <;> decide
   rw [this]; rfl
  ·rcases (show n=1∨n=2∨n=3 by omega) with rfl | rfl | rfl <;> rfl
end Go.Proofs.YtmmaijneehmbgaaGreat
