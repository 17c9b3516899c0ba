import Derived.Test.YtmmaijneehmbgaaGreatConV
set_option linter.all false
namespace Go.Sp
open Go
theorem inc1 {m:Nat} (h:m≤1000000):w64 ((m:Int)+1)=((m+1:Nat):Int):=by rw [w64_id (by omega) (by omega)]; omega
theorem getD_midG {α:Type} (P:List α) (c:α) (C:List α) (d:α):(P++c::C).getD P.length d=c:=by
 rw [List.getD_eq_getElem?_getD,List.getElem?_append_right (by omega),Nat.sub_self]; rfl
theorem dropG {α:Type} {l:List α} {x:Nat} {d:α} (h:x<l.length):l.drop x=l.getD x d::l.drop (x+1):=by
 rw [List.drop_eq_getElem_cons h,List.getD_eq_getElem?_getD,List.getElem?_eq_getElem h]; rfl
section
variable {α:Type} {p:Nat→α→Option Bool} {b:α→Bool} {xs:List α} {d:α}
def fidx (b:α→Bool) (xs:List α):Int:=match xs.findIdx? b with | some i=>(i:Int) | none=>-1
theorem fidx_cases (b:α→Bool):∀ xs:List α,(∃ A c D,xs=A++c::D∧(∀ a∈A,b a=false)∧b c=true∧fidx b xs=(A.length:Int))∨((∀ a∈xs,b a=false)∧fidx b xs = -1)
 | []=>.inr ⟨fun a h=>(by cases h),rfl⟩
 | x::xs=>by
  cases hb:b x with
  | true=>exact .inl ⟨[],x,xs,rfl,fun a h=>(by cases h),hb,by simp [fidx,List.findIdx?_cons,hb]⟩
  | false=>
   rcases fidx_cases b xs with ⟨A,c,D,h1,h2,h3,h4⟩ | ⟨h1,h2⟩
   ·refine .inl ⟨x::A,c,D,by rw [h1]; rfl,fun a ha=>?_,h3,?_⟩
    ·rcases List.mem_cons.1 ha with rfl | ha
     ·exact hb
     ·exact h2 a ha
    ·unfold fidx at h4 ⊢
     rw [List.findIdx?_cons,hb]
     cases hf:xs.findIdx? b with
     | none=>rw [hf] at h4; simp only at h4; omega
     | some i=>rw [hf] at h4; simp only at h4; simp; omega
   ·refine .inr ⟨fun a ha=>?_,?_⟩
    ·rcases List.mem_cons.1 ha with rfl | ha
     ·exact hb
     ·exact h1 a ha
    ·unfold fidx at h2 ⊢
     rw [List.findIdx?_cons,hb]
     cases hf:xs.findIdx? b with
     | none=>rfl
     | some i=>rw [hf] at h2; simp only at h2; omega
theorem idxG {F:Nat→Nat→Int→Option ((Int×Bool) ⊕ Int)} (hl:xs.length≤100000) (hp:∀ x∈xs,Ev (fun k=>p k x) (b x))
  (hF:∀ k j x,F k (j+1) x=cond (decide (x<(xs.length:Int))) (grd ((0:Int)≤x∧x<(xs.length:Int)) ((p k (xs.getD x.toNat d)).bind fun t=>cond t (some (.inr x)) (F k j (w64 (x+1))))) (some (.inl (x,decide (x<(xs.length:Int)))))):
  Ev (fun k=>(F k k 0).bind (fall fun _:Int×Bool=>some (-1))) (fidx b xs):=by
 have key:∀ C P:List α,xs=P++C→El (fun k j=>F k j (P.length:Int)) (match C.findIdx? b with | some i=>.inr ((P.length+i:Nat):Int) | none=>.inl ((xs.length:Int),false)):=by
  intro C
  induction C with
  | nil=>
   intro P e
   rw [List.append_nil] at e; subst e
   refine El.step (fun k j=>hF k j _) ?_
   exact El.cf (by simp) (by simpa using El.pure)
  | cons c C ih=>
   intro P e
   have hlen:xs.length=P.length+C.length+1:=by rw [e,List.length_append,List.length_cons]; omega
   have hg:xs.getD P.length d=c:=by rw [e]; exact getD_midG _ _ _ _
   refine El.step (fun k j=>hF k j _) ?_
   rw [inc1 (show P.length≤1000000 by omega),Int.toNat_natCast,hg,List.findIdx?_cons]
   refine El.ct (decide_eq_true (by omega)) (El.grd ⟨by omega,by omega⟩ (El.bind (hp c (by rw [e]; simp)).el ?_))
   cases hb:b c with
   | true=>exact El.pure
   | false=>
    have h:=ih (P++[c]) (by rw [e]; simp)
    rw [show (P++[c]).length=P.length+1 by simp] at h
    refine El.cf rfl ?_
    cases hf:C.findIdx? b with
    | none=>rw [hf] at h; exact h
    | some i=>
     rw [hf] at h
     have e2:P.length+(i+1)=P.length+1+i:=by omega
     show El _ (Sum.inr ((P.length+(i+1):Nat):Int))
     rw [e2]
     exact h
 have h:=(key xs [] rfl).diag
 unfold fidx
 cases hf:xs.findIdx? b with
 | none=>rw [hf] at h; exact Ev.bind h (Ev.of rfl)
 | some i=>
  rw [hf] at h
  refine Ev.bind h (Ev.of ?_)
  show some (((0+i:Nat):Int))=_
  rw [Nat.zero_add]
theorem containsG {I:Nat→Option Int} (h:Ev I (fidx b xs)):Ev (fun k=>(I k).bind fun t=>some (decide ((0:Int)≤t))) (xs.any b):=by
 refine Ev.bind h (Ev.of ?_)
 congr 1
 rcases fidx_cases b xs with ⟨A,c,D,h1,h2,h3,h4⟩ | ⟨h1,h2⟩
 ·rw [h4,show xs.any b=true from List.any_eq_true.2 ⟨c,by rw [h1]; simp,h3⟩,decide_eq_true (by omega)]
 ·rw [h2,show xs.any b=false from List.any_eq_false.2 fun a ha=>by rw [h1 a ha]; simp]; rfl
theorem delLoopG {F:Nat→Nat→Int→Int→List α→Option (Int×Int×Bool×List α)} {U:List α} (hp:∀ x∈U,Ev (fun k=>p k x) (b x))
  (hF:∀ k j i m l,F k (j+1) i m l=cond (decide (m<(l.length:Int))) (grd ((0:Int)≤m∧m<(l.length:Int)) ((p k (l.getD m.toNat d)).bind fun t=>cond (!t) (grd ((0:Int)≤i∧i<(l.length:Int)) (F k j (w64 (i+1)) (w64 (m+1)) (l.set i.toNat (l.getD m.toNat d)))) (F k j i (w64 (m+1)) l))) (some (i,m,decide (m<(l.length:Int)),l))):
  ∀ (C A B:List α),B≠[]→(A++B++C).length≤100000→(∀ c∈C,c∈U)→
  ∃ cur:List α,El (fun k j=>F k j (A.length:Int) ((A.length+B.length:Nat):Int) (A++B++C)) (((A++C.filter fun x=>!b x).length:Int),((A++B++C).length:Int),false,cur)∧cur.take (A++C.filter fun x=>!b x).length=A++C.filter (fun x=>!b x)∧(A++C.filter fun x=>!b x).length<cur.length
 | [],A,B,hB,hl,hU=>by
  have hb:0<B.length:=List.length_pos_iff.2 hB
  refine ⟨A++B,?_,by simp,by simp; omega⟩
  refine El.step (fun k j=>hF k j _ _ _) ?_
  rw [List.append_nil]
  refine El.cf (by simp) ?_
  have:decide (((A.length+B.length:Nat):Int)<((A++B).length:Int))=false:=by simp
  rw [this]
  simp only [List.filter_nil,List.append_nil]
  rw [show ((A++B).length:Int)=((A.length+B.length:Nat):Int) by rw [List.length_append]]
  exact El.pure
 | c::C,A,B,hB,hl,hU=>by
  have hb:0<B.length:=List.length_pos_iff.2 hB
  have hlen:(A++B++c::C).length=A.length+B.length+C.length+1:=by simp; omega
  have hAB:A.length+B.length=(A++B).length:=by simp
  have hget:(A++B++c::C).getD (A.length+B.length) d=c:=by rw [hAB]; exact getD_midG _ _ _ _
  have hpc:=hp c (hU c (List.mem_cons_self ..))
  have head:∀ r,El (fun k j=>cond (!b c) (F k j ((A.length+1:Nat):Int) ((A.length+B.length+1:Nat):Int) ((A++B++c::C).set A.length c)) (F k j (A.length:Int) ((A.length+B.length+1:Nat):Int) (A++B++c::C))) r→
    El (fun k j=>F k j (A.length:Int) ((A.length+B.length:Nat):Int) (A++B++c::C)) r:=fun r h=>by
   refine El.step (fun k j=>hF k j _ _ _) ?_
   rw [inc1 (show A.length+B.length≤1000000 by omega),inc1 (show A.length≤1000000 by omega),Int.toNat_natCast,Int.toNat_natCast,hget]
   refine El.ct (decide_eq_true (by omega)) (El.grd ⟨by omega,by omega⟩ (El.bind hpc.el ?_))
   cases hbc:b c with
   | true=>rw [hbc] at h; exact h
   | false=>rw [hbc] at h; exact El.grd ⟨by omega,by omega⟩ h
  cases hbc:b c with
  | true=>
   rw [hbc] at head
   have e:A++B++c::C=A++(B++[c])++C:=by simp
   obtain ⟨cur,h1,h2,h3⟩:=delLoopG hp hF C A (B++[c]) (by simp) (by rw [← e]; exact hl) (fun x hx=>hU x (List.mem_cons_of_mem _ hx))
   rw [← e,show A.length+(B++[c]).length=A.length+B.length+1 by simp; omega] at h1
   refine ⟨cur,head _ ?_,?_,?_⟩
   ·rw [List.filter_cons,hbc]; exact h1
   ·rw [List.filter_cons,hbc]; exact h2
   ·rw [List.filter_cons,hbc]; exact h3
  | false=>
   rw [hbc] at head
   obtain ⟨y,B',rfl⟩:∃ y B',B=y::B':=by
    cases B with
    | nil=>exact absurd rfl hB
    | cons y B'=>exact ⟨y,B',rfl⟩
   have e:(A++(y::B')++c::C).set A.length c=(A++[c])++(B'++[c])++C:=by
    rw [List.append_assoc,List.set_append_right _ _ (by omega),Nat.sub_self]
    simp
   have el:((A++[c])++(B'++[c])++C).length=(A++(y::B')++c::C).length:=by rw [← e,List.length_set]
   obtain ⟨cur,h1,h2,h3⟩:=delLoopG hp hF C (A++[c]) (B'++[c]) (by simp) (by rw [el]; exact hl) (fun x hx=>hU x (List.mem_cons_of_mem _ hx))
   rw [el,← e,show (A++[c]).length+(B'++[c]).length=A.length+(y::B').length+1 by simp; omega,show (A++[c]).length=A.length+1 by simp] at h1
   have ef:(A++[c])++C.filter (fun x=>!b x)=A++(c::C).filter (fun x=>!b x):=by
    rw [List.filter_cons,hbc]; simp
   rw [ef] at h1 h2 h3
   exact ⟨cur,head _ h1,h2,h3⟩
theorem delG {F:Nat→Nat→Int→Int→List α→Option (Int×Int×Bool×List α)} {I:Nat→Option Int} {z0:α} (hl:xs.length≤100000) (hp:∀ x∈xs,Ev (fun k=>p k x) (b x)) (hI:Ev I (fidx b xs))
  (hF:∀ k j i m l,F k (j+1) i m l=cond (decide (m<(l.length:Int))) (grd ((0:Int)≤m∧m<(l.length:Int)) ((p k (l.getD m.toNat d)).bind fun t=>cond (!t) (grd ((0:Int)≤i∧i<(l.length:Int)) (F k j (w64 (i+1)) (w64 (m+1)) (l.set i.toNat (l.getD m.toNat d)))) (F k j i (w64 (m+1)) l))) (some (i,m,decide (m<(l.length:Int)),l))):
  Ev (fun k=>(I k).bind fun t=>cond (t==(-1)) (some xs) ((F k k t (w64 (t+1)) xs).bind fun (q:Int×Int×Bool×List α)=>grd ((0:Int)≤q.1∧q.1.toNat<q.2.2.2.length) (grd ((0:Int)≤q.1∧0≤q.1.toNat∧q.1.toNat≤(q.2.2.2.take q.1.toNat++List.replicate (q.2.2.2.length-q.1.toNat) z0).length) (some (((q.2.2.2.take q.1.toNat++List.replicate (q.2.2.2.length-q.1.toNat) z0).take q.1.toNat).drop 0))))) (xs.filter fun x=>!b x):=by
 rcases fidx_cases b xs with ⟨A,c,D,h1,h2,h3,h4⟩ | ⟨h1,h2⟩
 ·obtain ⟨cur,d1,d2,d3⟩:=delLoopG (d:=d) (U:=xs) hp hF D A [c] (by simp) (by rw [List.append_assoc]; show (A++c::D).length≤_; rw [← h1]; exact hl) (fun x hx=>by rw [h1]; simp [hx])
  have e:A++[c]++D=xs:=by rw [h1,List.append_assoc]; rfl
  have ef:xs.filter (fun x=>!b x)=A++D.filter fun x=>!b x:=by
   rw [h1,List.filter_append,List.filter_cons,h3,List.filter_eq_self.2 fun a ha=>by rw [h2 a ha]; rfl]
   rfl
  have hA:A.length<xs.length:=by rw [h1]; simp
  rw [e] at d1
  rw [ef]
  rw [h4] at hI
  refine Ev.bind hI (Ev.cf (by rw [beq_eq_false_iff_ne]; omega) (Ev.bind (a:=(((A++D.filter fun x=>!b x).length:Int),((xs.length:Int)),false,cur)) ?_ (Ev.grd ⟨Int.natCast_nonneg _,by show (((A++D.filter fun x=>!b x).length:Int)).toNat<_; rw [Int.toNat_natCast]; exact d3⟩ (Ev.grd ⟨Int.natCast_nonneg _,Nat.zero_le _,?_⟩ (Ev.of ?_)))))
  ·have e2:w64 ((A.length:Int)+1)=((A.length+[c].length:Nat):Int):=by rw [inc1 (by omega)]; simp
   rw [e2]
   exact d1.diag
  ·show (((A++D.filter fun x=>!b x).length:Int)).toNat≤(cur.take (((A++D.filter fun x=>!b x).length:Int)).toNat++List.replicate (cur.length-(((A++D.filter fun x=>!b x).length:Int)).toNat) z0).length
   rw [Int.toNat_natCast,d2]
   simp only [List.length_append]
   exact Nat.le_add_right _ _
  ·show some (((cur.take (((A++D.filter fun x=>!b x).length:Int)).toNat++_).take (((A++D.filter fun x=>!b x).length:Int)).toNat).drop 0)=_
   rw [Int.toNat_natCast,d2,List.drop_zero,List.take_left]
 ·rw [List.filter_eq_self.2 fun a ha=>by rw [h1 a ha]; rfl]
  rw [h2] at hI
  exact Ev.bind hI (Ev.ct rfl Ev.pure)
theorem chooseG {F:Nat→Nat→Int→List α→Option (Int×Bool×List α)} (hl:xs.length≤100000)
  (h0:∀ out,El (fun k j=>F k j (xs.length:Int) out) ((xs.length:Int),false,out))
  (hs:∀ x out r,x<xs.length→out.length≤x→El (fun k j=>F k j ((x+1:Nat):Int) (if b (xs.getD x d)=true then out++[xs.getD x d] else out)) r→El (fun k j=>F k j (x:Int) out) r):
  Ev (fun k=>F k k 0 []) ((xs.length:Int),false,xs.filter b):=by
 have key:∀ n x:Nat,xs.length-x=n→x≤xs.length→∀ out:List α,out.length≤x→El (fun k j=>F k j (x:Int) out) ((xs.length:Int),false,out++(xs.drop x).filter b):=by
  intro n
  induction n with
  | zero=>
   intro x hn hx out ho
   obtain rfl:x=xs.length:=by omega
   rw [List.drop_length]
   simpa using h0 out
  | succ n ih=>
   intro x hn hx out ho
   have hx2:x<xs.length:=by omega
   refine hs x out _ hx2 ho ?_
   rw [dropG (d:=d) hx2,List.filter_cons]
   by_cases hb:b (xs.getD x d)=true
   ·have:=ih (x+1) (by omega) (by omega) (out++[xs.getD x d]) (by rw [List.length_append,List.length_singleton]; omega)
    rw [List.append_assoc] at this
    rw [if_pos hb,if_pos hb]
    exact this
   ·rw [if_neg hb,if_neg hb]
    exact ih (x+1) (by omega) (by omega) out (by omega)
 have:=(key _ 0 rfl (by omega) [] (by simp)).diag
 rw [List.drop_zero,List.nil_append] at this
 exact this
theorem sameG [DecidableEq α] {F:Nat→Nat→Int→Option ((Int×Bool) ⊕ Bool)} {ys:List α} (hl:xs.length≤100000)
  (hF:∀ k j x,F k (j+1) x=cond (decide (x<(xs.length:Int))) (grd ((0:Int)≤x∧x<(xs.length:Int)) (grd ((0:Int)≤x∧x<(ys.length:Int)) (cond (!decide (xs.getD x.toNat d=ys.getD x.toNat d)) (some (.inr false)) (F k j (w64 (x+1)))))) (some (.inl (x,decide (x<(xs.length:Int)))))):
  Ev (fun k=>cond ((xs.length:Int) != (ys.length:Int)) (some false) ((F k k 0).bind (fall fun _:Int×Bool=>some true))) (decide (xs=ys)):=by
 by_cases hlen:xs.length=ys.length
 ·refine Ev.cf (by simp [hlen]) ?_
  have key:∀ n x:Nat,xs.length-x=n→x≤xs.length→∃ r,El (fun k j=>F k j (x:Int)) r∧((xs.drop x=ys.drop x∧∃ y,r = .inl y)∨(xs.drop x≠ys.drop x∧r = .inr false)):=by
   intro n
   induction n with
   | zero=>
    intro x hn hx
    obtain rfl:x=xs.length:=by omega
    refine ⟨.inl ((xs.length:Int),false),?_,.inl ⟨by rw [List.drop_length,hlen,List.drop_length],_,rfl⟩⟩
    refine El.step (fun k j=>hF k j _) ?_
    exact El.cf (by simp) (by simpa using El.pure)
   | succ n ih=>
    intro x hn hx
    have hx2:x<xs.length:=by omega
    by_cases he:xs.getD x d=ys.getD x d
    ·obtain ⟨r,r1,r2⟩:=ih (x+1) (by omega) (by omega)
     refine ⟨r,?_,?_⟩
     ·refine El.step (fun k j=>hF k j _) ?_
      rw [inc1 (show x≤1000000 by omega),Int.toNat_natCast,decide_eq_true he]
      exact El.ct (decide_eq_true (by omega)) (El.grd ⟨by omega,by omega⟩ (El.grd ⟨by omega,by omega⟩ (El.cf rfl r1)))
     ·rw [dropG (d:=d) hx2,dropG (d:=d) (l:=ys) (by omega),he]
      rcases r2 with ⟨a,y⟩ | ⟨a,y⟩
      ·exact .inl ⟨by rw [a],y⟩
      ·exact .inr ⟨fun h=>a (List.cons.inj h).2,y⟩
    ·refine ⟨.inr false,?_,.inr ⟨?_,rfl⟩⟩
     ·refine El.step (fun k j=>hF k j _) ?_
      rw [Int.toNat_natCast,decide_eq_false he]
      exact El.ct (decide_eq_true (by omega)) (El.grd ⟨by omega,by omega⟩ (El.grd ⟨by omega,by omega⟩ (El.ct rfl El.pure)))
     ·rw [dropG (d:=d) hx2,dropG (d:=d) (l:=ys) (by omega)]
      exact fun h=>he (List.cons.inj h).1
  obtain ⟨r,r1,r2⟩:=key _ 0 rfl (by omega)
  rw [List.drop_zero,List.drop_zero] at r2
  rcases r2 with ⟨a,y,rfl⟩ | ⟨a,rfl⟩
  ·rw [decide_eq_true a]; exact Ev.bind r1.diag (Ev.of rfl)
  ·rw [decide_eq_false a]; exact Ev.bind r1.diag (Ev.of rfl)
 ·rw [decide_eq_false (fun h=>hlen (by rw [h]))]
  exact Ev.ct (by rw [bne_iff_ne]; omega) Ev.pure
end
end Go.Sp
