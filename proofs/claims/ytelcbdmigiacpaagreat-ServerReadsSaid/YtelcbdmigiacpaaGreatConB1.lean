import Derived.Test.YtelcbdmigiacpaaGreatConV
set_option linter.all false
namespace Go.Sp
open Go
theorem uS {m:Nat} (h:m<=1000000):aE ((m:Int)+1)=((m+1:Nat):Int):=by rw [c7 om om];omega
theorem w7 {α:Type} (P:List α) (c:α) (C:List α) (d:α):(P++c::C).getD P.length d=c:=by
 rw [gD,List.getElem?_append_right om,Nat.sub_self];rfl
section
variable {α:Type} {p:Nat->α->Option Bool} {b:α->Bool} {xs:List α} {d:α}
def yh (b:α->Bool) (xs:List α):Int:=match xs.findIdx? b with | some i=>(i:Int) | none=>-1
theorem vD (b:α->Bool):∀ xs:List α,(∃ A c D,xs=A++c::D/\(∀ a∈A,b a=false)/\b c=true/\yh b xs=(A.length:Int))\/((∀ a∈xs,b a=false)/\yh b xs = -1)
 | []=>.inr ⟨λa h=>(by cases h),rfl⟩
 | x::xs=>by
  cases hb:b x with
  | true=>exact .inl ⟨[],x,xs,rfl,λa h=>(by cases h),hb,by simp [yh,List.findIdx?_cons,hb]⟩
  | false=>
   rcases vD b xs with⟨A,c,D,h1,h2,h3,h4⟩|⟨h1,h2⟩
   ·refine .inl ⟨x::A,c,D,by rw [h1];rfl,λa ha=>?_,h3,?_⟩
    ·rcases List.mem_cons.1 ha with rfl | ha
     ·exact hb
     ·exact h2 a ha
    ·unfold yh at h4 ⊢
     rw [List.findIdx?_cons,hb]
     cases hf:xs.findIdx? b with
     | none=>rw [hf] at h4;simp only at h4;omega
     | some i=>rw [hf] at h4;simp only at h4;simp;omega
   ·refine .inr ⟨λa ha=>?_,?_⟩
    ·rcases List.mem_cons.1 ha with rfl | ha
     ·exact hb
     ·exact h1 a ha
    ·unfold yh at h2 ⊢
     rw [List.findIdx?_cons,hb]
     cases hf:xs.findIdx? b with
     | none=>rfl
     | some i=>rw [hf] at h2;simp only at h2;omega
theorem idxG {F:Nat->Nat->Int->Option ((Int×Bool) ⊕ Int)} (hl:xs.length<=100000) (hp:∀ x∈xs,Ev (λk=>p k x) (b x))
  (hF:∀ k j x,F k (j+1) x=cond (decide (x<(xs.length:Int))) (aF ((0:Int)<=x/\x<(xs.length:Int)) ((p k (xs.getD x.toNat d)).bind λt=>cond t (some (.inr x)) (F k j (aE (x+1))))) (some (.inl (x,decide (x<(xs.length:Int)))))):
  Ev (λk=>(F k k 0).bind (fall λ_:Int×Bool=>some (-1))) (yh b xs):=by
 have key:∀ C P:List α,xs=P++C->El (λk j=>F k j (P.length:Int)) (match C.findIdx? b with | some i=>.inr ((P.length+i:Nat):Int) | none=>.inl ((xs.length:Int),false)):=by
  intro C
  induction C with
  | nil=>
   intro P e
   rw [List.append_nil] at e;subst e
   refine El.step (λk j=>hF k j _) ?_
   exact El.cf sM (by simpa using El.pure)
  | cons c C ih=>
   intro P e
   have hlen:xs.length=P.length+C.length+1:=by rw [e,List.length_append,List.length_cons];omega
   have hg:xs.getD P.length d=c:=by rw [e];exact w7 _ _ _ _
   refine El.step (λk j=>hF k j _) ?_
   rw [uS (show P.length<=1000000 by omega),Int.toNat_natCast,hg,List.findIdx?_cons]
   refine El.ct (dT om) (El.aF ⟨om,om⟩ (El.bind (hp c (by rw [e];simp)).el ?_))
   cases hb:b c with
   | true=>exact El.pure
   | false=>
    have h:=ih (P++[c]) (by rw [e];simp)
    rw [show(P++[c]).length=P.length+1 by simp] at h
    refine El.cf rfl ?_
    cases hf:C.findIdx? b with
    | none=>rw [hf] at h;exact h
    | some i=>
     rw [hf] at h
     have e2:P.length+(i+1)=P.length+1+i:=om
     show El _ (Sum.inr ((P.length+(i+1):Nat):Int))
     rw [e2]
     exact h
 have h:=(key xs [] rfl).diag
 unfold yh
 cases hf:xs.findIdx? b with
 | none=>rw [hf] at h;exact Ev.bind h (Ev.of rfl)
 | some i=>
  rw [hf] at h
  refine Ev.bind h (Ev.of ?_)
  show some (((0+i:Nat):Int))=_
  rw [Nat.zero_add]
theorem vy {F:Nat->Nat->Int->Int->List α->Option (Int×Int×Bool×List α)} {U:List α} (hp:∀ x∈U,Ev (λk=>p k x) (b x))
  (hF:∀ k j i m l,F k (j+1) i m l=cond (decide (m<(l.length:Int))) (aF ((0:Int)<=m/\m<(l.length:Int)) ((p k (l.getD m.toNat d)).bind λt=>cond (!t) (aF ((0:Int)<=i/\i<(l.length:Int)) (F k j (aE (i+1)) (aE (m+1)) (l.set i.toNat (l.getD m.toNat d)))) (F k j i (aE (m+1)) l))) (some (i,m,decide (m<(l.length:Int)),l))):
  ∀ (C A B:List α),B≠[]->(A++B++C).length<=100000->(∀ c∈C,c∈U)->
  ∃ cur:List α,El (λk j=>F k j (A.length:Int) ((A.length+B.length:Nat):Int) (A++B++C)) (((A++C.filter λx=>!b x).length:Int),((A++B++C).length:Int),false,cur)/\cur.take (A++C.filter λx=>!b x).length=A++C.filter (λx=>!b x)/\(A++C.filter λx=>!b x).length<cur.length
 | [],A,B,hB,hl,hU=>by
  have hb:0<B.length:=List.length_pos_iff.2 hB
  refine⟨A++B,?_,sM,by simp;omega⟩
  refine El.step (λk j=>hF k j _ _ _) ?_
  rw [List.append_nil]
  refine El.cf sM ?_
  have:decide (((A.length+B.length:Nat):Int)<((A++B).length:Int))=false:=sM
  rw [this]
  simp only [List.filter_nil,List.append_nil]
  rw [show((A++B).length:Int)=((A.length+B.length:Nat):Int) by rw [List.length_append]]
  exact El.pure
 | c::C,A,B,hB,hl,hU=>by
  have hb:0<B.length:=List.length_pos_iff.2 hB
  have hlen:(A++B++c::C).length=A.length+B.length+C.length+1:=by simp;omega
  have hAB:A.length+B.length=(A++B).length:=sM
  have hget:(A++B++c::C).getD (A.length+B.length) d=c:=by rw [hAB];exact w7 _ _ _ _
  have hpc:=hp c (hU c (List.mem_cons_self ..))
  have head:∀ r,El (λk j=>cond (!b c) (F k j ((A.length+1:Nat):Int) ((A.length+B.length+1:Nat):Int) ((A++B++c::C).set A.length c)) (F k j (A.length:Int) ((A.length+B.length+1:Nat):Int) (A++B++c::C))) r->
    El (λk j=>F k j (A.length:Int) ((A.length+B.length:Nat):Int) (A++B++c::C)) r:=λr h=>by
   refine El.step (λk j=>hF k j _ _ _) ?_
   rw [uS (show A.length+B.length<=1000000 by omega),uS (show A.length<=1000000 by omega),Int.toNat_natCast,Int.toNat_natCast,hget]
   refine El.ct (dT om) (El.aF ⟨om,om⟩ (El.bind hpc.el ?_))
   cases hbc:b c with
   | true=>rw [hbc] at h;exact h
   | false=>rw [hbc] at h;exact El.aF ⟨om,om⟩ h
  cases hbc:b c with
  | true=>
   rw [hbc] at head
   have e:A++B++c::C=A++(B++[c])++C:=sM
   obtain⟨cur,h1,h2,h3⟩:=vy hp hF C A (B++[c]) sM (by rw [<- e];exact hl) (λx hx=>hU x (List.mem_cons_of_mem _ hx))
   rw [<- e,show A.length+(B++[c]).length=A.length+B.length+1 by simp;omega] at h1
   refine⟨cur,head _ ?_,?_,?_⟩
   ·rw [List.filter_cons,hbc];exact h1
   ·rw [List.filter_cons,hbc];exact h2
   ·rw [List.filter_cons,hbc];exact h3
  | false=>
   rw [hbc] at head
   obtain⟨y,B',rfl⟩:∃ y B',B=y::B':=by
    cases B with
    | nil=>exact absurd rfl hB
    | cons y B'=>exact⟨y,B',rfl⟩
   have e:(A++(y::B')++c::C).set A.length c=(A++[c])++(B'++[c])++C:=by
    rw [List.append_assoc,List.set_append_right _ _ om,Nat.sub_self]
    simp
   have el:((A++[c])++(B'++[c])++C).length=(A++(y::B')++c::C).length:=by rw [<- e,List.length_set]
   obtain⟨cur,h1,h2,h3⟩:=vy hp hF C (A++[c]) (B'++[c]) sM (by rw [el];exact hl) (λx hx=>hU x (List.mem_cons_of_mem _ hx))
   rw [el,<- e,show(A++[c]).length+(B'++[c]).length=A.length+(y::B').length+1 by simp;omega,show(A++[c]).length=A.length+1 by simp] at h1
   have ef:(A++[c])++C.filter (λx=>!b x)=A++(c::C).filter (λx=>!b x):=by
    rw [List.filter_cons,hbc];simp
   rw [ef] at h1 h2 h3
   exact⟨cur,head _ h1,h2,h3⟩
theorem delG {F:Nat->Nat->Int->Int->List α->Option (Int×Int×Bool×List α)} {I:Nat->Option Int} {z0:α} (hl:xs.length<=100000) (hp:∀ x∈xs,Ev (λk=>p k x) (b x)) (hI:Ev I (yh b xs))
  (hF:∀ k j i m l,F k (j+1) i m l=cond (decide (m<(l.length:Int))) (aF ((0:Int)<=m/\m<(l.length:Int)) ((p k (l.getD m.toNat d)).bind λt=>cond (!t) (aF ((0:Int)<=i/\i<(l.length:Int)) (F k j (aE (i+1)) (aE (m+1)) (l.set i.toNat (l.getD m.toNat d)))) (F k j i (aE (m+1)) l))) (some (i,m,decide (m<(l.length:Int)),l))):
  Ev (λk=>(I k).bind λt=>cond (t==(-1)) (some xs) ((F k k t (aE (t+1)) xs).bind λ(q:Int×Int×Bool×List α)=>aF ((0:Int)<=q.1/\q.1.toNat<q.2.2.2.length) (aF ((0:Int)<=q.1/\0<=q.1.toNat/\q.1.toNat<=(q.2.2.2.take q.1.toNat++List.replicate (q.2.2.2.length-q.1.toNat) z0).length) (some (((q.2.2.2.take q.1.toNat++List.replicate (q.2.2.2.length-q.1.toNat) z0).take q.1.toNat).drop 0))))) (xs.filter λx=>!b x):=by
 rcases vD b xs with⟨A,c,D,h1,h2,h3,h4⟩|⟨h1,h2⟩
 ·obtain⟨cur,d1,d2,d3⟩:=vy (d:=d) (U:=xs) hp hF D A [c] sM (by rw [List.append_assoc];show(A++c::D).length<=_;rw [<- h1];exact hl) (λx hx=>by rw [h1];simp [hx])
  have e:A++[c]++D=xs:=by rw [h1,List.append_assoc];rfl
  have ef:xs.filter (λx=>!b x)=A++D.filter λx=>!b x:=by
   rw [h1,List.filter_append,List.filter_cons,h3,List.filter_eq_self.2 λa ha=>by rw [h2 a ha];rfl]
   rfl
  have hA:A.length<xs.length:=by rw [h1];simp
  rw [e] at d1
  rw [ef]
  rw [h4] at hI
  refine Ev.bind hI (Ev.cf (by rw [beq_eq_false_iff_ne];omega) (Ev.bind (a:=(((A++D.filter λx=>!b x).length:Int),((xs.length:Int)),false,cur)) ?_ (Ev.aF ⟨Int.natCast_nonneg _,by show(((A++D.filter λx=>!b x).length:Int)).toNat<_;rw [Int.toNat_natCast];exact d3⟩ (Ev.aF ⟨Int.natCast_nonneg _,Nat.zero_le _,?_⟩ (Ev.of ?_)))))
  ·have e2:aE ((A.length:Int)+1)=((A.length+[c].length:Nat):Int):=by rw [uS om];simp
   rw [e2]
   exact d1.diag
  ·show(((A++D.filter λx=>!b x).length:Int)).toNat<=(cur.take (((A++D.filter λx=>!b x).length:Int)).toNat++List.replicate (cur.length-(((A++D.filter λx=>!b x).length:Int)).toNat) z0).length
   rw [Int.toNat_natCast,d2]
   simp only [List.length_append]
   exact Nat.le_add_right _ _
  ·show some (((cur.take (((A++D.filter λx=>!b x).length:Int)).toNat++_).take (((A++D.filter λx=>!b x).length:Int)).toNat).drop 0)=_
   rw [Int.toNat_natCast,d2,List.drop_zero,List.take_left]
 ·rw [List.filter_eq_self.2 λa ha=>by rw [h1 a ha];rfl]
  rw [h2] at hI
  exact Ev.bind hI (Ev.ct rfl Ev.pure)
end
end Go.Sp
