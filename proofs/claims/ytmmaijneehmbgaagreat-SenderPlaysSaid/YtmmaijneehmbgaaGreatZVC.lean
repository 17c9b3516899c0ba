import Derived.Test.YtmmaijneehmbgaaGreatZVB
set_option linter.all false
set_option maxRecDepth 10000
namespace Go.Proofs.YtmmaijneehmbgaaGreat
open Go Go.Sp
theorem el_ex {R:Type} {F:Nat→Nat→Nat→Option R} {p:Nat→Bool} {n:Nat} (Q:R→Bool→Prop)
  (h0:∃ r,El (fun k j=>F k j n) r∧Q r true)
  (h1:∀ x,x<n→p x=false→∃ r,El (fun k j=>F k j x) r∧Q r false)
  (h2:∀ x r,x<n→p x=true→El (fun k j=>F k j (x+1)) r→El (fun k j=>F k j x) r):
  ∀ d x,n-x=d→x≤n→∃ r,El (fun k j=>F k j x) r∧Q r (allp p x n):=by
 intro d
 induction d with
 | zero=>
      intro x hd hx; obtain rfl:x=n:=by omega
      rw [allp_end]; exact h0
 | succ d ih=>
  intro x hd hx
  rw [allp_step (by omega)]
  cases hp:p x with
  | false=>simpa using h1 x (by omega) hp
  | true=>
   obtain ⟨r,hr,hq⟩:=ih (x+1) (by omega) (by omega)
   exact ⟨r,h2 x _ (by omega) hp hr,by simpa using hq⟩
theorem kat {α:Type} {K:Kd α} (l:List α) (i:Nat) (d:α) (hi:i<l.length):K.at l (i:Int)=l.getD i d:=by
 unfold Kd.at
 rw [Int.toNat_natCast,List.getD_eq_getElem?_getD,List.getD_eq_getElem?_getD,List.getElem?_eq_getElem hi]
 rfl
def par (e:Event) (i:Nat):ByteArray:=e.fParents.getD i ⟨#[]⟩
theorem par_at {e:Event} {i:Nat} (hi:i<e.fParents.length):strK.at e.fParents (i:Int)=par e i:=kat _ _ _ hi
theorem par_ok {e:Event} (h:Event.ok e) {i:Nat} (hi:i<e.fParents.length):(par e i).size≤maxLen:=h.2.2.1.2 _ (getD_mem hi)
def parB (e:Event) (i:Nat):Bool:=eventB (par e i)&&(!decide (par e i=e.fID)&&(decide (i=0)||sLt (par e (i-1)) (par e i)))
def thrB (e:Event):Bool:=decide (e.fThread=(⟨#[]⟩:ByteArray))||(eventB e.fThread&&(!decide (e.fThread=e.fID)&&decide (e.fDoes=0)))
def mayB7 (e:Event):Bool:=eventB e.fID&&(namedB e.fRoom 33&&(namedB e.fUser 64&&(decide (e.fParents.length≤4)&&(decide (0≤e.fDoes)&&(decide (e.fDoes≤2)&&(thrB e&&allp (parB e) 0 e.fParents.length))))))
theorem may1_loop {e:Event} (he:Event.ok e):∃ r:Bool×Int×Bool,El (fun k j=>dag_May.l0 k e j 0) r∧r.1=allp (parB e) 0 e.fParents.length:=by
 have hn:e.fParents.length≤9223372036854775807:=he.2.2.1.1
 refine el_ex (F:=fun k j x=>dag_May.l0 k e j (x:Int)) (fun r b=>r.1=b) ?_ ?_ ?_ _ 0 rfl (by omega)
 ·exact ⟨_,El.step (fun _ _=>by rw [dag_May.l0]) (El.cf (by simp) El.pure),rfl⟩
 ·intro x hx hp
  refine ⟨(false,(x:Int),decide ((x:Int)<(e.fParents.length:Int))),?_,rfl⟩
  refine El.step (fun _ _=>by rw [dag_May.l0]) ?_
  refine El.ct (by simpa using hx) (El.grd ⟨by omega,by omega⟩ ?_)
  rw [par_at hx]
  refine El.bind (Ev.el (event1 (par_ok he hx))) (El.cond (fun _=>El.pure) fun c1=>El.cond (fun _=>El.pure) fun c2=>El.cond (fun c3=>?_) fun c3=>?_)
  ·have hx0:0<x:=by simpa using c3
   rw [w64_id (x:=(x:Int)-1) (by omega) (by omega)]
   have e1:((x:Int)-1)=((x-1:Nat):Int):=by omega
   rw [e1]
   refine El.grd ⟨by omega,by omega⟩ (El.cond (fun _=>El.pure) fun c4=>?_)
   exfalso
   rw [par_at (by omega)] at c4
   have hx1:¬ x=0:=by omega
   unfold parB at hp
   simp only [Bool.not_eq_false',Bool.not_eq_true'] at c1 c2 c4
   simp [c1,c2,c4] at hp
  ·exfalso
   have hx0:x=0:=by simp at c3; omega
   unfold parB at hp
   simp only [Bool.not_eq_false',Bool.not_eq_true'] at c1 c2
   simp [c1,c2,hx0] at hp
   rw [hx0] at c1 c2
   simp [c1] at hp
   simp [hp] at c2
 ·intro x r hx hp ih
  have ih2:El (fun k j=>dag_May.l0 k e j (w64 ((x:Int)+1))) r:=by rw [w64_id (x:=(x:Int)+1) (by omega) (by omega)]; exact ih
  unfold parB at hp
  simp only [Bool.and_eq_true,Bool.or_eq_true,Bool.not_eq_true',decide_eq_true_eq] at hp
  obtain ⟨p1,p2,p3⟩:=hp
  refine El.step (fun _ _=>by rw [dag_May.l0]) ?_
  refine El.ct (by simpa using hx) (El.grd ⟨by omega,by omega⟩ ?_)
  rw [par_at hx]
  refine El.bind (Ev.el (event1 (par_ok he hx))) (El.cf (by simp [p1]) (El.cf p2 (El.cond (fun c3=>?_) fun c3=>ih2)))
  have hx0:0<x:=by simpa using c3
  rw [w64_id (x:=(x:Int)-1) (by omega) (by omega)]
  have e1:((x:Int)-1)=((x-1:Nat):Int):=by omega
  rw [e1]
  refine El.grd ⟨by omega,by omega⟩ ?_
  rw [par_at (by omega)]
  rcases p3 with p3 | p3
  ·omega
  ·exact El.cf (by simp [p3]) ih2
theorem may1_loop1 {e:Event} (he:Event.ok e):∃ r:Bool×Int×Bool,El (fun k j=>dag_May.l1 k e j 0) r∧r.1=allp (parB e) 0 e.fParents.length:=by
 obtain ⟨r,h,h1⟩:=may1_loop he
 refine ⟨r,?_,h1⟩
 have:∀ k j x,dag_May.l1 k e j x=dag_May.l0 k e j x:=by
  intro k j
  induction j with
  | zero=>intro x; rfl
  | succ j ih=>intro x; rw [dag_May.l0,dag_May.l1]; simp only [ih]
 obtain ⟨K,hK⟩:=h
 exact ⟨K,fun k j h1 h2=>by show dag_May.l1 k e j 0=some r; rw [this]; exact hK k j h1 h2⟩
theorem may1 {e:Event} (he:Event.ok e):Ev (fun k=>dag_May.f k e) (mayB7 e):=by
 obtain ⟨h1,h2,h3,h4,h5,h6,_⟩:=he
 have he:Event.ok e:=⟨h1,h2,h3,h4,h5,h6,trivial⟩
 have hn:e.fParents.length≤9223372036854775807:=h3.1
 obtain ⟨r0,l0,q0⟩:=may1_loop he
 obtain ⟨r1,l1,q1⟩:=may1_loop1 he
 unfold dag_May.f mayB7
 refine Ev.bind (event1 h1) (Ev.cond (fun c=>Ev.of ?_) fun c=>?_)
 ·simp at c; simp [c]
 simp only [Bool.not_eq_false'] at c
 refine Ev.bind (nroom1 h2) (Ev.cond (fun d=>Ev.of ?_) fun d=>?_)
 ·simp at d; simp [c,d]
 simp only [Bool.not_eq_false'] at d
 refine Ev.bind (nuser1 h5) (Ev.cond (fun b=>Ev.of ?_) fun b=>?_)
 ·simp at b; simp [c,d,b]
 simp only [Bool.not_eq_false'] at b
 rw [c,d,b]
 simp only [Bool.true_and]
 refine Ev.cond (fun a=>Ev.of ?_) fun a=>?_
 ·have a1:¬ e.fParents.length≤4:=by simp at a; omega
  simp [a1]
 have a1:e.fParents.length≤4:=by simp at a; omega
 refine Ev.cond (fun f=>Ev.of ?_) fun f=>?_
 ·have f1:¬ 0≤e.fDoes:=by simp at f; omega
  simp [f1]
 have f1:0≤e.fDoes:=by simp at f; omega
 refine Ev.cond (fun g=>Ev.of ?_) fun g=>?_
 ·have g1:¬ e.fDoes≤2:=by simp at g; omega
  simp [g1]
 have g1:e.fDoes≤2:=by simp at g; omega
 simp only [a1,f1,g1,decide_true,Bool.true_and]
 unfold thrB
 refine Ev.cond (fun i=>?_) fun i=>?_
 ·have i1:decide (e.fThread=(⟨#[]⟩:ByteArray))=false:=by simpa using i
  rw [i1]
  simp only [Bool.false_or]
  refine Ev.bind (event1 h4) (Ev.cond (fun j=>Ev.of ?_) fun j=>?_)
  ·simp at j; simp [j]
  simp only [Bool.not_eq_false'] at j
  rw [j]
  simp only [Bool.true_and]
  refine Ev.cond (fun k=>Ev.of ?_) fun k=>?_
  ·simp at k; simp [k]
  rw [k]
  simp only [Bool.not_false,Bool.true_and]
  refine Ev.cond (fun l=>Ev.of ?_) fun l=>?_
  ·have:¬ e.fDoes=0:=by simpa using l
   simp [this]
  have l2:e.fDoes=0:=by simpa using l
  simp only [l2,decide_true,Bool.true_and]
  exact Ev.bind l0.diag (Ev.of (by rw [q0]))
 ·have i1:decide (e.fThread=(⟨#[]⟩:ByteArray))=true:=by simpa using i
  rw [i1]
  simp only [Bool.true_or,Bool.true_and]
  exact Ev.bind l1.diag (Ev.of (by rw [q1]))
theorem may2_loop {e:Event} (he:Event.ok e):∃ r:(Int×Bool) ⊕ Bool,El (fun k j=>r07_May.l0 k e j 0) r∧(fall (fun (_:Int×Bool)=>some true) r)=some (allp (parB e) 0 e.fParents.length):=by
 have hn:e.fParents.length≤9223372036854775807:=he.2.2.1.1
 refine el_ex (F:=fun k j x=>r07_May.l0 k e j (x:Int)) (fun r b=>(fall (fun (_:Int×Bool)=>some true) r)=some b) ?_ ?_ ?_ _ 0 rfl (by omega)
 ·exact ⟨_,El.step (fun _ _=>by rw [r07_May.l0]) (El.cf (by simp) El.pure),rfl⟩
 ·intro x hx hp
  refine ⟨.inr false,?_,rfl⟩
  refine El.step (fun _ _=>by rw [r07_May.l0]) ?_
  refine El.ct (by simpa using hx) (El.grd ⟨by omega,by omega⟩ ?_)
  rw [par_at hx]
  refine El.bind (Ev.el (event2 (par_ok he hx))) (El.cond (fun _=>El.pure) fun c1=>El.grd ⟨by omega,by omega⟩ (El.cond (fun _=>El.pure) fun c2=>El.cond (fun c3=>?_) fun c3=>?_))
  ·have hx0:0<x:=by simpa using c3
   have e1:max (w64 ((x:Int)-1)) 0=((x-1:Nat):Int):=by rw [w64_id (x:=(x:Int)-1) (by omega) (by omega)]; omega
   rw [e1]
   refine El.grd ⟨by omega,by omega⟩ (El.grd ⟨by omega,by omega⟩ (El.cond (fun _=>El.pure) fun c4=>?_))
   exfalso
   rw [par_at (by omega)] at c4
   have hx1:¬ x=0:=by omega
   unfold parB at hp
   simp only [Bool.not_eq_false',Bool.not_eq_true'] at c1 c2 c4
   simp [c1,c2,c4] at hp
  ·exfalso
   have hx0:x=0:=by simp at c3; omega
   unfold parB at hp
   simp only [Bool.not_eq_false',Bool.not_eq_true'] at c1 c2
   simp [c1,c2,hx0] at hp
   rw [hx0] at c1 c2
   simp [c1] at hp
   simp [hp] at c2
 ·intro x r hx hp ih
  have ih2:El (fun k j=>r07_May.l0 k e j (w64 ((x:Int)+1))) r:=by rw [w64_id (x:=(x:Int)+1) (by omega) (by omega)]; exact ih
  unfold parB at hp
  simp only [Bool.and_eq_true,Bool.or_eq_true,Bool.not_eq_true',decide_eq_true_eq] at hp
  obtain ⟨p1,p2,p3⟩:=hp
  refine El.step (fun _ _=>by rw [r07_May.l0]) ?_
  refine El.ct (by simpa using hx) (El.grd ⟨by omega,by omega⟩ ?_)
  rw [par_at hx]
  refine El.bind (Ev.el (event2 (par_ok he hx))) (El.cf (by simp [p1]) (El.grd ⟨by omega,by omega⟩ (El.cf p2 (El.cond (fun c3=>?_) fun c3=>ih2))))
  have hx0:0<x:=by simpa using c3
  have e1:max (w64 ((x:Int)-1)) 0=((x-1:Nat):Int):=by rw [w64_id (x:=(x:Int)-1) (by omega) (by omega)]; omega
  rw [e1]
  refine El.grd ⟨by omega,by omega⟩ (El.grd ⟨by omega,by omega⟩ ?_)
  rw [par_at (by omega)]
  rcases p3 with p3 | p3
  ·omega
  ·exact El.cf (by simp [p3]) ih2
theorem may2 {e:Event} (he:Event.ok e):Ev (fun k=>r07_May.f k e) (mayB7 e):=by
 obtain ⟨h1,h2,h3,h4,h5,h6,_⟩:=he
 have he:Event.ok e:=⟨h1,h2,h3,h4,h5,h6,trivial⟩
 obtain ⟨r0,l0,q0⟩:=may2_loop he
 unfold r07_May.f mayB7
 refine Ev.bind (event2 h1) (Ev.bind (named2 (c:=33) (by decide) h2) (Ev.bind (named2 (c:=64) (by decide) h5) ?_))
 refine Ev.cond (fun c=>Ev.of ?_) fun c=>?_
 ·simp at c; simp [c]
 simp only [Bool.not_eq_false'] at c
 refine Ev.cond (fun d=>Ev.of ?_) fun d=>?_
 ·simp at d; simp [c,d]
 simp only [Bool.not_eq_false'] at d
 refine Ev.cond (fun b=>Ev.of ?_) fun b=>?_
 ·simp at b; simp [c,d,b]
 simp only [Bool.not_eq_false'] at b
 rw [c,d,b]
 simp only [Bool.true_and]
 refine Ev.cond (fun a=>Ev.of ?_) fun a=>?_
 ·have a1:¬ e.fParents.length≤4:=by simp at a; omega
  simp [a1]
 have a1:e.fParents.length≤4:=by simp at a; omega
 refine Ev.cond (fun f=>Ev.of ?_) fun f=>?_
 ·have f1:¬ 0≤e.fDoes:=by simp at f; omega
  simp [f1]
 have f1:0≤e.fDoes:=by simp at f; omega
 refine Ev.cond (fun g=>Ev.of ?_) fun g=>?_
 ·have g1:¬ e.fDoes≤2:=by simp at g; omega
  simp [g1]
 have g1:e.fDoes≤2:=by simp at g; omega
 simp only [a1,f1,g1,decide_true,Bool.true_and]
 unfold thrB
 have fin:thrB e=true→Ev (fun k=>(r07_May.l0 k e k 0).bind (fall fun (p163:Int×Bool)=>some true)) (thrB e&&allp (parB e) 0 e.fParents.length):=fun ht=>by
  rw [ht,Bool.true_and]
  exact Ev.bind l0.diag (Ev.of q0)
 cases i:decide (e.fThread=(⟨#[]⟩:ByteArray)) with
 | false=>
  cases j:eventB e.fThread with
  | false=>exact Ev.bind (a:=.inr false) (Ev.ct rfl (Ev.bind (event2 h4) (Ev.ct (by simp [j]) Ev.pure))) (Ev.of (by simp [fall]))
  | true=>
   cases k:decide (e.fThread=e.fID) with
   | true=>exact Ev.bind (a:=.inr false) (Ev.ct rfl (Ev.bind (event2 h4) (Ev.cf (by simp [j]) (Ev.ct rfl Ev.pure)))) (Ev.of (by simp [fall]))
   | false=>
    by_cases l:e.fDoes=0
    ·have ht:thrB e=true:=by unfold thrB; rw [i,j,k]; simp [l]
     have:=fin ht
     rw [ht] at this
     refine Ev.bind (a:=.inl ()) (Ev.ct rfl (Ev.bind (event2 h4) (Ev.cf (by simp [j]) (Ev.cf rfl (Ev.cf (by simp [l]) Ev.pure))))) ?_
     simpa [l,fall] using this
    ·refine Ev.bind (a:=.inr false) (Ev.ct rfl (Ev.bind (event2 h4) (Ev.cf (by simp [j]) (Ev.cf rfl (Ev.ct (by simpa using l) Ev.pure))))) (Ev.of (by simp [fall,l]))
 | true=>
  have ht:thrB e=true:=by unfold thrB; rw [i]; rfl
  have:=fin ht
  rw [ht] at this
  refine Ev.bind (a:=.inl ()) (Ev.cf rfl Ev.pure) ?_
  simpa [fall] using this
def ev (l:List Event) (i:Nat):Event:=l.getD i default
theorem ev_at {l:List Event} {i:Nat} (hi:i<l.length):Event.K.at l (i:Int)=ev l i:=kat _ _ _ hi
def FE (l:List Event) (id:ByteArray) (r:Int):Prop:=(r = -1∧∀ i:Nat,i<l.length→(ev l i).fID≠id)∨∃ j:Nat,r=(j:Int)∧j<l.length∧(ev l j).fID=id∧∀ i:Nat,i<j→(ev l i).fID≠id
theorem at_ev {d:RDag} {id:ByteArray} {r:Int} (hl:d.fL.length≤maxLen) (h:FE d.fL id r):Ev (fun k=>r07_At.f k d id) r:=by
 have hl2:d.fL.length≤9223372036854775807:=hl
 unfold r07_At.f
 rcases h with ⟨e,h⟩ | ⟨j,e,h1,h2,h3⟩
 ·rw [e]
  have:∀ n x:Nat,d.fL.length-x=n→x≤d.fL.length→El (fun k j=>r07_At.l0 k d id j (x:Int)) (.inl ((d.fL.length:Int),false)):=by
   intro n
   induction n with
   | zero=>
    intro x hd hx
    obtain rfl:x=d.fL.length:=by omega
    refine El.step (fun _ _=>by rw [r07_At.l0]) ?_
    exact El.cf (by simp) (by simpa using El.pure)
   | succ n ih=>
    intro x hd hx
    refine El.step (fun _ _=>by rw [r07_At.l0]) ?_
    refine El.ct (by simp; omega) (El.grd ⟨by omega,by omega⟩ (El.cf (by rw [ev_at (by omega)]; exact decide_eq_false (h x (by omega))) ?_))
    rw [w64_id (x:=(x:Int)+1) (by omega) (by omega)]
    exact ih (x+1) (by omega) (by omega)
  exact Ev.bind (this _ 0 rfl (by omega)).diag (Ev.of (by simp [fall]))
 ·rw [e]
  have:∀ n x:Nat,j-x=n→x≤j→El (fun k i=>r07_At.l0 k d id i (x:Int)) (.inr (j:Int)):=by
   intro n
   induction n with
   | zero=>
    intro x hd hx
    obtain rfl:x=j:=by omega
    refine El.step (fun _ _=>by rw [r07_At.l0]) ?_
    exact El.ct (by simpa using h1) (El.grd ⟨by omega,by omega⟩ (El.ct (by rw [ev_at h1]; exact decide_eq_true h2) El.pure))
   | succ n ih=>
    intro x hd hx
    refine El.step (fun _ _=>by rw [r07_At.l0]) ?_
    refine El.ct (by simp; omega) (El.grd ⟨by omega,by omega⟩ (El.cf (by rw [ev_at (by omega)]; exact decide_eq_false (h3 x (by omega))) ?_))
    rw [w64_id (x:=(x:Int)+1) (by omega) (by omega)]
    exact ih (x+1) (by omega) (by omega)
  exact Ev.bind (this _ 0 rfl (by omega)).diag (Ev.of (by simp [fall]))
end Go.Proofs.YtmmaijneehmbgaaGreat
