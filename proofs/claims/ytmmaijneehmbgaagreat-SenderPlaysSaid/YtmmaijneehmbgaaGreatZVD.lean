import Derived.Test.YtmmaijneehmbgaaGreatZVC
set_option linter.all false
set_option maxRecDepth 10000
namespace Go.Proofs.YtmmaijneehmbgaaGreat
open Go Go.Sp
def ix:List Event→ByteArray→Int
 | [],_=>-1
 | e::l,id=>if e.fID=id then 0 else if ix l id = -1 then -1 else ix l id+1
theorem ix_fe:∀ (l:List Event) (id:ByteArray),FE l id (ix l id)
 | [],id=>.inl ⟨rfl,fun i hi=>by simp at hi⟩
 | e::l,id=>by
  unfold ix
  by_cases hb:e.fID=id
  ·rw [if_pos hb]
   exact .inr ⟨0,rfl,by simp,by simpa [ev] using hb,fun i hi=>by omega⟩
  ·rw [if_neg hb]
   rcases ix_fe l id with ⟨q,h⟩ | ⟨j,q,h1,h2,h3⟩
   ·left
    rw [q]
    refine ⟨by simp,fun i hi=>?_⟩
    cases i with
    | zero=>simpa [ev] using hb
    | succ i=>simpa [ev] using h i (by simpa using hi)
   ·right
    rw [q]
    refine ⟨j+1,by rw [if_neg (by omega)]; simp,by simpa using h1,by simpa [ev] using h2,fun i hi=>?_⟩
    cases i with
    | zero=>simpa [ev] using hb
    | succ i=>simpa [ev] using h3 i (by omega)
theorem ix_rng (l:List Event) (id:ByteArray):(ix l id = -1∧∀ i:Nat,i<l.length→(ev l i).fID≠id)∨∃ j:Nat,ix l id=(j:Int)∧j<l.length∧(ev l j).fID=id:=by
 rcases ix_fe l id with h | ⟨j,h1,h2,h3,_⟩
 ·exact .inl h
 ·exact .inr ⟨j,h1,h2,h3⟩
theorem at_ix {d:RDag} (id:ByteArray) (hl:d.fL.length≤maxLen):Ev (fun k=>r07_At.f k d id) (ix d.fL id):=at_ev hl (ix_fe _ _)
def code (d:RDag) (e:Event):Int:=
 if mayB7 e=false then 1 else if e.fRoom≠d.fRoom then 1 else if 0≤ix d.fL e.fID then 9
 else if allp (fun i=>decide (0≤ix d.fL (par e i))) 0 e.fParents.length=false then 4
 else if e.fThread=⟨#[]⟩ then 0 else if ix d.fL e.fThread<0 then 4
 else if (ev d.fL (ix d.fL e.fThread).toNat).fThread≠⟨#[]⟩ then 7 else if (ev d.fL (ix d.fL e.fThread).toNat).fDoes≠0 then 7 else 0
theorem refAdd_loop {d:RDag} {e:Event} (he:Event.ok e) (hl:d.fL.length≤100000):∃ r:(Int×Bool) ⊕ (RDag×Int),El (fun k j=>r07_Add.l0 k d e j 0) r∧(allp (fun i=>decide (0≤ix d.fL (par e i))) 0 e.fParents.length=true→∃ x,r = .inl x)∧(allp (fun i=>decide (0≤ix d.fL (par e i))) 0 e.fParents.length=false→r = .inr (d,4)):=by
 have hn:e.fParents.length≤9223372036854775807:=he.2.2.1.1
 have hl2:d.fL.length≤maxLen:=by show _≤9223372036854775807; omega
 obtain ⟨r,h1,h2⟩:=el_ex (F:=fun k j x=>r07_Add.l0 k d e j (x:Int)) (p:=fun i=>decide (0≤ix d.fL (par e i))) (n:=e.fParents.length) (fun r b=>(b=true→∃ x,r = .inl x)∧(b=false→r = .inr (d,4))) (by
  refine ⟨.inl ((e.fParents.length:Int),false),?_,fun _=>⟨_,rfl⟩,fun h=>by cases h⟩
  refine El.step (fun _ _=>by rw [r07_Add.l0]) ?_
  exact El.cf (by simp) (by simpa using El.pure)) (by
  intro x hx hp
  refine ⟨.inr (d,4),?_,fun h=>(by cases h),fun _=>rfl⟩
  refine El.step (fun _ _=>by rw [r07_Add.l0]) ?_
  refine El.ct (by simpa using hx) (El.grd ⟨by omega,by omega⟩ ?_)
  rw [par_at hx]
  refine El.bind (at_ix _ hl2).el (El.ct ?_ El.pure)
  simp at hp ⊢; omega) (by
  intro x r hx hp ih
  refine El.step (fun _ _=>by rw [r07_Add.l0]) ?_
  refine El.ct (by simpa using hx) (El.grd ⟨by omega,by omega⟩ ?_)
  rw [par_at hx]
  refine El.bind (at_ix _ hl2).el (El.cf ?_ ?_)
  ·simp at hp ⊢; omega
  ·rw [w64_id (x:=(x:Int)+1) (by omega) (by omega)]; exact ih) _ 0 rfl (by omega)
 exact ⟨r,h1,h2.1,h2.2⟩
theorem refAdd {d:RDag} {e:Event} (he:Event.ok e) (hl:d.fL.length≤100000):Ev (fun k=>r07_Add.f k d e) (if code d e=0 then ((⟨d.fRoom,d.fL++[e]⟩:RDag),0) else (d,code d e)):=by
 have hl2:d.fL.length≤maxLen:=by show _≤9223372036854775807; omega
 obtain ⟨r,h1,h2,h3⟩:=refAdd_loop he hl
 unfold r07_Add.f code
 refine Ev.bind (may2 he) ?_
 cases hm:mayB7 e with
 | false=>exact Ev.ct rfl (Ev.of rfl)
 | true=>
  refine Ev.cf rfl ?_
  simp only [Bool.true_eq_false,if_false]
  by_cases hr:e.fRoom=d.fRoom
  ·refine Ev.cf (by simp [hr]) (Ev.bind (at_ix _ hl2) ?_)
   rw [if_neg (Classical.not_not.2 hr)]
   by_cases h9:0≤ix d.fL e.fID
   ·rw [if_pos h9]
    exact Ev.ct (decide_eq_true h9) (Ev.of rfl)
   ·rw [if_neg h9]
    refine Ev.cf (decide_eq_false h9) (Ev.bind h1.diag ?_)
    cases ha:allp (fun i=>decide (0≤ix d.fL (par e i))) 0 e.fParents.length with
    | false=>rw [h3 ha]; exact Ev.of rfl
    | true=>
     obtain ⟨x,rfl⟩:=h2 ha
     simp only [fall,Bool.true_eq_false,if_false]
     have fin:Ev (fun k=>grd (([]:List Event).length+d.fL.length≤9223372036854775807∧(([]:List Event).length+d.fL.length)*96≤140737488355328) (grd ((([]:List Event)++d.fL).length+([e]:List Event).length≤9223372036854775807∧((([]:List Event)++d.fL).length+([e]:List Event).length)*96≤140737488355328) (some ((⟨d.fRoom,(([]:List Event)++d.fL)++([e]:List Event)⟩:RDag),(0:Int))))) ((⟨d.fRoom,d.fL++[e]⟩:RDag),0):=
      Ev.grd ⟨by simp; omega,by simp; omega⟩ (Ev.grd ⟨by simp; omega,by simp; omega⟩ (Ev.of (by simp)))
     by_cases ht:e.fThread=⟨#[]⟩
     ·rw [if_pos ht]
      refine Ev.bind (a:=.inl ()) (Ev.cf (by simp [ht]) Ev.pure) ?_
      simpa only [fall,if_true] using fin
     ·rw [if_neg ht]
      rcases ix_rng d.fL e.fThread with ⟨q,_⟩ | ⟨j,q,hj,_⟩
      ·rw [if_pos (show ix d.fL e.fThread<0 by omega)]
       refine Ev.bind (a:=.inr (d,4)) (Ev.ct (by simp [ht]) (Ev.bind (at_ix _ hl2) (Ev.ct (decide_eq_true (by omega)) Ev.pure))) (Ev.of rfl)
      ·rw [if_neg (show ¬ ix d.fL e.fThread<0 by omega),q,Int.toNat_natCast]
       have hh:∀ {y:Unit ⊕ (RDag×Int)},Ev (fun k=>grd ((0:Int)≤(j:Int)∧(j:Int)<(d.fL.length:Int)) (cond (!decide (((Event.K.at d.fL (j:Int)).fThread)=(⟨#[]⟩:ByteArray))) (some (.inr (d,(7:Int)))) (grd ((0:Int)≤(j:Int)∧(j:Int)<(d.fL.length:Int)) (cond (((Event.K.at d.fL (j:Int)).fDoes) != 0) (some (.inr (d,(7:Int)))) (some (.inl ())))))) y→Ev (fun k=>cond (!decide (e.fThread=(⟨#[]⟩:ByteArray))) ((r07_At.f k d e.fThread).bind fun t206=>cond (decide (t206<0)) (some (.inr (d,4))) (grd ((0:Int)≤t206∧t206<(d.fL.length:Int)) (cond (!decide (((Event.K.at d.fL t206).fThread)=(⟨#[]⟩:ByteArray))) (some (.inr (d,7))) (grd ((0:Int)≤t206∧t206<(d.fL.length:Int)) (cond (((Event.K.at d.fL t206).fDoes) != 0) (some (.inr (d,7))) (some (.inl ()))))))) (some (.inl ()))) y:=fun h=>Ev.ct (by simp [ht]) (Ev.bind (a:=(j:Int)) (by rw [← q]; exact at_ix _ hl2) (Ev.cf (decide_eq_false (by omega)) h))
       by_cases h7:(ev d.fL j).fThread=⟨#[]⟩
       ·rw [if_neg (Classical.not_not.2 h7)]
        by_cases h8:(ev d.fL j).fDoes=0
        ·rw [if_neg (Classical.not_not.2 h8)]
         refine Ev.bind (a:=.inl ()) (hh (Ev.grd ⟨by omega,by omega⟩ (Ev.cf (by rw [ev_at hj]; simp [h7]) (Ev.grd ⟨by omega,by omega⟩ (Ev.cf (by rw [ev_at hj]; simp [h8]) Ev.pure))))) ?_
         simpa only [fall,if_true] using fin
        ·rw [if_pos h8]
         exact Ev.bind (a:=.inr (d,7)) (hh (Ev.grd ⟨by omega,by omega⟩ (Ev.cf (by rw [ev_at hj]; simp [h7]) (Ev.grd ⟨by omega,by omega⟩ (Ev.ct (by rw [ev_at hj]; simpa using h8) Ev.pure))))) (Ev.of rfl)
       ·rw [if_pos h7]
        exact Ev.bind (a:=.inr (d,7)) (hh (Ev.grd ⟨by omega,by omega⟩ (Ev.ct (by rw [ev_at hj]; simpa using h7) Ev.pure))) (Ev.of rfl)
  ·rw [if_pos hr]
   exact Ev.ct (by simp [hr]) (Ev.of rfl)
structure Rel (m:DDag) (d:RDag):Prop where
 room:m.froom=d.fRoom
 uniq:∀ i j,i<d.fL.length→j<d.fL.length→(ev d.fL i).fID=(ev d.fL j).fID→i=j
 got:∀ i,i<d.fL.length→∃ nd,mget m.fnodes (ev d.fL i).fID=some nd∧nd.fe=ev d.fL i
 non:∀ id,(∀ i,i<d.fL.length→(ev d.fL i).fID≠id)→mget m.fnodes id=none
theorem rel_new (room:ByteArray):Rel ⟨room,[]⟩ ⟨room,[]⟩:=⟨rfl,fun i j h=>by simp at h,fun i h=>by simp at h,fun id _=>rfl⟩
theorem rel_ix {m:DDag} {d:RDag} (hr:Rel m d) (id:ByteArray):(ix d.fL id = -1∧mget m.fnodes id=none)∨∃ j:Nat,ix d.fL id=(j:Int)∧j<d.fL.length∧(ev d.fL j).fID=id∧∃ nd,mget m.fnodes id=some nd∧nd.fe=ev d.fL j:=by
 rcases ix_rng d.fL id with ⟨q,h⟩ | ⟨j,q,hj,he⟩
 ·exact .inl ⟨q,hr.non id h⟩
 ·have:=hr.got j hj
  rw [he] at this
  exact .inr ⟨j,q,hj,he,this⟩
theorem rel_has {m:DDag} {d:RDag} (hr:Rel m d) (id:ByteArray):(mget m.fnodes id).isNone=decide (ix d.fL id<0):=by
 rcases rel_ix hr id with ⟨q,h⟩ | ⟨j,q,hj,he,nd,h,_⟩
 ·rw [q,h]; rfl
 ·rw [q,h,decide_eq_false (by omega)]; rfl
theorem contains_ev {m:DDag} {d:RDag} {e:Event} (hr:Rel m d) (he:Event.ok e):Ev (fun k=>slices_ContainsFunc_string_x.f k e.fParents (fun a0_=>dag_Dag_Add_1.f a0_ m)) (!allp (fun i=>decide (0≤ix d.fL (par e i))) 0 e.fParents.length):=by
 have hn:e.fParents.length≤9223372036854775807:=he.2.2.1.1
 have hf:∀ x:Nat,x<e.fParents.length→dag_Dag_Add_1.f (strK.at e.fParents (x:Int)) m=some (!decide (0≤ix d.fL (par e x))):=fun x hx=>by
  unfold dag_Dag_Add_1.f dag_Dag_Has.f
  rw [par_at hx,rel_has hr]
  simp only [Option.bind_some,Bool.not_not]
  congr 1
  rw [Bool.eq_iff_iff]; simp
 obtain ⟨r,h1,h2⟩:=el_ex (F:=fun k j x=>slices_IndexFunc_string_x.l0 k e.fParents (fun a0_=>dag_Dag_Add_1.f a0_ m) j (x:Int)) (p:=fun i=>decide (0≤ix d.fL (par e i))) (n:=e.fParents.length) (fun r b=>(b=true→∃ x,r = .inl x)∧(b=false→∃ x:Nat,r = .inr (x:Int))) (by
  refine ⟨.inl ((e.fParents.length:Int),false),?_,fun _=>⟨_,rfl⟩,fun h=>by cases h⟩
  refine El.step (fun _ _=>by rw [slices_IndexFunc_string_x.l0]) ?_
  exact El.cf (by simp) (by simpa using El.pure)) (by
  intro x hx hp
  refine ⟨.inr (x:Int),?_,fun h=>(by cases h),fun _=>⟨x,rfl⟩⟩
  refine El.step (fun _ _=>by rw [slices_IndexFunc_string_x.l0]) ?_
  refine El.ct (by simpa using hx) (El.grd ⟨by omega,by omega⟩ (El.bind (Ev.of (hf x hx)).el (El.ct ?_ El.pure)))
  rw [hp]; rfl) (by
  intro x r hx hp ih
  refine El.step (fun _ _=>by rw [slices_IndexFunc_string_x.l0]) ?_
  refine El.ct (by simpa using hx) (El.grd ⟨by omega,by omega⟩ (El.bind (Ev.of (hf x hx)).el (El.cf ?_ ?_)))
  ·rw [hp]; rfl
  ·rw [w64_id (x:=(x:Int)+1) (by omega) (by omega)]; exact ih) _ 0 rfl (by omega)
 unfold slices_ContainsFunc_string_x.f slices_IndexFunc_string_x.f
 cases ha:allp (fun i=>decide (0≤ix d.fL (par e i))) 0 e.fParents.length with
 | true=>
  obtain ⟨x,rfl⟩:=h2.1 ha
  exact Ev.bind (Ev.bind h1.diag (Ev.of rfl)) (Ev.of rfl)
 | false=>
  obtain ⟨x,rfl⟩:=h2.2 ha
  exact Ev.bind (Ev.bind h1.diag (Ev.of rfl)) (Ev.of (by simp))
theorem ev_app {l:List Event} {e:Event} {i:Nat} (hi:i<l.length):ev (l++[e]) i=ev l i:=by
 unfold ev
 rw [List.getD_eq_getElem?_getD,List.getD_eq_getElem?_getD,List.getElem?_append_left hi]
theorem ev_end {l:List Event} {e:Event}:ev (l++[e]) l.length=e:=by
 unfold ev
 rw [List.getD_eq_getElem?_getD,List.getElem?_append_right (Nat.le_refl _)]; simp
end Go.Proofs.YtmmaijneehmbgaaGreat
