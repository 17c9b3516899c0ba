import Derived.Test.YtmmaijneehmbgaaGreatZVF
set_option linter.all false
set_option maxRecDepth 10000
namespace Go.Proofs.YtmmaijneehmbgaaGreat
open Go Go.Sp
def Chain (room:ByteArray) (L:List Event):Prop:=∀ i,i<L.length→Event.ok (ev L i)∧(ev L i).fRoom=room∧code ⟨room,L.take i⟩ (ev L i)=0
theorem chain_app {room:ByteArray} {L:List Event} {e:Event} (h:Chain room L) (he:Event.ok e) (hr:e.fRoom=room) (hc:code ⟨room,L⟩ e=0):Chain room (L++[e]):=fun i hi=>by
 rw [List.length_append,List.length_singleton] at hi
 rcases Nat.lt_or_ge i L.length with h1 | h1
 ·rw [ev_app h1,List.take_append_of_le_length (by omega)]; exact h i h1
 ·obtain rfl:i=L.length:=by omega
  rw [ev_end,List.take_left' rfl]; exact ⟨he,hr,hc⟩
theorem flags_loop {l:List GMade} {i:Nat} (hl:l.length≤maxLen) (hi:i<l.length) (h9:i<9) (hp:∀ x∈(l.getD i default).fParents,I64 x):
  ∀ n x:Nat,3-x=n→x≤3→∀ (on:List Bool) (S:List Nat),on.length=9→S.length≤x→(∀ k,on.getD k false=true→k∈S)→∃ r:Int×Bool×List Bool,El (fun k j=>r07_Made.l2 k l (i:Int) j (x:Int) on) r∧r.2.2.length=9∧∃ S:List Nat,S.length≤3∧∀ k,r.2.2.getD k false=true→k∈S:=by
 intro n
 induction n with
 | zero=>
  intro x hd hx on S ho hS hk
  obtain rfl:x=3:=by omega
  by_cases hlen:((3:Nat):Int)<(((l.getD i default).fParents).length:Int)
  ·refine ⟨((3:Nat),false,on),?_,ho,S,hS,hk⟩
   refine El.step (fun _ _=>by rw [r07_Made.l2]) ?_
   rw [kat _ _ default hi]
   exact El.grd ⟨by omega,by omega⟩ (El.ct (decide_eq_true hlen) (El.cf rfl El.pure))
  ·refine ⟨((3:Nat),false,on),?_,ho,S,hS,hk⟩
   refine El.step (fun _ _=>by rw [r07_Made.l2]) ?_
   rw [kat _ _ default hi]
   exact El.grd ⟨by omega,by omega⟩ (El.cf (decide_eq_false hlen) El.pure)
 | succ n ih=>
  intro x hd hx on S ho hS hk
  by_cases hlen:(x:Int)<(((l.getD i default).fParents).length:Int)
  ·by_cases hi0:(0:Int)<(i:Int)
   ·have hx2:x<(l.getD i default).fParents.length:=by omega
    obtain ⟨t,t1,t2,t3⟩:=around_ev (n:=(intK .i64).at ((l.getD i default).fParents) (x:Int)) (m:=(i:Int)) (hp _ (by rw [kat _ _ 0 hx2]; exact getD_mem hx2)) hi0 (by omega)
    have htl:t.toNat<on.length:=by omega
    obtain ⟨r,h1,h2⟩:=ih (x+1) (by omega) (by omega) (on.set t.toNat true) (t.toNat::S) (by rw [List.length_set]; exact ho) (by simp; omega) (fun k hkk=>by
     rw [getD_set' htl] at hkk
     by_cases e:k=t.toNat
     ·rw [e]; exact List.mem_cons_self ..
     ·rw [if_neg e] at hkk; exact List.mem_cons_of_mem _ (hk k hkk))
    refine ⟨r,?_,h2⟩
    refine El.step (fun _ _=>by rw [r07_Made.l2]) ?_
    rw [kat _ _ default hi]
    refine El.grd ⟨by omega,by omega⟩ (El.ct (decide_eq_true hlen) (El.ct (decide_eq_true (by omega)) (El.ct (decide_eq_true hi0) (El.grd ⟨by omega,by omega⟩ (El.grd ⟨by omega,by omega⟩ (El.bind (Ev.of t1).el (El.grd ⟨by omega,by omega⟩ ?_)))))))
    rw [w64_id (x:=(x:Int)+1) (by omega) (by omega)]
    exact h1
   ·refine ⟨((x:Int),false,on),?_,ho,S,by omega,hk⟩
    refine El.step (fun _ _=>by rw [r07_Made.l2]) ?_
    rw [kat _ _ default hi]
    refine El.grd ⟨by omega,by omega⟩ (El.ct (decide_eq_true hlen) (El.ct (decide_eq_true (by omega)) (El.cf (decide_eq_false hi0) ?_)))
    rw [decide_eq_false hi0]; exact El.pure
  ·refine ⟨((x:Int),false,on),?_,ho,S,by omega,hk⟩
   refine El.step (fun _ _=>by rw [r07_Made.l2]) ?_
   rw [kat _ _ default hi]
   exact El.grd ⟨by omega,by omega⟩ (El.cf (decide_eq_false hlen) El.pure)
theorem parents_loop {i:Nat} (h9:i<9) {p:Int×Bool×List Bool} (hp:p.2.2.length=9):
  ∀ n x:Nat,i-x=n→x≤i→∀ ks:List Nat,(∀ k∈ks,k<x∧p.2.2.getD k false=true)→ks.Pairwise (· < ·)→ks.length≤x→∃ r:Int×Bool×List ByteArray,El (fun k j=>r07_Made.l1 k (i:Int) p j (x:Int) (ks.map evs)) r∧∃ ks:List Nat,r.2.2=ks.map evs∧(∀ k∈ks,k<i∧p.2.2.getD k false=true)∧ks.Pairwise (· < ·):=by
 intro n
 induction n with
 | zero=>
  intro x hd hx ks h1 h2 h3
  obtain rfl:x=i:=by omega
  refine ⟨((x:Int),false,ks.map evs),?_,ks,rfl,h1,h2⟩
  refine El.step (fun _ _=>by rw [r07_Made.l1]) ?_
  exact El.cf (by simp) (by simpa using El.pure)
 | succ n ih=>
  intro x hd hx ks h1 h2 h3
  have hx2:x<i:=by omega
  cases hg:p.2.2.getD x false with
  | true=>
   obtain ⟨r,l1,l2⟩:=ih (x+1) (by omega) (by omega) (ks++[x]) (fun k hk=>by
    rcases List.mem_append.1 hk with hk | hk
    ·exact ⟨by have:=(h1 k hk).1; omega,(h1 k hk).2⟩
    ·obtain rfl:=List.mem_singleton.1 hk; exact ⟨by omega,hg⟩) (List.pairwise_append.2 ⟨h2,List.pairwise_singleton _ _,fun a ha b hb=>by obtain rfl:=List.mem_singleton.1 hb; exact (h1 a ha).1⟩) (by simp; omega)
   refine ⟨r,?_,l2⟩
   refine El.step (fun _ _=>by rw [r07_Made.l1]) ?_
   refine El.ct (decide_eq_true (by omega)) (El.grd ⟨by omega,by omega⟩ (El.ct (by rw [Int.toNat_natCast]; exact hg) (El.bind (eventOf_at x (by omega)).el (El.grd ⟨by simp; omega,by simp; omega⟩ ?_))))
   rw [w64_id (x:=(x:Int)+1) (by omega) (by omega)]
   rw [List.map_append] at l1
   exact l1
  | false=>
   obtain ⟨r,l1,l2⟩:=ih (x+1) (by omega) (by omega) ks (fun k hk=>⟨by have:=(h1 k hk).1; omega,(h1 k hk).2⟩) h2 (by omega)
   refine ⟨r,?_,l2⟩
   refine El.step (fun _ _=>by rw [r07_Made.l1]) ?_
   refine El.ct (decide_eq_true (by omega)) (El.grd ⟨by omega,by omega⟩ (El.cf (by rw [Int.toNat_natCast]; exact hg) ?_))
   rw [w64_id (x:=(x:Int)+1) (by omega) (by omega)]
   exact l1
theorem ex_step {R:Type} {F G:Nat→Nat→Option R} {P:R→Prop} (h:∀ k j,F k (j+1)=G k j) (k:∃ r,El G r∧P r):∃ r,El F r∧P r:=by
 obtain ⟨r,h1,h2⟩:=k; exact ⟨r,El.step h h1,h2⟩
theorem ex_ct {R:Type} {c:Bool} {F G:Nat→Nat→Option R} {P:R→Prop} (hc:c=true) (k:∃ r,El F r∧P r):∃ r,El (fun n j=>cond c (F n j) (G n j)) r∧P r:=by
 subst hc; exact k
theorem made_loop {room:ByteArray} {l:List GMade} (hr:room∈rooms) (hl:l.length≤maxLen) (hok:∀ x∈l,GMade.ok x):∀ n x:Nat,9-x=n→x≤9→∀ L:List Event,L.length=x→x≤l.length→MI room L→Chain room L→
  ∃ r:Int×Bool×ByteArray×List Event,El (fun k j=>r07_Made.l0 k room l j (x:Int) room L) r∧r.2.2.1=room∧MI room r.2.2.2∧Chain room r.2.2.2:=by
 have hl2:l.length≤9223372036854775807:=hl
 intro n
 induction n with
 | zero=>
  intro x hd hx L hL hxl hm hc
  obtain rfl:x=9:=by omega
  by_cases h1:((9:Nat):Int)<(l.length:Int)
  ·refine ⟨((9:Nat),false,room,L),?_,rfl,hm,hc⟩
   refine El.step (fun _ _=>by rw [r07_Made.l0]) ?_
   exact El.ct (decide_eq_true h1) (El.cf rfl El.pure)
  ·refine ⟨((9:Nat),false,room,L),?_,rfl,hm,hc⟩
   refine El.step (fun _ _=>by rw [r07_Made.l0]) ?_
   exact El.cf (decide_eq_false h1) El.pure
 | succ n ih=>
  intro x hd hx L hL hxl hm hc
  by_cases h1:(x:Int)<(l.length:Int)
  ·have hx2:x<l.length:=by omega
   have hx9:x<9:=by omega
   obtain ⟨g1,g2,g3,g4,_⟩:=hok _ (getD_mem (d:=default) hx2)
   obtain ⟨user,u1,u2⟩:=userOf_ev (i64_of g1)
   obtain ⟨does,d1,d2,d3⟩:=around_ev (m:=3) (i64_of g2) (by decide) (by decide)
   obtain ⟨p,p1,p2,S,p3,p4⟩:=flags_loop hl hx2 hx9 (fun y hy=>i64_of (g3.2 y hy)) _ 0 rfl (by omega) (List.replicate 9 false) [] (by simp) (by simp) (fun k hk=>by
    exfalso
    rw [List.getD_eq_getElem?_getD,List.getElem?_replicate] at hk
    split at hk <;> simp at hk)
   obtain ⟨q,q1,ks,q2,q3,q4⟩:=parents_loop hx9 p2 _ 0 rfl (by omega) [] (by simp) (by simp) (by simp)
   have hks:ks.length≤3:=by
    have hn:ks.Nodup:=q4.imp fun h=>Nat.ne_of_lt h
    exact Nat.le_trans (nodup_le hn fun k hk=>p4 k (q3 k hk).2) p3
   subst hL
   have step:∀ th:ByteArray,(th=⟨#[]⟩∨(does=0∧∃ t,t<L.length∧th=evs t∧(ev L t).fDoes=0∧(ev L t).fThread=⟨#[]⟩))→
     Ev (fun k=>r07_Add.f k (⟨room,L⟩:RDag) (⟨evs L.length,room,q.2.2,th,user,does⟩:Event)) ((⟨room,L++[⟨evs L.length,room,q.2.2,th,user,does⟩]⟩:RDag),0)∧MI room (L++[⟨evs L.length,room,q.2.2,th,user,does⟩])∧Chain room (L++[⟨evs L.length,room,q.2.2,th,user,does⟩]):=fun th ht=>by
    rw [q2]
    have ho:Event.ok ⟨evs L.length,room,ks.map evs,th,user,does⟩:=made_ok hr u2 hks ⟨d2,d3⟩ (ht.imp id fun ⟨_,t,_,h,_⟩=>⟨t,h⟩)
    have hcode:=made_code hm hx9 hr u2 (fun k hk=>(q3 k hk).1) q4 hks ⟨d2,d3⟩ ht
    have:=refAdd (d:=⟨room,L⟩) ho (by show L.length≤100000; omega)
    rw [if_pos hcode] at this
    refine ⟨this,⟨by simp; omega,fun k hk=>?_⟩,chain_app hc ho rfl hcode⟩
    rw [List.length_append,List.length_singleton] at hk
    rcases Nat.lt_or_ge k L.length with h2 | h2
    ·rw [ev_app h2]; exact hm.ids k h2
    ·obtain rfl:k=L.length:=by omega
     rw [ev_end]
   have fin:∀ {G:Nat→Option (Int×Int×Bool×Bool×Bool×ByteArray×(List Event)×(List Bool))} {th b},(th=⟨#[]⟩∨(does=0∧∃ t,t<L.length∧th=evs t∧(ev L t).fDoes=0∧(ev L t).fThread=⟨#[]⟩))→
     Ev G (p.1,q.1,p.2.1,q.2.1,b,room,L++[⟨evs L.length,room,q.2.2,th,user,does⟩],p.2.2)→
     ∃ r:Int×Bool×ByteArray×List Event,El (fun k j=>(G k).bind fun (p230:Int×Int×Bool×Bool×Bool×ByteArray×(List Event)×(List Bool))=>r07_Made.l0 k room l j (w64 ((L.length:Int)+1)) p230.2.2.2.2.2.1 p230.2.2.2.2.2.2.1) r∧r.2.2.1=room∧MI room r.2.2.2∧Chain room r.2.2.2:=fun {G th b} ht hG=>by
    obtain ⟨_,s2,s3⟩:=step th ht
    obtain ⟨r,r1,r2⟩:=ih (L.length+1) (by omega) (by omega) (L++[⟨evs L.length,room,q.2.2,th,user,does⟩]) (by simp) (by omega) s2 s3
    refine ⟨r,El.bind hG.el ?_,r2⟩
    rw [w64_id (x:=(L.length:Int)+1) (by omega) (by omega)]
    exact r1
   have e0:GMade.K.at l (L.length:Int)=l.getD L.length default:=kat _ _ _ hx2
   have gx:(0:Int)≤(L.length:Int)∧(L.length:Int)<(l.length:Int):=⟨by omega,h1⟩
   refine ex_step (fun _ _=>by rw [r07_Made.l0]) (ex_ct (decide_eq_true h1) (ex_ct (decide_eq_true (by omega)) ?_))
   by_cases h0:does=0
   ·by_cases hp:0<L.length
    ·have w2:w64 (2*(L.length:Int))=((2*L.length:Nat):Int):=by rw [w64_id (by omega) (by omega)]; omega
     obtain ⟨t,t1,t2,t3⟩:=around_ev (n:=(l.getD L.length default).fThread) (m:=((2*L.length:Nat):Int)) (i64_of g4) (by omega) (by omega)
     by_cases ht:t<(L.length:Int)
     ·obtain ⟨t',ht',rfl⟩:=int_lt (n:=L.length) t2 ht
      have ge:(0:Int)≤(t':Int)∧(t':Int)<(L.length:Int):=⟨by omega,by omega⟩
      by_cases h5:(ev L t').fDoes=0
      ·by_cases h6:(ev L t').fThread=⟨#[]⟩
       ·refine fin (th:=evs t') (b:=decide ((0:Int)<(L.length:Int))) (.inr ⟨h0,t',ht',rfl,h5,h6⟩) ?_
        rw [e0]
        refine Ev.bind (eventOf_at _ hx9) (Ev.grd gx (Ev.bind (Ev.of u1) (Ev.grd gx (Ev.bind (Ev.of d1) (Ev.grd ⟨by omega,by omega,by decide⟩ (Ev.bind p1.diag (Ev.bind q1.diag ?_)))))))
        refine Ev.ct (by simpa using h0) (Ev.ct (decide_eq_true (by omega)) (Ev.grd gx (Ev.bind (Ev.of (by rw [w2]; exact t1)) (Ev.ct (decide_eq_true ht) (Ev.grd ge ?_)))))
        rw [ev_at ht']
        exact Ev.ct (by simpa using h5) (Ev.grd ge (Ev.ct (decide_eq_true h6) (Ev.bind (eventOf_at t' (by omega)) (Ev.bind (step (evs t') (.inr ⟨h0,t',ht',rfl,h5,h6⟩)).1 Ev.pure))))
       ·refine fin (th:=⟨#[]⟩) (b:=decide ((0:Int)<(L.length:Int))) (.inl rfl) ?_
        rw [e0]
        refine Ev.bind (eventOf_at _ hx9) (Ev.grd gx (Ev.bind (Ev.of u1) (Ev.grd gx (Ev.bind (Ev.of d1) (Ev.grd ⟨by omega,by omega,by decide⟩ (Ev.bind p1.diag (Ev.bind q1.diag ?_)))))))
        refine Ev.ct (by simpa using h0) (Ev.ct (decide_eq_true (by omega)) (Ev.grd gx (Ev.bind (Ev.of (by rw [w2]; exact t1)) (Ev.ct (decide_eq_true ht) (Ev.grd ge ?_)))))
        rw [ev_at ht']
        exact Ev.ct (by simpa using h5) (Ev.grd ge (Ev.cf (decide_eq_false h6) (Ev.bind (step ⟨#[]⟩ (.inl rfl)).1 Ev.pure)))
      ·refine fin (th:=⟨#[]⟩) (b:=decide ((0:Int)<(L.length:Int))) (.inl rfl) ?_
       rw [e0]
       refine Ev.bind (eventOf_at _ hx9) (Ev.grd gx (Ev.bind (Ev.of u1) (Ev.grd gx (Ev.bind (Ev.of d1) (Ev.grd ⟨by omega,by omega,by decide⟩ (Ev.bind p1.diag (Ev.bind q1.diag ?_)))))))
       refine Ev.ct (by simpa using h0) (Ev.ct (decide_eq_true (by omega)) (Ev.grd gx (Ev.bind (Ev.of (by rw [w2]; exact t1)) (Ev.ct (decide_eq_true ht) (Ev.grd ge ?_)))))
       rw [ev_at ht']
       exact Ev.cf (by simpa using h5) (Ev.bind (step ⟨#[]⟩ (.inl rfl)).1 Ev.pure)
     ·refine fin (th:=⟨#[]⟩) (b:=decide ((0:Int)<(L.length:Int))) (.inl rfl) ?_
      rw [e0]
      refine Ev.bind (eventOf_at _ hx9) (Ev.grd gx (Ev.bind (Ev.of u1) (Ev.grd gx (Ev.bind (Ev.of d1) (Ev.grd ⟨by omega,by omega,by decide⟩ (Ev.bind p1.diag (Ev.bind q1.diag ?_)))))))
      exact Ev.ct (by simpa using h0) (Ev.ct (decide_eq_true (by omega)) (Ev.grd gx (Ev.bind (Ev.of (by rw [w2]; exact t1)) (Ev.cf (decide_eq_false ht) (Ev.bind (step ⟨#[]⟩ (.inl rfl)).1 Ev.pure)))))
    ·refine fin (th:=⟨#[]⟩) (b:=decide ((0:Int)<(L.length:Int))) (.inl rfl) ?_
     rw [e0]
     refine Ev.bind (eventOf_at _ hx9) (Ev.grd gx (Ev.bind (Ev.of u1) (Ev.grd gx (Ev.bind (Ev.of d1) (Ev.grd ⟨by omega,by omega,by decide⟩ (Ev.bind p1.diag (Ev.bind q1.diag ?_)))))))
     exact Ev.ct (by simpa using h0) (Ev.cf (decide_eq_false (by omega)) (Ev.bind (step ⟨#[]⟩ (.inl rfl)).1 Ev.pure))
   ·refine fin (th:=⟨#[]⟩) (b:=false) (.inl rfl) ?_
    rw [e0]
    refine Ev.bind (eventOf_at _ hx9) (Ev.grd gx (Ev.bind (Ev.of u1) (Ev.grd gx (Ev.bind (Ev.of d1) (Ev.grd ⟨by omega,by omega,by decide⟩ (Ev.bind p1.diag (Ev.bind q1.diag ?_)))))))
    exact Ev.cf (by simpa using h0) (Ev.bind (step ⟨#[]⟩ (.inl rfl)).1 Ev.pure)
  ·refine ⟨((x:Int),false,room,L),?_,rfl,hm,hc⟩
   refine El.step (fun _ _=>by rw [r07_Made.l0]) ?_
   exact El.cf (decide_eq_false h1) El.pure
theorem made_ev {room:ByteArray} {l:List GMade} (hr:room∈rooms) (hl:l.length≤maxLen) (hok:∀ x∈l,GMade.ok x):∃ L,Ev (fun k=>r07_Made.f k room l) ⟨room,L⟩∧MI room L∧Chain room L:=by
 obtain ⟨r,h1,h2,h3,h4⟩:=made_loop hr hl hok _ 0 rfl (by omega) [] rfl (by omega) ⟨by simp,fun k hk=>by simp at hk⟩ (fun i hi=>by simp at hi)
 refine ⟨r.2.2.2,?_,h3,h4⟩
 unfold r07_Made.f
 refine Ev.bind h1.diag (Ev.of ?_)
 rw [h2]
end Go.Proofs.YtmmaijneehmbgaaGreat
