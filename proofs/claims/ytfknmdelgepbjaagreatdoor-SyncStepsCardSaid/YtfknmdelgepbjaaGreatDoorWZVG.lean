import Derived.Test.YtfknmdelgepbjaaGreatDoorWZVF
set_option linter.all false
set_option maxRecDepth 10000
namespace Go.Proofs.YtfknmdelgepbjaaGreatDoor
open Go Go.Sp
def rz (room:BA) (L:List Event):Prop:=∀ i,i<L.length→Event.ok (ev L i)∧(ev L i).ab=room∧code ⟨room,L.take i⟩ (ev L i)=0
theorem EM {room:BA} {L:List Event} {e:Event} (h:rz room L) (he:Event.ok e) (hr:e.ab=room) (hc:code ⟨room,L⟩ e=0):rz room (L++[e]):=fun i hi=>by
 rw [List.length_append,List.length_singleton] at hi
 rcases Nat.lt_or_ge i L.length with h1 | h1
 ·rw [nI h1,List.take_append_of_le_length om]; exact h i h1
 ·obtain rfl:i=L.length:=om
  rw [rE,List.take_left' rfl]; exact ⟨he,hr,hc⟩
theorem BO {l:List dA} {i:Nat} (hl:l.length≤maxLen) (hi:i<l.length) (h9:i<9) (hp:∀ x∈(l.getD i default).ag,Hz x):
  ∀ n x:Nat,3-x=n→x≤3→∀ (on:List Bool) (S:List Nat),on.length=9→S.length≤x→(∀ k,on.getD k false=true→k∈S)→∃ r:Int×Bool×List Bool,El (fun k j=>bM.l2 k l (i:Int) j (x:Int) on) r∧r.2.2.length=9∧∃ S:List Nat,S.length≤3∧∀ k,r.2.2.getD k false=true→k∈S:=by
 intro n
 induction n with
 | zero=>
  intro x hd hx on S ho hS hk
  obtain rfl:x=3:=om
  by_cases hlen:((3:Nat):Int)<(((l.getD i default).ag).length:Int)
  ·refine ⟨((3:Nat),false,on),?_,ho,S,hS,hk⟩
   refine El.step (fun _ _=>by rw [bM.l2]) ?_
   rw [ET _ _ default hi]
   exact El.an ⟨om,om⟩ (El.ct (dT hlen) (El.cf rfl El.pure))
  ·refine ⟨((3:Nat),false,on),?_,ho,S,hS,hk⟩
   refine El.step (fun _ _=>by rw [bM.l2]) ?_
   rw [ET _ _ default hi]
   exact El.an ⟨om,om⟩ (El.cf (dF hlen) El.pure)
 | succ n ih=>
  intro x hd hx on S ho hS hk
  by_cases hlen:(x:Int)<(((l.getD i default).ag).length:Int)
  ·by_cases hi0:(0:Int)<(i:Int)
   ·have hx2:x<(l.getD i default).ag.length:=om
    obtain ⟨t,t1,t2,t3⟩:=gF (n:=(bz .i64).at ((l.getD i default).ag) (x:Int)) (m:=(i:Int)) (hp _ (by rw [ET _ _ 0 hx2]; exact eP hx2)) hi0 om
    have htl:t.toNat<on.length:=om
    obtain ⟨r,h1,h2⟩:=ih (x+1) om om (on.set t.toNat true) (t.toNat::S) (by rw [List.length_set]; exact ho) (by simp; omega) (fun k hkk=>by
     rw [eg htl] at hkk
     by_cases e:k=t.toNat
     ·rw [e]; exact List.mem_cons_self ..
     ·rw [if_neg e] at hkk; exact List.mem_cons_of_mem _ (hk k hkk))
    refine ⟨r,?_,h2⟩
    refine El.step (fun _ _=>by rw [bM.l2]) ?_
    rw [ET _ _ default hi]
    refine El.an ⟨om,om⟩ (El.ct (dT hlen) (El.ct (dT om) (El.ct (dT hi0) (El.an ⟨om,om⟩ (El.an ⟨om,om⟩ (El.bind (Ev.of t1).el (El.an ⟨om,om⟩ ?_)))))))
    rw [aE (x:=(x:Int)+1) om om]
    exact h1
   ·refine ⟨((x:Int),false,on),?_,ho,S,om,hk⟩
    refine El.step (fun _ _=>by rw [bM.l2]) ?_
    rw [ET _ _ default hi]
    refine El.an ⟨om,om⟩ (El.ct (dT hlen) (El.ct (dT om) (El.cf (dF hi0) ?_)))
    rw [dF hi0]; exact El.pure
  ·refine ⟨((x:Int),false,on),?_,ho,S,om,hk⟩
   refine El.step (fun _ _=>by rw [bM.l2]) ?_
   rw [ET _ _ default hi]
   exact El.an ⟨om,om⟩ (El.cf (dF hlen) El.pure)
theorem yD {i:Nat} (h9:i<9) {p:Int×Bool×List Bool} (hp:p.2.2.length=9):
  ∀ n x:Nat,i-x=n→x≤i→∀ ks:List Nat,(∀ k∈ks,k<x∧p.2.2.getD k false=true)→ks.Pairwise (· < ·)→ks.length≤x→∃ r:Int×Bool×List BA,El (fun k j=>bM.l1 k (i:Int) p j (x:Int) (ks.map mT)) r∧∃ ks:List Nat,r.2.2=ks.map mT∧(∀ k∈ks,k<i∧p.2.2.getD k false=true)∧ks.Pairwise (· < ·):=by
 intro n
 induction n with
 | zero=>
  intro x hd hx ks h1 h2 h3
  obtain rfl:x=i:=om
  refine ⟨((x:Int),false,ks.map mT),?_,ks,rfl,h1,h2⟩
  refine El.step (fun _ _=>by rw [bM.l1]) ?_
  exact El.cf sM (by simpa using El.pure)
 | succ n ih=>
  intro x hd hx ks h1 h2 h3
  have hx2:x<i:=om
  cases hg:p.2.2.getD x false with
  | true=>
   obtain ⟨r,l1,l2⟩:=ih (x+1) om om (ks++[x]) (fun k hk=>by
    rcases List.mem_append.1 hk with hk | hk
    ·exact ⟨by have:=(h1 k hk).1; omega,(h1 k hk).2⟩
    ·obtain rfl:=List.mem_singleton.1 hk; exact ⟨om,hg⟩) (List.pairwise_append.2 ⟨h2,List.pairwise_singleton _ _,fun a ha b hb=>by obtain rfl:=List.mem_singleton.1 hb; exact (h1 a ha).1⟩) (by simp; omega)
   refine ⟨r,?_,l2⟩
   refine El.step (fun _ _=>by rw [bM.l1]) ?_
   refine El.ct (dT om) (El.an ⟨om,om⟩ (El.ct (by rw [Int.toNat_natCast]; exact hg) (El.bind (jG x om).el (El.an ⟨by simp; omega,by simp; omega⟩ ?_))))
   rw [aE (x:=(x:Int)+1) om om]
   rw [List.map_append] at l1
   exact l1
  | false=>
   obtain ⟨r,l1,l2⟩:=ih (x+1) om om ks (fun k hk=>⟨by have:=(h1 k hk).1; omega,(h1 k hk).2⟩) h2 om
   refine ⟨r,?_,l2⟩
   refine El.step (fun _ _=>by rw [bM.l1]) ?_
   refine El.ct (dT om) (El.an ⟨om,om⟩ (El.cf (by rw [Int.toNat_natCast]; exact hg) ?_))
   rw [aE (x:=(x:Int)+1) om om]
   exact l1
theorem Im {R:Type} {F G:Nat→Nat→Option R} {P:R→Prop} (h:∀ k j,F k (j+1)=G k j) (k:∃ r,El G r∧P r):∃ r,El F r∧P r:=by
 obtain ⟨r,h1,h2⟩:=k; exact ⟨r,El.step h h1,h2⟩
theorem J3 {R:Type} {c:Bool} {F G:Nat→Nat→Option R} {P:R→Prop} (hc:c=true) (k:∃ r,El F r∧P r):∃ r,El (fun n j=>cond c (F n j) (G n j)) r∧P r:=by
 subst hc; exact k
theorem EH {room:BA} {l:List dA} (hr:room∈jo) (hl:l.length≤maxLen) (hok:∀ x∈l,dA.ok x):∀ n x:Nat,9-x=n→x≤9→∀ L:List Event,L.length=x→x≤l.length→MI room L→rz room L→
  ∃ r:Int×Bool×BA×List Event,El (fun k j=>bM.l0 k room l j (x:Int) room L) r∧r.2.2.1=room∧MI room r.2.2.2∧rz room r.2.2.2:=by
 have hl2:l.length≤9223372036854775807:=hl
 intro n
 induction n with
 | zero=>
  intro x hd hx L hL hxl hm hc
  obtain rfl:x=9:=om
  by_cases h1:((9:Nat):Int)<(l.length:Int)
  ·refine ⟨((9:Nat),false,room,L),?_,rfl,hm,hc⟩
   refine El.step (fun _ _=>by rw [bM.l0]) ?_
   exact El.ct (dT h1) (El.cf rfl El.pure)
  ·refine ⟨((9:Nat),false,room,L),?_,rfl,hm,hc⟩
   refine El.step (fun _ _=>by rw [bM.l0]) ?_
   exact El.cf (dF h1) El.pure
 | succ n ih=>
  intro x hd hx L hL hxl hm hc
  by_cases h1:(x:Int)<(l.length:Int)
  ·have hx2:x<l.length:=om
   have hx9:x<9:=om
   obtain ⟨g1,g2,g3,g4,_⟩:=hok _ (eP (d:=default) hx2)
   obtain ⟨user,u1,u2⟩:=tK (lV g1)
   obtain ⟨lE,d1,d2,d3⟩:=gF (m:=3) (lV g2) dc dc
   obtain ⟨p,p1,p2,S,p3,p4⟩:=BO hl hx2 hx9 (fun y hy=>lV (g3.2 y hy)) _ 0 rfl om (List.replicate 9 false) [] sM sM (fun k hk=>by
    exfalso
    rw [gD,List.getElem?_replicate] at hk
    split at hk <;> simp at hk)
   obtain ⟨q,q1,ks,q2,q3,q4⟩:=yD hx9 p2 _ 0 rfl om [] sM sM sM
   have hks:ks.length≤3:=by
    have hn:ks.Nodup:=q4.imp fun h=>Nat.ne_of_lt h
    exact Nat.le_trans (F1 hn fun k hk=>p4 k (q3 k hk).2) p3
   subst hL
   have step:∀ th:BA,(th=⟨#[]⟩∨(lE=0∧∃ t,t<L.length∧th=mT t∧(ev L t).bR=0∧(ev L t).ae=⟨#[]⟩))→
     Ev (fun k=>dS.f k (⟨room,L⟩:aK) (⟨mT L.length,room,q.2.2,th,user,lE⟩:Event)) ((⟨room,L++[⟨mT L.length,room,q.2.2,th,user,lE⟩]⟩:aK),0)∧MI room (L++[⟨mT L.length,room,q.2.2,th,user,lE⟩])∧rz room (L++[⟨mT L.length,room,q.2.2,th,user,lE⟩]):=fun th ht=>by
    rw [q2]
    have ho:Event.ok ⟨mT L.length,room,ks.map mT,th,user,lE⟩:=IZ hr u2 hks ⟨d2,d3⟩ (ht.imp id fun ⟨_,t,_,h,_⟩=>⟨t,h⟩)
    have hcode:=Eu hm hx9 hr u2 (fun k hk=>(q3 k hk).1) q4 hks ⟨d2,d3⟩ ht
    have:=BM (d:=⟨room,L⟩) ho (by show L.length≤100000; omega)
    rw [if_pos hcode] at this
    refine ⟨this,⟨by simp; omega,fun k hk=>?_⟩,EM hc ho rfl hcode⟩
    rw [List.length_append,List.length_singleton] at hk
    rcases Nat.lt_or_ge k L.length with h2 | h2
    ·rw [nI h2]; exact hm.ids k h2
    ·obtain rfl:k=L.length:=om
     rw [rE]
   have fin:∀ {G:Nat→Option (Int×Int×Bool×Bool×Bool×BA×(List Event)×(List Bool))} {th b},(th=⟨#[]⟩∨(lE=0∧∃ t,t<L.length∧th=mT t∧(ev L t).bR=0∧(ev L t).ae=⟨#[]⟩))→
     Ev G (p.1,q.1,p.2.1,q.2.1,b,room,L++[⟨mT L.length,room,q.2.2,th,user,lE⟩],p.2.2)→
     ∃ r:Int×Bool×BA×List Event,El (fun k j=>(G k).bind fun (p230:Int×Int×Bool×Bool×Bool×BA×(List Event)×(List Bool))=>bM.l0 k room l j (av ((L.length:Int)+1)) p230.2.2.2.2.2.1 p230.2.2.2.2.2.2.1) r∧r.2.2.1=room∧MI room r.2.2.2∧rz room r.2.2.2:=fun {G th b} ht hG=>by
    obtain ⟨_,s2,s3⟩:=step th ht
    obtain ⟨r,r1,r2⟩:=ih (L.length+1) om om (L++[⟨mT L.length,room,q.2.2,th,user,lE⟩]) sM om s2 s3
    refine ⟨r,El.bind hG.el ?_,r2⟩
    rw [aE (x:=(L.length:Int)+1) om om]
    exact r1
   have e0:dA.K.at l (L.length:Int)=l.getD L.length default:=ET _ _ _ hx2
   have gx:(0:Int)≤(L.length:Int)∧(L.length:Int)<(l.length:Int):=⟨om,h1⟩
   refine Im (fun _ _=>by rw [bM.l0]) (J3 (dT h1) (J3 (dT om) ?_))
   by_cases h0:lE=0
   ·by_cases hp:0<L.length
    ·have w2:av (2*(L.length:Int))=((2*L.length:Nat):Int):=by rw [aE om om]; omega
     obtain ⟨t,t1,t2,t3⟩:=gF (n:=(l.getD L.length default).ae) (m:=((2*L.length:Nat):Int)) (lV g4) om om
     by_cases ht:t<(L.length:Int)
     ·obtain ⟨t',ht',rfl⟩:=int_lt (n:=L.length) t2 ht
      have ge:(0:Int)≤(t':Int)∧(t':Int)<(L.length:Int):=⟨om,om⟩
      by_cases h5:(ev L t').bR=0
      ·by_cases h6:(ev L t').ae=⟨#[]⟩
       ·refine fin (th:=mT t') (b:=decide ((0:Int)<(L.length:Int))) (.inr ⟨h0,t',ht',rfl,h5,h6⟩) ?_
        rw [e0]
        refine Ev.bind (jG _ hx9) (Ev.an gx (Ev.bind (Ev.of u1) (Ev.an gx (Ev.bind (Ev.of d1) (Ev.an ⟨om,om,dc⟩ (Ev.bind p1.diag (Ev.bind q1.diag ?_)))))))
        refine Ev.ct (by simpa using h0) (Ev.ct (dT om) (Ev.an gx (Ev.bind (Ev.of (by rw [w2]; exact t1)) (Ev.ct (dT ht) (Ev.an ge ?_)))))
        rw [kg ht']
        exact Ev.ct (by simpa using h5) (Ev.an ge (Ev.ct (dT h6) (Ev.bind (jG t' om) (Ev.bind (step (mT t') (.inr ⟨h0,t',ht',rfl,h5,h6⟩)).1 Ev.pure))))
       ·refine fin (th:=⟨#[]⟩) (b:=decide ((0:Int)<(L.length:Int))) (.inl rfl) ?_
        rw [e0]
        refine Ev.bind (jG _ hx9) (Ev.an gx (Ev.bind (Ev.of u1) (Ev.an gx (Ev.bind (Ev.of d1) (Ev.an ⟨om,om,dc⟩ (Ev.bind p1.diag (Ev.bind q1.diag ?_)))))))
        refine Ev.ct (by simpa using h0) (Ev.ct (dT om) (Ev.an gx (Ev.bind (Ev.of (by rw [w2]; exact t1)) (Ev.ct (dT ht) (Ev.an ge ?_)))))
        rw [kg ht']
        exact Ev.ct (by simpa using h5) (Ev.an ge (Ev.cf (dF h6) (Ev.bind (step ⟨#[]⟩ (.inl rfl)).1 Ev.pure)))
      ·refine fin (th:=⟨#[]⟩) (b:=decide ((0:Int)<(L.length:Int))) (.inl rfl) ?_
       rw [e0]
       refine Ev.bind (jG _ hx9) (Ev.an gx (Ev.bind (Ev.of u1) (Ev.an gx (Ev.bind (Ev.of d1) (Ev.an ⟨om,om,dc⟩ (Ev.bind p1.diag (Ev.bind q1.diag ?_)))))))
       refine Ev.ct (by simpa using h0) (Ev.ct (dT om) (Ev.an gx (Ev.bind (Ev.of (by rw [w2]; exact t1)) (Ev.ct (dT ht) (Ev.an ge ?_)))))
       rw [kg ht']
       exact Ev.cf (by simpa using h5) (Ev.bind (step ⟨#[]⟩ (.inl rfl)).1 Ev.pure)
     ·refine fin (th:=⟨#[]⟩) (b:=decide ((0:Int)<(L.length:Int))) (.inl rfl) ?_
      rw [e0]
      refine Ev.bind (jG _ hx9) (Ev.an gx (Ev.bind (Ev.of u1) (Ev.an gx (Ev.bind (Ev.of d1) (Ev.an ⟨om,om,dc⟩ (Ev.bind p1.diag (Ev.bind q1.diag ?_)))))))
      exact Ev.ct (by simpa using h0) (Ev.ct (dT om) (Ev.an gx (Ev.bind (Ev.of (by rw [w2]; exact t1)) (Ev.cf (dF ht) (Ev.bind (step ⟨#[]⟩ (.inl rfl)).1 Ev.pure)))))
    ·refine fin (th:=⟨#[]⟩) (b:=decide ((0:Int)<(L.length:Int))) (.inl rfl) ?_
     rw [e0]
     refine Ev.bind (jG _ hx9) (Ev.an gx (Ev.bind (Ev.of u1) (Ev.an gx (Ev.bind (Ev.of d1) (Ev.an ⟨om,om,dc⟩ (Ev.bind p1.diag (Ev.bind q1.diag ?_)))))))
     exact Ev.ct (by simpa using h0) (Ev.cf (dF om) (Ev.bind (step ⟨#[]⟩ (.inl rfl)).1 Ev.pure))
   ·refine fin (th:=⟨#[]⟩) (b:=false) (.inl rfl) ?_
    rw [e0]
    refine Ev.bind (jG _ hx9) (Ev.an gx (Ev.bind (Ev.of u1) (Ev.an gx (Ev.bind (Ev.of d1) (Ev.an ⟨om,om,dc⟩ (Ev.bind p1.diag (Ev.bind q1.diag ?_)))))))
    exact Ev.cf (by simpa using h0) (Ev.bind (step ⟨#[]⟩ (.inl rfl)).1 Ev.pure)
  ·refine ⟨((x:Int),false,room,L),?_,rfl,hm,hc⟩
   refine El.step (fun _ _=>by rw [bM.l0]) ?_
   exact El.cf (dF h1) El.pure
theorem CI {room:BA} {l:List dA} (hr:room∈jo) (hl:l.length≤maxLen) (hok:∀ x∈l,dA.ok x):∃ L,Ev (fun k=>bM.f k room l) ⟨room,L⟩∧MI room L∧rz room L:=by
 obtain ⟨r,h1,h2,h3,h4⟩:=EH hr hl hok _ 0 rfl om [] rfl om ⟨sM,fun k hk=>by simp at hk⟩ (fun i hi=>by simp at hi)
 refine ⟨r.2.2.2,?_,h3,h4⟩
 unfold bM.f
 refine Ev.bind h1.diag (Ev.of ?_)
 rw [h2]
end Go.Proofs.YtfknmdelgepbjaaGreatDoor
