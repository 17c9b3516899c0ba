import Derived.Test.YtelcbdmigiacpaaGreatZVF
set_option linter.all false
set_option maxRecDepth 10000
namespace Go.Proofs.YtelcbdmigiacpaaGreat
open Go Go.Sp
def rR (room:BA) (L:List Event):Prop:=∀ i,i<L.length->Event.ok (ev L i)/\(ev L i).aj=room/\code ⟨room,L.take i⟩ (ev L i)=0
theorem Cn {room:BA} {L:List Event} {e:Event} (h:rR room L) (he:Event.ok e) (hr:e.aj=room) (hc:code ⟨room,L⟩ e=0):rR room (L++[e]):=λi hi=>by
 rw [List.length_append,List.length_singleton] at hi
 rcases Nat.lt_or_ge i L.length with h1 | h1
 ·rw [oA h1,List.take_append_of_le_length om];exact h i h1
 ·obtain rfl:i=L.length:=om
  rw [rF,List.take_left' rfl];exact⟨he,hr,hc⟩
theorem AY {l:List dV} {i:Nat} (hl:l.length<=maxLen) (hi:i<l.length) (h9:i<9) (hp:∀ x∈(l.getD i default).ag,Hk x):
  ∀ n x:Nat,3-x=n->x<=3->∀ (on:List Bool) (S:List Nat),on.length=9->S.length<=x->(∀ k,on.getD k false=true->k∈S)->∃ r:Int×Bool×List Bool,El (λk j=>cI.l2 k l (i:Int) j (x:Int) on) r/\r.2.2.length=9/\∃ S:List Nat,S.length<=3/\∀ k,r.2.2.getD k false=true->k∈S:=by
 intro n
 induction n with
 | zero=>
  intro x hd hx on S ho hS hk
  obtain rfl:x=3:=om
  by_cases hlen:((3:Nat):Int)<(((l.getD i default).ag).length:Int)
  ·refine⟨((3:Nat),false,on),?_,ho,S,hS,hk⟩
   refine El.step (λ_ _=>by rw [cI.l2]) ?_
   rw [BJ _ _ default hi]
   exact El.aF ⟨om,om⟩ (El.ct (dT hlen) (El.cf rfl El.pure))
  ·refine⟨((3:Nat),false,on),?_,ho,S,hS,hk⟩
   refine El.step (λ_ _=>by rw [cI.l2]) ?_
   rw [BJ _ _ default hi]
   exact El.aF ⟨om,om⟩ (El.cf (dF hlen) El.pure)
 | succ n ih=>
  intro x hd hx on S ho hS hk
  by_cases hlen:(x:Int)<(((l.getD i default).ag).length:Int)
  ·by_cases hi0:(0:Int)<(i:Int)
   ·have hx2:x<(l.getD i default).ag.length:=om
    obtain⟨t,t1,t2,t3⟩:=mq (n:=(aP .i64).at ((l.getD i default).ag) (x:Int)) (m:=(i:Int)) (hp _ (by rw [BJ _ _ 0 hx2];exact vr hx2)) hi0 om
    have htl:t.toNat<on.length:=om
    obtain⟨r,h1,h2⟩:=ih (x+1) om om (on.set t.toNat true) (t.toNat::S) (by rw [List.length_set];exact ho) (by simp;omega) (λk hkk=>by
     rw [CL htl] at hkk
     by_cases e:k=t.toNat
     ·rw [e];exact List.mem_cons_self ..
     ·rw [if_neg e] at hkk;exact List.mem_cons_of_mem _ (hk k hkk))
    refine⟨r,?_,h2⟩
    refine El.step (λ_ _=>by rw [cI.l2]) ?_
    rw [BJ _ _ default hi]
    refine El.aF ⟨om,om⟩ (El.ct (dT hlen) (El.ct (dT om) (El.ct (dT hi0) (El.aF ⟨om,om⟩ (El.aF ⟨om,om⟩ (El.bind (Ev.of t1).el (El.aF ⟨om,om⟩ ?_)))))))
    rw [c7 (x:=(x:Int)+1) om om]
    exact h1
   ·refine⟨((x:Int),false,on),?_,ho,S,om,hk⟩
    refine El.step (λ_ _=>by rw [cI.l2]) ?_
    rw [BJ _ _ default hi]
    refine El.aF ⟨om,om⟩ (El.ct (dT hlen) (El.ct (dT om) (El.cf (dF hi0) ?_)))
    rw [dF hi0];exact El.pure
  ·refine⟨((x:Int),false,on),?_,ho,S,om,hk⟩
   refine El.step (λ_ _=>by rw [cI.l2]) ?_
   rw [BJ _ _ default hi]
   exact El.aF ⟨om,om⟩ (El.cf (dF hlen) El.pure)
theorem yk {i:Nat} (h9:i<9) {p:Int×Bool×List Bool} (hp:p.2.2.length=9):
  ∀ n x:Nat,i-x=n->x<=i->∀ ks:List Nat,(∀ k∈ks,k<x/\p.2.2.getD k false=true)->ks.Pairwise (· < ·)->ks.length<=x->∃ r:Int×Bool×List BA,El (λk j=>cI.l1 k (i:Int) p j (x:Int) (ks.map mZ)) r/\∃ ks:List Nat,r.2.2=ks.map mZ/\(∀ k∈ks,k<i/\p.2.2.getD k false=true)/\ks.Pairwise (· < ·):=by
 intro n
 induction n with
 | zero=>
  intro x hd hx ks h1 h2 h3
  obtain rfl:x=i:=om
  refine⟨((x:Int),false,ks.map mZ),?_,ks,rfl,h1,h2⟩
  refine El.step (λ_ _=>by rw [cI.l1]) ?_
  exact El.cf sM (by simpa using El.pure)
 | succ n ih=>
  intro x hd hx ks h1 h2 h3
  have hx2:x<i:=om
  cases hg:p.2.2.getD x false with
  | true=>
   obtain⟨r,l1,l2⟩:=ih (x+1) om om (ks++[x]) (λk hk=>by
    rcases List.mem_append.1 hk with hk | hk
    ·exact⟨by have:=(h1 k hk).1;omega,(h1 k hk).2⟩
    ·obtain rfl:=List.mem_singleton.1 hk;exact⟨om,hg⟩) (List.pairwise_append.2 ⟨h2,List.pairwise_singleton _ _,λa ha b hb=>by obtain rfl:=List.mem_singleton.1 hb;exact(h1 a ha).1⟩) (by simp;omega)
   refine⟨r,?_,l2⟩
   refine El.step (λ_ _=>by rw [cI.l1]) ?_
   refine El.ct (dT om) (El.aF ⟨om,om⟩ (El.ct (by rw [Int.toNat_natCast];exact hg) (El.bind (kB x om).el (El.aF ⟨by simp;omega,by simp;omega⟩ ?_))))
   rw [c7 (x:=(x:Int)+1) om om]
   rw [List.map_append] at l1
   exact l1
  | false=>
   obtain⟨r,l1,l2⟩:=ih (x+1) om om ks (λk hk=>⟨by have:=(h1 k hk).1;omega,(h1 k hk).2⟩) h2 om
   refine⟨r,?_,l2⟩
   refine El.step (λ_ _=>by rw [cI.l1]) ?_
   refine El.ct (dT om) (El.aF ⟨om,om⟩ (El.cf (by rw [Int.toNat_natCast];exact hg) ?_))
   rw [c7 (x:=(x:Int)+1) om om]
   exact l1
theorem FW {R:Type} {F G:Nat->Nat->Option R} {P:R->Prop} (h:∀ k j,F k (j+1)=G k j) (k:∃ r,El G r/\P r):∃ r,El F r/\P r:=by
 obtain⟨r,h1,h2⟩:=k;exact⟨r,El.step h h1,h2⟩
theorem Hn {R:Type} {c:Bool} {F G:Nat->Nat->Option R} {P:R->Prop} (hc:c=true) (k:∃ r,El F r/\P r):∃ r,El (λn j=>cond c (F n j) (G n j)) r/\P r:=by
 subst hc;exact k
theorem C3 {room:BA} {l:List dV} (hr:room∈ly) (hl:l.length<=maxLen) (hok:∀ x∈l,dV.ok x):∀ n x:Nat,9-x=n->x<=9->∀ L:List Event,L.length=x->x<=l.length->MI room L->rR room L->
  ∃ r:Int×Bool×BA×List Event,El (λk j=>cI.l0 k room l j (x:Int) room L) r/\r.2.2.1=room/\MI room r.2.2.2/\rR room r.2.2.2:=by
 have hl2:l.length<=9223372036854775807:=hl
 intro n
 induction n with
 | zero=>
  intro x hd hx L hL hxl hm hc
  obtain rfl:x=9:=om
  by_cases h1:((9:Nat):Int)<(l.length:Int)
  ·refine⟨((9:Nat),false,room,L),?_,rfl,hm,hc⟩
   refine El.step (λ_ _=>by rw [cI.l0]) ?_
   exact El.ct (dT h1) (El.cf rfl El.pure)
  ·refine⟨((9:Nat),false,room,L),?_,rfl,hm,hc⟩
   refine El.step (λ_ _=>by rw [cI.l0]) ?_
   exact El.cf (dF h1) El.pure
 | succ n ih=>
  intro x hd hx L hL hxl hm hc
  by_cases h1:(x:Int)<(l.length:Int)
  ·have hx2:x<l.length:=om
   have hx9:x<9:=om
   obtain⟨g1,g2,g3,g4,_⟩:=hok _ (vr (d:=default) hx2)
   obtain⟨user,u1,u2⟩:=w4 (qD g1)
   obtain⟨mC,d1,d2,d3⟩:=mq (m:=3) (qD g2) dc dc
   obtain⟨p,p1,p2,S,p3,p4⟩:=AY hl hx2 hx9 (λy hy=>qD (g3.2 y hy)) _ 0 rfl om (List.replicate 9 false) [] sM sM (λk hk=>by
    exfalso
    rw [gD,List.getElem?_replicate] at hk
    split at hk <;> simp at hk)
   obtain⟨q,q1,ks,q2,q3,q4⟩:=yk hx9 p2 _ 0 rfl om [] sM sM sM
   have hks:ks.length<=3:=by
    have hn:ks.Nodup:=q4.imp λh=>Nat.ne_of_lt h
    exact Nat.le_trans (D9 hn λk hk=>p4 k (q3 k hk).2) p3
   subst hL
   have step:∀ th:BA,(th=⟨#[]⟩\/(mC=0/\∃ t,t<L.length/\th=mZ t/\(ev L t).cW=0/\(ev L t).ah=⟨#[]⟩))->
     Ev (λk=>eC.f k (⟨room,L⟩:bq) (⟨mZ L.length,room,q.2.2,th,user,mC⟩:Event)) ((⟨room,L++[⟨mZ L.length,room,q.2.2,th,user,mC⟩]⟩:bq),0)/\MI room (L++[⟨mZ L.length,room,q.2.2,th,user,mC⟩])/\rR room (L++[⟨mZ L.length,room,q.2.2,th,user,mC⟩]):=λth ht=>by
    rw [q2]
    have ho:Event.ok ⟨mZ L.length,room,ks.map mZ,th,user,mC⟩:=G2 hr u2 hks ⟨d2,d3⟩ (ht.imp id λ⟨_,t,_,h,_⟩=>⟨t,h⟩)
    have hcode:=CY hm hx9 hr u2 (λk hk=>(q3 k hk).1) q4 hks ⟨d2,d3⟩ ht
    have:=z6 (d:=⟨room,L⟩) ho (by show L.length<=100000;omega)
    rw [if_pos hcode] at this
    refine⟨this,⟨by simp;omega,λk hk=>?_⟩,Cn hc ho rfl hcode⟩
    rw [List.length_append,List.length_singleton] at hk
    rcases Nat.lt_or_ge k L.length with h2 | h2
    ·rw [oA h2];exact hm.ids k h2
    ·obtain rfl:k=L.length:=om
     rw [rF]
   have fin:∀ {G:Nat->Option (Int×Int×Bool×Bool×Bool×BA×(List Event)×(List Bool))} {th b},(th=⟨#[]⟩\/(mC=0/\∃ t,t<L.length/\th=mZ t/\(ev L t).cW=0/\(ev L t).ah=⟨#[]⟩))->
     Ev G (p.1,q.1,p.2.1,q.2.1,b,room,L++[⟨mZ L.length,room,q.2.2,th,user,mC⟩],p.2.2)->
     ∃ r:Int×Bool×BA×List Event,El (λk j=>(G k).bind λ(p230:Int×Int×Bool×Bool×Bool×BA×(List Event)×(List Bool))=>cI.l0 k room l j (aE ((L.length:Int)+1)) p230.2.2.2.2.2.1 p230.2.2.2.2.2.2.1) r/\r.2.2.1=room/\MI room r.2.2.2/\rR room r.2.2.2:=λ{G th b} ht hG=>by
    obtain⟨_,s2,s3⟩:=step th ht
    obtain⟨r,r1,r2⟩:=ih (L.length+1) om om (L++[⟨mZ L.length,room,q.2.2,th,user,mC⟩]) sM om s2 s3
    refine⟨r,El.bind hG.el ?_,r2⟩
    rw [c7 (x:=(L.length:Int)+1) om om]
    exact r1
   have e0:dV.K.at l (L.length:Int)=l.getD L.length default:=BJ _ _ _ hx2
   have gx:(0:Int)<=(L.length:Int)/\(L.length:Int)<(l.length:Int):=⟨om,h1⟩
   refine FW (λ_ _=>by rw [cI.l0]) (Hn (dT h1) (Hn (dT om) ?_))
   by_cases h0:mC=0
   ·by_cases hp:0<L.length
    ·have w2:aE (2*(L.length:Int))=((2*L.length:Nat):Int):=by rw [c7 om om];omega
     obtain⟨t,t1,t2,t3⟩:=mq (n:=(l.getD L.length default).ah) (m:=((2*L.length:Nat):Int)) (qD g4) om om
     by_cases ht:t<(L.length:Int)
     ·obtain⟨t',ht',rfl⟩:=int_lt (n:=L.length) t2 ht
      have ge:(0:Int)<=(t':Int)/\(t':Int)<(L.length:Int):=⟨om,om⟩
      by_cases h5:(ev L t').cW=0
      ·by_cases h6:(ev L t').ah=⟨#[]⟩
       ·refine fin (th:=mZ t') (b:=decide ((0:Int)<(L.length:Int))) (.inr ⟨h0,t',ht',rfl,h5,h6⟩) ?_
        rw [e0]
        refine Ev.bind (kB _ hx9) (Ev.aF gx (Ev.bind (Ev.of u1) (Ev.aF gx (Ev.bind (Ev.of d1) (Ev.aF ⟨om,om,dc⟩ (Ev.bind p1.diag (Ev.bind q1.diag ?_)))))))
        refine Ev.ct (by simpa using h0) (Ev.ct (dT om) (Ev.aF gx (Ev.bind (Ev.of (by rw [w2];exact t1)) (Ev.ct (dT ht) (Ev.aF ge ?_)))))
        rw [oW ht']
        exact Ev.ct (by simpa using h5) (Ev.aF ge (Ev.ct (dT h6) (Ev.bind (kB t' om) (Ev.bind (step (mZ t') (.inr ⟨h0,t',ht',rfl,h5,h6⟩)).1 Ev.pure))))
       ·refine fin (th:=⟨#[]⟩) (b:=decide ((0:Int)<(L.length:Int))) (.inl rfl) ?_
        rw [e0]
        refine Ev.bind (kB _ hx9) (Ev.aF gx (Ev.bind (Ev.of u1) (Ev.aF gx (Ev.bind (Ev.of d1) (Ev.aF ⟨om,om,dc⟩ (Ev.bind p1.diag (Ev.bind q1.diag ?_)))))))
        refine Ev.ct (by simpa using h0) (Ev.ct (dT om) (Ev.aF gx (Ev.bind (Ev.of (by rw [w2];exact t1)) (Ev.ct (dT ht) (Ev.aF ge ?_)))))
        rw [oW ht']
        exact Ev.ct (by simpa using h5) (Ev.aF ge (Ev.cf (dF h6) (Ev.bind (step ⟨#[]⟩ (.inl rfl)).1 Ev.pure)))
      ·refine fin (th:=⟨#[]⟩) (b:=decide ((0:Int)<(L.length:Int))) (.inl rfl) ?_
       rw [e0]
       refine Ev.bind (kB _ hx9) (Ev.aF gx (Ev.bind (Ev.of u1) (Ev.aF gx (Ev.bind (Ev.of d1) (Ev.aF ⟨om,om,dc⟩ (Ev.bind p1.diag (Ev.bind q1.diag ?_)))))))
       refine Ev.ct (by simpa using h0) (Ev.ct (dT om) (Ev.aF gx (Ev.bind (Ev.of (by rw [w2];exact t1)) (Ev.ct (dT ht) (Ev.aF ge ?_)))))
       rw [oW ht']
       exact Ev.cf (by simpa using h5) (Ev.bind (step ⟨#[]⟩ (.inl rfl)).1 Ev.pure)
     ·refine fin (th:=⟨#[]⟩) (b:=decide ((0:Int)<(L.length:Int))) (.inl rfl) ?_
      rw [e0]
      refine Ev.bind (kB _ hx9) (Ev.aF gx (Ev.bind (Ev.of u1) (Ev.aF gx (Ev.bind (Ev.of d1) (Ev.aF ⟨om,om,dc⟩ (Ev.bind p1.diag (Ev.bind q1.diag ?_)))))))
      exact Ev.ct (by simpa using h0) (Ev.ct (dT om) (Ev.aF gx (Ev.bind (Ev.of (by rw [w2];exact t1)) (Ev.cf (dF ht) (Ev.bind (step ⟨#[]⟩ (.inl rfl)).1 Ev.pure)))))
    ·refine fin (th:=⟨#[]⟩) (b:=decide ((0:Int)<(L.length:Int))) (.inl rfl) ?_
     rw [e0]
     refine Ev.bind (kB _ hx9) (Ev.aF gx (Ev.bind (Ev.of u1) (Ev.aF gx (Ev.bind (Ev.of d1) (Ev.aF ⟨om,om,dc⟩ (Ev.bind p1.diag (Ev.bind q1.diag ?_)))))))
     exact Ev.ct (by simpa using h0) (Ev.cf (dF om) (Ev.bind (step ⟨#[]⟩ (.inl rfl)).1 Ev.pure))
   ·refine fin (th:=⟨#[]⟩) (b:=false) (.inl rfl) ?_
    rw [e0]
    refine Ev.bind (kB _ hx9) (Ev.aF gx (Ev.bind (Ev.of u1) (Ev.aF gx (Ev.bind (Ev.of d1) (Ev.aF ⟨om,om,dc⟩ (Ev.bind p1.diag (Ev.bind q1.diag ?_)))))))
    exact Ev.cf (by simpa using h0) (Ev.bind (step ⟨#[]⟩ (.inl rfl)).1 Ev.pure)
  ·refine⟨((x:Int),false,room,L),?_,rfl,hm,hc⟩
   refine El.step (λ_ _=>by rw [cI.l0]) ?_
   exact El.cf (dF h1) El.pure
theorem Bm {room:BA} {l:List dV} (hr:room∈ly) (hl:l.length<=maxLen) (hok:∀ x∈l,dV.ok x):∃ L,Ev (λk=>cI.f k room l) ⟨room,L⟩/\MI room L/\rR room L:=by
 obtain⟨r,h1,h2,h3,h4⟩:=C3 hr hl hok _ 0 rfl om [] rfl om ⟨sM,λk hk=>by simp at hk⟩ (λi hi=>by simp at hi)
 refine⟨r.2.2.2,?_,h3,h4⟩
 unfold cI.f
 refine Ev.bind h1.diag (Ev.of ?_)
 rw [h2]
end Go.Proofs.YtelcbdmigiacpaaGreat
