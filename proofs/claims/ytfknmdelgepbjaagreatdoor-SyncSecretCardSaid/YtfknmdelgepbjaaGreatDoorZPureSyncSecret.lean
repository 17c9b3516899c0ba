import Derived.Test.YtfknmdelgepbjaaGreatDoorZYJ
set_option linter.all false
set_option maxRecDepth 10000
namespace Go.Proofs.YtfknmdelgepbjaaGreatDoor
open Go Go.Sp
theorem jT {α:Type} {K:Kd α} {l:List α} {m:Nat} (h:m<l.length):K.at l (m:Int)=l[m]:=by
 unfold Kd.at; rw [Int.toNat_natCast]; simp [h]
theorem nI {α:Type} [DecidableEq α] {a b:List α} {F:Nat→Nat→Int→Option ((Int×Bool) ⊕ Bool)} (hl:a.length=b.length)
  (h1:∀ x (ha:x<a.length) (hb:x<b.length),a[x]=b[x]→∀ r,El (fun k j=>F k j ((x+1:Nat):Int)) r→El (fun k j=>F k j (x:Int)) r)
  (h2:∀ x (ha:x<a.length) (hb:x<b.length),a[x]≠b[x]→El (fun k j=>F k j (x:Int)) (.inr false))
  (h3:El (fun k j=>F k j (a.length:Int)) (.inl ((a.length:Int),false))):El (fun k j=>F k j 0) (if a=b then .inl ((a.length:Int),false) else .inr false):=by
 have:∀ n x:Nat,a.length-x=n→x≤a.length→El (fun k j=>F k j (x:Int)) (if a.drop x=b.drop x then .inl ((a.length:Int),false) else .inr false):=by
  intro n
  induction n with
  | zero=>
   intro x hd hx
   obtain rfl:x=a.length:=om
   rw [if_pos (by rw [List.drop_length,hl,List.drop_length])]; exact h3
  | succ n ih=>
   intro x hd hx
   have ha:x<a.length:=om
   have hb:x<b.length:=om
   have i:=ih (x+1) om om
   rw [List.drop_eq_getElem_cons ha,List.drop_eq_getElem_cons hb]
   by_cases e:a[x]=b[x]
   ·refine h1 x ha hb e _ ?_
    rw [e]
    by_cases k:a.drop (x+1)=b.drop (x+1)
    ·rw [if_pos k] at i; rw [if_pos (by rw [k])]; exact i
    ·rw [if_neg k] at i; rw [if_neg (fun h=>k (List.cons.inj h).2)]; exact i
   ·rw [if_neg (fun h=>e (List.cons.inj h).1)]; exact h2 x ha hb e
 exact this _ 0 rfl om
theorem oS {p:Prop} [Decidable p] {n:Int} {F:Nat→Option ((Int×Bool) ⊕ Bool)} (h:Ev F (if p then .inl (n,false) else .inr false)):Ev (fun k=>(F k).bind (fall fun _=>some true)) (decide p):=by
 by_cases e:p
 ·rw [if_pos e] at h; rw [dT e]; exact Ev.bind h (by simp only [fall]; exact Ev.pure)
 ·rw [if_neg e] at h; rw [dF e]; exact Ev.bind h (by simp only [fall]; exact Ev.pure)
theorem pR {α:Type} {a b:List α} (h:¬ a.length=b.length):a≠b∧((a.length:Int) != (b.length:Int))=true:=⟨fun e=>h (by rw [e]),by simpa using fun e=>h om⟩
theorem p5 {α:Type} {a b:List α} (h:a.length=b.length):((a.length:Int) != (b.length:Int))=false:=by rw [h]; simp
theorem zh (a b:List BA) (ha:a.length≤1000):Ev (fun k=>db.f k a b) (decide (a=b)):=by
 unfold db.f
 by_cases hl:a.length=b.length
 ·refine Ev.cf (p5 hl) (oS (nI (F:=fun k j x=>db.l0 k a b j x) hl (fun x xa xb e r hr=>?_) (fun x xa xb e=>?_) ?_).diag)
  ·refine El.step (fun _ _=>by rw [db.l0]) ?_
   refine El.ct (dT om) (El.an ⟨om,om⟩ (El.an ⟨om,om⟩ (El.cf (by rw [jT xa,jT xb,dT e]; rfl) ?_)))
   rwa [jr om]
  ·refine El.step (fun _ _=>by rw [db.l0]) ?_
   exact El.ct (dT om) (El.an ⟨om,om⟩ (El.an ⟨om,om⟩ (El.ct (by rw [jT xa,jT xb,dF e]; rfl) El.pure)))
  ·refine El.step (fun _ _=>by rw [db.l0]) ?_
   rw [dF om]; exact El.pure
 ·obtain ⟨l1,l2⟩:=pR hl
  rw [dF l1]; exact Ev.ct l2 Ev.pure
theorem ER (a b:List BA) (ha:a.length≤1000):Ev (fun k=>bz.f k a b) (decide (a=b)):=by
 unfold bz.f
 by_cases hl:a.length=b.length
 ·refine Ev.cf (p5 hl) (oS (nI (F:=fun k j x=>bz.l0 k a b j x) hl (fun x xa xb e r hr=>?_) (fun x xa xb e=>?_) ?_).diag)
  ·refine El.step (fun _ _=>by rw [bz.l0]) ?_
   refine El.ct (dT om) (El.an ⟨om,om⟩ (El.an ⟨om,om⟩ (El.cf (by rw [jT xa,jT xb,dT e]; rfl) ?_)))
   rwa [jr om]
  ·refine El.step (fun _ _=>by rw [bz.l0]) ?_
   exact El.ct (dT om) (El.an ⟨om,om⟩ (El.an ⟨om,om⟩ (El.ct (by rw [jT xa,jT xb,dF e]; rfl) El.pure)))
  ·refine El.step (fun _ _=>by rw [bz.l0]) ?_
   rw [dF om]; exact El.pure
 ·obtain ⟨l1,l2⟩:=pR hl
  rw [dF l1]; exact Ev.ct l2 Ev.pure
theorem Hc (a b:List MK) (ha:a.length≤1000):Ev (fun k=>gW.f k a b) (decide (a=b)):=by
 unfold gW.f
 by_cases hl:a.length=b.length
 ·refine Ev.cf (p5 hl) (oS (nI (F:=fun k j x=>gW.l0 k a b j x) hl (fun x xa xb e r hr=>?_) (fun x xa xb e=>?_) ?_).diag)
  ·refine El.step (fun _ _=>by rw [gW.l0]) ?_
   refine El.ct (dT om) (El.an ⟨om,om⟩ (El.an ⟨om,om⟩ (El.cf (by rw [jT xa,jT xb]; show (!decide (a[x]=b[x]))=_; rw [dT e]; rfl) ?_)))
   rwa [jr om]
  ·refine El.step (fun _ _=>by rw [gW.l0]) ?_
   exact El.ct (dT om) (El.an ⟨om,om⟩ (El.an ⟨om,om⟩ (El.ct (by rw [jT xa,jT xb]; show (!decide (a[x]=b[x]))=_; rw [dF e]; rfl) El.pure)))
  ·refine El.step (fun _ _=>by rw [gW.l0]) ?_
   rw [dF om]; exact El.pure
 ·obtain ⟨l1,l2⟩:=pR hl
  rw [dF l1]; exact Ev.ct l2 Ev.pure
theorem C2 (a b:List eQ) (ha:a.length≤1000):Ev (fun k=>bM.f k a b) (decide (a=b)):=by
 unfold bM.f
 by_cases hl:a.length=b.length
 ·refine Ev.cf (p5 hl) (oS (nI (F:=fun k j x=>bM.l0 k a b j x) hl (fun x xa xb e r hr=>?_) (fun x xa xb e=>?_) ?_).diag)
  ·refine El.step (fun _ _=>by rw [bM.l0]) ?_
   refine El.ct (dT om) (El.an ⟨om,om⟩ (El.an ⟨om,om⟩ (El.cf (by rw [jT xa,jT xb]; show (!decide (a[x]=b[x]))=_; rw [dT e]; rfl) ?_)))
   rwa [jr om]
  ·refine El.step (fun _ _=>by rw [bM.l0]) ?_
   exact El.ct (dT om) (El.an ⟨om,om⟩ (El.an ⟨om,om⟩ (El.ct (by rw [jT xa,jT xb]; show (!decide (a[x]=b[x]))=_; rw [dF e]; rfl) El.pure)))
  ·refine El.step (fun _ _=>by rw [bM.l0]) ?_
   rw [dF om]; exact El.pure
 ·obtain ⟨l1,l2⟩:=pR hl
  rw [dF l1]; exact Ev.ct l2 Ev.pure
theorem Fh (a b:List eR) (ha:a.length≤1000):Ev (fun k=>bB.f k a b) (decide (a=b)):=by
 unfold bB.f
 by_cases hl:a.length=b.length
 ·refine Ev.cf (p5 hl) (oS (nI (F:=fun k j x=>bB.l0 k a b j x) hl (fun x xa xb e r hr=>?_) (fun x xa xb e=>?_) ?_).diag)
  ·refine El.step (fun _ _=>by rw [bB.l0]) ?_
   refine El.ct (dT om) (El.an ⟨om,om⟩ (El.an ⟨om,om⟩ (El.cf (by rw [jT xa,jT xb,dT e]; rfl) ?_)))
   rwa [jr om]
  ·refine El.step (fun _ _=>by rw [bB.l0]) ?_
   exact El.ct (dT om) (El.an ⟨om,om⟩ (El.an ⟨om,om⟩ (El.ct (by rw [jT xa,jT xb,dF e]; rfl) El.pure)))
  ·refine El.step (fun _ _=>by rw [bB.l0]) ?_
   rw [dF om]; exact El.pure
 ·obtain ⟨l1,l2⟩:=pR hl
  rw [dF l1]; exact Ev.ct l2 Ev.pure
theorem Aj (a b:eA) (ha:a.kP.length≤1000):Ev (fun k=>iW.f k a b) (decide (a=b)):=by
 unfold iW.f
 obtain ⟨r,us⟩:=a
 obtain ⟨r',us'⟩:=b
 by_cases h1:r=r'
 ·have h:=ER us us' ha
  rw [show decide ((⟨r,us⟩:eA)=⟨r',us'⟩)=decide (us=us') by simp [h1]]
  exact Ev.ct (dT h1) (Ev.bind h Ev.pure)
 ·rw [show decide ((⟨r,us⟩:eA)=⟨r',us'⟩)=false by simp [h1]]
  exact Ev.cf (dF h1) Ev.pure
theorem Fc (a b:List eA) (ha:a.length≤1000) (hu:∀ x∈a,x.kP.length≤1000):Ev (fun k=>aC.f k a b (iW.f k)) (decide (a=b)):=by
 unfold aC.f
 by_cases hl:a.length=b.length
 ·refine Ev.cf (p5 hl) (oS (nI (F:=fun k j x=>aC.l0 k a b (iW.f k) j x) hl (fun x xa xb e r hr=>?_) (fun x xa xb e=>?_) ?_).diag)
  ·have h:=Aj a[x] b[x] (hu _ (List.getElem_mem xa))
   rw [dT e] at h
   refine El.step (fun _ _=>by rw [aC.l0]) ?_
   rw [jT xa,jT xb]
   refine El.ct (dT om) (El.an ⟨om,om⟩ (El.an ⟨om,om⟩ (El.bind h.el (El.cf rfl ?_))))
   rwa [jr om]
  ·have h:=Aj a[x] b[x] (hu _ (List.getElem_mem xa))
   rw [dF e] at h
   refine El.step (fun _ _=>by rw [aC.l0]) ?_
   rw [jT xa,jT xb]
   exact El.ct (dT om) (El.an ⟨om,om⟩ (El.an ⟨om,om⟩ (El.bind h.el (El.ct rfl El.pure))))
  ·refine El.step (fun _ _=>by rw [aC.l0]) ?_
   rw [dF om]; exact El.pure
 ·obtain ⟨l1,l2⟩:=pR hl
  rw [dF l1]; exact Ev.ct l2 Ev.pure
structure Sm3 (T:List eA) (P:List eR):Prop where
 t:T.length≤1000
 u:∀ x∈T,x.kP.length≤1000
 p:P.length≤1000
theorem GP (a b:sX) (hm:a.ay.length≤1000) (h:Sm3 a.av a.bL):Ev (fun k=>nh.f k a b) (decide (a.ay=b.ay∧a.av=b.av∧a.bL=b.bL)):=by
 unfold nh.f
 have h1:=C2 a.ay b.ay hm
 have h2:=Fc a.av b.av h.t h.u
 have h3:=Fh a.bL b.bL h.p
 by_cases e1:a.ay=b.ay
 ·rw [dT e1] at h1
  by_cases e2:a.av=b.av
  ·rw [dT e2] at h2
   rw [show decide (a.ay=b.ay∧a.av=b.av∧a.bL=b.bL)=decide (a.bL=b.bL) by simp [e1,e2]]
   exact Ev.bind h1 (Ev.ct rfl (Ev.bind h2 (Ev.ct rfl (Ev.bind h3 Ev.pure))))
  ·rw [dF e2] at h2
   rw [dF fun h=>e2 h.2.1]
   exact Ev.bind h1 (Ev.ct rfl (Ev.bind h2 (Ev.cf rfl Ev.pure)))
 ·rw [dF e1] at h1
  rw [dF fun h=>e1 h.1]
  exact Ev.bind h1 (Ev.cf rfl Ev.pure)
theorem EA (a b:o0) (hm:a.ay.length≤1000) (h:Sm3 a.av a.bL):Ev (fun k=>dL.f k a b) (decide (a.ay=b.ay∧a.av=b.av∧a.bL=b.bL)):=by
 have ht:=h.t
 have hp:=h.p
 unfold dL.f
 have h1:=Hc a.ay b.ay hm
 by_cases e1:a.ay=b.ay
 ·rw [dT e1] at h1
  refine Ev.bind h1 (Ev.cf rfl ?_)
  by_cases l1:a.av.length=b.av.length
  ·refine Ev.cf (p5 l1) ?_
   by_cases l2:a.bL.length=b.bL.length
   ·refine Ev.cf (p5 l2) ?_
    have t1:=(nI (F:=fun k j x=>dL.l1 k a b j x) l1 (fun x xa xb e r hr=>by
      have g:=zh (a.av[x]).kP (b.av[x]).kP (h.u _ (List.getElem_mem xa))
      rw [dT (by rw [e])] at g
      refine El.step (fun _ _=>by rw [dL.l1]) ?_
      rw [jT xa,jT xb]
      refine El.ct (dT om) (El.an ⟨om,om⟩ (El.an ⟨om,om⟩ (El.bind g.el (El.cf rfl (El.an ⟨om,om⟩ (El.an ⟨om,om⟩ (El.cf (by rw [e]; simp) ?_)))))))
      rwa [jr om]) (fun x xa xb e=>by
      have g:=zh (a.av[x]).kP (b.av[x]).kP (h.u _ (List.getElem_mem xa))
      refine El.step (fun _ _=>by rw [dL.l1]) ?_
      rw [jT xa,jT xb]
      refine El.ct (dT om) (El.an ⟨om,om⟩ (El.an ⟨om,om⟩ (El.bind g.el ?_)))
      by_cases eu:(a.av[x]).kP=(b.av[x]).kP
      ·have er:(a.av[x]).aa≠(b.av[x]).aa:=fun er=>e (by
        cases ha:a.av[x]; cases hb:b.av[x]; rw [ha,hb] at eu er; simp_all)
       exact El.cf (by rw [dT eu]; rfl) (El.an ⟨om,om⟩ (El.an ⟨om,om⟩ (El.ct (by rw [dF er]; rfl) El.pure)))
      ·exact El.ct (by rw [dF eu]; rfl) El.pure) (by
      refine El.step (fun _ _=>by rw [dL.l1]) ?_
      rw [dF om]; exact El.pure)).diag
    have t0:=oS (nI (F:=fun k j x=>dL.l0 k a b j x) l2 (fun x xa xb e r hr=>by
      refine El.step (fun _ _=>by rw [dL.l0]) ?_
      refine El.ct (dT om) (El.an ⟨om,om⟩ (El.an ⟨om,om⟩ (El.cf (by rw [jT xa,jT xb,dT e]; rfl) ?_)))
      rwa [jr om]) (fun x xa xb e=>by
      refine El.step (fun _ _=>by rw [dL.l0]) ?_
      exact El.ct (dT om) (El.an ⟨om,om⟩ (El.an ⟨om,om⟩ (El.ct (by rw [jT xa,jT xb,dF e]; rfl) El.pure)))) (by
      refine El.step (fun _ _=>by rw [dL.l0]) ?_
      rw [dF om]; exact El.pure)).diag
    by_cases e2:a.av=b.av
    ·rw [if_pos e2] at t1
     rw [show decide (a.ay=b.ay∧a.av=b.av∧a.bL=b.bL)=decide (a.bL=b.bL) by simp [e1,e2]]
     refine Ev.bind t1 ?_
     exact t0
    ·rw [if_neg e2] at t1
     rw [dF fun h=>e2 h.2.1]
     exact Ev.bind t1 (by simp only [fall]; exact Ev.pure)
   ·obtain ⟨q1,q2⟩:=pR l2
    rw [dF fun h=>q1 h.2.2]; exact Ev.ct q2 Ev.pure
  ·obtain ⟨q1,q2⟩:=pR l1
   rw [dF fun h=>q1 h.2.1]; exact Ev.ct q2 Ev.pure
 ·rw [dF e1] at h1
  rw [dF fun h=>e1 h.1]
  exact Ev.bind h1 (Ev.ct rfl Ev.pure)
def toK (m:eQ):MK:=⟨m.bY,m.fY⟩
theorem I3 (r:sX) (hm:r.ay.length≤1000) (ht:r.av.length≤1000) (hp:r.bL.length≤1000):Ev (fun k=>eo.f k r) ⟨r.kO,r.ay.map toK,r.av,r.bL⟩:=by
 have l2:∀ n x:Nat,r.ay.length-x=n→x≤r.ay.length→El (fun k j=>eo.l2 k r j (x:Int) ((r.ay.take x).map toK)) ((r.ay.length:Int),false,r.ay.map toK):=by
  intro n
  induction n with
  | zero=>
   intro x hd hx
   obtain rfl:x=r.ay.length:=om
   refine El.step (fun _ _=>by rw [eo.l2]) ?_
   rw [dF om,List.take_length]; exact El.pure
  | succ n ih=>
   intro x hd hx
   have hx2:x<r.ay.length:=om
   have i:=ih (x+1) om om
   rw [List.take_succ_eq_append_getElem hx2,List.map_append] at i
   refine El.step (fun _ _=>by rw [eo.l2]) ?_
   rw [jT hx2,jr om]
   refine El.ct (dT om) (El.an ⟨om,om⟩ (El.an ⟨om,om⟩ (El.an ?_ i)))
   rw [List.length_map,List.length_take,List.length_singleton]; omega
 have l1:∀ n x:Nat,r.av.length-x=n→x≤r.av.length→El (fun k j=>eo.l1 k r j (x:Int) (r.av.take x)) ((r.av.length:Int),false,r.av):=by
  intro n
  induction n with
  | zero=>
   intro x hd hx
   obtain rfl:x=r.av.length:=om
   refine El.step (fun _ _=>by rw [eo.l1]) ?_
   rw [dF om,List.take_length]; exact El.pure
  | succ n ih=>
   intro x hd hx
   have hx2:x<r.av.length:=om
   have i:=ih (x+1) om om
   rw [List.take_succ_eq_append_getElem hx2] at i
   refine El.step (fun _ _=>by rw [eo.l1]) ?_
   rw [jT hx2,jr om]
   refine El.ct (dT om) (El.an ⟨om,om⟩ (El.an ?_ i))
   rw [List.length_take,List.length_singleton]; omega
 have l0:∀ n x:Nat,r.bL.length-x=n→x≤r.bL.length→El (fun k j=>eo.l0 k r j (x:Int) (r.bL.take x)) ((r.bL.length:Int),false,r.bL):=by
  intro n
  induction n with
  | zero=>
   intro x hd hx
   obtain rfl:x=r.bL.length:=om
   refine El.step (fun _ _=>by rw [eo.l0]) ?_
   rw [dF om,List.take_length]; exact El.pure
  | succ n ih=>
   intro x hd hx
   have hx2:x<r.bL.length:=om
   have i:=ih (x+1) om om
   rw [List.take_succ_eq_append_getElem hx2] at i
   refine El.step (fun _ _=>by rw [eo.l0]) ?_
   rw [jT hx2,jr om]
   refine El.ct (dT om) (El.an ⟨om,om⟩ (El.an ?_ i))
   rw [List.length_take,List.length_singleton]; omega
 unfold eo.f
 exact Ev.bind (l2 _ 0 rfl om).diag (Ev.bind (l1 _ 0 rfl om).diag (Ev.bind (l0 _ 0 rfl om).diag Ev.pure))
theorem J8 (P:List Event) (c:Event) (C:List Event):Event.K.at (P++c::C) (P.length:Int)=c:=by
 unfold Kd.at; rw [Int.toNat_natCast]; simp [List.getElem?_append_right]
theorem Bj {L:List Event} (hl:L.length≤1000) {t1:(Option jF)×Int} {t2:(Option cH)×Int} {t3:bZ} {t4:cI} {v w C v' w'} (h:pY v w C v' w'):∀ A,L=A++C→
  El (fun k j=>ff.l0 k L t1 t2 t3 t4 j (A.length:Int) v) (.inl ((L.length:Int),false,v'))∧El (fun k j=>gP.l0 k L j (A.length:Int) w.fD) ((L.length:Int),false,w'.fD):=by
 induction h with
 | nil _=>
  intro A e
  rw [List.append_nil] at e
  constructor
  ·refine El.step (fun _ _=>by rw [ff.l0]) ?_
   rw [dF (by rw [e]; omega),e]; exact El.pure
  ·refine El.step (fun _ _=>by rw [gP.l0]) ?_
   rw [dF (by rw [e]; omega),e]; exact El.pure
 | @cons v w c v1 w1 C v' w' _ a b _ ih=>
  intro A e
  have hlt:A.length<L.length:=by rw [e]; simp
  have hat:Event.K.at L (A.length:Int)=c:=by rw [e]; exact J8 _ _ _
  obtain ⟨i1,i2⟩:=ih (A++[c]) (by rw [e]; simp)
  have hw:aw ((A.length:Int)+1)=(((A++[c]).length:Nat):Int):=by rw [aP om om,List.length_append]; rfl
  constructor
  ·refine El.step (fun _ _=>by rw [ff.l0]) ?_
   rw [hat,hw]
   exact El.ct (dT om) (El.an ⟨om,om⟩ (El.bind a.el (El.cf rfl i1)))
  ·refine El.step (fun _ _=>by rw [gP.l0]) ?_
   rw [hat,hw]
   exact El.ct (dT om) (El.an ⟨om,om⟩ (El.bind b.el i2))
def src0 (v:aL) (from_:Int):Src:=⟨v,⟨⟨[]⟩,⟨8,[],0⟩⟩,⟨[],⟨[],[]⟩⟩,⟨[],⟨[],[]⟩⟩,⟨⟨⟨from_⟩,from_+1000⟩,[],[]⟩⟩
def ref0 (wv:bF) (from_:Int):dt:=⟨wv,[],⟨[],[]⟩,⟨[],[]⟩,[],from_⟩
theorem FQ {L v wv} (R:pY ⟨[]⟩ ⟨[]⟩ L v wv) (hl:L.length≤18) {from_:Int} (hf:0≤from_∧from_≤1000):Ev (fun k=>ff.f k L from_) (src0 v from_,ref0 wv from_,true):=by
 have h1:oh.f 8=some (some ⟨⟨[]⟩,⟨8,[],0⟩⟩,0):=rfl
 have hw:aw (from_+1000)=from_+1000:=aP om om
 have h2:mZ.f from_ (from_+1000)=some (some ⟨⟨⟨from_⟩,from_+1000⟩,[],[]⟩,0):=by
  unfold mZ.f n9.f
  rw [dF (by omega:¬ from_+1000<1),dF (by omega:¬ 1099511627776<from_+1000),dF (by omega:¬ from_<0),dF (by omega:¬ from_+1000<from_)]
  rfl
 obtain ⟨s1,s2⟩:=Bj (L:=L) om (t1:=(some ⟨⟨[]⟩,⟨8,[],0⟩⟩,0)) (t2:=(some ⟨⟨⟨from_⟩,from_+1000⟩,[],[]⟩,0)) (t3:=⟨[],⟨[],[]⟩⟩) (t4:=⟨[],⟨[],[]⟩⟩) R [] rfl
 unfold ff.f
 rw [hw]
 refine Ev.bind (Ev.of h1) (Ev.bind (Ev.of h2) (Ev.bind (Ev.of rfl) (Ev.bind (Ev.of Ty.Bw) (Ev.bind (Ev.of Pr.Bw) (Ev.an rfl (Ev.an rfl (Ev.cf rfl (Ev.cf rfl (Ev.bind s1.diag ?_)))))))))
 simp only [fall]
 refine Ev.bind ?_ Ev.pure
 unfold gP.f
 exact Ev.bind s2.diag Ev.pure
theorem JK {L v wv} (R:pY ⟨[]⟩ ⟨[]⟩ L v wv) {from_:Int} (hf:0≤from_∧from_≤1000):Bs v wv ⟨[],⟨[],[]⟩⟩ [] ⟨[],⟨[],[]⟩⟩ [] 0∧St v wv ⟨[],⟨[],[]⟩⟩ [] ⟨[],⟨[],[]⟩⟩ [] (src0 v from_) (ref0 wv from_) []:=
 ⟨⟨R.ok2,Ty.ra,Pr.ra⟩,⟨rfl,rfl,rfl,rfl,rfl,rfl,⟨FM,rfl,Nat.zero_le _⟩,Nat.le_refl _,fun m hm=>(by cases hm),Fi ⟨hf.1,om⟩,rfl⟩⟩
theorem Eh:Ev (fun _=>oi.f) true:=Ev.of kr
section
variable {v:aL} {wv:bF} {t:bZ} {T:List (ak×Bool)} {p:cI} {P:List (ak×Int)} {n:Nat}
 {s:Src} {w:dt} {Z:List Cx} (B:Bs v wv t T p P n) (hn:n≤1000) (H:St v wv t T p P s w Z) (hz:Z.length≤100)
include B hn H hz
end
theorem wZ {M:List MK} {e:ak} {o:Option Pos} (h:tH M) (u:bx→Bool):(qQ M e o).filter (fun m=>u m.fK)=if u (AI e)=true then qQ (M.filter fun m=>u m.fK) e o else M.filter fun m=>u m.fK:=by
 unfold qQ
 by_cases hk:e.aG=1
 ·rw [if_pos hk,if_pos hk]
  cases o with
  | none=>simp [stepO]
  | some q=>exact AS h u
 ·rw [if_neg hk,if_neg hk]; simp
structure Sec (wv:bF) (who:BA) (w y:dt) (Z Z2:List Cx):Prop where
 AJ:(w.fM.filter fun m=>CC wv who m.fK)=y.fM.filter fun m=>CC wv who m.fK
 rr:RR Z=RR Z2
 uu:UU Z=UU Z2
theorem Ae {a2:List ak} (ok:∀ x∈a2,ak.ok x) {v:aL} {wv:bF} (who:BA):∀ d x:Nat,10-x=d→x≤10→x≤a2.length→∀ t T p P s w (Z:List Cx) s2 y Z2,Bs v wv t T p P x→St v wv t T p P s w Z→St v wv t T p P s2 y Z2→Z.length=x→Z2.length≤x→Sec wv who w y Z Z2→w.bQ=0→y.bQ=0→
  ∃ m b t' T' p' P' s' w' Z' s2' y' Z2',El (fun k j=>bP.l0 k a2 who j (x:Int) y w s2.cO s2.ay s2.av s2.aU s2.gH s.cO s.ay s.av s.aU s.gH) (.inl (m,b,y',w',s2'.cO,s2'.ay,s2'.av,s2'.aU,s2'.gH,s'.cO,s'.ay,s'.av,s'.aU,s'.gH))∧Bs v wv t' T' p' P' 10∧St v wv t' T' p' P' s' w' Z'∧St v wv t' T' p' P' s2' y' Z2'∧Z'.length≤10∧Z2'.length≤10∧Sec wv who w' y' Z' Z2'∧w'.bQ=0∧y'.bQ=0:=by
 intro d
 induction d with
 | zero=>
  intro x hd hx hl t T p P s w Z s2 y Z2 B H H2 hz hz2 Q f1 f2
  obtain rfl:x=10:=om
  refine ⟨((10:Nat):Int),false,t,T,p,P,s,w,Z,s2,y,Z2,El.step (fun _ _=>by rw [bP.l0]) ?_,B,H,H2,om,om,Q,f1,f2⟩
  by_cases h:10<a2.length
  ·exact El.ct (dT om) (El.cf rfl El.pure)
  ·exact El.cf (dF om) El.pure
 | succ d ih=>
  intro x hd hx hl t T p P s w Z s2 y Z2 B H H2 hz hz2 Q f1 f2
  by_cases h:x<a2.length
  ·have hat:ak.K.at a2 (x:Int)=a2[x]:=jT h
   obtain ⟨e,e1,e2,_⟩:=Ix (ok a2[x] (List.getElem_mem h))
   obtain ⟨o,t',T',p',P',b1,b2,b3⟩:=G8 B om e2
   obtain ⟨s',w',c1,c2,c3,c4⟩:=b3 s w Z H om
   have hw:=wZ (e:=e) (o:=o) H.AJ.rel.tD (CC wv who)
   have hy:=wZ (e:=e) (o:=o) H2.AJ.rel.tD (CC wv who)
   by_cases hs:e.ao=true∧e.ai≠who
   ·have hk:e.aG=1:=by
     rcases e2.kind with k | k | k
     ·exact k
     ·have:=e2.rf om; rw [hs.1] at this; cases this
     ·have:=e2.rf om; rw [hs.1] at this; cases this
    obtain ⟨rfl,rfl,rfl,rfl⟩:=b2 hk
    have hcx:cx e = .m (AI e):=by unfold cx; rw [if_pos hk]
    have hv:CC wv who (AI e)=false:=by
     unfold CC
     show (_&&(!e.ao||decide (e.ai=who)))=false
     rw [hs.1,dF hs.2]; simp
    rw [hv] at hw
    obtain ⟨m,b,t2,T2,p2,P2,s3,w3,Z3,s4,y4,Z4,d1,d2⟩:=ih (x+1) om om om t' T' p' P' s' w' _ s2 y Z2 b1 c2 H2 (by rw [List.length_append,hz]; rfl) om
     ⟨by rw [c4,hw,← Q.AJ]; simp,by rw [yk,hcx,← Q.rr]; rfl,by rw [yE,hcx,← Q.uu]; rfl⟩ (c3.trans f1) f2
    refine ⟨m,b,t2,T2,p2,P2,s3,w3,Z3,s4,y4,Z4,El.step (fun _ _=>by rw [bP.l0]) ?_,d2⟩
    rw [hat]
    refine El.ct (dT om) (El.ct (dT om) (El.an ⟨om,om⟩ (El.bind e1.el (El.bind c1.el (El.cf rfl (El.ct hs.1 (El.ct (by rw [dF hs.2]; rfl) ?_)))))))
    rw [jr om]
    exact d1
   ·obtain ⟨s2',y',g1,g2,g3,g4⟩:=b3 s2 y Z2 H2 om
    obtain ⟨m,b,t2,T2,p2,P2,s3,w3,Z3,s4,y4,Z4,d1,d2⟩:=ih (x+1) om om om t' T' p' P' s' w' _ s2' y' _ b1 c2 g2 (by rw [List.length_append,hz]; rfl) (by rw [List.length_append,List.length_singleton]; omega)
     ⟨by rw [c4,g4,hw,hy,Q.AJ],by rw [yk,yk,Q.rr],by rw [yE,yE,Q.uu]⟩ (c3.trans f1) (g3.trans f2)
    refine ⟨m,b,t2,T2,p2,P2,s3,w3,Z3,s4,y4,Z4,El.step (fun _ _=>by rw [bP.l0]) ?_,d2⟩
    rw [hat]
    refine El.ct (dT om) (El.ct (dT om) (El.an ⟨om,om⟩ (El.bind e1.el (El.bind c1.el (El.cf rfl ?_)))))
    rw [jr om]
    cases hp:e.ao with
    | true=>
     have hu:e.ai=who:=Decidable.byContradiction fun k=>hs ⟨hp,k⟩
     exact El.ct rfl (El.cf (by rw [dT hu]; rfl) (El.bind g1.el (El.cf rfl d1)))
    | false=>exact El.cf rfl (El.bind g1.el (El.cf rfl d1))
  ·refine ⟨(x:Int),false,t,T,p,P,s,w,Z,s2,y,Z2,El.step (fun _ _=>by rw [bP.l0]) ?_,⟨B.ok,Ty.nB B.ty hx,Pr.nB B.pr hx⟩,H,H2,om,om,Q,f1,f2⟩
   exact El.cf (dF om) El.pure
theorem DZ (Z:List Cx) (c:Cx):A5 Z 0 0 c=decide (c∈Z):=by
 unfold A5
 rw [Bool.eq_iff_iff,decide_eq_true_iff,decide_eq_true_iff]
 exact ⟨fun h=>h.1,fun h=>⟨h,by have:=(C8 c Z).2 h; omega⟩⟩
theorem mm0 {v:aL} {wv:bF} {t:bZ} {T:List (ak×Bool)} {p:cI} {P:List (ak×Int)} {s:Src} {w:dt} {Z:List Cx} (H:St v wv t T p P s w Z) (who:BA):mmT wv who w.fM Z 0 0=w.fM.filter fun m=>CC wv who m.fK:=by
 unfold mmT
 refine List.filter_congr fun m hm=>?_
 rw [DZ,dT (H.mz m hm)]; rfl
theorem tJ (a0:List dw) (a1:List dw) (a2:List ak) (a3:Int) (a4:Int) (k0:(fun xs:List dw=>xs.length≤maxLen∧∀ x∈xs,dw.ok x) a0) (k1:(fun xs:List dw=>xs.length≤maxLen∧∀ x∈xs,dw.ok x) a1) (k2:(fun xs:List ak=>xs.length≤maxLen∧∀ x∈xs,ak.ok x) a2) (k3:(fun n=>(Lit.int .i64 n).wf=true) a3) (k4:(fun n=>(Lit.int .i64 n).wf=true) a4):∃ k,bP.f k a0 a1 a2 a3 a4=some true:=by
 suffices h:Ev (fun k=>bP.f k a0 a1 a2 a3 a4) true from h.ex
 obtain ⟨L,v,wv,m1,m2,R⟩:=Dr k0 k1
 have hst:=FQ R m2 (from_:=0) ⟨om,om⟩
 obtain ⟨B0,H0⟩:=JK R (from_:=0) ⟨om,om⟩
 obtain ⟨who,v1,_⟩:=sI (lE k3)
 obtain ⟨m,b,t,T,p,P,s,w,Z,s2,y,Z2,r1,B,H,H2,hz,hz2,Q,f1,f2⟩:=Ae k2.2 who _ 0 rfl om (Nat.zero_le _) _ _ _ _ _ _ [] _ _ [] B0 H0 H0 rfl (Nat.le_refl _) ⟨rfl,rfl,rfl⟩ rfl rfl
 obtain ⟨at_,i1,_⟩:=fS (m:=200) (lE k4) dc dc
 obtain ⟨U,S,hU,hS⟩:=ops B om at_
 have p1:=zH B hU hS H om who (since:=0) om om
 have q1:=zH B hU hS H2 om who (since:=0) om om
 have et:Gw wv who U Z 0 0=Gw wv who U Z2 0 0:=by
  unfold Gw
  rw [← Q.rr]
  congr 1
  refine List.filter_congr fun r hr=>?_
  rw [DZ,DZ,dT (((uU Z).2.2 r).1 hr),dT (((uU Z2).2.2 r).1 (by rw [← Q.rr]; exact hr))]
 have ep:Gz wv who S Z 0 0=Gz wv who S Z2 0 0:=by
  unfold Gz
  rw [← Q.uu]
  congr 1
  refine List.filter_congr fun r hr=>?_
  rw [DZ,DZ,dT (((uP Z).2.2 r).1 hr),dT (((uP Z2).2.2 r).1 (by rw [← Q.uu]; exact hr))]
 rw [f1,mm0 H who] at p1
 rw [f2,mm0 H2 who,← Q.AJ,← et,← ep] at q1
 have hml:=H.ml
 have l1:(w.fM.filter fun m=>CC wv who m.fK).length≤1000:=Nat.le_trans (List.length_filter_le _ _) om
 have l2:Sm3 (Gw wv who U Z 0 0) (Gz wv who S Z 0 0):=by
  refine ⟨?_,?_,?_⟩
  ·unfold Gw; rw [List.length_map]; have:=(uU Z).2.1; exact Nat.le_trans (List.length_filter_le _ _) om
  ·intro x hx
   obtain ⟨r,_,rfl⟩:=List.mem_map.1 hx
   exact Nat.le_trans (List.length_filter_le _ _) (hU r).1
  ·unfold Gz; rw [List.length_map]; have:=(uP Z).2.1; exact Nat.le_trans (List.length_filter_le _ _) om
 generalize (w.fM.filter fun m=>CC wv who m.fK)=MM at p1 q1 l1
 generalize Gw wv who U Z 0 0=TT at p1 q1 l2
 generalize Gz wv who S Z 0 0=PP at p1 q1 l2
 have l3:(MM.map Gx).length≤1000:=by rw [List.length_map]; exact l1
 have s1:=GP ⟨0+(Z.length:Int),MM.map Gx,TT,PP⟩ ⟨0+(Z2.length:Int),MM.map Gx,TT,PP⟩ l3 l2
 have a1':=I3 ⟨0+(Z.length:Int),MM.map Gx,TT,PP⟩ l3 l2.t l2.p
 have a2':=I3 ⟨0+(Z2.length:Int),MM.map Gx,TT,PP⟩ l3 l2.t l2.p
 have s4:=EA ⟨0+(Z.length:Int),(MM.map Gx).map toK,TT,PP⟩ ⟨0+(Z2.length:Int),(MM.map Gx).map toK,TT,PP⟩ (by rw [List.length_map]; exact l3) l2
 rw [dT ⟨rfl,rfl,rfl⟩] at s1 s4
 unfold bP.f
 refine Ev.bind m1 (Ev.bind hst (Ev.bind hst (Ev.cf rfl (Ev.cf rfl (Ev.bind (Ev.of v1) (Ev.bind r1.diag ?_))))))
 simp only [fall]
 exact Ev.bind (Ev.of i1) (Ev.bind p1 (Ev.bind q1 (Ev.ct rfl (Ev.ct rfl (Ev.bind s1 (Ev.ct rfl (Ev.bind a1' (Ev.bind a2' (Ev.bind s4 (Ev.ct rfl (Ev.bind Eh Ev.pure)))))))))))
end Go.Proofs.YtfknmdelgepbjaaGreatDoor
