import Derived.Test.YtfknmdelgepbjaaGreatDoorZYJ
set_option linter.all false
set_option maxRecDepth 10000
namespace Go.Proofs.YtfknmdelgepbjaaGreatDoor
open Go Go.Sp
theorem j9 {α:Type} {K:Kd α} {l:List α} {m:Nat} (h:m<l.length):K.at l (m:Int)=l[m]:=by
 unfold Kd.at; rw [Int.toNat_natCast]; simp [h]
theorem oe {α:Type} [DecidableEq α] {a b:List α} {F:Nat→Nat→Int→Option ((Int×Bool) ⊕ Bool)} (hl:a.length=b.length)
  (h1:∀ x (ha:x<a.length) (hb:x<b.length),a[x]=b[x]→∀ r,El (fun k j=>F k j ((x+1:Nat):Int)) r→El (fun k j=>F k j (x:Int)) r)
  (h2:∀ x (ha:x<a.length) (hb:x<b.length),a[x]≠b[x]→El (fun k j=>F k j (x:Int)) (.inr false))
  (h3:El (fun k j=>F k j (a.length:Int)) (.inl ((a.length:Int),false))):El (fun k j=>F k j 0) (if a=b then .inl ((a.length:Int),false) else .inr false):=by
 have:∀ n x:Nat,a.length-x=n→x≤a.length→El (fun k j=>F k j (x:Int)) (if a.drop x=b.drop x then .inl ((a.length:Int),false) else .inr false):=by
  intro n
  induction n with
  | zero=>
   intro x hd hx
   obtain rfl:x=a.length:=om
   rw [if_pos (by rw [List.drop_length,hl,List.drop_length])]; exact h3
  | succ n ih=>
   intro x hd hx
   have ha:x<a.length:=om
   have hb:x<b.length:=om
   have i:=ih (x+1) om om
   rw [List.drop_eq_getElem_cons ha,List.drop_eq_getElem_cons hb]
   by_cases e:a[x]=b[x]
   ·refine h1 x ha hb e _ ?_
    rw [e]
    by_cases k:a.drop (x+1)=b.drop (x+1)
    ·rw [if_pos k] at i; rw [if_pos (by rw [k])]; exact i
    ·rw [if_neg k] at i; rw [if_neg (fun h=>k (List.cons.inj h).2)]; exact i
   ·rw [if_neg (fun h=>e (List.cons.inj h).1)]; exact h2 x ha hb e
 exact this _ 0 rfl om
theorem py {p:Prop} [Decidable p] {n:Int} {F:Nat→Option ((Int×Bool) ⊕ Bool)} (h:Ev F (if p then .inl (n,false) else .inr false)):Ev (fun k=>(F k).bind (fall fun _=>some true)) (decide p):=by
 by_cases e:p
 ·rw [if_pos e] at h; rw [dT e]; exact Ev.bind h (by simp only [fall]; exact Ev.pure)
 ·rw [if_neg e] at h; rw [dF e]; exact Ev.bind h (by simp only [fall]; exact Ev.pure)
theorem qt {α:Type} {a b:List α} (h:¬ a.length=b.length):a≠b∧((a.length:Int) != (b.length:Int))=true:=⟨fun e=>h (by rw [e]),by simpa using fun e=>h om⟩
theorem p7 {α:Type} {a b:List α} (h:a.length=b.length):((a.length:Int) != (b.length:Int))=false:=by rw [h]; simp
theorem Ah (a b:List BA) (ha:a.length≤1000):Ev (fun k=>cZ.f k a b) (decide (a=b)):=by
 unfold cZ.f
 by_cases hl:a.length=b.length
 ·refine Ev.cf (p7 hl) (py (oe (F:=fun k j x=>cZ.l0 k a b j x) hl (fun x xa xb e r hr=>?_) (fun x xa xb e=>?_) ?_).diag)
  ·refine El.step (fun _ _=>by rw [cZ.l0]) ?_
   refine El.ct (dT om) (El.an ⟨om,om⟩ (El.an ⟨om,om⟩ (El.cf (by rw [j9 xa,j9 xb,dT e]; rfl) ?_)))
   rwa [im om]
  ·refine El.step (fun _ _=>by rw [cZ.l0]) ?_
   exact El.ct (dT om) (El.an ⟨om,om⟩ (El.an ⟨om,om⟩ (El.ct (by rw [j9 xa,j9 xb,dF e]; rfl) El.pure)))
  ·refine El.step (fun _ _=>by rw [cZ.l0]) ?_
   rw [dF om]; exact El.pure
 ·obtain ⟨l1,l2⟩:=qt hl
  rw [dF l1]; exact Ev.ct l2 Ev.pure
theorem Fp (a b:List BA) (ha:a.length≤1000):Ev (fun k=>bx.f k a b) (decide (a=b)):=by
 unfold bx.f
 by_cases hl:a.length=b.length
 ·refine Ev.cf (p7 hl) (py (oe (F:=fun k j x=>bx.l0 k a b j x) hl (fun x xa xb e r hr=>?_) (fun x xa xb e=>?_) ?_).diag)
  ·refine El.step (fun _ _=>by rw [bx.l0]) ?_
   refine El.ct (dT om) (El.an ⟨om,om⟩ (El.an ⟨om,om⟩ (El.cf (by rw [j9 xa,j9 xb,dT e]; rfl) ?_)))
   rwa [im om]
  ·refine El.step (fun _ _=>by rw [bx.l0]) ?_
   exact El.ct (dT om) (El.an ⟨om,om⟩ (El.an ⟨om,om⟩ (El.ct (by rw [j9 xa,j9 xb,dF e]; rfl) El.pure)))
  ·refine El.step (fun _ _=>by rw [bx.l0]) ?_
   rw [dF om]; exact El.pure
 ·obtain ⟨l1,l2⟩:=qt hl
  rw [dF l1]; exact Ev.ct l2 Ev.pure
theorem IW (a b:List MK) (ha:a.length≤1000):Ev (fun k=>gZ.f k a b) (decide (a=b)):=by
 unfold gZ.f
 by_cases hl:a.length=b.length
 ·refine Ev.cf (p7 hl) (py (oe (F:=fun k j x=>gZ.l0 k a b j x) hl (fun x xa xb e r hr=>?_) (fun x xa xb e=>?_) ?_).diag)
  ·refine El.step (fun _ _=>by rw [gZ.l0]) ?_
   refine El.ct (dT om) (El.an ⟨om,om⟩ (El.an ⟨om,om⟩ (El.cf (by rw [j9 xa,j9 xb]; show (!decide (a[x]=b[x]))=_; rw [dT e]; rfl) ?_)))
   rwa [im om]
  ·refine El.step (fun _ _=>by rw [gZ.l0]) ?_
   exact El.ct (dT om) (El.an ⟨om,om⟩ (El.an ⟨om,om⟩ (El.ct (by rw [j9 xa,j9 xb]; show (!decide (a[x]=b[x]))=_; rw [dF e]; rfl) El.pure)))
  ·refine El.step (fun _ _=>by rw [gZ.l0]) ?_
   rw [dF om]; exact El.pure
 ·obtain ⟨l1,l2⟩:=qt hl
  rw [dF l1]; exact Ev.ct l2 Ev.pure
theorem Em (a b:List eV) (ha:a.length≤1000):Ev (fun k=>bM.f k a b) (decide (a=b)):=by
 unfold bM.f
 by_cases hl:a.length=b.length
 ·refine Ev.cf (p7 hl) (py (oe (F:=fun k j x=>bM.l0 k a b j x) hl (fun x xa xb e r hr=>?_) (fun x xa xb e=>?_) ?_).diag)
  ·refine El.step (fun _ _=>by rw [bM.l0]) ?_
   refine El.ct (dT om) (El.an ⟨om,om⟩ (El.an ⟨om,om⟩ (El.cf (by rw [j9 xa,j9 xb]; show (!decide (a[x]=b[x]))=_; rw [dT e]; rfl) ?_)))
   rwa [im om]
  ·refine El.step (fun _ _=>by rw [bM.l0]) ?_
   exact El.ct (dT om) (El.an ⟨om,om⟩ (El.an ⟨om,om⟩ (El.ct (by rw [j9 xa,j9 xb]; show (!decide (a[x]=b[x]))=_; rw [dF e]; rfl) El.pure)))
  ·refine El.step (fun _ _=>by rw [bM.l0]) ?_
   rw [dF om]; exact El.pure
 ·obtain ⟨l1,l2⟩:=qt hl
  rw [dF l1]; exact Ev.ct l2 Ev.pure
theorem FG (a b:List eS) (ha:a.length≤1000):Ev (fun k=>bA.f k a b) (decide (a=b)):=by
 unfold bA.f
 by_cases hl:a.length=b.length
 ·refine Ev.cf (p7 hl) (py (oe (F:=fun k j x=>bA.l0 k a b j x) hl (fun x xa xb e r hr=>?_) (fun x xa xb e=>?_) ?_).diag)
  ·refine El.step (fun _ _=>by rw [bA.l0]) ?_
   refine El.ct (dT om) (El.an ⟨om,om⟩ (El.an ⟨om,om⟩ (El.cf (by rw [j9 xa,j9 xb,dT e]; rfl) ?_)))
   rwa [im om]
  ·refine El.step (fun _ _=>by rw [bA.l0]) ?_
   exact El.ct (dT om) (El.an ⟨om,om⟩ (El.an ⟨om,om⟩ (El.ct (by rw [j9 xa,j9 xb,dF e]; rfl) El.pure)))
  ·refine El.step (fun _ _=>by rw [bA.l0]) ?_
   rw [dF om]; exact El.pure
 ·obtain ⟨l1,l2⟩:=qt hl
  rw [dF l1]; exact Ev.ct l2 Ev.pure
theorem zU (a b:eC) (ha:a.ly.length≤1000):Ev (fun k=>jo.f k a b) (decide (a=b)):=by
 unfold jo.f
 obtain ⟨r,us⟩:=a
 obtain ⟨r',us'⟩:=b
 by_cases h1:r=r'
 ·have h:=Fp us us' ha
  rw [show decide ((⟨r,us⟩:eC)=⟨r',us'⟩)=decide (us=us') by simp [h1]]
  exact Ev.ct (dT h1) (Ev.bind h Ev.pure)
 ·rw [show decide ((⟨r,us⟩:eC)=⟨r',us'⟩)=false by simp [h1]]
  exact Ev.cf (dF h1) Ev.pure
theorem Fq (a b:List eC) (ha:a.length≤1000) (hu:∀ x∈a,x.ly.length≤1000):Ev (fun k=>aD.f k a b (jo.f k)) (decide (a=b)):=by
 unfold aD.f
 by_cases hl:a.length=b.length
 ·refine Ev.cf (p7 hl) (py (oe (F:=fun k j x=>aD.l0 k a b (jo.f k) j x) hl (fun x xa xb e r hr=>?_) (fun x xa xb e=>?_) ?_).diag)
  ·have h:=zU a[x] b[x] (hu _ (List.getElem_mem xa))
   rw [dT e] at h
   refine El.step (fun _ _=>by rw [aD.l0]) ?_
   rw [j9 xa,j9 xb]
   refine El.ct (dT om) (El.an ⟨om,om⟩ (El.an ⟨om,om⟩ (El.bind h.el (El.cf rfl ?_))))
   rwa [im om]
  ·have h:=zU a[x] b[x] (hu _ (List.getElem_mem xa))
   rw [dF e] at h
   refine El.step (fun _ _=>by rw [aD.l0]) ?_
   rw [j9 xa,j9 xb]
   exact El.ct (dT om) (El.an ⟨om,om⟩ (El.an ⟨om,om⟩ (El.bind h.el (El.ct rfl El.pure))))
  ·refine El.step (fun _ _=>by rw [aD.l0]) ?_
   rw [dF om]; exact El.pure
 ·obtain ⟨l1,l2⟩:=qt hl
  rw [dF l1]; exact Ev.ct l2 Ev.pure
structure Sm3 (T:List eC) (P:List eS):Prop where
 t:T.length≤1000
 u:∀ x∈T,x.ly.length≤1000
 p:P.length≤1000
theorem xz (a b:tC) (hm:a.aB.length≤1000) (h:Sm3 a.aw a.bK):Ev (fun k=>de.f k a b) (decide (a.aB=b.aB∧a.aw=b.aw∧a.bK=b.bK)):=by
 unfold de.f
 have h1:=Em a.aB b.aB hm
 have h2:=Fq a.aw b.aw h.t h.u
 have h3:=FG a.bK b.bK h.p
 by_cases e1:a.aB=b.aB
 ·rw [dT e1] at h1
  by_cases e2:a.aw=b.aw
  ·rw [dT e2] at h2
   rw [show decide (a.aB=b.aB∧a.aw=b.aw∧a.bK=b.bK)=decide (a.bK=b.bK) by simp [e1,e2]]
   exact Ev.bind h1 (Ev.ct rfl (Ev.bind h2 (Ev.ct rfl (Ev.bind h3 Ev.pure))))
  ·rw [dF e2] at h2
   rw [dF fun h=>e2 h.2.1]
   exact Ev.bind h1 (Ev.ct rfl (Ev.bind h2 (Ev.cf rfl Ev.pure)))
 ·rw [dF e1] at h1
  rw [dF fun h=>e1 h.1]
  exact Ev.bind h1 (Ev.cf rfl Ev.pure)
theorem GM (a b:nG) (hm:a.aB.length≤1000) (h:Sm3 a.aw a.bK):Ev (fun k=>dq.f k a b) (decide (a.aB=b.aB∧a.aw=b.aw∧a.bK=b.bK)):=by
 have ht:=h.t
 have hp:=h.p
 unfold dq.f
 have h1:=IW a.aB b.aB hm
 by_cases e1:a.aB=b.aB
 ·rw [dT e1] at h1
  refine Ev.bind h1 (Ev.cf rfl ?_)
  by_cases l1:a.aw.length=b.aw.length
  ·refine Ev.cf (p7 l1) ?_
   by_cases l2:a.bK.length=b.bK.length
   ·refine Ev.cf (p7 l2) ?_
    have t1:=(oe (F:=fun k j x=>dq.l1 k a b j x) l1 (fun x xa xb e r hr=>by
      have g:=Ah (a.aw[x]).ly (b.aw[x]).ly (h.u _ (List.getElem_mem xa))
      rw [dT (by rw [e])] at g
      refine El.step (fun _ _=>by rw [dq.l1]) ?_
      rw [j9 xa,j9 xb]
      refine El.ct (dT om) (El.an ⟨om,om⟩ (El.an ⟨om,om⟩ (El.bind g.el (El.cf rfl (El.an ⟨om,om⟩ (El.an ⟨om,om⟩ (El.cf (by rw [e]; simp) ?_)))))))
      rwa [im om]) (fun x xa xb e=>by
      have g:=Ah (a.aw[x]).ly (b.aw[x]).ly (h.u _ (List.getElem_mem xa))
      refine El.step (fun _ _=>by rw [dq.l1]) ?_
      rw [j9 xa,j9 xb]
      refine El.ct (dT om) (El.an ⟨om,om⟩ (El.an ⟨om,om⟩ (El.bind g.el ?_)))
      by_cases eu:(a.aw[x]).ly=(b.aw[x]).ly
      ·have er:(a.aw[x]).aa≠(b.aw[x]).aa:=fun er=>e (by
        cases ha:a.aw[x]; cases hb:b.aw[x]; rw [ha,hb] at eu er; simp_all)
       exact El.cf (by rw [dT eu]; rfl) (El.an ⟨om,om⟩ (El.an ⟨om,om⟩ (El.ct (by rw [dF er]; rfl) El.pure)))
      ·exact El.ct (by rw [dF eu]; rfl) El.pure) (by
      refine El.step (fun _ _=>by rw [dq.l1]) ?_
      rw [dF om]; exact El.pure)).diag
    have t0:=py (oe (F:=fun k j x=>dq.l0 k a b j x) l2 (fun x xa xb e r hr=>by
      refine El.step (fun _ _=>by rw [dq.l0]) ?_
      refine El.ct (dT om) (El.an ⟨om,om⟩ (El.an ⟨om,om⟩ (El.cf (by rw [j9 xa,j9 xb,dT e]; rfl) ?_)))
      rwa [im om]) (fun x xa xb e=>by
      refine El.step (fun _ _=>by rw [dq.l0]) ?_
      exact El.ct (dT om) (El.an ⟨om,om⟩ (El.an ⟨om,om⟩ (El.ct (by rw [j9 xa,j9 xb,dF e]; rfl) El.pure)))) (by
      refine El.step (fun _ _=>by rw [dq.l0]) ?_
      rw [dF om]; exact El.pure)).diag
    by_cases e2:a.aw=b.aw
    ·rw [if_pos e2] at t1
     rw [show decide (a.aB=b.aB∧a.aw=b.aw∧a.bK=b.bK)=decide (a.bK=b.bK) by simp [e1,e2]]
     refine Ev.bind t1 ?_
     exact t0
    ·rw [if_neg e2] at t1
     rw [dF fun h=>e2 h.2.1]
     exact Ev.bind t1 (by simp only [fall]; exact Ev.pure)
   ·obtain ⟨q1,q2⟩:=qt l2
    rw [dF fun h=>q1 h.2.2]; exact Ev.ct q2 Ev.pure
  ·obtain ⟨q1,q2⟩:=qt l1
   rw [dF fun h=>q1 h.2.1]; exact Ev.ct q2 Ev.pure
 ·rw [dF e1] at h1
  rw [dF fun h=>e1 h.1]
  exact Ev.bind h1 (Ev.ct rfl Ev.pure)
def LG (m:eV):MK:=⟨m.bY,m.gF⟩
theorem Jv (r:tC) (hm:r.aB.length≤1000) (ht:r.aw.length≤1000) (hp:r.bK.length≤1000):Ev (fun k=>dH.f k r) ⟨r.lp,r.aB.map LG,r.aw,r.bK⟩:=by
 have l2:∀ n x:Nat,r.aB.length-x=n→x≤r.aB.length→El (fun k j=>dH.l2 k r j (x:Int) ((r.aB.take x).map LG)) ((r.aB.length:Int),false,r.aB.map LG):=by
  intro n
  induction n with
  | zero=>
   intro x hd hx
   obtain rfl:x=r.aB.length:=om
   refine El.step (fun _ _=>by rw [dH.l2]) ?_
   rw [dF om,List.take_length]; exact El.pure
  | succ n ih=>
   intro x hd hx
   have hx2:x<r.aB.length:=om
   have i:=ih (x+1) om om
   rw [List.take_succ_eq_append_getElem hx2,List.map_append] at i
   refine El.step (fun _ _=>by rw [dH.l2]) ?_
   rw [j9 hx2,im om]
   refine El.ct (dT om) (El.an ⟨om,om⟩ (El.an ⟨om,om⟩ (El.an ?_ i)))
   rw [List.length_map,List.length_take,List.length_singleton]; omega
 have l1:∀ n x:Nat,r.aw.length-x=n→x≤r.aw.length→El (fun k j=>dH.l1 k r j (x:Int) (r.aw.take x)) ((r.aw.length:Int),false,r.aw):=by
  intro n
  induction n with
  | zero=>
   intro x hd hx
   obtain rfl:x=r.aw.length:=om
   refine El.step (fun _ _=>by rw [dH.l1]) ?_
   rw [dF om,List.take_length]; exact El.pure
  | succ n ih=>
   intro x hd hx
   have hx2:x<r.aw.length:=om
   have i:=ih (x+1) om om
   rw [List.take_succ_eq_append_getElem hx2] at i
   refine El.step (fun _ _=>by rw [dH.l1]) ?_
   rw [j9 hx2,im om]
   refine El.ct (dT om) (El.an ⟨om,om⟩ (El.an ?_ i))
   rw [List.length_take,List.length_singleton]; omega
 have l0:∀ n x:Nat,r.bK.length-x=n→x≤r.bK.length→El (fun k j=>dH.l0 k r j (x:Int) (r.bK.take x)) ((r.bK.length:Int),false,r.bK):=by
  intro n
  induction n with
  | zero=>
   intro x hd hx
   obtain rfl:x=r.bK.length:=om
   refine El.step (fun _ _=>by rw [dH.l0]) ?_
   rw [dF om,List.take_length]; exact El.pure
  | succ n ih=>
   intro x hd hx
   have hx2:x<r.bK.length:=om
   have i:=ih (x+1) om om
   rw [List.take_succ_eq_append_getElem hx2] at i
   refine El.step (fun _ _=>by rw [dH.l0]) ?_
   rw [j9 hx2,im om]
   refine El.ct (dT om) (El.an ⟨om,om⟩ (El.an ?_ i))
   rw [List.length_take,List.length_singleton]; omega
 unfold dH.f
 exact Ev.bind (l2 _ 0 rfl om).diag (Ev.bind (l1 _ 0 rfl om).diag (Ev.bind (l0 _ 0 rfl om).diag Ev.pure))
theorem KK (P:List Event) (c:Event) (C:List Event):Event.K.at (P++c::C) (P.length:Int)=c:=by
 unfold Kd.at; rw [Int.toNat_natCast]; simp [List.getElem?_append_right]
theorem BV {L:List Event} (hl:L.length≤1000) {t1:(Option kb)×Int} {t2:(Option cI)×Int} {t3:cC} {t4:cJ} {v w C v' w'} (h:pR v w C v' w'):∀ A,L=A++C→
  El (fun k j=>gB.l0 k L t1 t2 t3 t4 j (A.length:Int) v) (.inl ((L.length:Int),false,v'))∧El (fun k j=>gY.l0 k L j (A.length:Int) w.fD) ((L.length:Int),false,w'.fD):=by
 induction h with
 | nil _=>
  intro A e
  rw [List.append_nil] at e
  constructor
  ·refine El.step (fun _ _=>by rw [gB.l0]) ?_
   rw [dF (by rw [e]; omega),e]; exact El.pure
  ·refine El.step (fun _ _=>by rw [gY.l0]) ?_
   rw [dF (by rw [e]; omega),e]; exact El.pure
 | @cons v w c v1 w1 C v' w' _ a b _ ih=>
  intro A e
  have hlt:A.length<L.length:=by rw [e]; simp
  have hat:Event.K.at L (A.length:Int)=c:=by rw [e]; exact KK _ _ _
  obtain ⟨i1,i2⟩:=ih (A++[c]) (by rw [e]; simp)
  have hw:av ((A.length:Int)+1)=(((A++[c]).length:Nat):Int):=by rw [aI om om,List.length_append]; rfl
  constructor
  ·refine El.step (fun _ _=>by rw [gB.l0]) ?_
   rw [hat,hw]
   exact El.ct (dT om) (El.an ⟨om,om⟩ (El.bind a.el (El.cf rfl i1)))
  ·refine El.step (fun _ _=>by rw [gY.l0]) ?_
   rw [hat,hw]
   exact El.ct (dT om) (El.an ⟨om,om⟩ (El.bind b.el i2))
def src0 (v:aO) (from_:Int):Src:=⟨v,⟨⟨[]⟩,⟨8,[],0⟩⟩,⟨[],⟨[],[]⟩⟩,⟨[],⟨[],[]⟩⟩,⟨⟨⟨from_⟩,from_+1000⟩,[],[]⟩⟩
def ref0 (wv:bF) (from_:Int):dQ:=⟨wv,[],⟨[],[]⟩,⟨[],[]⟩,[],from_⟩
theorem Fs {L v wv} (R:pR ⟨[]⟩ ⟨[]⟩ L v wv) (hl:L.length≤18) {from_:Int} (hf:0≤from_∧from_≤1000):Ev (fun k=>gB.f k L from_) (src0 v from_,ref0 wv from_,true):=by
 have h1:oI.f 8=some (some ⟨⟨[]⟩,⟨8,[],0⟩⟩,0):=rfl
 have hw:av (from_+1000)=from_+1000:=aI om om
 have h2:nD.f from_ (from_+1000)=some (some ⟨⟨⟨from_⟩,from_+1000⟩,[],[]⟩,0):=by
  unfold nD.f oE.f
  rw [dF (by omega:¬ from_+1000<1),dF (by omega:¬ 1099511627776<from_+1000),dF (by omega:¬ from_<0),dF (by omega:¬ from_+1000<from_)]
  rfl
 obtain ⟨s1,s2⟩:=BV (L:=L) om (t1:=(some ⟨⟨[]⟩,⟨8,[],0⟩⟩,0)) (t2:=(some ⟨⟨⟨from_⟩,from_+1000⟩,[],[]⟩,0)) (t3:=⟨[],⟨[],[]⟩⟩) (t4:=⟨[],⟨[],[]⟩⟩) R [] rfl
 unfold gB.f
 rw [hw]
 refine Ev.bind (Ev.of h1) (Ev.bind (Ev.of h2) (Ev.bind (Ev.of rfl) (Ev.bind (Ev.of Ty.B2) (Ev.bind (Ev.of Pr.B2) (Ev.an rfl (Ev.an rfl (Ev.cf rfl (Ev.cf rfl (Ev.bind s1.diag ?_)))))))))
 simp only [fall]
 refine Ev.bind ?_ Ev.pure
 unfold gY.f
 exact Ev.bind s2.diag Ev.pure
theorem Ll {L v wv} (R:pR ⟨[]⟩ ⟨[]⟩ L v wv) {from_:Int} (hf:0≤from_∧from_≤1000):Bs v wv ⟨[],⟨[],[]⟩⟩ [] ⟨[],⟨[],[]⟩⟩ [] 0∧St v wv ⟨[],⟨[],[]⟩⟩ [] ⟨[],⟨[],[]⟩⟩ [] (src0 v from_) (ref0 wv from_) []:=
 ⟨⟨R.ok2,Ty.rN,Pr.rN⟩,⟨rfl,rfl,rfl,rfl,rfl,rfl,⟨Gs,rfl,Nat.zero_le _⟩,Nat.le_refl _,fun m hm=>(by cases hm),Gi ⟨hf.1,om⟩,rfl⟩⟩
theorem EF:Ev (fun _=>lA.f) true:=Ev.of kr
theorem ub (M:List MK):(M.map vT).map LG=M:=by rw [List.map_map]; exact List.map_id'' (fun _=>rfl) M
section
variable {v:aO} {wv:bF} {t:cC} {T:List (ak×Bool)} {p:cJ} {P:List (ak×Int)} {n:Nat}
 {s:Src} {w:dQ} {Z:List Cx} (B:Bs v wv t T p P n) (hn:n≤1000) (H:St v wv t T p P s w Z) (hz:Z.length≤100)
include B hn H hz
theorem CF (at_:Int):∃ (U:BA→List BA) (S:BA→Int),(∀ r,Ev (fun k=>lv.f k s r at_) (Er wv U r)∧Ev (fun k=>je.f k w r at_) (Er wv U r)∧(Er wv U r).length≤1000)∧
  ∀ (who:BA) (since:Int),0≤since→since≤w.aV+(Z.length:Int)→
   Ev (fun k=>sync_Make.f k s who since at_) (⟨w.aV+(Z.length:Int),(Bg wv who w.fM Z w.aV since).map vT,En wv who U Z w.aV since,Es wv who S Z w.aV since⟩,0)∧
   Ev (fun k=>bR.f k w who since at_) (⟨w.aV+(Z.length:Int),Bg wv who w.fM Z w.aV since,En wv who U Z w.aV since,Es wv who S Z w.aV since⟩,0)∧
   (Bg wv who w.fM Z w.aV since).length≤1000∧Sm3 (En wv who U Z w.aV since) (Es wv who S Z w.aV since):=by
 obtain ⟨U,S,hU,hS⟩:=ops B hn at_
 have ul:∀ r,(Er wv U r).length≤1000:=fun r=>Nat.le_trans (List.length_filter_le _ _) (hU r).1
 refine ⟨U,S,fun r=>⟨ES B hU H r,wD B hU H hz r,ul r⟩,fun who since h0 h1=>⟨GP B hU hS H hz who h0 h1,Gw B hU hS H hz who h0 h1,?_,?_,?_,?_⟩⟩
 ·have:=H.ml; exact Nat.le_trans (List.length_filter_le _ _) om
 ·unfold En; rw [List.length_map]; have:=(sA Z).2.1; exact Nat.le_trans (List.length_filter_le _ _) om
 ·intro x hx
  obtain ⟨r,_,rfl⟩:=List.mem_map.1 hx
  exact ul r
 ·unfold Es; rw [List.length_map]; have:=(sO Z).2.1; exact Nat.le_trans (List.length_filter_le _ _) om
end
theorem IB {a2:List ak} (ok:∀ x∈a2,ak.ok x) {v:aO} {wv:bF}:∀ d x:Nat,8-x=d→x≤8→x≤a2.length→∀ t T p P s w (Z:List Cx),Bs v wv t T p P x→St v wv t T p P s w Z→Z.length=x→
  ∃ m b t' T' p' P' s' w' Z',El (fun k j=>dC.l0 k a2 j (x:Int) w s.dx s.aB s.aw s.bq s.jE) (.inl (m,b,w',s'.dx,s'.aB,s'.aw,s'.bq,s'.jE))∧Bs v wv t' T' p' P' 8∧St v wv t' T' p' P' s' w' Z'∧Z'.length≤8∧w'.aV=w.aV:=by
 intro d
 induction d with
 | zero=>
  intro x hd hx hl t T p P s w Z B H hz
  obtain rfl:x=8:=om
  refine ⟨((8:Nat):Int),false,t,T,p,P,s,w,Z,El.step (fun _ _=>by rw [dC.l0]) ?_,B,H,om,rfl⟩
  by_cases h:8<a2.length
  ·exact El.ct (dT om) (El.cf rfl El.pure)
  ·exact El.cf (dF om) El.pure
 | succ d ih=>
  intro x hd hx hl t T p P s w Z B H hz
  by_cases h:x<a2.length
  ·have hat:ak.K.at a2 (x:Int)=a2[x]:=j9 h
   obtain ⟨e,e1,e2,_⟩:=I1 (ok a2[x] (List.getElem_mem h))
   obtain ⟨o,t',T',p',P',b1,_,b3⟩:=IK B om e2
   obtain ⟨s',w',c1,c2,c3,_⟩:=b3 s w Z H om
   obtain ⟨m,b,t2,T2,p2,P2,s2,w2,Z2,d1,d2,d3,d4,d5⟩:=ih (x+1) om om om t' T' p' P' s' w' _ b1 c2 (by rw [List.length_append,hz]; rfl)
   refine ⟨m,b,t2,T2,p2,P2,s2,w2,Z2,El.step (fun _ _=>by rw [dC.l0]) ?_,d2,d3,d4,d5.trans c3⟩
   rw [hat]
   refine El.ct (dT om) (El.ct (dT om) (El.an ⟨om,om⟩ (El.bind e1.el (El.bind c1.el (El.cf rfl ?_)))))
   rw [im om]
   exact d1
  ·refine ⟨(x:Int),false,t,T,p,P,s,w,Z,El.step (fun _ _=>by rw [dC.l0]) ?_,⟨B.ok,Ty.nF B.ty hx,Pr.nF B.pr hx⟩,H,om,rfl⟩
   exact El.cf (dF om) El.pure
theorem wk (a0:List dt) (a1:List dt) (a2:List ak) (a3:Int) (a4:Int) (a5:Int) (k0:(fun xs:List dt=>xs.length≤maxLen∧∀ x∈xs,dt.ok x) a0) (k1:(fun xs:List dt=>xs.length≤maxLen∧∀ x∈xs,dt.ok x) a1) (k2:(fun xs:List ak=>xs.length≤maxLen∧∀ x∈xs,ak.ok x) a2) (k3:(fun n=>(Lit.int .i64 n).wf=true) a3) (k4:(fun n=>(Lit.int .i64 n).wf=true) a4) (k5:(fun n=>(Lit.int .i64 n).wf=true) a5):∃ k,dC.f k a0 a1 a2 a3 a4 a5=some true:=by
 suffices h:Ev (fun k=>dC.f k a0 a1 a2 a3 a4 a5) true from h.ex
 obtain ⟨L,v,wv,m1,m2,R⟩:=DQ k0 k1
 have hst:=Fs R m2 (from_:=0) ⟨om,om⟩
 obtain ⟨B0,H0⟩:=Ll R (from_:=0) ⟨om,om⟩
 obtain ⟨m,b,t,T,p,P,s,w,Z,r1,B,H,hz,hfr⟩:=IB k2.2 _ 0 rfl om (Nat.zero_le _) _ _ _ _ _ _ [] B0 H0 rfl
 have hfr':w.aV=0:=hfr
 have hlen:w.fL.length=Z.length:=by rw [H.ch,List.length_map]
 obtain ⟨u1,v1,_⟩:=qK (jY k3)
 obtain ⟨u2,v2,_⟩:=qK (jY k4)
 have w1:av ((w.fL.length:Int)+1)=(Z.length:Int)+1:=by rw [hlen,aI om om]
 obtain ⟨n1,x1,x2,x3⟩:=eM (m:=(Z.length:Int)+1) (jY k4) om om
 obtain ⟨n2,y1,y2,y3⟩:=eM (m:=(Z.length:Int)+1) (jY k3) om om
 obtain ⟨i1,c1,_⟩:=eM (m:=200) (jY k5) dc dc
 obtain ⟨i2,c2,_⟩:=eM (m:=100) (jY k5) dc dc
 obtain ⟨U1,S1,_,d1⟩:=CF B om H om i1
 obtain ⟨U2,S2,_,d2⟩:=CF B om H om i2
 obtain ⟨p1,_,p3,p4⟩:=d1 u1 n1 x2 om
 obtain ⟨q1,_,q3,q4⟩:=d2 u2 n2 y2 om
 generalize Bg wv u1 w.fM Z w.aV n1=M1 at p1 p3
 generalize Bg wv u2 w.fM Z w.aV n2=M2 at q1 q3
 generalize En wv u1 U1 Z w.aV n1=T1 at p1 p4
 generalize En wv u2 U2 Z w.aV n2=T2 at q1 q4
 generalize Es wv u1 S1 Z w.aV n1=P1 at p1 p4
 generalize Es wv u2 S2 Z w.aV n2=P2 at q1 q4
 have l1:(M1.map vT).length≤1000:=by rw [List.length_map]; exact p3
 have l2:(M2.map vT).length≤1000:=by rw [List.length_map]; exact q3
 have s1:=xz ⟨w.aV+(Z.length:Int),M1.map vT,T1,P1⟩ ⟨w.aV+(Z.length:Int),M2.map vT,T2,P2⟩ l1 p4
 have s2:=xz ⟨w.aV+(Z.length:Int),M1.map vT,T1,P1⟩ ⟨w.aV+(Z.length:Int),M1.map vT,T1,P1⟩ l1 p4
 have s3:=xz ⟨w.aV+(Z.length:Int),M2.map vT,T2,P2⟩ ⟨w.aV+(Z.length:Int),M1.map vT,T1,P1⟩ l2 q4
 have a1':=Jv ⟨w.aV+(Z.length:Int),M1.map vT,T1,P1⟩ l1 p4.t p4.p
 have a2':=Jv ⟨w.aV+(Z.length:Int),M2.map vT,T2,P2⟩ l2 q4.t q4.p
 have s4:=GM ⟨w.aV+(Z.length:Int),(M1.map vT).map LG,T1,P1⟩ ⟨w.aV+(Z.length:Int),(M2.map vT).map LG,T2,P2⟩ (by rw [List.length_map]; exact l1) p4
 rw [ub] at a1' a2' s4
 rw [ub] at s4
 dsimp only at s1 s2 s3 s4
 have inj:M1.map vT=M2.map vT↔M1=M2:=⟨fun h=>by rw [← ub M1,h,ub],fun h=>by rw [h]⟩
 have e4:decide (M1.map vT=M2.map vT∧T1=T2∧P1=P2)=decide (M1=M2∧T1=T2∧P1=P2):=by simp only [inj]
 rw [e4] at s1
 rw [dT ⟨rfl,rfl,rfl⟩] at s2
 have e3:decide (M2.map vT=M1.map vT∧T2=T1∧P2=P1)=decide (M1=M2∧T1=T2∧P1=P2):=by
  rw [← e4,Bool.eq_iff_iff,decide_eq_true_iff,decide_eq_true_iff]
  exact ⟨fun h=>⟨h.1.symm,h.2.1.symm,h.2.2.symm⟩,fun h=>⟨h.1.symm,h.2.1.symm,h.2.2.symm⟩⟩
 rw [e3] at s3
 unfold dC.f
 refine Ev.bind m1 (Ev.bind hst (Ev.cf rfl (Ev.bind r1.diag ?_)))
 simp only [fall]
 rw [w1]
 refine Ev.bind (Ev.of v1) (Ev.bind (Ev.of x1) (Ev.bind (Ev.of c1) (Ev.bind p1 (Ev.bind (Ev.of v2) (Ev.bind (Ev.of y1) (Ev.bind (Ev.of c2) (Ev.bind q1 ?_)))))))
 refine Ev.bind s1 (Ev.bind a1' (Ev.bind a2' (Ev.bind s4 (Ev.ct sM (Ev.bind s2 (Ev.ct rfl (Ev.bind s3 (Ev.bind s1 (Ev.ct sM (Ev.bind EF Ev.pure))))))))))
end Go.Proofs.YtfknmdelgepbjaaGreatDoor
