import Derived.Test.YtfknmdelgepbjaaGreatDoorVZYA
set_option linter.all false
set_option maxRecDepth 10000
namespace Go.Proofs.YtfknmdelgepbjaaGreatDoor
open Go Go.Sp
def rl (a b:bB):Bool:=ltOf mQ a b
theorem ux (a:bB):rl a a=false:=BT.swo.irrefl a
theorem FN {a b c:bB} (h:rl a b=true) (k:rl b c=true):rl a c=true:=BT.swo.trans _ _ _ h k
theorem Dl (a b:bB):rl a b=if a.ab=b.ab then if a.aj=b.aj then if a.ae=b.ae then (!a.aq&&b.aq) else dK a.ae b.ae else dK a.aj b.aj else dK a.ab b.ab:=by
 obtain ⟨r,u,t,p⟩:=a
 obtain ⟨r',u',t',p'⟩:=b
 unfold rl ltOf mQ EI
 have hl:∀ x y:BA,x≠y→decide (kc x y<0)=dK x y:=fun x y _=>by rw [Bool.eq_iff_iff,decide_eq_true_iff,nq]
 by_cases h1:r=r'
 ·subst h1
  simp only [jM.2 (rfl:r=r),if_true]
  by_cases h2:u=u'
  ·subst h2
   simp only [jM.2 (rfl:u=u),if_true]
   by_cases h3:t=t'
   ·subst h3
    simp only [jM.2 (rfl:t=t),if_true]
    cases p <;> cases p' <;> rfl
   ·have e:kc t t'≠0:=fun e=>h3 (jM.1 e)
    simp only [e,if_false,h3,hl t t' h3]
  ·have e:kc u u'≠0:=fun e=>h2 (jM.1 e)
   simp only [e,if_false,h2,hl u u' h2]
 ·have e:kc r r'≠0:=fun e=>h1 (jM.1 e)
  simp only [e,if_false,h1,hl r r' h1]
theorem Gw (a b:bB):mr.f a b=some (rl a b):=by
 unfold mr.f
 rw [Dl]
 by_cases h1:a.ab=b.ab
 ·by_cases h2:a.aj=b.aj
  ·by_cases h3:a.ae=b.ae
   ·cases h4:a.aq <;> simp [h1,h2,h3,h4]
   ·simp [h1,h2,h3]
  ·simp [h1,h2]
 ·simp [h1]
theorem yq {a b:bB} (h:rl a b=false) (k:rl b a=false):a=b:=by
 obtain ⟨r,u,t,p⟩:=a
 obtain ⟨r',u',t',p'⟩:=b
 rw [Dl] at h k
 dsimp only at h k
 by_cases h1:r=r'
 ·subst h1
  by_cases h2:u=u'
  ·subst h2
   by_cases h3:t=t'
   ·subst h3
    cases p <;> cases p' <;> simp_all
   ·rw [if_pos rfl,if_pos rfl,if_neg h3] at h; rw [if_pos rfl,if_pos rfl,if_neg (Ne.symm h3)] at k
    exact absurd (lx h k) h3
  ·rw [if_pos rfl,if_neg h2] at h; rw [if_pos rfl,if_neg (Ne.symm h2)] at k
   exact absurd (lx h k) h2
 ·rw [if_neg h1] at h; rw [if_neg (Ne.symm h1)] at k
  exact absurd (lx h k) h1
def zN (M:List MK):Prop:=M.Pairwise fun a b=>rl a.fK b.fK=true
def putM:List MK→bB→Pos→List MK
 | [],k,at_=>[⟨k,at_⟩]
 | m::M,k,at_=>if m.fK=k then (if ltOf gY m.hM at_=true then ⟨k,at_⟩::M else m::M) else if rl m.fK k=true then m::putM M k at_ else ⟨k,at_⟩::m::M
def gM:List MK→bB→Option Pos
 | [],_=>none
 | m::M,k=>if m.fK=k then some m.hM else gM M k
def newA (o:Option Pos) (at_:Pos):Pos:=match o with
 | none=>at_
 | some p=>if ltOf gY p at_=true then at_ else p
def onA (o:Option Pos) (at_:Pos):Bool:=match o with
 | none=>true
 | some p=>ltOf gY p at_
theorem zo {M:List MK} {k:bB} (h:∀ m∈M,m.fK≠k):gM M k=none:=by
 induction M with
 | nil=>rfl
 | cons m M ih=>rw [gM,if_neg (h m List.mem_cons_self),ih fun x hx=>h x (List.mem_cons_of_mem _ hx)]
theorem GH {m:MK} {M:List MK} {k:bB} (h:zN (m::M)) (hk:rl k m.fK=true):∀ x∈m::M,x.fK≠k:=fun x hx e=>by
 have hc:=List.pairwise_cons.1 h
 rcases List.mem_cons.1 hx with rfl | hx
 ·rw [e,ux] at hk; cases hk
 ·have:=FN hk (hc.1 x hx); rw [e,ux] at this; cases this
theorem Lb {M:List MK} {k:bB} {at_:Pos} (h:zN M) (k':bB):gM (putM M k at_) k'=if k'=k then some (newA (gM M k) at_) else gM M k':=by
 induction M with
 | nil=>
  by_cases e:k'=k
  ·subst e; simp [putM,gM,newA]
  ·simp [putM,gM,e,Ne.symm e]
 | cons m M ih=>
  have hc:=List.pairwise_cons.1 h
  by_cases h1:m.fK=k
  ·rw [putM,if_pos h1]
   by_cases e:k'=k
   ·subst e
    rw [if_pos rfl,gM,if_pos h1,newA]
    by_cases h2:ltOf gY m.hM at_=true
    ·rw [if_pos h2,if_pos h2,gM,if_pos rfl]
    ·rw [if_neg h2,if_neg h2,gM,if_pos h1]
   ·rw [if_neg e]
    by_cases h2:ltOf gY m.hM at_=true
    ·rw [if_pos h2,gM,if_neg (Ne.symm e),gM,if_neg (by rw [h1]; exact Ne.symm e)]
    ·rw [if_neg h2]
  ·rw [putM,if_neg h1]
   by_cases h2:rl m.fK k=true
   ·rw [if_pos h2,gM,ih hc.2,gM,gM]
    by_cases e:k'=k
    ·subst e; rw [if_pos rfl,if_neg h1,if_pos rfl,if_neg h1]
    ·rw [if_neg e,if_neg e]
   ·rw [if_neg h2]
    have h3:rl k m.fK=true:=by
     cases e:rl k m.fK with
     | true=>rfl
     | false=>exact absurd (yq (by simpa using h2) e) h1
    rw [zo (GH h h3),newA,gM]
    by_cases e:k'=k
    ·subst e; simp
    ·rw [if_neg (Ne.symm e),if_neg e]
theorem AF {M:List MK} {k:bB} {at_:Pos}:∀ x∈putM M k at_,x.fK=k∨x∈M:=by
 induction M with
 | nil=>intro x hx; simp [putM] at hx; left; rw [hx]
 | cons m M ih=>
  intro x hx
  rw [putM] at hx
  split at hx
  ·rename_i h1
   split at hx
   ·rcases List.mem_cons.1 hx with rfl | hx
    ·exact .inl rfl
    ·exact .inr (List.mem_cons_of_mem _ hx)
   ·exact .inr hx
  ·split at hx
   ·rcases List.mem_cons.1 hx with rfl | hx
    ·exact .inr List.mem_cons_self
    ·exact (ih x hx).imp_right (List.mem_cons_of_mem _)
   ·rcases List.mem_cons.1 hx with rfl | hx
    ·exact .inl rfl
    ·exact .inr hx
theorem JA {M:List MK} {k:bB} {at_:Pos} (h:zN M):zN (putM M k at_):=by
 induction M with
 | nil=>exact List.pairwise_cons.2 ⟨fun x hx=>(by cases hx),List.Pairwise.nil⟩
 | cons m M ih=>
  have hc:=List.pairwise_cons.1 h
  rw [putM]
  split
  ·rename_i h1
   split
   ·exact List.pairwise_cons.2 ⟨fun x hx=>by have:=hc.1 x hx; rwa [h1] at this,hc.2⟩
   ·exact h
  ·rename_i h1
   split
   ·rename_i h2
    refine List.pairwise_cons.2 ⟨fun x hx=>?_,ih hc.2⟩
    rcases AF x hx with e | hx
    ·rw [e]; exact h2
    ·exact hc.1 x hx
   ·rename_i h2
    have h3:rl k m.fK=true:=by
     cases e:rl k m.fK with
     | true=>rfl
     | false=>exact absurd (yq (by simpa using h2) e) h1
    refine List.pairwise_cons.2 ⟨fun x hx=>?_,h⟩
    rcases List.mem_cons.1 hx with rfl | hx
    ·exact h3
    ·exact FN h3 (hc.1 x hx)
theorem Jc {M:List MK} {k:bB} {at_:Pos}:(putM M k at_).length≤M.length+1:=by
 induction M with
 | nil=>simp [putM]
 | cons m M ih=>rw [putM]; split <;> (try split) <;> simp at * <;> omega
theorem sP (P:List MK) (c:MK) (C:List MK):MK.K.at (P++c::C) (P.length:Int)=c:=by
 unfold Kd.at; rw [Int.toNat_natCast]; simp [List.getElem?_append_right]
theorem FV {m:Nat} (h:m≤1000000):av ((m:Int)+1)=((m+1:Nat):Int):=by rw [aG om om]; omega
theorem ya (x y:Pos):Ev (fun k=>iO.f k x y) (gY x y):=by
 unfold iO.f
 refine Ev.bind (Ev.of (BN _ _)) (Ev.bind (Ev.of (uX _ _)) (Ev.bind (Dc _ _) ?_))
 refine Ev.of ?_
 congr 1
 unfold Proofs.YtfknmdelgepbjaaGreatDoor.nr gY
 by_cases h1:x.br<y.br
 ·simp [h1]
 ·by_cases h2:y.br<x.br <;> simp [h1,h2]
structure DY (t:j8) (M:List MK):Prop where
 nd:Nd t.iU
 vP:zN M
 get:∀ k,mget t.iU k=gM M k
theorem Hh:DY ⟨[]⟩ []:=⟨zw,List.Pairwise.nil,fun _=>rfl⟩
theorem FL {t:j8} {M:List MK} (h:DY t M) (k:bB) (at_:Pos):DY ⟨mput t.iU k (newA (gM M k) at_)⟩ (putM M k at_):=
 ⟨sR h.nd,JA h.vP,fun k'=>by
  rw [Lb h.vP]
  show mget (mput _ _ _) _=_
  rw [fU]
  by_cases e:k=k'
  ·subst e; rw [if_pos rfl,if_pos rfl]
  ·rw [if_neg e,if_neg (Ne.symm e),h.get]⟩
theorem A3 {M:List MK} {k:bB} {at_:Pos} (h:onA (gM M k) at_=false) (hs:zN M):putM M k at_=M:=by
 induction M with
 | nil=>cases h
 | cons m M ih=>
  have hc:=List.pairwise_cons.1 hs
  rw [gM] at h
  rw [putM]
  by_cases h1:m.fK=k
  ·rw [if_pos h1] at h; rw [if_pos h1,if_neg (by show ¬ _; rw [show ltOf gY m.hM at_=false from h]; decide)]
  ·rw [if_neg h1] at h
   rw [if_neg h1]
   by_cases h2:rl m.fK k=true
   ·rw [if_pos h2,ih h hc.2]
   ·have h3:rl k m.fK=true:=by
     cases e:rl k m.fK with
     | true=>rfl
     | false=>exact absurd (yq (by simpa using h2) e) h1
    rw [zo fun x hx=>GH hs h3 x (List.mem_cons_of_mem _ hx)] at h; cases h
theorem It {t:j8} {M:List MK} (h:DY t M) (k:bB) (at_:Pos):∃ t',DY t' (putM M k at_)∧Ev (fun n=>gB.f n t k at_) (onA (gM M k) at_,t'):=by
 unfold gB.f
 have hr:=FL h k at_
 have hg:=h.get k
 cases hm:gM M k with
 | none=>
  rw [hm] at hg hr
  exact ⟨_,hr,Ev.cf (by rw [hg]; rfl) Ev.pure⟩
 | some p=>
  rw [hm] at hg hr
  simp only [newA] at hr
  by_cases hl:ltOf gY p at_=true
  ·rw [if_pos hl] at hr
   refine ⟨_,hr,Ev.ct (by rw [hg]; rfl) (Ev.bind (ya _ _) (Ev.cf ?_ (Ev.of ?_)))⟩
   ·rw [hg]; unfold ltOf at hl; rw [decide_eq_true_iff] at hl; rw [decide_eq_false_iff_not]; show ¬ (0≤gY p at_); omega
   ·show _=some (ltOf gY p at_,_); rw [hl]
  ·have hl':ltOf gY p at_=false:=by simpa using hl
   refine ⟨t,?_,Ev.ct (by rw [hg]; rfl) (Ev.bind (ya _ _) (Ev.ct ?_ (Ev.of ?_)))⟩
   ·rw [A3 (by rw [hm]; exact hl') h.vP]; exact h
   ·rw [hg]; unfold ltOf at hl'; rw [decide_eq_false_iff_not] at hl'; rw [decide_eq_true_iff]; show 0≤gY p at_; omega
   ·show _=some (ltOf gY p at_,_); rw [hl']
theorem AJ {k:bB}:∀ C P:List MK,(P++C).length≤100000→(∀ m∈P,m.fK≠k)→
  ((∀ m∈C,m.fK≠k)∧El (fun n j=>fX.l0 n (P++C) k j (P.length:Int)) (.inl (((P++C).length:Int),false)))∨
  (∃ A m B,P++C=A++m::B∧m.fK=k∧El (fun n j=>fX.l0 n (P++C) k j (P.length:Int)) (.inr (A.length:Int)))
 | [],P,hl,hP=>by
  refine .inl ⟨fun m hm=>(by cases hm),El.step (fun _ _=>by rw [fX.l0]) ?_⟩
  rw [List.append_nil,dF (by omega:¬ (P.length:Int)<(P.length:Int))]
  exact El.pure
 | c::C,P,hl,hP=>by
  have hlt:P.length<(P++c::C).length:=sM
  by_cases hc:c.fK=k
  ·refine .inr ⟨P,c,C,rfl,hc,El.step (fun _ _=>by rw [fX.l0]) ?_⟩
   exact El.ct (dT om) (El.an ⟨om,om⟩ (El.ct (by rw [sP,dT hc]) El.pure))
  ·have e:P++c::C=(P++[c])++C:=sM
   have hstep:∀ {v},El (fun n j=>fX.l0 n (P++c::C) k j (((P++[c]).length:Nat):Int)) v→El (fun n j=>fX.l0 n (P++c::C) k j (P.length:Int)) v:=fun G=>by
    refine El.step (fun _ _=>by rw [fX.l0]) ?_
    refine El.ct (dT om) (El.an ⟨om,om⟩ (El.cf (by rw [sP,dF hc]) ?_))
    rw [FV om]; rwa [List.length_append] at G
   rcases AJ C (P++[c]) (by rw [← e]; exact hl) (fun m hm=>by
     rcases List.mem_append.1 hm with hm | hm
     ·exact hP m hm
     ·rw [List.mem_singleton.1 hm]; exact hc) with ⟨h1,h2⟩ | ⟨A,m,B,h1,h2,h3⟩
   ·rw [← e] at h2
    exact .inl ⟨fun m hm=>(List.mem_cons.1 hm).elim (fun e=>e ▸ hc) (h1 m),hstep h2⟩
   ·rw [← e] at h1 h3
    exact .inr ⟨A,m,B,h1,h2,hstep h3⟩
theorem xP {k:bB}:∀ C P:List MK,(P++C).length≤100000→
  El (fun n j=>jG.l0 n (P++C) k j (P.length:Int)) (((P.length+(C.takeWhile fun m=>rl m.fK k).length:Nat):Int),false)
 | [],P,hl=>by
  refine El.step (fun _ _=>by rw [jG.l0]) ?_
  rw [List.append_nil,dF (by omega:¬ (P.length:Int)<(P.length:Int))]
  exact El.pure
 | c::C,P,hl=>by
  have hlt:P.length<(P++c::C).length:=sM
  by_cases hc:rl c.fK k=true
  ·have e:P++c::C=(P++[c])++C:=sM
   have h:=xP (k:=k) C (P++[c]) (by rw [← e]; exact hl)
   refine El.step (fun _ _=>by rw [jG.l0]) ?_
   refine El.ct (dT om) (El.an ⟨om,om⟩ (El.bind (Ev.of (by rw [sP]; exact Gw _ _)).el (El.ct hc ?_)))
   rw [FV om,List.takeWhile_cons,hc]
   rw [← e,List.length_append] at h
   simp only [List.length_cons,List.length_nil,if_true] at h ⊢
   rwa [show P.length+((List.takeWhile (fun m=>rl m.fK k) C).length+1)=P.length+(0+1)+(List.takeWhile (fun m=>rl m.fK k) C).length by omega]
  ·have hc':rl c.fK k=false:=by simpa using hc
   refine El.step (fun _ _=>by rw [jG.l0]) ?_
   refine El.ct (dT om) (El.an ⟨om,om⟩ (El.bind (Ev.of (by rw [sP]; exact Gw _ _)).el (El.cf hc' ?_)))
   rw [List.takeWhile_cons,hc']
   exact El.pure
theorem Dt {k:bB} {at_:Pos}:∀ {M:List MK},(∀ m∈M,m.fK≠k)→(M.take (M.takeWhile fun m=>rl m.fK k).length++[⟨k,at_⟩])++M.drop (M.takeWhile fun m=>rl m.fK k).length=putM M k at_
 | [],_=>rfl
 | m::M,h=>by
  rw [putM,if_neg (h m List.mem_cons_self),List.takeWhile_cons]
  by_cases h2:rl m.fK k=true
  ·rw [if_pos h2,if_pos h2,← Dt fun x hx=>h x (List.mem_cons_of_mem _ hx)]; rfl
  ·rw [if_neg h2,if_neg h2]; rfl
theorem CS {k:bB} {at_:Pos} {m:MK} {B:List MK} (hm:m.fK=k):∀ {A:List MK},zN (A++m::B)→gM (A++m::B) k=some m.hM∧(ltOf gY m.hM at_=true→(A++m::B).set A.length ⟨m.fK,at_⟩=putM (A++m::B) k at_)
 | [],_=>⟨by show gM (m::B) k=_; rw [gM,if_pos hm],fun hl=>by show _=putM (m::B) k at_; rw [putM,if_pos hm,if_pos hl,hm]; rfl⟩
 | a::A,h=>by
  have hc:=List.pairwise_cons.1 h
  have ha:rl a.fK k=true:=by rw [← hm]; exact hc.1 m sM
  have hne:a.fK≠k:=fun e=>by rw [e,ux] at ha; cases ha
  obtain ⟨i1,i2⟩:=CS (at_:=at_) hm (A:=A) hc.2
  refine ⟨by show gM (a::(A++m::B)) k=_; rw [gM,if_neg hne,i1],fun hl=>?_⟩
  show a::(A++m::B).set A.length _=putM (a::(A++m::B)) k at_
  rw [putM,if_neg hne,if_pos ha,i2 hl]
theorem HY {M:List MK} (hs:zN M) (hl:M.length≤1000) (k:bB) (at_:Pos):Ev (fun n=>jG.f n M k at_) (putM M k at_,onA (gM M k) at_):=by
 unfold jG.f
 rcases AJ (k:=k) M [] (by simp; omega) (fun m hm=>by cases hm) with ⟨h1,h2⟩ | ⟨A,m,B,h1,h2,h3⟩
 ·have hg:Ev (fun n=>fX.f n M k) (-1):=by
   unfold fX.f
   exact Ev.bind h2.diag (by simp only [fall]; exact Ev.pure)
  have hp:=xP (k:=k) M [] (by simp; omega)
  have ht:(M.takeWhile fun m=>rl m.fK k).length≤M.length:=(List.takeWhile_prefix _).length_le
  simp only [List.nil_append,List.length_nil,Nat.zero_add] at hp
  generalize hn:(M.takeWhile fun m=>rl m.fK k).length=t at hp ht
  refine Ev.bind hg (Ev.cf rfl (Ev.bind hp.diag ?_))
  simp only [Int.toNat_natCast,List.drop_zero,List.nil_append,List.length_nil,Nat.zero_add,List.length_take,List.length_append,List.length_singleton,List.length_drop,List.take_length]
  refine Ev.an ⟨om,om,ht⟩ (Ev.an ⟨om,om⟩ (Ev.an ⟨om,om⟩ (Ev.an ⟨om,ht,Nat.le_refl _⟩ (Ev.an ⟨om,om⟩ (Ev.of ?_)))))
  rw [zo h1,← Dt h1,hn]; rfl
 ·simp only [List.nil_append,List.length_nil] at h1 h3
  have hg:Ev (fun n=>fX.f n M k) (A.length:Int):=by
   unfold fX.f
   exact Ev.bind h3.diag (by simp only [fall]; exact Ev.pure)
  have hlen:A.length<M.length:=by rw [h1]; simp
  have hat:MK.K.at M (A.length:Int)=m:=by rw [h1]; exact sP _ _ _
  obtain ⟨i1,i2⟩:=CS (at_:=at_) h2 (A:=A) (B:=B) (by rw [← h1]; exact hs)
  rw [← h1] at i1 i2
  refine Ev.bind hg (Ev.ct (dT om) (Ev.an ⟨om,om⟩ (Ev.bind (Ev.of (by rw [hat]; exact xH _ _)) ?_)))
  rw [i1]
  by_cases hb:ltOf gY m.hM at_=true
  ·refine Ev.cf (by rw [hb]; rfl) ?_
   simp only [List.nil_append,List.length_nil,Nat.zero_add,Int.toNat_natCast]
   refine Ev.an ⟨om,om⟩ (Ev.an ⟨om,om⟩ (Ev.of ?_))
   have hd:M.getD A.length default=m:=by rw [h1]; simp [List.getElem?_append_right]
   rw [hd,i2 hb]; show _=some (_,ltOf gY m.hM at_); rw [hb]
  ·have hb':ltOf gY m.hM at_=false:=by simpa using hb
   refine Ev.ct (by rw [hb']; rfl) (Ev.of ?_)
   rw [A3 (by rw [i1]; exact hb') hs]; show _=some (_,ltOf gY m.hM at_); rw [hb']
structure Jo (v:aN) (w:bA):Prop where
 rel:wW v w
 ji:w.fD.length≤50
 len:∀ room,(lK w room).fL.length≤1000
theorem HP:Jo ⟨[]⟩ ⟨[]⟩:=⟨GG,sM,fun _=>by simp [lK]⟩
inductive p9:aN→bA→List Event→aN→bA→Prop
 | nil {v w}:Jo v w→p9 v w [] v w
 | cons {v w e v1 w1 l v' w'}:Jo v w→Ev (fun k=>iW.f k v e) (0,v1)→Ev (fun k=>eD.f k w e) (w1,0)→p9 v1 w1 l v' w'→p9 v w (e::l) v' w'
theorem p9.ok {v w l v' w'} (h:p9 v w l v' w'):Jo v w:=by cases h <;> assumption
theorem p9.ok2 {v w l v' w'} (h:p9 v w l v' w'):Jo v' w':=by
 induction h with
 | nil h=>exact h
 | cons _ _ _ _ ih=>exact ih
theorem p9.app {v w l v1 w1 l' v' w'} (h:p9 v w l v1 w1) (h':p9 v1 w1 l' v' w'):p9 v w (l++l') v' w':=by
 induction h with
 | nil=>exact h'
 | cons o a b _ ih=>exact .cons o a b (ih h')
theorem dropE {l:List Event} {x:Nat} (hx:x<l.length):l.drop x=ev l x::l.drop (x+1):=by
 rw [List.drop_eq_getElem_cons hx]; unfold ev; rw [gD,gE hx]; rfl
theorem wi {room:BA} {L:List Event} (hc:rb room L) (hl:L.length≤100):∀ n i:Nat,L.length-i=n→i≤L.length→∀ (v:aN) (w:bA),Jo v w→w.fD.length+n≤50→lK w room=⟨room,L.take i⟩→
  ∃ v' w',p9 v w (L.drop i) v' w'∧w'.fD.length≤w.fD.length+n∧lK w' room=⟨room,L⟩∧∀ r,r≠room→lK w' r=lK w r:=by
 intro n
 induction n with
 | zero=>
  intro i hd hi v w hr hw ho
  obtain rfl:i=L.length:=om
  rw [List.drop_length]
  rw [List.take_length] at ho
  exact ⟨v,w,.nil hr,om,ho,fun _ _=>rfl⟩
 | succ n ih=>
  intro i hd hi v w hr hw ho
  have hi2:i<L.length:=om
  obtain ⟨h1,h2,h3⟩:=hc i hi2
  have ho2:lK w (ev L i).ab=⟨room,L.take i⟩:=by rw [h2]; exact ho
  obtain ⟨v1,w1,a1,a2,a3,_,a5⟩:=Ib hr.rel h1 om (by rw [ho2]; show (L.take i).length≤_; rw [List.length_take]; omega)
  rw [ho2] at a1 a2 a5
  rw [h3] at a1 a2 a5
  obtain ⟨a6,a7⟩:=a5 rfl
  have ht:L.take (i+1)=L.take i++[ev L i]:=by
   rw [List.take_succ_eq_append_getElem hi2]; unfold ev; rw [gD,gE hi2]; rfl
  have hv1:Jo v1 w1:=⟨a3,om,fun r=>by
   rw [a6 r]
   split
   ·show (L.take i++[ev L i]).length≤1000
    rw [List.length_append,List.length_take,List.length_singleton]; omega
   ·exact hr.len r⟩
  obtain ⟨v',w',b1,b3,b4,b5⟩:=ih (i+1) om om v1 w1 hv1 om (by rw [a6,h2,if_pos rfl,ht])
  rw [dropE hi2]
  refine ⟨v',w',.cons hr a1 a2 b1,om,b4,fun r hne=>?_⟩
  rw [b5 r hne,a6,h2,if_neg hne]
def xA:BA:=⟨#[33,114,58,115,49]⟩
def xO:BA:=⟨#[33,113,58,115,50]⟩
theorem Fi {A B:List Event} (ca:rb xA A) (cb:rb xO B) (la:A.length≤9) (lb:B.length≤9):∃ v w,p9 ⟨[]⟩ ⟨[]⟩ (A++B) v w∧lK w xA=⟨xA,A⟩∧lK w xO=⟨xO,B⟩:=by
 have hne:xO≠xA:=dc
 obtain ⟨v1,w1,c1,c3,c4,c5⟩:=wi ca om _ 0 rfl om ⟨[]⟩ ⟨[]⟩ HP (by simp; omega) (by simp [lK])
 obtain ⟨v2,w2,d1,d3,d4,d5⟩:=wi cb om _ 0 rfl om v1 w1 c1.ok2 (by simp at c3; omega) (by rw [c5 _ hne]; simp [lK])
 exact ⟨v2,w2,c1.app d1,by rw [d5 _ hne.symm]; exact c4,d4⟩
theorem EA {a b:List dz} (ha:a.length≤maxLen∧∀ x∈a,dz.ok x) (hb:b.length≤maxLen∧∀ x∈b,dz.ok x):∃ L v w,Ev (fun k=>oH.f k a b) L∧L.length≤18∧p9 ⟨[]⟩ ⟨[]⟩ L v w:=by
 have r0:en.f 0=some xA:=rfl
 have r1:en.f 1=some xO:=rfl
 obtain ⟨A,a1,a2,a3⟩:=Dz (room:=xA) (List.mem_of_getElem? (i:=0) rfl) ha.1 ha.2
 obtain ⟨B,b1,b2,b3⟩:=Dz (room:=xO) (List.mem_of_getElem? (i:=1) rfl) hb.1 hb.2
 have la:=a2.len
 have lb:=b2.len
 obtain ⟨v,w,h,_⟩:=Fi a3 b3 la lb
 refine ⟨A++B,v,w,?_,by rw [List.length_append]; omega,h⟩
 unfold oH.f
 refine Ev.bind (Ev.of r0) (Ev.bind a1 (Ev.an ⟨by simp; omega,by simp; omega⟩ (Ev.bind (Ev.of r1) (Ev.bind b1 (Ev.an ⟨by simp; omega,by simp; omega⟩ (Ev.of sM))))))
theorem rg_of {m:bn} {d:aM} (h:Cl m d) (hl:d.fL.length≤1000):RG d.fL:=⟨h.uA,h.par,h.lI,h.usr,hl⟩
def Hr (w:bA):List BA:=w.fD.map (·.ab)
theorem J7 {v:aN} {w:bA} (hr:wW v w) (u:BA):u∈v.bx.map (·.1)↔u∈Hr w:=by
 rw [nA]
 by_cases h:∃ d∈w.fD,d.ab=u
 ·obtain ⟨d,hd,rfl⟩:=h
  obtain ⟨m,h1,_⟩:=hr.LH d hd
  rw [h1]
  exact ⟨fun _=>List.mem_map.2 ⟨d,hd,rfl⟩,fun _=>rfl⟩
 ·have h2:=hr.Lj u fun d hd he=>h ⟨d,hd,he⟩
  rw [h2]
  exact ⟨fun k=>(by cases k),fun k=>by obtain ⟨d,hd,he⟩:=List.mem_map.1 k; exact absurd ⟨d,hd,he⟩ h⟩
theorem ED {v:aN} {w:bA} (hr:wW v w) (hl:w.fD.length≤1000):gH.f v=some (Hr w):=by
 have hp:(v.bx.map (·.1)).Perm (Hr w):=(List.perm_ext_iff_of_nodup hr.ndv hr.nd).2 (J7 hr)
 have hlen:v.bx.length=w.fD.length:=by have:=hp.length_eq; unfold Hr at this; rwa [List.length_map,List.length_map] at this
 have e:oZ (v.bx.map (·.1))=Hr w:=AA (BM hr.ndv) hr.vP fun u=>by rw [Gr,J7 hr]
 unfold gH.f
 simp only [an]
 rw [if_pos om,e]
theorem Ba (P:List BA) (c:BA) (C:List BA) (d:BA):(P++c::C).getD P.length d=c:=by
 rw [gD,List.getElem?_append_right om,Nat.sub_self]; rfl
section
variable {p:Nat→BA→Option Bool} {b:BA→Bool} (hp:∀ x,Ev (fun k=>p k x) (b x))
include hp
theorem uV:∀ C P:List BA,(P++C).length≤100000→
  (∃ A c D,C=A++c::D∧(∀ a∈A,b a=false)∧b c=true∧El (fun k j=>aA.l0 k (P++C) (p k) j (P.length:Int)) (.inr ((P.length+A.length:Nat):Int)))∨
  ((∀ a∈C,b a=false)∧El (fun k j=>aA.l0 k (P++C) (p k) j (P.length:Int)) (.inl (((P++C).length:Int),false)))
 | [],P,hl=>by
  right
  refine ⟨fun a h=>(by cases h),?_⟩
  refine El.step (fun _ _=>by rw [aA.l0]) ?_
  rw [List.append_nil]
  exact El.cf sM (by simpa using El.pure)
 | c::C,P,hl=>by
  have hlen:(P++c::C).length=P.length+C.length+1:=by rw [List.length_append,List.length_cons]; omega
  have head:∀ r,El (fun k j=>cond (b c) (some (.inr (P.length:Int))) (aA.l0 k (P++c::C) (p k) j ((P.length+1:Nat):Int))) r→
    El (fun k j=>aA.l0 k (P++c::C) (p k) j (P.length:Int)) r:=fun r h=>by
   refine El.step (fun _ _=>by rw [aA.l0]) ?_
   rw [jJ (show P.length≤1000000 by omega),Int.toNat_natCast,Ba]
   exact El.ct (dT om) (El.an ⟨om,om⟩ (El.bind (hp c).el h))
  cases hb:b c with
  | true=>
   left
   refine ⟨[],c,C,rfl,fun a h=>(by cases h),hb,head _ ?_⟩
   rw [hb]
   exact El.pure
  | false=>
   rw [hb] at head
   have e:P++c::C=(P++[c])++C:=by rw [List.append_assoc]; rfl
   have el:(P++[c]).length=P.length+1:=by rw [List.length_append]; rfl
   rcases uV C (P++[c]) (by rw [← e]; exact hl) with ⟨A,c',D,h1,h2,h3,h4⟩ | ⟨h1,h2⟩
   ·left
    rw [← e,el] at h4
    refine ⟨c::A,c',D,by rw [h1]; rfl,fun a ha=>?_,h3,head _ ?_⟩
    ·rcases List.mem_cons.1 ha with rfl | ha
     ·exact hb
     ·exact h2 a ha
    ·rw [show P.length+(c::A).length=P.length+1+A.length by rw [List.length_cons]; omega]
     exact h4
   ·right
    rw [← e,el] at h2
    refine ⟨fun a ha=>?_,head _ h2⟩
    rcases List.mem_cons.1 ha with rfl | ha
    ·exact hb
    ·exact h1 a ha
theorem yP {xs:List BA} (hl:xs.length≤100000):Ev (fun k=>cN.f k xs (p k)) (xs.any b):=by
 unfold cN.f aA.f
 rcases uV hp xs [] hl with ⟨A,c,D,h1,h2,h3,h4⟩ | ⟨h1,h2⟩
 ·rw [show xs.any b=true from List.any_eq_true.2 ⟨c,by rw [h1]; simp,h3⟩]
  exact Ev.bind (Ev.bind h4.diag (Ev.of rfl)) (Ev.of (by rw [dT om]))
 ·rw [show xs.any b=false from List.any_eq_false.2 fun a ha=>by rw [h1 a ha]; simp]
  exact Ev.bind (Ev.bind h2.diag (Ev.of rfl)) (Ev.of rfl)
theorem uE:∀ (C A B:List BA),B≠[]→(A++B++C).length≤100000→
  ∃ cur:List BA,El (fun k j=>slices_DeleteFunc_string_xo.l0 k (p k) j (A.length:Int) ((A.length+B.length:Nat):Int) (A++B++C)) (((A++C.filter fun x=>!b x).length:Int),((A++B++C).length:Int),false,cur)∧cur.take (A++C.filter fun x=>!b x).length=A++C.filter (fun x=>!b x)∧(A++C.filter fun x=>!b x).length<cur.length
 | [],A,B,hB,hl=>by
  have hb:0<B.length:=List.length_pos_iff.2 hB
  refine ⟨A++B,?_,sM,by simp; omega⟩
  refine El.step (fun _ _=>by rw [slices_DeleteFunc_string_xo.l0]) ?_
  rw [List.append_nil]
  refine El.cf sM ?_
  have:decide (((A.length+B.length:Nat):Int)<((A++B).length:Int))=false:=sM
  rw [this]
  simp only [List.filter_nil,List.append_nil]
  rw [show ((A++B).length:Int)=((A.length+B.length:Nat):Int) by rw [List.length_append]]
  exact El.pure
 | c::C,A,B,hB,hl=>by
  have hb:0<B.length:=List.length_pos_iff.2 hB
  have hlen:(A++B++c::C).length=A.length+B.length+C.length+1:=by simp; omega
  have hAB:A.length+B.length=(A++B).length:=sM
  have hget:∀ d,(A++B++c::C).getD (A.length+B.length) d=c:=fun d=>by rw [hAB]; exact Ba _ _ _ _
  have head:∀ r,El (fun k j=>cond (!b c) (slices_DeleteFunc_string_xo.l0 k (p k) j ((A.length+1:Nat):Int) ((A.length+B.length+1:Nat):Int) ((A++B++c::C).set A.length c)) (slices_DeleteFunc_string_xo.l0 k (p k) j (A.length:Int) ((A.length+B.length+1:Nat):Int) (A++B++c::C))) r→
    El (fun k j=>slices_DeleteFunc_string_xo.l0 k (p k) j (A.length:Int) ((A.length+B.length:Nat):Int) (A++B++c::C)) r:=fun r h=>by
   refine El.step (fun _ _=>by rw [slices_DeleteFunc_string_xo.l0]) ?_
   rw [jJ (show A.length+B.length≤1000000 by omega),jJ (show A.length≤1000000 by omega),Int.toNat_natCast,Int.toNat_natCast,hget]
   refine El.ct (dT om) (El.an ⟨om,om⟩ (El.bind (hp c).el ?_))
   cases hbc:b c with
   | true=>rw [hbc] at h; exact h
   | false=>rw [hbc] at h; exact El.an ⟨om,om⟩ h
  cases hbc:b c with
  | true=>
   rw [hbc] at head
   have e:A++B++c::C=A++(B++[c])++C:=sM
   obtain ⟨cur,h1,h2,h3⟩:=uE C A (B++[c]) sM (by rw [← e]; exact hl)
   rw [← e,show A.length+(B++[c]).length=A.length+B.length+1 by simp; omega] at h1
   refine ⟨cur,head _ ?_,?_,?_⟩
   ·rw [List.filter_cons,hbc]; exact h1
   ·rw [List.filter_cons,hbc]; exact h2
   ·rw [List.filter_cons,hbc]; exact h3
  | false=>
   rw [hbc] at head
   obtain ⟨y,B',rfl⟩:∃ y B',B=y::B':=by
    cases B with
    | nil=>exact absurd rfl hB
    | cons y B'=>exact ⟨y,B',rfl⟩
   have e:(A++(y::B')++c::C).set A.length c=(A++[c])++(B'++[c])++C:=by
    rw [List.append_assoc,List.set_append_right _ _ om,Nat.sub_self]
    simp
   have el:((A++[c])++(B'++[c])++C).length=(A++(y::B')++c::C).length:=by rw [← e,List.length_set]
   obtain ⟨cur,h1,h2,h3⟩:=uE C (A++[c]) (B'++[c]) sM (by rw [el]; exact hl)
   rw [el,← e,show (A++[c]).length+(B'++[c]).length=A.length+(y::B').length+1 by simp; omega,show (A++[c]).length=A.length+1 by simp] at h1
   have ef:(A++[c])++C.filter (fun x=>!b x)=A++(c::C).filter (fun x=>!b x):=by
    rw [List.filter_cons,hbc]; simp
   rw [ef] at h1 h2 h3
   exact ⟨cur,head _ h1,h2,h3⟩
theorem vO {xs:List BA} (hl:xs.length≤100000):Ev (fun k=>slices_DeleteFunc_string_xo.f k xs (p k)) (xs.filter fun x=>!b x):=by
 unfold slices_DeleteFunc_string_xo.f aA.f
 rcases uV hp xs [] hl with ⟨A,c,D,h1,h2,h3,h4⟩ | ⟨h1,h2⟩
 ·obtain ⟨cur,d1,d2,d3⟩:=uE hp D A [c] sM (by rw [List.append_assoc]; show (A++c::D).length≤_; rw [← h1]; exact hl)
  have e:A++[c]++D=xs:=by rw [h1,List.append_assoc]; rfl
  have ef:xs.filter (fun x=>!b x)=A++D.filter fun x=>!b x:=by
   rw [h1,List.filter_append,List.filter_cons,h3,List.filter_eq_self.2 fun a ha=>by rw [h2 a ha]; rfl]
   rfl
  have hA:A.length<xs.length:=by rw [h1]; simp
  rw [e] at d1
  rw [ef]
  refine Ev.bind (Ev.bind h4.diag (Ev.of rfl)) (Ev.cf ?_ (Ev.bind (a:=(((A++D.filter fun x=>!b x).length:Int),((xs.length:Int)),false,cur)) ?_ (Ev.an ⟨by show (0:Int)≤((A++D.filter fun x=>!b x).length:Int); omega,by show (((A++D.filter fun x=>!b x).length:Int)).toNat<_; rw [Int.toNat_natCast]; exact d3⟩ (Ev.an ⟨by show (0:Int)≤((A++D.filter fun x=>!b x).length:Int); omega,om,by
    show (((A++D.filter fun x=>!b x).length:Int)).toNat≤(cur.take (((A++D.filter fun x=>!b x).length:Int)).toNat++List.replicate (cur.length-(((A++D.filter fun x=>!b x).length:Int)).toNat) eE).length
    rw [Int.toNat_natCast,d2]
    simp only [List.length_append]
    exact Nat.le_add_right _ _⟩ (Ev.of ?_)))))
  ·have:(((([]:List BA).length+A.length:Nat):Int)==(-1))=false:=by
    rw [beq_eq_false_iff_ne]; omega
   exact this
  ·have e2:av ((([]:List BA).length+A.length:Nat)+1)=((A.length+[c].length:Nat):Int):=by
    rw [jJ (by simp; omega)]; simp
   have e3:((([]:List BA).length+A.length:Nat):Int)=(A.length:Int):=sM
   rw [e2,e3]
   exact d1.diag
  ·show some (((cur.take (((A++D.filter fun x=>!b x).length:Int)).toNat++_).take (((A++D.filter fun x=>!b x).length:Int)).toNat).drop 0)=_
   rw [Int.toNat_natCast,d2,List.drop_zero,List.take_left]
 ·rw [List.filter_eq_self.2 fun a ha=>by rw [h1 a ha]; rfl]
  exact Ev.bind (Ev.bind h2.diag (Ev.of rfl)) (Ev.ct rfl Ev.pure)
end
theorem HZ {w:bA} (hn:(w.fD.map (·.ab)).Nodup) {d:aM} (hd:d∈w.fD):lK w d.ab=d:=by
 unfold lK
 have:∀ l:List aM,(l.map (·.ab)).Nodup→d∈l→l.find? (fun x=>decide (x.ab=d.ab))=some d:=by
  intro l
  induction l with
  | nil=>intro _ h; cases h
  | cons x l ih=>
   intro h1 h2
   rw [List.map_cons,List.nodup_cons] at h1
   by_cases e:x.ab=d.ab
   ·rw [List.find?_cons_of_pos (by simpa using e)]
    rcases List.mem_cons.1 h2 with rfl | h2
    ·rfl
    ·exact absurd (List.mem_map.2 ⟨d,h2,e.symm⟩) h1.1
   ·rw [List.find?_cons_of_neg (by simpa using e)]
    rcases List.mem_cons.1 h2 with rfl | h2
    ·exact absurd rfl e
    ·exact ih h1.2 h2
 rw [this _ hn hd]; rfl
def jb (w:bA) (u room:BA):Bool:=LK (nG u (mU (tb (lK w room).fL)) none)
def xL (w:bA) (u:BA):List BA:=(Hr w).filter (jb w u)
theorem C7 (w:bA) (u:BA):(xL w u).length≤w.fD.length:=by
 unfold xL Hr
 have:=List.length_filter_le (jb w u) (w.fD.map (·.ab))
 rwa [List.length_map] at this
section
variable {v:aN} {w:bA} (hr:wW v w) (hl:w.fD.length≤50) (hd:∀ room,(lK w room).fL.length≤1000)
include hr hl hd
theorem jv (u room:BA):Ev (fun k=>bN.f k v room u) (jb w u room):=by
 obtain ⟨m,m1,m2,_⟩:=oW hr room
 unfold bN.f
 exact Ev.bind (Ev.of m1) (Ev.bind (BZ (rg_of m2 (hd room)) m2.JF u) Ev.pure)
theorem jr (u room:BA):Ev (fun k=>eB.f k w room u) (jb w u room):=by
 obtain ⟨m,m1,m2,_⟩:=oW hr room
 unfold eB.f
 exact Ev.bind (tL om) (Ev.bind (uy (rg_of m2 (hd room)) u) Ev.pure)
theorem z8 (u:BA):Ev (fun k=>gA.f k v u) (xL w u):=by
 have hrl:(Hr w).length≤100000:=by unfold Hr; rw [List.length_map]; omega
 have pr:∀ x,Ev (fun k=>dR.f k x v u) (!jb w u x):=fun x=>by
  unfold dR.f
  exact Ev.bind (jv hr hl hd u x) Ev.pure
 have h:=vO (p:=fun k x=>dR.f k x v u) (b:=fun x=>!jb w u x) pr hrl
 have e:(Hr w).filter (fun x=>!!jb w u x)=xL w u:=by
  unfold xL; congr 1; funext x; rw [Bool.not_not]
 rw [e] at h
 unfold gA.f
 exact Ev.bind (Ev.of (ED hr om)) (Ev.bind h Ev.pure)
theorem Ao (u:BA):Ev (fun k=>dZ.f k w u) (xL w u):=by
 have key:∀ n x:Nat,w.fD.length-x=n→x≤w.fD.length→∀ out:List BA,out.length≤x→El (fun k j=>dZ.l0 k w u j (x:Int) out) ((w.fD.length:Int),false,out++((w.fD.drop x).map (·.ab)).filter (jb w u)):=by
  intro n
  induction n with
  | zero=>
   intro x hd hx out ho
   obtain rfl:x=w.fD.length:=om
   refine El.step (fun _ _=>by rw [dZ.l0]) ?_
   rw [List.drop_length]
   exact El.cf sM (by simpa using El.pure)
  | succ n ih=>
   intro x hn hx out ho
   have hx2:x<w.fD.length:=om
   have e1:aM.K.at w.fD (x:Int)=w.fD[x]:=by rw [EE _ _ default hx2,gD,gE hx2]; rfl
   have eo:lK w (w.fD[x]).ab=w.fD[x]:=HZ hr.nd (List.getElem_mem hx2)
   have hj:Ev (fun k=>jE.f k w.fD[x] u) (jb w u (w.fD[x]).ab):=by
    obtain ⟨m,m1,m2,_⟩:=oW hr (w.fD[x]).ab
    have:=uy (rg_of m2 (hd _)) u
    unfold jb
    rw [eo] at this ⊢
    exact this
   refine El.step (fun _ _=>by rw [dZ.l0]) ?_
   rw [jJ (show x≤1000000 by omega),e1,List.drop_eq_getElem_cons hx2,List.map_cons,List.filter_cons]
   refine El.ct (dT om) (El.an ⟨om,om⟩ (El.bind hj.el ?_))
   cases hb:jb w u (w.fD[x]).ab with
   | true=>
    have:=ih (x+1) om om (out++[(w.fD[x]).ab]) (by rw [List.length_append,List.length_singleton]; omega)
    rw [List.append_assoc] at this
    exact El.an ⟨om,om⟩ (El.an ⟨by rw [List.length_singleton]; omega,by rw [List.length_singleton]; omega⟩ this)
   | false=>exact ih (x+1) om om out om
 unfold dZ.f
 exact Ev.bind (key _ 0 rfl om [] sM).diag (Ev.of (by rw [List.drop_zero]; rfl))
theorem AK (u f:BA):Ev (fun k=>ff.f k v u f) ((xL w u).any (jb w f)):=by
 have pr:∀ x,Ev (fun k=>dO.f k x v f) (jb w f x):=fun x=>by
  unfold dO.f
  exact Ev.bind (jv hr hl hd f x) Ev.pure
 have h:=yP (p:=fun k x=>dO.f k x v f) (b:=jb w f) pr (xs:=xL w u) (by have:=C7 w u; omega)
 unfold ff.f
 exact Ev.bind (z8 hr hl hd u) (Ev.bind h Ev.pure)
theorem Ap (u f:BA):Ev (fun k=>dQ.f k w u f) ((xL w u).any (jb w f)):=by
 have hR:=C7 w u
 have key:∀ n x:Nat,(xL w u).length-x=n→x≤(xL w u).length→∃ r,El (fun k j=>dQ.l0 k w f (xL w u) j (x:Int)) r∧((((xL w u).drop x).any (jb w f)=true∧r = .inr true)∨(((xL w u).drop x).any (jb w f)=false∧∃ y,r = .inl y)):=by
  intro n
  induction n with
  | zero=>
   intro x hn hx
   obtain rfl:x=(xL w u).length:=om
   refine ⟨.inl (((xL w u).length:Int),false),?_,.inr ⟨by rw [List.drop_length]; rfl,_,rfl⟩⟩
   refine El.step (fun _ _=>by rw [dQ.l0]) ?_
   exact El.cf sM (by simpa using El.pure)
  | succ n ih=>
   intro x hn hx
   have hx2:x<(xL w u).length:=om
   rw [HT hx2,List.any_cons]
   have hj:=jr hr hl hd f ((xL w u).getD x ⟨#[]⟩)
   cases hb:jb w f ((xL w u).getD x ⟨#[]⟩) with
   | true=>
    refine ⟨.inr true,?_,.inl ⟨rfl,rfl⟩⟩
    refine El.step (fun _ _=>by rw [dQ.l0]) ?_
    rw [hb] at hj
    rw [Int.toNat_natCast]
    exact El.ct (dT om) (El.an ⟨om,om⟩ (El.bind hj.el (El.ct rfl El.pure)))
   | false=>
    obtain ⟨r,r1,r2⟩:=ih (x+1) om om
    refine ⟨r,?_,by simpa using r2⟩
    refine El.step (fun _ _=>by rw [dQ.l0]) ?_
    rw [hb] at hj
    rw [Int.toNat_natCast,jJ (show x≤1000000 by omega)]
    exact El.ct (dT om) (El.an ⟨om,om⟩ (El.bind hj.el (El.cf rfl r1)))
 obtain ⟨r,r1,r2⟩:=key _ 0 rfl om
 rw [List.drop_zero] at r2
 unfold dQ.f
 refine Ev.bind (Ao hr hl hd u) ?_
 rcases r2 with ⟨a,rfl⟩ | ⟨a,y,rfl⟩
 ·rw [a]; exact Ev.bind r1.diag (Ev.of rfl)
 ·rw [a]; exact Ev.bind r1.diag (Ev.of rfl)
end
theorem Jz {v:aN} {w:bA} (hr:wW v w) (hl:w.fD.length≤50) {room:BA} (hd:(lK w room).fL.length≤1000) (hp:∀ i,i<(lK w room).fL.length→(ev (lK w room).fL i).ag.length≤4) (id th:BA):
  ∃ c,Ev (fun _=>jl.f v room id th) c∧Ev (fun k=>oR.f k w room id th) c:=by
 obtain ⟨m,h1,h2,_⟩:=oW hr room
 have hat:=rF (d:=lK w room) id (by show _≤9223372036854775807; omega)
 unfold jl.f oR.f lh.f eG.f
 rcases sw h2.rel id with ⟨q,h⟩ | ⟨j,q,hj,he,nd,h,hnd⟩
 ·refine ⟨4,Ev.bind (Ev.of h1) (Ev.bind (Ev.of (by rw [h]; rfl)) (Ev.ct rfl Ev.pure)),Ev.bind (tL om) (Ev.bind hat (Ev.ct (by rw [q]; rfl) Ev.pure))⟩
 ·have hev:iG.f (((mget m.ao id).getD default).fe)=some (ev (lK w room).fL j):=by
   have h4:=hp j hj
   rw [h]
   show iG.f nd.fe=_
   rw [hnd]
   unfold iG.f dP.f
   simp only [an]
   rw [if_pos ⟨om,om⟩]; rfl
  have e1:(some (!(mget m.ao id).isNone))=some true:=by rw [h]; rfl
  have pre:∀ {y:Int},Ev (fun _:Nat=>(fun t656:Event×Bool=>cond (!t656.2) (some 4) (cond (decide (th=eE)) (cond (decide (th=eE)) (some 0) (some 7)) (cond (decide (th=(⟨#[109,97,105,110]⟩:BA))) (cond (decide (t656.1.ae=eE)) (cond (decide (t656.1.ae=eE)) (some 0) (some 7)) (cond (decide (th=id)) (cond (decide (th=id)) (some 0) (some 7)) (cond (decide (th=t656.1.ae)) (some 0) (some 7)))) (cond (decide (th=id)) (cond (decide (th=id)) (some 0) (some 7)) (cond (decide (th=t656.1.ae)) (some 0) (some 7)))))) (ev (lK w room).fL j,true)) y→Ev (fun _:Nat=>(aO.f v room).bind fun t651=>((some (!(mget t651.ao id).isNone)).bind fun t641=>cond (!t641) (some ((⟨eE,eE,([]:List BA),eE,eE,0⟩:Event),false)) (an ((mget t651.ao id).isSome=true) ((iG.f (((mget t651.ao id).getD default).fe)).bind fun t649=>some (t649,true)))).bind fun t656=>cond (!t656.2) (some 4) (cond (decide (th=eE)) (cond (decide (th=eE)) (some 0) (some 7)) (cond (decide (th=(⟨#[109,97,105,110]⟩:BA))) (cond (decide (t656.1.ae=eE)) (cond (decide (t656.1.ae=eE)) (some 0) (some 7)) (cond (decide (th=id)) (cond (decide (th=id)) (some 0) (some 7)) (cond (decide (th=t656.1.ae)) (some 0) (some 7)))) (cond (decide (th=id)) (cond (decide (th=id)) (some 0) (some 7)) (cond (decide (th=t656.1.ae)) (some 0) (some 7)))))) y:=fun hy=>
   Ev.bind (Ev.of h1) (Ev.bind (Ev.bind (Ev.of e1) (Ev.cf rfl (Ev.an (by rw [h]; rfl) (Ev.bind (Ev.of hev) Ev.pure)))) hy)
  have pre2:∀ {y:Int} {G:Nat→Option Int},Ev G y→Ev (fun k=>(iz.f k w room).bind fun t673=>(eK.f k t673 id).bind fun t676=>cond (decide (t676<0)) (some 4) (an ((0:Int)≤t676∧t676<(t673.fL.length:Int)) (G k))) y:=fun hy=>
   Ev.bind (tL om) (Ev.bind hat (Ev.cf (by rw [q]; exact dF om) (Ev.an ⟨om,om⟩ hy)))
  have hk:Event.K.at (lK w room).fL (ix (lK w room).fL id)=ev (lK w room).fL j:=by rw [q]; exact kg hj
  generalize ht:(ev (lK w room).fL j).ae=own at *
  refine ⟨if th=⟨#[]⟩∨th=id∨(th=⟨#[109,97,105,110]⟩∧own=⟨#[]⟩)∨(own≠⟨#[]⟩∧th=own) then 0 else 7,pre (Ev.of ?_),Ev.bind (tL om) (Ev.bind hat (Ev.cf (by rw [q]; exact dF om) (Ev.an ⟨om,om⟩ (Ev.of ?_))))⟩
  ·simp only [ht]
   by_cases c1:th=⟨#[]⟩
   ·simp [c1]
   ·by_cases c2:th=id
    ·by_cases c3:th=⟨#[109,97,105,110]⟩ <;> by_cases c4:own=⟨#[]⟩ <;> simp [c1,← c2,c3,c4] <;> simp_all
    ·by_cases c3:th=⟨#[109,97,105,110]⟩
     ·by_cases c4:own=⟨#[]⟩
      ·simp [c1,c2,c3,c4]
      ·by_cases c5:th=own <;> simp_all
     ·by_cases c5:th=own
      ·have c4:¬ own=⟨#[]⟩:=fun h=>c1 (c5.trans h)
       simp_all
      ·simp [c1,c2,c3,c5]
  ·rw [hk,ht]
   by_cases c1:th=⟨#[]⟩
   ·simp [c1]
   ·by_cases c2:th=id
    ·simp [c1,c2]
    ·by_cases c3:th=⟨#[109,97,105,110]⟩
     ·by_cases c4:own=⟨#[]⟩
      ·simp [c1,c2,c3,c4]
      ·by_cases c5:th=own <;> simp_all
     ·by_cases c4:own=⟨#[]⟩ <;> by_cases c5:th=own <;> simp_all
def AQ (L:List Event) (id:BA):Pos×Bool:=if ix L id<0 then (⟨0,⟨#[]⟩⟩,false) else (pos (tb L) id,true)
theorem IG {m:bn} {d:aM} (h:Cl m d) (id:BA):hJ.f m id=some (AQ d.fL id):=by
 unfold hJ.f eG.f AQ
 rcases sw h.rel id with ⟨q,h1⟩ | ⟨j,q,hj,he,nd,h1,h2⟩
 ·rw [h1,q]; rfl
 ·rw [h1,q,if_neg om]
  have hd:rk (tb d.fL) id=nd.cI:=by
   unfold rk
   rw [← h.JF,A1,h1]; rfl
  unfold pos
  rw [hd]; rfl
section
variable {v:aN} {w:bA} (hr:wW v w) (hl:w.fD.length≤1000)
include hr hl
theorem Ie (room id:BA) (hd:(lK w room).fL.length≤1000):Ev (fun _=>fG.f v room id) (AQ (lK w room).fL id)∧Ev (fun k=>kR.f k w room id) (AQ (lK w room).fL id):=by
 obtain ⟨m,h1,h2,_⟩:=oW hr room
 constructor
 ·unfold fG.f
  exact Ev.bind (Ev.of h1) (Ev.bind (Ev.of (IG h2 id)) (Ev.of rfl))
 ·unfold kR.f AQ
  refine Ev.bind (tL om) (Ev.bind (rF id (by show _≤9223372036854775807; omega)) ?_)
  by_cases h:ix (lK w room).fL id<0
  ·rw [if_pos h]; exact Ev.ct (dT h) Ev.pure
  ·rw [if_neg h]; exact Ev.cf (dF h) (Ev.bind (yF (rg_of h2 hd) id) Ev.pure)
end
structure Lq (m:j7) (M:List MK):Prop where
 rel:DY m.qt M
 GV:m.pT.eb=8
 len:m.pT.fl.length≤8
theorem Fa {l:List ak} (hl:l.length≤1000) (e:ak):∃ b,Ev (fun k=>fj.f k l e) b:=by
 have loop:∀ n x:Nat,l.length-x=n→x≤l.length→∃ r,El (fun k j=>bY.l0 k l e j (x:Int)) r:=by
  intro n
  induction n with
  | zero=>
   intro x hd hx
   refine ⟨.inl ((x:Int),false),El.step (fun _ _=>by rw [bY.l0]) ?_⟩
   rw [dF (by omega:¬ (x:Int)<(l.length:Int))]
   exact El.pure
  | succ n ih=>
   intro x hd hx
   by_cases hc:e=ak.K.at l (x:Int)
   ·refine ⟨.inr (x:Int),El.step (fun _ _=>by rw [bY.l0]) ?_⟩
    exact El.ct (dT om) (El.an ⟨om,om⟩ (El.ct (dT hc) El.pure))
   ·obtain ⟨r,hr⟩:=ih (x+1) om om
    refine ⟨r,El.step (fun _ _=>by rw [bY.l0]) ?_⟩
    refine El.ct (dT om) (El.an ⟨om,om⟩ (El.cf (dF hc) ?_))
    rwa [FV om]
 obtain ⟨r,hr⟩:=loop _ 0 rfl om
 unfold fj.f bY.f
 cases r with
 | inl q=>exact ⟨_,Ev.bind (Ev.bind hr.diag (by simp only [fall]; exact Ev.pure)) Ev.pure⟩
 | inr q=>exact ⟨_,Ev.bind (Ev.bind hr.diag (by simp only [fall]; exact Ev.pure)) Ev.pure⟩
theorem Ih {p:jH} (h:p.eb=8) (hl:p.fl.length≤8) (e:ak):∃ r,Ev (fun k=>jZ.f k p e) r∧r.2.2.eb=8∧r.2.2.fl.length≤8:=by
 obtain ⟨b,hb⟩:=Fa (l:=p.fl) om e
 unfold jZ.f
 cases b with
 | true=>exact ⟨_,Ev.bind hb (Ev.ct rfl Ev.pure),h,hl⟩
 | false=>
  have g:p.fl.length+([e]:List ak).length≤9223372036854775807∧(p.fl.length+([e]:List ak).length)*112≤140737488355328:=by
   rw [List.length_singleton]; omega
  by_cases hc:((p.fl++([e]:List ak)).length:Int)≤p.eb
  ·refine ⟨_,Ev.bind hb (Ev.cf rfl (Ev.an g (Ev.ct (dT hc) Ev.pure))),h,?_⟩
   show (p.fl++[e]).length≤8; rw [h] at hc; omega
  ·have hn:(p.fl++[e]).length=p.fl.length+1:=sM
   have hd:fb.f (p.fl++[e]) 0 1=some ((p.fl++[e]).take 0++(p.fl++[e]).drop 1):=by unfold fb.f; exact if_pos ⟨om,om,om⟩
   refine ⟨_,Ev.bind hb (Ev.cf rfl (Ev.an g (Ev.cf (dF hc) (Ev.an ⟨om,om⟩ (Ev.bind (Ev.of hd) Ev.pure))))),h,?_⟩
   show ((p.fl++[e]).take 0++(p.fl++[e]).drop 1).length≤8
   simp; omega
theorem Fj (e:ak):∃ r,Ev (fun k=>kO.f k ⟨8,[],0⟩ e) r:=by
 have loop:El (fun k j=>kO.l0 k ⟨8,[],0⟩ e j 0) (.inl (0,false)):=by
  refine El.step (fun _ _=>by rw [kO.l0]) ?_
  exact El.cf rfl El.pure
 unfold kO.f
 refine ⟨(⟨8,[e],0⟩,⟨0,⟨#[]⟩,⟨#[]⟩,⟨#[]⟩,⟨#[]⟩,false,false,0,0,0,0⟩,false),Ev.bind loop.diag ?_⟩
 simp only [fall]
 exact Ev.an ⟨sM,sM⟩ (Ev.an ⟨sM,sM⟩ (Ev.cf rfl (Ev.of rfl)))
def Ew (e:ak):bB:=⟨e.ab,e.aj,e.ae,e.aq⟩
def xu (M:List MK) (e:ak):Option Pos→List MK
 | none=>M
 | some p=>putM M (Ew e) p
theorem kx_of {e:ak} (h:GE e) (hk:e.aI=1):Kx (Ew e):=⟨h.room om,h.user,by
 show e.ae∈ths
 unfold ths
 rcases h.kA hk with ej | ej | ⟨j,hj,ej⟩
 ·rw [ej]; exact List.mem_cons_self
 ·rw [ej]; exact List.mem_cons_of_mem _ List.mem_cons_self
 ·rw [ej]; exact List.mem_cons_of_mem _ (List.mem_cons_of_mem _ (List.mem_map.2 ⟨j,List.mem_range.2 hj,rfl⟩))⟩
theorem BX {v:aN} {w:bA} (hv:Jo v w) {e:ak} (he:GE e) (hk:e.aI=1):∃ o:Option Pos,∀ m M,Lq m M→M.length≤1000→∃ Q b c m',Ev (fun k=>qH.f k ⟨M,⟨8,[],0⟩⟩ w e) (⟨xu M e o,Q⟩,b,c)∧Ev (fun k=>iF.f k m v e) (b,c,m')∧Lq m' (xu M e o):=by
 obtain ⟨l1,l2⟩:=AL he.zz
 rw [he.local] at l1 l2
 obtain ⟨d,d1,d2,_⟩:=oW hv.rel e.ab
 have hlen:=hv.len e.ab
 obtain ⟨c,f1,f2⟩:=Jz hv.rel hv.ji hlen (fun i hi=>d2.par _ (by unfold ev; exact eR hi)) e.bH e.ae
 obtain ⟨p1,p2⟩:=Ie hv.rel (by have:=hv.ji; omega) e.ab e.bH hlen
 have k1:(e.aI != 1)=false:=by rw [hk]; rfl
 unfold qH.f iF.f
 by_cases c4:c=4
 ·refine ⟨none,fun m M hr hl=>?_⟩
  obtain ⟨q,q1⟩:=Fj e
  obtain ⟨r,r1,r2,r3⟩:=Ih hr.GV hr.len e
  exact ⟨_,_,_,_,Ev.bind l2 (Ev.cf k1 (Ev.cf rfl (Ev.bind f2 (Ev.ct (by rw [c4]; rfl) (Ev.bind q1 Ev.pure))))),Ev.cf k1 (Ev.bind l1 (Ev.cf rfl (Ev.bind f1 (Ev.ct (by rw [c4]; rfl) (Ev.bind r1 Ev.pure))))),hr.rel,r2,r3⟩
 ·have n4:(c==4)=false:=by simpa using c4
  by_cases c0:c=0
  ·refine ⟨some (AQ (lK w e.ab).fL e.bH).1,fun m M hr hl=>?_⟩
   obtain ⟨t',t1,t2⟩:=It hr.rel (Ew e) (AQ (lK w e.ab).fL e.bH).1
   have t3:=HY hr.rel.vP hl (Ew e) (AQ (lK w e.ab).fL e.bH).1
   have o1:qw.f e=some (Ew e):=rfl
   have o2:qA.f e=some (Ew e):=rfl
   exact ⟨_,_,_,_,Ev.bind l2 (Ev.cf k1 (Ev.cf rfl (Ev.bind f2 (Ev.cf n4 (Ev.cf (by rw [c0]; rfl) (Ev.bind p2 (Ev.bind (Ev.of o1) (Ev.bind t3 Ev.pure)))))))),Ev.cf k1 (Ev.bind l1 (Ev.cf rfl (Ev.bind f1 (Ev.cf n4 (Ev.ct (by rw [c0]; rfl) (Ev.bind p1 (Ev.bind (Ev.of o2) (Ev.bind t2 Ev.pure)))))))),t1,hr.GV,hr.len⟩
  ·refine ⟨none,fun m M hr hl=>?_⟩
   exact ⟨_,_,_,_,Ev.bind l2 (Ev.cf k1 (Ev.cf rfl (Ev.bind f2 (Ev.cf n4 (Ev.ct (by simpa using c0) Ev.pure))))),Ev.cf k1 (Ev.bind l1 (Ev.cf rfl (Ev.bind f1 (Ev.cf n4 (Ev.cf (by simpa using c0) Ev.pure))))),hr⟩
end Go.Proofs.YtfknmdelgepbjaaGreatDoor
