import Derived.Test.YtfknmdelgepbjaaGreatDoorWZYA
set_option linter.all false
set_option maxRecDepth 10000
namespace Go.Proofs.YtfknmdelgepbjaaGreatDoor
open Go Go.Sp
def qG (a b:bB):Bool:=ltOf mS a b
theorem qZ (a:bB):qG a a=false:=BH.swo.irrefl a
theorem Cy {a b c:bB} (h:qG a b=true) (k:qG b c=true):qG a c=true:=BH.swo.trans _ _ _ h k
theorem F5 {a b:bB} (h:qG a b=true):qG b a=false:=by
 cases e:qG b a with
 | false=>rfl
 | true=>have:=Cy h e; rw [qZ] at this; cases this
theorem CV (a b:bB):qG a b=if a.ab=b.ab then if a.aj=b.aj then if a.ae=b.ae then (!a.aq&&b.aq) else dJ a.ae b.ae else dJ a.aj b.aj else dJ a.ab b.ab:=by
 obtain ⟨r,u,t,p⟩:=a
 obtain ⟨r',u',t',p'⟩:=b
 unfold qG ltOf mS EW
 have hl:∀ x y:BA,x≠y→decide (j8 x y<0)=dJ x y:=fun x y _=>by rw [Bool.eq_iff_iff,decide_eq_true_iff,nq]
 by_cases h1:r=r'
 ·subst h1
  simp only [jN.2 (rfl:r=r),if_true]
  by_cases h2:u=u'
  ·subst h2
   simp only [jN.2 (rfl:u=u),if_true]
   by_cases h3:t=t'
   ·subst h3
    simp only [jN.2 (rfl:t=t),if_true]
    cases p <;> cases p' <;> rfl
   ·have e:j8 t t'≠0:=fun e=>h3 (jN.1 e)
    simp only [e,if_false,h3,hl t t' h3]
  ·have e:j8 u u'≠0:=fun e=>h2 (jN.1 e)
   simp only [e,if_false,h2,hl u u' h2]
 ·have e:j8 r r'≠0:=fun e=>h1 (jN.1 e)
  simp only [e,if_false,h1,hl r r' h1]
theorem Gu (a b:bB):mj.f a b=some (qG a b):=by
 unfold mj.f
 rw [CV]
 by_cases h1:a.ab=b.ab
 ·by_cases h2:a.aj=b.aj
  ·by_cases h3:a.ae=b.ae
   ·cases h4:a.aq <;> simp [h1,h2,h3,h4]
   ·simp [h1,h2,h3]
  ·simp [h1,h2]
 ·simp [h1]
theorem zP {a b:bB} (h:qG a b=false) (k:qG b a=false):a=b:=by
 obtain ⟨r,u,t,p⟩:=a
 obtain ⟨r',u',t',p'⟩:=b
 rw [CV] at h k
 dsimp only at h k
 by_cases h1:r=r'
 ·subst h1
  by_cases h2:u=u'
  ·subst h2
   by_cases h3:t=t'
   ·subst h3
    cases p <;> cases p' <;> simp_all
   ·rw [if_pos rfl,if_pos rfl,if_neg h3] at h; rw [if_pos rfl,if_pos rfl,if_neg (Ne.symm h3)] at k
    exact absurd (lf h k) h3
  ·rw [if_pos rfl,if_neg h2] at h; rw [if_pos rfl,if_neg (Ne.symm h2)] at k
   exact absurd (lf h k) h2
 ·rw [if_neg h1] at h; rw [if_neg (Ne.symm h1)] at k
  exact absurd (lf h k) h1
def nL (M:List MK):Prop:=M.Pairwise fun a b=>qG a.fK b.fK=true
def putM:List MK→bB→Pos→List MK
 | [],k,at_=>[⟨k,at_⟩]
 | m::M,k,at_=>if m.fK=k then (if ltOf fq m.eH at_=true then ⟨k,at_⟩::M else m::M) else if qG m.fK k=true then m::putM M k at_ else ⟨k,at_⟩::m::M
def gM:List MK→bB→Option Pos
 | [],_=>none
 | m::M,k=>if m.fK=k then some m.eH else gM M k
def newA (o:Option Pos) (at_:Pos):Pos:=match o with
 | none=>at_
 | some p=>if ltOf fq p at_=true then at_ else p
def onA (o:Option Pos) (at_:Pos):Bool:=match o with
 | none=>true
 | some p=>ltOf fq p at_
theorem rU {M:List MK} {k:bB} (h:∀ m∈M,m.fK≠k):gM M k=none:=by
 induction M with
 | nil=>rfl
 | cons m M ih=>rw [gM,if_neg (h m List.mem_cons_self),ih fun x hx=>h x (List.mem_cons_of_mem _ hx)]
theorem E1 {m:MK} {M:List MK} {k:bB} (h:nL (m::M)) (hk:qG k m.fK=true):∀ x∈m::M,x.fK≠k:=fun x hx e=>by
 have hc:=List.pairwise_cons.1 h
 rcases List.mem_cons.1 hx with rfl | hx
 ·rw [e,qZ] at hk; cases hk
 ·have:=Cy hk (hc.1 x hx); rw [e,qZ] at this; cases this
theorem qF {M:List MK} {k:bB} {at_:Pos} (h:nL M) (k':bB):gM (putM M k at_) k'=if k'=k then some (newA (gM M k) at_) else gM M k':=by
 induction M with
 | nil=>
  by_cases e:k'=k
  ·subst e; simp [putM,gM,newA]
  ·simp [putM,gM,e,Ne.symm e]
 | cons m M ih=>
  have hc:=List.pairwise_cons.1 h
  by_cases h1:m.fK=k
  ·rw [putM,if_pos h1]
   by_cases e:k'=k
   ·subst e
    rw [if_pos rfl,gM,if_pos h1,newA]
    by_cases h2:ltOf fq m.eH at_=true
    ·rw [if_pos h2,if_pos h2,gM,if_pos rfl]
    ·rw [if_neg h2,if_neg h2,gM,if_pos h1]
   ·rw [if_neg e]
    by_cases h2:ltOf fq m.eH at_=true
    ·rw [if_pos h2,gM,if_neg (Ne.symm e),gM,if_neg (by rw [h1]; exact Ne.symm e)]
    ·rw [if_neg h2]
  ·rw [putM,if_neg h1]
   by_cases h2:qG m.fK k=true
   ·rw [if_pos h2,gM,ih hc.2,gM,gM]
    by_cases e:k'=k
    ·subst e; rw [if_pos rfl,if_neg h1,if_pos rfl,if_neg h1]
    ·rw [if_neg e,if_neg e]
   ·rw [if_neg h2]
    have h3:qG k m.fK=true:=by
     cases e:qG k m.fK with
     | true=>rfl
     | false=>exact absurd (zP (by simpa using h2) e) h1
    rw [rU (E1 h h3),newA,gM]
    by_cases e:k'=k
    ·subst e; simp
    ·rw [if_neg (Ne.symm e),if_neg e]
theorem An {M:List MK} {k:bB} {at_:Pos}:∀ x∈putM M k at_,x.fK=k∨x∈M:=by
 induction M with
 | nil=>intro x hx; simp [putM] at hx; left; rw [hx]
 | cons m M ih=>
  intro x hx
  rw [putM] at hx
  split at hx
  ·rename_i h1
   split at hx
   ·rcases List.mem_cons.1 hx with rfl | hx
    ·exact .inl rfl
    ·exact .inr (List.mem_cons_of_mem _ hx)
   ·exact .inr hx
  ·split at hx
   ·rcases List.mem_cons.1 hx with rfl | hx
    ·exact .inr List.mem_cons_self
    ·exact (ih x hx).imp_right (List.mem_cons_of_mem _)
   ·rcases List.mem_cons.1 hx with rfl | hx
    ·exact .inl rfl
    ·exact .inr hx
theorem uE {M:List MK} {k:bB} {at_:Pos} (h:nL M):nL (putM M k at_):=by
 induction M with
 | nil=>exact List.pairwise_cons.2 ⟨fun x hx=>(by cases hx),List.Pairwise.nil⟩
 | cons m M ih=>
  have hc:=List.pairwise_cons.1 h
  rw [putM]
  split
  ·rename_i h1
   split
   ·exact List.pairwise_cons.2 ⟨fun x hx=>by have:=hc.1 x hx; rwa [h1] at this,hc.2⟩
   ·exact h
  ·rename_i h1
   split
   ·rename_i h2
    refine List.pairwise_cons.2 ⟨fun x hx=>?_,ih hc.2⟩
    rcases An x hx with e | hx
    ·rw [e]; exact h2
    ·exact hc.1 x hx
   ·rename_i h2
    have h3:qG k m.fK=true:=by
     cases e:qG k m.fK with
     | true=>rfl
     | false=>exact absurd (zP (by simpa using h2) e) h1
    refine List.pairwise_cons.2 ⟨fun x hx=>?_,h⟩
    rcases List.mem_cons.1 hx with rfl | hx
    ·exact h3
    ·exact Cy h3 (hc.1 x hx)
theorem uz {M:List MK} {k:bB} {at_:Pos}:(putM M k at_).length≤M.length+1:=by
 induction M with
 | nil=>simp [putM]
 | cons m M ih=>rw [putM]; split <;> (try split) <;> simp at * <;> omega
theorem pH (P:List MK) (c:MK) (C:List MK):MK.K.at (P++c::C) (P.length:Int)=c:=by
 unfold Kd.at; rw [Int.toNat_natCast]; simp [List.getElem?_append_right]
theorem Fb {m:Nat} (h:m≤1000000):av ((m:Int)+1)=((m+1:Nat):Int):=by rw [aE om om]; omega
theorem xR (x y:Pos):Ev (fun k=>iS.f k x y) (fq x y):=by
 unfold iS.f
 refine Ev.bind (Ev.of (BY _ _)) (Ev.bind (Ev.of (vG _ _)) (Ev.bind (Df _ _) ?_))
 refine Ev.of ?_
 congr 1
 unfold Proofs.YtfknmdelgepbjaaGreatDoor.nm fq
 by_cases h1:x.bx<y.bx
 ·simp [h1]
 ·by_cases h2:y.bx<x.bx <;> simp [h1,h2]
structure ER (t:j6) (M:List MK):Prop where
 nd:Nd t.iU
 ri:nL M
 get:∀ k,mget t.iU k=gM M k
theorem FF:ER ⟨[]⟩ []:=⟨zi,List.Pairwise.nil,fun _=>rfl⟩
theorem FB {t:j6} {M:List MK} (h:ER t M) (k:bB) (at_:Pos):ER ⟨mput t.iU k (newA (gM M k) at_)⟩ (putM M k at_):=
 ⟨tG h.nd,uE h.ri,fun k'=>by
  rw [qF h.ri]
  show mget (mput _ _ _) _=_
  rw [fX]
  by_cases e:k=k'
  ·subst e; rw [if_pos rfl,if_pos rfl]
  ·rw [if_neg e,if_neg (Ne.symm e),h.get]⟩
theorem Bj {M:List MK} {k:bB} {at_:Pos} (h:onA (gM M k) at_=false) (hs:nL M):putM M k at_=M:=by
 induction M with
 | nil=>cases h
 | cons m M ih=>
  have hc:=List.pairwise_cons.1 hs
  rw [gM] at h
  rw [putM]
  by_cases h1:m.fK=k
  ·rw [if_pos h1] at h; rw [if_pos h1,if_neg (by show ¬ _; rw [show ltOf fq m.eH at_=false from h]; decide)]
  ·rw [if_neg h1] at h
   rw [if_neg h1]
   by_cases h2:qG m.fK k=true
   ·rw [if_pos h2,ih h hc.2]
   ·have h3:qG k m.fK=true:=by
     cases e:qG k m.fK with
     | true=>rfl
     | false=>exact absurd (zP (by simpa using h2) e) h1
    rw [rU fun x hx=>E1 hs h3 x (List.mem_cons_of_mem _ hx)] at h; cases h
theorem Is {t:j6} {M:List MK} (h:ER t M) (k:bB) (at_:Pos):∃ t',ER t' (putM M k at_)∧Ev (fun n=>gC.f n t k at_) (onA (gM M k) at_,t'):=by
 unfold gC.f
 have hr:=FB h k at_
 have hg:=h.get k
 cases hm:gM M k with
 | none=>
  rw [hm] at hg hr
  exact ⟨_,hr,Ev.cf (by rw [hg]; rfl) Ev.pure⟩
 | some p=>
  rw [hm] at hg hr
  simp only [newA] at hr
  by_cases hl:ltOf fq p at_=true
  ·rw [if_pos hl] at hr
   refine ⟨_,hr,Ev.ct (by rw [hg]; rfl) (Ev.bind (xR _ _) (Ev.cf ?_ (Ev.of ?_)))⟩
   ·rw [hg]; unfold ltOf at hl; rw [decide_eq_true_iff] at hl; rw [decide_eq_false_iff_not]; show ¬ (0≤fq p at_); omega
   ·show _=some (ltOf fq p at_,_); rw [hl]
  ·have hl':ltOf fq p at_=false:=by simpa using hl
   refine ⟨t,?_,Ev.ct (by rw [hg]; rfl) (Ev.bind (xR _ _) (Ev.ct ?_ (Ev.of ?_)))⟩
   ·rw [Bj (by rw [hm]; exact hl') h.ri]; exact h
   ·rw [hg]; unfold ltOf at hl'; rw [decide_eq_false_iff_not] at hl'; rw [decide_eq_true_iff]; show 0≤fq p at_; omega
   ·show _=some (ltOf fq p at_,_); rw [hl']
theorem wk {k:bB}:∀ C P:List MK,(P++C).length≤100000→(∀ m∈P,m.fK≠k)→
  ((∀ m∈C,m.fK≠k)∧El (fun n j=>eh.l0 n (P++C) k j (P.length:Int)) (.inl (((P++C).length:Int),false)))∨
  (∃ A m B,P++C=A++m::B∧m.fK=k∧El (fun n j=>eh.l0 n (P++C) k j (P.length:Int)) (.inr (A.length:Int)))
 | [],P,hl,hP=>by
  refine .inl ⟨fun m hm=>(by cases hm),El.step (fun _ _=>by rw [eh.l0]) ?_⟩
  rw [List.append_nil,dF (by omega:¬ (P.length:Int)<(P.length:Int))]
  exact El.pure
 | c::C,P,hl,hP=>by
  have hlt:P.length<(P++c::C).length:=sM
  by_cases hc:c.fK=k
  ·refine .inr ⟨P,c,C,rfl,hc,El.step (fun _ _=>by rw [eh.l0]) ?_⟩
   exact El.ct (dT om) (El.an ⟨om,om⟩ (El.ct (by rw [pH,dT hc]) El.pure))
  ·have e:P++c::C=(P++[c])++C:=sM
   have hstep:∀ {v},El (fun n j=>eh.l0 n (P++c::C) k j (((P++[c]).length:Nat):Int)) v→El (fun n j=>eh.l0 n (P++c::C) k j (P.length:Int)) v:=fun G=>by
    refine El.step (fun _ _=>by rw [eh.l0]) ?_
    refine El.ct (dT om) (El.an ⟨om,om⟩ (El.cf (by rw [pH,dF hc]) ?_))
    rw [Fb om]; rwa [List.length_append] at G
   rcases wk C (P++[c]) (by rw [← e]; exact hl) (fun m hm=>by
     rcases List.mem_append.1 hm with hm | hm
     ·exact hP m hm
     ·rw [List.mem_singleton.1 hm]; exact hc) with ⟨h1,h2⟩ | ⟨A,m,B,h1,h2,h3⟩
   ·rw [← e] at h2
    exact .inl ⟨fun m hm=>(List.mem_cons.1 hm).elim (fun e=>e ▸ hc) (h1 m),hstep h2⟩
   ·rw [← e] at h1 h3
    exact .inr ⟨A,m,B,h1,h2,hstep h3⟩
theorem yj {k:bB}:∀ C P:List MK,(P++C).length≤100000→
  El (fun n j=>eZ.l0 n (P++C) k j (P.length:Int)) (((P.length+(C.takeWhile fun m=>qG m.fK k).length:Nat):Int),false)
 | [],P,hl=>by
  refine El.step (fun _ _=>by rw [eZ.l0]) ?_
  rw [List.append_nil,dF (by omega:¬ (P.length:Int)<(P.length:Int))]
  exact El.pure
 | c::C,P,hl=>by
  have hlt:P.length<(P++c::C).length:=sM
  by_cases hc:qG c.fK k=true
  ·have e:P++c::C=(P++[c])++C:=sM
   have h:=yj (k:=k) C (P++[c]) (by rw [← e]; exact hl)
   refine El.step (fun _ _=>by rw [eZ.l0]) ?_
   refine El.ct (dT om) (El.an ⟨om,om⟩ (El.bind (Ev.of (by rw [pH]; exact Gu _ _)).el (El.ct hc ?_)))
   rw [Fb om,List.takeWhile_cons,hc]
   rw [← e,List.length_append] at h
   simp only [List.length_cons,List.length_nil,if_true] at h ⊢
   rwa [show P.length+((List.takeWhile (fun m=>qG m.fK k) C).length+1)=P.length+(0+1)+(List.takeWhile (fun m=>qG m.fK k) C).length by omega]
  ·have hc':qG c.fK k=false:=by simpa using hc
   refine El.step (fun _ _=>by rw [eZ.l0]) ?_
   refine El.ct (dT om) (El.an ⟨om,om⟩ (El.bind (Ev.of (by rw [pH]; exact Gu _ _)).el (El.cf hc' ?_)))
   rw [List.takeWhile_cons,hc']
   exact El.pure
theorem CE {k:bB} {at_:Pos}:∀ {M:List MK},(∀ m∈M,m.fK≠k)→(M.take (M.takeWhile fun m=>qG m.fK k).length++[⟨k,at_⟩])++M.drop (M.takeWhile fun m=>qG m.fK k).length=putM M k at_
 | [],_=>rfl
 | m::M,h=>by
  rw [putM,if_neg (h m List.mem_cons_self),List.takeWhile_cons]
  by_cases h2:qG m.fK k=true
  ·rw [if_pos h2,if_pos h2,← CE fun x hx=>h x (List.mem_cons_of_mem _ hx)]; rfl
  ·rw [if_neg h2,if_neg h2]; rfl
theorem zD {k:bB} {at_:Pos} {m:MK} {B:List MK} (hm:m.fK=k):∀ {A:List MK},nL (A++m::B)→gM (A++m::B) k=some m.eH∧(ltOf fq m.eH at_=true→(A++m::B).set A.length ⟨m.fK,at_⟩=putM (A++m::B) k at_)
 | [],_=>⟨by show gM (m::B) k=_; rw [gM,if_pos hm],fun hl=>by show _=putM (m::B) k at_; rw [putM,if_pos hm,if_pos hl,hm]; rfl⟩
 | a::A,h=>by
  have hc:=List.pairwise_cons.1 h
  have ha:qG a.fK k=true:=by rw [← hm]; exact hc.1 m sM
  have hne:a.fK≠k:=fun e=>by rw [e,qZ] at ha; cases ha
  obtain ⟨i1,i2⟩:=zD (at_:=at_) hm (A:=A) hc.2
  refine ⟨by show gM (a::(A++m::B)) k=_; rw [gM,if_neg hne,i1],fun hl=>?_⟩
  show a::(A++m::B).set A.length _=putM (a::(A++m::B)) k at_
  rw [putM,if_neg hne,if_pos ha,i2 hl]
theorem uH {M:List MK} (hs:nL M) (hl:M.length≤1000) (k:bB) (at_:Pos):Ev (fun n=>eZ.f n M k at_) (putM M k at_,onA (gM M k) at_):=by
 unfold eZ.f
 rcases wk (k:=k) M [] (by simp; omega) (fun m hm=>by cases hm) with ⟨h1,h2⟩ | ⟨A,m,B,h1,h2,h3⟩
 ·have hg:Ev (fun n=>eh.f n M k) (-1):=by
   unfold eh.f
   exact Ev.bind h2.diag (by simp only [fall]; exact Ev.pure)
  have hp:=yj (k:=k) M [] (by simp; omega)
  have ht:(M.takeWhile fun m=>qG m.fK k).length≤M.length:=(List.takeWhile_prefix _).length_le
  simp only [List.nil_append,List.length_nil,Nat.zero_add] at hp
  generalize hn:(M.takeWhile fun m=>qG m.fK k).length=t at hp ht
  refine Ev.bind hg (Ev.cf rfl (Ev.bind hp.diag ?_))
  simp only [Int.toNat_natCast,List.drop_zero,List.nil_append,List.length_nil,Nat.zero_add,List.length_take,List.length_append,List.length_singleton,List.length_drop,List.take_length]
  refine Ev.an ⟨om,om,ht⟩ (Ev.an ⟨om,om⟩ (Ev.an ⟨om,om⟩ (Ev.an ⟨om,ht,Nat.le_refl _⟩ (Ev.an ⟨om,om⟩ (Ev.of ?_)))))
  rw [rU h1,← CE h1,hn]; rfl
 ·simp only [List.nil_append,List.length_nil] at h1 h3
  have hg:Ev (fun n=>eh.f n M k) (A.length:Int):=by
   unfold eh.f
   exact Ev.bind h3.diag (by simp only [fall]; exact Ev.pure)
  have hlen:A.length<M.length:=by rw [h1]; simp
  have hat:MK.K.at M (A.length:Int)=m:=by rw [h1]; exact pH _ _ _
  obtain ⟨i1,i2⟩:=zD (at_:=at_) h2 (A:=A) (B:=B) (by rw [← h1]; exact hs)
  rw [← h1] at i1 i2
  refine Ev.bind hg (Ev.ct (dT om) (Ev.an ⟨om,om⟩ (Ev.bind (Ev.of (by rw [hat]; exact tI _ _)) ?_)))
  rw [i1]
  by_cases hb:ltOf fq m.eH at_=true
  ·refine Ev.cf (by rw [hb]; rfl) ?_
   simp only [List.nil_append,List.length_nil,Nat.zero_add,Int.toNat_natCast]
   refine Ev.an ⟨om,om⟩ (Ev.an ⟨om,om⟩ (Ev.of ?_))
   have hd:M.getD A.length default=m:=by rw [h1]; simp [List.getElem?_append_right]
   rw [hd,i2 hb]; show _=some (_,ltOf fq m.eH at_); rw [hb]
  ·have hb':ltOf fq m.eH at_=false:=by simpa using hb
   refine Ev.ct (by rw [hb']; rfl) (Ev.of ?_)
   rw [Bj (by rw [i1]; exact hb') hs]; show _=some (_,ltOf fq m.eH at_); rw [hb']
theorem H7 {M:List MK} (hs:nL M) (hl:M.length≤1000) (k:bB):(gM M k=none∧Ev (fun n=>eh.f n M k) (-1))∨∃ i:Nat,i<M.length∧gM M k=some (MK.K.at M (i:Int)).eH∧Ev (fun n=>eh.f n M k) (i:Int):=by
 rcases wk (k:=k) M [] (by simp; omega) (fun m hm=>by cases hm) with ⟨h1,h2⟩ | ⟨A,m,B,h1,h2,h3⟩
 ·exact .inl ⟨rU h1,by unfold eh.f; exact Ev.bind h2.diag (by simp only [fall]; exact Ev.pure)⟩
 ·simp only [List.nil_append,List.length_nil] at h1 h3
  refine .inr ⟨A.length,by rw [h1]; simp,?_,by unfold eh.f; exact Ev.bind h3.diag (by simp only [fall]; exact Ev.pure)⟩
  rw [h1,pH]; exact (zD (at_:=m.eH) h2 (by rw [← h1]; exact hs)).1
structure I2 (v:aJ) (w:bA):Prop where
 rel:xw v w
 jo:w.fD.length≤50
 len:∀ room,(lH w room).fL.length≤1000
theorem IV:I2 ⟨[]⟩ ⟨[]⟩:=⟨GC,sM,fun _=>by simp [lH]⟩
inductive qv:aJ→bA→List Event→aJ→bA→Prop
 | nil {v w}:I2 v w→qv v w [] v w
 | cons {v w e v1 w1 l v' w'}:I2 v w→Ev (fun k=>iW.f k v e) (0,v1)→Ev (fun k=>eB.f k w e) (w1,0)→qv v1 w1 l v' w'→qv v w (e::l) v' w'
theorem qv.ok {v w l v' w'} (h:qv v w l v' w'):I2 v w:=by cases h <;> assumption
theorem qv.ok2 {v w l v' w'} (h:qv v w l v' w'):I2 v' w':=by
 induction h with
 | nil h=>exact h
 | cons _ _ _ _ ih=>exact ih
theorem qv.app {v w l v1 w1 l' v' w'} (h:qv v w l v1 w1) (h':qv v1 w1 l' v' w'):qv v w (l++l') v' w':=by
 induction h with
 | nil=>exact h'
 | cons o a b _ ih=>exact .cons o a b (ih h')
theorem dropE {l:List Event} {x:Nat} (hx:x<l.length):l.drop x=ev l x::l.drop (x+1):=by
 rw [List.drop_eq_getElem_cons hx]; unfold ev; rw [gD,gE hx]; rfl
theorem uW {room:BA} {L:List Event} (hc:rz room L) (hl:L.length≤100):∀ n i:Nat,L.length-i=n→i≤L.length→∀ (v:aJ) (w:bA),I2 v w→w.fD.length+n≤50→lH w room=⟨room,L.take i⟩→
  ∃ v' w',qv v w (L.drop i) v' w'∧w'.fD.length≤w.fD.length+n∧lH w' room=⟨room,L⟩∧∀ r,r≠room→lH w' r=lH w r:=by
 intro n
 induction n with
 | zero=>
  intro i hd hi v w hr hw ho
  obtain rfl:i=L.length:=om
  rw [List.drop_length]
  rw [List.take_length] at ho
  exact ⟨v,w,.nil hr,om,ho,fun _ _=>rfl⟩
 | succ n ih=>
  intro i hd hi v w hr hw ho
  have hi2:i<L.length:=om
  obtain ⟨h1,h2,h3⟩:=hc i hi2
  have ho2:lH w (ev L i).ab=⟨room,L.take i⟩:=by rw [h2]; exact ho
  obtain ⟨v1,w1,a1,a2,a3,_,a5⟩:=I0 hr.rel h1 om (by rw [ho2]; show (L.take i).length≤_; rw [List.length_take]; omega)
  rw [ho2] at a1 a2 a5
  rw [h3] at a1 a2 a5
  obtain ⟨a6,a7⟩:=a5 rfl
  have ht:L.take (i+1)=L.take i++[ev L i]:=by
   rw [List.take_succ_eq_append_getElem hi2]; unfold ev; rw [gD,gE hi2]; rfl
  have hv1:I2 v1 w1:=⟨a3,om,fun r=>by
   rw [a6 r]
   split
   ·show (L.take i++[ev L i]).length≤1000
    rw [List.length_append,List.length_take,List.length_singleton]; omega
   ·exact hr.len r⟩
  obtain ⟨v',w',b1,b3,b4,b5⟩:=ih (i+1) om om v1 w1 hv1 om (by rw [a6,h2,if_pos rfl,ht])
  rw [dropE hi2]
  refine ⟨v',w',.cons hr a1 a2 b1,om,b4,fun r hne=>?_⟩
  rw [b5 r hne,a6,h2,if_neg hne]
def xQ:BA:=⟨#[33,114,58,115,49]⟩
def yk:BA:=⟨#[33,113,58,115,50]⟩
theorem GY {A B:List Event} (ca:rz xQ A) (cb:rz yk B) (la:A.length≤9) (lb:B.length≤9):∃ v w,qv ⟨[]⟩ ⟨[]⟩ (A++B) v w∧lH w xQ=⟨xQ,A⟩∧lH w yk=⟨yk,B⟩:=by
 have hne:yk≠xQ:=dc
 obtain ⟨v1,w1,c1,c3,c4,c5⟩:=uW ca om _ 0 rfl om ⟨[]⟩ ⟨[]⟩ IV (by simp; omega) (by simp [lH])
 obtain ⟨v2,w2,d1,d3,d4,d5⟩:=uW cb om _ 0 rfl om v1 w1 c1.ok2 (by simp at c3; omega) (by rw [c5 _ hne]; simp [lH])
 exact ⟨v2,w2,c1.app d1,by rw [d5 _ hne.symm]; exact c4,d4⟩
theorem Er {a b:List dA} (ha:a.length≤maxLen∧∀ x∈a,dA.ok x) (hb:b.length≤maxLen∧∀ x∈b,dA.ok x):∃ L v w,Ev (fun k=>oM.f k a b) L∧L.length≤18∧qv ⟨[]⟩ ⟨[]⟩ L v w:=by
 have r0:fc.f 0=some xQ:=rfl
 have r1:fc.f 1=some yk:=rfl
 obtain ⟨A,a1,a2,a3⟩:=CI (room:=xQ) (List.mem_of_getElem? (i:=0) rfl) ha.1 ha.2
 obtain ⟨B,b1,b2,b3⟩:=CI (room:=yk) (List.mem_of_getElem? (i:=1) rfl) hb.1 hb.2
 have la:=a2.len
 have lb:=b2.len
 obtain ⟨v,w,h,_⟩:=GY a3 b3 la lb
 refine ⟨A++B,v,w,?_,by rw [List.length_append]; omega,h⟩
 unfold oM.f
 refine Ev.bind (Ev.of r0) (Ev.bind a1 (Ev.an ⟨by simp; omega,by simp; omega⟩ (Ev.bind (Ev.of r1) (Ev.bind b1 (Ev.an ⟨by simp; omega,by simp; omega⟩ (Ev.of sM))))))
theorem rg_of {m:bp} {d:aK} (h:Cz m d) (hl:d.fL.length≤1000):RG d.fL:=⟨h.uV,h.par,h.lE,h.usr,hl⟩
def HA (w:bA):List BA:=w.fD.map (·.ab)
theorem J2 {v:aJ} {w:bA} (hr:xw v w) (u:BA):u∈v.bC.map (·.1)↔u∈HA w:=by
 rw [nB]
 by_cases h:∃ d∈w.fD,d.ab=u
 ·obtain ⟨d,hd,rfl⟩:=h
  obtain ⟨m,h1,_⟩:=hr.LS d hd
  rw [h1]
  exact ⟨fun _=>List.mem_map.2 ⟨d,hd,rfl⟩,fun _=>rfl⟩
 ·have h2:=hr.LK u fun d hd he=>h ⟨d,hd,he⟩
  rw [h2]
  exact ⟨fun k=>(by cases k),fun k=>by obtain ⟨d,hd,he⟩:=List.mem_map.1 k; exact absurd ⟨d,hd,he⟩ h⟩
theorem DX {v:aJ} {w:bA} (hr:xw v w) (hl:w.fD.length≤1000):gJ.f v=some (HA w):=by
 have hp:(v.bC.map (·.1)).Perm (HA w):=(List.perm_ext_iff_of_nodup hr.ndv hr.nd).2 (J2 hr)
 have hlen:v.bC.length=w.fD.length:=by have:=hp.length_eq; unfold HA at this; rwa [List.length_map,List.length_map] at this
 have e:pz (v.bC.map (·.1))=HA w:=AU (B5 hr.ndv) hr.ri fun u=>by rw [GN,J2 hr]
 unfold gJ.f
 simp only [an]
 rw [if_pos om,e]
theorem A1 (P:List BA) (c:BA) (C:List BA) (d:BA):(P++c::C).getD P.length d=c:=by
 rw [gD,List.getElem?_append_right om,Nat.sub_self]; rfl
section
variable {p:Nat→BA→Option Bool} {b:BA→Bool} (hp:∀ x,Ev (fun k=>p k x) (b x))
include hp
theorem vE:∀ C P:List BA,(P++C).length≤100000→
  (∃ A c D,C=A++c::D∧(∀ a∈A,b a=false)∧b c=true∧El (fun k j=>aA.l0 k (P++C) (p k) j (P.length:Int)) (.inr ((P.length+A.length:Nat):Int)))∨
  ((∀ a∈C,b a=false)∧El (fun k j=>aA.l0 k (P++C) (p k) j (P.length:Int)) (.inl (((P++C).length:Int),false)))
 | [],P,hl=>by
  right
  refine ⟨fun a h=>(by cases h),?_⟩
  refine El.step (fun _ _=>by rw [aA.l0]) ?_
  rw [List.append_nil]
  exact El.cf sM (by simpa using El.pure)
 | c::C,P,hl=>by
  have hlen:(P++c::C).length=P.length+C.length+1:=by rw [List.length_append,List.length_cons]; omega
  have head:∀ r,El (fun k j=>cond (b c) (some (.inr (P.length:Int))) (aA.l0 k (P++c::C) (p k) j ((P.length+1:Nat):Int))) r→
    El (fun k j=>aA.l0 k (P++c::C) (p k) j (P.length:Int)) r:=fun r h=>by
   refine El.step (fun _ _=>by rw [aA.l0]) ?_
   rw [kH (show P.length≤1000000 by omega),Int.toNat_natCast,A1]
   exact El.ct (dT om) (El.an ⟨om,om⟩ (El.bind (hp c).el h))
  cases hb:b c with
  | true=>
   left
   refine ⟨[],c,C,rfl,fun a h=>(by cases h),hb,head _ ?_⟩
   rw [hb]
   exact El.pure
  | false=>
   rw [hb] at head
   have e:P++c::C=(P++[c])++C:=by rw [List.append_assoc]; rfl
   have el:(P++[c]).length=P.length+1:=by rw [List.length_append]; rfl
   rcases vE C (P++[c]) (by rw [← e]; exact hl) with ⟨A,c',D,h1,h2,h3,h4⟩ | ⟨h1,h2⟩
   ·left
    rw [← e,el] at h4
    refine ⟨c::A,c',D,by rw [h1]; rfl,fun a ha=>?_,h3,head _ ?_⟩
    ·rcases List.mem_cons.1 ha with rfl | ha
     ·exact hb
     ·exact h2 a ha
    ·rw [show P.length+(c::A).length=P.length+1+A.length by rw [List.length_cons]; omega]
     exact h4
   ·right
    rw [← e,el] at h2
    refine ⟨fun a ha=>?_,head _ h2⟩
    rcases List.mem_cons.1 ha with rfl | ha
    ·exact hb
    ·exact h1 a ha
theorem yF {xs:List BA} (hl:xs.length≤100000):Ev (fun k=>cN.f k xs (p k)) (xs.any b):=by
 unfold cN.f aA.f
 rcases vE hp xs [] hl with ⟨A,c,D,h1,h2,h3,h4⟩ | ⟨h1,h2⟩
 ·rw [show xs.any b=true from List.any_eq_true.2 ⟨c,by rw [h1]; simp,h3⟩]
  exact Ev.bind (Ev.bind h4.diag (Ev.of rfl)) (Ev.of (by rw [dT om]))
 ·rw [show xs.any b=false from List.any_eq_false.2 fun a ha=>by rw [h1 a ha]; simp]
  exact Ev.bind (Ev.bind h2.diag (Ev.of rfl)) (Ev.of rfl)
theorem wu:∀ (C A B:List BA),B≠[]→(A++B++C).length≤100000→
  ∃ cur:List BA,El (fun k j=>slices_DeleteFunc_string_xo.l0 k (p k) j (A.length:Int) ((A.length+B.length:Nat):Int) (A++B++C)) (((A++C.filter fun x=>!b x).length:Int),((A++B++C).length:Int),false,cur)∧cur.take (A++C.filter fun x=>!b x).length=A++C.filter (fun x=>!b x)∧(A++C.filter fun x=>!b x).length<cur.length
 | [],A,B,hB,hl=>by
  have hb:0<B.length:=List.length_pos_iff.2 hB
  refine ⟨A++B,?_,sM,by simp; omega⟩
  refine El.step (fun _ _=>by rw [slices_DeleteFunc_string_xo.l0]) ?_
  rw [List.append_nil]
  refine El.cf sM ?_
  have:decide (((A.length+B.length:Nat):Int)<((A++B).length:Int))=false:=sM
  rw [this]
  simp only [List.filter_nil,List.append_nil]
  rw [show ((A++B).length:Int)=((A.length+B.length:Nat):Int) by rw [List.length_append]]
  exact El.pure
 | c::C,A,B,hB,hl=>by
  have hb:0<B.length:=List.length_pos_iff.2 hB
  have hlen:(A++B++c::C).length=A.length+B.length+C.length+1:=by simp; omega
  have hAB:A.length+B.length=(A++B).length:=sM
  have hget:∀ d,(A++B++c::C).getD (A.length+B.length) d=c:=fun d=>by rw [hAB]; exact A1 _ _ _ _
  have head:∀ r,El (fun k j=>cond (!b c) (slices_DeleteFunc_string_xo.l0 k (p k) j ((A.length+1:Nat):Int) ((A.length+B.length+1:Nat):Int) ((A++B++c::C).set A.length c)) (slices_DeleteFunc_string_xo.l0 k (p k) j (A.length:Int) ((A.length+B.length+1:Nat):Int) (A++B++c::C))) r→
    El (fun k j=>slices_DeleteFunc_string_xo.l0 k (p k) j (A.length:Int) ((A.length+B.length:Nat):Int) (A++B++c::C)) r:=fun r h=>by
   refine El.step (fun _ _=>by rw [slices_DeleteFunc_string_xo.l0]) ?_
   rw [kH (show A.length+B.length≤1000000 by omega),kH (show A.length≤1000000 by omega),Int.toNat_natCast,Int.toNat_natCast,hget]
   refine El.ct (dT om) (El.an ⟨om,om⟩ (El.bind (hp c).el ?_))
   cases hbc:b c with
   | true=>rw [hbc] at h; exact h
   | false=>rw [hbc] at h; exact El.an ⟨om,om⟩ h
  cases hbc:b c with
  | true=>
   rw [hbc] at head
   have e:A++B++c::C=A++(B++[c])++C:=sM
   obtain ⟨cur,h1,h2,h3⟩:=wu C A (B++[c]) sM (by rw [← e]; exact hl)
   rw [← e,show A.length+(B++[c]).length=A.length+B.length+1 by simp; omega] at h1
   refine ⟨cur,head _ ?_,?_,?_⟩
   ·rw [List.filter_cons,hbc]; exact h1
   ·rw [List.filter_cons,hbc]; exact h2
   ·rw [List.filter_cons,hbc]; exact h3
  | false=>
   rw [hbc] at head
   obtain ⟨y,B',rfl⟩:∃ y B',B=y::B':=by
    cases B with
    | nil=>exact absurd rfl hB
    | cons y B'=>exact ⟨y,B',rfl⟩
   have e:(A++(y::B')++c::C).set A.length c=(A++[c])++(B'++[c])++C:=by
    rw [List.append_assoc,List.set_append_right _ _ om,Nat.sub_self]
    simp
   have el:((A++[c])++(B'++[c])++C).length=(A++(y::B')++c::C).length:=by rw [← e,List.length_set]
   obtain ⟨cur,h1,h2,h3⟩:=wu C (A++[c]) (B'++[c]) sM (by rw [el]; exact hl)
   rw [el,← e,show (A++[c]).length+(B'++[c]).length=A.length+(y::B').length+1 by simp; omega,show (A++[c]).length=A.length+1 by simp] at h1
   have ef:(A++[c])++C.filter (fun x=>!b x)=A++(c::C).filter (fun x=>!b x):=by
    rw [List.filter_cons,hbc]; simp
   rw [ef] at h1 h2 h3
   exact ⟨cur,head _ h1,h2,h3⟩
theorem vL {xs:List BA} (hl:xs.length≤100000):Ev (fun k=>slices_DeleteFunc_string_xo.f k xs (p k)) (xs.filter fun x=>!b x):=by
 unfold slices_DeleteFunc_string_xo.f aA.f
 rcases vE hp xs [] hl with ⟨A,c,D,h1,h2,h3,h4⟩ | ⟨h1,h2⟩
 ·obtain ⟨cur,d1,d2,d3⟩:=wu hp D A [c] sM (by rw [List.append_assoc]; show (A++c::D).length≤_; rw [← h1]; exact hl)
  have e:A++[c]++D=xs:=by rw [h1,List.append_assoc]; rfl
  have ef:xs.filter (fun x=>!b x)=A++D.filter fun x=>!b x:=by
   rw [h1,List.filter_append,List.filter_cons,h3,List.filter_eq_self.2 fun a ha=>by rw [h2 a ha]; rfl]
   rfl
  have hA:A.length<xs.length:=by rw [h1]; simp
  rw [e] at d1
  rw [ef]
  refine Ev.bind (Ev.bind h4.diag (Ev.of rfl)) (Ev.cf ?_ (Ev.bind (a:=(((A++D.filter fun x=>!b x).length:Int),((xs.length:Int)),false,cur)) ?_ (Ev.an ⟨by show (0:Int)≤((A++D.filter fun x=>!b x).length:Int); omega,by show (((A++D.filter fun x=>!b x).length:Int)).toNat<_; rw [Int.toNat_natCast]; exact d3⟩ (Ev.an ⟨by show (0:Int)≤((A++D.filter fun x=>!b x).length:Int); omega,om,by
    show (((A++D.filter fun x=>!b x).length:Int)).toNat≤(cur.take (((A++D.filter fun x=>!b x).length:Int)).toNat++List.replicate (cur.length-(((A++D.filter fun x=>!b x).length:Int)).toNat) eE).length
    rw [Int.toNat_natCast,d2]
    simp only [List.length_append]
    exact Nat.le_add_right _ _⟩ (Ev.of ?_)))))
  ·have:(((([]:List BA).length+A.length:Nat):Int)==(-1))=false:=by
    rw [beq_eq_false_iff_ne]; omega
   exact this
  ·have e2:av ((([]:List BA).length+A.length:Nat)+1)=((A.length+[c].length:Nat):Int):=by
    rw [kH (by simp; omega)]; simp
   have e3:((([]:List BA).length+A.length:Nat):Int)=(A.length:Int):=sM
   rw [e2,e3]
   exact d1.diag
  ·show some (((cur.take (((A++D.filter fun x=>!b x).length:Int)).toNat++_).take (((A++D.filter fun x=>!b x).length:Int)).toNat).drop 0)=_
   rw [Int.toNat_natCast,d2,List.drop_zero,List.take_left]
 ·rw [List.filter_eq_self.2 fun a ha=>by rw [h1 a ha]; rfl]
  exact Ev.bind (Ev.bind h2.diag (Ev.of rfl)) (Ev.ct rfl Ev.pure)
end
theorem I1 {w:bA} (hn:(w.fD.map (·.ab)).Nodup) {d:aK} (hd:d∈w.fD):lH w d.ab=d:=by
 unfold lH
 have:∀ l:List aK,(l.map (·.ab)).Nodup→d∈l→l.find? (fun x=>decide (x.ab=d.ab))=some d:=by
  intro l
  induction l with
  | nil=>intro _ h; cases h
  | cons x l ih=>
   intro h1 h2
   rw [List.map_cons,List.nodup_cons] at h1
   by_cases e:x.ab=d.ab
   ·rw [List.find?_cons_of_pos (by simpa using e)]
    rcases List.mem_cons.1 h2 with rfl | h2
    ·rfl
    ·exact absurd (List.mem_map.2 ⟨d,h2,e.symm⟩) h1.1
   ·rw [List.find?_cons_of_neg (by simpa using e)]
    rcases List.mem_cons.1 h2 with rfl | h2
    ·exact absurd rfl e
    ·exact ih h1.2 h2
 rw [this _ hn hd]; rfl
def jb (w:bA) (u room:BA):Bool:=L0 (nT u (mU (tb (lH w room).fL)) none)
def yf (w:bA) (u:BA):List BA:=(HA w).filter (jb w u)
theorem CW (w:bA) (u:BA):(yf w u).length≤w.fD.length:=by
 unfold yf HA
 have:=List.length_filter_le (jb w u) (w.fD.map (·.ab))
 rwa [List.length_map] at this
section
variable {v:aJ} {w:bA} (hr:xw v w) (hl:w.fD.length≤50) (hd:∀ room,(lH w room).fL.length≤1000)
include hr hl hd
theorem jv (u room:BA):Ev (fun k=>bP.f k v room u) (jb w u room):=by
 obtain ⟨m,m1,m2,_⟩:=pA hr room
 unfold bP.f
 exact Ev.bind (Ev.of m1) (Ev.bind (Br (rg_of m2 (hd room)) m2.Js u) Ev.pure)
theorem jr (u room:BA):Ev (fun k=>er.f k w room u) (jb w u room):=by
 obtain ⟨m,m1,m2,_⟩:=pA hr room
 unfold er.f
 exact Ev.bind (uf om) (Ev.bind (wq (rg_of m2 (hd room)) u) Ev.pure)
theorem Bf (u:BA):Ev (fun k=>gH.f k v u) (yf w u):=by
 have hrl:(HA w).length≤100000:=by unfold HA; rw [List.length_map]; omega
 have pr:∀ x,Ev (fun k=>dO.f k x v u) (!jb w u x):=fun x=>by
  unfold dO.f
  exact Ev.bind (jv hr hl hd u x) Ev.pure
 have h:=vL (p:=fun k x=>dO.f k x v u) (b:=fun x=>!jb w u x) pr hrl
 have e:(HA w).filter (fun x=>!!jb w u x)=yf w u:=by
  unfold yf; congr 1; funext x; rw [Bool.not_not]
 rw [e] at h
 unfold gH.f
 exact Ev.bind (Ev.of (DX hr om)) (Ev.bind h Ev.pure)
theorem Ah (u:BA):Ev (fun k=>dZ.f k w u) (yf w u):=by
 have key:∀ n x:Nat,w.fD.length-x=n→x≤w.fD.length→∀ out:List BA,out.length≤x→El (fun k j=>dZ.l0 k w u j (x:Int) out) ((w.fD.length:Int),false,out++((w.fD.drop x).map (·.ab)).filter (jb w u)):=by
  intro n
  induction n with
  | zero=>
   intro x hd hx out ho
   obtain rfl:x=w.fD.length:=om
   refine El.step (fun _ _=>by rw [dZ.l0]) ?_
   rw [List.drop_length]
   exact El.cf sM (by simpa using El.pure)
  | succ n ih=>
   intro x hn hx out ho
   have hx2:x<w.fD.length:=om
   have e1:aK.K.at w.fD (x:Int)=w.fD[x]:=by rw [ET _ _ default hx2,gD,gE hx2]; rfl
   have eo:lH w (w.fD[x]).ab=w.fD[x]:=I1 hr.nd (List.getElem_mem hx2)
   have hj:Ev (fun k=>jC.f k w.fD[x] u) (jb w u (w.fD[x]).ab):=by
    obtain ⟨m,m1,m2,_⟩:=pA hr (w.fD[x]).ab
    have:=wq (rg_of m2 (hd _)) u
    unfold jb
    rw [eo] at this ⊢
    exact this
   refine El.step (fun _ _=>by rw [dZ.l0]) ?_
   rw [kH (show x≤1000000 by omega),e1,List.drop_eq_getElem_cons hx2,List.map_cons,List.filter_cons]
   refine El.ct (dT om) (El.an ⟨om,om⟩ (El.bind hj.el ?_))
   cases hb:jb w u (w.fD[x]).ab with
   | true=>
    have:=ih (x+1) om om (out++[(w.fD[x]).ab]) (by rw [List.length_append,List.length_singleton]; omega)
    rw [List.append_assoc] at this
    exact El.an ⟨om,om⟩ (El.an ⟨by rw [List.length_singleton]; omega,by rw [List.length_singleton]; omega⟩ this)
   | false=>exact ih (x+1) om om out om
 unfold dZ.f
 exact Ev.bind (key _ 0 rfl om [] sM).diag (Ev.of (by rw [List.drop_zero]; rfl))
theorem Ad (u f:BA):Ev (fun k=>fa.f k v u f) ((yf w u).any (jb w f)):=by
 have pr:∀ x,Ev (fun k=>dN.f k x v f) (jb w f x):=fun x=>by
  unfold dN.f
  exact Ev.bind (jv hr hl hd f x) Ev.pure
 have h:=yF (p:=fun k x=>dN.f k x v f) (b:=jb w f) pr (xs:=yf w u) (by have:=CW w u; omega)
 unfold fa.f
 exact Ev.bind (Bf hr hl hd u) (Ev.bind h Ev.pure)
theorem z7 (u f:BA):Ev (fun k=>dP.f k w u f) ((yf w u).any (jb w f)):=by
 have hR:=CW w u
 have key:∀ n x:Nat,(yf w u).length-x=n→x≤(yf w u).length→∃ r,El (fun k j=>dP.l0 k w f (yf w u) j (x:Int)) r∧((((yf w u).drop x).any (jb w f)=true∧r = .inr true)∨(((yf w u).drop x).any (jb w f)=false∧∃ y,r = .inl y)):=by
  intro n
  induction n with
  | zero=>
   intro x hn hx
   obtain rfl:x=(yf w u).length:=om
   refine ⟨.inl (((yf w u).length:Int),false),?_,.inr ⟨by rw [List.drop_length]; rfl,_,rfl⟩⟩
   refine El.step (fun _ _=>by rw [dP.l0]) ?_
   exact El.cf sM (by simpa using El.pure)
  | succ n ih=>
   intro x hn hx
   have hx2:x<(yf w u).length:=om
   rw [Jq hx2,List.any_cons]
   have hj:=jr hr hl hd f ((yf w u).getD x ⟨#[]⟩)
   cases hb:jb w f ((yf w u).getD x ⟨#[]⟩) with
   | true=>
    refine ⟨.inr true,?_,.inl ⟨rfl,rfl⟩⟩
    refine El.step (fun _ _=>by rw [dP.l0]) ?_
    rw [hb] at hj
    rw [Int.toNat_natCast]
    exact El.ct (dT om) (El.an ⟨om,om⟩ (El.bind hj.el (El.ct rfl El.pure)))
   | false=>
    obtain ⟨r,r1,r2⟩:=ih (x+1) om om
    refine ⟨r,?_,by simpa using r2⟩
    refine El.step (fun _ _=>by rw [dP.l0]) ?_
    rw [hb] at hj
    rw [Int.toNat_natCast,kH (show x≤1000000 by omega)]
    exact El.ct (dT om) (El.an ⟨om,om⟩ (El.bind hj.el (El.cf rfl r1)))
 obtain ⟨r,r1,r2⟩:=key _ 0 rfl om
 rw [List.drop_zero] at r2
 unfold dP.f
 refine Ev.bind (Ah hr hl hd u) ?_
 rcases r2 with ⟨a,rfl⟩ | ⟨a,y,rfl⟩
 ·rw [a]; exact Ev.bind r1.diag (Ev.of rfl)
 ·rw [a]; exact Ev.bind r1.diag (Ev.of rfl)
end
theorem IG {v:aJ} {w:bA} (hr:xw v w) (hl:w.fD.length≤50) {room:BA} (hd:(lH w room).fL.length≤1000) (hp:∀ i,i<(lH w room).fL.length→(ev (lH w room).fL i).ag.length≤4) (id th:BA):
  ∃ c,Ev (fun _=>jk.f v room id th) c∧Ev (fun k=>oH.f k w room id th) c:=by
 obtain ⟨m,h1,h2,_⟩:=pA hr room
 have hat:=sn (d:=lH w room) id (by show _≤9223372036854775807; omega)
 unfold jk.f oH.f lh.f eD.f
 rcases tO h2.rel id with ⟨q,h⟩ | ⟨j,q,hj,he,nd,h,hnd⟩
 ·refine ⟨4,Ev.bind (Ev.of h1) (Ev.bind (Ev.of (by rw [h]; rfl)) (Ev.ct rfl Ev.pure)),Ev.bind (uf om) (Ev.bind hat (Ev.ct (by rw [q]; rfl) Ev.pure))⟩
 ·have hev:iJ.f (((mget m.ao id).getD default).fe)=some (ev (lH w room).fL j):=by
   have h4:=hp j hj
   rw [h]
   show iJ.f nd.fe=_
   rw [hnd]
   unfold iJ.f dQ.f
   simp only [an]
   rw [if_pos ⟨om,om⟩]; rfl
  have e1:(some (!(mget m.ao id).isNone))=some true:=by rw [h]; rfl
  have pre:∀ {y:Int},Ev (fun _:Nat=>(fun t656:Event×Bool=>cond (!t656.2) (some 4) (cond (decide (th=eE)) (cond (decide (th=eE)) (some 0) (some 7)) (cond (decide (th=(⟨#[109,97,105,110]⟩:BA))) (cond (decide (t656.1.ae=eE)) (cond (decide (t656.1.ae=eE)) (some 0) (some 7)) (cond (decide (th=id)) (cond (decide (th=id)) (some 0) (some 7)) (cond (decide (th=t656.1.ae)) (some 0) (some 7)))) (cond (decide (th=id)) (cond (decide (th=id)) (some 0) (some 7)) (cond (decide (th=t656.1.ae)) (some 0) (some 7)))))) (ev (lH w room).fL j,true)) y→Ev (fun _:Nat=>(aP.f v room).bind fun t651=>((some (!(mget t651.ao id).isNone)).bind fun t641=>cond (!t641) (some ((⟨eE,eE,([]:List BA),eE,eE,0⟩:Event),false)) (an ((mget t651.ao id).isSome=true) ((iJ.f (((mget t651.ao id).getD default).fe)).bind fun t649=>some (t649,true)))).bind fun t656=>cond (!t656.2) (some 4) (cond (decide (th=eE)) (cond (decide (th=eE)) (some 0) (some 7)) (cond (decide (th=(⟨#[109,97,105,110]⟩:BA))) (cond (decide (t656.1.ae=eE)) (cond (decide (t656.1.ae=eE)) (some 0) (some 7)) (cond (decide (th=id)) (cond (decide (th=id)) (some 0) (some 7)) (cond (decide (th=t656.1.ae)) (some 0) (some 7)))) (cond (decide (th=id)) (cond (decide (th=id)) (some 0) (some 7)) (cond (decide (th=t656.1.ae)) (some 0) (some 7)))))) y:=fun hy=>
   Ev.bind (Ev.of h1) (Ev.bind (Ev.bind (Ev.of e1) (Ev.cf rfl (Ev.an (by rw [h]; rfl) (Ev.bind (Ev.of hev) Ev.pure)))) hy)
  have pre2:∀ {y:Int} {G:Nat→Option Int},Ev G y→Ev (fun k=>(iz.f k w room).bind fun t673=>(eG.f k t673 id).bind fun t676=>cond (decide (t676<0)) (some 4) (an ((0:Int)≤t676∧t676<(t673.fL.length:Int)) (G k))) y:=fun hy=>
   Ev.bind (uf om) (Ev.bind hat (Ev.cf (by rw [q]; exact dF om) (Ev.an ⟨om,om⟩ hy)))
  have hk:Event.K.at (lH w room).fL (ix (lH w room).fL id)=ev (lH w room).fL j:=by rw [q]; exact kg hj
  generalize ht:(ev (lH w room).fL j).ae=own at *
  refine ⟨if th=⟨#[]⟩∨th=id∨(th=⟨#[109,97,105,110]⟩∧own=⟨#[]⟩)∨(own≠⟨#[]⟩∧th=own) then 0 else 7,pre (Ev.of ?_),Ev.bind (uf om) (Ev.bind hat (Ev.cf (by rw [q]; exact dF om) (Ev.an ⟨om,om⟩ (Ev.of ?_))))⟩
  ·simp only [ht]
   by_cases c1:th=⟨#[]⟩
   ·simp [c1]
   ·by_cases c2:th=id
    ·by_cases c3:th=⟨#[109,97,105,110]⟩ <;> by_cases c4:own=⟨#[]⟩ <;> simp [c1,← c2,c3,c4] <;> simp_all
    ·by_cases c3:th=⟨#[109,97,105,110]⟩
     ·by_cases c4:own=⟨#[]⟩
      ·simp [c1,c2,c3,c4]
      ·by_cases c5:th=own <;> simp_all
     ·by_cases c5:th=own
      ·have c4:¬ own=⟨#[]⟩:=fun h=>c1 (c5.trans h)
       simp_all
      ·simp [c1,c2,c3,c5]
  ·rw [hk,ht]
   by_cases c1:th=⟨#[]⟩
   ·simp [c1]
   ·by_cases c2:th=id
    ·simp [c1,c2]
    ·by_cases c3:th=⟨#[109,97,105,110]⟩
     ·by_cases c4:own=⟨#[]⟩
      ·simp [c1,c2,c3,c4]
      ·by_cases c5:th=own <;> simp_all
     ·by_cases c4:own=⟨#[]⟩ <;> by_cases c5:th=own <;> simp_all
def Ai (L:List Event) (id:BA):Pos×Bool:=if ix L id<0 then (⟨0,⟨#[]⟩⟩,false) else (pos (tb L) id,true)
theorem Jt {m:bp} {d:aK} (h:Cz m d) (id:BA):ia.f m id=some (Ai d.fL id):=by
 unfold ia.f eD.f Ai
 rcases tO h.rel id with ⟨q,h1⟩ | ⟨j,q,hj,he,nd,h1,h2⟩
 ·rw [h1,q]; rfl
 ·rw [h1,q,if_neg om]
  have hd:rJ (tb d.fL) id=nd.cK:=by
   unfold rJ
   rw [← h.Js,Am,h1]; rfl
  unfold pos
  rw [hd]; rfl
section
variable {v:aJ} {w:bA} (hr:xw v w) (hl:w.fD.length≤1000)
include hr hl
theorem JM (room id:BA) (hd:(lH w room).fL.length≤1000):Ev (fun _=>fN.f v room id) (Ai (lH w room).fL id)∧Ev (fun k=>kQ.f k w room id) (Ai (lH w room).fL id):=by
 obtain ⟨m,h1,h2,_⟩:=pA hr room
 constructor
 ·unfold fN.f
  exact Ev.bind (Ev.of h1) (Ev.bind (Ev.of (Jt h2 id)) (Ev.of rfl))
 ·unfold kQ.f Ai
  refine Ev.bind (uf om) (Ev.bind (sn id (by show _≤9223372036854775807; omega)) ?_)
  by_cases h:ix (lH w room).fL id<0
  ·rw [if_pos h]; exact Ev.ct (dT h) Ev.pure
  ·rw [if_neg h]; exact Ev.cf (dF h) (Ev.bind (yK (rg_of h2 hd) id) Ev.pure)
end
structure LO (m:jA) (M:List MK):Prop where
 rel:ER m.pW M
 Hs:m.qK.eb=8
 len:m.qK.fl.length≤8
theorem G1 {l:List ak} (hl:l.length≤1000) (e:ak):∃ b,Ev (fun k=>fh.f k l e) b:=by
 have loop:∀ n x:Nat,l.length-x=n→x≤l.length→∃ r,El (fun k j=>b9.l0 k l e j (x:Int)) r:=by
  intro n
  induction n with
  | zero=>
   intro x hd hx
   refine ⟨.inl ((x:Int),false),El.step (fun _ _=>by rw [b9.l0]) ?_⟩
   rw [dF (by omega:¬ (x:Int)<(l.length:Int))]
   exact El.pure
  | succ n ih=>
   intro x hd hx
   by_cases hc:e=ak.K.at l (x:Int)
   ·refine ⟨.inr (x:Int),El.step (fun _ _=>by rw [b9.l0]) ?_⟩
    exact El.ct (dT om) (El.an ⟨om,om⟩ (El.ct (dT hc) El.pure))
   ·obtain ⟨r,hr⟩:=ih (x+1) om om
    refine ⟨r,El.step (fun _ _=>by rw [b9.l0]) ?_⟩
    refine El.ct (dT om) (El.an ⟨om,om⟩ (El.cf (dF hc) ?_))
    rwa [Fb om]
 obtain ⟨r,hr⟩:=loop _ 0 rfl om
 unfold fh.f b9.f
 cases r with
 | inl q=>exact ⟨_,Ev.bind (Ev.bind hr.diag (by simp only [fall]; exact Ev.pure)) Ev.pure⟩
 | inr q=>exact ⟨_,Ev.bind (Ev.bind hr.diag (by simp only [fall]; exact Ev.pure)) Ev.pure⟩
theorem Jp {p:jB} (h:p.eb=8) (hl:p.fl.length≤8) (e:ak):∃ r,Ev (fun k=>j5.f k p e) r∧r.2.2.eb=8∧r.2.2.fl.length≤8:=by
 obtain ⟨b,hb⟩:=G1 (l:=p.fl) om e
 unfold j5.f
 cases b with
 | true=>exact ⟨_,Ev.bind hb (Ev.ct rfl Ev.pure),h,hl⟩
 | false=>
  have g:p.fl.length+([e]:List ak).length≤9223372036854775807∧(p.fl.length+([e]:List ak).length)*112≤140737488355328:=by
   rw [List.length_singleton]; omega
  by_cases hc:((p.fl++([e]:List ak)).length:Int)≤p.eb
  ·refine ⟨_,Ev.bind hb (Ev.cf rfl (Ev.an g (Ev.ct (dT hc) Ev.pure))),h,?_⟩
   show (p.fl++[e]).length≤8; rw [h] at hc; omega
  ·have hn:(p.fl++[e]).length=p.fl.length+1:=sM
   have hd:fb.f (p.fl++[e]) 0 1=some ((p.fl++[e]).take 0++(p.fl++[e]).drop 1):=by unfold fb.f; exact if_pos ⟨om,om,om⟩
   refine ⟨_,Ev.bind hb (Ev.cf rfl (Ev.an g (Ev.cf (dF hc) (Ev.an ⟨om,om⟩ (Ev.bind (Ev.of hd) Ev.pure))))),h,?_⟩
   show ((p.fl++[e]).take 0++(p.fl++[e]).drop 1).length≤8
   simp; omega
theorem GP (e:ak):∃ r,Ev (fun k=>kN.f k ⟨8,[],0⟩ e) r:=by
 have loop:El (fun k j=>kN.l0 k ⟨8,[],0⟩ e j 0) (.inl (0,false)):=by
  refine El.step (fun _ _=>by rw [kN.l0]) ?_
  exact El.cf rfl El.pure
 unfold kN.f
 refine ⟨(⟨8,[e],0⟩,⟨0,⟨#[]⟩,⟨#[]⟩,⟨#[]⟩,⟨#[]⟩,false,false,0,0,0,0⟩,false),Ev.bind loop.diag ?_⟩
 simp only [fall]
 exact Ev.an ⟨sM,sM⟩ (Ev.an ⟨sM,sM⟩ (Ev.cf rfl (Ev.of rfl)))
def z6 (e:ak):bB:=⟨e.ab,e.aj,e.ae,e.aq⟩
def yh (M:List MK) (e:ak):Option Pos→List MK
 | none=>M
 | some p=>putM M (z6 e) p
theorem kx_of {e:ak} (h:GE e) (hk:e.aH=1):Kx (z6 e):=⟨h.room om,h.user,by
 show e.ae∈ths
 unfold ths
 rcases h.kA hk with ej | ej | ⟨j,hj,ej⟩
 ·rw [ej]; exact List.mem_cons_self
 ·rw [ej]; exact List.mem_cons_of_mem _ List.mem_cons_self
 ·rw [ej]; exact List.mem_cons_of_mem _ (List.mem_cons_of_mem _ (List.mem_map.2 ⟨j,List.mem_range.2 hj,rfl⟩))⟩
theorem BK {v:aJ} {w:bA} (hv:I2 v w) {e:ak} (he:GE e) (hk:e.aH=1):∃ o:Option Pos,∀ m M,LO m M→M.length≤1000→∃ Q b c m',Ev (fun k=>q7.f k ⟨M,⟨8,[],0⟩⟩ w e) (⟨yh M e o,Q⟩,b,c)∧Ev (fun k=>iD.f k m v e) (b,c,m')∧LO m' (yh M e o):=by
 obtain ⟨l1,l2⟩:=Bc he.zz
 rw [he.local] at l1 l2
 obtain ⟨d,d1,d2,_⟩:=pA hv.rel e.ab
 have hlen:=hv.len e.ab
 obtain ⟨c,f1,f2⟩:=IG hv.rel hv.jo hlen (fun i hi=>d2.par _ (by unfold ev; exact eP hi)) e.bI e.ae
 obtain ⟨p1,p2⟩:=JM hv.rel (by have:=hv.jo; omega) e.ab e.bI hlen
 have k1:(e.aH != 1)=false:=by rw [hk]; rfl
 unfold q7.f iD.f
 by_cases c4:c=4
 ·refine ⟨none,fun m M hr hl=>?_⟩
  obtain ⟨q,q1⟩:=GP e
  obtain ⟨r,r1,r2,r3⟩:=Jp hr.Hs hr.len e
  exact ⟨_,_,_,_,Ev.bind l2 (Ev.cf k1 (Ev.cf rfl (Ev.bind f2 (Ev.ct (by rw [c4]; rfl) (Ev.bind q1 Ev.pure))))),Ev.cf k1 (Ev.bind l1 (Ev.cf rfl (Ev.bind f1 (Ev.ct (by rw [c4]; rfl) (Ev.bind r1 Ev.pure))))),hr.rel,r2,r3⟩
 ·have n4:(c==4)=false:=by simpa using c4
  by_cases c0:c=0
  ·refine ⟨some (Ai (lH w e.ab).fL e.bI).1,fun m M hr hl=>?_⟩
   obtain ⟨t',t1,t2⟩:=Is hr.rel (z6 e) (Ai (lH w e.ab).fL e.bI).1
   have t3:=uH hr.rel.ri hl (z6 e) (Ai (lH w e.ab).fL e.bI).1
   have o1:p9.f e=some (z6 e):=rfl
   have o2:pX.f e=some (z6 e):=rfl
   exact ⟨_,_,_,_,Ev.bind l2 (Ev.cf k1 (Ev.cf rfl (Ev.bind f2 (Ev.cf n4 (Ev.cf (by rw [c0]; rfl) (Ev.bind p2 (Ev.bind (Ev.of o1) (Ev.bind t3 Ev.pure)))))))),Ev.cf k1 (Ev.bind l1 (Ev.cf rfl (Ev.bind f1 (Ev.cf n4 (Ev.ct (by rw [c0]; rfl) (Ev.bind p1 (Ev.bind (Ev.of o2) (Ev.bind t2 Ev.pure)))))))),t1,hr.Hs,hr.len⟩
  ·refine ⟨none,fun m M hr hl=>?_⟩
   exact ⟨_,_,_,_,Ev.bind l2 (Ev.cf k1 (Ev.cf rfl (Ev.bind f2 (Ev.cf n4 (Ev.ct (by simpa using c0) Ev.pure))))),Ev.cf k1 (Ev.bind l1 (Ev.cf rfl (Ev.bind f1 (Ev.cf n4 (Ev.cf (by simpa using c0) Ev.pure))))),hr⟩
end Go.Proofs.YtfknmdelgepbjaaGreatDoor
