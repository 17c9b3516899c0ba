import Derived.Test.YtfknmdelgepbjaaGreatDoorVZVG
set_option linter.all false
set_option maxRecDepth 10000
namespace Go.Proofs.YtfknmdelgepbjaaGreatDoor
open Go Go.Sp
structure RG (L:List Event):Prop where
 uA:Good L
 par:∀ e∈L,e.ag.length≤4
 lI:∀ e∈L,e.bO=0∨e.bO=1∨e.bO=2
 usr:∀ e∈L,e.aj.size≤maxLen
 len:L.length≤1000
theorem rt_of {m:bn} {L:List Event} (h:RG L) (hT:T m=tb L):RT m (tb L):=
 ⟨hT,ub h.uA,Ke L,fun x hx=>h.par _ (by rw [← Ce L]; exact List.mem_map.2 ⟨x,hx,rfl⟩),by rw [Fk]; exact h.len⟩
theorem xH (p q:Pos):iV.f p q=some (ltOf gY p q):=by
 unfold iV.f
 have h:=zJ p q
 by_cases h1:p.br<q.br
 ·rw [dT h1,(h.2 (.inl h1))]; rfl
 ·rw [dF h1]
  by_cases h2:p.br=q.br
  ·rw [show (p.br==q.br)=true by simp [h2]]
   show some (dK p.bQ q.bQ)=_
   congr 1
   rw [Bool.eq_iff_iff,h]
   exact ⟨fun k=>.inr ⟨h2,k⟩,fun k=>k.elim (fun k=>absurd k h1) (·.2)⟩
  ·rw [show (p.br==q.br)=false by simp [h2]]
   show some false=_
   congr 1
   cases e:ltOf gY p q with
   | false=>rfl
   | true=>
        rcases h.1 e with k | k
        ·exact absurd k h1
        ·exact absurd k.1 h2
def zeroE:Event:=⟨⟨#[]⟩,⟨#[]⟩,[],⟨#[]⟩,⟨#[]⟩,0⟩
def pr:Option Event→Event×Bool
 | some e=>(e,true)
 | none=>(zeroE,false)
section
variable {d:aM} (hg:RG d.fL)
include hg
theorem yF (id:BA):Ev (fun k=>dI.f k d id) (pos (tb d.fL) id):=
 Lo hg.uA (by have:=hg.len; omega) (fun i hi=>by have:=hg.par _ (FM hi); show _≤9223372036854775807; omega) id
def PM (t:oM) (L:List Event) (u:BA) (x:Nat) (kx:Int):Prop:=
 (kx = -1∧∀ i,i<x→iw u (ev L i)=false)∨∃ c:Nat,kx=(c:Int)∧c<x∧iw u (ev L c)=true∧∀ i,i<x→iw u (ev L i)=true→ev L i=ev L c∨lt t (ev L i) (ev L c)
theorem Bn (u:BA):∀ n x:Nat,d.fL.length-x=n→x≤d.fL.length→∀ kx:Int,PM (tb d.fL) d.fL u x kx→∃ r:Int×Int×Bool,El (fun k j=>cK.l0 k d u j kx (x:Int)) r∧PM (tb d.fL) d.fL u d.fL.length r.1:=by
 have hl:=hg.len
 intro n
 induction n with
 | zero=>
  intro x hd hx kx hp
  obtain rfl:x=d.fL.length:=om
  refine ⟨(kx,(d.fL.length:Int),false),?_,hp⟩
  refine El.step (fun _ _=>by rw [cK.l0]) ?_
  exact El.cf sM (by simpa using El.pure)
 | succ n ih=>
  intro x hd hx kx hp
  have hx2:x<d.fL.length:=om
  have g:(0:Int)≤(x:Int)∧(x:Int)<(d.fL.length:Int):=⟨om,om⟩
  have stay:iw u (ev d.fL x)=false→PM (tb d.fL) d.fL u (x+1) kx:=fun h=>by
   rcases hp with ⟨h1,h2⟩ | ⟨c,h1,h2,h3,h4⟩
   ·refine .inl ⟨h1,fun i hi=>?_⟩
    rcases Nat.lt_or_ge i x with k | k
    ·exact h2 i k
    ·obtain rfl:i=x:=om
     exact h
   ·refine .inr ⟨c,h1,om,h3,fun i hi hr=>?_⟩
    rcases Nat.lt_or_ge i x with k | k
    ·exact h4 i k hr
    ·obtain rfl:i=x:=om
     rw [h] at hr; cases hr
  have key:∀ kx',PM (tb d.fL) d.fL u (x+1) kx'→(∀ r,El (fun k j=>cK.l0 k d u j kx' (av ((x:Int)+1))) r→El (fun k j=>cond (!decide (((Event.K.at d.fL (x:Int)).aj)=u)) (cK.l0 k d u j kx (av ((x:Int)+1))) (an ((0:Int)≤(x:Int)∧(x:Int)<(d.fL.length:Int)) (cond (((Event.K.at d.fL (x:Int)).bO)==0) (cK.l0 k d u j kx (av ((x:Int)+1))) (cond (decide (kx<0)) (cK.l0 k d u j (x:Int) (av ((x:Int)+1))) (an ((0:Int)≤kx∧kx<(d.fL.length:Int)) ((dI.f k d ((Event.K.at d.fL kx).bQ)).bind fun t625=>an ((0:Int)≤(x:Int)∧(x:Int)<(d.fL.length:Int)) ((dI.f k d ((Event.K.at d.fL (x:Int)).bQ)).bind fun t628=>(iV.f t625 t628).bind fun t630=>cond t630 (cK.l0 k d u j (x:Int) (av ((x:Int)+1))) (cK.l0 k d u j kx (av ((x:Int)+1)))))))))) r)→∃ r:Int×Int×Bool,El (fun k j=>cK.l0 k d u j kx (x:Int)) r∧PM (tb d.fL) d.fL u d.fL.length r.1:=fun kx' hk hG=>by
   obtain ⟨r,r1,r2⟩:=ih (x+1) om om kx' hk
   exact ⟨r,El.step (fun _ _=>by rw [cK.l0]) (El.ct (dT om) (El.an g (hG r (by rw [jJ om]; exact r1)))),r2⟩
  by_cases hu:(ev d.fL x).aj=u
  ·by_cases h0:(ev d.fL x).bO=0
   ·have hr:iw u (ev d.fL x)=false:=by unfold iw; simp [h0]
    obtain ⟨r,r1,r2⟩:=key kx (stay hr) (fun r h=>El.cf (by rw [kg hx2]; simp [hu]) (El.an g (El.ct (by rw [kg hx2]; simp [h0]) h)))
    exact ⟨r,r1,r2⟩
   ·have hr:iw u (ev d.fL x)=true:=by unfold iw; simp [h0,hu]
    rcases hp with ⟨h1,h2⟩ | ⟨c,h1,h2,h3,h4⟩
    ·obtain ⟨r,r1,r2⟩:=key (x:Int) (.inr ⟨x,rfl,om,hr,fun i hi hr'=>by
      rcases Nat.lt_or_ge i x with k | k
      ·rw [h2 i k] at hr'; cases hr'
      ·obtain rfl:i=x:=om
       exact .inl rfl⟩) (fun r h=>El.cf (by rw [kg hx2]; simp [hu]) (El.an g (El.cf (by rw [kg hx2]; simp [h0]) (El.ct (dT om) h))))
     exact ⟨r,r1,r2⟩
    ·have hc2:c<d.fL.length:=om
     have gc:(0:Int)≤kx∧kx<(d.fL.length:Int):=⟨om,om⟩
     have pre:∀ {kx'} {r},ltOf gY (pos (tb d.fL) (ev d.fL c).bQ) (pos (tb d.fL) (ev d.fL x).bQ)=(decide (kx'=(x:Int)):Bool)→(kx'=(x:Int)∨kx'=kx)→El (fun k j=>cK.l0 k d u j kx' (av ((x:Int)+1))) r→El (fun k j=>cond (!decide (((Event.K.at d.fL (x:Int)).aj)=u)) (cK.l0 k d u j kx (av ((x:Int)+1))) (an ((0:Int)≤(x:Int)∧(x:Int)<(d.fL.length:Int)) (cond (((Event.K.at d.fL (x:Int)).bO)==0) (cK.l0 k d u j kx (av ((x:Int)+1))) (cond (decide (kx<0)) (cK.l0 k d u j (x:Int) (av ((x:Int)+1))) (an ((0:Int)≤kx∧kx<(d.fL.length:Int)) ((dI.f k d ((Event.K.at d.fL kx).bQ)).bind fun t625=>an ((0:Int)≤(x:Int)∧(x:Int)<(d.fL.length:Int)) ((dI.f k d ((Event.K.at d.fL (x:Int)).bQ)).bind fun t628=>(iV.f t625 t628).bind fun t630=>cond t630 (cK.l0 k d u j (x:Int) (av ((x:Int)+1))) (cK.l0 k d u j kx (av ((x:Int)+1)))))))))) r:=fun {kx' r} hlt hk h=>by
      have ec:Event.K.at d.fL kx=ev d.fL c:=by rw [h1]; exact kg hc2
      refine El.cf (by rw [kg hx2]; simp [hu]) (El.an g (El.cf (by rw [kg hx2]; simp [h0]) (El.cf (dF om) (El.an gc ?_))))
      rw [ec,kg hx2]
      refine El.bind (yF hg _).el (El.an g (El.bind (yF hg _).el (El.bind (Ev.of (xH _ _)).el ?_)))
      rw [hlt]
      rcases hk with hk | hk
      ·rw [hk] at h ⊢
       exact El.ct sM h
      ·rw [hk] at h ⊢
       exact El.cf (dF om) h
     cases hlt:ltOf gY (pos (tb d.fL) (ev d.fL c).bQ) (pos (tb d.fL) (ev d.fL x).bQ) with
     | true=>
      obtain ⟨r,r1,r2⟩:=key (x:Int) (.inr ⟨x,rfl,om,hr,fun i hi hr'=>by
       rcases Nat.lt_or_ge i x with k | k
       ·rcases h4 i k hr' with q | q
        ·rw [q]; exact .inr hlt
        ·exact .inr (J1 q hlt)
       ·obtain rfl:i=x:=om
        exact .inl rfl⟩) (fun r h=>pre (kx':=(x:Int)) (by rw [hlt]; simp) (.inl rfl) h)
      exact ⟨r,r1,r2⟩
     | false=>
      obtain ⟨r,r1,r2⟩:=key kx (.inr ⟨c,h1,om,h3,fun i hi hr'=>by
       rcases Nat.lt_or_ge i x with k | k
       ·exact h4 i k hr'
       ·obtain rfl:i=x:=om
        cases h5:ltOf gY (pos (tb d.fL) (ev d.fL i).bQ) (pos (tb d.fL) (ev d.fL c).bQ) with
        | true=>exact .inr h5
        | false=>
         have:=congrArg Pos.bQ (rQ _ _ h5 hlt)
         have h6:(ev d.fL i).bQ=(ev d.fL c).bQ:=this
         have h7:=GZ hg.uA hx2
         rw [h6,GZ hg.uA hc2] at h7
         omega⟩) (fun r h=>pre (kx':=kx) (by rw [hlt]; exact (dF om).symm) (.inr rfl) h)
      exact ⟨r,r1,r2⟩
  ·have hr:iw u (ev d.fL x)=false:=by unfold iw; simp [hu]
   obtain ⟨r,r1,r2⟩:=key kx (stay hr) (fun r h=>El.ct (by rw [kg hx2]; simp [hu]) h)
   exact ⟨r,r1,r2⟩
theorem Gy (u:BA):Ev (fun k=>cK.f k d u) (pr (nG u (mU (tb d.fL)) none)):=by
 obtain ⟨r,r1,r2⟩:=Bn hg u _ 0 rfl om (-1) (.inl ⟨rfl,fun i hi=>om⟩)
 have hmx:=Gp hg.uA u
 unfold cK.f
 refine Ev.bind r1.diag ?_
 rcases r2 with ⟨h1,h2⟩ | ⟨c,h1,h2,h3,h4⟩
 ·have:nG u (mU (tb d.fL)) none=none:=Ct hmx (fun e he=>by obtain ⟨i,hi,rfl⟩:=tC he; exact h2 i hi)
  rw [this,h1]
  exact Ev.ct rfl Ev.pure
 ·have:nG u (mU (tb d.fL)) none=some (ev d.fL c):=Ct hmx ⟨FM h2,h3,fun e he=>by obtain ⟨i,hi,rfl⟩:=tC he; exact h4 i hi⟩
  rw [this,h1]
  refine Ev.cf (dF om) (Ev.an ⟨om,om⟩ (Ev.of ?_))
  rw [kg h2]; rfl
def LK:Option Event→Bool
 | some e=>e.bO==1
 | none=>false
theorem uy (u:BA):Ev (fun k=>jE.f k d u) (LK (nG u (mU (tb d.fL)) none)):=by
 unfold jE.f
 refine Ev.bind (Gy hg u) ?_
 cases nG u (mU (tb d.fL)) none with
 | none=>exact Ev.cf rfl Ev.pure
 | some e=>exact Ev.ct rfl Ev.pure
end
section
variable {m:bn} {L:List Event} (hg:RG L) (hT:T m=tb L)
include hg hT
theorem Kz (u:BA):Nd (jm (mU (tb L)))∧mget (jm (mU (tb L))) u=oj (nG u (mU (tb L)) none):=by
 have:=JT (mU (tb L)) (fun e he=>hg.lI e ((zU hg.uA).mem_iff.1 he)) [] (fun _=>none) zw (fun _=>rfl)
 exact ⟨this.1,this.2 u⟩
theorem oj_is (o:Option Event):decide (0<(oj o).getD 0)=LK o∧((oj o).isSome=LK o):=by
 cases o with
 | none=>exact ⟨rfl,rfl⟩
 | some e=>
  unfold oj LK
  by_cases h:e.bO=1
  ·simp [h]
  ·simp [h]
theorem BZ (u:BA):Ev (fun k=>j5.f k m u) (LK (nG u (mU (tb L)) none)):=by
 unfold j5.f
 refine Ev.bind (Ee (rt_of hg hT)) (Ev.of ?_)
 rw [(Kz hg hT u).2,(oj_is hg hT _).1]
end
structure Zz (e:ak):Prop where
 room:e.ab.size≤maxLen
 user:e.aj.size≤maxLen
 event:e.bH.size≤maxLen
 kA:e.ae.size≤maxLen
def mE (s:BA):Bool:=decide (s=eE)||(decide (s=(⟨#[109,97,105,110]⟩:BA))||ke s)
theorem IE {s:BA} (hs:s.size≤maxLen):Ev (fun k=>lE.f k s) (mE s):=by
 unfold lE.f mE
 by_cases h1:s=eE
 ·rw [dT h1]; exact Ev.pure
 ·rw [dF h1]
  by_cases h2:s=(⟨#[109,97,105,110]⟩:BA)
  ·rw [dT h2]; exact Ev.pure
  ·rw [dF h2]; exact Ev.bind (sJ hs) Ev.pure
theorem IT {s:BA} (hs:s.size≤maxLen):Ev (fun k=>mh.f k s) (mE s):=by
 unfold mh.f mE
 refine Ev.bind (o5 hs) ?_
 by_cases h1:s=eE
 ·rw [dT h1]; exact Ev.pure
 ·rw [dF h1]
  by_cases h2:s=(⟨#[109,97,105,110]⟩:BA)
  ·rw [dT h2]; exact Ev.pure
  ·rw [dF h2]; exact Ev.pure
theorem z7 {α:Type} {c:Bool} {a b:α}:cond c (some a) (some b)=some (cond c a b):=by cases c <;> rfl
theorem dle {x y:Int}:decide (x≤y) = !decide (y<x):=by
 rw [Bool.eq_iff_iff]; simp
def LF (e:ak):Bool:=dj e.aj 64&&(!decide (e.aU<0) && !decide (1099511627776<e.aU)&&(!decide (e.aZ<0) && !decide (1099511627776<e.aZ)))
def nU (e:ak):Bool:=
 cond (e.aI==1) (cond (cond (dj e.ab 33) (cond (ke e.bH) (mE e.ae) false) false) (cond (!e.kl&&(e.bW==0)&&(e.aQ==0)) (cond (dj e.aj 64) (!decide (e.aU<0) && !decide (1099511627776<e.aU)&&(!decide (e.aZ<0) && !decide (1099511627776<e.aZ))) false) false) false)
  (cond (e.aI==2) (cond (dj e.ab 33) (cond e.kl (!decide (e.bW<1) && !decide (60<e.bW)) (e.bW==0)) false&&(((decide (e.bH=eE)&&decide (e.ae=eE))&&((e.aQ==0) && !e.aq))&&LF e))
   (cond (e.aI==3) ((!decide (e.aQ<0) && !decide (2<e.aQ))&&((((decide (e.ab=eE)&&decide (e.bH=eE))&&decide (e.ae=eE))&&((!e.kl&&(e.bW==0)) && !e.aq))&&LF e)) false))
theorem FP {e:ak} (z:Zz e):∃ b,b=nU e∧Ev (fun k=>eP.f k e) b∧Ev (fun k=>fY.f k e) b:=by
 obtain ⟨n1,h1⟩:=GS z.room
 obtain ⟨n2,h2⟩:=GU z.user
 obtain ⟨n3,h3⟩:=sJ z.event
 obtain ⟨n4,h4⟩:=IE z.kA
 have hn:∀ b,(∀ k,max (max n1 n2) (max n3 n4)≤k→eP.f k e=some b)→Ev (fun k=>eP.f k e) b:=fun b h=>⟨_,h⟩
 have href:∀ b,b=nU e→Ev (fun k=>fY.f k e) b→(∀ k,max (max n1 n2) (max n3 n4)≤k→eP.f k e=some b)→∃ b,b=nU e∧Ev (fun k=>eP.f k e) b∧Ev (fun k=>fY.f k e) b:=fun b hb h h'=>⟨b,hb,hn b h',h⟩
 have hu:=zk (c:=64) dc z.user
 have hr:=zk (c:=33) dc z.room
 have he:=o5 z.event
 have ht:=IT z.kA
 obtain ⟨K,ro,us,ev,th,pr,on,sp,st,ti,sm⟩:=e
 simp only at h1 h2 h3 h4 hu hr he ht
 by_cases hk:K=1∨K=2∨K=3
 ·have d1:decide ((1:Int)<0)=false:=rfl
  have d2:decide ((3:Int)<1)=false:=rfl
  have d3:decide ((2:Int)<0)=false:=rfl
  have d4:decide ((3:Int)<2)=false:=rfl
  have d5:decide ((3:Int)<0)=false:=rfl
  have d6:decide ((3:Int)<3)=false:=rfl
  have b1:((1:Int)==1)=true:=rfl
  have b2:((2:Int)==1)=false:=rfl
  have b3:((2:Int)==2)=true:=rfl
  have b4:((3:Int)==1)=false:=rfl
  have b5:((3:Int)==2)=false:=rfl
  have b6:((3:Int)==3)=true:=rfl
  have g:∀ (k:Nat) (i:Int),0≤i→i<4→(0:Int)≤i∧i<(([iY.f,gI.f k,fun a0_=>fN.f k a0_ cF.f,fun a0_=>fI.f a0_ cF.f]:List (ak→Option Bool)).length:Int):=fun k i h0 h1=>⟨h0,by simpa using h1⟩
  rcases hk with rfl | rfl | rfl
  ·refine href (cond (cond (dj ro 33) (cond (ke ev) (mE th) false) false) (cond (!on&&(sp==0)&&(st==0)) (cond (dj us 64) (!decide (ti<0) && !decide (1099511627776<ti)&&(!decide (sm<0) && !decide (1099511627776<sm))) false) false) false) rfl ?_ fun k hk=>?_
   ·unfold fY.f
    refine Ev.bind hu (Ev.bind hr (Ev.bind he (Ev.bind ht (Ev.of ?_))))
    simp only [b1,cond_true]
    generalize dj us 64=a1
    generalize dj ro 33=a2
    generalize ke ev=a3
    generalize mE th=a4
    generalize decide (ti<0)=a5
    generalize decide (1099511627776<ti)=a6
    generalize decide (sm<0)=a7
    generalize decide (1099511627776<sm)=a8
    generalize (sp==0)=a9
    generalize (st==0)=a10
    simp only [z7]
    congr 1
    cases a1 <;> cases a5 <;> cases a6 <;> cases a7 <;> cases a8 <;> cases a2 <;> cases a3 <;> cases a4 <;> try rfl
    all_goals (cases on <;> cases a9 <;> cases a10 <;> rfl)
   ·have r:=h1 k om
    have u:=h2 k om
    have v:=h3 k om
    have t:=h4 k om
    have e4:iE.at [iY.f,gI.f k,fun a0_=>fN.f k a0_ cF.f,fun a0_=>fI.f a0_ cF.f] 1=gI.f k:=rfl
    have eq1:decide ((⟨1,ro,us,ev,th,pr,on,sp,st,ti,sm⟩:ak)=⟨1,ro,us,ev,th,pr,false,0,0,ti,sm⟩)=(!on&&(sp==0)&&(st==0)):=by
     rw [Bool.eq_iff_iff]
     simp only [decide_eq_true_eq,ak.mk.injEq,true_and,and_true,Bool.and_eq_true,beq_iff_eq,Bool.not_eq_true',and_assoc]
    simp only [eP.f,nR.f,Option.bind_some,d1,d2,cond_false]
    simp only [e4,an]
    rw [if_pos (g k 1 dc dc)]
    simp only [Option.bind_some,gI.f,r,v,t,mn.f,iM.f,b1,cond_true,eq1,u,dle,z7]
    generalize dj us 64=a1
    generalize dj ro 33=a2
    generalize ke ev=a3
    generalize mE th=a4
    generalize decide (ti<0)=a5
    generalize decide (1099511627776<ti)=a6
    generalize decide (sm<0)=a7
    generalize decide (1099511627776<sm)=a8
    generalize (!on&&(sp==0)&&(st==0))=a9
    cases a2 <;> cases a3 <;> cases a4 <;> cases a9 <;> cases a1 <;> try rfl
    all_goals (cases a5 <;> cases a6 <;> cases a7 <;> cases a8 <;> rfl)
  ·refine href (cond (dj ro 33) (cond on (!decide (sp<1) && !decide (60<sp)) (sp==0)) false&&(((decide (ev=eE)&&decide (th=eE))&&((st==0) && !pr))&&(dj us 64&&(!decide (ti<0) && !decide (1099511627776<ti)&&(!decide (sm<0) && !decide (1099511627776<sm)))))) rfl ?_ fun k hk=>?_
   ·unfold fY.f
    refine Ev.bind hu (Ev.bind hr (Ev.bind he (Ev.bind ht (Ev.of ?_))))
    simp only [b2,b3,cond_true,cond_false,dle]
    generalize dj us 64=a1
    generalize dj ro 33=a2
    generalize decide (ti<0)=a5
    generalize decide (1099511627776<ti)=a6
    generalize decide (sm<0)=a7
    generalize decide (1099511627776<sm)=a8
    generalize (sp==0)=a9
    generalize (st==0)=a10
    generalize decide (sp<1)=a11
    generalize decide (60<sp)=a12
    generalize decide (ev=eE)=a13
    generalize decide (th=eE)=a14
    simp only [z7]
    congr 1
    cases a1 <;> cases a5 <;> cases a6 <;> cases a7 <;> cases a8 <;> cases a2 <;> cases on <;> simp
    all_goals (cases a9 <;> cases a10 <;> cases a11 <;> cases a12 <;> cases a13 <;> cases a14 <;> rfl)
   ·have r:=h1 k om
    have u:=h2 k om
    have e4:iE.at [iY.f,gI.f k,fun a0_=>fN.f k a0_ cF.f,fun a0_=>fI.f a0_ cF.f] 2=fun a0_=>fN.f k a0_ cF.f:=rfl
    have eq1:∀ (s:Int) (o:Bool),decide ((⟨2,ro,us,ev,th,pr,o,sp,st,ti,sm⟩:ak)=⟨2,ro,us,⟨#[]⟩,⟨#[]⟩,false,o,s,0,ti,sm⟩)=((decide (ev=⟨#[]⟩)&&decide (th=⟨#[]⟩)&&(st==0) && !pr)&&(sp==s)):=fun s o=>by
     rw [Bool.eq_iff_iff]
     simp only [decide_eq_true_eq,ak.mk.injEq,true_and,and_true,Bool.and_eq_true,beq_iff_eq,Bool.not_eq_true']
     constructor
     ·rintro ⟨h1,h2,h3,h4,h5⟩; exact ⟨⟨⟨⟨h1,h2⟩,h5⟩,h3⟩,h4⟩
     ·rintro ⟨⟨⟨⟨h1,h2⟩,h5⟩,h3⟩,h4⟩; exact ⟨h1,h2,h3,h4,h5⟩
    simp only [eP.f,nR.f,Option.bind_some,d3,d4,cond_false]
    simp only [e4,an]
    rw [if_pos (g k 2 dc dc)]
    simp only [Option.bind_some,fN.f,r,mn.f,iM.f,cF.f,b2,b3,cond_true,cond_false,dle]
    cases on
    all_goals
     simp only [cond_true,cond_false,eq1,beq_self_eq_true,Bool.and_true,Bool.not_true,Bool.not_false,Option.bind_some,u]
     generalize dj us 64=a1
     generalize dj ro 33=a2
     generalize decide (ti<0)=a5
     generalize decide (1099511627776<ti)=a6
     generalize decide (sm<0)=a7
     generalize decide (1099511627776<sm)=a8
     generalize decide (ev=eE)=a13
     generalize decide (th=eE)=a14
     generalize (st==0)=a10
     generalize (sp==0)=a9
     generalize decide (sp<1)=a11
     generalize decide (60<sp)=a12
     cases a2 <;> cases a9 <;> cases a11 <;> cases a12 <;> cases a1 <;> cases a13 <;> cases a14 <;> cases a10 <;> cases pr <;> try rfl
     all_goals (cases a5 <;> cases a6 <;> cases a7 <;> cases a8 <;> rfl)
  ·refine href ((!decide (st<0) && !decide (2<st))&&((((decide (ro=eE)&&decide (ev=eE))&&decide (th=eE))&&((!on&&(sp==0)) && !pr))&&(dj us 64&&(!decide (ti<0) && !decide (1099511627776<ti)&&(!decide (sm<0) && !decide (1099511627776<sm)))))) rfl ?_ fun k hk=>?_
   ·unfold fY.f
    refine Ev.bind hu (Ev.bind hr (Ev.bind he (Ev.bind ht (Ev.of ?_))))
    simp only [b4,b5,b6,cond_true,cond_false,dle]
    generalize dj us 64=a1
    generalize decide (ti<0)=a5
    generalize decide (1099511627776<ti)=a6
    generalize decide (sm<0)=a7
    generalize decide (1099511627776<sm)=a8
    generalize (sp==0)=a9
    generalize decide (st<0)=a11
    generalize decide (2<st)=a12
    generalize decide (ev=eE)=a13
    generalize decide (th=eE)=a14
    generalize decide (ro=eE)=a15
    simp only [z7]
    congr 1
    cases a1 <;> cases a5 <;> cases a6 <;> cases a7 <;> cases a8 <;> simp
    all_goals (cases a9 <;> cases a11 <;> cases a12 <;> cases a13 <;> cases a14 <;> cases a15 <;> cases on <;> cases pr <;> rfl)
   ·have u:=h2 k om
    have e4:iE.at [iY.f,gI.f k,fun a0_=>fN.f k a0_ cF.f,fun a0_=>fI.f a0_ cF.f] 3=fun a0_=>fI.f a0_ cF.f:=rfl
    have eq1:decide ((⟨3,ro,us,ev,th,pr,on,sp,st,ti,sm⟩:ak)=⟨3,⟨#[]⟩,us,⟨#[]⟩,⟨#[]⟩,false,false,0,st,ti,sm⟩)=(((decide (ro=eE)&&decide (ev=eE))&&decide (th=eE))&&((!on&&(sp==0)) && !pr)):=by
     rw [Bool.eq_iff_iff]
     simp only [decide_eq_true_eq,ak.mk.injEq,true_and,and_true,Bool.and_eq_true,beq_iff_eq,Bool.not_eq_true']
     constructor
     ·rintro ⟨h1,h2,h3,h4,h5,h6⟩; exact ⟨⟨⟨h1,h2⟩,h3⟩,⟨h5,h6⟩,h4⟩
     ·rintro ⟨⟨⟨h1,h2⟩,h3⟩,⟨h5,h6⟩,h4⟩; exact ⟨h1,h2,h3,h4,h5,h6⟩
    simp only [eP.f,nR.f,Option.bind_some,d5,d6,cond_false]
    simp only [e4,an]
    rw [if_pos (g k 3 dc dc)]
    simp only [Option.bind_some,fI.f,mn.f,iM.f,cF.f,b4,b5,b6,cond_true,cond_false,dle,eq1,u]
    generalize dj us 64=a1
    generalize decide (ti<0)=a5
    generalize decide (1099511627776<ti)=a6
    generalize decide (sm<0)=a7
    generalize decide (1099511627776<sm)=a8
    generalize decide (st<0)=a11
    generalize decide (2<st)=a12
    generalize (((decide (ro=eE)&&decide (ev=eE))&&decide (th=eE))&&((!on&&(sp==0)) && !pr))=a9
    cases a11 <;> cases a12 <;> cases a9 <;> cases a1 <;> try rfl
    all_goals (cases a5 <;> cases a6 <;> cases a7 <;> cases a8 <;> rfl)
 ·have k1:(K==1)=false:=by rw [beq_eq_false_iff_ne]; omega
  have k2:(K==2)=false:=by rw [beq_eq_false_iff_ne]; omega
  have k3:(K==3)=false:=by rw [beq_eq_false_iff_ne]; omega
  refine href false (by unfold nU; simp only [k1,k2,k3,cond_false]) ?_ fun k hk'=>?_
  ·unfold fY.f
   refine Ev.bind hu (Ev.bind hr (Ev.bind he (Ev.bind ht (Ev.of ?_))))
   simp only [k1,k2,k3,cond_false,Bool.cond_self,z7]
  ·by_cases c1:K<0
   ·simp only [eP.f,dT c1,cond_true]
   ·by_cases c2:3<K
    ·simp only [eP.f,dT c2,dF c1,cond_true,cond_false]
    ·obtain rfl:K=0:=om
     rfl
theorem AL {e:ak} (z:Zz e):Ev (fun k=>eP.f k e) (nU e)∧Ev (fun k=>fY.f k e) (nU e):=by
 obtain ⟨b,rfl,h1,h2⟩:=FP z
 exact ⟨h1,h2⟩
def Br (e:ak):Bool:=cond (nU e) (!e.aq) false
theorem mb {e:ak} (z:Zz e):Ev (fun k=>mw.f k e) (Br e)∧Ev (fun k=>mv.f k e) (Br e):=by
 obtain ⟨h1,h2⟩:=AL z
 unfold Br
 constructor
 ·unfold mw.f; refine Ev.bind h1 ?_; cases nU e <;> exact Ev.pure
 ·unfold mv.f; refine Ev.bind h2 ?_; cases nU e <;> exact Ev.pure
structure GE (e:ak):Prop where
 kind:e.aI=1∨e.aI=2∨e.aI=3
 user:e.aj∈ma
 room:e.aI≠3→e.ab∈ji
 Dq:e.aI=3→e.ab=⟨#[]⟩
 event:e.aI=1→∃ j,j<9∧e.bH=mM j
 yu:e.aI≠1→e.bH=⟨#[]⟩
 kA:e.aI=1→e.ae=⟨#[]⟩∨e.ae=⟨#[109,97,105,110]⟩∨∃ j,j<9∧e.ae=mM j
 qV:e.aI≠1→e.ae=⟨#[]⟩
 tV:e.aI≠1→e.aq=false
 on:e.aI≠2→e.kl=false
 zT:e.kl=false→e.bW=0
 AX:e.kl=true→1≤e.bW∧e.bW≤60
 B2:e.aI≠3→e.aQ=0
 state:0≤e.aQ∧e.aQ≤2
 tick:0≤e.aU∧e.aU<100
 rX:0≤e.aZ∧e.aZ<9
theorem qJ {u:BA} (h:u∈ma):dj u 64=true∧u.size=5:=by
 have:∀ u∈ma,dj u 64=true∧u.size=5:=by decide +kernel
 exact this u h
theorem px {u:BA} (h:u∈ji):dj u 33=true∧u.size=5:=by
 have:∀ u∈ji,dj u 33=true∧u.size=5:=by decide +kernel
 exact this u h
theorem GE.zz {e:ak} (h:GE e):Zz e:=by
 refine ⟨?_,?_,?_,?_⟩
 ·by_cases k:e.aI=3
  ·rw [h.Dq k]; exact Nat.zero_le _
  ·rw [(px (h.room k)).2]; decide
 ·rw [(qJ h.user).2]; decide
 ·by_cases k:e.aI=1
  ·obtain ⟨j,_,ej⟩:=h.event k; rw [ej]; exact p8 j
  ·rw [h.yu k]; exact Nat.zero_le _
 ·by_cases k:e.aI=1
  ·rcases h.kA k with ej | ej | ⟨j,_,ej⟩ <;> rw [ej]
   ·exact Nat.zero_le _
   ·show 4≤maxLen; decide
   ·exact p8 j
  ·rw [h.qV k]; exact Nat.zero_le _
theorem GE.LF {e:ak} (h:GE e):LF e=true:=by
 unfold Proofs.YtfknmdelgepbjaaGreatDoor.LF
 have a:=h.tick
 have b:=h.rX
 simp [(qJ h.user).1]
 omega
theorem GE.local {e:ak} (h:GE e):nU e=true:=by
 have ho:=h.LF
 have hu:=(qJ h.user).1
 have a:=h.tick
 have b:=h.rX
 unfold nU
 rcases h.kind with k | k | k
 ·have e1:(e.aI==1)=true:=by rw [k]; rfl
  have n2:e.aI≠2:=om
  have n3:e.aI≠3:=om
  obtain ⟨j,hj,ej⟩:=h.event k
  have hth:mE e.ae=true:=by
   unfold mE
   rcases h.kA k with ej | ej | ⟨j,hj,ej⟩
   ·simp [ej]
   ·simp [ej]
   ·simp [ej,vZ j hj]
  have c1:decide (e.aU<0)=false:=by rw [decide_eq_false_iff_not]; omega
  have c2:decide (1099511627776<e.aU)=false:=by rw [decide_eq_false_iff_not]; omega
  have c3:decide (e.aZ<0)=false:=by rw [decide_eq_false_iff_not]; omega
  have c4:decide (1099511627776<e.aZ)=false:=by rw [decide_eq_false_iff_not]; omega
  rw [e1,ej,vZ j hj,hth,hu,c1,c2,c3,c4,h.on n2,h.zT (h.on n2),h.B2 n3,(px (h.room n3)).1]
  rfl
 ·have e1:(e.aI==1)=false:=by rw [k]; rfl
  have e2:(e.aI==2)=true:=by rw [k]; rfl
  have n1:e.aI≠1:=om
  have n3:e.aI≠3:=om
  rw [e1,e2,ho,h.yu n1,h.qV n1,h.tV n1,h.B2 n3,(px (h.room n3)).1]
  cases o:e.kl with
  | false=>rw [h.zT o]; rfl
  | true=>
   have:=h.AX o
   rw [show decide (e.bW<1)=false by rw [decide_eq_false_iff_not]; omega,show decide (60<e.bW)=false by rw [decide_eq_false_iff_not]; omega]
   rfl
 ·have e1:(e.aI==1)=false:=by rw [k]; rfl
  have e2:(e.aI==2)=false:=by rw [k]; rfl
  have e3:(e.aI==3)=true:=by rw [k]; rfl
  have n1:e.aI≠1:=om
  have n2:e.aI≠2:=om
  have c:=h.state
  rw [e1,e2,e3,ho,h.yu n1,h.qV n1,h.tV n1,h.on n2,h.zT (h.on n2),h.Dq k,show decide (e.aQ<0)=false by rw [decide_eq_false_iff_not]; omega,show decide (2<e.aQ)=false by rw [decide_eq_false_iff_not]; omega]
  rfl
theorem GE.may {e:ak} (h:GE e):Br e = !e.aq:=by unfold Br; rw [h.local]; rfl
theorem EX (x:Int):Hn (av x):=by
 unfold Hn
 simp only [av,IntKind.wrap,IntKind.signed,IntKind.bits]
 simp
 constructor <;> omega
theorem uG {n:Int} (hn:Hn n):∃ j,j<9∧Ev (fun k=>dm.f k n) (mM j):=by
 obtain ⟨m,h1,h2,h3⟩:=fi (m:=9) hn dc dc
 obtain ⟨k,hk,rfl⟩:=int_lt (n:=9) h2 h3
 refine ⟨k,hk,?_⟩
 have h:=jL k hk
 unfold dm.f at h ⊢
 rw [show (9:Int)=((9:Nat):Int) from rfl,rU hk dc] at h
 rw [h1]
 exact h
theorem AU {n:Int} (hn:Hn n):∃ r,Ev (fun k=>gR.f k n) r∧(r=⟨#[]⟩∨r=⟨#[109,97,105,110]⟩∨∃ j,j<9∧r=mM j):=by
 obtain ⟨m,h1,h2,h3⟩:=fi (m:=11) hn dc dc
 unfold gR.f
 by_cases e1:m=9
 ·exact ⟨_,Ev.bind (Ev.of h1) (Ev.ct (by simp [e1]) Ev.pure),.inl rfl⟩
 ·by_cases e2:m=10
  ·exact ⟨_,Ev.bind (Ev.of h1) (Ev.cf (by simp [e1]) (Ev.ct (by simp [e2]) Ev.pure)),.inr (.inl rfl)⟩
  ·obtain ⟨j,hj,hr⟩:=uG (n:=m) ⟨om,om⟩
   exact ⟨_,Ev.bind (Ev.of h1) (Ev.cf (by simp [e1]) (Ev.cf (by simp [e2]) (Ev.bind hr Ev.pure))),.inr (.inr ⟨j,hj,rfl⟩)⟩
theorem HX {a:ak} (h:ak.ok a):∃ e,Ev (fun k=>lO.f k a) e∧GE e∧(a.aI=0→e.aI=1)∧(e.aI=1→e.aq=a.aq):=by
 obtain ⟨c1,c2,c3,c4,c5,c6,c7,c8,c9,c10,c11,_⟩:=h
 obtain ⟨m,h1,h2,h3⟩:=fi (m:=3) (kF c1) dc dc
 obtain ⟨u,u1,u2⟩:=tE (kF c9)
 obtain ⟨t,t1,t2,t3⟩:=fi (m:=100) (kF c10) dc dc
 obtain ⟨s,s1,s2,s3⟩:=fi (m:=9) (kF c11) dc dc
 obtain ⟨ro,r1,r2⟩:=xz (kF c8)
 obtain ⟨t9,y1,y2,y3⟩:=fi (m:=9) (kF c10) dc dc
 obtain ⟨ej,ej9,e1⟩:=uG (n:=av ((a.bH.size:Int)+t9)) (EX _)
 obtain ⟨th,f1,f2⟩:=AU (n:=(a.ae.size:Int)) ⟨om,by have h:a.ae.size≤2 ^ 63-1:=c5; omega⟩
 obtain ⟨sp,p1,p2,p3⟩:=fi (m:=60) (kF c8) dc dc
 obtain ⟨st,q1,q2,q3⟩:=fi (m:=3) (kF c8) dc dc
 have hk0:a.aI=0→m=0:=fun h0=>by
  rw [h0] at h1
  have:aW.f 0 3=some 0:=rfl
  rw [this] at h1
  exact (Option.some.inj h1).symm
 have hw:av (1+m)=1+m:=aG om om
 have hsp:av (1+sp)=1+sp:=aG om om
 have key:∀ e,(∀ k,lO.f k a=cond ((1+m)==1) ((dm.f k (av ((a.bH.size:Int)+t9))).bind fun t666=>(gR.f k (a.ae.size:Int)).bind fun t668=>some (⟨1+m,ro,u,t666,t668,a.aq,false,0,0,t,s⟩:ak)) (cond ((1+m)==2) (cond a.kl (some (⟨1+m,ro,u,eE,eE,false,a.kl,1+sp,0,t,s⟩:ak)) (some (⟨1+m,ro,u,eE,eE,false,a.kl,0,0,t,s⟩:ak))) (some (⟨1+m,eE,u,eE,eE,false,false,0,st,t,s⟩:ak))))→
   Ev (fun k=>cond ((1+m)==1) ((dm.f k (av ((a.bH.size:Int)+t9))).bind fun t666=>(gR.f k (a.ae.size:Int)).bind fun t668=>some (⟨1+m,ro,u,t666,t668,a.aq,false,0,0,t,s⟩:ak)) (cond ((1+m)==2) (cond a.kl (some (⟨1+m,ro,u,eE,eE,false,a.kl,1+sp,0,t,s⟩:ak)) (some (⟨1+m,ro,u,eE,eE,false,a.kl,0,0,t,s⟩:ak))) (some (⟨1+m,eE,u,eE,eE,false,false,0,st,t,s⟩:ak)))) e→Ev (fun k=>lO.f k a) e:=fun e he hv=>hv.eq he
 have hf:∀ k,lO.f k a=cond ((1+m)==1) ((dm.f k (av ((a.bH.size:Int)+t9))).bind fun t666=>(gR.f k (a.ae.size:Int)).bind fun t668=>some (⟨1+m,ro,u,t666,t668,a.aq,false,0,0,t,s⟩:ak)) (cond ((1+m)==2) (cond a.kl (some (⟨1+m,ro,u,eE,eE,false,a.kl,1+sp,0,t,s⟩:ak)) (some (⟨1+m,ro,u,eE,eE,false,a.kl,0,0,t,s⟩:ak))) (some (⟨1+m,eE,u,eE,eE,false,false,0,st,t,s⟩:ak))):=fun k=>by
  simp only [lO.f,h1,u1,t1,s1,r1,y1,p1,q1,Option.bind_some,hw,hsp]
 rcases (show m=0∨m=1∨m=2 by omega) with rfl | rfl | rfl
 ·refine ⟨⟨1,ro,u,mM ej,th,a.aq,false,0,0,t,s⟩,key _ hf (Ev.ct rfl (Ev.bind e1 (Ev.bind f1 Ev.pure))),?_,fun _=>rfl,fun _=>rfl⟩
  exact ⟨.inl rfl,u2,fun _=>r2,fun h=>(by cases h),fun _=>⟨ej,ej9,rfl⟩,fun h=>absurd rfl h,fun _=>f2,fun h=>absurd rfl h,fun h=>absurd rfl h,fun _=>rfl,fun _=>rfl,nofun,fun _=>rfl,⟨Int.le_refl 0,show (0:Int)≤2 by decide⟩,⟨t2,t3⟩,⟨s2,s3⟩⟩
 ·cases ho:a.kl with
  | true=>
   refine ⟨⟨2,ro,u,⟨#[]⟩,⟨#[]⟩,false,true,1+sp,0,t,s⟩,key _ hf (Ev.cf rfl (Ev.ct rfl (Ev.ct ho (Ev.of (by rw [ho]; rfl))))),?_,fun h=>(by have:=hk0 h; omega),fun h=>(by cases h)⟩
   exact ⟨.inr (.inl rfl),u2,fun _=>r2,fun h=>(by cases h),fun h=>(by cases h),fun _=>rfl,fun h=>(by cases h),fun _=>rfl,fun _=>rfl,fun h=>absurd rfl h,nofun,fun _=>⟨by show 1≤1+sp; omega,by show 1+sp≤60; omega⟩,fun _=>rfl,⟨Int.le_refl 0,show (0:Int)≤2 by decide⟩,⟨t2,t3⟩,⟨s2,s3⟩⟩
  | false=>
   refine ⟨⟨2,ro,u,⟨#[]⟩,⟨#[]⟩,false,false,0,0,t,s⟩,key _ hf (Ev.cf rfl (Ev.ct rfl (Ev.cf ho (Ev.of (by rw [ho]; rfl))))),?_,fun h=>(by have:=hk0 h; omega),fun h=>(by cases h)⟩
   exact ⟨.inr (.inl rfl),u2,fun _=>r2,fun h=>(by cases h),fun h=>(by cases h),fun _=>rfl,fun h=>(by cases h),fun _=>rfl,fun _=>rfl,fun _=>rfl,fun _=>rfl,nofun,fun _=>rfl,⟨Int.le_refl 0,show (0:Int)≤2 by decide⟩,⟨t2,t3⟩,⟨s2,s3⟩⟩
 ·refine ⟨⟨3,⟨#[]⟩,u,⟨#[]⟩,⟨#[]⟩,false,false,0,st,t,s⟩,key _ hf (Ev.cf rfl (Ev.cf rfl (Ev.of rfl))),?_,fun h=>(by have:=hk0 h; omega),fun h=>(by cases h)⟩
  exact ⟨.inr (.inr rfl),u2,fun h=>absurd rfl h,fun _=>rfl,fun h=>(by cases h),fun _=>rfl,fun h=>(by cases h),fun _=>rfl,fun _=>rfl,fun _=>rfl,fun _=>rfl,nofun,fun h=>absurd rfl h,⟨q2,by show st≤2; omega⟩,⟨t2,t3⟩,⟨s2,s3⟩⟩
theorem GE.Kh {e:ak} (h:GE e):e.ab.size<128∧e.aj.size<128∧e.bH.size<128∧e.ae.size<128:=by
 refine ⟨?_,?_,?_,?_⟩
 ·by_cases k:e.aI=3
  ·rw [h.Dq k]; show 0<128; omega
  ·rw [(px (h.room k)).2]; decide
 ·rw [(qJ h.user).2]; decide
 ·by_cases k:e.aI=1
  ·obtain ⟨j,_,ej⟩:=h.event k; rw [ej]; show 3<128; omega
  ·rw [h.yu k]; show 0<128; omega
 ·by_cases k:e.aI=1
  ·rcases h.kA k with ej | ej | ⟨j,_,ej⟩ <;> rw [ej]
   ·show 0<128; omega
   ·show 4<128; omega
   ·show 3<128; omega
  ·rw [h.qV k]; show 0<128; omega
theorem uP (a b:BA):(a++b).data.toList=a.data.toList++b.data.toList:=by simp [ByteArray.data_append]
theorem yR {a b:BA} (h:a.data.toList=b.data.toList):a=b:=by
 obtain ⟨⟨a⟩⟩:=a; obtain ⟨⟨b⟩⟩:=b; simp at h; subst h; rfl
def w9 (s:BA):Prop:=∀ x∈s.data.toList,x≠32
theorem HN {s:BA} (h:∀ i:Nat,i<s.size→bt s (i:Int)≠32):w9 s:=fun x hx e=>by
 obtain ⟨i,hi,hx⟩:=List.mem_iff_getElem.1 hx
 have hi':i<s.data.size:=by simpa using hi
 refine h i hi' ?_
 unfold bt
 rw [Int.toNat_natCast,Array.getD_eq_getD_getElem?,Array.getElem?_eq_getElem hi']
 have:s.data[i]=x:=by rw [← hx]; simp
 simp only [Option.getD_some,this,e]
 rfl
theorem Fp:∀ {L L' M M':List UInt8},(∀ x∈L,x≠32)→(∀ x∈L',x≠32)→L++32::M=L'++32::M'→L=L'∧M=M'
 | [],[],M,M',_,_,h=>by simpa using h
 | [],y::L',M,M',_,h2,h=>by simp at h; exact absurd h.1.symm (h2 y (List.mem_cons_self ..))
 | x::L,[],M,M',h1,_,h=>by simp at h; exact absurd h.1 (h1 x (List.mem_cons_self ..))
 | x::L,y::L',M,M',h1,h2,h=>by
  simp only [List.cons_append,List.cons.injEq] at h
  obtain ⟨a,b⟩:=Fp (fun z hz=>h1 z (List.mem_cons_of_mem _ hz)) (fun z hz=>h2 z (List.mem_cons_of_mem _ hz)) h.2
  exact ⟨by rw [h.1,a],b⟩
theorem sn (a b:BA):((a++(⟨#[32]⟩:BA))++b).data.toList=a.data.toList++32::b.data.toList:=by
 rw [uP,uP]; simp
theorem key_inj {a b a' b':BA} (ha:w9 a) (ha':w9 a') (h:(a++(⟨#[32]⟩:BA))++b=(a'++(⟨#[32]⟩:BA))++b'):a=a'∧b=b':=by
 have h1:=congrArg (fun s:BA=>s.data.toList) h
 simp only [sn] at h1
 obtain ⟨e1,e2⟩:=Fp ha ha' h1
 exact ⟨yR e1,yR e2⟩
theorem vL {s:BA} {c:UInt8} (hc:c≠32) (h:dj s c=true):w9 s:=HN fun i hi=>by
 have hcc:(c.toNat:Int)≠32:=fun h=>hc (UInt8.toNat_inj.1 (by exact_mod_cast h))
 unfold dj at h
 split at h
 ·rename_i h0
  simp only at h
  split at h
  ·rename_i h1
   have hft:=rr (s.extract 1 s.size) 58
   rw [show (((58:UInt8).toNat:Int))=58 from rfl] at hft
   rcases hft with ⟨e,_⟩ | ⟨j,e,j1,j2,_⟩
   ·omega
   ·rw [e,Int.toNat_natCast,Bool.and_eq_true] at h
    obtain ⟨p1,p2⟩:=h
    have hsz:(s.extract 1 s.size).size=s.size-1:=jq (Nat.le_refl _)
    have cP:∀ x:Int,EK x=true→x≠32:=fun x hx e=>by subst e; exact absurd hx dc
    have cS:∀ x:Int,Hs x=true→x≠32:=fun x hx e=>by subst e; exact absurd hx dc
    rcases Nat.eq_zero_or_pos i with rfl | hpos
    ·rw [show ((0:Nat):Int)=0 from rfl,h0.2]; exact hcc
    ·obtain ⟨m,rfl⟩:∃ m,i=1+m:=⟨i-1,om⟩
     have hb:bt (s.extract 1 s.size) (m:Int)=bt s ((1+m:Nat):Int):=qC om (Nat.le_refl _)
     rw [← hb]
     rcases Nat.lt_trichotomy m j with hm | hm | hm
     ·unfold rh at p1
      rw [Bool.and_eq_true] at p1
      have:=kE.1 p1.1 m (Nat.zero_le _) (by rw [jq om]; omega)
      have:=cP _ this
      rwa [qC om om,Nat.zero_add] at this
     ·subst hm; rw [j2]; decide
     ·unfold py rh at p2
      rw [Bool.and_eq_true,Bool.and_eq_true] at p2
      have:=kE.1 p2.1.1 (m-(j+1)) (Nat.zero_le _) (by rw [jq (Nat.le_refl _)]; omega)
      have:=cS _ this
      rwa [qC om (Nat.le_refl _),show j+1+(m-(j+1))=m by omega] at this
  ·cases h
 ·cases h
set_option maxRecDepth 100000
def ths:List BA:=⟨#[]⟩::⟨#[109,97,105,110]⟩::(List.range 9).map mM
def allK:List bB:=ji.flatMap fun r=>ma.flatMap fun u=>ths.flatMap fun t=>[⟨r,u,t,false⟩,⟨r,u,t,true⟩]
structure Kx (x:bB):Prop where
 room:x.ab∈ji
 user:x.aj∈ma
 kA:x.ae∈ths
theorem Kx.mem {x:bB} (h:Kx x):x∈allK:=by
 obtain ⟨r,u,t,p⟩:=x
 refine List.mem_flatMap.2 ⟨r,h.room,List.mem_flatMap.2 ⟨u,h.user,List.mem_flatMap.2 ⟨t,h.kA,?_⟩⟩⟩
 cases p <;> simp
def J:BA→List BA→BA
 | a,[]=>a
 | a,b::l=>(a++⟨#[32]⟩)++J b l
def qX (p:Bool):BA:=cond p ⟨#[49]⟩ ⟨#[48]⟩
def nK (x:bB):BA:=J ⟨#[109]⟩ [x.ab,x.aj,x.ae,qX x.aq]
def DL (r:BA):BA:=J ⟨#[116]⟩ [r]
def D6 (u:BA):BA:=J ⟨#[112]⟩ [u]
theorem IX:(allK.all fun x=>decide (iK.f x=some (nK x))&&(decide (iL.f ⟨1,x,⟨#[]⟩⟩=some (nK x))&&(decide (DX (nK x) 32=4)&&decide ((nK x).size≤40))))=true:=kr
theorem Bv {x:bB} (h:Kx x):iK.f x=some (nK x)∧iL.f ⟨1,x,⟨#[]⟩⟩=some (nK x)∧DX (nK x) 32=4∧(nK x).size≤40:=by
 have:=List.all_eq_true.1 IX x h.mem
 simpa using this
theorem zY:∀ r∈ji,jF.f r=some (DL r)∧iL.f ⟨2,⟨⟨#[]⟩,⟨#[]⟩,⟨#[]⟩,false⟩,r⟩=some (DL r)∧DX (DL r) 32=1∧(DL r).size≤40:=by decide +kernel
theorem Ar:∀ r∈ma,jN.f r=some (D6 r)∧iL.f ⟨3,⟨⟨#[]⟩,⟨#[]⟩,⟨#[]⟩,false⟩,r⟩=some (D6 r)∧DX (D6 r) 32=1∧(D6 r).size≤40:=by decide +kernel
theorem sg {s:BA} (h:(s.data.toList.all fun x=>x != 32)=true):w9 s:=fun x hx=>by simpa using List.all_eq_true.1 h x hx
theorem B8:∀ r∈ji,w9 r:=fun r hr=>sg (by revert r; decide +kernel)
theorem BR:∀ r∈ma,w9 r:=fun r hr=>sg (by revert r; decide +kernel)
theorem Fh:∀ r∈ths,w9 r:=fun r hr=>sg (by revert r; decide +kernel)
theorem JU:∀ {l m:List UInt8},(∀ x∈l,x≠32)→Lib.indexByte (l++32::m) 32=(l.length:Int)
 | [],m,_=>by simp [Lib.indexByte]
 | a::l,m,h=>by
  have h1:=JU (l:=l) (m:=m) fun x hx=>h x (List.mem_cons_of_mem _ hx)
  have h2:(a==32)=false:=by simpa using h a List.mem_cons_self
  rw [List.cons_append,Lib.indexByte,h2,h1]
  have h3:((l.length:Int) == -1)=false:=by rw [beq_eq_false_iff_ne]; omega
  rw [h3]; simp
theorem KP {a r:BA} (h:w9 a):gT.f ((a++⟨#[32]⟩)++r) ⟨#[32]⟩=some (a.size:Int):=by
 unfold gT.f
 rw [xt]
 have e:l7 ((a++⟨#[32]⟩)++r) ((32:UInt8).toNat:Int)=(a.size:Int):=by
  show Lib.indexByte ((a++⟨#[32]⟩)++r).data.toList 32=_
  rw [sn,JU h]; rfl
 rw [e]; rfl
theorem GN (s:BA) (i j:Nat):(s.extract i j).data.toList=(s.data.toList.take j).drop i:=by
 simp [ByteArray.data_extract,List.drop_take]
theorem cut1 (a r:BA):((a++⟨#[32]⟩)++r).extract 0 a.size=a:=yR (by
 rw [GN,sn,List.drop_zero]
 show List.take a.data.toList.length _=_
 simp)
theorem cut2 (a r:BA):((a++⟨#[32]⟩)++r).extract (a.size+1) ((a++⟨#[32]⟩)++r).size=r:=yR (by
 rw [GN]
 have e:((a++⟨#[32]⟩)++r).size=((a++⟨#[32]⟩)++r).data.toList.length:=rfl
 rw [e,List.take_length,sn]
 show List.drop (a.data.toList.length+1) _=_
 rw [← List.drop_drop]; simp)
section
variable {k:Nat} {s0:BA} {p:Int} {B:Nat} (hB:av ((min p (av ((s0.size:Int)+1)))-1)=(B:Int))
include hB
theorem pA {j i:Nat} {a r:BA} {out:List BA} (ha:w9 a) (h1:a.size≤1000) (hi:i<B) (hb:B≤1000) (ho:i<out.length):
  strings_genSplit.l0 k s0 ⟨#[32]⟩ 0 p (j+1) ((a++⟨#[32]⟩)++r) (i:Int) out=strings_genSplit.l0 k s0 ⟨#[32]⟩ 0 p j r ((i+1:Nat):Int) (out.set i a):=by
 rw [strings_genSplit.l0,hB,dT (by omega:(i:Int)<(B:Int)),KP ha]
 have e1:(⟨#[32]⟩:BA).size=1:=rfl
 have e2:av ((a.size:Int)+0)=(a.size:Int):=by rw [Int.add_zero,aG om om]
 have e3:av ((a.size:Int)+((1:Nat):Int))=((a.size+1:Nat):Int):=by rw [aG om om]; omega
 have e4:av ((i:Int)+1)=((i+1:Nat):Int):=by rw [aG om om]; omega
 have hs:((a++⟨#[32]⟩)++r).size=a.size+1+r.size:=by rw [ByteArray.size_append,ByteArray.size_append]; rfl
 simp only [cond_true,Option.bind_some]
 rw [dF (by omega:¬ (a.size:Int)<0),e1,e2,e3,e4,cond_false]
 unfold an
 rw [if_pos ⟨om,om,om⟩,if_pos ⟨om,om⟩,if_pos ⟨om,om,Nat.le_refl _⟩]
 simp only [Int.toNat_natCast]
 rw [cut1,cut2]
theorem D5 {j:Nat} {x:BA} {out:List BA}:strings_genSplit.l0 k s0 ⟨#[32]⟩ 0 p (j+1) x (B:Int) out=some (x,(B:Int),false,out):=by
 rw [strings_genSplit.l0,hB,dF (by omega:¬ (B:Int)<(B:Int))]; rfl
end
theorem Ik {x:bB} (h:Kx x):Ev (fun k=>nj.f k (nK x)) (.d89 x):=by
 obtain ⟨_,_,hc,hsz⟩:=Bv h
 have hl:(nK x).size=16+x.ae.size:=by
  have r:=(px h.room).2; have u:=(qJ h.user).2
  show (J ⟨#[109]⟩ [x.ab,x.aj,x.ae,qX x.aq]).size=_
  have l:(qX x.aq).size=1:=by cases x.aq <;> rfl
  simp only [J,ByteArray.size_append,r,u,l]
  show 1+1+(5+1+(5+1+(x.ae.size+1+1)))=_
  omega
 refine Ev.add 10 fun m=>?_
 unfold nj.f lf.f strings_genSplit.f strings_Count.f
 have e1:(⟨#[32]⟩:BA).size=1:=rfl
 have e0:bt (⟨#[32]⟩:BA) 0=32:=rfl
 have hB:av ((min (av (4+1)) (av (((nK x).size:Int)+1)))-1)=((4:Nat):Int):=by
  rw [aG (x:=4+1) om om,aG (x:=((nK x).size:Int)+1) om om,aG om om]; omega
 have hm:min (av (4+1)) (av (((nK x).size:Int)+1))=5:=by
  rw [aG (x:=4+1) om om,aG (x:=((nK x).size:Int)+1) om om]; omega
 have hk:nK x=(((⟨#[109]⟩:BA)++⟨#[32]⟩)++((x.ab++⟨#[32]⟩)++((x.aj++⟨#[32]⟩)++((x.ae++⟨#[32]⟩)++qX x.aq)))):=rfl
 have r5:=(px h.room).2; have u5:=(qJ h.user).2
 have s1:=pA (k:=m+10) (s0:=nK x) (p:=av (4+1)) (B:=4) hB (j:=m+9) (i:=0) (a:=⟨#[109]⟩) (r:=((x.ab++⟨#[32]⟩)++((x.aj++⟨#[32]⟩)++((x.ae++⟨#[32]⟩)++qX x.aq)))) (out:=List.replicate 5 ⟨#[]⟩) (sg (by decide +kernel)) dc om om sM
 have s2:=pA (k:=m+10) (s0:=nK x) (p:=av (4+1)) (B:=4) hB (j:=m+8) (i:=1) (a:=x.ab) (r:=((x.aj++⟨#[32]⟩)++((x.ae++⟨#[32]⟩)++qX x.aq))) (out:=(List.replicate 5 ⟨#[]⟩).set 0 ⟨#[109]⟩) (B8 _ h.room) om om om sM
 have s3:=pA (k:=m+10) (s0:=nK x) (p:=av (4+1)) (B:=4) hB (j:=m+7) (i:=2) (a:=x.aj) (r:=((x.ae++⟨#[32]⟩)++qX x.aq)) (out:=((List.replicate 5 ⟨#[]⟩).set 0 ⟨#[109]⟩).set 1 x.ab) (BR _ h.user) om om om sM
 have s4:=pA (k:=m+10) (s0:=nK x) (p:=av (4+1)) (B:=4) hB (j:=m+6) (i:=3) (a:=x.ae) (r:=qX x.aq) (out:=(((List.replicate 5 ⟨#[]⟩).set 0 ⟨#[109]⟩).set 1 x.ab).set 2 x.aj) (Fh _ h.kA) om om om sM
 have s5:=D5 (k:=m+10) (s0:=nK x) (p:=av (4+1)) (B:=4) hB (j:=m+5) (x:=qX x.aq) (out:=((((List.replicate 5 ⟨#[]⟩).set 0 ⟨#[109]⟩).set 1 x.ab).set 2 x.aj).set 3 x.ae)
 rw [← hk] at s1
 have s:=s1.trans (s2.trans (s3.trans (s4.trans s5)))
 have s':strings_genSplit.l0 (m+10) (nK x) ⟨#[32]⟩ 0 (av (4+1)) (m+10) (nK x) 0 (List.replicate (5:Int).toNat ⟨#[]⟩)=some (qX x.aq,4,false,[⟨#[109]⟩,x.ab,x.aj,x.ae,⟨#[]⟩]):=s
 have gp:∀ {α:Type} {p:Prop} [Decidable p] (h:p) (x:Option α),an p x=x:=fun h x=>if_pos h
 simp only [show (-1==(0:Int))=false from rfl,show decide ((-1:Int)<0)=true from rfl,show decide ((⟨#[32]⟩:BA)=⟨#[]⟩)=false from rfl,e1,e0,hc,show (((1:Nat):Int)==0)=false from rfl,show (((1:Nat):Int)==1)=true from rfl,cond_true,cond_false]
 rw [gp dc]
 simp only [Option.bind_some]
 rw [hm,gp dc,s']
 simp only [Option.bind_some]
 rw [gp ⟨dc,(by decide:(4:Int)<((5:Nat):Int))⟩,gp ⟨dc,dc,(by decide:(av (4+1)).toNat≤5)⟩]
 simp only [Option.bind_some]
 obtain ⟨r,u,t,p⟩:=x
 cases p <;> rfl
theorem I9:∀ r∈ji,Ev (fun k=>nj.f k (DL r)) (.d141 r):=fun r hr=>by
 simp only [ji,List.mem_cons,List.not_mem_nil,or_false] at hr
 rcases hr with rfl | rfl <;> exact Ev.add 20 fun m=>kr
theorem Ji:∀ r∈ma,Ev (fun k=>nj.f k (D6 r)) (.d143 r):=fun r hr=>by
 simp only [ma,List.mem_cons,List.not_mem_nil,or_false] at hr
 rcases hr with rfl | rfl | rfl | rfl | rfl | rfl | rfl | rfl | rfl <;> exact Ev.add 20 fun m=>kr
end Go.Proofs.YtfknmdelgepbjaaGreatDoor
