import Derived.Test.YtfknmdelgepbjaaGreatDoorWZVG
set_option linter.all false
set_option maxRecDepth 10000
namespace Go.Proofs.YtfknmdelgepbjaaGreatDoor
open Go Go.Sp
structure RG (L:List Event):Prop where
 uV:Good L
 par:∀ e∈L,e.ag.length≤4
 lE:∀ e∈L,e.bR=0∨e.bR=1∨e.bR=2
 usr:∀ e∈L,e.aj.size≤maxLen
 len:L.length≤1000
theorem rt_of {m:bp} {L:List Event} (h:RG L) (hT:T m=tb L):RT m (tb L):=
 ⟨hT,uM h.uV,J4 L,fun x hx=>h.par _ (by rw [← BV L]; exact List.mem_map.2 ⟨x,hx,rfl⟩),by rw [Hi]; exact h.len⟩
theorem tI (p q:Pos):fH.f p q=some (ltOf fq p q):=by
 unfold fH.f
 have h:=yV p q
 by_cases h1:p.bx<q.bx
 ·rw [dT h1,(h.2 (.inl h1))]; rfl
 ·rw [dF h1]
  by_cases h2:p.bx=q.bx
  ·rw [show (p.bx==q.bx)=true by simp [h2]]
   show some (dJ p.bV q.bV)=_
   congr 1
   rw [Bool.eq_iff_iff,h]
   exact ⟨fun k=>.inr ⟨h2,k⟩,fun k=>k.elim (fun k=>absurd k h1) (·.2)⟩
  ·rw [show (p.bx==q.bx)=false by simp [h2]]
   show some false=_
   congr 1
   cases e:ltOf fq p q with
   | false=>rfl
   | true=>
        rcases h.1 e with k | k
        ·exact absurd k h1
        ·exact absurd k.1 h2
def zeroE:Event:=⟨⟨#[]⟩,⟨#[]⟩,[],⟨#[]⟩,⟨#[]⟩,0⟩
def pr:Option Event→Event×Bool
 | some e=>(e,true)
 | none=>(zeroE,false)
section
variable {d:aK} (hg:RG d.fL)
include hg
theorem yK (id:BA):Ev (fun k=>dI.f k d id) (pos (tb d.fL) id):=
 KE hg.uV (by have:=hg.len; omega) (fun i hi=>by have:=hg.par _ (G8 hi); show _≤9223372036854775807; omega) id
def PM (t:oO) (L:List Event) (u:BA) (x:Nat) (kx:Int):Prop:=
 (kx = -1∧∀ i,i<x→iw u (ev L i)=false)∨∃ c:Nat,kx=(c:Int)∧c<x∧iw u (ev L c)=true∧∀ i,i<x→iw u (ev L i)=true→ev L i=ev L c∨lt t (ev L i) (ev L c)
theorem BQ (u:BA):∀ n x:Nat,d.fL.length-x=n→x≤d.fL.length→∀ kx:Int,PM (tb d.fL) d.fL u x kx→∃ r:Int×Int×Bool,El (fun k j=>cM.l0 k d u j kx (x:Int)) r∧PM (tb d.fL) d.fL u d.fL.length r.1:=by
 have hl:=hg.len
 intro n
 induction n with
 | zero=>
  intro x hd hx kx hp
  obtain rfl:x=d.fL.length:=om
  refine ⟨(kx,(d.fL.length:Int),false),?_,hp⟩
  refine El.step (fun _ _=>by rw [cM.l0]) ?_
  exact El.cf sM (by simpa using El.pure)
 | succ n ih=>
  intro x hd hx kx hp
  have hx2:x<d.fL.length:=om
  have g:(0:Int)≤(x:Int)∧(x:Int)<(d.fL.length:Int):=⟨om,om⟩
  have stay:iw u (ev d.fL x)=false→PM (tb d.fL) d.fL u (x+1) kx:=fun h=>by
   rcases hp with ⟨h1,h2⟩ | ⟨c,h1,h2,h3,h4⟩
   ·refine .inl ⟨h1,fun i hi=>?_⟩
    rcases Nat.lt_or_ge i x with k | k
    ·exact h2 i k
    ·obtain rfl:i=x:=om
     exact h
   ·refine .inr ⟨c,h1,om,h3,fun i hi hr=>?_⟩
    rcases Nat.lt_or_ge i x with k | k
    ·exact h4 i k hr
    ·obtain rfl:i=x:=om
     rw [h] at hr; cases hr
  have key:∀ kx',PM (tb d.fL) d.fL u (x+1) kx'→(∀ r,El (fun k j=>cM.l0 k d u j kx' (av ((x:Int)+1))) r→El (fun k j=>cond (!decide (((Event.K.at d.fL (x:Int)).aj)=u)) (cM.l0 k d u j kx (av ((x:Int)+1))) (an ((0:Int)≤(x:Int)∧(x:Int)<(d.fL.length:Int)) (cond (((Event.K.at d.fL (x:Int)).bR)==0) (cM.l0 k d u j kx (av ((x:Int)+1))) (cond (decide (kx<0)) (cM.l0 k d u j (x:Int) (av ((x:Int)+1))) (an ((0:Int)≤kx∧kx<(d.fL.length:Int)) ((dI.f k d ((Event.K.at d.fL kx).bV)).bind fun t625=>an ((0:Int)≤(x:Int)∧(x:Int)<(d.fL.length:Int)) ((dI.f k d ((Event.K.at d.fL (x:Int)).bV)).bind fun t628=>(fH.f t625 t628).bind fun t630=>cond t630 (cM.l0 k d u j (x:Int) (av ((x:Int)+1))) (cM.l0 k d u j kx (av ((x:Int)+1)))))))))) r)→∃ r:Int×Int×Bool,El (fun k j=>cM.l0 k d u j kx (x:Int)) r∧PM (tb d.fL) d.fL u d.fL.length r.1:=fun kx' hk hG=>by
   obtain ⟨r,r1,r2⟩:=ih (x+1) om om kx' hk
   exact ⟨r,El.step (fun _ _=>by rw [cM.l0]) (El.ct (dT om) (El.an g (hG r (by rw [kH om]; exact r1)))),r2⟩
  by_cases hu:(ev d.fL x).aj=u
  ·by_cases h0:(ev d.fL x).bR=0
   ·have hr:iw u (ev d.fL x)=false:=by unfold iw; simp [h0]
    obtain ⟨r,r1,r2⟩:=key kx (stay hr) (fun r h=>El.cf (by rw [kg hx2]; simp [hu]) (El.an g (El.ct (by rw [kg hx2]; simp [h0]) h)))
    exact ⟨r,r1,r2⟩
   ·have hr:iw u (ev d.fL x)=true:=by unfold iw; simp [h0,hu]
    rcases hp with ⟨h1,h2⟩ | ⟨c,h1,h2,h3,h4⟩
    ·obtain ⟨r,r1,r2⟩:=key (x:Int) (.inr ⟨x,rfl,om,hr,fun i hi hr'=>by
      rcases Nat.lt_or_ge i x with k | k
      ·rw [h2 i k] at hr'; cases hr'
      ·obtain rfl:i=x:=om
       exact .inl rfl⟩) (fun r h=>El.cf (by rw [kg hx2]; simp [hu]) (El.an g (El.cf (by rw [kg hx2]; simp [h0]) (El.ct (dT om) h))))
     exact ⟨r,r1,r2⟩
    ·have hc2:c<d.fL.length:=om
     have gc:(0:Int)≤kx∧kx<(d.fL.length:Int):=⟨om,om⟩
     have pre:∀ {kx'} {r},ltOf fq (pos (tb d.fL) (ev d.fL c).bV) (pos (tb d.fL) (ev d.fL x).bV)=(decide (kx'=(x:Int)):Bool)→(kx'=(x:Int)∨kx'=kx)→El (fun k j=>cM.l0 k d u j kx' (av ((x:Int)+1))) r→El (fun k j=>cond (!decide (((Event.K.at d.fL (x:Int)).aj)=u)) (cM.l0 k d u j kx (av ((x:Int)+1))) (an ((0:Int)≤(x:Int)∧(x:Int)<(d.fL.length:Int)) (cond (((Event.K.at d.fL (x:Int)).bR)==0) (cM.l0 k d u j kx (av ((x:Int)+1))) (cond (decide (kx<0)) (cM.l0 k d u j (x:Int) (av ((x:Int)+1))) (an ((0:Int)≤kx∧kx<(d.fL.length:Int)) ((dI.f k d ((Event.K.at d.fL kx).bV)).bind fun t625=>an ((0:Int)≤(x:Int)∧(x:Int)<(d.fL.length:Int)) ((dI.f k d ((Event.K.at d.fL (x:Int)).bV)).bind fun t628=>(fH.f t625 t628).bind fun t630=>cond t630 (cM.l0 k d u j (x:Int) (av ((x:Int)+1))) (cM.l0 k d u j kx (av ((x:Int)+1)))))))))) r:=fun {kx' r} hlt hk h=>by
      have ec:Event.K.at d.fL kx=ev d.fL c:=by rw [h1]; exact kg hc2
      refine El.cf (by rw [kg hx2]; simp [hu]) (El.an g (El.cf (by rw [kg hx2]; simp [h0]) (El.cf (dF om) (El.an gc ?_))))
      rw [ec,kg hx2]
      refine El.bind (yK hg _).el (El.an g (El.bind (yK hg _).el (El.bind (Ev.of (tI _ _)).el ?_)))
      rw [hlt]
      rcases hk with hk | hk
      ·rw [hk] at h ⊢
       exact El.ct sM h
      ·rw [hk] at h ⊢
       exact El.cf (dF om) h
     cases hlt:ltOf fq (pos (tb d.fL) (ev d.fL c).bV) (pos (tb d.fL) (ev d.fL x).bV) with
     | true=>
      obtain ⟨r,r1,r2⟩:=key (x:Int) (.inr ⟨x,rfl,om,hr,fun i hi hr'=>by
       rcases Nat.lt_or_ge i x with k | k
       ·rcases h4 i k hr' with q | q
        ·rw [q]; exact .inr hlt
        ·exact .inr (JR q hlt)
       ·obtain rfl:i=x:=om
        exact .inl rfl⟩) (fun r h=>pre (kx':=(x:Int)) (by rw [hlt]; simp) (.inl rfl) h)
      exact ⟨r,r1,r2⟩
     | false=>
      obtain ⟨r,r1,r2⟩:=key kx (.inr ⟨c,h1,om,h3,fun i hi hr'=>by
       rcases Nat.lt_or_ge i x with k | k
       ·exact h4 i k hr'
       ·obtain rfl:i=x:=om
        cases h5:ltOf fq (pos (tb d.fL) (ev d.fL i).bV) (pos (tb d.fL) (ev d.fL c).bV) with
        | true=>exact .inr h5
        | false=>
         have:=congrArg Pos.bV (qH _ _ h5 hlt)
         have h6:(ev d.fL i).bV=(ev d.fL c).bV:=this
         have h7:=Gt hg.uV hx2
         rw [h6,Gt hg.uV hc2] at h7
         omega⟩) (fun r h=>pre (kx':=kx) (by rw [hlt]; exact (dF om).symm) (.inr rfl) h)
      exact ⟨r,r1,r2⟩
  ·have hr:iw u (ev d.fL x)=false:=by unfold iw; simp [hu]
   obtain ⟨r,r1,r2⟩:=key kx (stay hr) (fun r h=>El.ct (by rw [kg hx2]; simp [hu]) h)
   exact ⟨r,r1,r2⟩
theorem FU (u:BA):Ev (fun k=>cM.f k d u) (pr (nT u (mU (tb d.fL)) none)):=by
 obtain ⟨r,r1,r2⟩:=BQ hg u _ 0 rfl om (-1) (.inl ⟨rfl,fun i hi=>om⟩)
 have hmx:=GG hg.uV u
 unfold cM.f
 refine Ev.bind r1.diag ?_
 rcases r2 with ⟨h1,h2⟩ | ⟨c,h1,h2,h3,h4⟩
 ·have:nT u (mU (tb d.fL)) none=none:=Dp hmx (fun e he=>by obtain ⟨i,hi,rfl⟩:=tH he; exact h2 i hi)
  rw [this,h1]
  exact Ev.ct rfl Ev.pure
 ·have:nT u (mU (tb d.fL)) none=some (ev d.fL c):=Dp hmx ⟨G8 h2,h3,fun e he=>by obtain ⟨i,hi,rfl⟩:=tH he; exact h4 i hi⟩
  rw [this,h1]
  refine Ev.cf (dF om) (Ev.an ⟨om,om⟩ (Ev.of ?_))
  rw [kg h2]; rfl
def L0:Option Event→Bool
 | some e=>e.bR==1
 | none=>false
theorem wq (u:BA):Ev (fun k=>jC.f k d u) (L0 (nT u (mU (tb d.fL)) none)):=by
 unfold jC.f
 refine Ev.bind (FU hg u) ?_
 cases nT u (mU (tb d.fL)) none with
 | none=>exact Ev.cf rfl Ev.pure
 | some e=>exact Ev.ct rfl Ev.pure
end
section
variable {m:bp} {L:List Event} (hg:RG L) (hT:T m=tb L)
include hg hT
theorem Ku (u:BA):Nd (jm (mU (tb L)))∧mget (jm (mU (tb L))) u=oj (nT u (mU (tb L)) none):=by
 have:=Kj (mU (tb L)) (fun e he=>hg.lE e ((Ac hg.uV).mem_iff.1 he)) [] (fun _=>none) zi (fun _=>rfl)
 exact ⟨this.1,this.2 u⟩
theorem oj_is (o:Option Event):decide (0<(oj o).getD 0)=L0 o∧((oj o).isSome=L0 o):=by
 cases o with
 | none=>exact ⟨rfl,rfl⟩
 | some e=>
  unfold oj L0
  by_cases h:e.bR=1
  ·simp [h]
  ·simp [h]
theorem Br (u:BA):Ev (fun k=>j4.f k m u) (L0 (nT u (mU (tb L)) none)):=by
 unfold j4.f
 refine Ev.bind (ES (rt_of hg hT)) (Ev.of ?_)
 rw [(Ku hg hT u).2,(oj_is hg hT _).1]
end
structure Zz (e:ak):Prop where
 room:e.ab.size≤maxLen
 user:e.aj.size≤maxLen
 event:e.bI.size≤maxLen
 kA:e.ae.size≤maxLen
def mw (s:BA):Bool:=decide (s=eE)||(decide (s=(⟨#[109,97,105,110]⟩:BA))||j7 s)
theorem IN {s:BA} (hs:s.size≤maxLen):Ev (fun k=>lB.f k s) (mw s):=by
 unfold lB.f mw
 by_cases h1:s=eE
 ·rw [dT h1]; exact Ev.pure
 ·rw [dF h1]
  by_cases h2:s=(⟨#[109,97,105,110]⟩:BA)
  ·rw [dT h2]; exact Ev.pure
  ·rw [dF h2]; exact Ev.bind (tA hs) Ev.pure
theorem HZ {s:BA} (hs:s.size≤maxLen):Ev (fun k=>mu.f k s) (mw s):=by
 unfold mu.f mw
 refine Ev.bind (py hs) ?_
 by_cases h1:s=eE
 ·rw [dT h1]; exact Ev.pure
 ·rw [dF h1]
  by_cases h2:s=(⟨#[109,97,105,110]⟩:BA)
  ·rw [dT h2]; exact Ev.pure
  ·rw [dF h2]; exact Ev.pure
theorem Bh {α:Type} {c:Bool} {a b:α}:cond c (some a) (some b)=some (cond c a b):=by cases c <;> rfl
theorem dle {x y:Int}:decide (x≤y) = !decide (y<x):=by
 rw [Bool.eq_iff_iff]; simp
def LU (e:ak):Bool:=di e.aj 64&&(!decide (e.aV<0) && !decide (1099511627776<e.aV)&&(!decide (e.bf<0) && !decide (1099511627776<e.bf)))
def nO (e:ak):Bool:=
 cond (e.aH==1) (cond (cond (di e.ab 33) (cond (j7 e.bI) (mw e.ae) false) false) (cond (!e.kb&&(e.bZ==0)&&(e.aX==0)) (cond (di e.aj 64) (!decide (e.aV<0) && !decide (1099511627776<e.aV)&&(!decide (e.bf<0) && !decide (1099511627776<e.bf))) false) false) false)
  (cond (e.aH==2) (cond (di e.ab 33) (cond e.kb (!decide (e.bZ<1) && !decide (60<e.bZ)) (e.bZ==0)) false&&(((decide (e.bI=eE)&&decide (e.ae=eE))&&((e.aX==0) && !e.aq))&&LU e))
   (cond (e.aH==3) ((!decide (e.aX<0) && !decide (2<e.aX))&&((((decide (e.ab=eE)&&decide (e.bI=eE))&&decide (e.ae=eE))&&((!e.kb&&(e.bZ==0)) && !e.aq))&&LU e)) false))
theorem GZ {e:ak} (z:Zz e):∃ b,b=nO e∧Ev (fun k=>eN.f k e) b∧Ev (fun k=>gI.f k e) b:=by
 obtain ⟨n1,h1⟩:=Fo z.room
 obtain ⟨n2,h2⟩:=G7 z.user
 obtain ⟨n3,h3⟩:=tA z.event
 obtain ⟨n4,h4⟩:=IN z.kA
 have hn:∀ b,(∀ k,max (max n1 n2) (max n3 n4)≤k→eN.f k e=some b)→Ev (fun k=>eN.f k e) b:=fun b h=>⟨_,h⟩
 have href:∀ b,b=nO e→Ev (fun k=>gI.f k e) b→(∀ k,max (max n1 n2) (max n3 n4)≤k→eN.f k e=some b)→∃ b,b=nO e∧Ev (fun k=>eN.f k e) b∧Ev (fun k=>gI.f k e) b:=fun b hb h h'=>⟨b,hb,hn b h',h⟩
 have hu:=yB (c:=64) dc z.user
 have hr:=yB (c:=33) dc z.room
 have he:=py z.event
 have ht:=HZ z.kA
 obtain ⟨K,ro,us,ev,th,pr,on,sp,st,ti,sm⟩:=e
 simp only at h1 h2 h3 h4 hu hr he ht
 by_cases hk:K=1∨K=2∨K=3
 ·have d1:decide ((1:Int)<0)=false:=rfl
  have d2:decide ((3:Int)<1)=false:=rfl
  have d3:decide ((2:Int)<0)=false:=rfl
  have d4:decide ((3:Int)<2)=false:=rfl
  have d5:decide ((3:Int)<0)=false:=rfl
  have d6:decide ((3:Int)<3)=false:=rfl
  have b1:((1:Int)==1)=true:=rfl
  have b2:((2:Int)==1)=false:=rfl
  have b3:((2:Int)==2)=true:=rfl
  have b4:((3:Int)==1)=false:=rfl
  have b5:((3:Int)==2)=false:=rfl
  have b6:((3:Int)==3)=true:=rfl
  have g:∀ (k:Nat) (i:Int),0≤i→i<4→(0:Int)≤i∧i<(([iY.f,gL.f k,fun a0_=>fI.f k a0_ cJ.f,fun a0_=>fF.f a0_ cJ.f]:List (ak→Option Bool)).length:Int):=fun k i h0 h1=>⟨h0,by simpa using h1⟩
  rcases hk with rfl | rfl | rfl
  ·refine href (cond (cond (di ro 33) (cond (j7 ev) (mw th) false) false) (cond (!on&&(sp==0)&&(st==0)) (cond (di us 64) (!decide (ti<0) && !decide (1099511627776<ti)&&(!decide (sm<0) && !decide (1099511627776<sm))) false) false) false) rfl ?_ fun k hk=>?_
   ·unfold gI.f
    refine Ev.bind hu (Ev.bind hr (Ev.bind he (Ev.bind ht (Ev.of ?_))))
    simp only [b1,cond_true]
    generalize di us 64=a1
    generalize di ro 33=a2
    generalize j7 ev=a3
    generalize mw th=a4
    generalize decide (ti<0)=a5
    generalize decide (1099511627776<ti)=a6
    generalize decide (sm<0)=a7
    generalize decide (1099511627776<sm)=a8
    generalize (sp==0)=a9
    generalize (st==0)=a10
    simp only [Bh]
    congr 1
    cases a1 <;> cases a5 <;> cases a6 <;> cases a7 <;> cases a8 <;> cases a2 <;> cases a3 <;> cases a4 <;> try rfl
    all_goals (cases on <;> cases a9 <;> cases a10 <;> rfl)
   ·have r:=h1 k om
    have u:=h2 k om
    have v:=h3 k om
    have t:=h4 k om
    have e4:iG.at [iY.f,gL.f k,fun a0_=>fI.f k a0_ cJ.f,fun a0_=>fF.f a0_ cJ.f] 1=gL.f k:=rfl
    have eq1:decide ((⟨1,ro,us,ev,th,pr,on,sp,st,ti,sm⟩:ak)=⟨1,ro,us,ev,th,pr,false,0,0,ti,sm⟩)=(!on&&(sp==0)&&(st==0)):=by
     rw [Bool.eq_iff_iff]
     simp only [decide_eq_true_eq,ak.mk.injEq,true_and,and_true,Bool.and_eq_true,beq_iff_eq,Bool.not_eq_true',and_assoc]
    simp only [eN.f,nP.f,Option.bind_some,d1,d2,cond_false]
    simp only [e4,an]
    rw [if_pos (g k 1 dc dc)]
    simp only [Option.bind_some,gL.f,r,v,t,mg.f,iR.f,b1,cond_true,eq1,u,dle,Bh]
    generalize di us 64=a1
    generalize di ro 33=a2
    generalize j7 ev=a3
    generalize mw th=a4
    generalize decide (ti<0)=a5
    generalize decide (1099511627776<ti)=a6
    generalize decide (sm<0)=a7
    generalize decide (1099511627776<sm)=a8
    generalize (!on&&(sp==0)&&(st==0))=a9
    cases a2 <;> cases a3 <;> cases a4 <;> cases a9 <;> cases a1 <;> try rfl
    all_goals (cases a5 <;> cases a6 <;> cases a7 <;> cases a8 <;> rfl)
  ·refine href (cond (di ro 33) (cond on (!decide (sp<1) && !decide (60<sp)) (sp==0)) false&&(((decide (ev=eE)&&decide (th=eE))&&((st==0) && !pr))&&(di us 64&&(!decide (ti<0) && !decide (1099511627776<ti)&&(!decide (sm<0) && !decide (1099511627776<sm)))))) rfl ?_ fun k hk=>?_
   ·unfold gI.f
    refine Ev.bind hu (Ev.bind hr (Ev.bind he (Ev.bind ht (Ev.of ?_))))
    simp only [b2,b3,cond_true,cond_false,dle]
    generalize di us 64=a1
    generalize di ro 33=a2
    generalize decide (ti<0)=a5
    generalize decide (1099511627776<ti)=a6
    generalize decide (sm<0)=a7
    generalize decide (1099511627776<sm)=a8
    generalize (sp==0)=a9
    generalize (st==0)=a10
    generalize decide (sp<1)=a11
    generalize decide (60<sp)=a12
    generalize decide (ev=eE)=a13
    generalize decide (th=eE)=a14
    simp only [Bh]
    congr 1
    cases a1 <;> cases a5 <;> cases a6 <;> cases a7 <;> cases a8 <;> cases a2 <;> cases on <;> simp
    all_goals (cases a9 <;> cases a10 <;> cases a11 <;> cases a12 <;> cases a13 <;> cases a14 <;> rfl)
   ·have r:=h1 k om
    have u:=h2 k om
    have e4:iG.at [iY.f,gL.f k,fun a0_=>fI.f k a0_ cJ.f,fun a0_=>fF.f a0_ cJ.f] 2=fun a0_=>fI.f k a0_ cJ.f:=rfl
    have eq1:∀ (s:Int) (o:Bool),decide ((⟨2,ro,us,ev,th,pr,o,sp,st,ti,sm⟩:ak)=⟨2,ro,us,⟨#[]⟩,⟨#[]⟩,false,o,s,0,ti,sm⟩)=((decide (ev=⟨#[]⟩)&&decide (th=⟨#[]⟩)&&(st==0) && !pr)&&(sp==s)):=fun s o=>by
     rw [Bool.eq_iff_iff]
     simp only [decide_eq_true_eq,ak.mk.injEq,true_and,and_true,Bool.and_eq_true,beq_iff_eq,Bool.not_eq_true']
     constructor
     ·rintro ⟨h1,h2,h3,h4,h5⟩; exact ⟨⟨⟨⟨h1,h2⟩,h5⟩,h3⟩,h4⟩
     ·rintro ⟨⟨⟨⟨h1,h2⟩,h5⟩,h3⟩,h4⟩; exact ⟨h1,h2,h3,h4,h5⟩
    simp only [eN.f,nP.f,Option.bind_some,d3,d4,cond_false]
    simp only [e4,an]
    rw [if_pos (g k 2 dc dc)]
    simp only [Option.bind_some,fI.f,r,mg.f,iR.f,cJ.f,b2,b3,cond_true,cond_false,dle]
    cases on
    all_goals
     simp only [cond_true,cond_false,eq1,beq_self_eq_true,Bool.and_true,Bool.not_true,Bool.not_false,Option.bind_some,u]
     generalize di us 64=a1
     generalize di ro 33=a2
     generalize decide (ti<0)=a5
     generalize decide (1099511627776<ti)=a6
     generalize decide (sm<0)=a7
     generalize decide (1099511627776<sm)=a8
     generalize decide (ev=eE)=a13
     generalize decide (th=eE)=a14
     generalize (st==0)=a10
     generalize (sp==0)=a9
     generalize decide (sp<1)=a11
     generalize decide (60<sp)=a12
     cases a2 <;> cases a9 <;> cases a11 <;> cases a12 <;> cases a1 <;> cases a13 <;> cases a14 <;> cases a10 <;> cases pr <;> try rfl
     all_goals (cases a5 <;> cases a6 <;> cases a7 <;> cases a8 <;> rfl)
  ·refine href ((!decide (st<0) && !decide (2<st))&&((((decide (ro=eE)&&decide (ev=eE))&&decide (th=eE))&&((!on&&(sp==0)) && !pr))&&(di us 64&&(!decide (ti<0) && !decide (1099511627776<ti)&&(!decide (sm<0) && !decide (1099511627776<sm)))))) rfl ?_ fun k hk=>?_
   ·unfold gI.f
    refine Ev.bind hu (Ev.bind hr (Ev.bind he (Ev.bind ht (Ev.of ?_))))
    simp only [b4,b5,b6,cond_true,cond_false,dle]
    generalize di us 64=a1
    generalize decide (ti<0)=a5
    generalize decide (1099511627776<ti)=a6
    generalize decide (sm<0)=a7
    generalize decide (1099511627776<sm)=a8
    generalize (sp==0)=a9
    generalize decide (st<0)=a11
    generalize decide (2<st)=a12
    generalize decide (ev=eE)=a13
    generalize decide (th=eE)=a14
    generalize decide (ro=eE)=a15
    simp only [Bh]
    congr 1
    cases a1 <;> cases a5 <;> cases a6 <;> cases a7 <;> cases a8 <;> simp
    all_goals (cases a9 <;> cases a11 <;> cases a12 <;> cases a13 <;> cases a14 <;> cases a15 <;> cases on <;> cases pr <;> rfl)
   ·have u:=h2 k om
    have e4:iG.at [iY.f,gL.f k,fun a0_=>fI.f k a0_ cJ.f,fun a0_=>fF.f a0_ cJ.f] 3=fun a0_=>fF.f a0_ cJ.f:=rfl
    have eq1:decide ((⟨3,ro,us,ev,th,pr,on,sp,st,ti,sm⟩:ak)=⟨3,⟨#[]⟩,us,⟨#[]⟩,⟨#[]⟩,false,false,0,st,ti,sm⟩)=(((decide (ro=eE)&&decide (ev=eE))&&decide (th=eE))&&((!on&&(sp==0)) && !pr)):=by
     rw [Bool.eq_iff_iff]
     simp only [decide_eq_true_eq,ak.mk.injEq,true_and,and_true,Bool.and_eq_true,beq_iff_eq,Bool.not_eq_true']
     constructor
     ·rintro ⟨h1,h2,h3,h4,h5,h6⟩; exact ⟨⟨⟨h1,h2⟩,h3⟩,⟨h5,h6⟩,h4⟩
     ·rintro ⟨⟨⟨h1,h2⟩,h3⟩,⟨h5,h6⟩,h4⟩; exact ⟨h1,h2,h3,h4,h5,h6⟩
    simp only [eN.f,nP.f,Option.bind_some,d5,d6,cond_false]
    simp only [e4,an]
    rw [if_pos (g k 3 dc dc)]
    simp only [Option.bind_some,fF.f,mg.f,iR.f,cJ.f,b4,b5,b6,cond_true,cond_false,dle,eq1,u]
    generalize di us 64=a1
    generalize decide (ti<0)=a5
    generalize decide (1099511627776<ti)=a6
    generalize decide (sm<0)=a7
    generalize decide (1099511627776<sm)=a8
    generalize decide (st<0)=a11
    generalize decide (2<st)=a12
    generalize (((decide (ro=eE)&&decide (ev=eE))&&decide (th=eE))&&((!on&&(sp==0)) && !pr))=a9
    cases a11 <;> cases a12 <;> cases a9 <;> cases a1 <;> try rfl
    all_goals (cases a5 <;> cases a6 <;> cases a7 <;> cases a8 <;> rfl)
 ·have k1:(K==1)=false:=by rw [beq_eq_false_iff_ne]; omega
  have k2:(K==2)=false:=by rw [beq_eq_false_iff_ne]; omega
  have k3:(K==3)=false:=by rw [beq_eq_false_iff_ne]; omega
  refine href false (by unfold nO; simp only [k1,k2,k3,cond_false]) ?_ fun k hk'=>?_
  ·unfold gI.f
   refine Ev.bind hu (Ev.bind hr (Ev.bind he (Ev.bind ht (Ev.of ?_))))
   simp only [k1,k2,k3,cond_false,Bool.cond_self,Bh]
  ·by_cases c1:K<0
   ·simp only [eN.f,dT c1,cond_true]
   ·by_cases c2:3<K
    ·simp only [eN.f,dT c2,dF c1,cond_true,cond_false]
    ·obtain rfl:K=0:=om
     rfl
theorem Bc {e:ak} (z:Zz e):Ev (fun k=>eN.f k e) (nO e)∧Ev (fun k=>gI.f k e) (nO e):=by
 obtain ⟨b,rfl,h1,h2⟩:=GZ z
 exact ⟨h1,h2⟩
def BX (e:ak):Bool:=cond (nO e) (!e.aq) false
theorem mh {e:ak} (z:Zz e):Ev (fun k=>my.f k e) (BX e)∧Ev (fun k=>mD.f k e) (BX e):=by
 obtain ⟨h1,h2⟩:=Bc z
 unfold BX
 constructor
 ·unfold my.f; refine Ev.bind h1 ?_; cases nO e <;> exact Ev.pure
 ·unfold mD.f; refine Ev.bind h2 ?_; cases nO e <;> exact Ev.pure
structure GE (e:ak):Prop where
 kind:e.aH=1∨e.aH=2∨e.aH=3
 user:e.aj∈l9
 room:e.aH≠3→e.ab∈jo
 DG:e.aH=3→e.ab=⟨#[]⟩
 event:e.aH=1→∃ j,j<9∧e.bI=mT j
 zn:e.aH≠1→e.bI=⟨#[]⟩
 kA:e.aH=1→e.ae=⟨#[]⟩∨e.ae=⟨#[109,97,105,110]⟩∨∃ j,j<9∧e.ae=mT j
 qQ:e.aH≠1→e.ae=⟨#[]⟩
 uh:e.aH≠1→e.aq=false
 on:e.aH≠2→e.kb=false
 AJ:e.kb=false→e.bZ=0
 Az:e.kb=true→1≤e.bZ∧e.bZ≤60
 BG:e.aH≠3→e.aX=0
 state:0≤e.aX∧e.aX≤2
 tick:0≤e.aV∧e.aV<100
 sk:0≤e.bf∧e.bf<9
theorem rf {u:BA} (h:u∈l9):di u 64=true∧u.size=5:=by
 have:∀ u∈l9,di u 64=true∧u.size=5:=by decide +kernel
 exact this u h
theorem pv {u:BA} (h:u∈jo):di u 33=true∧u.size=5:=by
 have:∀ u∈jo,di u 33=true∧u.size=5:=by decide +kernel
 exact this u h
theorem GE.zz {e:ak} (h:GE e):Zz e:=by
 refine ⟨?_,?_,?_,?_⟩
 ·by_cases k:e.aH=3
  ·rw [h.DG k]; exact Nat.zero_le _
  ·rw [(pv (h.room k)).2]; decide
 ·rw [(rf h.user).2]; decide
 ·by_cases k:e.aH=1
  ·obtain ⟨j,_,ej⟩:=h.event k; rw [ej]; exact qL j
  ·rw [h.zn k]; exact Nat.zero_le _
 ·by_cases k:e.aH=1
  ·rcases h.kA k with ej | ej | ⟨j,_,ej⟩ <;> rw [ej]
   ·exact Nat.zero_le _
   ·show 4≤maxLen; decide
   ·exact qL j
  ·rw [h.qQ k]; exact Nat.zero_le _
theorem GE.LU {e:ak} (h:GE e):LU e=true:=by
 unfold Proofs.YtfknmdelgepbjaaGreatDoor.LU
 have a:=h.tick
 have b:=h.sk
 simp [(rf h.user).1]
 omega
theorem GE.local {e:ak} (h:GE e):nO e=true:=by
 have ho:=h.LU
 have hu:=(rf h.user).1
 have a:=h.tick
 have b:=h.sk
 unfold nO
 rcases h.kind with k | k | k
 ·have e1:(e.aH==1)=true:=by rw [k]; rfl
  have n2:e.aH≠2:=om
  have n3:e.aH≠3:=om
  obtain ⟨j,hj,ej⟩:=h.event k
  have hth:mw e.ae=true:=by
   unfold mw
   rcases h.kA k with ej | ej | ⟨j,hj,ej⟩
   ·simp [ej]
   ·simp [ej]
   ·simp [ej,vH j hj]
  have c1:decide (e.aV<0)=false:=by rw [decide_eq_false_iff_not]; omega
  have c2:decide (1099511627776<e.aV)=false:=by rw [decide_eq_false_iff_not]; omega
  have c3:decide (e.bf<0)=false:=by rw [decide_eq_false_iff_not]; omega
  have c4:decide (1099511627776<e.bf)=false:=by rw [decide_eq_false_iff_not]; omega
  rw [e1,ej,vH j hj,hth,hu,c1,c2,c3,c4,h.on n2,h.AJ (h.on n2),h.BG n3,(pv (h.room n3)).1]
  rfl
 ·have e1:(e.aH==1)=false:=by rw [k]; rfl
  have e2:(e.aH==2)=true:=by rw [k]; rfl
  have n1:e.aH≠1:=om
  have n3:e.aH≠3:=om
  rw [e1,e2,ho,h.zn n1,h.qQ n1,h.uh n1,h.BG n3,(pv (h.room n3)).1]
  cases o:e.kb with
  | false=>rw [h.AJ o]; rfl
  | true=>
   have:=h.Az o
   rw [show decide (e.bZ<1)=false by rw [decide_eq_false_iff_not]; omega,show decide (60<e.bZ)=false by rw [decide_eq_false_iff_not]; omega]
   rfl
 ·have e1:(e.aH==1)=false:=by rw [k]; rfl
  have e2:(e.aH==2)=false:=by rw [k]; rfl
  have e3:(e.aH==3)=true:=by rw [k]; rfl
  have n1:e.aH≠1:=om
  have n2:e.aH≠2:=om
  have c:=h.state
  rw [e1,e2,e3,ho,h.zn n1,h.qQ n1,h.uh n1,h.on n2,h.AJ (h.on n2),h.DG k,show decide (e.aX<0)=false by rw [decide_eq_false_iff_not]; omega,show decide (2<e.aX)=false by rw [decide_eq_false_iff_not]; omega]
  rfl
theorem GE.may {e:ak} (h:GE e):BX e = !e.aq:=by unfold BX; rw [h.local]; rfl
theorem GO (x:Int):Hz (av x):=by
 unfold Hz
 simp only [av,IntKind.wrap,IntKind.signed,IntKind.bits]
 simp
 constructor <;> omega
theorem wm {n:Int} (hn:Hz n):∃ j,j<9∧Ev (fun k=>dp.f k n) (mT j):=by
 obtain ⟨m,h1,h2,h3⟩:=gF (m:=9) hn dc dc
 obtain ⟨k,hk,rfl⟩:=int_lt (n:=9) h2 h3
 refine ⟨k,hk,?_⟩
 have h:=jG k hk
 unfold dp.f at h ⊢
 rw [show (9:Int)=((9:Nat):Int) from rfl,sF hk dc] at h
 rw [h1]
 exact h
theorem Ba {n:Int} (hn:Hz n):∃ r,Ev (fun k=>gS.f k n) r∧(r=⟨#[]⟩∨r=⟨#[109,97,105,110]⟩∨∃ j,j<9∧r=mT j):=by
 obtain ⟨m,h1,h2,h3⟩:=gF (m:=11) hn dc dc
 unfold gS.f
 by_cases e1:m=9
 ·exact ⟨_,Ev.bind (Ev.of h1) (Ev.ct (by simp [e1]) Ev.pure),.inl rfl⟩
 ·by_cases e2:m=10
  ·exact ⟨_,Ev.bind (Ev.of h1) (Ev.cf (by simp [e1]) (Ev.ct (by simp [e2]) Ev.pure)),.inr (.inl rfl)⟩
  ·obtain ⟨j,hj,hr⟩:=wm (n:=m) ⟨om,om⟩
   exact ⟨_,Ev.bind (Ev.of h1) (Ev.cf (by simp [e1]) (Ev.cf (by simp [e2]) (Ev.bind hr Ev.pure))),.inr (.inr ⟨j,hj,rfl⟩)⟩
theorem HQ {a:ak} (h:ak.ok a):∃ e,Ev (fun k=>lN.f k a) e∧GE e∧(a.aH=0→e.aH=1)∧(e.aH=1→e.aq=a.aq):=by
 obtain ⟨c1,c2,c3,c4,c5,c6,c7,c8,c9,c10,c11,_⟩:=h
 obtain ⟨m,h1,h2,h3⟩:=gF (m:=3) (lV c1) dc dc
 obtain ⟨u,u1,u2⟩:=tK (lV c9)
 obtain ⟨t,t1,t2,t3⟩:=gF (m:=100) (lV c10) dc dc
 obtain ⟨s,s1,s2,s3⟩:=gF (m:=9) (lV c11) dc dc
 obtain ⟨ro,r1,r2⟩:=D1 (lV c8)
 obtain ⟨t9,y1,y2,y3⟩:=gF (m:=9) (lV c10) dc dc
 obtain ⟨ej,ej9,e1⟩:=wm (n:=av ((a.bI.size:Int)+t9)) (GO _)
 obtain ⟨th,f1,f2⟩:=Ba (n:=(a.ae.size:Int)) ⟨om,by have h:a.ae.size≤2 ^ 63-1:=c5; omega⟩
 obtain ⟨sp,p1,p2,p3⟩:=gF (m:=60) (lV c8) dc dc
 obtain ⟨st,q1,q2,q3⟩:=gF (m:=3) (lV c8) dc dc
 have hk0:a.aH=0→m=0:=fun h0=>by
  rw [h0] at h1
  have:br.f 0 3=some 0:=rfl
  rw [this] at h1
  exact (Option.some.inj h1).symm
 have hw:av (1+m)=1+m:=aE om om
 have hsp:av (1+sp)=1+sp:=aE om om
 have key:∀ e,(∀ k,lN.f k a=cond ((1+m)==1) ((dp.f k (av ((a.bI.size:Int)+t9))).bind fun t666=>(gS.f k (a.ae.size:Int)).bind fun t668=>some (⟨1+m,ro,u,t666,t668,a.aq,false,0,0,t,s⟩:ak)) (cond ((1+m)==2) (cond a.kb (some (⟨1+m,ro,u,eE,eE,false,a.kb,1+sp,0,t,s⟩:ak)) (some (⟨1+m,ro,u,eE,eE,false,a.kb,0,0,t,s⟩:ak))) (some (⟨1+m,eE,u,eE,eE,false,false,0,st,t,s⟩:ak))))→
   Ev (fun k=>cond ((1+m)==1) ((dp.f k (av ((a.bI.size:Int)+t9))).bind fun t666=>(gS.f k (a.ae.size:Int)).bind fun t668=>some (⟨1+m,ro,u,t666,t668,a.aq,false,0,0,t,s⟩:ak)) (cond ((1+m)==2) (cond a.kb (some (⟨1+m,ro,u,eE,eE,false,a.kb,1+sp,0,t,s⟩:ak)) (some (⟨1+m,ro,u,eE,eE,false,a.kb,0,0,t,s⟩:ak))) (some (⟨1+m,eE,u,eE,eE,false,false,0,st,t,s⟩:ak)))) e→Ev (fun k=>lN.f k a) e:=fun e he hv=>hv.eq he
 have hf:∀ k,lN.f k a=cond ((1+m)==1) ((dp.f k (av ((a.bI.size:Int)+t9))).bind fun t666=>(gS.f k (a.ae.size:Int)).bind fun t668=>some (⟨1+m,ro,u,t666,t668,a.aq,false,0,0,t,s⟩:ak)) (cond ((1+m)==2) (cond a.kb (some (⟨1+m,ro,u,eE,eE,false,a.kb,1+sp,0,t,s⟩:ak)) (some (⟨1+m,ro,u,eE,eE,false,a.kb,0,0,t,s⟩:ak))) (some (⟨1+m,eE,u,eE,eE,false,false,0,st,t,s⟩:ak))):=fun k=>by
  simp only [lN.f,h1,u1,t1,s1,r1,y1,p1,q1,Option.bind_some,hw,hsp]
 rcases (show m=0∨m=1∨m=2 by omega) with rfl | rfl | rfl
 ·refine ⟨⟨1,ro,u,mT ej,th,a.aq,false,0,0,t,s⟩,key _ hf (Ev.ct rfl (Ev.bind e1 (Ev.bind f1 Ev.pure))),?_,fun _=>rfl,fun _=>rfl⟩
  exact ⟨.inl rfl,u2,fun _=>r2,fun h=>(by cases h),fun _=>⟨ej,ej9,rfl⟩,fun h=>absurd rfl h,fun _=>f2,fun h=>absurd rfl h,fun h=>absurd rfl h,fun _=>rfl,fun _=>rfl,nofun,fun _=>rfl,⟨Int.le_refl 0,show (0:Int)≤2 by decide⟩,⟨t2,t3⟩,⟨s2,s3⟩⟩
 ·cases ho:a.kb with
  | true=>
   refine ⟨⟨2,ro,u,⟨#[]⟩,⟨#[]⟩,false,true,1+sp,0,t,s⟩,key _ hf (Ev.cf rfl (Ev.ct rfl (Ev.ct ho (Ev.of (by rw [ho]; rfl))))),?_,fun h=>(by have:=hk0 h; omega),fun h=>(by cases h)⟩
   exact ⟨.inr (.inl rfl),u2,fun _=>r2,fun h=>(by cases h),fun h=>(by cases h),fun _=>rfl,fun h=>(by cases h),fun _=>rfl,fun _=>rfl,fun h=>absurd rfl h,nofun,fun _=>⟨by show 1≤1+sp; omega,by show 1+sp≤60; omega⟩,fun _=>rfl,⟨Int.le_refl 0,show (0:Int)≤2 by decide⟩,⟨t2,t3⟩,⟨s2,s3⟩⟩
  | false=>
   refine ⟨⟨2,ro,u,⟨#[]⟩,⟨#[]⟩,false,false,0,0,t,s⟩,key _ hf (Ev.cf rfl (Ev.ct rfl (Ev.cf ho (Ev.of (by rw [ho]; rfl))))),?_,fun h=>(by have:=hk0 h; omega),fun h=>(by cases h)⟩
   exact ⟨.inr (.inl rfl),u2,fun _=>r2,fun h=>(by cases h),fun h=>(by cases h),fun _=>rfl,fun h=>(by cases h),fun _=>rfl,fun _=>rfl,fun _=>rfl,fun _=>rfl,nofun,fun _=>rfl,⟨Int.le_refl 0,show (0:Int)≤2 by decide⟩,⟨t2,t3⟩,⟨s2,s3⟩⟩
 ·refine ⟨⟨3,⟨#[]⟩,u,⟨#[]⟩,⟨#[]⟩,false,false,0,st,t,s⟩,key _ hf (Ev.cf rfl (Ev.cf rfl (Ev.of rfl))),?_,fun h=>(by have:=hk0 h; omega),fun h=>(by cases h)⟩
  exact ⟨.inr (.inr rfl),u2,fun h=>absurd rfl h,fun _=>rfl,fun h=>(by cases h),fun _=>rfl,fun h=>(by cases h),fun _=>rfl,fun _=>rfl,fun _=>rfl,fun _=>rfl,nofun,fun h=>absurd rfl h,⟨q2,by show st≤2; omega⟩,⟨t2,t3⟩,⟨s2,s3⟩⟩
theorem GE.J0 {e:ak} (h:GE e):e.ab.size<128∧e.aj.size<128∧e.bI.size<128∧e.ae.size<128:=by
 refine ⟨?_,?_,?_,?_⟩
 ·by_cases k:e.aH=3
  ·rw [h.DG k]; show 0<128; omega
  ·rw [(pv (h.room k)).2]; decide
 ·rw [(rf h.user).2]; decide
 ·by_cases k:e.aH=1
  ·obtain ⟨j,_,ej⟩:=h.event k; rw [ej]; show 3<128; omega
  ·rw [h.zn k]; show 0<128; omega
 ·by_cases k:e.aH=1
  ·rcases h.kA k with ej | ej | ⟨j,_,ej⟩ <;> rw [ej]
   ·show 0<128; omega
   ·show 4<128; omega
   ·show 3<128; omega
  ·rw [h.qQ k]; show 0<128; omega
theorem wc (a b:BA):(a++b).data.toList=a.data.toList++b.data.toList:=by simp [ByteArray.data_append]
theorem zu {a b:BA} (h:a.data.toList=b.data.toList):a=b:=by
 obtain ⟨⟨a⟩⟩:=a; obtain ⟨⟨b⟩⟩:=b; simp at h; subst h; rfl
def xK (s:BA):Prop:=∀ x∈s.data.toList,x≠32
theorem IU {s:BA} (h:∀ i:Nat,i<s.size→bt s (i:Int)≠32):xK s:=fun x hx e=>by
 obtain ⟨i,hi,hx⟩:=List.mem_iff_getElem.1 hx
 have hi':i<s.data.size:=by simpa using hi
 refine h i hi' ?_
 unfold bt
 rw [Int.toNat_natCast,Array.getD_eq_getD_getElem?,Array.getElem?_eq_getElem hi']
 have:s.data[i]=x:=by rw [← hx]; simp
 simp only [Option.getD_some,this,e]
 rfl
theorem F3:∀ {L L' M M':List UInt8},(∀ x∈L,x≠32)→(∀ x∈L',x≠32)→L++32::M=L'++32::M'→L=L'∧M=M'
 | [],[],M,M',_,_,h=>by simpa using h
 | [],y::L',M,M',_,h2,h=>by simp at h; exact absurd h.1.symm (h2 y (List.mem_cons_self ..))
 | x::L,[],M,M',h1,_,h=>by simp at h; exact absurd h.1 (h1 x (List.mem_cons_self ..))
 | x::L,y::L',M,M',h1,h2,h=>by
  simp only [List.cons_append,List.cons.injEq] at h
  obtain ⟨a,b⟩:=F3 (fun z hz=>h1 z (List.mem_cons_of_mem _ hz)) (fun z hz=>h2 z (List.mem_cons_of_mem _ hz)) h.2
  exact ⟨by rw [h.1,a],b⟩
theorem rX (a b:BA):((a++(⟨#[32]⟩:BA))++b).data.toList=a.data.toList++32::b.data.toList:=by
 rw [wc,wc]; simp
theorem key_inj {a b a' b':BA} (ha:xK a) (ha':xK a') (h:(a++(⟨#[32]⟩:BA))++b=(a'++(⟨#[32]⟩:BA))++b'):a=a'∧b=b':=by
 have h1:=congrArg (fun s:BA=>s.data.toList) h
 simp only [rX] at h1
 obtain ⟨e1,e2⟩:=F3 ha ha' h1
 exact ⟨zu e1,zu e2⟩
theorem vX {s:BA} {c:UInt8} (hc:c≠32) (h:di s c=true):xK s:=IU fun i hi=>by
 have hcc:(c.toNat:Int)≠32:=fun h=>hc (UInt8.toNat_inj.1 (by exact_mod_cast h))
 unfold di at h
 split at h
 ·rename_i h0
  simp only at h
  split at h
  ·rename_i h1
   have hft:=rF (s.extract 1 s.size) 58
   rw [show (((58:UInt8).toNat:Int))=58 from rfl] at hft
   rcases hft with ⟨e,_⟩ | ⟨j,e,j1,j2,_⟩
   ·omega
   ·rw [e,Int.toNat_natCast,Bool.and_eq_true] at h
    obtain ⟨p1,p2⟩:=h
    have hsz:(s.extract 1 s.size).size=s.size-1:=jt (Nat.le_refl _)
    have cP:∀ x:Int,EZ x=true→x≠32:=fun x hx e=>by subst e; exact absurd hx dc
    have cS:∀ x:Int,HD x=true→x≠32:=fun x hx e=>by subst e; exact absurd hx dc
    rcases Nat.eq_zero_or_pos i with rfl | hpos
    ·rw [show ((0:Nat):Int)=0 from rfl,h0.2]; exact hcc
    ·obtain ⟨m,rfl⟩:∃ m,i=1+m:=⟨i-1,om⟩
     have hb:bt (s.extract 1 s.size) (m:Int)=bt s ((1+m:Nat):Int):=qB om (Nat.le_refl _)
     rw [← hb]
     rcases Nat.lt_trichotomy m j with hm | hm | hm
     ·unfold rO at p1
      rw [Bool.and_eq_true] at p1
      have:=kG.1 p1.1 m (Nat.zero_le _) (by rw [jt om]; omega)
      have:=cP _ this
      rwa [qB om om,Nat.zero_add] at this
     ·subst hm; rw [j2]; decide
     ·unfold pK rO at p2
      rw [Bool.and_eq_true,Bool.and_eq_true] at p2
      have:=kG.1 p2.1.1 (m-(j+1)) (Nat.zero_le _) (by rw [jt (Nat.le_refl _)]; omega)
      have:=cS _ this
      rwa [qB om (Nat.le_refl _),show j+1+(m-(j+1))=m by omega] at this
  ·cases h
 ·cases h
set_option maxRecDepth 100000
def ths:List BA:=⟨#[]⟩::⟨#[109,97,105,110]⟩::(List.range 9).map mT
def allK:List bB:=jo.flatMap fun r=>l9.flatMap fun u=>ths.flatMap fun t=>[⟨r,u,t,false⟩,⟨r,u,t,true⟩]
structure Kx (x:bB):Prop where
 room:x.ab∈jo
 user:x.aj∈l9
 kA:x.ae∈ths
theorem Kx.mem {x:bB} (h:Kx x):x∈allK:=by
 obtain ⟨r,u,t,p⟩:=x
 refine List.mem_flatMap.2 ⟨r,h.room,List.mem_flatMap.2 ⟨u,h.user,List.mem_flatMap.2 ⟨t,h.kA,?_⟩⟩⟩
 cases p <;> simp
def J:BA→List BA→BA
 | a,[]=>a
 | a,b::l=>(a++⟨#[32]⟩)++J b l
def rq (p:Bool):BA:=cond p ⟨#[49]⟩ ⟨#[48]⟩
def nK (x:bB):BA:=J ⟨#[109]⟩ [x.ab,x.aj,x.ae,rq x.aq]
def D9 (r:BA):BA:=J ⟨#[116]⟩ [r]
def En (u:BA):BA:=J ⟨#[112]⟩ [u]
theorem IL:(allK.all fun x=>decide (iK.f x=some (nK x))&&(decide (iN.f ⟨1,x,⟨#[]⟩⟩=some (nK x))&&(decide (DU (nK x) 32=4)&&decide ((nK x).size≤40))))=true:=kr
theorem BS {x:bB} (h:Kx x):iK.f x=some (nK x)∧iN.f ⟨1,x,⟨#[]⟩⟩=some (nK x)∧DU (nK x) 32=4∧(nK x).size≤40:=by
 have:=List.all_eq_true.1 IL x h.mem
 simpa using this
theorem AX:∀ r∈jo,jF.f r=some (D9 r)∧iN.f ⟨2,⟨⟨#[]⟩,⟨#[]⟩,⟨#[]⟩,false⟩,r⟩=some (D9 r)∧DU (D9 r) 32=1∧(D9 r).size≤40:=by decide +kernel
theorem A9:∀ r∈l9,jI.f r=some (En r)∧iN.f ⟨3,⟨⟨#[]⟩,⟨#[]⟩,⟨#[]⟩,false⟩,r⟩=some (En r)∧DU (En r) 32=1∧(En r).size≤40:=by decide +kernel
theorem r8 {s:BA} (h:(s.data.toList.all fun x=>x != 32)=true):xK s:=fun x hx=>by simpa using List.all_eq_true.1 h x hx
theorem Bt:∀ r∈jo,xK r:=fun r hr=>r8 (by revert r; decide +kernel)
theorem Cp:∀ r∈l9,xK r:=fun r hr=>r8 (by revert r; decide +kernel)
theorem Gv:∀ r∈ths,xK r:=fun r hr=>r8 (by revert r; decide +kernel)
theorem J1:∀ {l m:List UInt8},(∀ x∈l,x≠32)→Lib.indexByte (l++32::m) 32=(l.length:Int)
 | [],m,_=>by simp [Lib.indexByte]
 | a::l,m,h=>by
  have h1:=J1 (l:=l) (m:=m) fun x hx=>h x (List.mem_cons_of_mem _ hx)
  have h2:(a==32)=false:=by simpa using h a List.mem_cons_self
  rw [List.cons_append,Lib.indexByte,h2,h1]
  have h3:((l.length:Int) == -1)=false:=by rw [beq_eq_false_iff_ne]; omega
  rw [h3]; simp
theorem Kt {a r:BA} (h:xK a):gW.f ((a++⟨#[32]⟩)++r) ⟨#[32]⟩=some (a.size:Int):=by
 unfold gW.f
 rw [yg]
 have e:l6 ((a++⟨#[32]⟩)++r) ((32:UInt8).toNat:Int)=(a.size:Int):=by
  show Lib.indexByte ((a++⟨#[32]⟩)++r).data.toList 32=_
  rw [rX,J1 h]; rfl
 rw [e]; rfl
theorem Fc (s:BA) (i j:Nat):(s.extract i j).data.toList=(s.data.toList.take j).drop i:=by
 simp [ByteArray.data_extract,List.drop_take]
theorem cut1 (a r:BA):((a++⟨#[32]⟩)++r).extract 0 a.size=a:=zu (by
 rw [Fc,rX,List.drop_zero]
 show List.take a.data.toList.length _=_
 simp)
theorem cut2 (a r:BA):((a++⟨#[32]⟩)++r).extract (a.size+1) ((a++⟨#[32]⟩)++r).size=r:=zu (by
 rw [Fc]
 have e:((a++⟨#[32]⟩)++r).size=((a++⟨#[32]⟩)++r).data.toList.length:=rfl
 rw [e,List.take_length,rX]
 show List.drop (a.data.toList.length+1) _=_
 rw [← List.drop_drop]; simp)
section
variable {k:Nat} {s0:BA} {p:Int} {B:Nat} (hB:av ((min p (av ((s0.size:Int)+1)))-1)=(B:Int))
include hB
theorem oZ {j i:Nat} {a r:BA} {out:List BA} (ha:xK a) (h1:a.size≤1000) (hi:i<B) (hb:B≤1000) (ho:i<out.length):
  strings_genSplit.l0 k s0 ⟨#[32]⟩ 0 p (j+1) ((a++⟨#[32]⟩)++r) (i:Int) out=strings_genSplit.l0 k s0 ⟨#[32]⟩ 0 p j r ((i+1:Nat):Int) (out.set i a):=by
 rw [strings_genSplit.l0,hB,dT (by omega:(i:Int)<(B:Int)),Kt ha]
 have e1:(⟨#[32]⟩:BA).size=1:=rfl
 have e2:av ((a.size:Int)+0)=(a.size:Int):=by rw [Int.add_zero,aE om om]
 have e3:av ((a.size:Int)+((1:Nat):Int))=((a.size+1:Nat):Int):=by rw [aE om om]; omega
 have e4:av ((i:Int)+1)=((i+1:Nat):Int):=by rw [aE om om]; omega
 have hs:((a++⟨#[32]⟩)++r).size=a.size+1+r.size:=by rw [ByteArray.size_append,ByteArray.size_append]; rfl
 simp only [cond_true,Option.bind_some]
 rw [dF (by omega:¬ (a.size:Int)<0),e1,e2,e3,e4,cond_false]
 unfold an
 rw [if_pos ⟨om,om,om⟩,if_pos ⟨om,om⟩,if_pos ⟨om,om,Nat.le_refl _⟩]
 simp only [Int.toNat_natCast]
 rw [cut1,cut2]
theorem Ei {j:Nat} {x:BA} {out:List BA}:strings_genSplit.l0 k s0 ⟨#[32]⟩ 0 p (j+1) x (B:Int) out=some (x,(B:Int),false,out):=by
 rw [strings_genSplit.l0,hB,dF (by omega:¬ (B:Int)<(B:Int))]; rfl
end
theorem Jz {x:bB} (h:Kx x):Ev (fun k=>ni.f k (nK x)) (.d89 x):=by
 obtain ⟨_,_,hc,hsz⟩:=BS h
 have hl:(nK x).size=16+x.ae.size:=by
  have r:=(pv h.room).2; have u:=(rf h.user).2
  show (J ⟨#[109]⟩ [x.ab,x.aj,x.ae,rq x.aq]).size=_
  have l:(rq x.aq).size=1:=by cases x.aq <;> rfl
  simp only [J,ByteArray.size_append,r,u,l]
  show 1+1+(5+1+(5+1+(x.ae.size+1+1)))=_
  omega
 refine Ev.add 10 fun m=>?_
 unfold ni.f ll.f strings_genSplit.f strings_Count.f
 have e1:(⟨#[32]⟩:BA).size=1:=rfl
 have e0:bt (⟨#[32]⟩:BA) 0=32:=rfl
 have hB:av ((min (av (4+1)) (av (((nK x).size:Int)+1)))-1)=((4:Nat):Int):=by
  rw [aE (x:=4+1) om om,aE (x:=((nK x).size:Int)+1) om om,aE om om]; omega
 have hm:min (av (4+1)) (av (((nK x).size:Int)+1))=5:=by
  rw [aE (x:=4+1) om om,aE (x:=((nK x).size:Int)+1) om om]; omega
 have hk:nK x=(((⟨#[109]⟩:BA)++⟨#[32]⟩)++((x.ab++⟨#[32]⟩)++((x.aj++⟨#[32]⟩)++((x.ae++⟨#[32]⟩)++rq x.aq)))):=rfl
 have r5:=(pv h.room).2; have u5:=(rf h.user).2
 have s1:=oZ (k:=m+10) (s0:=nK x) (p:=av (4+1)) (B:=4) hB (j:=m+9) (i:=0) (a:=⟨#[109]⟩) (r:=((x.ab++⟨#[32]⟩)++((x.aj++⟨#[32]⟩)++((x.ae++⟨#[32]⟩)++rq x.aq)))) (out:=List.replicate 5 ⟨#[]⟩) (r8 (by decide +kernel)) dc om om sM
 have s2:=oZ (k:=m+10) (s0:=nK x) (p:=av (4+1)) (B:=4) hB (j:=m+8) (i:=1) (a:=x.ab) (r:=((x.aj++⟨#[32]⟩)++((x.ae++⟨#[32]⟩)++rq x.aq))) (out:=(List.replicate 5 ⟨#[]⟩).set 0 ⟨#[109]⟩) (Bt _ h.room) om om om sM
 have s3:=oZ (k:=m+10) (s0:=nK x) (p:=av (4+1)) (B:=4) hB (j:=m+7) (i:=2) (a:=x.aj) (r:=((x.ae++⟨#[32]⟩)++rq x.aq)) (out:=((List.replicate 5 ⟨#[]⟩).set 0 ⟨#[109]⟩).set 1 x.ab) (Cp _ h.user) om om om sM
 have s4:=oZ (k:=m+10) (s0:=nK x) (p:=av (4+1)) (B:=4) hB (j:=m+6) (i:=3) (a:=x.ae) (r:=rq x.aq) (out:=(((List.replicate 5 ⟨#[]⟩).set 0 ⟨#[109]⟩).set 1 x.ab).set 2 x.aj) (Gv _ h.kA) om om om sM
 have s5:=Ei (k:=m+10) (s0:=nK x) (p:=av (4+1)) (B:=4) hB (j:=m+5) (x:=rq x.aq) (out:=((((List.replicate 5 ⟨#[]⟩).set 0 ⟨#[109]⟩).set 1 x.ab).set 2 x.aj).set 3 x.ae)
 rw [← hk] at s1
 have s:=s1.trans (s2.trans (s3.trans (s4.trans s5)))
 have s':strings_genSplit.l0 (m+10) (nK x) ⟨#[32]⟩ 0 (av (4+1)) (m+10) (nK x) 0 (List.replicate (5:Int).toNat ⟨#[]⟩)=some (rq x.aq,4,false,[⟨#[109]⟩,x.ab,x.aj,x.ae,⟨#[]⟩]):=s
 have gp:∀ {α:Type} {p:Prop} [Decidable p] (h:p) (x:Option α),an p x=x:=fun h x=>if_pos h
 simp only [show (-1==(0:Int))=false from rfl,show decide ((-1:Int)<0)=true from rfl,show decide ((⟨#[32]⟩:BA)=⟨#[]⟩)=false from rfl,e1,e0,hc,show (((1:Nat):Int)==0)=false from rfl,show (((1:Nat):Int)==1)=true from rfl,cond_true,cond_false]
 rw [gp dc]
 simp only [Option.bind_some]
 rw [hm,gp dc,s']
 simp only [Option.bind_some]
 rw [gp ⟨dc,(by decide:(4:Int)<((5:Nat):Int))⟩,gp ⟨dc,dc,(by decide:(av (4+1)).toNat≤5)⟩]
 simp only [Option.bind_some]
 obtain ⟨r,u,t,p⟩:=x
 cases p <;> rfl
theorem H4:∀ r∈jo,Ev (fun k=>ni.f k (D9 r)) (.d141 r):=fun r hr=>by
 simp only [jo,List.mem_cons,List.not_mem_nil,or_false] at hr
 rcases hr with rfl | rfl <;> exact Ev.add 20 fun m=>kr
theorem I4:∀ r∈l9,Ev (fun k=>ni.f k (En r)) (.d143 r):=fun r hr=>by
 simp only [l9,List.mem_cons,List.not_mem_nil,or_false] at hr
 rcases hr with rfl | rfl | rfl | rfl | rfl | rfl | rfl | rfl | rfl <;> exact Ev.add 20 fun m=>kr
end Go.Proofs.YtfknmdelgepbjaaGreatDoor
