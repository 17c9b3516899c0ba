import Derived.Test.YtfknmdelgepbjaaGreatDoorZVF
import Derived.Test.YtfknmdelgepbjaaGreatDoorZMA
import Derived.Test.YtfknmdelgepbjaaGreatDoorZVG
import Derived.Test.YtfknmdelgepbjaaGreatDoorZVC
set_option linter.all false
set_option maxRecDepth 10000
namespace Go.Proofs.YtfknmdelgepbjaaGreatDoor
open Go Go.Sp
structure RG (L:List Event):Prop where
 uz:Good L
 par:∀ e∈L,e.ae.length≤4
 lr:∀ e∈L,e.bL=0∨e.bL=1∨e.bL=2
 usr:∀ e∈L,e.ak.size≤maxLen
 len:L.length≤1000
theorem rt_of {m:bf} {L:List Event} (h:RG L) (hT:T m=tb L):RT m (tb L):=
 ⟨hT,tD h.uz,Je L,fun x hx=>h.par _ (by rw [← A0 L]; exact List.mem_map.2 ⟨x,hx,rfl⟩),by rw [Gc]; exact h.len⟩
theorem wQ (p q:Pos):iG.f p q=some (ltOf gI p q):=by
 unfold iG.f
 have h:=xx p q
 by_cases h1:p.bJ<q.bJ
 ·rw [dT h1,(h.2 (.inl h1))]; rfl
 ·rw [dF h1]
  by_cases h2:p.bJ=q.bJ
  ·rw [show (p.bJ==q.bJ)=true by simp [h2]]
   show some (dH p.b9 q.b9)=_
   congr 1
   rw [Bool.eq_iff_iff,h]
   exact ⟨fun k=>.inr ⟨h2,k⟩,fun k=>k.elim (fun k=>absurd k h1) (·.2)⟩
  ·rw [show (p.bJ==q.bJ)=false by simp [h2]]
   show some false=_
   congr 1
   cases e:ltOf gI p q with
   | false=>rfl
   | true=>
        rcases h.1 e with k | k
        ·exact absurd k h1
        ·exact absurd k.1 h2
def zeroE:Event:=⟨⟨#[]⟩,⟨#[]⟩,[],⟨#[]⟩,⟨#[]⟩,0⟩
def pr:Option Event→Event×Bool
 | some e=>(e,true)
 | none=>(zeroE,false)
section
variable {d:aF} (hg:RG d.fL)
include hg
theorem wT (id:BA):Ev (fun k=>dC.f k d id) (pos (tb d.fL) id):=
 J5 hg.uz (by have:=hg.len; omega) (fun i hi=>by have:=hg.par _ (EA hi); show _≤9223372036854775807; omega) id
def PM (t:oc) (L:List Event) (u:BA) (x:Nat) (kx:Int):Prop:=
 (kx = -1∧∀ i,i<x→gX u (ev L i)=false)∨∃ c:Nat,kx=(c:Int)∧c<x∧gX u (ev L c)=true∧∀ i,i<x→gX u (ev L i)=true→ev L i=ev L c∨lt t (ev L i) (ev L c)
theorem AM (u:BA):∀ n x:Nat,d.fL.length-x=n→x≤d.fL.length→∀ kx:Int,PM (tb d.fL) d.fL u x kx→∃ r:Int×Int×Bool,El (fun k j=>cN.l0 k d u j kx (x:Int)) r∧PM (tb d.fL) d.fL u d.fL.length r.1:=by
 have hl:=hg.len
 intro n
 induction n with
 | zero=>
  intro x hd hx kx hp
  obtain rfl:x=d.fL.length:=om
  refine ⟨(kx,(d.fL.length:Int),false),?_,hp⟩
  refine El.step (fun _ _=>by rw [cN.l0]) ?_
  exact El.cf sM (by simpa using El.pure)
 | succ n ih=>
  intro x hd hx kx hp
  have hx2:x<d.fL.length:=om
  have g:(0:Int)≤(x:Int)∧(x:Int)<(d.fL.length:Int):=⟨om,om⟩
  have stay:gX u (ev d.fL x)=false→PM (tb d.fL) d.fL u (x+1) kx:=fun h=>by
   rcases hp with ⟨h1,h2⟩ | ⟨c,h1,h2,h3,h4⟩
   ·refine .inl ⟨h1,fun i hi=>?_⟩
    rcases Nat.lt_or_ge i x with k | k
    ·exact h2 i k
    ·obtain rfl:i=x:=om
     exact h
   ·refine .inr ⟨c,h1,om,h3,fun i hi hr=>?_⟩
    rcases Nat.lt_or_ge i x with k | k
    ·exact h4 i k hr
    ·obtain rfl:i=x:=om
     rw [h] at hr; cases hr
  have key:∀ kx',PM (tb d.fL) d.fL u (x+1) kx'→(∀ r,El (fun k j=>cN.l0 k d u j kx' (ax ((x:Int)+1))) r→El (fun k j=>cond (!decide (((Event.K.at d.fL (x:Int)).ak)=u)) (cN.l0 k d u j kx (ax ((x:Int)+1))) (aq ((0:Int)≤(x:Int)∧(x:Int)<(d.fL.length:Int)) (cond (((Event.K.at d.fL (x:Int)).bL)==0) (cN.l0 k d u j kx (ax ((x:Int)+1))) (cond (decide (kx<0)) (cN.l0 k d u j (x:Int) (ax ((x:Int)+1))) (aq ((0:Int)≤kx∧kx<(d.fL.length:Int)) ((dC.f k d ((Event.K.at d.fL kx).b9)).bind fun t625=>aq ((0:Int)≤(x:Int)∧(x:Int)<(d.fL.length:Int)) ((dC.f k d ((Event.K.at d.fL (x:Int)).b9)).bind fun t628=>(iG.f t625 t628).bind fun t630=>cond t630 (cN.l0 k d u j (x:Int) (ax ((x:Int)+1))) (cN.l0 k d u j kx (ax ((x:Int)+1)))))))))) r)→∃ r:Int×Int×Bool,El (fun k j=>cN.l0 k d u j kx (x:Int)) r∧PM (tb d.fL) d.fL u d.fL.length r.1:=fun kx' hk hG=>by
   obtain ⟨r,r1,r2⟩:=ih (x+1) om om kx' hk
   exact ⟨r,El.step (fun _ _=>by rw [cN.l0]) (El.ct (dT om) (El.aq g (hG r (by rw [kU om]; exact r1)))),r2⟩
  by_cases hu:(ev d.fL x).ak=u
  ·by_cases h0:(ev d.fL x).bL=0
   ·have hr:gX u (ev d.fL x)=false:=by unfold gX; simp [h0]
    obtain ⟨r,r1,r2⟩:=key kx (stay hr) (fun r h=>El.cf (by rw [jU hx2]; simp [hu]) (El.aq g (El.ct (by rw [jU hx2]; simp [h0]) h)))
    exact ⟨r,r1,r2⟩
   ·have hr:gX u (ev d.fL x)=true:=by unfold gX; simp [h0,hu]
    rcases hp with ⟨h1,h2⟩ | ⟨c,h1,h2,h3,h4⟩
    ·obtain ⟨r,r1,r2⟩:=key (x:Int) (.inr ⟨x,rfl,om,hr,fun i hi hr'=>by
      rcases Nat.lt_or_ge i x with k | k
      ·rw [h2 i k] at hr'; cases hr'
      ·obtain rfl:i=x:=om
       exact .inl rfl⟩) (fun r h=>El.cf (by rw [jU hx2]; simp [hu]) (El.aq g (El.cf (by rw [jU hx2]; simp [h0]) (El.ct (dT om) h))))
     exact ⟨r,r1,r2⟩
    ·have hc2:c<d.fL.length:=om
     have gc:(0:Int)≤kx∧kx<(d.fL.length:Int):=⟨om,om⟩
     have pre:∀ {kx'} {r},ltOf gI (pos (tb d.fL) (ev d.fL c).b9) (pos (tb d.fL) (ev d.fL x).b9)=(decide (kx'=(x:Int)):Bool)→(kx'=(x:Int)∨kx'=kx)→El (fun k j=>cN.l0 k d u j kx' (ax ((x:Int)+1))) r→El (fun k j=>cond (!decide (((Event.K.at d.fL (x:Int)).ak)=u)) (cN.l0 k d u j kx (ax ((x:Int)+1))) (aq ((0:Int)≤(x:Int)∧(x:Int)<(d.fL.length:Int)) (cond (((Event.K.at d.fL (x:Int)).bL)==0) (cN.l0 k d u j kx (ax ((x:Int)+1))) (cond (decide (kx<0)) (cN.l0 k d u j (x:Int) (ax ((x:Int)+1))) (aq ((0:Int)≤kx∧kx<(d.fL.length:Int)) ((dC.f k d ((Event.K.at d.fL kx).b9)).bind fun t625=>aq ((0:Int)≤(x:Int)∧(x:Int)<(d.fL.length:Int)) ((dC.f k d ((Event.K.at d.fL (x:Int)).b9)).bind fun t628=>(iG.f t625 t628).bind fun t630=>cond t630 (cN.l0 k d u j (x:Int) (ax ((x:Int)+1))) (cN.l0 k d u j kx (ax ((x:Int)+1)))))))))) r:=fun {kx' r} hlt hk h=>by
      have ec:Event.K.at d.fL kx=ev d.fL c:=by rw [h1]; exact jU hc2
      refine El.cf (by rw [jU hx2]; simp [hu]) (El.aq g (El.cf (by rw [jU hx2]; simp [h0]) (El.cf (dF om) (El.aq gc ?_))))
      rw [ec,jU hx2]
      refine El.bind (wT hg _).el (El.aq g (El.bind (wT hg _).el (El.bind (Ev.of (wQ _ _)).el ?_)))
      rw [hlt]
      rcases hk with hk | hk
      ·rw [hk] at h ⊢
       exact El.ct sM h
      ·rw [hk] at h ⊢
       exact El.cf (dF om) h
     cases hlt:ltOf gI (pos (tb d.fL) (ev d.fL c).b9) (pos (tb d.fL) (ev d.fL x).b9) with
     | true=>
      obtain ⟨r,r1,r2⟩:=key (x:Int) (.inr ⟨x,rfl,om,hr,fun i hi hr'=>by
       rcases Nat.lt_or_ge i x with k | k
       ·rcases h4 i k hr' with q | q
        ·rw [q]; exact .inr hlt
        ·exact .inr (Jh q hlt)
       ·obtain rfl:i=x:=om
        exact .inl rfl⟩) (fun r h=>pre (kx':=(x:Int)) (by rw [hlt]; simp) (.inl rfl) h)
      exact ⟨r,r1,r2⟩
     | false=>
      obtain ⟨r,r1,r2⟩:=key kx (.inr ⟨c,h1,om,h3,fun i hi hr'=>by
       rcases Nat.lt_or_ge i x with k | k
       ·exact h4 i k hr'
       ·obtain rfl:i=x:=om
        cases h5:ltOf gI (pos (tb d.fL) (ev d.fL i).b9) (pos (tb d.fL) (ev d.fL c).b9) with
        | true=>exact .inr h5
        | false=>
         have:=congrArg Pos.b9 (rN _ _ h5 hlt)
         have h6:(ev d.fL i).b9=(ev d.fL c).b9:=this
         have h7:=FH hg.uz hx2
         rw [h6,FH hg.uz hc2] at h7
         omega⟩) (fun r h=>pre (kx':=kx) (by rw [hlt]; exact (dF om).symm) (.inr rfl) h)
      exact ⟨r,r1,r2⟩
  ·have hr:gX u (ev d.fL x)=false:=by unfold gX; simp [hu]
   obtain ⟨r,r1,r2⟩:=key kx (stay hr) (fun r h=>El.ct (by rw [jU hx2]; simp [hu]) h)
   exact ⟨r,r1,r2⟩
theorem DY (u:BA):Ev (fun k=>cN.f k d u) (pr (nz u (mN (tb d.fL)) none)):=by
 obtain ⟨r,r1,r2⟩:=AM hg u _ 0 rfl om (-1) (.inl ⟨rfl,fun i hi=>om⟩)
 have hmx:=Fw hg.uz u
 unfold cN.f
 refine Ev.bind r1.diag ?_
 rcases r2 with ⟨h1,h2⟩ | ⟨c,h1,h2,h3,h4⟩
 ·have:nz u (mN (tb d.fL)) none=none:=Ci hmx (fun e he=>by obtain ⟨i,hi,rfl⟩:=sr he; exact h2 i hi)
  rw [this,h1]
  exact Ev.ct rfl Ev.pure
 ·have:nz u (mN (tb d.fL)) none=some (ev d.fL c):=Ci hmx ⟨EA h2,h3,fun e he=>by obtain ⟨i,hi,rfl⟩:=sr he; exact h4 i hi⟩
  rw [this,h1]
  refine Ev.cf (dF om) (Ev.aq ⟨om,om⟩ (Ev.of ?_))
  rw [jU h2]; rfl
def KI:Option Event→Bool
 | some e=>e.bL==1
 | none=>false
theorem uv (u:BA):Ev (fun k=>jo.f k d u) (KI (nz u (mN (tb d.fL)) none)):=by
 unfold jo.f
 refine Ev.bind (DY hg u) ?_
 cases nz u (mN (tb d.fL)) none with
 | none=>exact Ev.cf rfl Ev.pure
 | some e=>exact Ev.ct rfl Ev.pure
end
section
variable {m:bf} {L:List Event} (hg:RG L) (hT:T m=tb L)
include hg hT
theorem Jl (u:BA):Nd (jm (mN (tb L)))∧mget (jm (mN (tb L))) u=oj (nz u (mN (tb L)) none):=by
 have:=Jk (mN (tb L)) (fun e he=>hg.lr e ((yU hg.uz).mem_iff.1 he)) [] (fun _=>none) w6 (fun _=>rfl)
 exact ⟨this.1,this.2 u⟩
theorem oj_is (o:Option Event):decide (0<(oj o).getD 0)=KI o∧((oj o).isSome=KI o):=by
 cases o with
 | none=>exact ⟨rfl,rfl⟩
 | some e=>
  unfold oj KI
  by_cases h:e.bL=1
  ·simp [h]
  ·simp [h]
theorem Bn (u:BA):Ev (fun k=>jL.f k m u) (KI (nz u (mN (tb L)) none)):=by
 unfold jL.f
 refine Ev.bind (Dq (rt_of hg hT)) (Ev.of ?_)
 rw [(Jl hg hT u).2,(oj_is hg hT _).1]
end
structure Zz (e:ai):Prop where
 room:e.aa.size≤maxLen
 user:e.ak.size≤maxLen
 event:e.bB.size≤maxLen
 j6:e.ag.size≤maxLen
def me (s:BA):Bool:=decide (s=eE)||(decide (s=(⟨#[109,97,105,110]⟩:BA))||jP s)
theorem Hi {s:BA} (hs:s.size≤maxLen):Ev (fun k=>ll.f k s) (me s):=by
 unfold ll.f me
 by_cases h1:s=eE
 ·rw [dT h1]; exact Ev.pure
 ·rw [dF h1]
  by_cases h2:s=(⟨#[109,97,105,110]⟩:BA)
  ·rw [dT h2]; exact Ev.pure
  ·rw [dF h2]; exact Ev.bind (rY hs) Ev.pure
theorem IJ {s:BA} (hs:s.size≤maxLen):Ev (fun k=>lS.f k s) (me s):=by
 unfold lS.f me
 refine Ev.bind (oR hs) ?_
 by_cases h1:s=eE
 ·rw [dT h1]; exact Ev.pure
 ·rw [dF h1]
  by_cases h2:s=(⟨#[109,97,105,110]⟩:BA)
  ·rw [dT h2]; exact Ev.pure
  ·rw [dF h2]; exact Ev.pure
theorem Ap {α:Type} {c:Bool} {a b:α}:cond c (some a) (some b)=some (cond c a b):=by cases c <;> rfl
theorem dle {x y:Int}:decide (x≤y) = !decide (y<x):=by
 rw [Bool.eq_iff_iff]; simp
def Kz (e:ai):Bool:=dj e.ak 64&&(!decide (e.aQ<0) && !decide (1099511627776<e.aQ)&&(!decide (e.aX<0) && !decide (1099511627776<e.aX)))
def ny (e:ai):Bool:=
 cond (e.aE==1) (cond (cond (dj e.aa 33) (cond (jP e.bB) (me e.ag) false) false) (cond (!e.jX&&(e.bV==0)&&(e.aU==0)) (cond (dj e.ak 64) (!decide (e.aQ<0) && !decide (1099511627776<e.aQ)&&(!decide (e.aX<0) && !decide (1099511627776<e.aX))) false) false) false)
  (cond (e.aE==2) (cond (dj e.aa 33) (cond e.jX (!decide (e.bV<1) && !decide (60<e.bV)) (e.bV==0)) false&&(((decide (e.bB=eE)&&decide (e.ag=eE))&&((e.aU==0) && !e.au))&&Kz e))
   (cond (e.aE==3) ((!decide (e.aU<0) && !decide (2<e.aU))&&((((decide (e.aa=eE)&&decide (e.bB=eE))&&decide (e.ag=eE))&&((!e.jX&&(e.bV==0)) && !e.au))&&Kz e)) false))
theorem F5 {e:ai} (z:Zz e):∃ b,b=ny e∧Ev (fun k=>eO.f k e) b∧Ev (fun k=>fH.f k e) b:=by
 obtain ⟨n1,h1⟩:=Ey z.room
 obtain ⟨n2,h2⟩:=EZ z.user
 obtain ⟨n3,h3⟩:=rY z.event
 obtain ⟨n4,h4⟩:=Hi z.j6
 have hn:∀ b,(∀ k,max (max n1 n2) (max n3 n4)≤k→eO.f k e=some b)→Ev (fun k=>eO.f k e) b:=fun b h=>⟨_,h⟩
 have href:∀ b,b=ny e→Ev (fun k=>fH.f k e) b→(∀ k,max (max n1 n2) (max n3 n4)≤k→eO.f k e=some b)→∃ b,b=ny e∧Ev (fun k=>eO.f k e) b∧Ev (fun k=>fH.f k e) b:=fun b hb h h'=>⟨b,hb,hn b h',h⟩
 have hu:=xo (c:=64) dc z.user
 have hr:=xo (c:=33) dc z.room
 have he:=oR z.event
 have ht:=IJ z.j6
 obtain ⟨K,ro,us,ev,th,pr,on,sp,st,ti,sm⟩:=e
 simp only at h1 h2 h3 h4 hu hr he ht
 by_cases hk:K=1∨K=2∨K=3
 ·have d1:decide ((1:Int)<0)=false:=rfl
  have d2:decide ((3:Int)<1)=false:=rfl
  have d3:decide ((2:Int)<0)=false:=rfl
  have d4:decide ((3:Int)<2)=false:=rfl
  have d5:decide ((3:Int)<0)=false:=rfl
  have d6:decide ((3:Int)<3)=false:=rfl
  have b1:((1:Int)==1)=true:=rfl
  have b2:((2:Int)==1)=false:=rfl
  have b3:((2:Int)==2)=true:=rfl
  have b4:((3:Int)==1)=false:=rfl
  have b5:((3:Int)==2)=false:=rfl
  have b6:((3:Int)==3)=true:=rfl
  have g:∀ (k:Nat) (i:Int),0≤i→i<4→(0:Int)≤i∧i<(([iJ.f,fS.f k,fun a0_=>fj.f k a0_ cH.f,fun a0_=>fm.f a0_ cH.f]:List (ai→Option Bool)).length:Int):=fun k i h0 h1=>⟨h0,by simpa using h1⟩
  rcases hk with rfl | rfl | rfl
  ·refine href (cond (cond (dj ro 33) (cond (jP ev) (me th) false) false) (cond (!on&&(sp==0)&&(st==0)) (cond (dj us 64) (!decide (ti<0) && !decide (1099511627776<ti)&&(!decide (sm<0) && !decide (1099511627776<sm))) false) false) false) rfl ?_ fun k hk=>?_
   ·unfold fH.f
    refine Ev.bind hu (Ev.bind hr (Ev.bind he (Ev.bind ht (Ev.of ?_))))
    simp only [b1,cond_true]
    generalize dj us 64=a1
    generalize dj ro 33=a2
    generalize jP ev=a3
    generalize me th=a4
    generalize decide (ti<0)=a5
    generalize decide (1099511627776<ti)=a6
    generalize decide (sm<0)=a7
    generalize decide (1099511627776<sm)=a8
    generalize (sp==0)=a9
    generalize (st==0)=a10
    simp only [Ap]
    congr 1
    cases a1 <;> cases a5 <;> cases a6 <;> cases a7 <;> cases a8 <;> cases a2 <;> cases a3 <;> cases a4 <;> try rfl
    all_goals (cases on <;> cases a9 <;> cases a10 <;> rfl)
   ·have r:=h1 k om
    have u:=h2 k om
    have v:=h3 k om
    have t:=h4 k om
    have e4:ia.at [iJ.f,fS.f k,fun a0_=>fj.f k a0_ cH.f,fun a0_=>fm.f a0_ cH.f] 1=fS.f k:=rfl
    have eq1:decide ((⟨1,ro,us,ev,th,pr,on,sp,st,ti,sm⟩:ai)=⟨1,ro,us,ev,th,pr,false,0,0,ti,sm⟩)=(!on&&(sp==0)&&(st==0)):=by
     rw [Bool.eq_iff_iff]
     simp only [decide_eq_true_eq,ai.mk.injEq,true_and,and_true,Bool.and_eq_true,beq_iff_eq,Bool.not_eq_true',and_assoc]
    simp only [eO.f,nI.f,Option.bind_some,d1,d2,cond_false]
    simp only [e4,aq]
    rw [if_pos (g k 1 dc dc)]
    simp only [Option.bind_some,fS.f,r,v,t,lU.f,iq.f,b1,cond_true,eq1,u,dle,Ap]
    generalize dj us 64=a1
    generalize dj ro 33=a2
    generalize jP ev=a3
    generalize me th=a4
    generalize decide (ti<0)=a5
    generalize decide (1099511627776<ti)=a6
    generalize decide (sm<0)=a7
    generalize decide (1099511627776<sm)=a8
    generalize (!on&&(sp==0)&&(st==0))=a9
    cases a2 <;> cases a3 <;> cases a4 <;> cases a9 <;> cases a1 <;> try rfl
    all_goals (cases a5 <;> cases a6 <;> cases a7 <;> cases a8 <;> rfl)
  ·refine href (cond (dj ro 33) (cond on (!decide (sp<1) && !decide (60<sp)) (sp==0)) false&&(((decide (ev=eE)&&decide (th=eE))&&((st==0) && !pr))&&(dj us 64&&(!decide (ti<0) && !decide (1099511627776<ti)&&(!decide (sm<0) && !decide (1099511627776<sm)))))) rfl ?_ fun k hk=>?_
   ·unfold fH.f
    refine Ev.bind hu (Ev.bind hr (Ev.bind he (Ev.bind ht (Ev.of ?_))))
    simp only [b2,b3,cond_true,cond_false,dle]
    generalize dj us 64=a1
    generalize dj ro 33=a2
    generalize decide (ti<0)=a5
    generalize decide (1099511627776<ti)=a6
    generalize decide (sm<0)=a7
    generalize decide (1099511627776<sm)=a8
    generalize (sp==0)=a9
    generalize (st==0)=a10
    generalize decide (sp<1)=a11
    generalize decide (60<sp)=a12
    generalize decide (ev=eE)=a13
    generalize decide (th=eE)=a14
    simp only [Ap]
    congr 1
    cases a1 <;> cases a5 <;> cases a6 <;> cases a7 <;> cases a8 <;> cases a2 <;> cases on <;> simp
    all_goals (cases a9 <;> cases a10 <;> cases a11 <;> cases a12 <;> cases a13 <;> cases a14 <;> rfl)
   ·have r:=h1 k om
    have u:=h2 k om
    have e4:ia.at [iJ.f,fS.f k,fun a0_=>fj.f k a0_ cH.f,fun a0_=>fm.f a0_ cH.f] 2=fun a0_=>fj.f k a0_ cH.f:=rfl
    have eq1:∀ (s:Int) (o:Bool),decide ((⟨2,ro,us,ev,th,pr,o,sp,st,ti,sm⟩:ai)=⟨2,ro,us,⟨#[]⟩,⟨#[]⟩,false,o,s,0,ti,sm⟩)=((decide (ev=⟨#[]⟩)&&decide (th=⟨#[]⟩)&&(st==0) && !pr)&&(sp==s)):=fun s o=>by
     rw [Bool.eq_iff_iff]
     simp only [decide_eq_true_eq,ai.mk.injEq,true_and,and_true,Bool.and_eq_true,beq_iff_eq,Bool.not_eq_true']
     constructor
     ·rintro ⟨h1,h2,h3,h4,h5⟩; exact ⟨⟨⟨⟨h1,h2⟩,h5⟩,h3⟩,h4⟩
     ·rintro ⟨⟨⟨⟨h1,h2⟩,h5⟩,h3⟩,h4⟩; exact ⟨h1,h2,h3,h4,h5⟩
    simp only [eO.f,nI.f,Option.bind_some,d3,d4,cond_false]
    simp only [e4,aq]
    rw [if_pos (g k 2 dc dc)]
    simp only [Option.bind_some,fj.f,r,lU.f,iq.f,cH.f,b2,b3,cond_true,cond_false,dle]
    cases on
    all_goals
     simp only [cond_true,cond_false,eq1,beq_self_eq_true,Bool.and_true,Bool.not_true,Bool.not_false,Option.bind_some,u]
     generalize dj us 64=a1
     generalize dj ro 33=a2
     generalize decide (ti<0)=a5
     generalize decide (1099511627776<ti)=a6
     generalize decide (sm<0)=a7
     generalize decide (1099511627776<sm)=a8
     generalize decide (ev=eE)=a13
     generalize decide (th=eE)=a14
     generalize (st==0)=a10
     generalize (sp==0)=a9
     generalize decide (sp<1)=a11
     generalize decide (60<sp)=a12
     cases a2 <;> cases a9 <;> cases a11 <;> cases a12 <;> cases a1 <;> cases a13 <;> cases a14 <;> cases a10 <;> cases pr <;> try rfl
     all_goals (cases a5 <;> cases a6 <;> cases a7 <;> cases a8 <;> rfl)
  ·refine href ((!decide (st<0) && !decide (2<st))&&((((decide (ro=eE)&&decide (ev=eE))&&decide (th=eE))&&((!on&&(sp==0)) && !pr))&&(dj us 64&&(!decide (ti<0) && !decide (1099511627776<ti)&&(!decide (sm<0) && !decide (1099511627776<sm)))))) rfl ?_ fun k hk=>?_
   ·unfold fH.f
    refine Ev.bind hu (Ev.bind hr (Ev.bind he (Ev.bind ht (Ev.of ?_))))
    simp only [b4,b5,b6,cond_true,cond_false,dle]
    generalize dj us 64=a1
    generalize decide (ti<0)=a5
    generalize decide (1099511627776<ti)=a6
    generalize decide (sm<0)=a7
    generalize decide (1099511627776<sm)=a8
    generalize (sp==0)=a9
    generalize decide (st<0)=a11
    generalize decide (2<st)=a12
    generalize decide (ev=eE)=a13
    generalize decide (th=eE)=a14
    generalize decide (ro=eE)=a15
    simp only [Ap]
    congr 1
    cases a1 <;> cases a5 <;> cases a6 <;> cases a7 <;> cases a8 <;> simp
    all_goals (cases a9 <;> cases a11 <;> cases a12 <;> cases a13 <;> cases a14 <;> cases a15 <;> cases on <;> cases pr <;> rfl)
   ·have u:=h2 k om
    have e4:ia.at [iJ.f,fS.f k,fun a0_=>fj.f k a0_ cH.f,fun a0_=>fm.f a0_ cH.f] 3=fun a0_=>fm.f a0_ cH.f:=rfl
    have eq1:decide ((⟨3,ro,us,ev,th,pr,on,sp,st,ti,sm⟩:ai)=⟨3,⟨#[]⟩,us,⟨#[]⟩,⟨#[]⟩,false,false,0,st,ti,sm⟩)=(((decide (ro=eE)&&decide (ev=eE))&&decide (th=eE))&&((!on&&(sp==0)) && !pr)):=by
     rw [Bool.eq_iff_iff]
     simp only [decide_eq_true_eq,ai.mk.injEq,true_and,and_true,Bool.and_eq_true,beq_iff_eq,Bool.not_eq_true']
     constructor
     ·rintro ⟨h1,h2,h3,h4,h5,h6⟩; exact ⟨⟨⟨h1,h2⟩,h3⟩,⟨h5,h6⟩,h4⟩
     ·rintro ⟨⟨⟨h1,h2⟩,h3⟩,⟨h5,h6⟩,h4⟩; exact ⟨h1,h2,h3,h4,h5,h6⟩
    simp only [eO.f,nI.f,Option.bind_some,d5,d6,cond_false]
    simp only [e4,aq]
    rw [if_pos (g k 3 dc dc)]
    simp only [Option.bind_some,fm.f,lU.f,iq.f,cH.f,b4,b5,b6,cond_true,cond_false,dle,eq1,u]
    generalize dj us 64=a1
    generalize decide (ti<0)=a5
    generalize decide (1099511627776<ti)=a6
    generalize decide (sm<0)=a7
    generalize decide (1099511627776<sm)=a8
    generalize decide (st<0)=a11
    generalize decide (2<st)=a12
    generalize (((decide (ro=eE)&&decide (ev=eE))&&decide (th=eE))&&((!on&&(sp==0)) && !pr))=a9
    cases a11 <;> cases a12 <;> cases a9 <;> cases a1 <;> try rfl
    all_goals (cases a5 <;> cases a6 <;> cases a7 <;> cases a8 <;> rfl)
 ·have k1:(K==1)=false:=by rw [beq_eq_false_iff_ne]; omega
  have k2:(K==2)=false:=by rw [beq_eq_false_iff_ne]; omega
  have k3:(K==3)=false:=by rw [beq_eq_false_iff_ne]; omega
  refine href false (by unfold ny; simp only [k1,k2,k3,cond_false]) ?_ fun k hk'=>?_
  ·unfold fH.f
   refine Ev.bind hu (Ev.bind hr (Ev.bind he (Ev.bind ht (Ev.of ?_))))
   simp only [k1,k2,k3,cond_false,Bool.cond_self,Ap]
  ·by_cases c1:K<0
   ·simp only [eO.f,dT c1,cond_true]
   ·by_cases c2:3<K
    ·simp only [eO.f,dT c2,dF c1,cond_true,cond_false]
    ·obtain rfl:K=0:=om
     rfl
theorem zF {e:ai} (z:Zz e):Ev (fun k=>eO.f k e) (ny e)∧Ev (fun k=>fH.f k e) (ny e):=by
 obtain ⟨b,rfl,h1,h2⟩:=F5 z
 exact ⟨h1,h2⟩
def AN (e:ai):Bool:=cond (ny e) (!e.au) false
theorem l9 {e:ai} (z:Zz e):Ev (fun k=>mf.f k e) (AN e)∧Ev (fun k=>mn.f k e) (AN e):=by
 obtain ⟨h1,h2⟩:=zF z
 unfold AN
 constructor
 ·unfold mf.f; refine Ev.bind h1 ?_; cases ny e <;> exact Ev.pure
 ·unfold mn.f; refine Ev.bind h2 ?_; cases ny e <;> exact Ev.pure
structure GE (e:ai):Prop where
 kind:e.aE=1∨e.aE=2∨e.aE=3
 user:e.ak∈lQ
 room:e.aE≠3→e.aa∈iL
 Cm:e.aE=3→e.aa=⟨#[]⟩
 event:e.aE=1→∃ j,j<9∧e.bB=mJ j
 wR:e.aE≠1→e.bB=⟨#[]⟩
 j6:e.aE=1→e.ag=⟨#[]⟩∨e.ag=⟨#[109,97,105,110]⟩∨∃ j,j<9∧e.ag=mJ j
 ql:e.aE≠1→e.ag=⟨#[]⟩
 sY:e.aE≠1→e.au=false
 on:e.aE≠2→e.jX=false
 zG:e.jX=false→e.bV=0
 zE:e.jX=true→1≤e.bV∧e.bV≤60
 AX:e.aE≠3→e.aU=0
 state:0≤e.aU∧e.aU≤2
 tick:0≤e.aQ∧e.aQ<100
 rk:0≤e.aX∧e.aX<9
theorem qA {u:BA} (h:u∈lQ):dj u 64=true∧u.size=5:=by
 have:∀ u∈lQ,dj u 64=true∧u.size=5:=by decide +kernel
 exact this u h
theorem oL {u:BA} (h:u∈iL):dj u 33=true∧u.size=5:=by
 have:∀ u∈iL,dj u 33=true∧u.size=5:=by decide +kernel
 exact this u h
theorem GE.zz {e:ai} (h:GE e):Zz e:=by
 refine ⟨?_,?_,?_,?_⟩
 ·by_cases k:e.aE=3
  ·rw [h.Cm k]; exact Nat.zero_le _
  ·rw [(oL (h.room k)).2]; decide
 ·rw [(qA h.user).2]; decide
 ·by_cases k:e.aE=1
  ·obtain ⟨j,_,ej⟩:=h.event k; rw [ej]; exact pM j
  ·rw [h.wR k]; exact Nat.zero_le _
 ·by_cases k:e.aE=1
  ·rcases h.j6 k with ej | ej | ⟨j,_,ej⟩ <;> rw [ej]
   ·exact Nat.zero_le _
   ·show 4≤maxLen; decide
   ·exact pM j
  ·rw [h.ql k]; exact Nat.zero_le _
theorem GE.Kz {e:ai} (h:GE e):Kz e=true:=by
 unfold Proofs.YtfknmdelgepbjaaGreatDoor.Kz
 have a:=h.tick
 have b:=h.rk
 simp [(qA h.user).1]
 omega
theorem GE.local {e:ai} (h:GE e):ny e=true:=by
 have ho:=h.Kz
 have hu:=(qA h.user).1
 have a:=h.tick
 have b:=h.rk
 unfold ny
 rcases h.kind with k | k | k
 ·have e1:(e.aE==1)=true:=by rw [k]; rfl
  have n2:e.aE≠2:=om
  have n3:e.aE≠3:=om
  obtain ⟨j,hj,ej⟩:=h.event k
  have hth:me e.ag=true:=by
   unfold me
   rcases h.j6 k with ej | ej | ⟨j,hj,ej⟩
   ·simp [ej]
   ·simp [ej]
   ·simp [ej,vD j hj]
  have c1:decide (e.aQ<0)=false:=by rw [decide_eq_false_iff_not]; omega
  have c2:decide (1099511627776<e.aQ)=false:=by rw [decide_eq_false_iff_not]; omega
  have c3:decide (e.aX<0)=false:=by rw [decide_eq_false_iff_not]; omega
  have c4:decide (1099511627776<e.aX)=false:=by rw [decide_eq_false_iff_not]; omega
  rw [e1,ej,vD j hj,hth,hu,c1,c2,c3,c4,h.on n2,h.zG (h.on n2),h.AX n3,(oL (h.room n3)).1]
  rfl
 ·have e1:(e.aE==1)=false:=by rw [k]; rfl
  have e2:(e.aE==2)=true:=by rw [k]; rfl
  have n1:e.aE≠1:=om
  have n3:e.aE≠3:=om
  rw [e1,e2,ho,h.wR n1,h.ql n1,h.sY n1,h.AX n3,(oL (h.room n3)).1]
  cases o:e.jX with
  | false=>rw [h.zG o]; rfl
  | true=>
   have:=h.zE o
   rw [show decide (e.bV<1)=false by rw [decide_eq_false_iff_not]; omega,show decide (60<e.bV)=false by rw [decide_eq_false_iff_not]; omega]
   rfl
 ·have e1:(e.aE==1)=false:=by rw [k]; rfl
  have e2:(e.aE==2)=false:=by rw [k]; rfl
  have e3:(e.aE==3)=true:=by rw [k]; rfl
  have n1:e.aE≠1:=om
  have n2:e.aE≠2:=om
  have c:=h.state
  rw [e1,e2,e3,ho,h.wR n1,h.ql n1,h.sY n1,h.on n2,h.zG (h.on n2),h.Cm k,show decide (e.aU<0)=false by rw [decide_eq_false_iff_not]; omega,show decide (2<e.aU)=false by rw [decide_eq_false_iff_not]; omega]
  rfl
theorem GE.may {e:ai} (h:GE e):AN e = !e.au:=by unfold AN; rw [h.local]; rfl
theorem Gb (x:Int):Gv (ax x):=by
 unfold Gv
 simp only [ax,IntKind.wrap,IntKind.signed,IntKind.bits]
 simp
 constructor <;> omega
theorem uE {n:Int} (hn:Gv n):∃ j,j<9∧Ev (fun k=>dq.f k n) (mJ j):=by
 obtain ⟨m,h1,h2,h3⟩:=gH (m:=9) hn dc dc
 obtain ⟨k,hk,rfl⟩:=int_lt (n:=9) h2 h3
 refine ⟨k,hk,?_⟩
 have h:=jw k hk
 unfold dq.f at h ⊢
 rw [show (9:Int)=((9:Nat):Int) from rfl,rH hk dc] at h
 rw [h1]
 exact h
theorem zh {n:Int} (hn:Gv n):∃ r,Ev (fun k=>gA.f k n) r∧(r=⟨#[]⟩∨r=⟨#[109,97,105,110]⟩∨∃ j,j<9∧r=mJ j):=by
 obtain ⟨m,h1,h2,h3⟩:=gH (m:=11) hn dc dc
 unfold gA.f
 by_cases e1:m=9
 ·exact ⟨_,Ev.bind (Ev.of h1) (Ev.ct (by simp [e1]) Ev.pure),.inl rfl⟩
 ·by_cases e2:m=10
  ·exact ⟨_,Ev.bind (Ev.of h1) (Ev.cf (by simp [e1]) (Ev.ct (by simp [e2]) Ev.pure)),.inr (.inl rfl)⟩
  ·obtain ⟨j,hj,hr⟩:=uE (n:=m) ⟨om,om⟩
   exact ⟨_,Ev.bind (Ev.of h1) (Ev.cf (by simp [e1]) (Ev.cf (by simp [e2]) (Ev.bind hr Ev.pure))),.inr (.inr ⟨j,hj,rfl⟩)⟩
theorem Hx {a:ai} (h:ai.ok a):∃ e,Ev (fun k=>kK.f k a) e∧GE e∧(a.aE=0→e.aE=1)∧(e.aE=1→e.au=a.au):=by
 obtain ⟨c1,c2,c3,c4,c5,c6,c7,c8,c9,c10,c11,_⟩:=h
 obtain ⟨m,h1,h2,h3⟩:=gH (m:=3) (lV c1) dc dc
 obtain ⟨u,u1,u2⟩:=sG (lV c9)
 obtain ⟨t,t1,t2,t3⟩:=gH (m:=100) (lV c10) dc dc
 obtain ⟨s,s1,s2,s3⟩:=gH (m:=9) (lV c11) dc dc
 obtain ⟨ro,r1,r2⟩:=DK (lV c8)
 obtain ⟨t9,y1,y2,y3⟩:=gH (m:=9) (lV c10) dc dc
 obtain ⟨ej,ej9,e1⟩:=uE (n:=ax ((a.bB.size:Int)+t9)) (Gb _)
 obtain ⟨th,f1,f2⟩:=zh (n:=(a.ag.size:Int)) ⟨om,by have h:a.ag.size≤2 ^ 63-1:=c5; omega⟩
 obtain ⟨sp,p1,p2,p3⟩:=gH (m:=60) (lV c8) dc dc
 obtain ⟨st,q1,q2,q3⟩:=gH (m:=3) (lV c8) dc dc
 have hk0:a.aE=0→m=0:=fun h0=>by
  rw [h0] at h1
  have:br.f 0 3=some 0:=rfl
  rw [this] at h1
  exact (Option.some.inj h1).symm
 have hw:ax (1+m)=1+m:=aJ om om
 have hsp:ax (1+sp)=1+sp:=aJ om om
 have key:∀ e,(∀ k,kK.f k a=cond ((1+m)==1) ((dq.f k (ax ((a.bB.size:Int)+t9))).bind fun t666=>(gA.f k (a.ag.size:Int)).bind fun t668=>some (⟨1+m,ro,u,t666,t668,a.au,false,0,0,t,s⟩:ai)) (cond ((1+m)==2) (cond a.jX (some (⟨1+m,ro,u,eE,eE,false,a.jX,1+sp,0,t,s⟩:ai)) (some (⟨1+m,ro,u,eE,eE,false,a.jX,0,0,t,s⟩:ai))) (some (⟨1+m,eE,u,eE,eE,false,false,0,st,t,s⟩:ai))))→
   Ev (fun k=>cond ((1+m)==1) ((dq.f k (ax ((a.bB.size:Int)+t9))).bind fun t666=>(gA.f k (a.ag.size:Int)).bind fun t668=>some (⟨1+m,ro,u,t666,t668,a.au,false,0,0,t,s⟩:ai)) (cond ((1+m)==2) (cond a.jX (some (⟨1+m,ro,u,eE,eE,false,a.jX,1+sp,0,t,s⟩:ai)) (some (⟨1+m,ro,u,eE,eE,false,a.jX,0,0,t,s⟩:ai))) (some (⟨1+m,eE,u,eE,eE,false,false,0,st,t,s⟩:ai)))) e→Ev (fun k=>kK.f k a) e:=fun e he hv=>hv.eq he
 have hf:∀ k,kK.f k a=cond ((1+m)==1) ((dq.f k (ax ((a.bB.size:Int)+t9))).bind fun t666=>(gA.f k (a.ag.size:Int)).bind fun t668=>some (⟨1+m,ro,u,t666,t668,a.au,false,0,0,t,s⟩:ai)) (cond ((1+m)==2) (cond a.jX (some (⟨1+m,ro,u,eE,eE,false,a.jX,1+sp,0,t,s⟩:ai)) (some (⟨1+m,ro,u,eE,eE,false,a.jX,0,0,t,s⟩:ai))) (some (⟨1+m,eE,u,eE,eE,false,false,0,st,t,s⟩:ai))):=fun k=>by
  simp only [kK.f,h1,u1,t1,s1,r1,y1,p1,q1,Option.bind_some,hw,hsp]
 rcases (show m=0∨m=1∨m=2 by omega) with rfl | rfl | rfl
 ·refine ⟨⟨1,ro,u,mJ ej,th,a.au,false,0,0,t,s⟩,key _ hf (Ev.ct rfl (Ev.bind e1 (Ev.bind f1 Ev.pure))),?_,fun _=>rfl,fun _=>rfl⟩
  exact ⟨.inl rfl,u2,fun _=>r2,fun h=>(by cases h),fun _=>⟨ej,ej9,rfl⟩,fun h=>absurd rfl h,fun _=>f2,fun h=>absurd rfl h,fun h=>absurd rfl h,fun _=>rfl,fun _=>rfl,nofun,fun _=>rfl,⟨Int.le_refl 0,show (0:Int)≤2 by decide⟩,⟨t2,t3⟩,⟨s2,s3⟩⟩
 ·cases ho:a.jX with
  | true=>
   refine ⟨⟨2,ro,u,⟨#[]⟩,⟨#[]⟩,false,true,1+sp,0,t,s⟩,key _ hf (Ev.cf rfl (Ev.ct rfl (Ev.ct ho (Ev.of (by rw [ho]; rfl))))),?_,fun h=>(by have:=hk0 h; omega),fun h=>(by cases h)⟩
   exact ⟨.inr (.inl rfl),u2,fun _=>r2,fun h=>(by cases h),fun h=>(by cases h),fun _=>rfl,fun h=>(by cases h),fun _=>rfl,fun _=>rfl,fun h=>absurd rfl h,nofun,fun _=>⟨by show 1≤1+sp; omega,by show 1+sp≤60; omega⟩,fun _=>rfl,⟨Int.le_refl 0,show (0:Int)≤2 by decide⟩,⟨t2,t3⟩,⟨s2,s3⟩⟩
  | false=>
   refine ⟨⟨2,ro,u,⟨#[]⟩,⟨#[]⟩,false,false,0,0,t,s⟩,key _ hf (Ev.cf rfl (Ev.ct rfl (Ev.cf ho (Ev.of (by rw [ho]; rfl))))),?_,fun h=>(by have:=hk0 h; omega),fun h=>(by cases h)⟩
   exact ⟨.inr (.inl rfl),u2,fun _=>r2,fun h=>(by cases h),fun h=>(by cases h),fun _=>rfl,fun h=>(by cases h),fun _=>rfl,fun _=>rfl,fun _=>rfl,fun _=>rfl,nofun,fun _=>rfl,⟨Int.le_refl 0,show (0:Int)≤2 by decide⟩,⟨t2,t3⟩,⟨s2,s3⟩⟩
 ·refine ⟨⟨3,⟨#[]⟩,u,⟨#[]⟩,⟨#[]⟩,false,false,0,st,t,s⟩,key _ hf (Ev.cf rfl (Ev.cf rfl (Ev.of rfl))),?_,fun h=>(by have:=hk0 h; omega),fun h=>(by cases h)⟩
  exact ⟨.inr (.inr rfl),u2,fun h=>absurd rfl h,fun _=>rfl,fun h=>(by cases h),fun _=>rfl,fun h=>(by cases h),fun _=>rfl,fun _=>rfl,fun _=>rfl,fun _=>rfl,nofun,fun h=>absurd rfl h,⟨q2,by show st≤2; omega⟩,⟨t2,t3⟩,⟨s2,s3⟩⟩
theorem GE.I0 {e:ai} (h:GE e):e.aa.size<128∧e.ak.size<128∧e.bB.size<128∧e.ag.size<128:=by
 refine ⟨?_,?_,?_,?_⟩
 ·by_cases k:e.aE=3
  ·rw [h.Cm k]; show 0<128; omega
  ·rw [(oL (h.room k)).2]; decide
 ·rw [(qA h.user).2]; decide
 ·by_cases k:e.aE=1
  ·obtain ⟨j,_,ej⟩:=h.event k; rw [ej]; show 3<128; omega
  ·rw [h.wR k]; show 0<128; omega
 ·by_cases k:e.aE=1
  ·rcases h.j6 k with ej | ej | ⟨j,_,ej⟩ <;> rw [ej]
   ·show 0<128; omega
   ·show 4<128; omega
   ·show 3<128; omega
  ·rw [h.ql k]; show 0<128; omega
theorem uH (a b:BA):(a++b).data.toList=a.data.toList++b.data.toList:=by simp [ByteArray.data_append]
theorem ya {a b:BA} (h:a.data.toList=b.data.toList):a=b:=by
 obtain ⟨⟨a⟩⟩:=a; obtain ⟨⟨b⟩⟩:=b; simp at h; subst h; rfl
def vO (s:BA):Prop:=∀ x∈s.data.toList,x≠32
theorem HL {s:BA} (h:∀ i:Nat,i<s.size→bt s (i:Int)≠32):vO s:=fun x hx e=>by
 obtain ⟨i,hi,hx⟩:=List.mem_iff_getElem.1 hx
 have hi':i<s.data.size:=by simpa using hi
 refine h i hi' ?_
 unfold bt
 rw [Int.toNat_natCast,Array.getD_eq_getD_getElem?,Array.getElem?_eq_getElem hi']
 have:s.data[i]=x:=by rw [← hx]; simp
 simp only [Option.getD_some,this,e]
 rfl
theorem ES:∀ {L L' M M':List UInt8},(∀ x∈L,x≠32)→(∀ x∈L',x≠32)→L++32::M=L'++32::M'→L=L'∧M=M'
 | [],[],M,M',_,_,h=>by simpa using h
 | [],y::L',M,M',_,h2,h=>by simp at h; exact absurd h.1.symm (h2 y (List.mem_cons_self ..))
 | x::L,[],M,M',h1,_,h=>by simp at h; exact absurd h.1 (h1 x (List.mem_cons_self ..))
 | x::L,y::L',M,M',h1,h2,h=>by
  simp only [List.cons_append,List.cons.injEq] at h
  obtain ⟨a,b⟩:=ES (fun z hz=>h1 z (List.mem_cons_of_mem _ hz)) (fun z hz=>h2 z (List.mem_cons_of_mem _ hz)) h.2
  exact ⟨by rw [h.1,a],b⟩
theorem rf (a b:BA):((a++(⟨#[32]⟩:BA))++b).data.toList=a.data.toList++32::b.data.toList:=by
 rw [uH,uH]; simp
theorem key_inj {a b a' b':BA} (ha:vO a) (ha':vO a') (h:(a++(⟨#[32]⟩:BA))++b=(a'++(⟨#[32]⟩:BA))++b'):a=a'∧b=b':=by
 have h1:=congrArg (fun s:BA=>s.data.toList) h
 simp only [rf] at h1
 obtain ⟨e1,e2⟩:=ES ha ha' h1
 exact ⟨ya e1,ya e2⟩
theorem vA {s:BA} {c:UInt8} (hc:c≠32) (h:dj s c=true):vO s:=HL fun i hi=>by
 have hcc:(c.toNat:Int)≠32:=fun h=>hc (UInt8.toNat_inj.1 (by exact_mod_cast h))
 unfold dj at h
 split at h
 ·rename_i h0
  simp only at h
  split at h
  ·rename_i h1
   have hft:=qO (s.extract 1 s.size) 58
   rw [show (((58:UInt8).toNat:Int))=58 from rfl] at hft
   rcases hft with ⟨e,_⟩ | ⟨j,e,j1,j2,_⟩
   ·omega
   ·rw [e,Int.toNat_natCast,Bool.and_eq_true] at h
    obtain ⟨p1,p2⟩:=h
    have hsz:(s.extract 1 s.size).size=s.size-1:=iT (Nat.le_refl _)
    have cP:∀ x:Int,DR x=true→x≠32:=fun x hx e=>by subst e; exact absurd hx dc
    have cS:∀ x:Int,Gw x=true→x≠32:=fun x hx e=>by subst e; exact absurd hx dc
    rcases Nat.eq_zero_or_pos i with rfl | hpos
    ·rw [show ((0:Nat):Int)=0 from rfl,h0.2]; exact hcc
    ·obtain ⟨m,rfl⟩:∃ m,i=1+m:=⟨i-1,om⟩
     have hb:bt (s.extract 1 s.size) (m:Int)=bt s ((1+m:Nat):Int):=p6 om (Nat.le_refl _)
     rw [← hb]
     rcases Nat.lt_trichotomy m j with hm | hm | hm
     ·unfold qS at p1
      rw [Bool.and_eq_true] at p1
      have:=kc.1 p1.1 m (Nat.zero_le _) (by rw [iT om]; omega)
      have:=cP _ this
      rwa [p6 om om,Nat.zero_add] at this
     ·subst hm; rw [j2]; decide
     ·unfold oJ qS at p2
      rw [Bool.and_eq_true,Bool.and_eq_true] at p2
      have:=kc.1 p2.1.1 (m-(j+1)) (Nat.zero_le _) (by rw [iT (Nat.le_refl _)]; omega)
      have:=cS _ this
      rwa [p6 om (Nat.le_refl _),show j+1+(m-(j+1))=m by omega] at this
  ·cases h
 ·cases h
set_option maxRecDepth 100000
def ths:List BA:=⟨#[]⟩::⟨#[109,97,105,110]⟩::(List.range 9).map mJ
def allK:List bz:=iL.flatMap fun r=>lQ.flatMap fun u=>ths.flatMap fun t=>[⟨r,u,t,false⟩,⟨r,u,t,true⟩]
structure Kx (x:bz):Prop where
 room:x.aa∈iL
 user:x.ak∈lQ
 j6:x.ag∈ths
theorem Kx.mem {x:bz} (h:Kx x):x∈allK:=by
 obtain ⟨r,u,t,p⟩:=x
 refine List.mem_flatMap.2 ⟨r,h.room,List.mem_flatMap.2 ⟨u,h.user,List.mem_flatMap.2 ⟨t,h.j6,?_⟩⟩⟩
 cases p <;> simp
def J:BA→List BA→BA
 | a,[]=>a
 | a,b::l=>(a++⟨#[32]⟩)++J b l
def qE (p:Bool):BA:=cond p ⟨#[49]⟩ ⟨#[48]⟩
def nC (x:bz):BA:=J ⟨#[109]⟩ [x.aa,x.ak,x.ag,qE x.au]
def Dg (r:BA):BA:=J ⟨#[116]⟩ [r]
def DC (u:BA):BA:=J ⟨#[112]⟩ [u]
theorem Ie:(allK.all fun x=>decide (iz.f x=some (nC x))&&(decide (kz.f ⟨1,x,⟨#[]⟩⟩=some (nC x))&&(decide (C2 (nC x) 32=4)&&decide ((nC x).size≤40))))=true:=kr
theorem AF {x:bz} (h:Kx x):iz.f x=some (nC x)∧kz.f ⟨1,x,⟨#[]⟩⟩=some (nC x)∧C2 (nC x) 32=4∧(nC x).size≤40:=by
 have:=List.all_eq_true.1 Ie x h.mem
 simpa using this
theorem yJ:∀ r∈iL,jt.f r=some (Dg r)∧kz.f ⟨2,⟨⟨#[]⟩,⟨#[]⟩,⟨#[]⟩,false⟩,r⟩=some (Dg r)∧C2 (Dg r) 32=1∧(Dg r).size≤40:=by decide +kernel
theorem z6:∀ r∈lQ,jg.f r=some (DC r)∧kz.f ⟨3,⟨⟨#[]⟩,⟨#[]⟩,⟨#[]⟩,false⟩,r⟩=some (DC r)∧C2 (DC r) 32=1∧(DC r).size≤40:=by decide +kernel
theorem q9 {s:BA} (h:(s.data.toList.all fun x=>x != 32)=true):vO s:=fun x hx=>by simpa using List.all_eq_true.1 h x hx
theorem AY:∀ r∈iL,vO r:=fun r hr=>q9 (by revert r; decide +kernel)
theorem AS:∀ r∈lQ,vO r:=fun r hr=>q9 (by revert r; decide +kernel)
theorem F1:∀ r∈ths,vO r:=fun r hr=>q9 (by revert r; decide +kernel)
theorem Jf:∀ {l m:List UInt8},(∀ x∈l,x≠32)→Lib.indexByte (l++32::m) 32=(l.length:Int)
 | [],m,_=>by simp [Lib.indexByte]
 | a::l,m,h=>by
  have h1:=Jf (l:=l) (m:=m) fun x hx=>h x (List.mem_cons_of_mem _ hx)
  have h2:(a==32)=false:=by simpa using h a List.mem_cons_self
  rw [List.cons_append,Lib.indexByte,h2,h1]
  have h3:((l.length:Int) == -1)=false:=by rw [beq_eq_false_iff_ne]; omega
  rw [h3]; simp
theorem JU {a r:BA} (h:vO a):gC.f ((a++⟨#[32]⟩)++r) ⟨#[32]⟩=some (a.size:Int):=by
 unfold gC.f
 rw [wN]
 have e:lN ((a++⟨#[32]⟩)++r) ((32:UInt8).toNat:Int)=(a.size:Int):=by
  show Lib.indexByte ((a++⟨#[32]⟩)++r).data.toList 32=_
  rw [rf,Jf h]; rfl
 rw [e]; rfl
theorem Ex (s:BA) (i j:Nat):(s.extract i j).data.toList=(s.data.toList.take j).drop i:=by
 simp [ByteArray.data_extract,List.drop_take]
theorem cut1 (a r:BA):((a++⟨#[32]⟩)++r).extract 0 a.size=a:=ya (by
 rw [Ex,rf,List.drop_zero]
 show List.take a.data.toList.length _=_
 simp)
theorem cut2 (a r:BA):((a++⟨#[32]⟩)++r).extract (a.size+1) ((a++⟨#[32]⟩)++r).size=r:=ya (by
 rw [Ex]
 have e:((a++⟨#[32]⟩)++r).size=((a++⟨#[32]⟩)++r).data.toList.length:=rfl
 rw [e,List.take_length,rf]
 show List.drop (a.data.toList.length+1) _=_
 rw [← List.drop_drop]; simp)
section
variable {k:Nat} {s0:BA} {p:Int} {B:Nat} (hB:ax ((min p (ax ((s0.size:Int)+1)))-1)=(B:Int))
include hB
theorem oN {j i:Nat} {a r:BA} {out:List BA} (ha:vO a) (h1:a.size≤1000) (hi:i<B) (hb:B≤1000) (ho:i<out.length):
  strings_genSplit.l0 k s0 ⟨#[32]⟩ 0 p (j+1) ((a++⟨#[32]⟩)++r) (i:Int) out=strings_genSplit.l0 k s0 ⟨#[32]⟩ 0 p j r ((i+1:Nat):Int) (out.set i a):=by
 rw [strings_genSplit.l0,hB,dT (by omega:(i:Int)<(B:Int)),JU ha]
 have e1:(⟨#[32]⟩:BA).size=1:=rfl
 have e2:ax ((a.size:Int)+0)=(a.size:Int):=by rw [Int.add_zero,aJ om om]
 have e3:ax ((a.size:Int)+((1:Nat):Int))=((a.size+1:Nat):Int):=by rw [aJ om om]; omega
 have e4:ax ((i:Int)+1)=((i+1:Nat):Int):=by rw [aJ om om]; omega
 have hs:((a++⟨#[32]⟩)++r).size=a.size+1+r.size:=by rw [ByteArray.size_append,ByteArray.size_append]; rfl
 simp only [cond_true,Option.bind_some]
 rw [dF (by omega:¬ (a.size:Int)<0),e1,e2,e3,e4,cond_false]
 unfold aq
 rw [if_pos ⟨om,om,om⟩,if_pos ⟨om,om⟩,if_pos ⟨om,om,Nat.le_refl _⟩]
 simp only [Int.toNat_natCast]
 rw [cut1,cut2]
theorem Dt {j:Nat} {x:BA} {out:List BA}:strings_genSplit.l0 k s0 ⟨#[32]⟩ 0 p (j+1) x (B:Int) out=some (x,(B:Int),false,out):=by
 rw [strings_genSplit.l0,hB,dF (by omega:¬ (B:Int)<(B:Int))]; rfl
end
theorem IM {x:bz} (h:Kx x):Ev (fun k=>na.f k (nC x)) (.d89 x):=by
 obtain ⟨_,_,hc,hsz⟩:=AF h
 have hl:(nC x).size=16+x.ag.size:=by
  have r:=(oL h.room).2; have u:=(qA h.user).2
  show (J ⟨#[109]⟩ [x.aa,x.ak,x.ag,qE x.au]).size=_
  have l:(qE x.au).size=1:=by cases x.au <;> rfl
  simp only [J,ByteArray.size_append,r,u,l]
  show 1+1+(5+1+(5+1+(x.ag.size+1+1)))=_
  omega
 refine Ev.add 10 fun m=>?_
 unfold na.f kQ.f strings_genSplit.f strings_Count.f
 have e1:(⟨#[32]⟩:BA).size=1:=rfl
 have e0:bt (⟨#[32]⟩:BA) 0=32:=rfl
 have hB:ax ((min (ax (4+1)) (ax (((nC x).size:Int)+1)))-1)=((4:Nat):Int):=by
  rw [aJ (x:=4+1) om om,aJ (x:=((nC x).size:Int)+1) om om,aJ om om]; omega
 have hm:min (ax (4+1)) (ax (((nC x).size:Int)+1))=5:=by
  rw [aJ (x:=4+1) om om,aJ (x:=((nC x).size:Int)+1) om om]; omega
 have hk:nC x=(((⟨#[109]⟩:BA)++⟨#[32]⟩)++((x.aa++⟨#[32]⟩)++((x.ak++⟨#[32]⟩)++((x.ag++⟨#[32]⟩)++qE x.au)))):=rfl
 have r5:=(oL h.room).2; have u5:=(qA h.user).2
 have s1:=oN (k:=m+10) (s0:=nC x) (p:=ax (4+1)) (B:=4) hB (j:=m+9) (i:=0) (a:=⟨#[109]⟩) (r:=((x.aa++⟨#[32]⟩)++((x.ak++⟨#[32]⟩)++((x.ag++⟨#[32]⟩)++qE x.au)))) (out:=List.replicate 5 ⟨#[]⟩) (q9 (by decide +kernel)) dc om om sM
 have s2:=oN (k:=m+10) (s0:=nC x) (p:=ax (4+1)) (B:=4) hB (j:=m+8) (i:=1) (a:=x.aa) (r:=((x.ak++⟨#[32]⟩)++((x.ag++⟨#[32]⟩)++qE x.au))) (out:=(List.replicate 5 ⟨#[]⟩).set 0 ⟨#[109]⟩) (AY _ h.room) om om om sM
 have s3:=oN (k:=m+10) (s0:=nC x) (p:=ax (4+1)) (B:=4) hB (j:=m+7) (i:=2) (a:=x.ak) (r:=((x.ag++⟨#[32]⟩)++qE x.au)) (out:=((List.replicate 5 ⟨#[]⟩).set 0 ⟨#[109]⟩).set 1 x.aa) (AS _ h.user) om om om sM
 have s4:=oN (k:=m+10) (s0:=nC x) (p:=ax (4+1)) (B:=4) hB (j:=m+6) (i:=3) (a:=x.ag) (r:=qE x.au) (out:=(((List.replicate 5 ⟨#[]⟩).set 0 ⟨#[109]⟩).set 1 x.aa).set 2 x.ak) (F1 _ h.j6) om om om sM
 have s5:=Dt (k:=m+10) (s0:=nC x) (p:=ax (4+1)) (B:=4) hB (j:=m+5) (x:=qE x.au) (out:=((((List.replicate 5 ⟨#[]⟩).set 0 ⟨#[109]⟩).set 1 x.aa).set 2 x.ak).set 3 x.ag)
 rw [← hk] at s1
 have s:=s1.trans (s2.trans (s3.trans (s4.trans s5)))
 have s':strings_genSplit.l0 (m+10) (nC x) ⟨#[32]⟩ 0 (ax (4+1)) (m+10) (nC x) 0 (List.replicate (5:Int).toNat ⟨#[]⟩)=some (qE x.au,4,false,[⟨#[109]⟩,x.aa,x.ak,x.ag,⟨#[]⟩]):=s
 have gp:∀ {α:Type} {p:Prop} [Decidable p] (h:p) (x:Option α),aq p x=x:=fun h x=>if_pos h
 simp only [show (-1==(0:Int))=false from rfl,show decide ((-1:Int)<0)=true from rfl,show decide ((⟨#[32]⟩:BA)=⟨#[]⟩)=false from rfl,e1,e0,hc,show (((1:Nat):Int)==0)=false from rfl,show (((1:Nat):Int)==1)=true from rfl,cond_true,cond_false]
 rw [gp dc]
 simp only [Option.bind_some]
 rw [hm,gp dc,s']
 simp only [Option.bind_some]
 rw [gp ⟨dc,(by decide:(4:Int)<((5:Nat):Int))⟩,gp ⟨dc,dc,(by decide:(ax (4+1)).toNat≤5)⟩]
 simp only [Option.bind_some]
 obtain ⟨r,u,t,p⟩:=x
 cases p <;> rfl
theorem HU:∀ r∈iL,Ev (fun k=>na.f k (Dg r)) (.d141 r):=fun r hr=>by
 simp only [iL,List.mem_cons,List.not_mem_nil,or_false] at hr
 rcases hr with rfl | rfl <;> exact Ev.add 20 fun m=>kr
theorem Ib:∀ r∈lQ,Ev (fun k=>na.f k (DC r)) (.d143 r):=fun r hr=>by
 simp only [lQ,List.mem_cons,List.not_mem_nil,or_false] at hr
 rcases hr with rfl | rfl | rfl | rfl | rfl | rfl | rfl | rfl | rfl <;> exact Ev.add 20 fun m=>kr
end Go.Proofs.YtfknmdelgepbjaaGreatDoor
