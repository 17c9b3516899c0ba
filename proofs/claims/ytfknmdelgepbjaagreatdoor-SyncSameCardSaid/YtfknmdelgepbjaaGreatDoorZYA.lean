import Derived.Test.YtfknmdelgepbjaaGreatDoorZVF
import Derived.Test.YtfknmdelgepbjaaGreatDoorZMA
import Derived.Test.YtfknmdelgepbjaaGreatDoorZVG
import Derived.Test.YtfknmdelgepbjaaGreatDoorZVC
set_option linter.all false
set_option maxRecDepth 10000
namespace Go.Proofs.YtfknmdelgepbjaaGreatDoor
open Go Go.Sp
structure RG (L:List Event):Prop where
 vV:Good L
 par:∀ e∈L,e.ag.length≤4
 lJ:∀ e∈L,e.bO=0∨e.bO=1∨e.bO=2
 usr:∀ e∈L,e.ai.size≤maxLen
 len:L.length≤1000
theorem rt_of {m:bn} {L:List Event} (h:RG L) (hT:T m=tb L):RT m (tb L):=
 ⟨hT,uu h.vV,JR L,fun x hx=>h.par _ (by rw [← Bc L]; exact List.mem_map.2 ⟨x,hx,rfl⟩),by rw [Fx]; exact h.len⟩
theorem wQ (p q:Pos):jJ.f p q=some (ltOf gX p q):=by
 unfold jJ.f
 have h:=yU p q
 by_cases h1:p.bp<q.bp
 ·rw [dT h1,(h.2 (.inl h1))]; rfl
 ·rw [dF h1]
  by_cases h2:p.bp=q.bp
  ·rw [show (p.bp==q.bp)=true by simp [h2]]
   show some (dI p.bS q.bS)=_
   congr 1
   rw [Bool.eq_iff_iff,h]
   exact ⟨fun k=>.inr ⟨h2,k⟩,fun k=>k.elim (fun k=>absurd k h1) (·.2)⟩
  ·rw [show (p.bp==q.bp)=false by simp [h2]]
   show some false=_
   congr 1
   cases e:ltOf gX p q with
   | false=>rfl
   | true=>
        rcases h.1 e with k | k
        ·exact absurd k h1
        ·exact absurd k.1 h2
def zeroE:Event:=⟨⟨#[]⟩,⟨#[]⟩,[],⟨#[]⟩,⟨#[]⟩,0⟩
def pr:Option Event→Event×Bool
 | some e=>(e,true)
 | none=>(zeroE,false)
section
variable {d:aQ} (hg:RG d.fL)
include hg
theorem xG (id:BA):Ev (fun k=>ea.f k d id) (pos (tb d.fL) id):=
 KN hg.vV (by have:=hg.len; omega) (fun i hi=>by have:=hg.par _ (FD hi); show _≤9223372036854775807; omega) id
def PM (t:oB) (L:List Event) (u:BA) (x:Nat) (kx:Int):Prop:=
 (kx = -1∧∀ i,i<x→il u (ev L i)=false)∨∃ c:Nat,kx=(c:Int)∧c<x∧il u (ev L c)=true∧∀ i,i<x→il u (ev L i)=true→ev L i=ev L c∨lt t (ev L i) (ev L c)
theorem Ba (u:BA):∀ n x:Nat,d.fL.length-x=n→x≤d.fL.length→∀ kx:Int,PM (tb d.fL) d.fL u x kx→∃ r:Int×Int×Bool,El (fun k j=>dy.l0 k d u j kx (x:Int)) r∧PM (tb d.fL) d.fL u d.fL.length r.1:=by
 have hl:=hg.len
 intro n
 induction n with
 | zero=>
  intro x hd hx kx hp
  obtain rfl:x=d.fL.length:=om
  refine ⟨(kx,(d.fL.length:Int),false),?_,hp⟩
  refine El.step (fun _ _=>by rw [dy.l0]) ?_
  exact El.cf sM (by simpa using El.pure)
 | succ n ih=>
  intro x hd hx kx hp
  have hx2:x<d.fL.length:=om
  have g:(0:Int)≤(x:Int)∧(x:Int)<(d.fL.length:Int):=⟨om,om⟩
  have stay:il u (ev d.fL x)=false→PM (tb d.fL) d.fL u (x+1) kx:=fun h=>by
   rcases hp with ⟨h1,h2⟩ | ⟨c,h1,h2,h3,h4⟩
   ·refine .inl ⟨h1,fun i hi=>?_⟩
    rcases Nat.lt_or_ge i x with k | k
    ·exact h2 i k
    ·obtain rfl:i=x:=om
     exact h
   ·refine .inr ⟨c,h1,om,h3,fun i hi hr=>?_⟩
    rcases Nat.lt_or_ge i x with k | k
    ·exact h4 i k hr
    ·obtain rfl:i=x:=om
     rw [h] at hr; cases hr
  have key:∀ kx',PM (tb d.fL) d.fL u (x+1) kx'→(∀ r,El (fun k j=>dy.l0 k d u j kx' (av ((x:Int)+1))) r→El (fun k j=>cond (!decide (((Event.K.at d.fL (x:Int)).ai)=u)) (dy.l0 k d u j kx (av ((x:Int)+1))) (an ((0:Int)≤(x:Int)∧(x:Int)<(d.fL.length:Int)) (cond (((Event.K.at d.fL (x:Int)).bO)==0) (dy.l0 k d u j kx (av ((x:Int)+1))) (cond (decide (kx<0)) (dy.l0 k d u j (x:Int) (av ((x:Int)+1))) (an ((0:Int)≤kx∧kx<(d.fL.length:Int)) ((ea.f k d ((Event.K.at d.fL kx).bS)).bind fun t625=>an ((0:Int)≤(x:Int)∧(x:Int)<(d.fL.length:Int)) ((ea.f k d ((Event.K.at d.fL (x:Int)).bS)).bind fun t628=>(jJ.f t625 t628).bind fun t630=>cond t630 (dy.l0 k d u j (x:Int) (av ((x:Int)+1))) (dy.l0 k d u j kx (av ((x:Int)+1)))))))))) r)→∃ r:Int×Int×Bool,El (fun k j=>dy.l0 k d u j kx (x:Int)) r∧PM (tb d.fL) d.fL u d.fL.length r.1:=fun kx' hk hG=>by
   obtain ⟨r,r1,r2⟩:=ih (x+1) om om kx' hk
   exact ⟨r,El.step (fun _ _=>by rw [dy.l0]) (El.ct (dT om) (El.an g (hG r (by rw [im om]; exact r1)))),r2⟩
  by_cases hu:(ev d.fL x).ai=u
  ·by_cases h0:(ev d.fL x).bO=0
   ·have hr:il u (ev d.fL x)=false:=by unfold il; simp [h0]
    obtain ⟨r,r1,r2⟩:=key kx (stay hr) (fun r h=>El.cf (by rw [j5 hx2]; simp [hu]) (El.an g (El.ct (by rw [j5 hx2]; simp [h0]) h)))
    exact ⟨r,r1,r2⟩
   ·have hr:il u (ev d.fL x)=true:=by unfold il; simp [h0,hu]
    rcases hp with ⟨h1,h2⟩ | ⟨c,h1,h2,h3,h4⟩
    ·obtain ⟨r,r1,r2⟩:=key (x:Int) (.inr ⟨x,rfl,om,hr,fun i hi hr'=>by
      rcases Nat.lt_or_ge i x with k | k
      ·rw [h2 i k] at hr'; cases hr'
      ·obtain rfl:i=x:=om
       exact .inl rfl⟩) (fun r h=>El.cf (by rw [j5 hx2]; simp [hu]) (El.an g (El.cf (by rw [j5 hx2]; simp [h0]) (El.ct (dT om) h))))
     exact ⟨r,r1,r2⟩
    ·have hc2:c<d.fL.length:=om
     have gc:(0:Int)≤kx∧kx<(d.fL.length:Int):=⟨om,om⟩
     have pre:∀ {kx'} {r},ltOf gX (pos (tb d.fL) (ev d.fL c).bS) (pos (tb d.fL) (ev d.fL x).bS)=(decide (kx'=(x:Int)):Bool)→(kx'=(x:Int)∨kx'=kx)→El (fun k j=>dy.l0 k d u j kx' (av ((x:Int)+1))) r→El (fun k j=>cond (!decide (((Event.K.at d.fL (x:Int)).ai)=u)) (dy.l0 k d u j kx (av ((x:Int)+1))) (an ((0:Int)≤(x:Int)∧(x:Int)<(d.fL.length:Int)) (cond (((Event.K.at d.fL (x:Int)).bO)==0) (dy.l0 k d u j kx (av ((x:Int)+1))) (cond (decide (kx<0)) (dy.l0 k d u j (x:Int) (av ((x:Int)+1))) (an ((0:Int)≤kx∧kx<(d.fL.length:Int)) ((ea.f k d ((Event.K.at d.fL kx).bS)).bind fun t625=>an ((0:Int)≤(x:Int)∧(x:Int)<(d.fL.length:Int)) ((ea.f k d ((Event.K.at d.fL (x:Int)).bS)).bind fun t628=>(jJ.f t625 t628).bind fun t630=>cond t630 (dy.l0 k d u j (x:Int) (av ((x:Int)+1))) (dy.l0 k d u j kx (av ((x:Int)+1)))))))))) r:=fun {kx' r} hlt hk h=>by
      have ec:Event.K.at d.fL kx=ev d.fL c:=by rw [h1]; exact j5 hc2
      refine El.cf (by rw [j5 hx2]; simp [hu]) (El.an g (El.cf (by rw [j5 hx2]; simp [h0]) (El.cf (dF om) (El.an gc ?_))))
      rw [ec,j5 hx2]
      refine El.bind (xG hg _).el (El.an g (El.bind (xG hg _).el (El.bind (Ev.of (wQ _ _)).el ?_)))
      rw [hlt]
      rcases hk with hk | hk
      ·rw [hk] at h ⊢
       exact El.ct sM h
      ·rw [hk] at h ⊢
       exact El.cf (dF om) h
     cases hlt:ltOf gX (pos (tb d.fL) (ev d.fL c).bS) (pos (tb d.fL) (ev d.fL x).bS) with
     | true=>
      obtain ⟨r,r1,r2⟩:=key (x:Int) (.inr ⟨x,rfl,om,hr,fun i hi hr'=>by
       rcases Nat.lt_or_ge i x with k | k
       ·rcases h4 i k hr' with q | q
        ·rw [q]; exact .inr hlt
        ·exact .inr (JI q hlt)
       ·obtain rfl:i=x:=om
        exact .inl rfl⟩) (fun r h=>pre (kx':=(x:Int)) (by rw [hlt]; simp) (.inl rfl) h)
      exact ⟨r,r1,r2⟩
     | false=>
      obtain ⟨r,r1,r2⟩:=key kx (.inr ⟨c,h1,om,h3,fun i hi hr'=>by
       rcases Nat.lt_or_ge i x with k | k
       ·exact h4 i k hr'
       ·obtain rfl:i=x:=om
        cases h5:ltOf gX (pos (tb d.fL) (ev d.fL i).bS) (pos (tb d.fL) (ev d.fL c).bS) with
        | true=>exact .inr h5
        | false=>
         have:=congrArg Pos.bS (rA _ _ h5 hlt)
         have h6:(ev d.fL i).bS=(ev d.fL c).bS:=this
         have h7:=Gu hg.vV hx2
         rw [h6,Gu hg.vV hc2] at h7
         omega⟩) (fun r h=>pre (kx':=kx) (by rw [hlt]; exact (dF om).symm) (.inr rfl) h)
      exact ⟨r,r1,r2⟩
  ·have hr:il u (ev d.fL x)=false:=by unfold il; simp [hu]
   obtain ⟨r,r1,r2⟩:=key kx (stay hr) (fun r h=>El.ct (by rw [j5 hx2]; simp [hu]) h)
   exact ⟨r,r1,r2⟩
theorem Gr (u:BA):Ev (fun k=>dy.f k d u) (pr (nP u (nf (tb d.fL)) none)):=by
 obtain ⟨r,r1,r2⟩:=Ba hg u _ 0 rfl om (-1) (.inl ⟨rfl,fun i hi=>om⟩)
 have hmx:=FR hg.vV u
 unfold dy.f
 refine Ev.bind r1.diag ?_
 rcases r2 with ⟨h1,h2⟩ | ⟨c,h1,h2,h3,h4⟩
 ·have:nP u (nf (tb d.fL)) none=none:=Ci hmx (fun e he=>by obtain ⟨i,hi,rfl⟩:=sQ he; exact h2 i hi)
  rw [this,h1]
  exact Ev.ct rfl Ev.pure
 ·have:nP u (nf (tb d.fL)) none=some (ev d.fL c):=Ci hmx ⟨FD h2,h3,fun e he=>by obtain ⟨i,hi,rfl⟩:=sQ he; exact h4 i hi⟩
  rw [this,h1]
  refine Ev.cf (dF om) (Ev.an ⟨om,om⟩ (Ev.of ?_))
  rw [j5 h2]; rfl
def LD:Option Event→Bool
 | some e=>e.bO==1
 | none=>false
theorem vW (u:BA):Ev (fun k=>nR.f k d u) (LD (nP u (nf (tb d.fL)) none)):=by
 unfold nR.f
 refine Ev.bind (Gr hg u) ?_
 cases nP u (nf (tb d.fL)) none with
 | none=>exact Ev.cf rfl Ev.pure
 | some e=>exact Ev.ct rfl Ev.pure
end
section
variable {m:bn} {L:List Event} (hg:RG L) (hT:T m=tb L)
include hg hT
theorem Kg (u:BA):Nd (jm (nf (tb L)))∧mget (jm (nf (tb L))) u=oj (nP u (nf (tb L)) none):=by
 have:=J3 (nf (tb L)) (fun e he=>hg.lJ e ((AI hg.vV).mem_iff.1 he)) [] (fun _=>none) yK (fun _=>rfl)
 exact ⟨this.1,this.2 u⟩
theorem oj_is (o:Option Event):decide (0<(oj o).getD 0)=LD o∧((oj o).isSome=LD o):=by
 cases o with
 | none=>exact ⟨rfl,rfl⟩
 | some e=>
  unfold oj LD
  by_cases h:e.bO=1
  ·simp [h]
  ·simp [h]
theorem BY (u:BA):Ev (fun k=>jT.f k m u) (LD (nP u (nf (tb L)) none)):=by
 unfold jT.f
 refine Ev.bind (DZ (rt_of hg hT)) (Ev.of ?_)
 rw [(Kg hg hT u).2,(oj_is hg hT _).1]
end
structure Zz (e:ak):Prop where
 room:e.aa.size≤maxLen
 user:e.ai.size≤maxLen
 event:e.bE.size≤maxLen
 kz:e.ae.size≤maxLen
def mK (s:BA):Bool:=decide (s=eE)||(decide (s=(⟨#[109,97,105,110]⟩:BA))||jW s)
theorem HG {s:BA} (hs:s.size≤maxLen):Ev (fun k=>lE.f k s) (mK s):=by
 unfold lE.f mK
 by_cases h1:s=eE
 ·rw [dT h1]; exact Ev.pure
 ·rw [dF h1]
  by_cases h2:s=(⟨#[109,97,105,110]⟩:BA)
  ·rw [dT h2]; exact Ev.pure
  ·rw [dF h2]; exact Ev.bind (sZ hs) Ev.pure
theorem IV {s:BA} (hs:s.size≤maxLen):Ev (fun k=>mi.f k s) (mK s):=by
 unfold mi.f mK
 refine Ev.bind (oY hs) ?_
 by_cases h1:s=eE
 ·rw [dT h1]; exact Ev.pure
 ·rw [dF h1]
  by_cases h2:s=(⟨#[109,97,105,110]⟩:BA)
  ·rw [dT h2]; exact Ev.pure
  ·rw [dF h2]; exact Ev.pure
theorem Ax {α:Type} {c:Bool} {a b:α}:cond c (some a) (some b)=some (cond c a b):=by cases c <;> rfl
theorem dle {x y:Int}:decide (x≤y) = !decide (y<x):=by
 rw [Bool.eq_iff_iff]; simp
def Lz (e:ak):Bool:=di e.ai 64&&(!decide (e.aT<0) && !decide (1099511627776<e.aT)&&(!decide (e.bf<0) && !decide (1099511627776<e.bf)))
def nV (e:ak):Bool:=
 cond (e.aH==1) (cond (cond (di e.aa 33) (cond (jW e.bE) (mK e.ae) false) false) (cond (!e.j8&&(e.b7==0)&&(e.aM==0)) (cond (di e.ai 64) (!decide (e.aT<0) && !decide (1099511627776<e.aT)&&(!decide (e.bf<0) && !decide (1099511627776<e.bf))) false) false) false)
  (cond (e.aH==2) (cond (di e.aa 33) (cond e.j8 (!decide (e.b7<1) && !decide (60<e.b7)) (e.b7==0)) false&&(((decide (e.bE=eE)&&decide (e.ae=eE))&&((e.aM==0) && !e.ao))&&Lz e))
   (cond (e.aH==3) ((!decide (e.aM<0) && !decide (2<e.aM))&&((((decide (e.aa=eE)&&decide (e.bE=eE))&&decide (e.ae=eE))&&((!e.j8&&(e.b7==0)) && !e.ao))&&Lz e)) false))
theorem F1 {e:ak} (z:Zz e):∃ b,b=nV e∧Ev (fun k=>eP.f k e) b∧Ev (fun k=>fY.f k e) b:=by
 obtain ⟨n1,h1⟩:=EA z.room
 obtain ⟨n2,h2⟩:=FQ z.user
 obtain ⟨n3,h3⟩:=sZ z.event
 obtain ⟨n4,h4⟩:=HG z.kz
 have hn:∀ b,(∀ k,max (max n1 n2) (max n3 n4)≤k→eP.f k e=some b)→Ev (fun k=>eP.f k e) b:=fun b h=>⟨_,h⟩
 have href:∀ b,b=nV e→Ev (fun k=>fY.f k e) b→(∀ k,max (max n1 n2) (max n3 n4)≤k→eP.f k e=some b)→∃ b,b=nV e∧Ev (fun k=>eP.f k e) b∧Ev (fun k=>fY.f k e) b:=fun b hb h h'=>⟨b,hb,hn b h',h⟩
 have hu:=yH (c:=64) dc z.user
 have hr:=yH (c:=33) dc z.room
 have he:=oY z.event
 have ht:=IV z.kz
 obtain ⟨K,ro,us,ev,th,pr,on,sp,st,ti,sm⟩:=e
 simp only at h1 h2 h3 h4 hu hr he ht
 by_cases hk:K=1∨K=2∨K=3
 ·have d1:decide ((1:Int)<0)=false:=rfl
  have d2:decide ((3:Int)<1)=false:=rfl
  have d3:decide ((2:Int)<0)=false:=rfl
  have d4:decide ((3:Int)<2)=false:=rfl
  have d5:decide ((3:Int)<0)=false:=rfl
  have d6:decide ((3:Int)<3)=false:=rfl
  have b1:((1:Int)==1)=true:=rfl
  have b2:((2:Int)==1)=false:=rfl
  have b3:((2:Int)==2)=true:=rfl
  have b4:((3:Int)==1)=false:=rfl
  have b5:((3:Int)==2)=false:=rfl
  have b6:((3:Int)==3)=true:=rfl
  have g:∀ (k:Nat) (i:Int),0≤i→i<4→(0:Int)≤i∧i<(([iL.f,gJ.f k,fun a0_=>fF.f k a0_ cH.f,fun a0_=>fN.f a0_ cH.f]:List (ak→Option Bool)).length:Int):=fun k i h0 h1=>⟨h0,by simpa using h1⟩
  rcases hk with rfl | rfl | rfl
  ·refine href (cond (cond (di ro 33) (cond (jW ev) (mK th) false) false) (cond (!on&&(sp==0)&&(st==0)) (cond (di us 64) (!decide (ti<0) && !decide (1099511627776<ti)&&(!decide (sm<0) && !decide (1099511627776<sm))) false) false) false) rfl ?_ fun k hk=>?_
   ·unfold fY.f
    refine Ev.bind hu (Ev.bind hr (Ev.bind he (Ev.bind ht (Ev.of ?_))))
    simp only [b1,cond_true]
    generalize di us 64=a1
    generalize di ro 33=a2
    generalize jW ev=a3
    generalize mK th=a4
    generalize decide (ti<0)=a5
    generalize decide (1099511627776<ti)=a6
    generalize decide (sm<0)=a7
    generalize decide (1099511627776<sm)=a8
    generalize (sp==0)=a9
    generalize (st==0)=a10
    simp only [Ax]
    congr 1
    cases a1 <;> cases a5 <;> cases a6 <;> cases a7 <;> cases a8 <;> cases a2 <;> cases a3 <;> cases a4 <;> try rfl
    all_goals (cases on <;> cases a9 <;> cases a10 <;> rfl)
   ·have r:=h1 k om
    have u:=h2 k om
    have v:=h3 k om
    have t:=h4 k om
    have e4:iv.at [iL.f,gJ.f k,fun a0_=>fF.f k a0_ cH.f,fun a0_=>fN.f a0_ cH.f] 1=gJ.f k:=rfl
    have eq1:decide ((⟨1,ro,us,ev,th,pr,on,sp,st,ti,sm⟩:ak)=⟨1,ro,us,ev,th,pr,false,0,0,ti,sm⟩)=(!on&&(sp==0)&&(st==0)):=by
     rw [Bool.eq_iff_iff]
     simp only [decide_eq_true_eq,ak.mk.injEq,true_and,and_true,Bool.and_eq_true,beq_iff_eq,Bool.not_eq_true',and_assoc]
    simp only [eP.f,nH.f,Option.bind_some,d1,d2,cond_false]
    simp only [e4,an]
    rw [if_pos (g k 1 dc dc)]
    simp only [Option.bind_some,gJ.f,r,v,t,mq.f,iF.f,b1,cond_true,eq1,u,dle,Ax]
    generalize di us 64=a1
    generalize di ro 33=a2
    generalize jW ev=a3
    generalize mK th=a4
    generalize decide (ti<0)=a5
    generalize decide (1099511627776<ti)=a6
    generalize decide (sm<0)=a7
    generalize decide (1099511627776<sm)=a8
    generalize (!on&&(sp==0)&&(st==0))=a9
    cases a2 <;> cases a3 <;> cases a4 <;> cases a9 <;> cases a1 <;> try rfl
    all_goals (cases a5 <;> cases a6 <;> cases a7 <;> cases a8 <;> rfl)
  ·refine href (cond (di ro 33) (cond on (!decide (sp<1) && !decide (60<sp)) (sp==0)) false&&(((decide (ev=eE)&&decide (th=eE))&&((st==0) && !pr))&&(di us 64&&(!decide (ti<0) && !decide (1099511627776<ti)&&(!decide (sm<0) && !decide (1099511627776<sm)))))) rfl ?_ fun k hk=>?_
   ·unfold fY.f
    refine Ev.bind hu (Ev.bind hr (Ev.bind he (Ev.bind ht (Ev.of ?_))))
    simp only [b2,b3,cond_true,cond_false,dle]
    generalize di us 64=a1
    generalize di ro 33=a2
    generalize decide (ti<0)=a5
    generalize decide (1099511627776<ti)=a6
    generalize decide (sm<0)=a7
    generalize decide (1099511627776<sm)=a8
    generalize (sp==0)=a9
    generalize (st==0)=a10
    generalize decide (sp<1)=a11
    generalize decide (60<sp)=a12
    generalize decide (ev=eE)=a13
    generalize decide (th=eE)=a14
    simp only [Ax]
    congr 1
    cases a1 <;> cases a5 <;> cases a6 <;> cases a7 <;> cases a8 <;> cases a2 <;> cases on <;> simp
    all_goals (cases a9 <;> cases a10 <;> cases a11 <;> cases a12 <;> cases a13 <;> cases a14 <;> rfl)
   ·have r:=h1 k om
    have u:=h2 k om
    have e4:iv.at [iL.f,gJ.f k,fun a0_=>fF.f k a0_ cH.f,fun a0_=>fN.f a0_ cH.f] 2=fun a0_=>fF.f k a0_ cH.f:=rfl
    have eq1:∀ (s:Int) (o:Bool),decide ((⟨2,ro,us,ev,th,pr,o,sp,st,ti,sm⟩:ak)=⟨2,ro,us,⟨#[]⟩,⟨#[]⟩,false,o,s,0,ti,sm⟩)=((decide (ev=⟨#[]⟩)&&decide (th=⟨#[]⟩)&&(st==0) && !pr)&&(sp==s)):=fun s o=>by
     rw [Bool.eq_iff_iff]
     simp only [decide_eq_true_eq,ak.mk.injEq,true_and,and_true,Bool.and_eq_true,beq_iff_eq,Bool.not_eq_true']
     constructor
     ·rintro ⟨h1,h2,h3,h4,h5⟩; exact ⟨⟨⟨⟨h1,h2⟩,h5⟩,h3⟩,h4⟩
     ·rintro ⟨⟨⟨⟨h1,h2⟩,h5⟩,h3⟩,h4⟩; exact ⟨h1,h2,h3,h4,h5⟩
    simp only [eP.f,nH.f,Option.bind_some,d3,d4,cond_false]
    simp only [e4,an]
    rw [if_pos (g k 2 dc dc)]
    simp only [Option.bind_some,fF.f,r,mq.f,iF.f,cH.f,b2,b3,cond_true,cond_false,dle]
    cases on
    all_goals
     simp only [cond_true,cond_false,eq1,beq_self_eq_true,Bool.and_true,Bool.not_true,Bool.not_false,Option.bind_some,u]
     generalize di us 64=a1
     generalize di ro 33=a2
     generalize decide (ti<0)=a5
     generalize decide (1099511627776<ti)=a6
     generalize decide (sm<0)=a7
     generalize decide (1099511627776<sm)=a8
     generalize decide (ev=eE)=a13
     generalize decide (th=eE)=a14
     generalize (st==0)=a10
     generalize (sp==0)=a9
     generalize decide (sp<1)=a11
     generalize decide (60<sp)=a12
     cases a2 <;> cases a9 <;> cases a11 <;> cases a12 <;> cases a1 <;> cases a13 <;> cases a14 <;> cases a10 <;> cases pr <;> try rfl
     all_goals (cases a5 <;> cases a6 <;> cases a7 <;> cases a8 <;> rfl)
  ·refine href ((!decide (st<0) && !decide (2<st))&&((((decide (ro=eE)&&decide (ev=eE))&&decide (th=eE))&&((!on&&(sp==0)) && !pr))&&(di us 64&&(!decide (ti<0) && !decide (1099511627776<ti)&&(!decide (sm<0) && !decide (1099511627776<sm)))))) rfl ?_ fun k hk=>?_
   ·unfold fY.f
    refine Ev.bind hu (Ev.bind hr (Ev.bind he (Ev.bind ht (Ev.of ?_))))
    simp only [b4,b5,b6,cond_true,cond_false,dle]
    generalize di us 64=a1
    generalize decide (ti<0)=a5
    generalize decide (1099511627776<ti)=a6
    generalize decide (sm<0)=a7
    generalize decide (1099511627776<sm)=a8
    generalize (sp==0)=a9
    generalize decide (st<0)=a11
    generalize decide (2<st)=a12
    generalize decide (ev=eE)=a13
    generalize decide (th=eE)=a14
    generalize decide (ro=eE)=a15
    simp only [Ax]
    congr 1
    cases a1 <;> cases a5 <;> cases a6 <;> cases a7 <;> cases a8 <;> simp
    all_goals (cases a9 <;> cases a11 <;> cases a12 <;> cases a13 <;> cases a14 <;> cases a15 <;> cases on <;> cases pr <;> rfl)
   ·have u:=h2 k om
    have e4:iv.at [iL.f,gJ.f k,fun a0_=>fF.f k a0_ cH.f,fun a0_=>fN.f a0_ cH.f] 3=fun a0_=>fN.f a0_ cH.f:=rfl
    have eq1:decide ((⟨3,ro,us,ev,th,pr,on,sp,st,ti,sm⟩:ak)=⟨3,⟨#[]⟩,us,⟨#[]⟩,⟨#[]⟩,false,false,0,st,ti,sm⟩)=(((decide (ro=eE)&&decide (ev=eE))&&decide (th=eE))&&((!on&&(sp==0)) && !pr)):=by
     rw [Bool.eq_iff_iff]
     simp only [decide_eq_true_eq,ak.mk.injEq,true_and,and_true,Bool.and_eq_true,beq_iff_eq,Bool.not_eq_true']
     constructor
     ·rintro ⟨h1,h2,h3,h4,h5,h6⟩; exact ⟨⟨⟨h1,h2⟩,h3⟩,⟨h5,h6⟩,h4⟩
     ·rintro ⟨⟨⟨h1,h2⟩,h3⟩,⟨h5,h6⟩,h4⟩; exact ⟨h1,h2,h3,h4,h5,h6⟩
    simp only [eP.f,nH.f,Option.bind_some,d5,d6,cond_false]
    simp only [e4,an]
    rw [if_pos (g k 3 dc dc)]
    simp only [Option.bind_some,fN.f,mq.f,iF.f,cH.f,b4,b5,b6,cond_true,cond_false,dle,eq1,u]
    generalize di us 64=a1
    generalize decide (ti<0)=a5
    generalize decide (1099511627776<ti)=a6
    generalize decide (sm<0)=a7
    generalize decide (1099511627776<sm)=a8
    generalize decide (st<0)=a11
    generalize decide (2<st)=a12
    generalize (((decide (ro=eE)&&decide (ev=eE))&&decide (th=eE))&&((!on&&(sp==0)) && !pr))=a9
    cases a11 <;> cases a12 <;> cases a9 <;> cases a1 <;> try rfl
    all_goals (cases a5 <;> cases a6 <;> cases a7 <;> cases a8 <;> rfl)
 ·have k1:(K==1)=false:=by rw [beq_eq_false_iff_ne]; omega
  have k2:(K==2)=false:=by rw [beq_eq_false_iff_ne]; omega
  have k3:(K==3)=false:=by rw [beq_eq_false_iff_ne]; omega
  refine href false (by unfold nV; simp only [k1,k2,k3,cond_false]) ?_ fun k hk'=>?_
  ·unfold fY.f
   refine Ev.bind hu (Ev.bind hr (Ev.bind he (Ev.bind ht (Ev.of ?_))))
   simp only [k1,k2,k3,cond_false,Bool.cond_self,Ax]
  ·by_cases c1:K<0
   ·simp only [eP.f,dT c1,cond_true]
   ·by_cases c2:3<K
    ·simp only [eP.f,dT c2,dF c1,cond_true,cond_false]
    ·obtain rfl:K=0:=om
     rfl
theorem zi {e:ak} (z:Zz e):Ev (fun k=>eP.f k e) (nV e)∧Ev (fun k=>fY.f k e) (nV e):=by
 obtain ⟨b,rfl,h1,h2⟩:=F1 z
 exact ⟨h1,h2⟩
def BL (e:ak):Bool:=cond (nV e) (!e.ao) false
theorem mr {e:ak} (z:Zz e):Ev (fun k=>mD.f k e) (BL e)∧Ev (fun k=>mH.f k e) (BL e):=by
 obtain ⟨h1,h2⟩:=zi z
 unfold BL
 constructor
 ·unfold mD.f; refine Ev.bind h1 ?_; cases nV e <;> exact Ev.pure
 ·unfold mH.f; refine Ev.bind h2 ?_; cases nV e <;> exact Ev.pure
structure GE (e:ak):Prop where
 kind:e.aH=1∨e.aH=2∨e.aH=3
 user:e.ai∈ma
 room:e.aH≠3→e.aa∈iV
 C8:e.aH=3→e.aa=⟨#[]⟩
 event:e.aH=1→∃ j,j<9∧e.bE=mU j
 yR:e.aH≠1→e.bE=⟨#[]⟩
 kz:e.aH=1→e.ae=⟨#[]⟩∨e.ae=⟨#[109,97,105,110]⟩∨∃ j,j<9∧e.ae=mU j
 qQ:e.aH≠1→e.ae=⟨#[]⟩
 tS:e.aH≠1→e.ao=false
 on:e.aH≠2→e.j8=false
 zq:e.j8=false→e.b7=0
 Ar:e.j8=true→1≤e.b7∧e.b7≤60
 BR:e.aH≠3→e.aM=0
 state:0≤e.aM∧e.aM≤2
 tick:0≤e.aT∧e.aT<100
 rB:0≤e.bf∧e.bf<9
theorem qV {u:BA} (h:u∈ma):di u 64=true∧u.size=5:=by
 have:∀ u∈ma,di u 64=true∧u.size=5:=by decide +kernel
 exact this u h
theorem pI {u:BA} (h:u∈iV):di u 33=true∧u.size=5:=by
 have:∀ u∈iV,di u 33=true∧u.size=5:=by decide +kernel
 exact this u h
theorem GE.zz {e:ak} (h:GE e):Zz e:=by
 refine ⟨?_,?_,?_,?_⟩
 ·by_cases k:e.aH=3
  ·rw [h.C8 k]; exact Nat.zero_le _
  ·rw [(pI (h.room k)).2]; decide
 ·rw [(qV h.user).2]; decide
 ·by_cases k:e.aH=1
  ·obtain ⟨j,_,ej⟩:=h.event k; rw [ej]; exact pV j
  ·rw [h.yR k]; exact Nat.zero_le _
 ·by_cases k:e.aH=1
  ·rcases h.kz k with ej | ej | ⟨j,_,ej⟩ <;> rw [ej]
   ·exact Nat.zero_le _
   ·show 4≤maxLen; decide
   ·exact pV j
  ·rw [h.qQ k]; exact Nat.zero_le _
theorem GE.Lz {e:ak} (h:GE e):Lz e=true:=by
 unfold Proofs.YtfknmdelgepbjaaGreatDoor.Lz
 have a:=h.tick
 have b:=h.rB
 simp [(qV h.user).1]
 omega
theorem GE.local {e:ak} (h:GE e):nV e=true:=by
 have ho:=h.Lz
 have hu:=(qV h.user).1
 have a:=h.tick
 have b:=h.rB
 unfold nV
 rcases h.kind with k | k | k
 ·have e1:(e.aH==1)=true:=by rw [k]; rfl
  have n2:e.aH≠2:=om
  have n3:e.aH≠3:=om
  obtain ⟨j,hj,ej⟩:=h.event k
  have hth:mK e.ae=true:=by
   unfold mK
   rcases h.kz k with ej | ej | ⟨j,hj,ej⟩
   ·simp [ej]
   ·simp [ej]
   ·simp [ej,vN j hj]
  have c1:decide (e.aT<0)=false:=by rw [decide_eq_false_iff_not]; omega
  have c2:decide (1099511627776<e.aT)=false:=by rw [decide_eq_false_iff_not]; omega
  have c3:decide (e.bf<0)=false:=by rw [decide_eq_false_iff_not]; omega
  have c4:decide (1099511627776<e.bf)=false:=by rw [decide_eq_false_iff_not]; omega
  rw [e1,ej,vN j hj,hth,hu,c1,c2,c3,c4,h.on n2,h.zq (h.on n2),h.BR n3,(pI (h.room n3)).1]
  rfl
 ·have e1:(e.aH==1)=false:=by rw [k]; rfl
  have e2:(e.aH==2)=true:=by rw [k]; rfl
  have n1:e.aH≠1:=om
  have n3:e.aH≠3:=om
  rw [e1,e2,ho,h.yR n1,h.qQ n1,h.tS n1,h.BR n3,(pI (h.room n3)).1]
  cases o:e.j8 with
  | false=>rw [h.zq o]; rfl
  | true=>
   have:=h.Ar o
   rw [show decide (e.b7<1)=false by rw [decide_eq_false_iff_not]; omega,show decide (60<e.b7)=false by rw [decide_eq_false_iff_not]; omega]
   rfl
 ·have e1:(e.aH==1)=false:=by rw [k]; rfl
  have e2:(e.aH==2)=false:=by rw [k]; rfl
  have e3:(e.aH==3)=true:=by rw [k]; rfl
  have n1:e.aH≠1:=om
  have n2:e.aH≠2:=om
  have c:=h.state
  rw [e1,e2,e3,ho,h.yR n1,h.qQ n1,h.tS n1,h.on n2,h.zq (h.on n2),h.C8 k,show decide (e.aM<0)=false by rw [decide_eq_false_iff_not]; omega,show decide (2<e.aM)=false by rw [decide_eq_false_iff_not]; omega]
  rfl
theorem GE.may {e:ak} (h:GE e):BL e = !e.ao:=by unfold BL; rw [h.local]; rfl
theorem Fi (x:Int):Hc (av x):=by
 unfold Hc
 simp only [av,IntKind.wrap,IntKind.signed,IntKind.bits]
 simp
 constructor <;> omega
theorem vJ {n:Int} (hn:Hc n):∃ j,j<9∧Ev (fun k=>dj.f k n) (mU j):=by
 obtain ⟨m,h1,h2,h3⟩:=eM (m:=9) hn dc dc
 obtain ⟨k,hk,rfl⟩:=int_lt (n:=9) h2 h3
 refine ⟨k,hk,?_⟩
 have h:=jx k hk
 unfold dj.f at h ⊢
 rw [show (9:Int)=((9:Nat):Int) from rfl,sk hk dc] at h
 rw [h1]
 exact h
theorem zL {n:Int} (hn:Hc n):∃ r,Ev (fun k=>gP.f k n) r∧(r=⟨#[]⟩∨r=⟨#[109,97,105,110]⟩∨∃ j,j<9∧r=mU j):=by
 obtain ⟨m,h1,h2,h3⟩:=eM (m:=11) hn dc dc
 unfold gP.f
 by_cases e1:m=9
 ·exact ⟨_,Ev.bind (Ev.of h1) (Ev.ct (by simp [e1]) Ev.pure),.inl rfl⟩
 ·by_cases e2:m=10
  ·exact ⟨_,Ev.bind (Ev.of h1) (Ev.cf (by simp [e1]) (Ev.ct (by simp [e2]) Ev.pure)),.inr (.inl rfl)⟩
  ·obtain ⟨j,hj,hr⟩:=vJ (n:=m) ⟨om,om⟩
   exact ⟨_,Ev.bind (Ev.of h1) (Ev.cf (by simp [e1]) (Ev.cf (by simp [e2]) (Ev.bind hr Ev.pure))),.inr (.inr ⟨j,hj,rfl⟩)⟩
theorem I1 {a:ak} (h:ak.ok a):∃ e,Ev (fun k=>kU.f k a) e∧GE e∧(a.aH=0→e.aH=1)∧(e.aH=1→e.ao=a.ao):=by
 obtain ⟨c1,c2,c3,c4,c5,c6,c7,c8,c9,c10,c11,_⟩:=h
 obtain ⟨m,h1,h2,h3⟩:=eM (m:=3) (jY c1) dc dc
 obtain ⟨u,u1,u2⟩:=qK (jY c9)
 obtain ⟨t,t1,t2,t3⟩:=eM (m:=100) (jY c10) dc dc
 obtain ⟨s,s1,s2,s3⟩:=eM (m:=9) (jY c11) dc dc
 obtain ⟨ro,r1,r2⟩:=D0 (jY c8)
 obtain ⟨t9,y1,y2,y3⟩:=eM (m:=9) (jY c10) dc dc
 obtain ⟨ej,ej9,e1⟩:=vJ (n:=av ((a.bE.size:Int)+t9)) (Fi _)
 obtain ⟨th,f1,f2⟩:=zL (n:=(a.ae.size:Int)) ⟨om,by have h:a.ae.size≤2 ^ 63-1:=c5; omega⟩
 obtain ⟨sp,p1,p2,p3⟩:=eM (m:=60) (jY c8) dc dc
 obtain ⟨st,q1,q2,q3⟩:=eM (m:=3) (jY c8) dc dc
 have hk0:a.aH=0→m=0:=fun h0=>by
  rw [h0] at h1
  have:aS.f 0 3=some 0:=rfl
  rw [this] at h1
  exact (Option.some.inj h1).symm
 have hw:av (1+m)=1+m:=aI om om
 have hsp:av (1+sp)=1+sp:=aI om om
 have key:∀ e,(∀ k,kU.f k a=cond ((1+m)==1) ((dj.f k (av ((a.bE.size:Int)+t9))).bind fun t666=>(gP.f k (a.ae.size:Int)).bind fun t668=>some (⟨1+m,ro,u,t666,t668,a.ao,false,0,0,t,s⟩:ak)) (cond ((1+m)==2) (cond a.j8 (some (⟨1+m,ro,u,eE,eE,false,a.j8,1+sp,0,t,s⟩:ak)) (some (⟨1+m,ro,u,eE,eE,false,a.j8,0,0,t,s⟩:ak))) (some (⟨1+m,eE,u,eE,eE,false,false,0,st,t,s⟩:ak))))→
   Ev (fun k=>cond ((1+m)==1) ((dj.f k (av ((a.bE.size:Int)+t9))).bind fun t666=>(gP.f k (a.ae.size:Int)).bind fun t668=>some (⟨1+m,ro,u,t666,t668,a.ao,false,0,0,t,s⟩:ak)) (cond ((1+m)==2) (cond a.j8 (some (⟨1+m,ro,u,eE,eE,false,a.j8,1+sp,0,t,s⟩:ak)) (some (⟨1+m,ro,u,eE,eE,false,a.j8,0,0,t,s⟩:ak))) (some (⟨1+m,eE,u,eE,eE,false,false,0,st,t,s⟩:ak)))) e→Ev (fun k=>kU.f k a) e:=fun e he hv=>hv.eq he
 have hf:∀ k,kU.f k a=cond ((1+m)==1) ((dj.f k (av ((a.bE.size:Int)+t9))).bind fun t666=>(gP.f k (a.ae.size:Int)).bind fun t668=>some (⟨1+m,ro,u,t666,t668,a.ao,false,0,0,t,s⟩:ak)) (cond ((1+m)==2) (cond a.j8 (some (⟨1+m,ro,u,eE,eE,false,a.j8,1+sp,0,t,s⟩:ak)) (some (⟨1+m,ro,u,eE,eE,false,a.j8,0,0,t,s⟩:ak))) (some (⟨1+m,eE,u,eE,eE,false,false,0,st,t,s⟩:ak))):=fun k=>by
  simp only [kU.f,h1,u1,t1,s1,r1,y1,p1,q1,Option.bind_some,hw,hsp]
 rcases (show m=0∨m=1∨m=2 by omega) with rfl | rfl | rfl
 ·refine ⟨⟨1,ro,u,mU ej,th,a.ao,false,0,0,t,s⟩,key _ hf (Ev.ct rfl (Ev.bind e1 (Ev.bind f1 Ev.pure))),?_,fun _=>rfl,fun _=>rfl⟩
  exact ⟨.inl rfl,u2,fun _=>r2,fun h=>(by cases h),fun _=>⟨ej,ej9,rfl⟩,fun h=>absurd rfl h,fun _=>f2,fun h=>absurd rfl h,fun h=>absurd rfl h,fun _=>rfl,fun _=>rfl,nofun,fun _=>rfl,⟨Int.le_refl 0,show (0:Int)≤2 by decide⟩,⟨t2,t3⟩,⟨s2,s3⟩⟩
 ·cases ho:a.j8 with
  | true=>
   refine ⟨⟨2,ro,u,⟨#[]⟩,⟨#[]⟩,false,true,1+sp,0,t,s⟩,key _ hf (Ev.cf rfl (Ev.ct rfl (Ev.ct ho (Ev.of (by rw [ho]; rfl))))),?_,fun h=>(by have:=hk0 h; omega),fun h=>(by cases h)⟩
   exact ⟨.inr (.inl rfl),u2,fun _=>r2,fun h=>(by cases h),fun h=>(by cases h),fun _=>rfl,fun h=>(by cases h),fun _=>rfl,fun _=>rfl,fun h=>absurd rfl h,nofun,fun _=>⟨by show 1≤1+sp; omega,by show 1+sp≤60; omega⟩,fun _=>rfl,⟨Int.le_refl 0,show (0:Int)≤2 by decide⟩,⟨t2,t3⟩,⟨s2,s3⟩⟩
  | false=>
   refine ⟨⟨2,ro,u,⟨#[]⟩,⟨#[]⟩,false,false,0,0,t,s⟩,key _ hf (Ev.cf rfl (Ev.ct rfl (Ev.cf ho (Ev.of (by rw [ho]; rfl))))),?_,fun h=>(by have:=hk0 h; omega),fun h=>(by cases h)⟩
   exact ⟨.inr (.inl rfl),u2,fun _=>r2,fun h=>(by cases h),fun h=>(by cases h),fun _=>rfl,fun h=>(by cases h),fun _=>rfl,fun _=>rfl,fun _=>rfl,fun _=>rfl,nofun,fun _=>rfl,⟨Int.le_refl 0,show (0:Int)≤2 by decide⟩,⟨t2,t3⟩,⟨s2,s3⟩⟩
 ·refine ⟨⟨3,⟨#[]⟩,u,⟨#[]⟩,⟨#[]⟩,false,false,0,st,t,s⟩,key _ hf (Ev.cf rfl (Ev.cf rfl (Ev.of rfl))),?_,fun h=>(by have:=hk0 h; omega),fun h=>(by cases h)⟩
  exact ⟨.inr (.inr rfl),u2,fun h=>absurd rfl h,fun _=>rfl,fun h=>(by cases h),fun _=>rfl,fun h=>(by cases h),fun _=>rfl,fun _=>rfl,fun _=>rfl,fun _=>rfl,nofun,fun h=>absurd rfl h,⟨q2,by show st≤2; omega⟩,⟨t2,t3⟩,⟨s2,s3⟩⟩
theorem GE.JW {e:ak} (h:GE e):e.aa.size<128∧e.ai.size<128∧e.bE.size<128∧e.ae.size<128:=by
 refine ⟨?_,?_,?_,?_⟩
 ·by_cases k:e.aH=3
  ·rw [h.C8 k]; show 0<128; omega
  ·rw [(pI (h.room k)).2]; decide
 ·rw [(qV h.user).2]; decide
 ·by_cases k:e.aH=1
  ·obtain ⟨j,_,ej⟩:=h.event k; rw [ej]; show 3<128; omega
  ·rw [h.yR k]; show 0<128; omega
 ·by_cases k:e.aH=1
  ·rcases h.kz k with ej | ej | ⟨j,_,ej⟩ <;> rw [ej]
   ·show 0<128; omega
   ·show 4<128; omega
   ·show 3<128; omega
  ·rw [h.qQ k]; show 0<128; omega
theorem vA (a b:BA):(a++b).data.toList=a.data.toList++b.data.toList:=by simp [ByteArray.data_append]
theorem xA {a b:BA} (h:a.data.toList=b.data.toList):a=b:=by
 obtain ⟨⟨a⟩⟩:=a; obtain ⟨⟨b⟩⟩:=b; simp at h; subst h; rfl
def wi (s:BA):Prop:=∀ x∈s.data.toList,x≠32
theorem Is {s:BA} (h:∀ i:Nat,i<s.size→bt s (i:Int)≠32):wi s:=fun x hx e=>by
 obtain ⟨i,hi,hx⟩:=List.mem_iff_getElem.1 hx
 have hi':i<s.data.size:=by simpa using hi
 refine h i hi' ?_
 unfold bt
 rw [Int.toNat_natCast,Array.getD_eq_getD_getElem?,Array.getElem?_eq_getElem hi']
 have:s.data[i]=x:=by rw [← hx]; simp
 simp only [Option.getD_some,this,e]
 rfl
theorem Fa:∀ {L L' M M':List UInt8},(∀ x∈L,x≠32)→(∀ x∈L',x≠32)→L++32::M=L'++32::M'→L=L'∧M=M'
 | [],[],M,M',_,_,h=>by simpa using h
 | [],y::L',M,M',_,h2,h=>by simp at h; exact absurd h.1.symm (h2 y (List.mem_cons_self ..))
 | x::L,[],M,M',h1,_,h=>by simp at h; exact absurd h.1 (h1 x (List.mem_cons_self ..))
 | x::L,y::L',M,M',h1,h2,h=>by
  simp only [List.cons_append,List.cons.injEq] at h
  obtain ⟨a,b⟩:=Fa (fun z hz=>h1 z (List.mem_cons_of_mem _ hz)) (fun z hz=>h2 z (List.mem_cons_of_mem _ hz)) h.2
  exact ⟨by rw [h.1,a],b⟩
theorem rG (a b:BA):((a++(⟨#[32]⟩:BA))++b).data.toList=a.data.toList++32::b.data.toList:=by
 rw [vA,vA]; simp
theorem key_inj {a b a' b':BA} (ha:wi a) (ha':wi a') (h:(a++(⟨#[32]⟩:BA))++b=(a'++(⟨#[32]⟩:BA))++b'):a=a'∧b=b':=by
 have h1:=congrArg (fun s:BA=>s.data.toList) h
 simp only [rG] at h1
 obtain ⟨e1,e2⟩:=Fa ha ha' h1
 exact ⟨xA e1,xA e2⟩
theorem uH {s:BA} {c:UInt8} (hc:c≠32) (h:di s c=true):wi s:=Is fun i hi=>by
 have hcc:(c.toNat:Int)≠32:=fun h=>hc (UInt8.toNat_inj.1 (by exact_mod_cast h))
 unfold di at h
 split at h
 ·rename_i h0
  simp only at h
  split at h
  ·rename_i h1
   have hft:=rl (s.extract 1 s.size) 58
   rw [show (((58:UInt8).toNat:Int))=58 from rfl] at hft
   rcases hft with ⟨e,_⟩ | ⟨j,e,j1,j2,_⟩
   ·omega
   ·rw [e,Int.toNat_natCast,Bool.and_eq_true] at h
    obtain ⟨p1,p2⟩:=h
    have hsz:(s.extract 1 s.size).size=s.size-1:=iW (Nat.le_refl _)
    have cP:∀ x:Int,Ep x=true→x≠32:=fun x hx e=>by subst e; exact absurd hx dc
    have cS:∀ x:Int,Ha x=true→x≠32:=fun x hx e=>by subst e; exact absurd hx dc
    rcases Nat.eq_zero_or_pos i with rfl | hpos
    ·rw [show ((0:Nat):Int)=0 from rfl,h0.2]; exact hcc
    ·obtain ⟨m,rfl⟩:∃ m,i=1+m:=⟨i-1,om⟩
     have hb:bt (s.extract 1 s.size) (m:Int)=bt s ((1+m:Nat):Int):=pO om (Nat.le_refl _)
     rw [← hb]
     rcases Nat.lt_trichotomy m j with hm | hm | hm
     ·unfold rn at p1
      rw [Bool.and_eq_true] at p1
      have:=km.1 p1.1 m (Nat.zero_le _) (by rw [iW om]; omega)
      have:=cP _ this
      rwa [pO om om,Nat.zero_add] at this
     ·subst hm; rw [j2]; decide
     ·unfold oX rn at p2
      rw [Bool.and_eq_true,Bool.and_eq_true] at p2
      have:=km.1 p2.1.1 (m-(j+1)) (Nat.zero_le _) (by rw [iW (Nat.le_refl _)]; omega)
      have:=cS _ this
      rwa [pO om (Nat.le_refl _),show j+1+(m-(j+1))=m by omega] at this
  ·cases h
 ·cases h
set_option maxRecDepth 100000
def ths:List BA:=⟨#[]⟩::⟨#[109,97,105,110]⟩::(List.range 9).map mU
def allK:List bB:=iV.flatMap fun r=>ma.flatMap fun u=>ths.flatMap fun t=>[⟨r,u,t,false⟩,⟨r,u,t,true⟩]
structure Kx (x:bB):Prop where
 room:x.aa∈iV
 user:x.ai∈ma
 kz:x.ae∈ths
theorem Kx.mem {x:bB} (h:Kx x):x∈allK:=by
 obtain ⟨r,u,t,p⟩:=x
 refine List.mem_flatMap.2 ⟨r,h.room,List.mem_flatMap.2 ⟨u,h.user,List.mem_flatMap.2 ⟨t,h.kz,?_⟩⟩⟩
 cases p <;> simp
def J:BA→List BA→BA
 | a,[]=>a
 | a,b::l=>(a++⟨#[32]⟩)++J b l
def q8 (p:Bool):BA:=cond p ⟨#[49]⟩ ⟨#[48]⟩
def nS (x:bB):BA:=J ⟨#[109]⟩ [x.aa,x.ai,x.ae,q8 x.ao]
def DM (r:BA):BA:=J ⟨#[116]⟩ [r]
def DW (u:BA):BA:=J ⟨#[112]⟩ [u]
theorem Ia:(allK.all fun x=>decide (iC.f x=some (nS x))&&(decide (kH.f ⟨1,x,⟨#[]⟩⟩=some (nS x))&&(decide (DG (nS x) 32=4)&&decide ((nS x).size≤40))))=true:=kr
theorem BH {x:bB} (h:Kx x):iC.f x=some (nS x)∧kH.f ⟨1,x,⟨#[]⟩⟩=some (nS x)∧DG (nS x) 32=4∧(nS x).size≤40:=by
 have:=List.all_eq_true.1 Ia x h.mem
 simpa using this
theorem Aq:∀ r∈iV,jt.f r=some (DM r)∧kH.f ⟨2,⟨⟨#[]⟩,⟨#[]⟩,⟨#[]⟩,false⟩,r⟩=some (DM r)∧DG (DM r) 32=1∧(DM r).size≤40:=by decide +kernel
theorem AU:∀ r∈ma,jI.f r=some (DW r)∧kH.f ⟨3,⟨⟨#[]⟩,⟨#[]⟩,⟨#[]⟩,false⟩,r⟩=some (DW r)∧DG (DW r) 32=1∧(DW r).size≤40:=by decide +kernel
theorem rO {s:BA} (h:(s.data.toList.all fun x=>x != 32)=true):wi s:=fun x hx=>by simpa using List.all_eq_true.1 h x hx
theorem A9:∀ r∈iV,wi r:=fun r hr=>rO (by revert r; decide +kernel)
theorem B6:∀ r∈ma,wi r:=fun r hr=>rO (by revert r; decide +kernel)
theorem Gl:∀ r∈ths,wi r:=fun r hr=>rO (by revert r; decide +kernel)
theorem JQ:∀ {l m:List UInt8},(∀ x∈l,x≠32)→Lib.indexByte (l++32::m) 32=(l.length:Int)
 | [],m,_=>by simp [Lib.indexByte]
 | a::l,m,h=>by
  have h1:=JQ (l:=l) (m:=m) fun x hx=>h x (List.mem_cons_of_mem _ hx)
  have h2:(a==32)=false:=by simpa using h a List.mem_cons_self
  rw [List.cons_append,Lib.indexByte,h2,h1]
  have h3:((l.length:Int) == -1)=false:=by rw [beq_eq_false_iff_ne]; omega
  rw [h3]; simp
theorem Kz {a r:BA} (h:wi a):gT.f ((a++⟨#[32]⟩)++r) ⟨#[32]⟩=some (a.size:Int):=by
 unfold gT.f
 rw [wU]
 have e:l7 ((a++⟨#[32]⟩)++r) ((32:UInt8).toNat:Int)=(a.size:Int):=by
  show Lib.indexByte ((a++⟨#[32]⟩)++r).data.toList 32=_
  rw [rG,JQ h]; rfl
 rw [e]; rfl
theorem Gj (s:BA) (i j:Nat):(s.extract i j).data.toList=(s.data.toList.take j).drop i:=by
 simp [ByteArray.data_extract,List.drop_take]
theorem cut1 (a r:BA):((a++⟨#[32]⟩)++r).extract 0 a.size=a:=xA (by
 rw [Gj,rG,List.drop_zero]
 show List.take a.data.toList.length _=_
 simp)
theorem cut2 (a r:BA):((a++⟨#[32]⟩)++r).extract (a.size+1) ((a++⟨#[32]⟩)++r).size=r:=xA (by
 rw [Gj]
 have e:((a++⟨#[32]⟩)++r).size=((a++⟨#[32]⟩)++r).data.toList.length:=rfl
 rw [e,List.take_length,rG]
 show List.drop (a.data.toList.length+1) _=_
 rw [← List.drop_drop]; simp)
section
variable {k:Nat} {s0:BA} {p:Int} {B:Nat} (hB:av ((min p (av ((s0.size:Int)+1)))-1)=(B:Int))
include hB
theorem pF {j i:Nat} {a r:BA} {out:List BA} (ha:wi a) (h1:a.size≤1000) (hi:i<B) (hb:B≤1000) (ho:i<out.length):
  strings_genSplit.l0 k s0 ⟨#[32]⟩ 0 p (j+1) ((a++⟨#[32]⟩)++r) (i:Int) out=strings_genSplit.l0 k s0 ⟨#[32]⟩ 0 p j r ((i+1:Nat):Int) (out.set i a):=by
 rw [strings_genSplit.l0,hB,dT (by omega:(i:Int)<(B:Int)),Kz ha]
 have e1:(⟨#[32]⟩:BA).size=1:=rfl
 have e2:av ((a.size:Int)+0)=(a.size:Int):=by rw [Int.add_zero,aI om om]
 have e3:av ((a.size:Int)+((1:Nat):Int))=((a.size+1:Nat):Int):=by rw [aI om om]; omega
 have e4:av ((i:Int)+1)=((i+1:Nat):Int):=by rw [aI om om]; omega
 have hs:((a++⟨#[32]⟩)++r).size=a.size+1+r.size:=by rw [ByteArray.size_append,ByteArray.size_append]; rfl
 simp only [cond_true,Option.bind_some]
 rw [dF (by omega:¬ (a.size:Int)<0),e1,e2,e3,e4,cond_false]
 unfold an
 rw [if_pos ⟨om,om,om⟩,if_pos ⟨om,om⟩,if_pos ⟨om,om,Nat.le_refl _⟩]
 simp only [Int.toNat_natCast]
 rw [cut1,cut2]
theorem Dy {j:Nat} {x:BA} {out:List BA}:strings_genSplit.l0 k s0 ⟨#[32]⟩ 0 p (j+1) x (B:Int) out=some (x,(B:Int),false,out):=by
 rw [strings_genSplit.l0,hB,dF (by omega:¬ (B:Int)<(B:Int))]; rfl
end
theorem Ib {x:bB} (h:Kx x):Ev (fun k=>nv.f k (nS x)) (.d89 x):=by
 obtain ⟨_,_,hc,hsz⟩:=BH h
 have hl:(nS x).size=16+x.ae.size:=by
  have r:=(pI h.room).2; have u:=(qV h.user).2
  show (J ⟨#[109]⟩ [x.aa,x.ai,x.ae,q8 x.ao]).size=_
  have l:(q8 x.ao).size=1:=by cases x.ao <;> rfl
  simp only [J,ByteArray.size_append,r,u,l]
  show 1+1+(5+1+(5+1+(x.ae.size+1+1)))=_
  omega
 refine Ev.add 10 fun m=>?_
 unfold nv.f kT.f strings_genSplit.f strings_Count.f
 have e1:(⟨#[32]⟩:BA).size=1:=rfl
 have e0:bt (⟨#[32]⟩:BA) 0=32:=rfl
 have hB:av ((min (av (4+1)) (av (((nS x).size:Int)+1)))-1)=((4:Nat):Int):=by
  rw [aI (x:=4+1) om om,aI (x:=((nS x).size:Int)+1) om om,aI om om]; omega
 have hm:min (av (4+1)) (av (((nS x).size:Int)+1))=5:=by
  rw [aI (x:=4+1) om om,aI (x:=((nS x).size:Int)+1) om om]; omega
 have hk:nS x=(((⟨#[109]⟩:BA)++⟨#[32]⟩)++((x.aa++⟨#[32]⟩)++((x.ai++⟨#[32]⟩)++((x.ae++⟨#[32]⟩)++q8 x.ao)))):=rfl
 have r5:=(pI h.room).2; have u5:=(qV h.user).2
 have s1:=pF (k:=m+10) (s0:=nS x) (p:=av (4+1)) (B:=4) hB (j:=m+9) (i:=0) (a:=⟨#[109]⟩) (r:=((x.aa++⟨#[32]⟩)++((x.ai++⟨#[32]⟩)++((x.ae++⟨#[32]⟩)++q8 x.ao)))) (out:=List.replicate 5 ⟨#[]⟩) (rO (by decide +kernel)) dc om om sM
 have s2:=pF (k:=m+10) (s0:=nS x) (p:=av (4+1)) (B:=4) hB (j:=m+8) (i:=1) (a:=x.aa) (r:=((x.ai++⟨#[32]⟩)++((x.ae++⟨#[32]⟩)++q8 x.ao))) (out:=(List.replicate 5 ⟨#[]⟩).set 0 ⟨#[109]⟩) (A9 _ h.room) om om om sM
 have s3:=pF (k:=m+10) (s0:=nS x) (p:=av (4+1)) (B:=4) hB (j:=m+7) (i:=2) (a:=x.ai) (r:=((x.ae++⟨#[32]⟩)++q8 x.ao)) (out:=((List.replicate 5 ⟨#[]⟩).set 0 ⟨#[109]⟩).set 1 x.aa) (B6 _ h.user) om om om sM
 have s4:=pF (k:=m+10) (s0:=nS x) (p:=av (4+1)) (B:=4) hB (j:=m+6) (i:=3) (a:=x.ae) (r:=q8 x.ao) (out:=(((List.replicate 5 ⟨#[]⟩).set 0 ⟨#[109]⟩).set 1 x.aa).set 2 x.ai) (Gl _ h.kz) om om om sM
 have s5:=Dy (k:=m+10) (s0:=nS x) (p:=av (4+1)) (B:=4) hB (j:=m+5) (x:=q8 x.ao) (out:=((((List.replicate 5 ⟨#[]⟩).set 0 ⟨#[109]⟩).set 1 x.aa).set 2 x.ai).set 3 x.ae)
 rw [← hk] at s1
 have s:=s1.trans (s2.trans (s3.trans (s4.trans s5)))
 have s':strings_genSplit.l0 (m+10) (nS x) ⟨#[32]⟩ 0 (av (4+1)) (m+10) (nS x) 0 (List.replicate (5:Int).toNat ⟨#[]⟩)=some (q8 x.ao,4,false,[⟨#[109]⟩,x.aa,x.ai,x.ae,⟨#[]⟩]):=s
 have gp:∀ {α:Type} {p:Prop} [Decidable p] (h:p) (x:Option α),an p x=x:=fun h x=>if_pos h
 simp only [show (-1==(0:Int))=false from rfl,show decide ((-1:Int)<0)=true from rfl,show decide ((⟨#[32]⟩:BA)=⟨#[]⟩)=false from rfl,e1,e0,hc,show (((1:Nat):Int)==0)=false from rfl,show (((1:Nat):Int)==1)=true from rfl,cond_true,cond_false]
 rw [gp dc]
 simp only [Option.bind_some]
 rw [hm,gp dc,s']
 simp only [Option.bind_some]
 rw [gp ⟨dc,(by decide:(4:Int)<((5:Nat):Int))⟩,gp ⟨dc,dc,(by decide:(av (4+1)).toNat≤5)⟩]
 simp only [Option.bind_some]
 obtain ⟨r,u,t,p⟩:=x
 cases p <;> rfl
theorem HE:∀ r∈iV,Ev (fun k=>nv.f k (DM r)) (.d141 r):=fun r hr=>by
 simp only [iV,List.mem_cons,List.not_mem_nil,or_false] at hr
 rcases hr with rfl | rfl <;> exact Ev.add 20 fun m=>kr
theorem Ip:∀ r∈ma,Ev (fun k=>nv.f k (DW r)) (.d143 r):=fun r hr=>by
 simp only [ma,List.mem_cons,List.not_mem_nil,or_false] at hr
 rcases hr with rfl | rfl | rfl | rfl | rfl | rfl | rfl | rfl | rfl <;> exact Ev.add 20 fun m=>kr
end Go.Proofs.YtfknmdelgepbjaaGreatDoor
