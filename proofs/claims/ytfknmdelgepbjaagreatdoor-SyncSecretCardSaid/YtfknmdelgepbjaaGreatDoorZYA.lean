import Derived.Test.YtfknmdelgepbjaaGreatDoorZVF
import Derived.Test.YtfknmdelgepbjaaGreatDoorZMA
import Derived.Test.YtfknmdelgepbjaaGreatDoorZVG
import Derived.Test.YtfknmdelgepbjaaGreatDoorZVC
set_option linter.all false
set_option maxRecDepth 10000
namespace Go.Proofs.YtfknmdelgepbjaaGreatDoor
open Go Go.Sp
structure RG (L:List Event):Prop where
 zk:Good L
 par:∀ e∈L,e.ag.length≤4
 lh:∀ e∈L,e.bR=0∨e.bR=1∨e.bR=2
 usr:∀ e∈L,e.ai.size≤maxLen
 len:L.length≤1000
theorem rt_of {m:bf} {L:List Event} (h:RG L) (hT:T m=tb L):RT m (tb L):=
 ⟨hT,yG h.zk,tb_id L,fun x hx=>h.par _ (by rw [← AW L]; exact List.mem_map.2 ⟨x,hx,rfl⟩),by rw [FR]; exact h.len⟩
theorem Dw (p q:Pos):kQ.f p q=some (ltOf iQ p q):=by
 unfold kQ.f
 have h:=xZ p q
 by_cases h1:p.bq<q.bq
 ·rw [dT h1,(h.2 (.inl h1))]; rfl
 ·rw [dF h1]
  by_cases h2:p.bq=q.bq
  ·rw [show (p.bq==q.bq)=true by simp [h2]]
   show some (dO p.cJ q.cJ)=_
   congr 1
   rw [Bool.eq_iff_iff,h]
   exact ⟨fun k=>.inr ⟨h2,k⟩,fun k=>k.elim (fun k=>absurd k h1) (·.2)⟩
  ·rw [show (p.bq==q.bq)=false by simp [h2]]
   show some false=_
   congr 1
   cases e:ltOf iQ p q with
   | false=>rfl
   | true=>
        rcases h.1 e with k | k
        ·exact absurd k h1
        ·exact absurd k.1 h2
def zeroE:Event:=⟨⟨#[]⟩,⟨#[]⟩,[],⟨#[]⟩,⟨#[]⟩,0⟩
def pr:Option Event→Event×Bool
 | some e=>(e,true)
 | none=>(zeroE,false)
section
variable {d:aQ} (hg:RG d.fL)
include hg
theorem GY (id:BA):Ev (fun k=>gI.f k d id) (pos (tb d.fL) id):=
 Kc hg.zk (by have:=hg.len; omega) (fun i hi=>by have:=hg.par _ (Ke hi); show _≤9223372036854775807; omega) id
def isJ:Option Event→Bool
 | some e=>e.bR==1
 | none=>false
end
section
variable {m:bf} {L:List Event} (hg:RG L) (hT:T m=tb L)
include hg hT
theorem Kk (u:BA):Nd (jm (sH (tb L)))∧mget (jm (sH (tb L))) u=oj (Ad u (sH (tb L)) none):=by
 have:=Jo (sH (tb L)) (fun e he=>hg.lh e ((D2 hg.zk).mem_iff.1 he)) [] (fun _=>none) yU (fun _=>rfl)
 exact ⟨this.1,this.2 u⟩
theorem oj_is (o:Option Event):decide (0<(oj o).getD 0)=isJ o∧((oj o).isSome=isJ o):=by
 cases o with
 | none=>exact ⟨rfl,rfl⟩
 | some e=>
  unfold oj isJ
  by_cases h:e.bR=1
  ·simp [h]
  ·simp [h]
theorem A6 (u:BA):Ev (fun k=>jH.f k m u) (isJ (Ad u (sH (tb L)) none)):=by
 unfold jH.f
 refine Ev.bind (DD (rt_of hg hT)) (Ev.of ?_)
 rw [(Kk hg hT u).2,(oj_is hg hT _).1]
end
structure Zz (e:ak):Prop where
 room:e.aa.size≤maxLen
 user:e.ai.size≤maxLen
 event:e.bC.size≤maxLen
 jZ:e.ae.size≤maxLen
def mc (s:BA):Bool:=decide (s=eE)||(decide (s=(⟨#[109,97,105,110]⟩:BA))||jM s)
theorem Il {s:BA} (hs:s.size≤maxLen):Ev (fun k=>kR.f k s) (mc s):=by
 unfold kR.f mc
 by_cases h1:s=eE
 ·rw [dT h1]; exact Ev.pure
 ·rw [dF h1]
  by_cases h2:s=(⟨#[109,97,105,110]⟩:BA)
  ·rw [dT h2]; exact Ev.pure
  ·rw [dF h2]; exact Ev.bind (sw hs) Ev.pure
theorem HF {s:BA} (hs:s.size≤maxLen):Ev (fun k=>l7.f k s) (mc s):=by
 unfold l7.f mc
 refine Ev.bind (oV hs) ?_
 by_cases h1:s=eE
 ·rw [dT h1]; exact Ev.pure
 ·rw [dF h1]
  by_cases h2:s=(⟨#[109,97,105,110]⟩:BA)
  ·rw [dT h2]; exact Ev.pure
  ·rw [dF h2]; exact Ev.pure
theorem zM {α:Type} {c:Bool} {a b:α}:cond c (some a) (some b)=some (cond c a b):=by cases c <;> rfl
theorem dle {x y:Int}:decide (x≤y) = !decide (y<x):=by
 rw [Bool.eq_iff_iff]; simp
def KV (e:ak):Bool:=dm e.ai 64&&(!decide (e.aS<0) && !decide (1099511627776<e.aS)&&(!decide (e.aY<0) && !decide (1099511627776<e.aY)))
def nt (e:ak):Bool:=
 cond (e.aG==1) (cond (cond (dm e.aa 33) (cond (jM e.bC) (mc e.ae) false) false) (cond (!e.jS&&(e.b8==0)&&(e.aM==0)) (cond (dm e.ai 64) (!decide (e.aS<0) && !decide (1099511627776<e.aS)&&(!decide (e.aY<0) && !decide (1099511627776<e.aY))) false) false) false)
  (cond (e.aG==2) (cond (dm e.aa 33) (cond e.jS (!decide (e.b8<1) && !decide (60<e.b8)) (e.b8==0)) false&&(((decide (e.bC=eE)&&decide (e.ae=eE))&&((e.aM==0) && !e.ao))&&KV e))
   (cond (e.aG==3) ((!decide (e.aM<0) && !decide (2<e.aM))&&((((decide (e.aa=eE)&&decide (e.bC=eE))&&decide (e.ae=eE))&&((!e.jS&&(e.b8==0)) && !e.ao))&&KV e)) false))
theorem FG {e:ak} (z:Zz e):∃ b,b=nt e∧Ev (fun k=>eJ.f k e) b∧Ev (fun k=>fQ.f k e) b:=by
 obtain ⟨n1,h1⟩:=FY z.room
 obtain ⟨n2,h2⟩:=FN z.user
 obtain ⟨n3,h3⟩:=sw z.event
 obtain ⟨n4,h4⟩:=Il z.jZ
 have hn:∀ b,(∀ k,max (max n1 n2) (max n3 n4)≤k→eJ.f k e=some b)→Ev (fun k=>eJ.f k e) b:=fun b h=>⟨_,h⟩
 have href:∀ b,b=nt e→Ev (fun k=>fQ.f k e) b→(∀ k,max (max n1 n2) (max n3 n4)≤k→eJ.f k e=some b)→∃ b,b=nt e∧Ev (fun k=>eJ.f k e) b∧Ev (fun k=>fQ.f k e) b:=fun b hb h h'=>⟨b,hb,hn b h',h⟩
 have hu:=yi (c:=64) dc z.user
 have hr:=yi (c:=33) dc z.room
 have he:=oV z.event
 have ht:=HF z.jZ
 obtain ⟨K,ro,us,ev,th,pr,on,sp,st,ti,sm⟩:=e
 simp only at h1 h2 h3 h4 hu hr he ht
 by_cases hk:K=1∨K=2∨K=3
 ·have d1:decide ((1:Int)<0)=false:=rfl
  have d2:decide ((3:Int)<1)=false:=rfl
  have d3:decide ((2:Int)<0)=false:=rfl
  have d4:decide ((3:Int)<2)=false:=rfl
  have d5:decide ((3:Int)<0)=false:=rfl
  have d6:decide ((3:Int)<3)=false:=rfl
  have b1:((1:Int)==1)=true:=rfl
  have b2:((2:Int)==1)=false:=rfl
  have b3:((2:Int)==2)=true:=rfl
  have b4:((3:Int)==1)=false:=rfl
  have b5:((3:Int)==2)=false:=rfl
  have b6:((3:Int)==3)=true:=rfl
  have g:∀ (k:Nat) (i:Int),0≤i→i<4→(0:Int)≤i∧i<(([iI.f,gA.f k,fun a0_=>fq.f k a0_ cK.f,fun a0_=>fE.f a0_ cK.f]:List (ak→Option Bool)).length:Int):=fun k i h0 h1=>⟨h0,by simpa using h1⟩
  rcases hk with rfl | rfl | rfl
  ·refine href (cond (cond (dm ro 33) (cond (jM ev) (mc th) false) false) (cond (!on&&(sp==0)&&(st==0)) (cond (dm us 64) (!decide (ti<0) && !decide (1099511627776<ti)&&(!decide (sm<0) && !decide (1099511627776<sm))) false) false) false) rfl ?_ fun k hk=>?_
   ·unfold fQ.f
    refine Ev.bind hu (Ev.bind hr (Ev.bind he (Ev.bind ht (Ev.of ?_))))
    simp only [b1,cond_true]
    generalize dm us 64=a1
    generalize dm ro 33=a2
    generalize jM ev=a3
    generalize mc th=a4
    generalize decide (ti<0)=a5
    generalize decide (1099511627776<ti)=a6
    generalize decide (sm<0)=a7
    generalize decide (1099511627776<sm)=a8
    generalize (sp==0)=a9
    generalize (st==0)=a10
    simp only [zM]
    congr 1
    cases a1 <;> cases a5 <;> cases a6 <;> cases a7 <;> cases a8 <;> cases a2 <;> cases a3 <;> cases a4 <;> try rfl
    all_goals (cases on <;> cases a9 <;> cases a10 <;> rfl)
   ·have r:=h1 k om
    have u:=h2 k om
    have v:=h3 k om
    have t:=h4 k om
    have e4:ig.at [iI.f,gA.f k,fun a0_=>fq.f k a0_ cK.f,fun a0_=>fE.f a0_ cK.f] 1=gA.f k:=rfl
    have eq1:decide ((⟨1,ro,us,ev,th,pr,on,sp,st,ti,sm⟩:ak)=⟨1,ro,us,ev,th,pr,false,0,0,ti,sm⟩)=(!on&&(sp==0)&&(st==0)):=by
     rw [Bool.eq_iff_iff]
     simp only [decide_eq_true_eq,ak.mk.injEq,true_and,and_true,Bool.and_eq_true,beq_iff_eq,Bool.not_eq_true',and_assoc]
    simp only [eJ.f,nE.f,Option.bind_some,d1,d2,cond_false]
    simp only [e4,an]
    rw [if_pos (g k 1 dc dc)]
    simp only [Option.bind_some,gA.f,r,v,t,lY.f,im.f,b1,cond_true,eq1,u,dle,zM]
    generalize dm us 64=a1
    generalize dm ro 33=a2
    generalize jM ev=a3
    generalize mc th=a4
    generalize decide (ti<0)=a5
    generalize decide (1099511627776<ti)=a6
    generalize decide (sm<0)=a7
    generalize decide (1099511627776<sm)=a8
    generalize (!on&&(sp==0)&&(st==0))=a9
    cases a2 <;> cases a3 <;> cases a4 <;> cases a9 <;> cases a1 <;> try rfl
    all_goals (cases a5 <;> cases a6 <;> cases a7 <;> cases a8 <;> rfl)
  ·refine href (cond (dm ro 33) (cond on (!decide (sp<1) && !decide (60<sp)) (sp==0)) false&&(((decide (ev=eE)&&decide (th=eE))&&((st==0) && !pr))&&(dm us 64&&(!decide (ti<0) && !decide (1099511627776<ti)&&(!decide (sm<0) && !decide (1099511627776<sm)))))) rfl ?_ fun k hk=>?_
   ·unfold fQ.f
    refine Ev.bind hu (Ev.bind hr (Ev.bind he (Ev.bind ht (Ev.of ?_))))
    simp only [b2,b3,cond_true,cond_false,dle]
    generalize dm us 64=a1
    generalize dm ro 33=a2
    generalize decide (ti<0)=a5
    generalize decide (1099511627776<ti)=a6
    generalize decide (sm<0)=a7
    generalize decide (1099511627776<sm)=a8
    generalize (sp==0)=a9
    generalize (st==0)=a10
    generalize decide (sp<1)=a11
    generalize decide (60<sp)=a12
    generalize decide (ev=eE)=a13
    generalize decide (th=eE)=a14
    simp only [zM]
    congr 1
    cases a1 <;> cases a5 <;> cases a6 <;> cases a7 <;> cases a8 <;> cases a2 <;> cases on <;> simp
    all_goals (cases a9 <;> cases a10 <;> cases a11 <;> cases a12 <;> cases a13 <;> cases a14 <;> rfl)
   ·have r:=h1 k om
    have u:=h2 k om
    have e4:ig.at [iI.f,gA.f k,fun a0_=>fq.f k a0_ cK.f,fun a0_=>fE.f a0_ cK.f] 2=fun a0_=>fq.f k a0_ cK.f:=rfl
    have eq1:∀ (s:Int) (o:Bool),decide ((⟨2,ro,us,ev,th,pr,o,sp,st,ti,sm⟩:ak)=⟨2,ro,us,⟨#[]⟩,⟨#[]⟩,false,o,s,0,ti,sm⟩)=((decide (ev=⟨#[]⟩)&&decide (th=⟨#[]⟩)&&(st==0) && !pr)&&(sp==s)):=fun s o=>by
     rw [Bool.eq_iff_iff]
     simp only [decide_eq_true_eq,ak.mk.injEq,true_and,and_true,Bool.and_eq_true,beq_iff_eq,Bool.not_eq_true']
     constructor
     ·rintro ⟨h1,h2,h3,h4,h5⟩; exact ⟨⟨⟨⟨h1,h2⟩,h5⟩,h3⟩,h4⟩
     ·rintro ⟨⟨⟨⟨h1,h2⟩,h5⟩,h3⟩,h4⟩; exact ⟨h1,h2,h3,h4,h5⟩
    simp only [eJ.f,nE.f,Option.bind_some,d3,d4,cond_false]
    simp only [e4,an]
    rw [if_pos (g k 2 dc dc)]
    simp only [Option.bind_some,fq.f,r,lY.f,im.f,cK.f,b2,b3,cond_true,cond_false,dle]
    cases on
    all_goals
     simp only [cond_true,cond_false,eq1,beq_self_eq_true,Bool.and_true,Bool.not_true,Bool.not_false,Option.bind_some,u]
     generalize dm us 64=a1
     generalize dm ro 33=a2
     generalize decide (ti<0)=a5
     generalize decide (1099511627776<ti)=a6
     generalize decide (sm<0)=a7
     generalize decide (1099511627776<sm)=a8
     generalize decide (ev=eE)=a13
     generalize decide (th=eE)=a14
     generalize (st==0)=a10
     generalize (sp==0)=a9
     generalize decide (sp<1)=a11
     generalize decide (60<sp)=a12
     cases a2 <;> cases a9 <;> cases a11 <;> cases a12 <;> cases a1 <;> cases a13 <;> cases a14 <;> cases a10 <;> cases pr <;> try rfl
     all_goals (cases a5 <;> cases a6 <;> cases a7 <;> cases a8 <;> rfl)
  ·refine href ((!decide (st<0) && !decide (2<st))&&((((decide (ro=eE)&&decide (ev=eE))&&decide (th=eE))&&((!on&&(sp==0)) && !pr))&&(dm us 64&&(!decide (ti<0) && !decide (1099511627776<ti)&&(!decide (sm<0) && !decide (1099511627776<sm)))))) rfl ?_ fun k hk=>?_
   ·unfold fQ.f
    refine Ev.bind hu (Ev.bind hr (Ev.bind he (Ev.bind ht (Ev.of ?_))))
    simp only [b4,b5,b6,cond_true,cond_false,dle]
    generalize dm us 64=a1
    generalize decide (ti<0)=a5
    generalize decide (1099511627776<ti)=a6
    generalize decide (sm<0)=a7
    generalize decide (1099511627776<sm)=a8
    generalize (sp==0)=a9
    generalize decide (st<0)=a11
    generalize decide (2<st)=a12
    generalize decide (ev=eE)=a13
    generalize decide (th=eE)=a14
    generalize decide (ro=eE)=a15
    simp only [zM]
    congr 1
    cases a1 <;> cases a5 <;> cases a6 <;> cases a7 <;> cases a8 <;> simp
    all_goals (cases a9 <;> cases a11 <;> cases a12 <;> cases a13 <;> cases a14 <;> cases a15 <;> cases on <;> cases pr <;> rfl)
   ·have u:=h2 k om
    have e4:ig.at [iI.f,gA.f k,fun a0_=>fq.f k a0_ cK.f,fun a0_=>fE.f a0_ cK.f] 3=fun a0_=>fE.f a0_ cK.f:=rfl
    have eq1:decide ((⟨3,ro,us,ev,th,pr,on,sp,st,ti,sm⟩:ak)=⟨3,⟨#[]⟩,us,⟨#[]⟩,⟨#[]⟩,false,false,0,st,ti,sm⟩)=(((decide (ro=eE)&&decide (ev=eE))&&decide (th=eE))&&((!on&&(sp==0)) && !pr)):=by
     rw [Bool.eq_iff_iff]
     simp only [decide_eq_true_eq,ak.mk.injEq,true_and,and_true,Bool.and_eq_true,beq_iff_eq,Bool.not_eq_true']
     constructor
     ·rintro ⟨h1,h2,h3,h4,h5,h6⟩; exact ⟨⟨⟨h1,h2⟩,h3⟩,⟨h5,h6⟩,h4⟩
     ·rintro ⟨⟨⟨h1,h2⟩,h3⟩,⟨h5,h6⟩,h4⟩; exact ⟨h1,h2,h3,h4,h5,h6⟩
    simp only [eJ.f,nE.f,Option.bind_some,d5,d6,cond_false]
    simp only [e4,an]
    rw [if_pos (g k 3 dc dc)]
    simp only [Option.bind_some,fE.f,lY.f,im.f,cK.f,b4,b5,b6,cond_true,cond_false,dle,eq1,u]
    generalize dm us 64=a1
    generalize decide (ti<0)=a5
    generalize decide (1099511627776<ti)=a6
    generalize decide (sm<0)=a7
    generalize decide (1099511627776<sm)=a8
    generalize decide (st<0)=a11
    generalize decide (2<st)=a12
    generalize (((decide (ro=eE)&&decide (ev=eE))&&decide (th=eE))&&((!on&&(sp==0)) && !pr))=a9
    cases a11 <;> cases a12 <;> cases a9 <;> cases a1 <;> try rfl
    all_goals (cases a5 <;> cases a6 <;> cases a7 <;> cases a8 <;> rfl)
 ·have k1:(K==1)=false:=by rw [beq_eq_false_iff_ne]; omega
  have k2:(K==2)=false:=by rw [beq_eq_false_iff_ne]; omega
  have k3:(K==3)=false:=by rw [beq_eq_false_iff_ne]; omega
  refine href false (by unfold nt; simp only [k1,k2,k3,cond_false]) ?_ fun k hk'=>?_
  ·unfold fQ.f
   refine Ev.bind hu (Ev.bind hr (Ev.bind he (Ev.bind ht (Ev.of ?_))))
   simp only [k1,k2,k3,cond_false,Bool.cond_self,zM]
  ·by_cases c1:K<0
   ·simp only [eJ.f,dT c1,cond_true]
   ·by_cases c2:3<K
    ·simp only [eJ.f,dT c2,dF c1,cond_true,cond_false]
    ·obtain rfl:K=0:=om
     rfl
theorem Ak {e:ak} (z:Zz e):Ev (fun k=>eJ.f k e) (nt e)∧Ev (fun k=>fQ.f k e) (nt e):=by
 obtain ⟨b,rfl,h1,h2⟩:=FG z
 exact ⟨h1,h2⟩
def A4 (e:ak):Bool:=cond (nt e) (!e.ao) false
theorem lT {e:ak} (z:Zz e):Ev (fun k=>me.f k e) (A4 e)∧Ev (fun k=>mf.f k e) (A4 e):=by
 obtain ⟨h1,h2⟩:=Ak z
 unfold A4
 constructor
 ·unfold me.f; refine Ev.bind h1 ?_; cases nt e <;> exact Ev.pure
 ·unfold mf.f; refine Ev.bind h2 ?_; cases nt e <;> exact Ev.pure
structure GE (e:ak):Prop where
 kind:e.aG=1∨e.aG=2∨e.aG=3
 user:e.ai∈lP
 room:e.aG≠3→e.aa∈jC
 CI:e.aG=3→e.aa=⟨#[]⟩
 event:e.aG=1→∃ j,j<9∧e.bC=mq j
 sO:e.aG≠1→e.bC=⟨#[]⟩
 jZ:e.aG=1→e.ae=⟨#[]⟩∨e.ae=⟨#[109,97,105,110]⟩∨∃ j,j<9∧e.ae=mq j
 qB:e.aG≠1→e.ae=⟨#[]⟩
 rf:e.aG≠1→e.ao=false
 on:e.aG≠2→e.jS=false
 zn:e.jS=false→e.b8=0
 zj:e.jS=true→1≤e.b8∧e.b8≤60
 BR:e.aG≠3→e.aM=0
 state:0≤e.aM∧e.aM≤2
 tick:0≤e.aS∧e.aS<100
 rH:0≤e.aY∧e.aY<9
theorem qp {u:BA} (h:u∈lP):dm u 64=true∧u.size=5:=by
 have:∀ u∈lP,dm u 64=true∧u.size=5:=by decide +kernel
 exact this u h
theorem oP {u:BA} (h:u∈jC):dm u 33=true∧u.size=5:=by
 have:∀ u∈jC,dm u 33=true∧u.size=5:=by decide +kernel
 exact this u h
theorem GE.zz {e:ak} (h:GE e):Zz e:=by
 refine ⟨?_,?_,?_,?_⟩
 ·by_cases k:e.aG=3
  ·rw [h.CI k]; exact Nat.zero_le _
  ·rw [(oP (h.room k)).2]; decide
 ·rw [(qp h.user).2]; decide
 ·by_cases k:e.aG=1
  ·obtain ⟨j,_,ej⟩:=h.event k; rw [ej]; exact p6 j
  ·rw [h.sO k]; exact Nat.zero_le _
 ·by_cases k:e.aG=1
  ·rcases h.jZ k with ej | ej | ⟨j,_,ej⟩ <;> rw [ej]
   ·exact Nat.zero_le _
   ·show 4≤maxLen; decide
   ·exact p6 j
  ·rw [h.qB k]; exact Nat.zero_le _
theorem GE.KV {e:ak} (h:GE e):KV e=true:=by
 unfold Proofs.YtfknmdelgepbjaaGreatDoor.KV
 have a:=h.tick
 have b:=h.rH
 simp [(qp h.user).1]
 omega
theorem GE.local {e:ak} (h:GE e):nt e=true:=by
 have ho:=h.KV
 have hu:=(qp h.user).1
 have a:=h.tick
 have b:=h.rH
 unfold nt
 rcases h.kind with k | k | k
 ·have e1:(e.aG==1)=true:=by rw [k]; rfl
  have n2:e.aG≠2:=om
  have n3:e.aG≠3:=om
  obtain ⟨j,hj,ej⟩:=h.event k
  have hth:mc e.ae=true:=by
   unfold mc
   rcases h.jZ k with ej | ej | ⟨j,hj,ej⟩
   ·simp [ej]
   ·simp [ej]
   ·simp [ej,vU j hj]
  have c1:decide (e.aS<0)=false:=by rw [decide_eq_false_iff_not]; omega
  have c2:decide (1099511627776<e.aS)=false:=by rw [decide_eq_false_iff_not]; omega
  have c3:decide (e.aY<0)=false:=by rw [decide_eq_false_iff_not]; omega
  have c4:decide (1099511627776<e.aY)=false:=by rw [decide_eq_false_iff_not]; omega
  rw [e1,ej,vU j hj,hth,hu,c1,c2,c3,c4,h.on n2,h.zn (h.on n2),h.BR n3,(oP (h.room n3)).1]
  rfl
 ·have e1:(e.aG==1)=false:=by rw [k]; rfl
  have e2:(e.aG==2)=true:=by rw [k]; rfl
  have n1:e.aG≠1:=om
  have n3:e.aG≠3:=om
  rw [e1,e2,ho,h.sO n1,h.qB n1,h.rf n1,h.BR n3,(oP (h.room n3)).1]
  cases o:e.jS with
  | false=>rw [h.zn o]; rfl
  | true=>
   have:=h.zj o
   rw [show decide (e.b8<1)=false by rw [decide_eq_false_iff_not]; omega,show decide (60<e.b8)=false by rw [decide_eq_false_iff_not]; omega]
   rfl
 ·have e1:(e.aG==1)=false:=by rw [k]; rfl
  have e2:(e.aG==2)=false:=by rw [k]; rfl
  have e3:(e.aG==3)=true:=by rw [k]; rfl
  have n1:e.aG≠1:=om
  have n2:e.aG≠2:=om
  have c:=h.state
  rw [e1,e2,e3,ho,h.sO n1,h.qB n1,h.rf n1,h.on n2,h.zn (h.on n2),h.CI k,show decide (e.aM<0)=false by rw [decide_eq_false_iff_not]; omega,show decide (2<e.aM)=false by rw [decide_eq_false_iff_not]; omega]
  rfl
theorem GE.may {e:ak} (h:GE e):A4 e = !e.ao:=by unfold A4; rw [h.local]; rfl
theorem EO (x:Int):Gq (aw x):=by
 unfold Gq
 simp only [aw,IntKind.wrap,IntKind.signed,IntKind.bits]
 simp
 constructor <;> omega
theorem uC {n:Int} (hn:Gq n):∃ j,j<9∧Ev (fun k=>dq.f k n) (mq j):=by
 obtain ⟨m,h1,h2,h3⟩:=fS (m:=9) hn dc dc
 obtain ⟨k,hk,rfl⟩:=int_lt (n:=9) h2 h3
 refine ⟨k,hk,?_⟩
 have h:=je k hk
 unfold dq.f at h ⊢
 rw [show (9:Int)=((9:Nat):Int) from rfl,rL hk dc] at h
 rw [h1]
 exact h
theorem Ar {n:Int} (hn:Gq n):∃ r,Ev (fun k=>gG.f k n) r∧(r=⟨#[]⟩∨r=⟨#[109,97,105,110]⟩∨∃ j,j<9∧r=mq j):=by
 obtain ⟨m,h1,h2,h3⟩:=fS (m:=11) hn dc dc
 unfold gG.f
 by_cases e1:m=9
 ·exact ⟨_,Ev.bind (Ev.of h1) (Ev.ct (by simp [e1]) Ev.pure),.inl rfl⟩
 ·by_cases e2:m=10
  ·exact ⟨_,Ev.bind (Ev.of h1) (Ev.cf (by simp [e1]) (Ev.ct (by simp [e2]) Ev.pure)),.inr (.inl rfl)⟩
  ·obtain ⟨j,hj,hr⟩:=uC (n:=m) ⟨om,om⟩
   exact ⟨_,Ev.bind (Ev.of h1) (Ev.cf (by simp [e1]) (Ev.cf (by simp [e2]) (Ev.bind hr Ev.pure))),.inr (.inr ⟨j,hj,rfl⟩)⟩
theorem Ix {a:ak} (h:ak.ok a):∃ e,Ev (fun k=>lu.f k a) e∧GE e∧(a.aG=0→e.aG=1)∧(e.aG=1→e.ao=a.ao):=by
 obtain ⟨c1,c2,c3,c4,c5,c6,c7,c8,c9,c10,c11,_⟩:=h
 obtain ⟨m,h1,h2,h3⟩:=fS (m:=3) (lE c1) dc dc
 obtain ⟨u,u1,u2⟩:=sI (lE c9)
 obtain ⟨t,t1,t2,t3⟩:=fS (m:=100) (lE c10) dc dc
 obtain ⟨s,s1,s2,s3⟩:=fS (m:=9) (lE c11) dc dc
 obtain ⟨ro,r1,r2⟩:=DK (lE c8)
 obtain ⟨t9,y1,y2,y3⟩:=fS (m:=9) (lE c10) dc dc
 obtain ⟨ej,ej9,e1⟩:=uC (n:=aw ((a.bC.size:Int)+t9)) (EO _)
 obtain ⟨th,f1,f2⟩:=Ar (n:=(a.ae.size:Int)) ⟨om,by have h:a.ae.size≤2 ^ 63-1:=c5; omega⟩
 obtain ⟨sp,p1,p2,p3⟩:=fS (m:=60) (lE c8) dc dc
 obtain ⟨st,q1,q2,q3⟩:=fS (m:=3) (lE c8) dc dc
 have hk0:a.aG=0→m=0:=fun h0=>by
  rw [h0] at h1
  have:bp.f 0 3=some 0:=rfl
  rw [this] at h1
  exact (Option.some.inj h1).symm
 have hw:aw (1+m)=1+m:=aP om om
 have hsp:aw (1+sp)=1+sp:=aP om om
 have key:∀ e,(∀ k,lu.f k a=cond ((1+m)==1) ((dq.f k (aw ((a.bC.size:Int)+t9))).bind fun t666=>(gG.f k (a.ae.size:Int)).bind fun t668=>some (⟨1+m,ro,u,t666,t668,a.ao,false,0,0,t,s⟩:ak)) (cond ((1+m)==2) (cond a.jS (some (⟨1+m,ro,u,eE,eE,false,a.jS,1+sp,0,t,s⟩:ak)) (some (⟨1+m,ro,u,eE,eE,false,a.jS,0,0,t,s⟩:ak))) (some (⟨1+m,eE,u,eE,eE,false,false,0,st,t,s⟩:ak))))→
   Ev (fun k=>cond ((1+m)==1) ((dq.f k (aw ((a.bC.size:Int)+t9))).bind fun t666=>(gG.f k (a.ae.size:Int)).bind fun t668=>some (⟨1+m,ro,u,t666,t668,a.ao,false,0,0,t,s⟩:ak)) (cond ((1+m)==2) (cond a.jS (some (⟨1+m,ro,u,eE,eE,false,a.jS,1+sp,0,t,s⟩:ak)) (some (⟨1+m,ro,u,eE,eE,false,a.jS,0,0,t,s⟩:ak))) (some (⟨1+m,eE,u,eE,eE,false,false,0,st,t,s⟩:ak)))) e→Ev (fun k=>lu.f k a) e:=fun e he hv=>hv.eq he
 have hf:∀ k,lu.f k a=cond ((1+m)==1) ((dq.f k (aw ((a.bC.size:Int)+t9))).bind fun t666=>(gG.f k (a.ae.size:Int)).bind fun t668=>some (⟨1+m,ro,u,t666,t668,a.ao,false,0,0,t,s⟩:ak)) (cond ((1+m)==2) (cond a.jS (some (⟨1+m,ro,u,eE,eE,false,a.jS,1+sp,0,t,s⟩:ak)) (some (⟨1+m,ro,u,eE,eE,false,a.jS,0,0,t,s⟩:ak))) (some (⟨1+m,eE,u,eE,eE,false,false,0,st,t,s⟩:ak))):=fun k=>by
  simp only [lu.f,h1,u1,t1,s1,r1,y1,p1,q1,Option.bind_some,hw,hsp]
 rcases (show m=0∨m=1∨m=2 by omega) with rfl | rfl | rfl
 ·refine ⟨⟨1,ro,u,mq ej,th,a.ao,false,0,0,t,s⟩,key _ hf (Ev.ct rfl (Ev.bind e1 (Ev.bind f1 Ev.pure))),?_,fun _=>rfl,fun _=>rfl⟩
  exact ⟨.inl rfl,u2,fun _=>r2,fun h=>(by cases h),fun _=>⟨ej,ej9,rfl⟩,fun h=>absurd rfl h,fun _=>f2,fun h=>absurd rfl h,fun h=>absurd rfl h,fun _=>rfl,fun _=>rfl,nofun,fun _=>rfl,⟨Int.le_refl 0,show (0:Int)≤2 by decide⟩,⟨t2,t3⟩,⟨s2,s3⟩⟩
 ·cases ho:a.jS with
  | true=>
   refine ⟨⟨2,ro,u,⟨#[]⟩,⟨#[]⟩,false,true,1+sp,0,t,s⟩,key _ hf (Ev.cf rfl (Ev.ct rfl (Ev.ct ho (Ev.of (by rw [ho]; rfl))))),?_,fun h=>(by have:=hk0 h; omega),fun h=>(by cases h)⟩
   exact ⟨.inr (.inl rfl),u2,fun _=>r2,fun h=>(by cases h),fun h=>(by cases h),fun _=>rfl,fun h=>(by cases h),fun _=>rfl,fun _=>rfl,fun h=>absurd rfl h,nofun,fun _=>⟨by show 1≤1+sp; omega,by show 1+sp≤60; omega⟩,fun _=>rfl,⟨Int.le_refl 0,show (0:Int)≤2 by decide⟩,⟨t2,t3⟩,⟨s2,s3⟩⟩
  | false=>
   refine ⟨⟨2,ro,u,⟨#[]⟩,⟨#[]⟩,false,false,0,0,t,s⟩,key _ hf (Ev.cf rfl (Ev.ct rfl (Ev.cf ho (Ev.of (by rw [ho]; rfl))))),?_,fun h=>(by have:=hk0 h; omega),fun h=>(by cases h)⟩
   exact ⟨.inr (.inl rfl),u2,fun _=>r2,fun h=>(by cases h),fun h=>(by cases h),fun _=>rfl,fun h=>(by cases h),fun _=>rfl,fun _=>rfl,fun _=>rfl,fun _=>rfl,nofun,fun _=>rfl,⟨Int.le_refl 0,show (0:Int)≤2 by decide⟩,⟨t2,t3⟩,⟨s2,s3⟩⟩
 ·refine ⟨⟨3,⟨#[]⟩,u,⟨#[]⟩,⟨#[]⟩,false,false,0,st,t,s⟩,key _ hf (Ev.cf rfl (Ev.cf rfl (Ev.of rfl))),?_,fun h=>(by have:=hk0 h; omega),fun h=>(by cases h)⟩
  exact ⟨.inr (.inr rfl),u2,fun h=>absurd rfl h,fun _=>rfl,fun h=>(by cases h),fun _=>rfl,fun h=>(by cases h),fun _=>rfl,fun _=>rfl,fun _=>rfl,fun _=>rfl,nofun,fun h=>absurd rfl h,⟨q2,by show st≤2; omega⟩,⟨t2,t3⟩,⟨s2,s3⟩⟩
theorem GE.Jp {e:ak} (h:GE e):e.aa.size<128∧e.ai.size<128∧e.bC.size<128∧e.ae.size<128:=by
 refine ⟨?_,?_,?_,?_⟩
 ·by_cases k:e.aG=3
  ·rw [h.CI k]; show 0<128; omega
  ·rw [(oP (h.room k)).2]; decide
 ·rw [(qp h.user).2]; decide
 ·by_cases k:e.aG=1
  ·obtain ⟨j,_,ej⟩:=h.event k; rw [ej]; show 3<128; omega
  ·rw [h.sO k]; show 0<128; omega
 ·by_cases k:e.aG=1
  ·rcases h.jZ k with ej | ej | ⟨j,_,ej⟩ <;> rw [ej]
   ·show 0<128; omega
   ·show 4<128; omega
   ·show 3<128; omega
  ·rw [h.qB k]; show 0<128; omega
theorem wh (a b:BA):(a++b).data.toList=a.data.toList++b.data.toList:=by simp [ByteArray.data_append]
theorem yF {a b:BA} (h:a.data.toList=b.data.toList):a=b:=by
 obtain ⟨⟨a⟩⟩:=a; obtain ⟨⟨b⟩⟩:=b; simp at h; subst h; rfl
def wR (s:BA):Prop:=∀ x∈s.data.toList,x≠32
theorem Iq {s:BA} (h:∀ i:Nat,i<s.size→bt s (i:Int)≠32):wR s:=fun x hx e=>by
 obtain ⟨i,hi,hx⟩:=List.mem_iff_getElem.1 hx
 have hi':i<s.data.size:=by simpa using hi
 refine h i hi' ?_
 unfold bt
 rw [Int.toNat_natCast,Array.getD_eq_getD_getElem?,Array.getElem?_eq_getElem hi']
 have:s.data[i]=x:=by rw [← hx]; simp
 simp only [Option.getD_some,this,e]
 rfl
theorem F4:∀ {L L' M M':List UInt8},(∀ x∈L,x≠32)→(∀ x∈L',x≠32)→L++32::M=L'++32::M'→L=L'∧M=M'
 | [],[],M,M',_,_,h=>by simpa using h
 | [],y::L',M,M',_,h2,h=>by simp at h; exact absurd h.1.symm (h2 y (List.mem_cons_self ..))
 | x::L,[],M,M',h1,_,h=>by simp at h; exact absurd h.1 (h1 x (List.mem_cons_self ..))
 | x::L,y::L',M,M',h1,h2,h=>by
  simp only [List.cons_append,List.cons.injEq] at h
  obtain ⟨a,b⟩:=F4 (fun z hz=>h1 z (List.mem_cons_of_mem _ hz)) (fun z hz=>h2 z (List.mem_cons_of_mem _ hz)) h.2
  exact ⟨by rw [h.1,a],b⟩
theorem rE (a b:BA):((a++(⟨#[32]⟩:BA))++b).data.toList=a.data.toList++32::b.data.toList:=by
 rw [wh,wh]; simp
theorem key_inj {a b a' b':BA} (ha:wR a) (ha':wR a') (h:(a++(⟨#[32]⟩:BA))++b=(a'++(⟨#[32]⟩:BA))++b'):a=a'∧b=b':=by
 have h1:=congrArg (fun s:BA=>s.data.toList) h
 simp only [rE] at h1
 obtain ⟨e1,e2⟩:=F4 ha ha' h1
 exact ⟨yF e1,yF e2⟩
theorem wi {s:BA} {c:UInt8} (hc:c≠32) (h:dm s c=true):wR s:=Iq fun i hi=>by
 have hcc:(c.toNat:Int)≠32:=fun h=>hc (UInt8.toNat_inj.1 (by exact_mod_cast h))
 unfold dm at h
 split at h
 ·rename_i h0
  simp only at h
  split at h
  ·rename_i h1
   have hft:=qU (s.extract 1 s.size) 58
   rw [show (((58:UInt8).toNat:Int))=58 from rfl] at hft
   rcases hft with ⟨e,_⟩ | ⟨j,e,j1,j2,_⟩
   ·omega
   ·rw [e,Int.toNat_natCast,Bool.and_eq_true] at h
    obtain ⟨p1,p2⟩:=h
    have hsz:(s.extract 1 s.size).size=s.size-1:=iL (Nat.le_refl _)
    have cP:∀ x:Int,DX x=true→x≠32:=fun x hx e=>by subst e; exact absurd hx dc
    have cS:∀ x:Int,Gu x=true→x≠32:=fun x hx e=>by subst e; exact absurd hx dc
    rcases Nat.eq_zero_or_pos i with rfl | hpos
    ·rw [show ((0:Nat):Int)=0 from rfl,h0.2]; exact hcc
    ·obtain ⟨m,rfl⟩:∃ m,i=1+m:=⟨i-1,om⟩
     have hb:bt (s.extract 1 s.size) (m:Int)=bt s ((1+m:Nat):Int):=p8 om (Nat.le_refl _)
     rw [← hb]
     rcases Nat.lt_trichotomy m j with hm | hm | hm
     ·unfold qR at p1
      rw [Bool.and_eq_true] at p1
      have:=j8.1 p1.1 m (Nat.zero_le _) (by rw [iL om]; omega)
      have:=cP _ this
      rwa [p8 om om,Nat.zero_add] at this
     ·subst hm; rw [j2]; decide
     ·unfold oH qR at p2
      rw [Bool.and_eq_true,Bool.and_eq_true] at p2
      have:=j8.1 p2.1.1 (m-(j+1)) (Nat.zero_le _) (by rw [iL (Nat.le_refl _)]; omega)
      have:=cS _ this
      rwa [p8 om (Nat.le_refl _),show j+1+(m-(j+1))=m by omega] at this
  ·cases h
 ·cases h
set_option maxRecDepth 100000
def ths:List BA:=⟨#[]⟩::⟨#[109,97,105,110]⟩::(List.range 9).map mq
def allK:List bx:=jC.flatMap fun r=>lP.flatMap fun u=>ths.flatMap fun t=>[⟨r,u,t,false⟩,⟨r,u,t,true⟩]
structure Kx (x:bx):Prop where
 room:x.aa∈jC
 user:x.ai∈lP
 jZ:x.ae∈ths
theorem Kx.mem {x:bx} (h:Kx x):x∈allK:=by
 obtain ⟨r,u,t,p⟩:=x
 refine List.mem_flatMap.2 ⟨r,h.room,List.mem_flatMap.2 ⟨u,h.user,List.mem_flatMap.2 ⟨t,h.jZ,?_⟩⟩⟩
 cases p <;> simp
def J:BA→List BA→BA
 | a,[]=>a
 | a,b::l=>(a++⟨#[32]⟩)++J b l
def qM (p:Bool):BA:=cond p ⟨#[49]⟩ ⟨#[48]⟩
def nw (x:bx):BA:=J ⟨#[109]⟩ [x.aa,x.ai,x.ae,qM x.ao]
def C3 (r:BA):BA:=J ⟨#[116]⟩ [r]
def DT (u:BA):BA:=J ⟨#[112]⟩ [u]
theorem G7:(allK.all fun x=>decide (iz.f x=some (nw x))&&(decide (kj.f ⟨1,x,⟨#[]⟩⟩=some (nw x))&&(decide (Dj (nw x) 32=4)&&decide ((nw x).size≤40))))=true:=kr
theorem A0 {x:bx} (h:Kx x):iz.f x=some (nw x)∧kj.f ⟨1,x,⟨#[]⟩⟩=some (nw x)∧Dj (nw x) 32=4∧(nw x).size≤40:=by
 have:=List.all_eq_true.1 G7 x h.mem
 simpa using this
theorem Az:∀ r∈jC,jx.f r=some (C3 r)∧kj.f ⟨2,⟨⟨#[]⟩,⟨#[]⟩,⟨#[]⟩,false⟩,r⟩=some (C3 r)∧Dj (C3 r) 32=1∧(C3 r).size≤40:=by decide +kernel
theorem zZ:∀ r∈lP,jg.f r=some (DT r)∧kj.f ⟨3,⟨⟨#[]⟩,⟨#[]⟩,⟨#[]⟩,false⟩,r⟩=some (DT r)∧Dj (DT r) 32=1∧(DT r).size≤40:=by decide +kernel
theorem rM {s:BA} (h:(s.data.toList.all fun x=>x != 32)=true):wR s:=fun x hx=>by simpa using List.all_eq_true.1 h x hx
theorem AX:∀ r∈jC,wR r:=fun r hr=>rM (by revert r; decide +kernel)
theorem BI:∀ r∈lP,wR r:=fun r hr=>rM (by revert r; decide +kernel)
theorem EP:∀ r∈ths,wR r:=fun r hr=>rM (by revert r; decide +kernel)
theorem Jk:∀ {l m:List UInt8},(∀ x∈l,x≠32)→Lib.indexByte (l++32::m) 32=(l.length:Int)
 | [],m,_=>by simp [Lib.indexByte]
 | a::l,m,h=>by
  have h1:=Jk (l:=l) (m:=m) fun x hx=>h x (List.mem_cons_of_mem _ hx)
  have h2:(a==32)=false:=by simpa using h a List.mem_cons_self
  rw [List.cons_append,Lib.indexByte,h2,h1]
  have h3:((l.length:Int) == -1)=false:=by rw [beq_eq_false_iff_ne]; omega
  rw [h3]; simp
theorem KH {a r:BA} (h:wR a):gK.f ((a++⟨#[32]⟩)++r) ⟨#[32]⟩=some (a.size:Int):=by
 unfold gK.f
 rw [xJ]
 have e:lK ((a++⟨#[32]⟩)++r) ((32:UInt8).toNat:Int)=(a.size:Int):=by
  show Lib.indexByte ((a++⟨#[32]⟩)++r).data.toList 32=_
  rw [rE,Jk h]; rfl
 rw [e]; rfl
theorem Ex (s:BA) (i j:Nat):(s.extract i j).data.toList=(s.data.toList.take j).drop i:=by
 simp [ByteArray.data_extract,List.drop_take]
theorem cut1 (a r:BA):((a++⟨#[32]⟩)++r).extract 0 a.size=a:=yF (by
 rw [Ex,rE,List.drop_zero]
 show List.take a.data.toList.length _=_
 simp)
theorem cut2 (a r:BA):((a++⟨#[32]⟩)++r).extract (a.size+1) ((a++⟨#[32]⟩)++r).size=r:=yF (by
 rw [Ex]
 have e:((a++⟨#[32]⟩)++r).size=((a++⟨#[32]⟩)++r).data.toList.length:=rfl
 rw [e,List.take_length,rE]
 show List.drop (a.data.toList.length+1) _=_
 rw [← List.drop_drop]; simp)
section
variable {k:Nat} {s0:BA} {p:Int} {B:Nat} (hB:aw ((min p (aw ((s0.size:Int)+1)))-1)=(B:Int))
include hB
theorem oX {j i:Nat} {a r:BA} {out:List BA} (ha:wR a) (h1:a.size≤1000) (hi:i<B) (hb:B≤1000) (ho:i<out.length):
  strings_genSplit.l0 k s0 ⟨#[32]⟩ 0 p (j+1) ((a++⟨#[32]⟩)++r) (i:Int) out=strings_genSplit.l0 k s0 ⟨#[32]⟩ 0 p j r ((i+1:Nat):Int) (out.set i a):=by
 rw [strings_genSplit.l0,hB,dT (by omega:(i:Int)<(B:Int)),KH ha]
 have e1:(⟨#[32]⟩:BA).size=1:=rfl
 have e2:aw ((a.size:Int)+0)=(a.size:Int):=by rw [Int.add_zero,aP om om]
 have e3:aw ((a.size:Int)+((1:Nat):Int))=((a.size+1:Nat):Int):=by rw [aP om om]; omega
 have e4:aw ((i:Int)+1)=((i+1:Nat):Int):=by rw [aP om om]; omega
 have hs:((a++⟨#[32]⟩)++r).size=a.size+1+r.size:=by rw [ByteArray.size_append,ByteArray.size_append]; rfl
 simp only [cond_true,Option.bind_some]
 rw [dF (by omega:¬ (a.size:Int)<0),e1,e2,e3,e4,cond_false]
 unfold an
 rw [if_pos ⟨om,om,om⟩,if_pos ⟨om,om⟩,if_pos ⟨om,om,Nat.le_refl _⟩]
 simp only [Int.toNat_natCast]
 rw [cut1,cut2]
theorem C9 {j:Nat} {x:BA} {out:List BA}:strings_genSplit.l0 k s0 ⟨#[32]⟩ 0 p (j+1) x (B:Int) out=some (x,(B:Int),false,out):=by
 rw [strings_genSplit.l0,hB,dF (by omega:¬ (B:Int)<(B:Int))]; rfl
end
theorem HQ {x:bx} (h:Kx x):Ev (fun k=>mU.f k (nw x)) (.d89 x):=by
 obtain ⟨_,_,hc,hsz⟩:=A0 h
 have hl:(nw x).size=16+x.ae.size:=by
  have r:=(oP h.room).2; have u:=(qp h.user).2
  show (J ⟨#[109]⟩ [x.aa,x.ai,x.ae,qM x.ao]).size=_
  have l:(qM x.ao).size=1:=by cases x.ao <;> rfl
  simp only [J,ByteArray.size_append,r,u,l]
  show 1+1+(5+1+(5+1+(x.ae.size+1+1)))=_
  omega
 refine Ev.add 10 fun m=>?_
 unfold mU.f kD.f strings_genSplit.f strings_Count.f
 have e1:(⟨#[32]⟩:BA).size=1:=rfl
 have e0:bt (⟨#[32]⟩:BA) 0=32:=rfl
 have hB:aw ((min (aw (4+1)) (aw (((nw x).size:Int)+1)))-1)=((4:Nat):Int):=by
  rw [aP (x:=4+1) om om,aP (x:=((nw x).size:Int)+1) om om,aP om om]; omega
 have hm:min (aw (4+1)) (aw (((nw x).size:Int)+1))=5:=by
  rw [aP (x:=4+1) om om,aP (x:=((nw x).size:Int)+1) om om]; omega
 have hk:nw x=(((⟨#[109]⟩:BA)++⟨#[32]⟩)++((x.aa++⟨#[32]⟩)++((x.ai++⟨#[32]⟩)++((x.ae++⟨#[32]⟩)++qM x.ao)))):=rfl
 have r5:=(oP h.room).2; have u5:=(qp h.user).2
 have s1:=oX (k:=m+10) (s0:=nw x) (p:=aw (4+1)) (B:=4) hB (j:=m+9) (i:=0) (a:=⟨#[109]⟩) (r:=((x.aa++⟨#[32]⟩)++((x.ai++⟨#[32]⟩)++((x.ae++⟨#[32]⟩)++qM x.ao)))) (out:=List.replicate 5 ⟨#[]⟩) (rM (by decide +kernel)) dc om om sM
 have s2:=oX (k:=m+10) (s0:=nw x) (p:=aw (4+1)) (B:=4) hB (j:=m+8) (i:=1) (a:=x.aa) (r:=((x.ai++⟨#[32]⟩)++((x.ae++⟨#[32]⟩)++qM x.ao))) (out:=(List.replicate 5 ⟨#[]⟩).set 0 ⟨#[109]⟩) (AX _ h.room) om om om sM
 have s3:=oX (k:=m+10) (s0:=nw x) (p:=aw (4+1)) (B:=4) hB (j:=m+7) (i:=2) (a:=x.ai) (r:=((x.ae++⟨#[32]⟩)++qM x.ao)) (out:=((List.replicate 5 ⟨#[]⟩).set 0 ⟨#[109]⟩).set 1 x.aa) (BI _ h.user) om om om sM
 have s4:=oX (k:=m+10) (s0:=nw x) (p:=aw (4+1)) (B:=4) hB (j:=m+6) (i:=3) (a:=x.ae) (r:=qM x.ao) (out:=(((List.replicate 5 ⟨#[]⟩).set 0 ⟨#[109]⟩).set 1 x.aa).set 2 x.ai) (EP _ h.jZ) om om om sM
 have s5:=C9 (k:=m+10) (s0:=nw x) (p:=aw (4+1)) (B:=4) hB (j:=m+5) (x:=qM x.ao) (out:=((((List.replicate 5 ⟨#[]⟩).set 0 ⟨#[109]⟩).set 1 x.aa).set 2 x.ai).set 3 x.ae)
 rw [← hk] at s1
 have s:=s1.trans (s2.trans (s3.trans (s4.trans s5)))
 have s':strings_genSplit.l0 (m+10) (nw x) ⟨#[32]⟩ 0 (aw (4+1)) (m+10) (nw x) 0 (List.replicate (5:Int).toNat ⟨#[]⟩)=some (qM x.ao,4,false,[⟨#[109]⟩,x.aa,x.ai,x.ae,⟨#[]⟩]):=s
 have gp:∀ {α:Type} {p:Prop} [Decidable p] (h:p) (x:Option α),an p x=x:=fun h x=>if_pos h
 simp only [show (-1==(0:Int))=false from rfl,show decide ((-1:Int)<0)=true from rfl,show decide ((⟨#[32]⟩:BA)=⟨#[]⟩)=false from rfl,e1,e0,hc,show (((1:Nat):Int)==0)=false from rfl,show (((1:Nat):Int)==1)=true from rfl,cond_true,cond_false]
 rw [gp dc]
 simp only [Option.bind_some]
 rw [hm,gp dc,s']
 simp only [Option.bind_some]
 rw [gp ⟨dc,(by decide:(4:Int)<((5:Nat):Int))⟩,gp ⟨dc,dc,(by decide:(aw (4+1)).toNat≤5)⟩]
 simp only [Option.bind_some]
 obtain ⟨r,u,t,p⟩:=x
 cases p <;> rfl
theorem G9:∀ r∈jC,Ev (fun k=>mU.f k (C3 r)) (.d141 r):=fun r hr=>by
 simp only [jC,List.mem_cons,List.not_mem_nil,or_false] at hr
 rcases hr with rfl | rfl <;> exact Ev.add 20 fun m=>kr
theorem HJ:∀ r∈lP,Ev (fun k=>mU.f k (DT r)) (.d143 r):=fun r hr=>by
 simp only [lP,List.mem_cons,List.not_mem_nil,or_false] at hr
 rcases hr with rfl | rfl | rfl | rfl | rfl | rfl | rfl | rfl | rfl <;> exact Ev.add 20 fun m=>kr
end Go.Proofs.YtfknmdelgepbjaaGreatDoor
