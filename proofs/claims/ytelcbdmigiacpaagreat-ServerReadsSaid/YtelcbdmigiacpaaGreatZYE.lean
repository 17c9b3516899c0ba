import Derived.Test.YtelcbdmigiacpaaGreatZVG
import Derived.Test.YtelcbdmigiacpaaGreatZWalks4
set_option linter.all false
set_option maxRecDepth 10000
namespace Go.Proofs.YtelcbdmigiacpaaGreat
open Go Go.Sp
structure RG (L:List Event):Prop where
 wC:Good L
 par:∀ e∈L,e.ag.length<=4
 mC:∀ e∈L,e.cW=0\/e.cW=1\/e.cW=2
 usr:∀ e∈L,e.aC.size<=maxLen
 len:L.length<=1000
theorem Hs {m:bM} {L:List Event} (h:RG L) (hT:T m=tb L):RT m (tb L):=
 ⟨hT,uo h.wC,Hw L,λx hx=>h.par _ (by rw [<- AB L];exact List.mem_map.2 ⟨x,hx,rfl⟩),by rw [Ep];exact h.len⟩
theorem wJ (p q:Pos):bD.f p q=some (ltOf jy p q):=by
 unfold bD.f
 have h:=xv p q
 by_cases h1:p.br<q.br
 ·rw [dT h1,(h.2 (.inl h1))];rfl
 ·rw [dF h1]
  by_cases h2:p.br=q.br
  ·rw [show(p.br==q.br)=true by simp [h2]]
   show some (il p.cC q.cC)=_
   congr 1
   rw [Bool.eq_iff_iff,h]
   exact⟨λk=>.inr ⟨h2,k⟩,λk=>k.elim (λk=>absurd k h1) (·.2)⟩
  ·rw [show(p.br==q.br)=false by simp [h2]]
   show some false=_
   congr 1
   cases e:ltOf jy p q with
   | false=>rfl
   | true=>
        rcases h.1 e with k | k
        ·exact absurd k h1
        ·exact absurd k.1 h2
def zeroE:Event:=⟨⟨#[]⟩,⟨#[]⟩,[],⟨#[]⟩,⟨#[]⟩,0⟩
def pr:Option Event->Event×Bool
 | some e=>(e,true)
 | none=>(zeroE,false)
section
variable {d:bq} (hg:RG d.fL)
include hg
theorem Fq (id:BA):Ev (λk=>kh.f k d id) (pos (tb d.fL) id):=
 IM hg.wC (by have:=hg.len;omega) (λi hi=>by have:=hg.par _ (zU hi);show _<=9223372036854775807;omega) id
def Je:Option Event->Bool
 | some e=>e.cW==1
 | none=>false
end
section
variable {m:bM} {L:List Event} (hg:RG L) (hT:T m=tb L)
include hg hT
theorem Fx:(nG (tb L)).length<=1000:=by rw [(vu hg.wC).length_eq];exact hg.len
theorem EG (u:BA):Nd (jm (nG (tb L)))/\mget (jm (nG (tb L))) u=oj (qk u (nG (tb L)) none):=by
 have:=HU (nG (tb L)) (λe he=>hg.mC e ((vu hg.wC).mem_iff.1 he)) [] (λ_=>none) xZ (λ_=>rfl)
 exact⟨this.1,this.2 u⟩
theorem Hx (o:Option Event):decide (0<(oj o).getD 0)=Je o/\((oj o).isSome=Je o):=by
 cases o with
 | none=>exact⟨rfl,rfl⟩
 | some e=>
  unfold oj Je
  by_cases h:e.cW=1
  ·simp [h]
  ·simp [h]
theorem Ax (u:BA):Ev (λk=>kO.f k m u) (Je (qk u (nG (tb L)) none)):=by
 unfold kO.f
 refine Ev.bind (wI (Hs hg hT)) (Ev.of ?_)
 rw [(EG hg hT u).2,(Hx hg hT _).1]
theorem Ha {u:BA} (h:Je (qk u (nG (tb L)) none)=true):∃ i,0<=i/\i<L.length/\(ev L i).aC=u:=by
 have:=DS hg.wC u
 cases e:qk u (nG (tb L)) none with
 | none=>rw [e] at h;cases h
 | some x=>
  rw [e] at this
  obtain⟨i,hi,rfl⟩:=vl this.1
  have h2:=this.2.1
  unfold lY at h2
  simp at h2
  exact⟨i,om,hi,h2.1⟩
end
structure Zz (e:ak):Prop where
 room:e.aj.size<=maxLen
 user:e.aC.size<=maxLen
 event:e.bP.size<=maxLen
 nL:e.ah.size<=maxLen
def nD (s:BA):Bool:=decide (s=eE)||(decide (s=(⟨#[109,97,105,110]⟩:BA))||kQ s)
theorem F1 {s:BA} (hs:s.size<=maxLen):Ev (λk=>mh.f k s) (nD s):=by
 unfold mh.f nD
 by_cases h1:s=eE
 ·rw [dT h1];exact Ev.pure
 ·rw [dF h1]
  by_cases h2:s=(⟨#[109,97,105,110]⟩:BA)
  ·rw [dT h2];exact Ev.pure
  ·rw [dF h2];exact Ev.bind (sL hs) Ev.pure
theorem Hi {s:BA} (hs:s.size<=maxLen):Ev (λk=>nt.f k s) (nD s):=by
 unfold nt.f nD
 refine Ev.bind (pV hs) ?_
 by_cases h1:s=eE
 ·rw [dT h1];exact Ev.pure
 ·rw [dF h1]
  by_cases h2:s=(⟨#[109,97,105,110]⟩:BA)
  ·rw [dT h2];exact Ev.pure
  ·rw [dF h2];exact Ev.pure
theorem zN {α:Type} {c:Bool} {a b:α}:cond c (some a) (some b)=some (cond c a b):=by cases c <;> rfl
theorem dle {x y:Int}:decide (x<=y) = !decide (y<x):=by
 rw [Bool.eq_iff_iff];simp
def Jl (e:ak):Bool:=dh e.aC 64&&(!decide (e.bK<0) && !decide (1099511627776<e.bK)&&(!decide (e.aS<0) && !decide (1099511627776<e.aS)))
def mb (e:ak):Bool:=
 cond (e.bf==1) (cond (cond (dh e.aj 33) (cond (kQ e.bP) (nD e.ah) false) false) (cond (!e.lO&&(e.cX==0)&&(e.bU==0)) (cond (dh e.aC 64) (!decide (e.bK<0) && !decide (1099511627776<e.bK)&&(!decide (e.aS<0) && !decide (1099511627776<e.aS))) false) false) false)
  (cond (e.bf==2) (cond (dh e.aj 33) (cond e.lO (!decide (e.cX<1) && !decide (60<e.cX)) (e.cX==0)) false&&(((decide (e.bP=eE)&&decide (e.ah=eE))&&((e.bU==0) && !e.ay))&&Jl e))
   (cond (e.bf==3) ((!decide (e.bU<0) && !decide (2<e.bU))&&((((decide (e.aj=eE)&&decide (e.bP=eE))&&decide (e.ah=eE))&&((!e.lO&&(e.cX==0)) && !e.ay))&&Jl e)) false))
theorem Dg {e:ak} (z:Zz e):∃ b,b=mb e/\Ev (λk=>eG.f k e) b/\Ev (λk=>iC.f k e) b:=by
 obtain⟨n1,h1⟩:=AI z.room
 obtain⟨n2,h2⟩:=Ai z.user
 obtain⟨n3,h3⟩:=sL z.event
 obtain⟨n4,h4⟩:=F1 z.nL
 have hn:∀ b,(∀ k,max (max n1 n2) (max n3 n4)<=k->eG.f k e=some b)->Ev (λk=>eG.f k e) b:=λb h=>⟨_,h⟩
 have href:∀ b,b=mb e->Ev (λk=>iC.f k e) b->(∀ k,max (max n1 n2) (max n3 n4)<=k->eG.f k e=some b)->∃ b,b=mb e/\Ev (λk=>eG.f k e) b/\Ev (λk=>iC.f k e) b:=λb hb h h'=>⟨b,hb,hn b h',h⟩
 have hu:=yc (c:=64) dc z.user
 have hr:=yc (c:=33) dc z.room
 have he:=pV z.event
 have ht:=Hi z.nL
 obtain⟨K,ro,us,ev,th,pr,on,sp,st,ti,sm⟩:=e
 simp only at h1 h2 h3 h4 hu hr he ht
 by_cases hk:K=1\/K=2\/K=3
 ·have d1:decide ((1:Int)<0)=false:=rfl
  have d2:decide ((3:Int)<1)=false:=rfl
  have d3:decide ((2:Int)<0)=false:=rfl
  have d4:decide ((3:Int)<2)=false:=rfl
  have d5:decide ((3:Int)<0)=false:=rfl
  have d6:decide ((3:Int)<3)=false:=rfl
  have b1:((1:Int)==1)=true:=rfl
  have b2:((2:Int)==1)=false:=rfl
  have b3:((2:Int)==2)=true:=rfl
  have b4:((3:Int)==1)=false:=rfl
  have b5:((3:Int)==2)=false:=rfl
  have b6:((3:Int)==3)=true:=rfl
  have g:∀ (k:Nat) (i:Int),0<=i->i<4->(0:Int)<=i/\i<(([jS.f,iJ.f k,λa0_=>gW.f k a0_ dp.f,λa0_=>gZ.f a0_ dp.f]:List (ak->Option Bool)).length:Int):=λk i h0 h1=>⟨h0,by simpa using h1⟩
  rcases hk with rfl | rfl | rfl
  ·refine href (cond (cond (dh ro 33) (cond (kQ ev) (nD th) false) false) (cond (!on&&(sp==0)&&(st==0)) (cond (dh us 64) (!decide (ti<0) && !decide (1099511627776<ti)&&(!decide (sm<0) && !decide (1099511627776<sm))) false) false) false) rfl ?_ λk hk=>?_
   ·unfold iC.f
    refine Ev.bind hu (Ev.bind hr (Ev.bind he (Ev.bind ht (Ev.of ?_))))
    simp only [b1,cond_true]
    generalize dh us 64=a1
    generalize dh ro 33=a2
    generalize kQ ev=a3
    generalize nD th=a4
    generalize decide (ti<0)=a5
    generalize decide (1099511627776<ti)=a6
    generalize decide (sm<0)=a7
    generalize decide (1099511627776<sm)=a8
    generalize (sp==0)=a9
    generalize (st==0)=a10
    simp only [zN]
    congr 1
    cases a1 <;> cases a5 <;> cases a6 <;> cases a7 <;> cases a8 <;> cases a2 <;> cases a3 <;> cases a4 <;> try rfl
    all_goals (cases on <;> cases a9 <;> cases a10 <;> rfl)
   ·have r:=h1 k om
    have u:=h2 k om
    have v:=h3 k om
    have t:=h4 k om
    have e4:jD.at [jS.f,iJ.f k,λa0_=>gW.f k a0_ dp.f,λa0_=>gZ.f a0_ dp.f] 1=iJ.f k:=rfl
    have eq1:decide ((⟨1,ro,us,ev,th,pr,on,sp,st,ti,sm⟩:ak)=⟨1,ro,us,ev,th,pr,false,0,0,ti,sm⟩)=(!on&&(sp==0)&&(st==0)):=by
     rw [Bool.eq_iff_iff]
     simp only [decide_eq_true_eq,ak.mk.injEq,true_and,and_true,Bool.and_eq_true,beq_iff_eq,Bool.not_eq_true',and_assoc]
    simp only [eG.f,oJ.f,Option.bind_some,d1,d2,cond_false]
    simp only [e4,aF]
    rw [if_pos (g k 1 dc dc)]
    simp only [Option.bind_some,iJ.f,r,v,t,ni.f,jO.f,b1,cond_true,eq1,u,dle,zN]
    generalize dh us 64=a1
    generalize dh ro 33=a2
    generalize kQ ev=a3
    generalize nD th=a4
    generalize decide (ti<0)=a5
    generalize decide (1099511627776<ti)=a6
    generalize decide (sm<0)=a7
    generalize decide (1099511627776<sm)=a8
    generalize (!on&&(sp==0)&&(st==0))=a9
    cases a2 <;> cases a3 <;> cases a4 <;> cases a9 <;> cases a1 <;> try rfl
    all_goals (cases a5 <;> cases a6 <;> cases a7 <;> cases a8 <;> rfl)
  ·refine href (cond (dh ro 33) (cond on (!decide (sp<1) && !decide (60<sp)) (sp==0)) false&&(((decide (ev=eE)&&decide (th=eE))&&((st==0) && !pr))&&(dh us 64&&(!decide (ti<0) && !decide (1099511627776<ti)&&(!decide (sm<0) && !decide (1099511627776<sm)))))) rfl ?_ λk hk=>?_
   ·unfold iC.f
    refine Ev.bind hu (Ev.bind hr (Ev.bind he (Ev.bind ht (Ev.of ?_))))
    simp only [b2,b3,cond_true,cond_false,dle]
    generalize dh us 64=a1
    generalize dh ro 33=a2
    generalize decide (ti<0)=a5
    generalize decide (1099511627776<ti)=a6
    generalize decide (sm<0)=a7
    generalize decide (1099511627776<sm)=a8
    generalize (sp==0)=a9
    generalize (st==0)=a10
    generalize decide (sp<1)=a11
    generalize decide (60<sp)=a12
    generalize decide (ev=eE)=a13
    generalize decide (th=eE)=a14
    simp only [zN]
    congr 1
    cases a1 <;> cases a5 <;> cases a6 <;> cases a7 <;> cases a8 <;> cases a2 <;> cases on <;> simp
    all_goals (cases a9 <;> cases a10 <;> cases a11 <;> cases a12 <;> cases a13 <;> cases a14 <;> rfl)
   ·have r:=h1 k om
    have u:=h2 k om
    have e4:jD.at [jS.f,iJ.f k,λa0_=>gW.f k a0_ dp.f,λa0_=>gZ.f a0_ dp.f] 2=λa0_=>gW.f k a0_ dp.f:=rfl
    have eq1:∀ (s:Int) (o:Bool),decide ((⟨2,ro,us,ev,th,pr,o,sp,st,ti,sm⟩:ak)=⟨2,ro,us,⟨#[]⟩,⟨#[]⟩,false,o,s,0,ti,sm⟩)=((decide (ev=⟨#[]⟩)&&decide (th=⟨#[]⟩)&&(st==0) && !pr)&&(sp==s)):=λs o=>by
     rw [Bool.eq_iff_iff]
     simp only [decide_eq_true_eq,ak.mk.injEq,true_and,and_true,Bool.and_eq_true,beq_iff_eq,Bool.not_eq_true']
     constructor
     ·rintro⟨h1,h2,h3,h4,h5⟩;exact⟨⟨⟨⟨h1,h2⟩,h5⟩,h3⟩,h4⟩
     ·rintro⟨⟨⟨⟨h1,h2⟩,h5⟩,h3⟩,h4⟩;exact⟨h1,h2,h3,h4,h5⟩
    simp only [eG.f,oJ.f,Option.bind_some,d3,d4,cond_false]
    simp only [e4,aF]
    rw [if_pos (g k 2 dc dc)]
    simp only [Option.bind_some,gW.f,r,ni.f,jO.f,dp.f,b2,b3,cond_true,cond_false,dle]
    cases on
    all_goals
     simp only [cond_true,cond_false,eq1,beq_self_eq_true,Bool.and_true,Bool.not_true,Bool.not_false,Option.bind_some,u]
     generalize dh us 64=a1
     generalize dh ro 33=a2
     generalize decide (ti<0)=a5
     generalize decide (1099511627776<ti)=a6
     generalize decide (sm<0)=a7
     generalize decide (1099511627776<sm)=a8
     generalize decide (ev=eE)=a13
     generalize decide (th=eE)=a14
     generalize (st==0)=a10
     generalize (sp==0)=a9
     generalize decide (sp<1)=a11
     generalize decide (60<sp)=a12
     cases a2 <;> cases a9 <;> cases a11 <;> cases a12 <;> cases a1 <;> cases a13 <;> cases a14 <;> cases a10 <;> cases pr <;> try rfl
     all_goals (cases a5 <;> cases a6 <;> cases a7 <;> cases a8 <;> rfl)
  ·refine href ((!decide (st<0) && !decide (2<st))&&((((decide (ro=eE)&&decide (ev=eE))&&decide (th=eE))&&((!on&&(sp==0)) && !pr))&&(dh us 64&&(!decide (ti<0) && !decide (1099511627776<ti)&&(!decide (sm<0) && !decide (1099511627776<sm)))))) rfl ?_ λk hk=>?_
   ·unfold iC.f
    refine Ev.bind hu (Ev.bind hr (Ev.bind he (Ev.bind ht (Ev.of ?_))))
    simp only [b4,b5,b6,cond_true,cond_false,dle]
    generalize dh us 64=a1
    generalize decide (ti<0)=a5
    generalize decide (1099511627776<ti)=a6
    generalize decide (sm<0)=a7
    generalize decide (1099511627776<sm)=a8
    generalize (sp==0)=a9
    generalize decide (st<0)=a11
    generalize decide (2<st)=a12
    generalize decide (ev=eE)=a13
    generalize decide (th=eE)=a14
    generalize decide (ro=eE)=a15
    simp only [zN]
    congr 1
    cases a1 <;> cases a5 <;> cases a6 <;> cases a7 <;> cases a8 <;> simp
    all_goals (cases a9 <;> cases a11 <;> cases a12 <;> cases a13 <;> cases a14 <;> cases a15 <;> cases on <;> cases pr <;> rfl)
   ·have u:=h2 k om
    have e4:jD.at [jS.f,iJ.f k,λa0_=>gW.f k a0_ dp.f,λa0_=>gZ.f a0_ dp.f] 3=λa0_=>gZ.f a0_ dp.f:=rfl
    have eq1:decide ((⟨3,ro,us,ev,th,pr,on,sp,st,ti,sm⟩:ak)=⟨3,⟨#[]⟩,us,⟨#[]⟩,⟨#[]⟩,false,false,0,st,ti,sm⟩)=(((decide (ro=eE)&&decide (ev=eE))&&decide (th=eE))&&((!on&&(sp==0)) && !pr)):=by
     rw [Bool.eq_iff_iff]
     simp only [decide_eq_true_eq,ak.mk.injEq,true_and,and_true,Bool.and_eq_true,beq_iff_eq,Bool.not_eq_true']
     constructor
     ·rintro⟨h1,h2,h3,h4,h5,h6⟩;exact⟨⟨⟨h1,h2⟩,h3⟩,⟨h5,h6⟩,h4⟩
     ·rintro⟨⟨⟨h1,h2⟩,h3⟩,⟨h5,h6⟩,h4⟩;exact⟨h1,h2,h3,h4,h5,h6⟩
    simp only [eG.f,oJ.f,Option.bind_some,d5,d6,cond_false]
    simp only [e4,aF]
    rw [if_pos (g k 3 dc dc)]
    simp only [Option.bind_some,gZ.f,ni.f,jO.f,dp.f,b4,b5,b6,cond_true,cond_false,dle,eq1,u]
    generalize dh us 64=a1
    generalize decide (ti<0)=a5
    generalize decide (1099511627776<ti)=a6
    generalize decide (sm<0)=a7
    generalize decide (1099511627776<sm)=a8
    generalize decide (st<0)=a11
    generalize decide (2<st)=a12
    generalize (((decide (ro=eE)&&decide (ev=eE))&&decide (th=eE))&&((!on&&(sp==0)) && !pr))=a9
    cases a11 <;> cases a12 <;> cases a9 <;> cases a1 <;> try rfl
    all_goals (cases a5 <;> cases a6 <;> cases a7 <;> cases a8 <;> rfl)
 ·have k1:(K==1)=false:=by rw [beq_eq_false_iff_ne];omega
  have k2:(K==2)=false:=by rw [beq_eq_false_iff_ne];omega
  have k3:(K==3)=false:=by rw [beq_eq_false_iff_ne];omega
  refine href false (by unfold mb;simp only [k1,k2,k3,cond_false]) ?_ λk hk'=>?_
  ·unfold iC.f
   refine Ev.bind hu (Ev.bind hr (Ev.bind he (Ev.bind ht (Ev.of ?_))))
   simp only [k1,k2,k3,cond_false,Bool.cond_self,zN]
  ·by_cases c1:K<0
   ·simp only [eG.f,dT c1,cond_true]
   ·by_cases c2:3<K
    ·simp only [eG.f,dT c2,dF c1,cond_true,cond_false]
    ·obtain rfl:K=0:=om
     rfl
theorem wk {e:ak} (z:Zz e):Ev (λk=>eG.f k e) (mb e)/\Ev (λk=>iC.f k e) (mb e):=by
 obtain⟨b,rfl,h1,h2⟩:=Dg z
 exact⟨h1,h2⟩
def AG (e:ak):Bool:=cond (mb e) (!e.ay) false
theorem EZ {e:ak} (z:Zz e):Ev (λk=>jX.f k e) (AG e)/\Ev (λk=>oP.f k e) (AG e):=by
 obtain⟨h1,h2⟩:=wk z
 unfold AG
 constructor
 ·unfold jX.f;refine Ev.bind h1 ?_;cases mb e <;> exact Ev.pure
 ·unfold oP.f;refine Ev.bind h2 ?_;cases mb e <;> exact Ev.pure
structure GE (e:ak):Prop where
 kind:e.bf=1\/e.bf=2\/e.bf=3
 user:e.aC∈oI
 room:e.bf≠3->e.aj∈ly
 Ht:e.bf=3->e.aj=⟨#[]⟩
 event:e.bf=1->∃ j,j<9/\e.bP=mZ j
 Ao:e.bf≠1->e.bP=⟨#[]⟩
 nL:e.bf=1->e.ah=⟨#[]⟩\/e.ah=⟨#[109,97,105,110]⟩\/∃ j,j<9/\e.ah=mZ j
 xA:e.bf≠1->e.ah=⟨#[]⟩
 priv:e.bf≠1->e.ay=false
 on:e.bf≠2->e.lO=false
 EX:e.lO=false->e.cX=0
 span1:e.lO=true->1<=e.cX/\e.cX<=60
 DP:e.bf≠3->e.bU=0
 state:0<=e.bU/\e.bU<=2
 tick:0<=e.bK/\e.bK<100
 Dc:0<=e.aS/\e.aS<9
theorem uL {u:BA} (h:u∈oI):dh u 64=true/\u.size=5:=by
 have:∀ u∈oI,dh u 64=true/\u.size=5:=by decide +kernel
 exact this u h
theorem ux {u:BA} (h:u∈ly):dh u 33=true/\u.size=5:=by
 have:∀ u∈ly,dh u 33=true/\u.size=5:=by decide +kernel
 exact this u h
theorem GE.zz {e:ak} (h:GE e):Zz e:=by
 refine⟨?_,?_,?_,?_⟩
 ·by_cases k:e.bf=3
  ·rw [h.Ht k];exact Nat.zero_le _
  ·rw [(ux (h.room k)).2];decide
 ·rw [(uL h.user).2];decide
 ·by_cases k:e.bf=1
  ·obtain⟨j,_,ej⟩:=h.event k;rw [ej];exact qE j
  ·rw [h.Ao k];exact Nat.zero_le _
 ·by_cases k:e.bf=1
  ·rcases h.nL k with ej | ej | ⟨j,_,ej⟩ <;> rw [ej]
   ·exact Nat.zero_le _
   ·show 4<=maxLen;decide
   ·exact qE j
  ·rw [h.xA k];exact Nat.zero_le _
theorem GE.Jl {e:ak} (h:GE e):Jl e=true:=by
 unfold Proofs.YtelcbdmigiacpaaGreat.Jl
 have a:=h.tick
 have b:=h.Dc
 simp [(uL h.user).1]
 omega
theorem GE.local {e:ak} (h:GE e):mb e=true:=by
 have ho:=h.Jl
 have hu:=(uL h.user).1
 have a:=h.tick
 have b:=h.Dc
 unfold mb
 rcases h.kind with k | k | k
 ·have e1:(e.bf==1)=true:=by rw [k];rfl
  have n2:e.bf≠2:=om
  have n3:e.bf≠3:=om
  obtain⟨j,hj,ej⟩:=h.event k
  have hth:nD e.ah=true:=by
   unfold nD
   rcases h.nL k with ej | ej | ⟨j,hj,ej⟩
   ·simp [ej]
   ·simp [ej]
   ·simp [ej,vt j hj]
  have c1:decide (e.bK<0)=false:=by rw [decide_eq_false_iff_not];omega
  have c2:decide (1099511627776<e.bK)=false:=by rw [decide_eq_false_iff_not];omega
  have c3:decide (e.aS<0)=false:=by rw [decide_eq_false_iff_not];omega
  have c4:decide (1099511627776<e.aS)=false:=by rw [decide_eq_false_iff_not];omega
  rw [e1,ej,vt j hj,hth,hu,c1,c2,c3,c4,h.on n2,h.EX (h.on n2),h.DP n3,(ux (h.room n3)).1]
  rfl
 ·have e1:(e.bf==1)=false:=by rw [k];rfl
  have e2:(e.bf==2)=true:=by rw [k];rfl
  have n1:e.bf≠1:=om
  have n3:e.bf≠3:=om
  rw [e1,e2,ho,h.Ao n1,h.xA n1,h.priv n1,h.DP n3,(ux (h.room n3)).1]
  cases o:e.lO with
  | false=>rw [h.EX o];rfl
  | true=>
   have:=h.span1 o
   rw [show decide (e.cX<1)=false by rw [decide_eq_false_iff_not];omega,show decide (60<e.cX)=false by rw [decide_eq_false_iff_not];omega]
   rfl
 ·have e1:(e.bf==1)=false:=by rw [k];rfl
  have e2:(e.bf==2)=false:=by rw [k];rfl
  have e3:(e.bf==3)=true:=by rw [k];rfl
  have n1:e.bf≠1:=om
  have n2:e.bf≠2:=om
  have c:=h.state
  rw [e1,e2,e3,ho,h.Ao n1,h.xA n1,h.priv n1,h.on n2,h.EX (h.on n2),h.Ht k,show decide (e.bU<0)=false by rw [decide_eq_false_iff_not];omega,show decide (2<e.bU)=false by rw [decide_eq_false_iff_not];omega]
  rfl
theorem vY {n:Int} (hn:Hk n):∃ j,j<9/\Ev (λk=>dw.f k n) (mZ j):=by
 obtain⟨m,h1,h2,h3⟩:=mq (m:=9) hn dc dc
 obtain⟨k,hk,rfl⟩:=int_lt (n:=9) h2 h3
 refine⟨k,hk,?_⟩
 have h:=kB k hk
 unfold dw.f at h ⊢
 rw [show(9:Int)=((9:Nat):Int) from rfl,sf hk dc] at h
 rw [h1]
 exact h
theorem zD {n:Int} (hn:Hk n):∃ r,Ev (λk=>lJ.f k n) r/\(r=⟨#[]⟩\/r=⟨#[109,97,105,110]⟩\/∃ j,j<9/\r=mZ j):=by
 obtain⟨m,h1,h2,h3⟩:=mq (m:=11) hn dc dc
 unfold lJ.f
 by_cases e1:m=9
 ·exact⟨_,Ev.bind (Ev.of h1) (Ev.ct (by simp [e1]) Ev.pure),.inl rfl⟩
 ·by_cases e2:m=10
  ·exact⟨_,Ev.bind (Ev.of h1) (Ev.cf (by simp [e1]) (Ev.ct (by simp [e2]) Ev.pure)),.inr (.inl rfl)⟩
  ·obtain⟨j,hj,hr⟩:=vY (n:=m) ⟨om,om⟩
   exact⟨_,Ev.bind (Ev.of h1) (Ev.cf (by simp [e1]) (Ev.cf (by simp [e2]) (Ev.bind hr Ev.pure))),.inr (.inr ⟨j,hj,rfl⟩)⟩
theorem Ib {a b:BA} (h:a.data.toList=b.data.toList):a=b:=by
 obtain⟨⟨a⟩⟩:=a;obtain⟨⟨b⟩⟩:=b;simp at h;subst h;rfl
set_option maxRecDepth 100000
def ths:List BA:=⟨#[]⟩::⟨#[109,97,105,110]⟩::(List.range 9).map mZ
def allK:List aM:=ly.flatMap λr=>oI.flatMap λu=>ths.flatMap λt=>[⟨r,u,t,false⟩,⟨r,u,t,true⟩]
structure Kx (x:aM):Prop where
 room:x.aj∈ly
 user:x.aC∈oI
 nL:x.ah∈ths
theorem Kx.mem {x:aM} (h:Kx x):x∈allK:=by
 obtain⟨r,u,t,p⟩:=x
 refine List.mem_flatMap.2 ⟨r,h.room,List.mem_flatMap.2 ⟨u,h.user,List.mem_flatMap.2 ⟨t,h.nL,?_⟩⟩⟩
 cases p <;> simp
theorem Al (s:BA) (i j:Nat):(s.extract i j).data.toList=(s.data.toList.take j).drop i:=by
 simp [ByteArray.data_extract,List.drop_take]
def vm (a b:aM):Bool:=ltOf DR a b
theorem Bn (a:aM):vm a a=false:=AR.swo.irrefl a
theorem Dm {a b c:aM} (h:vm a b=true) (k:vm b c=true):vm a c=true:=AR.swo.trans _ _ _ h k
theorem Fs (a b:aM):vm a b=if a.aj=b.aj then if a.aC=b.aC then if a.ah=b.ah then (!a.ay&&b.ay) else il a.ah b.ah else il a.aC b.aC else il a.aj b.aj:=by
 obtain⟨r,u,t,p⟩:=a
 obtain⟨r',u',t',p'⟩:=b
 unfold vm ltOf DR C8
 have hl:∀ x y:BA,x≠y->decide (nS x y<0)=il x y:=λx y _=>by rw [Bool.eq_iff_iff,decide_eq_true_iff,yg]
 by_cases h1:r=r'
 ·subst h1
  simp only [rm.2 (rfl:r=r),if_true]
  by_cases h2:u=u'
  ·subst h2
   simp only [rm.2 (rfl:u=u),if_true]
   by_cases h3:t=t'
   ·subst h3
    simp only [rm.2 (rfl:t=t),if_true]
    cases p <;> cases p' <;> rfl
   ·have e:nS t t'≠0:=λe=>h3 (rm.1 e)
    simp only [e,if_false,h3,hl t t' h3]
  ·have e:nS u u'≠0:=λe=>h2 (rm.1 e)
   simp only [e,if_false,h2,hl u u' h2]
 ·have e:nS r r'≠0:=λe=>h1 (rm.1 e)
  simp only [e,if_false,h1,hl r r' h1]
theorem uu {a b:aM} (h:vm a b=false) (k:vm b a=false):a=b:=by
 obtain⟨r,u,t,p⟩:=a
 obtain⟨r',u',t',p'⟩:=b
 rw [Fs] at h k
 dsimp only at h k
 by_cases h1:r=r'
 ·subst h1
  by_cases h2:u=u'
  ·subst h2
   by_cases h3:t=t'
   ·subst h3
    cases p <;> cases p' <;> simp_all
   ·rw [if_pos rfl,if_pos rfl,if_neg h3] at h;rw [if_pos rfl,if_pos rfl,if_neg (Ne.symm h3)] at k
    exact absurd (mQ h k) h3
  ·rw [if_pos rfl,if_neg h2] at h;rw [if_pos rfl,if_neg (Ne.symm h2)] at k
   exact absurd (mQ h k) h2
 ·rw [if_neg h1] at h;rw [if_neg (Ne.symm h1)] at k
  exact absurd (mQ h k) h1
def Cu (M:List MK):Prop:=M.Pairwise λa b=>vm a.fK b.fK=true
def putM:List MK->aM->Pos->List MK
 | [],k,at_=>[⟨k,at_⟩]
 | m::M,k,at_=>if m.fK=k then (if ltOf jy m.sJ at_=true then ⟨k,at_⟩::M else m::M) else if vm m.fK k=true then m::putM M k at_ else ⟨k,at_⟩::m::M
def gM:List MK->aM->Option Pos
 | [],_=>none
 | m::M,k=>if m.fK=k then some m.sJ else gM M k
def newA (o:Option Pos) (at_:Pos):Pos:=match o with
 | none=>at_
 | some p=>if ltOf jy p at_=true then at_ else p
def Df (o:Option Pos) (at_:Pos):Bool:=match o with
 | none=>true
 | some p=>ltOf jy p at_
theorem xp {M:List MK} {k:aM} (h:∀ m∈M,m.fK≠k):gM M k=none:=by
 induction M with
 | nil=>rfl
 | cons m M ih=>rw [gM,if_neg (h m List.mem_cons_self),ih λx hx=>h x (List.mem_cons_of_mem _ hx)]
theorem Ds {m:MK} {M:List MK} {k:aM} (h:Cu (m::M)) (hk:vm k m.fK=true):∀ x∈m::M,x.fK≠k:=λx hx e=>by
 have hc:=List.pairwise_cons.1 h
 rcases List.mem_cons.1 hx with rfl | hx
 ·rw [e,Bn] at hk;cases hk
 ·have:=Dm hk (hc.1 x hx);rw [e,Bn] at this;cases this
theorem AD {M:List MK} {k:aM} {at_:Pos} (h:Cu M) (k':aM):gM (putM M k at_) k'=if k'=k then some (newA (gM M k) at_) else gM M k':=by
 induction M with
 | nil=>
  by_cases e:k'=k
  ·subst e;simp [putM,gM,newA]
  ·simp [putM,gM,e,Ne.symm e]
 | cons m M ih=>
  have hc:=List.pairwise_cons.1 h
  by_cases h1:m.fK=k
  ·rw [putM,if_pos h1]
   by_cases e:k'=k
   ·subst e
    rw [if_pos rfl,gM,if_pos h1,newA]
    by_cases h2:ltOf jy m.sJ at_=true
    ·rw [if_pos h2,if_pos h2,gM,if_pos rfl]
    ·rw [if_neg h2,if_neg h2,gM,if_pos h1]
   ·rw [if_neg e]
    by_cases h2:ltOf jy m.sJ at_=true
    ·rw [if_pos h2,gM,if_neg (Ne.symm e),gM,if_neg (by rw [h1];exact Ne.symm e)]
    ·rw [if_neg h2]
  ·rw [putM,if_neg h1]
   by_cases h2:vm m.fK k=true
   ·rw [if_pos h2,gM,ih hc.2,gM,gM]
    by_cases e:k'=k
    ·subst e;rw [if_pos rfl,if_neg h1,if_pos rfl,if_neg h1]
    ·rw [if_neg e,if_neg e]
   ·rw [if_neg h2]
    have h3:vm k m.fK=true:=by
     cases e:vm k m.fK with
     | true=>rfl
     | false=>exact absurd (uu (by simpa using h2) e) h1
    rw [xp (Ds h h3),newA,gM]
    by_cases e:k'=k
    ·subst e;simp
    ·rw [if_neg (Ne.symm e),if_neg e]
theorem yO {M:List MK} {k:aM} {at_:Pos}:∀ x∈putM M k at_,x.fK=k\/x∈M:=by
 induction M with
 | nil=>intro x hx;simp [putM] at hx;left;rw [hx]
 | cons m M ih=>
  intro x hx
  rw [putM] at hx
  split at hx
  ·rename_i h1
   split at hx
   ·rcases List.mem_cons.1 hx with rfl | hx
    ·exact .inl rfl
    ·exact .inr (List.mem_cons_of_mem _ hx)
   ·exact .inr hx
  ·split at hx
   ·rcases List.mem_cons.1 hx with rfl | hx
    ·exact .inr List.mem_cons_self
    ·exact(ih x hx).imp_right (List.mem_cons_of_mem _)
   ·rcases List.mem_cons.1 hx with rfl | hx
    ·exact .inl rfl
    ·exact .inr hx
theorem Gd {M:List MK} {k:aM} {at_:Pos} (h:Cu M):Cu (putM M k at_):=by
 induction M with
 | nil=>exact List.pairwise_cons.2 ⟨λx hx=>(by cases hx),List.Pairwise.nil⟩
 | cons m M ih=>
  have hc:=List.pairwise_cons.1 h
  rw [putM]
  split
  ·rename_i h1
   split
   ·exact List.pairwise_cons.2 ⟨λx hx=>by have:=hc.1 x hx;rwa [h1] at this,hc.2⟩
   ·exact h
  ·rename_i h1
   split
   ·rename_i h2
    refine List.pairwise_cons.2 ⟨λx hx=>?_,ih hc.2⟩
    rcases yO x hx with e | hx
    ·rw [e];exact h2
    ·exact hc.1 x hx
   ·rename_i h2
    have h3:vm k m.fK=true:=by
     cases e:vm k m.fK with
     | true=>rfl
     | false=>exact absurd (uu (by simpa using h2) e) h1
    refine List.pairwise_cons.2 ⟨λx hx=>?_,h⟩
    rcases List.mem_cons.1 hx with rfl | hx
    ·exact h3
    ·exact Dm h3 (hc.1 x hx)
theorem wO (x y:Pos):Ev (λk=>jN.f k x y) (jy x y):=by
 unfold jN.f
 refine Ev.bind (Ev.of (DD _ _)) (Ev.bind (Ev.of (I7 _ _)) (Ev.bind (HI _ _) ?_))
 refine Ev.of ?_
 congr 1
 unfold Proofs.YtelcbdmigiacpaaGreat.rS jy
 by_cases h1:x.br<y.br
 ·simp [h1]
 ·by_cases h2:y.br<x.br <;> simp [h1,h2]
structure uj (t:gP) (M:List MK):Prop where
 nd:Nd t.dA
 IA:Cu M
 get:∀ k,mget t.dA k=gM M k
theorem vN:uj ⟨[]⟩ []:=⟨xZ,List.Pairwise.nil,λ_=>rfl⟩
theorem E1 {t:gP} {M:List MK} (h:uj t M) (k:aM) (at_:Pos):uj ⟨mput t.dA k (newA (gM M k) at_)⟩ (putM M k at_):=
 ⟨qQ h.nd,Gd h.IA,λk'=>by
  rw [AD h.IA]
  show mget (mput _ _ _) _=_
  rw [ir]
  by_cases e:k=k'
  ·subst e;rw [if_pos rfl,if_pos rfl]
  ·rw [if_neg e,if_neg (Ne.symm e),h.get]⟩
theorem Ee {M:List MK} {k:aM} {at_:Pos} (h:Df (gM M k) at_=false) (hs:Cu M):putM M k at_=M:=by
 induction M with
 | nil=>cases h
 | cons m M ih=>
  have hc:=List.pairwise_cons.1 hs
  rw [gM] at h
  rw [putM]
  by_cases h1:m.fK=k
  ·rw [if_pos h1] at h;rw [if_pos h1,if_neg (by show ¬ _;rw [show ltOf jy m.sJ at_=false from h];decide)]
  ·rw [if_neg h1] at h
   rw [if_neg h1]
   by_cases h2:vm m.fK k=true
   ·rw [if_pos h2,ih h hc.2]
   ·have h3:vm k m.fK=true:=by
     cases e:vm k m.fK with
     | true=>rfl
     | false=>exact absurd (uu (by simpa using h2) e) h1
    rw [xp λx hx=>Ds hs h3 x (List.mem_cons_of_mem _ hx)] at h;cases h
theorem uH {t:gP} {M:List MK} (h:uj t M) (k:aM) (at_:Pos):∃ t',uj t' (putM M k at_)/\Ev (λn=>cM.f n t k at_) (Df (gM M k) at_,t'):=by
 unfold cM.f
 have hr:=E1 h k at_
 have hg:=h.get k
 cases hm:gM M k with
 | none=>
  rw [hm] at hg hr
  exact⟨_,hr,Ev.cf (by rw [hg];rfl) Ev.pure⟩
 | some p=>
  rw [hm] at hg hr
  simp only [newA] at hr
  by_cases hl:ltOf jy p at_=true
  ·rw [if_pos hl] at hr
   refine⟨_,hr,Ev.ct (by rw [hg];rfl) (Ev.bind (wO _ _) (Ev.cf ?_ (Ev.of ?_)))⟩
   ·rw [hg];unfold ltOf at hl;rw [decide_eq_true_iff] at hl;rw [decide_eq_false_iff_not];show ¬ (0<=jy p at_);omega
   ·show _=some (ltOf jy p at_,_);rw [hl]
  ·have hl':ltOf jy p at_=false:=by simpa using hl
   refine⟨t,?_,Ev.ct (by rw [hg];rfl) (Ev.bind (wO _ _) (Ev.ct ?_ (Ev.of ?_)))⟩
   ·rw [Ee (by rw [hm];exact hl') h.IA];exact h
   ·rw [hg];unfold ltOf at hl';rw [decide_eq_false_iff_not] at hl';rw [decide_eq_true_iff];show 0<=jy p at_;omega
   ·show _=some (ltOf jy p at_,_);rw [hl']
structure zT (v:au) (w:dm):Prop where
 rel:yj v w
 ly:w.fD.length<=50
 len:∀ room,(kc w room).fL.length<=1000
theorem FQ:zT ⟨[]⟩ ⟨[]⟩:=⟨EL,sM,λ_=>by simp [kc]⟩
inductive sj:au->dm->List Event->au->dm->Prop
 | nil {v w}:zT v w->sj v w [] v w
 | cons {v w e v1 w1 l v' w'}:zT v w->Ev (λk=>iU.f k v e) (0,v1)->Ev (λk=>eT.f k w e) (w1,0)->sj v1 w1 l v' w'->sj v w (e::l) v' w'
theorem sj.ok {v w l v' w'} (h:sj v w l v' w'):zT v w:=by cases h <;> assumption
theorem sj.ok2 {v w l v' w'} (h:sj v w l v' w'):zT v' w':=by
 induction h with
 | nil h=>exact h
 | cons _ _ _ _ ih=>exact ih
theorem sj.app {v w l v1 w1 l' v' w'} (h:sj v w l v1 w1) (h':sj v1 w1 l' v' w'):sj v w (l++l') v' w':=by
 induction h with
 | nil=>exact h'
 | cons o a b _ ih=>exact .cons o a b (ih h')
theorem HA {l:List Event} {x:Nat} (hx:x<l.length):l.drop x=ev l x::l.drop (x+1):=by
 rw [List.drop_eq_getElem_cons hx];unfold ev;rw [gD,gE hx];rfl
theorem vJ {room:BA} {L:List Event} (hc:rR room L) (hl:L.length<=100):∀ n i:Nat,L.length-i=n->i<=L.length->∀ (v:au) (w:dm),zT v w->w.fD.length+n<=50->kc w room=⟨room,L.take i⟩->
  ∃ v' w',sj v w (L.drop i) v' w'/\w'.fD.length<=w.fD.length+n/\kc w' room=⟨room,L⟩/\∀ r,r≠room->kc w' r=kc w r:=by
 intro n
 induction n with
 | zero=>
  intro i hd hi v w hr hw ho
  obtain rfl:i=L.length:=om
  rw [List.drop_length]
  rw [List.take_length] at ho
  exact⟨v,w,.nil hr,om,ho,λ_ _=>rfl⟩
 | succ n ih=>
  intro i hd hi v w hr hw ho
  have hi2:i<L.length:=om
  obtain⟨h1,h2,h3⟩:=hc i hi2
  have ho2:kc w (ev L i).aj=⟨room,L.take i⟩:=by rw [h2];exact ho
  obtain⟨v1,w1,a1,a2,a3,_,a5⟩:=F5 hr.rel h1 om (by rw [ho2];show(L.take i).length<=_;rw [List.length_take];omega)
  rw [ho2] at a1 a2 a5
  rw [h3] at a1 a2 a5
  obtain⟨a6,a7⟩:=a5 rfl
  have ht:L.take (i+1)=L.take i++[ev L i]:=by
   rw [List.take_succ_eq_append_getElem hi2];unfold ev;rw [gD,gE hi2];rfl
  have hv1:zT v1 w1:=⟨a3,om,λr=>by
   rw [a6 r]
   split
   ·show(L.take i++[ev L i]).length<=1000
    rw [List.length_append,List.length_take,List.length_singleton];omega
   ·exact hr.len r⟩
  obtain⟨v',w',b1,b3,b4,b5⟩:=ih (i+1) om om v1 w1 hv1 om (by rw [a6,h2,if_pos rfl,ht])
  rw [HA hi2]
  refine⟨v',w',.cons hr a1 a2 b1,om,b4,λr hne=>?_⟩
  rw [b5 r hne,a6,h2,if_neg hne]
def Bl:BA:=⟨#[33,114,58,115,49]⟩
def BL:BA:=⟨#[33,113,58,115,50]⟩
theorem rg_of {m:bM} {d:bq} (h:Au m d) (hl:d.fL.length<=1000):RG d.fL:=⟨h.wC,h.par,h.mC,h.usr,hl⟩
theorem zM (P:List BA) (c:BA) (C:List BA) (d:BA):(P++c::C).getD P.length d=c:=by
 rw [gD,List.getElem?_append_right om,Nat.sub_self];rfl
section
variable {p:Nat->BA->Option Bool} {b:BA->Bool} (hp:∀ x,Ev (λk=>p k x) (b x))
include hp
theorem yI:∀ C P:List BA,(P++C).length<=100000->
  (∃ A c D,C=A++c::D/\(∀ a∈A,b a=false)/\b c=true/\El (λk j=>aX.l0 k (P++C) (p k) j (P.length:Int)) (.inr ((P.length+A.length:Nat):Int)))\/
  ((∀ a∈C,b a=false)/\El (λk j=>aX.l0 k (P++C) (p k) j (P.length:Int)) (.inl (((P++C).length:Int),false)))
 | [],P,hl=>by
  right
  refine⟨λa h=>(by cases h),?_⟩
  refine El.step (λ_ _=>by rw [aX.l0]) ?_
  rw [List.append_nil]
  exact El.cf sM (by simpa using El.pure)
 | c::C,P,hl=>by
  have hlen:(P++c::C).length=P.length+C.length+1:=by rw [List.length_append,List.length_cons];omega
  have head:∀ r,El (λk j=>cond (b c) (some (.inr (P.length:Int))) (aX.l0 k (P++c::C) (p k) j ((P.length+1:Nat):Int))) r->
    El (λk j=>aX.l0 k (P++c::C) (p k) j (P.length:Int)) r:=λr h=>by
   refine El.step (λ_ _=>by rw [aX.l0]) ?_
   rw [rJ (show P.length<=1000000 by omega),Int.toNat_natCast,zM]
   exact El.ct (dT om) (El.aF ⟨om,om⟩ (El.bind (hp c).el h))
  cases hb:b c with
  | true=>
   left
   refine⟨[],c,C,rfl,λa h=>(by cases h),hb,head _ ?_⟩
   rw [hb]
   exact El.pure
  | false=>
   rw [hb] at head
   have e:P++c::C=(P++[c])++C:=by rw [List.append_assoc];rfl
   have el:(P++[c]).length=P.length+1:=by rw [List.length_append];rfl
   rcases yI C (P++[c]) (by rw [<- e];exact hl) with⟨A,c',D,h1,h2,h3,h4⟩|⟨h1,h2⟩
   ·left
    rw [<- e,el] at h4
    refine⟨c::A,c',D,by rw [h1];rfl,λa ha=>?_,h3,head _ ?_⟩
    ·rcases List.mem_cons.1 ha with rfl | ha
     ·exact hb
     ·exact h2 a ha
    ·rw [show P.length+(c::A).length=P.length+1+A.length by rw [List.length_cons];omega]
     exact h4
   ·right
    rw [<- e,el] at h2
    refine⟨λa ha=>?_,head _ h2⟩
    rcases List.mem_cons.1 ha with rfl | ha
    ·exact hb
    ·exact h1 a ha
theorem vX:∀ (C A B:List BA),B≠[]->(A++B++C).length<=100000->
  ∃ cur:List BA,El (λk j=>slices_DeleteFunc_string_xo.l0 k (p k) j (A.length:Int) ((A.length+B.length:Nat):Int) (A++B++C)) (((A++C.filter λx=>!b x).length:Int),((A++B++C).length:Int),false,cur)/\cur.take (A++C.filter λx=>!b x).length=A++C.filter (λx=>!b x)/\(A++C.filter λx=>!b x).length<cur.length
 | [],A,B,hB,hl=>by
  have hb:0<B.length:=List.length_pos_iff.2 hB
  refine⟨A++B,?_,sM,by simp;omega⟩
  refine El.step (λ_ _=>by rw [slices_DeleteFunc_string_xo.l0]) ?_
  rw [List.append_nil]
  refine El.cf sM ?_
  have:decide (((A.length+B.length:Nat):Int)<((A++B).length:Int))=false:=sM
  rw [this]
  simp only [List.filter_nil,List.append_nil]
  rw [show((A++B).length:Int)=((A.length+B.length:Nat):Int) by rw [List.length_append]]
  exact El.pure
 | c::C,A,B,hB,hl=>by
  have hb:0<B.length:=List.length_pos_iff.2 hB
  have hlen:(A++B++c::C).length=A.length+B.length+C.length+1:=by simp;omega
  have hAB:A.length+B.length=(A++B).length:=sM
  have hget:∀ d,(A++B++c::C).getD (A.length+B.length) d=c:=λd=>by rw [hAB];exact zM _ _ _ _
  have head:∀ r,El (λk j=>cond (!b c) (slices_DeleteFunc_string_xo.l0 k (p k) j ((A.length+1:Nat):Int) ((A.length+B.length+1:Nat):Int) ((A++B++c::C).set A.length c)) (slices_DeleteFunc_string_xo.l0 k (p k) j (A.length:Int) ((A.length+B.length+1:Nat):Int) (A++B++c::C))) r->
    El (λk j=>slices_DeleteFunc_string_xo.l0 k (p k) j (A.length:Int) ((A.length+B.length:Nat):Int) (A++B++c::C)) r:=λr h=>by
   refine El.step (λ_ _=>by rw [slices_DeleteFunc_string_xo.l0]) ?_
   rw [rJ (show A.length+B.length<=1000000 by omega),rJ (show A.length<=1000000 by omega),Int.toNat_natCast,Int.toNat_natCast,hget]
   refine El.ct (dT om) (El.aF ⟨om,om⟩ (El.bind (hp c).el ?_))
   cases hbc:b c with
   | true=>rw [hbc] at h;exact h
   | false=>rw [hbc] at h;exact El.aF ⟨om,om⟩ h
  cases hbc:b c with
  | true=>
   rw [hbc] at head
   have e:A++B++c::C=A++(B++[c])++C:=sM
   obtain⟨cur,h1,h2,h3⟩:=vX C A (B++[c]) sM (by rw [<- e];exact hl)
   rw [<- e,show A.length+(B++[c]).length=A.length+B.length+1 by simp;omega] at h1
   refine⟨cur,head _ ?_,?_,?_⟩
   ·rw [List.filter_cons,hbc];exact h1
   ·rw [List.filter_cons,hbc];exact h2
   ·rw [List.filter_cons,hbc];exact h3
  | false=>
   rw [hbc] at head
   obtain⟨y,B',rfl⟩:∃ y B',B=y::B':=by
    cases B with
    | nil=>exact absurd rfl hB
    | cons y B'=>exact⟨y,B',rfl⟩
   have e:(A++(y::B')++c::C).set A.length c=(A++[c])++(B'++[c])++C:=by
    rw [List.append_assoc,List.set_append_right _ _ om,Nat.sub_self]
    simp
   have el:((A++[c])++(B'++[c])++C).length=(A++(y::B')++c::C).length:=by rw [<- e,List.length_set]
   obtain⟨cur,h1,h2,h3⟩:=vX C (A++[c]) (B'++[c]) sM (by rw [el];exact hl)
   rw [el,<- e,show(A++[c]).length+(B'++[c]).length=A.length+(y::B').length+1 by simp;omega,show(A++[c]).length=A.length+1 by simp] at h1
   have ef:(A++[c])++C.filter (λx=>!b x)=A++(c::C).filter (λx=>!b x):=by
    rw [List.filter_cons,hbc];simp
   rw [ef] at h1 h2 h3
   exact⟨cur,head _ h1,h2,h3⟩
theorem AH {xs:List BA} (hl:xs.length<=100000):Ev (λk=>slices_DeleteFunc_string_xo.f k xs (p k)) (xs.filter λx=>!b x):=by
 unfold slices_DeleteFunc_string_xo.f aX.f
 rcases yI hp xs [] hl with⟨A,c,D,h1,h2,h3,h4⟩|⟨h1,h2⟩
 ·obtain⟨cur,d1,d2,d3⟩:=vX hp D A [c] sM (by rw [List.append_assoc];show(A++c::D).length<=_;rw [<- h1];exact hl)
  have e:A++[c]++D=xs:=by rw [h1,List.append_assoc];rfl
  have ef:xs.filter (λx=>!b x)=A++D.filter λx=>!b x:=by
   rw [h1,List.filter_append,List.filter_cons,h3,List.filter_eq_self.2 λa ha=>by rw [h2 a ha];rfl]
   rfl
  have hA:A.length<xs.length:=by rw [h1];simp
  rw [e] at d1
  rw [ef]
  refine Ev.bind (Ev.bind h4.diag (Ev.of rfl)) (Ev.cf ?_ (Ev.bind (a:=(((A++D.filter λx=>!b x).length:Int),((xs.length:Int)),false,cur)) ?_ (Ev.aF ⟨by show(0:Int)<=((A++D.filter λx=>!b x).length:Int);omega,by show(((A++D.filter λx=>!b x).length:Int)).toNat<_;rw [Int.toNat_natCast];exact d3⟩ (Ev.aF ⟨by show(0:Int)<=((A++D.filter λx=>!b x).length:Int);omega,om,by
    show(((A++D.filter λx=>!b x).length:Int)).toNat<=(cur.take (((A++D.filter λx=>!b x).length:Int)).toNat++List.replicate (cur.length-(((A++D.filter λx=>!b x).length:Int)).toNat) eE).length
    rw [Int.toNat_natCast,d2]
    simp only [List.length_append]
    exact Nat.le_add_right _ _⟩ (Ev.of ?_)))))
  ·have:(((([]:List BA).length+A.length:Nat):Int)==(-1))=false:=by
    rw [beq_eq_false_iff_ne];omega
   exact this
  ·have e2:aE ((([]:List BA).length+A.length:Nat)+1)=((A.length+[c].length:Nat):Int):=by
    rw [rJ (by simp;omega)];simp
   have e3:((([]:List BA).length+A.length:Nat):Int)=(A.length:Int):=sM
   rw [e2,e3]
   exact d1.diag
  ·show some (((cur.take (((A++D.filter λx=>!b x).length:Int)).toNat++_).take (((A++D.filter λx=>!b x).length:Int)).toNat).drop 0)=_
   rw [Int.toNat_natCast,d2,List.drop_zero,List.take_left]
 ·rw [List.filter_eq_self.2 λa ha=>by rw [h1 a ha];rfl]
  exact Ev.bind (Ev.bind h2.diag (Ev.of rfl)) (Ev.ct rfl Ev.pure)
end
def jb (w:dm) (u room:BA):Bool:=Je (qk u (nG (tb (kc w room).fL)) none)
section
variable {v:au} {w:dm} (hr:yj v w) (hl:w.fD.length<=50) (hd:∀ room,(kc w room).fL.length<=1000)
include hr hl hd
theorem jv (u room:BA):Ev (λk=>de.f k v room u) (jb w u room):=by
 obtain⟨m,m1,m2,_⟩:=q8 hr room
 unfold de.f
 exact Ev.bind (Ev.of m1) (Ev.bind (Ax (rg_of m2 (hd room)) m2.Fc u) Ev.pure)
end
theorem Dt {v:au} {w:dm} (hr:yj v w) (hl:w.fD.length<=50) {room:BA} (hd:(kc w room).fL.length<=1000) (hp:∀ i,i<(kc w room).fL.length->(ev (kc w room).fL i).ag.length<=4) (id th:BA):
  ∃ c,Ev (λ_=>eK.f v room id th) c/\Ev (λk=>pK.f k w room id th) c/\(c=0\/c=4\/c=7)/\(c=0->0<=ix (kc w room).fL id):=by
 obtain⟨m,h1,h2,_⟩:=q8 hr room
 have hat:=sa (d:=kc w room) id (by show _<=9223372036854775807;omega)
 unfold eK.f pK.f lT.f fa.f
 rcases s7 h2.rel id with⟨q,h⟩|⟨j,q,hj,he,nd,h,hnd⟩
 ·refine⟨4,Ev.bind (Ev.of h1) (Ev.bind (Ev.of (by rw [h];rfl)) (Ev.ct rfl Ev.pure)),Ev.bind (vQ om) (Ev.bind hat (Ev.ct (by rw [q];rfl) Ev.pure)),.inr (.inl rfl),λh=>absurd h dc⟩
 ·have hev:jF.f (((mget m.aw id).getD default).fe)=some (ev (kc w room).fL j):=by
   have h4:=hp j hj
   rw [h]
   show jF.f nd.fe=_
   rw [hnd]
   unfold jF.f ey.f
   simp only [aF]
   rw [if_pos ⟨om,om⟩];rfl
  have e1:(some (!(mget m.aw id).isNone))=some true:=by rw [h];rfl
  have pre:∀ {y:Int},Ev (λ_:Nat=>(λt656:Event×Bool=>cond (!t656.2) (some 4) (cond (decide (th=eE)) (cond (decide (th=eE)) (some 0) (some 7)) (cond (decide (th=(⟨#[109,97,105,110]⟩:BA))) (cond (decide (t656.1.ah=eE)) (cond (decide (t656.1.ah=eE)) (some 0) (some 7)) (cond (decide (th=id)) (cond (decide (th=id)) (some 0) (some 7)) (cond (decide (th=t656.1.ah)) (some 0) (some 7)))) (cond (decide (th=id)) (cond (decide (th=id)) (some 0) (some 7)) (cond (decide (th=t656.1.ah)) (some 0) (some 7)))))) (ev (kc w room).fL j,true)) y->Ev (λ_:Nat=>(aV.f v room).bind λt651=>((some (!(mget t651.aw id).isNone)).bind λt641=>cond (!t641) (some ((⟨eE,eE,([]:List BA),eE,eE,0⟩:Event),false)) (aF ((mget t651.aw id).isSome=true) ((jF.f (((mget t651.aw id).getD default).fe)).bind λt649=>some (t649,true)))).bind λt656=>cond (!t656.2) (some 4) (cond (decide (th=eE)) (cond (decide (th=eE)) (some 0) (some 7)) (cond (decide (th=(⟨#[109,97,105,110]⟩:BA))) (cond (decide (t656.1.ah=eE)) (cond (decide (t656.1.ah=eE)) (some 0) (some 7)) (cond (decide (th=id)) (cond (decide (th=id)) (some 0) (some 7)) (cond (decide (th=t656.1.ah)) (some 0) (some 7)))) (cond (decide (th=id)) (cond (decide (th=id)) (some 0) (some 7)) (cond (decide (th=t656.1.ah)) (some 0) (some 7)))))) y:=λhy=>
   Ev.bind (Ev.of h1) (Ev.bind (Ev.bind (Ev.of e1) (Ev.cf rfl (Ev.aF (by rw [h];rfl) (Ev.bind (Ev.of hev) Ev.pure)))) hy)
  have pre2:∀ {y:Int} {G:Nat->Option Int},Ev G y->Ev (λk=>(kb.f k w room).bind λt673=>(fh.f k t673 id).bind λt676=>cond (decide (t676<0)) (some 4) (aF ((0:Int)<=t676/\t676<(t673.fL.length:Int)) (G k))) y:=λhy=>
   Ev.bind (vQ om) (Ev.bind hat (Ev.cf (by rw [q];exact dF om) (Ev.aF ⟨om,om⟩ hy)))
  have hk:Event.K.at (kc w room).fL (ix (kc w room).fL id)=ev (kc w room).fL j:=by rw [q];exact oW hj
  generalize ht:(ev (kc w room).fL j).ah=own at *
  refine⟨if th=⟨#[]⟩\/th=id\/(th=⟨#[109,97,105,110]⟩/\own=⟨#[]⟩)\/(own≠⟨#[]⟩/\th=own) then 0 else 7,pre (Ev.of ?_),Ev.bind (vQ om) (Ev.bind hat (Ev.cf (by rw [q];exact dF om) (Ev.aF ⟨om,om⟩ (Ev.of ?_)))),by split;exact .inl rfl;exact .inr (.inr rfl),λ_=>by rw [q];omega⟩
  ·simp only [ht]
   by_cases c1:th=⟨#[]⟩
   ·simp [c1]
   ·by_cases c2:th=id
    ·by_cases c3:th=⟨#[109,97,105,110]⟩ <;> by_cases c4:own=⟨#[]⟩ <;> simp [c1,<- c2,c3,c4] <;> simp_all
    ·by_cases c3:th=⟨#[109,97,105,110]⟩
     ·by_cases c4:own=⟨#[]⟩
      ·simp [c1,c2,c3,c4]
      ·by_cases c5:th=own <;> simp_all
     ·by_cases c5:th=own
      ·have c4:¬ own=⟨#[]⟩:=λh=>c1 (c5.trans h)
       simp_all
      ·simp [c1,c2,c3,c5]
  ·rw [hk,ht]
   by_cases c1:th=⟨#[]⟩
   ·simp [c1]
   ·by_cases c2:th=id
    ·simp [c1,c2]
    ·by_cases c3:th=⟨#[109,97,105,110]⟩
     ·by_cases c4:own=⟨#[]⟩
      ·simp [c1,c2,c3,c4]
      ·by_cases c5:th=own <;> simp_all
     ·by_cases c4:own=⟨#[]⟩ <;> by_cases c5:th=own <;> simp_all
def mE (L:List Event) (id:BA):Pos×Bool:=if ix L id<0 then (⟨0,⟨#[]⟩⟩,false) else (pos (tb L) id,true)
theorem Fm {m:bM} {d:bq} (h:Au m d) (id:BA):iZ.f m id=some (mE d.fL id):=by
 unfold iZ.f fa.f mE
 rcases s7 h.rel id with⟨q,h1⟩|⟨j,q,hj,he,nd,h1,h2⟩
 ·rw [h1,q];rfl
 ·rw [h1,q,if_neg om]
  have hd:rK (tb d.fL) id=nd.dx:=by
   unfold rK
   rw [<- h.Fc,yz,h1];rfl
  unfold pos
  rw [hd];rfl
section
variable {v:au} {w:dm} (hr:yj v w) (hl:w.fD.length<=1000)
include hr hl
theorem sH (room id:BA) (hd:(kc w room).fL.length<=1000):Ev (λ_=>dN.f v room id) (mE (kc w room).fL id)/\Ev (λk=>eS.f k w room id) (mE (kc w room).fL id):=by
 obtain⟨m,h1,h2,_⟩:=q8 hr room
 constructor
 ·unfold dN.f
  exact Ev.bind (Ev.of h1) (Ev.bind (Ev.of (Fm h2 id)) (Ev.of rfl))
 ·unfold eS.f mE
  refine Ev.bind (vQ om) (Ev.bind (sa id (by show _<=9223372036854775807;omega)) ?_)
  by_cases h:ix (kc w room).fL id<0
  ·rw [if_pos h];exact Ev.ct (dT h) Ev.pure
  ·rw [if_neg h];exact Ev.cf (dF h) (Ev.bind (Fq (rg_of h2 hd) id) Ev.pure)
end
structure RelK (m:dE) (M:List MK):Prop where
 rel:uj m.j2 M
 C4:m.oG.bw=8
 len:m.oG.fl.length<=8
def kOf (e:ak):aM:=⟨e.aj,e.aC,e.ah,e.ay⟩
theorem kx_of {e:ak} (h:GE e) (hk:e.bf=1):Kx (kOf e):=⟨h.room om,h.user,by
 show e.ah∈ths
 unfold ths
 rcases h.nL hk with ej | ej | ⟨j,hj,ej⟩
 ·rw [ej];exact List.mem_cons_self
 ·rw [ej];exact List.mem_cons_of_mem _ List.mem_cons_self
 ·rw [ej];exact List.mem_cons_of_mem _ (List.mem_cons_of_mem _ (List.mem_map.2 ⟨j,List.mem_range.2 hj,rfl⟩))⟩
theorem Eg {l:List BA} {m:Nat} (h:m<l.length):az.at l (m:Int)=l[m]:=by
 unfold Kd.at;rw [Int.toNat_natCast];simp [h]
theorem CF {k:BA}:∀ (B A:List BA),(∀ a∈A,a≠k)->(A++k::B).length<=1000->Ev (λn=>bR.f n (A++k::B) k) (A.length:Int):=by
 intro B A hA hl
 have loop:∀ n x:Nat,A.length-x=n->x<=A.length->El (λn j=>bR.l0 n (A++k::B) k j (x:Int)) (.inr (A.length:Int)):=by
  intro n
  induction n with
  | zero=>
   intro x hd hx
   obtain rfl:x=A.length:=om
   have hlt:A.length<(A++k::B).length:=sM
   refine El.step (λ_ _=>by rw [bR.l0]) ?_
   refine El.ct (dT om) (El.aF ⟨om,om⟩ (El.ct (dT ?_) El.pure))
   rw [Eg hlt];simp
  | succ n ih=>
   intro x hd hx
   have hlt:x<(A++k::B).length:=by simp;omega
   have hA2:x<A.length:=om
   refine El.step (λ_ _=>by rw [bR.l0]) ?_
   refine El.ct (dT om) (El.aF ⟨om,om⟩ (El.cf (dF ?_) ?_))
   ·rw [Eg hlt,List.getElem_append_left hA2];exact λe=>hA _ (List.getElem_mem hA2) e.symm
   ·rw [c7 om om];exact ih (x+1) om om
 unfold bR.f
 exact Ev.bind (loop _ 0 rfl om).diag (by simp only [fall];exact Ev.pure)
end Go.Proofs.YtelcbdmigiacpaaGreat
