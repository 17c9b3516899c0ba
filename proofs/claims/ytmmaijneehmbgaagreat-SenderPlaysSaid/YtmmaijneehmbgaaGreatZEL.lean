import Derived.Test.YtmmaijneehmbgaaGreatZVB
set_option linter.all false
set_option maxRecDepth 10000
namespace Go.Proofs.YtmmaijneehmbgaaGreat
open Go Go.Sp
structure Zz (e:Edu):Prop where
 room:e.fRoom.size≤maxLen
 user:e.fUser.size≤maxLen
 event:e.fEvent.size≤maxLen
 thread:e.fThread.size≤maxLen
def threadB (s:ByteArray):Bool:=decide (s=(⟨#[]⟩:ByteArray))||(decide (s=(⟨#[109,97,105,110]⟩:ByteArray))||eventB s)
theorem thread1 {s:ByteArray} (hs:s.size≤maxLen):Ev (fun k=>name_Thread.f k s) (threadB s):=by
 unfold name_Thread.f threadB
 by_cases h1:s=(⟨#[]⟩:ByteArray)
 ·rw [decide_eq_true h1]; exact Ev.pure
 ·rw [decide_eq_false h1]
  by_cases h2:s=(⟨#[109,97,105,110]⟩:ByteArray)
  ·rw [decide_eq_true h2]; exact Ev.pure
  ·rw [decide_eq_false h2]; exact Ev.bind (event1 hs) Ev.pure
theorem thread2 {s:ByteArray} (hs:s.size≤maxLen):Ev (fun k=>r01_Thread.f k s) (threadB s):=by
 unfold r01_Thread.f threadB
 refine Ev.bind (event2 hs) ?_
 by_cases h1:s=(⟨#[]⟩:ByteArray)
 ·rw [decide_eq_true h1]; exact Ev.pure
 ·rw [decide_eq_false h1]
  by_cases h2:s=(⟨#[109,97,105,110]⟩:ByteArray)
  ·rw [decide_eq_true h2]; exact Ev.pure
  ·rw [decide_eq_false h2]; exact Ev.pure
theorem csome {α:Type} {c:Bool} {a b:α}:cond c (some a) (some b)=some (cond c a b):=by cases c <;> rfl
theorem dle {x y:Int}:decide (x≤y) = !decide (y<x):=by
 rw [Bool.eq_iff_iff]; simp
def okU (e:Edu):Bool:=namedB e.fUser 64&&(!decide (e.fTick<0) && !decide (1099511627776<e.fTick)&&(!decide (e.fStamp<0) && !decide (1099511627776<e.fStamp)))
def localB (e:Edu):Bool:=
 cond (e.fKind==1) (cond (cond (namedB e.fRoom 33) (cond (eventB e.fEvent) (threadB e.fThread) false) false) (cond (!e.fOn&&(e.fSpan==0)&&(e.fState==0)) (cond (namedB e.fUser 64) (!decide (e.fTick<0) && !decide (1099511627776<e.fTick)&&(!decide (e.fStamp<0) && !decide (1099511627776<e.fStamp))) false) false) false)
  (cond (e.fKind==2) (cond (namedB e.fRoom 33) (cond e.fOn (!decide (e.fSpan<1) && !decide (60<e.fSpan)) (e.fSpan==0)) false&&(((decide (e.fEvent=(⟨#[]⟩:ByteArray))&&decide (e.fThread=(⟨#[]⟩:ByteArray)))&&((e.fState==0) && !e.fPrivate))&&okU e))
   (cond (e.fKind==3) ((!decide (e.fState<0) && !decide (2<e.fState))&&((((decide (e.fRoom=(⟨#[]⟩:ByteArray))&&decide (e.fEvent=(⟨#[]⟩:ByteArray)))&&decide (e.fThread=(⟨#[]⟩:ByteArray)))&&((!e.fOn&&(e.fSpan==0)) && !e.fPrivate))&&okU e)) false))
theorem local_is {e:Edu} (z:Zz e):∃ b,b=localB e∧Ev (fun k=>edu_Local.f k e) b∧Ev (fun k=>r03_Local.f k e) b:=by
 obtain ⟨n1,h1⟩:=nroom1 z.room
 obtain ⟨n2,h2⟩:=nuser1 z.user
 obtain ⟨n3,h3⟩:=event1 z.event
 obtain ⟨n4,h4⟩:=thread1 z.thread
 have hn:∀ b,(∀ k,max (max n1 n2) (max n3 n4)≤k→edu_Local.f k e=some b)→Ev (fun k=>edu_Local.f k e) b:=fun b h=>⟨_,h⟩
 have href:∀ b,b=localB e→Ev (fun k=>r03_Local.f k e) b→(∀ k,max (max n1 n2) (max n3 n4)≤k→edu_Local.f k e=some b)→∃ b,b=localB e∧Ev (fun k=>edu_Local.f k e) b∧Ev (fun k=>r03_Local.f k e) b:=fun b hb h h'=>⟨b,hb,hn b h',h⟩
 have hu:=named2 (c:=64) (by decide) z.user
 have hr:=named2 (c:=33) (by decide) z.room
 have he:=event2 z.event
 have ht:=thread2 z.thread
 obtain ⟨K,ro,us,ev,th,pr,on,sp,st,ti,sm⟩:=e
 simp only at h1 h2 h3 h4 hu hr he ht
 by_cases hk:K=1∨K=2∨K=3
 ·have d1:decide ((1:Int)<0)=false:=rfl
  have d2:decide ((3:Int)<1)=false:=rfl
  have d3:decide ((2:Int)<0)=false:=rfl
  have d4:decide ((3:Int)<2)=false:=rfl
  have d5:decide ((3:Int)<0)=false:=rfl
  have d6:decide ((3:Int)<3)=false:=rfl
  have b1:((1:Int)==1)=true:=rfl
  have b2:((2:Int)==1)=false:=rfl
  have b3:((2:Int)==2)=true:=rfl
  have b4:((3:Int)==1)=false:=rfl
  have b5:((3:Int)==2)=false:=rfl
  have b6:((3:Int)==3)=true:=rfl
  have g:∀ (k:Nat) (i:Int),0≤i→i<4→(0:Int)≤i∧i<(([edu_asks_2.f,edu_asks_3.f k,fun a0_=>edu_asks_4.f k a0_ edu_asks_1.f,fun a0_=>edu_asks_5.f a0_ edu_asks_1.f]:List (Edu→Option Bool)).length:Int):=fun k i h0 h1=>⟨h0,by simpa using h1⟩
  rcases hk with rfl | rfl | rfl
  ·refine href (cond (cond (namedB ro 33) (cond (eventB ev) (threadB th) false) false) (cond (!on&&(sp==0)&&(st==0)) (cond (namedB us 64) (!decide (ti<0) && !decide (1099511627776<ti)&&(!decide (sm<0) && !decide (1099511627776<sm))) false) false) false) rfl ?_ fun k hk=>?_
   ·unfold r03_Local.f
    refine Ev.bind hu (Ev.bind hr (Ev.bind he (Ev.bind ht (Ev.of ?_))))
    simp only [b1,cond_true]
    generalize namedB us 64=a1
    generalize namedB ro 33=a2
    generalize eventB ev=a3
    generalize threadB th=a4
    generalize decide (ti<0)=a5
    generalize decide (1099511627776<ti)=a6
    generalize decide (sm<0)=a7
    generalize decide (1099511627776<sm)=a8
    generalize (sp==0)=a9
    generalize (st==0)=a10
    simp only [csome]
    congr 1
    cases a1 <;> cases a5 <;> cases a6 <;> cases a7 <;> cases a8 <;> cases a2 <;> cases a3 <;> cases a4 <;> try rfl
    all_goals (cases on <;> cases a9 <;> cases a10 <;> rfl)
   ·have r:=h1 k (by omega)
    have u:=h2 k (by omega)
    have v:=h3 k (by omega)
    have t:=h4 k (by omega)
    have e4:fK_api_Edu_bool.at [edu_asks_2.f,edu_asks_3.f k,fun a0_=>edu_asks_4.f k a0_ edu_asks_1.f,fun a0_=>edu_asks_5.f a0_ edu_asks_1.f] 1=edu_asks_3.f k:=rfl
    have eq1:decide ((⟨1,ro,us,ev,th,pr,on,sp,st,ti,sm⟩:Edu)=⟨1,ro,us,ev,th,pr,false,0,0,ti,sm⟩)=(!on&&(sp==0)&&(st==0)):=by
     rw [Bool.eq_iff_iff]
     simp only [decide_eq_true_eq,Edu.mk.injEq,true_and,and_true,Bool.and_eq_true,beq_iff_eq,Bool.not_eq_true',and_assoc]
    simp only [edu_Local.f,edu_asks.f,Option.bind_some,d1,d2,cond_false]
    simp only [e4,grd]
    rw [if_pos (g k 1 (by decide) (by decide))]
    simp only [Option.bind_some,edu_asks_3.f,r,v,t,edu_named.f,edu_Local_1.f,b1,cond_true,eq1,u,dle,csome]
    generalize namedB us 64=a1
    generalize namedB ro 33=a2
    generalize eventB ev=a3
    generalize threadB th=a4
    generalize decide (ti<0)=a5
    generalize decide (1099511627776<ti)=a6
    generalize decide (sm<0)=a7
    generalize decide (1099511627776<sm)=a8
    generalize (!on&&(sp==0)&&(st==0))=a9
    cases a2 <;> cases a3 <;> cases a4 <;> cases a9 <;> cases a1 <;> try rfl
    all_goals (cases a5 <;> cases a6 <;> cases a7 <;> cases a8 <;> rfl)
  ·refine href (cond (namedB ro 33) (cond on (!decide (sp<1) && !decide (60<sp)) (sp==0)) false&&(((decide (ev=(⟨#[]⟩:ByteArray))&&decide (th=(⟨#[]⟩:ByteArray)))&&((st==0) && !pr))&&(namedB us 64&&(!decide (ti<0) && !decide (1099511627776<ti)&&(!decide (sm<0) && !decide (1099511627776<sm)))))) rfl ?_ fun k hk=>?_
   ·unfold r03_Local.f
    refine Ev.bind hu (Ev.bind hr (Ev.bind he (Ev.bind ht (Ev.of ?_))))
    simp only [b2,b3,cond_true,cond_false,dle]
    generalize namedB us 64=a1
    generalize namedB ro 33=a2
    generalize decide (ti<0)=a5
    generalize decide (1099511627776<ti)=a6
    generalize decide (sm<0)=a7
    generalize decide (1099511627776<sm)=a8
    generalize (sp==0)=a9
    generalize (st==0)=a10
    generalize decide (sp<1)=a11
    generalize decide (60<sp)=a12
    generalize decide (ev=(⟨#[]⟩:ByteArray))=a13
    generalize decide (th=(⟨#[]⟩:ByteArray))=a14
    simp only [csome]
    congr 1
    cases a1 <;> cases a5 <;> cases a6 <;> cases a7 <;> cases a8 <;> cases a2 <;> cases on <;> simp
    all_goals (cases a9 <;> cases a10 <;> cases a11 <;> cases a12 <;> cases a13 <;> cases a14 <;> rfl)
   ·have r:=h1 k (by omega)
    have u:=h2 k (by omega)
    have e4:fK_api_Edu_bool.at [edu_asks_2.f,edu_asks_3.f k,fun a0_=>edu_asks_4.f k a0_ edu_asks_1.f,fun a0_=>edu_asks_5.f a0_ edu_asks_1.f] 2=fun a0_=>edu_asks_4.f k a0_ edu_asks_1.f:=rfl
    have eq1:∀ (s:Int) (o:Bool),decide ((⟨2,ro,us,ev,th,pr,o,sp,st,ti,sm⟩:Edu)=⟨2,ro,us,⟨#[]⟩,⟨#[]⟩,false,o,s,0,ti,sm⟩)=((decide (ev=⟨#[]⟩)&&decide (th=⟨#[]⟩)&&(st==0) && !pr)&&(sp==s)):=fun s o=>by
     rw [Bool.eq_iff_iff]
     simp only [decide_eq_true_eq,Edu.mk.injEq,true_and,and_true,Bool.and_eq_true,beq_iff_eq,Bool.not_eq_true']
     constructor
     ·rintro ⟨h1,h2,h3,h4,h5⟩; exact ⟨⟨⟨⟨h1,h2⟩,h5⟩,h3⟩,h4⟩
     ·rintro ⟨⟨⟨⟨h1,h2⟩,h5⟩,h3⟩,h4⟩; exact ⟨h1,h2,h3,h4,h5⟩
    simp only [edu_Local.f,edu_asks.f,Option.bind_some,d3,d4,cond_false]
    simp only [e4,grd]
    rw [if_pos (g k 2 (by decide) (by decide))]
    simp only [Option.bind_some,edu_asks_4.f,r,edu_named.f,edu_Local_1.f,edu_asks_1.f,b2,b3,cond_true,cond_false,dle]
    cases on
    all_goals
     simp only [cond_true,cond_false,eq1,beq_self_eq_true,Bool.and_true,Bool.not_true,Bool.not_false,Option.bind_some,u]
     generalize namedB us 64=a1
     generalize namedB ro 33=a2
     generalize decide (ti<0)=a5
     generalize decide (1099511627776<ti)=a6
     generalize decide (sm<0)=a7
     generalize decide (1099511627776<sm)=a8
     generalize decide (ev=(⟨#[]⟩:ByteArray))=a13
     generalize decide (th=(⟨#[]⟩:ByteArray))=a14
     generalize (st==0)=a10
     generalize (sp==0)=a9
     generalize decide (sp<1)=a11
     generalize decide (60<sp)=a12
     cases a2 <;> cases a9 <;> cases a11 <;> cases a12 <;> cases a1 <;> cases a13 <;> cases a14 <;> cases a10 <;> cases pr <;> try rfl
     all_goals (cases a5 <;> cases a6 <;> cases a7 <;> cases a8 <;> rfl)
  ·refine href ((!decide (st<0) && !decide (2<st))&&((((decide (ro=(⟨#[]⟩:ByteArray))&&decide (ev=(⟨#[]⟩:ByteArray)))&&decide (th=(⟨#[]⟩:ByteArray)))&&((!on&&(sp==0)) && !pr))&&(namedB us 64&&(!decide (ti<0) && !decide (1099511627776<ti)&&(!decide (sm<0) && !decide (1099511627776<sm)))))) rfl ?_ fun k hk=>?_
   ·unfold r03_Local.f
    refine Ev.bind hu (Ev.bind hr (Ev.bind he (Ev.bind ht (Ev.of ?_))))
    simp only [b4,b5,b6,cond_true,cond_false,dle]
    generalize namedB us 64=a1
    generalize decide (ti<0)=a5
    generalize decide (1099511627776<ti)=a6
    generalize decide (sm<0)=a7
    generalize decide (1099511627776<sm)=a8
    generalize (sp==0)=a9
    generalize decide (st<0)=a11
    generalize decide (2<st)=a12
    generalize decide (ev=(⟨#[]⟩:ByteArray))=a13
    generalize decide (th=(⟨#[]⟩:ByteArray))=a14
    generalize decide (ro=(⟨#[]⟩:ByteArray))=a15
    simp only [csome]
    congr 1
    cases a1 <;> cases a5 <;> cases a6 <;> cases a7 <;> cases a8 <;> simp
    all_goals (cases a9 <;> cases a11 <;> cases a12 <;> cases a13 <;> cases a14 <;> cases a15 <;> cases on <;> cases pr <;> rfl)
   ·have u:=h2 k (by omega)
    have e4:fK_api_Edu_bool.at [edu_asks_2.f,edu_asks_3.f k,fun a0_=>edu_asks_4.f k a0_ edu_asks_1.f,fun a0_=>edu_asks_5.f a0_ edu_asks_1.f] 3=fun a0_=>edu_asks_5.f a0_ edu_asks_1.f:=rfl
    have eq1:decide ((⟨3,ro,us,ev,th,pr,on,sp,st,ti,sm⟩:Edu)=⟨3,⟨#[]⟩,us,⟨#[]⟩,⟨#[]⟩,false,false,0,st,ti,sm⟩)=(((decide (ro=(⟨#[]⟩:ByteArray))&&decide (ev=(⟨#[]⟩:ByteArray)))&&decide (th=(⟨#[]⟩:ByteArray)))&&((!on&&(sp==0)) && !pr)):=by
     rw [Bool.eq_iff_iff]
     simp only [decide_eq_true_eq,Edu.mk.injEq,true_and,and_true,Bool.and_eq_true,beq_iff_eq,Bool.not_eq_true']
     constructor
     ·rintro ⟨h1,h2,h3,h4,h5,h6⟩; exact ⟨⟨⟨h1,h2⟩,h3⟩,⟨h5,h6⟩,h4⟩
     ·rintro ⟨⟨⟨h1,h2⟩,h3⟩,⟨h5,h6⟩,h4⟩; exact ⟨h1,h2,h3,h4,h5,h6⟩
    simp only [edu_Local.f,edu_asks.f,Option.bind_some,d5,d6,cond_false]
    simp only [e4,grd]
    rw [if_pos (g k 3 (by decide) (by decide))]
    simp only [Option.bind_some,edu_asks_5.f,edu_named.f,edu_Local_1.f,edu_asks_1.f,b4,b5,b6,cond_true,cond_false,dle,eq1,u]
    generalize namedB us 64=a1
    generalize decide (ti<0)=a5
    generalize decide (1099511627776<ti)=a6
    generalize decide (sm<0)=a7
    generalize decide (1099511627776<sm)=a8
    generalize decide (st<0)=a11
    generalize decide (2<st)=a12
    generalize (((decide (ro=(⟨#[]⟩:ByteArray))&&decide (ev=(⟨#[]⟩:ByteArray)))&&decide (th=(⟨#[]⟩:ByteArray)))&&((!on&&(sp==0)) && !pr))=a9
    cases a11 <;> cases a12 <;> cases a9 <;> cases a1 <;> try rfl
    all_goals (cases a5 <;> cases a6 <;> cases a7 <;> cases a8 <;> rfl)
 ·have k1:(K==1)=false:=by rw [beq_eq_false_iff_ne]; omega
  have k2:(K==2)=false:=by rw [beq_eq_false_iff_ne]; omega
  have k3:(K==3)=false:=by rw [beq_eq_false_iff_ne]; omega
  refine href false (by unfold localB; simp only [k1,k2,k3,cond_false]) ?_ fun k hk'=>?_
  ·unfold r03_Local.f
   refine Ev.bind hu (Ev.bind hr (Ev.bind he (Ev.bind ht (Ev.of ?_))))
   simp only [k1,k2,k3,cond_false,Bool.cond_self,csome]
  ·by_cases c1:K<0
   ·simp only [edu_Local.f,decide_eq_true c1,cond_true]
   ·by_cases c2:3<K
    ·simp only [edu_Local.f,decide_eq_true c2,decide_eq_false c1,cond_true,cond_false]
    ·obtain rfl:K=0:=by omega
     rfl
theorem local_ev {e:Edu} (z:Zz e):Ev (fun k=>edu_Local.f k e) (localB e)∧Ev (fun k=>r03_Local.f k e) (localB e):=by
 obtain ⟨b,rfl,h1,h2⟩:=local_is z
 exact ⟨h1,h2⟩
def mayL (e:Edu):Bool:=cond (localB e) (!e.fPrivate) false
theorem may_ev {e:Edu} (z:Zz e):Ev (fun k=>edu_May.f k e) (mayL e)∧Ev (fun k=>r03_May.f k e) (mayL e):=by
 obtain ⟨h1,h2⟩:=local_ev z
 unfold mayL
 constructor
 ·unfold edu_May.f; refine Ev.bind h1 ?_; cases localB e <;> exact Ev.pure
 ·unfold r03_May.f; refine Ev.bind h2 ?_; cases localB e <;> exact Ev.pure
theorem may_both {e:Edu} (z:Zz e):∃ b,Ev (fun k=>edu_May.f k e) b∧Ev (fun k=>r03_May.f k e) b∧(e.fPrivate=true→b=false):=
 ⟨_,(may_ev z).1,(may_ev z).2,fun h=>by unfold mayL; rw [h]; cases localB e <;> rfl⟩
end Go.Proofs.YtmmaijneehmbgaaGreat
