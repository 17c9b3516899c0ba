import Derived.Test.YtmmaijneehmbgaaGreatZEL
import Derived.Test.YtmmaijneehmbgaaGreatZVF
set_option linter.all false
set_option maxRecDepth 10000
namespace Go.Proofs.YtmmaijneehmbgaaGreat
open Go Go.Sp
structure GE (e:Edu):Prop where
 kind:e.fKind=1∨e.fKind=2∨e.fKind=3
 user:e.fUser∈users
 room:e.fKind≠3→e.fRoom∈rooms
 room0:e.fKind=3→e.fRoom=⟨#[]⟩
 event:e.fKind=1→∃ j,j<9∧e.fEvent=evs j
 event0:e.fKind≠1→e.fEvent=⟨#[]⟩
 thread:e.fKind=1→e.fThread=⟨#[]⟩∨e.fThread=⟨#[109,97,105,110]⟩∨∃ j,j<9∧e.fThread=evs j
 thread0:e.fKind≠1→e.fThread=⟨#[]⟩
 priv:e.fKind≠1→e.fPrivate=false
 on:e.fKind≠2→e.fOn=false
 span0:e.fOn=false→e.fSpan=0
 span1:e.fOn=true→1≤e.fSpan∧e.fSpan≤60
 state0:e.fKind≠3→e.fState=0
 state:0≤e.fState∧e.fState≤2
 tick:0≤e.fTick∧e.fTick<100
 stamp:0≤e.fStamp∧e.fStamp<9
theorem user_in {u:ByteArray} (h:u∈users):namedB u 64=true∧u.size=5:=by
 have:∀ u∈users,namedB u 64=true∧u.size=5:=by decide +kernel
 exact this u h
theorem room_in {u:ByteArray} (h:u∈rooms):namedB u 33=true∧u.size=5:=by
 have:∀ u∈rooms,namedB u 33=true∧u.size=5:=by decide +kernel
 exact this u h
theorem w64_i64' (x:Int):I64 (w64 x):=by
 unfold I64
 simp only [w64,IntKind.wrap,IntKind.signed,IntKind.bits]
 simp
 constructor <;> omega
theorem eventOf_is {n:Int} (hn:I64 n):∃ j,j<9∧Ev (fun k=>r01_EventOf.f k n) (evs j):=by
 obtain ⟨m,h1,h2,h3⟩:=around_ev (m:=9) hn (by decide) (by decide)
 obtain ⟨k,hk,rfl⟩:=int_lt (n:=9) h2 h3
 refine ⟨k,hk,?_⟩
 have h:=eventOf_at k hk
 unfold r01_EventOf.f at h ⊢
 rw [show (9:Int)=((9:Nat):Int) from rfl,around_small hk (by decide)] at h
 rw [h1]
 exact h
theorem threadOf_is {n:Int} (hn:I64 n):∃ r,Ev (fun k=>r01_ThreadOf.f k n) r∧(r=⟨#[]⟩∨r=⟨#[109,97,105,110]⟩∨∃ j,j<9∧r=evs j):=by
 obtain ⟨m,h1,h2,h3⟩:=around_ev (m:=11) hn (by decide) (by decide)
 unfold r01_ThreadOf.f
 by_cases e1:m=9
 ·exact ⟨_,Ev.bind (Ev.of h1) (Ev.ct (by simp [e1]) Ev.pure),.inl rfl⟩
 ·by_cases e2:m=10
  ·exact ⟨_,Ev.bind (Ev.of h1) (Ev.cf (by simp [e1]) (Ev.ct (by simp [e2]) Ev.pure)),.inr (.inl rfl)⟩
  ·obtain ⟨j,hj,hr⟩:=eventOf_is (n:=m) ⟨by omega,by omega⟩
   exact ⟨_,Ev.bind (Ev.of h1) (Ev.cf (by simp [e1]) (Ev.cf (by simp [e2]) (Ev.bind hr Ev.pure))),.inr (.inr ⟨j,hj,rfl⟩)⟩
theorem good_is {a:Edu} (h:Edu.ok a):∃ e,Ev (fun k=>r03_Good.f k a) e∧GE e∧(a.fKind=0→e.fKind=1)∧(e.fKind=1→e.fPrivate=a.fPrivate):=by
 obtain ⟨c1,c2,c3,c4,c5,c6,c7,c8,c9,c10,c11,_⟩:=h
 obtain ⟨m,h1,h2,h3⟩:=around_ev (m:=3) (i64_of c1) (by decide) (by decide)
 obtain ⟨u,u1,u2⟩:=userOf_ev (i64_of c9)
 obtain ⟨t,t1,t2,t3⟩:=around_ev (m:=100) (i64_of c10) (by decide) (by decide)
 obtain ⟨s,s1,s2,s3⟩:=around_ev (m:=9) (i64_of c11) (by decide) (by decide)
 obtain ⟨ro,r1,r2⟩:=roomOf_ev (i64_of c8)
 obtain ⟨t9,y1,y2,y3⟩:=around_ev (m:=9) (i64_of c10) (by decide) (by decide)
 obtain ⟨ej,ej9,e1⟩:=eventOf_is (n:=w64 ((a.fEvent.size:Int)+t9)) (w64_i64' _)
 obtain ⟨th,f1,f2⟩:=threadOf_is (n:=(a.fThread.size:Int)) ⟨by omega,by have h:a.fThread.size≤2 ^ 63-1:=c5; omega⟩
 obtain ⟨sp,p1,p2,p3⟩:=around_ev (m:=60) (i64_of c8) (by decide) (by decide)
 obtain ⟨st,q1,q2,q3⟩:=around_ev (m:=3) (i64_of c8) (by decide) (by decide)
 have hk0:a.fKind=0→m=0:=fun h0=>by
  rw [h0] at h1
  have:r01_Around.f 0 3=some 0:=rfl
  rw [this] at h1
  exact (Option.some.inj h1).symm
 have hw:w64 (1+m)=1+m:=w64_id (by omega) (by omega)
 have hsp:w64 (1+sp)=1+sp:=w64_id (by omega) (by omega)
 have key:∀ e,(∀ k,r03_Good.f k a=cond ((1+m)==1) ((r01_EventOf.f k (w64 ((a.fEvent.size:Int)+t9))).bind fun t666=>(r01_ThreadOf.f k (a.fThread.size:Int)).bind fun t668=>some (⟨1+m,ro,u,t666,t668,a.fPrivate,false,0,0,t,s⟩:Edu)) (cond ((1+m)==2) (cond a.fOn (some (⟨1+m,ro,u,(⟨#[]⟩:ByteArray),(⟨#[]⟩:ByteArray),false,a.fOn,1+sp,0,t,s⟩:Edu)) (some (⟨1+m,ro,u,(⟨#[]⟩:ByteArray),(⟨#[]⟩:ByteArray),false,a.fOn,0,0,t,s⟩:Edu))) (some (⟨1+m,(⟨#[]⟩:ByteArray),u,(⟨#[]⟩:ByteArray),(⟨#[]⟩:ByteArray),false,false,0,st,t,s⟩:Edu))))→
   Ev (fun k=>cond ((1+m)==1) ((r01_EventOf.f k (w64 ((a.fEvent.size:Int)+t9))).bind fun t666=>(r01_ThreadOf.f k (a.fThread.size:Int)).bind fun t668=>some (⟨1+m,ro,u,t666,t668,a.fPrivate,false,0,0,t,s⟩:Edu)) (cond ((1+m)==2) (cond a.fOn (some (⟨1+m,ro,u,(⟨#[]⟩:ByteArray),(⟨#[]⟩:ByteArray),false,a.fOn,1+sp,0,t,s⟩:Edu)) (some (⟨1+m,ro,u,(⟨#[]⟩:ByteArray),(⟨#[]⟩:ByteArray),false,a.fOn,0,0,t,s⟩:Edu))) (some (⟨1+m,(⟨#[]⟩:ByteArray),u,(⟨#[]⟩:ByteArray),(⟨#[]⟩:ByteArray),false,false,0,st,t,s⟩:Edu)))) e→Ev (fun k=>r03_Good.f k a) e:=fun e he hv=>hv.eq he
 have hf:∀ k,r03_Good.f k a=cond ((1+m)==1) ((r01_EventOf.f k (w64 ((a.fEvent.size:Int)+t9))).bind fun t666=>(r01_ThreadOf.f k (a.fThread.size:Int)).bind fun t668=>some (⟨1+m,ro,u,t666,t668,a.fPrivate,false,0,0,t,s⟩:Edu)) (cond ((1+m)==2) (cond a.fOn (some (⟨1+m,ro,u,(⟨#[]⟩:ByteArray),(⟨#[]⟩:ByteArray),false,a.fOn,1+sp,0,t,s⟩:Edu)) (some (⟨1+m,ro,u,(⟨#[]⟩:ByteArray),(⟨#[]⟩:ByteArray),false,a.fOn,0,0,t,s⟩:Edu))) (some (⟨1+m,(⟨#[]⟩:ByteArray),u,(⟨#[]⟩:ByteArray),(⟨#[]⟩:ByteArray),false,false,0,st,t,s⟩:Edu))):=fun k=>by
  simp only [r03_Good.f,h1,u1,t1,s1,r1,y1,p1,q1,Option.bind_some,hw,hsp]
 rcases (show m=0∨m=1∨m=2 by omega) with rfl | rfl | rfl
 ·refine ⟨⟨1,ro,u,evs ej,th,a.fPrivate,false,0,0,t,s⟩,key _ hf (Ev.ct rfl (Ev.bind e1 (Ev.bind f1 Ev.pure))),?_,fun _=>rfl,fun _=>rfl⟩
  exact ⟨.inl rfl,u2,fun _=>r2,fun h=>(by cases h),fun _=>⟨ej,ej9,rfl⟩,fun h=>absurd rfl h,fun _=>f2,fun h=>absurd rfl h,fun h=>absurd rfl h,fun _=>rfl,fun _=>rfl,nofun,fun _=>rfl,⟨Int.le_refl 0,show (0:Int)≤2 by decide⟩,⟨t2,t3⟩,⟨s2,s3⟩⟩
 ·cases ho:a.fOn with
  | true=>
   refine ⟨⟨2,ro,u,⟨#[]⟩,⟨#[]⟩,false,true,1+sp,0,t,s⟩,key _ hf (Ev.cf rfl (Ev.ct rfl (Ev.ct ho (Ev.of (by rw [ho]; rfl))))),?_,fun h=>(by have:=hk0 h; omega),fun h=>(by cases h)⟩
   exact ⟨.inr (.inl rfl),u2,fun _=>r2,fun h=>(by cases h),fun h=>(by cases h),fun _=>rfl,fun h=>(by cases h),fun _=>rfl,fun _=>rfl,fun h=>absurd rfl h,nofun,fun _=>⟨by show 1≤1+sp; omega,by show 1+sp≤60; omega⟩,fun _=>rfl,⟨Int.le_refl 0,show (0:Int)≤2 by decide⟩,⟨t2,t3⟩,⟨s2,s3⟩⟩
  | false=>
   refine ⟨⟨2,ro,u,⟨#[]⟩,⟨#[]⟩,false,false,0,0,t,s⟩,key _ hf (Ev.cf rfl (Ev.ct rfl (Ev.cf ho (Ev.of (by rw [ho]; rfl))))),?_,fun h=>(by have:=hk0 h; omega),fun h=>(by cases h)⟩
   exact ⟨.inr (.inl rfl),u2,fun _=>r2,fun h=>(by cases h),fun h=>(by cases h),fun _=>rfl,fun h=>(by cases h),fun _=>rfl,fun _=>rfl,fun _=>rfl,fun _=>rfl,nofun,fun _=>rfl,⟨Int.le_refl 0,show (0:Int)≤2 by decide⟩,⟨t2,t3⟩,⟨s2,s3⟩⟩
 ·refine ⟨⟨3,⟨#[]⟩,u,⟨#[]⟩,⟨#[]⟩,false,false,0,st,t,s⟩,key _ hf (Ev.cf rfl (Ev.cf rfl (Ev.of rfl))),?_,fun h=>(by have:=hk0 h; omega),fun h=>(by cases h)⟩
  exact ⟨.inr (.inr rfl),u2,fun h=>absurd rfl h,fun _=>rfl,fun h=>(by cases h),fun _=>rfl,fun h=>(by cases h),fun _=>rfl,fun _=>rfl,fun _=>rfl,fun _=>rfl,nofun,fun h=>absurd rfl h,⟨q2,by show st≤2; omega⟩,⟨t2,t3⟩,⟨s2,s3⟩⟩
theorem GE.sizes {e:Edu} (h:GE e):e.fRoom.size<128∧e.fUser.size<128∧e.fEvent.size<128∧e.fThread.size<128:=by
 refine ⟨?_,?_,?_,?_⟩
 ·by_cases k:e.fKind=3
  ·rw [h.room0 k]; show 0<128; omega
  ·rw [(room_in (h.room k)).2]; decide
 ·rw [(user_in h.user).2]; decide
 ·by_cases k:e.fKind=1
  ·obtain ⟨j,_,ej⟩:=h.event k; rw [ej]; show 3<128; omega
  ·rw [h.event0 k]; show 0<128; omega
 ·by_cases k:e.fKind=1
  ·rcases h.thread k with ej | ej | ⟨j,_,ej⟩ <;> rw [ej]
   ·show 0<128; omega
   ·show 4<128; omega
   ·show 3<128; omega
  ·rw [h.thread0 k]; show 0<128; omega
end Go.Proofs.YtmmaijneehmbgaaGreat
