import Derived.Test.YtmmaijneehmbgaaGreatZSS
import Derived.Test.YtmmaijneehmbgaaGreatZSO
import Derived.Test.YtmmaijneehmbgaaGreatZGG
set_option linter.all false
set_option maxRecDepth 10000
namespace Go.Proofs.YtmmaijneehmbgaaGreat
open Go Go.Sp
def s1:ByteArray:=⟨#[115,49]⟩
def newR (most n:Int):RSnd:=⟨s1,s2,n,⟨most,[],0⟩,zP,false,0,0⟩
def newS (most n:Int):SSnd:=⟨⟨most,[],[],0⟩,s1,s2,⟨⟨n⟩,1099511627776⟩,none⟩
theorem relS_new {most n:Int} (hm:1≤most∧most≤120) (hn:0≤n∧n≤1099511627776):RelS (newS most n) (newR most n) 0:=
 ⟨relQ_new hm,rfl,rfl,rfl,hn,fun e=>(by cases e),fun _=>⟨rfl,rfl,rfl,rfl⟩,fun e he=>(by cases he),Nat.zero_le _,⟨Int.le_refl 0,Int.le_refl 0⟩,⟨Int.le_refl 0,Int.le_refl 0⟩⟩
theorem qnew_ev {m:Int} (hm:1≤m∧m≤120):queue_New.f m=some (some ⟨m,[],[],0⟩,0):=by
 unfold queue_New.f
 rw [decide_eq_false (show ¬ m<1 by omega),decide_eq_false (show ¬ 120<m by omega)]; rfl
theorem cnew_ev {n:Int} (hn:0≤n∧n≤1099511627776):clock_New.f n 1099511627776=some (some ⟨⟨n⟩,1099511627776⟩,0):=by
 unfold clock_New.f
 rw [decide_eq_false (show ¬ n<0 by omega),decide_eq_false (show ¬ (1099511627776:Int)<n by omega)]; rfl
theorem snew_ev {most n:Int} (hm:1≤most∧most≤120) (hn:0≤n∧n≤1099511627776):Ev (fun k=>sender_New.f k s1 s2 most n) (some (newS most n),0):=by
 have m:128≤maxLen:=by decide
 have h1:Ev (fun k=>name_Server.f k s1) true:=server1 (s:=s1) (by show 2≤maxLen; omega)
 have h2:Ev (fun k=>name_Server.f k s2) true:=server1 (s:=s2) (by show 2≤maxLen; omega)
 unfold sender_New.f
 refine Ev.bind h1 (Ev.cf rfl (Ev.bind h2 (Ev.cf rfl (Ev.cf (decide_eq_false (by decide)) (Ev.bind (Ev.of (qnew_ev hm)) (Ev.cf rfl (Ev.bind (Ev.of (cnew_ev hn)) (Ev.cf rfl ?_))))))))
 exact Ev.grd rfl (Ev.grd rfl Ev.pure)
theorem begin_ev {most n:Int} (hm:1≤most∧most≤120) (hn:0≤n∧n≤1099511627776):Ev (fun k=>w18_begin.f k most n) (some (newS most n)):=by
 unfold w18_begin.f
 exact Ev.bind (snew_ev hm hn) (Ev.cf rfl (Ev.cf rfl Ev.pure))
section
variable {s:SSnd} {r:RSnd} {n:Int} (h:RelS s r n)
include h
theorem flight_ev:sender_Sender_Flight.f s=some (r.fFly,r.fOn):=by
 have hl:=h.len
 unfold sender_Sender_Flight.f
 cases ho:r.fOn with
 | false=>obtain ⟨a,b,_⟩:=h.off ho; rw [a,b]; rfl
 | true=>rw [told_ev (h.on ho) (by show r.fFly.fEdus.length≤100000; omega),h.on ho]; rfl
theorem due_ev:sender_Sender_Due.f s=some (r.fDue,r.fOn):=by
 unfold sender_Sender_Due.f
 cases ho:r.fOn with
 | false=>obtain ⟨a,b,c,d⟩:=h.off ho; rw [a,d]; rfl
 | true=>rw [h.on ho]; rfl
theorem tries_ev:sender_Sender_Tries.f s=some r.fTries:=by
 unfold sender_Sender_Tries.f
 cases ho:r.fOn with
 | false=>obtain ⟨a,b,c,d⟩:=h.off ho; rw [a,c]; rfl
 | true=>rw [h.on ho]; rfl
theorem len_ev:queue_Queue_Len.f s.fQueue=some (r.fQ.fL.length:Int):=by
 unfold queue_Queue_Len.f; rw [h.q.keys,List.length_map]
theorem idle_ev:sender_Sender_Idle.f s=some (cond r.fOn false ((r.fQ.fL.length:Int)==0)):=by
 unfold sender_Sender_Idle.f
 cases ho:r.fOn with
 | false=>obtain ⟨a,_⟩:=h.off ho; rw [a,len_ev h]; rfl
 | true=>rw [h.on ho]; rfl
end
theorem refidle_ev (r:RSnd):r18_Idle.f r=some (cond r.fOn false ((r.fQ.fL.length:Int)==0)):=by
 unfold r18_Idle.f
 cases r.fOn <;> rfl
theorem samepar_ev {a b:Par} (hl:a.fEdus.length≤100000) (h:a=b):Ev (fun k=>r04_Same.f k a b) true:=by
 subst h
 unfold r04_Same.f
 have:=sameEdus_ev (ys:=a.fEdus) hl
 rw [decide_eq_true rfl] at this
 exact Ev.bind this (Ev.ct rfl (Ev.ct (by simp) (Ev.ct (decide_eq_true rfl) (Ev.ct (decide_eq_true rfl) (Ev.of (by simp))))))
theorem like_ev {s:SSnd} {r:RSnd} {n:Int} (h:RelS s r n):Ev (fun k=>w18_like.f k s r) true:=by
 have hl:=h.len
 have hs:=h.q.short
 have hse:=sameEdus_ev (xs:=r.fQ.fL) (ys:=r.fQ.fL) (by omega)
 rw [decide_eq_true rfl] at hse
 unfold w18_like.f
 refine Ev.bind (Ev.of (flight_ev h)) (Ev.bind (Ev.of (due_ev h)) ?_)
 refine Ev.ct (by simp) (Ev.ct (by simp) (Ev.bind (samepar_ev (by show r.fFly.fEdus.length≤100000; omega) rfl) (Ev.ct rfl ?_)))
 refine Ev.ct (by simp) (Ev.bind (Ev.of (tries_ev h)) (Ev.ct (by simp) ?_))
 refine Ev.bind (all_evQ h.q) (Ev.bind hse (Ev.ct rfl ?_))
 have hlost:queue_Queue_Lost.f s.fQueue=some r.fQ.fLost:=by unfold queue_Queue_Lost.f; rw [h.q.lost]
 refine Ev.bind (Ev.of hlost) (Ev.ct (by simp) ?_)
 exact Ev.bind (Ev.of (idle_ev h)) (Ev.bind (Ev.of (refidle_ev _)) (Ev.of (by simp)))
def ackR (r:RSnd) (id:Int):RSnd×Bool:=if r.fOn=true∧r.fFly.fID=id then (outR r,true) else (r,false)
theorem refack_ev (r:RSnd) (id:Int):r18_Ack.f r id=some (ackR r id):=by
 unfold r18_Ack.f ackR
 by_cases ho:r.fOn=true
 ·by_cases e:r.fFly.fID=id
  ·rw [if_pos ⟨ho,e⟩,show (!r.fOn)=false by simp [ho],show (r.fFly.fID != id)=false by simp [e]]; rfl
  ·rw [if_neg (fun hh=>e hh.2),show (!r.fOn)=false by simp [ho],show (r.fFly.fID != id)=true by simp [e]]; rfl
 ·rw [if_neg (fun hh=>ho hh.1),show (!r.fOn)=true by simpa using ho]; rfl
theorem ack_both {s:SSnd} {r:RSnd} {n:Int} (h:RelS s r n) (id:Int):(∃ s',sender_Sender_Ack.f s id=some ((ackR r id).2,s')∧RelS s' (ackR r id).1 n)∧r18_Ack.f r id=some (ackR r id):=by
 refine ⟨?_,refack_ev r id⟩
 unfold sender_Sender_Ack.f ackR
 by_cases ho:r.fOn=true
 ·rw [h.on ho]
  by_cases e:r.fFly.fID=id
  ·rw [if_pos ⟨ho,e⟩]
   refine ⟨⟨s.fQueue,s.fself,s.fto,s.fids,none⟩,?_,h.out⟩
   show (cond (r.fFly.fID != id) _ _:Option _)=_
   rw [show (r.fFly.fID != id)=false by simp [e]]; rfl
  ·rw [if_neg (fun hh=>e hh.2)]
   refine ⟨s,?_,h⟩
   show (cond (r.fFly.fID != id) _ _:Option _)=_
   rw [show (r.fFly.fID != id)=true by simp [e]]; rfl
 ·obtain ⟨a,_⟩:=h.off (by simpa using ho)
  rw [if_neg (fun hh=>ho hh.1),a]
  exact ⟨s,rfl,h⟩
def putR (r:RSnd) (e:Edu):RSnd:=⟨r.fSelf,r.fTo,r.fN,(putQ r.fQ e).1,r.fFly,r.fOn,r.fTries,r.fDue⟩
theorem putQ_lost {r:RQue} {e:Edu} {n:Int} (h:0≤r.fLost∧r.fLost≤n) (hn:n≤1000000000):0≤(putQ r e).1.fLost∧(putQ r e).1.fLost≤n+1:=by
 have hw:w64 (r.fLost+1)=r.fLost+1:=w64_id (by omega) (by omega)
 unfold putQ
 split
 ·exact ⟨h.1,by show r.fLost≤n+1; omega⟩
 ·split
  ·exact ⟨h.1,by show r.fLost≤n+1; omega⟩
  ·split
   ·show 0≤w64 (r.fLost+1)∧w64 (r.fLost+1)≤n+1
    rw [hw]; omega
   ·exact ⟨h.1,by show r.fLost≤n+1; omega⟩
theorem put_both {s:SSnd} {r:RSnd} {n:Int} (h:RelS s r n) (hn:n≤1000000000) {e:Edu} (he:Sm e):∃ q',Ev (fun k=>queue_Queue_Put.f k s.fQueue e) ((putQ r.fQ e).2.1,(putQ r.fQ e).2.2.1,(putQ r.fQ e).2.2.2,q')∧Ev (fun k=>r17_Put.f k r.fQ e) (putQ r.fQ e)∧RelS ⟨q',s.fself,s.fto,s.fids,s.fair⟩ (putR r e) (n+1):=by
 obtain ⟨q',a,b⟩:=put_bothQ h.q he ⟨h.lost.1,by have:=h.lost.2; omega⟩
 exact ⟨q',a,refPut_ev h.q he,⟨b,h.self,h.to,h.ids,h.nr,h.on,h.off,h.ok,h.len,⟨h.tries.1,by have:=h.tries.2; show r.fTries≤n+1; omega⟩,putQ_lost h.lost hn⟩⟩
abbrev tt1:Edu→Bool:=fun _=>true
structure AllB (f:Edu→Bool) (r:RSnd):Prop where
 q:∀ e∈r.fQ.fL,f e=true
 fly:∀ e∈r.fFly.fEdus,f e=true
theorem filter_all {f:Edu→Bool} {l:List Edu} (h:∀ e∈l,f e=true):l.filter f=l.filter tt1:=by
 rw [List.filter_eq_self.2 h,List.filter_eq_self.2 fun _ _=>rfl]
theorem sendT_all {f:Edu→Bool} {r:RSnd} (h:AllB f r) (t:Int):sendT f r t=sendT tt1 r t∧AllB f (sendT tt1 r t).1:=by
 have hm:∀ e∈r.fQ.fL.filter tt1,f e=true:=fun e he=>h.q e (List.mem_filter.1 he).1
 refine ⟨by unfold sendT; rw [filter_all h.q],?_⟩
 unfold sendT
 split
 ·exact ⟨hm,h.fly⟩
 ·split
  ·exact ⟨hm,h.fly⟩
  ·exact ⟨fun e he=>hm e (List.mem_of_mem_drop he),fun e he=>hm e (List.mem_of_mem_take he)⟩
theorem sendR_all {f:Edu→Bool} {r:RSnd} (h:AllB f r) (t:Int):sendR f r t=sendR tt1 r t∧AllB f (sendR tt1 r t).1:=by
 have ho:AllB f (outR r):=⟨h.q,fun e he=>by cases he⟩
 unfold sendR
 rw [filter_all h.fly,(sendT_all h t).1,(sendT_all ho t).1]
 refine ⟨rfl,?_⟩
 cases r.fOn with
 | false=>exact (sendT_all h t).2
 | true=>
  show AllB f (if t<r.fDue then _ else _:RSnd×Par×Bool×Int).1
  split
  ·exact h
  ·split
   ·exact (sendT_all ho t).2
   ·exact ⟨h.q,fun e he=>h.fly e (List.mem_filter.1 he).1⟩
theorem sendT_to (f:Edu→Bool) (r:RSnd) (t:Int):(sendT f r t).1.fTo=r.fTo:=by
 unfold sendT; split
 ·rfl
 ·split <;> rfl
theorem sendR_to (f:Edu→Bool) (r:RSnd) (t:Int):(sendR f r t).1.fTo=r.fTo:=by
 unfold sendR
 cases r.fOn with
 | false=>exact sendT_to f r t
 | true=>
  show (if t<r.fDue then _ else _:RSnd×Par×Bool×Int).1.fTo=r.fTo
  split
  ·rfl
  ·split
   ·exact sendT_to f (outR r) t
   ·rfl
structure Live (w:RView) (s:SSnd) (r:RSnd) (n:Int):Prop where
 rel:RelS s r n
 all:AllB (pb w s2) r
 to:r.fTo=s2
theorem live_new {w:RView} {most n:Int} (hm:1≤most∧most≤120) (hn:0≤n∧n≤1099511627776):Live w (newS most n) (newR most n) 0:=⟨relS_new hm hn,⟨fun e he=>(by cases he),fun e he=>(by cases he)⟩,rfl⟩
theorem send_live {v:VView} {w:RView} (ho:VOk v w) {s:SSnd} {r:RSnd} {n t:Int} (h:Live w s r n) (ht:0≤t∧t≤1000000000) (hn:n≤1000000000):
  ∃ s',Ev (fun k=>sender_Sender_Send.f k s v t) ((sendR tt1 r t).2.1,(sendR tt1 r t).2.2.1,(sendR tt1 r t).2.2.2,s')∧Live w s' (sendR tt1 r t).1 (n+1):=by
 obtain ⟨s',a,_,b⟩:=send_both ho.rel ho.rooms ho.len h.rel ht hn
 have he:=sendR_all h.all t
 rw [h.to,he.1] at a b
 exact ⟨s',a,b,he.2,by rw [sendR_to]; exact h.to⟩
theorem putQ_all {f:Edu→Bool} {r:RQue} {e:Edu} (h:∀ x∈r.fL,f x=true) (he:f e=true):∀ x∈(putQ r e).1.fL,f x=true:=by
 have hm:∀ x∈(r.fL.filter fun o=>!decide (keyE o=keyE e))++[e],f x=true:=fun x hx=>by
  rcases List.mem_append.1 hx with hx | hx
  ·exact h x (List.mem_filter.1 hx).1
  ·rw [List.mem_singleton.1 hx]; exact he
 unfold putQ
 split
 ·exact h
 ·split
  ·exact h
  ·split
   ·exact fun x hx=>hm x (List.mem_of_mem_drop hx)
   ·exact hm
theorem put_live {w:RView} {s:SSnd} {r:RSnd} {n:Int} (h:Live w s r n) (hn:n≤1000000000) {e:Edu} (he:Sm e) (hp:pb w s2 e=true):∃ q',Ev (fun k=>queue_Queue_Put.f k s.fQueue e) ((putQ r.fQ e).2.1,(putQ r.fQ e).2.2.1,(putQ r.fQ e).2.2.2,q')∧Live w ⟨q',s.fself,s.fto,s.fids,s.fair⟩ (putR r e) (n+1):=by
 obtain ⟨q',a,_,b⟩:=put_both h.rel hn he
 exact ⟨q',a,b,⟨putQ_all h.all.q hp,h.all.fly⟩,h.to⟩
def pE (u:ByteArray) (st stamp:Int):Edu:=⟨3,⟨#[]⟩,u,⟨#[]⟩,⟨#[]⟩,false,false,0,st,0,stamp⟩
theorem pE_sm {u:ByteArray} (hu:u∈users) {st stamp:Int} (h1:0≤st∧st≤2) (h2:0≤stamp∧stamp≤1000):Sm (pE u st stamp):=
 ⟨by show (0:Int)≤3∧(3:Int)<128; omega,by show 0<128; omega,by show u.size<128; rw [(user_in hu).2]; omega,by show 0<128; omega,by show 0<128; omega,by show (0:Int)≤0∧(0:Int)<128; omega,by show 0≤st∧st<128; omega,by show (0:Int)≤0∧(0:Int)≤1099511627776; omega,by show 0≤stamp∧stamp≤1099511627776; omega⟩
theorem pE_may {u:ByteArray} (hu:u∈users) {st stamp:Int} (h1:0≤st∧st≤2) (h2:0≤stamp∧stamp≤1000):mayL (pE u st stamp)=true:=by
 have e1:decide (st<0)=false:=decide_eq_false (by omega)
 have e2:decide (2<st)=false:=decide_eq_false (by omega)
 have e3:decide (stamp<0)=false:=decide_eq_false (by omega)
 have e4:decide (1099511627776<stamp)=false:=decide_eq_false (by omega)
 have e5:=(user_in hu).1
 unfold mayL localB okU pE
 simp [e1,e2,e3,e4,e5]
theorem pE_pb {v:VView} {w:RView} (h:Opened v w) {u:ByteArray} (hu:u∈users) {st stamp:Int} (h1:0≤st∧st≤2) (h2:0≤stamp∧stamp≤1000):pb w s2 (pE u st stamp)=true:=
 h.pb3 (pE_sm hu h1 h2).zz (pE_may hu h1 h2) rfl hu
def ua:ByteArray:=⟨#[64,97,58,115,49]⟩
theorem ua_in:ua∈users:=List.mem_cons_self ..
def dg (n:Nat):UInt8:=UInt8.ofNat (48+n)
def decB (n:Nat):ByteArray:=if n<10 then ⟨#[dg n]⟩ else if n<100 then ⟨#[dg (n/10),dg (n%10)]⟩ else ⟨#[dg (n/100),dg (n/10%10),dg (n%10)]⟩
theorem dg_ev {n:Nat} (h:n<10):ofNums ([IntKind.u8.wrap (w64 (48+(n:Int)))]:List Int)=(⟨#[dg n]⟩:ByteArray)∧∀ k,r01_Decimal.f (k+1) (n:Int)=some (⟨#[dg n]⟩:ByteArray):=by
 match n,h with
 | 0,_=>exact ⟨rfl,fun _=>rfl⟩
 | 1,_=>exact ⟨rfl,fun _=>rfl⟩
 | 2,_=>exact ⟨rfl,fun _=>rfl⟩
 | 3,_=>exact ⟨rfl,fun _=>rfl⟩
 | 4,_=>exact ⟨rfl,fun _=>rfl⟩
 | 5,_=>exact ⟨rfl,fun _=>rfl⟩
 | 6,_=>exact ⟨rfl,fun _=>rfl⟩
 | 7,_=>exact ⟨rfl,fun _=>rfl⟩
 | 8,_=>exact ⟨rfl,fun _=>rfl⟩
 | 9,_=>exact ⟨rfl,fun _=>rfl⟩
theorem dec_step {n:Nat} (h:10≤n) (hn:n≤1000000) {k:Nat} {s:ByteArray} (hs:r01_Decimal.f k ((n/10:Nat):Int)=some s) (hl:s.size≤100):r01_Decimal.f (k+1) (n:Int)=some (s++(⟨#[dg (n%10)]⟩:ByteArray)):=by
 have e1:(n:Int).tmod 10=((n%10:Nat):Int):=by rw [Int.tmod_eq_emod_of_nonneg (by omega)]; omega
 have e2:(n:Int).tdiv 10=((n/10:Nat):Int):=by rw [Int.tdiv_eq_ediv_of_nonneg (by omega)]; omega
 have e3:=(dg_ev (n:=n%10) (by omega)).1
 rw [r01_Decimal.f,e1,e2,w64_id (x:=((n/10:Nat):Int)) (by omega) (by omega),hs]
 rw [decide_eq_false (show ¬ ((n%10:Nat):Int)<0 by omega),decide_eq_true (show (-10:Int)<(n:Int) by omega),decide_eq_false (show ¬ (n:Int)<10 by omega)]
 show grd (s.size+(ofNums ([IntKind.u8.wrap (w64 (48+((n%10:Nat):Int)))]:List Int)).size≤9223372036854775807) (some (s++(ofNums ([IntKind.u8.wrap (w64 (48+((n%10:Nat):Int)))]:List Int))))=_
 rw [e3]
 unfold grd
 rw [if_pos (by show s.size+1≤9223372036854775807; omega)]
theorem dec_ev {n:Nat} (h:n<1000):Ev (fun k=>r01_Decimal.f k (n:Int)) (decB n):=by
 refine Ev.add 3 fun m=>?_
 unfold decB
 by_cases h1:n<10
 ·rw [if_pos h1]; exact (dg_ev h1).2 _
 ·rw [if_neg h1]
  by_cases h2:n<100
  ·rw [if_pos h2]
   exact dec_step (by omega) (by omega) ((dg_ev (n:=n/10) (by omega)).2 (m+1)) (by show 1≤100; omega)
  ·rw [if_neg h2]
   have e:n/10/10=n/100:=by omega
   have:=dec_step (n:=n/10) (by omega) (by omega) ((dg_ev (n:=n/10/10) (by omega)).2 m) (by show 1≤100; omega)
   rw [e] at this
   exact dec_step (by omega) (by omega) this (by show 2≤100; omega)
theorem decB_size (n:Nat):(decB n).size≤3:=by
 unfold decB
 split
 ·show 1≤3; omega
 ·split
  ·show 2≤3; omega
  ·show 3≤3; omega
theorem putQ_one {m l:Int} (hm:1≤m) {e:Edu} (he:mayL e=true):putQ ⟨m,[],l⟩ e=(⟨m,[e],l⟩,zE,false,0):=by
 unfold putQ
 rw [if_neg (by simp [he]),if_neg (by simp),if_neg (by simp; omega)]
 rfl
def simT:Nat→Nat→RSnd→List Nat
 | 0,_,_=>[]
 | d+1,t,r=>(if (sendR tt1 r (t:Int)).2.2.1=true then [t] else [])++simT d (t+1) (sendR tt1 r (t:Int)).1
def addT (s:ByteArray) (t:Nat):ByteArray:=(s++(⟨#[32]⟩:ByteArray))++decB t
theorem app_size (a b:ByteArray):(a++b).size=a.size+b.size:=ByteArray.size_append
theorem lives_loop {v:VView} {w w0:RView} (ho:VOk v w):∀ d t:Nat,48-t=d→t≤48→∀ (s:SSnd) (r:RSnd) (str:ByteArray),Live w s r ((t:Int)+5)→str.size≤10*t→
  ∃ s',El (fun k j=>w18_lives.l0 k (some v,w0) j str (t:Int) s) ((simT d t r).foldl addT str,(48:Int),false,s'):=by
 intro d
 induction d with
 | zero=>
  intro t hd ht s r str h hs
  obtain rfl:t=48:=by omega
  refine ⟨s,?_⟩
  refine El.step (fun _ _=>by rw [w18_lives.l0]) ?_
  exact El.cf rfl El.pure
 | succ d ih=>
  intro t hd ht s r str h hs
  have ht2:t<48:=by omega
  obtain ⟨s1,a,b⟩:=send_live ho h (t:=(t:Int)) (by omega) (by omega)
  have b':Live w s1 (sendR tt1 r (t:Int)).1 (((t+1:Nat):Int)+5):=by
   have:(t:Int)+5+1=((t+1:Nat):Int)+5:=by omega
   rwa [this] at b
  have hd2:=decB_size t
  have hw:=inc1 (show t≤1000000 by omega)
  have e32:(⟨#[32]⟩:ByteArray).size=1:=rfl
  cases hb:(sendR tt1 r (t:Int)).2.2.1 with
  | true=>
   obtain ⟨s',c⟩:=ih (t+1) (by omega) (by omega) s1 _ (addT str t) b' (by unfold addT; rw [app_size,app_size,e32]; omega)
   refine ⟨s',?_⟩
   rw [simT,hb,if_pos rfl,List.foldl_append]
   refine El.step (fun _ _=>by rw [w18_lives.l0]) ?_
   refine El.ct (decide_eq_true (by omega)) (El.bind a.el (El.ct hb ?_))
   refine El.grd (by rw [e32]; omega) (El.bind (dec_ev (by omega)).el (El.grd (by rw [app_size,e32]; omega) ?_))
   rw [hw]
   exact c
  | false=>
   obtain ⟨s',c⟩:=ih (t+1) (by omega) (by omega) s1 _ str b' (by omega)
   refine ⟨s',?_⟩
   rw [simT,hb,if_neg (by decide),List.nil_append]
   refine El.step (fun _ _=>by rw [w18_lives.l0]) ?_
   refine El.ct (decide_eq_true (by omega)) (El.bind a.el (El.cf hb ?_))
   rw [hw]
   exact c
theorem lives_ev:Ev (fun k=>w18_lives.f k) true:=by
 obtain ⟨v,w,o1,o2⟩:=open_ev
 have hm:(0:Int)≤2∧(2:Int)≤2:=by omega
 have h0:(0:Int)≤0∧(0:Int)≤1000:=by omega
 obtain ⟨q',p1,p2⟩:=put_live (live_new (w:=w) (most:=5) (n:=0) (by omega) (by omega)) (by omega) (pE_sm ua_in hm h0) (pE_pb o2 ua_in hm h0)
 have hp:putQ (newR 5 0).fQ (pE ua 2 0)=(⟨5,[pE ua 2 0],0⟩,zE,false,0):=putQ_one (by omega) (pE_may ua_in hm h0)
 have hpr:putR (newR 5 0) (pE ua 2 0)=⟨s1,s2,0,⟨5,[pE ua 2 0],0⟩,zP,false,0,0⟩:=by unfold putR; rw [hp]; rfl
 rw [hpr] at p2
 obtain ⟨s',l⟩:=lives_loop (w0:=w) o2.toVOk 48 0 rfl (by omega) _ _ (⟨#[]⟩:ByteArray) ⟨p2.rel.up (by omega),p2.all,p2.to⟩ (Nat.zero_le _)
 have hs:(simT 48 0 ⟨s1,s2,0,⟨5,[pE ua 2 0],0⟩,zP,false,0,0⟩).foldl addT (⟨#[]⟩:ByteArray)=(⟨#[32,48,32,49,32,51,32,55,32,49,53,32,51,49,32,52,55]⟩:ByteArray):=by kernel_rfl
 rw [hs] at l
 unfold w18_lives.f
 refine Ev.bind o1 (Ev.bind (begin_ev (by omega) (by omega)) (Ev.cf rfl (Ev.cf rfl ?_)))
 refine Ev.bind p1 (Ev.bind l.diag (Ev.of ?_))
 rw [decide_eq_true rfl]
end Go.Proofs.YtmmaijneehmbgaaGreat
