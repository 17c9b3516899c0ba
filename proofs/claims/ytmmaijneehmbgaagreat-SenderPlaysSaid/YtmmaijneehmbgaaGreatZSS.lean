import Derived.Test.YtmmaijneehmbgaaGreatZSK
import Derived.Test.YtmmaijneehmbgaaGreatZSA
set_option linter.all false
set_option maxRecDepth 10000
namespace Go.Proofs.YtmmaijneehmbgaaGreat
open Go Go.Sp
def zP:Par:=⟨false,⟨#[]⟩,⟨#[]⟩,0,[]⟩
structure RelS (s:SSnd) (r:RSnd) (n:Int):Prop where
 q:RelQ s.fQueue r.fQ
 self:s.fself=r.fSelf
 to:s.fto=r.fTo
 ids:s.fids=⟨⟨r.fN⟩,1099511627776⟩
 nr:0≤r.fN∧r.fN≤1099511627776
 on:r.fOn=true→s.fair=some ⟨r.fFly,r.fTries,r.fDue⟩
 off:r.fOn=false→s.fair=none∧r.fFly=zP∧r.fTries=0∧r.fDue=0
 ok:∀ e∈r.fFly.fEdus,OkP e
 len:r.fFly.fEdus.length≤100
 tries:0≤r.fTries∧r.fTries≤n
 lost:0≤r.fQ.fLost∧r.fQ.fLost≤n
def sendT (f:Edu→Bool) (r:RSnd) (t:Int):RSnd×Par×Bool×Int:=
 if (r.fQ.fL.filter f).length=0 then (⟨r.fSelf,r.fTo,r.fN,⟨r.fQ.fMost,r.fQ.fL.filter f,r.fQ.fLost⟩,r.fFly,r.fOn,r.fTries,r.fDue⟩,zP,false,0)
 else if r.fN=1099511627776 then (⟨r.fSelf,r.fTo,r.fN,⟨r.fQ.fMost,r.fQ.fL.filter f,r.fQ.fLost⟩,r.fFly,r.fOn,r.fTries,r.fDue⟩,zP,false,11)
 else (⟨r.fSelf,r.fTo,r.fN+1,⟨r.fQ.fMost,(r.fQ.fL.filter f).drop 100,r.fQ.fLost⟩,⟨false,r.fSelf,r.fTo,r.fN+1,(r.fQ.fL.filter f).take 100⟩,true,0,t+1⟩,⟨false,r.fSelf,r.fTo,r.fN+1,(r.fQ.fL.filter f).take 100⟩,true,0)
def outR (r:RSnd):RSnd:=⟨r.fSelf,r.fTo,r.fN,r.fQ,zP,false,0,0⟩
def sendR (f:Edu→Bool) (r:RSnd) (t:Int):RSnd×Par×Bool×Int:=
 cond r.fOn
  (if t<r.fDue then (r,zP,false,0)
  else if (r.fFly.fEdus.filter f).length=0 then sendT f (outR r) t
  else (⟨r.fSelf,r.fTo,r.fN,r.fQ,⟨r.fFly.fAck,r.fFly.fFrom,r.fFly.fTo,r.fFly.fID,r.fFly.fEdus.filter f⟩,true,r.fTries+1,t+bk (r.fTries+1)⟩,⟨r.fFly.fAck,r.fFly.fFrom,r.fFly.fTo,r.fFly.fID,r.fFly.fEdus.filter f⟩,true,0))
  (sendT f r t)
theorem RelS.up {s:SSnd} {r:RSnd} {n m:Int} (h:RelS s r n) (hm:n≤m):RelS s r m:=⟨h.q,h.self,h.to,h.ids,h.nr,h.on,h.off,h.ok,h.len,⟨h.tries.1,by have:=h.tries.2; omega⟩,⟨h.lost.1,by have:=h.lost.2; omega⟩⟩
theorem clone_ev {l:List Edu} (h:l.length≤100000):slices_Clone_Edu.f l=some l:=by
 unfold slices_Clone_Edu.f grd
 rw [if_pos ⟨by omega,by omega⟩]
theorem told_ev {s:SSnd} {y:Fly} (h:s.fair=some y) (hl:y.fp.fEdus.length≤100000):sender_Sender_told.f s=some y.fp:=by
 unfold sender_Sender_told.f grd
 rw [h,if_pos (show (some y).isSome=true from rfl)]
 show (slices_Clone_Edu.f y.fp.fEdus).bind _=_
 rw [clone_ev hl]; rfl
theorem keep_filter (f:Edu→Bool) (L:List Edu):L.filter (fun e=>(L.filter f).any fun o=>decide (o=e))=L.filter f:=by
 refine List.filter_congr fun e he=>?_
 rw [Bool.eq_iff_iff,List.any_eq_true]
 constructor
 ·rintro ⟨o,h1,h2⟩
  rw [← of_decide_eq_true h2]
  exact (List.mem_filter.1 h1).2
 ·exact fun h=>⟨e,List.mem_filter.2 ⟨he,h⟩,decide_eq_true rfl⟩
theorem bk_le (n:Int):1≤bk n∧bk n≤16:=pw_le _
theorem RelS.out {s:SSnd} {r:RSnd} {n:Int} (h:RelS s r n):RelS ⟨s.fQueue,s.fself,s.fto,s.fids,none⟩ (outR r) n:=
 ⟨h.q,h.self,h.to,h.ids,h.nr,fun e=>(by cases e),fun _=>⟨rfl,rfl,rfl,rfl⟩,fun e he=>(by cases he),Nat.zero_le _,⟨Int.le_refl 0,by have:=h.tries; show (0:Int)≤n; omega⟩,h.lost⟩
section
variable {v:VView} {w:RView} (hr:RelV v w) (hl:w.fD.length≤50) (hd:∀ room,(ofR w room).fL.length≤1000)
include hr hl hd
theorem sendT_both {s:SSnd} {r:RSnd} {n t:Int} (h:RelS s r n) (ht:0≤t∧t≤1000000000):
  ∃ s',Ev (fun k=>(queue_Queue_All.f k s.fQueue).bind fun t1129=>(gate_Choose.f k v s.fto t1129).bind fun t1131=>(queue_Queue_Keep.f k s.fQueue t1131).bind fun t1133=>(queue_Queue_Len.f t1133).bind fun t1137=>cond (t1137==0) (some ((⟨false,(⟨#[]⟩:ByteArray),(⟨#[]⟩:ByteArray),0,([]:List Edu)⟩:Par),false,(0:Int),(⟨t1133,s.fself,s.fto,s.fids,s.fair⟩:SSnd))) ((clock_Counter_Next.f k s.fids).bind fun t1140=>cond (t1140.2.1 != 0) (some ((⟨false,(⟨#[]⟩:ByteArray),(⟨#[]⟩:ByteArray),0,([]:List Edu)⟩:Par),false,t1140.2.1,(⟨t1133,s.fself,s.fto,t1140.2.2,s.fair⟩:SSnd))) ((queue_Queue_Take.f k t1133 100).bind fun t1143=>(clock_Backoff.f k 0).bind fun t1146=>(sender_Sender_told.f (⟨t1143.2,s.fself,s.fto,t1140.2.2,some (⟨(⟨false,s.fself,s.fto,t1140.1,t1143.1⟩:Par),0,w64 (t+t1146)⟩:Fly)⟩:SSnd)).bind fun t1153=>some (t1153,true,0,(⟨t1143.2,s.fself,s.fto,t1140.2.2,some (⟨(⟨false,s.fself,s.fto,t1140.1,t1143.1⟩:Par),0,w64 (t+t1146)⟩:Fly)⟩:SSnd)))))
    ((sendT (pb w r.fTo) r t).2.1,(sendT (pb w r.fTo) r t).2.2.1,(sendT (pb w r.fTo) r t).2.2.2,s')∧
   Ev (fun k=>(r16_Choose.f k w r.fTo r.fQ.fL).bind fun t1798=>(r17_Keep.f k r.fQ t1798).bind fun t1800=>cond ((t1800.fL.length:Int)==0) (some ((⟨r.fSelf,r.fTo,r.fN,t1800,r.fFly,r.fOn,r.fTries,r.fDue⟩:RSnd),(⟨false,(⟨#[]⟩:ByteArray),(⟨#[]⟩:ByteArray),0,([]:List Edu)⟩:Par),false,(0:Int))) (cond (decide (1099511627776≤r.fN)) (some ((⟨r.fSelf,r.fTo,r.fN,t1800,r.fFly,r.fOn,r.fTries,r.fDue⟩:RSnd),(⟨false,(⟨#[]⟩:ByteArray),(⟨#[]⟩:ByteArray),0,([]:List Edu)⟩:Par),false,11)) ((r17_Take.f t1800 100).bind fun t1804=>some ((⟨r.fSelf,r.fTo,w64 (r.fN+1),t1804.1,(⟨false,r.fSelf,r.fTo,w64 (r.fN+1),t1804.2⟩:Par),true,0,w64 (t+1)⟩:RSnd),(⟨false,r.fSelf,r.fTo,w64 (r.fN+1),t1804.2⟩:Par),true,0))))
    (sendT (pb w r.fTo) r t)∧RelS s' (sendT (pb w r.fTo) r t).1 n:=by
 have hs:=h.q.short
 have hN:=h.nr
 have hz:∀ e∈r.fQ.fL,Zz e:=fun e he=>(h.q.ok e he).zz
 have c1:=choose1_ev hr hl hd r.fTo hz (by omega)
 have c2:=choose2_ev hr hl hd r.fTo hz (by omega)
 have hfl:(r.fQ.fL.filter (pb w r.fTo)).length≤r.fQ.fL.length:=List.length_filter_le _ _
 obtain ⟨⟨q',k1,k2⟩,k3⟩:=keep_evQ h.q (r.fQ.fL.filter (pb w r.fTo)) (by omega)
 rw [keep_filter] at k2 k3
 have hq'l:q'.fkeys.length=(r.fQ.fL.filter (pb w r.fTo)).length:=by rw [k2.keys,List.length_map]
 have hmem:∀ e∈r.fQ.fL.filter (pb w r.fTo),OkP e:=fun e he=>h.q.ok e (List.mem_filter.1 he).1
 unfold sendT
 generalize r.fQ.fL.filter (pb w r.fTo)=L at *
 rw [h.to]
 by_cases h0:L.length=0
 ·rw [if_pos h0]
  refine ⟨⟨q',s.fself,r.fTo,s.fids,s.fair⟩,?_,?_,⟨k2,h.self,rfl,h.ids,h.nr,h.on,h.off,h.ok,h.len,h.tries,h.lost⟩⟩
  ·refine Ev.bind (all_evQ h.q) (Ev.bind c1 (Ev.bind k1 (Ev.bind (a:=(L.length:Int)) (Ev.of (by unfold queue_Queue_Len.f; rw [hq'l])) ?_)))
   exact Ev.ct (by rw [h0]; rfl) Ev.pure
  ·refine Ev.bind c2 (Ev.bind k3 ?_)
   exact Ev.ct (by show ((L.length:Int)==0)=true; rw [h0]; rfl) Ev.pure
 ·rw [if_neg h0]
  have hne:((L.length:Int)==0)=false:=by rw [beq_eq_false_iff_ne]; omega
  have nx:=next_ev hN
  by_cases hN2:r.fN=1099511627776
  ·rw [if_pos hN2] at nx ⊢
   rw [← h.ids] at nx
   refine ⟨⟨q',s.fself,r.fTo,s.fids,s.fair⟩,?_,?_,⟨k2,h.self,rfl,h.ids,h.nr,h.on,h.off,h.ok,h.len,h.tries,h.lost⟩⟩
   ·refine Ev.bind (all_evQ h.q) (Ev.bind c1 (Ev.bind k1 (Ev.bind (a:=(L.length:Int)) (Ev.of (by unfold queue_Queue_Len.f; rw [hq'l])) ?_)))
    exact Ev.cf hne (Ev.bind nx (Ev.ct rfl Ev.pure))
   ·refine Ev.bind c2 (Ev.bind k3 ?_)
    exact Ev.cf hne (Ev.ct (decide_eq_true (by omega)) Ev.pure)
  ·rw [if_neg hN2] at nx ⊢
   rw [← h.ids] at nx
   have hw:w64 (r.fN+1)=r.fN+1:=w64_id (by omega) (by omega)
   have hw2:w64 (t+1)=t+1:=w64_id (by omega) (by omega)
   obtain ⟨⟨q2,t1,t2⟩,t3⟩:=take_evQ k2 100
   have hm:L.take (mOf 100 L)=L.take 100:=by
    by_cases hc:L.length≤100
    ·rw [List.take_of_length_le hc,show mOf 100 L=L.length by unfold mOf; omega,List.take_length]
    ·rw [show mOf 100 L=100 by unfold mOf; omega]
   have hm':L.drop (mOf 100 L)=L.drop 100:=by
    by_cases hc:L.length≤100
    ·rw [List.drop_of_length_le hc,show mOf 100 L=L.length by unfold mOf; omega,List.drop_length]
    ·rw [show mOf 100 L=100 by unfold mOf; omega]
   dsimp only at t1 t2 t3
   rw [hm] at t1 t3
   rw [hm'] at t2 t3
   have htk:(L.take 100).length≤100:=by rw [List.length_take]; omega
   have hself:=h.self
   have htr:=h.tries
   refine ⟨⟨q2,s.fself,r.fTo,⟨⟨r.fN+1⟩,1099511627776⟩,some ⟨⟨false,s.fself,r.fTo,r.fN+1,L.take 100⟩,0,t+1⟩⟩,?_,?_,⟨t2,h.self,rfl,rfl,⟨by show (0:Int)≤r.fN+1; omega,by show r.fN+1≤(1099511627776:Int); omega⟩,fun _=>by rw [hself],fun e=>(by cases e),fun e he=>hmem e (List.mem_of_mem_take he),htk,⟨Int.le_refl 0,by show (0:Int)≤n; omega⟩,h.lost⟩⟩
   ·refine Ev.bind (all_evQ h.q) (Ev.bind c1 (Ev.bind k1 (Ev.bind (a:=(L.length:Int)) (Ev.of (by unfold queue_Queue_Len.f; rw [hq'l])) ?_)))
    refine Ev.cf hne (Ev.bind nx (Ev.cf rfl (Ev.bind t1 (Ev.bind (backoff_ev 0) ?_))))
    show Ev (fun k=>(sender_Sender_told.f ⟨q2,s.fself,r.fTo,⟨⟨r.fN+1⟩,1099511627776⟩,some ⟨⟨false,s.fself,r.fTo,r.fN+1,L.take 100⟩,0,w64 (t+1)⟩⟩).bind fun x=>some (x,true,(0:Int),(⟨q2,s.fself,r.fTo,⟨⟨r.fN+1⟩,1099511627776⟩,some ⟨⟨false,s.fself,r.fTo,r.fN+1,L.take 100⟩,0,w64 (t+1)⟩⟩:SSnd))) _
    rw [told_ev rfl (by show (L.take 100).length≤100000; omega),hw2,hself]
    exact Ev.pure
   ·refine Ev.bind c2 (Ev.bind k3 ?_)
    refine Ev.cf hne (Ev.cf (decide_eq_false (by omega)) ?_)
    refine Ev.bind (Ev.of t3) ?_
    rw [hw,hw2]
    exact Ev.pure
theorem send_both {s:SSnd} {r:RSnd} {n t:Int} (h:RelS s r n) (ht:0≤t∧t≤1000000000) (hn:n≤1000000000):
  ∃ s',Ev (fun k=>sender_Sender_Send.f k s v t) ((sendR (pb w r.fTo) r t).2.1,(sendR (pb w r.fTo) r t).2.2.1,(sendR (pb w r.fTo) r t).2.2.2,s')∧
   Ev (fun k=>r18_Send.f k r w t) (sendR (pb w r.fTo) r t)∧RelS s' (sendR (pb w r.fTo) r t).1 (n+1):=by
 unfold sender_Sender_Send.f r18_Send.f sendR
 cases hon:r.fOn with
 | false=>
  have ho:=h.off hon
  obtain ⟨s',a1,a2,a3⟩:=sendT_both hr hl hd h ht
  refine ⟨s',?_,?_,a3.up (by omega)⟩
  ·refine Ev.bind (a:=.inl s) ?_ ?_
   ·rw [ho.1]
    exact Ev.cf rfl Ev.pure
   ·exact a1
  ·refine Ev.cf rfl ?_
   refine Ev.bind (a:=.inl r) ?_ ?_
   ·refine Ev.cf rfl ?_
    rw [← hon]
    exact Ev.pure
   ·exact a2
 | true=>
  have ho:=h.on hon
  have htr:=h.tries
  rw [ho]
  by_cases hdue:t<r.fDue
  ·show ∃ s',_∧_∧RelS s' (if t<r.fDue then _ else _:RSnd×Par×Bool×Int).1 (n+1)
   simp only [cond_true]
   rw [if_pos hdue]
   refine ⟨s,?_,?_,h.up (by omega)⟩
   ·refine Ev.bind (a:=.inr (zP,false,0,s)) ?_ ?_
    rotate_left
    ·exact Ev.pure
    exact Ev.ct rfl (Ev.ct (decide_eq_true hdue) Ev.pure)
   ·refine Ev.ct (decide_eq_true hdue) ?_
    rw [← hon]
    exact Ev.pure
  ·simp only [cond_true]
   rw [if_neg hdue]
   have hz:∀ e∈r.fFly.fEdus,Zz e:=fun e he=>(h.ok e he).zz
   have hlen:=h.len
   have c1:=choose1_ev hr hl hd r.fTo hz (by omega)
   have c2:=choose2_ev hr hl hd r.fTo hz (by omega)
   have hfl:(r.fFly.fEdus.filter (pb w r.fTo)).length≤r.fFly.fEdus.length:=List.length_filter_le _ _
   have hmem:∀ e∈r.fFly.fEdus.filter (pb w r.fTo),OkP e:=fun e he=>h.ok e (List.mem_filter.1 he).1
   generalize r.fFly.fEdus.filter (pb w r.fTo)=L at *
   by_cases h0:L.length=0
   ·rw [if_pos h0]
    obtain ⟨s',a1,a2,a3⟩:=sendT_both hr hl hd h.out ht
    refine ⟨s',?_,?_,a3.up (by omega)⟩
    ·refine Ev.bind (a:=.inl ⟨s.fQueue,s.fself,s.fto,s.fids,none⟩) ?_ ?_
     rotate_left
     ·exact a1
     refine Ev.ct rfl (Ev.cf (decide_eq_false hdue) ?_)
     unfold sender_Sender_again.f
     rw [ho,h.to]
     refine Ev.bind (a:=(false,⟨s.fQueue,s.fself,r.fTo,s.fids,none⟩)) (Ev.grd rfl (Ev.bind c1 (Ev.ct (by rw [h0]; rfl) Ev.pure))) ?_
     exact Ev.cf rfl Ev.pure
    ·refine Ev.cf (decide_eq_false hdue) ?_
     refine Ev.bind (a:=.inl (outR r)) ?_ ?_
     rotate_left
     ·exact a2
     exact Ev.bind c2 (Ev.cf (decide_eq_false (by omega)) Ev.pure)
   ·rw [if_neg h0]
    have hb:=bk_le (r.fTries+1)
    have hw:w64 (r.fTries+1)=r.fTries+1:=w64_id (by omega) (by omega)
    have hw2:w64 (t+bk (r.fTries+1))=t+bk (r.fTries+1):=w64_id (by omega) (by omega)
    have hne:((L.length:Int)==0)=false:=by rw [beq_eq_false_iff_ne]; omega
    refine ⟨⟨s.fQueue,s.fself,r.fTo,s.fids,some ⟨⟨r.fFly.fAck,r.fFly.fFrom,r.fFly.fTo,r.fFly.fID,L⟩,r.fTries+1,t+bk (r.fTries+1)⟩⟩,?_,?_,⟨h.q,h.self,rfl,h.ids,h.nr,fun _=>rfl,fun e=>(by cases e),hmem,by show L.length≤100; omega,⟨by show (0:Int)≤r.fTries+1; omega,by show r.fTries+1≤n+1; omega⟩,⟨h.lost.1,by have:=h.lost.2; show r.fQ.fLost≤n+1; omega⟩⟩⟩
    ·refine Ev.bind (a:=.inr (⟨r.fFly.fAck,r.fFly.fFrom,r.fFly.fTo,r.fFly.fID,L⟩,true,0,⟨s.fQueue,s.fself,r.fTo,s.fids,some ⟨⟨r.fFly.fAck,r.fFly.fFrom,r.fFly.fTo,r.fFly.fID,L⟩,r.fTries+1,t+bk (r.fTries+1)⟩⟩)) ?_ ?_
     rotate_left
     ·exact Ev.pure
     refine Ev.ct rfl (Ev.cf (decide_eq_false hdue) ?_)
     unfold sender_Sender_again.f
     rw [ho,h.to]
     have b:=backoff_ev (r.fTries+1)
     rw [← hw] at b
     refine Ev.bind (a:=(true,⟨s.fQueue,s.fself,r.fTo,s.fids,some ⟨⟨r.fFly.fAck,r.fFly.fFrom,r.fFly.fTo,r.fFly.fID,L⟩,r.fTries+1,t+bk (r.fTries+1)⟩⟩)) (Ev.grd rfl (Ev.bind c1 (Ev.cf hne (Ev.bind b ?_)))) ?_
     ·show Ev (fun _=>some (true,(⟨s.fQueue,s.fself,r.fTo,s.fids,some ⟨⟨r.fFly.fAck,r.fFly.fFrom,r.fFly.fTo,r.fFly.fID,L⟩,w64 (r.fTries+1),w64 (t+bk (w64 (r.fTries+1)))⟩⟩:SSnd))) _
      rw [hw,hw2]; exact Ev.pure
     ·refine Ev.ct rfl (Ev.bind (Ev.of (told_ev rfl (by show L.length≤100000; omega))) Ev.pure)
    ·refine Ev.cf (decide_eq_false hdue) ?_
     refine Ev.bind (a:=.inr (⟨r.fSelf,r.fTo,r.fN,r.fQ,⟨r.fFly.fAck,r.fFly.fFrom,r.fFly.fTo,r.fFly.fID,L⟩,true,r.fTries+1,t+bk (r.fTries+1)⟩,⟨r.fFly.fAck,r.fFly.fFrom,r.fFly.fTo,r.fFly.fID,L⟩,true,0)) ?_ ?_
     rotate_left
     ·exact Ev.pure
     refine Ev.bind c2 (Ev.ct (decide_eq_true (by omega)) (Ev.bind (Ev.of (refbackoff_ev _)) ?_))
     rw [hw,hw2]
     exact Ev.pure
end
end Go.Proofs.YtmmaijneehmbgaaGreat
