import Derived.Test.YtmmaijneehmbgaaGreatZSL
set_option linter.all false
set_option maxRecDepth 10000
namespace Go.Proofs.YtmmaijneehmbgaaGreat
open Go Go.Sp
theorem GE.sm {e:Edu} (h:GE e):Sm e:=by
 obtain ⟨a,b,c,d⟩:=h.sizes
 refine ⟨by rcases h.kind with k | k | k <;> omega,a,b,c,d,?_,by have:=h.state; omega,by have:=h.tick; omega,by have:=h.stamp; omega⟩
 cases ho:e.fOn with
 | false=>rw [h.span0 ho]; omega
 | true=>have:=h.span1 ho; omega
theorem sendT_pass (f:Edu→Bool) (r:RSnd) (t:Int):(sendT f r t).2.1.fEdus.filter f = (sendT f r t).2.1.fEdus∧(sendT f r t).1.fQ.fL.filter f = (sendT f r t).1.fQ.fL:=by
 have h:∀ x∈r.fQ.fL.filter f,f x = true:=fun x hx=>(List.mem_filter.1 hx).2
 have hq:=List.filter_eq_self.2 h
 unfold sendT
 split
 ·exact ⟨rfl,hq⟩
 ·split
  ·exact ⟨rfl,hq⟩
  ·exact ⟨List.filter_eq_self.2 fun x hx=>h x (List.mem_of_mem_take hx),List.filter_eq_self.2 fun x hx=>h x (List.mem_of_mem_drop hx)⟩
theorem sendR_pass (f:Edu→Bool) (r:RSnd) (t:Int):(sendR f r t).2.1.fEdus.filter f = (sendR f r t).2.1.fEdus:=by
 unfold sendR
 cases r.fOn with
 | false=>exact (sendT_pass f r t).1
 | true=>
  show (if t < r.fDue then _ else _:RSnd×Par×Bool×Int).2.1.fEdus.filter f = (if t < r.fDue then _ else _:RSnd×Par×Bool×Int).2.1.fEdus
  split
  ·rfl
  ·split
   ·exact (sendT_pass f (outR r) t).1
   ·exact List.filter_eq_self.2 fun x hx=>(List.mem_filter.1 hx).2
theorem sendT_is {f:Edu→Bool} {r:RSnd} {t:Int} (hN:r.fN≠1099511627776):(sendT f r t).2.2.2 = 0∧(sendT f r t).2.2.1 = decide (0 < ((sendT f r t).2.1.fEdus.length:Int)):=by
 unfold sendT
 split
 ·exact ⟨rfl,rfl⟩
 ·rename_i h
  try rw [if_neg hN]
  refine ⟨rfl,(decide_eq_true ?_).symm⟩
  show (0:Int) < (((r.fQ.fL.filter f).take 100).length:Int)
  rw [List.length_take]; omega
theorem sendR_is {f:Edu→Bool} {r:RSnd} {t:Int} (hN:r.fN≠1099511627776) (hd:r.fOn = true→r.fDue≤t):(sendR f r t).2.2.2 = 0∧(sendR f r t).2.2.1 = decide (0 < ((sendR f r t).2.1.fEdus.length:Int)):=by
 unfold sendR
 cases ho:r.fOn with
 | false=>exact sendT_is hN
 | true=>
  have hd2:=hd ho
  have hi:¬ t < r.fDue:=by omega
  simp only [cond_true]
  rw [if_neg hi]
  split
  ·exact sendT_is (r:=outR r) hN
  ·rename_i h
   refine ⟨rfl,(decide_eq_true ?_).symm⟩
   show (0:Int) < ((r.fFly.fEdus.filter f).length:Int)
   omega
theorem sendT_next {f:Edu→Bool} {r:RSnd} {t:Int} (ho:r.fOn = false) (hN:r.fN = 0):((sendT f r t).1.fOn = true→(sendT f r t).1.fDue≤t + 1)∧(sendT f r t).1.fN≠1099511627776∧(sendT f r t).1.fTo = r.fTo∧(sendT f r t).2.1.fEdus.length≤100:=by
 unfold sendT
 split
 ·exact ⟨fun h=>absurd (show r.fOn = true from h) (by rw [ho]; decide),by show r.fN≠1099511627776; omega,rfl,Nat.zero_le _⟩
 ·try rw [if_neg (by omega)]
  refine ⟨fun _=>Int.le_refl _,by show r.fN + 1≠1099511627776; omega,rfl,?_⟩
  show ((r.fQ.fL.filter f).take 100).length≤100
  rw [List.length_take]; omega
theorem puts_loop {a2:List Edu} (hok:∀ x∈a2,Edu.ok x):∀ d i:Nat,min a2.length 8 - i = d→i≤min a2.length 8→∀ (s:SSnd) (r:RSnd),RelS s r (i:Int)→r.fOn = false→r.fN = 0→r.fTo = s2→
  ∃ (res:Int×Bool) (s':SSnd) (r':RSnd),El (fun k j=>w18_SenderGates.l1 k a2 j (i:Int) s) (res.1,res.2,s')∧RelS s' r' 8∧r'.fOn = false∧r'.fN = 0∧r'.fTo = s2:=by
 intro d
 induction d with
 | zero=>
  intro i hd hi s r h h1 h2 h3
  by_cases hl:i < a2.length
  ·refine ⟨((i:Int),decide ((i:Int) < 8)),s,r,?_,h.up (by omega),h1,h2,h3⟩
   refine El.step (fun _ _=>by rw [w18_SenderGates.l1]) ?_
   exact El.ct (decide_eq_true (by omega)) (El.cf (decide_eq_false (by omega)) El.pure)
  ·refine ⟨((i:Int),false),s,r,?_,h.up (by omega),h1,h2,h3⟩
   refine El.step (fun _ _=>by rw [w18_SenderGates.l1]) ?_
   exact El.cf (decide_eq_false (by omega)) El.pure
 | succ d ih=>
  intro i hd hi s r h h1 h2 h3
  have hl:i < a2.length:=by omega
  have e0:Edu.K.at a2 (i:Int) = a2.getD i default:=at_nat _ _
  obtain ⟨e,e1,e2,_⟩:=public_is (hok _ (getD_mem (d:=default) hl))
  obtain ⟨q',a,_,b⟩:=put_both h (by omega) e2.sm
  have b2:RelS ⟨q',s.fself,s.fto,s.fids,s.fair⟩ (putR r e) ((i + 1:Nat):Int):=by rw [show ((i + 1:Nat):Int) = (i:Int) + 1 by omega]; exact b
  obtain ⟨res,s',r',g,g2⟩:=ih (i + 1) (by omega) (by omega) _ _ b2 h1 h2 h3
  refine ⟨res,s',r',?_,g2⟩
  refine El.step (fun _ _=>by rw [w18_SenderGates.l1]) ?_
  rw [inc1 (show i≤1000000 by omega),e0]
  exact El.ct (decide_eq_true (by omega)) (El.ct (decide_eq_true (by omega)) (El.grd ⟨by omega,by omega⟩ (El.bind e1.el (El.bind a.el g))))
theorem same_choose {v:VView} {w:RView} (o:VOk v w) {l:List Edu} (hz:∀ e∈l,Zz e) (hn:l.length≤100000) (hf:l.filter (pb w s2) = l):Ev (fun k=>r16_Choose.f k w s2 l) l∧Ev (fun k=>r04_SameEdus.f k l l) true:=by
 have h:=choose2_ev o.rel o.rooms o.len s2 hz hn
 rw [hf] at h
 have h2:=sameEdus_ev (xs:=l) (ys:=l) hn
 rw [decide_eq_true rfl] at h2
 exact ⟨h,h2⟩
theorem sendR_zz {f:Edu→Bool} {s:SSnd} {r:RSnd} {n t:Int} (h:RelS s r n):∀ e∈(sendR f r t).2.1.fEdus,Zz e:=by
 have hq:∀ e∈r.fQ.fL,Zz e:=fun e he=>(h.q.ok e he).zz
 have hf:∀ e∈r.fFly.fEdus,Zz e:=fun e he=>(h.ok e he).zz
 have hT:∀ r':RSnd,r'.fQ = r.fQ→∀ e∈(sendT f r' t).2.1.fEdus,Zz e:=fun r' hr' e he=>by
  unfold sendT at he
  split at he
  ·cases he
  ·split at he
   ·cases he
   ·exact hq e (by rw [← hr']; exact (List.mem_filter.1 (List.mem_of_mem_take he)).1)
 intro e he
 unfold sendR at he
 cases ho:r.fOn with
 | false=>rw [ho] at he; exact hT r rfl e he
 | true=>
  rw [ho] at he
  simp only [cond_true] at he
  split at he
  ·cases he
  ·split at he
   ·exact hT (outR r) rfl e he
   ·exact hf e (List.mem_filter.1 he).1
theorem gates_loop {L:List Event} {cut:Nat} (hL:L.length≤100):∀ d i:Nat,L.length - i = d→i≤L.length→∀ (v:VView) (w:RView) (ve:VView) (we:RView) (s:SSnd) (r:RSnd),Runs v w (L.drop i) ve we→RelS s r (100 + (i:Int))→r.fTo = s2→(i≤cut→r.fOn = false∧r.fN = 0)→(r.fOn = true→r.fDue≤1)→r.fN≠1099511627776→
  ∃ (s':SSnd) (r':RSnd),El (fun k j=>w18_SenderGates.l0 k L (cut:Int) j (i:Int) w.fD s v) (.inl ((L.length:Int),false,we.fD,s',ve))∧RelS s' r' 300∧r'.fTo = s2∧(r'.fOn = true→r'.fDue≤1)∧r'.fN≠1099511627776:=by
 intro d
 induction d with
 | zero=>
  intro i hd hi v w ve we s r hr h h1 h2 h3 h4
  obtain rfl:i = L.length:=by omega
  rw [List.drop_length] at hr
  cases hr
  refine ⟨s,r,?_,h.up (by omega),h1,h3,h4⟩
  refine El.step (fun _ _=>by rw [w18_SenderGates.l0]) ?_
  refine El.cf (decide_eq_false (by omega)) ?_
  rw [decide_eq_false (show ¬ ((L.length:Int) < (L.length:Int)) by omega)]
  exact El.pure
 | succ d ih=>
  intro i hd hi v w ve we s r hr h h1 h2 h3 h4
  have hi2:i < L.length:=by omega
  rw [drop_ev hi2] at hr
  cases hr with
  | cons o a b c=>
   have hup:∀ {s' r'},RelS s' r' (100 + (i:Int) + 1)→RelS s' r' (100 + ((i + 1:Nat):Int)):=fun {s' r'} hh=>by
    rw [show 100 + ((i + 1:Nat):Int) = 100 + (i:Int) + 1 by omega]; exact hh
   by_cases hc:i = cut
   ·obtain ⟨ho,hN⟩:=h2 (by omega)
    obtain ⟨s1',p1,_,p3⟩:=send_both o.rel o.rooms o.len h (t:=0) (by omega) (by omega)
    rw [h1] at p1 p3
    have hs:sendR (pb w s2) r 0 = sendT (pb w s2) r 0:=by unfold sendR; rw [ho]; rfl
    have hz:=sendR_zz (f:=pb w s2) (t:=0) h
    rw [hs] at p1 p3 hz
    obtain ⟨n1,n2,n3,n4⟩:=sendT_next (f:=pb w s2) (t:=0) ho hN
    obtain ⟨t1,t2⟩:=sendT_pass (pb w s2) r 0
    obtain ⟨e1,e2⟩:=same_choose o hz (by omega) t1
    have hq:=p3.q.short
    obtain ⟨e3,e4⟩:=same_choose o (fun e he=>(p3.q.ok e he).zz) (by omega) t2
    obtain ⟨s',r',g,g2⟩:=ih (i + 1) (by omega) (by omega) _ _ _ _ s1' _ c (hup p3) (by rw [n3]; exact h1) (fun hh=>by omega) (fun hh=>by have:=n1 hh; omega) n2
    refine ⟨s',r',?_,g2⟩
    refine El.step (fun _ _=>by rw [w18_SenderGates.l0]) ?_
    rw [inc1 (show i≤1000000 by omega),Int.toNat_natCast]
    refine El.ct (decide_eq_true (by omega)) (El.bind (a:=.inl s1') ?_ ?_)
    ·refine El.ct (by simp [hc]) (El.bind p1.el (El.bind e1.el (El.bind e2.el (El.cf rfl ?_))))
     exact El.bind (all_evQ p3.q).el (El.bind e3.el (El.bind e4.el (El.cf rfl El.pure)))
    ·refine El.grd ⟨by omega,by omega⟩ (El.bind a.el (El.grd ⟨by omega,by omega⟩ (El.bind b.el ?_)))
     exact g
   ·obtain ⟨s',r',g,g2⟩:=ih (i + 1) (by omega) (by omega) _ _ _ _ s r c (h.up (by omega)) h1 (fun hh=>h2 (by omega)) h3 h4
    refine ⟨s',r',?_,g2⟩
    refine El.step (fun _ _=>by rw [w18_SenderGates.l0]) ?_
    rw [inc1 (show i≤1000000 by omega),Int.toNat_natCast]
    refine El.ct (decide_eq_true (by omega)) (El.bind (a:=.inl s) ?_ ?_)
    ·exact El.cf (by rw [beq_eq_false_iff_ne]; omega) El.pure
    ·refine El.grd ⟨by omega,by omega⟩ (El.bind a.el (El.grd ⟨by omega,by omega⟩ (El.bind b.el ?_)))
     exact g
theorem SenderGates_pure (a0:List GMade) (a1:List GMade) (a2:List Edu) (a3:Int) (k0:(fun xs:List GMade=>xs.length≤maxLen∧∀ x∈xs,GMade.ok x) a0) (k1:(fun xs:List GMade=>xs.length≤maxLen∧∀ x∈xs,GMade.ok x) a1) (k2:(fun xs:List Edu=>xs.length≤maxLen∧∀ x∈xs,Edu.ok x) a2) (k3:(Lit.int .i64 a3).wf = true):∃ k,w18_SenderGates.f k a0 a1 a2 a3 = some true:=by
 suffices h:Ev (fun k=>w18_SenderGates.f k a0 a1 a2 a3) true from h.ex
 obtain ⟨L,ve,we,l1,l2,l3⟩:=made_runs k0 k1
 have hw:w64 ((L.length:Int) + 1) = (L.length:Int) + 1:=w64_id (by omega) (by omega)
 obtain ⟨c,c1,c2,c3⟩:=around_ev (n:=a3) (m:=(L.length:Int) + 1) (i64_of k3) (by omega) (by omega)
 obtain ⟨C,rfl⟩:∃ C:Nat,c = (C:Int):=⟨c.toNat,by omega⟩
 obtain ⟨res,s0,r0,p1,p2,p3,p4,p5⟩:=puts_loop k2.2 _ 0 rfl (Nat.zero_le _) (newS 20 0) (newR 20 0) (relS_new (by omega) (by omega)) rfl rfl rfl
 obtain ⟨s',r',g1,g2,g3,g4,g5⟩:=gates_loop (cut:=C) (by omega) _ 0 rfl (Nat.zero_le _) ⟨[]⟩ ⟨[]⟩ ve we s0 r0 l3 (p2.up (by omega)) p5 (fun _=>⟨p3,p4⟩) (fun h=>by rw [p3] at h; cases h) (by omega)
 have o:=l3.ok2
 obtain ⟨s2',q1,_,q3⟩:=send_both o.rel o.rooms o.len g2 (t:=1) (by omega) (by omega)
 have hz:=sendR_zz (f:=pb we r'.fTo) (t:=1) g2
 have hpass:=sendR_pass (pb we r'.fTo) r' 1
 obtain ⟨i1,i2⟩:=sendR_is (f:=pb we r'.fTo) (t:=1) g5 g4
 rw [g3] at q1 hz hpass i1 i2
 have hlen:(sendR (pb we s2) r' 1).2.1.fEdus.length≤100000:=by
  have h1:=g2.len
  have f3:∀ r':RSnd,(sendT (pb we s2) r' 1).2.1.fEdus.length≤100:=fun r'=>by
   unfold sendT
   split
   ·exact Nat.zero_le _
   ·split
    ·exact Nat.zero_le _
    ·show (List.take 100 _).length≤100
     rw [List.length_take]; omega
  have f2:(r'.fFly.fEdus.filter (pb we s2)).length≤r'.fFly.fEdus.length:=List.length_filter_le _ _
  unfold sendR
  cases r'.fOn with
  | false=>have:=f3 r'; show (sendT (pb we s2) r' 1).2.1.fEdus.length≤100000; omega
  | true=>
   show (if (1:Int) < r'.fDue then _ else _:RSnd×Par×Bool×Int).2.1.fEdus.length≤100000
   split
   ·exact Nat.zero_le _
   ·split
    ·have:=f3 (outR r'); omega
    ·show (r'.fFly.fEdus.filter (pb we s2)).length≤100000; omega
 obtain ⟨e1,e2⟩:=same_choose o hz hlen hpass
 unfold w18_SenderGates.f
 refine Ev.bind (begin_ev (by omega) (by omega)) (Ev.bind (Ev.of rfl) (Ev.cf rfl (Ev.bind l1 ?_)))
 rw [hw]
 refine Ev.bind (Ev.of c1) (Ev.bind p1.diag (Ev.bind g1.diag ?_))
 refine Ev.bind q1 (Ev.bind e1 (Ev.bind e2 ?_))
 exact Ev.ct (by rw [i1]; rfl) (Ev.ct rfl (Ev.ct (by rw [i2]; simp) (Ev.bind lives_ev Ev.pure)))
end Go.Proofs.YtmmaijneehmbgaaGreat
