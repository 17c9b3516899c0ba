import Derived.Test.YtmmaijneehmbgaaGreatZSL
set_option linter.all false
set_option maxRecDepth 10000
namespace Go.Proofs.YtmmaijneehmbgaaGreat
open Go Go.Sp
theorem GE.sm {e:Edu} (h:GE e):Sm e:=by
 obtain ⟨a,b,c,d⟩:=h.sizes
 refine ⟨by rcases h.kind with k | k | k <;> omega,a,b,c,d,?_,by have:=h.state; omega,by have:=h.tick; omega,by have:=h.stamp; omega⟩
 cases ho:e.fOn with
 | false=>rw [h.span0 ho]; omega
 | true=>have:=h.span1 ho; omega
theorem evs_loop {L:List Event} {r:RSnd} {s:SSnd} {d:Int} {p:Bool} {ve:VView} {we:RView} (hL:L.length≤100):∀ n x:Nat,3-x=n→x≤3→∀ (m:Nat) (v:VView) (w:RView),m≤L.length→Runs v w (L.drop m) ve we→
  ∃ (m':Nat) (v':VView) (w':RView),m'≤L.length∧Runs v' w' (L.drop m') ve we∧El (fun k j=>w18_SenderPlays.l1 k L r s d p j (m:Int) (x:Int) w.fD v) (.inl ((m':Int),d,p,w'.fD,r,s,v')):=by
 intro n
 induction n with
 | zero=>
  intro x hn hx m v w hm hr
  obtain rfl:x=3:=by omega
  refine ⟨m,v,w,hm,hr,?_⟩
  refine El.step (fun _ _=>by rw [w18_SenderPlays.l1]) ?_
  exact El.cf rfl El.pure
 | succ n ih=>
  intro x hn hx m v w hm hr
  by_cases hm2:m<L.length
  ·rw [drop_ev hm2] at hr
   cases hr with
   | cons o a b c=>
    obtain ⟨m',v',w',h1,h2,h3⟩:=ih (x+1) (by omega) (by omega) (m+1) _ _ (by omega) c
    refine ⟨m',v',w',h1,h2,?_⟩
    refine El.step (fun _ _=>by rw [w18_SenderPlays.l1]) ?_
    rw [inc1 (show x≤1000000 by omega),inc1 (show m≤1000000 by omega),Int.toNat_natCast]
    refine El.ct (decide_eq_true (by omega)) (El.ct (decide_eq_true (by omega)) (El.grd ⟨by omega,by omega⟩ (El.bind a.el (El.grd ⟨by omega,by omega⟩ (El.bind b.el h3)))))
  ·refine ⟨m,v,w,hm,hr,?_⟩
   refine El.step (fun _ _=>by rw [w18_SenderPlays.l1]) ?_
   exact El.ct (decide_eq_true (by omega)) (El.cf (decide_eq_false (by omega)) El.pure)
theorem b46 (d:Int):(cond (d==4) (some (d==4)) (cond (d==5) (some (d==5)) (some (d==6))))=some (decide (d=4∨d=5∨d=6)):=by
 by_cases a:d=4
 ·subst a; rfl
 ·by_cases b:d=5
  ·subst b; rfl
  ·by_cases c:d=6
   ·subst c; rfl
   ·rw [show (d==4)=false by simpa using a,show (d==5)=false by simpa using b,show (d==6)=false by simpa using c,decide_eq_false (by omega)]; rfl
theorem b78 (d:Int):(cond (d==7) (some (d==7)) (some (d==8)))=some (decide (d=7∨d=8)):=by
 by_cases a:d=7
 ·subst a; rfl
 ·by_cases b:d=8
  ·subst b; rfl
  ·rw [show (d==7)=false by simpa using a,show (d==8)=false by simpa using b,decide_eq_false (by omega)]; rfl
theorem plays_loop {a3:List SStep} {L:List Event} {ve:VView} {we:RView} (hok:∀ x∈a3,SStep.ok x) (hL:L.length≤100):∀ n i:Nat,min a3.length 20-i=n→i≤min a3.length 20→∀ (m:Nat) (t:Int) (v:VView) (w:RView) (s:SSnd) (r:RSnd),m≤L.length→0≤t→t≤4*(i:Int)→Runs v w (L.drop m) ve we→RelS s r (i:Int)→
  ∃ res,El (fun k j=>w18_SenderPlays.l0 k a3 L j (m:Int) t (i:Int) w.fD r s v) (.inl res):=by
 intro n
 induction n with
 | zero=>
  intro i hn hi m t v w s r hm t0 t1 hr h
  by_cases hl:i<a3.length
  ·refine ⟨((m:Int),t,(i:Int),decide ((i:Int)<20),w.fD,r,s,v),El.step (fun _ _=>by rw [w18_SenderPlays.l0]) ?_⟩
   exact El.ct (decide_eq_true (by omega)) (El.cf (decide_eq_false (by omega)) El.pure)
  ·refine ⟨((m:Int),t,(i:Int),false,w.fD,r,s,v),El.step (fun _ _=>by rw [w18_SenderPlays.l0]) ?_⟩
   exact El.cf (decide_eq_false (by omega)) El.pure
 | succ n ih=>
  intro i hn hi m t v w s r hm t0 t1 hr h
  have hl:i<a3.length:=by omega
  have h20:i<20:=by omega
  have e0:SStep.K.at a3 (i:Int)=a3.getD i default:=kat _ _ default hl
  have hx:=hok _ (getD_mem (d:=default) hl)
  obtain ⟨q,q1,q2,q3⟩:=around_ev (m:=4) (i64_of hx.2.1) (by decide) (by decide)
  obtain ⟨d,d1,d2,d3⟩:=around_ev (m:=10) (i64_of hx.1) (by decide) (by decide)
  have hw:w64 (t+q)=t+q:=w64_id (by omega) (by omega)
  have ho:=hr.ok
  suffices hs:∃ (m':Nat) (v':VView) (w':RView) (s':SSnd) (r':RSnd),m'≤L.length∧Runs v' w' (L.drop m') ve we∧RelS s' r' ((i+1:Nat):Int)∧
    Ev (fun k=>cond (decide (d=4∨d=5∨d=6)) ((r18_Send.f k r w (t+q)).bind fun ta=>(sender_Sender_Send.f k s v (t+q)).bind fun tc=>cond (tc.2.1 != ta.2.2.1) (some (.inr (.inr (.inr false)))) (cond (ta.2.2.2 != tc.2.2.1) (some (.inr (.inr (.inr false)))) ((r04_Same.f k tc.1 ta.2.1).bind fun te=>cond (!te) (some (.inr (.inr (.inr false)))) (some (.inl ((m:Int),d,decide (d=4∨d=5∨d=6),w.fD,ta.1,tc.2.2.2,v)))))) ((cond (d==7) (some (d==7)) (some (d==8))).bind fun (pa:Bool)=>cond pa (grd ((0:Int)≤(i:Int)∧(i:Int)<(a3.length:Int)) ((grd ((0:Int)≤(i:Int)∧(i:Int)<(a3.length:Int)) ((r01_Around.f ((SStep.K.at a3 (i:Int)).fDo) 10).bind fun tf=>cond (tf==7) (some (r.fFly.fID,(tf==7))) (some ((SStep.K.at a3 (i:Int)).fN,(tf==7))))).bind fun (pc:Int×Bool)=>(r18_Ack.f r pc.1).bind fun tg=>(sender_Sender_Ack.f s pc.1).bind fun tj=>cond (tj.1 != tg.2) (some (.inr (.inr (.inr false)))) (some (.inl ((m:Int),d,decide (d=4∨d=5∨d=6),w.fD,tg.1,tj.2,v))))) (cond (d==9) (w18_SenderPlays.l1 k L r s d (decide (d=4∨d=5∨d=6)) k (m:Int) 0 w.fD v) (grd ((0:Int)≤(i:Int)∧(i:Int)<(a3.length:Int)) ((r03_Good.f k ((SStep.K.at a3 (i:Int)).fE)).bind fun tm=>(r18_Put.f k r tm).bind fun tn=>(queue_Queue_Put.f k s.fQueue tm).bind fun tp=>cond (!decide (tp.1=tn.2.1)) (some (.inr (.inr (.inr false)))) (cond (tp.2.1 != tn.2.2.1) (some (.inr (.inr (.inr false)))) (cond (tn.2.2.2 != tp.2.2.1) (some (.inr (.inr (.inr false)))) (some (.inl ((m:Int),d,decide (d=4∨d=5∨d=6),w.fD,tn.1,(⟨tp.2.2.2,s.fself,s.fto,s.fids,s.fair⟩:SSnd),v))))))))))
     (.inl ((m':Int),d,decide (d=4∨d=5∨d=6),w'.fD,r',s',v')) by
   obtain ⟨m',v',w',s',r',s1,s2,s3,s4⟩:=hs
   obtain ⟨res,g⟩:=ih (i+1) (by omega) (by omega) m' (t+q) v' w' s' r' s1 (by omega) (by omega) s2 s3
   refine ⟨res,El.step (fun _ _=>by rw [w18_SenderPlays.l0]) ?_⟩
   rw [e0] at s4 ⊢
   rw [inc1 (show i≤1000000 by omega)]
   refine El.ct (decide_eq_true (by omega)) (El.ct (decide_eq_true (by omega)) (El.bind (a:=.inl ((m':Int),t+q,d,decide (d=4∨d=5∨d=6),false,w'.fD,r',s',v')) ?_ ?_))
   rotate_left
   ·exact g
   refine El.grd ⟨by omega,by omega⟩ (El.bind (Ev.of q1).el ?_)
   rw [hw]
   refine El.bind (a:=.inl ((m':Int),d,decide (d=4∨d=5∨d=6),w'.fD,r',s',v')) ?_ ?_
   ·refine El.grd ⟨by omega,by omega⟩ (El.bind (Ev.of d1).el (El.bind (Ev.of (b46 d)).el ?_))
    exact s4.el
   ·exact El.bind (like_ev s3).el (El.cf rfl El.pure)
  by_cases c1:d=4∨d=5∨d=6
  ·rw [decide_eq_true c1]
   obtain ⟨s',a,b,c⟩:=send_both ho.rel ho.rooms ho.len h (t:=t+q) (by omega) (by omega)
   have hlen:(sendR (pb w r.fTo) r (t+q)).2.1.fEdus.length≤100000:=by
    have h1:=h.len
    have f1:∀ l:List Edu,(l.filter (pb w r.fTo)).length≤l.length:=fun l=>List.length_filter_le _ _
    have f2:=f1 r.fFly.fEdus
    have f3:∀ r':RSnd,(sendT (pb w r.fTo) r' (t+q)).2.1.fEdus.length≤100:=fun r'=>by
     unfold sendT
     split
     ·exact Nat.zero_le _
     ·split
      ·exact Nat.zero_le _
      ·show (List.take 100 _).length≤100
       rw [List.length_take]; omega
    unfold sendR
    cases r.fOn with
    | false=>have:=f3 r; show (sendT (pb w r.fTo) r (t+q)).2.1.fEdus.length≤100000; omega
    | true=>
     show (if t+q<r.fDue then _ else _:RSnd×Par×Bool×Int).2.1.fEdus.length≤100000
     split
     ·exact Nat.zero_le _
     ·split
      ·have:=f3 (outR r); omega
      ·show (r.fFly.fEdus.filter (pb w r.fTo)).length≤100000; omega
   refine ⟨m,v,w,s',_,hm,hr,by rw [show ((i+1:Nat):Int)=(i:Int)+1 by omega]; exact c,?_⟩
   refine Ev.ct rfl (Ev.bind b (Ev.bind a (Ev.cf (by simp) (Ev.cf (by simp) (Ev.bind (samepar_ev hlen rfl) (Ev.cf rfl Ev.pure))))))
  ·rw [decide_eq_false c1]
   by_cases c2:d=7∨d=8
   ·obtain ⟨id,hid⟩:∃ id:Int,Ev (fun k=>(grd ((0:Int)≤(i:Int)∧(i:Int)<(a3.length:Int)) ((r01_Around.f ((SStep.K.at a3 (i:Int)).fDo) 10).bind fun tf=>cond (tf==7) (some (r.fFly.fID,(tf==7))) (some ((SStep.K.at a3 (i:Int)).fN,(tf==7)))))) (id,(d==7)):=by
     rw [e0]
     cases h7:(d==7) with
     | true=>exact ⟨_,Ev.grd ⟨by omega,by omega⟩ (Ev.bind (Ev.of d1) (Ev.ct h7 (Ev.of (by rw [h7]))))⟩
     | false=>exact ⟨_,Ev.grd ⟨by omega,by omega⟩ (Ev.bind (Ev.of d1) (Ev.cf h7 (Ev.of (by rw [h7]))))⟩
    obtain ⟨⟨s',a,b⟩,c⟩:=ack_both h id
    refine ⟨m,v,w,s',_,hm,hr,b.up (by omega),?_⟩
    refine Ev.cf rfl (Ev.bind (Ev.of (b78 d)) (Ev.ct (decide_eq_true c2) (Ev.grd ⟨by omega,by omega⟩ (Ev.bind hid (Ev.bind (Ev.of c) (Ev.bind (Ev.of a) (Ev.cf (by simp) Ev.pure)))))))
   ·by_cases c3:d=9
    ·obtain ⟨m',v',w',g1,g2,g3⟩:=evs_loop (r:=r) (s:=s) (d:=d) (p:=false) hL 3 0 rfl (by omega) m v w hm hr
     refine ⟨m',v',w',s,r,g1,g2,h.up (by omega),?_⟩
     refine Ev.cf rfl (Ev.bind (Ev.of (b78 d)) (Ev.cf (decide_eq_false c2) (Ev.ct (by simpa using c3) ?_)))
     exact g3.diag
    ·obtain ⟨e,e1,e2,_⟩:=good_is hx.2.2.1
     obtain ⟨q',a,b,c⟩:=put_both h (by omega) e2.sm
     refine ⟨m,v,w,_,_,hm,hr,by rw [show ((i+1:Nat):Int)=(i:Int)+1 by omega]; exact c,?_⟩
     refine Ev.cf rfl (Ev.bind (Ev.of (b78 d)) (Ev.cf (decide_eq_false c2) (Ev.cf (by simpa using c3) ?_)))
     rw [e0]
     refine Ev.grd ⟨by omega,by omega⟩ (Ev.bind e1 ?_)
     have b':Ev (fun k=>r18_Put.f k r e) (putR r e,(putQ r.fQ e).2.1,(putQ r.fQ e).2.2.1,(putQ r.fQ e).2.2.2):=by
      unfold r18_Put.f
      exact Ev.bind b Ev.pure
     refine Ev.bind b' (Ev.bind a (Ev.cf (by simp) (Ev.cf (by simp) (Ev.cf (by simp) Ev.pure))))
theorem SenderPlays_pure (a0:Int) (a1:List GMade) (a2:List GMade) (a3:List SStep) (k0:(Lit.int .i64 a0).wf=true) (k1:(fun xs:List GMade=>xs.length≤maxLen∧∀ x∈xs,GMade.ok x) a1) (k2:(fun xs:List GMade=>xs.length≤maxLen∧∀ x∈xs,GMade.ok x) a2) (k3:(fun xs:List SStep=>xs.length≤maxLen∧∀ x∈xs,SStep.ok x) a3):∃ k,w18_SenderPlays.f k a0 a1 a2 a3=some true:=by
 suffices h:Ev (fun k=>w18_SenderPlays.f k a0 a1 a2 a3) true from h.ex
 obtain ⟨q,q1,q2,q3⟩:=around_ev (m:=6) (i64_of k0) (by decide) (by decide)
 have hw:w64 (1+q)=1+q:=w64_id (by omega) (by omega)
 obtain ⟨L,v,w,l1,l2,l3⟩:=made_runs k1 k2
 obtain ⟨res,g⟩:=plays_loop (L:=L) k3.2 (by omega) _ 0 rfl (Nat.zero_le _) 0 0 ⟨[]⟩ ⟨[]⟩ (newS (1+q) 0) (newR (1+q) 0) (Nat.zero_le _) (Int.le_refl 0) (by omega) l3 (relS_new (by omega) (by omega))
 unfold w18_SenderPlays.f
 refine Ev.bind (Ev.of q1) ?_
 rw [hw]
 refine Ev.bind (begin_ev (by omega) (by omega)) (Ev.bind (Ev.of rfl) (Ev.cf rfl (Ev.bind (Ev.of rfl) (Ev.bind l1 ?_))))
 exact Ev.bind g.diag (Ev.bind lives_ev Ev.pure)
end Go.Proofs.YtmmaijneehmbgaaGreat
