import Derived.Test.YtmmaijneehmbgaaGreatZSL
set_option linter.all false
set_option maxRecDepth 10000
namespace Go.Proofs.YtmmaijneehmbgaaGreat
open Go Go.Sp
def flyR (m n:Int) (e:Edu) (tries due:Int):RSnd:=⟨s1,s2,n,⟨m,[],0⟩,⟨false,s1,s2,n,[e]⟩,true,tries,due⟩
def waitR (m n:Int) (e:Edu):RSnd:=⟨s1,s2,n,⟨m,[e],0⟩,zP,false,0,0⟩
theorem fly_before {m n tries due t:Int} {e:Edu} (h:t < due):sendR tt1 (flyR m n e tries due) t = (flyR m n e tries due,zP,false,0):=by
 show (if t < due then _ else _:RSnd×Par×Bool×Int) = _
 rw [if_pos h]
theorem fly_at {m n tries due t:Int} {e:Edu} (h:¬ t < due):sendR tt1 (flyR m n e tries due) t = (flyR m n e (tries + 1) (t + bk (tries + 1)),⟨false,s1,s2,n,[e]⟩,true,0):=by
 show (if t < due then _ else _:RSnd×Par×Bool×Int) = _
 rw [if_neg h]; rfl
theorem wait_at {m n t:Int} {e:Edu} (h:n≠1099511627776):sendR tt1 (waitR m n e) t = (flyR m (n + 1) e 0 (t + 1),⟨false,s1,s2,n + 1,[e]⟩,true,0):=by
 show (if n = 1099511627776 then _ else _:RSnd×Par×Bool×Int) = _
 rw [if_neg h]; rfl
def At (r:RSnd) (e:Edu) (t0 i next tries:Int):Prop:=(r = waitR 5 7 e∧tries = 0∧next = t0∧i = 0)∨(r = flyR 5 8 e (tries - 1) next∧1≤tries∧t0 + i≤next)
theorem waits_loop {v:VView} {w w0:RView} (ho:VOk v w) {a1:Int} {e:Edu} {t0:Int} (ht:0≤t0∧t0≤1000) {q:Nat} (hq:r01_Around.f a1 71 = some (q:Int)) (hq2:q≤70):∀ d i:Nat,q + 1 - i = d→i≤q + 1→∀ (s:SSnd) (r:RSnd) (next tries:Int),Live w s r ((i:Int) + 5)→At r e t0 i next tries→tries≤(i:Int)→next≤100000 + 100 * (i:Int)→
  ∃ (s':SSnd) (r':RSnd) (res:Int×Int×Int×Bool),El (fun k j=>w18_SenderWaits.l0 k a1 (some v,w0) t0 j next tries (i:Int) s) (.inl (res.1,res.2.1,res.2.2.1,res.2.2.2,s'))∧Live w s' r' 1000∧(∃ next' tries',At r' e t0 ((q:Int) + 1) next' tries'):=by
 intro d
 induction d with
 | zero=>
  intro i hd hi s r next tries h ha h1 h2
  obtain rfl:i = q + 1:=by omega
  refine ⟨s,r,(next,tries,((q + 1:Nat):Int),false),?_,⟨h.rel.up (by omega),h.all,h.to⟩,next,tries,by simpa using ha⟩
  refine El.step (fun _ _=>by rw [w18_SenderWaits.l0]) ?_
  refine El.bind (Ev.of hq).el (El.cf (decide_eq_false (by omega)) ?_)
  rw [decide_eq_false (show ¬ (((q + 1:Nat):Int)≤(q:Int)) by omega)]
  exact El.pure
 | succ d ih=>
  intro i hd hi s r next tries h ha h1 h2
  have hi2:i≤q:=by omega
  have hw:w64 (t0 + (i:Int)) = t0 + (i:Int):=w64_id (by omega) (by omega)
  obtain ⟨s1',a,b⟩:=send_live ho h (t:=t0 + (i:Int)) (by omega) (by omega)
  have head:∀ {x},El (fun k j=>cond ((sendR tt1 r (t0 + (i:Int))).2.2.2 != 0) (some (.inr false)) (cond ((sendR tt1 r (t0 + (i:Int))).2.2.1 != ((t0 + (i:Int)) == next)) (some (.inr false)) (cond (sendR tt1 r (t0 + (i:Int))).2.2.1 (cond ((sendR tt1 r (t0 + (i:Int))).2.1.fID != 8) (some (.inr false)) (cond (((sendR tt1 r (t0 + (i:Int))).2.1.fEdus.length:Int) != 1) (some (.inr false)) ((r05_Backoff.f tries).bind fun t2238=>(sender_Sender_Tries.f s1').bind fun t2246=>cond (t2246 != tries) (some (.inr false)) (w18_SenderWaits.l0 k a1 (some v,w0) t0 j (w64 (next + t2238)) (w64 (tries + 1)) ((i + 1:Nat):Int) s1')))) (w18_SenderWaits.l0 k a1 (some v,w0) t0 j next tries ((i + 1:Nat):Int) s1')))) x→
    El (fun k j=>w18_SenderWaits.l0 k a1 (some v,w0) t0 j next tries (i:Int) s) x:=fun hh=>by
   refine El.step (fun _ _=>by rw [w18_SenderWaits.l0]) ?_
   rw [hw,inc1 (show i≤1000000 by omega)]
   refine El.bind (Ev.of hq).el (El.ct (decide_eq_true (by omega)) (El.bind a.el ?_))
   exact hh
  have b':Live w s1' (sendR tt1 r (t0 + (i:Int))).1 (((i + 1:Nat):Int) + 5):=by
   have:(i:Int) + 5 + 1 = ((i + 1:Nat):Int) + 5:=by omega
   rwa [this] at b
  have hti:=tries_ev b.rel
  have hbk:=bk_le tries
  rcases ha with ⟨rfl,rfl,rfl,h0⟩ | ⟨rfl,ht1,ht2⟩
  ·rw [wait_at (by decide)] at head b' hti
   have hw3:w64 (next + bk 0) = next + 1:=by rw [show bk 0 = 1 from rfl]; exact w64_id (by omega) (by omega)
   obtain ⟨s',r',res,g1,g2,g3⟩:=ih (i + 1) (by omega) (by omega) s1' _ (next + 1) 1 b' (.inr ⟨by rw [h0,Int.add_zero]; rfl,by omega,by omega⟩) (by omega) (by omega)
   refine ⟨s',r',res,head ?_,g2,g3⟩
   refine El.cf rfl (El.cf (by rw [h0]; simp) (El.ct rfl (El.cf rfl (El.cf rfl (El.bind (Ev.of (refbackoff_ev 0)).el (El.bind (Ev.of hti).el (El.cf rfl ?_)))))))
   rw [hw3]
   exact g1
  ·by_cases hlt:t0 + (i:Int) < next
   ·rw [fly_before hlt] at head b'
    obtain ⟨s',r',res,g1,g2,g3⟩:=ih (i + 1) (by omega) (by omega) s1' _ next tries b' (.inr ⟨rfl,ht1,by omega⟩) (by omega) (by omega)
    refine ⟨s',r',res,head ?_,g2,g3⟩
    refine El.cf rfl (El.cf ?_ (El.cf rfl g1))
    rw [show ((t0 + (i:Int)) == next) = false by rw [beq_eq_false_iff_ne]; omega]; rfl
   ·have e1:t0 + (i:Int) = next:=by omega
    have e2:tries - 1 + 1 = tries:=by omega
    rw [fly_at hlt,e1,e2] at head b' hti
    have hw3:w64 (next + bk tries) = next + bk tries:=w64_id (by omega) (by omega)
    have hw4:w64 (tries + 1) = tries + 1:=w64_id (by omega) (by omega)
    obtain ⟨s',r',res,g1,g2,g3⟩:=ih (i + 1) (by omega) (by omega) s1' _ (next + bk tries) (tries + 1) b' (.inr ⟨by rw [Int.add_sub_cancel],by omega,by omega⟩) (by omega) (by omega)
    refine ⟨s',r',res,head ?_,g2,g3⟩
    refine El.cf rfl (El.cf (by simp) (El.ct rfl (El.cf rfl (El.cf rfl (El.bind (Ev.of (refbackoff_ev _)).el (El.bind (Ev.of hti).el (El.cf (by simp [flyR]) ?_)))))))
    rw [hw3,hw4]
    exact g1
theorem SenderWaits_pure (a0:Int) (a1:Int) (k0:(Lit.int .i64 a0).wf = true) (k1:(Lit.int .i64 a1).wf = true):∃ k,w18_SenderWaits.f k a0 a1 = some true:=by
 suffices h:Ev (fun k=>w18_SenderWaits.f k a0 a1) true from h.ex
 obtain ⟨t0,t1,t2,t3⟩:=around_ev (m:=1001) (i64_of k0) (by decide) (by decide)
 obtain ⟨q,q1,q2,q3⟩:=around_ev (m:=71) (i64_of k1) (by decide) (by decide)
 obtain ⟨Q,rfl⟩:∃ Q:Nat,q = (Q:Int):=⟨q.toNat,by omega⟩
 obtain ⟨v,w,o1,o2⟩:=open_ev
 have hm:(0:Int)≤2∧(2:Int)≤2:=by omega
 have h0:(0:Int)≤0∧(0:Int)≤1000:=by omega
 obtain ⟨q',p1,p2⟩:=put_live (live_new (w:=w) (most:=5) (n:=7) (by omega) (by omega)) (by omega) (pE_sm ua_in hm h0) (pE_pb o2 ua_in hm h0)
 have hp:putQ (newR 5 7).fQ (pE ua 2 0) = (⟨5,[pE ua 2 0],0⟩,zE,false,0):=putQ_one (by omega) (pE_may ua_in hm h0)
 have hpr:putR (newR 5 7) (pE ua 2 0) = waitR 5 7 (pE ua 2 0):=by unfold putR; rw [hp]; rfl
 rw [hpr] at p2
 obtain ⟨s',r',res,g1,g2,nx,tr,g3⟩:=waits_loop (w0:=w) o2.toVOk (a1:=a1) (e:=pE ua 2 0) (t0:=t0) (by omega) q1 (by omega) (Q + 1) 0 rfl (by omega) _ _ t0 0 ⟨p2.rel.up (by omega),p2.all,p2.to⟩ (.inl ⟨rfl,rfl,rfl,rfl⟩) (by omega) (by omega)
 have hr:r' = flyR 5 8 (pE ua 2 0) (tr - 1) nx:=by
  rcases g3 with ⟨_,_,_,h⟩ | ⟨h,_⟩
  ·omega
  ·exact h
 subst hr
 obtain ⟨s2',k2,k3⟩:=ack_live g2 8
 have i1:=idle_ev g2.rel
 have i2:=idle_ev k3.rel
 unfold w18_SenderWaits.f
 refine Ev.bind o1 (Ev.bind (begin_ev (by omega) (by omega)) (Ev.cf rfl (Ev.cf rfl (Ev.bind p1 (Ev.bind (Ev.of t1) ?_)))))
 refine Ev.bind g1.diag ?_
 refine Ev.bind (Ev.of i1) (Ev.ct rfl (Ev.bind (Ev.of k2) (Ev.ct rfl (Ev.bind (Ev.of i2) (Ev.ct rfl (Ev.bind lives_ev Ev.pure))))))
end Go.Proofs.YtmmaijneehmbgaaGreat
