import Derived.Test.YtmmaijneehmbgaaGreatZSL
set_option linter.all false
set_option maxRecDepth 10000
namespace Go.Proofs.YtmmaijneehmbgaaGreat
open Go Go.Sp
theorem few_ev {a:ByteArray} (h:a.size≤maxLen):∃ r,r01_Few.f a 18 = some r∧r.size≤maxLen:=by
 unfold r01_Few.f
 by_cases c:(18:Int) < (a.size:Int)
 ·rw [decide_eq_true c]
  refine ⟨a.extract 0 18,?_,?_⟩
  ·show grd _ _ = _
   unfold grd
   rw [if_pos ⟨by omega,by omega,by omega⟩]; rfl
  ·have:(a.extract 0 18).size≤a.size:=by rw [ByteArray.size_extract]; omega
   omega
 ·rw [decide_eq_false c]; exact ⟨a,rfl,h⟩
def mayNew (s t:ByteArray) (m n:Int):Prop:=serverB s = true∧serverB t = true∧s≠t∧1≤m∧m≤120∧0≤n∧n≤1099511627776
theorem snew_gen {s t:ByteArray} (hs:s.size≤maxLen) (ht:t.size≤maxLen) (m n:Int):∃ x:(Option SSnd)×Int,Ev (fun k=>sender_New.f k s t m n) x∧(mayNew s t m n→x.1.isNone = false∧x.2 = 0)∧(¬ mayNew s t m n→x.1.isNone = true∧x.2 = 1):=by
 have h1:=server1 hs
 have h2:=server1 ht
 have bad:∀ {P:Prop},¬ P→(P→(none:Option SSnd).isNone = false∧(1:Int) = 0)∧(¬ P→(none:Option SSnd).isNone = true∧(1:Int) = 1):=fun hp=>⟨fun h=>absurd h hp,fun _=>⟨rfl,rfl⟩⟩
 unfold sender_New.f
 cases b1:serverB s with
 | false=>rw [b1] at h1; exact ⟨(none,1),Ev.bind h1 (Ev.ct rfl Ev.pure),bad fun h=>by rw [h.1] at b1; cases b1⟩
 | true=>
  rw [b1] at h1
  cases b2:serverB t with
  | false=>rw [b2] at h2; exact ⟨(none,1),Ev.bind h1 (Ev.cf rfl (Ev.bind h2 (Ev.ct rfl Ev.pure))),bad fun h=>by rw [h.2.1] at b2; cases b2⟩
  | true=>
   rw [b2] at h2
   by_cases c:s = t
   ·exact ⟨(none,1),Ev.bind h1 (Ev.cf rfl (Ev.bind h2 (Ev.cf rfl (Ev.ct (decide_eq_true c) Ev.pure)))),bad fun h=>h.2.2.1 c⟩
   ·by_cases cm:1≤m∧m≤120
    ·by_cases cn:0≤n∧n≤1099511627776
     ·refine ⟨(some ⟨⟨m,[],[],0⟩,s,t,⟨⟨n⟩,1099511627776⟩,none⟩,0),Ev.bind h1 (Ev.cf rfl (Ev.bind h2 (Ev.cf rfl (Ev.cf (decide_eq_false c) (Ev.bind (Ev.of (qnew_ev cm)) (Ev.cf rfl (Ev.bind (Ev.of (cnew_ev cn)) (Ev.cf rfl (Ev.grd rfl (Ev.grd rfl Ev.pure)))))))))),fun _=>⟨rfl,rfl⟩,fun h=>absurd ⟨b1,b2,c,cm.1,cm.2,cn.1,cn.2⟩ h⟩
     ·have hc:clock_New.f n 1099511627776 = some (none,1):=by
       unfold clock_New.f
       by_cases c0:n < 0
       ·rw [decide_eq_true c0]; rfl
       ·rw [decide_eq_false c0,decide_eq_true (show (1099511627776:Int) < n by omega)]; rfl
      exact ⟨(none,1),Ev.bind h1 (Ev.cf rfl (Ev.bind h2 (Ev.cf rfl (Ev.cf (decide_eq_false c) (Ev.bind (Ev.of (qnew_ev cm)) (Ev.cf rfl (Ev.bind (Ev.of hc) (Ev.ct rfl Ev.pure)))))))),bad fun h=>cn ⟨h.2.2.2.2.2.1,h.2.2.2.2.2.2⟩⟩
    ·have hq:queue_New.f m = some (none,1):=by
      unfold queue_New.f
      by_cases c0:m < 1
      ·rw [decide_eq_true c0]; rfl
      ·rw [decide_eq_false c0,decide_eq_true (show 120 < m by omega)]; rfl
     exact ⟨(none,1),Ev.bind h1 (Ev.cf rfl (Ev.bind h2 (Ev.cf rfl (Ev.cf (decide_eq_false c) (Ev.bind (Ev.of hq) (Ev.ct rfl Ev.pure)))))),bad fun h=>cm ⟨h.2.2.2.1,h.2.2.2.2.1⟩⟩
def selvesL (a:ByteArray):List ByteArray:=[a,(⟨#[115,49]⟩:ByteArray),(⟨#[115,49]⟩:ByteArray),(⟨#[115,49]⟩:ByteArray),(⟨#[115,50]⟩:ByteArray)]
def tosL (b c:ByteArray):List ByteArray:=[b,c,(⟨#[115,50]⟩:ByteArray),(⟨#[115,50]⟩:ByteArray),(⟨#[115,50]⟩:ByteArray)]
theorem news_step {a2 a3:Int} {a b c:ByteArray} {r:(Int×Bool) ⊕ Bool} {x:Nat} (hx:x < 5) {s t:ByteArray} {m n:Int} (hs:strK.at (selvesL a) (x:Int) = s) (ht:strK.at (tosL b c) (x:Int) = t) (hm:(intK .i64).at ([a2,5,a2,5,5]:List Int) (x:Int) = m) (hn:(intK .i64).at ([a3,0,0,a3,0]:List Int) (x:Int) = n)
  (ss:s.size≤maxLen) (st:t.size≤maxLen) (k:El (fun k j=>w18_SenderNews.l0 k a2 a3 a b c j ((x + 1:Nat):Int)) r):El (fun k j=>w18_SenderNews.l0 k a2 a3 a b c j (x:Int)) r:=by
 obtain ⟨y,y1,y2,y3⟩:=snew_gen ss st m n
 have g5:∀ l:List ByteArray,l.length = 5→(0:Int)≤(x:Int)∧(x:Int) < (l.length:Int):=fun l hl=>by rw [hl]; omega
 have g5':∀ l:List Int,l.length = 5→(0:Int)≤(x:Int)∧(x:Int) < (l.length:Int):=fun l hl=>by rw [hl]; omega
 refine El.step (fun _ _=>by rw [w18_SenderNews.l0]) ?_
 rw [inc1 (show x≤1000000 by omega)]
 unfold selvesL at hs
 unfold tosL at ht
 rw [hs,ht,hm,hn]
 refine El.ct (decide_eq_true (by omega)) (El.grd (g5 _ rfl) (El.grd (g5 _ rfl) (El.grd (g5' _ rfl) (El.grd (g5' _ rfl) (El.bind y1.el ?_)))))
 refine El.grd (g5 _ rfl) (El.bind (server2 ss).el (El.grd (g5 _ rfl) (El.bind (server2 st).el ?_)))
 have bad:¬ mayNew s t m n→El (fun k j=>cond ((!y.1.isNone) != false) (some (.inr false)) (cond ((y.2 == 0) != false) (some (.inr false)) (cond (y.2 != 1) (some (.inr false)) (w18_SenderNews.l0 k a2 a3 a b c j ((x + 1:Nat):Int))))) r:=fun h=>by
  obtain ⟨e1,e2⟩:=y3 h
  exact El.cf (by rw [e1]; rfl) (El.cf (by rw [e2]; rfl) (El.cf (by rw [e2]; rfl) k))
 cases b1:serverB s with
 | false=>exact El.cf rfl (bad fun h=>by rw [h.1] at b1; cases b1)
 | true=>
  refine El.ct rfl ?_
  cases b2:serverB t with
  | false=>exact El.cf rfl (bad fun h=>by rw [h.2.1] at b2; cases b2)
  | true=>
   refine El.ct rfl (El.grd (g5 _ rfl) (El.grd (g5 _ rfl) ?_))
   by_cases ce:s = t
   ·exact El.cf (by rw [decide_eq_true ce]; rfl) (bad fun h=>h.2.2.1 ce)
   ·refine El.ct (by rw [decide_eq_false ce]; rfl) (El.grd (g5' _ rfl) ?_)
    by_cases c1:1≤m
    ·refine El.ct (decide_eq_true c1) (El.grd (g5' _ rfl) ?_)
     by_cases c2:m≤120
     ·refine El.ct (decide_eq_true c2) (El.grd (g5' _ rfl) ?_)
      by_cases c3:0≤n
      ·refine El.ct (decide_eq_true c3) (El.grd (g5' _ rfl) ?_)
       by_cases c4:n≤1099511627776
       ·obtain ⟨e1,e2⟩:=y2 ⟨b1,b2,ce,c1,c2,c3,c4⟩
        rw [decide_eq_true c4]
        exact El.cf (by rw [e1]; rfl) (El.cf (by rw [e2]; rfl) (El.cf rfl k))
       ·obtain ⟨e1,e2⟩:=y3 fun h=>c4 h.2.2.2.2.2.2
        rw [decide_eq_false c4]
        exact El.cf (by rw [e1]; rfl) (El.cf (by rw [e2]; rfl) (El.ct rfl (El.cf (by rw [e2]; rfl) k)))
      ·exact El.cf (decide_eq_false c3) (bad fun h=>c3 h.2.2.2.2.2.1)
     ·exact El.cf (decide_eq_false c2) (bad fun h=>c2 h.2.2.2.2.1)
    ·exact El.cf (decide_eq_false c1) (bad fun h=>c1 h.2.2.2.1)
theorem SenderNews_pure (a0:ByteArray) (a1:ByteArray) (a2:Int) (a3:Int) (k0:a0.size≤maxLen) (k1:a1.size≤maxLen) (_k2:(Lit.int .i64 a2).wf = true) (_k3:(Lit.int .i64 a3).wf = true):∃ k,w18_SenderNews.f k a0 a1 a2 a3 = some true:=by
 suffices h:Ev (fun k=>w18_SenderNews.f k a0 a1 a2 a3) true from h.ex
 have m2:(2:Nat)≤maxLen:=by decide
 obtain ⟨f0,f1,f2⟩:=few_ev k0
 obtain ⟨g0,g1,g2⟩:=few_ev k1
 have l5:El (fun k j=>w18_SenderNews.l0 k a2 a3 f0 g0 g0 j ((5:Nat):Int)) (.inl (5,false)):=by
  refine El.step (fun _ _=>by rw [w18_SenderNews.l0]) ?_
  exact El.cf rfl El.pure
 have l4:=news_step (x:=4) (by omega) (s:=⟨#[115,50]⟩) (t:=⟨#[115,50]⟩) rfl rfl rfl rfl m2 m2 l5
 have l3:=news_step (x:=3) (by omega) (s:=⟨#[115,49]⟩) (t:=⟨#[115,50]⟩) rfl rfl rfl rfl m2 m2 l4
 have l2:=news_step (x:=2) (by omega) (s:=⟨#[115,49]⟩) (t:=⟨#[115,50]⟩) rfl rfl rfl rfl m2 m2 l3
 have l1:=news_step (x:=1) (by omega) (s:=⟨#[115,49]⟩) (t:=g0) rfl rfl rfl rfl m2 g2 l2
 have l0:=news_step (x:=0) (by omega) (s:=f0) (t:=g0) rfl rfl rfl rfl f2 g2 l1
 obtain ⟨v,w,o1,o2⟩:=open_ev
 have hm:(0:Int)≤0∧(0:Int)≤2:=by omega
 have h0:(0:Int)≤0∧(0:Int)≤1000:=by omega
 obtain ⟨q',p1,p2⟩:=put_live (live_new (w:=w) (most:=5) (n:=1099511627776) (by omega) (by omega)) (by omega) (pE_sm ua_in hm h0) (pE_pb o2 ua_in hm h0)
 have hp:putQ (newR 5 1099511627776).fQ (pE ua 0 0) = (⟨5,[pE ua 0 0],0⟩,zE,false,0):=putQ_one (by omega) (pE_may ua_in hm h0)
 have hpr:putR (newR 5 1099511627776) (pE ua 0 0) = ⟨s1,s2,1099511627776,⟨5,[pE ua 0 0],0⟩,zP,false,0,0⟩:=by unfold putR; rw [hp]; rfl
 rw [hpr] at p2
 obtain ⟨s',q1,q2⟩:=send_live o2.toVOk p2 (t:=3) (by omega) (by omega)
 have hsend:sendR tt1 ⟨s1,s2,1099511627776,⟨5,[pE ua 0 0],0⟩,zP,false,0,0⟩ 3 = (⟨s1,s2,1099511627776,⟨5,[pE ua 0 0],0⟩,zP,false,0,0⟩,zP,false,11):=by rfl
 rw [hsend] at q1 q2
 unfold w18_SenderNews.f
 refine Ev.bind (Ev.of f1) (Ev.bind (Ev.of g1) (Ev.bind (Ev.of g1) (Ev.bind l0.diag (Ev.bind o1 (Ev.bind (begin_ev (by omega) (by omega)) (Ev.cf rfl (Ev.cf rfl ?_)))))))
 refine Ev.bind p1 (Ev.bind q1 (Ev.ct rfl (Ev.ct rfl (Ev.ct rfl (Ev.bind (all_evQ q2.rel.q) (Ev.ct rfl (Ev.bind lives_ev Ev.pure)))))))
end Go.Proofs.YtmmaijneehmbgaaGreat
