import Derived.Test.YtelcbdmigiacpaaGreatZVB
import Derived.Test.YtelcbdmigiacpaaGreatConB1
set_option linter.all false
set_option maxRecDepth 10000
namespace Go.Proofs.YtelcbdmigiacpaaGreat
open Go Go.Sp
theorem few_ev {a:ByteArray} (h:a.size≤maxLen):∃ r,r01_Few.f a 18 = some r∧r.size≤maxLen:=by
 unfold r01_Few.f
 by_cases c:(18:Int) < (a.size:Int)
 ·rw [decide_eq_true c]
  refine ⟨a.extract 0 18,?_,?_⟩
  ·show grd _ _ = _
   unfold grd
   rw [if_pos ⟨by omega,by omega,by omega⟩]; rfl
  ·have:(a.extract 0 18).size≤a.size:=by rw [ByteArray.size_extract]; omega
   omega
 ·rw [decide_eq_false c]; exact ⟨a,rfl,h⟩
def inN (m:Int):Prop:=0≤m∧m≤1099511627776
theorem cnew_ok {m:Int} (h:inN m):clock_New.f m 1099511627776 = some (some ⟨⟨m⟩,1099511627776⟩,0):=by
 unfold clock_New.f
 rw [decide_eq_false (show ¬ m < 0 by have:=h.1; omega),decide_eq_false (show ¬ (1099511627776:Int) < m by have:=h.2; omega)]; rfl
theorem cnew_no {m:Int} (h:¬ inN m):clock_New.f m 1099511627776 = some (none,1):=by
 unfold clock_New.f
 by_cases c:m < 0
 ·rw [decide_eq_true c]; rfl
 ·rw [decide_eq_false c,decide_eq_true (show (1099511627776:Int) < m by unfold inN at h; omega)]; rfl
def mayN (s:ByteArray) (m n:Int):Prop:=serverB s = true∧inN m∧inN n
theorem snew_ok {s:ByteArray} (hs:s.size≤maxLen) {m n:Int} (h:mayN s m n):∃ S,Ev (fun k=>server_New.f k s m n) (some S,0)∧server_Server_Self.f S = some s∧server_Server_Tick.f S = some m∧server_Server_Pos.f S = some n∧server_Server_Idle.f S = some true∧server_Server_View.f S = some ():=by
 have h1:=server1 hs
 rw [h.1] at h1
 unfold server_New.f delta_New.f
 simp only [cnew_ok h.2.1,cnew_ok h.2.2]
 exact ⟨_,Ev.bind h1 (Ev.of rfl),rfl,rfl,rfl,rfl,rfl⟩
theorem snew_no {s:ByteArray} (hs:s.size≤maxLen) {m n:Int} (h:¬ mayN s m n):Ev (fun k=>server_New.f k s m n) (none,1):=by
 have h1:=server1 hs
 unfold server_New.f delta_New.f
 cases b:serverB s with
 | false=>rw [b] at h1; exact Ev.bind h1 (Ev.of rfl)
 | true=>
  rw [b] at h1
  by_cases hm:inN m
  ·simp only [cnew_ok hm,cnew_no (show ¬ inN n from fun hn=>h ⟨b,hm,hn⟩)]
   exact Ev.bind h1 (Ev.of rfl)
  ·simp only [cnew_no hm]
   exact Ev.bind h1 (Ev.of rfl)
def namesL (a b:ByteArray):List ByteArray:=[a,(⟨#[115,49]⟩:ByteArray),(⟨#[115,49]⟩:ByteArray),b]
theorem news_step {a1 a2:Int} {a b:ByteArray} {r:(Int×Bool) ⊕ Bool} {x:Nat} (hx:x < 4) {s:ByteArray} {m n:Int} (hs:strK.at (namesL a b) (x:Int) = s) (hm:(intK .i64).at ([a1,a1,0,0]:List Int) (x:Int) = m) (hn:(intK .i64).at ([a2,0,a2,0]:List Int) (x:Int) = n)
  (ss:s.size≤maxLen) (k:El (fun k j=>w22_ServerNews.l0 k a1 a2 a b j ((x + 1:Nat):Int)) r):El (fun k j=>w22_ServerNews.l0 k a1 a2 a b j (x:Int)) r:=by
 have g5:∀ l:List ByteArray,l.length = 4→(0:Int)≤(x:Int)∧(x:Int) < (l.length:Int):=fun l hl=>by rw [hl]; omega
 have g5':∀ l:List Int,l.length = 4→(0:Int)≤(x:Int)∧(x:Int) < (l.length:Int):=fun l hl=>by rw [hl]; omega
 refine El.step (fun _ _=>by rw [w22_ServerNews.l0]) ?_
 rw [inc1 (show x≤1000000 by omega)]
 unfold namesL at hs
 rw [hs,hm,hn]
 by_cases h:mayN s m n
 ·obtain ⟨S,e0,e1,e2,e3,e4,e5⟩:=snew_ok ss h
  obtain ⟨hb,⟨h1,h2⟩,h3,h4⟩:=h
  have h0:=server2 ss
  rw [hb] at h0
  refine El.ct (decide_eq_true (by omega)) (El.grd (g5 _ rfl) (El.grd (g5' _ rfl) (El.grd (g5' _ rfl) (El.bind e0.el (El.grd (g5 _ rfl) (El.bind h0.el ?_))))))
  refine El.ct rfl (El.grd (g5' _ rfl) (El.ct (decide_eq_true h1) (El.grd (g5' _ rfl) (El.ct (decide_eq_true h2) (El.grd (g5' _ rfl) (El.ct (decide_eq_true h3) (El.grd (g5' _ rfl) ?_)))))))
  rw [decide_eq_true h4]
  refine El.cf rfl (El.cf rfl (El.cf rfl (El.cf rfl (El.grd (g5 _ rfl) (El.bind (Ev.of e1).el (El.cf (by rw [decide_eq_true rfl]; rfl) (El.grd (g5' _ rfl) (El.bind (Ev.of e2).el (El.cf (by simp) (El.grd (g5' _ rfl) (El.bind (Ev.of e3).el (El.cf (by simp) (El.bind (Ev.of e4).el (El.cf rfl (El.bind (Ev.of e5).el ?_)))))))))))))))
  exact k
 ·have e0:=snew_no ss h
  have h0:=server2 ss
  refine El.ct (decide_eq_true (by omega)) (El.grd (g5 _ rfl) (El.grd (g5' _ rfl) (El.grd (g5' _ rfl) (El.bind e0.el (El.grd (g5 _ rfl) (El.bind h0.el ?_))))))
  have bad:El (fun k j=>cond ((!(none:Option SSelTicStaAllComSen).isNone) != false) (some (.inr false)) (cond (((1:Int) == 0) != false) (some (.inr false)) (cond (!false) (cond ((1:Int) != 1) (some (.inr false)) (w22_ServerNews.l0 k a1 a2 a b j ((x + 1:Nat):Int))) (w22_ServerNews.l0 k a1 a2 a b j ((x + 1:Nat):Int))))) r:=El.cf rfl (El.cf rfl (El.ct rfl (El.cf rfl k)))
  cases b1:serverB s with
  | false=>exact El.cf rfl k
  | true=>
   refine El.ct rfl (El.grd (g5' _ rfl) ?_)
   by_cases c1:0≤m
   ·refine El.ct (decide_eq_true c1) (El.grd (g5' _ rfl) ?_)
    by_cases c2:m≤1099511627776
    ·refine El.ct (decide_eq_true c2) (El.grd (g5' _ rfl) ?_)
     by_cases c3:0≤n
     ·refine El.ct (decide_eq_true c3) (El.grd (g5' _ rfl) ?_)
      rw [decide_eq_false (show ¬ n≤1099511627776 from fun c4=>h ⟨b1,⟨c1,c2⟩,c3,c4⟩)]
      exact El.cf rfl (El.cf rfl (El.ct rfl (El.cf rfl (El.ct rfl k))))
     ·exact El.cf (decide_eq_false c3) k
    ·exact El.cf (decide_eq_false c2) k
   ·exact El.cf (decide_eq_false c1) k
theorem livesK (k:Nat):w22_lives.f (k + 60) = some true:=by kernel_rfl
theorem lives_ev:Ev (fun k=>w22_lives.f k) true:=⟨60,fun k hk=>by
 obtain ⟨j,rfl⟩:∃ j,k = j + 60:=⟨k - 60,by omega⟩
 exact livesK j⟩
theorem ServerNews_pure (a0:ByteArray) (a1:Int) (a2:Int) (k0:a0.size≤maxLen) (_k1:(Lit.int .i64 a1).wf = true) (_k2:(Lit.int .i64 a2).wf = true):∃ k,w22_ServerNews.f k a0 a1 a2 = some true:=by
 suffices h:Ev (fun k=>w22_ServerNews.f k a0 a1 a2) true from h.ex
 have m2:(2:Nat)≤maxLen:=by decide
 obtain ⟨f0,f1,f2⟩:=few_ev k0
 have l4:El (fun k j=>w22_ServerNews.l0 k a1 a2 f0 f0 j ((4:Nat):Int)) (.inl (4,false)):=by
  refine El.step (fun _ _=>by rw [w22_ServerNews.l0]) ?_
  exact El.cf rfl El.pure
 have l3:=news_step (x:=3) (by omega) (s:=f0) rfl rfl rfl f2 l4
 have l2:=news_step (x:=2) (by omega) (s:=⟨#[115,49]⟩) rfl rfl rfl m2 l3
 have l1:=news_step (x:=1) (by omega) (s:=⟨#[115,49]⟩) rfl rfl rfl m2 l2
 have l0:=news_step (x:=0) (by omega) (s:=f0) rfl rfl rfl f2 l1
 unfold w22_ServerNews.f
 exact Ev.bind (Ev.of f1) (Ev.bind (Ev.of f1) (Ev.bind l0.diag (Ev.bind lives_ev Ev.pure)))
end Go.Proofs.YtelcbdmigiacpaaGreat
