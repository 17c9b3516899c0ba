import Derived.Test.YtmmaijneehmbgaaGreatZSL
set_option linter.all false
set_option maxRecDepth 10000
namespace Go.Proofs.YtmmaijneehmbgaaGreat
open Go Go.Sp
def idleR (m n:Int):RSnd:=⟨s1,s2,n,⟨m,[],0⟩,zP,false,0,0⟩
theorem send_one {m n t:Int} {e:Edu} (h:n≠1099511627776):sendR tt1 ⟨s1,s2,n,⟨m,[e],0⟩,zP,false,0,0⟩ t = (⟨s1,s2,n + 1,⟨m,[],0⟩,⟨false,s1,s2,n + 1,[e]⟩,true,0,t + 1⟩,⟨false,s1,s2,n + 1,[e]⟩,true,0):=by
 show (if n = 1099511627776 then _ else _:RSnd×Par×Bool×Int) = _
 rw [if_neg h]; rfl
theorem parMay_ev {n:Int} {e:Edu} (hn:1≤n∧n≤1099511627776) (z:Zz e) (hm:mayL e = true):Ev (fun k=>parcel_May.f k ⟨false,s1,s2,n,[e]⟩) true:=by
 have m:128≤maxLen:=by decide
 have h1:Ev (fun k=>name_Server.f k s1) true:=server1 (s:=s1) (by show 2≤maxLen; omega)
 have h2:Ev (fun k=>name_Server.f k s2) true:=server1 (s:=s2) (by show 2≤maxLen; omega)
 have l1:=(may_ev z).1
 rw [hm] at l1
 have hc:Ev (fun k=>slices_ContainsFunc_Edu.f k [e] (parcel_May_1.f k)) false:=by
  have pr:∀ x∈[e],Ev (fun k=>parcel_May_1.f k x) false:=fun x hx=>by
   rw [List.mem_singleton.1 hx]
   unfold parcel_May_1.f
   exact Ev.bind l1 Ev.pure
  have hI:Ev (fun k=>slices_IndexFunc_Edu.f k [e] (parcel_May_1.f k)) (fidx (fun _=>false) [e]):=by
   unfold slices_IndexFunc_Edu.f
   exact idxG (F:=fun k j x=>slices_IndexFunc_Edu.l0 k [e] (parcel_May_1.f k) j x) (d:=default) (by simp) pr fun _ _ _=>rfl
  unfold slices_ContainsFunc_Edu.f
  exact containsG hI
 unfold parcel_May.f
 refine Ev.bind hc (Ev.bind h1 (Ev.ct rfl (Ev.bind h2 (Ev.ct rfl (Ev.ct (show (!decide (s1 = s2)) = true by decide) ?_)))))
 exact Ev.ct (decide_eq_true hn.1) (Ev.ct (decide_eq_true hn.2) (Ev.ct rfl (Ev.ct rfl (Ev.ct rfl Ev.pure))))
theorem numbers_loop {v:VView} {w w0:RView} (ho:Opened v w) {a1 a2:Int} {q n:Nat} (hq:r01_Around.f a1 8 = some (q:Int)) (hq2:q≤7) (hn:n≤100):∀ d i:Nat,q + 1 - i = d→i≤q + 1→∀ s:SSnd,Live w s (idleR 5 ((n:Int) + (i:Int))) (3 * (i:Int))→
  ∃ s' N,El (fun k j=>w18_SenderNumbers.l0 k a1 a2 (some v,w0) (n:Int) j ((i + 1:Nat):Int) s) (.inl (((q + 2:Nat):Int),false,s'))∧Live w s' (idleR 5 N) 1000:=by
 intro d
 induction d with
 | zero=>
  intro i hd hi s h
  obtain rfl:i = q + 1:=by omega
  have hw:w64 (1 + (q:Int)) = 1 + (q:Int):=w64_id (by omega) (by omega)
  refine ⟨s,_,?_,⟨h.rel.up (by omega),h.all,h.to⟩⟩
  refine El.step (fun _ _=>by rw [w18_SenderNumbers.l0]) ?_
  refine El.bind (Ev.of hq).el (El.cf (by rw [hw]; exact decide_eq_false (by omega)) ?_)
  rw [hw,decide_eq_false (show ¬ (((q + 1 + 1:Nat):Int)≤1 + (q:Int)) by omega)]
  exact El.pure
 | succ d ih=>
  intro i hd hi s h
  have hi2:i≤q:=by omega
  have hw:w64 (1 + (q:Int)) = 1 + (q:Int):=w64_id (by omega) (by omega)
  have hw2:w64 ((n:Int) + ((i + 1:Nat):Int)) = (n:Int) + (i:Int) + 1:=by rw [w64_id (by omega) (by omega)]; omega
  obtain ⟨u,u1,u2⟩:=userOf_ev (n:=((i + 1:Nat):Int)) ⟨by omega,by omega⟩
  have h0:(0:Int)≤0∧(0:Int)≤2:=by omega
  have hst:(0:Int)≤((i + 1:Nat):Int)∧((i + 1:Nat):Int)≤1000:=by omega
  have hmay:=pE_may u2 h0 hst
  have hsm:=pE_sm u2 h0 hst
  obtain ⟨q',p1,p2⟩:=put_live h (by omega) hsm (pE_pb ho u2 h0 hst)
  have hp:putQ (idleR 5 ((n:Int) + (i:Int))).fQ (pE u 0 ((i + 1:Nat):Int)) = (⟨5,[pE u 0 ((i + 1:Nat):Int)],0⟩,zE,false,0):=putQ_one (by omega) hmay
  have hpr:putR (idleR 5 ((n:Int) + (i:Int))) (pE u 0 ((i + 1:Nat):Int)) = ⟨s1,s2,(n:Int) + (i:Int),⟨5,[pE u 0 ((i + 1:Nat):Int)],0⟩,zP,false,0,0⟩:=by unfold putR; rw [hp]; rfl
  rw [hpr] at p2
  obtain ⟨sa,b1,b2⟩:=send_live ho.toVOk p2 (t:=((i + 1:Nat):Int)) (by omega) (by omega)
  rw [send_one (by omega)] at b1 b2
  have hack:∀ sx:SSnd,Live w sx ⟨s1,s2,(n:Int) + (i:Int) + 1,⟨5,[],0⟩,⟨false,s1,s2,(n:Int) + (i:Int) + 1,[pE u 0 ((i + 1:Nat):Int)]⟩,true,0,((i + 1:Nat):Int) + 1⟩ (3 * (i:Int) + 1 + 1)→
    ∃ sy sz,sender_Sender_Ack.f sx ((n:Int) + (i:Int) + 1) = some (true,sy)∧sender_Sender_Ack.f sy ((n:Int) + (i:Int) + 1) = some (false,sz)∧Live w sz (idleR 5 ((n:Int) + ((i + 1:Nat):Int))) (3 * ((i + 1:Nat):Int)):=fun sx hx=>by
   obtain ⟨sy,c1,c2⟩:=ack_live hx ((n:Int) + (i:Int) + 1)
   have e1:ackR (⟨s1,s2,(n:Int) + (i:Int) + 1,⟨5,[],0⟩,⟨false,s1,s2,(n:Int) + (i:Int) + 1,[pE u 0 ((i + 1:Nat):Int)]⟩,true,0,((i + 1:Nat):Int) + 1⟩:RSnd) ((n:Int) + (i:Int) + 1) = (idleR 5 ((n:Int) + (i:Int) + 1),true):=by
    unfold ackR; rw [if_pos ⟨rfl,rfl⟩]; rfl
   rw [e1] at c1 c2
   obtain ⟨sz,d1,d2⟩:=ack_live c2 ((n:Int) + (i:Int) + 1)
   have e2:ackR (idleR 5 ((n:Int) + (i:Int) + 1)) ((n:Int) + (i:Int) + 1) = (idleR 5 ((n:Int) + (i:Int) + 1),false):=by
    unfold ackR; rw [if_neg (fun hh=>by cases hh.1)]
   rw [e2] at d1 d2
   refine ⟨sy,sz,c1,d1,?_⟩
   have e3:(n:Int) + ((i + 1:Nat):Int) = (n:Int) + (i:Int) + 1:=by omega
   rw [e3]
   exact ⟨d2.rel.up (by omega),d2.all,d2.to⟩
  have hpm:=parMay_ev (n:=(n:Int) + (i:Int) + 1) (by omega) hsm.zz hmay
  have head:∀ {x},El (fun k j=>cond (a2 != (n:Int) + (i:Int) + 1) ((sender_Sender_Ack.f sa a2).bind fun t2325=>cond t2325.1 (some (.inr false)) ((sender_Sender_Ack.f t2325.2 ((n:Int) + (i:Int) + 1)).bind fun t2328=>cond (!t2328.1) (some (.inr false)) ((sender_Sender_Ack.f t2328.2 ((n:Int) + (i:Int) + 1)).bind fun t2332=>cond t2332.1 (some (.inr false)) (w18_SenderNumbers.l0 k a1 a2 (some v,w0) (n:Int) j ((i + 1 + 1:Nat):Int) t2332.2)))) ((sender_Sender_Ack.f sa ((n:Int) + (i:Int) + 1)).bind fun t2336=>cond (!t2336.1) (some (.inr false)) ((sender_Sender_Ack.f t2336.2 ((n:Int) + (i:Int) + 1)).bind fun t2340=>cond t2340.1 (some (.inr false)) (w18_SenderNumbers.l0 k a1 a2 (some v,w0) (n:Int) j ((i + 1 + 1:Nat):Int) t2340.2)))) x→
    El (fun k j=>w18_SenderNumbers.l0 k a1 a2 (some v,w0) (n:Int) j ((i + 1:Nat):Int) s) x:=fun hh=>by
   refine El.step (fun _ _=>by rw [w18_SenderNumbers.l0]) ?_
   rw [hw2,inc1 (show i + 1≤1000000 by omega)]
   refine El.bind (Ev.of hq).el (El.ct (by rw [hw]; exact decide_eq_true (by omega)) (El.bind (Ev.of u1).el (El.bind p1.el (El.bind b1.el ?_))))
   refine El.cf rfl (El.cf rfl (El.cf (by simp) (El.cf (by simp [s1]) (El.cf (by simp [s2]) (El.cf rfl (El.bind hpm.el (El.cf rfl ?_)))))))
   exact hh
  by_cases ha:a2 = (n:Int) + (i:Int) + 1
  ·obtain ⟨sy,sz,c1,c2,c3⟩:=hack sa b2
   obtain ⟨s',N,g1,g2⟩:=ih (i + 1) (by omega) (by omega) sz c3
   refine ⟨s',N,head (El.cf (by simp [ha]) ?_),g2⟩
   exact El.bind (Ev.of c1).el (El.cf rfl (El.bind (Ev.of c2).el (El.cf rfl g1)))
  ·obtain ⟨sb',d1,d2⟩:=ack_live b2 a2
   have e1:ackR (⟨s1,s2,(n:Int) + (i:Int) + 1,⟨5,[],0⟩,⟨false,s1,s2,(n:Int) + (i:Int) + 1,[pE u 0 ((i + 1:Nat):Int)]⟩,true,0,((i + 1:Nat):Int) + 1⟩:RSnd) a2 = (⟨s1,s2,(n:Int) + (i:Int) + 1,⟨5,[],0⟩,⟨false,s1,s2,(n:Int) + (i:Int) + 1,[pE u 0 ((i + 1:Nat):Int)]⟩,true,0,((i + 1:Nat):Int) + 1⟩,false):=by
    unfold ackR; rw [if_neg (fun hh=>ha hh.2.symm)]
   rw [e1] at d1 d2
   obtain ⟨sy,sz,c1,c2,c3⟩:=hack sb' d2
   obtain ⟨s',N,g1,g2⟩:=ih (i + 1) (by omega) (by omega) sz c3
   refine ⟨s',N,head (El.ct (by simpa using ha) ?_),g2⟩
   exact El.bind (Ev.of d1).el (El.cf rfl (El.bind (Ev.of c1).el (El.cf rfl (El.bind (Ev.of c2).el (El.cf rfl g1)))))
theorem SenderNumbers_pure (a0:Int) (a1:Int) (a2:Int) (k0:(Lit.int .i64 a0).wf = true) (k1:(Lit.int .i64 a1).wf = true) (_k2:(Lit.int .i64 a2).wf = true):∃ k,w18_SenderNumbers.f k a0 a1 a2 = some true:=by
 suffices h:Ev (fun k=>w18_SenderNumbers.f k a0 a1 a2) true from h.ex
 obtain ⟨n,n1,n2,n3⟩:=around_ev (m:=101) (i64_of k0) (by decide) (by decide)
 obtain ⟨q,q1,q2,q3⟩:=around_ev (m:=8) (i64_of k1) (by decide) (by decide)
 obtain ⟨Q,rfl⟩:∃ Q:Nat,q = (Q:Int):=⟨q.toNat,by omega⟩
 obtain ⟨M,rfl⟩:∃ M:Nat,n = (M:Int):=⟨n.toNat,by omega⟩
 obtain ⟨v,w,o1,o2⟩:=open_ev
 have hl:Live w (newS 5 (M:Int)) (idleR 5 ((M:Int) + ((0:Nat):Int))) (3 * ((0:Nat):Int)):=by
  have:=live_new (w:=w) (most:=5) (n:=(M:Int)) (by omega) (by omega)
  have e:(M:Int) + ((0:Nat):Int) = (M:Int):=by omega
  rw [e]
  exact this
 obtain ⟨s',N,g1,g2⟩:=numbers_loop (w0:=w) (a2:=a2) o2 q1 (by omega) (n:=M) (by omega) (Q + 1) 0 rfl (by omega) _ hl
 have i1:=idle_ev g2.rel
 unfold w18_SenderNumbers.f
 refine Ev.bind o1 (Ev.bind (Ev.of n1) (Ev.bind (begin_ev (by omega) (by omega)) (Ev.cf rfl (Ev.cf rfl ?_))))
 refine Ev.bind g1.diag ?_
 exact Ev.bind (Ev.of i1) (Ev.ct rfl (Ev.bind lives_ev Ev.pure))
end Go.Proofs.YtmmaijneehmbgaaGreat
