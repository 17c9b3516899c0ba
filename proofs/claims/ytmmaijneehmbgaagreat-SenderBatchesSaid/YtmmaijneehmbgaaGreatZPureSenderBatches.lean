import Derived.Test.YtmmaijneehmbgaaGreatZSL
set_option linter.all false
set_option maxRecDepth 10000
namespace Go.Proofs.YtmmaijneehmbgaaGreat
open Go Go.Sp
def bE (x:Nat):Edu:=⟨1,rooms.getD (x % 2) default,users.getD (x % 9) default,⟨#[36,120]⟩,(⟨#[36,116]⟩:ByteArray)++decB x,false,false,0,0,0,(x:Int)⟩
def bL (n:Nat):List Edu:=(List.range n).map bE
theorem bL_len (n:Nat):(bL n).length = n:=by simp [bL]
theorem bE_ok {x:Nat} (h:x < 120):mayL (bE x) = true∧(bE x).fRoom.size < 128∧(bE x).fUser.size < 128∧(bE x).fThread.size < 128:=by
 have a:(List.range 120).all (fun x=>mayL (bE x) && (decide ((bE x).fRoom.size < 128) && (decide ((bE x).fUser.size < 128) && decide ((bE x).fThread.size < 128)))) = true:=by kernel_rfl
 have:=List.all_eq_true.1 a x (List.mem_range.2 h)
 simpa only [Bool.and_eq_true,decide_eq_true_eq] using this
theorem bE_sm {x:Nat} (h:x < 120):Sm (bE x):=by
 obtain ⟨_,a,b,c⟩:=bE_ok h
 exact ⟨by show (0:Int)≤1∧(1:Int) < 128; omega,a,b,by show 2 < 128; omega,c,by show (0:Int)≤0∧(0:Int) < 128; omega,by show (0:Int)≤0∧(0:Int) < 128; omega,by show (0:Int)≤0∧(0:Int)≤1099511627776; omega,by show (0:Int)≤(x:Int)∧(x:Int)≤1099511627776; omega⟩
theorem decB_inj {x y:Nat} (hx:x < 120) (hy:y < 120) (h:x≠y):(⟨#[36,116]⟩:ByteArray)++decB x≠(⟨#[36,116]⟩:ByteArray)++decB y:=by
 have a:(List.range 120).all (fun x=>(List.range 120).all fun y=>decide (x = y) || !decide ((⟨#[36,116]⟩:ByteArray)++decB x = (⟨#[36,116]⟩:ByteArray)++decB y)) = true:=by kernel_rfl
 have:=List.all_eq_true.1 (List.all_eq_true.1 a x (List.mem_range.2 hx)) y (List.mem_range.2 hy)
 simp only [Bool.or_eq_true,decide_eq_true_eq,Bool.not_eq_true',decide_eq_false_iff_not] at this
 exact this.resolve_left h
theorem bE_key {x y:Nat} (hx:x < 120) (hy:y < 120) (h:x≠y):keyE (bE x)≠keyE (bE y):=fun e=>decB_inj hx hy h (congrArg EKey.fThread e)
theorem putQ_b {n:Nat} (h:n < 120):putQ ⟨120,bL n,0⟩ (bE n) = (⟨120,bL (n + 1),0⟩,zE,false,0):=by
 have hne:∀ o∈bL n,decide (keyE o = keyE (bE n)) = false:=fun o ho=>by
  obtain ⟨x,hx,rfl⟩:=List.mem_map.1 ho
  have:=List.mem_range.1 hx
  exact decide_eq_false (bE_key (by omega) h (by omega))
 have hany:((bL n).any fun o=>decide (keyE o = keyE (bE n)) && decide (cmpE (bE n) o≤0)) = false:=by
  rw [List.any_eq_false]
  intro o ho
  rw [hne o ho]; simp
 have hap:bL n++[bE n] = bL (n + 1):=by unfold bL; rw [List.range_succ,List.map_append]; rfl
 unfold putQ
 rw [if_neg (by rw [(bE_ok h).1]; decide),if_neg (by rw [hany]; decide),filter_none hne,hap,if_neg (by rw [bL_len]; show ¬ (120:Int) < ((n + 1:Nat):Int); omega)]
theorem room_at (x:Nat) (h:x < 1000):r01_RoomOf.f (x:Int) = some (rooms.getD (x % 2) default):=by
 have e:r01_Around.f (x:Int) 2 = some ((x % 2:Nat):Int):=by
  unfold r01_Around.f
  rw [decide_eq_false (show ¬ (x:Int) < 0 by omega)]
  show grd _ _ = _
  unfold grd
  rw [if_pos (by decide),Int.tmod_eq_emod_of_nonneg (by omega)]
  rfl
 unfold r01_RoomOf.f
 rw [e]
 rcases (show x % 2 = 0∨x % 2 = 1 by omega) with h2 | h2 <;> rw [h2] <;> rfl
theorem user_at (x:Nat) (h:x < 1000):r01_UserOf.f ((x:Int).tmod 9) = some (users.getD (x % 9) default):=by
 have e1:(x:Int).tmod 9 = ((x % 9:Nat):Int):=by rw [Int.tmod_eq_emod_of_nonneg (by omega)]; omega
 obtain ⟨u,u1,u2⟩:=userOf_at (x % 9) (by omega)
 rw [e1,u1,List.getD_eq_getElem?_getD,u2]; rfl
def bR (n:Nat):RSnd:=⟨s1,s2,0,⟨120,bL n,0⟩,zP,false,0,0⟩
theorem batches_loop {v:VView} {w:RView} (ho:Opened v w) {q:Nat} (hq:q < 30):∀ d i:Nat,90 + q - i = d→i≤90 + q→∀ s:SSnd,Live w s (bR i) (i:Int)→
  ∃ s',El (fun k j=>w18_SenderBatches.l0 k (q:Int) j (i:Int) s) (((90 + q:Nat):Int),false,s')∧Live w s' (bR (90 + q)) 200:=by
 have hw:w64 (90 + (q:Int)) = ((90 + q:Nat):Int):=by rw [w64_id (by omega) (by omega)]; omega
 intro d
 induction d with
 | zero=>
  intro i hd hi s h
  obtain rfl:i = 90 + q:=by omega
  refine ⟨s,?_,h.rel.up (by omega),h.all,h.to⟩
  refine El.step (fun _ _=>by rw [w18_SenderBatches.l0]) ?_
  rw [hw]
  refine El.cf (decide_eq_false (by omega)) ?_
  rw [decide_eq_false (show ¬ (((90 + q:Nat):Int) < ((90 + q:Nat):Int)) by omega)]
  exact El.pure
 | succ d ih=>
  intro i hd hi s h
  have hi2:i < 120:=by omega
  have hr:(bE i).fRoom∈rooms:=by
   show rooms.getD (i % 2) default∈rooms
   exact getD_mem (d:=default) (show i % 2 < rooms.length from (by show i % 2 < 2; omega))
  have hpb:=ho.pb1 (bE_sm hi2).zz (bE_ok hi2).1 rfl hr
  obtain ⟨q',a,b⟩:=put_live h (by omega) (bE_sm hi2) hpb
  have hp:putQ (bR i).fQ (bE i) = (⟨120,bL (i + 1),0⟩,zE,false,0):=putQ_b hi2
  have hpr:putR (bR i) (bE i) = bR (i + 1):=by unfold putR; rw [hp]; rfl
  rw [hpr] at b
  obtain ⟨s',g,g2⟩:=ih (i + 1) (by omega) (by omega) _ (by rw [show ((i + 1:Nat):Int) = (i:Int) + 1 by omega]; exact b)
  refine ⟨s',?_,g2⟩
  refine El.step (fun _ _=>by rw [w18_SenderBatches.l0]) ?_
  rw [hw,inc1 (show i≤1000000 by omega)]
  have hsz:=decB_size i
  refine El.ct (decide_eq_true (by omega)) (El.bind (Ev.of (room_at i (by omega))).el (El.bind (Ev.of (user_at i (by omega))).el (El.bind (dec_ev (by omega)).el (El.grd (by show 2 + (decB i).size≤9223372036854775807; omega) (El.bind a.el ?_)))))
  exact g
theorem SenderBatches_pure (a0:Int) (k0:(Lit.int .i64 a0).wf = true):∃ k,w18_SenderBatches.f k a0 = some true:=by
 suffices h:Ev (fun k=>w18_SenderBatches.f k a0) true from h.ex
 obtain ⟨q0,q1,q2,q3⟩:=around_ev (m:=30) (i64_of k0) (by decide) (by decide)
 obtain ⟨q,rfl⟩:∃ q:Nat,q0 = (q:Int):=⟨q0.toNat,by omega⟩
 have hw:w64 (90 + (q:Int)) = ((90 + q:Nat):Int):=by rw [w64_id (by omega) (by omega)]; omega
 obtain ⟨v,w,o1,o2⟩:=open_ev
 have hl0:Live w (newS 120 0) (bR 0) ((0:Nat):Int):=live_new (by omega) (by omega)
 obtain ⟨s,l1,l2⟩:=batches_loop o2 (q:=q) (by omega) (90 + q) 0 rfl (by omega) _ hl0
 generalize hn:90 + q = n at *
 have hnb:90≤n∧n < 120:=by omega
 have hL:=bL_len n
 have hft:(bL n).filter tt1 = bL n:=List.filter_eq_self.2 fun _ _=>rfl
 have hsend:sendR tt1 (bR n) 0 = (⟨s1,s2,1,⟨120,(bL n).drop 100,0⟩,⟨false,s1,s2,1,(bL n).take 100⟩,true,0,1⟩,⟨false,s1,s2,1,(bL n).take 100⟩,true,0):=by
  show sendT tt1 (bR n) 0 = _
  unfold sendT
  rw [show (bR n).fQ.fL = bL n from rfl,hft,if_neg (by omega),if_neg (show ¬ (bR n).fN = 1099511627776 from (by show ¬ (0:Int) = 1099511627776; decide))]
  rfl
 obtain ⟨sa,b1,b2⟩:=send_live o2.toVOk l2 (t:=0) (by omega) (by omega)
 rw [hsend] at b1 b2
 obtain ⟨sb,c1,c2⟩:=ack_live b2 1
 have hack:ackR (⟨s1,s2,1,⟨120,(bL n).drop 100,0⟩,⟨false,s1,s2,1,(bL n).take 100⟩,true,0,1⟩:RSnd) 1 = (⟨s1,s2,1,⟨120,(bL n).drop 100,0⟩,zP,false,0,0⟩,true):=by unfold ackR; rw [if_pos ⟨rfl,rfl⟩]; rfl
 rw [hack] at c1 c2
 obtain ⟨sc,d1,d2⟩:=send_live o2.toVOk c2 (t:=0) (by omega) (by omega)
 have hfd:((bL n).drop 100).filter tt1 = (bL n).drop 100:=List.filter_eq_self.2 fun _ _=>rfl
 have hdl:((bL n).drop 100).length = n - 100:=by rw [List.length_drop,hL]
 have hsend2:(sendR tt1 ⟨s1,s2,1,⟨120,(bL n).drop 100,0⟩,zP,false,0,0⟩ 0).2.1.fEdus = (bL n).drop 100∧(sendR tt1 ⟨s1,s2,1,⟨120,(bL n).drop 100,0⟩,zP,false,0,0⟩ 0).2.2.1 = decide ((100:Int) < (n:Int)):=by
  show (sendT tt1 ⟨s1,s2,1,⟨120,(bL n).drop 100,0⟩,zP,false,0,0⟩ 0).2.1.fEdus = _∧(sendT tt1 ⟨s1,s2,1,⟨120,(bL n).drop 100,0⟩,zP,false,0,0⟩ 0).2.2.1 = _
  unfold sendT
  show (if (((bL n).drop 100).filter tt1).length = 0 then _ else _:RSnd×Par×Bool×Int).2.1.fEdus = _∧(if (((bL n).drop 100).filter tt1).length = 0 then _ else _:RSnd×Par×Bool×Int).2.2.1 = _
  rw [hfd,hdl]
  by_cases hc:n - 100 = 0
  ·rw [if_pos hc,decide_eq_false (by omega)]
   exact ⟨(List.eq_nil_of_length_eq_zero (by omega)).symm,rfl⟩
  ·rw [if_neg hc,if_neg (show ¬ (⟨s1,s2,1,⟨120,(bL n).drop 100,0⟩,zP,false,0,0⟩:RSnd).fN = 1099511627776 from (by show ¬ (1:Int) = 1099511627776; decide)),decide_eq_true (by omega)]
   exact ⟨List.take_of_length_le (by omega),rfl⟩
 have hmin:min ((n:Nat):Int) 100 = ((min n 100:Nat):Int):=by omega
 have htk:(bL n).take (min n 100) = (bL n).take 100:=by
  rcases Nat.le_total n 100 with h | h
  ·rw [Nat.min_eq_left h,List.take_of_length_le (by omega),List.take_of_length_le (by omega)]
  ·rw [Nat.min_eq_right h]
 have hdr:(bL n).drop (min n 100) = (bL n).drop 100:=by
  rcases Nat.le_total n 100 with h | h
  ·rw [Nat.min_eq_left h,List.drop_of_length_le (by omega),List.drop_of_length_le (by omega)]
  ·rw [Nat.min_eq_right h]
 have htl:((bL n).take 100).length = min n 100:=by rw [List.length_take,hL]; omega
 have same:∀ l:List Edu,l.length≤1000→Ev (fun k=>r04_SameEdus.f k l l) true:=fun l hl=>by
  have:=sameEdus_ev (xs:=l) (ys:=l) (by omega)
  rwa [decide_eq_true rfl] at this
 unfold w18_SenderBatches.f
 refine Ev.bind o1 (Ev.bind (begin_ev (by omega) (by omega)) (Ev.cf rfl (Ev.cf rfl (Ev.bind (Ev.of q1) (Ev.bind l1.diag ?_)))))
 refine Ev.bind (all_evQ l2.rel.q) (Ev.bind b1 ?_)
 show Ev (fun k=>cond (((bL n).length:Int) != (w64 (90 + (q:Int)))) (some false) _) true
 rw [hw,hmin,Int.toNat_natCast]
 refine Ev.cf (by rw [hL]; simp) (Ev.cf (by show ((((bL n).take 100).length:Int) != _) = false; rw [htl]; simp) (Ev.grd ⟨by omega,by omega,by show min n 100≤(bL n).length; omega⟩ ?_))
 show Ev (fun k=>(r04_SameEdus.f k ((bL n).take 100) (((bL n).take (min n 100)).drop 0)).bind _) true
 rw [List.drop_zero,htk]
 refine Ev.bind (same _ (by omega)) (Ev.cf rfl (Ev.bind (Ev.of c1) (Ev.cf rfl (Ev.bind d1 ?_))))
 refine Ev.ct (by rw [hsend2.2]; simp) (Ev.grd ⟨by omega,by show min n 100≤(bL n).length; omega,Nat.le_refl _⟩ ?_)
 show Ev (fun k=>(r04_SameEdus.f k _ (((bL n).take (bL n).length).drop (min n 100))).bind _) true
 rw [List.take_length,hdr,hsend2.1]
 exact Ev.bind (same _ (by omega)) (Ev.ct rfl (Ev.bind lives_ev Ev.pure))
end Go.Proofs.YtmmaijneehmbgaaGreat
