import Derived.Test.YtcchplmcefamhaaGreatZWS
set_option linter.all false
set_option maxRecDepth 10000
namespace Go.Proofs.YtcchplmcefamhaaGreat
open Go Go.Sp
theorem getD_mid (P:List ByteArray) (c:ByteArray) (C:List ByteArray) (d:ByteArray):(P++c::C).getD P.length d = c:=by
 rw [List.getD_eq_getElem?_getD,List.getElem?_append_right (by omega),Nat.sub_self]; rfl
section
variable {p:Nat→ByteArray→Option Bool} {b:ByteArray→Bool} (hp:∀ x,Ev (fun k=>p k x) (b x))
include hp
theorem idx_loop:∀ C P:List ByteArray,(P++C).length≤100000→
  (∃ A c D,C = A++c::D∧(∀ a∈A,b a = false)∧b c = true∧El (fun k j=>slices_IndexFunc_string_xw.l0 k (P++C) (p k) j (P.length:Int)) (.inr ((P.length + A.length:Nat):Int)))∨
  ((∀ a∈C,b a = false)∧El (fun k j=>slices_IndexFunc_string_xw.l0 k (P++C) (p k) j (P.length:Int)) (.inl (((P++C).length:Int),false)))
 | [],P,hl=>by
  right
  refine ⟨fun a h=>(by cases h),?_⟩
  refine El.step (fun _ _=>by rw [slices_IndexFunc_string_xw.l0]) ?_
  rw [List.append_nil]
  exact El.cf (by simp) (by simpa using El.pure)
 | c::C,P,hl=>by
  have hlen:(P++c::C).length = P.length + C.length + 1:=by rw [List.length_append,List.length_cons]; omega
  have head:∀ r,El (fun k j=>cond (b c) (some (.inr (P.length:Int))) (slices_IndexFunc_string_xw.l0 k (P++c::C) (p k) j ((P.length + 1:Nat):Int))) r→
    El (fun k j=>slices_IndexFunc_string_xw.l0 k (P++c::C) (p k) j (P.length:Int)) r:=fun r h=>by
   refine El.step (fun _ _=>by rw [slices_IndexFunc_string_xw.l0]) ?_
   rw [rp_inc (show P.length≤1000000 by omega),Int.toNat_natCast,getD_mid]
   exact El.ct (decide_eq_true (by omega)) (El.grd ⟨by omega,by omega⟩ (El.bind (hp c).el h))
  cases hb:b c with
  | true=>
   left
   refine ⟨[],c,C,rfl,fun a h=>(by cases h),hb,head _ ?_⟩
   rw [hb]
   exact El.pure
  | false=>
   rw [hb] at head
   have e:P++c::C = (P++[c])++C:=by rw [List.append_assoc]; rfl
   have el:(P++[c]).length = P.length + 1:=by rw [List.length_append]; rfl
   rcases idx_loop C (P++[c]) (by rw [← e]; exact hl) with ⟨A,c',D,h1,h2,h3,h4⟩ | ⟨h1,h2⟩
   ·left
    rw [← e,el] at h4
    refine ⟨c::A,c',D,by rw [h1]; rfl,fun a ha=>?_,h3,head _ ?_⟩
    ·rcases List.mem_cons.1 ha with rfl | ha
     ·exact hb
     ·exact h2 a ha
    ·rw [show P.length + (c::A).length = P.length + 1 + A.length by rw [List.length_cons]; omega]
     exact h4
   ·right
    rw [← e,el] at h2
    refine ⟨fun a ha=>?_,head _ h2⟩
    rcases List.mem_cons.1 ha with rfl | ha
    ·exact hb
    ·exact h1 a ha
theorem containsF_ev {xs:List ByteArray} (hl:xs.length≤100000):Ev (fun k=>slices_ContainsFunc_string_xw.f k xs (p k)) (xs.any b):=by
 unfold slices_ContainsFunc_string_xw.f slices_IndexFunc_string_xw.f
 rcases idx_loop hp xs [] hl with ⟨A,c,D,h1,h2,h3,h4⟩ | ⟨h1,h2⟩
 ·rw [show xs.any b = true from List.any_eq_true.2 ⟨c,by rw [h1]; simp,h3⟩]
  exact Ev.bind (Ev.bind h4.diag (Ev.of rfl)) (Ev.of (by rw [decide_eq_true (by omega)]))
 ·rw [show xs.any b = false from List.any_eq_false.2 fun a ha=>by rw [h1 a ha]; simp]
  exact Ev.bind (Ev.bind h2.diag (Ev.of rfl)) (Ev.of rfl)
end
theorem ofR_mem {w:RView} (hn:(w.fD.map (·.fRoom)).Nodup) {d:RDag} (hd:d∈w.fD):ofR w d.fRoom = d:=by
 unfold ofR
 have:∀ l:List RDag,(l.map (·.fRoom)).Nodup→d∈l→l.find? (fun x=>decide (x.fRoom = d.fRoom)) = some d:=by
  intro l
  induction l with
  | nil=>intro _ h; cases h
  | cons x l ih=>
   intro h1 h2
   rw [List.map_cons,List.nodup_cons] at h1
   by_cases e:x.fRoom = d.fRoom
   ·rw [List.find?_cons_of_pos (by simpa using e)]
    rcases List.mem_cons.1 h2 with rfl | h2
    ·rfl
    ·exact absurd (List.mem_map.2 ⟨d,h2,e.symm⟩) h1.1
   ·rw [List.find?_cons_of_neg (by simpa using e)]
    rcases List.mem_cons.1 h2 with rfl | h2
    ·exact absurd rfl e
    ·exact ih h1.2 h2
 rw [this _ hn hd]; rfl
theorem elflip {α:Type} {c:Bool} {F G:Nat→Nat→Option α} {a:α} (h:El (fun k j=>cond c (F k j) (G k j)) a):El (fun k j=>cond (!c) (G k j) (F k j)) a:=by cases c <;> exact h
section
variable {L:Nat→Nat→Int→Option ((Int×Bool) ⊕ Bool)} {n:Nat} {b:Nat→Bool} (h0:El (fun k j=>L k j (n:Int)) (.inl ((n:Int),false)))
 (h1:∀ x r,x < n→El (fun k j=>cond (b x) (L k j ((x + 1:Nat):Int)) (some (.inr false))) r→El (fun k j=>L k j (x:Int)) r)
include h0 h1
theorem all_loop:∀ d m:Nat,n - m = d→m≤n→((∃ x,x < n∧b x = false)∧El (fun k j=>L k j (m:Int)) (.inr false))∨((∀ x,m≤x→x < n→b x = true)∧El (fun k j=>L k j (m:Int)) (.inl ((n:Int),false))):=by
 intro d
 induction d with
 | zero=>
  intro m hd hm
  obtain rfl:m = n:=by omega
  exact .inr ⟨fun x h1 h2=>by omega,h0⟩
 | succ d ih=>
  intro m hd hm
  have hlt:m < n:=by omega
  cases hb:b m with
  | false=>exact .inl ⟨⟨m,hlt,hb⟩,h1 m _ hlt (El.cf hb El.pure)⟩
  | true=>
   rcases ih (m + 1) (by omega) (by omega) with ⟨a,k⟩ | ⟨a,k⟩
   ·exact .inl ⟨a,h1 m _ hlt (El.ct hb k)⟩
   ·refine .inr ⟨fun x h2 h3=>?_,h1 m _ hlt (El.ct hb k)⟩
    rcases Nat.eq_or_lt_of_le h2 with rfl | h4
    ·exact hb
    ·exact a x h4 h3
theorem all_ev2 {p:Bool} (hp:p = true↔∀ x,x < n→b x = true):Ev (fun k=>(L k k 0).bind (fall fun (_:Int×Bool)=>some true)) p:=by
 rcases all_loop h0 h1 _ 0 rfl (Nat.zero_le _) with ⟨⟨x,h2,h3⟩,h4⟩ | ⟨h2,h4⟩
 ·have:p = false:=by
   cases hh:p with
   | false=>rfl
   | true=>have:=hp.1 hh x h2; rw [h3] at this; cases this
  rw [this]
  exact Ev.bind h4.diag (Ev.of rfl)
 ·rw [hp.2 fun x h=>h2 x (Nat.zero_le _) h]
  exact Ev.bind h4.diag (Ev.of rfl)
end
theorem ext_getD {α:Type} {xs ys:List α} (d:α) (h:xs.length = ys.length):xs = ys↔∀ x,x < xs.length→xs.getD x d = ys.getD x d:=by
 constructor
 ·intro e x _; rw [e]
 ·intro k
  refine List.ext_getElem h fun i h1 h2=>?_
  have:=k i h1
  rw [List.getD_eq_getElem?_getD,List.getD_eq_getElem?_getD,List.getElem?_eq_getElem h1,List.getElem?_eq_getElem h2] at this
  exact this
theorem equal_ev {vs us:List ByteArray} (hv:vs.length≤100000) (hu:us.length≤100000):Ev (fun k=>slices_Equal_string.f k vs us) (decide (vs = us)):=by
 unfold slices_Equal_string.f
 by_cases hl:vs.length = us.length
 ·refine Ev.cf (by simp [hl]) (all_ev2 (n:=vs.length) (b:=fun x=>decide (vs.getD x ⟨#[]⟩ = us.getD x ⟨#[]⟩)) ?_ (fun x r hx h=>?_) ?_)
  ·refine El.step (fun _ _=>by rw [slices_Equal_string.l0]) ?_
   exact El.cf (by simp) (by simpa using El.pure)
  ·refine El.step (fun _ _=>by rw [slices_Equal_string.l0]) ?_
   rw [rp_inc (show x≤1000000 by omega),kat (K:=strK) vs x ⟨#[]⟩ hx,kat (K:=strK) us x ⟨#[]⟩ (by omega)]
   exact El.ct (decide_eq_true (by omega)) (El.grd ⟨by omega,by omega⟩ (El.grd ⟨by omega,by omega⟩ (elflip h)))
  ·rw [decide_eq_true_iff,ext_getD ⟨#[]⟩ hl]
   exact ⟨fun h x hx=>decide_eq_true (h x hx),fun h x hx=>of_decide_eq_true (h x hx)⟩
 ·exact Ev.ct (by simp; omega) (Ev.of (by rw [decide_eq_false fun e=>hl (by rw [e])]))
theorem sametexts_ev {vs us:List ByteArray} (hv:vs.length≤100000) (hu:us.length≤100000):Ev (fun k=>r01_SameTexts.f k vs us) (decide (vs = us)):=by
 unfold r01_SameTexts.f
 by_cases hl:vs.length = us.length
 ·refine Ev.cf (by simp [hl]) (all_ev2 (n:=vs.length) (b:=fun x=>decide (vs.getD x ⟨#[]⟩ = us.getD x ⟨#[]⟩)) ?_ (fun x r hx h=>?_) ?_)
  ·refine El.step (fun _ _=>by rw [r01_SameTexts.l0]) ?_
   exact El.cf (by simp) (by simpa using El.pure)
  ·refine El.step (fun _ _=>by rw [r01_SameTexts.l0]) ?_
   rw [rp_inc (show x≤1000000 by omega),kat (K:=strK) vs x ⟨#[]⟩ hx,kat (K:=strK) us x ⟨#[]⟩ (by omega)]
   exact El.ct (decide_eq_true (by omega)) (El.grd ⟨by omega,by omega⟩ (El.grd ⟨by omega,by omega⟩ (elflip h)))
  ·rw [decide_eq_true_iff,ext_getD ⟨#[]⟩ hl]
   exact ⟨fun h x hx=>decide_eq_true (h x hx),fun h x hx=>of_decide_eq_true (h x hx)⟩
 ·exact Ev.ct (by simp; omega) (Ev.of (by rw [decide_eq_false fun e=>hl (by rw [e])]))
theorem event_eq (a b:Event):decide (a = b) = (decide (a.fID = b.fID) && (decide (a.fRoom = b.fRoom) && (decide (a.fParents = b.fParents) && (decide (a.fThread = b.fThread) && (decide (a.fUser = b.fUser) && (a.fDoes == b.fDoes)))))):=by
 cases a; cases b
 rw [Bool.eq_iff_iff]
 simp
theorem dsame_ev {a b:Event} (ha:a.fParents.length≤100000) (hb:b.fParents.length≤100000):Ev (fun k=>dag_Same.f k a b) (decide (a = b)):=by
 rw [event_eq]
 unfold dag_Same.f
 refine Ev.cond (fun h1=>?_) (fun h1=>Ev.of (by rw [h1]; rfl))
 rw [h1]
 refine Ev.cond (fun h2=>?_) (fun h2=>Ev.of (by rw [h2]; rfl))
 rw [h2]
 refine Ev.bind (equal_ev ha hb) ?_
 refine Ev.cond (fun h3=>?_) (fun h3=>Ev.of (by rw [h3]; rfl))
 rw [h3]
 refine Ev.cond (fun h4=>?_) (fun h4=>Ev.of (by rw [h4]; rfl))
 rw [h4]
 refine Ev.cond (fun h5=>Ev.of (by rw [h5]; rfl)) (fun h5=>Ev.of (by rw [h5]; rfl))
theorem rsame_ev {a b:Event} (ha:a.fParents.length≤100000) (hb:b.fParents.length≤100000):Ev (fun k=>r07_Same.f k a b) (decide (a = b)):=by
 rw [event_eq]
 unfold r07_Same.f
 refine Ev.bind (sametexts_ev ha hb) ?_
 cases decide (a.fParents = b.fParents) <;> cases decide (a.fID = b.fID) <;> cases decide (a.fRoom = b.fRoom) <;> cases decide (a.fThread = b.fThread) <;> cases decide (a.fUser = b.fUser) <;> exact Ev.of rfl
section
variable {A B:List Event} (hA:A.length≤1000) (hB:B.length≤1000) (pA:∀ e∈A,e.fParents.length≤4) (pB:∀ e∈B,e.fParents.length≤4)
include hA hB pA pB
theorem eqfunc_ev:Ev (fun k=>slices_EqualFunc_Event_Event.f k A B (dag_Same.f k)) (decide (A = B)):=by
 unfold slices_EqualFunc_Event_Event.f
 by_cases hl:A.length = B.length
 ·refine Ev.cf (by simp [hl]) (all_ev2 (n:=A.length) (b:=fun x=>decide (ev A x = ev B x)) ?_ (fun x r hx h=>?_) ?_)
  ·refine El.step (fun _ _=>by rw [slices_EqualFunc_Event_Event.l0]) ?_
   exact El.cf (by simp) (by simpa using El.pure)
  ·refine El.step (fun _ _=>by rw [slices_EqualFunc_Event_Event.l0]) ?_
   rw [rp_inc (show x≤1000000 by omega),ev_at (l:=A) hx,ev_at (l:=B) (by omega)]
   exact El.ct (decide_eq_true (by omega)) (El.grd ⟨by omega,by omega⟩ (El.grd ⟨by omega,by omega⟩ (El.bind (dsame_ev (by have:=pA _ (ev_mem hx); omega) (by have:=pB _ (ev_mem (show x < B.length by omega)); omega)).el (elflip h))))
  ·rw [decide_eq_true_iff,ext_getD default hl]
   exact ⟨fun h x hx=>decide_eq_true (h x hx),fun h x hx=>of_decide_eq_true (h x hx)⟩
 ·exact Ev.ct (by simp; omega) (Ev.of (by rw [decide_eq_false fun e=>hl (by rw [e])]))
theorem sameall_ev2:Ev (fun k=>r07_SameAll.f k A B) (decide (A = B)):=by
 unfold r07_SameAll.f
 by_cases hl:A.length = B.length
 ·refine Ev.cf (by simp [hl]) (all_ev2 (n:=A.length) (b:=fun x=>decide (ev A x = ev B x)) ?_ (fun x r hx h=>?_) ?_)
  ·refine El.step (fun _ _=>by rw [r07_SameAll.l0]) ?_
   exact El.cf (by simp) (by simpa using El.pure)
  ·refine El.step (fun _ _=>by rw [r07_SameAll.l0]) ?_
   rw [rp_inc (show x≤1000000 by omega),ev_at (l:=A) hx,ev_at (l:=B) (by omega)]
   exact El.ct (decide_eq_true (by omega)) (El.grd ⟨by omega,by omega⟩ (El.grd ⟨by omega,by omega⟩ (El.bind (rsame_ev (by have:=pA _ (ev_mem hx); omega) (by have:=pB _ (ev_mem (show x < B.length by omega)); omega)).el (elflip h))))
  ·rw [decide_eq_true_iff,ext_getD default hl]
   exact ⟨fun h x hx=>decide_eq_true (h x hx),fun h x hx=>of_decide_eq_true (h x hx)⟩
 ·exact Ev.ct (by simp; omega) (Ev.of (by rw [decide_eq_false fun e=>hl (by rw [e])]))
end
def aE (w:RView) (room:ByteArray):List Event:=allE (tb (ofR w room).fL)
def sameV (w z:RView):Bool:=decide (rms w = rms z) && (rms w).all fun room=>decide (aE w room = aE z room)
section
variable {v x:VView} {w z:RView} (hr:RelV v w) (hz:RelV x z) (hl:w.fD.length≤1000) (hl2:z.fD.length≤1000) (hd:∀ room,(ofR w room).fL.length≤1000) (hd2:∀ room,(ofR z room).fL.length≤1000)
include hr hl hd
theorem aE_len (room:ByteArray):(aE w room).length≤1000:=by
 have hg:=rg_room hr hl room (hd room)
 unfold aE
 rw [(all_perm hg.good).length_eq]; exact hd room
theorem aE_par (room:ByteArray):∀ e∈aE w room,e.fParents.length≤4:=fun e he=>by
 have hg:=rg_room hr hl room (hd room)
 exact hg.par _ ((all_perm hg.good).mem_iff.1 he)
include hz hl2 hd2
theorem vsame_ev:Ev (fun k=>view_View_Same.f k v x) (sameV w z):=by
 have hrl:(rms w).length≤100000:=by unfold rms; rw [List.length_map]; omega
 have hrl2:(rms z).length≤100000:=by unfold rms; rw [List.length_map]; omega
 have pred:∀ room,Ev (fun k=>view_View_Same_1.f k room v x) (!decide (aE w room = aE z room)):=fun room=>by
  unfold view_View_Same_1.f
  exact Ev.bind (vevents_ev hr hl room (hd room)) (Ev.bind (vevents_ev hz hl2 room (hd2 room)) (Ev.bind (eqfunc_ev (aE_len hr hl hd room) (aE_len hz hl2 hd2 room) (aE_par hr hl hd room) (aE_par hz hl2 hd2 room)) (Ev.of rfl)))
 have h:=containsF_ev (p:=fun k a=>view_View_Same_1.f k a v x) (b:=fun room=>!decide (aE w room = aE z room)) pred hrl
 unfold view_View_Same.f sameV
 refine Ev.bind (Ev.of (vrooms_ev hr hl)) (Ev.bind (Ev.of (vrooms_ev hz hl2)) (Ev.bind (equal_ev hrl hrl2) (Ev.cond (fun h1=>?_) (fun h1=>Ev.of (by rw [h1]; rfl)))))
 rw [h1]
 refine Ev.bind (Ev.of (vrooms_ev hr hl)) (Ev.bind h (Ev.of ?_))
 congr 1
 rw [Bool.true_and,List.any_eq_not_all_not,Bool.not_not]
 congr 1
 funext room
 rw [Bool.not_not]
end
theorem rd_at {w:RView} {x:Nat} (hx:x < w.fD.length):RDag.K.at w.fD (x:Int) = w.fD.getD x default:=kat _ _ _ hx
theorem dl_of {v:VView} {w:RView} (hr:RelV v w) {i:Nat} (hi:i < w.fD.length):ofR w (w.fD.getD i default).fRoom = w.fD.getD i default∧(w.fD.getD i default).fRoom = (rms w).getD i ⟨#[]⟩:=by
 have e:w.fD.getD i default = w.fD[i]:=by rw [List.getD_eq_getElem?_getD,List.getElem?_eq_getElem hi]; rfl
 rw [e]
 refine ⟨ofR_mem hr.nd (List.getElem_mem hi),?_⟩
 unfold rms
 rw [List.getD_eq_getElem?_getD,List.getElem?_map,List.getElem?_eq_getElem hi]; rfl
section
variable {v x:VView} {w z:RView} (hr:RelV v w) (hz:RelV x z) (hl:w.fD.length≤1000) (hl2:z.fD.length≤1000) (hd:∀ room,(ofR w room).fL.length≤1000) (hd2:∀ room,(ofR z room).fL.length≤1000)
include hr hz hl hl2 hd hd2
theorem rsameV_ev:Ev (fun k=>r10_Same.f k w z) (sameV w z):=by
 unfold r10_Same.f
 have rl:(rms w).length = w.fD.length:=by unfold rms; rw [List.length_map]
 have rl2:(rms z).length = z.fD.length:=by unfold rms; rw [List.length_map]
 by_cases hll:w.fD.length = z.fD.length
 ·have all:∀ {v:VView} {w:RView},RelV v w→w.fD.length≤1000→(∀ room,(ofR w room).fL.length≤1000)→∀ i,i < w.fD.length→Ev (fun k=>r07_All.f k (w.fD.getD i default)) (aE w ((rms w).getD i ⟨#[]⟩)):=fun {v w} hr hl hd i hi=>by
   obtain ⟨e1,e2⟩:=dl_of hr hi
   have hg:=rg_room hr hl (w.fD.getD i default).fRoom (hd _)
   rw [e1] at hg
   have:=rall_ev hg
   unfold aE
   rw [← e2,e1]
   exact this
  refine Ev.cf (by simp [hll]) (all_ev2 (n:=w.fD.length) (b:=fun i=>decide (aE w ((rms w).getD i ⟨#[]⟩) = aE z ((rms z).getD i ⟨#[]⟩)) && decide ((rms w).getD i ⟨#[]⟩ = (rms z).getD i ⟨#[]⟩)) ?_ (fun i r hi h=>?_) ?_)
  ·refine El.step (fun _ _=>by rw [r10_Same.l0]) ?_
   exact El.cf (by simp) (by simpa using El.pure)
  ·refine El.step (fun _ _=>by rw [r10_Same.l0]) ?_
   rw [rp_inc (show i≤1000000 by omega),rd_at (w:=w) hi,rd_at (w:=z) (by omega)]
   refine El.ct (decide_eq_true (by omega)) (El.grd ⟨by omega,by omega⟩ (El.bind (all hr hl hd i hi).el (El.grd ⟨by omega,by omega⟩ (El.bind (all hz hl2 hd2 i (by omega)).el (El.bind (sameall_ev2 (aE_len hr hl hd _) (aE_len hz hl2 hd2 _) (aE_par hr hl hd _) (aE_par hz hl2 hd2 _)).el ?_)))))
   rw [(dl_of hr hi).2,(dl_of hz (show i < z.fD.length by omega)).2]
   cases hb:decide (aE w ((rms w).getD i ⟨#[]⟩) = aE z ((rms z).getD i ⟨#[]⟩)) with
   | false=>rw [hb] at h; exact h
   | true=>rw [hb,Bool.true_and] at h; exact El.cf rfl (El.grd ⟨by omega,by omega⟩ (El.grd ⟨by omega,by omega⟩ (elflip h)))
  ·unfold sameV
   simp only [Bool.and_eq_true,decide_eq_true_iff,List.all_eq_true]
   have hx:=ext_getD (xs:=rms w) (ys:=rms z) ⟨#[]⟩ (by omega)
   rw [rl] at hx
   constructor
   ·rintro ⟨h1,h2⟩ i hi
    have h3:=hx.1 h1 i hi
    refine ⟨?_,h3⟩
    rw [← h3]
    exact h2 _ (by rw [List.getD_eq_getElem?_getD,List.getElem?_eq_getElem (by omega)]; exact List.getElem_mem _)
   ·intro h
    have h1:=hx.2 fun i hi=>(h i hi).2
    refine ⟨h1,fun room hroom=>?_⟩
    obtain ⟨i,hi,rfl⟩:=List.mem_iff_getElem.1 hroom
    have h4:=h i (by omega)
    rw [h1] at h4
    have h5:=h4.1
    rw [List.getD_eq_getElem?_getD,List.getElem?_eq_getElem (by rw [← h1]; exact hi)] at h5
    have e6:(rms w)[i] = (rms z)[i]'(by rw [← h1]; exact hi):=by congr 1
    rw [e6]
    exact h5
 ·refine Ev.ct (by simp; omega) (Ev.of ?_)
  unfold sameV
  rw [decide_eq_false fun e=>hll (by rw [← rl,e,rl2])]
  rfl
end
theorem sameV_comm {w z:RView}:sameV w z = sameV z w:=by
 rw [Bool.eq_iff_iff]
 unfold sameV
 simp only [Bool.and_eq_true,decide_eq_true_iff,List.all_eq_true]
 constructor <;> (rintro ⟨h1,h2⟩; exact ⟨h1.symm,fun r hr=>(h2 r (by rw [h1]; exact hr)).symm⟩)
section
variable {v:VView} {w:RView} (hr:RelV v w) (hl:w.fD.length≤1000) (hd:∀ room,(ofR w room).fL.length≤1000)
include hr hl hd
theorem vself_ev:Ev (fun k=>view_View_Same_self.f k v) true:=by
 have hrl:(rms w).length≤100000:=by unfold rms; rw [List.length_map]; omega
 have pred:∀ room,Ev (fun k=>view_View_Same_1_self.f k room v) false:=fun room=>by
  unfold view_View_Same_1_self.f
  exact Ev.bind (vevents_ev hr hl room (hd room)) (Ev.bind (vevents_ev hr hl room (hd room)) (Ev.bind (eqfunc_ev (aE_len hr hl hd room) (aE_len hr hl hd room) (aE_par hr hl hd room) (aE_par hr hl hd room)) (Ev.of (by simp))))
 have h:=containsF_ev (p:=fun k a=>view_View_Same_1_self.f k a v) (b:=fun _=>false) pred hrl
 unfold view_View_Same_self.f
 exact Ev.bind (Ev.of (vrooms_ev hr hl)) (Ev.bind (Ev.of (vrooms_ev hr hl)) (Ev.bind (equal_refl hrl) (Ev.ct rfl (Ev.bind (Ev.of (vrooms_ev hr hl)) (Ev.bind h (Ev.of (by simp)))))))
end
theorem lives_ev:Ev (fun k=>w10_lives.f k) true:=Ev.add 40 fun m=>by kernel_rfl
theorem bld {a b:List GMade} (ha:a.length≤maxLen∧∀ x∈a,GMade.ok x) (hb:b.length≤maxLen∧∀ x∈b,GMade.ok x):∃ v w,Ev (fun k=>w10_build.f k a b) (some v,w)∧RelV v w∧w.fD.length≤1000∧∀ room,(ofR w room).fL.length≤1000:=by
 obtain ⟨v,w,A,B,h1,h2,h3,h4,h5,h6,h7,h8,h9,h10,_⟩:=build_ev2 ha hb
 refine ⟨v,w,h1,h2,by omega,fun room=>?_⟩
 by_cases e1:room = roomR
 ·subst e1; rw [h8]; have:=h4.len; show A.length≤_; omega
 ·by_cases e2:room = roomQ
  ·subst e2; rw [h9]; have:=h6.len; show B.length≤_; omega
  ·rw [h10 room e1 e2]; simp
theorem ok_take {l:List GMade} (n:Nat) (h:l.length≤maxLen∧∀ x∈l,GMade.ok x):((l.take n).drop 0).length≤maxLen∧∀ x∈(l.take n).drop 0,GMade.ok x:=by
 rw [List.drop_zero]
 exact ⟨Nat.le_trans (by rw [List.length_take]; exact Nat.min_le_right _ _) h.1,fun x hx=>h.2 x (List.mem_of_mem_take hx)⟩
theorem ViewSame_pure (a0:List GMade) (a1:List GMade) (a2:List GMade) (k0:(fun xs:List GMade=>xs.length≤maxLen∧∀ x∈xs,GMade.ok x) a0) (k1:(fun xs:List GMade=>xs.length≤maxLen∧∀ x∈xs,GMade.ok x) a1) (k2:(fun xs:List GMade=>xs.length≤maxLen∧∀ x∈xs,GMade.ok x) a2):∃ k,w10_ViewSame.f k a0 a1 a2 = some true:=by
 suffices h:Ev (fun k=>w10_ViewSame.f k a0 a1 a2) true from h.ex
 obtain ⟨v,w,p1,p2,p3,p4⟩:=bld k0 k1
 obtain ⟨x,z,q1,q2,q3,q4⟩:=bld k0 k2
 obtain ⟨y,u,r1,r2,r3,r4⟩:=bld (ok_take (min (a0.length:Int) 9).toNat k0) (ok_take (min (a1.length:Int) 2).toNat k1)
 have c0:∀ {n m:Int} {l:Nat},0≤m→(0:Int)≤(min (l:Int) m)∧0≤(min (l:Int) m).toNat∧(min (l:Int) m).toNat≤l:=fun {n m l} h=>by omega
 unfold w10_ViewSame.f
 refine Ev.bind p1 (Ev.bind q1 (Ev.grd (c0 (n:=0) (by decide)) (Ev.grd (c0 (n:=0) (by decide)) (Ev.bind r1 (Ev.cf rfl (Ev.cf rfl (Ev.cf rfl ?_)))))))
 refine Ev.bind (vsame_ev p2 q2 p3 q3 p4 q4) (Ev.bind (rsameV_ev p2 q2 p3 q3 p4 q4) (Ev.ct (by simp) ?_))
 refine Ev.bind (vsame_ev q2 p2 q3 p3 q4 p4) (Ev.bind (rsameV_ev p2 q2 p3 q3 p4 q4) (Ev.ct (by rw [sameV_comm]; simp) ?_))
 refine Ev.bind (vsame_ev p2 r2 p3 r3 p4 r4) (Ev.bind (rsameV_ev p2 r2 p3 r3 p4 r4) (Ev.ct (by simp) ?_))
 exact Ev.bind (vself_ev p2 p3 p4) (Ev.ct rfl (Ev.bind lives_ev Ev.pure))
end Go.Proofs.YtcchplmcefamhaaGreat
