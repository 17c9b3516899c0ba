import Derived.Test.YtmmaijneehmbgaaGreatZWA
set_option linter.all false
set_option maxRecDepth 10000
namespace Go.Proofs.YtmmaijneehmbgaaGreat
open Go Go.Sp
theorem getD_mid (P:List ByteArray) (c:ByteArray) (C:List ByteArray) (d:ByteArray):(P++c::C).getD P.length d=c:=by
 rw [List.getD_eq_getElem?_getD,List.getElem?_append_right (by omega),Nat.sub_self]; rfl
section
variable {p:Nat→ByteArray→Option Bool} {b:ByteArray→Bool} (hp:∀ x,Ev (fun k=>p k x) (b x))
include hp
theorem idx_loop:∀ C P:List ByteArray,(P++C).length≤100000→
  (∃ A c D,C=A++c::D∧(∀ a∈A,b a=false)∧b c=true∧El (fun k j=>slices_IndexFunc_string_xw.l0 k (P++C) (p k) j (P.length:Int)) (.inr ((P.length+A.length:Nat):Int)))∨
  ((∀ a∈C,b a=false)∧El (fun k j=>slices_IndexFunc_string_xw.l0 k (P++C) (p k) j (P.length:Int)) (.inl (((P++C).length:Int),false)))
 | [],P,hl=>by
  right
  refine ⟨fun a h=>(by cases h),?_⟩
  refine El.step (fun _ _=>by rw [slices_IndexFunc_string_xw.l0]) ?_
  rw [List.append_nil]
  exact El.cf (by simp) (by simpa using El.pure)
 | c::C,P,hl=>by
  have hlen:(P++c::C).length=P.length+C.length+1:=by rw [List.length_append,List.length_cons]; omega
  have head:∀ r,El (fun k j=>cond (b c) (some (.inr (P.length:Int))) (slices_IndexFunc_string_xw.l0 k (P++c::C) (p k) j ((P.length+1:Nat):Int))) r→
    El (fun k j=>slices_IndexFunc_string_xw.l0 k (P++c::C) (p k) j (P.length:Int)) r:=fun r h=>by
   refine El.step (fun _ _=>by rw [slices_IndexFunc_string_xw.l0]) ?_
   rw [rp_inc (show P.length≤1000000 by omega),Int.toNat_natCast,getD_mid]
   exact El.ct (decide_eq_true (by omega)) (El.grd ⟨by omega,by omega⟩ (El.bind (hp c).el h))
  cases hb:b c with
  | true=>
   left
   refine ⟨[],c,C,rfl,fun a h=>(by cases h),hb,head _ ?_⟩
   rw [hb]
   exact El.pure
  | false=>
   rw [hb] at head
   have e:P++c::C=(P++[c])++C:=by rw [List.append_assoc]; rfl
   have el:(P++[c]).length=P.length+1:=by rw [List.length_append]; rfl
   rcases idx_loop C (P++[c]) (by rw [← e]; exact hl) with ⟨A,c',D,h1,h2,h3,h4⟩ | ⟨h1,h2⟩
   ·left
    rw [← e,el] at h4
    refine ⟨c::A,c',D,by rw [h1]; rfl,fun a ha=>?_,h3,head _ ?_⟩
    ·rcases List.mem_cons.1 ha with rfl | ha
     ·exact hb
     ·exact h2 a ha
    ·rw [show P.length+(c::A).length=P.length+1+A.length by rw [List.length_cons]; omega]
     exact h4
   ·right
    rw [← e,el] at h2
    refine ⟨fun a ha=>?_,head _ h2⟩
    rcases List.mem_cons.1 ha with rfl | ha
    ·exact hb
    ·exact h1 a ha
theorem del_loop:∀ (C A B:List ByteArray),B≠[]→(A++B++C).length≤100000→
  ∃ cur:List ByteArray,El (fun k j=>slices_DeleteFunc_string_xo.l0 k (p k) j (A.length:Int) ((A.length+B.length:Nat):Int) (A++B++C)) (((A++C.filter fun x=>!b x).length:Int),((A++B++C).length:Int),false,cur)∧cur.take (A++C.filter fun x=>!b x).length=A++C.filter (fun x=>!b x)∧(A++C.filter fun x=>!b x).length<cur.length
 | [],A,B,hB,hl=>by
  have hb:0<B.length:=List.length_pos_iff.2 hB
  refine ⟨A++B,?_,by simp,by simp; omega⟩
  refine El.step (fun _ _=>by rw [slices_DeleteFunc_string_xo.l0]) ?_
  rw [List.append_nil]
  refine El.cf (by simp) ?_
  have:decide (((A.length+B.length:Nat):Int)<((A++B).length:Int))=false:=by simp
  rw [this]
  simp only [List.filter_nil,List.append_nil]
  rw [show ((A++B).length:Int)=((A.length+B.length:Nat):Int) by rw [List.length_append]]
  exact El.pure
 | c::C,A,B,hB,hl=>by
  have hb:0<B.length:=List.length_pos_iff.2 hB
  have hlen:(A++B++c::C).length=A.length+B.length+C.length+1:=by simp; omega
  have hAB:A.length+B.length=(A++B).length:=by simp
  have hget:∀ d,(A++B++c::C).getD (A.length+B.length) d=c:=fun d=>by rw [hAB]; exact getD_mid _ _ _ _
  have head:∀ r,El (fun k j=>cond (!b c) (slices_DeleteFunc_string_xo.l0 k (p k) j ((A.length+1:Nat):Int) ((A.length+B.length+1:Nat):Int) ((A++B++c::C).set A.length c)) (slices_DeleteFunc_string_xo.l0 k (p k) j (A.length:Int) ((A.length+B.length+1:Nat):Int) (A++B++c::C))) r→
    El (fun k j=>slices_DeleteFunc_string_xo.l0 k (p k) j (A.length:Int) ((A.length+B.length:Nat):Int) (A++B++c::C)) r:=fun r h=>by
   refine El.step (fun _ _=>by rw [slices_DeleteFunc_string_xo.l0]) ?_
   rw [rp_inc (show A.length+B.length≤1000000 by omega),rp_inc (show A.length≤1000000 by omega),Int.toNat_natCast,Int.toNat_natCast,hget]
   refine El.ct (decide_eq_true (by omega)) (El.grd ⟨by omega,by omega⟩ (El.bind (hp c).el ?_))
   cases hbc:b c with
   | true=>rw [hbc] at h; exact h
   | false=>rw [hbc] at h; exact El.grd ⟨by omega,by omega⟩ h
  cases hbc:b c with
  | true=>
   rw [hbc] at head
   have e:A++B++c::C=A++(B++[c])++C:=by simp
   obtain ⟨cur,h1,h2,h3⟩:=del_loop C A (B++[c]) (by simp) (by rw [← e]; exact hl)
   rw [← e,show A.length+(B++[c]).length=A.length+B.length+1 by simp; omega] at h1
   refine ⟨cur,head _ ?_,?_,?_⟩
   ·rw [List.filter_cons,hbc]; exact h1
   ·rw [List.filter_cons,hbc]; exact h2
   ·rw [List.filter_cons,hbc]; exact h3
  | false=>
   rw [hbc] at head
   obtain ⟨y,B',rfl⟩:∃ y B',B=y::B':=by
    cases B with
    | nil=>exact absurd rfl hB
    | cons y B'=>exact ⟨y,B',rfl⟩
   have e:(A++(y::B')++c::C).set A.length c=(A++[c])++(B'++[c])++C:=by
    rw [List.append_assoc,List.set_append_right _ _ (by omega),Nat.sub_self]
    simp
   have el:((A++[c])++(B'++[c])++C).length=(A++(y::B')++c::C).length:=by rw [← e,List.length_set]
   obtain ⟨cur,h1,h2,h3⟩:=del_loop C (A++[c]) (B'++[c]) (by simp) (by rw [el]; exact hl)
   rw [el,← e,show (A++[c]).length+(B'++[c]).length=A.length+(y::B').length+1 by simp; omega,show (A++[c]).length=A.length+1 by simp] at h1
   have ef:(A++[c])++C.filter (fun x=>!b x)=A++(c::C).filter (fun x=>!b x):=by
    rw [List.filter_cons,hbc]; simp
   rw [ef] at h1 h2 h3
   exact ⟨cur,head _ h1,h2,h3⟩
theorem deleteF_ev {xs:List ByteArray} (hl:xs.length≤100000):Ev (fun k=>slices_DeleteFunc_string_xo.f k xs (p k)) (xs.filter fun x=>!b x):=by
 unfold slices_DeleteFunc_string_xo.f slices_IndexFunc_string_xw.f
 rcases idx_loop hp xs [] hl with ⟨A,c,D,h1,h2,h3,h4⟩ | ⟨h1,h2⟩
 ·obtain ⟨cur,d1,d2,d3⟩:=del_loop hp D A [c] (by simp) (by rw [List.append_assoc]; show (A++c::D).length≤_; rw [← h1]; exact hl)
  have e:A++[c]++D=xs:=by rw [h1,List.append_assoc]; rfl
  have ef:xs.filter (fun x=>!b x)=A++D.filter fun x=>!b x:=by
   rw [h1,List.filter_append,List.filter_cons,h3,List.filter_eq_self.2 fun a ha=>by rw [h2 a ha]; rfl]
   rfl
  have hA:A.length<xs.length:=by rw [h1]; simp
  rw [e] at d1
  rw [ef]
  refine Ev.bind (Ev.bind h4.diag (Ev.of rfl)) (Ev.cf ?_ (Ev.bind (a:=(((A++D.filter fun x=>!b x).length:Int),((xs.length:Int)),false,cur)) ?_ (Ev.grd ⟨by show (0:Int)≤((A++D.filter fun x=>!b x).length:Int); omega,by show (((A++D.filter fun x=>!b x).length:Int)).toNat<_; rw [Int.toNat_natCast]; exact d3⟩ (Ev.grd ⟨by show (0:Int)≤((A++D.filter fun x=>!b x).length:Int); omega,by omega,by
    show (((A++D.filter fun x=>!b x).length:Int)).toNat≤(cur.take (((A++D.filter fun x=>!b x).length:Int)).toNat++List.replicate (cur.length-(((A++D.filter fun x=>!b x).length:Int)).toNat) (⟨#[]⟩:ByteArray)).length
    rw [Int.toNat_natCast,d2]
    simp only [List.length_append]
    exact Nat.le_add_right _ _⟩ (Ev.of ?_)))))
  ·have:(((([]:List ByteArray).length+A.length:Nat):Int)==(-1))=false:=by
    rw [beq_eq_false_iff_ne]; omega
   exact this
  ·have e2:w64 ((([]:List ByteArray).length+A.length:Nat)+1)=((A.length+[c].length:Nat):Int):=by
    rw [rp_inc (by simp; omega)]; simp
   have e3:((([]:List ByteArray).length+A.length:Nat):Int)=(A.length:Int):=by simp
   rw [e2,e3]
   exact d1.diag
  ·show some (((cur.take (((A++D.filter fun x=>!b x).length:Int)).toNat++_).take (((A++D.filter fun x=>!b x).length:Int)).toNat).drop 0)=_
   rw [Int.toNat_natCast,d2,List.drop_zero,List.take_left]
 ·rw [List.filter_eq_self.2 fun a ha=>by rw [h1 a ha]; rfl]
  exact Ev.bind (Ev.bind h2.diag (Ev.of rfl)) (Ev.ct rfl Ev.pure)
end
theorem ofR_mem {w:RView} (hn:(w.fD.map (·.fRoom)).Nodup) {d:RDag} (hd:d∈w.fD):ofR w d.fRoom=d:=by
 unfold ofR
 have:∀ l:List RDag,(l.map (·.fRoom)).Nodup→d∈l→l.find? (fun x=>decide (x.fRoom=d.fRoom))=some d:=by
  intro l
  induction l with
  | nil=>intro _ h; cases h
  | cons x l ih=>
   intro h1 h2
   rw [List.map_cons,List.nodup_cons] at h1
   by_cases e:x.fRoom=d.fRoom
   ·rw [List.find?_cons_of_pos (by simpa using e)]
    rcases List.mem_cons.1 h2 with rfl | h2
    ·rfl
    ·exact absurd (List.mem_map.2 ⟨d,h2,e.symm⟩) h1.1
   ·rw [List.find?_cons_of_neg (by simpa using e)]
    rcases List.mem_cons.1 h2 with rfl | h2
    ·exact absurd rfl e
    ·exact ih h1.2 h2
 rw [this _ hn hd]; rfl
def jb (w:RView) (u room:ByteArray):Bool:=isJ (lastR u (allE (tb (ofR w room).fL)) none)
def rof (w:RView) (u:ByteArray):List ByteArray:=(rms w).filter (jb w u)
theorem rof_len (w:RView) (u:ByteArray):(rof w u).length≤w.fD.length:=by
 unfold rof rms
 have:=List.length_filter_le (jb w u) (w.fD.map (·.fRoom))
 rwa [List.length_map] at this
section
variable {v:VView} {w:RView} (hr:RelV v w) (hl:w.fD.length≤50) (hd:∀ room,(ofR w room).fL.length≤1000)
include hr hl hd
theorem jv (u room:ByteArray):Ev (fun k=>view_View_Joined.f k v room u) (jb w u room):=by
 obtain ⟨m,m1,m2,_⟩:=relV_of hr room
 unfold view_View_Joined.f
 exact Ev.bind (Ev.of m1) (Ev.bind (mjoined_ev (rg_of m2 (hd room)) m2.tab u) Ev.pure)
theorem sv (room:ByteArray):∃ r,Ev (fun k=>view_View_Servers.f k v room) r∧Ev (fun k=>r10_Servers.f k w room) r∧SrtT r∧r.length≤1000:=by
 obtain ⟨m,m1,m2,_⟩:=relV_of hr room
 obtain ⟨r,s1,s2,s3,s4⟩:=servers_both (rg_of m2 (hd room)) m2.tab (room:=room)
 have hR:ofR w room=⟨room,(ofR w room).fL⟩:=by
  have:=ofR_room w room
  cases h:ofR w room with
  | mk r l=>rw [h] at this; simp only at this; rw [this]
 rw [← hR] at s2
 refine ⟨r,?_,?_,s3,s4⟩
 ·unfold view_View_Servers.f; exact Ev.bind (Ev.of m1) (Ev.bind s1 Ev.pure)
 ·unfold r10_Servers.f; exact Ev.bind (of_ev (by omega)) (Ev.bind s2 Ev.pure)
theorem vroomsof_ev (u:ByteArray):Ev (fun k=>view_View_RoomsOf.f k v u) (rof w u):=by
 have hrl:(rms w).length≤100000:=by unfold rms; rw [List.length_map]; omega
 have pr:∀ x,Ev (fun k=>view_View_RoomsOf_1.f k x v u) (!jb w u x):=fun x=>by
  unfold view_View_RoomsOf_1.f
  exact Ev.bind (jv hr hl hd u x) Ev.pure
 have h:=deleteF_ev (p:=fun k x=>view_View_RoomsOf_1.f k x v u) (b:=fun x=>!jb w u x) pr hrl
 have e:(rms w).filter (fun x=>!!jb w u x)=rof w u:=by
  unfold rof; congr 1; funext x; rw [Bool.not_not]
 rw [e] at h
 unfold view_View_RoomsOf.f
 exact Ev.bind (Ev.of (vrooms_ev hr (by omega))) (Ev.bind h Ev.pure)
theorem rroomsof_ev (u:ByteArray):Ev (fun k=>r10_RoomsOf.f k w u) (rof w u):=by
 have key:∀ n x:Nat,w.fD.length-x=n→x≤w.fD.length→∀ out:List ByteArray,out.length≤x→El (fun k j=>r10_RoomsOf.l0 k w u j (x:Int) out) ((w.fD.length:Int),false,out++((w.fD.drop x).map (·.fRoom)).filter (jb w u)):=by
  intro n
  induction n with
  | zero=>
   intro x hd hx out ho
   obtain rfl:x=w.fD.length:=by omega
   refine El.step (fun _ _=>by rw [r10_RoomsOf.l0]) ?_
   rw [List.drop_length]
   exact El.cf (by simp) (by simpa using El.pure)
  | succ n ih=>
   intro x hn hx out ho
   have hx2:x<w.fD.length:=by omega
   have e1:RDag.K.at w.fD (x:Int)=w.fD[x]:=by rw [kat _ _ default hx2,List.getD_eq_getElem?_getD,List.getElem?_eq_getElem hx2]; rfl
   have eo:ofR w (w.fD[x]).fRoom=w.fD[x]:=ofR_mem hr.nd (List.getElem_mem hx2)
   have hj:Ev (fun k=>r09_Joined.f k w.fD[x] u) (jb w u (w.fD[x]).fRoom):=by
    obtain ⟨m,m1,m2,_⟩:=relV_of hr (w.fD[x]).fRoom
    have:=rjoined_ev (rg_of m2 (hd _)) u
    unfold jb
    rw [eo] at this ⊢
    exact this
   refine El.step (fun _ _=>by rw [r10_RoomsOf.l0]) ?_
   rw [rp_inc (show x≤1000000 by omega),e1,List.drop_eq_getElem_cons hx2,List.map_cons,List.filter_cons]
   refine El.ct (decide_eq_true (by omega)) (El.grd ⟨by omega,by omega⟩ (El.bind hj.el ?_))
   cases hb:jb w u (w.fD[x]).fRoom with
   | true=>
    have:=ih (x+1) (by omega) (by omega) (out++[(w.fD[x]).fRoom]) (by rw [List.length_append,List.length_singleton]; omega)
    rw [List.append_assoc] at this
    exact El.grd ⟨by omega,by omega⟩ (El.grd ⟨by rw [List.length_singleton]; omega,by rw [List.length_singleton]; omega⟩ this)
   | false=>exact ih (x+1) (by omega) (by omega) out (by omega)
 unfold r10_RoomsOf.f
 exact Ev.bind (key _ 0 rfl (by omega) [] (by simp)).diag (Ev.of (by rw [List.drop_zero]; rfl))
theorem peers_all (u:ByteArray):∃ r,Ev (fun k=>view_View_Peers.f k v u) r∧Ev (fun k=>r10_Peers.f k w u) r∧r.length≤100000∧∀ s,s∈r↔∃ room∈rof w u,∃ T,Ev (fun k=>view_View_Servers.f k v room) T∧s∈T:=by
 obtain ⟨S,hS⟩:=Classical.skolem.1 (sv hr hl hd)
 have hR:=rof_len w u
 have hS2:∀ room s,(∃ T,Ev (fun k=>view_View_Servers.f k v room) T∧s∈T)↔s∈S room:=fun room s=>
  ⟨fun ⟨T,t1,t2⟩=>by rw [(hS room).1.uniq t1]; exact t2,fun h=>⟨_,(hS room).1,h⟩⟩
 simp only [hS2]
 generalize hro:rof w u=R at hR
 have hv:∀ n x:Nat,R.length-x=n→x≤R.length→∀ out:List ByteArray,out.length≤1000*x→∃ fl:List ByteArray,El (fun k j=>view_View_Peers.l0 k v R j (x:Int) out) ((R.length:Int),(R.length:Int),false,fl,R)∧fl.length≤1000*R.length∧∀ s,s∈fl↔s∈out∨∃ room∈R.drop x,s∈S room:=by
  intro n
  induction n with
  | zero=>
   intro x hn hx out ho
   obtain rfl:x=R.length:=by omega
   refine ⟨out,?_,ho,fun s=>by rw [List.drop_length]; simp⟩
   refine El.step (fun _ _=>by rw [view_View_Peers.l0]) ?_
   exact El.cf (by simp) (by simpa using El.pure)
  | succ n ih=>
   intro x hn hx out ho
   have hx2:x<R.length:=by omega
   obtain ⟨h1,h2,h3,h4⟩:=hS (R.getD x ⟨#[]⟩)
   obtain ⟨fl,f1,f2,f3⟩:=ih (x+1) (by omega) (by omega) (out++S (R.getD x ⟨#[]⟩)) (by rw [List.length_append]; omega)
   refine ⟨fl,?_,f2,fun s=>?_⟩
   ·refine El.step (fun _ _=>by rw [view_View_Peers.l0]) ?_
    rw [Int.toNat_natCast,rp_inc (show x≤1000000 by omega)]
    exact El.ct (decide_eq_true (by omega)) (El.grd ⟨by omega,by omega⟩ (El.bind h1.el (El.grd ⟨by omega,by omega⟩ f1)))
   ·rw [f3,drop_at hx2,List.mem_append]
    simp only [List.mem_cons,exists_eq_or_imp]
    exact or_assoc
 obtain ⟨fl,f1,f2,f3⟩:=hv _ 0 rfl (by omega) [] (by simp)
 have hp:∀ T:List ByteArray,T.length≤1000→∀ n x:Nat,T.length-x=n→x≤T.length→∀ out:List ByteArray,SrtT out→out.length+(T.length-x)≤100000→∃ r,El (fun k j=>r10_Peers.l1 k T j (x:Int) out) ((T.length:Int),false,r,T)∧SrtT r∧r.length≤out.length+(T.length-x)∧∀ s,s∈r↔s∈out∨s∈T.drop x:=by
  intro T hT n
  induction n with
  | zero=>
   intro x hn hx out ho hlo
   obtain rfl:x=T.length:=by omega
   refine ⟨out,?_,ho,by omega,fun s=>by rw [List.drop_length]; simp⟩
   refine El.step (fun _ _=>by rw [r10_Peers.l1]) ?_
   exact El.cf (by simp) (by simpa using El.pure)
  | succ n ih=>
   intro x hn hx out ho hlo
   have hx2:x<T.length:=by omega
   have hpl:=putG_len (T.getD x ⟨#[]⟩) out false
   obtain ⟨r,r1,r2,r3,r4⟩:=ih (x+1) (by omega) (by omega) _ (putG_srt (s:=T.getD x ⟨#[]⟩) ho) (by omega)
   refine ⟨r,?_,r2,by omega,fun s=>?_⟩
   ·refine El.step (fun _ _=>by rw [r10_Peers.l1]) ?_
    rw [Int.toNat_natCast,rp_inc (show x≤1000000 by omega)]
    exact El.ct (decide_eq_true (by omega)) (El.grd ⟨by omega,by omega⟩ (El.bind (putR_ev out (T.getD x ⟨#[]⟩) (by omega)).el r1))
   ·rw [r4,putG_mem,drop_at hx2,List.mem_cons]
    generalize T.getD x ⟨#[]⟩=c
    by_cases e:s=c <;> simp [e]
 have hq:∀ n x:Nat,R.length-x=n→x≤R.length→∀ out:List ByteArray,SrtT out→out.length≤1000*x→∃ fl:List ByteArray,El (fun k j=>r10_Peers.l0 k w R j (x:Int) out) ((R.length:Int),false,fl)∧SrtT fl∧fl.length≤1000*R.length∧∀ s,s∈fl↔s∈out∨∃ room∈R.drop x,s∈S room:=by
  intro n
  induction n with
  | zero=>
   intro x hn hx out hs ho
   obtain rfl:x=R.length:=by omega
   refine ⟨out,?_,hs,ho,fun s=>by rw [List.drop_length]; simp⟩
   refine El.step (fun _ _=>by rw [r10_Peers.l0]) ?_
   exact El.cf (by simp) (by simpa using El.pure)
  | succ n ih=>
   intro x hn hx out hs ho
   have hx2:x<R.length:=by omega
   obtain ⟨h1,h2,h3,h4⟩:=hS (R.getD x ⟨#[]⟩)
   obtain ⟨q,q1,q2,q3,q4⟩:=hp (S (R.getD x ⟨#[]⟩)) h4 _ 0 rfl (by omega) out hs (by omega)
   obtain ⟨fl,f1,f2,f3,f4⟩:=ih (x+1) (by omega) (by omega) q q2 (by omega)
   refine ⟨fl,?_,f2,f3,fun s=>?_⟩
   ·refine El.step (fun _ _=>by rw [r10_Peers.l0]) ?_
    rw [Int.toNat_natCast,rp_inc (show x≤1000000 by omega)]
    refine El.ct (decide_eq_true (by omega)) (El.bind (El.grd ⟨by omega,by omega⟩ (El.bind h2.el q1.diag.el)) f1)
   ·rw [f4,q4,drop_at hx2,List.drop_zero]
    simp only [List.mem_cons,exists_eq_or_imp]
    exact or_assoc
 obtain ⟨r,r1,r2,r3,r4⟩:=hq _ 0 rfl (by omega) [] List.Pairwise.nil (by simp)
 have e:cmpctS (srtS fl)=r:=srtT_ext (cmpctS_srt (srtS_srt _)) r2 fun x=>by rw [cmpctS_mem,srtS_mem,f3,r4]
 refine ⟨r,?_,?_,by omega,fun s=>by rw [r4]; simp⟩
 ·have hro':=vroomsof_ev hr hl hd u
  rw [hro] at hro'
  unfold view_View_Peers.f
  refine Ev.bind (Ev.bind hro' f1.diag) (Ev.bind (a:=srtS fl) (Ev.grd (by show fl.length<_; omega) Ev.pure) (Ev.bind (a:=r) (Ev.grd (by rw [srtS_len]; omega) (Ev.of (by rw [e]))) Ev.pure))
 ·have hro':=rroomsof_ev hr hl hd u
  rw [hro] at hro'
  unfold r10_Peers.f
  exact Ev.bind hro' (Ev.bind r1.diag Ev.pure)
theorem peers_both (u:ByteArray):∃ r,Ev (fun k=>view_View_Peers.f k v u) r∧Ev (fun k=>r10_Peers.f k w u) r∧r.length≤100000:=by
 obtain ⟨r,h1,h2,h3,_⟩:=peers_all hr hl hd u
 exact ⟨r,h1,h2,h3⟩
theorem home_srv {u room:ByteArray} (hj:jb w u room=true) (hh:homeB u≠⟨#[]⟩):∃ T,Ev (fun k=>view_View_Servers.f k v room) T∧homeB u∈T:=by
 obtain ⟨m,m1,m2,_⟩:=relV_of hr room
 obtain ⟨us,u1,u2,u3,u4,u5,u6⟩:=users_both (rg_of m2 (hd room)) m2.tab (room:=room)
 obtain ⟨r,r1,r2,r3,r4,r5⟩:=homes_both u5 (by omega)
 refine ⟨r,?_,(r5 _).2 ?_⟩
 ·unfold view_View_Servers.f member_Servers.f; exact Ev.bind (Ev.of m1) (Ev.bind (Ev.bind u1 (Ev.bind r1 Ev.pure)) Ev.pure)
 ·unfold homesL
  exact List.mem_filter.2 ⟨List.mem_map.2 ⟨u,(u6 u).2 hj,rfl⟩,by simpa using hh⟩
end
end Go.Proofs.YtmmaijneehmbgaaGreat
