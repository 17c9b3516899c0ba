import Derived.Test.YtmmaijneehmbgaaGreatZEL
import Derived.Test.YtmmaijneehmbgaaGreatZPC
import Derived.Test.YtmmaijneehmbgaaGreatConB1
set_option linter.all false
set_option maxRecDepth 10000
namespace Go.Proofs.YtmmaijneehmbgaaGreat
open Go Go.Sp
def keyE (e:Edu):EKey:=⟨e.fKind,e.fRoom,e.fUser,e.fThread,e.fPrivate⟩
def zE:Edu:=⟨0,⟨#[]⟩,⟨#[]⟩,⟨#[]⟩,⟨#[]⟩,false,false,0,0,0,0⟩
structure OkP (e:Edu):Prop where
 sm:Sm e
 may:mayL e=true
theorem Sm.zz {e:Edu} (h:Sm e):Zz e:=by
 have a:=h.room; have b:=h.user; have c:=h.event; have d:=h.thread
 have m:128≤maxLen:=by decide
 exact ⟨by omega,by omega,by omega,by omega⟩
theorem OkP.zz {e:Edu} (h:OkP e):Zz e:=h.sm.zz
structure RelQ (q:SQue) (r:RQue):Prop where
 most:q.fmost=r.fMost
 keys:q.fkeys=r.fL.map keyE
 nd:(r.fL.map keyE).Nodup
 mnd:Nd q.fat
 got:∀ e∈r.fL,mget q.fat (keyE e)=some e
 lost:q.flost=r.fLost
 len:(r.fL.length:Int)≤r.fMost
 m120:1≤r.fMost∧r.fMost≤120
 ok:∀ e∈r.fL,OkP e
 non:∀ k,k ∉ r.fL.map keyE→mget q.fat k=none
theorem relQ_new {m:Int} (h:1≤m∧m≤120):RelQ ⟨m,[],[],0⟩ ⟨m,[],0⟩:=⟨rfl,rfl,List.nodup_nil,nd_nil,fun e h=>(by cases h),rfl,by show (0:Int)≤m; omega,h,fun e h=>(by cases h),fun _ _=>rfl⟩
theorem RelQ.short {q:SQue} {r:RQue} (h:RelQ q r):r.fL.length≤120:=by have:=h.len; have:=h.m120; omega
theorem of_ev' (e:Edu):edu_Of.f e=some (keyE e):=rfl
theorem dropQ_ev (q:SQue) (k:EKey) (hl:q.fkeys.length≤100000):Ev (fun n=>queue_Queue_drop.f n q k) ⟨q.fmost,q.fkeys.filter (fun x=>!decide (x=k)),mdel q.fat k,q.flost⟩:=by
 have pr:∀ x∈q.fkeys,Ev (fun _=>queue_Queue_drop_1.f x k) (decide (x=k)):=fun x _=>Ev.of rfl
 have hI:Ev (fun n=>slices_IndexFunc_Key_xw.f n q.fkeys (fun e=>queue_Queue_drop_1.f e k)) (fidx (fun x=>decide (x=k)) q.fkeys):=by
  unfold slices_IndexFunc_Key_xw.f
  exact idxG (F:=fun n j x=>slices_IndexFunc_Key_xw.l0 n q.fkeys (fun e=>queue_Queue_drop_1.f e k) j x) (d:=default) hl pr fun _ _ _=>rfl
 have h:=delG (F:=fun n j i m l=>slices_DeleteFunc_Key_xo.l0 n (fun e=>queue_Queue_drop_1.f e k) j i m l) (d:=default) (z0:=(⟨0,(⟨#[]⟩:ByteArray),(⟨#[]⟩:ByteArray),(⟨#[]⟩:ByteArray),false⟩:EKey)) hl pr hI fun _ _ _ _ _=>rfl
 unfold queue_Queue_drop.f
 exact Ev.bind h Ev.pure
theorem map_filter (k:EKey):∀ l:List Edu,(l.map keyE).filter (fun x=>!decide (x=k))=(l.filter fun e=>!decide (keyE e=k)).map keyE
 | []=>rfl
 | e::l=>by
  rw [List.map_cons,List.filter_cons,List.filter_cons,map_filter k l]
  split <;> rfl
theorem RelQ.drop {q:SQue} {r:RQue} (h:RelQ q r) (k:EKey):RelQ ⟨q.fmost,q.fkeys.filter (fun x=>!decide (x=k)),mdel q.fat k,q.flost⟩ ⟨r.fMost,r.fL.filter (fun e=>!decide (keyE e=k)),r.fLost⟩:=by
 have hs:(r.fL.filter (fun e=>!decide (keyE e=k))).Sublist r.fL:=List.filter_sublist ..
 refine ⟨h.most,by show q.fkeys.filter _=_; rw [h.keys,map_filter],(hs.map _).nodup h.nd,nd_del h.mnd,fun e he=>?_,h.lost,?_,h.m120,fun e he=>h.ok e (hs.subset he),fun k' hk'=>?_⟩
 ·obtain ⟨h1,h2⟩:=List.mem_filter.1 he
  have hne:¬ k=keyE e:=fun e'=>by simp [e'] at h2
  show mget (mdel q.fat k) (keyE e)=some e
  rw [mget_del h.mnd,if_neg hne]
  exact h.got e h1
 ·have:=hs.length_le
  have:=h.len
  show ((r.fL.filter _).length:Int)≤r.fMost
  omega
 ·show mget (mdel q.fat k) k'=none
  rw [mget_del h.mnd]
  by_cases e:k=k'
  ·rw [if_pos e]
  ·rw [if_neg e]
   refine h.non k' fun hm=>hk' ?_
   obtain ⟨x,hx,rfl⟩:=List.mem_map.1 hm
   exact List.mem_map.2 ⟨x,List.mem_filter.2 ⟨hx,by simpa using fun e'=>e e'.symm⟩,rfl⟩
theorem all_evQ {q:SQue} {r:RQue} (h:RelQ q r):Ev (fun k=>queue_Queue_All.f k q) r.fL:=by
 have hs:=h.short
 have hlen:q.fkeys.length=r.fL.length:=by rw [h.keys,List.length_map]
 have key:∀ n x:Nat,r.fL.length-x=n→x≤r.fL.length→El (fun k j=>queue_Queue_All.l0 k q j (x:Int) (r.fL.take x)) ((r.fL.length:Int),false,r.fL):=by
  intro n
  induction n with
  | zero=>
   intro x hn hx
   obtain rfl:x=r.fL.length:=by omega
   refine El.step (fun _ _=>by rw [queue_Queue_All.l0]) ?_
   rw [List.take_length,hlen]
   exact El.cf (by simp) (by simpa using El.pure)
  | succ n ih=>
   intro x hn hx
   have hx2:x<r.fL.length:=by omega
   have hk:q.fkeys.getD x default=keyE (r.fL.getD x default):=by
    rw [h.keys,List.getD_eq_getElem?_getD,List.getD_eq_getElem?_getD,List.getElem?_map,List.getElem?_eq_getElem hx2]; rfl
   have hg:=h.got (r.fL.getD x default) (getD_mem hx2)
   have ht:r.fL.take (x+1)=r.fL.take x++[r.fL.getD x default]:=by
    rw [List.take_succ_eq_append_getElem hx2,List.getD_eq_getElem?_getD,List.getElem?_eq_getElem hx2]; rfl
   have hi:=ih (x+1) (by omega) (by omega)
   rw [ht] at hi
   refine El.step (fun _ _=>by rw [queue_Queue_All.l0]) ?_
   rw [inc1 (show x≤1000000 by omega),Int.toNat_natCast,hk,hg,hlen]
   exact El.ct (decide_eq_true (by omega)) (El.grd ⟨by omega,by omega⟩ (El.grd ⟨by rw [List.length_take,List.length_singleton]; omega,by rw [List.length_take,List.length_singleton]; omega⟩ hi))
 unfold queue_Queue_All.f
 exact Ev.bind (key _ 0 rfl (by omega)).diag Ev.pure
def putQ (r:RQue) (e:Edu):RQue×Edu×Bool×Int:=
 if mayL e=false then (r,zE,false,1)
 else if (r.fL.any fun o=>decide (keyE o=keyE e)&&decide (cmpE e o≤0))=true then (r,zE,false,0)
 else if r.fMost<(((r.fL.filter fun o=>!decide (keyE o=keyE e))++[e]).length:Int) then (⟨r.fMost,((r.fL.filter fun o=>!decide (keyE o=keyE e))++[e]).drop 1,w64 (r.fLost+1)⟩,((r.fL.filter fun o=>!decide (keyE o=keyE e))++[e]).getD 0 default,true,0)
 else (⟨r.fMost,(r.fL.filter fun o=>!decide (keyE o=keyE e))++[e],r.fLost⟩,zE,false,0)
theorem same_ev (a b:Edu):r03_Same.f a b=some (decide (keyE a=keyE b)):=by
 unfold r03_Same.f keyE
 have h:decide ((⟨a.fKind,a.fRoom,a.fUser,a.fThread,a.fPrivate⟩:EKey)=⟨b.fKind,b.fRoom,b.fUser,b.fThread,b.fPrivate⟩)=((a.fKind==b.fKind)&&(decide (a.fRoom=b.fRoom)&&(decide (a.fUser=b.fUser)&&(decide (a.fThread=b.fThread)&&(a.fPrivate==b.fPrivate))))):=by
  rw [Bool.eq_iff_iff]; simp
 rw [h]
 cases (a.fKind==b.fKind) <;> cases decide (a.fRoom=b.fRoom) <;> cases decide (a.fUser=b.fUser) <;> cases decide (a.fThread=b.fThread) <;> rfl
theorem key_inj {L:List Edu} (hn:(L.map keyE).Nodup) {a b:Edu} (ha:a∈L) (hb:b∈L) (h:keyE a=keyE b):a=b:=by
 induction L with
 | nil=>cases ha
 | cons x L ih=>
  rw [List.map_cons,List.nodup_cons] at hn
  rcases List.mem_cons.1 ha with ha1 | ha1
  ·rcases List.mem_cons.1 hb with hb1 | hb1
   ·rw [ha1,hb1]
   ·rw [ha1] at h
    exact absurd (List.mem_map.2 ⟨b,hb1,h.symm⟩) hn.1
  ·rcases List.mem_cons.1 hb with hb1 | hb1
   ·rw [hb1] at h
    exact absurd (List.mem_map.2 ⟨a,ha1,h⟩) hn.1
   ·exact ih hn.2 ha1 hb1
theorem at_evQ (L:List Edu) (e:Edu) (hl:L.length≤100000):Ev (fun k=>r17_At.f k L e) (fidx (fun o=>decide (keyE o=keyE e)) L):=by
 unfold r17_At.f
 refine idxG (F:=fun k j x=>r17_At.l0 k L e j x) (p:=fun _ o=>r03_Same.f o e) (d:=default) hl (fun x _=>Ev.of (same_ev x e)) fun _ _ _=>rfl
theorem filter_none {k:EKey} {l:List Edu} (h:∀ a∈l,decide (keyE a=k)=false):(l.filter fun o=>!decide (keyE o=k))=l:=List.filter_eq_self.2 fun a ha=>by rw [h a ha]; rfl
theorem refPut_ev {q:SQue} {r:RQue} (h:RelQ q r) {e:Edu} (he:Sm e):Ev (fun k=>r17_Put.f k r e) (putQ r e):=by
 have hs:=h.short
 have hm:=(may_ev he.zz).2
 unfold r17_Put.f putQ
 cases hmay:mayL e with
 | false=>rw [hmay] at hm; rw [if_pos rfl]; exact Ev.bind hm (Ev.ct rfl Ev.pure)
 | true=>
  rw [hmay] at hm
  rw [if_neg (by decide)]
  refine Ev.bind hm (Ev.cf rfl ?_)
  have hat:=at_evQ r.fL e (by omega)
  have fin:∀ l:List Edu,l.length≤200→Ev (fun k=>grd (l.length+([e]:List Edu).length≤9223372036854775807∧(l.length+([e]:List Edu).length)*112≤140737488355328) (cond (decide (r.fMost<((l++([e]:List Edu)).length:Int))) (grd ((0:Int)≤1∧(1:Int).toNat≤(l++([e]:List Edu)).length∧(l++([e]:List Edu)).length≤(l++([e]:List Edu)).length) (grd ((0:Int)≤0∧0<((l++([e]:List Edu)).length:Int)) (some ((⟨r.fMost,((l++([e]:List Edu)).take ((l++([e]:List Edu)).length)).drop ((1:Int).toNat),w64 (r.fLost+1)⟩:RQue),Edu.K.at (l++([e]:List Edu)) 0,true,(0:Int))))) (some ((⟨r.fMost,l++([e]:List Edu),r.fLost⟩:RQue),zE,false,0))))
    (if r.fMost<((l++[e]).length:Int) then (⟨r.fMost,(l++[e]).drop 1,w64 (r.fLost+1)⟩,(l++[e]).getD 0 default,true,(0:Int)) else (⟨r.fMost,l++[e],r.fLost⟩,zE,false,0)):=fun l hl=>by
   have hp:0<(l++[e]).length:=by rw [List.length_append,List.length_singleton]; omega
   refine Ev.grd ⟨by rw [List.length_singleton]; omega,by rw [List.length_singleton]; omega⟩ ?_
   by_cases hc:r.fMost<((l++[e]).length:Int)
   ·rw [if_pos hc]
    exact Ev.ct (decide_eq_true hc) (Ev.grd ⟨by decide,hp,Nat.le_refl _⟩ (Ev.grd ⟨Int.le_refl 0,by omega⟩ (Ev.of (by rw [List.take_length]; rfl))))
   ·rw [if_neg hc]
    exact Ev.cf (decide_eq_false hc) Ev.pure
  rcases fidx_cases (fun o=>decide (keyE o=keyE e)) r.fL with ⟨A,o,D,h1,h2,h3,h4⟩ | ⟨h1,h2⟩
  ·have ho:o∈r.fL:=by rw [h1]; simp
   have hko:keyE o=keyE e:=by simpa using h3
   have hlen:r.fL.length=A.length+D.length+1:=by rw [h1,List.length_append,List.length_cons]; omega
   have hget:Edu.K.at r.fL (A.length:Int)=o:=by rw [at_nat,h1]; exact getD_midG _ _ _ _
   have hcmp:=refcmp_ev he (h.ok o ho).sm
   have hany:(r.fL.any fun o=>decide (keyE o=keyE e)&&decide (cmpE e o≤0))=decide (cmpE e o≤0):=by
    rw [Bool.eq_iff_iff]
    simp only [List.any_eq_true,Bool.and_eq_true,decide_eq_true_eq]
    constructor
    ·rintro ⟨x,hx,hxe,hxc⟩
     rw [key_inj h.nd ho hx (hko.trans hxe.symm)]; exact hxc
    ·exact fun hh=>⟨o,ho,hko,hh⟩
   have hfil:(r.fL.filter fun o=>!decide (keyE o=keyE e))=A++D:=by
    have hD:∀ a∈D,decide (keyE a=keyE e)=false:=fun a ha=>by
     have hnd:=h.nd
     rw [h1,List.map_append,List.map_cons] at hnd
     have:=(List.nodup_append.1 hnd).2.1
     rw [List.nodup_cons] at this
     rw [decide_eq_false_iff_not]
     intro hh
     exact this.1 (List.mem_map.2 ⟨a,ha,hh.trans hko.symm⟩)
    rw [h1,List.filter_append,List.filter_cons,h3,filter_none h2,filter_none hD]; rfl
   rw [h4] at hat
   rw [hany,hfil]
   refine Ev.bind hat (Ev.bind (a:=if cmpE e o≤0 then .inr (r,zE,false,0) else .inl (A++D)) ?_ ?_)
   ·refine Ev.ct (decide_eq_true (by omega)) (Ev.grd ⟨by omega,by omega⟩ (Ev.bind (a:=cmpE e o) (by rw [hget]; exact hcmp) ?_))
    by_cases hc:cmpE e o≤0
    ·rw [if_pos hc]; exact Ev.ct (decide_eq_true hc) Ev.pure
    ·rw [if_neg hc]
     have hw:w64 ((A.length:Int)+1)=((A.length+1:Nat):Int):=inc1 (by omega)
     refine Ev.cf (decide_eq_false hc) ?_
     rw [hw,Int.toNat_natCast,Int.toNat_natCast,List.take_length,List.drop_zero,h1,List.take_left,show A.length+1=(A++[o]).length by simp,show A++o::D=(A++[o])++D by simp,List.drop_left,List.nil_append]
     refine Ev.grd ⟨by omega,by omega,by simp⟩ (Ev.grd ⟨?_,?_⟩ (Ev.grd ⟨by omega,by simp,Nat.le_refl _⟩ (Ev.grd ⟨?_,?_⟩ Ev.pure)))
     ·simp only [List.length_nil]; omega
     ·simp only [List.length_nil]; omega
     ·omega
     ·omega
   ·by_cases hc:cmpE e o≤0
    ·rw [if_pos hc,if_pos (decide_eq_true hc)]; exact Ev.of rfl
    ·rw [if_neg hc,if_neg (by simpa using hc)]
     simp only [fall]
     exact fin (A++D) (by rw [List.length_append]; omega)
  ·have hany:(r.fL.any fun o=>decide (keyE o=keyE e)&&decide (cmpE e o≤0))=false:=List.any_eq_false.2 fun a ha=>by rw [h1 a ha]; simp
   rw [h2] at hat
   rw [hany,filter_none h1,if_neg (by decide)]
   refine Ev.bind hat (Ev.bind (a:=.inl r.fL) (Ev.cf rfl (Ev.grd ⟨by simp only [List.length_nil]; omega,by simp only [List.length_nil]; omega⟩ Ev.pure)) ?_)
   simp only [fall]
   exact fin r.fL (by omega)
theorem keyE_default (l:List Edu) (e:Edu):((l.map keyE)++[keyE e]).getD 0 default=keyE ((l++[e]).getD 0 default):=by
 cases l with
 | nil=>rfl
 | cons x l=>rfl
theorem put_bothQ {q:SQue} {r:RQue} (h:RelQ q r) {e:Edu} (he:Sm e) (hlost:0≤r.fLost∧r.fLost≤1000000000):∃ q',Ev (fun k=>queue_Queue_Put.f k q e) ((putQ r e).2.1,(putQ r e).2.2.1,(putQ r e).2.2.2,q')∧RelQ q' (putQ r e).1:=by
 have hs:=h.short
 have hm:=(may_ev he.zz).1
 have hkl:q.fkeys.length=r.fL.length:=by rw [h.keys,List.length_map]
 unfold queue_Queue_Put.f putQ
 cases hmay:mayL e with
 | false=>rw [hmay] at hm; rw [if_pos rfl]; exact ⟨q,Ev.bind hm (Ev.ct rfl Ev.pure),h⟩
 | true=>
  rw [hmay] at hm
  rw [if_neg (by decide)]
  have hd:=dropQ_ev q (keyE e) (by omega)
  have hr:=h.drop (keyE e)
  generalize hM:(r.fL.filter fun o=>!decide (keyE o=keyE e))=M at hr
  have hMl:M.length≤r.fL.length:=by rw [← hM]; exact List.length_filter_le _ _
  have hkn:keyE e ∉ M.map keyE:=fun hh=>by
   obtain ⟨x,hx,hxe⟩:=List.mem_map.1 hh
   rw [← hM] at hx
   have:=(List.mem_filter.1 hx).2
   simp [hxe] at this
  have hkM:q.fkeys.filter (fun x=>!decide (x=keyE e))=M.map keyE:=hr.keys
  rw [hkM] at hd hr
  have hok:∀ x∈M++[e],OkP x:=fun x hx=>by
   rcases List.mem_append.1 hx with hx | hx
   ·exact hr.ok x hx
   ·rw [List.mem_singleton.1 hx]; exact ⟨he,hmay⟩
  have hndM:((M++[e]).map keyE).Nodup:=by
   rw [List.map_append,List.nodup_append]
   refine ⟨hr.nd,by simp,fun a ha b hb=>?_⟩
   simp at hb; subst hb
   exact fun e'=>hkn (e' ▸ ha)
  have hgot:∀ x∈M++[e],mget (mput (mdel q.fat (keyE e)) (keyE e) e) (keyE x)=some x:=fun x hx=>by
   rw [mget_put]
   rcases List.mem_append.1 hx with hx | hx
   ·rw [if_neg (fun e'=>hkn (by rw [e']; exact List.mem_map.2 ⟨x,hx,rfl⟩))]
    exact hr.got x hx
   ·rw [List.mem_singleton.1 hx,if_pos rfl]
  have hnon:∀ k,k ∉ (M++[e]).map keyE→mget (mput (mdel q.fat (keyE e)) (keyE e) e) k=none:=fun k hk=>by
   rw [List.map_append,List.mem_append] at hk
   rw [mget_put,if_neg (fun e'=>hk (.inr (by rw [← e']; simp)))]
   exact hr.non k fun hh=>hk (.inl hh)
  have big:∃ q',Ev (fun n=>(queue_Queue_drop.f n q (keyE e)).bind fun t688=>grd (t688.fkeys.length+([keyE e]:List EKey).length≤9223372036854775807∧(t688.fkeys.length+([keyE e]:List EKey).length)*64≤140737488355328) (cond (decide (((t688.fkeys++([keyE e]:List EKey)).length:Int)≤t688.fmost)) (some (zE,false,(0:Int),(⟨t688.fmost,t688.fkeys++([keyE e]:List EKey),mput t688.fat (keyE e) e,t688.flost⟩:SQue))) (grd ((0:Int)≤0∧0<((t688.fkeys++([keyE e]:List EKey)).length:Int)) (grd ((0:Int)≤0∧0<((t688.fkeys++([keyE e]:List EKey)).length:Int)) ((queue_Queue_drop.f n (⟨t688.fmost,t688.fkeys++([keyE e]:List EKey),mput t688.fat (keyE e) e,t688.flost⟩:SQue) ((t688.fkeys++([keyE e]:List EKey)).getD ((0:Int).toNat) default)).bind fun t700=>some ((mget (mput t688.fat (keyE e) e) ((t688.fkeys++([keyE e]:List EKey)).getD ((0:Int).toNat) default)).getD zE,true,(0:Int),(⟨t700.fmost,t700.fkeys,t700.fat,w64 (t700.flost+1)⟩:SQue)))))))
    ((if r.fMost<((M++[e]).length:Int) then (⟨r.fMost,(M++[e]).drop 1,w64 (r.fLost+1)⟩,(M++[e]).getD 0 default,true,(0:Int)) else ((⟨r.fMost,M++[e],r.fLost⟩:RQue),zE,false,(0:Int))).2.1,(if r.fMost<((M++[e]).length:Int) then (⟨r.fMost,(M++[e]).drop 1,w64 (r.fLost+1)⟩,(M++[e]).getD 0 default,true,(0:Int)) else ((⟨r.fMost,M++[e],r.fLost⟩:RQue),zE,false,(0:Int))).2.2.1,(if r.fMost<((M++[e]).length:Int) then (⟨r.fMost,(M++[e]).drop 1,w64 (r.fLost+1)⟩,(M++[e]).getD 0 default,true,(0:Int)) else ((⟨r.fMost,M++[e],r.fLost⟩:RQue),zE,false,(0:Int))).2.2.2,q')∧
    RelQ q' (if r.fMost<((M++[e]).length:Int) then (⟨r.fMost,(M++[e]).drop 1,w64 (r.fLost+1)⟩,(M++[e]).getD 0 default,true,(0:Int)) else ((⟨r.fMost,M++[e],r.fLost⟩:RQue),zE,false,(0:Int))).1:=by
   have hm1:=h.most
   have hl2:((M.map keyE++[keyE e]).length:Int)=((M++[e]).length:Int):=by simp
   by_cases hc:r.fMost<((M++[e]).length:Int)
   ·
    simp only [if_pos hc]
    have hpos:0<(M++[e]).length:=by simp
    obtain ⟨f,N,hf⟩:∃ f N,M++[e]=f::N:=by
     cases hMe:M++[e] with
     | nil=>rw [hMe] at hpos; simp at hpos
     | cons f N=>exact ⟨f,N,rfl⟩
    have hkf:(M.map keyE++[keyE e]).getD ((0:Int).toNat) default=keyE f:=by
     rw [show ((0:Int).toNat)=0 from rfl,keyE_default,hf]; rfl
    have hd2:=dropQ_ev ⟨q.fmost,M.map keyE++[keyE e],mput (mdel q.fat (keyE e)) (keyE e) e,q.flost⟩ (keyE f) (by simp; omega)
    have hfn:keyE f ∉ N.map keyE:=by rw [hf,List.map_cons,List.nodup_cons] at hndM; exact hndM.1
    have hNk:((M.map keyE++[keyE e]).filter fun x=>!decide (x=keyE f))=N.map keyE:=by
     have:M.map keyE++[keyE e]=keyE f::N.map keyE:=by rw [← List.map_singleton,← List.map_append,hf]; rfl
     rw [this,List.filter_cons,decide_eq_true rfl]
     refine List.filter_eq_self.2 fun a ha=>?_
     have hne:¬ a=keyE f:=fun e'=>hfn (by rw [← e']; exact ha)
     rw [decide_eq_false hne]; rfl
    have hgf:(mget (mput (mdel q.fat (keyE e)) (keyE e) e) (keyE f)).getD zE=f:=by rw [hgot f (by rw [hf]; simp)]; rfl
    refine ⟨⟨q.fmost,N.map keyE,mdel (mput (mdel q.fat (keyE e)) (keyE e) e) (keyE f),w64 (q.flost+1)⟩,?_,?_⟩
    ·refine Ev.bind hd (Ev.grd ⟨by simp; omega,by simp; omega⟩ (Ev.cf (decide_eq_false (by show ¬ (((M.map keyE++[keyE e]).length:Int)≤q.fmost); rw [hl2,hm1]; omega)) (Ev.grd ⟨Int.le_refl 0,by simp⟩ (Ev.grd ⟨Int.le_refl 0,by simp⟩ ?_))))
     rw [hkf,hgf]
     have hfe:(M++[e]).getD 0 default=f:=by rw [hf]; rfl
     rw [hfe]
     refine Ev.bind hd2 (Ev.of ?_)
     rw [hNk]
    ·have hN:(M++[e]).drop 1=N:=by rw [hf]; rfl
     show RelQ _ ⟨r.fMost,(M++[e]).drop 1,w64 (r.fLost+1)⟩
     rw [hN]
     refine ⟨hm1,rfl,?_,nd_del (nd_put (nd_del h.mnd)),fun x hx=>?_,by show w64 (q.flost+1)=_; rw [h.lost],?_,h.m120,fun x hx=>hok x (by rw [hf]; exact List.mem_cons_of_mem _ hx),fun k hk=>?_⟩
     ·rw [hf,List.map_cons,List.nodup_cons] at hndM; exact hndM.2
     ·show mget (mdel _ (keyE f)) (keyE x)=some x
      rw [mget_del (nd_put (nd_del h.mnd)),if_neg (fun e'=>hfn (by rw [e']; exact List.mem_map.2 ⟨x,hx,rfl⟩))]
      exact hgot x (by rw [hf]; exact List.mem_cons_of_mem _ hx)
     ·have h5:(M++[e]).length=N.length+1:=by rw [hf]; rfl
      have h6:=h.len
      rw [List.length_append,List.length_singleton] at h5
      show (N.length:Int)≤r.fMost
      omega
     ·show mget (mdel _ (keyE f)) k=none
      rw [mget_del (nd_put (nd_del h.mnd))]
      by_cases e':keyE f=k
      ·rw [if_pos e']
      ·rw [if_neg e']
       refine hnon k (fun h7=>?_)
       rw [hf,List.map_cons,List.mem_cons] at h7
       rcases h7 with h7 | h7
       ·exact e' h7.symm
       ·exact hk h7
   ·simp only [if_neg hc]
    refine ⟨⟨q.fmost,M.map keyE++[keyE e],mput (mdel q.fat (keyE e)) (keyE e) e,q.flost⟩,?_,?_⟩
    ·exact Ev.bind hd (Ev.grd ⟨by simp; omega,by simp; omega⟩ (Ev.ct (decide_eq_true (by show (((M.map keyE++[keyE e]).length:Int)≤q.fmost); rw [hl2,hm1]; omega)) Ev.pure))
    ·refine ⟨hm1,by show _=(M++[e]).map keyE; simp,hndM,nd_put (nd_del h.mnd),hgot,h.lost,?_,h.m120,hok,hnon⟩
     show ((M++[e]).length:Int)≤r.fMost
     omega
  refine (?_:∃ q',Ev _ _∧_)
  cases hg:mget q.fat (keyE e) with
  | none=>
   have hne:∀ o∈r.fL,¬ keyE o=keyE e:=fun o ho hh=>by have:=h.got o ho; rw [hh,hg] at this; cases this
   have hany:(r.fL.any fun o=>decide (keyE o=keyE e)&&decide (cmpE e o≤0))=false:=List.any_eq_false.2 fun a ha=>by simp [hne a ha]
   rw [hany,if_neg (by decide)]
   obtain ⟨q',b1,b2⟩:=big
   exact ⟨q',Ev.bind hm (Ev.cf rfl (Ev.bind (Ev.of (of_ev' e)) (by rw [hg]; exact Ev.cf rfl b1))),b2⟩
  | some o=>
   have ho:o∈r.fL∧keyE o=keyE e:=by
    have hmem:keyE e∈r.fL.map keyE:=Classical.byContradiction fun hh=>by rw [h.non _ hh] at hg; cases hg
    obtain ⟨x,hx,hxe⟩:=List.mem_map.1 hmem
    have:=h.got x hx
    rw [hxe,hg] at this
    cases this
    exact ⟨hx,hxe⟩
   have hany:(r.fL.any fun o=>decide (keyE o=keyE e)&&decide (cmpE e o≤0))=decide (cmpE e o≤0):=by
    rw [Bool.eq_iff_iff]
    simp only [List.any_eq_true,Bool.and_eq_true,decide_eq_true_eq]
    constructor
    ·rintro ⟨x,hx,hxe,hxc⟩
     rw [key_inj h.nd ho.1 hx (ho.2.trans hxe.symm)]; exact hxc
    ·exact fun hh=>⟨o,ho.1,ho.2,hh⟩
   have hlat:Ev (fun k=>edu_Later.f k e o) (decide (0<cmpE e o)):=by
    unfold edu_Later.f
    exact Ev.bind (Ev.of (of_ev' e)) (Ev.bind (Ev.of (of_ev' o)) (Ev.ct (decide_eq_true ho.2.symm) (Ev.bind (cmp_ev he (h.ok o ho.1).sm) Ev.pure)))
   rw [hany]
   by_cases hc:cmpE e o≤0
   ·rw [if_pos (decide_eq_true hc)]
    have hf:decide (0<cmpE e o)=false:=decide_eq_false (by omega)
    rw [hf] at hlat
    exact ⟨q,Ev.bind hm (Ev.cf rfl (Ev.bind (Ev.of (of_ev' e)) (by rw [hg]; exact Ev.ct rfl (Ev.bind hlat (Ev.ct rfl Ev.pure))))),h⟩
   ·rw [if_neg (by simpa using hc)]
    have hf:decide (0<cmpE e o)=true:=decide_eq_true (by omega)
    rw [hf] at hlat
    obtain ⟨q',b1,b2⟩:=big
    exact ⟨q',Ev.bind hm (Ev.cf rfl (Ev.bind (Ev.of (of_ev' e)) (by rw [hg]; exact Ev.ct rfl (Ev.bind hlat (Ev.cf rfl b1))))),b2⟩
end Go.Proofs.YtmmaijneehmbgaaGreat
