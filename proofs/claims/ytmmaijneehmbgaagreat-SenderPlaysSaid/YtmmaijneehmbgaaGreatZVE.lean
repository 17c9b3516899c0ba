import Derived.Test.YtmmaijneehmbgaaGreatZWD
import Derived.Test.YtmmaijneehmbgaaGreatZRP
set_option linter.all false
set_option maxRecDepth 10000
namespace Go.Proofs.YtmmaijneehmbgaaGreat
open Go Go.Sp
def ofR (w:RView) (room:ByteArray):RDag:=(w.fD.find? fun d=>decide (d.fRoom=room)).getD ⟨room,[]⟩
theorem ofR_room (w:RView) (room:ByteArray):(ofR w room).fRoom=room:=by
 unfold ofR
 cases h:w.fD.find? fun d=>decide (d.fRoom=room) with
 | none=>rfl
 | some d=>simpa using List.find?_some h
theorem of_ev {w:RView} {room:ByteArray} (hl:w.fD.length≤100000):Ev (fun k=>r10_Of.f k w room) (ofR w room):=by
 unfold r10_Of.f
 have key:∀ n x:Nat,w.fD.length-x=n→x≤w.fD.length→∃ r:(Int×Bool) ⊕ RDag,El (fun k j=>r10_Of.l0 k w room j (x:Int)) r∧fall (fun (p555:Int×Bool)=>some (⟨room,([]:List Event)⟩:RDag)) r=some (((w.fD.drop x).find? fun d=>decide (d.fRoom=room)).getD ⟨room,[]⟩):=by
  intro n
  induction n with
  | zero=>
   intro x hd hx
   obtain rfl:x=w.fD.length:=by omega
   refine ⟨.inl ((w.fD.length:Int),false),?_,by simp [fall]⟩
   refine El.step (fun _ _=>by rw [r10_Of.l0]) ?_
   exact El.cf (by simp) (by simpa using El.pure)
  | succ n ih=>
   intro x hd hx
   have hx2:x<w.fD.length:=by omega
   have e1:RDag.K.at w.fD (x:Int)=w.fD[x]:=by rw [kat _ _ default hx2,List.getD_eq_getElem?_getD,List.getElem?_eq_getElem hx2]; rfl
   rw [List.drop_eq_getElem_cons hx2,List.find?_cons]
   cases hq:decide (w.fD[x].fRoom=room) with
   | true=>
    refine ⟨.inr w.fD[x],?_,rfl⟩
    refine El.step (fun _ _=>by rw [r10_Of.l0]) ?_
    rw [e1]
    exact El.ct (by simpa using hx2) (El.grd ⟨by omega,by omega⟩ (El.ct hq (El.grd ⟨by omega,by omega⟩ El.pure)))
   | false=>
    obtain ⟨r,h1,h2⟩:=ih (x+1) (by omega) (by omega)
    refine ⟨r,?_,h2⟩
    refine El.step (fun _ _=>by rw [r10_Of.l0]) ?_
    rw [e1,w64_id (x:=(x:Int)+1) (by omega) (by omega)]
    exact El.ct (by simpa using hx2) (El.grd ⟨by omega,by omega⟩ (El.cf hq h1))
 obtain ⟨r,h1,h2⟩:=key _ 0 rfl (by omega)
 exact Ev.bind h1.diag (Ev.of h2)
structure RelV (v:VView) (w:RView):Prop where
 got:∀ d∈w.fD,∃ m,mget v.fdags d.fRoom=some m∧RelT m d
 non:∀ room,(∀ d∈w.fD,d.fRoom≠room)→mget v.fdags room=none
 nd:(w.fD.map (·.fRoom)).Nodup
 ndv:Nd v.fdags
 srt:SrtT (w.fD.map (·.fRoom))
 ne:∀ d∈w.fD,d.fL≠[]
theorem relV_new:RelV ⟨[]⟩ ⟨[]⟩:=⟨fun d h=>(by cases h),fun _ _=>rfl,List.nodup_nil,nd_nil,List.Pairwise.nil,fun d h=>(by cases h)⟩
theorem relV_of {v:VView} {w:RView} (hr:RelV v w) (room:ByteArray):∃ m,view_View_room.f v room=some m∧RelT m (ofR w room)∧(∀ x,mget v.fdags room=some x→x=m):=by
 unfold view_View_room.f ofR
 cases h:w.fD.find? fun d=>decide (d.fRoom=room) with
 | none=>
  have h1:mget v.fdags room=none:=hr.non room fun d hd=>by simpa using List.find?_eq_none.1 h d hd
  rw [h1]
  exact ⟨_,rfl,relT_new room,fun x hx=>by cases hx⟩
 | some d=>
  obtain ⟨m,h1,h2⟩:=hr.got d (List.mem_of_find?_eq_some h)
  have h3:d.fRoom=room:=by simpa using List.find?_some h
  rw [h3] at h1
  rw [h1]
  exact ⟨m,rfl,h2,fun x hx=>(Option.some.inj hx).symm⟩
theorem put_loop {w:RView} {e:Event} {t:RDag×Int} (hl:w.fD.length≤100000):∀ n x:Nat,w.fD.length-x=n→x≤w.fD.length→∀ (dn:Bool) (out:List RDag),out.length≤2*x→
  ∃ r:Bool×Int×Bool×List RDag,El (fun k j=>r10_Add.l0 k w e t j dn (x:Int) out) r∧(dn=true→r.1=true)∧r.2.2.2.length≤2*w.fD.length∧
   r.2.2.2.Perm ((if dn=false∧r.1=true then [t.1] else [])++(out++(w.fD.drop x).filter fun d=>!decide (d.fRoom=e.fRoom))):=by
 intro n
 induction n with
 | zero=>
  intro x hd hx dn out ho
  obtain rfl:x=w.fD.length:=by omega
  refine ⟨(dn,(w.fD.length:Int),false,out),?_,fun h=>h,ho,?_⟩
  ·refine El.step (fun _ _=>by rw [r10_Add.l0]) ?_
   exact El.cf (by simp) (by simpa using El.pure)
  ·cases dn <;> simp
 | succ n ih=>
  intro x hd hx dn out ho
  have hx2:x<w.fD.length:=by omega
  have e1:RDag.K.at w.fD (x:Int)=w.fD[x]:=by rw [kat _ _ default hx2,List.getD_eq_getElem?_getD,List.getElem?_eq_getElem hx2]; rfl
  obtain ⟨pt,hpt⟩:∃ pt:Bool,pt=(!dn && !sLt (w.fD[x].fRoom) e.fRoom):=⟨_,rfl⟩
  obtain ⟨b,hb⟩:∃ b:Bool,El (fun (k j:Nat)=>cond (!dn) (grd ((0:Int)≤(x:Int)∧(x:Int)<(w.fD.length:Int)) (cond (!sLt (w.fD[x].fRoom) e.fRoom) (grd (out.length+([t.1]:List RDag).length≤9223372036854775807∧(out.length+([t.1]:List RDag).length)*40≤140737488355328) (some (true,!sLt (w.fD[x].fRoom) e.fRoom,out++([t.1]:List RDag)))) (some (dn,!sLt (w.fD[x].fRoom) e.fRoom,out)))) (some (dn,false,out))) (dn||pt,b,if pt then out++[t.1] else out):=by
   cases dn with
   | true=>exact ⟨false,by rw [hpt]; exact El.cf rfl El.pure⟩
   | false=>
    cases hs:sLt (w.fD[x].fRoom) e.fRoom with
    | true=>exact ⟨false,by rw [hpt,hs]; exact El.ct rfl (El.grd ⟨by omega,by omega⟩ (El.cf rfl El.pure))⟩
    | false=>exact ⟨true,by rw [hpt,hs]; exact El.ct rfl (El.grd ⟨by omega,by omega⟩ (El.ct rfl (El.grd ⟨by simp; omega,by simp; omega⟩ El.pure)))⟩
  have hol:(if pt then out++[t.1] else out).length≤2*x+1:=by cases pt <;> simp <;> omega
  have hstep:∀ {r},El (fun k j=>cond (!decide ((w.fD[x].fRoom)=e.fRoom)) (grd ((0:Int)≤(x:Int)∧(x:Int)<(w.fD.length:Int)) (grd ((if pt then out++[t.1] else out).length+([w.fD[x]]:List RDag).length≤9223372036854775807∧((if pt then out++[t.1] else out).length+([w.fD[x]]:List RDag).length)*40≤140737488355328) (r10_Add.l0 k w e t j (dn||pt) (w64 ((x:Int)+1)) ((if pt then out++[t.1] else out)++([w.fD[x]]:List RDag))))) (r10_Add.l0 k w e t j (dn||pt) (w64 ((x:Int)+1)) (if pt then out++[t.1] else out))) r→El (fun k j=>r10_Add.l0 k w e t j dn (x:Int) out) r:=fun h=>by
   refine El.step (fun _ _=>by rw [r10_Add.l0]) ?_
   rw [e1]
   exact El.ct (by simpa using hx2) (El.bind hb (El.grd ⟨by omega,by omega⟩ h))
  have hperm:∀ {r:Bool} {X:List RDag} {tl:List RDag},(dn=true→(dn||pt)=true)→((dn||pt)=true→r=true)→X.Perm ((if (dn||pt)=false∧r=true then [t.1] else [])++((if pt then out++[t.1] else out)++tl))→X.Perm ((if dn=false∧r=true then [t.1] else [])++(out++tl)):=fun {r X tl} _ hmono hX=>by
   cases dn with
   | true=>
        have:pt=false:=by rw [hpt]; rfl
        subst this; simpa using hX
   | false=>
    cases pt with
    | false=>simpa using hX
    | true=>
     have:r=true:=hmono rfl
     subst this
     simp only [Bool.or_true,Bool.true_eq_false,false_and,if_false,if_true,List.nil_append,and_self,List.singleton_append] at hX ⊢
     refine hX.trans ?_
     rw [List.append_assoc]
     exact List.perm_middle
  rw [List.drop_eq_getElem_cons hx2,List.filter_cons]
  cases hq:decide (w.fD[x].fRoom=e.fRoom) with
  | true=>
   obtain ⟨r,h1,h2,h3,h4⟩:=ih (x+1) (by omega) (by omega) (dn||pt) (if pt then out++[t.1] else out) (by omega)
   refine ⟨r,hstep (El.cf (by rw [hq]; rfl) ?_),fun h=>h2 (by rw [h]; rfl),h3,?_⟩
   ·rw [w64_id (x:=(x:Int)+1) (by omega) (by omega)]; exact h1
   ·simpa using hperm (fun h=>by rw [h]; rfl) h2 h4
  | false=>
   obtain ⟨r,h1,h2,h3,h4⟩:=ih (x+1) (by omega) (by omega) (dn||pt) ((if pt then out++[t.1] else out)++[w.fD[x]]) (by rw [List.length_append]; simp; omega)
   refine ⟨r,hstep (El.ct (by rw [hq]; rfl) (El.grd ⟨by omega,by omega⟩ (El.grd ⟨by simp only [List.length_singleton]; omega,by simp only [List.length_singleton]; omega⟩ ?_))),fun h=>h2 (by rw [h]; rfl),h3,?_⟩
   ·rw [w64_id (x:=(x:Int)+1) (by omega) (by omega)]; exact h1
   ·have:=hperm (X:=r.2.2.2) (r:=r.1) (tl:=w.fD[x]::(w.fD.drop (x+1)).filter fun d=>!decide (d.fRoom=e.fRoom)) (fun h=>by rw [h]; rfl) h2 (by rw [List.append_assoc] at h4; simpa using h4)
    simpa using this
theorem put_srt {w:RView} {e:Event} {t:RDag×Int} (ht:t.1.fRoom=e.fRoom) (hl:w.fD.length≤100000):∀ n x:Nat,w.fD.length-x=n→x≤w.fD.length→∀ (dn:Bool) (out:List RDag),out.length≤2*x→
  ∃ r:Bool×Int×Bool×List RDag,El (fun k j=>r10_Add.l0 k w e t j dn (x:Int) out) r∧(if r.1=true then r.2.2.2 else r.2.2.2++[t.1]).map (·.fRoom)=out.map (·.fRoom)++putG e.fRoom dn ((w.fD.drop x).map (·.fRoom)):=by
 intro n
 induction n with
 | zero=>
  intro x hd hx dn out ho
  obtain rfl:x=w.fD.length:=by omega
  refine ⟨(dn,(w.fD.length:Int),false,out),?_,?_⟩
  ·refine El.step (fun _ _=>by rw [r10_Add.l0]) ?_
   exact El.cf (by simp) (by simpa using El.pure)
  ·rw [List.drop_length]
   cases dn <;> simp [putG,ht]
 | succ n ih=>
  intro x hd hx dn out ho
  have hx2:x<w.fD.length:=by omega
  have e1:RDag.K.at w.fD (x:Int)=w.fD[x]:=by rw [kat _ _ default hx2,List.getD_eq_getElem?_getD,List.getElem?_eq_getElem hx2]; rfl
  obtain ⟨pt,hpt⟩:∃ pt:Bool,pt=(!dn && !sLt (w.fD[x].fRoom) e.fRoom):=⟨_,rfl⟩
  obtain ⟨b,hb⟩:∃ b:Bool,El (fun (k j:Nat)=>cond (!dn) (grd ((0:Int)≤(x:Int)∧(x:Int)<(w.fD.length:Int)) (cond (!sLt (w.fD[x].fRoom) e.fRoom) (grd (out.length+([t.1]:List RDag).length≤9223372036854775807∧(out.length+([t.1]:List RDag).length)*40≤140737488355328) (some (true,!sLt (w.fD[x].fRoom) e.fRoom,out++([t.1]:List RDag)))) (some (dn,!sLt (w.fD[x].fRoom) e.fRoom,out)))) (some (dn,false,out))) (dn||pt,b,if pt then out++[t.1] else out):=by
   cases dn with
   | true=>exact ⟨false,by rw [hpt]; exact El.cf rfl El.pure⟩
   | false=>
    cases hs:sLt (w.fD[x].fRoom) e.fRoom with
    | true=>exact ⟨false,by rw [hpt,hs]; exact El.ct rfl (El.grd ⟨by omega,by omega⟩ (El.cf rfl El.pure))⟩
    | false=>exact ⟨true,by rw [hpt,hs]; exact El.ct rfl (El.grd ⟨by omega,by omega⟩ (El.ct rfl (El.grd ⟨by simp; omega,by simp; omega⟩ El.pure)))⟩
  have hol:(if pt then out++[t.1] else out).length≤2*x+1:=by cases pt <;> simp <;> omega
  have hstep:∀ {r},El (fun k j=>cond (!decide ((w.fD[x].fRoom)=e.fRoom)) (grd ((0:Int)≤(x:Int)∧(x:Int)<(w.fD.length:Int)) (grd ((if pt then out++[t.1] else out).length+([w.fD[x]]:List RDag).length≤9223372036854775807∧((if pt then out++[t.1] else out).length+([w.fD[x]]:List RDag).length)*40≤140737488355328) (r10_Add.l0 k w e t j (dn||pt) (w64 ((x:Int)+1)) ((if pt then out++[t.1] else out)++([w.fD[x]]:List RDag))))) (r10_Add.l0 k w e t j (dn||pt) (w64 ((x:Int)+1)) (if pt then out++[t.1] else out))) r→El (fun k j=>r10_Add.l0 k w e t j dn (x:Int) out) r:=fun h=>by
   refine El.step (fun _ _=>by rw [r10_Add.l0]) ?_
   rw [e1]
   exact El.ct (by simpa using hx2) (El.bind hb (El.grd ⟨by omega,by omega⟩ h))
  have hdn:(dn||pt)=(dn || !sLt (w.fD[x].fRoom) e.fRoom):=by rw [hpt]; cases dn <;> rfl
  have hout:(if pt then out++[t.1] else out).map (·.fRoom)=out.map (·.fRoom)++(if (!dn && !sLt (w.fD[x].fRoom) e.fRoom) then [e.fRoom] else []):=by
   rw [← hpt]; cases pt <;> simp [ht]
  rw [List.drop_eq_getElem_cons hx2,List.map_cons]
  cases hq:decide (w.fD[x].fRoom=e.fRoom) with
  | true=>
   obtain ⟨r,h1,h2⟩:=ih (x+1) (by omega) (by omega) (dn||pt) (if pt then out++[t.1] else out) (by omega)
   refine ⟨r,hstep (El.cf (by rw [hq]; rfl) ?_),?_⟩
   ·rw [w64_id (x:=(x:Int)+1) (by omega) (by omega)]; exact h1
   ·rw [h2,hout,hdn,List.append_assoc]
    congr 1
    simp only [putG,if_pos (of_decide_eq_true hq),List.nil_append]
  | false=>
   obtain ⟨r,h1,h2⟩:=ih (x+1) (by omega) (by omega) (dn||pt) ((if pt then out++[t.1] else out)++[w.fD[x]]) (by rw [List.length_append]; simp; omega)
   refine ⟨r,hstep (El.ct (by rw [hq]; rfl) (El.grd ⟨by omega,by omega⟩ (El.grd ⟨by simp only [List.length_singleton]; omega,by simp only [List.length_singleton]; omega⟩ ?_))),?_⟩
   ·rw [w64_id (x:=(x:Int)+1) (by omega) (by omega)]; exact h1
   ·rw [h2,List.map_append,hout,hdn,List.append_assoc,List.append_assoc]
    congr 1
    simp only [putG,if_neg (of_decide_eq_false hq),List.map_cons,List.map_nil]
theorem refVAdd {w:RView} {e:Event} (he:Event.ok e) (hl:w.fD.length≤100000) (hd:(ofR w e.fRoom).fL.length≤100000):
  ∃ w',Ev (fun k=>r10_Add.f k w e) (w',code (ofR w e.fRoom) e)∧(code (ofR w e.fRoom) e≠0→w'=w)∧
   (code (ofR w e.fRoom) e=0→w'.fD.Perm (⟨e.fRoom,(ofR w e.fRoom).fL++[e]⟩::w.fD.filter fun d=>!decide (d.fRoom=e.fRoom))∧w'.fD.map (·.fRoom)=putG e.fRoom false (w.fD.map (·.fRoom))):=by
 unfold r10_Add.f
 by_cases hc:code (ofR w e.fRoom) e=0
 ·have h1:=refAdd he hd
  rw [if_pos hc,ofR_room] at h1
  obtain ⟨r,l1,l2,l3,l4⟩:=put_loop (w:=w) (e:=e) (t:=((⟨e.fRoom,(ofR w e.fRoom).fL++[e]⟩:RDag),0)) hl _ 0 rfl (by omega) false [] (by simp)
  obtain ⟨r',l1',l5⟩:=put_srt (w:=w) (e:=e) (t:=((⟨e.fRoom,(ofR w e.fRoom).fL++[e]⟩:RDag),0)) rfl hl _ 0 rfl (by omega) false [] (by simp)
  have hrr:r'=r:=Ev.uniq l1'.diag l1.diag
  subst hrr
  rw [List.drop_zero,List.map_nil,List.nil_append] at l5
  rw [hc]
  cases hr:r'.1 with
  | false=>
   refine ⟨⟨r'.2.2.2++[(⟨e.fRoom,(ofR w e.fRoom).fL++[e]⟩:RDag)]⟩,Ev.bind (of_ev hl) (Ev.bind h1 (Ev.cf rfl (Ev.bind l1.diag (Ev.ct (by rw [hr]; rfl) (Ev.grd ⟨by simp; omega,by simp; omega⟩ Ev.pure))))),fun h=>absurd rfl h,fun _=>?_⟩
   rw [hr] at l4 l5
   simp at l4
   exact ⟨(List.perm_append_comm).trans (l4.cons _),l5⟩
  | true=>
   refine ⟨⟨r'.2.2.2⟩,Ev.bind (of_ev hl) (Ev.bind h1 (Ev.cf rfl (Ev.bind l1.diag (Ev.cf (by rw [hr]; rfl) Ev.pure)))),fun h=>absurd rfl h,fun _=>?_⟩
   rw [hr] at l4 l5
   exact ⟨by simpa using l4,l5⟩
 ·have h1:=refAdd he hd
  rw [if_neg hc] at h1
  exact ⟨w,Ev.bind (of_ev hl) (Ev.bind h1 (Ev.ct (by simpa using hc) Ev.pure)),fun _=>rfl,fun h=>absurd h hc⟩
theorem find_perm {l l':List RDag} {room:ByteArray} (hp:l.Perm l') (hn:(l.map (·.fRoom)).Nodup):(l.find? fun d=>decide (d.fRoom=room))=l'.find? fun d=>decide (d.fRoom=room):=by
 have hn':(l'.map (·.fRoom)).Nodup:=(hp.map _).nodup_iff.1 hn
 have one:∀ {l:List RDag},(l.map (·.fRoom)).Nodup→∀ {x y},x∈l→y∈l→x.fRoom=y.fRoom→x=y:=fun {l} hn x y hx hy e=>by
  induction l with
  | nil=>cases hx
  | cons a l ih=>
   rw [List.map_cons,List.nodup_cons] at hn
   rcases List.mem_cons.1 hx with h1 | h1 <;> rcases List.mem_cons.1 hy with h2 | h2
   ·rw [h1,h2]
   ·exact absurd (List.mem_map.2 ⟨y,h2,by rw [← h1]; exact e.symm⟩) hn.1
   ·exact absurd (List.mem_map.2 ⟨x,h1,by rw [← h2]; exact e⟩) hn.1
   ·exact ih hn.2 h1 h2
 cases h:l.find? fun d=>decide (d.fRoom=room) with
 | none=>
  symm
  rw [List.find?_eq_none] at h ⊢
  exact fun x hx=>h x (hp.mem_iff.2 hx)
 | some d=>
  cases h':l'.find? fun d=>decide (d.fRoom=room) with
  | none=>rw [List.find?_eq_none] at h'; exact absurd (List.find?_some h) (h' d (hp.mem_iff.1 (List.mem_of_find?_eq_some h)))
  | some d'=>
   have a:d.fRoom=room:=by simpa using List.find?_some h
   have b:d'.fRoom=room:=by simpa using List.find?_some h'
   rw [one hn (List.mem_of_find?_eq_some h) (hp.mem_iff.2 (List.mem_of_find?_eq_some h')) (a.trans b.symm)]
theorem ofR_put {w w':RView} {d:RDag} (hn:(w.fD.map (·.fRoom)).Nodup) (hp:w'.fD.Perm (d::w.fD.filter fun x=>!decide (x.fRoom=d.fRoom))):(w'.fD.map (·.fRoom)).Nodup∧∀ room,ofR w' room=if room=d.fRoom then d else ofR w room:=by
 have hn2:((d::w.fD.filter fun x=>!decide (x.fRoom=d.fRoom)).map (·.fRoom)).Nodup:=by
  rw [List.map_cons,List.nodup_cons]
  refine ⟨fun h=>?_,(hn.sublist ((List.filter_sublist ..).map _))⟩
  obtain ⟨x,hx,e⟩:=List.mem_map.1 h
  simp at hx; exact hx.2 e
 have hn3:=(hp.map (·.fRoom)).nodup_iff.2 hn2
 refine ⟨hn3,fun room=>?_⟩
 unfold ofR
 rw [find_perm hp hn3,List.find?_cons]
 by_cases h:room=d.fRoom
 ·rw [if_pos h,decide_eq_true h.symm]; rfl
 ·rw [if_neg h,decide_eq_false (fun e=>h e.symm)]
  have key:((w.fD.filter fun x=>!decide (x.fRoom=d.fRoom)).find? fun d=>decide (d.fRoom=room))=w.fD.find? fun d=>decide (d.fRoom=room):=by
   rw [List.find?_filter]
   congr 1
   funext x
   by_cases hx:x.fRoom=room
   ·have:¬ x.fRoom=d.fRoom:=fun e=>h (hx.symm.trans e)
    simp [hx]; exact h
   ·simp [hx]
  show (((w.fD.filter fun x=>!decide (x.fRoom=d.fRoom)).find? fun d=>decide (d.fRoom=room))).getD _=_
  rw [key]
theorem viewAdd {v:VView} {w:RView} {e:Event} (hr:RelV v w) (he:Event.ok e) (hl:w.fD.length≤100000) (hd:(ofR w e.fRoom).fL.length≤100000):
  ∃ v' w',Ev (fun k=>view_View_Add.f k v e) (code (ofR w e.fRoom) e,v')∧Ev (fun k=>r10_Add.f k w e) (w',code (ofR w e.fRoom) e)∧RelV v' w'∧
   (code (ofR w e.fRoom) e≠0→w'=w∧v'=v)∧(code (ofR w e.fRoom) e=0→(∀ room,ofR w' room=if room=e.fRoom then ⟨e.fRoom,(ofR w e.fRoom).fL++[e]⟩ else ofR w room)∧w'.fD.length≤w.fD.length+1):=by
 obtain ⟨w',r1,r2,r3⟩:=refVAdd he hl hd
 obtain ⟨m,v1,v2,v3⟩:=relV_of hr e.fRoom
 obtain ⟨m',a1,a2,a3⟩:=dagAddT v2 he hd
 unfold view_View_Add.f
 by_cases hc:code (ofR w e.fRoom) e=0
 ·obtain ⟨hp,hpS⟩:=r3 hc
  obtain ⟨n1,n2⟩:=ofR_put (d:=⟨e.fRoom,(ofR w e.fRoom).fL++[e]⟩) hr.nd hp
  refine ⟨⟨mput v.fdags e.fRoom m'⟩,w',?_,r1,⟨fun d hdm=>?_,fun room hroom=>?_,n1,nd_put hr.ndv,by rw [hpS]; exact putG_srt hr.srt,fun d hdm=>by
   rcases List.mem_cons.1 (hp.mem_iff.1 hdm) with rfl | hdm
   ·simp
   ·exact hr.ne d (List.mem_filter.1 hdm).1⟩,fun h=>absurd hc h,fun _=>⟨n2,?_⟩⟩
  ·rw [hc] at a1 ⊢
   exact Ev.bind (Ev.of v1) (Ev.bind a1 (Ev.cf rfl Ev.pure))
  ·rcases List.mem_cons.1 (hp.mem_iff.1 hdm) with rfl | hdm
   ·refine ⟨m',by simp only [mget_put,if_true],?_⟩
    have:=a3 hc
    rwa [ofR_room] at this
   ·simp at hdm
    obtain ⟨m2,q1,q2⟩:=hr.got d hdm.1
    exact ⟨m2,by simp only [mget_put,if_neg (fun e=>hdm.2 e.symm:¬ e.fRoom=d.fRoom)]; exact q1,q2⟩
  ·have h1:e.fRoom≠room:=hroom _ (hp.mem_iff.2 (List.mem_cons_self ..))
   simp only [mget_put,if_neg h1]
   refine hr.non room fun d hdm hdr=>?_
   by_cases h2:d.fRoom=e.fRoom
   ·exact h1 (h2.symm.trans hdr)
   ·exact hroom d (hp.mem_iff.2 (List.mem_cons_of_mem _ (by simp [hdm,h2]))) hdr
  ·rw [hp.length_eq,List.length_cons]
   have:=List.length_filter_le (fun d=>!decide (d.fRoom=e.fRoom)) w.fD
   exact Nat.succ_le_succ this
 ·obtain rfl:=r2 hc
  refine ⟨v,w',?_,r1,hr,fun _=>⟨rfl,rfl⟩,fun h=>absurd h hc⟩
  have:=a2 hc
  subst this
  refine Ev.bind (Ev.of v1) (Ev.bind a1 (Ev.ct (by simpa using hc) (Ev.of ?_)))
  have:mres v.fdags e.fRoom m'=v.fdags:=mres_same v3
  rw [this]
end Go.Proofs.YtmmaijneehmbgaaGreat
