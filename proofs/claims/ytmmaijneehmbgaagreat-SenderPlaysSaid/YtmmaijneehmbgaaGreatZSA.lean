import Derived.Test.YtmmaijneehmbgaaGreatZWR
import Derived.Test.YtmmaijneehmbgaaGreatZEL
import Derived.Test.YtmmaijneehmbgaaGreatConB1
set_option linter.all false
set_option maxRecDepth 10000
namespace Go.Proofs.YtmmaijneehmbgaaGreat
open Go Go.Sp
theorem sameEdus_ev {xs ys:List Edu} (hl:xs.length≤100000):Ev (fun k=>r04_SameEdus.f k xs ys) (decide (xs=ys)):=by
 unfold r04_SameEdus.f
 exact sameG (F:=fun k j x=>r04_SameEdus.l0 k xs ys j x) (d:=default) hl fun _ _ _=>rfl
noncomputable def pb (w:RView) (to:ByteArray) (e:Edu):Bool:=@decide (Ev (fun k=>r16_Passes.f k w to e) true) (Classical.propDecidable _)
theorem pb_of {w:RView} {to:ByteArray} {e:Edu} {b:Bool} (h:Ev (fun k=>r16_Passes.f k w to e) b):pb w to e=b:=by
 unfold pb
 cases b with
 | true=>exact @decide_eq_true _ (Classical.propDecidable _) h
 | false=>exact @decide_eq_false _ (Classical.propDecidable _) fun h'=>by cases h.uniq h'
section
variable {v:VView} {w:RView} (hr:RelV v w) (hl:w.fD.length≤50) (hd:∀ room,(ofR w room).fL.length≤1000)
include hr hl hd
theorem passes_both (to:ByteArray) {e:Edu} (z:Zz e):∃ b,Ev (fun k=>gate_Passes.f k v to e) b∧Ev (fun k=>r16_Passes.f k w to e) b:=by
 obtain ⟨b,l1,l2,_⟩:=may_both z
 unfold gate_Passes.f gate_reached.f r16_Passes.f
 cases b with
 | false=>exact ⟨false,Ev.bind (a:=[]) (Ev.bind l1 Ev.pure) (Ev.bind (contains2 (l:=[]) (by simp)) Ev.pure),Ev.bind l2 Ev.pure⟩
 | true=>
  cases k3:e.fKind==3 with
  | true=>
   obtain ⟨P,p1,p2,p3⟩:=peers_both hr hl hd e.fUser
   exact ⟨inB P to,Ev.bind (a:=P) (Ev.bind l1 (Ev.cf rfl (Ev.ct rfl (Ev.bind p1 Ev.pure)))) (Ev.bind (contains2 p3) Ev.pure),Ev.bind l2 (Ev.cf rfl (Ev.ct rfl (Ev.bind p2 (Ev.bind (has2 p3) Ev.pure))))⟩
  | false=>
   obtain ⟨P,p1,p2,_,p3⟩:=sv hr hl hd e.fRoom
   exact ⟨inB P to,Ev.bind (a:=P) (Ev.bind l1 (Ev.cf rfl (Ev.cf rfl (Ev.bind p1 Ev.pure)))) (Ev.bind (contains2 (by omega)) Ev.pure),Ev.bind l2 (Ev.cf rfl (Ev.cf rfl (Ev.bind p2 (Ev.bind (has2 (by omega)) Ev.pure))))⟩
theorem passes_pb (to:ByteArray) {e:Edu} (z:Zz e):Ev (fun k=>gate_Passes.f k v to e) (pb w to e)∧Ev (fun k=>r16_Passes.f k w to e) (pb w to e):=by
 obtain ⟨b,h1,h2⟩:=passes_both hr hl hd to z
 rw [pb_of h2]; exact ⟨h1,h2⟩
theorem choose1_ev (to:ByteArray) {l:List Edu} (hz:∀ e∈l,Zz e) (hn:l.length≤100000):Ev (fun k=>gate_Choose.f k v to l) (l.filter (pb w to)):=by
 have pr:∀ x∈l,Ev (fun k=>gate_Choose_1.f k x v to) (!pb w to x):=fun x hx=>by
  unfold gate_Choose_1.f
  exact Ev.bind (passes_pb hr hl hd to (hz x hx)).1 Ev.pure
 have hI:Ev (fun k=>slices_IndexFunc_Edu_xw.f k l (fun e=>gate_Choose_1.f k e v to)) (fidx (fun x=>!pb w to x) l):=by
  unfold slices_IndexFunc_Edu_xw.f
  exact idxG (F:=fun k j x=>slices_IndexFunc_Edu_xw.l0 k l (fun e=>gate_Choose_1.f k e v to) j x) (d:=default) hn pr fun _ _ _=>rfl
 have h:=delG (F:=fun k j i m q=>slices_DeleteFunc_Edu_xo.l0 k (fun e=>gate_Choose_1.f k e v to) j i m q) (d:=default) (z0:=(⟨0,(⟨#[]⟩:ByteArray),(⟨#[]⟩:ByteArray),(⟨#[]⟩:ByteArray),(⟨#[]⟩:ByteArray),false,false,0,0,0,0⟩:Edu)) hn pr hI fun _ _ _ _ _=>rfl
 have e:l.filter (fun x=>!!pb w to x)=l.filter (pb w to):=by congr 1; funext x; rw [Bool.not_not]
 rw [e] at h
 unfold gate_Choose.f slices_Clone_Edu.f
 exact Ev.bind (Ev.grd ⟨by omega,by omega⟩ Ev.pure) (Ev.bind h Ev.pure)
theorem choose2_ev (to:ByteArray) {l:List Edu} (hz:∀ e∈l,Zz e) (hn:l.length≤100000):Ev (fun k=>r16_Choose.f k w to l) (l.filter (pb w to)):=by
 unfold r16_Choose.f
 refine Ev.bind (chooseG (F:=fun k j x out=>r16_Choose.l0 k w to l j x out) (d:=default) hn (fun out=>?_) (fun x out r hx ho h=>?_)) Ev.pure
 ·refine El.step (fun _ _=>by rw [r16_Choose.l0]) ?_
  exact El.cf (by simp) (by simpa using El.pure)
 ·have hp:=(passes_pb hr hl hd to (hz (l.getD x default) (getD_mem hx))).2
  have e0:Edu.K.at l (x:Int)=l.getD x default:=rfl
  refine El.step (fun _ _=>by rw [r16_Choose.l0]) ?_
  rw [inc1 (show x≤1000000 by omega),e0]
  refine El.ct (decide_eq_true (by omega)) (El.grd ⟨by omega,by omega⟩ (El.bind hp.el ?_))
  cases hb:pb w to (l.getD x default) with
  | true=>
   rw [hb,if_pos rfl] at h
   exact El.ct rfl (El.grd ⟨by omega,by omega⟩ (El.grd ⟨by rw [List.length_singleton]; omega,by rw [List.length_singleton]; omega⟩ h))
  | false=>
   rw [hb,if_neg (by decide)] at h
   exact El.cf rfl h
end
end Go.Proofs.YtmmaijneehmbgaaGreat
