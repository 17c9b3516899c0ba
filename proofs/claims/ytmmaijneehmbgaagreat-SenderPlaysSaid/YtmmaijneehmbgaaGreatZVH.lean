import Derived.Test.YtmmaijneehmbgaaGreatZVG
set_option linter.all false
set_option maxRecDepth 10000
namespace Go.Proofs.YtmmaijneehmbgaaGreat
open Go Go.Sp
structure VOk (v:VView) (w:RView):Prop where
 rel:RelV v w
 rooms:w.fD.length≤50
 len:∀ room,(ofR w room).fL.length≤1000
theorem vok_new:VOk ⟨[]⟩ ⟨[]⟩:=⟨relV_new,by simp,fun _=>by simp [ofR]⟩
inductive Runs:VView→RView→List Event→VView→RView→Prop
 | nil {v w}:VOk v w→Runs v w [] v w
 | cons {v w e v1 w1 l v' w'}:VOk v w→Ev (fun k=>view_View_Add.f k v e) (0,v1)→Ev (fun k=>r10_Add.f k w e) (w1,0)→Runs v1 w1 l v' w'→Runs v w (e::l) v' w'
theorem Runs.ok {v w l v' w'} (h:Runs v w l v' w'):VOk v w:=by cases h <;> assumption
theorem Runs.ok2 {v w l v' w'} (h:Runs v w l v' w'):VOk v' w':=by
 induction h with
 | nil h=>exact h
 | cons _ _ _ _ ih=>exact ih
theorem Runs.app {v w l v1 w1 l' v' w'} (h:Runs v w l v1 w1) (h':Runs v1 w1 l' v' w'):Runs v w (l++l') v' w':=by
 induction h with
 | nil=>exact h'
 | cons o a b _ ih=>exact .cons o a b (ih h')
theorem drop_ev {l:List Event} {x:Nat} (hx:x<l.length):l.drop x=ev l x::l.drop (x+1):=by
 rw [List.drop_eq_getElem_cons hx]; unfold ev; rw [List.getD_eq_getElem?_getD,List.getElem?_eq_getElem hx]; rfl
theorem runs_chain {room:ByteArray} {L:List Event} (hc:Chain room L) (hl:L.length≤100):∀ n i:Nat,L.length-i=n→i≤L.length→∀ (v:VView) (w:RView),VOk v w→w.fD.length+n≤50→ofR w room=⟨room,L.take i⟩→
  ∃ v' w',Runs v w (L.drop i) v' w'∧w'.fD.length≤w.fD.length+n∧ofR w' room=⟨room,L⟩∧∀ r,r≠room→ofR w' r=ofR w r:=by
 intro n
 induction n with
 | zero=>
  intro i hd hi v w hr hw ho
  obtain rfl:i=L.length:=by omega
  rw [List.drop_length]
  rw [List.take_length] at ho
  exact ⟨v,w,.nil hr,by omega,ho,fun _ _=>rfl⟩
 | succ n ih=>
  intro i hd hi v w hr hw ho
  have hi2:i<L.length:=by omega
  obtain ⟨h1,h2,h3⟩:=hc i hi2
  have ho2:ofR w (ev L i).fRoom=⟨room,L.take i⟩:=by rw [h2]; exact ho
  obtain ⟨v1,w1,a1,a2,a3,_,a5⟩:=viewAdd hr.rel h1 (by omega) (by rw [ho2]; show (L.take i).length≤_; rw [List.length_take]; omega)
  rw [ho2] at a1 a2 a5
  rw [h3] at a1 a2 a5
  obtain ⟨a6,a7⟩:=a5 rfl
  have ht:L.take (i+1)=L.take i++[ev L i]:=by
   rw [List.take_succ_eq_append_getElem hi2]; unfold ev; rw [List.getD_eq_getElem?_getD,List.getElem?_eq_getElem hi2]; rfl
  have hv1:VOk v1 w1:=⟨a3,by omega,fun r=>by
   rw [a6 r]
   split
   ·show (L.take i++[ev L i]).length≤1000
    rw [List.length_append,List.length_take,List.length_singleton]; omega
   ·exact hr.len r⟩
  obtain ⟨v',w',b1,b3,b4,b5⟩:=ih (i+1) (by omega) (by omega) v1 w1 hv1 (by omega) (by rw [a6,h2,if_pos rfl,ht])
  rw [drop_ev hi2]
  refine ⟨v',w',.cons hr a1 a2 b1,by omega,b4,fun r hne=>?_⟩
  rw [b5 r hne,a6,h2,if_neg hne]
def roomR:ByteArray:=⟨#[33,114,58,115,49]⟩
def roomQ:ByteArray:=⟨#[33,113,58,115,50]⟩
theorem runs_two {A B:List Event} (ca:Chain roomR A) (cb:Chain roomQ B) (la:A.length≤9) (lb:B.length≤9):∃ v w,Runs ⟨[]⟩ ⟨[]⟩ (A++B) v w∧ofR w roomR=⟨roomR,A⟩∧ofR w roomQ=⟨roomQ,B⟩:=by
 have hne:roomQ≠roomR:=by decide
 obtain ⟨v1,w1,c1,c3,c4,c5⟩:=runs_chain ca (by omega) _ 0 rfl (by omega) ⟨[]⟩ ⟨[]⟩ vok_new (by simp; omega) (by simp [ofR])
 obtain ⟨v2,w2,d1,d3,d4,d5⟩:=runs_chain cb (by omega) _ 0 rfl (by omega) v1 w1 c1.ok2 (by simp at c3; omega) (by rw [c5 _ hne]; simp [ofR])
 exact ⟨v2,w2,c1.app d1,by rw [d5 _ hne.symm]; exact c4,d4⟩
theorem made_runs {a b:List GMade} (ha:a.length≤maxLen∧∀ x∈a,GMade.ok x) (hb:b.length≤maxLen∧∀ x∈b,GMade.ok x):∃ L v w,Ev (fun k=>r10_Made.f k a b) L∧L.length≤18∧Runs ⟨[]⟩ ⟨[]⟩ L v w:=by
 have r0:r01_RoomOf.f 0=some roomR:=rfl
 have r1:r01_RoomOf.f 1=some roomQ:=rfl
 obtain ⟨A,a1,a2,a3⟩:=made_ev (room:=roomR) (List.mem_of_getElem? (i:=0) rfl) ha.1 ha.2
 obtain ⟨B,b1,b2,b3⟩:=made_ev (room:=roomQ) (List.mem_of_getElem? (i:=1) rfl) hb.1 hb.2
 have la:=a2.len
 have lb:=b2.len
 obtain ⟨v,w,h,_⟩:=runs_two a3 b3 la lb
 refine ⟨A++B,v,w,?_,by rw [List.length_append]; omega,h⟩
 unfold r10_Made.f
 refine Ev.bind (Ev.of r0) (Ev.bind a1 (Ev.grd ⟨by simp; omega,by simp; omega⟩ (Ev.bind (Ev.of r1) (Ev.bind b1 (Ev.grd ⟨by simp; omega,by simp; omega⟩ (Ev.of (by simp)))))))
end Go.Proofs.YtmmaijneehmbgaaGreat
