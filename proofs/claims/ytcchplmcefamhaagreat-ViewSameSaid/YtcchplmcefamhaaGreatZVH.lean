import Derived.Test.YtcchplmcefamhaaGreatZVG
set_option linter.all false
set_option maxRecDepth 10000
namespace Go.Proofs.YtcchplmcefamhaaGreat
open Go Go.Sp
inductive Runs:VView→RView→List Event→VView→RView→Prop
 | nil {v w}:Runs v w [] v w
 | cons {v w e v1 w1 l v' w'}:Ev (fun k=>view_View_Add.f k v e) (0,v1)→Ev (fun k=>r10_Add.f k w e) (w1,0)→Runs v1 w1 l v' w'→Runs v w (e::l) v' w'
theorem Runs.app {v w l v1 w1 l' v' w'} (h:Runs v w l v1 w1) (h':Runs v1 w1 l' v' w'):Runs v w (l++l') v' w':=by
 induction h with
 | nil=>exact h'
 | cons a b _ ih=>exact .cons a b (ih h')
theorem drop_ev {l:List Event} {x:Nat} (hx:x < l.length):l.drop x = ev l x::l.drop (x + 1):=by
 rw [List.drop_eq_getElem_cons hx]; unfold ev; rw [List.getD_eq_getElem?_getD,List.getElem?_eq_getElem hx]; rfl
theorem runs_chain {room:ByteArray} {L:List Event} (hc:Chain room L) (hl:L.length≤1000):∀ n i:Nat,L.length - i = n→i≤L.length→∀ (v:VView) (w:RView),RelV v w→w.fD.length≤1000 + i→ofR w room = ⟨room,L.take i⟩→
  ∃ v' w',Runs v w (L.drop i) v' w'∧RelV v' w'∧w'.fD.length≤w.fD.length + n∧ofR w' room = ⟨room,L⟩∧∀ r,r≠room→ofR w' r = ofR w r:=by
 intro n
 induction n with
 | zero=>
  intro i hd hi v w hr hw ho
  obtain rfl:i = L.length:=by omega
  rw [List.drop_length]
  rw [List.take_length] at ho
  exact ⟨v,w,.nil,hr,by omega,ho,fun _ _=>rfl⟩
 | succ n ih=>
  intro i hd hi v w hr hw ho
  have hi2:i < L.length:=by omega
  obtain ⟨h1,h2,h3⟩:=hc i hi2
  have ho2:ofR w (ev L i).fRoom = ⟨room,L.take i⟩:=by rw [h2]; exact ho
  obtain ⟨v1,w1,a1,a2,a3,_,a5⟩:=viewAdd hr h1 (by omega) (by rw [ho2]; show (L.take i).length≤_; rw [List.length_take]; omega)
  rw [ho2] at a1 a2 a5
  rw [h3] at a1 a2 a5
  obtain ⟨a6,a7⟩:=a5 rfl
  have ht:L.take (i + 1) = L.take i++[ev L i]:=by
   rw [List.take_succ_eq_append_getElem hi2]; unfold ev; rw [List.getD_eq_getElem?_getD,List.getElem?_eq_getElem hi2]; rfl
  obtain ⟨v',w',b1,b2,b3,b4,b5⟩:=ih (i + 1) (by omega) (by omega) v1 w1 a3 (by omega) (by rw [a6,h2,if_pos rfl,ht])
  rw [drop_ev hi2]
  refine ⟨v',w',.cons a1 a2 b1,b2,by omega,b4,fun r hne=>?_⟩
  rw [b5 r hne,a6,h2,if_neg hne]
theorem build1 {l:List Event} (hl:l.length≤100000):∀ n x:Nat,l.length - x = n→x≤l.length→∀ {v w v' w'},Runs v w (l.drop x) v' w'→
  El (fun k j=>w10_build.l0 k l j (x:Int) v) (.inl ((l.length:Int),false,v'))∧El (fun k j=>r10_Build.l0 k l j (x:Int) w.fD) ((l.length:Int),false,w'.fD):=by
 intro n
 induction n with
 | zero=>
  intro x hd hx v w v' w' h
  obtain rfl:x = l.length:=by omega
  rw [List.drop_length] at h
  cases h
  constructor
  ·refine El.step (fun _ _=>by rw [w10_build.l0]) ?_
   exact El.cf (by simp) (by simpa using El.pure)
  ·refine El.step (fun _ _=>by rw [r10_Build.l0]) ?_
   exact El.cf (by simp) (by simpa using El.pure)
 | succ n ih=>
  intro x hd hx v w v' w' h
  have hx2:x < l.length:=by omega
  rw [drop_ev hx2] at h
  cases h with
  | cons a b c=>
   obtain ⟨h1,h2⟩:=ih (x + 1) (by omega) (by omega) c
   constructor
   ·refine El.step (fun _ _=>by rw [w10_build.l0]) ?_
    refine El.ct (decide_eq_true (by omega)) (El.grd ⟨by omega,by omega⟩ ?_)
    rw [Int.toNat_natCast]
    refine El.bind a.el (El.cf rfl ?_)
    rw [w64_id (x:=(x:Int) + 1) (by omega) (by omega)]
    exact h1
   ·refine El.step (fun _ _=>by rw [r10_Build.l0]) ?_
    refine El.ct (decide_eq_true (by omega)) (El.grd ⟨by omega,by omega⟩ ?_)
    rw [ev_at hx2]
    refine El.bind b.el ?_
    rw [w64_id (x:=(x:Int) + 1) (by omega) (by omega)]
    exact h2
def roomR:ByteArray:=⟨#[33,114,58,115,49]⟩
def roomQ:ByteArray:=⟨#[33,113,58,115,50]⟩
end Go.Proofs.YtcchplmcefamhaaGreat
