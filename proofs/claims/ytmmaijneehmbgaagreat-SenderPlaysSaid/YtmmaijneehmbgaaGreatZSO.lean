import Derived.Test.YtmmaijneehmbgaaGreatZVH
import Derived.Test.YtmmaijneehmbgaaGreatZSA
import Derived.Test.YtmmaijneehmbgaaGreatZSK
set_option linter.all false
set_option maxRecDepth 10000
namespace Go.Proofs.YtmmaijneehmbgaaGreat
open Go Go.Sp
def oneE (room:ByteArray) (k:Nat):Event:=⟨evs k,room,[],⟨#[]⟩,users.getD k default,1⟩
def openR (room:ByteArray):List Event:=(List.range 9).map (oneE room)
theorem openR_len (room:ByteArray):(openR room).length=9:=by simp [openR]
theorem openR_ev (room:ByteArray) {k:Nat} (hk:k<9):ev (openR room) k=oneE room k:=by
 unfold ev openR
 rw [List.getD_eq_getElem?_getD,List.getElem?_map,List.getElem?_range hk]; rfl
theorem openR_take (room:ByteArray) {k:Nat} (hk:k<9):(openR room).take (k+1)=(openR room).take k++[oneE room k]:=by
 have h:k<(openR room).length:=by rw [openR_len]; exact hk
 rw [List.take_succ_eq_append_getElem h]
 have:=openR_ev room hk
 unfold ev at this
 rw [List.getD_eq_getElem?_getD,List.getElem?_eq_getElem h] at this
 rw [← this]; rfl
theorem chainR:Chain roomR (openR roomR):=fun i hi=>by
 rw [openR_len] at hi
 rw [openR_ev roomR hi]
 have h:(List.range 9).all (fun i=>decide (code ⟨roomR,(openR roomR).take i⟩ (oneE roomR i)=0)&&(decide ((evs i).size≤10)&&decide ((users.getD i default).size≤10)))=true:=by kernel_rfl
 have:=List.all_eq_true.1 h i (List.mem_range.2 hi)
 simp only [Bool.and_eq_true,decide_eq_true_eq] at this
 have m:128≤maxLen:=by decide
 exact ⟨⟨by show (evs i).size≤maxLen; omega,by show (5:Nat)≤maxLen; omega,⟨Nat.zero_le _,fun x hx=>by cases hx⟩,Nat.zero_le _,by show (users.getD i default).size≤maxLen; omega,rfl,trivial⟩,rfl,this.1⟩
theorem chainQ:Chain roomQ (openR roomQ):=fun i hi=>by
 rw [openR_len] at hi
 rw [openR_ev roomQ hi]
 have h:(List.range 9).all (fun i=>decide (code ⟨roomQ,(openR roomQ).take i⟩ (oneE roomQ i)=0)&&(decide ((evs i).size≤10)&&decide ((users.getD i default).size≤10)))=true:=by kernel_rfl
 have:=List.all_eq_true.1 h i (List.mem_range.2 hi)
 simp only [Bool.and_eq_true,decide_eq_true_eq] at this
 have m:128≤maxLen:=by decide
 exact ⟨⟨by show (evs i).size≤maxLen; omega,by show (5:Nat)≤maxLen; omega,⟨Nat.zero_le _,fun x hx=>by cases hx⟩,Nat.zero_le _,by show (users.getD i default).size≤maxLen; omega,rfl,trivial⟩,rfl,this.1⟩
theorem open2_ev {i:Int} {room:ByteArray} (hr:r01_RoomOf.f i=some room):∀ n x:Nat,9-x=n→x≤9→∀ P:List Event,P.length≤100→El (fun k j=>w18_open.l2 k i j (x:Int) (P++(openR room).take x)) ((9:Int),false,P++openR room):=by
 intro n
 induction n with
 | zero=>
  intro x hn hx P hP
  obtain rfl:x=9:=by omega
  refine El.step (fun _ _=>by rw [w18_open.l2]) ?_
  rw [List.take_of_length_le (by rw [openR_len]; omega)]
  exact El.cf rfl El.pure
 | succ n ih=>
  intro x hn hx P hP
  have hx2:x<9:=by omega
  obtain ⟨u,u1,u2⟩:=userOf_at x hx2
  have hu:users.getD x default=u:=by rw [List.getD_eq_getElem?_getD,u2]; rfl
  have hi:=ih (x+1) (by omega) (by omega) P hP
  rw [openR_take room hx2,← List.append_assoc] at hi
  refine El.step (fun _ _=>by rw [w18_open.l2]) ?_
  rw [inc1 (show x≤1000000 by omega)]
  have hl:(P++(openR room).take x).length≤200:=by rw [List.length_append,List.length_take,openR_len]; omega
  refine El.ct (decide_eq_true (by omega)) (El.bind (eventOf_at x hx2).el (El.bind (Ev.of hr).el (El.bind (Ev.of u1).el (El.grd ⟨by rw [List.length_singleton]; omega,by rw [List.length_singleton]; omega⟩ ?_))))
  unfold oneE at hi
  rw [hu] at hi
  exact hi
theorem openV_ev (p:Int×Bool×List Event) (hl:p.2.2.length≤100):∀ n x:Nat,p.2.2.length-x=n→x≤p.2.2.length→∀ {v w v' w'},Runs v w (p.2.2.drop x) v' w'→
  El (fun k j=>w18_open.l0 k p j (x:Int) v) (.inl ((p.2.2.length:Int),false,v'))∧El (fun k j=>r10_Build.l0 k p.2.2 j (x:Int) w.fD) ((p.2.2.length:Int),false,w'.fD):=by
 intro n
 induction n with
 | zero=>
  intro x hd hx v w v' w' h
  obtain rfl:x=p.2.2.length:=by omega
  rw [List.drop_length] at h
  cases h
  constructor
  ·refine El.step (fun _ _=>by rw [w18_open.l0]) ?_
   exact El.cf (by simp) (by simpa using El.pure)
  ·refine El.step (fun _ _=>by rw [r10_Build.l0]) ?_
   exact El.cf (by simp) (by simpa using El.pure)
 | succ n ih=>
  intro x hd hx v w v' w' h
  have hx2:x<p.2.2.length:=by omega
  rw [drop_ev hx2] at h
  cases h with
  | cons o a b c=>
   obtain ⟨h1,h2⟩:=ih (x+1) (by omega) (by omega) c
   constructor
   ·refine El.step (fun _ _=>by rw [w18_open.l0]) ?_
    refine El.ct (decide_eq_true (by omega)) (El.grd ⟨by omega,by omega⟩ ?_)
    rw [Int.toNat_natCast]
    refine El.bind a.el (El.cf rfl ?_)
    rw [w64_id (x:=(x:Int)+1) (by omega) (by omega)]
    exact h1
   ·refine El.step (fun _ _=>by rw [r10_Build.l0]) ?_
    refine El.ct (decide_eq_true (by omega)) (El.grd ⟨by omega,by omega⟩ ?_)
    rw [ev_at hx2]
    refine El.bind b.el ?_
    rw [w64_id (x:=(x:Int)+1) (by omega) (by omega)]
    exact h2
structure Opened (v:VView) (w:RView):Prop extends VOk v w where
 r:ofR w roomR=⟨roomR,openR roomR⟩
 q:ofR w roomQ=⟨roomQ,openR roomQ⟩
theorem open_ev:∃ v w,Ev (fun k=>w18_open.f k) (some v,w)∧Opened v w:=by
 obtain ⟨v,w,h1,h2,h3⟩:=runs_two chainR chainQ (by rw [openR_len]; omega) (by rw [openR_len]; omega)
 have hL:(openR roomR++openR roomQ).length=18:=by rw [List.length_append,openR_len,openR_len]
 obtain ⟨e1,e2⟩:=openV_ev ((2:Int),false,openR roomR++openR roomQ) (by show (openR roomR++openR roomQ).length≤100; omega) _ 0 rfl (Nat.zero_le _) (v:=⟨[]⟩) (w:=⟨[]⟩) (v':=v) (w':=w) h1
 refine ⟨v,w,?_,h1.ok2,h2,h3⟩
 unfold w18_open.f r10_Build.f
 refine Ev.bind (Ev.of rfl) (Ev.bind (a:=((2:Int),false,openR roomR++openR roomQ)) ?_ (Ev.bind e1.diag ?_))
 ·have k1:=open2_ev (i:=0) (room:=roomR) rfl 9 0 rfl (by omega) [] (by simp)
  have k2:=open2_ev (i:=1) (room:=roomQ) rfl 9 0 rfl (by omega) (openR roomR) (by rw [openR_len]; omega)
  rw [List.take_zero,List.append_nil] at k1 k2
  refine El.diag (F:=fun k j=>w18_open.l1 k j 0 []) ?_
  refine El.step (fun _ _=>by rw [w18_open.l1]) ?_
  refine El.ct rfl (El.bind k1.diag.el ?_)
  refine El.step (fun _ _=>by rw [w18_open.l1]) ?_
  refine El.ct rfl (El.bind k2.diag.el ?_)
  refine El.step (fun _ _=>by rw [w18_open.l1]) ?_
  exact El.cf rfl El.pure
 ·simp only [fall]
  exact Ev.bind (Ev.bind e2.diag Ev.pure) Ev.pure
theorem lastR_in (u:ByteArray):∀ (A:List Event) (r:Option Event),(∃ e∈A,isRel u e=true)→∃ e∈A,lastR u A r=some e
 | [],_,h=>by obtain ⟨e,he,_⟩:=h; cases he
 | a::A,r,h=>by
  by_cases hA:∃ e∈A,isRel u e=true
  ·obtain ⟨e,h1,h2⟩:=lastR_in u A (if isRel u a=true then some a else r) hA
   exact ⟨e,List.mem_cons_of_mem _ h1,h2⟩
  ·obtain ⟨e,he,hr⟩:=h
   rcases List.mem_cons.1 he with rfl | he
   ·have key:∀ (A:List Event) (r:Option Event),(∀ e∈A,¬ isRel u e=true)→lastR u A r=r:=by
     intro A
     induction A with
     | nil=>intro r _; rfl
     | cons b A ih=>
      intro r hb
      show lastR u A (if isRel u b=true then some b else r)=r
      rw [if_neg (hb b (List.mem_cons_self ..))]
      exact ih r fun e he=>hb e (List.mem_cons_of_mem _ he)
    refine ⟨e,List.mem_cons_self ..,?_⟩
    show lastR u A (if isRel u e=true then some e else r)=some e
    rw [if_pos hr]
    exact key A _ fun b hb hc=>hA ⟨b,hb,hc⟩
   ·exact absurd ⟨e,he,hr⟩ hA
theorem Opened.room {v:VView} {w:RView} (h:Opened v w) {room:ByteArray} (hr:room∈rooms):ofR w room=⟨room,openR room⟩:=by
 have e:rooms=[roomR,roomQ]:=rfl
 rw [e] at hr
 rcases List.mem_cons.1 hr with rfl | hr
 ·exact h.r
 ·rw [List.mem_singleton.1 hr]; exact h.q
theorem Opened.joined {v:VView} {w:RView} (h:Opened v w) {u room:ByteArray} (hu:u∈users) (hr:room∈rooms):jb w u room=true:=by
 obtain ⟨m,m1,m2,_⟩:=relV_of h.rel room
 rw [h.room hr] at m2
 unfold jb
 rw [h.room hr]
 have hp:=all_perm m2.good
 obtain ⟨i,hi,hui⟩:=List.getElem_of_mem hu
 have hi9:i<9:=hi
 have hm:oneE room i∈openR room:=List.mem_map.2 ⟨i,List.mem_range.2 hi9,rfl⟩
 have hfu:(oneE room i).fUser=u:=by
  show users.getD i default=u
  rw [List.getD_eq_getElem?_getD,List.getElem?_eq_getElem hi,hui]; rfl
 obtain ⟨e,e1,e2⟩:=lastR_in u (allE (tb (openR room))) none ⟨_,hp.mem_iff.2 hm,by unfold isRel; rw [hfu,decide_eq_true rfl]; rfl⟩
 show isJ (lastR u (allE (tb (openR room))) none)=true
 rw [e2]
 obtain ⟨k,_,rfl⟩:=List.mem_map.1 (hp.mem_iff.1 e1)
 rfl
theorem Opened.inr {v:VView} {w:RView} (h:Opened v w) {room:ByteArray} (hr:room∈rooms):room∈rms w:=by
 have h1:=h.room hr
 unfold ofR at h1
 cases hf:w.fD.find? fun d=>decide (d.fRoom=room) with
 | none=>
  rw [hf] at h1
  have:([]:List Event)=openR room:=congrArg RDag.fL h1
  have:=congrArg List.length this
  rw [openR_len] at this
  cases this
 | some d=>
  have h2:=List.find?_some hf
  rw [← of_decide_eq_true h2]
  exact List.mem_map.2 ⟨d,List.mem_of_find?_eq_some hf,rfl⟩
def s2:ByteArray:=⟨#[115,50]⟩
theorem inB_true {l:List ByteArray} {s:ByteArray} (h:s∈l):inB l s=true:=by
 unfold inB
 simpa using h
theorem Opened.srv {v:VView} {w:RView} (h:Opened v w) {room:ByteArray} (hr:room∈rooms):∃ T,Ev (fun k=>view_View_Servers.f k v room) T∧s2∈T:=
 home_srv h.rel h.rooms h.len (u:=users.getD 1 default) (h.joined (List.mem_of_getElem? (i:=1) rfl) hr) (by decide)
theorem Opened.pb3 {v:VView} {w:RView} (h:Opened v w) {e:Edu} (z:Zz e) (hm:mayL e=true) (hk:(e.fKind==3)=true) (hu:e.fUser∈users):pb w s2 e=true:=by
 obtain ⟨P,p1,p2,p3,p4⟩:=peers_all h.rel h.rooms h.len e.fUser
 have l2:=(may_ev z).2
 rw [hm] at l2
 have hin:s2∈P:=(p4 s2).2 ⟨roomR,List.mem_filter.2 ⟨h.inr (List.mem_cons_self ..),h.joined hu (List.mem_cons_self ..)⟩,h.srv (List.mem_cons_self ..)⟩
 refine pb_of (Ev.bind l2 (Ev.cf rfl (Ev.ct hk (Ev.bind p2 (Ev.bind (has2 p3) ?_)))))
 rw [inB_true hin]
 exact Ev.pure
end Go.Proofs.YtmmaijneehmbgaaGreat
