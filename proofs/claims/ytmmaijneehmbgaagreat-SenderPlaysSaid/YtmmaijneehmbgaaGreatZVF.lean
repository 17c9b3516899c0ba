import Derived.Test.YtmmaijneehmbgaaGreatZVE
import Derived.Test.YtmmaijneehmbgaaGreatZV0
set_option linter.all false
set_option maxRecDepth 10000
namespace Go.Proofs.YtmmaijneehmbgaaGreat
open Go Go.Sp
def evs (k:Nat):ByteArray:=⟨#[36,101,UInt8.ofNat (48+k)]⟩
theorem evs_ok:∀ k,k<9→eventB (evs k)=true:=fun k hk=>by
 have h:(List.range 9).all (fun k=>eventB (evs k))=true:=by kernel_rfl
 exact List.all_eq_true.1 h k (List.mem_range.2 hk)
theorem evs_lt {j k:Nat} (h:j<k) (hk:k<9):sLt (evs j) (evs k)=true:=by
 have h2:(List.range 9).all (fun k=>(List.range k).all fun j=>sLt (evs j) (evs k))=true:=by kernel_rfl
 exact List.all_eq_true.1 (List.all_eq_true.1 h2 k (List.mem_range.2 hk)) j (List.mem_range.2 h)
theorem evs_ne {j k:Nat} (h:j<k) (hk:k<9):evs j≠evs k:=sLt_ne (evs_lt h hk)
theorem evs_inj {j k:Nat} (hj:j<9) (hk:k<9) (h:evs j=evs k):j=k:=by
 rcases Nat.lt_trichotomy j k with h1 | h1 | h1
 ·exact absurd h (evs_ne h1 hk)
 ·exact h1
 ·exact absurd h.symm (evs_ne h1 hj)
theorem evs_size (k:Nat):(evs k).size≤maxLen:=by show (3:Nat)≤9223372036854775807; omega
theorem evs_nil (k:Nat):evs k≠⟨#[]⟩:=fun h=>by
 have:=congrArg (fun s:ByteArray=>s.size) h
 exact absurd this (by show ¬ (3:Nat)=0; decide)
theorem eventOf_at:∀ k:Nat,k<9→Ev (fun n=>r01_EventOf.f n (k:Int)) (evs k):=by
 intro k hk
 refine Ev.add 2 fun m=>?_
 match k,hk with
 | 0,_=>rfl
 | 1,_=>rfl
 | 2,_=>rfl
 | 3,_=>rfl
 | 4,_=>rfl
 | 5,_=>rfl
 | 6,_=>rfl
 | 7,_=>rfl
 | 8,_=>rfl
theorem roomB {r:ByteArray} (h:r∈rooms):namedB r 33=true:=by
 have h2:rooms.all (fun r=>namedB r 33)=true:=by kernel_rfl
 exact List.all_eq_true.1 h2 r h
theorem userB {r:ByteArray} (h:r∈users):namedB r 64=true:=by
 have h2:users.all (fun r=>namedB r 64)=true:=by kernel_rfl
 exact List.all_eq_true.1 h2 r h
theorem room_size {r:ByteArray} (h:r∈rooms):r.size≤maxLen:=by
 have h2:rooms.all (fun r=>decide (r.size≤10))=true:=by kernel_rfl
 have:=of_decide_eq_true (List.all_eq_true.1 h2 r h)
 show _≤9223372036854775807; omega
theorem user_size {r:ByteArray} (h:r∈users):r.size≤maxLen:=by
 have h2:users.all (fun r=>decide (r.size≤10))=true:=by kernel_rfl
 have:=of_decide_eq_true (List.all_eq_true.1 h2 r h)
 show _≤9223372036854775807; omega
theorem nodup_le {l S:List Nat} (hn:l.Nodup) (hs:∀ x∈l,x∈S):l.length≤S.length:=by
 induction l generalizing S with
 | nil=>simp
 | cons a l ih=>
  rw [List.nodup_cons] at hn
  have ha:=hs a (List.mem_cons_self ..)
  have h1:=ih (S:=S.erase a) hn.2 fun x hx=>(List.mem_erase_of_ne fun e=>hn.1 (by rw [← e]; exact hx)).2 (hs x (List.mem_cons_of_mem _ hx))
  rw [List.length_erase_of_mem ha] at h1
  have:=List.length_pos_of_mem ha
  simp only [List.length_cons]; omega
structure MI (room:ByteArray) (L:List Event):Prop where
 len:L.length≤9
 ids:∀ k,k<L.length→(ev L k).fID=evs k
theorem mi_ix {room:ByteArray} {L:List Event} (h:MI room L) {k:Nat} (hk:k<L.length):ix L (evs k)=(k:Int):=by
 have hl:=h.len
 rcases ix_rng L (evs k) with ⟨_,q⟩ | ⟨j,q,hj,he⟩
 ·exact absurd (h.ids k hk) (q k hk)
 ·rw [h.ids j hj] at he
  rw [q,evs_inj (by omega) (by omega) he]
theorem mi_new {room:ByteArray} {L:List Event} (h:MI room L) (hl:L.length<9):ix L (evs L.length) = -1:=by
 rcases ix_rng L (evs L.length) with ⟨q,_⟩ | ⟨j,q,hj,he⟩
 ·exact q
 ·rw [h.ids j hj] at he
  exact absurd (evs_inj (by omega) hl he) (by omega)
theorem made_code {room user th:ByteArray} {L:List Event} {ks:List Nat} {does:Int} (h:MI room L) (hl:L.length<9) (hr:room∈rooms) (hu:user∈users) (hk:∀ k∈ks,k<L.length) (hs:ks.Pairwise (· < ·)) (h4:ks.length≤3) (hd:0≤does∧does<3)
  (ht:th=⟨#[]⟩∨(does=0∧∃ t,t<L.length∧th=evs t∧(ev L t).fDoes=0∧(ev L t).fThread=⟨#[]⟩)):code ⟨room,L⟩ ⟨evs L.length,room,ks.map evs,th,user,does⟩=0:=by
 have hpar:∀ i,(hi:i<ks.length)→par ⟨evs L.length,room,ks.map evs,th,user,does⟩ i=evs ks[i]:=fun i hi=>by
  unfold par
  rw [List.getD_eq_getElem?_getD,List.getElem?_map,List.getElem?_eq_getElem hi]; rfl
 have hmay:mayB7 ⟨evs L.length,room,ks.map evs,th,user,does⟩=true:=by
  unfold mayB7
  simp only [evs_ok _ hl,roomB hr,userB hu,Bool.true_and,List.length_map,Bool.and_eq_true,decide_eq_true_eq,allp_iff]
  refine ⟨by omega,hd.1,by omega,?_,fun i _ hi=>?_⟩
  ·unfold thrB
   rcases ht with ht | ⟨h0,t,h1,h2,_⟩
   ·simp [ht]
   ·simp only [h2,evs_ok t (by omega),h0,Bool.true_and,decide_true,Bool.and_true,Bool.or_eq_true,Bool.not_eq_true',decide_eq_false_iff_not]
    exact .inr (evs_ne h1 hl)
  ·unfold parB
   rw [hpar i hi]
   have hki:=hk _ (List.getElem_mem hi)
   simp only [evs_ok _ (show ks[i]<9 by omega),Bool.true_and,Bool.and_eq_true,Bool.not_eq_true',decide_eq_false_iff_not,Bool.or_eq_true,decide_eq_true_eq]
   refine ⟨evs_ne hki hl,?_⟩
   by_cases h0:i=0
   ·exact .inl h0
   ·right
    rw [hpar (i-1) (by omega)]
    exact evs_lt (List.pairwise_iff_getElem.1 hs (i-1) i (by omega) hi (by omega)) (by omega)
 unfold code
 rw [hmay]
 have hall:allp (fun i=>decide (0≤ix L (par ⟨evs L.length,room,ks.map evs,th,user,does⟩ i))) 0 (ks.map evs).length=true:=by
  rw [allp_iff]
  intro i _ hi
  rw [List.length_map] at hi
  rw [hpar i hi,mi_ix h (hk _ (List.getElem_mem hi))]
  simp
 simp only [Bool.true_eq_false,if_false,ne_eq,not_true_eq_false,mi_new h hl,hall]
 rw [if_neg (by omega)]
 rcases ht with ht | ⟨h0,t,h1,h2,h3,h5⟩
 ·simp [ht]
 ·rw [if_neg (by rw [h2]; exact evs_nil t),h2,mi_ix h h1,Int.toNat_natCast,h3,h5]
  simp
theorem made_ok {room user th:ByteArray} {n:Nat} {ks:List Nat} {does:Int} (hr:room∈rooms) (hu:user∈users) (h4:ks.length≤3) (hd:0≤does∧does<3) (ht:th=⟨#[]⟩∨∃ t,th=evs t):Event.ok ⟨evs n,room,ks.map evs,th,user,does⟩:=by
 refine ⟨evs_size _,room_size hr,⟨by rw [List.length_map]; show _≤9223372036854775807; omega,fun x hx=>?_⟩,?_,user_size hu,?_,trivial⟩
 ·obtain ⟨k,_,rfl⟩:=List.mem_map.1 hx; exact evs_size k
 ·rcases ht with rfl | ⟨t,rfl⟩
  ·show (0:Nat)≤9223372036854775807; omega
  ·exact evs_size t
 ·have:does=0∨does=1∨does=2:=by omega
  rcases this with rfl | rfl | rfl <;> rfl
end Go.Proofs.YtmmaijneehmbgaaGreat
