import Derived.Test.YtcchplmcefamhaaGreatZMB
import Derived.Test.YtcchplmcefamhaaGreatZMA
import Derived.Test.YtcchplmcefamhaaGreatZWalks1
import Derived.Test.YtcchplmcefamhaaGreatConA6
set_option linter.all false
set_option maxRecDepth 10000
namespace Go.Proofs.YtcchplmcefamhaaGreat
open Go Go.Sp
def lt (t:Tab) (a b:Event):Prop:=ltOf posC (pos t a.fID) (pos t b.fID) = true
theorem lt_irr {t:Tab} {a:Event} (h:lt t a a):False:=by have:=posC_swo.irrefl (pos t a.fID); unfold lt at h; rw [h] at this; cases this
theorem lt_tr {t:Tab} {a b c:Event} (h:lt t a b) (k:lt t b c):lt t a c:=posC_swo.trans _ _ _ h k
def evOf (t:Tab) (id:ByteArray):Event:=((mget t id).map (·.1)).getD default
def PL (t:Tab):List Pos:=t.map fun x=>⟨x.2.2,x.1⟩
def allE (t:Tab):List Event:=(srtF posC (PL t)).map fun p=>evOf t p.fID
section
variable {t:Tab} (hn:(t.map (·.1)).Nodup) (hi:∀ x∈t,x.2.1.fID = x.1)
include hn
theorem t_get {x:ByteArray×(Event×Int)} (h:x∈t):mget t x.1 = some x.2:=by
 obtain ⟨i,h1⟩:=List.mem_iff_getElem?.1 h
 exact mget_nd hn h1
theorem evOf_in {x:ByteArray×(Event×Int)} (h:x∈t):evOf t x.1 = x.2.1:=by unfold evOf; rw [t_get hn h]; rfl
theorem pos_in {x:ByteArray×(Event×Int)} (h:x∈t):pos t x.1 = ⟨x.2.2,x.1⟩:=by unfold pos dpt; rw [t_get hn h]; rfl
theorem allE_perm:(allE t).Perm (t.map (·.2.1)):=by
 have h1:(allE t).Perm ((PL t).map fun p=>evOf t p.fID):=(srtF_p _).map _
 have h2:(PL t).map (fun p=>evOf t p.fID) = t.map (·.2.1):=by
  unfold PL
  rw [List.map_map]
  exact List.map_congr_left fun x hx=>evOf_in hn hx
 rw [h2] at h1; exact h1
include hi
theorem allE_srt:(allE t).Pairwise (lt t):=by
 unfold allE
 rw [List.pairwise_map]
 have hnd:(srtF posC (PL t)).Nodup:=by
  rw [(srtF_p _).nodup_iff]
  have:((PL t).map (·.fID)).Nodup:=by unfold PL; rw [List.map_map]; exact hn
  exact List.Pairwise.of_map _ (fun a b h e=>h (congrArg _ e)) this
 have hp:∀ p∈srtF posC (PL t),pos t (evOf t p.fID).fID = p:=fun p hp=>by
  have:=(srtF_p _).mem_iff.1 hp
  obtain ⟨x,hx,rfl⟩:=List.mem_map.1 this
  show pos t (evOf t x.1).fID = _
  rw [evOf_in hn hx,hi x hx,pos_in hn hx]
 refine List.Pairwise.imp_of_mem ?_ ((srtF_pw posC_swo (PL t)).and hnd)
 intro a b ha hb h
 show ltOf posC _ _ = true
 rw [hp a ha,hp b hb]
 cases h2:ltOf posC a b with
 | true=>rfl
 | false=>exact absurd (posC_tot a b h2 h.1) h.2
end
theorem tb_id (L:List Event):∀ x∈tb L,x.2.1.fID = x.1:=by
 induction L using rev_ind with
 | h0=>intro x hx; cases hx
 | h1 l e ih=>
  intro x hx
  rw [tb_app] at hx
  rcases List.mem_append.1 hx with h | h
  ·exact ih x h
  ·rw [List.mem_singleton.1 h]
theorem all_perm {L:List Event} (hg:Good L):(allE (tb L)).Perm L:=by have:=allE_perm (good_nd hg); rwa [tb_evs] at this
theorem all_srt {L:List Event} (hg:Good L):(allE (tb L)).Pairwise (lt (tb L)):=allE_srt (good_nd hg) (tb_id L)
theorem own_ev {e:Event} (h:e.fParents.length≤4):dag_own.f e = some e:=by
 unfold dag_own.f slices_Clone_string.f
 simp only [grd]
 rw [if_pos ⟨by omega,by omega⟩]; rfl
structure RT (m:DDag) (t:Tab):Prop where
 tab:T m = t
 nd:(t.map (·.1)).Nodup
 id:∀ x∈t,x.2.1.fID = x.1
 par:∀ x∈t,x.2.1.fParents.length≤4
 len:t.length≤1000
theorem all_ev {m:DDag} {t:Tab} (hr:RT m t):Ev (fun k=>dag_Dag_All.f k m) (allE t):=by
 have hfn:m.fnodes.length = t.length:=by rw [← hr.tab]; unfold T; rw [List.length_map]
 have hlen:=hr.len
 have e1:m.fnodes.filterMap dag_Dag_ids_All.g = PL t:=by
  unfold PL
  rw [← hr.tab]
  unfold T
  rw [List.map_map,← List.filterMap_eq_map]
  rfl
 have hid:dag_Dag_ids_All.f m = some ((srtF posC (PL t)).map (·.fID)):=by
  unfold dag_Dag_ids_All.f
  rw [e1]; simp only [grd]; rw [if_pos (by omega)]
 have hS:∀ p∈srtF posC (PL t),∃ x∈t,p.fID = x.1:=fun p hp=>by
  obtain ⟨x,hx,rfl⟩:=List.mem_map.1 ((srtF_p _).mem_iff.1 hp); exact ⟨x,hx,rfl⟩
 have hSl:(srtF posC (PL t)).length≤1000:=by rw [(srtF_p _).length_eq]; unfold PL; rw [List.length_map]; exact hlen
 have loop:∀ S:List Pos,S.length≤1000→(∀ p∈S,∃ x∈t,p.fID = x.1)→∀ n x:Nat,S.length - x = n→x≤S.length→∀ out:List Event,out.length = x→
   El (fun k j=>dag_Dag_All.l0 k m (S.map (·.fID)) j (x:Int) out) (((S.map (·.fID)).length:Int),(S.length:Int),false,out++(S.drop x).map (fun p=>evOf t p.fID),S.map (·.fID)):=by
  intro S hSl hS n
  induction n with
  | zero=>
   intro x hd hx out ho
   obtain rfl:x = S.length:=by omega
   refine El.step (fun _ _=>by rw [dag_Dag_All.l0]) ?_
   have:decide ((S.length:Int) < ((S.map (·.fID)).length:Int)) = false:=decide_eq_false (by rw [List.length_map]; omega)
   rw [List.drop_length,List.map_nil,List.append_nil]
   exact El.cf this (by rw [this]; exact El.pure)
  | succ n ih=>
   intro x hd hx out ho
   have hx2:x < S.length:=by omega
   have hat:(S.map (·.fID)).getD x default = (S[x]).fID:=by rw [List.getD_eq_getElem?_getD,List.getElem?_map,List.getElem?_eq_getElem hx2]; rfl
   obtain ⟨y,hy,he⟩:=hS S[x] (List.getElem_mem hx2)
   have hg:mget t (S[x]).fID = some y.2:=by rw [he]; exact t_get hr.nd hy
   have hm:(mget m.fnodes (S[x]).fID).map (fun nd=>(nd.fe,nd.fdepth)) = some y.2:=by rw [← T_get,hr.tab]; exact hg
   obtain ⟨nd,hnd⟩:∃ nd,mget m.fnodes (S[x]).fID = some nd:=by
    cases h:mget m.fnodes (S[x]).fID with
    | none=>rw [h] at hm; cases hm
    | some nd=>exact ⟨nd,rfl⟩
   have hfe:nd.fe = evOf t (S[x]).fID:=by
    rw [hnd] at hm
    unfold evOf
    rw [hg,← Option.some.inj hm]; rfl
   have hpl:nd.fe.fParents.length≤4:=by
    rw [hnd] at hm
    have:=congrArg Prod.fst (Option.some.inj hm)
    simp only at this
    rw [this]; exact hr.par y hy
   refine El.step (fun _ _=>by rw [dag_Dag_All.l0]) ?_
   rw [Int.toNat_natCast,hat]
   refine El.ct (decide_eq_true (by rw [List.length_map]; omega)) (El.grd ⟨by omega,by rw [List.length_map]; omega⟩ (El.grd (by rw [hnd]; rfl) ?_))
   rw [hnd]
   refine El.bind (Ev.of (own_ev hpl)).el (El.grd ⟨by rw [List.length_singleton]; omega,by rw [List.length_singleton]; omega⟩ ?_)
   rw [rp_inc (show x≤1000000 by omega)]
   have:=ih (x + 1) (by omega) (by omega) (out++[nd.fe]) (by rw [List.length_append,List.length_singleton]; omega)
   rw [List.drop_eq_getElem_cons hx2,List.map_cons,← hfe]
   rw [List.append_assoc] at this
   exact this
 unfold dag_Dag_All.f
 refine Ev.bind (Ev.bind (Ev.of hid) (loop _ hSl hS _ 0 rfl (by omega) [] rfl).diag) (Ev.of ?_)
 rw [List.drop_zero]; rfl
end Go.Proofs.YtcchplmcefamhaaGreat
