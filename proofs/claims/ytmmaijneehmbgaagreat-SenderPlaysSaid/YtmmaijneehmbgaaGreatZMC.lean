import Derived.Test.YtmmaijneehmbgaaGreatZMB
import Derived.Test.YtmmaijneehmbgaaGreatZMA
import Derived.Test.YtmmaijneehmbgaaGreatZWalks1
import Derived.Test.YtmmaijneehmbgaaGreatConA6
set_option linter.all false
set_option maxRecDepth 10000
namespace Go.Proofs.YtmmaijneehmbgaaGreat
open Go Go.Sp
def lt (t:Tab) (a b:Event):Prop:=ltOf posC (pos t a.fID) (pos t b.fID)=true
theorem lt_irr {t:Tab} {a:Event} (h:lt t a a):False:=by have:=posC_swo.irrefl (pos t a.fID); unfold lt at h; rw [h] at this; cases this
theorem lt_tr {t:Tab} {a b c:Event} (h:lt t a b) (k:lt t b c):lt t a c:=posC_swo.trans _ _ _ h k
def evOf (t:Tab) (id:ByteArray):Event:=((mget t id).map (·.1)).getD default
def PL (t:Tab):List Pos:=t.map fun x=>⟨x.2.2,x.1⟩
def allE (t:Tab):List Event:=(srtF posC (PL t)).map fun p=>evOf t p.fID
section
variable {t:Tab} (hn:(t.map (·.1)).Nodup) (hi:∀ x∈t,x.2.1.fID=x.1)
include hn
theorem t_get {x:ByteArray×(Event×Int)} (h:x∈t):mget t x.1=some x.2:=by
 obtain ⟨i,h1⟩:=List.mem_iff_getElem?.1 h
 exact mget_nd hn h1
theorem evOf_in {x:ByteArray×(Event×Int)} (h:x∈t):evOf t x.1=x.2.1:=by unfold evOf; rw [t_get hn h]; rfl
theorem pos_in {x:ByteArray×(Event×Int)} (h:x∈t):pos t x.1=⟨x.2.2,x.1⟩:=by unfold pos dpt; rw [t_get hn h]; rfl
theorem allE_perm:(allE t).Perm (t.map (·.2.1)):=by
 have h1:(allE t).Perm ((PL t).map fun p=>evOf t p.fID):=(srtF_p _).map _
 have h2:(PL t).map (fun p=>evOf t p.fID)=t.map (·.2.1):=by
  unfold PL
  rw [List.map_map]
  exact List.map_congr_left fun x hx=>evOf_in hn hx
 rw [h2] at h1; exact h1
include hi
theorem allE_srt:(allE t).Pairwise (lt t):=by
 unfold allE
 rw [List.pairwise_map]
 have hnd:(srtF posC (PL t)).Nodup:=by
  rw [(srtF_p _).nodup_iff]
  have:((PL t).map (·.fID)).Nodup:=by unfold PL; rw [List.map_map]; exact hn
  exact List.Pairwise.of_map _ (fun a b h e=>h (congrArg _ e)) this
 have hp:∀ p∈srtF posC (PL t),pos t (evOf t p.fID).fID=p:=fun p hp=>by
  have:=(srtF_p _).mem_iff.1 hp
  obtain ⟨x,hx,rfl⟩:=List.mem_map.1 this
  show pos t (evOf t x.1).fID=_
  rw [evOf_in hn hx,hi x hx,pos_in hn hx]
 refine List.Pairwise.imp_of_mem ?_ ((srtF_pw posC_swo (PL t)).and hnd)
 intro a b ha hb h
 show ltOf posC _ _=true
 rw [hp a ha,hp b hb]
 cases h2:ltOf posC a b with
 | true=>rfl
 | false=>exact absurd (posC_tot a b h2 h.1) h.2
end
theorem tb_id (L:List Event):∀ x∈tb L,x.2.1.fID=x.1:=by
 induction L using rev_ind with
 | h0=>intro x hx; cases hx
 | h1 l e ih=>
  intro x hx
  rw [tb_app] at hx
  rcases List.mem_append.1 hx with h | h
  ·exact ih x h
  ·rw [List.mem_singleton.1 h]
theorem all_perm {L:List Event} (hg:Good L):(allE (tb L)).Perm L:=by have:=allE_perm (good_nd hg); rwa [tb_evs] at this
theorem all_srt {L:List Event} (hg:Good L):(allE (tb L)).Pairwise (lt (tb L)):=allE_srt (good_nd hg) (tb_id L)
theorem own_ev {e:Event} (h:e.fParents.length≤4):dag_own.f e=some e:=by
 unfold dag_own.f slices_Clone_string.f
 simp only [grd]
 rw [if_pos ⟨by omega,by omega⟩]; rfl
structure RT (m:DDag) (t:Tab):Prop where
 tab:T m=t
 nd:(t.map (·.1)).Nodup
 id:∀ x∈t,x.2.1.fID=x.1
 par:∀ x∈t,x.2.1.fParents.length≤4
 len:t.length≤1000
theorem all_ev {m:DDag} {t:Tab} (hr:RT m t):Ev (fun k=>dag_Dag_All.f k m) (allE t):=by
 have hfn:m.fnodes.length=t.length:=by rw [← hr.tab]; unfold T; rw [List.length_map]
 have hlen:=hr.len
 have e1:m.fnodes.filterMap dag_Dag_ids_All.g=PL t:=by
  unfold PL
  rw [← hr.tab]
  unfold T
  rw [List.map_map,← List.filterMap_eq_map]
  rfl
 have hid:dag_Dag_ids_All.f m=some ((srtF posC (PL t)).map (·.fID)):=by
  unfold dag_Dag_ids_All.f
  rw [e1]; simp only [grd]; rw [if_pos (by omega)]
 have hS:∀ p∈srtF posC (PL t),∃ x∈t,p.fID=x.1:=fun p hp=>by
  obtain ⟨x,hx,rfl⟩:=List.mem_map.1 ((srtF_p _).mem_iff.1 hp); exact ⟨x,hx,rfl⟩
 have hSl:(srtF posC (PL t)).length≤1000:=by rw [(srtF_p _).length_eq]; unfold PL; rw [List.length_map]; exact hlen
 have loop:∀ S:List Pos,S.length≤1000→(∀ p∈S,∃ x∈t,p.fID=x.1)→∀ n x:Nat,S.length-x=n→x≤S.length→∀ out:List Event,out.length=x→
   El (fun k j=>dag_Dag_All.l0 k m (S.map (·.fID)) j (x:Int) out) (((S.map (·.fID)).length:Int),(S.length:Int),false,out++(S.drop x).map (fun p=>evOf t p.fID),S.map (·.fID)):=by
  intro S hSl hS n
  induction n with
  | zero=>
   intro x hd hx out ho
   obtain rfl:x=S.length:=by omega
   refine El.step (fun _ _=>by rw [dag_Dag_All.l0]) ?_
   have:decide ((S.length:Int)<((S.map (·.fID)).length:Int))=false:=decide_eq_false (by rw [List.length_map]; omega)
   rw [List.drop_length,List.map_nil,List.append_nil]
   exact El.cf this (by rw [this]; exact El.pure)
  | succ n ih=>
   intro x hd hx out ho
   have hx2:x<S.length:=by omega
   have hat:(S.map (·.fID)).getD x default=(S[x]).fID:=by rw [List.getD_eq_getElem?_getD,List.getElem?_map,List.getElem?_eq_getElem hx2]; rfl
   obtain ⟨y,hy,he⟩:=hS S[x] (List.getElem_mem hx2)
   have hg:mget t (S[x]).fID=some y.2:=by rw [he]; exact t_get hr.nd hy
   have hm:(mget m.fnodes (S[x]).fID).map (fun nd=>(nd.fe,nd.fdepth))=some y.2:=by rw [← T_get,hr.tab]; exact hg
   obtain ⟨nd,hnd⟩:∃ nd,mget m.fnodes (S[x]).fID=some nd:=by
    cases h:mget m.fnodes (S[x]).fID with
    | none=>rw [h] at hm; cases hm
    | some nd=>exact ⟨nd,rfl⟩
   have hfe:nd.fe=evOf t (S[x]).fID:=by
    rw [hnd] at hm
    unfold evOf
    rw [hg,← Option.some.inj hm]; rfl
   have hpl:nd.fe.fParents.length≤4:=by
    rw [hnd] at hm
    have:=congrArg Prod.fst (Option.some.inj hm)
    simp only at this
    rw [this]; exact hr.par y hy
   refine El.step (fun _ _=>by rw [dag_Dag_All.l0]) ?_
   rw [Int.toNat_natCast,hat]
   refine El.ct (decide_eq_true (by rw [List.length_map]; omega)) (El.grd ⟨by omega,by rw [List.length_map]; omega⟩ (El.grd (by rw [hnd]; rfl) ?_))
   rw [hnd]
   refine El.bind (Ev.of (own_ev hpl)).el (El.grd ⟨by rw [List.length_singleton]; omega,by rw [List.length_singleton]; omega⟩ ?_)
   rw [rp_inc (show x≤1000000 by omega)]
   have:=ih (x+1) (by omega) (by omega) (out++[nd.fe]) (by rw [List.length_append,List.length_singleton]; omega)
   rw [List.drop_eq_getElem_cons hx2,List.map_cons,← hfe]
   rw [List.append_assoc] at this
   exact this
 unfold dag_Dag_All.f
 refine Ev.bind (Ev.bind (Ev.of hid) (loop _ hSl hS _ 0 rfl (by omega) [] rfl).diag) (Ev.of ?_)
 rw [List.drop_zero]; rfl
def jstep (acc:List (ByteArray×Int)) (e:Event):List (ByteArray×Int):=if e.fDoes=1 then mput acc e.fUser 1 else if e.fDoes=2 then mdel acc e.fUser else acc
def jm (A:List Event):List (ByteArray×Int):=A.foldl jstep []
def isRel (u:ByteArray) (e:Event):Bool:=decide (e.fUser=u) && !decide (e.fDoes=0)
def lastR (u:ByteArray) (A:List Event) (r:Option Event):Option Event:=A.foldl (fun r e=>if isRel u e=true then some e else r) r
def oj:Option Event→Option Int
 | some e=>if e.fDoes=1 then some 1 else none
 | none=>none
theorem j_inv:∀ (A:List Event),(∀ e∈A,e.fDoes=0∨e.fDoes=1∨e.fDoes=2)→∀ (acc:List (ByteArray×Int)) (r:ByteArray→Option Event),Nd acc→(∀ u,mget acc u=oj (r u))→Nd (A.foldl jstep acc)∧∀ u,mget (A.foldl jstep acc) u=oj (lastR u A (r u))
 | [],_,acc,r,h1,h2=>⟨h1,h2⟩
 | e::A,hd,acc,r,h1,h2=>by
  show Nd (A.foldl jstep (jstep acc e))∧∀ u,mget (A.foldl jstep (jstep acc e)) u=oj (lastR u A (if isRel u e=true then some e else r u))
  refine j_inv A (fun x hx=>hd x (List.mem_cons_of_mem _ hx)) (jstep acc e) (fun u=>if isRel u e=true then some e else r u) ?_ fun u=>?_
  ·unfold jstep
   split
   ·exact nd_put h1
   ·split
    ·exact (List.Sublist.map _ mdel_sub).nodup h1
    ·exact h1
  ·unfold jstep isRel
   rcases hd e (List.mem_cons_self ..) with h | h | h
   ·rw [if_neg (by omega),if_neg (by omega),h2]; simp [h]
   ·rw [if_pos h,mget_put,h2]
    by_cases hu:e.fUser=u
    ·simp [hu,h,oj]
    ·simp [hu]
   ·rw [if_neg (by omega),if_pos h,mget_del h1,h2]
    by_cases hu:e.fUser=u
    ·simp [hu,h,oj]
    ·simp [hu]
theorem jstep_len (acc:List (ByteArray×Int)) (e:Event):(jstep acc e).length≤acc.length+1:=by
 unfold jstep
 split
 ·cases h:mget acc e.fUser with
  | none=>rw [mput_new h]; simp
  | some v=>have:=mput_map (fun x=>x.1) (a':=(1:Int)) h rfl; have:=congrArg List.length this; simp at this; omega
 ·split
  ·have:=(mdel_sub (m:=acc) (k:=e.fUser)).length_le; omega
  ·omega
theorem jm_len:∀ (A:List Event) (acc:List (ByteArray×Int)),(A.foldl jstep acc).length≤acc.length+A.length
 | [],acc=>by simp
 | e::A,acc=>by
  have:=jm_len A (jstep acc e)
  have:=jstep_len acc e
  show (A.foldl jstep (jstep acc e)).length≤_
  rw [List.length_cons]; omega
theorem joined_loop {A:List Event} (hl:A.length≤1000):∀ n x:Nat,A.length-x=n→x≤A.length→∀ acc,
  ∃ r:Int×Int×Bool×List (ByteArray×Int)×List Event,El (fun k j=>member_joined.l0 k A j (x:Int) acc) r∧r.2.2.2.1=(A.drop x).foldl jstep acc:=by
 intro n
 induction n with
 | zero=>
  intro x hd hx acc
  obtain rfl:x=A.length:=by omega
  refine ⟨((A.length:Int),(A.length:Int),false,acc,A),?_,by rw [List.drop_length]; rfl⟩
  refine El.step (fun _ _=>by rw [member_joined.l0]) ?_
  exact El.cf (by simp) (by simpa using El.pure)
 | succ n ih=>
  intro x hd hx acc
  have hx2:x<A.length:=by omega
  have hat:A.getD x default=ev A x:=rfl
  have hdr:A.drop x=ev A x::A.drop (x+1):=by rw [List.drop_eq_getElem_cons hx2]; unfold ev; rw [List.getD_eq_getElem?_getD,List.getElem?_eq_getElem hx2]; rfl
  obtain ⟨r,r1,r2⟩:=ih (x+1) (by omega) (by omega) (jstep acc (ev A x))
  refine ⟨r,?_,by rw [hdr]; exact r2⟩
  refine El.step (fun _ _=>by rw [member_joined.l0]) ?_
  rw [Int.toNat_natCast,hat,rp_inc (show x≤1000000 by omega)]
  refine El.ct (decide_eq_true (by omega)) (El.grd ⟨by omega,by omega⟩ ?_)
  unfold jstep at r1
  by_cases h1:(ev A x).fDoes=1
  ·rw [if_pos h1] at r1
   exact El.ct (by simp [h1]) r1
  ·rw [if_neg h1] at r1
   refine El.cf (by simp [h1]) ?_
   by_cases h2:(ev A x).fDoes=2
   ·rw [if_pos h2] at r1
    exact El.ct (by simp [h2]) r1
   ·rw [if_neg h2] at r1
    exact El.cf (by simp [h2]) r1
theorem joined_ev {m:DDag} {t:Tab} (hr:RT m t):Ev (fun k=>member_joined.f k m) (jm (allE t)):=by
 have hl:(allE t).length≤1000:=by unfold allE; rw [List.length_map,(srtF_p _).length_eq]; unfold PL; rw [List.length_map]; exact hr.len
 obtain ⟨r,r1,r2⟩:=joined_loop hl _ 0 rfl (by omega) []
 unfold member_joined.f
 refine Ev.bind (Ev.bind (all_ev hr) r1.diag) (Ev.of ?_)
 rw [r2]; rfl
def Mx (t:Tab) (L:List Event) (u:ByteArray):Option Event→Prop
 | none=>∀ e∈L,isRel u e=false
 | some e=>e∈L∧isRel u e=true∧∀ e'∈L,isRel u e'=true→e'=e∨lt t e' e
theorem mx_uniq {t:Tab} {L:List Event} {u:ByteArray}:∀ {o o':Option Event},Mx t L u o→Mx t L u o'→o=o'
 | none,none,_,_=>rfl
 | none,some e,h,h'=>by have:=h e h'.1; rw [h'.2.1] at this; cases this
 | some e,none,h,h'=>by have:=h' e h.1; rw [h.2.1] at this; cases this
 | some e,some e',h,h'=>by
  rcases h.2.2 e' h'.1 h'.2.1 with k | k
  ·rw [k]
  ·rcases h'.2.2 e h.1 h.2.1 with q | q
   ·rw [q]
   ·exact (lt_irr (lt_tr k q)).elim
theorem last_mx {t:Tab} {u:ByteArray}:∀ (A:List Event),A.Pairwise (lt t)→∀ r:Option Event,match lastR u A r with
  | none=>r=none∧∀ e∈A,isRel u e=false
  | some e=>(r=some e∧∀ e'∈A,isRel u e'=false)∨(e∈A∧isRel u e=true∧∀ e'∈A,isRel u e'=true→e'=e∨lt t e' e)
 | [],_,none=>⟨rfl,fun _ h=>by cases h⟩
 | [],_,some e=>.inl ⟨rfl,fun _ h=>by cases h⟩
 | x::A,h,r=>by
  rw [List.pairwise_cons] at h
  have ih:=last_mx (u:=u) A h.2 (if isRel u x=true then some x else r)
  show match lastR u A (if isRel u x=true then some x else r) with
   | none=>r=none∧∀ e∈x::A,isRel u e=false
   | some e=>(r=some e∧∀ e'∈x::A,isRel u e'=false)∨(e∈x::A∧isRel u e=true∧∀ e'∈x::A,isRel u e'=true→e'=e∨lt t e' e)
  cases hq:lastR u A (if isRel u x=true then some x else r) with
  | none=>
   rw [hq] at ih
   cases hx:isRel u x with
   | true=>rw [hx] at ih; cases ih.1
   | false=>
    rw [hx] at ih
    exact ⟨ih.1,fun e he=>(List.mem_cons.1 he).elim (fun k=>by rw [k]; exact hx) (ih.2 e)⟩
  | some e=>
   rw [hq] at ih
   rcases ih with ⟨h1,h2⟩ | ⟨h1,h2,h3⟩
   ·cases hx:isRel u x with
    | true=>
     rw [hx] at h1
     cases h1
     refine .inr ⟨List.mem_cons_self ..,hx,fun e' he hr=>?_⟩
     rcases List.mem_cons.1 he with k | k
     ·exact .inl k
     ·have:=h2 e' k; rw [hr] at this; cases this
    | false=>
     rw [hx] at h1
     exact .inl ⟨h1,fun e' he=>(List.mem_cons.1 he).elim (fun k=>by rw [k]; exact hx) (h2 e')⟩
   ·refine .inr ⟨List.mem_cons_of_mem _ h1,h2,fun e' he hr=>?_⟩
    rcases List.mem_cons.1 he with k | k
    ·rw [k]; exact .inr (h.1 e h1)
    ·exact h3 e' k hr
theorem last_all {L:List Event} (hg:Good L) (u:ByteArray):Mx (tb L) L u (lastR u (allE (tb L)) none):=by
 have h:=last_mx (u:=u) (allE (tb L)) (all_srt hg) none
 have hm:∀ e,e∈allE (tb L)↔e∈L:=fun e=>(all_perm hg).mem_iff
 cases hq:lastR u (allE (tb L)) none with
 | none=>rw [hq] at h; exact fun e he=>h.2 e ((hm e).2 he)
 | some e=>
  rw [hq] at h
  rcases h with ⟨h,_⟩ | ⟨h1,h2,h3⟩
  ·cases h
  ·exact ⟨(hm e).1 h1,h2,fun e' he=>h3 e' ((hm e').2 he)⟩
end Go.Proofs.YtmmaijneehmbgaaGreat
