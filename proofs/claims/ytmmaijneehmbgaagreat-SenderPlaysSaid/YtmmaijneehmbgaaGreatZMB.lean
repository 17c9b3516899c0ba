import Derived.Test.YtmmaijneehmbgaaGreatZMD
set_option linter.all false
set_option maxRecDepth 10000
namespace Go.Proofs.YtmmaijneehmbgaaGreat
open Go Go.Sp
abbrev Tab:=List (ByteArray×(Event×Int))
theorem rev_ind {α:Type} {P:List α→Prop} (h0:P []) (h1:∀ l e,P l→P (l++[e])) (l:List α):P l:=by
 have:∀ r:List α,P r.reverse:=fun r=>by
  induction r with
  | nil=>exact h0
  | cons e r ih=>rw [List.reverse_cons]; exact h1 _ _ ih
 rw [← List.reverse_reverse l]; exact this _
def inB (l:List ByteArray) (s:ByteArray):Bool:=l.any fun x=>decide (x=s)
theorem inB_iff {l:List ByteArray} {s:ByteArray}:inB l s=true↔s∈l:=by simp [inB]
theorem inB_no {l:List ByteArray} {s:ByteArray} (h:s ∉ l):inB l s=false:=by
 cases e:inB l s with
 | false=>rfl
 | true=>exact absurd (inB_iff.1 e) h
def isPar (L:List Event) (id:ByteArray):Bool:=L.any fun e=>inB e.fParents id
def tstep (t:Tab) (e:Event):Tab:=t++[(e.fID,(e,dOf t e.fParents 0))]
def tb (L:List Event):Tab:=L.foldl tstep []
theorem tb_app (L:List Event) (e:Event):tb (L++[e])=tb L++[(e.fID,(e,dOf (tb L) e.fParents 0))]:=by unfold tb; rw [List.foldl_append]; rfl
theorem tb_keys (L:List Event):(tb L).map (·.1)=L.map (·.fID):=by
 induction L using rev_ind with
 | h0=>rfl
 | h1 l e ih=>rw [tb_app,List.map_append,List.map_append,ih]; rfl
theorem tb_evs (L:List Event):(tb L).map (·.2.1)=L:=by
 induction L using rev_ind with
 | h0=>rfl
 | h1 l e ih=>rw [tb_app,List.map_append,ih]; rfl
theorem tb_len (L:List Event):(tb L).length=L.length:=by
 have:=congrArg List.length (tb_evs L); rwa [List.length_map] at this
theorem tb_pre (A B:List Event):∃ Z,tb (A++B)=tb A++Z:=by
 induction B using rev_ind with
 | h0=>exact ⟨[],by simp⟩
 | h1 l e ih=>
  obtain ⟨Z,h⟩:=ih
  exact ⟨Z++[(e.fID,(e,dOf (tb (A++l)) e.fParents 0))],by rw [← List.append_assoc,tb_app,h,List.append_assoc]⟩
theorem dpt_b {t:Tab} {B:Int} (hB:0≤B) (h:∀ x∈t,0≤x.2.2∧x.2.2≤B) (p:ByteArray):0≤dpt t p∧dpt t p≤B:=by
 unfold dpt
 cases e:mget t p with
 | none=>exact ⟨Int.le_refl _,hB⟩
 | some v=>exact h _ (mget_in e)
theorem dOf_b {t:Tab} {B:Int} (hB:0≤B) (h:∀ x∈t,0≤x.2.2∧x.2.2≤B):∀ (ps:List ByteArray) (d:Int),0≤d∧d≤B+1→0≤dOf t ps d∧dOf t ps d≤B+1
 | [],d,hd=>hd
 | p::ps,d,hd=>by
  have:=dpt_b hB h p
  exact dOf_b hB h ps (max d (dpt t p+1)) ⟨by omega,by omega⟩
theorem tb_b (L:List Event):∀ x∈tb L,0≤x.2.2∧x.2.2≤(L.length:Int):=by
 induction L using rev_ind with
 | h0=>intro x hx; cases hx
 | h1 l e ih=>
  intro x hx
  rw [tb_app] at hx
  rw [List.length_append,List.length_singleton]
  rcases List.mem_append.1 hx with h | h
  ·have:=ih x h; omega
  ·rw [List.mem_singleton.1 h]
   have:=dOf_b (t:=tb l) (B:=(l.length:Int)) (by omega) ih e.fParents 0 (by omega)
   show 0≤dOf _ _ _∧dOf _ _ _≤_
   omega
theorem dpt_l (L:List Event) (p:ByteArray):0≤dpt (tb L) p∧dpt (tb L) p≤(L.length:Int):=dpt_b (by omega) (tb_b L) p
theorem low_tb {m:DDag} {L:List Event} (h:T m=tb L) (hl:L.length≤100000):Low m:=fun x hx=>by
 have h1:key3 x∈T m:=List.mem_map.2 ⟨x,hx,rfl⟩
 rw [h] at h1
 have:=tb_b L _ h1
 show 0≤(key3 x).2.2∧(key3 x).2.2≤_
 omega
structure Good (L:List Event):Prop where
 uq:(L.map (·.fID)).Nodup
 cl:∀ i,i<L.length→∀ p∈(ev L i).fParents,∃ j,j<i∧(ev L j).fID=p
theorem ev_get {L:List Event} {i:Nat} (hi:i<L.length):L[i]? = some (ev L i):=by
 unfold ev; rw [List.getD_eq_getElem?_getD,List.getElem?_eq_getElem hi]; rfl
theorem ev_mem {L:List Event} {i:Nat} (hi:i<L.length):ev L i∈L:=List.mem_of_getElem? (ev_get hi)
theorem mem_ev {L:List Event} {e:Event} (h:e∈L):∃ i,i<L.length∧ev L i=e:=by
 obtain ⟨i,hi,rfl⟩:=List.mem_iff_getElem.1 h
 exact ⟨i,hi,by have:=ev_get hi; rw [List.getElem?_eq_getElem hi] at this; exact (Option.some.inj this).symm⟩
theorem take_ev {L:List Event} {i:Nat} (hi:i<L.length):L.take (i+1)=L.take i++[ev L i]:=by
 rw [List.take_add_one,ev_get hi]; rfl
theorem mget_nd {κ α:Type} [DecidableEq κ]:∀ {m:List (κ×α)} {i:Nat} {k:κ} {a:α},(m.map (·.1)).Nodup→m[i]? = some (k,a)→mget m k=some a
 | [],_,_,_,_,h=>by simp at h
 | e::m,0,k,a,_,h=>by
  simp only [List.getElem?_cons_zero,Option.some.injEq] at h
  subst h; simp [mget]
 | e::m,i+1,k,a,hn,h=>by
  rw [List.map_cons,List.nodup_cons] at hn
  simp only [List.getElem?_cons_succ] at h
  have:¬ e.1=k:=fun hk=>hn.1 (by rw [hk]; exact List.mem_map.2 ⟨(k,a),List.mem_of_getElem? h,rfl⟩)
  simp only [mget,if_neg this]
  exact mget_nd hn.2 h
theorem mget_app {κ α:Type} [DecidableEq κ] {k:κ}:∀ {A B:List (κ×α)},(mget A k).isSome=true→mget (A++B) k=mget A k
 | [],_,h=>by cases h
 | e::A,B,h=>by
  simp only [mget] at h
  simp only [List.cons_append,mget]
  split
  ·rfl
  ·rename_i hn; rw [if_neg hn] at h; exact mget_app h
theorem tb_at {L:List Event} {i:Nat} (hi:i<L.length):(tb L)[i]? = some ((ev L i).fID,(ev L i,dOf (tb (L.take i)) (ev L i).fParents 0)):=by
 obtain ⟨Z,h⟩:=tb_pre (L.take (i+1)) (L.drop (i+1))
 rw [List.take_append_drop,take_ev hi,tb_app] at h
 have hl:(tb (L.take i)).length=i:=by rw [tb_len,List.length_take]; omega
 rw [h,List.append_assoc,List.getElem?_append_right (by omega),hl,Nat.sub_self]; rfl
theorem good_nd {L:List Event} (h:Good L):((tb L).map (·.1)).Nodup:=by rw [tb_keys]; exact h.uq
theorem tb_get {L:List Event} (h:Good L) {i:Nat} (hi:i<L.length):mget (tb L) (ev L i).fID=some (ev L i,dOf (tb (L.take i)) (ev L i).fParents 0):=mget_nd (good_nd h) (tb_at hi)
theorem dOf_congr {t t':Tab}:∀ (ps:List ByteArray) (d:Int),(∀ p∈ps,dpt t p=dpt t' p)→dOf t ps d=dOf t' ps d
 | [],d,_=>rfl
 | p::ps,d,h=>by
  show dOf t ps (max d (dpt t p+1))=dOf t' ps (max d (dpt t' p+1))
  rw [h p (List.mem_cons_self ..)]
  exact dOf_congr ps _ fun q hq=>h q (List.mem_cons_of_mem _ hq)
theorem good_take {L:List Event} (h:Good L) (i:Nat):Good (L.take i):=
 ⟨(List.Sublist.map _ (List.take_sublist i L)).nodup h.uq,fun j hj p hp=>by
  rw [List.length_take] at hj
  have e:∀ q,q<i→q<L.length→ev (L.take i) q=ev L q:=fun q h1 h2=>by
   unfold ev; rw [List.getD_eq_getElem?_getD,List.getD_eq_getElem?_getD,List.getElem?_take,if_pos h1]
  rw [e j (by omega) (by omega)] at hp
  obtain ⟨q,h1,h2⟩:=h.cl j (by omega) p hp
  exact ⟨q,h1,by rw [e q (by omega) (by omega)]; exact h2⟩⟩
theorem dep_rec {L:List Event} (h:Good L) {i:Nat} (hi:i<L.length):dpt (tb L) (ev L i).fID=dOf (tb L) (ev L i).fParents 0:=by
 have h1:dpt (tb L) (ev L i).fID=dOf (tb (L.take i)) (ev L i).fParents 0:=by
  have:=tb_get h hi
  show ((mget (tb L) _).map (·.2)).getD 0=_
  rw [this]; rfl
 rw [h1]
 refine dOf_congr _ _ fun p hp=>?_
 obtain ⟨j,hj,rfl⟩:=h.cl i hi p hp
 have e:ev (L.take i) j=ev L j:=by
  unfold ev; rw [List.getD_eq_getElem?_getD,List.getD_eq_getElem?_getD,List.getElem?_take,if_pos hj]
 have hs:=tb_get (good_take h i) (i:=j) (by rw [List.length_take]; omega)
 rw [e] at hs
 obtain ⟨Z,hz⟩:=tb_pre (L.take i) (L.drop i)
 rw [List.take_append_drop] at hz
 unfold dpt
 rw [hz,mget_app (by rw [hs]; rfl)]
theorem dpt_none {L:List Event} {id:ByteArray} (h:ix L id = -1):dpt (tb L) id=0:=by
 unfold dpt
 cases e:mget (tb L) id with
 | none=>rfl
 | some v=>
  exfalso
  have h1:id∈(tb L).map (·.1):=mget_some.2 (by rw [e]; rfl)
  rw [tb_keys] at h1
  obtain ⟨e',he,h2⟩:=List.mem_map.1 h1
  obtain ⟨i,hi,rfl⟩:=mem_ev he
  rcases ix_rng L id with ⟨_,h3⟩ | ⟨j,q,_⟩
  ·exact h3 i hi h2
  ·omega
theorem ix_of {L:List Event} (h:Good L) {i:Nat} (hi:i<L.length):ix L (ev L i).fID=(i:Int):=by
 rcases ix_rng L (ev L i).fID with ⟨_,h3⟩ | ⟨j,q,hj,he⟩
 ·exact absurd rfl (h3 i hi)
 ·have h1:(L.map (·.fID))[i]? = some (ev L i).fID:=by rw [List.getElem?_map,ev_get hi]; rfl
  have h2:(L.map (·.fID))[j]? = some (ev L i).fID:=by rw [List.getElem?_map,ev_get hj]; exact congrArg some he
  have:j=i:=by
   have hn:=List.pairwise_iff_getElem.1 h.uq
   have li:i<(L.map (·.fID)).length:=by rw [List.length_map]; exact hi
   have lj:j<(L.map (·.fID)).length:=by rw [List.length_map]; exact hj
   rw [List.getElem?_eq_getElem li] at h1
   rw [List.getElem?_eq_getElem lj] at h2
   rcases Nat.lt_trichotomy i j with h3 | h3 | h3
   ·exact absurd ((Option.some.inj h1).trans (Option.some.inj h2).symm) (hn i j li lj h3)
   ·exact h3.symm
   ·exact absurd ((Option.some.inj h2).trans (Option.some.inj h1).symm) (hn j i lj li h3)
  rw [q,this]
section
variable {d:RDag} (hg:Good d.fL) (hl:d.fL.length≤100000)
include hg hl
theorem depth_in {i:Nat} (hi:i<d.fL.length):∀ n x:Nat,(ev d.fL i).fParents.length-x=n→x≤(ev d.fL i).fParents.length→(ev d.fL i).fParents.length≤maxLen→∀ arr:List Int,i<arr.length→
  (∀ j,j<i→arr.getD j default=dpt (tb d.fL) (ev d.fL j).fID)→
  ∃ r:Int×Bool×List Int,El (fun k j=>r07_Depth.l1 k d (i:Int) j (x:Int) arr) r∧r.2.2=arr.set i (dOf (tb d.fL) ((ev d.fL i).fParents.drop x) (arr.getD i default)):=by
 intro n
 induction n with
 | zero=>
  intro x hd hx hp arr ha hj
  obtain rfl:x=(ev d.fL i).fParents.length:=by omega
  refine ⟨(((ev d.fL i).fParents.length:Int),false,arr),?_,?_⟩
  ·refine El.step (fun _ _=>by rw [r07_Depth.l1]) ?_
   rw [ev_at hi]
   exact El.grd ⟨by omega,by omega⟩ (El.cf (by simp) (by simpa using El.pure))
  ·rw [List.drop_length]
   show arr=arr.set i (arr.getD i default)
   rw [List.getD_eq_getElem?_getD,List.getElem?_eq_getElem ha]
   simp
 | succ n ih=>
  intro x hd hx hp arr ha hj
  have hp2:(ev d.fL i).fParents.length≤9223372036854775807:=hp
  have hx2:x<(ev d.fL i).fParents.length:=by omega
  have hpar:par (ev d.fL i) x∈(ev d.fL i).fParents:=by
   unfold par; rw [List.getD_eq_getElem?_getD,List.getElem?_eq_getElem hx2]; exact List.getElem_mem hx2
  obtain ⟨j,hj1,hj2⟩:=hg.cl i hi _ hpar
  have hat:=at_ix (d:=d) (par (ev d.fL i) x) (by show _≤9223372036854775807; omega)
  rw [← hj2,ix_of hg (show j<d.fL.length by omega),hj2] at hat
  have hdj:=dpt_l d.fL (ev d.fL j).fID
  have hv:=hj j hj1
  obtain ⟨r,h1,h2⟩:=ih (x+1) (by omega) (by omega) hp (arr.set i (max (arr.getD i default) (dpt (tb d.fL) (ev d.fL j).fID+1))) (by rw [List.length_set]; exact ha) (fun q hq=>by
   rw [List.getD_eq_getElem?_getD,List.getElem?_set_ne (by omega),← List.getD_eq_getElem?_getD]; exact hj q hq)
  refine ⟨r,?_,?_⟩
  ·refine El.step (fun _ _=>by rw [r07_Depth.l1]) ?_
   rw [ev_at hi]
   refine El.grd ⟨by omega,by omega⟩ (El.ct (decide_eq_true (by omega)) (El.grd ⟨by omega,by omega⟩ (El.grd ⟨by omega,by omega⟩ (El.grd ⟨by omega,by omega⟩ ?_))))
   rw [par_at hx2]
   refine El.bind hat.el (El.grd ⟨by omega,by omega⟩ (El.grd ⟨by omega,by omega⟩ ?_))
   rw [w64_id (x:=(x:Int)+1) (by omega) (by omega),Int.toNat_natCast,Int.toNat_natCast,hv,w64_id (x:=dpt (tb d.fL) (ev d.fL j).fID+1) (by omega) (by omega)]
   exact h1
  ·rw [h2,List.set_set]
   have hdr:(ev d.fL i).fParents.drop x=par (ev d.fL i) x::(ev d.fL i).fParents.drop (x+1):=by
    rw [List.drop_eq_getElem_cons hx2]; unfold par; rw [List.getD_eq_getElem?_getD,List.getElem?_eq_getElem hx2]; rfl
   rw [hdr]
   congr 1
   rw [List.getD_eq_getElem?_getD,List.getElem?_set_self ha]
   show dOf _ _ _=dOf (tb d.fL) ((ev d.fL i).fParents.drop (x+1)) (max (arr.getD i default) (dpt (tb d.fL) (par (ev d.fL i) x)+1))
   rw [← hj2]; rfl
theorem depth_out {K:Nat} (hK:K<d.fL.length) (hp:∀ i,i<d.fL.length→(ev d.fL i).fParents.length≤maxLen):∀ n x:Nat,K+1-x=n→x≤K+1→∀ arr:List Int,arr.length=K+1→
  (∀ j,j<x→arr.getD j default=dpt (tb d.fL) (ev d.fL j).fID)→(∀ j,x≤j→j≤K→arr.getD j default=0)→
  ∃ r:Int×Bool×List Int,El (fun k j=>r07_Depth.l0 k d (K:Int) j (x:Int) arr) r∧r.2.2.length=K+1∧∀ j,j≤K→r.2.2.getD j default=dpt (tb d.fL) (ev d.fL j).fID:=by
 intro n
 induction n with
 | zero=>
  intro x hd hx arr ha h1 h2
  obtain rfl:x=K+1:=by omega
  refine ⟨(((K+1:Nat):Int),false,arr),?_,ha,fun j hj=>h1 j (by omega)⟩
  refine El.step (fun _ _=>by rw [r07_Depth.l0]) ?_
  have:decide (((K+1:Nat):Int)≤(K:Int))=false:=decide_eq_false (by omega)
  exact El.cf this (by rw [this]; exact El.pure)
 | succ n ih=>
  intro x hd hx arr ha h1 h2
  obtain ⟨r,r1,r2⟩:=depth_in hg hl (i:=x) (by omega) _ 0 rfl (by omega) (hp x (by omega)) arr (by omega) h1
  rw [List.drop_zero,h2 x (by omega) (by omega),← dep_rec hg (by omega)] at r2
  obtain ⟨q,q1,q2⟩:=ih (x+1) (by omega) (by omega) (arr.set x (dpt (tb d.fL) (ev d.fL x).fID)) (by rw [List.length_set]; exact ha) (fun j hj=>by
   by_cases e:j=x
   ·subst e; rw [List.getD_eq_getElem?_getD,List.getElem?_set_self (by omega)]; rfl
   ·rw [List.getD_eq_getElem?_getD,List.getElem?_set_ne (by omega),← List.getD_eq_getElem?_getD]; exact h1 j (by omega)) (fun j h3 h4=>by
   rw [List.getD_eq_getElem?_getD,List.getElem?_set_ne (by omega),← List.getD_eq_getElem?_getD]; exact h2 j (by omega) h4)
  refine ⟨q,?_,q2⟩
  refine El.step (fun _ _=>by rw [r07_Depth.l0]) ?_
  refine El.ct (decide_eq_true (by omega)) (El.bind r1.diag.el ?_)
  rw [r2,w64_id (x:=(x:Int)+1) (by omega) (by omega)]
  exact q1
theorem depth_ev (hp:∀ i,i<d.fL.length→(ev d.fL i).fParents.length≤maxLen) (id:ByteArray):Ev (fun k=>r07_Depth.f k d id) (dpt (tb d.fL) id):=by
 unfold r07_Depth.f
 refine Ev.bind (at_ix id (by show _≤9223372036854775807; omega)) ?_
 rcases ix_rng d.fL id with ⟨q,h⟩ | ⟨j,q,hj,he⟩
 ·rw [dpt_none q,q]; exact Ev.ct rfl Ev.pure
 ·obtain ⟨r,r1,r2,r3⟩:=depth_out hg hl hj hp _ 0 rfl (by omega) (List.replicate (j+1) 0) (by simp) (fun i hi=>by omega) (fun i _ hi=>by
   rw [List.getD_eq_getElem?_getD,List.getElem?_replicate,if_pos (by omega)]; rfl)
  rw [q,w64_id (x:=(j:Int)+1) (by omega) (by omega),show ((j:Int)+1).toNat=j+1 by omega]
  refine Ev.cf (decide_eq_false (by omega)) (Ev.grd ⟨by omega,by omega,by omega⟩ (Ev.bind r1.diag (Ev.grd ⟨by omega,by omega⟩ (Ev.of ?_))))
  rw [Int.toNat_natCast,r3 j (Nat.le_refl _),he]
def pos (t:Tab) (id:ByteArray):Pos:=⟨dpt t id,id⟩
theorem pos_ev (hp:∀ i,i<d.fL.length→(ev d.fL i).fParents.length≤maxLen) (id:ByteArray):Ev (fun k=>r07_Position.f k d id) (pos (tb d.fL) id):=by
 unfold r07_Position.f
 exact Ev.bind (depth_ev hg hl hp id) Ev.pure
end
end Go.Proofs.YtmmaijneehmbgaaGreat
