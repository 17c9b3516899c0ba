import Derived.Test.YtmmaijneehmbgaaGreatZMB
set_option linter.all false
set_option maxRecDepth 10000
namespace Go.Proofs.YtmmaijneehmbgaaGreat
open Go Go.Sp
structure RelT (m:DDag) (d:RDag):Prop where
 rel:Rel m d
 tab:T m=tb d.fL
 good:Good d.fL
 par:∀ e∈d.fL,e.fParents.length≤4
 does:∀ e∈d.fL,e.fDoes=0∨e.fDoes=1∨e.fDoes=2
 usr:∀ e∈d.fL,e.fUser.size≤maxLen
 flg:∀ x∈m.fnodes,x.2.fparent=isPar d.fL x.1
theorem relT_new (room:ByteArray):RelT ⟨room,[]⟩ ⟨room,[]⟩:=⟨rel_new room,rfl,⟨List.nodup_nil,fun i hi=>by simp at hi⟩,fun e he=>(by cases he),fun e he=>(by cases he),fun e he=>(by cases he),fun x hx=>(by cases hx)⟩
theorem mput_mem {κ α:Type} [DecidableEq κ] {k:κ} {a:α}:∀ {m:List (κ×α)},(m.map (·.1)).Nodup→∀ x,x∈mput m k a→x=(k,a)∨(x∈m∧x.1≠k)
 | [],_,x,h=>by simp [mput] at h; exact .inl h
 | e::m,hn,x,h=>by
  rw [List.map_cons,List.nodup_cons] at hn
  simp only [mput] at h
  split at h
  ·rename_i hk
   rcases List.mem_cons.1 h with h | h
   ·exact .inl h
   ·refine .inr ⟨List.mem_cons_of_mem _ h,fun e2=>hn.1 ?_⟩
    rw [hk,← e2]; exact List.mem_map.2 ⟨x,h,rfl⟩
  ·rename_i hk
   rcases List.mem_cons.1 h with h | h
   ·exact .inr ⟨by rw [h]; exact List.mem_cons_self ..,by rw [h]; exact hk⟩
   ·rcases mput_mem hn.2 x h with h2 | ⟨h2,h3⟩
    ·exact .inl h2
    ·exact .inr ⟨List.mem_cons_of_mem _ h2,h3⟩
theorem markF {e:Event} (he:Event.ok e):∀ n x,e.fParents.length-x=n→x≤e.fParents.length→∀ (dep:Int) (m:DDag),(∀ i,i<e.fParents.length→(mget m.fnodes (par e i)).isSome=true)→(m.fnodes.map (·.1)).Nodup→
  ∃ r:Int×Bool×Int×DDag,El (fun k j=>dag_Dag_Add.l0 k e j (x:Int) dep m) r∧∀ y∈r.2.2.2.fnodes,∃ z∈m.fnodes,y.1=z.1∧y.2.fparent=(z.2.fparent||inB (e.fParents.drop x) z.1):=by
 have hn:e.fParents.length≤9223372036854775807:=he.2.2.1.1
 intro n
 induction n with
 | zero=>
  intro x hd hx dep m hm hnd
  obtain rfl:x=e.fParents.length:=by omega
  refine ⟨((e.fParents.length:Int),false,dep,m),?_,fun y hy=>⟨y,hy,rfl,by rw [List.drop_length]; simp [inB]⟩⟩
  refine El.step (fun _ _=>by rw [dag_Dag_Add.l0]) ?_
  exact El.cf (by simp) (by simpa using El.pure)
 | succ n ih=>
  intro x hd hx dep m hm hnd
  have hx2:x<e.fParents.length:=by omega
  obtain ⟨nd,hnd2⟩:=Option.isSome_iff_exists.1 (hm x hx2)
  have hg:(mget m.fnodes (par e x)).getD default=nd:=by rw [hnd2]; rfl
  have hdr:e.fParents.drop x=par e x::e.fParents.drop (x+1):=by
   rw [List.drop_eq_getElem_cons hx2]; unfold par; rw [List.getD_eq_getElem?_getD,List.getElem?_eq_getElem hx2]; rfl
  obtain ⟨r,h1,h2⟩:=ih (x+1) (by omega) (by omega) (max dep (w64 (nd.fdepth+1))) (⟨m.froom,mput m.fnodes (par e x) (⟨nd.fe,nd.fdepth,true⟩:DNode)⟩:DDag) (fun i hi=>by
   have h4:=hm i hi
   show (mget (mput m.fnodes (par e x) (⟨nd.fe,nd.fdepth,true⟩:DNode)) (par e i)).isSome=true
   rw [mget_put]
   split
   ·rfl
   ·exact h4) (by
   have:=mput_map (fun x:ByteArray×DNode=>x.1) (a':=(⟨nd.fe,nd.fdepth,true⟩:DNode)) hnd2 rfl
   show ((mput m.fnodes (par e x) (⟨nd.fe,nd.fdepth,true⟩:DNode)).map (·.1)).Nodup
   rw [this]; exact hnd)
  refine ⟨r,?_,fun y hy=>?_⟩
  ·refine El.step (fun _ _=>by rw [dag_Dag_Add.l0]) ?_
   refine El.ct (by simpa using hx2) (El.grd ⟨by omega,by omega⟩ ?_)
   rw [par_at hx2,hg]
   refine El.grd (hm x hx2) ?_
   rw [w64_id (x:=(x:Int)+1) (by omega) (by omega)]
   exact h1
  ·obtain ⟨z,hz,e1,e2⟩:=h2 y hy
   rw [hdr]
   rcases mput_mem hnd z hz with rfl | ⟨hz2,hz3⟩
   ·refine ⟨(par e x,nd),mget_in hnd2,e1,?_⟩
    rw [e2]; simp [inB]
   ·refine ⟨z,hz2,e1,?_⟩
    rw [e2]
    have:¬ par e x=z.1:=fun h=>hz3 h.symm
    simp [inB,this]
theorem may_of {d:RDag} {e:Event} (h:code d e=0):mayB7 e=true∧ix d.fL e.fID<0∧allp (fun i=>decide (0≤ix d.fL (Go.Proofs.YtmmaijneehmbgaaGreat.par e i))) 0 e.fParents.length=true:=by
 unfold code at h
 split at h
 ·cases h
 ·rename_i c1
  split at h
  ·cases h
  ·split at h
   ·cases h
   ·rename_i c3
    split at h
    ·cases h
    ·rename_i c4
     refine ⟨by simpa using c1,Int.not_le.1 c3,?_⟩
     cases hh:allp (fun i=>decide (0≤ix d.fL (Go.Proofs.YtmmaijneehmbgaaGreat.par e i))) 0 e.fParents.length with
     | true=>rfl
     | false=>exact absurd hh c4
theorem par_mem {e:Event} {p:ByteArray} (h:p∈e.fParents):∃ i,i<e.fParents.length∧par e i=p:=by
 obtain ⟨i,hi,rfl⟩:=List.mem_iff_getElem.1 h
 exact ⟨i,hi,by unfold par; rw [List.getD_eq_getElem?_getD,List.getElem?_eq_getElem hi]; rfl⟩
theorem good_app {d:RDag} {e:Event} (hg:Good d.fL) (hc:code d e=0):Good (d.fL++[e]):=by
 obtain ⟨_,h1,h2⟩:=may_of hc
 refine ⟨?_,fun i hi p hp=>?_⟩
 ·rw [List.map_append,List.nodup_append]
  refine ⟨hg.uq,List.nodup_cons.2 ⟨by simp,List.nodup_nil⟩,fun a ha b hb=>?_⟩
  obtain ⟨x,hx,rfl⟩:=List.mem_map.1 ha
  simp at hb
  rw [hb]
  intro he
  obtain ⟨j,hj,rfl⟩:=mem_ev hx
  rcases ix_rng d.fL e.fID with ⟨_,k⟩ | ⟨q,k,_⟩
  ·exact k j hj he
  ·omega
 ·rw [List.length_append,List.length_singleton] at hi
  rcases Nat.lt_or_ge i d.fL.length with k | k
  ·rw [ev_app k] at hp
   obtain ⟨j,hj,he⟩:=hg.cl i k p hp
   exact ⟨j,hj,by rw [ev_app (by omega)]; exact he⟩
  ·obtain rfl:i=d.fL.length:=by omega
   rw [ev_end] at hp
   obtain ⟨q,hq,rfl⟩:=par_mem hp
   have:=allp_iff.1 h2 q (by omega) hq
   rcases ix_rng d.fL (par e q) with ⟨k1,_⟩ | ⟨j,k1,hj,he⟩
   ·simp [k1] at this
   ·exact ⟨j,hj,by rw [ev_app hj]; exact he⟩
theorem dagAddT {m:DDag} {d:RDag} {e:Event} (hr:RelT m d) (he:Event.ok e) (hl:d.fL.length≤100000):∃ m',Ev (fun k=>dag_Dag_Add.f k m e) (code d e,m')∧(code d e≠0→m'=m)∧(code d e=0→RelT m' ⟨d.fRoom,d.fL++[e]⟩):=by
 obtain ⟨m',h1,h2,h3⟩:=dagAdd2 hr.rel he (low_tb hr.tab hl)
 refine ⟨m',h1,h2,fun hc=>?_⟩
 obtain ⟨a1,a2,r,a3,a4⟩:=h3 hc
 obtain ⟨c1,c2,c3⟩:=may_of hc
 have hg:=good_app hr.good hc
 have hall:∀ i,i<e.fParents.length→(mget m.fnodes (par e i)).isSome=true:=fun i hi=>by
  have h1:=allp_iff.1 c3 i (by omega) hi
  rcases rel_ix hr.rel (par e i) with ⟨q,_⟩ | ⟨j,q,_,_,nd,h,_⟩
  ·simp [q] at h1
  ·rw [h]; rfl
 have hkeys:m.fnodes.map (·.1)=d.fL.map (·.fID):=by
  rw [← tb_keys,← hr.tab]; unfold T; rw [List.map_map]; rfl
 have hnd:(m.fnodes.map (·.1)).Nodup:=by rw [hkeys]; exact hr.good.uq
 obtain ⟨r',b1,b2⟩:=markF he _ 0 rfl (by omega) 0 m hall hnd
 have hrr:r'=r:=Ev.uniq b1.diag a3.diag
 subst hrr
 have cm:=c1
 unfold mayB7 at cm
 simp at cm
 have hself:e.fID ∉ e.fParents:=fun hp=>by
  obtain ⟨q,hq,hq2⟩:=par_mem hp
  have:=allp_iff.1 cm.2.2.2.2.2.2.2 q (by omega) hq
  unfold parB at this
  simp [hq2] at this
 refine ⟨a1,by rw [a2,hr.tab,tb_app],hg,fun x hx=>?_,fun x hx=>?_,fun x hx=>?_,fun x hx=>?_⟩
 ·rcases List.mem_append.1 hx with k | k
  ·exact hr.par x k
  ·rw [List.mem_singleton.1 k]; exact cm.2.2.2.1
 ·rcases List.mem_append.1 hx with k | k
  ·exact hr.does x k
  ·rw [List.mem_singleton.1 k]; have:=cm.2.2.2.2.1; have:=cm.2.2.2.2.2.1; omega
 ·rcases List.mem_append.1 hx with k | k
  ·exact hr.usr x k
  ·rw [List.mem_singleton.1 k]; exact he.2.2.2.2.1
 ·rw [a4] at hx
  have hnew:mget r'.2.2.2.fnodes e.fID=none:=by
   cases hh:mget r'.2.2.2.fnodes e.fID with
   | none=>rfl
   | some v=>
    obtain ⟨z,hz,e1,_⟩:=b2 _ (mget_in hh)
    have:e.fID∈m.fnodes.map (·.1):=by rw [show e.fID=z.1 from e1]; exact List.mem_map.2 ⟨z,hz,rfl⟩
    rw [hkeys] at this
    obtain ⟨x2,hx2,hx3⟩:=List.mem_map.1 this
    obtain ⟨j,hj,rfl⟩:=mem_ev hx2
    rcases ix_rng d.fL e.fID with ⟨_,k⟩ | ⟨q,k,_⟩
    ·exact absurd hx3 (k j hj)
    ·omega
  rw [mput_new hnew] at hx
  have happ:∀ id,isPar (d.fL++[e]) id=(isPar d.fL id||inB e.fParents id):=fun id=>by unfold isPar; rw [List.any_append]; simp
  show x.2.fparent=isPar (d.fL++[e]) x.1
  rcases List.mem_append.1 hx with k | k
  ·obtain ⟨z,hz,e1,e2⟩:=b2 x k
   rw [e2,e1,happ,hr.flg z hz,List.drop_zero]
  ·rw [List.mem_singleton.1 k,happ]
   show false=(isPar d.fL e.fID||inB e.fParents e.fID)
   rw [inB_no hself]
   cases hp:isPar d.fL e.fID with
   | false=>rfl
   | true=>
    exfalso
    unfold isPar at hp
    obtain ⟨y,hy,hy2⟩:=List.any_eq_true.1 hp
    obtain ⟨i,hi,rfl⟩:=mem_ev hy
    obtain ⟨j,hj,hje⟩:=hr.good.cl i hi _ (inB_iff.1 hy2)
    rcases ix_rng d.fL e.fID with ⟨_,k⟩ | ⟨q,k,_⟩
    ·exact k j (by omega) hje
    ·omega
end Go.Proofs.YtmmaijneehmbgaaGreat
