import Derived.Test.YtmmaijneehmbgaaGreatZVD
set_option linter.all false
set_option maxRecDepth 10000
namespace Go.Proofs.YtmmaijneehmbgaaGreat
open Go Go.Sp
def key3 (x:ByteArray×DNode):ByteArray×(Event×Int):=(x.1,(x.2.fe,x.2.fdepth))
def T (m:DDag):List (ByteArray×(Event×Int)):=m.fnodes.map key3
def dpt (t:List (ByteArray×(Event×Int))) (p:ByteArray):Int:=((mget t p).map (·.2)).getD 0
def dOf (t:List (ByteArray×(Event×Int))) (ps:List ByteArray) (d:Int):Int:=ps.foldl (fun d p=>max d (dpt t p+1)) d
def Low (m:DDag):Prop:=∀ x∈m.fnodes,0≤x.2.fdepth∧x.2.fdepth≤1000000
theorem mget_map {κ α β:Type} [DecidableEq κ] (f:α→β) (k:κ):∀ m:List (κ×α),mget (m.map fun x=>(x.1,f x.2)) k=(mget m k).map f
 | []=>rfl
 | e::m=>by
  simp only [List.map_cons,mget]
  split
  ·rfl
  ·exact mget_map f k m
theorem T_get (m:DDag) (k:ByteArray):mget (T m) k=(mget m.fnodes k).map fun nd=>(nd.fe,nd.fdepth):=mget_map (fun nd:DNode=>(nd.fe,nd.fdepth)) k m.fnodes
theorem fe_of_T {m m':DDag} (h:T m'=T m) (id:ByteArray):(mget m'.fnodes id).map (·.fe)=(mget m.fnodes id).map (·.fe):=by
 have h1:=T_get m id
 have h2:=T_get m' id
 rw [h,h1] at h2
 have:=congrArg (Option.map Prod.fst) h2
 simp only [Option.map_map] at this
 exact this.symm
theorem mput_new {κ α:Type} [DecidableEq κ] {k:κ} {a:α}:∀ {m:List (κ×α)},mget m k=none→mput m k a=m++[(k,a)]
 | [],_=>rfl
 | e::m,h=>by
  simp only [mget] at h
  split at h
  ·cases h
  ·rename_i hn
   simp only [mput,if_neg hn,List.cons_append,mput_new h]
theorem mput_map {κ α β:Type} [DecidableEq κ] (f:κ×α→β) {k:κ} {a a':α}:∀ {m:List (κ×α)},mget m k=some a→f (k,a')=f (k,a)→(mput m k a').map f=m.map f
 | [],h,_=>by cases h
 | e::m,h,hf=>by
  simp only [mget] at h
  simp only [mput]
  split
  ·rename_i hk
   rw [if_pos hk] at h
   cases h
   rw [List.map_cons,List.map_cons,hf,← hk]
  ·rename_i hn
   rw [if_neg hn] at h
   rw [List.map_cons,List.map_cons,mput_map f h hf]
theorem mget_in {κ α:Type} [DecidableEq κ] {k:κ} {a:α}:∀ {m:List (κ×α)},mget m k=some a→(k,a)∈m
 | [],h=>by cases h
 | e::m,h=>by
  simp only [mget] at h
  split at h
  ·rename_i hk; cases h; rw [← hk]; exact List.mem_cons_self ..
  ·exact List.mem_cons_of_mem _ (mget_in h)
theorem low_T {m m':DDag} (h:T m'=T m) (hb:Low m):Low m':=fun x hx=>by
 have h1:key3 x∈T m':=List.mem_map.2 ⟨x,hx,rfl⟩
 rw [h] at h1
 obtain ⟨y,hy,e⟩:=List.mem_map.1 h1
 have:=hb y hy
 simp only [key3,Prod.mk.injEq] at e
 rw [← e.2.2]; exact this
theorem mark2 {e:Event} (he:Event.ok e):∀ n x,e.fParents.length-x=n→x≤e.fParents.length→∀ (dep:Int) (m:DDag),(∀ i,i<e.fParents.length→(mget m.fnodes (par e i)).isSome=true)→Low m→
  ∃ r:Int×Bool×Int×DDag,El (fun k j=>dag_Dag_Add.l0 k e j (x:Int) dep m) r∧r.2.2.2.froom=m.froom∧r.2.2.1=dOf (T m) (e.fParents.drop x) dep∧T r.2.2.2=T m:=by
 have hn:e.fParents.length≤9223372036854775807:=he.2.2.1.1
 intro n
 induction n with
 | zero=>
  intro x hd hx dep m hm hb
  obtain rfl:x=e.fParents.length:=by omega
  refine ⟨((e.fParents.length:Int),false,dep,m),?_,rfl,by rw [List.drop_length]; rfl,rfl⟩
  refine El.step (fun _ _=>by rw [dag_Dag_Add.l0]) ?_
  exact El.cf (by simp) (by simpa using El.pure)
 | succ n ih=>
  intro x hd hx dep m hm hb
  have hx2:x<e.fParents.length:=by omega
  obtain ⟨nd,hnd⟩:=Option.isSome_iff_exists.1 (hm x hx2)
  have hg:(mget m.fnodes (par e x)).getD default=nd:=by rw [hnd]; rfl
  have hl:0≤nd.fdepth∧nd.fdepth≤1000000:=hb _ (mget_in hnd)
  have key:T (⟨m.froom,mput m.fnodes (par e x) (⟨nd.fe,nd.fdepth,true⟩:DNode)⟩:DDag)=T m:=mput_map key3 hnd rfl
  have hsome:∀ i,i<e.fParents.length→(mget (mput m.fnodes (par e x) (⟨nd.fe,nd.fdepth,true⟩:DNode)) (par e i)).isSome=true:=fun i hi=>by
   have h4:=hm i hi
   rw [mget_put]
   split
   ·rfl
   ·exact h4
  obtain ⟨r,h1,h2,h3,h4⟩:=ih (x+1) (by omega) (by omega) (max dep (w64 (nd.fdepth+1))) (⟨m.froom,mput m.fnodes (par e x) (⟨nd.fe,nd.fdepth,true⟩:DNode)⟩:DDag) hsome (low_T key hb)
  refine ⟨r,?_,h2,?_,h4.trans key⟩
  ·refine El.step (fun _ _=>by rw [dag_Dag_Add.l0]) ?_
   refine El.ct (by simpa using hx2) (El.grd ⟨by omega,by omega⟩ ?_)
   rw [par_at hx2,hg]
   refine El.grd (hm x hx2) ?_
   rw [w64_id (x:=(x:Int)+1) (by omega) (by omega)]
   exact h1
  ·have hdr:e.fParents.drop x=par e x::e.fParents.drop (x+1):=by
    rw [List.drop_eq_getElem_cons hx2]; unfold par; rw [List.getD_eq_getElem?_getD,List.getElem?_eq_getElem hx2]; rfl
   have hd2:dpt (T m) (par e x)=nd.fdepth:=by unfold dpt; rw [T_get,hnd]; rfl
   rw [h3,key,hdr,w64_id (x:=nd.fdepth+1) (by omega) (by omega)]
   show _=dOf (T m) (e.fParents.drop (x+1)) (max dep (dpt (T m) (par e x)+1))
   rw [hd2]
theorem dagAdd2 {m:DDag} {d:RDag} {e:Event} (hr:Rel m d) (he:Event.ok e) (hb:Low m):∃ m',Ev (fun k=>dag_Dag_Add.f k m e) (code d e,m')∧(code d e≠0→m'=m)∧(code d e=0→Rel m' ⟨d.fRoom,d.fL++[e]⟩∧T m'=T m++[(e.fID,(e,dOf (T m) e.fParents 0))]∧∃ r,El (fun k j=>dag_Dag_Add.l0 k e j ((0:Nat):Int) 0 m) r∧m'.fnodes=mput r.2.2.2.fnodes e.fID (⟨e,r.2.2.1,false⟩:DNode)):=by
 unfold dag_Dag_Add.f code
 cases hm:mayB7 e with
 | false=>
  exact ⟨m,Ev.bind (may1 he) (Ev.ct (by rw [hm]; rfl) (Ev.of rfl)),fun _=>rfl,fun h=>(by cases h)⟩
 | true=>
  simp only [Bool.true_eq_false,if_false]
  by_cases hroom:e.fRoom=d.fRoom
  ·rw [if_neg (Classical.not_not.2 hroom)]
   by_cases h9:0≤ix d.fL e.fID
   ·rw [if_pos h9]
    refine ⟨m,Ev.bind (may1 he) (Ev.cf (by rw [hm]; rfl) (Ev.cf (by rw [hr.room]; simp [hroom]) (Ev.bind (Ev.of rfl) (Ev.ct ?_ (Ev.of rfl))))),fun _=>rfl,fun h=>(by cases h)⟩
    rw [rel_has hr,decide_eq_false (by omega)]; rfl
   ·rw [if_neg h9]
    have pre:∀ {y:Int×DDag} {G:Nat→Option (Int×DDag)},(allp (fun i=>decide (0≤ix d.fL (par e i))) 0 e.fParents.length=true→Ev G y)→(allp (fun i=>decide (0≤ix d.fL (par e i))) 0 e.fParents.length=false→y=(4,m))→Ev (fun k=>(dag_May.f k e).bind fun t497=>cond (!t497) (some (1,m)) (cond (!decide (e.fRoom=m.froom)) (some (1,m)) ((dag_Dag_Has.f m e.fID).bind fun t502=>cond t502 (some (9,m)) ((slices_ContainsFunc_string_x.f k e.fParents (fun a0_=>dag_Dag_Add_1.f a0_ m)).bind fun t505=>cond t505 (some (4,m)) (G k))))) y:=fun {y G} h h0=>by
     refine Ev.bind (may1 he) (Ev.cf (by rw [hm]; rfl) (Ev.cf (by rw [hr.room]; simp [hroom]) (Ev.bind (Ev.of rfl) (Ev.cf ?_ (Ev.bind (contains_ev hr he) ?_)))))
     ·rw [rel_has hr,decide_eq_true (by omega)]; rfl
     ·cases ha:allp (fun i=>decide (0≤ix d.fL (par e i))) 0 e.fParents.length with
      | true=>exact Ev.cf rfl (h ha)
      | false=>rw [h0 ha]; exact Ev.ct rfl (Ev.of rfl)
    cases ha:allp (fun i=>decide (0≤ix d.fL (par e i))) 0 e.fParents.length with
    | false=>exact ⟨m,pre (fun h'=>absurd (ha.symm.trans h') (by decide)) (fun _=>rfl),fun _=>rfl,fun h=>(by cases h)⟩
    | true=>
     simp only [Bool.true_eq_false,if_false]
     have hall:∀ i,i<e.fParents.length→(mget m.fnodes (par e i)).isSome=true:=fun i hi=>by
      have h1:=allp_iff.1 ha i (by omega) hi
      rcases rel_ix hr (par e i) with ⟨q,_⟩ | ⟨j,q,_,_,nd,h,_⟩
      ·simp [q] at h1
      ·rw [h]; rfl
     obtain ⟨r,l1,l2,l4,l5⟩:=mark2 he _ 0 rfl (by omega) 0 m hall hb
     have l3:=fe_of_T l5
     have hnew:∀ i,i<d.fL.length→(ev d.fL i).fID≠e.fID:=fun i hi=>by
      rcases ix_rng d.fL e.fID with ⟨_,h⟩ | ⟨j,q,_⟩
      ·exact h i hi
      ·omega
     have own:dag_own.f e=some e:=by
      have h4:e.fParents.length≤4:=by
       have h5:=hm
       unfold mayB7 at h5; simp at h5; exact h5.2.2.2.1
      unfold dag_own.f slices_Clone_string.f
      simp only [grd]
      rw [if_pos ⟨by omega,by omega⟩]; rfl
     have fin:Ev (fun k=>(dag_own.f e).bind fun t509=>(dag_Dag_Add.l0 k e k 0 0 m).bind fun (p512:Int×Bool×Int×DDag)=>some ((0:Int),(⟨p512.2.2.2.froom,mput p512.2.2.2.fnodes e.fID (⟨t509,p512.2.2.1,false⟩:DNode)⟩:DDag))) (0,(⟨r.2.2.2.froom,mput r.2.2.2.fnodes e.fID (⟨e,r.2.2.1,false⟩:DNode)⟩:DDag)):=
      Ev.bind (Ev.of own) (Ev.bind l1.diag Ev.pure)
     have rel:Rel (⟨r.2.2.2.froom,mput r.2.2.2.fnodes e.fID (⟨e,r.2.2.1,false⟩:DNode)⟩:DDag) ⟨d.fRoom,d.fL++[e]⟩:=by
      refine ⟨l2.trans hr.room,fun i j hi hj hij=>?_,fun i hi=>?_,fun id hid=>?_⟩
      ·simp only [List.length_append,List.length_singleton] at hi hj
       rcases Nat.lt_or_ge i d.fL.length with h1 | h1 <;> rcases Nat.lt_or_ge j d.fL.length with h2 | h2
       ·rw [ev_app h1,ev_app h2] at hij; exact hr.uniq i j h1 h2 hij
       ·obtain rfl:j=d.fL.length:=by omega
        rw [ev_app h1,ev_end] at hij; exact absurd hij (hnew i h1)
       ·obtain rfl:i=d.fL.length:=by omega
        rw [ev_end,ev_app h2] at hij; exact absurd hij.symm (hnew j h2)
       ·omega
      ·simp only [List.length_append,List.length_singleton] at hi
       rcases Nat.lt_or_ge i d.fL.length with h1 | h1
       ·rw [ev_app h1]
        obtain ⟨nd,g1,g2⟩:=hr.got i h1
        have:=l3 (ev d.fL i).fID
        rw [g1] at this
        simp only [mget_put,if_neg (fun h=>hnew i h1 h.symm:¬ e.fID=(ev d.fL i).fID)]
        cases h5:mget r.2.2.2.fnodes (ev d.fL i).fID with
        | none=>rw [h5] at this; cases this
        | some v=>rw [h5] at this; exact ⟨v,rfl,(Option.some.inj this).trans g2⟩
       ·obtain rfl:i=d.fL.length:=by omega
        rw [ev_end]
        exact ⟨⟨e,r.2.2.1,false⟩,by simp only [mget_put,if_true],rfl⟩
      ·have h1:e.fID≠id:=by have:=hid d.fL.length (by simp); rwa [ev_end] at this
       simp only [mget_put,if_neg h1]
       have h2:=hr.non id fun i hi=>by have:=hid i (by simp; omega); rwa [ev_app hi] at this
       have:=l3 id
       rw [h2] at this
       cases h5:mget r.2.2.2.fnodes id with
       | none=>rfl
       | some v=>rw [h5] at this; cases this
     have relT:T (⟨r.2.2.2.froom,mput r.2.2.2.fnodes e.fID (⟨e,r.2.2.1,false⟩:DNode)⟩:DDag)=T m++[(e.fID,(e,dOf (T m) e.fParents 0))]:=by
      have hn:mget r.2.2.2.fnodes e.fID=none:=by
       have h2:=hr.non e.fID hnew
       have:=l3 e.fID
       rw [h2] at this
       cases h5:mget r.2.2.2.fnodes e.fID with
       | none=>rfl
       | some v=>rw [h5] at this; cases this
      show (mput r.2.2.2.fnodes e.fID (⟨e,r.2.2.1,false⟩:DNode)).map key3=_
      rw [mput_new hn,List.map_append]
      show T r.2.2.2++[(e.fID,(e,r.2.2.1))]=_
      rw [l5,l4,List.drop_zero]
     by_cases ht:e.fThread=⟨#[]⟩
     ·rw [if_pos ht]
      refine ⟨_,pre (fun _=>Ev.bind (a:=.inl ()) (Ev.cf (by simp [ht]) Ev.pure) ?_) (fun h'=>absurd (ha.symm.trans h') (by decide)),fun h=>absurd rfl h,fun _=>⟨rel,relT,r,l1,rfl⟩⟩
      simpa only [fall] using fin
     ·rw [if_neg ht]
      rcases rel_ix hr e.fThread with ⟨q,h⟩ | ⟨j,q,hj,_,nd,h,hnd⟩
      ·rw [if_pos (show ix d.fL e.fThread<0 by omega)]
       refine ⟨m,pre (fun _=>Ev.bind (a:=.inr (4,m)) (Ev.ct (by simp [ht]) (Ev.ct (by rw [h]; rfl) Ev.pure)) (Ev.eq Ev.pure fun _=>rfl)) (fun h'=>absurd (ha.symm.trans h') (by decide)),fun _=>rfl,fun h=>(by cases h)⟩
      ·rw [if_neg (show ¬ ix d.fL e.fThread<0 by omega),q,Int.toNat_natCast,← hnd]
       by_cases h7:nd.fe.fThread=⟨#[]⟩
       ·rw [if_neg (Classical.not_not.2 h7)]
        by_cases h8:nd.fe.fDoes=0
        ·rw [if_neg (Classical.not_not.2 h8)]
         refine ⟨_,pre (fun _=>Ev.bind (a:=.inl ()) (Ev.ct (by simp [ht]) (Ev.cf (by rw [h]; rfl) (Ev.grd (by rw [h]; rfl) (Ev.cf (by rw [h]; simp [h7]) (Ev.cf (by rw [h]; simp [h8]) Ev.pure))))) ?_) (fun h'=>absurd (ha.symm.trans h') (by decide)),fun h=>absurd rfl h,fun _=>⟨rel,relT,r,l1,rfl⟩⟩
         simpa only [fall] using fin
        ·rw [if_pos h8]
         refine ⟨m,pre (fun _=>Ev.bind (a:=.inr (7,m)) (Ev.ct (by simp [ht]) (Ev.cf (by rw [h]; rfl) (Ev.grd (by rw [h]; rfl) (Ev.cf (by rw [h]; simp [h7]) (Ev.ct (by rw [h]; simpa using h8) Ev.pure))))) (Ev.eq Ev.pure fun _=>rfl)) (fun h'=>absurd (ha.symm.trans h') (by decide)),fun _=>rfl,fun h=>(by cases h)⟩
       ·rw [if_pos h7]
        refine ⟨m,pre (fun _=>Ev.bind (a:=.inr (7,m)) (Ev.ct (by simp [ht]) (Ev.cf (by rw [h]; rfl) (Ev.grd (by rw [h]; rfl) (Ev.ct (by rw [h]; simpa using h7) Ev.pure)))) (Ev.eq Ev.pure fun _=>rfl)) (fun h'=>absurd (ha.symm.trans h') (by decide)),fun _=>rfl,fun h=>(by cases h)⟩
  ·rw [if_pos hroom]
   exact ⟨m,Ev.bind (may1 he) (Ev.cf (by rw [hm]; rfl) (Ev.ct (by rw [hr.room]; simp [hroom]) (Ev.of rfl))),fun _=>rfl,fun h=>(by cases h)⟩
end Go.Proofs.YtmmaijneehmbgaaGreat
