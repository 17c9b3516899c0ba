import Derived.Test.YtelcbdmigiacpaaGreatConL
import Derived.Laws.StructEq
set_option linter.all false
namespace Go.Sp
open Go
theorem ba_beq (a b:ByteArray):(a == b) = decide (a = b):=by rw [beq_toListBytes,toList_beq]
section
variable {κ α:Type} [DecidableEq κ]
def mget:List (κ×α)→κ→Option α
 | [],_=>none
 | e::m,k=>if e.1 = k then some e.2 else mget m k
def mput:List (κ×α)→κ→α→List (κ×α)
 | [],k,a=>[(k,a)]
 | e::m,k,a=>if e.1 = k then (k,a)::m else e::mput m k a
def mdel:List (κ×α)→κ→List (κ×α)
 | [],_=>[]
 | e::m,k=>if e.1 = k then m else e::mdel m k
def fres (k:κ):List κ→List MapEntry→Nat→Option (Nat×Value)
 | c::ks,e::es,i=>if c = k then some (i,e.val) else fres k ks es (i + 1)
 | _,_,_=>none
structure KeyOk (P:Program) (kt:TypeId) (kv:κ→Value):Prop where
 find:∀ (w:World) (k:κ) (ks:List κ) (es:List MapEntry),es.map (·.key) = ks.map kv→(Instr.findKey kt (kv k) es).run P w = .ok (fres k ks es 0) w
 chk:∀ (w:World) (b:Bool) (k:κ),(Instr.checkKey b 10000 kt (kv k)).run P w = .ok () w
 stay:∀ (w:World) (k:κ),(Instr.keyThatStays (kv k) (kv k)).run P w = .ok (kv k) w
end
theorem keyOk_str {P:Program} {kt:TypeId} (hu:P.underlying kt = some .string):KeyOk P kt (Value.string):=by
 refine ⟨fun w k ks es h=>?_,fun w b k=>?_,fun w k=>?_⟩
 ·have key:∀ (ks:List ByteArray) (es:List MapEntry) (i:Nat),es.map (·.key) = ks.map Value.string→Instr.findNow .string (.string k) es i = some (fres k ks es i):=by
   intro ks
   induction ks with
   | nil=>intro es i h; cases es with
    | nil=>rfl
    | cons e es=>simp at h
   | cons c ks ih=>intro es i h; cases es with
    | nil=>simp at h
    | cons e es=>
     simp only [List.map_cons,List.cons.injEq] at h
     simp only [Instr.findNow,h.1,Instr.sameNow,fres]
     by_cases hc:c = k
     ·subst hc
      rw [ba_beq,decide_eq_true rfl,if_pos rfl]
     ·rw [ba_beq,decide_eq_false (fun e=>hc e.symm),if_neg hc]
      exact ih es (i + 1) h.2
  unfold Instr.findKey
  simp [run_underlying hu,key ks es 0 h]
 ·obtain ⟨m,hm⟩:∃ m,10000 = m + 1:=⟨9999,rfl⟩
  rw [hm]
  simp [Instr.checkKey,run_underlying hu]
 ·unfold Instr.keyThatStays
  have:(k == k) = true:=by rw [ba_beq,decide_eq_true rfl]
  simp [Instr.sameBits,this]
section
variable {κ α:Type} [DecidableEq κ]
def mp (kv:κ→Value) (vp:α→VP) (v:Value) (m:List (κ×α)):As:=
 ⟨fun R mem=>∃ r clock,∃ es:List MapEntry,v = .map (some r)∧mem = [(r,.map es.toArray clock)]∧All2 (fun (ka:κ×α) e=>e.key = kv ka.1∧(vp ka.2).p R e.val) m es∧es.Pairwise (fun a b=>a.born < b.born)∧∀ e∈es,e.born < clock,
 fun hR ⟨r,clock,es,e,hm,h,hp,hc⟩=>⟨r,clock,es,e,hm,All2.imp (fun ka _ k=>⟨k.1,(vp ka.2).mono hR k.2⟩) h,hp,hc⟩⟩
variable {kv:κ→Value} {vp:α→VP} {v:Value} {m:List (κ×α)} {R:Fz} {k:κ}
abbrev Ents (kv:κ→Value) (vp:α→VP) (R:Fz) (m:List (κ×α)) (es:List MapEntry):Prop:=All2 (fun (ka:κ×α) e=>e.key = kv ka.1∧(vp ka.2).p R e.val) m es
theorem ents_keys {es:List MapEntry} (h:Ents kv vp R m es):es.map (·.key) = (m.map (·.1)).map kv:=by
 induction h with
 | nil=>rfl
 | cons h1 _ ih=>simp [h1.1,ih]
theorem ents_none {es:List MapEntry} (h:Ents kv vp R m es):∀ {i:Nat},fres k (m.map (·.1)) es i = none→mget m k = none∧∀ a e,e.key = kv k→(vp a).p R e.val→Ents kv vp R (mput m k a) (es++[e]):=by
 induction h with
 | nil=>exact fun _=>⟨rfl,fun a e h1 h2=>.cons ⟨h1,h2⟩ .nil⟩
 | cons h1 h2 ih=>
  intro i hf
  simp only [List.map_cons,fres] at hf
  split at hf
  ·cases hf
  ·rename_i hn
   obtain ⟨g1,g2⟩:=ih hf
   exact ⟨by simp [mget,hn,g1],fun a e k1 k2=>by simp only [mput,if_neg hn]; exact .cons h1 (g2 a e k1 k2)⟩
theorem ents_some {es:List MapEntry} (h:Ents kv vp R m es):∀ {i j:Nat} {u:Value},fres k (m.map (·.1)) es i = some (j,u)→∃ d a,j = i + d∧mget m k = some a∧(vp a).p R u∧(∃ e,es[d]? = some e∧e.key = kv k)∧
  Ents kv vp R (mdel m k) (es.eraseIdx d)∧∀ a' (f:MapEntry→MapEntry),(∀ e,(f e).key = kv k∧(vp a').p R (f e).val)→Ents kv vp R (mput m k a') (es.modify d f):=by
 induction h with
 | nil=>intro i j u hf; cases hf
 | cons h1 h2 ih=>
  rename_i ka e m es
  intro i j u hf
  simp only [List.map_cons,fres] at hf
  split at hf
  ·rename_i hn
   cases hf
   exact ⟨0,ka.2,rfl,by simp [mget,hn],h1.2,⟨e,rfl,by rw [h1.1,hn]⟩,by simp only [mdel,if_pos hn,List.eraseIdx_cons_zero]; exact h2,fun a' f hf=>by
    simp only [mput,if_pos hn,List.modify_zero_cons]; exact .cons (hf e) h2⟩
  ·rename_i hn
   obtain ⟨d,a,e1,e2,e3,⟨x,e4,e5⟩,e6,e7⟩:=ih hf
   exact ⟨d + 1,a,by omega,by simp [mget,hn,e2],e3,⟨x,by simpa using e4,e5⟩,by simp only [mdel,if_neg hn,List.eraseIdx_cons_succ]; exact .cons h1 e6,fun a' f hf=>by
    simp only [mput,if_neg hn,List.modify_succ_cons]; exact .cons h1 (e7 a' f hf)⟩
theorem Base.obj {R:Fz} {r:Nat} {o o':Obj} {x:Mem} {w:World} (h:Base R ((r,o)::x) w):Base R ((r,o')::x) { w with heap:=w.heap.setIfInBounds r o' }:=by
 have hl:=lt_of_some h.get
 exact h.set rfl rfl rfl (Nat.le_refl _) (by simp) (by simp [hl]) (fun k hk=>by simp [Array.getElem?_setIfInBounds_ne (Ne.symm hk)])
end
section
variable {P:Program} {ops:Array Oper} {n:Nat} {dr:Bool} {R0:Fz} {K:KU} {E:Env} {l:List As} {pend:List (Nat×(List As→Prop))} {rest:List (Nat×Bool)} {i d:Nat}
variable {T:TypeId} {ps:String} {af:Array Edge} {g:Option (Nat×Bool)} {x y y2:Operand} {κ α:Type} [DecidableEq κ] {kv:κ→Value} {vp:α→VP} {v:Value} {m:List (κ×α)} {k:κ}
theorem run_getMap {w:World} {r clock:Nat} {es:Array MapEntry} (h:w.heap[r]? = some (.map es clock)):(getObj r).run P w = .ok (.map es clock) w:=by
 simp [getObj,Sem.run,h]
theorem Dv.mlk {t kt et:TypeId} {z:Value} (df:α) (ho:opAt ops.toList i = some ⟨some d,.lookup t x y true,T,ps,af,g⟩) (hg:GOn ops E g) (hx:opv E x = some (eq v)) (hA:mp kv vp v m∈l) (hy:opv E y = some (eq (kv k)))
  (hu:P.underlying t = some (.map kt et)) (hk:KeyOk P kt kv) (hz:zer P et = some z) (hdf:∀ R,(vp df).p R z)
  (h:Dv P ops n dr R0 K ((d,tup [vp ((mget m k).getD df),eq (.bool (mget m k).isSome)])::E) l ((i,(mp kv vp v m∈·))::pend) rest):Dv P ops n dr R0 K E l pend ((i,false)::rest):=
 Dv.okd _ _ ho (OpOk.val hg fun R a w l h hA hst=>by
  have e1:=h x (by simp [Op.operands]) _ hx
  have e2:=h y (by simp [Op.operands]) _ hy
  simp only [eq_p] at e1 e2
  obtain ⟨mem,⟨r,clock,es,e,hm,he,_⟩,hw⟩:=St.read hA hst
  have hr:=run_getMap (P:=P) (hw (r,_) (by rw [hm]; exact List.mem_cons_self ..))
  have hf:=hk.find w k (m.map (·.1)) es (ents_keys he)
  have hc:=hk.chk w es.toArray.isEmpty k
  cases hq:fres k (m.map (·.1)) es 0 with
  | none=>
   obtain ⟨h1,_⟩:=ents_none he hq
   rw [hq] at hf
   exact ⟨R,.tuple #[z,.bool false],w,Fz.le_refl R,⟨[z,.bool false],rfl,.cons (by rw [h1]; exact hdf R) (.cons (by rw [h1]; rfl) .nil)⟩,hst,by
    simp only [List.isEmpty_toArray] at hc
    simp [execOp,Instr.lookup,e1,e2,e,run_underlying hu,hr,hf,hc,run_zero hz]⟩
  | some ju=>
   obtain ⟨j,u⟩:=ju
   obtain ⟨dd,a',_,h2,h3,_⟩:=ents_some he hq
   rw [hq] at hf
   exact ⟨R,.tuple #[u,.bool true],w,Fz.le_refl R,⟨[u,.bool true],rfl,.cons (by rw [h2]; exact h3) (.cons (by rw [h2]; rfl) .nil)⟩,hst,by
    simp only [List.isEmpty_toArray] at hc
    simp [execOp,Instr.lookup,e1,e2,e,run_underlying hu,hr,hf,hc]⟩) hA h
theorem Dv.mlv {t kt et:TypeId} {z:Value} (df:α) (ho:opAt ops.toList i = some ⟨some d,.lookup t x y false,T,ps,af,g⟩) (hg:GOn ops E g) (hx:opv E x = some (eq v)) (hA:mp kv vp v m∈l) (hy:opv E y = some (eq (kv k)))
  (hu:P.underlying t = some (.map kt et)) (hk:KeyOk P kt kv) (hz:zer P et = some z) (hdf:∀ R,(vp df).p R z)
  (h:Dv P ops n dr R0 K ((d,vp ((mget m k).getD df))::E) l ((i,(mp kv vp v m∈·))::pend) rest):Dv P ops n dr R0 K E l pend ((i,false)::rest):=
 Dv.okd _ _ ho (OpOk.val hg fun R a w l h hA hst=>by
  have e1:=h x (by simp [Op.operands]) _ hx
  have e2:=h y (by simp [Op.operands]) _ hy
  simp only [eq_p] at e1 e2
  obtain ⟨mem,⟨r,clock,es,e,hm,he,_⟩,hw⟩:=St.read hA hst
  have hr:=run_getMap (P:=P) (hw (r,_) (by rw [hm]; exact List.mem_cons_self ..))
  have hf:=hk.find w k (m.map (·.1)) es (ents_keys he)
  have hc:=hk.chk w es.toArray.isEmpty k
  simp only [List.isEmpty_toArray] at hc
  cases hq:fres k (m.map (·.1)) es 0 with
  | none=>
   obtain ⟨h1,_⟩:=ents_none he hq
   rw [hq] at hf
   exact ⟨R,z,w,Fz.le_refl R,by rw [h1]; exact hdf R,hst,by
    simp [execOp,Instr.lookup,e1,e2,e,run_underlying hu,hr,hf,hc,run_zero hz]⟩
  | some ju=>
   obtain ⟨j,u⟩:=ju
   obtain ⟨dd,a',_,h2,h3,_⟩:=ents_some he hq
   rw [hq] at hf
   exact ⟨R,u,w,Fz.le_refl R,by rw [h2]; exact h3,hst,by
    simp [execOp,Instr.lookup,e1,e2,e,run_underlying hu,hr,hf,hc]⟩) hA h
theorem Dv.mmk {t:TypeId} (kv:κ→Value) (vp:α→VP) (ho:opAt ops.toList i = some ⟨some d,.makeMap t none,T,ps,af,g⟩) (hg:GOn ops E g)
  (hp:dr = true→∀ z∈pend,((Region.before ops).getD i 0).testBit z.1 = true∨∀ v':OV,z.2 (mp kv vp v'.1 []::l))
  (h:∀ v':OV,Dv P ops n dr R0 K ((d,eq v'.1)::E) (mp kv vp v'.1 []::l) pend rest) (hkb:K.bar E l pend ((i,true)::rest):=by first | exact trivial | assumption):Dv P ops n dr R0 K E l pend ((i,true)::rest):=
 .bar _ (γ:=OV) (fun _=>True) (fun v'=>eq v'.1) (fun v'=>mp kv vp v'.1 []::l) (at_of ho) (OpBar.val hg fun R a w h hst=>by
  refine ⟨⟨.map (some w.heap.size),rfl⟩,R,_,_,trivial,Fz.le_refl R,rfl,hst.alloc (o:=.map #[] 0) ⟨w.heap.size,0,[],rfl,rfl,.nil,.nil,fun e h=>by cases h⟩,?_⟩
  simp [execOp,Instr.makeMap]) (fun e z hz=>(hp e z hz).imp id fun h b _=>h b) (fun b _=>h b) hkb
theorem Dv.mup {t kt et:TypeId} {jj:Nat} (a':α) (ho:opAt ops.toList i = some ⟨none,.mapUpdate t x y y2,T,ps,af,g⟩) (hg:GOn ops E g) (hx:opv E x = some (eq v)) (hjj:l[jj]? = some (mp kv vp v m)) (hy:opv E y = some (eq (kv k))) (hy2:opv E y2 = some (vp a'))
  (hu:P.underlying t = some (.map kt et)) (hk:KeyOk P kt kv)
  (hp:dr = true→∀ z∈pend,((Region.before ops).getD i 0).testBit z.1 = true∨∀ _:Unit,z.2 (l.set jj (mp kv vp v (mput m k a'))))
  (h:Dv P ops n dr R0 K E (l.set jj (mp kv vp v (mput m k a'))) pend rest) (hkb:K.bar E l pend ((i,true)::rest):=by first | exact trivial | assumption):Dv P ops n dr R0 K E l pend ((i,true)::rest):=
 .bar _ (γ:=Unit) (fun _=>True) (fun _=>eq undef) (fun _=>l.set jj (mp kv vp v (mput m k a'))) (at_of ho) (OpBar.act hg fun R a w h hst=>by
  have e1:=h x (by simp [Op.operands]) _ hx
  have e2:=h y (by simp [Op.operands]) _ hy
  have e3:=h y2 (by simp [Op.operands]) _ hy2
  simp only [eq_p] at e1 e2
  obtain ⟨mem,⟨r,clock,es,e,hm,he,hpw,hcl⟩,hk2⟩:=hst.opn hjj
  subst hm
  have hh:=(Stm.base hk2).get
  have hr:=run_getMap (P:=P) hh
  have hf:=hk.find w k (m.map (·.1)) es (ents_keys he)
  have hc:=hk.chk w false k
  have hst2:=hk.stay w k
  cases hq:fres k (m.map (·.1)) es 0 with
  | none=>
   obtain ⟨_,h1⟩:=ents_none he hq
   rw [hq] at hf
   refine ⟨(),R,{ w with heap:=w.heap.setIfInBounds r (.map (es++[({ key:=kv k,val:=a.eval y2,born:=clock }:MapEntry)]).toArray (clock + 1)) },trivial,Fz.le_refl R,St.shut hjj ⟨r,clock + 1,es++[({ key:=kv k,val:=a.eval y2,born:=clock }:MapEntry)],e,rfl,h1 a' ({ key:=kv k,val:=a.eval y2,born:=clock }:MapEntry) rfl e3,?_,?_⟩ (Stm.to (Fz.le_refl R) (fun x hx=>hx.obj) hk2),?_⟩
   ·exact List.pairwise_append.2 ⟨hpw,List.pairwise_singleton _ _,fun x hx y hy=>by rw [List.mem_singleton.1 hy]; exact hcl x hx⟩
   ·intro x hx
    rcases List.mem_append.1 hx with hx | hx
    ·exact Nat.lt_succ_of_lt (hcl x hx)
    ·simp at hx; subst hx; exact Nat.lt_succ_self _
   ·simp [execOp,Instr.mapUpdate,e1,e2,e,run_underlying hu,hr,hf,hc,setObj,Sem.run,hh]
  | some ju=>
   obtain ⟨j,u⟩:=ju
   obtain ⟨dd,a2,hj,_,_,⟨q,hq1,hq2⟩,_,h7⟩:=ents_some he hq
   simp only [Nat.zero_add] at hj
   subst hj
   rw [hq] at hf
   have hkk:(((es.toArray)[j]?).map (·.key)).getD (kv k) = kv k:=by simp [hq1,hq2]
   refine ⟨(),R,{ w with heap:=w.heap.setIfInBounds r (.map (es.modify j fun e=>{ e with key:=kv k,val:=a.eval y2 }).toArray clock) },trivial,Fz.le_refl R,St.shut hjj ⟨r,clock,es.modify j fun e=>{ e with key:=kv k,val:=a.eval y2 },e,rfl,h7 a' _ (fun e=>⟨rfl,e3⟩),?_,?_⟩ (Stm.to (Fz.le_refl R) (fun x hx=>hx.obj) hk2),?_⟩
   ·have hb:(es.modify j fun e=>{ e with key:=kv k,val:=a.eval y2 }).map (·.born) = es.map (·.born):=by
     apply List.ext_getElem?; intro i
     simp only [List.getElem?_map,List.getElem?_modify]
     cases es[i]? <;> simp; split <;> rfl
    have h8:(es.map (·.born)).Pairwise (· < ·):=List.pairwise_map.2 hpw
    rw [← hb] at h8
    exact List.pairwise_map.1 h8
   ·intro x hx
    have hb:(es.modify j fun e=>{ e with key:=kv k,val:=a.eval y2 }).map (·.born) = es.map (·.born):=by
     apply List.ext_getElem?; intro i
     simp only [List.getElem?_map,List.getElem?_modify]
     cases es[i]? <;> simp; split <;> rfl
    have:x.born∈es.map (·.born):=by rw [← hb]; exact List.mem_map.2 ⟨x,hx,rfl⟩
    obtain ⟨z,hz,e9⟩:=List.mem_map.1 this
    rw [← e9]; exact hcl z hz
   ·simp only [List.getElem?_toArray] at hkk
    simp [execOp,Instr.mapUpdate,e1,e2,e,run_underlying hu,hr,hf,hc,hkk,hst2,setObj,Sem.run,hh]) (fun e z hz=>(hp e z hz).imp id fun h b _=>h b) (fun _ _=>h) hkb
theorem Dv.mdl {t kt et tk:TypeId} {jj:Nat} (ho:opAt ops.toList i = some ⟨none,.call ⟨.builtin .delete,#[x,y],#[t,tk]⟩,T,ps,af,g⟩) (hg:GOn ops E g) (hx:opv E x = some (eq v)) (hjj:l[jj]? = some (mp kv vp v m)) (hy:opv E y = some (eq (kv k)))
  (hu:P.underlying t = some (.map kt et)) (hk:KeyOk P kt kv)
  (hp:dr = true→∀ z∈pend,((Region.before ops).getD i 0).testBit z.1 = true∨∀ _:Unit,z.2 (l.set jj (mp kv vp v (mdel m k))))
  (h:Dv P ops n dr R0 K E (l.set jj (mp kv vp v (mdel m k))) pend rest) (hkb:K.bar E l pend ((i,true)::rest):=by first | exact trivial | assumption):Dv P ops n dr R0 K E l pend ((i,true)::rest):=
 .bar _ (γ:=Unit) (fun _=>True) (fun _=>eq (.tuple #[])) (fun _=>l.set jj (mp kv vp v (mdel m k))) (at_of ho) (OpBar.val hg fun R a w h hst=>by
  have e1:=h x (by simp [Op.operands,Call.operands]) _ hx
  have e2:=h y (by simp [Op.operands,Call.operands]) _ hy
  simp only [eq_p] at e1 e2
  obtain ⟨mem,⟨r,clock,es,e,hm,he,hpw,hcl⟩,hk2⟩:=hst.opn hjj
  subst hm
  have hh:=(Stm.base hk2).get
  have hr:=run_getMap (P:=P) hh
  have hf:=hk.find w k (m.map (·.1)) es (ents_keys he)
  have hc:=hk.chk w es.isEmpty k
  have hdn:∀ (m:List (κ×α)),mget m k = none→mdel m k = m:=by
   intro m
   induction m with
   | nil=>intro _; rfl
   | cons e m ih=>
    intro hn
    simp only [mget] at hn
    split at hn
    ·cases hn
    ·rename_i hne; simp only [mdel,if_neg hne,ih hn]
  cases hq:fres k (m.map (·.1)) es 0 with
  | none=>
   obtain ⟨h1,_⟩:=ents_none he hq
   rw [hq] at hf
   refine ⟨(),R,.tuple #[],{ w with heap:=w.heap.setIfInBounds r (.map es.toArray clock) },trivial,Fz.le_refl R,rfl,St.shut hjj ⟨r,clock,es,e,rfl,by rw [hdn m h1]; exact he,hpw,hcl⟩ (Stm.to (Fz.le_refl R) (fun x hx=>hx.obj) hk2),?_⟩
   simp [execOp,resolve,invoke,builtin,Builtin.delete_,e1,e2,e,run_underlying hu,hr,hf,hc,setObj,Sem.run,hh]
  | some ju=>
   obtain ⟨j,u⟩:=ju
   obtain ⟨dd,a2,hj,_,_,_,h6,_⟩:=ents_some he hq
   simp only [Nat.zero_add] at hj
   subst hj
   rw [hq] at hf
   refine ⟨(),R,.tuple #[],{ w with heap:=w.heap.setIfInBounds r (.map (es.eraseIdx j).toArray clock) },trivial,Fz.le_refl R,rfl,St.shut hjj ⟨r,clock,es.eraseIdx j,e,rfl,h6,hpw.sublist (List.eraseIdx_sublist ..),fun x hx=>hcl x ((List.eraseIdx_sublist ..).subset hx)⟩ (Stm.to (Fz.le_refl R) (fun x hx=>hx.obj) hk2),?_⟩
   simp [execOp,resolve,invoke,builtin,Builtin.delete_,e1,e2,e,run_underlying hu,hr,hf,hc,setObj,Sem.run,hh]) (fun e z hz=>(hp e z hz).imp id fun h b _=>h b) (fun _ _=>h) hkb
end
end Go.Sp
