import Derived.Test.YtelcbdmigiacpaaGreatConL
import Derived.Laws.StructEq
set_option linter.all false
namespace Go.Sp
open Go
theorem vL (a b:BA):(a==b)=decide (a=b):=by rw [beq_toListBytes,qj]
section
variable {κ α:Type} [DecidableEq κ]
def mget:List (κ×α)->κ->Option α
 | [],_=>none
 | e::m,k=>if e.1=k then some e.2 else mget m k
def mput:List (κ×α)->κ->α->List (κ×α)
 | [],k,a=>[(k,a)]
 | e::m,k,a=>if e.1=k then (k,a)::m else e::mput m k a
def jV:List (κ×α)->κ->List (κ×α)
 | [],_=>[]
 | e::m,k=>if e.1=k then m else e::jV m k
def fres (k:κ):List κ->List MapEntry->Nat->Option (Nat×Value)
 | c::ks,e::es,i=>if c=k then some (i,e.val) else fres k ks es (i+1)
 | _,_,_=>none
structure qq (P:Program) (kt:TypeId) (kv:κ->Value):Prop where
 find:∀ (w:World) (k:κ) (ks:List κ) (es:List MapEntry),es.map (·.key)=ks.map kv->(Instr.findKey kt (kv k) es).run P w = .ok (fres k ks es 0) w
 chk:∀ (w:World) (b:Bool) (k:κ),(Instr.checkKey b 10000 kt (kv k)).run P w = .ok () w
 stay:∀ (w:World) (k:κ),(Instr.keyThatStays (kv k) (kv k)).run P w = .ok (kv k) w
end
theorem dP {P:Program} {kt:TypeId} (hu:P.underlying kt=some .string):qq P kt (Value.string):=by
 refine⟨λw k ks es h=>?_,λw b k=>?_,λw k=>?_⟩
 ·have key:∀ (ks:List BA) (es:List MapEntry) (i:Nat),es.map (·.key)=ks.map Value.string->Instr.findNow .string (.string k) es i=some (fres k ks es i):=by
   intro ks
   induction ks with
   | nil=>intro es i h;cases es with
    | nil=>rfl
    | cons e es=>simp at h
   | cons c ks ih=>intro es i h;cases es with
    | nil=>simp at h
    | cons e es=>
     simp only [List.map_cons,List.cons.injEq] at h
     simp only [Instr.findNow,h.1,Instr.sameNow,fres]
     by_cases hc:c=k
     ·subst hc
      rw [vL,dT rfl,if_pos rfl]
     ·rw [vL,dF (λe=>hc e.symm),if_neg hc]
      exact ih es (i+1) h.2
  unfold Instr.findKey
  simp [run_underlying hu,key ks es 0 h]
 ·obtain⟨m,hm⟩:∃ m,10000=m+1:=⟨9999,rfl⟩
  rw [hm]
  simp [Instr.checkKey,run_underlying hu]
 ·unfold Instr.keyThatStays
  have:(k==k)=true:=by rw [vL,dT rfl]
  simp [Instr.sameBits,this]
section
variable {κ α:Type} [DecidableEq κ]
def mp (kv:κ->Value) (vp:α->VP) (v:Value) (m:List (κ×α)):As:=
 ⟨λR mem=>∃ r clock,∃ es:List MapEntry,v = .map (some r)/\mem=[(r,.map es.toArray clock)]/\bV (λ(ka:κ×α) e=>e.key=kv ka.1/\(vp ka.2).p R e.val) m es/\es.Pairwise (λa b=>a.born<b.born)/\∀ e∈es,e.born<clock,
 λhR ⟨r,clock,es,e,hm,h,hp,hc⟩=>⟨r,clock,es,e,hm,bV.imp (λka _ k=>⟨k.1,(vp ka.2).mono hR k.2⟩) h,hp,hc⟩⟩
variable {kv:κ->Value} {vp:α->VP} {v:Value} {m:List (κ×α)} {R:Fz} {k:κ}
abbrev Am (kv:κ->Value) (vp:α->VP) (R:Fz) (m:List (κ×α)) (es:List MapEntry):Prop:=bV (λ(ka:κ×α) e=>e.key=kv ka.1/\(vp ka.2).p R e.val) m es
theorem mw {es:List MapEntry} (h:Am kv vp R m es):es.map (·.key)=(m.map (·.1)).map kv:=by
 induction h with
 | nil=>rfl
 | cons h1 _ ih=>simp [h1.1,ih]
theorem mn {es:List MapEntry} (h:Am kv vp R m es):∀ {i:Nat},fres k (m.map (·.1)) es i=none->mget m k=none/\∀ a e,e.key=kv k->(vp a).p R e.val->Am kv vp R (mput m k a) (es++[e]):=by
 induction h with
 | nil=>exact λ_=>⟨rfl,λa e h1 h2=>.cons ⟨h1,h2⟩ .nil⟩
 | cons h1 h2 ih=>
  intro i hf
  simp only [List.map_cons,fres] at hf
  split at hf
  ·cases hf
  ·rename_i hn
   obtain⟨g1,g2⟩:=ih hf
   exact⟨by simp [mget,hn,g1],λa e k1 k2=>by simp only [mput,if_neg hn];exact .cons h1 (g2 a e k1 k2)⟩
theorem mf {es:List MapEntry} (h:Am kv vp R m es):∀ {i j:Nat} {u:Value},fres k (m.map (·.1)) es i=some (j,u)->∃ d a,j=i+d/\mget m k=some a/\(vp a).p R u/\(∃ e,es[d]? = some e/\e.key=kv k)/\
  Am kv vp R (jV m k) (es.eraseIdx d)/\∀ a' (f:MapEntry->MapEntry),(∀ e,(f e).key=kv k/\(vp a').p R (f e).val)->Am kv vp R (mput m k a') (es.modify d f):=by
 induction h with
 | nil=>intro i j u hf;cases hf
 | cons h1 h2 ih=>
  rename_i ka e m es
  intro i j u hf
  simp only [List.map_cons,fres] at hf
  split at hf
  ·rename_i hn
   cases hf
   exact⟨0,ka.2,rfl,by simp [mget,hn],h1.2,⟨e,rfl,by rw [h1.1,hn]⟩,by simp only [jV,if_pos hn,List.eraseIdx_cons_zero];exact h2,λa' f hf=>by
    simp only [mput,if_pos hn,List.modify_zero_cons];exact .cons (hf e) h2⟩
  ·rename_i hn
   obtain⟨d,a,e1,e2,e3,⟨x,e4,e5⟩,e6,e7⟩:=ih hf
   exact⟨d+1,a,om,by simp [mget,hn,e2],e3,⟨x,by simpa using e4,e5⟩,by simp only [jV,if_neg hn,List.eraseIdx_cons_succ];exact .cons h1 e6,λa' f hf=>by
    simp only [mput,if_neg hn,List.modify_succ_cons];exact .cons h1 (e7 a' f hf)⟩
theorem iw.obj {R:Fz} {r:Nat} {o o':Obj} {x:Mem} {w:World} (h:iw R ((r,o)::x) w):iw R ((r,o')::x) { w with heap:=w.heap.setIfInBounds r o' }:=by
 have hl:=jT h.get
 exact h.set rfl rfl rfl (Nat.le_refl _) sM (by simp [hl]) (λk hk=>by simp [Array.getElem?_setIfInBounds_ne (Ne.symm hk)])
end
section
variable {P:Program} {ops:Array Oper} {n:Nat} {dr:Bool} {R0:Fz} {K:KU} {E:Env} {l:List As} {pend:List (Nat×(List As->Prop))} {rest:List (Nat×Bool)} {i d:Nat}
variable {T:TypeId} {ps:String} {af:Array Edge} {g:Option (Nat×Bool)} {x y y2:Operand} {κ α:Type} [DecidableEq κ] {kv:κ->Value} {vp:α->VP} {v:Value} {m:List (κ×α)} {k:κ}
theorem jg {w:World} {r clock:Nat} {es:Array MapEntry} (h:w.heap[r]? = some (.map es clock)):(getObj r).run P w = .ok (.map es clock) w:=by
 simp [getObj,Sem.run,h]
theorem Dv.mlk {t kt et:TypeId} {z:Value} (df:α) (ho:opAt ops.toList i=some ⟨some d,.lookup t x y true,T,ps,af,g⟩) (hg:fZ ops E g) (hx:opv E x=some (eq v)) (hA:mp kv vp v m∈l) (hy:opv E y=some (eq (kv k)))
  (hu:P.underlying t=some (.map kt et)) (hk:qq P kt kv) (hz:mz P et=some z) (hdf:∀ R,(vp df).p R z)
  (h:Dv P ops n dr R0 K ((d,lg [vp ((mget m k).getD df),eq (.bool (mget m k).isSome)])::E) l ((i,(mp kv vp v m∈·))::pend) rest):Dv P ops n dr R0 K E l pend ((i,false)::rest):=
 Dv.mg _ _ ho (eV.val hg λR a w l h hA hst=>by
  have e1:=h x (by simp [Op.operands]) _ hx
  have e2:=h y (by simp [Op.operands]) _ hy
  simp only [ez] at e1 e2
  obtain⟨mem,⟨r,clock,es,e,hm,he,_⟩,hw⟩:=St.read hA hst
  have hr:=jg (P:=P) (hw (r,_) (by rw [hm];exact List.mem_cons_self ..))
  have hf:=hk.find w k (m.map (·.1)) es (mw he)
  have hc:=hk.chk w es.toArray.isEmpty k
  cases hq:fres k (m.map (·.1)) es 0 with
  | none=>
   obtain⟨h1,_⟩:=mn he hq
   rw [hq] at hf
   exact⟨R,.tuple #[z,.bool false],w,Fz.le_refl R,⟨[z,.bool false],rfl,.cons (by rw [h1];exact hdf R) (.cons (by rw [h1];rfl) .nil)⟩,hst,by
    simp only [List.isEmpty_toArray] at hc
    simp [execOp,Instr.lookup,e1,e2,e,run_underlying hu,hr,hf,hc,lh hz]⟩
  | some ju=>
   obtain⟨j,u⟩:=ju
   obtain⟨dd,a',_,h2,h3,_⟩:=mf he hq
   rw [hq] at hf
   exact⟨R,.tuple #[u,.bool true],w,Fz.le_refl R,⟨[u,.bool true],rfl,.cons (by rw [h2];exact h3) (.cons (by rw [h2];rfl) .nil)⟩,hst,by
    simp only [List.isEmpty_toArray] at hc
    simp [execOp,Instr.lookup,e1,e2,e,run_underlying hu,hr,hf,hc]⟩) hA h
theorem Dv.Be {t kt et:TypeId} {z:Value} (df:α) (ho:opAt ops.toList i=some ⟨some d,.lookup t x y false,T,ps,af,g⟩) (hg:fZ ops E g) (hx:opv E x=some (eq v)) (hA:mp kv vp v m∈l) (hy:opv E y=some (eq (kv k)))
  (hu:P.underlying t=some (.map kt et)) (hk:qq P kt kv) (hz:mz P et=some z) (hdf:∀ R,(vp df).p R z)
  (h:Dv P ops n dr R0 K ((d,vp ((mget m k).getD df))::E) l ((i,(mp kv vp v m∈·))::pend) rest):Dv P ops n dr R0 K E l pend ((i,false)::rest):=
 Dv.mg _ _ ho (eV.val hg λR a w l h hA hst=>by
  have e1:=h x (by simp [Op.operands]) _ hx
  have e2:=h y (by simp [Op.operands]) _ hy
  simp only [ez] at e1 e2
  obtain⟨mem,⟨r,clock,es,e,hm,he,_⟩,hw⟩:=St.read hA hst
  have hr:=jg (P:=P) (hw (r,_) (by rw [hm];exact List.mem_cons_self ..))
  have hf:=hk.find w k (m.map (·.1)) es (mw he)
  have hc:=hk.chk w es.toArray.isEmpty k
  simp only [List.isEmpty_toArray] at hc
  cases hq:fres k (m.map (·.1)) es 0 with
  | none=>
   obtain⟨h1,_⟩:=mn he hq
   rw [hq] at hf
   exact⟨R,z,w,Fz.le_refl R,by rw [h1];exact hdf R,hst,by
    simp [execOp,Instr.lookup,e1,e2,e,run_underlying hu,hr,hf,hc,lh hz]⟩
  | some ju=>
   obtain⟨j,u⟩:=ju
   obtain⟨dd,a',_,h2,h3,_⟩:=mf he hq
   rw [hq] at hf
   exact⟨R,u,w,Fz.le_refl R,by rw [h2];exact h3,hst,by
    simp [execOp,Instr.lookup,e1,e2,e,run_underlying hu,hr,hf,hc]⟩) hA h
theorem Dv.Gj {t:TypeId} (kv:κ->Value) (vp:α->VP) (ho:opAt ops.toList i=some ⟨some d,.makeMap t none,T,ps,af,g⟩) (hg:fZ ops E g)
  (hp:dr=true->∀ z∈pend,((Region.before ops).getD i 0).testBit z.1=true\/∀ v':OV,z.2 (mp kv vp v'.1 []::l))
  (h:∀ v':OV,Dv P ops n dr R0 K ((d,eq v'.1)::E) (mp kv vp v'.1 []::l) pend rest) (hkb:K.kZ E l pend ((i,true)::rest):=by first | exact trivial | assumption):Dv P ops n dr R0 K E l pend ((i,true)::rest):=
 .kZ _ (γ:=OV) (λ_=>True) (λv'=>eq v'.1) (λv'=>mp kv vp v'.1 []::l) (fC ho) (iV.val hg λR a w h hst=>by
  refine⟨⟨.map (some w.heap.size),rfl⟩,R,_,_,trivial,Fz.le_refl R,rfl,hst.alloc (o:=.map #[] 0) ⟨w.heap.size,0,[],rfl,rfl,.nil,.nil,λe h=>by cases h⟩,?_⟩
  simp [execOp,Instr.makeMap]) (λe z hz=>(hp e z hz).imp id λh b _=>h b) (λb _=>h b) hkb
theorem Dv.Js {t kt et:TypeId} {jj:Nat} (a':α) (ho:opAt ops.toList i=some ⟨none,.mapUpdate t x y y2,T,ps,af,g⟩) (hg:fZ ops E g) (hx:opv E x=some (eq v)) (hjj:l[jj]? = some (mp kv vp v m)) (hy:opv E y=some (eq (kv k))) (hy2:opv E y2=some (vp a'))
  (hu:P.underlying t=some (.map kt et)) (hk:qq P kt kv)
  (hp:dr=true->∀ z∈pend,((Region.before ops).getD i 0).testBit z.1=true\/∀ _:Unit,z.2 (l.set jj (mp kv vp v (mput m k a'))))
  (h:Dv P ops n dr R0 K E (l.set jj (mp kv vp v (mput m k a'))) pend rest) (hkb:K.kZ E l pend ((i,true)::rest):=by first | exact trivial | assumption):Dv P ops n dr R0 K E l pend ((i,true)::rest):=
 .kZ _ (γ:=Unit) (λ_=>True) (λ_=>eq undef) (λ_=>l.set jj (mp kv vp v (mput m k a'))) (fC ho) (iV.act hg λR a w h hst=>by
  have e1:=h x (by simp [Op.operands]) _ hx
  have e2:=h y (by simp [Op.operands]) _ hy
  have e3:=h y2 (by simp [Op.operands]) _ hy2
  simp only [ez] at e1 e2
  obtain⟨mem,⟨r,clock,es,e,hm,he,hpw,hcl⟩,hk2⟩:=hst.eF hjj
  subst hm
  have hh:=(je.base hk2).get
  have hr:=jg (P:=P) hh
  have hf:=hk.find w k (m.map (·.1)) es (mw he)
  have hc:=hk.chk w false k
  have hst2:=hk.stay w k
  cases hq:fres k (m.map (·.1)) es 0 with
  | none=>
   obtain⟨_,h1⟩:=mn he hq
   rw [hq] at hf
   refine⟨(),R,{ w with heap:=w.heap.setIfInBounds r (.map (es++[({ key:=kv k,val:=a.eval y2,born:=clock }:MapEntry)]).toArray (clock+1)) },trivial,Fz.le_refl R,St.shut hjj ⟨r,clock+1,es++[({ key:=kv k,val:=a.eval y2,born:=clock }:MapEntry)],e,rfl,h1 a' ({ key:=kv k,val:=a.eval y2,born:=clock }:MapEntry) rfl e3,?_,?_⟩ (je.to (Fz.le_refl R) (λx hx=>hx.obj) hk2),?_⟩
   ·exact List.pairwise_append.2 ⟨hpw,List.pairwise_singleton _ _,λx hx y hy=>by rw [List.mem_singleton.1 hy];exact hcl x hx⟩
   ·intro x hx
    rcases List.mem_append.1 hx with hx | hx
    ·exact Nat.lt_succ_of_lt (hcl x hx)
    ·simp at hx;subst hx;exact Nat.lt_succ_self _
   ·simp [execOp,Instr.mapUpdate,e1,e2,e,run_underlying hu,hr,hf,hc,setObj,Sem.run,hh]
  | some ju=>
   obtain⟨j,u⟩:=ju
   obtain⟨dd,a2,hj,_,_,⟨q,hq1,hq2⟩,_,h7⟩:=mf he hq
   simp only [Nat.zero_add] at hj
   subst hj
   rw [hq] at hf
   have hkk:(((es.toArray)[j]?).map (·.key)).getD (kv k)=kv k:=by simp [hq1,hq2]
   refine⟨(),R,{ w with heap:=w.heap.setIfInBounds r (.map (es.modify j λe=>{ e with key:=kv k,val:=a.eval y2 }).toArray clock) },trivial,Fz.le_refl R,St.shut hjj ⟨r,clock,es.modify j λe=>{ e with key:=kv k,val:=a.eval y2 },e,rfl,h7 a' _ (λe=>⟨rfl,e3⟩),?_,?_⟩ (je.to (Fz.le_refl R) (λx hx=>hx.obj) hk2),?_⟩
   ·have hb:(es.modify j λe=>{ e with key:=kv k,val:=a.eval y2 }).map (·.born)=es.map (·.born):=by
     apply List.ext_getElem?;intro i
     simp only [List.getElem?_map,List.getElem?_modify]
     cases es[i]? <;> simp;split <;> rfl
    have h8:(es.map (·.born)).Pairwise (· < ·):=List.pairwise_map.2 hpw
    rw [<- hb] at h8
    exact List.pairwise_map.1 h8
   ·intro x hx
    have hb:(es.modify j λe=>{ e with key:=kv k,val:=a.eval y2 }).map (·.born)=es.map (·.born):=by
     apply List.ext_getElem?;intro i
     simp only [List.getElem?_map,List.getElem?_modify]
     cases es[i]? <;> simp;split <;> rfl
    have:x.born∈es.map (·.born):=by rw [<- hb];exact List.mem_map.2 ⟨x,hx,rfl⟩
    obtain⟨z,hz,e9⟩:=List.mem_map.1 this
    rw [<- e9];exact hcl z hz
   ·simp only [List.getElem?_toArray] at hkk
    simp [execOp,Instr.mapUpdate,e1,e2,e,run_underlying hu,hr,hf,hc,hkk,hst2,setObj,Sem.run,hh]) (λe z hz=>(hp e z hz).imp id λh b _=>h b) (λ_ _=>h) hkb
theorem Dv.mdl {t kt et tk:TypeId} {jj:Nat} (ho:opAt ops.toList i=some ⟨none,.call ⟨.builtin .delete,#[x,y],#[t,tk]⟩,T,ps,af,g⟩) (hg:fZ ops E g) (hx:opv E x=some (eq v)) (hjj:l[jj]? = some (mp kv vp v m)) (hy:opv E y=some (eq (kv k)))
  (hu:P.underlying t=some (.map kt et)) (hk:qq P kt kv)
  (hp:dr=true->∀ z∈pend,((Region.before ops).getD i 0).testBit z.1=true\/∀ _:Unit,z.2 (l.set jj (mp kv vp v (jV m k))))
  (h:Dv P ops n dr R0 K E (l.set jj (mp kv vp v (jV m k))) pend rest) (hkb:K.kZ E l pend ((i,true)::rest):=by first | exact trivial | assumption):Dv P ops n dr R0 K E l pend ((i,true)::rest):=
 .kZ _ (γ:=Unit) (λ_=>True) (λ_=>eq (.tuple #[])) (λ_=>l.set jj (mp kv vp v (jV m k))) (fC ho) (iV.val hg λR a w h hst=>by
  have e1:=h x (by simp [Op.operands,Call.operands]) _ hx
  have e2:=h y (by simp [Op.operands,Call.operands]) _ hy
  simp only [ez] at e1 e2
  obtain⟨mem,⟨r,clock,es,e,hm,he,hpw,hcl⟩,hk2⟩:=hst.eF hjj
  subst hm
  have hh:=(je.base hk2).get
  have hr:=jg (P:=P) hh
  have hf:=hk.find w k (m.map (·.1)) es (mw he)
  have hc:=hk.chk w es.isEmpty k
  have hdn:∀ (m:List (κ×α)),mget m k=none->jV m k=m:=by
   intro m
   induction m with
   | nil=>intro _;rfl
   | cons e m ih=>
    intro hn
    simp only [mget] at hn
    split at hn
    ·cases hn
    ·rename_i hne;simp only [jV,if_neg hne,ih hn]
  cases hq:fres k (m.map (·.1)) es 0 with
  | none=>
   obtain⟨h1,_⟩:=mn he hq
   rw [hq] at hf
   refine⟨(),R,.tuple #[],{ w with heap:=w.heap.setIfInBounds r (.map es.toArray clock) },trivial,Fz.le_refl R,rfl,St.shut hjj ⟨r,clock,es,e,rfl,by rw [hdn m h1];exact he,hpw,hcl⟩ (je.to (Fz.le_refl R) (λx hx=>hx.obj) hk2),?_⟩
   simp [execOp,resolve,invoke,builtin,Builtin.delete_,e1,e2,e,run_underlying hu,hr,hf,hc,setObj,Sem.run,hh]
  | some ju=>
   obtain⟨j,u⟩:=ju
   obtain⟨dd,a2,hj,_,_,_,h6,_⟩:=mf he hq
   simp only [Nat.zero_add] at hj
   subst hj
   rw [hq] at hf
   refine⟨(),R,.tuple #[],{ w with heap:=w.heap.setIfInBounds r (.map (es.eraseIdx j).toArray clock) },trivial,Fz.le_refl R,rfl,St.shut hjj ⟨r,clock,es.eraseIdx j,e,rfl,h6,hpw.sublist (List.eraseIdx_sublist ..),λx hx=>hcl x ((List.eraseIdx_sublist ..).subset hx)⟩ (je.to (Fz.le_refl R) (λx hx=>hx.obj) hk2),?_⟩
   simp [execOp,resolve,invoke,builtin,Builtin.delete_,e1,e2,e,run_underlying hu,hr,hf,hc,setObj,Sem.run,hh]) (λe z hz=>(hp e z hz).imp id λh b _=>h b) (λ_ _=>h) hkb
end
end Go.Sp
