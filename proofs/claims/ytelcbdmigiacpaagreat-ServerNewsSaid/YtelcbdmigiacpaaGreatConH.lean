import Derived.Test.YtelcbdmigiacpaaGreatConG
set_option linter.all false
namespace Go.Sp
open Go
def Gets {α:Type} (x:Option α) (κ:α→Prop):Prop:=∃ v,x = some v∧κ v
def grd {α:Type} (p:Prop) [Decidable p] (x:Option α):Option α:=if p then x else none
section
variable {α β:Type} {κ:β→Prop}
theorem Gets.bind {x:Option α} {f:α→Option β} (h:Gets (x.bind f) κ):Gets x (fun v=>Gets (f v) κ):=by
 obtain ⟨v,hv,hk⟩:=h
 obtain ⟨u,hu,hf⟩:=Option.bind_eq_some_iff.1 hv
 exact ⟨u,hu,v,hf,hk⟩
theorem Gets.call {x:Option α} {f:α→Option β} (h:Gets (x.bind f) κ):∃ u,x = some u∧Gets (f u) κ:=h.bind
theorem Gets.ct {c:Bool} {A B:Option β} (h:Gets (cond c A B) κ) (hc:c = true):Gets A κ:=by subst hc; exact h
theorem Gets.cf {c:Bool} {A B:Option β} (h:Gets (cond c A B) κ) (hc:c = false):Gets B κ:=by subst hc; exact h
theorem Gets.grd {p:Prop} [Decidable p] {x:Option β} (h:Gets (Sp.grd p x) κ):p∧Gets x κ:=by
 unfold Sp.grd at h
 split at h
 ·exact ⟨‹_›,h⟩
 ·obtain ⟨v,hv,_⟩:=h; cases hv
theorem Gets.out {v:β} (h:Gets (some v) κ):κ v:=by
 obtain ⟨u,hu,hk⟩:=h
 cases hu; exact hk
theorem Gets.no (h:Gets (none:Option β) κ):False:=by obtain ⟨v,hv,_⟩:=h; cases hv
theorem Gets.of {x:Option β} {r:β} (h:x = some r):Gets x (fun v=>v = r):=⟨r,h,rfl⟩
end
abbrev w64 (x:Int):Int:=IntKind.i64.wrap x
section
variable {P:Program} {n:Nat} {R0:Fz} {Q:Exit→Act→World→Prop} {E:Env} {l:List As}
def Jn (n:Nat) (R0:Fz) {β:Type} (C:β→Prop) (Eb:β→Env) (lb:β→List As) (a:Act) (w:World):Prop:=∃ b R,C b∧R0.le R∧Agr n R a (Eb b)∧St R (lb b) w
theorem WP.seqj {x y:Code} {β:Type} (C:β→Prop) (Eb:β→Env) (lb:β→List As) (h2:∀ b,C b→WP P n R0 y Q (Eb b) (lb b)) (h1:WP P n R0 x (Exit.then (Jn n R0 C Eb lb) Q) E l):WP P n R0 (.seq x y) Q E l:=fun R a w h0 ha hs=>
 wp_seq (Code.wp_mono (fun e a w q=>by
  cases e with
  | normal=>obtain ⟨b,R,hC,h0,ha,hs⟩:=q; exact h2 b hC R a w h0 ha hs
  | _=>exact q) (h1 R a w h0 ha hs))
theorem Jn.mk {β:Type} {C:β→Prop} {Eb:β→Env} {lb:β→List As} (b:β) (hC:C b) (hE:∀ t p,find (Eb b) t = some p→find E t = some p) (hl:l.Perm (lb b)):
  ∀ R a w,R0.le R→Agr n R a E→St R l w→Jn n R0 C Eb lb a w:=fun R _ _ h0 ha hs=>⟨b,R,hC,h0,ha.weak hE,hs.permL hl⟩
theorem pend_nil {k:Nat} {ops:Array Oper} {γ:Type} {L:γ→List As}:∀ z∈([]:List (Nat×(List As→Prop))),((Region.before ops).getD k 0).testBit z.1 = true∨∀ b,z.2 (L b):=fun _ h=>by cases h
theorem pend_in {k i:Nat} {q:List As→Prop} {ops:Array Oper} {pend:List (Nat×(List As→Prop))} {γ:Type} {L:γ→List As} (h:∀ b,q (L b)) (r:∀ z∈pend,((Region.before ops).getD k 0).testBit z.1 = true∨∀ b,z.2 (L b)):∀ z∈(i,q)::pend,((Region.before ops).getD k 0).testBit z.1 = true∨∀ b,z.2 (L b):=fun z hz=>by
 rcases List.mem_cons.1 hz with rfl | hz
 ·exact .inr h
 ·exact r z hz
theorem pend_by {k i:Nat} {q:List As→Prop} {ops:Array Oper} {pend:List (Nat×(List As→Prop))} {γ:Type} {L:γ→List As} (h:((Region.before ops).getD k 0).testBit i = true) (r:∀ z∈pend,((Region.before ops).getD k 0).testBit z.1 = true∨∀ b,z.2 (L b)):∀ z∈(i,q)::pend,((Region.before ops).getD k 0).testBit z.1 = true∨∀ b,z.2 (L b):=fun z hz=>by
 rcases List.mem_cons.1 hz with rfl | hz
 ·exact .inl h
 ·exact r z hz
theorem pend_bits {k:Nat} {ops:Array Oper} {pend:List (Nat×(List As→Prop))} {γ:Type} {L:γ→List As} (h:(pend.map (·.1)).all (fun i=>((Region.before ops).getD k 0).testBit i) = true):∀ z∈pend,((Region.before ops).getD k 0).testBit z.1 = true∨∀ b,z.2 (L b):=fun z hz=>
 .inl (List.all_eq_true.1 h z.1 (List.mem_map.2 ⟨z,hz,rfl⟩))
theorem mem_at {l:List As} {A:As} (j:Nat) (h:l[j]? = some A):A∈l:=List.mem_of_getElem? h
end
section
variable {P:Program} {ops:Array Oper} {n:Nat} {dr:Bool} {R0:Fz} {K:KU} {E:Env} {l:List As} {pend:List (Nat×(List As→Prop))} {rest:List (Nat×Bool)} {i d:Nat}
variable {T:TypeId} {ps:String} {af:Array Edge} {g:Option (Nat×Bool)} {x y:Operand} {α:Type}
theorem nextcap_le (need cap:Nat) (h:cap < need):Builtin.nextslicecap need cap≤2 * need:=by
 have key:∀ r c,256≤c→c≤2 * need→Builtin.growBy need r c≤2 * need:=by
  intro r
  induction r with
  | zero=>intro c _ hc; simpa [Builtin.growBy] using hc
  | succ r ih=>
   intro c h1 h2
   simp only [Builtin.growBy]
   split
   ·exact h2
   ·exact ih _ (by omega) (by omega)
 unfold Builtin.nextslicecap
 split
 ·omega
 ·split
  ·omega
  ·exact key 4 cap (by omega) (by omega)
end
end Go.Sp
namespace Go.Sp
open Go
def fall {α β:Type} (f:α→Option β):α ⊕ β→Option β
 | .inl a=>f a
 | .inr b=>some b
section
variable {P:Program} {n:Nat} {R0:Fz} {Q:Exit→Act→World→Prop} {E:Env} {l:List As} {α α' β:Type} {κ:β→Prop}
theorem WP.seqn {x y:Code} {m:Option α} {f:α→Option β} (H:Gets (m.bind f) κ) {γ:Type} (π:γ→α) (Eb:γ→Env) (lb:γ→List As) (h2:∀ b,Gets (f (π b)) κ→WP P n R0 y Q (Eb b) (lb b))
  (h1:Gets m (fun o=>Gets (f o) κ)→WP P n R0 x (Exit.then (Jn n R0 (fun b=>Gets (f (π b)) κ) Eb lb) Q) E l):WP P n R0 (.seq x y) Q E l:=WP.seqj _ Eb lb h2 (h1 H.bind)
theorem WP.seqr {x y:Code} {m:Option (α ⊕ β)} {f:α→Option β} (H:Gets (m.bind (fall f)) κ) {γ:Type} (π:γ→α) (Eb:γ→Env) (lb:γ→List As) (h2:∀ b,Gets (f (π b)) κ→WP P n R0 y Q (Eb b) (lb b))
  (h1:Gets m (fun o=>Gets (fall f o) κ)→WP P n R0 x (Exit.then (Jn n R0 (fun b=>Gets (f (π b)) κ) Eb lb) Q) E l):WP P n R0 (.seq x y) Q E l:=WP.seqj _ Eb lb h2 (h1 H.bind)
theorem WP.loopg {c:Code} {γ:Type} (L:Nat→γ→Option β) {k:Nat} (b:γ) (H:Gets (L k b) κ) (Eb:γ→Env) (lb:γ→List As) (hE:∀ t p,find (Eb b) t = some p→find E t = some p) (hl:l.Perm (lb b))
  (round:∀ k b,Gets (L k b) κ→WP P n R0 c (Exit.then (Back n R0 (fun k b=>Gets (L k b) κ) Eb lb k) Q) (Eb b) (lb b)):WP P n R0 (.loop c) Q E l:=
 WP.perm hl (WP.weak hE (WP.loop (fun k b=>Gets (L k b) κ) Eb lb round H))
end
def intK (k:IntKind):Kd Int:=⟨1,0,fun x=>[eq (.int k x)],fun _=>rfl,fun _ p h R v hv=>by simp at h; subst h; cases hv; rfl⟩
def strK:Kd ByteArray:=⟨1,ByteArray.empty,fun x=>[eq (.string x)],fun _=>rfl,fun _ p h R v hv=>by simp at h; subst h; cases hv; rfl⟩
def slK {α:Type} (K:Kd α):Kd (List α):=⟨1,[],fun x=>[sl K x],fun _=>rfl,fun _ p h R v hv=>by simp at h; subst h; exact one_sl R v hv⟩
section
variable {P:Program} {ops:Array Oper} {n:Nat} {dr:Bool} {R0:Fz} {K:KU} {E:Env} {l:List As} {pend:List (Nat×(List As→Prop))} {rest:List (Nat×Bool)} {i d:Nat}
variable {T:TypeId} {ps:String} {af:Array Edge} {g:Option (Nat×Bool)} {x y:Operand} {α:Type}
end
end Go.Sp
namespace Go.Sp
open Go
section
variable {P:Program} {n:Nat} {R0:Fz} {E:Env} {l:List As}
theorem Dn.drop {G:Act→World→Prop} {A:As} (h:∀ R a w,R0.le R→Agr n R a E→St R l w→G a w):∀ R a w,R0.le R→Agr n R a E→St R (A::l) w→G a w:=fun R a w h0 ha hs=>h R a w h0 ha hs.drop
def runRes (a:Act):ResultVar→Sem Value
 | .tmp t=>pure (a.tmps.getD t undef)
 | .cell t T=>do loadVar T (← asAddr (a.tmps.getD t undef))
def Res (P:Program) (n:Nat) (E:Env) (l:List As) (r:ResultVar) (p:VP):Prop:=∀ R a w,Agr n R a E→St R l w→∃ v,(runRes a r).run P w = .ok v w∧p.p R v
theorem res_tmp {t:Nat} {p:VP} (h:find E t = some p):Res P n E l (.tmp t) p:=fun R a w ha _=>⟨_,rfl,ha.2.2 t p h⟩
theorem res_cells {t T b:Nat} {d:TypeDesc} {sz:Nat} {bT:TypeId} {ps:Cs} (h:find E t = some (eq (.pointer (some ⟨b,0,none⟩)))) (hu:P.underlying T = some d) (hd:aggD d = true) (hz:P.cellsOf T = sz) (hA:blk b bT ps∈l) (hl:ps.length = sz):Res P n E l (.cell t T) (agg ps):=fun R a w ha hs=>by
 have e:Act.get a t = _:=ha.2.2 t _ h
 obtain ⟨cs,hh,hc⟩:=blk_heap hA hs
 have hlen:=All2.length hc
 have:=run_loads (P:=P) (off:=0) hh hu hd hz (by simp; omega)
 unfold Act.get at e
 refine ⟨.agg cs.toArray,?_,cs,rfl,hc⟩
 simp only [runRes,Sem.run_bind,e,asAddr,Sem.run_pure,Result.andThen_ok,this]
 simp only [List.drop_zero]
 rw [List.take_of_length_le (by omega)]
def packV:List Value→Value
 | [v]=>v
 | vs=>.tuple vs.toArray
theorem run_results {fn:Func} {rs:List ResultVar} {a:Act} {w:World} (hf:fn.results = rs.toArray):∀ {vs:List Value},All2 (fun r v=>(runRes a r).run P w = .ok v w) rs vs→(results fn a.tmps).run P w = .ok (packV vs) w:=by
 have key:∀ {rs:List ResultVar} {vs:List Value},All2 (fun r v=>(runRes a r).run P w = .ok v w) rs vs→(rs.mapM (runRes a)).run P w = .ok vs w:=by
  intro rs vs h
  induction h with
  | nil=>simp
  | cons h1 _ ih=>rw [List.mapM_cons]; simp only [Sem.run_bind,h1,Result.andThen_ok,ih,Sem.run_pure]
 intro vs h
 have e:results fn a.tmps = (do let vs ← fn.results.mapM (runRes a); pure (if h:vs.size = 1 then vs[0] else .tuple vs)):=by
  unfold results
  congr 1 <;> (try (congr 1 <;> (try (funext r; cases r <;> rfl))))
 rw [e,hf,List.mapM_toArray]
 simp only [Sem.run_bind,Sem.run_map,key h,Result.andThen_ok,Sem.run_pure]
 match vs with
 | []=>rfl
 | [v]=>rfl
 | _::_::_=>simp [packV]
def retOf:List VP→VP
 | [p]=>p
 | ps=>tup ps
variable {fn:Func} {γ:Type} {ok:γ→Prop} {ret:γ→VP} {post:γ→List As} {F:List As}
theorem res_all {rs:List ResultVar} {ps:List VP} {R:Fz} {a:Act} {w:World} (h:All2 (Res P n E l) rs ps) (ha:Agr n R a E) (hs:St R l w):∃ vs,All2 (fun r v=>(runRes a r).run P w = .ok v w) rs vs∧Cs.h R ps vs:=by
 induction h with
 | nil=>exact ⟨[],.nil,.nil⟩
 | cons h1 _ ih=>
  obtain ⟨vs,k1,k2⟩:=ih
  obtain ⟨v,k3,k4⟩:=h1 R a w ha hs
  exact ⟨v::vs,.cons k3 k1,.cons k4 k2⟩
theorem ret_val {ps:List VP} {vs:List Value} {R:Fz} (h:Cs.h R ps vs):(retOf ps).p R (packV vs):=by
 match ps,vs,h with
 | [],_,.nil=>exact ⟨[],rfl,.nil⟩
 | [p],_,.cons h1 .nil=>exact h1
 | p::q::ps,_,.cons h1 (.cons h2 h3)=>exact ⟨_,rfl,.cons h1 (.cons h2 h3)⟩
theorem WP.retL {Q:Exit→Act→World→Prop} {rs:List ResultVar} {ps:List VP} (hQ:∀ a w,bodyPost P fn (Endp R0 ok ret post F) .ret a w→Q .ret a w) (hf:fn.results = rs.toArray) (b:γ) (hb:ok b) (h:All2 (Res P n E l) rs ps) (hp:ret b = retOf ps) (hl:∀ R w,St R l w→St R (post b++F) w):WP P n R0 .ret Q E l:=fun R a w h0 ha hs=>by
 obtain ⟨vs,k1,k2⟩:=res_all h ha hs
 exact wp_ret (hQ a w ⟨ha.2.1,_,run_results hf k1,b,R,_,hb,h0,rfl,by rw [hp]; exact ret_val k2,hl R w hs⟩)
theorem res_end {rs:List ResultVar} {ps:List VP} (hf:fn.results = rs.toArray) (b:γ) (hb:ok b) (h:All2 (Res P n E l) rs ps) (hp:ret b = retOf ps) (hl:∀ R w,St R l w→St R (post b++F) w):∀ R a w,R0.le R→Agr n R a E→St R l w→bodyPost P fn (Endp R0 ok ret post F) .normal a w:=fun R a w h0 ha hs=>by
 obtain ⟨vs,k1,k2⟩:=res_all h ha hs
 exact ⟨ha.2.1,_,run_results hf k1,b,R,_,hb,h0,rfl,by rw [hp]; exact ret_val k2,hl R w hs⟩
theorem equal_bool {t:TypeId} {p q:Bool} {w:World} (hu:P.underlying t = some .bool):(Op.equal t (.bool p) (.bool q)).run P w = .ok (p == q) w:=by
 unfold Op.equal
 obtain ⟨m,hm⟩:∃ m,Op.maxDepth = m + 1:=⟨9999,rfl⟩
 rw [hm]
 simp only [Op.equalIn,underlying,Sem.run_bind,run_program,Result.andThen_ok,hu,Sem.run_pure]
theorem run_bne {x y:Operand} {xT:TypeId} {p q:Bool} {w:World} (hu:P.underlying xT = some .bool):(do eqGuard .neq xT x y (.bool p) (.bool q); binOp .neq xT (.bool p) (.bool q):Sem Value).run P w = .ok (.bool (p != q)) w:=by
 simp only [eqGuard,binOp,Sem.run_bind,Sem.run_pure,Result.andThen_ok,equal_bool hu]
 cases p <;> cases q <;> rfl
end
end Go.Sp
namespace Go.Sp
open Go
def ofNums (xs:List Int):ByteArray:=⟨(xs.map fun n=>UInt8.ofNat n.toNat).toArray⟩
theorem toString_list {P:Program} {w:World}:∀ (xs:List Int) (cs:List Value) (s:ByteArray) (R:Fz),Cs.h R (xs.flatMap (intK .u8).enc) cs→
  (forIn (m:=Sem) cs.toArray s fun c s=>(do
   let .int .u8 n := c | stuck "bytesToString: byte expected"
   pure (ForInStep.yield (s.push (UInt8.ofNat n.toNat))):Sem (ForInStep ByteArray))).run P w = .ok ⟨(s.data.toList++xs.map fun n=>UInt8.ofNat n.toNat).toArray⟩ w:=by
 intro xs cs s R h
 rw [List.forIn_toArray]
 induction xs generalizing cs s with
 | nil=>
  cases h
  simp
 | cons x xs ih=>
  cases h with
  | cons h1 h2=>
   have e:=h1
   simp only [eq_p] at e
   subst e
   simp only [List.forIn_cons,Sem.run_bind,Sem.run_pure,Result.andThen_ok]
   rw [ih _ _ h2]
   simp [ByteArray.push]
section
variable {P:Program} {ops:Array Oper} {n:Nat} {dr:Bool} {R0:Fz} {K:KU} {E:Env} {l:List As} {pend:List (Nat×(List As→Prop))} {rest:List (Nat×Bool)} {i d:Nat}
variable {T:TypeId} {ps:String} {af:Array Edge} {g:Option (Nat×Bool)} {x y:Operand} {α:Type}
theorem Dv.cvbs {s t e:TypeId} {xs:List Int} (ho:opAt ops.toList i = some ⟨some d,.convert s t x,T,ps,af,g⟩) (hg:GOn ops E g) (hx:opv E x = some (sl (intK .u8) xs)) (hu:P.underlying s = some (.slice e)) (hv:P.underlying e = some (.int .u8)) (hw:P.underlying t = some .string)
  (k:Dv P ops n dr R0 K ((d,eq (.string (ofNums xs)))::E) l ((i,tt)::pend) rest):Dv P ops n dr R0 K E l pend ((i,false)::rest):=
 Dv.okd _ _ ho (OpOk.val hg fun R a w l h _ hst=>⟨R,_,w,Fz.le_refl R,rfl,hst,by
  rcases h x (by simp [Op.operands]) _ hx with ⟨a1,c1,e1,e2⟩ | ⟨b,off,c,bT,fr,cs,e1,hl,hm,hs,hh⟩
  ·subst e2
   cases a1 with
   | none=>
    simp only [execOp,convert,underlying,Sem.run_bind,run_program,hu,hv,hw,e1,Sem.run_pure,Result.andThen_ok,Conv.bytesToString]
    rfl
   | some a1=>
    simp only [execOp,convert,underlying,Sem.run_bind,run_program,hu,hv,hw,e1,Sem.run_pure,Result.andThen_ok,Conv.bytesToString,loadCells,loadCellsFrom]
    rfl
  ·have hb:=hst.base.frz b _ hm
   have h1:off + xs.length≤cs.size:=by
    have:(intK IntKind.u8).sz = 1:=rfl
    rw [this] at hs; omega
   have hld:=run_loadCells (P:=P) hb h1
   have h2:Cs.h R (xs.flatMap (intK .u8).enc) ((cs.toList.drop off).take xs.length):=by
    have:(intK IntKind.u8).sz = 1:=rfl
    rwa [this,Nat.mul_one] at hh
   have ht:=toString_list (P:=P) (w:=w) xs _ ByteArray.empty R h2
   simp only [execOp,convert,underlying,Sem.run_bind,run_program,hu,hv,hw,e1,Sem.run_pure,Result.andThen_ok,Conv.bytesToString,hld]
   erw [ht]
   rfl⟩) trivial k
end
end Go.Sp
namespace Go.Sp
open Go
theorem strs_cells {R:Fz} {F:List As} {w:World} {v:Value} {xs:List ByteArray} (h:(sl strK xs).p R v) (hs:St R F w):(∃ a c,v = .slice a 0 c∧xs = [])∨∃ b off c,v = .slice (some ⟨b,off,none⟩) xs.length c∧xs.length≤c∧b < w.heap.size∧
  ∀ (j:Nat) x,xs[j]? = some x→w.cell? ⟨b,off + j,none⟩ = some (.string x):=by
 rcases h with h | ⟨b,off,c,T,fr,cs,e,hl,hm,hc,hh⟩
 ·exact .inl h
 ·have hb:=hs.base.frz b _ hm
  refine .inr ⟨b,off,c,e,hl,lt_of_some hb,fun j x hj=>?_⟩
  have hjl:j < xs.length:=(List.getElem?_eq_some_iff.1 hj).1
  have hx:xs.getD j strK.dflt = x:=by rw [List.getD_eq_getElem?_getD,hj]; rfl
  have:=Cs.elem (K:=strK) hjl hh
  rw [hx] at this
  obtain ⟨u,hu,hp⟩:=take_all2 this (j:=0) rfl
  have e1:(strK.sz) = 1:=rfl
  rw [e1,Nat.mul_one] at hu
  have h2:=getm (m:=1) hu
  simp only [eq_p] at hp
  subst hp
  rw [cell_at hb]
  simpa using h2
end Go.Sp
namespace Go.Sp
open Go
section
variable {P:Program} {d:Nat} {xs ys:Array Value} {f:Field} {fs:List Field} {a b:Value} {r s:Bool} {w:World}
theorem eqF_cons (hn : f.name ≠ "_") (ha : (part f.type xs f.offset).run P w = .ok a w) (hb : (part f.type ys f.offset).run P w = .ok b w) (he : (Op.equalIn d f.type a b).run P w = .ok r w) (hr : (Op.eqFields d xs ys fs).run P w = .ok s w) : (Op.eqFields d xs ys (f :: fs)).run P w = .ok (r && s) w := by
 rw [Op.eqFields]
 simp only [if_pos hn,Sem.run_bind,ha,hb,he,Result.andThen_ok]
 cases r
 ·simp
 ·simpa using hr
theorem eqF_nil:(Op.eqFields d xs ys []).run P w = .ok true w:=by simp [Op.eqFields]
theorem run_part1 {t:TypeId} {td:TypeDesc} {cs:Array Value} {off:Nat} {v:Value} (hu:P.underlying t = some td) (hd:aggD td = false) (hv:cs.toList[off]? = some v):(part t cs off).run P w = .ok v w:=by
 have hv':cs[off]? = some v:=by simpa using hv
 unfold part
 simp [run_isAgg hu,hd,hv']
theorem run_parts {t:TypeId} {td:TypeDesc} {cs:Array Value} {off sz:Nat} (hu:P.underlying t = some td) (hd:aggD td = true) (hz:P.cellsOf t = sz):(part t cs off).run P w = .ok (.agg ((cs.toList.drop off).take sz).toArray) w:=by
 unfold part
 simp only [Sem.run_bind,run_isAgg hu,hd,Result.andThen_ok,if_true,run_sizeOf hu hz,Sem.run_pure]
 congr 2
 apply Array.ext'
 simp [Array.toList_extract]
theorem eq_int {t:TypeId} {k k':IntKind} {x y:Int} (h:P.underlying t = some (.int k')):(Op.equalIn (d + 1) t (.int k x) (.int k y)).run P w = .ok (decide (x = y)) w:=by
 exact run_equalIn_int w d t k k' x y h
theorem eq_bool {t:TypeId} {x y:Bool} (h:P.underlying t = some .bool):(Op.equalIn (d + 1) t (.bool x) (.bool y)).run P w = .ok (decide (x = y)) w:=by
 rw [run_equalIn_bool w d t x y h]; cases x <;> cases y <;> rfl
theorem eq_str {t:TypeId} {x y:ByteArray} (h:P.underlying t = some .string):(Op.equalIn (d + 1) t (.string x) (.string y)).run P w = .ok (decide (x = y)) w:=by
 rw [run_equalIn_string w d t x y h,toList_beq]
theorem eq_struct {t:TypeId} {fs:Array Field} {xs ys:List Value} (hu:P.underlying t = some (.struct fs)) (hp:P.stoodInHeld t = false) (h:(Op.eqFields d xs.toArray ys.toArray fs.toList).run P w = .ok r w):(Op.equalIn (d + 1) t (.agg xs.toArray) (.agg ys.toArray)).run P w = .ok r w:=by
 have hf:P.fieldsOf t = fs:=by simp [Program.fieldsOf,hu]
 rw [run_equalIn_struct (P:=P) w d t xs.toArray ys.toArray (by rw [hf]; exact hu) hp,hf]
 exact h
theorem equal_of {t:TypeId} (k:Nat) (hk:k≤10000) (h:∀ d,(Op.equalIn (d + k) t a b).run P w = .ok r w):(Op.equal t a b).run P w = .ok r w:=by
 unfold Op.equal
 have:=h (Op.maxDepth - k)
 rwa [Nat.sub_add_cancel (by unfold Op.maxDepth; omega)] at this
end
theorem agg_fix {R:Fz} {us:List Value} {v:Value} (h:(agg (us.map eq)).p R v):v = .agg us.toArray:=by
 obtain ⟨cs,e,hc⟩:=h
 have:cs = us:=by
  clear e
  induction us generalizing cs with
  | nil=>cases hc; rfl
  | cons u us ih=>cases hc with | cons h1 h2=>rw [ih _ h2]; congr 1
 rw [e,this]
section
variable {P:Program} {ops:Array Oper} {n:Nat} {dr:Bool} {R0:Fz} {K:KU} {E:Env} {l:List As} {pend:List (Nat×(List As→Prop))} {rest:List (Nat×Bool)} {i d:Nat}
variable {T:TypeId} {ps:String} {af:Array Edge} {g:Option (Nat×Bool)} {x y:Operand}
theorem Dv.eqs {t yT:TypeId} {q1 q2:Cs} {b:Bool} (u1 u2:List Value) (ho:opAt ops.toList i = some ⟨some d,.binOp .eql t x y yT,T,ps,af,g⟩) (hg:GOn ops E g) (hx:opv E x = some (agg q1)) (hy:opv E y = some (agg q2)) (e1:q1 = u1.map eq) (e2:q2 = u2.map eq)
  (hm:P.eqGuardType P.depth t = false) (hr:∀ w,(Op.equal t (.agg u1.toArray) (.agg u2.toArray)).run P w = .ok b w) (k:Dv P ops n dr R0 K ((d,eq (.bool b))::E) l ((i,tt)::pend) rest):Dv P ops n dr R0 K E l pend ((i,false)::rest):=
 Dv.okd _ _ ho (OpOk.pure hg fun R a w h=>⟨_,rfl,by
  have h1:=h x (by simp [Op.operands]) _ hx
  have h2:=h y (by simp [Op.operands]) _ hy
  rw [e1] at h1; rw [e2] at h2
  simp only [execOp,agg_fix h1,agg_fix h2,Sem.run_bind,run_eqGuard_agg w .eql t x y _ _ hm,Result.andThen_ok,binOp,hr w,Sem.run_pure]⟩) trivial k
end
end Go.Sp
namespace Go.Sp
open Go
section
variable {P:Program} {ops:Array Oper} {n:Nat} {dr:Bool} {R0:Fz} {K:KU} {E:Env} {l:List As} {pend:List (Nat×(List As→Prop))} {rest:List (Nat×Bool)} {i d:Nat}
variable {T:TypeId} {ps:String} {af:Array Edge} {g:Option (Nat×Bool)} {x y:Operand}
end
end Go.Sp
