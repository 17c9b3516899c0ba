import Derived.Test.YtelcbdmigiacpaaGreatConG
set_option linter.all false
namespace Go.Sp
open Go
def aW {α:Type} (x:Option α) (κ:α->Prop):Prop:=∃ v,x=some v/\κ v
def aF {α:Type} (p:Prop) [Decidable p] (x:Option α):Option α:=if p then x else none
section
variable {α β:Type} {κ:β->Prop}
theorem aW.bind {x:Option α} {f:α->Option β} (h:aW (x.bind f) κ):aW x (λv=>aW (f v) κ):=by
 obtain⟨v,hv,hk⟩:=h
 obtain⟨u,hu,hf⟩:=Option.bind_eq_some_iff.1 hv
 exact⟨u,hu,v,hf,hk⟩
theorem aW.call {x:Option α} {f:α->Option β} (h:aW (x.bind f) κ):∃ u,x=some u/\aW (f u) κ:=h.bind
theorem aW.ct {c:Bool} {A B:Option β} (h:aW (cond c A B) κ) (hc:c=true):aW A κ:=by subst hc;exact h
theorem aW.cf {c:Bool} {A B:Option β} (h:aW (cond c A B) κ) (hc:c=false):aW B κ:=by subst hc;exact h
theorem aW.aF {p:Prop} [Decidable p] {x:Option β} (h:aW (Sp.aF p x) κ):p/\aW x κ:=by
 unfold Sp.aF at h
 split at h
 ·exact⟨‹_›,h⟩
 ·obtain⟨v,hv,_⟩:=h;cases hv
theorem aW.out {v:β} (h:aW (some v) κ):κ v:=by
 obtain⟨u,hu,hk⟩:=h
 cases hu;exact hk
theorem aW.no (h:aW (none:Option β) κ):False:=by obtain⟨v,hv,_⟩:=h;cases hv
theorem aW.of {x:Option β} {r:β} (h:x=some r):aW x (λv=>v=r):=⟨r,h,rfl⟩
end
abbrev aE (x:Int):Int:=IntKind.i64.wrap x
section
variable {P:Program} {n:Nat} {R0:Fz} {Q:Exit->Act->World->Prop} {E:Env} {l:List As}
def Jn (n:Nat) (R0:Fz) {β:Type} (C:β->Prop) (Eb:β->Env) (lb:β->List As) (a:Act) (w:World):Prop:=∃ b R,C b/\R0.le R/\od n R a (Eb b)/\St R (lb b) w
theorem WP.xX {x y:Code} {β:Type} (C:β->Prop) (Eb:β->Env) (lb:β->List As) (h2:∀ b,C b->WP P n R0 y Q (Eb b) (lb b)) (h1:WP P n R0 x (Exit.then (Jn n R0 C Eb lb) Q) E l):WP P n R0 (.seq x y) Q E l:=λR a w h0 ha hs=>
 wp_seq (Code.wp_mono (λe a w q=>by
  cases e with
  | normal=>obtain⟨b,R,hC,h0,ha,hs⟩:=q;exact h2 b hC R a w h0 ha hs
  | _=>exact q) (h1 R a w h0 ha hs))
theorem Jn.mk {β:Type} {C:β->Prop} {Eb:β->Env} {lb:β->List As} (b:β) (hC:C b) (hE:∀ t p,find (Eb b) t=some p->find E t=some p) (hl:l.Perm (lb b)):
  ∀ R a w,R0.le R->od n R a E->St R l w->Jn n R0 C Eb lb a w:=λR _ _ h0 ha hs=>⟨b,R,hC,h0,ha.fG hE,hs.fY hl⟩
theorem qI {k:Nat} {ops:Array Oper} {γ:Type} {L:γ->List As}:∀ z∈([]:List (Nat×(List As->Prop))),((Region.before ops).getD k 0).testBit z.1=true\/∀ b,z.2 (L b):=λ_ h=>by cases h
theorem eB {k i:Nat} {q:List As->Prop} {ops:Array Oper} {pend:List (Nat×(List As->Prop))} {γ:Type} {L:γ->List As} (h:∀ b,q (L b)) (r:∀ z∈pend,((Region.before ops).getD k 0).testBit z.1=true\/∀ b,z.2 (L b)):∀ z∈(i,q)::pend,((Region.before ops).getD k 0).testBit z.1=true\/∀ b,z.2 (L b):=λz hz=>by
 rcases List.mem_cons.1 hz with rfl | hz
 ·exact .inr h
 ·exact r z hz
theorem dB {k i:Nat} {q:List As->Prop} {ops:Array Oper} {pend:List (Nat×(List As->Prop))} {γ:Type} {L:γ->List As} (h:((Region.before ops).getD k 0).testBit i=true) (r:∀ z∈pend,((Region.before ops).getD k 0).testBit z.1=true\/∀ b,z.2 (L b)):∀ z∈(i,q)::pend,((Region.before ops).getD k 0).testBit z.1=true\/∀ b,z.2 (L b):=λz hz=>by
 rcases List.mem_cons.1 hz with rfl | hz
 ·exact .inl h
 ·exact r z hz
theorem ee {k:Nat} {ops:Array Oper} {pend:List (Nat×(List As->Prop))} {γ:Type} {L:γ->List As} (h:(pend.map (·.1)).all (λi=>((Region.before ops).getD k 0).testBit i)=true):∀ z∈pend,((Region.before ops).getD k 0).testBit z.1=true\/∀ b,z.2 (L b):=λz hz=>
 .inl (List.all_eq_true.1 h z.1 (List.mem_map.2 ⟨z,hz,rfl⟩))
theorem ab {l:List As} {A:As} (j:Nat) (h:l[j]? = some A):A∈l:=List.mem_of_getElem? h
end
section
variable {P:Program} {ops:Array Oper} {n:Nat} {dr:Bool} {R0:Fz} {K:KU} {E:Env} {l:List As} {pend:List (Nat×(List As->Prop))} {rest:List (Nat×Bool)} {i d:Nat}
variable {T:TypeId} {ps:String} {af:Array Edge} {g:Option (Nat×Bool)} {x y:Operand} {α:Type}
theorem wh (need cap:Nat) (h:cap<need):Builtin.nextslicecap need cap<=2*need:=by
 have key:∀ r c,256<=c->c<=2*need->Builtin.growBy need r c<=2*need:=by
  intro r
  induction r with
  | zero=>intro c _ hc;simpa [Builtin.growBy] using hc
  | succ r ih=>
   intro c h1 h2
   simp only [Builtin.growBy]
   split
   ·exact h2
   ·exact ih _ om om
 unfold Builtin.nextslicecap
 split
 ·omega
 ·split
  ·omega
  ·exact key 4 cap om om
end
end Go.Sp
namespace Go.Sp
open Go
def fall {α β:Type} (f:α->Option β):α ⊕ β->Option β
 | .inl a=>f a
 | .inr b=>some b
section
variable {P:Program} {n:Nat} {R0:Fz} {Q:Exit->Act->World->Prop} {E:Env} {l:List As} {α α' β:Type} {κ:β->Prop}
theorem WP.kW {x y:Code} {m:Option α} {f:α->Option β} (H:aW (m.bind f) κ) {γ:Type} (π:γ->α) (Eb:γ->Env) (lb:γ->List As) (h2:∀ b,aW (f (π b)) κ->WP P n R0 y Q (Eb b) (lb b))
  (h1:aW m (λo=>aW (f o) κ)->WP P n R0 x (Exit.then (Jn n R0 (λb=>aW (f (π b)) κ) Eb lb) Q) E l):WP P n R0 (.seq x y) Q E l:=WP.xX _ Eb lb h2 (h1 H.bind)
theorem WP.Gr {x y:Code} {m:Option (α ⊕ β)} {f:α->Option β} (H:aW (m.bind (fall f)) κ) {γ:Type} (π:γ->α) (Eb:γ->Env) (lb:γ->List As) (h2:∀ b,aW (f (π b)) κ->WP P n R0 y Q (Eb b) (lb b))
  (h1:aW m (λo=>aW (fall f o) κ)->WP P n R0 x (Exit.then (Jn n R0 (λb=>aW (f (π b)) κ) Eb lb) Q) E l):WP P n R0 (.seq x y) Q E l:=WP.xX _ Eb lb h2 (h1 H.bind)
theorem WP.HE {c:Code} {γ:Type} (L:Nat->γ->Option β) {k:Nat} (b:γ) (H:aW (L k b) κ) (Eb:γ->Env) (lb:γ->List As) (hE:∀ t p,find (Eb b) t=some p->find E t=some p) (hl:l.Perm (lb b))
  (round:∀ k b,aW (L k b) κ->WP P n R0 c (Exit.then (qt n R0 (λk b=>aW (L k b) κ) Eb lb k) Q) (Eb b) (lb b)):WP P n R0 (.loop c) Q E l:=
 WP.perm hl (WP.fG hE (WP.loop (λk b=>aW (L k b) κ) Eb lb round H))
end
def aP (k:IntKind):Kd Int:=⟨1,0,λx=>[eq (.int k x)],λ_=>rfl,λ_ p h R v hv=>by simp at h;subst h;cases hv;rfl⟩
def dS:Kd Bool:=⟨1,false,λx=>[eq (.bool x)],λ_=>rfl,λ_ p h R v hv=>by simp at h;subst h;cases hv;rfl⟩
def az:Kd BA:=⟨1,ByteArray.empty,λx=>[eq (.string x)],λ_=>rfl,λ_ p h R v hv=>by simp at h;subst h;cases hv;rfl⟩
def kF {α:Type} (K:Kd α):Kd (List α):=⟨1,[],λx=>[sl K x],λ_=>rfl,λ_ p h R v hv=>by simp at h;subst h;exact dR R v hv⟩
section
variable {P:Program} {ops:Array Oper} {n:Nat} {dr:Bool} {R0:Fz} {K:KU} {E:Env} {l:List As} {pend:List (Nat×(List As->Prop))} {rest:List (Nat×Bool)} {i d:Nat}
variable {T:TypeId} {ps:String} {af:Array Edge} {g:Option (Nat×Bool)} {x y:Operand} {α:Type}
end
end Go.Sp
namespace Go.Sp
open Go
section
variable {P:Program} {n:Nat} {R0:Fz} {E:Env} {l:List As}
theorem Dn.drop {G:Act->World->Prop} {A:As} (h:∀ R a w,R0.le R->od n R a E->St R l w->G a w):∀ R a w,R0.le R->od n R a E->St R (A::l) w->G a w:=λR a w h0 ha hs=>h R a w h0 ha hs.drop
def runRes (a:Act):ResultVar->Sem Value
 | .tmp t=>pure (a.tmps.getD t undef)
 | .cell t T=>do loadVar T (<- asAddr (a.tmps.getD t undef))
def zP (P:Program) (n:Nat) (E:Env) (l:List As) (r:ResultVar) (p:VP):Prop:=∀ R a w,od n R a E->St R l w->∃ v,(runRes a r).run P w = .ok v w/\p.p R v
theorem aQ {t:Nat} {p:VP} (h:find E t=some p):zP P n E l (.tmp t) p:=λR a w ha _=>⟨_,rfl,ha.2.2 t p h⟩
theorem aL {t T b:Nat} {d:TypeDesc} {sz:Nat} {bT:TypeId} {ps:Cs} (h:find E t=some (eq (.pointer (some ⟨b,0,none⟩)))) (hu:P.underlying T=some d) (hd:qe d=true) (hz:P.cellsOf T=sz) (hA:ar b bT ps∈l) (hl:ps.length=sz):zP P n E l (.cell t T) (agg ps):=λR a w ha hs=>by
 have e:Act.get a t=_:=ha.2.2 t _ h
 obtain⟨cs,hh,hc⟩:=pz hA hs
 have hlen:=bV.length hc
 have:=pR (P:=P) (off:=0) hh hu hd hz (by simp;omega)
 unfold Act.get at e
 refine⟨.agg cs.toArray,?_,cs,rfl,hc⟩
 simp only [runRes,Sem.run_bind,e,asAddr,Sem.run_pure,Result.andThen_ok,this]
 simp only [List.drop_zero]
 rw [List.take_of_length_le om]
def packV:List Value->Value
 | [v]=>v
 | vs=>.tuple vs.toArray
theorem tC {fn:Func} {rs:List ResultVar} {a:Act} {w:World} (hf:fn.results=rs.toArray):∀ {vs:List Value},bV (λr v=>(runRes a r).run P w = .ok v w) rs vs->(results fn a.tmps).run P w = .ok (packV vs) w:=by
 have key:∀ {rs:List ResultVar} {vs:List Value},bV (λr v=>(runRes a r).run P w = .ok v w) rs vs->(rs.mapM (runRes a)).run P w = .ok vs w:=by
  intro rs vs h
  induction h with
  | nil=>simp
  | cons h1 _ ih=>rw [List.mapM_cons];simp only [Sem.run_bind,h1,Result.andThen_ok,ih,Sem.run_pure]
 intro vs h
 have e:results fn a.tmps=(do let vs <- fn.results.mapM (runRes a);pure (if h:vs.size=1 then vs[0] else .tuple vs)):=by
  unfold results
  congr 1 <;> (try (congr 1 <;> (try (funext r;cases r <;> rfl))))
 rw [e,hf,List.mapM_toArray]
 simp only [Sem.run_bind,Sem.run_map,key h,Result.andThen_ok,Sem.run_pure]
 match vs with
 | []=>rfl
 | [v]=>rfl
 | _::_::_=>simp [packV]
def pv:List VP->VP
 | [p]=>p
 | ps=>lg ps
variable {fn:Func} {γ:Type} {ok:γ->Prop} {ret:γ->VP} {post:γ->List As} {F:List As}
theorem BI {rs:List ResultVar} {ps:List VP} {R:Fz} {a:Act} {w:World} (h:bV (zP P n E l) rs ps) (ha:od n R a E) (hs:St R l w):∃ vs,bV (λr v=>(runRes a r).run P w = .ok v w) rs vs/\Cs.h R ps vs:=by
 induction h with
 | nil=>exact⟨[],.nil,.nil⟩
 | cons h1 _ ih=>
  obtain⟨vs,k1,k2⟩:=ih
  obtain⟨v,k3,k4⟩:=h1 R a w ha hs
  exact⟨v::vs,.cons k3 k1,.cons k4 k2⟩
theorem Bh {ps:List VP} {vs:List Value} {R:Fz} (h:Cs.h R ps vs):(pv ps).p R (packV vs):=by
 match ps,vs,h with
 | [],_,.nil=>exact⟨[],rfl,.nil⟩
 | [p],_,.cons h1 .nil=>exact h1
 | p::q::ps,_,.cons h1 (.cons h2 h3)=>exact⟨_,rfl,.cons h1 (.cons h2 h3)⟩
theorem WP.u7 {Q:Exit->Act->World->Prop} {rs:List ResultVar} {ps:List VP} (hQ:∀ a w,bodyPost P fn (qH R0 ok ret post F) .ret a w->Q .ret a w) (hf:fn.results=rs.toArray) (b:γ) (hb:ok b) (h:bV (zP P n E l) rs ps) (hp:ret b=pv ps) (hl:∀ R w,St R l w->St R (post b++F) w):WP P n R0 .ret Q E l:=λR a w h0 ha hs=>by
 obtain⟨vs,k1,k2⟩:=BI h ha hs
 exact wp_ret (hQ a w ⟨ha.2.1,_,tC hf k1,b,R,_,hb,h0,rfl,by rw [hp];exact Bh k2,hl R w hs⟩)
theorem Gg {rs:List ResultVar} {ps:List VP} (hf:fn.results=rs.toArray) (b:γ) (hb:ok b) (h:bV (zP P n E l) rs ps) (hp:ret b=pv ps) (hl:∀ R w,St R l w->St R (post b++F) w):∀ R a w,R0.le R->od n R a E->St R l w->bodyPost P fn (qH R0 ok ret post F) .normal a w:=λR a w h0 ha hs=>by
 obtain⟨vs,k1,k2⟩:=BI h ha hs
 exact⟨ha.2.1,_,tC hf k1,b,R,_,hb,h0,rfl,by rw [hp];exact Bh k2,hl R w hs⟩
end
end Go.Sp
namespace Go.Sp
open Go
def lA (xs:List Int):BA:=⟨(xs.map λn=>UInt8.ofNat n.toNat).toArray⟩
theorem toString_list {P:Program} {w:World}:∀ (xs:List Int) (cs:List Value) (s:BA) (R:Fz),Cs.h R (xs.flatMap (aP .u8).enc) cs->
  (forIn (m:=Sem) cs.toArray s λc s=>(do
   let .int .u8 n := c | stuck "bytesToString: byte expected"
   pure (ForInStep.yield (s.push (UInt8.ofNat n.toNat))):Sem (ForInStep BA))).run P w = .ok ⟨(s.data.toList++xs.map λn=>UInt8.ofNat n.toNat).toArray⟩ w:=by
 intro xs cs s R h
 rw [List.forIn_toArray]
 induction xs generalizing cs s with
 | nil=>
  cases h
  simp
 | cons x xs ih=>
  cases h with
  | cons h1 h2=>
   have e:=h1
   simp only [ez] at e
   subst e
   simp only [List.forIn_cons,Sem.run_bind,Sem.run_pure,Result.andThen_ok]
   rw [ih _ _ h2]
   simp [ByteArray.push]
section
variable {P:Program} {ops:Array Oper} {n:Nat} {dr:Bool} {R0:Fz} {K:KU} {E:Env} {l:List As} {pend:List (Nat×(List As->Prop))} {rest:List (Nat×Bool)} {i d:Nat}
variable {T:TypeId} {ps:String} {af:Array Edge} {g:Option (Nat×Bool)} {x y:Operand} {α:Type}
theorem Dv.cvbs {s t e:TypeId} {xs:List Int} (ho:opAt ops.toList i=some ⟨some d,.convert s t x,T,ps,af,g⟩) (hg:fZ ops E g) (hx:opv E x=some (sl (aP .u8) xs)) (hu:P.underlying s=some (.slice e)) (hv:P.underlying e=some (.int .u8)) (hw:P.underlying t=some .string)
  (k:Dv P ops n dr R0 K ((d,eq (.string (lA xs)))::E) l ((i,tt)::pend) rest):Dv P ops n dr R0 K E l pend ((i,false)::rest):=
 Dv.mg _ _ ho (eV.val hg λR a w l h _ hst=>⟨R,_,w,Fz.le_refl R,rfl,hst,by
  rcases h x (by simp [Op.operands]) _ hx with⟨a1,c1,e1,e2⟩|⟨b,off,c,bT,fr,cs,e1,hl,hm,hs,hh⟩
  ·subst e2
   cases a1 with
   | none=>
    simp only [execOp,convert,underlying,Sem.run_bind,run_program,hu,hv,hw,e1,Sem.run_pure,Result.andThen_ok,Conv.bytesToString]
    rfl
   | some a1=>
    simp only [execOp,convert,underlying,Sem.run_bind,run_program,hu,hv,hw,e1,Sem.run_pure,Result.andThen_ok,Conv.bytesToString,loadCells,loadCellsFrom]
    rfl
  ·have hb:=hst.base.uN b _ hm
   have h1:off+xs.length<=cs.size:=by
    have:(aP IntKind.u8).sz=1:=rfl
    rw [this] at hs;omega
   have hld:=run_loadCells (P:=P) hb h1
   have h2:Cs.h R (xs.flatMap (aP .u8).enc) ((cs.toList.drop off).take xs.length):=by
    have:(aP IntKind.u8).sz=1:=rfl
    rwa [this,Nat.mul_one] at hh
   have ht:=toString_list (P:=P) (w:=w) xs _ ByteArray.empty R h2
   simp only [execOp,convert,underlying,Sem.run_bind,run_program,hu,hv,hw,e1,Sem.run_pure,Result.andThen_ok,Conv.bytesToString,hld]
   erw [ht]
   rfl⟩) trivial k
end
end Go.Sp
namespace Go.Sp
open Go
theorem Af {R:Fz} {F:List As} {w:World} {v:Value} {xs:List BA} (h:(sl az xs).p R v) (hs:St R F w):(∃ a c,v = .slice a 0 c/\xs=[])\/∃ b off c,v = .slice (some ⟨b,off,none⟩) xs.length c/\xs.length<=c/\b<w.heap.size/\
  ∀ (j:Nat) x,xs[j]? = some x->w.cell? ⟨b,off+j,none⟩=some (.string x):=by
 rcases h with h | ⟨b,off,c,T,fr,cs,e,hl,hm,hc,hh⟩
 ·exact .inl h
 ·have hb:=hs.base.uN b _ hm
  refine .inr ⟨b,off,c,e,hl,jT hb,λj x hj=>?_⟩
  have hjl:j<xs.length:=(List.getElem?_eq_some_iff.1 hj).1
  have hx:xs.getD j az.qx=x:=by rw [gD,hj];rfl
  have:=Cs.elem (K:=az) hjl hh
  rw [hx] at this
  obtain⟨u,hu,hp⟩:=ov this (j:=0) rfl
  have e1:(az.sz)=1:=rfl
  rw [e1,Nat.mul_one] at hu
  have h2:=Iw (m:=1) hu
  simp only [ez] at hp
  subst hp
  rw [ny hb]
  simpa using h2
end Go.Sp
namespace Go.Sp
open Go
section
variable {P:Program} {d:Nat} {xs ys:Array Value} {f:Field} {fs:List Field} {a b:Value} {r s:Bool} {w:World}
theorem ec (hn : f.name ≠ "_") (ha : (part f.type xs f.offset).run P w = .ok a w) (hb : (part f.type ys f.offset).run P w = .ok b w) (he : (Op.equalIn d f.type a b).run P w = .ok r w) (hr : (Op.eqFields d xs ys fs).run P w = .ok s w) : (Op.eqFields d xs ys (f :: fs)).run P w = .ok (r && s) w := by
 rw [Op.eqFields]
 simp only [if_pos hn,Sem.run_bind,ha,hb,he,Result.andThen_ok]
 cases r
 ·simp
 ·simpa using hr
theorem sE:(Op.eqFields d xs ys []).run P w = .ok true w:=by simp [Op.eqFields]
theorem aR {t:TypeId} {td:TypeDesc} {cs:Array Value} {off:Nat} {v:Value} (hu:P.underlying t=some td) (hd:qe td=false) (hv:cs.toList[off]? = some v):(part t cs off).run P w = .ok v w:=by
 have hv':cs[off]? = some v:=by simpa using hv
 unfold part
 simp [rh hu,hd,hv']
theorem run_parts {t:TypeId} {td:TypeDesc} {cs:Array Value} {off sz:Nat} (hu:P.underlying t=some td) (hd:qe td=true) (hz:P.cellsOf t=sz):(part t cs off).run P w = .ok (.agg ((cs.toList.drop off).take sz).toArray) w:=by
 unfold part
 simp only [Sem.run_bind,rh hu,hd,Result.andThen_ok,if_true,run_sizeOf hu hz,Sem.run_pure]
 congr 2
 apply Array.ext'
 simp [Array.toList_extract]
theorem eq_int {t:TypeId} {k k':IntKind} {x y:Int} (h:P.underlying t=some (.int k')):(Op.equalIn (d+1) t (.int k x) (.int k y)).run P w = .ok (decide (x=y)) w:=by
 exact run_equalIn_int w d t k k' x y h
theorem rO {t:TypeId} {x y:Bool} (h:P.underlying t=some .bool):(Op.equalIn (d+1) t (.bool x) (.bool y)).run P w = .ok (decide (x=y)) w:=by
 rw [run_equalIn_bool w d t x y h];cases x <;> cases y <;> rfl
theorem mP {t:TypeId} {x y:BA} (h:P.underlying t=some .string):(Op.equalIn (d+1) t (.string x) (.string y)).run P w = .ok (decide (x=y)) w:=by
 rw [run_equalIn_string w d t x y h,qj]
theorem o8 {t:TypeId} {fs:Array Field} {xs ys:List Value} (hu:P.underlying t=some (.struct fs)) (hp:P.stoodInHeld t=false) (h:(Op.eqFields d xs.toArray ys.toArray fs.toList).run P w = .ok r w):(Op.equalIn (d+1) t (.agg xs.toArray) (.agg ys.toArray)).run P w = .ok r w:=by
 have hf:P.fieldsOf t=fs:=by simp [Program.fieldsOf,hu]
 rw [run_equalIn_struct (P:=P) w d t xs.toArray ys.toArray (by rw [hf];exact hu) hp,hf]
 exact h
theorem dJ {t:TypeId} (k:Nat) (hk:k<=10000) (h:∀ d,(Op.equalIn (d+k) t a b).run P w = .ok r w):(Op.equal t a b).run P w = .ok r w:=by
 unfold Op.equal
 have:=h (Op.maxDepth-k)
 rwa [Nat.sub_add_cancel (by unfold Op.maxDepth;omega)] at this
end
theorem uv {R:Fz} {us:List Value} {v:Value} (h:(agg (us.map eq)).p R v):v = .agg us.toArray:=by
 obtain⟨cs,e,hc⟩:=h
 have:cs=us:=by
  clear e
  induction us generalizing cs with
  | nil=>cases hc;rfl
  | cons u us ih=>cases hc with | cons h1 h2=>rw [ih _ h2];congr 1
 rw [e,this]
section
variable {P:Program} {ops:Array Oper} {n:Nat} {dr:Bool} {R0:Fz} {K:KU} {E:Env} {l:List As} {pend:List (Nat×(List As->Prop))} {rest:List (Nat×Bool)} {i d:Nat}
variable {T:TypeId} {ps:String} {af:Array Edge} {g:Option (Nat×Bool)} {x y:Operand}
theorem Dv.eqs {t yT:TypeId} {q1 q2:Cs} {b:Bool} (u1 u2:List Value) (ho:opAt ops.toList i=some ⟨some d,.binOp .eql t x y yT,T,ps,af,g⟩) (hg:fZ ops E g) (hx:opv E x=some (agg q1)) (hy:opv E y=some (agg q2)) (e1:q1=u1.map eq) (e2:q2=u2.map eq)
  (hm:P.eqGuardType P.depth t=false) (hr:∀ w,(Op.equal t (.agg u1.toArray) (.agg u2.toArray)).run P w = .ok b w) (k:Dv P ops n dr R0 K ((d,eq (.bool b))::E) l ((i,tt)::pend) rest):Dv P ops n dr R0 K E l pend ((i,false)::rest):=
 Dv.mg _ _ ho (eV.pure hg λR a w h=>⟨_,rfl,by
  have h1:=h x (by simp [Op.operands]) _ hx
  have h2:=h y (by simp [Op.operands]) _ hy
  rw [e1] at h1;rw [e2] at h2
  simp only [execOp,uv h1,uv h2,Sem.run_bind,run_eqGuard_agg w .eql t x y _ _ hm,Result.andThen_ok,binOp,hr w,Sem.run_pure]⟩) trivial k
theorem Dv.zR {t yT:TypeId} {q1 q2:Cs} {b:Bool} (u1 u2:List Value) (ho:opAt ops.toList i=some ⟨some d,.binOp .neq t x y yT,T,ps,af,g⟩) (hg:fZ ops E g) (hx:opv E x=some (agg q1)) (hy:opv E y=some (agg q2)) (e1:q1=u1.map eq) (e2:q2=u2.map eq)
  (hm:P.eqGuardType P.depth t=false) (hr:∀ w,(Op.equal t (.agg u1.toArray) (.agg u2.toArray)).run P w = .ok b w) (k:Dv P ops n dr R0 K ((d,eq (.bool !b))::E) l ((i,tt)::pend) rest):Dv P ops n dr R0 K E l pend ((i,false)::rest):=
 Dv.mg _ _ ho (eV.pure hg λR a w h=>⟨_,rfl,by
  have h1:=h x (by simp [Op.operands]) _ hx
  have h2:=h y (by simp [Op.operands]) _ hy
  rw [e1] at h1;rw [e2] at h2
  simp only [execOp,uv h1,uv h2,Sem.run_bind,run_eqGuard_agg w .neq t x y _ _ hm,Result.andThen_ok,binOp,hr w,Sem.run_pure]⟩) trivial k
end
end Go.Sp
namespace Go.Sp
open Go
section
variable {P:Program} {ops:Array Oper} {n:Nat} {dr:Bool} {R0:Fz} {K:KU} {E:Env} {l:List As} {pend:List (Nat×(List As->Prop))} {rest:List (Nat×Bool)} {i d:Nat}
variable {T:TypeId} {ps:String} {af:Array Edge} {g:Option (Nat×Bool)} {x y:Operand}
theorem Dv.fld {t j:Nat} {fs:Array Field} {f:Field} {fd:TypeDesc} {qs:Cs} {p:VP} (ho:opAt ops.toList i=some ⟨some d,.field t x j,T,ps,af,g⟩) (hg:fZ ops E g) (hx:opv E x=some (agg qs)) (hu:P.underlying t=some (.struct fs)) (hf:fs[j]? = some f) (hv:P.underlying f.type=some fd) (hd:qe fd=false) (hp:qs[f.offset]? = some p)
  (k:Dv P ops n dr R0 K ((d,p)::E) l ((i,tt)::pend) rest):Dv P ops n dr R0 K E l pend ((i,false)::rest):=
 Dv.mg _ _ ho (eV.pure hg λR a w h=>by
  obtain⟨cs,e,hc⟩:=h x (by simp [Op.operands]) _ hx
  obtain⟨v,hv2,hpv⟩:=hc.get hp
  exact⟨v,hpv,by simp [execOp,e,Instr.field,underlying,hu,hf,asAgg,aR hv hd (cs:=cs.toArray) (by simpa using hv2)]⟩) trivial k
end
end Go.Sp
