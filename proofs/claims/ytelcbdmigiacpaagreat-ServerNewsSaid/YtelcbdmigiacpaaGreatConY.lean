import Derived.Test.YtelcbdmigiacpaaGreatConW
import Derived.Scope
set_option linter.all false
namespace Go.Sp
open Go
section
variable {P:Program} {n:Nat} {R0:Fz} {Q:Exit→Act→World→Prop} {E:Env} {l:List As}
theorem WP.scope {c:Code} (h:WP P n R0 c (Exit.noGoto Q) E l):WP P n R0 (.scope c) Q E l:=fun R a w h0 ha hs=>wp_scope_straight (h R a w h0 ha hs)
theorem WP.label {id:Nat} (h:∀ R a w,R0.le R→Agr n R a E→St R l w→Q .normal a w):WP P n R0 (.label id) Q E l:=fun R a w h0 ha hs=>wp_label (h R a w h0 ha hs)
end
section
variable {P:Program} {ops:Array Oper} {n:Nat} {dr:Bool} {R0:Fz} {K:KU} {E:Env} {l:List As} {pend:List (Nat×(List As→Prop))} {rest:List (Nat×Bool)} {i d:Nat}
variable {T:TypeId} {ps:String} {af:Array Edge} {g:Option (Nat×Bool)} {x y:Operand} {α:Type} {Kd:Kd α}
end
def pk (l:List As):As:=exA (γ:=Unit) (fun _=>True) (fun _=>l)
theorem st_pk {l L r:List As} (hp:l.Perm (L++r)):∀ R w,St R l w→∃ _:Unit,True∧St R (pk L::r) w:=st_shut (fun _=>True) (fun _:Unit=>L) () trivial hp
theorem st_unpk {l L:List As} (j:Nat) (hj:l[j]? = some (pk L)):∀ R w,St R l w→∃ _:Unit,True∧St R (L++l.eraseIdx j) w:=st_open j hj
def fnx (P:Program) (X:As) (Q:List VP→VP→Prop):VP:=
 ⟨fun R v=>∃ f,∃ fst cap:Array Value,v = .func (.func f) fst cap∧callable P f = true∧∀ vs ret,Q vs ret→∀ R',R.le R'→∀ (F:List As) (w:World) (us:List Value),Cs.h R' vs us→St R' (X::F) w→
   Calls P f ((fst.toList++us++cap.toList).toArray) w fun e w'=>∃ R'' v,R'.le R''∧e = .returned v∧ret.p R'' v∧St R'' (X::F) w',
 fun hR ⟨f,fst,cap,e,hc,h⟩=>⟨f,fst,cap,e,hc,fun vs ret hq R' hR'=>h vs ret hq R' (Fz.le_trans hR hR')⟩⟩
section
variable {P:Program} {ops:Array Oper} {n:Nat} {dr:Bool} {R0:Fz} {K:KU} {E:Env} {l:List As} {pend:List (Nat×(List As→Prop))} {rest:List (Nat×Bool)} {i d:Nat}
variable {T:TypeId} {ps:String} {af:Array Edge} {g:Option (Nat×Bool)} {x y:Operand}
theorem Dv.mkx {f:FuncId} {fs cs:Array Operand} {vf vc:List VP} {Q:List VP→VP→Prop} {L:List As} (hc:callable P f = true) (h:∀ vs ret,Q vs ret→Tr P f (vf++vs++vc) L (γ:=Unit) (fun _=>True) (fun _=>ret) (fun _=>L)) (ho:opAt ops.toList i = some ⟨some d,.makeFunc (.func f) fs cs,T,ps,af,g⟩) (hg:GOn ops E g)
  (hf:opvs E fs.toList = some vf) (hcp:opvs E cs.toList = some vc)
  (k:Dv P ops n dr R0 K ((d,fnx P (pk L) Q)::E) l ((i,tt)::pend) rest):Dv P ops n dr R0 K E l pend ((i,false)::rest):=
 Dv.okd _ _ ho (OpOk.pure hg fun R a w hh=>by
  have h1:=opvs_ok (a:=a) (R:=R) (fun x hx p hp=>hh x (by simp [Op.operands]; exact .inl (by simpa using hx)) p hp) hf
  have h2:=opvs_ok (a:=a) (R:=R) (fun x hx p hp=>hh x (by simp [Op.operands]; exact .inr (by simpa using hx)) p hp) hcp
  refine ⟨.func (.func f) (fs.map a.eval) (cs.map a.eval),⟨f,_,_,rfl,hc,fun vs ret hq R' hR F w us hu hs=>?_⟩,by simp [execOp,Instr.makeFunc]⟩
  obtain ⟨_,_,hs1⟩:=st_unpk 0 rfl R' w hs
  have:=h vs ret hq R' F w (fs.toList.map a.eval++us++cs.toList.map a.eval) (((Cs.mono hR h1).append hu).append (Cs.mono hR h2)) hs1
  have h3:((fs.toList.map a.eval++us++cs.toList.map a.eval)).toArray = (((fs.map a.eval).toList++us++(cs.map a.eval).toList)).toArray:=by simp
  rw [← h3]
  refine this.mono ?_
  rintro e w' ⟨_,R',v,_,hR,he,hv,hst'⟩
  obtain ⟨_,_,hs2⟩:=st_pk (List.Perm.refl _) R' w' hst'
  exact ⟨R',v,hR,he,hv,hs2⟩) trivial k
theorem Dv.callfx {as:Array Operand} {ts:Array TypeId} {vs:List VP} {ret:VP} {X:As} {F:List As} {Q:List VP→VP→Prop} (ho:opAt ops.toList i = some ⟨some d,.call ⟨.value x,as,ts⟩,T,ps,af,g⟩) (hg:GOn ops E g)
  (hx:opv E x = some (fnx P X Q)) (hv:opvs E as.toList = some vs) (hq:Q vs ret) (hl:l.Perm ([X]++F))
  (k:Dv P ops n dr R0 K ((d,ret)::E) l ((i,fun l=>∃ F,l.Perm ([X]++F))::pend) rest):Dv P ops n dr R0 K E l pend ((i,false)::rest):=
 Dv.okd (fun l=>∃ F,l.Perm ([X]++F)) ret ho (fun R a w l _ _ hs ⟨F,hl⟩ hst K Q' hk=>by
  obtain ⟨f,fst,cap,e,hc,h⟩:=hs.op (x:=x) (by simp [Op.operands,Call.operands]) hx
  refine runs_call (R:=R) (f:=f) (cap:=cap) (fst:=fst) rfl (wanted_on hs hg) hc rfl e ?_
  have:=opvs_ok (fun x hx p hp=>hs.op (by simp [Op.operands,Call.operands]; exact .inr (by simpa using hx)) hp) hv
  refine (h vs ret hq R (Fz.le_refl R) F w _ (by simpa using this) (hst.permL hl)).mono ?_
  rintro e w' ⟨R',v,hR,he,hv,hst'⟩
  exact ⟨v,he,hk R' v w' hR hv (St.permL hl.symm hst')⟩) ⟨F,hl⟩ k
end
section
variable {κ α:Type} [DecidableEq κ] {kv:κ→Value} {O:OV→α→As} {v:Value} {m:List (κ×α)} {ps:List OV} {k:κ} {a:α} {p:OV} {l r:List As} {Z:List (κ×OV)}
def mplB (O:OV→α→As) (m:List (κ×α)) (ps:List OV) (k:κ):As:=bif (mget m k).isSome then thgB O m ps k else thg O m ps
def mpl (kv:κ→Value) (O:OV→α→As) (v:Value) (m:List (κ×α)) (k:κ) (p:OV):As:=
 exA (fun ps=>okP m ps∧((mget m k).isSome = true→p = (mget (zipK m ps) k).getD nilP)) (fun ps=>[mp kv (fun p:OV=>eq p.1) v (zipK m ps),mplB O m ps k])
theorem mpl_some [Inhabited α] (ho:okP m ps) (hZ:Z = zipK m ps) (hk:(mget m k).isSome = true) (hp:l.Perm ([mp kv (fun p:OV=>eq p.1) v Z,thg O m ps]++r)):∀ R w,St R l w→∃ _:Unit,True∧St R (mpl kv O v m k ((mget Z k).getD nilP)::O ((mget Z k).getD nilP) ((mget m k).getD default)::r) w:=fun R w h=>by
 subst hZ
 obtain ⟨_,_,h1⟩:=mpo_foc (r:=mp kv (fun p:OV=>eq p.1) v (zipK m ps)::r) ho rfl hk (hp.trans (List.Perm.swap _ _ _)) R w h
 have e:mplB O m ps k = thgB O m ps k:=by simp [mplB,hk]
 exact st_shut (fun ps'=>okP m ps'∧((mget m k).isSome = true→(mget (zipK m ps) k).getD nilP = (mget (zipK m ps') k).getD nilP)) (fun ps'=>[mp kv (fun p:OV=>eq p.1) v (zipK m ps'),mplB O m ps' k]) ps ⟨ho,fun _=>rfl⟩ (r:=O ((mget (zipK m ps) k).getD nilP) ((mget m k).getD default)::r) (by
  rw [e]
  refine (List.Perm.trans (List.Perm.cons _ (List.Perm.swap _ _ _)) (List.Perm.swap _ _ _)).trans (List.Perm.cons _ (List.Perm.swap _ _ _))) R w h1
theorem mpl_none (p:OV) (ho:okP m ps) (hZ:Z = zipK m ps) (hk:(mget m k).isSome = false) (hp:l.Perm ([mp kv (fun p:OV=>eq p.1) v Z,thg O m ps]++r)):∀ R w,St R l w→∃ _:Unit,True∧St R (mpl kv O v m k p::r) w:=by
 subst hZ
 have e:mplB O m ps k = thg O m ps:=by simp [mplB,hk]
 exact st_shut (fun ps'=>okP m ps'∧((mget m k).isSome = true→p = (mget (zipK m ps') k).getD nilP)) (fun ps'=>[mp kv (fun p:OV=>eq p.1) v (zipK m ps'),mplB O m ps' k]) ps ⟨ho,fun h=>by rw [hk] at h; cases h⟩ (by rw [e]; exact hp)
theorem mpl_opn (j:Nat) (hj:l[j]? = some (mpl kv O v m k p)):∀ R w,St R l w→∃ ps,(okP m ps∧((mget m k).isSome = true→p = (mget (zipK m ps) k).getD nilP))∧St R ([mp kv (fun p:OV=>eq p.1) v (zipK m ps),mplB O m ps k]++l.eraseIdx j) w:=st_open j hj
def mres (m:List (κ×α)) (k:κ) (a:α):List (κ×α):=bif (mget m k).isSome then mput m k a else m
theorem mpl_back (hp:l.Perm (mpl kv O v m k p::O p a::r)):∀ R w,St R l w→∃ _:Unit,True∧St R (mpo kv O v (mres m k a)::r) w:=fun R w h=>by
 obtain ⟨ps,⟨ho,hq⟩,h1⟩:=mpl_opn 0 rfl R w (h.permL hp)
 cases hk:(mget m k).isSome with
 | true=>
  have e:mplB O m ps k = thgB O m ps k:=by simp [mplB,hk]
  rw [e] at h1
  obtain ⟨_,ho2,h2⟩:=mpo_unf (k:=k) (a:=a) (r:=mp kv (fun p:OV=>eq p.1) v (zipK m ps)::r) ho rfl hk (by
   rw [← hq hk]
   exact ((List.Perm.cons _ (List.Perm.swap _ _ _)).trans (List.Perm.swap _ _ _)).trans (List.Perm.cons _ (List.Perm.swap _ _ _))) R w h1
  have e2:mres m k a = mput m k a:=by simp [mres,hk]
  rw [e2]
  exact mpo_shut ho2 (zipK_put' rfl hk) (List.Perm.swap _ _ _) R w h2
 | false=>
  have e:mplB O m ps k = thg O m ps:=by simp [mplB,hk]
  rw [e] at h1
  have e2:mres m k a = m:=by simp [mres,hk]
  rw [e2]
  exact mpo_shut (r:=r) ho rfl (List.Perm.refl _) R w ((h1.permL (l':=O p a::([mp kv (fun p:OV=>eq p.1) v (zipK m ps),thg O m ps]++r)) (List.perm_middle (l₁:=[mp kv (fun p:OV=>eq p.1) v (zipK m ps),thg O m ps]))).drop)
theorem mres_same (hr:∀ x,mget m k = some x→x = a):mres m k a = m:=by
 unfold mres
 cases h:mget m k with
 | none=>rfl
 | some x=>have:=hr x h; subst this; exact mput_same h
theorem mpl_back0 (hr:∀ x,mget m k = some x→x = a) (hp:l.Perm (mpl kv O v m k p::O p a::r)):∀ R w,St R l w→∃ _:Unit,True∧St R (mpo kv O v m::r) w:=by
 have:=mpl_back (kv:=kv) (v:=v) hp
 rwa [mres_same hr] at this
theorem mpl_add (hn:NN (O p a) p.1) (ho:okP m ps∧((mget m k).isSome = true→p = (mget (zipK m ps) k).getD nilP)) (hp:l.Perm (mp kv (fun p:OV=>eq p.1) v (mput (zipK m ps) k p)::mplB O m ps k::O p a::r)):∀ R w,St R l w→∃ _:Unit,True∧St R (mpo kv O v (mput m k a)::r) w:=fun R w h=>by
 replace h:=h.permL hp
 cases hk:(mget m k).isSome with
 | true=>
  have e:mplB O m ps k = thgB O m ps k:=by simp [mplB,hk]
  rw [e,ho.2 hk,mpo_same ho.1 rfl hk] at h
  obtain ⟨_,ho2,h2⟩:=mpo_unf (k:=k) (a:=a) (r:=mp kv (fun p:OV=>eq p.1) v (zipK m ps)::r) ho.1 rfl hk (((List.Perm.cons _ (List.Perm.swap _ _ _)).trans (List.Perm.swap _ _ _)).trans (List.Perm.cons _ (List.Perm.swap _ _ _))) R w h
  exact mpo_shut ho2 (zipK_put' rfl hk) (List.Perm.swap _ _ _) R w h2
 | false=>
  have e:mplB O m ps k = thg O m ps:=by simp [mplB,hk]
  rw [e] at h
  exact mpo_add hn ho.1 rfl (List.Perm.refl _) R w h
end
def optO {α:Type} (O:OV→α→As) (p:OV):Option α→As
 | none=>⟨fun _ m=>m = []∧p.1 = .pointer none,fun _ h=>h⟩
 | some a=>O p a
theorem st_nilP {α:Type} {O:OV→α→As} {l:List As}:∀ R w,St R l w→∃ _:Unit,True∧St R (optO O nilP none::l) w:=fun R w h=>by
 obtain ⟨m,hb,hw⟩:=h.to_bs
 exact ⟨(),trivial,St.of_bs (m:=[]++m) ⟨[],m,⟨rfl,rfl⟩,hb,List.Perm.refl _⟩ hw⟩
theorem opt_some {α:Type} [Inhabited α] {O:OV→α→As} {l:List As} {p:OV} {r:Option α} (j:Nat) (hj:l[j]? = some (optO O p r)) (h:r.isNone = false):∀ R w,St R l w→∃ _:Unit,True∧St R ([O p (r.getD default)]++l.eraseIdx j) w:=fun R w hs=>by
 cases r with
 | none=>cases h
 | some a=>
  obtain ⟨m,hm,hk⟩:=hs.opn hj
  exact ⟨(),trivial,m,hm,Stm.perm (by simp) hk⟩
section
variable {P:Program} {ops:Array Oper} {n:Nat} {dr:Bool} {R0:Fz} {K:KU} {E:Env} {l:List As} {pend:List (Nat×(List As→Prop))} {rest:List (Nat×Bool)} {i d:Nat}
variable {T:TypeId} {ps:String} {af:Array Edge} {g:Option (Nat×Bool)} {x y:Operand} {α:Type} {O:OV→α→As} {p:OV} {r:Option α}
theorem opt_nil (hn:∀ a,NN (O p a) p.1) {R:Fz} {m:Mem} (h:(optO O p r).p R m):(r.isNone = false→∃ a,p.1 = .pointer (some a))∧(r.isNone = true→p.1 = .pointer none):=by
 cases r with
 | none=>exact ⟨fun k=>(by cases k),fun _=>h.2⟩
 | some a=>exact ⟨fun _=>hn a R m h,fun k=>(by cases k)⟩
theorem Dv.oeq0 {t td yT:TypeId} (hn:∀ a,NN (O p a) p.1) (ho:opAt ops.toList i = some ⟨some d,.binOp .eql t x y yT,T,ps,af,g⟩) (hg:GOn ops E g) (hx:opv E x = some (eq p.1)) (hy:opv E y = some (eq (.pointer none))) (hu:P.underlying t = some (.pointer td)) (hA:optO O p r∈l)
  (k:Dv P ops n dr R0 K ((d,eq (.bool r.isNone))::E) l ((i,(optO O p r∈·))::pend) rest):Dv P ops n dr R0 K E l pend ((i,false)::rest):=
 Dv.okd _ _ ho (OpOk.val hg fun R a w l h hA hst=>by
  have e:=h x (by simp [Op.operands]) _ hx
  have e1:=h y (by simp [Op.operands]) _ hy
  simp only [eq_p] at e e1
  obtain ⟨m,hm,_⟩:=St.read hA hst
  have hq:=opt_nil hn hm
  obtain ⟨q,hq2⟩:∃ m,Op.maxDepth = m + 1:=⟨9999,rfl⟩
  refine ⟨R,_,w,Fz.le_refl R,rfl,hst,?_⟩
  cases hb:r.isNone with
  | true=>have e2:=hq.2 hb; simp [execOp,e,e1,e2,eqGuard,binOp,Op.equal,hq2,Op.equalIn,underlying,hu]
  | false=>obtain ⟨ad,e2⟩:=hq.1 hb; simp [execOp,e,e1,e2,eqGuard,binOp,Op.equal,hq2,Op.equalIn,underlying,hu]) hA k
theorem Dv.one0 {t td yT:TypeId} (hn:∀ a,NN (O p a) p.1) (ho:opAt ops.toList i = some ⟨some d,.binOp .neq t x y yT,T,ps,af,g⟩) (hg:GOn ops E g) (hx:opv E x = some (eq p.1)) (hy:opv E y = some (eq (.pointer none))) (hu:P.underlying t = some (.pointer td)) (hA:optO O p r∈l)
  (k:Dv P ops n dr R0 K ((d,eq (.bool !r.isNone))::E) l ((i,(optO O p r∈·))::pend) rest):Dv P ops n dr R0 K E l pend ((i,false)::rest):=
 Dv.okd _ _ ho (OpOk.val hg fun R a w l h hA hst=>by
  have e:=h x (by simp [Op.operands]) _ hx
  have e1:=h y (by simp [Op.operands]) _ hy
  simp only [eq_p] at e e1
  obtain ⟨m,hm,_⟩:=St.read hA hst
  have hq:=opt_nil hn hm
  obtain ⟨q,hq2⟩:∃ m,Op.maxDepth = m + 1:=⟨9999,rfl⟩
  refine ⟨R,_,w,Fz.le_refl R,rfl,hst,?_⟩
  cases hb:r.isNone with
  | true=>have e2:=hq.2 hb; simp [execOp,e,e1,e2,eqGuard,binOp,Op.equal,hq2,Op.equalIn,underlying,hu]
  | false=>obtain ⟨ad,e2⟩:=hq.1 hb; simp [execOp,e,e1,e2,eqGuard,binOp,Op.equal,hq2,Op.equalIn,underlying,hu]) hA k
end
end Go.Sp
