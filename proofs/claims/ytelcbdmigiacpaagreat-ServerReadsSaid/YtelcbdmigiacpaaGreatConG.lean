import Derived.Test.YtelcbdmigiacpaaGreatConB
import Derived.WalkKit
set_option linter.all false
namespace Go.Sp
open Go
def opv (E:Env):Operand->Option VP
 | .tmp t=>find E t
 | .const v=>some (eq v)
 | .global g=>some (eq (.pointer (some ⟨g,0,none⟩)))
 | .func f=>some (eq (.func (.func f) #[] #[]))
def opAt:List Oper->Nat->Option Oper
 | [],_=>none
 | o::_,0=>some o
 | _::l,i+1=>opAt l i
theorem A6:∀ (l:List Oper) (i:Nat),opAt l i=l[i]?
 | [],_=>rfl
 | _::_,0=>rfl
 | _::l,i+1=>by simp [opAt,A6 l i]
theorem fC {ops:Array Oper} {i:Nat} {o:Oper} (h:opAt ops.toList i=some o):ops[i]? = some o:=by rw [A6] at h;simpa using h
def fZ (ops:Array Oper) (E:Env):Option (Nat×Bool)->Prop
 | none=>True
 | some (j,b)=>∃ o t,opAt ops.toList j=some o/\o.dst=some t/\find E t=some (eq (.bool b))
def GOff (ops:Array Oper) (E:Env):Option (Nat×Bool)->Prop
 | none=>False
 | some (j,b)=>∃ o t,opAt ops.toList j=some o/\o.dst=some t/\(find E t=some (eq (.bool !b))\/find E t=some (eq undef))
section
variable {P:Program} {ops:Array Oper} {n:Nat} {E:Env} {R:Fz} {a:Act} {w:World}
theorem zX.op {o:Oper} (h:zX R a E (o.looksAt ops)) {x:Operand} (hx:x∈o.op.operands) {p:VP} (hp:opv E x=some p):p.p R (a.eval x):=by
 cases x with
 | tmp t=>exact h t (List.mem_append_left _ (List.mem_filterMap.2 ⟨.tmp t,by simpa using hx,rfl⟩)) p hp
 | const v=>simp only [opv,Option.some.injEq] at hp;subst hp;rfl
 | global g=>simp only [opv,Option.some.injEq] at hp;subst hp;rfl
 | func f=>simp only [opv,Option.some.injEq] at hp;subst hp;rfl
theorem rV {t:Nat} {b:Bool} (h:Act.get a t = .bool b):a.tmps[t]? = some (.bool b):=by
 unfold Act.get at h
 rw [Array.getD_eq_getD_getElem?] at h
 cases e:a.tmps[t]? with
 | none=>rw [e] at h;simp [undef] at h
 | some v=>rw [e] at h;simpa using h
theorem j9 {o:Oper} (h:zX R a E (o.looksAt ops)) (hg:fZ ops E o.guard):Region.wanted o (yielded ops a.tmps)=true:=by
 unfold Region.wanted
 cases e:o.guard with
 | none=>rfl
 | some jb=>
  obtain⟨j,b⟩:=jb
  rw [e] at hg
  obtain⟨o',t,h1,h2,h3⟩:=hg
  have ht:t∈o.looksAt ops:=List.mem_append_right _ (by simp [e,fC h1,h2])
  have hv:=rV (a:=a) (h t ht _ h3)
  simp [yielded,fC h1,h2,hv]
theorem A0 {o:Oper} (h:zX R a E (o.looksAt ops)) (hg:GOff ops E o.guard):Region.wanted o (yielded ops a.tmps)=false:=by
 unfold Region.wanted
 cases e:o.guard with
 | none=>rw [e] at hg;exact hg.elim
 | some jb=>
  obtain⟨j,b⟩:=jb
  rw [e] at hg
  obtain⟨o',t,h1,h2,h3⟩:=hg
  have ht:t∈o.looksAt ops:=List.mem_append_right _ (by simp [e,fC h1,h2])
  rcases h3 with h3 | h3
  ·have hv:=rV (a:=a) (h t ht _ h3)
   simp [yielded,fC h1,h2,hv]
  ·have hv:=h t ht _ h3
   simp only [ez,Act.get,Array.getD_eq_getD_getElem?] at hv
   cases e5:a.tmps[t]? with
   | none=>simp [yielded,fC h1,h2,e5]
   | some v=>
    rw [e5] at hv
    simp only [Option.getD_some] at hv
    subst hv
    simp [yielded,fC h1,h2,e5,undef]
theorem eV.val {o:Oper} {q:List As->Prop} {p:VP} (hg:fZ ops E o.guard)
  (h:∀ (R:Fz) (a:Act) (w:World) (l:List As),(∀ x∈o.op.operands,∀ p,opv E x=some p->p.p R (a.eval x))->q l->St R l w->
   ∃ R' v w',R.le R'/\p.p R' v/\St R' l w'/\(execOp a.eval o).run P w = .ok (.value v) w'):eV P ops n o E q p:=by
 intro R a w l _ _ hs hq hst K Q hk
 obtain⟨R',v,w',hR,hv,hst',hr⟩:=h R a w l (λx hx p hp=>hs.op hx hp) hq hst
 unfold runs
 rw [if_pos (j9 hs hg)]
 unfold Oper.wp
 rw [hr]
 exact hk R' v w' hR hv hst'
theorem eV.pure {o:Oper} {q:List As->Prop} {p:VP} (hg:fZ ops E o.guard)
  (h:∀ (R:Fz) (a:Act) (w:World),(∀ x∈o.op.operands,∀ p,opv E x=some p->p.p R (a.eval x))->∃ v,p.p R v/\(execOp a.eval o).run P w = .ok (.value v) w):eV P ops n o E q p:=
 eV.val hg λR a w l hx _ hst=>by
  obtain⟨v,hv,hr⟩:=h R a w hx
  exact⟨R,v,w,Fz.le_refl R,hv,hst,hr⟩
theorem iV.val {o:Oper} {l:List As} {γ:Type} {ok:γ->Prop} {p:γ->VP} {l':γ->List As} (hg:fZ ops E o.guard)
  (h:∀ (R:Fz) (a:Act) (w:World),(∀ x∈o.op.operands,∀ p,opv E x=some p->p.p R (a.eval x))->St R l w->
   ∃ g R' v w',ok g/\R.le R'/\(p g).p R' v/\St R' (l' g) w'/\(execOp a.eval o).run P w = .ok (.value v) w'):iV P ops n o E l ok p l':=by
 intro R a w _ _ hs hst K Q hk
 obtain⟨g,R',v,w',hg',hR,hv,hst',hr⟩:=h R a w (λx hx p hp=>hs.op hx hp) hst
 unfold runs
 rw [if_pos (j9 hs hg)]
 unfold Oper.wp
 rw [hr]
 exact hk g R' v w' hg' hR hv hst'
theorem iV.act {o:Oper} {l:List As} {γ:Type} {ok:γ->Prop} {l':γ->List As} (hg:fZ ops E o.guard)
  (h:∀ (R:Fz) (a:Act) (w:World),(∀ x∈o.op.operands,∀ p,opv E x=some p->p.p R (a.eval x))->St R l w->
   ∃ g R' w',ok g/\R.le R'/\St R' (l' g) w'/\(execOp a.eval o).run P w = .ok .skip w'):iV P ops n o E l ok (λ_=>eq undef) l':=by
 intro R a w _ _ hs hst K Q hk
 obtain⟨g,R',w',hg',hR,hst',hr⟩:=h R a w (λx hx p hp=>hs.op hx hp) hst
 unfold runs
 rw [if_pos (j9 hs hg)]
 unfold Oper.wp
 rw [hr]
 exact hk g R' undef w' hg' hR rfl hst'
variable {dr:Bool} {R0:Fz} {K:KU} {l:List As} {pend:List (Nat×(List As->Prop))} {rest:List (Nat×Bool)} {i:Nat}
abbrev tt:List As->Prop:=λ_=>True
theorem Dv.mg {d:Nat} {op:Op} {T:TypeId} {ps:String} {af:Array Edge} {g:Option (Nat×Bool)} (q:List As->Prop) (p:VP) (ho:opAt ops.toList i=some ⟨some d,op,T,ps,af,g⟩)
  (hok:eV P ops n ⟨some d,op,T,ps,af,g⟩ E q p) (hq:q l) (k:Dv P ops n dr R0 K ((d,p)::E) l ((i,q)::pend) rest):Dv P ops n dr R0 K E l pend ((i,false)::rest):=
 .ok _ q p (fC ho) hok hq k
theorem Dv.mv {d:Nat} {x:Operand} {T:TypeId} {ps:String} {af:Array Edge} {g:Option (Nat×Bool)} {p:VP} (ho:opAt ops.toList i=some ⟨some d,.move x,T,ps,af,g⟩)
  (hg:fZ ops E g) (hx:opv E x=some p) (k:Dv P ops n dr R0 K ((d,p)::E) l ((i,tt)::pend) rest):Dv P ops n dr R0 K E l pend ((i,false)::rest):=
 Dv.mg tt p ho (eV.pure hg λR a w h=>⟨_,h x (by simp [Op.operands]) p hx,by simp [execOp]⟩) trivial k
theorem Dv.uW {d:Nat} {x:Operand} {T:TypeId} {ps:String} {af:Array Edge} {g:Option (Nat×Bool)} {p:VP} (ho:opAt ops.toList i=some ⟨some d,.assign x,T,ps,af,g⟩)
  (hg:fZ ops E g) (hx:opv E x=some p) (k:Dv P ops n dr R0 K ((d,p)::E) l ((i,tt)::pend) rest):Dv P ops n dr R0 K E l pend ((i,false)::rest):=
 Dv.mg tt p ho (eV.pure hg λR a w h=>⟨_,h x (by simp [Op.operands]) p hx,by simp [execOp]⟩) trivial k
theorem Dv.nilp {d:Nat} {x:Operand} {T:TypeId} {ps:String} {af:Array Edge} {g:Option (Nat×Bool)} {u:Addr} (ho:opAt ops.toList i=some ⟨some d,.nilCheck x,T,ps,af,g⟩)
  (hg:fZ ops E g) (hx:opv E x=some (eq (.pointer (some u)))) (k:Dv P ops n dr R0 K ((d,eq (.pointer (some u)))::E) l ((i,tt)::pend) rest):Dv P ops n dr R0 K E l pend ((i,false)::rest):=
 Dv.mg tt _ ho (eV.pure hg λR a w h=>⟨_,rfl,by
  have:=h x (by simp [Op.operands]) _ hx;simp at this;simp [execOp,this]⟩) trivial k
theorem Dv.ext {d:Nat} {x:Operand} {j:Nat} {T:TypeId} {ps:String} {af:Array Edge} {g:Option (Nat×Bool)} {qs:Cs} {p:VP} (ho:opAt ops.toList i=some ⟨some d,.extract x j,T,ps,af,g⟩)
  (hg:fZ ops E g) (hx:opv E x=some (lg qs)) (hp:qs[j]? = some p) (k:Dv P ops n dr R0 K ((d,p)::E) l ((i,tt)::pend) rest):Dv P ops n dr R0 K E l pend ((i,false)::rest):=
 Dv.mg tt _ ho (eV.pure hg λR a w h=>by
  obtain⟨cs,e,hc⟩:=h x (by simp [Op.operands]) _ hx
  obtain⟨v,hv,hpv⟩:=hc.get hp
  exact⟨v,hpv,by simp [execOp,e,Instr.extract,hv]⟩) trivial k
theorem Dv.bin {d:Nat} {op:BinOp} {x y:Operand} {xT yT:TypeId} {T:TypeId} {ps:String} {af:Array Edge} {g:Option (Nat×Bool)} {u1 u2 v:Value} (ho:opAt ops.toList i=some ⟨some d,.binOp op xT x y yT,T,ps,af,g⟩)
  (hg:fZ ops E g) (hx:opv E x=some (eq u1)) (hy:opv E y=some (eq u2)) (hr:∀ w,(do eqGuard op xT x y u1 u2;binOp op xT u1 u2:Sem Value).run P w = .ok v w)
  (k:Dv P ops n dr R0 K ((d,eq v)::E) l ((i,tt)::pend) rest):Dv P ops n dr R0 K E l pend ((i,false)::rest):=
 Dv.mg tt _ ho (eV.pure hg λR a w h=>⟨_,rfl,by
  have h1:=h x (by simp [Op.operands]) _ hx
  have h2:=h y (by simp [Op.operands]) _ hy
  simp only [ez] at h1 h2
  have:=hr w
  simp only [execOp,h1,h2,Sem.run_bind] at this ⊢
  rw [this];rfl⟩) trivial k
theorem Dv.un {d:Nat} {op:UnOp} {x:Operand} {xT:TypeId} {T:TypeId} {ps:String} {af:Array Edge} {g:Option (Nat×Bool)} {u1 v:Value} (ho:opAt ops.toList i=some ⟨some d,.unOp op xT x,T,ps,af,g⟩)
  (hg:fZ ops E g) (hx:opv E x=some (eq u1)) (hr:∀ w,(Op.unary op u1).run P w = .ok v w)
  (k:Dv P ops n dr R0 K ((d,eq v)::E) l ((i,tt)::pend) rest):Dv P ops n dr R0 K E l pend ((i,false)::rest):=
 Dv.mg tt _ ho (eV.pure hg λR a w h=>⟨_,rfl,by
  have h1:=h x (by simp [Op.operands]) _ hx
  simp only [ez] at h1
  simp [execOp,h1,hr w]⟩) trivial k
theorem rk (b:Bool):(Op.unary .not (.bool b)).run P w = .ok (.bool !b) w:=rfl
theorem GB (k:IntKind) (x:Int):(Op.unary .neg (.int k x)).run P w = .ok (.int k (k.wrap (0-x))) w:=rfl
section
variable {x y:Operand} {xT:TypeId} {kd:IntKind} {m m':Int} {s s':BA}
theorem q9:(do eqGuard .add xT x y (.int kd m) (.int kd m');binOp .add xT (.int kd m) (.int kd m'):Sem Value).run P w = .ok (.int kd (kd.wrap (m+m'))) w:=by simp [eqGuard,binOp,Op.intArith]
theorem BV:(do eqGuard .sub xT x y (.int kd m) (.int kd m');binOp .sub xT (.int kd m) (.int kd m'):Sem Value).run P w = .ok (.int kd (kd.wrap (m-m'))) w:=by simp [eqGuard,binOp,Op.intArith]
theorem Gf:(do eqGuard .mul xT x y (.int kd m) (.int kd m');binOp .mul xT (.int kd m) (.int kd m'):Sem Value).run P w = .ok (.int kd (kd.wrap (m*m'))) w:=by simp [eqGuard,binOp,Op.intArith]
theorem pX (h:m'≠0):(do eqGuard .quo xT x y (.int kd m) (.int kd m');binOp .quo xT (.int kd m) (.int kd m'):Sem Value).run P w = .ok (.int kd (kd.wrap (m.tdiv m'))) w:=by simp [eqGuard,binOp,Op.intDiv,h]
theorem q7 (h:m'≠0):(do eqGuard .rem xT x y (.int kd m) (.int kd m');binOp .rem xT (.int kd m) (.int kd m'):Sem Value).run P w = .ok (.int kd (m.tmod m')) w:=by simp [eqGuard,binOp,Op.intDiv,h]
theorem E7:(do eqGuard .lss xT x y (.int kd m) (.int kd m');binOp .lss xT (.int kd m) (.int kd m'):Sem Value).run P w = .ok (.bool (decide (m<m'))) w:=by simp [eqGuard,binOp,Op.intCmp]
theorem Ig:(do eqGuard .leq xT x y (.int kd m) (.int kd m');binOp .leq xT (.int kd m) (.int kd m'):Sem Value).run P w = .ok (.bool (decide (m<=m'))) w:=by simp [eqGuard,binOp,Op.intCmp]
theorem IK:(do eqGuard .gtr xT x y (.int kd m) (.int kd m');binOp .gtr xT (.int kd m) (.int kd m'):Sem Value).run P w = .ok (.bool (decide (m'<m))) w:=by simp [eqGuard,binOp,Op.intCmp]
theorem H7:(do eqGuard .geq xT x y (.int kd m) (.int kd m');binOp .geq xT (.int kd m) (.int kd m'):Sem Value).run P w = .ok (.bool (decide (m'<=m))) w:=by simp [eqGuard,binOp,Op.intCmp]
theorem run_eq:(do eqGuard .eql xT x y (.int kd m) (.int kd m');binOp .eql xT (.int kd m) (.int kd m'):Sem Value).run P w = .ok (.bool (m==m')) w:=by simp [eqGuard,binOp,Op.intCmp]
theorem DX:(do eqGuard .neq xT x y (.int kd m) (.int kd m');binOp .neq xT (.int kd m) (.int kd m'):Sem Value).run P w = .ok (.bool (m != m')) w:=by simp [eqGuard,binOp,Op.intCmp]
theorem qj (s s':BA):(s.toList==s'.toList)=decide (s=s'):=by
 rw [ByteArray.toList_eq,ByteArray.toList_eq]
 cases s;cases s'
 rw [Bool.eq_iff_iff];simp
def il (s s':BA):Bool:=Op.bytesLess s.data.toList s'.data.toList
theorem oY:∀ x y:List UInt8,(!(Op.bytesLess x y||x==y))=Op.bytesLess y x
 | [],[]=>rfl
 | [],_::_=>rfl
 | _::_,[]=>rfl
 | a::x,b::y=>by
  have ih:=oY x y
  simp only [Op.bytesLess]
  rcases Nat.lt_trichotomy a.toNat b.toNat with h | h | h
  ·have h1:a<b:=UInt8.lt_iff_toNat_lt.2 h
   have h2:¬ b<a:=λk=>by have:=UInt8.lt_iff_toNat_lt.1 k;omega
   have h3:¬ b=a:=λk=>by rw [k] at h;omega
   simp [h1,h2,h3]
  ·have e:a=b:=UInt8.toNat_inj.1 h
   subst e
   have h1:¬ a<a:=λk=>by have:=UInt8.lt_iff_toNat_lt.1 k;omega
   simp only [h1,decide_false,Bool.false_or,beq_self_eq_true,Bool.true_and]
   rw [<- ih];simp
  ·have h1:b<a:=UInt8.lt_iff_toNat_lt.2 h
   have h2:¬ a<b:=λk=>by have:=UInt8.lt_iff_toNat_lt.1 k;omega
   have h3:¬ a=b:=λk=>by rw [k] at h;omega
   simp [h1,h2,h3]
theorem BM (s s':BA):(!(Op.bytesLess s.toList s'.toList||s.toList==s'.toList))=il s' s:=by
 rw [ByteArray.toList_eq,ByteArray.toList_eq];exact oY _ _
theorem BP (s s':BA):Op.bytesLess s.toList s'.toList=il s s':=by rw [ByteArray.toList_eq,ByteArray.toList_eq];rfl
theorem run_seq:(do eqGuard .eql xT x y (.string s) (.string s');binOp .eql xT (.string s) (.string s'):Sem Value).run P w = .ok (.bool (decide (s=s'))) w:=by rw [<- qj];simp [eqGuard,binOp,Op.stringOp]
theorem F6:(do eqGuard .neq xT x y (.string s) (.string s');binOp .neq xT (.string s) (.string s'):Sem Value).run P w = .ok (.bool (!decide (s=s'))) w:=by rw [<- qj];simp [eqGuard,binOp,Op.stringOp]
theorem FT:(do eqGuard .lss xT x y (.string s) (.string s');binOp .lss xT (.string s) (.string s'):Sem Value).run P w = .ok (.bool (il s s')) w:=by rw [<- BP];simp [eqGuard,binOp,Op.stringOp]
theorem FB:(do eqGuard .gtr xT x y (.string s) (.string s');binOp .gtr xT (.string s) (.string s'):Sem Value).run P w = .ok (.bool (il s' s)) w:=by rw [<- BM];simp [eqGuard,binOp,Op.stringOp]
theorem Gc:(do eqGuard .leq xT x y (.string s) (.string s');binOp .leq xT (.string s) (.string s'):Sem Value).run P w = .ok (.bool (!il s' s)) w:=by rw [<- BM];simp [eqGuard,binOp,Op.stringOp]
theorem G9:(do eqGuard .geq xT x y (.string s) (.string s');binOp .geq xT (.string s) (.string s'):Sem Value).run P w = .ok (.bool (!il s s')) w:=by rw [<- BP];simp [eqGuard,binOp,Op.stringOp]
theorem nA (h:s.size+s'.size<=9223372036854775807):(do eqGuard .add xT x y (.string s) (.string s');binOp .add xT (.string s) (.string s'):Sem Value).run P w = .ok (.string (s++s')) w:=by
 simp only [eqGuard,binOp,Op.stringOp,IntKind.max,IntKind.signed,IntKind.bits]
 simp
 omega
end
end
section
variable {P:Program} {R:Fz} {w:World}
theorem yM {α:Type _}:∀ {l:List α} {j:Nat} {A:α} (B:α),l[j]? = some A->(l.set j B).Perm (B::l.eraseIdx j)
 | [],j,A,B,h=>by simp at h
 | C::l,0,A,B,h=>sM
 | C::l,j+1,A,B,h=>by
  have:=yM (l:=l) (j:=j) (A:=A) B (by simpa using h)
  simpa using (this.cons C).trans (List.Perm.swap _ _ _)
theorem St.eF {l:List As} {j:Nat} {A:As} (h:St R l w) (hj:l[j]? = some A):∃ m,A.p R m/\je R m (l.eraseIdx j) w:=by
 obtain⟨m,hm,k⟩:=St.fY (r7 hj) h
 exact⟨m,hm,by simpa using k⟩
theorem St.shut {l:List As} {j:Nat} {A B:As} {R':Fz} {m:Mem} {w':World} (hj:l[j]? = some A) (hB:B.p R' m) (k:je R' m (l.eraseIdx j) w'):St R' (l.set j B) w':=
 St.fY (yM B hj).symm ⟨m,hB,by simpa using k⟩
theorem je.to {R R':Fz} {m m':Mem} {l:List As} {w w':World} (hR:R.le R') (h:∀ x,iw R (m++x) w->iw R' (m'++x) w') (k:je R m l w):je R' m' l w':=by
 have:=je.upd (m:=[]) hR h (by simpa using k)
 simpa using this
theorem St.alloc {l:List As} {A:As} {o:Obj} (h:St R l w) (hA:A.p R [(w.heap.size,o)]):St R (A::l) { w with heap:=w.heap.push o }:=
 ⟨_,hA,je.to (m:=[]) (m':=[(w.heap.size,o)]++[]) (Fz.le_refl R) (λx hx=>by simpa using hx.alloc o) h⟩
theorem ny {b off:Nat} {c:Array Value} {T:TypeId} {fr:Nat×Nat} (h:w.heap[b]? = some (.cells c T fr)):w.cell? ⟨b,off,none⟩=c[off]?:=by
 simp [World.cell?,h]
theorem add_eq {b off i:Nat}:(⟨b,off,none⟩:Addr).add i=⟨b,off+i,none⟩:=by
 unfold Addr.add
 split
 ·subst_vars;rfl
 ·rfl
theorem ym {b off:Nat} {c:Array Value} {T:TypeId} {fr:Nat×Nat} (h:w.heap[b]? = some (.cells c T fr)):
  ∀ (n i:Nat) (acc:Array Value),off+i+n<=c.size->(loadCellsFrom ⟨b,off,none⟩ i n acc).run P w = .ok (acc++((c.toList.drop (off+i)).take n).toArray) w:=by
 intro n
 induction n with
 | zero=>intro i acc _;simp [loadCellsFrom]
 | succ n ih=>
  intro i acc hle
  have hlt:off+i<c.size:=om
  simp only [loadCellsFrom,add_eq,Sem.run_bind,run_load,ny h,Array.getElem?_eq_getElem hlt,Result.andThen_ok]
  rw [ih (i+1) _ om]
  congr 1
  have e:c.toList.drop (off+i)=c[off+i]::c.toList.drop (off+(i+1)):=by
   rw [List.drop_eq_getElem_cons (by simpa using hlt)];simp [Nat.add_assoc]
  rw [e,List.take_succ_cons]
  apply Array.ext'
  simp
theorem run_loadCells {b off n:Nat} {c:Array Value} {T:TypeId} {fr:Nat×Nat} (h:w.heap[b]? = some (.cells c T fr)) (hle:off+n<=c.size):
  (loadCells ⟨b,off,none⟩ n).run P w = .ok ((c.toList.drop off).take n).toArray w:=by
 unfold loadCells
 rw [ym h n 0 #[] om]
 simp
def qe:TypeDesc->Bool
 | .struct _ | .array _ _=>true
 | _=>false
theorem rh {t:TypeId} {d:TypeDesc} (h:P.underlying t=some d):(isAgg t).run P w = .ok (qe d) w:=by
 unfold isAgg underlying
 simp only [Sem.run_bind,run_program,Result.andThen_ok,h]
 cases d <;> rfl
theorem Hf {t:TypeId} {d:TypeDesc} (h:P.underlying t=some d):∃ i,P.info? t=some i:=by
 unfold Program.underlying at h
 cases e:P.info? t with
 | none=>rw [e] at h;cases h
 | some i=>exact⟨i,rfl⟩
theorem run_sizeOf {t:TypeId} {d:TypeDesc} {sz:Nat} (h:P.underlying t=some d) (hc:P.cellsOf t=sz):(sizeOf t).run P w = .ok sz w:=by
 obtain⟨i,hi⟩:=Hf h
 have:i.size=sz:=by simpa [Program.cellsOf,hi] using hc
 simp [sizeOf,typeInfo,hi,this]
theorem q5 {b off:Nat} {t:TypeId} {d:TypeDesc} {c:Array Value} {T:TypeId} {fr:Nat×Nat} {v:Value} (h:w.heap[b]? = some (.cells c T fr)) (hu:P.underlying t=some d) (hd:qe d=false)
  (hv:c[off]? = some v):(loadVar t ⟨b,off,none⟩).run P w = .ok v w:=by
 unfold loadVar
 simp [rh hu,hd,ny h,hv]
theorem pR {b off sz:Nat} {t:TypeId} {d:TypeDesc} {c:Array Value} {T:TypeId} {fr:Nat×Nat} (h:w.heap[b]? = some (.cells c T fr)) (hu:P.underlying t=some d) (hd:qe d=true) (hc:P.cellsOf t=sz)
  (hle:off+sz<=c.size):(loadVar t ⟨b,off,none⟩).run P w = .ok (.agg ((c.toList.drop off).take sz).toArray) w:=by
 unfold loadVar
 simp [rh hu,hd,run_sizeOf hu hc,run_loadCells h hle]
theorem pz {l:List As} {b:Nat} {T:TypeId} {ps:Cs} (hA:ar b T ps∈l) (hst:St R l w):∃ cs:List Value,w.heap[b]? = some (.cells cs.toArray T)/\Cs.h R ps cs:=by
 obtain⟨m,⟨cs,rfl,hc⟩,hw⟩:=St.read hA hst
 exact⟨cs,hw _ (List.mem_cons_self ..),hc⟩
theorem EA {a:Addr} {v:Value} {k:Nat} (h:k≠a.block):(w.setCell a v).heap[k]? = w.heap[k]?:=by
 simp only [World.setCell,Array.getElem?_modify]
 rw [if_neg (Ne.symm h)]
theorem zj {b off:Nat} {c:Array Value} {T:TypeId} {fr:Nat×Nat} {v:Value} (h:w.heap[b]? = some (.cells c T fr)):(w.setCell ⟨b,off,none⟩ v).heap[b]? = some (.cells (c.setIfInBounds off v) T fr):=by
 simp [World.setCell,Array.getElem?_modify,h]
theorem iw.setCell {b off:Nat} {c:Array Value} {T:TypeId} {fr:Nat×Nat} {v:Value} {x:Mem} (h:iw R ((b,.cells c T fr)::x) w):iw R ((b,.cells (c.setIfInBounds off v) T fr)::x) (w.setCell ⟨b,off,none⟩ v):=
 h.set rfl rfl rfl (Nat.le_refl _) (by simp [World.setCell]) (zj h.get) (λk hk=>EA hk)
theorem AK {b off:Nat} {c:Array Value} {T:TypeId} {fr:Nat×Nat} {v:Value} (h:w.heap[b]? = some (.cells c T fr)) (hv:v.oneCell'=true) (hle:off<c.size) (hf:¬ (fr.1<=off/\off<fr.2)):
  (store ⟨b,off,none⟩ v).run P w = .ok () (w.setCell ⟨b,off,none⟩ v):=by
 rw [run_store P w ⟨b,off,none⟩ v .plain (by cases v <;> first | rfl | (simp [Value.oneCell'] at hv))]
 rw [ny h,Array.getElem?_eq_getElem hle]
 have:w.frozen? ⟨b,off,none⟩=false:=by
  simp only [World.frozen?,h]
  simp;omega
 simp [this]
theorem FH {u v:Value} {off:Nat}:∀ (c:List Value) (vs:List Value),off<c.length->(c.set off v).take (off+1)=c.take off++[v]:=by
 intro c vs h
 rw [List.take_set]
 rw [List.take_succ_eq_append_getElem h,List.set_append_right _ _ (by simp;omega)]
 simp [Nat.min_eq_left (Nat.le_of_lt h)]
def gN (c:List Value) (off:Nat) (vs:List Value):List Value:=c.take off++vs++c.drop (off+vs.length)
theorem rv {c:List Value} {off:Nat} {vs:List Value} (h:off+vs.length<=c.length):(gN c off vs).length=c.length:=by
 simp [gN];omega
theorem tG {c:List Value} {off:Nat} {v:Value} {vs:List Value} (h:off+(vs.length+1)<=c.length):gN c off (v::vs)=gN (c.set off v) (off+1) vs:=by
 unfold gN
 rw [FH (u:=v) c vs om,List.drop_set]
 rw [if_pos om]
 simp [Nat.add_assoc,Nat.add_comm 1]
theorem oH {b:Nat} {T:TypeId} {fr:Nat×Nat}:∀ (vs:List Value) (off i:Nat) {c:List Value} {w:World},w.heap[b]? = some (.cells c.toArray T fr)->(∀ u∈vs,u.oneCell'=true)->off+i+vs.length<=c.length->(∀ k,k<c.length->¬ (fr.1<=k/\k<fr.2))->
  ∃ w',(storeCells ⟨b,off,none⟩ vs i).run P w = .ok () w'/\∀ R x,iw R ((b,.cells c.toArray T fr)::x) w->iw R ((b,.cells (gN c (off+i) vs).toArray T fr)::x) w':=by
 intro vs
 induction vs with
 | nil=>intro off i c w h _ _ _;exact⟨w,by simp [storeCells],λR x hx=>by simpa [gN] using hx⟩
 | cons v vs ih=>
  intro off i c w h ho hle hf
  simp only [List.length_cons] at hle
  have h1:=AK (P:=P) (off:=off+i) h (ho v (List.mem_cons_self ..)) (by simp;omega) (hf _ om)
  have h2:(w.setCell ⟨b,off+i,none⟩ v).heap[b]? = some (.cells (c.set (off+i) v).toArray T fr):=by rw [zj h];simp
  obtain⟨w',hr,hb⟩:=ih off (i+1) h2 (λu hu=>ho u (List.mem_cons_of_mem _ hu)) (by simp;omega) (by simpa using hf)
  refine⟨w',?_,λR x hx=>?_⟩
  ·simp only [storeCells,add_eq,Sem.run_bind,h1,Result.andThen_ok];exact hr
  ·have:=hb R x (by have:=hx.setCell (off:=off+i) (v:=v);simpa using this)
   rw [tG om]
   simpa [Nat.add_assoc] using this
theorem sD {b off:Nat} {t:TypeId} {d:TypeDesc} {sz:Nat} {c:List Value} {T:TypeId} {fr:Nat×Nat} {v:Value} (hu:P.underlying t=some d) (hc:P.cellsOf t=sz) (h:w.heap[b]? = some (.cells c.toArray T fr))
  (hs:v.cells.toList.length=sz) (ho:∀ u∈v.cells.toList,u.oneCell'=true) (hle:off+sz<=c.length) (hf:∀ k,k<c.length->¬ (fr.1<=k/\k<fr.2)):
  ∃ w',(storeVar t ⟨b,off,none⟩ v).run P w = .ok () w'/\∀ R x,iw R ((b,.cells c.toArray T fr)::x) w->iw R ((b,.cells (gN c off v.cells.toList).toArray T fr)::x) w':=by
 obtain⟨w',hr,hb⟩:=oH (P:=P) v.cells.toList off 0 h ho om hf
 refine⟨w',?_,by simpa using hb⟩
 unfold storeVar
 have:v.cells.size=sz:=by simpa using hs
 simp [run_sizeOf hu hc,this,hr]
def oO (ps:Cs) (off:Nat) (qs:Cs):Cs:=ps.take off++qs++ps.drop (off+qs.length)
theorem Cs.gN {ps qs:Cs} {cs us:List Value} {off:Nat} (h:Cs.h R ps cs) (k:Cs.h R qs us):Cs.h R (oO ps off qs) (gN cs off us):=by
 unfold oO Sp.gN
 rw [bV.length k]
 exact((bV.take h off).append k).append (bV.drop h _)
end
section
variable {P:Program} {ops:Array Oper} {n:Nat} {dr:Bool} {R0:Fz} {K:KU} {E:Env} {l:List As} {pend:List (Nat×(List As->Prop))} {rest:List (Nat×Bool)} {i d:Nat}
variable {T:TypeId} {ps:String} {af:Array Edge} {g:Option (Nat×Bool)} {x y:Operand}
theorem ov {R:Fz} {qs:Cs} {cs:List Value} (h:Cs.h R qs cs) {j:Nat} {p:VP} (hp:qs[j]? = some p):∃ v,cs[j]? = some v/\p.p R v:=bV.get h hp
theorem Iw {c:Array Value} {off m j:Nat} {v:Value} (h:((c.toList.drop off).take m)[j]? = some v):c[off+j]? = some v:=by
 rw [List.getElem?_take] at h
 split at h
 ·rw [List.getElem?_drop] at h;simpa using h
 ·cases h
theorem Dv.ldr {t:TypeId} {td:TypeDesc} {qs:Cs} {p:VP} (ho:opAt ops.toList i=some ⟨some d,.load t x,T,ps,af,g⟩) (hg:fZ ops E g)
  (hx:opv E x=some (rp qs)) (hu:P.underlying t=some td) (hd:qe td=false) (hp:qs[0]? = some p) (k:Dv P ops n dr R0 K ((d,p)::E) l ((i,tt)::pend) rest):Dv P ops n dr R0 K E l pend ((i,false)::rest):=
 Dv.mg tt _ ho (eV.val hg λR a w l h _ hst=>by
  obtain⟨b,off,T,fr,cs,e,hm,hl,hc⟩:=h x (by simp [Op.operands]) _ hx
  obtain⟨v,hv,hpv⟩:=ov hc hp
  refine⟨R,v,w,Fz.le_refl R,hpv,hst,?_⟩
  have hh:=hst.base.uN b _ hm
  have:=q5 (P:=P) (off:=off) hh hu hd (by simpa using Iw hv)
  simp [execOp,e,Instr.loadAt,Instr.sureAddr,this]) trivial k
theorem Dv.ldrs {t:TypeId} {td:TypeDesc} {qs:Cs} {sz:Nat} (ho:opAt ops.toList i=some ⟨some d,.load t x,T,ps,af,g⟩) (hg:fZ ops E g)
  (hx:opv E x=some (rp qs)) (hu:P.underlying t=some td) (hd:qe td=true) (hz:P.cellsOf t=sz) (hq:sz<=qs.length) (k:Dv P ops n dr R0 K ((d,agg (qs.take sz))::E) l ((i,tt)::pend) rest):Dv P ops n dr R0 K E l pend ((i,false)::rest):=
 Dv.mg tt _ ho (eV.val hg λR a w l h _ hst=>by
  obtain⟨b,off,T,fr,cs,e,hm,hl,hc⟩:=h x (by simp [Op.operands]) _ hx
  refine⟨R,_,w,Fz.le_refl R,⟨(cs.toList.drop off).take sz,rfl,?_⟩,hst,?_⟩
  ·have:=bV.take hc sz
   rwa [List.take_take,Nat.min_eq_left hq] at this
  ·have hh:=hst.base.uN b _ hm
   have:=pR (P:=P) (off:=off) hh hu hd hz om
   simp [execOp,e,Instr.loadAt,Instr.sureAddr,this]) trivial k
theorem Dv.ldb {t:TypeId} {td:TypeDesc} {qs:Cs} {p:VP} {b off:Nat} {bT:TypeId} (ho:opAt ops.toList i=some ⟨some d,.load t x,T,ps,af,g⟩) (hg:fZ ops E g)
  (hx:opv E x=some (eq (.pointer (some ⟨b,off,none⟩)))) (hu:P.underlying t=some td) (hd:qe td=false) (hA:ar b bT qs∈l) (hp:qs[off]? = some p)
  (k:Dv P ops n dr R0 K ((d,p)::E) l ((i,(ar b bT qs∈·))::pend) rest):Dv P ops n dr R0 K E l pend ((i,false)::rest):=
 Dv.mg _ _ ho (eV.val hg λR a w l h hq hst=>by
  have e:=h x (by simp [Op.operands]) _ hx
  simp only [ez] at e
  obtain⟨cs,hh,hc⟩:=pz hq hst
  obtain⟨v,hv,hpv⟩:=ov hc hp
  have:=q5 (P:=P) (off:=off) hh hu hd (by simpa using hv)
  exact⟨R,v,w,Fz.le_refl R,hpv,hst,by simp [execOp,e,Instr.loadAt,Instr.sureAddr,this]⟩) hA k
theorem Dv.ldbs {t:TypeId} {td:TypeDesc} {qs:Cs} {sz:Nat} {b off:Nat} {bT:TypeId} (ho:opAt ops.toList i=some ⟨some d,.load t x,T,ps,af,g⟩) (hg:fZ ops E g)
  (hx:opv E x=some (eq (.pointer (some ⟨b,off,none⟩)))) (hu:P.underlying t=some td) (hd:qe td=true) (hz:P.cellsOf t=sz) (hA:ar b bT qs∈l) (hq:off+sz<=qs.length)
  (k:Dv P ops n dr R0 K ((d,agg ((qs.drop off).take sz))::E) l ((i,(ar b bT qs∈·))::pend) rest):Dv P ops n dr R0 K E l pend ((i,false)::rest):=
 Dv.mg _ _ ho (eV.val hg λR a w l h hA hst=>by
  have e:=h x (by simp [Op.operands]) _ hx
  simp only [ez] at e
  obtain⟨cs,hh,hc⟩:=pz hA hst
  have hl:=bV.length hc
  have:=pR (P:=P) (off:=off) hh hu hd hz (by simp;omega)
  exact⟨R,_,w,Fz.le_refl R,⟨(cs.drop off).take sz,rfl,bV.take (bV.drop hc _) _⟩,hst,by simp [execOp,e,Instr.loadAt,Instr.sureAddr,this]⟩) hA k
theorem mU {P:Program} {w:World} {b off:Nat} {f:Field} {fd:TypeDesc} {sz:Nat} (hu:P.underlying f.type=some fd) (hz:P.cellsOf f.type=sz) (h0:sz≠0):
  (fieldPlace ⟨b,off,none⟩ f).run P w = .ok ⟨b,off+f.offset,none⟩ w:=by
 unfold fieldPlace
 simp [run_sizeOf hu hz,h0,add_eq]
theorem Dv.fab {s j:Nat} {fs:Array Field} {f:Field} {fd:TypeDesc} {sz b off:Nat} (ho:opAt ops.toList i=some ⟨some d,.fieldAddr s x j,T,ps,af,g⟩) (hg:fZ ops E g)
  (hx:opv E x=some (eq (.pointer (some ⟨b,off,none⟩)))) (hu:P.underlying s=some (.struct fs)) (hf:fs[j]? = some f) (hv:P.underlying f.type=some fd) (hz:P.cellsOf f.type=sz) (h0:sz≠0)
  (k:Dv P ops n dr R0 K ((d,eq (.pointer (some ⟨b,off+f.offset,none⟩)))::E) l ((i,tt)::pend) rest):Dv P ops n dr R0 K E l pend ((i,false)::rest):=
 Dv.mg _ _ ho (eV.pure hg λR a w h=>⟨_,rfl,by
  have e:=h x (by simp [Op.operands]) _ hx
  simp only [ez] at e
  simp [execOp,e,Instr.fieldAt,underlying,hu,hf,Instr.sureAddr,mU hv hz h0]⟩) trivial k
theorem Cs.FJ {R:Fz} {qs:Cs} {cs:Array Value} {off m:Nat} (hl:off+qs.length<=cs.size) (hm:m<=qs.length) (h:Cs.h R qs ((cs.toList.drop off).take qs.length)):
  Cs.h R (qs.drop m) ((cs.toList.drop (off+m)).take (qs.drop m).length):=by
 have:=bV.drop h m
 rw [List.drop_take,List.drop_drop] at this
 unfold Cs.h
 simpa using this
theorem Dv.far {s j:Nat} {fs:Array Field} {f:Field} {fd:TypeDesc} {sz:Nat} {qs:Cs} (ho:opAt ops.toList i=some ⟨some d,.fieldAddr s x j,T,ps,af,g⟩) (hg:fZ ops E g)
  (hx:opv E x=some (rp qs)) (hu:P.underlying s=some (.struct fs)) (hf:fs[j]? = some f) (hv:P.underlying f.type=some fd) (hz:P.cellsOf f.type=sz) (h0:sz≠0) (hq:f.offset<=qs.length)
  (k:Dv P ops n dr R0 K ((d,rp (qs.drop f.offset))::E) l ((i,tt)::pend) rest):Dv P ops n dr R0 K E l pend ((i,false)::rest):=
 Dv.mg _ _ ho (eV.pure hg λR a w h=>by
  obtain⟨b,off,T,fr,cs,e,hm,hl,hc⟩:=h x (by simp [Op.operands]) _ hx
  exact⟨_,⟨b,off+f.offset,T,fr,cs,rfl,hm,by simp;omega,Cs.FJ hl hq hc⟩,by
   simp [execOp,e,Instr.fieldAt,underlying,hu,hf,Instr.sureAddr,mU hv hz h0]⟩) trivial k
theorem wc {α:Type} {K:Kd α}:∀ (xs:List α) (i:Nat),i<xs.length->((xs.flatMap K.enc).drop (i*K.sz)).take K.sz=K.enc (xs.getD i K.qx)
 | [],i,h=>by simp at h
 | x::xs,0,_=>by simp [<- K.len x]
 | x::xs,i+1,h=>by
  have ih:=wc (K:=K) xs i (by simpa using h)
  rw [List.flatMap_cons,Nat.succ_mul,Nat.add_comm,List.drop_append,<- List.drop_drop]
  have e:(K.enc x).drop K.sz=[]:=List.drop_eq_nil_of_le (Nat.le_of_eq (K.len x))
  rw [e,K.len x]
  simp only [List.drop_nil,List.nil_append]
  rw [show K.sz+i*K.sz-K.sz=i*K.sz by omega,ih]
  rfl
theorem cO {α:Type} {K:Kd α} (xs:List α):(xs.flatMap K.enc).length=xs.length*K.sz:=by
 induction xs with
 | nil=>simp
 | cons x xs ih=>rw [List.flatMap_cons,List.length_append,K.len,ih,List.length_cons,Nat.succ_mul,Nat.add_comm]
theorem xR {i n sz:Nat} (h:i<n):i*sz+sz<=n*sz:=by
 have:=Nat.mul_le_mul_right sz (Nat.succ_le_of_lt h)
 rwa [Nat.succ_mul] at this
theorem Cs.elem {α:Type} {R:Fz} {K:Kd α} {xs:List α} {cs:List Value} {off:Nat} {j:Nat} (hj:j<xs.length) (h:Cs.h R (xs.flatMap K.enc) ((cs.drop off).take (xs.length*K.sz))):
  Cs.h R (K.enc (xs.getD j K.qx)) ((cs.drop (off+j*K.sz)).take K.sz):=by
 have h1:=bV.take (bV.drop h (j*K.sz)) K.sz
 rw [wc xs j hj,List.drop_take,List.drop_drop,List.take_take] at h1
 have:=xR (sz:=K.sz) hj
 rwa [Nat.min_eq_left om] at h1
theorem Dv.lE {α:Type} {Kd:Kd α} {xs:List α} {t e:TypeId} {ed:TypeDesc} {ik:IntKind} {m:Int} (ho:opAt ops.toList i=some ⟨some d,.indexAddr t x y,T,ps,af,g⟩) (hg:fZ ops E g)
  (hx:opv E x=some (sl Kd xs)) (hy:opv E y=some (eq (.int ik m))) (hu:P.underlying t=some (.slice e)) (hv:P.underlying e=some ed) (hz:P.cellsOf e=Kd.sz) (h0:0<=m) (h1:m<xs.length)
  (k:Dv P ops n dr R0 K ((d,rp (Kd.enc (Kd.at xs m)))::E) l ((i,tt)::pend) rest):Dv P ops n dr R0 K E l pend ((i,false)::rest):=
 Dv.mg _ _ ho (eV.pure hg λR a w h=>by
  have e2:=h y (by simp [Op.operands]) _ hy
  simp only [ez] at e2
  rcases h x (by simp [Op.operands]) _ hx with⟨_,_,_,e1⟩|⟨b,off,c,T,fr,cs,e1,hc,hm,hs,hh⟩
  ·subst e1;simp at h1;omega
  ·have hj:m.toNat<xs.length:=om
   refine⟨_,⟨b,off+m.toNat*Kd.sz,T,fr,cs,rfl,hm,?_,?_⟩,?_⟩
   ·rw [Kd.len]
    have:=xR (sz:=Kd.sz) (Nat.lt_of_lt_of_le hj hc)
    omega
   ·rw [Kd.len];exact Cs.elem hj hh
   ·simp [execOp,e1,e2,Instr.indexAt,asIntOf,underlying,hu,h0,h1,run_sizeOf hv hz,add_eq]) trivial k
def bt (s:BA) (m:Int):Int:=((s.data.getD m.toNat 0).toNat:Int)
theorem Dv.ru {t:TypeId} {s:BA} {ik:IntKind} {m:Int} (ho:opAt ops.toList i=some ⟨some d,.index t x y,T,ps,af,g⟩) (hg:fZ ops E g)
  (hx:opv E x=some (eq (.string s))) (hy:opv E y=some (eq (.int ik m))) (hu:P.underlying t=some .string) (h0:0<=m) (h1:m<s.size)
  (k:Dv P ops n dr R0 K ((d,eq (.int .u8 (bt s m)))::E) l ((i,tt)::pend) rest):Dv P ops n dr R0 K E l pend ((i,false)::rest):=
 Dv.mg _ _ ho (eV.pure hg λR a w h=>⟨_,rfl,by
  have e1:=h x (by simp [Op.operands]) _ hx
  have e2:=h y (by simp [Op.operands]) _ hy
  simp only [ez] at e1 e2
  have hj:m.toNat<s.data.size:=by have:s.size=s.data.size:=rfl;omega
  have hs:s[m.toNat]? = some (s.data[m.toNat]):=by
   rw [getElem?_pos s m.toNat hj];rfl
  simp [execOp,e1,e2,Instr.index,asIntOf,underlying,hu,h0,hs,bt,Array.getD_eq_getD_getElem?,Array.getElem?_eq_getElem hj]⟩) trivial k
theorem Dv.box {t:TypeId} {p:VP} {qs:Cs} (ho:opAt ops.toList i=some ⟨some d,.box t x,T,ps,af,g⟩) (hg:fZ ops E g) (hx:opv E x=some p) (hq:ma p qs)
  (hp:dr=true->∀ z∈pend,((Region.before ops).getD i 0).testBit z.1=true\/∀ b,z.2 (ar b t qs::l))
  (k:∀ b,Dv P ops n dr R0 K ((d,eq (.pointer (some ⟨b,0,none⟩)))::E) (ar b t qs::l) pend rest) (hkb:K.kZ E l pend ((i,true)::rest):=by first | exact trivial | assumption):Dv P ops n dr R0 K E l pend ((i,true)::rest):=
 .kZ _ (γ:=Nat) (λ_=>True) (λb=>eq (.pointer (some ⟨b,0,none⟩))) (λb=>ar b t qs::l) (fC ho) (iV.val hg λR a w h hst=>by
  have e:=h x (by simp [Op.operands]) _ hx
  obtain⟨hc,_⟩:=hq R _ e
  refine⟨w.heap.size,R,_,_,trivial,Fz.le_refl R,rfl,hst.alloc (o:=.cells (a.eval x).cells t) ⟨(a.eval x).cells.toList,sM,hc⟩,?_⟩
  simp [execOp,Instr.box,newVar,newRow]) (λe z hz=>(hp e z hz).imp id λh b _=>h b) (λb _=>k b) hkb
def mz (P:Program) (t:TypeId):Option Value:=(P.info? t).bind (·.zero)
theorem lh {P:Program} {w:World} {t:TypeId} {z:Value} (h:mz P t=some z):(zeroValue t).run P w = .ok z w:=by
 unfold mz at h
 cases e:P.info? t with
 | none=>rw [e] at h;cases h
 | some i=>rw [e] at h;simp only [Option.bind_some] at h;simp [zeroValue,typeInfo,e,h]
theorem Dv.alloc {t:TypeId} {z:Value} {qs:Cs} (ho:opAt ops.toList i=some ⟨some d,.alloc t,T,ps,af,g⟩) (hg:fZ ops E g) (hz:mz P t=some z) (hq:qs=z.cells.toList.map eq)
  (hp:dr=true->∀ z∈pend,((Region.before ops).getD i 0).testBit z.1=true\/∀ b,z.2 (ar b t qs::l))
  (k:∀ b,Dv P ops n dr R0 K ((d,eq (.pointer (some ⟨b,0,none⟩)))::E) (ar b t qs::l) pend rest) (hkb:K.kZ E l pend ((i,true)::rest):=by first | exact trivial | assumption):Dv P ops n dr R0 K E l pend ((i,true)::rest):=
 .kZ _ (γ:=Nat) (λ_=>True) (λb=>eq (.pointer (some ⟨b,0,none⟩))) (λb=>ar b t qs::l) (fC ho) (iV.val hg λR a w h hst=>by
  have hc:Cs.h R qs z.cells.toList:=by
   rw [hq]
   generalize z.cells.toList=us
   induction us with
   | nil=>exact .nil
   | cons u us ih=>exact .cons rfl ih
  refine⟨w.heap.size,R,_,_,trivial,Fz.le_refl R,rfl,hst.alloc (o:=.cells z.cells t) ⟨z.cells.toList,sM,hc⟩,?_⟩
  simp [execOp,Instr.alloc,newVar,newRow,lh hz]) (λe z hz=>(hp e z hz).imp id λh b _=>h b) (λb _=>k b) hkb
theorem Dv.stb {t:TypeId} {td:TypeDesc} {sz b off:Nat} {bT:TypeId} {p:VP} {ps' qs:Cs} {j:Nat} (ho:opAt ops.toList i=some ⟨none,.store t x y,T,ps,af,g⟩) (hg:fZ ops E g)
  (hx:opv E x=some (eq (.pointer (some ⟨b,off,none⟩)))) (hy:opv E y=some p) (hq:ma p qs) (hu:P.underlying t=some td) (hz:P.cellsOf t=sz) (hl:qs.length=sz) (hj:l[j]? = some (ar b bT ps')) (hle:off+sz<=ps'.length)
  (hp:dr=true->∀ z∈pend,((Region.before ops).getD i 0).testBit z.1=true\/∀ _:Unit,z.2 (l.set j (ar b bT (oO ps' off qs))))
  (k:Dv P ops n dr R0 K E (l.set j (ar b bT (oO ps' off qs))) pend rest) (hkb:K.kZ E l pend ((i,true)::rest):=by first | exact trivial | assumption):Dv P ops n dr R0 K E l pend ((i,true)::rest):=
 .kZ _ (γ:=Unit) (λ_=>True) (λ_=>eq undef) (λ_=>l.set j (ar b bT (oO ps' off qs))) (fC ho) (iV.act hg λR a w h hst=>by
  have e:=h x (by simp [Op.operands]) _ hx
  have hv:=h y (by simp [Op.operands]) _ hy
  simp only [ez] at e
  obtain⟨hc,ho1⟩:=hq R _ hv
  obtain⟨m,⟨cs,rfl,hcs⟩,hk⟩:=hst.eF hj
  have hh:=(je.base hk).get
  have hlen:=bV.length hc
  have hlen2:=bV.length hcs
  obtain⟨w',hr,hb⟩:=sD (P:=P) (off:=off) hu hz hh om ho1 om (λk _=>sM)
  refine⟨(),R,w',trivial,Fz.le_refl R,St.shut hj ⟨_,rfl,Cs.gN hcs hc⟩ (je.to (Fz.le_refl R) (λx hx=>hb R x hx) hk),?_⟩
  simp [execOp,e,Instr.storeAt,Instr.sureAddr,hr]) (λe z hz=>(hp e z hz).imp id λh b _=>h b) (λ_ _=>k) hkb
end
def Tr (P:Program) (f:FuncId) (vs:List VP) (pre:List As) {γ:Type} (ok:γ->Prop) (ret:γ->VP) (post:γ->List As):Prop:=
 ∀ (R:Fz) (F:List As) (w:World) (us:List Value),Cs.h R vs us->St R (pre++F) w->Calls P f us.toArray w λe w'=>∃ g R' v,ok g/\R.le R'/\e = .returned v/\(ret g).p R' v/\St R' (post g++F) w'
def Pt (P:Program) (f:FuncId) (vs:List VP) (ret:VP):Prop:=
 ∀ (R:Fz) (F:List As) (w:World) (us:List Value),Cs.h R vs us->St R F w->Calls P f us.toArray w λe w'=>∃ R' v,R.le R'/\e = .returned v/\ret.p R' v/\St R' F w'
theorem Pt.tr {P:Program} {f:FuncId} {vs:List VP} {ret:VP} (h:Pt P f vs ret):Tr P f vs [] (γ:=Unit) (λ_=>True) (λ_=>ret) (λ_=>[]):=λR F w us hu hs=>
 (h R F w us hu hs).mono λ_ _ ⟨R',v,h1,h2,h3,h4⟩=>⟨(),R',v,trivial,h1,h2,h3,h4⟩
theorem Tr.pt {P:Program} {f:FuncId} {vs:List VP} {ret:VP} (h:Tr P f vs [] (γ:=Unit) (λ_=>True) (λ_=>ret) (λ_=>[])):Pt P f vs ret:=λR F w us hu hs=>
 (h R F w us hu hs).mono λ_ _ ⟨_,R',v,_,h1,h2,h3,h4⟩=>⟨R',v,h1,h2,h3,h4⟩
def fx (P:Program) (f:FuncId):Bool:=match P.funcs[f]? with
 | some fn => fn.name != "runtime.NumGoroutine" && fn.body.isSome
 | none=>false
theorem xQ {P:Program} {f:FuncId} (h:fx P f=true) (args:Array Value) (w:World):(callFunc f args).run P w = .ok (.enter f args) w:=by
 unfold fx at h
 cases e:P.funcs[f]? with
 | none=>rw [e] at h;cases h
 | some fn=>
  rw [e] at h
  simp only [Bool.and_eq_true,bne_iff_ne,ne_eq] at h
  unfold callFunc
  simp only [Sem.run_bind,run_program,Result.andThen_ok,e]
  have h2:fn.body.isNone=false:=by cases hb:fn.body <;> simp_all
  simp [h.1,h2]
section
variable {P:Program} {ops:Array Oper} {n:Nat} {dr:Bool} {R0:Fz} {K:KU} {E:Env} {l:List As} {pend:List (Nat×(List As->Prop))} {rest:List (Nat×Bool)} {i d:Nat}
variable {T:TypeId} {ps:String} {af:Array Edge} {g:Option (Nat×Bool)} {x y:Operand}
def opvs (E:Env):List Operand->Option (List VP)
 | []=>some []
 | x::xs=>match opv E x,opvs E xs with
  | some p,some ps=>some (p::ps)
  | _,_=>none
theorem iE {R:Fz} {a:Act}:∀ {xs:List Operand} {vs:List VP},(∀ x∈xs,∀ p,opv E x=some p->p.p R (a.eval x))->opvs E xs=some vs->Cs.h R vs (xs.map a.eval)
 | [],vs,_,h=>by simp [opvs] at h;subst h;exact .nil
 | x::xs,vs,hx,h=>by
  simp only [opvs] at h
  cases e1:opv E x with
  | none=>rw [e1] at h;cases h
  | some p=>
   cases e2:opvs E xs with
   | none=>rw [e1,e2] at h;cases h
   | some qs=>
    rw [e1,e2] at h
    cases h
    exact .cons (hx x (List.mem_cons_self ..) p e1) (iE (λy hy=>hx y (List.mem_cons_of_mem _ hy)) e2)
theorem me {o:Oper} {c:Call} {f:FuncId} {cap fst:Array Value} {R:Fz} {a:Act} {w:World} {Q:Exit->Act->World->Prop} {K:Act->World->Prop} (hop:o.op = .call c) (hw:Region.wanted o (yielded ops a.tmps)=true)
  (hc:fx P f=true) {x:Operand} (hcx:c.callee = .value x) (hx:a.eval x = .func (.func f) fst cap)
  (h:Calls P f ((fst.toList++c.args.toList.map a.eval++cap.toList).toArray) w λe w'=>∃ v,e = .returned v/\K (a.put o.dst v) w'):runs P ops o a w K Q:=by
 unfold runs
 rw [if_pos hw]
 unfold Oper.wp
 have hr:(execOp a.eval o).run P w = .ok (.enter f ((fst.toList++c.args.toList.map a.eval++cap.toList).toArray)) w:=by
  have e:(fst++c.args.map a.eval)++cap=(fst.toList++c.args.toList.map a.eval++cap.toList).toArray:=by apply Array.ext';simp
  simp only [execOp,hop,resolve,hcx,hx,Deferred.ofValue,invoke,Sem.run_bind,Sem.run_pure,Result.andThen_ok,xQ hc,e]
 rw [hr,Oper.upon_enter]
 exact h.mono λe w' ⟨v,he,hk⟩=>by subst he;exact hk
theorem Dv.call {f:FuncId} {as:Array Operand} {ts:Array TypeId} {vs:List VP} {ret:VP} (ho:opAt ops.toList i=some ⟨some d,.call ⟨.value (.func f),as,ts⟩,T,ps,af,g⟩) (hg:fZ ops E g)
  (hc:fx P f=true) (hv:opvs E as.toList=some vs) (ht:Pt P f vs ret) (k:Dv P ops n dr R0 K ((d,ret)::E) l ((i,tt)::pend) rest):Dv P ops n dr R0 K E l pend ((i,false)::rest):=
 Dv.mg tt ret ho (λR a w l _ _ hs _ hst K Q hk=>by
  refine me (R:=R) (f:=f) (cap:=#[]) (fst:=#[]) rfl (j9 hs hg) hc rfl rfl ?_
  have:=iE (λx hx p hp=>hs.op (by simp [Op.operands,Call.operands];exact .inr (by simpa using hx)) hp) hv
  refine(ht R l w _ (by simpa using this) hst).mono ?_
  rintro e w' ⟨R',v,hR,he,hv,hst'⟩
  exact⟨v,he,hk R' v w' hR hv hst'⟩) trivial k
theorem Dv.callB {f:FuncId} {as:Array Operand} {ts:Array TypeId} {vs:List VP} {pre F:List As} {γ:Type} {ok:γ->Prop} {ret:γ->VP} {post:γ->List As} {dst:Option Nat} (ho:opAt ops.toList i=some ⟨dst,.call ⟨.value (.func f),as,ts⟩,T,ps,af,g⟩) (hg:fZ ops E g)
  (hc:fx P f=true) (hv:opvs E as.toList=some vs) (ht:Tr P f vs pre ok ret post) (hl:l.Perm (pre++F))
  (hp:dr=true->∀ z∈pend,((Region.before ops).getD i 0).testBit z.1=true\/∀ b,ok b->z.2 (post b++F))
  (k:∀ b,ok b->Dv P ops n dr R0 K (Sp.ext E dst (ret b)) (post b++F) pend rest) (hkb:K.kZ E l pend ((i,true)::rest):=by first | exact trivial | assumption):Dv P ops n dr R0 K E l pend ((i,true)::rest):=
 .kZ _ ok ret (λb=>post b++F) (fC ho) (λR a w _ _ hs hst K Q hk=>by
  refine me (R:=R) (f:=f) (cap:=#[]) (fst:=#[]) rfl (j9 hs hg) hc rfl rfl ?_
  have:=iE (λx hx p hp=>hs.op (by simp [Op.operands,Call.operands];exact .inr (by simpa using hx)) hp) hv
  refine(ht R F w _ (by simpa using this) (St.fY hl hst)).mono ?_
  rintro e w' ⟨b,R',v,hb,hR,he,hv,hst'⟩
  exact⟨v,he,hk b R' v w' hb hR hv hst'⟩) hp k hkb
end
def WP (P:Program) (n:Nat) (R0:Fz) (c:Code) (Q:Exit->Act->World->Prop) (E:Env) (l:List As):Prop:=∀ (R:Fz) (a:Act) (w:World),R0.le R->od n R a E->St R l w->c.wp P Q a w
section
variable {P:Program} {n:Nat} {R0:Fz} {Q:Exit->Act->World->Prop} {E:Env} {l:List As}
theorem WP.qB {id:Nat} {ops:Array Oper} (c:List (Nat×Bool)) (hc:pZ ops n c=true) (h:Dv P ops n false R0 (KU.of n R0 (Q .normal)) E l [] c):WP P n R0 (.region id ops false) Q E l:=
 λ_ _ _ h0 ha hs=>An c hc h h0 ha hs
theorem WP.Gb {id:Nat} {ops:Array Oper} (hm:P.follows .mixedOrders=true) (c:List (Nat×Bool)) (hc:chk ops n c=true) (h:Dv P ops n true R0 (KU.of n R0 (Q .normal)) E l [] c):WP P n R0 (.region id ops true) Q E l:=
 λ_ _ _ h0 ha hs=>AX c hm hc h h0 ha hs
theorem WP.seq {x y:Code} (h:WP P n R0 x (Exit.then (y.wp P Q) Q) E l):WP P n R0 (.seq x y) Q E l:=λR a w h0 ha hs=>wp_seq (h R a w h0 ha hs)
theorem WP.skip (h:∀ R a w,R0.le R->od n R a E->St R l w->Q .normal a w):WP P n R0 .skip Q E l:=λR a w h0 ha hs=>wp_skip (h R a w h0 ha hs)
theorem WP.exit {id:Nat} (h:∀ R a w,R0.le R->od n R a E->St R l w->Q (.exit id) a w):WP P n R0 (.exit id) Q E l:=λR a w h0 ha hs=>wp_exit (h R a w h0 ha hs)
theorem WP.block {id:Nat} {c:Code} (h:WP P n R0 c (Exit.inBlock id Q) E l):WP P n R0 (.block id c) Q E l:=λR a w h0 ha hs=>wp_block (h R a w h0 ha hs)
theorem od.opv {R:Fz} {a:Act} (ha:od n R a E) {x:Operand} {p:VP} (h:opv E x=some p):p.p R (a.eval x):=by
 cases x with
 | tmp t=>exact ha.2.2 t p h
 | const v=>simp only [Sp.opv,Option.some.injEq] at h;subst h;rfl
 | global g=>simp only [Sp.opv,Option.some.injEq] at h;subst h;rfl
 | func f=>simp only [Sp.opv,Option.some.injEq] at h;subst h;rfl
theorem WP.cond {x:Operand} {c1 c2:Code} {b:Bool} (hx:opv E x=some (eq (.bool b))) (h1:b=true->WP P n R0 c1 Q E l) (h2:b=false->WP P n R0 c2 Q E l):WP P n R0 (.cond x c1 c2) Q E l:=
 λR a w h0 ha hs=>wp_cond_split (ha.opv hx) (λe=>h1 e R a w h0 ha hs) (λe=>h2 e R a w h0 ha hs)
theorem od.fG {R:Fz} {a:Act} {E':Env} (ha:od n R a E) (h:∀ t p,find E' t=some p->find E t=some p):od n R a E':=⟨ha.1,ha.2.1,λt p k=>ha.2.2 t p (h t p k)⟩
theorem dD:∀ t p,find [] t=some p->find E t=some p:=λ_ _ h=>by cases h
theorem aH {E':Env} {t:Nat} {p:VP} (h:find E t=some p) (k:∀ t p,find E' t=some p->find E t=some p):∀ s q,find ((t,p)::E') s=some q->find E s=some q:=λs q hq=>by
 simp only [find] at hq
 split at hq
 ·rename_i e;have:=Nat.eq_of_beq_eq_true e;subst this;rw [h];exact hq
 ·exact k s q hq
theorem WP.fG {c:Code} {E':Env} (hE:∀ t p,find E' t=some p->find E t=some p) (h:WP P n R0 c Q E' l):WP P n R0 c Q E l:=λR a w h0 ha hs=>h R a w h0 (ha.fG hE) hs
theorem WP.perm {c:Code} {l':List As} (hl:l.Perm l') (h:WP P n R0 c Q E l'):WP P n R0 c Q E l:=λR a w h0 ha hs=>h R a w h0 ha (hs.fY hl)
theorem WP.drop {c:Code} {A:As} (h:WP P n R0 c Q E l):WP P n R0 c Q E (A::l):=λR a w h0 ha hs=>h R a w h0 ha hs.drop
theorem CI {c:Code} (J:Nat->Act->World->Prop) (round:∀ k a w,J k a w->c.wp P (Exit.then (λa' w'=>∃ k',k'<k/\J k' a' w') Q) a w) {k:Nat} {a:Act} {w:World} (h:J k a w):(Code.loop c).wp P Q a w:=by
 intro b ks cs
 have key:∀ n a w,J n a w->∃ e a' w',Q e a' w'/\Arrives P (lone (b.at a (.code c::.inLoop c::ks)) cs w) b ks cs e a' w':=by
  intro n
  induction n using Nat.strongRecOn with
  | _ n ih=>
   intro a w hI
   obtain⟨e,a₁,w₁,hq,harr⟩:=round n a w hI b (.inLoop c::ks) cs
   cases e with
   | normal=>
    obtain⟨m,hlt,hI₁⟩:=hq
    obtain⟨e₂,a₂,w₂,hq₂,harr₂⟩:=ih m hlt a₁ w₁ hI₁
    exact⟨e₂,a₂,w₂,hq₂,.of_steps (Steps.trans harr (.one step_inLoop)) harr₂⟩
   | exit id=>exact⟨_,a₁,w₁,hq,.pass (x:=.inLoop c) rfl (λ_ _=>.inl sM) harr⟩
   | goto l=>exact⟨_,a₁,w₁,hq,.pass (x:=.inLoop c) rfl (λ_ _=>.inl sM) harr⟩
   | ret=>exact⟨_,a₁,w₁,hq,.pass (x:=.inLoop c) rfl (λ_ _=>.inl sM) harr⟩
   | panic ch=>exact⟨_,a₁,w₁,hq,.pass (x:=.inLoop c) rfl (λ_ _=>.inl sM) harr⟩
   | outgrown=>exact⟨_,a₁,w₁,hq,.pass (x:=.inLoop c) rfl (λ_ _=>.inl sM) harr⟩
 obtain⟨e,a',w',hq,harr⟩:=key _ a w h
 exact⟨e,a',w',hq,.of_steps (.one step_loop) harr⟩
def qt (n:Nat) (R0:Fz) {β:Type} (C:Nat->β->Prop) (Eb:β->Env) (lb:β->List As) (k:Nat) (a:Act) (w:World):Prop:=∃ k',k'<k/\∃ b R,C k' b/\R0.le R/\od n R a (Eb b)/\St R (lb b) w
theorem WP.loop {β:Type} (C:Nat->β->Prop) (Eb:β->Env) (lb:β->List As) {c:Code} (round:∀ k b,C k b->WP P n R0 c (Exit.then (qt n R0 C Eb lb k) Q) (Eb b) (lb b))
  {k:Nat} {b:β} (h:C k b):WP P n R0 (.loop c) Q (Eb b) (lb b):=λR a w h0 ha hs=>
 CI (λk a w=>∃ b R,C k b/\R0.le R/\od n R a (Eb b)/\St R (lb b) w) (λk a w ⟨b,R,hC,h0,ha,hs⟩=>round k b hC R a w h0 ha hs) ⟨b,R,h,h0,ha,hs⟩
theorem qt.mk {β:Type} {C:Nat->β->Prop} {Eb:β->Env} {lb:β->List As} {k:Nat} (k':Nat) (b:β) (hk:k'<k) (hC:C k' b) (hE:∀ t p,find (Eb b) t=some p->find E t=some p) (hl:l.Perm (lb b)):
  ∀ R a w,R0.le R->od n R a E->St R l w->qt n R0 C Eb lb k a w:=λR _ _ h0 ha hs=>⟨k',hk,b,R,hC,h0,ha.fG hE,hs.fY hl⟩
def qH (R0:Fz) {γ:Type} (ok:γ->Prop) (ret:γ->VP) (post:γ->List As) (F:List As) (e:Ending) (w':World):Prop:=∃ g R' v,ok g/\R0.le R'/\e = .returned v/\(ret g).p R' v/\St R' (post g++F) w'
variable {fn:Func} {γ:Type} {ok:γ->Prop} {ret:γ->VP} {post:γ->List As} {F:List As}
def Hold (n:Nat) (E:Env) (l:List As) (t:Nat) (p:VP):Prop:=∀ R a w,od n R a E->St R l w->p.p R (Act.get a t)
theorem hold {t:Nat} {p:VP} (h:find E t=some p):Hold n E l t p:=λ_ _ _ ha _=>ha.2.2 t p h
def enum:Nat->List VP->Env
 | _,[]=>[]
 | i,p::ps=>(i,p)::enum (i+1) ps
theorem w3:∀ {ps:List VP} {us:List Value} {i t:Nat} {p:VP} {R:Fz} (_:Cs.h R ps us),find (enum i ps) t=some p->∃ u,i<=t/\us[t-i]? = some u/\p.p R u
 | [],_,_,_,_,_,_,h=>by cases h
 | q::ps,us,i,t,p,R,hc,h=>by
  cases hc with
  | cons h1 h2=>
   rename_i u us
   simp only [enum,find] at h
   split at h
   ·rename_i e
    have:=Nat.eq_of_beq_eq_true e
    subst this
    cases h
    exact⟨u,Nat.le_refl _,sM,h1⟩
   ·obtain⟨v,h3,h4,h5⟩:=w3 h2 h
    refine⟨v,om,?_,h5⟩
    rw [show t-i=(t-(i+1))+1 by omega]
    simpa using h4
theorem Tr.body {f:FuncId} {c:Code} {vs:List VP} {pre:List As} (hf:P.funcs[f]? = some fn) (hb:fn.body=some c) (hn:fn.ntmps=n) (hlen:vs.length<=n)
  (h:∀ (R0:Fz) (F:List As),WP P n R0 c (bodyPost P fn (qH R0 ok ret post F)) (enum 0 vs) (pre++F)):Tr P f vs pre ok ret post:=λR F w us hu hs=>by
 refine calls_of_wp (c:=c) hf hb ?_
 refine h R F R _ w (Fz.le_refl R) ⟨?_,rfl,λt p hp=>?_⟩ hs
 ·have:=bV.length hu
  simp [hn];omega
 ·obtain⟨u,_,h2,h3⟩:=w3 hu hp
  have hlt:t<us.length:=by
   rcases Nat.lt_or_ge t us.length with k | k
   ·exact k
   ·simp [List.getElem?_eq_none k] at h2
  have e:us[t]=u:=by simpa [gE hlt] using h2
  simp only [Act.get,Array.getD_eq_getD_getElem?]
  rw [Array.getElem?_append_left (by simpa using hlt)]
  simpa [gE hlt,e] using h3
end
section
variable {P:Program} {R:Fz} {w:World}
def plc (P:Program) (fs:Array Field):List (Nat×Nat):=fs.toList.map λf=>(f.offset,P.cellsOf f.type)
def DL (P:Program) (fs:Array Field):Bool:=fs.toList.all λf=>(P.info? f.type).isSome
def kY (P:Program) (t:TypeId):Bool:=match P.underlying t with | some (.struct fs)=>DL P fs | _=>false
theorem Et {t:TypeId} (h:(P.info? t).isSome=true):(sizeOf t).run P w = .ok (P.cellsOf t) w:=by
 cases e:P.info? t with
 | none=>rw [e] at h;cases h
 | some i=>simp [sizeOf,typeInfo,e,Program.cellsOf]
theorem yD {α β:Type} (f:α->Sem β) (g:α->β):∀ (l:List α),(∀ x∈l,∀ w,(f x).run P w = .ok (g x) w)->∀ w,(l.mapM f).run P w = .ok (l.map g) w
 | [],_,w=>sM
 | x::l,h,w=>by
  rw [List.mapM_cons]
  simp only [Sem.run_bind,h x (List.mem_cons_self ..),Result.andThen_ok,yD f g l (λy hy=>h y (List.mem_cons_of_mem _ hy))]
  simp
theorem run_places {fs:Array Field} (h:DL P fs=true):(fs.mapM λf=>do pure (f.offset,<- sizeOf f.type):Sem (Array (Nat×Nat))).run P w = .ok (plc P fs).toArray w:=by
 have e:(fs.mapM λf=>do pure (f.offset,<- sizeOf f.type):Sem (Array (Nat×Nat)))=List.toArray <$> (fs.toList.mapM λf=>do pure (f.offset,<- sizeOf f.type)):=by
  rw [Array.mapM_eq_mapM_toList]
 rw [e]
 have:=yD (P:=P) (λf:Field=>(do pure (f.offset,<- sizeOf f.type):Sem (Nat×Nat))) (λf=>(f.offset,P.cellsOf f.type)) fs.toList (λf hf w=>by
  have:=List.all_eq_true.1 h f hf
  simp [Et this]) w
 simp only [Sem.run_map,this,Result.andThen_ok]
 rfl
def fillC (pl:Nat->Option (Nat×Nat)):Cs->List (Nat×Cs)->Option Cs
 | ps,[]=>some ps
 | ps,(i,qs)::r=>match pl i with
  | none=>none
  | some (off,size)=>if qs.length≠size\/off+qs.length>ps.length then none else fillC pl (oO ps off qs) r
theorem tB:∀ (vs:List Value) (off:Nat) (c:List Value) (k:Nat),off+k+vs.length<=c.length->
  (vs.zipIdx k).foldl (λ(cs:Array Value) (x:Value×Nat)=>cs.setIfInBounds (off+x.2) x.1) c.toArray=(gN c (off+k) vs).toArray
 | [],off,c,k,_=>by simp [gN]
 | v::vs,off,c,k,h=>by
  simp only [List.length_cons] at h
  simp only [List.zipIdx_cons,List.foldl_cons]
  have e:c.toArray.setIfInBounds (off+k) v=(c.set (off+k) v).toArray:=sM
  rw [e,tB vs off (c.set (off+k) v) (k+1) (by simp;omega),tG om]
  simp [Nat.add_assoc]
theorem w9 {place:Nat->Option (Nat×Nat)}:∀ {parts:List (Nat×Value)} {pcs:List (Nat×Cs)} {ps:Cs} {cs:List Value} {qs:Cs},
  bV (λ(x:Nat×Cs) (y:Nat×Value)=>x.1=y.1/\Cs.h R x.2 y.2.cells.toList) pcs parts->Cs.h R ps cs->fillC place ps pcs=some qs->∃ us:List Value,Instr.fill place cs.toArray parts=some us.toArray/\Cs.h R qs us:=by
 intro parts pcs ps cs qs h hc hf
 induction h generalizing ps cs with
 | nil=>simp only [fillC,Option.some.injEq] at hf;subst hf;exact⟨cs,by simp [Instr.fill],hc⟩
 | cons h1 h2 ih=>
  rename_i x y l l'
  obtain⟨i,q⟩:=x
  obtain⟨j,v⟩:=y
  obtain⟨e,hq⟩:=h1
  simp only at e hq
  subst e
  simp only [fillC] at hf
  cases hp:place i with
  | none=>rw [hp] at hf;cases hf
  | some os=>
   obtain⟨off,size⟩:=os
   rw [hp] at hf
   simp only at hf
   split at hf
   ·cases hf
   ·rename_i hn
    have hl:=bV.length hq
    have hl2:=bV.length hc
    have hs:v.cells.toList.length=v.cells.size:=sM
    obtain⟨us,h3,h4⟩:=ih (Cs.gN (off:=off) hc hq) hf
    refine⟨us,?_,h4⟩
    simp only [Instr.fill,hp]
    rw [if_neg (by simp;omega)]
    have hz:=tB v.cells.toList off cs 0 om
    simp only [Nat.add_zero] at hz
    rw [<- h3,<- hz,<- Array.foldl_toList,Array.toList_zipIdx]
theorem bV.zip {ru:List Nat} {vs:List Value} {css:List Cs} (h:bV (λq (v:Value)=>Cs.h R q v.cells.toList) css vs) (hl:ru.length=css.length):
  bV (λ(x:Nat×Cs) (y:Nat×Value)=>x.1=y.1/\Cs.h R x.2 y.2.cells.toList) (ru.zip css) (ru.zip vs):=by
 induction h generalizing ru with
 | nil=>cases ru <;> first | exact .nil | (simp at hl)
 | cons h1 _ ih=>
  cases ru with
  | nil=>simp at hl
  | cons i ru=>exact .cons ⟨rfl,h1⟩ (ih (by simpa using hl))
theorem yH (z:Array Value):Cs.h R (z.toList.map eq) z.toList:=by
 generalize z.toList=us
 induction us with
 | nil=>exact .nil
 | cons u us ih=>exact .cons rfl ih
def Fz.plus (R:Fz) (m:Mem):Fz:=⟨λb o=>R.mem b o\/(b,o)∈m,R.w0⟩
theorem Fz.mS (R:Fz) (m:Mem):R.le (R.plus m):=⟨rfl,λ_ _ h=>.inl h⟩
theorem St.freeze {m:Mem} {l:List As} (h:je R m l w):St (R.plus m) l w:=
 je.to (m:=m) (m':=[]) (R.mS m) (λx hx=>by simpa [Fz.plus] using hx.yN (m:=m) (x:=x)) h
end
section
variable {P:Program} {ops:Array Oper} {n:Nat} {dr:Bool} {R0:Fz} {K:KU} {E:Env} {l:List As} {pend:List (Nat×(List As->Prop))} {rest:List (Nat×Bool)} {i d:Nat}
variable {T:TypeId} {ps:String} {af:Array Edge} {g:Option (Nat×Bool)} {x y:Operand}
theorem rf (f:Operand->Value):∀ parts:List (Nat×Operand),(parts.map (·.1)).zip ((parts.map (·.2)).map f)=parts.map (λp=>(p.1,f p.2))
 | []=>rfl
 | p::ps=>by simp only [List.map_cons,List.zip_cons_cons,rf f ps]
def rQ:List VP->List Cs->Prop
 | [],[]=>True
 | p::ps,q::qs=>ma p q/\rQ ps qs
 | _,_=>False
theorem pS {R:Fz}:∀ {ps:List VP} {qs:List Cs} {vs:List Value},rQ ps qs->Cs.h R ps vs->bV (λq (v:Value)=>Cs.h R q v.cells.toList) qs vs
 | [],[],_,_,h=>by cases h;exact .nil
 | p::ps,q::qs,_,h,hc=>by
  cases hc with
  | cons h1 h2=>exact .cons (h.1 R _ h1).1 (pS h.2 h2)
 | [],_::_,_,h,_=>h.elim
 | _::_,[],_,h,_=>h.elim
theorem Dv.lD {t:TypeId} {parts:List (Nat×Operand)} {fs:Array Field} {z:Value} {vs:List VP} {css:List Cs} {qs:Cs} (ho:opAt ops.toList i=some ⟨some d,.build t parts.toArray,T,ps,af,g⟩) (hg:fZ ops E g)
  (hu:P.underlying t=some (.struct fs)) (hpt:kY P t=true) (hz:mz P t=some z) (hv:opvs E (parts.map (·.2))=some vs) (hcs:rQ vs css) (hlen:css.length=parts.length)
  (hr:fillC (λj=>(plc P fs)[j]?) (z.cells.toList.map eq) ((parts.map (·.1)).zip css)=some qs) (k:Dv P ops n dr R0 K ((d,agg qs)::E) l ((i,tt)::pend) rest):Dv P ops n dr R0 K E l pend ((i,false)::rest):=
 have hpo:DL P fs=true:=by unfold kY at hpt;rw [hu] at hpt;exact hpt
 Dv.mg _ _ ho (eV.pure hg λR a w h=>by
  have h1:=iE (a:=a) (R:=R) (λx hx p hp=>h x (by simp [Op.operands];exact(by simpa using hx)) p hp) hv
  have h2:=bV.zip (ru:=parts.map (·.1)) (pS hcs h1) (by simp [hlen])
  obtain⟨us,h3,h4⟩:=w9 h2 (yH z.cells) hr
  refine⟨_,⟨us,rfl,h4⟩,?_⟩
  rw [rf] at h3
  simp only [Array.toArray_toList] at h3
  have e2:(λi:Nat=>(plc P fs).toArray[i]?)=λj=>(plc P fs)[j]?:=by funext j;simp
  simp only [execOp,Instr.build,Sem.run_bind,lh hz,Result.andThen_ok,underlying,run_program,hu,Sem.run_pure,run_places hpo,e2]
  simp only [List.map_toArray,h3]
  rfl) trivial k
theorem Dv.lit {α:Type} {t e:TypeId} {m:Nat} {parts:List (Nat×Operand)} {ed:TypeDesc} {z:Value} {vs:List VP} {css:List Cs} (Kd:Kd α) (xs:List α) (ho:opAt ops.toList i=some ⟨some d,.buildSlice t m parts.toArray,T,ps,af,g⟩) (hg:fZ ops E g)
  (hu:P.underlying t=some (.slice e)) (hv2:P.underlying e=some ed) (hz2:P.cellsOf e=Kd.sz) (hz:mz P e=some z) (hzs:z.cells.size=Kd.sz) (h0:0<m*Kd.sz) (hbig:m*Kd.sz<=16777216) (hv:opvs E (parts.map (·.2))=some vs) (hcs:rQ vs css) (hlen:css.length=parts.length) (hm:xs.length=m)
  (hr:fillC (λj=>some (j*Kd.sz,Kd.sz)) ((List.range (m*Kd.sz)).map (λj=>eq (z.cells[j%Kd.sz]!))) ((parts.map (·.1)).zip css)=some (xs.flatMap Kd.enc)) (k:Dv P ops n dr R0 K ((d,sl Kd xs)::E) l ((i,tt)::pend) rest):Dv P ops n dr R0 K E l pend ((i,false)::rest):=
 Dv.mg _ _ ho (eV.val hg λR a w l h _ hst=>by
  have h1:=iE (a:=a) (R:=R) (λx hx p hp=>h x (by simp [Op.operands];exact(by simpa using hx)) p hp) hv
  have h2:=bV.zip (ru:=parts.map (·.1)) (pS hcs h1) (by simp [hlen])
  have hzr:Cs.h R ((List.range (m*Kd.sz)).map (λj=>eq (z.cells[j%Kd.sz]!))) ((List.range (m*Kd.sz)).map (λj=>z.cells[j%Kd.sz]!)):=by
   generalize List.range (m*Kd.sz)=js
   induction js with
   | nil=>exact .nil
   | cons j js ih=>exact .cons rfl ih
  obtain⟨us,h3,h4⟩:=w9 h2 hzr hr
  rw [rf] at h3
  have hal:je R [(w.heap.size,.cells us.toArray e)] l { w with heap:=w.heap.push (.cells us.toArray e) }:=
   je.to (m:=[]) (m':=[(w.heap.size,.cells us.toArray e)]) (Fz.le_refl R) (λx hx=>hx.alloc _) hst
  have hl:=bV.length h4
  rw [cO,hm] at hl
  refine⟨R.plus [(w.heap.size,.cells us.toArray e)],.slice (some ⟨w.heap.size,0,none⟩) m m,{ w with heap:=w.heap.push (.cells us.toArray e) },R.mS _,?_,St.freeze hal,?_⟩
  ·refine .inr ⟨w.heap.size,0,m,e,(0,0),us.toArray,by rw [hm],om,.inr (List.mem_cons_self ..),?_,?_⟩
   ·simp;omega
   ·have e0:(us.toArray.toList.drop 0).take (xs.length*Kd.sz)=us:=by
     rw [List.drop_zero,hm]
     exact List.take_of_length_le (by simp;omega)
    rw [e0]
    exact Cs.mono (R.mS _) h4
  ·have e3:¬ (m*Kd.sz>2 ^ 24):=om
   have e4:¬ (m*Kd.sz=0):=om
   have e5:((Array.range (m*Kd.sz)).map (λj=>z.cells[j%z.cells.size]!))=((List.range (m*Kd.sz)).map (λj=>z.cells[j%Kd.sz]!)).toArray:=by
    rw [hzs];apply Array.ext';simp
   simp only [execOp,Instr.buildSlice,Sem.run_bind,underlying,run_program,hu,Sem.run_pure,Result.andThen_ok,run_sizeOf hv2 hz2,if_neg e3,if_neg e4,lh hz,Sem.run_ite,e5,List.map_toArray,h3,newRow,run_newObj]) trivial k
theorem Ci {t:TypeId} {s:BA} {w:World} (hu:P.underlying t=some .string) (a:Act) (h:a.eval x = .string s):(execOp a.eval ⟨some d,.call ⟨.builtin .len,#[x],#[t]⟩,T,ps,af,g⟩).run P w = .ok (.value (.int .i64 s.size)) w:=by
 simp [execOp,resolve,invoke,builtin,Builtin.len_,h,underlying,hu,goInt]
theorem Dv.lens {t:TypeId} {s:BA} (ho:opAt ops.toList i=some ⟨some d,.call ⟨.builtin .len,#[x],#[t]⟩,T,ps,af,g⟩) (hg:fZ ops E g) (hx:opv E x=some (eq (.string s))) (hu:P.underlying t=some .string)
  (k:Dv P ops n dr R0 K ((d,eq (.int .i64 s.size))::E) l ((i,tt)::pend) rest):Dv P ops n dr R0 K E l pend ((i,false)::rest):=
 Dv.mg _ _ ho (eV.pure hg λR a w h=>⟨_,rfl,Ci hu a (h x (by simp [Op.operands,Call.operands]) _ hx)⟩) trivial k
theorem wF {t e:TypeId} {ad:Option Addr} {m c:Nat} {w:World} (hu:P.underlying t=some (.slice e)) (a:Act) (h:a.eval x = .slice ad m c):(execOp a.eval ⟨some d,.call ⟨.builtin .len,#[x],#[t]⟩,T,ps,af,g⟩).run P w = .ok (.value (.int .i64 m)) w:=by
 simp [execOp,resolve,invoke,builtin,Builtin.len_,h,underlying,hu,goInt]
theorem Db {α:Type} {K:Kd α} {xs:List α} {R:Fz} {v:Value} (h:(sl K xs).p R v):∃ ad c,v = .slice ad xs.length c:=by
 rcases h with⟨a,c,e,e2⟩|⟨b,off,c,T,fr,cs,e,_⟩
 ·subst e2;exact⟨a,c,e⟩
 ·exact⟨_,_,e⟩
theorem Dv.jw {α:Type} {Kd:Kd α} {xs:List α} {t e:TypeId} (ho:opAt ops.toList i=some ⟨some d,.call ⟨.builtin .len,#[x],#[t]⟩,T,ps,af,g⟩) (hg:fZ ops E g) (hx:opv E x=some (sl Kd xs)) (hu:P.underlying t=some (.slice e))
  (k:Dv P ops n dr R0 K ((d,eq (.int .i64 xs.length))::E) l ((i,tt)::pend) rest):Dv P ops n dr R0 K E l pend ((i,false)::rest):=
 Dv.mg _ _ ho (eV.pure hg λR a w h=>by
  obtain⟨ad,c,e⟩:=Db (h x (by simp [Op.operands,Call.operands]) _ hx)
  exact⟨_,rfl,wF hu a e⟩) trivial k
theorem Dv.I8 {s t:TypeId} {sd:TypeDesc} {k1 k2:IntKind} {m:Int} (ho:opAt ops.toList i=some ⟨some d,.convert s t x,T,ps,af,g⟩) (hg:fZ ops E g) (hx:opv E x=some (eq (.int k1 m))) (hu:P.underlying s=some sd) (hv:P.underlying t=some (.int k2))
  (k:Dv P ops n dr R0 K ((d,eq (.int k2 (k2.wrap m)))::E) l ((i,tt)::pend) rest):Dv P ops n dr R0 K E l pend ((i,false)::rest):=
 Dv.mg _ _ ho (eV.pure hg λR a w h=>⟨_,rfl,by
  have e:=h x (by simp [Op.operands]) _ hx
  simp only [ez] at e
  simp [execOp,e,convert,underlying,hu,hv,Conv.intToInt]⟩) trivial k
def sub (s:BA) (lo hi:Int):BA:=s.extract lo.toNat hi.toNat
end
end Go.Sp
