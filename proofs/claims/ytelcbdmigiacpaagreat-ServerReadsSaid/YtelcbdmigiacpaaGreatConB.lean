import Derived.Test.YtelcbdmigiacpaaGreatConA
import Derived.Orders
set_option linter.all false
namespace Go.Sp
open Go
section
variable (P:Program) (ops:Array Oper) (n:Nat)
def zX (R:Fz) (a:Act) (E:Env) (ts:List Nat):Prop:=∀ t∈ts,∀ q,find E t=some q->q.p R (Act.get a t)
def runs (o:Oper) (a:Act) (w:World) (K:Act->World->Prop) (Q:Exit->Act->World->Prop):Prop:=
 if Region.wanted o (yielded ops a.tmps) then o.wp P a w K Q else K (a.put o.dst undef) w
def eV (o:Oper) (E:Env) (q:List As->Prop) (p:VP):Prop:=
 ∀ R a w l,a.tmps.size=n->a.defers=[]->zX R a E (o.looksAt ops)->q l->St R l w->
  ∀ K Q,(∀ R' v w',R.le R'->p.p R' v->St R' l w'->K (a.put o.dst v) w')->runs P ops o a w K Q
def iV (o:Oper) (E:Env) (l:List As) {γ:Type} (ok:γ->Prop) (p:γ->VP) (l':γ->List As):Prop:=
 ∀ R a w,a.tmps.size=n->a.defers=[]->zX R a E (o.looksAt ops)->St R l w->
  ∀ K Q,(∀ g R' v w',ok g->R.le R'->(p g).p R' v->St R' (l' g) w'->K (a.put o.dst v) w')->runs P ops o a w K Q
def ext (E:Env) (d:Option Nat) (p:VP):Env:=match d with | some d=>(d,p)::E | none=>E
structure KU where
 kZ:Env->List As->List (Nat×(List As->Prop))->List (Nat×Bool)->Prop
 fin:Env->List As->List (Nat×(List As->Prop))->Prop
def KU.of (n:Nat) (R0:Fz) (K:Act->World->Prop):KU:=⟨λ_ _ _ _=>True,λE l _=>∀ R a w,R0.le R->od n R a E->St R l w->K a w⟩
inductive Dv (dr:Bool) (R0:Fz) (K:KU):Env->List As->List (Nat×(List As->Prop))->List (Nat×Bool)->Prop
 | fin {E l pend}:K.fin E l pend->Dv dr R0 K E l pend []
 | ok {E l pend rest} {i:Nat} (o:Oper) (q:List As->Prop) (p:VP):ops[i]? = some o->eV P ops n o E q p->q l->Dv dr R0 K (ext E o.dst p) l ((i,q)::pend) rest->Dv dr R0 K E l pend ((i,false)::rest)
 | kZ {E l pend rest} {k:Nat} (o:Oper) {γ:Type} (ok:γ->Prop) (p:γ->VP) (l':γ->List As):ops[k]? = some o->iV P ops n o E l ok p l'->
   (dr=true->∀ x∈pend,((Region.before ops).getD k 0).testBit x.1=true\/∀ g,ok g->x.2 (l' g))->(∀ g,ok g->Dv dr R0 K (ext E o.dst (p g)) (l' g) pend rest)->K.kZ E l pend ((k,true)::rest)->Dv dr R0 K E l pend ((k,true)::rest)
 | Il {E l pend c} {γ:Type} (ok:γ->Prop) (l':γ->List As):(∀ R w,R0.le R->St R l w->∃ g R',ok g/\R.le R'/\St R' (l' g) w)->
   (dr=true->∀ x∈pend,∀ g,ok g->x.2 (l' g))->(∀ g,ok g->Dv dr R0 K E (l' g) pend c)->Dv dr R0 K E l pend c
 | ghe {E l pend c} {γ:Type} (ok:γ->Prop) (E':γ->Env) (l':γ->List As):dr=false->(∀ R a w,R0.le R->od n R a E->St R l w->∃ g R',ok g/\R.le R'/\od n R' a (E' g)/\St R' (l' g) w)->
   (∀ g,ok g->Dv dr R0 K (E' g) (l' g) pend c)->Dv dr R0 K E l pend c
end
end Go.Sp
namespace Go.Sp
open Go
def qX (ops:Array Oper) (i j:Nat):Bool:=((Region.before ops).getD j 0).testBit i
def upB (ops:Array Oper) (o:Oper):Nat:=o.after.toList.foldl (λs e=>if Region.binds .any e then s ||| 2 ^ e.on ||| (Region.before ops).getD e.on 0 else s) 0
def nR (ops:Array Oper):Bool:=(List.range ops.size).all λj=>match ops[j]? with
 | some o=>(Region.before ops).getD j 0==upB ops o&&o.after.all (λe=>!Region.binds .any e||decide (e.on<j))
 | none=>true
def lN (ops:Array Oper) (i:Nat):Option Nat:=(ops[i]?).bind (·.dst)
def looks (ops:Array Oper) (i:Nat):List Nat:=match ops[i]? with | some o=>o.looksAt ops | none=>[]
def CG (ops:Array Oper) (i j:Nat):Bool:=match lN ops i with | some d=>(looks ops j).contains d | none=>false
def rel (ops:Array Oper) (x y:Nat×Bool):Bool:=
 x.1 != y.1 && !qX ops y.1 x.1&&(!x.2||qX ops x.1 y.1)&&(match lN ops x.1 with | some d=>lN ops y.1 != some d | none=>true)&&(!(CG ops x.1 y.1||CG ops y.1 x.1)||qX ops x.1 y.1)
def chkOrd (ops:Array Oper):List (Nat×Bool)->Bool
 | []=>true
 | x::c=>c.all (λy=>rel ops x y) && !qX ops x.1 x.1&&chkOrd ops c
def chk (ops:Array Oper) (n:Nat) (c:List (Nat×Bool)):Bool:=
 nR ops&&chkOrd ops c&&(c.map (·.1)).length==ops.size&&(List.range ops.size).all (λi=>(c.map (·.1)).contains i)&&(c.map (·.1)).all (λi=>decide (i<ops.size))&&ops.all (λo=>match o.dst with | some d=>decide (d<n) | none=>true)
theorem sO {ops:Array Oper}:∀ {c:List (Nat×Bool)},chkOrd ops c=true->c.Pairwise (λx y=>rel ops x y=true)/\∀ x∈c,qX ops x.1 x.1=false
 | [],_=>⟨.nil,λ_ h=>by cases h⟩
 | x::c,h=>by
  simp only [chkOrd,Bool.and_eq_true,List.all_eq_true] at h
  obtain⟨⟨h1,h2⟩,h3⟩:=h
  obtain⟨k1,k2⟩:=sO h3
  refine⟨.cons h1 k1,λy hy=>?_⟩
  rcases List.mem_cons.1 hy with rfl | hy
  ·simpa using h2
  ·exact k2 y hy
theorem jt {ops:Array Oper} {x y:Nat×Bool} (h:rel ops x y=true):qX ops y.1 x.1=false/\(x.2=true->qX ops x.1 y.1=true)/\
  (∀ d,lN ops x.1=some d->lN ops y.1≠some d)/\(∀ d,lN ops x.1=some d->d∈looks ops y.1->qX ops x.1 y.1=true)/\(∀ d,lN ops y.1=some d->d∈looks ops x.1->qX ops x.1 y.1=true)/\x.1≠y.1:=by
 simp only [rel,Bool.and_eq_true,Bool.not_eq_true',Bool.or_eq_true,Bool.or_eq_false_iff,bne_iff_ne] at h
 obtain⟨⟨⟨⟨h0,h1⟩,h2⟩,h3⟩,h4⟩:=h
 refine⟨h1,λhx=>by simpa [hx] using h2,λd hd=>by simpa [hd] using h3,λd hd hl=>?_,λd hd hl=>?_,h0⟩
 ·rcases h4 with⟨h4,_⟩ | h4
  ·simp [CG,hd] at h4;exact absurd hl h4
  ·exact h4
 ·rcases h4 with⟨_,h4⟩ | h4
  ·simp [CG,hd] at h4;exact absurd hl h4
  ·exact h4
theorem wT (B:Nat->Nat) (p:Edge->Bool) (i:Nat):∀ (l:List Edge) (s:Nat),(l.foldl (λs e=>if p e then s ||| 2 ^ e.on ||| B e.on else s) s).testBit i=true↔
  s.testBit i=true\/∃ e∈l,p e=true/\(e.on=i\/(B e.on).testBit i=true)
 | [],s=>sM
 | e::l,s=>by
  simp only [List.foldl_cons]
  rw [wT B p i l]
  by_cases he:p e=true
  ·simp only [he,if_true,Nat.testBit_or,Bool.or_eq_true,Nat.testBit_two_pow,decide_eq_true_eq,List.mem_cons,exists_eq_or_imp,true_and]
   constructor
   ·rintro(((h | h) | h) | h)
    ·exact .inl h
    ·exact .inr (.inl (.inl h))
    ·exact .inr (.inl (.inr h))
    ·exact .inr (.inr h)
   ·rintro(h | (h | h) | h)
    ·exact .inl (.inl (.inl h))
    ·exact .inl (.inl (.inr h))
    ·exact .inl (.inr h)
    ·exact .inr h
  ·simp only [he,List.mem_cons,exists_eq_or_imp]
   simp
theorem nI {ops:Array Oper} (h:nR ops=true) {j:Nat} {o:Oper} (ho:ops[j]? = some o):
  (∀ i,qX ops i j=true↔∃ e∈o.after,Region.binds .any e=true/\(e.on=i\/qX ops i e.on=true))/\∀ e∈o.after,Region.binds .any e=true->e.on<j:=by
 have hj:=(Array.getElem?_eq_some_iff.1 ho).1
 have:=List.all_eq_true.1 h j (List.mem_range.2 hj)
 simp only [ho,Bool.and_eq_true,beq_iff_eq,Array.all_eq_true_iff_forall_mem,Bool.or_eq_true,Bool.not_eq_true',decide_eq_true_eq] at this
 refine⟨λi=>?_,λe he hb=>(this.2 e he).resolve_left (by simp [hb])⟩
 show((Region.before ops).getD j 0).testBit i=true↔_
 rw [this.1]
 unfold upB
 rw [wT (λk=>(Region.before ops).getD k 0) (λe=>Region.binds .any e) i]
 simp [qX]
structure PI where
 i:Nat
 o:Oper
 E:Env
 q:List As->Prop
 p:VP
section
variable {P:Program} {ops:Array Oper} {n:Nat} {Q:Exit->Act->World->Prop}
theorem mW {E:Env} {d:Option Nat} {p:VP} {t:Nat}:find (ext E d p) t=if d=some t then some p else find E t:=by
 cases d with
 | none=>simp [ext]
 | some d=>
  simp only [ext,find]
  split
  ·rename_i e;simp [Nat.eq_of_beq_eq_true e]
  ·rename_i e;have:=Nat.ne_of_beq_eq_false e;simp [this]
theorem pL {a:Act} {d:Option Nat} {v:Value} {t:Nat} (h:d≠some t):Act.get (a.put d v) t=Act.get a t:=by
 cases d with
 | none=>rfl
 | some d=>
  have:d≠t:=λe=>h (e ▸ rfl)
  simp [Act.get,Act.put,Array.getD_eq_getD_getElem?,Array.getElem?_setIfInBounds_ne this]
theorem oc {a:Act} {t:Nat} {v:Value} (h:t<a.tmps.size):Act.get (a.put (some t) v) t=v:=by rw [A7 h,if_pos rfl]
theorem vF {a:Act} {d:Option Nat} {v:Value}:(a.put d v).tmps.size=a.tmps.size:=by cases d <;> simp [Act.put]
theorem rz {a:Act} {d:Option Nat} {v:Value}:(a.put d v).defers=a.defers:=by cases d <;> rfl
theorem od.ext {R:Fz} {a:Act} {E:Env} {d:Option Nat} {v:Value} {p:VP} (h:od n R a E) (hd:∀ t,d=some t->t<n) (hp:p.p R v):od n R (a.put d v) (ext E d p):=by
 cases d with
 | none=>exact h
 | some d=>exact h.put (hd d rfl) hp
structure Inv (R0:Fz) (V:Env->List As->List (Nat×(List As->Prop))->List (Nat×Bool)->Prop) (R:Fz) (E:Env) (l:List As) (pend:List (Nat×(List As->Prop))) (pl:List PI) (c:List (Nat×Bool)) (listed:Array Bool) (a:Act) (w:World):Prop where
 sz:a.tmps.size=n
 df:a.defers=[]
 st:St R l w
 r0:R0.le R
 dv:V E l pend c
 DN:listed.size=ops.size
 un:∀ j,j<ops.size->(listed.getD j true=false↔j∈pl.map (·.i)\/j∈c.map (·.1))
 lt:∀ j,(j∈pl.map (·.i)\/j∈c.map (·.1))->j<ops.size
 closed:∀ j o,ops[j]? = some o->listed.getD j false=true->∀ e∈o.after,Region.binds .any e=true->listed.getD e.on false=true
 yq:∀ x∈pl,ops[x.i]? = some x.o/\eV P ops n x.o x.E x.q x.p/\x.q l/\(x.i,x.q)∈pend
 pw:(pl.map (λx=>(x.i,false))++c).Pairwise (λx y=>rel ops x y=true)
 Ho:∀ x∈pl.map (λx=>(x.i,false))++c,qX ops x.1 x.1=false
 env:∀ t,(∀ x∈pl,x.o.dst≠some t)->∀ q,find E t=some q->q.p R (Act.get a t)
 CQ:∀ x∈pl,∀ t∈x.o.looksAt ops,(∀ y∈pl,y.o.dst=some t->qX ops y.i x.i=false)->∀ q,find x.E t=some q->q.p R (Act.get a t)
 last:∀ x∈pl,∀ t,x.o.dst=some t->find E t=some x.p
 link:∀ x∈pl,∀ y∈pl,∀ t,x.o.dst=some t->t∈y.o.looksAt ops->qX ops x.i y.i=true->find y.E t=some x.p
variable {R0:Fz} {V:Env->List As->List (Nat×(List As->Prop))->List (Nat×Bool)->Prop} {K:Act->World->Prop} {R:Fz} {E:Env} {l:List As} {pend:List (Nat×(List As->Prop))} {pl:List PI} {c:List (Nat×Bool)} {listed:Array Bool} {a:Act} {w:World}
theorem lx {i:Nat} {o:Oper} (h:ops[i]? = some o):lN ops i=o.dst:=by simp [lN,h]
theorem pH {i:Nat} {o:Oper} (h:ops[i]? = some o):looks ops i=o.looksAt ops:=by simp [looks,h]
theorem Inv.move {i:Nat} {rest:List (Nat×Bool)} (o:Oper) (q:List As->Prop) (p:VP) (h:Inv (P:=P) (ops:=ops) (n:=n) R0 V R E l pend pl ((i,false)::rest) listed a w)
  (ho:ops[i]? = some o) (hok:eV P ops n o E q p) (hq:q l) (hdv:V (Sp.ext E o.dst p) l ((i,q)::pend) rest):
  Inv (P:=P) (ops:=ops) (n:=n) R0 V R (Sp.ext E o.dst p) l ((i,q)::pend) (pl++[⟨i,o,E,q,p⟩]) rest listed a w:=by
 have hcat:(pl++[(⟨i,o,E,q,p⟩:PI)]).map (λx=>(x.i,false))++rest=pl.map (λx=>(x.i,false))++(i,false)::rest:=sM
 have before:∀ y∈pl,rel ops (y.i,false) (i,false)=true:=λy hy=>
  (List.pairwise_append.1 h.pw).2.2 _ (List.mem_map.2 ⟨y,hy,rfl⟩) _ (List.mem_cons_self ..)
 have Ho:qX ops i i=false:=h.Ho (i,false) (List.mem_append_right _ (List.mem_cons_self ..))
 refine⟨h.sz,h.df,h.st,h.r0,hdv,h.DN,λj hj=>?_,λj hj=>?_,h.closed,λx hx=>?_,by rw [hcat];exact h.pw,by rw [hcat];exact h.Ho,λt ht r hr=>?_,λx hx t ht hn r hr=>?_,λx hx t hd=>?_,λx hx y hy t hd hl ha=>?_⟩
 ·rw [h.un j hj];simp [or_assoc]
 ·exact h.lt j (by simpa [or_assoc] using hj)
 ·rcases List.mem_append.1 hx with hx | hx
  ·obtain⟨a1,a2,a3,a4⟩:=h.yq x hx
   exact⟨a1,a2,a3,List.mem_cons_of_mem _ a4⟩
  ·simp only [List.mem_singleton] at hx;subst hx
   exact⟨ho,hok,hq,List.mem_cons_self ..⟩
 ·have hne:o.dst≠some t:=ht ⟨i,o,E,q,p⟩ (List.mem_append_right _ (List.mem_singleton.2 rfl))
  rw [mW,if_neg hne] at hr
  exact h.env t (λx hx=>ht x (List.mem_append_left _ hx)) r hr
 ·rcases List.mem_append.1 hx with hx | hx
  ·exact h.CQ x hx t ht (λy hy=>hn y (List.mem_append_left _ hy)) r hr
  ·simp only [List.mem_singleton] at hx;subst hx
   refine h.env t (λy hy hd=>?_) r hr
   have h1:=hn y (List.mem_append_left _ hy) hd
   have h2:=(jt (before y hy)).2.2.2.1 t (by rw [lx (h.yq y hy).1];exact hd) (by rw [pH ho];exact ht)
   simp only at h1 h2
   rw [h1] at h2;cases h2
 ·rcases List.mem_append.1 hx with hx | hx
  ·have h1:=(jt (before x hx)).2.2.1 t (by rw [lx (h.yq x hx).1];exact hd)
   rw [lx ho] at h1
   rw [mW,if_neg h1];exact h.last x hx t hd
  ·simp only [List.mem_singleton] at hx;subst hx
   rw [mW,if_pos hd]
 ·rcases List.mem_append.1 hx with hx | hx
  ·rcases List.mem_append.1 hy with hy | hy
   ·exact h.link x hx y hy t hd hl ha
   ·simp only [List.mem_singleton] at hy;subst hy
    exact h.last x hx t hd
  ·simp only [List.mem_singleton] at hx;subst hx
   rcases List.mem_append.1 hy with hy | hy
   ·have h1:=(jt (before y hy)).1
    simp only at h1 ha
    rw [h1] at ha;cases ha
   ·simp only [List.mem_singleton] at hy;subst hy
    simp only at ha
    rw [Ho] at ha;cases ha
end
end Go.Sp
namespace Go.Sp
open Go
section
variable {P:Program} {ops:Array Oper} {n:Nat} {Q:Exit->Act->World->Prop}
variable {R0:Fz} {V:Env->List As->List (Nat×(List As->Prop))->List (Nat×Bool)->Prop} {K:Act->World->Prop} {R:Fz} {E:Env} {l:List As} {pend:List (Nat×(List As->Prop))} {pl:List PI} {c:List (Nat×Bool)} {listed:Array Bool} {a:Act} {w:World}
theorem ji {j:Nat} (h:j∈Region.ready .any ops listed):listed.getD j true=false/\∃ o,ops[j]? = some o/\∀ e∈o.after,Region.binds .any e=true->listed.getD e.on false=true:=mem_ready.1 h
theorem my {j:Nat} (h:listed.getD j false=true):listed.getD j true=true:=by
 rcases Nat.lt_or_ge j listed.size with k | k
 ·simp [k] at h ⊢;exact h
 ·simp [k] at h
theorem Inv.Cw (hb:nR ops=true) (h:Inv (P:=P) (ops:=ops) (n:=n) R0 V R E l pend pl c listed a w) {j:Nat} (hj:j∈Region.ready .any ops listed):
  ∀ i,qX ops i j=true->listed.getD i false=true:=by
 obtain⟨_,o,ho,hdep⟩:=ji hj
 have key:∀ m j o,j<m->ops[j]? = some o->(∀ e∈o.after,Region.binds .any e=true->listed.getD e.on false=true)->∀ i,qX ops i j=true->listed.getD i false=true:=by
  intro m
  induction m with
  | zero=>intro j o hlt;omega
  | succ m ih=>
   intro j o hlt ho hdep i hi
   obtain⟨e,he,heb,hei⟩:=((nI hb ho).1 i).1 hi
   rcases hei with rfl | hei
   ·exact hdep e he heb
   ·have hl:=(nI hb ho).2 e he heb
    have hon:e.on<ops.size:=by have:=(Array.getElem?_eq_some_iff.1 ho).1;omega
    obtain⟨o',ho'⟩:∃ o',ops[e.on]? = some o':=⟨ops[e.on],Array.getElem?_eq_getElem hon⟩
    exact ih e.on o' om ho' (h.closed e.on o' ho' (hdep e he heb)) i hei
 exact key (j+1) j o om ho hdep
theorem oC {j k:Nat} (d:Bool) (hj:j<listed.size):(listed.setIfInBounds j true).getD k d=if k=j then true else listed.getD k d:=by
 by_cases e:k=j
 ·subst e;simp [hj]
 ·rw [if_neg e,getD_set_ne d (Ne.symm e)]
theorem Inv.vV (h:Inv (P:=P) (ops:=ops) (n:=n) R0 V R E l pend pl c listed a w) {j:Nat} (hj:j∈Region.ready .any ops listed):
  ∀ k o,ops[k]? = some o->(listed.setIfInBounds j true).getD k false=true->∀ e∈o.after,Region.binds .any e=true->(listed.setIfInBounds j true).getD e.on false=true:=by
 intro k o hk hl e he hb
 obtain⟨h0,oj,hoj,hdep⟩:=ji hj
 refine getD_set_true ?_
 have hjs:j<listed.size:=by rw [h.DN];exact(Array.getElem?_eq_some_iff.1 hoj).1
 rw [oC false hjs] at hl
 by_cases ek:k=j
 ·subst ek;rw [hoj] at hk;cases hk;exact hdep e he hb
 ·rw [if_neg ek] at hl;exact h.closed k o hk hl e he hb
theorem Inv.take (hb:nR ops=true) (hn:∀ i d,lN ops i=some d->d<n) (h:Inv (P:=P) (ops:=ops) (n:=n) R0 V R E l pend pl c listed a w) {x:PI} (hx:x∈pl) (hj:x.i∈Region.ready .any ops listed)
  (K':Act->World->Prop)
  (next:∀ R' a' w',Inv (P:=P) (ops:=ops) (n:=n) R0 V R' E l pend (pl.filter (λy=>y.i != x.i)) c (listed.setIfInBounds x.i true) a' w'->K' a' w'):runs P ops x.o a w K' Q:=by
 have hanc:=h.Cw hb hj
 have unl:∀ y∈pl,qX ops y.i x.i=false:=λy hy=>by
  cases e:qX ops y.i x.i with
  | false=>rfl
  | true=>
   have h1:=hanc _ e
   have h2:=(h.un y.i (h.lt _ (.inl (List.mem_map.2 ⟨y,hy,rfl⟩)))).2 (.inl (List.mem_map.2 ⟨y,hy,rfl⟩))
   rw [my h1] at h2;cases h2
 obtain⟨hox,hok,hq,_⟩:=h.yq x hx
 have hjs:x.i<listed.size:=by rw [h.DN];exact(Array.getElem?_eq_some_iff.1 hox).1
 have sub:(pl.filter (λy=>y.i != x.i)).Sublist pl:=List.filter_sublist ..
 have memf:∀ {y},y∈pl.filter (λy=>y.i != x.i)↔y∈pl/\y.i≠x.i:=by intro y;simp
 have subc:((pl.filter (λy=>y.i != x.i)).map (λy=>(y.i,false))++c).Sublist (pl.map (λy=>(y.i,false))++c):=(sub.map _).append_right _
 have ordered:∀ y∈pl,y.i≠x.i->rel ops (x.i,false) (y.i,false)=true\/rel ops (y.i,false) (x.i,false)=true:=by
  intro y hy hne
  have hp:=(List.pairwise_append.1 h.pw).1
  rw [List.pairwise_map] at hp
  obtain⟨s,t,rfl⟩:=List.append_of_mem hx
  rw [List.pairwise_append,List.pairwise_cons] at hp
  rcases List.mem_append.1 hy with hy | hy
  ·exact .inr (hp.2.2 y hy x (List.mem_cons_self ..))
  ·rcases List.mem_cons.1 hy with rfl | hy
   ·exact absurd rfl hne
   ·exact .inl (hp.2.1.1 y hy)
 have noc:x.i ∉ c.map (·.1):=by
  intro hm
  obtain⟨y,hy,e⟩:=List.mem_map.1 hm
  have h1:=(List.pairwise_append.1 h.pw).2.2 (x.i,false) (List.mem_map.2 ⟨x,hx,rfl⟩) y hy
  exact(jt h1).2.2.2.2.2 e.symm
 refine hok R a w l h.sz h.df (λt ht r hr=>h.CQ x hx t ht (λy hy _=>unl y hy) r hr) hq h.st K' Q ?_
 intro R' v w' hR hv hst
 refine next R' _ w' ⟨by rw [vF];exact h.sz,by rw [rz];exact h.df,hst,Fz.le_trans h.r0 hR,h.dv,by simp [h.DN],λj hj'=>?_,λj hj'=>?_,h.vV hj,λy hy=>h.yq y (memf.1 hy).1,h.pw.sublist subc,λy hy=>h.Ho y (subc.subset hy),λt ht r hr=>?_,λy hy t ht hn' r hr=>?_,λy hy t hd=>h.last y (memf.1 hy).1 t hd,λy hy z hz t hd hl ha=>h.link y (memf.1 hy).1 z (memf.1 hz).1 t hd hl ha⟩
 ·rw [oC true hjs]
  by_cases e:j=x.i
  ·subst e
   simp only [if_true]
   constructor
   ·intro hh;cases hh
   ·rintro(hh | hh)
    ·obtain⟨y,hy,e⟩:=List.mem_map.1 hh
     exact absurd e (memf.1 hy).2
    ·exact absurd hh noc
  ·rw [if_neg e,h.un j hj']
   constructor
   ·rintro(hh | hh)
    ·obtain⟨y,hy,rfl⟩:=List.mem_map.1 hh
     exact .inl (List.mem_map.2 ⟨y,memf.2 ⟨hy,e⟩,rfl⟩)
    ·exact .inr hh
   ·rintro(hh | hh)
    ·obtain⟨y,hy,rfl⟩:=List.mem_map.1 hh
     exact .inl (List.mem_map.2 ⟨y,(memf.1 hy).1,rfl⟩)
    ·exact .inr hh
 ·exact h.lt j (hj'.imp (λhh=>by obtain⟨y,hy,e⟩:=List.mem_map.1 hh;exact List.mem_map.2 ⟨y,(memf.1 hy).1,e⟩) id)
 ·by_cases e:x.o.dst=some t
  ·rw [h.last x hx t e] at hr
   cases hr
   have hsz:t<a.tmps.size:=by rw [h.sz];exact hn x.i t (by rw [lx hox];exact e)
   rw [e,oc hsz];exact hv
  ·rw [pL e]
   refine r.mono hR (h.env t (λy hy=>?_) r hr)
   by_cases hyx:y.i=x.i
   ·have:=(h.yq y hy).1;rw [hyx,hox] at this;rw [<- Option.some.inj this];exact e
   ·exact ht y (memf.2 ⟨hy,hyx⟩)
 ·obtain⟨hy,hyx⟩:=memf.1 hy
  by_cases e:x.o.dst=some t
  ·have hsz:t<a.tmps.size:=by rw [h.sz];exact hn x.i t (by rw [lx hox];exact e)
   have hxy:qX ops x.i y.i=true:=by
    rcases ordered y hy hyx with o1 | o1
    ·exact(jt o1).2.2.2.1 t (by rw [lx hox];exact e) (by rw [pH (h.yq y hy).1];exact ht)
    ·have:=(jt o1).2.2.2.2.1 t (by rw [lx hox];exact e) (by rw [pH (h.yq y hy).1];exact ht)
     simp only at this
     rw [unl y hy] at this;cases this
   rw [h.link x hx y hy t e ht hxy] at hr
   cases hr
   rw [e,oc hsz];exact hv
  ·rw [pL e]
   refine r.mono hR (h.CQ y hy t ht (λz hz hd=>?_) r hr)
   by_cases hzx:z.i=x.i
   ·have:=(h.yq z hz).1;rw [hzx,hox] at this;rw [<- Option.some.inj this] at hd;exact absurd hd e
   ·exact hn' z (memf.2 ⟨hz,hzx⟩) hd
end
end Go.Sp
namespace Go.Sp
open Go
section
variable {P:Program} {ops:Array Oper} {n:Nat} {Q:Exit->Act->World->Prop}
variable {R0:Fz} {V:Env->List As->List (Nat×(List As->Prop))->List (Nat×Bool)->Prop} {K:Act->World->Prop} {R:Fz} {E:Env} {l:List As} {pend:List (Nat×(List As->Prop))} {pl:List PI} {c:List (Nat×Bool)} {listed:Array Bool} {a:Act} {w:World}
theorem Inv.kZ (hb:nR ops=true) (hn:∀ i d,lN ops i=some d->d<n) {k:Nat} {rest:List (Nat×Bool)}
  (o:Oper) {γ:Type} (ok:γ->Prop) (p:γ->VP) (l':γ->List As) (h:Inv (P:=P) (ops:=ops) (n:=n) R0 V R E l pend pl ((k,true)::rest) listed a w)
  (ho:ops[k]? = some o) (hok:iV P ops n o E l ok p l')
  (hq:∀ x∈pend,((Region.before ops).getD k 0).testBit x.1=true\/∀ g,ok g->x.2 (l' g)) (hdv:∀ g,ok g->V (Sp.ext E o.dst (p g)) (l' g) pend rest)
  (hj:k∈Region.ready .any ops listed) (K':Act->World->Prop)
  (next:∀ g R' a' w',Inv (P:=P) (ops:=ops) (n:=n) R0 V R' (Sp.ext E o.dst (p g)) (l' g) pend pl rest (listed.setIfInBounds k true) a' w'->K' a' w'):runs P ops o a w K' Q:=by
 have hanc:=h.Cw hb hj
 have unl:∀ y∈pl,qX ops y.i k=false:=λy hy=>by
  cases e:qX ops y.i k with
  | false=>rfl
  | true=>
   have h1:=hanc _ e
   have h2:=(h.un y.i (h.lt _ (.inl (List.mem_map.2 ⟨y,hy,rfl⟩)))).2 (.inl (List.mem_map.2 ⟨y,hy,rfl⟩))
   rw [my h1] at h2;cases h2
 have hks:k<listed.size:=by rw [h.DN];exact(Array.getElem?_eq_some_iff.1 ho).1
 have before:∀ y∈pl,rel ops (y.i,false) (k,true)=true:=λy hy=>
  (List.pairwise_append.1 h.pw).2.2 _ (List.mem_map.2 ⟨y,hy,rfl⟩) _ (List.mem_cons_self ..)
 have behind:∀ y∈rest,rel ops (k,true) y=true:=λy hy=>(List.pairwise_cons.1 (List.pairwise_append.1 h.pw).2.1).1 y hy
 have subc:(pl.map (λy=>(y.i,false))++rest).Sublist (pl.map (λy=>(y.i,false))++(k,true)::rest):=(List.sublist_cons_self ..).append_left _
 refine hok R a w h.sz h.df (λt ht r hr=>h.env t (λy hy hd=>?_) r hr) h.st K' Q ?_
 ·have:=(jt (before y hy)).2.2.2.1 t (by rw [lx (h.yq y hy).1];exact hd) (by rw [pH ho];exact ht)
  simp only at this
  rw [unl y hy] at this;cases this
 intro g R' v w' hg hR hv hst
 have nodst:∀ y∈pl,∀ t,o.dst=some t->t ∉ y.o.looksAt ops:=λy hy t hd hl=>by
  have:=(jt (before y hy)).2.2.2.2.1 t (by rw [lx ho];exact hd) (by rw [pH (h.yq y hy).1];exact hl)
  simp only at this
  rw [unl y hy] at this;cases this
 have nodd:∀ y∈pl,∀ t,y.o.dst=some t->o.dst≠some t:=λy hy t hd=>by
  have:=(jt (before y hy)).2.2.1 t (by rw [lx (h.yq y hy).1];exact hd)
  rwa [lx ho] at this
 refine next g R' _ w' ⟨by rw [vF];exact h.sz,by rw [rz];exact h.df,hst,Fz.le_trans h.r0 hR,hdv g hg,by simp [h.DN],λj hj'=>?_,λj hj'=>?_,h.vV hj,λy hy=>?_,h.pw.sublist subc,λy hy=>h.Ho y (subc.subset hy),λt ht r hr=>?_,λy hy t ht hn' r hr=>?_,λy hy t hd=>?_,h.link⟩
 ·rw [oC true hks]
  by_cases e:j=k
  ·subst e
   simp only [if_true]
   constructor
   ·intro hh;cases hh
   ·rintro(hh | hh)
    ·obtain⟨y,hy,e⟩:=List.mem_map.1 hh
     exact absurd e (jt (before y hy)).2.2.2.2.2
    ·obtain⟨y,hy,e⟩:=List.mem_map.1 hh
     exact absurd e.symm (jt (behind y hy)).2.2.2.2.2
  ·rw [if_neg e,h.un j hj']
   simp [e]
 ·exact h.lt j (hj'.imp id (λhh=>List.mem_cons_of_mem _ hh))
 ·obtain⟨a1,a2,_,a4⟩:=h.yq y hy
  refine⟨a1,a2,?_,a4⟩
  rcases hq _ a4 with hh | hh
  ·have hu:=unl y hy
   unfold qX at hu
   rw [show(y.i,y.q).1=y.i from rfl,hu] at hh;cases hh
  ·exact hh g hg
 ·by_cases e:o.dst=some t
  ·rw [mW,if_pos e] at hr
   cases hr
   have hsz:t<a.tmps.size:=by rw [h.sz];exact hn k t (by rw [lx ho];exact e)
   rw [e,oc hsz];exact hv
  ·rw [pL e]
   rw [mW,if_neg e] at hr
   exact r.mono hR (h.env t ht r hr)
 ·have e:o.dst≠some t:=λe=>nodst y hy t e ht
  rw [pL e]
  exact r.mono hR (h.CQ y hy t ht hn' r hr)
 ·rw [mW,if_neg (nodd y hy t hd)]
  exact h.last y hy t hd
theorem Inv.Il {γ:Type} (ok:γ->Prop) (l':γ->List As) (h:Inv (P:=P) (ops:=ops) (n:=n) R0 V R E l pend pl c listed a w)
  (hg:∀ R w,R0.le R->St R l w->∃ g R',ok g/\R.le R'/\St R' (l' g) w) (hq:∀ x∈pend,∀ g,ok g->x.2 (l' g)) (hdv:∀ g,ok g->V E (l' g) pend c):
  ∃ g R',ok g/\Inv (P:=P) (ops:=ops) (n:=n) R0 V R' E (l' g) pend pl c listed a w:=by
 obtain⟨g,R',hok,hR,hst⟩:=hg R w h.r0 h.st
 exact⟨g,R',hok,h.sz,h.df,hst,Fz.le_trans h.r0 hR,hdv g hok,h.DN,h.un,h.lt,h.closed,λx hx=>by
  obtain⟨a1,a2,_,a4⟩:=h.yq x hx
  exact⟨a1,a2,hq _ a4 g hok,a4⟩,h.pw,h.Ho,λt ht q hf=>q.mono hR (h.env t ht q hf),λx hx t ht hn q hf=>q.mono hR (h.CQ x hx t ht hn q hf),h.last,h.link⟩
def Head (P:Program) (ops:Array Oper) (n:Nat) (R0:Fz) (K:Act->World->Prop) (E:Env) (l:List As) (pend:List (Nat×(List As->Prop))) (c:List (Nat×Bool)):Prop:=
 (c=[]/\∀ R a w,R0.le R->od n R a E->St R l w->K a w)\/
 ∃ k rest o,∃ (γ:Type) (ok:γ->Prop) (p:γ->VP) (l':γ->List As),c=(k,true)::rest/\ops[k]? = some o/\iV P ops n o E l ok p l'/\
  (∀ x∈pend,((Region.before ops).getD k 0).testBit x.1=true\/∀ g,ok g->x.2 (l' g))/\∀ g,ok g->Dv P ops n true R0 (KU.of n R0 K) (Sp.ext E o.dst (p g)) (l' g) pend rest
theorem Inv.norm (h:Inv (P:=P) (ops:=ops) (n:=n) R0 (Dv P ops n true R0 (KU.of n R0 K)) R E l pend pl c listed a w):
  ∃ R' E' l' pend' pl' c',Inv (P:=P) (ops:=ops) (n:=n) R0 (Dv P ops n true R0 (KU.of n R0 K)) R' E' l' pend' pl' c' listed a w/\Head P ops n R0 K E' l' pend' c'/\pl'.length+c'.length=pl.length+c.length:=by
 have dv:=h.dv
 generalize hku:KU.of n R0 K=ku at dv
 induction dv generalizing pl R with
 | fin hk=>subst hku;exact⟨_,_,_,_,_,_,h,.inl ⟨rfl,hk⟩,rfl⟩
 | ok o q p ho hok hq hdv ih=>
  subst hku
  obtain⟨R',E',l',pend',pl',c',h',hc,hl⟩:=ih (h.move o q p ho hok hq hdv)
  exact⟨R',E',l',pend',pl',c',h',hc,by rw [hl];simp;omega⟩
 | kZ o ok p l' ho hok hq hdv hb ih=>subst hku;exact⟨_,_,_,_,_,_,h,.inr ⟨_,_,o,_,ok,p,l',rfl,ho,hok,hq rfl,hdv⟩,rfl⟩
 | Il ok l' hg hq hdv ih=>
  subst hku
  obtain⟨g,R',hok,h'⟩:=h.Il ok l' hg (hq rfl) hdv
  exact ih g hok h'
 | ghe ok E' l' hd=>cases hd
theorem Inv.any (hb:nR ops=true) (hn:∀ i d,lN ops i=some d->d<n) (hK:∀ a w,K a w->Q .normal a w):
  ∀ (fuel:Nat) {R:Fz} {E:Env} {l:List As} {pend:List (Nat×(List As->Prop))} {pl:List PI} {c:List (Nat×Bool)} {listed:Array Bool} {a:Act} {w:World},
   pl.length+c.length=fuel->Inv (P:=P) (ops:=ops) (n:=n) R0 (Dv P ops n true R0 (KU.of n R0 K)) R E l pend pl c listed a w->wpAny P .any ops Q fuel listed a w:=by
 intro fuel
 induction fuel with
 | zero=>
  intro R E l pend pl c listed a w hf h
  have h1:pl=[]:=List.length_eq_zero_iff.1 om
  have h2:c=[]:=List.length_eq_zero_iff.1 om
  subst h1 h2
  refine⟨?_,?_⟩
  ·apply List.eq_nil_iff_forall_not_mem.2
   intro j hj
   obtain⟨h0,o,ho,_⟩:=ji hj
   have:=(h.un j (Array.getElem?_eq_some_iff.1 ho).1).1 h0
   simp at this
  ·obtain⟨R',E',l',pend',pl',c',h',hc,hl⟩:=h.norm
   simp only [List.length_nil,Nat.add_zero] at hl
   have h1:pl'=[]:=List.length_eq_zero_iff.1 om
   subst h1
   rcases hc with⟨_,hk⟩|⟨k,rest,_,_,_,_,_,e,_⟩
   ·exact hK _ _ (hk R' a w h'.r0 ⟨h'.sz,h'.df,λt q hq=>h'.env t sM q hq⟩ h'.st)
   ·rw [e] at hl;simp at hl
 | succ fuel ih=>
  intro R E l pend pl c listed a w hf h0
  obtain⟨R',E',l',pend',pl',c',h,hc,hl⟩:=h0.norm
  rw [hf] at hl
  have some_ready:Region.ready .any ops listed≠[]:=by
   have:pl'.map (λx=>(x.i,false))++c'≠[]:=by
    intro e
    have:=congrArg List.length e
    simp only [List.length_append,List.length_map,List.length_nil] at this;omega
   obtain⟨y,ys,e⟩:=List.exists_cons_of_ne_nil this
   have hy:y.1∈pl'.map (·.i)\/y.1∈c'.map (·.1):=by
    have:y∈pl'.map (λx=>(x.i,false))++c':=by rw [e];exact List.mem_cons_self ..
    rcases List.mem_append.1 this with h1 | h1
    ·obtain⟨z,hz,rfl⟩:=List.mem_map.1 h1;exact .inl (List.mem_map.2 ⟨z,hz,rfl⟩)
    ·exact .inr (List.mem_map.2 ⟨y,h1,rfl⟩)
   have hlt:=h.lt _ hy
   obtain⟨o,ho⟩:∃ o,ops[y.1]? = some o:=⟨ops[y.1],Array.getElem?_eq_getElem hlt⟩
   have hr:y.1∈Region.ready .any ops listed:=by
    refine mem_ready.2 ⟨(h.un _ hlt).2 hy,o,ho,λe' he hbd=>?_⟩
    have hon:=(nI hb ho).2 e' he hbd
    cases hL:listed.getD e'.on true with
    | true=>
     have:e'.on<listed.size:=by rw [h.DN];exact Nat.lt_trans hon hlt
     simp [this] at hL ⊢;exact hL
    | false=>
     exfalso
     have hmem:=(h.un e'.on (Nat.lt_trans hon hlt)).1 hL
     have hanc:qX ops e'.on y.1=true:=((nI hb ho).1 _).2 ⟨e',he,hbd,.inl rfl⟩
     have hz:∃ z∈y::ys,z.1=e'.on:=by
      rw [<- e]
      rcases hmem with h1 | h1
      ·obtain⟨z,hz,e2⟩:=List.mem_map.1 h1
       exact⟨(z.i,false),List.mem_append_left _ (List.mem_map.2 ⟨z,hz,rfl⟩),e2⟩
      ·obtain⟨z,hz,e2⟩:=List.mem_map.1 h1
       exact⟨z,List.mem_append_right _ hz,e2⟩
     obtain⟨z,hz,e2⟩:=hz
     have hpw:=h.pw
     rw [e] at hpw
     rcases List.mem_cons.1 hz with e3 | hz
     ·rw [e3] at e2;rw [e2] at hon;exact absurd hon (Nat.lt_irrefl _)
     ·have:=(jt ((List.pairwise_cons.1 hpw).1 z hz)).1
      rw [e2,hanc] at this;cases this
   intro e2;rw [e2] at hr;cases hr
  refine⟨λe=>absurd e some_ready,λj hj=>?_⟩
  obtain⟨hu,o,ho,_⟩:=ji hj
  have hwp:runs P ops o a w (wpAny P .any ops Q fuel (listed.setIfInBounds j true)) Q:=by
   rcases(h.un j (Array.getElem?_eq_some_iff.1 ho).1).1 hu with hm | hm
   ·obtain⟨x,hx,rfl⟩:=List.mem_map.1 hm
    have hox:=(h.yq x hx).1
    rw [ho] at hox;cases hox
    refine h.take hb hn hx hj _ λR' a' w' h'=>ih ?_ h'
    have:(pl'.filter (λy=>y.i != x.i)).length+1=pl'.length:=by
     obtain⟨s,t,rfl⟩:=List.append_of_mem hx
     have hp:=(List.pairwise_append.1 h.pw).1
     rw [List.pairwise_map,List.pairwise_append,List.pairwise_cons] at hp
     have e1:s.filter (λy=>y.i != x.i)=s:=List.filter_eq_self.2 λy hy=>by
      have:=(jt (hp.2.2 y hy x (List.mem_cons_self ..))).2.2.2.2.2;simpa using this
     have e2:t.filter (λy=>y.i != x.i)=t:=List.filter_eq_self.2 λy hy=>by
      have:=(jt (hp.2.1.1 y hy)).2.2.2.2.2;simpa using Ne.symm this
     rw [List.filter_append,List.filter_cons,e1,e2];simp;omega
    omega
   ·rcases hc with⟨rfl,_⟩|⟨k,rest,o',γ,ok,p,l',rfl,ho',hok,hq,hdv⟩
    ·simp at hm
    ·rcases List.mem_cons.1 hm with e | hm
     ·simp only at e;subst e
      rw [ho] at ho';cases ho'
      exact h.kZ hb hn o ok p l' ho hok hq hdv hj _ λg R' a' w' h'=>ih (by simp at hl;omega) h'
     ·exfalso
      obtain⟨z,hz,rfl⟩:=List.mem_map.1 hm
      have h1:=(jt ((List.pairwise_cons.1 (List.pairwise_append.1 h.pw).2.1).1 z hz)).2.1 rfl
      have h2:=h.Cw hb hj k h1
      have h3:=(h.un k (h.lt k (.inr (List.mem_cons_self ..)))).2 (.inr (List.mem_cons_self ..))
      rw [my h2] at h3;cases h3
  unfold wpOp
  simp only [ho]
  unfold runs at hwp
  split
  ·rename_i hw;rw [if_pos hw] at hwp;exact .inl hwp
  ·rename_i hw;rw [if_neg hw] at hwp;exact hwp
theorem FL {c:List (Nat×Bool)} (h:chk ops n c=true):nR ops=true/\c.Pairwise (λx y=>rel ops x y=true)/\(∀ x∈c,qX ops x.1 x.1=false)/\c.length=ops.size/\
  (∀ i,i<ops.size->i∈c.map (·.1))/\(∀ i,i∈c.map (·.1)->i<ops.size)/\∀ i d,lN ops i=some d->d<n:=by
 simp only [chk,Bool.and_eq_true,beq_iff_eq,List.all_eq_true,List.mem_range,List.contains_iff_mem,List.length_map,Array.all_eq_true_iff_forall_mem] at h
 obtain⟨⟨⟨⟨⟨h1,h2⟩,h3⟩,h4⟩,h6⟩,h5⟩:=h
 obtain⟨k1,k2⟩:=sO h2
 refine⟨h1,k1,k2,h3,h4,λi hi=>by simpa using h6 i hi,λi d hd=>?_⟩
 unfold lN at hd
 cases e:ops[i]? with
 | none=>simp [e] at hd
 | some o=>
  simp [e] at hd
  have:=h5 o (Array.mem_of_getElem? e)
  simpa [hd] using this
theorem AX {id:Nat} {E:Env} {l:List As} (c:List (Nat×Bool)) (hm:P.follows .mixedOrders=true) (hc:chk ops n c=true)
  (h:Dv P ops n true R0 (KU.of n R0 (Q .normal)) E l [] c) {R:Fz} {a:Act} {w:World} (h0:R0.le R) (ha:od n R a E) (hs:St R l w):(Code.region id ops true).wp P Q a w:=by
 obtain⟨hb,hpw,hirr,hlen,hall,hlt,hn⟩:=FL hc
 refine wp_region_any hm ?_
 refine Inv.any (K:=Q .normal) (R:=R) (E:=E) (l:=l) (pend:=[]) (pl:=[]) (c:=c) hb hn (λ_ _ hk=>hk) ops.size (by simpa using hlen) ⟨ha.1,ha.2.1,hs.drew _ (Nat.le_succ _),h0,h,sM,λj hj=>?_,λj hj=>?_,λj o ho hl=>?_,sM,by simpa using hpw,by simpa using hirr,λt _ q hq=>ha.2.2 t q hq,sM,sM,sM⟩
 ·simp [hj];exact(by simpa using hall j hj)
 ·rcases hj with hj | hj
  ·simp at hj
  ·exact hlt j hj
 ·have:=(Array.getElem?_eq_some_iff.1 ho).1
  simp [this] at hl
theorem Dv.seq (hn:∀ i d,lN ops i=some d->d<n) {c:List (Nat×Bool)} {E:Env} {l:List As} {pend:List (Nat×(List As->Prop))} (h:Dv P ops n false R0 (KU.of n R0 K) E l pend c) (hK:∀ a w,K a w->Q .normal a w):
  ∀ {R:Fz} {a:Act} {w:World},R0.le R->od n R a E->St R l w->wpOps P ops Q (c.map (·.1)) a w:=by
 induction h with
 | fin hk=>exact λh0 ha hs=>hK _ _ (hk _ _ _ h0 ha hs)
 | ok o q p ho hok hq hdv ih=>
  intro R a w h0 ha hs
  have:=hok R a w _ ha.1 ha.2.1 (λt _ r hr=>ha.2.2 t r hr) hq hs _ Q (λR' v w' hR hv hst=>ih (Fz.le_trans h0 hR) ((ha.mono hR).ext (λt ht=>hn _ t (by rw [lx ho];exact ht)) hv) hst)
  simp only [List.map_cons,wpOps,ho]
  unfold runs at this
  split
  ·rename_i hw;rw [if_pos hw] at this;exact .inl this
  ·rename_i hw;rw [if_neg hw] at this;exact this
 | kZ o ok p l' ho hok hq hdv hb ih=>
  intro R a w h0 ha hs
  have:=hok R a w ha.1 ha.2.1 (λt _ r hr=>ha.2.2 t r hr) hs _ Q (λg R' v w' hg hR hv hst=>ih g hg (Fz.le_trans h0 hR) ((ha.mono hR).ext (λt ht=>hn _ t (by rw [lx ho];exact ht)) hv) hst)
  simp only [List.map_cons,wpOps,ho]
  unfold runs at this
  split
  ·rename_i hw;rw [if_pos hw] at this;exact .inl this
  ·rename_i hw;rw [if_neg hw] at this;exact this
 | Il ok l' hg hq hdv ih=>
  intro R a w h0 ha hs
  obtain⟨g,R',hok,hR,hst⟩:=hg R w h0 hs
  exact ih g hok (Fz.le_trans h0 hR) (ha.mono hR) hst
 | ghe ok E' l' hd hg hdv ih=>
  intro R a w h0 ha hs
  obtain⟨g,R',hok,hR,ha',hst⟩:=hg R a w h0 ha hs
  exact ih g hok (Fz.le_trans h0 hR) ha' hst
def pZ (ops:Array Oper) (n:Nat) (c:List (Nat×Bool)):Bool:=c.map (·.1)==List.range ops.size&&ops.all (λo=>match o.dst with | some d=>decide (d<n) | none=>true)
theorem An {id:Nat} {E:Env} {l:List As} (c:List (Nat×Bool)) (hc:pZ ops n c=true)
  (h:Dv P ops n false R0 (KU.of n R0 (Q .normal)) E l [] c) {R:Fz} {a:Act} {w:World} (h0:R0.le R) (ha:od n R a E) (hs:St R l w):(Code.region id ops false).wp P Q a w:=by
 simp only [pZ,Bool.and_eq_true,beq_iff_eq,Array.all_eq_true_iff_forall_mem] at hc
 refine wp_region ?_
 rw [<- hc.1]
 refine h.seq (λi d hd=>?_) (λ_ _ hk=>hk) h0 ha hs
 unfold lN at hd
 cases e:ops[i]? with
 | none=>simp [e] at hd
 | some o=>
  simp [e] at hd
  have:=hc.2 o (Array.mem_of_getElem? e)
  simpa [hd] using this
end
end Go.Sp
