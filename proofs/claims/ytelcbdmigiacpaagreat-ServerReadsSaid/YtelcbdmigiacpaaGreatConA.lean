import Derived.Calls
import Derived.Tactics
import Derived.Below
import Derived.Laws.Sem
set_option linter.all false
namespace Go.Sp
open Go
theorem kr {p:Prop} (h:p:=by kernel_rfl):p:=h
theorem om {p:Prop} (h:p:=by omega):p:=h
theorem dc {p:Prop} (h:p:=by decide):p:=h
theorem sM {p:Prop} (h:p:=by simp):p:=h
theorem dT {p:Prop} [Decidable p] (h:p):decide p=true:=decide_eq_true h
theorem dF {p:Prop} [Decidable p] (h:¬ p):decide p=false:=decide_eq_false h
theorem gE {α:Type _} {l:List α} {i:Nat} (h:i<l.length):l[i]? = some l[i]:=List.getElem?_eq_getElem h
theorem gD {α:Type _} {l:List α} {i:Nat} {a:α}:l.getD i a=l[i]?.getD a:=List.getD_eq_getElem?_getD
abbrev BA:=ByteArray
abbrev eE:BA:=⟨#[]⟩
structure Fz where
 mem:Nat->Obj->Prop
 w0:World
def Fz.le (R R':Fz):Prop:=R.w0=R'.w0/\∀ b o,R.mem b o->R'.mem b o
theorem Fz.le_refl (R:Fz):R.le R:=⟨rfl,λ_ _ h=>h⟩
theorem Fz.le_trans {R S T:Fz} (h:R.le S) (k:S.le T):R.le T:=⟨h.1.trans k.1,λb o q=>k.2 b o (h.2 b o q)⟩
abbrev Mem:=List (Nat×Obj)
structure iw (R:Fz) (m:Mem) (w:World):Prop where
 os:w.os=R.w0.os
 tape:w.tape=R.w0.tape
 output:w.output=R.w0.output
 size:R.w0.heap.size<=w.heap.size
 uN:∀ b o,R.mem b o->w.heap[b]? = some o
 nd:(m.map (·.1)).Nodup
 own:∀ x∈m,w.heap[x.1]? = some x.2
 BY:∀ x∈m,∀ o,¬ R.mem x.1 o
 Fh:R.w0.drawn<=w.drawn
theorem iw.perm {R:Fz} {m m':Mem} {w:World} (hp:m.Perm m') (h:iw R m w):iw R m' w:=
 ⟨h.os,h.tape,h.output,h.size,h.uN,(hp.map _).nodup_iff.1 h.nd,λx hx=>h.own x (hp.mem_iff.2 hx),λx hx=>h.BY x (hp.mem_iff.2 hx),h.Fh⟩
theorem iw.drop {R:Fz} {m x:Mem} {w:World} (h:iw R (m++x) w):iw R x w:=
 ⟨h.os,h.tape,h.output,h.size,h.uN,by have:=h.nd;rw [List.map_append] at this;exact(List.nodup_append.1 this).2.1,
  λy hy=>h.own y (List.mem_append_right _ hy),λy hy=>h.BY y (List.mem_append_right _ hy),h.Fh⟩
theorem iw.yN {R:Fz} {m x:Mem} {w:World} (h:iw R (m++x) w):iw ⟨λb o=>R.mem b o\/(b,o)∈m,R.w0⟩ x w:=by
 refine⟨h.os,h.tape,h.output,h.size,?_,h.drop.nd,h.drop.own,?_,h.Fh⟩
 ·rintro b o (hb | hb)
  ·exact h.uN b o hb
  ·exact h.own (b,o) (List.mem_append_left _ hb)
 ·rintro y hy o (hb | hb)
  ·exact h.drop.BY y hy o hb
  ·have:=h.nd
   rw [List.map_append] at this
   exact(List.nodup_append.1 this).2.2 y.1 (List.mem_map.2 ⟨_,hb,rfl⟩) y.1 (List.mem_map.2 ⟨y,hy,rfl⟩) rfl
theorem iw.get {R:Fz} {b:Nat} {o:Obj} {x:Mem} {w:World} (h:iw R ((b,o)::x) w):w.heap[b]? = some o:=h.own (b,o) (List.mem_cons_self ..)
theorem iw.drew {R:Fz} {m:Mem} {w:World} (h:iw R m w) (n:Nat) (hn:w.drawn<=n):iw R m { w with drawn:=n }:=
 ⟨h.os,h.tape,h.output,h.size,h.uN,h.nd,h.own,h.BY,Nat.le_trans h.Fh hn⟩
theorem jT {w:World} {b:Nat} {o:Obj} (h:w.heap[b]? = some o):b<w.heap.size:=by
 rcases Nat.lt_or_ge b w.heap.size with k | k
 ·exact k
 ·rw [Array.getElem?_eq_none k] at h;cases h
theorem iw.alloc {R:Fz} {m:Mem} {w:World} (h:iw R m w) (o:Obj):iw R ((w.heap.size,o)::m) { w with heap:=w.heap.push o }:=by
 refine⟨h.os,h.tape,h.output,by simp;exact Nat.le_succ_of_le h.size,λb q hb=>?_,?_,λy hy=>?_,λy hy q hq=>?_,h.Fh⟩
 ·have:=h.uN b q hb
  have hl:=jT this
  show(w.heap.push o)[b]? = _
  rw [Array.getElem?_push,if_neg om];exact this
 ·simp only [List.map_cons,List.nodup_cons]
  refine⟨λhm=>?_,h.nd⟩
  obtain⟨y,hy,e⟩:=List.mem_map.1 hm
  have:=jT (h.own y hy)
  omega
 ·show(w.heap.push o)[y.1]? = _
  rcases List.mem_cons.1 hy with rfl | hy
  ·simp
  ·have:=h.own y hy
   have hl:=jT this
   rw [Array.getElem?_push,if_neg om];exact this
 ·rcases List.mem_cons.1 hy with rfl | hy
  ·have:=jT (h.uN _ _ hq);simp at this
  ·exact h.BY y hy q hq
theorem iw.set {R:Fz} {b:Nat} {o o':Obj} {x:Mem} {w w':World} (h:iw R ((b,o)::x) w)
  (hos:w'.os=w.os) (ht:w'.tape=w.tape) (hu:w'.output=w.output) (hd:w.drawn<=w'.drawn) (hs:w'.heap.size=w.heap.size)
  (hb:w'.heap[b]? = some o') (hn:∀ k,k≠b->w'.heap[k]? = w.heap[k]?):iw R ((b,o')::x) w':=by
 have hnd:=h.nd
 simp only [List.map_cons,List.nodup_cons] at hnd
 refine⟨hos.trans h.os,ht.trans h.tape,hu.trans h.output,by rw [hs];exact h.size,λk q hk=>?_,by simpa using hnd,λy hy=>?_,λy hy q hq=>?_,Nat.le_trans h.Fh hd⟩
 ·rw [hn k (λe=>h.BY (b,o) (List.mem_cons_self ..) q (by rw [e] at hk;exact hk))];exact h.uN k q hk
 ·rcases List.mem_cons.1 hy with rfl | hy
  ·exact hb
  ·rw [hn y.1 (λe=>hnd.1 (e ▸ List.mem_map.2 ⟨y,hy,rfl⟩))]
   exact h.own y (List.mem_cons_of_mem _ hy)
 ·rcases List.mem_cons.1 hy with rfl | hy
  ·exact h.BY (b,o) (List.mem_cons_self ..) q hq
  ·exact h.BY y (List.mem_cons_of_mem _ hy) q hq
class Kn (p:Fz->Value->Prop) where
 w:Option Value
 ok:∀ v,w=some v->∀ R u,p R u->u=v
instance kn0 {p:Fz->Value->Prop}:Kn p:=⟨none,nofun⟩
structure VP where
 p:Fz->Value->Prop
 mono:∀ {R R' v},R.le R'->p R v->p R' v
 [k:Kn p]
def VP.w (q:VP):Option Value:=q.k.w
def eq (v:Value):VP:=@VP.mk (λ_ u=>u=v) (λ_ h=>h) ⟨some v,λ_ h _ _ k=>k.trans (Option.some.inj h)⟩
@[simp] theorem ez {R:Fz} {u v:Value}:(eq v).p R u↔u=v:=Iff.rfl
inductive bV {α β:Type} (p:α->β->Prop):List α->List β->Prop
 | nil:bV p [] []
 | cons {a b l l'}:p a b->bV p l l'->bV p (a::l) (b::l')
theorem bV.imp {α β:Type} {p q:α->β->Prop} (h:∀ a b,p a b->q a b) {l:List α} {l':List β} (k:bV p l l'):bV q l l':=by
 induction k with
 | nil=>exact .nil
 | cons h1 _ ih=>exact .cons (h _ _ h1) ih
theorem bV.length {α β:Type} {p:α->β->Prop} {l:List α} {l':List β} (k:bV p l l'):l.length=l'.length:=by
 induction k with
 | nil=>rfl
 | cons _ _ ih=>simp [ih]
theorem bV.get {α β:Type} {p:α->β->Prop} {l:List α} {l':List β} (k:bV p l l') {i:Nat} {a:α} (h:l[i]? = some a):∃ b,l'[i]? = some b/\p a b:=by
 induction k generalizing i with
 | nil=>simp at h
 | cons h1 _ ih=>
  cases i with
  | zero=>simp at h;subst h;exact⟨_,rfl,h1⟩
  | succ i=>simpa using ih (i:=i) (by simpa using h)
theorem bV.set {α β:Type} {p:α->β->Prop} {l:List α} {l':List β} (k:bV p l l') {a:α} {b:β} (h:p a b) (i:Nat):bV p (l.set i a) (l'.set i b):=by
 induction k generalizing i with
 | nil=>exact .nil
 | cons h1 h2 ih=>cases i with
  | zero=>exact .cons h h2
  | succ i=>exact .cons h1 (ih i)
theorem bV.append {α β:Type} {p:α->β->Prop} {l k:List α} {l' k':List β} (h:bV p l l') (h2:bV p k k'):bV p (l++k) (l'++k'):=by
 induction h with
 | nil=>exact h2
 | cons h1 _ ih=>exact .cons h1 ih
theorem bV.take {α β:Type} {p:α->β->Prop} {l:List α} {l':List β} (h:bV p l l') (n:Nat):bV p (l.take n) (l'.take n):=by
 induction h generalizing n with
 | nil=>simp;exact .nil
 | cons h1 _ ih=>cases n with
  | zero=>exact .nil
  | succ n=>exact .cons h1 (ih n)
theorem bV.drop {α β:Type} {p:α->β->Prop} {l:List α} {l':List β} (h:bV p l l') (n:Nat):bV p (l.drop n) (l'.drop n):=by
 induction h generalizing n with
 | nil=>simp;exact .nil
 | cons h1 h2 ih=>cases n with
  | zero=>exact .cons h1 h2
  | succ n=>exact ih n
abbrev Cs:=List VP
def Cs.h (R:Fz) (ps:Cs) (cs:List Value):Prop:=bV (λq v=>q.p R v) ps cs
theorem Cs.mono {R R':Fz} (hR:R.le R') {ps:Cs} {cs:List Value} (h:Cs.h R ps cs):Cs.h R' ps cs:=bV.imp (λq _ k=>q.mono hR k) h
class Kb (p:Fz->Mem->Prop) where
 w:Option (Nat×TypeId×Cs)
 ok:∀ b T ps,w=some (b,T,ps)->∀ R m,p R m->∃ cs:List Value,m=[(b,.cells cs.toArray T)]/\Cs.h R ps cs
instance kb0 {p:Fz->Mem->Prop}:Kb p:=⟨none,nofun⟩
structure As where
 p:Fz->Mem->Prop
 mono:∀ {R R' m},R.le R'->p R m->p R' m
 [k:Kb p]
def As.w (A:As):Option (Nat×TypeId×Cs):=A.k.w
def je (R:Fz):Mem->List As->World->Prop
 | m,[],w=>iw R m w
 | m,A::l,w=>∃ m',A.p R m'/\je R (m'++m) l w
def St (R:Fz) (l:List As) (w:World):Prop:=je R [] l w
theorem je.perm {R:Fz} {l:List As} {w:World}:∀ {m m':Mem},m.Perm m'->je R m l w->je R m' l w:=by
 induction l with
 | nil=>exact λhp h=>iw.perm hp h
 | cons A l ih=>rintro m m' hp ⟨a,ha,h⟩;exact⟨a,ha,ih (hp.append_left _) h⟩
theorem je.upd {R R':Fz} {m' m'':Mem} {l:List As} {w w':World} (hR:R.le R')
  (h:∀ x,iw R (m'++x) w->iw R' (m''++x) w'):∀ {m:Mem},je R (m'++m) l w->je R' (m''++m) l w':=by
 induction l with
 | nil=>exact λk=>h _ k
 | cons A l ih=>
  rintro m ⟨a,ha,k⟩
  refine⟨a,A.mono hR ha,?_⟩
  have p1:(a++(m'++m)).Perm (m'++(a++m)):=by
   rw [<- List.append_assoc,<- List.append_assoc];exact List.perm_append_comm.append_right _
  have p2:(m''++(a++m)).Perm (a++(m''++m)):=by
   rw [<- List.append_assoc,<- List.append_assoc];exact List.perm_append_comm.append_right _
  exact je.perm p2 (ih (je.perm p1 k))
theorem je.base {R:Fz} {l:List As} {w:World}:∀ {m:Mem},je R m l w->iw R m w:=by
 induction l with
 | nil=>exact λh=>h
 | cons A l ih=>rintro m ⟨a,_,h⟩;exact(ih h).drop
theorem je.swap {R:Fz} {A B:As} {l:List As} {w:World} {m:Mem} (h:je R m (A::B::l) w):je R m (B::A::l) w:=by
 obtain⟨a,ha,b,hb,k⟩:=h
 refine⟨b,hb,a,ha,je.perm ?_ k⟩
 rw [<- List.append_assoc,<- List.append_assoc];exact List.perm_append_comm.append_right _
theorem je.fY {R:Fz} {w:World} {l l':List As} (hp:l.Perm l'):∀ {m:Mem},je R m l w->je R m l' w:=by
 induction hp with
 | nil=>exact λh=>h
 | cons A _ ih=>rintro m ⟨a,ha,h⟩;exact⟨a,ha,ih h⟩
 | swap A B l=>exact λh=>je.swap h
 | trans _ _ ih1 ih2=>exact λh=>ih2 (ih1 h)
theorem St.fY {R:Fz} {w:World} {l l':List As} (hp:l.Perm l') (h:St R l w):St R l' w:=je.fY hp h
theorem r7 {α:Type _}:∀ {l:List α} {i:Nat} {A:α},l[i]? = some A->l.Perm (A::l.eraseIdx i)
 | [],i,A,h=>by simp at h
 | B::l,0,A,h=>by simp at h;subst h;exact List.Perm.refl _
 | B::l,i+1,A,h=>by
  have:=r7 (l:=l) (i:=i) (A:=A) (by simpa using h)
  exact(this.cons B).trans (List.Perm.swap _ _ _)
theorem St.drop {R:Fz} {w:World} {A:As} {l:List As} (h:St R (A::l) w):St R l w:=by
 obtain⟨a,_,k⟩:=h
 exact je.upd (m':=a) (m'':=[]) (Fz.le_refl R) (λ_ hx=>hx.drop) k
theorem St.drew {R:Fz} {l:List As} {w:World} (h:St R l w) (n:Nat) (hn:w.drawn<=n):St R l { w with drawn:=n }:=
 je.upd (m':=[]) (m'':=[]) (Fz.le_refl R) (λ_ hx=>hx.drew n hn) h
theorem St.base {R:Fz} {l:List As} {w:World} (h:St R l w):iw R [] w:=je.base h
theorem St.read {R:Fz} {w:World} {A:As} {l:List As} (hA:A∈l) (h:St R l w):∃ m,A.p R m/\∀ x∈m,w.heap[x.1]? = some x.2:=by
 obtain⟨s,t,rfl⟩:=List.append_of_mem hA
 obtain⟨a,ha,k⟩:=St.fY (List.perm_middle) h
 exact⟨a,ha,λx hx=>(je.base k).own x (List.mem_append_left _ hx)⟩
def agg (ps:Cs):VP:=⟨λR v=>∃ cs:List Value,v = .agg cs.toArray/\Cs.h R ps cs,λhR ⟨cs,e,h⟩=>⟨cs,e,Cs.mono hR h⟩⟩
def lg (ps:Cs):VP:=⟨λR v=>∃ cs:List Value,v = .tuple cs.toArray/\Cs.h R ps cs,λhR ⟨cs,e,h⟩=>⟨cs,e,Cs.mono hR h⟩⟩
def ar (b:Nat) (T:TypeId) (ps:Cs):As:=
 @As.mk (λR m=>∃ cs:List Value,m=[(b,.cells cs.toArray T)]/\Cs.h R ps cs) (λhR ⟨cs,e,h⟩=>⟨cs,e,Cs.mono hR h⟩) ⟨some (b,T,ps),λ_ _ _ e _ _ h=>by cases e;exact h⟩
def rp (ps:Cs):VP:=
 ⟨λR v=>∃ b off T fr,∃ cs:Array Value,v = .pointer (some ⟨b,off,none⟩)/\R.mem b (.cells cs T fr)/\off+ps.length<=cs.size/\Cs.h R ps ((cs.toList.drop off).take ps.length),
 λhR ⟨b,off,T,fr,cs,e,hm,hl,h⟩=>⟨b,off,T,fr,cs,e,hR.2 _ _ hm,hl,Cs.mono hR h⟩⟩
structure Kd (α:Type) where
 sz:Nat
 qx:α
 enc:α->Cs
 len:∀ x,(enc x).length=sz
 one:∀ x,∀ p∈enc x,∀ R v,p.p R v->v.oneCell'=true
def sl {α:Type} (K:Kd α) (xs:List α):VP:=
 ⟨λR v=>(∃ a c,v = .slice a 0 c/\xs=[])\/∃ b off c T fr,∃ cs:Array Value,v = .slice (some ⟨b,off,none⟩) xs.length c/\xs.length<=c/\R.mem b (.cells cs T fr)/\off+c*K.sz<=cs.size/\
   Cs.h R (xs.flatMap K.enc) ((cs.toList.drop off).take (xs.length*K.sz)),
 λhR h=>by
  rcases h with h | ⟨b,off,c,T,fr,cs,e,hl,hm,hc,h⟩
  ·exact .inl h
  ·exact .inr ⟨b,off,c,T,fr,cs,e,hl,hR.2 _ _ hm,hc,Cs.mono hR h⟩⟩
def row {α:Type} (K:Kd α) (T:TypeId) (v:Value) (xs:List α):As:=
 ⟨λR m=>(v = .slice none 0 0/\xs=[]/\m=[])\/∃ b off c fr,∃ cs:List Value,v = .slice (some ⟨b,off,none⟩) xs.length c/\xs.length<=c/\m=[(b,.cells cs.toArray T fr)]/\off+c*K.sz<=cs.length/\(∀ i,i<cs.length->¬ (fr.1<=i/\i<fr.2))/\
   Cs.h R (xs.flatMap K.enc) ((cs.drop off).take (xs.length*K.sz)),
 λhR h=>by
  rcases h with h | ⟨b,off,c,fr,cs,e,hl,hm,hc,hf,h⟩
  ·exact .inl h
  ·exact .inr ⟨b,off,c,fr,cs,e,hl,hm,hc,hf,Cs.mono hR h⟩⟩
def Kd.at {α:Type} (K:Kd α) (xs:List α) (i:Int):α:=xs.getD i.toNat K.qx
def One (p:VP):Prop:=∀ R v,p.p R v->v.oneCell'=true
theorem ai {v:Value} (h:v.oneCell'=true):One (eq v):=λ_ _ e=>by cases e;exact h
theorem dR {α:Type} {K:Kd α} {xs:List α}:One (sl K xs):=λ_ _ h=>by
 rcases h with⟨_,_,e,_⟩|⟨b,off,c,T,fr,cs,e,_⟩ <;> subst e <;> rfl
def ma (p:VP) (ps:Cs):Prop:=∀ R v,p.p R v->Cs.h R ps v.cells.toList/\∀ u∈v.cells.toList,u.oneCell'=true
theorem pY {v:Value} (h:v.oneCell'=true):v.cells = #[v]:=by cases v <;> first | rfl | (simp [Value.oneCell'] at h)
theorem cells_one {p:VP} (h:One p):ma p [p]:=λR v hv=>by
 rw [pY (h R v hv)]
 refine⟨.cons hv .nil,λu hu=>?_⟩
 have e:u=v:=by simpa using hu
 rw [e];exact h R v hv
def zO (ps:Cs):Prop:=∀ p∈ps,One p
theorem cN:zO []:=λ_ h=>by cases h
theorem ae {p:VP} {ps:Cs} (h:One p) (k:zO ps):zO (p::ps):=λq hq=>by
 rcases List.mem_cons.1 hq with rfl | hq
 ·exact h
 ·exact k q hq
theorem Cs.Av {R:Fz} {ps:Cs} {cs:List Value} (h:zO ps) (hc:Cs.h R ps cs):∀ u∈cs,u.oneCell'=true:=by
 induction hc with
 | nil=>exact λu hu=>by cases hu
 | cons h1 _ ih=>
  intro u hu
  rcases List.mem_cons.1 hu with rfl | hu
  ·exact h _ (List.mem_cons_self ..) R _ h1
  ·exact ih (λq hq=>h q (List.mem_cons_of_mem _ hq)) u hu
theorem bx {ps:Cs} (h:zO ps):ma (agg ps) ps:=λR v hv=>by
 obtain⟨cs,rfl,hc⟩:=hv
 exact⟨by simpa [Value.cells] using hc,by simpa [Value.cells] using Cs.Av h hc⟩
abbrev Env:=List (Nat×VP)
def find:Env->Nat->Option VP
 | [],_=>none
 | (t',p)::E,t=>match Nat.beq t' t with | true=>some p | false=>find E t
def Act.get (a:Act) (t:Nat):Value:=a.tmps.getD t undef
def od (n:Nat) (R:Fz) (a:Act) (E:Env):Prop:=a.tmps.size=n/\a.defers=[]/\∀ t p,find E t=some p->p.p R (Act.get a t)
theorem od.mono {n:Nat} {R R':Fz} {a:Act} {E:Env} (hR:R.le R') (h:od n R a E):od n R' a E:=⟨h.1,h.2.1,λt p k=>p.mono hR (h.2.2 t p k)⟩
theorem A7 {a:Act} {d:Nat} {v:Value} {t:Nat} (h:d<a.tmps.size):Act.get (a.put (some d) v) t=if d=t then v else Act.get a t:=by
 simp only [Act.get,Act.put,Array.getD_eq_getD_getElem?,Array.getElem?_setIfInBounds]
 split <;> simp_all
theorem od.put {n:Nat} {R:Fz} {a:Act} {E:Env} {d:Nat} {v:Value} {p:VP} (h:od n R a E) (hd:d<n) (hp:p.p R v):od n R (a.put (some d) v) ((d,p)::E):=by
 refine⟨by simp [Act.put,h.1],h.2.1,λt q k=>?_⟩
 rw [A7 (by rw [h.1];exact hd)]
 simp only [find] at k
 split at k
 ·rename_i e;have:=Nat.eq_of_beq_eq_true e;injection k with k;subst k;rw [if_pos this];exact hp
 ·rename_i e;rw [if_neg (Nat.ne_of_beq_eq_false e)];exact h.2.2 t q k
theorem Q {α : Sort _} {a : α} : a = a := rfl
theorem T : True := trivial
abbrev iT (b : Nat) : VP := eq (.pointer (some ⟨b, 0, none⟩))
abbrev jQ : VP := eq (.slice none 0 0)
theorem onz {v : Value} {h : v.oneCell' = true} : ma (eq v) [eq v] := cells_one (ai h)
end Go.Sp
