import Derived.Test.YtfknmdelgepbjaaGreatDoorVConD1
import Derived.Test.YtfknmdelgepbjaaGreatDoorVConA6
set_option linter.all false
namespace Go.Sp
open Go
section
variable {P:Program} {n:Nat} {R0:Fz} {Q:Exit→Act→World→Prop} {E:Env} {l:List As}
def resv (E:Env):List ResultVar→Option (List VP)
 | []=>some []
 | .tmp t::rs=>match find E t with
  | some p=>match resv E rs with
   | some ps=>some (p::ps)
   | none=>none
  | none=>none
 | _=>none
theorem zq:∀ {rs:List ResultVar} {ps:List VP},resv E rs=some ps→bz (Bh P n E l) rs ps
 | [],ps,h=>by cases h; exact .nil
 | .tmp t::rs,ps,h=>by
  unfold resv at h
  split at h
  ·rename_i p hp
   split at h
   ·rename_i ps' hps
    cases h; exact .cons (aB hp) (zq hps)
   ·cases h
  ·cases h
 | .cell _ _::_,ps,h=>by cases h
theorem ek {fn:Func} {ret:Unit→VP} {post:Unit→List As} {F:List As} {rs:List ResultVar} {ps:List VP} (m:Nat) (hQ:∀ a w,bodyPost P fn (qu R0 (fun _:Unit=>True) ret post F) .ret a w→Q .ret a w:=by exact Go.Sp.i2) (hf:fn.results=rs.toArray:=by exact rfl)
  (h:resv E rs=some ps:=by exact rfl) (hp:ret ()=oz ps:=by exact rfl) (h3:l.drop m=post ()++F:=by exact rfl):WP P n R0 .ret Q E l:=
 WP.BH hQ hf () trivial (zq h) hp fun R w k=>h3 ▸ Nat.rec (motive:=fun m=>St R (l.drop m) w) k (fun m ih=>by
  rw [show l.drop (m+1)=(l.drop m).drop 1 by rw [List.drop_drop]]
  cases e:l.drop m with
  | nil=>rw [e] at ih; exact ih
  | cons A t=>rw [e] at ih; exact ih.drop) m
theorem et {fn:Func} {γ:Type} {ok:γ→Prop} {ret:γ→VP} {post:γ→List As} {F:List As} {rs:List ResultVar} {ps:List VP} (b:γ) (m:Nat) (js:List Nat) (d:Nat) (hQ:∀ a w,bodyPost P fn (qu R0 ok ret post F) .ret a w→Q .ret a w:=by exact Go.Sp.i2) (hf:fn.results=rs.toArray:=by exact rfl)
  (h:resv E rs=some ps:=by exact rfl) (hb:ok b:=by exact trivial) (hp:ret b=oz ps:=by exact rfl)
  (h1:js.isPerm (List.range m)=true:=by kernel_rfl) (h2:(l.take m).length=m:=by exact rfl) (h3:(sel (l.take m) js++l.drop m).drop d=post b++F:=by exact rfl):WP P n R0 .ret Q E l:=
 WP.BH hQ hf b hb (zq h) hp (uj m js d h1 h2 h3)
theorem ws {c:Code} {l':List As} (m:Nat) (js:List Nat) (d:Nat) (k:WP P n R0 c Q E l') (h1:js.isPerm (List.range m)=true:=by kernel_rfl) (h2:(l.take m).length=m:=by exact rfl)
  (h3:(sel (l.take m) js++l.drop m).drop d=l':=by (try simp only [List.take,List.drop,sel,List.getD_cons_zero,List.getD_cons_succ,List.cons_append,List.nil_append]); exact rfl):WP P n R0 c Q E l:=
 WP.gh (jk (vQ m js d h1 h2 h3)) fun _ _=>k
theorem ns {G:Act→World→Prop} {l':List As} (m:Nat) (js:List Nat) (d:Nat) (k:∀ R a w,R0.le R→nh n R a E→St R l' w→G a w) (h1:js.isPerm (List.range m)=true:=by kernel_rfl) (h2:(l.take m).length=m:=by exact rfl)
  (h3:(sel (l.take m) js++l.drop m).drop d=l':=by (try simp only [List.take,List.drop,sel,List.getD_cons_zero,List.getD_cons_succ,List.cons_append,List.nil_append]); exact rfl):∀ R a w,R0.le R→nh n R a E→St R l w→G a w:=
 Dn.gh (jk (vQ m js d h1 h2 h3)) fun _ _=>k
end
section
variable {P:Program} {ops:Array Oper} {n:Nat} {dr:Bool} {R0:Fz} {K:KU} {E:Env} {l:List As} {pend:List (Nat×(List As→Prop))} {rest:List (Nat×Bool)} {i d:Nat}
variable {T:TypeId} {ps:String} {af:Array Edge} {g:Option (Nat×Bool)} {x y:Operand} {p:VP}
theorem sy [TB:oM P] {t:TypeId} {bb:Bool} {sz b off:Nat} {bT:TypeId} {ps' qs:Cs} {l2:List As} (j:Nat) (k:Dv P ops n dr R0 K E l2 pend rest) (ho:opAt ops.toList i=some ⟨none,.store t x y,T,ps,af,g⟩:=by exact rfl) (hg:fq ops E g:=by first | exact trivial | exact gg rfl)
  (hx:opv E x=some (eq (.pointer (some ⟨b,off,none⟩))):=by exact rfl) (hy:opv E y=some p:=by exact rfl) (hq:lN p qs:=by first | exact cE | exact cA) (hs:lk t TB.sz=some (bb,sz):=by exact rfl) (hj:l[j]? = some (aE b bT ps'):=by exact rfl) (hl:qs.length=sz:=by exact rfl) (hle:Nat.ble (off+sz) ps'.length=true:=by exact rfl)
  (hp:dr=true→∀ z∈pend,((Region.before ops).getD i 0).testBit z.1=true∨∀ _:Unit,z.2 (l.set j (aE b bT (nX ps' off qs))):=by exact nofun)
  (h2:l.set j (aE b bT (nX ps' off qs))=l2:=by (try simp only [List.set,nX,List.take,List.drop,List.length,List.cons_append,List.nil_append]); exact rfl) (hkb:K.kz E l pend ((i,true)::rest):=by first | exact trivial | assumption):Dv P ops n dr R0 K E l pend ((i,true)::rest):=by
 obtain ⟨td,h1,_,h3⟩:=C6 hs
 subst h2
 exact Dv.stx _ ho hg hx hy hq h1 h3 hl hj (Nat.le_of_ble_eq_true hle) rfl hp k hkb
theorem sv [TB:oM P] {t:TypeId} {bb:Bool} {sz b off:Nat} {bT:TypeId} {ps' qs:Cs} {l2:List As} (j:Nat) (k:Dv P ops n dr R0 K E l2 pend rest) (ho:opAt ops.toList i=some ⟨none,.store t x y,T,ps,af,g⟩:=by exact rfl) (hg:fq ops E g:=by first | exact trivial | exact gg rfl)
  (hx:opv E x=some (eq (.pointer (some ⟨b,off,none⟩))):=by exact rfl) (hy:opv E y=some p:=by exact rfl) (hq:lN p qs:=by first | exact cE | exact cA) (hs:lk t TB.sz=some (bb,sz):=by exact rfl) (hj:l[j]? = some (aE b bT ps'):=by exact rfl) (hl:qs.length=sz:=by exact rfl) (hle:Nat.ble (off+sz) ps'.length=true:=by exact rfl)
  (hp:dr=true→∀ z∈pend,((Region.before ops).getD i 0).testBit z.1=true∨∀ _:Unit,z.2 (l.set j (aE b bT (nX ps' off qs))):=by exact pB)
  (h2:l.set j (aE b bT (nX ps' off qs))=l2:=by (try simp only [List.set,nX,List.take,List.drop,List.length,List.cons_append,List.nil_append]); exact rfl) (hkb:K.kz E l pend ((i,true)::rest):=by first | exact trivial | assumption):Dv P ops n dr R0 K E l pend ((i,true)::rest):=by
 obtain ⟨td,h1,_,h3⟩:=C6 hs
 subst h2
 exact Dv.stx _ ho hg hx hy hq h1 h3 hl hj (Nat.le_of_ble_eq_true hle) rfl hp k hkb
end
section
variable {k:Nat} {ops:Array Oper} {pend:List (Nat×(List As→Prop))} {γ:Type} {L:γ→List As} {dr:Bool}
theorem pD (h:∀ z∈pend,((Region.before ops).getD k 0).testBit z.1=true∨∀ b,z.2 (L b):=by (repeat (first | exact Gk | refine kP (fun _=>trivial) ?_ | refine kP (fun _=>aa 0 rfl) ?_ | refine kP (fun _=>aa 1 rfl) ?_ | refine kP (fun _=>aa 2 rfl) ?_ | refine kP (fun _=>aa 3 rfl) ?_ | refine kP (fun _=>aa 4 rfl) ?_ | refine kP (fun _=>aa 5 rfl) ?_ | refine kP (fun _=>aa 6 rfl) ?_ | refine kP (fun _=>aa 7 rfl) ?_ | refine kP (fun _=>aa 8 rfl) ?_ | refine kP (fun _=>aa 9 rfl) ?_ | refine kP (fun _=>aa 10 rfl) ?_ | refine kP (fun _=>aa 11 rfl) ?_ | refine H4 kr ?_))):
  dr=true→∀ z∈pend,((Region.before ops).getD k 0).testBit z.1=true∨∀ b,z.2 (L b):=fun _=>h
theorem pE {ok:γ→Prop} (h:dr=true→∀ z∈pend,((Region.before ops).getD k 0).testBit z.1=true∨∀ b,z.2 (L b):=by exact pD):
  dr=true→∀ z∈pend,((Region.before ops).getD k 0).testBit z.1=true∨∀ b,ok b→z.2 (L b):=fun e=>J2 (h e)
end
theorem pU {ops:Array Oper} {Cb:List Nat} {c:List (Nat×Bool)} {pend:List (Nat×(List As→Prop))} {l2:Nat→List As} (h:∀ x∈pend,nN ops Cb c x.1=true∨∀ b:Nat,x.2 (l2 b):=by (repeat (first | exact all0 | refine tB (fun _=>trivial) ?_ | refine tB (fun _=>aa 0 rfl) ?_ | refine tB (fun _=>aa 1 rfl) ?_ | refine tB (fun _=>aa 2 rfl) ?_ | refine tB (fun _=>aa 3 rfl) ?_ | refine tB (fun _=>aa 4 rfl) ?_ | refine tB (fun _=>aa 5 rfl) ?_ | refine tB (fun _=>aa 6 rfl) ?_ | refine tB (fun _=>aa 7 rfl) ?_ | refine tB (fun _=>aa 8 rfl) ?_ | refine tB (fun _=>aa 9 rfl) ?_ | refine tB (fun _=>aa 10 rfl) ?_ | refine tB (fun _=>aa 11 rfl) ?_ | refine ia kr ?_))):
  ∀ x∈pend,nN ops Cb c x.1=true∨∀ b:Nat,x.2 (l2 b):=h
theorem sh {P:Program} {ops:Array Oper} {n:Nat} {R0:Fz} {K:KU} {E:Env} {l:List As} {pend:List (Nat×(List As→Prop))} {c:List (Nat×Bool)} (d:Nat) {t b:Bool} (h:t=b) (k:Dv P ops n false R0 K ((d,eq (.bool b))::E) l pend c) (hv:find E d=some (eq (.bool t)):=by exact rfl):Dv P ops n false R0 K E l pend c:=Dv.gh (gh_sh d h hv) fun _ _=>k
section
variable {P:Program} {n:Nat} {R0:Fz} {Q:Exit→Act→World→Prop} {E:Env} {l:List As} {β:Type} {κ:β→Prop} {y:Code}
theorem wr {id:Nat} {ops:Array Oper} (m b:Nat) (h:Dv P ops n false R0 (KU.of n R0 (Exit.then (y.wp P Q) Q .normal)) E l [] (bs 0 m b)) (hc:o7 ops n (bs 0 m b)=true:=by kernel_rfl):WP P n R0 (.seq (.region id ops false) y) Q E l:=WP.seq (rg m b h hc)
theorem wd {id:Nat} {ops:Array Oper} (hm:P.follows .mixedOrders=true) (m b:Nat) (h:Dv P ops n true R0 (KU.of n R0 (Exit.then (y.wp P Q) Q .normal)) E l [] (bs 0 m b)) (hc:chk ops n (bs 0 m b)=true:=by kernel_rfl):WP P n R0 (.seq (.region id ops true) y) Q E l:=WP.seq (dg hm m b h hc)
theorem ce {x:Operand} {c1 c2:Code} {b:Bool} {A B:Option β} (H:aS (cond b A B) κ) (h1:aS A κ→WP P n R0 c1 Q E l) (h2:aS B κ→WP P n R0 c2 Q E l) (hx:opv E x=some (eq (.bool b)):=by exact rfl):WP P n R0 (.cond x c1 c2) Q E l:=cd H hx (fun _=>h1) fun _=>h2
end
theorem cf {P:Program} {n:Nat} {R0:Fz} {Q:Exit→Act→World→Prop} {E:Env} {l:List As} {β:Type} {κ:β→Prop} {x:Operand} {c1 c2:Code} {b:Bool} {A B:Option β} (H:aS (cond b A B) κ) (h2:aS B κ→WP P n R0 c2 Q E l) (h1:aS A κ→WP P n R0 c1 Q E l) (hx:opv E x=some (eq (.bool b)):=by exact rfl):WP P n R0 (.cond x c1 c2) Q E l:=ce H h1 h2 hx
theorem pf {P:Program} {fn:Func} {f:FuncId} {c:Code} {vs:List VP} {ret:VP} {β:Type} {x:Option β} {r:β} {n:Nat} (hf:P.funcs[f]? = some fn) (hx:x=some r) (h:∀ (R0:Fz) (F:List As),aS x (fun v=>v=r)→WP P n R0 c (bodyPost P fn (qu R0 (fun _:Unit=>True) (fun _=>ret) (fun _=>[]) F)) (enum 0 vs) ([]++F))
  (hn:fn.ntmps=n:=by exact rfl) (hb:fn.body=some c:=by exact rfl) (hlen:Nat.ble vs.length n=true:=by exact rfl):Pt P f vs ret:=pb hf hn hx h hb hlen
theorem tf {P:Program} {fn:Func} {f:FuncId} {c:Code} {vs:List VP} {pre:List As} {γ:Type} {ok:γ→Prop} {ret:γ→VP} {post:γ→List As} {β:Type} {x:Option β} {r:β} {n:Nat} (hf:P.funcs[f]? = some fn) (hx:x=some r) (h:∀ (R0:Fz) (F:List As),aS x (fun v=>v=r)→WP P n R0 c (bodyPost P fn (qu R0 ok ret post F)) (enum 0 vs) (pre++F))
  (hn:fn.ntmps=n:=by exact rfl) (hb:fn.body=some c:=by exact rfl) (hlen:Nat.ble vs.length n=true:=by exact rfl):Tr P f vs pre ok ret post:=tb hf hn hx h hb hlen
theorem bm {β:Type} {b:Bool} {A B:Option β} {κ:β→Prop} (H:aS (cond b A B) κ):(b=false∧aS B κ)∨(b=true∧aS A κ):=by
 cases b with
 | true=>exact .inr ⟨rfl,H.ct rfl⟩
 | false=>exact .inl ⟨rfl,H.cf rfl⟩
section
variable {v:Value} {q:VP} {E:Env}
inductive Jf (v:Value) (q:VP) (E:Env):List Nat→Env→Prop
 | nil:Jf v q E [] []
 | cons {E':Env} {t:Nat} {ts:List Nat} {p p':VP} (h:find E t=some p) (hc:Cv v q p p') (k:Jf v q E ts E'):Jf v q E (t::ts) ((t,p')::E')
theorem Jf.ok {ts:List Nat} {E':Env} (h:Jf v q E ts E'):LR v q E E':=by
 induction h with
 | nil=>exact jK
 | cons h hc _ ih=>exact ar h hc ih
inductive Fm (v:Value) (q:VP):List Nat→List As→List As→Prop
 | nil {l:List As}:Fm v q [] l l
 | aE {b:Nat} {T:TypeId} {ps ps':Cs} {bs:List Nat} {l l':List As} (h:bz (Cv v q) ps ps') (k:Fm v q bs l l'):Fm v q (1::bs) (aE b T ps::l) (aE b T ps'::l')
 | id {A:As} {bs:List Nat} {l l':List As} (k:Fm v q bs l l'):Fm v q (0::bs) (A::l) (A::l')
theorem Cz:∀ {l:List As},bz (Ly v q) l l
 | []=>.nil
 | _::l=>.cons bP (Cz (l:=l))
theorem Fm.ok {bs:List Nat} {l l':List As} (h:Fm v q bs l l'):bz (Ly v q) l l':=by
 induction h with
 | nil=>exact Cz
 | aE h _ ih=>exact .cons (pF h) ih
 | id _ ih=>exact .cons bP ih
end
theorem fz {P:Program} {n:Nat} {R0:Fz} {Q:Exit→Act→World→Prop} {E E':Env} {l l0 l':List As} {c:Code} {α:Type} {Kd:Kd α} {v:Value} {xs:List α} (j:Nat) (ts bs:List Nat) (k:WP P n R0 c Q E' l') (hj:l[j]? = some (own Kd v xs):=by exact rfl)
  (h0:l.eraseIdx j=l0:=by (try simp only [List.eraseIdx,List.cons_append,List.nil_append]); exact rfl) (hE:Jf v (sl Kd xs) E ts E':=by (repeat (first | exact Jf.nil | apply Jf.cons rfl kV | apply Jf.cons rfl ay)))
  (hl:Fm v (sl Kd xs) bs l0 l':=by (repeat (first | exact Fm.nil | apply Fm.id | (apply Fm.aE; (repeat (first | exact bz.nil | apply bz.cons kV | apply bz.cons ay)))))):WP P n R0 c Q E l:=
 WP.gh (oi j hj hE.ok (h0 ▸ hl.ok)) fun _ _=>k
def Dw (E:Env):List Nat→Env→Option Env
 | [],a=>some a
 | t::ts,a=>match find E t with
  | some p=>Dw E ts ((t,p)::a)
  | none=>none
def setL:List As→List (Nat×As)→List As
 | l,[]=>l
 | l,x::r=>setL (l.set x.1 x.2) r
section
variable {P:Program} {n:Nat} {R0:Fz} {Q:Exit→Act→World→Prop} {E E0:Env} {l:List As} {β γ:Type} {κ:β→Prop} {Eb:γ→Env} {lb:γ→List As}
theorem lq {c:Code} (L:Nat→γ→Option β) {k:Nat} (b:γ) (H:aS (L k b) κ) (ks:List Nat) (Ec:γ→Env) (lc:γ→List (Nat×As)) (round:∀ k b,aS (L k b) κ→WP P n R0 c (Exit.then (wB n R0 (fun k b=>aS (L k b) κ) Eb lb k) Q) (Eb b) (lb b)) (_h0:Dw E ks []=some E0:=by exact rfl)
  (_he:∀ b,Ec b++E0=Eb b:=by intro b; (try simp only [List.cons_append,List.nil_append]); exact rfl) (_hb:∀ b,setL l (lc b)=lb b:=by intro b; (try simp only [setL,List.set,List.cons_append,List.nil_append]); exact rfl)
  (hE:∀ t p,find (Eb b) t=some p→find E t=some p:=by (repeat (first | exact jV | refine cW rfl ?_))) (hl:l.Perm (lb b):=by exact List.Perm.refl _):WP P n R0 (.loop c) Q E l:=WP.loopg L b H Eb lb hE hl round
theorem sq {α:Type} {x y:Code} {m:Option α} {f:α→Option β} (H:aS (m.bind f) κ) (π:γ→α) (ks:List Nat) (Ec:γ→Env) (lc:γ→List (Nat×As)) (h2:∀ b,aS (f (π b)) κ→WP P n R0 y Q (Eb b) (lb b)) (h1:aS m (fun a=>aS (f a) κ)→WP P n R0 x (Exit.then (Jn n R0 (fun b=>aS (f (π b)) κ) Eb lb) Q) E l) (_h0:Dw E ks []=some E0:=by exact rfl)
  (_he:∀ b,Ec b++E0=Eb b:=by intro b; (try simp only [List.cons_append,List.nil_append]); exact rfl) (_hb:∀ b,setL l (lc b)=lb b:=by intro b; (try simp only [setL,List.set,List.cons_append,List.nil_append]); exact rfl):WP P n R0 (.seq x y) Q E l:=WP.jh H π Eb lb h2 h1
theorem sr {α:Type} {x y:Code} {m:Option (α ⊕ β)} {f:α→Option β} (H:aS (m.bind (fall f)) κ) (π:γ→α) (ks:List Nat) (Ec:γ→Env) (lc:γ→List (Nat×As)) (h2:∀ b,aS (f (π b)) κ→WP P n R0 y Q (Eb b) (lb b)) (h1:aS m (fun o=>aS (fall f o) κ)→WP P n R0 x (Exit.then (Jn n R0 (fun b=>aS (f (π b)) κ) Eb lb) Q) E l) (_h0:Dw E ks []=some E0:=by exact rfl)
  (_he:∀ b,Ec b++E0=Eb b:=by intro b; (try simp only [List.cons_append,List.nil_append]); exact rfl) (_hb:∀ b,setL l (lc b)=lb b:=by intro b; (try simp only [setL,List.set,List.cons_append,List.nil_append]); exact rfl):WP P n R0 (.seq x y) Q E l:=WP.yL H π Eb lb h2 h1
end
end Go.Sp
