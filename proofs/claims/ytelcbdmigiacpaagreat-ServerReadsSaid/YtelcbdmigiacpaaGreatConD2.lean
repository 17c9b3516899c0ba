import Derived.Test.YtelcbdmigiacpaaGreatConD1
import Derived.Test.YtelcbdmigiacpaaGreatConA6
set_option linter.all false
namespace Go.Sp
open Go
section
variable {P:Program} {n:Nat} {R0:Fz} {Q:Exit->Act->World->Prop} {E:Env} {l:List As}
def resv (E:Env):List ResultVar->Option (List VP)
 | []=>some []
 | .tmp t::rs=>match find E t with
  | some p=>match resv E rs with
   | some ps=>some (p::ps)
   | none=>none
  | none=>none
 | _=>none
theorem xu:∀ {rs:List ResultVar} {ps:List VP},resv E rs=some ps->bV (zP P n E l) rs ps
 | [],ps,h=>by cases h;exact .nil
 | .tmp t::rs,ps,h=>by
  unfold resv at h
  split at h
  ·rename_i p hp
   split at h
   ·rename_i ps' hps
    cases h;exact .cons (aQ hp) (xu hps)
   ·cases h
  ·cases h
 | .cell _ _::_,ps,h=>by cases h
theorem ek {fn:Func} {ret:Unit->VP} {post:Unit->List As} {F:List As} {rs:List ResultVar} {ps:List VP} (m:Nat) (hQ:∀ a w,bodyPost P fn (qH R0 (λ_:Unit=>True) ret post F) .ret a w->Q .ret a w:=by exact Go.Sp.i2) (hf:fn.results=rs.toArray:=by exact rfl)
  (h:resv E rs=some ps:=by exact rfl) (hp:ret ()=pv ps:=by exact rfl) (h3:l.drop m=post ()++F:=by exact rfl):WP P n R0 .ret Q E l:=
 WP.u7 hQ hf () trivial (xu h) hp λR w k=>h3 ▸ Nat.rec (motive:=λm=>St R (l.drop m) w) k (λm ih=>by
  rw [show l.drop (m+1)=(l.drop m).drop 1 by rw [List.drop_drop]]
  cases e:l.drop m with
  | nil=>rw [e] at ih;exact ih
  | cons A t=>rw [e] at ih;exact ih.drop) m
theorem et {fn:Func} {γ:Type} {ok:γ->Prop} {ret:γ->VP} {post:γ->List As} {F:List As} {rs:List ResultVar} {ps:List VP} (b:γ) (m:Nat) (js:List Nat) (d:Nat) (hQ:∀ a w,bodyPost P fn (qH R0 ok ret post F) .ret a w->Q .ret a w:=by exact Go.Sp.i2) (hf:fn.results=rs.toArray:=by exact rfl)
  (h:resv E rs=some ps:=by exact rfl) (hb:ok b:=by exact trivial) (hp:ret b=pv ps:=by exact rfl)
  (h1:js.isPerm (List.range m)=true:=by kernel_rfl) (h2:(l.take m).length=m:=by exact rfl) (h3:(sel (l.take m) js++l.drop m).drop d=post b++F:=by exact rfl):WP P n R0 .ret Q E l:=
 WP.u7 hQ hf b hb (xu h) hp (ur m js d h1 h2 h3)
theorem ws {c:Code} {l':List As} (m:Nat) (js:List Nat) (d:Nat) (k:WP P n R0 c Q E l') (h1:js.isPerm (List.range m)=true:=by kernel_rfl) (h2:(l.take m).length=m:=by exact rfl)
  (h3:(sel (l.take m) js++l.drop m).drop d=l':=by (try simp only [List.take,List.drop,sel,List.getD_cons_zero,List.getD_cons_succ,List.cons_append,List.nil_append]);exact rfl):WP P n R0 c Q E l:=
 WP.gh (bL (py m js d h1 h2 h3)) λ_ _=>k
theorem ns {G:Act->World->Prop} {l':List As} (m:Nat) (js:List Nat) (d:Nat) (k:∀ R a w,R0.le R->od n R a E->St R l' w->G a w) (h1:js.isPerm (List.range m)=true:=by kernel_rfl) (h2:(l.take m).length=m:=by exact rfl)
  (h3:(sel (l.take m) js++l.drop m).drop d=l':=by (try simp only [List.take,List.drop,sel,List.getD_cons_zero,List.getD_cons_succ,List.cons_append,List.nil_append]);exact rfl):∀ R a w,R0.le R->od n R a E->St R l w->G a w:=
 Dn.gh (bL (py m js d h1 h2 h3)) λ_ _=>k
end
section
variable {P:Program} {ops:Array Oper} {n:Nat} {dr:Bool} {R0:Fz} {K:KU} {E:Env} {l:List As} {pend:List (Nat×(List As->Prop))} {rest:List (Nat×Bool)} {i d:Nat}
variable {T:TypeId} {ps:String} {af:Array Edge} {g:Option (Nat×Bool)} {x y:Operand} {p:VP}
theorem sy [TB:qu P] {t:TypeId} {bb:Bool} {sz b off:Nat} {bT:TypeId} {ps' qs:Cs} {l2:List As} (j:Nat) (k:Dv P ops n dr R0 K E l2 pend rest) (ho:opAt ops.toList i=some ⟨none,.store t x y,T,ps,af,g⟩:=by exact rfl) (hg:fZ ops E g:=by first | exact trivial | exact gg rfl)
  (hx:opv E x=some (eq (.pointer (some ⟨b,off,none⟩))):=by exact rfl) (hy:opv E y=some p:=by exact rfl) (hq:ma p qs:=by first | exact cE | exact cA) (hs:lk t TB.sz=some (bb,sz):=by exact rfl) (hj:l[j]? = some (ar b bT ps'):=by exact rfl) (hl:qs.length=sz:=by exact rfl) (hle:Nat.ble (off+sz) ps'.length=true:=by exact rfl)
  (hp:dr=true->∀ z∈pend,((Region.before ops).getD i 0).testBit z.1=true\/∀ _:Unit,z.2 (l.set j (ar b bT (oO ps' off qs))):=by exact nofun)
  (h2:l.set j (ar b bT (oO ps' off qs))=l2:=by (try simp only [List.set,oO,List.take,List.drop,List.length,List.cons_append,List.nil_append]);exact rfl) (hkb:K.kZ E l pend ((i,true)::rest):=by first | exact trivial | assumption):Dv P ops n dr R0 K E l pend ((i,true)::rest):=by
 obtain⟨td,h1,_,h3⟩:=B8 hs
 subst h2
 exact Dv.stx _ ho hg hx hy hq h1 h3 hl hj (Nat.le_of_ble_eq_true hle) rfl hp k hkb
theorem sv [TB:qu P] {t:TypeId} {bb:Bool} {sz b off:Nat} {bT:TypeId} {ps' qs:Cs} {l2:List As} (j:Nat) (k:Dv P ops n dr R0 K E l2 pend rest) (ho:opAt ops.toList i=some ⟨none,.store t x y,T,ps,af,g⟩:=by exact rfl) (hg:fZ ops E g:=by first | exact trivial | exact gg rfl)
  (hx:opv E x=some (eq (.pointer (some ⟨b,off,none⟩))):=by exact rfl) (hy:opv E y=some p:=by exact rfl) (hq:ma p qs:=by first | exact cE | exact cA) (hs:lk t TB.sz=some (bb,sz):=by exact rfl) (hj:l[j]? = some (ar b bT ps'):=by exact rfl) (hl:qs.length=sz:=by exact rfl) (hle:Nat.ble (off+sz) ps'.length=true:=by exact rfl)
  (hp:dr=true->∀ z∈pend,((Region.before ops).getD i 0).testBit z.1=true\/∀ _:Unit,z.2 (l.set j (ar b bT (oO ps' off qs))):=by exact pB)
  (h2:l.set j (ar b bT (oO ps' off qs))=l2:=by (try simp only [List.set,oO,List.take,List.drop,List.length,List.cons_append,List.nil_append]);exact rfl) (hkb:K.kZ E l pend ((i,true)::rest):=by first | exact trivial | assumption):Dv P ops n dr R0 K E l pend ((i,true)::rest):=by
 obtain⟨td,h1,_,h3⟩:=B8 hs
 subst h2
 exact Dv.stx _ ho hg hx hy hq h1 h3 hl hj (Nat.le_of_ble_eq_true hle) rfl hp k hkb
end
section
variable {k:Nat} {ops:Array Oper} {pend:List (Nat×(List As->Prop))} {γ:Type} {L:γ->List As} {dr:Bool}
theorem pD (h:∀ z∈pend,((Region.before ops).getD k 0).testBit z.1=true\/∀ b,z.2 (L b):=by (repeat (first | exact qI | refine eB (λ_=>trivial) ?_ | refine eB (λ_=>ab 0 rfl) ?_ | refine eB (λ_=>ab 1 rfl) ?_ | refine eB (λ_=>ab 2 rfl) ?_ | refine eB (λ_=>ab 3 rfl) ?_ | refine eB (λ_=>ab 4 rfl) ?_ | refine eB (λ_=>ab 5 rfl) ?_ | refine eB (λ_=>ab 6 rfl) ?_ | refine eB (λ_=>ab 7 rfl) ?_ | refine eB (λ_=>ab 8 rfl) ?_ | refine eB (λ_=>ab 9 rfl) ?_ | refine eB (λ_=>ab 10 rfl) ?_ | refine eB (λ_=>ab 11 rfl) ?_ | refine dB kr ?_))):
  dr=true->∀ z∈pend,((Region.before ops).getD k 0).testBit z.1=true\/∀ b,z.2 (L b):=λ_=>h
theorem pE {ok:γ->Prop} (h:dr=true->∀ z∈pend,((Region.before ops).getD k 0).testBit z.1=true\/∀ b,z.2 (L b):=by exact pD):
  dr=true->∀ z∈pend,((Region.before ops).getD k 0).testBit z.1=true\/∀ b,ok b->z.2 (L b):=λe=>BG (h e)
end
theorem pU {ops:Array Oper} {Cb:List Nat} {c:List (Nat×Bool)} {pend:List (Nat×(List As->Prop))} {l2:Nat->List As} (h:∀ x∈pend,oB ops Cb c x.1=true\/∀ b:Nat,x.2 (l2 b):=by (repeat (first | exact IB | refine mA (λ_=>trivial) ?_ | refine mA (λ_=>ab 0 rfl) ?_ | refine mA (λ_=>ab 1 rfl) ?_ | refine mA (λ_=>ab 2 rfl) ?_ | refine mA (λ_=>ab 3 rfl) ?_ | refine mA (λ_=>ab 4 rfl) ?_ | refine mA (λ_=>ab 5 rfl) ?_ | refine mA (λ_=>ab 6 rfl) ?_ | refine mA (λ_=>ab 7 rfl) ?_ | refine mA (λ_=>ab 8 rfl) ?_ | refine mA (λ_=>ab 9 rfl) ?_ | refine mA (λ_=>ab 10 rfl) ?_ | refine mA (λ_=>ab 11 rfl) ?_ | refine gQ kr ?_))):
  ∀ x∈pend,oB ops Cb c x.1=true\/∀ b:Nat,x.2 (l2 b):=h
theorem sh {P:Program} {ops:Array Oper} {n:Nat} {R0:Fz} {K:KU} {E:Env} {l:List As} {pend:List (Nat×(List As->Prop))} {c:List (Nat×Bool)} (d:Nat) {t b:Bool} (h:t=b) (k:Dv P ops n false R0 K ((d,eq (.bool b))::E) l pend c) (hv:find E d=some (eq (.bool t)):=by exact rfl):Dv P ops n false R0 K E l pend c:=Dv.gh (gh_sh d h hv) λ_ _=>k
section
variable {P:Program} {n:Nat} {R0:Fz} {Q:Exit->Act->World->Prop} {E:Env} {l:List As} {β:Type} {κ:β->Prop} {y:Code}
theorem wr {id:Nat} {ops:Array Oper} (m b:Nat) (h:Dv P ops n false R0 (KU.of n R0 (Exit.then (y.wp P Q) Q .normal)) E l [] (bs 0 m b)) (hc:pZ ops n (bs 0 m b)=true:=by kernel_rfl):WP P n R0 (.seq (.region id ops false) y) Q E l:=WP.seq (rg m b h hc)
theorem wd {id:Nat} {ops:Array Oper} (hm:P.follows .mixedOrders=true) (m b:Nat) (h:Dv P ops n true R0 (KU.of n R0 (Exit.then (y.wp P Q) Q .normal)) E l [] (bs 0 m b)) (hc:chk ops n (bs 0 m b)=true:=by kernel_rfl):WP P n R0 (.seq (.region id ops true) y) Q E l:=WP.seq (dg hm m b h hc)
theorem ce {x:Operand} {c1 c2:Code} {b:Bool} {A B:Option β} (H:aW (cond b A B) κ) (h1:aW A κ->WP P n R0 c1 Q E l) (h2:aW B κ->WP P n R0 c2 Q E l) (hx:opv E x=some (eq (.bool b)):=by exact rfl):WP P n R0 (.cond x c1 c2) Q E l:=cd H hx (λ_=>h1) λ_=>h2
end
theorem cf {P:Program} {n:Nat} {R0:Fz} {Q:Exit->Act->World->Prop} {E:Env} {l:List As} {β:Type} {κ:β->Prop} {x:Operand} {c1 c2:Code} {b:Bool} {A B:Option β} (H:aW (cond b A B) κ) (h2:aW B κ->WP P n R0 c2 Q E l) (h1:aW A κ->WP P n R0 c1 Q E l) (hx:opv E x=some (eq (.bool b)):=by exact rfl):WP P n R0 (.cond x c1 c2) Q E l:=ce H h1 h2 hx
theorem pf {P:Program} {fn:Func} {f:FuncId} {c:Code} {vs:List VP} {ret:VP} {β:Type} {x:Option β} {r:β} {n:Nat} (hf:P.funcs[f]? = some fn) (hx:x=some r) (h:∀ (R0:Fz) (F:List As),aW x (λv=>v=r)->WP P n R0 c (bodyPost P fn (qH R0 (λ_:Unit=>True) (λ_=>ret) (λ_=>[]) F)) (enum 0 vs) ([]++F))
  (hn:fn.ntmps=n:=by exact rfl) (hb:fn.body=some c:=by exact rfl) (hlen:Nat.ble vs.length n=true:=by exact rfl):Pt P f vs ret:=pb hf hn hx h hb hlen
theorem tf {P:Program} {fn:Func} {f:FuncId} {c:Code} {vs:List VP} {pre:List As} {γ:Type} {ok:γ->Prop} {ret:γ->VP} {post:γ->List As} {β:Type} {x:Option β} {r:β} {n:Nat} (hf:P.funcs[f]? = some fn) (hx:x=some r) (h:∀ (R0:Fz) (F:List As),aW x (λv=>v=r)->WP P n R0 c (bodyPost P fn (qH R0 ok ret post F)) (enum 0 vs) (pre++F))
  (hn:fn.ntmps=n:=by exact rfl) (hb:fn.body=some c:=by exact rfl) (hlen:Nat.ble vs.length n=true:=by exact rfl):Tr P f vs pre ok ret post:=tb hf hn hx h hb hlen
theorem bm {β:Type} {b:Bool} {A B:Option β} {κ:β->Prop} (H:aW (cond b A B) κ):(b=false/\aW B κ)\/(b=true/\aW A κ):=by
 cases b with
 | true=>exact .inr ⟨rfl,H.ct rfl⟩
 | false=>exact .inl ⟨rfl,H.cf rfl⟩
section
variable {v:Value} {q:VP} {E:Env}
inductive GI (v:Value) (q:VP) (E:Env):List Nat->Env->Prop
 | nil:GI v q E [] []
 | cons {E':Env} {t:Nat} {ts:List Nat} {p p':VP} (h:find E t=some p) (hc:Cv v q p p') (k:GI v q E ts E'):GI v q E (t::ts) ((t,p')::E')
theorem GI.ok {ts:List Nat} {E':Env} (h:GI v q E ts E'):Jm v q E E':=by
 induction h with
 | nil=>exact iG
 | cons h hc _ ih=>exact ao h hc ih
inductive D8 (v:Value) (q:VP):List Nat->List As->List As->Prop
 | nil {l:List As}:D8 v q [] l l
 | ar {b:Nat} {T:TypeId} {ps ps':Cs} {bs:List Nat} {l l':List As} (h:bV (Cv v q) ps ps') (k:D8 v q bs l l'):D8 v q (1::bs) (ar b T ps::l) (ar b T ps'::l')
 | id {A:As} {bs:List Nat} {l l':List As} (k:D8 v q bs l l'):D8 v q (0::bs) (A::l) (A::l')
theorem BH:∀ {l:List As},bV (Jd v q) l l
 | []=>.nil
 | _::l=>.cons bn (BH (l:=l))
theorem D8.ok {bs:List Nat} {l l':List As} (h:D8 v q bs l l'):bV (Jd v q) l l':=by
 induction h with
 | nil=>exact BH
 | ar h _ ih=>exact .cons (pW h) ih
 | id _ ih=>exact .cons bn ih
end
theorem fz {P:Program} {n:Nat} {R0:Fz} {Q:Exit->Act->World->Prop} {E E':Env} {l l0 l':List As} {c:Code} {α:Type} {Kd:Kd α} {v:Value} {xs:List α} (j:Nat) (ts bs:List Nat) (k:WP P n R0 c Q E' l') (hj:l[j]? = some (own Kd v xs):=by exact rfl)
  (h0:l.eraseIdx j=l0:=by (try simp only [List.eraseIdx,List.cons_append,List.nil_append]);exact rfl) (hE:GI v (sl Kd xs) E ts E':=by (repeat (first | exact GI.nil | apply GI.cons rfl jx | apply GI.cons rfl aB)))
  (hl:D8 v (sl Kd xs) bs l0 l':=by (repeat (first | exact D8.nil | apply D8.id | (apply D8.ar;(repeat (first | exact bV.nil | apply bV.cons jx | apply bV.cons aB)))))):WP P n R0 c Q E l:=
 WP.gh (o4 j hj hE.ok (h0 ▸ hl.ok)) λ_ _=>k
def Bf (E:Env):List Nat->Env->Option Env
 | [],a=>some a
 | t::ts,a=>match find E t with
  | some p=>Bf E ts ((t,p)::a)
  | none=>none
def setL:List As->List (Nat×As)->List As
 | l,[]=>l
 | l,x::r=>setL (l.set x.1 x.2) r
section
variable {P:Program} {n:Nat} {R0:Fz} {Q:Exit->Act->World->Prop} {E E0:Env} {l:List As} {β γ:Type} {κ:β->Prop} {Eb:γ->Env} {lb:γ->List As}
theorem lq {c:Code} (L:Nat->γ->Option β) {k:Nat} (b:γ) (H:aW (L k b) κ) (ks:List Nat) (Ec:γ->Env) (lc:γ->List (Nat×As)) (round:∀ k b,aW (L k b) κ->WP P n R0 c (Exit.then (qt n R0 (λk b=>aW (L k b) κ) Eb lb k) Q) (Eb b) (lb b)) (_h0:Bf E ks []=some E0:=by exact rfl)
  (_he:∀ b,Ec b++E0=Eb b:=by intro b;(try simp only [List.cons_append,List.nil_append]);exact rfl) (_hb:∀ b,setL l (lc b)=lb b:=by intro b;(try simp only [setL,List.set,List.cons_append,List.nil_append]);exact rfl)
  (hE:∀ t p,find (Eb b) t=some p->find E t=some p:=by (repeat (first | exact dD | refine aH rfl ?_))) (hl:l.Perm (lb b):=by exact List.Perm.refl _):WP P n R0 (.loop c) Q E l:=WP.HE L b H Eb lb hE hl round
theorem sq {α:Type} {x y:Code} {m:Option α} {f:α->Option β} (H:aW (m.bind f) κ) (π:γ->α) (ks:List Nat) (Ec:γ->Env) (lc:γ->List (Nat×As)) (h2:∀ b,aW (f (π b)) κ->WP P n R0 y Q (Eb b) (lb b)) (h1:aW m (λa=>aW (f a) κ)->WP P n R0 x (Exit.then (Jn n R0 (λb=>aW (f (π b)) κ) Eb lb) Q) E l) (_h0:Bf E ks []=some E0:=by exact rfl)
  (_he:∀ b,Ec b++E0=Eb b:=by intro b;(try simp only [List.cons_append,List.nil_append]);exact rfl) (_hb:∀ b,setL l (lc b)=lb b:=by intro b;(try simp only [setL,List.set,List.cons_append,List.nil_append]);exact rfl):WP P n R0 (.seq x y) Q E l:=WP.kW H π Eb lb h2 h1
theorem sr {α:Type} {x y:Code} {m:Option (α ⊕ β)} {f:α->Option β} (H:aW (m.bind (fall f)) κ) (π:γ->α) (ks:List Nat) (Ec:γ->Env) (lc:γ->List (Nat×As)) (h2:∀ b,aW (f (π b)) κ->WP P n R0 y Q (Eb b) (lb b)) (h1:aW m (λo=>aW (fall f o) κ)->WP P n R0 x (Exit.then (Jn n R0 (λb=>aW (f (π b)) κ) Eb lb) Q) E l) (_h0:Bf E ks []=some E0:=by exact rfl)
  (_he:∀ b,Ec b++E0=Eb b:=by intro b;(try simp only [List.cons_append,List.nil_append]);exact rfl) (_hb:∀ b,setL l (lc b)=lb b:=by intro b;(try simp only [setL,List.set,List.cons_append,List.nil_append]);exact rfl):WP P n R0 (.seq x y) Q E l:=WP.Gr H π Eb lb h2 h1
end
end Go.Sp
