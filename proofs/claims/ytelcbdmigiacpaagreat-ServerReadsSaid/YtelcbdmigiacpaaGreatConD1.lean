import Derived.Test.YtelcbdmigiacpaaGreatConQ
set_option linter.all false
namespace Go.Sp
open Go
def szB (P:Program) (t:Nat) (b:Bool) (z:Nat):Bool:=match P.underlying t with
 | some td=>qe td==b&&P.cellsOf t==z
 | none=>false
def faB (P:Program) (s j o:Nat):Bool:=match P.underlying s with
 | some (.struct fs)=>match fs[j]? with
  | some f=>(P.underlying f.type).isSome&&P.cellsOf f.type != 0&&f.offset==o
  | none=>false
 | _=>false
class qu (P:Program) where
 fo:List (Nat×List (Nat×Nat))
 sz:List (Nat×Bool×Nat)
 foOk:fo.all (λs=>s.2.all (λj=>faB P s.1 j.1 j.2))=true
 szOk:sz.all (λt=>szB P t.1 t.2.1 t.2.2)=true
def lk {α:Type} (t:Nat):List (Nat×α)->Option α
 | []=>none
 | x::l=>match Nat.beq x.1 t with
  | true=>some x.2
  | false=>lk t l
theorem xM {α:Type} {t:Nat} {a:α}:∀ {l:List (Nat×α)},lk t l=some a->(t,a)∈l
 | [],h=>by cases h
 | x::l,h=>by
  unfold lk at h
  split at h
  ·rename_i e
   cases h;rw [<- Nat.eq_of_beq_eq_true e];exact List.mem_cons_self ..
  ·exact List.mem_cons_of_mem _ (xM h)
def foff (F:List (Nat×List (Nat×Nat))) (s j:Nat):Option Nat:=match lk s F with
 | some l=>lk j l
 | none=>none
theorem fo_ok {P:Program} [T:qu P] {s j o:Nat} (h:foff T.fo s j=some o):FA P s j o:=by
 unfold foff at h
 split at h
 ·rename_i l hl
  have h1:=List.all_eq_true.1 (List.all_eq_true.1 T.foOk _ (xM hl)) _ (xM h)
  unfold faB at h1
  split at h1
  ·rename_i fs hs
   split at h1
   ·rename_i f hf
    simp only [Bool.and_eq_true,bne_iff_ne,beq_iff_eq] at h1
    obtain⟨fd,hfd⟩:=Option.isSome_iff_exists.1 h1.1.1
    exact⟨fs,f,fd,_,hs,hf,hfd,rfl,h1.1.2,h1.2⟩
   ·cases h1
  ·cases h1
 ·cases h
theorem B8 {P:Program} [T:qu P] {t z:Nat} {b:Bool} (h:lk t T.sz=some (b,z)):∃ td,P.underlying t=some td/\qe td=b/\P.cellsOf t=z:=by
 have h1:=List.all_eq_true.1 T.szOk _ (xM h)
 unfold szB at h1
 split at h1
 ·rename_i td ht
  simp only [Bool.and_eq_true,beq_iff_eq] at h1
  exact⟨td,ht,h1.1,h1.2⟩
 ·cases h1
def vw (E:Env) (x:Operand):Option Value:=match opv E x with
 | some q=>q.w
 | none=>none
theorem se {E:Env} {x:Operand} {v u:Value} {R:Fz} (h:vw E x=some v) (hs:∀ p,opv E x=some p->p.p R u):u=v:=by
 unfold vw at h
 split at h
 ·rename_i q hq;exact q.k.ok v h R u (hs q hq)
 ·cases h
def iop (k:IntKind) (a b:Int):BinOp->Option Value
 | .add=>some (.int k (k.wrap (a+b)))
 | .sub=>some (.int k (k.wrap (a-b)))
 | .mul=>some (.int k (k.wrap (a*b)))
 | .lss=>some (.bool (decide (a<b)))
 | .leq=>some (.bool (decide (a<=b)))
 | .gtr=>some (.bool (decide (b<a)))
 | .geq=>some (.bool (decide (b<=a)))
 | .eql=>some (.bool (a==b))
 | .neq=>some (.bool (a != b))
 | _=>none
def sop (a b:BA):BinOp->Option Value
 | .eql=>some (.bool (decide (a=b)))
 | .neq=>some (.bool (!decide (a=b)))
 | .lss=>some (.bool (il a b))
 | .gtr=>some (.bool (il b a))
 | .leq=>some (.bool (!il b a))
 | .geq=>some (.bool (!il a b))
 | _=>none
def bopV (op:BinOp):Value->Value->Option Value
 | .int k a,.int k' b=>if k=k' then iop k a b op else none
 | .string a,.string b=>sop a b op
 | _,_=>none
theorem IF {op:BinOp} {u v r:Value} (h:bopV op u v=some r) {P:Program} {w:World} {xT:TypeId} {x y:Operand}:
  (do eqGuard op xT x y u v;binOp op xT u v:Sem Value).run P w = .ok r w:=by
 unfold bopV at h
 split at h
 ·split at h
  ·rename_i e
   subst e
   unfold iop at h
   split at h
   ·cases h;exact q9
   ·cases h;exact BV
   ·cases h;exact Gf
   ·cases h;exact E7
   ·cases h;exact Ig
   ·cases h;exact IK
   ·cases h;exact H7
   ·cases h;exact run_eq
   ·cases h;exact DX
   ·cases h
  ·cases h
 ·unfold sop at h
  split at h
  ·cases h;exact run_seq
  ·cases h;exact F6
  ·cases h;exact FT
  ·cases h;exact FB
  ·cases h;exact Gc
  ·cases h;exact G9
  ·cases h
 ·cases h
def uopV:UnOp->Value->Option Value
 | .not,.bool b=>some (.bool !b)
 | .neg,.int k a=>some (.int k (k.wrap (0-a)))
 | _,_=>none
theorem I5 {op:UnOp} {u r:Value} (h:uopV op u=some r) {P:Program} {w:World}:(Op.unary op u).run P w = .ok r w:=by
 unfold uopV at h
 split at h
 ·cases h;exact rk _
 ·cases h;exact GB _ _
 ·cases h
def stp (F:List (Nat×List (Nat×Nat))) (E:Env):Op->Option VP
 | .move x=>opv E x
 | .assign x=>opv E x
 | .pick c x y=>match vw E c with
  | some (.bool true)=>opv E x
  | some (.bool false)=>opv E y
  | _=>none
 | .binOp op _ x y _=>match vw E x with
  | some u=>match vw E y with
   | some v=>match bopV op u v with
    | some r=>some (eq r)
    | none=>none
   | none=>none
  | none=>none
 | .unOp op _ x=>match vw E x with
  | some u=>match uopV op u with
   | some r=>some (eq r)
   | none=>none
  | none=>none
 | .nilCheck x=>match vw E x with
  | some (.pointer (some u))=>some (eq (.pointer (some u)))
  | _=>none
 | .fieldAddr s x j=>match vw E x with
  | some (.pointer (some ⟨b,off,none⟩))=>match foff F s j with
   | some o=>some (eq (.pointer (some ⟨b,off+o,none⟩)))
   | none=>none
  | _=>none
 | _=>none
theorem IV {P:Program} [T:qu P] {E:Env} {op:Op} {p:VP} (h:stp T.fo E op=some p) {R:Fz} {a:Act} {w:World} {d:Nat} {ty:TypeId} {ps:String} {af:Array Edge} {g:Option (Nat×Bool)}
  (hs:∀ x∈op.operands,∀ q,opv E x=some q->q.p R (a.eval x)):∃ v,p.p R v/\(execOp a.eval ⟨some d,op,ty,ps,af,g⟩).run P w = .ok (.value v) w:=by
 unfold stp at h
 split at h
 ·rename_i x;exact⟨_,hs x (by simp [Op.operands]) p h,by simp [execOp]⟩
 ·rename_i x;exact⟨_,hs x (by simp [Op.operands]) p h,by simp [execOp]⟩
 ·rename_i c x y
  split at h
  ·rename_i e
   have:=se e (hs c (by simp [Op.operands]))
   exact⟨_,hs x (by simp [Op.operands]) p h,by simp [execOp,this,asBool]⟩
  ·rename_i e
   have:=se e (hs c (by simp [Op.operands]))
   exact⟨_,hs y (by simp [Op.operands]) p h,by simp [execOp,this,asBool]⟩
  ·cases h
 ·rename_i op xT x y yT
  split at h
  ·rename_i u hu
   split at h
   ·rename_i v hv
    split at h
    ·rename_i r hr
     cases h
     have e1:=se hu (hs x (by simp [Op.operands]))
     have e2:=se hv (hs y (by simp [Op.operands]))
     have:=IF hr (P:=P) (w:=w) (xT:=xT) (x:=x) (y:=y)
     refine⟨r,rfl,?_⟩
     simp only [execOp,e1,e2]
     simp at this ⊢
     cases he:(eqGuard op xT x y u v).run P w <;> simp [he] at this ⊢
     simp [this]
    ·cases h
   ·cases h
  ·cases h
 ·rename_i op xT x
  split at h
  ·rename_i u hu
   split at h
   ·rename_i r hr
    cases h
    have e1:=se hu (hs x (by simp [Op.operands]))
    exact⟨r,rfl,by simp [execOp,e1,I5 hr]⟩
   ·cases h
  ·cases h
 ·rename_i x
  split at h
  ·rename_i u hu
   cases h
   have e1:=se hu (hs x (by simp [Op.operands]))
   exact⟨_,rfl,by simp [execOp,e1]⟩
  ·cases h
 ·rename_i s x j
  split at h
  ·rename_i b off hu
   split at h
   ·rename_i o ho
    cases h
    obtain⟨fs,f,fd,sz,h1,h2,h3,h4,h5,rfl⟩:=fo_ok ho
    have e1:=se hu (hs x (by simp [Op.operands]))
    exact⟨_,rfl,by simp [execOp,e1,Instr.fieldAt,underlying,h1,h2,Instr.sureAddr,mU h3 h4 h5]⟩
   ·cases h
  ·cases h
 ·cases h
def gO (ops:Array Oper) (E:Env):Option (Nat×Bool)->Option Bool
 | none=>some true
 | some (j,b)=>match opAt ops.toList j with
  | some o=>match o.dst with
   | some t=>match find E t with
    | some q=>match q.w with
     | some (.bool true)=>some b
     | some (.bool false)=>some !b
     | some (.tuple ⟨[]⟩)=>some false
     | _=>none
    | none=>none
   | none=>none
  | none=>none
theorem A1 {ops:Array Oper} {E:Env} {R:Fz} {a:Act} {o:Oper} {c:Bool} (h:gO ops E o.guard=some c) (hs:zX R a E (o.looksAt ops)):Region.wanted o (yielded ops a.tmps)=c:=by
 unfold Region.wanted
 cases e:o.guard with
 | none=>rw [e] at h;cases h;rfl
 | some jb=>
  obtain⟨j,b⟩:=jb
  rw [e] at h
  unfold gO at h
  dsimp only at h
  split at h
  ·rename_i o' h1
   split at h
   ·rename_i t h2
    split at h
    ·rename_i q h3
     have ht:t∈o.looksAt ops:=List.mem_append_right _ (by simp [e,fC h1,h2])
     have hv:=hs t ht _ h3
     split at h
     ·rename_i hw
      cases h
      have hv:=rV (a:=a) (q.k.ok _ hw _ _ hv)
      simp [yielded,fC h1,h2,hv]
     ·rename_i hw
      cases h
      have hv:=rV (a:=a) (q.k.ok _ hw _ _ hv)
      simp [yielded,fC h1,h2,hv]
     ·rename_i hw
      cases h
      have hv:=q.k.ok _ hw _ _ hv
      simp only [Act.get,Array.getD_eq_getD_getElem?] at hv
      cases e5:a.tmps[t]? with
      | none=>simp [yielded,fC h1,h2,e5]
      | some v=>
       rw [e5] at hv
       simp only [Option.getD_some] at hv
       subst hv
       simp [yielded,fC h1,h2,e5]
     ·cases h
    ·cases h
   ·cases h
  ·cases h
theorem wP {A:As} {l:List As} {b:Nat} {T:TypeId} {ps:Cs} {R:Fz} {w:World} (hw:A.w=some (b,T,ps)) (hA:A∈l) (hst:St R l w):∃ cs:List Value,w.heap[b]? = some (.cells cs.toArray T)/\Cs.h R ps cs:=by
 obtain⟨m,hm,hh⟩:=St.read hA hst
 obtain⟨cs,rfl,hc⟩:=A.k.ok _ _ _ hw _ _ hm
 exact⟨cs,hh _ (List.mem_cons_self ..),hc⟩
def ldV (S:List (Nat×Bool×Nat)) (E:Env) (l:List As) (j:Nat) (t:Nat) (x:Operand):Option (VP×As×Nat×Nat):=match vw E x with
 | some (.pointer (some ⟨b,off,none⟩))=>match l[j]? with
  | some A=>match A.w with
   | some (b',_,qs)=>match lk t S with
    | some (false,_)=>match qs[off]? with
     | some p=>some (p,A,b,b')
     | none=>none
    | some (true,z)=>match Nat.ble (off+z) qs.length with
     | true=>some (agg ((qs.drop off).take z),A,b,b')
     | false=>none
    | none=>none
   | none=>none
  | none=>none
 | _=>none
theorem H3 {P:Program} [T:qu P] {ops:Array Oper} {n:Nat} {E:Env} {l:List As} {j t b b':Nat} {x:Operand} {p:VP} {A:As} (h:ldV T.sz E l j t x=some (p,A,b,b')) (hb:b=b') {d:Nat} {ty:TypeId} {ps:String} {af:Array Edge} {g:Option (Nat×Bool)}
  (hg:gO ops E g=some true):eV P ops n ⟨some d,.load t x,ty,ps,af,g⟩ E (A∈·) p/\A∈l:=by
 unfold ldV at h
 split at h
 ·rename_i b0 off hx
  split at h
  ·rename_i A' hA
   split at h
   ·rename_i b1 bT qs hw
    split at h
    ·rename_i z hz
     split at h
     ·rename_i p' hp
      cases h
      subst hb
      refine⟨?_,List.mem_of_getElem? hA⟩
      intro R a w l _ _ hs hq hst K Q hk
      unfold runs
      rw [if_pos (A1 (o:=⟨some d,.load t x,ty,ps,af,g⟩) hg hs)]
      have e:=se hx (λp hp=>hs.op (by simp [Op.operands]) hp)
      obtain⟨td,h1,h2,h3⟩:=B8 hz
      obtain⟨cs,hh,hc⟩:=wP hw hq hst
      obtain⟨v,hv,hpv⟩:=ov hc hp
      have:=q5 (P:=P) (off:=off) hh h1 h2 (by simpa using hv)
      unfold Oper.wp
      rw [show(execOp a.eval ⟨some d,.load t x,ty,ps,af,g⟩).run P w = .ok (.value v) w by simp [execOp,e,Instr.loadAt,Instr.sureAddr,this]]
      exact hk R v w (Fz.le_refl R) hpv hst
     ·cases h
    ·rename_i z hz
     split at h
     ·rename_i hq
      cases h
      subst hb
      refine⟨?_,List.mem_of_getElem? hA⟩
      intro R a w l _ _ hs hq' hst K Q hk
      unfold runs
      rw [if_pos (A1 (o:=⟨some d,.load t x,ty,ps,af,g⟩) hg hs)]
      have e:=se hx (λp hp=>hs.op (by simp [Op.operands]) hp)
      obtain⟨td,h1,h2,h3⟩:=B8 hz
      obtain⟨cs,hh,hc⟩:=wP hw hq' hst
      have hl:=bV.length hc
      have hq2:=Nat.le_of_ble_eq_true hq
      have:=pR (P:=P) (off:=off) hh h1 h2 h3 (by simp;omega)
      unfold Oper.wp
      rw [show(execOp a.eval ⟨some d,.load t x,ty,ps,af,g⟩).run P w = .ok (.value _) w by simp [execOp,e,Instr.loadAt,Instr.sureAddr,this];rfl]
      exact hk R _ w (Fz.le_refl R) ⟨(cs.drop off).take z,sM,bV.take (bV.drop hc _) _⟩ hst
     ·cases h
    ·cases h
   ·cases h
  ·cases h
 ·cases h
def stepG (F:List (Nat×List (Nat×Nat))) (S:List (Nat×Bool×Nat)) (ops:Array Oper) (l:List As) (js:List Nat) (E:Env) (i:Nat):Option (Env×(List As->Prop)×List (Nat×Nat)×List Nat):=match opAt ops.toList i with
 | some ⟨d,op,_,_,_,g⟩=>match gO ops E g with
  | some true=>match d with
   | some d=>match op,js with
    | .load t x,j::js=>match ldV S E l j t x with
     | some (p,A,b,b')=>some ((d,p)::E,(A∈·),[(b,b')],js)
     | none=>none
    | op,js=>match stp F E op with
     | some p=>some ((d,p)::E,tt,[],js)
     | none=>none
   | none=>none
  | some false=>match d with
   | some d=>some ((d,eq undef)::E,tt,[],js)
   | none=>some (E,tt,[],js)
  | none=>none
 | none=>none
theorem Eo {P:Program} [T:qu P] {n:Nat} {ops:Array Oper} {l:List As} {js js':List Nat} {E E':Env} {i:Nat} {q:List As->Prop} {o:List (Nat×Nat)} (h:stepG T.fo T.sz ops l js E i=some (E',q,o,js')) (ho:∀ x∈o,x.1=x.2):
  ∃ (op:Oper) (p:VP),ops[i]? = some op/\eV P ops n op E q p/\q l/\ext E op.dst p=E':=by
 unfold stepG at h
 split at h
 ·rename_i d op ty ps af g hop
  split at h
  ·rename_i hg
   split at h
   ·rename_i d
    split at h
    ·rename_i t x j js
     split at h
     ·rename_i p A b b' hl
      cases h
      obtain⟨h1,h2⟩:=H3 (P:=P) (n:=n) (d:=d) (ty:=ty) (ps:=ps) (af:=af) (ops:=ops) hl (ho (b,b') (List.mem_cons_self ..)) hg
      exact⟨_,_,fC hop,h1,h2,rfl⟩
     ·cases h
    ·split at h
     ·rename_i p hp
      cases h
      refine⟨_,p,fC hop,?_,trivial,rfl⟩
      intro R a w l _ _ hs _ hst K Q hk
      unfold runs
      rw [if_pos (A1 (o:=⟨some d,_,ty,ps,af,g⟩) hg hs)]
      obtain⟨v,hv,hr⟩:=IV (P:=P) (w:=w) (d:=d) (ty:=ty) (ps:=ps) (af:=af) (g:=g) hp (λx hx p hp=>hs.op hx hp)
      unfold Oper.wp
      rw [hr]
      exact hk R v w (Fz.le_refl R) hv hst
     ·cases h
   ·cases h
  ·rename_i hg
   have key:eV P ops n ⟨d,op,ty,ps,af,g⟩ E tt (eq undef):=by
    intro R a w l _ _ hs _ hst K Q hk
    unfold runs
    rw [A1 (o:=⟨d,op,ty,ps,af,g⟩) hg hs]
    exact hk R undef w (Fz.le_refl R) rfl hst
   split at h
   ·cases h;exact⟨_,_,fC hop,key,trivial,rfl⟩
   ·cases h;exact⟨_,_,fC hop,key,trivial,rfl⟩
  ·cases h
 ·cases h
abbrev Pd:=List (Nat×(List As->Prop))
abbrev Rn:=Option (Env×Pd×List (Nat×Nat)×List (Nat×Bool))
def runG (F:List (Nat×List (Nat×Nat))) (S:List (Nat×Bool×Nat)) (ops:Array Oper) (l:List As):Nat->List Nat->Env->Pd->List (Nat×Nat)->List (Nat×Bool)->Rn
 | 0,_,E,pd,ob,c=>some (E,pd,ob,c)
 | m+1,js,E,pd,ob,c=>match c with
  | (i,false)::c=>match stepG F S ops l js E i with
   | some (E',q,o,js')=>runG F S ops l m js' E' ((i,q)::pd) (o++ob) c
   | none=>none
  | _=>none
section
variable {P:Program} {ops:Array Oper} {n:Nat} {dr:Bool} {R0:Fz} {K:KU} {l:List As}
def goR (P:Program) (ops:Array Oper) (n:Nat) (dr:Bool) (R0:Fz) (K:KU) (l:List As):Rn->Prop
 | some (E,pd,_,[])=>K.fin E l pd
 | some (E,pd,_,x::c)=>Dv P ops n dr R0 K E l pd (x::c)
 | none=>False
def Ji:Rn->List (Nat×Nat)
 | some (_,_,ob,_)=>ob
 | none=>[]
theorem GN {F:List (Nat×List (Nat×Nat))} {S:List (Nat×Bool×Nat)} {r:Env×Pd×List (Nat×Nat)×List (Nat×Bool)}:∀ {m:Nat} {js:List Nat} {E:Env} {pd:Pd} {ob:List (Nat×Nat)} {c:List (Nat×Bool)},runG F S ops l m js E pd ob c=some r->∀ x∈ob,x∈r.2.2.1:=by
 intro m
 induction m with
 | zero=>intro js E pd ob c h;unfold runG at h;cases h;exact λx hx=>hx
 | succ m ih=>
  intro js E pd ob c h
  unfold runG at h
  split at h
  ·split at h
   ·exact λx hx=>ih h x (List.mem_append_right _ hx)
   ·cases h
  ·cases h
theorem Ed [T:qu P]:∀ {m:Nat} {js:List Nat} {E:Env} {pd:Pd} {ob:List (Nat×Nat)} {c:List (Nat×Bool)},goR P ops n dr R0 K l (runG T.fo T.sz ops l m js E pd ob c)->
  (∀ x∈Ji (runG T.fo T.sz ops l m js E pd ob c),x.1=x.2)->Dv P ops n dr R0 K E l pd c:=by
 intro m
 induction m with
 | zero=>
  intro js E pd ob c h _
  unfold runG at h
  cases c with
  | nil=>exact .fin h
  | cons x c=>exact h
 | succ m ih=>
  intro js E pd ob c h ho
  unfold runG at h ho
  rcases c with _ | ⟨⟨i,b⟩,c⟩
  ·exact h.elim
  cases b with
  | true=>exact h.elim
  | false=>
   dsimp only at h ho
   cases hs:stepG T.fo T.sz ops l js E i with
   | none=>rw [hs] at h;exact h.elim
   | some r=>
    obtain⟨E',q,o,js'⟩:=r
    simp only [hs] at h ho
    cases hr:runG T.fo T.sz ops l m js' E' ((i,q)::pd) (o++ob) c with
    | none=>rw [hr] at h;exact h.elim
    | some r'=>
     have h1:=GN hr
     rw [hr] at h ho
     obtain⟨op,p,k1,k2,k3,k4⟩:=Eo (P:=P) (n:=n) hs (λx hx=>ho x (h1 x (List.mem_append_left _ hx)))
     subst k4
     exact .ok op q p k1 k2 k3 (ih (ob:=o++ob) (js:=js') (by rw [hr];exact h) (by rw [hr];exact ho))
theorem G1 {F:List (Nat×List (Nat×Nat))} {S:List (Nat×Bool×Nat)}:∀ {m:Nat} {E:Env} {pd:Pd} {c:List (Nat×Bool)},Ji (runG F S ops l m [] E pd [] c)=[]:=by
 intro m
 induction m with
 | zero=>intros;rfl
 | succ m ih=>
  intro E pd c
  unfold runG
  split
  ·rename_i i c
   cases hs:stepG F S ops l [] E i with
   | none=>rfl
   | some r=>
    obtain⟨E',q,o,js'⟩:=r
    have:o=[]/\js'=[]:=by
     unfold stepG at hs
     repeat' split at hs
     all_goals first | (cases hs;first | exact⟨rfl,rfl⟩ | exact nomatch (‹([]:List Nat)=_::_›)) | cases hs
    obtain⟨rfl,rfl⟩:=this
    exact ih
  ·rfl
theorem go [T:qu P] (m:Nat) {E:Env} {pd:Pd} {c:List (Nat×Bool)} (h:goR P ops n dr R0 K l (runG T.fo T.sz ops l m [] E pd [] c)):Dv P ops n dr R0 K E l pd c:=Ed h (by rw [G1];nofun)
theorem HY:∀ {l:List (Nat×Nat)},l.map (·.1)=l.map (·.2)->∀ x∈l,x.1=x.2
 | [],_,x,hx=>by cases hx
 | y::l,h,x,hx=>by
  injection h with h1 h2
  rcases List.mem_cons.1 hx with rfl | hx
  ·exact h1
  ·exact HY h2 x hx
theorem gl [T:qu P] (m:Nat) (js:List Nat) {E:Env} {pd:Pd} {c:List (Nat×Bool)} (h:goR P ops n dr R0 K l (runG T.fo T.sz ops l m js E pd [] c))
  (ho:(Ji (runG T.fo T.sz ops l m js E pd [] c)).map (·.1)=(Ji (runG T.fo T.sz ops l m js E pd [] c)).map (·.2):=by exact rfl):Dv P ops n dr R0 K E l pd c:=Ed h (HY ho)
variable {Q:Exit->Act->World->Prop} {E:Env}
theorem so [T:qu P] {id:Nat} {y:Code} (h:goR P ops n false R0 (KU.of n R0 (Exit.then (y.wp P Q) Q .normal)) l (runG T.fo T.sz ops l ops.size [] E [] [] (bs 0 ops.size 0))) (hc:pZ ops n (bs 0 ops.size 0)=true:=by kernel_rfl):WP P n R0 (.seq (.region id ops false) y) Q E l:=WP.seq (WP.qB _ hc (go _ h))
theorem wu [T:qu P] {id:Nat} {y:Code} (js:List Nat) (h:goR P ops n false R0 (KU.of n R0 (Exit.then (y.wp P Q) Q .normal)) l (runG T.fo T.sz ops l ops.size js E [] [] (bs 0 ops.size 0))) (hc:pZ ops n (bs 0 ops.size 0)=true:=by kernel_rfl)
  (ho:(Ji (runG T.fo T.sz ops l ops.size js E [] [] (bs 0 ops.size 0))).map (·.1)=(Ji (runG T.fo T.sz ops l ops.size js E [] [] (bs 0 ops.size 0))).map (·.2):=by exact rfl):WP P n R0 (.seq (.region id ops false) y) Q E l:=WP.seq (WP.qB _ hc (gl _ js h ho))
theorem gp [T:qu P] (m:Nat) {E E':Env} {pd pd':Pd} {c c':List (Nat×Bool)} {x:Nat×Bool} {ob:List (Nat×Nat)} (k:Dv P ops n dr R0 K E' l pd' (x::c')) (h:runG T.fo T.sz ops l m [] E pd [] c=some (E',pd',ob,x::c'):=by exact rfl):Dv P ops n dr R0 K E l pd c:=go m (by rw [h];exact k)
theorem jf [T:qu P] (m:Nat) (js:List Nat) {E E':Env} {pd pd':Pd} {c c':List (Nat×Bool)} {x:Nat×Bool} {ob:List (Nat×Nat)} (k:Dv P ops n dr R0 K E' l pd' (x::c')) (h:runG T.fo T.sz ops l m js E pd [] c=some (E',pd',ob,x::c'):=by exact rfl) (ho:ob.map (·.1)=ob.map (·.2):=by exact rfl):Dv P ops n dr R0 K E l pd c:=gl m js (by rw [h];exact k) (by rw [h];exact ho)
theorem gq [T:qu P] (m:Nat) {E E':Env} {pd pd':Pd} {c:List (Nat×Bool)} {ob:List (Nat×Nat)} (k:K.fin E' l pd') (h:runG T.fo T.sz ops l m [] E pd [] c=some (E',pd',ob,[]):=by exact rfl):Dv P ops n dr R0 K E l pd c:=go m (by rw [h];exact k)
theorem E9 [T:qu P] (m:Nat) (js:List Nat) {E E':Env} {pd pd':Pd} {c:List (Nat×Bool)} {ob:List (Nat×Nat)} (k:K.fin E' l pd') (h:runG T.fo T.sz ops l m js E pd [] c=some (E',pd',ob,[]):=by exact rfl) (ho:ob.map (·.1)=ob.map (·.2):=by exact rfl):Dv P ops n dr R0 K E l pd c:=gl m js (by rw [h];exact k) (by rw [h];exact ho)
theorem sp [T:qu P] {id:Nat} {y:Code} {E':Env} {pd':Pd} {ob:List (Nat×Nat)} (k:WP P n R0 y Q E' l) (h:runG T.fo T.sz ops l ops.size [] E [] [] (bs 0 ops.size 0)=some (E',pd',ob,[]):=by exact rfl) (hc:pZ ops n (bs 0 ops.size 0)=true:=by kernel_rfl):WP P n R0 (.seq (.region id ops false) y) Q E l:=so (by rw [h];exact k) hc
theorem Jq [T:qu P] {id:Nat} {y:Code} {E':Env} {pd':Pd} {ob:List (Nat×Nat)} (js:List Nat) (k:WP P n R0 y Q E' l) (h:runG T.fo T.sz ops l ops.size js E [] [] (bs 0 ops.size 0)=some (E',pd',ob,[]):=by exact rfl) (ho:ob.map (·.1)=ob.map (·.2):=by exact rfl) (hc:pZ ops n (bs 0 ops.size 0)=true:=by kernel_rfl):WP P n R0 (.seq (.region id ops false) y) Q E l:=wu js (by rw [h];exact k) hc (by rw [h];exact ho)
end
end Go.Sp
