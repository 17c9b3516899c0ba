import Derived.Test.YtelcbdmigiacpaaGreatConW
import Derived.Scope
set_option linter.all false
namespace Go.Sp
open Go
section
variable {P:Program} {n:Nat} {R0:Fz} {Q:Exit->Act->World->Prop} {E:Env} {l:List As}
theorem WP.scope {c:Code} (h:WP P n R0 c (Exit.noGoto Q) E l):WP P n R0 (.scope c) Q E l:=λR a w h0 ha hs=>wp_scope_straight (h R a w h0 ha hs)
theorem WP.label {id:Nat} (h:∀ R a w,R0.le R->od n R a E->St R l w->Q .normal a w):WP P n R0 (.label id) Q E l:=λR a w h0 ha hs=>wp_label (h R a w h0 ha hs)
end
section
variable {P:Program} {ops:Array Oper} {n:Nat} {dr:Bool} {R0:Fz} {K:KU} {E:Env} {l:List As} {pend:List (Nat×(List As->Prop))} {rest:List (Nat×Bool)} {i d:Nat}
variable {T:TypeId} {ps:String} {af:Array Edge} {g:Option (Nat×Bool)} {x y:Operand} {α:Type} {Kd:Kd α}
theorem DY {α:Type} {Kd:Sp.Kd α} {z:Value} {d:α} (hd:z.cells.toList.map eq=Kd.enc d):∀ (n:Nat),(Builtin.zeroCells z.cells n).toList.map eq=(List.replicate n d).flatMap Kd.enc:=by
 intro n
 induction n with
 | zero=>simp [Builtin.zeroCells]
 | succ n ih=>
  have e:=o0 z.cells n 1
  have e1:(Builtin.zeroCells z.cells 1).toList=z.cells.toList:=by
   unfold Builtin.zeroCells
   apply List.ext_getElem
   ·simp
   ·intro i h1 h2
    simp at h1 h2
    simp [Nat.mod_eq_of_lt h1]
    exact getElem!_pos z.cells i h1
  rw [<- e,Array.toList_append,List.map_append,ih,e1,hd,List.replicate_succ',List.flatMap_append]
  simp
theorem Dv.mks {t e:TypeId} {ti:TypeInfo} {z:Value} {m:Int} {by_:Nat} (qx:α) (ho:opAt ops.toList i=some ⟨some d,.makeSlice t x y,T,ps,af,g⟩) (hg:fZ ops E g) (hx:opv E x=some (eq (.int .i64 m))) (hy:opv E y=some (eq (.int .i64 m)))
  (hu:P.underlying t=some (.slice e)) (hti:P.info? e=some ti) (hsz:ti.size=Kd.sz) (hz:ti.zero=some z) (hby:ti.bytes=by_) (hzs:z.cells.size=Kd.sz) (h0:0<Kd.sz) (hd:z.cells.toList.map eq=Kd.enc qx) (hm:0<=m/\m<=9223372036854775807/\m.toNat*by_<=140737488355328)
  (hp:dr=true->∀ z∈pend,((Region.before ops).getD i 0).testBit z.1=true\/∀ v':OV,z.2 (own Kd v'.1 (List.replicate m.toNat qx)::l))
  (k:∀ v':OV,Dv P ops n dr R0 K ((d,eq v'.1)::E) (own Kd v'.1 (List.replicate m.toNat qx)::l) pend rest) (hkb:K.kZ E l pend ((i,true)::rest):=by first | exact trivial | assumption):Dv P ops n dr R0 K E l pend ((i,true)::rest):=
 .kZ _ (γ:=OV) (λ_=>True) (λv'=>eq v'.1) (λv'=>own Kd v'.1 (List.replicate m.toNat qx)::l) (fC ho) (iV.val hg λR a w h hst=>by
  have e1:=h x (by simp [Op.operands]) _ hx
  have e2:=h y (by simp [Op.operands]) _ hy
  simp only [ez] at e1 e2
  obtain⟨m1,m2,m3⟩:=hm
  have hw:IntKind.i64.wrap m=m:=by
   simp only [IntKind.wrap,IntKind.signed,IntKind.bits]
   simp
   omega
  refine⟨⟨.slice (some ⟨w.heap.size,0,none⟩) m.toNat m.toNat,rfl⟩,R,_,{ w with heap:=w.heap.push (.cells (Builtin.zeroCells z.cells m.toNat) e) },trivial,Fz.le_refl R,rfl,hst.alloc (o:=.cells (Builtin.zeroCells z.cells m.toNat) e) ?_,?_⟩
  ·have hlen:(Builtin.zeroCells z.cells m.toNat).toList.length=m.toNat*Kd.sz:=by simp [Builtin.zeroCells,hzs]
   refine .inr ⟨w.heap.size,0,m.toNat,e,(0,0),(Builtin.zeroCells z.cells m.toNat).toList,by rw [List.length_replicate],by rw [List.length_replicate];exact Nat.le_refl _,rfl,om,rfl,?_⟩
   rw [List.drop_zero,List.length_replicate,List.take_of_length_le om,<- DY hd]
   exact mL _
  ·have hb:¬ (281474976710656<(by_:Int)*m):=by
    have h8:(by_:Int)*m=((m.toNat*by_:Nat):Int):=by rw [Int.natCast_mul,Int.toNat_of_nonneg m1,Int.mul_comm]
    rw [h8];omega
   have hn:¬ m<0:=om
   have hr:¬ (roomBytes<m.toNat*by_):=by
    have:roomBytes=140737488355328:=dc
    omega
   have hne:(m.toNat*Kd.sz=0)↔m.toNat=0:=by
    rw [Nat.mul_eq_zero];omega
   simp only [execOp,Instr.makeSlice]
   simp [e1,e2,run_underlying hu,sizeOf,typeInfo,zeroValue,hti,hsz,hz,hby,asInt,asIntOf,hw,hb,hn,hr,askRoom,newRow]
   have hzc:Builtin.zeroCells z.cells m.toNat=(Array.range (m.toNat*Kd.sz)).map (λx=>z.cells[x%z.cells.size]!):=by unfold Builtin.zeroCells;rw [hzs]
   have h00:∀ f:Nat->Value,(Array.range 0).map f = #[]:=λf=>sM
   rw [hzc]
   split
   ·rename_i h;rw [h,h00,h00]
   ·rfl) (λe z hz=>(hp e z hz).imp id λh b _=>h b) (λb _=>k b) hkb
end
def pk (l:List As):As:=tF (γ:=Unit) (λ_=>True) (λ_=>l)
theorem E5 {l L r:List As} (hp:l.Perm (L++r)):∀ R w,St R l w->∃ _:Unit,True/\St R (pk L::r) w:=ie (λ_=>True) (λ_:Unit=>L) () trivial hp
theorem xU {l L:List As} (j:Nat) (hj:l[j]? = some (pk L)):∀ R w,St R l w->∃ _:Unit,True/\St R (L++l.eraseIdx j) w:=iO j hj
def fnx (P:Program) (X:As) (Q:List VP->VP->Prop):VP:=
 ⟨λR v=>∃ f,∃ fst cap:Array Value,v = .func (.func f) fst cap/\fx P f=true/\∀ vs ret,Q vs ret->∀ R',R.le R'->∀ (F:List As) (w:World) (us:List Value),Cs.h R' vs us->St R' (X::F) w->
   Calls P f ((fst.toList++us++cap.toList).toArray) w λe w'=>∃ R'' v,R'.le R''/\e = .returned v/\ret.p R'' v/\St R'' (X::F) w',
 λhR ⟨f,fst,cap,e,hc,h⟩=>⟨f,fst,cap,e,hc,λvs ret hq R' hR'=>h vs ret hq R' (Fz.le_trans hR hR')⟩⟩
section
variable {P:Program} {ops:Array Oper} {n:Nat} {dr:Bool} {R0:Fz} {K:KU} {E:Env} {l:List As} {pend:List (Nat×(List As->Prop))} {rest:List (Nat×Bool)} {i d:Nat}
variable {T:TypeId} {ps:String} {af:Array Edge} {g:Option (Nat×Bool)} {x y:Operand}
theorem Dv.Im {f:FuncId} {fs cs:Array Operand} {vf vc:List VP} {Q:List VP->VP->Prop} {L:List As} (hc:fx P f=true) (h:∀ vs ret,Q vs ret->Tr P f (vf++vs++vc) L (γ:=Unit) (λ_=>True) (λ_=>ret) (λ_=>L)) (ho:opAt ops.toList i=some ⟨some d,.makeFunc (.func f) fs cs,T,ps,af,g⟩) (hg:fZ ops E g)
  (hf:opvs E fs.toList=some vf) (hcp:opvs E cs.toList=some vc)
  (k:Dv P ops n dr R0 K ((d,fnx P (pk L) Q)::E) l ((i,tt)::pend) rest):Dv P ops n dr R0 K E l pend ((i,false)::rest):=
 Dv.mg _ _ ho (eV.pure hg λR a w hh=>by
  have h1:=iE (a:=a) (R:=R) (λx hx p hp=>hh x (by simp [Op.operands];exact .inl (by simpa using hx)) p hp) hf
  have h2:=iE (a:=a) (R:=R) (λx hx p hp=>hh x (by simp [Op.operands];exact .inr (by simpa using hx)) p hp) hcp
  refine⟨.func (.func f) (fs.map a.eval) (cs.map a.eval),⟨f,_,_,rfl,hc,λvs ret hq R' hR F w us hu hs=>?_⟩,by simp [execOp,Instr.makeFunc]⟩
  obtain⟨_,_,hs1⟩:=xU 0 rfl R' w hs
  have:=h vs ret hq R' F w (fs.toList.map a.eval++us++cs.toList.map a.eval) (((Cs.mono hR h1).append hu).append (Cs.mono hR h2)) hs1
  have h3:((fs.toList.map a.eval++us++cs.toList.map a.eval)).toArray=(((fs.map a.eval).toList++us++(cs.map a.eval).toList)).toArray:=sM
  rw [<- h3]
  refine this.mono ?_
  rintro e w' ⟨_,R',v,_,hR,he,hv,hst'⟩
  obtain⟨_,_,hs2⟩:=E5 (List.Perm.refl _) R' w' hst'
  exact⟨R',v,hR,he,hv,hs2⟩) trivial k
theorem Dv.qT {as:Array Operand} {ts:Array TypeId} {vs:List VP} {ret:VP} {X:As} {F:List As} {Q:List VP->VP->Prop} (ho:opAt ops.toList i=some ⟨some d,.call ⟨.value x,as,ts⟩,T,ps,af,g⟩) (hg:fZ ops E g)
  (hx:opv E x=some (fnx P X Q)) (hv:opvs E as.toList=some vs) (hq:Q vs ret) (hl:l.Perm ([X]++F))
  (k:Dv P ops n dr R0 K ((d,ret)::E) l ((i,λl=>∃ F,l.Perm ([X]++F))::pend) rest):Dv P ops n dr R0 K E l pend ((i,false)::rest):=
 Dv.mg (λl=>∃ F,l.Perm ([X]++F)) ret ho (λR a w l _ _ hs ⟨F,hl⟩ hst K Q' hk=>by
  obtain⟨f,fst,cap,e,hc,h⟩:=hs.op (x:=x) (by simp [Op.operands,Call.operands]) hx
  refine me (R:=R) (f:=f) (cap:=cap) (fst:=fst) rfl (j9 hs hg) hc rfl e ?_
  have:=iE (λx hx p hp=>hs.op (by simp [Op.operands,Call.operands];exact .inr (by simpa using hx)) hp) hv
  refine(h vs ret hq R (Fz.le_refl R) F w _ (by simpa using this) (hst.fY hl)).mono ?_
  rintro e w' ⟨R',v,hR,he,hv,hst'⟩
  exact⟨v,he,hk R' v w' hR hv (St.fY hl.symm hst')⟩) ⟨F,hl⟩ k
end
section
variable {κ α:Type} [DecidableEq κ] {kv:κ->Value} {O:OV->α->As} {v:Value} {m:List (κ×α)} {ps:List OV} {k:κ} {a:α} {p:OV} {l r:List As} {Z:List (κ×OV)}
def qW (O:OV->α->As) (m:List (κ×α)) (ps:List OV) (k:κ):As:=bif (mget m k).isSome then lX O m ps k else lQ O m ps
def HP (kv:κ->Value) (O:OV->α->As) (v:Value) (m:List (κ×α)) (k:κ) (p:OV):As:=
 tF (λps=>yp m ps/\((mget m k).isSome=true->p=(mget (aU m ps) k).getD dK)) (λps=>[mp kv (λp:OV=>eq p.1) v (aU m ps),qW O m ps k])
theorem Dh [Inhabited α] (ho:yp m ps) (hZ:Z=aU m ps) (hk:(mget m k).isSome=true) (hp:l.Perm ([mp kv (λp:OV=>eq p.1) v Z,lQ O m ps]++r)):∀ R w,St R l w->∃ _:Unit,True/\St R (HP kv O v m k ((mget Z k).getD dK)::O ((mget Z k).getD dK) ((mget m k).getD default)::r) w:=λR w h=>by
 subst hZ
 obtain⟨_,_,h1⟩:=oi (r:=mp kv (λp:OV=>eq p.1) v (aU m ps)::r) ho rfl hk (hp.trans (List.Perm.swap _ _ _)) R w h
 have e:qW O m ps k=lX O m ps k:=by simp [qW,hk]
 exact ie (λps'=>yp m ps'/\((mget m k).isSome=true->(mget (aU m ps) k).getD dK=(mget (aU m ps') k).getD dK)) (λps'=>[mp kv (λp:OV=>eq p.1) v (aU m ps'),qW O m ps' k]) ps ⟨ho,λ_=>rfl⟩ (r:=O ((mget (aU m ps) k).getD dK) ((mget m k).getD default)::r) (by
  rw [e]
  refine(List.Perm.trans (List.Perm.cons _ (List.Perm.swap _ _ _)) (List.Perm.swap _ _ _)).trans (List.Perm.cons _ (List.Perm.swap _ _ _))) R w h1
theorem E6 (p:OV) (ho:yp m ps) (hZ:Z=aU m ps) (hk:(mget m k).isSome=false) (hp:l.Perm ([mp kv (λp:OV=>eq p.1) v Z,lQ O m ps]++r)):∀ R w,St R l w->∃ _:Unit,True/\St R (HP kv O v m k p::r) w:=by
 subst hZ
 have e:qW O m ps k=lQ O m ps:=by simp [qW,hk]
 exact ie (λps'=>yp m ps'/\((mget m k).isSome=true->p=(mget (aU m ps') k).getD dK)) (λps'=>[mp kv (λp:OV=>eq p.1) v (aU m ps'),qW O m ps' k]) ps ⟨ho,λh=>by rw [hk] at h;cases h⟩ (by rw [e];exact hp)
theorem BW (j:Nat) (hj:l[j]? = some (HP kv O v m k p)):∀ R w,St R l w->∃ ps,(yp m ps/\((mget m k).isSome=true->p=(mget (aU m ps) k).getD dK))/\St R ([mp kv (λp:OV=>eq p.1) v (aU m ps),qW O m ps k]++l.eraseIdx j) w:=iO j hj
def wx (m:List (κ×α)) (k:κ) (a:α):List (κ×α):=bif (mget m k).isSome then mput m k a else m
theorem zq (hp:l.Perm (HP kv O v m k p::O p a::r)):∀ R w,St R l w->∃ _:Unit,True/\St R (iq kv O v (wx m k a)::r) w:=λR w h=>by
 obtain⟨ps,⟨ho,hq⟩,h1⟩:=BW 0 rfl R w (h.fY hp)
 cases hk:(mget m k).isSome with
 | true=>
  have e:qW O m ps k=lX O m ps k:=by simp [qW,hk]
  rw [e] at h1
  obtain⟨_,ho2,h2⟩:=n9 (k:=k) (a:=a) (r:=mp kv (λp:OV=>eq p.1) v (aU m ps)::r) ho rfl hk (by
   rw [<- hq hk]
   exact((List.Perm.cons _ (List.Perm.swap _ _ _)).trans (List.Perm.swap _ _ _)).trans (List.Perm.cons _ (List.Perm.swap _ _ _))) R w h1
  have e2:wx m k a=mput m k a:=by simp [wx,hk]
  rw [e2]
  exact eL ho2 (lM rfl hk) (List.Perm.swap _ _ _) R w h2
 | false=>
  have e:qW O m ps k=lQ O m ps:=by simp [qW,hk]
  rw [e] at h1
  have e2:wx m k a=m:=by simp [wx,hk]
  rw [e2]
  exact eL (r:=r) ho rfl (List.Perm.refl _) R w ((h1.fY (l':=O p a::([mp kv (λp:OV=>eq p.1) v (aU m ps),lQ O m ps]++r)) (List.perm_middle (l₁:=[mp kv (λp:OV=>eq p.1) v (aU m ps),lQ O m ps]))).drop)
theorem w5 (hr:∀ x,mget m k=some x->x=a):wx m k a=m:=by
 unfold wx
 cases h:mget m k with
 | none=>rfl
 | some x=>have:=hr x h;subst this;exact wK h
theorem gI (hr:∀ x,mget m k=some x->x=a) (hp:l.Perm (HP kv O v m k p::O p a::r)):∀ R w,St R l w->∃ _:Unit,True/\St R (iq kv O v m::r) w:=by
 have:=zq (kv:=kv) (v:=v) hp
 rwa [w5 hr] at this
theorem GU (hn:NN (O p a) p.1) (ho:yp m ps/\((mget m k).isSome=true->p=(mget (aU m ps) k).getD dK)) (hp:l.Perm (mp kv (λp:OV=>eq p.1) v (mput (aU m ps) k p)::qW O m ps k::O p a::r)):∀ R w,St R l w->∃ _:Unit,True/\St R (iq kv O v (mput m k a)::r) w:=λR w h=>by
 replace h:=h.fY hp
 cases hk:(mget m k).isSome with
 | true=>
  have e:qW O m ps k=lX O m ps k:=by simp [qW,hk]
  rw [e,ho.2 hk,EN ho.1 rfl hk] at h
  obtain⟨_,ho2,h2⟩:=n9 (k:=k) (a:=a) (r:=mp kv (λp:OV=>eq p.1) v (aU m ps)::r) ho.1 rfl hk (((List.Perm.cons _ (List.Perm.swap _ _ _)).trans (List.Perm.swap _ _ _)).trans (List.Perm.cons _ (List.Perm.swap _ _ _))) R w h
  exact eL ho2 (lM rfl hk) (List.Perm.swap _ _ _) R w h2
 | false=>
  have e:qW O m ps k=lQ O m ps:=by simp [qW,hk]
  rw [e] at h
  exact xk hn ho.1 rfl (List.Perm.refl _) R w h
end
def ig {α:Type} (O:OV->α->As) (p:OV):Option α->As
 | none=>⟨λ_ m=>m=[]/\p.1 = .pointer none,λ_ h=>h⟩
 | some a=>O p a
theorem fW {α:Type} {O:OV->α->As} {l:List As}:∀ R w,St R l w->∃ _:Unit,True/\St R (ig O dK none::l) w:=λR w h=>by
 obtain⟨m,hb,hw⟩:=h.nf
 exact⟨(),trivial,St.nh (m:=[]++m) ⟨[],m,⟨rfl,rfl⟩,hb,List.Perm.refl _⟩ hw⟩
theorem gT {α:Type} [Inhabited α] {O:OV->α->As} {l:List As} {p:OV} {r:Option α} (j:Nat) (hj:l[j]? = some (ig O p r)) (h:r.isNone=false):∀ R w,St R l w->∃ _:Unit,True/\St R ([O p (r.getD default)]++l.eraseIdx j) w:=λR w hs=>by
 cases r with
 | none=>cases h
 | some a=>
  obtain⟨m,hm,hk⟩:=hs.eF hj
  exact⟨(),trivial,m,hm,je.perm sM hk⟩
section
variable {P:Program} {ops:Array Oper} {n:Nat} {dr:Bool} {R0:Fz} {K:KU} {E:Env} {l:List As} {pend:List (Nat×(List As->Prop))} {rest:List (Nat×Bool)} {i d:Nat}
variable {T:TypeId} {ps:String} {af:Array Edge} {g:Option (Nat×Bool)} {x y:Operand} {α:Type} {O:OV->α->As} {p:OV} {r:Option α}
theorem Bx (hn:∀ a,NN (O p a) p.1) {R:Fz} {m:Mem} (h:(ig O p r).p R m):(r.isNone=false->∃ a,p.1 = .pointer (some a))/\(r.isNone=true->p.1 = .pointer none):=by
 cases r with
 | none=>exact⟨λk=>(by cases k),λ_=>h.2⟩
 | some a=>exact⟨λ_=>hn a R m h,λk=>(by cases k)⟩
theorem Dv.Gx {t td yT:TypeId} (hn:∀ a,NN (O p a) p.1) (ho:opAt ops.toList i=some ⟨some d,.binOp .eql t x y yT,T,ps,af,g⟩) (hg:fZ ops E g) (hx:opv E x=some (eq p.1)) (hy:opv E y=some (eq (.pointer none))) (hu:P.underlying t=some (.pointer td)) (hA:ig O p r∈l)
  (k:Dv P ops n dr R0 K ((d,eq (.bool r.isNone))::E) l ((i,(ig O p r∈·))::pend) rest):Dv P ops n dr R0 K E l pend ((i,false)::rest):=
 Dv.mg _ _ ho (eV.val hg λR a w l h hA hst=>by
  have e:=h x (by simp [Op.operands]) _ hx
  have e1:=h y (by simp [Op.operands]) _ hy
  simp only [ez] at e e1
  obtain⟨m,hm,_⟩:=St.read hA hst
  have hq:=Bx hn hm
  obtain⟨q,hq2⟩:∃ m,Op.maxDepth=m+1:=⟨9999,rfl⟩
  refine⟨R,_,w,Fz.le_refl R,rfl,hst,?_⟩
  cases hb:r.isNone with
  | true=>have e2:=hq.2 hb;simp [execOp,e,e1,e2,eqGuard,binOp,Op.equal,hq2,Op.equalIn,underlying,hu]
  | false=>obtain⟨ad,e2⟩:=hq.1 hb;simp [execOp,e,e1,e2,eqGuard,binOp,Op.equal,hq2,Op.equalIn,underlying,hu]) hA k
theorem Dv.one0 {t td yT:TypeId} (hn:∀ a,NN (O p a) p.1) (ho:opAt ops.toList i=some ⟨some d,.binOp .neq t x y yT,T,ps,af,g⟩) (hg:fZ ops E g) (hx:opv E x=some (eq p.1)) (hy:opv E y=some (eq (.pointer none))) (hu:P.underlying t=some (.pointer td)) (hA:ig O p r∈l)
  (k:Dv P ops n dr R0 K ((d,eq (.bool !r.isNone))::E) l ((i,(ig O p r∈·))::pend) rest):Dv P ops n dr R0 K E l pend ((i,false)::rest):=
 Dv.mg _ _ ho (eV.val hg λR a w l h hA hst=>by
  have e:=h x (by simp [Op.operands]) _ hx
  have e1:=h y (by simp [Op.operands]) _ hy
  simp only [ez] at e e1
  obtain⟨m,hm,_⟩:=St.read hA hst
  have hq:=Bx hn hm
  obtain⟨q,hq2⟩:∃ m,Op.maxDepth=m+1:=⟨9999,rfl⟩
  refine⟨R,_,w,Fz.le_refl R,rfl,hst,?_⟩
  cases hb:r.isNone with
  | true=>have e2:=hq.2 hb;simp [execOp,e,e1,e2,eqGuard,binOp,Op.equal,hq2,Op.equalIn,underlying,hu]
  | false=>obtain⟨ad,e2⟩:=hq.1 hb;simp [execOp,e,e1,e2,eqGuard,binOp,Op.equal,hq2,Op.equalIn,underlying,hu]) hA k
end
end Go.Sp
