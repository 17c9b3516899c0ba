import Derived.Test.YtfknmdelgepbjaaGreatDoorWConW
import Derived.Scope
set_option linter.all false
namespace Go.Sp
open Go
section
variable {P:Program} {n:Nat} {R0:Fz} {Q:Exit→Act→World→Prop} {E:Env} {l:List As}
theorem WP.scope {c:Code} (h:WP P n R0 c (Exit.noGoto Q) E l):WP P n R0 (.scope c) Q E l:=fun R a w h0 ha hs=>wp_scope_straight (h R a w h0 ha hs)
theorem WP.label {id:Nat} (h:∀ R a w,R0.le R→nf n R a E→St R l w→Q .normal a w):WP P n R0 (.label id) Q E l:=fun R a w h0 ha hs=>wp_label (h R a w h0 ha hs)
end
section
variable {P:Program} {ops:Array Oper} {n:Nat} {dr:Bool} {R0:Fz} {K:KU} {E:Env} {l:List As} {pend:List (Nat×(List As→Prop))} {rest:List (Nat×Bool)} {i d:Nat}
variable {T:TypeId} {ps:String} {af:Array Edge} {g:Option (Nat×Bool)} {x y:Operand} {α:Type} {Kd:Kd α}
theorem Hp {α:Type} {Kd:Sp.Kd α} {z:Value} {d:α} (hd:z.cells.toList.map eq=Kd.enc d):∀ (n:Nat),(Builtin.zeroCells z.cells n).toList.map eq=(List.replicate n d).flatMap Kd.enc:=by
 intro n
 induction n with
 | zero=>simp [Builtin.zeroCells]
 | succ n ih=>
  have e:=ow z.cells n 1
  have e1:(Builtin.zeroCells z.cells 1).toList=z.cells.toList:=by
   unfold Builtin.zeroCells
   apply List.ext_getElem
   ·simp
   ·intro i h1 h2
    simp at h1 h2
    simp [Nat.mod_eq_of_lt h1]
    exact getElem!_pos z.cells i h1
  rw [← e,Array.toList_append,List.map_append,ih,e1,hd,List.replicate_succ',List.flatMap_append]
  simp
theorem Dv.EI {t e:TypeId} {ti:TypeInfo} {z:Value} {m:Int} {by_:Nat} (pR:α) (ho:opAt ops.toList i=some ⟨some d,.makeSlice t x y,T,ps,af,g⟩) (hg:fk ops E g) (hx:opv E x=some (eq (.int .i64 m))) (hy:opv E y=some (eq (.int .i64 m)))
  (hu:P.underlying t=some (.slice e)) (hti:P.info? e=some ti) (hsz:ti.size=Kd.sz) (hz:ti.zero=some z) (hby:ti.bytes=by_) (hzs:z.cells.size=Kd.sz) (h0:0<Kd.sz) (hd:z.cells.toList.map eq=Kd.enc pR) (hm:0≤m∧m≤9223372036854775807∧m.toNat*by_≤140737488355328)
  (hp:dr=true→∀ z∈pend,((Region.before ops).getD i 0).testBit z.1=true∨∀ v':OV,z.2 (own Kd v'.1 (List.replicate m.toNat pR)::l))
  (k:∀ v':OV,Dv P ops n dr R0 K ((d,eq v'.1)::E) (own Kd v'.1 (List.replicate m.toNat pR)::l) pend rest) (hkb:K.km E l pend ((i,true)::rest):=by first | exact trivial | assumption):Dv P ops n dr R0 K E l pend ((i,true)::rest):=
 .km _ (γ:=OV) (fun _=>True) (fun v'=>eq v'.1) (fun v'=>own Kd v'.1 (List.replicate m.toNat pR)::l) (eO ho) (gQ.val hg fun R a w h hst=>by
  have e1:=h x (by simp [Op.operands]) _ hx
  have e2:=h y (by simp [Op.operands]) _ hy
  simp only [ei] at e1 e2
  obtain ⟨m1,m2,m3⟩:=hm
  have hw:IntKind.i64.wrap m=m:=by
   simp only [IntKind.wrap,IntKind.signed,IntKind.bits]
   simp
   omega
  refine ⟨⟨.slice (some ⟨w.heap.size,0,none⟩) m.toNat m.toNat,rfl⟩,R,_,{ w with heap:=w.heap.push (.cells (Builtin.zeroCells z.cells m.toNat) e) },trivial,Fz.le_refl R,rfl,hst.alloc (o:=.cells (Builtin.zeroCells z.cells m.toNat) e) ?_,?_⟩
  ·have hlen:(Builtin.zeroCells z.cells m.toNat).toList.length=m.toNat*Kd.sz:=by simp [Builtin.zeroCells,hzs]
   refine .inr ⟨w.heap.size,0,m.toNat,e,(0,0),(Builtin.zeroCells z.cells m.toNat).toList,by rw [List.length_replicate],by rw [List.length_replicate]; exact Nat.le_refl _,rfl,om,rfl,?_⟩
   rw [List.drop_zero,List.length_replicate,List.take_of_length_le om,← Hp hd]
   exact lR _
  ·have hb:¬ (281474976710656<(by_:Int)*m):=by
    have h8:(by_:Int)*m=((m.toNat*by_:Nat):Int):=by rw [Int.natCast_mul,Int.toNat_of_nonneg m1,Int.mul_comm]
    rw [h8]; omega
   have hn:¬ m<0:=om
   have hr:¬ (roomBytes<m.toNat*by_):=by
    have:roomBytes=140737488355328:=dc
    omega
   have hne:(m.toNat*Kd.sz=0)↔m.toNat=0:=by
    rw [Nat.mul_eq_zero]; omega
   simp only [execOp,Instr.makeSlice]
   simp [e1,e2,run_underlying hu,sizeOf,typeInfo,zeroValue,hti,hsz,hz,hby,asInt,asIntOf,hw,hb,hn,hr,askRoom,newRow]
   have hzc:Builtin.zeroCells z.cells m.toNat=(Array.range (m.toNat*Kd.sz)).map (fun x=>z.cells[x%z.cells.size]!):=by unfold Builtin.zeroCells; rw [hzs]
   have h00:∀ f:Nat→Value,(Array.range 0).map f = #[]:=fun f=>sM
   rw [hzc]
   split
   ·rename_i h; rw [h,h00,h00]
   ·rfl) (fun e z hz=>(hp e z hz).imp id fun h b _=>h b) (fun b _=>k b) hkb
end
def pk (l:List As):As:=yl (γ:=Unit) (fun _=>True) (fun _=>l)
theorem Gx {l L r:List As} (hp:l.Perm (L++r)):∀ R w,St R l w→∃ _:Unit,True∧St R (pk L::r) w:=jH (fun _=>True) (fun _:Unit=>L) () trivial hp
theorem zy {l L:List As} (j:Nat) (hj:l[j]? = some (pk L)):∀ R w,St R l w→∃ _:Unit,True∧St R (L++l.eraseIdx j) w:=ke j hj
def fnx (P:Program) (X:As) (Q:List VP→VP→Prop):VP:=
 ⟨fun R v=>∃ f,∃ fst cap:Array Value,v = .func (.func f) fst cap∧eX P f=true∧∀ vs ret,Q vs ret→∀ R',R.le R'→∀ (F:List As) (w:World) (us:List Value),Cs.h R' vs us→St R' (X::F) w→
   Calls P f ((fst.toList++us++cap.toList).toArray) w fun e w'=>∃ R'' v,R'.le R''∧e = .returned v∧ret.p R'' v∧St R'' (X::F) w',
 fun hR ⟨f,fst,cap,e,hc,h⟩=>⟨f,fst,cap,e,hc,fun vs ret hq R' hR'=>h vs ret hq R' (Fz.le_trans hR hR')⟩⟩
section
variable {P:Program} {ops:Array Oper} {n:Nat} {dr:Bool} {R0:Fz} {K:KU} {E:Env} {l:List As} {pend:List (Nat×(List As→Prop))} {rest:List (Nat×Bool)} {i d:Nat}
variable {T:TypeId} {ps:String} {af:Array Edge} {g:Option (Nat×Bool)} {x y:Operand}
theorem Dv.mkx {f:FuncId} {fs cs:Array Operand} {vf vc:List VP} {Q:List VP→VP→Prop} {L:List As} (hc:eX P f=true) (h:∀ vs ret,Q vs ret→Tr P f (vf++vs++vc) L (γ:=Unit) (fun _=>True) (fun _=>ret) (fun _=>L)) (ho:opAt ops.toList i=some ⟨some d,.makeFunc (.func f) fs cs,T,ps,af,g⟩) (hg:fk ops E g)
  (hf:opvs E fs.toList=some vf) (hcp:opvs E cs.toList=some vc)
  (k:Dv P ops n dr R0 K ((d,fnx P (pk L) Q)::E) l ((i,tt)::pend) rest):Dv P ops n dr R0 K E l pend ((i,false)::rest):=
 Dv.lZ _ _ ho (eI.pure hg fun R a w hh=>by
  have h1:=gB (a:=a) (R:=R) (fun x hx p hp=>hh x (by simp [Op.operands]; exact .inl (by simpa using hx)) p hp) hf
  have h2:=gB (a:=a) (R:=R) (fun x hx p hp=>hh x (by simp [Op.operands]; exact .inr (by simpa using hx)) p hp) hcp
  refine ⟨.func (.func f) (fs.map a.eval) (cs.map a.eval),⟨f,_,_,rfl,hc,fun vs ret hq R' hR F w us hu hs=>?_⟩,by simp [execOp,Instr.makeFunc]⟩
  obtain ⟨_,_,hs1⟩:=zy 0 rfl R' w hs
  have:=h vs ret hq R' F w (fs.toList.map a.eval++us++cs.toList.map a.eval) (((Cs.mono hR h1).append hu).append (Cs.mono hR h2)) hs1
  have h3:((fs.toList.map a.eval++us++cs.toList.map a.eval)).toArray=(((fs.map a.eval).toList++us++(cs.map a.eval).toList)).toArray:=sM
  rw [← h3]
  refine this.mono ?_
  rintro e w' ⟨_,R',v,_,hR,he,hv,hst'⟩
  obtain ⟨_,_,hs2⟩:=Gx (List.Perm.refl _) R' w' hst'
  exact ⟨R',v,hR,he,hv,hs2⟩) trivial k
theorem Dv.B1 {as:Array Operand} {ts:Array TypeId} {vs:List VP} {ret:VP} {X:As} {F:List As} {Q:List VP→VP→Prop} (ho:opAt ops.toList i=some ⟨some d,.call ⟨.value x,as,ts⟩,T,ps,af,g⟩) (hg:fk ops E g)
  (hx:opv E x=some (fnx P X Q)) (hv:opvs E as.toList=some vs) (hq:Q vs ret) (hl:l.Perm ([X]++F))
  (k:Dv P ops n dr R0 K ((d,ret)::E) l ((i,fun l=>∃ F,l.Perm ([X]++F))::pend) rest):Dv P ops n dr R0 K E l pend ((i,false)::rest):=
 Dv.lZ (fun l=>∃ F,l.Perm ([X]++F)) ret ho (fun R a w l _ _ hs ⟨F,hl⟩ hst K Q' hk=>by
  obtain ⟨f,fst,cap,e,hc,h⟩:=hs.op (x:=x) (by simp [Op.operands,Call.operands]) hx
  refine mi (R:=R) (f:=f) (cap:=cap) (fst:=fst) rfl (jZ hs hg) hc rfl e ?_
  have:=gB (fun x hx p hp=>hs.op (by simp [Op.operands,Call.operands]; exact .inr (by simpa using hx)) hp) hv
  refine (h vs ret hq R (Fz.le_refl R) F w _ (by simpa using this) (hst.ff hl)).mono ?_
  rintro e w' ⟨R',v,hR,he,hv,hst'⟩
  exact ⟨v,he,hk R' v w' hR hv (St.ff hl.symm hst')⟩) ⟨F,hl⟩ k
end
section
variable {κ α:Type} [DecidableEq κ] {kv:κ→Value} {O:OV→α→As} {v:Value} {m:List (κ×α)} {ps:List OV} {k:κ} {a:α} {p:OV} {l r:List As} {Z:List (κ×OV)}
def pZ (O:OV→α→As) (m:List (κ×α)) (ps:List OV) (k:κ):As:=bif (mget m k).isSome then Cg O m ps k else rv O m ps
def Kh (kv:κ→Value) (O:OV→α→As) (v:Value) (m:List (κ×α)) (k:κ) (p:OV):As:=
 yl (fun ps=>zY m ps∧((mget m k).isSome=true→p=(mget (cX m ps) k).getD jx)) (fun ps=>[mp kv (fun p:OV=>eq p.1) v (cX m ps),pZ O m ps k])
theorem Fa [Inhabited α] (ho:zY m ps) (hZ:Z=cX m ps) (hk:(mget m k).isSome=true) (hp:l.Perm ([mp kv (fun p:OV=>eq p.1) v Z,rv O m ps]++r)):∀ R w,St R l w→∃ _:Unit,True∧St R (Kh kv O v m k ((mget Z k).getD jx)::O ((mget Z k).getD jx) ((mget m k).getD default)::r) w:=fun R w h=>by
 subst hZ
 obtain ⟨_,_,h1⟩:=qU (r:=mp kv (fun p:OV=>eq p.1) v (cX m ps)::r) ho rfl hk (hp.trans (List.Perm.swap _ _ _)) R w h
 have e:pZ O m ps k=Cg O m ps k:=by simp [pZ,hk]
 exact jH (fun ps'=>zY m ps'∧((mget m k).isSome=true→(mget (cX m ps) k).getD jx=(mget (cX m ps') k).getD jx)) (fun ps'=>[mp kv (fun p:OV=>eq p.1) v (cX m ps'),pZ O m ps' k]) ps ⟨ho,fun _=>rfl⟩ (r:=O ((mget (cX m ps) k).getD jx) ((mget m k).getD default)::r) (by
  rw [e]
  refine (List.Perm.trans (List.Perm.cons _ (List.Perm.swap _ _ _)) (List.Perm.swap _ _ _)).trans (List.Perm.cons _ (List.Perm.swap _ _ _))) R w h1
theorem Hw (p:OV) (ho:zY m ps) (hZ:Z=cX m ps) (hk:(mget m k).isSome=false) (hp:l.Perm ([mp kv (fun p:OV=>eq p.1) v Z,rv O m ps]++r)):∀ R w,St R l w→∃ _:Unit,True∧St R (Kh kv O v m k p::r) w:=by
 subst hZ
 have e:pZ O m ps k=rv O m ps:=by simp [pZ,hk]
 exact jH (fun ps'=>zY m ps'∧((mget m k).isSome=true→p=(mget (cX m ps') k).getD jx)) (fun ps'=>[mp kv (fun p:OV=>eq p.1) v (cX m ps'),pZ O m ps' k]) ps ⟨ho,fun h=>by rw [hk] at h; cases h⟩ (by rw [e]; exact hp)
theorem CY (j:Nat) (hj:l[j]? = some (Kh kv O v m k p)):∀ R w,St R l w→∃ ps,(zY m ps∧((mget m k).isSome=true→p=(mget (cX m ps) k).getD jx))∧St R ([mp kv (fun p:OV=>eq p.1) v (cX m ps),pZ O m ps k]++l.eraseIdx j) w:=ke j hj
def wT (m:List (κ×α)) (k:κ) (a:α):List (κ×α):=bif (mget m k).isSome then mput m k a else m
theorem A2 (hp:l.Perm (Kh kv O v m k p::O p a::r)):∀ R w,St R l w→∃ _:Unit,True∧St R (kU kv O v (wT m k a)::r) w:=fun R w h=>by
 obtain ⟨ps,⟨ho,hq⟩,h1⟩:=CY 0 rfl R w (h.ff hp)
 cases hk:(mget m k).isSome with
 | true=>
  have e:pZ O m ps k=Cg O m ps k:=by simp [pZ,hk]
  rw [e] at h1
  obtain ⟨_,ho2,h2⟩:=zj (k:=k) (a:=a) (r:=mp kv (fun p:OV=>eq p.1) v (cX m ps)::r) ho rfl hk (by
   rw [← hq hk]
   exact ((List.Perm.cons _ (List.Perm.swap _ _ _)).trans (List.Perm.swap _ _ _)).trans (List.Perm.cons _ (List.Perm.swap _ _ _))) R w h1
  have e2:wT m k a=mput m k a:=by simp [wT,hk]
  rw [e2]
  exact iH ho2 (sR rfl hk) (List.Perm.swap _ _ _) R w h2
 | false=>
  have e:pZ O m ps k=rv O m ps:=by simp [pZ,hk]
  rw [e] at h1
  have e2:wT m k a=m:=by simp [wT,hk]
  rw [e2]
  exact iH (r:=r) ho rfl (List.Perm.refl _) R w ((h1.ff (l':=O p a::([mp kv (fun p:OV=>eq p.1) v (cX m ps),rv O m ps]++r)) (List.perm_middle (l₁:=[mp kv (fun p:OV=>eq p.1) v (cX m ps),rv O m ps]))).drop)
theorem xU (hr:∀ x,mget m k=some x→x=a):wT m k a=m:=by
 unfold wT
 cases h:mget m k with
 | none=>rfl
 | some x=>have:=hr x h; subst this; exact xL h
theorem fJ (hr:∀ x,mget m k=some x→x=a) (hp:l.Perm (Kh kv O v m k p::O p a::r)):∀ R w,St R l w→∃ _:Unit,True∧St R (kU kv O v m::r) w:=by
 have:=A2 (kv:=kv) (v:=v) hp
 rwa [xU hr] at this
theorem Jd (hn:NN (O p a) p.1) (ho:zY m ps∧((mget m k).isSome=true→p=(mget (cX m ps) k).getD jx)) (hp:l.Perm (mp kv (fun p:OV=>eq p.1) v (mput (cX m ps) k p)::pZ O m ps k::O p a::r)):∀ R w,St R l w→∃ _:Unit,True∧St R (kU kv O v (mput m k a)::r) w:=fun R w h=>by
 replace h:=h.ff hp
 cases hk:(mget m k).isSome with
 | true=>
  have e:pZ O m ps k=Cg O m ps k:=by simp [pZ,hk]
  rw [e,ho.2 hk,Gj ho.1 rfl hk] at h
  obtain ⟨_,ho2,h2⟩:=zj (k:=k) (a:=a) (r:=mp kv (fun p:OV=>eq p.1) v (cX m ps)::r) ho.1 rfl hk (((List.Perm.cons _ (List.Perm.swap _ _ _)).trans (List.Perm.swap _ _ _)).trans (List.Perm.cons _ (List.Perm.swap _ _ _))) R w h
  exact iH ho2 (sR rfl hk) (List.Perm.swap _ _ _) R w h2
 | false=>
  have e:pZ O m ps k=rv O m ps:=by simp [pZ,hk]
  rw [e] at h
  exact Dg hn ho.1 rfl (List.Perm.refl _) R w h
end
def DY {α:Type} (O:OV→α→As) (p:OV):Option α→As
 | none=>⟨fun _ m=>m=[]∧p.1 = .pointer none,fun _ h=>h⟩
 | some a=>O p a
theorem og {α:Type} {O:OV→α→As} {l:List As}:∀ R w,St R l w→∃ _:Unit,True∧St R (DY O jx none::l) w:=fun R w h=>by
 obtain ⟨m,hb,hw⟩:=h.ma
 exact ⟨(),trivial,St.l8 (m:=[]++m) ⟨[],m,⟨rfl,rfl⟩,hb,List.Perm.refl _⟩ hw⟩
theorem sw {α:Type} [Inhabited α] {O:OV→α→As} {l:List As} {p:OV} {r:Option α} (j:Nat) (hj:l[j]? = some (DY O p r)) (h:r.isNone=false):∀ R w,St R l w→∃ _:Unit,True∧St R ([O p (r.getD default)]++l.eraseIdx j) w:=fun R w hs=>by
 cases r with
 | none=>cases h
 | some a=>
  obtain ⟨m,hm,hk⟩:=hs.jf hj
  exact ⟨(),trivial,m,hm,iu.perm sM hk⟩
section
variable {P:Program} {ops:Array Oper} {n:Nat} {dr:Bool} {R0:Fz} {K:KU} {E:Env} {l:List As} {pend:List (Nat×(List As→Prop))} {rest:List (Nat×Bool)} {i d:Nat}
variable {T:TypeId} {ps:String} {af:Array Edge} {g:Option (Nat×Bool)} {x y:Operand} {α:Type} {O:OV→α→As} {p:OV} {r:Option α}
end
end Go.Sp
