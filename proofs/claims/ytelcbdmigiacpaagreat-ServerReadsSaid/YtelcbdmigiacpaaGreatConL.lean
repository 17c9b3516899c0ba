import Derived.Test.YtelcbdmigiacpaaGreatConH
import Derived.Laws.AppendOwn
set_option linter.all false
namespace Go.Sp
open Go
def own {α:Type} (K:Kd α) (v:Value) (xs:List α):As:=
 ⟨λR m=>(∃ a,v = .slice a 0 0/\xs=[]/\m=[])\/∃ b off c T fr,∃ cs:List Value,v = .slice (some ⟨b,off,none⟩) xs.length c/\xs.length<=c/\m=[(b,.cells cs.toArray T fr)]/\off+c*K.sz<=cs.length/\fr=((0,0):Nat×Nat)/\
   Cs.h R (xs.flatMap K.enc) ((cs.drop off).take (xs.length*K.sz)),
 λhR h=>by
  rcases h with h | ⟨b,off,c,T,fr,cs,e,hl,hm,hc,hf,h⟩
  ·exact .inl h
  ·exact .inr ⟨b,off,c,T,fr,cs,e,hl,hm,hc,hf,Cs.mono hR h⟩⟩
theorem H6 {fr:Nat×Nat} (h:fr=(0,0)) {n:Nat}:∀ i,i<n->¬ (fr.1<=i/\i<fr.2):=λi _=>by subst h;simp
section
variable {α:Type} {Kd:Kd α} {v:Value} {xs ys:List α} {R:Fz} {m:Mem}
theorem Gu (a:Option Addr):(own Kd (.slice a 0 0) []).p R []:=.inl ⟨a,rfl,rfl,rfl⟩
theorem wY (h:(own Kd v xs).p R m):∃ ad c,v = .slice ad xs.length c:=by
 rcases h with⟨a,e,e2,_⟩|⟨b,off,c,T,fr,cs,e,_⟩
 ·subst e2;exact⟨_,_,e⟩
 ·exact⟨_,_,e⟩
theorem BQ (h:(own Kd v xs).p R m):(sl Kd xs).p (R.plus m) v:=by
 rcases h with⟨a,e,e2,_⟩|⟨b,off,c,T,fr,cs,e,hl,hm,hc,_,h⟩
 ·exact .inl ⟨a,0,e,e2⟩
 ·exact .inr ⟨b,off,c,T,fr,cs.toArray,e,hl,.inr (by rw [hm];exact List.mem_cons_self ..),by simpa using hc,Cs.mono (R.mS m) (by simpa using h)⟩
end
section
variable {P:Program} {ops:Array Oper} {n:Nat} {dr:Bool} {R0:Fz} {K:KU} {E:Env} {l:List As} {pend:List (Nat×(List As->Prop))} {rest:List (Nat×Bool)} {i d:Nat}
variable {T:TypeId} {ps:String} {af:Array Edge} {g:Option (Nat×Bool)} {x y:Operand} {α:Type} {Kd:Kd α} {v:Value} {xs:List α}
theorem Dv.kl {t e:TypeId} (ho:opAt ops.toList i=some ⟨some d,.call ⟨.builtin .len,#[x],#[t]⟩,T,ps,af,g⟩) (hg:fZ ops E g) (hx:opv E x=some (eq v)) (hA:own Kd v xs∈l) (hu:P.underlying t=some (.slice e))
  (k:Dv P ops n dr R0 K ((d,eq (.int .i64 xs.length))::E) l ((i,(own Kd v xs∈·))::pend) rest):Dv P ops n dr R0 K E l pend ((i,false)::rest):=
 Dv.mg _ _ ho (eV.val hg λR a w l h hA hst=>by
  have e1:=h x (by simp [Op.operands,Call.operands]) _ hx
  simp only [ez] at e1
  obtain⟨m,hm,_⟩:=St.read hA hst
  obtain⟨ad,c,e2⟩:=wY hm
  exact⟨R,_,w,Fz.le_refl R,rfl,hst,wF hu a (e1.trans e2)⟩) hA k
def ep (v:Value) (o:Nat):VP:=⟨λ_ u=>∃ b off m c,v = .slice (some ⟨b,off,none⟩) m c/\u = .pointer (some ⟨b,off+o,none⟩),λ_ h=>h⟩
theorem Dv.na {t e:TypeId} {ed:TypeDesc} {ik:IntKind} {m:Int} (ho:opAt ops.toList i=some ⟨some d,.indexAddr t x y,T,ps,af,g⟩) (hg:fZ ops E g)
  (hx:opv E x=some (eq v)) (hA:own Kd v xs∈l) (hy:opv E y=some (eq (.int ik m))) (hu:P.underlying t=some (.slice e)) (hv:P.underlying e=some ed) (hz:P.cellsOf e=Kd.sz) (h0:0<=m) (h1:m<xs.length)
  (k:Dv P ops n dr R0 K ((d,ep v (m.toNat*Kd.sz))::E) l ((i,(own Kd v xs∈·))::pend) rest):Dv P ops n dr R0 K E l pend ((i,false)::rest):=
 Dv.mg _ _ ho (eV.val hg λR a w l h hA hst=>by
  have e1:=h x (by simp [Op.operands]) _ hx
  have e2:=h y (by simp [Op.operands]) _ hy
  simp only [ez] at e1 e2
  obtain⟨mm,hm,_⟩:=St.read hA hst
  rcases hm with⟨_,_,e3,_⟩|⟨b,off,c,T,fr,cs,e3,_⟩
  ·subst e3;simp at h1;omega
  ·exact⟨R,_,w,Fz.le_refl R,⟨b,off,_,_,e3,rfl⟩,hst,by simp [execOp,e1,e2,e3,Instr.indexAt,asIntOf,underlying,hu,h0,h1,run_sizeOf hv hz,add_eq]⟩) hA k
theorem Dv.faw {s j o:Nat} {fs:Array Field} {f:Field} {fd:TypeDesc} {sz:Nat} (ho:opAt ops.toList i=some ⟨some d,.fieldAddr s x j,T,ps,af,g⟩) (hg:fZ ops E g)
  (hx:opv E x=some (ep v o)) (hu:P.underlying s=some (.struct fs)) (hf:fs[j]? = some f) (hv:P.underlying f.type=some fd) (hz:P.cellsOf f.type=sz) (h0:sz≠0)
  (k:Dv P ops n dr R0 K ((d,ep v (o+f.offset))::E) l ((i,tt)::pend) rest):Dv P ops n dr R0 K E l pend ((i,false)::rest):=
 Dv.mg _ _ ho (eV.pure hg λR a w h=>by
  obtain⟨b,off,m,c,e,e2⟩:=h x (by simp [Op.operands]) _ hx
  exact⟨_,⟨b,off,m,c,e,rfl⟩,by simp [execOp,e2,Instr.fieldAt,underlying,hu,hf,Instr.sureAddr,mU hv hz h0,Nat.add_assoc]⟩) trivial k
theorem zx {R:Fz} {w:World} (hA:own Kd v xs∈l) (hst:St R l w) {b off m c:Nat} (e:v = .slice (some ⟨b,off,none⟩) m c) {j:Nat} (hj:j<xs.length):
  ∃ T fr,∃ cs:List Value,w.heap[b]? = some (.cells cs.toArray T fr)/\off+(j*Kd.sz+Kd.sz)<=cs.length/\Cs.h R (Kd.enc (xs.getD j Kd.qx)) ((cs.drop (off+j*Kd.sz)).take Kd.sz):=by
 obtain⟨mm,hm,hw⟩:=St.read hA hst
 rcases hm with⟨_,_,e3,_⟩|⟨b',off',c',T,fr,cs,e3,hl,hm,hc,_,hh⟩
 ·subst e3;simp at hj
 ·rw [e3] at e
  cases e
  refine⟨T,fr,cs,hw (b,_) (by rw [hm];exact List.mem_cons_self ..),?_,Cs.elem hj hh⟩
  have:=xR (sz:=Kd.sz) (Nat.lt_of_lt_of_le hj hl)
  omega
theorem Dv.D5 {t:TypeId} {td:TypeDesc} {p:VP} {j f:Nat} (ho:opAt ops.toList i=some ⟨some d,.load t x,T,ps,af,g⟩) (hg:fZ ops E g)
  (hx:opv E x=some (ep v (j*Kd.sz+f))) (hA:own Kd v xs∈l) (hj:j<xs.length) (hu:P.underlying t=some td) (hd:qe td=false) (hp:(Kd.enc (xs.getD j Kd.qx))[f]? = some p)
  (k:Dv P ops n dr R0 K ((d,p)::E) l ((i,(own Kd v xs∈·))::pend) rest):Dv P ops n dr R0 K E l pend ((i,false)::rest):=
 Dv.mg _ _ ho (eV.val hg λR a w l h hA hst=>by
  obtain⟨b,off,m,c,e,e2⟩:=h x (by simp [Op.operands]) _ hx
  obtain⟨bT,fr,cs,hh,hle,hc⟩:=zx hA hst e hj
  obtain⟨u,hu2,hpv⟩:=ov hc hp
  have:=q5 (P:=P) (off:=off+j*Kd.sz+f) hh hu hd (by have:=Iw (c:=cs.toArray) (by simpa using hu2);simpa using this)
  exact⟨R,u,w,Fz.le_refl R,hpv,hst,by rw [<- Nat.add_assoc] at e2;simp [execOp,e2,Instr.loadAt,Instr.sureAddr,this]⟩) hA k
theorem Dv.kX {t:TypeId} {td:TypeDesc} {sz:Nat} {j f:Nat} (ho:opAt ops.toList i=some ⟨some d,.load t x,T,ps,af,g⟩) (hg:fZ ops E g)
  (hx:opv E x=some (ep v (j*Kd.sz+f))) (hA:own Kd v xs∈l) (hj:j<xs.length) (hu:P.underlying t=some td) (hd:qe td=true) (hz:P.cellsOf t=sz) (hq:f+sz<=Kd.sz)
  (k:Dv P ops n dr R0 K ((d,agg (((Kd.enc (xs.getD j Kd.qx)).drop f).take sz))::E) l ((i,(own Kd v xs∈·))::pend) rest):Dv P ops n dr R0 K E l pend ((i,false)::rest):=
 Dv.mg _ _ ho (eV.val hg λR a w l h hA hst=>by
  obtain⟨b,off,m,c,e,e2⟩:=h x (by simp [Op.operands]) _ hx
  obtain⟨bT,fr,cs,hh,hle,hc⟩:=zx hA hst e hj
  have:=pR (P:=P) (off:=off+j*Kd.sz+f) hh hu hd hz (by simp;omega)
  refine⟨R,_,w,Fz.le_refl R,⟨_,rfl,?_⟩,hst,by rw [<- Nat.add_assoc] at e2;simp [execOp,e2,Instr.loadAt,Instr.sureAddr,this];rfl⟩
  have h3:=bV.take (bV.drop hc f) sz
  rw [List.drop_take,List.take_take,List.drop_drop,Nat.min_eq_left om] at h3
  unfold Cs.h
  simpa using h3) hA k
theorem FG {p r qs:Cs} {f:Nat} (h:f+qs.length<=p.length):oO (p++r) f qs=oO p f qs++r:=by
 unfold oO
 rw [List.take_append_of_le_length om,List.drop_append_of_le_length h];simp
theorem B5 {p r qs:Cs} {o:Nat}:oO (p++r) (p.length+o) qs=p++oO r o qs:=by
 unfold oO
 rw [List.take_length_add_append,Nat.add_assoc,List.drop_length_add_append];simp
theorem tE {x':α} {f:Nat} {qs:Cs}:∀ (xs:List α) (j:Nat),j<xs.length->f+qs.length<=Kd.sz->Kd.enc x'=oO (Kd.enc (xs.getD j Kd.qx)) f qs->(xs.set j x').flatMap Kd.enc=oO (xs.flatMap Kd.enc) (j*Kd.sz+f) qs
 | [],j,h,_,_=>by simp at h
 | x::xs,0,_,hf,he=>by
  simp only [List.set_cons_zero,List.flatMap_cons,Nat.zero_mul,Nat.zero_add]
  rw [FG (by rw [Kd.len];exact hf),he];rfl
 | x::xs,j+1,h,hf,he=>by
  have ih:=tE xs j (by simpa using h) hf (by simpa using he)
  simp only [List.set_cons_succ,List.flatMap_cons,ih]
  rw [show(j+1)*Kd.sz+f=(Kd.enc x).length+(j*Kd.sz+f) by rw [Kd.len,Nat.succ_mul];omega,B5]
theorem sP {cs us:List Value} {off o N:Nat} (h:o+us.length<=N) (h2:off+N<=cs.length):((gN cs (off+o) us).drop off).take N=gN ((cs.drop off).take N) o us:=by
 unfold gN
 have e1:(cs.take (off+o)++us++cs.drop (off+o+us.length)).drop off=(cs.drop off).take o++(us++cs.drop (off+o+us.length)):=by
  rw [List.append_assoc,List.drop_append_of_le_length (by simp;omega),List.drop_take]
  congr 2;omega
 have l1:((cs.drop off).take o).length=o:=by simp;omega
 have e2:(((cs.drop off).take o)++(us++cs.drop (off+o+us.length))).take N=(cs.drop off).take o++(us++(cs.drop (off+o+us.length)).take (N-o-us.length)):=by
  rw [List.take_append,l1,List.take_append,List.take_of_length_le (l:=(cs.drop off).take o) om,List.take_of_length_le (l:=us) om]
 rw [e1,e2,List.take_take,Nat.min_eq_left om,List.drop_take,List.drop_drop,List.append_assoc,Nat.add_assoc,Nat.sub_sub]
theorem Dv.Ff {t:TypeId} {td:TypeDesc} {sz:Nat} {p:VP} {qs:Cs} {j f jj:Nat} (x':α) (ho:opAt ops.toList i=some ⟨none,.store t x y,T,ps,af,g⟩) (hg:fZ ops E g)
  (hx:opv E x=some (ep v (j*Kd.sz+f))) (hy:opv E y=some p) (hq:ma p qs) (hu:P.underlying t=some td) (hz:P.cellsOf t=sz) (hl:qs.length=sz) (hjj:l[jj]? = some (own Kd v xs)) (hj:j<xs.length) (hle:f+qs.length<=Kd.sz)
  (he:Kd.enc x'=oO (Kd.enc (xs.getD j Kd.qx)) f qs)
  (hp:dr=true->∀ z∈pend,((Region.before ops).getD i 0).testBit z.1=true\/∀ _:Unit,z.2 (l.set jj (own Kd v (xs.set j x'))))
  (k:Dv P ops n dr R0 K E (l.set jj (own Kd v (xs.set j x'))) pend rest) (hkb:K.kZ E l pend ((i,true)::rest):=by first | exact trivial | assumption):Dv P ops n dr R0 K E l pend ((i,true)::rest):=
 .kZ _ (γ:=Unit) (λ_=>True) (λ_=>eq undef) (λ_=>l.set jj (own Kd v (xs.set j x'))) (fC ho) (iV.act hg λR a w h hst=>by
  obtain⟨b,off,m,c,e,e2⟩:=h x (by simp [Op.operands]) _ hx
  have hv:=h y (by simp [Op.operands]) _ hy
  obtain⟨hc,ho1⟩:=hq R _ hv
  obtain⟨mm,hm,hk⟩:=hst.eF hjj
  rcases hm with⟨_,_,e3,_⟩|⟨b',off',c',bT,fr,cs,e3,hlc,hm,hcs,hfr,hh⟩
  ·subst e3;simp at hj
  rw [e3] at e
  cases e
  subst hm
  have hb:=(je.base hk).get
  have hlen:=bV.length hc
  have h4:=xR (sz:=Kd.sz) hj
  have h5:=Nat.mul_le_mul_right Kd.sz hlc
  obtain⟨w',hr,hb2⟩:=sD (P:=P) (off:=off+(j*Kd.sz+f)) hu hz hb om ho1 om (H6 hfr)
  refine⟨(),R,w',trivial,Fz.le_refl R,St.shut hjj (.inr ⟨b,off,c,bT,fr,_,by rw [List.length_set];exact e3,by rw [List.length_set];exact hlc,rfl,by rw [rv om];exact hcs,hfr,?_⟩) (je.to (Fz.le_refl R) (λx hx=>hb2 R x hx) hk),?_⟩
  ·rw [List.length_set,sP om om,tE xs j hj hle he]
   exact Cs.gN hh hc
  ·simp [execOp,e2,Instr.storeAt,Instr.sureAddr,hr]) (λe z hz=>(hp e z hz).imp id λh b _=>h b) (λ_ _=>k) hkb
def uO {β:Type} (P:Program) (D:Sp.Kd β) (l:List As) (p:VP) (ys:List β):Prop:=∀ R w u,St R l w->p.p R u->∃ us:List Value,Cs.h R (ys.flatMap D.enc) us/\
 ∀ w':World,w'.heap=w.heap->(Builtin.lenOf u).run P w' = .ok ys.length w'/\(Builtin.firstCells D.sz ys.length u).run P w' = .ok us.toArray w'
theorem dG {ys:List α}:uO P Kd l (sl Kd ys) ys:=λR w u hst hp=>by
 rcases hp with⟨a,c,e,e2⟩|⟨b,off,c,bT,fr,cs,e,hl,hm,hc,hh⟩
 ·subst e2
  refine⟨[],.nil,λw' _=>?_⟩
  cases a <;> simp [e,Builtin.lenOf,Builtin.firstCells,loadCells,loadCellsFrom]
 ·have hb:=hst.base.uN b _ hm
  have h5:=Nat.mul_le_mul_right Kd.sz hl
  refine⟨_,hh,λw' hw=>⟨by simp [e,Builtin.lenOf],?_⟩⟩
  rw [e]
  exact run_loadCells (c:=cs) (T:=bT) (fr:=fr) (by rw [hw];exact hb) om
theorem Ft {u:Value} {ys:List α} (hA:own Kd u ys∈l):uO P Kd l (eq u) ys:=λR w u' hst hp=>by
 simp only [ez] at hp
 subst hp
 obtain⟨m,hm,hw2⟩:=St.read hA hst
 rcases hm with⟨a,e,e2,_⟩|⟨b,off,c,bT,fr,cs,e,hl,hm,hc,_,hh⟩
 ·subst e2
  refine⟨[],.nil,λw' _=>?_⟩
  cases a <;> simp [e,Builtin.lenOf,Builtin.firstCells,loadCells,loadCellsFrom]
 ·have hb:=hw2 (b,_) (by rw [hm];exact List.mem_cons_self ..)
  have h5:=Nat.mul_le_mul_right Kd.sz hl
  refine⟨_,hh,λw' hw=>⟨by simp [e,Builtin.lenOf],?_⟩⟩
  rw [e]
  exact run_loadCells (c:=cs.toArray) (T:=bT) (fr:=fr) (by rw [hw];exact hb) (by simp;omega)
def qm (s:BA):List Int:=s.data.toList.map λb=>(b.toNat:Int)
theorem GV {s:BA}:uO P (aP .u8) l (eq (.string s)) (qm s):=λR w u hst hp=>by
 simp only [ez] at hp
 subst hp
 refine⟨s.data.toList.map λb=>.int .u8 b.toNat,?_,λw' _=>⟨by simp [Builtin.lenOf,qm],?_⟩⟩
 ·unfold qm
  generalize s.data.toList=bs
  induction bs with
  | nil=>exact .nil
  | cons b bs ih=>exact .cons rfl ih
 ·have e:(qm s).length=s.size:=by simp [qm]
  have e2:s.extract 0 s.size=s:=sM
  have e3:(s.data.map λb:UInt8=>Value.int .u8 (b.toNat:Int))=(s.data.toList.map λb:UInt8=>Value.int .u8 (b.toNat:Int)).toArray:=by apply Array.ext';simp
  simp only [Builtin.firstCells,e,e2,Sem.run_pure,e3]
theorem v7 {z:Array Value} {m:Nat}:(Builtin.zeroCells z m).size=m*z.size:=by simp [Builtin.zeroCells]
theorem FM {t e xT ty:TypeId} {ti:TypeInfo} {z:Value} {R:Fz} {w:World} {u:Value} {ys:List α} {us:List Value} {m:Mem} {l':List As} (hu:P.underlying t=some (.slice e)) (hxd:P.underlying xT=some .string\/∃ e',P.underlying xT=some (.slice e'))
  (hti:P.info? e=some ti) (hsz:ti.size=Kd.sz) (hz:ti.zero=some z) (hzs:z.cells.size=Kd.sz) (h0:0<Kd.sz)
  (hA:(own Kd v xs).p R m) (hst:je R m l' w) (hus:Cs.h R (ys.flatMap Kd.enc) us)
  (hrun:∀ w':World,w'.heap=w.heap->(Builtin.lenOf u).run P w' = .ok ys.length w'/\(Builtin.firstCells Kd.sz ys.length u).run P w' = .ok us.toArray w')
  (hbig:(xs.length+ys.length)*ti.bytes<=140737488355328) (h63:xs.length+ys.length<=9223372036854775807):
  ∃ v' w' m',(Builtin.append_ #[t,xT] ty #[v,u]).run P w = .ok v' w'/\(own Kd v' (xs++ys)).p R m'/\je R m' l' w':=by
 have hsz2:∀ w,(sizeOf e).run P w = .ok Kd.sz w:=λw=>by simp [sizeOf,typeInfo,hti,hsz]
 have hzr:∀ w,(zeroValue e).run P w = .ok z w:=λw=>by simp [zeroValue,typeInfo,hti,hz]
 have hlu:us.length=ys.length*Kd.sz:=by rw [<- bV.length hus,cO]
 have grow:∀ (a:Option Addr) (c:Nat) (os:List Value),v = .slice a xs.length c->c<xs.length+ys.length->Cs.h R (xs.flatMap Kd.enc) os->(∀ w':World,w'.heap=w.heap->(Builtin.firstCells Kd.sz xs.length v).run P w' = .ok os.toArray w')->
   ∃ v' w' m',(Builtin.append_ #[t,xT] ty #[v,u]).run P w = .ok v' w'/\(own Kd v' (xs++ys)).p R m'/\je R m' l' w':=by
  intro a c os e1 hc hos hfo
  have hlo:os.length=xs.length*Kd.sz:=by rw [<- bV.length hos,cO]
  have h1:¬ (xs.length+ys.length<=c):=om
  have h2:¬ (((xs.length+ys.length:Nat):Int)>IntKind.i64.max/\ti.bytes=0):=by
   rintro⟨h,_⟩
   have:IntKind.i64.max=9223372036854775807:=rfl
   omega
  have h3:¬ (Builtin.nextslicecap (xs.length+ys.length) c*ti.bytes>2 ^ 48):=by
   have h4:=Nat.mul_le_mul_right ti.bytes (wh (xs.length+ys.length) c hc)
   rw [Nat.mul_assoc] at h4
   omega
  let nc:=(Question.appendCap (xs.length+ys.length) c e).cut (w.tape w.drawn (.appendCap (xs.length+ys.length) c e))
  have hnc:xs.length+ys.length<=nc:=Nat.le_add_right _ _
  let cells:=os++us++(Builtin.zeroCells z.cells (nc-(xs.length+ys.length))).toList
  have hcl:cells.length=nc*Kd.sz:=by
   simp only [cells,List.length_append,Array.length_toList,v7,hzs,hlo,hlu]
   rw [<- Nat.add_mul,<- Nat.add_mul]
   congr 1
   omega
  refine⟨.slice (some ⟨w.heap.size,0,none⟩) (xs.length+ys.length) nc,w.drew.alloc (.cells cells.toArray e),[(w.heap.size,.cells cells.toArray e)],?_,?_,?_⟩
  ·have hf2:=hfo w.drew rfl
   have hf1:=(hrun w rfl).1
   have hf3:=(hrun w.drew rfl).2
   simp only [e1] at hf2
   have h1':¬ (9223372036854775807<((xs.length:Int)+(ys.length:Int))/\ti.bytes=0):=om
   have h3':¬ (281474976710656<Builtin.nextslicecap (xs.length+ys.length) c*ti.bytes):=om
   rcases hxd with hxd | ⟨e',hxd⟩
   all_goals
    simp [Builtin.append_,e1,run_underlying hu,run_underlying hxd,sizeOf,typeInfo,zeroValue,hti,hz,hsz,hf1,hf2,hf3,h1,h1',h3',Question.forced,newRow]
    exact⟨rfl,congrArg (λq=>w.drew.alloc (Obj.cells q e)) (Array.ext' (by simp [cells,nc]))⟩
  ·refine .inr ⟨w.heap.size,0,nc,e,(0,0),cells,sM,by simpa using hnc,rfl,om,sM,?_⟩
   have e4:((cells.drop 0).take ((xs++ys).length*Kd.sz))=os++us:=by
    rw [List.drop_zero]
    simp only [cells]
    rw [List.take_append_of_le_length (by simp [hlo,hlu,Nat.add_mul])]
    exact List.take_of_length_le (by simp [hlo,hlu,Nat.add_mul])
   rw [e4,List.flatMap_append]
   exact bV.append hos hus
  ·refine je.to (m:=m) (m':=[(w.heap.size,.cells cells.toArray e)]) (Fz.le_refl R) (λx hx=>?_) hst
   exact(hx.drop.alloc (.cells cells.toArray e)).drew (w.drawn+1) (Nat.le_succ _)
 rcases hA with⟨a,e1,e2,e3⟩|⟨b,off,c,bT,fr,cs,e1,hlc,hm,hcs,hfr,hh⟩
 ·subst e2
  rcases Nat.eq_zero_or_pos ys.length with h | h
  ·have hy:ys=[]:=List.length_eq_zero_iff.1 h
   subst hy
   refine⟨v,w,m,?_,.inl ⟨a,e1,rfl,e3⟩,hst⟩
   have hul:us=[]:=by have:=hlu;simp at this;exact this
   have hr1:=(hrun w rfl).1
   have hr2:=(hrun w rfl).2
   simp only [hul,List.length_nil] at hr1 hr2
   rcases hxd with hxd | ⟨e',hxd⟩
   all_goals
    cases a <;> simp [Builtin.append_,e1,run_underlying hu,run_underlying hxd,sizeOf,typeInfo,hti,hsz,hr1,hr2,storeCells]
  ·refine grow a 0 [] e1 (by simpa using h) .nil (λw' _=>?_)
   cases a <;> simp [e1,Builtin.firstCells,loadCells,loadCellsFrom]
 ·by_cases hc:xs.length+ys.length<=c
  ·subst hm
   have hb:=(je.base hst).get
   have h5:=Nat.mul_le_mul_right Kd.sz hc
   rw [Nat.add_mul] at h5
   obtain⟨w',hr,hb2⟩:=oH (P:=P) us (off+xs.length*Kd.sz) 0 hb (Cs.Av (λq hq=>by
    obtain⟨y,_,hy⟩:=List.mem_flatMap.1 hq
    exact λR v hv=>Kd.one y q hy R v hv) hus) om (H6 hfr)
   refine⟨.slice (some ⟨b,off,none⟩) (xs.length+ys.length) c,w',_,?_,.inr ⟨b,off,c,bT,fr,_,sM,by simpa using hc,rfl,by rw [rv om];exact hcs,hfr,?_⟩,je.to (Fz.le_refl R) (λx hx=>hb2 R x hx) hst⟩
   ·have hr1:=(hrun w rfl).1
    have hr2:=(hrun w rfl).2
    rcases hxd with hxd | ⟨e',hxd⟩
    all_goals
     simp [Builtin.append_,e1,run_underlying hu,run_underlying hxd,sizeOf,typeInfo,hti,hsz,hr1,hr2,hc,add_eq,hr]
   ·rw [Nat.add_zero,sP (N:=(xs++ys).length*Kd.sz) (by simp [Nat.add_mul];omega) (by simp [Nat.add_mul];omega),List.flatMap_append]
    have e5:gN ((cs.drop off).take ((xs++ys).length*Kd.sz)) (xs.length*Kd.sz) us=(cs.drop off).take (xs.length*Kd.sz)++us:=by
     have e6:(((cs.drop off).take ((xs++ys).length*Kd.sz)).drop (xs.length*Kd.sz+us.length))=[]:=List.drop_of_length_le (by simp [hlu,Nat.add_mul];omega)
     unfold gN
     rw [e6,List.take_take,List.append_nil,Nat.min_eq_left (by simp [Nat.add_mul])]
    rw [e5]
    exact bV.append hh hus
  ·have hb:=(je.base hst)
   rw [hm] at hb
   have hb:=hb.get
   have h5:=Nat.mul_le_mul_right Kd.sz hlc
   refine grow _ c _ e1 om hh (λw' hw=>?_)
   rw [e1]
   exact run_loadCells (c:=cs.toArray) (T:=bT) (fr:=fr) (by rw [hw];exact hb) (by simp;omega)
end
def Bs (R:Fz):Mem->List As->Prop
 | m,[]=>m=[]
 | m,A::l=>∃ m1 m2,A.p R m1/\Bs R m2 l/\m.Perm (m1++m2)
theorem Bs.mono {R R':Fz} (h:R.le R'):∀ {l:List As} {m:Mem},Bs R m l->Bs R' m l
 | [],_,k=>k
 | A::_,_,⟨m1,m2,h1,h2,hp⟩=>⟨m1,m2,A.mono h h1,Bs.mono h h2,hp⟩
theorem Bs.app {R:Fz}:∀ {l k:List As} {m m':Mem},Bs R m l->Bs R m' k->Bs R (m++m') (l++k)
 | [],_,m,m',h,hk=>by simp only [Bs] at h;subst h;exact hk
 | A::l,k,m,m',⟨m1,m2,h1,h2,hp⟩,hk=>⟨m1,m2++m',h1,Bs.app h2 hk,by rw [<- List.append_assoc];exact hp.append_right _⟩
theorem Bs.split {R:Fz}:∀ {l k:List As} {m:Mem},Bs R m (l++k)->∃ m1 m2,Bs R m1 l/\Bs R m2 k/\m.Perm (m1++m2)
 | [],_,m,h=>⟨[],m,rfl,h,List.Perm.refl _⟩
 | A::l,k,m,⟨m1,m2,h1,h2,hp⟩=>by
  obtain⟨n1,n2,k1,k2,kp⟩:=Bs.split h2
  exact⟨m1++n1,n2,⟨m1,n1,h1,k1,List.Perm.refl _⟩,k2,by rw [List.append_assoc];exact hp.trans (kp.append_left _)⟩
theorem je.nf {R:Fz} {w:World}:∀ {l:List As} {m0:Mem},je R m0 l w->∃ m,Bs R m l/\iw R (m++m0) w
 | [],m0,h=>⟨[],rfl,h⟩
 | A::l,m0,⟨m1,h1,h2⟩=>by
  obtain⟨m,hb,hw⟩:=je.nf h2
  exact⟨m1++m,⟨m1,m,h1,hb,List.Perm.refl _⟩,hw.perm (by rw [<- List.append_assoc];exact List.perm_append_comm.append_right _)⟩
theorem je.nh {R:Fz} {w:World}:∀ {l:List As} {m m0:Mem},Bs R m l->iw R (m++m0) w->je R m0 l w
 | [],m,m0,h,hw=>by simp only [Bs] at h;subst h;exact hw
 | A::l,m,m0,⟨m1,m2,h1,h2,hp⟩,hw=>⟨m1,h1,je.nh h2 (hw.perm ((hp.append_right _).trans (by
  rw [<- List.append_assoc];exact List.perm_append_comm.append_right _)))⟩
theorem St.nf {R:Fz} {w:World} {l:List As} (h:St R l w):∃ m,Bs R m l/\iw R m w:=by
 obtain⟨m,h1,h2⟩:=je.nf h
 exact⟨m,h1,by simpa using h2⟩
theorem St.nh {R:Fz} {w:World} {l:List As} {m:Mem} (h:Bs R m l) (hw:iw R m w):St R l w:=je.nh h (by simpa using hw)
def Flat (p:VP):Prop:=∀ R R' v,p.p R v->p.p R' v
def EP (A:As):Prop:=∀ R R' m,A.p R m->A.p R' m
def rZ (ps:Cs):Prop:=∀ p∈ps,Flat p
theorem cJ {v:Value}:Flat (eq v):=λ_ _ _ h=>h
theorem jB:rZ []:=λ_ h=>by cases h
theorem bH {p:VP} {ps:Cs} (h:Flat p) (k:rZ ps):rZ (p::ps):=λq hq=>by
 rcases List.mem_cons.1 hq with rfl | hq
 ·exact h
 ·exact k q hq
theorem rZ.h {ps:Cs} (h:rZ ps) {R R':Fz} {cs:List Value} (k:Cs.h R ps cs):Cs.h R' ps cs:=by
 induction k with
 | nil=>exact .nil
 | cons h1 _ ih=>exact .cons (h _ (List.mem_cons_self ..) _ _ _ h1) (ih λq hq=>h q (List.mem_cons_of_mem _ hq))
theorem flat_agg {ps:Cs} (h:rZ ps):Flat (agg ps):=λ_ _ _ ⟨cs,e,hc⟩=>⟨cs,e,h.h hc⟩
theorem vH {ps:Cs} (h:rZ ps):Flat (lg ps):=λ_ _ _ ⟨cs,e,hc⟩=>⟨cs,e,h.h hc⟩
def Ew {α:Type} (K:Kd α):Prop:=∀ x,rZ (K.enc x)
theorem CR:Ew az:=λ_=>bH cJ jB
theorem wo {α:Type} {K:Kd α} (h:Ew K) (xs:List α):rZ (xs.flatMap K.enc):=λq hq=>by
 obtain⟨x,_,hx⟩:=List.mem_flatMap.1 hq
 exact h x q hx
theorem sR {α:Type} {K:Kd α} {v:Value} {xs:List α} (h:Ew K):EP (own K v xs):=λR R' m hm=>by
 rcases hm with hm | ⟨b,off,c,T,fr,cs,e,hl,hm,hc,hf,hh⟩
 ·exact .inl hm
 ·exact .inr ⟨b,off,c,T,fr,cs,e,hl,hm,hc,hf,(wo h xs).h hh⟩
def rA (l:List As):Prop:=∀ A∈l,EP A
theorem rC:rA []:=λ_ h=>by cases h
theorem qU {A:As} {l:List As} (h:EP A) (k:rA l):rA (A::l):=λq hq=>by
 rcases List.mem_cons.1 hq with rfl | hq
 ·exact h
 ·exact k q hq
theorem rA.bs {R R':Fz}:∀ {l:List As} {m:Mem},rA l->Bs R m l->Bs R' m l
 | [],_,_,h=>h
 | A::l,_,hf,⟨m1,m2,h1,h2,hp⟩=>⟨m1,m2,hf A (List.mem_cons_self ..) _ _ _ h1,rA.bs (λB hB=>hf B (List.mem_cons_of_mem _ hB)) h2,hp⟩
def tF {γ:Type} (ok:γ->Prop) (f:γ->List As):As:=⟨λR m=>∃ g,ok g/\Bs R m (f g),λhR ⟨g,h,k⟩=>⟨g,h,k.mono hR⟩⟩
def Gh (n:Nat) (R0:Fz) (E:Env) (l:List As) {γ:Type} (ok:γ->Prop) (E':γ->Env) (l':γ->List As):Prop:=
 ∀ R a w,R0.le R->od n R a E->St R l w->∃ g R',ok g/\R.le R'/\od n R' a (E' g)/\St R' (l' g) w
section
variable {P:Program} {ops:Array Oper} {n:Nat} {R0:Fz} {K:KU} {Q:Exit->Act->World->Prop} {E:Env} {l:List As} {pend:List (Nat×(List As->Prop))} {c:List (Nat×Bool)}
variable {γ:Type} {ok:γ->Prop} {E':γ->Env} {l':γ->List As}
theorem Dv.gh (h:Gh n R0 E l ok E' l') (k:∀ g,ok g->Dv P ops n false R0 K (E' g) (l' g) pend c):Dv P ops n false R0 K E l pend c:=.ghe ok E' l' rfl h k
theorem WP.gh {c:Code} (h:Gh n R0 E l ok E' l') (k:∀ g,ok g->WP P n R0 c Q (E' g) (l' g)):WP P n R0 c Q E l:=λR a w h0 ha hs=>by
 obtain⟨g,R',hg,hR,ha',hs'⟩:=h R a w h0 ha hs
 exact k g hg R' a w (Fz.le_trans h0 hR) ha' hs'
theorem Dn.gh {G:Act->World->Prop} (h:Gh n R0 E l ok E' l') (k:∀ g,ok g->∀ R a w,R0.le R->od n R a (E' g)->St R (l' g) w->G a w):∀ R a w,R0.le R->od n R a E->St R l w->G a w:=λR a w h0 ha hs=>by
 obtain⟨g,R',hg,hR,ha',hs'⟩:=h R a w h0 ha hs
 exact k g hg R' a w (Fz.le_trans h0 hR) ha' hs'
theorem Dv.ga {dr:Bool} (ok:γ->Prop) (l':γ->List As) (h:∀ R w,St R l w->∃ g,ok g/\St R (l' g) w) (hq:dr=true->∀ x∈pend,∀ g,ok g->x.2 (l' g)) (k:∀ g,ok g->Dv P ops n dr R0 K E (l' g) pend c):Dv P ops n dr R0 K E l pend c:=
 .Il ok l' (λR w _ hs=>by obtain⟨g,hg,hs'⟩:=h R w hs;exact⟨g,R,hg,Fz.le_refl R,hs'⟩) hq k
theorem bL {l':γ->List As} (h:∀ R w,St R l w->∃ g,ok g/\St R (l' g) w):Gh n R0 E l ok (λ_=>E) l':=λR a w _ ha hs=>by
 obtain⟨g,hg,hs'⟩:=h R w hs
 exact⟨g,R,hg,Fz.le_refl R,ha,hs'⟩
theorem dX {α:Type} (Kd:Kd α) (a:Option Addr):∀ R w,St R l w->∃ _:Unit,True/\St R (own Kd (.slice a 0 0) []::l) w:=λR w hs=>⟨(),trivial,[],Gu a,hs⟩
theorem iO {γ:Type} {ok:γ->Prop} {f:γ->List As} (j:Nat) (hj:l[j]? = some (tF ok f)):∀ R w,St R l w->∃ g,ok g/\St R (f g++l.eraseIdx j) w:=λR w hs=>by
 obtain⟨m,⟨g,hg,hb⟩,hk⟩:=hs.eF hj
 obtain⟨m2,h2,hw⟩:=je.nf hk
 exact⟨g,hg,St.nh (Bs.app hb h2) (hw.perm List.perm_append_comm)⟩
theorem ie {γ:Type} (ok:γ->Prop) (f:γ->List As) (g:γ) (hg:ok g) {r:List As} (hp:l.Perm (f g++r)):∀ R w,St R l w->∃ _:Unit,True/\St R (tF ok f::r) w:=λR w hs=>by
 obtain⟨m,hb,hw⟩:=(hs.fY hp).nf
 obtain⟨m1,m2,h1,h2,hq⟩:=hb.split
 exact⟨(),trivial,m1,⟨g,hg,h1⟩,je.nh h2 (hw.perm (hq.trans (by rw [List.append_nil];exact List.perm_append_comm)))⟩
def Cv (v:Value) (q p p':VP):Prop:=∀ R u,q.p R v->p.p R u->p'.p R u
def Jd (v:Value) (q:VP) (A A':As):Prop:=∀ R m,q.p R v->A.p R m->A'.p R m
variable {v:Value} {q:VP}
theorem aB {p:VP}:Cv v q p p:=λ_ _ _ h=>h
theorem jx:Cv v q (eq v) q:=λ_ _ h e=>by simp only [ez] at e;subst e;exact h
theorem DM {ps ps':Cs} (h:bV (Cv v q) ps ps') {R:Fz} {cs:List Value} (hq:q.p R v) (hc:Cs.h R ps cs):Cs.h R ps' cs:=by
 induction h generalizing cs with
 | nil=>cases hc;exact .nil
 | cons h1 _ ih=>cases hc with | cons c1 c2=>exact .cons (h1 _ _ hq c1) (ih c2)
theorem sN {ps ps':Cs} (h:bV (Cv v q) ps ps'):Cv v q (agg ps) (agg ps'):=λ_ _ hq ⟨cs,e,hc⟩=>⟨cs,e,DM h hq hc⟩
theorem bn {A:As}:Jd v q A A:=λ_ _ _ h=>h
theorem pW {b:Nat} {T:TypeId} {ps ps':Cs} (h:bV (Cv v q) ps ps'):Jd v q (ar b T ps) (ar b T ps'):=λ_ _ hq ⟨cs,e,hc⟩=>⟨cs,e,DM h hq hc⟩
theorem AJ {R:Fz} (hq:q.p R v):∀ {l l':List As} {m:Mem},bV (Jd v q) l l'->Bs R m l->Bs R m l'
 | [],_,_,.nil,h=>h
 | _::_,_,_,.cons h1 h2,⟨m1,m2,k1,k2,hp⟩=>⟨m1,m2,h1 _ _ hq k1,AJ hq h2 k2,hp⟩
def Jm (v:Value) (q:VP) (E E':Env):Prop:=∀ t p',find E' t=some p'->∃ p,find E t=some p/\Cv v q p p'
theorem iG:Jm v q E []:=λ_ _ h=>by cases h
theorem ao {E':Env} {t:Nat} {p p':VP} (h:find E t=some p) (hc:Cv v q p p') (k:Jm v q E E'):Jm v q E ((t,p')::E'):=λs r hr=>by
 simp only [find] at hr
 split at hr
 ·rename_i e;have:=Nat.eq_of_beq_eq_true e;subst this;cases hr;exact⟨p,h,hc⟩
 ·exact k s r hr
theorem o4 {α:Type} {Kd:Kd α} {xs:List α} {E':Env} {l':List As} (j:Nat) (hj:l[j]? = some (own Kd v xs)) (hE:Jm v (sl Kd xs) E E') (hl:bV (Jd v (sl Kd xs)) (l.eraseIdx j) l'):
  Gh n R0 E l (γ:=Unit) (λ_=>True) (λ_=>E') (λ_=>l'):=λR a w _ ha hs=>by
 obtain⟨m,hm,hk⟩:=hs.eF hj
 have hq:=BQ hm
 obtain⟨m2,h2,hw⟩:=(St.freeze hk).nf
 exact⟨(),R.plus m,trivial,R.mS m,⟨ha.1,ha.2.1,λt p' hp'=>by
  obtain⟨p,h1,h2⟩:=hE t p' hp'
  exact h2 _ _ hq (p.mono (R.mS m) (ha.2.2 t p h1))⟩,St.nh (AJ hq hl h2) hw⟩
end
def Lt (B:List As) (p p':VP):Prop:=∀ R m u,Bs R m B->p.p R u->p'.p (R.plus m) u
section
variable {B:List As}
theorem nV {p:VP}:Lt B p p:=λR m _ _ h=>p.mono (R.mS m) h
theorem Bs.mem {R:Fz}:∀ {l:List As} {m:Mem} {A:As},A∈l->Bs R m l->∃ m1,A.p R m1/\∀ x∈m1,x∈m
 | B::l,m,A,hA,⟨m1,m2,h1,h2,hp⟩=>by
  rcases List.mem_cons.1 hA with rfl | hA
  ·exact⟨m1,h1,λx hx=>hp.mem_iff.2 (List.mem_append_left _ hx)⟩
  ·obtain⟨m3,h3,k⟩:=Bs.mem hA h2
   exact⟨m3,h3,λx hx=>hp.mem_iff.2 (List.mem_append_right _ (k x hx))⟩
theorem GQ {R:Fz} {m m':Mem} (h:∀ x∈m,x∈m'):(R.plus m).le (R.plus m'):=⟨rfl,λ_ _ k=>k.imp id (h _)⟩
theorem ln {α:Type} {Kd:Kd α} {v:Value} {xs:List α} (h:own Kd v xs∈B):Lt B (eq v) (sl Kd xs):=λR m u hB e=>by
 simp only [ez] at e
 subst e
 obtain⟨m1,h1,k⟩:=Bs.mem h hB
 exact(sl Kd xs).mono (GQ k) (BQ h1)
theorem I3 {R:Fz} {m:Mem} (hB:Bs R m B) {ps ps':Cs} {cs:List Value} (h:bV (Lt B) ps ps') (hc:Cs.h R ps cs):Cs.h (R.plus m) ps' cs:=by
 induction h generalizing cs with
 | nil=>cases hc;exact .nil
 | cons h1 _ ih=>cases hc with | cons c1 c2=>exact .cons (h1 _ _ _ hB c1) (ih c2)
def exact(m:Mem):As:=⟨λ_ m'=>m'=m,λ_ h=>h⟩
def Fz.minus (R:Fz) (m:Mem):Fz:=⟨λb o=>R.mem b o/\b ∉ m.map (·.1),R.w0⟩
theorem Tr.qz {P:Program} {f:FuncId} {vs vs':List VP} {pre:List As} {γ:Type} {ok:γ->Prop} {ret:γ->VP} {post:γ->List As} (B:List As) (h:Tr P f vs pre ok ret post) (hv:bV (Lt B) vs' vs)
  (hr:∀ g,Flat (ret g)) (hp:∀ g,rA (post g)):Tr P f vs' (B++pre) ok ret (λg=>B++post g):=λR F w us hu hs=>by
 obtain⟨m,hb,hw⟩:=hs.nf
 obtain⟨m1,mF,h1,hF,q1⟩:=hb.split
 obtain⟨mB,mp,hB,hpre,q2⟩:=h1.split
 have hw1:iw R (mB++(mp++mF)) w:=hw.perm (q1.trans (by rw [<- List.append_assoc];exact q2.append_right _))
 have hc:=h (R.plus mB) [exact mF] w us (I3 hB hv hu) (St.nh (m:=mp++mF) (Bs.app (hpre.mono (R.mS mB)) ⟨mF,[],rfl,rfl,sM⟩) hw1.yN)
 refine hc.mono ?_
 rintro e w' ⟨g,R',v,hg,hR,he,hv,hs'⟩
 obtain⟨m',hb',hw'⟩:=hs'.nf
 obtain⟨mo,mF',ho,⟨a1,a2,e1,e2,q4⟩,q3⟩:=hb'.split
 have hmF:mF'.Perm mF:=by
  simp only [exact] at e1
  simp only [Bs] at e2
  subst e1 e2
  simpa using q4
 have hw2:iw R' (mo++mF) w':=hw'.perm (q3.trans (hmF.append_left _))
 have hB':∀ x∈mB,R'.mem x.1 x.2:=λx hx=>hR.2 _ _ (.inr hx)
 have hRR:R.le (R'.minus mB):=⟨hR.1,λb o hbo=>⟨hR.2 _ _ (.inl hbo),λhm=>by
  obtain⟨x,hx,e⟩:=List.mem_map.1 hm
  exact hw1.BY x (List.mem_append_left _ hx) o (by rw [e];exact hbo)⟩⟩
 have hnd1:(mB.map (·.1)).Nodup:=by have:=hw1.nd;rw [List.map_append] at this;exact(List.nodup_append.1 this).1
 have hw3:iw (R'.minus mB) (mB++(mo++mF)) w':=by
  refine⟨hw2.os,hw2.tape,hw2.output,hw2.size,λb o hbo=>hw2.uN b o hbo.1,?_,λx hx=>?_,λx hx o ho=>?_,hw2.Fh⟩
  ·rw [List.map_append,List.nodup_append]
   refine⟨hnd1,hw2.nd,λa ha b hb e=>?_⟩
   obtain⟨x,hx,rfl⟩:=List.mem_map.1 ha
   obtain⟨y,hy,rfl⟩:=List.mem_map.1 hb
   exact hw2.BY y hy x.2 (by rw [<- e];exact hB' x hx)
  ·rcases List.mem_append.1 hx with hx | hx
   ·exact hw2.uN _ _ (hB' x hx)
   ·exact hw2.own x hx
  ·rcases List.mem_append.1 hx with hx | hx
   ·exact ho.2 (List.mem_map.2 ⟨x,hx,rfl⟩)
   ·exact hw2.BY x hx o ho.1
 refine⟨g,R'.minus mB,v,hg,hRR,he,hr g _ _ _ hv,St.nh (m:=mB++(mo++mF)) ?_ hw3⟩
 rw [List.append_assoc]
 exact Bs.app (hB.mono hRR) (Bs.app ((hp g).bs ho) (hF.mono hRR))
theorem Pt.qz {P:Program} {f:FuncId} {vs vs':List VP} {ret:VP} (B:List As) (h:Pt P f vs ret) (hv:bV (Lt B) vs' vs) (hr:Flat ret):Tr P f vs' B (γ:=Unit) (λ_=>True) (λ_=>ret) (λ_=>B):=by
 have:=h.tr.qz B hv (λ_=>hr) (λ_=>rC)
 simpa using this
end
abbrev OV:={ v:Value // v.oneCell'=true }
abbrev iQ:OV:=⟨.slice none 0 0,rfl⟩
abbrev HT:OV:=iQ
theorem fI {α:Type} {p:α->α->Prop} {l k F:List α} (h:bV p l k) (hr:∀ a,p a a):bV p (l++F) (k++F):=h.append (by
 induction F with
 | nil=>exact .nil
 | cons a F ih=>exact .cons (hr a) ih)
theorem cS {v:OV}:One (eq v.1):=ai v.2
theorem GR {α:Type} {Kd:Kd α} {v:Value} {xs:List α} {R:Fz} {m:Mem} (h:(own Kd v xs).p R m):v.oneCell'=true:=by
 obtain⟨a,c,e⟩:=wY h;subst e;rfl
theorem Ba {l l':List As} {R:Fz} {w:World}:∀ (n:Nat),l.drop n=l'->St R l w->St R l' w
 | 0,h,k=>by simp at h;subst h;exact k
 | n+1,h,k=>by
  cases l with
  | nil=>simp at h;subst h;exact k
  | cons A l=>exact Ba n (by simpa using h) k.drop
def sel (L:List As):List Nat->List As
 | []=>[]
 | j::js=>L.getD j (tF (γ:=Unit) (λ_=>True) (λ_=>[]))::sel L js
theorem A5 (L:List As):∀ js,sel L js=js.map (λj=>L.getD j (tF (γ:=Unit) (λ_=>True) (λ_=>[])))
 | []=>rfl
 | j::js=>by simp only [sel,List.map_cons,A5 L js]
theorem yG {L:List As} (F:List As) (js:List Nat) (h:js.isPerm (List.range L.length)=true):(L++F).Perm (sel L js++F):=by
 refine List.Perm.append_right F ?_
 rw [A5]
 have h1:L=(List.range L.length).map (λj=>L.getD j (tF (γ:=Unit) (λ_=>True) (λ_=>[]))):=by
  apply List.ext_getElem
  ·simp
  ·intro i h1 h2;simp [gE h1]
 refine(List.Perm.of_eq h1).trans (List.Perm.map _ (List.isPerm_iff.1 h).symm)
theorem bN {L F l l':List As} (js:List Nat) (h:js.isPerm (List.range L.length)=true) (e:L++F=l) (e':sel L js++F=l'):l.Perm l':=by
 subst e e';exact yG F js h
theorem oX {L F l l':List As} (js:List Nat) (n:Nat) (h:js.isPerm (List.range L.length)=true) (e:L++F=l) (e':(sel L js++F).drop n=l'):∀ R w,St R l w->St R l' w:=λR w k=>by
 subst e
 exact Ba n e' (k.fY (yG F js h))
theorem nX {L F l l':List As} (js:List Nat) (n:Nat) (h:js.isPerm (List.range L.length)=true) (e:L++F=l) (e':(sel L js++F).drop n=l'):∀ R w,St R l w->∃ _:Unit,True/\St R l' w:=λR w k=>⟨(),trivial,oX js n h e e' R w k⟩
theorem qV {B L F l:List As} (G:List As) (js:List Nat) (h:js.isPerm (List.range L.length)=true) (e:L++F=l) (e':sel L js++F=B++G):∃ F,l.Perm (B++F):=⟨G,bN js h e e'⟩
def NN (A:As) (p:Value):Prop:=∀ R m,A.p R m->∃ a,p = .pointer (some a)
section
variable {P:Program} {ops:Array Oper} {n:Nat} {dr:Bool} {R0:Fz} {K:KU} {E:Env} {l:List As} {pend:List (Nat×(List As->Prop))} {rest:List (Nat×Bool)} {i d:Nat}
variable {T:TypeId} {ps:String} {af:Array Edge} {g:Option (Nat×Bool)} {x y:Operand} {α:Type} {Kd:Kd α} {v:Value} {xs:List α}
theorem Dv.appv {t e xT:TypeId} {ti:TypeInfo} {z:Value} {p:VP} {ys:List α} {jj:Nat} (ho:opAt ops.toList i=some ⟨some d,.call ⟨.builtin .append,#[x,y],#[t,xT]⟩,T,ps,af,g⟩) (hg:fZ ops E g)
  (hx:opv E x=some (eq v)) (hjj:l[jj]? = some (own Kd v xs)) (hy:opv E y=some p) (hs:uO P Kd l p ys) (hu:P.underlying t=some (.slice e)) (hxd:P.underlying xT=some .string\/∃ e',P.underlying xT=some (.slice e'))
  (hti:P.info? e=some ti) (hsz:ti.size=Kd.sz) (hz:ti.zero=some z) (hzs:z.cells.size=Kd.sz) (h0:0<Kd.sz) (hb:xs.length+ys.length<=9223372036854775807/\(xs.length+ys.length)*ti.bytes<=140737488355328)
  (hp:dr=true->∀ z∈pend,((Region.before ops).getD i 0).testBit z.1=true\/∀ v':OV,z.2 (l.set jj (own Kd v'.1 (xs++ys))))
  (k:∀ v':OV,Dv P ops n dr R0 K ((d,eq v'.1)::E) (l.set jj (own Kd v'.1 (xs++ys))) pend rest) (hkb:K.kZ E l pend ((i,true)::rest):=by first | exact trivial | assumption):Dv P ops n dr R0 K E l pend ((i,true)::rest):=
 .kZ _ (γ:=OV) (λ_=>True) (λv'=>eq v'.1) (λv'=>l.set jj (own Kd v'.1 (xs++ys))) (fC ho) (iV.val hg λR a w h hst=>by
  have e1:=h x (by simp [Op.operands,Call.operands]) _ hx
  have e2:=h y (by simp [Op.operands,Call.operands]) _ hy
  simp only [ez] at e1
  obtain⟨us,hus,hrun⟩:=hs R w _ hst e2
  obtain⟨m,hm,hk⟩:=hst.eF hjj
  obtain⟨v',w',m',hr,hm',hk'⟩:=FM (ty:=T) hu hxd hti hsz hz hzs h0 hm hk hus hrun hb.2 hb.1
  refine⟨⟨v',GR hm'⟩,R,v',w',trivial,Fz.le_refl R,rfl,St.shut hjj hm' hk',?_⟩
  simp [execOp,resolve,invoke,builtin,e1,hr]) (λe z hz=>(hp e z hz).imp id λh b _=>h b) (λb _=>k b) hkb
theorem Dv.fabp {s j:Nat} {fs:Array Field} {f:Field} {fd:TypeDesc} {sz b off:Nat} {p:Value} (hpp:p = .pointer (some ⟨b,off,none⟩)) (ho:opAt ops.toList i=some ⟨some d,.fieldAddr s x j,T,ps,af,g⟩) (hg:fZ ops E g)
  (hx:opv E x=some (eq p)) (hu:P.underlying s=some (.struct fs)) (hf:fs[j]? = some f) (hv:P.underlying f.type=some fd) (hz:P.cellsOf f.type=sz) (h0:sz≠0)
  (k:Dv P ops n dr R0 K ((d,eq (.pointer (some ⟨b,off+f.offset,none⟩)))::E) l ((i,tt)::pend) rest):Dv P ops n dr R0 K E l pend ((i,false)::rest):=by
 subst hpp
 exact Dv.fab ho hg hx hu hf hv hz h0 k
theorem Dv.aJ {a:Addr} {p:Value} (hpp:p = .pointer (some a)) (ho:opAt ops.toList i=some ⟨some d,.nilCheck x,T,ps,af,g⟩)
  (hg:fZ ops E g) (hx:opv E x=some (eq p)) (k:Dv P ops n dr R0 K ((d,eq p)::E) l ((i,tt)::pend) rest):Dv P ops n dr R0 K E l pend ((i,false)::rest):=by
 subst hpp
 exact Dv.nilp ho hg hx k
theorem Dv.mD {A:As} {p:Value} (hn:NN A p) (ho:opAt ops.toList i=some ⟨some d,.nilCheck x,T,ps,af,g⟩)
  (hg:fZ ops E g) (hx:opv E x=some (eq p)) (hA:A∈l) (k:Dv P ops n dr R0 K ((d,eq p)::E) l ((i,(A∈·))::pend) rest):Dv P ops n dr R0 K E l pend ((i,false)::rest):=
 Dv.mg _ _ ho (eV.val hg λR a w l h hA hst=>by
  have e:=h x (by simp [Op.operands]) _ hx
  simp only [ez] at e
  obtain⟨m,hm,_⟩:=St.read hA hst
  obtain⟨ad,e2⟩:=hn R m hm
  exact⟨R,p,w,Fz.le_refl R,rfl,hst,by simp [execOp,e,e2]⟩) hA k
theorem oR {γ:Type} {f:γ->List As} {p:Value} {b:γ->Nat}:NN (tF (λg=>p = .pointer (some ⟨b g,0,none⟩)) f) p:=λ_ _ ⟨_,h,_⟩=>⟨_,h⟩
theorem D2 {kd:IntKind} {m:Int} {y:Nat} {cd:BoundsCode} {w:World} (h0:0<=m) (h1:m<=y):(Instr.sliceBound (.int kd m) y cd).run P w = .ok m.toNat w:=by
 simp [Instr.sliceBound,asIntOf,h0,h1]
theorem BG {k:Nat} {γ:Type} {ok:γ->Prop} {L:γ->List As} (h:∀ z∈pend,((Region.before ops).getD k 0).testBit z.1=true\/∀ b,z.2 (L b)):∀ z∈pend,((Region.before ops).getD k 0).testBit z.1=true\/∀ b,ok b->z.2 (L b):=
 λz hz=>(h z hz).imp id λh b _=>h b
theorem Dv.D1 {f:FuncId} {as:Array Operand} {ts:Array TypeId} {vs:List VP} {B F:List As} {ret:VP} (ho:opAt ops.toList i=some ⟨some d,.call ⟨.value (.func f),as,ts⟩,T,ps,af,g⟩) (hg:fZ ops E g)
  (hc:fx P f=true) (hv:opvs E as.toList=some vs) (ht:Tr P f vs B (γ:=Unit) (λ_=>True) (λ_=>ret) (λ_=>B)) (hl:l.Perm (B++F))
  (k:Dv P ops n dr R0 K ((d,ret)::E) l ((i,λl=>∃ F,l.Perm (B++F))::pend) rest):Dv P ops n dr R0 K E l pend ((i,false)::rest):=
 Dv.mg (λl=>∃ F,l.Perm (B++F)) ret ho (λR a w l _ _ hs ⟨F,hl⟩ hst K Q hk=>by
  refine me (R:=R) (f:=f) (cap:=#[]) (fst:=#[]) rfl (j9 hs hg) hc rfl rfl ?_
  have:=iE (λx hx p hp=>hs.op (by simp [Op.operands,Call.operands];exact .inr (by simpa using hx)) hp) hv
  refine(ht R F w _ (by simpa using this) (St.fY hl hst)).mono ?_
  rintro e w' ⟨_,R',v,_,hR,he,hv,hst'⟩
  exact⟨v,he,hk R' v w' hR hv (hst'.fY hl.symm)⟩) ⟨F,hl⟩ k
theorem Dv.su {o:Oper} (ho:opAt ops.toList i=some o) (hg:GOff ops E o.guard) (hp:dr=true->∀ z∈pend,((Region.before ops).getD i 0).testBit z.1=true\/∀ _:Unit,z.2 l)
  (k:Dv P ops n dr R0 K (Sp.ext E o.dst (eq undef)) l pend rest) (hkb:K.kZ E l pend ((i,true)::rest):=by first | exact trivial | assumption):Dv P ops n dr R0 K E l pend ((i,true)::rest):=
 .kZ o (γ:=Unit) (λ_=>True) (λ_=>eq undef) (λ_=>l) (fC ho) (λR a w _ _ hs hst K Q hk=>by
  unfold runs
  rw [A0 hs hg]
  exact hk () R undef w trivial (Fz.le_refl R) rfl hst) (λe z hz=>(hp e z hz).imp id λh b _=>h b) (λ_ _=>k) hkb
theorem Dv.appw {t e xT:TypeId} {z:Value} {p:VP} {ys:List α} {jj by_:Nat} (ho:opAt ops.toList i=some ⟨some d,.call ⟨.builtin .append,#[x,y],#[t,xT]⟩,T,ps,af,g⟩) (hg:fZ ops E g)
  (hx:opv E x=some (eq v)) (hjj:l[jj]? = some (own Kd v xs)) (hy:opv E y=some p) (hs:uO P Kd l p ys) (hu:P.underlying t=some (.slice e)) (hxd:P.underlying xT=some .string\/∃ e',P.underlying xT=some (.slice e'))
  (hti:∃ ti,P.info? e=some ti/\ti.size=Kd.sz/\ti.zero=some z/\ti.bytes=by_) (hzs:z.cells.size=Kd.sz) (h0:0<Kd.sz) (hb:xs.length+ys.length<=9223372036854775807/\(xs.length+ys.length)*by_<=140737488355328)
  (hp:dr=true->∀ z∈pend,((Region.before ops).getD i 0).testBit z.1=true\/∀ v':OV,z.2 (l.set jj (own Kd v'.1 (xs++ys))))
  (k:∀ v':OV,Dv P ops n dr R0 K ((d,eq v'.1)::E) (l.set jj (own Kd v'.1 (xs++ys))) pend rest) (hkb:K.kZ E l pend ((i,true)::rest):=by first | exact trivial | assumption):Dv P ops n dr R0 K E l pend ((i,true)::rest):=by
 obtain⟨ti,h1,h2,h3,h4⟩:=hti
 subst h4
 exact Dv.appv ho hg hx hjj hy hs hu hxd h1 h2 h3 hzs h0 hb hp k hkb
end
section
variable {P:Program} {ops:Array Oper} {n:Nat} {dr:Bool} {R0:Fz} {K:KU} {E:Env} {l:List As} {pend:List (Nat×(List As->Prop))} {rest:List (Nat×Bool)} {i d:Nat}
variable {T:TypeId} {ps:String} {af:Array Edge} {g:Option (Nat×Bool)} {x y:Operand}
theorem Dv.stx {t:TypeId} {td:TypeDesc} {sz b off:Nat} {bT:TypeId} {p:VP} {ps' qs:Cs} {j:Nat} (l2:List As) (ho:opAt ops.toList i=some ⟨none,.store t x y,T,ps,af,g⟩) (hg:fZ ops E g)
  (hx:opv E x=some (eq (.pointer (some ⟨b,off,none⟩)))) (hy:opv E y=some p) (hq:ma p qs) (hu:P.underlying t=some td) (hz:P.cellsOf t=sz) (hl:qs.length=sz) (hj:l[j]? = some (ar b bT ps')) (hle:off+sz<=ps'.length) (h2:l.set j (ar b bT (oO ps' off qs))=l2)
  (hp:dr=true->∀ z∈pend,((Region.before ops).getD i 0).testBit z.1=true\/∀ _:Unit,z.2 l2)
  (k:Dv P ops n dr R0 K E l2 pend rest) (hkb:K.kZ E l pend ((i,true)::rest):=by first | exact trivial | assumption):Dv P ops n dr R0 K E l pend ((i,true)::rest):=by
 subst h2
 exact Dv.stb ho hg hx hy hq hu hz hl hj hle hp k hkb
end
theorem cQ {i:Int} {n:Nat} (h:0<=i/\i<(n:Int)):i.toNat<n:=om
theorem aW.cH {α β:Type} {κ:β->Prop} {f:α->Option β} {b:β} (h:aW (some (Sum.inr b)) (λo=>aW (fall f o) κ)):aW (some b) κ:=by
 obtain⟨v,hv,hk⟩:=h
 cases hv
 exact hk
section
variable {P:Program} {ops:Array Oper} {n:Nat} {dr:Bool} {R0:Fz} {K:KU} {E:Env} {l:List As} {pend:List (Nat×(List As->Prop))} {rest:List (Nat×Bool)} {i d:Nat}
variable {T:TypeId} {ps:String} {af:Array Edge} {g:Option (Nat×Bool)} {x y:Operand} {α:Type} {Kd:Kd α} {v:Value} {xs:List α}
theorem Dv.uX {t e xT:TypeId} {z:Value} {p:VP} {ys:List α} {jj by_:Nat} (l2:OV->List As) (ho:opAt ops.toList i=some ⟨some d,.call ⟨.builtin .append,#[x,y],#[t,xT]⟩,T,ps,af,g⟩) (hg:fZ ops E g)
  (hx:opv E x=some (eq v)) (hjj:l[jj]? = some (own Kd v xs)) (hy:opv E y=some p) (hs:uO P Kd l p ys) (hu:P.underlying t=some (.slice e)) (hxd:P.underlying xT=some .string\/∃ e',P.underlying xT=some (.slice e'))
  (hti:∃ ti,P.info? e=some ti/\ti.size=Kd.sz/\ti.zero=some z/\ti.bytes=by_) (hzs:z.cells.size=Kd.sz) (h0:0<Kd.sz) (hb:xs.length+ys.length<=9223372036854775807/\(xs.length+ys.length)*by_<=140737488355328)
  (h2:(λv':OV=>l.set jj (own Kd v'.1 (xs++ys)))=l2)
  (hp:dr=true->∀ z∈pend,((Region.before ops).getD i 0).testBit z.1=true\/∀ v':OV,z.2 (l2 v'))
  (k:∀ v':OV,Dv P ops n dr R0 K ((d,eq v'.1)::E) (l2 v') pend rest) (hkb:K.kZ E l pend ((i,true)::rest):=by first | exact trivial | assumption):Dv P ops n dr R0 K E l pend ((i,true)::rest):=by
 subst h2
 exact Dv.appw ho hg hx hjj hy hs hu hxd hti hzs h0 hb hp k hkb
theorem Dv.lS {f:FuncId} {as:Array Operand} {ts:Array TypeId} {vs:List VP} {pre F:List As} {γ:Type} {ok:γ->Prop} {ret:γ->VP} {post:γ->List As} {dst:Option Nat} (l2:γ->List As) (ho:opAt ops.toList i=some ⟨dst,.call ⟨.value (.func f),as,ts⟩,T,ps,af,g⟩) (hg:fZ ops E g)
  (hc:fx P f=true) (hv:opvs E as.toList=some vs) (ht:Tr P f vs pre ok ret post) (hl:l.Perm (pre++F)) (h2:(λb=>post b++F)=l2)
  (hp:dr=true->∀ z∈pend,((Region.before ops).getD i 0).testBit z.1=true\/∀ b,ok b->z.2 (l2 b))
  (k:∀ b,ok b->Dv P ops n dr R0 K (Sp.ext E dst (ret b)) (l2 b) pend rest) (hkb:K.kZ E l pend ((i,true)::rest):=by first | exact trivial | assumption):Dv P ops n dr R0 K E l pend ((i,true)::rest):=by
 subst h2
 exact Dv.callB ho hg hc hv ht hl hp k hkb
end
def Wk (p p':VP):Prop:=∀ R v,p.p R v->p'.p R v
theorem cG {p:VP}:Wk p p:=λ_ _ h=>h
theorem kT {α:Type} {K:Kd α}:Wk (eq (.slice none 0 0)) (sl K []):=λ_ _ h=>.inl ⟨none,0,h,rfl⟩
theorem vE {ps ps':Cs} (h:bV Wk ps ps') {R:Fz} {cs:List Value} (hc:Cs.h R ps cs):Cs.h R ps' cs:=by
 induction h generalizing cs with
 | nil=>cases hc;exact .nil
 | cons h1 _ ih=>cases hc with | cons c1 c2=>exact .cons (h1 _ _ c1) (ih c2)
theorem qR {ps ps':Cs} (h:bV Wk ps ps'):Wk (agg ps) (agg ps'):=λ_ _ ⟨cs,e,hc⟩=>⟨cs,e,vE h hc⟩
def WkA (A A':As):Prop:=∀ R m,A.p R m->A'.p R m
theorem EY {A:As}:WkA A A:=λ_ _ h=>h
theorem Ge {b:Nat} {T:TypeId} {ps ps':Cs} (h:bV Wk ps ps'):WkA (ar b T ps) (ar b T ps'):=λ_ _ ⟨cs,e,hc⟩=>⟨cs,e,vE h hc⟩
theorem EC {R:Fz}:∀ {l l':List As} {m:Mem},bV WkA l l'->Bs R m l->Bs R m l'
 | [],_,_,.nil,h=>h
 | _::_,_,_,.cons h1 h2,⟨m1,m2,k1,k2,hp⟩=>⟨m1,m2,h1 _ _ k1,EC h2 k2,hp⟩
def WkE (E E':Env):Prop:=∀ t p',find E' t=some p'->∃ p,find E t=some p/\Wk p p'
theorem Fp {E:Env}:WkE E []:=λ_ _ h=>by cases h
theorem qO {E E':Env} {t:Nat} {p p':VP} (h:find E t=some p) (hc:Wk p p') (k:WkE E E'):WkE E ((t,p')::E'):=λs r hr=>by
 simp only [find] at hr
 split at hr
 ·rename_i e;have:=Nat.eq_of_beq_eq_true e;subst this;cases hr;exact⟨p,h,hc⟩
 ·exact k s r hr
theorem gh_wk {n:Nat} {R0:Fz} {E E':Env} {l l':List As} (hE:WkE E E') (hl:bV WkA l l'):Gh n R0 E l (γ:=Unit) (λ_=>True) (λ_=>E') (λ_=>l'):=λR a w _ ha hs=>by
 obtain⟨m,h1,h2⟩:=hs.nf
 exact⟨(),R,trivial,Fz.le_refl R,⟨ha.1,ha.2.1,λt p' hp'=>by
  obtain⟨p,k1,k2⟩:=hE t p' hp'
  exact k2 _ _ (ha.2.2 t p k1)⟩,St.nh (EC hl h1) h2⟩
theorem Pt.fG {P:Program} {f:FuncId} {vs vs':List VP} {ret:VP} (h:Pt P f vs ret) (hv:bV Wk vs' vs):Pt P f vs' ret:=λR F w us hu hs=>h R F w us (vE hv hu) hs
theorem Tr.fG {P:Program} {f:FuncId} {vs vs':List VP} {pre:List As} {γ:Type} {ok:γ->Prop} {ret:γ->VP} {post:γ->List As} (h:Tr P f vs pre ok ret post) (hv:bV Wk vs' vs):Tr P f vs' pre ok ret post:=λR F w us hu hs=>h R F w us (vE hv hu) hs
theorem Tr.pre {P:Program} {f:FuncId} {vs:List VP} {pre pre':List As} {γ:Type} {ok:γ->Prop} {ret:γ->VP} {post:γ->List As} (h:Tr P f vs pre ok ret post) (hp:∀ F R w,St R (pre'++F) w->∃ _:Unit,True/\St R (pre++F) w):Tr P f vs pre' ok ret post:=λR F w us hu hs=>by
 obtain⟨_,_,hs'⟩:=hp F R w hs
 exact h R F w us hu hs'
theorem sW {P:Program} {n:Nat} {E:Env} {l:List As} {r:ResultVar} {p p':VP} (h:zP P n E l r p) (hw:Wk p p'):zP P n E l r p':=λR a w ha hs=>by
 obtain⟨v,h1,h2⟩:=h R a w ha hs
 exact⟨v,h1,hw _ _ h2⟩
theorem lP {P:Program} {t sz by_:Nat} {z:Value} (h1:(P.info? t).map (·.size)=some sz) (h2:(P.info? t).bind (·.zero)=some z) (h3:(P.info? t).map (·.bytes)=some by_):∃ i,P.info? t=some i/\i.size=sz/\i.zero=some z/\i.bytes=by_:=by
 cases h:P.info? t with
 | none=>rw [h] at h1;cases h1
 | some i=>
  rw [h] at h1 h2 h3
  exact⟨i,rfl,by simpa using h1,by simpa using h2,by simpa using h3⟩
def Bd (v:Option Value) (d r:Nat):Prop:=(v=none/\r=d)\/∃ k m,v=some (.int k m)/\0<=m/\m.toNat=r
section
variable {P:Program} {w:World}
theorem jo {is:Bool} {len cap l h m:Nat} {lo hi mx:Option Value} (hl:Bd lo 0 l) (hh:Bd hi len h) (hm:Bd mx cap m) (h1:l<=h) (h2:h<=m) (h3:m<=cap) (hs:mx.isSome=true->hi.isSome=true):
  (Instr.sliceBounds is len cap lo hi mx).run P w = .ok (l,h,m) w:=by
 have sb:∀ {kd:IntKind} {q:Int} {y r:Nat} {cd:BoundsCode},0<=q->q.toNat=r->r<=y->(Instr.sliceBound (.int kd q) y cd).run P w = .ok r w:=λh0 e hy=>by
  subst e;exact D2 h0 om
 unfold Instr.sliceBounds
 rcases hm with⟨rfl,rfl⟩|⟨k1,q1,rfl,a1,b1⟩
 ·rcases hh with⟨rfl,rfl⟩|⟨k2,q2,rfl,a2,b2⟩
  ·rcases hl with⟨rfl,rfl⟩|⟨k3,q3,rfl,a3,b3⟩
   ·simp
   ·simp [sb a3 b3 h1]
  ·rcases hl with⟨rfl,rfl⟩|⟨k3,q3,rfl,a3,b3⟩
   ·simp [sb a2 b2 h2]
   ·simp [sb a2 b2 h2,sb a3 b3 h1]
 ·rcases hh with⟨rfl,rfl⟩|⟨k2,q2,rfl,a2,b2⟩
  ·simp at hs
  ·rcases hl with⟨rfl,rfl⟩|⟨k3,q3,rfl,a3,b3⟩
   ·simp [sb a1 b1 h3,sb a2 b2 h2]
   ·simp [sb a1 b1 h3,sb a2 b2 h2,sb a3 b3 h1]
end
section
variable {P:Program} {ops:Array Oper} {n:Nat} {dr:Bool} {R0:Fz} {K:KU} {E:Env} {l:List As} {pend:List (Nat×(List As->Prop))} {rest:List (Nat×Bool)} {i d:Nat}
variable {T:TypeId} {ps:String} {af:Array Edge} {g:Option (Nat×Bool)} {x y:Operand} {α:Type} {Kd:Kd α} {v:Value} {xs:List α}
def tO (E:Env) (d:Nat):Option Operand->Nat->Prop
 | none,r=>r=d
 | some x,r=>∃ k m,opv E x=some (eq (.int k m))/\0<=m/\m.toNat=r
theorem dQ {E:Env} {d:Nat}:tO E d none d:=rfl
theorem fg {E:Env} {d:Nat} {x:Operand} {k:IntKind} {m:Int} (h:opv E x=some (eq (.int k m))) (h0:0<=m):tO E d (some x) m.toNat:=⟨k,m,h,h0,rfl⟩
theorem nJ {R:Fz} {a:Act} {lo:Option Operand} {d r:Nat} (h:tO E d lo r) (hx:∀ x p,lo=some x->opv E x=some p->p.p R (a.eval x)):Bd (lo.map a.eval) d r:=by
 cases lo with
 | none=>exact .inl ⟨rfl,h⟩
 | some x=>
  obtain⟨k,m,h1,h2,h3⟩:=h
  have:=hx x _ rfl h1
  simp only [ez] at this
  exact .inr ⟨k,m,by simp [this],h2,h3⟩
theorem fA {t:TypeId} {lo hi mx:Option Operand} {z:Operand} (h:lo=some z\/hi=some z\/mx=some z):z∈(Op.slice t x lo hi mx).operands:=by
 cases lo <;> cases hi <;> cases mx <;> simp [Op.operands] at h ⊢ <;> (try (rcases h with h | h | h)) <;> simp_all
theorem lF {t:TypeId} {lo hi mx:Option Operand}:x∈(Op.slice t x lo hi mx).operands:=by cases lo <;> cases hi <;> cases mx <;> simp [Op.operands]
theorem Dv.Jj {t:TypeId} {s:BA} {lo hi:Option Operand} {p q:Nat} (ho:opAt ops.toList i=some ⟨some d,.slice t x lo hi none,T,ps,af,g⟩) (hg:fZ ops E g) (hx:opv E x=some (eq (.string s))) (hu:P.underlying t=some .string)
  (hl:tO E 0 lo p) (hh:tO E s.size hi q) (h1:p<=q) (h2:q<=s.size)
  (k:Dv P ops n dr R0 K ((d,eq (.string (s.extract p q)))::E) l ((i,tt)::pend) rest):Dv P ops n dr R0 K E l pend ((i,false)::rest):=
 Dv.mg _ _ ho (eV.pure hg λR a w h=>⟨_,rfl,by
  have e:=h x lF _ hx
  simp only [ez] at e
  have b1:=nJ (a:=a) hl (λz p e hp=>h z (fA (.inl e)) p hp)
  have b2:=nJ (a:=a) hh (λz p e hp=>h z (fA (.inr (.inl e))) p hp)
  have:=jo (P:=P) (w:=w) (is:=false) b1 b2 (mx:=none) (cap:=s.size) (m:=s.size) (.inl ⟨rfl,rfl⟩) h1 h2 (Nat.le_refl _) sM
  simp [execOp,Instr.sliceAt,Instr.slice,e,underlying,hu,this]⟩) trivial k
theorem lz {R:Fz} {cs:List Value} {off p q:Nat} (hq:q<=xs.length) (hpq:p<=q) (hh:Cs.h R (xs.flatMap Kd.enc) ((cs.drop off).take (xs.length*Kd.sz))):
  Cs.h R (((xs.take q).drop p).flatMap Kd.enc) ((cs.drop (off+p*Kd.sz)).take (((xs.take q).drop p).length*Kd.sz)):=by
 have key:∀ (ys:List α) (j:Nat),j<=ys.length->(ys.flatMap Kd.enc).take (j*Kd.sz)=(ys.take j).flatMap Kd.enc/\(ys.flatMap Kd.enc).drop (j*Kd.sz)=(ys.drop j).flatMap Kd.enc:=by
  intro ys j hj
  have e:ys.flatMap Kd.enc=(ys.take j).flatMap Kd.enc++(ys.drop j).flatMap Kd.enc:=by rw [<- List.flatMap_append,List.take_append_drop]
  have el:((ys.take j).flatMap Kd.enc).length=j*Kd.sz:=by rw [cO,List.length_take,Nat.min_eq_left hj]
  rw [e]
  exact⟨by rw [<- el,List.take_left],by rw [<- el,List.drop_left]⟩
 have h1:=bV.drop (bV.take hh (q*Kd.sz)) (p*Kd.sz)
 have e1:(((cs.drop off).take (xs.length*Kd.sz)).take (q*Kd.sz)).drop (p*Kd.sz)=(cs.drop (off+p*Kd.sz)).take ((q-p)*Kd.sz):=by
  rw [List.take_take,List.drop_take,List.drop_drop,Nat.min_eq_left (Nat.mul_le_mul_right _ hq),<- Nat.sub_mul]
 rw [(key xs q hq).1,(key (xs.take q) p (by rw [List.length_take];omega)).2,e1] at h1
 unfold Cs.h
 rw [List.length_drop,List.length_take,Nat.min_eq_left hq]
 exact h1
theorem Dv.sls {t e:TypeId} {ed:TypeDesc} {lo hi:Option Operand} {p q:Nat} (ho:opAt ops.toList i=some ⟨some d,.slice t x lo hi none,T,ps,af,g⟩) (hg:fZ ops E g) (hx:opv E x=some (sl Kd xs)) (hu:P.underlying t=some (.slice e)) (hv:P.underlying e=some ed) (hz:P.cellsOf e=Kd.sz)
  (hl:tO E 0 lo p) (hh:tO E xs.length hi q) (h1:p<=q) (h2:q<=xs.length)
  (k:Dv P ops n dr R0 K ((d,sl Kd ((xs.take q).drop p))::E) l ((i,tt)::pend) rest):Dv P ops n dr R0 K E l pend ((i,false)::rest):=
 Dv.mg _ _ ho (eV.pure hg λR a w h=>by
  have hx2:=h x lF _ hx
  have b1:=nJ (a:=a) hl (λz p e hp=>h z (fA (.inl e)) p hp)
  have b2:=nJ (a:=a) hh (λz p e hp=>h z (fA (.inr (.inl e))) p hp)
  rcases hx2 with⟨a0,c,e0,e2⟩|⟨b,off,c,bT,fr,cs,e0,hlc,hm,hcs,hc⟩
  ·subst e2
   simp only [List.length_nil,Nat.le_zero] at h2
   subst h2
   have hp0:p=0:=om
   subst hp0
   have:=jo (P:=P) (w:=w) (is:=true) b1 b2 (mx:=none) (cap:=c) (m:=c) (.inl ⟨rfl,rfl⟩) (Nat.le_refl _) (Nat.zero_le _) (Nat.le_refl _) sM
   exact⟨.slice (if c=0 then a0 else a0.map (·.add 0)) 0 c,.inl ⟨_,_,rfl,sM⟩,by simp only [execOp,Instr.sliceAt,Instr.slice,e0,underlying,hu,Sem.run_bind,run_program,Sem.run_pure,Result.andThen_ok,Option.map_none,List.length_nil] at this ⊢;simp [this,run_sizeOf hv hz]⟩
  ·have:=jo (P:=P) (w:=w) (is:=true) b1 b2 (mx:=none) (cap:=c) (m:=c) (.inl ⟨rfl,rfl⟩) h1 om (Nat.le_refl _) sM
   have hr:(execOp a.eval ⟨some d,.slice t x lo hi none,T,ps,af,g⟩).run P w = .ok (.value (.slice (if c=p then some ⟨b,off,none⟩ else some ⟨b,off+p*Kd.sz,none⟩) (q-p) (c-p))) w:=by
    simp only [execOp,Instr.sliceAt,Instr.slice,e0,underlying,hu,Sem.run_bind,run_program,Sem.run_pure,Result.andThen_ok,Option.map_none,this,run_sizeOf hv hz]
    simp [add_eq]
   refine⟨_,?_,hr⟩
   by_cases hcp:c=p
   ·have:q=p:=om
    subst this
    rw [if_pos hcp]
    exact .inl ⟨_,_,by rw [Nat.sub_self],by rw [List.drop_of_length_le (by rw [List.length_take];omega)]⟩
   ·rw [if_neg hcp]
    refine .inr ⟨b,off+p*Kd.sz,c-p,bT,fr,cs,?_,?_,hm,?_,lz h2 h1 hc⟩
    ·rw [List.length_drop,List.length_take,Nat.min_eq_left h2]
    ·rw [List.length_drop,List.length_take,Nat.min_eq_left h2];omega
    ·rw [Nat.sub_mul]
     have:=Nat.mul_le_mul_right Kd.sz (show p<=c by omega)
     omega) trivial k
theorem Dv.Jt {t e:TypeId} {ed:TypeDesc} {lo hi mx:Option Operand} {p q jj:Nat} (ho:opAt ops.toList i=some ⟨some d,.slice t x lo hi mx,T,ps,af,g⟩) (hg:fZ ops E g) (hx:opv E x=some (eq v)) (hjj:l[jj]? = some (own Kd v xs)) (hu:P.underlying t=some (.slice e)) (hv:P.underlying e=some ed) (hz:P.cellsOf e=Kd.sz)
  (hl:tO E 0 lo p) (hh:tO E xs.length hi q) (hm:mx=none\/(tO E 0 mx q/\mx.isSome=true/\hi.isSome=true)) (h1:p<=q) (h2:q<=xs.length)
  (hp:dr=true->∀ z∈pend,((Region.before ops).getD i 0).testBit z.1=true\/∀ v':OV,z.2 (l.set jj (own Kd v'.1 ((xs.take q).drop p))))
  (k:∀ v':OV,Dv P ops n dr R0 K ((d,eq v'.1)::E) (l.set jj (own Kd v'.1 ((xs.take q).drop p))) pend rest) (hkb:K.kZ E l pend ((i,true)::rest):=by first | exact trivial | assumption):Dv P ops n dr R0 K E l pend ((i,true)::rest):=
 .kZ _ (γ:=OV) (λ_=>True) (λv'=>eq v'.1) (λv'=>l.set jj (own Kd v'.1 ((xs.take q).drop p))) (fC ho) (iV.val hg λR a w h hst=>by
  have e1:=h x lF _ hx
  simp only [ez] at e1
  have b1:=nJ (a:=a) hl (λz p e hp=>h z (fA (.inl e)) p hp)
  have b2:=nJ (a:=a) hh (λz p e hp=>h z (fA (.inr (.inl e))) p hp)
  obtain⟨mm,hmm,hk⟩:=hst.eF hjj
  have b3:∀ c:Nat,xs.length<=c->∃ m,Bd (mx.map a.eval) c m/\q<=m/\m<=c/\((mx.map a.eval).isSome=true->(hi.map a.eval).isSome=true):=by
   intro c hc
   rcases hm with rfl | ⟨h3,h4,h5⟩
   ·exact⟨c,.inl ⟨rfl,rfl⟩,om,Nat.le_refl _,sM⟩
   ·have:=nJ (a:=a) h3 (λz p e hp=>h z (fA (.inr (.inr e))) p hp)
    refine⟨q,?_,Nat.le_refl _,om,by simp [h5]⟩
    rcases this with⟨e,_⟩ | h
    ·cases mx <;> simp_all
    ·exact .inr h
  rcases hmm with⟨a0,e0,e2,e3⟩|⟨b,off,c,bT,fr,cs,e0,hlc,hm2,hcs,hfr,hc⟩
  ·subst e2
   simp only [List.length_nil,Nat.le_zero] at h2
   subst h2
   have hp0:p=0:=om
   subst hp0
   obtain⟨m,c1,c2,c3,c4⟩:=b3 0 (Nat.le_refl _)
   have hm0:m=0:=om
   subst hm0
   have:=jo (P:=P) (w:=w) (is:=true) b1 b2 c1 (Nat.le_refl _) (Nat.zero_le _) (Nat.le_refl _) c4
   refine⟨⟨.slice a0 0 0,rfl⟩,R,_,w,trivial,Fz.le_refl R,rfl,St.shut hjj (.inl ⟨a0,rfl,sM,e3⟩) hk,?_⟩
   simp only [execOp,Instr.sliceAt,Instr.slice,e1,e0,underlying,hu,Sem.run_bind,run_program,Sem.run_pure,Result.andThen_ok,List.length_nil] at this ⊢
   simp [this,run_sizeOf hv hz]
  ·obtain⟨m,c1,c2,c3,c4⟩:=b3 c hlc
   have:=jo (P:=P) (w:=w) (is:=true) b1 b2 c1 h1 c2 c3 c4
   have hr:(execOp a.eval ⟨some d,.slice t x lo hi mx,T,ps,af,g⟩).run P w = .ok (.value (.slice (if m=p then some ⟨b,off,none⟩ else some ⟨b,off+p*Kd.sz,none⟩) (q-p) (m-p))) w:=by
    simp only [execOp,Instr.sliceAt,Instr.slice,e1,e0,underlying,hu,Sem.run_bind,run_program,Sem.run_pure,Result.andThen_ok,this,run_sizeOf hv hz]
    simp [add_eq]
   have hle:((xs.take q).drop p).length=q-p:=by rw [List.length_drop,List.length_take,Nat.min_eq_left h2]
   refine⟨⟨_,rfl⟩,R,_,w,trivial,Fz.le_refl R,rfl,St.shut hjj ?_ hk,hr⟩
   by_cases hcp:m=p
   ·have:q=p:=om
    subst this
    refine .inr ⟨b,off,0,bT,fr,cs,by simp [if_pos hcp,hcp],by rw [hle];omega,hm2,om,hfr,?_⟩
    rw [hle,Nat.sub_self,Nat.zero_mul,List.take_zero,List.drop_of_length_le (by rw [List.length_take];omega)]
    exact .nil
   ·refine .inr ⟨b,off+p*Kd.sz,m-p,bT,fr,cs,by simp [if_neg hcp,hle],by rw [hle];omega,hm2,?_,hfr,lz h2 h1 hc⟩
    rw [Nat.sub_mul]
    have h6:=Nat.mul_le_mul_right Kd.sz (show p<=m by omega)
    have h7:=Nat.mul_le_mul_right Kd.sz c3
    omega) (λe z hz=>(hp e z hz).imp id λh b _=>h b) (λb _=>k b) hkb
theorem Dv.I9 {t1 t2:TypeId} {kd:IntKind} {m m':Int} (ho:opAt ops.toList i=some ⟨some d,.call ⟨.builtin .min,#[x,y],#[t1,t2]⟩,T,ps,af,g⟩) (hg:fZ ops E g) (hx:opv E x=some (eq (.int kd m))) (hy:opv E y=some (eq (.int kd m')))
  (k:Dv P ops n dr R0 K ((d,eq (.int kd (min m m')))::E) l ((i,tt)::pend) rest):Dv P ops n dr R0 K E l pend ((i,false)::rest):=
 Dv.mg _ _ ho (eV.pure hg λR a w h=>⟨_,rfl,by
  have e:=h x (by simp [Op.operands,Call.operands]) _ hx
  have e2:=h y (by simp [Op.operands,Call.operands]) _ hy
  simp only [ez] at e e2
  have e3:(if m'<m then m' else m)=min m m':=om
  simp [execOp,resolve,invoke,builtin,Builtin.min_,Builtin.min2,e,e2,e3]⟩) trivial k
theorem Dv.Ch {t1 t2:TypeId} {kd:IntKind} {m m':Int} (ho:opAt ops.toList i=some ⟨some d,.call ⟨.builtin .max,#[x,y],#[t1,t2]⟩,T,ps,af,g⟩) (hg:fZ ops E g) (hx:opv E x=some (eq (.int kd m))) (hy:opv E y=some (eq (.int kd m')))
  (k:Dv P ops n dr R0 K ((d,eq (.int kd (max m m')))::E) l ((i,tt)::pend) rest):Dv P ops n dr R0 K E l pend ((i,false)::rest):=
 Dv.mg _ _ ho (eV.pure hg λR a w h=>⟨_,rfl,by
  have e:=h x (by simp [Op.operands,Call.operands]) _ hx
  have e2:=h y (by simp [Op.operands,Call.operands]) _ hy
  simp only [ez] at e e2
  have e3:(if m<m' then m' else m)=max m m':=om
  simp [execOp,resolve,invoke,builtin,Builtin.max_,Builtin.max2,e,e2,e3]⟩) trivial k
end
end Go.Sp
