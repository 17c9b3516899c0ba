import Derived.Test.YtelcbdmigiacpaaGreatConC1
import Derived.Test.YtelcbdmigiacpaaGreatConA6
set_option linter.all false
namespace Go.Sp
open Go
def pfv (v:Value) (m:Nat):Value:=match v with | .slice a _ c=>.slice a m c | u=>u
theorem rP {R:Fz} {w:World} {l:List As} {α:Type} {K:Kd α} {v:Value} {xs:List α} (hA:own K v xs∈l) (hst:St R l w):∃ a c,v = .slice a xs.length c/\xs.length<=c:=by
 obtain⟨mm,hm,_⟩:=St.read hA hst
 rcases hm with⟨a0,e0,e2,_⟩|⟨b,off,c,bT,fr,cs,e0,hlc,_⟩
 ·subst e2;exact⟨_,_,e0,Nat.le_refl _⟩
 ·exact⟨_,_,e0,hlc⟩
theorem add0 (a:Option Addr):a.map (·.add 0)=a:=by cases a <;> rfl
section
variable {P:Program} {ops:Array Oper} {n:Nat} {dr:Bool} {R0:Fz} {K:KU} {E:Env} {l:List As} {pend:List (Nat×(List As->Prop))} {rest:List (Nat×Bool)} {i d:Nat}
variable {T:TypeId} {ps:String} {af:Array Edge} {g:Option (Nat×Bool)} {x y:Operand} {α:Type} {Kd:Kd α} {v:Value} {xs:List α}
theorem Dv.sl3 {t e:TypeId} {ed:TypeDesc} {p q:Nat} {xl xh xm:Operand} (ho:opAt ops.toList i=some ⟨some d,.slice t x (some xl) (some xh) (some xm),T,ps,af,g⟩) (hg:fZ ops E g) (hx:opv E x=some (eq v)) (hA:own Kd v xs∈l) (hu:P.underlying t=some (.slice e)) (hv:P.underlying e=some ed) (hz:P.cellsOf e=Kd.sz)
  (hl:tO E 0 (some xl) p) (hh:tO E 0 (some xh) q) (hm:tO E 0 (some xm) xs.length) (h1:p<=q) (h2:q<=xs.length)
  (k:Dv P ops n dr R0 K ((d,anyV)::E) l ((i,(own Kd v xs∈·))::pend) rest):Dv P ops n dr R0 K E l pend ((i,false)::rest):=
 Dv.mg _ _ ho (eV.val hg λR a w l h hA hst=>by
  have e1:=h x lF _ hx
  simp only [ez] at e1
  obtain⟨ad,c,e2,hc⟩:=rP hA hst
  have b1:=nJ (a:=a) hl (λz p e hp=>h z (fA (.inl e)) p hp)
  have b2:=nJ (a:=a) (d:=xs.length) (lo:=some xh) hh (λz p e hp=>h z (fA (.inr (.inl e))) p hp)
  have b3:=nJ (a:=a) (d:=c) (lo:=some xm) hm (λz p e hp=>h z (fA (.inr (.inr e))) p hp)
  have:=jo (P:=P) (w:=w) (is:=true) b1 b2 b3 h1 h2 hc sM
  refine⟨R,.slice (if xs.length=p then ad else ad.map (·.add (p*Kd.sz))) (q-p) (xs.length-p),w,Fz.le_refl R,trivial,hst,?_⟩
  simp only [execOp,Instr.sliceAt,Instr.slice,e1,e2,underlying,hu,Sem.run_bind,run_program,Sem.run_pure,Result.andThen_ok,this,run_sizeOf hv hz]) hA k
theorem Dv.slpf {t e:TypeId} {ed:TypeDesc} {q:Nat} {xh:Operand} (ho:opAt ops.toList i=some ⟨some d,.slice t x none (some xh) none,T,ps,af,g⟩) (hg:fZ ops E g) (hx:opv E x=some (eq v)) (hA:own Kd v xs∈l) (hu:P.underlying t=some (.slice e)) (hv:P.underlying e=some ed) (hz:P.cellsOf e=Kd.sz)
  (hh:tO E 0 (some xh) q) (h2:q<=xs.length)
  (k:Dv P ops n dr R0 K ((d,eq (pfv v q))::E) l ((i,(own Kd v xs∈·))::pend) rest):Dv P ops n dr R0 K E l pend ((i,false)::rest):=
 Dv.mg _ _ ho (eV.val hg λR a w l h hA hst=>by
  have e1:=h x lF _ hx
  simp only [ez] at e1
  obtain⟨ad,c,e2,hc⟩:=rP hA hst
  have b2:=nJ (a:=a) (d:=xs.length) (lo:=some xh) hh (λz p e hp=>h z (fA (.inr (.inl e))) p hp)
  have:=jo (P:=P) (w:=w) (is:=true) (lo:=none) (l:=0) (.inl ⟨rfl,rfl⟩) b2 (mx:=none) (cap:=c) (m:=c) (.inl ⟨rfl,rfl⟩) (Nat.zero_le _) (Nat.le_trans h2 hc) (Nat.le_refl _) sM
  refine⟨R,.slice ad q c,w,Fz.le_refl R,by rw [e2];rfl,hst,?_⟩
  simp only [Option.map_some] at this
  simp only [execOp,Instr.sliceAt,Instr.slice,e1,e2,underlying,hu,Sem.run_bind,run_program,Sem.run_pure,Result.andThen_ok,Option.map_none,Option.map_some,this,run_sizeOf hv hz,Nat.zero_mul,add0,ite_self,Nat.sub_zero]) hA k
theorem Dv.slpt {t e:TypeId} {ed:TypeDesc} {m p q:Nat} {xl xh:Operand} (ho:opAt ops.toList i=some ⟨some d,.slice t x (some xl) (some xh) none,T,ps,af,g⟩) (hg:fZ ops E g) (hx:opv E x=some (eq (pfv v m))) (hA:own Kd v xs∈l) (hu:P.underlying t=some (.slice e)) (hv:P.underlying e=some ed) (hz:P.cellsOf e=Kd.sz)
  (hl:tO E 0 (some xl) p) (hh:tO E 0 (some xh) q) (h1:p<=q) (h2:q<=xs.length)
  (k:Dv P ops n dr R0 K ((d,eq (tlv Kd.sz v q p))::E) l ((i,(own Kd v xs∈·))::pend) rest):Dv P ops n dr R0 K E l pend ((i,false)::rest):=
 Dv.mg _ _ ho (eV.val hg λR a w l h hA hst=>by
  have e1:=h x lF _ hx
  simp only [ez] at e1
  obtain⟨ad,c,e2,hc⟩:=rP hA hst
  have b1:=nJ (a:=a) hl (λz p e hp=>h z (fA (.inl e)) p hp)
  have b2:=nJ (a:=a) (d:=m) (lo:=some xh) hh (λz p e hp=>h z (fA (.inr (.inl e))) p hp)
  have:=jo (P:=P) (w:=w) (is:=true) b1 b2 (mx:=none) (cap:=c) (m:=c) (.inl ⟨rfl,rfl⟩) h1 (Nat.le_trans h2 hc) (Nat.le_refl _) sM
  refine⟨R,.slice (if c=p then ad else ad.map (·.add (p*Kd.sz))) (q-p) (c-p),w,Fz.le_refl R,by rw [e2];rfl,hst,?_⟩
  rw [e2] at e1
  simp only [Option.map_some] at this
  simp only [execOp,Instr.sliceAt,Instr.slice,e1,pfv,underlying,hu,Sem.run_bind,run_program,Sem.run_pure,Result.andThen_ok,Option.map_none,Option.map_some,this,run_sizeOf hv hz]) hA k
theorem Dv.lenp {t e:TypeId} {m:Nat} (ho:opAt ops.toList i=some ⟨some d,.call ⟨.builtin .len,#[x],#[t]⟩,T,ps,af,g⟩) (hg:fZ ops E g) (hx:opv E x=some (eq (pfv v m))) (hA:own Kd v xs∈l) (hu:P.underlying t=some (.slice e))
  (k:Dv P ops n dr R0 K ((d,eq (.int .i64 (m:Int)))::E) l ((i,(own Kd v xs∈·))::pend) rest):Dv P ops n dr R0 K E l pend ((i,false)::rest):=
 Dv.mg _ _ ho (eV.val hg λR a w l h hA hst=>by
  have e1:=h x (by simp [Op.operands,Call.operands]) _ hx
  simp only [ez] at e1
  obtain⟨ad,c,e2,hc⟩:=rP hA hst
  rw [e2] at e1
  exact⟨R,.int .i64 m,w,Fz.le_refl R,rfl,hst,by simp [execOp,resolve,invoke,builtin,Builtin.len_,e1,pfv,underlying,hu,goInt]⟩) hA k
theorem uV {R:Fz} {w:World} {l:List As} {jj p:Nat} {zs:List α} {us:List Value} (hjj:l[jj]? = some (own Kd v xs)) (h0:xs≠[]) (hp:p+zs.length<=xs.length) (hus:Cs.h R (zs.flatMap Kd.enc) us) (hone:∀ z∈us,z.oneCell'=true) (hst:St R l w):
  ∃ b off c w',v = .slice (some ⟨b,off,none⟩) xs.length c/\xs.length<=c/\(storeCells ⟨b,off+p*Kd.sz,none⟩ us).run P w = .ok () w'/\St R (l.set jj (own Kd v (xs.take p++zs++xs.drop (p+zs.length)))) w':=by
 obtain⟨b,off,c,bT,cs,e3,hl,hc,hcs,hst1⟩:=Bo jj hjj h0 hst
 subst e3
 have hjl:=(List.getElem?_eq_some_iff.1 hjj).1
 have hj2:(l.set jj (qC b bT cs))[jj]? = some (qC b bT cs):=List.getElem?_set_self hjl
 obtain⟨mm,rfl,hk⟩:=hst1.eF hj2
 have hh:=(je.base hk).get
 have hul:=bV.length hus
 rw [cO] at hul
 have m1:=Nat.mul_le_mul_right Kd.sz hl
 have m2:=Nat.mul_le_mul_right Kd.sz hp
 rw [Nat.add_mul] at m2
 obtain⟨w',hr,hb⟩:=oH (P:=P) us (off+p*Kd.sz) 0 hh hone om sM
 have hst3:St R ((l.set jj (qC b bT cs)).set jj (qC b bT (gN cs (off+p*Kd.sz+0) us))) w':=St.shut hj2 rfl (je.to (Fz.le_refl R) (λx hx=>by simpa using hb R x hx) hk)
 rw [List.set_set] at hst3
 have hsl:(gN cs (off+p*Kd.sz+0) us).length=cs.length:=by unfold gN;simp;omega
 have hzl:(xs.take p++zs++xs.drop (p+zs.length)).length=xs.length:=by simp only [List.length_append,List.length_take,List.length_drop];omega
 have hfin:=II (Kd:=Kd) (b:=b) (off:=off) (n:=xs.length) (c:=c) (zs:=xs.take p++zs++xs.drop (p+zs.length)) jj (List.getElem?_set_self hjl) hzl hl (by rw [hsl];exact hc) (by
  have h5:=lz (Kd:=Kd) (xs:=xs) (p:=0) (q:=p) om (Nat.zero_le _) hcs
  have h6:=lz (Kd:=Kd) (xs:=xs) (p:=p+zs.length) (q:=xs.length) (Nat.le_refl _) hp hcs
  rw [List.drop_zero,Nat.zero_mul,Nat.add_zero,List.length_take,Nat.min_eq_left om] at h5
  rw [List.take_length,List.length_drop] at h6
  have e9:((gN cs (off+p*Kd.sz+0) us).drop off).take (xs.length*Kd.sz)=(cs.drop off).take (p*Kd.sz)++us++(cs.drop (off+(p+zs.length)*Kd.sz)).take ((xs.length-(p+zs.length))*Kd.sz):=by
   unfold gN
   rw [Nat.add_zero,List.append_assoc,List.drop_append,List.length_take,Nat.min_eq_left om,show off-(off+p*Kd.sz)=0 by omega,List.drop_zero,List.drop_take,show off+p*Kd.sz-off=p*Kd.sz by omega,List.append_assoc]
   have ha:((cs.drop off).take (p*Kd.sz)).length=p*Kd.sz:=by rw [List.length_take,List.length_drop];omega
   have q1:off+p*Kd.sz+us.length=off+(p+zs.length)*Kd.sz:=by rw [Nat.add_mul,hul];omega
   have q2:xs.length*Kd.sz-p*Kd.sz-us.length=(xs.length-(p+zs.length))*Kd.sz:=by rw [Nat.sub_mul,Nat.add_mul,hul];omega
   have t1:us.take (xs.length*Kd.sz-p*Kd.sz)=us:=List.take_of_length_le om
   have t2:((cs.drop off).take (p*Kd.sz)).take (xs.length*Kd.sz)=(cs.drop off).take (p*Kd.sz):=List.take_of_length_le (by rw [ha];omega)
   rw [List.take_append,t2,ha,List.take_append,t1,q1,q2]
  rw [e9,List.flatMap_append,List.flatMap_append]
  exact(h5.append hus).append h6) hst3
 rw [List.set_set] at hfin
 exact⟨b,off,c,w',rfl,hl,hr,hfin⟩
theorem Dv.apt {t t2 e:TypeId} {ed:TypeDesc} {p q jj:Nat} (ho:opAt ops.toList i=some ⟨some d,.call ⟨.builtin .append,#[x,y],#[t,t2]⟩,T,ps,af,g⟩) (hg:fZ ops E g) (hx:opv E x=some (eq (pfv v p))) (hy:opv E y=some (eq (tlv Kd.sz v xs.length q)))
  (hjj:l[jj]? = some (own Kd v xs)) (hu:P.underlying t=some (.slice e)) (hu2:P.underlying t2=some (.slice e)) (hv:P.underlying e=some ed) (hz:P.cellsOf e=Kd.sz) (hpq:p<q/\q<=xs.length)
  (hp:dr=true->∀ z∈pend,((Region.before ops).getD i 0).testBit z.1=true\/∀ _:Unit,z.2 (l.set jj (own Kd v (xs.take p++xs.drop q++xs.drop (p+(xs.length-q))))))
  (k:Dv P ops n dr R0 K ((d,eq (pfv v (p+(xs.length-q))))::E) (l.set jj (own Kd v (xs.take p++xs.drop q++xs.drop (p+(xs.length-q))))) pend rest) (hkb:K.kZ E l pend ((i,true)::rest):=by first | exact trivial | assumption):Dv P ops n dr R0 K E l pend ((i,true)::rest):=
 .kZ _ (γ:=Unit) (λ_=>True) (λ_=>eq (pfv v (p+(xs.length-q)))) (λ_=>l.set jj (own Kd v (xs.take p++xs.drop q++xs.drop (p+(xs.length-q))))) (fC ho) (iV.val hg λR a w h hst=>by
  have e1:=h x (by simp [Op.operands,Call.operands]) _ hx
  have e2:=h y (by simp [Op.operands,Call.operands]) _ hy
  simp only [ez] at e1
  have hs:zf P Kd.sz l (eq (tlv Kd.sz v xs.length q)) (xs.length-q) (xs.length-q) _:=C1 (List.mem_of_getElem? hjj) hpq.2 (Nat.le_refl _)
  obtain⟨us,hus,hone,hr1,hr2⟩:=hs R w _ hst e2
  rw [List.take_of_length_le (by rw [List.length_drop];exact Nat.le_refl _)] at hus
  have h0:xs≠[]:=by intro e;subst e;simp at hpq;omega
  have hdl:(xs.drop q).length=xs.length-q:=List.length_drop ..
  obtain⟨b,off,c,w',e3,hl,hst1,hst2⟩:=uV (P:=P) (p:=p) (zs:=xs.drop q) hjj h0 (by rw [hdl];omega) hus hone hst
  rw [hdl] at hst2
  rw [e3] at e1
  refine⟨(),R,.slice (some ⟨b,off,none⟩) (p+(xs.length-q)) c,w',trivial,Fz.le_refl R,by rw [e3];rfl,hst2,?_⟩
  have hle:p+(xs.length-q)<=c:=om
  simp [execOp,resolve,invoke,builtin,Builtin.append_,e1,pfv,run_underlying hu,run_underlying hu2,hr1,hr2,run_sizeOf hv hz,hle,add_eq,hst1]) (λe z hz=>(hp e z hz).imp id λh b _=>h b) (λ_ _=>k) hkb
theorem Dv.clrt {t e:TypeId} {z:Value} {p jj:Nat} (z0:α) (ho:opAt ops.toList i=some ⟨none,.call ⟨.builtin .clear,#[x],#[t]⟩,T,ps,af,g⟩) (hg:fZ ops E g) (hx:opv E x=some (eq (tlv Kd.sz v xs.length p)))
  (hu:P.underlying t=some (.slice e)) (hz:mz P e=some z) (hzs:z.cells.size=Kd.sz) (hz0:Kd.enc z0=z.cells.toList.map eq) (h1c:∀ u∈z.cells.toList,u.oneCell'=true) (hp0:p<xs.length) (hjj:l[jj]? = some (own Kd v xs))
  (hp:dr=true->∀ z∈pend,((Region.before ops).getD i 0).testBit z.1=true\/∀ _:Unit,z.2 (l.set jj (own Kd v (xs.take p++List.replicate (xs.length-p) z0))))
  (k:Dv P ops n dr R0 K E (l.set jj (own Kd v (xs.take p++List.replicate (xs.length-p) z0))) pend rest) (hkb:K.kZ E l pend ((i,true)::rest):=by first | exact trivial | assumption):Dv P ops n dr R0 K E l pend ((i,true)::rest):=by
 refine .kZ _ (γ:=Unit) (λ_=>True) (λ_=>eq (.tuple #[])) (λ_=>l.set jj (own Kd v (xs.take p++List.replicate (xs.length-p) z0))) (fC ho) (iV.val hg λR a w h hst=>?_) (λe z hz=>(hp e z hz).imp id λh b _=>h b) (λ_ _=>k) hkb
 have e1:=h x (by simp [Op.operands,Call.operands]) _ hx
 simp only [ez] at e1
 have h0:xs≠[]:=by intro e;subst e;simp at hp0
 obtain⟨b,off,c,w',e3,hl,hr,hst2⟩:=uV (P:=P) (p:=p) (zs:=List.replicate (xs.length-p) z0) hjj h0 (by rw [List.length_replicate];omega) (Ae hz0 _) (s6 h1c _) hst
 rw [List.length_replicate,List.drop_of_length_le om,List.append_nil] at hst2
 rw [e3] at e1
 have hne:¬ c=p:=om
 refine⟨(),R,.tuple #[],w',trivial,Fz.le_refl R,rfl,hst2,?_⟩
 have hzr:=lh (P:=P) (w:=w) hz
 obtain⟨m',hm'⟩:=Nat.exists_eq_succ_of_ne_zero (show xs.length-p≠0 by omega)
 rw [hm'] at hr
 simp [tlv,hne,hm',add_eq] at e1
 simp [execOp,resolve,invoke,builtin,Builtin.clear_,e1,run_underlying hu,hzr,hr]
theorem Ey {m:Nat} (j:Nat) (hj:l[j]? = some (own Kd v xs)) (hm:m<=xs.length):∀ R w,St R l w->∃ _:Unit,True/\St R (l.set j (own Kd (pfv v m) (xs.take m))) w:=λR w hst=>by
 obtain⟨mm,hm2,hk⟩:=hst.eF hj
 refine⟨(),trivial,St.shut hj ?_ hk⟩
 have hml:(xs.take m).length=m:=by rw [List.length_take];omega
 rcases hm2 with⟨a,e3,e4,e5⟩|⟨b,off,c,bT,fr,cs,e3,hlc,hmm,hcs,hfr,hh⟩
 ·subst e4
  have:m=0:=by simpa using hm
  subst this
  exact .inl ⟨a,by rw [e3];rfl,rfl,e5⟩
 ·refine .inr ⟨b,off,c,bT,fr,cs,by rw [e3,hml];rfl,om,hmm,hcs,hfr,?_⟩
  have h5:=lz (Kd:=Kd) (xs:=xs) (p:=0) (q:=m) hm (Nat.zero_le _) hh
  rw [List.drop_zero,Nat.zero_mul,Nat.add_zero] at h5
  exact h5
theorem A3 {m:Nat} (hj:v.oneCell'=true):(pfv v m).oneCell'=true:=by
 cases v <;> first | rfl | exact hj
end
end Go.Sp
namespace Go.Sp
open Go Go.Proofs Go.Sort
def mT (p:VP):Prop:=∀ (R R':Fz) v,(∀ b o,R.mem b o->R'.mem b o)->p.p R v->p.p R' v
theorem iD {v:Value}:mT (eq v):=λ_ _ _ _ h=>h
theorem Cs.mm {R R':Fz} (hR:∀ b o,R.mem b o->R'.mem b o) {ps:Cs} {cs:List Value} (h:Cs.h R ps cs) (hm:∀ p∈ps,mT p):Cs.h R' ps cs:=by
 induction h with
 | nil=>exact .nil
 | cons h1 _ ih=>exact .cons (hm _ (List.mem_cons_self ..) _ _ _ hR h1) (ih λp hp=>hm p (List.mem_cons_of_mem _ hp))
theorem u0 {α:Type} {K:Kd α} {xs:List α} (hm:∀ x,∀ p∈K.enc x,mT p):mT (sl K xs):=λR R' v hR h=>by
 rcases h with h | ⟨b,off,c,T,fr,cs,e,hl,hmm,hc,h⟩
 ·exact .inl h
 ·exact .inr ⟨b,off,c,T,fr,cs,e,hl,hR _ _ hmm,hc,Cs.mm hR h λp hp=>by obtain⟨x,_,hx⟩:=List.mem_flatMap.1 hp;exact hm x p hx⟩
theorem ot:∀ p∈([]:Cs),mT p:=λ_ h=>by cases h
theorem cD {q:VP} {ps:Cs} (h:mT q) (k:∀ p∈ps,mT p):∀ p∈q::ps,mT p:=λp hp=>by
 rcases List.mem_cons.1 hp with rfl | hp
 ·exact h
 ·exact k p hp
theorem uU {α β:Type} {p:α->β->Prop}:∀ {l k:List α} {m:List β},bV p (l++k) m->∃ a b,m=a++b/\bV p l a/\bV p k b
 | [],_,m,h=>⟨[],m,rfl,.nil,h⟩
 | x::l,k,_,h=>by
  cases h with
  | cons h1 h2=>
   obtain⟨a,b,e,ha,hb⟩:=uU h2
   exact⟨_::a,b,by rw [e];rfl,.cons h1 ha,hb⟩
section
variable {α:Type} {K:Kd α}
abbrev AF (K:Kd α) (R:Fz):Type:={ z:α×List Value // Cs.h R (K.enc z.1) z.2 }
theorem cels {R:Fz}:∀ {xs:List α} {us:List Value},Cs.h R (xs.flatMap K.enc) us->∃ zs:List (AF K R),zs.map (λz=>z.1.1)=xs/\zs.flatMap (λz=>z.1.2)=us
 | [],us,h=>by cases h;exact⟨[],rfl,rfl⟩
 | x::xs,us,h=>by
  rw [List.flatMap_cons] at h
  obtain⟨a,b,rfl,ha,hb⟩:=uU h
  obtain⟨zs,h1,h2⟩:=cels hb
  exact⟨⟨(x,a),ha⟩::zs,by rw [List.map_cons,h1],by rw [List.flatMap_cons,h2]⟩
def Iq (K:Kd α) (R:Fz) (d:AF K R):Kd (AF K R):=⟨K.sz,d,λz=>z.1.2.map eq,λz=>by rw [List.length_map,<- K.len z.1.1];exact(bV.length z.2).symm,λz p hp R' v hv=>by
 obtain⟨u,hu,rfl⟩:=List.mem_map.1 hp
 have hv:v=u:=hv
 rw [hv]
 exact Cs.Av (K.one z.1.1) z.2 u hu⟩
theorem wS {R:Fz}:∀ {zs:List (AF K R)} {us:List Value},us=zs.flatMap (λz=>z.1.2)->Cs.h R ((zs.map λz=>z.1.1).flatMap K.enc) us
 | [],us,h=>by rw [h];exact .nil
 | z::zs,us,h=>by rw [h,List.map_cons,List.flatMap_cons,List.flatMap_cons];exact z.2.append (wS rfl)
theorem Pt.Ez {P:Program} {g:Nat} {R:Fz} [Inhabited (AF K R)] (hmm:∀ x,∀ q∈K.enc x,mT q) {cf:α->α->Int} (h:∀ x y,Pt P g [agg (K.enc x),agg (K.enc y)] (eq (.int .i64 (cf x y)))) {ar off size:Nat} {w:World}
  (hw:∀ (ds:Array (AF K R)) (n:Nat) (os:Array Obj),ds.size=size->∀ b o,R.mem b o->(sortWorldK (λz:AF K R=>z.1.2) K.sz w ar off n ds os).heap[b]? = some o):
  CmpLays P g #[] (λz:AF K R=>z.1.2) K.sz (λx y=>cf x.1.1 y.1.1) ar off size w:=λm os dk hdk x y=>by
 have hfz:=hw dk m os hdk
 revert hfz
 generalize sortWorldK (λz:AF K R=>z.1.2) K.sz w ar off m dk os=W
 intro hfz
 have hu:∀ z:AF K R,(agg (K.enc z.1.1)).p (full W) (.agg z.1.2.toArray):=λz=>⟨z.1.2,rfl,Cs.mm hfz z.2 (hmm _)⟩
 refine(h x.1.1 y.1.1 (full W) [] W [.agg x.1.2.toArray,.agg y.1.2.toArray] (.cons (hu x) (.cons (hu y) .nil)) (Br W)).mono ?_
 rintro e w' ⟨R',v,hR,rfl,hv,hs⟩
 have hb:=hs.base
 have e0:R'.w0=W:=hR.1.symm
 have hv:v = .int .i64 (cf x.1.1 y.1.1):=hv
 refine⟨by rw [hv],w'.drawn-W.drawn,w'.heap.extract W.heap.size w'.heap.size,?_⟩
 have h1:W.drawn<=w'.drawn:=by have:=hb.Fh;rwa [e0] at this
 have h2:W.heap.size<=w'.heap.size:=by have:=hb.size;rwa [e0] at this
 have h3:W.heap++w'.heap.extract W.heap.size w'.heap.size=w'.heap:=by
  apply Array.ext
  ·simp;omega
  ·intro i i1 i2
   rw [Array.getElem_append]
   split
   ·rename_i hi
    have:=hb.uN i _ (hR.2 i _ (Array.getElem?_eq_getElem hi))
    exact(Array.getElem?_eq_some_iff.1 this).2.symm
   ·rw [Array.getElem_extract]
    congr 1;omega
 obtain⟨heap,tape,drawn,os',output⟩:=w'
 obtain⟨heap2,tape2,drawn2,os2,output2⟩:=W
 have a1:=hb.os
 have a2:=hb.tape
 have a3:=hb.output
 rw [e0] at a1 a2 a3
 simp only at a1 a2 a3 h1 h3
 subst a1 a2 a3
 show _=({ heap:=_,.. }:World)
 unfold World.drewN
 simp only [World.mk.injEq]
 exact⟨h3.symm,trivial,om,trivial,trivial⟩
theorem yU {xs ys:List α} {cf:α->α->Int} (hO:SWO (ltOf cf)) (hT:xs.Pairwise λx y=>ltOf cf x y=true\/ltOf cf y x=true) (hp:ys.Perm xs) (hs:ys.Pairwise λx y=>ltOf cf y x=false):ys=lW cf xs:=by
 have sym:∀ {x y},(ltOf cf x y=true\/ltOf cf y x=true)->(ltOf cf y x=true\/ltOf cf x y=true):=Or.symm
 have hall:∀ a b,a∈xs->b∈xs->a=b\/ltOf cf a b=true\/ltOf cf b a=true:=λa b ha hb=>by
  obtain⟨i,hi,rfl⟩:=List.mem_iff_getElem.1 ha
  obtain⟨j,hj,rfl⟩:=List.mem_iff_getElem.1 hb
  rcases Nat.lt_trichotomy i j with q | q | q
  ·exact .inr (List.pairwise_iff_getElem.1 hT i j hi hj q)
  ·subst q;exact .inl rfl
  ·exact .inr (sym (List.pairwise_iff_getElem.1 hT j i hj hi q))
 rw [nE]
 refine List.Perm.eq_of_pairwise (le:=λx y=>(!ltOf cf y x)=true) ?_ ?_ ?_ (hp.trans (List.mergeSort_perm _ _).symm)
 ·intro a b ha hb h1 h2
  simp only [Bool.not_eq_true'] at h1 h2
  rcases hall a b (hp.mem_iff.1 ha) ((List.mergeSort_perm _ _).mem_iff.1 hb) with e | e | e
  ·exact e
  ·rw [h2] at e;cases e
  ·rw [h1] at e;cases e
 ·exact hs.imp λh=>by rw [h];rfl
 ·refine List.pairwise_mergeSort ?_ ?_ _
  ·intro a b c h1 h2
   simp only [Bool.not_eq_true'] at h1 h2 ⊢
   exact hO.ntrans c b a h2 h1
  ·intro a b
   cases h:ltOf cf b a with
   | false=>simp
   | true=>simp [hO.asymmA h]
theorem Cq {P:Program} {f g:FuncId} {p:OV} {xs:List α} {cf:α->α->Int} (hmm:∀ x,∀ q∈K.enc x,mT q) (h0:0<K.sz) (hO:SWO (ltOf cf)) (hT:xs.Pairwise λx y=>ltOf cf x y=true\/ltOf cf y x=true) (hc:∀ x y,Pt P g [agg (K.enc x),agg (K.enc y)] (eq (.int .i64 (cf x y))))
  (h:∀ {β:Type} [Inhabited β] (ev:β->List Value),(∀ x,(ev x).length=K.sz)->(∀ x,∀ v∈ev x,v.oneCell'=true)->∀ (cf:β->β->Int),SWO (ltOf cf)->∀ (ar off cap:Nat) (d:Array β) (w:World),CmpLays P g #[] ev K.sz cf ar off d.size w->HoldsK ev K.sz w ar off d->ar<w.heap.size->d.size<4611686018427387904->
   Calls P f #[.slice (some ⟨ar,off,none⟩) d.size cap,.func (.func g) #[] #[]] w λe w'=>e = .returned (.tuple #[])/\∃ d' n os,PermIn 0 d.size d d'/\SortedIn (ltOf cf) 0 d.size d'/\w'=sortWorldK ev K.sz w ar off n d' os)
  (h1:∀ (q:Option Addr) (cap:Nat) (w:World),Calls P f #[.slice q 0 cap,.func (.func g) #[] #[]] w λe w'=>e = .returned (.tuple #[])/\w'=w) (hl:xs.length<4611686018427387904):
  Tr P f [eq p.1,eq (.func (.func g) #[] #[])] [own K p.1 xs] (γ:=Unit) (λ_=>True) (λ_=>lg []) (λ_=>[own K p.1 (lW cf xs)]):=λR F w us hu hst=>by
 cases hu with
 | cons ha hu=>
  cases hu with
  | cons hb hu=>
   cases hu
   simp only [ez] at ha hb
   subst ha hb
   by_cases hx:xs=[]
   ·subst hx
    obtain⟨mm,hm,_⟩:=St.read (List.mem_cons_self ..) hst
    obtain⟨ad,c,e3⟩:∃ ad c,p.1 = .slice ad 0 c:=by
     rcases hm with⟨a0,e0,_,_⟩|⟨b,off,c,bT,fr,cs,e0,_⟩
     ·exact⟨_,_,e0⟩
     ·exact⟨_,_,e0⟩
    have e2:([p.1,.func (.func g) #[] #[]]:List Value).toArray = #[Value.slice ad 0 c,.func (.func g) #[] #[]]:=by rw [e3]
    rw [e2]
    refine(h1 ad c w).mono ?_
    rintro e1 w' ⟨rfl,rfl⟩
    have e3:lW cf []=[]:=by simp [nE]
    exact⟨(),R,_,trivial,Fz.le_refl R,rfl,⟨[],rfl,.nil⟩,by rw [e3];exact hst⟩
   ·obtain⟨m,hm,hk⟩:=hst
    rcases hm with⟨a,e1,e2,_⟩|⟨b,off,c,T,fr,cs,e,hlc,hm,hcc,hf,hh⟩
    ·exact absurd e2 hx
    obtain⟨zs,z1,z2⟩:=cels hh
    obtain⟨z0,hz0⟩:∃ z0,z0∈zs:=by
     cases zs with
     | nil=>exact absurd z1.symm hx
     | cons z0 _=>exact⟨z0,List.mem_cons_self ..⟩
    letI:Inhabited (AF K R):=⟨z0⟩
    have hzl:zs.length=xs.length:=by rw [<- z1,List.length_map]
    have hev:∀ x:AF K R,(Iq K R z0).enc x=((λz:AF K R=>z.1.2) x).map eq:=λ_=>rfl
    have hst2:St R (own (Iq K R z0) p.1 zs::F) w:=⟨m,.inr ⟨b,off,c,T,fr,cs,by rw [hzl];exact e,by rw [hzl];exact hlc,hm,hcc,hf,by
     have e5:(cs.drop off).take (zs.length*(Iq K R z0).sz)=zs.flatMap (λz=>z.1.2):=by rw [hzl,z2];rfl
     rw [e5]
     exact DV hev zs⟩,hk⟩
    rcases zo hev h0 hst2 with⟨a,e5,e6⟩|⟨b',off',c',e5,hb',hH,hput⟩
    ·rw [e6] at hz0;cases hz0
    have hO2:SWO (ltOf λx y:AF K R=>cf x.1.1 y.1.1):=⟨λx=>hO.irrefl x.1.1,λx y z=>hO.trans x.1.1 y.1.1 z.1.1,λx y z=>hO.ntrans x.1.1 y.1.1 z.1.1⟩
    have e7:([p.1,.func (.func g) #[] #[]]:List Value).toArray = #[Value.slice (some ⟨b',off',none⟩) zs.toArray.size c',.func (.func g) #[] #[]]:=by rw [e5];simp
    rw [e7]
    refine(h (λz:AF K R=>z.1.2) (λz=>by rw [<- K.len z.1.1];exact(bV.length z.2).symm) (λz v hv=>Cs.Av (K.one z.1.1) z.2 v hv) _ hO2 b' off' c' zs.toArray w
     (Pt.Ez hmm hc λds n os hds b o hbo=>(hput ds n os (by simpa using hds)).base.uN b o hbo) hH hb' (by simpa [hzl] using hl)).mono ?_
    rintro e1 w' ⟨rfl,d',n,os,hP,hS,rfl⟩
    obtain⟨hsz,_,hperm⟩:=hP
    have e8:d'.extract 0 zs.toArray.size=d':=by rw [<- hsz];exact Array.extract_size
    rw [e8,Array.extract_size] at hperm
    have hd:d'.toList.Perm zs:=by simpa using hperm
    have hst4:=hput d' n os (by simpa using hsz)
    refine⟨(),R,_,trivial,Fz.le_refl R,rfl,⟨[],rfl,.nil⟩,?_⟩
    have hq:d'.toList.map (λz=>z.1.1)=lW cf xs:=yU hO hT (by rw [<- z1];exact hd.map _) (by
     rw [List.pairwise_map,List.pairwise_iff_getElem]
     intro i j hi hj hij
     have hi':i<d'.size:=by simpa using hi
     have hj':j<d'.size:=by simpa using hj
     have:=hS i j (Nat.zero_le _) hij om
     rw [getElem!_pos d' j hj',getElem!_pos d' i hi'] at this
     simpa [ltOf] using this)
    obtain⟨m4,hm4,hk4⟩:=hst4
    refine⟨m4,?_,hk4⟩
    have hdl:d'.toList.length=(lW cf xs).length:=by rw [<- hq,List.length_map]
    rcases hm4 with⟨a,f1,f2,_⟩|⟨b4,off4,c4,T4,fr4,cs4,f1,f2,f3,f4,f5,f6⟩
    ·exfalso
     have:=hd.length_eq
     rw [f2,List.length_nil] at this
     exact absurd (List.length_eq_zero_iff.1 this.symm ▸ hz0) sM
    ·refine .inr ⟨b4,off4,c4,T4,fr4,cs4,by rw [<- hdl];exact f1,by rw [<- hdl];exact f2,f3,f4,f5,?_⟩
     rw [<- hq,List.length_map]
     exact wS (Ea (by rw [<- zg hev];exact f6))
end
structure CE {α:Type} (c:α->α->Int):Prop where
 qg:∀ x y,c x y<0↔0<c y x
 trans:∀ x y z,c x y<=0->c y z<=0->c x z<=0
theorem CE.swo {α:Type} {c:α->α->Int} (h:CE c):SWO (ltOf c) where
 irrefl x:=by
  unfold ltOf
  rw [decide_eq_false_iff_not]
  intro k
  have:=(h.qg x x).1 k
  omega
 trans x y z h1 h2:=by
  unfold ltOf at *
  rw [decide_eq_true_eq] at *
  have a:=h.trans x y z om om
  rcases Int.lt_or_eq_of_le a with k | k
  ·exact k
  ·exfalso
   have b:c z x<=0:=by
    rcases(show 0<c z x\/c z x<=0 by omega) with q | q
    ·have:=(h.qg x z).2 q;omega
    ·exact q
   have d:=h.trans y z x om b
   have e:=(h.qg x y).1 h1
   omega
 ntrans x y z h1 h2:=by
  unfold ltOf at *
  rw [decide_eq_false_iff_not] at *
  have le:∀ {a b},¬ c a b<0->c b a<=0:=λ{a b} k=>by
   rcases(show 0<c b a\/c b a<=0 by omega) with q | q
   ·exact absurd ((h.qg a b).2 q) k
   ·exact q
  have a:=h.trans z y x (le h2) (le h1)
  intro k
  have:=(h.qg x z).1 k
  omega
theorem CE.zI {α β:Type} {c:α->α->Int} (h:CE c) (f:β->α):CE (λx y=>c (f x) (f y)):=⟨λ_ _=>h.qg _ _,λ_ _ _=>h.trans _ _ _⟩
def C8 (a b:Int):Int:=if a=0 then b else a
theorem CE.or {α:Type} {c d:α->α->Int} (h:CE c) (k:CE d):CE (λx y=>C8 (c x y) (d x y)):=by
 have z:∀ x y,c x y=0↔c y x=0:=λx y=>by
  have a:=h.qg x y
  have b:=h.qg y x
  omega
 constructor
 ·intro x y
  unfold C8
  have a:=h.qg x y
  have b:=h.qg y x
  have e:=z x y
  have f:=k.qg x y
  by_cases q:c x y=0
  ·rw [if_pos q,if_pos (e.1 q)];exact f
  ·rw [if_neg q,if_neg (λw=>q (e.2 w))];exact a
 ·intro x y w h1 h2
  have e:∀ {a b:Int},C8 a b<=0↔(a=0/\b<=0)\/(a≠0/\a<=0):=λ{a b}=>by
   unfold C8;split <;> omega
  have h1:=e.1 h1
  have h2:=e.1 h2
  refine e.2 ?_
  have t1:=h.trans x y w
  have t2:=h.trans w y x
  have t3:=h.trans y w x
  have t4:=h.trans w x y
  have a1:=h.qg x y
  have a2:=h.qg y w
  have a3:=h.qg x w
  have a4:=h.qg y x
  have a5:=h.qg w y
  have a6:=h.qg w x
  have kt:=k.trans x y w
  omega
theorem xn:CE nS where
 qg x y:=by rw [yg,By]
 trans x y z h1 h2:=by rw [Gw] at *;exact rE h1 h2
def rS (x y:Int):Int:=if x<y then -1 else if y<x then 1 else 0
theorem FX:CE rS where
 qg x y:=by unfold rS;split <;> split <;> (try split) <;> omega
 trans x y z h1 h2:=by
  have le:∀ {a b:Int},rS a b<=0↔a<=b:=λ{a b}=>by unfold rS;split <;> (try split) <;> omega
  rw [le] at *;omega
def lax:As:=⟨λR m=>R.w0.drawn=0/\m=[],λhR ⟨h,e⟩=>⟨by rw [<- hR.1];exact h,e⟩⟩
theorem je.IP {R:Fz} {w w':World} {m:Mem} {l:List As} (hb:Go.RowKit.Below w.heap.size w w') (hd:R.w0.drawn=0) (h:je R m l w):je R m l w':=by
 refine je.to (m:=m) (Fz.le_refl R) (λx hx=>?_) h
 have same:∀ b o,w.heap[b]? = some o->w'.heap[b]? = some o:=λb o k=>by rw [hb.block b (jT k)];exact k
 exact⟨hb.os.trans hx.os,hb.tape.trans hx.tape,hb.output.trans hx.output,Nat.le_trans hx.size hb.size,λb o hm=>same b o (hx.uN b o hm),hx.nd,λy hy=>same _ _ (hx.own y hy),hx.BY,by rw [hd];exact Nat.zero_le _⟩
theorem Tr.CK {P:Program} {f:FuncId} {vs:List VP} {ret:VP} (h:∀ (R:Fz) (F:List As) (w:World) (us:List Value),Cs.h R vs us->St R F w->∃ v,ret.p R v/\Calls P f us.toArray w λe w'=>e = .returned v/\Go.RowKit.Below w.heap.size w w'):
  Tr P f vs [lax] (γ:=Unit) (λ_=>True) (λ_=>ret) (λ_=>[lax]):=λR F w us hu hs=>by
 obtain⟨v,hv,hc⟩:=h R ([lax]++F) w us hu hs
 obtain⟨_,⟨hd,_⟩,_⟩:=St.read (A:=lax) (List.mem_cons_self ..) hs
 exact hc.mono λe w' ⟨he,hb⟩=>⟨(),R,v,trivial,Fz.le_refl R,he,hv,je.IP hb hd hs⟩
def Bc (W:World):Fz:=⟨λb o=>W.heap[b]? = some o,{ W with drawn:=0 }⟩
theorem EV (W:World):St (Bc W) [lax] W:=⟨[],⟨rfl,rfl⟩,rfl,rfl,rfl,Nat.le_refl _,λ_ _ h=>h,.nil,λ_ h=>by (cases h),λ_ h=>by (cases h),Nat.zero_le _⟩
theorem yr {W w':World} {R':Fz} {l:List As} (hR:(Bc W).le R') (hs:St R' l w'):Go.RowKit.Below W.heap.size W w':=by
 have hb:=hs.base
 have e:R'.w0={ W with drawn:=0 }:=hR.1.symm
 refine⟨?_,?_,?_,?_,λk hk=>?_⟩
 ·rw [hb.os,e]
 ·rw [hb.tape,e]
 ·rw [hb.output,e]
 ·have:=hb.size;rw [e] at this;exact this
 ·obtain⟨o,ho⟩:∃ o,W.heap[k]? = some o:=⟨_,Array.getElem?_eq_getElem hk⟩
  rw [ho,hb.uN k o (hR.2 k o ho)]
theorem C2 {P:Program} {f:FuncId} {vs:List VP} (hm:∀ p∈vs,mT p) (h:Tr P f vs [lax] (γ:=Unit) (λ_=>True) (λ_=>eq (.bool true)) (λ_=>[lax])) {W:World} {us:List Value} (hu:Cs.h (full W) vs us):Calls P f us.toArray W λe w'=>e = .returned (.bool true)/\Go.RowKit.Below W.heap.size W w':=
 (h (Bc W) [] W us (Cs.mm (R:=full W) (R':=Bc W) (λ_ _ h=>h) hu hm) (EV W)).mono λ_ _ ⟨_,_,_,_,h1,h2,h3,h4⟩=>⟨by rw [h2,h3],yr h1 h4⟩
section
variable {P:Program} {ops:Array Oper} {n:Nat} {dr:Bool} {R0:Fz} {K:KU} {E:Env} {l:List As} {pend:List (Nat×(List As->Prop))} {rest:List (Nat×Bool)} {i d:Nat}
variable {T:TypeId} {ps:String} {af:Array Edge} {g:Option (Nat×Bool)} {x y:Operand}
theorem Dv.Ik {f:FuncId} {xs:Array Operand} {ts:Array TypeId} {vs:List VP} {pre F:List As} {γ:Type} {ok:γ->Prop} {ret:γ->VP} {post:γ->List As} {dst:Option Nat} (l2:γ->List As) (ho:opAt ops.toList i=some ⟨dst,.call ⟨.value x,xs,ts⟩,T,ps,af,g⟩) (hg:fZ ops E g)
  (hx:opv E x=some (eq (.func (.func f) #[] #[]))) (hc:fx P f=true) (hv:opvs E xs.toList=some vs) (ht:Tr P f vs pre ok ret post) (hl:l.Perm (pre++F)) (h2:(λb=>post b++F)=l2)
  (hp:dr=true->∀ z∈pend,((Region.before ops).getD i 0).testBit z.1=true\/∀ b,ok b->z.2 (l2 b))
  (k:∀ b,ok b->Dv P ops n dr R0 K (Sp.ext E dst (ret b)) (l2 b) pend rest) (hkb:K.kZ E l pend ((i,true)::rest):=by first | exact trivial | assumption):Dv P ops n dr R0 K E l pend ((i,true)::rest):=by
 subst h2
 exact .kZ _ ok ret (λb=>post b++F) (fC ho) (λR a w _ _ hs hst K Q hk=>by
  have e:=hs.op (x:=x) (by simp [Op.operands,Call.operands]) hx
  simp only [ez] at e
  refine me (R:=R) (f:=f) (cap:=#[]) (fst:=#[]) rfl (j9 hs hg) hc rfl e ?_
  have:=iE (λx hx p hp=>hs.op (by simp [Op.operands,Call.operands];exact .inr (by simpa using hx)) hp) hv
  refine(ht R F w _ (by simpa using this) (St.fY hl hst)).mono ?_
  rintro e w' ⟨b,R',v,hb,hR,he,hv,hst'⟩
  exact⟨v,he,hk b R' v w' hb hR hv hst'⟩) hp k hkb
end
section
variable {γ:Type} {ok:γ->Prop} {L:γ->List As} {pend:List (Nat×(List As->Prop))}
theorem Ir:∀ x∈([]:List (Nat×(List As->Prop))),∀ g,ok g->x.2 (L g):=λ_ h=>by cases h
theorem lH {i:Nat} {q:List As->Prop} (h:∀ g,q (L g)) (k:∀ x∈pend,∀ g,ok g->x.2 (L g)):∀ x∈(i,q)::pend,∀ g,ok g->x.2 (L g):=λx hx g hg=>by
 rcases List.mem_cons.1 hx with rfl | hx
 ·exact h g
 ·exact k x hx g hg
end
theorem Ej {vs:List Value} (h:∀ u∈vs,u.oneCell'=true):ma (eq (.agg vs.toArray)) (vs.map eq):=λR v hv=>by
 simp only [ez] at hv
 subst hv
 refine⟨?_,λu hu=>h u (by simpa [Value.cells] using hu)⟩
 have:∀ l:List Value,Cs.h R (l.map eq) l:=λl=>by
  induction l with
  | nil=>exact .nil
  | cons a l ih=>exact .cons rfl ih
 simpa [Value.cells] using this vs
def allO {γ:Type} (f:γ->Option Bool):List γ->Option Bool
 | []=>some true
 | e::l=>(f e).bind λb=>(allO f l).bind λc=>some (b&&c)
theorem yJ {γ:Type} {f:γ->Option Bool}:∀ {l:List γ} {r:Bool} {j:Nat} {e:γ},allO f l=some r->l[j]? = some e->∃ b,f e=some b
 | [],_,_,_,_,h=>by simp at h
 | a::l,r,j,e,h,hj=>by
  unfold allO at h
  cases h1:f a with
  | none=>rw [h1] at h;cases h
  | some b=>
   rw [h1] at h
   cases j with
   | zero=>cases hj;exact⟨b,h1⟩
   | succ j=>
    cases h2:allO f l with
    | none=>rw [h2] at h;cases h
    | some c=>exact yJ h2 (by simpa using hj)
theorem vx {γ:Type} {f:γ->Option Bool}:∀ {l:List γ} {r:Bool} {j:Nat} {e:γ},allO f l=some r->l[j]? = some e->f e=some false->r=false
 | [],_,_,_,_,h,_=>by simp at h
 | a::l,r,j,e,h,hj,hf=>by
  unfold allO at h
  cases h1:f a with
  | none=>rw [h1] at h;cases h
  | some b=>
   rw [h1] at h
   cases h2:allO f l with
   | none=>rw [h2] at h;cases h
   | some c=>
    rw [h2] at h
    have h:(b&&c)=r:=Option.some.inj h
    cases j with
    | zero=>cases hj;rw [hf] at h1;cases h1;exact h.symm
    | succ j=>rw [vx h2 (by simpa using hj) hf] at h;rw [<- h];simp
theorem wX {γ:Type} {f:γ->Option Bool}:∀ {l:List γ} {r:Bool},allO f l=some r->(∀ (j:Nat) (e:γ),l[j]? = some e->f e=some true)->r=true
 | [],_,h,_=>(Option.some.inj h).symm
 | a::l,r,h,hf=>by
  unfold allO at h
  rw [hf 0 a rfl] at h
  cases h2:allO f l with
  | none=>rw [h2] at h;cases h
  | some c=>
   rw [h2] at h
   have h:(true&&c)=r:=Option.some.inj h
   rw [<- h,wX h2 (λj e hj=>hf (j+1) e (by simpa using hj))];rfl
end Go.Sp
