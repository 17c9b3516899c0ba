import Derived.Test.YtelcbdmigiacpaaGreatConC1
import Derived.Test.YtelcbdmigiacpaaGreatConA6
set_option linter.all false
namespace Go.Sp
open Go
def pfv (v:Value) (m:Nat):Value:=match v with | .slice a _ c=>.slice a m c | u=>u
theorem own_form {R:Fz} {w:World} {l:List As} {α:Type} {K:Kd α} {v:Value} {xs:List α} (hA:own K v xs∈l) (hst:St R l w):∃ a c,v = .slice a xs.length c∧xs.length≤c:=by
 obtain ⟨mm,hm,_⟩:=St.read hA hst
 rcases hm with ⟨a0,e0,e2,_⟩ | ⟨b,off,c,bT,fr,cs,e0,hlc,_⟩
 ·subst e2; exact ⟨_,_,e0,Nat.le_refl _⟩
 ·exact ⟨_,_,e0,hlc⟩
theorem add0 (a:Option Addr):a.map (·.add 0) = a:=by cases a <;> rfl
section
variable {P:Program} {ops:Array Oper} {n:Nat} {dr:Bool} {R0:Fz} {K:KU} {E:Env} {l:List As} {pend:List (Nat×(List As→Prop))} {rest:List (Nat×Bool)} {i d:Nat}
variable {T:TypeId} {ps:String} {af:Array Edge} {g:Option (Nat×Bool)} {x y:Operand} {α:Type} {Kd:Kd α} {v:Value} {xs:List α}
theorem Dv.sl3 {t e:TypeId} {ed:TypeDesc} {p q:Nat} {xl xh xm:Operand} (ho:opAt ops.toList i = some ⟨some d,.slice t x (some xl) (some xh) (some xm),T,ps,af,g⟩) (hg:GOn ops E g) (hx:opv E x = some (eq v)) (hA:own Kd v xs∈l) (hu:P.underlying t = some (.slice e)) (hv:P.underlying e = some ed) (hz:P.cellsOf e = Kd.sz)
  (hl:bdE E 0 (some xl) p) (hh:bdE E 0 (some xh) q) (hm:bdE E 0 (some xm) xs.length) (h1:p≤q) (h2:q≤xs.length)
  (k:Dv P ops n dr R0 K ((d,anyV)::E) l ((i,(own Kd v xs∈·))::pend) rest):Dv P ops n dr R0 K E l pend ((i,false)::rest):=
 Dv.okd _ _ ho (OpOk.val hg fun R a w l h hA hst=>by
  have e1:=h x op_slice0 _ hx
  simp only [eq_p] at e1
  obtain ⟨ad,c,e2,hc⟩:=own_form hA hst
  have b1:=bd_of (a:=a) hl (fun z p e hp=>h z (ops_slice (.inl e)) p hp)
  have b2:=bd_of (a:=a) (d:=xs.length) (lo:=some xh) hh (fun z p e hp=>h z (ops_slice (.inr (.inl e))) p hp)
  have b3:=bd_of (a:=a) (d:=c) (lo:=some xm) hm (fun z p e hp=>h z (ops_slice (.inr (.inr e))) p hp)
  have:=run_bounds (P:=P) (w:=w) (is:=true) b1 b2 b3 h1 h2 hc (by simp)
  refine ⟨R,.slice (if xs.length = p then ad else ad.map (·.add (p * Kd.sz))) (q - p) (xs.length - p),w,Fz.le_refl R,trivial,hst,?_⟩
  simp only [execOp,Instr.sliceAt,Instr.slice,e1,e2,underlying,hu,Sem.run_bind,run_program,Sem.run_pure,Result.andThen_ok,this,run_sizeOf hv hz]) hA k
theorem Dv.slpf {t e:TypeId} {ed:TypeDesc} {q:Nat} {xh:Operand} (ho:opAt ops.toList i = some ⟨some d,.slice t x none (some xh) none,T,ps,af,g⟩) (hg:GOn ops E g) (hx:opv E x = some (eq v)) (hA:own Kd v xs∈l) (hu:P.underlying t = some (.slice e)) (hv:P.underlying e = some ed) (hz:P.cellsOf e = Kd.sz)
  (hh:bdE E 0 (some xh) q) (h2:q≤xs.length)
  (k:Dv P ops n dr R0 K ((d,eq (pfv v q))::E) l ((i,(own Kd v xs∈·))::pend) rest):Dv P ops n dr R0 K E l pend ((i,false)::rest):=
 Dv.okd _ _ ho (OpOk.val hg fun R a w l h hA hst=>by
  have e1:=h x op_slice0 _ hx
  simp only [eq_p] at e1
  obtain ⟨ad,c,e2,hc⟩:=own_form hA hst
  have b2:=bd_of (a:=a) (d:=xs.length) (lo:=some xh) hh (fun z p e hp=>h z (ops_slice (.inr (.inl e))) p hp)
  have:=run_bounds (P:=P) (w:=w) (is:=true) (lo:=none) (l:=0) (.inl ⟨rfl,rfl⟩) b2 (mx:=none) (cap:=c) (m:=c) (.inl ⟨rfl,rfl⟩) (Nat.zero_le _) (Nat.le_trans h2 hc) (Nat.le_refl _) (by simp)
  refine ⟨R,.slice ad q c,w,Fz.le_refl R,by rw [e2]; rfl,hst,?_⟩
  simp only [Option.map_some] at this
  simp only [execOp,Instr.sliceAt,Instr.slice,e1,e2,underlying,hu,Sem.run_bind,run_program,Sem.run_pure,Result.andThen_ok,Option.map_none,Option.map_some,this,run_sizeOf hv hz,Nat.zero_mul,add0,ite_self,Nat.sub_zero]) hA k
theorem Dv.slpt {t e:TypeId} {ed:TypeDesc} {m p q:Nat} {xl xh:Operand} (ho:opAt ops.toList i = some ⟨some d,.slice t x (some xl) (some xh) none,T,ps,af,g⟩) (hg:GOn ops E g) (hx:opv E x = some (eq (pfv v m))) (hA:own Kd v xs∈l) (hu:P.underlying t = some (.slice e)) (hv:P.underlying e = some ed) (hz:P.cellsOf e = Kd.sz)
  (hl:bdE E 0 (some xl) p) (hh:bdE E 0 (some xh) q) (h1:p≤q) (h2:q≤xs.length)
  (k:Dv P ops n dr R0 K ((d,eq (tlv Kd.sz v q p))::E) l ((i,(own Kd v xs∈·))::pend) rest):Dv P ops n dr R0 K E l pend ((i,false)::rest):=
 Dv.okd _ _ ho (OpOk.val hg fun R a w l h hA hst=>by
  have e1:=h x op_slice0 _ hx
  simp only [eq_p] at e1
  obtain ⟨ad,c,e2,hc⟩:=own_form hA hst
  have b1:=bd_of (a:=a) hl (fun z p e hp=>h z (ops_slice (.inl e)) p hp)
  have b2:=bd_of (a:=a) (d:=m) (lo:=some xh) hh (fun z p e hp=>h z (ops_slice (.inr (.inl e))) p hp)
  have:=run_bounds (P:=P) (w:=w) (is:=true) b1 b2 (mx:=none) (cap:=c) (m:=c) (.inl ⟨rfl,rfl⟩) h1 (Nat.le_trans h2 hc) (Nat.le_refl _) (by simp)
  refine ⟨R,.slice (if c = p then ad else ad.map (·.add (p * Kd.sz))) (q - p) (c - p),w,Fz.le_refl R,by rw [e2]; rfl,hst,?_⟩
  rw [e2] at e1
  simp only [Option.map_some] at this
  simp only [execOp,Instr.sliceAt,Instr.slice,e1,pfv,underlying,hu,Sem.run_bind,run_program,Sem.run_pure,Result.andThen_ok,Option.map_none,Option.map_some,this,run_sizeOf hv hz]) hA k
theorem Dv.lenp {t e:TypeId} {m:Nat} (ho:opAt ops.toList i = some ⟨some d,.call ⟨.builtin .len,#[x],#[t]⟩,T,ps,af,g⟩) (hg:GOn ops E g) (hx:opv E x = some (eq (pfv v m))) (hA:own Kd v xs∈l) (hu:P.underlying t = some (.slice e))
  (k:Dv P ops n dr R0 K ((d,eq (.int .i64 (m:Int)))::E) l ((i,(own Kd v xs∈·))::pend) rest):Dv P ops n dr R0 K E l pend ((i,false)::rest):=
 Dv.okd _ _ ho (OpOk.val hg fun R a w l h hA hst=>by
  have e1:=h x (by simp [Op.operands,Call.operands]) _ hx
  simp only [eq_p] at e1
  obtain ⟨ad,c,e2,hc⟩:=own_form hA hst
  rw [e2] at e1
  exact ⟨R,.int .i64 m,w,Fz.le_refl R,rfl,hst,by simp [execOp,resolve,invoke,builtin,Builtin.len_,e1,pfv,underlying,hu,goInt]⟩) hA k
theorem own_splice {R:Fz} {w:World} {l:List As} {jj p:Nat} {zs:List α} {us:List Value} (hjj:l[jj]? = some (own Kd v xs)) (h0:xs≠[]) (hp:p + zs.length≤xs.length) (hus:Cs.h R (zs.flatMap Kd.enc) us) (hone:∀ z∈us,z.oneCell' = true) (hst:St R l w):
  ∃ b off c w',v = .slice (some ⟨b,off,none⟩) xs.length c∧xs.length≤c∧(storeCells ⟨b,off + p * Kd.sz,none⟩ us).run P w = .ok () w'∧St R (l.set jj (own Kd v (xs.take p++zs++xs.drop (p + zs.length)))) w':=by
 obtain ⟨b,off,c,bT,cs,e3,hl,hc,hcs,hst1⟩:=own_lit jj hjj h0 hst
 subst e3
 have hjl:=(List.getElem?_eq_some_iff.1 hjj).1
 have hj2:(l.set jj (cellsA b bT cs))[jj]? = some (cellsA b bT cs):=List.getElem?_set_self hjl
 obtain ⟨mm,rfl,hk⟩:=hst1.opn hj2
 have hh:=(Stm.base hk).get
 have hul:=All2.length hus
 rw [flatMap_len] at hul
 have m1:=Nat.mul_le_mul_right Kd.sz hl
 have m2:=Nat.mul_le_mul_right Kd.sz hp
 rw [Nat.add_mul] at m2
 obtain ⟨w',hr,hb⟩:=run_stores (P:=P) us (off + p * Kd.sz) 0 hh hone (by omega) (by simp)
 have hst3:St R ((l.set jj (cellsA b bT cs)).set jj (cellsA b bT (splice cs (off + p * Kd.sz + 0) us))) w':=St.shut hj2 rfl (Stm.to (Fz.le_refl R) (fun x hx=>by simpa using hb R x hx) hk)
 rw [List.set_set] at hst3
 have hsl:(splice cs (off + p * Kd.sz + 0) us).length = cs.length:=by unfold splice; simp; omega
 have hzl:(xs.take p++zs++xs.drop (p + zs.length)).length = xs.length:=by simp only [List.length_append,List.length_take,List.length_drop]; omega
 have hfin:=own_of (Kd:=Kd) (b:=b) (off:=off) (n:=xs.length) (c:=c) (zs:=xs.take p++zs++xs.drop (p + zs.length)) jj (List.getElem?_set_self hjl) hzl hl (by rw [hsl]; exact hc) (by
  have h5:=slice_cells (Kd:=Kd) (xs:=xs) (p:=0) (q:=p) (by omega) (Nat.zero_le _) hcs
  have h6:=slice_cells (Kd:=Kd) (xs:=xs) (p:=p + zs.length) (q:=xs.length) (Nat.le_refl _) hp hcs
  rw [List.drop_zero,Nat.zero_mul,Nat.add_zero,List.length_take,Nat.min_eq_left (by omega)] at h5
  rw [List.take_length,List.length_drop] at h6
  have e9:((splice cs (off + p * Kd.sz + 0) us).drop off).take (xs.length * Kd.sz) = (cs.drop off).take (p * Kd.sz)++us++(cs.drop (off + (p + zs.length) * Kd.sz)).take ((xs.length - (p + zs.length)) * Kd.sz):=by
   unfold splice
   rw [Nat.add_zero,List.append_assoc,List.drop_append,List.length_take,Nat.min_eq_left (by omega),show off - (off + p * Kd.sz) = 0 by omega,List.drop_zero,List.drop_take,show off + p * Kd.sz - off = p * Kd.sz by omega,List.append_assoc]
   have ha:((cs.drop off).take (p * Kd.sz)).length = p * Kd.sz:=by rw [List.length_take,List.length_drop]; omega
   have q1:off + p * Kd.sz + us.length = off + (p + zs.length) * Kd.sz:=by rw [Nat.add_mul,hul]; omega
   have q2:xs.length * Kd.sz - p * Kd.sz - us.length = (xs.length - (p + zs.length)) * Kd.sz:=by rw [Nat.sub_mul,Nat.add_mul,hul]; omega
   have t1:us.take (xs.length * Kd.sz - p * Kd.sz) = us:=List.take_of_length_le (by omega)
   have t2:((cs.drop off).take (p * Kd.sz)).take (xs.length * Kd.sz) = (cs.drop off).take (p * Kd.sz):=List.take_of_length_le (by rw [ha]; omega)
   rw [List.take_append,t2,ha,List.take_append,t1,q1,q2]
  rw [e9,List.flatMap_append,List.flatMap_append]
  exact (h5.append hus).append h6) hst3
 rw [List.set_set] at hfin
 exact ⟨b,off,c,w',rfl,hl,hr,hfin⟩
theorem Dv.apt {t t2 e:TypeId} {ed:TypeDesc} {p q jj:Nat} (ho:opAt ops.toList i = some ⟨some d,.call ⟨.builtin .append,#[x,y],#[t,t2]⟩,T,ps,af,g⟩) (hg:GOn ops E g) (hx:opv E x = some (eq (pfv v p))) (hy:opv E y = some (eq (tlv Kd.sz v xs.length q)))
  (hjj:l[jj]? = some (own Kd v xs)) (hu:P.underlying t = some (.slice e)) (hu2:P.underlying t2 = some (.slice e)) (hv:P.underlying e = some ed) (hz:P.cellsOf e = Kd.sz) (hpq:p < q∧q≤xs.length)
  (hp:dr = true→∀ z∈pend,((Region.before ops).getD i 0).testBit z.1 = true∨∀ _:Unit,z.2 (l.set jj (own Kd v (xs.take p++xs.drop q++xs.drop (p + (xs.length - q))))))
  (k:Dv P ops n dr R0 K ((d,eq (pfv v (p + (xs.length - q))))::E) (l.set jj (own Kd v (xs.take p++xs.drop q++xs.drop (p + (xs.length - q))))) pend rest) (hkb:K.bar E l pend ((i,true)::rest):=by first | exact trivial | assumption):Dv P ops n dr R0 K E l pend ((i,true)::rest):=
 .bar _ (γ:=Unit) (fun _=>True) (fun _=>eq (pfv v (p + (xs.length - q)))) (fun _=>l.set jj (own Kd v (xs.take p++xs.drop q++xs.drop (p + (xs.length - q))))) (at_of ho) (OpBar.val hg fun R a w h hst=>by
  have e1:=h x (by simp [Op.operands,Call.operands]) _ hx
  have e2:=h y (by simp [Op.operands,Call.operands]) _ hy
  simp only [eq_p] at e1
  have hs:SrcN P Kd.sz l (eq (tlv Kd.sz v xs.length q)) (xs.length - q) (xs.length - q) _:=srcN_tail (List.mem_of_getElem? hjj) hpq.2 (Nat.le_refl _)
  obtain ⟨us,hus,hone,hr1,hr2⟩:=hs R w _ hst e2
  rw [List.take_of_length_le (by rw [List.length_drop]; exact Nat.le_refl _)] at hus
  have h0:xs≠[]:=by intro e; subst e; simp at hpq; omega
  have hdl:(xs.drop q).length = xs.length - q:=List.length_drop ..
  obtain ⟨b,off,c,w',e3,hl,hst1,hst2⟩:=own_splice (P:=P) (p:=p) (zs:=xs.drop q) hjj h0 (by rw [hdl]; omega) hus hone hst
  rw [hdl] at hst2
  rw [e3] at e1
  refine ⟨(),R,.slice (some ⟨b,off,none⟩) (p + (xs.length - q)) c,w',trivial,Fz.le_refl R,by rw [e3]; rfl,hst2,?_⟩
  have hle:p + (xs.length - q)≤c:=by omega
  simp [execOp,resolve,invoke,builtin,Builtin.append_,e1,pfv,run_underlying hu,run_underlying hu2,hr1,hr2,run_sizeOf hv hz,hle,add_eq,hst1]) (fun e z hz=>(hp e z hz).imp id fun h b _=>h b) (fun _ _=>k) hkb
theorem Dv.clrt {t e:TypeId} {z:Value} {p jj:Nat} (z0:α) (ho:opAt ops.toList i = some ⟨none,.call ⟨.builtin .clear,#[x],#[t]⟩,T,ps,af,g⟩) (hg:GOn ops E g) (hx:opv E x = some (eq (tlv Kd.sz v xs.length p)))
  (hu:P.underlying t = some (.slice e)) (hz:zer P e = some z) (hzs:z.cells.size = Kd.sz) (hz0:Kd.enc z0 = z.cells.toList.map eq) (h1c:∀ u∈z.cells.toList,u.oneCell' = true) (hp0:p < xs.length) (hjj:l[jj]? = some (own Kd v xs))
  (hp:dr = true→∀ z∈pend,((Region.before ops).getD i 0).testBit z.1 = true∨∀ _:Unit,z.2 (l.set jj (own Kd v (xs.take p++List.replicate (xs.length - p) z0))))
  (k:Dv P ops n dr R0 K E (l.set jj (own Kd v (xs.take p++List.replicate (xs.length - p) z0))) pend rest) (hkb:K.bar E l pend ((i,true)::rest):=by first | exact trivial | assumption):Dv P ops n dr R0 K E l pend ((i,true)::rest):=by
 refine .bar _ (γ:=Unit) (fun _=>True) (fun _=>eq (.tuple #[])) (fun _=>l.set jj (own Kd v (xs.take p++List.replicate (xs.length - p) z0))) (at_of ho) (OpBar.val hg fun R a w h hst=>?_) (fun e z hz=>(hp e z hz).imp id fun h b _=>h b) (fun _ _=>k) hkb
 have e1:=h x (by simp [Op.operands,Call.operands]) _ hx
 simp only [eq_p] at e1
 have h0:xs≠[]:=by intro e; subst e; simp at hp0
 obtain ⟨b,off,c,w',e3,hl,hr,hst2⟩:=own_splice (P:=P) (p:=p) (zs:=List.replicate (xs.length - p) z0) hjj h0 (by rw [List.length_replicate]; omega) (repl_h hz0 _) (zeroC_one h1c _) hst
 rw [List.length_replicate,List.drop_of_length_le (by omega),List.append_nil] at hst2
 rw [e3] at e1
 have hne:¬ c = p:=by omega
 refine ⟨(),R,.tuple #[],w',trivial,Fz.le_refl R,rfl,hst2,?_⟩
 have hzr:=run_zero (P:=P) (w:=w) hz
 obtain ⟨m',hm'⟩:=Nat.exists_eq_succ_of_ne_zero (show xs.length - p≠0 by omega)
 rw [hm'] at hr
 simp [tlv,hne,hm',add_eq] at e1
 simp [execOp,resolve,invoke,builtin,Builtin.clear_,e1,run_underlying hu,hzr,hr]
theorem st_cut {m:Nat} (j:Nat) (hj:l[j]? = some (own Kd v xs)) (hm:m≤xs.length):∀ R w,St R l w→∃ _:Unit,True∧St R (l.set j (own Kd (pfv v m) (xs.take m))) w:=fun R w hst=>by
 obtain ⟨mm,hm2,hk⟩:=hst.opn hj
 refine ⟨(),trivial,St.shut hj ?_ hk⟩
 have hml:(xs.take m).length = m:=by rw [List.length_take]; omega
 rcases hm2 with ⟨a,e3,e4,e5⟩ | ⟨b,off,c,bT,fr,cs,e3,hlc,hmm,hcs,hfr,hh⟩
 ·subst e4
  have:m = 0:=by simpa using hm
  subst this
  exact .inl ⟨a,by rw [e3]; rfl,rfl,e5⟩
 ·refine .inr ⟨b,off,c,bT,fr,cs,by rw [e3,hml]; rfl,by omega,hmm,hcs,hfr,?_⟩
  have h5:=slice_cells (Kd:=Kd) (xs:=xs) (p:=0) (q:=m) hm (Nat.zero_le _) hh
  rw [List.drop_zero,Nat.zero_mul,Nat.add_zero] at h5
  exact h5
theorem pfv_one {m:Nat} (hj:v.oneCell' = true):(pfv v m).oneCell' = true:=by
 cases v <;> first | rfl | exact hj
end
end Go.Sp
namespace Go.Sp
open Go Go.Proofs Go.Sort
def MemMono (p:VP):Prop:=∀ (R R':Fz) v,(∀ b o,R.mem b o→R'.mem b o)→p.p R v→p.p R' v
theorem mm_eq {v:Value}:MemMono (eq v):=fun _ _ _ _ h=>h
theorem Cs.mm {R R':Fz} (hR:∀ b o,R.mem b o→R'.mem b o) {ps:Cs} {cs:List Value} (h:Cs.h R ps cs) (hm:∀ p∈ps,MemMono p):Cs.h R' ps cs:=by
 induction h with
 | nil=>exact .nil
 | cons h1 _ ih=>exact .cons (hm _ (List.mem_cons_self ..) _ _ _ hR h1) (ih fun p hp=>hm p (List.mem_cons_of_mem _ hp))
theorem mms_nil:∀ p∈([]:Cs),MemMono p:=fun _ h=>by cases h
theorem mms_cons {q:VP} {ps:Cs} (h:MemMono q) (k:∀ p∈ps,MemMono p):∀ p∈q::ps,MemMono p:=fun p hp=>by
 rcases List.mem_cons.1 hp with rfl | hp
 ·exact h
 ·exact k p hp
section
variable {α:Type} {K:Kd α}
end
structure Cmp {α:Type} (c:α→α→Int):Prop where
 anti:∀ x y,c x y < 0↔0 < c y x
 trans:∀ x y z,c x y≤0→c y z≤0→c x z≤0
def lax:As:=⟨fun R m=>R.w0.drawn = 0∧m = [],fun hR ⟨h,e⟩=>⟨by rw [← hR.1]; exact h,e⟩⟩
theorem Stm.belowL {R:Fz} {w w':World} {m:Mem} {l:List As} (hb:Go.RowKit.Below w.heap.size w w') (hd:R.w0.drawn = 0) (h:Stm R m l w):Stm R m l w':=by
 refine Stm.to (m:=m) (Fz.le_refl R) (fun x hx=>?_) h
 have same:∀ b o,w.heap[b]? = some o→w'.heap[b]? = some o:=fun b o k=>by rw [hb.block b (lt_of_some k)]; exact k
 exact ⟨hb.os.trans hx.os,hb.tape.trans hx.tape,hb.output.trans hx.output,Nat.le_trans hx.size hb.size,fun b o hm=>same b o (hx.frz b o hm),hx.nd,fun y hy=>same _ _ (hx.own y hy),hx.dis,by rw [hd]; exact Nat.zero_le _⟩
theorem Tr.of_belowL {P:Program} {f:FuncId} {vs:List VP} {ret:VP} (h:∀ (R:Fz) (F:List As) (w:World) (us:List Value),Cs.h R vs us→St R F w→∃ v,ret.p R v∧Calls P f us.toArray w fun e w'=>e = .returned v∧Go.RowKit.Below w.heap.size w w'):
  Tr P f vs [lax] (γ:=Unit) (fun _=>True) (fun _=>ret) (fun _=>[lax]):=fun R F w us hu hs=>by
 obtain ⟨v,hv,hc⟩:=h R ([lax]++F) w us hu hs
 obtain ⟨_,⟨hd,_⟩,_⟩:=St.read (A:=lax) (List.mem_cons_self ..) hs
 exact hc.mono fun e w' ⟨he,hb⟩=>⟨(),R,v,trivial,Fz.le_refl R,he,hv,Stm.belowL hb hd hs⟩
def full0 (W:World):Fz:=⟨fun b o=>W.heap[b]? = some o,{ W with drawn:=0 }⟩
theorem full0_st (W:World):St (full0 W) [lax] W:=⟨[],⟨rfl,rfl⟩,rfl,rfl,rfl,Nat.le_refl _,fun _ _ h=>h,.nil,fun _ h=>by (cases h),fun _ h=>by (cases h),Nat.zero_le _⟩
theorem full0_below {W w':World} {R':Fz} {l:List As} (hR:(full0 W).le R') (hs:St R' l w'):Go.RowKit.Below W.heap.size W w':=by
 have hb:=hs.base
 have e:R'.w0 = { W with drawn:=0 }:=hR.1.symm
 refine ⟨?_,?_,?_,?_,fun k hk=>?_⟩
 ·rw [hb.os,e]
 ·rw [hb.tape,e]
 ·rw [hb.output,e]
 ·have:=hb.size; rw [e] at this; exact this
 ·obtain ⟨o,ho⟩:∃ o,W.heap[k]? = some o:=⟨_,Array.getElem?_eq_getElem hk⟩
  rw [ho,hb.frz k o (hR.2 k o ho)]
theorem law_walk0 {P:Program} {f:FuncId} {vs:List VP} (hm:∀ p∈vs,MemMono p) (h:Tr P f vs [lax] (γ:=Unit) (fun _=>True) (fun _=>eq (.bool true)) (fun _=>[lax])) {W:World} {us:List Value} (hu:Cs.h (full W) vs us):Calls P f us.toArray W fun e w'=>e = .returned (.bool true)∧Go.RowKit.Below W.heap.size W w':=
 (h (full0 W) [] W us (Cs.mm (R:=full W) (R':=full0 W) (fun _ _ h=>h) hu hm) (full0_st W)).mono fun _ _ ⟨_,_,_,_,h1,h2,h3,h4⟩=>⟨by rw [h2,h3],full0_below h1 h4⟩
def npv:VP:=⟨fun _ v=>∃ a,v = .pointer (some a),fun _ h=>h⟩
section
variable {P:Program} {ops:Array Oper} {n:Nat} {dr:Bool} {R0:Fz} {K:KU} {E:Env} {l:List As} {pend:List (Nat×(List As→Prop))} {rest:List (Nat×Bool)} {i d:Nat}
variable {T:TypeId} {ps:String} {af:Array Edge} {g:Option (Nat×Bool)} {x y:Operand}
theorem gh_np {A:As} {p:Value} (s j:Nat) (hn:NN A p) (hs:find E s = some (eq p)) (hj:l[j]? = some A):Gh n R0 E l (γ:=Unit) (fun _=>True) (fun _=>(s,npv)::E) (fun _=>l):=fun R a w _ ha hst=>by
 refine ⟨(),R,trivial,Fz.le_refl R,⟨ha.1,ha.2.1,fun t q hq=>?_⟩,hst⟩
 simp only [find] at hq
 split at hq
 ·rename_i e
  have:=Nat.eq_of_beq_eq_true e
  subst this
  cases hq
  obtain ⟨m,hm,_⟩:=St.read (List.mem_of_getElem? hj) hst
  obtain ⟨ad,e2⟩:=hn R m hm
  have h1:=ha.2.2 _ _ hs
  exact ⟨ad,h1.trans e2⟩
 ·exact ha.2.2 t q hq
theorem Dv.npe {t td yT:TypeId} (ho:opAt ops.toList i = some ⟨some d,.binOp .eql t x y yT,T,ps,af,g⟩) (hg:GOn ops E g) (hx:opv E x = some npv) (hy:opv E y = some (eq (.pointer none))) (hu:P.underlying t = some (.pointer td))
  (k:Dv P ops n dr R0 K ((d,eq (.bool false))::E) l ((i,tt)::pend) rest):Dv P ops n dr R0 K E l pend ((i,false)::rest):=
 Dv.okd _ _ ho (OpOk.pure hg fun R a w h=>by
  obtain ⟨ad,e⟩:=h x (by simp [Op.operands]) _ hx
  have e1:=h y (by simp [Op.operands]) _ hy
  simp only [eq_p] at e1
  have:=run_eqp (x:=x) (y:=y) (a:=ad) (w:=w) hu
  refine ⟨_,rfl,?_⟩
  simp only [execOp,e,e1,Sem.run_bind] at this ⊢
  rw [this]; rfl) trivial k
theorem Dv.callkx {f:FuncId} {xs:Array Operand} {ts:Array TypeId} {vs:List VP} {pre F:List As} {γ:Type} {ok:γ→Prop} {ret:γ→VP} {post:γ→List As} {dst:Option Nat} (l2:γ→List As) (ho:opAt ops.toList i = some ⟨dst,.call ⟨.value x,xs,ts⟩,T,ps,af,g⟩) (hg:GOn ops E g)
  (hx:opv E x = some (eq (.func (.func f) #[] #[]))) (hc:callable P f = true) (hv:opvs E xs.toList = some vs) (ht:Tr P f vs pre ok ret post) (hl:l.Perm (pre++F)) (h2:(fun b=>post b++F) = l2)
  (hp:dr = true→∀ z∈pend,((Region.before ops).getD i 0).testBit z.1 = true∨∀ b,ok b→z.2 (l2 b))
  (k:∀ b,ok b→Dv P ops n dr R0 K (Sp.ext E dst (ret b)) (l2 b) pend rest) (hkb:K.bar E l pend ((i,true)::rest):=by first | exact trivial | assumption):Dv P ops n dr R0 K E l pend ((i,true)::rest):=by
 subst h2
 exact .bar _ ok ret (fun b=>post b++F) (at_of ho) (fun R a w _ _ hs hst K Q hk=>by
  have e:=hs.op (x:=x) (by simp [Op.operands,Call.operands]) hx
  simp only [eq_p] at e
  refine runs_call (R:=R) (f:=f) (cap:=#[]) (fst:=#[]) rfl (wanted_on hs hg) hc rfl e ?_
  have:=opvs_ok (fun x hx p hp=>hs.op (by simp [Op.operands,Call.operands]; exact .inr (by simpa using hx)) hp) hv
  refine (ht R F w _ (by simpa using this) (St.permL hl hst)).mono ?_
  rintro e w' ⟨b,R',v,hb,hR,he,hv,hst'⟩
  exact ⟨v,he,hk b R' v w' hb hR hv hst'⟩) hp k hkb
end
section
variable {γ:Type} {ok:γ→Prop} {L:γ→List As} {pend:List (Nat×(List As→Prop))}
theorem pg_nil:∀ x∈([]:List (Nat×(List As→Prop))),∀ g,ok g→x.2 (L g):=fun _ h=>by cases h
theorem pg_cons {i:Nat} {q:List As→Prop} (h:∀ g,q (L g)) (k:∀ x∈pend,∀ g,ok g→x.2 (L g)):∀ x∈(i,q)::pend,∀ g,ok g→x.2 (L g):=fun x hx g hg=>by
 rcases List.mem_cons.1 hx with rfl | hx
 ·exact h g
 ·exact k x hx g hg
end
def allO {γ:Type} (f:γ→Option Bool):List γ→Option Bool
 | []=>some true
 | e::l=>(f e).bind fun b=>(allO f l).bind fun c=>some (b && c)
theorem allO_get {γ:Type} {f:γ→Option Bool}:∀ {l:List γ} {r:Bool} {j:Nat} {e:γ},allO f l = some r→l[j]? = some e→∃ b,f e = some b
 | [],_,_,_,_,h=>by simp at h
 | a::l,r,j,e,h,hj=>by
  unfold allO at h
  cases h1:f a with
  | none=>rw [h1] at h; cases h
  | some b=>
   rw [h1] at h
   cases j with
   | zero=>cases hj; exact ⟨b,h1⟩
   | succ j=>
    cases h2:allO f l with
    | none=>rw [h2] at h; cases h
    | some c=>exact allO_get h2 (by simpa using hj)
theorem allO_false {γ:Type} {f:γ→Option Bool}:∀ {l:List γ} {r:Bool} {j:Nat} {e:γ},allO f l = some r→l[j]? = some e→f e = some false→r = false
 | [],_,_,_,_,h,_=>by simp at h
 | a::l,r,j,e,h,hj,hf=>by
  unfold allO at h
  cases h1:f a with
  | none=>rw [h1] at h; cases h
  | some b=>
   rw [h1] at h
   cases h2:allO f l with
   | none=>rw [h2] at h; cases h
   | some c=>
    rw [h2] at h
    have h:(b && c) = r:=Option.some.inj h
    cases j with
    | zero=>cases hj; rw [hf] at h1; cases h1; exact h.symm
    | succ j=>rw [allO_false h2 (by simpa using hj) hf] at h; rw [← h]; simp
theorem allO_true {γ:Type} {f:γ→Option Bool}:∀ {l:List γ} {r:Bool},allO f l = some r→(∀ (j:Nat) (e:γ),l[j]? = some e→f e = some true)→r = true
 | [],_,h,_=>(Option.some.inj h).symm
 | a::l,r,h,hf=>by
  unfold allO at h
  rw [hf 0 a rfl] at h
  cases h2:allO f l with
  | none=>rw [h2] at h; cases h
  | some c=>
   rw [h2] at h
   have h:(true && c) = r:=Option.some.inj h
   rw [← h,allO_true h2 (fun j e hj=>hf (j + 1) e (by simpa using hj))]; rfl
end Go.Sp
