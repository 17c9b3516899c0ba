import Derived.Test.YtelcbdmigiacpaaGreatConA2
import Derived.Test.YtelcbdmigiacpaaGreatConS
set_option linter.all false
namespace Go.Sp
open Go Go.Proofs Go.Sort
section
variable {γ β:Type}
def eD (m:List γ) (f:γ->Option β) (is:List Nat):List β:=is.filterMap λi=>(m[i]?).bind f
theorem ED {m:List γ} {f:γ->Option β} {is:List Nat} {j:Nat} {e:γ} (h:m[j]? = some e):eD m f (is++[j])=eD m f is++(f e).toList:=by
 unfold eD
 rw [List.filterMap_append]
 congr 1
 simp only [List.filterMap_cons,h,Option.bind_some,List.filterMap_nil]
 cases f e <;> rfl
theorem o7 {m:List γ} {f:γ->Option β} {is:List Nat} {j:Nat} {e:γ} {b:β} (h:m[j]? = some e) (hb:f e=some b):eD m f is++[b]=eD m f (is++[j]):=by rw [ED h,hb];rfl
theorem qJ {m:List γ} {f:γ->Option β} {is:List Nat}:(eD m f is).length<=is.length:=List.length_filterMap_le _ _
theorem yQ:∀ {m:List γ} {f:γ->Option β},eD m f (List.range m.length)=m.filterMap f
 | [],_=>rfl
 | e::m,f=>by
  rw [List.length_cons,List.range_succ_eq_map]
  have h:=yQ (m:=m) (f:=f)
  unfold eD at h ⊢
  rw [List.filterMap_cons,List.filterMap_map]
  simp only [List.getElem?_cons_zero,Option.bind_some]
  have e2:((λi=>((e::m)[i]?).bind f) ∘ Nat.succ)=λi=>(m[i]?).bind f:=by funext i;simp
  rw [e2,h,List.filterMap_cons]
theorem pP {m:List γ} {f:γ->Option β} {is:List Nat} (h:is.Perm (List.range m.length)):(eD m f is).Perm (m.filterMap f):=by
 rw [<- yQ];exact h.filterMap _
end
section
variable {α:Type}
theorem qG {le:α->α->Prop} (ha:∀ x y,le x y->le y x->x=y):∀ {xs ys:List α},xs.Perm ys->xs.Pairwise le->ys.Pairwise le->xs=ys
 | [],ys,h,_,_=>(List.nil_perm.1 h).symm
 | x::xs,[],h,_,_=>by simpa using h.length_eq
 | x::xs,y::ys,h,h1,h2=>by
  rw [List.pairwise_cons] at h1 h2
  have e:x=y:=by
   have m1:x∈y::ys:=h.mem_iff.1 (List.mem_cons_self ..)
   have m2:y∈x::xs:=h.mem_iff.2 (List.mem_cons_self ..)
   rcases List.mem_cons.1 m1 with e | m1
   ·exact e
   ·rcases List.mem_cons.1 m2 with e | m2
    ·exact e.symm
    ·exact ha _ _ (h1.1 _ m2) (h2.1 _ m1)
  subst e
  rw [qG ha (List.Perm.cons_inv h) h1.2 h2.2]
variable {cf:α->α->Int}
theorem uB (hO:SWO (ltOf cf)) (xs:List α):(lW cf xs).Pairwise (λx y=>ltOf cf y x=false):=by
 rw [nE]
 have h:=List.pairwise_mergeSort (le:=λx y=>!ltOf cf y x) (λa b c h1 h2=>by
  simp only [Bool.not_eq_true'] at h1 h2 ⊢
  exact hO.ntrans c b a h2 h1) (λa b=>by
  cases h1:ltOf cf b a with
  | false=>simp
  | true=>
   have:ltOf cf a b=false:=by
    cases h2:ltOf cf a b with
    | false=>rfl
    | true=>have h3:=hO.trans _ _ _ h1 h2;rw [hO.irrefl] at h3;cases h3
   rw [this];rfl) xs
 exact h.imp λ{a b} h=>by simpa using h
theorem oD (xs:List α):(lW cf xs).Perm xs:=by rw [nE];exact List.mergeSort_perm _ _
theorem Cp (hO:SWO (ltOf cf)) (hT:∀ x y,ltOf cf x y=false->ltOf cf y x=false->x=y) {xs ys:List α} (h:xs.Perm ys):lW cf xs=lW cf ys:=
 qG (λx y h1 h2=>hT x y h2 h1) ((oD xs).trans (h.trans (oD ys).symm)) (uB hO xs) (uB hO ys)
end
theorem Cj {x y:BA} (h1:il x y=false) (h2:il y x=false):x=y:=mQ h1 h2
theorem xG {xs ys:List BA} (h:xs.Perm ys):aY xs=aY ys:=
 qG (λ_ _ h1 h2=>Cj h2 h1) ((sT xs).trans (h.trans (sT ys).symm)) (yt xs) (yt ys)
section
variable {κ α:Type} [DecidableEq κ] {kv:κ->Value} {O:OV->α->As} {v:Value} {m:List (κ×α)} {ps:List OV} {k:κ} {p:OV} {l r:List As} {e:κ×α} {j:Nat}
def mG (O:OV->α->As) (m:List (κ×α)) (ps:List OV) (j:Nat):As:=⟨λR mem=>Bs R mem ((rY O m ps).eraseIdx j),λhR h=>h.mono hR⟩
theorem Bv (hj:m[j]? = some e) (hp:ps[j]? = some p):(rY O m ps)[j]? = some (O p e.2):=by
 unfold rY;rw [List.getElem?_zipWith,hj,hp]
theorem Gv (hj:m[j]? = some e) (hp:ps[j]? = some p):(aU m ps)[j]? = some (e.1,p):=by
 unfold aU;rw [List.getElem?_zipWith,hj,hp]
theorem r6 (h:yp m ps) (hj:j<(aU m ps).length):∃ e p,m[j]? = some e/\ps[j]? = some p/\(aU m ps)[j]? = some (e.1,p):=by
 rw [mR h.1] at hj
 have h2:j<ps.length:=by rw [h.1];exact hj
 exact⟨m[j],ps[j],gE hj,gE h2,Gv (gE hj) (gE h2)⟩
theorem B1 (hj:m[j]? = some e) (hp:ps[j]? = some p) (hl:l.Perm (lQ O m ps::r)):∀ R w,St R l w->∃ _:Unit,True/\St R (O p e.2::mG O m ps j::r) w:=λR w h=>by
 obtain⟨mem,hb,hw⟩:=(h.fY hl).nf
 obtain⟨m1,m2,h1,h2,hq⟩:=hb
 obtain⟨m3,m4,h3,h4,hq2⟩:=Bs.fY (r7 (Bv (O:=O) hj hp)) h1
 refine⟨(),trivial,St.nh (m:=m3++(m4++m2)) ⟨m3,m4++m2,h3,⟨m4,m2,h4,h2,List.Perm.refl _⟩,List.Perm.refl _⟩ (hw.perm ?_)⟩
 rw [<- List.append_assoc]
 exact hq.trans (hq2.append_right _)
theorem xL (hj:m[j]? = some e) (hp:ps[j]? = some p) (hl:l.Perm (O p e.2::mG O m ps j::r)):∀ R w,St R l w->∃ _:Unit,True/\St R (lQ O m ps::r) w:=λR w h=>by
 obtain⟨mem,hb,hw⟩:=(h.fY hl).nf
 obtain⟨m1,m2,h1,⟨m3,m4,h3,h4,hq2⟩,hq⟩:=hb
 refine⟨(),trivial,St.nh (m:=(m1++m3)++m4) ⟨m1++m3,m4,Bs.fY (r7 (Bv (O:=O) hj hp)).symm ⟨m1,m3,h1,h3,List.Perm.refl _⟩,h4,List.Perm.refl _⟩ (hw.perm ?_)⟩
 rw [List.append_assoc]
 exact hq.trans (hq2.append_left _)
end
end Go.Sp
namespace Go.Sp
open Go
theorem Tr.HO {P:Program} {f:FuncId} {vs:List VP} {A L:List As} {ret:VP} (h:Tr P f vs (A++[pk L]) (γ:=Unit) (λ_=>True) (λ_=>ret) (λ_=>A++[pk L])):Tr P f vs (A++L) (γ:=Unit) (λ_=>True) (λ_=>ret) (λ_=>A++L):=λR F w us hu hst=>by
 have h1:(A++L++F).Perm (L++(A++F)):=by
  rw [List.append_assoc,<- List.append_assoc L A F,<- List.append_assoc]
  exact List.perm_append_comm.append_right _
 obtain⟨_,_,hs⟩:=E5 h1 R w hst
 have h2:(pk L::(A++F)).Perm (A++[pk L]++F):=by
  rw [List.append_assoc]
  exact List.perm_middle.symm
 refine(h R F w us hu (hs.fY h2)).mono ?_
 rintro e w' ⟨g,R',v,hg,hR,he,hv,hst'⟩
 refine⟨g,R',v,hg,hR,he,hv,?_⟩
 obtain⟨_,_,hs2⟩:=xU (L:=L) (l:=pk L::(A++F)) 0 rfl R' w' (hst'.fY h2.symm)
 exact hs2.fY h1.symm
end Go.Sp
namespace Go.Sp
open Go
section
variable {R:Fz} {l:List As} {α:Type} {Kd:Kd α} {v:Value} {xs:List α}
theorem oT (j:Nat) (hj:l[j]? = some (own Kd v xs)) (h0:xs≠[]):∀ R w,St R l w->∃ g:Nat×Nat×Nat,(v = .slice (some ⟨g.1,g.2.1,none⟩) xs.length g.2.2/\xs.length<=g.2.2)/\St R l w:=λR w h=>by
 obtain⟨mm,hm,_⟩:=h.eF hj
 rcases hm with⟨_,_,e3,_⟩|⟨b,off,c,bT,fr,cs,e3,hlc,_⟩
 ·exact absurd e3 h0
 ·exact⟨(b,off,c),⟨e3,hlc⟩,h⟩
end
theorem Tr.zF {P:Program} {f:FuncId} {vs:List VP} {A L:List As} {γ:Type} {ok:γ->Prop} {ret:γ->VP} {B:γ->List As} (h:Tr P f vs (A++[pk L]) ok ret (λg=>[pk L]++B g)):Tr P f vs (A++L) ok ret (λg=>L++B g):=λR F w us hu hst=>by
 have h1:(A++L++F).Perm (L++(A++F)):=by
  rw [List.append_assoc,<- List.append_assoc L A F,<- List.append_assoc]
  exact List.perm_append_comm.append_right _
 obtain⟨_,_,hs⟩:=E5 h1 R w hst
 have h2:(pk L::(A++F)).Perm (A++[pk L]++F):=by
  rw [List.append_assoc]
  exact List.perm_middle.symm
 refine(h R F w us hu (hs.fY h2)).mono ?_
 rintro e w' ⟨g,R',v,hg,hR,he,hv,hst'⟩
 refine⟨g,R',v,hg,hR,he,hv,?_⟩
 obtain⟨_,_,hs2⟩:=xU (L:=L) (l:=[pk L]++B g++F) 0 rfl R' w' hst'
 rw [List.append_assoc]
 exact hs2
theorem Cx (z:Array Value) (n:Nat):(Builtin.zeroCells z n).toList.length=n*z.size:=by
 rw [Array.length_toList];simp [Builtin.zeroCells]
theorem u6 (z:Array Value) (n:Nat):(Builtin.zeroCells z (n+1)).toList=z.toList++(Builtin.zeroCells z n).toList:=by
 rw [Nat.add_comm,<- o0,Array.toList_append]
 congr 1
 unfold Builtin.zeroCells
 rw [Nat.one_mul]
 apply List.ext_getElem
 ·simp
 ·intro i h1 h2
  simp only [Array.toList_map,Array.toList_range,List.getElem_map,List.getElem_range]
  simp at h1
  rw [Nat.mod_eq_of_lt h1,getElem!_pos z i h1];rfl
theorem s6 {z:Array Value} (h:∀ u∈z.toList,u.oneCell'=true):∀ m:Nat,∀ u∈(Builtin.zeroCells z m).toList,u.oneCell'=true
 | 0,u,hu=>by simp [Builtin.zeroCells] at hu
 | m+1,u,hu=>by
  rw [u6] at hu
  rcases List.mem_append.1 hu with q | q
  ·exact h u q
  ·exact s6 h m u q
section
variable {P:Program} {ops:Array Oper} {n:Nat} {dr:Bool} {R0:Fz} {K:KU} {E:Env} {l:List As} {pend:List (Nat×(List As->Prop))} {rest:List (Nat×Bool)} {i d:Nat}
variable {T:TypeId} {ps:String} {af:Array Edge} {g:Option (Nat×Bool)} {x y:Operand} {α:Type} {Kd:Kd α} {v:Value} {xs:List α}
theorem Ae {R:Fz} {z:Value} {z0:α} (hz:Kd.enc z0=z.cells.toList.map eq):∀ k:Nat,Cs.h R ((List.replicate k z0).flatMap Kd.enc) (Builtin.zeroCells z.cells k).toList
 | 0=>by simp [Builtin.zeroCells];exact .nil
 | k+1=>by
  rw [u6,List.replicate_succ,List.flatMap_cons,hz]
  exact(mL _).append (Ae hz k)
theorem Dv.GJ {t e:TypeId} {z:Value} {b off p m c c' jj:Nat} (z0:α) (ho:opAt ops.toList i=some ⟨none,.call ⟨.builtin .clear,#[x],#[t]⟩,T,ps,af,g⟩) (hg:fZ ops E g) (hx:opv E x=some (eq (.slice (some ⟨b,off+p*Kd.sz,none⟩) m c')))
  (hu:P.underlying t=some (.slice e)) (hz:mz P e=some z) (hzs:z.cells.size=Kd.sz) (hz0:Kd.enc z0=z.cells.toList.map eq) (h1c:∀ u∈z.cells.toList,u.oneCell'=true) (hv:v = .slice (some ⟨b,off,none⟩) xs.length c) (hm:xs.length-p=m) (hp0:p<xs.length) (hjj:l[jj]? = some (own Kd v xs))
  (hp:dr=true->∀ z∈pend,((Region.before ops).getD i 0).testBit z.1=true\/∀ _:Unit,z.2 (l.set jj (own Kd v (xs.take p++List.replicate m z0))))
  (k:Dv P ops n dr R0 K E (l.set jj (own Kd v (xs.take p++List.replicate m z0))) pend rest) (hkb:K.kZ E l pend ((i,true)::rest):=by first | exact trivial | assumption):Dv P ops n dr R0 K E l pend ((i,true)::rest):=
 .kZ _ (γ:=Unit) (λ_=>True) (λ_=>eq (.tuple #[])) (λ_=>l.set jj (own Kd v (xs.take p++List.replicate m z0))) (fC ho) (iV.val hg λR a w h hst=>by
  have e1:=h x (by simp [Op.operands,Call.operands]) _ hx
  simp only [ez] at e1
  obtain⟨mm,hm2,hk⟩:=hst.eF hjj
  rcases hm2 with⟨_,_,e3,_⟩|⟨b',off',c2,bT,fr,cs,e3,hlc,hmm,hcs,hfr,hh⟩
  ·subst e3;simp at hp0
  rw [hv] at e3
  cases e3
  subst hmm
  have hb:=(je.base hk).get
  have hlen:(Builtin.zeroCells z.cells m).toList.length=m*Kd.sz:=by rw [Cx,hzs]
  have h4:p*Kd.sz+m*Kd.sz=xs.length*Kd.sz:=by rw [<- Nat.add_mul];congr 1;omega
  have h5:=Nat.mul_le_mul_right Kd.sz hlc
  have hone:=s6 h1c m
  obtain⟨w',hr,hb2⟩:=oH (P:=P) (Builtin.zeroCells z.cells m).toList (off+p*Kd.sz) 0 hb hone om (H6 hfr)
  have hl2:(xs.take p++List.replicate m z0).length=xs.length:=by rw [List.length_append,List.length_take,List.length_replicate];omega
  refine⟨(),R,.tuple #[],w',trivial,Fz.le_refl R,rfl,St.shut hjj (.inr ⟨b,off,c,bT,fr,_,by rw [hl2];exact hv,by rw [hl2];exact hlc,rfl,by rw [rv om];exact hcs,hfr,?_⟩) (je.to (Fz.le_refl R) (λx hx=>hb2 R x hx) hk),?_⟩
  ·rw [hl2,Nat.add_zero,sP om om]
   have hc:=Cs.gN (off:=p*Kd.sz) hh (Ae (R:=R) hz0 m)
   have e5:oO (xs.flatMap Kd.enc) (p*Kd.sz) ((List.replicate m z0).flatMap Kd.enc)=(xs.take p++List.replicate m z0).flatMap Kd.enc:=by
    have h6:xs.flatMap Kd.enc=(xs.take p).flatMap Kd.enc++(xs.drop p).flatMap Kd.enc:=by rw [<- List.flatMap_append,List.take_append_drop]
    have h7:((xs.take p).flatMap Kd.enc).length=p*Kd.sz:=by rw [cO,List.length_take,Nat.min_eq_left om]
    have h8:((List.replicate m z0).flatMap Kd.enc).length=m*Kd.sz:=by rw [cO,List.length_replicate]
    unfold oO
    rw [List.flatMap_append,h8,h4,List.drop_of_length_le (by rw [cO];exact Nat.le_refl _),List.append_nil,h6,List.take_left' h7]
   rw [<- e5];exact hc
  ·have hm0:m≠0:=om
   have hzr:=lh (P:=P) (w:=w) hz
   obtain⟨m',rfl⟩:=Nat.exists_eq_succ_of_ne_zero hm0
   simp [execOp,resolve,invoke,builtin,Builtin.clear_,e1,run_underlying hu,hzr,hr]) (λe z hz=>(hp e z hz).imp id λh b _=>h b) (λ_ _=>k) hkb
end
end Go.Sp
namespace Go.Sp
open Go
theorem aggq {R:Fz} {u:Value}:∀ {ps:Cs} {vs:List Value},ps=vs.map eq->(agg ps).p R u->u = .agg vs.toArray:=by
 rintro ps vs rfl ⟨cs,rfl,h⟩
 congr 2
 have key:∀ {vs cs:List Value},Cs.h R (vs.map eq) cs->cs=vs:=by
  intro vs
  induction vs with
  | nil=>intro cs h;cases h;rfl
  | cons v vs ih=>intro cs h;cases h with | cons h1 h2=>simp only [ez] at h1;rw [h1,ih h2]
 exact key h
section
variable {P:Program} {ops:Array Oper} {n:Nat} {dr:Bool} {R0:Fz} {K:KU} {E:Env} {l:List As} {pend:List (Nat×(List As->Prop))} {rest:List (Nat×Bool)} {i d:Nat}
variable {T:TypeId} {ps:String} {af:Array Edge} {g:Option (Nat×Bool)} {x y y2:Operand} {κ α:Type} [DecidableEq κ] {kv:κ->Value} {vp:α->VP} {v:Value} {m:List (κ×α)} {k:κ}
theorem Dv.IQ {qy:VP} {t kt et:TypeId} {z:Value} (df:α) (ho:opAt ops.toList i=some ⟨some d,.lookup t x y true,T,ps,af,g⟩) (hg:fZ ops E g) (hx:opv E x=some (eq v)) (hA:mp kv vp v m∈l) (hy:opv E y=some qy) (hqy:∀ R u,qy.p R u->u=kv k)
  (hu:P.underlying t=some (.map kt et)) (hk:qq P kt kv) (hz:mz P et=some z) (hdf:∀ R,(vp df).p R z)
  (h:Dv P ops n dr R0 K ((d,lg [vp ((mget m k).getD df),eq (.bool (mget m k).isSome)])::E) l ((i,(mp kv vp v m∈·))::pend) rest):Dv P ops n dr R0 K E l pend ((i,false)::rest):=
 Dv.mg _ _ ho (eV.val hg λR a w l h hA hst=>by
  have e1:=h x (by simp [Op.operands]) _ hx
  have e2:=hqy _ _ (h y (by simp [Op.operands]) _ hy)
  simp only [ez] at e1
  obtain⟨mem,⟨r,clock,es,e,hm,he,_⟩,hw⟩:=St.read hA hst
  have hr:=jg (P:=P) (hw (r,_) (by rw [hm];exact List.mem_cons_self ..))
  have hf:=hk.find w k (m.map (·.1)) es (mw he)
  have hc:=hk.chk w es.toArray.isEmpty k
  cases hq:fres k (m.map (·.1)) es 0 with
  | none=>
   obtain⟨h1,_⟩:=mn he hq
   rw [hq] at hf
   exact⟨R,.tuple #[z,.bool false],w,Fz.le_refl R,⟨[z,.bool false],rfl,.cons (by rw [h1];exact hdf R) (.cons (by rw [h1];rfl) .nil)⟩,hst,by
    simp only [List.isEmpty_toArray] at hc
    simp [execOp,Instr.lookup,e1,e2,e,run_underlying hu,hr,hf,hc,lh hz]⟩
  | some ju=>
   obtain⟨j,u⟩:=ju
   obtain⟨dd,a',_,h2,h3,_⟩:=mf he hq
   rw [hq] at hf
   exact⟨R,.tuple #[u,.bool true],w,Fz.le_refl R,⟨[u,.bool true],rfl,.cons (by rw [h2];exact h3) (.cons (by rw [h2];rfl) .nil)⟩,hst,by
    simp only [List.isEmpty_toArray] at hc
    simp [execOp,Instr.lookup,e1,e2,e,run_underlying hu,hr,hf,hc]⟩) hA h
theorem Dv.Ix {qy:VP} {t kt et:TypeId} {z:Value} (df:α) (ho:opAt ops.toList i=some ⟨some d,.lookup t x y false,T,ps,af,g⟩) (hg:fZ ops E g) (hx:opv E x=some (eq v)) (hA:mp kv vp v m∈l) (hy:opv E y=some qy) (hqy:∀ R u,qy.p R u->u=kv k)
  (hu:P.underlying t=some (.map kt et)) (hk:qq P kt kv) (hz:mz P et=some z) (hdf:∀ R,(vp df).p R z)
  (h:Dv P ops n dr R0 K ((d,vp ((mget m k).getD df))::E) l ((i,(mp kv vp v m∈·))::pend) rest):Dv P ops n dr R0 K E l pend ((i,false)::rest):=
 Dv.mg _ _ ho (eV.val hg λR a w l h hA hst=>by
  have e1:=h x (by simp [Op.operands]) _ hx
  have e2:=hqy _ _ (h y (by simp [Op.operands]) _ hy)
  simp only [ez] at e1
  obtain⟨mem,⟨r,clock,es,e,hm,he,_⟩,hw⟩:=St.read hA hst
  have hr:=jg (P:=P) (hw (r,_) (by rw [hm];exact List.mem_cons_self ..))
  have hf:=hk.find w k (m.map (·.1)) es (mw he)
  have hc:=hk.chk w es.toArray.isEmpty k
  simp only [List.isEmpty_toArray] at hc
  cases hq:fres k (m.map (·.1)) es 0 with
  | none=>
   obtain⟨h1,_⟩:=mn he hq
   rw [hq] at hf
   exact⟨R,z,w,Fz.le_refl R,by rw [h1];exact hdf R,hst,by
    simp [execOp,Instr.lookup,e1,e2,e,run_underlying hu,hr,hf,hc,lh hz]⟩
  | some ju=>
   obtain⟨j,u⟩:=ju
   obtain⟨dd,a',_,h2,h3,_⟩:=mf he hq
   rw [hq] at hf
   exact⟨R,u,w,Fz.le_refl R,by rw [h2];exact h3,hst,by
    simp [execOp,Instr.lookup,e1,e2,e,run_underlying hu,hr,hf,hc]⟩) hA h
theorem Dv.Fw {qy:VP} {t kt et:TypeId} {jj:Nat} (a':α) (ho:opAt ops.toList i=some ⟨none,.mapUpdate t x y y2,T,ps,af,g⟩) (hg:fZ ops E g) (hx:opv E x=some (eq v)) (hjj:l[jj]? = some (mp kv vp v m)) (hy:opv E y=some qy) (hqy:∀ R u,qy.p R u->u=kv k) (hy2:opv E y2=some (vp a'))
  (hu:P.underlying t=some (.map kt et)) (hk:qq P kt kv)
  (hp:dr=true->∀ z∈pend,((Region.before ops).getD i 0).testBit z.1=true\/∀ _:Unit,z.2 (l.set jj (mp kv vp v (mput m k a'))))
  (h:Dv P ops n dr R0 K E (l.set jj (mp kv vp v (mput m k a'))) pend rest) (hkb:K.kZ E l pend ((i,true)::rest):=by first | exact trivial | assumption):Dv P ops n dr R0 K E l pend ((i,true)::rest):=
 .kZ _ (γ:=Unit) (λ_=>True) (λ_=>eq undef) (λ_=>l.set jj (mp kv vp v (mput m k a'))) (fC ho) (iV.act hg λR a w h hst=>by
  have e1:=h x (by simp [Op.operands]) _ hx
  have e2:=hqy _ _ (h y (by simp [Op.operands]) _ hy)
  have e3:=h y2 (by simp [Op.operands]) _ hy2
  simp only [ez] at e1
  obtain⟨mem,⟨r,clock,es,e,hm,he,hpw,hcl⟩,hk2⟩:=hst.eF hjj
  subst hm
  have hh:=(je.base hk2).get
  have hr:=jg (P:=P) hh
  have hf:=hk.find w k (m.map (·.1)) es (mw he)
  have hc:=hk.chk w false k
  have hst2:=hk.stay w k
  cases hq:fres k (m.map (·.1)) es 0 with
  | none=>
   obtain⟨_,h1⟩:=mn he hq
   rw [hq] at hf
   refine⟨(),R,{ w with heap:=w.heap.setIfInBounds r (.map (es++[({ key:=kv k,val:=a.eval y2,born:=clock }:MapEntry)]).toArray (clock+1)) },trivial,Fz.le_refl R,St.shut hjj ⟨r,clock+1,es++[({ key:=kv k,val:=a.eval y2,born:=clock }:MapEntry)],e,rfl,h1 a' ({ key:=kv k,val:=a.eval y2,born:=clock }:MapEntry) rfl e3,?_,?_⟩ (je.to (Fz.le_refl R) (λx hx=>hx.obj) hk2),?_⟩
   ·exact List.pairwise_append.2 ⟨hpw,List.pairwise_singleton _ _,λx hx y hy=>by rw [List.mem_singleton.1 hy];exact hcl x hx⟩
   ·intro x hx
    rcases List.mem_append.1 hx with hx | hx
    ·exact Nat.lt_succ_of_lt (hcl x hx)
    ·simp at hx;subst hx;exact Nat.lt_succ_self _
   ·simp [execOp,Instr.mapUpdate,e1,e2,e,run_underlying hu,hr,hf,hc,setObj,Sem.run,hh]
  | some ju=>
   obtain⟨j,u⟩:=ju
   obtain⟨dd,a2,hj,_,_,⟨q,hq1,hq2⟩,_,h7⟩:=mf he hq
   simp only [Nat.zero_add] at hj
   subst hj
   rw [hq] at hf
   have hkk:(((es.toArray)[j]?).map (·.key)).getD (kv k)=kv k:=by simp [hq1,hq2]
   refine⟨(),R,{ w with heap:=w.heap.setIfInBounds r (.map (es.modify j λe=>{ e with key:=kv k,val:=a.eval y2 }).toArray clock) },trivial,Fz.le_refl R,St.shut hjj ⟨r,clock,es.modify j λe=>{ e with key:=kv k,val:=a.eval y2 },e,rfl,h7 a' _ (λe=>⟨rfl,e3⟩),?_,?_⟩ (je.to (Fz.le_refl R) (λx hx=>hx.obj) hk2),?_⟩
   ·have hb:(es.modify j λe=>{ e with key:=kv k,val:=a.eval y2 }).map (·.born)=es.map (·.born):=by
     apply List.ext_getElem?;intro i
     simp only [List.getElem?_map,List.getElem?_modify]
     cases es[i]? <;> simp;split <;> rfl
    have h8:(es.map (·.born)).Pairwise (· < ·):=List.pairwise_map.2 hpw
    rw [<- hb] at h8
    exact List.pairwise_map.1 h8
   ·intro x hx
    have hb:(es.modify j λe=>{ e with key:=kv k,val:=a.eval y2 }).map (·.born)=es.map (·.born):=by
     apply List.ext_getElem?;intro i
     simp only [List.getElem?_map,List.getElem?_modify]
     cases es[i]? <;> simp;split <;> rfl
    have:x.born∈es.map (·.born):=by rw [<- hb];exact List.mem_map.2 ⟨x,hx,rfl⟩
    obtain⟨z,hz,e9⟩:=List.mem_map.1 this
    rw [<- e9];exact hcl z hz
   ·simp only [List.getElem?_toArray] at hkk
    simp [execOp,Instr.mapUpdate,e1,e2,e,run_underlying hu,hr,hf,hc,hkk,hst2,setObj,Sem.run,hh]) (λe z hz=>(hp e z hz).imp id λh b _=>h b) (λ_ _=>h) hkb
theorem Dv.mdlq {qy:VP} {t kt et tk:TypeId} {jj:Nat} (ho:opAt ops.toList i=some ⟨none,.call ⟨.builtin .delete,#[x,y],#[t,tk]⟩,T,ps,af,g⟩) (hg:fZ ops E g) (hx:opv E x=some (eq v)) (hjj:l[jj]? = some (mp kv vp v m)) (hy:opv E y=some qy) (hqy:∀ R u,qy.p R u->u=kv k)
  (hu:P.underlying t=some (.map kt et)) (hk:qq P kt kv)
  (hp:dr=true->∀ z∈pend,((Region.before ops).getD i 0).testBit z.1=true\/∀ _:Unit,z.2 (l.set jj (mp kv vp v (jV m k))))
  (h:Dv P ops n dr R0 K E (l.set jj (mp kv vp v (jV m k))) pend rest) (hkb:K.kZ E l pend ((i,true)::rest):=by first | exact trivial | assumption):Dv P ops n dr R0 K E l pend ((i,true)::rest):=
 .kZ _ (γ:=Unit) (λ_=>True) (λ_=>eq (.tuple #[])) (λ_=>l.set jj (mp kv vp v (jV m k))) (fC ho) (iV.val hg λR a w h hst=>by
  have e1:=h x (by simp [Op.operands,Call.operands]) _ hx
  have e2:=hqy _ _ (h y (by simp [Op.operands,Call.operands]) _ hy)
  simp only [ez] at e1
  obtain⟨mem,⟨r,clock,es,e,hm,he,hpw,hcl⟩,hk2⟩:=hst.eF hjj
  subst hm
  have hh:=(je.base hk2).get
  have hr:=jg (P:=P) hh
  have hf:=hk.find w k (m.map (·.1)) es (mw he)
  have hc:=hk.chk w es.isEmpty k
  have hdn:∀ (m:List (κ×α)),mget m k=none->jV m k=m:=by
   intro m
   induction m with
   | nil=>intro _;rfl
   | cons e m ih=>
    intro hn
    simp only [mget] at hn
    split at hn
    ·cases hn
    ·rename_i hne;simp only [jV,if_neg hne,ih hn]
  cases hq:fres k (m.map (·.1)) es 0 with
  | none=>
   obtain⟨h1,_⟩:=mn he hq
   rw [hq] at hf
   refine⟨(),R,.tuple #[],{ w with heap:=w.heap.setIfInBounds r (.map es.toArray clock) },trivial,Fz.le_refl R,rfl,St.shut hjj ⟨r,clock,es,e,rfl,by rw [hdn m h1];exact he,hpw,hcl⟩ (je.to (Fz.le_refl R) (λx hx=>hx.obj) hk2),?_⟩
   simp [execOp,resolve,invoke,builtin,Builtin.delete_,e1,e2,e,run_underlying hu,hr,hf,hc,setObj,Sem.run,hh]
  | some ju=>
   obtain⟨j,u⟩:=ju
   obtain⟨dd,a2,hj,_,_,_,h6,_⟩:=mf he hq
   simp only [Nat.zero_add] at hj
   subst hj
   rw [hq] at hf
   refine⟨(),R,.tuple #[],{ w with heap:=w.heap.setIfInBounds r (.map (es.eraseIdx j).toArray clock) },trivial,Fz.le_refl R,rfl,St.shut hjj ⟨r,clock,es.eraseIdx j,e,rfl,h6,hpw.sublist (List.eraseIdx_sublist ..),λx hx=>hcl x ((List.eraseIdx_sublist ..).subset hx)⟩ (je.to (Fz.le_refl R) (λx hx=>hx.obj) hk2),?_⟩
   simp [execOp,resolve,invoke,builtin,Builtin.delete_,e1,e2,e,run_underlying hu,hr,hf,hc,setObj,Sem.run,hh]) (λe z hz=>(hp e z hz).imp id λh b _=>h b) (λ_ _=>h) hkb
end
structure HR (P:Program) (cs:Array Value) (f:Field):Prop where
 td:∃ td,P.underlying f.type=some td/\(td = .string\/td = .bool\/∃ k,td = .int k)
 part:∃ v,∀ w,(part f.type cs f.offset).run P w = .ok v w
theorem DZ {P:Program} {w:World} {b:Bool} {t:TypeId} {td:TypeDesc} {v:Value} (n:Nat) (hu:P.underlying t=some td) (h:td = .string\/td = .bool\/∃ k,td = .int k):(Instr.checkKey b (n+1) t v).run P w = .ok () w:=by
 rcases h with rfl | rfl | ⟨k,rfl⟩ <;> simp [Instr.checkKey,run_underlying hu]
theorem wZ {P:Program} {B:Field->PUnit->Sem (ForInStep PUnit)}:∀ {l:List Field},(∀ f∈l,∀ w,(B f ⟨⟩).run P w = .ok (.yield ⟨⟩) w)->∀ w,(forIn l PUnit.unit B:Sem PUnit).run P w = .ok PUnit.unit w
 | [],_,w=>sM
 | f::l,h,w=>by
  rw [List.forIn_cons]
  simp only [Sem.run_bind,h f (List.mem_cons_self ..) w,Result.andThen_ok]
  exact wZ (λg hg=>h g (List.mem_cons_of_mem _ hg)) w
theorem z8 {P:Program} {w:World} {b:Bool} {t:TypeId} {fs:Array Field} {cs:Array Value} (n:Nat) (hu:P.underlying t=some (.struct fs)) (h:∀ f∈fs.toList,HR P cs f):(Instr.checkKey b (n+1+1) t (.agg cs)).run P w = .ok () w:=by
 rw [Instr.checkKey]
 simp only [Sem.run_bind,run_underlying hu,Result.andThen_ok]
 rw [<- Array.forIn_toList,wZ (λf hf w=>?_)]
 ·simp
 ·obtain⟨⟨td,h1,h2⟩,v,h3⟩:=h f hf
  by_cases hn : f.name = "_"
  ·simp [hn]
  ·simp [hn,h3 w,DZ n h1 h2]
theorem si {P:Program} {kt:TypeId} {fs:Array Field} {κ:Type} [DecidableEq κ] {kv:κ->Value} (cs:κ->Array Value) (hu:P.underlying kt=some (.struct fs)) (hv:∀ k,kv k = .agg (cs k)) (hf:∀ k,∀ f∈fs.toList,HR P (cs k) f)
  (he:∀ k c w,(Op.equal kt (kv k) (kv c)).run P w = .ok (decide (k=c)) w) (hs:∀ k,Instr.sameBits 10000 (kv k) (kv k)=true):qq P kt kv:=by
 refine⟨λw k ks es h=>?_,λw b k=>?_,λw k=>?_⟩
 ·have ask:∀ (ks:List κ) (es:List MapEntry) (i:Nat),es.map (·.key)=ks.map kv->(Instr.findAsking kt (kv k) es i).run P w = .ok (fres k ks es i) w:=by
   intro ks
   induction ks with
   | nil=>intro es i h;cases es with
    | nil=>simp [Instr.findAsking,fres]
    | cons e es=>simp at h
   | cons c ks ih=>intro es i h;cases es with
    | nil=>simp at h
    | cons e es=>
     simp only [List.map_cons,List.cons.injEq] at h
     simp only [Instr.findAsking,Sem.run_bind,h.1,he,Result.andThen_ok,fres]
     by_cases hc:c=k
     ·subst hc;simp
     ·rw [if_neg hc,dF (λe=>hc e.symm)]
      simpa using ih es (i+1) h.2
  unfold Instr.findKey
  simp only [Sem.run_bind,run_underlying hu,Result.andThen_ok]
  cases es with
  | nil=>cases ks with
   | nil=>simp [Instr.findNow,fres]
   | cons c ks=>simp at h
  | cons e es=>
   cases ks with
   | nil=>simp at h
   | cons c ks=>
    have h1:e.key=kv c:=by simp only [List.map_cons,List.cons.injEq] at h;exact h.1
    have:Instr.findNow (.struct fs) (kv k) (e::es) 0=none:=by simp [Instr.findNow,Instr.sameNow]
    rw [this]
    exact ask (c::ks) (e::es) 0 h
 ·obtain⟨m,hm⟩:∃ m,10000=m+1+1:=⟨9998,rfl⟩
  rw [hm,hv]
  exact z8 m hu (hf k)
 ·unfold Instr.keyThatStays
  simp [hs k]
theorem all_nil {α:Type} {p:α->Prop}:∀ f∈([]:List α),p f:=λ_ h=>by cases h
theorem all_cons {α:Type} {p:α->Prop} {a:α} {l:List α} (h:p a) (t:∀ f∈l,p f):∀ f∈a::l,p f:=λf hf=>by
 rcases List.mem_cons.1 hf with rfl | hf
 ·exact h
 ·exact t f hf
theorem Bq {α:Type} {o:Option α} (h:o.isSome=true):o.isNone=false:=by cases o <;> first | rfl | cases h
section
variable {α:Type} [Inhabited α] {O:OV->α->As} {l r:List As} {p:OV} {o:Option α} {a:α}
theorem qY (h:o.isNone=false) (j:Nat) (hj:l[j]? = some (O p (o.getD default))):∀ R w,St R l w->∃ _:Unit,True/\St R ([ig O p o]++l.eraseIdx j) w:=λR w hs=>by
 cases o with
 | none=>cases h
 | some a=>
  obtain⟨m,hm,hk⟩:=hs.eF hj
  exact⟨(),trivial,m,hm,je.perm sM hk⟩
theorem sQ (j:Nat) (hj:l[j]? = some (O p a)):∀ R w,St R l w->∃ _:Unit,True/\St R ([ig O p (some a)]++l.eraseIdx j) w:=λR w hs=>by
 obtain⟨m,hm,hk⟩:=hs.eF hj
 exact⟨(),trivial,m,hm,je.perm sM hk⟩
end
end Go.Sp
namespace Go.Sp
open Go
theorem Cs.Jo {R:Fz} {ps:Cs} {l:List Value} (h:ps=l.map eq):Cs.h R ps l:=by rw [h];exact mL l
theorem wb {P : Program} {f : FuncId} {fn : Func} {args : Array Value} {e : Array Value → Sem Value} {v : Value} {w w' : World} (hf : P.funcs[f]? = some fn) (hn : (fn.name == "runtime.NumGoroutine") = false) (hb : fn.body = none) (h1 : (Extern.findNext fn).isNone = true) (h2 : Extern.find fn = some e) (he : (e args).run P w = .ok v w') : (callFunc f args).run P w = .ok (.value v) w' := by
 unfold callFunc
 have h1':Extern.findNext fn=none:=by cases h:Extern.findNext fn <;> simp_all
 have hn' : ¬ fn.name = "runtime.NumGoroutine" := by simpa using hn
 simp [hf,hn',hb,h1',h2,he]
def Xr (P:Program) (f:FuncId) (vs:List VP) (A:As) (ret:VP):Prop:=∀ (R:Fz) (w:World) (us:List Value),Cs.h R vs us->(∃ m,A.p R m/\∀ x∈m,w.heap[x.1]? = some x.2)->∃ v,ret.p R v/\(callFunc f us.toArray).run P w = .ok (.value v) w
def Xb (P:Program) (f:FuncId) (vs:List VP) (b:Nat) (T:TypeId) (ps ps':Cs) (ret:VP):Prop:=∀ (R:Fz) (w:World) (us cs:List Value),Cs.h R vs us->Cs.h R ps cs->w.heap[b]? = some (.cells cs.toArray T)->
 ∃ v w' cs',ret.p R v/\Cs.h R ps' cs'/\(∀ x,iw R ((b,.cells cs.toArray T)::x) w->iw R ((b,.cells cs'.toArray T)::x) w')/\(callFunc f us.toArray).run P w = .ok (.value v) w'
section
variable {P:Program} {ops:Array Oper} {n:Nat} {dr:Bool} {R0:Fz} {K:KU} {E:Env} {l:List As} {pend:List (Nat×(List As->Prop))} {rest:List (Nat×Bool)} {i d:Nat}
variable {T:TypeId} {ps:String} {af:Array Edge} {g:Option (Nat×Bool)} {x y:Operand}
theorem Dv.cextr {f:FuncId} {aas:Array Operand} {ts:Array TypeId} {vs:List VP} {A:As} {ret:VP} (ho:opAt ops.toList i=some ⟨some d,.call ⟨.value (.func f),aas,ts⟩,T,ps,af,g⟩) (hg:fZ ops E g)
  (hv:opvs E aas.toList=some vs) (ht:Xr P f vs A ret) (hA:A∈l) (k:Dv P ops n dr R0 K ((d,ret)::E) l ((i,(A∈·))::pend) rest):Dv P ops n dr R0 K E l pend ((i,false)::rest):=
 Dv.mg _ _ ho (eV.val hg λR a w l hx hA hst=>by
  have h1:=iE (a:=a) (R:=R) (λx hxx p hp=>hx x (by simp [Op.operands,Call.operands];exact .inr (by simpa using hxx)) p hp) hv
  obtain⟨v,hv2,hr⟩:=ht R w _ h1 (St.read hA hst)
  refine⟨R,v,w,Fz.le_refl R,hv2,hst,?_⟩
  have e:aas.map a.eval=(aas.toList.map a.eval).toArray:=by apply Array.ext';simp
  simp [execOp,resolve,Deferred.ofValue,invoke,Act.eval,e,hr]) hA k
theorem Dv.Hl {f:FuncId} {aas:Array Operand} {ts:Array TypeId} {vs:List VP} {b jj:Nat} {bT:TypeId} {qs qs':Cs} {ret:VP} (ho:opAt ops.toList i=some ⟨some d,.call ⟨.value (.func f),aas,ts⟩,T,ps,af,g⟩) (hg:fZ ops E g)
  (hv:opvs E aas.toList=some vs) (ht:Xb P f vs b bT qs qs' ret) (hjj:l[jj]? = some (ar b bT qs))
  (hp:dr=true->∀ z∈pend,((Region.before ops).getD i 0).testBit z.1=true\/∀ _:Unit,z.2 (l.set jj (ar b bT qs')))
  (k:Dv P ops n dr R0 K ((d,ret)::E) (l.set jj (ar b bT qs')) pend rest) (hkb:K.kZ E l pend ((i,true)::rest):=by first | exact trivial | assumption):Dv P ops n dr R0 K E l pend ((i,true)::rest):=
 .kZ _ (γ:=Unit) (λ_=>True) (λ_=>ret) (λ_=>l.set jj (ar b bT qs')) (fC ho) (iV.val hg λR a w hx hst=>by
  have h1:=iE (a:=a) (R:=R) (λx hxx p hp=>hx x (by simp [Op.operands,Call.operands];exact .inr (by simpa using hxx)) p hp) hv
  obtain⟨m,⟨cs,rfl,hcs⟩,hk⟩:=hst.eF hjj
  have hh:=(je.base hk).get
  obtain⟨v,w',cs',hv2,hc2,hb,hr⟩:=ht R w _ cs h1 hcs hh
  refine⟨(),R,v,w',trivial,Fz.le_refl R,hv2,St.shut hjj ⟨cs',rfl,hc2⟩ (je.to (Fz.le_refl R) (λx hx=>hb x hx) hk),?_⟩
  have e:aas.map a.eval=(aas.toList.map a.eval).toArray:=by apply Array.ext';simp
  simp [execOp,resolve,Deferred.ofValue,invoke,Act.eval,e,hr]) (λe z hz=>(hp e z hz).imp id λh b _=>h b) (λ_ _=>k) hkb
end
section
variable {P:Program} {f:FuncId} {fn:Func} {b off:Nat} {bT:TypeId} {qs:Cs} {n o n':Int}
theorem Gs (h0 : qs[off]? = some (eq (.int .i64 n))) (hf : P.funcs[f]? = some fn) (hn : (fn.name == "runtime.NumGoroutine") = false) (hb : fn.body = none) (h1 : (Extern.findNext fn).isNone = true) (h2 : Extern.find fn = some (Extern.Atomic.loadT (.int .i64))) :
  Xr P f [eq (.pointer (some ⟨b,off,none⟩))] (ar b bT qs) (eq (.int .i64 n)):=λR w us hu hm=>by
 cases hu with
 | cons a1 hu=>
  cases hu
  simp only [ez] at a1
  subst a1
  obtain⟨m,⟨cs,rfl,hcs⟩,hw⟩:=hm
  have hh:=hw _ (List.mem_cons_self ..)
  obtain⟨v,hv,hv2⟩:=bV.get hcs h0
  simp only [ez] at hv2;subst hv2
  refine⟨_,rfl,wb hf hn hb h1 h2 ?_⟩
  have hcell:w.cell? ⟨b,off,none⟩=some (.int .i64 n):=by rw [ny hh];simpa using hv
  show(do let a <- asAddr (.pointer (some ⟨b,off,none⟩));Extern.Atomic.read (.int .i64) a:Sem Value).run P w=_
  simp [asAddr,Extern.Atomic.read,load,Sem.run,hcell]
theorem HK {R:Fz} {cs:List Value} {p:VP} {u:Value} (h:Cs.h R qs cs) (hp:p.p R u):Cs.h R (qs.set off p) (cs.set off u):=bV.set h hp off
theorem Dk (h0 : off < qs.length) (hf : P.funcs[f]? = some fn) (hn : (fn.name == "runtime.NumGoroutine") = false) (hb : fn.body = none) (h1 : (Extern.findNext fn).isNone = true) (h2 : Extern.find fn = some Extern.Atomic.storeT) :
  Xb P f [eq (.pointer (some ⟨b,off,none⟩)),eq (.int .i64 n')] b bT qs (qs.set off (eq (.int .i64 n'))) (eq (.tuple #[])):=λR w us cs hu hcs hh=>by
 cases hu with
 | cons a1 hu=>cases hu with
  | cons a2 hu=>
   cases hu
   simp only [ez] at a1 a2
   subst a1 a2
   have hlen:=bV.length hcs
   refine⟨_,w.setCell ⟨b,off,none⟩ (.int .i64 n'),cs.set off (.int .i64 n'),rfl,HK hcs rfl,λx hx=>by have:=hx.setCell (off:=off) (v:=.int .i64 n');simpa using this,wb hf hn hb h1 h2 ?_⟩
   have hcell:w.cell? ⟨b,off,none⟩=some (cs[off]'om):=by rw [ny hh];simp [gE (show off<cs.length by omega)]
   have hfr:w.frozen? ⟨b,off,none⟩=false:=by simp [World.frozen?,hh]
   show(do let a <- asAddr (.pointer (some ⟨b,off,none⟩));store a (.int .i64 n') .atomic;pure Extern.Atomic.none_:Sem Value).run P w=_
   simp [asAddr,store,Sem.run,hcell,hfr,Extern.Atomic.none_]
theorem IU (h0 : qs[off]? = some (eq (.int .i64 n))) (hf : P.funcs[f]? = some fn) (hn : (fn.name == "runtime.NumGoroutine") = false) (hb : fn.body = none) (h1 : (Extern.findNext fn).isNone = true) (h2 : Extern.find fn = some (Extern.Atomic.casT (.int .i64))) :
  Xb P f [eq (.pointer (some ⟨b,off,none⟩)),eq (.int .i64 n),eq (.int .i64 n')] b bT qs (qs.set off (eq (.int .i64 n'))) (eq (.bool true)):=λR w us cs hu hcs hh=>by
 cases hu with
 | cons a1 hu=>cases hu with
  | cons a2 hu=>cases hu with
   | cons a3 hu=>
    cases hu
    simp only [ez] at a1 a2 a3
    subst a1 a2 a3
    obtain⟨v,hv,hv2⟩:=bV.get hcs h0
    simp only [ez] at hv2;subst hv2
    refine⟨_,w.setCell ⟨b,off,none⟩ (.int .i64 n'),cs.set off (.int .i64 n'),rfl,HK hcs rfl,λx hx=>by have:=hx.setCell (off:=off) (v:=.int .i64 n');simpa using this,wb hf hn hb h1 h2 ?_⟩
    have hcell:w.cell? ⟨b,off,none⟩=some (.int .i64 n):=by rw [ny hh];simpa using hv
    have hfr:w.frozen? ⟨b,off,none⟩=false:=by simp [World.frozen?,hh]
    have hshape:w.shape? b=some (bT,cs.length):=by simp [World.shape?,hh]
    show Sem.run P (asAddr (.pointer (some ⟨b,off,none⟩)) >>= _) w=_
    have ht:(Extern.Atomic.touchesFrozen ⟨b,off,none⟩).run P w = .ok false w:=by simp [Extern.Atomic.touchesFrozen,viewAt,shape,frozen,Sem.run,hshape,hfr]
    have hr:(Extern.Atomic.read (.int .i64) ⟨b,off,none⟩).run P w = .ok (.int .i64 n) w:=by simp [Extern.Atomic.read,load,Sem.run,hcell]
    have hs:(store ⟨b,off,none⟩ (.int .i64 n') .atomic).run P w = .ok () (w.setCell ⟨b,off,none⟩ (.int .i64 n')):=by simp [store,Sem.run,hcell,hfr]
    have g1:∀ (p o q:Value) h1 h2,(#[p,o,q]:Array Value).getLit (n:=3) 1 h1 h2=o:=λ_ _ _ _ _=>rfl
    have g2:∀ (p o q:Value) h1 h2,(#[p,o,q]:Array Value).getLit (n:=3) 2 h1 h2=q:=λ_ _ _ _ _=>rfl
    simp [asAddr,ht,hr,hs,g1,g2]
end
section
variable {P:Program} {d:Nat} {r:Bool} {w:World}
theorem He {t e sz:TypeId} {ed:TypeDesc} {xs ys:List Value} (hu:P.underlying t=some (.array 1 e)) (hv:P.underlying e=some ed) (hd:qe ed=true) (hz:P.cellsOf e=sz) (hx:xs.length=sz) (hy:ys.length=sz) (h:(Op.equalIn d e (.agg xs.toArray) (.agg ys.toArray)).run P w = .ok r w):
  (Op.equalIn (d+1) t (.agg xs.toArray) (.agg ys.toArray)).run P w = .ok r w:=by
 have e1:(part e xs.toArray 0).run P w = .ok (.agg xs.toArray) w:=by rw [run_parts hv hd hz];simp [<- hx]
 have e2:(part e ys.toArray 0).run P w = .ok (.agg ys.toArray) w:=by rw [run_parts hv hd hz];simp [<- hy]
 rw [Op.equalIn]
 simp only [Sem.run_bind,run_underlying hu,Result.andThen_ok,run_sizeOf hv hz]
 cases r <;> simp [Std.Legacy.Range.forIn_eq_forIn_range',Std.Legacy.Range.size,List.range'_one,e1,e2,h]
end
end Go.Sp
namespace Go.Sp
open Go
section
variable (P:Program) (ops:Array Oper) (n:Nat)
def oB (ops:Array Oper) (Cb:List Nat) (c:List (Nat×Bool)) (i:Nat):Bool:=Cb.any λk=>!(c.map (·.1)).contains k&&qX ops i k
def Up (Cb:List Nat) (R0:Fz) (K:Act->World->Prop) (f:Oper) (E:Env) (l:List As) (pend:List (Nat×(List As->Prop))) (c:List (Nat×Bool)):Prop:=
 ∃ (γ:Type) (ok:γ->Prop) (p:γ->VP) (l':γ->List As),iV P ops n f E l ok p l'/\(∀ x∈pend,oB ops Cb c x.1=true\/∀ g,ok g->x.2 (l' g))/\
  ∀ g,ok g->Dv P ops n true R0 (KU.of n R0 K) (ext E f.dst (p g)) (l' g) pend c
def KU.fl (Cb:List Nat) (R0:Fz) (K:Act->World->Prop) (f:Oper) (D:List (Nat×Bool)):KU:=⟨λE l pend c=>Up P ops n Cb R0 K f E l pend (c++D),λE l pend=>Up P ops n Cb R0 K f E l pend D⟩
end
section
variable {P:Program} {ops:Array Oper} {n:Nat} {Q:Exit->Act->World->Prop}
variable {R0:Fz} {V:Env->List As->List (Nat×(List As->Prop))->List (Nat×Bool)->Prop} {K:Act->World->Prop} {f:Oper} {R:Fz} {E:Env} {l:List As} {pend:List (Nat×(List As->Prop))} {pl:List PI} {c D:List (Nat×Bool)} {Cb:List Nat} {listed:Array Bool} {a:Act} {w:World}
def flt (ops:Array Oper) (kf:Nat) (D:List (Nat×Bool)):Bool:=match ops[kf]? with
 | some f=>f.after.isEmpty&&(f.looksAt ops).isEmpty&&(D.all λx=>qX ops kf x.1)&&(List.range ops.size).all λj=>j==kf||(D.map (·.1)).contains j||(!qX ops kf j && !CG ops kf j&&(match f.dst with | some d=>lN ops j != some d | none=>true))
 | none=>false
theorem ye {kf:Nat} (ho:ops[kf]? = some f) (h:flt ops kf D=true):f.after = #[]/\f.looksAt ops=[]/\(∀ x∈D,qX ops kf x.1=true)/\∀ j,j<ops.size->j≠kf->j ∉ D.map (·.1)->qX ops kf j=false/\(∀ d,f.dst=some d->d ∉ looks ops j/\lN ops j≠some d):=by
 unfold flt at h
 simp only [ho,Bool.and_eq_true,List.isEmpty_iff,List.all_eq_true,List.mem_range,Bool.or_eq_true,beq_iff_eq,Bool.not_eq_true',List.contains_iff_mem] at h
 obtain⟨⟨⟨h1,h2⟩,h0⟩,h3⟩:=h
 refine⟨by simpa using h1,h2,h0,λj hj hne hD=>?_⟩
 obtain⟨⟨a1,a2⟩,a3⟩:=(h3 j hj).resolve_left (λh=>h.elim hne hD)
 refine⟨a1,λd hd=>⟨λhm=>?_,?_⟩⟩
 ·unfold CG at a2
  rw [lx ho,hd] at a2
  simp at a2
  exact a2 hm
 ·rw [hd] at a3
  simpa using a3
def Fb (ops:Array Oper) (listed:Array Bool):Prop:=∀ j o,ops[j]? = some o->listed.getD j false=true->∀ e∈o.after,Region.binds .any e=true->listed.getD e.on false=true
theorem Fb.Cw (hb:nR ops=true) (h:Fb ops listed) {j:Nat} (hj:j∈Region.ready .any ops listed):∀ i,qX ops i j=true->listed.getD i false=true:=by
 obtain⟨_,o,ho,hdep⟩:=ji hj
 have key:∀ m j o,j<m->ops[j]? = some o->(∀ e∈o.after,Region.binds .any e=true->listed.getD e.on false=true)->∀ i,qX ops i j=true->listed.getD i false=true:=by
  intro m
  induction m with
  | zero=>intro j o hlt;omega
  | succ m ih=>
   intro j o hlt ho hdep i hi
   obtain⟨e,he,heb,hei⟩:=((nI hb ho).1 i).1 hi
   rcases hei with rfl | hei
   ·exact hdep e he heb
   ·have hl:=(nI hb ho).2 e he heb
    have hon:e.on<ops.size:=by have:=(Array.getElem?_eq_some_iff.1 ho).1;omega
    obtain⟨o',ho'⟩:∃ o',ops[e.on]? = some o':=⟨ops[e.on],Array.getElem?_eq_getElem hon⟩
    exact ih e.on o' om ho' (h e.on o' ho' (hdep e he heb)) i hei
 exact key (j+1) j o om ho hdep
theorem Fb.set (hs:listed.size=ops.size) (h:Fb ops listed) {j:Nat} (hj:j∈Region.ready .any ops listed):Fb ops (listed.setIfInBounds j true):=by
 intro k o hk hl e he hb
 obtain⟨h0,oj,hoj,hdep⟩:=ji hj
 refine getD_set_true ?_
 have hjs:j<listed.size:=by rw [hs];exact(Array.getElem?_eq_some_iff.1 hoj).1
 rw [oC false hjs] at hl
 by_cases ek:k=j
 ·subst ek;rw [hoj] at hk;cases hk;exact hdep e he hb
 ·rw [if_neg ek] at hl;exact h k o hk hl e he hb
theorem Fb.up (hb:nR ops=true) (h:Fb ops listed) {j:Nat} (hj:j<ops.size) (hjs:j<listed.size) (hl:listed.getD j true=true):∀ i,qX ops i j=true->listed.getD i false=true:=by
 have hl2:listed.getD j false=true:=by simp [hjs] at hl ⊢;exact hl
 have key:∀ m j,j<m->j<ops.size->listed.getD j false=true->∀ i,qX ops i j=true->listed.getD i false=true:=by
  intro m
  induction m with
  | zero=>intro j hlt;omega
  | succ m ih=>
   intro j hlt hj hl i hi
   obtain⟨o,ho⟩:∃ o,ops[j]? = some o:=⟨ops[j],Array.getElem?_eq_getElem hj⟩
   obtain⟨e,he,heb,hei⟩:=((nI hb ho).1 i).1 hi
   have hd:=h j o ho hl e he heb
   rcases hei with rfl | hei
   ·exact hd
   ·have hl3:=(nI hb ho).2 e he heb
    exact ih e.on om om hd i hei
 exact key (j+1) j om hj hl2
theorem Inv.up (hn:∀ i d,lN ops i=some d->d<n) {kf:Nat} (ho:ops[kf]? = some f) (hf:flt ops kf D=true) (h:Inv (P:=P) (ops:=ops) (n:=n) R0 V R E l pend pl c (listed.setIfInBounds kf true) a w)
  (hb:nR ops=true) (hne:∀ x∈pl,x.i≠kf/\x.i ∉ D.map (·.1)) (hPB:∀ x∈pl,x.i ∉ Cb) (hCb:∀ k∈Cb,k<ops.size) (hu:Up P ops n Cb R0 K f E l pend c) (K':Act->World->Prop)
  (next:∀ R' E' l' a' w',Inv (P:=P) (ops:=ops) (n:=n) R0 (Dv P ops n true R0 (KU.of n R0 K)) R' E' l' pend pl c (listed.setIfInBounds kf true) a' w'->K' a' w'):runs P ops f a w K' Q:=by
 obtain⟨f1,f2,_,f3⟩:=ye ho hf
 obtain⟨γ,ok,p,l',hok,hq,hdv⟩:=hu
 have apart:∀ x∈pl,∀ d,f.dst=some d->d ∉ x.o.looksAt ops/\x.o.dst≠some d:=λx hx d hd=>by
  have hx1:=(h.yq x hx).1
  have:=(f3 x.i (Array.getElem?_eq_some_iff.1 hx1).1 (hne x hx).1 (hne x hx).2).2 d hd
  rwa [pH hx1,lx hx1] at this
 refine hok R a w h.sz h.df (λt ht=>by rw [f2] at ht;cases ht) h.st K' Q ?_
 intro g R' v w' hg hR hv hst
 refine next R' _ _ _ w' ⟨by rw [vF];exact h.sz,by rw [rz];exact h.df,hst,Fz.le_trans h.r0 hR,hdv g hg,h.DN,h.un,h.lt,h.closed,λx hx=>?_,h.pw,h.Ho,λt ht r hr=>?_,λx hx t ht hn' r hr=>?_,λx hx t hd=>?_,h.link⟩
 ·obtain⟨a1,a2,_,a4⟩:=h.yq x hx
  refine⟨a1,a2,?_,a4⟩
  rcases hq _ a4 with hh | hh
  ·exfalso
   simp only [oB,List.any_eq_true,Bool.and_eq_true,Bool.not_eq_true'] at hh
   obtain⟨k,hk1,hk2,hk3⟩:=hh
   have hkl:(listed.setIfInBounds kf true).getD k true=true:=by
    cases e:(listed.setIfInBounds kf true).getD k true with
    | true=>rfl
    | false=>
     rcases(h.un k (hCb k hk1)).1 e with hm | hm
     ·obtain⟨y,hy,rfl⟩:=List.mem_map.1 hm
      exact absurd hk1 (hPB y hy)
     ·rw [List.contains_iff_mem.2 hm] at hk2;cases hk2
   have hcl:Fb ops (listed.setIfInBounds kf true):=h.closed
   have hxl:=hcl.up hb (hCb k hk1) (by rw [h.DN];exact hCb k hk1) hkl x.i hk3
   have hxu:=(h.un x.i (Array.getElem?_eq_some_iff.1 a1).1).2 (.inl (List.mem_map.2 ⟨x,hx,rfl⟩))
   rw [my hxl] at hxu;cases hxu
  ·exact hh g hg
 ·by_cases e:f.dst=some t
  ·rw [mW,if_pos e] at hr
   cases hr
   have hsz:t<a.tmps.size:=by rw [h.sz];exact hn kf t (by rw [lx ho];exact e)
   rw [e,oc hsz];exact hv
  ·rw [pL e]
   rw [mW,if_neg e] at hr
   exact r.mono hR (h.env t ht r hr)
 ·have e:f.dst≠some t:=λe=>(apart x hx t e).1 ht
  rw [pL e]
  exact r.mono hR (h.CQ x hx t ht hn' r hr)
 ·have e:f.dst≠some t:=λe=>(apart x hx t e).2 hd
  rw [mW,if_neg e]
  exact h.last x hx t hd
def HeadF (P:Program) (ops:Array Oper) (n:Nat) (Cb:List Nat) (R0:Fz) (K:Act->World->Prop) (f:Oper) (D:List (Nat×Bool)) (E:Env) (l:List As) (pend:List (Nat×(List As->Prop))) (c:List (Nat×Bool)):Prop:=
 c=[]\/∃ k rest o,∃ (γ:Type) (ok:γ->Prop) (p:γ->VP) (l':γ->List As),c=(k,true)::rest/\ops[k]? = some o/\iV P ops n o E l ok p l'/\
  (∀ x∈pend,((Region.before ops).getD k 0).testBit x.1=true\/∀ g,ok g->x.2 (l' g))/\∀ g,ok g->Dv P ops n true R0 (KU.fl P ops n Cb R0 K f D) (Sp.ext E o.dst (p g)) (l' g) pend rest
theorem Inv.normF (h:Inv (P:=P) (ops:=ops) (n:=n) R0 (λ_ _ _ _=>True) R E l pend pl (c++D) listed a w) (hd:Dv P ops n true R0 (KU.fl P ops n Cb R0 K f D) E l pend c):
  ∃ R' E' l' pend' pl' c',Inv (P:=P) (ops:=ops) (n:=n) R0 (λ_ _ _ _=>True) R' E' l' pend' pl' (c'++D) listed a w/\Dv P ops n true R0 (KU.fl P ops n Cb R0 K f D) E' l' pend' c'/\Up P ops n Cb R0 K f E' l' pend' (c'++D)/\HeadF P ops n Cb R0 K f D E' l' pend' c'/\pl'.length+c'.length=pl.length+c.length/\
   (∀ j,j∈pl'.map (·.i)\/j∈c'.map (·.1)->j∈pl.map (·.i)\/j∈c.map (·.1))/\∀ j,j∈pl'.map (·.i)\/(j,false)∈c'->j∈pl.map (·.i)\/(j,false)∈c:=by
 generalize hku:KU.fl P ops n Cb R0 K f D=ku at hd
 induction hd generalizing pl R with
 | fin hu=>subst hku;exact⟨_,_,_,_,_,_,h,.fin hu,hu,.inl rfl,rfl,λ_ h=>h,λ_ h=>h⟩
 | ok o q p ho hok hq hdv ih=>
  subst hku
  obtain⟨R',E',l',pend',pl',c',h',hc,hu,hl,hn,hs,hs2⟩:=ih (h.move o q p ho hok hq trivial)
  exact⟨R',E',l',pend',pl',c',h',hc,hu,hl,by rw [hn];simp;omega,λj hj=>by
   rcases hs j hj with hh | hh
   ·simp only [List.map_append,List.mem_append,List.map_cons,List.map_nil,List.mem_singleton] at hh
    rcases hh with hh | hh
    ·exact .inl hh
    ·exact .inr (by rw [hh];simp)
   ·exact .inr (List.mem_cons_of_mem _ hh),λj hj=>by
   rcases hs2 j hj with hh | hh
   ·simp only [List.map_append,List.mem_append,List.map_cons,List.map_nil,List.mem_singleton] at hh
    rcases hh with hh | hh
    ·exact .inl hh
    ·exact .inr (by rw [hh];exact List.mem_cons_self ..)
   ·exact .inr (List.mem_cons_of_mem _ hh)⟩
 | kZ o ok p l' ho hok hq hdv hu ih=>subst hku;exact⟨_,_,_,_,_,_,h,.kZ o ok p l' ho hok hq hdv hu,hu,.inr ⟨_,_,o,_,ok,p,l',rfl,ho,hok,hq rfl,hdv⟩,rfl,λ_ h=>h,λ_ h=>h⟩
 | Il ok l' hg hq hdv ih=>
  subst hku
  obtain⟨g,R',hok,h'⟩:=h.Il ok l' hg (hq rfl) (λ_ _=>trivial)
  exact ih g hok h'
 | ghe ok E' l' hd=>cases hd
theorem set_comm {i j:Nat} (h:i≠j):(listed.setIfInBounds i true).setIfInBounds j true=(listed.setIfInBounds j true).setIfInBounds i true:=by
 apply Array.ext
 ·simp
 ·intro k h1 h2
  rw [Array.getElem_setIfInBounds,Array.getElem_setIfInBounds,Array.getElem_setIfInBounds,Array.getElem_setIfInBounds]
  ·by_cases e1:j=k <;> by_cases e2:i=k <;> simp [e1,e2]
  all_goals (simp at h1 ⊢;exact h1)
theorem Inv.anyF (hb:nR ops=true) (hn:∀ i d,lN ops i=some d->d<n) (hK:∀ a w,K a w->Q .normal a w) {kf:Nat} (ho:ops[kf]? = some f) (hf:flt ops kf D=true) (hDn:kf ∉ D.map (·.1)) (hCb:∀ k∈Cb,k<ops.size):
  ∀ (fuel:Nat) {R:Fz} {E:Env} {l:List As} {pend:List (Nat×(List As->Prop))} {pl:List PI} {c:List (Nat×Bool)} {listed:Array Bool} {a:Act} {w:World},
   pl.length+(c++D).length+1=fuel->(∀ j,j∈pl.map (·.i)\/j∈c.map (·.1)->j≠kf/\j ∉ D.map (·.1))->(∀ j,j∈pl.map (·.i)\/(j,false)∈c->j ∉ Cb)->listed.getD kf true=false->Fb ops listed->Dv P ops n true R0 (KU.fl P ops n Cb R0 K f D) E l pend c->
   Inv (P:=P) (ops:=ops) (n:=n) R0 (λ_ _ _ _=>True) R E l pend pl (c++D) (listed.setIfInBounds kf true) a w->wpAny P .any ops Q fuel listed a w:=by
 obtain⟨f1,f2,fD,f3⟩:=ye ho hf
 intro fuel
 induction fuel with
 | zero=>intro R E l pend pl c listed a w hfu;omega
 | succ fuel ih=>
  intro R E l pend pl c listed a w hfu hne hPB hun hclo hdf h0
  obtain⟨R',E',l',pend',pl',c',h,hdf',hu,hc,hl,hsub,hsub2⟩:=h0.normF hdf
  have hfu':pl'.length+(c'++D).length=fuel:=by rw [List.length_append] at hfu ⊢;omega
  have hkf:kf∈Region.ready .any ops listed:=mem_ready.2 ⟨hun,f,ho,λe he=>by rw [f1] at he;simp at he⟩
  have hks:kf<listed.size:=by
   rcases Nat.lt_or_ge kf listed.size with k | k
   ·exact k
   ·simp [k] at hun
  have hsz:listed.size=ops.size:=by have:=h0.DN;simpa using this
  have hPB':∀ j,j∈pl'.map (·.i)\/(j,false)∈c'->j ∉ Cb:=λj hj=>hPB j (hsub2 j hj)
  have hne':∀ j,j∈pl'.map (·.i)\/j∈c'.map (·.1)->j≠kf/\j ∉ D.map (·.1):=λj hj=>hne j (hsub j hj)
  refine⟨λe=>by rw [e] at hkf;(cases hkf),λj hj=>?_⟩
  obtain⟨hu0,o,hoj,hdep⟩:=ji hj
  have hwp:runs P ops o a w (wpAny P .any ops Q fuel (listed.setIfInBounds j true)) Q:=by
   by_cases ej:j=kf
   ·subst ej
    rw [ho] at hoj;cases hoj
    exact h.up hn ho hf hb (λx hx=>hne' _ (.inl (List.mem_map.2 ⟨x,hx,rfl⟩))) (λx hx=>hPB' _ (.inl (List.mem_map.2 ⟨x,hx,rfl⟩))) hCb hu _ λR2 E2 l2 a2 w2 h2=>Inv.any hb hn hK fuel om h2
   ·have hj2:j∈Region.ready .any ops (listed.setIfInBounds kf true):=mem_ready.2 ⟨by rw [oC true hks,if_neg ej];exact hu0,o,hoj,λe he hbd=>getD_set_true (hdep e he hbd)⟩
    have hjun:(listed.setIfInBounds j true).getD kf true=false:=by rw [getD_set_ne true ej];exact hun
    have hclo':=hclo.set hsz hj
    rcases(h.un j (Array.getElem?_eq_some_iff.1 hoj).1).1 (mem_ready.1 hj2).1 with hm | hm
    ·obtain⟨x,hx,rfl⟩:=List.mem_map.1 hm
     have hox:=(h.yq x hx).1
     rw [hoj] at hox;cases hox
     refine h.take hb hn hx hj2 _ λR2 a2 w2 h2=>ih ?_ ?_ ?_ hjun hclo' hdf' (by rw [set_comm ej];exact h2)
     ·have:(pl'.filter (λy=>y.i != x.i)).length+1=pl'.length:=by
       obtain⟨s,t,rfl⟩:=List.append_of_mem hx
       have hp:=(List.pairwise_append.1 h.pw).1
       rw [List.pairwise_map,List.pairwise_append,List.pairwise_cons] at hp
       have e1:s.filter (λy=>y.i != x.i)=s:=List.filter_eq_self.2 λy hy=>by
        have:=(jt (hp.2.2 y hy x (List.mem_cons_self ..))).2.2.2.2.2;simpa using this
       have e2:t.filter (λy=>y.i != x.i)=t:=List.filter_eq_self.2 λy hy=>by
        have:=(jt (hp.2.1.1 y hy)).2.2.2.2.2;simpa using Ne.symm this
       rw [List.filter_append,List.filter_cons,e1,e2];simp;omega
      omega
     ·intro j hj
      refine hne' j (hj.imp (λhh=>?_) id)
      obtain⟨y,hy,e⟩:=List.mem_map.1 hh
      exact List.mem_map.2 ⟨y,(List.mem_filter.1 hy).1,e⟩
     ·intro j hj
      refine hPB' j (hj.imp (λhh=>?_) id)
      obtain⟨y,hy,e⟩:=List.mem_map.1 hh
      exact List.mem_map.2 ⟨y,(List.mem_filter.1 hy).1,e⟩
    ·rcases hc with rfl | ⟨k,rest,o',γ,ok,p,l2,rfl,ho',hok,hq,hdv⟩
     ·exfalso
      rw [List.nil_append] at hm
      obtain⟨z,hz,rfl⟩:=List.mem_map.1 hm
      have h1:=hclo.Cw hb hj kf (fD z hz)
      rw [my h1] at hun;cases hun
     ·rcases List.mem_cons.1 hm with e | hm
      ·simp only at e;subst e
       rw [hoj] at ho';cases ho'
       refine h.kZ hb hn o (γ:={g // ok g}) (λ_=>True) (λg=>p g.1) (λg=>l2 g.1) hoj (λR a w h1 h2 h3 h4 K Q nx=>hok R a w h1 h2 h3 h4 K Q λg R' v w' hg=>nx ⟨g,hg⟩ R' v w' trivial) (λx hx=>(hq x hx).imp id λhh g _=>hh g.1 g.2) (λ_ _=>trivial) hj2 _
        λg R2 a2 w2 h2=>ih (by simp at hfu' ⊢;omega) (λj hj=>hne' j (hj.imp id (λhh=>List.mem_cons_of_mem _ hh))) (λj hj=>hPB' j (hj.imp id (λhh=>List.mem_cons_of_mem _ hh))) hjun hclo' (hdv g.1 g.2) (by rw [set_comm ej];exact h2)
      ·exfalso
       obtain⟨z,hz,rfl⟩:=List.mem_map.1 hm
       have h1:=(jt ((List.pairwise_cons.1 (List.pairwise_append.1 h.pw).2.1).1 z hz)).2.1 rfl
       have h2:=h.Cw hb hj2 k h1
       have h3:=(h.un k (h.lt k (.inr (List.mem_cons_self ..)))).2 (.inr (List.mem_cons_self ..))
       rw [my h2] at h3;cases h3
  unfold wpOp
  simp only [hoj]
  unfold runs at hwp
  split
  ·rename_i hw;rw [if_pos hw] at hwp;exact .inl hwp
  ·rename_i hw;rw [if_neg hw] at hwp;exact hwp
def cbs (c:List (Nat×Bool)):List Nat:=(c.filter (·.2)).map (·.1)
def H9 (ops:Array Oper) (n kf:Nat) (c D:List (Nat×Bool)):Bool:=
 c.all (λx=>x.2 || !(cbs c).contains x.1)&&nR ops&&chkOrd ops (c++D)&&((c++D).map (·.1)).length+1==ops.size&&(List.range ops.size).all (λi=>i==kf||((c++D).map (·.1)).contains i)&&((c++D).map (·.1)).all (λi=>decide (i<ops.size)&&i != kf)&&ops.all (λo=>match o.dst with | some d=>decide (d<n) | none=>true)&&flt ops kf D&&(c.map (·.1)).all (λi=>!(D.map (·.1)).contains i)
theorem zK {id kf:Nat} {E:Env} {l:List As} (c D:List (Nat×Bool)) (hm:P.follows .mixedOrders=true) (hc:H9 ops n kf c D=true) (ho:ops[kf]? = some f)
  (h:Dv P ops n true R0 (KU.fl P ops n (cbs c) R0 (Q .normal) f D) E l [] c) {R:Fz} {a:Act} {w:World} (h0:R0.le R) (ha:od n R a E) (hs:St R l w):(Code.region id ops true).wp P Q a w:=by
 simp only [H9,Bool.and_eq_true,beq_iff_eq,List.all_eq_true,List.mem_range,List.contains_iff_mem,Array.all_eq_true_iff_forall_mem,Bool.or_eq_true,bne_iff_ne,Bool.not_eq_true',decide_eq_true_eq] at hc
 obtain⟨⟨⟨⟨⟨⟨⟨⟨h8,hb⟩,h2⟩,h3⟩,h4⟩,h5⟩,h6⟩,hf⟩,h7⟩:=hc
 rw [List.length_map] at h3
 obtain⟨hpw,hirr⟩:=sO h2
 have hn:∀ i d,lN ops i=some d->d<n:=λi d hd=>by
  unfold lN at hd
  cases e:ops[i]? with
  | none=>simp [e] at hd
  | some o=>
   simp [e] at hd
   have:=h6 o (Array.mem_of_getElem? e)
   simpa [hd] using this
 have hlt:∀ i,i∈(c++D).map (·.1)->i<ops.size/\i≠kf:=λi hi=>h5 i hi
 have hks:kf<ops.size:=(Array.getElem?_eq_some_iff.1 ho).1
 have hks2:kf<(Array.replicate ops.size false).size:=by simpa using hks
 have hc0:Fb ops (Array.replicate ops.size false):=λj o hj hl=>by
  have:=(Array.getElem?_eq_some_iff.1 hj).1
  simp [this] at hl
 refine wp_region_any hm ?_
 refine Inv.anyF (K:=Q .normal) (R:=R) (E:=E) (l:=l) (pend:=[]) (pl:=[]) (c:=c) hb hn (λ_ _ hk=>hk) ho hf (λhh=>(hlt kf (by rw [List.map_append];exact List.mem_append_right _ hh)).2 rfl) (λk hk=>?_) ops.size (by simpa using h3) (λj hj=>?_) (λj hj=>?_) (by simp [hks]) hc0 h
  ⟨ha.1,ha.2.1,hs.drew _ (Nat.le_succ _),h0,trivial,sM,λj hj=>?_,λj hj=>?_,λj o hj hl=>?_,sM,by simpa using hpw,by simpa using hirr,λt _ q hq=>ha.2.2 t q hq,sM,sM,sM⟩
 ·obtain⟨x,hx,rfl⟩:=List.mem_map.1 hk
  exact(hlt x.1 (by rw [List.map_append];exact List.mem_append_left _ (List.mem_map.2 ⟨x,(List.mem_filter.1 hx).1,rfl⟩))).1
 ·rcases hj with hj | hj
  ·simp at hj
  ·refine⟨(hlt j (by rw [List.map_append];exact List.mem_append_left _ hj)).2,λhh=>?_⟩
   have:=h7 j hj
   rw [List.contains_iff_mem.2 hh] at this;cases this
 ·rcases hj with hj | hj
  ·simp at hj
  ·intro hh
   rcases h8 _ hj with h9 | h9
   ·cases h9
   ·rw [List.contains_iff_mem.2 hh] at h9;cases h9
 ·rw [oC true hks2]
  by_cases e:j=kf
  ·subst e
   rw [if_pos rfl]
   constructor
   ·intro hh;cases hh
   ·rintro(hh | hh)
    ·simp at hh
    ·exact absurd rfl (hlt j hh).2
  ·rw [if_neg e]
   simp [hj]
   have:=(h4 j hj).resolve_left e
   simpa using this
 ·rcases hj with hj | hj
  ·simp at hj
  ·exact(hlt j hj).1
 ·rw [oC false hks2] at hl
  by_cases e:j=kf
  ·subst e
   rw [ho] at hj;cases hj
   rw [(ye ho hf).1]
   intro e he;simp at he
  ·rw [if_neg e] at hl
   have:=(Array.getElem?_eq_some_iff.1 hj).1
   simp [this] at hl
theorem WP.Jh {id kf:Nat} {E:Env} {l:List As} (hm:P.follows .mixedOrders=true) (c D:List (Nat×Bool)) (ho:ops[kf]? = some f) (hc:H9 ops n kf c D=true)
  (h:Dv P ops n true R0 (KU.fl P ops n (cbs c) R0 (Q .normal) f D) E l [] c):WP P n R0 (.region id ops true) Q E l:=λR a w h0 ha hs=>zK c D hm hc ho h h0 ha hs
theorem qn {t:TypeId} {qs:Cs} {T:TypeId} {ps:String} {af:Array Edge} {g:Option (Nat×Bool)} {d:Nat} (hf:f=⟨some d,.alloc t,T,ps,af,g⟩) (hg:fZ ops E g) (hz:ZC P t qs)
  (hp:∀ x∈pend,oB ops Cb c x.1=true\/∀ b:Nat,x.2 (ar b t qs::l)) (k:∀ b:Nat,Dv P ops n true R0 (KU.of n R0 K) ((d,eq (.pointer (some ⟨b,0,none⟩)))::E) (ar b t qs::l) pend c):Up P ops n Cb R0 K f E l pend c:=by
 subst hf
 obtain⟨z,hz,hq⟩:=hz
 refine⟨Nat,λ_=>True,λb=>eq (.pointer (some ⟨b,0,none⟩)),λb=>ar b t qs::l,iV.val hg λR a w h hst=>?_,λx hx=>(hp x hx).imp id λh b _=>h b,λb _=>k b⟩
 have hc:Cs.h R qs z.cells.toList:=by
  rw [hq]
  generalize z.cells.toList=us
  induction us with
  | nil=>exact .nil
  | cons u us ih=>exact .cons rfl ih
 refine⟨w.heap.size,R,_,_,trivial,Fz.le_refl R,rfl,hst.alloc (o:=.cells z.cells t) ⟨z.cells.toList,sM,hc⟩,?_⟩
 simp [execOp,Instr.alloc,newVar,newRow,lh hz]
theorem IB {l2:Nat->List As}:∀ x∈([]:List (Nat×(List As->Prop))),oB ops Cb c x.1=true\/∀ b:Nat,x.2 (l2 b):=λ_ h=>by cases h
theorem mA {i:Nat} {q:List As->Prop} {l2:Nat->List As} (h:∀ b,q (l2 b)) (k:∀ x∈pend,oB ops Cb c x.1=true\/∀ b:Nat,x.2 (l2 b)):∀ x∈(i,q)::pend,oB ops Cb c x.1=true\/∀ b:Nat,x.2 (l2 b):=λx hx=>by
 rcases List.mem_cons.1 hx with rfl | hx
 ·exact .inr h
 ·exact k x hx
theorem gQ {i:Nat} {q:List As->Prop} {l2:Nat->List As} (h:oB ops Cb c i=true) (k:∀ x∈pend,oB ops Cb c x.1=true\/∀ b:Nat,x.2 (l2 b)):∀ x∈(i,q)::pend,oB ops Cb c x.1=true\/∀ b:Nat,x.2 (l2 b):=λx hx=>by
 rcases List.mem_cons.1 hx with rfl | hx
 ·exact .inl h
 ·exact k x hx
theorem Dv.float {E:Env} {l:List As} {pend:List (Nat×(List As->Prop))} {c:List (Nat×Bool)} (hu:Up P ops n Cb R0 K f E l pend (c++D)) (k:(KU.fl P ops n Cb R0 K f D).kZ E l pend c->Dv P ops n true R0 (KU.fl P ops n Cb R0 K f D) E l pend c):Dv P ops n true R0 (KU.fl P ops n Cb R0 K f D) E l pend c:=k hu
end
theorem gh_sh {n:Nat} {R0:Fz} {E:Env} {l:List As} (d:Nat) {t b:Bool} (h:t=b) (hv:find E d=some (eq (.bool t))):Gh n R0 E l (γ:=Unit) (λ_=>True) (λ_=>(d,eq (.bool b))::E) (λ_=>l):=λR a w _ ha hs=>by
 subst h
 refine⟨(),R,trivial,Fz.le_refl R,⟨ha.1,ha.2.1,λt' p hp=>?_⟩,hs⟩
 rw [find] at hp
 cases e:Nat.beq d t' with
 | true=>
  rw [e] at hp
  obtain rfl:=Nat.eq_of_beq_eq_true e
  obtain rfl:eq (.bool t)=p:=Option.some.inj hp
  exact ha.2.2 _ _ hv
 | false=>rw [e] at hp;exact ha.2.2 t' p hp
theorem pb {P:Program} {fn:Func} {f:FuncId} {c:Code} {vs:List VP} {ret:VP} {β:Type} {x:Option β} {r:β} {n:Nat} (hf:P.funcs[f]? = some fn) (hn:fn.ntmps=n) (hx:x=some r) (h:∀ (R0:Fz) (F:List As),aW x (λv=>v=r)->WP P n R0 c (bodyPost P fn (qH R0 (λ_:Unit=>True) (λ_=>ret) (λ_=>[]) F)) (enum 0 vs) ([]++F))
  (hb:fn.body=some c:=by exact rfl) (hlen:Nat.ble vs.length n=true:=by exact rfl):Pt P f vs ret:=(Tr.body hf hb hn (Nat.le_of_ble_eq_true hlen) λR0 F=>h R0 F (aW.of hx)).pt
theorem tb {P:Program} {fn:Func} {f:FuncId} {c:Code} {vs:List VP} {pre:List As} {γ:Type} {ok:γ->Prop} {ret:γ->VP} {post:γ->List As} {β:Type} {x:Option β} {r:β} {n:Nat} (hf:P.funcs[f]? = some fn) (hn:fn.ntmps=n) (hx:x=some r) (h:∀ (R0:Fz) (F:List As),aW x (λv=>v=r)->WP P n R0 c (bodyPost P fn (qH R0 ok ret post F)) (enum 0 vs) (pre++F))
  (hb:fn.body=some c:=by exact rfl) (hlen:Nat.ble vs.length n=true:=by exact rfl):Tr P f vs pre ok ret post:=Tr.body hf hb hn (Nat.le_of_ble_eq_true hlen) λR0 F=>h R0 F (aW.of hx)
theorem sb {β:Type} {v r:β} {M:β->Prop} (H:aW (some v) (λx=>x=r)) (h:M v):M r:=by obtain rfl:=aW.out H;exact h
theorem r0 {P:Program} {n:Nat} {R0:Fz} {Q:Exit->Act->World->Prop} {E:Env} {l:List As} {fn:Func} {ret:Unit->VP} {post:Unit->List As} {F:List As} {rs:List ResultVar} {ps:List VP} (hQ:∀ a w,bodyPost P fn (qH R0 (λ_:Unit=>True) ret post F) .ret a w->Q .ret a w) (hf:fn.results=rs.toArray) (h:bV (zP P n E l) rs ps) (hp:ret ()=pv ps:=by exact rfl)
  (h2:(l.take 0).length=0:=by exact rfl) (h3:(sel (l.take 0) []++l.drop 0).drop 0=post ()++F:=by exact rfl):WP P n R0 .ret Q E l:=
 rt hQ hf () 0 [] 0 h trivial hp dc h2 h3
theorem r1 {P:Program} {n:Nat} {R0:Fz} {Q:Exit->Act->World->Prop} {E:Env} {l:List As} {fn:Func} {ret:Unit->VP} {post:Unit->List As} {F:List As} {rs:List ResultVar} {ps:List VP} (hQ:∀ a w,bodyPost P fn (qH R0 (λ_:Unit=>True) ret post F) .ret a w->Q .ret a w) (hf:fn.results=rs.toArray) (h:bV (zP P n E l) rs ps) (hp:ret ()=pv ps:=by exact rfl)
  (h2:(l.take 1).length=1:=by exact rfl) (h3:(sel (l.take 1) [0]++l.drop 1).drop 1=post ()++F:=by exact rfl):WP P n R0 .ret Q E l:=
 rt hQ hf () 1 [0] 1 h trivial hp dc h2 h3
theorem r2 {P:Program} {n:Nat} {R0:Fz} {Q:Exit->Act->World->Prop} {E:Env} {l:List As} {fn:Func} {ret:Unit->VP} {post:Unit->List As} {F:List As} {rs:List ResultVar} {ps:List VP} (hQ:∀ a w,bodyPost P fn (qH R0 (λ_:Unit=>True) ret post F) .ret a w->Q .ret a w) (hf:fn.results=rs.toArray) (h:bV (zP P n E l) rs ps) (hp:ret ()=pv ps:=by exact rfl)
  (h2:(l.take 2).length=2:=by exact rfl) (h3:(sel (l.take 2) [0,1]++l.drop 2).drop 2=post ()++F:=by exact rfl):WP P n R0 .ret Q E l:=
 rt hQ hf () 2 [0,1] 2 h trivial hp dc h2 h3
theorem r3 {P:Program} {n:Nat} {R0:Fz} {Q:Exit->Act->World->Prop} {E:Env} {l:List As} {fn:Func} {ret:Unit->VP} {post:Unit->List As} {F:List As} {rs:List ResultVar} {ps:List VP} (hQ:∀ a w,bodyPost P fn (qH R0 (λ_:Unit=>True) ret post F) .ret a w->Q .ret a w) (hf:fn.results=rs.toArray) (h:bV (zP P n E l) rs ps) (hp:ret ()=pv ps:=by exact rfl)
  (h2:(l.take 3).length=3:=by exact rfl) (h3:(sel (l.take 3) [0,1,2]++l.drop 3).drop 3=post ()++F:=by exact rfl):WP P n R0 .ret Q E l:=
 rt hQ hf () 3 [0,1,2] 3 h trivial hp dc h2 h3
theorem r4 {P:Program} {n:Nat} {R0:Fz} {Q:Exit->Act->World->Prop} {E:Env} {l:List As} {fn:Func} {ret:Unit->VP} {post:Unit->List As} {F:List As} {rs:List ResultVar} {ps:List VP} (hQ:∀ a w,bodyPost P fn (qH R0 (λ_:Unit=>True) ret post F) .ret a w->Q .ret a w) (hf:fn.results=rs.toArray) (h:bV (zP P n E l) rs ps) (hp:ret ()=pv ps:=by exact rfl)
  (h2:(l.take 4).length=4:=by exact rfl) (h3:(sel (l.take 4) [0,1,2,3]++l.drop 4).drop 4=post ()++F:=by exact rfl):WP P n R0 .ret Q E l:=
 rt hQ hf () 4 [0,1,2,3] 4 h trivial hp dc h2 h3
theorem r5 {P:Program} {n:Nat} {R0:Fz} {Q:Exit->Act->World->Prop} {E:Env} {l:List As} {fn:Func} {ret:Unit->VP} {post:Unit->List As} {F:List As} {rs:List ResultVar} {ps:List VP} (hQ:∀ a w,bodyPost P fn (qH R0 (λ_:Unit=>True) ret post F) .ret a w->Q .ret a w) (hf:fn.results=rs.toArray) (h:bV (zP P n E l) rs ps) (hp:ret ()=pv ps:=by exact rfl)
  (h2:(l.take 5).length=5:=by exact rfl) (h3:(sel (l.take 5) [0,1,2,3,4]++l.drop 5).drop 5=post ()++F:=by exact rfl):WP P n R0 .ret Q E l:=
 rt hQ hf () 5 [0,1,2,3,4] 5 h trivial hp dc h2 h3
end Go.Sp
