import Derived.Test.YtelcbdmigiacpaaGreatConM
import Derived.Lib.Bytealg
set_option linter.all false
namespace Go.Sp
open Go
theorem yi {P : Program} {f : FuncId} {fn : Func} {args : Array Value} {e : Array Value → Sem Value} {v : Value} {w : World} (hf : P.funcs[f]? = some fn) (hn : (fn.name == "runtime.NumGoroutine") = false) (hb : fn.body = none) (h1 : (Extern.findNext fn).isNone = true) (h2 : Extern.find fn = some e) (he : (e args).run P w = .ok v w) : (callFunc f args).run P w = .ok (.value v) w := by
 unfold callFunc
 have h1':Extern.findNext fn=none:=by cases h:Extern.findNext fn <;> simp_all
 have hn' : ¬ fn.name = "runtime.NumGoroutine" := by simpa using hn
 simp [hf,hn',hb,h1',h2,he]
def Xt (P:Program) (f:FuncId) (vs:List VP) (ret:VP):Prop:=∀ (R:Fz) (w:World) (l:List As) (us:List Value),Cs.h R vs us->St R l w->∃ v,ret.p R v/\(callFunc f us.toArray).run P w = .ok (.value v) w
section
variable {P:Program} {ops:Array Oper} {n:Nat} {dr:Bool} {R0:Fz} {K:KU} {E:Env} {l:List As} {pend:List (Nat×(List As->Prop))} {rest:List (Nat×Bool)} {i d:Nat}
variable {T:TypeId} {ps:String} {af:Array Edge} {g:Option (Nat×Bool)} {x y:Operand}
theorem Dv.cext {f:FuncId} {as:Array Operand} {ts:Array TypeId} {vs:List VP} {ret:VP} (ho:opAt ops.toList i=some ⟨some d,.call ⟨.value (.func f),as,ts⟩,T,ps,af,g⟩) (hg:fZ ops E g)
  (hv:opvs E as.toList=some vs) (ht:Xt P f vs ret) (k:Dv P ops n dr R0 K ((d,ret)::E) l ((i,tt)::pend) rest):Dv P ops n dr R0 K E l pend ((i,false)::rest):=
 Dv.mg tt ret ho (eV.val hg λR a w l hx _ hst=>by
  have h1:=iE (a:=a) (R:=R) (λx hxx p hp=>hx x (by simp [Op.operands,Call.operands];exact .inr (by simpa using hxx)) p hp) hv
  obtain⟨v,hv2,hr⟩:=ht R w l _ h1 hst
  refine⟨R,v,w,Fz.le_refl R,hv2,hst,?_⟩
  have e:as.map a.eval=(as.toList.map a.eval).toArray:=by apply Array.ext';simp
  simp [execOp,resolve,Deferred.ofValue,invoke,Act.eval,e,hr]) trivial k
end
def kV (s:BA) (c:Int):Int:=Lib.indexByte s.data.toList c.toNat.toUInt8
theorem DG {P : Program} {f : FuncId} {fn : Func} {s : BA} {c : Int} (hf : P.funcs[f]? = some fn) (hn : (fn.name == "runtime.NumGoroutine") = false) (hb : fn.body = none) (h1 : (Extern.findNext fn).isNone = true) (h2 : Extern.find fn = some Extern.BytealgIndexByte.indexByte) :
  Xt P f [eq (.string s),eq (.int .u8 c)] (eq (.int .i64 (kV s c))):=λR w l us hu _=>by
 cases hu with
 | cons a1 hu=>cases hu with
  | cons a2 hu=>
   cases hu
   simp only [ez] at a1 a2
   subst a1 a2
   exact⟨_,rfl,yi hf hn hb h1 h2 (Lib.run_indexByteString s c w)⟩
def GC (xs ys:List Int):Int:=Extern.BytealgCompare.cmp (lA xs) (lA ys)
theorem run_loadBytes {P:Program} {R:Fz} {w:World} {b:Nat} {c:Array Value} {T:TypeId} {fr:Nat×Nat} (h:w.heap[b]? = some (.cells c T fr)):
  ∀ (xs:List Int) (off:Nat) (acc:BA),Cs.h R (xs.flatMap (aP .u8).enc) ((c.toList.drop off).take xs.length)->(Extern.Bytes.loadBytes ⟨b,off,none⟩ xs.length acc).run P w = .ok ⟨(acc.data.toList++xs.map λn=>UInt8.ofNat n.toNat).toArray⟩ w
 | [],off,acc,_=>by simp [Extern.Bytes.loadBytes]
 | x::xs,off,acc,hc=>by
  have hlen:=bV.length hc
  simp only [List.flatMap_cons,List.length_append,List.length_take,List.length_drop,List.length_cons] at hlen
  have h1:((aP .u8).enc x).length=1:=rfl
  have hlt:off<c.toList.length:=om
  rw [List.drop_eq_getElem_cons hlt,List.length_cons,List.take_succ_cons] at hc
  cases hc with
  | cons a1 a2=>
   have e:=a1
   simp only [ez] at e
   have hcell:c[off]? = some (.int .u8 x):=by
    have:c.toList[off]? = some (.int .u8 x):=by rw [gE hlt,e]
    simpa using this
   have ih:=run_loadBytes (P:=P) h xs (off+1) (acc.push (UInt8.ofNat x.toNat)) a2
   simp only [List.length_cons,Extern.Bytes.loadBytes,Sem.run_bind,run_load,ny h,hcell,Result.andThen_ok,add_eq]
   have ih2:(Extern.Bytes.loadBytes ⟨b,off+1,none⟩ xs.length (acc.push x.toNat.toUInt8)).run P w=_:=ih
   rw [ih2]
   simp [ByteArray.push]
theorem tD {P:Program} {R:Fz} {w:World} {l:List As} {u:Value} {xs:List Int} (h:(sl (aP .u8) xs).p R u) (hst:St R l w):(Extern.Bytes.bytesOf u).run P w = .ok (lA xs) w:=by
 rcases h with⟨a,c,e,e2⟩|⟨b,off,c,bT,fr,cs,e,hl,hm,hc,hh⟩
 ·subst e2
  cases a <;> simp [e,Extern.Bytes.bytesOf,Extern.Bytes.loadBytes,lA] <;> rfl
 ·have hb:=hst.base.uN b _ hm
  have e1:(aP IntKind.u8).sz=1:=rfl
  rw [e1,Nat.mul_one] at hh
  have:=run_loadBytes (P:=P) hb xs off .empty hh
  simp only [e,Extern.Bytes.bytesOf,this]
  rfl
theorem Iy {P : Program} {f : FuncId} {fn : Func} {xs ys : List Int} (hf : P.funcs[f]? = some fn) (hn : (fn.name == "runtime.NumGoroutine") = false) (hb : fn.body = none) (h1 : (Extern.findNext fn).isNone = true) (h2 : Extern.find fn = some Extern.BytealgCompare.compare) :
  Xt P f [sl (aP .u8) xs,sl (aP .u8) ys] (eq (.int .i64 (GC xs ys))):=λR w l us hu hst=>by
 cases hu with
 | cons a1 hu=>cases hu with
  | cons a2 hu=>
   cases hu
   refine⟨_,rfl,yi hf hn hb h1 h2 ?_⟩
   rename_i v1 v2
   show(do let x <- Extern.Bytes.bytesOf v1;let y <- Extern.Bytes.bytesOf v2;pure (goInt (Extern.BytealgCompare.cmp x y)):Sem Value).run P w=_
   simp only [Sem.run_bind,tD a1 hst,tD a2 hst,Result.andThen_ok,Sem.run_pure]
   rfl
theorem Bz {P:Program} {w:World} {x y:Operand} {xT:TypeId} {kd ky:IntKind} {m m':Int} (h:0<=m'/\m'.toNat<=kd.bits):(do eqGuard .shr xT x y (.int kd m) (.int ky m');binOp .shr xT (.int kd m) (.int ky m'):Sem Value).run P w = .ok (.int kd (m.fdiv (2 ^ m'.toNat))) w:=by
 have h1:¬ m'<0:=om
 simp [eqGuard,binOp,Op.shift,h1,Nat.min_eq_left h.2]
def Fa (P:Program) (Q:List VP->VP->Prop):VP:=
 ⟨λR v=>∃ f,∃ fst cap:Array Value,v = .func (.func f) fst cap/\fx P f=true/\∀ vs ret,Q vs ret->∀ R',R.le R'->∀ (F:List As) (w:World) (us:List Value),Cs.h R' vs us->St R' F w->
   Calls P f ((fst.toList++us++cap.toList).toArray) w λe w'=>∃ R'' v,R'.le R''/\e = .returned v/\ret.p R'' v/\St R'' F w',
 λhR ⟨f,fst,cap,e,hc,h⟩=>⟨f,fst,cap,e,hc,λvs ret hq R' hR'=>h vs ret hq R' (Fz.le_trans hR hR')⟩⟩
theorem oQ {P:Program} {Q:List VP->VP->Prop}:One (Fa P Q):=λ_ _ h=>by
 obtain⟨f,fst,cap,e,_⟩:=h;subst e;rfl
theorem tA {P:Program} {f:FuncId} {Q:List VP->VP->Prop} (hc:fx P f=true) (h:∀ vs ret,Q vs ret->Pt P f vs ret):Wk (eq (.func (.func f) #[] #[])) (Fa P Q):=λR v hv=>
 ⟨f,#[],#[],hv,hc,λvs ret hq R' _ F w us hu hs=>by simpa using h vs ret hq R' F w us hu hs⟩
section
variable {P:Program} {ops:Array Oper} {n:Nat} {dr:Bool} {R0:Fz} {K:KU} {E:Env} {l:List As} {pend:List (Nat×(List As->Prop))} {rest:List (Nat×Bool)} {i d:Nat}
variable {T:TypeId} {ps:String} {af:Array Edge} {g:Option (Nat×Bool)} {x y:Operand}
theorem Dv.mkf {f:FuncId} {fs cs:Array Operand} {vf vc:List VP} {Q:List VP->VP->Prop} (hc:fx P f=true) (h:∀ vs ret,Q vs ret->Pt P f (vf++vs++vc) ret) (ho:opAt ops.toList i=some ⟨some d,.makeFunc (.func f) fs cs,T,ps,af,g⟩) (hg:fZ ops E g)
  (hf:opvs E fs.toList=some vf) (hcp:opvs E cs.toList=some vc)
  (k:Dv P ops n dr R0 K ((d,Fa P Q)::E) l ((i,tt)::pend) rest):Dv P ops n dr R0 K E l pend ((i,false)::rest):=
 Dv.mg _ _ ho (eV.pure hg λR a w hh=>by
  have h1:=iE (a:=a) (R:=R) (λx hx p hp=>hh x (by simp [Op.operands];exact .inl (by simpa using hx)) p hp) hf
  have h2:=iE (a:=a) (R:=R) (λx hx p hp=>hh x (by simp [Op.operands];exact .inr (by simpa using hx)) p hp) hcp
  refine⟨.func (.func f) (fs.map a.eval) (cs.map a.eval),⟨f,_,_,rfl,hc,λvs ret hq R' hR F w us hu hs=>?_⟩,by simp [execOp,Instr.makeFunc]⟩
  have:=h vs ret hq R' F w (fs.toList.map a.eval++us++cs.toList.map a.eval) (((Cs.mono hR h1).append hu).append (Cs.mono hR h2)) hs
  simpa using this) trivial k
theorem Dv.ql {as:Array Operand} {ts:Array TypeId} {vs:List VP} {ret:VP} {Q:List VP->VP->Prop} (ho:opAt ops.toList i=some ⟨some d,.call ⟨.value x,as,ts⟩,T,ps,af,g⟩) (hg:fZ ops E g)
  (hx:opv E x=some (Fa P Q)) (hv:opvs E as.toList=some vs) (hq:Q vs ret) (k:Dv P ops n dr R0 K ((d,ret)::E) l ((i,tt)::pend) rest):Dv P ops n dr R0 K E l pend ((i,false)::rest):=
 Dv.mg tt ret ho (λR a w l _ _ hs _ hst K Q' hk=>by
  obtain⟨f,fst,cap,e,hc,h⟩:=hs.op (x:=x) (by simp [Op.operands,Call.operands]) hx
  refine me (R:=R) (f:=f) (cap:=cap) (fst:=fst) rfl (j9 hs hg) hc rfl e ?_
  have:=iE (λx hx p hp=>hs.op (by simp [Op.operands,Call.operands];exact .inr (by simpa using hx)) hp) hv
  refine(h vs ret hq R (Fz.le_refl R) l w _ (by simpa using this) hst).mono ?_
  rintro e w' ⟨R',v,hR,he,hv,hst'⟩
  exact⟨v,he,hk R' v w' hR hv hst'⟩) trivial k
end
theorem nB {n:Nat} {R0:Fz} {E E':Env} {l l':List As} {b:Nat} {T:TypeId} {ps:Cs} (j:Nat) (hj:l[j]? = some (ar b T ps)) (hE:Jm (.pointer (some ⟨b,0,none⟩)) (rp ps) E E') (hl:bV (Jd (.pointer (some ⟨b,0,none⟩)) (rp ps)) (l.eraseIdx j) l'):
  Gh n R0 E l (γ:=Unit) (λ_=>True) (λ_=>E') (λ_=>l'):=λR a w _ ha hs=>by
 obtain⟨m,hm,hk⟩:=hs.eF hj
 obtain⟨cs,e,hc⟩:=hm
 have hlen:=bV.length hc
 have hq:(rp ps).p (R.plus m) (.pointer (some ⟨b,0,none⟩)):=by
  refine⟨b,0,T,(0,0),cs.toArray,rfl,.inr (by rw [e];exact List.mem_cons_self ..),by simp [hlen],?_⟩
  rw [List.drop_zero,hlen,List.take_of_length_le sM]
  exact Cs.mono (R.mS m) hc
 obtain⟨m2,h2,hw⟩:=(St.freeze hk).nf
 exact⟨(),R.plus m,trivial,R.mS m,⟨ha.1,ha.2.1,λt p' hp'=>by
  obtain⟨p,h1,h2⟩:=hE t p' hp'
  exact h2 _ _ hq (p.mono (R.mS m) (ha.2.2 t p h1))⟩,St.nh (AJ hq hl h2) hw⟩
theorem zt {p q:VP} (h:Wk p q) (k:One p):ma p [q]:=λR v hv=>by
 obtain⟨h1,h2⟩:=cells_one k R v hv
 rw [pY (k R v hv)]
 exact⟨.cons (h R v hv) .nil,λu hu=>by
  have e:u=v:=by simpa using hu
  rw [e];exact k R v hv⟩
theorem HS {ps ps':Cs} (h:bV Wk ps ps'):Wk (rp ps) (rp ps'):=λ_ _ ⟨b,off,T,fr,cs,e,hm,hl,hc⟩=>by
 have hlen:=bV.length h
 exact⟨b,off,T,fr,cs,e,hm,om,by rw [<- hlen];exact vE h hc⟩
section
variable {P:Program} {ops:Array Oper} {n:Nat} {dr:Bool} {R0:Fz} {K:KU} {E:Env} {l:List As} {pend:List (Nat×(List As->Prop))} {rest:List (Nat×Bool)} {i d:Nat}
variable {T:TypeId} {ps:String} {af:Array Edge} {g:Option (Nat×Bool)} {x y:Operand}
theorem Dv.HC {f:FuncId} {as:Array Operand} {ts:Array TypeId} {vs:List VP} {ret:VP} (ho:opAt ops.toList i=some ⟨some d,.call ⟨.value x,as,ts⟩,T,ps,af,g⟩) (hg:fZ ops E g)
  (hx:opv E x=some (eq (.func (.func f) #[] #[]))) (hc:fx P f=true) (hv:opvs E as.toList=some vs) (ht:Pt P f vs ret) (k:Dv P ops n dr R0 K ((d,ret)::E) l ((i,tt)::pend) rest):Dv P ops n dr R0 K E l pend ((i,false)::rest):=
 Dv.mg tt ret ho (λR a w l _ _ hs _ hst K Q' hk=>by
  have e:=hs.op (x:=x) (by simp [Op.operands,Call.operands]) hx
  simp only [ez] at e
  refine me (R:=R) (f:=f) (cap:=#[]) (fst:=#[]) rfl (j9 hs hg) hc rfl e ?_
  have:=iE (λx hx p hp=>hs.op (by simp [Op.operands,Call.operands];exact .inr (by simpa using hx)) hp) hv
  refine(ht R l w _ (by simpa using this) hst).mono ?_
  rintro e w' ⟨R',v,hR,he,hv,hst'⟩
  exact⟨v,he,hk R' v w' hR hv hst'⟩) trivial k
theorem Dv.ixa {α:Type} {Kd:Kd α} {xs:List α} {t e m:TypeId} {ed:TypeDesc} {ik:IntKind} {j:Int} {qs:Cs} {p:VP} (ho:opAt ops.toList i=some ⟨some d,.index t x y,T,ps,af,g⟩) (hg:fZ ops E g) (hx:opv E x=some (agg qs)) (hq:qs=xs.flatMap Kd.enc) (hy:opv E y=some (eq (.int ik j)))
  (hu:P.underlying t=some (.array m e)) (hv:P.underlying e=some ed) (hd:qe ed=false) (hz:P.cellsOf e=1) (hk:Kd.sz=1) (hm:xs.length=m) (h0:0<=j) (h1:j<xs.length) (hp2:Kd.enc (Kd.at xs j)=[p]) (k:Dv P ops n dr R0 K ((d,p)::E) l ((i,tt)::pend) rest):Dv P ops n dr R0 K E l pend ((i,false)::rest):=
 Dv.mg _ _ ho (eV.pure hg λR a w h=>by
  obtain⟨cs,e1,hc⟩:=h x (by simp [Op.operands]) _ hx
  have e2:=h y (by simp [Op.operands]) _ hy
  simp only [ez] at e2
  have hj:j.toNat<xs.length:=om
  have hl:=bV.length hc
  rw [hq,cO,hk,Nat.mul_one] at hl
  have hh:Cs.h R (xs.flatMap Kd.enc) ((cs.drop 0).take (xs.length*Kd.sz)):=by
   rw [List.drop_zero,hk,Nat.mul_one,hl,List.take_length,<- hq];exact hc
  have:=Cs.elem hj hh
  rw [show xs.getD j.toNat Kd.qx=Kd.at xs j from rfl,hp2,hk,Nat.mul_one,Nat.zero_add] at this
  obtain⟨v,hv1,hpv⟩:=ov this (j:=0) rfl
  have hcv:cs[j.toNat]? = some v:=by
   rw [List.getElem?_take] at hv1
   simpa using hv1
  refine⟨v,hpv,?_⟩
  simp [execOp,Instr.index,asIntOf,underlying,e1,e2,hu,h0,hm ▸ h1,aR hv hd (cs:=cs.toArray) (off:=j.toNat) hcv,run_sizeOf hv hz,asAgg]) trivial k
theorem Dv.GM {t e m sz:TypeId} {ed:TypeDesc} {parts:List (Nat×Operand)} {z:Value} {vs:List VP} {css:List Cs} {qs:Cs} (ho:opAt ops.toList i=some ⟨some d,.build t parts.toArray,T,ps,af,g⟩) (hg:fZ ops E g)
  (hu:P.underlying t=some (.array m e)) (hv2:P.underlying e=some ed) (hz2:P.cellsOf e=sz) (hz:mz P t=some z) (hv:opvs E (parts.map (·.2))=some vs) (hcs:rQ vs css) (hlen:css.length=parts.length)
  (hr:fillC (λj=>some (j*sz,sz)) (z.cells.toList.map eq) ((parts.map (·.1)).zip css)=some qs) (k:Dv P ops n dr R0 K ((d,agg qs)::E) l ((i,tt)::pend) rest):Dv P ops n dr R0 K E l pend ((i,false)::rest):=
 Dv.mg _ _ ho (eV.pure hg λR a w h=>by
  have h1:=iE (a:=a) (R:=R) (λx hx p hp=>h x (by simp [Op.operands];exact(by simpa using hx)) p hp) hv
  have h2:=bV.zip (ru:=parts.map (·.1)) (pS hcs h1) (by simp [hlen])
  obtain⟨us,h3,h4⟩:=w9 h2 (yH z.cells) hr
  refine⟨_,⟨us,rfl,h4⟩,?_⟩
  rw [rf] at h3
  simp only [Array.toArray_toList] at h3
  simp only [execOp,Instr.build,Sem.run_bind,lh hz,Result.andThen_ok,underlying,run_program,hu,Sem.run_pure,run_sizeOf hv2 hz2]
  simp only [List.map_toArray,h3]
  rfl) trivial k
end
def qC (b:Nat) (T:TypeId) (cs:List Value):As:=⟨λ_ m=>m=[(b,.cells cs.toArray T)],λ_ h=>h⟩
section
variable {R:Fz} {w:World} {l:List As} {α:Type} {Kd:Kd α} {v:Value} {xs:List α}
theorem Bo (j:Nat) (hj:l[j]? = some (own Kd v xs)) (h0:xs≠[]) (h:St R l w):∃ b off c T,∃ cs:List Value,v = .slice (some ⟨b,off,none⟩) xs.length c/\xs.length<=c/\off+c*Kd.sz<=cs.length/\Cs.h R (xs.flatMap Kd.enc) ((cs.drop off).take (xs.length*Kd.sz))/\St R (l.set j (qC b T cs)) w:=by
 obtain⟨m,hm,hk⟩:=h.eF hj
 rcases hm with⟨_,_,e,_⟩|⟨b,off,c,T,fr,cs,e,hl,hm,hc,hf,hh⟩
 ·exact absurd e h0
 ·subst hf
  exact⟨b,off,c,T,cs,e,hl,hc,hh,St.shut hj (show(qC b T cs).p R m from hm) hk⟩
theorem II {b off n c:Nat} {T:TypeId} {cs:List Value} {zs:List α} (j:Nat) (hj:l[j]? = some (qC b T cs)) (hn:zs.length=n) (hl:n<=c) (hc:off+c*Kd.sz<=cs.length) (hh:Cs.h R (zs.flatMap Kd.enc) ((cs.drop off).take (n*Kd.sz))) (h:St R l w):
  St R (l.set j (own Kd (.slice (some ⟨b,off,none⟩) n c) zs)) w:=by
 obtain⟨m,hm,hk⟩:=h.eF hj
 subst hn
 exact St.shut hj (.inr ⟨b,off,c,T,(0,0),cs,rfl,hl,hm,hc,rfl,hh⟩) hk
end
section
variable {R:Fz} {w:World} {l:List As} {α:Type} {Kd:Kd α} {v:Value} {xs:List α}
theorem mL (us:List Value):Cs.h R (us.map eq) us:=by
 induction us with
 | nil=>exact .nil
 | cons u us ih=>exact .cons rfl ih
theorem G8 (j:Nat) (hj:l[j]? = some (own Kd v xs)) (h0:xs≠[]) (h:St R l w):∃ b off c T,∃ A C:Cs,v = .slice (some ⟨b,off,none⟩) xs.length c/\xs.length<=c/\A.length=off/\off+c*Kd.sz<=(A++xs.flatMap Kd.enc++C).length/\St R (l.set j (ar b T (A++xs.flatMap Kd.enc++C))) w:=by
 obtain⟨b,off,c,T,cs,e,hl,hc,hh,hst⟩:=Bo j hj h0 h
 have h5:=Nat.mul_le_mul_right Kd.sz hl
 have hlen:=bV.length hh
 have e1:cs=cs.take off++(cs.drop off).take (xs.length*Kd.sz)++cs.drop (off+xs.length*Kd.sz):=by
  rw [<- List.drop_drop,List.append_assoc,List.take_append_drop,List.take_append_drop]
 refine⟨b,off,c,T,(cs.take off).map eq,(cs.drop (off+xs.length*Kd.sz)).map eq,e,hl,by simp;omega,?_,?_⟩
 ·have hlen2:=cO (K:=Kd) xs
  simp only [List.length_append,List.length_map,List.length_take,List.length_drop,hlen2]
  omega
 ·obtain⟨m,hm,hk⟩:=hst.eF (j:=j) (A:=qC b T cs) (by rw [List.getElem?_set_self (by have:=List.getElem?_eq_some_iff.1 hj;exact this.1)])
  rw [List.eraseIdx_set_eq] at hk
  refine St.shut hj ⟨cs,hm,?_⟩ hk
  have e2:Cs.h R _ (cs.take off++(cs.drop off).take (xs.length*Kd.sz)++cs.drop (off+xs.length*Kd.sz)):=((mL (R:=R) (cs.take off)).append hh).append (mL (cs.drop (off+xs.length*Kd.sz)))
  rw [<- e1] at e2
  exact e2
end
section
variable {P:Program} {ops:Array Oper} {n:Nat} {dr:Bool} {R0:Fz} {K:KU} {E:Env} {l:List As} {pend:List (Nat×(List As->Prop))} {rest:List (Nat×Bool)} {i d:Nat}
variable {T:TypeId} {ps:String} {af:Array Edge} {g:Option (Nat×Bool)} {x y:Operand} {α:Type} {Kd:Kd α}
theorem Dv.slk {t e:TypeId} {ed:TypeDesc} {lo hi:Option Operand} {b off m c p q sz:Nat} (ho:opAt ops.toList i=some ⟨some d,.slice t x lo hi none,T,ps,af,g⟩) (hg:fZ ops E g) (hx:opv E x=some (eq (.slice (some ⟨b,off,none⟩) m c))) (hu:P.underlying t=some (.slice e)) (hv:P.underlying e=some ed) (hz:P.cellsOf e=sz)
  (hl:tO E 0 lo p) (hh:tO E m hi q) (h1:p<=q) (h2:q<=c)
  (k:Dv P ops n dr R0 K ((d,eq (.slice (some ⟨b,if c=p then off else off+p*sz,none⟩) (q-p) (c-p)))::E) l ((i,tt)::pend) rest):Dv P ops n dr R0 K E l pend ((i,false)::rest):=
 Dv.mg _ _ ho (eV.pure hg λR a w h=>by
  have e0:=h x lF _ hx
  simp only [ez] at e0
  have b1:=nJ (a:=a) hl (λz p e hp=>h z (fA (.inl e)) p hp)
  have b2:=nJ (a:=a) hh (λz p e hp=>h z (fA (.inr (.inl e))) p hp)
  have:=jo (P:=P) (w:=w) (is:=true) b1 b2 (mx:=none) (cap:=c) (m:=c) (.inl ⟨rfl,rfl⟩) h1 h2 (Nat.le_refl _) sM
  refine⟨_,rfl,?_⟩
  simp only [execOp,Instr.sliceAt,Instr.slice,e0,underlying,hu,Sem.run_bind,run_program,Sem.run_pure,Result.andThen_ok,Option.map_none,this,run_sizeOf hv hz]
  by_cases hcp:c=p <;> simp [hcp,add_eq]) trivial k
theorem Dv.capk {t e:TypeId} {ad:Option Addr} {m c:Nat} (ho:opAt ops.toList i=some ⟨some d,.call ⟨.builtin .cap,#[x],#[t]⟩,T,ps,af,g⟩) (hg:fZ ops E g) (hx:opv E x=some (eq (.slice ad m c))) (hu:P.underlying t=some (.slice e))
  (k:Dv P ops n dr R0 K ((d,eq (.int .i64 c))::E) l ((i,tt)::pend) rest):Dv P ops n dr R0 K E l pend ((i,false)::rest):=
 Dv.mg _ _ ho (eV.pure hg λR a w h=>⟨_,rfl,by
  have e0:=h x (by simp [Op.operands,Call.operands]) _ hx
  simp only [ez] at e0
  simp [execOp,resolve,invoke,builtin,Builtin.cap_,e0,underlying,hu,goInt]⟩) trivial k
def zf (P:Program) (sz:Nat) (l:List As) (p:VP) (n k:Nat) (qs:Cs):Prop:=∀ R w u,St R l w->p.p R u->∃ us:List Value,Cs.h R qs us/\(∀ z∈us,z.oneCell'=true)/\
 (Builtin.lenOf u).run P w = .ok n w/\(Builtin.firstCells sz k u).run P w = .ok us.toArray w
theorem Fu {xs:List α} {k:Nat} (hk:k<=xs.length):zf P Kd.sz l (sl Kd xs) xs.length k ((xs.take k).flatMap Kd.enc):=λR w u hst hp=>by
 have hone:∀ {us:List Value},Cs.h R ((xs.take k).flatMap Kd.enc) us->∀ z∈us,z.oneCell'=true:=λh=>Cs.Av (λq hq=>by
  obtain⟨y,_,hy⟩:=List.mem_flatMap.1 hq
  exact λR v hv=>Kd.one y q hy R v hv) h
 rcases hp with⟨a,c,e,e2⟩|⟨b,off,c,bT,fr,cs,e,hl,hm,hc,hh⟩
 ·subst e2
  have:k=0:=by simpa using hk
  subst this
  exact⟨[],.nil,sM,by simp [e,Builtin.lenOf],by cases a <;> simp [e,Builtin.firstCells,loadCells,loadCellsFrom]⟩
 ·have hb:=hst.base.uN b _ hm
  have h5:=Nat.mul_le_mul_right Kd.sz (Nat.le_trans hk hl)
  have h6:=lz (Kd:=Kd) (p:=0) (q:=k) hk (Nat.zero_le _) hh
  simp only [List.drop_zero,Nat.zero_mul,Nat.add_zero,List.length_take,Nat.min_eq_left hk] at h6
  refine⟨_,h6,hone h6,by simp [e,Builtin.lenOf],?_⟩
  rw [e]
  exact run_loadCells (c:=cs) (T:=bT) (fr:=fr) hb om
theorem ET {b off n c k sz:Nat} {bT:TypeId} {ps:Cs} (hA:ar b bT ps∈l) (ho:zO ((ps.drop off).take (k*sz))) (hk:off+k*sz<=ps.length):zf P sz l (eq (.slice (some ⟨b,off,none⟩) n c)) n k ((ps.drop off).take (k*sz)):=λR w u hst hp=>by
 simp only [ez] at hp
 subst hp
 obtain⟨cs,hb,hc⟩:=pz hA hst
 have hl:=bV.length hc
 have h1:Cs.h R ((ps.drop off).take (k*sz)) ((cs.drop off).take (k*sz)):=bV.take (bV.drop hc _) _
 exact⟨_,h1,Cs.Av ho h1,by simp [Builtin.lenOf],run_loadCells (c:=cs.toArray) hb (by simp;omega)⟩
theorem Dv.cpk {t t2 e:TypeId} {ed:TypeDesc} {b off m c n' sz jj:Nat} {bT:TypeId} {ps' qs:Cs} {p:VP} (ho:opAt ops.toList i=some ⟨some d,.call ⟨.builtin .copy,#[x,y],#[t,t2]⟩,T,ps,af,g⟩) (hg:fZ ops E g) (hx:opv E x=some (eq (.slice (some ⟨b,off,none⟩) m c))) (hy:opv E y=some p)
  (hu:P.underlying t=some (.slice e)) (hv:P.underlying e=some ed) (hz:P.cellsOf e=sz) (hs:zf P sz l p n' (min n' m) qs) (hjj:l[jj]? = some (ar b bT ps')) (hle:off+qs.length<=ps'.length)
  (hp:dr=true->∀ z∈pend,((Region.before ops).getD i 0).testBit z.1=true\/∀ _:Unit,z.2 (l.set jj (ar b bT (oO ps' off qs))))
  (k:Dv P ops n dr R0 K ((d,eq (.int .i64 (min n' m:Nat)))::E) (l.set jj (ar b bT (oO ps' off qs))) pend rest) (hkb:K.kZ E l pend ((i,true)::rest):=by first | exact trivial | assumption):Dv P ops n dr R0 K E l pend ((i,true)::rest):=
 .kZ _ (γ:=Unit) (λ_=>True) (λ_=>eq (.int .i64 (min n' m:Nat))) (λ_=>l.set jj (ar b bT (oO ps' off qs))) (fC ho) (iV.val hg λR a w h hst=>by
  have e1:=h x (by simp [Op.operands,Call.operands]) _ hx
  have e2:=h y (by simp [Op.operands,Call.operands]) _ hy
  simp only [ez] at e1
  obtain⟨us,hus,hone,hr1,hr2⟩:=hs R w _ hst e2
  obtain⟨mm,⟨cs,rfl,hcs⟩,hk⟩:=hst.eF hjj
  have hh:=(je.base hk).get
  have hl:=bV.length hus
  have hl2:=bV.length hcs
  obtain⟨w',hr,hb⟩:=oH (P:=P) us off 0 hh hone om sM
  refine⟨(),R,_,w',trivial,Fz.le_refl R,rfl,St.shut hjj ⟨_,rfl,Cs.gN hcs hus⟩ (je.to (Fz.le_refl R) (λx hx=>by simpa using hb R x hx) hk),?_⟩
  have hmin:Nat.min n' m=min n' m:=rfl
  simp [execOp,resolve,invoke,builtin,Builtin.copy_,e1,run_underlying hu,hr1,hr2,run_sizeOf hv hz,hmin,hr,goInt]) (λe z hz=>(hp e z hz).imp id λh b _=>h b) (λ_ _=>k) hkb
theorem o0 (z:Array Value) (a b:Nat):Builtin.zeroCells z a++Builtin.zeroCells z b=Builtin.zeroCells z (a+b):=by
 unfold Builtin.zeroCells
 rw [Nat.add_mul]
 apply Array.ext'
 simp only [Array.toList_append,Array.toList_map,Array.toList_range,List.range_add,List.map_append,List.map_map]
 congr 1
 apply List.map_congr_left
 intro i _
 simp [Nat.add_comm,Nat.add_mul_mod_self_right]
theorem Dv.apmk {t e ti2:TypeId} {ti:TypeInfo} {z:Value} {b off m c sz by_ jj:Nat} {bT:TypeId} {ps':Cs} {k0:Int} {ik:IntKind} (ho:opAt ops.toList i=some ⟨some d,.call ⟨.builtin .append,#[x,y],#[t,ti2]⟩,T,ps,af,g⟩) (hg:fZ ops E g) (hx:opv E x=some (eq (.slice (some ⟨b,off,none⟩) m c))) (hy:opv E y=some (eq (.int .i64 k0)))
  (hu:P.underlying t=some (.slice e)) (hu2:P.underlying ti2=some (.int ik)) (hti:P.info? e=some ti) (hsz:ti.size=sz) (hz:ti.zero=some z) (hby:ti.bytes=by_) (hzs:z.cells.size=sz) (h0:0<sz) (hk0:0<=k0) (hmc:m<=c) (hgrow:c<m+k0.toNat) (hsm:m+k0.toNat<=9223372036854775807) (hb:(m+k0.toNat)*by_<=140737488355328)
  (hA:l[jj]? = some (ar b bT ps')) (hle:off+m*sz<=ps'.length)
  (hp:dr=true->∀ q∈pend,((Region.before ops).getD i 0).testBit q.1=true\/∀ v':Nat×Nat,m+k0.toNat<=v'.2->q.2 (ar v'.1 e ((ps'.drop off).take (m*sz)++(Builtin.zeroCells z.cells (v'.2-m)).toList.map eq)::l))
  (k:∀ v':Nat×Nat,m+k0.toNat<=v'.2->Dv P ops n dr R0 K ((d,eq (.slice (some ⟨v'.1,0,none⟩) (m+k0.toNat) v'.2))::E) (ar v'.1 e ((ps'.drop off).take (m*sz)++(Builtin.zeroCells z.cells (v'.2-m)).toList.map eq)::l) pend rest) (hkb:K.kZ E l pend ((i,true)::rest):=by first | exact trivial | assumption):Dv P ops n dr R0 K E l pend ((i,true)::rest):=by
 refine .kZ _ (γ:=Nat×Nat) (λv'=>m+k0.toNat<=v'.2) (λv'=>eq (.slice (some ⟨v'.1,0,none⟩) (m+k0.toNat) v'.2)) (λv'=>ar v'.1 e ((ps'.drop off).take (m*sz)++(Builtin.zeroCells z.cells (v'.2-m)).toList.map eq)::l) (fC ho) (iV.val hg λR a w h hst=>?_) (λe q hq=>(hp e q hq)) k hkb
 have e1:=h x (by simp [Op.operands,Call.operands]) _ hx
 have e2:=h y (by simp [Op.operands,Call.operands]) _ hy
 simp only [ez] at e1 e2
 obtain⟨cs,hh,hcs⟩:=pz (List.mem_of_getElem? hA) hst
 have hl2:=bV.length hcs
 have hw:IntKind.i64.wrap k0=k0:=by
  have:k0<=9223372036854775807:=om
  simp only [IntKind.wrap,IntKind.signed,IntKind.bits]
  simp
  omega
 let nc:=(Question.appendCap (m+k0.toNat) c e).cut (w.tape w.drawn (.appendCap (m+k0.toNat) c e))
 have hnc:m+k0.toNat<=nc:=Nat.le_add_right _ _
 have hz1:∀ w,(zeroValue e).run P w = .ok z w:=λw=>by simp [zeroValue,typeInfo,hti,hz]
 have h3:¬ (Builtin.nextslicecap (m+k0.toNat) c*ti.bytes>2 ^ 48):=by
  have h4:=Nat.mul_le_mul_right ti.bytes (wh (m+k0.toNat) c hgrow)
  rw [Nat.mul_assoc,hby] at h4
  rw [hby]
  omega
 have hld:(loadCells ⟨b,off,none⟩ (m*sz)).run P w.drew = .ok ((cs.drop off).take (m*sz)).toArray w.drew:=run_loadCells (c:=cs.toArray) (T:=bT) (fr:=(0,0)) hh (by simp;omega)
 refine⟨(w.heap.size,nc),R,_,w.drew.alloc (.cells (((cs.drop off).take (m*sz)).toArray++Builtin.zeroCells z.cells (nc-m)) e),hnc,Fz.le_refl R,rfl,?_,?_⟩
 ·refine(hst.drew _ (Nat.le_succ _)).alloc (o:=.cells (((cs.drop off).take (m*sz)).toArray++Builtin.zeroCells z.cells (nc-m)) e) ⟨(cs.drop off).take (m*sz)++(Builtin.zeroCells z.cells (nc-m)).toList,?_,(bV.take (bV.drop hcs _) _).append (mL _)⟩
  simp
 ·have e5:Builtin.zeroCells z.cells k0.toNat++Builtin.zeroCells z.cells (nc-(m+k0.toNat))=Builtin.zeroCells z.cells (nc-m):=by
   rw [o0];congr 1;omega
  have h1:¬ (m+k0.toNat<=c):=om
  have hbb:¬ (281474976710656<k0*(ti.bytes:Int)):=by
   have h7:k0.toNat*by_<=(m+k0.toNat)*by_:=Nat.mul_le_mul_right _ om
   have h8:k0*(ti.bytes:Int)=((k0.toNat*by_:Nat):Int):=by rw [hby,Int.natCast_mul,Int.toNat_of_nonneg hk0]
   rw [h8]
   have h10:k0.toNat*by_<=140737488355328:=Nat.le_trans h7 hb
   omega
  have h3':¬ (281474976710656<Builtin.nextslicecap (m+k0.toNat) c*ti.bytes):=om
  have h63:¬ (9223372036854775807<(m:Int)+max k0 0):=om
  have hne:¬ (k0.toNat*sz=0):=by
   intro h9
   rcases Nat.mul_eq_zero.1 h9 with h | h <;> omega
  have hk1:¬ k0<0:=om
  simp only [execOp,resolve,invoke,builtin,Builtin.append_,List.getElem?_toArray]
  simp [e1,e2,run_underlying hu,run_underlying hu2,sizeOf,typeInfo,zeroValue,hti,hz,hsz,asInt,asIntOf,hw,hk1,hbb,h1,h63,h3',hne,Question.forced,Builtin.firstCells,hld,newRow]
  exact⟨rfl,congrArg (λq=>w.drew.alloc (Obj.cells (((cs.drop off).take (m*sz)).toArray++q) e)) e5⟩
def anyV:VP:=⟨λ_ _=>True,λ_ _=>trivial⟩
theorem Dv.sloa {t e:TypeId} {ed:TypeDesc} {lo:Option Operand} {v:Value} {xs:List α} {p:Nat} (ho:opAt ops.toList i=some ⟨some d,.slice t x lo none none,T,ps,af,g⟩) (hg:fZ ops E g) (hx:opv E x=some (eq v)) (hA:own Kd v xs∈l) (hu:P.underlying t=some (.slice e)) (hv:P.underlying e=some ed) (hz:P.cellsOf e=Kd.sz)
  (hl:tO E 0 lo p) (h1:p<=xs.length)
  (k:Dv P ops n dr R0 K ((d,anyV)::E) l ((i,(own Kd v xs∈·))::pend) rest):Dv P ops n dr R0 K E l pend ((i,false)::rest):=
 Dv.mg _ _ ho (eV.val hg λR a w l h hA hst=>by
  have e1:=h x lF _ hx
  simp only [ez] at e1
  have b1:=nJ (a:=a) hl (λz p e hp=>h z (fA (.inl e)) p hp)
  obtain⟨mm,hm,_⟩:=St.read hA hst
  obtain⟨ad,c,e2,hc⟩:∃ ad c,v = .slice ad xs.length c/\xs.length<=c:=by
   rcases hm with⟨a0,e0,e2,_⟩|⟨b,off,c,bT,fr,cs,e0,hlc,_⟩
   ·subst e2;exact⟨_,_,e0,Nat.le_refl _⟩
   ·exact⟨_,_,e0,hlc⟩
  have:=jo (P:=P) (w:=w) (is:=true) b1 (hi:=none) (len:=xs.length) (h:=xs.length) (.inl ⟨rfl,rfl⟩) (mx:=none) (cap:=c) (m:=c) (.inl ⟨rfl,rfl⟩) h1 hc (Nat.le_refl _) sM
  refine⟨R,.slice (if c=p then ad else ad.map (·.add (p*Kd.sz))) (xs.length-p) (c-p),w,Fz.le_refl R,trivial,hst,?_⟩
  simp only [execOp,Instr.sliceAt,Instr.slice,e1,e2,underlying,hu,Sem.run_bind,run_program,Sem.run_pure,Result.andThen_ok,Option.map_none,this,run_sizeOf hv hz]) hA k
end
theorem run_overlaps {P:Program} {w:World} {prm rs:Array TypeId} {t e:TypeId} {ed:TypeDesc} {sz b1 b2 o1 o2 la c1 lb c2:Nat} {d1 d2:Array Value} {T1 T2:TypeId} {f1:Nat×Nat} (hp:prm[0]? = some t) (hu:P.underlying t=some (.slice e)) (hv:P.underlying e=some ed) (hz:P.cellsOf e=sz)
  (h1:w.heap[b1]? = some (.cells d1 T1 f1)) (h2:w.heap[b2]? = some (.cells d2 T2)) (hne:b1≠b2) (h0:0<d1.size):
  (Extern.SlicesOverlaps.overlaps prm rs #[.slice (some ⟨b1,o1,none⟩) la c1,.slice (some ⟨b2,o2,none⟩) lb c2]).run P w = .ok (.bool false) w:=by
 have hb:((⟨b1,o1,none⟩:Addr).block != (⟨b2,o2,none⟩:Addr).block)=true:=by simp [hne]
 have hb':((⟨b1,o1,none⟩:Addr).block==(⟨b2,o2,none⟩:Addr).block)=false:=by simp [hne]
 have s1:w.shape? b1=some (T1,d1.size):=by simp [World.shape?,h1]
 have s2:w.shape? b2=some (T2,d2.size):=by simp [World.shape?,h2]
 have f2:∀ o,w.frozen? ⟨b2,o,none⟩=false:=λo=>by simp [World.frozen?,h2]
 show(do
  let some t := prm[0]? | stuck "slices.overlaps: no parameter types"
  let .slice elem ← underlying t | stuck "slices.overlaps: slice type expected"
  let size <- sizeOf elem
  if la=0\/lb=0\/size=0 then pure (.bool false)
  else if (⟨b1,o1,none⟩:Addr).block != (⟨b2,o2,none⟩:Addr).block&&(<- frozen ⟨b1,o1,none⟩)&&(<- frozen ⟨b2,o2,none⟩) then unsupported .addressObserved
  else do
   if (⟨b1,o1,none⟩:Addr).block != (⟨b2,o2,none⟩:Addr).block then do
    noView ⟨b1,o1,none⟩;noView ⟨b2,o2,none⟩
    if ← mayBeOne ⟨b1, o1, none⟩ ⟨b2, o2, none⟩ then return .bool ((← choose (.extern "sameAddr.stringBytes" 2)) == 1)
   pure (.bool ((⟨b1,o1,none⟩:Addr).block==(⟨b2,o2,none⟩:Addr).block&&(⟨b1,o1,none⟩:Addr).off<(⟨b2,o2,none⟩:Addr).off+lb*size&&(⟨b2,o2,none⟩:Addr).off<(⟨b1,o1,none⟩:Addr).off+la*size)):Sem Value).run P w=_
 simp [hp,run_underlying hu,run_sizeOf hv hz,f2,noView,viewAt,mayBeOne,stringish,s1,s2,hne]
 intro _ _ _
 obtain⟨k,hk⟩:∃ k,d1.size=k+1:=⟨d1.size-1,om⟩
 have hb3:(b1==b2)=false:=by simp [hne]
 simp [hk,hb3]
section
variable {P:Program} {ops:Array Oper} {n:Nat} {dr:Bool} {R0:Fz} {K:KU} {E:Env} {l:List As} {pend:List (Nat×(List As->Prop))} {rest:List (Nat×Bool)} {i d:Nat}
variable {T:TypeId} {ps:String} {af:Array Edge} {g:Option (Nat×Bool)} {x y:Operand} {α:Type} {Kd:Kd α}
theorem Dv.ovl {f:FuncId} {fn:Func} {t1 t2 t e:TypeId} {ed:TypeDesc} {prm rs:Array TypeId} {b o2 lb c2:Nat} {bT:TypeId} {qs:Cs} {ys:List α} (ho:opAt ops.toList i=some ⟨some d,.call ⟨.value (.func f),#[x,y],#[t1,t2]⟩,T,ps,af,g⟩) (hg:fZ ops E g)
  (hx:opv E x=some (sl Kd ys)) (hy:opv E y=some (eq (.slice (some ⟨b,o2,none⟩) lb c2))) (hA:ar b bT qs∈l) (h0:0<ys.length) (hsz:0<Kd.sz)
  (hf : P.funcs[f]? = some fn) (hn : (fn.name == "runtime.NumGoroutine") = false) (hb : fn.body = none) (h1 : (Extern.findNext fn).isNone = true) (h2 : Extern.find fn = some (Extern.SlicesOverlaps.overlaps prm rs)) (hp : prm[0]? = some t) (hu : P.underlying t = some (.slice e)) (hv : P.underlying e = some ed)
  (k:Dv P ops n dr R0 K ((d,eq (.bool false))::E) l ((i,(ar b bT qs∈·))::pend) rest):Dv P ops n dr R0 K E l pend ((i,false)::rest):=
 Dv.mg _ _ ho (eV.val hg λR a w l h hA hst=>by
  have e1:=h x (by simp [Op.operands,Call.operands]) _ hx
  have e2:=h y (by simp [Op.operands,Call.operands]) _ hy
  simp only [ez] at e2
  rcases e1 with⟨_,_,_,e3⟩|⟨b1,off,c,bT1,fr,cs,e3,hl,hm,hc,_⟩
  ·subst e3;simp at h0
  ·have hb1:=hst.base.uN b1 _ hm
   obtain⟨cs2,hb2,_⟩:=pz hA hst
   have hne:b1≠b:=by
    intro e4
    subst e4
    obtain⟨s,t',e5⟩:=List.append_of_mem hA
    have hst2:St R (ar b1 bT qs::(s++t')) w:=St.fY (by rw [e5];exact List.perm_middle) hst
    obtain⟨m,⟨cs3,rfl,_⟩,hk⟩:=hst2
    exact(je.base hk).BY (b1,.cells cs3.toArray bT) (List.mem_append_left _ (List.mem_cons_self ..)) _ hm
   have hpos:0<cs.size:=by
    have:=Nat.mul_le_mul_right Kd.sz (show 1<=c by omega)
    omega
   have hr:=run_overlaps (P:=P) (w:=w) (rs:=rs) (o1:=off) (o2:=o2) (la:=ys.length) (c1:=c) (lb:=lb) (c2:=c2) hp hu hv rfl hb1 hb2 hne hpos
   have hr2:=yi (args:=#[.slice (some ⟨b1,off,none⟩) ys.length c,.slice (some ⟨b,o2,none⟩) lb c2]) hf hn hb h1 h2 hr
   exact⟨R,_,w,Fz.le_refl R,rfl,hst,by simp [execOp,resolve,Deferred.ofValue,invoke,show a.eval (.func f) = .func (.func f) #[] #[] from rfl,e2,e3,hr2]⟩) hA k
end
section
variable {P:Program} {ops:Array Oper} {n:Nat} {dr:Bool} {R0:Fz} {K:KU} {E:Env} {l:List As} {pend:List (Nat×(List As->Prop))} {rest:List (Nat×Bool)} {i d:Nat}
variable {T:TypeId} {ps:String} {af:Array Edge} {g:Option (Nat×Bool)} {x y:Operand} {α:Type} {Kd:Kd α} {w:World} {xT:TypeId}
theorem zH {a:Nat} (h:a<=9223372036854775807):IntKind.i64.wrap (a:Int)=(a:Int):=by
 simp only [IntKind.wrap,IntKind.signed,IntKind.bits]
 simp
 omega
theorem oE {a b:Nat} (h:a+b<=9223372036854775807):(do eqGuard .add xT x y (.int .i64 (a:Int)) (.int .i64 (b:Int));binOp .add xT (.int .i64 (a:Int)) (.int .i64 (b:Int)):Sem Value).run P w = .ok (.int .i64 ((a+b:Nat):Int)) w:=by
 have:=zH h
 rw [Int.natCast_add] at this
 rw [q9,this,Int.natCast_add]
theorem Dq {a b:Nat} (hb:b<=a) (h:a<=9223372036854775807):(do eqGuard .sub xT x y (.int .i64 (a:Int)) (.int .i64 (b:Int));binOp .sub xT (.int .i64 (a:Int)) (.int .i64 (b:Int)):Sem Value).run P w = .ok (.int .i64 ((a-b:Nat):Int)) w:=by
 have e:(a:Int)-b=((a-b:Nat):Int):=om
 rw [BV,e,zH om]
theorem fJ {E:Env} {d:Nat} {x:Operand} {m:Nat} (h:opv E x=some (eq (.int .i64 (m:Int)))):tO E d (some x) m:=⟨_,_,h,Int.natCast_nonneg m,Int.toNat_natCast m⟩
theorem Dv.slkn {t e:TypeId} {ed:TypeDesc} {lo hi:Option Operand} {b off m c p q sz:Nat} (ho:opAt ops.toList i=some ⟨some d,.slice t x lo hi none,T,ps,af,g⟩) (hg:fZ ops E g) (hx:opv E x=some (eq (.slice (some ⟨b,off,none⟩) m c))) (hu:P.underlying t=some (.slice e)) (hv:P.underlying e=some ed) (hz:P.cellsOf e=sz)
  (hl:tO E 0 lo p) (hh:tO E m hi q) (h1:p<=q) (h2:q<=c) (h3:p<c\/p=0)
  (k:Dv P ops n dr R0 K ((d,eq (.slice (some ⟨b,off+p*sz,none⟩) (q-p) (c-p)))::E) l ((i,tt)::pend) rest):Dv P ops n dr R0 K E l pend ((i,false)::rest):=
 Dv.slk ho hg hx hu hv hz hl hh h1 h2 (by
  have e:(if c=p then off else off+p*sz)=off+p*sz:=by
   rcases h3 with h | h
   ·rw [if_neg om]
   ·subst h;simp
  rw [e];exact k)
end
section
variable {R:Fz} {l:List As} {α:Type} {Kd:Kd α} {v:Value} {xs:List α}
theorem zY (j:Nat) (hj:l[j]? = some (own Kd v xs)) (h0:xs≠[]):∀ R w,St R l w->∃ g:Nat×Nat×Nat×TypeId×Cs×Cs,(v = .slice (some ⟨g.1,g.2.1,none⟩) xs.length g.2.2.1/\xs.length<=g.2.2.1/\g.2.2.2.2.1.length=g.2.1/\g.2.1+g.2.2.1*Kd.sz<=(g.2.2.2.2.1++xs.flatMap Kd.enc++g.2.2.2.2.2).length)/\
  St R (l.set j (ar g.1 g.2.2.2.1 (g.2.2.2.2.1++xs.flatMap Kd.enc++g.2.2.2.2.2))) w:=λR w h=>by
 obtain⟨b,off,c,T,A,C,h1,h2,h3,h4,h5⟩:=G8 j hj h0 h
 exact⟨(b,off,c,T,A,C),⟨h1,h2,h3,h4⟩,h5⟩
theorem vA {b off n c:Nat} {T:TypeId} {ps:Cs} {zs:List α} (j:Nat) (hj:l[j]? = some (ar b T ps)) (hn:zs.length=n) (hl:n<=c) (hc:off+c*Kd.sz<=ps.length) (hh:(ps.drop off).take (n*Kd.sz)=zs.flatMap Kd.enc):
  ∀ R w,St R l w->∃ _:Unit,True/\St R (l.set j (own Kd (.slice (some ⟨b,off,none⟩) n c) zs)) w:=λR w h=>by
 obtain⟨m,⟨cs,hm,hcs⟩,hk⟩:=h.eF hj
 have e:=bV.length hcs
 subst hn
 refine⟨(),trivial,St.shut hj (.inr ⟨b,off,c,T,(0,0),cs,rfl,hl,hm,om,rfl,?_⟩) hk⟩
 rw [<- hh]
 exact bV.take (bV.drop hcs _) _
end
theorem AN {A Z q:Cs} {k:Nat} (h:A.length=k):oO (A++Z) k q=A++q++Z.drop q.length:=by
 subst h
 unfold oO
 rw [List.take_left',List.drop_length_add_append];rfl
section
variable {α:Type} {Kd:Kd α} {xs ys:List α} {A C:Cs} {i off:Nat}
theorem yE (k:Nat) (xs:List α) (hk:k<=xs.length):(xs.flatMap Kd.enc).take (k*Kd.sz)=(xs.take k).flatMap Kd.enc/\(xs.flatMap Kd.enc).drop (k*Kd.sz)=(xs.drop k).flatMap Kd.enc:=by
 have e:xs.flatMap Kd.enc=(xs.take k).flatMap Kd.enc++(xs.drop k).flatMap Kd.enc:=by rw [<- List.flatMap_append,List.take_append_drop]
 have h:((xs.take k).flatMap Kd.enc).length=k*Kd.sz:=by rw [cO,List.length_take,Nat.min_eq_left hk]
 rw [e]
 exact⟨List.take_left' h,List.drop_left' h⟩
theorem GA (hi:i<=xs.length) (hA:A.length=off):(((A++xs.flatMap Kd.enc++C).drop (off+i*Kd.sz)).take ((xs.length-i)*Kd.sz))=(xs.drop i).flatMap Kd.enc:=by
 subst hA
 rw [List.append_assoc,List.drop_length_add_append]
 have h1:=(yE (Kd:=Kd) i xs hi)
 have hl:i*Kd.sz<=(xs.flatMap Kd.enc).length:=by rw [cO];exact Nat.mul_le_mul_right _ hi
 rw [List.drop_append_of_le_length hl,h1.2]
 exact List.take_left' (by rw [cO,List.length_drop])
theorem Hd (hi:i<=xs.length) (hA:A.length=off):(((A++xs.flatMap Kd.enc++C).drop off).take (i*Kd.sz))=(xs.take i).flatMap Kd.enc:=by
 subst hA
 rw [List.append_assoc,List.drop_left]
 have h1:=(yE (Kd:=Kd) i xs hi)
 have hl:i*Kd.sz<=(xs.flatMap Kd.enc).length:=by rw [cO];exact Nat.mul_le_mul_right _ hi
 rw [List.take_append_of_le_length hl,h1.1]
theorem F2 {Z:Cs} (hi:i<=xs.length):((oO (oO ((xs.take i).flatMap Kd.enc++Z) (i*Kd.sz) (ys.flatMap Kd.enc)) ((i+ys.length)*Kd.sz) ((xs.drop i).flatMap Kd.enc)).drop 0).take ((xs.length+ys.length)*Kd.sz)=(xs.take i++ys++xs.drop i).flatMap Kd.enc:=by
 have h1:((xs.take i).flatMap Kd.enc).length=i*Kd.sz:=by rw [cO,List.length_take,Nat.min_eq_left hi]
 rw [AN h1,AN (by rw [List.length_append,h1,cO,Nat.add_mul]),List.drop_zero,List.flatMap_append,List.flatMap_append]
 refine List.take_left' ?_
 simp only [List.length_append,cO,List.length_drop,h1]
 rw [<- Nat.add_mul,<- Nat.add_mul]
 congr 1;omega
theorem GF (hi:i<=xs.length) (hA:A.length=off) (hlen:off+(xs.length+ys.length)*Kd.sz<=(A++xs.flatMap Kd.enc++C).length):
  ((oO (oO (A++xs.flatMap Kd.enc++C) (off+(i+ys.length)*Kd.sz) ((xs.drop i).flatMap Kd.enc)) (off+i*Kd.sz) (ys.flatMap Kd.enc)).drop off).take ((xs.length+ys.length)*Kd.sz)=(xs.take i++ys++xs.drop i).flatMap Kd.enc:=by
 subst hA
 have h1:((xs.take i).flatMap Kd.enc).length=i*Kd.sz:=by rw [cO,List.length_take,Nat.min_eq_left hi]
 have e1:A++xs.flatMap Kd.enc++C=(A++(xs.take i).flatMap Kd.enc)++((xs.drop i).flatMap Kd.enc++C):=by
  have e:xs.flatMap Kd.enc=(xs.take i).flatMap Kd.enc++(xs.drop i).flatMap Kd.enc:=by rw [<- List.flatMap_append,List.take_append_drop]
  rw [e];simp
 rw [e1] at hlen ⊢
 generalize hZ:(xs.drop i).flatMap Kd.enc++C=Z at hlen ⊢
 have hB:(A++(xs.take i).flatMap Kd.enc).length=A.length+i*Kd.sz:=by rw [List.length_append,h1]
 generalize hBe:A++(xs.take i).flatMap Kd.enc=B at hlen hB ⊢
 have hd:((xs.drop i).flatMap Kd.enc).length=(xs.length-i)*Kd.sz:=by rw [cO,List.length_drop]
 generalize hD:(xs.drop i).flatMap Kd.enc=D at hd ⊢
 have hy:(ys.flatMap Kd.enc).length=ys.length*Kd.sz:=cO _
 generalize hY:ys.flatMap Kd.enc=Y at hy ⊢
 have e2:(xs.length+ys.length)*Kd.sz=i*Kd.sz+ys.length*Kd.sz+(xs.length-i)*Kd.sz:=by rw [<- Nat.add_mul,<- Nat.add_mul];congr 1;omega
 have e3:(i+ys.length)*Kd.sz=i*Kd.sz+ys.length*Kd.sz:=Nat.add_mul ..
 rw [List.length_append,hB] at hlen
 have e4:oO (B++Z) (A.length+(i+ys.length)*Kd.sz) D=B++(Z.take (ys.length*Kd.sz)++D++Z.drop (ys.length*Kd.sz+D.length)):=by
  rw [e3,<- Nat.add_assoc,<- hB,B5];rfl
 have hz:(Z.take (ys.length*Kd.sz)).length=Y.length:=by rw [List.length_take,hy];omega
 rw [e4,<- hB]
 rw [AN rfl,List.append_assoc (Z.take _) D,List.drop_left' hz,<- hBe]
 rw [List.append_assoc,List.append_assoc,List.append_assoc,List.drop_left,List.flatMap_append,List.flatMap_append,hD,hY]
 have e5:(xs.take i).flatMap Kd.enc++(Y++(D++Z.drop (ys.length*Kd.sz+D.length)))=(xs.take i).flatMap Kd.enc++Y++D++Z.drop (ys.length*Kd.sz+D.length):=sM
 rw [e5,<- List.append_assoc (List.flatMap Kd.enc (List.take i xs)) Y D]
 refine List.take_left' ?_
 simp only [List.length_append,h1,hy,hd]
 omega
end
theorem uw {ps qs:Cs} {k:Nat} (h:k+qs.length<=ps.length):(oO ps k qs).length=ps.length:=by
 unfold oO;simp;omega
section
variable {P:Program} {ops:Array Oper} {n:Nat} {dr:Bool} {R0:Fz} {K:KU} {E:Env} {l:List As} {pend:List (Nat×(List As->Prop))} {rest:List (Nat×Bool)} {i d:Nat}
variable {T:TypeId} {ps:String} {af:Array Edge} {g:Option (Nat×Bool)} {x y:Operand} {α:Type} {Kd:Kd α} {w:World} {xT:TypeId}
theorem Dv.sV {t e:TypeId} {ed:TypeDesc} {lo hi:Option Operand} {b off m c p q sz o' m' c':Nat} (ho:opAt ops.toList i=some ⟨some d,.slice t x lo hi none,T,ps,af,g⟩) (hg:fZ ops E g) (hx:opv E x=some (eq (.slice (some ⟨b,off,none⟩) m c))) (hu:P.underlying t=some (.slice e)) (hv:P.underlying e=some ed) (hz:P.cellsOf e=sz)
  (hl:tO E 0 lo p) (hh:tO E m hi q) (h1:p<=q) (h2:q<=c) (h3:p<c\/p=0) (e1:off+p*sz=o') (e2:q-p=m') (e3:c-p=c')
  (k:Dv P ops n dr R0 K ((d,eq (.slice (some ⟨b,o',none⟩) m' c'))::E) l ((i,tt)::pend) rest):Dv P ops n dr R0 K E l pend ((i,false)::rest):=by
 subst e1 e2 e3
 exact Dv.slkn ho hg hx hu hv hz hl hh h1 h2 h3 k
theorem Dv.apmn {t e ti2:TypeId} {ti:TypeInfo} {z:Value} {b off m c sz by_ jj N k1:Nat} {bT:TypeId} {ps' Q:Cs} {ik:IntKind} (ho:opAt ops.toList i=some ⟨some d,.call ⟨.builtin .append,#[x,y],#[t,ti2]⟩,T,ps,af,g⟩) (hg:fZ ops E g) (hx:opv E x=some (eq (.slice (some ⟨b,off,none⟩) m c))) (hy:opv E y=some (eq (.int .i64 (k1:Int))))
  (hu:P.underlying t=some (.slice e)) (hu2:P.underlying ti2=some (.int ik)) (hti:P.info? e=some ti) (hsz:ti.size=sz) (hz:ti.zero=some z) (hby:ti.bytes=by_) (hzs:z.cells.size=sz) (h0:0<sz) (hmc:m<=c) (hN:m+k1=N) (hgrow:c<N) (hsm:N<=9223372036854775807) (hb:N*by_<=140737488355328)
  (hA:l[jj]? = some (ar b bT ps')) (hle:off+m*sz<=ps'.length) (hQ:(ps'.drop off).take (m*sz)=Q)
  (hp:dr=true->∀ q∈pend,((Region.before ops).getD i 0).testBit q.1=true\/∀ v':Nat×Nat,N<=v'.2->q.2 (ar v'.1 e (Q++(Builtin.zeroCells z.cells (v'.2-m)).toList.map eq)::l))
  (k:∀ v':Nat×Nat,N<=v'.2->Dv P ops n dr R0 K ((d,eq (.slice (some ⟨v'.1,0,none⟩) N v'.2))::E) (ar v'.1 e (Q++(Builtin.zeroCells z.cells (v'.2-m)).toList.map eq)::l) pend rest) (hkb:K.kZ E l pend ((i,true)::rest):=by first | exact trivial | assumption):Dv P ops n dr R0 K E l pend ((i,true)::rest):=by
 subst hN hQ
 exact Dv.apmk ho hg hx hy hu hu2 hti hsz hz hby hzs h0 (Int.natCast_nonneg _) hmc (by simpa using hgrow) (by simpa using hsm) (by simpa using hb) hA hle (by simpa using hp) (by simpa using k) hkb
theorem Dv.Fv {t t2 e:TypeId} {ed:TypeDesc} {b off m c n' sz jj kk:Nat} {bT:TypeId} {ps' qs:Cs} {p:VP} (ho:opAt ops.toList i=some ⟨some d,.call ⟨.builtin .copy,#[x,y],#[t,t2]⟩,T,ps,af,g⟩) (hg:fZ ops E g) (hx:opv E x=some (eq (.slice (some ⟨b,off,none⟩) m c))) (hy:opv E y=some p)
  (hu:P.underlying t=some (.slice e)) (hv:P.underlying e=some ed) (hz:P.cellsOf e=sz) (hs:zf P sz l p n' kk qs) (hkk:min n' m=kk) (hjj:l[jj]? = some (ar b bT ps')) (hle:off+qs.length<=ps'.length)
  (hp:dr=true->∀ z∈pend,((Region.before ops).getD i 0).testBit z.1=true\/∀ _:Unit,z.2 (l.set jj (ar b bT (oO ps' off qs))))
  (k:Dv P ops n dr R0 K ((d,eq (.int .i64 (kk:Nat)))::E) (l.set jj (ar b bT (oO ps' off qs))) pend rest) (hkb:K.kZ E l pend ((i,true)::rest):=by first | exact trivial | assumption):Dv P ops n dr R0 K E l pend ((i,true)::rest):=by
 subst hkk
 exact Dv.cpk ho hg hx hy hu hv hz hs hjj hle hp k hkb
theorem yR {xs:List α}:zf P Kd.sz l (sl Kd xs) xs.length xs.length (xs.flatMap Kd.enc):=by
 have:=Fu (P:=P) (l:=l) (Kd:=Kd) (xs:=xs) (Nat.le_refl _)
 rwa [List.take_length] at this
theorem CP (xs:List α):zO (xs.flatMap Kd.enc):=λq hq=>by
 obtain⟨y,_,hy⟩:=List.mem_flatMap.1 hq
 exact λR v hv=>Kd.one y q hy R v hv
theorem yx {xs:List α} {A C:Cs} {b off i n' c':Nat} {bT:TypeId} (hA:ar b bT (A++xs.flatMap Kd.enc++C)∈l) (hi:i<=xs.length) (ho:A.length=off):zf P Kd.sz l (eq (.slice (some ⟨b,off+i*Kd.sz,none⟩) n' c')) n' (xs.length-i) ((xs.drop i).flatMap Kd.enc):=by
 have h:=GA (Kd:=Kd) (C:=C) hi ho
 rw [<- h]
 refine ET hA ?_ ?_
 ·rw [h];exact CP _
 ·have e:i*Kd.sz+(xs.length-i)*Kd.sz=xs.length*Kd.sz:=by rw [<- Nat.add_mul];congr 1;omega
  have hlen:=cO (K:=Kd) xs
  simp only [List.length_append,hlen]
  omega
end
theorem eb {p v:Value} (h:p=v):Wk (eq p) (eq v):=λ_ _ e=>by subst h;exact e
section
variable {P:Program} {ops:Array Oper} {n:Nat} {dr:Bool} {R0:Fz} {K:KU} {E:Env} {l:List As} {pend:List (Nat×(List As->Prop))} {rest:List (Nat×Bool)} {i d:Nat}
variable {T:TypeId} {ps:String} {af:Array Edge} {g:Option (Nat×Bool)} {x y:Operand}
theorem EW {R:Fz} {a:Act}:∀ {xs:List Operand} {us:List Value},(∀ x∈xs,∀ p,opv E x=some p->p.p R (a.eval x))->opvs E xs=some (us.map eq)->xs.map a.eval=us:=λ{xs us} h1 h2=>by
 have h:=iE h1 h2
 generalize xs.map a.eval=vs at h
 clear h1 h2
 induction us generalizing vs with
 | nil=>cases h;rfl
 | cons u us ih=>cases h with | cons a b=>rw [show _=u from a,ih _ b]
theorem Dv.mkc {f:FuncId} {fs:Array Operand} {fst:Array Value} (ho:opAt ops.toList i=some ⟨some d,.makeFunc (.func f) fs #[],T,ps,af,g⟩) (hg:fZ ops E g) (hf:opvs E fs.toList=some (fst.toList.map eq))
  (k:Dv P ops n dr R0 K ((d,eq (.func (.func f) fst #[]))::E) l ((i,tt)::pend) rest):Dv P ops n dr R0 K E l pend ((i,false)::rest):=
 Dv.mg _ _ ho (eV.pure hg λR a w hh=>⟨_,rfl,by
  have h1:=EW (a:=a) (R:=R) (λx hx p hp=>hh x (by simp [Op.operands];simpa using hx) p hp) hf
  have h2:fs.map a.eval=fst:=by apply Array.ext';simpa using h1
  simp [execOp,Instr.makeFunc,h2]⟩) trivial k
theorem Dv.DH {f:FuncId} {as:Array Operand} {ts:Array TypeId} {fst:Array Value} {vs:List VP} {B F:List As} {ret:VP} (ho:opAt ops.toList i=some ⟨some d,.call ⟨.value x,as,ts⟩,T,ps,af,g⟩) (hg:fZ ops E g)
  (hx:opv E x=some (eq (.func (.func f) fst #[]))) (hc:fx P f=true) (hv:opvs E as.toList=some vs) (ht:Tr P f (fst.toList.map eq++vs) B (γ:=Unit) (λ_=>True) (λ_=>ret) (λ_=>B)) (hl:l.Perm (B++F))
  (k:Dv P ops n dr R0 K ((d,ret)::E) l ((i,λl=>∃ F,l.Perm (B++F))::pend) rest):Dv P ops n dr R0 K E l pend ((i,false)::rest):=
 Dv.mg (λl=>∃ F,l.Perm (B++F)) ret ho (λR a w l _ _ hs ⟨F,hl⟩ hst K Q hk=>by
  have e:=hs.op (x:=x) (by simp [Op.operands,Call.operands]) hx
  simp only [ez] at e
  refine me (R:=R) (f:=f) (cap:=#[]) (fst:=fst) rfl (j9 hs hg) hc rfl e ?_
  have:=iE (λx hx p hp=>hs.op (by simp [Op.operands,Call.operands];exact .inr (by simpa using hx)) hp) hv
  refine(ht R F w _ (by have h2:=(mL (R:=R) fst.toList).append this;unfold Cs.h;simpa using h2) (St.fY hl hst)).mono ?_
  rintro e w' ⟨_,R',v,_,hR,he,hv,hst'⟩
  exact⟨v,he,hk R' v w' hR hv (hst'.fY hl.symm)⟩) ⟨F,hl⟩ k
end
section
variable {P:Program} {ops:Array Oper} {n:Nat} {dr:Bool} {R0:Fz} {K:KU} {E:Env} {l:List As} {pend:List (Nat×(List As->Prop))} {rest:List (Nat×Bool)} {i d:Nat}
variable {T:TypeId} {ps:String} {af:Array Edge} {g:Option (Nat×Bool)} {x y:Operand} {α:Type} {Kd:Kd α}
theorem zu {t e:TypeId} {ad:Option Addr} {m c:Nat} {w:World} (hu:P.underlying t=some (.slice e)):(do eqGuard .eql t x y (.slice ad m c) (.slice none 0 0);binOp .eql t (.slice ad m c) (.slice none 0 0):Sem Value).run P w = .ok (.bool ad.isNone) w:=by
 obtain⟨k,hk⟩:∃ k,Op.maxDepth=k+1:=⟨9999,rfl⟩
 cases ad <;> simp [eqGuard,binOp,Op.equal,hk,Op.equalIn,underlying,hu]
theorem Dv.snil {t e yT:TypeId} {xs:List α} (ho:opAt ops.toList i=some ⟨some d,.binOp .eql t x y yT,T,ps,af,g⟩) (hg:fZ ops E g) (hx:opv E x=some (sl Kd xs)) (hy:opv E y=some (eq (.slice none 0 0))) (hu:P.underlying t=some (.slice e))
  (hp:dr=true->∀ z∈pend,((Region.before ops).getD i 0).testBit z.1=true\/∀ b:Bool,(b=true->xs=[])->z.2 l)
  (k:∀ b:Bool,(b=true->xs=[])->Dv P ops n dr R0 K ((d,eq (.bool b))::E) l pend rest) (hkb:K.kZ E l pend ((i,true)::rest):=by first | exact trivial | assumption):Dv P ops n dr R0 K E l pend ((i,true)::rest):=
 .kZ _ (γ:=Bool) (λb=>b=true->xs=[]) (λb=>eq (.bool b)) (λ_=>l) (fC ho) (iV.val hg λR a w h hst=>by
  have e1:=h x (by simp [Op.operands]) _ hx
  have e2:=h y (by simp [Op.operands]) _ hy
  simp only [ez] at e2
  rcases e1 with⟨ad,c,e1,e3⟩|⟨b,off,c,bT,fr,cs,e1,_⟩
  ·refine⟨ad.isNone,R,_,w,λ_=>e3,Fz.le_refl R,rfl,hst,?_⟩
   have:=zu (x:=x) (y:=y) (ad:=ad) (m:=0) (c:=c) (w:=w) hu
   simp only [execOp,e1,e2,Sem.run_bind] at this ⊢
   rw [this];rfl
  ·refine⟨false,R,_,w,(λh=>by cases h),Fz.le_refl R,rfl,hst,?_⟩
   have:=zu (x:=x) (y:=y) (ad:=some ⟨b,off,none⟩) (m:=xs.length) (c:=c) (w:=w) hu
   simp only [execOp,e1,e2,Sem.run_bind] at this ⊢
   rw [this];rfl) (λe z hz=>hp e z hz) k hkb
end
section
variable {P:Program} {ops:Array Oper} {n:Nat} {dr:Bool} {R0:Fz} {K:KU} {E:Env} {l:List As} {pend:List (Nat×(List As->Prop))} {rest:List (Nat×Bool)} {i d:Nat}
variable {T:TypeId} {ps:String} {af:Array Edge} {g:Option (Nat×Bool)} {α:Type}
theorem Dv.lit0 {t e:TypeId} {ed:TypeDesc} {z:Value} (Kd:Kd α) (ho:opAt ops.toList i=some ⟨some d,.buildSlice t 0 #[],T,ps,af,g⟩) (hg:fZ ops E g)
  (hu:P.underlying t=some (.slice e)) (hv2:P.underlying e=some ed) (hz2:P.cellsOf e=Kd.sz) (hz:mz P e=some z)
  (hp:dr=true->∀ z∈pend,((Region.before ops).getD i 0).testBit z.1=true\/∀ v':OV,z.2 (own Kd v'.1 []::l))
  (k:∀ v':OV,Dv P ops n dr R0 K ((d,eq v'.1)::E) (own Kd v'.1 []::l) pend rest) (hkb:K.kZ E l pend ((i,true)::rest):=by first | exact trivial | assumption):Dv P ops n dr R0 K E l pend ((i,true)::rest):=
 .kZ _ (γ:=OV) (λ_=>True) (λv'=>eq v'.1) (λv'=>own Kd v'.1 []::l) (fC ho) (iV.val hg λR a w h hst=>by
  refine⟨⟨.slice (some ⟨w.heap.size,0,none⟩) 0 0,rfl⟩,R,_,{ w with heap:=w.heap.push (.cells #[] e) },trivial,Fz.le_refl R,rfl,hst.alloc (o:=.cells #[] e) ?_,?_⟩
  ·exact .inr ⟨w.heap.size,0,0,e,(0,0),[],rfl,Nat.le_refl _,rfl,sM,rfl,by simpa using (show Cs.h R [] [] from bV.nil)⟩
  ·simp [execOp,Instr.buildSlice,underlying,hu,run_sizeOf hv2 hz2,Instr.fill,newRow]
   exact congrArg (λq=>w.alloc (Obj.cells q e)) sM) (λe z hz=>(hp e z hz).imp id λh b _=>h b) (λb _=>k b) hkb
end
theorem Bs.fY {R:Fz} {l l':List As} (h:l.Perm l'):∀ {m:Mem},Bs R m l->Bs R m l':=by
 induction h with
 | nil=>exact λh=>h
 | cons A _ ih=>exact λ⟨m1,m2,h1,h2,hp⟩=>⟨m1,m2,h1,ih h2,hp⟩
 | swap A B l=>
  rintro m ⟨m1,m2,h1,⟨m3,m4,h3,h4,hq⟩,hp⟩
  refine⟨m3,m1++m4,h3,⟨m1,m4,h1,h4,List.Perm.refl _⟩,hp.trans ((hq.append_left m1).trans ?_)⟩
  rw [<- List.append_assoc,<- List.append_assoc]
  exact List.perm_append_comm.append_right _
 | trans _ _ ih1 ih2=>exact λh=>ih2 (ih1 h)
section
variable {κ α:Type} [DecidableEq κ]
def dK:OV:=⟨.pointer none,rfl⟩
def aU (m:List (κ×α)) (ps:List OV):List (κ×OV):=List.zipWith (λe p=>(e.1,p)) m ps
def rY (O:OV->α->As) (m:List (κ×α)) (ps:List OV):List As:=List.zipWith (λe p=>O p e.2) m ps
def others (O:OV->α->As):List (κ×α)->List OV->κ->List As
 | e::m,p::ps,k=>if e.1=k then rY O m ps else O p e.2::others O m ps k
 | _,_,_=>[]
def pput:List (κ×α)->List OV->κ->OV->List OV
 | e::m,q::ps,k,p=>if e.1=k then p::ps else q::pput m ps k p
 | _,_,_,p=>[p]
def lQ (O:OV->α->As) (m:List (κ×α)) (ps:List OV):As:=⟨λR mem=>Bs R mem (rY O m ps),λhR h=>h.mono hR⟩
def lX (O:OV->α->As) (m:List (κ×α)) (ps:List OV) (k:κ):As:=⟨λR mem=>Bs R mem (others O m ps k),λhR h=>h.mono hR⟩
def yp (m:List (κ×α)) (ps:List OV):Prop:=ps.length=m.length/\∀ p∈ps,∃ a,p.1 = .pointer (some a)
def iq (kv:κ->Value) (O:OV->α->As) (v:Value) (m:List (κ×α)):As:=tF (yp m) (λps=>[mp kv (λp:OV=>eq p.1) v (aU m ps),lQ O m ps])
variable {kv:κ->Value} {O:OV->α->As} {v:Value} {m:List (κ×α)} {ps:List OV} {k:κ} {a:α} {p:OV} {l r:List As}
theorem mR (h:ps.length=m.length):(aU m ps).length=m.length:=by simp [aU,h]
theorem wU:∀ {m:List (κ×α)} {ps:List OV},mget m k=none->mget (aU m ps) k=none
 | [],_,_=>by cases ‹List OV› <;> rfl
 | _::_,[],_=>rfl
 | e::m,p::ps,h=>by
  simp only [mget] at h
  split at h
  ·cases h
  ·rename_i hn
   show mget ((e.1,p)::aU m ps) k=none
   simp only [mget,if_neg hn]
   exact wU h
theorem ou:∀ {m:List (κ×α)} {ps:List OV},ps.length=m.length->mget m k=some a->∃ p,p∈ps/\mget (aU m ps) k=some p/\(rY O m ps).Perm (O p a::others O m ps k)
 | [],_,_,h=>by cases h
 | _::_,[],h,_=>by simp at h
 | e::m,p::ps,hl,h=>by
  simp only [mget] at h
  split at h
  ·rename_i hk
   cases h
   refine⟨p,List.mem_cons_self ..,?_,?_⟩
   ·show mget ((e.1,p)::aU m ps) k=_
    simp only [mget,if_pos hk]
   ·show(O p e.2::rY O m ps).Perm _
    simp only [others,if_pos hk]
    exact List.Perm.refl _
  ·rename_i hn
   obtain⟨q,h1,h2,h3⟩:=ou (by simpa using hl) h
   refine⟨q,List.mem_cons_of_mem _ h1,?_,?_⟩
   ·show mget ((e.1,p)::aU m ps) k=_
    simp only [mget,if_neg hn];exact h2
   ·show(O p e.2::rY O m ps).Perm _
    simp only [others,if_neg hn]
    exact(h3.cons _).trans (List.Perm.swap _ _ _)
theorem vq:∀ {m:List (κ×α)} {ps:List OV},(mget m k).isSome=true->aU (mput m k a) ps=aU m ps
 | [],_,h=>by simp [mget] at h
 | e::m,[],h=>by unfold aU;rw [List.zipWith_nil_right,List.zipWith_nil_right]
 | e::m,p::ps,h=>by
  simp only [mget] at h
  simp only [mput]
  split
  ·rename_i hk;show(k,p)::aU m ps=(e.1,p)::aU m ps;rw [hk]
  ·rename_i hn
   rw [if_neg hn] at h
   show(e.1,p)::aU (mput m k a) ps=(e.1,p)::aU m ps
   rw [vq h]
theorem vP:∀ {m:List (κ×α)} {ps:List OV},(mget m k).isSome=true->others O (mput m k a) ps k=others O m ps k
 | [],_,h=>by simp [mget] at h
 | e::m,[],h=>by simp only [mput];split <;> rfl
 | e::m,p::ps,h=>by
  simp only [mget] at h
  simp only [mput]
  split
  ·rename_i hk;simp only [others,if_pos hk,if_true]
  ·rename_i hn
   rw [if_neg hn] at h
   simp only [others,if_neg hn]
   rw [vP h]
theorem ze:∀ {m:List (κ×α)},(mget m k).isSome=true->(mput m k a).length=m.length
 | [],h=>by simp [mget] at h
 | e::m,h=>by
  simp only [mget] at h
  simp only [mput]
  split
  ·rfl
  ·rename_i hn
   rw [if_neg hn] at h
   simp [ze h]
theorem wW:∀ {m:List (κ×α)},mget (mput m k a) k=some a
 | []=>by simp [mput,mget]
 | e::m=>by
  simp only [mput]
  split
  ·simp [mget]
  ·rename_i hn;simp only [mget,if_neg hn];exact wW
theorem yA:∀ {m:List (κ×α)} {ps:List OV},ps.length=m.length->aU (mput m k a) (pput m ps k p)=mput (aU m ps) k p/\(pput m ps k p).length=(mput m k a).length/\(∀ q∈pput m ps k p,q=p\/q∈ps)/\∃ A,(O p a::rY O m ps).Perm (A++rY O (mput m k a) (pput m ps k p))
 | [],[],_=>⟨rfl,rfl,λq hq=>.inl (by simpa [pput] using hq),[],List.Perm.refl _⟩
 | [],_::_,h=>by simp at h
 | _::_,[],h=>by simp at h
 | e::m,q::ps,hl=>by
  by_cases hk:e.1=k
  ·simp only [mput,pput,if_pos hk]
   refine⟨?_,by simpa using hl,λz hz=>?_,[O q e.2],?_⟩
   ·show(k,p)::aU m ps=mput ((e.1,q)::aU m ps) k p
    simp only [mput,if_pos hk]
   ·rcases List.mem_cons.1 hz with h | h
    ·exact .inl h
    ·exact .inr (List.mem_cons_of_mem _ h)
   ·show(O p a::O q e.2::rY O m ps).Perm (O q e.2::O p a::rY O m ps)
    exact List.Perm.swap _ _ _
  ·simp only [mput,pput,if_neg hk]
   obtain⟨h1,h2,h3,A,h4⟩:=yA (m:=m) (ps:=ps) (by simpa using hl)
   refine⟨?_,by simpa using h2,λz hz=>?_,A,?_⟩
   ·show(e.1,q)::aU (mput m k a) (pput m ps k p)=mput ((e.1,q)::aU m ps) k p
    simp only [mput,if_neg hk,h1]
   ·rcases List.mem_cons.1 hz with h | h
    ·exact .inr (by rw [h];exact List.mem_cons_self ..)
    ·exact(h3 z h).imp id (List.mem_cons_of_mem _)
   ·show(O p a::O q e.2::rY O m ps).Perm (A++O q e.2::rY O (mput m k a) (pput m ps k p))
    exact(List.Perm.swap _ _ _).trans ((h4.cons _).trans (List.perm_middle.symm))
variable {Z:List (κ×OV)}
theorem xP (ho:yp m ps) (hZ:Z=aU m ps):((mget m k).isNone=false->∃ a,((mget Z k).getD dK).1 = .pointer (some a))/\((mget m k).isNone=true->((mget Z k).getD dK).1 = .pointer none):=by
 subst hZ
 cases h:mget m k with
 | none=>rw [wU h];exact⟨λk=>(by cases k),λ_=>rfl⟩
 | some a=>
  obtain⟨p,h1,h2,_⟩:=ou (O:=λ_ _=>⟨λ_ _=>True,λ_ h=>h⟩) ho.1 h
  rw [h2]
  exact⟨λ_=>ho.2 p h1,λk=>(by cases k)⟩
theorem A2 [Inhabited α] (h:(mget m k).isSome=true):mget m k=some ((mget m k).getD default):=by
 cases e:mget m k with
 | none=>rw [e] at h;cases h
 | some a=>rfl
theorem lM (hZ:Z=aU m ps) (hk:(mget m k).isSome=true):Z=aU (mput m k a) ps:=by rw [vq hk];exact hZ
theorem kn (j:Nat) (hj:l[j]? = some (iq kv O v m)):∀ R w,St R l w->∃ ps,yp m ps/\St R ([mp kv (λp:OV=>eq p.1) v (aU m ps),lQ O m ps]++l.eraseIdx j) w:=iO j hj
theorem eL (ho:yp m ps) (hZ:Z=aU m ps) (hp:l.Perm ([mp kv (λp:OV=>eq p.1) v Z,lQ O m ps]++r)):∀ R w,St R l w->∃ _:Unit,True/\St R (iq kv O v m::r) w:=by
 subst hZ;exact ie _ _ ps ho hp
theorem oi [Inhabited α] (ho:yp m ps) (hZ:Z=aU m ps) (hk:(mget m k).isSome=true) (hp:l.Perm (lQ O m ps::r)):∀ R w,St R l w->∃ _:Unit,True/\St R (O ((mget Z k).getD dK) ((mget m k).getD default)::lX O m ps k::r) w:=λR w h=>by
 subst hZ
 obtain⟨mem,hb,hw⟩:=(h.fY hp).nf
 obtain⟨m1,m2,h1,h2,hq⟩:=hb
 obtain⟨p,_,e,hperm⟩:=ou (O:=O) ho.1 (A2 hk)
 obtain⟨m3,m4,h3,h4,hq2⟩:=Bs.fY hperm h1
 rw [e]
 refine⟨(),trivial,St.nh (m:=m3++(m4++m2)) ⟨m3,m4++m2,h3,⟨m4,m2,h4,h2,List.Perm.refl _⟩,List.Perm.refl _⟩ (hw.perm ?_)⟩
 rw [<- List.append_assoc]
 exact hq.trans (hq2.append_right _)
theorem n9 (ho:yp m ps) (hZ:Z=aU m ps) (hk:(mget m k).isSome=true) (hp:l.Perm (O ((mget Z k).getD dK) a::lX O m ps k::r)):∀ R w,St R l w->∃ _:Unit,yp (mput m k a) ps/\St R (lQ O (mput m k a) ps::r) w:=λR w h=>by
 subst hZ
 obtain⟨mem,hb,hw⟩:=(h.fY hp).nf
 obtain⟨m1,m2,h1,⟨m3,m4,h3,h4,hq2⟩,hq⟩:=hb
 have hl:ps.length=(mput m k a).length:=ho.1.trans (ze hk).symm
 obtain⟨p,_,e,hperm⟩:=ou (O:=O) (k:=k) hl (wW (a:=a))
 rw [vq hk] at e
 rw [vP hk] at hperm
 rw [e] at h1
 refine⟨(),⟨hl,ho.2⟩,St.nh (m:=(m1++m3)++m4) ⟨m1++m3,m4,Bs.fY hperm.symm ⟨m1,m3,h1,h3,List.Perm.refl _⟩,h4,List.Perm.refl _⟩ (hw.perm ?_)⟩
 rw [List.append_assoc]
 exact hq.trans (hq2.append_left _)
theorem po [Inhabited α] (ho:yp m ps) (hZ:Z=aU m ps) (hk:(mget m k).isSome=true) (hp:l.Perm (O ((mget Z k).getD dK) ((mget m k).getD default)::lX O m ps k::r)):∀ R w,St R l w->∃ _:Unit,True/\St R (lQ O m ps::r) w:=λR w h=>by
 subst hZ
 obtain⟨mem,hb,hw⟩:=(h.fY hp).nf
 obtain⟨m1,m2,h1,⟨m3,m4,h3,h4,hq2⟩,hq⟩:=hb
 obtain⟨p,_,e,hperm⟩:=ou (O:=O) ho.1 (A2 hk)
 rw [e] at h1
 refine⟨(),trivial,St.nh (m:=(m1++m3)++m4) ⟨m1++m3,m4,Bs.fY hperm.symm ⟨m1,m3,h1,h3,List.Perm.refl _⟩,h4,List.Perm.refl _⟩ (hw.perm ?_)⟩
 rw [List.append_assoc]
 exact hq.trans (hq2.append_left _)
theorem xk (hn:NN (O p a) p.1) (ho:yp m ps) (hZ:Z=aU m ps) (hp:l.Perm (mp kv (λp:OV=>eq p.1) v (mput Z k p)::lQ O m ps::O p a::r)):∀ R w,St R l w->∃ _:Unit,True/\St R (iq kv O v (mput m k a)::r) w:=λR w h=>by
 subst hZ
 obtain⟨mem,hb,hw⟩:=(h.fY hp).nf
 obtain⟨m1,m2,h1,⟨m3,m4,h3,⟨m5,m6,h5,h6,hq3⟩,hq2⟩,hq⟩:=hb
 obtain⟨e1,e2,e3,A,e4⟩:=yA (k:=k) (a:=a) (p:=p) (O:=O) (m:=m) (ps:=ps) ho.1
 obtain⟨m7,m8,h7,h8,hq4⟩:=Bs.split (Bs.fY e4 ⟨m5,m3,h5,h3,List.Perm.refl _⟩)
 have hnn:=hn R m5 h5
 have key:St R (iq kv O v (mput m k a)::r) w:=by
  have hs:St R (⟨λR mem=>Bs R mem A,λhR h=>h.mono hR⟩::iq kv O v (mput m k a)::r) w:=by
   refine St.nh (m:=m7++((m1++m8)++m6)) ⟨m7,(m1++m8)++m6,h7,⟨m1++m8,m6,⟨pput m ps k p,⟨e2,λq hq=>?_⟩,m1,m8,by rw [e1];exact h1,⟨m8,[],h8,rfl,sM⟩,List.Perm.refl _⟩,h6,List.Perm.refl _⟩,List.Perm.refl _⟩ (hw.perm ?_)
   ·rcases e3 q hq with rfl | hq
    ·exact hnn
    ·exact ho.2 q hq
   ·refine hq.trans (((hq2.trans (hq3.append_left m3)).append_left m1).trans ?_)
    have h9:(m3++(m5++m6)).Perm ((m7++m8)++m6):=by
     rw [<- List.append_assoc]
     exact(List.perm_append_comm.trans hq4).append_right _
    refine(h9.append_left m1).trans ?_
    have h10:(m1++(m7++m8++m6)).Perm (m7++(m1++(m8++m6))):=by
     rw [List.append_assoc m7,<- List.append_assoc,<- List.append_assoc m7]
     exact List.perm_append_comm.append_right _
    rw [List.append_assoc m1]
    exact h10
  exact hs.drop
 exact⟨(),trivial,key⟩
theorem wK {m:List (κ×α)} {a:α} (h:mget m k=some a):mput m k a=m:=by
 induction m with
 | nil=>cases h
 | cons e m ih=>
  simp only [mget] at h
  simp only [mput]
  split
  ·rename_i hk;rw [if_pos hk] at h;cases h;rw [<- hk]
  ·rename_i hn;rw [if_neg hn] at h;rw [ih h]
theorem EN (ho:yp m ps) (hZ:Z=aU m ps) (hk:(mget m k).isSome=true):mput Z k ((mget Z k).getD dK)=Z:=by
 obtain⟨a,h⟩:=Option.isSome_iff_exists.1 hk
 obtain⟨p,_,e,_⟩:=ou (O:=λ_ _=>⟨λ_ _=>True,λ_ h=>h⟩) ho.1 h
 rw [<- hZ] at e
 rw [e];exact wK e
theorem xW (Oc:OV->α->As):∀ R w,St R (mp kv (λp:OV=>eq p.1) v []::l) w->∃ _:Unit,True/\St R (iq (α:=α) kv Oc v []::l) w:=λR w h=>by
 obtain⟨mem,⟨m1,m2,h1,h2,hq⟩,hw⟩:=h.nf
 exact⟨(),trivial,St.nh (m:=m1++m2) ⟨m1,m2,⟨[],⟨rfl,λp hp=>by cases hp⟩,m1,[],h1,⟨[],[],rfl,rfl,sM⟩,sM⟩,h2,List.Perm.refl _⟩ (hw.perm hq)⟩
end
section
variable {P:Program} {ops:Array Oper} {n:Nat} {dr:Bool} {R0:Fz} {K:KU} {E:Env} {l:List As} {pend:List (Nat×(List As->Prop))} {rest:List (Nat×Bool)} {i d:Nat}
variable {T:TypeId} {ps:String} {af:Array Edge} {g:Option (Nat×Bool)} {x y:Operand}
theorem Dv.pm0 {p:Value} {b:Bool} {t td yT:TypeId} (hn:(b=false->∃ a,p = .pointer (some a))/\(b=true->p = .pointer none)) (ho:opAt ops.toList i=some ⟨some d,.binOp .eql t x y yT,T,ps,af,g⟩) (hg:fZ ops E g) (hx:opv E x=some (eq p)) (hy:opv E y=some (eq (.pointer none))) (hu:P.underlying t=some (.pointer td))
  (k:Dv P ops n dr R0 K ((d,eq (.bool b))::E) l ((i,tt)::pend) rest):Dv P ops n dr R0 K E l pend ((i,false)::rest):=by
 obtain⟨m,hm⟩:∃ m,Op.maxDepth=m+1:=⟨9999,rfl⟩
 refine Dv.bin ho hg hx hy (λw=>?_) k
 cases b with
 | true=>rw [hn.2 rfl];simp [eqGuard,binOp,Op.equal,hm,Op.equalIn,underlying,hu]
 | false=>obtain⟨a,e⟩:=hn.1 rfl;rw [e];simp [eqGuard,binOp,Op.equal,hm,Op.equalIn,underlying,hu]
theorem Dv.pm1 {p:Value} {b:Bool} {t td yT:TypeId} (hn:(b=false->∃ a,p = .pointer (some a))/\(b=true->p = .pointer none)) (ho:opAt ops.toList i=some ⟨some d,.binOp .neq t x y yT,T,ps,af,g⟩) (hg:fZ ops E g) (hx:opv E x=some (eq p)) (hy:opv E y=some (eq (.pointer none))) (hu:P.underlying t=some (.pointer td))
  (k:Dv P ops n dr R0 K ((d,eq (.bool !b))::E) l ((i,tt)::pend) rest):Dv P ops n dr R0 K E l pend ((i,false)::rest):=by
 obtain⟨m,hm⟩:∃ m,Op.maxDepth=m+1:=⟨9999,rfl⟩
 refine Dv.bin ho hg hx hy (λw=>?_) k
 cases b with
 | true=>rw [hn.2 rfl];simp [eqGuard,binOp,Op.equal,hm,Op.equalIn,underlying,hu]
 | false=>obtain⟨a,e⟩:=hn.1 rfl;rw [e];simp [eqGuard,binOp,Op.equal,hm,Op.equalIn,underlying,hu]
end
end Go.Sp
