import Derived.Test.YtfknmdelgepbjaaGreatDoorWConV
import Derived.Laws.Build
set_option linter.all false
namespace Go.Sp
open Go
def ifp (T:TypeId) (p:VP):VP:=⟨fun R v=>∃ u,v = .iface T u∧p.p R u,fun hR ⟨u,e,h⟩=>⟨u,e,p.mono hR h⟩⟩
section
variable {P:Program} {ops:Array Oper} {n:Nat} {dr:Bool} {R0:Fz} {K:KU} {E:Env} {l:List As} {pend:List (Nat×(List As→Prop))} {rest:List (Nat×Bool)} {i d:Nat}
variable {T:TypeId} {ps:String} {af:Array Edge} {g:Option (Nat×Bool)} {x y:Operand} {α:Type} {Kd:Kd α}
theorem Dv.Gr {S:TypeId} {p:VP} (ho:opAt ops.toList i=some ⟨some d,.makeInterface S x,T,ps,af,g⟩) (hg:fk ops E g) (hx:opv E x=some p) (hc:P.concrete S=true)
  (k:Dv P ops n dr R0 K ((d,ifp S p)::E) l ((i,tt)::pend) rest):Dv P ops n dr R0 K E l pend ((i,false)::rest):=
 Dv.lZ tt (ifp S p) ho (eI.pure hg fun R a w h=>⟨.iface S (a.eval x),⟨_,rfl,h x (by simp [Op.operands]) p hx⟩,by simp [execOp,run_makeInterface,hc]⟩) trivial k
theorem Dv.tas {X A:TypeId} {p r:VP} {b:Bool} (h:∀ R v w,p.p R v→∃ u,(Instr.typeAssert v X A true).run P w = .ok (.tuple #[u,.bool b]) w∧r.p R u) (ho:opAt ops.toList i=some ⟨some d,.typeAssert x X A true,T,ps,af,g⟩) (hg:fk ops E g) (hx:opv E x=some p)
  (k:Dv P ops n dr R0 K ((d,kZ [r,eq (.bool b)])::E) l ((i,tt)::pend) rest):Dv P ops n dr R0 K E l pend ((i,false)::rest):=
 Dv.lZ tt (kZ [r,eq (.bool b)]) ho (eI.pure hg fun R a w hh=>by
  obtain ⟨u,hr,hu⟩:=h R _ w (hh x (by simp [Op.operands]) p hx)
  exact ⟨_,⟨[u,.bool b],rfl,.cons hu (.cons rfl .nil)⟩,by simp [execOp,hr]⟩) trivial k
def tlv (sz:Nat) (v:Value) (n i:Nat):Value:=match v with | .slice a _ c=>.slice (if c=i then a else a.map (·.add (i*sz))) (n-i) (c-i) | u=>u
theorem Dv.slt {t e:TypeId} {ed:TypeDesc} {lo:Option Operand} {v:Value} {xs:List α} {p:Nat} (ho:opAt ops.toList i=some ⟨some d,.slice t x lo none none,T,ps,af,g⟩) (hg:fk ops E g) (hx:opv E x=some (eq v)) (hA:own Kd v xs∈l) (hu:P.underlying t=some (.slice e)) (hv:P.underlying e=some ed) (hz:P.cellsOf e=Kd.sz)
  (hl:uo E 0 lo p) (h1:p≤xs.length)
  (k:Dv P ops n dr R0 K ((d,eq (tlv Kd.sz v xs.length p))::E) l ((i,(own Kd v xs∈·))::pend) rest):Dv P ops n dr R0 K E l pend ((i,false)::rest):=
 Dv.lZ _ _ ho (eI.val hg fun R a w l h hA hst=>by
  have e1:=h x kP _ hx
  simp only [ei] at e1
  have b1:=mH (a:=a) hl (fun z p e hp=>h z (eM (.inl e)) p hp)
  obtain ⟨mm,hm,_⟩:=St.read hA hst
  obtain ⟨ad,c,e2,hc⟩:∃ ad c,v = .slice ad xs.length c∧xs.length≤c:=by
   rcases hm with ⟨a0,e0,e2,_⟩ | ⟨b,off,c,bT,fr,cs,e0,hlc,_⟩
   ·subst e2; exact ⟨_,_,e0,Nat.le_refl _⟩
   ·exact ⟨_,_,e0,hlc⟩
  have:=ij (P:=P) (w:=w) (is:=true) b1 (hi:=none) (len:=xs.length) (h:=xs.length) (.inl ⟨rfl,rfl⟩) (mx:=none) (cap:=c) (m:=c) (.inl ⟨rfl,rfl⟩) h1 hc (Nat.le_refl _) sM
  refine ⟨R,.slice (if c=p then ad else ad.map (·.add (p*Kd.sz))) (xs.length-p) (c-p),w,Fz.le_refl R,by rw [e2]; rfl,hst,?_⟩
  simp only [execOp,Instr.sliceAt,Instr.slice,e1,e2,underlying,hu,Sem.run_bind,run_program,Sem.run_pure,Result.andThen_ok,Option.map_none,this,run_sizeOf hv hz]) hA k
theorem yc {v:Value} {xs:List α} {p k:Nat} (hA:own Kd v xs∈l) (hp:p≤xs.length) (hk:k≤xs.length-p):yC P Kd.sz l (eq (tlv Kd.sz v xs.length p)) (xs.length-p) k (((xs.drop p).take k).flatMap Kd.enc):=fun R w u hst hu=>by
 simp only [ei] at hu
 subst hu
 obtain ⟨mm,hm,hh⟩:=St.read hA hst
 have hone:∀ {us:List Value},Cs.h R (((xs.drop p).take k).flatMap Kd.enc) us→∀ z∈us,z.oneCell'=true:=fun h=>Cs.Ck (fun q hq=>by
  obtain ⟨y,_,hy⟩:=List.mem_flatMap.1 hq
  exact fun R v hv=>Kd.one y q hy R v hv) h
 rcases hm with ⟨a,e,e2,_⟩ | ⟨b,off,c,bT,fr,cs,e,hl,hm,hc,hf,hcs⟩
 ·subst e2
  have h0:k=0:=by simpa using hk
  have h1:p=0:=by simpa using hp
  subst h0 h1
  refine ⟨[],by rw [List.take_zero]; exact .nil,sM,by simp [e,tlv,Builtin.lenOf],?_⟩
  cases a <;> simp [e,tlv,Builtin.firstCells,loadCells,loadCellsFrom]
 ·subst e
  by_cases h0:k=0
  ·subst h0
   refine ⟨[],by rw [List.take_zero]; exact .nil,sM,by simp [tlv,Builtin.lenOf],?_⟩
   by_cases hcp:c=p <;> simp [tlv,hcp,Builtin.firstCells,loadCells,loadCellsFrom]
  ·have hne:¬ c=p:=om
   have hb:=hh (b,.cells cs.toArray bT fr) (by rw [hm]; exact List.mem_singleton_self _)
   have h6:=jz (Kd:=Kd) (p:=p) (q:=p+k) om (Nat.le_add_right _ _) hcs
   have e7:(xs.take (p+k)).drop p=(xs.drop p).take k:=by rw [List.drop_take]; congr 1; omega
   rw [e7] at h6
   have e8:((xs.drop p).take k).length=k:=by rw [List.length_take,List.length_drop]; omega
   rw [e8] at h6
   have h9:=Nat.mul_le_mul_right Kd.sz (show p+k≤c by omega)
   rw [Nat.add_mul] at h9
   refine ⟨_,h6,hone h6,by simp [tlv,Builtin.lenOf],?_⟩
   have:=run_loadCells (P:=P) (off:=off+p*Kd.sz) (n:=k*Kd.sz) hb (by simp; omega)
   simpa [tlv,hne,Builtin.firstCells,add_eq] using this
theorem Dv.cpt {t t2 e:TypeId} {ed:TypeDesc} {v v2:Value} {xs ys:List α} {p jj:Nat} (ho:opAt ops.toList i=some ⟨some d,.call ⟨.builtin .copy,#[x,y],#[t,t2]⟩,T,ps,af,g⟩) (hg:fk ops E g) (hx:opv E x=some (eq v2)) (hy:opv E y=some (eq (tlv Kd.sz v xs.length p)))
  (hA:own Kd v xs∈l) (hjj:l[jj]? = some (own Kd v2 ys)) (hu:P.underlying t=some (.slice e)) (hv:P.underlying e=some ed) (hz:P.cellsOf e=Kd.sz) (hp1:p≤xs.length)
  (hp:dr=true→∀ z∈pend,((Region.before ops).getD i 0).testBit z.1=true∨∀ _:Unit,z.2 (l.set jj (own Kd v2 ((xs.drop p).take ys.length++ys.drop (xs.length-p)))))
  (k:Dv P ops n dr R0 K ((d,eq (.int .i64 (min (xs.length-p) ys.length:Nat)))::E) (l.set jj (own Kd v2 ((xs.drop p).take ys.length++ys.drop (xs.length-p)))) pend rest) (hkb:K.km E l pend ((i,true)::rest):=by first | exact trivial | assumption):Dv P ops n dr R0 K E l pend ((i,true)::rest):=
 .km _ (γ:=Unit) (fun _=>True) (fun _=>eq (.int .i64 (min (xs.length-p) ys.length:Nat))) (fun _=>l.set jj (own Kd v2 ((xs.drop p).take ys.length++ys.drop (xs.length-p)))) (eO ho) (gQ.val hg fun R a w h hst=>by
  have e1:=h x (by simp [Op.operands,Call.operands]) _ hx
  have e2:=h y (by simp [Op.operands,Call.operands]) _ hy
  simp only [ei] at e1
  have hs:yC P Kd.sz l (eq (tlv Kd.sz v xs.length p)) (xs.length-p) (min (xs.length-p) ys.length) _:=yc hA hp1 (Nat.min_le_left _ _)
  obtain ⟨us,hus,hone,hr1,hr2⟩:=hs R w _ hst e2
  have hmin:Nat.min (xs.length-p) ys.length=min (xs.length-p) ys.length:=rfl
  have ez:(xs.drop p).take ys.length++ys.drop (xs.length-p)=(xs.drop p).take (min (xs.length-p) ys.length)++ys.drop (min (xs.length-p) ys.length):=by
   rcases Nat.le_total (xs.length-p) ys.length with q | q
   ·rw [Nat.min_eq_left q,List.take_of_length_le (by rw [List.length_drop]; exact q),List.take_of_length_le (by rw [List.length_drop]; omega)]
   ·rw [Nat.min_eq_right q,List.drop_of_length_le (Nat.le_refl _),List.drop_of_length_le q]
  rw [ez]
  by_cases hy0:ys=[]
  ·subst hy0
   have hst2:St R (l.set jj (own Kd v2 ((xs.drop p).take (min (xs.length-p) ([]:List α).length)++([]:List α).drop (min (xs.length-p) ([]:List α).length)))) w:=by
    have:l.set jj (own Kd v2 ((xs.drop p).take (min (xs.length-p) ([]:List α).length)++([]:List α).drop (min (xs.length-p) ([]:List α).length)))=l:=by
     apply List.ext_getElem?
     intro q
     rw [List.getElem?_set]
     split
     ·rename_i hq; subst hq
      rw [if_pos (List.getElem?_eq_some_iff.1 hjj).1,hjj]; simp
     ·rfl
    rw [this]; exact hst
   obtain ⟨mm,hm,_⟩:=St.read (List.mem_of_getElem? hjj) hst
   obtain ⟨ad,c,e3⟩:∃ ad c,v2 = .slice ad 0 c:=by
    rcases hm with ⟨a0,e0,_,_⟩ | ⟨b,off,c,bT,fr,cs,e0,_⟩
    ·exact ⟨_,_,e0⟩
    ·exact ⟨_,_,e0⟩
   have hus0:us=[]:=by
    have:=bD.length hus
    exact List.length_eq_zero_iff.1 (by simpa using this.symm)
   subst hus0
   refine ⟨(),R,_,w,trivial,Fz.le_refl R,rfl,hst2,?_⟩
   have hr2':=hr2
   simp only [List.length_nil,Nat.min_zero] at hr2'
   cases ad <;> simp [execOp,resolve,invoke,builtin,Builtin.copy_,e1,e3,run_underlying hu,hr1,hr2',run_sizeOf hv hz,storeCells,goInt]
  ·obtain ⟨b,off,c,bT,cs,e3,hl,hc,hcs,hst1⟩:=zW jj hjj hy0 hst
   subst e3
   have hjl:=(List.getElem?_eq_some_iff.1 hjj).1
   have hj2:(l.set jj (mW b bT cs))[jj]? = some (mW b bT cs):=List.getElem?_set_self hjl
   obtain ⟨mm,rfl,hk⟩:=hst1.jf hj2
   have hh:=(iu.base hk).get
   have hul:=bD.length hus
   have hzl:((xs.drop p).take (min (xs.length-p) ys.length)).length=min (xs.length-p) ys.length:=by rw [List.length_take,List.length_drop]; omega
   rw [bL,hzl] at hul
   have m1:=Nat.mul_le_mul_right Kd.sz hl
   have m2:=Nat.mul_le_mul_right Kd.sz (Nat.min_le_right (xs.length-p) ys.length)
   obtain ⟨w',hr,hb⟩:=me (P:=P) us off 0 hh hone om sM
   have hst3:St R ((l.set jj (mW b bT cs)).set jj (mW b bT (eA cs (off+0) us))) w':=St.shut hj2 rfl (iu.to (Fz.le_refl R) (fun x hx=>by simpa using hb R x hx) hk)
   rw [List.set_set] at hst3
   have hsl:(eA cs (off+0) us).length=cs.length:=by unfold eA; simp; omega
   have hfin:=FC (Kd:=Kd) (b:=b) (off:=off) (n:=ys.length) (c:=c) (zs:=(xs.drop p).take (min (xs.length-p) ys.length)++ys.drop (min (xs.length-p) ys.length)) jj (List.getElem?_set_self hjl) (by rw [List.length_append,hzl,List.length_drop]; omega) hl (by rw [hsl]; exact hc) (by
    have e9:((eA cs (off+0) us).drop off).take (ys.length*Kd.sz)=us++(((cs.drop off).take (ys.length*Kd.sz)).drop us.length):=by
     unfold eA
     rw [Nat.add_zero,List.append_assoc,List.drop_append,List.drop_of_length_le (by rw [List.length_take]; exact Nat.min_le_left _ _),List.nil_append]
     have:off-(cs.take off).length=0:=by rw [List.length_take]; omega
     rw [this,List.drop_zero,List.take_append,List.take_of_length_le om,List.drop_take,List.drop_drop]
    rw [e9,List.flatMap_append]
    refine hus.append ?_
    have h5:=jz (Kd:=Kd) (xs:=ys) (p:=min (xs.length-p) ys.length) (q:=ys.length) (Nat.le_refl _) (Nat.min_le_right _ _) hcs
    rw [List.take_length,List.length_drop] at h5
    rw [List.drop_take,List.drop_drop,← hul,← Nat.sub_mul]
    exact h5) hst3
   rw [List.set_set] at hfin
   refine ⟨(),R,_,w',trivial,Fz.le_refl R,rfl,hfin,?_⟩
   simp [execOp,resolve,invoke,builtin,Builtin.copy_,e1,run_underlying hu,hr1,hr2,run_sizeOf hv hz,hmin,hr,goInt]) (fun e z hz=>(hp e z hz).imp id fun h b _=>h b) (fun _ _=>k) hkb
end
def DU (s:BA) (c:Int):Int:=s.foldl (fun n x=>if x==c.toNat.toUInt8 then n+1 else n) ((0:Nat):Int)
theorem Gy {P : Program} {f : FuncId} {fn : Func} {s : BA} {c : Int} (hf : P.funcs[f]? = some fn) (hn : (fn.name == "runtime.NumGoroutine") = false) (hb : fn.body = none) (h1 : (Extern.findNext fn).isNone = true) (h2 : Extern.find fn = some Extern.BytealgCount.count) :
  Xt P f [eq (.string s),eq (.int .u8 c)] (eq (.int .i64 (DU s c))):=fun R w l us hu _=>by
 cases hu with
 | cons a1 hu=>cases hu with
  | cons a2 hu=>
   cases hu
   simp only [ei] at a1 a2
   subst a1 a2
   refine ⟨_,rfl,uI hf hn hb h1 h2 ?_⟩
   show (do let b ← Extern.Bytes.bytesOf (.string s); let c ← Extern.Bytes.asByte (.int .u8 c); pure (goInt (b.foldl (fun n x=>if x==c then n+1 else n) (0:Nat))):Sem Value).run P w=_
   simp only [Extern.Bytes.bytesOf,Extern.Bytes.asByte,Sem.run_bind,Sem.run_pure,Result.andThen_ok]
   rfl
end Go.Sp
