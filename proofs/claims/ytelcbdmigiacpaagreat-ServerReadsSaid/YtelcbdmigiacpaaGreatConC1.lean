import Derived.Test.YtelcbdmigiacpaaGreatConV
import Derived.Laws.Build
set_option linter.all false
namespace Go.Sp
open Go
section
variable {P:Program} {ops:Array Oper} {n:Nat} {dr:Bool} {R0:Fz} {K:KU} {E:Env} {l:List As} {pend:List (Nat×(List As->Prop))} {rest:List (Nat×Bool)} {i d:Nat}
variable {T:TypeId} {ps:String} {af:Array Edge} {g:Option (Nat×Bool)} {x y:Operand} {α:Type} {Kd:Kd α}
def tlv (sz:Nat) (v:Value) (n i:Nat):Value:=match v with | .slice a _ c=>.slice (if c=i then a else a.map (·.add (i*sz))) (n-i) (c-i) | u=>u
theorem Dv.slt {t e:TypeId} {ed:TypeDesc} {lo:Option Operand} {v:Value} {xs:List α} {p:Nat} (ho:opAt ops.toList i=some ⟨some d,.slice t x lo none none,T,ps,af,g⟩) (hg:fZ ops E g) (hx:opv E x=some (eq v)) (hA:own Kd v xs∈l) (hu:P.underlying t=some (.slice e)) (hv:P.underlying e=some ed) (hz:P.cellsOf e=Kd.sz)
  (hl:tO E 0 lo p) (h1:p<=xs.length)
  (k:Dv P ops n dr R0 K ((d,eq (tlv Kd.sz v xs.length p))::E) l ((i,(own Kd v xs∈·))::pend) rest):Dv P ops n dr R0 K E l pend ((i,false)::rest):=
 Dv.mg _ _ ho (eV.val hg λR a w l h hA hst=>by
  have e1:=h x lF _ hx
  simp only [ez] at e1
  have b1:=nJ (a:=a) hl (λz p e hp=>h z (fA (.inl e)) p hp)
  obtain⟨mm,hm,_⟩:=St.read hA hst
  obtain⟨ad,c,e2,hc⟩:∃ ad c,v = .slice ad xs.length c/\xs.length<=c:=by
   rcases hm with⟨a0,e0,e2,_⟩|⟨b,off,c,bT,fr,cs,e0,hlc,_⟩
   ·subst e2;exact⟨_,_,e0,Nat.le_refl _⟩
   ·exact⟨_,_,e0,hlc⟩
  have:=jo (P:=P) (w:=w) (is:=true) b1 (hi:=none) (len:=xs.length) (h:=xs.length) (.inl ⟨rfl,rfl⟩) (mx:=none) (cap:=c) (m:=c) (.inl ⟨rfl,rfl⟩) h1 hc (Nat.le_refl _) sM
  refine⟨R,.slice (if c=p then ad else ad.map (·.add (p*Kd.sz))) (xs.length-p) (c-p),w,Fz.le_refl R,by rw [e2];rfl,hst,?_⟩
  simp only [execOp,Instr.sliceAt,Instr.slice,e1,e2,underlying,hu,Sem.run_bind,run_program,Sem.run_pure,Result.andThen_ok,Option.map_none,this,run_sizeOf hv hz]) hA k
theorem C1 {v:Value} {xs:List α} {p k:Nat} (hA:own Kd v xs∈l) (hp:p<=xs.length) (hk:k<=xs.length-p):zf P Kd.sz l (eq (tlv Kd.sz v xs.length p)) (xs.length-p) k (((xs.drop p).take k).flatMap Kd.enc):=λR w u hst hu=>by
 simp only [ez] at hu
 subst hu
 obtain⟨mm,hm,hh⟩:=St.read hA hst
 have hone:∀ {us:List Value},Cs.h R (((xs.drop p).take k).flatMap Kd.enc) us->∀ z∈us,z.oneCell'=true:=λh=>Cs.Av (λq hq=>by
  obtain⟨y,_,hy⟩:=List.mem_flatMap.1 hq
  exact λR v hv=>Kd.one y q hy R v hv) h
 rcases hm with⟨a,e,e2,_⟩|⟨b,off,c,bT,fr,cs,e,hl,hm,hc,hf,hcs⟩
 ·subst e2
  have h0:k=0:=by simpa using hk
  have h1:p=0:=by simpa using hp
  subst h0 h1
  refine⟨[],by rw [List.take_zero];exact .nil,sM,by simp [e,tlv,Builtin.lenOf],?_⟩
  cases a <;> simp [e,tlv,Builtin.firstCells,loadCells,loadCellsFrom]
 ·subst e
  by_cases h0:k=0
  ·subst h0
   refine⟨[],by rw [List.take_zero];exact .nil,sM,by simp [tlv,Builtin.lenOf],?_⟩
   by_cases hcp:c=p <;> simp [tlv,hcp,Builtin.firstCells,loadCells,loadCellsFrom]
  ·have hne:¬ c=p:=om
   have hb:=hh (b,.cells cs.toArray bT fr) (by rw [hm];exact List.mem_singleton_self _)
   have h6:=lz (Kd:=Kd) (p:=p) (q:=p+k) om (Nat.le_add_right _ _) hcs
   have e7:(xs.take (p+k)).drop p=(xs.drop p).take k:=by rw [List.drop_take];congr 1;omega
   rw [e7] at h6
   have e8:((xs.drop p).take k).length=k:=by rw [List.length_take,List.length_drop];omega
   rw [e8] at h6
   have h9:=Nat.mul_le_mul_right Kd.sz (show p+k<=c by omega)
   rw [Nat.add_mul] at h9
   refine⟨_,h6,hone h6,by simp [tlv,Builtin.lenOf],?_⟩
   have:=run_loadCells (P:=P) (off:=off+p*Kd.sz) (n:=k*Kd.sz) hb (by simp;omega)
   simpa [tlv,hne,Builtin.firstCells,add_eq] using this
end
end Go.Sp
