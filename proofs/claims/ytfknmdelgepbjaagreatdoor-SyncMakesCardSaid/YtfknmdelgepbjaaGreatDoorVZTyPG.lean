import Derived.Test.YtfknmdelgepbjaaGreatDoorVZPF
set_option linter.all false
set_option maxRecDepth 10000
namespace Go.Proofs.YtfknmdelgepbjaaGreatDoor
open Go Go.Sp
section
variable {b:List Int} {n:Int} {s:BA} {e:ak}
def oo (n:Nat):List Int:=if n<128 then [(n:Int)] else ((n%128+128:Nat):Int)::oo (n/128)
termination_by n
decreasing_by omega
theorem kK {n:Nat} (h:n<128):oo n=[(n:Int)]:=by rw [oo,if_pos h]
theorem vF {n:Nat} (h:¬ n<128):oo n=((n%128+128:Nat):Int)::oo (n/128):=by rw [oo,if_neg h]
theorem zS:∀ (d:Nat) {n:Nat},n<128 ^ (d+1)→(oo n).length≤d+1:=by
 intro d
 induction d with
 | zero=>intro n hn; rw [kK (by simpa using hn)]; simp
 | succ d ih=>
  intro n hn
  by_cases h:n<128
  ·rw [kK h]; simp
  ·rw [vF h,List.length_cons]
   have h1:n/128<128 ^ (d+1):=by
    rw [Nat.div_lt_iff_lt_mul dc]
    rw [Nat.pow_succ] at hn; exact hn
   have:=ih h1
   omega
theorem Lx:1099511627776<128 ^ (5+1):=dc
theorem FU:∀ (d n:Nat) (b:List Int),n<128 ^ (d+1)→n≤1099511627776→b.length+d≤1000010→
  ∃ (m:Nat) (bs:List Int),El (fun k j=>bZ.l0 k j (n:Int) b) ((m:Int),false,b++bs)∧bs++[(m:Int)]=oo n∧m<128∧(b++bs).length≤b.length+d:=by
 intro d
 induction d with
 | zero=>
  intro n b hn hm hb
  have h:n<128:=by simpa using hn
  refine ⟨n,[],?_,by rw [kK h]; rfl,h,sM⟩
  refine El.step (fun _ _=>by rw [bZ.l0]) ?_
  rw [dF (by omega:¬ (128:Int)≤(n:Int)),List.append_nil]
  exact El.cf rfl El.pure
 | succ d ih=>
  intro n b hn hm hb
  by_cases h:n<128
  ·refine ⟨n,[],?_,by rw [kK h]; rfl,h,sM⟩
   refine El.step (fun _ _=>by rw [bZ.l0]) ?_
   rw [dF (by omega:¬ (128:Int)≤(n:Int)),List.append_nil]
   exact El.cf rfl El.pure
  ·have h1:n/128<128 ^ (d+1):=by
    rw [Nat.div_lt_iff_lt_mul dc]
    rw [Nat.pow_succ] at hn; exact hn
   obtain ⟨m,bs,g1,g2,g3,g4⟩:=ih (n/128) (b++[((n%128+128:Nat):Int)]) h1 om (by simp; omega)
   have e1:av ((n:Int).tdiv 128)=((n/128:Nat):Int):=by
    rw [Int.tdiv_eq_ediv_of_nonneg om,aG om om]; omega
   have e2:IntKind.u8.wrap (av ((n:Int).tmod 128+128))=((n%128+128:Nat):Int):=by
    rw [Int.tmod_eq_emod_of_nonneg om,aG om om,Ax om om]; omega
   refine ⟨m,((n%128+128:Nat):Int)::bs,?_,by rw [vF h,← g2]; rfl,g3,by simp at g4 ⊢; omega⟩
   refine El.step (fun _ _=>by rw [bZ.l0]) ?_
   rw [e1,e2]
   refine El.ct (dT om) (El.an ⟨by simp; omega,by simp; omega⟩ ?_)
   rw [List.append_assoc] at g1
   exact g1
theorem CA {n:Nat} (h1:n≤1099511627776) (hb:b.length≤1000000):Ev (fun k=>bZ.f k b (n:Int)) (b++oo n):=by
 obtain ⟨m,bs,g1,g2,g3,g4⟩:=FU 5 n b (Nat.lt_of_le_of_lt h1 Lx) h1 om
 unfold bZ.f
 refine Ev.an ⟨om,om,om⟩ ?_
 have e1:((b.take ((b.length:Int).toNat)).drop 0)=b:=sM
 have e2:max (n:Int) 0=(n:Int):=om
 rw [e1,e2]
 refine Ev.bind g1.diag ?_
 rw [Ax (x:=(m:Int)) om om]
 rw [← g2,← List.append_assoc]
 exact Ev.an ⟨by rw [List.length_singleton]; show (b++bs).length+1≤_; omega,by rw [List.length_singleton]; show ((b++bs).length+1)*1≤_; omega⟩ Ev.pure
theorem wo:∀ (d n:Nat),n<128 ^ (d+1)→n≤1099511627776→d≤100→Ev (fun k=>cV.f k (n:Int)) (oo n):=by
 intro d
 induction d with
 | zero=>
  intro n hn hm hd
  have h:n<128:=by simpa using hn
  refine Ev.step (fun _=>by rw [cV.f]) ?_
  refine Ev.bind (a:=(n:Int)) (Ev.cf (dF om) Ev.pure) ?_
  refine Ev.ct (dT om) ?_
  rw [Ax om om,kK h]
  exact Ev.pure
 | succ d ih=>
  intro n hn hm hd
  refine Ev.step (fun _=>by rw [cV.f]) ?_
  refine Ev.bind (a:=(n:Int)) (Ev.cf (dF om) Ev.pure) ?_
  by_cases h:n<128
  ·refine Ev.ct (dT om) ?_
   rw [Ax om om,kK h]
   exact Ev.pure
  ·have h1:n/128<128 ^ (d+1):=by
    rw [Nat.div_lt_iff_lt_mul dc]
    rw [Nat.pow_succ] at hn; exact hn
   have e1:av ((n:Int).tdiv 128)=((n/128:Nat):Int):=by
    rw [Int.tdiv_eq_ediv_of_nonneg om,aG om om]; omega
   have e2:IntKind.u8.wrap (av (128+(n:Int).tmod 128))=((n%128+128:Nat):Int):=by
    rw [Int.tmod_eq_emod_of_nonneg om,aG om om,Ax om om]; omega
   have hl:=zS d h1
   rw [e1,e2,vF h]
   exact Ev.cf (dF om) (Ev.bind (ih _ h1 om om) (Ev.an ⟨by simp; omega,by simp; omega⟩ Ev.pure))
theorem ny (h0:0≤n) (h1:n<128) (hb:b.length≤1000000):Ev (fun k=>bZ.f k b n) (b++[n]):=by
 obtain ⟨m,rfl⟩:=Int.eq_ofNat_of_zero_le h0
 have:=CA (b:=b) (n:=m) om hb
 rw [kK om] at this
 exact this
theorem qL (h0:0≤n) (h1:n<128):Ev (fun k=>cV.f k n) [n]:=by
 obtain ⟨m,rfl⟩:=Int.eq_ofNat_of_zero_le h0
 have:=wo 0 m (by simp; omega) om om
 rw [kK om] at this
 exact this
theorem uz (h0:0≤n) (h1:n≤1099511627776) (hb:b.length≤1000000):Ev (fun k=>bZ.f k b n) (b++oo n.toNat):=by
 obtain ⟨m,rfl⟩:=Int.eq_ofNat_of_zero_le h0
 exact CA om hb
theorem vY (h0:0≤n) (h1:n≤1099511627776):Ev (fun k=>cV.f k n) (oo n.toNat):=by
 obtain ⟨m,rfl⟩:=Int.eq_ofNat_of_zero_le h0
 exact wo 5 m (Nat.lt_of_le_of_lt om Lx) om om
theorem yz {n:Int} (h1:n≤1099511627776):(oo n.toNat).length≤6:=zS 5 (Nat.lt_of_le_of_lt om Lx)
def lJ (s:BA):List Int:=(s.size:Int)::nD s
theorem sF:(nD s).length=s.size:=by simp [nD]
theorem qp:(lJ s).length=s.size+1:=by simp [lJ,sF]
theorem uf (h1:s.size<128) (hb:b.length≤500000):Ev (fun k=>oA.f k b s) (b++lJ s):=by
 unfold oA.f
 refine Ev.bind (ny om om om) ?_
 refine Ev.an (by rw [sF]; simp; omega) ?_
 have e:b++lJ s=b++[(s.size:Int)]++nD s:=by simp [lJ]
 rw [e]
 exact Ev.pure
theorem o6 (h1:s.size<128):Ev (fun k=>jU.f k s) (lJ s):=by
 unfold jU.f
 refine Ev.bind (qL om om) ?_
 refine Ev.an (by rw [sF]; simp; omega) ?_
 exact Ev.pure
def vN (o:Bool):Int:=cond o 1 0
theorem Jq {o:Bool} (hb:b.length≤1000000):Ev (fun k=>oT.f k b o) (b++[vN o]):=by
 unfold oT.f
 cases o
 ·exact Ev.cf rfl (Ev.bind (ny dc dc hb) Ev.pure)
 ·exact Ev.ct rfl (Ev.bind (ny dc dc hb) Ev.pure)
structure Sm (e:ak):Prop where
 kind:0≤e.aI∧e.aI<128
 room:e.ab.size<128
 user:e.aj.size<128
 event:e.bH.size<128
 kA:e.ae.size<128
 span:0≤e.bW∧e.bW<128
 state:0≤e.aQ∧e.aQ<128
 tick:0≤e.aU∧e.aU≤1099511627776
 rX:0≤e.aZ∧e.aZ≤1099511627776
def rY (e:ak):List Int:=e.aI::(lJ e.ab++lJ e.aj++lJ e.bH++lJ e.ae++([vN e.kl,e.bW,e.aQ]++oo e.aU.toNat++oo e.aZ.toNat))
theorem CE (h:Sm e):Ev (fun k=>cR.f k e) (rY e):=by
 obtain ⟨h1,h2,h3,h4,h5,h6,h7,h8,h9⟩:=h
 unfold cR.f
 refine Ev.bind (ny h1.1 h1.2 sM) ?_
 have t1:El (fun k j=>cR.l1 k e j 0 ([]++[e.aI])) (4,false,[]++[e.aI]++lJ e.ab++lJ e.aj++lJ e.bH++lJ e.ae):=by
  refine El.step (fun _ _=>by rw [cR.l1]) ?_
  refine El.ct rfl (El.an (of_decide_eq_true rfl) (El.bind (Ev.el (uf (s:=e.ab) h2 sM)) ?_))
  refine El.step (fun _ _=>by rw [cR.l1]) ?_
  refine El.ct rfl (El.an (of_decide_eq_true rfl) (El.bind (Ev.el (uf (s:=e.aj) h3 (by simp [qp]; omega))) ?_))
  refine El.step (fun _ _=>by rw [cR.l1]) ?_
  refine El.ct rfl (El.an (of_decide_eq_true rfl) (El.bind (Ev.el (uf (s:=e.bH) h4 (by simp [qp]; omega))) ?_))
  refine El.step (fun _ _=>by rw [cR.l1]) ?_
  refine El.ct rfl (El.an (of_decide_eq_true rfl) (El.bind (Ev.el (uf (s:=e.ae) h5 (by simp [qp]; omega))) ?_))
  refine El.step (fun _ _=>by rw [cR.l1]) ?_
  exact El.cf rfl El.pure
 refine Ev.bind t1.diag ?_
 have hl:([]++[e.aI]++lJ e.ab++lJ e.aj++lJ e.bH++lJ e.ae).length≤1000:=by simp [qp]; omega
 have he:rY e=[]++[e.aI]++lJ e.ab++lJ e.aj++lJ e.bH++lJ e.ae++[vN e.kl]++[e.bW]++[e.aQ]++oo e.aU.toNat++oo e.aZ.toNat:=by simp [rY]
 rw [he]
 generalize []++[e.aI]++lJ e.ab++lJ e.aj++lJ e.bH++lJ e.ae=bb at hl ⊢
 refine Ev.bind (Jq (b:=bb) om) ?_
 have t2:El (fun k j=>cR.l0 k e j 0 (bb++[vN e.kl])) (4,false,bb++[vN e.kl]++[e.bW]++[e.aQ]++oo e.aU.toNat++oo e.aZ.toNat):=by
  refine El.step (fun _ _=>by rw [cR.l0]) ?_
  refine El.ct rfl (El.an (of_decide_eq_true rfl) (El.bind (Ev.el (ny (n:=e.bW) h6.1 h6.2 (by simp; omega))) ?_))
  refine El.step (fun _ _=>by rw [cR.l0]) ?_
  refine El.ct rfl (El.an (of_decide_eq_true rfl) (El.bind (Ev.el (ny (n:=e.aQ) h7.1 h7.2 (by simp; omega))) ?_))
  refine El.step (fun _ _=>by rw [cR.l0]) ?_
  refine El.ct rfl (El.an (of_decide_eq_true rfl) (El.bind (Ev.el (uz (n:=e.aU) h8.1 h8.2 (by simp; omega))) ?_))
  refine El.step (fun _ _=>by rw [cR.l0]) ?_
  refine El.ct rfl (El.an (of_decide_eq_true rfl) (El.bind (Ev.el (uz (n:=e.aZ) h9.1 h9.2 (by have:=yz h8.2; simp; omega))) ?_))
  refine El.step (fun _ _=>by rw [cR.l0]) ?_
  exact El.cf rfl El.pure
 exact Ev.bind t2.diag Ev.pure
theorem tP (h:Sm e):Ev (fun k=>lF.f k e) (rY e):=by
 obtain ⟨h1,h2,h3,h4,h5,h6,h7,h8,h9⟩:=h
 unfold lF.f
 have hf:∀ o,pZ.f o=some [vN o]:=fun o=>by cases o <;> rfl
 have he:rY e=[e.aI]++lJ e.ab++lJ e.aj++lJ e.bH++lJ e.ae++[vN e.kl]++[e.bW]++[e.aQ]++oo e.aU.toNat++oo e.aZ.toNat:=by simp [rY]
 rw [he]
 refine Ev.bind (qL h1.1 h1.2) (Ev.bind (o6 h2) (Ev.an ?_ (Ev.bind (o6 h3) (Ev.an ?_ (Ev.bind (o6 h4) (Ev.an ?_ (Ev.bind (o6 h5) (Ev.an ?_ (Ev.bind (Ev.of (hf _)) (Ev.an ?_ (Ev.bind (qL h6.1 h6.2) (Ev.an ?_ (Ev.bind (qL h7.1 h7.2) (Ev.an ?_ (Ev.bind (vY h8.1 h8.2) (Ev.an ?_ (Ev.bind (vY h9.1 h9.2) (Ev.an ?_ Ev.pure)))))))))))))))))) <;> (have a8:=yz h8.2; have a9:=yz h9.2; simp [qp]; omega)
def og (a b:ak):Int:=if a.aZ<b.aZ then -1 else if b.aZ<a.aZ then 1 else kc (gG (rY a)) (gG (rY b))
theorem qR {a b:ak} (ha:Sm a) (hb:Sm b):Ev (fun k=>jz.f k a b) (og a b):=by
 unfold jz.f og
 by_cases h1:a.aZ<b.aZ
 ·rw [if_pos h1]; exact Ev.ct (by simpa using h1) Ev.pure
 rw [if_neg h1]
 refine Ev.cf (by simpa using h1) ?_
 by_cases h2:b.aZ<a.aZ
 ·rw [if_pos h2]; exact Ev.ct (by simpa using h2) Ev.pure
 rw [if_neg h2]
 refine Ev.cf (by simpa using h2) (Ev.bind (tP ha) (Ev.bind (tP hb) ?_))
 unfold kc
 cases h3:dK (gG (rY a)) (gG (rY b)) with
 | true=>exact Ev.ct rfl Ev.pure
 | false=>
  refine Ev.cf rfl ?_
  cases h4:dK (gG (rY b)) (gG (rY a)) with
  | true=>exact Ev.ct rfl Ev.pure
  | false=>exact Ev.cf rfl Ev.pure
theorem Ff {a b:ak} (ha:Sm a) (hb:Sm b):Ev (fun k=>lG.f k a b) (og a b):=by
 unfold lG.f ll.f
 refine Ev.bind (Ev.of (BN _ _)) (Ev.bind (CE ha) (Ev.bind (CE hb) (Ev.bind Ev.pure (Ev.bind (Dc _ _) ?_))))
 have e:(if nr a.aZ b.aZ=0 then Io (rY a) (rY b) else nr a.aZ b.aZ)=og a b:=by
  rw [HV]
  unfold og nr
  by_cases h1:a.aZ<b.aZ
  ·simp [h1]
  ·by_cases h2:b.aZ<a.aZ <;> simp [h1,h2]
 rw [e]
 exact Ev.pure
end
theorem DZ (a:ak):og a a=0:=by unfold og; simp [jM.2 rfl]
theorem oc {m:Nat} (h:m≤1000000):av ((m:Int)+1)=((m+1:Nat):Int):=by rw [aG om om]; omega
theorem jt (l:List ak) (m:Nat):ak.K.at l (m:Int)=l.getD m default:=by unfold Kd.at; rw [Int.toNat_natCast] <;> rfl
end Go.Proofs.YtfknmdelgepbjaaGreatDoor
set_option linter.all false
set_option maxRecDepth 10000
namespace Go.Proofs.YtfknmdelgepbjaaGreatDoor.Ty
open Go Go.Sp
structure mR (e:ak):Prop where
 ge:GE e
 kind:e.aI=2
section
variable {e:ak} (h:mR e)
include h
theorem mR.n1:e.aI≠1:=by rw [h.kind]; decide
theorem mR.room:dj e.ab 33=true∧e.ab.size≤40:=by
 have r:=px (h.ge.room (by rw [h.kind]; decide))
 exact ⟨r.1,by rw [r.2]; decide⟩
theorem mR.kA:e.ae=⟨#[]⟩:=h.ge.qV h.n1
theorem mR.tV:e.aq=false:=h.ge.tV h.n1
theorem mR.AX:e.kl=true→1≤e.bW∧e.bW≤60:=h.ge.AX
theorem mR.tick:0≤e.aU∧e.aU≤1099511627776:=by have:=h.ge.tick; omega
theorem mR.rX:0≤e.aZ∧e.aZ≤1099511627776:=by have:=h.ge.rX; omega
theorem mR.EY:Br e=true:=by rw [h.ge.may,h.tV]; rfl
theorem yp:Ev (fun k=>mv.f k e) true:=by
 have:=(Proofs.YtfknmdelgepbjaaGreatDoor.mb h.ge.zz).2
 rwa [h.EY] at this
theorem mb:Ev (fun k=>mw.f k e) true:=by
 have:=(Proofs.YtfknmdelgepbjaaGreatDoor.mb h.ge.zz).1
 rwa [h.EY] at this
theorem mR.sm:Sm e:=by
 have z:=h.ge.Kh
 refine ⟨by rw [h.kind]; decide,om,om,om,om,?_,by rw [h.ge.B2 (by rw [h.kind]; decide)]; decide,h.tick,h.rX⟩
 cases ho:e.kl with
 | true=>have:=h.AX ho; omega
 | false=>have:=h.ge.zT ho; omega
end
theorem D1 {a b:ak} (ha:mR a) (hb:mR b) (h:(a.ab++(⟨#[32]⟩:BA))++a.aj=(b.ab++(⟨#[32]⟩:BA))++b.aj):a.ab=b.ab∧a.aj=b.aj:=
 key_inj (vL dc ha.room.1) (vL dc hb.room.1) h
end Go.Proofs.YtfknmdelgepbjaaGreatDoor.Ty
set_option linter.all false
set_option maxRecDepth 10000
namespace Go.Proofs.YtfknmdelgepbjaaGreatDoor.Ty
open Go Go.Sp
def mQ (a b:ak):Int:=if kc a.ab b.ab=0 then kc a.aj b.aj else kc a.ab b.ab
def same (a b:ak):Prop:=a.ab=b.ab∧a.aj=b.aj
instance sameD (a b:ak):Decidable (same a b):=inferInstanceAs (Decidable (_∧_))
def km (a b:ak):Bool:=dK a.ab b.ab||(decide (a.ab=b.ab)&&dK a.aj b.aj)
theorem n0 {a b:ak}:mQ a b=0↔same a b:=by
 unfold mQ same
 by_cases h:kc a.ab b.ab=0
 ·rw [if_pos h,jM,← jM (x:=a.ab)]; simp [h]
 ·rw [if_neg h,← jM]; simp [h]
theorem jQ {a b:ak}:mQ a b<0↔km a b=true:=by
 unfold mQ km
 by_cases h:kc a.ab b.ab=0
 ·have e:=jM.1 h
  rw [if_pos h,nq,e]; simp [iZ]
 ·rw [if_neg h,nq]
  have:¬ a.ab=b.ab:=fun e=>h (jM.2 e)
  simp [this]
theorem qQ {a b:ak}:0<mQ a b↔km b a=true:=by
 unfold mQ km
 by_cases h:kc a.ab b.ab=0
 ·have e:=jM.1 h
  rw [if_pos h,rI,e]; simp [iZ]
 ·rw [if_neg h,rI]
  have:¬ b.ab=a.ab:=fun e=>h (jM.2 e.symm)
  simp [this]
theorem me {a b c:ak} (h:km a b=true) (k:km b c=true):km a c=true:=by
 simp only [km,Bool.or_eq_true,Bool.and_eq_true,decide_eq_true_eq] at h k ⊢
 rcases h with h | ⟨e,h⟩ <;> rcases k with k | ⟨e2,k⟩
 ·exact .inl (mj h k)
 ·rw [← e2]; exact .inl h
 ·rw [e]; exact .inl k
 ·exact .inr ⟨e.trans e2,mj h k⟩
theorem sC {a b:ak} (h:km a b=true):km b a=false:=by
 cases k:km b a with
 | false=>rfl
 | true=>
  have h1:=jQ.2 h
  have h2:=qQ.2 k
  omega
theorem cX {a b:ak} (h:km a b=true):¬ same a b:=fun k=>by
 have h1:=jQ.2 h
 have h2:=n0.2 k
 omega
theorem qB {a b c:ak} (h:same a b):km a c=km b c:=by unfold km; rw [h.1,h.2]
theorem DW (a b:ak):Ev (fun k=>ea.f k a b) (mQ a b):=by
 unfold ea.f
 exact Ev.bind (Ev.of (uX _ _)) (Ev.bind (Ev.of (uX _ _)) (Ev.bind (Dc _ _) Ev.pure))
section
variable {l:List ak} {e:ak} {c:ak→Int} {g:Nat→ak→ak→Option Int}
theorem qE (hg:∀ x,Ev (fun k=>g k x e) (c x)) (hl:l.length≤1000000) (hs:∀ i j,i<j→j<l.length→c (l.getD j default)<0→c (l.getD i default)<0):∀ d i j:Nat,j-i≤d→i≤j→j≤l.length→(∀ m,m<i→c (l.getD m default)<0)→(∀ m,j≤m→m<l.length→0≤c (l.getD m default))→
  ∃ p:Nat,p≤l.length∧(∀ m,m<p→c (l.getD m default)<0)∧(∀ m,p≤m→m<l.length→0≤c (l.getD m default))∧El (fun k q=>slices_BinarySearchFunc_Edu_Edu.l0 k l e (g k) q (i:Int) (j:Int)) ((p:Int),(p:Int),false):=by
 intro d
 induction d with
 | zero=>
  intro i j hd hij hj h1 h2
  obtain rfl:i=j:=om
  refine ⟨i,hj,h1,h2,?_⟩
  refine El.step (fun _ _=>by rw [slices_BinarySearchFunc_Edu_Edu.l0]) ?_
  have:¬ ((i:Int)<(i:Int)):=om
  rw [dF this]
  exact El.cf rfl El.pure
 | succ d ih=>
  intro i j hd hij hj h1 h2
  by_cases hlt:i<j
  ·have hm:av ((IntKind.u64.wrap (av ((i:Int)+(j:Int)))).fdiv 2)=(((i+j)/2:Nat):Int):=by rw [E1 om om om]; omega
   have hw:av ((((i+j)/2:Nat):Int)+1)=(((i+j)/2+1:Nat):Int):=by rw [aG om om]; omega
   by_cases hc:c (l.getD ((i+j)/2) default)<0
   ·obtain ⟨p,k1,k2,k3,k4⟩:=ih ((i+j)/2+1) j om om hj (fun m hm=>by
     rcases Nat.lt_or_ge m ((i+j)/2) with h | h
     ·exact hs m _ h om hc
     ·obtain rfl:m=(i+j)/2:=om
      exact hc) h2
    refine ⟨p,k1,k2,k3,?_⟩
    refine El.step (fun _ _=>by rw [slices_BinarySearchFunc_Edu_Edu.l0]) ?_
    simp only [hm,hw]
    refine El.ct (by simpa using hlt) (El.an ⟨om,om⟩ (El.bind (a:=c (l.getD ((i+j)/2) default)) ?_ (El.ct (by simpa using hc) k4)))
    rw [jt]
    exact (hg _).el
   ·obtain ⟨p,k1,k2,k3,k4⟩:=ih i ((i+j)/2) om om om h1 (fun m hm1 hm2=>by
     rcases Nat.lt_or_ge ((i+j)/2) m with h | h
     ·by_cases hcm:c (l.getD m default)<0
      ·exact absurd (hs _ m h hm2 hcm) hc
      ·omega
     ·obtain rfl:m=(i+j)/2:=om
      omega)
    refine ⟨p,k1,k2,k3,?_⟩
    refine El.step (fun _ _=>by rw [slices_BinarySearchFunc_Edu_Edu.l0]) ?_
    simp only [hm,hw]
    refine El.ct (by simpa using hlt) (El.an ⟨om,om⟩ (El.bind (a:=c (l.getD ((i+j)/2) default)) ?_ (El.cf (by simpa using hc) k4)))
    rw [jt]
    exact (hg _).el
  ·exact ih i j om hij hj h1 h2
theorem sN (hg:∀ x,Ev (fun k=>g k x e) (c x)) (hl:l.length≤1000000) (hs:∀ i j,i<j→j<l.length→c (l.getD j default)<0→c (l.getD i default)<0):
  ∃ p:Nat,p≤l.length∧(∀ m,m<p→c (l.getD m default)<0)∧(∀ m,p≤m→m<l.length→0≤c (l.getD m default))∧Ev (fun k=>slices_BinarySearchFunc_Edu_Edu.f k l e (g k)) ((p:Int),decide (p<l.length)&&(c (l.getD p default)==0)):=by
 obtain ⟨p,k1,k2,k3,k4⟩:=qE hg hl hs l.length 0 l.length om om (Nat.le_refl _) (fun m hm=>om) (fun m h1 h2=>om)
 refine ⟨p,k1,k2,k3,?_⟩
 unfold slices_BinarySearchFunc_Edu_Edu.f
 refine Ev.bind k4.diag ?_
 by_cases hp:p<l.length
 ·rw [dT hp]
  refine Ev.ct (by simpa using hp) (Ev.an ⟨om,by show (p:Int)<_; omega⟩ (Ev.bind (a:=c (l.getD p default)) ?_ ?_))
  ·rw [jt]; exact hg _
  ·rw [Bool.true_and]; exact Ev.pure
 ·rw [dF hp,Bool.false_and]
  exact Ev.cf (by simpa using hp) Ev.pure
end
def tI (l:List ak):Prop:=∀ i j,i<j→j<l.length→km (l.getD i default) (l.getD j default)=true
structure At (l:List ak) (e:ak) (p:Nat):Prop where
 le:p≤l.length
 lo:∀ m,m<p→km (l.getD m default) e=true
 hi:∀ m,p≤m→m<l.length→km (l.getD m default) e=false
def cut (L:List ak) (e:ak) (p:Nat):Nat:=if p<L.length∧same (L.getD p default) e then p+1 else p
def tG (L:List ak) (e:ak) (p:Nat):Bool:=decide (p<L.length∧same (L.getD p default) e∧og e (L.getD p default)≤0)
theorem uD {l:List ak}:tI l↔l.Pairwise (fun a b=>km a b=true):=by
 rw [List.pairwise_iff_getElem]
 constructor
 ·intro h i j hi hj hij
  have:=h i j hij hj
  rw [gD,gD,gE hi,gE hj] at this
  exact this
 ·intro h i j hij hj
  rw [gD,gD,gE (by omega:i<l.length),gE hj]
  exact h i j om hj hij
section
variable {L:List ak} {e:ak} {p:Nat}
theorem At.gt (hs:tI L) (hp:At L e p):∀ j,cut L e p≤j→j<L.length→km e (L.getD j default)=true:=by
 intro j hj1 hj2
 by_cases hh:p<L.length∧same (L.getD p default) e
 ·rw [show cut L e p=p+1 from if_pos hh] at hj1
  rw [qB ⟨hh.2.1.symm,hh.2.2.symm⟩]; exact hs p j hj1 hj2
 ·rw [show cut L e p=p from if_neg hh] at hj1
  have hpl:p<L.length:=om
  have h1:=hp.hi p (Nat.le_refl _) hpl
  have h2:¬ same (L.getD p default) e:=fun h=>hh ⟨hpl,h⟩
  have h3:km e (L.getD p default)=true:=by
   have a:=jQ (a:=L.getD p default) (b:=e)
   have b:=n0 (a:=L.getD p default) (b:=e)
   rw [← qQ]
   rw [h1] at a
   rw [← b] at h2
   have:¬ mQ (L.getD p default) e<0:=fun h=>by have:=a.1 h; cases this
   omega
  rcases Nat.lt_or_ge p j with h | h
  ·exact me h3 (hs p j h hj2)
  ·obtain rfl:j=p:=om
   exact h3
theorem u7 (hp:At L e p):p≤cut L e p∧cut L e p≤L.length:=by
 unfold cut
 split
 ·rename_i h; exact ⟨om,h.1⟩
 ·exact ⟨Nat.le_refl _,hp.le⟩
theorem tI.ins (hs:tI L) (hp:At L e p):tI (L.take p++e::L.drop (cut L e p)):=by
 have hc:=u7 hp
 rw [uD] at *
 have hs':tI L:=uD.2 hs
 rw [List.pairwise_append,List.pairwise_cons]
 refine ⟨hs.sublist (List.take_sublist _ _),⟨fun x hx=>?_,hs.sublist (List.drop_sublist _ _)⟩,fun x hx y hy=>?_⟩
 ·obtain ⟨m,m1,m2,rfl⟩:=oJ (d:=default) hx
  exact hp.gt hs' m m1 m2
 ·obtain ⟨m,m1,m2,rfl⟩:=rW (d:=default) hx
  rcases List.mem_cons.1 hy with rfl | hy
  ·exact hp.lo m m1
  ·obtain ⟨q,q1,q2,rfl⟩:=oJ (d:=default) hy
   exact hs' m q om q2
end
theorem AV {l:List ak} (hl:l.length≤1000000) (hs:tI l) (e:ak) (d:aP):∃ p,At l e p∧Ev (fun k=>dW.f k ⟨l,d⟩ e) ((p:Int),decide (p<l.length)&&decide (same (l.getD p default) e)):=by
 obtain ⟨p,k1,k2,k3,k4⟩:=sN (l:=l) (e:=e) (c:=fun x=>mQ x e) (g:=ea.f) (fun x=>DW x e) hl (fun i j h1 h2 h3=>jQ.2 (me (hs i j h1 h2) (jQ.1 h3)))
 refine ⟨p,⟨k1,fun m hm=>jQ.1 (k2 m hm),fun m h1 h2=>?_⟩,?_⟩
 ·have:=k3 m h1 h2
  cases h:km (l.getD m default) e with
  | false=>rfl
  | true=>have:=jQ.2 h; omega
 ·unfold dW.f
  have e2:(mQ (l.getD p default) e==0)=decide (same (l.getD p default) e):=by
   rw [Bool.eq_iff_iff]; simp [n0]
  rw [← e2]
  exact Ev.bind k4 Ev.pure
section
variable {L:List ak} {T:List Bool} {e:ak}
theorem Gm (l:List Bool) (m:Nat):cG.at l (m:Int)=l.getD m false:=by unfold Kd.at; rw [Int.toNat_natCast] <;> rfl
theorem ry (hT:T.length=L.length) {m:Nat} (hm:m<L.length) {d:Bool} {L':List ak} {T':List Bool} (hL':L'.length≤100000) (hT':T'.length≤100000) (hbig:L.length≤100000) (hs:¬ same (L.getD m default) e) {v}
  (G:El (fun k j=>cT.l0 k ⟨L,T⟩ e j (d||km e (L.getD m default)) ((m+1:Nat):Int) ((if !d&&km e (L.getD m default) then L'++[e] else L')++[L.getD m default]) ((if !d&&km e (L.getD m default) then T'++[false] else T')++[T.getD m false])) v):
  El (fun k j=>cT.l0 k ⟨L,T⟩ e j d (m:Int) L' T') v:=by
 have hw:av ((m:Int)+1)=((m+1:Nat):Int):=by rw [aG om om]; omega
 refine El.step (fun _ _=>by rw [cT.l0]) ?_
 simp only [hw,jt,Gm]
 generalize hx:L.getD m default=x at *
 refine El.ct (dT om) (El.an ⟨om,om⟩ ?_)
 have A:∀ (d':Bool) (q:Bool) (L'':List ak) (T'':List Bool),d'=(d||km e x)→L''=(if !d&&km e x then L'++[e] else L')→T''=(if !d&&km e x then T'++[false] else T')→L''.length≤100001→T''.length≤100001→
   El (fun k j=>an (L''.length+([x]:List ak).length≤9223372036854775807∧(L''.length+([x]:List ak).length)*112≤140737488355328) (an ((0:Int)≤(m:Int)∧(m:Int)<(T.length:Int)) (an (T''.length+([T.getD m false]:List Bool).length≤9223372036854775807∧(T''.length+([T.getD m false]:List Bool).length)*1≤140737488355328) (cT.l0 k ⟨L,T⟩ e j d' ((m+1:Nat):Int) (L''++([x]:List ak)) (T''++([T.getD m false]:List Bool)))))) v:=by
  intro d' q L'' T'' e1 e2 e3 b1 b2
  subst e1
  refine El.an ⟨by simp only [List.length_singleton]; omega,by simp only [List.length_singleton]; omega⟩ (El.an ⟨om,om⟩ (El.an ⟨by simp only [List.length_singleton]; omega,by simp only [List.length_singleton]; omega⟩ ?_))
  rw [e2,e3]
  exact G
 have X:El (fun k j=>(cond (!d) (cond (dK e.ab x.ab) (an (L'.length+([e]:List ak).length≤9223372036854775807∧(L'.length+([e]:List ak).length)*112≤140737488355328) (an (T'.length+([false]:List Bool).length≤9223372036854775807∧(T'.length+([false]:List Bool).length)*1≤140737488355328) (some (true,true,L'++([e]:List ak),T'++([false]:List Bool))))) (cond (decide (e.ab=x.ab)) (cond (dK e.aj x.aj) (an (L'.length+([e]:List ak).length≤9223372036854775807∧(L'.length+([e]:List ak).length)*112≤140737488355328) (an (T'.length+([false]:List Bool).length≤9223372036854775807∧(T'.length+([false]:List Bool).length)*1≤140737488355328) (some (true,dK e.aj x.aj,L'++([e]:List ak),T'++([false]:List Bool))))) (some (d,dK e.aj x.aj,L',T'))) (some (d,false,L',T')))) (some (d,false,L',T'))).bind fun (p285:Bool×Bool×(List ak)×(List Bool))=>an (p285.2.2.1.length+([x]:List ak).length≤9223372036854775807∧(p285.2.2.1.length+([x]:List ak).length)*112≤140737488355328) (an ((0:Int)≤(m:Int)∧(m:Int)<(T.length:Int)) (an (p285.2.2.2.length+([T.getD m false]:List Bool).length≤9223372036854775807∧(p285.2.2.2.length+([T.getD m false]:List Bool).length)*1≤140737488355328) (cT.l0 k ⟨L,T⟩ e j p285.1 ((m+1:Nat):Int) (p285.2.2.1++([x]:List ak)) (p285.2.2.2++([T.getD m false]:List Bool)))))) v:=by
  have g1:L'.length+([e]:List ak).length≤9223372036854775807∧(L'.length+([e]:List ak).length)*112≤140737488355328:=by simp only [List.length_singleton]; omega
  have g2:T'.length+([false]:List Bool).length≤9223372036854775807∧(T'.length+([false]:List Bool).length)*1≤140737488355328:=by simp only [List.length_singleton]; omega
  cases d with
  | true=>exact El.bind (a:=(true,false,L',T')) (El.cf rfl El.pure) (A true false L' T' sM sM sM om om)
  | false=>
   cases h1:dK e.ab x.ab with
   | true=>
    have hk:km e x=true:=by simp [km,h1]
    exact El.bind (a:=(true,true,L'++[e],T'++[false])) (El.ct rfl (El.ct rfl (El.an g1 (El.an g2 El.pure)))) (A true true _ _ (by simp [hk]) (by simp [hk]) (by simp [hk]) (by simp; omega) (by simp; omega))
   | false=>
    by_cases h2:e.ab=x.ab
    ·cases h3:dK e.aj x.aj with
     | true=>
      have hk:km e x=true:=by simp [km,h2,h3]
      exact El.bind (a:=(true,true,L'++[e],T'++[false])) (El.ct rfl (El.cf rfl (El.ct (dT h2) (El.ct rfl (El.an g1 (El.an g2 El.pure)))))) (A true true _ _ (by simp [hk]) (by simp [hk]) (by simp [hk]) (by simp; omega) (by simp; omega))
     | false=>
      have hk:km e x=false:=by simp [km,h1,h3]
      exact El.bind (a:=(false,false,L',T')) (El.ct rfl (El.cf rfl (El.ct (dT h2) (El.cf rfl El.pure)))) (A false false L' T' (by simp [hk]) (by simp [hk]) (by simp [hk]) om om)
    ·have hk:km e x=false:=by simp [km,h1,h2]
     exact El.bind (a:=(false,false,L',T')) (El.ct rfl (El.cf rfl (El.cf (dF h2) El.pure))) (A false false L' T' (by simp [hk]) (by simp [hk]) (by simp [hk]) om om)
 by_cases hr:x.ab=e.ab
 ·have hu:¬ x.aj=e.aj:=fun h=>hs ⟨hr,h⟩
  exact El.ct (dT hr) (El.cf (dF hu) X)
 ·exact El.cf (dF hr) X
theorem F3 (hT:T.length=L.length) (hbig:L.length≤50000):∀ (d m:Nat) (L':List ak) (T':List Bool),L.length-m≤d→m≤L.length→(∀ j,m≤j→j<L.length→km e (L.getD j default)=true)→L'.length+(L.length-m)≤100000→T'.length+(L.length-m)≤100000→
  El (fun k j=>cT.l0 k ⟨L,T⟩ e j true (m:Int) L' T') (.inl (true,(L.length:Int),false,L'++L.drop m,T'++T.drop m)):=by
 intro d
 induction d with
 | zero=>
  intro m L' T' hd hm _ _ _
  obtain rfl:m=L.length:=om
  refine El.step (fun _ _=>by rw [cT.l0]) ?_
  have:¬ ((L.length:Int)<(L.length:Int)):=om
  have e1:L'++L.drop L.length=L':=sM
  have e2:T'++T.drop L.length=T':=by simp [← hT]
  rw [dF this,e1,e2]
  exact El.cf rfl El.pure
 | succ d ih=>
  intro m L' T' hd hm h1 hL' hT'
  by_cases hlt:m<L.length
  ·have hk:=h1 m (Nat.le_refl _) hlt
   refine ry hT hlt om om om (fun h=>cX hk ⟨h.1.symm,h.2.symm⟩) ?_
   have:=ih (m+1) (L'++[L.getD m default]) (T'++[T.getD m false]) om om (fun j hj hj2=>h1 j om hj2) (by simp; omega) (by simp; omega)
   have e1:L'++[L.getD m default]++L.drop (m+1)=L'++L.drop m:=by
    rw [List.drop_eq_getElem_cons hlt,gD,gE hlt]; simp
   have e2:T'++[T.getD m false]++T.drop (m+1)=T'++T.drop m:=by
    rw [List.drop_eq_getElem_cons (by omega:m<T.length),gD,gE (by omega:m<T.length)]; simp
   rw [e1,e2] at this
   simpa using this
  ·exact ih m L' T' om hm h1 hL' hT'
theorem F7 (hT:T.length=L.length) (hbig:L.length≤50000) (m:Nat) (L':List ak) (T':List Bool) (hm:m≤L.length) (h1:∀ j,m≤j→j<L.length→km e (L.getD j default)=true) (hL':L'.length+(L.length-m)≤99990) (hT':T'.length+(L.length-m)≤99990):
  ∃ d L'' T'',El (fun k j=>cT.l0 k ⟨L,T⟩ e j false (m:Int) L' T') (.inl (d,(L.length:Int),false,L'',T''))∧L''.length≤100000∧T''.length≤100000∧(if d then L'' else L''++[e])=L'++e::L.drop m∧(if d then T'' else T''++[false])=T'++false::T.drop m:=by
 by_cases hlt:m<L.length
 ·have hk:=h1 m (Nat.le_refl _) hlt
  have:=F3 (e:=e) hT hbig L.length (m+1) (L'++[e]++[L.getD m default]) (T'++[false]++[T.getD m false]) om om (fun j hj hj2=>h1 j om hj2) (by simp; omega) (by simp; omega)
  have e1:L'++[e]++[L.getD m default]++L.drop (m+1)=L'++e::L.drop m:=by
   rw [List.drop_eq_getElem_cons hlt,gD,gE hlt]; simp
  have e2:T'++[false]++[T.getD m false]++T.drop (m+1)=T'++false::T.drop m:=by
   rw [List.drop_eq_getElem_cons (by omega:m<T.length),gD,gE (by omega:m<T.length)]; simp
  rw [e1,e2] at this
  refine ⟨true,_,_,ry hT hlt om om om (fun h=>cX hk ⟨h.1.symm,h.2.symm⟩) (by rw [hk]; exact this),by simp; omega,by simp; omega,rfl,rfl⟩
 ·obtain rfl:m=L.length:=om
  refine ⟨false,L',T',?_,om,om,sM,by simp [← hT]⟩
  refine El.step (fun _ _=>by rw [cT.l0]) ?_
  have:¬ ((L.length:Int)<(L.length:Int)):=om
  rw [dF this]
  exact El.cf rfl El.pure
theorem FG (hT:T.length=L.length) (hbig:L.length≤50000) {p:Nat} (hp:p≤L.length) (h1:∀ m,m<p→km (L.getD m default) e=true) {v} (G:El (fun k j=>cT.l0 k ⟨L,T⟩ e j false (p:Int) (L.take p) (T.take p)) v):∀ d m,p-m≤d→m≤p→El (fun k j=>cT.l0 k ⟨L,T⟩ e j false (m:Int) (L.take m) (T.take m)) v:=by
 intro d
 induction d with
 | zero=>
      intro m hd hm; obtain rfl:m=p:=om
      exact G
 | succ d ih=>
  intro m hd hm
  by_cases hlt:m<p
  ·have hk:=h1 m hlt
   have hn:=sC hk
   have:=ih (m+1) om om
   have e1:L.take (m+1)=L.take m++[L.getD m default]:=by
    rw [List.take_succ_eq_append_getElem (by omega:m<L.length),gD,gE (by omega:m<L.length)]; simp
   have e2:T.take (m+1)=T.take m++[T.getD m false]:=by
    rw [List.take_succ_eq_append_getElem (by omega:m<T.length),gD,gE (by omega:m<T.length)]; simp
   rw [e1,e2] at this
   exact ry hT om (by simp; omega) (by simp; omega) om (cX hk) (by rw [hn]; exact this)
  ·obtain rfl:m=p:=om
   exact G
theorem tD (he:mR e) (hL:∀ x∈L,mR x) (hs:tI L) (hT:T.length=L.length) (hbig:L.length≤50000) {p:Nat} (hp:At L e p):
  Ev (fun k=>cT.f k ⟨L,T⟩ e) (if tG L e p then (⟨L,T⟩,false,0) else (⟨L.take p++e::L.drop (cut L e p),T.take p++false::T.drop (cut L e p)⟩,true,0)):=by
 unfold cT.f
 have hk:(e.aI != 2)=false:=by rw [he.kind]; rfl
 refine Ev.bind (yp he) (Ev.cf hk (Ev.cf rfl ?_))
 have start:∀ {v},El (fun k j=>cT.l0 k ⟨L,T⟩ e j false (p:Int) (L.take p) (T.take p)) v→El (fun k j=>cT.l0 k ⟨L,T⟩ e j false 0 [] []) v:=fun G=>by
  have:=FG hT hbig hp.le hp.lo G p 0 om om
  simpa using this
 have fin:∀ {c:Nat},p≤c→c≤L.length→(∀ j,c≤j→j<L.length→km e (L.getD j default)=true)→(El (fun k j=>cT.l0 k ⟨L,T⟩ e j false (c:Int) (L.take p) (T.take p))=El (fun k j=>cT.l0 k ⟨L,T⟩ e j false (c:Int) (L.take p) (T.take p)))→
   (∀ v,El (fun k j=>cT.l0 k ⟨L,T⟩ e j false (c:Int) (L.take p) (T.take p)) v→El (fun k j=>cT.l0 k ⟨L,T⟩ e j false 0 [] []) v)→
   Ev (fun k=>(cT.l0 k (⟨L,T⟩:kH) e k false 0 ([]:List ak) ([]:List Bool)).bind (fall fun (p263:Bool×Int×Bool×(List ak)×(List Bool))=>cond (!p263.1) (an (p263.2.2.2.1.length+([e]:List ak).length≤9223372036854775807∧(p263.2.2.2.1.length+([e]:List ak).length)*112≤140737488355328) (an (p263.2.2.2.2.length+([false]:List Bool).length≤9223372036854775807∧(p263.2.2.2.2.length+([false]:List Bool).length)*1≤140737488355328) (some ((⟨p263.2.2.2.1++([e]:List ak),p263.2.2.2.2++([false]:List Bool)⟩:kH),true,0)))) (some ((⟨p263.2.2.2.1,p263.2.2.2.2⟩:kH),true,0))))
    (⟨L.take p++e::L.drop c,T.take p++false::T.drop c⟩,true,0):=by
  intro c hc1 hc2 h1 _ st
  obtain ⟨d,L'',T'',k1,k2,k3,k4,k5⟩:=F7 (e:=e) hT hbig c (L.take p) (T.take p) hc2 h1 (by simp; omega) (by simp; omega)
  refine Ev.bind (st _ k1).diag ?_
  cases d with
  | true=>
   simp only [if_true] at k4 k5
   rw [← k4,← k5]
   exact Ev.pure
  | false=>
   simp only [if_false,Bool.false_eq_true] at k4 k5
   rw [← k4,← k5]
   refine Ev.of ?_
   show an (L''.length+1≤9223372036854775807∧(L''.length+1)*112≤140737488355328) (an (T''.length+1≤9223372036854775807∧(T''.length+1)*1≤140737488355328) (some _))=_
   simp only [an]
   rw [if_pos ⟨om,om⟩,if_pos ⟨om,om⟩]
 by_cases hh:p<L.length∧same (L.getD p default) e
 ·have hcut:cut L e p=p+1:=if_pos hh
  have hsm:mR (L.getD p default):=hL _ (by rw [gD,gE hh.1]; exact List.getElem_mem hh.1)
  have hw:av ((p:Int)+1)=((p+1:Nat):Int):=by rw [aG om om]; omega
  by_cases hc:og e (L.getD p default)≤0
  ·have ho:tG L e p=true:=dT ⟨hh.1,hh.2,hc⟩
   rw [ho,if_pos rfl]
   have G:El (fun k j=>cT.l0 k ⟨L,T⟩ e j false (p:Int) (L.take p) (T.take p)) (.inr (⟨L,T⟩,false,0)):=by
    refine El.step (fun _ _=>by rw [cT.l0]) ?_
    simp only [jt]
    exact El.ct (dT om) (El.an ⟨om,om⟩ (El.ct (dT hh.2.1) (El.ct (dT hh.2.2) (El.bind (qR he.sm hsm.sm).el (El.ct (dT hc) El.pure)))))
   exact Ev.bind (start G).diag Ev.pure
  ·have ho:tG L e p=false:=dF (fun h=>hc h.2.2)
   rw [ho,hcut,if_neg sM]
   refine fin (Nat.le_succ _) hh.1 (fun j hj1 hj2=>?_) rfl (fun v G=>start ?_)
   ·rw [qB ⟨hh.2.1.symm,hh.2.2.symm⟩]; exact hs p j hj1 hj2
   ·refine El.step (fun _ _=>by rw [cT.l0]) ?_
    simp only [jt,hw]
    exact El.ct (dT om) (El.an ⟨om,om⟩ (El.ct (dT hh.2.1) (El.ct (dT hh.2.2) (El.bind (qR he.sm hsm.sm).el (El.cf (dF hc) G)))))
 ·have hcut:cut L e p=p:=if_neg hh
  have ho:tG L e p=false:=dF (fun h=>hh ⟨h.1,h.2.1⟩)
  rw [ho,hcut,if_neg sM]
  refine fin (Nat.le_refl _) hp.le (fun j hj1 hj2=>?_) rfl (fun v G=>start G)
  have hpl:p<L.length:=om
  have h1:=hp.hi p (Nat.le_refl _) hpl
  have h2:¬ same (L.getD p default) e:=fun h=>hh ⟨hpl,h⟩
  have h3:km e (L.getD p default)=true:=by
   have a:=jQ (a:=L.getD p default) (b:=e)
   have b:=n0 (a:=L.getD p default) (b:=e)
   rw [← qQ]
   rw [h1] at a
   rw [← b] at h2
   have:¬ mQ (L.getD p default) e<0:=fun h=>by have:=a.1 h; cases this
   omega
  rcases Nat.lt_or_ge p j with h | h
  ·exact me h3 (hs p j h hj2)
  ·obtain rfl:j=p:=om
   exact h3
end
end Go.Proofs.YtfknmdelgepbjaaGreatDoor.Ty
