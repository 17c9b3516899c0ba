import Derived.Test.YtfknmdelgepbjaaGreatDoorWZPF
set_option linter.all false
set_option maxRecDepth 10000
namespace Go.Proofs.YtfknmdelgepbjaaGreatDoor
open Go Go.Sp
section
variable {b:List Int} {n:Int} {s:BA} {e:ak}
def ov (n:Nat):List Int:=if n<128 then [(n:Int)] else ((n%128+128:Nat):Int)::ov (n/128)
termination_by n
decreasing_by omega
theorem kF {n:Nat} (h:n<128):ov n=[(n:Int)]:=by rw [ov,if_pos h]
theorem wi {n:Nat} (h:¬ n<128):ov n=((n%128+128:Nat):Int)::ov (n/128):=by rw [ov,if_neg h]
theorem AN:∀ (d:Nat) {n:Nat},n<128 ^ (d+1)→(ov n).length≤d+1:=by
 intro d
 induction d with
 | zero=>intro n hn; rw [kF (by simpa using hn)]; simp
 | succ d ih=>
  intro n hn
  by_cases h:n<128
  ·rw [kF h]; simp
  ·rw [wi h,List.length_cons]
   have h1:n/128<128 ^ (d+1):=by
    rw [Nat.div_lt_iff_lt_mul dc]
    rw [Nat.pow_succ] at hn; exact hn
   have:=ih h1
   omega
theorem KV:1099511627776<128 ^ (5+1):=dc
theorem Hj:∀ (d n:Nat) (b:List Int),n<128 ^ (d+1)→n≤1099511627776→b.length+d≤1000010→
  ∃ (m:Nat) (bs:List Int),El (fun k j=>cC.l0 k j (n:Int) b) ((m:Int),false,b++bs)∧bs++[(m:Int)]=ov n∧m<128∧(b++bs).length≤b.length+d:=by
 intro d
 induction d with
 | zero=>
  intro n b hn hm hb
  have h:n<128:=by simpa using hn
  refine ⟨n,[],?_,by rw [kF h]; rfl,h,sM⟩
  refine El.step (fun _ _=>by rw [cC.l0]) ?_
  rw [dF (by omega:¬ (128:Int)≤(n:Int)),List.append_nil]
  exact El.cf rfl El.pure
 | succ d ih=>
  intro n b hn hm hb
  by_cases h:n<128
  ·refine ⟨n,[],?_,by rw [kF h]; rfl,h,sM⟩
   refine El.step (fun _ _=>by rw [cC.l0]) ?_
   rw [dF (by omega:¬ (128:Int)≤(n:Int)),List.append_nil]
   exact El.cf rfl El.pure
  ·have h1:n/128<128 ^ (d+1):=by
    rw [Nat.div_lt_iff_lt_mul dc]
    rw [Nat.pow_succ] at hn; exact hn
   obtain ⟨m,bs,g1,g2,g3,g4⟩:=ih (n/128) (b++[((n%128+128:Nat):Int)]) h1 om (by simp; omega)
   have e1:av ((n:Int).tdiv 128)=((n/128:Nat):Int):=by
    rw [Int.tdiv_eq_ediv_of_nonneg om,aE om om]; omega
   have e2:IntKind.u8.wrap (av ((n:Int).tmod 128+128))=((n%128+128:Nat):Int):=by
    rw [Int.tmod_eq_emod_of_nonneg om,aE om om,Au om om]; omega
   refine ⟨m,((n%128+128:Nat):Int)::bs,?_,by rw [wi h,← g2]; rfl,g3,by simp at g4 ⊢; omega⟩
   refine El.step (fun _ _=>by rw [cC.l0]) ?_
   rw [e1,e2]
   refine El.ct (dT om) (El.an ⟨by simp; omega,by simp; omega⟩ ?_)
   rw [List.append_assoc] at g1
   exact g1
theorem DB {n:Nat} (h1:n≤1099511627776) (hb:b.length≤1000000):Ev (fun k=>cC.f k b (n:Int)) (b++ov n):=by
 obtain ⟨m,bs,g1,g2,g3,g4⟩:=Hj 5 n b (Nat.lt_of_le_of_lt h1 KV) h1 om
 unfold cC.f
 refine Ev.an ⟨om,om,om⟩ ?_
 have e1:((b.take ((b.length:Int).toNat)).drop 0)=b:=sM
 have e2:max (n:Int) 0=(n:Int):=om
 rw [e1,e2]
 refine Ev.bind g1.diag ?_
 rw [Au (x:=(m:Int)) om om]
 rw [← g2,← List.append_assoc]
 exact Ev.an ⟨by rw [List.length_singleton]; show (b++bs).length+1≤_; omega,by rw [List.length_singleton]; show ((b++bs).length+1)*1≤_; omega⟩ Ev.pure
theorem vK:∀ (d n:Nat),n<128 ^ (d+1)→n≤1099511627776→d≤100→Ev (fun k=>cV.f k (n:Int)) (ov n):=by
 intro d
 induction d with
 | zero=>
  intro n hn hm hd
  have h:n<128:=by simpa using hn
  refine Ev.step (fun _=>by rw [cV.f]) ?_
  refine Ev.bind (a:=(n:Int)) (Ev.cf (dF om) Ev.pure) ?_
  refine Ev.ct (dT om) ?_
  rw [Au om om,kF h]
  exact Ev.pure
 | succ d ih=>
  intro n hn hm hd
  refine Ev.step (fun _=>by rw [cV.f]) ?_
  refine Ev.bind (a:=(n:Int)) (Ev.cf (dF om) Ev.pure) ?_
  by_cases h:n<128
  ·refine Ev.ct (dT om) ?_
   rw [Au om om,kF h]
   exact Ev.pure
  ·have h1:n/128<128 ^ (d+1):=by
    rw [Nat.div_lt_iff_lt_mul dc]
    rw [Nat.pow_succ] at hn; exact hn
   have e1:av ((n:Int).tdiv 128)=((n/128:Nat):Int):=by
    rw [Int.tdiv_eq_ediv_of_nonneg om,aE om om]; omega
   have e2:IntKind.u8.wrap (av (128+(n:Int).tmod 128))=((n%128+128:Nat):Int):=by
    rw [Int.tmod_eq_emod_of_nonneg om,aE om om,Au om om]; omega
   have hl:=AN d h1
   rw [e1,e2,wi h]
   exact Ev.cf (dF om) (Ev.bind (ih _ h1 om om) (Ev.an ⟨by simp; omega,by simp; omega⟩ Ev.pure))
theorem nw (h0:0≤n) (h1:n<128) (hb:b.length≤1000000):Ev (fun k=>cC.f k b n) (b++[n]):=by
 obtain ⟨m,rfl⟩:=Int.eq_ofNat_of_zero_le h0
 have:=DB (b:=b) (n:=m) om hb
 rw [kF om] at this
 exact this
theorem qR (h0:0≤n) (h1:n<128):Ev (fun k=>cV.f k n) [n]:=by
 obtain ⟨m,rfl⟩:=Int.eq_ofNat_of_zero_le h0
 have:=vK 0 m (by simp; omega) om om
 rw [kF om] at this
 exact this
theorem wG (h0:0≤n) (h1:n≤1099511627776) (hb:b.length≤1000000):Ev (fun k=>cC.f k b n) (b++ov n.toNat):=by
 obtain ⟨m,rfl⟩:=Int.eq_ofNat_of_zero_le h0
 exact DB om hb
theorem u6 (h0:0≤n) (h1:n≤1099511627776):Ev (fun k=>cV.f k n) (ov n.toNat):=by
 obtain ⟨m,rfl⟩:=Int.eq_ofNat_of_zero_le h0
 exact vK 5 m (Nat.lt_of_le_of_lt om KV) om om
theorem zo {n:Int} (h1:n≤1099511627776):(ov n.toNat).length≤6:=AN 5 (Nat.lt_of_le_of_lt om KV)
def lG (s:BA):List Int:=(s.size:Int)::nJ s
theorem s6:(nJ s).length=s.size:=by simp [nJ]
theorem qC:(lG s).length=s.size+1:=by simp [lG,s6]
theorem uK (h1:s.size<128) (hb:b.length≤500000):Ev (fun k=>oW.f k b s) (b++lG s):=by
 unfold oW.f
 refine Ev.bind (nw om om om) ?_
 refine Ev.an (by rw [s6]; simp; omega) ?_
 have e:b++lG s=b++[(s.size:Int)]++nJ s:=by simp [lG]
 rw [e]
 exact Ev.pure
theorem o4 (h1:s.size<128):Ev (fun k=>jR.f k s) (lG s):=by
 unfold jR.f
 refine Ev.bind (qR om om) ?_
 refine Ev.an (by rw [s6]; simp; omega) ?_
 exact Ev.pure
def wD (o:Bool):Int:=cond o 1 0
theorem IP {o:Bool} (hb:b.length≤1000000):Ev (fun k=>oL.f k b o) (b++[wD o]):=by
 unfold oL.f
 cases o
 ·exact Ev.cf rfl (Ev.bind (nw dc dc hb) Ev.pure)
 ·exact Ev.ct rfl (Ev.bind (nw dc dc hb) Ev.pure)
structure Sm (e:ak):Prop where
 kind:0≤e.aH∧e.aH<128
 room:e.ab.size<128
 user:e.aj.size<128
 event:e.bI.size<128
 kA:e.ae.size<128
 span:0≤e.bZ∧e.bZ<128
 state:0≤e.aX∧e.aX<128
 tick:0≤e.aV∧e.aV≤1099511627776
 sk:0≤e.bf∧e.bf≤1099511627776
def rS (e:ak):List Int:=e.aH::(lG e.ab++lG e.aj++lG e.bI++lG e.ae++([wD e.kb,e.bZ,e.aX]++ov e.aV.toNat++ov e.bf.toNat))
theorem Dw (h:Sm e):Ev (fun k=>cT.f k e) (rS e):=by
 obtain ⟨h1,h2,h3,h4,h5,h6,h7,h8,h9⟩:=h
 unfold cT.f
 refine Ev.bind (nw h1.1 h1.2 sM) ?_
 have t1:El (fun k j=>cT.l1 k e j 0 ([]++[e.aH])) (4,false,[]++[e.aH]++lG e.ab++lG e.aj++lG e.bI++lG e.ae):=by
  refine El.step (fun _ _=>by rw [cT.l1]) ?_
  refine El.ct rfl (El.an (of_decide_eq_true rfl) (El.bind (Ev.el (uK (s:=e.ab) h2 sM)) ?_))
  refine El.step (fun _ _=>by rw [cT.l1]) ?_
  refine El.ct rfl (El.an (of_decide_eq_true rfl) (El.bind (Ev.el (uK (s:=e.aj) h3 (by simp [qC]; omega))) ?_))
  refine El.step (fun _ _=>by rw [cT.l1]) ?_
  refine El.ct rfl (El.an (of_decide_eq_true rfl) (El.bind (Ev.el (uK (s:=e.bI) h4 (by simp [qC]; omega))) ?_))
  refine El.step (fun _ _=>by rw [cT.l1]) ?_
  refine El.ct rfl (El.an (of_decide_eq_true rfl) (El.bind (Ev.el (uK (s:=e.ae) h5 (by simp [qC]; omega))) ?_))
  refine El.step (fun _ _=>by rw [cT.l1]) ?_
  exact El.cf rfl El.pure
 refine Ev.bind t1.diag ?_
 have hl:([]++[e.aH]++lG e.ab++lG e.aj++lG e.bI++lG e.ae).length≤1000:=by simp [qC]; omega
 have he:rS e=[]++[e.aH]++lG e.ab++lG e.aj++lG e.bI++lG e.ae++[wD e.kb]++[e.bZ]++[e.aX]++ov e.aV.toNat++ov e.bf.toNat:=by simp [rS]
 rw [he]
 generalize []++[e.aH]++lG e.ab++lG e.aj++lG e.bI++lG e.ae=bb at hl ⊢
 refine Ev.bind (IP (b:=bb) om) ?_
 have t2:El (fun k j=>cT.l0 k e j 0 (bb++[wD e.kb])) (4,false,bb++[wD e.kb]++[e.bZ]++[e.aX]++ov e.aV.toNat++ov e.bf.toNat):=by
  refine El.step (fun _ _=>by rw [cT.l0]) ?_
  refine El.ct rfl (El.an (of_decide_eq_true rfl) (El.bind (Ev.el (nw (n:=e.bZ) h6.1 h6.2 (by simp; omega))) ?_))
  refine El.step (fun _ _=>by rw [cT.l0]) ?_
  refine El.ct rfl (El.an (of_decide_eq_true rfl) (El.bind (Ev.el (nw (n:=e.aX) h7.1 h7.2 (by simp; omega))) ?_))
  refine El.step (fun _ _=>by rw [cT.l0]) ?_
  refine El.ct rfl (El.an (of_decide_eq_true rfl) (El.bind (Ev.el (wG (n:=e.aV) h8.1 h8.2 (by simp; omega))) ?_))
  refine El.step (fun _ _=>by rw [cT.l0]) ?_
  refine El.ct rfl (El.an (of_decide_eq_true rfl) (El.bind (Ev.el (wG (n:=e.bf) h9.1 h9.2 (by have:=zo h8.2; simp; omega))) ?_))
  refine El.step (fun _ _=>by rw [cT.l0]) ?_
  exact El.cf rfl El.pure
 exact Ev.bind t2.diag Ev.pure
theorem tY (h:Sm e):Ev (fun k=>lD.f k e) (rS e):=by
 obtain ⟨h1,h2,h3,h4,h5,h6,h7,h8,h9⟩:=h
 unfold lD.f
 have hf:∀ o,p8.f o=some [wD o]:=fun o=>by cases o <;> rfl
 have he:rS e=[e.aH]++lG e.ab++lG e.aj++lG e.bI++lG e.ae++[wD e.kb]++[e.bZ]++[e.aX]++ov e.aV.toNat++ov e.bf.toNat:=by simp [rS]
 rw [he]
 refine Ev.bind (qR h1.1 h1.2) (Ev.bind (o4 h2) (Ev.an ?_ (Ev.bind (o4 h3) (Ev.an ?_ (Ev.bind (o4 h4) (Ev.an ?_ (Ev.bind (o4 h5) (Ev.an ?_ (Ev.bind (Ev.of (hf _)) (Ev.an ?_ (Ev.bind (qR h6.1 h6.2) (Ev.an ?_ (Ev.bind (qR h7.1 h7.2) (Ev.an ?_ (Ev.bind (u6 h8.1 h8.2) (Ev.an ?_ (Ev.bind (u6 h9.1 h9.2) (Ev.an ?_ Ev.pure)))))))))))))))))) <;> (have a8:=zo h8.2; have a9:=zo h9.2; simp [qC]; omega)
def oy (a b:ak):Int:=if a.bf<b.bf then -1 else if b.bf<a.bf then 1 else j8 (gK (rS a)) (gK (rS b))
theorem qW {a b:ak} (ha:Sm a) (hb:Sm b):Ev (fun k=>jy.f k a b) (oy a b):=by
 unfold jy.f oy
 by_cases h1:a.bf<b.bf
 ·rw [if_pos h1]; exact Ev.ct (by simpa using h1) Ev.pure
 rw [if_neg h1]
 refine Ev.cf (by simpa using h1) ?_
 by_cases h2:b.bf<a.bf
 ·rw [if_pos h2]; exact Ev.ct (by simpa using h2) Ev.pure
 rw [if_neg h2]
 refine Ev.cf (by simpa using h2) (Ev.bind (tY ha) (Ev.bind (tY hb) ?_))
 unfold j8
 cases h3:dJ (gK (rS a)) (gK (rS b)) with
 | true=>exact Ev.ct rfl Ev.pure
 | false=>
  refine Ev.cf rfl ?_
  cases h4:dJ (gK (rS b)) (gK (rS a)) with
  | true=>exact Ev.ct rfl Ev.pure
  | false=>exact Ev.cf rfl Ev.pure
theorem Gm {a b:ak} (ha:Sm a) (hb:Sm b):Ev (fun k=>lz.f k a b) (oy a b):=by
 unfold lz.f lu.f
 refine Ev.bind (Ev.of (BY _ _)) (Ev.bind (Dw ha) (Ev.bind (Dw hb) (Ev.bind Ev.pure (Ev.bind (Df _ _) ?_))))
 have e:(if nm a.bf b.bf=0 then H6 (rS a) (rS b) else nm a.bf b.bf)=oy a b:=by
  rw [Iw]
  unfold oy nm
  by_cases h1:a.bf<b.bf
  ·simp [h1]
  ·by_cases h2:b.bf<a.bf <;> simp [h1,h2]
 rw [e]
 exact Ev.pure
end
theorem D2 (a:ak):oy a a=0:=by unfold oy; simp [jN.2 rfl]
theorem oe {m:Nat} (h:m≤1000000):av ((m:Int)+1)=((m+1:Nat):Int):=by rw [aE om om]; omega
theorem jq (l:List ak) (m:Nat):ak.K.at l (m:Int)=l.getD m default:=by unfold Kd.at; rw [Int.toNat_natCast] <;> rfl
end Go.Proofs.YtfknmdelgepbjaaGreatDoor
set_option linter.all false
set_option maxRecDepth 10000
namespace Go.Proofs.YtfknmdelgepbjaaGreatDoor.Ty
open Go Go.Sp
structure mQ (e:ak):Prop where
 ge:GE e
 kind:e.aH=2
section
variable {e:ak} (h:mQ e)
include h
theorem mQ.n1:e.aH≠1:=by rw [h.kind]; decide
theorem mQ.room:di e.ab 33=true∧e.ab.size≤40:=by
 have r:=pv (h.ge.room (by rw [h.kind]; decide))
 exact ⟨r.1,by rw [r.2]; decide⟩
theorem mQ.kA:e.ae=⟨#[]⟩:=h.ge.qQ h.n1
theorem mQ.uh:e.aq=false:=h.ge.uh h.n1
theorem mQ.Az:e.kb=true→1≤e.bZ∧e.bZ≤60:=h.ge.Az
theorem mQ.tick:0≤e.aV∧e.aV≤1099511627776:=by have:=h.ge.tick; omega
theorem mQ.sk:0≤e.bf∧e.bf≤1099511627776:=by have:=h.ge.sk; omega
theorem mQ.GJ:BX e=true:=by rw [h.ge.may,h.uh]; rfl
theorem zL:Ev (fun k=>mD.f k e) true:=by
 have:=(Proofs.YtfknmdelgepbjaaGreatDoor.mh h.ge.zz).2
 rwa [h.GJ] at this
theorem mh:Ev (fun k=>my.f k e) true:=by
 have:=(Proofs.YtfknmdelgepbjaaGreatDoor.mh h.ge.zz).1
 rwa [h.GJ] at this
theorem mQ.sm:Sm e:=by
 have z:=h.ge.J0
 refine ⟨by rw [h.kind]; decide,om,om,om,om,?_,by rw [h.ge.BG (by rw [h.kind]; decide)]; decide,h.tick,h.sk⟩
 cases ho:e.kb with
 | true=>have:=h.Az ho; omega
 | false=>have:=h.ge.AJ ho; omega
end
theorem EN {a b:ak} (ha:mQ a) (hb:mQ b) (h:(a.ab++(⟨#[32]⟩:BA))++a.aj=(b.ab++(⟨#[32]⟩:BA))++b.aj):a.ab=b.ab∧a.aj=b.aj:=
 key_inj (vX dc ha.room.1) (vX dc hb.room.1) h
end Go.Proofs.YtfknmdelgepbjaaGreatDoor.Ty
set_option linter.all false
set_option maxRecDepth 10000
namespace Go.Proofs.YtfknmdelgepbjaaGreatDoor.Ty
open Go Go.Sp
def mS (a b:ak):Int:=if j8 a.ab b.ab=0 then j8 a.aj b.aj else j8 a.ab b.ab
def same (a b:ak):Prop:=a.ab=b.ab∧a.aj=b.aj
instance sameD (a b:ak):Decidable (same a b):=inferInstanceAs (Decidable (_∧_))
def ki (a b:ak):Bool:=dJ a.ab b.ab||(decide (a.ab=b.ab)&&dJ a.aj b.aj)
theorem od {a b:ak}:mS a b=0↔same a b:=by
 unfold mS same
 by_cases h:j8 a.ab b.ab=0
 ·rw [if_pos h,jN,← jN (x:=a.ab)]; simp [h]
 ·rw [if_neg h,← jN]; simp [h]
theorem jE {a b:ak}:mS a b<0↔ki a b=true:=by
 unfold mS ki
 by_cases h:j8 a.ab b.ab=0
 ·have e:=jN.1 h
  rw [if_pos h,nq,e]; simp [iZ]
 ·rw [if_neg h,nq]
  have:¬ a.ab=b.ab:=fun e=>h (jN.2 e)
  simp [this]
theorem qX {a b:ak}:0<mS a b↔ki b a=true:=by
 unfold mS ki
 by_cases h:j8 a.ab b.ab=0
 ·have e:=jN.1 h
  rw [if_pos h,rW,e]; simp [iZ]
 ·rw [if_neg h,rW]
  have:¬ b.ab=a.ab:=fun e=>h (jN.2 e.symm)
  simp [this]
theorem mf {a b c:ak} (h:ki a b=true) (k:ki b c=true):ki a c=true:=by
 simp only [ki,Bool.or_eq_true,Bool.and_eq_true,decide_eq_true_eq] at h k ⊢
 rcases h with h | ⟨e,h⟩ <;> rcases k with k | ⟨e2,k⟩
 ·exact .inl (mn h k)
 ·rw [← e2]; exact .inl h
 ·rw [e]; exact .inl k
 ·exact .inr ⟨e.trans e2,mn h k⟩
theorem tN {a b:ak} (h:ki a b=true):ki b a=false:=by
 cases k:ki b a with
 | false=>rfl
 | true=>
  have h1:=jE.2 h
  have h2:=qX.2 k
  omega
theorem da {a b:ak} (h:ki a b=true):¬ same a b:=fun k=>by
 have h1:=jE.2 h
 have h2:=od.2 k
 omega
theorem qN {a b c:ak} (h:same a b):ki a c=ki b c:=by unfold ki; rw [h.1,h.2]
theorem EC (a b:ak):Ev (fun k=>dY.f k a b) (mS a b):=by
 unfold dY.f
 exact Ev.bind (Ev.of (vG _ _)) (Ev.bind (Ev.of (vG _ _)) (Ev.bind (Df _ _) Ev.pure))
section
variable {l:List ak} {e:ak} {c:ak→Int} {g:Nat→ak→ak→Option Int}
theorem qu (hg:∀ x,Ev (fun k=>g k x e) (c x)) (hl:l.length≤1000000) (hs:∀ i j,i<j→j<l.length→c (l.getD j default)<0→c (l.getD i default)<0):∀ d i j:Nat,j-i≤d→i≤j→j≤l.length→(∀ m,m<i→c (l.getD m default)<0)→(∀ m,j≤m→m<l.length→0≤c (l.getD m default))→
  ∃ p:Nat,p≤l.length∧(∀ m,m<p→c (l.getD m default)<0)∧(∀ m,p≤m→m<l.length→0≤c (l.getD m default))∧El (fun k q=>slices_BinarySearchFunc_Edu_Edu.l0 k l e (g k) q (i:Int) (j:Int)) ((p:Int),(p:Int),false):=by
 intro d
 induction d with
 | zero=>
  intro i j hd hij hj h1 h2
  obtain rfl:i=j:=om
  refine ⟨i,hj,h1,h2,?_⟩
  refine El.step (fun _ _=>by rw [slices_BinarySearchFunc_Edu_Edu.l0]) ?_
  have:¬ ((i:Int)<(i:Int)):=om
  rw [dF this]
  exact El.cf rfl El.pure
 | succ d ih=>
  intro i j hd hij hj h1 h2
  by_cases hlt:i<j
  ·have hm:av ((IntKind.u64.wrap (av ((i:Int)+(j:Int)))).fdiv 2)=(((i+j)/2:Nat):Int):=by rw [Gp om om om]; omega
   have hw:av ((((i+j)/2:Nat):Int)+1)=(((i+j)/2+1:Nat):Int):=by rw [aE om om]; omega
   by_cases hc:c (l.getD ((i+j)/2) default)<0
   ·obtain ⟨p,k1,k2,k3,k4⟩:=ih ((i+j)/2+1) j om om hj (fun m hm=>by
     rcases Nat.lt_or_ge m ((i+j)/2) with h | h
     ·exact hs m _ h om hc
     ·obtain rfl:m=(i+j)/2:=om
      exact hc) h2
    refine ⟨p,k1,k2,k3,?_⟩
    refine El.step (fun _ _=>by rw [slices_BinarySearchFunc_Edu_Edu.l0]) ?_
    simp only [hm,hw]
    refine El.ct (by simpa using hlt) (El.an ⟨om,om⟩ (El.bind (a:=c (l.getD ((i+j)/2) default)) ?_ (El.ct (by simpa using hc) k4)))
    rw [jq]
    exact (hg _).el
   ·obtain ⟨p,k1,k2,k3,k4⟩:=ih i ((i+j)/2) om om om h1 (fun m hm1 hm2=>by
     rcases Nat.lt_or_ge ((i+j)/2) m with h | h
     ·by_cases hcm:c (l.getD m default)<0
      ·exact absurd (hs _ m h hm2 hcm) hc
      ·omega
     ·obtain rfl:m=(i+j)/2:=om
      omega)
    refine ⟨p,k1,k2,k3,?_⟩
    refine El.step (fun _ _=>by rw [slices_BinarySearchFunc_Edu_Edu.l0]) ?_
    simp only [hm,hw]
    refine El.ct (by simpa using hlt) (El.an ⟨om,om⟩ (El.bind (a:=c (l.getD ((i+j)/2) default)) ?_ (El.cf (by simpa using hc) k4)))
    rw [jq]
    exact (hg _).el
  ·exact ih i j om hij hj h1 h2
theorem s9 (hg:∀ x,Ev (fun k=>g k x e) (c x)) (hl:l.length≤1000000) (hs:∀ i j,i<j→j<l.length→c (l.getD j default)<0→c (l.getD i default)<0):
  ∃ p:Nat,p≤l.length∧(∀ m,m<p→c (l.getD m default)<0)∧(∀ m,p≤m→m<l.length→0≤c (l.getD m default))∧Ev (fun k=>slices_BinarySearchFunc_Edu_Edu.f k l e (g k)) ((p:Int),decide (p<l.length)&&(c (l.getD p default)==0)):=by
 obtain ⟨p,k1,k2,k3,k4⟩:=qu hg hl hs l.length 0 l.length om om (Nat.le_refl _) (fun m hm=>om) (fun m h1 h2=>om)
 refine ⟨p,k1,k2,k3,?_⟩
 unfold slices_BinarySearchFunc_Edu_Edu.f
 refine Ev.bind k4.diag ?_
 by_cases hp:p<l.length
 ·rw [dT hp]
  refine Ev.ct (by simpa using hp) (Ev.an ⟨om,by show (p:Int)<_; omega⟩ (Ev.bind (a:=c (l.getD p default)) ?_ ?_))
  ·rw [jq]; exact hg _
  ·rw [Bool.true_and]; exact Ev.pure
 ·rw [dF hp,Bool.false_and]
  exact Ev.cf (by simpa using hp) Ev.pure
end
def ue (l:List ak):Prop:=∀ i j,i<j→j<l.length→ki (l.getD i default) (l.getD j default)=true
structure At (l:List ak) (e:ak) (p:Nat):Prop where
 le:p≤l.length
 lo:∀ m,m<p→ki (l.getD m default) e=true
 hi:∀ m,p≤m→m<l.length→ki (l.getD m default) e=false
def cut (L:List ak) (e:ak) (p:Nat):Nat:=if p<L.length∧same (L.getD p default) e then p+1 else p
def sL (L:List ak) (e:ak) (p:Nat):Bool:=decide (p<L.length∧same (L.getD p default) e∧oy e (L.getD p default)≤0)
theorem wz {l:List ak}:ue l↔l.Pairwise (fun a b=>ki a b=true):=by
 rw [List.pairwise_iff_getElem]
 constructor
 ·intro h i j hi hj hij
  have:=h i j hij hj
  rw [gD,gD,gE hi,gE hj] at this
  exact this
 ·intro h i j hij hj
  rw [gD,gD,gE (by omega:i<l.length),gE hj]
  exact h i j om hj hij
section
variable {L:List ak} {e:ak} {p:Nat}
theorem At.gt (hs:ue L) (hp:At L e p):∀ j,cut L e p≤j→j<L.length→ki e (L.getD j default)=true:=by
 intro j hj1 hj2
 by_cases hh:p<L.length∧same (L.getD p default) e
 ·rw [show cut L e p=p+1 from if_pos hh] at hj1
  rw [qN ⟨hh.2.1.symm,hh.2.2.symm⟩]; exact hs p j hj1 hj2
 ·rw [show cut L e p=p from if_neg hh] at hj1
  have hpl:p<L.length:=om
  have h1:=hp.hi p (Nat.le_refl _) hpl
  have h2:¬ same (L.getD p default) e:=fun h=>hh ⟨hpl,h⟩
  have h3:ki e (L.getD p default)=true:=by
   have a:=jE (a:=L.getD p default) (b:=e)
   have b:=od (a:=L.getD p default) (b:=e)
   rw [← qX]
   rw [h1] at a
   rw [← b] at h2
   have:¬ mS (L.getD p default) e<0:=fun h=>by have:=a.1 h; cases this
   omega
  rcases Nat.lt_or_ge p j with h | h
  ·exact mf h3 (hs p j h hj2)
  ·obtain rfl:j=p:=om
   exact h3
theorem wa (hp:At L e p):p≤cut L e p∧cut L e p≤L.length:=by
 unfold cut
 split
 ·rename_i h; exact ⟨om,h.1⟩
 ·exact ⟨Nat.le_refl _,hp.le⟩
theorem ue.ins (hs:ue L) (hp:At L e p):ue (L.take p++e::L.drop (cut L e p)):=by
 have hc:=wa hp
 rw [wz] at *
 have hs':ue L:=wz.2 hs
 rw [List.pairwise_append,List.pairwise_cons]
 refine ⟨hs.sublist (List.take_sublist _ _),⟨fun x hx=>?_,hs.sublist (List.drop_sublist _ _)⟩,fun x hx y hy=>?_⟩
 ·obtain ⟨m,m1,m2,rfl⟩:=oN (d:=default) hx
  exact hp.gt hs' m m1 m2
 ·obtain ⟨m,m1,m2,rfl⟩:=sH (d:=default) hx
  rcases List.mem_cons.1 hy with rfl | hy
  ·exact hp.lo m m1
  ·obtain ⟨q,q1,q2,rfl⟩:=oN (d:=default) hy
   exact hs' m q om q2
end
theorem AK {l:List ak} (hl:l.length≤1000000) (hs:ue l) (e:ak) (d:aQ):∃ p,At l e p∧Ev (fun k=>dW.f k ⟨l,d⟩ e) ((p:Int),decide (p<l.length)&&decide (same (l.getD p default) e)):=by
 obtain ⟨p,k1,k2,k3,k4⟩:=s9 (l:=l) (e:=e) (c:=fun x=>mS x e) (g:=dY.f) (fun x=>EC x e) hl (fun i j h1 h2 h3=>jE.2 (mf (hs i j h1 h2) (jE.1 h3)))
 refine ⟨p,⟨k1,fun m hm=>jE.1 (k2 m hm),fun m h1 h2=>?_⟩,?_⟩
 ·have:=k3 m h1 h2
  cases h:ki (l.getD m default) e with
  | false=>rfl
  | true=>have:=jE.2 h; omega
 ·unfold dW.f
  have e2:(mS (l.getD p default) e==0)=decide (same (l.getD p default) e):=by
   rw [Bool.eq_iff_iff]; simp [od]
  rw [← e2]
  exact Ev.bind k4 Ev.pure
section
variable {L:List ak} {T:List Bool} {e:ak}
theorem FL (l:List Bool) (m:Nat):bJ.at l (m:Int)=l.getD m false:=by unfold Kd.at; rw [Int.toNat_natCast] <;> rfl
theorem rK (hT:T.length=L.length) {m:Nat} (hm:m<L.length) {d:Bool} {L':List ak} {T':List Bool} (hL':L'.length≤100000) (hT':T'.length≤100000) (hbig:L.length≤100000) (hs:¬ same (L.getD m default) e) {v}
  (G:El (fun k j=>cU.l0 k ⟨L,T⟩ e j (d||ki e (L.getD m default)) ((m+1:Nat):Int) ((if !d&&ki e (L.getD m default) then L'++[e] else L')++[L.getD m default]) ((if !d&&ki e (L.getD m default) then T'++[false] else T')++[T.getD m false])) v):
  El (fun k j=>cU.l0 k ⟨L,T⟩ e j d (m:Int) L' T') v:=by
 have hw:av ((m:Int)+1)=((m+1:Nat):Int):=by rw [aE om om]; omega
 refine El.step (fun _ _=>by rw [cU.l0]) ?_
 simp only [hw,jq,FL]
 generalize hx:L.getD m default=x at *
 refine El.ct (dT om) (El.an ⟨om,om⟩ ?_)
 have A:∀ (d':Bool) (q:Bool) (L'':List ak) (T'':List Bool),d'=(d||ki e x)→L''=(if !d&&ki e x then L'++[e] else L')→T''=(if !d&&ki e x then T'++[false] else T')→L''.length≤100001→T''.length≤100001→
   El (fun k j=>an (L''.length+([x]:List ak).length≤9223372036854775807∧(L''.length+([x]:List ak).length)*112≤140737488355328) (an ((0:Int)≤(m:Int)∧(m:Int)<(T.length:Int)) (an (T''.length+([T.getD m false]:List Bool).length≤9223372036854775807∧(T''.length+([T.getD m false]:List Bool).length)*1≤140737488355328) (cU.l0 k ⟨L,T⟩ e j d' ((m+1:Nat):Int) (L''++([x]:List ak)) (T''++([T.getD m false]:List Bool)))))) v:=by
  intro d' q L'' T'' e1 e2 e3 b1 b2
  subst e1
  refine El.an ⟨by simp only [List.length_singleton]; omega,by simp only [List.length_singleton]; omega⟩ (El.an ⟨om,om⟩ (El.an ⟨by simp only [List.length_singleton]; omega,by simp only [List.length_singleton]; omega⟩ ?_))
  rw [e2,e3]
  exact G
 have X:El (fun k j=>(cond (!d) (cond (dJ e.ab x.ab) (an (L'.length+([e]:List ak).length≤9223372036854775807∧(L'.length+([e]:List ak).length)*112≤140737488355328) (an (T'.length+([false]:List Bool).length≤9223372036854775807∧(T'.length+([false]:List Bool).length)*1≤140737488355328) (some (true,true,L'++([e]:List ak),T'++([false]:List Bool))))) (cond (decide (e.ab=x.ab)) (cond (dJ e.aj x.aj) (an (L'.length+([e]:List ak).length≤9223372036854775807∧(L'.length+([e]:List ak).length)*112≤140737488355328) (an (T'.length+([false]:List Bool).length≤9223372036854775807∧(T'.length+([false]:List Bool).length)*1≤140737488355328) (some (true,dJ e.aj x.aj,L'++([e]:List ak),T'++([false]:List Bool))))) (some (d,dJ e.aj x.aj,L',T'))) (some (d,false,L',T')))) (some (d,false,L',T'))).bind fun (p285:Bool×Bool×(List ak)×(List Bool))=>an (p285.2.2.1.length+([x]:List ak).length≤9223372036854775807∧(p285.2.2.1.length+([x]:List ak).length)*112≤140737488355328) (an ((0:Int)≤(m:Int)∧(m:Int)<(T.length:Int)) (an (p285.2.2.2.length+([T.getD m false]:List Bool).length≤9223372036854775807∧(p285.2.2.2.length+([T.getD m false]:List Bool).length)*1≤140737488355328) (cU.l0 k ⟨L,T⟩ e j p285.1 ((m+1:Nat):Int) (p285.2.2.1++([x]:List ak)) (p285.2.2.2++([T.getD m false]:List Bool)))))) v:=by
  have g1:L'.length+([e]:List ak).length≤9223372036854775807∧(L'.length+([e]:List ak).length)*112≤140737488355328:=by simp only [List.length_singleton]; omega
  have g2:T'.length+([false]:List Bool).length≤9223372036854775807∧(T'.length+([false]:List Bool).length)*1≤140737488355328:=by simp only [List.length_singleton]; omega
  cases d with
  | true=>exact El.bind (a:=(true,false,L',T')) (El.cf rfl El.pure) (A true false L' T' sM sM sM om om)
  | false=>
   cases h1:dJ e.ab x.ab with
   | true=>
    have hk:ki e x=true:=by simp [ki,h1]
    exact El.bind (a:=(true,true,L'++[e],T'++[false])) (El.ct rfl (El.ct rfl (El.an g1 (El.an g2 El.pure)))) (A true true _ _ (by simp [hk]) (by simp [hk]) (by simp [hk]) (by simp; omega) (by simp; omega))
   | false=>
    by_cases h2:e.ab=x.ab
    ·cases h3:dJ e.aj x.aj with
     | true=>
      have hk:ki e x=true:=by simp [ki,h2,h3]
      exact El.bind (a:=(true,true,L'++[e],T'++[false])) (El.ct rfl (El.cf rfl (El.ct (dT h2) (El.ct rfl (El.an g1 (El.an g2 El.pure)))))) (A true true _ _ (by simp [hk]) (by simp [hk]) (by simp [hk]) (by simp; omega) (by simp; omega))
     | false=>
      have hk:ki e x=false:=by simp [ki,h1,h3]
      exact El.bind (a:=(false,false,L',T')) (El.ct rfl (El.cf rfl (El.ct (dT h2) (El.cf rfl El.pure)))) (A false false L' T' (by simp [hk]) (by simp [hk]) (by simp [hk]) om om)
    ·have hk:ki e x=false:=by simp [ki,h1,h2]
     exact El.bind (a:=(false,false,L',T')) (El.ct rfl (El.cf rfl (El.cf (dF h2) El.pure))) (A false false L' T' (by simp [hk]) (by simp [hk]) (by simp [hk]) om om)
 by_cases hr:x.ab=e.ab
 ·have hu:¬ x.aj=e.aj:=fun h=>hs ⟨hr,h⟩
  exact El.ct (dT hr) (El.cf (dF hu) X)
 ·exact El.cf (dF hr) X
theorem Fp (hT:T.length=L.length) (hbig:L.length≤50000):∀ (d m:Nat) (L':List ak) (T':List Bool),L.length-m≤d→m≤L.length→(∀ j,m≤j→j<L.length→ki e (L.getD j default)=true)→L'.length+(L.length-m)≤100000→T'.length+(L.length-m)≤100000→
  El (fun k j=>cU.l0 k ⟨L,T⟩ e j true (m:Int) L' T') (.inl (true,(L.length:Int),false,L'++L.drop m,T'++T.drop m)):=by
 intro d
 induction d with
 | zero=>
  intro m L' T' hd hm _ _ _
  obtain rfl:m=L.length:=om
  refine El.step (fun _ _=>by rw [cU.l0]) ?_
  have:¬ ((L.length:Int)<(L.length:Int)):=om
  have e1:L'++L.drop L.length=L':=sM
  have e2:T'++T.drop L.length=T':=by simp [← hT]
  rw [dF this,e1,e2]
  exact El.cf rfl El.pure
 | succ d ih=>
  intro m L' T' hd hm h1 hL' hT'
  by_cases hlt:m<L.length
  ·have hk:=h1 m (Nat.le_refl _) hlt
   refine rK hT hlt om om om (fun h=>da hk ⟨h.1.symm,h.2.symm⟩) ?_
   have:=ih (m+1) (L'++[L.getD m default]) (T'++[T.getD m false]) om om (fun j hj hj2=>h1 j om hj2) (by simp; omega) (by simp; omega)
   have e1:L'++[L.getD m default]++L.drop (m+1)=L'++L.drop m:=by
    rw [List.drop_eq_getElem_cons hlt,gD,gE hlt]; simp
   have e2:T'++[T.getD m false]++T.drop (m+1)=T'++T.drop m:=by
    rw [List.drop_eq_getElem_cons (by omega:m<T.length),gD,gE (by omega:m<T.length)]; simp
   rw [e1,e2] at this
   simpa using this
  ·exact ih m L' T' om hm h1 hL' hT'
theorem FZ (hT:T.length=L.length) (hbig:L.length≤50000) (m:Nat) (L':List ak) (T':List Bool) (hm:m≤L.length) (h1:∀ j,m≤j→j<L.length→ki e (L.getD j default)=true) (hL':L'.length+(L.length-m)≤99990) (hT':T'.length+(L.length-m)≤99990):
  ∃ d L'' T'',El (fun k j=>cU.l0 k ⟨L,T⟩ e j false (m:Int) L' T') (.inl (d,(L.length:Int),false,L'',T''))∧L''.length≤100000∧T''.length≤100000∧(if d then L'' else L''++[e])=L'++e::L.drop m∧(if d then T'' else T''++[false])=T'++false::T.drop m:=by
 by_cases hlt:m<L.length
 ·have hk:=h1 m (Nat.le_refl _) hlt
  have:=Fp (e:=e) hT hbig L.length (m+1) (L'++[e]++[L.getD m default]) (T'++[false]++[T.getD m false]) om om (fun j hj hj2=>h1 j om hj2) (by simp; omega) (by simp; omega)
  have e1:L'++[e]++[L.getD m default]++L.drop (m+1)=L'++e::L.drop m:=by
   rw [List.drop_eq_getElem_cons hlt,gD,gE hlt]; simp
  have e2:T'++[false]++[T.getD m false]++T.drop (m+1)=T'++false::T.drop m:=by
   rw [List.drop_eq_getElem_cons (by omega:m<T.length),gD,gE (by omega:m<T.length)]; simp
  rw [e1,e2] at this
  refine ⟨true,_,_,rK hT hlt om om om (fun h=>da hk ⟨h.1.symm,h.2.symm⟩) (by rw [hk]; exact this),by simp; omega,by simp; omega,rfl,rfl⟩
 ·obtain rfl:m=L.length:=om
  refine ⟨false,L',T',?_,om,om,sM,by simp [← hT]⟩
  refine El.step (fun _ _=>by rw [cU.l0]) ?_
  have:¬ ((L.length:Int)<(L.length:Int)):=om
  rw [dF this]
  exact El.cf rfl El.pure
theorem F6 (hT:T.length=L.length) (hbig:L.length≤50000) {p:Nat} (hp:p≤L.length) (h1:∀ m,m<p→ki (L.getD m default) e=true) {v} (G:El (fun k j=>cU.l0 k ⟨L,T⟩ e j false (p:Int) (L.take p) (T.take p)) v):∀ d m,p-m≤d→m≤p→El (fun k j=>cU.l0 k ⟨L,T⟩ e j false (m:Int) (L.take m) (T.take m)) v:=by
 intro d
 induction d with
 | zero=>
      intro m hd hm; obtain rfl:m=p:=om
      exact G
 | succ d ih=>
  intro m hd hm
  by_cases hlt:m<p
  ·have hk:=h1 m hlt
   have hn:=tN hk
   have:=ih (m+1) om om
   have e1:L.take (m+1)=L.take m++[L.getD m default]:=by
    rw [List.take_succ_eq_append_getElem (by omega:m<L.length),gD,gE (by omega:m<L.length)]; simp
   have e2:T.take (m+1)=T.take m++[T.getD m false]:=by
    rw [List.take_succ_eq_append_getElem (by omega:m<T.length),gD,gE (by omega:m<T.length)]; simp
   rw [e1,e2] at this
   exact rK hT om (by simp; omega) (by simp; omega) om (da hk) (by rw [hn]; exact this)
  ·obtain rfl:m=p:=om
   exact G
theorem sZ (he:mQ e) (hL:∀ x∈L,mQ x) (hs:ue L) (hT:T.length=L.length) (hbig:L.length≤50000) {p:Nat} (hp:At L e p):
  Ev (fun k=>cU.f k ⟨L,T⟩ e) (if sL L e p then (⟨L,T⟩,false,0) else (⟨L.take p++e::L.drop (cut L e p),T.take p++false::T.drop (cut L e p)⟩,true,0)):=by
 unfold cU.f
 have hk:(e.aH != 2)=false:=by rw [he.kind]; rfl
 refine Ev.bind (zL he) (Ev.cf hk (Ev.cf rfl ?_))
 have start:∀ {v},El (fun k j=>cU.l0 k ⟨L,T⟩ e j false (p:Int) (L.take p) (T.take p)) v→El (fun k j=>cU.l0 k ⟨L,T⟩ e j false 0 [] []) v:=fun G=>by
  have:=F6 hT hbig hp.le hp.lo G p 0 om om
  simpa using this
 have fin:∀ {c:Nat},p≤c→c≤L.length→(∀ j,c≤j→j<L.length→ki e (L.getD j default)=true)→(El (fun k j=>cU.l0 k ⟨L,T⟩ e j false (c:Int) (L.take p) (T.take p))=El (fun k j=>cU.l0 k ⟨L,T⟩ e j false (c:Int) (L.take p) (T.take p)))→
   (∀ v,El (fun k j=>cU.l0 k ⟨L,T⟩ e j false (c:Int) (L.take p) (T.take p)) v→El (fun k j=>cU.l0 k ⟨L,T⟩ e j false 0 [] []) v)→
   Ev (fun k=>(cU.l0 k (⟨L,T⟩:kB) e k false 0 ([]:List ak) ([]:List Bool)).bind (fall fun (p263:Bool×Int×Bool×(List ak)×(List Bool))=>cond (!p263.1) (an (p263.2.2.2.1.length+([e]:List ak).length≤9223372036854775807∧(p263.2.2.2.1.length+([e]:List ak).length)*112≤140737488355328) (an (p263.2.2.2.2.length+([false]:List Bool).length≤9223372036854775807∧(p263.2.2.2.2.length+([false]:List Bool).length)*1≤140737488355328) (some ((⟨p263.2.2.2.1++([e]:List ak),p263.2.2.2.2++([false]:List Bool)⟩:kB),true,0)))) (some ((⟨p263.2.2.2.1,p263.2.2.2.2⟩:kB),true,0))))
    (⟨L.take p++e::L.drop c,T.take p++false::T.drop c⟩,true,0):=by
  intro c hc1 hc2 h1 _ st
  obtain ⟨d,L'',T'',k1,k2,k3,k4,k5⟩:=FZ (e:=e) hT hbig c (L.take p) (T.take p) hc2 h1 (by simp; omega) (by simp; omega)
  refine Ev.bind (st _ k1).diag ?_
  cases d with
  | true=>
   simp only [if_true] at k4 k5
   rw [← k4,← k5]
   exact Ev.pure
  | false=>
   simp only [if_false,Bool.false_eq_true] at k4 k5
   rw [← k4,← k5]
   refine Ev.of ?_
   show an (L''.length+1≤9223372036854775807∧(L''.length+1)*112≤140737488355328) (an (T''.length+1≤9223372036854775807∧(T''.length+1)*1≤140737488355328) (some _))=_
   simp only [an]
   rw [if_pos ⟨om,om⟩,if_pos ⟨om,om⟩]
 by_cases hh:p<L.length∧same (L.getD p default) e
 ·have hcut:cut L e p=p+1:=if_pos hh
  have hsm:mQ (L.getD p default):=hL _ (by rw [gD,gE hh.1]; exact List.getElem_mem hh.1)
  have hw:av ((p:Int)+1)=((p+1:Nat):Int):=by rw [aE om om]; omega
  by_cases hc:oy e (L.getD p default)≤0
  ·have ho:sL L e p=true:=dT ⟨hh.1,hh.2,hc⟩
   rw [ho,if_pos rfl]
   have G:El (fun k j=>cU.l0 k ⟨L,T⟩ e j false (p:Int) (L.take p) (T.take p)) (.inr (⟨L,T⟩,false,0)):=by
    refine El.step (fun _ _=>by rw [cU.l0]) ?_
    simp only [jq]
    exact El.ct (dT om) (El.an ⟨om,om⟩ (El.ct (dT hh.2.1) (El.ct (dT hh.2.2) (El.bind (qW he.sm hsm.sm).el (El.ct (dT hc) El.pure)))))
   exact Ev.bind (start G).diag Ev.pure
  ·have ho:sL L e p=false:=dF (fun h=>hc h.2.2)
   rw [ho,hcut,if_neg sM]
   refine fin (Nat.le_succ _) hh.1 (fun j hj1 hj2=>?_) rfl (fun v G=>start ?_)
   ·rw [qN ⟨hh.2.1.symm,hh.2.2.symm⟩]; exact hs p j hj1 hj2
   ·refine El.step (fun _ _=>by rw [cU.l0]) ?_
    simp only [jq,hw]
    exact El.ct (dT om) (El.an ⟨om,om⟩ (El.ct (dT hh.2.1) (El.ct (dT hh.2.2) (El.bind (qW he.sm hsm.sm).el (El.cf (dF hc) G)))))
 ·have hcut:cut L e p=p:=if_neg hh
  have ho:sL L e p=false:=dF (fun h=>hh ⟨h.1,h.2.1⟩)
  rw [ho,hcut,if_neg sM]
  refine fin (Nat.le_refl _) hp.le (fun j hj1 hj2=>?_) rfl (fun v G=>start G)
  have hpl:p<L.length:=om
  have h1:=hp.hi p (Nat.le_refl _) hpl
  have h2:¬ same (L.getD p default) e:=fun h=>hh ⟨hpl,h⟩
  have h3:ki e (L.getD p default)=true:=by
   have a:=jE (a:=L.getD p default) (b:=e)
   have b:=od (a:=L.getD p default) (b:=e)
   rw [← qX]
   rw [h1] at a
   rw [← b] at h2
   have:¬ mS (L.getD p default) e<0:=fun h=>by have:=a.1 h; cases this
   omega
  rcases Nat.lt_or_ge p j with h | h
  ·exact mf h3 (hs p j h hj2)
  ·obtain rfl:j=p:=om
   exact h3
end
end Go.Proofs.YtfknmdelgepbjaaGreatDoor.Ty
