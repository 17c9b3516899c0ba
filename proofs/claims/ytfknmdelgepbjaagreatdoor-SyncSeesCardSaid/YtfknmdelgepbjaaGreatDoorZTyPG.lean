import Derived.Test.YtfknmdelgepbjaaGreatDoorZVF
import Derived.Test.YtfknmdelgepbjaaGreatDoorZPX
import Derived.Test.YtfknmdelgepbjaaGreatDoorZYA
import Derived.Test.YtfknmdelgepbjaaGreatDoorZPF
set_option linter.all false
set_option maxRecDepth 10000
namespace Go.Proofs.YtfknmdelgepbjaaGreatDoor
open Go Go.Sp
section
variable {b:List Int} {n:Int} {s:BA} {e:ai}
def nY (n:Nat):List Int:=if n<128 then [(n:Int)] else ((n%128+128:Nat):Int)::nY (n/128)
termination_by n
decreasing_by omega
theorem j8 {n:Nat} (h:n<128):nY n=[(n:Int)]:=by rw [nY,if_pos h]
theorem ub {n:Nat} (h:¬ n<128):nY n=((n%128+128:Nat):Int)::nY (n/128):=by rw [nY,if_neg h]
theorem zO:∀ (d:Nat) {n:Nat},n<128 ^ (d+1)→(nY n).length≤d+1:=by
 intro d
 induction d with
 | zero=>intro n hn; rw [j8 (by simpa using hn)]; simp
 | succ d ih=>
  intro n hn
  by_cases h:n<128
  ·rw [j8 h]; simp
  ·rw [ub h,List.length_cons]
   have h1:n/128<128 ^ (d+1):=by
    rw [Nat.div_lt_iff_lt_mul dc]
    rw [Nat.pow_succ] at hn; exact hn
   have:=ih h1
   omega
theorem Jy:1099511627776<128 ^ (5+1):=dc
theorem Fh:∀ (d n:Nat) (b:List Int),n<128 ^ (d+1)→n≤1099511627776→b.length+d≤1000010→
  ∃ (m:Nat) (bs:List Int),El (fun k j=>cD.l0 k j (n:Int) b) ((m:Int),false,b++bs)∧bs++[(m:Int)]=nY n∧m<128∧(b++bs).length≤b.length+d:=by
 intro d
 induction d with
 | zero=>
  intro n b hn hm hb
  have h:n<128:=by simpa using hn
  refine ⟨n,[],?_,by rw [j8 h]; rfl,h,sM⟩
  refine El.step (fun _ _=>by rw [cD.l0]) ?_
  rw [dF (by omega:¬ (128:Int)≤(n:Int)),List.append_nil]
  exact El.cf rfl El.pure
 | succ d ih=>
  intro n b hn hm hb
  by_cases h:n<128
  ·refine ⟨n,[],?_,by rw [j8 h]; rfl,h,sM⟩
   refine El.step (fun _ _=>by rw [cD.l0]) ?_
   rw [dF (by omega:¬ (128:Int)≤(n:Int)),List.append_nil]
   exact El.cf rfl El.pure
  ·have h1:n/128<128 ^ (d+1):=by
    rw [Nat.div_lt_iff_lt_mul dc]
    rw [Nat.pow_succ] at hn; exact hn
   obtain ⟨m,bs,g1,g2,g3,g4⟩:=ih (n/128) (b++[((n%128+128:Nat):Int)]) h1 om (by simp; omega)
   have e1:ax ((n:Int).tdiv 128)=((n/128:Nat):Int):=by
    rw [Int.tdiv_eq_ediv_of_nonneg om,aJ om om]; omega
   have e2:IntKind.u8.wrap (ax ((n:Int).tmod 128+128))=((n%128+128:Nat):Int):=by
    rw [Int.tmod_eq_emod_of_nonneg om,aJ om om,yN om om]; omega
   refine ⟨m,((n%128+128:Nat):Int)::bs,?_,by rw [ub h,← g2]; rfl,g3,by simp at g4 ⊢; omega⟩
   refine El.step (fun _ _=>by rw [cD.l0]) ?_
   rw [e1,e2]
   refine El.ct (dT om) (El.aq ⟨by simp; omega,by simp; omega⟩ ?_)
   rw [List.append_assoc] at g1
   exact g1
theorem CG {n:Nat} (h1:n≤1099511627776) (hb:b.length≤1000000):Ev (fun k=>cD.f k b (n:Int)) (b++nY n):=by
 obtain ⟨m,bs,g1,g2,g3,g4⟩:=Fh 5 n b (Nat.lt_of_le_of_lt h1 Jy) h1 om
 unfold cD.f
 refine Ev.aq ⟨om,om,om⟩ ?_
 have e1:((b.take ((b.length:Int).toNat)).drop 0)=b:=sM
 have e2:max (n:Int) 0=(n:Int):=om
 rw [e1,e2]
 refine Ev.bind g1.diag ?_
 rw [yN (x:=(m:Int)) om om]
 rw [← g2,← List.append_assoc]
 exact Ev.aq ⟨by rw [List.length_singleton]; show (b++bs).length+1≤_; omega,by rw [List.length_singleton]; show ((b++bs).length+1)*1≤_; omega⟩ Ev.pure
theorem uk:∀ (d n:Nat),n<128 ^ (d+1)→n≤1099511627776→d≤100→Ev (fun k=>cV.f k (n:Int)) (nY n):=by
 intro d
 induction d with
 | zero=>
  intro n hn hm hd
  have h:n<128:=by simpa using hn
  refine Ev.step (fun _=>by rw [cV.f]) ?_
  refine Ev.bind (a:=(n:Int)) (Ev.cf (dF om) Ev.pure) ?_
  refine Ev.ct (dT om) ?_
  rw [yN om om,j8 h]
  exact Ev.pure
 | succ d ih=>
  intro n hn hm hd
  refine Ev.step (fun _=>by rw [cV.f]) ?_
  refine Ev.bind (a:=(n:Int)) (Ev.cf (dF om) Ev.pure) ?_
  by_cases h:n<128
  ·refine Ev.ct (dT om) ?_
   rw [yN om om,j8 h]
   exact Ev.pure
  ·have h1:n/128<128 ^ (d+1):=by
    rw [Nat.div_lt_iff_lt_mul dc]
    rw [Nat.pow_succ] at hn; exact hn
   have e1:ax ((n:Int).tdiv 128)=((n/128:Nat):Int):=by
    rw [Int.tdiv_eq_ediv_of_nonneg om,aJ om om]; omega
   have e2:IntKind.u8.wrap (ax (128+(n:Int).tmod 128))=((n%128+128:Nat):Int):=by
    rw [Int.tmod_eq_emod_of_nonneg om,aJ om om,yN om om]; omega
   have hl:=zO d h1
   rw [e1,e2,ub h]
   exact Ev.cf (dF om) (Ev.bind (ih _ h1 om om) (Ev.aq ⟨by simp; omega,by simp; omega⟩ Ev.pure))
theorem nh (h0:0≤n) (h1:n<128) (hb:b.length≤1000000):Ev (fun k=>cD.f k b n) (b++[n]):=by
 obtain ⟨m,rfl⟩:=Int.eq_ofNat_of_zero_le h0
 have:=CG (b:=b) (n:=m) om hb
 rw [j8 om] at this
 exact this
theorem qC (h0:0≤n) (h1:n<128):Ev (fun k=>cV.f k n) [n]:=by
 obtain ⟨m,rfl⟩:=Int.eq_ofNat_of_zero_le h0
 have:=uk 0 m (by simp; omega) om om
 rw [j8 om] at this
 exact this
theorem u7 (h0:0≤n) (h1:n≤1099511627776) (hb:b.length≤1000000):Ev (fun k=>cD.f k b n) (b++nY n.toNat):=by
 obtain ⟨m,rfl⟩:=Int.eq_ofNat_of_zero_le h0
 exact CG om hb
theorem ui (h0:0≤n) (h1:n≤1099511627776):Ev (fun k=>cV.f k n) (nY n.toNat):=by
 obtain ⟨m,rfl⟩:=Int.eq_ofNat_of_zero_le h0
 exact uk 5 m (Nat.lt_of_le_of_lt om Jy) om om
theorem yE {n:Int} (h1:n≤1099511627776):(nY n.toNat).length≤6:=zO 5 (Nat.lt_of_le_of_lt om Jy)
def lu (s:BA):List Int:=(s.size:Int)::mw s
theorem si:(mw s).length=s.size:=by simp [mw]
theorem pH:(lu s).length=s.size+1:=by simp [lu,si]
theorem tI (h1:s.size<128) (hb:b.length≤500000):Ev (fun k=>oo.f k b s) (b++lu s):=by
 unfold oo.f
 refine Ev.bind (nh om om om) ?_
 refine Ev.aq (by rw [si]; simp; omega) ?_
 have e:b++lu s=b++[(s.size:Int)]++mw s:=by simp [lu]
 rw [e]
 exact Ev.pure
theorem oO (h1:s.size<128):Ev (fun k=>jH.f k s) (lu s):=by
 unfold jH.f
 refine Ev.bind (qC om om) ?_
 refine Ev.aq (by rw [si]; simp; omega) ?_
 exact Ev.pure
def uI (o:Bool):Int:=cond o 1 0
theorem GQ {o:Bool} (hb:b.length≤1000000):Ev (fun k=>oD.f k b o) (b++[uI o]):=by
 unfold oD.f
 cases o
 ·exact Ev.cf rfl (Ev.bind (nh dc dc hb) Ev.pure)
 ·exact Ev.ct rfl (Ev.bind (nh dc dc hb) Ev.pure)
structure Sm (e:ai):Prop where
 kind:0≤e.aE∧e.aE<128
 room:e.aa.size<128
 user:e.ak.size<128
 event:e.bB.size<128
 j6:e.ag.size<128
 span:0≤e.bV∧e.bV<128
 state:0≤e.aU∧e.aU<128
 tick:0≤e.aQ∧e.aQ≤1099511627776
 rk:0≤e.aX∧e.aX≤1099511627776
def rq (e:ai):List Int:=e.aE::(lu e.aa++lu e.ak++lu e.bB++lu e.ag++([uI e.jX,e.bV,e.aU]++nY e.aQ.toNat++nY e.aX.toNat))
theorem B5 (h:Sm e):Ev (fun k=>cR.f k e) (rq e):=by
 obtain ⟨h1,h2,h3,h4,h5,h6,h7,h8,h9⟩:=h
 unfold cR.f
 refine Ev.bind (nh h1.1 h1.2 sM) ?_
 have t1:El (fun k j=>cR.l1 k e j 0 ([]++[e.aE])) (4,false,[]++[e.aE]++lu e.aa++lu e.ak++lu e.bB++lu e.ag):=by
  refine El.step (fun _ _=>by rw [cR.l1]) ?_
  refine El.ct rfl (El.aq (of_decide_eq_true rfl) (El.bind (Ev.el (tI (s:=e.aa) h2 sM)) ?_))
  refine El.step (fun _ _=>by rw [cR.l1]) ?_
  refine El.ct rfl (El.aq (of_decide_eq_true rfl) (El.bind (Ev.el (tI (s:=e.ak) h3 (by simp [pH]; omega))) ?_))
  refine El.step (fun _ _=>by rw [cR.l1]) ?_
  refine El.ct rfl (El.aq (of_decide_eq_true rfl) (El.bind (Ev.el (tI (s:=e.bB) h4 (by simp [pH]; omega))) ?_))
  refine El.step (fun _ _=>by rw [cR.l1]) ?_
  refine El.ct rfl (El.aq (of_decide_eq_true rfl) (El.bind (Ev.el (tI (s:=e.ag) h5 (by simp [pH]; omega))) ?_))
  refine El.step (fun _ _=>by rw [cR.l1]) ?_
  exact El.cf rfl El.pure
 refine Ev.bind t1.diag ?_
 have hl:([]++[e.aE]++lu e.aa++lu e.ak++lu e.bB++lu e.ag).length≤1000:=by simp [pH]; omega
 have he:rq e=[]++[e.aE]++lu e.aa++lu e.ak++lu e.bB++lu e.ag++[uI e.jX]++[e.bV]++[e.aU]++nY e.aQ.toNat++nY e.aX.toNat:=by simp [rq]
 rw [he]
 generalize []++[e.aE]++lu e.aa++lu e.ak++lu e.bB++lu e.ag=bb at hl ⊢
 refine Ev.bind (GQ (b:=bb) om) ?_
 have t2:El (fun k j=>cR.l0 k e j 0 (bb++[uI e.jX])) (4,false,bb++[uI e.jX]++[e.bV]++[e.aU]++nY e.aQ.toNat++nY e.aX.toNat):=by
  refine El.step (fun _ _=>by rw [cR.l0]) ?_
  refine El.ct rfl (El.aq (of_decide_eq_true rfl) (El.bind (Ev.el (nh (n:=e.bV) h6.1 h6.2 (by simp; omega))) ?_))
  refine El.step (fun _ _=>by rw [cR.l0]) ?_
  refine El.ct rfl (El.aq (of_decide_eq_true rfl) (El.bind (Ev.el (nh (n:=e.aU) h7.1 h7.2 (by simp; omega))) ?_))
  refine El.step (fun _ _=>by rw [cR.l0]) ?_
  refine El.ct rfl (El.aq (of_decide_eq_true rfl) (El.bind (Ev.el (u7 (n:=e.aQ) h8.1 h8.2 (by simp; omega))) ?_))
  refine El.step (fun _ _=>by rw [cR.l0]) ?_
  refine El.ct rfl (El.aq (of_decide_eq_true rfl) (El.bind (Ev.el (u7 (n:=e.aX) h9.1 h9.2 (by have:=yE h8.2; simp; omega))) ?_))
  refine El.step (fun _ _=>by rw [cR.l0]) ?_
  exact El.cf rfl El.pure
 exact Ev.bind t2.diag Ev.pure
theorem sI (h:Sm e):Ev (fun k=>kZ.f k e) (rq e):=by
 obtain ⟨h1,h2,h3,h4,h5,h6,h7,h8,h9⟩:=h
 unfold kZ.f
 have hf:∀ o,pR.f o=some [uI o]:=fun o=>by cases o <;> rfl
 have he:rq e=[e.aE]++lu e.aa++lu e.ak++lu e.bB++lu e.ag++[uI e.jX]++[e.bV]++[e.aU]++nY e.aQ.toNat++nY e.aX.toNat:=by simp [rq]
 rw [he]
 refine Ev.bind (qC h1.1 h1.2) (Ev.bind (oO h2) (Ev.aq ?_ (Ev.bind (oO h3) (Ev.aq ?_ (Ev.bind (oO h4) (Ev.aq ?_ (Ev.bind (oO h5) (Ev.aq ?_ (Ev.bind (Ev.of (hf _)) (Ev.aq ?_ (Ev.bind (qC h6.1 h6.2) (Ev.aq ?_ (Ev.bind (qC h7.1 h7.2) (Ev.aq ?_ (Ev.bind (ui h8.1 h8.2) (Ev.aq ?_ (Ev.bind (ui h9.1 h9.2) (Ev.aq ?_ Ev.pure)))))))))))))))))) <;> (have a8:=yE h8.2; have a9:=yE h9.2; simp [pH]; omega)
def n5 (a b:ai):Int:=if a.aX<b.aX then -1 else if b.aX<a.aX then 1 else jS (fX (rq a)) (fX (rq b))
theorem qv {a b:ai} (ha:Sm a) (hb:Sm b):Ev (fun k=>iX.f k a b) (n5 a b):=by
 unfold iX.f n5
 by_cases h1:a.aX<b.aX
 ·rw [if_pos h1]; exact Ev.ct (by simpa using h1) Ev.pure
 rw [if_neg h1]
 refine Ev.cf (by simpa using h1) ?_
 by_cases h2:b.aX<a.aX
 ·rw [if_pos h2]; exact Ev.ct (by simpa using h2) Ev.pure
 rw [if_neg h2]
 refine Ev.cf (by simpa using h2) (Ev.bind (sI ha) (Ev.bind (sI hb) ?_))
 unfold jS
 cases h3:dH (fX (rq a)) (fX (rq b)) with
 | true=>exact Ev.ct rfl Ev.pure
 | false=>
  refine Ev.cf rfl ?_
  cases h4:dH (fX (rq b)) (fX (rq a)) with
  | true=>exact Ev.ct rfl Ev.pure
  | false=>exact Ev.cf rfl Ev.pure
theorem EH {a b:ai} (ha:Sm a) (hb:Sm b):Ev (fun k=>lq.f k a b) (n5 a b):=by
 unfold lq.f kL.f
 refine Ev.bind (Ev.of (AB _ _)) (Ev.bind (B5 ha) (Ev.bind (B5 hb) (Ev.bind Ev.pure (Ev.bind (B8 _ _) ?_))))
 have e:(if mZ a.aX b.aX=0 then GN (rq a) (rq b) else mZ a.aX b.aX)=n5 a b:=by
  rw [GZ]
  unfold n5 mZ
  by_cases h1:a.aX<b.aX
  ·simp [h1]
  ·by_cases h2:b.aX<a.aX <;> simp [h1,h2]
 rw [e]
 exact Ev.pure
end
theorem C6 (a:ai):n5 a a=0:=by unfold n5; simp [jk.2 rfl]
theorem nQ {m:Nat} (h:m≤1000000):ax ((m:Int)+1)=((m+1:Nat):Int):=by rw [aJ om om]; omega
theorem iU (l:List ai) (m:Nat):ai.K.at l (m:Int)=l.getD m default:=by unfold Kd.at; rw [Int.toNat_natCast] <;> rfl
end Go.Proofs.YtfknmdelgepbjaaGreatDoor
set_option linter.all false
set_option maxRecDepth 10000
namespace Go.Proofs.YtfknmdelgepbjaaGreatDoor.Ty
open Go Go.Sp
structure mH (e:ai):Prop where
 ge:GE e
 kind:e.aE=2
section
variable {e:ai} (h:mH e)
include h
theorem mH.n1:e.aE≠1:=by rw [h.kind]; decide
theorem mH.room:dj e.aa 33=true∧e.aa.size≤40:=by
 have r:=oL (h.ge.room (by rw [h.kind]; decide))
 exact ⟨r.1,by rw [r.2]; decide⟩
theorem mH.j6:e.ag=⟨#[]⟩:=h.ge.ql h.n1
theorem mH.sY:e.au=false:=h.ge.sY h.n1
theorem mH.zE:e.jX=true→1≤e.bV∧e.bV≤60:=h.ge.zE
theorem mH.tick:0≤e.aQ∧e.aQ≤1099511627776:=by have:=h.ge.tick; omega
theorem mH.rk:0≤e.aX∧e.aX≤1099511627776:=by have:=h.ge.rk; omega
theorem mH.E1:AN e=true:=by rw [h.ge.may,h.sY]; rfl
theorem xU:Ev (fun k=>mn.f k e) true:=by
 have:=(Proofs.YtfknmdelgepbjaaGreatDoor.l9 h.ge.zz).2
 rwa [h.E1] at this
theorem l9:Ev (fun k=>mf.f k e) true:=by
 have:=(Proofs.YtfknmdelgepbjaaGreatDoor.l9 h.ge.zz).1
 rwa [h.E1] at this
theorem mH.sm:Sm e:=by
 have z:=h.ge.I0
 refine ⟨by rw [h.kind]; decide,om,om,om,om,?_,by rw [h.ge.AX (by rw [h.kind]; decide)]; decide,h.tick,h.rk⟩
 cases ho:e.jX with
 | true=>have:=h.zE ho; omega
 | false=>have:=h.ge.zG ho; omega
end
theorem C3 {a b:ai} (ha:mH a) (hb:mH b) (h:(a.aa++(⟨#[32]⟩:BA))++a.ak=(b.aa++(⟨#[32]⟩:BA))++b.ak):a.aa=b.aa∧a.ak=b.ak:=
 key_inj (vA dc ha.room.1) (vA dc hb.room.1) h
end Go.Proofs.YtfknmdelgepbjaaGreatDoor.Ty
set_option linter.all false
set_option maxRecDepth 10000
namespace Go.Proofs.YtfknmdelgepbjaaGreatDoor.Ty
open Go Go.Sp
def mE (a b:ai):Int:=if jS a.aa b.aa=0 then jS a.ak b.ak else jS a.aa b.aa
def same (a b:ai):Prop:=a.aa=b.aa∧a.ak=b.ak
instance sameD (a b:ai):Decidable (same a b):=inferInstanceAs (Decidable (_∧_))
def j4 (a b:ai):Bool:=dH a.aa b.aa||(decide (a.aa=b.aa)&&dH a.ak b.ak)
theorem nT {a b:ai}:mE a b=0↔same a b:=by
 unfold mE same
 by_cases h:jS a.aa b.aa=0
 ·rw [if_pos h,jk,← jk (x:=a.aa)]; simp [h]
 ·rw [if_neg h,← jk]; simp [h]
theorem jq {a b:ai}:mE a b<0↔j4 a b=true:=by
 unfold mE j4
 by_cases h:jS a.aa b.aa=0
 ·have e:=jk.1 h
  rw [if_pos h,mU,e]; simp [iC]
 ·rw [if_neg h,mU]
  have:¬ a.aa=b.aa:=fun e=>h (jk.2 e)
  simp [this]
theorem qn {a b:ai}:0<mE a b↔j4 b a=true:=by
 unfold mE j4
 by_cases h:jS a.aa b.aa=0
 ·have e:=jk.1 h
  rw [if_pos h,rn,e]; simp [iC]
 ·rw [if_neg h,rn]
  have:¬ b.aa=a.aa:=fun e=>h (jk.2 e.symm)
  simp [this]
theorem l8 {a b c:ai} (h:j4 a b=true) (k:j4 b c=true):j4 a c=true:=by
 simp only [j4,Bool.or_eq_true,Bool.and_eq_true,decide_eq_true_eq] at h k ⊢
 rcases h with h | ⟨e,h⟩ <;> rcases k with k | ⟨e2,k⟩
 ·exact .inl (ma h k)
 ·rw [← e2]; exact .inl h
 ·rw [e]; exact .inl k
 ·exact .inr ⟨e.trans e2,ma h k⟩
theorem r9 {a b:ai} (h:j4 a b=true):j4 b a=false:=by
 cases k:j4 b a with
 | false=>rfl
 | true=>
  have h1:=jq.2 h
  have h2:=qn.2 k
  omega
theorem da {a b:ai} (h:j4 a b=true):¬ same a b:=fun k=>by
 have h1:=jq.2 h
 have h2:=nT.2 k
 omega
theorem pY {a b c:ai} (h:same a b):j4 a c=j4 b c:=by unfold j4; rw [h.1,h.2]
theorem Dm (a b:ai):Ev (fun k=>dU.f k a b) (mE a b):=by
 unfold dU.f
 exact Ev.bind (Ev.of (uV _ _)) (Ev.bind (Ev.of (uV _ _)) (Ev.bind (B8 _ _) Ev.pure))
section
variable {l:List ai} {e:ai} {c:ai→Int} {g:Nat→ai→ai→Option Int}
theorem pS (hg:∀ x,Ev (fun k=>g k x e) (c x)) (hl:l.length≤1000000) (hs:∀ i j,i<j→j<l.length→c (l.getD j default)<0→c (l.getD i default)<0):∀ d i j:Nat,j-i≤d→i≤j→j≤l.length→(∀ m,m<i→c (l.getD m default)<0)→(∀ m,j≤m→m<l.length→0≤c (l.getD m default))→
  ∃ p:Nat,p≤l.length∧(∀ m,m<p→c (l.getD m default)<0)∧(∀ m,p≤m→m<l.length→0≤c (l.getD m default))∧El (fun k q=>slices_BinarySearchFunc_Edu_Edu.l0 k l e (g k) q (i:Int) (j:Int)) ((p:Int),(p:Int),false):=by
 intro d
 induction d with
 | zero=>
  intro i j hd hij hj h1 h2
  obtain rfl:i=j:=om
  refine ⟨i,hj,h1,h2,?_⟩
  refine El.step (fun _ _=>by rw [slices_BinarySearchFunc_Edu_Edu.l0]) ?_
  have:¬ ((i:Int)<(i:Int)):=om
  rw [dF this]
  exact El.cf rfl El.pure
 | succ d ih=>
  intro i j hd hij hj h1 h2
  by_cases hlt:i<j
  ·have hm:ax ((IntKind.u64.wrap (ax ((i:Int)+(j:Int)))).fdiv 2)=(((i+j)/2:Nat):Int):=by rw [Fi om om om]; omega
   have hw:ax ((((i+j)/2:Nat):Int)+1)=(((i+j)/2+1:Nat):Int):=by rw [aJ om om]; omega
   by_cases hc:c (l.getD ((i+j)/2) default)<0
   ·obtain ⟨p,k1,k2,k3,k4⟩:=ih ((i+j)/2+1) j om om hj (fun m hm=>by
     rcases Nat.lt_or_ge m ((i+j)/2) with h | h
     ·exact hs m _ h om hc
     ·obtain rfl:m=(i+j)/2:=om
      exact hc) h2
    refine ⟨p,k1,k2,k3,?_⟩
    refine El.step (fun _ _=>by rw [slices_BinarySearchFunc_Edu_Edu.l0]) ?_
    simp only [hm,hw]
    refine El.ct (by simpa using hlt) (El.aq ⟨om,om⟩ (El.bind (a:=c (l.getD ((i+j)/2) default)) ?_ (El.ct (by simpa using hc) k4)))
    rw [iU]
    exact (hg _).el
   ·obtain ⟨p,k1,k2,k3,k4⟩:=ih i ((i+j)/2) om om om h1 (fun m hm1 hm2=>by
     rcases Nat.lt_or_ge ((i+j)/2) m with h | h
     ·by_cases hcm:c (l.getD m default)<0
      ·exact absurd (hs _ m h hm2 hcm) hc
      ·omega
     ·obtain rfl:m=(i+j)/2:=om
      omega)
    refine ⟨p,k1,k2,k3,?_⟩
    refine El.step (fun _ _=>by rw [slices_BinarySearchFunc_Edu_Edu.l0]) ?_
    simp only [hm,hw]
    refine El.ct (by simpa using hlt) (El.aq ⟨om,om⟩ (El.bind (a:=c (l.getD ((i+j)/2) default)) ?_ (El.cf (by simpa using hc) k4)))
    rw [iU]
    exact (hg _).el
  ·exact ih i j om hij hj h1 h2
theorem sj (hg:∀ x,Ev (fun k=>g k x e) (c x)) (hl:l.length≤1000000) (hs:∀ i j,i<j→j<l.length→c (l.getD j default)<0→c (l.getD i default)<0):
  ∃ p:Nat,p≤l.length∧(∀ m,m<p→c (l.getD m default)<0)∧(∀ m,p≤m→m<l.length→0≤c (l.getD m default))∧Ev (fun k=>slices_BinarySearchFunc_Edu_Edu.f k l e (g k)) ((p:Int),decide (p<l.length)&&(c (l.getD p default)==0)):=by
 obtain ⟨p,k1,k2,k3,k4⟩:=pS hg hl hs l.length 0 l.length om om (Nat.le_refl _) (fun m hm=>om) (fun m h1 h2=>om)
 refine ⟨p,k1,k2,k3,?_⟩
 unfold slices_BinarySearchFunc_Edu_Edu.f
 refine Ev.bind k4.diag ?_
 by_cases hp:p<l.length
 ·rw [dT hp]
  refine Ev.ct (by simpa using hp) (Ev.aq ⟨om,by show (p:Int)<_; omega⟩ (Ev.bind (a:=c (l.getD p default)) ?_ ?_))
  ·rw [iU]; exact hg _
  ·rw [Bool.true_and]; exact Ev.pure
 ·rw [dF hp,Bool.false_and]
  exact Ev.cf (by simpa using hp) Ev.pure
end
def sQ (l:List ai):Prop:=∀ i j,i<j→j<l.length→j4 (l.getD i default) (l.getD j default)=true
structure At (l:List ai) (e:ai) (p:Nat):Prop where
 le:p≤l.length
 lo:∀ m,m<p→j4 (l.getD m default) e=true
 hi:∀ m,p≤m→m<l.length→j4 (l.getD m default) e=false
def cut (L:List ai) (e:ai) (p:Nat):Nat:=if p<L.length∧same (L.getD p default) e then p+1 else p
def sK (L:List ai) (e:ai) (p:Nat):Bool:=decide (p<L.length∧same (L.getD p default) e∧n5 e (L.getD p default)≤0)
theorem uG {l:List ai}:sQ l↔l.Pairwise (fun a b=>j4 a b=true):=by
 rw [List.pairwise_iff_getElem]
 constructor
 ·intro h i j hi hj hij
  have:=h i j hij hj
  rw [gD,gD,gE hi,gE hj] at this
  exact this
 ·intro h i j hij hj
  rw [gD,gD,gE (by omega:i<l.length),gE hj]
  exact h i j om hj hij
section
variable {L:List ai} {e:ai} {p:Nat}
theorem At.gt (hs:sQ L) (hp:At L e p):∀ j,cut L e p≤j→j<L.length→j4 e (L.getD j default)=true:=by
 intro j hj1 hj2
 by_cases hh:p<L.length∧same (L.getD p default) e
 ·rw [show cut L e p=p+1 from if_pos hh] at hj1
  rw [pY ⟨hh.2.1.symm,hh.2.2.symm⟩]; exact hs p j hj1 hj2
 ·rw [show cut L e p=p from if_neg hh] at hj1
  have hpl:p<L.length:=om
  have h1:=hp.hi p (Nat.le_refl _) hpl
  have h2:¬ same (L.getD p default) e:=fun h=>hh ⟨hpl,h⟩
  have h3:j4 e (L.getD p default)=true:=by
   have a:=jq (a:=L.getD p default) (b:=e)
   have b:=nT (a:=L.getD p default) (b:=e)
   rw [← qn]
   rw [h1] at a
   rw [← b] at h2
   have:¬ mE (L.getD p default) e<0:=fun h=>by have:=a.1 h; cases this
   omega
  rcases Nat.lt_or_ge p j with h | h
  ·exact l8 h3 (hs p j h hj2)
  ·obtain rfl:j=p:=om
   exact h3
theorem uw (hp:At L e p):p≤cut L e p∧cut L e p≤L.length:=by
 unfold cut
 split
 ·rename_i h; exact ⟨om,h.1⟩
 ·exact ⟨Nat.le_refl _,hp.le⟩
theorem sQ.ins (hs:sQ L) (hp:At L e p):sQ (L.take p++e::L.drop (cut L e p)):=by
 have hc:=uw hp
 rw [uG] at *
 have hs':sQ L:=uG.2 hs
 rw [List.pairwise_append,List.pairwise_cons]
 refine ⟨hs.sublist (List.take_sublist _ _),⟨fun x hx=>?_,hs.sublist (List.drop_sublist _ _)⟩,fun x hx y hy=>?_⟩
 ·obtain ⟨m,m1,m2,rfl⟩:=oh (d:=default) hx
  exact hp.gt hs' m m1 m2
 ·obtain ⟨m,m1,m2,rfl⟩:=rz (d:=default) hx
  rcases List.mem_cons.1 hy with rfl | hy
  ·exact hp.lo m m1
  ·obtain ⟨q,q1,q2,rfl⟩:=oh (d:=default) hy
   exact hs' m q om q2
end
theorem Ar {l:List ai} (hl:l.length≤1000000) (hs:sQ l) (e:ai) (d:aM):∃ p,At l e p∧Ev (fun k=>dW.f k ⟨l,d⟩ e) ((p:Int),decide (p<l.length)&&decide (same (l.getD p default) e)):=by
 obtain ⟨p,k1,k2,k3,k4⟩:=sj (l:=l) (e:=e) (c:=fun x=>mE x e) (g:=dU.f) (fun x=>Dm x e) hl (fun i j h1 h2 h3=>jq.2 (l8 (hs i j h1 h2) (jq.1 h3)))
 refine ⟨p,⟨k1,fun m hm=>jq.1 (k2 m hm),fun m h1 h2=>?_⟩,?_⟩
 ·have:=k3 m h1 h2
  cases h:j4 (l.getD m default) e with
  | false=>rfl
  | true=>have:=jq.2 h; omega
 ·unfold dW.f
  have e2:(mE (l.getD p default) e==0)=decide (same (l.getD p default) e):=by
   rw [Bool.eq_iff_iff]; simp [nT]
  rw [← e2]
  exact Ev.bind k4 Ev.pure
section
variable {L:List ai} {T:List Bool} {e:ai}
theorem Gn (l:List Bool) (m:Nat):bR.at l (m:Int)=l.getD m false:=by unfold Kd.at; rw [Int.toNat_natCast] <;> rfl
theorem qN (hT:T.length=L.length) {m:Nat} (hm:m<L.length) {d:Bool} {L':List ai} {T':List Bool} (hL':L'.length≤100000) (hT':T'.length≤100000) (hbig:L.length≤100000) (hs:¬ same (L.getD m default) e) {v}
  (G:El (fun k j=>cU.l0 k ⟨L,T⟩ e j (d||j4 e (L.getD m default)) ((m+1:Nat):Int) ((if !d&&j4 e (L.getD m default) then L'++[e] else L')++[L.getD m default]) ((if !d&&j4 e (L.getD m default) then T'++[false] else T')++[T.getD m false])) v):
  El (fun k j=>cU.l0 k ⟨L,T⟩ e j d (m:Int) L' T') v:=by
 have hw:ax ((m:Int)+1)=((m+1:Nat):Int):=by rw [aJ om om]; omega
 refine El.step (fun _ _=>by rw [cU.l0]) ?_
 simp only [hw,iU,Gn]
 generalize hx:L.getD m default=x at *
 refine El.ct (dT om) (El.aq ⟨om,om⟩ ?_)
 have A:∀ (d':Bool) (q:Bool) (L'':List ai) (T'':List Bool),d'=(d||j4 e x)→L''=(if !d&&j4 e x then L'++[e] else L')→T''=(if !d&&j4 e x then T'++[false] else T')→L''.length≤100001→T''.length≤100001→
   El (fun k j=>aq (L''.length+([x]:List ai).length≤9223372036854775807∧(L''.length+([x]:List ai).length)*112≤140737488355328) (aq ((0:Int)≤(m:Int)∧(m:Int)<(T.length:Int)) (aq (T''.length+([T.getD m false]:List Bool).length≤9223372036854775807∧(T''.length+([T.getD m false]:List Bool).length)*1≤140737488355328) (cU.l0 k ⟨L,T⟩ e j d' ((m+1:Nat):Int) (L''++([x]:List ai)) (T''++([T.getD m false]:List Bool)))))) v:=by
  intro d' q L'' T'' e1 e2 e3 b1 b2
  subst e1
  refine El.aq ⟨by simp only [List.length_singleton]; omega,by simp only [List.length_singleton]; omega⟩ (El.aq ⟨om,om⟩ (El.aq ⟨by simp only [List.length_singleton]; omega,by simp only [List.length_singleton]; omega⟩ ?_))
  rw [e2,e3]
  exact G
 have X:El (fun k j=>(cond (!d) (cond (dH e.aa x.aa) (aq (L'.length+([e]:List ai).length≤9223372036854775807∧(L'.length+([e]:List ai).length)*112≤140737488355328) (aq (T'.length+([false]:List Bool).length≤9223372036854775807∧(T'.length+([false]:List Bool).length)*1≤140737488355328) (some (true,true,L'++([e]:List ai),T'++([false]:List Bool))))) (cond (decide (e.aa=x.aa)) (cond (dH e.ak x.ak) (aq (L'.length+([e]:List ai).length≤9223372036854775807∧(L'.length+([e]:List ai).length)*112≤140737488355328) (aq (T'.length+([false]:List Bool).length≤9223372036854775807∧(T'.length+([false]:List Bool).length)*1≤140737488355328) (some (true,dH e.ak x.ak,L'++([e]:List ai),T'++([false]:List Bool))))) (some (d,dH e.ak x.ak,L',T'))) (some (d,false,L',T')))) (some (d,false,L',T'))).bind fun (p285:Bool×Bool×(List ai)×(List Bool))=>aq (p285.2.2.1.length+([x]:List ai).length≤9223372036854775807∧(p285.2.2.1.length+([x]:List ai).length)*112≤140737488355328) (aq ((0:Int)≤(m:Int)∧(m:Int)<(T.length:Int)) (aq (p285.2.2.2.length+([T.getD m false]:List Bool).length≤9223372036854775807∧(p285.2.2.2.length+([T.getD m false]:List Bool).length)*1≤140737488355328) (cU.l0 k ⟨L,T⟩ e j p285.1 ((m+1:Nat):Int) (p285.2.2.1++([x]:List ai)) (p285.2.2.2++([T.getD m false]:List Bool)))))) v:=by
  have g1:L'.length+([e]:List ai).length≤9223372036854775807∧(L'.length+([e]:List ai).length)*112≤140737488355328:=by simp only [List.length_singleton]; omega
  have g2:T'.length+([false]:List Bool).length≤9223372036854775807∧(T'.length+([false]:List Bool).length)*1≤140737488355328:=by simp only [List.length_singleton]; omega
  cases d with
  | true=>exact El.bind (a:=(true,false,L',T')) (El.cf rfl El.pure) (A true false L' T' sM sM sM om om)
  | false=>
   cases h1:dH e.aa x.aa with
   | true=>
    have hk:j4 e x=true:=by simp [j4,h1]
    exact El.bind (a:=(true,true,L'++[e],T'++[false])) (El.ct rfl (El.ct rfl (El.aq g1 (El.aq g2 El.pure)))) (A true true _ _ (by simp [hk]) (by simp [hk]) (by simp [hk]) (by simp; omega) (by simp; omega))
   | false=>
    by_cases h2:e.aa=x.aa
    ·cases h3:dH e.ak x.ak with
     | true=>
      have hk:j4 e x=true:=by simp [j4,h2,h3]
      exact El.bind (a:=(true,true,L'++[e],T'++[false])) (El.ct rfl (El.cf rfl (El.ct (dT h2) (El.ct rfl (El.aq g1 (El.aq g2 El.pure)))))) (A true true _ _ (by simp [hk]) (by simp [hk]) (by simp [hk]) (by simp; omega) (by simp; omega))
     | false=>
      have hk:j4 e x=false:=by simp [j4,h1,h3]
      exact El.bind (a:=(false,false,L',T')) (El.ct rfl (El.cf rfl (El.ct (dT h2) (El.cf rfl El.pure)))) (A false false L' T' (by simp [hk]) (by simp [hk]) (by simp [hk]) om om)
    ·have hk:j4 e x=false:=by simp [j4,h1,h2]
     exact El.bind (a:=(false,false,L',T')) (El.ct rfl (El.cf rfl (El.cf (dF h2) El.pure))) (A false false L' T' (by simp [hk]) (by simp [hk]) (by simp [hk]) om om)
 by_cases hr:x.aa=e.aa
 ·have hu:¬ x.ak=e.ak:=fun h=>hs ⟨hr,h⟩
  exact El.ct (dT hr) (El.cf (dF hu) X)
 ·exact El.cf (dF hr) X
theorem Gp (hT:T.length=L.length) (hbig:L.length≤50000):∀ (d m:Nat) (L':List ai) (T':List Bool),L.length-m≤d→m≤L.length→(∀ j,m≤j→j<L.length→j4 e (L.getD j default)=true)→L'.length+(L.length-m)≤100000→T'.length+(L.length-m)≤100000→
  El (fun k j=>cU.l0 k ⟨L,T⟩ e j true (m:Int) L' T') (.inl (true,(L.length:Int),false,L'++L.drop m,T'++T.drop m)):=by
 intro d
 induction d with
 | zero=>
  intro m L' T' hd hm _ _ _
  obtain rfl:m=L.length:=om
  refine El.step (fun _ _=>by rw [cU.l0]) ?_
  have:¬ ((L.length:Int)<(L.length:Int)):=om
  have e1:L'++L.drop L.length=L':=sM
  have e2:T'++T.drop L.length=T':=by simp [← hT]
  rw [dF this,e1,e2]
  exact El.cf rfl El.pure
 | succ d ih=>
  intro m L' T' hd hm h1 hL' hT'
  by_cases hlt:m<L.length
  ·have hk:=h1 m (Nat.le_refl _) hlt
   refine qN hT hlt om om om (fun h=>da hk ⟨h.1.symm,h.2.symm⟩) ?_
   have:=ih (m+1) (L'++[L.getD m default]) (T'++[T.getD m false]) om om (fun j hj hj2=>h1 j om hj2) (by simp; omega) (by simp; omega)
   have e1:L'++[L.getD m default]++L.drop (m+1)=L'++L.drop m:=by
    rw [List.drop_eq_getElem_cons hlt,gD,gE hlt]; simp
   have e2:T'++[T.getD m false]++T.drop (m+1)=T'++T.drop m:=by
    rw [List.drop_eq_getElem_cons (by omega:m<T.length),gD,gE (by omega:m<T.length)]; simp
   rw [e1,e2] at this
   simpa using this
  ·exact ih m L' T' om hm h1 hL' hT'
theorem EK (hT:T.length=L.length) (hbig:L.length≤50000) (m:Nat) (L':List ai) (T':List Bool) (hm:m≤L.length) (h1:∀ j,m≤j→j<L.length→j4 e (L.getD j default)=true) (hL':L'.length+(L.length-m)≤99990) (hT':T'.length+(L.length-m)≤99990):
  ∃ d L'' T'',El (fun k j=>cU.l0 k ⟨L,T⟩ e j false (m:Int) L' T') (.inl (d,(L.length:Int),false,L'',T''))∧L''.length≤100000∧T''.length≤100000∧(if d then L'' else L''++[e])=L'++e::L.drop m∧(if d then T'' else T''++[false])=T'++false::T.drop m:=by
 by_cases hlt:m<L.length
 ·have hk:=h1 m (Nat.le_refl _) hlt
  have:=Gp (e:=e) hT hbig L.length (m+1) (L'++[e]++[L.getD m default]) (T'++[false]++[T.getD m false]) om om (fun j hj hj2=>h1 j om hj2) (by simp; omega) (by simp; omega)
  have e1:L'++[e]++[L.getD m default]++L.drop (m+1)=L'++e::L.drop m:=by
   rw [List.drop_eq_getElem_cons hlt,gD,gE hlt]; simp
  have e2:T'++[false]++[T.getD m false]++T.drop (m+1)=T'++false::T.drop m:=by
   rw [List.drop_eq_getElem_cons (by omega:m<T.length),gD,gE (by omega:m<T.length)]; simp
  rw [e1,e2] at this
  refine ⟨true,_,_,qN hT hlt om om om (fun h=>da hk ⟨h.1.symm,h.2.symm⟩) (by rw [hk]; exact this),by simp; omega,by simp; omega,rfl,rfl⟩
 ·obtain rfl:m=L.length:=om
  refine ⟨false,L',T',?_,om,om,sM,by simp [← hT]⟩
  refine El.step (fun _ _=>by rw [cU.l0]) ?_
  have:¬ ((L.length:Int)<(L.length:Int)):=om
  rw [dF this]
  exact El.cf rfl El.pure
theorem EO (hT:T.length=L.length) (hbig:L.length≤50000) {p:Nat} (hp:p≤L.length) (h1:∀ m,m<p→j4 (L.getD m default) e=true) {v} (G:El (fun k j=>cU.l0 k ⟨L,T⟩ e j false (p:Int) (L.take p) (T.take p)) v):∀ d m,p-m≤d→m≤p→El (fun k j=>cU.l0 k ⟨L,T⟩ e j false (m:Int) (L.take m) (T.take m)) v:=by
 intro d
 induction d with
 | zero=>
      intro m hd hm; obtain rfl:m=p:=om
      exact G
 | succ d ih=>
  intro m hd hm
  by_cases hlt:m<p
  ·have hk:=h1 m hlt
   have hn:=r9 hk
   have:=ih (m+1) om om
   have e1:L.take (m+1)=L.take m++[L.getD m default]:=by
    rw [List.take_succ_eq_append_getElem (by omega:m<L.length),gD,gE (by omega:m<L.length)]; simp
   have e2:T.take (m+1)=T.take m++[T.getD m false]:=by
    rw [List.take_succ_eq_append_getElem (by omega:m<T.length),gD,gE (by omega:m<T.length)]; simp
   rw [e1,e2] at this
   exact qN hT om (by simp; omega) (by simp; omega) om (da hk) (by rw [hn]; exact this)
  ·obtain rfl:m=p:=om
   exact G
theorem sB (he:mH e) (hL:∀ x∈L,mH x) (hs:sQ L) (hT:T.length=L.length) (hbig:L.length≤50000) {p:Nat} (hp:At L e p):
  Ev (fun k=>cU.f k ⟨L,T⟩ e) (if sK L e p then (⟨L,T⟩,false,0) else (⟨L.take p++e::L.drop (cut L e p),T.take p++false::T.drop (cut L e p)⟩,true,0)):=by
 unfold cU.f
 have hk:(e.aE != 2)=false:=by rw [he.kind]; rfl
 refine Ev.bind (xU he) (Ev.cf hk (Ev.cf rfl ?_))
 have start:∀ {v},El (fun k j=>cU.l0 k ⟨L,T⟩ e j false (p:Int) (L.take p) (T.take p)) v→El (fun k j=>cU.l0 k ⟨L,T⟩ e j false 0 [] []) v:=fun G=>by
  have:=EO hT hbig hp.le hp.lo G p 0 om om
  simpa using this
 have fin:∀ {c:Nat},p≤c→c≤L.length→(∀ j,c≤j→j<L.length→j4 e (L.getD j default)=true)→(El (fun k j=>cU.l0 k ⟨L,T⟩ e j false (c:Int) (L.take p) (T.take p))=El (fun k j=>cU.l0 k ⟨L,T⟩ e j false (c:Int) (L.take p) (T.take p)))→
   (∀ v,El (fun k j=>cU.l0 k ⟨L,T⟩ e j false (c:Int) (L.take p) (T.take p)) v→El (fun k j=>cU.l0 k ⟨L,T⟩ e j false 0 [] []) v)→
   Ev (fun k=>(cU.l0 k (⟨L,T⟩:jO) e k false 0 ([]:List ai) ([]:List Bool)).bind (fall fun (p263:Bool×Int×Bool×(List ai)×(List Bool))=>cond (!p263.1) (aq (p263.2.2.2.1.length+([e]:List ai).length≤9223372036854775807∧(p263.2.2.2.1.length+([e]:List ai).length)*112≤140737488355328) (aq (p263.2.2.2.2.length+([false]:List Bool).length≤9223372036854775807∧(p263.2.2.2.2.length+([false]:List Bool).length)*1≤140737488355328) (some ((⟨p263.2.2.2.1++([e]:List ai),p263.2.2.2.2++([false]:List Bool)⟩:jO),true,0)))) (some ((⟨p263.2.2.2.1,p263.2.2.2.2⟩:jO),true,0))))
    (⟨L.take p++e::L.drop c,T.take p++false::T.drop c⟩,true,0):=by
  intro c hc1 hc2 h1 _ st
  obtain ⟨d,L'',T'',k1,k2,k3,k4,k5⟩:=EK (e:=e) hT hbig c (L.take p) (T.take p) hc2 h1 (by simp; omega) (by simp; omega)
  refine Ev.bind (st _ k1).diag ?_
  cases d with
  | true=>
   simp only [if_true] at k4 k5
   rw [← k4,← k5]
   exact Ev.pure
  | false=>
   simp only [if_false,Bool.false_eq_true] at k4 k5
   rw [← k4,← k5]
   refine Ev.of ?_
   show aq (L''.length+1≤9223372036854775807∧(L''.length+1)*112≤140737488355328) (aq (T''.length+1≤9223372036854775807∧(T''.length+1)*1≤140737488355328) (some _))=_
   simp only [aq]
   rw [if_pos ⟨om,om⟩,if_pos ⟨om,om⟩]
 by_cases hh:p<L.length∧same (L.getD p default) e
 ·have hcut:cut L e p=p+1:=if_pos hh
  have hsm:mH (L.getD p default):=hL _ (by rw [gD,gE hh.1]; exact List.getElem_mem hh.1)
  have hw:ax ((p:Int)+1)=((p+1:Nat):Int):=by rw [aJ om om]; omega
  by_cases hc:n5 e (L.getD p default)≤0
  ·have ho:sK L e p=true:=dT ⟨hh.1,hh.2,hc⟩
   rw [ho,if_pos rfl]
   have G:El (fun k j=>cU.l0 k ⟨L,T⟩ e j false (p:Int) (L.take p) (T.take p)) (.inr (⟨L,T⟩,false,0)):=by
    refine El.step (fun _ _=>by rw [cU.l0]) ?_
    simp only [iU]
    exact El.ct (dT om) (El.aq ⟨om,om⟩ (El.ct (dT hh.2.1) (El.ct (dT hh.2.2) (El.bind (qv he.sm hsm.sm).el (El.ct (dT hc) El.pure)))))
   exact Ev.bind (start G).diag Ev.pure
  ·have ho:sK L e p=false:=dF (fun h=>hc h.2.2)
   rw [ho,hcut,if_neg sM]
   refine fin (Nat.le_succ _) hh.1 (fun j hj1 hj2=>?_) rfl (fun v G=>start ?_)
   ·rw [pY ⟨hh.2.1.symm,hh.2.2.symm⟩]; exact hs p j hj1 hj2
   ·refine El.step (fun _ _=>by rw [cU.l0]) ?_
    simp only [iU,hw]
    exact El.ct (dT om) (El.aq ⟨om,om⟩ (El.ct (dT hh.2.1) (El.ct (dT hh.2.2) (El.bind (qv he.sm hsm.sm).el (El.cf (dF hc) G)))))
 ·have hcut:cut L e p=p:=if_neg hh
  have ho:sK L e p=false:=dF (fun h=>hh ⟨h.1,h.2.1⟩)
  rw [ho,hcut,if_neg sM]
  refine fin (Nat.le_refl _) hp.le (fun j hj1 hj2=>?_) rfl (fun v G=>start G)
  have hpl:p<L.length:=om
  have h1:=hp.hi p (Nat.le_refl _) hpl
  have h2:¬ same (L.getD p default) e:=fun h=>hh ⟨hpl,h⟩
  have h3:j4 e (L.getD p default)=true:=by
   have a:=jq (a:=L.getD p default) (b:=e)
   have b:=nT (a:=L.getD p default) (b:=e)
   rw [← qn]
   rw [h1] at a
   rw [← b] at h2
   have:¬ mE (L.getD p default) e<0:=fun h=>by have:=a.1 h; cases this
   omega
  rcases Nat.lt_or_ge p j with h | h
  ·exact l8 h3 (hs p j h hj2)
  ·obtain rfl:j=p:=om
   exact h3
end
end Go.Proofs.YtfknmdelgepbjaaGreatDoor.Ty
