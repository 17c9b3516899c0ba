import Derived.Test.YtelcbdmigiacpaaGreatZOk
set_option linter.all false
set_option maxRecDepth 10000
namespace Go.Proofs.YtelcbdmigiacpaaGreat
open Go Go.Sp
def gQ (p:Nat->Bool) (x n:Nat):Bool:=(List.range' x (n-x)).all p
theorem yy {p:Nat->Bool} {n:Nat}:gQ p n n=true:=by simp [gQ]
theorem wL {p:Nat->Bool} {x n:Nat} (h:x<n):gQ p x n=(p x&&gQ p (x+1) n):=by
 unfold gQ
 have e:n-x=(n-(x+1))+1:=om
 rw [e,List.range'_succ,List.all_cons]
theorem mO {p:Nat->Bool} {x n:Nat}:gQ p x n=true↔∀ i,x<=i->i<n->p i=true:=by
 simp only [gQ,List.all_eq_true,List.mem_range'_1]
 exact⟨λh i h1 h2=>h i ⟨h1,om⟩,λh i hi=>h i hi.1 om⟩
theorem Aq {p q:Nat->Bool} {x y n m:Nat} (h:n-x=m-y) (e:∀ i,i<n-x->p (x+i)=q (y+i)):gQ p x n=gQ q y m:=by
 rw [Bool.eq_iff_iff,mO,mO]
 constructor
 ·intro k i h1 h2
  have h3:=k (x+(i-y)) om om
  rw [e (i-y) om] at h3
  rwa [show y+(i-y)=i by omega] at h3
 ·intro k i h1 h2
  have h3:=k (y+(i-x)) om om
  rw [<- e (i-x) om] at h3
  rwa [show x+(i-x)=i by omega] at h3
theorem xI {β:Type} {F:Nat->Nat->Nat->Option ((Int×Bool) ⊕ β)} {p:Nat->Bool} {bad:β} {n:Nat}
  (h0:El (λk j=>F k j n) (.inl ((n:Int),false)))
  (h1:∀ x,x<n->p x=false->El (λk j=>F k j x) (.inr bad))
  (h2:∀ x r,x<n->p x=true->El (λk j=>F k j (x+1)) r->El (λk j=>F k j x) r):
  ∀ d x,n-x=d->x<=n->El (λk j=>F k j x) (if gQ p x n then .inl ((n:Int),false) else .inr bad):=by
 intro d
 induction d with
 | zero=>
      intro x hd hx;obtain rfl:x=n:=om
      rw [yy];exact h0
 | succ d ih=>
  intro x hd hx
  rw [wL om]
  cases hp:p x with
  | false=>simpa using h1 x om hp
  | true=>simpa using h2 x _ om hp (ih (x+1) om om)
theorem BZ (s:BA) (m:Int):0<=bt s m/\bt s m<=255:=by
 unfold bt
 have:=UInt8.toNat_lt (s.data.getD m.toNat 0)
 omega
theorem qK {s:BA} {a b i:Nat} (h:i<b-a) (hb:b<=s.size):bt (s.extract a b) (i:Int)=bt s ((a+i:Nat):Int):=by
 unfold bt
 rw [ByteArray.data_extract,Array.getD_eq_getD_getElem?,Array.getD_eq_getD_getElem?,Array.getElem?_extract,Int.toNat_natCast,Int.toNat_natCast]
 have hs:s.data.size=s.size:=rfl
 rw [if_pos om]
theorem j7 {s:BA} {a b:Nat} (hb:b<=s.size):(s.extract a b).size=b-a:=by
 rw [ByteArray.size_extract,Nat.min_eq_left hb]
theorem pre1 {s:BA} {c:UInt8} (h:1<=s.size):decide (s.extract 0 1=⟨#[c]⟩)=(bt s 0==(c.toNat:Int)):=by
 rw [Bool.eq_iff_iff]
 simp only [decide_eq_true_eq,beq_iff_eq]
 constructor
 ·intro e
  have h1:=qK (s:=s) (a:=0) (b:=1) (i:=0) om h
  rw [e] at h1
  exact h1.symm
 ·intro e
  apply ByteArray.ext
  rw [ByteArray.data_extract]
  have hs:s.data.size=s.size:=rfl
  apply Array.ext
  ·simp;omega
  ·intro i h1 h2
   have h3:i=0:=by simp at h2;omega
   subst h3
   rw [Array.getElem_extract]
   simp only [Nat.zero_add,List.getElem_toArray,List.getElem_cons_zero]
   unfold bt at e
   rw [Array.getD_eq_getD_getElem?,Int.toNat_zero,Array.getElem?_eq_getElem om] at e
   exact UInt8.toNat_inj.1 (by exact_mod_cast e)
def low (c:Int):Bool:=(decide (97<=c)&&decide (c<=122))||(decide (48<=c)&&decide (c<=57))
theorem sX (c:Int):nw.f c=some (low c):=by
 unfold nw.f low
 by_cases h1:97<=c <;> by_cases h2:c<=122 <;> by_cases h3:48<=c <;> simp [h1,h2,h3]
theorem u5 (c:Int):jR.f c=some (low c):=by
 unfold jR.f low
 by_cases h1:97<=c <;> by_cases h2:c<=122 <;> by_cases h3:48<=c <;> simp [h1,h2,h3]
def ES (c:Int):Bool:=low c||c==46||c==45||c==95
def Hc (c:Int):Bool:=low c||c==46||c==45
def CN (c:Int):Bool:=low c||(decide (65<=c)&&decide (c<=90))||c==45||c==95
theorem vz {c:Int} {t:BA} (q:Int->Bool) (h0:0<=c) (h1:c<=255) (hq:(List.range 256).all (λn=>(low (n:Int)||decide (0<=kV t (n:Int)))==q (n:Int))=true):eU.f c t=some (q c):=by
 unfold eU.f jJ.f dU.f
 rw [u5]
 have:=List.all_eq_true.1 hq c.toNat (List.mem_range.2 om)
 rw [Int.toNat_of_nonneg h0,beq_iff_eq] at this
 rw [<- this]
 simp only [Option.bind_some]
 cases low c <;> simp
theorem Iz {c:Int} (h0:0<=c) (h1:c<=255):eU.f c ⟨#[46,45,95]⟩=some (ES c):=vz ES h0 h1 kr
theorem IY {c:Int} (h0:0<=c) (h1:c<=255):eU.f c ⟨#[46,45]⟩=some (Hc c):=vz Hc h0 h1 kr
theorem IC {c:Int} (h0:0<=c) (h1:c<=255):eU.f c ⟨#[45,95,65,66,67,68,69,70,71,72,73,74,75,76,77,78,79,80,81,82,83,84,85,86,87,88,89,90]⟩=some (CN c):=vz CN h0 h1 kr
def sZ (q:Int->Bool) (s:BA):Bool:=gQ (λi=>q (bt s (i:Int))) 0 s.size&&(decide (0<s.size)&&decide (s.size<=16))
theorem xC {s:BA} (n:Int) (q:Int->Bool) (hs:s.size<=maxLen) (h0:0<=n/\n<3)
  (hq:∀ c,0<=c->c<=255->(o5.at ([λa=>eU.f a ⟨#[46,45,95]⟩,λa=>eU.f a ⟨#[46,45]⟩,λa=>eU.f a ⟨#[45,95,65,66,67,68,69,70,71,72,73,74,75,76,77,78,79,80,81,82,83,84,85,86,87,88,89,90]⟩]:List (Int->Option Bool)) n) c=some (q c)):Ev (λk=>name_may.f k s n) (sZ q s):=by
 have hs2:s.size<=9223372036854775807:=hs
 unfold name_may.f kz.f
 simp only [Option.bind_some]
 refine Ev.aF h0 (Ev.bind (a:=if gQ (λi=>q (bt s (i:Int))) 0 s.size then .inl ((s.size:Int),false) else .inr false) ?_ ?_)
 ·refine El.diag (xI (F:=λk j x=>name_may.l0 k s n _ _ _ j (x:Int)) (p:=λi=>q (bt s (i:Int))) (n:=s.size) ?_ ?_ ?_ s.size 0 om om)
  ·refine El.step (λ_ _=>by rw [name_may.l0]) ?_
   exact El.cf sM (by simpa using El.pure)
  ·intro x hx hp
   refine El.step (λ_ _=>by rw [name_may.l0]) ?_
   refine El.ct (by simpa using hx) (El.aF ⟨om,om⟩ ?_)
   refine El.bind (Ev.el (Ev.of (hq _ (BZ _ _).1 (BZ _ _).2))) ?_
   exact El.ct (by simp [hp]) El.pure
  ·intro x r hx hp ih
   refine El.step (λ_ _=>by rw [name_may.l0]) ?_
   refine El.ct (by simpa using hx) (El.aF ⟨om,om⟩ ?_)
   refine El.bind (Ev.el (Ev.of (hq _ (BZ _ _).1 (BZ _ _).2))) ?_
   refine El.cf (by simp [hp]) ?_
   rw [c7 (x:=(x:Int)+1) om om]
   exact ih
 ·unfold sZ
  cases gQ (λi=>q (bt s (i:Int))) 0 s.size with
  | false=>exact Ev.of rfl
  | true=>
   by_cases h:s=⟨#[]⟩
   ·subst h;exact Ev.of rfl
   ·have h3:0<s.size:=by
     rcases Nat.eq_zero_or_pos s.size with h4 | h4
     ·exact absurd (ByteArray.ext (Array.eq_empty_of_size_eq_zero h4)) h
     ·exact h4
    refine Ev.ct (by simp [h]) (Ev.of ?_)
    simp [h3];omega
theorem mayP {s:BA} (hs:s.size<=maxLen):Ev (λk=>name_may.f k s 0) (sZ ES s):=xC 0 ES hs om λc h0 h1=>Iz h0 h1
theorem mayS {s:BA} (hs:s.size<=maxLen):Ev (λk=>name_may.f k s 1) (sZ Hc s):=xC 1 Hc hs om λc h0 h1=>IY h0 h1
theorem mayE {s:BA} (hs:s.size<=maxLen):Ev (λk=>name_may.f k s 2) (sZ CN s):=xC 2 CN hs om λc h0 h1=>IC h0 h1
theorem cutp {s:BA} {c:UInt8} (hs:s.size<=maxLen):fc.f s ⟨#[c]⟩=some (if decide (1<=s.size)&&(bt s 0==(c.toNat:Int)) then (s.extract 1 s.size,true) else (s,false)):=by
 have hs2:s.size<=9223372036854775807:=hs
 unfold fc.f gU.f gS.f
 have e1:(⟨#[c]⟩:BA).size=1:=rfl
 simp only [e1]
 by_cases h:1<=s.size
 ·have h2:((1:Nat):Int)<=(s.size:Int):=om
  rw [dT h2]
  simp only [cond_true,aF]
  rw [if_pos ⟨om,om,om⟩]
  simp only [Option.bind_some]
  rw [show(((1:Nat):Int)).toNat=1 from rfl,pre1 h]
  cases bt s 0==(c.toNat:Int) with
  | false=>simp
  | true=>simp [h]
 ·have h2:¬ ((1:Nat):Int)<=(s.size:Int):=om
  rw [dF h2]
  simp [h]
def kQ (s:BA):Bool:=decide (2<=s.size)&&decide (s.size<=17)&&(bt s 0==36)&&gQ (λi=>CN (bt s (i:Int))) 1 s.size
theorem sL {s:BA} (hs:s.size<=maxLen):Ev (λk=>eW.f k s) (kQ s):=by
 have hs2:s.size<=9223372036854775807:=hs
 unfold eW.f
 rw [cutp hs]
 simp only [Option.bind_some]
 by_cases h:1<=s.size
 ·cases h2:(bt s 0==((36:UInt8).toNat:Int)) with
  | false=>
   refine Ev.cf sM (Ev.of ?_)
   have:(bt s 0==36)=false:=h2
   simp [kQ,this]
  | true=>
   refine Ev.ct (by simp [h]) ?_
   have h3:(bt s 0==36)=true:=h2
   have e:kQ s=sZ CN (s.extract 1 s.size):=by
    unfold kQ sZ
    rw [j7 (Nat.le_refl _),h3]
    have e1:gQ (λi=>CN (bt s (i:Int))) 1 s.size=gQ (λi=>CN (bt (s.extract 1 s.size) (i:Int))) 0 (s.size-1):=Aq om λi hi=>by
     rw [show((0+i:Nat))=i by omega,qK om (Nat.le_refl _)]
    rw [e1,Bool.and_comm]
    have a1:decide (2<=s.size)=decide (0<s.size-1):=by rw [decide_eq_decide];omega
    have a2:decide (s.size<=17)=decide (s.size-1<=16):=by rw [decide_eq_decide];omega
    rw [a1,a2];simp
   rw [e]
   simp only [h,decide_true,Bool.true_and,if_true]
   refine Ev.bind (mayE (by rw [j7 (Nat.le_refl _)];show _<=9223372036854775807;omega)) Ev.pure
 ·have h4:¬ 2<=s.size:=om
  refine Ev.cf (by simp [h]) (Ev.of ?_)
  simp [kQ,h4]
theorem pV {s:BA} (hs:s.size<=maxLen):Ev (λk=>cZ.f k s) (kQ s):=by
 have hs2:s.size<=9223372036854775807:=hs
 unfold cZ.f kQ
 by_cases h1:2<=s.size
 ·by_cases h2:s.size<=17
  ·refine Ev.cf (by simp;omega) (Ev.cf (by simp;omega) (Ev.aF ⟨om,om⟩ ?_))
   cases h3:(bt s 0==36) with
   | false=>exact Ev.ct (by simpa [bne] using h3) (Ev.of sM)
   | true=>
    refine Ev.cf (by simpa [bne] using h3) ?_
    refine Ev.bind (a:=if gQ (λi=>CN (bt s (i:Int))) 1 s.size then .inl ((s.size:Int),false) else .inr false) ?_ ?_
    ·refine El.diag (xI (F:=λk j x=>cZ.l0 k s j (x:Int)) (p:=λi=>CN (bt s (i:Int))) (n:=s.size) ?_ ?_ ?_ (s.size-1) 1 om om)
     ·refine El.step (λ_ _=>by rw [cZ.l0]) ?_
      exact El.cf sM (by simpa using El.pure)
     all_goals
      intro x
     ·intro hx hp
      refine El.step (λ_ _=>by rw [cZ.l0]) ?_
      refine El.ct (by simpa using hx) (El.aF ⟨om,om⟩ ?_)
      refine El.bind (Ev.el (Ev.of (sX _))) ?_
      simp only [CN,Bool.or_eq_false_iff] at hp
      obtain⟨⟨⟨p1,p2⟩,p3⟩,p4⟩:=hp
      have q3:(bt s (x:Int) != 45)=true:=by simpa [bne] using p3
      have q4:(bt s (x:Int) != 95)=true:=by simpa [bne] using p4
      refine El.aF ⟨om,om⟩ (El.cond (λc1=>El.aF ⟨om,om⟩ (El.ct (by simp [p1]) (El.ct ?_ ?_))) λc1=>El.ct (by simp [p1]) ?_)
      ·rw [c1] at p2;simpa using p2
      ·exact El.aF ⟨om,om⟩ (El.ct q3 (El.aF ⟨om,om⟩ (El.ct q4 El.pure)))
      ·exact El.aF ⟨om,om⟩ (El.ct q3 (El.aF ⟨om,om⟩ (El.ct q4 El.pure)))
     ·intro r hx hp ih
      have ih2:El (λk j=>cZ.l0 k s j (aE ((x:Int)+1))) r:=by rw [c7 (x:=(x:Int)+1) om om];exact ih
      refine El.step (λ_ _=>by rw [cZ.l0]) ?_
      refine El.ct (by simpa using hx) (El.aF ⟨om,om⟩ ?_)
      refine El.bind (Ev.el (Ev.of (sX _))) ?_
      have g:(0:Int)<=(x:Int)/\(x:Int)<(s.size:Int):=⟨om,om⟩
      refine El.aF g (El.cond (λc1=>El.aF g (El.cond (λc2=>El.cond (λc3=>El.aF g (El.cond (λc4=>El.aF g (El.cond (λc5=>?_) λc5=>ih2)) λc4=>ih2)) λc3=>ih2) λc2=>ih2)) λc1=>El.cond (λc2=>El.aF g (El.cond (λc4=>El.aF g (El.cond (λc5=>?_) λc5=>ih2)) λc4=>ih2)) λc2=>ih2)
      all_goals
       exfalso
       simp only [CN,bne,Bool.not_eq_true',Bool.or_eq_true] at *
       first | (simp_all;done)|(simp_all;omega)
    ·cases gQ (λi=>CN (bt s (i:Int))) 1 s.size with
     | false=>exact Ev.of (by simp [fall])
     | true=>exact Ev.of (by simp [fall,h1,h2])
  ·exact Ev.cf (by simp;omega) (Ev.ct (by simp;omega) (Ev.of (by simp [h2])))
 ·exact Ev.ct (by simp;omega) (Ev.of (by simp [h1]))
theorem part2 {s:BA} (hs:s.size<=maxLen):Ev (λk=>gC.f k s) (sZ ES s):=by
 have hs2:s.size<=9223372036854775807:=hs
 unfold gC.f sZ
 refine Ev.bind (a:=if gQ (λi=>ES (bt s (i:Int))) 0 s.size then .inl ((s.size:Int),false) else .inr false) ?_ ?_
 ·refine El.diag (xI (F:=λk j x=>gC.l0 k s j (x:Int)) (p:=λi=>ES (bt s (i:Int))) (n:=s.size) ?_ ?_ ?_ s.size 0 om om)
  ·refine El.step (λ_ _=>by rw [gC.l0]) ?_
   exact El.cf sM (by simpa using El.pure)
  ·intro x hx hp
   have g:(0:Int)<=(x:Int)/\(x:Int)<(s.size:Int):=⟨om,om⟩
   refine El.step (λ_ _=>by rw [gC.l0]) ?_
   refine El.ct (by simpa using hx) (El.aF g ?_)
   refine El.bind (Ev.el (Ev.of (sX _))) ?_
   simp only [ES,Bool.or_eq_false_iff] at hp
   obtain⟨⟨⟨p1,p2⟩,p3⟩,p4⟩:=hp
   exact El.ct (by simp [p1]) (El.aF g (El.ct (by simpa [bne] using p2) (El.aF g (El.ct (by simpa [bne] using p3) (El.aF g (El.ct (by simpa [bne] using p4) El.pure))))))
  ·intro x r hx hp ih
   have ih2:El (λk j=>gC.l0 k s j (aE ((x:Int)+1))) r:=by rw [c7 (x:=(x:Int)+1) om om];exact ih
   have g:(0:Int)<=(x:Int)/\(x:Int)<(s.size:Int):=⟨om,om⟩
   refine El.step (λ_ _=>by rw [gC.l0]) ?_
   refine El.ct (by simpa using hx) (El.aF g ?_)
   refine El.bind (Ev.el (Ev.of (sX _))) ?_
   refine El.cond (λc1=>El.aF g (El.cond (λc2=>El.aF g (El.cond (λc3=>El.aF g (El.cond (λc4=>?_) λc4=>ih2)) λc3=>ih2)) λc2=>ih2)) λc1=>ih2
   exfalso
   simp only [ES,bne,Bool.not_eq_true',Bool.or_eq_true] at *
   simp_all
 ·cases gQ (λi=>ES (bt s (i:Int))) 0 s.size with
  | false=>exact Ev.of (by simp [fall])
  | true=>
   simp only [if_true,fall,Bool.true_and]
   refine Ev.cond (λc=>Ev.of ?_) λc=>Ev.of ?_
   ·have c1:0<s.size:=by simpa using c
    simp [c1];omega
   ·have c1:¬ 0<s.size:=by simpa using c
    simp [c1]
def ko (s:BA):Bool:=sZ Hc s&&(low (bt s 0)&&low (bt s ((s.size:Int)-1)))
theorem uF {s:BA} (hs:s.size<=maxLen):Ev (λk=>ew.f k s) (ko s):=by
 have hs2:s.size<=9223372036854775807:=hs
 unfold ew.f ko
 refine Ev.bind (mayS hs) (Ev.cond (λc=>?_) λc=>Ev.of (by rw [c];rfl))
 have c2:=c
 unfold sZ at c2
 have h1:0<s.size:=by simp at c2;exact c2.2.1
 refine Ev.aF ⟨om,om⟩ (Ev.bind (Ev.of (u5 _)) (Ev.cond (λd=>?_) λd=>Ev.of (by rw [c,d];rfl)))
 rw [c7 (x:=(s.size:Int)-1) om om]
 refine Ev.aF ⟨om,om⟩ (Ev.bind (Ev.of (u5 _)) (Ev.of (by rw [c,d];simp)))
def tX (s:BA) (i:Nat):Bool:=low (bt s (i:Int))||((decide (0<i)&&decide ((i:Int)<(s.size:Int)-1))&&(bt s (i:Int)==46||bt s (i:Int)==45))
theorem AQ (s:BA):ko s=(gQ (tX s) 0 s.size&&(decide (0<s.size)&&decide (s.size<=16))):=by
 unfold ko sZ
 by_cases h:0<s.size
 ·have e:(gQ (λi=>Hc (bt s (i:Int))) 0 s.size&&(low (bt s 0)&&low (bt s ((s.size:Int)-1))))=gQ (tX s) 0 s.size:=by
   rw [Bool.eq_iff_iff]
   simp only [Bool.and_eq_true,mO]
   constructor
   ·rintro⟨a,b,c⟩ i _ hi
    have:=a i om hi
    unfold tX
    unfold Hc at this
    by_cases i0:i=0
    ·subst i0;rw [show((0:Nat):Int)=0 from rfl,b];rfl
    ·by_cases i1:(i:Int)=(s.size:Int)-1
     ·rw [i1,c];rfl
     ·have j0:0<i:=om
      have j1:(i:Int)<(s.size:Int)-1:=om
      simp only [j0,j1,decide_true,Bool.and_self,Bool.true_and]
      rw [Bool.or_assoc] at this;exact this
   ·intro a
    have a0:=a 0 om h
    have a1:=a (s.size-1) om om
    have e1:((s.size-1:Nat):Int)=(s.size:Int)-1:=om
    unfold tX at a0 a1
    rw [e1] at a1
    refine⟨λi _ hi=>?_,by simpa using a0,by simpa using a1⟩
    have:=a i om hi
    unfold tX at this
    unfold Hc
    rw [Bool.or_assoc]
    simp only [Bool.or_eq_true,Bool.and_eq_true] at this ⊢
    rcases this with h1 | ⟨_,h1⟩
    ·exact .inl h1
    ·exact .inr h1
  rw [<- e]
  cases gQ (λi=>Hc (bt s (i:Int))) 0 s.size <;> simp [Bool.and_comm,Bool.and_left_comm]
 ·simp [h]
theorem FC {s:BA} (hs:s.size<=maxLen):Ev (λk=>dM.f k s) (ko s):=by
 have hs2:s.size<=9223372036854775807:=hs
 rw [AQ]
 unfold dM.f
 refine Ev.bind (a:=if gQ (tX s) 0 s.size then .inl ((s.size:Int),false) else .inr false) ?_ ?_
 ·refine El.diag (xI (F:=λk j x=>dM.l0 k s j (x:Int)) (p:=tX s) (n:=s.size) ?_ ?_ ?_ s.size 0 om om)
  ·refine El.step (λ_ _=>by rw [dM.l0]) ?_
   exact El.cf sM (by simpa using El.pure)
  ·intro x hx hp
   have g:(0:Int)<=(x:Int)/\(x:Int)<(s.size:Int):=⟨om,om⟩
   refine El.step (λ_ _=>by rw [dM.l0]) ?_
   refine El.ct (by simpa using hx) (El.aF g ?_)
   refine El.bind (Ev.el (Ev.of (sX _))) ?_
   rw [c7 (x:=(s.size:Int)-1) om om]
   simp only [tX,Bool.or_eq_false_iff] at hp
   obtain⟨p1,p2⟩:=hp
   refine El.cond (λc1=>El.cond (λc2=>El.aF g (El.cond (λc3=>?_) λc3=>El.aF g (El.ct (by simp [p1]) (El.cond (λc4=>El.pure) λc4=>?_)))) λc2=>El.ct (by simp [p1]) El.pure) λc1=>El.ct (by simp [p1]) El.pure
   all_goals
    exfalso
    simp only [decide_eq_true_eq,beq_iff_eq,Bool.not_eq_false'] at c1 c2 c3
    have d1:0<x:=om
    simp [d1,c2] at p2
    first | exact p2.1 c3 | (simp at c4;exact p2.2 c4)
  ·intro x r hx hp ih
   have ih2:El (λk j=>dM.l0 k s j (aE ((x:Int)+1))) r:=by rw [c7 (x:=(x:Int)+1) om om];exact ih
   have g:(0:Int)<=(x:Int)/\(x:Int)<(s.size:Int):=⟨om,om⟩
   refine El.step (λ_ _=>by rw [dM.l0]) ?_
   refine El.ct (by simpa using hx) (El.aF g ?_)
   refine El.bind (Ev.el (Ev.of (sX _))) ?_
   rw [c7 (x:=(s.size:Int)-1) om om]
   refine El.cond (λc1=>El.cond (λc2=>El.aF g (El.cond (λc3=>El.cond (λ_=>ih2) λ_=>ih2) λc3=>El.aF g (El.cond (λc4=>El.cond (λc5=>?_) λc5=>ih2) λc4=>ih2))) λc2=>El.cond (λc3=>?_) λc3=>ih2) λc1=>El.cond (λc3=>?_) λc3=>ih2
   ·exfalso
    simp only [tX,Bool.or_eq_true,Bool.and_eq_true] at hp
    rcases hp with hp | ⟨_,hp | hp⟩
    ·rw [hp] at c4;cases c4
    ·rw [hp] at c3;cases c3
    ·rw [hp] at c5;cases c5
   ·exfalso
    simp only [tX,Bool.or_eq_true,Bool.and_eq_true] at hp
    rcases hp with hp | ⟨⟨_,h2⟩,_⟩
    ·rw [hp] at c3;cases c3
    ·rw [h2] at c2;cases c2
   ·exfalso
    simp only [tX,Bool.or_eq_true,Bool.and_eq_true] at hp
    rcases hp with hp | ⟨⟨h2,_⟩,_⟩
    ·rw [hp] at c3;cases c3
    ·have h3:0<x:=by simpa using h2
     simp at c1;omega
 ·cases gQ (tX s) 0 s.size with
  | false=>exact Ev.of (by simp [fall])
  | true=>
   simp only [if_true,fall,Bool.true_and]
   refine Ev.cond (λc=>Ev.of ?_) λc=>Ev.of ?_
   ·have c1:0<s.size:=by simpa using c
    simp [c1];omega
   ·have c1:¬ 0<s.size:=by simpa using c
    simp [c1]
def FI (s:BA) (c r:Int):Prop:=(r = -1/\∀ i:Nat,i<s.size->bt s (i:Int)≠c)\/∃ j:Nat,r=(j:Int)/\j<s.size/\bt s (j:Int)=c/\∀ i:Nat,i<j->bt s (i:Int)≠c
theorem rW {s:BA} {c r r':Int} (h:FI s c r) (h':FI s c r'):r=r':=by
 rcases h with⟨e,h⟩|⟨j,e,h1,h2,h3⟩ <;> rcases h' with⟨e',h'⟩|⟨j',e',h1',h2',h3'⟩
 ·omega
 ·exact absurd h2' (h j' h1')
 ·exact absurd h2 (h' j h1)
 ·rcases Nat.lt_trichotomy j j' with h4 | h4 | h4
  ·exact absurd h2 (h3' j h4)
  ·omega
  ·exact absurd h2' (h3 j' h4)
theorem oZ (s:BA) (c:UInt8):FI s (c.toNat:Int) (kV s (c.toNat:Int)):=by
 have key:∀ l:List UInt8,(Lib.indexByte l c = -1/\∀ i:Nat,i<l.length->l.getD i 0≠c)\/∃ j:Nat,Lib.indexByte l c=(j:Int)/\j<l.length/\l.getD j 0=c/\∀ i:Nat,i<j->l.getD i 0≠c:=by
  intro l
  induction l with
  | nil=>exact .inl ⟨rfl,λi hi=>by simp at hi⟩
  | cons b l ih=>
   unfold Lib.indexByte
   by_cases hb:b=c
   ·subst hb
    exact .inr ⟨0,sM,sM,sM,λi hi=>om⟩
   ·have hb2:(b==c)=false:=by simpa using hb
    rw [hb2]
    rcases ih with⟨e,h⟩|⟨j,e,h1,h2,h3⟩
    ·left
     rw [e]
     refine⟨rfl,λi hi=>?_⟩
     cases i with
     | zero=>simpa using hb
     | succ i=>simpa using h i (by simpa using hi)
    ·right
     rw [e]
     refine⟨j+1,?_,by simpa using h1,by simpa using h2,λi hi=>?_⟩
     ·have:((j:Int) == -1)=false:=sM
      rw [this];simp
     ·cases i with
      | zero=>simpa using hb
      | succ i=>simpa using h3 i om
 have e0:∀ i:Nat,bt s (i:Int)=((s.data.toList.getD i 0).toNat:Int):=λi=>by
  unfold bt
  rw [Int.toNat_natCast,Array.getD_eq_getD_getElem?,gD,Array.getElem?_toList]
 have e1:kV s (c.toNat:Int)=Lib.indexByte s.data.toList c:=by
  unfold kV
  rw [Int.toNat_natCast]
  congr 1
  exact UInt8.ofNat_toNat
 have e2:s.data.toList.length=s.size:=by rw [Array.length_toList];rfl
 have e3:∀ a:UInt8,((a.toNat:Int)=(c.toNat:Int))↔a=c:=λa=>⟨λh=>UInt8.toNat_inj.1 (by exact_mod_cast h),λh=>by rw [h]⟩
 rw [e1]
 rcases key s.data.toList with⟨e,h⟩|⟨j,e,h1,h2,h3⟩
 ·exact .inl ⟨e,λi hi=>by rw [e0,Ne,e3];exact h i om⟩
 ·exact .inr ⟨j,e,om,by rw [e0,e3];exact h2,λi hi=>by rw [e0,Ne,e3];exact h3 i hi⟩
theorem E3 {s:BA} (hs:s.size<=maxLen):Ev (λk=>fH.f k s) (kV s 58):=by
 have hs2:s.size<=9223372036854775807:=hs
 have hfi:=oZ s 58
 have e58:(((58:UInt8).toNat:Int))=58:=rfl
 rw [e58] at hfi
 unfold fH.f
 rcases hfi with⟨e,h⟩|⟨j,e,h1,h2,h3⟩
 ·rw [e]
  have:∀ d x:Nat,s.size-x=d->x<=s.size->El (λk j=>fH.l0 k s j (x:Int)) (.inl ((s.size:Int),false)):=by
   intro d
   induction d with
   | zero=>
    intro x hd hx
    obtain rfl:x=s.size:=om
    refine El.step (λ_ _=>by rw [fH.l0]) ?_
    exact El.cf sM (by simpa using El.pure)
   | succ d ih=>
    intro x hd hx
    refine El.step (λ_ _=>by rw [fH.l0]) ?_
    refine El.ct (by simp;omega) (El.aF ⟨om,om⟩ (El.cf (by simpa using h x om) ?_))
    rw [c7 (x:=(x:Int)+1) om om]
    exact ih (x+1) om om
  exact Ev.bind (this _ 0 rfl om).diag (Ev.of (by simp [fall]))
 ·rw [e]
  have:∀ d x:Nat,j-x=d->x<=j->El (λk i=>fH.l0 k s i (x:Int)) (.inr (j:Int)):=by
   intro d
   induction d with
   | zero=>
    intro x hd hx
    obtain rfl:x=j:=om
    refine El.step (λ_ _=>by rw [fH.l0]) ?_
    exact El.ct (by simpa using h1) (El.aF ⟨om,om⟩ (El.ct (by simpa using h2) El.pure))
   | succ d ih=>
    intro x hd hx
    refine El.step (λ_ _=>by rw [fH.l0]) ?_
    refine El.ct (by simp;omega) (El.aF ⟨om,om⟩ (El.cf (by simpa using h3 x om) ?_))
    rw [c7 (x:=(x:Int)+1) om om]
    exact ih (x+1) om om
  exact Ev.bind (this _ 0 rfl om).diag (Ev.of (by simp [fall]))
theorem CS (s:BA) (c:UInt8):iA.f s ⟨#[c]⟩=some (kV s (c.toNat:Int)):=by
 unfold iA.f dU.f
 have e1:(⟨#[c]⟩:BA).size=1:=rfl
 rw [e1]
 by_cases h:(⟨#[c]⟩:BA)=s
 ·rw [dT h]
  have h0:kV s (c.toNat:Int)=0:=rW (oZ s c) (.inr ⟨0,rfl,by rw [<- h];show(0:Nat)<1;omega,by rw [<- h];rfl,λi hi=>om⟩)
  rw [h0];rfl
 ·rw [dF h];rfl
theorem Bj (s:BA) (c:UInt8):kV s (c.toNat:Int) = -1\/∃ j:Nat,kV s (c.toNat:Int)=(j:Int)/\j<s.size:=by
 rcases oZ s c with⟨e,_⟩|⟨j,e,h,_⟩
 ·exact .inl e
 ·exact .inr ⟨j,e,h⟩
theorem Bb (s:BA):kV s 58 = -1\/∃ j:Nat,kV s 58=(j:Int)/\j<s.size:=Bj s 58
theorem GS {s:BA} (c:UInt8) (hs:s.size<=maxLen):gL.f s ⟨#[c]⟩=some (if 0<=kV s (c.toNat:Int) then (s.extract 0 (kV s (c.toNat:Int)).toNat,s.extract ((kV s (c.toNat:Int)).toNat+1) s.size,true) else (s,⟨#[]⟩,false)):=by
 have hs2:s.size<=9223372036854775807:=hs
 unfold gL.f kI.f
 rw [CS]
 simp only [Option.bind_some]
 have e1:(⟨#[c]⟩:BA).size=1:=rfl
 rw [e1]
 rcases Bj s c with e | ⟨j,e,h⟩
 ·rw [e];rfl
 ·rw [e]
  have h0:(0:Int)<=(j:Int):=om
  rw [dT h0,if_pos h0,c7 (x:=(j:Int)+(1:Nat)) om om]
  have e2:((j:Int)+((1:Nat):Int)).toNat=j+1:=om
  simp only [cond_true,aF,e2,Int.toNat_natCast]
  rw [if_pos ⟨om,om,om⟩,if_pos ⟨om,om,om⟩]
  rfl
def dh (s:BA) (c:UInt8):Bool:=
 if 1<=s.size/\bt s 0=(c.toNat:Int) then
  let t:=s.extract 1 s.size
  if 0<=kV t 58 then sZ ES (t.extract 0 (kV t 58).toNat)&&ko (t.extract ((kV t 58).toNat+1) t.size) else false
 else false
theorem Ag {s:BA} (hs:s.size<=maxLen):gL.f s ⟨#[58]⟩=some (if 0<=kV s 58 then (s.extract 0 (kV s 58).toNat,s.extract ((kV s 58).toNat+1) s.size,true) else (s,⟨#[]⟩,false)):=GS 58 hs
theorem D7 {s:BA} {c:UInt8} (hs:s.size<=maxLen):∃ a b,Ev (λk=>lB.f k s ⟨#[c]⟩) (a,b,dh s c):=by
 have hs2:s.size<=9223372036854775807:=hs
 unfold lB.f
 rw [cutp hs]
 simp only [Option.bind_some]
 by_cases h:1<=s.size/\bt s 0=(c.toNat:Int)
 ·have h1:(decide (1<=s.size)&&(bt s 0==(c.toNat:Int)))=true:=by simp [h.1,h.2]
  unfold dh
  rw [h1,if_pos h]
  simp only [if_true]
  have ht:(s.extract 1 s.size).size<=maxLen:=by rw [j7 (Nat.le_refl _)];show _<=9223372036854775807;omega
  generalize s.extract 1 s.size=t at ht
  have ht2:t.size<=9223372036854775807:=ht
  rw [Ag ht]
  by_cases h2:0<=kV t 58
  ·simp only [if_pos h2,Option.bind_some]
   obtain⟨j,e,hj⟩:∃ j:Nat,kV t 58=(j:Int)/\j<t.size:=by rcases Bb t with e | h;omega;exact h
   rw [e,Int.toNat_natCast]
   refine⟨_,_,Ev.ct rfl (Ev.ct rfl (Ev.bind (mayP (by rw [j7 om];show _<=9223372036854775807;omega)) (Ev.cond (λd=>?_) λd=>Ev.of (by rw [d];rfl))))⟩
   refine Ev.bind (uF (by rw [j7 om];show _<=9223372036854775807;omega)) (Ev.of (by rw [d];rfl))
  ·simp only [if_neg h2,Option.bind_some]
   exact⟨_,_,Ev.ct rfl (Ev.cf rfl (Ev.of rfl))⟩
 ·have h1:(decide (1<=s.size)&&(bt s 0==(c.toNat:Int)))=false:=by
   cases h3:(decide (1<=s.size)&&(bt s 0==(c.toNat:Int))) with
   | false=>rfl
   | true=>simp at h3;exact absurd ⟨h3.1,h3.2⟩ h
  unfold dh
  rw [h1,if_neg h,Ag (by simpa using hs)]
  simp only [Option.bind_some]
  exact⟨_,_,Ev.cf rfl (Ev.of rfl)⟩
theorem AI {s:BA} (hs:s.size<=maxLen):Ev (λk=>j5.f k s) (dh s 33):=by
 obtain⟨a,b,h⟩:=D7 (c:=33) hs
 exact Ev.bind h (Ev.of rfl)
theorem Ai {s:BA} (hs:s.size<=maxLen):Ev (λk=>lK.f k s) (dh s 64):=by
 obtain⟨a,b,h⟩:=D7 (c:=64) hs
 exact Ev.bind h (Ev.of rfl)
theorem yc {s:BA} {c:UInt8} (hc:c≠58) (hs:s.size<=maxLen):Ev (λk=>jC.f k s (c.toNat:Int)) (dh s c):=by
 have hs2:s.size<=9223372036854775807:=hs
 unfold jC.f
 refine Ev.bind (E3 hs) ?_
 have hf:=oZ s 58
 rw [show(((58:UInt8).toNat:Int))=58 from rfl] at hf
 have hcc:(c.toNat:Int)≠58:=λh=>hc (UInt8.toNat_inj.1 (by exact_mod_cast h))
 have hr:∀ j:Nat,kV s 58=((j+1:Nat):Int)->kV (s.extract 1 s.size) 58=(j:Int):=λj e=>by
  have hft:=oZ (s.extract 1 s.size) 58
  rw [show(((58:UInt8).toNat:Int))=58 from rfl] at hft
  refine rW hft ?_
  rcases hf with⟨e',_⟩|⟨j',e',h1,h2,h3⟩
  ·omega
  ·obtain rfl:j'=j+1:=om
   refine .inr ⟨j,rfl,by rw [j7 (Nat.le_refl _)];omega,?_,λi hi=>?_⟩
   ·rw [qK om (Nat.le_refl _),show 1+j=j+1 by omega];exact h2
   ·rw [qK om (Nat.le_refl _)];exact h3 (1+i) om
 rcases hf with⟨e,h⟩|⟨j,e,h1,h2,h3⟩
 ·rw [e]
  refine Ev.ct rfl (Ev.of ?_)
  unfold dh
  split
  ·rename_i hq
   have:kV (s.extract 1 s.size) 58 = -1:=by
    have hft:=oZ (s.extract 1 s.size) 58
    rw [show(((58:UInt8).toNat:Int))=58 from rfl] at hft
    refine rW hft (.inl ⟨rfl,λi hi=>?_⟩)
    rw [j7 (Nat.le_refl _)] at hi
    rw [qK om (Nat.le_refl _)];exact h (1+i) om
   simp only [this];rfl
  ·rfl
 ·rw [e]
  cases j with
  | zero=>
   refine Ev.ct rfl (Ev.of ?_)
   unfold dh
   rw [if_neg]
   rintro⟨_,h4⟩
   rw [show((0:Nat):Int)=0 from rfl] at h2
   rw [h2] at h4
   exact hcc h4.symm
  | succ j=>
   refine Ev.cf (dF om) (Ev.aF ⟨om,om⟩ ?_)
   by_cases h4:bt s 0=(c.toNat:Int)
   ·refine Ev.cf (by simp [h4]) (Ev.aF ⟨om,om,om,om⟩ ?_)
    have e1:((1:Int)).toNat=1:=rfl
    have e2:(aE (((j+1:Nat):Int)+1)).toNat=j+2:=by rw [c7 om om];omega
    rw [e1,Int.toNat_natCast]
    unfold dh
    rw [if_pos ⟨om,h4⟩]
    simp only [hr j e,Int.toNat_natCast]
    rw [if_pos om,ByteArray.extract_extract,ByteArray.extract_extract,j7 (Nat.le_refl _)]
    have e3:s.extract (1+0) (min (1+j) s.size)=s.extract 1 (j+1):=by rw [show min (1+j) s.size=j+1 by omega]
    have e4:s.extract (1+(j+1)) (min (1+(s.size-1)) s.size)=s.extract (j+2) s.size:=by rw [show min (1+(s.size-1)) s.size=s.size by omega,show 1+(j+1)=j+2 by omega]
    rw [e3,e4]
    refine Ev.bind (part2 (by rw [j7 om];show _<=9223372036854775807;omega)) ?_
    rw [e2]
    refine Ev.aF ⟨by rw [c7 om om];omega,om,om⟩ (Ev.bind (FC (by rw [j7 om];show _<=9223372036854775807;omega)) ?_)
    exact Ev.cond (λd=>Ev.of (by rw [d];rfl)) λd=>Ev.of (by rw [d];rfl)
   ·refine Ev.ct (by simpa using h4) (Ev.of ?_)
    unfold dh
    rw [if_neg λh5=>h4 h5.2]
theorem BX {R:Type} {F:Nat->Nat->Nat->Option R} {p:Nat->Bool} {n:Nat} (Q:R->Bool->Prop)
  (h0:∃ r,El (λk j=>F k j n) r/\Q r true)
  (h1:∀ x,x<n->p x=false->∃ r,El (λk j=>F k j x) r/\Q r false)
  (h2:∀ x r,x<n->p x=true->El (λk j=>F k j (x+1)) r->El (λk j=>F k j x) r):
  ∀ d x,n-x=d->x<=n->∃ r,El (λk j=>F k j x) r/\Q r (gQ p x n):=by
 intro d
 induction d with
 | zero=>
      intro x hd hx;obtain rfl:x=n:=om
      rw [yy];exact h0
 | succ d ih=>
  intro x hd hx
  rw [wL om]
  cases hp:p x with
  | false=>simpa using h1 x om hp
  | true=>
   obtain⟨r,hr,hq⟩:=ih (x+1) om om
   exact⟨r,h2 x _ om hp hr,by simpa using hq⟩
theorem BJ {α:Type} {K:Kd α} (l:List α) (i:Nat) (d:α) (hi:i<l.length):K.at l (i:Int)=l.getD i d:=by
 unfold Kd.at
 rw [Int.toNat_natCast,gD,gD,gE hi]
 rfl
def par (e:Event) (i:Nat):BA:=e.ag.getD i ⟨#[]⟩
theorem mN {e:Event} {i:Nat} (hi:i<e.ag.length):az.at e.ag (i:Int)=par e i:=BJ _ _ _ hi
theorem xJ {e:Event} (h:Event.ok e) {i:Nat} (hi:i<e.ag.length):(par e i).size<=maxLen:=h.2.2.1.2 _ (vr hi)
def sK (e:Event) (i:Nat):Bool:=kQ (par e i)&&(!decide (par e i=e.cC)&&(decide (i=0)||il (par e (i-1)) (par e i)))
def wz (e:Event):Bool:=decide (e.ah=eE)||(kQ e.ah&&(!decide (e.ah=e.cC)&&decide (e.cW=0)))
def pJ (e:Event):Bool:=kQ e.cC&&(dh e.aj 33&&(dh e.aC 64&&(decide (e.ag.length<=4)&&(decide (0<=e.cW)&&(decide (e.cW<=2)&&(wz e&&gQ (sK e) 0 e.ag.length))))))
theorem wR {e:Event} (he:Event.ok e):∃ r:Bool×Int×Bool,El (λk j=>eh.l0 k e j 0) r/\r.1=gQ (sK e) 0 e.ag.length:=by
 have hn:e.ag.length<=9223372036854775807:=he.2.2.1.1
 refine BX (F:=λk j x=>eh.l0 k e j (x:Int)) (λr b=>r.1=b) ?_ ?_ ?_ _ 0 rfl om
 ·exact⟨_,El.step (λ_ _=>by rw [eh.l0]) (El.cf sM El.pure),rfl⟩
 ·intro x hx hp
  refine⟨(false,(x:Int),decide ((x:Int)<(e.ag.length:Int))),?_,rfl⟩
  refine El.step (λ_ _=>by rw [eh.l0]) ?_
  refine El.ct (by simpa using hx) (El.aF ⟨om,om⟩ ?_)
  rw [mN hx]
  refine El.bind (Ev.el (sL (xJ he hx))) (El.cond (λ_=>El.pure) λc1=>El.cond (λ_=>El.pure) λc2=>El.cond (λc3=>?_) λc3=>?_)
  ·have hx0:0<x:=by simpa using c3
   rw [c7 (x:=(x:Int)-1) om om]
   have e1:((x:Int)-1)=((x-1:Nat):Int):=om
   rw [e1]
   refine El.aF ⟨om,om⟩ (El.cond (λ_=>El.pure) λc4=>?_)
   exfalso
   rw [mN om] at c4
   have hx1:¬ x=0:=om
   unfold sK at hp
   simp only [Bool.not_eq_false',Bool.not_eq_true'] at c1 c2 c4
   simp [c1,c2,c4] at hp
  ·exfalso
   have hx0:x=0:=by simp at c3;omega
   unfold sK at hp
   simp only [Bool.not_eq_false',Bool.not_eq_true'] at c1 c2
   simp [c1,c2,hx0] at hp
   rw [hx0] at c1 c2
   simp [c1] at hp
   simp [hp] at c2
 ·intro x r hx hp ih
  have ih2:El (λk j=>eh.l0 k e j (aE ((x:Int)+1))) r:=by rw [c7 (x:=(x:Int)+1) om om];exact ih
  unfold sK at hp
  simp only [Bool.and_eq_true,Bool.or_eq_true,Bool.not_eq_true',decide_eq_true_eq] at hp
  obtain⟨p1,p2,p3⟩:=hp
  refine El.step (λ_ _=>by rw [eh.l0]) ?_
  refine El.ct (by simpa using hx) (El.aF ⟨om,om⟩ ?_)
  rw [mN hx]
  refine El.bind (Ev.el (sL (xJ he hx))) (El.cf (by simp [p1]) (El.cf p2 (El.cond (λc3=>?_) λc3=>ih2)))
  have hx0:0<x:=by simpa using c3
  rw [c7 (x:=(x:Int)-1) om om]
  have e1:((x:Int)-1)=((x-1:Nat):Int):=om
  rw [e1]
  refine El.aF ⟨om,om⟩ ?_
  rw [mN om]
  rcases p3 with p3 | p3
  ·omega
  ·exact El.cf (by simp [p3]) ih2
theorem AS {e:Event} (he:Event.ok e):∃ r:Bool×Int×Bool,El (λk j=>eh.l1 k e j 0) r/\r.1=gQ (sK e) 0 e.ag.length:=by
 obtain⟨r,h,h1⟩:=wR he
 refine⟨r,?_,h1⟩
 have:∀ k j x,eh.l1 k e j x=eh.l0 k e j x:=by
  intro k j
  induction j with
  | zero=>intro x;rfl
  | succ j ih=>intro x;rw [eh.l0,eh.l1];simp only [ih]
 obtain⟨K,hK⟩:=h
 exact⟨K,λk j h1 h2=>by show eh.l1 k e j 0=some r;rw [this];exact hK k j h1 h2⟩
theorem F0 {e:Event} (he:Event.ok e):Ev (λk=>eh.f k e) (pJ e):=by
 obtain⟨h1,h2,h3,h4,h5,h6,_⟩:=he
 have he:Event.ok e:=⟨h1,h2,h3,h4,h5,h6,trivial⟩
 have hn:e.ag.length<=9223372036854775807:=h3.1
 obtain⟨r0,l0,q0⟩:=wR he
 obtain⟨r1,l1,q1⟩:=AS he
 unfold eh.f pJ
 refine Ev.bind (sL h1) (Ev.cond (λc=>Ev.of ?_) λc=>?_)
 ·simp at c;simp [c]
 simp only [Bool.not_eq_false'] at c
 refine Ev.bind (AI h2) (Ev.cond (λd=>Ev.of ?_) λd=>?_)
 ·simp at d;simp [c,d]
 simp only [Bool.not_eq_false'] at d
 refine Ev.bind (Ai h5) (Ev.cond (λb=>Ev.of ?_) λb=>?_)
 ·simp at b;simp [c,d,b]
 simp only [Bool.not_eq_false'] at b
 rw [c,d,b]
 simp only [Bool.true_and]
 refine Ev.cond (λa=>Ev.of ?_) λa=>?_
 ·have a1:¬ e.ag.length<=4:=by simp at a;omega
  simp [a1]
 have a1:e.ag.length<=4:=by simp at a;omega
 refine Ev.cond (λf=>Ev.of ?_) λf=>?_
 ·have f1:¬ 0<=e.cW:=by simp at f;omega
  simp [f1]
 have f1:0<=e.cW:=by simp at f;omega
 refine Ev.cond (λg=>Ev.of ?_) λg=>?_
 ·have g1:¬ e.cW<=2:=by simp at g;omega
  simp [g1]
 have g1:e.cW<=2:=by simp at g;omega
 simp only [a1,f1,g1,decide_true,Bool.true_and]
 unfold wz
 refine Ev.cond (λi=>?_) λi=>?_
 ·have i1:decide (e.ah=eE)=false:=by simpa using i
  rw [i1]
  simp only [Bool.false_or]
  refine Ev.bind (sL h4) (Ev.cond (λj=>Ev.of ?_) λj=>?_)
  ·simp at j;simp [j]
  simp only [Bool.not_eq_false'] at j
  rw [j]
  simp only [Bool.true_and]
  refine Ev.cond (λk=>Ev.of ?_) λk=>?_
  ·simp at k;simp [k]
  rw [k]
  simp only [Bool.not_false,Bool.true_and]
  refine Ev.cond (λl=>Ev.of ?_) λl=>?_
  ·have:¬ e.cW=0:=by simpa using l
   simp [this]
  have l2:e.cW=0:=by simpa using l
  simp only [l2,decide_true,Bool.true_and]
  exact Ev.bind l0.diag (Ev.of (by rw [q0]))
 ·have i1:decide (e.ah=eE)=true:=by simpa using i
  rw [i1]
  simp only [Bool.true_or,Bool.true_and]
  exact Ev.bind l1.diag (Ev.of (by rw [q1]))
theorem Co {e:Event} (he:Event.ok e):∃ r:(Int×Bool) ⊕ Bool,El (λk j=>iP.l0 k e j 0) r/\(fall (λ(_:Int×Bool)=>some true) r)=some (gQ (sK e) 0 e.ag.length):=by
 have hn:e.ag.length<=9223372036854775807:=he.2.2.1.1
 refine BX (F:=λk j x=>iP.l0 k e j (x:Int)) (λr b=>(fall (λ(_:Int×Bool)=>some true) r)=some b) ?_ ?_ ?_ _ 0 rfl om
 ·exact⟨_,El.step (λ_ _=>by rw [iP.l0]) (El.cf sM El.pure),rfl⟩
 ·intro x hx hp
  refine⟨.inr false,?_,rfl⟩
  refine El.step (λ_ _=>by rw [iP.l0]) ?_
  refine El.ct (by simpa using hx) (El.aF ⟨om,om⟩ ?_)
  rw [mN hx]
  refine El.bind (Ev.el (pV (xJ he hx))) (El.cond (λ_=>El.pure) λc1=>El.aF ⟨om,om⟩ (El.cond (λ_=>El.pure) λc2=>El.cond (λc3=>?_) λc3=>?_))
  ·have hx0:0<x:=by simpa using c3
   have e1:max (aE ((x:Int)-1)) 0=((x-1:Nat):Int):=by rw [c7 (x:=(x:Int)-1) om om];omega
   rw [e1]
   refine El.aF ⟨om,om⟩ (El.aF ⟨om,om⟩ (El.cond (λ_=>El.pure) λc4=>?_))
   exfalso
   rw [mN om] at c4
   have hx1:¬ x=0:=om
   unfold sK at hp
   simp only [Bool.not_eq_false',Bool.not_eq_true'] at c1 c2 c4
   simp [c1,c2,c4] at hp
  ·exfalso
   have hx0:x=0:=by simp at c3;omega
   unfold sK at hp
   simp only [Bool.not_eq_false',Bool.not_eq_true'] at c1 c2
   simp [c1,c2,hx0] at hp
   rw [hx0] at c1 c2
   simp [c1] at hp
   simp [hp] at c2
 ·intro x r hx hp ih
  have ih2:El (λk j=>iP.l0 k e j (aE ((x:Int)+1))) r:=by rw [c7 (x:=(x:Int)+1) om om];exact ih
  unfold sK at hp
  simp only [Bool.and_eq_true,Bool.or_eq_true,Bool.not_eq_true',decide_eq_true_eq] at hp
  obtain⟨p1,p2,p3⟩:=hp
  refine El.step (λ_ _=>by rw [iP.l0]) ?_
  refine El.ct (by simpa using hx) (El.aF ⟨om,om⟩ ?_)
  rw [mN hx]
  refine El.bind (Ev.el (pV (xJ he hx))) (El.cf (by simp [p1]) (El.aF ⟨om,om⟩ (El.cf p2 (El.cond (λc3=>?_) λc3=>ih2))))
  have hx0:0<x:=by simpa using c3
  have e1:max (aE ((x:Int)-1)) 0=((x-1:Nat):Int):=by rw [c7 (x:=(x:Int)-1) om om];omega
  rw [e1]
  refine El.aF ⟨om,om⟩ (El.aF ⟨om,om⟩ ?_)
  rw [mN om]
  rcases p3 with p3 | p3
  ·omega
  ·exact El.cf (by simp [p3]) ih2
theorem may2 {e:Event} (he:Event.ok e):Ev (λk=>iP.f k e) (pJ e):=by
 obtain⟨h1,h2,h3,h4,h5,h6,_⟩:=he
 have he:Event.ok e:=⟨h1,h2,h3,h4,h5,h6,trivial⟩
 obtain⟨r0,l0,q0⟩:=Co he
 unfold iP.f pJ
 refine Ev.bind (pV h1) (Ev.bind (yc (c:=33) dc h2) (Ev.bind (yc (c:=64) dc h5) ?_))
 refine Ev.cond (λc=>Ev.of ?_) λc=>?_
 ·simp at c;simp [c]
 simp only [Bool.not_eq_false'] at c
 refine Ev.cond (λd=>Ev.of ?_) λd=>?_
 ·simp at d;simp [c,d]
 simp only [Bool.not_eq_false'] at d
 refine Ev.cond (λb=>Ev.of ?_) λb=>?_
 ·simp at b;simp [c,d,b]
 simp only [Bool.not_eq_false'] at b
 rw [c,d,b]
 simp only [Bool.true_and]
 refine Ev.cond (λa=>Ev.of ?_) λa=>?_
 ·have a1:¬ e.ag.length<=4:=by simp at a;omega
  simp [a1]
 have a1:e.ag.length<=4:=by simp at a;omega
 refine Ev.cond (λf=>Ev.of ?_) λf=>?_
 ·have f1:¬ 0<=e.cW:=by simp at f;omega
  simp [f1]
 have f1:0<=e.cW:=by simp at f;omega
 refine Ev.cond (λg=>Ev.of ?_) λg=>?_
 ·have g1:¬ e.cW<=2:=by simp at g;omega
  simp [g1]
 have g1:e.cW<=2:=by simp at g;omega
 simp only [a1,f1,g1,decide_true,Bool.true_and]
 unfold wz
 have fin:wz e=true->Ev (λk=>(iP.l0 k e k 0).bind (fall λ(p163:Int×Bool)=>some true)) (wz e&&gQ (sK e) 0 e.ag.length):=λht=>by
  rw [ht,Bool.true_and]
  exact Ev.bind l0.diag (Ev.of q0)
 cases i:decide (e.ah=eE) with
 | false=>
  cases j:kQ e.ah with
  | false=>exact Ev.bind (a:=.inr false) (Ev.ct rfl (Ev.bind (pV h4) (Ev.ct (by simp [j]) Ev.pure))) (Ev.of (by simp [fall]))
  | true=>
   cases k:decide (e.ah=e.cC) with
   | true=>exact Ev.bind (a:=.inr false) (Ev.ct rfl (Ev.bind (pV h4) (Ev.cf (by simp [j]) (Ev.ct rfl Ev.pure)))) (Ev.of (by simp [fall]))
   | false=>
    by_cases l:e.cW=0
    ·have ht:wz e=true:=by unfold wz;rw [i,j,k];simp [l]
     have:=fin ht
     rw [ht] at this
     refine Ev.bind (a:=.inl ()) (Ev.ct rfl (Ev.bind (pV h4) (Ev.cf (by simp [j]) (Ev.cf rfl (Ev.cf (by simp [l]) Ev.pure))))) ?_
     simpa [l,fall] using this
    ·refine Ev.bind (a:=.inr false) (Ev.ct rfl (Ev.bind (pV h4) (Ev.cf (by simp [j]) (Ev.cf rfl (Ev.ct (by simpa using l) Ev.pure))))) (Ev.of (by simp [fall,l]))
 | true=>
  have ht:wz e=true:=by unfold wz;rw [i];rfl
  have:=fin ht
  rw [ht] at this
  refine Ev.bind (a:=.inl ()) (Ev.cf rfl Ev.pure) ?_
  simpa [fall] using this
def ev (l:List Event) (i:Nat):Event:=l.getD i default
theorem oW {l:List Event} {i:Nat} (hi:i<l.length):Event.K.at l (i:Int)=ev l i:=BJ _ _ _ hi
def FE (l:List Event) (id:BA) (r:Int):Prop:=(r = -1/\∀ i:Nat,i<l.length->(ev l i).cC≠id)\/∃ j:Nat,r=(j:Int)/\j<l.length/\(ev l j).cC=id/\∀ i:Nat,i<j->(ev l i).cC≠id
theorem at_ev {d:bq} {id:BA} {r:Int} (hl:d.fL.length<=maxLen) (h:FE d.fL id r):Ev (λk=>fh.f k d id) r:=by
 have hl2:d.fL.length<=9223372036854775807:=hl
 unfold fh.f
 rcases h with⟨e,h⟩|⟨j,e,h1,h2,h3⟩
 ·rw [e]
  have:∀ n x:Nat,d.fL.length-x=n->x<=d.fL.length->El (λk j=>fh.l0 k d id j (x:Int)) (.inl ((d.fL.length:Int),false)):=by
   intro n
   induction n with
   | zero=>
    intro x hd hx
    obtain rfl:x=d.fL.length:=om
    refine El.step (λ_ _=>by rw [fh.l0]) ?_
    exact El.cf sM (by simpa using El.pure)
   | succ n ih=>
    intro x hd hx
    refine El.step (λ_ _=>by rw [fh.l0]) ?_
    refine El.ct (by simp;omega) (El.aF ⟨om,om⟩ (El.cf (by rw [oW om];exact dF (h x om)) ?_))
    rw [c7 (x:=(x:Int)+1) om om]
    exact ih (x+1) om om
  exact Ev.bind (this _ 0 rfl om).diag (Ev.of (by simp [fall]))
 ·rw [e]
  have:∀ n x:Nat,j-x=n->x<=j->El (λk i=>fh.l0 k d id i (x:Int)) (.inr (j:Int)):=by
   intro n
   induction n with
   | zero=>
    intro x hd hx
    obtain rfl:x=j:=om
    refine El.step (λ_ _=>by rw [fh.l0]) ?_
    exact El.ct (by simpa using h1) (El.aF ⟨om,om⟩ (El.ct (by rw [oW h1];exact dT h2) El.pure))
   | succ n ih=>
    intro x hd hx
    refine El.step (λ_ _=>by rw [fh.l0]) ?_
    refine El.ct (by simp;omega) (El.aF ⟨om,om⟩ (El.cf (by rw [oW om];exact dF (h3 x om)) ?_))
    rw [c7 (x:=(x:Int)+1) om om]
    exact ih (x+1) om om
  exact Ev.bind (this _ 0 rfl om).diag (Ev.of (by simp [fall]))
end Go.Proofs.YtelcbdmigiacpaaGreat
