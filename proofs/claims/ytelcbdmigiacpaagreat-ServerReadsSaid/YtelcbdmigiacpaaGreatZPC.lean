import Derived.Test.YtelcbdmigiacpaaGreatZVF
set_option linter.all false
set_option maxRecDepth 10000
namespace Go.Proofs.YtelcbdmigiacpaaGreat
open Go Go.Sp
section
variable {b:List Int} {n:Int} {s:BA} {e:ak}
def qL (n:Nat):List Int:=if n<128 then [(n:Int)] else ((n%128+128:Nat):Int)::qL (n/128)
termination_by n
decreasing_by omega
theorem oK {n:Nat} (h:n<128):qL n=[(n:Int)]:=by rw [qL,if_pos h]
theorem zw {n:Nat} (h:¬ n<128):qL n=((n%128+128:Nat):Int)::qL (n/128):=by rw [qL,if_neg h]
theorem EI:∀ (d:Nat) {n:Nat},n<128 ^ (d+1)->(qL n).length<=d+1:=by
 intro d
 induction d with
 | zero=>intro n hn;rw [oK (by simpa using hn)];simp
 | succ d ih=>
  intro n hn
  by_cases h:n<128
  ·rw [oK h];simp
  ·rw [zw h,List.length_cons]
   have h1:n/128<128 ^ (d+1):=by
    rw [Nat.div_lt_iff_lt_mul dc]
    rw [Nat.pow_succ] at hn;exact hn
   have:=ih h1
   omega
theorem pow6:1099511627776<128 ^ (5+1):=dc
theorem Ex:∀ (d n:Nat) (b:List Int),n<128 ^ (d+1)->n<=1099511627776->b.length+d<=1000010->
  ∃ (m:Nat) (bs:List Int),El (λk j=>lay_Number.l0 k j (n:Int) b) ((m:Int),false,b++bs)/\bs++[(m:Int)]=qL n/\m<128/\(b++bs).length<=b.length+d:=by
 intro d
 induction d with
 | zero=>
  intro n b hn hm hb
  have h:n<128:=by simpa using hn
  refine⟨n,[],?_,by rw [oK h];rfl,h,sM⟩
  refine El.step (λ_ _=>by rw [lay_Number.l0]) ?_
  rw [dF (by omega:¬ (128:Int)<=(n:Int)),List.append_nil]
  exact El.cf rfl El.pure
 | succ d ih=>
  intro n b hn hm hb
  by_cases h:n<128
  ·refine⟨n,[],?_,by rw [oK h];rfl,h,sM⟩
   refine El.step (λ_ _=>by rw [lay_Number.l0]) ?_
   rw [dF (by omega:¬ (128:Int)<=(n:Int)),List.append_nil]
   exact El.cf rfl El.pure
  ·have h1:n/128<128 ^ (d+1):=by
    rw [Nat.div_lt_iff_lt_mul dc]
    rw [Nat.pow_succ] at hn;exact hn
   obtain⟨m,bs,g1,g2,g3,g4⟩:=ih (n/128) (b++[((n%128+128:Nat):Int)]) h1 om (by simp;omega)
   have e1:aE ((n:Int).tdiv 128)=((n/128:Nat):Int):=by
    rw [Int.tdiv_eq_ediv_of_nonneg om,c7 om om];omega
   have e2:IntKind.u8.wrap (aE ((n:Int).tmod 128+128))=((n%128+128:Nat):Int):=by
    rw [Int.tmod_eq_emod_of_nonneg om,c7 om om,HG om om];omega
   refine⟨m,((n%128+128:Nat):Int)::bs,?_,by rw [zw h,<- g2];rfl,g3,by simp at g4 ⊢;omega⟩
   refine El.step (λ_ _=>by rw [lay_Number.l0]) ?_
   rw [e1,e2]
   refine El.ct (dT om) (El.aF ⟨by simp;omega,by simp;omega⟩ ?_)
   rw [List.append_assoc] at g1
   exact g1
theorem Bi {n:Nat} (h1:n<=1099511627776) (hb:b.length<=1000000):Ev (λk=>lay_Number.f k b (n:Int)) (b++qL n):=by
 obtain⟨m,bs,g1,g2,g3,g4⟩:=Ex 5 n b (Nat.lt_of_le_of_lt h1 pow6) h1 om
 unfold lay_Number.f
 refine Ev.aF ⟨om,om,om⟩ ?_
 have e1:((b.take ((b.length:Int).toNat)).drop 0)=b:=sM
 have e2:max (n:Int) 0=(n:Int):=om
 rw [e1,e2]
 refine Ev.bind g1.diag ?_
 rw [HG (x:=(m:Int)) om om]
 rw [<- g2,<- List.append_assoc]
 exact Ev.aF ⟨by rw [List.length_singleton];show(b++bs).length+1<=_;omega,by rw [List.length_singleton];show((b++bs).length+1)*1<=_;omega⟩ Ev.pure
theorem ox (h0:0<=n) (h1:n<128) (hb:b.length<=1000000):Ev (λk=>lay_Number.f k b n) (b++[n]):=by
 obtain⟨m,rfl⟩:=Int.eq_ofNat_of_zero_le h0
 have:=Bi (b:=b) (n:=m) om hb
 rw [oK om] at this
 exact this
theorem vR (h0:0<=n) (h1:n<=1099511627776) (hb:b.length<=1000000):Ev (λk=>lay_Number.f k b n) (b++qL n.toNat):=by
 obtain⟨m,rfl⟩:=Int.eq_ofNat_of_zero_le h0
 exact Bi om hb
theorem FP {n:Int} (h1:n<=1099511627776):(qL n.toNat).length<=6:=EI 5 (Nat.lt_of_le_of_lt om pow6)
def nN (s:BA):List Int:=(s.size:Int)::qm s
theorem w8:(qm s).length=s.size:=by simp [qm]
theorem r9:(nN s).length=s.size+1:=by simp [nN,w8]
theorem uK (h1:s.size<128) (hb:b.length<=500000):Ev (λk=>kH.f k b s) (b++nN s):=by
 unfold kH.f
 refine Ev.bind (ox om om om) ?_
 refine Ev.aF (by rw [w8];simp;omega) ?_
 have e:b++nN s=b++[(s.size:Int)]++qm s:=by simp [nN]
 rw [e]
 exact Ev.pure
def zi (o:Bool):Int:=cond o 1 0
theorem FD {o:Bool} (hb:b.length<=1000000):Ev (λk=>nF.f k b o) (b++[zi o]):=by
 unfold nF.f
 cases o
 ·exact Ev.cf rfl (Ev.bind (ox dc dc hb) Ev.pure)
 ·exact Ev.ct rfl (Ev.bind (ox dc dc hb) Ev.pure)
structure Sm (e:ak):Prop where
 kind:0<=e.bf/\e.bf<128
 room:e.aj.size<128
 user:e.aC.size<128
 event:e.bP.size<128
 nL:e.ah.size<128
 span:0<=e.cX/\e.cX<128
 state:0<=e.bU/\e.bU<128
 tick:0<=e.bK/\e.bK<=1099511627776
 Dc:0<=e.aS/\e.aS<=1099511627776
def Ab (e:ak):List Int:=e.bf::(nN e.aj++nN e.aC++nN e.bP++nN e.ah++([zi e.lO,e.cX,e.bU]++qL e.bK.toNat++qL e.aS.toNat))
theorem Bp (h:Sm e):Ev (λk=>du.f k e) (Ab e):=by
 obtain⟨h1,h2,h3,h4,h5,h6,h7,h8,h9⟩:=h
 unfold du.f
 refine Ev.bind (ox h1.1 h1.2 sM) ?_
 have t1:El (λk j=>du.l1 k e j 0 ([]++[e.bf])) (4,false,[]++[e.bf]++nN e.aj++nN e.aC++nN e.bP++nN e.ah):=by
  refine El.step (λ_ _=>by rw [du.l1]) ?_
  refine El.ct rfl (El.aF (of_decide_eq_true rfl) (El.bind (Ev.el (uK (s:=e.aj) h2 sM)) ?_))
  refine El.step (λ_ _=>by rw [du.l1]) ?_
  refine El.ct rfl (El.aF (of_decide_eq_true rfl) (El.bind (Ev.el (uK (s:=e.aC) h3 (by simp [r9];omega))) ?_))
  refine El.step (λ_ _=>by rw [du.l1]) ?_
  refine El.ct rfl (El.aF (of_decide_eq_true rfl) (El.bind (Ev.el (uK (s:=e.bP) h4 (by simp [r9];omega))) ?_))
  refine El.step (λ_ _=>by rw [du.l1]) ?_
  refine El.ct rfl (El.aF (of_decide_eq_true rfl) (El.bind (Ev.el (uK (s:=e.ah) h5 (by simp [r9];omega))) ?_))
  refine El.step (λ_ _=>by rw [du.l1]) ?_
  exact El.cf rfl El.pure
 refine Ev.bind t1.diag ?_
 have hl:([]++[e.bf]++nN e.aj++nN e.aC++nN e.bP++nN e.ah).length<=1000:=by simp [r9];omega
 have he:Ab e=[]++[e.bf]++nN e.aj++nN e.aC++nN e.bP++nN e.ah++[zi e.lO]++[e.cX]++[e.bU]++qL e.bK.toNat++qL e.aS.toNat:=by simp [Ab]
 rw [he]
 generalize []++[e.bf]++nN e.aj++nN e.aC++nN e.bP++nN e.ah=bb at hl ⊢
 refine Ev.bind (FD (b:=bb) om) ?_
 have t2:El (λk j=>du.l0 k e j 0 (bb++[zi e.lO])) (4,false,bb++[zi e.lO]++[e.cX]++[e.bU]++qL e.bK.toNat++qL e.aS.toNat):=by
  refine El.step (λ_ _=>by rw [du.l0]) ?_
  refine El.ct rfl (El.aF (of_decide_eq_true rfl) (El.bind (Ev.el (ox (n:=e.cX) h6.1 h6.2 (by simp;omega))) ?_))
  refine El.step (λ_ _=>by rw [du.l0]) ?_
  refine El.ct rfl (El.aF (of_decide_eq_true rfl) (El.bind (Ev.el (ox (n:=e.bU) h7.1 h7.2 (by simp;omega))) ?_))
  refine El.step (λ_ _=>by rw [du.l0]) ?_
  refine El.ct rfl (El.aF (of_decide_eq_true rfl) (El.bind (Ev.el (vR (n:=e.bK) h8.1 h8.2 (by simp;omega))) ?_))
  refine El.step (λ_ _=>by rw [du.l0]) ?_
  refine El.ct rfl (El.aF (of_decide_eq_true rfl) (El.bind (Ev.el (vR (n:=e.aS) h9.1 h9.2 (by have:=FP h8.2;simp;omega))) ?_))
  refine El.step (λ_ _=>by rw [du.l0]) ?_
  exact El.cf rfl El.pure
 exact Ev.bind t2.diag Ev.pure
def uR (a b:ak):Int:=if a.aS<b.aS then -1 else if b.aS<a.aS then 1 else nS (lA (Ab a)) (lA (Ab b))
theorem Ia {a b:ak} (ha:Sm a) (hb:Sm b):Ev (λk=>mi.f k a b) (uR a b):=by
 unfold mi.f lU.f
 refine Ev.bind (Ev.of (DD _ _)) (Ev.bind (Bp ha) (Ev.bind (Bp hb) (Ev.bind Ev.pure (Ev.bind (HI _ _) ?_))))
 have e:(if rS a.aS b.aS=0 then GC (Ab a) (Ab b) else rS a.aS b.aS)=uR a b:=by
  rw [GK]
  unfold uR rS
  by_cases h1:a.aS<b.aS
  ·simp [h1]
  ·by_cases h2:b.aS<a.aS <;> simp [h1,h2]
 rw [e]
 exact Ev.pure
end
end Go.Proofs.YtelcbdmigiacpaaGreat
