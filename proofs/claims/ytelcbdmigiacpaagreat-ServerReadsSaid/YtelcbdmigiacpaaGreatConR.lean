import Derived.Test.YtelcbdmigiacpaaGreatConH
import Derived.ProofKit
import Derived.OpenShut
import Derived.ShutString
import Derived.ChangeOld
import Derived.SizedLaws
import Derived.Deep.Slices
set_option linter.all false
namespace Go.Sp
open Go Go.ChangeShapes Go.WideShapes Go.ChangeAt Go.RowKit Go.Deep
def full (W:World):Fz:=⟨λb o=>W.heap[b]? = some o,W⟩
theorem Br (W:World):St (full W) [] W:=⟨rfl,rfl,rfl,Nat.le_refl _,λ_ _ h=>h,.nil,λ_ h=>by (cases h),λ_ h=>by (cases h),Nat.le_refl _⟩
def Fi (P:Program) (W:World) (t:TypeId) {α:Type} (K:Kd α) (ok:α->Prop):Prop:=
 ∀ (H:Type) (enc:TypeId×Value->H) (fuel:Nat) (cs:List Value) (y:DataW H×List MemPlace),DataW.trod enc P W 0 (λ_=>true) true fuel t cs=some y->∃ x,ok x/\Cs.h (full W) (K.enc x) cs
section
variable {P:Program} {W:World} {t:TypeId} {α:Type}
theorem lR {k:IntKind} (hu:P.underlying t=some (.int k)):Fi P W t (aP k) (λn=>(Lit.int k n).wf=true):=λH enc fuel cs y h=>by
 obtain⟨n,rfl,_,hw⟩:=DataW.trod_int hu h
 exact⟨n,hw,.cons rfl .nil⟩
theorem xN (hu:P.underlying t=some .bool):Fi P W t dS (λ_=>True):=λH enc fuel cs y h=>by
 obtain⟨b,rfl,_⟩:=DataW.trod_bool hu h
 exact⟨b,trivial,.cons rfl .nil⟩
theorem vO (hu:P.underlying t=some .string):Fi P W t az (λs=>s.size<=maxLen):=λH enc fuel cs y h=>by
 obtain⟨s,rfl,_,hs⟩:=DataW.trod_string hu h
 exact⟨s,hs,.cons rfl .nil⟩
theorem B4 {K:Kd α} {R:Fz}:∀ (xs:List α) (L:List Value),xs.length*K.sz<=L.length->(∀ i,i<xs.length->Cs.h R (K.enc (xs.getD i K.qx)) ((L.drop (i*K.sz)).take K.sz))->Cs.h R (xs.flatMap K.enc) (L.take (xs.length*K.sz))
 | [],L,_,_=>by simp;exact .nil
 | x::xs,L,hl,h=>by
  have h0:=h 0 sM
  rw [Nat.zero_mul,List.drop_zero,show(x::xs).getD 0 K.qx=x from rfl] at h0
  have hl':xs.length*K.sz+K.sz<=L.length:=by rw [List.length_cons,Nat.succ_mul] at hl;exact hl
  have hr:=B4 (K:=K) (R:=R) xs (L.drop K.sz) (by rw [List.length_drop];omega) (λi hi=>by
   have:=h (i+1) (by simpa using hi)
   rw [List.drop_drop]
   rw [Nat.succ_mul,Nat.add_comm (i*K.sz)] at this
   exact this)
  have e:L.take ((x::xs).length*K.sz)=L.take K.sz++(L.drop K.sz).take (xs.length*K.sz):=by
   rw [List.length_cons,Nat.succ_mul,Nat.add_comm,List.take_add]
  rw [e,List.flatMap_cons]
  exact bV.append h0 hr
theorem pI {e:TypeId} {K:Kd α} {ok:α->Prop} (hu:P.underlying t=some (.slice e)) (hz:P.cellsOf e=K.sz) (h0:K.sz≠0) (hr:Fi P W e K ok):Fi P W t (kF K) (λxs=>xs.length<=maxLen/\∀ x∈xs,ok x):=λH enc fuel cs y h=>by
 rcases open_slice hu h with⟨rfl,_⟩|⟨a,len,cap,m,n,D,Pl,rfl,_,hl,hm,hmm,_,hi⟩
 ·exact⟨[],⟨Nat.zero_le _,λx hx=>(by cases hx)⟩,.cons (.inl ⟨_,_,rfl,rfl⟩) .nil⟩
 ·simp only [if_true] at hmm
  subst hmm
  rw [hz] at hi
  have key:∀ j,j<=len->∃ xs:List α,xs.length=j/\(∀ x∈xs,ok x)/\∀ i,i<j->∃ cs',W.cells? 0 (a.add (i*K.sz)) K.sz=some cs'/\Cs.h (full W) (K.enc (xs.getD i K.qx)) cs':=by
   intro j
   induction j with
   | zero=>exact λ_=>⟨[],rfl,λx hx=>(by cases hx),λi hi=>absurd hi (Nat.not_lt_zero i)⟩
   | succ j ih=>
    intro hj
    obtain⟨xs,h1,h2,h3⟩:=ih om
    obtain⟨cs',hc,ht⟩:=hi j om
    obtain⟨x,hx,hxc⟩:=hr H enc _ _ _ ht
    refine⟨xs++[x],by simp [h1],λz hz=>?_,λi hij=>?_⟩
    ·rcases List.mem_append.1 hz with hz | hz
     ·exact h2 z hz
     ·simp at hz;rw [hz];exact hx
    ·by_cases e:i=j
     ·subst e
      refine⟨cs',hc,?_⟩
      rw [gD,List.getElem?_append_right om,h1]
      simpa using hxc
     ·obtain⟨c2,h4,h5⟩:=h3 i om
      refine⟨c2,h4,?_⟩
      rw [gD,List.getElem?_append_left om,<- gD]
      exact h5
  obtain⟨xs,h1,h2,h3⟩:=key len (Nat.le_refl _)
  refine⟨xs,⟨om,h2⟩,.cons ?_ .nil⟩
  subst h1
  by_cases hn:xs=[]
  ·subst hn;exact .inl ⟨_,_,rfl,rfl⟩
  ·right
   have hpos:0<xs.length:=List.length_pos_iff.2 hn
   have hm0:0<m:=om
   have at_:∀ i k,i<m->k<K.sz->∃ v,W.cell? ((a.add (i*K.sz)).add k)=some v:=λi k hi' hk=>by
    obtain⟨cs',hc,_⟩:=hi i hi'
    obtain⟨_,hl2,hat⟩:=World.cells?_some hc
    exact⟨cs'[k],by rw [hat k hk];exact gE om⟩
   have hsp:a.spot=none:=by
    obtain⟨v,hv⟩:=at_ 0 0 hm0 om
    simp only [Nat.zero_mul,Addr.add,if_true] at hv
    unfold World.cell? at hv
    split at hv
    ·split at hv
     ·cases hv
     ·rename_i hs;simpa using hs
    ·cases hv
   obtain⟨b,off,sp⟩:=a
   simp only at hsp
   subst hsp
   obtain⟨c,T,fr,hb⟩:∃ c T fr,W.heap[b]? = some (.cells c T fr):=by
    obtain⟨v,hv⟩:=at_ 0 0 hm0 om
    rw [add_eq,add_eq] at hv
    unfold World.cell? at hv
    split at hv
    ·exact⟨_,_,_,by assumption⟩
    ·cases hv
   have hsz:off+m*K.sz<=c.size:=by
    obtain⟨v,hv⟩:=at_ (m-1) (K.sz-1) om om
    rw [add_eq,add_eq,ny hb] at hv
    have:=(Array.getElem?_eq_some_iff.1 hv).1
    have e2:m*K.sz=(m-1)*K.sz+K.sz:=by
     obtain⟨q,rfl⟩:∃ q,m=q+1:=⟨m-1,om⟩
     simp [Nat.succ_mul]
    omega
   refine⟨b,off,m,T,fr,c,rfl,om,hb,hsz,?_⟩
   have hxm:xs.length*K.sz<=m*K.sz:=Nat.mul_le_mul_right _ hl
   refine B4 xs (c.toList.drop off) (by simp;omega) λi hix=>?_
   obtain⟨cs',hc,hh⟩:=h3 i hix
   obtain⟨_,hl2,hat⟩:=World.cells?_some hc
   have e:((c.toList.drop off).drop (i*K.sz)).take K.sz=cs':=by
    apply List.ext_getElem?
    intro k
    by_cases hk:k<K.sz
    ·rw [<- hat k hk,add_eq,add_eq,ny hb,List.getElem?_take_of_lt hk,List.getElem?_drop,List.getElem?_drop]
     simp [Nat.add_assoc]
    ·rw [List.getElem?_eq_none (by simp;omega),List.getElem?_eq_none om]
   rw [e];exact hh
theorem Cs.app {R:Fz} {A B:Cs} {cs:List Value} {s:Nat} (ha:Cs.h R A (cs.take s)) (hb:Cs.h R B (cs.drop s)):Cs.h R (A++B) cs:=by
 have:=bV.append ha hb
 rwa [List.take_append_drop] at this
theorem Cs.end_ {R:Fz} {cs:List Value} {s:Nat} (h:cs.length<=s):Cs.h R [] (cs.drop s):=by rw [List.drop_eq_nil_of_le h];exact .nil
theorem ya {H:Type} {enc:TypeId×Value->H} {v:Value} {d:DataW H} {ps:List MemPlace} {K:Kd α} {ok:α->Prop} (hr:Fi P W t K ok) (h:DataW.Trod enc P W 0 (λ_=>true) true t v d ps):∃ x,ok x/\Cs.h (full W) (K.enc x) v.cells.toList:=by
 obtain⟨fuel,hf⟩:=h
 exact hr H enc fuel _ _ hf
theorem yb {v:Value} {p:VP} (hv:v.oneCell'=true) (h:Cs.h (full W) [p] v.cells.toList):p.p (full W) v:=by
 rw [pY hv] at h
 cases h with | cons h1 _=>exact h1
end
end Go.Sp
namespace Go.Sp
open Go
theorem Cs.at_ {R:Fz} {A B:Cs} {cs:List Value} {o s:Nat} (ha:Cs.h R A ((cs.drop o).take s)) (hb:Cs.h R B (cs.drop (o+s))):Cs.h R (A++B) (cs.drop o):=Cs.app ha (by rw [List.drop_drop];exact hb)
end Go.Sp
