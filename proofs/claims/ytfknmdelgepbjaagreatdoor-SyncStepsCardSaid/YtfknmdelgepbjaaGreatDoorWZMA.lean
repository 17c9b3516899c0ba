import Derived.Test.YtfknmdelgepbjaaGreatDoorWZPX
set_option linter.all false
set_option maxRecDepth 10000
namespace Go.Proofs.YtfknmdelgepbjaaGreatDoor
open Go Go.Sp
def putG (s:BA):Bool→List BA→List BA
 | d,[]=>if d then [] else [s]
 | d,x::l=>(if !d && !dJ x s then [s] else [])++((if x=s then [] else [x])++putG s (d || !dJ x s) l)
theorem sG (s:BA):∀ (l:List BA) (d:Bool) (x:BA),x∈putG s d l↔(x∈l∧x≠s)∨(x=s∧d=false)
 | [],d,x=>by cases d <;> simp [putG]
 | y::l,d,x=>by
  simp only [putG,List.mem_append,sG s l]
  by_cases hy:y=s
  ·subst hy
   cases d <;> simp [iZ] <;> grind
  ·cases d <;> cases h:dJ y s <;> simp [hy] <;> grind
theorem sQ (s:BA):∀ (l:List BA),putG s true l=l.filter (fun x=>decide (x≠s))
 | []=>rfl
 | y::l=>by
  simp only [putG,Bool.not_true,Bool.false_and,Bool.true_or,sQ s l]
  by_cases hy:y=s
  ·subst hy; simp
  ·simp [hy]
theorem sI {s:BA}:∀ {l:List BA},sY l→sY (putG s false l)
 | [],_=>by simp [putG,sY]
 | y::l,h=>by
  have h':sY l:=(List.pairwise_cons.1 h).2
  have h1:=(List.pairwise_cons.1 h).1
  cases hs:dJ y s with
  | true=>
   have hne:y≠s:=BL hs
   have e:putG s false (y::l)=y::putG s false l:=by simp [putG,hs,hne]
   rw [e]
   refine List.pairwise_cons.2 ⟨fun z hz=>?_,sI h'⟩
   rcases (sG s l false z).1 hz with ⟨z1,_⟩ | ⟨rfl,_⟩
   ·exact h1 z z1
   ·exact hs
  | false=>
   have e:putG s false (y::l)=s::((if y=s then [] else [y])++l.filter (fun x=>decide (x≠s))):=by
    simp [putG,hs,sQ]
   rw [e]
   have hsy:∀ z∈l,dJ s z=true:=fun z hz=>by
    by_cases hy:y=s
    ·subst hy; exact h1 z hz
    ·have:dJ s y=true:=by
      cases h2:dJ s y with
      | true=>rfl
      | false=>exact absurd (lf hs h2) hy
     exact mn this (h1 z hz)
   refine List.pairwise_cons.2 ⟨fun z hz=>?_,?_⟩
   ·rcases List.mem_append.1 hz with hz | hz
    ·split at hz
     ·cases hz
     ·rename_i hy
      rw [List.mem_singleton] at hz; subst hz
      cases h2:dJ s z with
      | true=>rfl
      | false=>exact absurd (lf hs h2) hy
    ·exact hsy z (List.mem_filter.1 hz).1
   ·have hf:sY (l.filter (fun x=>decide (x≠s))):=h'.sublist List.filter_sublist
    split
    ·exact hf
    ·exact List.pairwise_cons.2 ⟨fun z hz=>h1 z (List.mem_filter.1 hz).1,hf⟩
theorem vF (s:BA):∀ (l:List BA) (d:Bool),(putG s d l).length≤l.length+1
 | [],d=>by cases d <;> simp [putG]
 | y::l,d=>by
  have h1:=vF s l (d || !dJ y s)
  have h2:(putG s true l).length≤l.length:=by rw [sQ]; exact List.length_filter_le ..
  simp only [putG,List.length_append,List.length_cons]
  cases d <;> cases h:dJ y s <;> simp [h] at h1 ⊢ <;> split <;> simp <;> omega
theorem kH {m:Nat} (h:m≤1000000):av ((m:Int)+1)=((m+1:Nat):Int):=by rw [aE om om]; omega
theorem rp_at (l:List BA) (m:Nat):aw.at l (m:Int)=l.getD m ⟨#[]⟩:=by unfold Kd.at; rw [Int.toNat_natCast] <;> rfl
theorem Ew {l:List BA} {s:BA} (hl:l.length≤100000):∀ (n m:Nat) (d:Bool) (out:List BA),l.length-m=n→m≤l.length→out.length≤2*m→
  ∃ a,El (fun k j=>gT.l0 k l s j d (m:Int) out) a∧(if a.1 then a.2.2.2 else a.2.2.2++[s])=out++putG s d (l.drop m)∧a.2.2.2.length≤2*l.length:=by
 intro n
 induction n with
 | zero=>
  intro m d out hd hm ho
  obtain rfl:m=l.length:=om
  refine ⟨(d,(l.length:Int),false,out),?_,?_,ho⟩
  ·refine El.step (fun _ _=>by rw [gT.l0]) ?_
   exact El.cf (dF om) (by simpa using El.pure)
  ·rw [List.drop_length]; cases d <;> simp [putG]
 | succ n ih=>
  intro m d out hd hm ho
  have hlt:m<l.length:=om
  have hdr:l.drop m=l.getD m ⟨#[]⟩::l.drop (m+1):=by
   rw [List.drop_eq_getElem_cons hlt,gD,gE hlt]; rfl
  rw [hdr]
  generalize hx:l.getD m ⟨#[]⟩=x
  obtain ⟨a,a1,a2,a3⟩:=ih (m+1) (d || !dJ x s) (out++((if !d && !dJ x s then [s] else [])++(if x=s then [] else [x]))) om om (by
   simp only [List.length_append]
   have:(if (!d && !dJ x s)=true then [s] else ([]:List BA)).length≤1:=by split <;> simp
   have:(if x=s then ([]:List BA) else [x]).length≤1:=by split <;> simp
   omega)
  refine ⟨a,?_,by rw [a2]; simp [putG],a3⟩
  refine El.step (fun _ _=>by rw [gT.l0]) ?_
  simp only [kH (show m≤1000000 by omega),rp_at,hx]
  refine El.ct (dT om) ?_
  have g0:(0:Int)≤(m:Int)∧(m:Int)<(l.length:Int):=⟨om,om⟩
  have B:∀ (d' q:Bool) (o':List BA),o'.length≤2*m+1→d'=(d || !dJ x s)→o'=out++(if !d && !dJ x s then [s] else [])→
    El (fun k j=>an ((0:Int)≤(m:Int)∧(m:Int)<(l.length:Int)) (cond (!decide (x=s)) (an ((0:Int)≤(m:Int)∧(m:Int)<(l.length:Int)) (an (o'.length+([x]:List BA).length≤9223372036854775807∧(o'.length+([x]:List BA).length)*16≤140737488355328) (gT.l0 k l s j d' ((m+1:Nat):Int) (o'++([x]:List BA))))) (gT.l0 k l s j d' ((m+1:Nat):Int) o'))) a:=by
   intro d' q o' b1 b2 b3
   refine El.an g0 ?_
   by_cases h:x=s
   ·refine El.cf (by simp [h]) ?_
    rw [b2,b3]
    rw [if_pos h,List.append_nil] at a1
    exact a1
   ·refine El.ct (by simp [h]) (El.an g0 (El.an ⟨by simp only [List.length_singleton]; omega,by simp only [List.length_singleton]; omega⟩ ?_))
    rw [b2,b3,List.append_assoc]
    rw [if_neg h] at a1
    exact a1
  cases d with
  | true=>exact El.bind (a:=(true,false,out)) (El.cf rfl El.pure) (B true false out om sM sM)
  | false=>
   cases h:dJ x s with
   | true=>exact El.bind (a:=(false,false,out)) (El.ct rfl (El.an g0 (El.cf rfl (by simpa [h] using El.pure)))) (B false false out om (by simp [h]) (by simp [h]))
   | false=>exact El.bind (a:=(true,true,out++[s])) (El.ct rfl (El.an g0 (El.ct rfl (El.an ⟨by simp only [List.length_singleton]; omega,by simp only [List.length_singleton]; omega⟩ (by simpa [h] using El.pure))))) (B true true _ (by simp; omega) (by simp [h]) (by simp [h]))
theorem Dc (l:List BA) (s:BA) (hl:l.length≤100000):Ev (fun k=>gT.f k l s) (putG s false l):=by
 obtain ⟨a,a1,a2,a3⟩:=Ew (l:=l) (s:=s) hl l.length 0 false [] om om sM
 unfold gT.f
 refine Ev.bind a1.diag ?_
 rw [List.nil_append,List.drop_zero] at a2
 rw [← a2]
 cases h:a.1 with
 | true=>exact Ev.cf rfl Ev.pure
 | false=>exact Ev.ct rfl (Ev.an ⟨by simp only [List.length_singleton]; omega,by simp only [List.length_singleton]; omega⟩ Ev.pure)
theorem Jq {us:List BA} {m:Nat} (h:m<us.length):us.drop m=us.getD m ⟨#[]⟩::us.drop (m+1):=by
 rw [List.drop_eq_getElem_cons h,gD,gE h]; rfl
end Go.Proofs.YtfknmdelgepbjaaGreatDoor
