import Derived.Test.YtfknmdelgepbjaaGreatDoorZPX
import Derived.Test.YtfknmdelgepbjaaGreatDoorConS
import Derived.Test.YtfknmdelgepbjaaGreatDoorZVC
set_option linter.all false
set_option maxRecDepth 10000
namespace Go.Proofs.YtfknmdelgepbjaaGreatDoor
open Go Go.Sp
def putG (s:BA):Bool→List BA→List BA
 | d,[]=>if d then [] else [s]
 | d,x::l=>(if !d && !dO x s then [s] else [])++((if x=s then [] else [x])++putG s (d || !dO x s) l)
theorem rF (s:BA):∀ (l:List BA) (d:Bool) (x:BA),x∈putG s d l↔(x∈l∧x≠s)∨(x=s∧d=false)
 | [],d,x=>by cases d <;> simp [putG]
 | y::l,d,x=>by
  simp only [putG,List.mem_append,rF s l]
  by_cases hy:y=s
  ·subst hy
   cases d <;> simp [iF] <;> grind
  ·cases d <;> cases h:dO y s <;> simp [hy] <;> grind
theorem sj (s:BA):∀ (l:List BA),putG s true l=l.filter (fun x=>decide (x≠s))
 | []=>rfl
 | y::l=>by
  simp only [putG,Bool.not_true,Bool.false_and,Bool.true_or,sj s l]
  by_cases hy:y=s
  ·subst hy; simp
  ·simp [hy]
theorem rn {s:BA}:∀ {l:List BA},sF l→sF (putG s false l)
 | [],_=>by simp [putG,sF]
 | y::l,h=>by
  have h':sF l:=(List.pairwise_cons.1 h).2
  have h1:=(List.pairwise_cons.1 h).1
  cases hs:dO y s with
  | true=>
   have hne:y≠s:=BK hs
   have e:putG s false (y::l)=y::putG s false l:=by simp [putG,hs,hne]
   rw [e]
   refine List.pairwise_cons.2 ⟨fun z hz=>?_,rn h'⟩
   rcases (rF s l false z).1 hz with ⟨z1,_⟩ | ⟨rfl,_⟩
   ·exact h1 z z1
   ·exact hs
  | false=>
   have e:putG s false (y::l)=s::((if y=s then [] else [y])++l.filter (fun x=>decide (x≠s))):=by
    simp [putG,hs,sj]
   rw [e]
   have hsy:∀ z∈l,dO s z=true:=fun z hz=>by
    by_cases hy:y=s
    ·subst hy; exact h1 z hz
    ·have:dO s y=true:=by
      cases h2:dO s y with
      | true=>rfl
      | false=>exact absurd (kC hs h2) hy
     exact l6 this (h1 z hz)
   refine List.pairwise_cons.2 ⟨fun z hz=>?_,?_⟩
   ·rcases List.mem_append.1 hz with hz | hz
    ·split at hz
     ·cases hz
     ·rename_i hy
      rw [List.mem_singleton] at hz; subst hz
      cases h2:dO s z with
      | true=>rfl
      | false=>exact absurd (kC hs h2) hy
    ·exact hsy z (List.mem_filter.1 hz).1
   ·have hf:sF (l.filter (fun x=>decide (x≠s))):=h'.sublist List.filter_sublist
    split
    ·exact hf
    ·exact List.pairwise_cons.2 ⟨fun z hz=>h1 z (List.mem_filter.1 hz).1,hf⟩
theorem u6 (s:BA):∀ (l:List BA) (d:Bool),(putG s d l).length≤l.length+1
 | [],d=>by cases d <;> simp [putG]
 | y::l,d=>by
  have h1:=u6 s l (d || !dO y s)
  have h2:(putG s true l).length≤l.length:=by rw [sj]; exact List.length_filter_le ..
  simp only [putG,List.length_append,List.length_cons]
  cases d <;> cases h:dO y s <;> simp [h] at h1 ⊢ <;> split <;> simp <;> omega
theorem jr {m:Nat} (h:m≤1000000):aw ((m:Int)+1)=((m+1:Nat):Int):=by rw [aP om om]; omega
end Go.Proofs.YtfknmdelgepbjaaGreatDoor
