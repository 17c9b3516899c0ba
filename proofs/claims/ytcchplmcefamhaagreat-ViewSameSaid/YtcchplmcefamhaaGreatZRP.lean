import Derived.Test.YtcchplmcefamhaaGreatZPX
import Derived.Test.YtcchplmcefamhaaGreatConS
set_option linter.all false
set_option maxRecDepth 10000
namespace Go.Proofs.YtcchplmcefamhaaGreat
open Go Go.Sp
def putG (s:ByteArray):Bool→List ByteArray→List ByteArray
 | d,[]=>if d then [] else [s]
 | d,x::l=>(if !d && !sLt x s then [s] else [])++((if x = s then [] else [x])++putG s (d || !sLt x s) l)
theorem putG_mem (s:ByteArray):∀ (l:List ByteArray) (d:Bool) (x:ByteArray),x∈putG s d l↔(x∈l∧x≠s)∨(x = s∧d = false)
 | [],d,x=>by cases d <;> simp [putG]
 | y::l,d,x=>by
  simp only [putG,List.mem_append,putG_mem s l]
  by_cases hy:y = s
  ·subst hy
   cases d <;> simp [sLt_irrefl] <;> grind
  ·cases d <;> cases h:sLt y s <;> simp [hy] <;> grind
theorem putG_true (s:ByteArray):∀ (l:List ByteArray),putG s true l = l.filter (fun x=>decide (x≠s))
 | []=>rfl
 | y::l=>by
  simp only [putG,Bool.not_true,Bool.false_and,Bool.true_or,putG_true s l]
  by_cases hy:y = s
  ·subst hy; simp
  ·simp [hy]
theorem putG_srt {s:ByteArray}:∀ {l:List ByteArray},SrtT l→SrtT (putG s false l)
 | [],_=>by simp [putG,SrtT]
 | y::l,h=>by
  have h':SrtT l:=(List.pairwise_cons.1 h).2
  have h1:=(List.pairwise_cons.1 h).1
  cases hs:sLt y s with
  | true=>
   have hne:y≠s:=sLt_ne hs
   have e:putG s false (y::l) = y::putG s false l:=by simp [putG,hs,hne]
   rw [e]
   refine List.pairwise_cons.2 ⟨fun z hz=>?_,putG_srt h'⟩
   rcases (putG_mem s l false z).1 hz with ⟨z1,_⟩ | ⟨rfl,_⟩
   ·exact h1 z z1
   ·exact hs
  | false=>
   have e:putG s false (y::l) = s::((if y = s then [] else [y])++l.filter (fun x=>decide (x≠s))):=by
    simp [putG,hs,putG_true]
   rw [e]
   have hsy:∀ z∈l,sLt s z = true:=fun z hz=>by
    by_cases hy:y = s
    ·subst hy; exact h1 z hz
    ·have:sLt s y = true:=by
      cases h2:sLt s y with
      | true=>rfl
      | false=>exact absurd (sLt_conn hs h2) hy
     exact sLt_trans this (h1 z hz)
   refine List.pairwise_cons.2 ⟨fun z hz=>?_,?_⟩
   ·rcases List.mem_append.1 hz with hz | hz
    ·split at hz
     ·cases hz
     ·rename_i hy
      rw [List.mem_singleton] at hz; subst hz
      cases h2:sLt s z with
      | true=>rfl
      | false=>exact absurd (sLt_conn hs h2) hy
    ·exact hsy z (List.mem_filter.1 hz).1
   ·have hf:SrtT (l.filter (fun x=>decide (x≠s))):=h'.sublist List.filter_sublist
    split
    ·exact hf
    ·exact List.pairwise_cons.2 ⟨fun z hz=>h1 z (List.mem_filter.1 hz).1,hf⟩
theorem rp_inc {m:Nat} (h:m≤1000000):w64 ((m:Int) + 1) = ((m + 1:Nat):Int):=by rw [w64_id (by omega) (by omega)]; omega
end Go.Proofs.YtcchplmcefamhaaGreat
