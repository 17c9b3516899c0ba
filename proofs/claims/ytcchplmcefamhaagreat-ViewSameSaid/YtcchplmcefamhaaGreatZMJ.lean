import Derived.Test.YtcchplmcefamhaaGreatZMC
import Derived.Test.YtcchplmcefamhaaGreatZPU
import Derived.Test.YtcchplmcefamhaaGreatZVG
set_option linter.all false
set_option maxRecDepth 10000
namespace Go.Proofs.YtcchplmcefamhaaGreat
open Go Go.Sp
structure RG (L:List Event):Prop where
 good:Good L
 par:∀ e∈L,e.fParents.length≤4
 does:∀ e∈L,e.fDoes = 0∨e.fDoes = 1∨e.fDoes = 2
 usr:∀ e∈L,e.fUser.size≤maxLen
 len:L.length≤1000
theorem rt_of {m:DDag} {L:List Event} (h:RG L) (hT:T m = tb L):RT m (tb L):=
 ⟨hT,good_nd h.good,tb_id L,fun x hx=>h.par _ (by rw [← tb_evs L]; exact List.mem_map.2 ⟨x,hx,rfl⟩),by rw [tb_len]; exact h.len⟩
theorem before_ev (p q:Pos):r07_Before.f p q = some (ltOf posC p q):=by
 unfold r07_Before.f
 have h:=posC_lt p q
 by_cases h1:p.fDepth < q.fDepth
 ·rw [decide_eq_true h1,(h.2 (.inl h1))]; rfl
 ·rw [decide_eq_false h1]
  by_cases h2:p.fDepth = q.fDepth
  ·rw [show (p.fDepth == q.fDepth) = true by simp [h2]]
   show some (sLt p.fID q.fID) = _
   congr 1
   rw [Bool.eq_iff_iff,h]
   exact ⟨fun k=>.inr ⟨h2,k⟩,fun k=>k.elim (fun k=>absurd k h1) (·.2)⟩
  ·rw [show (p.fDepth == q.fDepth) = false by simp [h2]]
   show some false = _
   congr 1
   cases e:ltOf posC p q with
   | false=>rfl
   | true=>
        rcases h.1 e with k | k
        ·exact absurd k h1
        ·exact absurd k.1 h2
section
variable {d:RDag} (hg:RG d.fL)
include hg
theorem rpos_ev (id:ByteArray):Ev (fun k=>r07_Position.f k d id) (pos (tb d.fL) id):=
 pos_ev hg.good (by have:=hg.len; omega) (fun i hi=>by have:=hg.par _ (ev_mem hi); show _≤9223372036854775807; omega) id
end
section
variable {m:DDag} {L:List Event} (hg:RG L) (hT:T m = tb L)
include hg hT
end
end Go.Proofs.YtcchplmcefamhaaGreat
