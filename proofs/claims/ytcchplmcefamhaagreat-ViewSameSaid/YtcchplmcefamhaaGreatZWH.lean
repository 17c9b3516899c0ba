import Derived.Test.YtcchplmcefamhaaGreatZVH
set_option linter.all false
set_option maxRecDepth 10000
namespace Go.Proofs.YtcchplmcefamhaaGreat
open Go Go.Sp
theorem build_ev2 {a b:List GMade} (ha:a.length≤maxLen∧∀ x∈a,GMade.ok x) (hb:b.length≤maxLen∧∀ x∈b,GMade.ok x):
  ∃ v w A B,Ev (fun k=>w10_build.f k a b) (some v,w)∧RelV v w∧w.fD.length≤18∧MI roomR A∧Chain roomR A∧MI roomQ B∧Chain roomQ B∧ofR w roomR = ⟨roomR,A⟩∧ofR w roomQ = ⟨roomQ,B⟩∧(∀ r,r≠roomR→r≠roomQ→ofR w r = ⟨r,[]⟩)∧Ev (fun k=>r10_Made.f k a b) (A++B):=by
 have r0:r01_RoomOf.f 0 = some roomR:=rfl
 have r1:r01_RoomOf.f 1 = some roomQ:=rfl
 obtain ⟨A,a1,a2,a3⟩:=made_ev (room:=roomR) (List.mem_of_getElem? (i:=0) rfl) ha.1 ha.2
 obtain ⟨B,b1,b2,b3⟩:=made_ev (room:=roomQ) (List.mem_of_getElem? (i:=1) rfl) hb.1 hb.2
 have la:=a2.len
 have lb:=b2.len
 have hne:roomQ≠roomR:=by decide
 have hm:Ev (fun k=>r10_Made.f k a b) (A++B):=by
  unfold r10_Made.f
  refine Ev.bind (Ev.of r0) (Ev.bind a1 (Ev.grd ⟨by simp; omega,by simp; omega⟩ (Ev.bind (Ev.of r1) (Ev.bind b1 (Ev.grd ⟨by simp; omega,by simp; omega⟩ (Ev.of (by simp)))))))
 obtain ⟨v1,w1,c1,c2,c3,c4,c5⟩:=runs_chain a3 (by omega) _ 0 rfl (by omega) ⟨[]⟩ ⟨[]⟩ relV_new (by simp) (by simp [ofR])
 obtain ⟨v2,w2,d1,d2,d3,d4,d5⟩:=runs_chain b3 (by omega) _ 0 rfl (by omega) v1 w1 c2 (by simp at c3; omega) (by rw [c5 _ hne]; simp [ofR])
 have hrun:Runs ⟨[]⟩ ⟨[]⟩ ((A++B).drop 0) v2 w2:=c1.app d1
 obtain ⟨e1,e2⟩:=build1 (by simp; omega) _ 0 rfl (by omega) hrun
 refine ⟨v2,w2,A,B,?_,d2,by simp at c3; omega,a2,a3,b2,b3,by rw [d5 _ hne.symm]; exact c4,d4,fun r h1 h2=>by rw [d5 r h2,c5 r h1]; simp [ofR],hm⟩
 unfold w10_build.f r10_Build.f
 refine Ev.bind hm (Ev.bind (Ev.of rfl) (Ev.bind e1.diag ?_))
 simp only [fall]
 exact Ev.bind (Ev.bind e2.diag Ev.pure) Ev.pure
end Go.Proofs.YtcchplmcefamhaaGreat
