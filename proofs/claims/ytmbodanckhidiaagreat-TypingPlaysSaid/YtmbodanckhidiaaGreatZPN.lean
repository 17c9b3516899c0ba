/- Plain: what names may be. -/
import Derived.Test.YtmbodanckhidiaaGreatZPA
set_option linter.all false
set_option maxRecDepth 10000
namespace Go.Proofs.YtmbodanckhidiaaGreat
open Go Go.Sp
theorem room1 : ∀ r ∈ rooms, ∀ m, name_Room.f (m + 20) r = some true := by
  intro r hr m
  simp only [rooms, List.mem_cons, List.not_mem_nil, or_false] at hr
  rcases hr with rfl | rfl <;> kernel_rfl
theorem room2 : ∀ r ∈ rooms, ∀ m, concourseref01_Named.f (m + 20) r 33 = some true := by
  intro r hr m
  simp only [rooms, List.mem_cons, List.not_mem_nil, or_false] at hr
  rcases hr with rfl | rfl <;> kernel_rfl
theorem user1 : ∀ r ∈ users, ∀ m, name_User.f (m + 20) r = some true := by
  intro r hr m
  simp only [users, List.mem_cons, List.not_mem_nil, or_false] at hr
  rcases hr with rfl | rfl | rfl | rfl | rfl | rfl | rfl | rfl | rfl <;> kernel_rfl
theorem user2 : ∀ r ∈ users, ∀ m, concourseref01_Named.f (m + 20) r 64 = some true := by
  intro r hr m
  simp only [users, List.mem_cons, List.not_mem_nil, or_false] at hr
  rcases hr with rfl | rfl | rfl | rfl | rfl | rfl | rfl | rfl | rfl <;> kernel_rfl
theorem event0 (m : Nat) : concourseref01_Event.f (m + 20) ⟨#[]⟩ = some false := by kernel_rfl
theorem thread0 (m : Nat) : concourseref01_Thread.f (m + 20) ⟨#[]⟩ = some true := by kernel_rfl
end Go.Proofs.YtmbodanckhidiaaGreat
