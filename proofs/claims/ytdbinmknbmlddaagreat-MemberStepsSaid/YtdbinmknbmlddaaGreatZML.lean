/- Plain: the document's example of layer 9. -/
import Derived.Test.YtdbinmknbmlddaaGreatZWalks1
import Derived.Test.YtdbinmknbmlddaaGreatConA3
import Derived.Test.YtdbinmknbmlddaaGreatConV
set_option linter.all false
set_option maxRecDepth 10000
namespace Go.Proofs.YtdbinmknbmlddaaGreat
open Go Go.Sp Go.Sort
theorem srtF_id {α : Type} {cf : α → α → Int} (hO : SWO (ltOf cf)) (hT : ∀ x y, ltOf cf x y = false → ltOf cf y x = false → x = y) {xs : List α} (h : xs.Pairwise (fun x y => ltOf cf y x = false)) : srtF cf xs = xs :=
  perm_unique (fun x y h1 h2 => hT x y h2 h1) (srtF_p xs) (srtF_pw hO xs) h
theorem srtS_one (x : ByteArray) : srtS [x] = [x] := List.perm_singleton.1 (srtS_perm [x])
def rmL : ByteArray := ⟨#[33, 114, 58, 115]⟩
def usL : ByteArray := ⟨#[64, 97, 58, 115]⟩
def eA : Event := ⟨⟨#[36, 97]⟩, rmL, [], ⟨#[]⟩, usL, 1⟩
def eB : Event := ⟨⟨#[36, 98]⟩, rmL, [⟨#[36, 97]⟩], ⟨#[]⟩, usL, 2⟩
def eC : Event := ⟨⟨#[36, 99]⟩, rmL, [⟨#[36, 98]⟩], ⟨#[]⟩, usL, 1⟩
def dA : DDag := ⟨rmL, [(⟨#[36, 97]⟩, ⟨eA, 0, false⟩)]⟩
def dB : DDag := ⟨rmL, [(⟨#[36, 97]⟩, ⟨eA, 0, true⟩), (⟨#[36, 98]⟩, ⟨eB, 1, false⟩)]⟩
def dC : DDag := ⟨rmL, [(⟨#[36, 97]⟩, ⟨eA, 0, true⟩), (⟨#[36, 98]⟩, ⟨eB, 1, true⟩), (⟨#[36, 99]⟩, ⟨eC, 2, false⟩)]⟩
theorem idsB : dag_Dag_ids_All.f dB = some [⟨#[36, 97]⟩, ⟨#[36, 98]⟩] := by
  have e : dB.fnodes.filterMap dag_Dag_ids_All.g = [⟨0, ⟨#[36, 97]⟩⟩, ⟨1, ⟨#[36, 98]⟩⟩] := rfl
  unfold dag_Dag_ids_All.f
  rw [e, srtF_id posC_swo posC_tot]
  · rfl
  · refine List.pairwise_cons.2 ⟨fun y hy => ?_, List.pairwise_singleton _ _⟩
    rw [List.mem_singleton] at hy; subst hy
    kernel_rfl
theorem idsC : dag_Dag_ids_All.f dC = some [⟨#[36, 97]⟩, ⟨#[36, 98]⟩, ⟨#[36, 99]⟩] := by
  have e : dC.fnodes.filterMap dag_Dag_ids_All.g = [⟨0, ⟨#[36, 97]⟩⟩, ⟨1, ⟨#[36, 98]⟩⟩, ⟨2, ⟨#[36, 99]⟩⟩] := rfl
  unfold dag_Dag_ids_All.f
  rw [e, srtF_id posC_swo posC_tot]
  · rfl
  · refine List.pairwise_cons.2 ⟨fun y hy => ?_, List.pairwise_cons.2 ⟨fun y hy => ?_, List.pairwise_singleton _ _⟩⟩
    · rcases List.mem_cons.1 hy with rfl | hy
      · kernel_rfl
      · rw [List.mem_singleton] at hy; subst hy; kernel_rfl
    · rw [List.mem_singleton] at hy; subst hy; kernel_rfl
theorem lives_ev : Ev (fun k => concourselaw09_lives.f k) true := by
  have hB : Ev (fun k => member_joined.f k dB) [] := Ev.add 40 fun m => by
    unfold member_joined.f dag_Dag_All.f; rw [idsB]; kernel_rfl
  have hC : Ev (fun k => member_joined.f k dC) [(usL, 1)] := Ev.add 40 fun m => by
    unfold member_joined.f dag_Dag_All.f; rw [idsC]; kernel_rfl
  have hU : Ev (fun k => member_Users.f k dC) [usL] := by
    unfold member_Users.f
    refine Ev.bind hC (Ev.grd (by decide) (Ev.of ?_))
    exact congrArg some (srtS_one usL)
  have hH : Ev (fun k => member_Homes.f k [usL]) [⟨#[115]⟩] := by
    unfold member_Homes.f
    refine Ev.bind (a := (1, false, [⟨#[115]⟩])) (Ev.add 40 fun m => by kernel_rfl) (Ev.bind (a := [⟨#[115]⟩]) ?_ (Ev.bind (a := [⟨#[115]⟩]) ?_ Ev.pure))
    · exact Ev.grd (by decide) (Ev.of (congrArg some (srtS_one _)))
    · exact Ev.grd (by decide) (Ev.of (by kernel_rfl))
  unfold concourselaw09_lives.f
  refine Ev.bind (Ev.of rfl) (Ev.bind (a := (0, dA)) (Ev.add 40 fun m => by kernel_rfl) (Ev.bind (a := (0, dB)) (Ev.add 40 fun m => by kernel_rfl) (Ev.bind (a := false) ?_ (Ev.bind (a := (0, dC)) (Ev.add 40 fun m => by kernel_rfl) (Ev.ct rfl (Ev.bind (a := true) ?_ (Ev.ct rfl (Ev.bind (a := true) ?_ Ev.pure))))))))
  · unfold member_Joined.f; exact Ev.bind hB (Ev.of rfl)
  · unfold member_Joined.f; exact Ev.bind hC (Ev.of (by kernel_rfl))
  · unfold member_In.f member_Servers.f
    exact Ev.bind (Ev.bind hU (Ev.bind hH Ev.pure)) (Ev.bind (Ev.add 40 fun m => by kernel_rfl) Ev.pure)
end Go.Proofs.YtdbinmknbmlddaaGreat
