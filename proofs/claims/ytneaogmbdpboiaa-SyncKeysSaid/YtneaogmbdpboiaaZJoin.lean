/- strings.Join, as our walks want it. -/
import Derived.Test.YtneaogmbdpboiaaConH
import Derived.Test.YtneaogmbdpboiaaZShelf
set_option linter.all false
namespace Go.Proofs.Ytneaogmbdpboiaa
open Go Go.Sp
def strings_Join.f (xs : List ByteArray) (sep : ByteArray) : Option ByteArray :=
  grd (xs.length ≤ 140737488355328 ∧ (Lib.join (xs.map (·.data.toList)) sep.data.toList).length ≤ 140737488355328) (some ⟨(Lib.join (xs.map (·.data.toList)) sep.data.toList).toArray⟩)
theorem strings_Join.c {xs : List ByteArray} {sep r : ByteArray} (h : strings_Join.f xs sep = some r) : Pt Try.prog 15 [sl strK xs, eq (.string sep)] (eq (.string r)) := Pt.of_below fun R F w us hu hs => by
  obtain ⟨⟨h1, h2⟩, H⟩ := Gets.grd (Gets.of h)
  obtain rfl := Gets.out H
  cases hu with
  | cons ha hu => cases hu with
    | cons hb hu =>
      cases hu
      simp only [eq_p] at hb
      subst hb
      rcases strs_cells ha hs with ⟨a, c, rfl, rfl⟩ | ⟨b, off, c, rfl, hl, hlt, hc⟩
      · exact ⟨_, rfl, (Try.strings_Join_none a c sep w).mono fun e w' ⟨he, hw⟩ => ⟨he, hw ▸ Go.RowKit.Below.refl _ _⟩⟩
      · exact ⟨_, rfl, Try.strings_Join b off c xs sep w hc hlt h1 hl h2⟩
end Go.Proofs.Ytneaogmbdpboiaa
