/-
  DERIVED. GIVEN WITH THE SEED: THE CARDS: each row of YtfknmdelgepbjaaGreatDoorRows.lean that lists a variable, with what it lists TIED to the program's text (the seventh form; the later family's looks); each row that meets fmt, with fmt's text TOLD by the authors' own Lean function (tested against real Go, not proved from fmt's source: count such statements apart). THE CARD IS WHAT COUNTS. Prove the row's statement (the work); the ties are given (YtfknmdelgepbjaaGreatDoorTie.lean); close each card by the builder's one call (the guide's Derived/Test/ToyasCard.lean, 'card_holds'). Laid BY PROGRAM, IN A SANDBOX (cutbox-door.mjs). By AI agents, Wed Nov 11 2026. No macro, syntax, notation, axiom, sorry.
-/
import Derived.Test.YtfknmdelgepbjaaGreatDoorRows
import GoSem.ClaimSeven
namespace Go.Proofs.YtfknmdelgepbjaaGreatDoor
namespace Rows

/-- THE TIED CARD OF 'concourselaw21.SyncMakes'. -/
def syncMakesCard : Claim7 := { stood := { row := syncMakesRow, standIns := [], harness := (true, "f45694f1cc62f08cd2854a34bf8f78a3ddeb0c9bd712b7f6a62994e0668ffc0a"), looks := true }, kinds := [], alts := [], laidByText := true, laidKinds := [.data, .pinned], laidTests := true, laidLooks := .later }
def SyncMakesCardSaid : Prop := Claim7.holds Tryz.pinned (.plain (OpenSpec.ofChange syncMakesSpec)) syncMakesCard

/-- THE TIED CARD OF 'concourselaw21.SyncSteps'. -/
def syncStepsCard : Claim7 := { stood := { row := syncStepsRow, standIns := [], harness := (true, "f45694f1cc62f08cd2854a34bf8f78a3ddeb0c9bd712b7f6a62994e0668ffc0a"), looks := true }, kinds := [], alts := [], laidByText := true, laidKinds := [.data, .pinned], laidTests := true, laidLooks := .later }
def SyncStepsCardSaid : Prop := Claim7.holds Tryz.pinned (.plain (OpenSpec.ofChange syncStepsSpec)) syncStepsCard

/-- THE TIED CARD OF 'concourselaw21.SyncSees'. -/
def syncSeesCard : Claim7 := { stood := { row := syncSeesRow, standIns := [], harness := (true, "f45694f1cc62f08cd2854a34bf8f78a3ddeb0c9bd712b7f6a62994e0668ffc0a"), looks := true }, kinds := [], alts := [], laidByText := true, laidKinds := [.data, .pinned], laidTests := true, laidLooks := .later }
def SyncSeesCardSaid : Prop := Claim7.holds Tryz.pinned (.plain (OpenSpec.ofChange syncSeesSpec)) syncSeesCard

/-- THE TIED CARD OF 'concourselaw21.SyncSecret'. -/
def syncSecretCard : Claim7 := { stood := { row := syncSecretRow, standIns := [], harness := (true, "f45694f1cc62f08cd2854a34bf8f78a3ddeb0c9bd712b7f6a62994e0668ffc0a"), looks := true }, kinds := [], alts := [], laidByText := true, laidKinds := [.data, .pinned], laidTests := true, laidLooks := .later }
def SyncSecretCardSaid : Prop := Claim7.holds Tryz.pinned (.plain (OpenSpec.ofChange syncSecretSpec)) syncSecretCard

/-- THE TIED CARD OF 'concourselaw21.SyncSame'. -/
def syncSameCard : Claim7 := { stood := { row := syncSameRow, standIns := [], harness := (true, "f45694f1cc62f08cd2854a34bf8f78a3ddeb0c9bd712b7f6a62994e0668ffc0a"), looks := true }, kinds := [], alts := [], laidByText := true, laidKinds := [.data, .pinned], laidTests := true, laidLooks := .later }
def SyncSameCardSaid : Prop := Claim7.holds Tryz.pinned (.plain (OpenSpec.ofChange syncSameSpec)) syncSameCard

/-- THE SECOND FORM's CARD OF 'concourselaw21.SyncMakes'. -/
def syncMakesUptoCard : Claim7 := { stood := { row := syncMakesUptoRow, standIns := [], harness := (true, "f45694f1cc62f08cd2854a34bf8f78a3ddeb0c9bd712b7f6a62994e0668ffc0a"), looks := true }, kinds := [], alts := [], laidByText := true, laidKinds := [.data, .pinned], laidTests := true, laidLooks := .later }
def SyncMakesUptoCardSaid : Prop := Claim7.holds Tryz.pinned (.plain (OpenSpec.upto syncMakesSpec)) syncMakesUptoCard

/-- THE SECOND FORM's CARD OF 'concourselaw21.SyncSteps'. -/
def syncStepsUptoCard : Claim7 := { stood := { row := syncStepsUptoRow, standIns := [], harness := (true, "f45694f1cc62f08cd2854a34bf8f78a3ddeb0c9bd712b7f6a62994e0668ffc0a"), looks := true }, kinds := [], alts := [], laidByText := true, laidKinds := [.data, .pinned], laidTests := true, laidLooks := .later }
def SyncStepsUptoCardSaid : Prop := Claim7.holds Tryz.pinned (.plain (OpenSpec.upto syncStepsSpec)) syncStepsUptoCard

/-- THE SECOND FORM's CARD OF 'concourselaw21.SyncSees'. -/
def syncSeesUptoCard : Claim7 := { stood := { row := syncSeesUptoRow, standIns := [], harness := (true, "f45694f1cc62f08cd2854a34bf8f78a3ddeb0c9bd712b7f6a62994e0668ffc0a"), looks := true }, kinds := [], alts := [], laidByText := true, laidKinds := [.data, .pinned], laidTests := true, laidLooks := .later }
def SyncSeesUptoCardSaid : Prop := Claim7.holds Tryz.pinned (.plain (OpenSpec.upto syncSeesSpec)) syncSeesUptoCard

/-- THE SECOND FORM's CARD OF 'concourselaw21.SyncSecret'. -/
def syncSecretUptoCard : Claim7 := { stood := { row := syncSecretUptoRow, standIns := [], harness := (true, "f45694f1cc62f08cd2854a34bf8f78a3ddeb0c9bd712b7f6a62994e0668ffc0a"), looks := true }, kinds := [], alts := [], laidByText := true, laidKinds := [.data, .pinned], laidTests := true, laidLooks := .later }
def SyncSecretUptoCardSaid : Prop := Claim7.holds Tryz.pinned (.plain (OpenSpec.upto syncSecretSpec)) syncSecretUptoCard

/-- THE SECOND FORM's CARD OF 'concourselaw21.SyncSame'. -/
def syncSameUptoCard : Claim7 := { stood := { row := syncSameUptoRow, standIns := [], harness := (true, "f45694f1cc62f08cd2854a34bf8f78a3ddeb0c9bd712b7f6a62994e0668ffc0a"), looks := true }, kinds := [], alts := [], laidByText := true, laidKinds := [.data, .pinned], laidTests := true, laidLooks := .later }
def SyncSameUptoCardSaid : Prop := Claim7.holds Tryz.pinned (.plain (OpenSpec.upto syncSameSpec)) syncSameUptoCard
end Rows
end Go.Proofs.YtfknmdelgepbjaaGreatDoor
