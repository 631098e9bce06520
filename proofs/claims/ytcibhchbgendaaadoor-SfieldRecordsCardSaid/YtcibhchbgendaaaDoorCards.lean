/-
  DERIVED. GIVEN WITH THE SEED: THE CARDS: each row of YtcibhchbgendaaaDoorRows.lean that lists a variable, with what it lists TIED to the program's text (the seventh form; the later family's looks); each row that meets fmt, with fmt's text TOLD by the authors' own Lean function (tested against real Go, not proved from fmt's source: count such statements apart). THE CARD IS WHAT COUNTS. Prove the row's statement (the work); the ties are given (YtcibhchbgendaaaDoorTie.lean); close each card by the builder's one call (the guide's Derived/Test/ToyasCard.lean, 'card_holds'). Laid BY PROGRAM, IN A SANDBOX (cutbox-door.mjs). By AI agents, Wed Nov 11 2026. No macro, syntax, notation, axiom, sorry.
-/
import Derived.Test.YtcibhchbgendaaaDoorRows
import GoSem.ClaimSeven
namespace Go.Proofs.YtcibhchbgendaaaDoor
namespace Rows

/-- THE TIED CARD OF 'vitrinelaw21.SfieldRest'. -/
def sfieldRestCard : Claim7 := { stood := { row := sfieldRestRow, standIns := [], harness := (true, "bac3acd21feed456133e9d0de277e0e7a26e2d6e568c7160bd9d8018b1d921f2"), looks := false }, kinds := [], alts := [], laidByText := true, laidKinds := [.data], laidTests := true, laidLooks := .later }
def SfieldRestCardSaid : Prop := Claim7.holds Tryd.pinned (.plain (OpenSpec.ofChange sfieldRestSpec)) sfieldRestCard

/-- THE TIED CARD OF 'vitrinelaw21.SfieldBytes'. -/
def sfieldBytesCard : Claim7 := { stood := { row := sfieldBytesRow, standIns := [], harness := (true, "bac3acd21feed456133e9d0de277e0e7a26e2d6e568c7160bd9d8018b1d921f2"), looks := false }, kinds := [], alts := [], laidByText := true, laidKinds := [.data], laidTests := true, laidLooks := .later }
def SfieldBytesCardSaid : Prop := Claim7.holds Tryd.pinned (.plain (OpenSpec.ofChange sfieldBytesSpec)) sfieldBytesCard

/-- THE TIED CARD OF 'vitrinelaw21.SfieldReads'. -/
def sfieldReadsCard : Claim7 := { stood := { row := sfieldReadsRow, standIns := [], harness := (true, "bac3acd21feed456133e9d0de277e0e7a26e2d6e568c7160bd9d8018b1d921f2"), looks := false }, kinds := [], alts := [], laidByText := true, laidKinds := [.data], laidTests := true, laidLooks := .later }
def SfieldReadsCardSaid : Prop := Claim7.holds Tryd.pinned (.plain (OpenSpec.ofChange sfieldReadsSpec)) sfieldReadsCard

/-- THE TIED CARD OF 'vitrinelaw21.SfieldActs'. -/
def sfieldActsCard : Claim7 := { stood := { row := sfieldActsRow, standIns := [], harness := (true, "bac3acd21feed456133e9d0de277e0e7a26e2d6e568c7160bd9d8018b1d921f2"), looks := false }, kinds := [], alts := [], laidByText := true, laidKinds := [.data, .data], laidTests := true, laidLooks := .later }
def SfieldActsCardSaid : Prop := Claim7.holds Tryd.pinned (.plain (OpenSpec.ofChange sfieldActsSpec)) sfieldActsCard

/-- THE TIED CARD OF 'vitrinelaw21.SfieldRecords'. -/
def sfieldRecordsCard : Claim7 := { stood := { row := sfieldRecordsRow, standIns := [], harness := (true, "bac3acd21feed456133e9d0de277e0e7a26e2d6e568c7160bd9d8018b1d921f2"), looks := false }, kinds := [], alts := [], laidByText := true, laidKinds := [.data], laidTests := true, laidLooks := .later }
def SfieldRecordsCardSaid : Prop := Claim7.holds Tryd.pinned (.plain (OpenSpec.ofChange sfieldRecordsSpec)) sfieldRecordsCard

/-- THE TIED CARD OF 'vitrinelaw02.ClassOf'. -/
def classOfCard : Claim7 := { stood := { row := classOfRow, standIns := [], harness := (true, "bac3acd21feed456133e9d0de277e0e7a26e2d6e568c7160bd9d8018b1d921f2"), looks := false }, kinds := [], alts := [], laidByText := true, laidKinds := [.data], laidTests := true, laidLooks := .later }
def ClassOfCardSaid : Prop := Claim7.holds Tryd.pinned (.plain (OpenSpec.ofChange classOfSpec)) classOfCard

/-- THE SECOND FORM's CARD OF 'vitrinelaw21.SfieldRest'. -/
def sfieldRestUptoCard : Claim7 := { stood := { row := sfieldRestUptoRow, standIns := [], harness := (true, "bac3acd21feed456133e9d0de277e0e7a26e2d6e568c7160bd9d8018b1d921f2"), looks := false }, kinds := [], alts := [], laidByText := true, laidKinds := [.data], laidTests := true, laidLooks := .later }
def SfieldRestUptoCardSaid : Prop := Claim7.holds Tryd.pinned (.plain (OpenSpec.upto sfieldRestSpec)) sfieldRestUptoCard

/-- THE SECOND FORM's CARD OF 'vitrinelaw21.SfieldBytes'. -/
def sfieldBytesUptoCard : Claim7 := { stood := { row := sfieldBytesUptoRow, standIns := [], harness := (true, "bac3acd21feed456133e9d0de277e0e7a26e2d6e568c7160bd9d8018b1d921f2"), looks := false }, kinds := [], alts := [], laidByText := true, laidKinds := [.data], laidTests := true, laidLooks := .later }
def SfieldBytesUptoCardSaid : Prop := Claim7.holds Tryd.pinned (.plain (OpenSpec.upto sfieldBytesSpec)) sfieldBytesUptoCard

/-- THE SECOND FORM's CARD OF 'vitrinelaw21.SfieldReads'. -/
def sfieldReadsUptoCard : Claim7 := { stood := { row := sfieldReadsUptoRow, standIns := [], harness := (true, "bac3acd21feed456133e9d0de277e0e7a26e2d6e568c7160bd9d8018b1d921f2"), looks := false }, kinds := [], alts := [], laidByText := true, laidKinds := [.data], laidTests := true, laidLooks := .later }
def SfieldReadsUptoCardSaid : Prop := Claim7.holds Tryd.pinned (.plain (OpenSpec.upto sfieldReadsSpec)) sfieldReadsUptoCard

/-- THE SECOND FORM's CARD OF 'vitrinelaw21.SfieldActs'. -/
def sfieldActsUptoCard : Claim7 := { stood := { row := sfieldActsUptoRow, standIns := [], harness := (true, "bac3acd21feed456133e9d0de277e0e7a26e2d6e568c7160bd9d8018b1d921f2"), looks := false }, kinds := [], alts := [], laidByText := true, laidKinds := [.data, .data], laidTests := true, laidLooks := .later }
def SfieldActsUptoCardSaid : Prop := Claim7.holds Tryd.pinned (.plain (OpenSpec.upto sfieldActsSpec)) sfieldActsUptoCard

/-- THE SECOND FORM's CARD OF 'vitrinelaw21.SfieldRecords'. -/
def sfieldRecordsUptoCard : Claim7 := { stood := { row := sfieldRecordsUptoRow, standIns := [], harness := (true, "bac3acd21feed456133e9d0de277e0e7a26e2d6e568c7160bd9d8018b1d921f2"), looks := false }, kinds := [], alts := [], laidByText := true, laidKinds := [.data], laidTests := true, laidLooks := .later }
def SfieldRecordsUptoCardSaid : Prop := Claim7.holds Tryd.pinned (.plain (OpenSpec.upto sfieldRecordsSpec)) sfieldRecordsUptoCard

/-- THE SECOND FORM's CARD OF 'vitrinelaw02.ClassOf'. -/
def classOfUptoCard : Claim7 := { stood := { row := classOfUptoRow, standIns := [], harness := (true, "bac3acd21feed456133e9d0de277e0e7a26e2d6e568c7160bd9d8018b1d921f2"), looks := false }, kinds := [], alts := [], laidByText := true, laidKinds := [.data], laidTests := true, laidLooks := .later }
def ClassOfUptoCardSaid : Prop := Claim7.holds Tryd.pinned (.plain (OpenSpec.upto classOfSpec)) classOfUptoCard
end Rows
end Go.Proofs.YtcibhchbgendaaaDoor
