/-
  DERIVED. GIVEN WITH THE SEED: THE CARDS: each row of YtfondldmmcmloaaGreatDoorRows.lean that lists a variable, with what it lists TIED to the program's text (the seventh form; the later family's looks); each row that meets fmt, with fmt's text TOLD by the authors' own Lean function (tested against real Go, not proved from fmt's source: count such statements apart). THE CARD IS WHAT COUNTS. Prove the row's statement (the work); the ties are given (YtfondldmmcmloaaGreatDoorTie.lean); close each card by the builder's one call (the guide's Derived/Test/ToyasCard.lean, 'card_holds'). Laid BY PROGRAM, IN A SANDBOX (cutbox-door.mjs). By AI agents, Wed Nov 11 2026. No macro, syntax, notation, axiom, sorry.
-/
import Derived.Test.YtfondldmmcmloaaGreatDoorRows
import GoSem.ClaimSeven
namespace Go.Proofs.YtfondldmmcmloaaGreatDoor
namespace Rows

/-- THE TIED CARD OF 'entrepotlaw23.PvalidAsks'. -/
def pvalidAsksCard : Claim7 := { stood := { row := pvalidAsksRow, standIns := [], harness := (true, "0bd52cfcfef4258b9cf354836505c071e4bbd2fe73aa6c1dd444db1591c6e489"), looks := false }, kinds := [], alts := [], laidByText := true, laidKinds := [.data, .data, .pinned], laidTests := true, laidLooks := .later }
def PvalidAsksCardSaid : Prop := Claim7.holds Tryz.pinned (.plain (OpenSpec.ofChange pvalidAsksSpec)) pvalidAsksCard

/-- THE TIED CARD OF 'entrepotlaw23.PvalidNorms'. -/
def pvalidNormsCard : Claim7 := { stood := { row := pvalidNormsRow, standIns := [], harness := (true, "0bd52cfcfef4258b9cf354836505c071e4bbd2fe73aa6c1dd444db1591c6e489"), looks := false }, kinds := [], alts := [], laidByText := true, laidKinds := [.data, .data, .pinned], laidTests := true, laidLooks := .later }
def PvalidNormsCardSaid : Prop := Claim7.holds Tryz.pinned (.plain (OpenSpec.ofChange pvalidNormsSpec)) pvalidNormsCard

/-- THE TIED CARD OF 'entrepotlaw23.PvalidParts'. -/
def pvalidPartsCard : Claim7 := { stood := { row := pvalidPartsRow, standIns := [], harness := (true, "0bd52cfcfef4258b9cf354836505c071e4bbd2fe73aa6c1dd444db1591c6e489"), looks := false }, kinds := [], alts := [], laidByText := true, laidKinds := [.data, .data, .pinned], laidTests := true, laidLooks := .later }
def PvalidPartsCardSaid : Prop := Claim7.holds Tryz.pinned (.plain (OpenSpec.ofChange pvalidPartsSpec)) pvalidPartsCard

/-- THE SECOND FORM's CARD OF 'entrepotlaw23.PvalidAsks'. -/
def pvalidAsksUptoCard : Claim7 := { stood := { row := pvalidAsksUptoRow, standIns := [], harness := (true, "0bd52cfcfef4258b9cf354836505c071e4bbd2fe73aa6c1dd444db1591c6e489"), looks := false }, kinds := [], alts := [], laidByText := true, laidKinds := [.data, .data, .pinned], laidTests := true, laidLooks := .later }
def PvalidAsksUptoCardSaid : Prop := Claim7.holds Tryz.pinned (.plain (OpenSpec.upto pvalidAsksSpec)) pvalidAsksUptoCard

/-- THE SECOND FORM's CARD OF 'entrepotlaw23.PvalidNorms'. -/
def pvalidNormsUptoCard : Claim7 := { stood := { row := pvalidNormsUptoRow, standIns := [], harness := (true, "0bd52cfcfef4258b9cf354836505c071e4bbd2fe73aa6c1dd444db1591c6e489"), looks := false }, kinds := [], alts := [], laidByText := true, laidKinds := [.data, .data, .pinned], laidTests := true, laidLooks := .later }
def PvalidNormsUptoCardSaid : Prop := Claim7.holds Tryz.pinned (.plain (OpenSpec.upto pvalidNormsSpec)) pvalidNormsUptoCard

/-- THE SECOND FORM's CARD OF 'entrepotlaw23.PvalidParts'. -/
def pvalidPartsUptoCard : Claim7 := { stood := { row := pvalidPartsUptoRow, standIns := [], harness := (true, "0bd52cfcfef4258b9cf354836505c071e4bbd2fe73aa6c1dd444db1591c6e489"), looks := false }, kinds := [], alts := [], laidByText := true, laidKinds := [.data, .data, .pinned], laidTests := true, laidLooks := .later }
def PvalidPartsUptoCardSaid : Prop := Claim7.holds Tryz.pinned (.plain (OpenSpec.upto pvalidPartsSpec)) pvalidPartsUptoCard
end Rows
end Go.Proofs.YtfondldmmcmloaaGreatDoor
