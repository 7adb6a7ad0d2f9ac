/-
  DERIVED. GIVEN WITH THE SEED: THE CARDS: each row of YtfondldmmcmloaaDoorRows.lean that lists a variable, with what it lists TIED to the program's text (the seventh form; the later family's looks); each row that meets fmt, with fmt's text TOLD by the authors' own Lean function (tested against real Go, not proved from fmt's source: count such statements apart). THE CARD IS WHAT COUNTS. Prove the row's statement (the work); the ties are given (YtfondldmmcmloaaDoorTie.lean); close each card by the builder's one call (the guide's Derived/Test/ToyasCard.lean, 'card_holds'). Laid BY PROGRAM, IN A SANDBOX (cutbox-door.mjs). By AI agents, Wed Nov 11 2026. No macro, syntax, notation, axiom, sorry.
-/
import Derived.Test.YtfondldmmcmloaaDoorRows
import GoSem.ClaimSeven
namespace Go.Proofs.YtfondldmmcmloaaDoor
namespace Rows

/-- THE TIED CARD OF 'entrepotlaw23.PvalidNumbers'. -/
def pvalidNumbersCard : Claim7 := { stood := { row := pvalidNumbersRow, standIns := [], harness := (true, "c2394c0073532a32ec8c1bb90a75e9bce49e2bf7e86110090d4aaa3c8c9e9234"), looks := false }, kinds := [], alts := [], laidByText := true, laidKinds := [.data, .data, .pinned], laidTests := true, laidLooks := .later }
def PvalidNumbersCardSaid : Prop := Claim7.holds Tryd.pinned (.plain (OpenSpec.ofChange pvalidNumbersSpec)) pvalidNumbersCard

/-- THE TIED CARD OF 'entrepotlaw23.PvalidZeros'. -/
def pvalidZerosCard : Claim7 := { stood := { row := pvalidZerosRow, standIns := [], harness := (true, "c2394c0073532a32ec8c1bb90a75e9bce49e2bf7e86110090d4aaa3c8c9e9234"), looks := false }, kinds := [], alts := [], laidByText := true, laidKinds := [.data, .data, .pinned], laidTests := true, laidLooks := .later }
def PvalidZerosCardSaid : Prop := Claim7.holds Tryd.pinned (.plain (OpenSpec.ofChange pvalidZerosSpec)) pvalidZerosCard

/-- THE SECOND FORM's CARD OF 'entrepotlaw23.PvalidNumbers'. -/
def pvalidNumbersUptoCard : Claim7 := { stood := { row := pvalidNumbersUptoRow, standIns := [], harness := (true, "c2394c0073532a32ec8c1bb90a75e9bce49e2bf7e86110090d4aaa3c8c9e9234"), looks := false }, kinds := [], alts := [], laidByText := true, laidKinds := [.data, .data, .pinned], laidTests := true, laidLooks := .later }
def PvalidNumbersUptoCardSaid : Prop := Claim7.holds Tryd.pinned (.plain (OpenSpec.upto pvalidNumbersSpec)) pvalidNumbersUptoCard

/-- THE SECOND FORM's CARD OF 'entrepotlaw23.PvalidZeros'. -/
def pvalidZerosUptoCard : Claim7 := { stood := { row := pvalidZerosUptoRow, standIns := [], harness := (true, "c2394c0073532a32ec8c1bb90a75e9bce49e2bf7e86110090d4aaa3c8c9e9234"), looks := false }, kinds := [], alts := [], laidByText := true, laidKinds := [.data, .data, .pinned], laidTests := true, laidLooks := .later }
def PvalidZerosUptoCardSaid : Prop := Claim7.holds Tryd.pinned (.plain (OpenSpec.upto pvalidZerosSpec)) pvalidZerosUptoCard
end Rows
end Go.Proofs.YtfondldmmcmloaaDoor
