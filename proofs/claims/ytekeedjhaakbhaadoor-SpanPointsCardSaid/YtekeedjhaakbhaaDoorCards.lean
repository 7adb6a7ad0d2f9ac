/-
  DERIVED. GIVEN WITH THE SEED: THE CARDS: each row of YtekeedjhaakbhaaDoorRows.lean that lists a variable, with what it lists TIED to the program's text (the seventh form; the later family's looks); each row that meets fmt, with fmt's text TOLD by the authors' own Lean function (tested against real Go, not proved from fmt's source: count such statements apart). THE CARD IS WHAT COUNTS. Prove the row's statement (the work); the ties are given (YtekeedjhaakbhaaDoorTie.lean); close each card by the builder's one call (the guide's Derived/Test/ToyasCard.lean, 'card_holds'). Laid BY PROGRAM, IN A SANDBOX (cutbox-door.mjs). By AI agents, Wed Nov 11 2026. No macro, syntax, notation, axiom, sorry.
-/
import Derived.Test.YtekeedjhaakbhaaDoorRows
import GoSem.ClaimSeven
namespace Go.Proofs.YtekeedjhaakbhaaDoor
namespace Rows

/-- THE TIED CARD OF 'entrepotlaw9.SpanForms'. -/
def spanFormsCard : Claim7 := { stood := { row := spanFormsRow, standIns := [], harness := (true, "105ac15e6e7df3021e1604400753aea0b0d94cf77d2832f86705d4b35d7e5450"), looks := false }, kinds := [], alts := [], laidByText := true, laidKinds := [.data], laidTests := true, laidLooks := .later }
def SpanFormsCardSaid : Prop := Claim7.holds Tryd.pinned (.plain (OpenSpec.ofChange spanFormsSpec)) spanFormsCard

/-- THE TIED CARD OF 'entrepotlaw9.SpanPoints'. -/
def spanPointsCard : Claim7 := { stood := { row := spanPointsRow, standIns := [], harness := (true, "105ac15e6e7df3021e1604400753aea0b0d94cf77d2832f86705d4b35d7e5450"), looks := false }, kinds := [], alts := [], laidByText := true, laidKinds := [.data], laidTests := true, laidLooks := .later }
def SpanPointsCardSaid : Prop := Claim7.holds Tryd.pinned (.plain (OpenSpec.ofChange spanPointsSpec)) spanPointsCard

/-- THE TIED CARD OF 'entrepotlaw9.SpanSets'. -/
def spanSetsCard : Claim7 := { stood := { row := spanSetsRow, standIns := [], harness := (true, "105ac15e6e7df3021e1604400753aea0b0d94cf77d2832f86705d4b35d7e5450"), looks := false }, kinds := [], alts := [], laidByText := true, laidKinds := [.data], laidTests := true, laidLooks := .later }
def SpanSetsCardSaid : Prop := Claim7.holds Tryd.pinned (.plain (OpenSpec.ofChange spanSetsSpec)) spanSetsCard

/-- THE TIED CARD OF 'entrepotlaw9.SpanLaws'. -/
def spanLawsCard : Claim7 := { stood := { row := spanLawsRow, standIns := [], harness := (true, "105ac15e6e7df3021e1604400753aea0b0d94cf77d2832f86705d4b35d7e5450"), looks := false }, kinds := [], alts := [], laidByText := true, laidKinds := [.data], laidTests := true, laidLooks := .later }
def SpanLawsCardSaid : Prop := Claim7.holds Tryd.pinned (.plain (OpenSpec.ofChange spanLawsSpec)) spanLawsCard

/-- THE TIED CARD OF 'entrepotlaw9.SpanHas'. -/
def spanHasCard : Claim7 := { stood := { row := spanHasRow, standIns := [], harness := (true, "105ac15e6e7df3021e1604400753aea0b0d94cf77d2832f86705d4b35d7e5450"), looks := false }, kinds := [], alts := [], laidByText := true, laidKinds := [.data], laidTests := true, laidLooks := .later }
def SpanHasCardSaid : Prop := Claim7.holds Tryd.pinned (.plain (OpenSpec.ofChange spanHasSpec)) spanHasCard

/-- THE SECOND FORM's CARD OF 'entrepotlaw9.SpanForms'. -/
def spanFormsUptoCard : Claim7 := { stood := { row := spanFormsUptoRow, standIns := [], harness := (true, "105ac15e6e7df3021e1604400753aea0b0d94cf77d2832f86705d4b35d7e5450"), looks := false }, kinds := [], alts := [], laidByText := true, laidKinds := [.data], laidTests := true, laidLooks := .later }
def SpanFormsUptoCardSaid : Prop := Claim7.holds Tryd.pinned (.plain (OpenSpec.upto spanFormsSpec)) spanFormsUptoCard

/-- THE SECOND FORM's CARD OF 'entrepotlaw9.SpanPoints'. -/
def spanPointsUptoCard : Claim7 := { stood := { row := spanPointsUptoRow, standIns := [], harness := (true, "105ac15e6e7df3021e1604400753aea0b0d94cf77d2832f86705d4b35d7e5450"), looks := false }, kinds := [], alts := [], laidByText := true, laidKinds := [.data], laidTests := true, laidLooks := .later }
def SpanPointsUptoCardSaid : Prop := Claim7.holds Tryd.pinned (.plain (OpenSpec.upto spanPointsSpec)) spanPointsUptoCard

/-- THE SECOND FORM's CARD OF 'entrepotlaw9.SpanSets'. -/
def spanSetsUptoCard : Claim7 := { stood := { row := spanSetsUptoRow, standIns := [], harness := (true, "105ac15e6e7df3021e1604400753aea0b0d94cf77d2832f86705d4b35d7e5450"), looks := false }, kinds := [], alts := [], laidByText := true, laidKinds := [.data], laidTests := true, laidLooks := .later }
def SpanSetsUptoCardSaid : Prop := Claim7.holds Tryd.pinned (.plain (OpenSpec.upto spanSetsSpec)) spanSetsUptoCard

/-- THE SECOND FORM's CARD OF 'entrepotlaw9.SpanLaws'. -/
def spanLawsUptoCard : Claim7 := { stood := { row := spanLawsUptoRow, standIns := [], harness := (true, "105ac15e6e7df3021e1604400753aea0b0d94cf77d2832f86705d4b35d7e5450"), looks := false }, kinds := [], alts := [], laidByText := true, laidKinds := [.data], laidTests := true, laidLooks := .later }
def SpanLawsUptoCardSaid : Prop := Claim7.holds Tryd.pinned (.plain (OpenSpec.upto spanLawsSpec)) spanLawsUptoCard

/-- THE SECOND FORM's CARD OF 'entrepotlaw9.SpanHas'. -/
def spanHasUptoCard : Claim7 := { stood := { row := spanHasUptoRow, standIns := [], harness := (true, "105ac15e6e7df3021e1604400753aea0b0d94cf77d2832f86705d4b35d7e5450"), looks := false }, kinds := [], alts := [], laidByText := true, laidKinds := [.data], laidTests := true, laidLooks := .later }
def SpanHasUptoCardSaid : Prop := Claim7.holds Tryd.pinned (.plain (OpenSpec.upto spanHasSpec)) spanHasUptoCard
end Rows
end Go.Proofs.YtekeedjhaakbhaaDoor
