/-
  DERIVED. GIVEN WITH THE SEED: THE CARDS: each row of YtbmeejfpaeggjaaDoorRows.lean that lists a variable, with what it lists TIED to the program's text (the seventh form; the later family's looks); each row that meets fmt, with fmt's text TOLD by the authors' own Lean function (tested against real Go, not proved from fmt's source: count such statements apart). THE CARD IS WHAT COUNTS. Prove the row's statement (the work); the ties are given (YtbmeejfpaeggjaaDoorTie.lean); close each card by the builder's one call (the guide's Derived/Test/ToyasCard.lean, 'card_holds'). Laid BY PROGRAM, IN A SANDBOX (cutbox-door.mjs). By AI agents, Wed Nov 11 2026. No macro, syntax, notation, axiom, sorry.
-/
import Derived.Test.YtbmeejfpaeggjaaDoorRows
import GoSem.ClaimSeven
namespace Go.Proofs.YtbmeejfpaeggjaaDoor
namespace Rows

/-- THE TIED CARD OF 'entrepotlaw1.NatDivs'. -/
def natDivsCard : Claim7 := { stood := { row := natDivsRow, standIns := [], harness := (true, "62cbb814d31acde1876cfc2b5f7dbac6285926c1b034187272a3f7b153a4d2bc"), looks := false }, kinds := [], alts := [], laidByText := true, laidKinds := [.data, .data, .data], laidTests := true, laidLooks := .later }
def NatDivsCardSaid : Prop := Claim7.holds Tryd.pinned (.plain (OpenSpec.ofChange natDivsSpec)) natDivsCard

/-- THE TIED CARD OF 'entrepotlaw1.NatTexts'. -/
def natTextsCard : Claim7 := { stood := { row := natTextsRow, standIns := [], harness := (true, "62cbb814d31acde1876cfc2b5f7dbac6285926c1b034187272a3f7b153a4d2bc"), looks := false }, kinds := [], alts := [], laidByText := true, laidKinds := [.data, .data, .data], laidTests := true, laidLooks := .later }
def NatTextsCardSaid : Prop := Claim7.holds Tryd.pinned (.plain (OpenSpec.ofChange natTextsSpec)) natTextsCard

/-- THE TIED CARD OF 'entrepotlaw1.NatPowers'. -/
def natPowersCard : Claim7 := { stood := { row := natPowersRow, standIns := [], harness := (true, "62cbb814d31acde1876cfc2b5f7dbac6285926c1b034187272a3f7b153a4d2bc"), looks := false }, kinds := [], alts := [], laidByText := true, laidKinds := [.data, .data, .data], laidTests := true, laidLooks := .later }
def NatPowersCardSaid : Prop := Claim7.holds Tryd.pinned (.plain (OpenSpec.ofChange natPowersSpec)) natPowersCard

/-- THE TIED CARD OF 'entrepotlaw1.NatTimes'. -/
def natTimesCard : Claim7 := { stood := { row := natTimesRow, standIns := [], harness := (true, "62cbb814d31acde1876cfc2b5f7dbac6285926c1b034187272a3f7b153a4d2bc"), looks := false }, kinds := [], alts := [], laidByText := true, laidKinds := [.data, .data, .data], laidTests := true, laidLooks := .later }
def NatTimesCardSaid : Prop := Claim7.holds Tryd.pinned (.plain (OpenSpec.ofChange natTimesSpec)) natTimesCard

/-- THE TIED CARD OF 'entrepotlaw1.NatEnds'. -/
def natEndsCard : Claim7 := { stood := { row := natEndsRow, standIns := [], harness := (true, "62cbb814d31acde1876cfc2b5f7dbac6285926c1b034187272a3f7b153a4d2bc"), looks := false }, kinds := [], alts := [], laidByText := true, laidKinds := [.data, .data, .data], laidTests := true, laidLooks := .later }
def NatEndsCardSaid : Prop := Claim7.holds Tryd.pinned (.plain (OpenSpec.ofChange natEndsSpec)) natEndsCard

/-- THE TIED CARD OF 'entrepotlaw1.NatSums'. -/
def natSumsCard : Claim7 := { stood := { row := natSumsRow, standIns := [], harness := (true, "62cbb814d31acde1876cfc2b5f7dbac6285926c1b034187272a3f7b153a4d2bc"), looks := false }, kinds := [], alts := [], laidByText := true, laidKinds := [.data, .data, .data], laidTests := true, laidLooks := .later }
def NatSumsCardSaid : Prop := Claim7.holds Tryd.pinned (.plain (OpenSpec.ofChange natSumsSpec)) natSumsCard

/-- THE TIED CARD OF 'entrepotlaw1.NatBits'. -/
def natBitsCard : Claim7 := { stood := { row := natBitsRow, standIns := [], harness := (true, "62cbb814d31acde1876cfc2b5f7dbac6285926c1b034187272a3f7b153a4d2bc"), looks := false }, kinds := [], alts := [], laidByText := true, laidKinds := [.data, .data, .data], laidTests := true, laidLooks := .later }
def NatBitsCardSaid : Prop := Claim7.holds Tryd.pinned (.plain (OpenSpec.ofChange natBitsSpec)) natBitsCard

/-- THE TIED CARD OF 'entrepotlaw1.NatLaws'. -/
def natLawsCard : Claim7 := { stood := { row := natLawsRow, standIns := [], harness := (true, "62cbb814d31acde1876cfc2b5f7dbac6285926c1b034187272a3f7b153a4d2bc"), looks := false }, kinds := [], alts := [], laidByText := true, laidKinds := [.data, .data, .data], laidTests := true, laidLooks := .later }
def NatLawsCardSaid : Prop := Claim7.holds Tryd.pinned (.plain (OpenSpec.ofChange natLawsSpec)) natLawsCard

/-- THE SECOND FORM's CARD OF 'entrepotlaw1.NatDivs'. -/
def natDivsUptoCard : Claim7 := { stood := { row := natDivsUptoRow, standIns := [], harness := (true, "62cbb814d31acde1876cfc2b5f7dbac6285926c1b034187272a3f7b153a4d2bc"), looks := false }, kinds := [], alts := [], laidByText := true, laidKinds := [.data, .data, .data], laidTests := true, laidLooks := .later }
def NatDivsUptoCardSaid : Prop := Claim7.holds Tryd.pinned (.plain (OpenSpec.upto natDivsSpec)) natDivsUptoCard

/-- THE SECOND FORM's CARD OF 'entrepotlaw1.NatTexts'. -/
def natTextsUptoCard : Claim7 := { stood := { row := natTextsUptoRow, standIns := [], harness := (true, "62cbb814d31acde1876cfc2b5f7dbac6285926c1b034187272a3f7b153a4d2bc"), looks := false }, kinds := [], alts := [], laidByText := true, laidKinds := [.data, .data, .data], laidTests := true, laidLooks := .later }
def NatTextsUptoCardSaid : Prop := Claim7.holds Tryd.pinned (.plain (OpenSpec.upto natTextsSpec)) natTextsUptoCard

/-- THE SECOND FORM's CARD OF 'entrepotlaw1.NatPowers'. -/
def natPowersUptoCard : Claim7 := { stood := { row := natPowersUptoRow, standIns := [], harness := (true, "62cbb814d31acde1876cfc2b5f7dbac6285926c1b034187272a3f7b153a4d2bc"), looks := false }, kinds := [], alts := [], laidByText := true, laidKinds := [.data, .data, .data], laidTests := true, laidLooks := .later }
def NatPowersUptoCardSaid : Prop := Claim7.holds Tryd.pinned (.plain (OpenSpec.upto natPowersSpec)) natPowersUptoCard

/-- THE SECOND FORM's CARD OF 'entrepotlaw1.NatTimes'. -/
def natTimesUptoCard : Claim7 := { stood := { row := natTimesUptoRow, standIns := [], harness := (true, "62cbb814d31acde1876cfc2b5f7dbac6285926c1b034187272a3f7b153a4d2bc"), looks := false }, kinds := [], alts := [], laidByText := true, laidKinds := [.data, .data, .data], laidTests := true, laidLooks := .later }
def NatTimesUptoCardSaid : Prop := Claim7.holds Tryd.pinned (.plain (OpenSpec.upto natTimesSpec)) natTimesUptoCard

/-- THE SECOND FORM's CARD OF 'entrepotlaw1.NatEnds'. -/
def natEndsUptoCard : Claim7 := { stood := { row := natEndsUptoRow, standIns := [], harness := (true, "62cbb814d31acde1876cfc2b5f7dbac6285926c1b034187272a3f7b153a4d2bc"), looks := false }, kinds := [], alts := [], laidByText := true, laidKinds := [.data, .data, .data], laidTests := true, laidLooks := .later }
def NatEndsUptoCardSaid : Prop := Claim7.holds Tryd.pinned (.plain (OpenSpec.upto natEndsSpec)) natEndsUptoCard

/-- THE SECOND FORM's CARD OF 'entrepotlaw1.NatSums'. -/
def natSumsUptoCard : Claim7 := { stood := { row := natSumsUptoRow, standIns := [], harness := (true, "62cbb814d31acde1876cfc2b5f7dbac6285926c1b034187272a3f7b153a4d2bc"), looks := false }, kinds := [], alts := [], laidByText := true, laidKinds := [.data, .data, .data], laidTests := true, laidLooks := .later }
def NatSumsUptoCardSaid : Prop := Claim7.holds Tryd.pinned (.plain (OpenSpec.upto natSumsSpec)) natSumsUptoCard

/-- THE SECOND FORM's CARD OF 'entrepotlaw1.NatBits'. -/
def natBitsUptoCard : Claim7 := { stood := { row := natBitsUptoRow, standIns := [], harness := (true, "62cbb814d31acde1876cfc2b5f7dbac6285926c1b034187272a3f7b153a4d2bc"), looks := false }, kinds := [], alts := [], laidByText := true, laidKinds := [.data, .data, .data], laidTests := true, laidLooks := .later }
def NatBitsUptoCardSaid : Prop := Claim7.holds Tryd.pinned (.plain (OpenSpec.upto natBitsSpec)) natBitsUptoCard

/-- THE SECOND FORM's CARD OF 'entrepotlaw1.NatLaws'. -/
def natLawsUptoCard : Claim7 := { stood := { row := natLawsUptoRow, standIns := [], harness := (true, "62cbb814d31acde1876cfc2b5f7dbac6285926c1b034187272a3f7b153a4d2bc"), looks := false }, kinds := [], alts := [], laidByText := true, laidKinds := [.data, .data, .data], laidTests := true, laidLooks := .later }
def NatLawsUptoCardSaid : Prop := Claim7.holds Tryd.pinned (.plain (OpenSpec.upto natLawsSpec)) natLawsUptoCard
end Rows
end Go.Proofs.YtbmeejfpaeggjaaDoor
