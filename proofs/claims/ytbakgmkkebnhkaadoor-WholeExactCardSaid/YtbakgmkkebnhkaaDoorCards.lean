/-
  DERIVED. GIVEN WITH THE SEED: THE CARDS: each row of YtbakgmkkebnhkaaDoorRows.lean that lists a variable, with what it lists TIED to the program's text (the seventh form; the later family's looks); each row that meets fmt, with fmt's text TOLD by the authors' own Lean function (tested against real Go, not proved from fmt's source: count such statements apart). THE CARD IS WHAT COUNTS. Prove the row's statement (the work); the ties are given (YtbakgmkkebnhkaaDoorTie.lean); close each card by the builder's one call (the guide's Derived/Test/ToyasCard.lean, 'card_holds'). Laid BY PROGRAM, IN A SANDBOX (cutbox-door.mjs). By AI agents, Wed Nov 11 2026. No macro, syntax, notation, axiom, sorry.
-/
import Derived.Test.YtbakgmkkebnhkaaDoorRows
import GoSem.ClaimSeven
namespace Go.Proofs.YtbakgmkkebnhkaaDoor
namespace Rows

/-- THE TIED CARD OF 'entrepotlaw2.WholeTexts'. -/
def wholeTextsCard : Claim7 := { stood := { row := wholeTextsRow, standIns := [], harness := (true, "994b8aab6950df1ddeba613028f0cebae8bf66a52df3085dc72a51024259b3e9"), looks := false }, kinds := [], alts := [], laidByText := true, laidKinds := [.data, .data, .data], laidTests := true, laidLooks := .later }
def WholeTextsCardSaid : Prop := Claim7.holds Tryd.pinned (.plain (OpenSpec.ofChange wholeTextsSpec)) wholeTextsCard

/-- THE TIED CARD OF 'entrepotlaw2.WholePowers'. -/
def wholePowersCard : Claim7 := { stood := { row := wholePowersRow, standIns := [], harness := (true, "994b8aab6950df1ddeba613028f0cebae8bf66a52df3085dc72a51024259b3e9"), looks := false }, kinds := [], alts := [], laidByText := true, laidKinds := [.data, .data, .data], laidTests := true, laidLooks := .later }
def WholePowersCardSaid : Prop := Claim7.holds Tryd.pinned (.plain (OpenSpec.ofChange wholePowersSpec)) wholePowersCard

/-- THE TIED CARD OF 'entrepotlaw2.WholeChain'. -/
def wholeChainCard : Claim7 := { stood := { row := wholeChainRow, standIns := [], harness := (true, "994b8aab6950df1ddeba613028f0cebae8bf66a52df3085dc72a51024259b3e9"), looks := false }, kinds := [], alts := [], laidByText := true, laidKinds := [.data, .data, .data], laidTests := true, laidLooks := .later }
def WholeChainCardSaid : Prop := Claim7.holds Tryd.pinned (.plain (OpenSpec.ofChange wholeChainSpec)) wholeChainCard

/-- THE TIED CARD OF 'entrepotlaw2.WholeBits'. -/
def wholeBitsCard : Claim7 := { stood := { row := wholeBitsRow, standIns := [], harness := (true, "994b8aab6950df1ddeba613028f0cebae8bf66a52df3085dc72a51024259b3e9"), looks := false }, kinds := [], alts := [], laidByText := true, laidKinds := [.data, .data, .data], laidTests := true, laidLooks := .later }
def WholeBitsCardSaid : Prop := Claim7.holds Tryd.pinned (.plain (OpenSpec.ofChange wholeBitsSpec)) wholeBitsCard

/-- THE TIED CARD OF 'entrepotlaw2.WholeSteps'. -/
def wholeStepsCard : Claim7 := { stood := { row := wholeStepsRow, standIns := [], harness := (true, "994b8aab6950df1ddeba613028f0cebae8bf66a52df3085dc72a51024259b3e9"), looks := false }, kinds := [], alts := [], laidByText := true, laidKinds := [.data, .data, .data], laidTests := true, laidLooks := .later }
def WholeStepsCardSaid : Prop := Claim7.holds Tryd.pinned (.plain (OpenSpec.ofChange wholeStepsSpec)) wholeStepsCard

/-- THE TIED CARD OF 'entrepotlaw2.WholeExact'. -/
def wholeExactCard : Claim7 := { stood := { row := wholeExactRow, standIns := [], harness := (true, "994b8aab6950df1ddeba613028f0cebae8bf66a52df3085dc72a51024259b3e9"), looks := false }, kinds := [], alts := [], laidByText := true, laidKinds := [.data, .data, .data], laidTests := true, laidLooks := .later }
def WholeExactCardSaid : Prop := Claim7.holds Tryd.pinned (.plain (OpenSpec.ofChange wholeExactSpec)) wholeExactCard

/-- THE TIED CARD OF 'entrepotlaw2.WholeNear'. -/
def wholeNearCard : Claim7 := { stood := { row := wholeNearRow, standIns := [], harness := (true, "994b8aab6950df1ddeba613028f0cebae8bf66a52df3085dc72a51024259b3e9"), looks := false }, kinds := [], alts := [], laidByText := true, laidKinds := [.data, .data, .data], laidTests := true, laidLooks := .later }
def WholeNearCardSaid : Prop := Claim7.holds Tryd.pinned (.plain (OpenSpec.ofChange wholeNearSpec)) wholeNearCard

/-- THE TIED CARD OF 'entrepotlaw2.WholeNumbers'. -/
def wholeNumbersCard : Claim7 := { stood := { row := wholeNumbersRow, standIns := [], harness := (true, "994b8aab6950df1ddeba613028f0cebae8bf66a52df3085dc72a51024259b3e9"), looks := false }, kinds := [], alts := [], laidByText := true, laidKinds := [.data, .data, .data], laidTests := true, laidLooks := .later }
def WholeNumbersCardSaid : Prop := Claim7.holds Tryd.pinned (.plain (OpenSpec.ofChange wholeNumbersSpec)) wholeNumbersCard

/-- THE SECOND FORM's CARD OF 'entrepotlaw2.WholeTexts'. -/
def wholeTextsUptoCard : Claim7 := { stood := { row := wholeTextsUptoRow, standIns := [], harness := (true, "994b8aab6950df1ddeba613028f0cebae8bf66a52df3085dc72a51024259b3e9"), looks := false }, kinds := [], alts := [], laidByText := true, laidKinds := [.data, .data, .data], laidTests := true, laidLooks := .later }
def WholeTextsUptoCardSaid : Prop := Claim7.holds Tryd.pinned (.plain (OpenSpec.upto wholeTextsSpec)) wholeTextsUptoCard

/-- THE SECOND FORM's CARD OF 'entrepotlaw2.WholePowers'. -/
def wholePowersUptoCard : Claim7 := { stood := { row := wholePowersUptoRow, standIns := [], harness := (true, "994b8aab6950df1ddeba613028f0cebae8bf66a52df3085dc72a51024259b3e9"), looks := false }, kinds := [], alts := [], laidByText := true, laidKinds := [.data, .data, .data], laidTests := true, laidLooks := .later }
def WholePowersUptoCardSaid : Prop := Claim7.holds Tryd.pinned (.plain (OpenSpec.upto wholePowersSpec)) wholePowersUptoCard

/-- THE SECOND FORM's CARD OF 'entrepotlaw2.WholeChain'. -/
def wholeChainUptoCard : Claim7 := { stood := { row := wholeChainUptoRow, standIns := [], harness := (true, "994b8aab6950df1ddeba613028f0cebae8bf66a52df3085dc72a51024259b3e9"), looks := false }, kinds := [], alts := [], laidByText := true, laidKinds := [.data, .data, .data], laidTests := true, laidLooks := .later }
def WholeChainUptoCardSaid : Prop := Claim7.holds Tryd.pinned (.plain (OpenSpec.upto wholeChainSpec)) wholeChainUptoCard

/-- THE SECOND FORM's CARD OF 'entrepotlaw2.WholeBits'. -/
def wholeBitsUptoCard : Claim7 := { stood := { row := wholeBitsUptoRow, standIns := [], harness := (true, "994b8aab6950df1ddeba613028f0cebae8bf66a52df3085dc72a51024259b3e9"), looks := false }, kinds := [], alts := [], laidByText := true, laidKinds := [.data, .data, .data], laidTests := true, laidLooks := .later }
def WholeBitsUptoCardSaid : Prop := Claim7.holds Tryd.pinned (.plain (OpenSpec.upto wholeBitsSpec)) wholeBitsUptoCard

/-- THE SECOND FORM's CARD OF 'entrepotlaw2.WholeSteps'. -/
def wholeStepsUptoCard : Claim7 := { stood := { row := wholeStepsUptoRow, standIns := [], harness := (true, "994b8aab6950df1ddeba613028f0cebae8bf66a52df3085dc72a51024259b3e9"), looks := false }, kinds := [], alts := [], laidByText := true, laidKinds := [.data, .data, .data], laidTests := true, laidLooks := .later }
def WholeStepsUptoCardSaid : Prop := Claim7.holds Tryd.pinned (.plain (OpenSpec.upto wholeStepsSpec)) wholeStepsUptoCard

/-- THE SECOND FORM's CARD OF 'entrepotlaw2.WholeExact'. -/
def wholeExactUptoCard : Claim7 := { stood := { row := wholeExactUptoRow, standIns := [], harness := (true, "994b8aab6950df1ddeba613028f0cebae8bf66a52df3085dc72a51024259b3e9"), looks := false }, kinds := [], alts := [], laidByText := true, laidKinds := [.data, .data, .data], laidTests := true, laidLooks := .later }
def WholeExactUptoCardSaid : Prop := Claim7.holds Tryd.pinned (.plain (OpenSpec.upto wholeExactSpec)) wholeExactUptoCard

/-- THE SECOND FORM's CARD OF 'entrepotlaw2.WholeNear'. -/
def wholeNearUptoCard : Claim7 := { stood := { row := wholeNearUptoRow, standIns := [], harness := (true, "994b8aab6950df1ddeba613028f0cebae8bf66a52df3085dc72a51024259b3e9"), looks := false }, kinds := [], alts := [], laidByText := true, laidKinds := [.data, .data, .data], laidTests := true, laidLooks := .later }
def WholeNearUptoCardSaid : Prop := Claim7.holds Tryd.pinned (.plain (OpenSpec.upto wholeNearSpec)) wholeNearUptoCard

/-- THE SECOND FORM's CARD OF 'entrepotlaw2.WholeNumbers'. -/
def wholeNumbersUptoCard : Claim7 := { stood := { row := wholeNumbersUptoRow, standIns := [], harness := (true, "994b8aab6950df1ddeba613028f0cebae8bf66a52df3085dc72a51024259b3e9"), looks := false }, kinds := [], alts := [], laidByText := true, laidKinds := [.data, .data, .data], laidTests := true, laidLooks := .later }
def WholeNumbersUptoCardSaid : Prop := Claim7.holds Tryd.pinned (.plain (OpenSpec.upto wholeNumbersSpec)) wholeNumbersUptoCard
end Rows
end Go.Proofs.YtbakgmkkebnhkaaDoor
