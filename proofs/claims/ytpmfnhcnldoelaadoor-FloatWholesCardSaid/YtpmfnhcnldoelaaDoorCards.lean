/-
  DERIVED. GIVEN WITH THE SEED: THE CARDS: each row of YtpmfnhcnldoelaaDoorRows.lean that lists a variable, with what it lists TIED to the program's text (the seventh form; the later family's looks); each row that meets fmt, with fmt's text TOLD by the authors' own Lean function (tested against real Go, not proved from fmt's source: count such statements apart). THE CARD IS WHAT COUNTS. Prove the row's statement (the work); the ties are given (YtpmfnhcnldoelaaDoorTie.lean); close each card by the builder's one call (the guide's Derived/Test/ToyasCard.lean, 'card_holds'). Laid BY PROGRAM, IN A SANDBOX (cutbox-door.mjs). By AI agents, Wed Nov 11 2026. No macro, syntax, notation, axiom, sorry.
-/
import Derived.Test.YtpmfnhcnldoelaaDoorRows
import GoSem.ClaimSeven
namespace Go.Proofs.YtpmfnhcnldoelaaDoor
namespace Rows

/-- THE TIED CARD OF 'entrepotlaw3.FloatKinds'. -/
def floatKindsCard : Claim7 := { stood := { row := floatKindsRow, standIns := [], harness := (true, "5095f9f9fba57c83ab2ac16508a37aa5f2af9f2f571407f7a95ba6874d55ffcd"), looks := false }, kinds := [], alts := [], laidByText := true, laidKinds := [.data], laidTests := true, laidLooks := .later }
def FloatKindsCardSaid : Prop := Claim7.holds Tryd.pinned (.plain (OpenSpec.ofChange floatKindsSpec)) floatKindsCard

/-- THE TIED CARD OF 'entrepotlaw3.FloatWidths'. -/
def floatWidthsCard : Claim7 := { stood := { row := floatWidthsRow, standIns := [], harness := (true, "5095f9f9fba57c83ab2ac16508a37aa5f2af9f2f571407f7a95ba6874d55ffcd"), looks := false }, kinds := [], alts := [], laidByText := true, laidKinds := [.data], laidTests := true, laidLooks := .later }
def FloatWidthsCardSaid : Prop := Claim7.holds Tryd.pinned (.plain (OpenSpec.ofChange floatWidthsSpec)) floatWidthsCard

/-- THE TIED CARD OF 'entrepotlaw3.FloatBack'. -/
def floatBackCard : Claim7 := { stood := { row := floatBackRow, standIns := [], harness := (true, "5095f9f9fba57c83ab2ac16508a37aa5f2af9f2f571407f7a95ba6874d55ffcd"), looks := false }, kinds := [], alts := [], laidByText := true, laidKinds := [.data], laidTests := true, laidLooks := .later }
def FloatBackCardSaid : Prop := Claim7.holds Tryd.pinned (.plain (OpenSpec.ofChange floatBackSpec)) floatBackCard

/-- THE TIED CARD OF 'entrepotlaw3.FloatSigns'. -/
def floatSignsCard : Claim7 := { stood := { row := floatSignsRow, standIns := [], harness := (true, "5095f9f9fba57c83ab2ac16508a37aa5f2af9f2f571407f7a95ba6874d55ffcd"), looks := false }, kinds := [], alts := [], laidByText := true, laidKinds := [.data], laidTests := true, laidLooks := .later }
def FloatSignsCardSaid : Prop := Claim7.holds Tryd.pinned (.plain (OpenSpec.ofChange floatSignsSpec)) floatSignsCard

/-- THE TIED CARD OF 'entrepotlaw3.FloatPowers'. -/
def floatPowersCard : Claim7 := { stood := { row := floatPowersRow, standIns := [], harness := (true, "5095f9f9fba57c83ab2ac16508a37aa5f2af9f2f571407f7a95ba6874d55ffcd"), looks := false }, kinds := [], alts := [], laidByText := true, laidKinds := [.data], laidTests := true, laidLooks := .later }
def FloatPowersCardSaid : Prop := Claim7.holds Tryd.pinned (.plain (OpenSpec.ofChange floatPowersSpec)) floatPowersCard

/-- THE TIED CARD OF 'entrepotlaw3.FloatHalves'. -/
def floatHalvesCard : Claim7 := { stood := { row := floatHalvesRow, standIns := [], harness := (true, "5095f9f9fba57c83ab2ac16508a37aa5f2af9f2f571407f7a95ba6874d55ffcd"), looks := false }, kinds := [], alts := [], laidByText := true, laidKinds := [.data], laidTests := true, laidLooks := .later }
def FloatHalvesCardSaid : Prop := Claim7.holds Tryd.pinned (.plain (OpenSpec.ofChange floatHalvesSpec)) floatHalvesCard

/-- THE TIED CARD OF 'entrepotlaw3.FloatNaNs'. -/
def floatNaNsCard : Claim7 := { stood := { row := floatNaNsRow, standIns := [], harness := (true, "5095f9f9fba57c83ab2ac16508a37aa5f2af9f2f571407f7a95ba6874d55ffcd"), looks := false }, kinds := [], alts := [], laidByText := true, laidKinds := [.data], laidTests := true, laidLooks := .later }
def FloatNaNsCardSaid : Prop := Claim7.holds Tryd.pinned (.plain (OpenSpec.ofChange floatNaNsSpec)) floatNaNsCard

/-- THE TIED CARD OF 'entrepotlaw3.FloatWholes'. -/
def floatWholesCard : Claim7 := { stood := { row := floatWholesRow, standIns := [], harness := (true, "5095f9f9fba57c83ab2ac16508a37aa5f2af9f2f571407f7a95ba6874d55ffcd"), looks := false }, kinds := [], alts := [], laidByText := true, laidKinds := [.data], laidTests := true, laidLooks := .later }
def FloatWholesCardSaid : Prop := Claim7.holds Tryd.pinned (.plain (OpenSpec.ofChange floatWholesSpec)) floatWholesCard

/-- THE SECOND FORM's CARD OF 'entrepotlaw3.FloatKinds'. -/
def floatKindsUptoCard : Claim7 := { stood := { row := floatKindsUptoRow, standIns := [], harness := (true, "5095f9f9fba57c83ab2ac16508a37aa5f2af9f2f571407f7a95ba6874d55ffcd"), looks := false }, kinds := [], alts := [], laidByText := true, laidKinds := [.data], laidTests := true, laidLooks := .later }
def FloatKindsUptoCardSaid : Prop := Claim7.holds Tryd.pinned (.plain (OpenSpec.upto floatKindsSpec)) floatKindsUptoCard

/-- THE SECOND FORM's CARD OF 'entrepotlaw3.FloatWidths'. -/
def floatWidthsUptoCard : Claim7 := { stood := { row := floatWidthsUptoRow, standIns := [], harness := (true, "5095f9f9fba57c83ab2ac16508a37aa5f2af9f2f571407f7a95ba6874d55ffcd"), looks := false }, kinds := [], alts := [], laidByText := true, laidKinds := [.data], laidTests := true, laidLooks := .later }
def FloatWidthsUptoCardSaid : Prop := Claim7.holds Tryd.pinned (.plain (OpenSpec.upto floatWidthsSpec)) floatWidthsUptoCard

/-- THE SECOND FORM's CARD OF 'entrepotlaw3.FloatBack'. -/
def floatBackUptoCard : Claim7 := { stood := { row := floatBackUptoRow, standIns := [], harness := (true, "5095f9f9fba57c83ab2ac16508a37aa5f2af9f2f571407f7a95ba6874d55ffcd"), looks := false }, kinds := [], alts := [], laidByText := true, laidKinds := [.data], laidTests := true, laidLooks := .later }
def FloatBackUptoCardSaid : Prop := Claim7.holds Tryd.pinned (.plain (OpenSpec.upto floatBackSpec)) floatBackUptoCard

/-- THE SECOND FORM's CARD OF 'entrepotlaw3.FloatSigns'. -/
def floatSignsUptoCard : Claim7 := { stood := { row := floatSignsUptoRow, standIns := [], harness := (true, "5095f9f9fba57c83ab2ac16508a37aa5f2af9f2f571407f7a95ba6874d55ffcd"), looks := false }, kinds := [], alts := [], laidByText := true, laidKinds := [.data], laidTests := true, laidLooks := .later }
def FloatSignsUptoCardSaid : Prop := Claim7.holds Tryd.pinned (.plain (OpenSpec.upto floatSignsSpec)) floatSignsUptoCard

/-- THE SECOND FORM's CARD OF 'entrepotlaw3.FloatPowers'. -/
def floatPowersUptoCard : Claim7 := { stood := { row := floatPowersUptoRow, standIns := [], harness := (true, "5095f9f9fba57c83ab2ac16508a37aa5f2af9f2f571407f7a95ba6874d55ffcd"), looks := false }, kinds := [], alts := [], laidByText := true, laidKinds := [.data], laidTests := true, laidLooks := .later }
def FloatPowersUptoCardSaid : Prop := Claim7.holds Tryd.pinned (.plain (OpenSpec.upto floatPowersSpec)) floatPowersUptoCard

/-- THE SECOND FORM's CARD OF 'entrepotlaw3.FloatHalves'. -/
def floatHalvesUptoCard : Claim7 := { stood := { row := floatHalvesUptoRow, standIns := [], harness := (true, "5095f9f9fba57c83ab2ac16508a37aa5f2af9f2f571407f7a95ba6874d55ffcd"), looks := false }, kinds := [], alts := [], laidByText := true, laidKinds := [.data], laidTests := true, laidLooks := .later }
def FloatHalvesUptoCardSaid : Prop := Claim7.holds Tryd.pinned (.plain (OpenSpec.upto floatHalvesSpec)) floatHalvesUptoCard

/-- THE SECOND FORM's CARD OF 'entrepotlaw3.FloatNaNs'. -/
def floatNaNsUptoCard : Claim7 := { stood := { row := floatNaNsUptoRow, standIns := [], harness := (true, "5095f9f9fba57c83ab2ac16508a37aa5f2af9f2f571407f7a95ba6874d55ffcd"), looks := false }, kinds := [], alts := [], laidByText := true, laidKinds := [.data], laidTests := true, laidLooks := .later }
def FloatNaNsUptoCardSaid : Prop := Claim7.holds Tryd.pinned (.plain (OpenSpec.upto floatNaNsSpec)) floatNaNsUptoCard

/-- THE SECOND FORM's CARD OF 'entrepotlaw3.FloatWholes'. -/
def floatWholesUptoCard : Claim7 := { stood := { row := floatWholesUptoRow, standIns := [], harness := (true, "5095f9f9fba57c83ab2ac16508a37aa5f2af9f2f571407f7a95ba6874d55ffcd"), looks := false }, kinds := [], alts := [], laidByText := true, laidKinds := [.data], laidTests := true, laidLooks := .later }
def FloatWholesUptoCardSaid : Prop := Claim7.holds Tryd.pinned (.plain (OpenSpec.upto floatWholesSpec)) floatWholesUptoCard
end Rows
end Go.Proofs.YtpmfnhcnldoelaaDoor
