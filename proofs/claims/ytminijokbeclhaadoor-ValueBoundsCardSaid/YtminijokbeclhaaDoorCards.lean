/-
  DERIVED. GIVEN WITH THE SEED: THE CARDS: each row of YtminijokbeclhaaDoorRows.lean that lists a variable, with what it lists TIED to the program's text (the seventh form; the later family's looks); each row that meets fmt, with fmt's text TOLD by the authors' own Lean function (tested against real Go, not proved from fmt's source: count such statements apart). THE CARD IS WHAT COUNTS. Prove the row's statement (the work); the ties are given (YtminijokbeclhaaDoorTie.lean); close each card by the builder's one call (the guide's Derived/Test/ToyasCard.lean, 'card_holds'). Laid BY PROGRAM, IN A SANDBOX (cutbox-door.mjs). By AI agents, Wed Nov 11 2026. No macro, syntax, notation, axiom, sorry.
-/
import Derived.Test.YtminijokbeclhaaDoorRows
import GoSem.ClaimSeven
namespace Go.Proofs.YtminijokbeclhaaDoor
namespace Rows

/-- THE TIED CARD OF 'entrepotlaw6.ValueAsks'. -/
def valueAsksCard : Claim7 := { stood := { row := valueAsksRow, standIns := [], harness := (true, "2b9aa0bb5f402d69a3e70aabb1b4bc2eac05134e301788840fcae2147e38e7bf"), looks := false }, kinds := [], alts := [], laidByText := true, laidKinds := [.data, .data, .pinned], laidTests := true, laidLooks := .later }
def ValueAsksCardSaid : Prop := Claim7.holds Tryd.pinned (.plain (OpenSpec.ofChange valueAsksSpec)) valueAsksCard

/-- THE TIED CARD OF 'entrepotlaw6.ValueBounds'. -/
def valueBoundsCard : Claim7 := { stood := { row := valueBoundsRow, standIns := [], harness := (true, "2b9aa0bb5f402d69a3e70aabb1b4bc2eac05134e301788840fcae2147e38e7bf"), looks := false }, kinds := [], alts := [], laidByText := true, laidKinds := [.data, .data, .pinned], laidTests := true, laidLooks := .later }
def ValueBoundsCardSaid : Prop := Claim7.holds Tryd.pinned (.plain (OpenSpec.ofChange valueBoundsSpec)) valueBoundsCard

/-- THE TIED CARD OF 'entrepotlaw6.ValueWithin'. -/
def valueWithinCard : Claim7 := { stood := { row := valueWithinRow, standIns := [], harness := (true, "2b9aa0bb5f402d69a3e70aabb1b4bc2eac05134e301788840fcae2147e38e7bf"), looks := false }, kinds := [], alts := [], laidByText := true, laidKinds := [.data, .data, .pinned], laidTests := true, laidLooks := .later }
def ValueWithinCardSaid : Prop := Claim7.holds Tryd.pinned (.plain (OpenSpec.ofChange valueWithinSpec)) valueWithinCard

/-- THE TIED CARD OF 'entrepotlaw6.ValueCounts'. -/
def valueCountsCard : Claim7 := { stood := { row := valueCountsRow, standIns := [], harness := (true, "2b9aa0bb5f402d69a3e70aabb1b4bc2eac05134e301788840fcae2147e38e7bf"), looks := false }, kinds := [], alts := [], laidByText := true, laidKinds := [.data, .data, .pinned], laidTests := true, laidLooks := .later }
def ValueCountsCardSaid : Prop := Claim7.holds Tryd.pinned (.plain (OpenSpec.ofChange valueCountsSpec)) valueCountsCard

/-- THE TIED CARD OF 'entrepotlaw6.ValueNumbers'. -/
def valueNumbersCard : Claim7 := { stood := { row := valueNumbersRow, standIns := [], harness := (true, "2b9aa0bb5f402d69a3e70aabb1b4bc2eac05134e301788840fcae2147e38e7bf"), looks := false }, kinds := [], alts := [], laidByText := true, laidKinds := [.data, .data, .pinned], laidTests := true, laidLooks := .later }
def ValueNumbersCardSaid : Prop := Claim7.holds Tryd.pinned (.plain (OpenSpec.ofChange valueNumbersSpec)) valueNumbersCard

/-- THE TIED CARD OF 'entrepotlaw6.ValueGets'. -/
def valueGetsCard : Claim7 := { stood := { row := valueGetsRow, standIns := [], harness := (true, "2b9aa0bb5f402d69a3e70aabb1b4bc2eac05134e301788840fcae2147e38e7bf"), looks := false }, kinds := [], alts := [], laidByText := true, laidKinds := [.data, .data, .pinned], laidTests := true, laidLooks := .later }
def ValueGetsCardSaid : Prop := Claim7.holds Tryd.pinned (.plain (OpenSpec.ofChange valueGetsSpec)) valueGetsCard

/-- THE TIED CARD OF 'entrepotlaw6.ValueOrder'. -/
def valueOrderCard : Claim7 := { stood := { row := valueOrderRow, standIns := [], harness := (true, "2b9aa0bb5f402d69a3e70aabb1b4bc2eac05134e301788840fcae2147e38e7bf"), looks := false }, kinds := [], alts := [], laidByText := true, laidKinds := [.data, .data, .pinned], laidTests := true, laidLooks := .later }
def ValueOrderCardSaid : Prop := Claim7.holds Tryd.pinned (.plain (OpenSpec.ofChange valueOrderSpec)) valueOrderCard

/-- THE TIED CARD OF 'entrepotlaw6.ValueLess'. -/
def valueLessCard : Claim7 := { stood := { row := valueLessRow, standIns := [], harness := (true, "2b9aa0bb5f402d69a3e70aabb1b4bc2eac05134e301788840fcae2147e38e7bf"), looks := false }, kinds := [], alts := [], laidByText := true, laidKinds := [.data, .data, .pinned], laidTests := true, laidLooks := .later }
def ValueLessCardSaid : Prop := Claim7.holds Tryd.pinned (.plain (OpenSpec.ofChange valueLessSpec)) valueLessCard

/-- THE TIED CARD OF 'entrepotlaw6.ValueTurned'. -/
def valueTurnedCard : Claim7 := { stood := { row := valueTurnedRow, standIns := [], harness := (true, "2b9aa0bb5f402d69a3e70aabb1b4bc2eac05134e301788840fcae2147e38e7bf"), looks := false }, kinds := [], alts := [], laidByText := true, laidKinds := [.data, .data, .pinned], laidTests := true, laidLooks := .later }
def ValueTurnedCardSaid : Prop := Claim7.holds Tryd.pinned (.plain (OpenSpec.ofChange valueTurnedSpec)) valueTurnedCard

/-- THE SECOND FORM's CARD OF 'entrepotlaw6.ValueAsks'. -/
def valueAsksUptoCard : Claim7 := { stood := { row := valueAsksUptoRow, standIns := [], harness := (true, "2b9aa0bb5f402d69a3e70aabb1b4bc2eac05134e301788840fcae2147e38e7bf"), looks := false }, kinds := [], alts := [], laidByText := true, laidKinds := [.data, .data, .pinned], laidTests := true, laidLooks := .later }
def ValueAsksUptoCardSaid : Prop := Claim7.holds Tryd.pinned (.plain (OpenSpec.upto valueAsksSpec)) valueAsksUptoCard

/-- THE SECOND FORM's CARD OF 'entrepotlaw6.ValueBounds'. -/
def valueBoundsUptoCard : Claim7 := { stood := { row := valueBoundsUptoRow, standIns := [], harness := (true, "2b9aa0bb5f402d69a3e70aabb1b4bc2eac05134e301788840fcae2147e38e7bf"), looks := false }, kinds := [], alts := [], laidByText := true, laidKinds := [.data, .data, .pinned], laidTests := true, laidLooks := .later }
def ValueBoundsUptoCardSaid : Prop := Claim7.holds Tryd.pinned (.plain (OpenSpec.upto valueBoundsSpec)) valueBoundsUptoCard

/-- THE SECOND FORM's CARD OF 'entrepotlaw6.ValueWithin'. -/
def valueWithinUptoCard : Claim7 := { stood := { row := valueWithinUptoRow, standIns := [], harness := (true, "2b9aa0bb5f402d69a3e70aabb1b4bc2eac05134e301788840fcae2147e38e7bf"), looks := false }, kinds := [], alts := [], laidByText := true, laidKinds := [.data, .data, .pinned], laidTests := true, laidLooks := .later }
def ValueWithinUptoCardSaid : Prop := Claim7.holds Tryd.pinned (.plain (OpenSpec.upto valueWithinSpec)) valueWithinUptoCard

/-- THE SECOND FORM's CARD OF 'entrepotlaw6.ValueCounts'. -/
def valueCountsUptoCard : Claim7 := { stood := { row := valueCountsUptoRow, standIns := [], harness := (true, "2b9aa0bb5f402d69a3e70aabb1b4bc2eac05134e301788840fcae2147e38e7bf"), looks := false }, kinds := [], alts := [], laidByText := true, laidKinds := [.data, .data, .pinned], laidTests := true, laidLooks := .later }
def ValueCountsUptoCardSaid : Prop := Claim7.holds Tryd.pinned (.plain (OpenSpec.upto valueCountsSpec)) valueCountsUptoCard

/-- THE SECOND FORM's CARD OF 'entrepotlaw6.ValueNumbers'. -/
def valueNumbersUptoCard : Claim7 := { stood := { row := valueNumbersUptoRow, standIns := [], harness := (true, "2b9aa0bb5f402d69a3e70aabb1b4bc2eac05134e301788840fcae2147e38e7bf"), looks := false }, kinds := [], alts := [], laidByText := true, laidKinds := [.data, .data, .pinned], laidTests := true, laidLooks := .later }
def ValueNumbersUptoCardSaid : Prop := Claim7.holds Tryd.pinned (.plain (OpenSpec.upto valueNumbersSpec)) valueNumbersUptoCard

/-- THE SECOND FORM's CARD OF 'entrepotlaw6.ValueGets'. -/
def valueGetsUptoCard : Claim7 := { stood := { row := valueGetsUptoRow, standIns := [], harness := (true, "2b9aa0bb5f402d69a3e70aabb1b4bc2eac05134e301788840fcae2147e38e7bf"), looks := false }, kinds := [], alts := [], laidByText := true, laidKinds := [.data, .data, .pinned], laidTests := true, laidLooks := .later }
def ValueGetsUptoCardSaid : Prop := Claim7.holds Tryd.pinned (.plain (OpenSpec.upto valueGetsSpec)) valueGetsUptoCard

/-- THE SECOND FORM's CARD OF 'entrepotlaw6.ValueOrder'. -/
def valueOrderUptoCard : Claim7 := { stood := { row := valueOrderUptoRow, standIns := [], harness := (true, "2b9aa0bb5f402d69a3e70aabb1b4bc2eac05134e301788840fcae2147e38e7bf"), looks := false }, kinds := [], alts := [], laidByText := true, laidKinds := [.data, .data, .pinned], laidTests := true, laidLooks := .later }
def ValueOrderUptoCardSaid : Prop := Claim7.holds Tryd.pinned (.plain (OpenSpec.upto valueOrderSpec)) valueOrderUptoCard

/-- THE SECOND FORM's CARD OF 'entrepotlaw6.ValueLess'. -/
def valueLessUptoCard : Claim7 := { stood := { row := valueLessUptoRow, standIns := [], harness := (true, "2b9aa0bb5f402d69a3e70aabb1b4bc2eac05134e301788840fcae2147e38e7bf"), looks := false }, kinds := [], alts := [], laidByText := true, laidKinds := [.data, .data, .pinned], laidTests := true, laidLooks := .later }
def ValueLessUptoCardSaid : Prop := Claim7.holds Tryd.pinned (.plain (OpenSpec.upto valueLessSpec)) valueLessUptoCard

/-- THE SECOND FORM's CARD OF 'entrepotlaw6.ValueTurned'. -/
def valueTurnedUptoCard : Claim7 := { stood := { row := valueTurnedUptoRow, standIns := [], harness := (true, "2b9aa0bb5f402d69a3e70aabb1b4bc2eac05134e301788840fcae2147e38e7bf"), looks := false }, kinds := [], alts := [], laidByText := true, laidKinds := [.data, .data, .pinned], laidTests := true, laidLooks := .later }
def ValueTurnedUptoCardSaid : Prop := Claim7.holds Tryd.pinned (.plain (OpenSpec.upto valueTurnedSpec)) valueTurnedUptoCard
end Rows
end Go.Proofs.YtminijokbeclhaaDoor
