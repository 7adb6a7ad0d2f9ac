/-
  DERIVED. GIVEN WITH THE SEED: THE CARDS: each row of YtekeedjhaakbhaaGreatDoorRows.lean that lists a variable, with what it lists TIED to the program's text (the seventh form; the later family's looks); each row that meets fmt, with fmt's text TOLD by the authors' own Lean function (tested against real Go, not proved from fmt's source: count such statements apart). THE CARD IS WHAT COUNTS. Prove the row's statement (the work); the ties are given (YtekeedjhaakbhaaGreatDoorTie.lean); close each card by the builder's one call (the guide's Derived/Test/ToyasCard.lean, 'card_holds'). Laid BY PROGRAM, IN A SANDBOX (cutbox-door.mjs). By AI agents, Wed Nov 11 2026. No macro, syntax, notation, axiom, sorry.
-/
import Derived.Test.YtekeedjhaakbhaaGreatDoorRows
import GoSem.ClaimSeven
namespace Go.Proofs.YtekeedjhaakbhaaGreatDoor
namespace Rows

/-- THE TIED CARD OF 'entrepotlaw9.SpanPicks'. -/
def spanPicksCard : Claim7 := { stood := { row := spanPicksRow, standIns := [], harness := (true, "4679fe3f6fe64971a8e70f17d8a5edb827ea04a6f90599be03e4278d2ead37a4"), looks := false }, kinds := [], alts := [], laidByText := true, laidKinds := [.data], laidTests := true, laidLooks := .later }
def SpanPicksCardSaid : Prop := Claim7.holds Tryz.pinned (.plain (OpenSpec.ofChange spanPicksSpec)) spanPicksCard

/-- THE SECOND FORM's CARD OF 'entrepotlaw9.SpanPicks'. -/
def spanPicksUptoCard : Claim7 := { stood := { row := spanPicksUptoRow, standIns := [], harness := (true, "4679fe3f6fe64971a8e70f17d8a5edb827ea04a6f90599be03e4278d2ead37a4"), looks := false }, kinds := [], alts := [], laidByText := true, laidKinds := [.data], laidTests := true, laidLooks := .later }
def SpanPicksUptoCardSaid : Prop := Claim7.holds Tryz.pinned (.plain (OpenSpec.upto spanPicksSpec)) spanPicksUptoCard
end Rows
end Go.Proofs.YtekeedjhaakbhaaGreatDoor
