/-
  NARROWER THAN 'FOR EVERY INPUT', by the rows' own cells (each row's printed sentence says how): ValueAsks: loops, laid · ValueBounds: laid · ValueWithin: loops, laid · ValueCounts: loops, laid · ValueNumbers: loops, laid · ValueGets: loops, laid · ValueOrder: loops, laid · ValueLess: loops, laid · ValueTurned: loops, laid.
  DERIVED. THE GIVEN ROWS OF THIS SEAT. 9 by the template 'for every input the law returns true; each argument reads behind the call as it read before'; 0 by the template 'total and deterministic' (their statements: YtminijokbeclhaaDoorTotals.lean).
  GIVEN WITH THE SEED: the statements are not yours to turn. If you find one false, say at which input.
  Laid BY PROGRAM, IN A SANDBOX (cutbox-rows.mjs): the forced cells as the released guide's own fill.sh prints them over the translation 6cd17bb27753d382… (all of the seat's roots in one cut). By AI agents, Wed Nov 11 2026. No macro, syntax, notation, axiom, sorry.
-/
import Derived.Test.YtminijokbeclhaaDoorChecked
import GoSem.PinnedTables
import GoSem.Claim
import GoSem.ClaimJoined
import GoSem.ClaimMapViews
import Derived.JoinedTies
import Derived.KernelRfl
namespace Go.Proofs.YtminijokbeclhaaDoor
/- THE CELL 'sum', in the pinned program and in every row, IS THE sha256 OF THE DUMP (.gsa) THAT YtminijokbeclhaaDoorProg.lean LOADS. Nothing in Lean hashes anything: it is a label: what it is worth is what the hold of that sum in a sandbox is worth. -/
noncomputable def Tryd.pinned : Pinned := { name := "ytminijokbeclhaadoor", sum := "6cd17bb27753d3820f38470a137455a2116073f102ca2cc54c3086eb1c57bd7c", checked := Tryd.checked }
namespace Rows
def none {H : Type} : Left H := { results := [], args := [] }

/- WHAT THE LISTED PACKAGE-LEVEL VARIABLES READ AS WHEN THE CALL BEGINS. Each datum BY PROGRAM (the guide's laid-datum.mjs) off the statement by which the dump's own 'gosem.cut.vars' lays the variable. In a bare row this is a premise. The card (YtminijokbeclhaaDoorCards.lean) ties it to the program's text. -/
def laid_math_bits_deBruijn64tab {H : Type} : DataW H := .agg [.lit (.int .u8 0), .lit (.int .u8 1), .lit (.int .u8 56), .lit (.int .u8 2), .lit (.int .u8 57), .lit (.int .u8 49), .lit (.int .u8 28), .lit (.int .u8 3), .lit (.int .u8 61), .lit (.int .u8 58), .lit (.int .u8 42), .lit (.int .u8 50), .lit (.int .u8 38), .lit (.int .u8 29), .lit (.int .u8 17), .lit (.int .u8 4), .lit (.int .u8 62), .lit (.int .u8 47), .lit (.int .u8 59), .lit (.int .u8 36), .lit (.int .u8 45), .lit (.int .u8 43), .lit (.int .u8 51), .lit (.int .u8 22), .lit (.int .u8 53), .lit (.int .u8 39), .lit (.int .u8 33), .lit (.int .u8 30), .lit (.int .u8 24), .lit (.int .u8 18), .lit (.int .u8 12), .lit (.int .u8 5), .lit (.int .u8 63), .lit (.int .u8 55), .lit (.int .u8 48), .lit (.int .u8 27), .lit (.int .u8 60), .lit (.int .u8 41), .lit (.int .u8 37), .lit (.int .u8 16), .lit (.int .u8 46), .lit (.int .u8 35), .lit (.int .u8 44), .lit (.int .u8 21), .lit (.int .u8 52), .lit (.int .u8 32), .lit (.int .u8 23), .lit (.int .u8 11), .lit (.int .u8 54), .lit (.int .u8 26), .lit (.int .u8 40), .lit (.int .u8 15), .lit (.int .u8 34), .lit (.int .u8 20), .lit (.int .u8 31), .lit (.int .u8 10), .lit (.int .u8 25), .lit (.int .u8 14), .lit (.int .u8 19), .lit (.int .u8 9), .lit (.int .u8 13), .lit (.int .u8 8), .lit (.int .u8 7), .lit (.int .u8 6)]
def laid_unicode_utf8_acceptRanges {H : Type} : DataW H := .agg [.agg [.lit (.int .u8 128), .lit (.int .u8 191)], .agg [.lit (.int .u8 160), .lit (.int .u8 191)], .agg [.lit (.int .u8 128), .lit (.int .u8 159)], .agg [.lit (.int .u8 144), .lit (.int .u8 191)], .agg [.lit (.int .u8 128), .lit (.int .u8 143)], .agg [.lit (.int .u8 0), .lit (.int .u8 0)], .agg [.lit (.int .u8 0), .lit (.int .u8 0)], .agg [.lit (.int .u8 0), .lit (.int .u8 0)], .agg [.lit (.int .u8 0), .lit (.int .u8 0)], .agg [.lit (.int .u8 0), .lit (.int .u8 0)], .agg [.lit (.int .u8 0), .lit (.int .u8 0)], .agg [.lit (.int .u8 0), .lit (.int .u8 0)], .agg [.lit (.int .u8 0), .lit (.int .u8 0)], .agg [.lit (.int .u8 0), .lit (.int .u8 0)], .agg [.lit (.int .u8 0), .lit (.int .u8 0)], .agg [.lit (.int .u8 0), .lit (.int .u8 0)]]
/-- One of Go's own tables, pinned by name: the form's constant. -/
def laid_unicode_utf8_first : DataW Unit := Go.Pinned.utf8First

/-- 'entrepotlaw6.ValueAsks': WHATEVER THE INPUT: true; the input reads as it did. -/
def valueAsksSpec : ChangeSpec := { name := "valueAsks", fn := fun _ => fun
  | [d1, d2] => { results := [.lit (.bool true)], args := [d1, d2] }
  | _ => none }
def valueAsksRow : OpenClaim := { program := "ytminijokbeclhaadoor", sum := "6cd17bb27753d3820f38470a137455a2116073f102ca2cc54c3086eb1c57bd7c", func := "entrepot/entrepotlaw6.ValueAsks", spec := "valueAsks", unfollowed := true, recurses := true, named := ["math/bits.deBruijn64tab", "unicode/utf8.first", "unicode/utf8.acceptRanges"], loops := true, apart := false, laid := [("math/bits.deBruijn64tab", laid_math_bits_deBruijn64tab), ("unicode/utf8.acceptRanges", laid_unicode_utf8_acceptRanges), ("unicode/utf8.first", laid_unicode_utf8_first)] }
def ValueAsksSaid : Prop := valueAsksRow.holds Tryd.pinned (OpenSpec.ofChange valueAsksSpec)

/-- ITS FALSE NEIGHBOUR: 'it returns false'. Refute it at one input. -/
def valueAsksWrong : ChangeSpec := { name := "valueAsks", fn := fun _ => fun
  | [d1, d2] => { results := [.lit (.bool false)], args := [d1, d2] }
  | _ => none }
def ValueAsksWrongFalsely : Prop := valueAsksRow.holds Tryd.pinned (OpenSpec.ofChange valueAsksWrong)

/-- 'entrepotlaw6.ValueBounds': WHATEVER THE INPUT: true; the input reads as it did. -/
def valueBoundsSpec : ChangeSpec := { name := "valueBounds", fn := fun _ => fun
  | [d1, d2] => { results := [.lit (.bool true)], args := [d1, d2] }
  | _ => none }
def valueBoundsRow : OpenClaim := { program := "ytminijokbeclhaadoor", sum := "6cd17bb27753d3820f38470a137455a2116073f102ca2cc54c3086eb1c57bd7c", func := "entrepot/entrepotlaw6.ValueBounds", spec := "valueBounds", unfollowed := true, recurses := true, named := ["math/bits.deBruijn64tab", "unicode/utf8.first", "unicode/utf8.acceptRanges"], apart := false, laid := [("math/bits.deBruijn64tab", laid_math_bits_deBruijn64tab), ("unicode/utf8.acceptRanges", laid_unicode_utf8_acceptRanges), ("unicode/utf8.first", laid_unicode_utf8_first)] }
def ValueBoundsSaid : Prop := valueBoundsRow.holds Tryd.pinned (OpenSpec.ofChange valueBoundsSpec)

/-- ITS FALSE NEIGHBOUR: 'it returns false'. Refute it at one input. -/
def valueBoundsWrong : ChangeSpec := { name := "valueBounds", fn := fun _ => fun
  | [d1, d2] => { results := [.lit (.bool false)], args := [d1, d2] }
  | _ => none }
def ValueBoundsWrongFalsely : Prop := valueBoundsRow.holds Tryd.pinned (OpenSpec.ofChange valueBoundsWrong)

/-- 'entrepotlaw6.ValueWithin': WHATEVER THE INPUT: true; the input reads as it did. -/
def valueWithinSpec : ChangeSpec := { name := "valueWithin", fn := fun _ => fun
  | [d1, d2] => { results := [.lit (.bool true)], args := [d1, d2] }
  | _ => none }
def valueWithinRow : OpenClaim := { program := "ytminijokbeclhaadoor", sum := "6cd17bb27753d3820f38470a137455a2116073f102ca2cc54c3086eb1c57bd7c", func := "entrepot/entrepotlaw6.ValueWithin", spec := "valueWithin", unfollowed := true, recurses := true, named := ["math/bits.deBruijn64tab", "unicode/utf8.first", "unicode/utf8.acceptRanges"], loops := true, apart := false, laid := [("math/bits.deBruijn64tab", laid_math_bits_deBruijn64tab), ("unicode/utf8.acceptRanges", laid_unicode_utf8_acceptRanges), ("unicode/utf8.first", laid_unicode_utf8_first)] }
def ValueWithinSaid : Prop := valueWithinRow.holds Tryd.pinned (OpenSpec.ofChange valueWithinSpec)

/-- ITS FALSE NEIGHBOUR: 'it returns false'. Refute it at one input. -/
def valueWithinWrong : ChangeSpec := { name := "valueWithin", fn := fun _ => fun
  | [d1, d2] => { results := [.lit (.bool false)], args := [d1, d2] }
  | _ => none }
def ValueWithinWrongFalsely : Prop := valueWithinRow.holds Tryd.pinned (OpenSpec.ofChange valueWithinWrong)

/-- 'entrepotlaw6.ValueCounts': WHATEVER THE INPUT: true; the input reads as it did. -/
def valueCountsSpec : ChangeSpec := { name := "valueCounts", fn := fun _ => fun
  | [d] => { results := [.lit (.bool true)], args := [d] }
  | _ => none }
def valueCountsRow : OpenClaim := { program := "ytminijokbeclhaadoor", sum := "6cd17bb27753d3820f38470a137455a2116073f102ca2cc54c3086eb1c57bd7c", func := "entrepot/entrepotlaw6.ValueCounts", spec := "valueCounts", unfollowed := true, recurses := true, named := ["math/bits.deBruijn64tab", "unicode/utf8.first", "unicode/utf8.acceptRanges"], loops := true, apart := false, laid := [("math/bits.deBruijn64tab", laid_math_bits_deBruijn64tab), ("unicode/utf8.acceptRanges", laid_unicode_utf8_acceptRanges), ("unicode/utf8.first", laid_unicode_utf8_first)] }
def ValueCountsSaid : Prop := valueCountsRow.holds Tryd.pinned (OpenSpec.ofChange valueCountsSpec)

/-- ITS FALSE NEIGHBOUR: 'it returns false'. Refute it at one input. -/
def valueCountsWrong : ChangeSpec := { name := "valueCounts", fn := fun _ => fun
  | [d] => { results := [.lit (.bool false)], args := [d] }
  | _ => none }
def ValueCountsWrongFalsely : Prop := valueCountsRow.holds Tryd.pinned (OpenSpec.ofChange valueCountsWrong)

/-- 'entrepotlaw6.ValueNumbers': WHATEVER THE INPUT: true; the input reads as it did. -/
def valueNumbersSpec : ChangeSpec := { name := "valueNumbers", fn := fun _ => fun
  | [d1, d2, d3] => { results := [.lit (.bool true)], args := [d1, d2, d3] }
  | _ => none }
def valueNumbersRow : OpenClaim := { program := "ytminijokbeclhaadoor", sum := "6cd17bb27753d3820f38470a137455a2116073f102ca2cc54c3086eb1c57bd7c", func := "entrepot/entrepotlaw6.ValueNumbers", spec := "valueNumbers", unfollowed := true, recurses := true, named := ["math/bits.deBruijn64tab", "unicode/utf8.first", "unicode/utf8.acceptRanges"], loops := true, apart := false, laid := [("math/bits.deBruijn64tab", laid_math_bits_deBruijn64tab), ("unicode/utf8.acceptRanges", laid_unicode_utf8_acceptRanges), ("unicode/utf8.first", laid_unicode_utf8_first)] }
def ValueNumbersSaid : Prop := valueNumbersRow.holds Tryd.pinned (OpenSpec.ofChange valueNumbersSpec)

/-- ITS FALSE NEIGHBOUR: 'it returns false'. Refute it at one input. -/
def valueNumbersWrong : ChangeSpec := { name := "valueNumbers", fn := fun _ => fun
  | [d1, d2, d3] => { results := [.lit (.bool false)], args := [d1, d2, d3] }
  | _ => none }
def ValueNumbersWrongFalsely : Prop := valueNumbersRow.holds Tryd.pinned (OpenSpec.ofChange valueNumbersWrong)

/-- 'entrepotlaw6.ValueGets': WHATEVER THE INPUT: true; the input reads as it did. -/
def valueGetsSpec : ChangeSpec := { name := "valueGets", fn := fun _ => fun
  | [d1, d2] => { results := [.lit (.bool true)], args := [d1, d2] }
  | _ => none }
def valueGetsRow : OpenClaim := { program := "ytminijokbeclhaadoor", sum := "6cd17bb27753d3820f38470a137455a2116073f102ca2cc54c3086eb1c57bd7c", func := "entrepot/entrepotlaw6.ValueGets", spec := "valueGets", unfollowed := true, recurses := true, named := ["unicode/utf8.first", "unicode/utf8.acceptRanges", "math/bits.deBruijn64tab"], loops := true, apart := false, laid := [("math/bits.deBruijn64tab", laid_math_bits_deBruijn64tab), ("unicode/utf8.acceptRanges", laid_unicode_utf8_acceptRanges), ("unicode/utf8.first", laid_unicode_utf8_first)] }
def ValueGetsSaid : Prop := valueGetsRow.holds Tryd.pinned (OpenSpec.ofChange valueGetsSpec)

/-- ITS FALSE NEIGHBOUR: 'it returns false'. Refute it at one input. -/
def valueGetsWrong : ChangeSpec := { name := "valueGets", fn := fun _ => fun
  | [d1, d2] => { results := [.lit (.bool false)], args := [d1, d2] }
  | _ => none }
def ValueGetsWrongFalsely : Prop := valueGetsRow.holds Tryd.pinned (OpenSpec.ofChange valueGetsWrong)

/-- 'entrepotlaw6.ValueOrder': WHATEVER THE INPUT: true; the input reads as it did. -/
def valueOrderSpec : ChangeSpec := { name := "valueOrder", fn := fun _ => fun
  | [d1, d2] => { results := [.lit (.bool true)], args := [d1, d2] }
  | _ => none }
def valueOrderRow : OpenClaim := { program := "ytminijokbeclhaadoor", sum := "6cd17bb27753d3820f38470a137455a2116073f102ca2cc54c3086eb1c57bd7c", func := "entrepot/entrepotlaw6.ValueOrder", spec := "valueOrder", unfollowed := true, recurses := true, named := ["math/bits.deBruijn64tab", "unicode/utf8.first", "unicode/utf8.acceptRanges"], loops := true, apart := false, laid := [("math/bits.deBruijn64tab", laid_math_bits_deBruijn64tab), ("unicode/utf8.acceptRanges", laid_unicode_utf8_acceptRanges), ("unicode/utf8.first", laid_unicode_utf8_first)] }
def ValueOrderSaid : Prop := valueOrderRow.holds Tryd.pinned (OpenSpec.ofChange valueOrderSpec)

/-- ITS FALSE NEIGHBOUR: 'it returns false'. Refute it at one input. -/
def valueOrderWrong : ChangeSpec := { name := "valueOrder", fn := fun _ => fun
  | [d1, d2] => { results := [.lit (.bool false)], args := [d1, d2] }
  | _ => none }
def ValueOrderWrongFalsely : Prop := valueOrderRow.holds Tryd.pinned (OpenSpec.ofChange valueOrderWrong)

/-- 'entrepotlaw6.ValueLess': WHATEVER THE INPUT: true; the input reads as it did. -/
def valueLessSpec : ChangeSpec := { name := "valueLess", fn := fun _ => fun
  | [d1, d2, d3] => { results := [.lit (.bool true)], args := [d1, d2, d3] }
  | _ => none }
def valueLessRow : OpenClaim := { program := "ytminijokbeclhaadoor", sum := "6cd17bb27753d3820f38470a137455a2116073f102ca2cc54c3086eb1c57bd7c", func := "entrepot/entrepotlaw6.ValueLess", spec := "valueLess", unfollowed := true, recurses := true, named := ["math/bits.deBruijn64tab", "unicode/utf8.first", "unicode/utf8.acceptRanges"], loops := true, apart := false, laid := [("math/bits.deBruijn64tab", laid_math_bits_deBruijn64tab), ("unicode/utf8.acceptRanges", laid_unicode_utf8_acceptRanges), ("unicode/utf8.first", laid_unicode_utf8_first)] }
def ValueLessSaid : Prop := valueLessRow.holds Tryd.pinned (OpenSpec.ofChange valueLessSpec)

/-- ITS FALSE NEIGHBOUR: 'it returns false'. Refute it at one input. -/
def valueLessWrong : ChangeSpec := { name := "valueLess", fn := fun _ => fun
  | [d1, d2, d3] => { results := [.lit (.bool false)], args := [d1, d2, d3] }
  | _ => none }
def ValueLessWrongFalsely : Prop := valueLessRow.holds Tryd.pinned (OpenSpec.ofChange valueLessWrong)

/-- 'entrepotlaw6.ValueTurned': WHATEVER THE INPUT: true; the input reads as it did. -/
def valueTurnedSpec : ChangeSpec := { name := "valueTurned", fn := fun _ => fun
  | [d1, d2] => { results := [.lit (.bool true)], args := [d1, d2] }
  | _ => none }
def valueTurnedRow : OpenClaim := { program := "ytminijokbeclhaadoor", sum := "6cd17bb27753d3820f38470a137455a2116073f102ca2cc54c3086eb1c57bd7c", func := "entrepot/entrepotlaw6.ValueTurned", spec := "valueTurned", unfollowed := true, recurses := true, named := ["math/bits.deBruijn64tab", "unicode/utf8.first", "unicode/utf8.acceptRanges"], loops := true, apart := false, laid := [("math/bits.deBruijn64tab", laid_math_bits_deBruijn64tab), ("unicode/utf8.acceptRanges", laid_unicode_utf8_acceptRanges), ("unicode/utf8.first", laid_unicode_utf8_first)] }
def ValueTurnedSaid : Prop := valueTurnedRow.holds Tryd.pinned (OpenSpec.ofChange valueTurnedSpec)

/-- ITS FALSE NEIGHBOUR: 'it returns false'. Refute it at one input. -/
def valueTurnedWrong : ChangeSpec := { name := "valueTurned", fn := fun _ => fun
  | [d1, d2] => { results := [.lit (.bool false)], args := [d1, d2] }
  | _ => none }
def ValueTurnedWrongFalsely : Prop := valueTurnedRow.holds Tryd.pinned (OpenSpec.ofChange valueTurnedWrong)

/- THE SECOND FORM. 'bulk': how many values and letters a reading holds, each counted each time it is reached (what is shared counts as often as it is met; a slice's spare places count too). A statement '..UptoSaid' is the law's where the arguments, and the package variables that the reading takes, are together of bulk at most 1048576: NARROWER than '..Said'. Prove '..Said' where nothing that the law and all that it calls make is longer than what came in: it says more and counts as full. Else prove '..UptoSaid'. A law counts once. -/
mutual
def uptoBulk {H : Type} : DataW H → Nat
  | .lit (.string bytes) => bytes.length + 1
  | .lit _ => 1
  | .nil => 1
  | .ptr d => uptoBulk d + 1
  | .slice elems spare => uptoBulkAll elems + uptoBulkAll spare + 1
  | .agg parts => uptoBulkAll parts + 1
  | .iface _ d => uptoBulk d + 1
  | .map entries => uptoBulkEntries entries + 1
  | .held _ => 1
def uptoBulkAll {H : Type} : List (DataW H) → Nat
  | [] => 0
  | d :: r => uptoBulk d + uptoBulkAll r
def uptoBulkEntries {H : Type} : List (Lit × DataW H) → Nat
  | [] => 0
  | x :: r => uptoBulkEntry x + uptoBulkEntries r
def uptoBulkEntry {H : Type} : Lit × DataW H → Nat
  | (.string bytes, d) => bytes.length + uptoBulk d + 1
  | (_, d) => uptoBulk d + 1
 end
def uptoSmall : (H : Type) → List (DataW H) → Bool := fun _ ds => decide (uptoBulkAll ds ≤ 1048576)
def OpenSpec.upto (s : _root_.Go.ChangeSpec) : _root_.Go.OpenSpec := { _root_.Go.OpenSpec.ofChange s with cond := some uptoSmall }

/-- 'entrepotlaw6.ValueAsks', WHERE WHAT IT READS IS OF BULK AT MOST 1048576: true; the input reads as it did. -/
def valueAsksUptoRow : OpenClaim := { program := "ytminijokbeclhaadoor", sum := "6cd17bb27753d3820f38470a137455a2116073f102ca2cc54c3086eb1c57bd7c", func := "entrepot/entrepotlaw6.ValueAsks", spec := "valueAsks", unfollowed := true, recurses := true, named := ["math/bits.deBruijn64tab", "unicode/utf8.first", "unicode/utf8.acceptRanges"], loops := true, apart := false, laid := [("math/bits.deBruijn64tab", laid_math_bits_deBruijn64tab), ("unicode/utf8.acceptRanges", laid_unicode_utf8_acceptRanges), ("unicode/utf8.first", laid_unicode_utf8_first)], narrowed := true }
def ValueAsksUptoSaid : Prop := valueAsksUptoRow.holds Tryd.pinned (OpenSpec.upto valueAsksSpec)

/-- 'entrepotlaw6.ValueBounds', WHERE WHAT IT READS IS OF BULK AT MOST 1048576: true; the input reads as it did. -/
def valueBoundsUptoRow : OpenClaim := { program := "ytminijokbeclhaadoor", sum := "6cd17bb27753d3820f38470a137455a2116073f102ca2cc54c3086eb1c57bd7c", func := "entrepot/entrepotlaw6.ValueBounds", spec := "valueBounds", unfollowed := true, recurses := true, named := ["math/bits.deBruijn64tab", "unicode/utf8.first", "unicode/utf8.acceptRanges"], apart := false, laid := [("math/bits.deBruijn64tab", laid_math_bits_deBruijn64tab), ("unicode/utf8.acceptRanges", laid_unicode_utf8_acceptRanges), ("unicode/utf8.first", laid_unicode_utf8_first)], narrowed := true }
def ValueBoundsUptoSaid : Prop := valueBoundsUptoRow.holds Tryd.pinned (OpenSpec.upto valueBoundsSpec)

/-- 'entrepotlaw6.ValueWithin', WHERE WHAT IT READS IS OF BULK AT MOST 1048576: true; the input reads as it did. -/
def valueWithinUptoRow : OpenClaim := { program := "ytminijokbeclhaadoor", sum := "6cd17bb27753d3820f38470a137455a2116073f102ca2cc54c3086eb1c57bd7c", func := "entrepot/entrepotlaw6.ValueWithin", spec := "valueWithin", unfollowed := true, recurses := true, named := ["math/bits.deBruijn64tab", "unicode/utf8.first", "unicode/utf8.acceptRanges"], loops := true, apart := false, laid := [("math/bits.deBruijn64tab", laid_math_bits_deBruijn64tab), ("unicode/utf8.acceptRanges", laid_unicode_utf8_acceptRanges), ("unicode/utf8.first", laid_unicode_utf8_first)], narrowed := true }
def ValueWithinUptoSaid : Prop := valueWithinUptoRow.holds Tryd.pinned (OpenSpec.upto valueWithinSpec)

/-- 'entrepotlaw6.ValueCounts', WHERE WHAT IT READS IS OF BULK AT MOST 1048576: true; the input reads as it did. -/
def valueCountsUptoRow : OpenClaim := { program := "ytminijokbeclhaadoor", sum := "6cd17bb27753d3820f38470a137455a2116073f102ca2cc54c3086eb1c57bd7c", func := "entrepot/entrepotlaw6.ValueCounts", spec := "valueCounts", unfollowed := true, recurses := true, named := ["math/bits.deBruijn64tab", "unicode/utf8.first", "unicode/utf8.acceptRanges"], loops := true, apart := false, laid := [("math/bits.deBruijn64tab", laid_math_bits_deBruijn64tab), ("unicode/utf8.acceptRanges", laid_unicode_utf8_acceptRanges), ("unicode/utf8.first", laid_unicode_utf8_first)], narrowed := true }
def ValueCountsUptoSaid : Prop := valueCountsUptoRow.holds Tryd.pinned (OpenSpec.upto valueCountsSpec)

/-- 'entrepotlaw6.ValueNumbers', WHERE WHAT IT READS IS OF BULK AT MOST 1048576: true; the input reads as it did. -/
def valueNumbersUptoRow : OpenClaim := { program := "ytminijokbeclhaadoor", sum := "6cd17bb27753d3820f38470a137455a2116073f102ca2cc54c3086eb1c57bd7c", func := "entrepot/entrepotlaw6.ValueNumbers", spec := "valueNumbers", unfollowed := true, recurses := true, named := ["math/bits.deBruijn64tab", "unicode/utf8.first", "unicode/utf8.acceptRanges"], loops := true, apart := false, laid := [("math/bits.deBruijn64tab", laid_math_bits_deBruijn64tab), ("unicode/utf8.acceptRanges", laid_unicode_utf8_acceptRanges), ("unicode/utf8.first", laid_unicode_utf8_first)], narrowed := true }
def ValueNumbersUptoSaid : Prop := valueNumbersUptoRow.holds Tryd.pinned (OpenSpec.upto valueNumbersSpec)

/-- 'entrepotlaw6.ValueGets', WHERE WHAT IT READS IS OF BULK AT MOST 1048576: true; the input reads as it did. -/
def valueGetsUptoRow : OpenClaim := { program := "ytminijokbeclhaadoor", sum := "6cd17bb27753d3820f38470a137455a2116073f102ca2cc54c3086eb1c57bd7c", func := "entrepot/entrepotlaw6.ValueGets", spec := "valueGets", unfollowed := true, recurses := true, named := ["unicode/utf8.first", "unicode/utf8.acceptRanges", "math/bits.deBruijn64tab"], loops := true, apart := false, laid := [("math/bits.deBruijn64tab", laid_math_bits_deBruijn64tab), ("unicode/utf8.acceptRanges", laid_unicode_utf8_acceptRanges), ("unicode/utf8.first", laid_unicode_utf8_first)], narrowed := true }
def ValueGetsUptoSaid : Prop := valueGetsUptoRow.holds Tryd.pinned (OpenSpec.upto valueGetsSpec)

/-- 'entrepotlaw6.ValueOrder', WHERE WHAT IT READS IS OF BULK AT MOST 1048576: true; the input reads as it did. -/
def valueOrderUptoRow : OpenClaim := { program := "ytminijokbeclhaadoor", sum := "6cd17bb27753d3820f38470a137455a2116073f102ca2cc54c3086eb1c57bd7c", func := "entrepot/entrepotlaw6.ValueOrder", spec := "valueOrder", unfollowed := true, recurses := true, named := ["math/bits.deBruijn64tab", "unicode/utf8.first", "unicode/utf8.acceptRanges"], loops := true, apart := false, laid := [("math/bits.deBruijn64tab", laid_math_bits_deBruijn64tab), ("unicode/utf8.acceptRanges", laid_unicode_utf8_acceptRanges), ("unicode/utf8.first", laid_unicode_utf8_first)], narrowed := true }
def ValueOrderUptoSaid : Prop := valueOrderUptoRow.holds Tryd.pinned (OpenSpec.upto valueOrderSpec)

/-- 'entrepotlaw6.ValueLess', WHERE WHAT IT READS IS OF BULK AT MOST 1048576: true; the input reads as it did. -/
def valueLessUptoRow : OpenClaim := { program := "ytminijokbeclhaadoor", sum := "6cd17bb27753d3820f38470a137455a2116073f102ca2cc54c3086eb1c57bd7c", func := "entrepot/entrepotlaw6.ValueLess", spec := "valueLess", unfollowed := true, recurses := true, named := ["math/bits.deBruijn64tab", "unicode/utf8.first", "unicode/utf8.acceptRanges"], loops := true, apart := false, laid := [("math/bits.deBruijn64tab", laid_math_bits_deBruijn64tab), ("unicode/utf8.acceptRanges", laid_unicode_utf8_acceptRanges), ("unicode/utf8.first", laid_unicode_utf8_first)], narrowed := true }
def ValueLessUptoSaid : Prop := valueLessUptoRow.holds Tryd.pinned (OpenSpec.upto valueLessSpec)

/-- 'entrepotlaw6.ValueTurned', WHERE WHAT IT READS IS OF BULK AT MOST 1048576: true; the input reads as it did. -/
def valueTurnedUptoRow : OpenClaim := { program := "ytminijokbeclhaadoor", sum := "6cd17bb27753d3820f38470a137455a2116073f102ca2cc54c3086eb1c57bd7c", func := "entrepot/entrepotlaw6.ValueTurned", spec := "valueTurned", unfollowed := true, recurses := true, named := ["math/bits.deBruijn64tab", "unicode/utf8.first", "unicode/utf8.acceptRanges"], loops := true, apart := false, laid := [("math/bits.deBruijn64tab", laid_math_bits_deBruijn64tab), ("unicode/utf8.acceptRanges", laid_unicode_utf8_acceptRanges), ("unicode/utf8.first", laid_unicode_utf8_first)], narrowed := true }
def ValueTurnedUptoSaid : Prop := valueTurnedUptoRow.holds Tryd.pinned (OpenSpec.upto valueTurnedSpec)

end Rows
end Go.Proofs.YtminijokbeclhaaDoor
