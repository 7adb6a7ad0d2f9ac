/-
  NARROWER THAN 'FOR EVERY INPUT', by the rows' own cells (each row's printed sentence says how): FloatKinds: laid · FloatWidths: laid · FloatBack: laid · FloatSigns: laid · FloatPowers: laid · FloatHalves: laid · FloatNaNs: laid · FloatWholes: laid.
  DERIVED. THE GIVEN ROWS OF THIS SEAT. 8 by the template 'for every input the law returns true; each argument reads behind the call as it read before'; 0 by the template 'total and deterministic' (their statements: YtpmfnhcnldoelaaDoorTotals.lean).
  GIVEN WITH THE SEED: the statements are not yours to turn. If you find one false, say at which input.
  Laid BY PROGRAM, IN A SANDBOX (cutbox-rows.mjs): the forced cells as the released guide's own fill.sh prints them over the translation 1b0fefc827ca5762… (all of the seat's roots in one cut). By AI agents, Wed Nov 11 2026. No macro, syntax, notation, axiom, sorry.
-/
import Derived.Test.YtpmfnhcnldoelaaDoorChecked
import GoSem.Claim
import GoSem.ClaimJoined
import GoSem.ClaimMapViews
import Derived.JoinedTies
import Derived.KernelRfl
namespace Go.Proofs.YtpmfnhcnldoelaaDoor
/- THE CELL 'sum', in the pinned program and in every row, IS THE sha256 OF THE DUMP (.gsa) THAT YtpmfnhcnldoelaaDoorProg.lean LOADS. Nothing in Lean hashes anything: it is a label: what it is worth is what the hold of that sum in a sandbox is worth. -/
noncomputable def Tryd.pinned : Pinned := { name := "ytpmfnhcnldoelaadoor", sum := "1b0fefc827ca576220c31431e79744984315f3876cb3f76b51b5dc153d79ea51", checked := Tryd.checked }
namespace Rows
def none {H : Type} : Left H := { results := [], args := [] }

/- WHAT THE LISTED PACKAGE-LEVEL VARIABLES READ AS WHEN THE CALL BEGINS. Each datum BY PROGRAM (the guide's laid-datum.mjs) off the statement by which the dump's own 'gosem.cut.vars' lays the variable. In a bare row this is a premise. The card (YtpmfnhcnldoelaaDoorCards.lean) ties it to the program's text. -/
def laid_math_bits_deBruijn64tab {H : Type} : DataW H := .agg [.lit (.int .u8 0), .lit (.int .u8 1), .lit (.int .u8 56), .lit (.int .u8 2), .lit (.int .u8 57), .lit (.int .u8 49), .lit (.int .u8 28), .lit (.int .u8 3), .lit (.int .u8 61), .lit (.int .u8 58), .lit (.int .u8 42), .lit (.int .u8 50), .lit (.int .u8 38), .lit (.int .u8 29), .lit (.int .u8 17), .lit (.int .u8 4), .lit (.int .u8 62), .lit (.int .u8 47), .lit (.int .u8 59), .lit (.int .u8 36), .lit (.int .u8 45), .lit (.int .u8 43), .lit (.int .u8 51), .lit (.int .u8 22), .lit (.int .u8 53), .lit (.int .u8 39), .lit (.int .u8 33), .lit (.int .u8 30), .lit (.int .u8 24), .lit (.int .u8 18), .lit (.int .u8 12), .lit (.int .u8 5), .lit (.int .u8 63), .lit (.int .u8 55), .lit (.int .u8 48), .lit (.int .u8 27), .lit (.int .u8 60), .lit (.int .u8 41), .lit (.int .u8 37), .lit (.int .u8 16), .lit (.int .u8 46), .lit (.int .u8 35), .lit (.int .u8 44), .lit (.int .u8 21), .lit (.int .u8 52), .lit (.int .u8 32), .lit (.int .u8 23), .lit (.int .u8 11), .lit (.int .u8 54), .lit (.int .u8 26), .lit (.int .u8 40), .lit (.int .u8 15), .lit (.int .u8 34), .lit (.int .u8 20), .lit (.int .u8 31), .lit (.int .u8 10), .lit (.int .u8 25), .lit (.int .u8 14), .lit (.int .u8 19), .lit (.int .u8 9), .lit (.int .u8 13), .lit (.int .u8 8), .lit (.int .u8 7), .lit (.int .u8 6)]

/-- 'entrepotlaw3.FloatKinds': WHATEVER THE INPUT: true; the input reads as it did. -/
def floatKindsSpec : ChangeSpec := { name := "floatKinds", fn := fun _ => fun
  | [d] => { results := [.lit (.bool true)], args := [d] }
  | _ => none }
def floatKindsRow : OpenClaim := { program := "ytpmfnhcnldoelaadoor", sum := "1b0fefc827ca576220c31431e79744984315f3876cb3f76b51b5dc153d79ea51", func := "entrepot/entrepotlaw3.FloatKinds", spec := "floatKinds", inPlace := ["math.Float64bits", "math.Float64frombits"], named := ["math/bits.deBruijn64tab"], apart := false, laid := [("math/bits.deBruijn64tab", laid_math_bits_deBruijn64tab)] }
def FloatKindsSaid : Prop := floatKindsRow.holds Tryd.pinned (OpenSpec.ofChange floatKindsSpec)

/-- ITS FALSE NEIGHBOUR: 'it returns false'. Refute it at one input. -/
def floatKindsWrong : ChangeSpec := { name := "floatKinds", fn := fun _ => fun
  | [d] => { results := [.lit (.bool false)], args := [d] }
  | _ => none }
def FloatKindsWrongFalsely : Prop := floatKindsRow.holds Tryd.pinned (OpenSpec.ofChange floatKindsWrong)

/-- 'entrepotlaw3.FloatWidths': WHATEVER THE INPUT: true; the input reads as it did. -/
def floatWidthsSpec : ChangeSpec := { name := "floatWidths", fn := fun _ => fun
  | [d1, d2, d3] => { results := [.lit (.bool true)], args := [d1, d2, d3] }
  | _ => none }
def floatWidthsRow : OpenClaim := { program := "ytpmfnhcnldoelaadoor", sum := "1b0fefc827ca576220c31431e79744984315f3876cb3f76b51b5dc153d79ea51", func := "entrepot/entrepotlaw3.FloatWidths", spec := "floatWidths", inPlace := ["math.Float64frombits", "math.Float32bits", "math.Float32frombits", "math.Float64bits"], named := ["math/bits.deBruijn64tab"], apart := false, laid := [("math/bits.deBruijn64tab", laid_math_bits_deBruijn64tab)] }
def FloatWidthsSaid : Prop := floatWidthsRow.holds Tryd.pinned (OpenSpec.ofChange floatWidthsSpec)

/-- ITS FALSE NEIGHBOUR: 'it returns false'. Refute it at one input. -/
def floatWidthsWrong : ChangeSpec := { name := "floatWidths", fn := fun _ => fun
  | [d1, d2, d3] => { results := [.lit (.bool false)], args := [d1, d2, d3] }
  | _ => none }
def FloatWidthsWrongFalsely : Prop := floatWidthsRow.holds Tryd.pinned (OpenSpec.ofChange floatWidthsWrong)

/-- 'entrepotlaw3.FloatBack': WHATEVER THE INPUT: true; the input reads as it did. -/
def floatBackSpec : ChangeSpec := { name := "floatBack", fn := fun _ => fun
  | [d1, d2] => { results := [.lit (.bool true)], args := [d1, d2] }
  | _ => none }
def floatBackRow : OpenClaim := { program := "ytpmfnhcnldoelaadoor", sum := "1b0fefc827ca576220c31431e79744984315f3876cb3f76b51b5dc153d79ea51", func := "entrepot/entrepotlaw3.FloatBack", spec := "floatBack", inPlace := ["math.Float64bits", "math.Float64frombits", "math.Float32frombits", "math.Float32bits"], named := ["math/bits.deBruijn64tab"], apart := false, laid := [("math/bits.deBruijn64tab", laid_math_bits_deBruijn64tab)] }
def FloatBackSaid : Prop := floatBackRow.holds Tryd.pinned (OpenSpec.ofChange floatBackSpec)

/-- ITS FALSE NEIGHBOUR: 'it returns false'. Refute it at one input. -/
def floatBackWrong : ChangeSpec := { name := "floatBack", fn := fun _ => fun
  | [d1, d2] => { results := [.lit (.bool false)], args := [d1, d2] }
  | _ => none }
def FloatBackWrongFalsely : Prop := floatBackRow.holds Tryd.pinned (OpenSpec.ofChange floatBackWrong)

/-- 'entrepotlaw3.FloatSigns': WHATEVER THE INPUT: true; the input reads as it did. -/
def floatSignsSpec : ChangeSpec := { name := "floatSigns", fn := fun _ => fun
  | [d] => { results := [.lit (.bool true)], args := [d] }
  | _ => none }
def floatSignsRow : OpenClaim := { program := "ytpmfnhcnldoelaadoor", sum := "1b0fefc827ca576220c31431e79744984315f3876cb3f76b51b5dc153d79ea51", func := "entrepot/entrepotlaw3.FloatSigns", spec := "floatSigns", inPlace := ["math.Float64frombits", "math.Float32bits", "math.Float32frombits", "math.Float64bits"], named := ["math/bits.deBruijn64tab"], apart := false, laid := [("math/bits.deBruijn64tab", laid_math_bits_deBruijn64tab)] }
def FloatSignsSaid : Prop := floatSignsRow.holds Tryd.pinned (OpenSpec.ofChange floatSignsSpec)

/-- ITS FALSE NEIGHBOUR: 'it returns false'. Refute it at one input. -/
def floatSignsWrong : ChangeSpec := { name := "floatSigns", fn := fun _ => fun
  | [d] => { results := [.lit (.bool false)], args := [d] }
  | _ => none }
def FloatSignsWrongFalsely : Prop := floatSignsRow.holds Tryd.pinned (OpenSpec.ofChange floatSignsWrong)

/-- 'entrepotlaw3.FloatPowers': WHATEVER THE INPUT: true; the input reads as it did. -/
def floatPowersSpec : ChangeSpec := { name := "floatPowers", fn := fun _ => fun
  | [d] => { results := [.lit (.bool true)], args := [d] }
  | _ => none }
def floatPowersRow : OpenClaim := { program := "ytpmfnhcnldoelaadoor", sum := "1b0fefc827ca576220c31431e79744984315f3876cb3f76b51b5dc153d79ea51", func := "entrepot/entrepotlaw3.FloatPowers", spec := "floatPowers", inPlace := ["math.Float64frombits", "math.Float32bits", "math.Float32frombits", "math.Float64bits"], named := ["math/bits.deBruijn64tab"], apart := false, laid := [("math/bits.deBruijn64tab", laid_math_bits_deBruijn64tab)] }
def FloatPowersSaid : Prop := floatPowersRow.holds Tryd.pinned (OpenSpec.ofChange floatPowersSpec)

/-- ITS FALSE NEIGHBOUR: 'it returns false'. Refute it at one input. -/
def floatPowersWrong : ChangeSpec := { name := "floatPowers", fn := fun _ => fun
  | [d] => { results := [.lit (.bool false)], args := [d] }
  | _ => none }
def FloatPowersWrongFalsely : Prop := floatPowersRow.holds Tryd.pinned (OpenSpec.ofChange floatPowersWrong)

/-- 'entrepotlaw3.FloatHalves': WHATEVER THE INPUT: true; the input reads as it did. -/
def floatHalvesSpec : ChangeSpec := { name := "floatHalves", fn := fun _ => fun
  | [d] => { results := [.lit (.bool true)], args := [d] }
  | _ => none }
def floatHalvesRow : OpenClaim := { program := "ytpmfnhcnldoelaadoor", sum := "1b0fefc827ca576220c31431e79744984315f3876cb3f76b51b5dc153d79ea51", func := "entrepot/entrepotlaw3.FloatHalves", spec := "floatHalves", inPlace := ["math.Float32frombits", "math.Float64bits", "math.Float64frombits", "math.Float32bits"], named := ["math/bits.deBruijn64tab"], apart := false, laid := [("math/bits.deBruijn64tab", laid_math_bits_deBruijn64tab)] }
def FloatHalvesSaid : Prop := floatHalvesRow.holds Tryd.pinned (OpenSpec.ofChange floatHalvesSpec)

/-- ITS FALSE NEIGHBOUR: 'it returns false'. Refute it at one input. -/
def floatHalvesWrong : ChangeSpec := { name := "floatHalves", fn := fun _ => fun
  | [d] => { results := [.lit (.bool false)], args := [d] }
  | _ => none }
def FloatHalvesWrongFalsely : Prop := floatHalvesRow.holds Tryd.pinned (OpenSpec.ofChange floatHalvesWrong)

/-- 'entrepotlaw3.FloatNaNs': WHATEVER THE INPUT: true; the input reads as it did. -/
def floatNaNsSpec : ChangeSpec := { name := "floatNaNs", fn := fun _ => fun
  | [d1, d2] => { results := [.lit (.bool true)], args := [d1, d2] }
  | _ => none }
def floatNaNsRow : OpenClaim := { program := "ytpmfnhcnldoelaadoor", sum := "1b0fefc827ca576220c31431e79744984315f3876cb3f76b51b5dc153d79ea51", func := "entrepot/entrepotlaw3.FloatNaNs", spec := "floatNaNs", inPlace := ["math.Float64frombits", "math.Float32bits", "math.Float32frombits", "math.Float64bits"], named := ["math/bits.deBruijn64tab"], apart := false, laid := [("math/bits.deBruijn64tab", laid_math_bits_deBruijn64tab)] }
def FloatNaNsSaid : Prop := floatNaNsRow.holds Tryd.pinned (OpenSpec.ofChange floatNaNsSpec)

/-- ITS FALSE NEIGHBOUR: 'it returns false'. Refute it at one input. -/
def floatNaNsWrong : ChangeSpec := { name := "floatNaNs", fn := fun _ => fun
  | [d1, d2] => { results := [.lit (.bool false)], args := [d1, d2] }
  | _ => none }
def FloatNaNsWrongFalsely : Prop := floatNaNsRow.holds Tryd.pinned (OpenSpec.ofChange floatNaNsWrong)

/-- 'entrepotlaw3.FloatWholes': WHATEVER THE INPUT: true; the input reads as it did. -/
def floatWholesSpec : ChangeSpec := { name := "floatWholes", fn := fun _ => fun
  | [d] => { results := [.lit (.bool true)], args := [d] }
  | _ => none }
def floatWholesRow : OpenClaim := { program := "ytpmfnhcnldoelaadoor", sum := "1b0fefc827ca576220c31431e79744984315f3876cb3f76b51b5dc153d79ea51", func := "entrepot/entrepotlaw3.FloatWholes", spec := "floatWholes", inPlace := ["math.Float64bits", "math.Float64frombits"], named := ["math/bits.deBruijn64tab"], apart := false, laid := [("math/bits.deBruijn64tab", laid_math_bits_deBruijn64tab)] }
def FloatWholesSaid : Prop := floatWholesRow.holds Tryd.pinned (OpenSpec.ofChange floatWholesSpec)

/-- ITS FALSE NEIGHBOUR: 'it returns false'. Refute it at one input. -/
def floatWholesWrong : ChangeSpec := { name := "floatWholes", fn := fun _ => fun
  | [d] => { results := [.lit (.bool false)], args := [d] }
  | _ => none }
def FloatWholesWrongFalsely : Prop := floatWholesRow.holds Tryd.pinned (OpenSpec.ofChange floatWholesWrong)

/- THE SECOND FORM. 'bulk': how many values and letters a reading holds, each counted each time it is reached (what is shared counts as often as it is met; a slice's spare places count too). A statement '..UptoSaid' is the law's where the arguments, and the package variables that the reading takes, are together of bulk at most 1048576: NARROWER than '..Said'. Prove '..Said' where nothing that the law and all that it calls make is longer than what came in: it says more and counts as full. Else prove '..UptoSaid'. A law counts once. -/
mutual
def uptoBulk {H : Type} : DataW H → Nat
  | .lit (.string bytes) => bytes.length + 1
  | .lit _ => 1
  | .nil => 1
  | .ptr d => uptoBulk d + 1
  | .slice elems spare => uptoBulkAll elems + uptoBulkAll spare + 1
  | .agg parts => uptoBulkAll parts + 1
  | .iface _ d => uptoBulk d + 1
  | .map entries => uptoBulkEntries entries + 1
  | .held _ => 1
def uptoBulkAll {H : Type} : List (DataW H) → Nat
  | [] => 0
  | d :: r => uptoBulk d + uptoBulkAll r
def uptoBulkEntries {H : Type} : List (Lit × DataW H) → Nat
  | [] => 0
  | x :: r => uptoBulkEntry x + uptoBulkEntries r
def uptoBulkEntry {H : Type} : Lit × DataW H → Nat
  | (.string bytes, d) => bytes.length + uptoBulk d + 1
  | (_, d) => uptoBulk d + 1
 end
def uptoSmall : (H : Type) → List (DataW H) → Bool := fun _ ds => decide (uptoBulkAll ds ≤ 1048576)
def OpenSpec.upto (s : _root_.Go.ChangeSpec) : _root_.Go.OpenSpec := { _root_.Go.OpenSpec.ofChange s with cond := some uptoSmall }

/-- 'entrepotlaw3.FloatKinds', WHERE WHAT IT READS IS OF BULK AT MOST 1048576: true; the input reads as it did. -/
def floatKindsUptoRow : OpenClaim := { program := "ytpmfnhcnldoelaadoor", sum := "1b0fefc827ca576220c31431e79744984315f3876cb3f76b51b5dc153d79ea51", func := "entrepot/entrepotlaw3.FloatKinds", spec := "floatKinds", inPlace := ["math.Float64bits", "math.Float64frombits"], named := ["math/bits.deBruijn64tab"], apart := false, laid := [("math/bits.deBruijn64tab", laid_math_bits_deBruijn64tab)], narrowed := true }
def FloatKindsUptoSaid : Prop := floatKindsUptoRow.holds Tryd.pinned (OpenSpec.upto floatKindsSpec)

/-- 'entrepotlaw3.FloatWidths', WHERE WHAT IT READS IS OF BULK AT MOST 1048576: true; the input reads as it did. -/
def floatWidthsUptoRow : OpenClaim := { program := "ytpmfnhcnldoelaadoor", sum := "1b0fefc827ca576220c31431e79744984315f3876cb3f76b51b5dc153d79ea51", func := "entrepot/entrepotlaw3.FloatWidths", spec := "floatWidths", inPlace := ["math.Float64frombits", "math.Float32bits", "math.Float32frombits", "math.Float64bits"], named := ["math/bits.deBruijn64tab"], apart := false, laid := [("math/bits.deBruijn64tab", laid_math_bits_deBruijn64tab)], narrowed := true }
def FloatWidthsUptoSaid : Prop := floatWidthsUptoRow.holds Tryd.pinned (OpenSpec.upto floatWidthsSpec)

/-- 'entrepotlaw3.FloatBack', WHERE WHAT IT READS IS OF BULK AT MOST 1048576: true; the input reads as it did. -/
def floatBackUptoRow : OpenClaim := { program := "ytpmfnhcnldoelaadoor", sum := "1b0fefc827ca576220c31431e79744984315f3876cb3f76b51b5dc153d79ea51", func := "entrepot/entrepotlaw3.FloatBack", spec := "floatBack", inPlace := ["math.Float64bits", "math.Float64frombits", "math.Float32frombits", "math.Float32bits"], named := ["math/bits.deBruijn64tab"], apart := false, laid := [("math/bits.deBruijn64tab", laid_math_bits_deBruijn64tab)], narrowed := true }
def FloatBackUptoSaid : Prop := floatBackUptoRow.holds Tryd.pinned (OpenSpec.upto floatBackSpec)

/-- 'entrepotlaw3.FloatSigns', WHERE WHAT IT READS IS OF BULK AT MOST 1048576: true; the input reads as it did. -/
def floatSignsUptoRow : OpenClaim := { program := "ytpmfnhcnldoelaadoor", sum := "1b0fefc827ca576220c31431e79744984315f3876cb3f76b51b5dc153d79ea51", func := "entrepot/entrepotlaw3.FloatSigns", spec := "floatSigns", inPlace := ["math.Float64frombits", "math.Float32bits", "math.Float32frombits", "math.Float64bits"], named := ["math/bits.deBruijn64tab"], apart := false, laid := [("math/bits.deBruijn64tab", laid_math_bits_deBruijn64tab)], narrowed := true }
def FloatSignsUptoSaid : Prop := floatSignsUptoRow.holds Tryd.pinned (OpenSpec.upto floatSignsSpec)

/-- 'entrepotlaw3.FloatPowers', WHERE WHAT IT READS IS OF BULK AT MOST 1048576: true; the input reads as it did. -/
def floatPowersUptoRow : OpenClaim := { program := "ytpmfnhcnldoelaadoor", sum := "1b0fefc827ca576220c31431e79744984315f3876cb3f76b51b5dc153d79ea51", func := "entrepot/entrepotlaw3.FloatPowers", spec := "floatPowers", inPlace := ["math.Float64frombits", "math.Float32bits", "math.Float32frombits", "math.Float64bits"], named := ["math/bits.deBruijn64tab"], apart := false, laid := [("math/bits.deBruijn64tab", laid_math_bits_deBruijn64tab)], narrowed := true }
def FloatPowersUptoSaid : Prop := floatPowersUptoRow.holds Tryd.pinned (OpenSpec.upto floatPowersSpec)

/-- 'entrepotlaw3.FloatHalves', WHERE WHAT IT READS IS OF BULK AT MOST 1048576: true; the input reads as it did. -/
def floatHalvesUptoRow : OpenClaim := { program := "ytpmfnhcnldoelaadoor", sum := "1b0fefc827ca576220c31431e79744984315f3876cb3f76b51b5dc153d79ea51", func := "entrepot/entrepotlaw3.FloatHalves", spec := "floatHalves", inPlace := ["math.Float32frombits", "math.Float64bits", "math.Float64frombits", "math.Float32bits"], named := ["math/bits.deBruijn64tab"], apart := false, laid := [("math/bits.deBruijn64tab", laid_math_bits_deBruijn64tab)], narrowed := true }
def FloatHalvesUptoSaid : Prop := floatHalvesUptoRow.holds Tryd.pinned (OpenSpec.upto floatHalvesSpec)

/-- 'entrepotlaw3.FloatNaNs', WHERE WHAT IT READS IS OF BULK AT MOST 1048576: true; the input reads as it did. -/
def floatNaNsUptoRow : OpenClaim := { program := "ytpmfnhcnldoelaadoor", sum := "1b0fefc827ca576220c31431e79744984315f3876cb3f76b51b5dc153d79ea51", func := "entrepot/entrepotlaw3.FloatNaNs", spec := "floatNaNs", inPlace := ["math.Float64frombits", "math.Float32bits", "math.Float32frombits", "math.Float64bits"], named := ["math/bits.deBruijn64tab"], apart := false, laid := [("math/bits.deBruijn64tab", laid_math_bits_deBruijn64tab)], narrowed := true }
def FloatNaNsUptoSaid : Prop := floatNaNsUptoRow.holds Tryd.pinned (OpenSpec.upto floatNaNsSpec)

/-- 'entrepotlaw3.FloatWholes', WHERE WHAT IT READS IS OF BULK AT MOST 1048576: true; the input reads as it did. -/
def floatWholesUptoRow : OpenClaim := { program := "ytpmfnhcnldoelaadoor", sum := "1b0fefc827ca576220c31431e79744984315f3876cb3f76b51b5dc153d79ea51", func := "entrepot/entrepotlaw3.FloatWholes", spec := "floatWholes", inPlace := ["math.Float64bits", "math.Float64frombits"], named := ["math/bits.deBruijn64tab"], apart := false, laid := [("math/bits.deBruijn64tab", laid_math_bits_deBruijn64tab)], narrowed := true }
def FloatWholesUptoSaid : Prop := floatWholesUptoRow.holds Tryd.pinned (OpenSpec.upto floatWholesSpec)

end Rows
end Go.Proofs.YtpmfnhcnldoelaaDoor
