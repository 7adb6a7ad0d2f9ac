/- Plain facts on floats: what the functions of package float answer. No program in sight. -/
import Derived.Test.YtminijokbeclhaaDoorMathFl
namespace Go.Proofs.YtminijokbeclhaaDoor
open Go.RowKit
/-- Is a float a whole number? -/
def whk (b : Nat) : Bool := fin b && decide (0 ≤ pk b) && shlOk (pm b) (pk b)
/-- its size -/
def whV (b : Nat) : Nat := if whk b = true then pm b * 2 ^ (pk b).toNat else 0
/-- its sign -/
def whN (b : Nat) : Bool := whk b && (b / 9223372036854775808 == 1) && decide (0 < pm b)
/-- how many bits stand behind the point -/
def beh (b : Nat) : Nat := (-(pk b)).toNat
/-- the class -/
def cls (b : Nat) : Int := if whk b = true then 0 else if fin b = true then (if 1 ≤ beh b ∧ beh b ≤ 64 then 1 else 2) else if b = 9218868437227405312 then 4 else if b = 18442240474082181120 then 8 else 16
/-- May bits be those of a value? -/
def mayF (b : Nat) : Bool := cls b != 0 && (cls b != 16 || b == 9221120237041090560)
/-- every NaN is the one -/
def canonF (b : Nat) : Nat := if cls b = 16 then 9221120237041090560 else b
end Go.Proofs.YtminijokbeclhaaDoor
