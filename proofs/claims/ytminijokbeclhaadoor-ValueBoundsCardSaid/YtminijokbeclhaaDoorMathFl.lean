/- Plain facts on a float of 64 bits: its fields, its odd number and the power of two that it is shifted by. No program in sight. -/
import Derived.Test.YtminijokbeclhaaDoorMathShl
namespace Go.Proofs.YtminijokbeclhaaDoor
open Go.RowKit
/-- the exponent's field, the fraction's field -/
def fe (b : Nat) : Nat := b / 4503599627370496 % 2048
def fm (b : Nat) : Nat := b % 4503599627370496
/-- the number ahead of its power of two -/
def mant (b : Nat) : Nat := if fe b = 0 then fm b else fm b + 4503599627370496
/-- Is it finite? -/
def fin (b : Nat) : Bool := fe b != 2047
/-- the odd part of a finite float's number (0 of 0); by how much it is shifted to the left -/
def pm (b : Nat) : Nat := if fe b = 2047 then 0 else mant b / 2 ^ tz (mant b)
def pk (b : Nat) : Int := if fe b = 2047 ∨ mant b = 0 then 0 else (if fe b = 0 then 1 else (fe b : Int)) - 1075 + (tz (mant b) : Int)
theorem fe_le (b : Nat) : fe b ≤ 2047 := by unfold fe; omega
theorem fm_lt (b : Nat) : fm b < 4503599627370496 := by unfold fm; omega
theorem mant_lt (b : Nat) : mant b < 9007199254740992 := by
  have := fm_lt b
  unfold mant
  split <;> omega
theorem tz_mant (b : Nat) : tz (mant b) ≤ 52 := by
  by_cases h0 : mant b = 0
  · rw [h0, tz_zero]; omega
  · have h1 := tz_lt_bl (n := mant b) (by omega)
    have h2 : bl (mant b) ≤ 53 := (bl_le_iff _ 53).2 (mant_lt b)
    omega
theorem pm_lt (b : Nat) : pm b < 9007199254740992 := by
  unfold pm
  split
  · omega
  · exact Nat.lt_of_le_of_lt (Nat.div_le_self _ _) (mant_lt b)
theorem pk_le (b : Nat) : pk b ≤ 1023 ∧ -1074 ≤ pk b := by
  have h1 := tz_mant b
  have h2 := fe_le b
  unfold pk
  split
  · omega
  · split <;> omega
/-- What is finite and not 0 has an odd number. -/
theorem pm_odd {b : Nat} (h1 : fe b ≠ 2047) (h2 : mant b ≠ 0) : pm b % 2 = 1 := by
  unfold pm
  rw [if_neg h1]
  exact odd_part_odd (by omega)
theorem pm_zero_iff (b : Nat) : pm b = 0 ↔ fe b = 2047 ∨ mant b = 0 := by
  constructor
  · intro h
    by_cases h1 : fe b = 2047
    · exact .inl h1
    · by_cases h2 : mant b = 0
      · exact .inr h2
      · have := pm_odd h1 h2
        omega
  · rintro (h | h)
    · simp [pm, h]
    · simp [pm, h]
theorem pk_zero {b : Nat} (h : pm b = 0) : pk b = 0 := by
  have := (pm_zero_iff b).1 h
  simp [pk, this]

/-! the walk's own forms -/
theorem wand52 {b : Nat} (hb : b < 18446744073709551616) : bits BinOp.and IntKind.u64 (b : Int) 4503599627370495 = ((fm b : Nat) : Int) := by
  have h := u64_and_nat b 4503599627370495 hb (by omega)
  rw [show (b &&& 4503599627370495) = fm b from Nat.and_two_pow_sub_one_eq_mod b 52] at h
  exact h
theorem wfe {b : Nat} (hb : b < 18446744073709551616) : bits BinOp.and IntKind.u64 ((b : Int) / 4503599627370496) 2047 = ((fe b : Nat) : Int) := by
  have h := u64_and_nat (b / 4503599627370496) 2047 (by omega) (by omega)
  rw [show (b / 4503599627370496 &&& 2047) = fe b from Nat.and_two_pow_sub_one_eq_mod _ 11] at h
  rw [show ((b : Int) / 4503599627370496) = ((b / 4503599627370496 : Nat) : Int) from by omega]
  exact h
theorem wor52 {m : Nat} (hm : m < 4503599627370496) : bits BinOp.or IntKind.u64 (m : Int) 4503599627370496 = ((m + 4503599627370496 : Nat) : Int) := by
  have h := u64_or_nat m 4503599627370496 (by omega) (by omega)
  rw [Nat.or_comm, nat_join 52 4503599627370496 m (by decide) hm, Nat.add_comm] at h
  exact h
theorem weqt {a b : Nat} (h : a = b) : (((a : Nat) : Int) == (b : Int)) = true := by simp; omega
theorem weqf {a b : Nat} (h : a ≠ b) : (((a : Nat) : Int) == (b : Int)) = false := by simp; omega
theorem wdivpow (M t : Nat) : (M : Int) / 2 ^ t = ((M / 2 ^ t : Nat) : Int) := by simp
end Go.Proofs.YtminijokbeclhaaDoor
