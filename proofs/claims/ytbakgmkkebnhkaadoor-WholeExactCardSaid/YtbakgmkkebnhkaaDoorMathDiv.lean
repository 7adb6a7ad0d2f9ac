/- Plain facts: a number of two limbs divided by one (math/bits.Div64: two digits of 32 bits, one behind the other). -/
import Derived.Test.YtbakgmkkebnhkaaDoorMathShl
namespace Go.Proofs.YtbakgmkkebnhkaaDoor
open Go.RowKit
/-- One digit of the quotient: what the search keeps. u: the rest so far, d: the next digit, y = y1 2^32 + y0: the divisor. -/
structure DivI (u d y q r : Nat) : Prop where
  e : q * (y / 4294967296) + r = u
  k : (u * 4294967296 + d) / y ≤ q
  l : q ≤ 4294967297
theorem div_start {u d y : Nat} (hy : 9223372036854775808 ≤ y) (hy2 : y < 18446744073709551616) (hu : u < y) (hd : d < 4294967296) : DivI u d y (u / (y / 4294967296)) (u - u / (y / 4294967296) * (y / 4294967296)) := by
  have h1 : 2147483648 ≤ y / 4294967296 := by omega
  have hm := Nat.div_mul_le_self u (y / 4294967296)
  refine ⟨by omega, ?_, ?_⟩
  · apply Nat.le_of_lt_succ
    rw [Nat.div_lt_iff_lt_mul (by omega)]
    have h2 : u < (u / (y / 4294967296) + 1) * (y / 4294967296) := by
      have := Nat.lt_div_mul_add (a := u) (b := y / 4294967296) (by omega)
      rw [Nat.add_mul, Nat.one_mul]
      exact this
    have h3 : (u / (y / 4294967296) + 1) * (y / 4294967296) * 4294967296 ≤ (u / (y / 4294967296) + 1) * y := by
      rw [Nat.mul_assoc]
      exact Nat.mul_le_mul_left _ (Nat.div_mul_le_self y 4294967296)
    have h4 : (u + 1) * 4294967296 ≤ (u / (y / 4294967296) + 1) * (y / 4294967296) * 4294967296 := Nat.mul_le_mul_right _ h2
    rw [Nat.succ_eq_add_one]
    omega
  · apply Nat.le_of_lt_succ
    rw [Nat.div_lt_iff_lt_mul (by omega), Nat.succ_eq_add_one]
    omega
/-- the test says yes: the digit is too great -/
theorem div_step {u d y q r : Nat} (hy : 9223372036854775808 ≤ y) (hu : u < y) (hd : d < 4294967296) (I : DivI u d y q r) (_hr : r < 4294967296) (h : 4294967296 ≤ q ∨ 4294967296 * r + d < q * (y % 4294967296)) : 1 ≤ q ∧ DivI u d y (q - 1) (r + y / 4294967296) := by
  have hQ : (u * 4294967296 + d) / y < q := by
    rw [Nat.div_lt_iff_lt_mul (by omega)]
    rcases h with h | h
    · have h1 : (u + 1) * 4294967296 ≤ y * 4294967296 := Nat.mul_le_mul_right _ hu
      have h2 : y * 4294967296 ≤ y * q := Nat.mul_le_mul_left _ h
      rw [Nat.mul_comm q y]
      generalize y * q = A at *
      omega
    · have e1 := I.e
      have hsplit : y = y / 4294967296 * 4294967296 + y % 4294967296 := by omega
      have e2 : q * y = q * (y / 4294967296) * 4294967296 + q * (y % 4294967296) := by
        conv => lhs; rw [hsplit]
        rw [Nat.mul_add, Nat.mul_assoc]
      rw [e2]
      generalize q * (y / 4294967296) = A at e1 ⊢
      generalize q * (y % 4294967296) = B at h ⊢
      omega
  have hq1 : 1 ≤ q := Nat.lt_of_le_of_lt (Nat.zero_le _) hQ
  refine ⟨hq1, ⟨?_, Nat.le_sub_one_of_lt hQ, by have := I.l; omega⟩⟩
  have e1 := I.e
  obtain ⟨p, rfl⟩ : ∃ p, q = p + 1 := ⟨q - 1, by omega⟩
  rw [Nat.add_mul, Nat.one_mul] at e1
  rw [Nat.add_sub_cancel]
  omega
/-- it says no, or there is nothing more to test: this is the digit -/
theorem div_done {u d y q r : Nat} (hy : 9223372036854775808 ≤ y) (_hd : d < 4294967296) (I : DivI u d y q r) (h : q * (y % 4294967296) ≤ 4294967296 * r + d) : q = (u * 4294967296 + d) / y := by
  apply Nat.le_antisymm _ I.k
  rw [Nat.le_div_iff_mul_le (by omega)]
  have e1 := I.e
  have hsplit : y = y / 4294967296 * 4294967296 + y % 4294967296 := by omega
  have e2 : q * y = q * (y / 4294967296) * 4294967296 + q * (y % 4294967296) := by
    conv => lhs; rw [hsplit]
    rw [Nat.mul_add, Nat.mul_assoc]
  rw [e2]
  generalize q * (y / 4294967296) = A at *
  generalize q * (y % 4294967296) = B at *
  omega
theorem div_break {_u d y q r : Nat} (_hy2 : y < 18446744073709551616) (hq : q ≤ 4294967296) (hr : 4294967296 ≤ r) : q * (y % 4294967296) ≤ 4294967296 * r + d := by
  have h1 : q * (y % 4294967296) ≤ 4294967296 * (y % 4294967296) := Nat.mul_le_mul_right _ hq
  have h2 : y % 4294967296 < 4294967296 := Nat.mod_lt _ (by decide)
  omega
/-- two digits, one behind the other: Q and R the first one's quotient and rest -/
theorem div_two {u d1 d0 y Q R : Nat} (hy : 0 < y) (h : y * Q + R = u * 4294967296 + d1) : Q * 4294967296 + (R * 4294967296 + d0) / y = (u * 18446744073709551616 + (d1 * 4294967296 + d0)) / y ∧
    (R * 4294967296 + d0) % y = (u * 18446744073709551616 + (d1 * 4294967296 + d0)) % y := by
  have e : u * 18446744073709551616 + (d1 * 4294967296 + d0) = (R * 4294967296 + d0) + y * (Q * 4294967296) := by
    have e2 : (y * Q + R) * 4294967296 = (u * 4294967296 + d1) * 4294967296 := by rw [h]
    rw [Nat.add_mul, Nat.mul_assoc] at e2
    generalize y * (Q * 4294967296) = A at *
    clear h hy
    omega
  rw [e, Nat.add_mul_div_left _ _ hy, Nat.add_mul_mod_self_left]
  exact ⟨Nat.add_comm _ _, rfl⟩
/-- what is divided and the divisor moved alike -/
theorem div_norm {a y s : Nat} : (a * 2 ^ s) / (y * 2 ^ s) = a / y ∧ (a * 2 ^ s) % (y * 2 ^ s) = a % y * 2 ^ s :=
  ⟨Nat.mul_div_mul_right _ _ (Nat.two_pow_pos s), Nat.mul_mod_mul_right _ _ _⟩
end Go.Proofs.YtbakgmkkebnhkaaDoor
