/- Contracts of the document's digits: Mul. -/
import Derived.Test.YtbakgmkkebnhkaaDoorDc
import Derived.Deep.QuietTactic
import Derived.BigQuiet
namespace Go.Proofs.YtbakgmkkebnhkaaDoor
open Go.RowKit
theorem mod_succ (V j : Nat) : V % 2 ^ (32 * (j + 1)) = V % 2 ^ (32 * j) + dig V j * 2 ^ (32 * j) := by
  unfold dig
  rw [show 32 * (j + 1) = 32 * j + 32 from by omega, Nat.pow_add, Nat.mod_mul, show (2 : Nat) ^ 32 = 4294967296 from by decide, Nat.mul_comm (2 ^ (32 * j))]
/-- one step of the product -/
theorem mul_step {P P0 A B c x d y k j : Nat} (hI : P + c * 2 ^ (32 * (k + j)) = P0 + d * (B % 2 ^ (32 * j)) * 2 ^ (32 * k)) (hx : x = dig P (k + j)) (hy : y = dig B j) (_hA : d = dig A k) :
    sd P (k + j) ((c + x + d * y) % 4294967296) + (c + x + d * y) / 4294967296 * 2 ^ (32 * (k + (j + 1))) = P0 + d * (B % 2 ^ (32 * (j + 1))) * 2 ^ (32 * k) := by
  have h1 := sd_add P (k + j) ((c + x + d * y) % 4294967296)
  rw [← hx] at h1
  have h2 : (2 : Nat) ^ (32 * (k + (j + 1))) = 4294967296 * 2 ^ (32 * (k + j)) := by
    rw [show 32 * (k + (j + 1)) = 32 + 32 * (k + j) from by omega, Nat.pow_add, show (2 : Nat) ^ 32 = 4294967296 from by decide]
  have h3 : d * (B % 2 ^ (32 * (j + 1))) * 2 ^ (32 * k) = d * (B % 2 ^ (32 * j)) * 2 ^ (32 * k) + d * y * 2 ^ (32 * (k + j)) := by
    rw [mod_succ, ← hy, Nat.mul_add, Nat.add_mul, show 32 * (k + j) = 32 * j + 32 * k from by omega, Nat.pow_add, ← Nat.mul_assoc, ← Nat.mul_assoc]
  rw [h2, h3, ← Nat.add_assoc, ← hI]
  generalize sd P (k + j) ((c + x + d * y) % 4294967296) = S at *
  generalize 2 ^ (32 * (k + j)) = T at *
  generalize hm : c + x + d * y = m at *
  have h4 : m % 4294967296 * T + m / 4294967296 * (4294967296 * T) = m * T := by
    have h6 : m % 4294967296 + m / 4294967296 * 4294967296 = m := by omega
    rw [← Nat.mul_assoc, ← Nat.add_mul, h6]
  have h5 : m * T = c * T + x * T + d * y * T := by rw [← hm, Nat.add_mul, Nat.add_mul]
  omega
theorem mul_bound {P c A B k j lb : Nat} (hB : B < 2 ^ (32 * lb)) (hj : lb ≤ j) (hI : P + c * 2 ^ (32 * (k + j)) = (A % 2 ^ (32 * k)) * B + dig A k * (B % 2 ^ (32 * j)) * 2 ^ (32 * k)) (hc : 0 < c) : j ≤ lb := by
  have h1 : B % 2 ^ (32 * j) = B := Nat.mod_eq_of_lt (Nat.lt_of_lt_of_le hB (Nat.pow_le_pow_right (by decide) (by omega)))
  rw [h1, Nat.mul_right_comm, ← Nat.add_mul, ← mod_succ] at hI
  have h2 : A % 2 ^ (32 * (k + 1)) < 2 ^ (32 * (k + 1)) := Nat.mod_lt _ (Nat.two_pow_pos _)
  have h3 : 2 ^ (32 * (k + j)) < 2 ^ (32 * (k + 1) + 32 * lb) := by
    rw [Nat.pow_add]
    have h4 : 2 ^ (32 * (k + j)) ≤ c * 2 ^ (32 * (k + j)) := Nat.le_mul_of_pos_left _ hc
    have h5 : A % 2 ^ (32 * (k + 1)) * B < 2 ^ (32 * (k + 1)) * 2 ^ (32 * lb) := by
      have hp := Nat.two_pow_pos (32 * lb)
      rcases Nat.eq_zero_or_pos (A % 2 ^ (32 * (k + 1))) with h0 | h0
      · rw [h0, Nat.zero_mul]; exact Nat.mul_pos (Nat.two_pow_pos _) hp
      · exact Nat.mul_lt_mul_of_lt_of_le h2 (Nat.le_of_lt hB) (by omega)
    omega
  have := (Nat.pow_lt_pow_iff_right (by decide : 1 < 2)).1 h3
  omega
theorem mul_end {P A B k j lb : Nat} (hB : B < 2 ^ (32 * lb)) (hj : lb ≤ j) (hI : P + 0 * 2 ^ (32 * (k + j)) = (A % 2 ^ (32 * k)) * B + dig A k * (B % 2 ^ (32 * j)) * 2 ^ (32 * k)) : P = (A % 2 ^ (32 * (k + 1))) * B := by
  have h1 : B % 2 ^ (32 * j) = B := Nat.mod_eq_of_lt (Nat.lt_of_lt_of_le hB (Nat.pow_le_pow_right (by decide) (by omega)))
  rw [h1, Nat.mul_right_comm, ← Nat.add_mul, ← mod_succ] at hI
  omega
end Go.Proofs.YtbakgmkkebnhkaaDoor
