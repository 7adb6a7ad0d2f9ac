/- Rows of digits of the call's own: read, written. -/
import Derived.Test.YtbakgmkkebnhkaaDoorDb
namespace Go.Proofs.YtbakgmkkebnhkaaDoor
open Go.RowKit
theorem dig_split (V j : Nat) : V = V % 2 ^ (32 * j) + 2 ^ (32 * j) * (dig V j + 4294967296 * (V / 2 ^ (32 * (j + 1)))) := by
  unfold dig
  rw [show 32 * (j + 1) = 32 * j + 32 from by omega, Nat.pow_add, ← Nat.div_div_eq_div_mul, show (2 : Nat) ^ 32 = 4294967296 from by decide, Nat.mod_add_div, Nat.mod_add_div]
/-- a number with one digit set -/
def sd (V j d : Nat) : Nat := V % 2 ^ (32 * j) + 2 ^ (32 * j) * (d + 4294967296 * (V / 2 ^ (32 * (j + 1))))
theorem sd_add (V j d : Nat) : sd V j d + dig V j * 2 ^ (32 * j) = V + d * 2 ^ (32 * j) := by
  have h := dig_split V j
  unfold sd
  generalize V % 2 ^ (32 * j) = L at *
  generalize V / 2 ^ (32 * (j + 1)) = H at *
  generalize dig V j = x at *
  generalize 2 ^ (32 * j) = B at *
  rw [h, Nat.mul_add, Nat.mul_add, Nat.mul_comm x B, Nat.mul_comm d B]
  omega
theorem dig_of_split {L B d H j : Nat} (hB : B = 2 ^ (32 * j)) (hL : L < B) (hd : d < 4294967296) (i : Nat) : dig (L + B * (d + 4294967296 * H)) i = if i < j then dig L i else if i = j then d else dig H (i - j - 1) := by
  subst hB
  have hp := Nat.two_pow_pos (32 * j)
  unfold dig
  by_cases c : i < j
  · rw [if_pos c]
    have e : (2 : Nat) ^ (32 * j) = 2 ^ (32 * i) * (2 ^ (32 * (j - i - 1)) * 4294967296) := by
      rw [show (4294967296 : Nat) = 2 ^ 32 from by decide, ← Nat.pow_add, ← Nat.pow_add]
      congr 1
      omega
    rw [e, Nat.mul_assoc, Nat.add_mul_div_left _ _ (Nat.two_pow_pos _), Nat.mul_right_comm, Nat.add_mul_mod_self_right]
  · rw [if_neg c]
    have hq : (L + 2 ^ (32 * j) * (d + 4294967296 * H)) / 2 ^ (32 * j) = d + 4294967296 * H := by
      rw [Nat.add_mul_div_left _ _ hp, Nat.div_eq_of_lt hL, Nat.zero_add]
    by_cases e : i = j
    · subst e
      rw [if_pos rfl, hq]
      omega
    · rw [if_neg e, show 32 * i = 32 * j + (32 + 32 * (i - j - 1)) from by omega, Nat.pow_add, ← Nat.div_div_eq_div_mul, hq, Nat.pow_add, ← Nat.div_div_eq_div_mul, show (2 : Nat) ^ 32 = 4294967296 from by decide]
      congr 2
      omega
theorem dig_sd (V j d : Nat) (hd : d < 4294967296) (i : Nat) : dig (sd V j d) i = if i = j then d else dig V i := by
  have hL : V % 2 ^ (32 * j) < 2 ^ (32 * j) := Nat.mod_lt _ (Nat.two_pow_pos _)
  unfold sd
  rw [dig_of_split rfl hL hd]
  have h2 := dig_of_split (L := V % 2 ^ (32 * j)) (d := dig V j) (H := V / 2 ^ (32 * (j + 1))) (j := j) rfl hL (dig_lt V j) i
  rw [← dig_split] at h2
  rw [h2]
  by_cases c : i = j
  · subst c
    rw [if_neg (by omega), if_pos rfl, if_pos rfl]
  · rw [if_neg c, if_neg c]
    by_cases e : i < j
    · rw [if_pos e, if_pos e]
    · rw [if_neg e, if_neg e, if_neg c]
theorem digl_set {V n j d : Nat} (hd : d < 4294967296) : (digl V n).set j (.int .u32 (d : Nat)) = digl (sd V j d) n := by
  apply List.ext_getElem?
  intro i
  rw [List.getElem?_set, digl_length]
  by_cases c : i < n
  · rw [digl_get c, digl_get c, dig_sd V j d hd]
    by_cases e : j = i
    · subst e
      rw [if_pos rfl, if_pos c, if_pos rfl]
    · rw [if_neg e, if_neg (fun h => e h.symm)]
  · rw [List.getElem?_eq_none (by rw [digl_length]; omega), List.getElem?_eq_none (by rw [digl_length]; omega)]
    split
    · rename_i h
      rw [if_neg (by omega)]
    · rfl
theorem dig_0 (j : Nat) : dig 0 j = 0 := by simp [dig]
theorem madeCells_digl (n : Nat) : (madeCells (Value.int .u32 0).cells (n * 1)).toList = digl 0 n := by
  apply List.ext_getElem?
  intro j
  by_cases c : j < n
  · rw [digl_get c, dig_0]
    simp [madeCells, Value.cells, c, Nat.mod_one]
  · rw [List.getElem?_eq_none (by rw [Array.length_toList, size_madeCells]; omega), List.getElem?_eq_none (by rw [digl_length]; omega)]
theorem sd_lt {V n j d : Nat} (hV : V < 2 ^ (32 * n)) (hj : j < n) (hd : d < 4294967296) : sd V j d < 2 ^ (32 * n) := by
  have h1 : V / 2 ^ (32 * (j + 1)) < 2 ^ (32 * (n - j - 1)) := by
    rw [Nat.div_lt_iff_lt_mul (Nat.two_pow_pos _), ← Nat.pow_add, show 32 * (n - j - 1) + 32 * (j + 1) = 32 * n from by omega]
    exact hV
  have h2 : V % 2 ^ (32 * j) < 2 ^ (32 * j) := Nat.mod_lt _ (Nat.two_pow_pos _)
  unfold sd
  have e : (2 : Nat) ^ (32 * n) = 2 ^ (32 * j) * (4294967296 * 2 ^ (32 * (n - j - 1))) := by
    rw [show (4294967296 : Nat) = 2 ^ 32 from by decide, ← Nat.pow_add, ← Nat.pow_add]
    congr 1
    omega
  rw [e]
  generalize V / 2 ^ (32 * (j + 1)) = H at *
  generalize 2 ^ (32 * (n - j - 1)) = T at *
  generalize V % 2 ^ (32 * j) = L at *
  generalize 2 ^ (32 * j) = B at *
  have h3 : d + 4294967296 * H + 1 ≤ 4294967296 * T := by omega
  have h4 := Nat.mul_le_mul_left B h3
  rw [Nat.mul_add, Nat.mul_one] at h4
  omega
end Go.Proofs.YtbakgmkkebnhkaaDoor
