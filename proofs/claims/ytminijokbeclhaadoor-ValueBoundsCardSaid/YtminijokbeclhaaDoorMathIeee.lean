/- Plain facts on the model's floats: a number that a format has is written as that, nothing rounded. No program in sight. -/
import Derived.Test.YtminijokbeclhaaDoorMathFlB
namespace Go.Proofs.YtminijokbeclhaaDoor
open Go.RowKit
/-- the rung of p times 2^k in a format that has it -/
def encF (f : Ieee.Format) (p : Nat) (k : Int) : Nat :=
  if p = 0 then 0 else (max (k + bl p - 1 - f.fractionBits) f.leastPlace - f.leastPlace).toNat * f.binade + p * 2 ^ (k - max (k + bl p - 1 - f.fractionBits) f.leastPlace).toNat
theorem log2_eq {n : Nat} (h : 0 < n) : n.log2 = bl n - 1 := by unfold bl; rw [if_neg (by omega)]; omega
theorem cut_even_exact (s : Bool) (n drop : Nat) (h : 2 ^ drop ∣ n) (h0 : 0 < n) : Ieee.Toward.even.cut s n drop = n / 2 ^ drop := by
  have hd : drop ≤ n.log2 := by
    rw [log2_eq h0]
    have h1 : 2 ^ drop ≤ n := Nat.le_of_dvd h0 h
    have h2 : ¬ bl n ≤ drop := by rw [bl_le_iff]; omega
    omega
  unfold Ieee.Toward.cut
  have hm : min drop (n.log2 + 2) = drop := by omega
  simp only [hm, Nat.shiftLeft_eq, Nat.one_mul]
  have hr : n % 2 ^ drop = 0 := Nat.mod_eq_zero_of_dvd h
  rw [hr]
  have hp : 0 < 2 ^ drop := Nat.two_pow_pos _
  have h1 : decide (2 ^ drop < 2 * 0) = false := by simp
  have h2 : (2 ^ drop == 2 * 0) = false := by simp
  rw [h1, h2]
  simp
/-- A number that the format has: p times 2^k, written as p 2^j times 2^(k - j). -/
theorem nearest_repr (f : Ieee.Format) (s : Bool) {p : Nat} (hp : 0 < p) (j : Nat) (k : Int) (hb : bl p ≤ f.fractionBits + 1) (hk : f.leastPlace ≤ k) (hi : encF f p k < f.infRung) :
    f.nearest s (p * 2 ^ j) (k - j) = f.word s (encF f p k) := by
  have hm : 0 < p * 2 ^ j := Nat.mul_pos hp (Nat.two_pow_pos j)
  have hbl := bl_pos hp
  unfold Ieee.Format.nearest
  rw [if_neg (by omega)]
  have hl : ((p * 2 ^ j).log2 : Int) = bl p - 1 + j := by
    rw [log2_eq hm, bl_mul_two_pow hp]
    omega
  rw [hl]
  have eL : max (k - (j : Int) + (bl p - 1 + j) - f.fractionBits) f.leastPlace = max (k + bl p - 1 - f.fractionBits) f.leastPlace := by
    congr 1
    omega
  simp only [eL]
  have hL : max (k + bl p - 1 - f.fractionBits) f.leastPlace ≤ k := by omega
  have key : Ieee.Toward.even.cut s ((p * 2 ^ j) <<< (k - (j : Int) - max (k + bl p - 1 - f.fractionBits) f.leastPlace).toNat) (max (k + bl p - 1 - f.fractionBits) f.leastPlace - (k - (j : Int))).toNat = p * 2 ^ (k - max (k + bl p - 1 - f.fractionBits) f.leastPlace).toNat := by
    generalize max (k + bl p - 1 - f.fractionBits) f.leastPlace = L at *
    rw [Nat.shiftLeft_eq, Nat.mul_assoc, ← Nat.pow_add]
    by_cases hc : L ≤ k - j
    · have e1 : (L - (k - (j : Int))).toNat = 0 := by omega
      rw [e1, cut_even_exact _ _ _ (by simp) (Nat.mul_pos hp (Nat.two_pow_pos _))]
      have e2 : j + (k - (j : Int) - L).toNat = (k - L).toNat := by omega
      rw [e2]
      simp
    · have e1 : (k - (j : Int) - L).toNat = 0 := by omega
      obtain ⟨d, hd⟩ : ∃ d : Nat, (L - (k - (j : Int))).toNat = d := ⟨_, rfl⟩
      have e2 : j = (k - L).toNat + d := by omega
      rw [e1, hd, Nat.add_zero]
      have e3 : p * 2 ^ j = p * 2 ^ (k - L).toNat * 2 ^ d := by
        rw [Nat.mul_assoc, ← Nat.pow_add]
        congr 2
      rw [e3, cut_even_exact _ _ _ (Nat.dvd_mul_left _ _) (Nat.mul_pos (Nat.mul_pos hp (Nat.two_pow_pos _)) (Nat.two_pow_pos _)), Nat.mul_div_cancel _ (Nat.two_pow_pos d)]
  rw [key]
  have hE : (max (k + bl p - 1 - f.fractionBits) f.leastPlace - f.leastPlace).toNat * f.binade + p * 2 ^ (k - max (k + bl p - 1 - f.fractionBits) f.leastPlace).toNat = encF f p k := by
    unfold encF
    rw [if_neg (by omega)]
  rw [hE]
  congr 1
  omega

/-- a half float's format -/
def halfF : Ieee.Format := { exponentBits := 5, fractionBits := 10 }
theorem encF_normal (f : Ieee.Format) {p : Nat} (hp : 0 < p) {k : Int} (hb : bl p ≤ f.fractionBits + 1) (h : f.leastPlace ≤ k + bl p - 1 - f.fractionBits) :
    encF f p k = (k + bl p - 1 - f.fractionBits - f.leastPlace).toNat * f.binade + p * 2 ^ (f.fractionBits + 1 - bl p) := by
  unfold encF
  rw [if_neg (by omega)]
  have e : max (k + bl p - 1 - f.fractionBits) f.leastPlace = k + bl p - 1 - f.fractionBits := by omega
  rw [e]
  congr 3
  omega
theorem encF_sub (f : Ieee.Format) {p : Nat} (hp : 0 < p) {k : Int} (h : k + bl p - 1 - f.fractionBits ≤ f.leastPlace) :
    encF f p k = p * 2 ^ (k - f.leastPlace).toNat := by
  unfold encF
  rw [if_neg (by omega)]
  have e : max (k + bl p - 1 - f.fractionBits) f.leastPlace = f.leastPlace := by omega
  rw [e]
  simp
/-- p's bits, moved to the left end of n + 1 bits -/
theorem top_bits {p n : Nat} (hp : 0 < p) (hb : bl p ≤ n + 1) : 2 ^ n ≤ p * 2 ^ (n + 1 - bl p) ∧ p * 2 ^ (n + 1 - bl p) < 2 ^ (n + 1) := by
  have h := bl_mul_two_pow hp (n + 1 - bl p)
  have e : bl p + (n + 1 - bl p) = n + 1 := by omega
  rw [e] at h
  have h1 := lt_two_pow_bl (p * 2 ^ (n + 1 - bl p))
  have h2 := two_pow_bl_le (n := p * 2 ^ (n + 1 - bl p)) (Nat.mul_pos hp (Nat.two_pow_pos _))
  rw [h] at h1 h2
  exact ⟨by simpa using h2, h1⟩

/-! ### floats of 64 bits -/
theorem dblF : Ieee.double.fractionBits = 52 ∧ Ieee.double.leastPlace = -1074 ∧ Ieee.double.binade = 4503599627370496 ∧ Ieee.double.infRung = 9218868437227405312 ∧ Ieee.double.signWeight = 9223372036854775808 := by decide
theorem sglF : Ieee.single.fractionBits = 23 ∧ Ieee.single.leastPlace = -149 ∧ Ieee.single.binade = 8388608 ∧ Ieee.single.infRung = 2139095040 ∧ Ieee.single.signWeight = 2147483648 := by decide
/-- A finite float is its sign and its rung. -/
theorem enc_parts {b : Nat} (hf : fe b ≠ 2047) : encF Ieee.double (pm b) (pk b) = b % 9223372036854775808 := by
  obtain ⟨d1, d2, d3, _, _⟩ := dblF
  have hfe := fe_le b
  have hfm := fm_lt b
  have hrest : b % 9223372036854775808 = fe b * 4503599627370496 + fm b := by unfold fe fm; omega
  by_cases h0 : mant b = 0
  · have hp : pm b = 0 := (pm_zero_iff b).2 (.inr h0)
    have h1 : fe b = 0 ∧ fm b = 0 := by
      unfold mant at h0
      split at h0
      · rename_i h; exact ⟨h, h0⟩
      · omega
    rw [hp, hrest, h1.1, h1.2]
    simp [encF]
  · have hp : 0 < pm b := by
      have := pm_odd hf h0
      omega
    have hm : pm b * 2 ^ tz (mant b) = mant b := by
      unfold pm
      rw [if_neg hf]
      exact odd_part_mul _
    have hblm : bl (pm b) + tz (mant b) = bl (mant b) := by rw [← hm, bl_mul_two_pow hp, hm]
    have hblp := bl_pos hp
    have hk : pk b = (if fe b = 0 then 1 else (fe b : Int)) - 1075 + (tz (mant b) : Int) := by
      unfold pk
      rw [if_neg (by omega)]
    by_cases c : fe b = 0
    · have em : mant b = fm b := by simp [mant, c]
      have hbm : bl (mant b) ≤ 52 := (bl_le_iff _ 52).2 (by rw [em]; exact hfm)
      rw [if_pos c] at hk
      rw [encF_sub _ hp (by rw [d1, d2]; omega), d2]
      have e : (pk b - -1074).toNat = tz (mant b) := by omega
      rw [e, hm, em, hrest, c]
      omega
    · have em : mant b = fm b + 4503599627370496 := by simp [mant, c]
      have hbm : bl (mant b) = 53 := bl_eq_iff (k := 52) (by rw [em]; omega) (by rw [em]; omega)
      rw [if_neg c] at hk
      rw [encF_normal _ hp (by rw [d1]; omega) (by rw [d1, d2]; omega), d1, d2, d3]
      have e : 52 + 1 - bl (pm b) = tz (mant b) := by omega
      rw [e, hm, em, hrest]
      have e2 : (pk b + (bl (pm b) : Int) - 1 - ((52 : Nat) : Int) - -1074).toNat = fe b - 1 := by omega
      rw [e2]
      omega
end Go.Proofs.YtminijokbeclhaaDoor
