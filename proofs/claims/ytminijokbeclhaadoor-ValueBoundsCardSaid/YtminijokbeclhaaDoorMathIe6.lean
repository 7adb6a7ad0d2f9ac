/- Plain facts on the model's floats of 64 bits: what a word stands for; order; a product by 1; the word of p times 2^k taken apart. No program in sight. -/
import Derived.Test.YtminijokbeclhaaDoorMathIeee
namespace Go.Proofs.YtminijokbeclhaaDoor
open Go.RowKit
/-- the place of a finite float's last bit -/
def plc (b : Nat) : Int := (if fe b = 0 then 1 else (fe b : Int)) - 1075
theorem plc_ge {b : Nat} : -1074 ≤ plc b := by unfold plc; split <;> omega
theorem read_fin {b : Nat} (hb : b < 18446744073709551616) (hf : fe b ≠ 2047) : Ieee.double.read b = .number (b / 9223372036854775808 == 1) (mant b) (plc b) := by
  obtain ⟨_, d2, d3, d4, d5⟩ := dblF
  have hfe := fe_le b
  unfold Ieee.Format.read
  simp only [d2, d3, d4, d5]
  have hs : b / 9223372036854775808 % 2 = b / 9223372036854775808 := by omega
  rw [hs]
  by_cases c : fe b = 0
  · have hr : b % 9223372036854775808 = fm b := by unfold fe at c; unfold fm; omega
    rw [hr, if_pos (fm_lt b)]
    simp [mant, plc, c]
  · have hr : b % 9223372036854775808 = fe b * 4503599627370496 + fm b := by unfold fe fm; omega
    have hfm := fm_lt b
    rw [if_neg (by rw [hr]; omega), if_pos (by rw [hr]; omega)]
    have e1 : b % 9223372036854775808 % 4503599627370496 = fm b := by rw [hr]; omega
    have e2 : b % 9223372036854775808 / 4503599627370496 = fe b := by rw [hr]; omega
    rw [e1, e2]
    congr 1
    · simp [mant, c]; omega
    · simp [plc, c]; omega
theorem read_inf {b : Nat} (hb : b < 18446744073709551616) (hf : fe b = 2047) : Ieee.double.read b = if fm b = 0 then .infinity (b / 9223372036854775808 == 1) else .nan (b / 9223372036854775808 == 1) (fm b) := by
  obtain ⟨_, d2, d3, d4, d5⟩ := dblF
  unfold Ieee.Format.read
  simp only [d2, d3, d4, d5]
  have hs : b / 9223372036854775808 % 2 = b / 9223372036854775808 := by omega
  have hr : b % 9223372036854775808 = 9218868437227405312 + fm b := by unfold fe at hf; unfold fm; omega
  rw [hs, hr, if_neg (by omega), if_neg (by omega)]
  by_cases c : fm b = 0
  · rw [if_pos (by omega), if_pos c]
  · rw [if_neg (by omega), if_neg c, Nat.add_sub_cancel_left]
/-- the sign bit of words below 2^63 -/
theorem pos_sign {b : Nat} (h : b < 9223372036854775808) : (b / 9223372036854775808 == 1) = false := by
  have : b / 9223372036854775808 = 0 := by omega
  rw [this]; rfl
theorem order_self {b : Nat} (hb : b < 18446744073709551616) (hf : fe b ≠ 2047) : Ieee.double.order b b = some .eq := by
  unfold Ieee.Format.order
  rw [read_fin hb hf]
  simp [Ieee.Datum.order, compare, compareOfLessAndEq]
theorem order_pos {x y : Nat} (hx : x < 9223372036854775808) (hy : y < 9223372036854775808) (fx : fe x ≠ 2047) (fy : fe y ≠ 2047) :
    Ieee.double.order x y = some (compare ((mant x * 2 ^ (plc x - min (plc x) (plc y)).toNat : Nat) : Int) ((mant y * 2 ^ (plc y - min (plc x) (plc y)).toNat : Nat) : Int)) := by
  unfold Ieee.Format.order
  rw [read_fin (by omega) fx, read_fin (by omega) fy, pos_sign hx, pos_sign hy]
  simp only [Ieee.Datum.order, Ieee.signed, Nat.shiftLeft_eq, Bool.false_eq_true, if_false]
theorem cmpIeee_lt {a b : Int} (h : a < b) : compare a b = .lt := by simp [compare, compareOfLessAndEq, h]
theorem cmpIeee_gt {a b : Int} (h : b < a) : compare a b = .gt := by
  have h1 : ¬ a < b := by omega
  have h2 : ¬ a = b := by omega
  simp [compare, compareOfLessAndEq, h1, h2]
theorem cmp_eq {a b : Int} (h : a = b) : compare a b = .eq := by subst h; simp [compare, compareOfLessAndEq]
/-- What is positive is not 0. -/
theorem order_zero {x : Nat} (hx : x < 9223372036854775808) (fx : fe x ≠ 2047) (hm : 0 < mant x) : (Ieee.double.order x 0 == some .eq) = false := by
  rw [order_pos hx (by decide) fx (by decide)]
  have h0 : mant 0 = 0 := by decide
  rw [h0, Nat.zero_mul]
  rw [cmpIeee_gt]
  · decide
  · have : 0 < mant x * 2 ^ (plc x - min (plc x) (plc 0)).toNat := Nat.mul_pos hm (Nat.two_pow_pos _)
    omega
/-- Nothing finite is above the greatest. -/
theorem order_max {x : Nat} (hx : x < 9223372036854775808) (fx : fe x ≠ 2047) : (Ieee.double.order x 9218868437227405311 == some .gt) = false := by
  rw [order_pos hx (by decide) fx (by decide)]
  have hm : mant 9218868437227405311 = 9007199254740991 := by decide
  have hp : plc 9218868437227405311 = 971 := by decide
  rw [hm, hp]
  have h1 := mant_lt x
  have h2 := fe_le x
  have h3 : plc x ≤ 971 := by unfold plc; split <;> omega
  have e : min (plc x) 971 = plc x := by omega
  rw [e]
  have e2 : (plc x - plc x).toNat = 0 := by omega
  rw [e2, Nat.pow_zero, Nat.mul_one]
  have h4 : mant x ≤ 9007199254740991 * 2 ^ (971 - plc x).toNat := by
    have : 9007199254740991 * 1 ≤ 9007199254740991 * 2 ^ (971 - plc x).toNat := Nat.mul_le_mul_left _ (Nat.two_pow_pos _)
    omega
  by_cases h5 : mant x = 9007199254740991 * 2 ^ (971 - plc x).toNat
  · rw [cmp_eq (by omega)]; decide
  · rw [cmpIeee_lt (by omega)]; decide
/-- What is normal is not below the least normal one. -/
theorem order_norm {x : Nat} (hx : x < 9223372036854775808) (fx : fe x ≠ 2047) (f0 : fe x ≠ 0) : (Ieee.double.order x 4503599627370496 == some .lt) = false := by
  rw [order_pos hx (by decide) fx (by decide)]
  have hm : mant 4503599627370496 = 4503599627370496 := by decide
  have hp : plc 4503599627370496 = -1074 := by decide
  rw [hm, hp]
  have h1 : 4503599627370496 ≤ mant x := by unfold mant; rw [if_neg f0]; omega
  have h3 := plc_ge (b := x)
  have e : min (plc x) (-1074) = -1074 := by omega
  rw [e]
  have e2 : ((-1074 : Int) - -1074).toNat = 0 := by omega
  rw [e2, Nat.pow_zero, Nat.mul_one]
  have h4 : 4503599627370496 ≤ mant x * 2 ^ (plc x - -1074).toNat := by
    have : mant x * 1 ≤ mant x * 2 ^ (plc x - -1074).toNat := Nat.mul_le_mul_left _ (Nat.two_pow_pos _)
    omega
  by_cases h5 : mant x * 2 ^ (plc x - -1074).toNat = 4503599627370496
  · rw [cmp_eq (by omega)]; decide
  · rw [cmpIeee_gt (by omega)]; decide
/-- a finite float's odd part and place, and its mantissa -/
theorem mant_pm {b : Nat} (hf : fe b ≠ 2047) (h0 : mant b ≠ 0) : 0 < pm b ∧ mant b = pm b * 2 ^ tz (mant b) ∧ plc b = pk b - tz (mant b) := by
  have h1 := pm_odd hf h0
  refine ⟨by omega, ?_, ?_⟩
  · unfold pm
    rw [if_neg hf]
    exact (odd_part_mul _).symm
  · have e : pk b = (if fe b = 0 then 1 else (fe b : Int)) - 1075 + (tz (mant b) : Int) := by
      unfold pk
      rw [if_neg (by omega)]
    unfold plc
    omega
/-- p times 2^k, if it is a float of 64 bits -/
def repD (p : Nat) (k : Int) : Prop := bl p ≤ 53 ∧ -1074 ≤ k ∧ k + bl p ≤ 1024
theorem encD_lt {p : Nat} {k : Int} (hp : 0 < p) (h : repD p k) : encF Ieee.double p k < 9218868437227405312 := by
  obtain ⟨d1, d2, d3, _, _⟩ := dblF
  obtain ⟨h1, h2, h3⟩ := h
  have hb := bl_pos hp
  by_cases c : k + bl p - 1 - 52 ≤ -1074
  · rw [encF_sub _ hp (by rw [d1, d2]; omega), d2]
    have : bl (p * 2 ^ (k - -1074).toNat) ≤ 53 := by rw [bl_mul_two_pow hp]; omega
    have := (bl_le_iff _ 53).1 this
    omega
  · rw [encF_normal _ hp (by rw [d1]; omega) (by rw [d1, d2]; omega), d1, d2, d3]
    obtain ⟨_, h5⟩ := top_bits (n := 52) hp (by omega)
    have h6 : (k + (bl p : Int) - 1 - ((52 : Nat) : Int) - -1074).toNat ≤ 2045 := by omega
    omega
theorem parts_enc {p : Nat} {k : Int} (hp : 0 < p) (h : repD p k) (s : Nat) (_hs : s ≤ 1) :
    fe (s * 9223372036854775808 + encF Ieee.double p k) ≠ 2047 ∧ mant (s * 9223372036854775808 + encF Ieee.double p k) ≠ 0 ∧ pm (s * 9223372036854775808 + encF Ieee.double p k) = p / 2 ^ tz p ∧ pk (s * 9223372036854775808 + encF Ieee.double p k) = k + tz p := by
  obtain ⟨d1, d2, d3, _, _⟩ := dblF
  have hlt := encD_lt hp h
  obtain ⟨h1, h2, h3⟩ := h
  have hb := bl_pos hp
  have hfe : fe (s * 9223372036854775808 + encF Ieee.double p k) = encF Ieee.double p k / 4503599627370496 := by unfold fe; omega
  have hfm : fm (s * 9223372036854775808 + encF Ieee.double p k) = encF Ieee.double p k % 4503599627370496 := by unfold fm; omega
  -- mantissa and place
  have key : ∃ j : Nat, mant (s * 9223372036854775808 + encF Ieee.double p k) = p * 2 ^ j ∧ plc (s * 9223372036854775808 + encF Ieee.double p k) = k - j := by
    by_cases c : k + bl p - 1 - 52 < -1074
    · have e := encF_sub Ieee.double hp (k := k) (by rw [d1, d2]; omega)
      rw [d2] at e
      have hs52 : bl (p * 2 ^ (k - -1074).toNat) ≤ 52 := by rw [bl_mul_two_pow hp]; omega
      have hs52 := (bl_le_iff _ 52).1 hs52
      refine ⟨(k - -1074).toNat, ?_, ?_⟩
      · unfold mant
        rw [hfe, hfm, e, if_pos (by omega)]
        omega
      · unfold plc
        rw [hfe, e, if_pos (by omega)]
        omega
    · have e := encF_normal Ieee.double hp (k := k) (by rw [d1]; omega) (by rw [d1, d2]; omega)
      rw [d1, d2, d3] at e
      obtain ⟨h5, h6⟩ := top_bits (n := 52) hp (by omega)
      generalize hM : p * 2 ^ (52 + 1 - bl p) = M at *
      refine ⟨52 + 1 - bl p, ?_, ?_⟩
      · unfold mant
        rw [hfe, hfm, e, if_neg (by omega), hM]
        omega
      · unfold plc
        rw [hfe, e, if_neg (by omega)]
        omega
  obtain ⟨j, hm, hpl⟩ := key
  have hm0 : mant (s * 9223372036854775808 + encF Ieee.double p k) ≠ 0 := by
    rw [hm]
    have := Nat.mul_pos hp (Nat.two_pow_pos j)
    omega
  have hf : fe (s * 9223372036854775808 + encF Ieee.double p k) ≠ 2047 := by rw [hfe]; omega
  obtain ⟨q1, q2, q3⟩ := mant_pm hf hm0
  have htz : tz (mant (s * 9223372036854775808 + encF Ieee.double p k)) = tz p + j := by rw [hm, tz_mul_two_pow hp]
  refine ⟨hf, hm0, ?_, ?_⟩
  · unfold pm
    rw [if_neg hf, htz, hm, Nat.pow_add, Nat.mul_div_mul_right _ _ (Nat.two_pow_pos j)]
  · rw [hpl, htz] at q3
    clear hlt hfe hfm hf hm0 q1 q2 hm htz hpl d1 d2 d3 _hs h1 h2 h3 hb
    generalize pk (s * 9223372036854775808 + encF Ieee.double p k) = P at q3 ⊢
    omega
theorem read_one : Ieee.double.read 4607182418800017408 = .number false 4503599627370496 (-52) := by decide +kernel
/-- A finite float's sign and rung are its word. -/
theorem word_fin {b : Nat} (hb : b < 18446744073709551616) : Ieee.double.word (b / 9223372036854775808 == 1) (b % 9223372036854775808) = b := by
  unfold Ieee.Format.word
  rw [dblF.2.2.2.2]
  by_cases hs : b / 9223372036854775808 = 1
  · have : (b / 9223372036854775808 == 1) = true := by simp [hs]
    rw [this, if_pos rfl]
    omega
  · have : (b / 9223372036854775808 == 1) = false := by simp [hs]
    rw [this]
    simp only [Bool.false_eq_true, if_false]
    omega
/-- A finite float's number, with j noughts behind it, is written as that float. -/
theorem write_fin {b : Nat} (hb : b < 18446744073709551616) (hf : fe b ≠ 2047) (j : Nat) (m : Nat) (p : Int) (hm : m = mant b * 2 ^ j) (hp : p = plc b - j) :
    Ieee.double.write (.number (b / 9223372036854775808 == 1) m p) = b := by
  obtain ⟨d1, d2, d3, d4, d5⟩ := dblF
  subst hm hp
  show Ieee.double.nearest (b / 9223372036854775808 == 1) (mant b * 2 ^ j) (plc b - j) = b
  by_cases h0 : mant b = 0
  · have hb0 : b % 9223372036854775808 = 0 := by
      have hfe := fe_le b
      unfold mant fe fm at h0
      split at h0 <;> omega
    rw [h0, Nat.zero_mul]
    unfold Ieee.Format.nearest
    rw [if_pos rfl]
    have := word_fin hb
    rw [hb0] at this
    exact this
  · obtain ⟨q1, q2, q3⟩ := mant_pm hf h0
    have hrep : encF Ieee.double (pm b) (pk b) < Ieee.double.infRung := by
      rw [enc_parts hf, d4]
      have hfe := fe_le b
      unfold fe at hfe hf
      omega
    have hbl : bl (pm b) ≤ 53 := (bl_le_iff _ 53).2 (by have := pm_lt b; omega)
    have key := nearest_repr Ieee.double (b / 9223372036854775808 == 1) q1 (tz (mant b) + j) (pk b) (by rw [d1]; omega) (by rw [d2]; exact (pk_le b).2) hrep
    have a1 : mant b * 2 ^ j = pm b * 2 ^ (tz (mant b) + j) := by
      rw [Nat.pow_add, ← Nat.mul_assoc, ← q2]
    have a2 : plc b - (j : Int) = pk b - ((tz (mant b) + j : Nat) : Int) := by omega
    rw [a1, a2, key, enc_parts hf]
    exact word_fin hb
/-- A product by 1. -/
theorem mul_one_fin {b : Nat} (hb : b < 18446744073709551616) (hf : fe b ≠ 2047) : Ieee.double.mul 4607182418800017408 b = some b := by
  unfold Ieee.Format.mul
  rw [read_one, read_fin hb hf]
  have h : Ieee.Datum.product (.number false 4503599627370496 (-52)) (.number (b / 9223372036854775808 == 1) (mant b) (plc b)) = some (.number (b / 9223372036854775808 == 1) (4503599627370496 * mant b) (-52 + plc b)) := by
    simp only [Ieee.Datum.product, Bool.false_xor]
  rw [h, Option.map_some, write_fin hb hf 52 _ _ (by rw [Nat.mul_comm]) (by omega)]
end Go.Proofs.YtminijokbeclhaaDoor
