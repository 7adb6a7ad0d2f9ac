/- Plain facts: shifting four limbs to the left and to the right is shifting the number. No program in sight. -/
import Derived.Test.YtekeedjhaakbhaaGreatDoorMath
import Derived.WalkKit
namespace Go.Proofs.YtekeedjhaakbhaaGreatDoor
open Go.RowKit

/-- length of four limbs -/
def len4 (a0 a1 a2 a3 : Nat) : Nat := if a3 ≠ 0 then 192 + bl a3 else if a2 ≠ 0 then 128 + bl a2 else if a1 ≠ 0 then 64 + bl a1 else bl a0
theorem bl_top {a b : Nat} (k : Nat) (hb : 0 < b) (ha : a < 2 ^ k) : bl (a + b * 2 ^ k) = k + bl b := by
  have h1 := two_pow_bl_le hb
  have h2 := lt_two_pow_bl b
  have h3 := bl_pos hb
  have e : k + bl b = (bl b - 1 + k) + 1 := by omega
  rw [e]
  apply bl_eq_iff
  · rw [Nat.pow_add]
    exact Nat.le_trans (Nat.mul_le_mul_right _ h1) (Nat.le_add_left _ _)
  · rw [show bl b - 1 + k + 1 = bl b + k from by omega, Nat.pow_add]
    calc a + b * 2 ^ k < 2 ^ k + b * 2 ^ k := by omega
      _ = (b + 1) * 2 ^ k := by rw [Nat.add_mul, Nat.one_mul, Nat.add_comm]
      _ ≤ 2 ^ bl b * 2 ^ k := Nat.mul_le_mul_right _ h2
theorem len4_3 {a b c d : Nat} (h : d ≠ 0) : len4 a b c d = 192 + bl d := if_pos h
theorem len4_2 {a b c : Nat} (h : c ≠ 0) : len4 a b c 0 = 128 + bl c := (if_neg (by omega)).trans (if_pos h)
theorem len4_1 {a b : Nat} (h : b ≠ 0) : len4 a b 0 0 = 64 + bl b := (if_neg (by omega)).trans ((if_neg (by omega)).trans (if_pos h))
theorem len4_0 {a : Nat} : len4 a 0 0 0 = bl a := (if_neg (by omega)).trans ((if_neg (by omega)).trans (if_neg (by omega)))
theorem of4_0 (a : Nat) : of4 a 0 0 0 = a := by unfold of4; omega
theorem of4_1 (a b : Nat) : of4 a b 0 0 = a + b * 2 ^ 64 := by unfold of4; omega
theorem of4_2 (a b c : Nat) : of4 a b c 0 = a + b * 2 ^ 64 + c * 2 ^ 128 := by unfold of4; omega
theorem len4_eq {a b c d : Nat} (ha : a < 18446744073709551616) (hb : b < 18446744073709551616) (hc : c < 18446744073709551616) (_hd : d < 18446744073709551616) : len4 a b c d = bl (of4 a b c d) := by
  have h64 : a < 2 ^ 64 := by omega
  have h128 : a + b * 2 ^ 64 < 2 ^ 128 := by omega
  have h192 : a + b * 2 ^ 64 + c * 2 ^ 128 < 2 ^ 192 := by omega
  clear ha hb hc _hd
  by_cases h3 : d = 0
  · subst h3
    by_cases h2 : c = 0
    · subst h2
      by_cases h1 : b = 0
      · subst h1
        rw [len4_0, of4_0]
      · rw [len4_1 h1, of4_1, bl_top 64 (Nat.pos_of_ne_zero h1) h64]
    · rw [len4_2 h2, of4_2, bl_top 128 (Nat.pos_of_ne_zero h2) h128]
  · rw [len4_3 h3]
    unfold of4
    rw [bl_top 192 (Nat.pos_of_ne_zero h3) h192]

/-- what a limb leaves in its place, and what it hands on, shifted by r bits -/
def slo (a r : Nat) : Nat := a * 2 ^ r % 2 ^ 64
def shi (a r : Nat) : Nat := a / 2 ^ (64 - r)
theorem shi_slo (a r : Nat) (hr : r ≤ 64) : a * 2 ^ r = shi a r * 2 ^ 64 + slo a r := by
  unfold shi slo
  have e : 2 ^ 64 = 2 ^ (64 - r) * 2 ^ r := by rw [← Nat.pow_add]; congr 1; omega
  have h : a * 2 ^ r / 2 ^ 64 = a / 2 ^ (64 - r) := by
    rw [e, Nat.mul_div_mul_right _ _ (Nat.two_pow_pos r)]
  rw [← h]
  omega
theorem shi_lt {a r : Nat} (hr : r ≤ 64) (ha : a < 2 ^ 64) : shi a r < 2 ^ r := by
  unfold shi
  apply Nat.div_lt_of_lt_mul
  rw [← Nat.pow_add]
  rw [show 64 - r + r = 64 from by omega]
  exact ha
theorem slo_dvd (a r : Nat) (hr : r ≤ 64) : slo a r % 2 ^ r = 0 := by
  unfold slo
  have e : 2 ^ 64 = 2 ^ r * 2 ^ (64 - r) := by rw [← Nat.pow_add]; congr 1; omega
  rw [e, Nat.mod_mul_right_mod]
  exact Nat.mul_mod_left _ _
theorem slo_lt (a r : Nat) : slo a r < 2 ^ 64 := Nat.mod_lt _ (by decide)
theorem shi_or {a b r : Nat} (hr : r ≤ 64) (ha : a < 2 ^ 64) : shi a r ||| slo b r = shi a r + slo b r := by
  rw [Nat.or_comm, nat_join r _ _ (slo_dvd b r hr) (shi_lt hr ha), Nat.add_comm]
theorem shi_add_lt {a b r : Nat} (hr : r ≤ 64) (ha : a < 2 ^ 64) : shi a r + slo b r < 2 ^ 64 := by
  rw [← shi_or hr ha]
  refine Nat.or_lt_two_pow ?_ (slo_lt _ _)
  exact Nat.lt_of_lt_of_le (shi_lt hr ha) (Nat.pow_le_pow_right (by decide) hr)
theorem of4_mul (a b c d r : Nat) (hr : r ≤ 64) : of4 a b c d * 2 ^ r = slo a r + (shi a r + slo b r) * 2 ^ 64 + (shi b r + slo c r) * 2 ^ 128 + (shi c r + slo d r) * 2 ^ 192 + shi d r * 2 ^ 256 := by
  unfold of4
  have ea := shi_slo a r hr
  have eb := shi_slo b r hr
  have ec := shi_slo c r hr
  have ed := shi_slo d r hr
  have e : (a + b * 2 ^ 64 + c * 2 ^ 128 + d * 2 ^ 192) * 2 ^ r = a * 2 ^ r + b * 2 ^ r * 2 ^ 64 + c * 2 ^ r * 2 ^ 128 + d * 2 ^ r * 2 ^ 192 := by
    simp only [Nat.add_mul, Nat.mul_right_comm _ _ (2 ^ r)]
  rw [e, ea, eb, ec, ed]
  omega
/-- the limbs of a number shifted to the left by q limbs and r bits -/
theorem shl_limbs {a b c d : Nat} (ha : a < 2 ^ 64) (hb : b < 2 ^ 64) (hc : c < 2 ^ 64) (_hd : d < 2 ^ 64) (r : Nat) (hr : r ≤ 64) :
    (lm (of4 a b c d * 2 ^ r) 0 = slo a r ∧ lm (of4 a b c d * 2 ^ r) 1 = shi a r + slo b r ∧ lm (of4 a b c d * 2 ^ r) 2 = shi b r + slo c r ∧ lm (of4 a b c d * 2 ^ r) 3 = shi c r + slo d r) := by
  rw [of4_mul a b c d r hr]
  have h0 := slo_lt a r
  have h1 := shi_add_lt (b := b) hr ha
  have h2 := shi_add_lt (b := c) hr hb
  have h3 := shi_add_lt (b := d) hr hc
  generalize slo a r = l0 at *
  generalize shi a r + slo b r = l1 at *
  generalize shi b r + slo c r = l2 at *
  generalize shi c r + slo d r = l3 at *
  generalize shi d r = l4 at *
  simp only [lm]
  omega
theorem lm_shift (n q j : Nat) : lm (n * 2 ^ (64 * q)) (j + q) = lm n j := by
  unfold lm
  rw [Nat.mul_add, Nat.pow_add, Nat.mul_div_mul_right _ _ (Nat.two_pow_pos _)]
theorem lm_shift_low (n q j : Nat) (h : j < q) : lm (n * 2 ^ (64 * q)) j = 0 := by
  unfold lm
  obtain ⟨d, rfl⟩ : ∃ d, q = j + 1 + d := ⟨q - j - 1, by omega⟩
  rw [show 64 * (j + 1 + d) = 64 * d + 64 + 64 * j from by omega, Nat.pow_add, Nat.pow_add, ← Nat.mul_assoc, Nat.mul_div_cancel _ (Nat.two_pow_pos _), ← Nat.mul_assoc, Nat.mul_mod_left]
theorem lm_zero (j : Nat) : lm 0 j = 0 := by simp [lm]
theorem slo_zero {a : Nat} (h : a < 2 ^ 64) : slo a 0 = a := by simp [slo, Nat.mod_eq_of_lt h]
theorem shi_zero {a : Nat} (h : a < 2 ^ 64) : shi a 0 = 0 := by simp [shi, Nat.div_eq_of_lt h]

/-- does the shifted number fit? -/
def shlOk (n : Nat) (k : Int) : Bool := decide (0 ≤ k ∧ (n = 0 ∨ k ≤ 256 - (bl n : Int)))
/-- the shifted number; 0, if it does not fit -/
def shlV (n : Nat) (k : Int) : Nat := if shlOk n k = true then n * 2 ^ k.toNat else 0
theorem shlOk_iff {n : Nat} {k : Int} (h : 0 < n) : shlOk n k = true ↔ 0 ≤ k ∧ n * 2 ^ k.toNat < 2 ^ 256 := by
  unfold shlOk
  rw [decide_eq_true_iff]
  constructor
  · rintro ⟨h0, h1 | h1⟩
    · omega
    · exact ⟨h0, (bl_lt_256_iff h).1 (by omega)⟩
  · rintro ⟨h0, h1⟩
    have := (bl_lt_256_iff h).2 h1
    exact ⟨h0, .inr (by omega)⟩
theorem shlV_lt (n : Nat) (k : Int) : shlV n k < 2 ^ 256 := by
  unfold shlV
  split
  · rename_i h
    by_cases h0 : n = 0
    · subst h0; simp
    · exact ((shlOk_iff (by omega)).1 h).2
  · decide

/-! the walk's own forms -/
theorem wlo {a : Nat} {k : Int} (h0 : 0 ≤ k) : IntKind.u64.wrap ((a : Int) * 2 ^ min (k % 64).toNat 64) = ((slo a (k.toNat % 64) : Nat) : Int) := by
  have e : min (k % 64).toNat 64 = k.toNat % 64 := by omega
  rw [e, IntKind.wrap_u64]
  unfold slo
  have : ((a : Int) * 2 ^ (k.toNat % 64)) = ((a * 2 ^ (k.toNat % 64) : Nat) : Int) := by simp
  rw [this]
  omega
theorem whi {a : Nat} {k : Int} (h0 : 0 ≤ k) : (a : Int) / 2 ^ min (64 - k % 64).toNat 64 = ((shi a (k.toNat % 64) : Nat) : Int) := by
  have e : min (64 - k % 64).toNat 64 = 64 - k.toNat % 64 := by omega
  rw [e]
  unfold shi
  simp
theorem wor {a b : Nat} {r : Nat} (hr : r ≤ 64) (ha : a < 2 ^ 64) : bits BinOp.or IntKind.u64 ((shi a r : Nat) : Int) ((slo b r : Nat) : Int) = ((shi a r + slo b r : Nat) : Int) := by
  have h1 : shi a r < 18446744073709551616 := Nat.lt_of_lt_of_le (shi_lt hr ha) (Nat.pow_le_pow_right (n := 2) (by decide) hr)
  rw [u64_or_nat _ _ h1 (slo_lt _ _), shi_or hr ha]
theorem or0 {a : Nat} (h : a < 18446744073709551616) : bits BinOp.or IntKind.u64 0 (a : Int) = a := by
  have := u64_or_nat 0 a (by omega) h
  simpa using this
theorem or0i {a : Nat} (h : a < 18446744073709551616) : bits BinOp.or IntKind.u64 (a : Int) 0 = a := by
  have := u64_or_nat a 0 h (by omega)
  simpa using this
end Go.Proofs.YtekeedjhaakbhaaGreatDoor
