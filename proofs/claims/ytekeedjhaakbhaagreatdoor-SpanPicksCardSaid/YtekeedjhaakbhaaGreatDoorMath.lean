/- Plain facts on natural numbers: lengths in bits, noughts at the end, limbs of 64 bits. No program in sight. -/
import Derived.Lib.BitFns
import Derived.Lib.ItoaNum
import Derived.Lib.TrailingZeros
namespace Go.Proofs.YtekeedjhaakbhaaGreatDoor

/-- How many bits a number has. -/
def bl (n : Nat) : Nat := if n = 0 then 0 else Nat.log2 n + 1
theorem bl_zero : bl 0 = 0 := by simp [bl]
theorem bl_pos {n : Nat} (h : 0 < n) : 1 ≤ bl n := by unfold bl; rw [if_neg (by omega)]; omega
theorem lt_two_pow_bl (n : Nat) : n < 2 ^ bl n := by
  unfold bl
  split
  · subst n; decide
  · exact Nat.lt_log2_self
theorem two_pow_bl_le {n : Nat} (h : 0 < n) : 2 ^ (bl n - 1) ≤ n := by
  unfold bl
  rw [if_neg (by omega)]
  exact Nat.log2_self_le (by omega)
theorem bl_le_iff (n k : Nat) : bl n ≤ k ↔ n < 2 ^ k := by
  constructor
  · intro h
    exact Nat.lt_of_lt_of_le (lt_two_pow_bl n) (Nat.pow_le_pow_right (by decide) h)
  · intro h
    by_cases h0 : n = 0
    · subst h0; simp [bl]
    · have h1 := two_pow_bl_le (n := n) (by omega)
      have h2 : 2 ^ (bl n - 1) < 2 ^ k := Nat.lt_of_le_of_lt h1 h
      have h3 : bl n - 1 < k := by
        apply Nat.lt_of_not_le
        intro hle
        have := Nat.pow_le_pow_right (n := 2) (by decide) hle
        omega
      omega
theorem bl_eq_iff {n k : Nat} (h1 : 2 ^ k ≤ n) (h2 : n < 2 ^ (k + 1)) : bl n = k + 1 := by
  have a := (bl_le_iff n (k + 1)).2 h2
  have b : ¬ bl n ≤ k := by rw [bl_le_iff]; omega
  omega
theorem bl_mul_two_pow {n : Nat} (h : 0 < n) (k : Nat) : bl (n * 2 ^ k) = bl n + k := by
  have h1 := two_pow_bl_le h
  have h2 := lt_two_pow_bl n
  have h3 := bl_pos h
  have e : bl n + k = (bl n - 1 + k) + 1 := by omega
  rw [e]
  apply bl_eq_iff
  · rw [Nat.pow_add]; exact Nat.mul_le_mul_right _ h1
  · rw [show bl n - 1 + k + 1 = bl n + k from by omega, Nat.pow_add]
    exact Nat.mul_lt_mul_of_pos_right h2 (Nat.two_pow_pos k)
theorem bl_lt_256_iff {m k : Nat} (h : 0 < m) : bl m + k ≤ 256 ↔ m * 2 ^ k < 2 ^ 256 := by
  rw [← bl_mul_two_pow h, bl_le_iff]
theorem bl_mono {a b : Nat} (h : a ≤ b) : bl a ≤ bl b := (bl_le_iff a _).2 (Nat.lt_of_le_of_lt h (lt_two_pow_bl b))

theorem bitLen_eq (x : Nat) (h : x < 18446744073709551616) : Lib.bitLen x = bl x := by
  by_cases h0 : x = 0
  · subst h0; decide
  · obtain ⟨h1, h2, h3⟩ := Lib.bitLenAux_bounds 64 x h h0
    change 1 ≤ Lib.bitLen x at h1
    change 2 ^ (Lib.bitLen x - 1) ≤ x at h2
    change x < 2 ^ Lib.bitLen x at h3
    have := bl_eq_iff (n := x) (k := Lib.bitLen x - 1) h2 (by rw [show Lib.bitLen x - 1 + 1 = Lib.bitLen x from by omega]; exact h3)
    omega

/-- How many noughts stand at a number's end (0 of 0). -/
def tz (n : Nat) : Nat := if n = 0 then 0 else Lib.ctzFrom n n
theorem tz_zero : tz 0 = 0 := by simp [tz]
theorem lt_two_pow_self' (n : Nat) : n < 2 ^ n := Nat.lt_two_pow_self
theorem tz_spec {n : Nat} (h : 0 < n) : ∃ m, n = 2 ^ tz n * (2 * m + 1) := by
  obtain ⟨m, hm, _⟩ := Lib.ctzFrom_spec n n h Nat.lt_two_pow_self
  refine ⟨m, ?_⟩
  unfold tz
  rw [if_neg (by omega)]
  exact hm
theorem pow_odd_unique {a b m k : Nat} (h : 2 ^ a * (2 * m + 1) = 2 ^ b * (2 * k + 1)) : a = b ∧ m = k := by
  induction a generalizing b with
  | zero =>
    cases b with
    | zero => simp at h; omega
    | succ b =>
      rw [Nat.pow_succ, Nat.mul_assoc, Nat.mul_left_comm] at h
      omega
  | succ a ih =>
    cases b with
    | zero =>
      rw [Nat.pow_succ, Nat.mul_assoc, Nat.mul_left_comm] at h
      omega
    | succ b =>
      have h' : 2 ^ a * (2 * m + 1) = 2 ^ b * (2 * k + 1) := by
        rw [Nat.pow_succ, Nat.pow_succ, Nat.mul_assoc, Nat.mul_left_comm, Nat.mul_assoc (2 ^ b), Nat.mul_left_comm (2 ^ b)] at h
        omega
      obtain ⟨h1, h2⟩ := ih h'
      exact ⟨by omega, h2⟩
theorem tz_of {n k m : Nat} (h : n = 2 ^ k * (2 * m + 1)) : tz n = k := by
  have h0 : 0 < n := by rw [h]; exact Nat.mul_pos (Nat.two_pow_pos k) (by omega)
  obtain ⟨m', h'⟩ := tz_spec h0
  exact (pow_odd_unique (h'.symm.trans h)).1
theorem ctz64_eq {x : Nat} (h0 : 0 < x) (h : x < 18446744073709551616) : Lib.ctz 64 x = tz x := by
  obtain ⟨m, hm, _⟩ := Lib.ctzFrom_spec 64 x h0 h
  rw [tz_of hm]
  unfold Lib.ctz
  rw [if_neg (by omega)]
theorem two_pow_tz_dvd (n : Nat) : 2 ^ tz n ∣ n := by
  by_cases h : n = 0
  · subst h; exact Nat.dvd_zero _
  · obtain ⟨m, hm⟩ := tz_spec (n := n) (by omega)
    exact ⟨_, hm⟩
theorem odd_part_mul (n : Nat) : n / 2 ^ tz n * 2 ^ tz n = n := Nat.div_mul_cancel (two_pow_tz_dvd n)
theorem odd_part_odd {n : Nat} (h : 0 < n) : n / 2 ^ tz n % 2 = 1 := by
  obtain ⟨m, hm⟩ := tz_spec h
  have e : n / 2 ^ tz n = 2 * m + 1 := by
    generalize tz n = t at *
    rw [hm]
    exact Nat.mul_div_cancel_left _ (Nat.two_pow_pos _)
  omega
theorem tz_mul_two_pow {n : Nat} (h : 0 < n) (k : Nat) : tz (n * 2 ^ k) = tz n + k := by
  obtain ⟨m, hm⟩ := tz_spec h
  apply tz_of (m := m)
  rw [Nat.pow_add]
  generalize tz n = t at *
  rw [hm]
  rw [Nat.mul_right_comm]
theorem tz_odd {n : Nat} (h : n % 2 = 1) : tz n = 0 := tz_of (k := 0) (m := n / 2) (by omega)
theorem dvd_iff_le_tz {n : Nat} (h : 0 < n) (k : Nat) : 2 ^ k ∣ n ↔ k ≤ tz n := by
  constructor
  · rintro ⟨c, rfl⟩
    have hc : 0 < c := Nat.pos_of_ne_zero (by rintro rfl; simp at h)
    rw [Nat.mul_comm, tz_mul_two_pow hc]
    omega
  · intro hk
    exact Nat.dvd_trans (Nat.pow_dvd_pow 2 hk) (two_pow_tz_dvd n)
theorem tz_lt_bl {n : Nat} (h : 0 < n) : tz n < bl n := by
  have h1 : 2 ^ tz n ≤ n := Nat.le_of_dvd h (two_pow_tz_dvd n)
  have : ¬ bl n ≤ tz n := by rw [bl_le_iff]; omega
  omega

/-! ### limbs of 64 bits -/
/-- limb i of a number -/
def lm (n i : Nat) : Nat := n / 2 ^ (64 * i) % 2 ^ 64
/-- four limbs' number -/
def of4 (a b c d : Nat) : Nat := a + b * 2 ^ 64 + c * 2 ^ 128 + d * 2 ^ 192
theorem lm_lt (n i : Nat) : lm n i < 18446744073709551616 := Nat.mod_lt _ (by decide)
theorem lm0 (n : Nat) : lm n 0 = n % 2 ^ 64 := by simp [lm]
theorem of4_lm (n : Nat) (h : n < 2 ^ 256) : of4 (lm n 0) (lm n 1) (lm n 2) (lm n 3) = n := by
  simp only [of4, lm]
  omega
theorem of4_lt {a b c d : Nat} (ha : a < 2 ^ 64) (hb : b < 2 ^ 64) (hc : c < 2 ^ 64) (hd : d < 2 ^ 64) : of4 a b c d < 2 ^ 256 := by
  simp only [of4]; omega
theorem lm_of4 {a b c d : Nat} (ha : a < 2 ^ 64) (hb : b < 2 ^ 64) (hc : c < 2 ^ 64) (hd : d < 2 ^ 64) :
    lm (of4 a b c d) 0 = a ∧ lm (of4 a b c d) 1 = b ∧ lm (of4 a b c d) 2 = c ∧ lm (of4 a b c d) 3 = d := by
  simp only [of4, lm]
  omega
theorem lm_inj {m n : Nat} (hm : m < 2 ^ 256) (hn : n < 2 ^ 256) (h0 : lm m 0 = lm n 0) (h1 : lm m 1 = lm n 1) (h2 : lm m 2 = lm n 2) (h3 : lm m 3 = lm n 3) : m = n := by
  rw [← of4_lm m hm, ← of4_lm n hn, h0, h1, h2, h3]
end Go.Proofs.YtekeedjhaakbhaaGreatDoor
