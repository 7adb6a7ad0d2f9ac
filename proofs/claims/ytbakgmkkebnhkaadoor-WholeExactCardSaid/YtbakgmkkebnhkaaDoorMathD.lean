/- Plain facts: numbers by digits of 32 bits. -/
import Derived.Test.YtbakgmkkebnhkaaDoorMathShl
import Derived.WalkKit
namespace Go.Proofs.YtbakgmkkebnhkaaDoor
open Go.RowKit
/-- a number's digit; how many there are -/
def dig (V j : Nat) : Nat := V / 2 ^ (32 * j) % 4294967296
def dl (V : Nat) : Nat := (bl V + 31) / 32
theorem dig_lt (V j : Nat) : dig V j < 4294967296 := Nat.mod_lt _ (by decide)
theorem dl_lt (V : Nat) : V < 2 ^ (32 * dl V) := by
  rw [← bl_le_iff]
  unfold dl
  omega
theorem dl_zero : dl 0 = 0 := by decide
theorem dl_pos {V : Nat} (h : 0 < V) : 0 < dl V := by have := bl_pos h; unfold dl; omega
theorem dl_le_iff (V n : Nat) : dl V ≤ n ↔ V < 2 ^ (32 * n) := by
  rw [← bl_le_iff]
  unfold dl
  omega
theorem dig_top {V : Nat} (h : 0 < V) : dig V (dl V - 1) ≠ 0 := by
  have h1 := two_pow_bl_le h
  have h2 := lt_two_pow_bl V
  have hb := bl_pos h
  have hd : 32 * (dl V - 1) ≤ bl V - 1 := by unfold dl; omega
  have hd2 : bl V ≤ 32 * (dl V - 1) + 32 := by unfold dl; omega
  unfold dig
  have h3 : 1 ≤ V / 2 ^ (32 * (dl V - 1)) := by
    rw [Nat.le_div_iff_mul_le (Nat.two_pow_pos _), Nat.one_mul]
    exact Nat.le_trans (Nat.pow_le_pow_right (by decide) hd) h1
  have h4 : V / 2 ^ (32 * (dl V - 1)) < 4294967296 := by
    rw [Nat.div_lt_iff_lt_mul (Nat.two_pow_pos _), show (4294967296 : Nat) = 2 ^ 32 from by decide, ← Nat.pow_add]
    exact Nat.lt_of_lt_of_le h2 (Nat.pow_le_pow_right (by decide) (by omega))
  rw [Nat.mod_eq_of_lt h4]
  omega
/-- digits above are 0 -/
theorem dig_zero {V n : Nat} (h : V < 2 ^ (32 * n)) {j : Nat} (hj : n ≤ j) : dig V j = 0 := by
  unfold dig
  rw [Nat.div_eq_of_lt (Nat.lt_of_lt_of_le h (Nat.pow_le_pow_right (by decide) (by omega)))]
/-- without its highest digit, if that is 0 -/
theorem lt_of_dig_zero {V n : Nat} (h : V < 2 ^ (32 * (n + 1))) (h0 : dig V n = 0) : V < 2 ^ (32 * n) := by
  unfold dig at h0
  have h4 : V / 2 ^ (32 * n) < 4294967296 := by
    rw [Nat.div_lt_iff_lt_mul (Nat.two_pow_pos _), show (4294967296 : Nat) = 2 ^ 32 from by decide, ← Nat.pow_add]
    exact Nat.lt_of_lt_of_le h (Nat.pow_le_pow_right (by decide) (by omega))
  rw [Nat.mod_eq_of_lt h4] at h0
  rcases Nat.div_eq_zero_iff.1 h0 with h1 | h1
  · have := Nat.two_pow_pos (32 * n); omega
  · exact h1
theorem dl_eq {V n : Nat} (h : V < 2 ^ (32 * (n + 1))) (h0 : dig V n ≠ 0) : dl V = n + 1 := by
  have h1 := (dl_le_iff V (n + 1)).2 h
  have h2 : ¬ dl V ≤ n := by
    intro h3
    exact h0 (dig_zero ((dl_le_iff V n).1 h3) (Nat.le_refl _))
  omega
theorem dig_bit (V i : Nat) : dig V (i / 32) / 2 ^ (i % 32) % 2 = V / 2 ^ i % 2 := by
  unfold dig
  have h1 : i = 32 * (i / 32) + i % 32 := by omega
  generalize i / 32 = q at *
  have hr : i % 32 < 32 := Nat.mod_lt _ (by decide)
  generalize i % 32 = r at *
  subst h1
  rw [Nat.pow_add, ← Nat.div_div_eq_div_mul]
  generalize V / 2 ^ (32 * q) = W
  have e : (4294967296 : Nat) = 2 ^ r * 2 ^ (32 - r) := by rw [← Nat.pow_add, show r + (32 - r) = 32 from by omega]
  rw [e, Nat.mod_mul_right_div_self]
  have e2 : 2 ^ (32 - r) = 2 * 2 ^ (31 - r) := by rw [show 32 - r = (31 - r) + 1 from by omega, Nat.pow_succ]; omega
  rw [e2, Nat.mod_mul_right_mod]
theorem bit_of_bl {V : Nat} (h : 0 < V) : V / 2 ^ (bl V - 1) % 2 = 1 := by
  have h1 := two_pow_bl_le h
  have h2 := lt_two_pow_bl V
  have hb := bl_pos h
  have h3 : 1 ≤ V / 2 ^ (bl V - 1) := by
    rw [Nat.le_div_iff_mul_le (Nat.two_pow_pos _), Nat.one_mul]
    exact h1
  have h4 : V / 2 ^ (bl V - 1) < 2 := by
    rw [Nat.div_lt_iff_lt_mul (Nat.two_pow_pos _)]
    have : 2 ^ bl V = 2 * 2 ^ (bl V - 1) := by rw [← Nat.pow_succ', show (bl V - 1).succ = bl V from by omega]
    omega
  omega
theorem bit_zero_above {V k : Nat} (h : bl V ≤ k) : V / 2 ^ k % 2 = 0 := by
  rw [Nat.div_eq_of_lt ((bl_le_iff V k).1 h)]
theorem bit_tz {V : Nat} (h : 0 < V) : V / 2 ^ tz V % 2 = 1 := odd_part_odd h
theorem bit_below_tz {V k : Nat} (h : 0 < V) (hk : k < tz V) : V / 2 ^ k % 2 = 0 := by
  have hd : 2 ^ (k + 1) ∣ V := (dvd_iff_le_tz h (k + 1)).2 hk
  obtain ⟨m, rfl⟩ := hd
  rw [Nat.pow_succ, Nat.mul_assoc, Nat.mul_div_cancel_left _ (Nat.two_pow_pos k)]
  omega
/-- A SLICE OF n DIGITS THAT HOLDS THE NUMBER V. -/
def DN (w : World) (v : Value) (n V : Nat) : Prop :=
  V < 2 ^ (32 * n) ∧ n ≤ 281474976 ∧ ∃ ao cap, v = .slice ao n cap ∧ n ≤ cap ∧ cap ≤ 9223372036854775807 ∧ (0 < n → ∃ b, ao = some ⟨b, 0, none⟩ ∧ b < w.heap.size ∧ ∀ j, j < n → w.cell? ⟨b, j, none⟩ = some (.int .u32 (dig V j : Nat)))
/-- .. without noughts ahead -/
def IsD (w : World) (v : Value) (V : Nat) : Prop := DN w v (dl V) V
theorem DN.below {w w' : World} {v : Value} {n V : Nat} (h : DN w v n V) (hb : Below w.heap.size w w') : DN w' v n V := by
  obtain ⟨h1, h0, ao, cap, h2, h3, h4, h5⟩ := h
  refine ⟨h1, h0, ao, cap, h2, h3, h4, fun hn => ?_⟩
  obtain ⟨b, rfl, hb1, hc⟩ := h5 hn
  refine ⟨b, rfl, Nat.lt_of_lt_of_le hb1 hb.size, fun j hj => ?_⟩
  rw [hb.cell (p := ⟨b, j, none⟩) hb1]
  exact hc j hj
theorem DN.alloc {w : World} {v : Value} {n V : Nat} (h : DN w v n V) (o : Obj) : DN (w.alloc o) v n V := h.below ((Below.refl _ _).alloc (Nat.le_refl _) o)
theorem DN.drew {w : World} {v : Value} {n V : Nat} (h : DN w v n V) : DN w.drew v n V := h.below (Below.refl _ _).drew
end Go.Proofs.YtbakgmkkebnhkaaDoor
