/- Contract of package nat: Shl: the shifted number, if it fits. -/
import Derived.Test.YtekeedjhaakbhaaGreatDoorShl0
import Derived.Test.YtekeedjhaakbhaaGreatDoorShl1
import Derived.Test.YtekeedjhaakbhaaGreatDoorShl2
import Derived.Test.YtekeedjhaakbhaaGreatDoorShl3
namespace Go.Proofs.YtekeedjhaakbhaaGreatDoor
open Go.RowKit
theorem shi64 {a r : Nat} (hr : r ≤ 63) (ha : a < 18446744073709551616) : shi a r < 18446744073709551616 := by
  have h1 : shi a r < 2 ^ r := shi_lt (by omega) (by omega)
  have h2 : 2 ^ r ≤ 2 ^ 64 := Nat.pow_le_pow_right (by decide) (by omega)
  omega
theorem slo64 {a r : Nat} : slo a r < 18446744073709551616 := by have := slo_lt a r; omega
theorem shl_lm (n k j : Nat) : lm (n * 2 ^ k) j = if j < k / 64 then 0 else lm (n * 2 ^ (k % 64)) (j - k / 64) := by
  have e : n * 2 ^ k = n * 2 ^ (k % 64) * 2 ^ (64 * (k / 64)) := by
    rw [Nat.mul_assoc, ← Nat.pow_add]
    congr 2
    omega
  rw [e]
  split
  · exact lm_shift_low _ _ _ (by assumption)
  · have e2 := lm_shift (n * 2 ^ (k % 64)) (k / 64) (j - k / 64)
    rw [show j - k / 64 + k / 64 = j from by omega] at e2
    exact e2
theorem ztest {a0 a1 a2 a3 : Nat} (h : of4 a0 a1 a2 a3 = 0) : (((a0 : Int) == 0) && ((a1 : Int) == 0) && ((a2 : Int) == 0) && ((a3 : Int) == 0)) = true := by
  unfold of4 at h
  simp
  omega
set_option maxRecDepth 20000 in
set_option maxHeartbeats 800000 in
/-- Shl that fits. -/
theorem Shl_ok (a0 a1 a2 a3 : Nat) (h0 : a0 < 18446744073709551616) (h1 : a1 < 18446744073709551616) (h2 : a2 < 18446744073709551616) (h3 : a3 < 18446744073709551616) (k : Nat) (hk : k < 9223372036854775808) (w : World) (hok : of4 a0 a1 a2 a3 = 0 ∨ (k : Int) ≤ 256 - (bl (of4 a0 a1 a2 a3) : Int)) :
    Calls Tryz.prog 92 #[.agg #[.int .u64 a0, .int .u64 a1, .int .u64 a2, .int .u64 a3], .int .i64 k] w fun e w' => e = .returned (.tuple #[.agg #[.int .u64 (lm (of4 a0 a1 a2 a3 * 2 ^ k) 0 : Nat), .int .u64 (lm (of4 a0 a1 a2 a3 * 2 ^ k) 1 : Nat), .int .u64 (lm (of4 a0 a1 a2 a3 * 2 ^ k) 2 : Nat), .int .u64 (lm (of4 a0 a1 a2 a3 * 2 ^ k) 3 : Nat)], .bool true]) ∧ Below w.heap.size w w' := by
  have hz : (((a0 : Int) == 0) && ((a1 : Int) == 0) && ((a2 : Int) == 0) && ((a3 : Int) == 0)) = true ∨ (k : Int) ≤ 256 - (len4 a0 a1 a2 a3 : Nat) := by
    rcases hok with h | h
    · exact .inl (ztest h)
    · rw [len4_eq h0 h1 h2 h3]; exact .inr h
  have T0 := shl_lm (of4 a0 a1 a2 a3) k 0
  have T1 := shl_lm (of4 a0 a1 a2 a3) k 1
  have T2 := shl_lm (of4 a0 a1 a2 a3) k 2
  have T3 := shl_lm (of4 a0 a1 a2 a3) k 3
  obtain ⟨s0, s1, s2, s3⟩ := shl_limbs (a := a0) (b := a1) (c := a2) (d := a3) (by omega) (by omega) (by omega) (by omega) (k % 64) (by omega)
  by_cases hq0 : k / 64 = 0
  · by_cases hr : k % 64 = 0
    · refine (Shl_0z a0 a1 a2 a3 h0 h1 h2 h3 k w (by omega) (by omega) (by omega) hz (or0 h0) (or0 h1) (or0 h2) (or0 h3)).mono ?_
      rintro e w' ⟨rfl, hb⟩
      rw [hr, Nat.pow_zero, Nat.mul_one] at s0 s1 s2 s3
      refine ⟨?_, hb⟩
      rw [T0, T1, T2, T3]
      simp [hq0, s0, s1, s2, s3, hr, slo_zero (show a0 < 2 ^ 64 by omega), slo_zero (show a1 < 2 ^ 64 by omega), slo_zero (show a2 < 2 ^ 64 by omega), slo_zero (show a3 < 2 ^ 64 by omega), shi_zero (show a0 < 2 ^ 64 by omega), shi_zero (show a1 < 2 ^ 64 by omega), shi_zero (show a2 < 2 ^ 64 by omega)]
    · refine (Shl_0p a0 a1 a2 a3 (slo a0 (k % 64)) (slo a1 (k % 64)) (slo a2 (k % 64)) (slo a3 (k % 64)) (shi a0 (k % 64)) (shi a1 (k % 64)) (shi a2 (k % 64)) (shi a0 (k % 64) + slo a1 (k % 64)) (shi a1 (k % 64) + slo a2 (k % 64)) (shi a2 (k % 64) + slo a3 (k % 64)) h0 h1 h2 h3 k w (by omega) (by omega) (by omega) hz (wlo (by omega)) (wlo (by omega)) (wlo (by omega)) (wlo (by omega)) (whi (by omega)) (whi (by omega)) (whi (by omega)) (wor (by omega) (by omega)) (wor (by omega) (by omega)) (wor (by omega) (by omega)) (or0 slo64) (or0 (shi64 (by omega) h0)) (or0 (shi64 (by omega) h1)) (or0 (shi64 (by omega) h2))).mono ?_
      rintro e w' ⟨rfl, hb⟩
      refine ⟨?_, hb⟩
      rw [T0, T1, T2, T3]
      simp [hq0, s0, s1, s2, s3]
  by_cases hq1 : k / 64 = 1
  · by_cases hr : k % 64 = 0
    · refine (Shl_1z a0 a1 a2 a3 h0 h1 h2 h3 k w (by omega) (by omega) (by omega) hz (or0 h0) (or0 h1) (or0 h2)).mono ?_
      rintro e w' ⟨rfl, hb⟩
      rw [hr, Nat.pow_zero, Nat.mul_one] at s0 s1 s2 s3
      refine ⟨?_, hb⟩
      rw [T0, T1, T2, T3]
      simp [hq1, s0, s1, s2, hr, slo_zero (show a0 < 2 ^ 64 by omega), slo_zero (show a1 < 2 ^ 64 by omega), slo_zero (show a2 < 2 ^ 64 by omega), shi_zero (show a0 < 2 ^ 64 by omega), shi_zero (show a1 < 2 ^ 64 by omega)]
    · refine (Shl_1p a0 a1 a2 a3 (slo a0 (k % 64)) (slo a1 (k % 64)) (slo a2 (k % 64)) (shi a0 (k % 64)) (shi a1 (k % 64)) (shi a0 (k % 64) + slo a1 (k % 64)) (shi a1 (k % 64) + slo a2 (k % 64)) h0 h1 h2 h3 k w (by omega) (by omega) (by omega) hz (wlo (by omega)) (wlo (by omega)) (wlo (by omega)) (whi (by omega)) (whi (by omega)) (wor (by omega) (by omega)) (wor (by omega) (by omega)) (or0 slo64) (or0 (shi64 (by omega) h0)) (or0 (shi64 (by omega) h1))).mono ?_
      rintro e w' ⟨rfl, hb⟩
      refine ⟨?_, hb⟩
      rw [T0, T1, T2, T3]
      simp [hq1, s0, s1, s2]
  by_cases hq2 : k / 64 = 2
  · by_cases hr : k % 64 = 0
    · refine (Shl_2z a0 a1 a2 a3 h0 h1 h2 h3 k w (by omega) (by omega) (by omega) hz (or0 h0) (or0 h1)).mono ?_
      rintro e w' ⟨rfl, hb⟩
      rw [hr, Nat.pow_zero, Nat.mul_one] at s0 s1 s2 s3
      refine ⟨?_, hb⟩
      rw [T0, T1, T2, T3]
      simp [hq2, s0, s1, hr, slo_zero (show a0 < 2 ^ 64 by omega), slo_zero (show a1 < 2 ^ 64 by omega), shi_zero (show a0 < 2 ^ 64 by omega)]
    · refine (Shl_2p a0 a1 a2 a3 (slo a0 (k % 64)) (slo a1 (k % 64)) (shi a0 (k % 64)) (shi a0 (k % 64) + slo a1 (k % 64)) h0 h1 h2 h3 k w (by omega) (by omega) (by omega) hz (wlo (by omega)) (wlo (by omega)) (whi (by omega)) (wor (by omega) (by omega)) (or0 slo64) (or0 (shi64 (by omega) h0))).mono ?_
      rintro e w' ⟨rfl, hb⟩
      refine ⟨?_, hb⟩
      rw [T0, T1, T2, T3]
      simp [hq2, s0, s1]
  by_cases hq3 : k / 64 = 3
  · by_cases hr : k % 64 = 0
    · refine (Shl_3z a0 a1 a2 a3 h0 h1 h2 h3 k w (by omega) (by omega) (by omega) hz (or0 h0)).mono ?_
      rintro e w' ⟨rfl, hb⟩
      rw [hr, Nat.pow_zero, Nat.mul_one] at s0 s1 s2 s3
      refine ⟨?_, hb⟩
      rw [T0, T1, T2, T3]
      simp [hq3, s0, hr, slo_zero (show a0 < 2 ^ 64 by omega)]
    · refine (Shl_3p a0 a1 a2 a3 (slo a0 (k % 64)) h0 h1 h2 h3 k w (by omega) (by omega) (by omega) hz (wlo (by omega)) (or0 slo64)).mono ?_
      rintro e w' ⟨rfl, hb⟩
      refine ⟨?_, hb⟩
      rw [T0, T1, T2, T3]
      simp [hq3, s0]
  · have hzero : of4 a0 a1 a2 a3 = 0 := by
      rcases hok with h | h
      · exact h
      · by_cases h0' : of4 a0 a1 a2 a3 = 0
        · exact h0'
        · have := bl_pos (n := of4 a0 a1 a2 a3) (by omega)
          omega
    refine (Shl_4 a0 a1 a2 a3 h0 h1 h2 h3 k w (by omega) (by omega) (by omega) (ztest hzero)).mono ?_
    rintro e w' ⟨rfl, hb⟩
    refine ⟨?_, hb⟩
    simp [hzero, lm_zero]
set_option maxRecDepth 20000 in
set_option maxHeartbeats 800000 in
/-- Shl that does not fit. -/
theorem Shl_no (a0 a1 a2 a3 : Nat) (h0 : a0 < 18446744073709551616) (h1 : a1 < 18446744073709551616) (h2 : a2 < 18446744073709551616) (h3 : a3 < 18446744073709551616) (k : Int) (w : World) (_hk0 : -9223372036854775808 ≤ k) (hok : shlOk (of4 a0 a1 a2 a3) k = false) :
    Calls Tryz.prog 92 #[.agg #[.int .u64 a0, .int .u64 a1, .int .u64 a2, .int .u64 a3], .int .i64 k] w fun e w' => e = .returned (.tuple #[.agg #[.int .u64 0, .int .u64 0, .int .u64 0, .int .u64 0], .bool false]) ∧ Below w.heap.size w w' := by
  unfold shlOk at hok
  rw [decide_eq_false_iff_not] at hok
  by_cases hn : k < 0
  · clear hok
    go_enter Tryz.func92, Tryz.ntmps92
    go_wp2_with fail
    refine bodyPost_ret (v := .tuple #[.agg #[.int .u64 0, .int .u64 0, .int .u64 0, .int .u64 0], .bool false]) ?_ rfl ⟨rfl, by (repeat first | with_reducible exact Below.refl _ _ | with_reducible assumption | with_reducible refine Below.drew ?_ | ((with_reducible refine Below.alloc ?_ ?_ _); rotate_left; (focus (first | with_reducible exact Nat.le_refl _ | (simp; done) | (simp; omega) | omega))) | ((with_reducible refine Below.setCell ?_ ?_ _); rotate_left; (focus (first | with_reducible exact Nat.le_refl _ | (simp; done) | (simp; omega) | omega))) | ((with_reducible refine Below.trans ?_ (Below.mono (by assumption) ?_)); rotate_left; (focus (first | with_reducible exact Nat.le_refl _ | (simp; done) | (simp; omega) | omega))))⟩
    simp [results, Tryz.results92, go_sem]
  · have hnz : ¬ of4 a0 a1 a2 a3 = 0 := fun h => hok ⟨by omega, .inl h⟩
    have hlen : 256 - (len4 a0 a1 a2 a3 : Nat) < k := by
      rw [len4_eq h0 h1 h2 h3]
      exact Int.not_le.1 fun h => hok ⟨by omega, .inr h⟩
    have hl4 : len4 a0 a1 a2 a3 ≤ 256 := by
      rw [len4_eq h0 h1 h2 h3]
      exact (bl_le_iff _ 256).2 (of4_lt (by omega) (by omega) (by omega) (by omega))
    have hnz2 : ¬ (a0 = 0 ∧ a1 = 0 ∧ a2 = 0 ∧ a3 = 0) := fun h => hnz (by unfold of4; omega)
    clear hok hnz
    go_enter Tryz.func92, Tryz.ntmps92
    go_upto_region 1 with fail
    go_cut [23] (fun s23 wx => s23 = .bool true ∧ ShlIn w a0 a1 a2 a3 wx)
    case first =>
      go_wp2_with (first | (go_at_call 91; refine (Len_any a0 a1 a2 a3 h0 h1 h2 h3 _).mono ?_; rintro e w1 ⟨rfl, hb1⟩))
      all_goals (go_meet; case rel => first | exact ⟨by simp; omega, (by (repeat first | with_reducible exact Below.refl _ _ | with_reducible assumption | with_reducible refine Below.drew ?_ | ((with_reducible refine Below.alloc ?_ ?_ _); rotate_left; (focus (first | with_reducible exact Nat.le_refl _ | (simp; done) | (simp; omega) | omega))) | ((with_reducible refine Below.setCell ?_ ?_ _); rotate_left; (focus (first | with_reducible exact Nat.le_refl _ | (simp; done) | (simp; omega) | omega))) | ((with_reducible refine Below.trans ?_ (Below.mono (by assumption) ?_)); rotate_left; (focus (first | with_reducible exact Nat.le_refl _ | (simp; done) | (simp; omega) | omega))))), ((Cells4.new _ _ _ _ _ _).alloc _).below hb1, (Cells4.new1 _ _ _ _ _ _ _).below hb1⟩ | (exfalso; simp_all; done) | (exfalso; simp_all; omega))
    case rest =>
      obtain ⟨rfl, hb, -, ⟨⟨e0, e1, e2, e3⟩, ⟨f0, f1, f2, f3⟩, hl2⟩⟩ := hcut
      clear hlen hnz2
      go_wp2_with fail
      refine bodyPost_ret (v := .tuple #[.agg #[.int .u64 0, .int .u64 0, .int .u64 0, .int .u64 0], .bool false]) ?_ rfl ⟨rfl, by (repeat first | with_reducible exact Below.refl _ _ | with_reducible assumption | with_reducible refine Below.drew ?_ | ((with_reducible refine Below.alloc ?_ ?_ _); rotate_left; (focus (first | with_reducible exact Nat.le_refl _ | (simp; done) | (simp; omega) | omega))) | ((with_reducible refine Below.setCell ?_ ?_ _); rotate_left; (focus (first | with_reducible exact Nat.le_refl _ | (simp; done) | (simp; omega) | omega))) | ((with_reducible refine Below.trans ?_ (Below.mono (by assumption) ?_)); rotate_left; (focus (first | with_reducible exact Nat.le_refl _ | (simp; done) | (simp; omega) | omega))))⟩
      simp [results, Tryz.results92, go_sem, e0, e1, e2, e3]
/-- **Shl.** -/
theorem Shl_any (a0 a1 a2 a3 : Nat) (h0 : a0 < 18446744073709551616) (h1 : a1 < 18446744073709551616) (h2 : a2 < 18446744073709551616) (h3 : a3 < 18446744073709551616) (k : Int) (w : World) (hk0 : -9223372036854775808 ≤ k) (hk1 : k < 9223372036854775808) :
    Calls Tryz.prog 92 #[.agg #[.int .u64 a0, .int .u64 a1, .int .u64 a2, .int .u64 a3], .int .i64 k] w fun e w' => e = .returned (.tuple #[.agg #[.int .u64 (lm (shlV (of4 a0 a1 a2 a3) k) 0 : Nat), .int .u64 (lm (shlV (of4 a0 a1 a2 a3) k) 1 : Nat), .int .u64 (lm (shlV (of4 a0 a1 a2 a3) k) 2 : Nat), .int .u64 (lm (shlV (of4 a0 a1 a2 a3) k) 3 : Nat)], .bool (shlOk (of4 a0 a1 a2 a3) k)]) ∧ Below w.heap.size w w' := by
  cases h : shlOk (of4 a0 a1 a2 a3) k with
  | false =>
    refine (Shl_no a0 a1 a2 a3 h0 h1 h2 h3 k w hk0 h).mono ?_
    rintro e w' ⟨rfl, hb⟩
    exact ⟨by simp [shlV, h, lm_zero], hb⟩
  | true =>
    have hh := h
    unfold shlOk at hh
    rw [decide_eq_true_iff] at hh
    obtain ⟨j, rfl⟩ : ∃ j : Nat, k = j := ⟨k.toNat, by omega⟩
    refine (Shl_ok a0 a1 a2 a3 h0 h1 h2 h3 j (by omega) w hh.2).mono ?_
    rintro e w' ⟨rfl, hb⟩
    exact ⟨by simp [shlV, h], hb⟩
end Go.Proofs.YtekeedjhaakbhaaGreatDoor
