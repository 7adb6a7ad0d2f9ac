/- Plain facts on floats of 32 bits: what a word stands for, as a float of 64 bits; back. No program in sight. -/
import Derived.Test.YtpmfnhcnldoelaaDoorMathIeeeB
import Derived.Laws.FloatArith
namespace Go.Proofs.YtpmfnhcnldoelaaDoor
open Go.RowKit
/-- a single's fields -/
def sE (s : Nat) : Nat := s / 8388608 % 256
def sM (s : Nat) : Nat := s % 8388608
/-- a single's number ahead of its power of two, and that power -/
def sP (s : Nat) : Nat := if sE s = 0 then sM s else sM s + 8388608
def sK (s : Nat) : Int := (if sE s = 0 then 1 else (sE s : Int)) - 150
/-- a single as a float of 64 bits -/
def singleV (s : Nat) : Nat := if sE s = 255 then (if sM s = 0 then s / 2147483648 * 9223372036854775808 + 9218868437227405312 else 9221120237041090560) else s / 2147483648 * 9223372036854775808 + encF Ieee.double (sP s) (sK s)
theorem sE_le (s : Nat) : sE s ≤ 255 := by unfold sE; omega
theorem sM_lt (s : Nat) : sM s < 8388608 := by unfold sM; omega
theorem sP_lt (s : Nat) : sP s < 16777216 := by have := sM_lt s; unfold sP; split <;> omega
theorem sP_bl (s : Nat) : bl (sP s) ≤ 24 := (bl_le_iff _ 24).2 (by have := sP_lt s; omega)
theorem sK_ge (s : Nat) : -149 ≤ sK s := by unfold sK; split <;> omega
theorem readS_fin {s : Nat} (hs : s < 4294967296) (hf : sE s ≠ 255) : Ieee.single.read s = .number (s / 2147483648 == 1) (sP s) (sK s) := by
  obtain ⟨_, d2, d3, d4, d5⟩ := sglF
  have hfe := sE_le s
  unfold Ieee.Format.read
  simp only [d2, d3, d4, d5]
  have h1 : s / 2147483648 % 2 = s / 2147483648 := by omega
  rw [h1]
  by_cases c : sE s = 0
  · have hr : s % 2147483648 = sM s := by unfold sE at c; unfold sM; omega
    rw [hr, if_pos (sM_lt s)]
    simp [sP, sK, c]
  · have hr : s % 2147483648 = sE s * 8388608 + sM s := by unfold sE sM; omega
    have hfm := sM_lt s
    rw [if_neg (by rw [hr]; omega), if_pos (by rw [hr]; omega)]
    have e1 : s % 2147483648 % 8388608 = sM s := by rw [hr]; omega
    have e2 : s % 2147483648 / 8388608 = sE s := by rw [hr]; omega
    rw [e1, e2]
    congr 1
    · simp [sP, c]; omega
    · simp [sK, c]; omega
theorem readS_inf {s : Nat} (hs : s < 4294967296) (hf : sE s = 255) : Ieee.single.read s = if sM s = 0 then .infinity (s / 2147483648 == 1) else .nan (s / 2147483648 == 1) (sM s) := by
  obtain ⟨_, d2, d3, d4, d5⟩ := sglF
  unfold Ieee.Format.read
  simp only [d2, d3, d4, d5]
  have h1 : s / 2147483648 % 2 = s / 2147483648 := by omega
  have hr : s % 2147483648 = 2139095040 + sM s := by unfold sE at hf; unfold sM; omega
  rw [h1, hr, if_neg (by omega), if_neg (by omega)]
  by_cases c : sM s = 0
  · rw [if_pos (by omega), if_pos c]
  · rw [if_neg (by omega), if_neg c, Nat.add_sub_cancel_left]
theorem wordD (n : Nat) (hn : n ≤ 1) (r : Nat) : Ieee.double.word (n == 1) r = n * 9223372036854775808 + r := by
  unfold Ieee.Format.word
  rw [dblF.2.2.2.2]
  obtain rfl | rfl : n = 0 ∨ n = 1 := by omega
  · simp
  · simp
theorem wordS (n : Nat) (hn : n ≤ 1) (r : Nat) : Ieee.single.word (n == 1) r = n * 2147483648 + r := by
  unfold Ieee.Format.word
  rw [sglF.2.2.2.2]
  obtain rfl | rfl : n = 0 ∨ n = 1 := by omega
  · simp
  · simp
/-- What a single stands for is a float of 64 bits. -/
theorem sgl_repD {s : Nat} (_hp : 0 < sP s) (_hf : sE s ≠ 255) : repD (sP s) (sK s) := by
  have h1 := sP_bl s
  have h2 := sK_ge s
  have h3 := sE_le s
  refine ⟨by omega, by omega, ?_⟩
  unfold sK
  split <;> omega
theorem encF_zero (f : Ieee.Format) (k : Int) : encF f 0 k = 0 := by simp [encF]
theorem write_zero (n : Nat) (hn : n ≤ 1) (p : Int) : Ieee.double.write (.number (n == 1) 0 p) = n * 9223372036854775808 := by
  show Ieee.double.nearest (n == 1) 0 p = _
  unfold Ieee.Format.nearest
  rw [if_pos rfl, wordD n hn]
  omega
theorem write_sgl {s : Nat} (hs : s < 4294967296) (hf : sE s ≠ 255) : Ieee.double.write (.number (s / 2147483648 == 1) (sP s) (sK s)) = s / 2147483648 * 9223372036854775808 + encF Ieee.double (sP s) (sK s) := by
  have hn : s / 2147483648 ≤ 1 := by omega
  by_cases h0 : sP s = 0
  · rw [h0, write_zero _ hn, encF_zero, Nat.add_zero]
  · obtain ⟨d1, d2, d3, d4, d5⟩ := dblF
    have hr := sgl_repD (s := s) (by omega) hf
    have hlt := encD_lt (by omega) hr
    have key := nearest_repr Ieee.double (s / 2147483648 == 1) (p := sP s) (by omega) 0 (sK s) (by rw [d1]; have := hr.1; omega) (by rw [d2]; exact hr.2.1) (by rw [d4]; exact hlt)
    rw [Nat.pow_zero, Nat.mul_one] at key
    have e0 : sK s - ((0 : Nat) : Int) = sK s := by omega
    rw [e0] at key
    show Ieee.double.nearest _ _ _ = _
    rw [key, wordD _ hn]
/-- the fields of a sign and a rung below infinity's -/
theorem fe_sign {n r : Nat} (hr : r < 9218868437227405312) : fe (n * 9223372036854775808 + r) ≠ 2047 := by unfold fe; omega
theorem fin_iff {b : Nat} : fin b = true ↔ fe b ≠ 2047 := by unfold fin; simp
theorem encF_lt64 {n : Nat} {k : Int} (hb : bl n ≤ 53) (h1 : -1074 ≤ k) (h2 : k + bl n ≤ 1024) : encF Ieee.double n k < 9218868437227405312 := by
  by_cases h0 : n = 0
  · subst h0; simp [encF]
  · exact encD_lt (by omega) ⟨hb, h1, h2⟩
theorem sgl_enc_lt {s : Nat} (hf : sE s ≠ 255) : encF Ieee.double (sP s) (sK s) < 9218868437227405312 := by
  by_cases h0 : sP s = 0
  · rw [h0, encF_zero]; omega
  · exact encD_lt (by omega) (sgl_repD (by omega) hf)
theorem singleV_lt {s : Nat} (hs : s < 4294967296) : singleV s < 18446744073709551616 := by
  unfold singleV
  split
  · split <;> omega
  · rename_i h
    have := sgl_enc_lt h
    omega
/-- the conversion of what is no NaN -/
theorem conv_sgl {s : Nat} (hs : s < 4294967296) (h : ¬ (sE s = 255 ∧ sM s ≠ 0)) : floatToFloatBits .f32 s .f64 = some (singleV s) := by
  have hn : s / 2147483648 ≤ 1 := by omega
  unfold floatToFloatBits
  rw [if_neg (by decide)]
  show (match Ieee.single.read s with | .nan _ _ => _ | .infinity t => _ | .number t m e => _) = _
  by_cases c : sE s = 255
  · have hm : sM s = 0 := by
      by_cases hm : sM s = 0
      · exact hm
      · exact absurd ⟨c, hm⟩ h
    rw [readS_inf hs c, if_pos hm]
    show some (Ieee.double.word (s / 2147483648 == 1) Ieee.double.infRung) = _
    rw [wordD _ hn, dblF.2.2.2.1]
    unfold singleV
    rw [if_pos c, if_pos hm]
  · rw [readS_fin hs c]
    have hw := write_sgl hs c
    have hlt := sgl_enc_lt c
    have hr : (Ieee.double.read (s / 2147483648 * 9223372036854775808 + encF Ieee.double (sP s) (sK s))).isInfinity = false := by
      rw [read_fin (by omega) (fe_sign hlt)]
      rfl
    show (if (Ieee.double.read (Ieee.double.write (.number (s / 2147483648 == 1) (sP s) (sK s)))).isInfinity = true then none else some (Ieee.double.write (.number (s / 2147483648 == 1) (sP s) (sK s)))) = _
    rw [hw, hr]
    unfold singleV
    rw [if_neg c]
    rfl
/-- What comes of no NaN is no NaN. -/
theorem canon_sgl {s : Nat} (hs : s < 4294967296) (h : ¬ (sE s = 255 ∧ sM s ≠ 0)) : canonF (singleV s) = singleV s := by
  unfold canonF
  rw [if_neg]
  intro h16
  have hn : s / 2147483648 ≤ 1 := by omega
  have hk : fin (singleV s) = false ∧ singleV s ≠ 9218868437227405312 ∧ singleV s ≠ 18442240474082181120 := by
    unfold cls at h16
    split at h16
    · omega
    · split at h16
      · split at h16 <;> omega
      · rename_i hfin
        split at h16
        · omega
        · split at h16
          · omega
          · exact ⟨by simpa using hfin, by assumption, by assumption⟩
  obtain ⟨k1, k2, k3⟩ := hk
  by_cases c : sE s = 255
  · have hm : sM s = 0 := by
      by_cases hm : sM s = 0
      · exact hm
      · exact absurd ⟨c, hm⟩ h
    unfold singleV at k2 k3
    rw [if_pos c, if_pos hm] at k2 k3
    omega
  · have hlt := sgl_enc_lt c
    have : fin (singleV s) = true := by
      rw [fin_iff]
      unfold singleV
      rw [if_neg c]
      exact fe_sign hlt
    rw [this] at k1
    cases k1
end Go.Proofs.YtpmfnhcnldoelaaDoor
