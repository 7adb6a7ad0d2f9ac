/- Plain facts: which floats of 64 bits a half float has. -/
import Derived.Test.YtpmfnhcnldoelaaDoorToHalf
import Derived.Test.YtpmfnhcnldoelaaDoorHalf
namespace Go.Proofs.YtpmfnhcnldoelaaDoor
open Go.RowKit
theorem hE_le (s : Nat) : hE s ≤ 31 := by unfold hE; omega
theorem hK_ge (s : Nat) : -24 ≤ hK s := by have := hE_le s; unfold hK; split <;> omega
theorem hK_le (s : Nat) : hK s ≤ 6 := by have := hE_le s; unfold hK; split <;> omega
theorem hlf_repD (s : Nat) : repD (hP s) (hK s) := by
  have h1 := hP_bl s
  have h2 := hK_ge s
  have h3 := hK_le s
  exact ⟨by omega, by omega, by omega⟩
/-- the single of a sign and p 2^k, taken apart -/
theorem hlf_of {p : Nat} {k : Int} (hp : 0 < p) (h1 : bl p ≤ 11) (h2 : -24 ≤ k) (h3 : k + bl p ≤ 16) (n : Nat) :
    encF halfF p k < 31744 ∧ hE (n * 32768 + encF halfF p k) ≠ 31 ∧ ∃ j : Nat, j ≤ 11 - bl p ∧ hP (n * 32768 + encF halfF p k) = p * 2 ^ j ∧ hK (n * 32768 + encF halfF p k) = k - j ∧ -24 ≤ k - (j : Int) := by
  obtain ⟨d1, d2, d3, _, _⟩ := hlfF
  have hb := bl_pos hp
  by_cases c : k + bl p - 1 - 10 < -24
  · have e := encF_sub halfF hp (k := k) (by rw [d1, d2]; omega)
    rw [d2] at e
    have hs52 : bl (p * 2 ^ (k - -24).toNat) ≤ 10 := by rw [bl_mul_two_pow hp]; omega
    have hs52 := (bl_le_iff _ 10).1 hs52
    rw [e]
    generalize hMM : p * 2 ^ (k - -24).toNat = M at *
    have hsE : hE (n * 32768 + M) = 0 := by unfold hE; omega
    refine ⟨by omega, by rw [hsE]; omega, (k - -24).toNat, by omega, ?_, ?_, by omega⟩
    · unfold hP hM
      rw [if_pos hsE, hMM]
      omega
    · unfold hK
      rw [if_pos hsE]
      omega
  · have e := encF_normal halfF hp (k := k) (by rw [d1]; omega) (by rw [d1, d2]; omega)
    rw [d1, d2, d3] at e
    obtain ⟨h5, h6⟩ := top_bits (n := 10) hp (by omega)
    rw [show 10 + 1 - bl p = 11 - bl p from by omega] at e h5 h6
    generalize hMM : p * 2 ^ (11 - bl p) = M at *
    have hg : (k + (bl p : Int) - 1 - ((10 : Nat) : Int) - -24).toNat = (k + bl p + 13).toNat := by omega
    rw [hg] at e
    rw [e]
    have hgl : (k + (bl p : Int) + 13).toNat ≤ 29 := by omega
    have hsE : hE (n * 32768 + ((k + (bl p : Int) + 13).toNat * 1024 + M)) = (k + (bl p : Int) + 13).toNat + 1 := by unfold hE; omega
    refine ⟨by omega, by rw [hsE]; omega, 11 - bl p, by omega, ?_, ?_, by omega⟩
    · unfold hP hM
      rw [if_neg (by rw [hsE]; omega), hMM]
      omega
    · unfold hK
      rw [if_neg (by rw [hsE]; omega), hsE]
      omega
theorem hlf_s1 {k : Int} {l j : Nat} (g : j ≤ 11 - l) (h : l ≤ 11) : k + (l : Int) - 1 - ((52 : Nat) : Int) ≤ k - j := by omega
theorem hlf_word {n r : Nat} (hn : n ≤ 1) (hr : r < 31744) : n * 32768 + r < 65536 ∧ (n * 32768 + r) / 32768 = n := by omega
theorem hlfOf_back {b : Nat} (hb : b < 18446744073709551616) (hf : fe b ≠ 2047) (hr : repH (pm b) (pk b) = true) : hlfOf b < 65536 ∧ hE (hlfOf b) ≠ 31 ∧ halfV (hlfOf b) = b := by
  have hn : b / 9223372036854775808 ≤ 1 := by omega
  have hen := enc_parts hf
  by_cases h0 : pm b = 0
  · have e : hlfOf b = b / 9223372036854775808 * 32768 := by unfold hlfOf; rw [h0, encF_zero, Nat.add_zero]
    have e2 : b % 9223372036854775808 = 0 := by rw [← hen, h0, encF_zero]
    have hsE : hE (b / 9223372036854775808 * 32768) = 0 := by unfold hE; omega
    have hsM : hM (b / 9223372036854775808 * 32768) = 0 := by unfold hM; omega
    have hsP : hP (b / 9223372036854775808 * 32768) = 0 := by unfold hP; rw [if_pos hsE, hsM]
    rw [e]
    refine ⟨by omega, by rw [hsE]; omega, ?_⟩
    unfold halfV
    rw [if_neg (by rw [hsE]; omega), hsP, encF_zero]
    omega
  · rcases repH_iff.1 hr with h | ⟨h1, h2, h3⟩
    · exact absurd h h0
    · obtain ⟨g1, g2, j, g3, g4, g5, g6⟩ := hlf_of (p := pm b) (k := pk b) (by omega) h1 h2 h3 (b / 9223372036854775808)
      change hE (hlfOf b) ≠ 31 at g2
      change hP (hlfOf b) = pm b * 2 ^ j at g4
      change hK (hlfOf b) = pk b - j at g5
      obtain ⟨l1, hd⟩ := hlf_word hn g1
      change hlfOf b < 65536 at l1
      change hlfOf b / 32768 = b / 9223372036854775808 at hd
      have s1 : pk b + (bl (pm b) : Int) - 1 - ((52 : Nat) : Int) ≤ pk b - j := hlf_s1 g3 h1
      have s2 : (-1074 : Int) ≤ pk b - j := Int.le_trans (by decide) g6
      have hsc := encF_scale Ieee.double (Nat.pos_of_ne_zero h0) j (pk b) (by rw [dblF.1]; exact s1) (by rw [dblF.2.1]; exact s2)
      refine ⟨l1, g2, ?_⟩
      unfold halfV
      rw [if_neg g2, g4, g5, hsc, hen, hd]
      exact split63 b
/-- Nothing else is a single's number. -/
theorem hlf_only {b s : Nat} (hs : s < 65536) (hf : fe b ≠ 2047) (h : halfV s = b) : repH (pm b) (pk b) = true := by
  by_cases c : hE s = 31
  · exfalso
    apply hf
    rw [← h]
    have hn : s / 32768 ≤ 1 := by omega
    unfold halfV
    rw [if_pos c]
    split
    · unfold fe; omega
    · unfold fe; omega
  · have hv : halfV s = s / 32768 * 9223372036854775808 + encF Ieee.double (hP s) (hK s) := by unfold halfV; rw [if_neg c]
    rw [hv] at h
    have hn : s / 32768 ≤ 1 := by omega
    by_cases h0 : hP s = 0
    · have hz : pm b = 0 := by
        rw [pm_zero_iff]
        right
        rw [← h, h0, encF_zero, Nat.add_zero]
        have e1 : fe (s / 32768 * 9223372036854775808) = 0 := by unfold fe; omega
        have e2 : fm (s / 32768 * 9223372036854775808) = 0 := by unfold fm; omega
        unfold mant
        rw [if_pos e1, e2]
      rw [repH_iff]
      exact .inl hz
    · have hp : 0 < hP s := by omega
      have hr := hlf_repD s
      obtain ⟨a1, a2, a3, a4⟩ := parts_enc hp hr (s / 32768) hn
      rw [h] at a3 a4
      rw [repH_iff, a3, a4]
      right
      have b1 := hP_bl s
      have b2 := hK_ge s
      have b3 := hE_le s
      have hm : hP s / 2 ^ tz (hP s) * 2 ^ tz (hP s) = hP s := odd_part_mul _
      have hq : 0 < hP s / 2 ^ tz (hP s) := by
        have := odd_part_odd hp
        omega
      have hbl : bl (hP s / 2 ^ tz (hP s)) + tz (hP s) = bl (hP s) := by rw [← bl_mul_two_pow hq, hm]
      have hk : hK s ≤ 5 := by unfold hK; split <;> omega
      clear a1 a2 a3 a4 hr hv h hf hs hn hm
      generalize hP s / 2 ^ tz (hP s) = q at hq hbl ⊢
      generalize tz (hP s) = t at hbl ⊢
      refine ⟨by omega, by omega, by omega⟩
end Go.Proofs.YtpmfnhcnldoelaaDoor
