/- Plain facts: which floats of 64 bits a float of 32 bits has. No program in sight. -/
import Derived.Test.YtpmfnhcnldoelaaDoorMathSgl
namespace Go.Proofs.YtpmfnhcnldoelaaDoor
open Go.RowKit
theorem encF_scale (f : Ieee.Format) {p : Nat} (hp : 0 < p) (j : Nat) (k : Int) (h1 : k + bl p - 1 - f.fractionBits ≤ k - j) (h2 : f.leastPlace ≤ k - j) : encF f (p * 2 ^ j) (k - j) = encF f p k := by
  unfold encF
  rw [if_neg (by have := Nat.mul_pos hp (Nat.two_pow_pos j); omega), if_neg (by omega), bl_mul_two_pow hp]
  have eL : max (k - (j : Int) + ((bl p + j : Nat) : Int) - 1 - f.fractionBits) f.leastPlace = max (k + bl p - 1 - f.fractionBits) f.leastPlace := by congr 1; omega
  rw [eL]
  generalize hL : max (k + (bl p : Int) - 1 - f.fractionBits) f.leastPlace = L
  have hle : L ≤ k - j := by omega
  rw [Nat.mul_assoc, ← Nat.pow_add]
  congr 3
  omega
/-- does a single have p 2^k? -/
def repS (p : Nat) (k : Int) : Bool := p == 0 || (decide (bl p ≤ 24) && decide (-149 ≤ k) && decide (k + bl p ≤ 128))
theorem repS_iff {p : Nat} {k : Int} : repS p k = true ↔ p = 0 ∨ (bl p ≤ 24 ∧ -149 ≤ k ∧ k + bl p ≤ 128) := by
  unfold repS
  simp [and_assoc]
/-- the single of a sign and p 2^k, taken apart -/
theorem sgl_of {p : Nat} {k : Int} (hp : 0 < p) (h1 : bl p ≤ 24) (h2 : -149 ≤ k) (h3 : k + bl p ≤ 128) (n : Nat) :
    encF Ieee.single p k < 2139095040 ∧ sE (n * 2147483648 + encF Ieee.single p k) ≠ 255 ∧ ∃ j : Nat, j ≤ 24 - bl p ∧ sP (n * 2147483648 + encF Ieee.single p k) = p * 2 ^ j ∧ sK (n * 2147483648 + encF Ieee.single p k) = k - j ∧ -149 ≤ k - (j : Int) := by
  obtain ⟨d1, d2, d3, _, _⟩ := sglF
  have hb := bl_pos hp
  by_cases c : k + bl p - 1 - 23 < -149
  · have e := encF_sub Ieee.single hp (k := k) (by rw [d1, d2]; omega)
    rw [d2] at e
    have hs52 : bl (p * 2 ^ (k - -149).toNat) ≤ 23 := by rw [bl_mul_two_pow hp]; omega
    have hs52 := (bl_le_iff _ 23).1 hs52
    rw [e]
    generalize hM : p * 2 ^ (k - -149).toNat = M at *
    have hsE : sE (n * 2147483648 + M) = 0 := by unfold sE; omega
    refine ⟨by omega, by rw [hsE]; omega, (k - -149).toNat, by omega, ?_, ?_, by omega⟩
    · unfold sP sM
      rw [if_pos hsE, hM]
      omega
    · unfold sK
      rw [if_pos hsE]
      omega
  · have e := encF_normal Ieee.single hp (k := k) (by rw [d1]; omega) (by rw [d1, d2]; omega)
    rw [d1, d2, d3] at e
    obtain ⟨h5, h6⟩ := top_bits (n := 23) hp (by omega)
    rw [show 23 + 1 - bl p = 24 - bl p from by omega] at e h5 h6
    generalize hM : p * 2 ^ (24 - bl p) = M at *
    have hg : (k + (bl p : Int) - 1 - ((23 : Nat) : Int) - -149).toNat = (k + bl p + 125).toNat := by omega
    rw [hg] at e
    rw [e]
    have hgl : (k + (bl p : Int) + 125).toNat ≤ 253 := by omega
    have hsE : sE (n * 2147483648 + ((k + (bl p : Int) + 125).toNat * 8388608 + M)) = (k + (bl p : Int) + 125).toNat + 1 := by unfold sE; omega
    refine ⟨by omega, by rw [hsE]; omega, 24 - bl p, by omega, ?_, ?_, by omega⟩
    · unfold sP sM
      rw [if_neg (by rw [hsE]; omega), hM]
      omega
    · unfold sK
      rw [if_neg (by rw [hsE]; omega), hsE]
      omega
/-- the single of a finite float that a single has -/
def sglOf (b : Nat) : Nat := b / 9223372036854775808 * 2147483648 + encF Ieee.single (pm b) (pk b)
theorem split63 (b : Nat) : b / 9223372036854775808 * 9223372036854775808 + b % 9223372036854775808 = b := by omega
theorem sgl_s1 {k : Int} {l j : Nat} (g : j ≤ 24 - l) (h : l ≤ 24) : k + (l : Int) - 1 - ((52 : Nat) : Int) ≤ k - j := by omega
theorem sgl_word {n r : Nat} (hn : n ≤ 1) (hr : r < 2139095040) : n * 2147483648 + r < 4294967296 ∧ (n * 2147483648 + r) / 2147483648 = n := by omega
theorem sglOf_back {b : Nat} (hb : b < 18446744073709551616) (hf : fe b ≠ 2047) (hr : repS (pm b) (pk b) = true) : sglOf b < 4294967296 ∧ sE (sglOf b) ≠ 255 ∧ singleV (sglOf b) = b := by
  have hn : b / 9223372036854775808 ≤ 1 := by omega
  have hen := enc_parts hf
  by_cases h0 : pm b = 0
  · have e : sglOf b = b / 9223372036854775808 * 2147483648 := by unfold sglOf; rw [h0, encF_zero, Nat.add_zero]
    have e2 : b % 9223372036854775808 = 0 := by rw [← hen, h0, encF_zero]
    have hsE : sE (b / 9223372036854775808 * 2147483648) = 0 := by unfold sE; omega
    have hsM : sM (b / 9223372036854775808 * 2147483648) = 0 := by unfold sM; omega
    have hsP : sP (b / 9223372036854775808 * 2147483648) = 0 := by unfold sP; rw [if_pos hsE, hsM]
    rw [e]
    refine ⟨by omega, by rw [hsE]; omega, ?_⟩
    unfold singleV
    rw [if_neg (by rw [hsE]; omega), hsP, encF_zero]
    omega
  · rcases repS_iff.1 hr with h | ⟨h1, h2, h3⟩
    · exact absurd h h0
    · obtain ⟨g1, g2, j, g3, g4, g5, g6⟩ := sgl_of (p := pm b) (k := pk b) (by omega) h1 h2 h3 (b / 9223372036854775808)
      change sE (sglOf b) ≠ 255 at g2
      change sP (sglOf b) = pm b * 2 ^ j at g4
      change sK (sglOf b) = pk b - j at g5
      obtain ⟨l1, hd⟩ := sgl_word hn g1
      change sglOf b < 4294967296 at l1
      change sglOf b / 2147483648 = b / 9223372036854775808 at hd
      have s1 : pk b + (bl (pm b) : Int) - 1 - ((52 : Nat) : Int) ≤ pk b - j := sgl_s1 g3 h1
      have s2 : (-1074 : Int) ≤ pk b - j := Int.le_trans (by decide) g6
      have hsc := encF_scale Ieee.double (Nat.pos_of_ne_zero h0) j (pk b) (by rw [dblF.1]; exact s1) (by rw [dblF.2.1]; exact s2)
      refine ⟨l1, g2, ?_⟩
      unfold singleV
      rw [if_neg g2, g4, g5, hsc, hen, hd]
      exact split63 b
/-- Nothing else is a single's number. -/
theorem sgl_only {b s : Nat} (hs : s < 4294967296) (hf : fe b ≠ 2047) (h : singleV s = b) : repS (pm b) (pk b) = true := by
  by_cases c : sE s = 255
  · exfalso
    apply hf
    rw [← h]
    have hn : s / 2147483648 ≤ 1 := by omega
    unfold singleV
    rw [if_pos c]
    split
    · unfold fe; omega
    · unfold fe; omega
  · have hv : singleV s = s / 2147483648 * 9223372036854775808 + encF Ieee.double (sP s) (sK s) := by unfold singleV; rw [if_neg c]
    rw [hv] at h
    have hn : s / 2147483648 ≤ 1 := by omega
    by_cases h0 : sP s = 0
    · have hz : pm b = 0 := by
        rw [pm_zero_iff]
        right
        rw [← h, h0, encF_zero, Nat.add_zero]
        have e1 : fe (s / 2147483648 * 9223372036854775808) = 0 := by unfold fe; omega
        have e2 : fm (s / 2147483648 * 9223372036854775808) = 0 := by unfold fm; omega
        unfold mant
        rw [if_pos e1, e2]
      rw [repS_iff]
      exact .inl hz
    · have hp : 0 < sP s := by omega
      have hr := sgl_repD hp c
      obtain ⟨a1, a2, a3, a4⟩ := parts_enc hp hr (s / 2147483648) hn
      rw [h] at a3 a4
      rw [repS_iff, a3, a4]
      right
      have b1 := sP_bl s
      have b2 := sK_ge s
      have b3 := sE_le s
      have hm : sP s / 2 ^ tz (sP s) * 2 ^ tz (sP s) = sP s := odd_part_mul _
      have hq : 0 < sP s / 2 ^ tz (sP s) := by
        have := odd_part_odd hp
        omega
      have hbl : bl (sP s / 2 ^ tz (sP s)) + tz (sP s) = bl (sP s) := by rw [← bl_mul_two_pow hq, hm]
      have hk : sK s ≤ 104 := by unfold sK; split <;> omega
      clear a1 a2 a3 a4 hr hv h hf hs hn hm
      generalize sP s / 2 ^ tz (sP s) = q at hq hbl ⊢
      generalize tz (sP s) = t at hbl ⊢
      refine ⟨by omega, by omega, by omega⟩
/-- the single of a float, if there is one -/
def tsOk (b : Nat) : Bool := fe b == 2047 || repS (pm b) (pk b)
def tsV (b : Nat) : Nat := if fe b = 2047 then (if fm b = 0 then b / 9223372036854775808 * 2147483648 + 2139095040 else 2143289344) else if repS (pm b) (pk b) = true then sglOf b else 0
theorem conv_rep {b : Nat} (hb : b < 18446744073709551616) (hf : fe b ≠ 2047) (hr : repS (pm b) (pk b) = true) : floatToFloatBits .f64 b .f32 = some (sglOf b) := by
  have hn : b / 9223372036854775808 ≤ 1 := by omega
  obtain ⟨q1, q2, q3⟩ := sglOf_back hb hf hr
  have hw : Ieee.single.write (.number (b / 9223372036854775808 == 1) (mant b) (plc b)) = sglOf b := by
    show Ieee.single.nearest (b / 9223372036854775808 == 1) (mant b) (plc b) = _
    by_cases h0 : mant b = 0
    · have hz : pm b = 0 := (pm_zero_iff b).2 (.inr h0)
      unfold Ieee.Format.nearest sglOf
      rw [if_pos h0, wordS _ hn, hz, encF_zero]
    · obtain ⟨g1, g2, g3⟩ := mant_pm hf h0
      rcases repS_iff.1 hr with h | ⟨h1, h2, h3⟩
      · omega
      · obtain ⟨d1, d2, d3, d4, d5⟩ := sglF
        obtain ⟨lt, _⟩ := sgl_of (p := pm b) (k := pk b) g1 h1 h2 h3 (b / 9223372036854775808)
        have key := nearest_repr Ieee.single (b / 9223372036854775808 == 1) g1 (tz (mant b)) (pk b) (by rw [d1]; omega) (by rw [d2]; exact h2) (by rw [d4]; exact lt)
        rw [← g2, ← g3] at key
        rw [key, wordS _ hn]
        rfl
  unfold floatToFloatBits
  rw [if_neg (by decide)]
  show (match Ieee.double.read b with | .nan _ _ => _ | .infinity t => _ | .number t m e => _) = _
  rw [read_fin hb hf]
  show (if (Ieee.single.read (Ieee.single.write (.number (b / 9223372036854775808 == 1) (mant b) (plc b)))).isInfinity = true then none else some (Ieee.single.write (.number (b / 9223372036854775808 == 1) (mant b) (plc b)))) = _
  rw [hw, readS_fin q1 q2]
  rfl
theorem conv_inf {b : Nat} (hb : b < 18446744073709551616) (hf : fe b = 2047) (hm : fm b = 0) : floatToFloatBits .f64 b .f32 = some (b / 9223372036854775808 * 2147483648 + 2139095040) := by
  have hn : b / 9223372036854775808 ≤ 1 := by omega
  unfold floatToFloatBits
  rw [if_neg (by decide)]
  show (match Ieee.double.read b with | .nan _ _ => _ | .infinity t => _ | .number t m e => _) = _
  rw [read_inf hb hf, if_pos hm]
  show some (Ieee.single.word (b / 9223372036854775808 == 1) Ieee.single.infRung) = _
  rw [wordS _ hn, sglF.2.2.2.1]
theorem inf_back {b : Nat} (hb : b < 18446744073709551616) (hf : fe b = 2047) (hm : fm b = 0) : b / 9223372036854775808 * 2147483648 + 2139095040 < 4294967296 ∧ singleV (b / 9223372036854775808 * 2147483648 + 2139095040) = b := by
  have hn : b / 9223372036854775808 ≤ 1 := by omega
  have h1 : sE (b / 9223372036854775808 * 2147483648 + 2139095040) = 255 := by unfold sE; omega
  have h2 : sM (b / 9223372036854775808 * 2147483648 + 2139095040) = 0 := by unfold sM; omega
  refine ⟨by omega, ?_⟩
  unfold singleV
  rw [if_pos h1, if_pos h2]
  unfold fe at hf
  unfold fm at hm
  omega
end Go.Proofs.YtpmfnhcnldoelaaDoor
