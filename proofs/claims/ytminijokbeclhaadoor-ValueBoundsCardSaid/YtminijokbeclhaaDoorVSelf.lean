/- Plain facts: a value is the same as itself; a float's value may be. -/
import Derived.Test.YtminijokbeclhaaDoorVSame
import Derived.Test.YtminijokbeclhaaDoorVNum
import Derived.Test.YtminijokbeclhaaDoorVTold
namespace Go.Proofs.YtminijokbeclhaaDoor
open Go.RowKit
theorem anyN_no0 {p : Nat → Bool} {n : Nat} (h : ∀ i, i < n → p i = false) : anyN p n = false := by
  induction n with
  | zero => rfl
  | succ k ih =>
    simp only [anyN]
    rw [ih fun i hi => h i (by omega), h k (by omega)]
    rfl
theorem whV_lt (b : Nat) : whV b < 2 ^ 256 := by
  unfold whV
  split
  · rename_i h
    by_cases h0 : pm b = 0
    · rw [h0, Nat.zero_mul]; exact Nat.two_pow_pos _
    · unfold whk at h
      simp only [Bool.and_eq_true] at h
      exact ((shlOk_iff (Nat.pos_of_ne_zero h0)).1 h.2).2
  · exact Nat.two_pow_pos _
theorem cls_nz {b : Nat} (h : whk b = false) : cls b ≠ 0 := by
  unfold cls
  rw [if_neg (by rw [h]; decide)]
  split
  · split <;> decide
  · split
    · decide
    · split <;> decide
theorem VT.sameB_self : ∀ (T : VT) (w : World), T.In w → T.sameB T = true := by
  intro T
  induction T with
  | nil => exact fun w h => h.elim
  | mk kind neg V bits text aL nL cL kids aK nK cK keys ih =>
    intro w hin
    obtain ⟨-, -, hk, -⟩ := hin
    simp only [VT.sameB]
    have e1 : anyN (fun i => decide (keys i ≠ keys i)) nK = false := anyN_no0 fun i _ => by simp
    have e2 : anyN (fun i => !(kids i).sameB (kids i)) nL = false := anyN_no0 fun i hi => by rw [ih i w (hk i hi)]; rfl
    rw [e1, e2]
    simp
theorem numT_in (b : Nat) (hb : b < 18446744073709551616) (w : World) : (numT b).In w := by
  unfold numT
  split
  · exact leaf_in w (by decide) (by decide) (whV_lt b) (by decide) (by decide)
  · refine leaf_in w (by decide) (by decide) (by decide) ?_ (by decide)
    unfold canonF
    split <;> omega
theorem numT_may (b : Nat) : (numT b).may = 0 := by
  unfold numT
  split
  · rename_i h
    rw [show VT.mk 3 (whN b) (whV b) 0 ⟨#[]⟩ none 0 0 (fun _ => .nil) none 0 0 (fun _ => ⟨#[]⟩) = leafT 3 (whN b) (whV b) 0 ⟨#[]⟩ from rfl, leaf_may (by decide)]
    have hm : mayI (whN b) (whV b) = true := by
      unfold mayI whN whV
      rw [if_pos h]
      by_cases hp : 0 < pm b
      · have : 0 < pm b * 2 ^ (pk b).toNat := Nat.mul_pos hp (Nat.two_pow_pos _)
        simp only [Bool.or_eq_true, bne_iff_ne]
        exact .inr (by omega)
      · simp [hp]
    have e : (midB 3 (whN b) (whV b) 0 ⟨#[]⟩ 0 0 (fun _ => ⟨#[]⟩) && eqB 3 (whN b) (whV b) 0 ⟨#[]⟩) = true := by
      simp [midB, eqB, bareNeg, bareV, bareB, bareT, hm]
    rw [if_pos e]
  · rename_i h
    rw [show VT.mk 4 false 0 (canonF b) ⟨#[]⟩ none 0 0 (fun _ => .nil) none 0 0 (fun _ => ⟨#[]⟩) = leafT 4 false 0 (canonF b) ⟨#[]⟩ from rfl, leaf_may (by decide)]
    have hm : mayF (canonF b) = true := by
      unfold canonF
      split
      · decide +kernel
      · rename_i h16
        have h0 : cls b ≠ 0 := cls_nz (by simpa using h)
        unfold mayF
        simp [h0, h16]
    have e : (midB 4 false 0 (canonF b) ⟨#[]⟩ 0 0 (fun _ => ⟨#[]⟩) && eqB 4 false 0 (canonF b) ⟨#[]⟩) = true := by
      simp [midB, eqB, bareNeg, bareV, bareB, bareT, hm]
    rw [if_pos e]
end Go.Proofs.YtminijokbeclhaaDoor
