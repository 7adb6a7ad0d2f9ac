/- The law NatBits: what its walk asks. -/
import Derived.Test.YtbmeejfpaeggjaaDoorBitA1
import Derived.Test.YtbmeejfpaeggjaaDoorBitA2
import Derived.Test.YtbmeejfpaeggjaaDoorBitA3
import Derived.Test.YtbmeejfpaeggjaaDoorBitA4
import Derived.Test.YtbmeejfpaeggjaaDoorBitB1
import Derived.Test.YtbmeejfpaeggjaaDoorBitB2
import Derived.Test.YtbmeejfpaeggjaaDoorBitB3
import Derived.Test.YtbmeejfpaeggjaaDoorBitB4
import Derived.Test.YtbmeejfpaeggjaaDoorBitC1
import Derived.Test.YtbmeejfpaeggjaaDoorBitC2
import Derived.Test.YtbmeejfpaeggjaaDoorBitC3
import Derived.Test.YtbmeejfpaeggjaaDoorBitC4
namespace Go.Proofs.YtbmeejfpaeggjaaDoor
open Go.RowKit
theorem bl_zero_iff (A : Nat) : A = 0 ↔ bl A = 0 := by
  constructor
  · intro h
    rw [h]
    exact bl_zero
  · intro h
    have := (bl_le_iff A 0).1 (by omega)
    simpa using this
theorem tmod300 (k : Int) : -300 ≤ k.tmod 300 ∧ k.tmod 300 ≤ 300 := by
  by_cases h : 0 ≤ k
  · rw [Int.tmod_eq_emod_of_nonneg h]
    omega
  · obtain ⟨m, rfl⟩ : ∃ m, k = -m := ⟨-k, by omega⟩
    rw [Int.neg_tmod, Int.tmod_eq_emod_of_nonneg (by omega)]
    omega
/-- **NatBits answers true.** -/
theorem Bits_any (A : Nat) (k : Int) (hA : A < 2 ^ 256) (hk0 : -9223372036854775808 ≤ k) (hk1 : k < 9223372036854775808) (w : World) (hT : Tabs w) :
    Calls Tryd.prog 9 #[.agg #[.int .u64 (lm (A) 0 : Nat), .int .u64 (lm (A) 1 : Nat), .int .u64 (lm (A) 2 : Nat), .int .u64 (lm (A) 3 : Nat)], .int .i64 k] w fun e w' => e = .returned (.bool true) ∧ Below w.heap.size w w' := by
  obtain ⟨i, hi⟩ : ∃ i, k.tmod 300 = i := ⟨_, rfl⟩
  have hb := tmod300 k
  rw [hi] at hb
  have hL : bl A ≤ 256 := (bl_le_iff A 256).2 hA
  have hB := Lib.hid (bitsC A k i hA hk0 hk1 hb.1 hb.2)
  have g1 : Hid (shlOk A i = decide (0 ≤ i ∧ (bl A = 0 ∨ i ≤ 256 - (bl A : Int)))) := Lib.hid (by
    unfold shlOk
    rw [Bool.eq_iff_iff, decide_eq_true_eq, decide_eq_true_eq, bl_zero_iff A])
  have g2 : Hid (shlOk A i = false → shlV A i = 0) := Lib.hid (by
    intro h
    unfold shlV
    rw [h]
    rfl)
  have g3 : Hid (oneLimb (lm A 1) (lm A 2) (lm A 3) = ((((lm A 1 : Nat) : Int) == 0) && (((lm A 2 : Nat) : Int) == 0) && (((lm A 3 : Nat) : Int) == 0))) := Lib.hid (by
    unfold oneLimb
    rw [Bool.eq_iff_iff]
    first | (simp; done) | (simp; omega))
  have g4 : Hid ((oneLimb (lm A 1) (lm A 2) (lm A 3) = true → lowV (lm A 0) (lm A 1) (lm A 2) (lm A 3) = lm A 0) ∧ (oneLimb (lm A 1) (lm A 2) (lm A 3) = false → lowV (lm A 0) (lm A 1) (lm A 2) (lm A 3) = 0)) := Lib.hid (by
    unfold lowV
    exact ⟨fun h => by rw [if_pos h], fun h => by rw [h]; rfl⟩)
  have f1 : ¬ 0 ≤ k → shlOk A k = false := fun h => by
    unfold shlOk
    exact decide_eq_false fun h2 => by omega
  have f2 : ¬ k ≤ 256 → shlOk A k = (((bl A : Nat) : Int) == 0) := fun h => by
    unfold shlOk
    rw [Bool.eq_iff_iff, decide_eq_true_eq, beq_iff_eq, bl_zero_iff A]
    omega
  by_cases hi1 : oneLimb (lm A 1) (lm A 2) (lm A 3) = true
  · by_cases e1 : 0 ≤ k
    · by_cases e2 : k ≤ 256
      · exact Bits_walkB1 A k i (max i 0) (bl A) _ _ _ _ _ _ _ _ _ _ hB hi rfl (by omega) (by omega) hb.1 hb.2 (by omega) g1 (Lib.hid hi1) g2 g3 g4 (Lib.hid e1) (Lib.hid e2) w hT
      · exact Bits_walkC1 A k i (max i 0) (bl A) _ _ _ _ _ _ _ _ _ _ hB hi rfl (by omega) (by omega) hb.1 hb.2 (by omega) g1 (Lib.hid hi1) g2 g3 g4 (Lib.hid e1) (Lib.hid (decide_eq_false e2)) (Lib.hid (f2 e2)) w hT
    · exact Bits_walkA1 A k i (max i 0) (bl A) _ _ _ _ _ _ _ _ _ _ hB hi rfl (by omega) (by omega) hb.1 hb.2 (by omega) g1 (Lib.hid hi1) g2 g3 g4 (Lib.hid (decide_eq_false e1)) (Lib.hid (f1 e1)) w hT
  · rw [Bool.not_eq_true] at hi1
    have hg := g3.out
    rw [hi1] at hg
    cases hy1 : (((lm A 1 : Nat) : Int) == 0)
    · by_cases e1 : 0 ≤ k
      · by_cases e2 : k ≤ 256
        · exact Bits_walkB2 A k i (max i 0) (bl A) _ _ _ _ _ _ _ _ _ _ hB hi rfl (by omega) (by omega) hb.1 hb.2 (by omega) g1 (Lib.hid hi1) (Lib.hid hy1) g2 g3 g4 (Lib.hid e1) (Lib.hid e2) w hT
        · exact Bits_walkC2 A k i (max i 0) (bl A) _ _ _ _ _ _ _ _ _ _ hB hi rfl (by omega) (by omega) hb.1 hb.2 (by omega) g1 (Lib.hid hi1) (Lib.hid hy1) g2 g3 g4 (Lib.hid e1) (Lib.hid (decide_eq_false e2)) (Lib.hid (f2 e2)) w hT
      · exact Bits_walkA2 A k i (max i 0) (bl A) _ _ _ _ _ _ _ _ _ _ hB hi rfl (by omega) (by omega) hb.1 hb.2 (by omega) g1 (Lib.hid hi1) (Lib.hid hy1) g2 g3 g4 (Lib.hid (decide_eq_false e1)) (Lib.hid (f1 e1)) w hT
    · cases hy2 : (((lm A 2 : Nat) : Int) == 0)
      · by_cases e1 : 0 ≤ k
        · by_cases e2 : k ≤ 256
          · exact Bits_walkB3 A k i (max i 0) (bl A) _ _ _ _ _ _ _ _ _ _ hB hi rfl (by omega) (by omega) hb.1 hb.2 (by omega) g1 (Lib.hid hi1) (Lib.hid ⟨hy1, hy2⟩) g2 g3 g4 (Lib.hid e1) (Lib.hid e2) w hT
          · exact Bits_walkC3 A k i (max i 0) (bl A) _ _ _ _ _ _ _ _ _ _ hB hi rfl (by omega) (by omega) hb.1 hb.2 (by omega) g1 (Lib.hid hi1) (Lib.hid ⟨hy1, hy2⟩) g2 g3 g4 (Lib.hid e1) (Lib.hid (decide_eq_false e2)) (Lib.hid (f2 e2)) w hT
        · exact Bits_walkA3 A k i (max i 0) (bl A) _ _ _ _ _ _ _ _ _ _ hB hi rfl (by omega) (by omega) hb.1 hb.2 (by omega) g1 (Lib.hid hi1) (Lib.hid ⟨hy1, hy2⟩) g2 g3 g4 (Lib.hid (decide_eq_false e1)) (Lib.hid (f1 e1)) w hT
      · cases hy3 : (((lm A 3 : Nat) : Int) == 0)
        · by_cases e1 : 0 ≤ k
          · by_cases e2 : k ≤ 256
            · exact Bits_walkB4 A k i (max i 0) (bl A) _ _ _ _ _ _ _ _ _ _ hB hi rfl (by omega) (by omega) hb.1 hb.2 (by omega) g1 (Lib.hid hi1) (Lib.hid ⟨hy1, hy2, hy3⟩) g2 g3 g4 (Lib.hid e1) (Lib.hid e2) w hT
            · exact Bits_walkC4 A k i (max i 0) (bl A) _ _ _ _ _ _ _ _ _ _ hB hi rfl (by omega) (by omega) hb.1 hb.2 (by omega) g1 (Lib.hid hi1) (Lib.hid ⟨hy1, hy2, hy3⟩) g2 g3 g4 (Lib.hid e1) (Lib.hid (decide_eq_false e2)) (Lib.hid (f2 e2)) w hT
          · exact Bits_walkA4 A k i (max i 0) (bl A) _ _ _ _ _ _ _ _ _ _ hB hi rfl (by omega) (by omega) hb.1 hb.2 (by omega) g1 (Lib.hid hi1) (Lib.hid ⟨hy1, hy2, hy3⟩) g2 g3 g4 (Lib.hid (decide_eq_false e1)) (Lib.hid (f1 e1)) w hT
        · rw [hy1, hy2, hy3] at hg
          exact absurd hg (by decide)
end Go.Proofs.YtbmeejfpaeggjaaDoor
