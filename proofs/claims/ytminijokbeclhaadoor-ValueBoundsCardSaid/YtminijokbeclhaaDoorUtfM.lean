/- Texts, the plain laws: what the document's Next answers, and what a valid text is. -/
import Derived.Lib.ValidLaws
namespace Go.Proofs.YtminijokbeclhaaDoor
open Go.Lib
/-- the document's answer out of the library's -/
def nxD (d : Nat × Nat) : Int × Nat := if d.1 = 65533 ∧ d.2 = 1 then (-1, 1) else ((d.1 : Int), d.2)
/-- the code point at a place, and how many bytes it has; -1: there is none -/
def nxS (s : ByteArray) (a : Nat) : Int × Nat := nxD (Utf8.decode s a)
def validS (s : ByteArray) : Bool := validD s.data.toList
theorem nxS_N (s : ByteArray) (a : Nat) : nxS s a = nxD (decodeN (s.size - a) (s.get! a).toNat (s.get! (a + 1)).toNat (s.get! (a + 2)).toNat (s.get! (a + 3)).toNat) := by
  unfold nxS
  rw [decode_at]
theorem nxS_pos (s : ByteArray) (a : Nat) : 1 ≤ (nxS s a).2 := by
  have h := decodeL_width (s.data.toList.drop a)
  rw [decodeL_drop] at h
  unfold nxS nxD
  split
  · exact Nat.le_refl _
  · exact h
theorem size_list (s : ByteArray) : s.data.toList.length = s.size := Array.length_toList
/-- a text's tail: it is valid, if what stands at its head is, and the rest -/
theorem valid_next (s : ByteArray) (a : Nat) (h : a < s.size) : validD (s.data.toList.drop a) = if (nxS s a).1 < 0 then false else validD (s.data.toList.drop (a + (nxS s a).2)) := by
  have hne : s.data.toList.drop a ≠ [] := by
    intro h0
    have := congrArg List.length h0
    rw [List.length_drop, size_list] at this
    simp at this
    omega
  rw [validD_step _ hne, decodeL_drop, List.drop_drop]
  unfold nxS nxD
  by_cases c : (Utf8.decode s a).1 = 65533 ∧ (Utf8.decode s a).2 = 1
  · rw [if_pos c, if_pos c, if_pos (by decide)]
  · rw [if_neg c, if_neg c, if_neg (by simp)]
theorem valid_end (s : ByteArray) (a : Nat) (h : s.size ≤ a) : validD (s.data.toList.drop a) = true := by
  rw [List.drop_eq_nil_of_le (by rw [size_list]; exact h)]
  rfl
theorem valid_start (s : ByteArray) : validD (s.data.toList.drop 0) = validS s := rfl
theorem nxS_le (s : ByteArray) (a : Nat) (h : a < s.size) : a + (nxS s a).2 ≤ s.size := by
  have hne : s.data.toList.drop a ≠ [] := by
    intro h0
    have := congrArg List.length h0
    rw [List.length_drop, size_list] at this
    simp at this
    omega
  have hl := decodeL_le _ hne
  rw [decodeL_drop, List.length_drop, size_list] at hl
  unfold nxS nxD
  split
  · simp; omega
  · simp; omega
/-! ### the document's way: a head that tells how many bytes, its number, the least that may have so many -/
/-- is the number a code point? -/
def pointB (c : Int) : Bool := decide (0 ≤ c ∧ c ≤ 1114111 ∧ (c < 55296 ∨ 57343 < c))
/-- the number of k bytes out of a head's -/
def ccN (c0 b1 b2 b3 : Nat) : Nat → Nat
  | 0 => c0
  | 1 => c0
  | 2 => c0 * 64 + b1 % 64
  | 3 => (c0 * 64 + b1 % 64) * 64 + b2 % 64
  | _ => ((c0 * 64 + b1 % 64) * 64 + b2 % 64) * 64 + b3 % 64
theorem nxD_if {c : Prop} [Decidable c] {A k : Nat} (h : k ≠ 1) : nxD (if c then (A, k) else (65533, 1)) = if c then ((A : Int), k) else (-1, 1) := by
  unfold nxD
  by_cases d : c
  · rw [if_pos d, if_pos d, if_neg (fun x => h x.2)]
  · rw [if_neg d, if_neg d, if_pos ⟨rfl, rfl⟩]
theorem nx_one {n b0 b1 b2 b3 : Nat} (h : b0 < 128) : nxD (decodeN n b0 b1 b2 b3) = ((b0 : Int), 1) := by
  have e : decodeN n b0 b1 b2 b3 = (b0, 1) := by unfold decodeN; rw [if_pos h]
  rw [e]
  unfold nxD
  rw [if_neg (fun x => by have := x.1; simp only at this; omega)]
theorem nx_bad {n b0 b1 b2 b3 : Nat} (h : 128 ≤ b0) (h2 : b0 < 192 ∨ 248 ≤ b0) (hb : b0 < 256) : nxD (decodeN n b0 b1 b2 b3) = (-1, 1) := by
  have e : decodeN n b0 b1 b2 b3 = (65533, 1) := by
    unfold decodeN
    rw [if_neg (show ¬ b0 < 128 by omega), if_neg (show ¬ (b0 / 32 = 6 ∧ (1 < n ∧ b1 / 64 = 2)) by omega), if_neg (show ¬ (b0 / 16 = 14 ∧ (1 < n ∧ b1 / 64 = 2) ∧ (2 < n ∧ b2 / 64 = 2)) by omega), if_neg (show ¬ (b0 / 8 = 30 ∧ (1 < n ∧ b1 / 64 = 2) ∧ (2 < n ∧ b2 / 64 = 2) ∧ (3 < n ∧ b3 / 64 = 2)) by omega)]
  rw [e]
  rfl
theorem nx_two {n b0 b1 b2 b3 : Nat} (h : 192 ≤ b0) (h2 : b0 < 224) : nxD (decodeN n b0 b1 b2 b3) = if 1 < n ∧ b1 / 64 = 2 ∧ 128 ≤ b0 % 32 * 64 + b1 % 64 then (((b0 % 32 * 64 + b1 % 64 : Nat) : Int), 2) else (-1, 1) := by
  have e : decodeN n b0 b1 b2 b3 = if 1 < n ∧ b1 / 64 = 2 ∧ 128 ≤ b0 % 32 * 64 + b1 % 64 then (b0 % 32 * 64 + b1 % 64, 2) else (65533, 1) := by
    unfold decodeN
    rw [if_neg (show ¬ b0 < 128 by omega), if_neg (show ¬ (b0 / 16 = 14 ∧ (1 < n ∧ b1 / 64 = 2) ∧ (2 < n ∧ b2 / 64 = 2)) by omega), if_neg (show ¬ (b0 / 8 = 30 ∧ (1 < n ∧ b1 / 64 = 2) ∧ (2 < n ∧ b2 / 64 = 2) ∧ (3 < n ∧ b3 / 64 = 2)) by omega)]
    by_cases c : 1 < n ∧ b1 / 64 = 2
    · rw [if_pos (show b0 / 32 = 6 ∧ (1 < n ∧ b1 / 64 = 2) from ⟨by omega, c⟩)]
      by_cases d : 128 ≤ b0 % 32 * 64 + b1 % 64
      · rw [if_pos (show b0 % 32 * 64 + b1 % 64 ≥ 128 from d), if_pos ⟨c.1, c.2, d⟩]
      · rw [if_neg (show ¬ b0 % 32 * 64 + b1 % 64 ≥ 128 from d), if_neg (fun x => d x.2.2)]
    · rw [if_neg (show ¬ (b0 / 32 = 6 ∧ (1 < n ∧ b1 / 64 = 2)) from fun x => c x.2), if_neg (fun x => c ⟨x.1, x.2.1⟩)]
  rw [e, nxD_if (by decide)]
theorem nx_three {n b0 b1 b2 b3 : Nat} (h : 224 ≤ b0) (h2 : b0 < 240) : nxD (decodeN n b0 b1 b2 b3) = if 2 < n ∧ b1 / 64 = 2 ∧ b2 / 64 = 2 ∧ 2048 ≤ (b0 % 16 * 64 + b1 % 64) * 64 + b2 % 64 ∧ ((b0 % 16 * 64 + b1 % 64) * 64 + b2 % 64 < 55296 ∨ 57343 < (b0 % 16 * 64 + b1 % 64) * 64 + b2 % 64) then ((((b0 % 16 * 64 + b1 % 64) * 64 + b2 % 64 : Nat) : Int), 3) else (-1, 1) := by
  have e : decodeN n b0 b1 b2 b3 = if 2 < n ∧ b1 / 64 = 2 ∧ b2 / 64 = 2 ∧ 2048 ≤ (b0 % 16 * 64 + b1 % 64) * 64 + b2 % 64 ∧ ((b0 % 16 * 64 + b1 % 64) * 64 + b2 % 64 < 55296 ∨ 57343 < (b0 % 16 * 64 + b1 % 64) * 64 + b2 % 64) then ((b0 % 16 * 64 + b1 % 64) * 64 + b2 % 64, 3) else (65533, 1) := by
    unfold decodeN
    have ec : b0 % 16 * 4096 + b1 % 64 * 64 + b2 % 64 = (b0 % 16 * 64 + b1 % 64) * 64 + b2 % 64 := by omega
    rw [if_neg (show ¬ b0 < 128 by omega), if_neg (show ¬ (b0 / 32 = 6 ∧ (1 < n ∧ b1 / 64 = 2)) by omega), if_neg (show ¬ (b0 / 8 = 30 ∧ (1 < n ∧ b1 / 64 = 2) ∧ (2 < n ∧ b2 / 64 = 2) ∧ (3 < n ∧ b3 / 64 = 2)) by omega), ec]
    generalize (b0 % 16 * 64 + b1 % 64) * 64 + b2 % 64 = c at *
    have hc : c < 65536 := by omega
    by_cases c1 : (1 < n ∧ b1 / 64 = 2) ∧ (2 < n ∧ b2 / 64 = 2)
    · rw [if_pos (show b0 / 16 = 14 ∧ (1 < n ∧ b1 / 64 = 2) ∧ (2 < n ∧ b2 / 64 = 2) from ⟨by omega, c1⟩)]
      by_cases d : 2048 ≤ c ∧ (c < 55296 ∨ 57343 < c)
      · rw [if_pos (show c ≥ 2048 ∧ (c < 55296 ∨ (57344 ≤ c ∧ c ≤ 1114111)) by omega), if_pos ⟨c1.2.1, c1.1.2, c1.2.2, d.1, d.2⟩]
      · rw [if_neg (show ¬ (c ≥ 2048 ∧ (c < 55296 ∨ (57344 ≤ c ∧ c ≤ 1114111))) by omega), if_neg (fun x => d x.2.2.2)]
    · rw [if_neg (show ¬ (b0 / 16 = 14 ∧ (1 < n ∧ b1 / 64 = 2) ∧ (2 < n ∧ b2 / 64 = 2)) from fun x => c1 x.2), if_neg (fun x => c1 ⟨⟨by omega, x.2.1⟩, x.1, x.2.2.1⟩)]
  rw [e, nxD_if (by decide)]
theorem nx_four {n b0 b1 b2 b3 : Nat} (h : 240 ≤ b0) (h2 : b0 < 248) : nxD (decodeN n b0 b1 b2 b3) = if 3 < n ∧ b1 / 64 = 2 ∧ b2 / 64 = 2 ∧ b3 / 64 = 2 ∧ 65536 ≤ ((b0 % 8 * 64 + b1 % 64) * 64 + b2 % 64) * 64 + b3 % 64 ∧ ((b0 % 8 * 64 + b1 % 64) * 64 + b2 % 64) * 64 + b3 % 64 ≤ 1114111 then (((((b0 % 8 * 64 + b1 % 64) * 64 + b2 % 64) * 64 + b3 % 64 : Nat) : Int), 4) else (-1, 1) := by
  have e : decodeN n b0 b1 b2 b3 = if 3 < n ∧ b1 / 64 = 2 ∧ b2 / 64 = 2 ∧ b3 / 64 = 2 ∧ 65536 ≤ ((b0 % 8 * 64 + b1 % 64) * 64 + b2 % 64) * 64 + b3 % 64 ∧ ((b0 % 8 * 64 + b1 % 64) * 64 + b2 % 64) * 64 + b3 % 64 ≤ 1114111 then (((b0 % 8 * 64 + b1 % 64) * 64 + b2 % 64) * 64 + b3 % 64, 4) else (65533, 1) := by
    unfold decodeN
    have ec : b0 % 8 * 262144 + b1 % 64 * 4096 + b2 % 64 * 64 + b3 % 64 = ((b0 % 8 * 64 + b1 % 64) * 64 + b2 % 64) * 64 + b3 % 64 := by omega
    rw [if_neg (show ¬ b0 < 128 by omega), if_neg (show ¬ (b0 / 32 = 6 ∧ (1 < n ∧ b1 / 64 = 2)) by omega), if_neg (show ¬ (b0 / 16 = 14 ∧ (1 < n ∧ b1 / 64 = 2) ∧ (2 < n ∧ b2 / 64 = 2)) by omega), ec]
    generalize ((b0 % 8 * 64 + b1 % 64) * 64 + b2 % 64) * 64 + b3 % 64 = c at *
    by_cases c1 : (1 < n ∧ b1 / 64 = 2) ∧ (2 < n ∧ b2 / 64 = 2) ∧ (3 < n ∧ b3 / 64 = 2)
    · rw [if_pos (show b0 / 8 = 30 ∧ (1 < n ∧ b1 / 64 = 2) ∧ (2 < n ∧ b2 / 64 = 2) ∧ (3 < n ∧ b3 / 64 = 2) from ⟨by omega, c1⟩)]
      by_cases d : 65536 ≤ c ∧ c ≤ 1114111
      · rw [if_pos (show c ≥ 65536 ∧ (c < 55296 ∨ (57344 ≤ c ∧ c ≤ 1114111)) by omega), if_pos ⟨c1.2.2.1, c1.1.2, c1.2.1.2, c1.2.2.2, d.1, d.2⟩]
      · rw [if_neg (show ¬ (c ≥ 65536 ∧ (c < 55296 ∨ (57344 ≤ c ∧ c ≤ 1114111))) by omega), if_neg (fun x => d x.2.2.2.2)]
    · rw [if_neg (show ¬ (b0 / 8 = 30 ∧ (1 < n ∧ b1 / 64 = 2) ∧ (2 < n ∧ b2 / 64 = 2) ∧ (3 < n ∧ b3 / 64 = 2)) from fun x => c1 x.2), if_neg (fun x => c1 ⟨⟨by omega, x.2.1⟩, ⟨by omega, x.2.2.1⟩, x.1, x.2.2.2.1⟩)]
  rw [e, nxD_if (by decide)]
end Go.Proofs.YtminijokbeclhaaDoor
