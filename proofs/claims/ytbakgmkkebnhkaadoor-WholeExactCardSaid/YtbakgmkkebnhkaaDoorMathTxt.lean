/- Plain facts on decimal texts. -/
import Derived.Lib.ItoaNum
namespace Go.Proofs.YtbakgmkkebnhkaaDoor
open Go
/-- the number of decimal digits, behind a number v -/
def decN : Nat → List UInt8 → Nat
  | v, [] => v
  | v, c :: l => decN (v * 10 + (c.toNat - 48)) l
/-- is it a decimal digit? -/
def isDg (c : UInt8) : Bool := decide (48 ≤ c.toNat ∧ c.toNat ≤ 57)
theorem decN_append (v : Nat) (l m : List UInt8) : decN v (l ++ m) = decN (decN v l) m := by
  induction l generalizing v with
  | nil => rfl
  | cons c l ih => exact ih _
theorem decN_ge (v : Nat) (l : List UInt8) : v ≤ decN v l := by
  induction l generalizing v with
  | nil => exact Nat.le_refl _
  | cons c l ih =>
    refine Nat.le_trans ?_ (ih _)
    omega
theorem take_step (l : List UInt8) (m : Nat) (h : m < l.length) : l.take (m + 1) = l.take m ++ [l[m]] := by
  simp
theorem decN_take (l : List UInt8) (m : Nat) (h : m < l.length) : decN 0 (l.take (m + 1)) = decN 0 (l.take m) * 10 + (l[m].toNat - 48) := by
  rw [take_step l m h, decN_append]
  rfl
theorem all_take (l : List UInt8) (m : Nat) (h : m < l.length) : (l.take (m + 1)).all isDg = ((l.take m).all isDg && isDg l[m]) := by
  rw [take_step l m h, List.all_append]
  simp
/-- does the document read it as a number of 256 bits? -/
def pOk (l : List UInt8) : Bool := decide (l ≠ [] ∧ ¬ (1 < l.length ∧ l.head? = some 48) ∧ l.all isDg = true ∧ decN 0 l < 2 ^ 256)
theorem pOk_digit {l : List UInt8} {m : Nat} (h : m < l.length) (hd : isDg l[m] = false) : pOk l = false := by
  unfold pOk
  apply decide_eq_false
  rintro ⟨_, _, h1, _⟩
  rw [List.all_eq_true] at h1
  have := h1 l[m] (List.getElem_mem h)
  rw [hd] at this
  cases this
theorem pOk_big {l : List UInt8} {m : Nat} (hd : ¬ decN 0 (l.take m) < 2 ^ 256) : pOk l = false := by
  unfold pOk
  apply decide_eq_false
  rintro ⟨_, _, _, h1⟩
  have h2 : decN 0 l = decN (decN 0 (l.take m)) (l.drop m) := by rw [← decN_append, List.take_append_drop]
  have h3 := decN_ge (decN 0 (l.take m)) (l.drop m)
  omega
theorem pOk_big10 {l : List UInt8} {m : Nat} (h : m < l.length) (hd : ¬ decN 0 (l.take m) * 10 < 2 ^ 256) : pOk l = false := by
  apply pOk_big (m := m + 1)
  rw [decN_take l m h]
  omega
/-- what the document reads -/
def pV (l : List UInt8) : Nat := if pOk l = true then decN 0 l else 0
theorem pV_no {l : List UInt8} (h : pOk l = false) : pV l = 0 := by unfold pV; rw [h]; simp
theorem pV_yes {l : List UInt8} (h : pOk l = true) : pV l = decN 0 l := by unfold pV; rw [h]; simp
end Go.Proofs.YtbakgmkkebnhkaaDoor
