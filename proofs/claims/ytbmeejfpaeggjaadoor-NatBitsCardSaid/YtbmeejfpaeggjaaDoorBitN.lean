/- Contracts of package nat: Bit. -/
import Derived.Test.YtbmeejfpaeggjaaDoorCmpN
import Derived.Test.YtbmeejfpaeggjaaDoorDa
namespace Go.Proofs.YtbmeejfpaeggjaaDoor
open Go.RowKit
set_option maxRecDepth 20000 in
theorem BitN_neg (A : Nat) (i : Int) (w : World) (hi : i < 0) :
    Calls Tryd.prog 26 #[.agg #[.int .u64 (lm (A) 0 : Nat), .int .u64 (lm (A) 1 : Nat), .int .u64 (lm (A) 2 : Nat), .int .u64 (lm (A) 3 : Nat)], .int .i64 i] w fun e w' => e = .returned (.bool false) ∧ Below w.heap.size w w' := by
  go_enter Tryd.func26, Tryd.ntmps26
  repeat any_goals (first | go_skip | go_guarded | go_step | go_upon | (simp only []; done))
  refine bodyPost_ret (v := .bool false) (by simp [results, Tryd.results26, go_sem]) rfl ⟨rfl, by (repeat first | with_reducible exact Below.refl _ _ | with_reducible assumption | with_reducible refine Below.drew ?_ | with_reducible refine below_alloc ?_ _ | ((with_reducible refine Below.setCell ?_ ?_ _); rotate_left; (focus (first | with_reducible exact Nat.le_refl _ | (simp; done) | (simp; omega) | omega))) | (with_reducible refine below_trans ?_ (by assumption)))⟩
set_option maxRecDepth 20000 in
theorem BitN_above (A : Nat) (i : Int) (w : World) (h0 : 0 ≤ i) (hi : 256 ≤ i) :
    Calls Tryd.prog 26 #[.agg #[.int .u64 (lm (A) 0 : Nat), .int .u64 (lm (A) 1 : Nat), .int .u64 (lm (A) 2 : Nat), .int .u64 (lm (A) 3 : Nat)], .int .i64 i] w fun e w' => e = .returned (.bool false) ∧ Below w.heap.size w w' := by
  go_enter Tryd.func26, Tryd.ntmps26
  repeat any_goals (first | go_skip | go_guarded | go_step | go_upon | (simp only []; done))
  refine bodyPost_ret (v := .bool false) (by simp [results, Tryd.results26, go_sem]) rfl ⟨rfl, by (repeat first | with_reducible exact Below.refl _ _ | with_reducible assumption | with_reducible refine Below.drew ?_ | with_reducible refine below_alloc ?_ _ | ((with_reducible refine Below.setCell ?_ ?_ _); rotate_left; (focus (first | with_reducible exact Nat.le_refl _ | (simp; done) | (simp; omega) | omega))) | (with_reducible refine below_trans ?_ (by assumption)))⟩
set_option maxRecDepth 20000 in
theorem BitN_in (a0 a1 a2 a3 x y q r : Nat) (i : Int) (w : World) (h0 : 0 ≤ i) (hi : i < 256) (eq : i / 64 = (q : Int)) (hq : (q : Int) < 4) (er : i % 64 = (r : Int))
    (hc : ∀ t, (w.alloc (.cells #[.int .u64 (a0 : Int), .int .u64 (a1 : Int), .int .u64 (a2 : Int), .int .u64 (a3 : Int)] t)).cell? ⟨w.heap.size, q, none⟩ = some (.int .u64 (x : Int))) (ey : bits BinOp.and IntKind.u64 ((x : Int) / 2 ^ r) 1 = (y : Int)) :
    Calls Tryd.prog 26 #[.agg #[.int .u64 (a0 : Int), .int .u64 (a1 : Int), .int .u64 (a2 : Int), .int .u64 (a3 : Int)], .int .i64 i] w fun e w' => e = .returned (.bool ((y : Int) == 1)) ∧ Below w.heap.size w w' := by
  go_enter Tryd.func26, Tryd.ntmps26
  repeat any_goals (first | go_skip | go_guarded | go_step | go_upon | (simp only []; done))
  refine bodyPost_ret (v := .bool ((y : Int) == 1)) (by simp [results, Tryd.results26, go_sem]) rfl ⟨rfl, by (repeat first | with_reducible exact Below.refl _ _ | with_reducible assumption | with_reducible refine Below.drew ?_ | with_reducible refine below_alloc ?_ _ | ((with_reducible refine Below.setCell ?_ ?_ _); rotate_left; (focus (first | with_reducible exact Nat.le_refl _ | (simp; done) | (simp; omega) | omega))) | (with_reducible refine below_trans ?_ (by assumption)))⟩
theorem lm_bit (V i : Nat) : lm V (i / 64) / 2 ^ (i % 64) % 2 = V / 2 ^ i % 2 := by
  unfold lm
  have h1 : i = 64 * (i / 64) + i % 64 := by omega
  generalize i / 64 = q at *
  have hr : i % 64 < 64 := Nat.mod_lt _ (by decide)
  generalize i % 64 = r at *
  subst h1
  rw [Nat.pow_add, ← Nat.div_div_eq_div_mul]
  generalize V / 2 ^ (64 * q) = W
  have e : (2 : Nat) ^ 64 = 2 ^ r * 2 ^ (64 - r) := by rw [← Nat.pow_add, show r + (64 - r) = 64 from by omega]
  rw [e, Nat.mod_mul_right_div_self]
  have e2 : 2 ^ (64 - r) = 2 * 2 ^ (63 - r) := by rw [show 64 - r = (63 - r) + 1 from by omega, Nat.pow_succ]; omega
  rw [e2, Nat.mod_mul_right_mod]
/-- **Bit.** -/
theorem BitN_any (A : Nat) (i : Int) (hA : A < 2 ^ 256) (w : World) :
    Calls Tryd.prog 26 #[.agg #[.int .u64 (lm (A) 0 : Nat), .int .u64 (lm (A) 1 : Nat), .int .u64 (lm (A) 2 : Nat), .int .u64 (lm (A) 3 : Nat)], .int .i64 i] w fun e w' => e = .returned (.bool (bitI A i)) ∧ Below w.heap.size w w' := by
  by_cases h0 : i < 0
  · have e : bitI A i = false := by unfold bitI; rw [decide_eq_false (by omega)]; rfl
    rw [e]
    exact BitN_neg A i w h0
  by_cases h1 : 256 ≤ i
  · have e : bitI A i = false := bitI_above (by have := (bl_le_iff A 256).2 hA; omega)
    rw [e]
    exact BitN_above A i w (by omega) h1
  obtain ⟨k, hk⟩ : ∃ k : Nat, i = k := ⟨i.toNat, by omega⟩
  have hx := lm_lt A (k / 64)
  have hb : lm A (k / 64) / 2 ^ (k % 64) < 18446744073709551616 := Nat.lt_of_le_of_lt (Nat.div_le_self _ _) hx
  have ey : bits BinOp.and IntKind.u64 (((lm A (k / 64) : Nat) : Int) / 2 ^ (k % 64)) 1 = ((A / 2 ^ k % 2 : Nat) : Int) := by
    have e := u64_and_nat (lm A (k / 64) / 2 ^ (k % 64)) 1 hb (by decide)
    rw [Nat.and_one_is_mod, lm_bit] at e
    rw [show (((lm A (k / 64) : Nat) : Int) / 2 ^ (k % 64)) = ((lm A (k / 64) / 2 ^ (k % 64) : Nat) : Int) from by simp]
    exact e
  have e : bitI A i = (((A / 2 ^ k % 2 : Nat) : Int) == 1) := by
    unfold bitI
    rw [decide_eq_true (by omega), Bool.true_and, show i.toNat = k from by omega]
    have h2 : A / 2 ^ k % 2 < 2 := Nat.mod_lt _ (by decide)
    generalize A / 2 ^ k % 2 = z at *
    rcases (show z = 0 ∨ z = 1 by omega) with rfl | rfl <;> rfl
  rw [e]
  refine BitN_in (lm A 0) (lm A 1) (lm A 2) (lm A 3) (lm A (k / 64)) (A / 2 ^ k % 2) (k / 64) (k % 64) i w (by omega) (by omega) (by omega) (by omega) (by omega) ?_ ey
  intro t
  have hq : k / 64 < 4 := by omega
  generalize k / 64 = q at *
  match q, hq with
  | 0, _ => simp [go_sem]
  | 1, _ => simp [go_sem]
  | 2, _ => simp [go_sem]
  | 3, _ => simp [go_sem]
end Go.Proofs.YtbmeejfpaeggjaaDoor
