/- The law WholePowers. IBOX -/
import Derived.Test.YtbakgmkkebnhkaaDoorWhP
namespace Go.Proofs.YtbakgmkkebnhkaaDoor
open Go.RowKit
theorem lm_or (x y k : Nat) : lm (x ||| y) k = lm x k ||| lm y k := by
  unfold lm
  rw [Nat.or_div_two_pow, Nat.or_mod_two_pow]
theorem lm_pow (i k : Nat) : lm (2 ^ i) k = if k = i / 64 then 2 ^ (i % 64) else 0 := by
  unfold lm
  by_cases h : 64 * k ≤ i
  · rw [Nat.pow_div h (by decide)]
    by_cases c : k = i / 64
    · rw [if_pos c, show i - 64 * k = i % 64 from by omega]
      exact Nat.mod_eq_of_lt (Nat.pow_lt_pow_right (by decide) (Nat.mod_lt _ (by decide)))
    · rw [if_neg c]
      have e : i - 64 * k = 64 + (i - 64 * k - 64) := by omega
      rw [e, Nat.pow_add, Nat.mul_mod_right]
  · rw [if_neg (by omega), Nat.div_eq_of_lt (Nat.pow_lt_pow_right (by decide) (by omega))]
/-- a number with one more bit -/
theorem lm_bit (N i k : Nat) : lm (N ||| 2 ^ i) k = if k = i / 64 then lm N (i / 64) ||| 2 ^ (i % 64) else lm N k := by
  rw [lm_or, lm_pow]
  by_cases c : k = i / 64
  · rw [if_pos c, if_pos c, c]
  · rw [if_neg c, if_neg c, Nat.or_zero]
theorem BoxF.cellq {B V q : Nat} {w1 : World} (h : BoxF w1 B V) (hq : q < 4) : w1.cell? ⟨B, q, none⟩ = some (.int .u64 (lm V q : Nat)) ∧ w1.frozen? ⟨B, q, none⟩ = false := by
  match q, hq with
  | 0, _ => exact ⟨h.b.c0, h.f0⟩
  | 1, _ => exact ⟨h.b.c1, h.f1⟩
  | 2, _ => exact ⟨h.b.c2, h.f2⟩
  | 3, _ => exact ⟨h.b.c3, h.f3⟩
theorem cell_setq {B q j : Nat} {w1 : World} {v u : Value} (h : w1.cell? ⟨B, j, none⟩ = some u) : (w1.setCell ⟨B, q, none⟩ v).cell? ⟨B, j, none⟩ = some (if j = q then v else u) := by
  by_cases c : j = q
  · subst c
    rw [if_pos rfl, World.cell?_setCell_same _ _ _ h]
  · rw [if_neg c, set_other (by
      intro e
      injection e with _ e2 _
      exact c (by omega))]
    exact h
theorem BoxF.setq {B V N q x : Nat} {w1 : World} (h : BoxF w1 B V) (hv : ∀ k, lm N k = if k = q then x else lm V k) : BoxF (w1.setCell ⟨B, q, none⟩ (.int .u64 (x : Nat))) B N := by
  have e : ∀ k, (Value.int .u64 (lm N k : Nat)) = if k = q then .int .u64 (x : Nat) else .int .u64 (lm V k : Nat) := fun k => by
    rw [hv k]
    split <;> rfl
  refine ⟨⟨?_, ?_, ?_, ?_, by simpa using h.b.l⟩, ?_, ?_, ?_, ?_⟩
  · rw [cell_setq h.b.c0, e]
  · rw [cell_setq h.b.c1, e]
  · rw [cell_setq h.b.c2, e]
  · rw [cell_setq h.b.c3, e]
  · rw [World.frozen?_setCell]; exact h.f0
  · rw [World.frozen?_setCell]; exact h.f1
  · rw [World.frozen?_setCell]; exact h.f2
  · rw [World.frozen?_setCell]; exact h.f3
/-- the two bits' number -/
theorem or_same (i : Nat) : 2 ^ i ||| 2 ^ i = 2 ^ i := Nat.or_self _
theorem or_two {i j : Nat} (h : j < i) : 2 ^ i ||| 2 ^ j = (2 ^ (i - j) + 1) * 2 ^ j := by
  have e := Nat.two_pow_add_eq_or_of_lt (i := i) (b := 2 ^ j) (Nat.pow_lt_pow_right (by decide) h) 1
  rw [Nat.mul_one] at e
  rw [← e, Nat.add_mul, ← Nat.pow_add, Nat.one_mul, show i - j + j = i from by omega]
theorem or_lt {i j : Nat} (hi : i < 256) (hj : j < 256) : 2 ^ i ||| 2 ^ j < 2 ^ 256 := Nat.or_lt_two_pow (Nat.pow_lt_pow_right (by decide) hi) (Nat.pow_lt_pow_right (by decide) hj)
theorem exN_pow (i : Nat) : exN (2 ^ i) := by
  have := exN_mul (m := 1) i (by decide)
  rwa [Nat.one_mul] at this
theorem exN_or {i j : Nat} (h : j ≤ i) : exN (2 ^ i ||| 2 ^ j) ↔ i - j ≤ 52 := by
  by_cases c : i = j
  · subst c
    rw [or_same]
    exact ⟨fun _ => by omega, fun _ => exN_pow i⟩
  · have hj : j < i := by omega
    rw [or_two hj]
    have hm : (2 ^ (i - j) + 1) % 2 = 1 := by
      have : 2 ^ (i - j) = 2 * 2 ^ (i - j - 1) := by rw [← Nat.pow_succ']; congr 1; omega
      omega
    have hp : 0 < 2 ^ (i - j) + 1 := Nat.succ_pos _
    have hb : bl (2 ^ (i - j) + 1) = i - j + 1 := bl_eq_iff (Nat.le_succ _) (by
      rw [Nat.pow_succ]
      have : 1 < 2 ^ (i - j) := Nat.one_lt_two_pow (by omega)
      omega)
    unfold exN
    rw [bl_mul_two_pow hp, tz_mul_two_pow hp, tz_odd hm, hb]
    have h0 : ¬ (2 ^ (i - j) + 1) * 2 ^ j = 0 := Nat.pos_iff_ne_zero.1 (Nat.mul_pos hp (Nat.two_pow_pos j))
    constructor
    · rintro (h | h)
      · exact absurd h h0
      · omega
    · intro h
      exact .inr (by omega)
structure PoC (neg : Bool) (N1 N2 : Nat) (y : Bool) : Prop where
  c1 : ∀ w : World, Tab w → Calls Tryd.prog 17 #[.agg #[.bool (neg ), .int .u64 (lm ( N1) 0 : Nat), .int .u64 (lm ( N1) 1 : Nat), .int .u64 (lm ( N1) 2 : Nat), .int .u64 (lm ( N1) 3 : Nat)]] w fun e w' => e = .returned (.bool true) ∧ Below w.heap.size w w'
  c2 : ∀ w : World, Tab w → Calls Tryd.prog 17 #[.agg #[.bool (neg ), .int .u64 (lm ( N2) 0 : Nat), .int .u64 (lm ( N2) 1 : Nat), .int .u64 (lm ( N2) 2 : Nat), .int .u64 (lm ( N2) 3 : Nat)]] w fun e w' => e = .returned (.bool y) ∧ Below w.heap.size w w'
set_option maxRecDepth 20000 in
set_option maxHeartbeats 6400000 in
theorem Pows2_walk (a b : Int) (neg : Bool) (I J i j q p Y Z : Nat) (y : Bool) (w : World) (hT : Tabs w) (C : Hid (PoC neg (2 ^ i) (2 ^ i ||| 2 ^ j) y))
    (hA : wrap64 ((IntKind.u64.wrap a).tmod 256) = (I : Int)) (hB : wrap64 ((IntKind.u64.wrap b).tmod 256) = (J : Int)) (hq : q < 4) (hq1 : (i : Int) / 64 = (q : Int)) (hq2 : wrap64 (q : Int) = (q : Int)) (hq3 : (q : Int) < 4) (hp : p < 4) (hp1 : (j : Int) / 64 = (p : Int)) (hp2 : wrap64 (p : Int) = (p : Int)) (hp3 : (p : Int) < 4)
    (hY : bits BinOp.or IntKind.u64 ((lm 0 q : Nat) : Int) (IntKind.u64.wrap (2 ^ (i % 64))) = ((Y : Nat) : Int)) (hv : Hid (∀ k, lm (2 ^ i) k = if k = q then Y else lm 0 k))
    (hZ : bits BinOp.or IntKind.u64 ((lm (2 ^ i) p : Nat) : Int) (IntKind.u64.wrap (2 ^ (j % 64))) = ((Z : Nat) : Int)) (hv2 : Hid (∀ k, lm (2 ^ i ||| 2 ^ j) k = if k = p then Z else lm (2 ^ i) k)) (hy : decide ((i : Int) - (j : Int) ≤ 52) = y)
    (hI : (I : Int) < J ∧ i = J ∧ j = I ∨ (J : Int) ≤ I ∧ i = I ∧ j = J) :
    Calls Tryd.prog 4 #[.int .i64 a, .int .i64 b, .bool neg] w fun e w' => e = .returned (.bool true) ∧ Below w.heap.size w w' := by
  have T0 := Lib.hid hT
  clear hT
  go_enter Tryd.func4, Tryd.ntmps4
  rcases hI with ⟨hI, rfl, rfl⟩ | ⟨hI, rfl, rfl⟩
  · go_upto_region 5 with fail
    simp only [hA, hB]
    have X0 := @boxF_zero w 24
    have hW : Below w.heap.size w (w.alloc (.cells #[.int .u64 0, .int .u64 0, .int .u64 0, .int .u64 0] 24)) := by (repeat first | with_reducible exact Below.refl _ _ | with_reducible assumption | with_reducible refine Below.drew ?_ | with_reducible refine below_alloc ?_ _ | ((with_reducible refine Below.setCell ?_ ?_ _); rotate_left; (focus (first | with_reducible exact Nat.le_refl _ | (simp; done) | (simp; omega) | omega))) | (with_reducible refine below_trans ?_ (by assumption)))
    generalize w.alloc (.cells #[.int .u64 0, .int .u64 0, .int .u64 0, .int .u64 0] 24) = w0 at *
    obtain ⟨_, _⟩ := X0.cellq hq
    go_upto_region 6 with fail
    have X1 := X0.setq hv.out
    have hW1 : Below w.heap.size w (w0.setCell ⟨w.heap.size, q, none⟩ (.int .u64 (Y : Nat))) := by (repeat first | with_reducible exact Below.refl _ _ | with_reducible assumption | with_reducible refine Below.drew ?_ | with_reducible refine below_alloc ?_ _ | ((with_reducible refine Below.setCell ?_ ?_ _); rotate_left; (focus (first | with_reducible exact Nat.le_refl _ | (simp; done) | (simp; omega) | omega))) | (with_reducible refine below_trans ?_ (by assumption)))
    generalize w0.setCell ⟨w.heap.size, q, none⟩ (.int .u64 (Y : Nat)) = w1 at *
    obtain ⟨_, _, _, _, _⟩ := X1.all
    have X2 := Lib.hid X1
    go_upto_region 7 with (first | (go_at_call 17; with_reducible refine (C.out.c1 _ (T0.out.below (by (repeat first | with_reducible exact Below.refl _ _ | with_reducible assumption | with_reducible refine Below.drew ?_ | with_reducible refine below_alloc ?_ _ | ((with_reducible refine Below.setCell ?_ ?_ _); rotate_left; (focus (first | with_reducible exact Nat.le_refl _ | (simp; done) | (simp; omega) | omega))) | (with_reducible refine below_trans ?_ (by assumption))))).t).mono ?_; rintro e w2 ⟨rfl, hb2⟩; (first | have TX3 := Lib.hid (X2.out.below hb2) | have TX3 := Lib.hid (X2.out.step hb2) | have TX3 := Lib.hid (X2.out.step2 hb2))))
    obtain ⟨_, _⟩ := TX3.out.cellq hp
    have hW2 := below_trans hW1 hb2
    clear X0 X1 X2 hb2 hW1 hW
    go_upto_region 8 with fail
    have X4 := TX3.out.setq hv2.out
    have hW4 : Below w.heap.size w (w2.setCell ⟨w.heap.size, p, none⟩ (.int .u64 (Z : Nat))) := by (repeat first | with_reducible exact Below.refl _ _ | with_reducible assumption | with_reducible refine Below.drew ?_ | with_reducible refine below_alloc ?_ _ | ((with_reducible refine Below.setCell ?_ ?_ _); rotate_left; (focus (first | with_reducible exact Nat.le_refl _ | (simp; done) | (simp; omega) | omega))) | (with_reducible refine below_trans ?_ (by assumption)))
    generalize w2.setCell ⟨w.heap.size, p, none⟩ (.int .u64 (Z : Nat)) = w4 at *
    have X5 := Lib.hid X4
    clear X4 TX3 hW2
    repeat any_goals (first | (go_at_call 11; with_reducible refine (told_any _ (T0.out.below (by (repeat first | with_reducible exact Below.refl _ _ | with_reducible assumption | with_reducible refine Below.drew ?_ | with_reducible refine below_alloc ?_ _ | ((with_reducible refine Below.setCell ?_ ?_ _); rotate_left; (focus (first | with_reducible exact Nat.le_refl _ | (simp; done) | (simp; omega) | omega))) | (with_reducible refine below_trans ?_ (by assumption)))))).mono ?_; rintro e w5 ⟨rfl, hb5⟩; have X6 := Lib.hid (X5.out.below hb5); obtain ⟨_, _, _, _, _⟩ := X6.out.all) | (go_at_call 17; with_reducible refine (C.out.c2 _ (T0.out.below (by (repeat first | with_reducible exact Below.refl _ _ | with_reducible assumption | with_reducible refine Below.drew ?_ | with_reducible refine below_alloc ?_ _ | ((with_reducible refine Below.setCell ?_ ?_ _); rotate_left; (focus (first | with_reducible exact Nat.le_refl _ | (simp; done) | (simp; omega) | omega))) | (with_reducible refine below_trans ?_ (by assumption))))).t).mono ?_; rintro e w6 ⟨rfl, hb6⟩; (first | have TX7 := Lib.hid (X6.out.below hb6) | have TX7 := Lib.hid (X6.out.step hb6) | have TX7 := Lib.hid (X6.out.step2 hb6))) | go_skip | go_guarded | go_step | go_upon | (dsimp only []))
    go_ret
    exact ⟨by simp, by (repeat first | with_reducible exact Below.refl _ _ | with_reducible assumption | with_reducible refine Below.drew ?_ | with_reducible refine below_alloc ?_ _ | ((with_reducible refine Below.setCell ?_ ?_ _); rotate_left; (focus (first | with_reducible exact Nat.le_refl _ | (simp; done) | (simp; omega) | omega))) | (with_reducible refine below_trans ?_ (by assumption)))⟩
  · go_upto_region 5 with fail
    simp only [hA, hB]
    have X0 := @boxF_zero w 24
    have hW : Below w.heap.size w (w.alloc (.cells #[.int .u64 0, .int .u64 0, .int .u64 0, .int .u64 0] 24)) := by (repeat first | with_reducible exact Below.refl _ _ | with_reducible assumption | with_reducible refine Below.drew ?_ | with_reducible refine below_alloc ?_ _ | ((with_reducible refine Below.setCell ?_ ?_ _); rotate_left; (focus (first | with_reducible exact Nat.le_refl _ | (simp; done) | (simp; omega) | omega))) | (with_reducible refine below_trans ?_ (by assumption)))
    generalize w.alloc (.cells #[.int .u64 0, .int .u64 0, .int .u64 0, .int .u64 0] 24) = w0 at *
    obtain ⟨_, _⟩ := X0.cellq hq
    go_upto_region 6 with fail
    have X1 := X0.setq hv.out
    have hW1 : Below w.heap.size w (w0.setCell ⟨w.heap.size, q, none⟩ (.int .u64 (Y : Nat))) := by (repeat first | with_reducible exact Below.refl _ _ | with_reducible assumption | with_reducible refine Below.drew ?_ | with_reducible refine below_alloc ?_ _ | ((with_reducible refine Below.setCell ?_ ?_ _); rotate_left; (focus (first | with_reducible exact Nat.le_refl _ | (simp; done) | (simp; omega) | omega))) | (with_reducible refine below_trans ?_ (by assumption)))
    generalize w0.setCell ⟨w.heap.size, q, none⟩ (.int .u64 (Y : Nat)) = w1 at *
    obtain ⟨_, _, _, _, _⟩ := X1.all
    have X2 := Lib.hid X1
    go_upto_region 7 with (first | (go_at_call 17; with_reducible refine (C.out.c1 _ (T0.out.below (by (repeat first | with_reducible exact Below.refl _ _ | with_reducible assumption | with_reducible refine Below.drew ?_ | with_reducible refine below_alloc ?_ _ | ((with_reducible refine Below.setCell ?_ ?_ _); rotate_left; (focus (first | with_reducible exact Nat.le_refl _ | (simp; done) | (simp; omega) | omega))) | (with_reducible refine below_trans ?_ (by assumption))))).t).mono ?_; rintro e w2 ⟨rfl, hb2⟩; (first | have TX3 := Lib.hid (X2.out.below hb2) | have TX3 := Lib.hid (X2.out.step hb2) | have TX3 := Lib.hid (X2.out.step2 hb2))))
    obtain ⟨_, _⟩ := TX3.out.cellq hp
    have hW2 := below_trans hW1 hb2
    clear X0 X1 X2 hb2 hW1 hW
    go_upto_region 8 with fail
    have X4 := TX3.out.setq hv2.out
    have hW4 : Below w.heap.size w (w2.setCell ⟨w.heap.size, p, none⟩ (.int .u64 (Z : Nat))) := by (repeat first | with_reducible exact Below.refl _ _ | with_reducible assumption | with_reducible refine Below.drew ?_ | with_reducible refine below_alloc ?_ _ | ((with_reducible refine Below.setCell ?_ ?_ _); rotate_left; (focus (first | with_reducible exact Nat.le_refl _ | (simp; done) | (simp; omega) | omega))) | (with_reducible refine below_trans ?_ (by assumption)))
    generalize w2.setCell ⟨w.heap.size, p, none⟩ (.int .u64 (Z : Nat)) = w4 at *
    have X5 := Lib.hid X4
    clear X4 TX3 hW2
    repeat any_goals (first | (go_at_call 11; with_reducible refine (told_any _ (T0.out.below (by (repeat first | with_reducible exact Below.refl _ _ | with_reducible assumption | with_reducible refine Below.drew ?_ | with_reducible refine below_alloc ?_ _ | ((with_reducible refine Below.setCell ?_ ?_ _); rotate_left; (focus (first | with_reducible exact Nat.le_refl _ | (simp; done) | (simp; omega) | omega))) | (with_reducible refine below_trans ?_ (by assumption)))))).mono ?_; rintro e w5 ⟨rfl, hb5⟩; have X6 := Lib.hid (X5.out.below hb5); obtain ⟨_, _, _, _, _⟩ := X6.out.all) | (go_at_call 17; with_reducible refine (C.out.c2 _ (T0.out.below (by (repeat first | with_reducible exact Below.refl _ _ | with_reducible assumption | with_reducible refine Below.drew ?_ | with_reducible refine below_alloc ?_ _ | ((with_reducible refine Below.setCell ?_ ?_ _); rotate_left; (focus (first | with_reducible exact Nat.le_refl _ | (simp; done) | (simp; omega) | omega))) | (with_reducible refine below_trans ?_ (by assumption))))).t).mono ?_; rintro e w6 ⟨rfl, hb6⟩; (first | have TX7 := Lib.hid (X6.out.below hb6) | have TX7 := Lib.hid (X6.out.step hb6) | have TX7 := Lib.hid (X6.out.step2 hb6))) | go_skip | go_guarded | go_step | go_upon | (dsimp only []))
    go_ret
    exact ⟨by simp, by (repeat first | with_reducible exact Below.refl _ _ | with_reducible assumption | with_reducible refine Below.drew ?_ | with_reducible refine below_alloc ?_ _ | ((with_reducible refine Below.setCell ?_ ?_ _); rotate_left; (focus (first | with_reducible exact Nat.le_refl _ | (simp; done) | (simp; omega) | omega))) | (with_reducible refine below_trans ?_ (by assumption)))⟩
/-- **WholePowers.** -/
theorem Pows2_any (a b : Int) (neg : Bool) (_ha0 : -9223372036854775808 ≤ a) (_ha1 : a < 9223372036854775808) (_hb0 : -9223372036854775808 ≤ b) (_hb1 : b < 9223372036854775808) (w : World) (hT : Tabs w) :
    Calls Tryd.prog 4 #[.int .i64 a, .int .i64 b, .bool neg] w fun e w' => e = .returned (.bool true) ∧ Below w.heap.size w w' := by
  have K : ∀ x : Int, ∃ I : Nat, I < 256 ∧ wrap64 ((IntKind.u64.wrap x).tmod 256) = (I : Int) := fun x => by
    refine ⟨(x % 256).toNat, by omega, ?_⟩
    rw [IntKind.wrap_u64, Int.tmod_eq_emod_of_nonneg (by omega)]
    simp only [wrap64]
    omega
  obtain ⟨I, hI, hA⟩ := K a
  obtain ⟨J, hJ, hB⟩ := K b
  have G : ∃ i j : Nat, i < 256 ∧ j ≤ i ∧ ((I : Int) < J ∧ i = J ∧ j = I ∨ (J : Int) ≤ I ∧ i = I ∧ j = J) := by
    by_cases c : (I : Int) < J
    · exact ⟨J, I, hJ, by omega, .inl ⟨c, rfl, rfl⟩⟩
    · exact ⟨I, J, hI, by omega, .inr ⟨by omega, rfl, rfl⟩⟩
  obtain ⟨i, j, hi, hji, hIJ⟩ := G
  clear hI hJ
  have w64 : ∀ q : Nat, q < 4 → wrap64 (q : Int) = (q : Int) := fun q hq => by
    simp only [wrap64]
    omega
  have hX : ∀ k : Nat, IntKind.u64.wrap (2 ^ (k % 64)) = ((2 ^ (k % 64) : Nat) : Int) := fun k => by
    have h : 2 ^ (k % 64) < 18446744073709551616 := Nat.lt_of_lt_of_le (Nat.pow_lt_pow_right (by decide) (Nat.mod_lt _ (by decide))) (Nat.le_refl (2 ^ 64))
    rw [show (2 : Int) ^ (k % 64) = ((2 ^ (k % 64) : Nat) : Int) from by rw [Int.natCast_pow]; rfl, IntKind.wrap_u64]
    generalize 2 ^ (k % 64) = X at *
    omega
  have hO : ∀ N k : Nat, bits BinOp.or IntKind.u64 ((lm N (k / 64) : Nat) : Int) (IntKind.u64.wrap (2 ^ (k % 64))) = ((lm N (k / 64) ||| 2 ^ (k % 64) : Nat) : Int) := fun N k => by
    rw [hX]
    exact u64_or_nat _ _ (lm_lt _ _) (Nat.lt_of_lt_of_le (Nat.pow_lt_pow_right (by decide) (Nat.mod_lt _ (by decide))) (Nat.le_refl (2 ^ 64)))
  have hN1 : (2 : Nat) ^ i < 2 ^ 256 := Nat.pow_lt_pow_right (by decide) hi
  have hN2 := or_lt hi (show j < 256 by omega)
  have hne1 : (2 : Nat) ^ i ≠ 0 := Nat.pos_iff_ne_zero.1 (Nat.two_pow_pos i)
  have hne2 : 2 ^ i ||| 2 ^ j ≠ 0 := fun h => hne1 (Nat.eq_zero_of_le_zero (h ▸ Nat.left_le_or))
  have hm1 : mayI neg (2 ^ i) = true := by
    cases neg with
    | true => exact may_true.2 hne1
    | false => rfl
  have hm2 : mayI neg (2 ^ i ||| 2 ^ j) = true := by
    cases neg with
    | true => exact may_true.2 hne2
    | false => rfl
  have c1 := Exact_any neg (2 ^ i) hN1
  have c2 := Exact_any neg (2 ^ i ||| 2 ^ j) hN2
  rw [exactI_eq, hm1, decide_eq_true (exN_pow i)] at c1
  rw [exactI_eq, hm2, Bool.true_and] at c2
  refine Pows2_walk a b neg I J i j (i / 64) (j / 64) _ _ _ w hT (Lib.hid (PoC.mk c1 c2)) hA hB (by omega) (by omega) (w64 _ (by omega)) (by omega) (by omega) (by omega) (w64 _ (by omega)) (by omega) (hO 0 i) (Lib.hid fun k => ?_) (hO (2 ^ i) j) (Lib.hid fun k => lm_bit _ _ _) ?_ hIJ
  · have h := lm_bit 0 i k
    rw [Nat.zero_or] at h
    exact h
  · rw [decide_eq_decide, exN_or hji]
    omega
end Go.Proofs.YtbakgmkkebnhkaaDoor
