/- Contracts: May, Exact of whole numbers (the program's, the document's). -/
import Derived.Test.YtpmfnhcnldoelaaDoorShr
import Derived.Test.YtpmfnhcnldoelaaDoorRd
import Derived.BigQuiet
namespace Go.Proofs.YtpmfnhcnldoelaaDoor
open Go.RowKit
/-- may a number be? is it exact? -/
def mayI (neg : Bool) (V : Nat) : Bool := !neg || V != 0
def exactI (neg : Bool) (V : Nat) : Bool := mayI neg V && (V == 0 || decide (bl V - tz V ≤ 53))
theorem lm_nz {V : Nat} (hV : V < 2 ^ 256) : (!(((lm V 0 : Nat) : Int) == 0 && ((lm V 1 : Nat) : Int) == 0 && ((lm V 2 : Nat) : Int) == 0 && ((lm V 3 : Nat) : Int) == 0)) = (V != 0) := by
  by_cases c : V = 0
  · subst c
    rw [lm_zero, lm_zero, lm_zero, lm_zero]
    rfl
  · have h : ¬ (lm V 0 = 0 ∧ lm V 1 = 0 ∧ lm V 2 = 0 ∧ lm V 3 = 0) := fun h => c (lm_inj hV (by decide) (by rw [h.1, lm_zero]) (by rw [h.2.1, lm_zero]) (by rw [h.2.2.1, lm_zero]) (by rw [h.2.2.2, lm_zero]))
    have e : (V != 0) = true := by simpa using c
    rw [e]
    rw [Bool.not_eq_true', ← Bool.not_eq_true]
    intro h2
    simp at h2
    exact h ⟨h2.1.1.1, h2.1.1.2, h2.1.2, h2.2⟩
set_option maxHeartbeats 400000 in
theorem May_any (neg : Bool) (V : Nat) (hV : V < 2 ^ 256) (w : World) :
    Calls Tryd.prog 54 #[.agg #[.bool (neg ), .int .u64 (lm ( V) 0 : Nat), .int .u64 (lm ( V) 1 : Nat), .int .u64 (lm ( V) 2 : Nat), .int .u64 (lm ( V) 3 : Nat)]] w fun e w' => e = .returned (.bool (mayI neg V)) ∧ Below w.heap.size w w' := by
  have HN := Lib.hid (lm_nz hV)
  cases neg with
  | false =>
    have HM := Lib.hid (show mayI false V = true by unfold mayI; rfl)
    go_enter Tryd.func54, Tryd.ntmps54
    repeat any_goals (first | go_skip | go_guarded | go_step | go_upon | (simp only []; done))
    go_ret
    exact ⟨by simp [HM.out], by (repeat first | with_reducible exact Below.refl _ _ | with_reducible assumption | with_reducible refine Below.drew ?_ | with_reducible refine below_alloc ?_ _ | ((with_reducible refine Below.setCell ?_ ?_ _); rotate_left; (focus (first | with_reducible exact Nat.le_refl _ | (simp; done) | (simp; omega) | omega))) | (with_reducible refine below_trans ?_ (by assumption)))⟩
  | true =>
    have HM := Lib.hid (show mayI true V = (V != 0) by unfold mayI; rfl)
    go_enter Tryd.func54, Tryd.ntmps54
    repeat any_goals (first | go_skip | go_guarded | go_step | go_upon | (simp only []; done))
    go_ret
    exact ⟨by rw [HM.out, ← HN.out]; simp, by (repeat first | with_reducible exact Below.refl _ _ | with_reducible assumption | with_reducible refine Below.drew ?_ | with_reducible refine below_alloc ?_ _ | ((with_reducible refine Below.setCell ?_ ?_ _); rotate_left; (focus (first | with_reducible exact Nat.le_refl _ | (simp; done) | (simp; omega) | omega))) | (with_reducible refine below_trans ?_ (by assumption)))⟩
set_option maxHeartbeats 400000 in
theorem RMayI_any (neg : Bool) (V : Nat) (hV : V < 2 ^ 256) (w : World) :
    Calls Tryd.prog 69 #[.agg #[.bool (neg ), .int .u64 (lm ( V) 0 : Nat), .int .u64 (lm ( V) 1 : Nat), .int .u64 (lm ( V) 2 : Nat), .int .u64 (lm ( V) 3 : Nat)]] w fun e w' => e = .returned (.bool (mayI neg V)) ∧ Below w.heap.size w w' := by
  have HN := Lib.hid (lm_nz hV)
  cases neg with
  | false =>
    have HM := Lib.hid (show mayI false V = true by unfold mayI; rfl)
    go_enter Tryd.func69, Tryd.ntmps69
    repeat any_goals (first | go_skip | go_guarded | go_step | go_upon | (simp only []; done))
    go_ret
    exact ⟨by simp [HM.out], by (repeat first | with_reducible exact Below.refl _ _ | with_reducible assumption | with_reducible refine Below.drew ?_ | with_reducible refine below_alloc ?_ _ | ((with_reducible refine Below.setCell ?_ ?_ _); rotate_left; (focus (first | with_reducible exact Nat.le_refl _ | (simp; done) | (simp; omega) | omega))) | (with_reducible refine below_trans ?_ (by assumption)))⟩
  | true =>
    have HM := Lib.hid (show mayI true V = (V != 0) by unfold mayI; rfl)
    go_enter Tryd.func69, Tryd.ntmps69
    repeat any_goals (first | go_skip | go_guarded | go_step | go_upon | (simp only []; done))
    go_ret
    exact ⟨by rw [HM.out, ← HN.out]; simp, by (repeat first | with_reducible exact Below.refl _ _ | with_reducible assumption | with_reducible refine Below.drew ?_ | with_reducible refine below_alloc ?_ _ | ((with_reducible refine Below.setCell ?_ ?_ _); rotate_left; (focus (first | with_reducible exact Nat.le_refl _ | (simp; done) | (simp; omega) | omega))) | (with_reducible refine below_trans ?_ (by assumption)))⟩
theorem len4_lm {V : Nat} (hV : V < 2 ^ 256) : len4 (lm V 0) (lm V 1) (lm V 2) (lm V 3) = bl V := by
  rw [len4_eq (lm_lt _ _) (lm_lt _ _) (lm_lt _ _) (lm_lt _ _), of4_lm V hV]
theorem tz_low {a H n : Nat} (ha : 0 < a) (hn : a < 2 ^ n) : tz (a + H * 2 ^ n) = tz a := by
  obtain ⟨m, hm⟩ := tz_spec ha
  have ht : tz a < n := Nat.lt_of_lt_of_le (tz_lt_bl ha) ((bl_le_iff a n).2 hn)
  refine tz_of (k := tz a) (m := m + H * 2 ^ (n - tz a - 1)) ?_
  have e : (2 : Nat) ^ n = 2 ^ tz a * (2 * 2 ^ (n - tz a - 1)) := by
    rw [← Nat.pow_succ', ← Nat.pow_add]
    congr 1
    omega
  rw [e]
  generalize tz a = t at *
  rw [hm]
  generalize 2 ^ (n - t - 1) = B
  generalize 2 ^ t = A
  rw [Nat.mul_add 2 m, Nat.add_right_comm, Nat.mul_left_comm H A, Nat.mul_left_comm H 2, Nat.mul_add A (2 * m + 1)]
theorem trail4_lm {V : Nat} (hV : V < 2 ^ 256) : trail4 (lm V 0) (lm V 1) (lm V 2) (lm V 3) = if V = 0 then 256 else tz V := by
  have h4 := of4_lm V hV
  have l0 := lm_lt V 0
  have l1 := lm_lt V 1
  have l2 := lm_lt V 2
  have l3 := lm_lt V 3
  generalize lm V 0 = a at *
  generalize lm V 1 = b at *
  generalize lm V 2 = c at *
  generalize lm V 3 = d at *
  unfold of4 at h4
  unfold trail4
  by_cases ha : a = 0
  · rw [if_neg (by omega)]
    by_cases hb : b = 0
    · rw [if_neg (by omega)]
      by_cases hc : c = 0
      · rw [if_neg (by omega)]
        by_cases hd : d = 0
        · rw [if_neg (by omega), if_pos (by subst ha hb hc hd; omega)]
        · rw [if_pos hd, if_neg (by omega)]
          have e : V = d * 2 ^ 192 := by subst ha hb hc; omega
          rw [e, tz_mul_two_pow (Nat.pos_of_ne_zero hd), Nat.add_comm]
      · rw [if_pos hc, if_neg (by omega)]
        have e : V = (c + d * 2 ^ 64) * 2 ^ 128 := by subst ha hb; omega
        rw [e, tz_mul_two_pow (by omega), tz_low (Nat.pos_of_ne_zero hc) l2, Nat.add_comm]
    · rw [if_pos hb, if_neg (by omega)]
      have e : V = (b + (c + d * 2 ^ 64) * 2 ^ 64) * 2 ^ 64 := by subst ha; omega
      rw [e, tz_mul_two_pow (by omega), tz_low (Nat.pos_of_ne_zero hb) l1, Nat.add_comm]
  · rw [if_pos ha, if_neg (by omega)]
    have e : V = a + (b + (c + d * 2 ^ 64) * 2 ^ 64) * 2 ^ 64 := by omega
    rw [e, tz_low (Nat.pos_of_ne_zero ha) l0]
/-- Len and Trail of a number -/
theorem Len_lm (V : Nat) (hV : V < 2 ^ 256) (l : Nat) (hl : bl V = l) (w : World) : Calls Tryd.prog 55 #[.agg #[.int .u64 (lm (V) 0 : Nat), .int .u64 (lm (V) 1 : Nat), .int .u64 (lm (V) 2 : Nat), .int .u64 (lm (V) 3 : Nat)]] w fun e w' => e = .returned (.int .i64 (l : Nat)) ∧ Below w.heap.size w w' := by
  have h := Len_any _ _ _ _ (lm_lt V 0) (lm_lt V 1) (lm_lt V 2) (lm_lt V 3) w
  rw [len4_lm hV, hl] at h
  exact h
theorem Trail_lm (V : Nat) (hV : V < 2 ^ 256) (t : Nat) (ht : (if V = 0 then 256 else tz V) = t) (w : World) (hT : Tab w) : Calls Tryd.prog 51 #[.agg #[.int .u64 (lm (V) 0 : Nat), .int .u64 (lm (V) 1 : Nat), .int .u64 (lm (V) 2 : Nat), .int .u64 (lm (V) 3 : Nat)]] w fun e w' => e = .returned (.int .i64 (t : Nat)) ∧ Below w.heap.size w w' := by
  have h := Trail_any _ _ _ _ (lm_lt V 0) (lm_lt V 1) (lm_lt V 2) (lm_lt V 3) w hT
  rw [trail4_lm hV, ht] at h
  exact h
/-- a region whose operations only read in a class of worlds, which its calls keep -/
theorem wp_region_quiet_cls {P : Program} {C : World → Prop} {id : Nat} {Q : Exit → Act → World → Prop} {a : Act} {w : World} {l : List Oper} (hm : P.follows .mixedOrders = true) (hB : Region.lexB .any l.toArray = true) (hC : C w.drew)
    (h : wpQuiet P l.toArray C (fun a' => ∀ w', C w' → Q .normal a' w') l a) : (Code.region id l.toArray true).wp P Q a w :=
  wp_region_quiet hm hB hC (by simpa using h)
/-- a number with a sign in a block, in worlds that have grown -/
structure BoxI (W : World) (B : Nat) (neg : Bool) (V : Nat) (w' : World) : Prop where
  c0 : w'.cell? ⟨B, 0, none⟩ = some (.bool neg)
  c1 : w'.cell? ⟨B, 1, none⟩ = some (.int .u64 (lm V 0 : Nat))
  c2 : w'.cell? ⟨B, 2, none⟩ = some (.int .u64 (lm V 1 : Nat))
  c3 : w'.cell? ⟨B, 3, none⟩ = some (.int .u64 (lm V 2 : Nat))
  c4 : w'.cell? ⟨B, 4, none⟩ = some (.int .u64 (lm V 3 : Nat))
  t : Tab w'
  l : B < w'.heap.size
  b : Below W.heap.size W w'
theorem BoxI.below {W : World} {B : Nat} {neg : Bool} {V : Nat} {w1 w2 : World} (h : BoxI W B neg V w1) (hb : Below w1.heap.size w1 w2) : BoxI W B neg V w2 :=
  ⟨by rw [hb.cell (p := ⟨B, 0, none⟩) h.l]; exact h.c0, by rw [hb.cell (p := ⟨B, 1, none⟩) h.l]; exact h.c1, by rw [hb.cell (p := ⟨B, 2, none⟩) h.l]; exact h.c2, by rw [hb.cell (p := ⟨B, 3, none⟩) h.l]; exact h.c3, by rw [hb.cell (p := ⟨B, 4, none⟩) h.l]; exact h.c4, h.t.below hb, Nat.lt_of_lt_of_le h.l hb.size, below_trans h.b hb⟩
theorem boxI_new {w : World} {neg : Bool} {V : Nat} {t : TypeId} (hT : Tab w) : BoxI (w.alloc (.cells #[.bool neg, .int .u64 (lm V 0 : Nat), .int .u64 (lm V 1 : Nat), .int .u64 (lm V 2 : Nat), .int .u64 (lm V 3 : Nat)] t)) w.heap.size neg V (w.alloc (.cells #[.bool neg, .int .u64 (lm V 0 : Nat), .int .u64 (lm V 1 : Nat), .int .u64 (lm V 2 : Nat), .int .u64 (lm V 3 : Nat)] t)) :=
  ⟨by simp [go_sem], by simp [go_sem], by simp [go_sem], by simp [go_sem], by simp [go_sem], hT.alloc _, by simp, Below.refl _ _⟩
set_option maxHeartbeats 1600000 in
theorem Exact_no (neg : Bool) (V : Nat) (w : World) (hT : Tab w) (M : Hid (∀ w : World, Calls Tryd.prog 54 #[.agg #[.bool (neg ), .int .u64 (lm ( V) 0 : Nat), .int .u64 (lm ( V) 1 : Nat), .int .u64 (lm ( V) 2 : Nat), .int .u64 (lm ( V) 3 : Nat)]] w fun e w' => e = .returned (.bool false) ∧ Below w.heap.size w w'))  :
    Calls Tryd.prog 31 #[.agg #[.bool (neg ), .int .u64 (lm ( V) 0 : Nat), .int .u64 (lm ( V) 1 : Nat), .int .u64 (lm ( V) 2 : Nat), .int .u64 (lm ( V) 3 : Nat)]] w fun e w' => e = .returned (.bool false) ∧ Below w.heap.size w w' := by
  go_enter Tryd.func31, Tryd.ntmps31
  repeat any_goals (first | go_skip | go_guarded | go_step | go_upon | (simp only []; done))
  have B0 := @boxI_new w neg V 26 hT
  have hBW : Below w.heap.size w (w.alloc (.cells #[.bool neg, .int .u64 (lm V 0 : Nat), .int .u64 (lm V 1 : Nat), .int .u64 (lm V 2 : Nat), .int .u64 (lm V 3 : Nat)] 26)) := by (repeat first | with_reducible exact Below.refl _ _ | with_reducible assumption | with_reducible refine Below.drew ?_ | with_reducible refine below_alloc ?_ _ | ((with_reducible refine Below.setCell ?_ ?_ _); rotate_left; (focus (first | with_reducible exact Nat.le_refl _ | (simp; done) | (simp; omega) | omega))) | (with_reducible refine below_trans ?_ (by assumption)))
  generalize w.alloc (.cells #[.bool neg, .int .u64 (lm V 0 : Nat), .int .u64 (lm V 1 : Nat), .int .u64 (lm V 2 : Nat), .int .u64 (lm V 3 : Nat)] 26) = W at *
  obtain ⟨C, hC⟩ : ∃ C : World → Prop, C = BoxI W w.heap.size neg V := ⟨_, rfl⟩
  have HC := Lib.hid hC
  have hne : ∀ p : Prop, (∀ w1 : World, C w1 → p) = p := fun p => propext ⟨fun h => h W (by rw [hC]; exact B0), fun h _ _ => h⟩
  clear hC
  refine wp_region_quiet_cls (C := C) (by kernel_rfl) (by kernel_rfl) (by rw [HC.out]; exact B0.below (Below.refl _ _).drew) ?_
  go_big_quiet_want
  refine ⟨.agg #[.bool (neg ), .int .u64 (lm ( V) 0 : Nat), .int .u64 (lm ( V) 1 : Nat), .int .u64 (lm ( V) 2 : Nat), .int .u64 (lm ( V) 3 : Nat)], fun w1 hw1 => ?_, ?_⟩
  · rw [HC.out] at hw1
    obtain ⟨d0, d1, d2, d3, d4, _, _, _⟩ := hw1
    simp [Oper.quietAt, go_sem, d0, d1, d2, d3, d4]
  try simp only [Act.put, List.setIfInBounds_toArray, List.set_cons_zero, List.set_cons_succ]
  go_big_quiet_on
  go_big_quiet_want
  go_big_quiet_op
  refine ⟨.bool false, fun w1 hw1 => ?_, ?_⟩
  · rw [HC.out] at hw1
    refine (M.out w1).mono ?_
    rintro e w2 ⟨rfl, hb⟩
    refine ⟨rfl, ?_⟩
    rw [HC.out]
    exact hw1.below hb
  go_big_quiet_on
  repeat (first | go_big_quiet_skip | (refine wpQuiet_skip (by rfl) ?_; simp only [Act.put, List.setIfInBounds_toArray, List.set_cons_zero, List.set_cons_succ]) | (go_big_quiet_want; go_big_quiet_op; go_big_quiet_on))

  refine wpQuiet_nil ?_
  intro w2 hw2
  rw [HC.out] at hw2
  repeat any_goals (first | go_skip | go_guarded | go_step | go_upon | (simp only []; done))
  go_ret
  exact ⟨by simp, below_trans hBW hw2.b⟩
set_option maxHeartbeats 1600000 in
theorem Exact_zero (neg : Bool) (V : Nat) (w : World) (hT : Tab w) (M : Hid (∀ w : World, Calls Tryd.prog 54 #[.agg #[.bool (neg ), .int .u64 (lm ( V) 0 : Nat), .int .u64 (lm ( V) 1 : Nat), .int .u64 (lm ( V) 2 : Nat), .int .u64 (lm ( V) 3 : Nat)]] w fun e w' => e = .returned (.bool true) ∧ Below w.heap.size w w')) (h2 : (((lm V 0 : Nat) : Int) == 0 && ((lm V 1 : Nat) : Int) == 0 && ((lm V 2 : Nat) : Int) == 0 && ((lm V 3 : Nat) : Int) == 0) = true) :
    Calls Tryd.prog 31 #[.agg #[.bool (neg ), .int .u64 (lm ( V) 0 : Nat), .int .u64 (lm ( V) 1 : Nat), .int .u64 (lm ( V) 2 : Nat), .int .u64 (lm ( V) 3 : Nat)]] w fun e w' => e = .returned (.bool true) ∧ Below w.heap.size w w' := by
  go_enter Tryd.func31, Tryd.ntmps31
  repeat any_goals (first | go_skip | go_guarded | go_step | go_upon | (simp only []; done))
  have B0 := @boxI_new w neg V 26 hT
  have hBW : Below w.heap.size w (w.alloc (.cells #[.bool neg, .int .u64 (lm V 0 : Nat), .int .u64 (lm V 1 : Nat), .int .u64 (lm V 2 : Nat), .int .u64 (lm V 3 : Nat)] 26)) := by (repeat first | with_reducible exact Below.refl _ _ | with_reducible assumption | with_reducible refine Below.drew ?_ | with_reducible refine below_alloc ?_ _ | ((with_reducible refine Below.setCell ?_ ?_ _); rotate_left; (focus (first | with_reducible exact Nat.le_refl _ | (simp; done) | (simp; omega) | omega))) | (with_reducible refine below_trans ?_ (by assumption)))
  generalize w.alloc (.cells #[.bool neg, .int .u64 (lm V 0 : Nat), .int .u64 (lm V 1 : Nat), .int .u64 (lm V 2 : Nat), .int .u64 (lm V 3 : Nat)] 26) = W at *
  obtain ⟨C, hC⟩ : ∃ C : World → Prop, C = BoxI W w.heap.size neg V := ⟨_, rfl⟩
  have HC := Lib.hid hC
  have hne : ∀ p : Prop, (∀ w1 : World, C w1 → p) = p := fun p => propext ⟨fun h => h W (by rw [hC]; exact B0), fun h _ _ => h⟩
  clear hC
  refine wp_region_quiet_cls (C := C) (by kernel_rfl) (by kernel_rfl) (by rw [HC.out]; exact B0.below (Below.refl _ _).drew) ?_
  go_big_quiet_want
  refine ⟨.agg #[.bool (neg ), .int .u64 (lm ( V) 0 : Nat), .int .u64 (lm ( V) 1 : Nat), .int .u64 (lm ( V) 2 : Nat), .int .u64 (lm ( V) 3 : Nat)], fun w1 hw1 => ?_, ?_⟩
  · rw [HC.out] at hw1
    obtain ⟨d0, d1, d2, d3, d4, _, _, _⟩ := hw1
    simp [Oper.quietAt, go_sem, d0, d1, d2, d3, d4]
  try simp only [Act.put, List.setIfInBounds_toArray, List.set_cons_zero, List.set_cons_succ]
  go_big_quiet_on
  go_big_quiet_want
  go_big_quiet_op
  refine ⟨.bool true, fun w1 hw1 => ?_, ?_⟩
  · rw [HC.out] at hw1
    refine (M.out w1).mono ?_
    rintro e w2 ⟨rfl, hb⟩
    refine ⟨rfl, ?_⟩
    rw [HC.out]
    exact hw1.below hb
  go_big_quiet_on
  first | go_big_quiet_skip | (refine wpQuiet_skip (by rfl) ?_; simp only [Act.put, List.setIfInBounds_toArray, List.set_cons_zero, List.set_cons_succ]) | (go_big_quiet_want; go_big_quiet_op; go_big_quiet_on)
  first | go_big_quiet_skip | (refine wpQuiet_skip (by rfl) ?_; simp only [Act.put, List.setIfInBounds_toArray, List.set_cons_zero, List.set_cons_succ]) | (go_big_quiet_want; go_big_quiet_op; go_big_quiet_on)
  go_big_quiet_want
  refine ⟨.agg #[.int .u64 (lm (V) 0 : Nat), .int .u64 (lm (V) 1 : Nat), .int .u64 (lm (V) 2 : Nat), .int .u64 (lm (V) 3 : Nat)], fun w1 hw1 => ?_, ?_⟩
  · rw [HC.out] at hw1
    obtain ⟨d0, d1, d2, d3, d4, _, _, _⟩ := hw1
    simp [Oper.quietAt, go_sem, d1, d2, d3, d4]
  try simp only [Act.put, List.setIfInBounds_toArray, List.set_cons_zero, List.set_cons_succ]
  go_big_quiet_on
  repeat (first | go_big_quiet_skip | (refine wpQuiet_skip (by rfl) ?_; simp only [Act.put, List.setIfInBounds_toArray, List.set_cons_zero, List.set_cons_succ]) | (go_big_quiet_want; go_big_quiet_op; go_big_quiet_on))

  refine wpQuiet_nil ?_
  intro w2 hw2
  rw [HC.out] at hw2
  repeat any_goals (first | go_skip | go_guarded | go_step | go_upon | (simp only []; done))
  go_ret
  exact ⟨by simp, below_trans hBW hw2.b⟩
set_option maxHeartbeats 1600000 in
theorem Exact_num (neg : Bool) (V : Nat) (w : World) (hT : Tab w) (M : Hid (∀ w : World, Calls Tryd.prog 54 #[.agg #[.bool (neg ), .int .u64 (lm ( V) 0 : Nat), .int .u64 (lm ( V) 1 : Nat), .int .u64 (lm ( V) 2 : Nat), .int .u64 (lm ( V) 3 : Nat)]] w fun e w' => e = .returned (.bool true) ∧ Below w.heap.size w w')) (l t : Nat) (hl : l ≤ 256) (ht : t ≤ 256) (x : Bool) (hx : decide ((l : Int) - (t : Int) ≤ 53) = x) (L : Hid (∀ w : World, Calls Tryd.prog 55 #[.agg #[.int .u64 (lm (V) 0 : Nat), .int .u64 (lm (V) 1 : Nat), .int .u64 (lm (V) 2 : Nat), .int .u64 (lm (V) 3 : Nat)]] w fun e w' => e = .returned (.int .i64 (l : Nat)) ∧ Below w.heap.size w w')) (T : Hid (∀ w : World, Tab w → Calls Tryd.prog 51 #[.agg #[.int .u64 (lm (V) 0 : Nat), .int .u64 (lm (V) 1 : Nat), .int .u64 (lm (V) 2 : Nat), .int .u64 (lm (V) 3 : Nat)]] w fun e w' => e = .returned (.int .i64 (t : Nat)) ∧ Below w.heap.size w w')) (h2 : (((lm V 0 : Nat) : Int) == 0 && ((lm V 1 : Nat) : Int) == 0 && ((lm V 2 : Nat) : Int) == 0 && ((lm V 3 : Nat) : Int) == 0) = false) :
    Calls Tryd.prog 31 #[.agg #[.bool (neg ), .int .u64 (lm ( V) 0 : Nat), .int .u64 (lm ( V) 1 : Nat), .int .u64 (lm ( V) 2 : Nat), .int .u64 (lm ( V) 3 : Nat)]] w fun e w' => e = .returned (.bool x) ∧ Below w.heap.size w w' := by
  go_enter Tryd.func31, Tryd.ntmps31
  repeat any_goals (first | go_skip | go_guarded | go_step | go_upon | (simp only []; done))
  have B0 := @boxI_new w neg V 26 hT
  have hBW : Below w.heap.size w (w.alloc (.cells #[.bool neg, .int .u64 (lm V 0 : Nat), .int .u64 (lm V 1 : Nat), .int .u64 (lm V 2 : Nat), .int .u64 (lm V 3 : Nat)] 26)) := by (repeat first | with_reducible exact Below.refl _ _ | with_reducible assumption | with_reducible refine Below.drew ?_ | with_reducible refine below_alloc ?_ _ | ((with_reducible refine Below.setCell ?_ ?_ _); rotate_left; (focus (first | with_reducible exact Nat.le_refl _ | (simp; done) | (simp; omega) | omega))) | (with_reducible refine below_trans ?_ (by assumption)))
  generalize w.alloc (.cells #[.bool neg, .int .u64 (lm V 0 : Nat), .int .u64 (lm V 1 : Nat), .int .u64 (lm V 2 : Nat), .int .u64 (lm V 3 : Nat)] 26) = W at *
  obtain ⟨C, hC⟩ : ∃ C : World → Prop, C = BoxI W w.heap.size neg V := ⟨_, rfl⟩
  have HC := Lib.hid hC
  have hne : ∀ p : Prop, (∀ w1 : World, C w1 → p) = p := fun p => propext ⟨fun h => h W (by rw [hC]; exact B0), fun h _ _ => h⟩
  clear hC
  refine wp_region_quiet_cls (C := C) (by kernel_rfl) (by kernel_rfl) (by rw [HC.out]; exact B0.below (Below.refl _ _).drew) ?_
  go_big_quiet_want
  refine ⟨.agg #[.bool (neg ), .int .u64 (lm ( V) 0 : Nat), .int .u64 (lm ( V) 1 : Nat), .int .u64 (lm ( V) 2 : Nat), .int .u64 (lm ( V) 3 : Nat)], fun w1 hw1 => ?_, ?_⟩
  · rw [HC.out] at hw1
    obtain ⟨d0, d1, d2, d3, d4, _, _, _⟩ := hw1
    simp [Oper.quietAt, go_sem, d0, d1, d2, d3, d4]
  try simp only [Act.put, List.setIfInBounds_toArray, List.set_cons_zero, List.set_cons_succ]
  go_big_quiet_on
  go_big_quiet_want
  go_big_quiet_op
  refine ⟨.bool true, fun w1 hw1 => ?_, ?_⟩
  · rw [HC.out] at hw1
    refine (M.out w1).mono ?_
    rintro e w2 ⟨rfl, hb⟩
    refine ⟨rfl, ?_⟩
    rw [HC.out]
    exact hw1.below hb
  go_big_quiet_on
  first | go_big_quiet_skip | (refine wpQuiet_skip (by rfl) ?_; simp only [Act.put, List.setIfInBounds_toArray, List.set_cons_zero, List.set_cons_succ]) | (go_big_quiet_want; go_big_quiet_op; go_big_quiet_on)
  first | go_big_quiet_skip | (refine wpQuiet_skip (by rfl) ?_; simp only [Act.put, List.setIfInBounds_toArray, List.set_cons_zero, List.set_cons_succ]) | (go_big_quiet_want; go_big_quiet_op; go_big_quiet_on)
  go_big_quiet_want
  refine ⟨.agg #[.int .u64 (lm (V) 0 : Nat), .int .u64 (lm (V) 1 : Nat), .int .u64 (lm (V) 2 : Nat), .int .u64 (lm (V) 3 : Nat)], fun w1 hw1 => ?_, ?_⟩
  · rw [HC.out] at hw1
    obtain ⟨d0, d1, d2, d3, d4, _, _, _⟩ := hw1
    simp [Oper.quietAt, go_sem, d1, d2, d3, d4]
  try simp only [Act.put, List.setIfInBounds_toArray, List.set_cons_zero, List.set_cons_succ]
  go_big_quiet_on
  first | go_big_quiet_skip | (refine wpQuiet_skip (by rfl) ?_; simp only [Act.put, List.setIfInBounds_toArray, List.set_cons_zero, List.set_cons_succ]) | (go_big_quiet_want; go_big_quiet_op; go_big_quiet_on)
  first | go_big_quiet_skip | (refine wpQuiet_skip (by rfl) ?_; simp only [Act.put, List.setIfInBounds_toArray, List.set_cons_zero, List.set_cons_succ]) | (go_big_quiet_want; go_big_quiet_op; go_big_quiet_on)
  first | go_big_quiet_skip | (refine wpQuiet_skip (by rfl) ?_; simp only [Act.put, List.setIfInBounds_toArray, List.set_cons_zero, List.set_cons_succ]) | (go_big_quiet_want; go_big_quiet_op; go_big_quiet_on)
  first | go_big_quiet_skip | (refine wpQuiet_skip (by rfl) ?_; simp only [Act.put, List.setIfInBounds_toArray, List.set_cons_zero, List.set_cons_succ]) | (go_big_quiet_want; go_big_quiet_op; go_big_quiet_on)
  go_big_quiet_want
  refine ⟨.agg #[.int .u64 (lm (V) 0 : Nat), .int .u64 (lm (V) 1 : Nat), .int .u64 (lm (V) 2 : Nat), .int .u64 (lm (V) 3 : Nat)], fun w1 hw1 => ?_, ?_⟩
  · rw [HC.out] at hw1
    obtain ⟨d0, d1, d2, d3, d4, _, _, _⟩ := hw1
    simp [Oper.quietAt, go_sem, d1, d2, d3, d4]
  try simp only [Act.put, List.setIfInBounds_toArray, List.set_cons_zero, List.set_cons_succ]
  go_big_quiet_on
  go_big_quiet_want
  go_big_quiet_op
  refine ⟨.int .i64 (l : Nat), fun w1 hw1 => ?_, ?_⟩
  · rw [HC.out] at hw1
    refine (L.out w1).mono ?_
    rintro e w2 ⟨rfl, hb⟩
    refine ⟨rfl, ?_⟩
    rw [HC.out]
    exact hw1.below hb
  go_big_quiet_on
  first | go_big_quiet_skip | (refine wpQuiet_skip (by rfl) ?_; simp only [Act.put, List.setIfInBounds_toArray, List.set_cons_zero, List.set_cons_succ]) | (go_big_quiet_want; go_big_quiet_op; go_big_quiet_on)
  go_big_quiet_want
  refine ⟨.agg #[.int .u64 (lm (V) 0 : Nat), .int .u64 (lm (V) 1 : Nat), .int .u64 (lm (V) 2 : Nat), .int .u64 (lm (V) 3 : Nat)], fun w1 hw1 => ?_, ?_⟩
  · rw [HC.out] at hw1
    obtain ⟨d0, d1, d2, d3, d4, _, _, _⟩ := hw1
    simp [Oper.quietAt, go_sem, d1, d2, d3, d4]
  try simp only [Act.put, List.setIfInBounds_toArray, List.set_cons_zero, List.set_cons_succ]
  go_big_quiet_on
  go_big_quiet_want
  go_big_quiet_op
  refine ⟨.int .i64 (t : Nat), fun w1 hw1 => ?_, ?_⟩
  · rw [HC.out] at hw1
    refine (T.out w1 hw1.t).mono ?_
    rintro e w2 ⟨rfl, hb⟩
    refine ⟨rfl, ?_⟩
    rw [HC.out]
    exact hw1.below hb
  go_big_quiet_on
  repeat (first | go_big_quiet_skip | (refine wpQuiet_skip (by rfl) ?_; simp only [Act.put, List.setIfInBounds_toArray, List.set_cons_zero, List.set_cons_succ]) | (go_big_quiet_want; go_big_quiet_op; go_big_quiet_on))

  refine wpQuiet_nil ?_
  intro w2 hw2
  rw [HC.out] at hw2
  repeat any_goals (first | go_skip | go_guarded | go_step | go_upon | (simp only []; done))
  go_ret
  exact ⟨by simp, below_trans hBW hw2.b⟩
/-- **Exact.** -/
theorem Exact_any (neg : Bool) (V : Nat) (hV : V < 2 ^ 256) (w : World) (hT : Tab w) :
    Calls Tryd.prog 31 #[.agg #[.bool (neg ), .int .u64 (lm ( V) 0 : Nat), .int .u64 (lm ( V) 1 : Nat), .int .u64 (lm ( V) 2 : Nat), .int .u64 (lm ( V) 3 : Nat)]] w fun e w' => e = .returned (.bool (exactI neg V)) ∧ Below w.heap.size w w' := by
  have hn := lm_nz hV
  have hM := May_any neg V hV
  cases hm : mayI neg V with
  | false =>
    have e : exactI neg V = false := by unfold exactI; rw [hm]; rfl
    rw [hm] at hM
    rw [e]
    exact Exact_no neg V w hT (Lib.hid hM)
  | true =>
    rw [hm] at hM
    by_cases c : V = 0
    · have e : exactI neg V = true := by unfold exactI; rw [hm, c]; rfl
      rw [e]
      refine Exact_zero neg V w hT (Lib.hid hM) ?_
      have h0 : (V != 0) = false := by simpa using c
      rw [h0, Bool.not_eq_false'] at hn
      exact hn
    · have hlt := tz_lt_bl (Nat.pos_of_ne_zero c)
      have hbl := (bl_le_iff V 256).2 hV
      have e : exactI neg V = decide ((bl V : Int) - (tz V : Int) ≤ 53) := by
        unfold exactI
        rw [hm, show (V == 0) = false from by simpa using c, Bool.true_and, Bool.false_or]
        rw [decide_eq_decide]
        omega
      rw [e]
      refine Exact_num neg V w hT (Lib.hid hM) (bl V) (tz V) hbl (by omega) _ rfl (Lib.hid (Len_lm V hV _ rfl)) (Lib.hid (Trail_lm V hV _ (if_neg c))) ?_
      have h0 : (V != 0) = true := by simpa using c
      rw [h0, Bool.not_eq_true'] at hn
      exact hn
end Go.Proofs.YtpmfnhcnldoelaaDoor
