/- The law WholeBits. IBOX -/
import Derived.Test.YtbakgmkkebnhkaaDoorWhP
namespace Go.Proofs.YtbakgmkkebnhkaaDoor
open Go.RowKit
/-- what the law asks of the program -/
structure BiC (a b : Int) (c d : Nat) (na nb : Bool) (A B : Nat) (r s : Bool) (ra : Nat) (sc k l : Int) : Prop where
  c1 : ∀ w : World, Calls Tryd.prog 21 #[.int .i64 a] w fun e w' => e = .returned (.agg #[.bool (na ), .int .u64 (lm ( A) 0 : Nat), .int .u64 (lm ( A) 1 : Nat), .int .u64 (lm ( A) 2 : Nat), .int .u64 (lm ( A) 3 : Nat)]) ∧ Below w.heap.size w w'
  c2 : ∀ w : World, Calls Tryd.prog 20 #[.agg #[.bool (na ), .int .u64 (lm ( A) 0 : Nat), .int .u64 (lm ( A) 1 : Nat), .int .u64 (lm ( A) 2 : Nat), .int .u64 (lm ( A) 3 : Nat)]] w fun e w' => e = .returned (.tuple #[.int .i64 a, .bool true]) ∧ Below w.heap.size w w'
  c3 : ∀ w : World, Calls Tryd.prog 23 #[.int .u64 (c : Int)] w fun e w' => e = .returned (.agg #[.bool (false ), .int .u64 (lm ( c) 0 : Nat), .int .u64 (lm ( c) 1 : Nat), .int .u64 (lm ( c) 2 : Nat), .int .u64 (lm ( c) 3 : Nat)]) ∧ Below w.heap.size w w'
  c4 : ∀ w : World, Calls Tryd.prog 22 #[.agg #[.bool (false ), .int .u64 (lm ( c) 0 : Nat), .int .u64 (lm ( c) 1 : Nat), .int .u64 (lm ( c) 2 : Nat), .int .u64 (lm ( c) 3 : Nat)]] w fun e w' => e = .returned (.tuple #[.int .u64 (c : Int), .bool true]) ∧ Below w.heap.size w w'
  c5 : ∀ w : World, Calls Tryd.prog 22 #[.agg #[.bool (na ), .int .u64 (lm ( A) 0 : Nat), .int .u64 (lm ( A) 1 : Nat), .int .u64 (lm ( A) 2 : Nat), .int .u64 (lm ( A) 3 : Nat)]] w fun e w' => e = .returned (.tuple #[.int .u64 (ra : Int), .bool r]) ∧ Below w.heap.size w w'
  c6 : ∀ w : World, Calls Tryd.prog 20 #[.agg #[.bool (false ), .int .u64 (lm ( c) 0 : Nat), .int .u64 (lm ( c) 1 : Nat), .int .u64 (lm ( c) 2 : Nat), .int .u64 (lm ( c) 3 : Nat)]] w fun e w' => e = .returned (.tuple #[.int .i64 sc, .bool s]) ∧ Below w.heap.size w w'
  c7 : ∀ w : World, Calls Tryd.prog 21 #[.int .i64 b] w fun e w' => e = .returned (.agg #[.bool (nb ), .int .u64 (lm ( B) 0 : Nat), .int .u64 (lm ( B) 1 : Nat), .int .u64 (lm ( B) 2 : Nat), .int .u64 (lm ( B) 3 : Nat)]) ∧ Below w.heap.size w w'
  c8 : ∀ w : World, Calls Tryd.prog 19 #[.agg #[.bool (na ), .int .u64 (lm ( A) 0 : Nat), .int .u64 (lm ( A) 1 : Nat), .int .u64 (lm ( A) 2 : Nat), .int .u64 (lm ( A) 3 : Nat)], .agg #[.bool (nb ), .int .u64 (lm ( B) 0 : Nat), .int .u64 (lm ( B) 1 : Nat), .int .u64 (lm ( B) 2 : Nat), .int .u64 (lm ( B) 3 : Nat)]] w fun e w' => e = .returned (.int .i64 k) ∧ Below w.heap.size w w'
  c9 : ∀ w : World, Calls Tryd.prog 23 #[.int .u64 (d : Int)] w fun e w' => e = .returned (.agg #[.bool (false ), .int .u64 (lm ( d) 0 : Nat), .int .u64 (lm ( d) 1 : Nat), .int .u64 (lm ( d) 2 : Nat), .int .u64 (lm ( d) 3 : Nat)]) ∧ Below w.heap.size w w'
  c10 : ∀ w : World, Calls Tryd.prog 19 #[.agg #[.bool (false ), .int .u64 (lm ( c) 0 : Nat), .int .u64 (lm ( c) 1 : Nat), .int .u64 (lm ( c) 2 : Nat), .int .u64 (lm ( c) 3 : Nat)], .agg #[.bool (false ), .int .u64 (lm ( d) 0 : Nat), .int .u64 (lm ( d) 1 : Nat), .int .u64 (lm ( d) 2 : Nat), .int .u64 (lm ( d) 3 : Nat)]] w fun e w' => e = .returned (.int .i64 l) ∧ Below w.heap.size w w'
set_option maxRecDepth 20000 in
set_option maxHeartbeats 6400000 in
theorem Bits2_walk (a b : Int) (c d : Nat) (na nb : Bool) (A B : Nat) (r s : Bool) (ra : Nat) (sc k l : Int) (w : World) (hT : Tabs w) (C : Hid (BiC a b c d na nb A B r s ra sc k l)) (hr : decide (0 ≤ a) = r) (hs : decide ((c : Int) ≤ 9223372036854775807) = s)
    (hk : a < b ∧ k = -1 ∨ ¬ a < b ∧ ¬ b < a ∧ k = 0 ∨ b < a ∧ k = 1) (hl : (c : Int) < d ∧ l = -1 ∨ ¬ (c : Int) < d ∧ ¬ (d : Int) < c ∧ l = 0 ∨ (d : Int) < c ∧ l = 1) :
    Calls Tryd.prog 6 #[.int .i64 a, .int .i64 b, .int .u64 (c : Int), .int .u64 (d : Int)] w fun e w' => e = .returned (.bool true) ∧ Below w.heap.size w w' := by
  have T0 := Lib.hid hT
  clear hT
  go_enter Tryd.func6, Tryd.ntmps6
  rcases hk with ⟨hk, rfl⟩ | ⟨hk, hk', rfl⟩ | ⟨hk, rfl⟩ <;> rcases hl with ⟨hl, rfl⟩ | ⟨hl, hl', rfl⟩ | ⟨hl, rfl⟩
  all_goals (
    (repeat any_goals (first | (go_at_call 21; with_reducible refine (C.out.c1 _).mono ?_; rintro e w1 ⟨rfl, hb1⟩) | (go_at_call 20; with_reducible refine (C.out.c2 _).mono ?_; rintro e w2 ⟨rfl, hb2⟩) | (go_at_call 23; with_reducible refine (C.out.c3 _).mono ?_; rintro e w3 ⟨rfl, hb3⟩) | (go_at_call 22; with_reducible refine (C.out.c4 _).mono ?_; rintro e w4 ⟨rfl, hb4⟩) | (go_at_call 22; with_reducible refine (C.out.c5 _).mono ?_; rintro e w5 ⟨rfl, hb5⟩) | (go_at_call 20; with_reducible refine (C.out.c6 _).mono ?_; rintro e w6 ⟨rfl, hb6⟩) | (go_at_call 11; with_reducible refine (told_any _ (T0.out.below (by (repeat first | with_reducible exact Below.refl _ _ | with_reducible assumption | with_reducible refine Below.drew ?_ | with_reducible refine below_alloc ?_ _ | ((with_reducible refine Below.setCell ?_ ?_ _); rotate_left; (focus (first | with_reducible exact Nat.le_refl _ | (simp; done) | (simp; omega) | omega))) | (with_reducible refine below_trans ?_ (by assumption)))))).mono ?_; rintro e w7 ⟨rfl, hb7⟩) | (go_at_call 21; with_reducible refine (C.out.c7 _).mono ?_; rintro e w8 ⟨rfl, hb8⟩) | (go_at_call 19; with_reducible refine (C.out.c8 _).mono ?_; rintro e w9 ⟨rfl, hb9⟩) | (go_at_call 23; with_reducible refine (C.out.c9 _).mono ?_; rintro e wa ⟨rfl, hba⟩) | (go_at_call 19; with_reducible refine (C.out.c10 _).mono ?_; rintro e wb ⟨rfl, hbb⟩) | go_skip | go_guarded | go_step | go_upon | (dsimp only [])))
    go_ret
    exact ⟨by first | (simp; done) | (simp; omega), by (repeat first | with_reducible exact Below.refl _ _ | with_reducible assumption | with_reducible refine Below.drew ?_ | with_reducible refine below_alloc ?_ _ | ((with_reducible refine Below.setCell ?_ ?_ _); rotate_left; (focus (first | with_reducible exact Nat.le_refl _ | (simp; done) | (simp; omega) | omega))) | (with_reducible refine below_trans ?_ (by assumption)))⟩)
/-- **WholeBits.** -/
theorem Bits2_any (a b : Int) (c d : Nat) (ha0 : -9223372036854775808 ≤ a) (ha1 : a < 9223372036854775808) (hb0 : -9223372036854775808 ≤ b) (hb1 : b < 9223372036854775808) (hc : c < 18446744073709551616) (hd : d < 18446744073709551616) (w : World) (hT : Tabs w) :
    Calls Tryd.prog 6 #[.int .i64 a, .int .i64 b, .int .u64 (c : Int), .int .u64 (d : Int)] w fun e w' => e = .returned (.bool true) ∧ Below w.heap.size w w' := by
  have hA : ab a < 2 ^ 256 := by unfold ab; omega
  have hB : ab b < 2 ^ 256 := by unfold ab; omega
  have c2 := ToInt_any (sg a) (ab a) hA
  have e2 : toIOk (sg a) (ab a) = true := by
    unfold toIOk
    rw [may_z, z_z, Bool.true_and]
    exact decide_eq_true ⟨ha0, ha1⟩
  have e3 : toI (sg a) (ab a) = a := by unfold toI; rw [if_pos e2, z_z]
  rw [e2, e3] at c2
  have c4 := ToUint_any false c (by omega)
  have e4 : toUOk false c = true := by unfold toUOk; exact decide_eq_true hc
  have e5 : toU false c = c := if_pos e4
  rw [e4, e5] at c4
  have c8 := Cmp_any (sg a) (ab a) hA (sg b) (ab b) hB
  rw [cmpI_z] at c8
  have c10 := Cmp_any false c (by omega) false d (by omega)
  have e10 : cmpI false c false d = cmpZ c d := rfl
  rw [e10] at c10
  refine Bits2_walk a b c d (sg a) (sg b) (ab a) (ab b) _ _ _ _ _ _ w hT (Lib.hid (BiC.mk (OfI_any a ha0 ha1) c2 (OfU_any c hc) c4 (ToUint_any (sg a) (ab a) hA) (ToInt_any false c (by omega)) (OfI_any b hb0 hb1) c8 (OfU_any d hd) c10)) ?_ ?_ ?_ ?_
  · unfold toUOk sg
    by_cases h : a < 0
    · rw [decide_eq_true h, decide_eq_false (by omega)]
      rfl
    · rw [decide_eq_false h, decide_eq_true (by omega), decide_eq_true (by unfold ab; omega)]
      rfl
  · unfold toIOk
    rw [may_false, zI_false, Bool.true_and, decide_eq_decide]
    omega
  · unfold cmpZ
    by_cases h : a < b
    · exact .inl ⟨h, if_pos h⟩
    · by_cases h2 : a = b
      · exact .inr (.inl ⟨h, by omega, by rw [if_neg h, if_pos h2]⟩)
      · exact .inr (.inr ⟨by omega, by rw [if_neg h, if_neg h2]⟩)
  · unfold cmpZ
    by_cases h : (c : Int) < d
    · exact .inl ⟨h, if_pos h⟩
    · by_cases h2 : (c : Int) = d
      · exact .inr (.inl ⟨h, by omega, by rw [if_neg h, if_pos h2]⟩)
      · exact .inr (.inr ⟨by omega, by rw [if_neg h, if_neg h2]⟩)
end Go.Proofs.YtbakgmkkebnhkaaDoor
