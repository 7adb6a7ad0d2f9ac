/- The law NatDivs. -/
import Derived.Test.YtbmeejfpaeggjaaDoorTold1
import Derived.Test.YtbmeejfpaeggjaaDoorDt
namespace Go.Proofs.YtbmeejfpaeggjaaDoor
open Go.RowKit
theorem cmpV_same (A : Nat) : cmpV A A = 0 := by
  unfold cmpV
  rw [if_neg (Nat.lt_irrefl _), if_neg (Nat.lt_irrefl _)]
set_option maxRecDepth 20000 in
set_option maxHeartbeats 1600000 in
theorem Divs_zero (A : Nat) (_hA : A < 2 ^ 256) (w : World) (hT : Tabs w) :
    Calls Tryd.prog 3 #[.agg #[.int .u64 (lm (A) 0 : Nat), .int .u64 (lm (A) 1 : Nat), .int .u64 (lm (A) 2 : Nat), .int .u64 (lm (A) 3 : Nat)], .int .u64 0] w fun e w' => e = .returned (.bool true) ∧ Below w.heap.size w w' := by
  have T0 := Lib.hid hT
  have K : Hid (∀ w : World, Calls Tryd.prog 11 #[.agg #[.int .u64 (lm (A) 0 : Nat), .int .u64 (lm (A) 1 : Nat), .int .u64 (lm (A) 2 : Nat), .int .u64 (lm (A) 3 : Nat)], .int .u64 0] w fun e w' => e = .returned (.tuple #[.agg #[.int .u64 (lm (0) 0 : Nat), .int .u64 (lm (0) 1 : Nat), .int .u64 (lm (0) 2 : Nat), .int .u64 (lm (0) 3 : Nat)], .int .u64 0, .bool false]) ∧ Below w.heap.size w w') := Lib.hid fun w => by
    rw [lm_zero, lm_zero, lm_zero, lm_zero]
    exact DivN_zero A w
  have hz := lm_z (V := 0) (by decide)
  rw [show ((0 : Nat) == 0) = true from rfl] at hz
  clear hT
  go_enter Tryd.func3, Tryd.ntmps3
  repeat any_goals (first | (go_at_call 11; with_reducible refine (K.out _).mono ?_; rintro e w1 ⟨rfl, hb1⟩; (first | have T1 := Lib.hid (T0.out.below hb1) | have T1 := Lib.hid (T0.out.step hb1))) | (go_at_call 12; with_reducible refine (told_any _ (T1.out.alloc _)).mono ?_; rintro e w2 ⟨rfl, hb2⟩; have q2 := Lib.hid (box_hb hb2); obtain ⟨_, _, _, _, _⟩ := q2.out.all; (first | have T2 := Lib.hid (T1.out.below hb2) | have T2 := Lib.hid (T1.out.step hb2))) | go_skip | go_guarded | go_step | go_upon | (dsimp only []))
  go_ret
  exact ⟨by simp, by (repeat first | with_reducible exact Below.refl _ _ | with_reducible assumption | with_reducible refine Below.drew ?_ | with_reducible refine below_alloc ?_ _ | ((with_reducible refine Below.setCell ?_ ?_ _); rotate_left; (focus (first | with_reducible exact Nat.le_refl _ | (simp; done) | (simp; omega) | omega))) | (with_reducible refine below_trans ?_ (by assumption)))⟩
set_option maxRecDepth 20000 in
set_option maxHeartbeats 1600000 in
theorem Divs_walk (A d Q R : Nat) (hA : A < 2 ^ 256) (hd : d < 18446744073709551616) (h0 : ((d : Int) == 0) = false) (hR : (R : Int) < (d : Int)) (hQ : Hid (Q < 2 ^ 256 ∧ Q * d < 2 ^ 256 ∧ Q * d + R = A ∧ R < 18446744073709551616)) (K : Hid (∀ w : World, Calls Tryd.prog 11 #[.agg #[.int .u64 (lm (A) 0 : Nat), .int .u64 (lm (A) 1 : Nat), .int .u64 (lm (A) 2 : Nat), .int .u64 (lm (A) 3 : Nat)], .int .u64 (d : Int)] w fun e w' => e = .returned (.tuple #[.agg #[.int .u64 (lm (Q) 0 : Nat), .int .u64 (lm (Q) 1 : Nat), .int .u64 (lm (Q) 2 : Nat), .int .u64 (lm (Q) 3 : Nat)], .int .u64 (R : Int), .bool true]) ∧ Below w.heap.size w w')) (w : World) (hT : Tabs w) :
    Calls Tryd.prog 3 #[.agg #[.int .u64 (lm (A) 0 : Nat), .int .u64 (lm (A) 1 : Nat), .int .u64 (lm (A) 2 : Nat), .int .u64 (lm (A) 3 : Nat)], .int .u64 (d : Int)] w fun e w' => e = .returned (.bool true) ∧ Below w.heap.size w w' := by
  have T0 := Lib.hid hT
  have HA := Lib.hid (And.intro hA hd)
  have CH : Hid (∀ (v1 v2 : Value) (w : World) (_ : IsD w v1 (Q * d + R)) (_ : IsD w v2 A), Calls Tryd.prog 17 #[v1, v2] w fun e w' => e = .returned (.int .i64 0) ∧ Below w.heap.size w w') := Lib.hid fun v1 v2 w h1 h2 => by
    rw [hQ.out.2.2.1] at h1
    have h := CmpI_any v1 v2 A A w h1 h2
    rw [cmpV_same] at h
    exact h
  clear hT hA hd
  go_enter Tryd.func3, Tryd.ntmps3
  go_upto_region 1 with fail
  have X0 := Lib.hid (@box_new w A 24)
  have T1 := Lib.hid (T0.out.alloc (.cells #[.int .u64 (lm A 0 : Nat), .int .u64 (lm A 1 : Nat), .int .u64 (lm A 2 : Nat), .int .u64 (lm A 3 : Nat)] 24))
  repeat any_goals (first | (go_at_call 11; with_reducible refine (K.out _).mono ?_; rintro e w1 ⟨rfl, hb1⟩; (first | have X1 := Lib.hid (X0.out.below hb1) | have X1 := Lib.hid (X0.out.step hb1)); obtain ⟨_, _, _, _, _⟩ := X1.out.all; (first | have T2 := Lib.hid (T1.out.below hb1) | have T2 := Lib.hid (T1.out.step hb1))) | (go_at_call 15; with_reducible refine (DOf_any Q hQ.out.1 _).mono ?_; rintro e w2 ⟨u2, rfl, hu2, hb2⟩; have q2 := Lib.hid (box_hb hb2); obtain ⟨_, _, _, _, _⟩ := q2.out.all; (first | have X2 := Lib.hid (X1.out.below hb2) | have X2 := Lib.hid (X1.out.step hb2)); obtain ⟨_, _, _, _, _⟩ := X2.out.all; (first | have T3 := Lib.hid (T2.out.below hb2) | have T3 := Lib.hid (T2.out.step hb2))) | (go_at_call 16; with_reducible refine (Small_any d HA.out.2 _).mono ?_; rintro e w3 ⟨u3, rfl, hu3, hb3⟩; (first | have X3 := Lib.hid (X2.out.below hb3) | have X3 := Lib.hid (X2.out.step hb3)); obtain ⟨_, _, _, _, _⟩ := X3.out.all; (first | have T4 := Lib.hid (T3.out.below hb3) | have T4 := Lib.hid (T3.out.step hb3))) | (go_at_call 14; with_reducible refine (MulI_any _ _ _ _ _ (hu2.below hb3) hu3 (Nat.le_trans (dl8 hQ.out.1) (by decide)) (Nat.le_trans (dl2 HA.out.2) (by decide))).mono ?_; rintro e w4 ⟨u4, rfl, hu4, hb4⟩; (first | have X4 := Lib.hid (X3.out.below hb4) | have X4 := Lib.hid (X3.out.step hb4)); obtain ⟨_, _, _, _, _⟩ := X4.out.all; (first | have T5 := Lib.hid (T4.out.below hb4) | have T5 := Lib.hid (T4.out.step hb4))) | (go_at_call 16; with_reducible refine (Small_any R hQ.out.2.2.2 _).mono ?_; rintro e w5 ⟨u5, rfl, hu5, hb5⟩; (first | have X5 := Lib.hid (X4.out.below hb5) | have X5 := Lib.hid (X4.out.step hb5)); obtain ⟨_, _, _, _, _⟩ := X5.out.all; (first | have T6 := Lib.hid (T5.out.below hb5) | have T6 := Lib.hid (T5.out.step hb5))) | (go_at_call 13; with_reducible refine (AddI_any _ _ _ _ _ (hu4.below hb5) hu5 (Nat.le_trans (dl8 hQ.out.2.1) (by decide)) (Nat.le_trans (dl2 hQ.out.2.2.2) (by decide))).mono ?_; rintro e w6 ⟨u6, rfl, hu6, hb6⟩; (first | have X6 := Lib.hid (X5.out.below hb6) | have X6 := Lib.hid (X5.out.step hb6)); obtain ⟨_, _, _, _, _⟩ := X6.out.all; (first | have T7 := Lib.hid (T6.out.below hb6) | have T7 := Lib.hid (T6.out.step hb6))) | (go_at_call 12; with_reducible refine (told_any _ T7.out).mono ?_; rintro e w7 ⟨rfl, hb7⟩; (first | have X7 := Lib.hid (X6.out.below hb7) | have X7 := Lib.hid (X6.out.step hb7)); obtain ⟨_, _, _, _, _⟩ := X7.out.all) | (go_at_call 15; with_reducible refine (DOf_any A HA.out.1 _).mono ?_; rintro e w8 ⟨u8, rfl, hu8, hb8⟩) | (go_at_call 17; with_reducible refine (CH.out _ _ _ ((hu6.below hb7).below hb8) hu8).mono ?_; rintro e w9 ⟨rfl, hb9⟩) | go_skip | go_guarded | go_step | go_upon | (dsimp only []))
  go_ret
  exact ⟨by simp, by (repeat first | with_reducible exact Below.refl _ _ | with_reducible assumption | with_reducible refine Below.drew ?_ | with_reducible refine below_alloc ?_ _ | ((with_reducible refine Below.setCell ?_ ?_ _); rotate_left; (focus (first | with_reducible exact Nat.le_refl _ | (simp; done) | (simp; omega) | omega))) | (with_reducible refine below_trans ?_ (by assumption)))⟩
/-- **NatDivs answers true.** -/
theorem Divs_any (A d : Nat) (hA : A < 2 ^ 256) (hd : d < 18446744073709551616) (w : World) (hT : Tabs w) :
    Calls Tryd.prog 3 #[.agg #[.int .u64 (lm (A) 0 : Nat), .int .u64 (lm (A) 1 : Nat), .int .u64 (lm (A) 2 : Nat), .int .u64 (lm (A) 3 : Nat)], .int .u64 (d : Int)] w fun e w' => e = .returned (.bool true) ∧ Below w.heap.size w w' := by
  by_cases c : d = 0
  · subst c
    exact Divs_zero A hA w hT
  · have h1 : A % d < d := Nat.mod_lt _ (by omega)
    have h2 : A / d * d + A % d = A := Nat.div_add_mod' A d
    have h3 : A / d ≤ A := Nat.div_le_self A d
    exact Divs_walk A d (A / d) (A % d) hA hd (by simp; omega) (by omega) (Lib.hid ⟨by omega, by omega, h2, by omega⟩) (Lib.hid fun w => DivN_any A d hA (by omega) hd w) w hT
end Go.Proofs.YtbmeejfpaeggjaaDoor
