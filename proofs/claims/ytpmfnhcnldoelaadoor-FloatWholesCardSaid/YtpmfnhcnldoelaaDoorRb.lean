/- Contracts of the document's answer on floats: whole, Whole, Class, MayFloat, Canon. -/
import Derived.Test.YtpmfnhcnldoelaaDoorRa
import Derived.Test.YtpmfnhcnldoelaaDoorToldA
namespace Go.Proofs.YtpmfnhcnldoelaaDoor
open Go.RowKit
/-- what Nat answers, for the walks -/
structure RN (w0 : World) (v : Value) (a0 a1 a2 a3 : Nat) (ok : Bool) : Prop where
  c : ∀ w : World, Below w0.heap.size w0 w → Calls Tryd.prog 62 #[v] w fun e w' => e = .returned (.tuple #[.agg #[.int .u64 a0, .int .u64 a1, .int .u64 a2, .int .u64 a3], .bool ok]) ∧ Below w.heap.size w w'
set_option maxHeartbeats 800000 in
theorem rwhole_no (neg : Bool) (v : Value) (w : World) (C : Hid (RN w v 0 0 0 0 false)) :
    Calls Tryd.prog 38 #[.bool neg, v] w fun e w' => e = .returned (.tuple #[.agg #[.bool false, .int .u64 0, .int .u64 0, .int .u64 0, .int .u64 0], .bool false]) ∧ Below w.heap.size w w' := by
  go_enter Tryd.func38, Tryd.ntmps38
  repeat any_goals (first | (go_at_call 62; refine (C.out.c _ (below_alloc (Below.refl _ _) _)).mono ?_; rintro e w1 ⟨rfl, hb1⟩; have hl_w1_0 : w.heap.size < w1.heap.size := (by have h_ := (hb1).size; simp at h_; omega); have c_w1_0_0 := (hb1).cell (p := ⟨w.heap.size, 0, none⟩) (by first | (simp; done) | (simp; omega)); simp [go_sem] at c_w1_0_0; have f_w1_0_0 := (hb1).frozen (p := ⟨w.heap.size, 0, none⟩) (by first | (simp; done) | (simp; omega)); simp [go_sem] at f_w1_0_0; have c_w1_0_1 := (hb1).cell (p := ⟨w.heap.size, 1, none⟩) (by first | (simp; done) | (simp; omega)); simp [go_sem] at c_w1_0_1; have f_w1_0_1 := (hb1).frozen (p := ⟨w.heap.size, 1, none⟩) (by first | (simp; done) | (simp; omega)); simp [go_sem] at f_w1_0_1; have c_w1_0_2 := (hb1).cell (p := ⟨w.heap.size, 2, none⟩) (by first | (simp; done) | (simp; omega)); simp [go_sem] at c_w1_0_2; have f_w1_0_2 := (hb1).frozen (p := ⟨w.heap.size, 2, none⟩) (by first | (simp; done) | (simp; omega)); simp [go_sem] at f_w1_0_2; have c_w1_0_3 := (hb1).cell (p := ⟨w.heap.size, 3, none⟩) (by first | (simp; done) | (simp; omega)); simp [go_sem] at c_w1_0_3; have f_w1_0_3 := (hb1).frozen (p := ⟨w.heap.size, 3, none⟩) (by first | (simp; done) | (simp; omega)); simp [go_sem] at f_w1_0_3; have c_w1_0_4 := (hb1).cell (p := ⟨w.heap.size, 4, none⟩) (by first | (simp; done) | (simp; omega)); simp [go_sem] at c_w1_0_4; have f_w1_0_4 := (hb1).frozen (p := ⟨w.heap.size, 4, none⟩) (by first | (simp; done) | (simp; omega)); simp [go_sem] at f_w1_0_4) | go_skip | go_guarded | go_step | go_upon | (dsimp only []))
  refine bodyPost_ret (v := .tuple #[.agg #[.bool false, .int .u64 0, .int .u64 0, .int .u64 0, .int .u64 0], .bool false]) ?_ rfl ⟨rfl, by (repeat first | with_reducible exact Below.refl _ _ | with_reducible assumption | with_reducible refine Below.drew ?_ | ((with_reducible refine Below.alloc ?_ ?_ _); rotate_left; (focus (first | with_reducible exact Nat.le_refl _ | (simp; done) | (simp; omega) | omega))) | ((with_reducible refine Below.setCell ?_ ?_ _); rotate_left; (focus (first | with_reducible exact Nat.le_refl _ | (simp; done) | (simp; omega) | omega))) | ((with_reducible refine Below.trans ?_ (Below.mono (by assumption) ?_)); rotate_left; (focus (first | with_reducible exact Nat.le_refl _ | (simp; done) | (simp; omega) | omega))))⟩
  simp [results, Tryd.results38, go_sem, hl_w1_0, c_w1_0_0, c_w1_0_1, c_w1_0_2, c_w1_0_3, c_w1_0_4]
set_option maxHeartbeats 800000 in
theorem rwhole_yes (neg : Bool) (a0 a1 a2 a3 : Nat) (v : Value) (w : World) (C : Hid (RN w v a0 a1 a2 a3 true)) :
    Calls Tryd.prog 38 #[.bool neg, v] w fun e w' => e = .returned (.tuple #[.agg #[.bool (neg && !(decide (a0 = 0 ∧ a1 = 0 ∧ a2 = 0 ∧ a3 = 0))), .int .u64 a0, .int .u64 a1, .int .u64 a2, .int .u64 a3], .bool true]) ∧ Below w.heap.size w w' := by
  go_enter Tryd.func38, Tryd.ntmps38
  repeat any_goals (first | (go_at_call 62; refine (C.out.c _ (below_alloc (Below.refl _ _) _)).mono ?_; rintro e w1 ⟨rfl, hb1⟩; have hl_w1_0 : w.heap.size < w1.heap.size := (by have h_ := (hb1).size; simp at h_; omega); have c_w1_0_0 := (hb1).cell (p := ⟨w.heap.size, 0, none⟩) (by first | (simp; done) | (simp; omega)); simp [go_sem] at c_w1_0_0; have f_w1_0_0 := (hb1).frozen (p := ⟨w.heap.size, 0, none⟩) (by first | (simp; done) | (simp; omega)); simp [go_sem] at f_w1_0_0; have c_w1_0_1 := (hb1).cell (p := ⟨w.heap.size, 1, none⟩) (by first | (simp; done) | (simp; omega)); simp [go_sem] at c_w1_0_1; have f_w1_0_1 := (hb1).frozen (p := ⟨w.heap.size, 1, none⟩) (by first | (simp; done) | (simp; omega)); simp [go_sem] at f_w1_0_1; have c_w1_0_2 := (hb1).cell (p := ⟨w.heap.size, 2, none⟩) (by first | (simp; done) | (simp; omega)); simp [go_sem] at c_w1_0_2; have f_w1_0_2 := (hb1).frozen (p := ⟨w.heap.size, 2, none⟩) (by first | (simp; done) | (simp; omega)); simp [go_sem] at f_w1_0_2; have c_w1_0_3 := (hb1).cell (p := ⟨w.heap.size, 3, none⟩) (by first | (simp; done) | (simp; omega)); simp [go_sem] at c_w1_0_3; have f_w1_0_3 := (hb1).frozen (p := ⟨w.heap.size, 3, none⟩) (by first | (simp; done) | (simp; omega)); simp [go_sem] at f_w1_0_3; have c_w1_0_4 := (hb1).cell (p := ⟨w.heap.size, 4, none⟩) (by first | (simp; done) | (simp; omega)); simp [go_sem] at c_w1_0_4; have f_w1_0_4 := (hb1).frozen (p := ⟨w.heap.size, 4, none⟩) (by first | (simp; done) | (simp; omega)); simp [go_sem] at f_w1_0_4) | go_skip | go_guarded | go_step | go_upon | (dsimp only []))
  cases neg with
  | false =>
    (refine still_tail 8 (by kernel_rfl) (by kernel_rfl) ?_; simp only [List.take_succ_cons, List.take_zero, List.drop_succ_cons, List.drop_zero]; (repeat still_step); refine wpStill_nil ?_)
    repeat any_goals (first | go_skip | go_guarded | go_step | go_upon | (simp only []; done))
    refine bodyPost_ret (v := .tuple #[.agg #[.bool false, .int .u64 a0, .int .u64 a1, .int .u64 a2, .int .u64 a3], .bool true]) ?_ rfl ⟨rfl, by (repeat first | with_reducible exact Below.refl _ _ | with_reducible assumption | with_reducible refine Below.drew ?_ | ((with_reducible refine Below.alloc ?_ ?_ _); rotate_left; (focus (first | with_reducible exact Nat.le_refl _ | (simp; done) | (simp; omega) | omega))) | ((with_reducible refine Below.setCell ?_ ?_ _); rotate_left; (focus (first | with_reducible exact Nat.le_refl _ | (simp; done) | (simp; omega) | omega))) | ((with_reducible refine Below.trans ?_ (Below.mono (by assumption) ?_)); rotate_left; (focus (first | with_reducible exact Nat.le_refl _ | (simp; done) | (simp; omega) | omega))))⟩
    simp [results, Tryd.results38, go_sem, hl_w1_0, c_w1_0_0, c_w1_0_1, c_w1_0_2, c_w1_0_3, c_w1_0_4]
  | true =>
    (refine still_tail 8 (by kernel_rfl) (by kernel_rfl) ?_; simp only [List.take_succ_cons, List.take_zero, List.drop_succ_cons, List.drop_zero]; (repeat still_step); refine wpStill_nil ?_)
    repeat any_goals (first | go_skip | go_guarded | go_step | go_upon | (simp only []; done))
    refine bodyPost_ret (v := .tuple #[.agg #[.bool (true && !(decide (a0 = 0 ∧ a1 = 0 ∧ a2 = 0 ∧ a3 = 0))), .int .u64 a0, .int .u64 a1, .int .u64 a2, .int .u64 a3], .bool true]) ?_ rfl ⟨rfl, by (repeat first | with_reducible exact Below.refl _ _ | with_reducible assumption | with_reducible refine Below.drew ?_ | ((with_reducible refine Below.alloc ?_ ?_ _); rotate_left; (focus (first | with_reducible exact Nat.le_refl _ | (simp; done) | (simp; omega) | omega))) | ((with_reducible refine Below.setCell ?_ ?_ _); rotate_left; (focus (first | with_reducible exact Nat.le_refl _ | (simp; done) | (simp; omega) | omega))) | ((with_reducible refine Below.trans ?_ (Below.mono (by assumption) ?_)); rotate_left; (focus (first | with_reducible exact Nat.le_refl _ | (simp; done) | (simp; omega) | omega))))⟩
    have z : ∀ a : Nat, ((a : Int) == 0) = decide (a = 0) := fun a => by rw [Bool.eq_iff_iff]; simp
    simp [results, Tryd.results38, go_sem, hl_w1_0, c_w1_0_0, c_w1_0_1, c_w1_0_2, c_w1_0_3, c_w1_0_4, z, Bool.or_assoc]
/-- **whole.** -/
theorem rwhole_any (neg : Bool) (v : Value) (n V : Nat) (w : World) (h : DN w v n V) :
    Calls Tryd.prog 38 #[.bool neg, v] w fun e w' => e = .returned (.tuple #[.agg #[.bool (decide (V < 2 ^ 256) && neg && decide (V ≠ 0) ), .int .u64 (lm ( if V < 2 ^ 256 then V else 0) 0 : Nat), .int .u64 (lm ( if V < 2 ^ 256 then V else 0) 1 : Nat), .int .u64 (lm ( if V < 2 ^ 256 then V else 0) 2 : Nat), .int .u64 (lm ( if V < 2 ^ 256 then V else 0) 3 : Nat)], .bool (decide (V < 2 ^ 256))]) ∧ Below w.heap.size w w' := by
  by_cases c : V < 2 ^ 256
  · rw [decide_eq_true c, if_pos c, Bool.true_and]
    have C : RN w v (lm V 0) (lm V 1) (lm V 2) (lm V 3) true := ⟨fun w1 hb => by
      have k := DNat_any v n V w1 (h.below hb)
      rw [decide_eq_true c, if_pos c] at k
      exact k⟩
    have k := rwhole_yes neg _ _ _ _ v w (Lib.hid C)
    have e : (!(decide (lm V 0 = 0 ∧ lm V 1 = 0 ∧ lm V 2 = 0 ∧ lm V 3 = 0))) = decide (V ≠ 0) := by
      rw [Bool.eq_iff_iff]
      simp only [Bool.not_eq_true', decide_eq_false_iff_not, decide_eq_true_eq]
      constructor
      · intro h1 h2
        subst h2
        exact h1 ⟨lm_zero 0, lm_zero 1, lm_zero 2, lm_zero 3⟩
      · intro h1 h2
        exact h1 (lm_inj c (by decide) (by rw [h2.1, lm_zero]) (by rw [h2.2.1, lm_zero]) (by rw [h2.2.2.1, lm_zero]) (by rw [h2.2.2.2, lm_zero]))
    rw [e] at k
    exact k
  · rw [decide_eq_false c, if_neg c, Bool.false_and, Bool.false_and, lm_zero, lm_zero, lm_zero, lm_zero]
    have C : RN w v 0 0 0 0 false := ⟨fun w1 hb => by
      have k := DNat_any v n V w1 (h.below hb)
      rw [decide_eq_false c, if_neg c, lm_zero, lm_zero, lm_zero, lm_zero] at k
      exact k⟩
    exact rwhole_no neg v w (Lib.hid C)
end Go.Proofs.YtpmfnhcnldoelaaDoor
