/- Contracts of the document: OfInt, OfUint, ToInt, ToUint, CmpInt. IBOX -/
import Derived.Test.YtbakgmkkebnhkaaDoorWhP
import Derived.Test.YtbakgmkkebnhkaaDoorWhR
namespace Go.Proofs.YtbakgmkkebnhkaaDoor
open Go.RowKit
set_option maxRecDepth 20000 in
set_option maxHeartbeats 800000 in
theorem ROfInt_neg (v : Int) (u : Int) (hv : v < 0) (e : IntKind.u64.wrap (IntKind.u64.wrap (wrap64 (-wrap64 (v + 1))) + 1) = u) (w : World) :
    Calls Tryd.prog 32 #[.int .i64 v] w fun e w' => e = .returned (.agg #[.bool true, .int .u64 u, .int .u64 0, .int .u64 0, .int .u64 0]) ∧ Below w.heap.size w w' := by
  go_enter Tryd.func32, Tryd.ntmps32
  repeat any_goals (first | go_skip | go_guarded | go_step | go_upon | (simp only []; done))
  refine bodyPost_ret (v := .agg #[.bool true, .int .u64 u, .int .u64 0, .int .u64 0, .int .u64 0]) ?_ rfl ⟨rfl, by (repeat first | with_reducible exact Below.refl _ _ | with_reducible assumption | with_reducible refine Below.drew ?_ | with_reducible refine below_alloc ?_ _ | ((with_reducible refine Below.setCell ?_ ?_ _); rotate_left; (focus (first | with_reducible exact Nat.le_refl _ | (simp; done) | (simp; omega) | omega))) | (with_reducible refine below_trans ?_ (by assumption)))⟩
  simp [results, Tryd.results32, go_sem, *]
set_option maxRecDepth 20000 in
set_option maxHeartbeats 800000 in
theorem ROfInt_pos (v : Int) (u : Int) (hv : 0 ≤ v) (e : IntKind.u64.wrap v = u) (w : World) :
    Calls Tryd.prog 32 #[.int .i64 v] w fun e w' => e = .returned (.agg #[.bool false, .int .u64 u, .int .u64 0, .int .u64 0, .int .u64 0]) ∧ Below w.heap.size w w' := by
  go_enter Tryd.func32, Tryd.ntmps32
  repeat any_goals (first | go_skip | go_guarded | go_step | go_upon | (simp only []; done))
  refine bodyPost_ret (v := .agg #[.bool false, .int .u64 u, .int .u64 0, .int .u64 0, .int .u64 0]) ?_ rfl ⟨rfl, by (repeat first | with_reducible exact Below.refl _ _ | with_reducible assumption | with_reducible refine Below.drew ?_ | with_reducible refine below_alloc ?_ _ | ((with_reducible refine Below.setCell ?_ ?_ _); rotate_left; (focus (first | with_reducible exact Nat.le_refl _ | (simp; done) | (simp; omega) | omega))) | (with_reducible refine below_trans ?_ (by assumption)))⟩
  simp [results, Tryd.results32, go_sem, *]
set_option maxRecDepth 20000 in
set_option maxHeartbeats 800000 in
theorem ROfU_walk (u : Int) (w : World) :
    Calls Tryd.prog 33 #[.int .u64 u] w fun e w' => e = .returned (.agg #[.bool false, .int .u64 u, .int .u64 0, .int .u64 0, .int .u64 0]) ∧ Below w.heap.size w w' := by
  go_enter Tryd.func33, Tryd.ntmps33
  repeat any_goals (first | go_skip | go_guarded | go_step | go_upon | (simp only []; done))
  refine bodyPost_ret (v := .agg #[.bool false, .int .u64 u, .int .u64 0, .int .u64 0, .int .u64 0]) ?_ rfl ⟨rfl, by (repeat first | with_reducible exact Below.refl _ _ | with_reducible assumption | with_reducible refine Below.drew ?_ | with_reducible refine below_alloc ?_ _ | ((with_reducible refine Below.setCell ?_ ?_ _); rotate_left; (focus (first | with_reducible exact Nat.le_refl _ | (simp; done) | (simp; omega) | omega))) | (with_reducible refine below_trans ?_ (by assumption)))⟩
  simp [results, Tryd.results33, go_sem, *]
set_option maxRecDepth 20000 in
set_option maxHeartbeats 800000 in
theorem small_walk (a0 a1 a2 a3 : Int) (x : Bool) (w : World) (h : (a1 == 0) = false ∧ x = false ∨ (a1 == 0) = true ∧ (a2 == 0) = false ∧ x = false ∨ (a1 == 0) = true ∧ (a2 == 0) = true ∧ (a3 == 0) = x) :
    Calls Tryd.prog 61 #[.agg #[.int .u64 a0, .int .u64 a1, .int .u64 a2, .int .u64 a3]] w fun e w' => e = .returned (.bool x) ∧ Below w.heap.size w w' := by
  rcases h with ⟨h, rfl⟩ | ⟨h, h2, rfl⟩ | ⟨h, h2, h3⟩
  all_goals (
    go_enter Tryd.func61, Tryd.ntmps61
    (repeat any_goals (first | go_skip | go_guarded | go_step | go_upon | (simp only []; done)))
    go_ret
    exact ⟨by simp [*], by (repeat first | with_reducible exact Below.refl _ _ | with_reducible assumption | with_reducible refine Below.drew ?_ | with_reducible refine below_alloc ?_ _ | ((with_reducible refine Below.setCell ?_ ?_ _); rotate_left; (focus (first | with_reducible exact Nat.le_refl _ | (simp; done) | (simp; omega) | omega))) | (with_reducible refine below_trans ?_ (by assumption)))⟩)
structure RtC (n : Bool) (a0 a1 a2 a3 : Int) (m x : Bool) : Prop where
  c1 : ∀ w : World, Calls Tryd.prog 16 #[.agg #[.bool n, .int .u64 a0, .int .u64 a1, .int .u64 a2, .int .u64 a3]] w fun e w' => e = .returned (.bool m) ∧ Below w.heap.size w w'
  c2 : ∀ w : World, Calls Tryd.prog 61 #[.agg #[.int .u64 a0, .int .u64 a1, .int .u64 a2, .int .u64 a3]] w fun e w' => e = .returned (.bool x) ∧ Below w.heap.size w w'
/-- **OfInt.** -/
theorem ROfI_any (v : Int) (h0 : -9223372036854775808 ≤ v) (h1 : v < 9223372036854775808) (w : World) :
    Calls Tryd.prog 32 #[.int .i64 v] w fun e w' => e = .returned (.agg #[.bool (sg v ), .int .u64 (lm ( ab v) 0 : Nat), .int .u64 (lm ( ab v) 1 : Nat), .int .u64 (lm ( ab v) 2 : Nat), .int .u64 (lm ( ab v) 3 : Nat)]) ∧ Below w.heap.size w w' := by
  have hu : ab v < 18446744073709551616 := by unfold ab; omega
  obtain ⟨q0, q1, q2, q3⟩ := lm_small hu
  rw [q0, q1, q2, q3]
  by_cases c : v < 0
  · rw [show sg v = true from decide_eq_true c]
    refine ROfInt_neg v _ c ?_ w
    rw [IntKind.wrap_u64, IntKind.wrap_u64]
    simp only [wrap64]
    unfold ab
    omega
  · rw [show sg v = false from decide_eq_false c]
    refine ROfInt_pos v _ (by omega) ?_ w
    rw [IntKind.wrap_u64]
    unfold ab
    omega
/-- **OfUint.** -/
theorem ROfU_any (u : Nat) (hu : u < 18446744073709551616) (w : World) :
    Calls Tryd.prog 33 #[.int .u64 (u : Int)] w fun e w' => e = .returned (.agg #[.bool (false ), .int .u64 (lm ( u) 0 : Nat), .int .u64 (lm ( u) 1 : Nat), .int .u64 (lm ( u) 2 : Nat), .int .u64 (lm ( u) 3 : Nat)]) ∧ Below w.heap.size w w' := by
  obtain ⟨q0, q1, q2, q3⟩ := lm_small hu
  rw [q0, q1, q2, q3]
  exact ROfU_walk _ w
/-- **small.** -/
theorem small_any (V : Nat) (hV : V < 2 ^ 256) (w : World) :
    Calls Tryd.prog 61 #[.agg #[.int .u64 (lm (V) 0 : Nat), .int .u64 (lm (V) 1 : Nat), .int .u64 (lm (V) 2 : Nat), .int .u64 (lm (V) 3 : Nat)]] w fun e w' => e = .returned (.bool (lowOk V)) ∧ Below w.heap.size w w' := by
  refine small_walk _ _ _ _ _ w ?_
  have h := oneLimb_iff hV
  unfold oneLimb at h
  generalize lowOk V = x at *
  cases c1 : (lm V 1 == 0) with
  | false =>
    rw [c1] at h
    exact .inl ⟨by simpa using c1, h.symm⟩
  | true =>
    rw [c1] at h
    cases c2 : (lm V 2 == 0) with
    | false =>
      rw [c2] at h
      exact .inr (.inl ⟨by simpa using c1, by simpa using c2, h.symm⟩)
    | true =>
      rw [c2] at h
      refine .inr (.inr ⟨by simpa using c1, by simpa using c2, ?_⟩)
      rw [← h]
      cases c3 : (lm V 3 == 0) with
      | true => simpa using c3
      | false => simpa using c3
set_option maxRecDepth 20000 in
set_option maxHeartbeats 1600000 in
theorem RToInt_no (n : Bool) (a0 a1 a2 a3 : Int) (m x : Bool) (w : World) (C : Hid (RtC n a0 a1 a2 a3 m x)) (h : m = false ∨ m = true ∧ x = false) :
    Calls Tryd.prog 34 #[.agg #[.bool n, .int .u64 a0, .int .u64 a1, .int .u64 a2, .int .u64 a3]] w fun e w' => e = .returned (.tuple #[.int .i64 0, .bool false]) ∧ Below w.heap.size w w' := by
  rcases h with rfl | ⟨rfl, rfl⟩
  all_goals (
    go_enter Tryd.func34, Tryd.ntmps34
    (repeat any_goals (first | (go_at_call 16; refine (C.out.c1 _).mono ?_; rintro e w1 ⟨rfl, hb1⟩; have hl_w1_0 : w.heap.size < w1.heap.size := (by have h_ := (hb1).size; simp at h_; omega); have c_w1_0_0 := (hb1).cell (p := ⟨w.heap.size, 0, none⟩) (by first | (simp; done) | (simp; omega)); simp [go_sem] at c_w1_0_0; have f_w1_0_0 := (hb1).frozen (p := ⟨w.heap.size, 0, none⟩) (by first | (simp; done) | (simp; omega)); simp [go_sem] at f_w1_0_0; have c_w1_0_1 := (hb1).cell (p := ⟨w.heap.size, 1, none⟩) (by first | (simp; done) | (simp; omega)); simp [go_sem] at c_w1_0_1; have f_w1_0_1 := (hb1).frozen (p := ⟨w.heap.size, 1, none⟩) (by first | (simp; done) | (simp; omega)); simp [go_sem] at f_w1_0_1; have c_w1_0_2 := (hb1).cell (p := ⟨w.heap.size, 2, none⟩) (by first | (simp; done) | (simp; omega)); simp [go_sem] at c_w1_0_2; have f_w1_0_2 := (hb1).frozen (p := ⟨w.heap.size, 2, none⟩) (by first | (simp; done) | (simp; omega)); simp [go_sem] at f_w1_0_2; have c_w1_0_3 := (hb1).cell (p := ⟨w.heap.size, 3, none⟩) (by first | (simp; done) | (simp; omega)); simp [go_sem] at c_w1_0_3; have f_w1_0_3 := (hb1).frozen (p := ⟨w.heap.size, 3, none⟩) (by first | (simp; done) | (simp; omega)); simp [go_sem] at f_w1_0_3; have c_w1_0_4 := (hb1).cell (p := ⟨w.heap.size, 4, none⟩) (by first | (simp; done) | (simp; omega)); simp [go_sem] at c_w1_0_4; have f_w1_0_4 := (hb1).frozen (p := ⟨w.heap.size, 4, none⟩) (by first | (simp; done) | (simp; omega)); simp [go_sem] at f_w1_0_4) | (go_at_call 61; refine (C.out.c2 _).mono ?_; rintro e w2 ⟨rfl, hb2⟩; have hl_w2_0 : w.heap.size < w2.heap.size := (by have h_ := (hb2).size; (try simp at h_); omega); have c_w2_0_0 := (hb2).cell (p := ⟨w.heap.size, 0, none⟩) (by first | (simp; done) | (simp; omega)); simp [go_sem, c_w1_0_0] at c_w2_0_0; have f_w2_0_0 := (hb2).frozen (p := ⟨w.heap.size, 0, none⟩) (by first | (simp; done) | (simp; omega)); simp [go_sem, f_w1_0_0] at f_w2_0_0; have c_w2_0_1 := (hb2).cell (p := ⟨w.heap.size, 1, none⟩) (by first | (simp; done) | (simp; omega)); simp [go_sem, c_w1_0_1] at c_w2_0_1; have f_w2_0_1 := (hb2).frozen (p := ⟨w.heap.size, 1, none⟩) (by first | (simp; done) | (simp; omega)); simp [go_sem, f_w1_0_1] at f_w2_0_1; have c_w2_0_2 := (hb2).cell (p := ⟨w.heap.size, 2, none⟩) (by first | (simp; done) | (simp; omega)); simp [go_sem, c_w1_0_2] at c_w2_0_2; have f_w2_0_2 := (hb2).frozen (p := ⟨w.heap.size, 2, none⟩) (by first | (simp; done) | (simp; omega)); simp [go_sem, f_w1_0_2] at f_w2_0_2; have c_w2_0_3 := (hb2).cell (p := ⟨w.heap.size, 3, none⟩) (by first | (simp; done) | (simp; omega)); simp [go_sem, c_w1_0_3] at c_w2_0_3; have f_w2_0_3 := (hb2).frozen (p := ⟨w.heap.size, 3, none⟩) (by first | (simp; done) | (simp; omega)); simp [go_sem, f_w1_0_3] at f_w2_0_3; have c_w2_0_4 := (hb2).cell (p := ⟨w.heap.size, 4, none⟩) (by first | (simp; done) | (simp; omega)); simp [go_sem, c_w1_0_4] at c_w2_0_4; have f_w2_0_4 := (hb2).frozen (p := ⟨w.heap.size, 4, none⟩) (by first | (simp; done) | (simp; omega)); simp [go_sem, f_w1_0_4] at f_w2_0_4) | go_skip | go_guarded | go_step | go_upon | (dsimp only [])))
    go_ret2
    exact ⟨by simp, by (repeat first | with_reducible exact Below.refl _ _ | with_reducible assumption | with_reducible refine Below.drew ?_ | with_reducible refine below_alloc ?_ _ | ((with_reducible refine Below.setCell ?_ ?_ _); rotate_left; (focus (first | with_reducible exact Nat.le_refl _ | (simp; done) | (simp; omega) | omega))) | (with_reducible refine below_trans ?_ (by assumption)))⟩)
set_option maxRecDepth 20000 in
set_option maxHeartbeats 1600000 in
theorem RToInt_yes (n : Bool) (a0 a1 a2 a3 z : Int) (r : Bool) (w : World) (C : Hid (RtC n a0 a1 a2 a3 true true)) (h : n = true ∧ 9223372036854775808 < a0 ∧ z = 0 ∧ r = false ∨ n = true ∧ a0 ≤ 9223372036854775808 ∧ wrap64 (wrap64 (-wrap64 (IntKind.u64.wrap (a0 - 1))) - 1) = z ∧ r = true ∨ n = false ∧ 9223372036854775807 < a0 ∧ z = 0 ∧ r = false ∨ n = false ∧ a0 ≤ 9223372036854775807 ∧ wrap64 a0 = z ∧ r = true) :
    Calls Tryd.prog 34 #[.agg #[.bool n, .int .u64 a0, .int .u64 a1, .int .u64 a2, .int .u64 a3]] w fun e w' => e = .returned (.tuple #[.int .i64 z, .bool r]) ∧ Below w.heap.size w w' := by
  rcases h with ⟨rfl, h, rfl, rfl⟩ | ⟨rfl, h, h2, rfl⟩ | ⟨rfl, h, rfl, rfl⟩ | ⟨rfl, h, h2, rfl⟩
  all_goals (
    go_enter Tryd.func34, Tryd.ntmps34
    (repeat any_goals (first | (go_at_call 16; refine (C.out.c1 _).mono ?_; rintro e w1 ⟨rfl, hb1⟩; have hl_w1_0 : w.heap.size < w1.heap.size := (by have h_ := (hb1).size; simp at h_; omega); have c_w1_0_0 := (hb1).cell (p := ⟨w.heap.size, 0, none⟩) (by first | (simp; done) | (simp; omega)); simp [go_sem] at c_w1_0_0; have f_w1_0_0 := (hb1).frozen (p := ⟨w.heap.size, 0, none⟩) (by first | (simp; done) | (simp; omega)); simp [go_sem] at f_w1_0_0; have c_w1_0_1 := (hb1).cell (p := ⟨w.heap.size, 1, none⟩) (by first | (simp; done) | (simp; omega)); simp [go_sem] at c_w1_0_1; have f_w1_0_1 := (hb1).frozen (p := ⟨w.heap.size, 1, none⟩) (by first | (simp; done) | (simp; omega)); simp [go_sem] at f_w1_0_1; have c_w1_0_2 := (hb1).cell (p := ⟨w.heap.size, 2, none⟩) (by first | (simp; done) | (simp; omega)); simp [go_sem] at c_w1_0_2; have f_w1_0_2 := (hb1).frozen (p := ⟨w.heap.size, 2, none⟩) (by first | (simp; done) | (simp; omega)); simp [go_sem] at f_w1_0_2; have c_w1_0_3 := (hb1).cell (p := ⟨w.heap.size, 3, none⟩) (by first | (simp; done) | (simp; omega)); simp [go_sem] at c_w1_0_3; have f_w1_0_3 := (hb1).frozen (p := ⟨w.heap.size, 3, none⟩) (by first | (simp; done) | (simp; omega)); simp [go_sem] at f_w1_0_3; have c_w1_0_4 := (hb1).cell (p := ⟨w.heap.size, 4, none⟩) (by first | (simp; done) | (simp; omega)); simp [go_sem] at c_w1_0_4; have f_w1_0_4 := (hb1).frozen (p := ⟨w.heap.size, 4, none⟩) (by first | (simp; done) | (simp; omega)); simp [go_sem] at f_w1_0_4) | (go_at_call 61; refine (C.out.c2 _).mono ?_; rintro e w2 ⟨rfl, hb2⟩; have hl_w2_0 : w.heap.size < w2.heap.size := (by have h_ := (hb2).size; (try simp at h_); omega); have c_w2_0_0 := (hb2).cell (p := ⟨w.heap.size, 0, none⟩) (by first | (simp; done) | (simp; omega)); simp [go_sem, c_w1_0_0] at c_w2_0_0; have f_w2_0_0 := (hb2).frozen (p := ⟨w.heap.size, 0, none⟩) (by first | (simp; done) | (simp; omega)); simp [go_sem, f_w1_0_0] at f_w2_0_0; have c_w2_0_1 := (hb2).cell (p := ⟨w.heap.size, 1, none⟩) (by first | (simp; done) | (simp; omega)); simp [go_sem, c_w1_0_1] at c_w2_0_1; have f_w2_0_1 := (hb2).frozen (p := ⟨w.heap.size, 1, none⟩) (by first | (simp; done) | (simp; omega)); simp [go_sem, f_w1_0_1] at f_w2_0_1; have c_w2_0_2 := (hb2).cell (p := ⟨w.heap.size, 2, none⟩) (by first | (simp; done) | (simp; omega)); simp [go_sem, c_w1_0_2] at c_w2_0_2; have f_w2_0_2 := (hb2).frozen (p := ⟨w.heap.size, 2, none⟩) (by first | (simp; done) | (simp; omega)); simp [go_sem, f_w1_0_2] at f_w2_0_2; have c_w2_0_3 := (hb2).cell (p := ⟨w.heap.size, 3, none⟩) (by first | (simp; done) | (simp; omega)); simp [go_sem, c_w1_0_3] at c_w2_0_3; have f_w2_0_3 := (hb2).frozen (p := ⟨w.heap.size, 3, none⟩) (by first | (simp; done) | (simp; omega)); simp [go_sem, f_w1_0_3] at f_w2_0_3; have c_w2_0_4 := (hb2).cell (p := ⟨w.heap.size, 4, none⟩) (by first | (simp; done) | (simp; omega)); simp [go_sem, c_w1_0_4] at c_w2_0_4; have f_w2_0_4 := (hb2).frozen (p := ⟨w.heap.size, 4, none⟩) (by first | (simp; done) | (simp; omega)); simp [go_sem, f_w1_0_4] at f_w2_0_4) | go_skip | go_guarded | go_step | go_upon | (dsimp only [])))
    go_ret2
    exact ⟨by first | (simp; done) | (simp [*]; done), by (repeat first | with_reducible exact Below.refl _ _ | with_reducible assumption | with_reducible refine Below.drew ?_ | with_reducible refine below_alloc ?_ _ | ((with_reducible refine Below.setCell ?_ ?_ _); rotate_left; (focus (first | with_reducible exact Nat.le_refl _ | (simp; done) | (simp; omega) | omega))) | (with_reducible refine below_trans ?_ (by assumption)))⟩)
set_option maxRecDepth 20000 in
set_option maxHeartbeats 1600000 in
theorem RToUint_walk (n : Bool) (a0 a1 a2 a3 z : Int) (m x r : Bool) (w : World) (C : Hid (RtC n a0 a1 a2 a3 m x)) (h : m = false ∧ z = 0 ∧ r = false ∨ m = true ∧ n = true ∧ z = 0 ∧ r = false ∨ m = true ∧ n = false ∧ x = false ∧ z = 0 ∧ r = false ∨ m = true ∧ n = false ∧ x = true ∧ z = a0 ∧ r = true) :
    Calls Tryd.prog 35 #[.agg #[.bool n, .int .u64 a0, .int .u64 a1, .int .u64 a2, .int .u64 a3]] w fun e w' => e = .returned (.tuple #[.int .u64 z, .bool r]) ∧ Below w.heap.size w w' := by
  rcases h with ⟨rfl, rfl, rfl⟩ | ⟨rfl, rfl, rfl, rfl⟩ | ⟨rfl, rfl, rfl, rfl, rfl⟩ | ⟨rfl, rfl, rfl, rfl, rfl⟩
  all_goals (
    go_enter Tryd.func35, Tryd.ntmps35
    (repeat any_goals (first | (go_at_call 16; refine (C.out.c1 _).mono ?_; rintro e w1 ⟨rfl, hb1⟩; have hl_w1_0 : w.heap.size < w1.heap.size := (by have h_ := (hb1).size; simp at h_; omega); have c_w1_0_0 := (hb1).cell (p := ⟨w.heap.size, 0, none⟩) (by first | (simp; done) | (simp; omega)); simp [go_sem] at c_w1_0_0; have f_w1_0_0 := (hb1).frozen (p := ⟨w.heap.size, 0, none⟩) (by first | (simp; done) | (simp; omega)); simp [go_sem] at f_w1_0_0; have c_w1_0_1 := (hb1).cell (p := ⟨w.heap.size, 1, none⟩) (by first | (simp; done) | (simp; omega)); simp [go_sem] at c_w1_0_1; have f_w1_0_1 := (hb1).frozen (p := ⟨w.heap.size, 1, none⟩) (by first | (simp; done) | (simp; omega)); simp [go_sem] at f_w1_0_1; have c_w1_0_2 := (hb1).cell (p := ⟨w.heap.size, 2, none⟩) (by first | (simp; done) | (simp; omega)); simp [go_sem] at c_w1_0_2; have f_w1_0_2 := (hb1).frozen (p := ⟨w.heap.size, 2, none⟩) (by first | (simp; done) | (simp; omega)); simp [go_sem] at f_w1_0_2; have c_w1_0_3 := (hb1).cell (p := ⟨w.heap.size, 3, none⟩) (by first | (simp; done) | (simp; omega)); simp [go_sem] at c_w1_0_3; have f_w1_0_3 := (hb1).frozen (p := ⟨w.heap.size, 3, none⟩) (by first | (simp; done) | (simp; omega)); simp [go_sem] at f_w1_0_3; have c_w1_0_4 := (hb1).cell (p := ⟨w.heap.size, 4, none⟩) (by first | (simp; done) | (simp; omega)); simp [go_sem] at c_w1_0_4; have f_w1_0_4 := (hb1).frozen (p := ⟨w.heap.size, 4, none⟩) (by first | (simp; done) | (simp; omega)); simp [go_sem] at f_w1_0_4) | (go_at_call 61; refine (C.out.c2 _).mono ?_; rintro e w2 ⟨rfl, hb2⟩; have hl_w2_0 : w.heap.size < w2.heap.size := (by have h_ := (hb2).size; (try simp at h_); omega); have c_w2_0_0 := (hb2).cell (p := ⟨w.heap.size, 0, none⟩) (by first | (simp; done) | (simp; omega)); simp [go_sem, c_w1_0_0] at c_w2_0_0; have f_w2_0_0 := (hb2).frozen (p := ⟨w.heap.size, 0, none⟩) (by first | (simp; done) | (simp; omega)); simp [go_sem, f_w1_0_0] at f_w2_0_0; have c_w2_0_1 := (hb2).cell (p := ⟨w.heap.size, 1, none⟩) (by first | (simp; done) | (simp; omega)); simp [go_sem, c_w1_0_1] at c_w2_0_1; have f_w2_0_1 := (hb2).frozen (p := ⟨w.heap.size, 1, none⟩) (by first | (simp; done) | (simp; omega)); simp [go_sem, f_w1_0_1] at f_w2_0_1; have c_w2_0_2 := (hb2).cell (p := ⟨w.heap.size, 2, none⟩) (by first | (simp; done) | (simp; omega)); simp [go_sem, c_w1_0_2] at c_w2_0_2; have f_w2_0_2 := (hb2).frozen (p := ⟨w.heap.size, 2, none⟩) (by first | (simp; done) | (simp; omega)); simp [go_sem, f_w1_0_2] at f_w2_0_2; have c_w2_0_3 := (hb2).cell (p := ⟨w.heap.size, 3, none⟩) (by first | (simp; done) | (simp; omega)); simp [go_sem, c_w1_0_3] at c_w2_0_3; have f_w2_0_3 := (hb2).frozen (p := ⟨w.heap.size, 3, none⟩) (by first | (simp; done) | (simp; omega)); simp [go_sem, f_w1_0_3] at f_w2_0_3; have c_w2_0_4 := (hb2).cell (p := ⟨w.heap.size, 4, none⟩) (by first | (simp; done) | (simp; omega)); simp [go_sem, c_w1_0_4] at c_w2_0_4; have f_w2_0_4 := (hb2).frozen (p := ⟨w.heap.size, 4, none⟩) (by first | (simp; done) | (simp; omega)); simp [go_sem, f_w1_0_4] at f_w2_0_4) | go_skip | go_guarded | go_step | go_upon | (dsimp only [])))
    go_ret2
    exact ⟨by first | (simp; done) | (simp [*]; done), by (repeat first | with_reducible exact Below.refl _ _ | with_reducible assumption | with_reducible refine Below.drew ?_ | with_reducible refine below_alloc ?_ _ | ((with_reducible refine Below.setCell ?_ ?_ _); rotate_left; (focus (first | with_reducible exact Nat.le_refl _ | (simp; done) | (simp; omega) | omega))) | (with_reducible refine below_trans ?_ (by assumption)))⟩)
structure RcC (n : Bool) (V : Nat) (m : Bool) (U : Nat) (x : Int) : Prop where
  c1 : ∀ w : World, Calls Tryd.prog 42 #[.agg #[.int .u64 (lm (V) 0 : Nat), .int .u64 (lm (V) 1 : Nat), .int .u64 (lm (V) 2 : Nat), .int .u64 (lm (V) 3 : Nat)]] w fun e w' => ∃ v, e = .returned v ∧ IsD w' v V ∧ Below w.heap.size w w'
  c2 : ∀ w : World, Calls Tryd.prog 42 #[.agg #[.int .u64 (lm (U) 0 : Nat), .int .u64 (lm (U) 1 : Nat), .int .u64 (lm (U) 2 : Nat), .int .u64 (lm (U) 3 : Nat)]] w fun e w' => ∃ v, e = .returned v ∧ IsD w' v U ∧ Below w.heap.size w w'
  c3 : ∀ (v1 v2 : Value) (w : World), IsD w v1 V → IsD w v2 U → Calls Tryd.prog 57 #[v1, v2] w fun e w' => e = .returned (.int .i64 x) ∧ Below w.heap.size w w'
theorem ibox_new1 {w : World} {n : Bool} {V : Nat} {t : TypeId} {o : Obj} : IBox ((w.alloc o).alloc (.cells #[.bool n, .int .u64 (lm V 0 : Nat), .int .u64 (lm V 1 : Nat), .int .u64 (lm V 2 : Nat), .int .u64 (lm V 3 : Nat)] t)) (w.heap.size + 1) n V := by
  have h := @ibox_new (w.alloc o) n V t
  simpa using h
set_option maxRecDepth 20000 in
set_option maxHeartbeats 1600000 in
theorem RCmp_walk (n : Bool) (V : Nat) (m : Bool) (U : Nat) (x z : Int) (w : World) (C : Hid (RcC n V m U x)) (h : n = true ∧ m = false ∧ z = -1 ∨ n = false ∧ m = true ∧ z = 1) :
    Calls Tryd.prog 37 #[.agg #[.bool (n ), .int .u64 (lm ( V) 0 : Nat), .int .u64 (lm ( V) 1 : Nat), .int .u64 (lm ( V) 2 : Nat), .int .u64 (lm ( V) 3 : Nat)], .agg #[.bool (m ), .int .u64 (lm ( U) 0 : Nat), .int .u64 (lm ( U) 1 : Nat), .int .u64 (lm ( U) 2 : Nat), .int .u64 (lm ( U) 3 : Nat)]] w fun e w' => e = .returned (.int .i64 z) ∧ Below w.heap.size w w' := by
  rcases h with ⟨rfl, rfl, rfl⟩ | ⟨rfl, rfl, rfl⟩
  all_goals (
    go_enter Tryd.func37, Tryd.ntmps37
    (repeat any_goals (first | go_skip | go_guarded | go_step | go_upon | (simp only []; done)))
    go_ret
    exact ⟨by simp, by (repeat first | with_reducible exact Below.refl _ _ | with_reducible assumption | with_reducible refine Below.drew ?_ | with_reducible refine below_alloc ?_ _ | ((with_reducible refine Below.setCell ?_ ?_ _); rotate_left; (focus (first | with_reducible exact Nat.le_refl _ | (simp; done) | (simp; omega) | omega))) | (with_reducible refine below_trans ?_ (by assumption)))⟩)
set_option maxRecDepth 20000 in
set_option maxHeartbeats 1600000 in
theorem RCmp_same (n : Bool) (V U : Nat) (x z : Int) (w : World) (C : Hid (RcC n V n U x)) (h : n = true ∧ wrap64 (-x) = z ∨ n = false ∧ x = z) :
    Calls Tryd.prog 37 #[.agg #[.bool (n ), .int .u64 (lm ( V) 0 : Nat), .int .u64 (lm ( V) 1 : Nat), .int .u64 (lm ( V) 2 : Nat), .int .u64 (lm ( V) 3 : Nat)], .agg #[.bool (n ), .int .u64 (lm ( U) 0 : Nat), .int .u64 (lm ( U) 1 : Nat), .int .u64 (lm ( U) 2 : Nat), .int .u64 (lm ( U) 3 : Nat)]] w fun e w' => e = .returned (.int .i64 z) ∧ Below w.heap.size w w' := by
  go_enter Tryd.func37, Tryd.ntmps37
  go_upto_region 5 with fail
  have X0 := Lib.hid ((@ibox_new w n V 26).alloc (.cells #[.bool n, .int .u64 (lm U 0 : Nat), .int .u64 (lm U 1 : Nat), .int .u64 (lm U 2 : Nat), .int .u64 (lm U 3 : Nat)] 26))
  have Y0 := Lib.hid (@ibox_new1 w n U 26 (.cells #[.bool n, .int .u64 (lm V 0 : Nat), .int .u64 (lm V 1 : Nat), .int .u64 (lm V 2 : Nat), .int .u64 (lm V 3 : Nat)] 26))
  have hW : Below w.heap.size w ((w.alloc (.cells #[.bool n, .int .u64 (lm V 0 : Nat), .int .u64 (lm V 1 : Nat), .int .u64 (lm V 2 : Nat), .int .u64 (lm V 3 : Nat)] 26)).alloc (.cells #[.bool n, .int .u64 (lm U 0 : Nat), .int .u64 (lm U 1 : Nat), .int .u64 (lm U 2 : Nat), .int .u64 (lm U 3 : Nat)] 26)) := by (repeat first | with_reducible exact Below.refl _ _ | with_reducible assumption | with_reducible refine Below.drew ?_ | with_reducible refine below_alloc ?_ _ | ((with_reducible refine Below.setCell ?_ ?_ _); rotate_left; (focus (first | with_reducible exact Nat.le_refl _ | (simp; done) | (simp; omega) | omega))) | (with_reducible refine below_trans ?_ (by assumption)))
  generalize (w.alloc (.cells #[.bool n, .int .u64 (lm V 0 : Nat), .int .u64 (lm V 1 : Nat), .int .u64 (lm V 2 : Nat), .int .u64 (lm V 3 : Nat)] 26)).alloc (.cells #[.bool n, .int .u64 (lm U 0 : Nat), .int .u64 (lm U 1 : Nat), .int .u64 (lm U 2 : Nat), .int .u64 (lm U 3 : Nat)] 26) = w0 at *
  have hq : Below w0.heap.size w0 w0.drew := (Below.refl _ _).drew
  go_region_held3 (fun w' => w'.cell? ⟨w.heap.size, 0, none⟩ = some (.bool n) ∧ w'.cell? ⟨w.heap.size, 1, none⟩ = some (.int .u64 (lm V 0 : Nat)) ∧ w'.cell? ⟨w.heap.size, 2, none⟩ = some (.int .u64 (lm V 1 : Nat)) ∧ w'.cell? ⟨w.heap.size, 3, none⟩ = some (.int .u64 (lm V 2 : Nat)) ∧ w'.cell? ⟨w.heap.size, 4, none⟩ = some (.int .u64 (lm V 3 : Nat)) ∧ w'.cell? ⟨(w.heap.size + 1), 0, none⟩ = some (.bool n) ∧ w'.cell? ⟨(w.heap.size + 1), 1, none⟩ = some (.int .u64 (lm U 0 : Nat)) ∧ w'.cell? ⟨(w.heap.size + 1), 2, none⟩ = some (.int .u64 (lm U 1 : Nat)) ∧ w'.cell? ⟨(w.heap.size + 1), 3, none⟩ = some (.int .u64 (lm U 2 : Nat)) ∧ w'.cell? ⟨(w.heap.size + 1), 4, none⟩ = some (.int .u64 (lm U 3 : Nat))) (first | with_reducible assumption | (have hk_ := hq; with_reducible exact ⟨(X0.out.below hk_).c0, (X0.out.below hk_).c1, (X0.out.below hk_).c2, (X0.out.below hk_).c3, (X0.out.below hk_).c4, (Y0.out.below hk_).c0, (Y0.out.below hk_).c1, (Y0.out.below hk_).c2, (Y0.out.below hk_).c3, (Y0.out.below hk_).c4⟩) | (have hk_ := Below.refl (w0).heap.size (w0); with_reducible exact ⟨(X0.out.below hk_).c0, (X0.out.below hk_).c1, (X0.out.below hk_).c2, (X0.out.below hk_).c3, (X0.out.below hk_).c4, (Y0.out.below hk_).c0, (Y0.out.below hk_).c1, (Y0.out.below hk_).c2, (Y0.out.below hk_).c3, (Y0.out.below hk_).c4⟩) | (have hk_ := (Below.refl (w0).heap.size (w0)).drew; with_reducible exact ⟨(X0.out.below hk_).c0, (X0.out.below hk_).c1, (X0.out.below hk_).c2, (X0.out.below hk_).c3, (X0.out.below hk_).c4, (Y0.out.below hk_).c0, (Y0.out.below hk_).c1, (Y0.out.below hk_).c2, (Y0.out.below hk_).c3, (Y0.out.below hk_).c4⟩)) (first | (go_at_call 42; with_reducible refine (C.out.c1 _).mono ?_; rintro e w1 ⟨u1, rfl, hu1, hb1⟩; (first | have hq := below_trans hq hb1 | have hq := below_trans (Below.refl _ _).drew hb1 | have hq := hb1)) | (go_at_call 42; with_reducible refine (C.out.c2 _).mono ?_; rintro e w2 ⟨u2, rfl, hu2, hb2⟩; (first | have hq := below_trans hq hb2 | have hq := below_trans (Below.refl _ _).drew hb2 | have hq := hb2)) | (go_at_call 57; with_reducible refine (C.out.c3 _ _ _ (hu1.below hb2) hu2).mono ?_; rintro e w3 ⟨rfl, hb3⟩; (first | have hq := below_trans hq hb3 | have hq := below_trans (Below.refl _ _).drew hb3 | have hq := hb3)))
  obtain ⟨_, _, _, _, _⟩ := (X0.out.below hq).all
  rcases h with ⟨rfl, h⟩ | ⟨rfl, h⟩
  all_goals (
    (repeat any_goals (first | go_skip | go_guarded | go_step | go_upon | (simp only []; done)))
    go_ret
    exact ⟨by simp [← h], by (repeat first | with_reducible exact Below.refl _ _ | with_reducible assumption | with_reducible refine Below.drew ?_ | with_reducible refine below_alloc ?_ _ | ((with_reducible refine Below.setCell ?_ ?_ _); rotate_left; (focus (first | with_reducible exact Nat.le_refl _ | (simp; done) | (simp; omega) | omega))) | (with_reducible refine below_trans ?_ (by assumption)))⟩)
/-- **CmpInt**, of those that may be. -/
theorem RCmp_any (n : Bool) (V : Nat) (hV : V < 2 ^ 256) (m : Bool) (U : Nat) (hU : U < 2 ^ 256) (h1 : mayI n V = true) (h2 : mayI m U = true) (w : World) :
    Calls Tryd.prog 37 #[.agg #[.bool (n ), .int .u64 (lm ( V) 0 : Nat), .int .u64 (lm ( V) 1 : Nat), .int .u64 (lm ( V) 2 : Nat), .int .u64 (lm ( V) 3 : Nat)], .agg #[.bool (m ), .int .u64 (lm ( U) 0 : Nat), .int .u64 (lm ( U) 1 : Nat), .int .u64 (lm ( U) 2 : Nat), .int .u64 (lm ( U) 3 : Nat)]] w fun e w' => e = .returned (.int .i64 (cmpI n V m U)) ∧ Below w.heap.size w w' := by
  have C := RcC.mk (n := n) (m := m) (fun w => DOf_any V hV w) (fun w => DOf_any U hU w) (fun v1 v2 w a b => CmpI_any v1 v2 V U w a b)
  have e : cmpI n V m U = cmpZ (zI n V) (zI m U) := by unfold cmpI; rw [h1, h2]; rfl
  rw [e]
  cases n with
  | true =>
    have p1 := may_true.1 h1
    cases m with
    | true =>
      refine RCmp_same true V U _ _ w (Lib.hid C) (.inl ⟨rfl, ?_⟩)
      rw [zI_true, zI_true, cmpZ_neg, cmpV_neg]
      unfold cmpV
      split
      · simp [wrap64]
      · split <;> simp [wrap64]
    | false =>
      refine RCmp_walk true V false U _ _ w (Lib.hid C) (.inl ⟨rfl, rfl, ?_⟩)
      unfold cmpZ
      rw [if_pos (by rw [zI_true, zI_false]; omega)]
  | false =>
    cases m with
    | true =>
      have p2 := may_true.1 h2
      refine RCmp_walk false V true U _ _ w (Lib.hid C) (.inr ⟨rfl, rfl, ?_⟩)
      unfold cmpZ
      rw [if_neg (by rw [zI_true, zI_false]; omega), if_neg (by rw [zI_true, zI_false]; omega)]
    | false => exact RCmp_same false V U _ _ w (Lib.hid C) (.inr ⟨rfl, by rw [zI_false, zI_false, cmpZ_nn]⟩)
/-- **ToInt.** -/
theorem RToInt_any (n : Bool) (V : Nat) (hV : V < 2 ^ 256) (w : World) :
    Calls Tryd.prog 34 #[.agg #[.bool (n ), .int .u64 (lm ( V) 0 : Nat), .int .u64 (lm ( V) 1 : Nat), .int .u64 (lm ( V) 2 : Nat), .int .u64 (lm ( V) 3 : Nat)]] w fun e w' => e = .returned (.tuple #[.int .i64 (toI n V), .bool (toIOk n V)]) ∧ Below w.heap.size w w' := by
  have C := RtC.mk (RMayI_any n V hV) (small_any V hV)
  unfold toI
  cases hm : mayI n V with
  | false =>
    rw [hm] at C
    have e : toIOk n V = false := by unfold toIOk; rw [hm]; rfl
    rw [e, if_neg Bool.false_ne_true]
    exact RToInt_no n _ _ _ _ false _ w (Lib.hid C) (.inl rfl)
  | true =>
    rw [hm] at C
    cases hs : lowOk V with
    | true =>
      rw [hs] at C
      have hlt : V < 18446744073709551616 := of_decide_eq_true hs
      have h0 : (lm V 0 : Nat) = V := lm0_small hs
      cases n with
      | true =>
        have hp := may_true.1 hm
        have e : toIOk true V = decide (V ≤ 9223372036854775808) := by
          unfold toIOk
          rw [hm, Bool.true_and, zI_true, decide_eq_decide]
          omega
        rw [e, zI_true]
        refine RToInt_yes true _ _ _ _ _ _ w (Lib.hid C) ?_
        rw [h0]
        by_cases d : V ≤ 9223372036854775808
        · refine .inr (.inl ⟨rfl, by omega, ?_, decide_eq_true d⟩)
          rw [if_pos (decide_eq_true d), IntKind.wrap_u64]
          simp only [wrap64]
          omega
        · exact .inl ⟨rfl, by omega, if_neg (by rw [decide_eq_true_eq]; exact d), decide_eq_false d⟩
      | false =>
        have e : toIOk false V = decide (V < 9223372036854775808) := by
          unfold toIOk
          rw [hm, Bool.true_and, zI_false, decide_eq_decide]
          omega
        rw [e, zI_false]
        refine RToInt_yes false _ _ _ _ _ _ w (Lib.hid C) ?_
        rw [h0]
        by_cases d : V < 9223372036854775808
        · refine .inr (.inr (.inr ⟨rfl, by omega, ?_, decide_eq_true d⟩))
          rw [if_pos (decide_eq_true d)]
          simp only [wrap64]
          omega
        · exact .inr (.inr (.inl ⟨rfl, by omega, if_neg (by rw [decide_eq_true_eq]; exact d), decide_eq_false d⟩))
    | false =>
      rw [hs] at C
      have hge : ¬ V < 18446744073709551616 := of_decide_eq_false hs
      have e : toIOk n V = false := by
        unfold toIOk
        rw [hm, Bool.true_and]
        refine decide_eq_false ?_
        cases n with
        | true => rw [zI_true]; omega
        | false => rw [zI_false]; omega
      rw [e, if_neg Bool.false_ne_true]
      exact RToInt_no n _ _ _ _ true _ w (Lib.hid C) (.inr ⟨rfl, rfl⟩)
/-- **ToUint.** -/
theorem RToUint_any (n : Bool) (V : Nat) (hV : V < 2 ^ 256) (w : World) :
    Calls Tryd.prog 35 #[.agg #[.bool (n ), .int .u64 (lm ( V) 0 : Nat), .int .u64 (lm ( V) 1 : Nat), .int .u64 (lm ( V) 2 : Nat), .int .u64 (lm ( V) 3 : Nat)]] w fun e w' => e = .returned (.tuple #[.int .u64 (toU n V : Nat), .bool (toUOk n V)]) ∧ Below w.heap.size w w' := by
  have C := RtC.mk (RMayI_any n V hV) (small_any V hV)
  refine RToUint_walk n _ _ _ _ _ _ _ _ w (Lib.hid C) ?_
  unfold toU
  cases n with
  | true =>
    have e : toUOk true V = false := rfl
    rw [e, if_neg Bool.false_ne_true]
    cases mayI true V with
    | false => exact .inl ⟨rfl, rfl, rfl⟩
    | true => exact .inr (.inl ⟨rfl, rfl, rfl, rfl⟩)
  | false =>
    have e : toUOk false V = lowOk V := rfl
    rw [e]
    cases c : lowOk V with
    | true => exact .inr (.inr (.inr ⟨rfl, rfl, rfl, by rw [if_pos rfl, lm0_small c], rfl⟩))
    | false => exact .inr (.inr (.inl ⟨rfl, rfl, rfl, rfl, rfl⟩))
end Go.Proofs.YtbakgmkkebnhkaaDoor
