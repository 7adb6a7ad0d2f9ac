/- The law NatTimes. -/
import Derived.Test.YtbmeejfpaeggjaaDoorTold1
import Derived.Test.YtbmeejfpaeggjaaDoorTail
namespace Go.Proofs.YtbmeejfpaeggjaaDoor
open Go.RowKit
/-- what the law asks of the program -/
structure TimesC (a b M D P S X : Nat) (z : Bool) : Prop where
  c1 : ∀ w : World, Calls Tryd.prog 23 #[.agg #[.int .u64 (lm (a) 0 : Nat), .int .u64 (lm (a) 1 : Nat), .int .u64 (lm (a) 2 : Nat), .int .u64 (lm (a) 3 : Nat)], .int .u64 (M : Int)] w fun e w' => e = .returned (.tuple #[.agg #[.int .u64 (lm (P) 0 : Nat), .int .u64 (lm (P) 1 : Nat), .int .u64 (lm (P) 2 : Nat), .int .u64 (lm (P) 3 : Nat)], .bool true]) ∧ Below w.heap.size w w'
  c2 : ∀ w : World, Calls Tryd.prog 11 #[.agg #[.int .u64 (lm (P) 0 : Nat), .int .u64 (lm (P) 1 : Nat), .int .u64 (lm (P) 2 : Nat), .int .u64 (lm (P) 3 : Nat)], .int .u64 (M : Int)] w fun e w' => e = .returned (.tuple #[.agg #[.int .u64 (lm (a) 0 : Nat), .int .u64 (lm (a) 1 : Nat), .int .u64 (lm (a) 2 : Nat), .int .u64 (lm (a) 3 : Nat)], .int .u64 0, .bool true]) ∧ Below w.heap.size w w'
  c3 : ∀ w : World, Calls Tryd.prog 22 #[.int .u64 (D : Int)] w fun e w' => e = .returned (.agg #[.int .u64 (D : Int), .int .u64 0, .int .u64 0, .int .u64 0]) ∧ Below w.heap.size w w'
  c4 : ∀ w : World, Calls Tryd.prog 24 #[.agg #[.int .u64 (lm (P) 0 : Nat), .int .u64 (lm (P) 1 : Nat), .int .u64 (lm (P) 2 : Nat), .int .u64 (lm (P) 3 : Nat)], .agg #[.int .u64 (D : Int), .int .u64 0, .int .u64 0, .int .u64 0]] w fun e w' => e = .returned (.tuple #[.agg #[.int .u64 (lm (S) 0 : Nat), .int .u64 (lm (S) 1 : Nat), .int .u64 (lm (S) 2 : Nat), .int .u64 (lm (S) 3 : Nat)], .bool true]) ∧ Below w.heap.size w w'
  c5 : ∀ w : World, Calls Tryd.prog 11 #[.agg #[.int .u64 (lm (S) 0 : Nat), .int .u64 (lm (S) 1 : Nat), .int .u64 (lm (S) 2 : Nat), .int .u64 (lm (S) 3 : Nat)], .int .u64 (M : Int)] w fun e w' => e = .returned (.tuple #[.agg #[.int .u64 (lm (a) 0 : Nat), .int .u64 (lm (a) 1 : Nat), .int .u64 (lm (a) 2 : Nat), .int .u64 (lm (a) 3 : Nat)], .int .u64 (D : Int), .bool true]) ∧ Below w.heap.size w w'
  c6 : ∀ w : World, Calls Tryd.prog 24 #[.agg #[.int .u64 (lm (a) 0 : Nat), .int .u64 (lm (a) 1 : Nat), .int .u64 (lm (a) 2 : Nat), .int .u64 (lm (a) 3 : Nat)], .agg #[.int .u64 (lm (b) 0 : Nat), .int .u64 (lm (b) 1 : Nat), .int .u64 (lm (b) 2 : Nat), .int .u64 (lm (b) 3 : Nat)]] w fun e w' => e = .returned (.tuple #[.agg #[.int .u64 (lm (X) 0 : Nat), .int .u64 (lm (X) 1 : Nat), .int .u64 (lm (X) 2 : Nat), .int .u64 (lm (X) 3 : Nat)], .bool true]) ∧ Below w.heap.size w w'
  c7 : ∀ w : World, Calls Tryd.prog 25 #[.agg #[.int .u64 (lm (X) 0 : Nat), .int .u64 (lm (X) 1 : Nat), .int .u64 (lm (X) 2 : Nat), .int .u64 (lm (X) 3 : Nat)], .agg #[.int .u64 (lm (a) 0 : Nat), .int .u64 (lm (a) 1 : Nat), .int .u64 (lm (a) 2 : Nat), .int .u64 (lm (a) 3 : Nat)]] w fun e w' => e = .returned (.tuple #[.agg #[.int .u64 (lm (b) 0 : Nat), .int .u64 (lm (b) 1 : Nat), .int .u64 (lm (b) 2 : Nat), .int .u64 (lm (b) 3 : Nat)], .bool true]) ∧ Below w.heap.size w w'
  c8 : ∀ w : World, Calls Tryd.prog 25 #[.agg #[.int .u64 (lm (a) 0 : Nat), .int .u64 (lm (a) 1 : Nat), .int .u64 (lm (a) 2 : Nat), .int .u64 (lm (a) 3 : Nat)], .agg #[.int .u64 (lm (X) 0 : Nat), .int .u64 (lm (X) 1 : Nat), .int .u64 (lm (X) 2 : Nat), .int .u64 (lm (X) 3 : Nat)]] w fun e w' => e = .returned (.tuple #[.agg #[.int .u64 (lm (0) 0 : Nat), .int .u64 (lm (0) 1 : Nat), .int .u64 (lm (0) 2 : Nat), .int .u64 (lm (0) 3 : Nat)], .bool z]) ∧ Below w.heap.size w w'
  z : (((lm b 0 : Nat) : Int) == 0 && ((lm b 1 : Nat) : Int) == 0 && ((lm b 2 : Nat) : Int) == 0 && ((lm b 3 : Nat) : Int) == 0) = z
theorem lm_low3 (A : Nat) : lm (A % 2 ^ 192) 0 = lm A 0 ∧ lm (A % 2 ^ 192) 1 = lm A 1 ∧ lm (A % 2 ^ 192) 2 = lm A 2 ∧ lm (A % 2 ^ 192) 3 = 0 := by
  unfold lm
  omega
theorem timesC (a b M : Nat) (ha : a < 2 ^ 192) (hb : b < 2 ^ 192) (hM : 0 < M) (hM2 : M < 18446744073709551616) : TimesC a b M (M - 1) (a * M) (a * M + (M - 1)) (a + b) (b == 0) := by
  have hP : (a + 1) * M ≤ 2 ^ 192 * 2 ^ 64 := Nat.mul_le_mul ha (Nat.le_of_lt hM2)
  rw [Nat.add_mul, Nat.one_mul, ← Nat.pow_add] at hP
  have hP2 : a * M < 2 ^ 256 := by omega
  have hS2 : a * M + (M - 1) < 2 ^ 256 := by omega
  have ha2 : a < 2 ^ 256 := by omega
  have hb2 : b < 2 ^ 256 := by omega
  have hX : a + b < 2 ^ 256 := by omega
  refine ⟨fun w => ?_, fun w => ?_, fun w => ?_, fun w => ?_, fun w => ?_, fun w => ?_, fun w => ?_, fun w => ?_, lm_z hb2⟩
  · have h := MulN_any a M ha2 hM2 w
    rw [if_pos hP2, decide_eq_true hP2] at h
    exact h
  · have h := DivN_any (a * M) M hP2 hM hM2 w
    rw [Nat.mul_div_cancel _ hM, Nat.mul_mod_left] at h
    exact h
  · exact Of_any _ w
  · have h := Add_any (a * M) (M - 1) hP2 (by omega) w
    obtain ⟨q0, q1, q2, q3⟩ := lm_small (d := M - 1) (by omega)
    rw [if_pos hS2, decide_eq_true hS2, q0, q1, q2, q3] at h
    exact h
  · have h := DivN_any (a * M + (M - 1)) M hS2 hM hM2 w
    rw [Nat.add_comm (a * M), Nat.add_mul_div_right _ _ hM, Nat.div_eq_of_lt (show M - 1 < M from by omega), Nat.zero_add, Nat.add_mul_mod_self_right, Nat.mod_eq_of_lt (show M - 1 < M from by omega)] at h
    rw [Nat.add_comm (a * M)]
    exact h
  · have h := Add_any a b ha2 hb2 w
    rw [if_pos hX, decide_eq_true hX] at h
    exact h
  · have h := Sub_any (a + b) a hX ha2 w
    rw [Nat.add_sub_cancel_left, decide_eq_true (Nat.le_add_right a b)] at h
    exact h
  · have h := Sub_any a (a + b) ha2 hX w
    rw [Nat.sub_eq_zero_of_le (Nat.le_add_right a b), show decide (a + b ≤ a) = (b == 0) from by rw [Bool.eq_iff_iff, decide_eq_true_eq, beq_iff_eq]; omega] at h
    exact h
set_option maxRecDepth 20000 in
set_option maxHeartbeats 6400000 in
theorem Times_walk (A B m a b M D P S X : Nat) (z : Bool) (C : Hid (TimesC a b M D P S X z)) (hwD : IntKind.u64.wrap ((M : Int) - 1) = (D : Int)) (_hwE : ((D : Int) == (M : Int) - 1) = true) (ha : Hid (lm a 0 = lm A 0 ∧ lm a 1 = lm A 1 ∧ lm a 2 = lm A 2 ∧ lm a 3 = 0)) (hb : Hid (lm b 0 = lm B 0 ∧ lm b 1 = lm B 1 ∧ lm b 2 = lm B 2 ∧ lm b 3 = 0)) (_hm1 : 1 ≤ (M : Int)) (_hm2 : (M : Int) < 18446744073709551616) (hmx : max (m : Int) 1 = (M : Int)) (w : World) (hT : Tabs w) :
    Calls Tryd.prog 6 #[.agg #[.int .u64 (lm (A) 0 : Nat), .int .u64 (lm (A) 1 : Nat), .int .u64 (lm (A) 2 : Nat), .int .u64 (lm (A) 3 : Nat)], .agg #[.int .u64 (lm (B) 0 : Nat), .int .u64 (lm (B) 1 : Nat), .int .u64 (lm (B) 2 : Nat), .int .u64 (lm (B) 3 : Nat)], .int .u64 (m : Int)] w fun e w' => e = .returned (.bool true) ∧ Below w.heap.size w w' := by
  have T0 := Lib.hid hT
  have hz := C.out.z
  clear hT
  go_enter Tryd.func6, Tryd.ntmps6
  go_upto_region 3 with fail
  have X0 : Box ((w.alloc (.cells #[.int .u64 (lm A 0 : Nat), .int .u64 (lm A 1 : Nat), .int .u64 (lm A 2 : Nat), .int .u64 0] 24)).alloc (.cells #[.int .u64 (lm B 0 : Nat), .int .u64 (lm B 1 : Nat), .int .u64 (lm B 2 : Nat), .int .u64 0] 24)) w.heap.size a :=
    ⟨by simp [go_sem, ha.out.1], by simp [go_sem, ha.out.2.1], by simp [go_sem, ha.out.2.2.1], by simp [go_sem, ha.out.2.2.2], by simp; omega⟩
  have Y0 : Box ((w.alloc (.cells #[.int .u64 (lm A 0 : Nat), .int .u64 (lm A 1 : Nat), .int .u64 (lm A 2 : Nat), .int .u64 0] 24)).alloc (.cells #[.int .u64 (lm B 0 : Nat), .int .u64 (lm B 1 : Nat), .int .u64 (lm B 2 : Nat), .int .u64 0] 24)) (w.heap.size + 1) b :=
    ⟨by simp [go_sem, hb.out.1], by simp [go_sem, hb.out.2.1], by simp [go_sem, hb.out.2.2.1], by simp [go_sem, hb.out.2.2.2], by simp⟩
  have T1 := Lib.hid ((T0.out.alloc (.cells #[.int .u64 (lm A 0 : Nat), .int .u64 (lm A 1 : Nat), .int .u64 (lm A 2 : Nat), .int .u64 0] 24)).alloc (.cells #[.int .u64 (lm B 0 : Nat), .int .u64 (lm B 1 : Nat), .int .u64 (lm B 2 : Nat), .int .u64 0] 24))
  have hW : Below w.heap.size w ((w.alloc (.cells #[.int .u64 (lm A 0 : Nat), .int .u64 (lm A 1 : Nat), .int .u64 (lm A 2 : Nat), .int .u64 0] 24)).alloc (.cells #[.int .u64 (lm B 0 : Nat), .int .u64 (lm B 1 : Nat), .int .u64 (lm B 2 : Nat), .int .u64 0] 24)) := by (repeat first | with_reducible exact Below.refl _ _ | with_reducible assumption | with_reducible refine Below.drew ?_ | with_reducible refine below_alloc ?_ _ | ((with_reducible refine Below.setCell ?_ ?_ _); rotate_left; (focus (first | with_reducible exact Nat.le_refl _ | (simp; done) | (simp; omega) | omega))) | (with_reducible refine below_trans ?_ (by assumption)))
  generalize ((w.alloc (.cells #[.int .u64 (lm A 0 : Nat), .int .u64 (lm A 1 : Nat), .int .u64 (lm A 2 : Nat), .int .u64 0] 24)).alloc (.cells #[.int .u64 (lm B 0 : Nat), .int .u64 (lm B 1 : Nat), .int .u64 (lm B 2 : Nat), .int .u64 0] 24)) = w0 at *
  obtain ⟨_, _, _, _, _⟩ := X0.all
  obtain ⟨_, _, _, _, _⟩ := Y0.all
  have X1 := Lib.hid X0
  have Y1 := Lib.hid Y0
  clear X0 Y0 ha hb
  go_upto_region 5 with (first | (go_at_call 23; with_reducible refine (C.out.c1 _).mono ?_; rintro e w1 ⟨rfl, hb1⟩; (first | have X2 := Lib.hid (X1.out.below hb1) | have X2 := Lib.hid (X1.out.step hb1)); obtain ⟨_, _, _, _, _⟩ := X2.out.all; (first | have Y2 := Lib.hid (Y1.out.below hb1) | have Y2 := Lib.hid (Y1.out.step hb1)); obtain ⟨_, _, _, _, _⟩ := Y2.out.all; (first | have T2 := Lib.hid (T1.out.below hb1) | have T2 := Lib.hid (T1.out.step hb1))) | (go_at_call 11; with_reducible refine (C.out.c2 _).mono ?_; rintro e w2 ⟨rfl, hb2⟩; have P3 := Lib.hid (box_hb hb2); obtain ⟨_, _, _, _, _⟩ := P3.out.all; (first | have X3 := Lib.hid (X2.out.below hb2) | have X3 := Lib.hid (X2.out.step hb2)); obtain ⟨_, _, _, _, _⟩ := X3.out.all; (first | have Y3 := Lib.hid (Y2.out.below hb2) | have Y3 := Lib.hid (Y2.out.step hb2)); obtain ⟨_, _, _, _, _⟩ := Y3.out.all; (first | have T3 := Lib.hid (T2.out.below hb2) | have T3 := Lib.hid (T2.out.step hb2))))
  have P4 : Box (w2.alloc (.cells #[.int .u64 (lm a 0 : Nat), .int .u64 (lm a 1 : Nat), .int .u64 (lm a 2 : Nat), .int .u64 (lm a 3 : Nat)] 24)) w1.heap.size P := P3.out.alloc _
  have X4 : Box (w2.alloc (.cells #[.int .u64 (lm a 0 : Nat), .int .u64 (lm a 1 : Nat), .int .u64 (lm a 2 : Nat), .int .u64 (lm a 3 : Nat)] 24)) w.heap.size a := X3.out.alloc _
  have Y4 : Box (w2.alloc (.cells #[.int .u64 (lm a 0 : Nat), .int .u64 (lm a 1 : Nat), .int .u64 (lm a 2 : Nat), .int .u64 (lm a 3 : Nat)] 24)) (w.heap.size + 1) b := Y3.out.alloc _
  have Q4 : Box (w2.alloc (.cells #[.int .u64 (lm a 0 : Nat), .int .u64 (lm a 1 : Nat), .int .u64 (lm a 2 : Nat), .int .u64 (lm a 3 : Nat)] 24)) w2.heap.size a := box_new
  have T4 : Tabs (w2.alloc (.cells #[.int .u64 (lm a 0 : Nat), .int .u64 (lm a 1 : Nat), .int .u64 (lm a 2 : Nat), .int .u64 (lm a 3 : Nat)] 24)) := T3.out.alloc _
  have hW4 : Below w.heap.size w (w2.alloc (.cells #[.int .u64 (lm a 0 : Nat), .int .u64 (lm a 1 : Nat), .int .u64 (lm a 2 : Nat), .int .u64 (lm a 3 : Nat)] 24)) := by (repeat first | with_reducible exact Below.refl _ _ | with_reducible assumption | with_reducible refine Below.drew ?_ | with_reducible refine below_alloc ?_ _ | ((with_reducible refine Below.setCell ?_ ?_ _); rotate_left; (focus (first | with_reducible exact Nat.le_refl _ | (simp; done) | (simp; omega) | omega))) | (with_reducible refine below_trans ?_ (by assumption)))
  generalize w2.alloc (.cells #[.int .u64 (lm a 0 : Nat), .int .u64 (lm a 1 : Nat), .int .u64 (lm a 2 : Nat), .int .u64 (lm a 3 : Nat)] 24) = w3 at *
  go_cut [12, 13] (fun s12 s13 wx => ∃ k : Nat, s12 = .pointer (some ⟨k, 0, none⟩) ∧ s13 = .bool true ∧ Box wx k S ∧ Below w3.heap.size w3 wx)
  case first =>
    have X5 := Lib.hid X4
    obtain ⟨p0, p1, p2, p3, p4⟩ := P4.all
    clear X1 X2 X3 Y1 Y2 Y3 T1 T2 T3 P3
    have hS0 := keepB P4 (Below.refl _ _).drew
    go_region_held3 (fun w' => w'.cell? ⟨w1.heap.size, 0, none⟩ = some (.int .u64 (lm P 0 : Nat)) ∧ w'.cell? ⟨w1.heap.size, 1, none⟩ = some (.int .u64 (lm P 1 : Nat)) ∧ w'.cell? ⟨w1.heap.size, 2, none⟩ = some (.int .u64 (lm P 2 : Nat)) ∧ w'.cell? ⟨w1.heap.size, 3, none⟩ = some (.int .u64 (lm P 3 : Nat)) ∧ w1.heap.size < w'.heap.size ∧ Below w3.heap.size w3 w') (first | with_reducible assumption | with_reducible exact keepS (by assumption) (by assumption) | with_reducible exact keepN (by assumption) _ | with_reducible exact keepN S5 _ | with_reducible exact keepB P4 (below_alloc (Below.refl _ _) _).drew | with_reducible exact keepC p4 (by first | exact Nat.le_refl _ | assumption | exact hb4.size | exact S4.2.2.2.2.2.size | exact S5.2.2.2.2.2.size) (by assumption)) (first | (go_at_call 22; with_reducible refine (C.out.c3 _).mono ?_; rintro e w4 ⟨rfl, hb4⟩; (first | have Z4 := zb_hb hb4 | have Z4 := zb_hd hb4 | skip); (first | have S4 := keepS (keepB P4 (below_alloc (Below.refl _ _) _).drew) hb4 | have S4 := keepS hS0 hb4 | have S4 := keepS (keepN hS0 _) hb4)) | (go_at_call 24; with_reducible refine (C.out.c4 _).mono ?_; rintro e w5 ⟨rfl, hb5⟩; (first | have Z5 := zb_hb hb5 | have Z5 := Z4.below hb5 | skip); (first | have S5 := keepS S4 hb5 | have S5 := keepS (keepN S4 _) hb5); (try obtain ⟨⟨_, _, _, _⟩, ⟨_, _, _, _⟩, _⟩ := Z5.all)))
    all_goals (have hk4 := S4.2.2.2.2.2.size; have hS5 := S5.2.2.2.2.2; (repeat any_goals (first | go_skip | go_guarded | go_step | go_upon | (simp only []; done))); go_meet; case rel => first | exact ⟨_, rfl, rfl, box_new, by (repeat first | with_reducible exact Below.refl _ _ | with_reducible assumption | with_reducible refine Below.drew ?_ | with_reducible refine below_alloc ?_ _ | ((with_reducible refine Below.setCell ?_ ?_ _); rotate_left; (focus (first | with_reducible exact Nat.le_refl _ | (simp; done) | (simp; omega) | omega))) | (with_reducible refine below_trans ?_ (by assumption)))⟩ | exact ⟨_, rfl, rfl, Z5.set, by (repeat first | with_reducible exact Below.refl _ _ | with_reducible assumption | with_reducible refine Below.drew ?_ | with_reducible refine below_alloc ?_ _ | ((with_reducible refine Below.setCell ?_ ?_ _); rotate_left; (focus (first | with_reducible exact Nat.le_refl _ | (simp; done) | (simp; omega) | omega))) | (with_reducible refine below_trans ?_ (by assumption)))⟩)
  case rest =>
    obtain ⟨k, rfl, rfl, S6, hb6⟩ := hcut
    have X6 := Lib.hid (X4.below hb6)
    have Y6 := Lib.hid (Y4.below hb6)
    have Q6 := Lib.hid (Q4.below hb6)
    have T6 := Lib.hid (T4.below hb6)
    have hW6 := below_trans hW4 hb6
    clear X1 X2 X3 Y1 Y2 Y3 T1 T2 T3 P3 P4 X4 Y4 Q4 T4 hb6 hW4
    obtain ⟨_, _, _, _, _⟩ := S6.all
    obtain ⟨_, _, _, _, _⟩ := X6.out.all
    obtain ⟨_, _, _, _, _⟩ := Y6.out.all
    obtain ⟨_, _, _, _, _⟩ := Q6.out.all
    repeat any_goals (first | (go_at_call 11; with_reducible refine (C.out.c5 _).mono ?_; rintro e w7 ⟨rfl, hb7⟩; (first | have X7 := Lib.hid (X6.out.below hb7) | have X7 := Lib.hid (X6.out.step hb7)); obtain ⟨_, _, _, _, _⟩ := X7.out.all; (first | have Y7 := Lib.hid (Y6.out.below hb7) | have Y7 := Lib.hid (Y6.out.step hb7)); obtain ⟨_, _, _, _, _⟩ := Y7.out.all; (first | have Q7 := Lib.hid (Q6.out.below hb7) | have Q7 := Lib.hid (Q6.out.step hb7)); obtain ⟨_, _, _, _, _⟩ := Q7.out.all; (first | have T7 := Lib.hid (T6.out.below hb7) | have T7 := Lib.hid (T6.out.step hb7))) | (go_at_call 24; with_reducible refine (C.out.c6 _).mono ?_; rintro e w8 ⟨rfl, hb8⟩; have R8 := Lib.hid (box_hb hb8); obtain ⟨_, _, _, _, _⟩ := R8.out.all; (first | have X8 := Lib.hid (X7.out.below hb8) | have X8 := Lib.hid (X7.out.step hb8)); obtain ⟨_, _, _, _, _⟩ := X8.out.all; (first | have Y8 := Lib.hid (Y7.out.below hb8) | have Y8 := Lib.hid (Y7.out.step hb8)); obtain ⟨_, _, _, _, _⟩ := Y8.out.all; (first | have Q8 := Lib.hid (Q7.out.below hb8) | have Q8 := Lib.hid (Q7.out.step hb8)); obtain ⟨_, _, _, _, _⟩ := Q8.out.all; (first | have T8 := Lib.hid (T7.out.below hb8) | have T8 := Lib.hid (T7.out.step hb8))) | (go_at_call 25; with_reducible refine (C.out.c7 _).mono ?_; rintro e w9 ⟨rfl, hb9⟩; have U9 := Lib.hid (box_hb hb9); obtain ⟨_, _, _, _, _⟩ := U9.out.all; (first | have R9 := Lib.hid (R8.out.below hb9) | have R9 := Lib.hid (R8.out.step hb9)); obtain ⟨_, _, _, _, _⟩ := R9.out.all; (first | have X9 := Lib.hid (X8.out.below hb9) | have X9 := Lib.hid (X8.out.step hb9)); obtain ⟨_, _, _, _, _⟩ := X9.out.all; (first | have Y9 := Lib.hid (Y8.out.below hb9) | have Y9 := Lib.hid (Y8.out.step hb9)); obtain ⟨_, _, _, _, _⟩ := Y9.out.all; (first | have Q9 := Lib.hid (Q8.out.below hb9) | have Q9 := Lib.hid (Q8.out.step hb9)); obtain ⟨_, _, _, _, _⟩ := Q9.out.all; (first | have T9 := Lib.hid (T8.out.below hb9) | have T9 := Lib.hid (T8.out.step hb9))) | (go_at_call 25; with_reducible refine (C.out.c8 _).mono ?_; rintro e wa ⟨rfl, hba⟩; have Da := Lib.hid (box_hb hba); obtain ⟨_, _, _, _, _⟩ := Da.out.all; (first | have Ra := Lib.hid (R9.out.below hba) | have Ra := Lib.hid (R9.out.step hba)); obtain ⟨_, _, _, _, _⟩ := Ra.out.all; (first | have Xa := Lib.hid (X9.out.below hba) | have Xa := Lib.hid (X9.out.step hba)); obtain ⟨_, _, _, _, _⟩ := Xa.out.all; (first | have Ya := Lib.hid (Y9.out.below hba) | have Ya := Lib.hid (Y9.out.step hba)); obtain ⟨_, _, _, _, _⟩ := Ya.out.all; (first | have Qa := Lib.hid (Q9.out.below hba) | have Qa := Lib.hid (Q9.out.step hba)); obtain ⟨_, _, _, _, _⟩ := Qa.out.all; (first | have Ta := Lib.hid (T9.out.below hba) | have Ta := Lib.hid (T9.out.step hba))) | (go_at_call 12; with_reducible refine (told_any _ (Ta.out.alloc _)).mono ?_; rintro e wb ⟨rfl, hbb⟩; (first | have Db := Lib.hid (Da.out.below hbb) | have Db := Lib.hid (Da.out.step hbb)); obtain ⟨_, _, _, _, _⟩ := Db.out.all; (first | have Rb := Lib.hid (Ra.out.below hbb) | have Rb := Lib.hid (Ra.out.step hbb)); obtain ⟨_, _, _, _, _⟩ := Rb.out.all; (first | have Xb := Lib.hid (Xa.out.below hbb) | have Xb := Lib.hid (Xa.out.step hbb)); obtain ⟨_, _, _, _, _⟩ := Xb.out.all; (first | have Yb := Lib.hid (Ya.out.below hbb) | have Yb := Lib.hid (Ya.out.step hbb)); obtain ⟨_, _, _, _, _⟩ := Yb.out.all; (first | have Qb := Lib.hid (Qa.out.below hbb) | have Qb := Lib.hid (Qa.out.step hbb)); obtain ⟨_, _, _, _, _⟩ := Qb.out.all) | go_skip | go_guarded | go_step | go_upon | (dsimp only []))
    go_ret
    exact ⟨by simp, by (repeat first | with_reducible exact Below.refl _ _ | with_reducible assumption | with_reducible refine Below.drew ?_ | with_reducible refine below_alloc ?_ _ | ((with_reducible refine Below.setCell ?_ ?_ _); rotate_left; (focus (first | with_reducible exact Nat.le_refl _ | (simp; done) | (simp; omega) | omega))) | (with_reducible refine below_trans ?_ (by assumption)))⟩
/-- **NatTimes answers true.** -/
theorem Times_any (A B m : Nat) (_hA : A < 2 ^ 256) (_hB : B < 2 ^ 256) (hm : m < 18446744073709551616) (w : World) (hT : Tabs w) :
    Calls Tryd.prog 6 #[.agg #[.int .u64 (lm (A) 0 : Nat), .int .u64 (lm (A) 1 : Nat), .int .u64 (lm (A) 2 : Nat), .int .u64 (lm (A) 3 : Nat)], .agg #[.int .u64 (lm (B) 0 : Nat), .int .u64 (lm (B) 1 : Nat), .int .u64 (lm (B) 2 : Nat), .int .u64 (lm (B) 3 : Nat)], .int .u64 (m : Int)] w fun e w' => e = .returned (.bool true) ∧ Below w.heap.size w w' := by
  obtain ⟨M, hM⟩ : ∃ M : Nat, max (m : Int) 1 = (M : Int) := ⟨max m 1, by omega⟩
  have h1 : 1 ≤ (M : Int) := by omega
  have h2 : (M : Int) < 18446744073709551616 := by omega
  refine Times_walk A B m (A % 2 ^ 192) (B % 2 ^ 192) M (M - 1) _ _ _ _ (Lib.hid (timesC _ _ M (Nat.mod_lt _ (by decide)) (Nat.mod_lt _ (by decide)) (by omega) (by omega))) ?_ ?_ (Lib.hid (lm_low3 A)) (Lib.hid (lm_low3 B)) h1 h2 hM w hT
  · rw [IntKind.wrap_u64]
    omega
  · rw [beq_iff_eq]
    omega
end Go.Proofs.YtbmeejfpaeggjaaDoor
