/- The law NatLaws. -/
import Derived.Test.YtbmeejfpaeggjaaDoorTold1
import Derived.Deep.QuietTactic
import Derived.BigQuiet
import Derived.Laws.BitsAllLaws
namespace Go.Proofs.YtbmeejfpaeggjaaDoor
open Go.RowKit
/-- a region whose operations only read in a class of worlds, which its calls keep -/
theorem wp_region_quiet_cls {P : Program} {C : World → Prop} {id : Nat} {Q : Exit → Act → World → Prop} {a : Act} {w : World} {l : List Oper} (hm : P.follows .mixedOrders = true) (hB : Region.lexB .any l.toArray = true) (hC : C w.drew)
    (h : wpQuiet P l.toArray C (fun a' => ∀ w', C w' → Q .normal a' w') l a) : (Code.region id l.toArray true).wp P Q a w :=
  wp_region_quiet hm hB hC (by simpa using h)
/-- what the law asks of the program -/
structure LawsC (a b c n X Wn Z L : Nat) (lt : Bool) : Prop where
  c1 : ∀ w : World, Calls Tryd.prog 24 #[.agg #[.int .u64 (lm (a) 0 : Nat), .int .u64 (lm (a) 1 : Nat), .int .u64 (lm (a) 2 : Nat), .int .u64 (lm (a) 3 : Nat)], .agg #[.int .u64 (lm (b) 0 : Nat), .int .u64 (lm (b) 1 : Nat), .int .u64 (lm (b) 2 : Nat), .int .u64 (lm (b) 3 : Nat)]] w fun e w' => e = .returned (.tuple #[.agg #[.int .u64 (lm (X) 0 : Nat), .int .u64 (lm (X) 1 : Nat), .int .u64 (lm (X) 2 : Nat), .int .u64 (lm (X) 3 : Nat)], .bool true]) ∧ Below w.heap.size w w'
  c2 : ∀ w : World, Calls Tryd.prog 24 #[.agg #[.int .u64 (lm (b) 0 : Nat), .int .u64 (lm (b) 1 : Nat), .int .u64 (lm (b) 2 : Nat), .int .u64 (lm (b) 3 : Nat)], .agg #[.int .u64 (lm (a) 0 : Nat), .int .u64 (lm (a) 1 : Nat), .int .u64 (lm (a) 2 : Nat), .int .u64 (lm (a) 3 : Nat)]] w fun e w' => e = .returned (.tuple #[.agg #[.int .u64 (lm (X) 0 : Nat), .int .u64 (lm (X) 1 : Nat), .int .u64 (lm (X) 2 : Nat), .int .u64 (lm (X) 3 : Nat)], .bool true]) ∧ Below w.heap.size w w'
  c3 : ∀ w : World, Calls Tryd.prog 24 #[.agg #[.int .u64 (lm (X) 0 : Nat), .int .u64 (lm (X) 1 : Nat), .int .u64 (lm (X) 2 : Nat), .int .u64 (lm (X) 3 : Nat)], .agg #[.int .u64 (lm (c) 0 : Nat), .int .u64 (lm (c) 1 : Nat), .int .u64 (lm (c) 2 : Nat), .int .u64 (lm (c) 3 : Nat)]] w fun e w' => e = .returned (.tuple #[.agg #[.int .u64 (lm (Z) 0 : Nat), .int .u64 (lm (Z) 1 : Nat), .int .u64 (lm (Z) 2 : Nat), .int .u64 (lm (Z) 3 : Nat)], .bool true]) ∧ Below w.heap.size w w'
  c4 : ∀ w : World, Calls Tryd.prog 24 #[.agg #[.int .u64 (lm (b) 0 : Nat), .int .u64 (lm (b) 1 : Nat), .int .u64 (lm (b) 2 : Nat), .int .u64 (lm (b) 3 : Nat)], .agg #[.int .u64 (lm (c) 0 : Nat), .int .u64 (lm (c) 1 : Nat), .int .u64 (lm (c) 2 : Nat), .int .u64 (lm (c) 3 : Nat)]] w fun e w' => e = .returned (.tuple #[.agg #[.int .u64 (lm (Wn) 0 : Nat), .int .u64 (lm (Wn) 1 : Nat), .int .u64 (lm (Wn) 2 : Nat), .int .u64 (lm (Wn) 3 : Nat)], .bool true]) ∧ Below w.heap.size w w'
  c5 : ∀ w : World, Calls Tryd.prog 24 #[.agg #[.int .u64 (lm (a) 0 : Nat), .int .u64 (lm (a) 1 : Nat), .int .u64 (lm (a) 2 : Nat), .int .u64 (lm (a) 3 : Nat)], .agg #[.int .u64 (lm (Wn) 0 : Nat), .int .u64 (lm (Wn) 1 : Nat), .int .u64 (lm (Wn) 2 : Nat), .int .u64 (lm (Wn) 3 : Nat)]] w fun e w' => e = .returned (.tuple #[.agg #[.int .u64 (lm (Z) 0 : Nat), .int .u64 (lm (Z) 1 : Nat), .int .u64 (lm (Z) 2 : Nat), .int .u64 (lm (Z) 3 : Nat)], .bool true]) ∧ Below w.heap.size w w'
  c6 : ∀ w : World, Calls Tryd.prog 25 #[.agg #[.int .u64 (lm (X) 0 : Nat), .int .u64 (lm (X) 1 : Nat), .int .u64 (lm (X) 2 : Nat), .int .u64 (lm (X) 3 : Nat)], .agg #[.int .u64 (lm (b) 0 : Nat), .int .u64 (lm (b) 1 : Nat), .int .u64 (lm (b) 2 : Nat), .int .u64 (lm (b) 3 : Nat)]] w fun e w' => e = .returned (.tuple #[.agg #[.int .u64 (lm (a) 0 : Nat), .int .u64 (lm (a) 1 : Nat), .int .u64 (lm (a) 2 : Nat), .int .u64 (lm (a) 3 : Nat)], .bool true]) ∧ Below w.heap.size w w'
  c7 : ∀ (j : Nat) (_ : j < n) (w : World), Calls Tryd.prog 23 #[.agg #[.int .u64 (lm (a * 2 ^ j) 0 : Nat), .int .u64 (lm (a * 2 ^ j) 1 : Nat), .int .u64 (lm (a * 2 ^ j) 2 : Nat), .int .u64 (lm (a * 2 ^ j) 3 : Nat)], .int .u64 2] w fun e w' => e = .returned (.tuple #[.agg #[.int .u64 (lm (a * 2 ^ (j + 1)) 0 : Nat), .int .u64 (lm (a * 2 ^ (j + 1)) 1 : Nat), .int .u64 (lm (a * 2 ^ (j + 1)) 2 : Nat), .int .u64 (lm (a * 2 ^ (j + 1)) 3 : Nat)], .bool true]) ∧ Below w.heap.size w w'
  c8 : ∀ w : World, Calls Tryd.prog 27 #[.agg #[.int .u64 (lm (a) 0 : Nat), .int .u64 (lm (a) 1 : Nat), .int .u64 (lm (a) 2 : Nat), .int .u64 (lm (a) 3 : Nat)], .int .i64 (n : Int)] w fun e w' => e = .returned (.tuple #[.agg #[.int .u64 (lm (L) 0 : Nat), .int .u64 (lm (L) 1 : Nat), .int .u64 (lm (L) 2 : Nat), .int .u64 (lm (L) 3 : Nat)], .bool true]) ∧ Below w.heap.size w w'
  c9 : ∀ w : World, Calls Tryd.prog 29 #[.agg #[.int .u64 (lm (L) 0 : Nat), .int .u64 (lm (L) 1 : Nat), .int .u64 (lm (L) 2 : Nat), .int .u64 (lm (L) 3 : Nat)], .int .i64 (n : Int)] w fun e w' => e = .returned (.agg #[.int .u64 (lm (a) 0 : Nat), .int .u64 (lm (a) 1 : Nat), .int .u64 (lm (a) 2 : Nat), .int .u64 (lm (a) 3 : Nat)]) ∧ Below w.heap.size w w'
  ca : ∀ w : World, Calls Tryd.prog 32 #[.agg #[.int .u64 (lm (a) 0 : Nat), .int .u64 (lm (a) 1 : Nat), .int .u64 (lm (a) 2 : Nat), .int .u64 (lm (a) 3 : Nat)], .agg #[.int .u64 (lm (b) 0 : Nat), .int .u64 (lm (b) 1 : Nat), .int .u64 (lm (b) 2 : Nat), .int .u64 (lm (b) 3 : Nat)]] w fun e w' => e = .returned (.int .i64 (cmpV a b)) ∧ Below w.heap.size w w'
  cb : ∀ w : World, Calls Tryd.prog 32 #[.agg #[.int .u64 (lm (b) 0 : Nat), .int .u64 (lm (b) 1 : Nat), .int .u64 (lm (b) 2 : Nat), .int .u64 (lm (b) 3 : Nat)], .agg #[.int .u64 (lm (a) 0 : Nat), .int .u64 (lm (a) 1 : Nat), .int .u64 (lm (a) 2 : Nat), .int .u64 (lm (a) 3 : Nat)]] w fun e w' => e = .returned (.int .i64 (cmpV b a)) ∧ Below w.heap.size w w'
  lt1 : decide (cmpV a b < 0) = lt
  lt2 : decide (0 < cmpV b a) = lt
  lL : L = a * 2 ^ n
theorem lawsC (a b c n : Nat) (ha : a < 2 ^ 200) (hb : b < 2 ^ 200) (hc : c < 2 ^ 200) (hn : n ≤ 50) : LawsC a b c n (a + b) (b + c) (a + b + c) (a * 2 ^ n) (decide (a < b)) := by
  have ha2 : a < 2 ^ 256 := by omega
  have hb2 : b < 2 ^ 256 := by omega
  have hc2 : c < 2 ^ 256 := by omega
  have hab : a + b < 2 ^ 256 := by omega
  have hbc : b + c < 2 ^ 256 := by omega
  have habc : a + b + c < 2 ^ 256 := by omega
  have hp : ∀ j, j ≤ 50 → a * 2 ^ j < 2 ^ 256 := fun j hj => by
    have h1 : (2 : Nat) ^ j ≤ 2 ^ 50 := Nat.pow_le_pow_right (by decide) hj
    have h2 : a * 2 ^ j ≤ 2 ^ 200 * 2 ^ 50 := Nat.mul_le_mul (Nat.le_of_lt ha) h1
    rw [← Nat.pow_add] at h2
    exact Nat.lt_of_le_of_lt h2 (by decide)
  refine ⟨fun w => ?_, fun w => ?_, fun w => ?_, fun w => ?_, fun w => ?_, fun w => ?_, fun j hj w => ?_, fun w => ?_, fun w => ?_, fun w => CmpN_any a b ha2 hb2 w, fun w => CmpN_any b a hb2 ha2 w, ?_, ?_, rfl⟩
  · have h := Add_any a b ha2 hb2 w
    rw [if_pos hab, decide_eq_true hab] at h
    exact h
  · have h := Add_any b a hb2 ha2 w
    rw [Nat.add_comm b a, if_pos hab, decide_eq_true hab] at h
    exact h
  · have h := Add_any (a + b) c hab hc2 w
    rw [if_pos habc, decide_eq_true habc] at h
    exact h
  · have h := Add_any b c hb2 hc2 w
    rw [if_pos hbc, decide_eq_true hbc] at h
    exact h
  · have h := Add_any a (b + c) ha2 hbc w
    rw [← Nat.add_assoc, if_pos habc, decide_eq_true habc] at h
    exact h
  · have h := Sub_any (a + b) b hab hb2 w
    rw [Nat.add_sub_cancel, decide_eq_true (Nat.le_add_left b a)] at h
    exact h
  · have h1 := hp (j + 1) (by omega)
    have h2 : a * 2 ^ j * 2 = a * 2 ^ (j + 1) := by
      rw [Nat.mul_assoc]
      rfl
    have h := MulN_any (a * 2 ^ j) 2 (hp j (by omega)) (by decide) w
    rw [h2, if_pos h1, decide_eq_true h1] at h
    exact h
  · have h := ShlV_any a ha2 n w (by omega) (by omega)
    have hok : shlOk a n = true := by
      by_cases h0 : a = 0
      · unfold shlOk
        exact decide_eq_true ⟨by omega, .inl h0⟩
      · exact (shlOk_iff (Nat.pos_of_ne_zero h0)).2 ⟨by omega, hp n hn⟩
    rw [show shlV a n = a * 2 ^ n from by unfold shlV; rw [if_pos hok]; rfl, hok] at h
    exact h
  · have h := Shr_any (a * 2 ^ n) n (hp n hn) w (by omega)
    rw [Nat.mul_div_cancel _ (Nat.two_pow_pos n)] at h
    exact h
  · unfold cmpV
    by_cases h : a < b
    · rw [if_pos h, decide_eq_true h]
      rfl
    · rw [if_neg h, decide_eq_false h]
      split <;> rfl
  · unfold cmpV
    by_cases h : a < b
    · rw [if_neg (by omega), if_pos h, decide_eq_true h]
      rfl
    · rw [decide_eq_false h, if_neg h]
      split <;> rfl
set_option maxRecDepth 20000 in
set_option maxHeartbeats 3200000 in
theorem Laws_walk (A B C : Nat) (k : Int) (x y z x' y' z' a b c n X Wn Z L : Nat) (lt : Bool) (K : Hid (LawsC a b c n X Wn Z L lt)) (hn : wrap64 ((IntKind.u64.wrap k).tmod 51) = (n : Int)) (n0 : (n : Int) ≤ 50) (hx : x = lm A 3) (hy : y = lm B 3) (hz : z = lm C 3) (ex : bits BinOp.and IntKind.u64 (x : Int) 255 = (x' : Int)) (ey : bits BinOp.and IntKind.u64 (y : Int) 255 = (y' : Int)) (ez : bits BinOp.and IntKind.u64 (z : Int) 255 = (z' : Int))
    (ha : Hid (lm a 0 = lm A 0 ∧ lm a 1 = lm A 1 ∧ lm a 2 = lm A 2 ∧ lm a 3 = x')) (hb : Hid (lm b 0 = lm B 0 ∧ lm b 1 = lm B 1 ∧ lm b 2 = lm B 2 ∧ lm b 3 = y')) (hc : Hid (lm c 0 = lm C 0 ∧ lm c 1 = lm C 1 ∧ lm c 2 = lm C 2 ∧ lm c 3 = z')) (w : World) (hT : Tabs w) :
    Calls Tryd.prog 10 #[.agg #[.int .u64 (lm (A) 0 : Nat), .int .u64 (lm (A) 1 : Nat), .int .u64 (lm (A) 2 : Nat), .int .u64 (lm (A) 3 : Nat)], .agg #[.int .u64 (lm (B) 0 : Nat), .int .u64 (lm (B) 1 : Nat), .int .u64 (lm (B) 2 : Nat), .int .u64 (lm (B) 3 : Nat)], .agg #[.int .u64 (lm (C) 0 : Nat), .int .u64 (lm (C) 1 : Nat), .int .u64 (lm (C) 2 : Nat), .int .u64 (lm (C) 3 : Nat)], .int .i64 k] w fun e w' => e = .returned (.bool true) ∧ Below w.heap.size w w' := by
  have T0 := Lib.hid hT
  clear hT
  rw [← hx, ← hy, ← hz]
  clear hx hy hz
  go_enter Tryd.func10, Tryd.ntmps10
  repeat any_goals (first | go_skip | go_guarded | go_step | go_upon | (simp only []; done))
  go_region
  obtain ⟨W0, hW0⟩ : ∃ W0, W0 = (((w.alloc (.cells #[.int .u64 (lm A 0 : Nat), .int .u64 (lm A 1 : Nat), .int .u64 (lm A 2 : Nat), .int .u64 (x' : Int)] 24)).alloc (.cells #[.int .u64 (lm B 0 : Nat), .int .u64 (lm B 1 : Nat), .int .u64 (lm B 2 : Nat), .int .u64 (y' : Int)] 24)).alloc (.cells #[.int .u64 (lm C 0 : Nat), .int .u64 (lm C 1 : Nat), .int .u64 (lm C 2 : Nat), .int .u64 (z' : Int)] 24)).drew := ⟨_, rfl⟩
  have X0 : Box W0 w.heap.size a := by
    rw [hW0]
    exact ⟨by simp [go_sem, ha.out.1], by simp [go_sem, ha.out.2.1], by simp [go_sem, ha.out.2.2.1], by simp [go_sem, ha.out.2.2.2], by simp [World.drew]; omega⟩
  have Y0 : Box W0 (w.heap.size + 1) b := by
    rw [hW0]
    exact ⟨by simp [go_sem, hb.out.1], by simp [go_sem, hb.out.2.1], by simp [go_sem, hb.out.2.2.1], by simp [go_sem, hb.out.2.2.2], by simp [World.drew]⟩
  have Z0 : Box W0 (w.heap.size + 1 + 1) c := by
    rw [hW0]
    exact ⟨by simp [go_sem, hc.out.1], by simp [go_sem, hc.out.2.1], by simp [go_sem, hc.out.2.2.1], by simp [go_sem, hc.out.2.2.2], by simp [World.drew]⟩
  have hBW : Below w.heap.size w W0 := by
    rw [hW0]
    (repeat first | with_reducible exact Below.refl _ _ | with_reducible assumption | with_reducible refine Below.drew ?_ | with_reducible refine below_alloc ?_ _ | ((with_reducible refine Below.setCell ?_ ?_ _); rotate_left; (focus (first | with_reducible exact Nat.le_refl _ | (simp; done) | (simp; omega) | omega))) | (with_reducible refine below_trans ?_ (by assumption)))
  rw [← hW0]
  clear hW0 ex ey ez ha hb hc
  have T1 := Lib.hid (T0.out.below hBW)
  obtain ⟨_, _, _, _, _⟩ := X0.all
  obtain ⟨_, _, _, _, _⟩ := Y0.all
  obtain ⟨_, _, _, _, _⟩ := Z0.all
  have X1 := Lib.hid X0
  have Y1 := Lib.hid Y0
  have Z1 := Lib.hid Z0
  clear X0 Y0 Z0
  go_upto_region 12 with (first | (go_at_call 24; with_reducible refine (K.out.c1 _).mono ?_; rintro e w1 ⟨rfl, hb1⟩; (first | have X2 := Lib.hid (X1.out.below hb1) | have X2 := Lib.hid (X1.out.step hb1)); obtain ⟨_, _, _, _, _⟩ := X2.out.all; (first | have Y2 := Lib.hid (Y1.out.below hb1) | have Y2 := Lib.hid (Y1.out.step hb1)); obtain ⟨_, _, _, _, _⟩ := Y2.out.all; (first | have Z2 := Lib.hid (Z1.out.below hb1) | have Z2 := Lib.hid (Z1.out.step hb1)); obtain ⟨_, _, _, _, _⟩ := Z2.out.all; (first | have T2 := Lib.hid (T1.out.below hb1) | have T2 := Lib.hid (T1.out.step hb1))) | (go_at_call 24; with_reducible refine (K.out.c2 _).mono ?_; rintro e w2 ⟨rfl, hb2⟩; have qx3 := Lib.hid (box_hb hb2); obtain ⟨_, _, _, _, _⟩ := qx3.out.all; (first | have X3 := Lib.hid (X2.out.below hb2) | have X3 := Lib.hid (X2.out.step hb2)); obtain ⟨_, _, _, _, _⟩ := X3.out.all; (first | have Y3 := Lib.hid (Y2.out.below hb2) | have Y3 := Lib.hid (Y2.out.step hb2)); obtain ⟨_, _, _, _, _⟩ := Y3.out.all; (first | have Z3 := Lib.hid (Z2.out.below hb2) | have Z3 := Lib.hid (Z2.out.step hb2)); obtain ⟨_, _, _, _, _⟩ := Z3.out.all; (first | have T3 := Lib.hid (T2.out.below hb2) | have T3 := Lib.hid (T2.out.step hb2))) | (go_at_call 24; with_reducible refine (K.out.c3 _).mono ?_; rintro e w3 ⟨rfl, hb3⟩; have qy4 := Lib.hid (box_hb hb3); obtain ⟨_, _, _, _, _⟩ := qy4.out.all; (first | have qx4 := Lib.hid (qx3.out.below hb3) | have qx4 := Lib.hid (qx3.out.step hb3)); obtain ⟨_, _, _, _, _⟩ := qx4.out.all; (first | have X4 := Lib.hid (X3.out.below hb3) | have X4 := Lib.hid (X3.out.step hb3)); obtain ⟨_, _, _, _, _⟩ := X4.out.all; (first | have Y4 := Lib.hid (Y3.out.below hb3) | have Y4 := Lib.hid (Y3.out.step hb3)); obtain ⟨_, _, _, _, _⟩ := Y4.out.all; (first | have Z4 := Lib.hid (Z3.out.below hb3) | have Z4 := Lib.hid (Z3.out.step hb3)); obtain ⟨_, _, _, _, _⟩ := Z4.out.all; (first | have T4 := Lib.hid (T3.out.below hb3) | have T4 := Lib.hid (T3.out.step hb3))) | (go_at_call 24; with_reducible refine (K.out.c4 _).mono ?_; rintro e w4 ⟨rfl, hb4⟩; have qz5 := Lib.hid (box_hb hb4); obtain ⟨_, _, _, _, _⟩ := qz5.out.all; (first | have qy5 := Lib.hid (qy4.out.below hb4) | have qy5 := Lib.hid (qy4.out.step hb4)); obtain ⟨_, _, _, _, _⟩ := qy5.out.all; (first | have qx5 := Lib.hid (qx4.out.below hb4) | have qx5 := Lib.hid (qx4.out.step hb4)); obtain ⟨_, _, _, _, _⟩ := qx5.out.all; (first | have X5 := Lib.hid (X4.out.below hb4) | have X5 := Lib.hid (X4.out.step hb4)); obtain ⟨_, _, _, _, _⟩ := X5.out.all; (first | have Y5 := Lib.hid (Y4.out.below hb4) | have Y5 := Lib.hid (Y4.out.step hb4)); obtain ⟨_, _, _, _, _⟩ := Y5.out.all; (first | have Z5 := Lib.hid (Z4.out.below hb4) | have Z5 := Lib.hid (Z4.out.step hb4)); obtain ⟨_, _, _, _, _⟩ := Z5.out.all; (first | have T5 := Lib.hid (T4.out.below hb4) | have T5 := Lib.hid (T4.out.step hb4))) | (go_at_call 24; with_reducible refine (K.out.c5 _).mono ?_; rintro e w5 ⟨rfl, hb5⟩; have qw6 := Lib.hid (box_hb hb5); obtain ⟨_, _, _, _, _⟩ := qw6.out.all; (first | have qz6 := Lib.hid (qz5.out.below hb5) | have qz6 := Lib.hid (qz5.out.step hb5)); obtain ⟨_, _, _, _, _⟩ := qz6.out.all; (first | have qy6 := Lib.hid (qy5.out.below hb5) | have qy6 := Lib.hid (qy5.out.step hb5)); obtain ⟨_, _, _, _, _⟩ := qy6.out.all; (first | have qx6 := Lib.hid (qx5.out.below hb5) | have qx6 := Lib.hid (qx5.out.step hb5)); obtain ⟨_, _, _, _, _⟩ := qx6.out.all; (first | have X6 := Lib.hid (X5.out.below hb5) | have X6 := Lib.hid (X5.out.step hb5)); obtain ⟨_, _, _, _, _⟩ := X6.out.all; (first | have Y6 := Lib.hid (Y5.out.below hb5) | have Y6 := Lib.hid (Y5.out.step hb5)); obtain ⟨_, _, _, _, _⟩ := Y6.out.all; (first | have Z6 := Lib.hid (Z5.out.below hb5) | have Z6 := Lib.hid (Z5.out.step hb5)); obtain ⟨_, _, _, _, _⟩ := Z6.out.all; (first | have T6 := Lib.hid (T5.out.below hb5) | have T6 := Lib.hid (T5.out.step hb5))) | (go_at_call 25; with_reducible refine (K.out.c6 _).mono ?_; rintro e w6 ⟨rfl, hb6⟩; have qv7 := Lib.hid (box_hb hb6); obtain ⟨_, _, _, _, _⟩ := qv7.out.all; (first | have qz7 := Lib.hid (qz6.out.below hb6) | have qz7 := Lib.hid (qz6.out.step hb6)); obtain ⟨_, _, _, _, _⟩ := qz7.out.all; (first | have qy7 := Lib.hid (qy6.out.below hb6) | have qy7 := Lib.hid (qy6.out.step hb6)); obtain ⟨_, _, _, _, _⟩ := qy7.out.all; (first | have qx7 := Lib.hid (qx6.out.below hb6) | have qx7 := Lib.hid (qx6.out.step hb6)); obtain ⟨_, _, _, _, _⟩ := qx7.out.all; (first | have X7 := Lib.hid (X6.out.below hb6) | have X7 := Lib.hid (X6.out.step hb6)); obtain ⟨_, _, _, _, _⟩ := X7.out.all; (first | have Y7 := Lib.hid (Y6.out.below hb6) | have Y7 := Lib.hid (Y6.out.step hb6)); obtain ⟨_, _, _, _, _⟩ := Y7.out.all; (first | have Z7 := Lib.hid (Z6.out.below hb6) | have Z7 := Lib.hid (Z6.out.step hb6)); obtain ⟨_, _, _, _, _⟩ := Z7.out.all; (first | have T7 := Lib.hid (T6.out.below hb6) | have T7 := Lib.hid (T6.out.step hb6))))
  have hsz : w.heap.size + 2 < w6.heap.size := by
    have h1 := Z7.out.l
    exact h1
  have M8 : BoxF ((w6.alloc (.cells #[.int .u64 (lm a 0 : Nat), .int .u64 (lm a 1 : Nat), .int .u64 (lm a 2 : Nat), .int .u64 (lm a 3 : Nat)] 24)).alloc (.cells #[.int .u64 (lm a 0 : Nat), .int .u64 (lm a 1 : Nat), .int .u64 (lm a 2 : Nat), .int .u64 (lm a 3 : Nat)] 24)) (w6.heap.size + 1) a := by
    have h := @boxF_new (w6.alloc (.cells #[.int .u64 (lm a 0 : Nat), .int .u64 (lm a 1 : Nat), .int .u64 (lm a 2 : Nat), .int .u64 (lm a 3 : Nat)] 24)) a 24
    rw [World.size_alloc] at h
    exact h
  have X8 := (X7.out.alloc (.cells #[.int .u64 (lm a 0 : Nat), .int .u64 (lm a 1 : Nat), .int .u64 (lm a 2 : Nat), .int .u64 (lm a 3 : Nat)] 24)).alloc (.cells #[.int .u64 (lm a 0 : Nat), .int .u64 (lm a 1 : Nat), .int .u64 (lm a 2 : Nat), .int .u64 (lm a 3 : Nat)] 24)
  have Y8 := (Y7.out.alloc (.cells #[.int .u64 (lm a 0 : Nat), .int .u64 (lm a 1 : Nat), .int .u64 (lm a 2 : Nat), .int .u64 (lm a 3 : Nat)] 24)).alloc (.cells #[.int .u64 (lm a 0 : Nat), .int .u64 (lm a 1 : Nat), .int .u64 (lm a 2 : Nat), .int .u64 (lm a 3 : Nat)] 24)
  have hW8 : Below w.heap.size w ((w6.alloc (.cells #[.int .u64 (lm a 0 : Nat), .int .u64 (lm a 1 : Nat), .int .u64 (lm a 2 : Nat), .int .u64 (lm a 3 : Nat)] 24)).alloc (.cells #[.int .u64 (lm a 0 : Nat), .int .u64 (lm a 1 : Nat), .int .u64 (lm a 2 : Nat), .int .u64 (lm a 3 : Nat)] 24)) := by (repeat first | with_reducible exact Below.refl _ _ | with_reducible assumption | with_reducible refine Below.drew ?_ | with_reducible refine below_alloc ?_ _ | ((with_reducible refine Below.setCell ?_ ?_ _); rotate_left; (focus (first | with_reducible exact Nat.le_refl _ | (simp; done) | (simp; omega) | omega))) | (with_reducible refine below_trans ?_ (by assumption)))
  generalize (w6.alloc (.cells #[.int .u64 (lm a 0 : Nat), .int .u64 (lm a 1 : Nat), .int .u64 (lm a 2 : Nat), .int .u64 (lm a 3 : Nat)] 24)).alloc (.cells #[.int .u64 (lm a 0 : Nat), .int .u64 (lm a 1 : Nat), .int .u64 (lm a 2 : Nat), .int .u64 (lm a 3 : Nat)] 24) = w7 at *
  clear hb1 hb2 hb3 hb4 hb5 hb6 X1 X2 X3 X4 X5 X6 X7 Y1 Y2 Y3 Y4 Y5 Y6 Y7 Z1 Z2 Z3 Z4 Z5 Z6 Z7 T1 T2 T3 T4 T5 T6 T7 qx3 qx4 qx5 qx6 qx7 qy4 qy5 qy6 qy7 qz5 qz6 qz7 qw6 qv7 hBW
  repeat any_goals (first | go_skip | go_guarded | go_step | go_upon | (simp only []; done))
  go_loopw [23] (fun i wr => ∃ j : Nat, j ≤ n ∧ i = .int .i64 j ∧ BoxF wr (w6.heap.size + 1) (a * 2 ^ j) ∧ Box wr w.heap.size a ∧ Box wr (w.heap.size + 1) b ∧ Below w.heap.size w wr) (fun i _ => n - (intOf i).toNat)
  case atStart => exact ⟨0, by omega, rfl, by rw [Nat.pow_zero, Nat.mul_one]; exact M8, X8, Y8, hW8⟩
  case round =>
    clear M8 X8 Y8 hW8
    obtain ⟨j, hj, rfl, M9, X9, Y9, hW9⟩ := hrel
    by_cases c0 : j < n
    · have KM := Lib.hid (fun w => K.out.c7 j c0 w)
      obtain ⟨U, hU⟩ : ∃ U, U = a * 2 ^ j := ⟨_, rfl⟩
      obtain ⟨V, hV⟩ : ∃ V, V = a * 2 ^ (j + 1) := ⟨_, rfl⟩
      rw [← hU, ← hV] at KM
      rw [← hU] at M9
      have VH := Lib.hid hV
      have mA := Lib.hid M9
      have xA := Lib.hid X9
      have yA := Lib.hid Y9
      clear hU hV M9 X9 Y9
      obtain ⟨_, _, _, _, _⟩ := mA.out.all
      repeat any_goals (first | (go_at_call 23; with_reducible refine (KM.out _).mono ?_; rintro e w8 ⟨rfl, hb8⟩; (first | have mB := Lib.hid (mA.out.below hb8) | have mB := Lib.hid (mA.out.step hb8)); obtain ⟨_, _, _, _, _⟩ := mB.out.all; (first | have xB := Lib.hid (xA.out.below hb8) | have xB := Lib.hid (xA.out.step hb8)); obtain ⟨_, _, _, _, _⟩ := xB.out.all; (first | have yB := Lib.hid (yA.out.below hb8) | have yB := Lib.hid (yA.out.step hb8)); obtain ⟨_, _, _, _, _⟩ := yB.out.all) | go_skip | go_guarded | go_step | go_upon | (dsimp only []))
      go_roundw
      case rel => exact ⟨j + 1, by omega, by go_num, by rw [← VH.out]; exact mB.out.set, xB.out.other (by omega), yB.out.other (by omega), by (repeat first | with_reducible exact Below.refl _ _ | with_reducible assumption | with_reducible refine Below.drew ?_ | with_reducible refine below_alloc ?_ _ | ((with_reducible refine Below.setCell ?_ ?_ _); rotate_left; (focus (first | with_reducible exact Nat.le_refl _ | (simp; done) | (simp; omega) | omega))) | (with_reducible refine below_trans ?_ (by assumption)))⟩
      case measure => first | (simp [intOf]; done) | (simp [intOf]; omega)
    · have hjn : j = n := by omega
      subst hjn
      rw [← K.out.lL] at M9
      have mA := Lib.hid M9.b
      have xA := Lib.hid X9
      have yA := Lib.hid Y9
      have TA := Lib.hid (T0.out.below hW9)
      clear M9 X9 Y9
      obtain ⟨_, _, _, _, _⟩ := xA.out.all
      go_upto_region 17 with (first | (go_at_call 27; with_reducible refine (K.out.c8 _).mono ?_; rintro e w9 ⟨rfl, hb9⟩; (first | have mB := Lib.hid (mA.out.below hb9) | have mB := Lib.hid (mA.out.step hb9)); obtain ⟨_, _, _, _, _⟩ := mB.out.all; (first | have xB := Lib.hid (xA.out.below hb9) | have xB := Lib.hid (xA.out.step hb9)); obtain ⟨_, _, _, _, _⟩ := xB.out.all; (first | have yB := Lib.hid (yA.out.below hb9) | have yB := Lib.hid (yA.out.step hb9)); obtain ⟨_, _, _, _, _⟩ := yB.out.all; (first | have TB := Lib.hid (TA.out.below hb9) | have TB := Lib.hid (TA.out.step hb9))))
      (have lb := Lib.hid (@box_new w9 L 24); have mb := Lib.hid (mB.out.alloc (.cells #[.int .u64 (lm L 0 : Nat), .int .u64 (lm L 1 : Nat), .int .u64 (lm L 2 : Nat), .int .u64 (lm L 3 : Nat)] 24)); have Xb := Lib.hid (xB.out.alloc (.cells #[.int .u64 (lm L 0 : Nat), .int .u64 (lm L 1 : Nat), .int .u64 (lm L 2 : Nat), .int .u64 (lm L 3 : Nat)] 24)); have Yb := Lib.hid (yB.out.alloc (.cells #[.int .u64 (lm L 0 : Nat), .int .u64 (lm L 1 : Nat), .int .u64 (lm L 2 : Nat), .int .u64 (lm L 3 : Nat)] 24)); have Tb := Lib.hid (TB.out.alloc (.cells #[.int .u64 (lm L 0 : Nat), .int .u64 (lm L 1 : Nat), .int .u64 (lm L 2 : Nat), .int .u64 (lm L 3 : Nat)] 24)); have hWa : Below w.heap.size w (w9.alloc (.cells #[.int .u64 (lm L 0 : Nat), .int .u64 (lm L 1 : Nat), .int .u64 (lm L 2 : Nat), .int .u64 (lm L 3 : Nat)] 24)) := (by (repeat first | with_reducible exact Below.refl _ _ | with_reducible assumption | with_reducible refine Below.drew ?_ | with_reducible refine below_alloc ?_ _ | ((with_reducible refine Below.setCell ?_ ?_ _); rotate_left; (focus (first | with_reducible exact Nat.le_refl _ | (simp; done) | (simp; omega) | omega))) | (with_reducible refine below_trans ?_ (by assumption)))); generalize w9.alloc (.cells #[.int .u64 (lm L 0 : Nat), .int .u64 (lm L 1 : Nat), .int .u64 (lm L 2 : Nat), .int .u64 (lm L 3 : Nat)] 24) = wa at *; obtain ⟨_, _, _, _, _⟩ := lb.out.all; obtain ⟨_, _, _, _, _⟩ := mb.out.all; obtain ⟨_, _, _, _, _⟩ := Xb.out.all; obtain ⟨_, _, _, _, _⟩ := Yb.out.all)
      have hl1 := K.out.lt1
      have hl2 := K.out.lt2
      (obtain ⟨C_, hC⟩ : ∃ C : World → Prop, C = fun w' => Below (wa).heap.size (wa) w' := ⟨_, rfl⟩; have HC := Lib.hid hC; have hne : ∀ p : Prop, (∀ w1 : World, C_ w1 → p) = p := fun p => propext ⟨fun h => h (wa) (by rw [hC]; exact Below.refl _ _), fun h _ _ => h⟩; clear hC; refine wp_region_quiet_cls (C := C_) (by kernel_rfl) (by kernel_rfl) (by rw [HC.out]; exact (Below.refl _ _).drew) ?_)
      ((go_big_quiet_want; go_big_quiet_op; refine ⟨.bool true, fun w1 hw1 => ?_, ?_⟩; (rw [HC.out] at hw1 ⊢; with_reducible refine (told_any w1 (Tb.out.below hw1)).mono ?_; rintro e w4 ⟨rfl, hb4⟩; exact ⟨rfl, below_trans hw1 hb4⟩); go_big_quiet_on); (go_big_quiet_want; go_big_quiet_op; go_big_quiet_on); (first | (go_big_quiet_want; go_big_quiet_op; go_big_quiet_on) | go_big_quiet_skip); (go_big_quiet_want; go_big_quiet_op; go_big_quiet_on); (go_big_quiet_want; go_big_quiet_op; go_big_quiet_on); (first | (go_big_quiet_want; refine ⟨.agg #[.int .u64 (lm (L) 0 : Nat), .int .u64 (lm (L) 1 : Nat), .int .u64 (lm (L) 2 : Nat), .int .u64 (lm (L) 3 : Nat)], fun w1 hw1 => ?_, ?_⟩; (rw [HC.out] at hw1; obtain ⟨_, _, _, _, _⟩ := (lb.out.below hw1).all; simp [Oper.quietAt, go_sem, *]); (try simp only [Act.put, List.setIfInBounds_toArray, List.set_cons_zero, List.set_cons_succ]); go_big_quiet_on) | go_big_quiet_skip); (first | (go_big_quiet_want; refine ⟨.agg #[.int .u64 (lm (L) 0 : Nat), .int .u64 (lm (L) 1 : Nat), .int .u64 (lm (L) 2 : Nat), .int .u64 (lm (L) 3 : Nat)], fun w1 hw1 => ?_, ?_⟩; (rw [HC.out] at hw1; obtain ⟨_, _, _, _, _⟩ := (mb.out.below hw1).all; simp [Oper.quietAt, go_sem, *]); (try simp only [Act.put, List.setIfInBounds_toArray, List.set_cons_zero, List.set_cons_succ]); go_big_quiet_on) | go_big_quiet_skip); (first | (go_big_quiet_want; go_big_quiet_op; go_big_quiet_on) | go_big_quiet_skip); (go_big_quiet_want; go_big_quiet_op; go_big_quiet_on); (go_big_quiet_want; go_big_quiet_op; go_big_quiet_on); (first | (go_big_quiet_want; refine ⟨.agg #[.int .u64 (lm (L) 0 : Nat), .int .u64 (lm (L) 1 : Nat), .int .u64 (lm (L) 2 : Nat), .int .u64 (lm (L) 3 : Nat)], fun w1 hw1 => ?_, ?_⟩; (rw [HC.out] at hw1; obtain ⟨_, _, _, _, _⟩ := (lb.out.below hw1).all; simp [Oper.quietAt, go_sem, *]); (try simp only [Act.put, List.setIfInBounds_toArray, List.set_cons_zero, List.set_cons_succ]); go_big_quiet_on) | go_big_quiet_skip); (first | (go_big_quiet_want; go_big_quiet_op; go_big_quiet_on) | go_big_quiet_skip); (first | (go_big_quiet_want; go_big_quiet_op; refine ⟨.agg #[.int .u64 (lm (a) 0 : Nat), .int .u64 (lm (a) 1 : Nat), .int .u64 (lm (a) 2 : Nat), .int .u64 (lm (a) 3 : Nat)], fun w1 hw1 => ?_, ?_⟩; (rw [HC.out] at hw1 ⊢; with_reducible refine (K.out.c9 w1).mono ?_; rintro e w4 ⟨rfl, hb4⟩; exact ⟨rfl, below_trans hw1 hb4⟩); go_big_quiet_on) | go_big_quiet_skip); (first | (go_big_quiet_want; refine ⟨.agg #[.int .u64 (lm (a) 0 : Nat), .int .u64 (lm (a) 1 : Nat), .int .u64 (lm (a) 2 : Nat), .int .u64 (lm (a) 3 : Nat)], fun w1 hw1 => ?_, ?_⟩; (rw [HC.out] at hw1; obtain ⟨_, _, _, _, _⟩ := (Xb.out.below hw1).all; simp [Oper.quietAt, go_sem, *]); (try simp only [Act.put, List.setIfInBounds_toArray, List.set_cons_zero, List.set_cons_succ]); go_big_quiet_on) | go_big_quiet_skip); (first | (go_big_quiet_want; go_big_quiet_op; go_big_quiet_on) | go_big_quiet_skip); (go_big_quiet_want; go_big_quiet_op; go_big_quiet_on); (go_big_quiet_want; go_big_quiet_op; go_big_quiet_on); (first | (go_big_quiet_want; refine ⟨.agg #[.int .u64 (lm (a) 0 : Nat), .int .u64 (lm (a) 1 : Nat), .int .u64 (lm (a) 2 : Nat), .int .u64 (lm (a) 3 : Nat)], fun w1 hw1 => ?_, ?_⟩; (rw [HC.out] at hw1; obtain ⟨_, _, _, _, _⟩ := (Xb.out.below hw1).all; simp [Oper.quietAt, go_sem, *]); (try simp only [Act.put, List.setIfInBounds_toArray, List.set_cons_zero, List.set_cons_succ]); go_big_quiet_on) | go_big_quiet_skip); (first | (go_big_quiet_want; refine ⟨.agg #[.int .u64 (lm (b) 0 : Nat), .int .u64 (lm (b) 1 : Nat), .int .u64 (lm (b) 2 : Nat), .int .u64 (lm (b) 3 : Nat)], fun w1 hw1 => ?_, ?_⟩; (rw [HC.out] at hw1; obtain ⟨_, _, _, _, _⟩ := (Yb.out.below hw1).all; simp [Oper.quietAt, go_sem, *]); (try simp only [Act.put, List.setIfInBounds_toArray, List.set_cons_zero, List.set_cons_succ]); go_big_quiet_on) | go_big_quiet_skip); (first | (go_big_quiet_want; go_big_quiet_op; refine ⟨.int .i64 (cmpV a b), fun w1 hw1 => ?_, ?_⟩; (rw [HC.out] at hw1 ⊢; with_reducible refine (K.out.ca w1).mono ?_; rintro e w4 ⟨rfl, hb4⟩; exact ⟨rfl, below_trans hw1 hb4⟩); go_big_quiet_on) | go_big_quiet_skip); (first | (go_big_quiet_want; go_big_quiet_op; go_big_quiet_on) | go_big_quiet_skip); (first | (go_big_quiet_want; refine ⟨.agg #[.int .u64 (lm (b) 0 : Nat), .int .u64 (lm (b) 1 : Nat), .int .u64 (lm (b) 2 : Nat), .int .u64 (lm (b) 3 : Nat)], fun w1 hw1 => ?_, ?_⟩; (rw [HC.out] at hw1; obtain ⟨_, _, _, _, _⟩ := (Yb.out.below hw1).all; simp [Oper.quietAt, go_sem, *]); (try simp only [Act.put, List.setIfInBounds_toArray, List.set_cons_zero, List.set_cons_succ]); go_big_quiet_on) | go_big_quiet_skip); (first | (go_big_quiet_want; refine ⟨.agg #[.int .u64 (lm (a) 0 : Nat), .int .u64 (lm (a) 1 : Nat), .int .u64 (lm (a) 2 : Nat), .int .u64 (lm (a) 3 : Nat)], fun w1 hw1 => ?_, ?_⟩; (rw [HC.out] at hw1; obtain ⟨_, _, _, _, _⟩ := (Xb.out.below hw1).all; simp [Oper.quietAt, go_sem, *]); (try simp only [Act.put, List.setIfInBounds_toArray, List.set_cons_zero, List.set_cons_succ]); go_big_quiet_on) | go_big_quiet_skip); (first | (go_big_quiet_want; go_big_quiet_op; refine ⟨.int .i64 (cmpV b a), fun w1 hw1 => ?_, ?_⟩; (rw [HC.out] at hw1 ⊢; with_reducible refine (K.out.cb w1).mono ?_; rintro e w4 ⟨rfl, hb4⟩; exact ⟨rfl, below_trans hw1 hb4⟩); go_big_quiet_on) | go_big_quiet_skip); (first | (go_big_quiet_want; go_big_quiet_op; go_big_quiet_on) | go_big_quiet_skip); (first | (go_big_quiet_want; go_big_quiet_op; go_big_quiet_on) | go_big_quiet_skip); (go_big_quiet_want; go_big_quiet_op; go_big_quiet_on); (go_big_quiet_want; go_big_quiet_op; go_big_quiet_on); (refine wpQuiet_nil ?_; intro w2 hw2; rw [HC.out] at hw2))
      clear hne HC
      clear C_
      repeat any_goals (first | go_skip | go_guarded | go_step | go_upon | (simp only []; done))
      try (refine (by assumption : ∀ (a : Act) (w : World), Code.wp Tryd.prog Code.ret _ a w → _) _ _ ?_)
      repeat any_goals (first | go_skip | go_guarded | go_step | go_upon | (simp only []; done))
      go_ret
      exact ⟨by simp, below_trans hWa hw2⟩
theorem lm_low200 (A : Nat) : lm (A % 2 ^ 200) 0 = lm A 0 ∧ lm (A % 2 ^ 200) 1 = lm A 1 ∧ lm (A % 2 ^ 200) 2 = lm A 2 ∧ lm (A % 2 ^ 200) 3 = lm A 3 % 256 := by
  unfold lm
  omega
theorem and255 (A : Nat) : bits BinOp.and IntKind.u64 (lm A 3 : Nat) 255 = ((lm A 3 % 256 : Nat) : Int) := by
  have h := u64_and_nat (lm A 3) 255 (lm_lt A 3) (by decide)
  rw [show (255 : Nat) = 2 ^ 8 - 1 from by decide, Nat.and_two_pow_sub_one_eq_mod, show (2 : Nat) ^ 8 = 256 from by decide] at h
  exact h
/-- **NatLaws answers true.** -/
theorem Laws_any (A B C : Nat) (k : Int) (_hA : A < 2 ^ 256) (_hB : B < 2 ^ 256) (_hC : C < 2 ^ 256) (_hk0 : -9223372036854775808 ≤ k) (_hk1 : k < 9223372036854775808) (w : World) (hT : Tabs w) :
    Calls Tryd.prog 10 #[.agg #[.int .u64 (lm (A) 0 : Nat), .int .u64 (lm (A) 1 : Nat), .int .u64 (lm (A) 2 : Nat), .int .u64 (lm (A) 3 : Nat)], .agg #[.int .u64 (lm (B) 0 : Nat), .int .u64 (lm (B) 1 : Nat), .int .u64 (lm (B) 2 : Nat), .int .u64 (lm (B) 3 : Nat)], .agg #[.int .u64 (lm (C) 0 : Nat), .int .u64 (lm (C) 1 : Nat), .int .u64 (lm (C) 2 : Nat), .int .u64 (lm (C) 3 : Nat)], .int .i64 k] w fun e w' => e = .returned (.bool true) ∧ Below w.heap.size w w' := by
  obtain ⟨n, hn, hn2⟩ : ∃ n : Nat, (IntKind.u64.wrap k).tmod 51 = (n : Int) ∧ (n : Int) ≤ 50 := by
    rw [IntKind.wrap_u64, Int.tmod_eq_emod_of_nonneg (Int.emod_nonneg _ (by decide))]
    exact ⟨(k % 18446744073709551616 % 51).toNat, by omega, by omega⟩
  have h1 : wrap64 ((IntKind.u64.wrap k).tmod 51) = (n : Int) := by
    rw [hn]
    unfold wrap64
    omega
  exact Laws_walk A B C k (lm A 3) (lm B 3) (lm C 3) (lm A 3 % 256) (lm B 3 % 256) (lm C 3 % 256) (A % 2 ^ 200) (B % 2 ^ 200) (C % 2 ^ 200) n _ _ _ _ _
    (Lib.hid (lawsC _ _ _ n (Nat.mod_lt _ (by decide)) (Nat.mod_lt _ (by decide)) (Nat.mod_lt _ (by decide)) (by omega))) h1 hn2 rfl rfl rfl (and255 A) (and255 B) (and255 C) (Lib.hid (lm_low200 A)) (Lib.hid (lm_low200 B)) (Lib.hid (lm_low200 C)) w hT
end Go.Proofs.YtbmeejfpaeggjaaDoor
