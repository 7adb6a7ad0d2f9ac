/- Contract of the law's own function told. -/
import Derived.Test.YtbmeejfpaeggjaaDoorBox
namespace Go.Proofs.YtbmeejfpaeggjaaDoor
open Go.RowKit
/-- what told asks of the program -/
structure ToldC (A B : Nat) : Prop where
  c1 : ∀ w : World, Calls Tryd.prog 27 #[.agg #[.int .u64 1, .int .u64 0, .int .u64 0, .int .u64 0], .int .i64 255] w fun e w' => e = .returned (.tuple #[.agg #[.int .u64 (lm (A) 0 : Nat), .int .u64 (lm (A) 1 : Nat), .int .u64 (lm (A) 2 : Nat), .int .u64 (lm (A) 3 : Nat)], .bool true]) ∧ Below w.heap.size w w'
  c2 : ∀ w : World, Calls Tryd.prog 27 #[.agg #[.int .u64 (lm (A) 0 : Nat), .int .u64 (lm (A) 1 : Nat), .int .u64 (lm (A) 2 : Nat), .int .u64 (lm (A) 3 : Nat)], .int .i64 1] w fun e w' => e = .returned (.tuple #[.agg #[.int .u64 (lm (0) 0 : Nat), .int .u64 (lm (0) 1 : Nat), .int .u64 (lm (0) 2 : Nat), .int .u64 (lm (0) 3 : Nat)], .bool false]) ∧ Below w.heap.size w w'
  c3 : ∀ w : World, Calls Tryd.prog 18 #[.string ⟨#[48, 48]⟩] w fun e w' => e = .returned (.tuple #[.agg #[.int .u64 (lm (0) 0 : Nat), .int .u64 (lm (0) 1 : Nat), .int .u64 (lm (0) 2 : Nat), .int .u64 (lm (0) 3 : Nat)], .bool false]) ∧ Below w.heap.size w w'
  c4 : ∀ w : World, Calls Tryd.prog 18 #[.string ⟨#[49, 56, 52, 52, 54, 55, 52, 52, 48, 55, 51, 55, 48, 57, 53, 53, 49, 54, 49, 54]⟩] w fun e w' => e = .returned (.tuple #[.agg #[.int .u64 (lm (B) 0 : Nat), .int .u64 (lm (B) 1 : Nat), .int .u64 (lm (B) 2 : Nat), .int .u64 (lm (B) 3 : Nat)], .bool true]) ∧ Below w.heap.size w w'
  c5 : ∀ w : World, Calls Tryd.prog 28 #[.agg #[.int .u64 (lm (A) 0 : Nat), .int .u64 (lm (A) 1 : Nat), .int .u64 (lm (A) 2 : Nat), .int .u64 (lm (A) 3 : Nat)]] w fun e w' => e = .returned (.int .i64 256) ∧ Below w.heap.size w w'
  c6 : ∀ w : World, Tabs w → Calls Tryd.prog 20 #[.agg #[.int .u64 (lm (B) 0 : Nat), .int .u64 (lm (B) 1 : Nat), .int .u64 (lm (B) 2 : Nat), .int .u64 (lm (B) 3 : Nat)]] w fun e w' => e = .returned (.string ⟨#[49, 56, 52, 52, 54, 55, 52, 52, 48, 55, 51, 55, 48, 57, 53, 53, 49, 54, 49, 54]⟩) ∧ Below w.heap.size w w'
  c7 : ∀ w : World, Tabs w → Calls Tryd.prog 37 #[.agg #[.int .u64 0, .int .u64 0, .int .u64 0, .int .u64 0]] w fun e w' => e = .returned (.int .i64 256) ∧ Below w.heap.size w w'
set_option maxRecDepth 20000 in
theorem toldC : ToldC (2 ^ 255) (2 ^ 64) := by
  refine ⟨fun w => ?_, fun w => ?_, fun w => ?_, fun w => ?_, fun w => ?_, fun w hT => ?_, fun w hT => ?_⟩
  · have h := ShlV_any 1 (by decide) 255 w (by decide) (by decide)
    rw [show shlV 1 255 = 2 ^ 255 from by decide +kernel, show shlOk 1 255 = true from by decide +kernel] at h
    exact h
  · have h := ShlV_any (2 ^ 255) (by decide) 1 w (by decide) (by decide)
    rw [show shlV (2 ^ 255) 1 = 0 from by decide +kernel, show shlOk (2 ^ 255) 1 = false from by decide +kernel] at h
    exact h
  · have h := ParN_any ⟨#[48, 48]⟩ (by decide) w
    rw [show pV (ByteArray.mk #[48, 48]).data.toList = 0 from by decide +kernel, show pOk (ByteArray.mk #[48, 48]).data.toList = false from by decide +kernel] at h
    exact h
  · have h := ParN_any ⟨#[49, 56, 52, 52, 54, 55, 52, 52, 48, 55, 51, 55, 48, 57, 53, 53, 49, 54, 49, 54]⟩ (by decide) w
    rw [show pV (ByteArray.mk #[49, 56, 52, 52, 54, 55, 52, 52, 48, 55, 51, 55, 48, 57, 53, 53, 49, 54, 49, 54]).data.toList = 2 ^ 64 from by decide +kernel, show pOk (ByteArray.mk #[49, 56, 52, 52, 54, 55, 52, 52, 48, 55, 51, 55, 48, 57, 53, 53, 49, 54, 49, 54]).data.toList = true from by decide +kernel] at h
    exact h
  · have h := Len_lm (2 ^ 255) (by decide) 256 (by decide +kernel) w
    exact h
  · have h := PrN_any (2 ^ 64) (by decide) w hT.t10
    rw [show decS (2 ^ 64) = ⟨#[49, 56, 52, 52, 54, 55, 52, 52, 48, 55, 51, 55, 48, 57, 53, 53, 49, 54, 49, 54]⟩ from by decide +kernel] at h
    exact h
  · have h := Trail_any 0 0 0 0 (by decide) (by decide) (by decide) (by decide) w hT.t
    exact h
set_option maxRecDepth 20000 in
set_option maxHeartbeats 1600000 in
/-- **told.** -/
theorem told_any (w : World) (hT : Tabs w) :
    Calls Tryd.prog 12 #[] w fun e w' => e = .returned (.bool true) ∧ Below w.heap.size w w' := by
  have TC := toldC
  obtain ⟨A, hA⟩ : ∃ A, A = 2 ^ 255 := ⟨_, rfl⟩
  obtain ⟨B, hB⟩ : ∃ B, B = 2 ^ 64 := ⟨_, rfl⟩
  rw [← hA, ← hB] at TC
  have C := Lib.hid TC
  have T0 := Lib.hid hT
  have hBe : (((lm B 0 : Nat) : Int) == 0 && ((lm B 1 : Nat) : Int) == 1 && ((lm B 2 : Nat) : Int) == 0 && ((lm B 3 : Nat) : Int) == 0) = true := by rw [hB]; decide +kernel
  clear hA hB TC hT
  go_enter Tryd.func12, Tryd.ntmps12
  repeat any_goals (first | (go_at_call 22; refine (Of_eq _ _).mono ?_; rintro e w' ⟨rfl, rfl⟩) | (go_at_call 27; with_reducible refine (C.out.c1 _).mono ?_; rintro e w1 ⟨rfl, hb1⟩; (first | have T1 := Lib.hid (T0.out.below hb1) | have T1 := Lib.hid (T0.out.step hb1))) | (go_at_call 27; with_reducible refine (C.out.c2 _).mono ?_; rintro e w2 ⟨rfl, hb2⟩; have xa := Lib.hid (box_hb hb2); obtain ⟨_, _, _, _, _⟩ := xa.out.all; (first | have T2 := Lib.hid (T1.out.below hb2) | have T2 := Lib.hid (T1.out.step hb2))) | (go_at_call 18; with_reducible refine (C.out.c3 _).mono ?_; rintro e w3 ⟨rfl, hb3⟩; (first | have xa3 := Lib.hid (xa.out.below hb3) | have xa3 := Lib.hid (xa.out.step hb3)); obtain ⟨_, _, _, _, _⟩ := xa3.out.all; (first | have T3 := Lib.hid (T2.out.below hb3) | have T3 := Lib.hid (T2.out.step hb3))) | (go_at_call 18; with_reducible refine (C.out.c4 _).mono ?_; rintro e w4 ⟨rfl, hb4⟩; (first | have xa4 := Lib.hid (xa3.out.below hb4) | have xa4 := Lib.hid (xa3.out.step hb4)); obtain ⟨_, _, _, _, _⟩ := xa4.out.all; (first | have T4 := Lib.hid (T3.out.below hb4) | have T4 := Lib.hid (T3.out.step hb4))) | (go_at_call 28; with_reducible refine (C.out.c5 _).mono ?_; rintro e w5 ⟨rfl, hb5⟩; have xb := Lib.hid (box_hb hb5); obtain ⟨_, _, _, _, _⟩ := xb.out.all; (first | have xa5 := Lib.hid (xa4.out.below hb5) | have xa5 := Lib.hid (xa4.out.step hb5)); obtain ⟨_, _, _, _, _⟩ := xa5.out.all; (first | have T5 := Lib.hid (T4.out.below hb5) | have T5 := Lib.hid (T4.out.step hb5))) | (go_at_call 20; with_reducible refine (C.out.c6 _ T5.out).mono ?_; rintro e w6 ⟨rfl, hb6⟩; (first | have xb6 := Lib.hid (xb.out.below hb6) | have xb6 := Lib.hid (xb.out.step hb6)); obtain ⟨_, _, _, _, _⟩ := xb6.out.all; (first | have T6 := Lib.hid (T5.out.below hb6) | have T6 := Lib.hid (T5.out.step hb6))) | (go_at_call 37; with_reducible refine (C.out.c7 _ T6.out).mono ?_; rintro e w7 ⟨rfl, hb7⟩; (first | have T7 := Lib.hid (T6.out.below hb7) | have T7 := Lib.hid (T6.out.step hb7))) | go_skip | go_guarded | go_step | go_upon | (dsimp only []))
  go_ret
  exact ⟨by simp, by (repeat first | with_reducible exact Below.refl _ _ | with_reducible assumption | with_reducible refine Below.drew ?_ | with_reducible refine below_alloc ?_ _ | ((with_reducible refine Below.setCell ?_ ?_ _); rotate_left; (focus (first | with_reducible exact Nat.le_refl _ | (simp; done) | (simp; omega) | omega))) | (with_reducible refine below_trans ?_ (by assumption)))⟩
end Go.Proofs.YtbmeejfpaeggjaaDoor
