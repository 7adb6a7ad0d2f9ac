/- Contracts of package float: Behind, Class, May, Canon. -/
import Derived.Test.YtminijokbeclhaaDoorFlB
namespace Go.Proofs.YtminijokbeclhaaDoor
open Go.RowKit
set_option maxHeartbeats 400000 in
theorem Behind_any (b : Nat) (hb : b < 18446744073709551616) (w : World) (hT : Tab w) :
    Calls Tryd.prog 90 #[.int .u64 b] w fun e w' => e = .returned (.int .i64 (beh b : Nat)) ∧ w = w' := by
  have hk2 := pk_le b
  by_cases h : pk b ≤ 0
  · have HB := Lib.hid (show ((beh b : Nat) : Int) = -(pk b) by unfold beh; omega)
    go_enter Tryd.func90, Tryd.ntmps90
    go_wp2_with (first | (go_at_call 76; refine (parts_any b hb _ hT).mono ?_; rintro e w' ⟨rfl, rfl⟩))
    go_ret
    simp [HB.out]
    omega
  · have HB := Lib.hid (show ((beh b : Nat) : Int) = 0 by unfold beh; omega)
    go_enter Tryd.func90, Tryd.ntmps90
    go_wp2_with (first | (go_at_call 76; refine (parts_any b hb _ hT).mono ?_; rintro e w' ⟨rfl, rfl⟩))
    go_ret
    simp [HB.out]
    omega
theorem beh_le (b : Nat) : beh b ≤ 1074 := by have := pk_le b; unfold beh; omega
theorem cls_0 {b : Nat} (h : whk b = true) : cls b = 0 := by unfold cls; rw [if_pos h]
theorem cls_1 {b : Nat} (h : whk b = false) (hf : fin b = true) (h1 : 1 ≤ beh b) (h2 : beh b ≤ 64) : cls b = 1 := by
  unfold cls; rw [if_neg (by simp [h]), if_pos hf, if_pos ⟨h1, h2⟩]
theorem cls_2 {b : Nat} (h : whk b = false) (hf : fin b = true) (h1 : ¬ (1 ≤ beh b ∧ beh b ≤ 64)) : cls b = 2 := by
  unfold cls; rw [if_neg (by simp [h]), if_pos hf, if_neg h1]
theorem cls_4 {b : Nat} (h : whk b = false) (hf : fin b = false) (h1 : b = 9218868437227405312) : cls b = 4 := by
  unfold cls; rw [if_neg (by simp [h]), if_neg (by simp [hf]), if_pos h1]
theorem cls_8 {b : Nat} (h : whk b = false) (hf : fin b = false) (h1 : b = 18442240474082181120) : cls b = 8 := by
  unfold cls; rw [if_neg (by simp [h]), if_neg (by simp [hf]), if_neg (by omega), if_pos h1]
theorem cls_16 {b : Nat} (h : whk b = false) (hf : fin b = false) (h1 : b ≠ 9218868437227405312) (h2 : b ≠ 18442240474082181120) : cls b = 16 := by
  unfold cls; rw [if_neg (by simp [h]), if_neg (by simp [hf]), if_neg h1, if_neg h2]
theorem fin_of_whk {b : Nat} (h : whk b = true) : fin b = true := by
  unfold whk at h
  cases hf : fin b
  · simp [hf] at h
  · rfl
set_option maxHeartbeats 400000 in
theorem Class_0 (b : Nat) (hb : b < 18446744073709551616) (w : World) (hT : Tab w) (hk : whk b = true) :
    Calls Tryd.prog 58 #[.int .u64 b] w fun e w' => e = .returned (.int .i64 0) ∧ Below w.heap.size w w' := by
  have hn2 := beh_le b
  go_enter Tryd.func58, Tryd.ntmps58
  repeat any_goals (first | (go_at_call 40; refine (Whole_any b hb _ hT).mono ?_; rintro e w1 ⟨rfl, hb1⟩) | (go_at_call 76; refine (parts_any b hb _ ((hT.below hb1).alloc _)).mono ?_; rintro e w' ⟨rfl, rfl⟩) | (go_at_call 90; refine (Behind_any b hb _ ((hT.below hb1).alloc _)).mono ?_; rintro e w' ⟨rfl, rfl⟩) | go_skip | go_guarded | go_step | go_upon | (dsimp only []))
  go_ret
  exact ⟨by simp, by (repeat first | with_reducible exact Below.refl _ _ | with_reducible assumption | with_reducible refine Below.drew ?_ | with_reducible refine below_alloc ?_ _ | ((with_reducible refine Below.setCell ?_ ?_ _); rotate_left; (focus (first | with_reducible exact Nat.le_refl _ | (simp; done) | (simp; omega) | omega))) | (with_reducible refine below_trans ?_ (by assumption)))⟩
set_option maxHeartbeats 400000 in
theorem Class_1 (b : Nat) (hb : b < 18446744073709551616) (w : World) (hT : Tab w) (hk : whk b = false) (hf : fin b = true) (h1 : 1 ≤ ((beh b : Nat) : Int)) (h2 : ((beh b : Nat) : Int) ≤ 64) :
    Calls Tryd.prog 58 #[.int .u64 b] w fun e w' => e = .returned (.int .i64 1) ∧ Below w.heap.size w w' := by
  have hn2 := beh_le b
  go_enter Tryd.func58, Tryd.ntmps58
  repeat any_goals (first | (go_at_call 40; refine (Whole_any b hb _ hT).mono ?_; rintro e w1 ⟨rfl, hb1⟩) | (go_at_call 76; refine (parts_any b hb _ ((hT.below hb1).alloc _)).mono ?_; rintro e w' ⟨rfl, rfl⟩) | (go_at_call 90; refine (Behind_any b hb _ ((hT.below hb1).alloc _)).mono ?_; rintro e w' ⟨rfl, rfl⟩) | go_skip | go_guarded | go_step | go_upon | (dsimp only []))
  go_ret
  exact ⟨by simp, by (repeat first | with_reducible exact Below.refl _ _ | with_reducible assumption | with_reducible refine Below.drew ?_ | with_reducible refine below_alloc ?_ _ | ((with_reducible refine Below.setCell ?_ ?_ _); rotate_left; (focus (first | with_reducible exact Nat.le_refl _ | (simp; done) | (simp; omega) | omega))) | (with_reducible refine below_trans ?_ (by assumption)))⟩
set_option maxHeartbeats 400000 in
theorem Class_2a (b : Nat) (hb : b < 18446744073709551616) (w : World) (hT : Tab w) (hk : whk b = false) (hf : fin b = true) (h1 : ((beh b : Nat) : Int) < 1) :
    Calls Tryd.prog 58 #[.int .u64 b] w fun e w' => e = .returned (.int .i64 2) ∧ Below w.heap.size w w' := by
  have hn2 := beh_le b
  go_enter Tryd.func58, Tryd.ntmps58
  repeat any_goals (first | (go_at_call 40; refine (Whole_any b hb _ hT).mono ?_; rintro e w1 ⟨rfl, hb1⟩) | (go_at_call 76; refine (parts_any b hb _ ((hT.below hb1).alloc _)).mono ?_; rintro e w' ⟨rfl, rfl⟩) | (go_at_call 90; refine (Behind_any b hb _ ((hT.below hb1).alloc _)).mono ?_; rintro e w' ⟨rfl, rfl⟩) | go_skip | go_guarded | go_step | go_upon | (dsimp only []))
  go_ret
  exact ⟨by simp, by (repeat first | with_reducible exact Below.refl _ _ | with_reducible assumption | with_reducible refine Below.drew ?_ | with_reducible refine below_alloc ?_ _ | ((with_reducible refine Below.setCell ?_ ?_ _); rotate_left; (focus (first | with_reducible exact Nat.le_refl _ | (simp; done) | (simp; omega) | omega))) | (with_reducible refine below_trans ?_ (by assumption)))⟩
set_option maxHeartbeats 400000 in
theorem Class_2b (b : Nat) (hb : b < 18446744073709551616) (w : World) (hT : Tab w) (hk : whk b = false) (hf : fin b = true) (h2 : 64 < ((beh b : Nat) : Int)) :
    Calls Tryd.prog 58 #[.int .u64 b] w fun e w' => e = .returned (.int .i64 2) ∧ Below w.heap.size w w' := by
  have hn2 := beh_le b
  have h1 : 1 ≤ ((beh b : Nat) : Int) := by omega
  go_enter Tryd.func58, Tryd.ntmps58
  repeat any_goals (first | (go_at_call 40; refine (Whole_any b hb _ hT).mono ?_; rintro e w1 ⟨rfl, hb1⟩) | (go_at_call 76; refine (parts_any b hb _ ((hT.below hb1).alloc _)).mono ?_; rintro e w' ⟨rfl, rfl⟩) | (go_at_call 90; refine (Behind_any b hb _ ((hT.below hb1).alloc _)).mono ?_; rintro e w' ⟨rfl, rfl⟩) | go_skip | go_guarded | go_step | go_upon | (dsimp only []))
  go_ret
  exact ⟨by simp, by (repeat first | with_reducible exact Below.refl _ _ | with_reducible assumption | with_reducible refine Below.drew ?_ | with_reducible refine below_alloc ?_ _ | ((with_reducible refine Below.setCell ?_ ?_ _); rotate_left; (focus (first | with_reducible exact Nat.le_refl _ | (simp; done) | (simp; omega) | omega))) | (with_reducible refine below_trans ?_ (by assumption)))⟩
set_option maxHeartbeats 400000 in
theorem Class_4 (b : Nat) (hb : b < 18446744073709551616) (w : World) (hT : Tab w) (hk : whk b = false) (hf : fin b = false) (h1 : (((b : Nat) : Int) == 9218868437227405312) = true) :
    Calls Tryd.prog 58 #[.int .u64 b] w fun e w' => e = .returned (.int .i64 4) ∧ Below w.heap.size w w' := by
  have hn2 := beh_le b
  go_enter Tryd.func58, Tryd.ntmps58
  repeat any_goals (first | (go_at_call 40; refine (Whole_any b hb _ hT).mono ?_; rintro e w1 ⟨rfl, hb1⟩) | (go_at_call 76; refine (parts_any b hb _ ((hT.below hb1).alloc _)).mono ?_; rintro e w' ⟨rfl, rfl⟩) | (go_at_call 90; refine (Behind_any b hb _ ((hT.below hb1).alloc _)).mono ?_; rintro e w' ⟨rfl, rfl⟩) | go_skip | go_guarded | go_step | go_upon | (dsimp only []))
  go_ret
  exact ⟨by simp, by (repeat first | with_reducible exact Below.refl _ _ | with_reducible assumption | with_reducible refine Below.drew ?_ | with_reducible refine below_alloc ?_ _ | ((with_reducible refine Below.setCell ?_ ?_ _); rotate_left; (focus (first | with_reducible exact Nat.le_refl _ | (simp; done) | (simp; omega) | omega))) | (with_reducible refine below_trans ?_ (by assumption)))⟩
set_option maxHeartbeats 400000 in
theorem Class_8 (b : Nat) (hb : b < 18446744073709551616) (w : World) (hT : Tab w) (hk : whk b = false) (hf : fin b = false) (h1 : (((b : Nat) : Int) == 9218868437227405312) = false) (h2 : (((b : Nat) : Int) == 18442240474082181120) = true) :
    Calls Tryd.prog 58 #[.int .u64 b] w fun e w' => e = .returned (.int .i64 8) ∧ Below w.heap.size w w' := by
  have hn2 := beh_le b
  go_enter Tryd.func58, Tryd.ntmps58
  repeat any_goals (first | (go_at_call 40; refine (Whole_any b hb _ hT).mono ?_; rintro e w1 ⟨rfl, hb1⟩) | (go_at_call 76; refine (parts_any b hb _ ((hT.below hb1).alloc _)).mono ?_; rintro e w' ⟨rfl, rfl⟩) | (go_at_call 90; refine (Behind_any b hb _ ((hT.below hb1).alloc _)).mono ?_; rintro e w' ⟨rfl, rfl⟩) | go_skip | go_guarded | go_step | go_upon | (dsimp only []))
  go_ret
  exact ⟨by simp, by (repeat first | with_reducible exact Below.refl _ _ | with_reducible assumption | with_reducible refine Below.drew ?_ | with_reducible refine below_alloc ?_ _ | ((with_reducible refine Below.setCell ?_ ?_ _); rotate_left; (focus (first | with_reducible exact Nat.le_refl _ | (simp; done) | (simp; omega) | omega))) | (with_reducible refine below_trans ?_ (by assumption)))⟩
set_option maxHeartbeats 400000 in
theorem Class_16 (b : Nat) (hb : b < 18446744073709551616) (w : World) (hT : Tab w) (hk : whk b = false) (hf : fin b = false) (h1 : (((b : Nat) : Int) == 9218868437227405312) = false) (h2 : (((b : Nat) : Int) == 18442240474082181120) = false) :
    Calls Tryd.prog 58 #[.int .u64 b] w fun e w' => e = .returned (.int .i64 16) ∧ Below w.heap.size w w' := by
  have hn2 := beh_le b
  go_enter Tryd.func58, Tryd.ntmps58
  repeat any_goals (first | (go_at_call 40; refine (Whole_any b hb _ hT).mono ?_; rintro e w1 ⟨rfl, hb1⟩) | (go_at_call 76; refine (parts_any b hb _ ((hT.below hb1).alloc _)).mono ?_; rintro e w' ⟨rfl, rfl⟩) | (go_at_call 90; refine (Behind_any b hb _ ((hT.below hb1).alloc _)).mono ?_; rintro e w' ⟨rfl, rfl⟩) | go_skip | go_guarded | go_step | go_upon | (dsimp only []))
  go_ret
  exact ⟨by simp, by (repeat first | with_reducible exact Below.refl _ _ | with_reducible assumption | with_reducible refine Below.drew ?_ | with_reducible refine below_alloc ?_ _ | ((with_reducible refine Below.setCell ?_ ?_ _); rotate_left; (focus (first | with_reducible exact Nat.le_refl _ | (simp; done) | (simp; omega) | omega))) | (with_reducible refine below_trans ?_ (by assumption)))⟩
/-- **Class.** -/
theorem Class_any (b : Nat) (hb : b < 18446744073709551616) (w : World) (hT : Tab w) :
    Calls Tryd.prog 58 #[.int .u64 b] w fun e w' => e = .returned (.int .i64 (cls b)) ∧ Below w.heap.size w w' := by
  cases hk : whk b with
  | true => rw [cls_0 hk]; exact Class_0 b hb w hT hk
  | false =>
    cases hf : fin b with
    | true =>
      by_cases h1 : 1 ≤ beh b
      · by_cases h2 : beh b ≤ 64
        · rw [cls_1 hk hf h1 h2]; exact Class_1 b hb w hT hk hf (by omega) (by omega)
        · rw [cls_2 hk hf (by omega)]; exact Class_2b b hb w hT hk hf (by omega)
      · rw [cls_2 hk hf (by omega)]; exact Class_2a b hb w hT hk hf (by omega)
    | false =>
      by_cases h1 : b = 9218868437227405312
      · rw [cls_4 hk hf h1]; exact Class_4 b hb w hT hk hf (by simp; omega)
      · by_cases h2 : b = 18442240474082181120
        · rw [cls_8 hk hf h2]; exact Class_8 b hb w hT hk hf (by simp; omega) (by simp; omega)
        · rw [cls_16 hk hf h1 h2]; exact Class_16 b hb w hT hk hf (by simp; omega) (by simp; omega)
theorem cls_16_iff {b : Nat} : cls b = 16 ↔ fin b = false ∧ b ≠ 9218868437227405312 ∧ b ≠ 18442240474082181120 := by
  constructor
  · intro h
    cases hk : whk b with
    | true => rw [cls_0 hk] at h; omega
    | false =>
      cases hf : fin b with
      | true =>
        by_cases h1 : 1 ≤ beh b ∧ beh b ≤ 64
        · rw [cls_1 hk hf h1.1 h1.2] at h; omega
        · rw [cls_2 hk hf h1] at h; omega
      | false =>
        refine ⟨rfl, fun h1 => ?_, fun h1 => ?_⟩
        · rw [cls_4 hk hf h1] at h; omega
        · rw [cls_8 hk hf h1] at h; omega
  · rintro ⟨hf, h1, h2⟩
    have hk : whk b = false := by
      cases hk : whk b
      · rfl
      · rw [fin_of_whk hk] at hf; cases hf
    exact cls_16 hk hf h1 h2
set_option maxHeartbeats 400000 in
/-- **May.** -/
theorem MayF_any (b : Nat) (hb : b < 18446744073709551616) (w : World) (hT : Tab w) :
    Calls Tryd.prog 72 #[.int .u64 b] w fun e w' => e = .returned (.bool (mayF b)) ∧ Below w.heap.size w w' := by
  have HM := Lib.hid (show mayF b = (cls b != 0 && (cls b != 16 || ((b : Nat) : Int) == 9221120237041090560)) by
    unfold mayF; congr 2; simp only [Bool.beq_eq_decide_eq, decide_eq_decide]; omega)
  by_cases h0 : (cls b != 0) = true
  · by_cases h1 : (cls b != 16) = true
    · go_enter Tryd.func72, Tryd.ntmps72
      repeat any_goals (first | (go_at_call 58; refine (Class_any b hb _ hT).mono ?_; rintro e w1 ⟨rfl, hb1⟩) | go_skip | go_guarded | go_step | go_upon | (dsimp only []))
      go_ret
      exact ⟨by simp [HM.out, h0, h1], by (repeat first | with_reducible exact Below.refl _ _ | with_reducible assumption | with_reducible refine Below.drew ?_ | with_reducible refine below_alloc ?_ _ | ((with_reducible refine Below.setCell ?_ ?_ _); rotate_left; (focus (first | with_reducible exact Nat.le_refl _ | (simp; done) | (simp; omega) | omega))) | (with_reducible refine below_trans ?_ (by assumption)))⟩
    · have h1' : (cls b != 16) = false := by simpa using h1
      clear h1
      go_enter Tryd.func72, Tryd.ntmps72
      repeat any_goals (first | (go_at_call 58; refine (Class_any b hb _ hT).mono ?_; rintro e w1 ⟨rfl, hb1⟩) | go_skip | go_guarded | go_step | go_upon | (dsimp only []))
      go_ret
      exact ⟨by simp [HM.out, h0, h1'], by (repeat first | with_reducible exact Below.refl _ _ | with_reducible assumption | with_reducible refine Below.drew ?_ | with_reducible refine below_alloc ?_ _ | ((with_reducible refine Below.setCell ?_ ?_ _); rotate_left; (focus (first | with_reducible exact Nat.le_refl _ | (simp; done) | (simp; omega) | omega))) | (with_reducible refine below_trans ?_ (by assumption)))⟩
  · have h0' : (cls b != 0) = false := by simpa using h0
    clear h0
    go_enter Tryd.func72, Tryd.ntmps72
    repeat any_goals (first | (go_at_call 58; refine (Class_any b hb _ hT).mono ?_; rintro e w1 ⟨rfl, hb1⟩) | go_skip | go_guarded | go_step | go_upon | (dsimp only []))
    go_ret
    exact ⟨by simp [HM.out, h0'], by (repeat first | with_reducible exact Below.refl _ _ | with_reducible assumption | with_reducible refine Below.drew ?_ | with_reducible refine below_alloc ?_ _ | ((with_reducible refine Below.setCell ?_ ?_ _); rotate_left; (focus (first | with_reducible exact Nat.le_refl _ | (simp; done) | (simp; omega) | omega))) | (with_reducible refine below_trans ?_ (by assumption)))⟩
set_option maxHeartbeats 400000 in
/-- **Canon.** -/
theorem Canon_any (b : Nat) (hb : b < 18446744073709551616) (w : World) (hT : Tab w) :
    Calls Tryd.prog 41 #[.int .u64 b] w fun e w' => e = .returned (.int .u64 (canonF b : Nat)) ∧ Below w.heap.size w w' := by
  by_cases h : cls b = 16
  · have HC := Lib.hid (show ((canonF b : Nat) : Int) = 9221120237041090560 by unfold canonF; rw [if_pos h]; rfl)
    have ht : (cls b == 16) = true := by simp [h]
    clear h
    go_enter Tryd.func41, Tryd.ntmps41
    repeat any_goals (first | (go_at_call 58; refine (Class_any b hb _ hT).mono ?_; rintro e w1 ⟨rfl, hb1⟩) | go_skip | go_guarded | go_step | go_upon | (dsimp only []))
    go_ret
    exact ⟨by simp [HC.out], by (repeat first | with_reducible exact Below.refl _ _ | with_reducible assumption | with_reducible refine Below.drew ?_ | with_reducible refine below_alloc ?_ _ | ((with_reducible refine Below.setCell ?_ ?_ _); rotate_left; (focus (first | with_reducible exact Nat.le_refl _ | (simp; done) | (simp; omega) | omega))) | (with_reducible refine below_trans ?_ (by assumption)))⟩
  · have HC := Lib.hid (show canonF b = b by unfold canonF; rw [if_neg h])
    have ht : (cls b == 16) = false := by simp [h]
    clear h
    go_enter Tryd.func41, Tryd.ntmps41
    repeat any_goals (first | (go_at_call 58; refine (Class_any b hb _ hT).mono ?_; rintro e w1 ⟨rfl, hb1⟩) | go_skip | go_guarded | go_step | go_upon | (dsimp only []))
    go_ret
    exact ⟨by simp [HC.out], by (repeat first | with_reducible exact Below.refl _ _ | with_reducible assumption | with_reducible refine Below.drew ?_ | with_reducible refine below_alloc ?_ _ | ((with_reducible refine Below.setCell ?_ ?_ _); rotate_left; (focus (first | with_reducible exact Nat.le_refl _ | (simp; done) | (simp; omega) | omega))) | (with_reducible refine below_trans ?_ (by assumption)))⟩
end Go.Proofs.YtminijokbeclhaaDoor
