/- Contracts of package float: Whole, Behind, Class, May, Canon. -/
import Derived.Test.YtminijokbeclhaaDoorShl
import Derived.Test.YtminijokbeclhaaDoorFlA
import Derived.Test.YtminijokbeclhaaDoorMathFlB
namespace Go.Proofs.YtminijokbeclhaaDoor
open Go.RowKit
theorem Shl_one (m : Nat) (hm : m < 18446744073709551616) (k : Int) (w : World) (hk0 : -9223372036854775808 ≤ k) (hk1 : k < 9223372036854775808) :
    Calls Tryd.prog 77 #[.agg #[.int .u64 (m : Int), .int .u64 0, .int .u64 0, .int .u64 0], .int .i64 k] w fun e w' => e = .returned (.tuple #[.agg #[.int .u64 (lm (shlV m k) 0 : Nat), .int .u64 (lm (shlV m k) 1 : Nat), .int .u64 (lm (shlV m k) 2 : Nat), .int .u64 (lm (shlV m k) 3 : Nat)], .bool (shlOk m k)]) ∧ Below w.heap.size w w' := by
  have h := Shl_any m 0 0 0 hm (by decide) (by decide) (by decide) k w hk0 hk1
  rw [of4_0] at h
  exact h
set_option maxHeartbeats 400000 in
theorem Whole_no (b : Nat) (hb : b < 18446744073709551616) (w : World) (hT : Tab w) (h : fin b = false ∨ pk b < 0) :
    Calls Tryd.prog 40 #[.int .u64 b] w fun e w' => e = .returned (.tuple #[.agg #[.bool false, .int .u64 0, .int .u64 0, .int .u64 0, .int .u64 0], .bool false]) ∧ Below w.heap.size w w' := by
  have hT1 := hT.alloc
  rcases h with h | h
  · go_enter Tryd.func40, Tryd.ntmps40
    go_wp2_with (first | (go_at_call 76; refine (parts_any b hb _ (hT1 _)).mono ?_; rintro e w' ⟨rfl, rfl⟩))
    refine bodyPost_ret (v := .tuple #[.agg #[.bool false, .int .u64 0, .int .u64 0, .int .u64 0, .int .u64 0], .bool false]) ?_ rfl ⟨rfl, by (repeat first | with_reducible exact Below.refl _ _ | with_reducible assumption | with_reducible refine Below.drew ?_ | ((with_reducible refine Below.alloc ?_ ?_ _); rotate_left; (focus (first | with_reducible exact Nat.le_refl _ | (simp; done) | (simp; omega) | omega))) | ((with_reducible refine Below.setCell ?_ ?_ _); rotate_left; (focus (first | with_reducible exact Nat.le_refl _ | (simp; done) | (simp; omega) | omega))) | ((with_reducible refine Below.trans ?_ (Below.mono (by assumption) ?_)); rotate_left; (focus (first | with_reducible exact Nat.le_refl _ | (simp; done) | (simp; omega) | omega))))⟩
    simp [results, Tryd.results40, go_sem]
  · cases hf : fin b
    · go_enter Tryd.func40, Tryd.ntmps40
      go_wp2_with (first | (go_at_call 76; refine (parts_any b hb _ (hT1 _)).mono ?_; rintro e w' ⟨rfl, rfl⟩))
      refine bodyPost_ret (v := .tuple #[.agg #[.bool false, .int .u64 0, .int .u64 0, .int .u64 0, .int .u64 0], .bool false]) ?_ rfl ⟨rfl, by (repeat first | with_reducible exact Below.refl _ _ | with_reducible assumption | with_reducible refine Below.drew ?_ | ((with_reducible refine Below.alloc ?_ ?_ _); rotate_left; (focus (first | with_reducible exact Nat.le_refl _ | (simp; done) | (simp; omega) | omega))) | ((with_reducible refine Below.setCell ?_ ?_ _); rotate_left; (focus (first | with_reducible exact Nat.le_refl _ | (simp; done) | (simp; omega) | omega))) | ((with_reducible refine Below.trans ?_ (Below.mono (by assumption) ?_)); rotate_left; (focus (first | with_reducible exact Nat.le_refl _ | (simp; done) | (simp; omega) | omega))))⟩
      simp [results, Tryd.results40, go_sem]
    · go_enter Tryd.func40, Tryd.ntmps40
      go_wp2_with (first | (go_at_call 76; refine (parts_any b hb _ (hT1 _)).mono ?_; rintro e w' ⟨rfl, rfl⟩))
      refine bodyPost_ret (v := .tuple #[.agg #[.bool false, .int .u64 0, .int .u64 0, .int .u64 0, .int .u64 0], .bool false]) ?_ rfl ⟨rfl, by (repeat first | with_reducible exact Below.refl _ _ | with_reducible assumption | with_reducible refine Below.drew ?_ | ((with_reducible refine Below.alloc ?_ ?_ _); rotate_left; (focus (first | with_reducible exact Nat.le_refl _ | (simp; done) | (simp; omega) | omega))) | ((with_reducible refine Below.setCell ?_ ?_ _); rotate_left; (focus (first | with_reducible exact Nat.le_refl _ | (simp; done) | (simp; omega) | omega))) | ((with_reducible refine Below.trans ?_ (Below.mono (by assumption) ?_)); rotate_left; (focus (first | with_reducible exact Nat.le_refl _ | (simp; done) | (simp; omega) | omega))))⟩
      simp [results, Tryd.results40, go_sem]
set_option maxHeartbeats 400000 in
theorem Whole_no2 (b : Nat) (hb : b < 18446744073709551616) (w : World) (hT : Tab w) (hf : fin b = true) (hk : 0 ≤ pk b) (hs : shlOk (pm b) (pk b) = false) :
    Calls Tryd.prog 40 #[.int .u64 b] w fun e w' => e = .returned (.tuple #[.agg #[.bool false, .int .u64 0, .int .u64 0, .int .u64 0, .int .u64 0], .bool false]) ∧ Below w.heap.size w w' := by
  have hT1 := hT.alloc
  have hm := pm_lt b
  have hk2 := pk_le b
  go_enter Tryd.func40, Tryd.ntmps40
  repeat any_goals (first | (go_at_call 76; refine (parts_any b hb _ (hT1 _)).mono ?_; rintro e w' ⟨rfl, rfl⟩) | (go_at_call 78; refine (Of_eq _ _).mono ?_; rintro e w' ⟨rfl, rfl⟩) | (go_at_call 77; refine (Shl_one (pm b) (by omega) (pk b) _ (by omega) (by omega)).mono ?_; rintro e w1 ⟨rfl, hb1⟩; have hl_w1_0 : w.heap.size < w1.heap.size := (by have h_ := (hb1).size; simp at h_; omega); have c_w1_0_0 := (hb1).cell (p := ⟨w.heap.size, 0, none⟩) (by first | (simp; done) | (simp; omega)); simp [go_sem] at c_w1_0_0; have f_w1_0_0 := (hb1).frozen (p := ⟨w.heap.size, 0, none⟩) (by first | (simp; done) | (simp; omega)); simp [go_sem] at f_w1_0_0; have c_w1_0_1 := (hb1).cell (p := ⟨w.heap.size, 1, none⟩) (by first | (simp; done) | (simp; omega)); simp [go_sem] at c_w1_0_1; have f_w1_0_1 := (hb1).frozen (p := ⟨w.heap.size, 1, none⟩) (by first | (simp; done) | (simp; omega)); simp [go_sem] at f_w1_0_1; have c_w1_0_2 := (hb1).cell (p := ⟨w.heap.size, 2, none⟩) (by first | (simp; done) | (simp; omega)); simp [go_sem] at c_w1_0_2; have f_w1_0_2 := (hb1).frozen (p := ⟨w.heap.size, 2, none⟩) (by first | (simp; done) | (simp; omega)); simp [go_sem] at f_w1_0_2; have c_w1_0_3 := (hb1).cell (p := ⟨w.heap.size, 3, none⟩) (by first | (simp; done) | (simp; omega)); simp [go_sem] at c_w1_0_3; have f_w1_0_3 := (hb1).frozen (p := ⟨w.heap.size, 3, none⟩) (by first | (simp; done) | (simp; omega)); simp [go_sem] at f_w1_0_3; have c_w1_0_4 := (hb1).cell (p := ⟨w.heap.size, 4, none⟩) (by first | (simp; done) | (simp; omega)); simp [go_sem] at c_w1_0_4; have f_w1_0_4 := (hb1).frozen (p := ⟨w.heap.size, 4, none⟩) (by first | (simp; done) | (simp; omega)); simp [go_sem] at f_w1_0_4) | go_skip | go_guarded | go_step | go_upon | (dsimp only []))
  refine bodyPost_ret (v := .tuple #[.agg #[.bool false, .int .u64 0, .int .u64 0, .int .u64 0, .int .u64 0], .bool false]) ?_ rfl ⟨rfl, by (repeat first | with_reducible exact Below.refl _ _ | with_reducible assumption | with_reducible refine Below.drew ?_ | ((with_reducible refine Below.alloc ?_ ?_ _); rotate_left; (focus (first | with_reducible exact Nat.le_refl _ | (simp; done) | (simp; omega) | omega))) | ((with_reducible refine Below.setCell ?_ ?_ _); rotate_left; (focus (first | with_reducible exact Nat.le_refl _ | (simp; done) | (simp; omega) | omega))) | ((with_reducible refine Below.trans ?_ (Below.mono (by assumption) ?_)); rotate_left; (focus (first | with_reducible exact Nat.le_refl _ | (simp; done) | (simp; omega) | omega))))⟩
  simp [results, Tryd.results40, go_sem, hl_w1_0, c_w1_0_0, c_w1_0_1, c_w1_0_2, c_w1_0_3, c_w1_0_4]
set_option maxHeartbeats 400000 in
theorem Whole_yes (b : Nat) (hb : b < 18446744073709551616) (w : World) (hT : Tab w) (hf : fin b = true) (hk : 0 ≤ pk b) (hs : shlOk (pm b) (pk b) = true) :
    Calls Tryd.prog 40 #[.int .u64 b] w fun e w' => e = .returned (.tuple #[.agg #[.bool (whN b ), .int .u64 (lm ( shlV (pm b) (pk b)) 0 : Nat), .int .u64 (lm ( shlV (pm b) (pk b)) 1 : Nat), .int .u64 (lm ( shlV (pm b) (pk b)) 2 : Nat), .int .u64 (lm ( shlV (pm b) (pk b)) 3 : Nat)], .bool true]) ∧ Below w.heap.size w w' := by
  have hT1 := hT.alloc
  have hm := pm_lt b
  have hk2 := pk_le b
  have hn : whN b = (decide (b / 9223372036854775808 = 1) && decide (0 < pm b)) := by simp [whN, whk, hf, hk, hs]; rfl
  have HN := Lib.hid hn
  clear hn
  by_cases g : (b : Int) / 9223372036854775808 = 1
  · have HG := Lib.hid (show b / 9223372036854775808 = 1 by omega)
    go_enter Tryd.func40, Tryd.ntmps40
    repeat any_goals (first | (go_at_call 76; refine (parts_any b hb _ (hT1 _)).mono ?_; rintro e w' ⟨rfl, rfl⟩) | (go_at_call 78; refine (Of_eq _ _).mono ?_; rintro e w' ⟨rfl, rfl⟩) | (go_at_call 77; refine (Shl_one (pm b) (by omega) (pk b) _ (by omega) (by omega)).mono ?_; rintro e w1 ⟨rfl, hb1⟩; have hl_w1_0 : w.heap.size < w1.heap.size := (by have h_ := (hb1).size; simp at h_; omega); have c_w1_0_0 := (hb1).cell (p := ⟨w.heap.size, 0, none⟩) (by first | (simp; done) | (simp; omega)); simp [go_sem] at c_w1_0_0; have f_w1_0_0 := (hb1).frozen (p := ⟨w.heap.size, 0, none⟩) (by first | (simp; done) | (simp; omega)); simp [go_sem] at f_w1_0_0; have c_w1_0_1 := (hb1).cell (p := ⟨w.heap.size, 1, none⟩) (by first | (simp; done) | (simp; omega)); simp [go_sem] at c_w1_0_1; have f_w1_0_1 := (hb1).frozen (p := ⟨w.heap.size, 1, none⟩) (by first | (simp; done) | (simp; omega)); simp [go_sem] at f_w1_0_1; have c_w1_0_2 := (hb1).cell (p := ⟨w.heap.size, 2, none⟩) (by first | (simp; done) | (simp; omega)); simp [go_sem] at c_w1_0_2; have f_w1_0_2 := (hb1).frozen (p := ⟨w.heap.size, 2, none⟩) (by first | (simp; done) | (simp; omega)); simp [go_sem] at f_w1_0_2; have c_w1_0_3 := (hb1).cell (p := ⟨w.heap.size, 3, none⟩) (by first | (simp; done) | (simp; omega)); simp [go_sem] at c_w1_0_3; have f_w1_0_3 := (hb1).frozen (p := ⟨w.heap.size, 3, none⟩) (by first | (simp; done) | (simp; omega)); simp [go_sem] at f_w1_0_3; have c_w1_0_4 := (hb1).cell (p := ⟨w.heap.size, 4, none⟩) (by first | (simp; done) | (simp; omega)); simp [go_sem] at c_w1_0_4; have f_w1_0_4 := (hb1).frozen (p := ⟨w.heap.size, 4, none⟩) (by first | (simp; done) | (simp; omega)); simp [go_sem] at f_w1_0_4) | go_skip | go_guarded | go_step | go_upon | (dsimp only []))
    refine bodyPost_ret (v := .tuple #[.agg #[.bool (whN b ), .int .u64 (lm ( shlV (pm b) (pk b)) 0 : Nat), .int .u64 (lm ( shlV (pm b) (pk b)) 1 : Nat), .int .u64 (lm ( shlV (pm b) (pk b)) 2 : Nat), .int .u64 (lm ( shlV (pm b) (pk b)) 3 : Nat)], .bool true]) ?_ rfl ⟨rfl, by (repeat first | with_reducible exact Below.refl _ _ | with_reducible assumption | with_reducible refine Below.drew ?_ | ((with_reducible refine Below.alloc ?_ ?_ _); rotate_left; (focus (first | with_reducible exact Nat.le_refl _ | (simp; done) | (simp; omega) | omega))) | ((with_reducible refine Below.setCell ?_ ?_ _); rotate_left; (focus (first | with_reducible exact Nat.le_refl _ | (simp; done) | (simp; omega) | omega))) | ((with_reducible refine Below.trans ?_ (Below.mono (by assumption) ?_)); rotate_left; (focus (first | with_reducible exact Nat.le_refl _ | (simp; done) | (simp; omega) | omega))))⟩
    simp [results, Tryd.results40, go_sem, hl_w1_0, c_w1_0_0, c_w1_0_1, c_w1_0_2, c_w1_0_3, c_w1_0_4, HN.out, HG.out]
  · have HG := Lib.hid (show ¬ b / 9223372036854775808 = 1 by omega)
    go_enter Tryd.func40, Tryd.ntmps40
    repeat any_goals (first | (go_at_call 76; refine (parts_any b hb _ (hT1 _)).mono ?_; rintro e w' ⟨rfl, rfl⟩) | (go_at_call 78; refine (Of_eq _ _).mono ?_; rintro e w' ⟨rfl, rfl⟩) | (go_at_call 77; refine (Shl_one (pm b) (by omega) (pk b) _ (by omega) (by omega)).mono ?_; rintro e w1 ⟨rfl, hb1⟩; have hl_w1_0 : w.heap.size < w1.heap.size := (by have h_ := (hb1).size; simp at h_; omega); have c_w1_0_0 := (hb1).cell (p := ⟨w.heap.size, 0, none⟩) (by first | (simp; done) | (simp; omega)); simp [go_sem] at c_w1_0_0; have f_w1_0_0 := (hb1).frozen (p := ⟨w.heap.size, 0, none⟩) (by first | (simp; done) | (simp; omega)); simp [go_sem] at f_w1_0_0; have c_w1_0_1 := (hb1).cell (p := ⟨w.heap.size, 1, none⟩) (by first | (simp; done) | (simp; omega)); simp [go_sem] at c_w1_0_1; have f_w1_0_1 := (hb1).frozen (p := ⟨w.heap.size, 1, none⟩) (by first | (simp; done) | (simp; omega)); simp [go_sem] at f_w1_0_1; have c_w1_0_2 := (hb1).cell (p := ⟨w.heap.size, 2, none⟩) (by first | (simp; done) | (simp; omega)); simp [go_sem] at c_w1_0_2; have f_w1_0_2 := (hb1).frozen (p := ⟨w.heap.size, 2, none⟩) (by first | (simp; done) | (simp; omega)); simp [go_sem] at f_w1_0_2; have c_w1_0_3 := (hb1).cell (p := ⟨w.heap.size, 3, none⟩) (by first | (simp; done) | (simp; omega)); simp [go_sem] at c_w1_0_3; have f_w1_0_3 := (hb1).frozen (p := ⟨w.heap.size, 3, none⟩) (by first | (simp; done) | (simp; omega)); simp [go_sem] at f_w1_0_3; have c_w1_0_4 := (hb1).cell (p := ⟨w.heap.size, 4, none⟩) (by first | (simp; done) | (simp; omega)); simp [go_sem] at c_w1_0_4; have f_w1_0_4 := (hb1).frozen (p := ⟨w.heap.size, 4, none⟩) (by first | (simp; done) | (simp; omega)); simp [go_sem] at f_w1_0_4) | go_skip | go_guarded | go_step | go_upon | (dsimp only []))
    refine bodyPost_ret (v := .tuple #[.agg #[.bool (whN b ), .int .u64 (lm ( shlV (pm b) (pk b)) 0 : Nat), .int .u64 (lm ( shlV (pm b) (pk b)) 1 : Nat), .int .u64 (lm ( shlV (pm b) (pk b)) 2 : Nat), .int .u64 (lm ( shlV (pm b) (pk b)) 3 : Nat)], .bool true]) ?_ rfl ⟨rfl, by (repeat first | with_reducible exact Below.refl _ _ | with_reducible assumption | with_reducible refine Below.drew ?_ | ((with_reducible refine Below.alloc ?_ ?_ _); rotate_left; (focus (first | with_reducible exact Nat.le_refl _ | (simp; done) | (simp; omega) | omega))) | ((with_reducible refine Below.setCell ?_ ?_ _); rotate_left; (focus (first | with_reducible exact Nat.le_refl _ | (simp; done) | (simp; omega) | omega))) | ((with_reducible refine Below.trans ?_ (Below.mono (by assumption) ?_)); rotate_left; (focus (first | with_reducible exact Nat.le_refl _ | (simp; done) | (simp; omega) | omega))))⟩
    simp [results, Tryd.results40, go_sem, hl_w1_0, c_w1_0_0, c_w1_0_1, c_w1_0_2, c_w1_0_3, c_w1_0_4, HN.out, HG.out]
/-- **Whole.** -/
theorem Whole_any (b : Nat) (hb : b < 18446744073709551616) (w : World) (hT : Tab w) :
    Calls Tryd.prog 40 #[.int .u64 b] w fun e w' => e = .returned (.tuple #[.agg #[.bool (whN b ), .int .u64 (lm ( whV b) 0 : Nat), .int .u64 (lm ( whV b) 1 : Nat), .int .u64 (lm ( whV b) 2 : Nat), .int .u64 (lm ( whV b) 3 : Nat)], .bool (whk b)]) ∧ Below w.heap.size w w' := by
  by_cases h1 : fin b = false ∨ pk b < 0
  · have hk : whk b = false := by
      unfold whk
      rcases h1 with h | h
      · simp [h]
      · have : ¬ 0 ≤ pk b := by omega
        simp [this]
    refine (Whole_no b hb w hT h1).mono ?_
    rintro e w' ⟨rfl, hb⟩
    exact ⟨by simp [whN, whV, hk, lm_zero], hb⟩
  · have hf : fin b = true := by
      cases h : fin b
      · exact absurd (Or.inl h) h1
      · rfl
    have h0 : 0 ≤ pk b := by omega
    cases hs : shlOk (pm b) (pk b) with
    | false =>
      have hk : whk b = false := by simp [whk, hs]
      refine (Whole_no2 b hb w hT hf h0 hs).mono ?_
      rintro e w' ⟨rfl, hb⟩
      exact ⟨by simp [whN, whV, hk, lm_zero], hb⟩
    | true =>
      have hk : whk b = true := by simp [whk, hs, hf, h0]
      refine (Whole_yes b hb w hT hf h0 hs).mono ?_
      rintro e w' ⟨rfl, hb⟩
      exact ⟨by simp [whV, hk, shlV, hs], hb⟩
end Go.Proofs.YtminijokbeclhaaDoor
