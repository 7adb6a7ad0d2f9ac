/- Contracts of package whole: of, Of(1). -/
import Derived.Test.YtpmfnhcnldoelaaDoorToHalf
import Derived.Test.YtpmfnhcnldoelaaDoorHalf
namespace Go.Proofs.YtpmfnhcnldoelaaDoor
open Go.RowKit
set_option maxHeartbeats 400000 in
theorem of_false (a0 a1 a2 a3 : Int) (w : World) :
    Calls Tryd.prog 66 #[.bool false, .agg #[.int .u64 a0, .int .u64 a1, .int .u64 a2, .int .u64 a3]] w fun e w' => e = .returned (.agg #[.bool false, .int .u64 a0, .int .u64 a1, .int .u64 a2, .int .u64 a3]) ∧ Below w.heap.size w w' := by
  go_enter Tryd.func66, Tryd.ntmps66
  repeat any_goals (first | fail | go_skip | go_guarded | go_step | go_upon | (dsimp only []))
  (refine still_tail 8 (by kernel_rfl) (by kernel_rfl) ?_; simp only [List.take_succ_cons, List.take_zero, List.drop_succ_cons, List.drop_zero]; (repeat still_step); refine wpStill_nil ?_)
  repeat any_goals (first | fail | go_skip | go_guarded | go_step | go_upon | (dsimp only []))
  refine bodyPost_ret (v := .agg #[.bool false, .int .u64 a0, .int .u64 a1, .int .u64 a2, .int .u64 a3]) ?_ rfl ⟨rfl, by (repeat first | with_reducible exact Below.refl _ _ | with_reducible assumption | with_reducible refine Below.drew ?_ | ((with_reducible refine Below.alloc ?_ ?_ _); rotate_left; (focus (first | with_reducible exact Nat.le_refl _ | (simp; done) | (simp; omega) | omega))) | ((with_reducible refine Below.setCell ?_ ?_ _); rotate_left; (focus (first | with_reducible exact Nat.le_refl _ | (simp; done) | (simp; omega) | omega))) | ((with_reducible refine Below.trans ?_ (Below.mono (by assumption) ?_)); rotate_left; (focus (first | with_reducible exact Nat.le_refl _ | (simp; done) | (simp; omega) | omega))))⟩
  simp [results, Tryd.results66, go_sem]
set_option maxHeartbeats 400000 in
theorem whole_Of_one (w : World) :
    Calls Tryd.prog 40 #[.int .i64 1] w fun e w' => e = .returned (.agg #[.bool false, .int .u64 1, .int .u64 0, .int .u64 0, .int .u64 0]) ∧ Below w.heap.size w w' := by
  go_enter Tryd.func40, Tryd.ntmps40
  repeat any_goals (first | (go_at_call 35; refine (Of_eq _ _).mono ?_; rintro e w' ⟨rfl, rfl⟩) | (go_at_call 66; refine (of_false _ _ _ _ _).mono ?_; rintro e w1 ⟨rfl, hb1⟩; have hl_w1_0 : w.heap.size < w1.heap.size := (by have h_ := (hb1).size; simp at h_; omega); have c_w1_0_0 := (hb1).cell (p := ⟨w.heap.size, 0, none⟩) (by first | (simp; done) | (simp; omega)); simp [go_sem] at c_w1_0_0; have f_w1_0_0 := (hb1).frozen (p := ⟨w.heap.size, 0, none⟩) (by first | (simp; done) | (simp; omega)); simp [go_sem] at f_w1_0_0; have c_w1_0_1 := (hb1).cell (p := ⟨w.heap.size, 1, none⟩) (by first | (simp; done) | (simp; omega)); simp [go_sem] at c_w1_0_1; have f_w1_0_1 := (hb1).frozen (p := ⟨w.heap.size, 1, none⟩) (by first | (simp; done) | (simp; omega)); simp [go_sem] at f_w1_0_1; have c_w1_0_2 := (hb1).cell (p := ⟨w.heap.size, 2, none⟩) (by first | (simp; done) | (simp; omega)); simp [go_sem] at c_w1_0_2; have f_w1_0_2 := (hb1).frozen (p := ⟨w.heap.size, 2, none⟩) (by first | (simp; done) | (simp; omega)); simp [go_sem] at f_w1_0_2; have c_w1_0_3 := (hb1).cell (p := ⟨w.heap.size, 3, none⟩) (by first | (simp; done) | (simp; omega)); simp [go_sem] at c_w1_0_3; have f_w1_0_3 := (hb1).frozen (p := ⟨w.heap.size, 3, none⟩) (by first | (simp; done) | (simp; omega)); simp [go_sem] at f_w1_0_3; have c_w1_0_4 := (hb1).cell (p := ⟨w.heap.size, 4, none⟩) (by first | (simp; done) | (simp; omega)); simp [go_sem] at c_w1_0_4; have f_w1_0_4 := (hb1).frozen (p := ⟨w.heap.size, 4, none⟩) (by first | (simp; done) | (simp; omega)); simp [go_sem] at f_w1_0_4) | go_skip | go_guarded | go_step | go_upon | (dsimp only []))
  refine bodyPost_ret (v := .agg #[.bool false, .int .u64 1, .int .u64 0, .int .u64 0, .int .u64 0]) ?_ rfl ⟨rfl, by (repeat first | with_reducible exact Below.refl _ _ | with_reducible assumption | with_reducible refine Below.drew ?_ | ((with_reducible refine Below.alloc ?_ ?_ _); rotate_left; (focus (first | with_reducible exact Nat.le_refl _ | (simp; done) | (simp; omega) | omega))) | ((with_reducible refine Below.setCell ?_ ?_ _); rotate_left; (focus (first | with_reducible exact Nat.le_refl _ | (simp; done) | (simp; omega) | omega))) | ((with_reducible refine Below.trans ?_ (Below.mono (by assumption) ?_)); rotate_left; (focus (first | with_reducible exact Nat.le_refl _ | (simp; done) | (simp; omega) | omega))))⟩
  simp [results, Tryd.results40, go_sem, c_w1_0_0, c_w1_0_1, c_w1_0_2, c_w1_0_3, c_w1_0_4]
/-- '==' on two numbers with a sign. -/
@[go_sem] theorem run_equalIn_int (d : Nat) (s : Bool) (a0 a1 a2 a3 : Int) (t : Bool) (b0 b1 b2 b3 : Int) (w : World) :
    (Op.equalIn (d + 3) 26 (.agg #[.bool s, .int .u64 a0, .int .u64 a1, .int .u64 a2, .int .u64 a3]) (.agg #[.bool t, .int .u64 b0, .int .u64 b1, .int .u64 b2, .int .u64 b3])).run Tryd.prog w = .ok (s == t && (a0 == b0 && a1 == b1 && a2 == b2 && a3 == b3)) w := by
  have h26 := @Tryd.underlying26
  have h24 := @Tryd.underlying24
  unfold Op.equalIn
  simp only [Sem.run_bind, run_underlying h26, Result.andThen_ok]
  simp [go_sem]
  by_cases e : s = t <;> by_cases e0 : a0 = b0 <;> by_cases e1 : a1 = b1 <;> by_cases e2 : a2 = b2 <;> by_cases e3 : a3 = b3 <;> simp [e, e0, e1, e2, e3]
/-! ### what `told` asks -/
theorem Whole_one (w : World) (hT : Tab w) : Calls Tryd.prog 11 #[.int .u64 4607182418800017408] w fun e w' => e = .returned (.tuple #[.agg #[.bool false, .int .u64 1, .int .u64 0, .int .u64 0, .int .u64 0], .bool true]) ∧ Below w.heap.size w w' := by
  have h := Whole_any 4607182418800017408 (by decide) w hT
  rw [show whN 4607182418800017408 = false from by decide +kernel, show whV 4607182418800017408 = 1 from by decide +kernel, show whk 4607182418800017408 = true from by decide +kernel] at h
  exact h
theorem ToHalf_1 (w : World) (hT : Tab w) : Calls Tryd.prog 24 #[.int .u64 4607182418800017408] w fun e w' => e = .returned (.tuple #[.int .u16 15360, .bool true]) ∧ Below w.heap.size w w' := by
  have h := ToHalf_any 4607182418800017408 (by decide) w hT
  rw [show thV 4607182418800017408 = 15360 from by decide +kernel, show thOk 4607182418800017408 = true from by decide +kernel] at h
  exact h
theorem Half_1 (w : World) : Calls Tryd.prog 26 #[.int .u16 15360] w fun e w' => e = .returned (.int .u64 4607182418800017408) ∧ w = w' := by
  have h := Half_any 15360 (by decide) w
  rw [show halfV 15360 = 4607182418800017408 from by decide +kernel] at h
  exact h
theorem Class_one (w : World) (hT : Tab w) : Calls Tryd.prog 14 #[.int .u64 4607182418800017408] w fun e w' => e = .returned (.int .i64 0) ∧ Below w.heap.size w w' := by
  have h := Class_any 4607182418800017408 (by decide) w hT
  rw [show cls 4607182418800017408 = 0 from by decide +kernel] at h
  exact h
theorem Class_half (w : World) (hT : Tab w) : Calls Tryd.prog 14 #[.int .u64 4602678819172646912] w fun e w' => e = .returned (.int .i64 1) ∧ Below w.heap.size w w' := by
  have h := Class_any 4602678819172646912 (by decide) w hT
  rw [show cls 4602678819172646912 = 1 from by decide +kernel] at h
  exact h
theorem Behind_half (w : World) (hT : Tab w) : Calls Tryd.prog 20 #[.int .u64 4602678819172646912] w fun e w' => e = .returned (.int .i64 1) ∧ w = w' := by
  have h := Behind_any 4602678819172646912 (by decide) w hT
  rw [show beh 4602678819172646912 = 1 from by decide +kernel] at h
  exact h
/-- What a region that draws keeps of a number with a sign in a block, of the table, of the old memory. -/
theorem keep_int {W w1 w2 : World} {B : Nat} {s : Bool} {a0 a1 a2 a3 : Int} (hB : B < W.heap.size)
    (h : w1.cell? ⟨B, 0, none⟩ = some (.bool s) ∧ w1.cell? ⟨B, 1, none⟩ = some (.int .u64 a0) ∧ w1.cell? ⟨B, 2, none⟩ = some (.int .u64 a1) ∧ w1.cell? ⟨B, 3, none⟩ = some (.int .u64 a2) ∧ w1.cell? ⟨B, 4, none⟩ = some (.int .u64 a3) ∧ Tab w1 ∧ Below W.heap.size W w1) (hb : Below w1.heap.size w1 w2) :
    w2.cell? ⟨B, 0, none⟩ = some (.bool s) ∧ w2.cell? ⟨B, 1, none⟩ = some (.int .u64 a0) ∧ w2.cell? ⟨B, 2, none⟩ = some (.int .u64 a1) ∧ w2.cell? ⟨B, 3, none⟩ = some (.int .u64 a2) ∧ w2.cell? ⟨B, 4, none⟩ = some (.int .u64 a3) ∧ Tab w2 ∧ Below W.heap.size W w2 := by
  obtain ⟨c0, c1, c2, c3, c4, t, b⟩ := h
  have hl : B < w1.heap.size := Nat.lt_of_lt_of_le hB b.size
  refine ⟨?_, ?_, ?_, ?_, ?_, t.below hb, below_trans b hb⟩
  · rw [hb.cell (p := ⟨B, 0, none⟩) hl]; exact c0
  · rw [hb.cell (p := ⟨B, 1, none⟩) hl]; exact c1
  · rw [hb.cell (p := ⟨B, 2, none⟩) hl]; exact c2
  · rw [hb.cell (p := ⟨B, 3, none⟩) hl]; exact c3
  · rw [hb.cell (p := ⟨B, 4, none⟩) hl]; exact c4
theorem held_tab {w : World} {A0 A1 A2 A3 A4 B : Prop} (h : A0 ∧ A1 ∧ A2 ∧ A3 ∧ A4 ∧ Tab w ∧ B) : Tab w := h.2.2.2.2.2.1
theorem held_below {A0 A1 A2 A3 A4 A5 B : Prop} (h : A0 ∧ A1 ∧ A2 ∧ A3 ∧ A4 ∧ A5 ∧ B) : B := h.2.2.2.2.2.2
set_option maxHeartbeats 1600000 in
/-- **told.** -/
theorem told_any (w : World) (hT : Tab w) :
    Calls Tryd.prog 13 #[] w fun e w' => e = .returned (.bool true) ∧ Below w.heap.size w w' := by
  go_enter Tryd.func13, Tryd.ntmps13
  repeat any_goals (first | (go_at_call 11; refine (Whole_one _ hT).mono ?_; rintro e w1 ⟨rfl, hb1⟩) | (go_at_call 24; refine (ToHalf_1 _ ((hT.below hb1).alloc _)).mono ?_; rintro e w2 ⟨rfl, hb2⟩; have hl_w2_0 : w1.heap.size < w2.heap.size := (by have h_ := (hb2).size; simp at h_; omega); have c_w2_0_0 := (hb2).cell (p := ⟨w1.heap.size, 0, none⟩) (by first | (simp; done) | (simp; omega)); simp [go_sem] at c_w2_0_0; have f_w2_0_0 := (hb2).frozen (p := ⟨w1.heap.size, 0, none⟩) (by first | (simp; done) | (simp; omega)); simp [go_sem] at f_w2_0_0; have c_w2_0_1 := (hb2).cell (p := ⟨w1.heap.size, 1, none⟩) (by first | (simp; done) | (simp; omega)); simp [go_sem] at c_w2_0_1; have f_w2_0_1 := (hb2).frozen (p := ⟨w1.heap.size, 1, none⟩) (by first | (simp; done) | (simp; omega)); simp [go_sem] at f_w2_0_1; have c_w2_0_2 := (hb2).cell (p := ⟨w1.heap.size, 2, none⟩) (by first | (simp; done) | (simp; omega)); simp [go_sem] at c_w2_0_2; have f_w2_0_2 := (hb2).frozen (p := ⟨w1.heap.size, 2, none⟩) (by first | (simp; done) | (simp; omega)); simp [go_sem] at f_w2_0_2; have c_w2_0_3 := (hb2).cell (p := ⟨w1.heap.size, 3, none⟩) (by first | (simp; done) | (simp; omega)); simp [go_sem] at c_w2_0_3; have f_w2_0_3 := (hb2).frozen (p := ⟨w1.heap.size, 3, none⟩) (by first | (simp; done) | (simp; omega)); simp [go_sem] at f_w2_0_3; have c_w2_0_4 := (hb2).cell (p := ⟨w1.heap.size, 4, none⟩) (by first | (simp; done) | (simp; omega)); simp [go_sem] at c_w2_0_4; have f_w2_0_4 := (hb2).frozen (p := ⟨w1.heap.size, 4, none⟩) (by first | (simp; done) | (simp; omega)); simp [go_sem] at f_w2_0_4) | go_skip | go_guarded | go_step | go_upon | (dsimp only []))
  have hTw := ((hT.below hb1).alloc _).below hb2
  have hW : w2.cell? ⟨w1.heap.size, 0, none⟩ = some (.bool false) ∧ w2.cell? ⟨w1.heap.size, 1, none⟩ = some (.int .u64 1) ∧ w2.cell? ⟨w1.heap.size, 2, none⟩ = some (.int .u64 0) ∧ w2.cell? ⟨w1.heap.size, 3, none⟩ = some (.int .u64 0) ∧ w2.cell? ⟨w1.heap.size, 4, none⟩ = some (.int .u64 0) ∧ Tab w2 ∧ Below w2.heap.size w2 w2 := ⟨by first | assumption | simp [*], by first | assumption | simp [*], by first | assumption | simp [*], by first | assumption | simp [*], by first | assumption | simp [*], hTw, Below.refl _ _⟩
  go_region_held3 (fun w' => w'.cell? ⟨w1.heap.size, 0, none⟩ = some (.bool false) ∧ w'.cell? ⟨w1.heap.size, 1, none⟩ = some (.int .u64 1) ∧ w'.cell? ⟨w1.heap.size, 2, none⟩ = some (.int .u64 0) ∧ w'.cell? ⟨w1.heap.size, 3, none⟩ = some (.int .u64 0) ∧ w'.cell? ⟨w1.heap.size, 4, none⟩ = some (.int .u64 0) ∧ Tab w' ∧ Below w2.heap.size w2 w')
    (first | with_reducible assumption | with_reducible exact keep_int hl_w2_0 (by assumption) (by assumption) | exact keep_int hl_w2_0 hW (Below.refl _ _).drew)
    (first | (go_at_call 26; with_reducible refine (Half_1 _).mono ?_; rintro e w' ⟨rfl, rfl⟩) | (go_at_call 40; with_reducible refine (whole_Of_one _).mono ?_; rintro e w3 ⟨rfl, hb3⟩) | (go_at_call 14; with_reducible refine (Class_one _ (held_tab (by with_reducible assumption))).mono ?_; rintro e w3 ⟨rfl, hb3⟩) | (go_at_call 14; with_reducible refine (Class_half _ (held_tab (by with_reducible assumption))).mono ?_; rintro e w3 ⟨rfl, hb3⟩) | (go_at_call 20; with_reducible refine (Behind_half _ (held_tab (by with_reducible assumption))).mono ?_; rintro e w' ⟨rfl, rfl⟩))
  have hF := held_below (by with_reducible assumption)
  have hA := below_trans (below_trans (below_trans (Below.refl _ _) hb1) (below_trans (below_alloc (Below.refl _ _) _) hb2)) hF
  go_wp2_with fail
  go_ret
  exact ⟨by simp, hA⟩
end Go.Proofs.YtpmfnhcnldoelaaDoor
