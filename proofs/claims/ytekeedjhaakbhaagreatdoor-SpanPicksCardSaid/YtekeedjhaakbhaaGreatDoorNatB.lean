/- Contracts of package nat: Low, Trail, Shl, Shr. -/
import Derived.Test.YtekeedjhaakbhaaGreatDoorNatA
import Derived.Deep.RegionHeld3
namespace Go.Proofs.YtekeedjhaakbhaaGreatDoor
open Go.RowKit
/-- '==' on two numbers of four limbs. -/
@[go_sem] theorem run_equalIn_nat (d : Nat) (a0 a1 a2 a3 b0 b1 b2 b3 : Int) (w : World) :
    (Op.equalIn (d + 2) 27 (.agg #[.int .u64 a0, .int .u64 a1, .int .u64 a2, .int .u64 a3]) (.agg #[.int .u64 b0, .int .u64 b1, .int .u64 b2, .int .u64 b3])).run Tryz.prog w = .ok (a0 == b0 && a1 == b1 && a2 == b2 && a3 == b3) w := by
  have h24 := @Tryz.underlying27
  have h22 := @Tryz.underlying25
  unfold Op.equalIn
  simp only [Sem.run_bind, run_underlying h24, Result.andThen_ok]
  simp [go_sem, Std.Legacy.Range.forIn_eq_forIn_range', List.range']
  by_cases e0 : a0 = b0 <;> by_cases e1 : a1 = b1 <;> by_cases e2 : a2 = b2 <;> by_cases e3 : a3 = b3 <;> simp [e0, e1, e2, e3]

/-- Of, with the very world behind it. -/
theorem Of_eq (v : Int) (w : World) :
    Calls Tryz.prog 79 #[.int .u64 v] w fun e w' => e = .returned (.agg #[.int .u64 v, .int .u64 0, .int .u64 0, .int .u64 0]) ∧ w.alloc (.cells #[.int .u64 v, .int .u64 0, .int .u64 0, .int .u64 0] 27) = w' := by
  go_enter Tryz.func79, Tryz.ntmps79
  go_wp2
  exact bodyPost_ret (v := .agg #[.int .u64 v, .int .u64 0, .int .u64 0, .int .u64 0]) (by simp [results, Tryz.results79, go_sem]) rfl ⟨rfl, rfl⟩

/-- Is a number of four limbs one of one limb? -/
def oneLimb (a1 a2 a3 : Nat) : Bool := a1 == 0 && a2 == 0 && a3 == 0
/-- Low's number. -/
def lowV (a0 a1 a2 a3 : Nat) : Nat := if oneLimb a1 a2 a3 = true then a0 else 0
theorem oneLimb_no {a1 a2 a3 : Nat} (h : ((!((a1 : Int) == 0)) = true ∨ (!((a2 : Int) == 0)) = true) ∨ (!((a3 : Int) == 0)) = true) : oneLimb a1 a2 a3 = false := by
  unfold oneLimb
  simp at h ⊢
  omega
theorem oneLimb_yes {a1 a2 a3 : Nat} (h : ((!((a1 : Int) == 0)) = false ∧ (!((a2 : Int) == 0)) = false) ∧ (!((a3 : Int) == 0)) = false) : oneLimb a1 a2 a3 = true := by
  unfold oneLimb
  simp at h ⊢
  omega
/-- The library's table lies where the program's text laid it. -/
def Tab (w : World) : Prop := TabAt 0 Lib.deBruijn64tab w
theorem Tab.lt {w : World} (h : Tab w) : 0 < w.heap.size :=
  World.block_lt_of_cell? w ⟨0, 0, none⟩ (h 0 (by decide))
theorem Tab.below {w w' : World} (h : Tab w) (hb : Below w.heap.size w w') : Tab w' := fun j hj => by
  rw [hb.cell (p := ⟨0, j, none⟩) h.lt]
  exact h j hj
theorem Tab.alloc {w : World} (h : Tab w) (o : Obj) : Tab (w.alloc o) := h.below ((Below.refl _ _).alloc (Nat.le_refl _) o)
theorem Tab.drew {w : World} (h : Tab w) : Tab w.drew := h.below (Below.refl _ _).drew

theorem Tz64_any (x : Nat) (h0 : 0 < x) (hx : x < 18446744073709551616) (w : World) (hT : Tab w) :
    Calls Tryz.prog 103 #[.int .u64 (x : Int)] w fun e w' => e = .returned (.int .i64 (tz x : Nat)) ∧ w = w' := by
  refine (Tryz.bits_TrailingZeros64 x hx w (fun _ => hT)).mono ?_
  rintro e w' ⟨rfl, rfl⟩
  rw [ctz64_eq h0 hx]
  exact ⟨rfl, rfl⟩
theorem tz64 {x : Nat} (h : x < 18446744073709551616) : tz x ≤ 64 := by
  by_cases h0 : x = 0
  · subst h0; simp [tz_zero]
  · have := tz_lt_bl (n := x) (by omega)
    have := bl64 h
    omega

/-- noughts at the end of four limbs -/
def trail4 (a0 a1 a2 a3 : Nat) : Nat := if a0 ≠ 0 then tz a0 else if a1 ≠ 0 then 64 + tz a1 else if a2 ≠ 0 then 128 + tz a2 else if a3 ≠ 0 then 192 + tz a3 else 256
set_option maxHeartbeats 400000 in
theorem Trail_0 (a0 a1 a2 a3 : Nat) (h0 : a0 < 18446744073709551616) (_h1 : a1 < 18446744073709551616) (_h2 : a2 < 18446744073709551616) (_h3 : a3 < 18446744073709551616) (w : World) (hT : Tab w)  (c0 : a0 ≠ 0) :
    Calls Tryz.prog 96 #[.agg #[.int .u64 a0, .int .u64 a1, .int .u64 a2, .int .u64 a3]] w fun e w' => e = .returned (.int .i64 ((tz a0 : Nat) : Int)) ∧ Below w.heap.size w w' := by
  have t0 := ne0t c0
  have p0 : 0 < a0 := by omega
  have b0 := tz64 h0
  have hT1 := hT.alloc
  have i0 : ∀ w, (Instr.index 27 (.agg #[.int .u64 a0, .int .u64 a1, .int .u64 a2, .int .u64 a3]) (.int .i64 0)).run Tryz.prog w = .ok (.int .u64 a0) w := fun _ => by kernel_rfl
  have i1 : ∀ w, (Instr.index 27 (.agg #[.int .u64 a0, .int .u64 a1, .int .u64 a2, .int .u64 a3]) (.int .i64 1)).run Tryz.prog w = .ok (.int .u64 a1) w := fun _ => by kernel_rfl
  have i2 : ∀ w, (Instr.index 27 (.agg #[.int .u64 a0, .int .u64 a1, .int .u64 a2, .int .u64 a3]) (.int .i64 2)).run Tryz.prog w = .ok (.int .u64 a2) w := fun _ => by kernel_rfl
  have i3 : ∀ w, (Instr.index 27 (.agg #[.int .u64 a0, .int .u64 a1, .int .u64 a2, .int .u64 a3]) (.int .i64 3)).run Tryz.prog w = .ok (.int .u64 a3) w := fun _ => by kernel_rfl
  clear c0
  go_enter Tryz.func96, Tryz.ntmps96
  go_wp2_with fail
  refine wp_loop_rounds 5 ?_
  iterate 1 (rw [rounds_succ]; go_wp2_with ((go_at_call 103; refine (Tz64_any _ (by assumption) (by assumption) _ (hT1 _)).mono ?_; rintro e w' ⟨rfl, rfl⟩)))
  go_ret
  exact ⟨by simp, by (repeat first | with_reducible exact Below.refl _ _ | with_reducible assumption | with_reducible refine Below.drew ?_ | ((with_reducible refine Below.alloc ?_ ?_ _); rotate_left; (focus (first | with_reducible exact Nat.le_refl _ | (simp; done) | (simp; omega) | omega))) | ((with_reducible refine Below.setCell ?_ ?_ _); rotate_left; (focus (first | with_reducible exact Nat.le_refl _ | (simp; done) | (simp; omega) | omega))) | ((with_reducible refine Below.trans ?_ (Below.mono (by assumption) ?_)); rotate_left; (focus (first | with_reducible exact Nat.le_refl _ | (simp; done) | (simp; omega) | omega))))⟩
set_option maxHeartbeats 400000 in
theorem Trail_1 (a0 a1 a2 a3 : Nat) (_h0 : a0 < 18446744073709551616) (h1 : a1 < 18446744073709551616) (_h2 : a2 < 18446744073709551616) (_h3 : a3 < 18446744073709551616) (w : World) (hT : Tab w) (c0 : a0 = 0) (c1 : a1 ≠ 0) :
    Calls Tryz.prog 96 #[.agg #[.int .u64 a0, .int .u64 a1, .int .u64 a2, .int .u64 a3]] w fun e w' => e = .returned (.int .i64 ((64 + tz a1 : Nat) : Int)) ∧ Below w.heap.size w w' := by
  have t0 := ne0f c0
  have t1 := ne0t c1
  have p1 : 0 < a1 := by omega
  have b1 := tz64 h1
  have hT1 := hT.alloc
  have i0 : ∀ w, (Instr.index 27 (.agg #[.int .u64 a0, .int .u64 a1, .int .u64 a2, .int .u64 a3]) (.int .i64 0)).run Tryz.prog w = .ok (.int .u64 a0) w := fun _ => by kernel_rfl
  have i1 : ∀ w, (Instr.index 27 (.agg #[.int .u64 a0, .int .u64 a1, .int .u64 a2, .int .u64 a3]) (.int .i64 1)).run Tryz.prog w = .ok (.int .u64 a1) w := fun _ => by kernel_rfl
  have i2 : ∀ w, (Instr.index 27 (.agg #[.int .u64 a0, .int .u64 a1, .int .u64 a2, .int .u64 a3]) (.int .i64 2)).run Tryz.prog w = .ok (.int .u64 a2) w := fun _ => by kernel_rfl
  have i3 : ∀ w, (Instr.index 27 (.agg #[.int .u64 a0, .int .u64 a1, .int .u64 a2, .int .u64 a3]) (.int .i64 3)).run Tryz.prog w = .ok (.int .u64 a3) w := fun _ => by kernel_rfl
  clear c0 c1
  go_enter Tryz.func96, Tryz.ntmps96
  go_wp2_with fail
  refine wp_loop_rounds 5 ?_
  iterate 2 (rw [rounds_succ]; go_wp2_with ((go_at_call 103; refine (Tz64_any _ (by assumption) (by assumption) _ (hT1 _)).mono ?_; rintro e w' ⟨rfl, rfl⟩)))
  go_ret
  exact ⟨by simp, by (repeat first | with_reducible exact Below.refl _ _ | with_reducible assumption | with_reducible refine Below.drew ?_ | ((with_reducible refine Below.alloc ?_ ?_ _); rotate_left; (focus (first | with_reducible exact Nat.le_refl _ | (simp; done) | (simp; omega) | omega))) | ((with_reducible refine Below.setCell ?_ ?_ _); rotate_left; (focus (first | with_reducible exact Nat.le_refl _ | (simp; done) | (simp; omega) | omega))) | ((with_reducible refine Below.trans ?_ (Below.mono (by assumption) ?_)); rotate_left; (focus (first | with_reducible exact Nat.le_refl _ | (simp; done) | (simp; omega) | omega))))⟩
set_option maxHeartbeats 400000 in
theorem Trail_2 (a0 a1 a2 a3 : Nat) (_h0 : a0 < 18446744073709551616) (_h1 : a1 < 18446744073709551616) (h2 : a2 < 18446744073709551616) (_h3 : a3 < 18446744073709551616) (w : World) (hT : Tab w) (c0 : a0 = 0) (c1 : a1 = 0) (c2 : a2 ≠ 0) :
    Calls Tryz.prog 96 #[.agg #[.int .u64 a0, .int .u64 a1, .int .u64 a2, .int .u64 a3]] w fun e w' => e = .returned (.int .i64 ((128 + tz a2 : Nat) : Int)) ∧ Below w.heap.size w w' := by
  have t0 := ne0f c0
  have t1 := ne0f c1
  have t2 := ne0t c2
  have p2 : 0 < a2 := by omega
  have b2 := tz64 h2
  have hT1 := hT.alloc
  have i0 : ∀ w, (Instr.index 27 (.agg #[.int .u64 a0, .int .u64 a1, .int .u64 a2, .int .u64 a3]) (.int .i64 0)).run Tryz.prog w = .ok (.int .u64 a0) w := fun _ => by kernel_rfl
  have i1 : ∀ w, (Instr.index 27 (.agg #[.int .u64 a0, .int .u64 a1, .int .u64 a2, .int .u64 a3]) (.int .i64 1)).run Tryz.prog w = .ok (.int .u64 a1) w := fun _ => by kernel_rfl
  have i2 : ∀ w, (Instr.index 27 (.agg #[.int .u64 a0, .int .u64 a1, .int .u64 a2, .int .u64 a3]) (.int .i64 2)).run Tryz.prog w = .ok (.int .u64 a2) w := fun _ => by kernel_rfl
  have i3 : ∀ w, (Instr.index 27 (.agg #[.int .u64 a0, .int .u64 a1, .int .u64 a2, .int .u64 a3]) (.int .i64 3)).run Tryz.prog w = .ok (.int .u64 a3) w := fun _ => by kernel_rfl
  clear c0 c1 c2
  go_enter Tryz.func96, Tryz.ntmps96
  go_wp2_with fail
  refine wp_loop_rounds 5 ?_
  iterate 3 (rw [rounds_succ]; go_wp2_with ((go_at_call 103; refine (Tz64_any _ (by assumption) (by assumption) _ (hT1 _)).mono ?_; rintro e w' ⟨rfl, rfl⟩)))
  go_ret
  exact ⟨by simp, by (repeat first | with_reducible exact Below.refl _ _ | with_reducible assumption | with_reducible refine Below.drew ?_ | ((with_reducible refine Below.alloc ?_ ?_ _); rotate_left; (focus (first | with_reducible exact Nat.le_refl _ | (simp; done) | (simp; omega) | omega))) | ((with_reducible refine Below.setCell ?_ ?_ _); rotate_left; (focus (first | with_reducible exact Nat.le_refl _ | (simp; done) | (simp; omega) | omega))) | ((with_reducible refine Below.trans ?_ (Below.mono (by assumption) ?_)); rotate_left; (focus (first | with_reducible exact Nat.le_refl _ | (simp; done) | (simp; omega) | omega))))⟩
set_option maxHeartbeats 400000 in
theorem Trail_3 (a0 a1 a2 a3 : Nat) (_h0 : a0 < 18446744073709551616) (_h1 : a1 < 18446744073709551616) (_h2 : a2 < 18446744073709551616) (h3 : a3 < 18446744073709551616) (w : World) (hT : Tab w) (c0 : a0 = 0) (c1 : a1 = 0) (c2 : a2 = 0) (c3 : a3 ≠ 0) :
    Calls Tryz.prog 96 #[.agg #[.int .u64 a0, .int .u64 a1, .int .u64 a2, .int .u64 a3]] w fun e w' => e = .returned (.int .i64 ((192 + tz a3 : Nat) : Int)) ∧ Below w.heap.size w w' := by
  have t0 := ne0f c0
  have t1 := ne0f c1
  have t2 := ne0f c2
  have t3 := ne0t c3
  have p3 : 0 < a3 := by omega
  have b3 := tz64 h3
  have hT1 := hT.alloc
  have i0 : ∀ w, (Instr.index 27 (.agg #[.int .u64 a0, .int .u64 a1, .int .u64 a2, .int .u64 a3]) (.int .i64 0)).run Tryz.prog w = .ok (.int .u64 a0) w := fun _ => by kernel_rfl
  have i1 : ∀ w, (Instr.index 27 (.agg #[.int .u64 a0, .int .u64 a1, .int .u64 a2, .int .u64 a3]) (.int .i64 1)).run Tryz.prog w = .ok (.int .u64 a1) w := fun _ => by kernel_rfl
  have i2 : ∀ w, (Instr.index 27 (.agg #[.int .u64 a0, .int .u64 a1, .int .u64 a2, .int .u64 a3]) (.int .i64 2)).run Tryz.prog w = .ok (.int .u64 a2) w := fun _ => by kernel_rfl
  have i3 : ∀ w, (Instr.index 27 (.agg #[.int .u64 a0, .int .u64 a1, .int .u64 a2, .int .u64 a3]) (.int .i64 3)).run Tryz.prog w = .ok (.int .u64 a3) w := fun _ => by kernel_rfl
  clear c0 c1 c2 c3
  go_enter Tryz.func96, Tryz.ntmps96
  go_wp2_with fail
  refine wp_loop_rounds 5 ?_
  iterate 4 (rw [rounds_succ]; go_wp2_with ((go_at_call 103; refine (Tz64_any _ (by assumption) (by assumption) _ (hT1 _)).mono ?_; rintro e w' ⟨rfl, rfl⟩)))
  go_ret
  exact ⟨by simp, by (repeat first | with_reducible exact Below.refl _ _ | with_reducible assumption | with_reducible refine Below.drew ?_ | ((with_reducible refine Below.alloc ?_ ?_ _); rotate_left; (focus (first | with_reducible exact Nat.le_refl _ | (simp; done) | (simp; omega) | omega))) | ((with_reducible refine Below.setCell ?_ ?_ _); rotate_left; (focus (first | with_reducible exact Nat.le_refl _ | (simp; done) | (simp; omega) | omega))) | ((with_reducible refine Below.trans ?_ (Below.mono (by assumption) ?_)); rotate_left; (focus (first | with_reducible exact Nat.le_refl _ | (simp; done) | (simp; omega) | omega))))⟩
set_option maxHeartbeats 400000 in
theorem Trail_4 (a0 a1 a2 a3 : Nat) (_h0 : a0 < 18446744073709551616) (_h1 : a1 < 18446744073709551616) (_h2 : a2 < 18446744073709551616) (_h3 : a3 < 18446744073709551616) (w : World) (hT : Tab w) (c0 : a0 = 0) (c1 : a1 = 0) (c2 : a2 = 0) (c3 : a3 = 0) :
    Calls Tryz.prog 96 #[.agg #[.int .u64 a0, .int .u64 a1, .int .u64 a2, .int .u64 a3]] w fun e w' => e = .returned (.int .i64 ((256 : Nat) : Int)) ∧ Below w.heap.size w w' := by
  have t0 := ne0f c0
  have t1 := ne0f c1
  have t2 := ne0f c2
  have t3 := ne0f c3
  have hT1 := hT.alloc
  have i0 : ∀ w, (Instr.index 27 (.agg #[.int .u64 a0, .int .u64 a1, .int .u64 a2, .int .u64 a3]) (.int .i64 0)).run Tryz.prog w = .ok (.int .u64 a0) w := fun _ => by kernel_rfl
  have i1 : ∀ w, (Instr.index 27 (.agg #[.int .u64 a0, .int .u64 a1, .int .u64 a2, .int .u64 a3]) (.int .i64 1)).run Tryz.prog w = .ok (.int .u64 a1) w := fun _ => by kernel_rfl
  have i2 : ∀ w, (Instr.index 27 (.agg #[.int .u64 a0, .int .u64 a1, .int .u64 a2, .int .u64 a3]) (.int .i64 2)).run Tryz.prog w = .ok (.int .u64 a2) w := fun _ => by kernel_rfl
  have i3 : ∀ w, (Instr.index 27 (.agg #[.int .u64 a0, .int .u64 a1, .int .u64 a2, .int .u64 a3]) (.int .i64 3)).run Tryz.prog w = .ok (.int .u64 a3) w := fun _ => by kernel_rfl
  clear c0 c1 c2 c3
  go_enter Tryz.func96, Tryz.ntmps96
  go_wp2_with fail
  go_rounds 5
  go_ret
  exact ⟨by simp, by (repeat first | with_reducible exact Below.refl _ _ | with_reducible assumption | with_reducible refine Below.drew ?_ | ((with_reducible refine Below.alloc ?_ ?_ _); rotate_left; (focus (first | with_reducible exact Nat.le_refl _ | (simp; done) | (simp; omega) | omega))) | ((with_reducible refine Below.setCell ?_ ?_ _); rotate_left; (focus (first | with_reducible exact Nat.le_refl _ | (simp; done) | (simp; omega) | omega))) | ((with_reducible refine Below.trans ?_ (Below.mono (by assumption) ?_)); rotate_left; (focus (first | with_reducible exact Nat.le_refl _ | (simp; done) | (simp; omega) | omega))))⟩
theorem Trail_any (a0 a1 a2 a3 : Nat) (h0 : a0 < 18446744073709551616) (h1 : a1 < 18446744073709551616) (h2 : a2 < 18446744073709551616) (h3 : a3 < 18446744073709551616) (w : World) (hT : Tab w) :
    Calls Tryz.prog 96 #[.agg #[.int .u64 a0, .int .u64 a1, .int .u64 a2, .int .u64 a3]] w fun e w' => e = .returned (.int .i64 (trail4 a0 a1 a2 a3 : Nat)) ∧ Below w.heap.size w w' := by
  unfold trail4
  split
  · exact Trail_0 a0 a1 a2 a3 h0 h1 h2 h3 w hT (by assumption)
  · split
    · exact Trail_1 a0 a1 a2 a3 h0 h1 h2 h3 w hT (by omega) (by assumption)
    · split
      · exact Trail_2 a0 a1 a2 a3 h0 h1 h2 h3 w hT (by omega) (by omega) (by assumption)
      · split
        · exact Trail_3 a0 a1 a2 a3 h0 h1 h2 h3 w hT (by omega) (by omega) (by omega) (by assumption)
        · exact Trail_4 a0 a1 a2 a3 h0 h1 h2 h3 w hT (by omega) (by omega) (by omega) (by omega)
end Go.Proofs.YtekeedjhaakbhaaGreatDoor
