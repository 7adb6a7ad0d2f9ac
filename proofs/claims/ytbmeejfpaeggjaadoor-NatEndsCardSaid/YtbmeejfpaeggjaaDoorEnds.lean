/- The law NatEnds. -/
import Derived.Test.YtbmeejfpaeggjaaDoorTold1
namespace Go.Proofs.YtbmeejfpaeggjaaDoor
open Go.RowKit
/-- the upper bits of a number -/
def upB (A j : Nat) : Nat := A / 2 ^ j * 2 ^ j
theorem upB_zero (A : Nat) : upB A 0 = A := by unfold upB; simp
theorem upB_top {A j : Nat} (h : A < 2 ^ j) : upB A j = 0 := by unfold upB; rw [Nat.div_eq_of_lt h, Nat.zero_mul]
theorem upB_le (A j : Nat) : upB A j ≤ A := Nat.div_mul_le_self _ _
theorem div_succ' (A i : Nat) : A / 2 ^ (i + 1) = A / 2 ^ i / 2 := by rw [Nat.pow_succ, Nat.div_div_eq_div_mul]
theorem upB_step (A i : Nat) : upB A i = upB A (i + 1) + A / 2 ^ i % 2 * 2 ^ i := by
  unfold upB
  rw [div_succ', Nat.pow_succ, Nat.mul_comm (2 ^ i) 2, ← Nat.mul_assoc, ← Nat.add_mul]
  congr 1
  omega
theorem ends_len {A i : Nat} (h1 : A / 2 ^ (i + 1) = 0) (h2 : A / 2 ^ i % 2 = 1) : bl A = i + 1 := by
  apply bl_eq_iff
  · have h3 : A / 2 ^ i ≠ 0 := by omega
    exact Nat.le_of_not_lt fun h => h3 (Nat.div_eq_of_lt h)
  · exact Nat.lt_of_not_le fun h => absurd h1 (by have := Nat.div_pos h (Nat.two_pow_pos _); omega)
/-- what the law asks of the program -/
structure EndsC (A : Nat) : Prop where
  c1 : ∀ (i : Nat) (_ : i < 256) (w : World), Calls Tryd.prog 26 #[.agg #[.int .u64 (lm (A) 0 : Nat), .int .u64 (lm (A) 1 : Nat), .int .u64 (lm (A) 2 : Nat), .int .u64 (lm (A) 3 : Nat)], .int .i64 (i : Int)] w fun e w' => e = .returned (.bool (A / 2 ^ i % 2 == 1)) ∧ Below w.heap.size w w'
  c2 : ∀ (i : Nat) (_ : i < 256) (w : World), Calls Tryd.prog 27 #[.agg #[.int .u64 1, .int .u64 0, .int .u64 0, .int .u64 0], .int .i64 (i : Int)] w fun e w' => e = .returned (.tuple #[.agg #[.int .u64 (lm (2 ^ i) 0 : Nat), .int .u64 (lm (2 ^ i) 1 : Nat), .int .u64 (lm (2 ^ i) 2 : Nat), .int .u64 (lm (2 ^ i) 3 : Nat)], .bool true]) ∧ Below w.heap.size w w'
  c3 : ∀ (i : Nat) (_ : i < 256) (_ : A / 2 ^ i % 2 = 1) (w : World), Calls Tryd.prog 24 #[.agg #[.int .u64 (lm (upB A (i + 1)) 0 : Nat), .int .u64 (lm (upB A (i + 1)) 1 : Nat), .int .u64 (lm (upB A (i + 1)) 2 : Nat), .int .u64 (lm (upB A (i + 1)) 3 : Nat)], .agg #[.int .u64 (lm (2 ^ i) 0 : Nat), .int .u64 (lm (2 ^ i) 1 : Nat), .int .u64 (lm (2 ^ i) 2 : Nat), .int .u64 (lm (2 ^ i) 3 : Nat)]] w fun e w' => e = .returned (.tuple #[.agg #[.int .u64 (lm (upB A i) 0 : Nat), .int .u64 (lm (upB A i) 1 : Nat), .int .u64 (lm (upB A i) 2 : Nat), .int .u64 (lm (upB A i) 3 : Nat)], .bool true]) ∧ Below w.heap.size w w'
  c4 : ∀ w : World, Calls Tryd.prog 28 #[.agg #[.int .u64 (lm (A) 0 : Nat), .int .u64 (lm (A) 1 : Nat), .int .u64 (lm (A) 2 : Nat), .int .u64 (lm (A) 3 : Nat)]] w fun e w' => e = .returned (.int .i64 (bl A : Nat)) ∧ Below w.heap.size w w'
  c5 : ∀ w : World, Calls Tryd.prog 29 #[.agg #[.int .u64 (lm (A) 0 : Nat), .int .u64 (lm (A) 1 : Nat), .int .u64 (lm (A) 2 : Nat), .int .u64 (lm (A) 3 : Nat)], .int .i64 256] w fun e w' => e = .returned (.agg #[.int .u64 0, .int .u64 0, .int .u64 0, .int .u64 0]) ∧ Below w.heap.size w w'
theorem endsC (A : Nat) (hA : A < 2 ^ 256) : EndsC A := by
  refine ⟨fun i hi w => ?_, fun i hi w => ?_, fun i hi h1 w => ?_, fun w => ?_, fun w => ?_⟩
  · have h := BitN_any A i hA w
    have e : bitI A i = (A / 2 ^ i % 2 == 1) := by
      unfold bitI
      rw [decide_eq_true (show (0 : Int) ≤ i from by omega)]
      rfl
    rw [e] at h
    exact h
  · have h := ShlV_any 1 (by decide) i w (by omega) (by omega)
    have e : shlOk 1 i = true := by
      unfold shlOk
      apply decide_eq_true
      refine ⟨by omega, .inr ?_⟩
      rw [show bl 1 = 1 from by decide]
      omega
    rw [show shlV 1 i = 2 ^ i from by unfold shlV; rw [if_pos e, Nat.one_mul]; rfl, e] at h
    exact h
  · have hs := upB_step A i
    rw [h1, Nat.one_mul] at hs
    have hle := upB_le A i
    have hle2 := upB_le A (i + 1)
    have h := Add_any (upB A (i + 1)) (2 ^ i) (by omega) (Nat.pow_lt_pow_right (by decide) hi) w
    rw [← hs, if_pos (by omega), decide_eq_true (show upB A i < 2 ^ 256 from by omega)] at h
    exact h
  · exact Len_lm A hA (bl A) rfl w
  · have h := Shr_any A 256 hA w (by decide)
    rw [Nat.div_eq_of_lt hA, lm_zero, lm_zero, lm_zero, lm_zero] at h
    exact h
/-- the cells in the loop -/
structure EndI (w wr : World) (A S : Nat) : Prop where
  a : Box wr w.heap.size A
  s : BoxF wr (w.heap.size + 1) S
  b : Below w.heap.size w wr
set_option maxRecDepth 20000 in
theorem endI_new {w : World} {A : Nat} {t t2 : TypeId} : EndI w ((w.alloc (.cells #[.int .u64 (lm A 0 : Nat), .int .u64 (lm A 1 : Nat), .int .u64 (lm A 2 : Nat), .int .u64 (lm A 3 : Nat)] t)).alloc (.cells #[.int .u64 0, .int .u64 0, .int .u64 0, .int .u64 0] t2)) A 0 := by
  refine ⟨box_new.alloc _, ?_, by (repeat first | with_reducible exact Below.refl _ _ | with_reducible assumption | with_reducible refine Below.drew ?_ | with_reducible refine below_alloc ?_ _ | ((with_reducible refine Below.setCell ?_ ?_ _); rotate_left; (focus (first | with_reducible exact Nat.le_refl _ | (simp; done) | (simp; omega) | omega))) | (with_reducible refine below_trans ?_ (by assumption)))⟩
  have h := @boxF_zero (w.alloc (.cells #[.int .u64 (lm A 0 : Nat), .int .u64 (lm A 1 : Nat), .int .u64 (lm A 2 : Nat), .int .u64 (lm A 3 : Nat)] t)) t2
  rw [World.size_alloc] at h
  exact h
set_option maxRecDepth 20000 in
set_option maxHeartbeats 1600000 in
theorem Ends_walk (A : Nat) (hA : A < 2 ^ 256) (C : Hid (EndsC A)) (w : World) (hT : Tabs w) :
    Calls Tryd.prog 7 #[.agg #[.int .u64 (lm (A) 0 : Nat), .int .u64 (lm (A) 1 : Nat), .int .u64 (lm (A) 2 : Nat), .int .u64 (lm (A) 3 : Nat)]] w fun e w' => e = .returned (.bool true) ∧ Below w.heap.size w w' := by
  have T0 := Lib.hid hT
  have HA := Lib.hid hA
  clear hT hA
  go_enter Tryd.func7, Tryd.ntmps7
  repeat any_goals (first | go_skip | go_guarded | go_step | go_upon | (simp only []; done))
  go_loopw [4, 5] (fun n i wr => ∃ m k : Nat, m ≤ 256 ∧ k + m ≤ 256 ∧ n = .int .i64 k ∧ i = .int .i64 ((m : Int) - 1) ∧ (k = 0 ↔ A / 2 ^ m = 0) ∧ EndI w wr A (upB A m)) (fun _ i _ => (intOf i + 1).toNat)
  case atStart =>
    refine ⟨256, 0, by omega, by omega, rfl, rfl, ?_, ?_⟩
    · rw [Nat.div_eq_of_lt HA.out]
    · rw [upB_top HA.out]
      exact endI_new
  case round =>
    obtain ⟨m, k, hm, hkm, rfl, rfl, hk, I⟩ := hrel
    have a0 := Lib.hid I.a
    have s0 := Lib.hid I.s
    have hW := I.b
    clear I
    obtain ⟨_, _, _, _, _⟩ := a0.out.all
    obtain ⟨_, _, _, _, _⟩ := s0.out.all
    by_cases c0 : m = 0
    · subst c0
      rw [upB_zero] at *
      rw [Nat.pow_zero, Nat.div_one] at hk
      have T1 := Lib.hid (T0.out.below hW)
      by_cases c1 : k = 0
      · have hA0 : A = 0 := hk.1 c1
        have hl : bl A = 0 := by rw [hA0]; exact bl_zero
        clear hk hA0
        subst c1
        repeat any_goals (first | (go_at_call 12; with_reducible refine (told_any _ T1.out).mono ?_; rintro e w1 ⟨rfl, hb1⟩; (first | have a1 := Lib.hid (a0.out.below hb1) | have a1 := Lib.hid (a0.out.step hb1)); obtain ⟨_, _, _, _, _⟩ := a1.out.all; (first | have s1 := Lib.hid (s0.out.below hb1) | have s1 := Lib.hid (s0.out.step hb1)); obtain ⟨_, _, _, _, _⟩ := s1.out.all) | (go_at_call 28; with_reducible refine (C.out.c4 _).mono ?_; rintro e w2 ⟨rfl, hb2⟩; (first | have a2 := Lib.hid (a1.out.below hb2) | have a2 := Lib.hid (a1.out.step hb2)); obtain ⟨_, _, _, _, _⟩ := a2.out.all; (first | have s2 := Lib.hid (s1.out.below hb2) | have s2 := Lib.hid (s1.out.step hb2)); obtain ⟨_, _, _, _, _⟩ := s2.out.all) | (go_at_call 29; with_reducible refine (C.out.c5 _).mono ?_; rintro e w3 ⟨rfl, hb3⟩; (first | have a3 := Lib.hid (a2.out.below hb3) | have a3 := Lib.hid (a2.out.step hb3)); obtain ⟨_, _, _, _, _⟩ := a3.out.all; (first | have s3 := Lib.hid (s2.out.below hb3) | have s3 := Lib.hid (s2.out.step hb3)); obtain ⟨_, _, _, _, _⟩ := s3.out.all) | go_skip | go_guarded | go_step | go_upon | (dsimp only []))
        go_ret
        exact ⟨by simp, by (repeat first | with_reducible exact Below.refl _ _ | with_reducible assumption | with_reducible refine Below.drew ?_ | with_reducible refine below_alloc ?_ _ | ((with_reducible refine Below.setCell ?_ ?_ _); rotate_left; (focus (first | with_reducible exact Nat.le_refl _ | (simp; done) | (simp; omega) | omega))) | (with_reducible refine below_trans ?_ (by assumption)))⟩
      · have c1' : 0 < (k : Int) := by omega
        clear hk
        repeat any_goals (first | (go_at_call 12; with_reducible refine (told_any _ T1.out).mono ?_; rintro e w1 ⟨rfl, hb1⟩; (first | have a1 := Lib.hid (a0.out.below hb1) | have a1 := Lib.hid (a0.out.step hb1)); obtain ⟨_, _, _, _, _⟩ := a1.out.all; (first | have s1 := Lib.hid (s0.out.below hb1) | have s1 := Lib.hid (s0.out.step hb1)); obtain ⟨_, _, _, _, _⟩ := s1.out.all) | (go_at_call 29; with_reducible refine (C.out.c5 _).mono ?_; rintro e w3 ⟨rfl, hb3⟩; (first | have a3 := Lib.hid (a1.out.below hb3) | have a3 := Lib.hid (a1.out.step hb3)); obtain ⟨_, _, _, _, _⟩ := a3.out.all; (first | have s3 := Lib.hid (s1.out.below hb3) | have s3 := Lib.hid (s1.out.step hb3)); obtain ⟨_, _, _, _, _⟩ := s3.out.all) | go_skip | go_guarded | go_step | go_upon | (dsimp only []))
        go_ret
        exact ⟨by simp, by (repeat first | with_reducible exact Below.refl _ _ | with_reducible assumption | with_reducible refine Below.drew ?_ | with_reducible refine below_alloc ?_ _ | ((with_reducible refine Below.setCell ?_ ?_ _); rotate_left; (focus (first | with_reducible exact Nat.le_refl _ | (simp; done) | (simp; omega) | omega))) | (with_reducible refine below_trans ?_ (by assumption)))⟩
    · obtain ⟨i, rfl⟩ : ∃ i, m = i + 1 := ⟨m - 1, by omega⟩
      have i4 : i < 256 := by omega
      rw [show ((i + 1 : Nat) : Int) - 1 = (i : Int) from by omega]
      have i5 : (i : Int) < 256 := by omega
      have hst := upB_step A i
      by_cases c1 : A / 2 ^ i % 2 = 1
      · obtain ⟨x, hx⟩ : ∃ x, x = (A / 2 ^ i % 2 == 1) := ⟨_, rfl⟩
        have K1 := Lib.hid (fun w => C.out.c1 i i4 w)
        have K2 := Lib.hid (fun w => C.out.c2 i i4 w)
        have K3 := Lib.hid (fun w => C.out.c3 i i4 c1 w)
        obtain ⟨P, hP⟩ : ∃ P, P = 2 ^ i := ⟨_, rfl⟩
        rw [show (A / 2 ^ i % 2 == 1) = true from by rw [c1]; rfl] at K1
        obtain ⟨U, hU⟩ : ∃ U, U = upB A (i + 1) := ⟨_, rfl⟩
        obtain ⟨V, hV⟩ : ∃ V, V = upB A i := ⟨_, rfl⟩
        rw [← hP] at K2
        rw [← hP, ← hU, ← hV] at K3
        rw [← hU] at s0
        have G := Lib.hid (And.intro hk (And.intro c1 hV))
        clear hP hU hx hst hV c1
        by_cases c2 : k = 0
        · have hl : bl A = i + 1 := ends_len (G.out.1.1 c2) G.out.2.1
          subst c2
          clear hk
          repeat any_goals (first | (go_at_call 26; with_reducible refine (K1.out _).mono ?_; rintro e w1 ⟨rfl, hb1⟩; (first | have a1 := Lib.hid (a0.out.below hb1) | have a1 := Lib.hid (a0.out.step hb1)); obtain ⟨_, _, _, _, _⟩ := a1.out.all; (first | have s1 := Lib.hid (s0.out.below hb1) | have s1 := Lib.hid (s0.out.step hb1)); obtain ⟨_, _, _, _, _⟩ := s1.out.all) | (go_at_call 22; refine (Of_eq _ _).mono ?_; rintro e w' ⟨rfl, rfl⟩) | (go_at_call 27; with_reducible refine (K2.out _).mono ?_; rintro e w2 ⟨rfl, hb2⟩; (first | have a2 := Lib.hid (a1.out.below hb2) | have a2 := Lib.hid (a1.out.step hb2)); obtain ⟨_, _, _, _, _⟩ := a2.out.all; (first | have s2 := Lib.hid (s1.out.below hb2) | have s2 := Lib.hid (s1.out.step hb2)); obtain ⟨_, _, _, _, _⟩ := s2.out.all) | (go_at_call 24; with_reducible refine (K3.out _).mono ?_; rintro e w3 ⟨rfl, hb3⟩; have p3 := Lib.hid (box_hb hb3); obtain ⟨_, _, _, _, _⟩ := p3.out.all; (first | have a3 := Lib.hid (a2.out.below hb3) | have a3 := Lib.hid (a2.out.step hb3)); obtain ⟨_, _, _, _, _⟩ := a3.out.all; (first | have s3 := Lib.hid (s2.out.below hb3) | have s3 := Lib.hid (s2.out.step hb3)); obtain ⟨_, _, _, _, _⟩ := s3.out.all) | (go_at_call 28; with_reducible refine (C.out.c4 _).mono ?_; rintro e w4 ⟨rfl, hb4⟩) | go_skip | go_guarded | go_step | go_upon | (dsimp only []))
          go_roundw
          case rel => exact ⟨i, 1, by omega, by omega, by go_num, by go_num, ⟨fun h => absurd h (by decide), fun h => absurd G.out.2.1 (by rw [h]; decide)⟩, ((a3.out.other (by omega)).alloc _).below hb4, by rw [← G.out.2.2]; exact ((s3.out.set).alloc _).below hb4, by (repeat first | with_reducible exact Below.refl _ _ | with_reducible assumption | with_reducible refine Below.drew ?_ | with_reducible refine below_alloc ?_ _ | ((with_reducible refine Below.setCell ?_ ?_ _); rotate_left; (focus (first | with_reducible exact Nat.le_refl _ | (simp; done) | (simp; omega) | omega))) | (with_reducible refine below_trans ?_ (by assumption)))⟩
          case measure => first | (simp [intOf]; done) | (simp [intOf]; omega)
        · have c2' : ((k : Int) == 0) = false := by simp; omega
          clear hk
          repeat any_goals (first | (go_at_call 26; with_reducible refine (K1.out _).mono ?_; rintro e w1 ⟨rfl, hb1⟩; (first | have a1 := Lib.hid (a0.out.below hb1) | have a1 := Lib.hid (a0.out.step hb1)); obtain ⟨_, _, _, _, _⟩ := a1.out.all; (first | have s1 := Lib.hid (s0.out.below hb1) | have s1 := Lib.hid (s0.out.step hb1)); obtain ⟨_, _, _, _, _⟩ := s1.out.all) | (go_at_call 22; refine (Of_eq _ _).mono ?_; rintro e w' ⟨rfl, rfl⟩) | (go_at_call 27; with_reducible refine (K2.out _).mono ?_; rintro e w2 ⟨rfl, hb2⟩; (first | have a2 := Lib.hid (a1.out.below hb2) | have a2 := Lib.hid (a1.out.step hb2)); obtain ⟨_, _, _, _, _⟩ := a2.out.all; (first | have s2 := Lib.hid (s1.out.below hb2) | have s2 := Lib.hid (s1.out.step hb2)); obtain ⟨_, _, _, _, _⟩ := s2.out.all) | (go_at_call 24; with_reducible refine (K3.out _).mono ?_; rintro e w3 ⟨rfl, hb3⟩; have p3 := Lib.hid (box_hb hb3); obtain ⟨_, _, _, _, _⟩ := p3.out.all; (first | have a3 := Lib.hid (a2.out.below hb3) | have a3 := Lib.hid (a2.out.step hb3)); obtain ⟨_, _, _, _, _⟩ := a3.out.all; (first | have s3 := Lib.hid (s2.out.below hb3) | have s3 := Lib.hid (s2.out.step hb3)); obtain ⟨_, _, _, _, _⟩ := s3.out.all) | go_skip | go_guarded | go_step | go_upon | (dsimp only []))
          go_roundw
          case rel => exact ⟨i, k + 1, by omega, by omega, by go_num, by go_num, ⟨fun h => absurd h (by omega), fun h => absurd G.out.2.1 (by rw [h]; decide)⟩, (a3.out.other (by omega)).alloc _, by rw [← G.out.2.2]; exact (s3.out.set).alloc _, by (repeat first | with_reducible exact Below.refl _ _ | with_reducible assumption | with_reducible refine Below.drew ?_ | with_reducible refine below_alloc ?_ _ | ((with_reducible refine Below.setCell ?_ ?_ _); rotate_left; (focus (first | with_reducible exact Nat.le_refl _ | (simp; done) | (simp; omega) | omega))) | (with_reducible refine below_trans ?_ (by assumption)))⟩
          case measure => first | (simp [intOf]; done) | (simp [intOf]; omega)
      · have c1' : A / 2 ^ i % 2 = 0 := by omega
        rw [c1', Nat.zero_mul, Nat.add_zero] at hst
        have K1 := Lib.hid (fun w => C.out.c1 i i4 w)
        rw [show (A / 2 ^ i % 2 == 1) = false from by rw [c1']; rfl] at K1
        have hk2 : k = 0 ↔ A / 2 ^ i = 0 := by
          rw [hk, div_succ']
          omega
        have G := Lib.hid (And.intro hk2 hst)
        clear hk hk2 hst c1 c1'
        repeat any_goals (first | (go_at_call 26; with_reducible refine (K1.out _).mono ?_; rintro e w1 ⟨rfl, hb1⟩; (first | have a1 := Lib.hid (a0.out.below hb1) | have a1 := Lib.hid (a0.out.step hb1)); obtain ⟨_, _, _, _, _⟩ := a1.out.all; (first | have s1 := Lib.hid (s0.out.below hb1) | have s1 := Lib.hid (s0.out.step hb1)); obtain ⟨_, _, _, _, _⟩ := s1.out.all) | go_skip | go_guarded | go_step | go_upon | (dsimp only []))
        have hW1 := below_trans hW hb1
        go_roundw
        case rel => exact ⟨i, k, by omega, by omega, rfl, by go_num, G.out.1, a1.out, by rw [G.out.2]; exact s1.out, hW1⟩
        case measure => first | (simp [intOf]; done) | (simp [intOf]; omega)
/-- **NatEnds answers true.** -/
theorem Ends_any (A : Nat) (hA : A < 2 ^ 256) (w : World) (hT : Tabs w) :
    Calls Tryd.prog 7 #[.agg #[.int .u64 (lm (A) 0 : Nat), .int .u64 (lm (A) 1 : Nat), .int .u64 (lm (A) 2 : Nat), .int .u64 (lm (A) 3 : Nat)]] w fun e w' => e = .returned (.bool true) ∧ Below w.heap.size w w' :=
  Ends_walk A hA (Lib.hid (endsC A hA)) w hT
end Go.Proofs.YtbmeejfpaeggjaaDoor
