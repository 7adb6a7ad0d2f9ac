/- Contracts of the document's texts: Point, Next, Valid; of the program's utf.Valid. -/
import Derived.Test.YtminijokbeclhaaDoorGen
import Derived.Test.YtminijokbeclhaaDoorUtfM
import Derived.LoopN
namespace Go.Proofs.YtminijokbeclhaaDoor
open Go.RowKit
theorem idx_at {s : ByteArray} {m : Nat} (hm : m < s.size) (W : World) : (Instr.index 9 (.string s) (.int .i64 (m : Int))).run Tryd.prog W = .ok (.int .u8 (((s.get! m).toNat : Nat) : Int)) W := by
  rw [run_index_string W 9 s .i64 m Tryd.underlying9, dif_pos ⟨by omega, by omega⟩]
  have e : (s.get! m) = s[m]'hm := by
    cases s with
    | mk d => exact getElem!_pos d m hm
  rw [e]
  rfl
set_option maxRecDepth 100000 in
theorem andF : ∀ X : Fin 256, bits .and .u8 ((X.val : Nat) : Int) 63 = ((X.val % 64 : Nat) : Int) := by decide
set_option maxRecDepth 100000 in
theorem andC : ∀ X : Fin 256, (bits .and .u8 ((X.val : Nat) : Int) 192 == 128) = decide (X.val / 64 = 2) := by decide
set_option maxRecDepth 100000 in
theorem and31 : ∀ X : Fin 256, bits .and .i64 ((X.val : Nat) : Int) 31 = ((X.val % 32 : Nat) : Int) := by decide
set_option maxRecDepth 100000 in
theorem and15 : ∀ X : Fin 256, bits .and .i64 ((X.val : Nat) : Int) 15 = ((X.val % 16 : Nat) : Int) := by decide
set_option maxRecDepth 100000 in
theorem and07 : ∀ X : Fin 256, bits .and .i64 ((X.val : Nat) : Int) 7 = ((X.val % 8 : Nat) : Int) := by decide
theorem Point_any (c : Int) (w : World) (h0 : 0 ≤ c) (h1 : c < 100000000) : Calls Tryd.prog 114 #[.int .i64 c] w fun e w' => e = .returned (.bool (pointB c)) ∧ w' = w := by
  by_cases c1 : c ≤ 1114111
  · by_cases c2 : c < 55296
    · rw [show pointB c = true from decide_eq_true ⟨h0, c1, .inl c2⟩]
      go_enter Tryd.func114, Tryd.ntmps114
      repeat any_goals (first | go_skip | go_guarded | go_step | go_upon | (simp only []; done))
      exact bodyPost_ret (v := .bool true) (by simp [results, Tryd.results114, go_sem]) rfl ⟨rfl, rfl⟩
    · by_cases c3 : 57343 < c
      · rw [show pointB c = true from decide_eq_true ⟨h0, c1, .inr c3⟩]
        go_enter Tryd.func114, Tryd.ntmps114
        repeat any_goals (first | go_skip | go_guarded | go_step | go_upon | (simp only []; done))
        exact bodyPost_ret (v := .bool true) (by simp [results, Tryd.results114, go_sem]) rfl ⟨rfl, rfl⟩
      · rw [show pointB c = false from decide_eq_false (by omega)]
        go_enter Tryd.func114, Tryd.ntmps114
        repeat any_goals (first | go_skip | go_guarded | go_step | go_upon | (simp only []; done))
        exact bodyPost_ret (v := .bool false) (by simp [results, Tryd.results114, go_sem]) rfl ⟨rfl, rfl⟩
  · rw [show pointB c = false from decide_eq_false (by omega)]
    go_enter Tryd.func114, Tryd.ntmps114
    repeat any_goals (first | go_skip | go_guarded | go_step | go_upon | (simp only []; done))
    exact bodyPost_ret (v := .bool false) (by simp [results, Tryd.results114, go_sem]) rfl ⟨rfl, rfl⟩
abbrev IXF (s : ByteArray) (i b : Int) : Prop := ∀ W : World, (Instr.index 9 (.string s) (.int .i64 i)).run Tryd.prog W = .ok (.int .u8 b) W
theorem Next_one (s : ByteArray) (n a b0 : Nat) (w : World) (hn : (s.size : Int) = n) (_hb : n < 9223372036854775000) (ha : a < n) (hx0 : IXF s a b0) (h : b0 < 128) :
    Calls Tryd.prog 112 #[.string s, .int .i64 (a : Nat)] w fun e w' => e = .returned (.tuple #[.int .i64 (b0 : Nat), .int .i64 1]) ∧ w' = w := by
  have i1 : ¬ (n : Int) ≤ (a : Int) := by omega
  have i2 : ¬ (a : Int) < 0 := by omega
  have i3 : (b0 : Int) < 128 := by omega
  go_enter Tryd.func112, Tryd.ntmps112
  repeat any_goals (first | go_skip | go_guarded | go_step | go_upon | (simp only []; done))
  exact bodyPost_ret (v := .tuple #[.int .i64 (b0 : Nat), .int .i64 1]) (by simp [results, Tryd.results112, go_sem]) rfl ⟨rfl, rfl⟩
theorem Next_bad (s : ByteArray) (n a b0 : Nat) (w : World) (hn : (s.size : Int) = n) (_hb : n < 9223372036854775000) (ha : a < n) (hx0 : IXF s a b0) (h : 128 ≤ b0) (h2 : b0 < 192 ∨ 248 ≤ b0) (h3 : b0 < 256) :
    Calls Tryd.prog 112 #[.string s, .int .i64 (a : Nat)] w fun e w' => e = .returned (.tuple #[.int .i64 (-1), .int .i64 1]) ∧ w' = w := by
  have i1 : ¬ (n : Int) ≤ (a : Int) := by omega
  have i2 : ¬ (a : Int) < 0 := by omega
  have i3 : ¬ (b0 : Int) < 128 := by omega
  rcases h2 with h2 | h2
  · have i4 : ¬ (192 : Int) ≤ (b0 : Int) := by omega
    have i5 : ¬ (224 : Int) ≤ (b0 : Int) := by omega
    have i6 : ¬ (240 : Int) ≤ (b0 : Int) := by omega
    go_enter Tryd.func112, Tryd.ntmps112
    repeat any_goals (first | go_skip | go_guarded | go_step | go_upon | (simp only []; done))
    exact bodyPost_ret (v := .tuple #[.int .i64 (-1), .int .i64 1]) (by simp [results, Tryd.results112, go_sem]) rfl ⟨rfl, rfl⟩
  · have i4 : (192 : Int) ≤ (b0 : Int) := by omega
    have i5 : ¬ (b0 : Int) < 224 := by omega
    have i6 : (224 : Int) ≤ (b0 : Int) := by omega
    have i7 : ¬ (b0 : Int) < 240 := by omega
    have i8 : (240 : Int) ≤ (b0 : Int) := by omega
    have i9 : ¬ (b0 : Int) < 248 := by omega
    go_enter Tryd.func112, Tryd.ntmps112
    repeat any_goals (first | go_skip | go_guarded | go_step | go_upon | (simp only []; done))
    exact bodyPost_ret (v := .tuple #[.int .i64 (-1), .int .i64 1]) (by simp [results, Tryd.results112, go_sem]) rfl ⟨rfl, rfl⟩
set_option maxRecDepth 20000 in
set_option maxHeartbeats 1000000 in
theorem Next_two (s : ByteArray) (n a b0 c0 b1 m1 : Nat) (w : World) (hn : (s.size : Int) = n) (hb : n < 9223372036854775000) (ha : a < n) (hx0 : IXF s a b0) (h : 192 ≤ b0) (h2 : b0 < 224) (hc0 : bits .and .i64 (b0 : Int) 31 = (c0 : Nat)) (hc : c0 < 32)
    (hx1 : a + 1 < n → IXF s ((a : Int) + 1) b1) (hf1 : bits .and .u8 (b1 : Int) 63 = (m1 : Nat)) (q1 : Bool) (hq1 : (bits .and .u8 (b1 : Int) 192 == 128) = q1) (hm1 : m1 < 64) :
    Calls Tryd.prog 112 #[.string s, .int .i64 (a : Nat)] w fun e w' => e = .returned (if 1 < n - a ∧ q1 = true ∧ 128 ≤ c0 * 64 + m1 ∧ pointB (c0 * 64 + m1 : Nat) = true then .tuple #[.int .i64 (c0 * 64 + m1 : Nat), .int .i64 2] else .tuple #[.int .i64 (-1), .int .i64 1]) ∧ w' = w := by
  have i1 : ¬ (n : Int) ≤ (a : Int) := by omega
  have i2 : ¬ (a : Int) < 0 := by omega
  have i3 : ¬ (b0 : Int) < 128 := by omega
  have i4 : (192 : Int) ≤ (b0 : Int) := by omega
  have i5 : (b0 : Int) < 224 := by omega
  obtain ⟨R, hR⟩ : ∃ R : Value, R = if 1 < n - a ∧ q1 = true ∧ 128 ≤ c0 * 64 + m1 ∧ pointB (c0 * 64 + m1 : Nat) = true then .tuple #[.int .i64 (c0 * 64 + m1 : Nat), .int .i64 2] else .tuple #[.int .i64 (-1), .int .i64 1] := ⟨_, rfl⟩
  rw [← hR]
  by_cases d : a + 1 < n
  · obtain ⟨C, hC⟩ : ∃ C : Nat, C = c0 * 64 + m1 := ⟨_, rfl⟩
    obtain ⟨p, hp⟩ : ∃ p, p = pointB (C : Nat) := ⟨_, rfl⟩
    rw [← hC, ← hp] at hR
    have HP : Hid (Calls Tryd.prog 114 #[.int .i64 (C : Nat)] w fun e w' => e = .returned (.bool p) ∧ w' = w) := Lib.hid (by rw [hp]; exact Point_any _ _ (by omega) (by omega))
    have HD : Hid (1 < n - a) := Lib.hid (by omega)
    have HR := Lib.hid hR
    have HC := Lib.hid hC
    clear hR hC hp
    have hx1 := hx1 (by omega)
    have j1 : ¬ (n : Int) < (a : Int) + 2 := by omega
    have hqq1 := Lib.hid hq1
    clear hq1
    go_enter Tryd.func112, Tryd.ntmps112
    repeat any_goals (first | go_skip | go_guarded | go_step | go_upon | (simp only []; done))
    go_loop [6, 9] (fun c i => (i = .int .i64 1 ∧ c = .int .i64 (c0 : Nat)) ∨ (i = .int .i64 2 ∧ c = .int .i64 (c0 * 64 + m1 : Nat) ∧ q1 = true)) (fun _ i => 3 - (intOf i).toNat)
    case atStart => exact .inl ⟨rfl, rfl⟩
    case round =>
      rcases hrel with ⟨rfl, hcc⟩ | ⟨rfl, hcc, r1⟩
      · subst hcc
        cases q1 with
        | false =>
          have hqf := hqq1.out
          have e := HR.out
          rw [if_neg (by simp)] at e
          subst e
          repeat any_goals (first | go_skip | go_guarded | go_step | go_upon | (simp only []; done))
          exact bodyPost_ret (v := .tuple #[.int .i64 (-1), .int .i64 1]) (by simp [results, Tryd.results112, go_sem]) rfl ⟨rfl, rfl⟩
        | true =>
          have hqf := hqq1.out
          repeat any_goals (first | go_skip | go_guarded | go_step | go_upon | (simp only []; done))
          go_round
          case rel => exact .inr (⟨rfl, by simp, by simp⟩)
          case measure => simp [intOf]
      · rw [← HC.out] at hcc
        subst hcc
        by_cases l : 128 ≤ C
        · have l1 : ¬ (C : Int) < 128 := by omega
          cases p with
          | false =>
            have e := HR.out
            rw [if_neg (by simp)] at e
            subst e
            repeat any_goals (first | (go_at_call 114; refine (HP.out).mono ?_; rintro e w' ⟨rfl, rfl⟩) | go_skip | go_guarded | go_step | go_upon | (dsimp only []))
            exact bodyPost_ret (v := .tuple #[.int .i64 (-1), .int .i64 1]) (by simp [results, Tryd.results112, go_sem]) rfl ⟨rfl, rfl⟩
          | true =>
            have e := HR.out
            rw [if_pos ⟨HD.out, r1, l, rfl⟩] at e
            subst e
            repeat any_goals (first | (go_at_call 114; refine (HP.out).mono ?_; rintro e w' ⟨rfl, rfl⟩) | go_skip | go_guarded | go_step | go_upon | (dsimp only []))
            exact bodyPost_ret (v := .tuple #[.int .i64 (C : Nat), .int .i64 2]) (by simp [results, Tryd.results112, go_sem]) rfl ⟨rfl, rfl⟩
        · have l1 : (C : Int) < 128 := by omega
          have e := HR.out
          rw [if_neg (fun h => l h.2.2.1)] at e
          subst e
          repeat any_goals (first | go_skip | go_guarded | go_step | go_upon | (simp only []; done))
          exact bodyPost_ret (v := .tuple #[.int .i64 (-1), .int .i64 1]) (by simp [results, Tryd.results112, go_sem]) rfl ⟨rfl, rfl⟩
  · rw [if_neg (fun h => d (by omega))] at hR
    subst hR
    have j1 : (n : Int) < (a : Int) + 2 := by omega
    go_enter Tryd.func112, Tryd.ntmps112
    repeat any_goals (first | go_skip | go_guarded | go_step | go_upon | (simp only []; done))
    exact bodyPost_ret (v := .tuple #[.int .i64 (-1), .int .i64 1]) (by simp [results, Tryd.results112, go_sem]) rfl ⟨rfl, rfl⟩
set_option maxRecDepth 20000 in
set_option maxHeartbeats 1000000 in
theorem Next_three (s : ByteArray) (n a b0 c0 b1 m1 b2 m2 : Nat) (w : World) (hn : (s.size : Int) = n) (hb : n < 9223372036854775000) (ha : a < n) (hx0 : IXF s a b0) (h : 224 ≤ b0) (h2 : b0 < 240) (hc0 : bits .and .i64 (b0 : Int) 15 = (c0 : Nat)) (hc : c0 < 16)
    (hx1 : a + 1 < n → IXF s ((a : Int) + 1) b1) (hf1 : bits .and .u8 (b1 : Int) 63 = (m1 : Nat)) (q1 : Bool) (hq1 : (bits .and .u8 (b1 : Int) 192 == 128) = q1) (hm1 : m1 < 64) (hx2 : a + 2 < n → IXF s ((a : Int) + 2) b2) (hf2 : bits .and .u8 (b2 : Int) 63 = (m2 : Nat)) (q2 : Bool) (hq2 : (bits .and .u8 (b2 : Int) 192 == 128) = q2) (hm2 : m2 < 64) :
    Calls Tryd.prog 112 #[.string s, .int .i64 (a : Nat)] w fun e w' => e = .returned (if 2 < n - a ∧ q1 = true ∧ q2 = true ∧ 2048 ≤ (c0 * 64 + m1) * 64 + m2 ∧ pointB ((c0 * 64 + m1) * 64 + m2 : Nat) = true then .tuple #[.int .i64 ((c0 * 64 + m1) * 64 + m2 : Nat), .int .i64 3] else .tuple #[.int .i64 (-1), .int .i64 1]) ∧ w' = w := by
  have i1 : ¬ (n : Int) ≤ (a : Int) := by omega
  have i2 : ¬ (a : Int) < 0 := by omega
  have i3 : ¬ (b0 : Int) < 128 := by omega
  have i4 : (192 : Int) ≤ (b0 : Int) := by omega
  have i5 : ¬ (b0 : Int) < 224 := by omega
  have i6 : (224 : Int) ≤ (b0 : Int) := by omega
  have i7 : (b0 : Int) < 240 := by omega
  obtain ⟨R, hR⟩ : ∃ R : Value, R = if 2 < n - a ∧ q1 = true ∧ q2 = true ∧ 2048 ≤ (c0 * 64 + m1) * 64 + m2 ∧ pointB ((c0 * 64 + m1) * 64 + m2 : Nat) = true then .tuple #[.int .i64 ((c0 * 64 + m1) * 64 + m2 : Nat), .int .i64 3] else .tuple #[.int .i64 (-1), .int .i64 1] := ⟨_, rfl⟩
  rw [← hR]
  by_cases d : a + 2 < n
  · obtain ⟨C, hC⟩ : ∃ C : Nat, C = (c0 * 64 + m1) * 64 + m2 := ⟨_, rfl⟩
    obtain ⟨p, hp⟩ : ∃ p, p = pointB (C : Nat) := ⟨_, rfl⟩
    rw [← hC, ← hp] at hR
    have HP : Hid (Calls Tryd.prog 114 #[.int .i64 (C : Nat)] w fun e w' => e = .returned (.bool p) ∧ w' = w) := Lib.hid (by rw [hp]; exact Point_any _ _ (by omega) (by omega))
    have HD : Hid (2 < n - a) := Lib.hid (by omega)
    have HR := Lib.hid hR
    have HC := Lib.hid hC
    clear hR hC hp
    have hx1 := hx1 (by omega)
    have hx2 := hx2 (by omega)
    have j1 : ¬ (n : Int) < (a : Int) + 3 := by omega
    have hqq1 := Lib.hid hq1
    clear hq1
    have hqq2 := Lib.hid hq2
    clear hq2
    go_enter Tryd.func112, Tryd.ntmps112
    repeat any_goals (first | go_skip | go_guarded | go_step | go_upon | (simp only []; done))
    go_loop [6, 9] (fun c i => (i = .int .i64 1 ∧ c = .int .i64 (c0 : Nat)) ∨ (i = .int .i64 2 ∧ c = .int .i64 (c0 * 64 + m1 : Nat) ∧ q1 = true) ∨ (i = .int .i64 3 ∧ c = .int .i64 ((c0 * 64 + m1) * 64 + m2 : Nat) ∧ q1 = true ∧ q2 = true)) (fun _ i => 4 - (intOf i).toNat)
    case atStart => exact .inl ⟨rfl, rfl⟩
    case round =>
      rcases hrel with ⟨rfl, hcc⟩ | ⟨rfl, hcc, r1⟩ | ⟨rfl, hcc, r1, r2⟩
      · subst hcc
        cases q1 with
        | false =>
          have hqf := hqq1.out
          have e := HR.out
          rw [if_neg (by simp)] at e
          subst e
          repeat any_goals (first | go_skip | go_guarded | go_step | go_upon | (simp only []; done))
          exact bodyPost_ret (v := .tuple #[.int .i64 (-1), .int .i64 1]) (by simp [results, Tryd.results112, go_sem]) rfl ⟨rfl, rfl⟩
        | true =>
          have hqf := hqq1.out
          repeat any_goals (first | go_skip | go_guarded | go_step | go_upon | (simp only []; done))
          go_round
          case rel => exact .inr (.inl ⟨rfl, by simp, by simp⟩)
          case measure => simp [intOf]
      · subst hcc
        cases q2 with
        | false =>
          have hqf := hqq2.out
          have e := HR.out
          rw [if_neg (by simp)] at e
          subst e
          repeat any_goals (first | go_skip | go_guarded | go_step | go_upon | (simp only []; done))
          exact bodyPost_ret (v := .tuple #[.int .i64 (-1), .int .i64 1]) (by simp [results, Tryd.results112, go_sem]) rfl ⟨rfl, rfl⟩
        | true =>
          have hqf := hqq2.out
          repeat any_goals (first | go_skip | go_guarded | go_step | go_upon | (simp only []; done))
          go_round
          case rel => exact .inr (.inr (⟨rfl, by simp, r1, by simp⟩))
          case measure => simp [intOf]
      · rw [← HC.out] at hcc
        subst hcc
        by_cases l : 2048 ≤ C
        · have l1 : ¬ (C : Int) < 2048 := by omega
          cases p with
          | false =>
            have e := HR.out
            rw [if_neg (by simp)] at e
            subst e
            repeat any_goals (first | (go_at_call 114; refine (HP.out).mono ?_; rintro e w' ⟨rfl, rfl⟩) | go_skip | go_guarded | go_step | go_upon | (dsimp only []))
            exact bodyPost_ret (v := .tuple #[.int .i64 (-1), .int .i64 1]) (by simp [results, Tryd.results112, go_sem]) rfl ⟨rfl, rfl⟩
          | true =>
            have e := HR.out
            rw [if_pos ⟨HD.out, r1, r2, l, rfl⟩] at e
            subst e
            repeat any_goals (first | (go_at_call 114; refine (HP.out).mono ?_; rintro e w' ⟨rfl, rfl⟩) | go_skip | go_guarded | go_step | go_upon | (dsimp only []))
            exact bodyPost_ret (v := .tuple #[.int .i64 (C : Nat), .int .i64 3]) (by simp [results, Tryd.results112, go_sem]) rfl ⟨rfl, rfl⟩
        · have l1 : (C : Int) < 2048 := by omega
          have e := HR.out
          rw [if_neg (fun h => l h.2.2.2.1)] at e
          subst e
          repeat any_goals (first | go_skip | go_guarded | go_step | go_upon | (simp only []; done))
          exact bodyPost_ret (v := .tuple #[.int .i64 (-1), .int .i64 1]) (by simp [results, Tryd.results112, go_sem]) rfl ⟨rfl, rfl⟩
  · rw [if_neg (fun h => d (by omega))] at hR
    subst hR
    have j1 : (n : Int) < (a : Int) + 3 := by omega
    go_enter Tryd.func112, Tryd.ntmps112
    repeat any_goals (first | go_skip | go_guarded | go_step | go_upon | (simp only []; done))
    exact bodyPost_ret (v := .tuple #[.int .i64 (-1), .int .i64 1]) (by simp [results, Tryd.results112, go_sem]) rfl ⟨rfl, rfl⟩
set_option maxRecDepth 20000 in
set_option maxHeartbeats 1000000 in
theorem Next_four (s : ByteArray) (n a b0 c0 b1 m1 b2 m2 b3 m3 : Nat) (w : World) (hn : (s.size : Int) = n) (hb : n < 9223372036854775000) (ha : a < n) (hx0 : IXF s a b0) (h : 240 ≤ b0) (h2 : b0 < 248) (hc0 : bits .and .i64 (b0 : Int) 7 = (c0 : Nat)) (hc : c0 < 8)
    (hx1 : a + 1 < n → IXF s ((a : Int) + 1) b1) (hf1 : bits .and .u8 (b1 : Int) 63 = (m1 : Nat)) (q1 : Bool) (hq1 : (bits .and .u8 (b1 : Int) 192 == 128) = q1) (hm1 : m1 < 64) (hx2 : a + 2 < n → IXF s ((a : Int) + 2) b2) (hf2 : bits .and .u8 (b2 : Int) 63 = (m2 : Nat)) (q2 : Bool) (hq2 : (bits .and .u8 (b2 : Int) 192 == 128) = q2) (hm2 : m2 < 64) (hx3 : a + 3 < n → IXF s ((a : Int) + 3) b3) (hf3 : bits .and .u8 (b3 : Int) 63 = (m3 : Nat)) (q3 : Bool) (hq3 : (bits .and .u8 (b3 : Int) 192 == 128) = q3) (hm3 : m3 < 64) :
    Calls Tryd.prog 112 #[.string s, .int .i64 (a : Nat)] w fun e w' => e = .returned (if 3 < n - a ∧ q1 = true ∧ q2 = true ∧ q3 = true ∧ 65536 ≤ ((c0 * 64 + m1) * 64 + m2) * 64 + m3 ∧ pointB (((c0 * 64 + m1) * 64 + m2) * 64 + m3 : Nat) = true then .tuple #[.int .i64 (((c0 * 64 + m1) * 64 + m2) * 64 + m3 : Nat), .int .i64 4] else .tuple #[.int .i64 (-1), .int .i64 1]) ∧ w' = w := by
  have i1 : ¬ (n : Int) ≤ (a : Int) := by omega
  have i2 : ¬ (a : Int) < 0 := by omega
  have i3 : ¬ (b0 : Int) < 128 := by omega
  have i4 : (192 : Int) ≤ (b0 : Int) := by omega
  have i5 : ¬ (b0 : Int) < 224 := by omega
  have i6 : (224 : Int) ≤ (b0 : Int) := by omega
  have i7 : ¬ (b0 : Int) < 240 := by omega
  have i8 : (240 : Int) ≤ (b0 : Int) := by omega
  have i9 : (b0 : Int) < 248 := by omega
  obtain ⟨R, hR⟩ : ∃ R : Value, R = if 3 < n - a ∧ q1 = true ∧ q2 = true ∧ q3 = true ∧ 65536 ≤ ((c0 * 64 + m1) * 64 + m2) * 64 + m3 ∧ pointB (((c0 * 64 + m1) * 64 + m2) * 64 + m3 : Nat) = true then .tuple #[.int .i64 (((c0 * 64 + m1) * 64 + m2) * 64 + m3 : Nat), .int .i64 4] else .tuple #[.int .i64 (-1), .int .i64 1] := ⟨_, rfl⟩
  rw [← hR]
  by_cases d : a + 3 < n
  · obtain ⟨C, hC⟩ : ∃ C : Nat, C = ((c0 * 64 + m1) * 64 + m2) * 64 + m3 := ⟨_, rfl⟩
    obtain ⟨p, hp⟩ : ∃ p, p = pointB (C : Nat) := ⟨_, rfl⟩
    rw [← hC, ← hp] at hR
    have HP : Hid (Calls Tryd.prog 114 #[.int .i64 (C : Nat)] w fun e w' => e = .returned (.bool p) ∧ w' = w) := Lib.hid (by rw [hp]; exact Point_any _ _ (by omega) (by omega))
    have HD : Hid (3 < n - a) := Lib.hid (by omega)
    have HR := Lib.hid hR
    have HC := Lib.hid hC
    clear hR hC hp
    have hx1 := hx1 (by omega)
    have hx2 := hx2 (by omega)
    have hx3 := hx3 (by omega)
    have j1 : ¬ (n : Int) < (a : Int) + 4 := by omega
    have hqq1 := Lib.hid hq1
    clear hq1
    have hqq2 := Lib.hid hq2
    clear hq2
    have hqq3 := Lib.hid hq3
    clear hq3
    go_enter Tryd.func112, Tryd.ntmps112
    repeat any_goals (first | go_skip | go_guarded | go_step | go_upon | (simp only []; done))
    go_loop [6, 9] (fun c i => (i = .int .i64 1 ∧ c = .int .i64 (c0 : Nat)) ∨ (i = .int .i64 2 ∧ c = .int .i64 (c0 * 64 + m1 : Nat) ∧ q1 = true) ∨ (i = .int .i64 3 ∧ c = .int .i64 ((c0 * 64 + m1) * 64 + m2 : Nat) ∧ q1 = true ∧ q2 = true) ∨ (i = .int .i64 4 ∧ c = .int .i64 (((c0 * 64 + m1) * 64 + m2) * 64 + m3 : Nat) ∧ q1 = true ∧ q2 = true ∧ q3 = true)) (fun _ i => 5 - (intOf i).toNat)
    case atStart => exact .inl ⟨rfl, rfl⟩
    case round =>
      rcases hrel with ⟨rfl, hcc⟩ | ⟨rfl, hcc, r1⟩ | ⟨rfl, hcc, r1, r2⟩ | ⟨rfl, hcc, r1, r2, r3⟩
      · subst hcc
        cases q1 with
        | false =>
          have hqf := hqq1.out
          have e := HR.out
          rw [if_neg (by simp)] at e
          subst e
          repeat any_goals (first | go_skip | go_guarded | go_step | go_upon | (simp only []; done))
          exact bodyPost_ret (v := .tuple #[.int .i64 (-1), .int .i64 1]) (by simp [results, Tryd.results112, go_sem]) rfl ⟨rfl, rfl⟩
        | true =>
          have hqf := hqq1.out
          repeat any_goals (first | go_skip | go_guarded | go_step | go_upon | (simp only []; done))
          go_round
          case rel => exact .inr (.inl ⟨rfl, by simp, by simp⟩)
          case measure => simp [intOf]
      · subst hcc
        cases q2 with
        | false =>
          have hqf := hqq2.out
          have e := HR.out
          rw [if_neg (by simp)] at e
          subst e
          repeat any_goals (first | go_skip | go_guarded | go_step | go_upon | (simp only []; done))
          exact bodyPost_ret (v := .tuple #[.int .i64 (-1), .int .i64 1]) (by simp [results, Tryd.results112, go_sem]) rfl ⟨rfl, rfl⟩
        | true =>
          have hqf := hqq2.out
          repeat any_goals (first | go_skip | go_guarded | go_step | go_upon | (simp only []; done))
          go_round
          case rel => exact .inr (.inr (.inl ⟨rfl, by simp, r1, by simp⟩))
          case measure => simp [intOf]
      · subst hcc
        cases q3 with
        | false =>
          have hqf := hqq3.out
          have e := HR.out
          rw [if_neg (by simp)] at e
          subst e
          repeat any_goals (first | go_skip | go_guarded | go_step | go_upon | (simp only []; done))
          exact bodyPost_ret (v := .tuple #[.int .i64 (-1), .int .i64 1]) (by simp [results, Tryd.results112, go_sem]) rfl ⟨rfl, rfl⟩
        | true =>
          have hqf := hqq3.out
          repeat any_goals (first | go_skip | go_guarded | go_step | go_upon | (simp only []; done))
          go_round
          case rel => exact .inr (.inr (.inr (⟨rfl, by simp, r1, r2, by simp⟩)))
          case measure => simp [intOf]
      · rw [← HC.out] at hcc
        subst hcc
        by_cases l : 65536 ≤ C
        · have l1 : ¬ (C : Int) < 65536 := by omega
          cases p with
          | false =>
            have e := HR.out
            rw [if_neg (by simp)] at e
            subst e
            repeat any_goals (first | (go_at_call 114; refine (HP.out).mono ?_; rintro e w' ⟨rfl, rfl⟩) | go_skip | go_guarded | go_step | go_upon | (dsimp only []))
            exact bodyPost_ret (v := .tuple #[.int .i64 (-1), .int .i64 1]) (by simp [results, Tryd.results112, go_sem]) rfl ⟨rfl, rfl⟩
          | true =>
            have e := HR.out
            rw [if_pos ⟨HD.out, r1, r2, r3, l, rfl⟩] at e
            subst e
            repeat any_goals (first | (go_at_call 114; refine (HP.out).mono ?_; rintro e w' ⟨rfl, rfl⟩) | go_skip | go_guarded | go_step | go_upon | (dsimp only []))
            exact bodyPost_ret (v := .tuple #[.int .i64 (C : Nat), .int .i64 4]) (by simp [results, Tryd.results112, go_sem]) rfl ⟨rfl, rfl⟩
        · have l1 : (C : Int) < 65536 := by omega
          have e := HR.out
          rw [if_neg (fun h => l h.2.2.2.2.1)] at e
          subst e
          repeat any_goals (first | go_skip | go_guarded | go_step | go_upon | (simp only []; done))
          exact bodyPost_ret (v := .tuple #[.int .i64 (-1), .int .i64 1]) (by simp [results, Tryd.results112, go_sem]) rfl ⟨rfl, rfl⟩
  · rw [if_neg (fun h => d (by omega))] at hR
    subst hR
    have j1 : (n : Int) < (a : Int) + 4 := by omega
    go_enter Tryd.func112, Tryd.ntmps112
    repeat any_goals (first | go_skip | go_guarded | go_step | go_upon | (simp only []; done))
    exact bodyPost_ret (v := .tuple #[.int .i64 (-1), .int .i64 1]) (by simp [results, Tryd.results112, go_sem]) rfl ⟨rfl, rfl⟩
end Go.Proofs.YtminijokbeclhaaDoor
