/- Contracts of the document's digits: Add. -/
import Derived.Test.YtbmeejfpaeggjaaDoorDq
namespace Go.Proofs.YtbmeejfpaeggjaaDoor
open Go.RowKit
/-- the carry into digit i of a sum -/
def cy (A B i : Nat) : Nat := (A % 2 ^ (32 * i) + B % 2 ^ (32 * i)) / 2 ^ (32 * i)
theorem cy_le (A B i : Nat) : cy A B i ≤ 1 := by
  have h1 : A % 2 ^ (32 * i) < 2 ^ (32 * i) := Nat.mod_lt _ (Nat.two_pow_pos _)
  have h2 : B % 2 ^ (32 * i) < 2 ^ (32 * i) := Nat.mod_lt _ (Nat.two_pow_pos _)
  unfold cy
  apply Nat.le_of_lt_succ
  rw [Nat.div_lt_iff_lt_mul (Nat.two_pow_pos _)]
  omega
theorem mod32_succ (A i : Nat) : A % 2 ^ (32 * (i + 1)) = A % 2 ^ (32 * i) + 2 ^ (32 * i) * dig A i := by
  unfold dig
  rw [show 32 * (i + 1) = 32 * i + 32 from by omega, Nat.pow_add, Nat.mod_mul]
theorem add_digit (A B i : Nat) : (dig A i + dig B i + cy A B i) / 4294967296 = cy A B (i + 1) ∧ (dig A i + dig B i + cy A B i) % 4294967296 = dig (A + B) i := by
  have hp := Nat.two_pow_pos (32 * i)
  have hs : A % 2 ^ (32 * (i + 1)) + B % 2 ^ (32 * (i + 1)) = (A % 2 ^ (32 * i) + B % 2 ^ (32 * i)) + 2 ^ (32 * i) * (dig A i + dig B i) := by
    rw [mod32_succ, mod32_succ, Nat.mul_add]
    omega
  have h32 : (4294967296 : Nat) = 2 ^ 32 := by decide
  constructor
  · unfold cy
    rw [hs, show 32 * (i + 1) = 32 * i + 32 from by omega, Nat.pow_add, ← Nat.div_div_eq_div_mul, Nat.add_mul_div_left _ _ hp, Nat.add_comm ((A % 2 ^ (32 * i) + B % 2 ^ (32 * i)) / 2 ^ (32 * i)), h32]
  · have hab : (A + B) % 2 ^ (32 * (i + 1)) = (A % 2 ^ (32 * (i + 1)) + B % 2 ^ (32 * (i + 1))) % 2 ^ (32 * (i + 1)) := by rw [Nat.add_mod]
    have hl : dig (A + B) i = (A + B) % 2 ^ (32 * (i + 1)) / 2 ^ (32 * i) := by
      unfold dig
      rw [show 32 * (i + 1) = 32 * i + 32 from by omega, Nat.pow_add, Nat.mod_mul_right_div_self, h32]
    rw [hl, hab, hs]
    unfold cy
    rw [show 32 * (i + 1) = 32 * i + 32 from by omega, Nat.pow_add, Nat.mod_mul_right_div_self, Nat.add_mul_div_left _ _ hp, Nat.add_comm ((A % 2 ^ (32 * i) + B % 2 ^ (32 * i)) / 2 ^ (32 * i)), h32]
theorem cy_zero (A B : Nat) : cy A B 0 = 0 := by unfold cy; simp [Nat.mod_one]
theorem cy_end {A B j : Nat} (hA : A < 2 ^ (32 * j)) (hB : B < 2 ^ (32 * j)) (h : cy A B j = 0) : A + B < 2 ^ (32 * j) := by
  unfold cy at h
  rw [Nat.mod_eq_of_lt hA, Nat.mod_eq_of_lt hB] at h
  rcases Nat.div_eq_zero_iff.1 h with h | h
  · exact absurd h (by have := Nat.two_pow_pos (32 * j); omega)
  · exact h
theorem cy_past {A B m j : Nat} (hA : A < 2 ^ (32 * m)) (hB : B < 2 ^ (32 * m)) (h : m < j) : cy A B j = 0 := by
  have h1 : 2 ^ (32 * m) * 2 ≤ 2 ^ (32 * j) := by
    rw [← Nat.pow_succ]
    exact Nat.pow_le_pow_right (by decide) (by omega)
  unfold cy
  rw [Nat.mod_eq_of_lt (by omega), Nat.mod_eq_of_lt (by omega), Nat.div_eq_of_lt (by omega)]
theorem digl_succ1 (V m : Nat) : digl V (m + 1) = digl V m ++ [.int .u32 (dig V m : Nat)] := by
  unfold digl
  rw [List.range_succ]
  simp
set_option maxRecDepth 20000 in
set_option maxHeartbeats 1600000 in
theorem DAdd_walk (a1 a2 : Option Addr) (n1 n2 c1 c2 A B : Nat) (w : World) (h1 : DN w (.slice a1 n1 c1) n1 A) (h2 : DN w (.slice a2 n2 c2) n2 B) (l1 : n1 ≤ 1000000) (l2 : n2 ≤ 1000000) :
    Calls Tryd.prog 13 #[.slice a1 n1 c1, .slice a2 n2 c2] w fun e w' => ∃ v, e = .returned v ∧ IsD w' v (A + B) ∧ Below w.heap.size w w' := by
  obtain ⟨i0, hi, hz0, hz1, hz2⟩ := info_parts infoU32
  obtain ⟨M, hM⟩ : ∃ M, M = max n1 n2 := ⟨_, rfl⟩
  have hA : A < 2 ^ (32 * M) := Nat.lt_of_lt_of_le h1.1 (Nat.pow_le_pow_right (by decide) (by omega))
  have hB : B < 2 ^ (32 * M) := Nat.lt_of_lt_of_le h2.1 (Nat.pow_le_pow_right (by decide) (by omega))
  have H := Lib.hid (And.intro h1 (And.intro h2 (And.intro hA hB)))
  clear h1 h2 hA hB
  go_enter Tryd.func13, Tryd.ntmps13
  repeat any_goals (first | go_skip | go_guarded | go_step | go_upon | (simp only []; done))
  go_loopw [5, 6, 7] (fun v c i wr => ∃ j : Nat, j ≤ M + 1 ∧ i = .int .i64 j ∧ c = .int .u64 (cy A B j : Nat) ∧ wr.ownsRow w.heap.size 63 1 v j (digl (A + B) j) ∧ Below w.heap.size w wr)
    (fun _ _ i _ => M + 2 - (intOf i).toNat)
  case atStart =>
    refine ⟨0, by omega, rfl, by rw [cy_zero]; rfl, World.ownsRow_nil _ _ _ _, Below.refl _ _⟩
  case round =>
    obtain ⟨j, hj, rfl, rfl, hown, hbel⟩ := hrel
    obtain ⟨x, hx⟩ : ∃ x, x = dig A j := ⟨_, rfl⟩
    obtain ⟨y, hy⟩ : ∃ x, x = dig B j := ⟨_, rfl⟩
    obtain ⟨c, hc⟩ : ∃ x, x = cy A B j := ⟨_, rfl⟩
    have hx4 : x < 4294967296 := hx ▸ dig_lt _ _
    have hy4 : y < 4294967296 := hy ▸ dig_lt _ _
    have hc1 : c ≤ 1 := hc ▸ cy_le _ _ _
    have a1c : Hid (Calls Tryd.prog 41 #[.slice a1 n1 c1, .int .i64 (j : Int)] wr fun e w' => e = .returned (.int .u64 (x : Int)) ∧ wr = w') := Lib.hid (by rw [hx]; exact at_any _ _ _ j wr (H.out.1.below hbel))
    have a2c : Hid (Calls Tryd.prog 41 #[.slice a2 n2 c2, .int .i64 (j : Int)] wr fun e w' => e = .returned (.int .u64 (y : Int)) ∧ wr = w') := Lib.hid (by rw [hy]; exact at_any _ _ _ j wr (H.out.2.1.below hbel))
    obtain ⟨s, hs⟩ : ∃ s, s = dig (A + B) j := ⟨_, rfl⟩
    obtain ⟨c', hc'⟩ : ∃ x, x = cy A B (j + 1) := ⟨_, rfl⟩
    obtain ⟨d1, d2⟩ := add_digit A B j
    rw [← hx, ← hy, ← hc, ← hs] at d2
    rw [← hx, ← hy, ← hc, ← hc'] at d1
    have e1 : ((c : Int) + (x : Int) + (y : Int)) % 4294967296 = (s : Int) := by omega
    have e2 : ((c : Int) + (x : Int) + (y : Int)) / 4294967296 = (c' : Int) := by omega
    have e3 : IntKind.u32.wrap ((c : Int) + (x : Int) + (y : Int)) = (s : Int) := by rw [IntKind.wrap_u32]; exact e1
    rw [← hc]
    have hown2 : digl (A + B) j ++ [.int .u32 (s : Nat)] = digl (A + B) (j + 1) := by rw [digl_succ1, hs]
    have G := Lib.hid (And.intro hown2 (And.intro hc hc'))
    have hsz := hbel.size
    clear hx hy hs hc' d1 d2 hown2
    by_cases c0 : j < n1 ∨ j < n2 ∨ 0 < c
    · have hjM : j ≤ M := by
        rcases c0 with h | h | h
        · omega
        · omega
        · rcases Nat.lt_or_ge M j with h3 | h3
          · have h4 := cy_past H.out.2.2.1 H.out.2.2.2 h3
            rw [← hc] at h4
            omega
          · exact h3
      clear hc
      have b1 : j + 1 ≤ maxLen := by unfold maxLen; omega
      have b2 : (j + 1) * 4 ≤ 140737488355328 := by omega
      have BH := Lib.hid (And.intro b1 b2)
      clear b1 b2
      go_upto_region 4 with fail
      go_cut [21] (fun s21 wx => s21 = .bool true ∧ wx = wr)
      case first =>
        clear e1 e2 e3
        by_cases c1 : (j : Int) < (n1 : Int)
        · repeat any_goals (first | go_skip | go_guarded | go_step | go_upon | (simp only []; done))
          all_goals (go_meet; case rel => exact ⟨rfl, rfl⟩)
        · by_cases c2 : (j : Int) < (n2 : Int)
          · repeat any_goals (first | go_skip | go_guarded | go_step | go_upon | (simp only []; done))
            all_goals (go_meet; case rel => exact ⟨rfl, rfl⟩)
          · have c3 : 0 < (c : Int) := by omega
            repeat any_goals (first | go_skip | go_guarded | go_step | go_upon | (simp only []; done))
            all_goals (go_meet; case rel => exact ⟨by first | rfl | (simp; omega), rfl⟩)
      case rest =>
        obtain ⟨rfl, rfl⟩ := hcut
        clear c0
        repeat any_goals (first | (go_at_call 41; with_reducible refine a1c.out.mono ?_; rintro e w' ⟨rfl, rfl⟩) | (go_at_call 41; with_reducible refine a2c.out.mono ?_; rintro e w' ⟨rfl, rfl⟩) | (at_builtin; refine wpList_append_own _ rfl (.tmp 33) (.tmp 36) 29 rfl w.heap.size 63 i0 (.int .u32 0) 1 4 Tryd.underlying29 hi hz0 hz1 hz2 rfl (by decide) _ _ _ rfl (hown.alloc _) ⟨wc.heap.size, 0, none⟩ 1 1 [.int .u32 (s : Int)] rfl rfl (one_cell (by simp)) one_one BH.out.1 BH.out.2 (by simp; omega) ?_; intro v' w1 hown' hgrow _) | go_skip | go_guarded | go_step | go_upon | (dsimp only []))
        have hW1 := (hbel.alloc hsz _).grown hgrow (by simp; omega) (fun k h => (hown.lt k h).1)
        rw [G.out.1] at hown'
        have F := Lib.hid (And.intro hown' hW1)
        clear hown hown' hgrow hW1 hbel
        repeat any_goals (first | go_skip | go_guarded | go_step | go_upon | (simp only []; done))
        go_roundw
        case rel => exact ⟨j + 1, by omega, by go_num, by rw [← G.out.2.2], F.out.1, F.out.2⟩
        case measure => first | (simp [intOf]; done) | (simp [intOf]; omega)
    · clear e1 e2 e3 a1c a2c
      have c1 : ¬ (j : Int) < (n1 : Int) := by omega
      have c2 : ¬ (j : Int) < (n2 : Int) := by omega
      have c3 : ¬ 0 < (c : Int) := by omega
      have hcz : cy A B j = 0 := by rw [← hc]; omega
      have hlt : A + B < 2 ^ (32 * j) := cy_end (Nat.lt_of_lt_of_le H.out.1.1 (Nat.pow_le_pow_right (by decide) (by omega))) (Nat.lt_of_lt_of_le H.out.2.1.1 (Nat.pow_le_pow_right (by decide) (by omega))) hcz
      have hD := Lib.hid (DN_own hown hlt (by omega))
      clear hc hcz hlt c0 hown
      repeat any_goals (first | (go_at_call 42; refine (trim_any _ _ _ _ hD.out).mono ?_; rintro e w' ⟨⟨v, rfl, hv⟩, rfl⟩) | go_skip | go_guarded | go_step | go_upon | (dsimp only []))
      go_ret
      exact ⟨v, rfl, hv, hbel⟩
/-- **Add.** -/
theorem DAdd_any (v1 v2 : Value) (n1 n2 A B : Nat) (w : World) (h1 : DN w v1 n1 A) (h2 : DN w v2 n2 B) (l1 : n1 ≤ 1000000) (l2 : n2 ≤ 1000000) :
    Calls Tryd.prog 13 #[v1, v2] w fun e w' => ∃ v, e = .returned v ∧ IsD w' v (A + B) ∧ Below w.heap.size w w' := by
  obtain ⟨_, _, a1, c1, rfl, _⟩ := id h1
  obtain ⟨_, _, a2, c2, rfl, _⟩ := id h2
  exact DAdd_walk a1 a2 n1 n2 c1 c2 A B w h1 h2 l1 l2
end Go.Proofs.YtbmeejfpaeggjaaDoor
