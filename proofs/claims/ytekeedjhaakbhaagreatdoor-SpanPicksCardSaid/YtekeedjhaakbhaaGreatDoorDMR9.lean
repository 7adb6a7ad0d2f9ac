/- Contracts of the document's digits: Add. · Contracts of the document's digits: Cmp. · The contracts of the document's digits, once more, for numbers without noughts ahead. · Contract: the document's Sub. · Contracts of the document's digits: Shift, once more. · Contract: Exact of the document. -/
import Derived.Test.YtekeedjhaakbhaaGreatDoorDM6
import Derived.Test.YtekeedjhaakbhaaGreatDoorCmp6
import Derived.Test.YtekeedjhaakbhaaGreatDoorWh9
namespace Go.Proofs.YtekeedjhaakbhaaGreatDoor
open Go.RowKit
/-- the carry into digit i of a sum -/
def cy (A B i : Nat) : Nat := (A % 2 ^ (32 * i) + B % 2 ^ (32 * i)) / 2 ^ (32 * i)
theorem cy_le (A B i : Nat) : cy A B i ≤ 1 := by
  have h1 : A % 2 ^ (32 * i) < 2 ^ (32 * i) := Nat.mod_lt _ (Nat.two_pow_pos _)
  have h2 : B % 2 ^ (32 * i) < 2 ^ (32 * i) := Nat.mod_lt _ (Nat.two_pow_pos _)
  unfold cy
  apply Nat.le_of_lt_succ
  rw [Nat.div_lt_iff_lt_mul (Nat.two_pow_pos _)]
  omega
theorem mod32_succ (A i : Nat) : A % 2 ^ (32 * (i + 1)) = A % 2 ^ (32 * i) + 2 ^ (32 * i) * dig A i := by
  unfold dig
  rw [show 32 * (i + 1) = 32 * i + 32 from by omega, Nat.pow_add, Nat.mod_mul]
theorem add_digit (A B i : Nat) : (dig A i + dig B i + cy A B i) / 4294967296 = cy A B (i + 1) ∧ (dig A i + dig B i + cy A B i) % 4294967296 = dig (A + B) i := by
  have hp := Nat.two_pow_pos (32 * i)
  have hs : A % 2 ^ (32 * (i + 1)) + B % 2 ^ (32 * (i + 1)) = (A % 2 ^ (32 * i) + B % 2 ^ (32 * i)) + 2 ^ (32 * i) * (dig A i + dig B i) := by
    rw [mod32_succ, mod32_succ, Nat.mul_add]
    omega
  have h32 : (4294967296 : Nat) = 2 ^ 32 := by decide
  constructor
  · unfold cy
    rw [hs, show 32 * (i + 1) = 32 * i + 32 from by omega, Nat.pow_add, ← Nat.div_div_eq_div_mul, Nat.add_mul_div_left _ _ hp, Nat.add_comm ((A % 2 ^ (32 * i) + B % 2 ^ (32 * i)) / 2 ^ (32 * i)), h32]
  · have hab : (A + B) % 2 ^ (32 * (i + 1)) = (A % 2 ^ (32 * (i + 1)) + B % 2 ^ (32 * (i + 1))) % 2 ^ (32 * (i + 1)) := by rw [Nat.add_mod]
    have hl : dig (A + B) i = (A + B) % 2 ^ (32 * (i + 1)) / 2 ^ (32 * i) := by
      unfold dig
      rw [show 32 * (i + 1) = 32 * i + 32 from by omega, Nat.pow_add, Nat.mod_mul_right_div_self, h32]
    rw [hl, hab, hs]
    unfold cy
    rw [show 32 * (i + 1) = 32 * i + 32 from by omega, Nat.pow_add, Nat.mod_mul_right_div_self, Nat.add_mul_div_left _ _ hp, Nat.add_comm ((A % 2 ^ (32 * i) + B % 2 ^ (32 * i)) / 2 ^ (32 * i)), h32]
theorem cy_zero (A B : Nat) : cy A B 0 = 0 := by unfold cy; simp [Nat.mod_one]
theorem cy_end {A B j : Nat} (hA : A < 2 ^ (32 * j)) (hB : B < 2 ^ (32 * j)) (h : cy A B j = 0) : A + B < 2 ^ (32 * j) := by
  unfold cy at h
  rw [Nat.mod_eq_of_lt hA, Nat.mod_eq_of_lt hB] at h
  rcases Nat.div_eq_zero_iff.1 h with h | h
  · exact absurd h (by have := Nat.two_pow_pos (32 * j); omega)
  · exact h
theorem cy_past {A B m j : Nat} (hA : A < 2 ^ (32 * m)) (hB : B < 2 ^ (32 * m)) (h : m < j) : cy A B j = 0 := by
  have h1 : 2 ^ (32 * m) * 2 ≤ 2 ^ (32 * j) := by
    rw [← Nat.pow_succ]
    exact Nat.pow_le_pow_right (by decide) (by omega)
  unfold cy
  rw [Nat.mod_eq_of_lt (by omega), Nat.mod_eq_of_lt (by omega), Nat.div_eq_of_lt (by omega)]
theorem digl_succ1 (V m : Nat) : digl V (m + 1) = digl V m ++ [.int .u32 (dig V m : Nat)] := by
  unfold digl
  rw [List.range_succ]
  simp
set_option maxRecDepth 20000 in
set_option maxHeartbeats 1600000 in
theorem DAdd_walk (a1 a2 : Option Addr) (n1 n2 c1 c2 A B : Nat) (w : World) (h1 : DN w (.slice a1 n1 c1) n1 A) (h2 : DN w (.slice a2 n2 c2) n2 B) (l1 : n1 ≤ 1000000) (l2 : n2 ≤ 1000000) :
    Calls Tryz.prog 48 #[.slice a1 n1 c1, .slice a2 n2 c2] w fun e w' => ∃ v, e = .returned v ∧ IsD w' v (A + B) ∧ Below w.heap.size w w' := by
  obtain ⟨i0, hi, hz0, hz1, hz2⟩ := info_parts infoU32
  obtain ⟨M, hM⟩ : ∃ M, M = max n1 n2 := ⟨_, rfl⟩
  have hA : A < 2 ^ (32 * M) := Nat.lt_of_lt_of_le h1.1 (Nat.pow_le_pow_right (by decide) (by omega))
  have hB : B < 2 ^ (32 * M) := Nat.lt_of_lt_of_le h2.1 (Nat.pow_le_pow_right (by decide) (by omega))
  have H := Lib.hid (And.intro h1 (And.intro h2 (And.intro hA hB)))
  clear h1 h2 hA hB
  go_enter Tryz.func48, Tryz.ntmps48
  repeat any_goals (first | go_skip | go_guarded | go_step | go_upon | (simp only []; done))
  go_loopw [5, 6, 7] (fun v c i wr => ∃ j : Nat, j ≤ M + 1 ∧ i = .int .i64 j ∧ c = .int .u64 (cy A B j : Nat) ∧ wr.ownsRow w.heap.size 67 1 v j (digl (A + B) j) ∧ Below w.heap.size w wr)
    (fun _ _ i _ => M + 2 - (intOf i).toNat)
  case atStart =>
    refine ⟨0, by omega, rfl, by rw [cy_zero]; rfl, World.ownsRow_nil _ _ _ _, Below.refl _ _⟩
  case round =>
    obtain ⟨j, hj, rfl, rfl, hown, hbel⟩ := hrel
    obtain ⟨x, hx⟩ : ∃ x, x = dig A j := ⟨_, rfl⟩
    obtain ⟨y, hy⟩ : ∃ x, x = dig B j := ⟨_, rfl⟩
    obtain ⟨c, hc⟩ : ∃ x, x = cy A B j := ⟨_, rfl⟩
    have hx4 : x < 4294967296 := hx ▸ dig_lt _ _
    have hy4 : y < 4294967296 := hy ▸ dig_lt _ _
    have hc1 : c ≤ 1 := hc ▸ cy_le _ _ _
    have a1c : Hid (Calls Tryz.prog 68 #[.slice a1 n1 c1, .int .i64 (j : Int)] wr fun e w' => e = .returned (.int .u64 (x : Int)) ∧ wr = w') := Lib.hid (by rw [hx]; exact at_any _ _ _ j wr (H.out.1.below hbel))
    have a2c : Hid (Calls Tryz.prog 68 #[.slice a2 n2 c2, .int .i64 (j : Int)] wr fun e w' => e = .returned (.int .u64 (y : Int)) ∧ wr = w') := Lib.hid (by rw [hy]; exact at_any _ _ _ j wr (H.out.2.1.below hbel))
    obtain ⟨s, hs⟩ : ∃ s, s = dig (A + B) j := ⟨_, rfl⟩
    obtain ⟨c', hc'⟩ : ∃ x, x = cy A B (j + 1) := ⟨_, rfl⟩
    obtain ⟨d1, d2⟩ := add_digit A B j
    rw [← hx, ← hy, ← hc, ← hs] at d2
    rw [← hx, ← hy, ← hc, ← hc'] at d1
    have e1 : ((c : Int) + (x : Int) + (y : Int)) % 4294967296 = (s : Int) := by omega
    have e2 : ((c : Int) + (x : Int) + (y : Int)) / 4294967296 = (c' : Int) := by omega
    have e3 : IntKind.u32.wrap ((c : Int) + (x : Int) + (y : Int)) = (s : Int) := by rw [IntKind.wrap_u32]; exact e1
    rw [← hc]
    have hown2 : digl (A + B) j ++ [.int .u32 (s : Nat)] = digl (A + B) (j + 1) := by rw [digl_succ1, hs]
    have G := Lib.hid (And.intro hown2 (And.intro hc hc'))
    have hsz := hbel.size
    clear hx hy hs hc' d1 d2 hown2
    by_cases c0 : j < n1 ∨ j < n2 ∨ 0 < c
    · have hjM : j ≤ M := by
        rcases c0 with h | h | h
        · omega
        · omega
        · rcases Nat.lt_or_ge M j with h3 | h3
          · have h4 := cy_past H.out.2.2.1 H.out.2.2.2 h3
            rw [← hc] at h4
            omega
          · exact h3
      clear hc
      have b1 : j + 1 ≤ maxLen := by unfold maxLen; omega
      have b2 : (j + 1) * 4 ≤ 140737488355328 := by omega
      have BH := Lib.hid (And.intro b1 b2)
      clear b1 b2
      go_upto_region 4 with fail
      go_cut [21] (fun s21 wx => s21 = .bool true ∧ wx = wr)
      case first =>
        clear e1 e2 e3
        by_cases c1 : (j : Int) < (n1 : Int)
        · repeat any_goals (first | go_skip | go_guarded | go_step | go_upon | (simp only []; done))
          all_goals (go_meet; case rel => exact ⟨rfl, rfl⟩)
        · by_cases c2 : (j : Int) < (n2 : Int)
          · repeat any_goals (first | go_skip | go_guarded | go_step | go_upon | (simp only []; done))
            all_goals (go_meet; case rel => exact ⟨rfl, rfl⟩)
          · have c3 : 0 < (c : Int) := by omega
            repeat any_goals (first | go_skip | go_guarded | go_step | go_upon | (simp only []; done))
            all_goals (go_meet; case rel => exact ⟨by first | rfl | (simp; omega), rfl⟩)
      case rest =>
        obtain ⟨rfl, rfl⟩ := hcut
        clear c0
        repeat any_goals (first | (go_at_call 68; with_reducible refine a1c.out.mono ?_; rintro e w' ⟨rfl, rfl⟩) | (go_at_call 68; with_reducible refine a2c.out.mono ?_; rintro e w' ⟨rfl, rfl⟩) | (at_builtin; refine wpList_append_own _ rfl (.tmp 33) (.tmp 36) 55 rfl w.heap.size 67 i0 (.int .u32 0) 1 4 Tryz.underlying55 hi hz0 hz1 hz2 rfl (by decide) _ _ _ rfl (hown.alloc _) ⟨wc.heap.size, 0, none⟩ 1 1 [.int .u32 (s : Int)] rfl rfl (one_cell (by simp)) one_one BH.out.1 BH.out.2 (by simp; omega) ?_; intro v' w1 hown' hgrow _) | go_skip | go_guarded | go_step | go_upon | (dsimp only []))
        have hW1 := (hbel.alloc hsz _).grown hgrow (by simp; omega) (fun k h => (hown.lt k h).1)
        rw [G.out.1] at hown'
        have F := Lib.hid (And.intro hown' hW1)
        clear hown hown' hgrow hW1 hbel
        repeat any_goals (first | go_skip | go_guarded | go_step | go_upon | (simp only []; done))
        go_roundw
        case rel => exact ⟨j + 1, by omega, by go_num, by rw [← G.out.2.2], F.out.1, F.out.2⟩
        case measure => first | (simp [intOf]; done) | (simp [intOf]; omega)
    · clear e1 e2 e3 a1c a2c
      have c1 : ¬ (j : Int) < (n1 : Int) := by omega
      have c2 : ¬ (j : Int) < (n2 : Int) := by omega
      have c3 : ¬ 0 < (c : Int) := by omega
      have hcz : cy A B j = 0 := by rw [← hc]; omega
      have hlt : A + B < 2 ^ (32 * j) := cy_end (Nat.lt_of_lt_of_le H.out.1.1 (Nat.pow_le_pow_right (by decide) (by omega))) (Nat.lt_of_lt_of_le H.out.2.1.1 (Nat.pow_le_pow_right (by decide) (by omega))) hcz
      have hD := Lib.hid (DN_own hown hlt (by omega))
      clear hc hcz hlt c0 hown
      repeat any_goals (first | (go_at_call 57; refine (trim_any _ _ _ _ hD.out).mono ?_; rintro e w' ⟨⟨v, rfl, hv⟩, rfl⟩) | go_skip | go_guarded | go_step | go_upon | (dsimp only []))
      go_ret
      exact ⟨v, rfl, hv, hbel⟩
/-- **Add.** -/
theorem DAdd_any (v1 v2 : Value) (n1 n2 A B : Nat) (w : World) (h1 : DN w v1 n1 A) (h2 : DN w v2 n2 B) (l1 : n1 ≤ 1000000) (l2 : n2 ≤ 1000000) :
    Calls Tryz.prog 48 #[v1, v2] w fun e w' => ∃ v, e = .returned v ∧ IsD w' v (A + B) ∧ Below w.heap.size w w' := by
  obtain ⟨_, _, a1, c1, rfl, _⟩ := id h1
  obtain ⟨_, _, a2, c2, rfl, _⟩ := id h2
  exact DAdd_walk a1 a2 n1 n2 c1 c2 A B w h1 h2 l1 l2
end Go.Proofs.YtekeedjhaakbhaaGreatDoor

namespace Go.Proofs.YtekeedjhaakbhaaGreatDoor
open Go.RowKit
theorem top_digit (A i : Nat) : A / 2 ^ (32 * i) = A / 2 ^ (32 * (i + 1)) * 4294967296 + dig A i := by
  unfold dig
  rw [show 32 * (i + 1) = 32 * i + 32 from by omega, Nat.pow_add, ← Nat.div_div_eq_div_mul, show (2 : Nat) ^ 32 = 4294967296 from by decide]
  exact (Nat.div_add_mod' _ _).symm
theorem dcmp_lt {A B i : Nat} (h : A / 2 ^ (32 * (i + 1)) = B / 2 ^ (32 * (i + 1))) (hl : dig A i < dig B i) : cmpV A B = -1 := by
  have : A < B := lt_of_top (k := 2 ^ (32 * i)) (by rw [top_digit A, top_digit B, h]; omega)
  unfold cmpV
  rw [if_pos this]
theorem dcmp_gt {A B i : Nat} (h : A / 2 ^ (32 * (i + 1)) = B / 2 ^ (32 * (i + 1))) (hl : dig B i < dig A i) : cmpV A B = 1 := by
  have : B < A := lt_of_top (k := 2 ^ (32 * i)) (by rw [top_digit A, top_digit B, h]; omega)
  unfold cmpV
  rw [if_neg (by omega), if_pos this]
theorem dcmp_same {A B : Nat} (h : A / 2 ^ (32 * 0) = B / 2 ^ (32 * 0)) : cmpV A B = 0 := by
  rw [Nat.mul_zero, Nat.pow_zero, Nat.div_one, Nat.div_one] at h
  subst h
  unfold cmpV
  rw [if_neg (Nat.lt_irrefl _), if_neg (Nat.lt_irrefl _)]
theorem lt_of_dl {A B : Nat} (h : dl A < dl B) : A < B := by
  apply Nat.lt_of_not_le
  intro h2
  have h3 := bl_mono h2
  unfold dl at h
  omega
theorem cmp_shorter {A B : Nat} (h : dl A < dl B) : cmpV A B = -1 := by
  unfold cmpV
  rw [if_pos (lt_of_dl h)]
theorem cmp_longer {A B : Nat} (h : dl B < dl A) : cmpV A B = 1 := by
  have := lt_of_dl h
  unfold cmpV
  rw [if_neg (by omega), if_pos this]
set_option maxRecDepth 20000 in
set_option maxHeartbeats 1600000 in
/-- **Cmp.** -/
theorem DCmp_any (v1 v2 : Value) (n1 n2 A B : Nat) (w : World) (h1 : DN w v1 n1 A) (h2 : DN w v2 n2 B) :
    Calls Tryz.prog 46 #[v1, v2] w fun e w' => e = .returned (.int .i64 (cmpV A B)) ∧ Below w.heap.size w w' := by
  obtain ⟨V, hV⟩ : ∃ V, V = cmpV A B := ⟨_, rfl⟩
  rw [← hV]
  have HV := Lib.hid hV
  have H := Lib.hid (And.intro h1 h2)
  clear hV h1 h2
  go_enter Tryz.func46, Tryz.ntmps46
  go_upto_region 2 with (first | (go_at_call 57; with_reducible refine (trim_any _ _ _ _ H.out.1).mono ?_; rintro e w' ⟨⟨u1, rfl, hu1⟩, rfl⟩) | (go_at_call 57; with_reducible refine (trim_any _ _ _ _ H.out.2).mono ?_; rintro e w' ⟨⟨u2, rfl, hu2⟩, rfl⟩))
  obtain ⟨hA, hl1, o1, p1, rfl, hp1, hm1, hcell1⟩ := hu1
  obtain ⟨hB, hl2, o2, p2, rfl, hp2, hm2, hcell2⟩ := hu2
  obtain ⟨n, hn⟩ : ∃ n, n = dl A := ⟨_, rfl⟩
  obtain ⟨m, hm⟩ : ∃ n, n = dl B := ⟨_, rfl⟩
  rw [← hn] at hA hl1 hp1 hcell1 ⊢
  rw [← hm] at hB hl2 hp2 hcell2 ⊢
  have NH := Lib.hid (And.intro hn (And.intro hm (And.intro hA (And.intro hB (And.intro hcell1 hcell2)))))
  clear hn hm hA hB hcell1 hcell2
  by_cases c1 : n < m
  · have c1i : ((n : Int) != (m : Int)) = true := by simp; omega
    have c1j : (n : Int) < (m : Int) := by omega
    have e := cmp_shorter (A := A) (B := B) (by rw [← NH.out.1, ← NH.out.2.1]; exact c1)
    rw [← HV.out] at e
    subst e
    repeat any_goals (first | go_skip | go_guarded | go_step | go_upon | (simp only []; done))
    exact bodyPost_ret (v := .int .i64 (-1)) (by simp [results, Tryz.results46, go_sem]) rfl ⟨rfl, Below.refl _ _⟩
  · by_cases c2 : m < n
    · have c1i : ((n : Int) != (m : Int)) = true := by simp; omega
      have c1j : ¬ (n : Int) < (m : Int) := by omega
      have e := cmp_longer (A := A) (B := B) (by rw [← NH.out.1, ← NH.out.2.1]; exact c2)
      rw [← HV.out] at e
      subst e
      repeat any_goals (first | go_skip | go_guarded | go_step | go_upon | (simp only []; done))
      exact bodyPost_ret (v := .int .i64 1) (by simp [results, Tryz.results46, go_sem]) rfl ⟨rfl, Below.refl _ _⟩
    · have hnm : m = n := by omega
      subst hnm
      have c1i : ((m : Int) != (m : Int)) = false := by simp
      clear c1 c2
      repeat any_goals (first | go_skip | go_guarded | go_step | go_upon | (simp only []; done))
      go_loopw [5] (fun i wr => ∃ k : Nat, k ≤ m ∧ i = .int .i64 ((k : Int) - 1) ∧ A / 2 ^ (32 * k) = B / 2 ^ (32 * k) ∧ Below w.heap.size w wr) (fun i _ => (intOf i + 1).toNat)
      case atStart =>
        refine ⟨m, Nat.le_refl _, rfl, ?_, Below.refl _ _⟩
        rw [Nat.div_eq_of_lt NH.out.2.2.1, Nat.div_eq_of_lt NH.out.2.2.2.1]
      case round =>
        obtain ⟨k, hk, rfl, ht, hW⟩ := hrel
        have TH := Lib.hid ht
        clear ht
        by_cases c0 : k = 0
        · subst c0
          have e := dcmp_same TH.out
          rw [← HV.out] at e
          subst e
          repeat any_goals (first | go_skip | go_guarded | go_step | go_upon | (simp only []; done))
          exact bodyPost_ret (v := .int .i64 0) (by simp [results, Tryz.results46, go_sem]) rfl ⟨rfl, hW⟩
        · obtain ⟨i, rfl⟩ : ∃ i, k = i + 1 := ⟨k - 1, by omega⟩
          rw [show ((i + 1 : Nat) : Int) - 1 = (i : Int) from by omega]
          obtain ⟨b1, rfl, hb1, hce1⟩ := NH.out.2.2.2.2.1 (by omega)
          obtain ⟨b2, rfl, hb2, hce2⟩ := NH.out.2.2.2.2.2 (by omega)
          have ca := (hW.cell (p := ⟨b1, i, none⟩) hb1).trans (hce1 i (by omega))
          have cb := (hW.cell (p := ⟨b2, i, none⟩) hb2).trans (hce2 i (by omega))
          obtain ⟨x, hx⟩ : ∃ x, x = dig A i := ⟨_, rfl⟩
          obtain ⟨y, hy⟩ : ∃ x, x = dig B i := ⟨_, rfl⟩
          rw [← hx] at ca
          rw [← hy] at cb
          have i1 : (i : Int) < (m : Int) := by omega
          have i2 : (0 : Int) ≤ (i : Int) := by omega
          have i5 : (i : Int).toNat = i := rfl
          have G := Lib.hid (And.intro hx hy)
          have hW1 := hW.drew
          have hW2 := hW1.drew
          clear hx hy c0 hce1 hce2
          by_cases c1 : x < y
          · have c1j : (x : Int) < (y : Int) := by omega
            have e := dcmp_lt TH.out (by rw [← G.out.1, ← G.out.2]; exact c1)
            rw [← HV.out] at e
            subst e
            repeat any_goals (first | go_skip | go_guarded | go_step | go_upon | (simp only []; done))
            go_region
            repeat any_goals (first | go_skip | go_guarded | go_step | go_upon | (simp only []; done))
            exact bodyPost_ret (v := .int .i64 (-1)) (by simp [results, Tryz.results46, go_sem]) rfl ⟨rfl, hW1⟩
          · by_cases c2 : y < x
            · have c1j : ¬ (x : Int) < (y : Int) := by omega
              have c2j : (y : Int) < (x : Int) := by omega
              have e := dcmp_gt TH.out (by rw [← G.out.1, ← G.out.2]; exact c2)
              rw [← HV.out] at e
              subst e
              repeat any_goals (first | go_skip | go_guarded | go_step | go_upon | (simp only []; done))
              go_region
              repeat any_goals (first | go_skip | go_guarded | go_step | go_upon | (simp only []; done))
              go_region
              repeat any_goals (first | go_skip | go_guarded | go_step | go_upon | (simp only []; done))
              exact bodyPost_ret (v := .int .i64 1) (by simp [results, Tryz.results46, go_sem]) rfl ⟨rfl, hW2⟩
            · have c1j : ¬ (x : Int) < (y : Int) := by omega
              have c2j : ¬ (y : Int) < (x : Int) := by omega
              have e : A / 2 ^ (32 * i) = B / 2 ^ (32 * i) := by
                rw [top_digit A, top_digit B, TH.out, ← G.out.1, ← G.out.2, show x = y from by omega]
              have E := Lib.hid e
              clear e c1 c2
              repeat any_goals (first | go_skip | go_guarded | go_step | go_upon | (simp only []; done))
              go_region
              repeat any_goals (first | go_skip | go_guarded | go_step | go_upon | (simp only []; done))
              go_region
              repeat any_goals (first | go_skip | go_guarded | go_step | go_upon | (simp only []; done))
              go_roundw
              case rel => exact ⟨i, by omega, by go_num, E.out, hW2⟩
              case measure => first | (simp [intOf]; done) | (simp [intOf]; omega)
end Go.Proofs.YtekeedjhaakbhaaGreatDoor

namespace Go.Proofs.YtekeedjhaakbhaaGreatDoor
open Go.RowKit
theorem dl8 {V : Nat} (h : V < 2 ^ 256) : dl V ≤ 8 := (dl_le_iff V 8).2 h
theorem dl2 {V : Nat} (h : V < 18446744073709551616) : dl V ≤ 2 := (dl_le_iff V 2).2 h
theorem IsD.below {w1 w2 : World} {v : Value} {V : Nat} (h : IsD w1 v V) (hb : Below w1.heap.size w1 w2) : IsD w2 v V := DN.below h hb
theorem IsD.alloc {w1 : World} {v : Value} {V : Nat} (h : IsD w1 v V) (o : Obj) : IsD (w1.alloc o) v V := DN.alloc h o
theorem IsD.step {w1 w2 : World} {v : Value} {V : Nat} {o : Obj} (h : IsD w1 v V) (hb : Below (w1.alloc o).heap.size (w1.alloc o) w2) : IsD w2 v V := (h.alloc o).below hb
theorem MulI_any (v1 v2 : Value) (A B : Nat) (w : World) (h1 : IsD w v1 A) (h2 : IsD w v2 B) (l1 : dl A ≤ 1000) (l2 : dl B ≤ 1000) :
    Calls Tryz.prog 67 #[v1, v2] w fun e w' => ∃ v, e = .returned v ∧ IsD w' v (A * B) ∧ Below w.heap.size w w' :=
  Mul_any v1 v2 _ _ A B w h1 h2 (by omega) (by omega)
theorem AddI_any (v1 v2 : Value) (A B : Nat) (w : World) (h1 : IsD w v1 A) (h2 : IsD w v2 B) (l1 : dl A ≤ 1000) (l2 : dl B ≤ 1000) :
    Calls Tryz.prog 48 #[v1, v2] w fun e w' => ∃ v, e = .returned v ∧ IsD w' v (A + B) ∧ Below w.heap.size w w' :=
  DAdd_any v1 v2 _ _ A B w h1 h2 (by omega) (by omega)
theorem CmpI_any (v1 v2 : Value) (A B : Nat) (w : World) (h1 : IsD w v1 A) (h2 : IsD w v2 B) :
    Calls Tryz.prog 46 #[v1, v2] w fun e w' => e = .returned (.int .i64 (cmpV A B)) ∧ Below w.heap.size w w' :=
  DCmp_any v1 v2 _ _ A B w h1 h2
theorem NatI_any (v : Value) (V : Nat) (w : World) (h : IsD w v V) :
    Calls Tryz.prog 69 #[v] w fun e w' => e = .returned (.tuple #[.agg #[.int .u64 (lm (if V < 2 ^ 256 then V else 0) 0 : Nat), .int .u64 (lm (if V < 2 ^ 256 then V else 0) 1 : Nat), .int .u64 (lm (if V < 2 ^ 256 then V else 0) 2 : Nat), .int .u64 (lm (if V < 2 ^ 256 then V else 0) 3 : Nat)], .bool (decide (V < 2 ^ 256))]) ∧ Below w.heap.size w w' := DNat_any v _ V w h
theorem LenI_any (v : Value) (V : Nat) (w : World) (h : IsD w v V) :
    Calls Tryz.prog 30 #[v] w fun e w' => e = .returned (.int .i64 (bl V : Nat)) ∧ w = w' := DLen_any v _ V w h
theorem TrailI_any (v : Value) (V : Nat) (w : World) (h : IsD w v V) :
    Calls Tryz.prog 31 #[v] w fun e w' => e = .returned (.int .i64 (if V = 0 then 256 else tz V : Nat)) ∧ w = w' := DTrail_any v _ V w h
end Go.Proofs.YtekeedjhaakbhaaGreatDoor

namespace Go.Proofs.YtekeedjhaakbhaaGreatDoor
open Go.RowKit
set_option maxRecDepth 20000 in
set_option maxHeartbeats 1600000 in
theorem DSub_walk (a1 a2 : Option Addr) (n1 n2 c1 c2 A B D : Nat) (w : World) (h1 : DN w (.slice a1 n1 c1) n1 A) (h2 : DN w (.slice a2 n2 c2) n2 B) (l1 : n1 ≤ 1000000) (hD : A = D + B) :
    Calls Tryz.prog 52 #[.slice a1 n1 c1, .slice a2 n2 c2] w fun e w' => ∃ v, e = .returned v ∧ IsD w' v D ∧ Below w.heap.size w w' := by
  obtain ⟨i0, hi, hz0, hz1, hz2⟩ := info_parts infoU32
  have H := Lib.hid (And.intro h1 (And.intro h2 hD))
  clear h1 h2 hD
  go_enter Tryz.func52, Tryz.ntmps52
  repeat any_goals (first | go_skip | go_guarded | go_step | go_upon | (simp only []; done))
  go_loopw [5, 6, 7] (fun v c i wr => ∃ j : Nat, j ≤ n1 ∧ i = .int .i64 j ∧ c = .int .i64 (-(cy D B j : Int)) ∧ wr.ownsRow w.heap.size 67 1 v j (digl D j) ∧ Below w.heap.size w wr)
    (fun _ _ i _ => n1 - (intOf i).toNat)
  case atStart =>
    refine ⟨0, by omega, rfl, by rw [cy_zero]; rfl, World.ownsRow_nil _ _ _ _, Below.refl _ _⟩
  case round =>
    obtain ⟨j, hj, rfl, rfl, hown, hbel⟩ := hrel
    by_cases c0 : j < n1
    · obtain ⟨x, hx⟩ : ∃ x, x = dig A j := ⟨_, rfl⟩
      obtain ⟨y, hy⟩ : ∃ x, x = dig B j := ⟨_, rfl⟩
      obtain ⟨c, hc⟩ : ∃ x, x = cy D B j := ⟨_, rfl⟩
      obtain ⟨s, hs⟩ : ∃ s, s = dig D j := ⟨_, rfl⟩
      obtain ⟨c', hc'⟩ : ∃ x, x = cy D B (j + 1) := ⟨_, rfl⟩
      have hx4 : x < 4294967296 := hx ▸ dig_lt _ _
      have hy4 : y < 4294967296 := hy ▸ dig_lt _ _
      have hs4 : s < 4294967296 := hs ▸ dig_lt _ _
      have hc1 : c ≤ 1 := hc ▸ cy_le _ _ _
      have a1c : Hid (Calls Tryz.prog 68 #[.slice a1 n1 c1, .int .i64 (j : Int)] wr fun e w' => e = .returned (.int .u64 (x : Int)) ∧ wr = w') := Lib.hid (by rw [hx]; exact at_any _ _ _ j wr (H.out.1.below hbel))
      have a2c : Hid (Calls Tryz.prog 68 #[.slice a2 n2 c2, .int .i64 (j : Int)] wr fun e w' => e = .returned (.int .u64 (y : Int)) ∧ wr = w') := Lib.hid (by rw [hy]; exact at_any _ _ _ j wr (H.out.2.1.below hbel))
      obtain ⟨d1, d2⟩ := add_digit D B j
      rw [← H.out.2.2, ← hx, ← hy, ← hc, ← hs] at d2
      rw [← hy, ← hc, ← hc', ← hs] at d1
      have e1 : (-(c : Int) + (x : Int) - (y : Int)) % 4294967296 = (s : Int) := by omega
      have e2 : (-(c : Int) + (x : Int) - (y : Int)) / 4294967296 = -(c' : Int) := by omega
      have e3 : IntKind.u32.wrap (-(c : Int) + (x : Int) - (y : Int)) = (s : Int) := by rw [IntKind.wrap_u32]; exact e1
      rw [← hc]
      have hown2 : digl D j ++ [.int .u32 (s : Nat)] = digl D (j + 1) := by rw [digl_succ1, hs]
      have G := Lib.hid (And.intro hown2 hc')
      have hsz := hbel.size
      clear hx hy hs hc' hc d1 d2 hown2
      have b1 : j + 1 ≤ maxLen := by unfold maxLen; omega
      have b2 : (j + 1) * 4 ≤ 140737488355328 := by omega
      have BH := Lib.hid (And.intro b1 b2)
      clear b1 b2
      repeat any_goals (first | (go_at_call 68; with_reducible refine a1c.out.mono ?_; rintro e w' ⟨rfl, rfl⟩) | (go_at_call 68; with_reducible refine a2c.out.mono ?_; rintro e w' ⟨rfl, rfl⟩) | (at_builtin; refine wpList_append_own _ rfl (.tmp 25) (.tmp 28) 55 rfl w.heap.size 67 i0 (.int .u32 0) 1 4 Tryz.underlying55 hi hz0 hz1 hz2 rfl (by decide) _ _ _ rfl (hown.alloc _) ⟨wr.heap.size, 0, none⟩ 1 1 [.int .u32 (s : Int)] rfl rfl (one_cell (by simp)) one_one BH.out.1 BH.out.2 (by simp; omega) ?_; intro v' w1 hown' hgrow _) | go_skip | go_guarded | go_step | go_upon | (dsimp only []))
      have hW1 := (hbel.alloc hsz _).grown hgrow (by simp; omega) (fun k h => (hown.lt k h).1)
      rw [G.out.1] at hown'
      have F := Lib.hid (And.intro hown' hW1)
      clear hown hown' hgrow hW1 hbel
      go_roundw
      case rel => exact ⟨j + 1, by omega, by go_num, by rw [← G.out.2], F.out.1, F.out.2⟩
      case measure => first | (simp [intOf]; done) | (simp [intOf]; omega)
    · have hjn : j = n1 := by omega
      subst hjn
      have hlt : D < 2 ^ (32 * j) := Nat.lt_of_le_of_lt (by rw [H.out.2.2]; exact Nat.le_add_right _ _) H.out.1.1
      have hD := Lib.hid (DN_own hown hlt (by omega))
      clear hlt hown
      repeat any_goals (first | (go_at_call 57; refine (trim_any _ _ _ _ hD.out).mono ?_; rintro e w' ⟨⟨v, rfl, hv⟩, rfl⟩) | go_skip | go_guarded | go_step | go_upon | (dsimp only []))
      go_ret
      exact ⟨v, rfl, hv, hbel⟩
/-- **Sub.** -/
theorem SubI_any (v1 v2 : Value) (A B : Nat) (w : World) (h1 : IsD w v1 A) (h2 : IsD w v2 B) (hl : dl A ≤ 1000) (hBA : B ≤ A) :
    Calls Tryz.prog 52 #[v1, v2] w fun e w' => ∃ v, e = .returned v ∧ IsD w' v (A - B) ∧ Below w.heap.size w w' := by
  obtain ⟨_, _, a1, c1, rfl, _⟩ := id h1
  obtain ⟨_, _, a2, c2, rfl, _⟩ := id h2
  exact DSub_walk a1 a2 _ _ c1 c2 A B (A - B) w h1 h2 (by omega) (by omega)
end Go.Proofs.YtekeedjhaakbhaaGreatDoor

namespace Go.Proofs.YtekeedjhaakbhaaGreatDoor
open Go.RowKit
set_option maxRecDepth 20000 in
set_option maxHeartbeats 400000 in
theorem Shift_up (v : Value) (n V k : Nat) (w : World) (h : DN w v n V) (hn : n ≤ 1000000) (hk : k ≤ 1000000) :
    Calls Tryz.prog 47 #[v, .int .i64 (k : Int)] w fun e w' => ∃ v', e = .returned v' ∧ IsD w' v' (V * 2 ^ k) ∧ Below w.heap.size w w' := by
  have H := Lib.hid h
  clear h
  go_enter Tryz.func47, Tryz.ntmps47
  repeat any_goals (first | (go_at_call 50; with_reducible refine (Pow_any k (by omega) _).mono ?_; rintro e w1 ⟨v1, rfl, hv1, hb1⟩) | (go_at_call 67; with_reducible refine (Mul_any _ _ n (k / 32 + 1) V (2 ^ k) _ (H.out.below hb1) hv1 (by omega) (by omega)).mono ?_; rintro e w2 ⟨v2, rfl, hv2, hb2⟩) | go_skip | go_guarded | go_step | go_upon | (dsimp only []))
  go_ret
  exact ⟨v2, rfl, hv2, below_trans hb1 hb2⟩
/-- a number shifted -/
def shI (V : Nat) (k : Int) : Nat := if 0 ≤ k then V * 2 ^ k.toNat else V / 2 ^ (-k).toNat
/-- **Shift.** -/
theorem ShiftI_any (v : Value) (V : Nat) (k : Int) (w : World) (h : IsD w v V) (hn : dl V ≤ 1000) (hk1 : -1000000 ≤ k) (hk2 : k ≤ 1000000) :
    Calls Tryz.prog 47 #[v, .int .i64 k] w fun e w' => ∃ v', e = .returned v' ∧ IsD w' v' (shI V k) ∧ Below w.heap.size w w' := by
  unfold shI
  by_cases c : 0 ≤ k
  · rw [if_pos c]
    obtain ⟨m, rfl⟩ : ∃ m : Nat, k = m := ⟨k.toNat, by omega⟩
    exact Shift_up v _ V m w h (by omega) (by omega)
  · rw [if_neg c]
    obtain ⟨m, hm⟩ : ∃ m : Nat, k = -(m : Int) := ⟨(-k).toNat, by omega⟩
    subst hm
    rw [show (- -(m : Int)).toNat = m from by omega]
    have h' := h
    obtain ⟨_, _, ao, cap, rfl, _⟩ := h'
    exact Shift_walk ao _ cap V m w h (by omega) (by omega) (by omega)
theorem BitI_any (v : Value) (V : Nat) (i : Int) (w : World) (h : IsD w v V) (h1 : -9223372036854775808 ≤ i) (h2 : i < 9223372036854775808) :
    Calls Tryz.prog 58 #[v, .int .i64 i] w fun e w' => e = .returned (.bool (bitI V i)) ∧ w = w' := Bit_any v _ V i w h h1 h2
end Go.Proofs.YtekeedjhaakbhaaGreatDoor

namespace Go.Proofs.YtekeedjhaakbhaaGreatDoor
open Go.RowKit
theorem Below.isD {w w' : World} {v : Value} {V : Nat} (hb : Below w.heap.size w w') (h : IsD w v V) : IsD w' v V := DN.below h hb
/-- what the calls of the document's Exact answer -/
structure RxC (neg : Bool) (V l t : Nat) (m : Bool) : Prop where
  c1 : ∀ w : World, Calls Tryz.prog 28 #[.agg #[.int .u64 (lm (V) 0 : Nat), .int .u64 (lm (V) 1 : Nat), .int .u64 (lm (V) 2 : Nat), .int .u64 (lm (V) 3 : Nat)]] w fun e w' => ∃ v, e = .returned v ∧ IsD w' v V ∧ Below w.heap.size w w'
  c2 : ∀ w : World, Calls Tryz.prog 29 #[.agg #[.bool (neg ), .int .u64 (lm ( V) 0 : Nat), .int .u64 (lm ( V) 1 : Nat), .int .u64 (lm ( V) 2 : Nat), .int .u64 (lm ( V) 3 : Nat)]] w fun e w' => e = .returned (.bool m) ∧ Below w.heap.size w w'
  c3 : ∀ (v : Value) (w : World), IsD w v V → Calls Tryz.prog 30 #[v] w fun e w' => e = .returned (.int .i64 (l : Nat)) ∧ w = w'
  c4 : ∀ (v : Value) (w : World), IsD w v V → Calls Tryz.prog 31 #[v] w fun e w' => e = .returned (.int .i64 (t : Nat)) ∧ w = w'
set_option maxRecDepth 20000 in
set_option maxHeartbeats 800000 in
theorem RExact_no (neg : Bool) (V l t : Nat) (w : World) (C : Hid (RxC neg V l t false)) :
    Calls Tryz.prog 9 #[.agg #[.bool (neg ), .int .u64 (lm ( V) 0 : Nat), .int .u64 (lm ( V) 1 : Nat), .int .u64 (lm ( V) 2 : Nat), .int .u64 (lm ( V) 3 : Nat)]] w fun e w' => e = .returned (.bool false) ∧ Below w.heap.size w w' := by
  go_enter Tryz.func9, Tryz.ntmps9
  repeat any_goals (first | (go_at_call 28; with_reducible refine (C.out.c1 _).mono ?_; rintro e w1 ⟨v1, rfl, hv1, hb1⟩; have hl_w1_0 : w.heap.size < w1.heap.size := (by have h_ := (hb1).size; simp at h_; omega); have c_w1_0_0 := (hb1).cell (p := ⟨w.heap.size, 0, none⟩) (by first | (simp; done) | (simp; omega)); simp [go_sem] at c_w1_0_0; have f_w1_0_0 := (hb1).frozen (p := ⟨w.heap.size, 0, none⟩) (by first | (simp; done) | (simp; omega)); simp [go_sem] at f_w1_0_0; have c_w1_0_1 := (hb1).cell (p := ⟨w.heap.size, 1, none⟩) (by first | (simp; done) | (simp; omega)); simp [go_sem] at c_w1_0_1; have f_w1_0_1 := (hb1).frozen (p := ⟨w.heap.size, 1, none⟩) (by first | (simp; done) | (simp; omega)); simp [go_sem] at f_w1_0_1; have c_w1_0_2 := (hb1).cell (p := ⟨w.heap.size, 2, none⟩) (by first | (simp; done) | (simp; omega)); simp [go_sem] at c_w1_0_2; have f_w1_0_2 := (hb1).frozen (p := ⟨w.heap.size, 2, none⟩) (by first | (simp; done) | (simp; omega)); simp [go_sem] at f_w1_0_2; have c_w1_0_3 := (hb1).cell (p := ⟨w.heap.size, 3, none⟩) (by first | (simp; done) | (simp; omega)); simp [go_sem] at c_w1_0_3; have f_w1_0_3 := (hb1).frozen (p := ⟨w.heap.size, 3, none⟩) (by first | (simp; done) | (simp; omega)); simp [go_sem] at f_w1_0_3; have c_w1_0_4 := (hb1).cell (p := ⟨w.heap.size, 4, none⟩) (by first | (simp; done) | (simp; omega)); simp [go_sem] at c_w1_0_4; have f_w1_0_4 := (hb1).frozen (p := ⟨w.heap.size, 4, none⟩) (by first | (simp; done) | (simp; omega)); simp [go_sem] at f_w1_0_4) | (go_at_call 29; with_reducible refine (C.out.c2 _).mono ?_; rintro e w2 ⟨rfl, hb2⟩) | go_skip | go_guarded | go_step | go_upon | (dsimp only []))
  go_ret
  exact ⟨by simp, by (repeat first | with_reducible exact Below.refl _ _ | with_reducible assumption | with_reducible refine Below.drew ?_ | with_reducible refine below_alloc ?_ _ | ((with_reducible refine Below.setCell ?_ ?_ _); rotate_left; (focus (first | with_reducible exact Nat.le_refl _ | (simp; done) | (simp; omega) | omega))) | (with_reducible refine below_trans ?_ (by assumption)))⟩
set_option maxRecDepth 20000 in
set_option maxHeartbeats 800000 in
theorem RExact_zero (neg : Bool) (V t : Nat) (w : World) (C : Hid (RxC neg V 0 t true)) :
    Calls Tryz.prog 9 #[.agg #[.bool (neg ), .int .u64 (lm ( V) 0 : Nat), .int .u64 (lm ( V) 1 : Nat), .int .u64 (lm ( V) 2 : Nat), .int .u64 (lm ( V) 3 : Nat)]] w fun e w' => e = .returned (.bool true) ∧ Below w.heap.size w w' := by
  go_enter Tryz.func9, Tryz.ntmps9
  repeat any_goals (first | (go_at_call 28; with_reducible refine (C.out.c1 _).mono ?_; rintro e w1 ⟨v1, rfl, hv1, hb1⟩; have hl_w1_0 : w.heap.size < w1.heap.size := (by have h_ := (hb1).size; simp at h_; omega); have c_w1_0_0 := (hb1).cell (p := ⟨w.heap.size, 0, none⟩) (by first | (simp; done) | (simp; omega)); simp [go_sem] at c_w1_0_0; have f_w1_0_0 := (hb1).frozen (p := ⟨w.heap.size, 0, none⟩) (by first | (simp; done) | (simp; omega)); simp [go_sem] at f_w1_0_0; have c_w1_0_1 := (hb1).cell (p := ⟨w.heap.size, 1, none⟩) (by first | (simp; done) | (simp; omega)); simp [go_sem] at c_w1_0_1; have f_w1_0_1 := (hb1).frozen (p := ⟨w.heap.size, 1, none⟩) (by first | (simp; done) | (simp; omega)); simp [go_sem] at f_w1_0_1; have c_w1_0_2 := (hb1).cell (p := ⟨w.heap.size, 2, none⟩) (by first | (simp; done) | (simp; omega)); simp [go_sem] at c_w1_0_2; have f_w1_0_2 := (hb1).frozen (p := ⟨w.heap.size, 2, none⟩) (by first | (simp; done) | (simp; omega)); simp [go_sem] at f_w1_0_2; have c_w1_0_3 := (hb1).cell (p := ⟨w.heap.size, 3, none⟩) (by first | (simp; done) | (simp; omega)); simp [go_sem] at c_w1_0_3; have f_w1_0_3 := (hb1).frozen (p := ⟨w.heap.size, 3, none⟩) (by first | (simp; done) | (simp; omega)); simp [go_sem] at f_w1_0_3; have c_w1_0_4 := (hb1).cell (p := ⟨w.heap.size, 4, none⟩) (by first | (simp; done) | (simp; omega)); simp [go_sem] at c_w1_0_4; have f_w1_0_4 := (hb1).frozen (p := ⟨w.heap.size, 4, none⟩) (by first | (simp; done) | (simp; omega)); simp [go_sem] at f_w1_0_4) | (go_at_call 29; with_reducible refine (C.out.c2 _).mono ?_; rintro e w2 ⟨rfl, hb2⟩) | (go_at_call 30; with_reducible refine (C.out.c3 _ _ (Below.isD hb2 hv1)).mono ?_; rintro e w' ⟨rfl, rfl⟩) | go_skip | go_guarded | go_step | go_upon | (dsimp only []))
  go_ret
  exact ⟨by simp, by (repeat first | with_reducible exact Below.refl _ _ | with_reducible assumption | with_reducible refine Below.drew ?_ | with_reducible refine below_alloc ?_ _ | ((with_reducible refine Below.setCell ?_ ?_ _); rotate_left; (focus (first | with_reducible exact Nat.le_refl _ | (simp; done) | (simp; omega) | omega))) | (with_reducible refine below_trans ?_ (by assumption)))⟩
set_option maxRecDepth 20000 in
set_option maxHeartbeats 800000 in
theorem RExact_num (neg : Bool) (V l t : Nat) (w : World) (hl0 : ((l : Int) == 0) = false) (hl : l ≤ 256) (ht : t ≤ 256) (x : Bool) (hx : decide ((l : Int) - (t : Int) ≤ 53) = x) (C : Hid (RxC neg V l t true)) :
    Calls Tryz.prog 9 #[.agg #[.bool (neg ), .int .u64 (lm ( V) 0 : Nat), .int .u64 (lm ( V) 1 : Nat), .int .u64 (lm ( V) 2 : Nat), .int .u64 (lm ( V) 3 : Nat)]] w fun e w' => e = .returned (.bool x) ∧ Below w.heap.size w w' := by
  go_enter Tryz.func9, Tryz.ntmps9
  repeat any_goals (first | (go_at_call 28; with_reducible refine (C.out.c1 _).mono ?_; rintro e w1 ⟨v1, rfl, hv1, hb1⟩; have hl_w1_0 : w.heap.size < w1.heap.size := (by have h_ := (hb1).size; simp at h_; omega); have c_w1_0_0 := (hb1).cell (p := ⟨w.heap.size, 0, none⟩) (by first | (simp; done) | (simp; omega)); simp [go_sem] at c_w1_0_0; have f_w1_0_0 := (hb1).frozen (p := ⟨w.heap.size, 0, none⟩) (by first | (simp; done) | (simp; omega)); simp [go_sem] at f_w1_0_0; have c_w1_0_1 := (hb1).cell (p := ⟨w.heap.size, 1, none⟩) (by first | (simp; done) | (simp; omega)); simp [go_sem] at c_w1_0_1; have f_w1_0_1 := (hb1).frozen (p := ⟨w.heap.size, 1, none⟩) (by first | (simp; done) | (simp; omega)); simp [go_sem] at f_w1_0_1; have c_w1_0_2 := (hb1).cell (p := ⟨w.heap.size, 2, none⟩) (by first | (simp; done) | (simp; omega)); simp [go_sem] at c_w1_0_2; have f_w1_0_2 := (hb1).frozen (p := ⟨w.heap.size, 2, none⟩) (by first | (simp; done) | (simp; omega)); simp [go_sem] at f_w1_0_2; have c_w1_0_3 := (hb1).cell (p := ⟨w.heap.size, 3, none⟩) (by first | (simp; done) | (simp; omega)); simp [go_sem] at c_w1_0_3; have f_w1_0_3 := (hb1).frozen (p := ⟨w.heap.size, 3, none⟩) (by first | (simp; done) | (simp; omega)); simp [go_sem] at f_w1_0_3; have c_w1_0_4 := (hb1).cell (p := ⟨w.heap.size, 4, none⟩) (by first | (simp; done) | (simp; omega)); simp [go_sem] at c_w1_0_4; have f_w1_0_4 := (hb1).frozen (p := ⟨w.heap.size, 4, none⟩) (by first | (simp; done) | (simp; omega)); simp [go_sem] at f_w1_0_4) | (go_at_call 29; with_reducible refine (C.out.c2 _).mono ?_; rintro e w2 ⟨rfl, hb2⟩) | (go_at_call 30; with_reducible refine (C.out.c3 _ _ (Below.isD hb2 hv1)).mono ?_; rintro e w' ⟨rfl, rfl⟩) | (go_at_call 31; with_reducible refine (C.out.c4 _ _ (Below.isD hb2 hv1)).mono ?_; rintro e w' ⟨rfl, rfl⟩) | go_skip | go_guarded | go_step | go_upon | (dsimp only []))
  all_goals (go_ret; exact ⟨by first | (simp; done) | (simp [← hx]; omega), by (repeat first | with_reducible exact Below.refl _ _ | with_reducible assumption | with_reducible refine Below.drew ?_ | with_reducible refine below_alloc ?_ _ | ((with_reducible refine Below.setCell ?_ ?_ _); rotate_left; (focus (first | with_reducible exact Nat.le_refl _ | (simp; done) | (simp; omega) | omega))) | (with_reducible refine below_trans ?_ (by assumption)))⟩)
/-- **Exact** of the document. -/
theorem RExact_any (neg : Bool) (V : Nat) (hV : V < 2 ^ 256) (w : World) :
    Calls Tryz.prog 9 #[.agg #[.bool (neg ), .int .u64 (lm ( V) 0 : Nat), .int .u64 (lm ( V) 1 : Nat), .int .u64 (lm ( V) 2 : Nat), .int .u64 (lm ( V) 3 : Nat)]] w fun e w' => e = .returned (.bool (exactI neg V)) ∧ Below w.heap.size w w' := by
  have C := RxC.mk (fun w => DOf_any V hV w) (RMayI_any neg V hV) (fun v w h => DLen_any v _ V w h) (fun v w h => DTrail_any v _ V w h)
  cases hm : mayI neg V with
  | false =>
    have e : exactI neg V = false := by unfold exactI; rw [hm]; rfl
    rw [hm] at C
    rw [e]
    exact RExact_no neg V _ _ w (Lib.hid C)
  | true =>
    rw [hm] at C
    by_cases c : V = 0
    · have e : exactI neg V = true := by unfold exactI; rw [hm, c]; rfl
      rw [e]
      rw [show bl V = 0 from by rw [c, bl_zero]] at C
      exact RExact_zero neg V _ w (Lib.hid C)
    · have hlt := tz_lt_bl (Nat.pos_of_ne_zero c)
      have hbl := (bl_le_iff V 256).2 hV
      have e : exactI neg V = decide ((bl V : Int) - (tz V : Int) ≤ 53) := by
        unfold exactI
        rw [hm, show (V == 0) = false from by simpa using c, Bool.true_and, Bool.false_or]
        rw [decide_eq_decide]
        omega
      rw [e]
      rw [if_neg c] at C
      exact RExact_num neg V (bl V) (tz V) w (by simp; omega) hbl (by omega) _ rfl (Lib.hid C)
end Go.Proofs.YtekeedjhaakbhaaGreatDoor
