/- The document's digits: Add, Cmp, Shift; a great region that draws; what the law NatBits asks (XDr, XDs, XDt, XDv, XLexC, XBits in one text: a claim may hold 60 files). LexC -/
import Derived.Test.YtbmeejfpaeggjaaDoorDq
import Derived.Test.YtbmeejfpaeggjaaDoorCmpN
import Derived.Test.YtbmeejfpaeggjaaDoorBox
import Derived.Deep.QuietTactic
import Derived.StillTail
import Derived.BigQuiet
import Derived.Test.YtbmeejfpaeggjaaDoorTold1
namespace Go.Proofs.YtbmeejfpaeggjaaDoor
open Go.RowKit
/-- the carry into digit i of a sum -/
def cy (A B i : Nat) : Nat := (A % 2 ^ (32 * i) + B % 2 ^ (32 * i)) / 2 ^ (32 * i)
theorem cy_le (A B i : Nat) : cy A B i ≤ 1 := by
  have h1 : A % 2 ^ (32 * i) < 2 ^ (32 * i) := Nat.mod_lt _ (Nat.two_pow_pos _)
  have h2 : B % 2 ^ (32 * i) < 2 ^ (32 * i) := Nat.mod_lt _ (Nat.two_pow_pos _)
  unfold cy
  apply Nat.le_of_lt_succ
  rw [Nat.div_lt_iff_lt_mul (Nat.two_pow_pos _)]
  omega
theorem mod32_succ (A i : Nat) : A % 2 ^ (32 * (i + 1)) = A % 2 ^ (32 * i) + 2 ^ (32 * i) * dig A i := by
  unfold dig
  rw [show 32 * (i + 1) = 32 * i + 32 from by omega, Nat.pow_add, Nat.mod_mul]
theorem add_digit (A B i : Nat) : (dig A i + dig B i + cy A B i) / 4294967296 = cy A B (i + 1) ∧ (dig A i + dig B i + cy A B i) % 4294967296 = dig (A + B) i := by
  have hp := Nat.two_pow_pos (32 * i)
  have hs : A % 2 ^ (32 * (i + 1)) + B % 2 ^ (32 * (i + 1)) = (A % 2 ^ (32 * i) + B % 2 ^ (32 * i)) + 2 ^ (32 * i) * (dig A i + dig B i) := by
    rw [mod32_succ, mod32_succ, Nat.mul_add]
    omega
  have h32 : (4294967296 : Nat) = 2 ^ 32 := by decide
  constructor
  · unfold cy
    rw [hs, show 32 * (i + 1) = 32 * i + 32 from by omega, Nat.pow_add, ← Nat.div_div_eq_div_mul, Nat.add_mul_div_left _ _ hp, Nat.add_comm ((A % 2 ^ (32 * i) + B % 2 ^ (32 * i)) / 2 ^ (32 * i)), h32]
  · have hab : (A + B) % 2 ^ (32 * (i + 1)) = (A % 2 ^ (32 * (i + 1)) + B % 2 ^ (32 * (i + 1))) % 2 ^ (32 * (i + 1)) := by rw [Nat.add_mod]
    have hl : dig (A + B) i = (A + B) % 2 ^ (32 * (i + 1)) / 2 ^ (32 * i) := by
      unfold dig
      rw [show 32 * (i + 1) = 32 * i + 32 from by omega, Nat.pow_add, Nat.mod_mul_right_div_self, h32]
    rw [hl, hab, hs]
    unfold cy
    rw [show 32 * (i + 1) = 32 * i + 32 from by omega, Nat.pow_add, Nat.mod_mul_right_div_self, Nat.add_mul_div_left _ _ hp, Nat.add_comm ((A % 2 ^ (32 * i) + B % 2 ^ (32 * i)) / 2 ^ (32 * i)), h32]
theorem cy_zero (A B : Nat) : cy A B 0 = 0 := by unfold cy; simp [Nat.mod_one]
theorem cy_end {A B j : Nat} (hA : A < 2 ^ (32 * j)) (hB : B < 2 ^ (32 * j)) (h : cy A B j = 0) : A + B < 2 ^ (32 * j) := by
  unfold cy at h
  rw [Nat.mod_eq_of_lt hA, Nat.mod_eq_of_lt hB] at h
  rcases Nat.div_eq_zero_iff.1 h with h | h
  · exact absurd h (by have := Nat.two_pow_pos (32 * j); omega)
  · exact h
theorem cy_past {A B m j : Nat} (hA : A < 2 ^ (32 * m)) (hB : B < 2 ^ (32 * m)) (h : m < j) : cy A B j = 0 := by
  have h1 : 2 ^ (32 * m) * 2 ≤ 2 ^ (32 * j) := by
    rw [← Nat.pow_succ]
    exact Nat.pow_le_pow_right (by decide) (by omega)
  unfold cy
  rw [Nat.mod_eq_of_lt (by omega), Nat.mod_eq_of_lt (by omega), Nat.div_eq_of_lt (by omega)]
theorem digl_succ1 (V m : Nat) : digl V (m + 1) = digl V m ++ [.int .u32 (dig V m : Nat)] := by
  unfold digl
  rw [List.range_succ]
  simp
set_option maxRecDepth 20000 in
set_option maxHeartbeats 1600000 in
theorem DAdd_walk (a1 a2 : Option Addr) (n1 n2 c1 c2 A B : Nat) (w : World) (h1 : DN w (.slice a1 n1 c1) n1 A) (h2 : DN w (.slice a2 n2 c2) n2 B) (l1 : n1 ≤ 1000000) (l2 : n2 ≤ 1000000) :
    Calls Tryd.prog 13 #[.slice a1 n1 c1, .slice a2 n2 c2] w fun e w' => ∃ v, e = .returned v ∧ IsD w' v (A + B) ∧ Below w.heap.size w w' := by
  obtain ⟨i0, hi, hz0, hz1, hz2⟩ := info_parts infoU32
  obtain ⟨M, hM⟩ : ∃ M, M = max n1 n2 := ⟨_, rfl⟩
  have hA : A < 2 ^ (32 * M) := Nat.lt_of_lt_of_le h1.1 (Nat.pow_le_pow_right (by decide) (by omega))
  have hB : B < 2 ^ (32 * M) := Nat.lt_of_lt_of_le h2.1 (Nat.pow_le_pow_right (by decide) (by omega))
  have H := Lib.hid (And.intro h1 (And.intro h2 (And.intro hA hB)))
  clear h1 h2 hA hB
  go_enter Tryd.func13, Tryd.ntmps13
  repeat any_goals (first | go_skip | go_guarded | go_step | go_upon | (simp only []; done))
  go_loopw [5, 6, 7] (fun v c i wr => ∃ j : Nat, j ≤ M + 1 ∧ i = .int .i64 j ∧ c = .int .u64 (cy A B j : Nat) ∧ wr.ownsRow w.heap.size 63 1 v j (digl (A + B) j) ∧ Below w.heap.size w wr)
    (fun _ _ i _ => M + 2 - (intOf i).toNat)
  case atStart =>
    refine ⟨0, by omega, rfl, by rw [cy_zero]; rfl, World.ownsRow_nil _ _ _ _, Below.refl _ _⟩
  case round =>
    obtain ⟨j, hj, rfl, rfl, hown, hbel⟩ := hrel
    obtain ⟨x, hx⟩ : ∃ x, x = dig A j := ⟨_, rfl⟩
    obtain ⟨y, hy⟩ : ∃ x, x = dig B j := ⟨_, rfl⟩
    obtain ⟨c, hc⟩ : ∃ x, x = cy A B j := ⟨_, rfl⟩
    have hx4 : x < 4294967296 := hx ▸ dig_lt _ _
    have hy4 : y < 4294967296 := hy ▸ dig_lt _ _
    have hc1 : c ≤ 1 := hc ▸ cy_le _ _ _
    have a1c : Hid (Calls Tryd.prog 41 #[.slice a1 n1 c1, .int .i64 (j : Int)] wr fun e w' => e = .returned (.int .u64 (x : Int)) ∧ wr = w') := Lib.hid (by rw [hx]; exact at_any _ _ _ j wr (H.out.1.below hbel))
    have a2c : Hid (Calls Tryd.prog 41 #[.slice a2 n2 c2, .int .i64 (j : Int)] wr fun e w' => e = .returned (.int .u64 (y : Int)) ∧ wr = w') := Lib.hid (by rw [hy]; exact at_any _ _ _ j wr (H.out.2.1.below hbel))
    obtain ⟨s, hs⟩ : ∃ s, s = dig (A + B) j := ⟨_, rfl⟩
    obtain ⟨c', hc'⟩ : ∃ x, x = cy A B (j + 1) := ⟨_, rfl⟩
    obtain ⟨d1, d2⟩ := add_digit A B j
    rw [← hx, ← hy, ← hc, ← hs] at d2
    rw [← hx, ← hy, ← hc, ← hc'] at d1
    have e1 : ((c : Int) + (x : Int) + (y : Int)) % 4294967296 = (s : Int) := by omega
    have e2 : ((c : Int) + (x : Int) + (y : Int)) / 4294967296 = (c' : Int) := by omega
    have e3 : IntKind.u32.wrap ((c : Int) + (x : Int) + (y : Int)) = (s : Int) := by rw [IntKind.wrap_u32]; exact e1
    rw [← hc]
    have hown2 : digl (A + B) j ++ [.int .u32 (s : Nat)] = digl (A + B) (j + 1) := by rw [digl_succ1, hs]
    have G := Lib.hid (And.intro hown2 (And.intro hc hc'))
    have hsz := hbel.size
    clear hx hy hs hc' d1 d2 hown2
    by_cases c0 : j < n1 ∨ j < n2 ∨ 0 < c
    · have hjM : j ≤ M := by
        rcases c0 with h | h | h
        · omega
        · omega
        · rcases Nat.lt_or_ge M j with h3 | h3
          · have h4 := cy_past H.out.2.2.1 H.out.2.2.2 h3
            rw [← hc] at h4
            omega
          · exact h3
      clear hc
      have b1 : j + 1 ≤ maxLen := by unfold maxLen; omega
      have b2 : (j + 1) * 4 ≤ 140737488355328 := by omega
      have BH := Lib.hid (And.intro b1 b2)
      clear b1 b2
      go_upto_region 4 with fail
      go_cut [21] (fun s21 wx => s21 = .bool true ∧ wx = wr)
      case first =>
        clear e1 e2 e3
        by_cases c1 : (j : Int) < (n1 : Int)
        · repeat any_goals (first | go_skip | go_guarded | go_step | go_upon | (simp only []; done))
          all_goals (go_meet; case rel => exact ⟨rfl, rfl⟩)
        · by_cases c2 : (j : Int) < (n2 : Int)
          · repeat any_goals (first | go_skip | go_guarded | go_step | go_upon | (simp only []; done))
            all_goals (go_meet; case rel => exact ⟨rfl, rfl⟩)
          · have c3 : 0 < (c : Int) := by omega
            repeat any_goals (first | go_skip | go_guarded | go_step | go_upon | (simp only []; done))
            all_goals (go_meet; case rel => exact ⟨by first | rfl | (simp; omega), rfl⟩)
      case rest =>
        obtain ⟨rfl, rfl⟩ := hcut
        clear c0
        repeat any_goals (first | (go_at_call 41; with_reducible refine a1c.out.mono ?_; rintro e w' ⟨rfl, rfl⟩) | (go_at_call 41; with_reducible refine a2c.out.mono ?_; rintro e w' ⟨rfl, rfl⟩) | (at_builtin; refine wpList_append_own _ rfl (.tmp 33) (.tmp 36) 29 rfl w.heap.size 63 i0 (.int .u32 0) 1 4 Tryd.underlying29 hi hz0 hz1 hz2 rfl (by decide) _ _ _ rfl (hown.alloc _) ⟨wc.heap.size, 0, none⟩ 1 1 [.int .u32 (s : Int)] rfl rfl (one_cell (by simp)) one_one BH.out.1 BH.out.2 (by simp; omega) ?_; intro v' w1 hown' hgrow _) | go_skip | go_guarded | go_step | go_upon | (dsimp only []))
        have hW1 := (hbel.alloc hsz _).grown hgrow (by simp; omega) (fun k h => (hown.lt k h).1)
        rw [G.out.1] at hown'
        have F := Lib.hid (And.intro hown' hW1)
        clear hown hown' hgrow hW1 hbel
        repeat any_goals (first | go_skip | go_guarded | go_step | go_upon | (simp only []; done))
        go_roundw
        case rel => exact ⟨j + 1, by omega, by go_num, by rw [← G.out.2.2], F.out.1, F.out.2⟩
        case measure => first | (simp [intOf]; done) | (simp [intOf]; omega)
    · clear e1 e2 e3 a1c a2c
      have c1 : ¬ (j : Int) < (n1 : Int) := by omega
      have c2 : ¬ (j : Int) < (n2 : Int) := by omega
      have c3 : ¬ 0 < (c : Int) := by omega
      have hcz : cy A B j = 0 := by rw [← hc]; omega
      have hlt : A + B < 2 ^ (32 * j) := cy_end (Nat.lt_of_lt_of_le H.out.1.1 (Nat.pow_le_pow_right (by decide) (by omega))) (Nat.lt_of_lt_of_le H.out.2.1.1 (Nat.pow_le_pow_right (by decide) (by omega))) hcz
      have hD := Lib.hid (DN_own hown hlt (by omega))
      clear hc hcz hlt c0 hown
      repeat any_goals (first | (go_at_call 42; refine (trim_any _ _ _ _ hD.out).mono ?_; rintro e w' ⟨⟨v, rfl, hv⟩, rfl⟩) | go_skip | go_guarded | go_step | go_upon | (dsimp only []))
      go_ret
      exact ⟨v, rfl, hv, hbel⟩
/-- **Add.** -/
theorem DAdd_any (v1 v2 : Value) (n1 n2 A B : Nat) (w : World) (h1 : DN w v1 n1 A) (h2 : DN w v2 n2 B) (l1 : n1 ≤ 1000000) (l2 : n2 ≤ 1000000) :
    Calls Tryd.prog 13 #[v1, v2] w fun e w' => ∃ v, e = .returned v ∧ IsD w' v (A + B) ∧ Below w.heap.size w w' := by
  obtain ⟨_, _, a1, c1, rfl, _⟩ := id h1
  obtain ⟨_, _, a2, c2, rfl, _⟩ := id h2
  exact DAdd_walk a1 a2 n1 n2 c1 c2 A B w h1 h2 l1 l2
end Go.Proofs.YtbmeejfpaeggjaaDoor

namespace Go.Proofs.YtbmeejfpaeggjaaDoor
open Go.RowKit
theorem top_digit (A i : Nat) : A / 2 ^ (32 * i) = A / 2 ^ (32 * (i + 1)) * 4294967296 + dig A i := by
  unfold dig
  rw [show 32 * (i + 1) = 32 * i + 32 from by omega, Nat.pow_add, ← Nat.div_div_eq_div_mul, show (2 : Nat) ^ 32 = 4294967296 from by decide]
  exact (Nat.div_add_mod' _ _).symm
theorem dcmp_lt {A B i : Nat} (h : A / 2 ^ (32 * (i + 1)) = B / 2 ^ (32 * (i + 1))) (hl : dig A i < dig B i) : cmpV A B = -1 := by
  have : A < B := lt_of_top (k := 2 ^ (32 * i)) (by rw [top_digit A, top_digit B, h]; omega)
  unfold cmpV
  rw [if_pos this]
theorem dcmp_gt {A B i : Nat} (h : A / 2 ^ (32 * (i + 1)) = B / 2 ^ (32 * (i + 1))) (hl : dig B i < dig A i) : cmpV A B = 1 := by
  have : B < A := lt_of_top (k := 2 ^ (32 * i)) (by rw [top_digit A, top_digit B, h]; omega)
  unfold cmpV
  rw [if_neg (by omega), if_pos this]
theorem dcmp_same {A B : Nat} (h : A / 2 ^ (32 * 0) = B / 2 ^ (32 * 0)) : cmpV A B = 0 := by
  rw [Nat.mul_zero, Nat.pow_zero, Nat.div_one, Nat.div_one] at h
  subst h
  unfold cmpV
  rw [if_neg (Nat.lt_irrefl _), if_neg (Nat.lt_irrefl _)]
theorem lt_of_dl {A B : Nat} (h : dl A < dl B) : A < B := by
  apply Nat.lt_of_not_le
  intro h2
  have h3 := bl_mono h2
  unfold dl at h
  omega
theorem cmp_shorter {A B : Nat} (h : dl A < dl B) : cmpV A B = -1 := by
  unfold cmpV
  rw [if_pos (lt_of_dl h)]
theorem cmp_longer {A B : Nat} (h : dl B < dl A) : cmpV A B = 1 := by
  have := lt_of_dl h
  unfold cmpV
  rw [if_neg (by omega), if_pos this]
set_option maxRecDepth 20000 in
set_option maxHeartbeats 1600000 in
/-- **Cmp.** -/
theorem DCmp_any (v1 v2 : Value) (n1 n2 A B : Nat) (w : World) (h1 : DN w v1 n1 A) (h2 : DN w v2 n2 B) :
    Calls Tryd.prog 17 #[v1, v2] w fun e w' => e = .returned (.int .i64 (cmpV A B)) ∧ Below w.heap.size w w' := by
  obtain ⟨V, hV⟩ : ∃ V, V = cmpV A B := ⟨_, rfl⟩
  rw [← hV]
  have HV := Lib.hid hV
  have H := Lib.hid (And.intro h1 h2)
  clear hV h1 h2
  go_enter Tryd.func17, Tryd.ntmps17
  go_upto_region 2 with (first | (go_at_call 42; with_reducible refine (trim_any _ _ _ _ H.out.1).mono ?_; rintro e w' ⟨⟨u1, rfl, hu1⟩, rfl⟩) | (go_at_call 42; with_reducible refine (trim_any _ _ _ _ H.out.2).mono ?_; rintro e w' ⟨⟨u2, rfl, hu2⟩, rfl⟩))
  obtain ⟨hA, hl1, o1, p1, rfl, hp1, hm1, hcell1⟩ := hu1
  obtain ⟨hB, hl2, o2, p2, rfl, hp2, hm2, hcell2⟩ := hu2
  obtain ⟨n, hn⟩ : ∃ n, n = dl A := ⟨_, rfl⟩
  obtain ⟨m, hm⟩ : ∃ n, n = dl B := ⟨_, rfl⟩
  rw [← hn] at hA hl1 hp1 hcell1 ⊢
  rw [← hm] at hB hl2 hp2 hcell2 ⊢
  have NH := Lib.hid (And.intro hn (And.intro hm (And.intro hA (And.intro hB (And.intro hcell1 hcell2)))))
  clear hn hm hA hB hcell1 hcell2
  by_cases c1 : n < m
  · have c1i : ((n : Int) != (m : Int)) = true := by simp; omega
    have c1j : (n : Int) < (m : Int) := by omega
    have e := cmp_shorter (A := A) (B := B) (by rw [← NH.out.1, ← NH.out.2.1]; exact c1)
    rw [← HV.out] at e
    subst e
    repeat any_goals (first | go_skip | go_guarded | go_step | go_upon | (simp only []; done))
    exact bodyPost_ret (v := .int .i64 (-1)) (by simp [results, Tryd.results17, go_sem]) rfl ⟨rfl, Below.refl _ _⟩
  · by_cases c2 : m < n
    · have c1i : ((n : Int) != (m : Int)) = true := by simp; omega
      have c1j : ¬ (n : Int) < (m : Int) := by omega
      have e := cmp_longer (A := A) (B := B) (by rw [← NH.out.1, ← NH.out.2.1]; exact c2)
      rw [← HV.out] at e
      subst e
      repeat any_goals (first | go_skip | go_guarded | go_step | go_upon | (simp only []; done))
      exact bodyPost_ret (v := .int .i64 1) (by simp [results, Tryd.results17, go_sem]) rfl ⟨rfl, Below.refl _ _⟩
    · have hnm : m = n := by omega
      subst hnm
      have c1i : ((m : Int) != (m : Int)) = false := by simp
      clear c1 c2
      repeat any_goals (first | go_skip | go_guarded | go_step | go_upon | (simp only []; done))
      go_loopw [5] (fun i wr => ∃ k : Nat, k ≤ m ∧ i = .int .i64 ((k : Int) - 1) ∧ A / 2 ^ (32 * k) = B / 2 ^ (32 * k) ∧ Below w.heap.size w wr) (fun i _ => (intOf i + 1).toNat)
      case atStart =>
        refine ⟨m, Nat.le_refl _, rfl, ?_, Below.refl _ _⟩
        rw [Nat.div_eq_of_lt NH.out.2.2.1, Nat.div_eq_of_lt NH.out.2.2.2.1]
      case round =>
        obtain ⟨k, hk, rfl, ht, hW⟩ := hrel
        have TH := Lib.hid ht
        clear ht
        by_cases c0 : k = 0
        · subst c0
          have e := dcmp_same TH.out
          rw [← HV.out] at e
          subst e
          repeat any_goals (first | go_skip | go_guarded | go_step | go_upon | (simp only []; done))
          exact bodyPost_ret (v := .int .i64 0) (by simp [results, Tryd.results17, go_sem]) rfl ⟨rfl, hW⟩
        · obtain ⟨i, rfl⟩ : ∃ i, k = i + 1 := ⟨k - 1, by omega⟩
          rw [show ((i + 1 : Nat) : Int) - 1 = (i : Int) from by omega]
          obtain ⟨b1, rfl, hb1, hce1⟩ := NH.out.2.2.2.2.1 (by omega)
          obtain ⟨b2, rfl, hb2, hce2⟩ := NH.out.2.2.2.2.2 (by omega)
          have ca := (hW.cell (p := ⟨b1, i, none⟩) hb1).trans (hce1 i (by omega))
          have cb := (hW.cell (p := ⟨b2, i, none⟩) hb2).trans (hce2 i (by omega))
          obtain ⟨x, hx⟩ : ∃ x, x = dig A i := ⟨_, rfl⟩
          obtain ⟨y, hy⟩ : ∃ x, x = dig B i := ⟨_, rfl⟩
          rw [← hx] at ca
          rw [← hy] at cb
          have i1 : (i : Int) < (m : Int) := by omega
          have i2 : (0 : Int) ≤ (i : Int) := by omega
          have i5 : (i : Int).toNat = i := rfl
          have G := Lib.hid (And.intro hx hy)
          have hW1 := hW.drew
          have hW2 := hW1.drew
          clear hx hy c0 hce1 hce2
          by_cases c1 : x < y
          · have c1j : (x : Int) < (y : Int) := by omega
            have e := dcmp_lt TH.out (by rw [← G.out.1, ← G.out.2]; exact c1)
            rw [← HV.out] at e
            subst e
            repeat any_goals (first | go_skip | go_guarded | go_step | go_upon | (simp only []; done))
            go_region
            repeat any_goals (first | go_skip | go_guarded | go_step | go_upon | (simp only []; done))
            exact bodyPost_ret (v := .int .i64 (-1)) (by simp [results, Tryd.results17, go_sem]) rfl ⟨rfl, hW1⟩
          · by_cases c2 : y < x
            · have c1j : ¬ (x : Int) < (y : Int) := by omega
              have c2j : (y : Int) < (x : Int) := by omega
              have e := dcmp_gt TH.out (by rw [← G.out.1, ← G.out.2]; exact c2)
              rw [← HV.out] at e
              subst e
              repeat any_goals (first | go_skip | go_guarded | go_step | go_upon | (simp only []; done))
              go_region
              repeat any_goals (first | go_skip | go_guarded | go_step | go_upon | (simp only []; done))
              go_region
              repeat any_goals (first | go_skip | go_guarded | go_step | go_upon | (simp only []; done))
              exact bodyPost_ret (v := .int .i64 1) (by simp [results, Tryd.results17, go_sem]) rfl ⟨rfl, hW2⟩
            · have c1j : ¬ (x : Int) < (y : Int) := by omega
              have c2j : ¬ (y : Int) < (x : Int) := by omega
              have e : A / 2 ^ (32 * i) = B / 2 ^ (32 * i) := by
                rw [top_digit A, top_digit B, TH.out, ← G.out.1, ← G.out.2, show x = y from by omega]
              have E := Lib.hid e
              clear e c1 c2
              repeat any_goals (first | go_skip | go_guarded | go_step | go_upon | (simp only []; done))
              go_region
              repeat any_goals (first | go_skip | go_guarded | go_step | go_upon | (simp only []; done))
              go_region
              repeat any_goals (first | go_skip | go_guarded | go_step | go_upon | (simp only []; done))
              go_roundw
              case rel => exact ⟨i, by omega, by go_num, E.out, hW2⟩
              case measure => first | (simp [intOf]; done) | (simp [intOf]; omega)
end Go.Proofs.YtbmeejfpaeggjaaDoor

namespace Go.Proofs.YtbmeejfpaeggjaaDoor
open Go.RowKit
theorem dl8 {V : Nat} (h : V < 2 ^ 256) : dl V ≤ 8 := (dl_le_iff V 8).2 h
theorem dl2 {V : Nat} (h : V < 18446744073709551616) : dl V ≤ 2 := (dl_le_iff V 2).2 h
theorem IsD.below {w1 w2 : World} {v : Value} {V : Nat} (h : IsD w1 v V) (hb : Below w1.heap.size w1 w2) : IsD w2 v V := DN.below h hb
theorem IsD.alloc {w1 : World} {v : Value} {V : Nat} (h : IsD w1 v V) (o : Obj) : IsD (w1.alloc o) v V := DN.alloc h o
theorem IsD.step {w1 w2 : World} {v : Value} {V : Nat} {o : Obj} (h : IsD w1 v V) (hb : Below (w1.alloc o).heap.size (w1.alloc o) w2) : IsD w2 v V := (h.alloc o).below hb
theorem MulI_any (v1 v2 : Value) (A B : Nat) (w : World) (h1 : IsD w v1 A) (h2 : IsD w v2 B) (l1 : dl A ≤ 1000) (l2 : dl B ≤ 1000) :
    Calls Tryd.prog 14 #[v1, v2] w fun e w' => ∃ v, e = .returned v ∧ IsD w' v (A * B) ∧ Below w.heap.size w w' :=
  Mul_any v1 v2 _ _ A B w h1 h2 (by omega) (by omega)
theorem AddI_any (v1 v2 : Value) (A B : Nat) (w : World) (h1 : IsD w v1 A) (h2 : IsD w v2 B) (l1 : dl A ≤ 1000) (l2 : dl B ≤ 1000) :
    Calls Tryd.prog 13 #[v1, v2] w fun e w' => ∃ v, e = .returned v ∧ IsD w' v (A + B) ∧ Below w.heap.size w w' :=
  DAdd_any v1 v2 _ _ A B w h1 h2 (by omega) (by omega)
theorem CmpI_any (v1 v2 : Value) (A B : Nat) (w : World) (h1 : IsD w v1 A) (h2 : IsD w v2 B) :
    Calls Tryd.prog 17 #[v1, v2] w fun e w' => e = .returned (.int .i64 (cmpV A B)) ∧ Below w.heap.size w w' :=
  DCmp_any v1 v2 _ _ A B w h1 h2
theorem NatI_any (v : Value) (V : Nat) (w : World) (h : IsD w v V) :
    Calls Tryd.prog 35 #[v] w fun e w' => e = .returned (.tuple #[.agg #[.int .u64 (lm (if V < 2 ^ 256 then V else 0) 0 : Nat), .int .u64 (lm (if V < 2 ^ 256 then V else 0) 1 : Nat), .int .u64 (lm (if V < 2 ^ 256 then V else 0) 2 : Nat), .int .u64 (lm (if V < 2 ^ 256 then V else 0) 3 : Nat)], .bool (decide (V < 2 ^ 256))]) ∧ Below w.heap.size w w' := DNat_any v _ V w h
theorem LenI_any (v : Value) (V : Nat) (w : World) (h : IsD w v V) :
    Calls Tryd.prog 33 #[v] w fun e w' => e = .returned (.int .i64 (bl V : Nat)) ∧ w = w' := DLen_any v _ V w h
theorem TrailI_any (v : Value) (V : Nat) (w : World) (h : IsD w v V) :
    Calls Tryd.prog 38 #[v] w fun e w' => e = .returned (.int .i64 (if V = 0 then 256 else tz V : Nat)) ∧ w = w' := DTrail_any v _ V w h
end Go.Proofs.YtbmeejfpaeggjaaDoor

namespace Go.Proofs.YtbmeejfpaeggjaaDoor
open Go.RowKit
set_option maxRecDepth 20000 in
set_option maxHeartbeats 400000 in
theorem Shift_up (v : Value) (n V k : Nat) (w : World) (h : DN w v n V) (hn : n ≤ 1000000) (hk : k ≤ 1000000) :
    Calls Tryd.prog 34 #[v, .int .i64 (k : Int)] w fun e w' => ∃ v', e = .returned v' ∧ IsD w' v' (V * 2 ^ k) ∧ Below w.heap.size w w' := by
  have H := Lib.hid h
  clear h
  go_enter Tryd.func34, Tryd.ntmps34
  repeat any_goals (first | (go_at_call 52; with_reducible refine (Pow_any k (by omega) _).mono ?_; rintro e w1 ⟨v1, rfl, hv1, hb1⟩) | (go_at_call 14; with_reducible refine (Mul_any _ _ n (k / 32 + 1) V (2 ^ k) _ (H.out.below hb1) hv1 (by omega) (by omega)).mono ?_; rintro e w2 ⟨v2, rfl, hv2, hb2⟩) | go_skip | go_guarded | go_step | go_upon | (dsimp only []))
  go_ret
  exact ⟨v2, rfl, hv2, below_trans hb1 hb2⟩
/-- a number shifted -/
def shI (V : Nat) (k : Int) : Nat := if 0 ≤ k then V * 2 ^ k.toNat else V / 2 ^ (-k).toNat
/-- **Shift.** -/
theorem ShiftI_any (v : Value) (V : Nat) (k : Int) (w : World) (h : IsD w v V) (hn : dl V ≤ 1000) (hk1 : -1000000 ≤ k) (hk2 : k ≤ 1000000) :
    Calls Tryd.prog 34 #[v, .int .i64 k] w fun e w' => ∃ v', e = .returned v' ∧ IsD w' v' (shI V k) ∧ Below w.heap.size w w' := by
  unfold shI
  by_cases c : 0 ≤ k
  · rw [if_pos c]
    obtain ⟨m, rfl⟩ : ∃ m : Nat, k = m := ⟨k.toNat, by omega⟩
    exact Shift_up v _ V m w h (by omega) (by omega)
  · rw [if_neg c]
    obtain ⟨m, hm⟩ : ∃ m : Nat, k = -(m : Int) := ⟨(-k).toNat, by omega⟩
    subst hm
    rw [show (- -(m : Int)).toNat = m from by omega]
    have h' := h
    obtain ⟨_, _, ao, cap, rfl, _⟩ := h'
    exact Shift_walk ao _ cap V m w h (by omega) (by omega) (by omega)
theorem BitI_any (v : Value) (V : Nat) (i : Int) (w : World) (h : IsD w v V) (h1 : -9223372036854775808 ≤ i) (h2 : i < 9223372036854775808) :
    Calls Tryd.prog 39 #[v, .int .i64 i] w fun e w' => e = .returned (.bool (bitI V i)) ∧ w = w' := Bit_any v _ V i w h h1 h2
end Go.Proofs.YtbmeejfpaeggjaaDoor

namespace Go.Proofs.YtbmeejfpaeggjaaDoor
open Go
/-- what the check looks at in an operation: its slot, the slots that it looks at, the operations that it waits for -/
def sgO (D : List (Option Nat)) (o : Oper) : Option Nat × List Nat × List Nat :=
  (o.dst, (o.op.operands.toList.filterMap fun | .tmp t => some t | _ => none) ++ (match o.guard with | some (g, _) => ((D[g]?).getD none).toList | none => []), (o.after.toList.filter fun e => Region.binds .any e).map fun e => e.on)
def apartS (x y : Option Nat × List Nat × List Nat) : Bool :=
  (match x.1 with | some d => !y.2.1.contains d && y.1 != some d | none => true) && (match y.1 with | some d => !x.2.1.contains d | none => true)
def pairsB : Nat → List (Option Nat × List Nat × List Nat) → Bool
  | _, [] => true
  | k, x :: r => x.2.2.all (fun i => Nat.blt i k) && r.all (fun y => y.2.2.contains k || apartS x y) && pairsB (k + 1) r
def lexC (l : List Oper) : Bool := Region.noSelect l.toArray && pairsB 0 (l.map (sgO (l.map fun o => o.dst)))
theorem looks_sg (l : List Oper) (o : Oper) : o.looksAt l.toArray = (sgO (l.map fun o => o.dst) o).2.1 := by
  unfold Oper.looksAt sgO
  cases o.guard with
  | none => rfl
  | some g =>
    obtain ⟨g, b⟩ := g
    simp only [List.getElem?_map, List.getElem?_toArray]
    cases l[g]? <;> rfl
theorem apart_sg (l : List Oper) (x y : Oper) (h : apartS (sgO (l.map fun o => o.dst) x) (sgO (l.map fun o => o.dst) y) = true) : x.apart l.toArray y = true := by
  unfold Oper.apart
  rw [looks_sg, looks_sg]
  exact h
theorem waits_sg (D : List (Option Nat)) (o : Oper) (k : Nat) (h : (sgO D o).2.2.contains k = true) : ∃ e ∈ o.after, Region.binds .any e = true ∧ e.on = k := by
  simp only [sgO, List.contains_iff_mem, List.mem_map, List.mem_filter] at h
  obtain ⟨e, ⟨h1, h2⟩, h3⟩ := h
  exact ⟨e, Array.mem_toList_iff.1 h1, h2, h3⟩
section
variable {P : Program} {C : World → Prop}
theorem wpAnyQ_lexC {l : List Oper} {Q : Act → Prop} (hs : Region.noSelect l.toArray = true) (r : List Oper) :
    ∀ (k : Nat) (listed : Array Bool) (a : Act), (∀ j, r[j]? = l[k + j]?) → listed.size = l.length → (∀ j, listed.getD j true = true ↔ (j < k ∨ l.length ≤ j)) →
      pairsB k (r.map (sgO (l.map fun o => o.dst))) = true → wpQuiet P l.toArray C Q r a → wpAnyQ P .any l.toArray C Q r.length listed a := by
  induction r with
  | nil =>
    intro k listed a hr hsz hd _ h
    have hk : l.length ≤ k := by
      have h1 := hr 0
      rw [Nat.add_zero] at h1
      exact List.getElem?_eq_none_iff.1 h1.symm
    refine ⟨List.eq_nil_iff_forall_not_mem.2 fun j hj => ?_, h⟩
    have h1 := (mem_ready.1 hj).1
    have h2 : listed.getD j true = true := (hd j).2 (by omega)
    rw [h2] at h1
    cases h1
  | cons o r ih =>
    intro k listed a hr hsz hd hB h
    have h0 : l.toArray[k]? = some o := by
      have h1 := hr 0
      rw [Nat.add_zero] at h1
      rw [List.getElem?_toArray]
      exact h1.symm
    have hkl : k < l.length := by
      rw [List.getElem?_toArray] at h0
      exact (List.getElem?_eq_some_iff.1 h0).1
    simp only [List.map_cons, pairsB, Bool.and_eq_true] at hB
    obtain ⟨⟨hB1, hB2⟩, hB3⟩ := hB
    have hun : listed.getD k true = false := by
      rw [← Bool.not_eq_true]
      intro h1
      have := (hd k).1 h1
      omega
    have hin : ∀ i, i < k → listed.getD i false = true := by
      intro i hi
      cases h1 : listed.getD i false with
      | true => rfl
      | false =>
        have h2 := getD_in (by omega) h1
        have h3 := (hd i).2 (.inl hi)
        rw [h2] at h3
        cases h3
    have hrd : k ∈ Region.ready .any l.toArray listed := by
      refine mem_ready.2 ⟨hun, o, h0, fun e he hb => hin _ ?_⟩
      have h1 := List.all_eq_true.1 hB1 e.on (by
        simp only [sgO, List.mem_map, List.mem_filter]
        exact ⟨e, ⟨Array.mem_toList_iff.2 he, hb⟩, rfl⟩)
      exact (Nat.blt_eq ▸ h1 : e.on < k)
    have hst : qOp P l.toArray C k (wpQuiet P l.toArray C Q r) a := by unfold qOp; simp only [h0]; exact h
    obtain ⟨v, hy, hK⟩ := yieldsIn_of_qOp h0 hst
    refine wpAnyQ_first h0 (Region.noSelect_spec hs) r.length listed a (fun j oj hoj hne hju hno => ?_) hrd hy ?_
    · have hjk : k < j := by
        apply Nat.lt_of_not_le
        intro hle
        have h3 := (hd j).2 (.inl (by omega))
        rw [hju] at h3
        cases h3
      have hmem : oj ∈ r := by
        have h1 := hr (j - k)
        rw [List.getElem?_toArray] at hoj
        rw [show k + (j - k) = j from by omega, hoj, show j - k = (j - k - 1) + 1 from by omega, List.getElem?_cons_succ] at h1
        exact List.mem_of_getElem? h1
      have h2 := List.all_eq_true.1 hB2 _ (List.mem_map_of_mem hmem)
      rw [Bool.or_eq_true] at h2
      rcases h2 with h2 | h2
      · obtain ⟨e, he, hb, hon⟩ := waits_sg _ _ _ h2
        exact absurd hon (hno e he hb)
      · exact apart_sg l o oj h2
    · refine ih (k + 1) _ _ (fun j => ?_) (by rw [Array.size_setIfInBounds]; exact hsz) (fun j => ?_) hB3 hK
      · have h1 := hr (j + 1)
        rw [List.getElem?_cons_succ] at h1
        rw [h1, show k + 1 + j = k + (j + 1) from by omega]
      · by_cases c : k = j
        · subst c
          constructor
          · intro _
            omega
          · intro _
            have hks : k < listed.size := by omega
            simp [hks]
        · rw [getD_set_ne true c, hd j]
          omega
end
/-- **A region whose operations only read in a class of worlds, which its calls keep.** -/
theorem wp_region_quiet_great {P : Program} {C : World → Prop} {id : Nat} {Q : Exit → Act → World → Prop} {a : Act} {w : World} {l : List Oper} (hm : P.follows .mixedOrders = true) (hB : lexC l = true) (hC : C w.drew)
    (h : wpQuiet P l.toArray C (fun a' => ∀ w', C w' → Q .normal a' w') l a) : (Code.region id l.toArray true).wp P Q a w := by
  simp only [lexC, Bool.and_eq_true] at hB
  refine wp_region_any hm (wpAny_of_quiet (Q := fun a' => ∀ w', C w' → Q .normal a' w') (fun _ w' hw' h => h w' hw') _ _ _ _ hC ?_)
  have H := wpAnyQ_lexC (C := C) (Q := fun a' => ∀ w', C w' → Q .normal a' w') hB.1 l 0 (Array.replicate l.toArray.size false) a (fun j => by rw [Nat.zero_add]) (by simp) (fun j => by
    by_cases c : j < l.length
    · simp [c]
    · simp [c]
      omega) hB.2 h
  simpa using H
end Go.Proofs.YtbmeejfpaeggjaaDoor

namespace Go.Proofs.YtbmeejfpaeggjaaDoor
open Go.RowKit
/-- what the law asks of the program -/
structure BitsC (A : Nat) (k i M : Int) (L s F T lo D : Nat) (ok far is b1 b2 : Bool) : Prop where
  c1 : ∀ w : World, Calls Tryd.prog 15 #[.agg #[.int .u64 (lm (A) 0 : Nat), .int .u64 (lm (A) 1 : Nat), .int .u64 (lm (A) 2 : Nat), .int .u64 (lm (A) 3 : Nat)]] w fun e w' => ∃ v, e = .returned v ∧ IsD w' v A ∧ Below w.heap.size w w'
  c2 : ∀ w : World, Calls Tryd.prog 27 #[.agg #[.int .u64 (lm (A) 0 : Nat), .int .u64 (lm (A) 1 : Nat), .int .u64 (lm (A) 2 : Nat), .int .u64 (lm (A) 3 : Nat)], .int .i64 i] w fun e w' => e = .returned (.tuple #[.agg #[.int .u64 (lm (s) 0 : Nat), .int .u64 (lm (s) 1 : Nat), .int .u64 (lm (s) 2 : Nat), .int .u64 (lm (s) 3 : Nat)], .bool ok]) ∧ Below w.heap.size w w'
  c3 : ∀ (v : Value) (w : World) (_ : IsD w v A), Calls Tryd.prog 33 #[v] w fun e w' => e = .returned (.int .i64 (L : Nat)) ∧ w = w'
  c4 : ∀ (v : Value) (w : World) (_ : IsD w v A), ok = true → Calls Tryd.prog 34 #[v, .int .i64 i] w fun e w' => ∃ v', e = .returned v' ∧ IsD w' v' s ∧ Below w.heap.size w w'
  c5 : ∀ (v : Value) (w : World) (_ : IsD w v s), Calls Tryd.prog 35 #[v] w fun e w' => e = .returned (.tuple #[.agg #[.int .u64 (lm (s) 0 : Nat), .int .u64 (lm (s) 1 : Nat), .int .u64 (lm (s) 2 : Nat), .int .u64 (lm (s) 3 : Nat)], .bool true]) ∧ Below w.heap.size w w'
  c6 : ∀ (v : Value) (w : World) (_ : IsD w v A), Calls Tryd.prog 34 #[v, .int .i64 (-M)] w fun e w' => ∃ v', e = .returned v' ∧ IsD w' v' D ∧ Below w.heap.size w w'
  c7 : ∀ (v : Value) (w : World) (_ : IsD w v D), Calls Tryd.prog 35 #[v] w fun e w' => e = .returned (.tuple #[.agg #[.int .u64 (lm (D) 0 : Nat), .int .u64 (lm (D) 1 : Nat), .int .u64 (lm (D) 2 : Nat), .int .u64 (lm (D) 3 : Nat)], .bool true]) ∧ Below w.heap.size w w'
  c8 : ∀ w : World, Calls Tryd.prog 27 #[.agg #[.int .u64 (lm (A) 0 : Nat), .int .u64 (lm (A) 1 : Nat), .int .u64 (lm (A) 2 : Nat), .int .u64 (lm (A) 3 : Nat)], .int .i64 k] w fun e w' => e = .returned (.tuple #[.agg #[.int .u64 (lm (F) 0 : Nat), .int .u64 (lm (F) 1 : Nat), .int .u64 (lm (F) 2 : Nat), .int .u64 (lm (F) 3 : Nat)], .bool far]) ∧ Below w.heap.size w w'
  c9 : ∀ w : World, Calls Tryd.prog 36 #[.agg #[.int .u64 (lm (A) 0 : Nat), .int .u64 (lm (A) 1 : Nat), .int .u64 (lm (A) 2 : Nat), .int .u64 (lm (A) 3 : Nat)]] w fun e w' => e = .returned (.tuple #[.int .u64 (lo : Nat), .bool is]) ∧ Below w.heap.size w w'
  ca : ∀ w : World, Calls Tryd.prog 29 #[.agg #[.int .u64 (lm (A) 0 : Nat), .int .u64 (lm (A) 1 : Nat), .int .u64 (lm (A) 2 : Nat), .int .u64 (lm (A) 3 : Nat)], .int .i64 i] w fun e w' => e = .returned (.agg #[.int .u64 (lm (D) 0 : Nat), .int .u64 (lm (D) 1 : Nat), .int .u64 (lm (D) 2 : Nat), .int .u64 (lm (D) 3 : Nat)]) ∧ Below w.heap.size w w'
  cb : ∀ w : World, Calls Tryd.prog 28 #[.agg #[.int .u64 (lm (A) 0 : Nat), .int .u64 (lm (A) 1 : Nat), .int .u64 (lm (A) 2 : Nat), .int .u64 (lm (A) 3 : Nat)]] w fun e w' => e = .returned (.int .i64 (L : Nat)) ∧ Below w.heap.size w w'
  cc : ∀ w : World, Tabs w → Calls Tryd.prog 37 #[.agg #[.int .u64 (lm (A) 0 : Nat), .int .u64 (lm (A) 1 : Nat), .int .u64 (lm (A) 2 : Nat), .int .u64 (lm (A) 3 : Nat)]] w fun e w' => e = .returned (.int .i64 (T : Nat)) ∧ Below w.heap.size w w'
  cd : ∀ (v : Value) (w : World) (_ : IsD w v A), Calls Tryd.prog 38 #[v] w fun e w' => e = .returned (.int .i64 (T : Nat)) ∧ w = w'
  ce : ∀ w : World, Calls Tryd.prog 26 #[.agg #[.int .u64 (lm (A) 0 : Nat), .int .u64 (lm (A) 1 : Nat), .int .u64 (lm (A) 2 : Nat), .int .u64 (lm (A) 3 : Nat)], .int .i64 i] w fun e w' => e = .returned (.bool b1) ∧ Below w.heap.size w w'
  cf : ∀ (v : Value) (w : World) (_ : IsD w v A), Calls Tryd.prog 39 #[v, .int .i64 i] w fun e w' => e = .returned (.bool b1) ∧ w = w'
  cg : ∀ w : World, Calls Tryd.prog 26 #[.agg #[.int .u64 (lm (A) 0 : Nat), .int .u64 (lm (A) 1 : Nat), .int .u64 (lm (A) 2 : Nat), .int .u64 (lm (A) 3 : Nat)], .int .i64 k] w fun e w' => e = .returned (.bool b2) ∧ Below w.heap.size w w'
  ch : ∀ (v : Value) (w : World) (_ : IsD w v A), Calls Tryd.prog 39 #[v, .int .i64 k] w fun e w' => e = .returned (.bool b2) ∧ w = w'
theorem bitsC (A : Nat) (k i : Int) (hA : A < 2 ^ 256) (hk0 : -9223372036854775808 ≤ k) (hk1 : k < 9223372036854775808) (hi0 : -300 ≤ i) (hi1 : i ≤ 300) :
    BitsC A k i (max i 0) (bl A) (shlV A i) (shlV A k) (if A = 0 then 256 else tz A) (lowV (lm A 0) (lm A 1) (lm A 2) (lm A 3)) (A / 2 ^ i.toNat) (shlOk A i) (shlOk A k) (oneLimb (lm A 1) (lm A 2) (lm A 3)) (bitI A i) (bitI A k) where
  c1 := fun w => DOf_any A hA w
  c2 := fun w => ShlV_any A hA i w (by omega) (by omega)
  c3 := fun v w h => LenI_any v A w h
  c4 := fun v w h hok => by
    have h1 := ShiftI_any v A i w h (Nat.le_trans (dl8 hA) (by decide)) (by omega) (by omega)
    have h2 : 0 ≤ i := by
      unfold shlOk at hok
      exact (of_decide_eq_true hok).1
    rw [show shI A i = shlV A i from by unfold shI shlV; rw [if_pos h2, if_pos hok]] at h1
    exact h1
  c5 := fun v w h => by
    have h1 := NatI_any v _ w h
    rw [if_pos (shlV_lt A i), decide_eq_true (shlV_lt A i)] at h1
    exact h1
  c6 := fun v w h => by
    have h1 := ShiftI_any v A (-(max i 0)) w h (Nat.le_trans (dl8 hA) (by decide)) (by omega) (by omega)
    rw [show shI A (-(max i 0)) = A / 2 ^ i.toNat from by
      unfold shI
      by_cases c : 0 < i
      · rw [if_neg (by omega), show (- -(max i 0)).toNat = i.toNat from by omega]
      · rw [if_pos (by omega), show (-(max i 0)).toNat = 0 from by omega, show i.toNat = 0 from by omega, Nat.pow_zero, Nat.mul_one, Nat.div_one]] at h1
    exact h1
  c7 := fun v w h => by
    have h1 := NatI_any v _ w h
    have h2 : A / 2 ^ i.toNat < 2 ^ 256 := Nat.lt_of_le_of_lt (Nat.div_le_self _ _) hA
    rw [if_pos h2, decide_eq_true h2] at h1
    exact h1
  c8 := fun w => ShlV_any A hA k w hk0 hk1
  c9 := fun w => Low_any _ _ _ _ w
  ca := fun w => ShrI_any A i hA w (by omega)
  cb := fun w => Len_lm A hA _ rfl w
  cc := fun w hT => Trail_lm A hA _ rfl w hT.t
  cd := fun v w h => TrailI_any v A w h
  ce := fun w => BitN_any A i hA w
  cf := fun v w h => BitI_any v A i w h (by omega) (by omega)
  cg := fun w => BitN_any A k hA w
  ch := fun v w h => BitI_any v A k w h hk0 hk1
end Go.Proofs.YtbmeejfpaeggjaaDoor
