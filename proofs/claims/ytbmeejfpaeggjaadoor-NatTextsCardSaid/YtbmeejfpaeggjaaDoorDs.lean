/- Contracts of the document's digits: Cmp. -/
import Derived.Test.YtbmeejfpaeggjaaDoorDq
import Derived.Test.YtbmeejfpaeggjaaDoorCmpN
namespace Go.Proofs.YtbmeejfpaeggjaaDoor
open Go.RowKit
theorem top_digit (A i : Nat) : A / 2 ^ (32 * i) = A / 2 ^ (32 * (i + 1)) * 4294967296 + dig A i := by
  unfold dig
  rw [show 32 * (i + 1) = 32 * i + 32 from by omega, Nat.pow_add, ← Nat.div_div_eq_div_mul, show (2 : Nat) ^ 32 = 4294967296 from by decide]
  exact (Nat.div_add_mod' _ _).symm
theorem dcmp_lt {A B i : Nat} (h : A / 2 ^ (32 * (i + 1)) = B / 2 ^ (32 * (i + 1))) (hl : dig A i < dig B i) : cmpV A B = -1 := by
  have : A < B := lt_of_top (k := 2 ^ (32 * i)) (by rw [top_digit A, top_digit B, h]; omega)
  unfold cmpV
  rw [if_pos this]
theorem dcmp_gt {A B i : Nat} (h : A / 2 ^ (32 * (i + 1)) = B / 2 ^ (32 * (i + 1))) (hl : dig B i < dig A i) : cmpV A B = 1 := by
  have : B < A := lt_of_top (k := 2 ^ (32 * i)) (by rw [top_digit A, top_digit B, h]; omega)
  unfold cmpV
  rw [if_neg (by omega), if_pos this]
theorem dcmp_same {A B : Nat} (h : A / 2 ^ (32 * 0) = B / 2 ^ (32 * 0)) : cmpV A B = 0 := by
  rw [Nat.mul_zero, Nat.pow_zero, Nat.div_one, Nat.div_one] at h
  subst h
  unfold cmpV
  rw [if_neg (Nat.lt_irrefl _), if_neg (Nat.lt_irrefl _)]
theorem lt_of_dl {A B : Nat} (h : dl A < dl B) : A < B := by
  apply Nat.lt_of_not_le
  intro h2
  have h3 := bl_mono h2
  unfold dl at h
  omega
theorem cmp_shorter {A B : Nat} (h : dl A < dl B) : cmpV A B = -1 := by
  unfold cmpV
  rw [if_pos (lt_of_dl h)]
theorem cmp_longer {A B : Nat} (h : dl B < dl A) : cmpV A B = 1 := by
  have := lt_of_dl h
  unfold cmpV
  rw [if_neg (by omega), if_pos this]
set_option maxRecDepth 20000 in
set_option maxHeartbeats 1600000 in
/-- **Cmp.** -/
theorem DCmp_any (v1 v2 : Value) (n1 n2 A B : Nat) (w : World) (h1 : DN w v1 n1 A) (h2 : DN w v2 n2 B) :
    Calls Tryd.prog 17 #[v1, v2] w fun e w' => e = .returned (.int .i64 (cmpV A B)) ∧ Below w.heap.size w w' := by
  obtain ⟨V, hV⟩ : ∃ V, V = cmpV A B := ⟨_, rfl⟩
  rw [← hV]
  have HV := Lib.hid hV
  have H := Lib.hid (And.intro h1 h2)
  clear hV h1 h2
  go_enter Tryd.func17, Tryd.ntmps17
  go_upto_region 2 with (first | (go_at_call 42; with_reducible refine (trim_any _ _ _ _ H.out.1).mono ?_; rintro e w' ⟨⟨u1, rfl, hu1⟩, rfl⟩) | (go_at_call 42; with_reducible refine (trim_any _ _ _ _ H.out.2).mono ?_; rintro e w' ⟨⟨u2, rfl, hu2⟩, rfl⟩))
  obtain ⟨hA, hl1, o1, p1, rfl, hp1, hm1, hcell1⟩ := hu1
  obtain ⟨hB, hl2, o2, p2, rfl, hp2, hm2, hcell2⟩ := hu2
  obtain ⟨n, hn⟩ : ∃ n, n = dl A := ⟨_, rfl⟩
  obtain ⟨m, hm⟩ : ∃ n, n = dl B := ⟨_, rfl⟩
  rw [← hn] at hA hl1 hp1 hcell1 ⊢
  rw [← hm] at hB hl2 hp2 hcell2 ⊢
  have NH := Lib.hid (And.intro hn (And.intro hm (And.intro hA (And.intro hB (And.intro hcell1 hcell2)))))
  clear hn hm hA hB hcell1 hcell2
  by_cases c1 : n < m
  · have c1i : ((n : Int) != (m : Int)) = true := by simp; omega
    have c1j : (n : Int) < (m : Int) := by omega
    have e := cmp_shorter (A := A) (B := B) (by rw [← NH.out.1, ← NH.out.2.1]; exact c1)
    rw [← HV.out] at e
    subst e
    repeat any_goals (first | go_skip | go_guarded | go_step | go_upon | (simp only []; done))
    exact bodyPost_ret (v := .int .i64 (-1)) (by simp [results, Tryd.results17, go_sem]) rfl ⟨rfl, Below.refl _ _⟩
  · by_cases c2 : m < n
    · have c1i : ((n : Int) != (m : Int)) = true := by simp; omega
      have c1j : ¬ (n : Int) < (m : Int) := by omega
      have e := cmp_longer (A := A) (B := B) (by rw [← NH.out.1, ← NH.out.2.1]; exact c2)
      rw [← HV.out] at e
      subst e
      repeat any_goals (first | go_skip | go_guarded | go_step | go_upon | (simp only []; done))
      exact bodyPost_ret (v := .int .i64 1) (by simp [results, Tryd.results17, go_sem]) rfl ⟨rfl, Below.refl _ _⟩
    · have hnm : m = n := by omega
      subst hnm
      have c1i : ((m : Int) != (m : Int)) = false := by simp
      clear c1 c2
      repeat any_goals (first | go_skip | go_guarded | go_step | go_upon | (simp only []; done))
      go_loopw [5] (fun i wr => ∃ k : Nat, k ≤ m ∧ i = .int .i64 ((k : Int) - 1) ∧ A / 2 ^ (32 * k) = B / 2 ^ (32 * k) ∧ Below w.heap.size w wr) (fun i _ => (intOf i + 1).toNat)
      case atStart =>
        refine ⟨m, Nat.le_refl _, rfl, ?_, Below.refl _ _⟩
        rw [Nat.div_eq_of_lt NH.out.2.2.1, Nat.div_eq_of_lt NH.out.2.2.2.1]
      case round =>
        obtain ⟨k, hk, rfl, ht, hW⟩ := hrel
        have TH := Lib.hid ht
        clear ht
        by_cases c0 : k = 0
        · subst c0
          have e := dcmp_same TH.out
          rw [← HV.out] at e
          subst e
          repeat any_goals (first | go_skip | go_guarded | go_step | go_upon | (simp only []; done))
          exact bodyPost_ret (v := .int .i64 0) (by simp [results, Tryd.results17, go_sem]) rfl ⟨rfl, hW⟩
        · obtain ⟨i, rfl⟩ : ∃ i, k = i + 1 := ⟨k - 1, by omega⟩
          rw [show ((i + 1 : Nat) : Int) - 1 = (i : Int) from by omega]
          obtain ⟨b1, rfl, hb1, hce1⟩ := NH.out.2.2.2.2.1 (by omega)
          obtain ⟨b2, rfl, hb2, hce2⟩ := NH.out.2.2.2.2.2 (by omega)
          have ca := (hW.cell (p := ⟨b1, i, none⟩) hb1).trans (hce1 i (by omega))
          have cb := (hW.cell (p := ⟨b2, i, none⟩) hb2).trans (hce2 i (by omega))
          obtain ⟨x, hx⟩ : ∃ x, x = dig A i := ⟨_, rfl⟩
          obtain ⟨y, hy⟩ : ∃ x, x = dig B i := ⟨_, rfl⟩
          rw [← hx] at ca
          rw [← hy] at cb
          have i1 : (i : Int) < (m : Int) := by omega
          have i2 : (0 : Int) ≤ (i : Int) := by omega
          have i5 : (i : Int).toNat = i := rfl
          have G := Lib.hid (And.intro hx hy)
          have hW1 := hW.drew
          have hW2 := hW1.drew
          clear hx hy c0 hce1 hce2
          by_cases c1 : x < y
          · have c1j : (x : Int) < (y : Int) := by omega
            have e := dcmp_lt TH.out (by rw [← G.out.1, ← G.out.2]; exact c1)
            rw [← HV.out] at e
            subst e
            repeat any_goals (first | go_skip | go_guarded | go_step | go_upon | (simp only []; done))
            go_region
            repeat any_goals (first | go_skip | go_guarded | go_step | go_upon | (simp only []; done))
            exact bodyPost_ret (v := .int .i64 (-1)) (by simp [results, Tryd.results17, go_sem]) rfl ⟨rfl, hW1⟩
          · by_cases c2 : y < x
            · have c1j : ¬ (x : Int) < (y : Int) := by omega
              have c2j : (y : Int) < (x : Int) := by omega
              have e := dcmp_gt TH.out (by rw [← G.out.1, ← G.out.2]; exact c2)
              rw [← HV.out] at e
              subst e
              repeat any_goals (first | go_skip | go_guarded | go_step | go_upon | (simp only []; done))
              go_region
              repeat any_goals (first | go_skip | go_guarded | go_step | go_upon | (simp only []; done))
              go_region
              repeat any_goals (first | go_skip | go_guarded | go_step | go_upon | (simp only []; done))
              exact bodyPost_ret (v := .int .i64 1) (by simp [results, Tryd.results17, go_sem]) rfl ⟨rfl, hW2⟩
            · have c1j : ¬ (x : Int) < (y : Int) := by omega
              have c2j : ¬ (y : Int) < (x : Int) := by omega
              have e : A / 2 ^ (32 * i) = B / 2 ^ (32 * i) := by
                rw [top_digit A, top_digit B, TH.out, ← G.out.1, ← G.out.2, show x = y from by omega]
              have E := Lib.hid e
              clear e c1 c2
              repeat any_goals (first | go_skip | go_guarded | go_step | go_upon | (simp only []; done))
              go_region
              repeat any_goals (first | go_skip | go_guarded | go_step | go_upon | (simp only []; done))
              go_region
              repeat any_goals (first | go_skip | go_guarded | go_step | go_upon | (simp only []; done))
              go_roundw
              case rel => exact ⟨i, by omega, by go_num, E.out, hW2⟩
              case measure => first | (simp [intOf]; done) | (simp [intOf]; omega)
end Go.Proofs.YtbmeejfpaeggjaaDoor
