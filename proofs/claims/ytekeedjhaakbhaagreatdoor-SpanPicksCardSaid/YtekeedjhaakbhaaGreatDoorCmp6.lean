/- Contracts of package nat: Cmp. -/
import Derived.Test.YtekeedjhaakbhaaGreatDoorShl
import Derived.Test.YtekeedjhaakbhaaGreatDoorGen
import Derived.LoopN
namespace Go.Proofs.YtekeedjhaakbhaaGreatDoor
open Go.RowKit
/-- how two numbers lie -/
def cmpV (A B : Nat) : Int := if A < B then -1 else if B < A then 1 else 0
theorem top_limb (A i : Nat) : A / 2 ^ (64 * i) = A / 2 ^ (64 * (i + 1)) * 18446744073709551616 + lm A i := by
  unfold lm
  rw [show 64 * (i + 1) = 64 * i + 64 from by omega, Nat.pow_add, ← Nat.div_div_eq_div_mul, show (2 : Nat) ^ 64 = 18446744073709551616 from by decide]
  exact (Nat.div_add_mod' _ _).symm
theorem lt_of_top {A B k : Nat} (h : A / k < B / k) : A < B := by
  apply Nat.lt_of_not_le
  intro h2
  have := Nat.div_le_div_right (c := k) h2
  omega
theorem cmp_lt {A B i : Nat} (h : A / 2 ^ (64 * (i + 1)) = B / 2 ^ (64 * (i + 1))) (hl : lm A i < lm B i) : cmpV A B = -1 := by
  have : A < B := lt_of_top (k := 2 ^ (64 * i)) (by rw [top_limb A, top_limb B, h]; omega)
  unfold cmpV
  rw [if_pos this]
theorem cmp_gt {A B i : Nat} (h : A / 2 ^ (64 * (i + 1)) = B / 2 ^ (64 * (i + 1))) (hl : lm B i < lm A i) : cmpV A B = 1 := by
  have : B < A := lt_of_top (k := 2 ^ (64 * i)) (by rw [top_limb A, top_limb B, h]; omega)
  unfold cmpV
  rw [if_neg (by omega), if_pos this]
theorem cmp_same {A B : Nat} (h : A / 2 ^ (64 * 0) = B / 2 ^ (64 * 0)) : cmpV A B = 0 := by
  rw [Nat.mul_zero, Nat.pow_zero, Nat.div_one, Nat.div_one] at h
  subst h
  unfold cmpV
  rw [if_neg (Nat.lt_irrefl _), if_neg (Nat.lt_irrefl _)]
/-- the cells in the loop -/
structure CmpI (w wr : World) (A B : Nat) : Prop where
  a : ∀ j, j < 4 → wr.cell? ⟨w.heap.size, j, none⟩ = some (.int .u64 (lm A j : Nat))
  c : ∀ j, j < 4 → wr.cell? ⟨w.heap.size + 1, j, none⟩ = some (.int .u64 (lm B j : Nat))
  b : Below w.heap.size w wr
theorem cmpI_new {w : World} {A B : Nat} {t t2 : TypeId} : CmpI w ((w.alloc (.cells #[.int .u64 (lm A 0 : Nat), .int .u64 (lm A 1 : Nat), .int .u64 (lm A 2 : Nat), .int .u64 (lm A 3 : Nat)] t)).alloc (.cells #[.int .u64 (lm B 0 : Nat), .int .u64 (lm B 1 : Nat), .int .u64 (lm B 2 : Nat), .int .u64 (lm B 3 : Nat)] t2)) A B := by
  refine ⟨?_, ?_, ?_⟩
  · intro j hj
    match j, hj with
    | 0, _ => simp [go_sem]
    | 1, _ => simp [go_sem]
    | 2, _ => simp [go_sem]
    | 3, _ => simp [go_sem]
  · intro j hj
    match j, hj with
    | 0, _ => simp [go_sem]
    | 1, _ => simp [go_sem]
    | 2, _ => simp [go_sem]
    | 3, _ => simp [go_sem]
  · (repeat first | with_reducible exact Below.refl _ _ | with_reducible assumption | with_reducible refine Below.drew ?_ | with_reducible refine below_alloc ?_ _ | ((with_reducible refine Below.setCell ?_ ?_ _); rotate_left; (focus (first | with_reducible exact Nat.le_refl _ | (simp; done) | (simp; omega) | omega))) | (with_reducible refine below_trans ?_ (by assumption)))
theorem CmpI.drew {w wr : World} {A B : Nat} (h : CmpI w wr A B) : CmpI w wr.drew A B := ⟨h.a, h.c, h.b.drew⟩
set_option maxRecDepth 20000 in
set_option maxHeartbeats 1600000 in
/-- **Cmp.** -/
theorem CmpN_any (A B : Nat) (hA : A < 2 ^ 256) (hB : B < 2 ^ 256) (w : World) :
    Calls Tryz.prog 37 #[.agg #[.int .u64 (lm (A) 0 : Nat), .int .u64 (lm (A) 1 : Nat), .int .u64 (lm (A) 2 : Nat), .int .u64 (lm (A) 3 : Nat)], .agg #[.int .u64 (lm (B) 0 : Nat), .int .u64 (lm (B) 1 : Nat), .int .u64 (lm (B) 2 : Nat), .int .u64 (lm (B) 3 : Nat)]] w fun e w' => e = .returned (.int .i64 (cmpV A B)) ∧ Below w.heap.size w w' := by
  have HK := Lib.hid (And.intro hA hB)
  obtain ⟨V, hV⟩ : ∃ V, V = cmpV A B := ⟨_, rfl⟩
  rw [← hV]
  have HV := Lib.hid hV
  clear hA hB hV
  go_enter Tryz.func37, Tryz.ntmps37
  repeat any_goals (first | go_skip | go_guarded | go_step | go_upon | (simp only []; done))
  go_loopw [5] (fun i wr => ∃ m : Nat, m ≤ 4 ∧ i = .int .i64 ((m : Int) - 1) ∧ A / 2 ^ (64 * m) = B / 2 ^ (64 * m) ∧ CmpI w wr A B) (fun i _ => (intOf i + 1).toNat)
  case atStart =>
    refine ⟨4, by omega, rfl, ?_, cmpI_new⟩
    rw [Nat.div_eq_of_lt HK.out.1, Nat.div_eq_of_lt HK.out.2]
  case round =>
    obtain ⟨m, hm, rfl, ht, I⟩ := hrel
    have TH := Lib.hid (And.intro ht I)
    clear I ht
    by_cases c0 : m = 0
    · subst c0
      have e := cmp_same TH.out.1
      rw [← HV.out] at e
      subst e
      have hW := TH.out.2.b
      repeat any_goals (first | go_skip | go_guarded | go_step | go_upon | (simp only []; done))
      exact bodyPost_ret (v := .int .i64 0) (by simp [results, Tryz.results37, go_sem]) rfl ⟨rfl, hW⟩
    · obtain ⟨i, rfl⟩ : ∃ i, m = i + 1 := ⟨m - 1, by omega⟩
      have i4 : i < 4 := by omega
      rw [show ((i + 1 : Nat) : Int) - 1 = (i : Int) from by omega]
      have ca := TH.out.2.a i i4
      have cb := TH.out.2.c i i4
      obtain ⟨x, hx⟩ : ∃ x, x = lm A i := ⟨_, rfl⟩
      obtain ⟨y, hy⟩ : ∃ x, x = lm B i := ⟨_, rfl⟩
      rw [← hx] at ca
      rw [← hy] at cb
      have i1 : (i : Int) < 4 := by omega
      have i2 : (0 : Int) ≤ (i : Int) := by omega
      have i5 : (i : Int).toNat = i := rfl
      have G := Lib.hid (And.intro hx hy)
      have hW := TH.out.2.b
      have hW1 := hW.drew
      have hW2 := hW1.drew
      clear hx hy c0 hm i4
      by_cases c1 : x < y
      · have c1i : (x : Int) < (y : Int) := by omega
        have e := cmp_lt TH.out.1 (by rw [← G.out.1, ← G.out.2]; exact c1)
        rw [← HV.out] at e
        subst e
        repeat any_goals (first | go_skip | go_guarded | go_step | go_upon | (simp only []; done))
        go_region
        repeat any_goals (first | go_skip | go_guarded | go_step | go_upon | (simp only []; done))
        exact bodyPost_ret (v := .int .i64 (-1)) (by simp [results, Tryz.results37, go_sem]) rfl ⟨rfl, hW1⟩
      · by_cases c2 : y < x
        · have c1i : ¬ (x : Int) < (y : Int) := by omega
          have c2i : (y : Int) < (x : Int) := by omega
          have e := cmp_gt TH.out.1 (by rw [← G.out.1, ← G.out.2]; exact c2)
          rw [← HV.out] at e
          subst e
          repeat any_goals (first | go_skip | go_guarded | go_step | go_upon | (simp only []; done))
          go_region
          repeat any_goals (first | go_skip | go_guarded | go_step | go_upon | (simp only []; done))
          go_region
          repeat any_goals (first | go_skip | go_guarded | go_step | go_upon | (simp only []; done))
          exact bodyPost_ret (v := .int .i64 1) (by simp [results, Tryz.results37, go_sem]) rfl ⟨rfl, hW2⟩
        · have c1i : ¬ (x : Int) < (y : Int) := by omega
          have c2i : ¬ (y : Int) < (x : Int) := by omega
          have e : A / 2 ^ (64 * i) = B / 2 ^ (64 * i) := by
            rw [top_limb A, top_limb B, TH.out.1, ← G.out.1, ← G.out.2, show x = y from by omega]
          have E := Lib.hid e
          clear e c1 c2
          repeat any_goals (first | go_skip | go_guarded | go_step | go_upon | (simp only []; done))
          go_region
          repeat any_goals (first | go_skip | go_guarded | go_step | go_upon | (simp only []; done))
          go_region
          repeat any_goals (first | go_skip | go_guarded | go_step | go_upon | (simp only []; done))
          go_roundw
          case rel => exact ⟨i, by omega, by go_num, E.out, TH.out.2.drew.drew⟩
          case measure => simp [intOf]
end Go.Proofs.YtekeedjhaakbhaaGreatDoor
