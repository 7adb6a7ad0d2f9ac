/- Plain facts for SpanPoints: how many intervals the one form of a set of points has. -/
import Derived.Test.YtekeedjhaakbhaaDoorSpanMP
namespace Go.Proofs.YtekeedjhaakbhaaDoor
theorem starts_one : ∀ {l : List Iv}, NF l → ∀ z : Int, ((MemL l z ∧ ¬ MemL l (z - 1)) → (l.filter (fun c => decide (c.1 = z))).length = 1) ∧ (¬ (MemL l z ∧ ¬ MemL l (z - 1)) → (l.filter (fun c => decide (c.1 = z))).length = 0) := by
  intro l
  induction l with
  | nil => intro _ z; exact ⟨fun h => absurd h.1 (MemL_nil z), fun _ => rfl⟩
  | cons c t ih =>
    intro h z
    have i := ih h.tail z
    have hc : c.1 ≤ c.2 := h.1
    have hgt : ∀ y, MemL t y → c.2 + 1 < y := fun y hy => h.gt hy
    by_cases e : c.1 = z
    · have e0 : (t.filter (fun c => decide (c.1 = z))).length = 0 := i.2 (fun hh => by have := hgt z hh.1; omega)
      have e1 : ((c :: t).filter (fun c => decide (c.1 = z))).length = 1 := by
        rw [List.filter_cons_of_pos (by simpa using e), List.length_cons, e0]
      refine ⟨fun _ => e1, fun hn => absurd ⟨MemL_cons.2 (.inl ⟨by omega, by omega⟩), fun hm => ?_⟩ hn⟩
      rcases MemL_cons.1 hm with hm | hm
      · omega
      · have := hgt _ hm; omega
    · have e1 : ((c :: t).filter (fun c => decide (c.1 = z))).length = (t.filter (fun c => decide (c.1 = z))).length := by
        rw [List.filter_cons_of_neg (by simpa using e)]
      rw [e1]
      constructor
      · rintro ⟨h1, h2⟩
        rcases MemL_cons.1 h1 with h3 | h3
        · exact absurd (MemL_cons.2 (.inl ⟨by omega, by omega⟩)) h2
        · exact i.1 ⟨h3, fun h4 => h2 (MemL_cons.2 (.inr h4))⟩
      · intro hn
        refine i.2 fun hh => hn ⟨MemL_cons.2 (.inr hh.1), fun h4 => ?_⟩
        rcases MemL_cons.1 h4 with h5 | h5
        · have := hgt z hh.1; omega
        · exact hh.2 h5
/-- how many runs begin below n, as the law counts them -/
def cntS (D : Nat → Bool) : Nat → Nat
  | 0 => 0
  | n + 1 => cntS D n + (if (decide (1 ≤ n) && D n && !D (n - 1)) = true then 1 else 0)
theorem filter_step (l : List Iv) (z : Int) : (l.filter (fun c => decide (c.1 < z + 1))).length = (l.filter (fun c => decide (c.1 < z))).length + (l.filter (fun c => decide (c.1 = z))).length := by
  induction l with
  | nil => rfl
  | cons c t ih =>
    rw [List.filter_cons, List.filter_cons, List.filter_cons]
    by_cases h1 : c.1 < z
    · rw [if_pos (by simp; omega), if_pos (by simp; omega), if_neg (by simp; omega), List.length_cons, List.length_cons, ih]
      omega
    · by_cases h2 : c.1 = z
      · rw [if_pos (by simp; omega), if_neg (by simp; omega), if_pos (by simp; omega), List.length_cons, List.length_cons, ih]
        omega
      · rw [if_neg (by simp; omega), if_neg (by simp; omega), if_neg (by simp; omega), ih]
/-- **the number of intervals is the number of runs** -/
theorem runs_len {l : List Iv} (h : NF l) (D : Nat → Bool) (N : Nat) (hD : ∀ n : Nat, n < N → (MemL l ((n : Int) - 2) ↔ D n = true)) (h0 : D 0 = false) (hlo : ∀ c ∈ l, -2 ≤ c.1) (hhi : ∀ c ∈ l, c.1 < (N : Int) - 2) : l.length = cntS D N := by
  have hk : ∀ n, n ≤ N → (l.filter (fun c => decide (c.1 < (n : Int) - 2))).length = cntS D n := by
    intro n
    induction n with
    | zero =>
      intro _
      have e : l.filter (fun c => decide (c.1 < ((0 : Nat) : Int) - 2)) = [] := by
        rw [List.filter_eq_nil_iff]
        intro c hc
        have := hlo c hc
        simp only [decide_eq_true_eq]
        omega
      rw [e]
      rfl
    | succ n ih =>
      intro hn
      have e := filter_step l ((n : Int) - 2)
      rw [show ((n + 1 : Nat) : Int) - 2 = (n : Int) - 2 + 1 by omega, e, ih (by omega)]
      have s := starts_one h ((n : Int) - 2)
      simp only [cntS]
      congr 1
      by_cases c : (decide (1 ≤ n) && D n && !D (n - 1)) = true
      · rw [if_pos c]
        simp only [Bool.and_eq_true, decide_eq_true_eq, Bool.not_eq_true'] at c
        refine s.1 ⟨(hD n (by omega)).2 c.1.2, fun hm => ?_⟩
        have := (hD (n - 1) (by omega)).1 (by rw [show ((n - 1 : Nat) : Int) - 2 = (n : Int) - 2 - 1 by omega]; exact hm)
        rw [this] at c
        exact absurd c.2 (by decide)
      · rw [if_neg c]
        refine s.2 fun hh => c ?_
        have d := (hD n (by omega)).1 hh.1
        by_cases n0 : n = 0
        · subst n0
          rw [h0] at d
          cases d
        · have d2 : D (n - 1) = false := by
            rw [← Bool.not_eq_true, ← hD (n - 1) (by omega)]
            intro hm
            exact hh.2 (by rw [show (n : Int) - 2 - 1 = ((n - 1 : Nat) : Int) - 2 by omega]; exact hm)
          rw [d, d2, decide_eq_true (show 1 ≤ n by omega)]
          rfl
  rw [← hk N (Nat.le_refl _)]
  congr 1
  exact (List.filter_eq_self.2 fun c hc => by have := hhi c hc; simpa using this).symm
end Go.Proofs.YtekeedjhaakbhaaDoor
