/- Contracts of package nat: Mul. -/
import Derived.Test.YtbakgmkkebnhkaaDoorAdd
namespace Go.Proofs.YtbakgmkkebnhkaaDoor
open Go.RowKit
/-- what is carried into limb i of a product -/
def over (A m i : Nat) : Nat := A % 2 ^ (64 * i) * m / 2 ^ (64 * i)
theorem over_le (A m i : Nat) : over A m i ≤ m := by
  unfold over
  apply Nat.le_of_lt_succ
  rw [Nat.div_lt_iff_lt_mul (Nat.two_pow_pos _)]
  have h1 : A % 2 ^ (64 * i) < 2 ^ (64 * i) := Nat.mod_lt _ (Nat.two_pow_pos _)
  have h2 := Nat.mul_le_mul_right m (Nat.le_of_lt h1)
  have h3 := Nat.two_pow_pos (64 * i)
  show A % 2 ^ (64 * i) * m < (m + 1) * 2 ^ (64 * i)
  rw [Nat.add_mul, Nat.one_mul, Nat.mul_comm m]
  generalize 2 ^ (64 * i) = T at *
  omega
theorem mul_limb (A m i : Nat) : (lm A i * m + over A m i) / 2 ^ 64 = over A m (i + 1) ∧ (lm A i * m + over A m i) % 2 ^ 64 = lm (A * m) i := by
  have hp := Nat.two_pow_pos (64 * i)
  have hs : A % 2 ^ (64 * (i + 1)) * m = A % 2 ^ (64 * i) * m + 2 ^ (64 * i) * (lm A i * m) := by
    rw [mod64_succ, Nat.add_mul, Nat.mul_assoc]
  constructor
  · unfold over
    rw [hs, show 64 * (i + 1) = 64 * i + 64 from by omega, Nat.pow_add, ← Nat.div_div_eq_div_mul, Nat.add_mul_div_left _ _ hp, Nat.add_comm (A % 2 ^ (64 * i) * m / 2 ^ (64 * i))]
  · have hab : (A * m) % 2 ^ (64 * (i + 1)) = (A % 2 ^ (64 * (i + 1)) * m) % 2 ^ (64 * (i + 1)) := by rw [Nat.mod_mul_mod]
    have hl : lm (A * m) i = (A * m) % 2 ^ (64 * (i + 1)) / 2 ^ (64 * i) := by
      unfold lm
      rw [show 64 * (i + 1) = 64 * i + 64 from by omega, Nat.pow_add, Nat.mod_mul_right_div_self]
    rw [hl, hab, hs]
    unfold over
    rw [show 64 * (i + 1) = 64 * i + 64 from by omega, Nat.pow_add, Nat.mod_mul_right_div_self, Nat.add_mul_div_left _ _ hp, Nat.add_comm (A % 2 ^ (64 * i) * m / 2 ^ (64 * i))]
/-- the cells in a loop over a number's limbs: block w.heap.size holds limbs f, the next one the result's -/
structure RowI (w wr : World) (f : Nat → Nat) : Prop where
  a : ∀ j, j < 4 → wr.cell? ⟨w.heap.size, j, none⟩ = some (.int .u64 (f j : Nat)) ∧ wr.frozen? ⟨w.heap.size, j, none⟩ = false
  r : ∀ j, j < 4 → wr.cell? ⟨w.heap.size + 1, j, none⟩ = some (.int .u64 0) ∧ wr.frozen? ⟨w.heap.size + 1, j, none⟩ = false
  b : Below w.heap.size w wr
  l : w.heap.size + 1 < wr.heap.size
theorem RowI.set {w wr : World} {f g : Nat → Nat} {m x : Nat} (h : RowI w wr f) (hm : m < 4) (hx : x = g m) (hg : ∀ j, j < 4 → j ≠ m → g j = f j) : RowI w (wr.setCell ⟨w.heap.size, m, none⟩ (.int .u64 (x : Int))) g := by
  obtain ⟨c0, f0⟩ := h.a m hm
  refine ⟨fun j hj => ⟨?_, by rw [World.frozen?_setCell]; exact (h.a j hj).2⟩, fun j hj => ⟨?_, by rw [World.frozen?_setCell]; exact (h.r j hj).2⟩, ?_, by simpa using h.l⟩
  · by_cases c : j = m
    · subst c
      rw [World.cell?_setCell_same _ _ _ c0, hx]
    · rw [set_other (fun h => c (by injection h with _ h2 _; exact h2.symm)), hg j hj c]
      exact (h.a j hj).1
  · rw [set_other (by simp)]; exact (h.r j hj).1
  · exact h.b.setCell (Nat.le_refl _) _
theorem rowI_new {w : World} {A : Nat} {t t2 : TypeId} : RowI w ((w.alloc (.cells #[.int .u64 (lm A 0 : Nat), .int .u64 (lm A 1 : Nat), .int .u64 (lm A 2 : Nat), .int .u64 (lm A 3 : Nat)] t)).alloc (.cells #[.int .u64 0, .int .u64 0, .int .u64 0, .int .u64 0] t2)) (lm A) := by
  refine ⟨?_, ?_, ?_, ?_⟩
  · intro j hj
    match j, hj with
    | 0, _ => simp [go_sem]
    | 1, _ => simp [go_sem]
    | 2, _ => simp [go_sem]
    | 3, _ => simp [go_sem]
  · intro j hj
    match j, hj with
    | 0, _ => simp [go_sem]
    | 1, _ => simp [go_sem]
    | 2, _ => simp [go_sem]
    | 3, _ => simp [go_sem]
  · (repeat first | with_reducible exact Below.refl _ _ | with_reducible assumption | with_reducible refine Below.drew ?_ | with_reducible refine below_alloc ?_ _ | ((with_reducible refine Below.setCell ?_ ?_ _); rotate_left; (focus (first | with_reducible exact Nat.le_refl _ | (simp; done) | (simp; omega) | omega))) | (with_reducible refine below_trans ?_ (by assumption)))
  · simp
set_option maxRecDepth 20000 in
set_option maxHeartbeats 1600000 in
theorem MulN_walk (A k : Nat) (hk : k < 18446744073709551616) (w : World) (ok : Bool) (R : Nat) (F : Hid (∀ w : World, Calls Tryd.prog 80 #[.agg #[.int .u64 (lm (A * k) 0 : Nat), .int .u64 (lm (A * k) 1 : Nat), .int .u64 (lm (A * k) 2 : Nat), .int .u64 (lm (A * k) 3 : Nat)], .int .u64 (over A k 4 : Nat)] w fun e w' => e = .returned (.tuple #[.agg #[.int .u64 (lm (R) 0 : Nat), .int .u64 (lm (R) 1 : Nat), .int .u64 (lm (R) 2 : Nat), .int .u64 (lm (R) 3 : Nat)], .bool ok]) ∧ Below w.heap.size w w')) :
    Calls Tryd.prog 62 #[.agg #[.int .u64 (lm (A) 0 : Nat), .int .u64 (lm (A) 1 : Nat), .int .u64 (lm (A) 2 : Nat), .int .u64 (lm (A) 3 : Nat)], .int .u64 (k : Int)] w fun e w' => e = .returned (.tuple #[.agg #[.int .u64 (lm (R) 0 : Nat), .int .u64 (lm (R) 1 : Nat), .int .u64 (lm (R) 2 : Nat), .int .u64 (lm (R) 3 : Nat)], .bool ok]) ∧ Below w.heap.size w w' := by
  have HK := Lib.hid hk
  clear hk
  go_enter Tryd.func62, Tryd.ntmps62
  repeat any_goals (first | go_skip | go_guarded | go_step | go_upon | (simp only []; done))
  go_loopw [6, 11] (fun c i wr => ∃ m : Nat, m ≤ 4 ∧ i = .int .i64 m ∧ c = .int .u64 (over A k m : Nat) ∧ RowI w wr (fun j => if j < m then lm (A * k) j else lm A j)) (fun _ i _ => 4 - (intOf i).toNat)
  case atStart =>
    refine ⟨0, by omega, rfl, ?_, ?_⟩
    · have h : over A k 0 = 0 := by unfold over; simp [Nat.mod_one]
      rw [h]
      rfl
    · have h : (fun j => if j < 0 then lm (A * k) j else lm A j) = lm A := by funext j; simp
      rw [h]
      exact rowI_new
  case round =>
    obtain ⟨m, hm, rfl, rfl, I⟩ := hrel
    have IH := Lib.hid I
    clear I
    by_cases c0 : m < 4
    · obtain ⟨ca, fa⟩ := IH.out.a m c0
      rw [if_neg (by omega)] at ca
      obtain ⟨x, hx⟩ : ∃ x, x = lm A m := ⟨_, rfl⟩
      obtain ⟨c, hc⟩ : ∃ x, x = over A k m := ⟨_, rfl⟩
      obtain ⟨s, hs⟩ : ∃ s, s = lm (A * k) m := ⟨_, rfl⟩
      obtain ⟨c2, hc2⟩ : ∃ x, x = over A k (m + 1) := ⟨_, rfl⟩
      obtain ⟨hh, hhh⟩ : ∃ z, z = lm A m * k / 18446744073709551616 := ⟨_, rfl⟩
      obtain ⟨lo, hlo⟩ : ∃ z, z = lm A m * k % 18446744073709551616 := ⟨_, rfl⟩
      obtain ⟨a1, a2⟩ := mul_limb A k m
      have hxl : x < 18446744073709551616 := hx ▸ lm_lt _ _
      have hcl := over_le A k m
      have hcl2 := over_le A k (m + 1)
      rw [show (2 : Nat) ^ 64 = 18446744073709551616 from by decide] at a1 a2
      obtain ⟨cy, hcy⟩ : ∃ z, z = (lo + c) / 18446744073709551616 := ⟨_, rfl⟩
      have hadd : ∀ w, (callFunc 79 #[.int .u64 (lo : Int), .int .u64 (c : Int), .int .u64 0]).run Tryd.prog w = .ok (.value (.tuple #[.int .u64 (s : Int), .int .u64 (cy : Int)])) w := by
        intro w
        have h := Tryd.bits_Add64 lo c 0 (by decide) w
        have e1 : (lo + c + 0) % 18446744073709551616 = s := by
          rw [hs, ← a2, hlo, hc]
          omega
        rw [e1, Nat.add_zero, ← hcy] at h
        exact h
      have hsum : hh + cy = c2 := by
        rw [hc2, ← a1, hhh, hcy, hlo, hc]
        omega
      have hw : IntKind.u64.wrap ((hh : Int) + (cy : Int)) = (c2 : Int) := by
        rw [IntKind.wrap_u64, show (hh : Int) + (cy : Int) = (c2 : Int) from by omega]
        have := HK.out
        omega
      have hmul : ∀ w, Calls Tryd.prog 78 #[.int .u64 (x : Int), .int .u64 (k : Int)] w fun e w' => e = .returned (.tuple #[.int .u64 (hh : Int), .int .u64 (lo : Int)]) ∧ w = w' := by
        intro w
        refine (Tryd.bits_Mul64 x k hxl HK.out w).mono ?_
        rintro e w' ⟨rfl, rfl⟩
        rw [hx, ← hhh, ← hlo]
        exact ⟨rfl, rfl⟩
      have MH := Lib.hid hmul
      rw [← hx] at ca
      rw [← hc]
      have G := Lib.hid (And.intro hs hc2)
      have FS : RowI w (wr.setCell ⟨w.heap.size, m, none⟩ (.int .u64 (s : Int))) (fun j => if j < m + 1 then lm (A * k) j else lm A j) := by
        refine IH.out.set c0 ?_ ?_
        · show s = if m < m + 1 then _ else _
          rw [if_pos (by omega)]
          exact hs
        · intro j _ hj
          show (if j < m + 1 then lm (A * k) j else lm A j) = if j < m then lm (A * k) j else lm A j
          by_cases d : j < m
          · rw [if_pos d, if_pos (by omega)]
          · rw [if_neg d, if_neg (by omega)]
      have FH := Lib.hid FS
      clear FS hmul hx hc hs hc2 hhh hlo a1 a2 hcl hcl2 hcy hsum hxl
      repeat any_goals (first | (go_at_call 78; refine (MH.out _).mono ?_; rintro e w' ⟨rfl, rfl⟩) | go_skip | go_guarded | go_step | go_upon | (dsimp only []))
      go_roundw
      case rel => exact ⟨m + 1, by omega, by go_num, by rw [G.out.2], FH.out⟩
      case measure => simp [intOf]; omega
    · have hm4 : m = 4 := by omega
      subst hm4
      obtain ⟨a0, f0⟩ := IH.out.a 0 (by omega)
      obtain ⟨a1, f1⟩ := IH.out.a 1 (by omega)
      obtain ⟨a2, f2⟩ := IH.out.a 2 (by omega)
      obtain ⟨a3, f3⟩ := IH.out.a 3 (by omega)
      rw [if_pos (by omega)] at a0 a1 a2 a3
      obtain ⟨b0, g0⟩ := IH.out.r 0 (by omega)
      obtain ⟨b1, g1⟩ := IH.out.r 1 (by omega)
      obtain ⟨b2, g2⟩ := IH.out.r 2 (by omega)
      obtain ⟨b3, g3⟩ := IH.out.r 3 (by omega)
      have hl := IH.out.l
      have hbb := IH.out.b
      repeat any_goals (first | (go_at_call 80; refine (F.out _).mono ?_; rintro e w3 ⟨rfl, hb3⟩; have d0 := hb3.cell (p := ⟨w.heap.size + 1, 0, none⟩) hl; rw [b0] at d0; have d1 := hb3.cell (p := ⟨w.heap.size + 1, 1, none⟩) hl; rw [b1] at d1; have d2 := hb3.cell (p := ⟨w.heap.size + 1, 2, none⟩) hl; rw [b2] at d2; have d3 := hb3.cell (p := ⟨w.heap.size + 1, 3, none⟩) hl; rw [b3] at d3; have e0 := hb3.frozen (p := ⟨w.heap.size + 1, 0, none⟩) hl; rw [g0] at e0; have e1 := hb3.frozen (p := ⟨w.heap.size + 1, 1, none⟩) hl; rw [g1] at e1; have e2 := hb3.frozen (p := ⟨w.heap.size + 1, 2, none⟩) hl; rw [g2] at e2; have e3 := hb3.frozen (p := ⟨w.heap.size + 1, 3, none⟩) hl; rw [g3] at e3) | go_skip | go_guarded | go_step | go_upon | (dsimp only []))
      have hW := below_trans hbb hb3
      refine bodyPost_ret (v := .tuple #[.agg #[.int .u64 (lm (R) 0 : Nat), .int .u64 (lm (R) 1 : Nat), .int .u64 (lm (R) 2 : Nat), .int .u64 (lm (R) 3 : Nat)], .bool ok]) ?_ rfl ⟨rfl, (((hW.setCell (by show w.heap.size ≤ w.heap.size + 1; omega) _).setCell (by show w.heap.size ≤ w.heap.size + 1; omega) _).setCell (by show w.heap.size ≤ w.heap.size + 1; omega) _).setCell (by show w.heap.size ≤ w.heap.size + 1; omega) _⟩
      simp [results, Tryd.results62, go_sem, d0, d1, d2, d3]
/-- **Mul.** -/
theorem MulN_any (A k : Nat) (hA : A < 2 ^ 256) (hk : k < 18446744073709551616) (w : World) :
    Calls Tryd.prog 62 #[.agg #[.int .u64 (lm (A) 0 : Nat), .int .u64 (lm (A) 1 : Nat), .int .u64 (lm (A) 2 : Nat), .int .u64 (lm (A) 3 : Nat)], .int .u64 (k : Int)] w fun e w' => e = .returned (.tuple #[.agg #[.int .u64 (lm (if A * k < 2 ^ 256 then A * k else 0) 0 : Nat), .int .u64 (lm (if A * k < 2 ^ 256 then A * k else 0) 1 : Nat), .int .u64 (lm (if A * k < 2 ^ 256 then A * k else 0) 2 : Nat), .int .u64 (lm (if A * k < 2 ^ 256 then A * k else 0) 3 : Nat)], .bool (decide (A * k < 2 ^ 256))]) ∧ Below w.heap.size w w' := by
  have hc : over A k 4 = A * k / 2 ^ 256 := by
    unfold over
    rw [Nat.mod_eq_of_lt hA]
  by_cases c : A * k < 2 ^ 256
  · rw [if_pos c, decide_eq_true c]
    have h0 : over A k 4 = 0 := by rw [hc, Nat.div_eq_of_lt c]
    refine MulN_walk A k hk w true (A * k) (Lib.hid fun w => ?_)
    rw [h0]
    exact fits_yes (A * k) w
  · rw [if_neg c, decide_eq_false c]
    have h1 : over A k 4 ≠ 0 := by
      rw [hc]
      intro h
      rcases Nat.div_eq_zero_iff.1 h with h | h
      · exact absurd h (by decide)
      · exact c h
    refine MulN_walk A k hk w false 0 (Lib.hid fun w => ?_)
    rw [lm_zero, lm_zero, lm_zero, lm_zero]
    exact fits_no (A * k) _ (by simp; omega) w
end Go.Proofs.YtbakgmkkebnhkaaDoor
