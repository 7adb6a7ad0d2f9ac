/- Contracts of package nat: Div. -/
import Derived.Test.YtbakgmkkebnhkaaDoorMulN
import Derived.Test.YtbakgmkkebnhkaaDoorDivA
namespace Go.Proofs.YtbakgmkkebnhkaaDoor
open Go.RowKit
theorem RowI.below {w wr w3 : World} {f : Nat → Nat} (h : RowI w wr f) (hb : Below wr.heap.size wr w3) : RowI w w3 f := by
  have hl := h.l
  refine ⟨fun j hj => ⟨?_, ?_⟩, fun j hj => ⟨?_, ?_⟩, below_trans h.b hb, Nat.lt_of_lt_of_le hl hb.size⟩
  · rw [hb.cell (p := ⟨w.heap.size, j, none⟩) (by show w.heap.size < wr.heap.size; omega)]; exact (h.a j hj).1
  · rw [hb.frozen (p := ⟨w.heap.size, j, none⟩) (by show w.heap.size < wr.heap.size; omega)]; exact (h.a j hj).2
  · rw [hb.cell (p := ⟨w.heap.size + 1, j, none⟩) hl]; exact (h.r j hj).1
  · rw [hb.frozen (p := ⟨w.heap.size + 1, j, none⟩) hl]; exact (h.r j hj).2
theorem RowI.congr {w wr : World} {f g : Nat → Nat} (h : RowI w wr f) (hg : ∀ j, j < 4 → g j = f j) : RowI w wr g := ⟨fun j hj => by rw [hg j hj]; exact h.a j hj, h.r, h.b, h.l⟩
theorem div_limb (A d i : Nat) (hd : 0 < d) (_hd2 : d < 18446744073709551616) : (A / 2 ^ (64 * (i + 1)) % d * 18446744073709551616 + lm A i) / d = lm (A / d) i ∧ (A / 2 ^ (64 * (i + 1)) % d * 18446744073709551616 + lm A i) % d = A / 2 ^ (64 * i) % d := by
  have e1 : A / 2 ^ (64 * i) = A / 2 ^ (64 * (i + 1)) * 18446744073709551616 + lm A i := by
    unfold lm
    rw [show 64 * (i + 1) = 64 * i + 64 from by omega, Nat.pow_add, ← Nat.div_div_eq_div_mul, show (2 : Nat) ^ 64 = 18446744073709551616 from by decide]
    exact (Nat.div_add_mod' _ _).symm
  have hx := lm_lt A i
  obtain ⟨U, hU⟩ : ∃ U, U = A / 2 ^ (64 * (i + 1)) := ⟨_, rfl⟩
  rw [← hU] at e1 ⊢
  have hm := Nat.div_add_mod U d
  have hr : U % d < d := Nat.mod_lt _ hd
  obtain ⟨x, hx2⟩ : ∃ x, x = lm A i := ⟨_, rfl⟩
  rw [← hx2] at e1 hx ⊢
  have e2 : U * 18446744073709551616 + x = (U % d * 18446744073709551616 + x) + d * (U / d * 18446744073709551616) := by
    conv => lhs; rw [← hm]
    rw [Nat.add_mul, Nat.mul_assoc]
    omega
  have hq : (U % d * 18446744073709551616 + x) / d < 18446744073709551616 := by
    rw [Nat.div_lt_iff_lt_mul hd, Nat.mul_comm]
    have : (U % d + 1) * 18446744073709551616 ≤ d * 18446744073709551616 := Nat.mul_le_mul_right _ hr
    omega
  constructor
  · show _ = A / d / 2 ^ (64 * i) % 2 ^ 64
    rw [Nat.div_div_eq_div_mul, Nat.mul_comm d, ← Nat.div_div_eq_div_mul, e1, e2, Nat.add_mul_div_left _ _ hd, show (2 : Nat) ^ 64 = 18446744073709551616 from by decide, Nat.add_mul_mod_self_right, Nat.mod_eq_of_lt hq]
  · rw [e1, e2, Nat.add_mul_mod_self_left]
set_option maxRecDepth 20000 in
set_option maxHeartbeats 400000 in
theorem DivN_zero (A : Nat) (w : World) :
    Calls Tryd.prog 66 #[.agg #[.int .u64 (lm (A) 0 : Nat), .int .u64 (lm (A) 1 : Nat), .int .u64 (lm (A) 2 : Nat), .int .u64 (lm (A) 3 : Nat)], .int .u64 0] w fun e w' => e = .returned (.tuple #[.agg #[.int .u64 0, .int .u64 0, .int .u64 0, .int .u64 0], .int .u64 0, .bool false]) ∧ Below w.heap.size w w' := by
  go_enter Tryd.func66, Tryd.ntmps66
  repeat any_goals (first | go_skip | go_guarded | go_step | go_upon | (simp only []; done))
  refine bodyPost_ret (v := .tuple #[.agg #[.int .u64 0, .int .u64 0, .int .u64 0, .int .u64 0], .int .u64 0, .bool false]) ?_ rfl ⟨rfl, by (repeat first | with_reducible exact Below.refl _ _ | with_reducible assumption | with_reducible refine Below.drew ?_ | with_reducible refine below_alloc ?_ _ | ((with_reducible refine Below.setCell ?_ ?_ _); rotate_left; (focus (first | with_reducible exact Nat.le_refl _ | (simp; done) | (simp; omega) | omega))) | (with_reducible refine below_trans ?_ (by assumption)))⟩
  simp [results, Tryd.results66, go_sem]
set_option maxRecDepth 20000 in
set_option maxHeartbeats 1600000 in
/-- **Div.** -/
theorem DivN_any (A d : Nat) (hA : A < 2 ^ 256) (hd0 : 0 < d) (hd : d < 18446744073709551616) (w : World) :
    Calls Tryd.prog 66 #[.agg #[.int .u64 (lm (A) 0 : Nat), .int .u64 (lm (A) 1 : Nat), .int .u64 (lm (A) 2 : Nat), .int .u64 (lm (A) 3 : Nat)], .int .u64 (d : Int)] w fun e w' => e = .returned (.tuple #[.agg #[.int .u64 (lm (A / d) 0 : Nat), .int .u64 (lm (A / d) 1 : Nat), .int .u64 (lm (A / d) 2 : Nat), .int .u64 (lm (A / d) 3 : Nat)], .int .u64 (A % d : Nat), .bool true]) ∧ Below w.heap.size w w' := by
  have HK := Lib.hid (And.intro hA (And.intro hd0 hd))
  have hne : ((d : Int) == 0) = false := by simp; omega
  clear hA hd hd0
  go_enter Tryd.func66, Tryd.ntmps66
  repeat any_goals (first | go_skip | go_guarded | go_step | go_upon | (simp only []; done))
  go_loopw [7, 8] (fun c i wr => ∃ m : Nat, m ≤ 4 ∧ i = .int .i64 ((m : Int) - 1) ∧ c = .int .u64 (A / 2 ^ (64 * m) % d : Nat) ∧ RowI w wr (fun j => if j < m then lm A j else lm (A / d) j)) (fun _ i _ => (intOf i + 1).toNat)
  case atStart =>
    refine ⟨4, by omega, rfl, ?_, ?_⟩
    · rw [Nat.div_eq_of_lt HK.out.1, Nat.zero_mod]
      rfl
    · refine RowI.congr rowI_new ?_
      intro j hj
      rw [if_pos hj]
  case round =>
    obtain ⟨m, hm, rfl, rfl, I⟩ := hrel
    have IH := Lib.hid I
    clear I
    by_cases c0 : m = 0
    · subst c0
      have IZ := IH.out.congr (g := lm (A / d)) (fun j _ => by rw [if_neg (by omega)])
      obtain ⟨a0, f0⟩ := IZ.a 0 (by omega)
      obtain ⟨a1, f1⟩ := IZ.a 1 (by omega)
      obtain ⟨a2, f2⟩ := IZ.a 2 (by omega)
      obtain ⟨a3, f3⟩ := IZ.a 3 (by omega)
      obtain ⟨b0, g0⟩ := IZ.r 0 (by omega)
      obtain ⟨b1, g1⟩ := IZ.r 1 (by omega)
      obtain ⟨b2, g2⟩ := IZ.r 2 (by omega)
      obtain ⟨b3, g3⟩ := IZ.r 3 (by omega)
      have hW := IZ.b
      rw [show 64 * 0 = 0 from rfl, Nat.pow_zero, Nat.div_one]
      clear IZ
      repeat any_goals (first | go_skip | go_guarded | go_step | go_upon | (simp only []; done))
      refine bodyPost_ret (v := .tuple #[.agg #[.int .u64 (lm (A / d) 0 : Nat), .int .u64 (lm (A / d) 1 : Nat), .int .u64 (lm (A / d) 2 : Nat), .int .u64 (lm (A / d) 3 : Nat)], .int .u64 (A % d : Nat), .bool true]) ?_ rfl ⟨rfl, (((hW.setCell (by show w.heap.size ≤ w.heap.size + 1; omega) _).setCell (by show w.heap.size ≤ w.heap.size + 1; omega) _).setCell (by show w.heap.size ≤ w.heap.size + 1; omega) _).setCell (by show w.heap.size ≤ w.heap.size + 1; omega) _⟩
      simp [results, Tryd.results66, go_sem, b0, b1, b2, b3]
    · obtain ⟨i, rfl⟩ : ∃ i, m = i + 1 := ⟨m - 1, by omega⟩
      have i4 : i < 4 := by omega
      rw [show ((i + 1 : Nat) : Int) - 1 = (i : Int) from by omega]
      obtain ⟨ca, fa⟩ := IH.out.a i i4
      rw [if_pos (by omega)] at ca
      obtain ⟨x, hx⟩ : ∃ x, x = lm A i := ⟨_, rfl⟩
      obtain ⟨c, hc⟩ : ∃ x, x = A / 2 ^ (64 * (i + 1)) % d := ⟨_, rfl⟩
      obtain ⟨s, hs⟩ : ∃ s, s = lm (A / d) i := ⟨_, rfl⟩
      obtain ⟨c2, hc2⟩ : ∃ x, x = A / 2 ^ (64 * i) % d := ⟨_, rfl⟩
      obtain ⟨l1, l2⟩ := div_limb A d i HK.out.2.1 HK.out.2.2
      rw [← hx, ← hc, ← hs] at l1
      rw [← hx, ← hc, ← hc2] at l2
      have hdv : ∀ w, Calls Tryd.prog 82 #[.int .u64 (c : Int), .int .u64 (x : Int), .int .u64 (d : Int)] w fun e w' => e = .returned (.tuple #[.int .u64 (s : Int), .int .u64 (c2 : Int)]) ∧ Below w.heap.size w w' := by
        intro w
        have h := Div64_any c x d (by rw [hc]; exact Nat.mod_lt _ HK.out.2.1) (by rw [hx]; exact lm_lt _ _) HK.out.2.2 w
        rw [l1, l2] at h
        exact h
      have MH := Lib.hid hdv
      rw [← hx] at ca
      rw [← hc]
      have G := Lib.hid (And.intro hs hc2)
      have i1 : (i : Int) < 4 := by omega
      have i2 : (0 : Int) ≤ (i : Int) := by omega
      have i5 : (i : Int).toNat = i := rfl
      have FS : ∀ w3 : World, Below wr.heap.size wr w3 → w3.cell? ⟨w.heap.size, i, none⟩ = some (.int .u64 (x : Int)) ∧ w3.frozen? ⟨w.heap.size, i, none⟩ = false ∧ RowI w (w3.setCell ⟨w.heap.size, i, none⟩ (.int .u64 (s : Int))) (fun j => if j < i then lm A j else lm (A / d) j) := by
        intro w3 hb3
        have I3 := IH.out.below hb3
        obtain ⟨k1, k2⟩ := I3.a i i4
        rw [if_pos (by omega), ← hx] at k1
        refine ⟨k1, k2, I3.set i4 ?_ ?_⟩
        · show s = if i < i then _ else _
          rw [if_neg (by omega)]
          exact hs
        · intro j _ hj
          show (if j < i then lm A j else lm (A / d) j) = if j < i + 1 then lm A j else lm (A / d) j
          by_cases e : j < i
          · rw [if_pos e, if_pos (by omega)]
          · rw [if_neg e, if_neg (by omega)]
      have FH := Lib.hid FS
      clear FS hdv hx hc hs hc2 l1 l2 c0 hm i4
      repeat any_goals (first | (go_at_call 82; refine (MH.out _).mono ?_; rintro e w3 ⟨rfl, hb3⟩; have k1 := (FH.out _ hb3).1; have k2 := (FH.out _ hb3).2.1) | go_skip | go_guarded | go_step | go_upon | (dsimp only []))
      go_roundw
      case rel => exact ⟨i, by omega, by go_num, by rw [G.out.2], (FH.out _ hb3).2.2⟩
      case measure => simp [intOf]
end Go.Proofs.YtbakgmkkebnhkaaDoor
