/- Contracts of the document's digits: Nat. -/
import Derived.Test.YtbakgmkkebnhkaaDoorDn
namespace Go.Proofs.YtbakgmkkebnhkaaDoor
open Go.RowKit
theorem lm_digs (X j : Nat) : lm X j = dig X (2 * j) + 4294967296 * dig X (2 * j + 1) := by
  rw [← dig_lo, ← dig_hi]
  omega
theorem dig_mod (V m i : Nat) : dig (V % 2 ^ (32 * m)) i = if i < m then dig V i else 0 := by
  by_cases c : i < m
  · rw [if_pos c]
    have h := dig_of_split (L := V % 2 ^ (32 * m)) (d := dig V m) (H := V / 2 ^ (32 * (m + 1))) (j := m) rfl (Nat.mod_lt _ (Nat.two_pow_pos _)) (dig_lt V m) i
    rw [← dig_split, if_pos c] at h
    exact h.symm
  · rw [if_neg c]
    exact dig_zero (Nat.mod_lt _ (Nat.two_pow_pos _)) (by omega)
/-- a limb, one more digit known -/
theorem lm_digit (V k j : Nat) : lm (V % 2 ^ (32 * (k + 1))) j = if j = k / 2 then lm (V % 2 ^ (32 * k)) j + dig V k * 2 ^ (32 * (k % 2)) else lm (V % 2 ^ (32 * k)) j := by
  rw [lm_digs, lm_digs, dig_mod, dig_mod, dig_mod, dig_mod]
  by_cases c : j = k / 2
  · rw [if_pos c]
    rcases (show k % 2 = 0 ∨ k % 2 = 1 by omega) with h | h
    · have e : 2 * j = k := by omega
      rw [h, if_pos (by omega), if_neg (by omega), if_neg (by omega), if_neg (by omega), e]
      simp
    · have e : 2 * j + 1 = k := by omega
      rw [h, if_pos (by omega), if_pos (by omega), if_pos (by omega), if_neg (by omega), e]
      simp
      omega
  · rw [if_neg c]
    by_cases d : j < k / 2
    · rw [if_pos (by omega), if_pos (by omega), if_pos (by omega), if_pos (by omega)]
    · rw [if_neg (by omega), if_neg (by omega), if_neg (by omega), if_neg (by omega)]
theorem or_digit {x d r m : Nat} (hr : r ≤ 1) (hm : m = 32 * r) (hd : d < 4294967296) (hx : r = 0 → x = 0) (hx1 : x < 4294967296) : d * 2 ^ m < 18446744073709551616 ∧ x ||| (d * 2 ^ m) = x + d * 2 ^ m ∧ x + d * 2 ^ m < 18446744073709551616 := by
  rcases (show r = 0 ∨ r = 1 by omega) with h | h
  · rw [hx h]
    subst hm h
    simp
    omega
  · subst hm h
    have h1 : d * 2 ^ (32 * 1) < 18446744073709551616 := by simp; omega
    refine ⟨h1, ?_, by simp; omega⟩
    rw [Nat.or_comm, show d * 2 ^ (32 * 1) = 2 ^ 32 * d from by rw [Nat.mul_comm], ← Nat.two_pow_add_eq_or_of_lt hx1, Nat.add_comm]
theorem lm_part {V k : Nat} : (k % 2 = 0 → lm (V % 2 ^ (32 * k)) (k / 2) = 0) ∧ lm (V % 2 ^ (32 * k)) (k / 2) < 4294967296 := by
  rw [lm_digs, dig_mod, dig_mod, if_neg (show ¬ 2 * (k / 2) + 1 < k by omega)]
  constructor
  · intro h
    rw [if_neg (by omega)]
  · have := dig_lt V (2 * (k / 2))
    split <;> omega
/-- the cells behind one more digit -/
theorem nat_cells {w wr : World} {V k q z : Nat} (hq : q = k / 2) (hz : z = lm (V % 2 ^ (32 * (k + 1))) q)
    (h : ∀ j, j < 4 → wr.cell? ⟨w.heap.size + 1, j, none⟩ = some (.int .u64 (lm (V % 2 ^ (32 * k)) j : Nat)) ∧ wr.frozen? ⟨w.heap.size + 1, j, none⟩ = false ∧ wr.cell? ⟨w.heap.size, j, none⟩ = some (.int .u64 0) ∧ wr.frozen? ⟨w.heap.size, j, none⟩ = false) :
    ∀ j, j < 4 → (wr.drew.setCell ⟨w.heap.size + 1, q, none⟩ (.int .u64 (z : Int))).cell? ⟨w.heap.size + 1, j, none⟩ = some (.int .u64 (lm (V % 2 ^ (32 * (k + 1))) j : Nat)) ∧ (wr.drew.setCell ⟨w.heap.size + 1, q, none⟩ (.int .u64 (z : Int))).frozen? ⟨w.heap.size + 1, j, none⟩ = false ∧ (wr.drew.setCell ⟨w.heap.size + 1, q, none⟩ (.int .u64 (z : Int))).cell? ⟨w.heap.size, j, none⟩ = some (.int .u64 0) ∧ (wr.drew.setCell ⟨w.heap.size + 1, q, none⟩ (.int .u64 (z : Int))).frozen? ⟨w.heap.size, j, none⟩ = false := by
  intro j hj
  obtain ⟨h1, h2, h3, h4⟩ := h j hj
  refine ⟨?_, by rw [World.frozen?_setCell]; exact h2, ?_, by rw [World.frozen?_setCell]; exact h4⟩
  · by_cases c : j = q
    · subst c
      have h5 : wr.drew.cell? ⟨w.heap.size + 1, j, none⟩ = some (.int .u64 (lm (V % 2 ^ (32 * k)) j : Nat)) := h1
      rw [World.cell?_setCell_same _ _ _ h5, hz]
    · have hne : (⟨w.heap.size + 1, q, none⟩ : Addr) ≠ ⟨w.heap.size + 1, j, none⟩ := fun h => c (by injection h with _ h2 _; exact h2.symm)
      rw [World.cell?_setCell_other _ _ _ _ hne, lm_digit, if_neg (by omega)]
      exact h1
  · have hne : (⟨w.heap.size + 1, q, none⟩ : Addr) ≠ ⟨w.heap.size, j, none⟩ := by
      intro h
      simp at h
    rw [World.cell?_setCell_other _ _ _ _ hne]
    exact h3
set_option maxRecDepth 20000 in
set_option maxHeartbeats 1600000 in
theorem DNat_walk (v0 : Value) (n0 n V : Nat) (w : World) (h0 : DN w v0 n0 V) (hn : n = dl V) (h8 : n ≤ 8) :
    Calls Tryd.prog 65 #[v0] w fun e w' => e = .returned (.tuple #[.agg #[.int .u64 (lm (V) 0 : Nat), .int .u64 (lm (V) 1 : Nat), .int .u64 (lm (V) 2 : Nat), .int .u64 (lm (V) 3 : Nat)], .bool true]) ∧ Below w.heap.size w w' := by
  have H0 := Lib.hid h0
  have HN := Lib.hid hn
  clear h0 hn
  go_enter Tryd.func65, Tryd.ntmps65
  repeat any_goals (first | (go_at_call 69; refine (trim_all v0 n0 V _ ((H0.out.alloc _).alloc _)).mono ?_; rintro e w' ⟨⟨v, rfl, hv⟩, rfl⟩; have hv2 := hv w H0.out; clear hv; obtain ⟨hlt, _, eo, cap, rfl, hcap, _, hcell⟩ := hv2; rw [← HN.out] at hlt hcap hcell ⊢; have HC := Lib.hid (And.intro hlt hcell); clear hlt hcell) | go_skip | go_guarded | go_step | go_upon | (dsimp only []))
  go_loopw [6] (fun i wr => ∃ k : Nat, k ≤ n ∧ i = .int .i64 k ∧ (∀ j, j < 4 → wr.cell? ⟨w.heap.size + 1, j, none⟩ = some (.int .u64 (lm (V % 2 ^ (32 * k)) j : Nat)) ∧ wr.frozen? ⟨w.heap.size + 1, j, none⟩ = false ∧ wr.cell? ⟨w.heap.size, j, none⟩ = some (.int .u64 0) ∧ wr.frozen? ⟨w.heap.size, j, none⟩ = false) ∧ Below w.heap.size w wr)
    (fun i _ => n - (intOf i).toNat)
  case atStart =>
    refine ⟨0, by omega, rfl, ?_, by (repeat first | with_reducible exact Below.refl _ _ | with_reducible assumption | with_reducible refine Below.drew ?_ | with_reducible refine below_alloc ?_ _ | ((with_reducible refine Below.setCell ?_ ?_ _); rotate_left; (focus (first | with_reducible exact Nat.le_refl _ | (simp; done) | (simp; omega) | omega))) | (with_reducible refine below_trans ?_ (by assumption)))⟩
    intro j hj
    rw [Nat.mul_zero, Nat.pow_zero, Nat.mod_one, lm_zero]
    match j, hj with
    | 0, _ => simp [go_sem]
    | 1, _ => simp [go_sem]
    | 2, _ => simp [go_sem]
    | 3, _ => simp [go_sem]
  case round =>
    obtain ⟨k, hk, rfl, hcells, hbel⟩ := hrel
    by_cases hkn : k < n
    · obtain ⟨b, rfl, hbw, hce⟩ := HC.out.2 (by omega)
      obtain ⟨q, hq⟩ : ∃ q, q = k / 2 := ⟨_, rfl⟩
      obtain ⟨r, hr⟩ : ∃ r, r = k % 2 := ⟨_, rfl⟩
      have eq : (k : Int) / 2 = (q : Int) := by omega
      have er : (k : Int) % 2 = (r : Int) := by omega
      have hq4 : q < 4 := by omega
      have hr2 : r ≤ 1 := by omega
      obtain ⟨c1, c2, c3, c4⟩ := hcells q hq4
      have hcd := (hbel.cell (p := ⟨b, k, none⟩) hbw).trans (hce k hkn)
      obtain ⟨x, hx⟩ : ∃ z, z = lm (V % 2 ^ (32 * k)) q := ⟨_, rfl⟩
      obtain ⟨d, hd⟩ : ∃ z, z = dig V k := ⟨_, rfl⟩
      rw [← hx] at c1
      rw [← hd] at hcd
      have hx4 : x < 18446744073709551616 := hx ▸ lm_lt _ _
      have hd4 : d < 4294967296 := hd ▸ dig_lt _ _
      have G := Lib.hid (And.intro hcells (And.intro hbel (And.intro hx (And.intro hd (And.intro hq hr)))))
      clear hcells hbel hx hd hce hq hr c3 c4
      have w1 : IntKind.i64.wrap (q : Int) = (q : Int) := by rw [IntKind.wrap_i64]; omega
      have w2 : IntKind.i64.wrap (r : Int) = (r : Int) := by rw [IntKind.wrap_i64]; omega
      obtain ⟨m, hm⟩ : ∃ m, m = 32 * r := ⟨_, rfl⟩
      have w3 : IntKind.i64.wrap (32 * (r : Int)) = (m : Int) := by rw [IntKind.wrap_i64]; omega
      have w4 : IntKind.u64.wrap (m : Int) = (m : Int) := by rw [IntKind.wrap_u64]; omega
      have w5 : IntKind.u64.wrap (d : Int) = (d : Int) := by rw [IntKind.wrap_u64]; omega
      have w0 : IntKind.i64.wrap (k : Int) = (k : Int) := by rw [IntKind.wrap_i64]; omega
      have i1 : (q : Int) < 4 := by omega
      have i2 : (0 : Int) ≤ (q : Int) := by omega
      have i3 : (k : Int) < (n : Int) := by omega
      have i4 : (0 : Int) ≤ (k : Int) := by omega
      have i5 : (q : Int).toNat = q := rfl
      have i6 : (k : Int).toNat = k := rfl
      have hxx : (r = 0 → x = 0) ∧ x < 4294967296 := by
        have hh := @lm_part V k
        rw [G.out.2.2.1, G.out.2.2.2.2.1, G.out.2.2.2.2.2]
        exact hh
      obtain ⟨g1, g2, g3⟩ := or_digit hr2 hm hd4 hxx.1 hxx.2
      obtain ⟨t, ht⟩ : ∃ t, t = d * 2 ^ m := ⟨_, rfl⟩
      obtain ⟨z, hz⟩ : ∃ z, z = x + t := ⟨_, rfl⟩
      have e1 : (k : Int).tmod 2 = (r : Int) := by rw [Int.tmod_eq_emod_of_nonneg (by omega)]; exact er
      have e2 : min m 64 = m := by omega
      have e3 : IntKind.u64.wrap ((d : Int) * 2 ^ m) = (t : Int) := by
        rw [show ((d : Int) * 2 ^ m) = ((d * 2 ^ m : Nat) : Int) from by simp, ← ht]
        exact wrap64u (by rw [ht]; exact g1)
      have e4 : bits BinOp.or IntKind.u64 (x : Int) (t : Int) = (z : Int) := by
        rw [u64_or_nat x t hx4 (by rw [ht]; exact g1), ht, g2, hz, ht]
      have hzl : z = lm (V % 2 ^ (32 * (k + 1))) q := by
        rw [lm_digit, if_pos G.out.2.2.2.2.1, ← G.out.2.2.1, ← G.out.2.2.2.1, ← G.out.2.2.2.2.2, hz, ht, hm]
      have GZ := Lib.hid (nat_cells G.out.2.2.2.2.1 hzl G.out.1)
      clear hm g1 g2 g3 ht hz hzl hxx
      repeat any_goals (first | go_skip | go_guarded | go_step | go_upon | (simp only []; done))
      (refine still_tail 17 (by kernel_rfl) (by kernel_rfl) ?_; simp only [List.take_succ_cons, List.take_zero, List.drop_succ_cons, List.drop_zero]; (repeat still_step); refine wpStill_nil ?_)
      repeat any_goals (first | go_skip | go_guarded | go_step | go_upon | (simp only []; done))
      go_roundw
      case rel => exact ⟨k + 1, by omega, by go_num, GZ.out, (G.out.2.1.drew).setCell (by show w.heap.size ≤ w.heap.size + 1; omega) _⟩
      case measure => simp [intOf]; omega
    · have hkn2 : k = n := by omega
      subst hkn2
      have he : V % 2 ^ (32 * k) = V := Nat.mod_eq_of_lt HC.out.1
      rw [he] at hcells
      obtain ⟨a0, f0, b0, g0⟩ := hcells 0 (by omega)
      obtain ⟨a1, f1, b1, g1⟩ := hcells 1 (by omega)
      obtain ⟨a2, f2, b2, g2⟩ := hcells 2 (by omega)
      obtain ⟨a3, f3, b3, g3⟩ := hcells 3 (by omega)
      clear hcells he
      repeat any_goals (first | go_skip | go_guarded | go_step | go_upon | (simp only []; done))
      refine bodyPost_ret (v := .tuple #[.agg #[.int .u64 (lm (V) 0 : Nat), .int .u64 (lm (V) 1 : Nat), .int .u64 (lm (V) 2 : Nat), .int .u64 (lm (V) 3 : Nat)], .bool true]) ?_ rfl ⟨rfl, (((hbel.setCell (Nat.le_refl _) _).setCell (Nat.le_refl _) _).setCell (Nat.le_refl _) _).setCell (Nat.le_refl _) _⟩
      simp [results, Tryd.results65, go_sem, b0, b1, b2, b3]
set_option maxRecDepth 20000 in
set_option maxHeartbeats 1600000 in
theorem DNat_no (v0 : Value) (n0 n V : Nat) (w : World) (h0 : DN w v0 n0 V) (hn : n = dl V) (h8 : 8 < n) :
    Calls Tryd.prog 65 #[v0] w fun e w' => e = .returned (.tuple #[.agg #[.int .u64 0, .int .u64 0, .int .u64 0, .int .u64 0], .bool false]) ∧ Below w.heap.size w w' := by
  have H0 := Lib.hid h0
  have HN := Lib.hid hn
  clear h0 hn
  go_enter Tryd.func65, Tryd.ntmps65
  repeat any_goals (first | (go_at_call 69; refine (trim_all v0 n0 V _ ((H0.out.alloc _).alloc _)).mono ?_; rintro e w' ⟨⟨v, rfl, hv⟩, rfl⟩; have hv2 := hv w H0.out; clear hv; obtain ⟨hlt, _, eo, cap, rfl, hcap, _, hcell⟩ := hv2; rw [← HN.out] at hlt hcap hcell ⊢; clear hlt hcell) | go_skip | go_guarded | go_step | go_upon | (dsimp only []))
  refine bodyPost_ret (v := .tuple #[.agg #[.int .u64 0, .int .u64 0, .int .u64 0, .int .u64 0], .bool false]) ?_ rfl ⟨rfl, by (repeat first | with_reducible exact Below.refl _ _ | with_reducible assumption | with_reducible refine Below.drew ?_ | with_reducible refine below_alloc ?_ _ | ((with_reducible refine Below.setCell ?_ ?_ _); rotate_left; (focus (first | with_reducible exact Nat.le_refl _ | (simp; done) | (simp; omega) | omega))) | (with_reducible refine below_trans ?_ (by assumption)))⟩
  simp [results, Tryd.results65, go_sem]
/-- **Nat.** -/
theorem DNat_any (v : Value) (n V : Nat) (w : World) (h : DN w v n V) :
    Calls Tryd.prog 65 #[v] w fun e w' => e = .returned (.tuple #[.agg #[.int .u64 (lm (if V < 2 ^ 256 then V else 0) 0 : Nat), .int .u64 (lm (if V < 2 ^ 256 then V else 0) 1 : Nat), .int .u64 (lm (if V < 2 ^ 256 then V else 0) 2 : Nat), .int .u64 (lm (if V < 2 ^ 256 then V else 0) 3 : Nat)], .bool (decide (V < 2 ^ 256))]) ∧ Below w.heap.size w w' := by
  have hd := dl_le_iff V 8
  by_cases c : V < 2 ^ 256
  · rw [if_pos c, decide_eq_true c]
    exact DNat_walk v n (dl V) V w h rfl (hd.2 c)
  · rw [if_neg c, decide_eq_false c, lm_zero, lm_zero, lm_zero, lm_zero]
    exact DNat_no v n (dl V) V w h rfl (by
      have : ¬ dl V ≤ 8 := fun h => c (hd.1 h)
      omega)
end Go.Proofs.YtbakgmkkebnhkaaDoor
