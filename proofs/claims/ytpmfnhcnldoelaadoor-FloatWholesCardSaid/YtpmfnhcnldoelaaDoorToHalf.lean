/- Contract of package float: ToHalf. -/
import Derived.Test.YtpmfnhcnldoelaaDoorToSingle
namespace Go.Proofs.YtpmfnhcnldoelaaDoor
open Go.RowKit
theorem Len64_fl (x : Nat) (hx : x < 18446744073709551616) (w : World) :
    Calls Tryd.prog 45 #[.int .u64 (x : Int)] w fun e w' => e = .returned (.int .i64 (bl x : Nat)) ∧ w = w' := Len64_any x hx w
set_option maxHeartbeats 400000 in
theorem ToHalf_nan (b s : Nat) (hb : b < 18446744073709551616) (w : World) (hT : Tab w) (es : (b : Int) / 9223372036854775808 = s) (hs : s ≤ 1) (h : (cls b == 16) = true) :
    Calls Tryd.prog 24 #[.int .u64 b] w fun e w' => e = .returned (.tuple #[.int .u16 32256, .bool true]) ∧ Below w.heap.size w w' := by
  go_enter Tryd.func24, Tryd.ntmps24
  repeat any_goals (first | (go_at_call 33; refine (parts_any b hb _ hT).mono ?_; rintro e w' ⟨rfl, rfl⟩) | (go_at_call 14; refine (Class_any b hb _ hT).mono ?_; rintro e w1 ⟨rfl, hb1⟩) | go_skip | go_guarded | go_step | go_upon | (dsimp only []))
  go_ret2
  exact ⟨by simp, by (repeat first | with_reducible exact Below.refl _ _ | with_reducible assumption | with_reducible refine Below.drew ?_ | with_reducible refine below_alloc ?_ _ | ((with_reducible refine Below.setCell ?_ ?_ _); rotate_left; (focus (first | with_reducible exact Nat.le_refl _ | (simp; done) | (simp; omega) | omega))) | (with_reducible refine below_trans ?_ (by assumption)))⟩
set_option maxHeartbeats 400000 in
theorem ToHalf_inf (b s V : Nat) (hb : b < 18446744073709551616) (w : World) (hT : Tab w) (es : (b : Int) / 9223372036854775808 = s) (hs : s ≤ 1) (h : (cls b == 16) = false) (hf : fin b = false) (eV : bits BinOp.or IntKind.u16 ((s : Int) * 32768) 31744 = (V : Int)) :
    Calls Tryd.prog 24 #[.int .u64 b] w fun e w' => e = .returned (.tuple #[.int .u16 V, .bool true]) ∧ Below w.heap.size w w' := by
  go_enter Tryd.func24, Tryd.ntmps24
  repeat any_goals (first | (go_at_call 33; refine (parts_any b hb _ hT).mono ?_; rintro e w' ⟨rfl, rfl⟩) | (go_at_call 14; refine (Class_any b hb _ hT).mono ?_; rintro e w1 ⟨rfl, hb1⟩) | go_skip | go_guarded | go_step | go_upon | (dsimp only []))
  go_ret2
  exact ⟨by simp, by (repeat first | with_reducible exact Below.refl _ _ | with_reducible assumption | with_reducible refine Below.drew ?_ | with_reducible refine below_alloc ?_ _ | ((with_reducible refine Below.setCell ?_ ?_ _); rotate_left; (focus (first | with_reducible exact Nat.le_refl _ | (simp; done) | (simp; omega) | omega))) | (with_reducible refine below_trans ?_ (by assumption)))⟩
set_option maxHeartbeats 400000 in
theorem ToHalf_zero (b s : Nat) (hb : b < 18446744073709551616) (w : World) (hT : Tab w) (es : (b : Int) / 9223372036854775808 = s) (hs : s ≤ 1) (h : (cls b == 16) = false) (hf : fin b = true) (h0 : (((pm b : Nat) : Int) == 0) = true) :
    Calls Tryd.prog 24 #[.int .u64 b] w fun e w' => e = .returned (.tuple #[.int .u16 ((s * 32768 : Nat) : Int), .bool true]) ∧ Below w.heap.size w w' := by
  go_enter Tryd.func24, Tryd.ntmps24
  repeat any_goals (first | (go_at_call 33; refine (parts_any b hb _ hT).mono ?_; rintro e w' ⟨rfl, rfl⟩) | (go_at_call 14; refine (Class_any b hb _ hT).mono ?_; rintro e w1 ⟨rfl, hb1⟩) | go_skip | go_guarded | go_step | go_upon | (dsimp only []))
  go_ret2
  exact ⟨by simp, by (repeat first | with_reducible exact Below.refl _ _ | with_reducible assumption | with_reducible refine Below.drew ?_ | with_reducible refine below_alloc ?_ _ | ((with_reducible refine Below.setCell ?_ ?_ _); rotate_left; (focus (first | with_reducible exact Nat.le_refl _ | (simp; done) | (simp; omega) | omega))) | (with_reducible refine below_trans ?_ (by assumption)))⟩
set_option maxHeartbeats 400000 in
theorem ToHalf_no (b s : Nat) (hb : b < 18446744073709551616) (w : World) (hT : Tab w) (es : (b : Int) / 9223372036854775808 = s) (hs : s ≤ 1) (h : (cls b == 16) = false) (hf : fin b = true) (h0 : (((pm b : Nat) : Int) == 0) = false)
    (hn : 15 < (bl (pm b) : Int) + pk b - 1 ∨ ((bl (pm b) : Int) + pk b - 1 ≤ 15 ∧ pk b < -24) ∨ ((bl (pm b) : Int) + pk b - 1 ≤ 15 ∧ -24 ≤ pk b ∧ 11 < (bl (pm b) : Int))) :
    Calls Tryd.prog 24 #[.int .u64 b] w fun e w' => e = .returned (.tuple #[.int .u16 0, .bool false]) ∧ Below w.heap.size w w' := by
  have hm := pm_lt b
  have hbl : bl (pm b) ≤ 53 := (bl_le_iff _ 53).2 (by omega)
  have hk := pk_le b
  rcases hn with hn | ⟨hn1, hn2⟩ | ⟨hn1, hn2, hn3⟩
  · go_enter Tryd.func24, Tryd.ntmps24
    repeat any_goals (first | (go_at_call 33; refine (parts_any b hb _ hT).mono ?_; rintro e w' ⟨rfl, rfl⟩) | (go_at_call 14; refine (Class_any b hb _ hT).mono ?_; rintro e w1 ⟨rfl, hb1⟩) | (go_at_call 45; refine (Len64_fl (pm b) (by omega) _).mono ?_; rintro e w' ⟨rfl, rfl⟩) | go_skip | go_guarded | go_step | go_upon | (dsimp only []))
    go_ret2
    exact ⟨by simp, by (repeat first | with_reducible exact Below.refl _ _ | with_reducible assumption | with_reducible refine Below.drew ?_ | with_reducible refine below_alloc ?_ _ | ((with_reducible refine Below.setCell ?_ ?_ _); rotate_left; (focus (first | with_reducible exact Nat.le_refl _ | (simp; done) | (simp; omega) | omega))) | (with_reducible refine below_trans ?_ (by assumption)))⟩
  · go_enter Tryd.func24, Tryd.ntmps24
    repeat any_goals (first | (go_at_call 33; refine (parts_any b hb _ hT).mono ?_; rintro e w' ⟨rfl, rfl⟩) | (go_at_call 14; refine (Class_any b hb _ hT).mono ?_; rintro e w1 ⟨rfl, hb1⟩) | (go_at_call 45; refine (Len64_fl (pm b) (by omega) _).mono ?_; rintro e w' ⟨rfl, rfl⟩) | go_skip | go_guarded | go_step | go_upon | (dsimp only []))
    go_ret2
    exact ⟨by simp, by (repeat first | with_reducible exact Below.refl _ _ | with_reducible assumption | with_reducible refine Below.drew ?_ | with_reducible refine below_alloc ?_ _ | ((with_reducible refine Below.setCell ?_ ?_ _); rotate_left; (focus (first | with_reducible exact Nat.le_refl _ | (simp; done) | (simp; omega) | omega))) | (with_reducible refine below_trans ?_ (by assumption)))⟩
  · go_enter Tryd.func24, Tryd.ntmps24
    repeat any_goals (first | (go_at_call 33; refine (parts_any b hb _ hT).mono ?_; rintro e w' ⟨rfl, rfl⟩) | (go_at_call 14; refine (Class_any b hb _ hT).mono ?_; rintro e w1 ⟨rfl, hb1⟩) | (go_at_call 45; refine (Len64_fl (pm b) (by omega) _).mono ?_; rintro e w' ⟨rfl, rfl⟩) | go_skip | go_guarded | go_step | go_upon | (dsimp only []))
    go_ret2
    exact ⟨by simp, by (repeat first | with_reducible exact Below.refl _ _ | with_reducible assumption | with_reducible refine Below.drew ?_ | with_reducible refine below_alloc ?_ _ | ((with_reducible refine Below.setCell ?_ ?_ _); rotate_left; (focus (first | with_reducible exact Nat.le_refl _ | (simp; done) | (simp; omega) | omega))) | (with_reducible refine below_trans ?_ (by assumption)))⟩
set_option maxHeartbeats 400000 in
theorem ToHalf_sub (b s V : Nat) (hb : b < 18446744073709551616) (w : World) (hT : Tab w) (es : (b : Int) / 9223372036854775808 = s) (hs : s ≤ 1) (h : (cls b == 16) = false) (hf : fin b = true) (h0 : (((pm b : Nat) : Int) == 0) = false)
    (hn1 : (bl (pm b) : Int) + pk b - 1 < -14) (hn2 : -24 ≤ pk b) (hn3 : (bl (pm b) : Int) ≤ 11) (eV : bits BinOp.or IntKind.u16 ((s : Int) * 32768) (IntKind.u16.wrap (IntKind.u64.wrap ((pm b : Int) * 2 ^ (pk b + 24).toNat))) = (V : Int)) :
    Calls Tryd.prog 24 #[.int .u64 b] w fun e w' => e = .returned (.tuple #[.int .u16 V, .bool true]) ∧ Below w.heap.size w w' := by
  have hm := pm_lt b
  have hk := pk_le b
  go_enter Tryd.func24, Tryd.ntmps24
  repeat any_goals (first | (go_at_call 33; refine (parts_any b hb _ hT).mono ?_; rintro e w' ⟨rfl, rfl⟩) | (go_at_call 14; refine (Class_any b hb _ hT).mono ?_; rintro e w1 ⟨rfl, hb1⟩) | (go_at_call 45; refine (Len64_fl (pm b) (by omega) _).mono ?_; rintro e w' ⟨rfl, rfl⟩) | go_skip | go_guarded | go_step | go_upon | (dsimp only []))
  go_ret2
  exact ⟨by simp, by (repeat first | with_reducible exact Below.refl _ _ | with_reducible assumption | with_reducible refine Below.drew ?_ | with_reducible refine below_alloc ?_ _ | ((with_reducible refine Below.setCell ?_ ?_ _); rotate_left; (focus (first | with_reducible exact Nat.le_refl _ | (simp; done) | (simp; omega) | omega))) | (with_reducible refine below_trans ?_ (by assumption)))⟩
set_option maxHeartbeats 400000 in
theorem ToHalf_norm (b s V : Nat) (hb : b < 18446744073709551616) (w : World) (hT : Tab w) (es : (b : Int) / 9223372036854775808 = s) (hs : s ≤ 1) (h : (cls b == 16) = false) (hf : fin b = true) (h0 : (((pm b : Nat) : Int) == 0) = false)
    (hn0 : -14 ≤ (bl (pm b) : Int) + pk b - 1) (hn1 : (bl (pm b) : Int) + pk b - 1 ≤ 15) (hn2 : -24 ≤ pk b) (hn3 : (bl (pm b) : Int) ≤ 11)
    (eV : bits BinOp.or IntKind.u16 (bits BinOp.or IntKind.u16 ((s : Int) * 32768) (((bl (pm b) : Int) + pk b - 1 + 15) * 1024)) (bits BinOp.and IntKind.u16 (IntKind.u16.wrap (IntKind.u64.wrap ((pm b : Int) * 2 ^ (11 - bl (pm b))))) 1023) = (V : Int)) :
    Calls Tryd.prog 24 #[.int .u64 b] w fun e w' => e = .returned (.tuple #[.int .u16 V, .bool true]) ∧ Below w.heap.size w w' := by
  have hm := pm_lt b
  have hk := pk_le b
  go_enter Tryd.func24, Tryd.ntmps24
  repeat any_goals (first | (go_at_call 33; refine (parts_any b hb _ hT).mono ?_; rintro e w' ⟨rfl, rfl⟩) | (go_at_call 14; refine (Class_any b hb _ hT).mono ?_; rintro e w1 ⟨rfl, hb1⟩) | (go_at_call 45; refine (Len64_fl (pm b) (by omega) _).mono ?_; rintro e w' ⟨rfl, rfl⟩) | go_skip | go_guarded | go_step | go_upon | (dsimp only []))
  go_ret2
  exact ⟨by simp, by (repeat first | with_reducible exact Below.refl _ _ | with_reducible assumption | with_reducible refine Below.drew ?_ | with_reducible refine below_alloc ?_ _ | ((with_reducible refine Below.setCell ?_ ?_ _); rotate_left; (focus (first | with_reducible exact Nat.le_refl _ | (simp; done) | (simp; omega) | omega))) | (with_reducible refine below_trans ?_ (by assumption)))⟩
/-! ### the terms -/
theorem wrap16_nat (M : Nat) (h : M < 65536) : IntKind.u16.wrap (IntKind.u64.wrap (M : Int)) = (M : Int) := by
  simp only [IntKind.wrap, IntKind.bits, IntKind.signed]
  simp
  omega
theorem th_sub_eq {s M : Nat} (hs : s ≤ 1) (hM : M < 32768) : bits BinOp.or IntKind.u16 ((s : Int) * 32768) (IntKind.u16.wrap (IntKind.u64.wrap (M : Int))) = ((s * 32768 + M : Nat) : Int) := by
  rw [wrap16_nat M (by omega)]
  have h := u16_or_nat (s * 32768) M (by omega) (by omega)
  rw [nat_join 15 _ M (Nat.mul_mod_left _ _) hM] at h
  rw [← h]
  simp
theorem th_norm_eq {s e P : Nat} (hs : s ≤ 1) (he : e < 32) (hP : P < 65536) : bits BinOp.or IntKind.u16 (bits BinOp.or IntKind.u16 ((s : Int) * 32768) ((e : Int) * 1024)) (bits BinOp.and IntKind.u16 (IntKind.u16.wrap (IntKind.u64.wrap (P : Int))) 1023) = ((s * 32768 + e * 1024 + P % 1024 : Nat) : Int) := by
  rw [wrap16_nat P hP]
  have h1 := u16_and_nat P 1023 hP (by omega)
  rw [nat_mask10] at h1
  have h1' : bits BinOp.and IntKind.u16 (P : Int) 1023 = ((P % 1024 : Nat) : Int) := h1
  rw [h1']
  have h2 := u16_or_nat (s * 32768) (e * 1024) (by omega) (by omega)
  rw [nat_join 15 _ (e * 1024) (Nat.mul_mod_left _ _) (by omega)] at h2
  have h2' : bits BinOp.or IntKind.u16 ((s : Int) * 32768) ((e : Int) * 1024) = ((s * 32768 + e * 1024 : Nat) : Int) := by
    rw [← h2]
    simp
  rw [h2']
  have h3 := u16_or_nat (s * 32768 + e * 1024) (P % 1024) (by omega) (by omega)
  rw [nat_join 10 _ (P % 1024) (by omega) (by omega)] at h3
  exact h3
/-- does a half have p 2^k? -/
def repH (p : Nat) (k : Int) : Bool := p == 0 || (decide (bl p ≤ 11) && decide (-24 ≤ k) && decide (k + bl p ≤ 16))
theorem repH_iff {p : Nat} {k : Int} : repH p k = true ↔ p = 0 ∨ (bl p ≤ 11 ∧ -24 ≤ k ∧ k + bl p ≤ 16) := by
  unfold repH
  simp [and_assoc]
/-- the half of a float, if there is one -/
def thOk (b : Nat) : Bool := fe b == 2047 || repH (pm b) (pk b)
def hlfOf (b : Nat) : Nat := b / 9223372036854775808 * 32768 + encF halfF (pm b) (pk b)
def thV (b : Nat) : Nat := if fe b = 2047 then (if fm b = 0 then b / 9223372036854775808 * 32768 + 31744 else 32256) else if repH (pm b) (pk b) = true then hlfOf b else 0
theorem hlfF : halfF.fractionBits = 10 ∧ halfF.leastPlace = -24 ∧ halfF.binade = 1024 ∧ halfF.infRung = 31744 ∧ halfF.signWeight = 32768 := by decide
theorem s_le {b : Nat} (hb : b < 18446744073709551616) : b / 9223372036854775808 ≤ 1 := by omega
/-- **ToHalf.** -/
theorem ToHalf_any (b : Nat) (hb : b < 18446744073709551616) (w : World) (hT : Tab w) :
    Calls Tryd.prog 24 #[.int .u64 b] w fun e w' => e = .returned (.tuple #[.int .u16 (thV b : Nat), .bool (thOk b)]) ∧ Below w.heap.size w w' := by
  have es : (b : Int) / 9223372036854775808 = ((b / 9223372036854775808 : Nat) : Int) := by omega
  have hs := s_le hb
  obtain ⟨d1, d2, d3, _, _⟩ := hlfF
  by_cases hf : fe b = 2047
  · have ho : thOk b = true := by unfold thOk; rw [hf]; rfl
    rw [ho]
    by_cases hm : fm b = 0
    · have hv : thV b = b / 9223372036854775808 * 32768 + 31744 := by unfold thV; rw [if_pos hf, if_pos hm]
      have h16 := inf_not16 hb hf hm
      rw [hv]
      refine ToHalf_inf b _ _ hb w hT es hs (by simpa using h16) (by unfold fin; simp [hf]) ?_
      have h := u16_or_nat (b / 9223372036854775808 * 32768) 31744 (by omega) (by omega)
      rw [nat_join 15 _ 31744 (Nat.mul_mod_left _ _) (by decide)] at h
      rw [← h]
      simp
    · have hv : thV b = 32256 := by unfold thV; rw [if_pos hf, if_neg hm]
      have h16 := nan_16 hf hm
      rw [hv]
      exact ToHalf_nan b _ hb w hT es hs (by simpa using h16)
  · have h16 : (cls b == 16) = false := by simpa using finite_not16 hf
    have hfin : fin b = true := fin_iff.2 hf
    have h0 : (fe b == 2047) = false := by simpa using hf
    generalize hs' : b / 9223372036854775808 = s at *
    by_cases hz : pm b = 0
    · have ho : thOk b = true := by unfold thOk; rw [h0, repH_iff.2 (.inl hz)]; rfl
      have hv : thV b = s * 32768 := by unfold thV; rw [if_neg hf, if_pos (repH_iff.2 (.inl hz))]; unfold hlfOf; rw [hz, encF_zero, hs']; exact Nat.add_zero _
      rw [ho, hv]
      exact ToHalf_zero b s hb w hT es hs h16 hfin (by rw [hz]; rfl)
    · have hp : 0 < pm b := by omega
      have hzi : (((pm b : Nat) : Int) == 0) = false := by simp; omega
      have hbl := bl_pos hp
      cases hr : repH (pm b) (pk b) with
      | true =>
        have ho : thOk b = true := by unfold thOk; rw [h0, hr]; rfl
        have hv : thV b = s * 32768 + encF halfF (pm b) (pk b) := by unfold thV; rw [if_neg hf, if_pos hr]; unfold hlfOf; rw [hs']
        have hr' := repH_iff.1 hr
        obtain ⟨r1, r2, r3⟩ : bl (pm b) ≤ 11 ∧ -24 ≤ pk b ∧ pk b + bl (pm b) ≤ 16 := by
          rcases hr' with h | h
          · omega
          · exact h
        rw [ho, hv]
        by_cases ht : (bl (pm b) : Int) + pk b - 1 < -14
        · refine ToHalf_sub b s _ hb w hT es hs h16 hfin hzi ht r2 (by omega) ?_
          have e1 := encF_sub halfF hp (k := pk b) (by rw [d1, d2]; omega)
          rw [d2] at e1
          have hM : pm b * 2 ^ (pk b - -24).toNat < 32768 := (bl_le_iff _ 15).1 (by rw [bl_mul_two_pow hp]; omega)
          have e2 := th_sub_eq hs hM
          rw [e1, ← e2]
          have e3 : (pk b + 24).toNat = (pk b - -24).toNat := by omega
          rw [e3]
          simp
        · refine ToHalf_norm b s _ hb w hT es hs h16 hfin hzi (by omega) (by omega) r2 (by omega) ?_
          have e1 := encF_normal halfF hp (k := pk b) (by rw [d1]; omega) (by rw [d1, d2]; omega)
          rw [d1, d2, d3] at e1
          obtain ⟨p1, p2⟩ := top_bits (n := 10) hp (by omega)
          have e4 : (10 + 1 - bl (pm b)) = 11 - bl (pm b) := by omega
          rw [e4] at p1 p2 e1
          generalize hP : pm b * 2 ^ (11 - bl (pm b)) = P at p1 p2 e1
          have e2 := th_norm_eq (s := s) (e := ((bl (pm b) : Int) + pk b - 1 + 15).toNat) (P := P) hs (by omega) (by omega)
          have e5 : ((((bl (pm b) : Int) + pk b - 1 + 15).toNat : Nat) : Int) = (bl (pm b) : Int) + pk b - 1 + 15 := by omega
          rw [e5] at e2
          have e6 : (pm b : Int) * 2 ^ (11 - bl (pm b)) = (P : Int) := by rw [← hP]; simp
          rw [e6, e2, e1]
          omega
      | false =>
        have ho : thOk b = false := by unfold thOk; rw [h0, hr]; rfl
        have hv : thV b = 0 := by unfold thV; rw [if_neg hf, if_neg (by rw [hr]; decide)]
        have hr' : ¬ (bl (pm b) ≤ 11 ∧ -24 ≤ pk b ∧ pk b + bl (pm b) ≤ 16) := fun h => by
          have := repH_iff.2 (.inr h)
          rw [hr] at this
          cases this
        rw [ho, hv]
        exact ToHalf_no b s hb w hT es hs h16 hfin hzi (by clear hb es hs'; omega)
end Go.Proofs.YtpmfnhcnldoelaaDoor
