/- Contracts of the document's digits: Bit, Len, Trail, trim, Small. -/
import Derived.Test.YtbakgmkkebnhkaaDoorMathD
import Derived.Test.YtbakgmkkebnhkaaDoorGen
namespace Go.Proofs.YtbakgmkkebnhkaaDoor
open Go.RowKit
theorem Bit_neg (v : Value) (i : Int) (w : World) (hi : i < 0) :
    Calls Tryd.prog 75 #[v, .int .i64 i] w fun e w' => e = .returned (.bool false) ∧ w = w' := by
  go_enter Tryd.func75, Tryd.ntmps75
  repeat any_goals (first | go_skip | go_guarded | go_step | go_upon | (simp only []; done))
  go_ret
  simp
theorem Bit_above (ao : Option Addr) (n cap i q : Nat) (w : World) (hi : (i : Int) < 9223372036854775808) (_hn : n ≤ 281474976) (eq : (i : Int) / 32 = (q : Int)) (h : ¬ q < n) :
    Calls Tryd.prog 75 #[.slice ao n cap, .int .i64 (i : Int)] w fun e w' => e = .returned (.bool false) ∧ w = w' := by
  go_enter Tryd.func75, Tryd.ntmps75
  repeat any_goals (first | go_skip | go_guarded | go_step | go_upon | (simp only []; done))
  go_ret
  simp
theorem Bit_in (b n cap i q r x y : Nat) (w : World) (hi : (i : Int) < 9223372036854775808) (hn : n ≤ 281474976) (hq : q < n) (eq : (i : Int) / 32 = (q : Int)) (hc : w.cell? ⟨b, q, none⟩ = some (.int .u32 (x : Nat))) (er : (i : Int) % 32 = (r : Int)) (ey : bits BinOp.and IntKind.u32 ((x : Int) / 2 ^ r) 1 = (y : Int)) :
    Calls Tryd.prog 75 #[.slice (some ⟨b, 0, none⟩) n cap, .int .i64 (i : Int)] w fun e w' => e = .returned (.bool ((y : Int) == 1)) ∧ w = w' := by
  go_enter Tryd.func75, Tryd.ntmps75
  repeat any_goals (first | go_skip | go_guarded | go_step | go_upon | (simp only []; done))
  go_ret
  simp
/-- a number's bit -/
def bitI (V : Nat) (i : Int) : Bool := decide (0 ≤ i) && (V / 2 ^ i.toNat % 2 == 1)
/-- **Bit.** -/
theorem Bit_any (v : Value) (n V : Nat) (i : Int) (w : World) (h : DN w v n V) (h1 : -9223372036854775808 ≤ i) (h2 : i < 9223372036854775808) :
    Calls Tryd.prog 75 #[v, .int .i64 i] w fun e w' => e = .returned (.bool (bitI V i)) ∧ w = w' := by
  obtain ⟨hV, hn, ao, cap, rfl, hcap, _, hc⟩ := h
  by_cases h0 : i < 0
  · have e : bitI V i = false := by unfold bitI; rw [decide_eq_false (by omega)]; rfl
    rw [e]
    exact Bit_neg _ i w h0
  · obtain ⟨k, rfl⟩ : ∃ k : Nat, i = k := ⟨i.toNat, by omega⟩
    have eq : (k : Int) / 32 = ((k / 32 : Nat) : Int) := by omega
    by_cases hq : k / 32 < n
    · obtain ⟨b, rfl, _, hcell⟩ := hc (by omega)
      have er : (k : Int) % 32 = ((k % 32 : Nat) : Int) := by omega
      have hx := dig_lt V (k / 32)
      have hb : dig V (k / 32) / 2 ^ (k % 32) < 4294967296 := Nat.lt_of_le_of_lt (Nat.div_le_self _ _) hx
      have ey : bits BinOp.and IntKind.u32 (((dig V (k / 32) : Nat) : Int) / 2 ^ (k % 32)) 1 = ((V / 2 ^ k % 2 : Nat) : Int) := by
        have e := u32_and_nat (dig V (k / 32) / 2 ^ (k % 32)) 1 hb (by decide)
        rw [Nat.and_one_is_mod, dig_bit] at e
        rw [show (((dig V (k / 32) : Nat) : Int) / 2 ^ (k % 32)) = ((dig V (k / 32) / 2 ^ (k % 32) : Nat) : Int) from by simp]
        exact e
      have hh := Bit_in b n cap k (k / 32) (k % 32) (dig V (k / 32)) (V / 2 ^ k % 2) w h2 hn hq eq (hcell _ hq) er ey
      have e : bitI V (k : Int) = (((V / 2 ^ k % 2 : Nat) : Int) == 1) := by
        unfold bitI
        rw [decide_eq_true (by omega), Bool.true_and, show ((k : Int)).toNat = k from rfl]
        have h2 : V / 2 ^ k % 2 < 2 := Nat.mod_lt _ (by decide)
        generalize V / 2 ^ k % 2 = z at *
        rcases (show z = 0 ∨ z = 1 by omega) with rfl | rfl <;> rfl
      rw [e]
      exact hh
    · have e : bitI V (k : Int) = false := by
        unfold bitI
        have hlt : V < 2 ^ k := Nat.lt_of_lt_of_le hV (Nat.pow_le_pow_right (by decide) (by omega))
        rw [show ((k : Int)).toNat = k from rfl, Nat.div_eq_of_lt hlt]
        simp
      rw [e]
      exact Bit_above ao n cap k (k / 32) w h2 hn eq (by omega)
theorem bitI_top {V : Nat} (h : 0 < V) {k : Int} (hk : k = (bl V : Int) - 1) : bitI V k = true := by
  have hb := bl_pos h
  unfold bitI
  rw [hk, decide_eq_true (by omega), show ((bl V : Int) - 1).toNat = bl V - 1 from by omega, bit_of_bl h]
  rfl
theorem bitI_above {V : Nat} {k : Int} (hk : (bl V : Int) ≤ k) : bitI V k = false := by
  unfold bitI
  rw [bit_zero_above (by omega)]
  simp
theorem bitI_tz {V : Nat} (h : 0 < V) : bitI V ((tz V : Nat) : Int) = true := by
  unfold bitI
  rw [Int.toNat_natCast, bit_tz h, decide_eq_true (by omega)]
  rfl
theorem bitI_below {V k : Nat} (h : 0 < V) (hk : k < tz V) : bitI V (k : Int) = false := by
  unfold bitI
  rw [Int.toNat_natCast, bit_below_tz h hk, decide_eq_true (by omega)]
  rfl
/-- **Len.** -/
theorem DLen_any (v : Value) (n V : Nat) (w : World) (h : DN w v n V) :
    Calls Tryd.prog 51 #[v] w fun e w' => e = .returned (.int .i64 (bl V : Nat)) ∧ w = w' := by
  have h' := h
  have hbl := (bl_le_iff V (32 * n)).2 h.1
  obtain ⟨hV, hn, ao, cap, rfl, hcap, hcm, _⟩ := h'
  have H := Lib.hid h
  clear h hV
  go_enter Tryd.func51, Tryd.ntmps51
  repeat any_goals (first | go_skip | go_guarded | go_step | go_upon | (simp only []; done))
  go_loop [3] (fun i => ∃ k : Nat, k ≤ 32 * n ∧ bl V ≤ k ∧ i = .int .i64 k) (fun i => (intOf i).toNat)
  case atStart => exact ⟨32 * n, by omega, by omega, by go_num⟩
  case round =>
    obtain ⟨k, hk, hb, rfl⟩ := hrel
    repeat any_goals (first | (go_at_call 75; refine (Bit_any _ _ _ _ _ H.out (by omega) (by omega)).mono ?_; rintro e w' ⟨rfl, rfl⟩) | go_skip | go_guarded | go_step | go_upon | (dsimp only []))
    · have h1 : (!bitI V ((k : Int) - 1)) = true := by assumption
      have h0 : 0 < k := by assumption
      go_round
      case rel =>
        refine ⟨k - 1, by omega, ?_, by go_num⟩
        rcases Nat.lt_or_ge (bl V) k with h2 | h2
        · omega
        · have hp : 0 < V := by
            rcases Nat.eq_zero_or_pos V with h3 | h3
            · subst h3; rw [bl_zero] at h2; omega
            · exact h3
          rw [bitI_top hp (by omega)] at h1
          cases h1
      case measure => simp [intOf]; omega
    · have h1 : (!bitI V ((k : Int) - 1)) = false := by assumption
      have h0 : 0 < k := by assumption
      have he : bl V = k := by
        rcases Nat.lt_or_ge (bl V) k with h2 | h2
        · rw [bitI_above (by omega)] at h1
          cases h1
        · omega
      go_ret
      simp [he]
    · have h0 : ¬ 0 < k := by assumption
      have he : bl V = k := by omega
      go_ret
      simp [he]
/-- **Trail.** -/
theorem DTrail_any (v : Value) (n V : Nat) (w : World) (h : DN w v n V) :
    Calls Tryd.prog 60 #[v] w fun e w' => e = .returned (.int .i64 (if V = 0 then 256 else tz V : Nat)) ∧ w = w' := by
  have hn := h.2.1
  have hbl := (bl_le_iff V (32 * n)).2 h.1
  have H := Lib.hid h
  clear h
  by_cases c : V = 0
  · subst c
    rw [if_pos rfl]
    go_enter Tryd.func60, Tryd.ntmps60
    repeat any_goals (first | (go_at_call 51; refine (DLen_any _ _ _ _ H.out).mono ?_; rintro e w' ⟨rfl, rfl⟩) | go_skip | go_guarded | go_step | go_upon | (dsimp only []))
    go_ret
    simp
  · rw [if_neg c]
    have hp : 0 < V := by omega
    have hlt := tz_lt_bl hp
    have hb0 : (((bl V : Nat) : Int) == 0) = false := by simp; omega
    go_enter Tryd.func60, Tryd.ntmps60
    repeat any_goals (first | (go_at_call 51; refine (DLen_any _ _ _ _ H.out).mono ?_; rintro e w' ⟨rfl, rfl⟩) | go_skip | go_guarded | go_step | go_upon | (dsimp only []))
    go_loop [3] (fun i => ∃ k : Nat, k ≤ tz V ∧ i = .int .i64 k) (fun i => tz V - (intOf i).toNat)
    case atStart => exact ⟨0, by omega, by go_num⟩
    case round =>
      obtain ⟨k, hk, rfl⟩ := hrel
      have hk2 : k ≤ 9007199232 := by omega
      have K := Lib.hid hk
      clear hk hlt hbl hn
      repeat any_goals (first | (go_at_call 75; refine (Bit_any _ _ _ _ _ H.out (by omega) (by omega)).mono ?_; rintro e w' ⟨rfl, rfl⟩) | go_skip | go_guarded | go_step | go_upon | (dsimp only []))
      all_goals have hk := K.out
      · have h1 : (!bitI V (k : Int)) = true := by assumption
        go_round
        case rel =>
          refine ⟨k + 1, ?_, by go_num⟩
          rcases Nat.lt_or_ge k (tz V) with h2 | h2
          · omega
          · have : k = tz V := by omega
            subst this
            rw [bitI_tz hp] at h1
            cases h1
        case measure =>
          simp [intOf]
          rcases Nat.lt_or_ge k (tz V) with h2 | h2
          · omega
          · have : k = tz V := by omega
            subst this
            rw [bitI_tz hp] at h1
            cases h1
      · have h1 : (!bitI V (k : Int)) = false := by assumption
        have he : tz V = k := by
          rcases Nat.lt_or_ge k (tz V) with h2 | h2
          · rw [bitI_below hp h2] at h1
            cases h1
          · omega
        go_ret
        simp [he]
/-- **trim**: what comes back is the number in every world in which what goes in is. -/
theorem trim_all (v : Value) (n V : Nat) (w : World) (h : DN w v n V) :
    Calls Tryd.prog 69 #[v] w fun e w' => (∃ v', e = .returned v' ∧ ∀ w0, DN w0 v n V → IsD w0 v' V) ∧ w = w' := by
  have hd := (dl_le_iff V n).2 h.1
  obtain ⟨hV, hn, ao, cap, rfl, hcap, hcm, hc⟩ := h
  rcases Nat.eq_zero_or_pos n with c | c
  · subst c
    have hV0 : V = 0 := by simpa using hV
    have R : ∀ w0, DN w0 (.slice ao 0 cap) 0 V → IsD w0 (.slice ao 0 cap) V := by
      intro w0 _
      subst hV0
      exact ⟨by decide, by decide, ao, cap, rfl, Nat.zero_le _, hcm, fun h => absurd h (by decide)⟩
    clear hV hc
    go_enter Tryd.func69, Tryd.ntmps69
    repeat any_goals (first | go_skip | go_guarded | go_step | go_upon | (simp only []; done))
    go_loop [3] (fun i => i = .int .i64 0) (fun i => (intOf i).toNat)
    case atStart => rfl
    case round =>
      subst hrel
      repeat any_goals (first | go_skip | go_guarded | go_step | go_upon | (simp only []; done))
      go_ret
      exact ⟨⟨_, rfl, R⟩, rfl⟩
  · obtain ⟨b, rfl, _, hcell⟩ := hc c
    clear hc
    have R : ∀ k, dl V = k → k ≤ n → ∀ w0, DN w0 (.slice (some ⟨b, 0, none⟩) n cap) n V → IsD w0 (.slice (some ⟨b, 0, none⟩) k cap) V := by
      intro k h1 h2 w0 h0
      subst h1
      obtain ⟨_, _, ao0, cap0, he, _, _, hc0⟩ := h0
      obtain ⟨b0, hb0, hb1, hcell0⟩ := hc0 c
      simp only [Value.slice.injEq] at he
      obtain ⟨he1, _, _⟩ := he
      rw [← he1] at hb0
      simp only [Option.some.injEq, Addr.mk.injEq] at hb0
      obtain ⟨rfl, _, _⟩ := hb0
      exact ⟨dl_lt V, by omega, _, cap, rfl, by omega, hcm, fun _ => ⟨b, rfl, hb1, fun j hj => hcell0 j (by omega)⟩⟩
    have RH := Lib.hid R
    have VH := Lib.hid hV
    clear R hV
    go_enter Tryd.func69, Tryd.ntmps69
    repeat any_goals (first | go_skip | go_guarded | go_step | go_upon | (simp only []; done))
    go_loop [3] (fun i => ∃ k : Nat, k ≤ n ∧ dl V ≤ k ∧ i = .int .i64 k) (fun i => (intOf i).toNat)
    case atStart => exact ⟨n, by omega, hd, by go_num⟩
    case round =>
      obtain ⟨k, hk, hk2, rfl⟩ := hrel
      have hcell2 : 0 < k → w.cell? ⟨b, k - 1, none⟩ = some (.int .u32 (dig V (k - 1) : Nat)) := fun _ => hcell _ (by omega)
      repeat any_goals (first | go_skip | go_guarded | go_step | go_upon | (simp only []; done))
      · have h0 : 0 < k := by assumption
        have h1 : (((dig V (k - 1) : Nat) : Int) == 0) = true := by assumption
        have h2 : dig V (k - 1) = 0 := by simpa using h1
        go_round
        case rel =>
          refine ⟨k - 1, by omega, ?_, by go_num⟩
          have h3 := (dl_le_iff V k).1 hk2
          rw [show k = (k - 1) + 1 from by omega] at h3
          exact (dl_le_iff V (k - 1)).2 (lt_of_dig_zero h3 h2)
        case measure => simp [intOf]; omega
      · have h0 : 0 < k := by assumption
        have h1 : (((dig V (k - 1) : Nat) : Int) == 0) = false := by assumption
        have h2 : dig V (k - 1) ≠ 0 := by simpa using h1
        have h3 := (dl_le_iff V k).1 hk2
        rw [show k = (k - 1) + 1 from by omega] at h3
        have he := dl_eq h3 h2
        go_ret
        exact ⟨⟨_, rfl, RH.out k (by omega) hk⟩, rfl⟩
      · have h0 : ¬ 0 < k := by assumption
        go_ret
        exact ⟨⟨_, rfl, RH.out k (by omega) hk⟩, rfl⟩
/-- **trim.** -/
theorem trim_any (v : Value) (n V : Nat) (w : World) (h : DN w v n V) :
    Calls Tryd.prog 69 #[v] w fun e w' => (∃ v', e = .returned v' ∧ IsD w v' V) ∧ w = w' :=
  (trim_all v n V w h).mono fun _ _ ⟨⟨v', h1, h2⟩, h3⟩ => ⟨⟨v', h1, h2 w h⟩, h3⟩
/-- a number of two digits in a new block -/
theorem DN_two {w : World} {x lo hi b : Nat} (hx : x < 18446744073709551616) (hlo : lo = x % 4294967296) (hhi : hi = x / 4294967296) (hb : b < w.heap.size) (c0 : w.cell? ⟨b, 0, none⟩ = some (.int .u32 (lo : Nat))) (c1 : w.cell? ⟨b, 1, none⟩ = some (.int .u32 (hi : Nat))) :
    DN w (.slice (some ⟨b, 0, none⟩) 2 2) 2 x := by
  refine ⟨hx, by decide, _, 2, rfl, Nat.le_refl _, by decide, fun _ => ⟨b, rfl, hb, fun j hj => ?_⟩⟩
  subst hlo hhi
  match j, hj with
  | 0, _ => rw [c0]; unfold dig; simp
  | 1, _ => rw [c1]; unfold dig; simp; omega
/-- **Small.** -/
theorem Small_any (x : Nat) (hx : x < 18446744073709551616) (w : World) :
    Calls Tryd.prog 81 #[.int .u64 (x : Int)] w fun e w' => ∃ v, e = .returned v ∧ IsD w' v x ∧ Below w.heap.size w w' := by
  obtain ⟨lo, hlo⟩ : ∃ lo, lo = x % 4294967296 := ⟨_, rfl⟩
  obtain ⟨hi, hhi⟩ : ∃ hi, hi = x / 4294967296 := ⟨_, rfl⟩
  have e1 : (x : Int) % 4294967296 = (lo : Int) := by omega
  have e2 : (x : Int) / 4294967296 = (hi : Int) := by omega
  have D := @DN_two (w.alloc (Obj.cells #[.int .u32 (lo : Int), .int .u32 (hi : Int)] 64)) x lo hi w.heap.size hx hlo hhi (by simp) (by simp [go_sem]) (by simp [go_sem])
  have H := Lib.hid D
  clear D hlo hhi
  go_enter Tryd.func81, Tryd.ntmps81
  repeat any_goals (first | (go_at_call 69; refine (trim_any _ _ _ _ H.out).mono ?_; rintro e w' ⟨⟨v, rfl, hv⟩, rfl⟩) | go_skip | go_guarded | go_step | go_upon | (dsimp only []))
  go_ret
  exact ⟨v, rfl, hv, by (repeat first | with_reducible exact Below.refl _ _ | with_reducible assumption | with_reducible refine Below.drew ?_ | with_reducible refine below_alloc ?_ _ | ((with_reducible refine Below.setCell ?_ ?_ _); rotate_left; (focus (first | with_reducible exact Nat.le_refl _ | (simp; done) | (simp; omega) | omega))) | (with_reducible refine below_trans ?_ (by assumption)))⟩
end Go.Proofs.YtbakgmkkebnhkaaDoor
